/- Cases of fleuronlaw5.AnbBack: the runs of some shapes. -/
import Derived.Test.YtbfdgdigaiimgaaDoorYV0
namespace Go.Proofs.YtbfdgdigaiimgaaDoor.HM
open Go Go.RowKit
theorem b_2_5 : R7 2 5 = true := by kernel_rfl
theorem b_3_10 : R7 3 10 = true := by kernel_rfl
theorem b_4_15 : R7 4 15 = true := by kernel_rfl
theorem b_5_20 : R7 5 20 = true := by kernel_rfl
theorem b_7_5 : R7 7 5 = true := by kernel_rfl
theorem b_8_10 : R7 8 10 = true := by kernel_rfl
theorem b_9_15 : R7 9 15 = true := by kernel_rfl
theorem b_10_20 : R7 10 20 = true := by kernel_rfl
theorem b_12_5 : R7 12 5 = true := by kernel_rfl
theorem b_13_10 : R7 13 10 = true := by kernel_rfl
theorem b_14_15 : R7 14 15 = true := by kernel_rfl
theorem b_15_20 : R7 15 20 = true := by kernel_rfl
theorem b_17_5 : R7 17 5 = true := by kernel_rfl
theorem b_18_10 : R7 18 10 = true := by kernel_rfl
theorem b_19_15 : R7 19 15 = true := by kernel_rfl
theorem b_20_20 : R7 20 20 = true := by kernel_rfl
end Go.Proofs.YtbfdgdigaiimgaaDoor.HM
