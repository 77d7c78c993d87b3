/- Cases of fleuronlaw5.AnbBack: the runs of some shapes. -/
import Derived.Test.YtbfdgdigaiimgaaDoorYV0
namespace Go.Proofs.YtbfdgdigaiimgaaDoor.HM
open Go Go.RowKit
theorem b_2_2 : R7 2 2 = true := by kernel_rfl
theorem b_3_7 : R7 3 7 = true := by kernel_rfl
theorem b_4_12 : R7 4 12 = true := by kernel_rfl
theorem b_5_17 : R7 5 17 = true := by kernel_rfl
theorem b_7_2 : R7 7 2 = true := by kernel_rfl
theorem b_8_7 : R7 8 7 = true := by kernel_rfl
theorem b_9_12 : R7 9 12 = true := by kernel_rfl
theorem b_10_17 : R7 10 17 = true := by kernel_rfl
theorem b_12_2 : R7 12 2 = true := by kernel_rfl
theorem b_13_7 : R7 13 7 = true := by kernel_rfl
theorem b_14_12 : R7 14 12 = true := by kernel_rfl
theorem b_15_17 : R7 15 17 = true := by kernel_rfl
theorem b_17_2 : R7 17 2 = true := by kernel_rfl
theorem b_18_7 : R7 18 7 = true := by kernel_rfl
theorem b_19_12 : R7 19 12 = true := by kernel_rfl
theorem b_20_17 : R7 20 17 = true := by kernel_rfl
end Go.Proofs.YtbfdgdigaiimgaaDoor.HM
