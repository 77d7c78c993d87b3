/- Cases of fleuronlaw5.AnbBack: the runs of some shapes. -/
import Derived.Test.YtbfdgdigaiimgaaDoorYV0
namespace Go.Proofs.YtbfdgdigaiimgaaDoor.HM
open Go Go.RowKit
theorem b_2_4 : R7 2 4 = true := by kernel_rfl
theorem b_3_9 : R7 3 9 = true := by kernel_rfl
theorem b_4_14 : R7 4 14 = true := by kernel_rfl
theorem b_5_19 : R7 5 19 = true := by kernel_rfl
theorem b_7_4 : R7 7 4 = true := by kernel_rfl
theorem b_8_9 : R7 8 9 = true := by kernel_rfl
theorem b_9_14 : R7 9 14 = true := by kernel_rfl
theorem b_10_19 : R7 10 19 = true := by kernel_rfl
theorem b_12_4 : R7 12 4 = true := by kernel_rfl
theorem b_13_9 : R7 13 9 = true := by kernel_rfl
theorem b_14_14 : R7 14 14 = true := by kernel_rfl
theorem b_15_19 : R7 15 19 = true := by kernel_rfl
theorem b_17_4 : R7 17 4 = true := by kernel_rfl
theorem b_18_9 : R7 18 9 = true := by kernel_rfl
theorem b_19_14 : R7 19 14 = true := by kernel_rfl
theorem b_20_19 : R7 20 19 = true := by kernel_rfl
end Go.Proofs.YtbfdgdigaiimgaaDoor.HM
