/- Cases of fleuronlaw5.AnbBack: the runs of some shapes. -/
import Derived.Test.YtbfdgdigaiimgaaDoorYV0
namespace Go.Proofs.YtbfdgdigaiimgaaDoor.HM
open Go Go.RowKit
theorem b_1_3 : R7 1 3 = true := by kernel_rfl
theorem b_2_8 : R7 2 8 = true := by kernel_rfl
theorem b_3_13 : R7 3 13 = true := by kernel_rfl
theorem b_4_18 : R7 4 18 = true := by kernel_rfl
theorem b_6_3 : R7 6 3 = true := by kernel_rfl
theorem b_7_8 : R7 7 8 = true := by kernel_rfl
theorem b_8_13 : R7 8 13 = true := by kernel_rfl
theorem b_9_18 : R7 9 18 = true := by kernel_rfl
theorem b_11_3 : R7 11 3 = true := by kernel_rfl
theorem b_12_8 : R7 12 8 = true := by kernel_rfl
theorem b_13_13 : R7 13 13 = true := by kernel_rfl
theorem b_14_18 : R7 14 18 = true := by kernel_rfl
theorem b_16_3 : R7 16 3 = true := by kernel_rfl
theorem b_17_8 : R7 17 8 = true := by kernel_rfl
theorem b_18_13 : R7 18 13 = true := by kernel_rfl
theorem b_19_18 : R7 19 18 = true := by kernel_rfl
end Go.Proofs.YtbfdgdigaiimgaaDoor.HM
