/- Cases of fleuronlaw5.AnbBack: the runs of some shapes. -/
import Derived.Test.YtbfdgdigaiimgaaDoorYV0
namespace Go.Proofs.YtbfdgdigaiimgaaDoor.HM
open Go Go.RowKit
theorem b_1_1 : R7 1 1 = true := by kernel_rfl
theorem b_2_6 : R7 2 6 = true := by kernel_rfl
theorem b_3_11 : R7 3 11 = true := by kernel_rfl
theorem b_4_16 : R7 4 16 = true := by kernel_rfl
theorem b_6_1 : R7 6 1 = true := by kernel_rfl
theorem b_7_6 : R7 7 6 = true := by kernel_rfl
theorem b_8_11 : R7 8 11 = true := by kernel_rfl
theorem b_9_16 : R7 9 16 = true := by kernel_rfl
theorem b_11_1 : R7 11 1 = true := by kernel_rfl
theorem b_12_6 : R7 12 6 = true := by kernel_rfl
theorem b_13_11 : R7 13 11 = true := by kernel_rfl
theorem b_14_16 : R7 14 16 = true := by kernel_rfl
theorem b_16_1 : R7 16 1 = true := by kernel_rfl
theorem b_17_6 : R7 17 6 = true := by kernel_rfl
theorem b_18_11 : R7 18 11 = true := by kernel_rfl
theorem b_19_16 : R7 19 16 = true := by kernel_rfl
end Go.Proofs.YtbfdgdigaiimgaaDoor.HM
