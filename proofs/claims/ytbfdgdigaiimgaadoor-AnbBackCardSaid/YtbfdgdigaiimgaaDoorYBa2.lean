/- Cases of fleuronlaw5.AnbBack: the runs of some shapes. -/
import Derived.Test.YtbfdgdigaiimgaaDoorYV0
namespace Go.Proofs.YtbfdgdigaiimgaaDoor.HM
open Go Go.RowKit
theorem b_1_2 : R7 1 2 = true := by kernel_rfl
theorem b_2_7 : R7 2 7 = true := by kernel_rfl
theorem b_3_12 : R7 3 12 = true := by kernel_rfl
theorem b_4_17 : R7 4 17 = true := by kernel_rfl
theorem b_6_2 : R7 6 2 = true := by kernel_rfl
theorem b_7_7 : R7 7 7 = true := by kernel_rfl
theorem b_8_12 : R7 8 12 = true := by kernel_rfl
theorem b_9_17 : R7 9 17 = true := by kernel_rfl
theorem b_11_2 : R7 11 2 = true := by kernel_rfl
theorem b_12_7 : R7 12 7 = true := by kernel_rfl
theorem b_13_12 : R7 13 12 = true := by kernel_rfl
theorem b_14_17 : R7 14 17 = true := by kernel_rfl
theorem b_16_2 : R7 16 2 = true := by kernel_rfl
theorem b_17_7 : R7 17 7 = true := by kernel_rfl
theorem b_18_12 : R7 18 12 = true := by kernel_rfl
theorem b_19_17 : R7 19 17 = true := by kernel_rfl
end Go.Proofs.YtbfdgdigaiimgaaDoor.HM
