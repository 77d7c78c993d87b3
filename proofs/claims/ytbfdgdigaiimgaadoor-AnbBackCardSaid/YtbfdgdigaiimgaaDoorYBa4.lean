/- Cases of fleuronlaw5.AnbBack: the runs of some shapes. -/
import Derived.Test.YtbfdgdigaiimgaaDoorYV0
namespace Go.Proofs.YtbfdgdigaiimgaaDoor.HM
open Go Go.RowKit
theorem b_1_4 : R7 1 4 = true := by kernel_rfl
theorem b_2_9 : R7 2 9 = true := by kernel_rfl
theorem b_3_14 : R7 3 14 = true := by kernel_rfl
theorem b_4_19 : R7 4 19 = true := by kernel_rfl
theorem b_6_4 : R7 6 4 = true := by kernel_rfl
theorem b_7_9 : R7 7 9 = true := by kernel_rfl
theorem b_8_14 : R7 8 14 = true := by kernel_rfl
theorem b_9_19 : R7 9 19 = true := by kernel_rfl
theorem b_11_4 : R7 11 4 = true := by kernel_rfl
theorem b_12_9 : R7 12 9 = true := by kernel_rfl
theorem b_13_14 : R7 13 14 = true := by kernel_rfl
theorem b_14_19 : R7 14 19 = true := by kernel_rfl
theorem b_16_4 : R7 16 4 = true := by kernel_rfl
theorem b_17_9 : R7 17 9 = true := by kernel_rfl
theorem b_18_14 : R7 18 14 = true := by kernel_rfl
theorem b_19_19 : R7 19 19 = true := by kernel_rfl
end Go.Proofs.YtbfdgdigaiimgaaDoor.HM
