/- Cases of fleuronlaw5.AnbBack: the runs of some shapes. -/
import Derived.Test.YtbfdgdigaiimgaaDoorYV0
namespace Go.Proofs.YtbfdgdigaiimgaaDoor.HM
open Go Go.RowKit
theorem b_1_18 : R7 1 18 = true := by kernel_rfl
theorem b_3_3 : R7 3 3 = true := by kernel_rfl
theorem b_4_8 : R7 4 8 = true := by kernel_rfl
theorem b_5_13 : R7 5 13 = true := by kernel_rfl
theorem b_6_18 : R7 6 18 = true := by kernel_rfl
theorem b_8_3 : R7 8 3 = true := by kernel_rfl
theorem b_9_8 : R7 9 8 = true := by kernel_rfl
theorem b_10_13 : R7 10 13 = true := by kernel_rfl
theorem b_11_18 : R7 11 18 = true := by kernel_rfl
theorem b_13_3 : R7 13 3 = true := by kernel_rfl
theorem b_14_8 : R7 14 8 = true := by kernel_rfl
theorem b_15_13 : R7 15 13 = true := by kernel_rfl
theorem b_16_18 : R7 16 18 = true := by kernel_rfl
theorem b_18_3 : R7 18 3 = true := by kernel_rfl
theorem b_19_8 : R7 19 8 = true := by kernel_rfl
theorem b_20_13 : R7 20 13 = true := by kernel_rfl
end Go.Proofs.YtbfdgdigaiimgaaDoor.HM
