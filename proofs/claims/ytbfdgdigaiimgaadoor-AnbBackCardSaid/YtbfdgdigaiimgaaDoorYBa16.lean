/- Cases of fleuronlaw5.AnbBack: the runs of some shapes. -/
import Derived.Test.YtbfdgdigaiimgaaDoorYV0
namespace Go.Proofs.YtbfdgdigaiimgaaDoor.HM
open Go Go.RowKit
theorem b_1_16 : R7 1 16 = true := by kernel_rfl
theorem b_3_1 : R7 3 1 = true := by kernel_rfl
theorem b_4_6 : R7 4 6 = true := by kernel_rfl
theorem b_5_11 : R7 5 11 = true := by kernel_rfl
theorem b_6_16 : R7 6 16 = true := by kernel_rfl
theorem b_8_1 : R7 8 1 = true := by kernel_rfl
theorem b_9_6 : R7 9 6 = true := by kernel_rfl
theorem b_10_11 : R7 10 11 = true := by kernel_rfl
theorem b_11_16 : R7 11 16 = true := by kernel_rfl
theorem b_13_1 : R7 13 1 = true := by kernel_rfl
theorem b_14_6 : R7 14 6 = true := by kernel_rfl
theorem b_15_11 : R7 15 11 = true := by kernel_rfl
theorem b_16_16 : R7 16 16 = true := by kernel_rfl
theorem b_18_1 : R7 18 1 = true := by kernel_rfl
theorem b_19_6 : R7 19 6 = true := by kernel_rfl
theorem b_20_11 : R7 20 11 = true := by kernel_rfl
end Go.Proofs.YtbfdgdigaiimgaaDoor.HM
