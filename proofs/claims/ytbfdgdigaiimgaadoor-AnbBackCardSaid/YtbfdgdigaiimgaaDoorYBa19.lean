/- Cases of fleuronlaw5.AnbBack: the runs of some shapes. -/
import Derived.Test.YtbfdgdigaiimgaaDoorYV0
namespace Go.Proofs.YtbfdgdigaiimgaaDoor.HM
open Go Go.RowKit
theorem b_1_19 : R7 1 19 = true := by kernel_rfl
theorem b_3_4 : R7 3 4 = true := by kernel_rfl
theorem b_4_9 : R7 4 9 = true := by kernel_rfl
theorem b_5_14 : R7 5 14 = true := by kernel_rfl
theorem b_6_19 : R7 6 19 = true := by kernel_rfl
theorem b_8_4 : R7 8 4 = true := by kernel_rfl
theorem b_9_9 : R7 9 9 = true := by kernel_rfl
theorem b_10_14 : R7 10 14 = true := by kernel_rfl
theorem b_11_19 : R7 11 19 = true := by kernel_rfl
theorem b_13_4 : R7 13 4 = true := by kernel_rfl
theorem b_14_9 : R7 14 9 = true := by kernel_rfl
theorem b_15_14 : R7 15 14 = true := by kernel_rfl
theorem b_16_19 : R7 16 19 = true := by kernel_rfl
theorem b_18_4 : R7 18 4 = true := by kernel_rfl
theorem b_19_9 : R7 19 9 = true := by kernel_rfl
theorem b_20_14 : R7 20 14 = true := by kernel_rfl
end Go.Proofs.YtbfdgdigaiimgaaDoor.HM
