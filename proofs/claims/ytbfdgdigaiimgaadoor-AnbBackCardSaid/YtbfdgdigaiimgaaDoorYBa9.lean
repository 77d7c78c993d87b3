/- Cases of fleuronlaw5.AnbBack: the runs of some shapes. -/
import Derived.Test.YtbfdgdigaiimgaaDoorYV0
namespace Go.Proofs.YtbfdgdigaiimgaaDoor.HM
open Go Go.RowKit
theorem b_1_9 : R7 1 9 = true := by kernel_rfl
theorem b_2_14 : R7 2 14 = true := by kernel_rfl
theorem b_3_19 : R7 3 19 = true := by kernel_rfl
theorem b_5_4 : R7 5 4 = true := by kernel_rfl
theorem b_6_9 : R7 6 9 = true := by kernel_rfl
theorem b_7_14 : R7 7 14 = true := by kernel_rfl
theorem b_8_19 : R7 8 19 = true := by kernel_rfl
theorem b_10_4 : R7 10 4 = true := by kernel_rfl
theorem b_11_9 : R7 11 9 = true := by kernel_rfl
theorem b_12_14 : R7 12 14 = true := by kernel_rfl
theorem b_13_19 : R7 13 19 = true := by kernel_rfl
theorem b_15_4 : R7 15 4 = true := by kernel_rfl
theorem b_16_9 : R7 16 9 = true := by kernel_rfl
theorem b_17_14 : R7 17 14 = true := by kernel_rfl
theorem b_18_19 : R7 18 19 = true := by kernel_rfl
theorem b_20_4 : R7 20 4 = true := by kernel_rfl
end Go.Proofs.YtbfdgdigaiimgaaDoor.HM
