/- Cases of fleuronlaw5.AnbBack: the runs of some shapes. -/
import Derived.Test.YtbfdgdigaiimgaaDoorYV0
namespace Go.Proofs.YtbfdgdigaiimgaaDoor.HM
open Go Go.RowKit
theorem b_1_17 : R7 1 17 = true := by kernel_rfl
theorem b_3_2 : R7 3 2 = true := by kernel_rfl
theorem b_4_7 : R7 4 7 = true := by kernel_rfl
theorem b_5_12 : R7 5 12 = true := by kernel_rfl
theorem b_6_17 : R7 6 17 = true := by kernel_rfl
theorem b_8_2 : R7 8 2 = true := by kernel_rfl
theorem b_9_7 : R7 9 7 = true := by kernel_rfl
theorem b_10_12 : R7 10 12 = true := by kernel_rfl
theorem b_11_17 : R7 11 17 = true := by kernel_rfl
theorem b_13_2 : R7 13 2 = true := by kernel_rfl
theorem b_14_7 : R7 14 7 = true := by kernel_rfl
theorem b_15_12 : R7 15 12 = true := by kernel_rfl
theorem b_16_17 : R7 16 17 = true := by kernel_rfl
theorem b_18_2 : R7 18 2 = true := by kernel_rfl
theorem b_19_7 : R7 19 7 = true := by kernel_rfl
theorem b_20_12 : R7 20 12 = true := by kernel_rfl
end Go.Proofs.YtbfdgdigaiimgaaDoor.HM
