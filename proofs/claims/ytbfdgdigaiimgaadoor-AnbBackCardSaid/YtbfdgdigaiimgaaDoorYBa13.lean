/- Cases of fleuronlaw5.AnbBack: the runs of some shapes. -/
import Derived.Test.YtbfdgdigaiimgaaDoorYV0
namespace Go.Proofs.YtbfdgdigaiimgaaDoor.HM
open Go Go.RowKit
theorem b_1_13 : R7 1 13 = true := by kernel_rfl
theorem b_2_18 : R7 2 18 = true := by kernel_rfl
theorem b_4_3 : R7 4 3 = true := by kernel_rfl
theorem b_5_8 : R7 5 8 = true := by kernel_rfl
theorem b_6_13 : R7 6 13 = true := by kernel_rfl
theorem b_7_18 : R7 7 18 = true := by kernel_rfl
theorem b_9_3 : R7 9 3 = true := by kernel_rfl
theorem b_10_8 : R7 10 8 = true := by kernel_rfl
theorem b_11_13 : R7 11 13 = true := by kernel_rfl
theorem b_12_18 : R7 12 18 = true := by kernel_rfl
theorem b_14_3 : R7 14 3 = true := by kernel_rfl
theorem b_15_8 : R7 15 8 = true := by kernel_rfl
theorem b_16_13 : R7 16 13 = true := by kernel_rfl
theorem b_17_18 : R7 17 18 = true := by kernel_rfl
theorem b_19_3 : R7 19 3 = true := by kernel_rfl
theorem b_20_8 : R7 20 8 = true := by kernel_rfl
end Go.Proofs.YtbfdgdigaiimgaaDoor.HM
