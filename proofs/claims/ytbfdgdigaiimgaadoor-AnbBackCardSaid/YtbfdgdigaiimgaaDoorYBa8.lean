/- Cases of fleuronlaw5.AnbBack: the runs of some shapes. -/
import Derived.Test.YtbfdgdigaiimgaaDoorYV0
namespace Go.Proofs.YtbfdgdigaiimgaaDoor.HM
open Go Go.RowKit
theorem b_1_8 : R7 1 8 = true := by kernel_rfl
theorem b_2_13 : R7 2 13 = true := by kernel_rfl
theorem b_3_18 : R7 3 18 = true := by kernel_rfl
theorem b_5_3 : R7 5 3 = true := by kernel_rfl
theorem b_6_8 : R7 6 8 = true := by kernel_rfl
theorem b_7_13 : R7 7 13 = true := by kernel_rfl
theorem b_8_18 : R7 8 18 = true := by kernel_rfl
theorem b_10_3 : R7 10 3 = true := by kernel_rfl
theorem b_11_8 : R7 11 8 = true := by kernel_rfl
theorem b_12_13 : R7 12 13 = true := by kernel_rfl
theorem b_13_18 : R7 13 18 = true := by kernel_rfl
theorem b_15_3 : R7 15 3 = true := by kernel_rfl
theorem b_16_8 : R7 16 8 = true := by kernel_rfl
theorem b_17_13 : R7 17 13 = true := by kernel_rfl
theorem b_18_18 : R7 18 18 = true := by kernel_rfl
theorem b_20_3 : R7 20 3 = true := by kernel_rfl
end Go.Proofs.YtbfdgdigaiimgaaDoor.HM
