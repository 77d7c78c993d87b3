/- Cases of fleuronlaw5.AnbBack: the runs of some shapes. -/
import Derived.Test.YtbfdgdigaiimgaaDoorYV0
namespace Go.Proofs.YtbfdgdigaiimgaaDoor.HM
open Go Go.RowKit
theorem b_1_6 : R7 1 6 = true := by kernel_rfl
theorem b_2_11 : R7 2 11 = true := by kernel_rfl
theorem b_3_16 : R7 3 16 = true := by kernel_rfl
theorem b_5_1 : R7 5 1 = true := by kernel_rfl
theorem b_6_6 : R7 6 6 = true := by kernel_rfl
theorem b_7_11 : R7 7 11 = true := by kernel_rfl
theorem b_8_16 : R7 8 16 = true := by kernel_rfl
theorem b_10_1 : R7 10 1 = true := by kernel_rfl
theorem b_11_6 : R7 11 6 = true := by kernel_rfl
theorem b_12_11 : R7 12 11 = true := by kernel_rfl
theorem b_13_16 : R7 13 16 = true := by kernel_rfl
theorem b_15_1 : R7 15 1 = true := by kernel_rfl
theorem b_16_6 : R7 16 6 = true := by kernel_rfl
theorem b_17_11 : R7 17 11 = true := by kernel_rfl
theorem b_18_16 : R7 18 16 = true := by kernel_rfl
theorem b_20_1 : R7 20 1 = true := by kernel_rfl
end Go.Proofs.YtbfdgdigaiimgaaDoor.HM
