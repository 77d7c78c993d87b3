/- Cases of fleuronlaw5.AnbBack: the runs of some shapes. -/
import Derived.Test.YtbfdgdigaiimgaaDoorYV0
namespace Go.Proofs.YtbfdgdigaiimgaaDoor.HM
open Go Go.RowKit
theorem b_1_7 : R7 1 7 = true := by kernel_rfl
theorem b_2_12 : R7 2 12 = true := by kernel_rfl
theorem b_3_17 : R7 3 17 = true := by kernel_rfl
theorem b_5_2 : R7 5 2 = true := by kernel_rfl
theorem b_6_7 : R7 6 7 = true := by kernel_rfl
theorem b_7_12 : R7 7 12 = true := by kernel_rfl
theorem b_8_17 : R7 8 17 = true := by kernel_rfl
theorem b_10_2 : R7 10 2 = true := by kernel_rfl
theorem b_11_7 : R7 11 7 = true := by kernel_rfl
theorem b_12_12 : R7 12 12 = true := by kernel_rfl
theorem b_13_17 : R7 13 17 = true := by kernel_rfl
theorem b_15_2 : R7 15 2 = true := by kernel_rfl
theorem b_16_7 : R7 16 7 = true := by kernel_rfl
theorem b_17_12 : R7 17 12 = true := by kernel_rfl
theorem b_18_17 : R7 18 17 = true := by kernel_rfl
theorem b_20_2 : R7 20 2 = true := by kernel_rfl
end Go.Proofs.YtbfdgdigaiimgaaDoor.HM
