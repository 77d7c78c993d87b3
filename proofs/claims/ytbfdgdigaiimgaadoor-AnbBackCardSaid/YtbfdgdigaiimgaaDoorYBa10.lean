/- Cases of fleuronlaw5.AnbBack: the runs of some shapes. -/
import Derived.Test.YtbfdgdigaiimgaaDoorYV0
namespace Go.Proofs.YtbfdgdigaiimgaaDoor.HM
open Go Go.RowKit
theorem b_1_10 : R7 1 10 = true := by kernel_rfl
theorem b_2_15 : R7 2 15 = true := by kernel_rfl
theorem b_3_20 : R7 3 20 = true := by kernel_rfl
theorem b_5_5 : R7 5 5 = true := by kernel_rfl
theorem b_6_10 : R7 6 10 = true := by kernel_rfl
theorem b_7_15 : R7 7 15 = true := by kernel_rfl
theorem b_8_20 : R7 8 20 = true := by kernel_rfl
theorem b_10_5 : R7 10 5 = true := by kernel_rfl
theorem b_11_10 : R7 11 10 = true := by kernel_rfl
theorem b_12_15 : R7 12 15 = true := by kernel_rfl
theorem b_13_20 : R7 13 20 = true := by kernel_rfl
theorem b_15_5 : R7 15 5 = true := by kernel_rfl
theorem b_16_10 : R7 16 10 = true := by kernel_rfl
theorem b_17_15 : R7 17 15 = true := by kernel_rfl
theorem b_18_20 : R7 18 20 = true := by kernel_rfl
theorem b_20_5 : R7 20 5 = true := by kernel_rfl
end Go.Proofs.YtbfdgdigaiimgaaDoor.HM
