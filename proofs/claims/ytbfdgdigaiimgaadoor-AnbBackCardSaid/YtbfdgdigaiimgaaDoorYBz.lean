/- Cases of fleuronlaw5.AnbBack where one number is zero. -/
import Derived.Test.YtbfdgdigaiimgaaDoorYV0
namespace Go.Proofs.YtbfdgdigaiimgaaDoor.HM
open Go Go.RowKit
theorem z_0_0 : R0 0 0 = true := by kernel_rfl
theorem z_0_1 : R0 0 1 = true := by kernel_rfl
theorem z_0_2 : R0 0 2 = true := by kernel_rfl
theorem z_0_3 : R0 0 3 = true := by kernel_rfl
theorem z_0_4 : R0 0 4 = true := by kernel_rfl
theorem z_0_5 : R0 0 5 = true := by kernel_rfl
theorem z_0_6 : R0 0 6 = true := by kernel_rfl
theorem z_0_7 : R0 0 7 = true := by kernel_rfl
theorem z_0_8 : R0 0 8 = true := by kernel_rfl
theorem z_0_9 : R0 0 9 = true := by kernel_rfl
theorem z_0_10 : R0 0 10 = true := by kernel_rfl
theorem z_0_11 : R0 0 11 = true := by kernel_rfl
theorem z_0_12 : R0 0 12 = true := by kernel_rfl
theorem z_0_13 : R0 0 13 = true := by kernel_rfl
theorem z_0_14 : R0 0 14 = true := by kernel_rfl
theorem z_0_15 : R0 0 15 = true := by kernel_rfl
theorem z_0_16 : R0 0 16 = true := by kernel_rfl
theorem z_0_17 : R0 0 17 = true := by kernel_rfl
theorem z_0_18 : R0 0 18 = true := by kernel_rfl
theorem z_0_19 : R0 0 19 = true := by kernel_rfl
theorem z_0_20 : R0 0 20 = true := by kernel_rfl
theorem z_1_0 : R0 1 0 = true := by kernel_rfl
theorem z_2_0 : R0 2 0 = true := by kernel_rfl
theorem z_3_0 : R0 3 0 = true := by kernel_rfl
theorem z_4_0 : R0 4 0 = true := by kernel_rfl
theorem z_5_0 : R0 5 0 = true := by kernel_rfl
theorem z_6_0 : R0 6 0 = true := by kernel_rfl
theorem z_7_0 : R0 7 0 = true := by kernel_rfl
theorem z_8_0 : R0 8 0 = true := by kernel_rfl
theorem z_9_0 : R0 9 0 = true := by kernel_rfl
theorem z_10_0 : R0 10 0 = true := by kernel_rfl
theorem z_11_0 : R0 11 0 = true := by kernel_rfl
theorem z_12_0 : R0 12 0 = true := by kernel_rfl
theorem z_13_0 : R0 13 0 = true := by kernel_rfl
theorem z_14_0 : R0 14 0 = true := by kernel_rfl
theorem z_15_0 : R0 15 0 = true := by kernel_rfl
theorem z_16_0 : R0 16 0 = true := by kernel_rfl
theorem z_17_0 : R0 17 0 = true := by kernel_rfl
theorem z_18_0 : R0 18 0 = true := by kernel_rfl
theorem z_19_0 : R0 19 0 = true := by kernel_rfl
theorem z_20_0 : R0 20 0 = true := by kernel_rfl
end Go.Proofs.YtbfdgdigaiimgaaDoor.HM
