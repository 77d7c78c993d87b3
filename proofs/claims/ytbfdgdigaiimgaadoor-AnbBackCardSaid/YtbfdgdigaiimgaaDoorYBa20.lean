/- Cases of fleuronlaw5.AnbBack: the runs of some shapes. -/
import Derived.Test.YtbfdgdigaiimgaaDoorYV0
namespace Go.Proofs.YtbfdgdigaiimgaaDoor.HM
open Go Go.RowKit
theorem b_1_20 : R7 1 20 = true := by kernel_rfl
theorem b_3_5 : R7 3 5 = true := by kernel_rfl
theorem b_4_10 : R7 4 10 = true := by kernel_rfl
theorem b_5_15 : R7 5 15 = true := by kernel_rfl
theorem b_6_20 : R7 6 20 = true := by kernel_rfl
theorem b_8_5 : R7 8 5 = true := by kernel_rfl
theorem b_9_10 : R7 9 10 = true := by kernel_rfl
theorem b_10_15 : R7 10 15 = true := by kernel_rfl
theorem b_11_20 : R7 11 20 = true := by kernel_rfl
theorem b_13_5 : R7 13 5 = true := by kernel_rfl
theorem b_14_10 : R7 14 10 = true := by kernel_rfl
theorem b_15_15 : R7 15 15 = true := by kernel_rfl
theorem b_16_20 : R7 16 20 = true := by kernel_rfl
theorem b_18_5 : R7 18 5 = true := by kernel_rfl
theorem b_19_10 : R7 19 10 = true := by kernel_rfl
theorem b_20_15 : R7 20 15 = true := by kernel_rfl
end Go.Proofs.YtbfdgdigaiimgaaDoor.HM
