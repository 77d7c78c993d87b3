/- Cases of fleuronlaw5.AnbBack: the runs of some shapes. -/
import Derived.Test.YtbfdgdigaiimgaaDoorYV0
namespace Go.Proofs.YtbfdgdigaiimgaaDoor.HM
open Go Go.RowKit
theorem b_1_5 : R7 1 5 = true := by kernel_rfl
theorem b_2_10 : R7 2 10 = true := by kernel_rfl
theorem b_3_15 : R7 3 15 = true := by kernel_rfl
theorem b_4_20 : R7 4 20 = true := by kernel_rfl
theorem b_6_5 : R7 6 5 = true := by kernel_rfl
theorem b_7_10 : R7 7 10 = true := by kernel_rfl
theorem b_8_15 : R7 8 15 = true := by kernel_rfl
theorem b_9_20 : R7 9 20 = true := by kernel_rfl
theorem b_11_5 : R7 11 5 = true := by kernel_rfl
theorem b_12_10 : R7 12 10 = true := by kernel_rfl
theorem b_13_15 : R7 13 15 = true := by kernel_rfl
theorem b_14_20 : R7 14 20 = true := by kernel_rfl
theorem b_16_5 : R7 16 5 = true := by kernel_rfl
theorem b_17_10 : R7 17 10 = true := by kernel_rfl
theorem b_18_15 : R7 18 15 = true := by kernel_rfl
theorem b_19_20 : R7 19 20 = true := by kernel_rfl
end Go.Proofs.YtbfdgdigaiimgaaDoor.HM
