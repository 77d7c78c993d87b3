/- Cases of fleuronlaw5.AnbBack: the runs of some shapes. -/
import Derived.Test.YtbfdgdigaiimgaaDoorYV0
namespace Go.Proofs.YtbfdgdigaiimgaaDoor.HM
open Go Go.RowKit
theorem b_2_1 : R7 2 1 = true := by kernel_rfl
theorem b_3_6 : R7 3 6 = true := by kernel_rfl
theorem b_4_11 : R7 4 11 = true := by kernel_rfl
theorem b_5_16 : R7 5 16 = true := by kernel_rfl
theorem b_7_1 : R7 7 1 = true := by kernel_rfl
theorem b_8_6 : R7 8 6 = true := by kernel_rfl
theorem b_9_11 : R7 9 11 = true := by kernel_rfl
theorem b_10_16 : R7 10 16 = true := by kernel_rfl
theorem b_12_1 : R7 12 1 = true := by kernel_rfl
theorem b_13_6 : R7 13 6 = true := by kernel_rfl
theorem b_14_11 : R7 14 11 = true := by kernel_rfl
theorem b_15_16 : R7 15 16 = true := by kernel_rfl
theorem b_17_1 : R7 17 1 = true := by kernel_rfl
theorem b_18_6 : R7 18 6 = true := by kernel_rfl
theorem b_19_11 : R7 19 11 = true := by kernel_rfl
theorem b_20_16 : R7 20 16 = true := by kernel_rfl
end Go.Proofs.YtbfdgdigaiimgaaDoor.HM
