/- Cases of fleuronlaw5.AnbBack: the runs of some shapes. -/
import Derived.Test.YtbfdgdigaiimgaaDoorYV0
namespace Go.Proofs.YtbfdgdigaiimgaaDoor.HM
open Go Go.RowKit
theorem b_2_3 : R7 2 3 = true := by kernel_rfl
theorem b_3_8 : R7 3 8 = true := by kernel_rfl
theorem b_4_13 : R7 4 13 = true := by kernel_rfl
theorem b_5_18 : R7 5 18 = true := by kernel_rfl
theorem b_7_3 : R7 7 3 = true := by kernel_rfl
theorem b_8_8 : R7 8 8 = true := by kernel_rfl
theorem b_9_13 : R7 9 13 = true := by kernel_rfl
theorem b_10_18 : R7 10 18 = true := by kernel_rfl
theorem b_12_3 : R7 12 3 = true := by kernel_rfl
theorem b_13_8 : R7 13 8 = true := by kernel_rfl
theorem b_14_13 : R7 14 13 = true := by kernel_rfl
theorem b_15_18 : R7 15 18 = true := by kernel_rfl
theorem b_17_3 : R7 17 3 = true := by kernel_rfl
theorem b_18_8 : R7 18 8 = true := by kernel_rfl
theorem b_19_13 : R7 19 13 = true := by kernel_rfl
theorem b_20_18 : R7 20 18 = true := by kernel_rfl
end Go.Proofs.YtbfdgdigaiimgaaDoor.HM
