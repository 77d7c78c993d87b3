/- Cases of fleuronlaw5.AnbBack: the runs of some shapes. -/
import Derived.Test.YtbfdgdigaiimgaaDoorYV0
namespace Go.Proofs.YtbfdgdigaiimgaaDoor.HM
open Go Go.RowKit
theorem b_1_12 : R7 1 12 = true := by kernel_rfl
theorem b_2_17 : R7 2 17 = true := by kernel_rfl
theorem b_4_2 : R7 4 2 = true := by kernel_rfl
theorem b_5_7 : R7 5 7 = true := by kernel_rfl
theorem b_6_12 : R7 6 12 = true := by kernel_rfl
theorem b_7_17 : R7 7 17 = true := by kernel_rfl
theorem b_9_2 : R7 9 2 = true := by kernel_rfl
theorem b_10_7 : R7 10 7 = true := by kernel_rfl
theorem b_11_12 : R7 11 12 = true := by kernel_rfl
theorem b_12_17 : R7 12 17 = true := by kernel_rfl
theorem b_14_2 : R7 14 2 = true := by kernel_rfl
theorem b_15_7 : R7 15 7 = true := by kernel_rfl
theorem b_16_12 : R7 16 12 = true := by kernel_rfl
theorem b_17_17 : R7 17 17 = true := by kernel_rfl
theorem b_19_2 : R7 19 2 = true := by kernel_rfl
theorem b_20_7 : R7 20 7 = true := by kernel_rfl
end Go.Proofs.YtbfdgdigaiimgaaDoor.HM
