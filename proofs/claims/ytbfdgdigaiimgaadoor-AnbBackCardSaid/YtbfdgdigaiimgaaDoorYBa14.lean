/- Cases of fleuronlaw5.AnbBack: the runs of some shapes. -/
import Derived.Test.YtbfdgdigaiimgaaDoorYV0
namespace Go.Proofs.YtbfdgdigaiimgaaDoor.HM
open Go Go.RowKit
theorem b_1_14 : R7 1 14 = true := by kernel_rfl
theorem b_2_19 : R7 2 19 = true := by kernel_rfl
theorem b_4_4 : R7 4 4 = true := by kernel_rfl
theorem b_5_9 : R7 5 9 = true := by kernel_rfl
theorem b_6_14 : R7 6 14 = true := by kernel_rfl
theorem b_7_19 : R7 7 19 = true := by kernel_rfl
theorem b_9_4 : R7 9 4 = true := by kernel_rfl
theorem b_10_9 : R7 10 9 = true := by kernel_rfl
theorem b_11_14 : R7 11 14 = true := by kernel_rfl
theorem b_12_19 : R7 12 19 = true := by kernel_rfl
theorem b_14_4 : R7 14 4 = true := by kernel_rfl
theorem b_15_9 : R7 15 9 = true := by kernel_rfl
theorem b_16_14 : R7 16 14 = true := by kernel_rfl
theorem b_17_19 : R7 17 19 = true := by kernel_rfl
theorem b_19_4 : R7 19 4 = true := by kernel_rfl
theorem b_20_9 : R7 20 9 = true := by kernel_rfl
end Go.Proofs.YtbfdgdigaiimgaaDoor.HM
