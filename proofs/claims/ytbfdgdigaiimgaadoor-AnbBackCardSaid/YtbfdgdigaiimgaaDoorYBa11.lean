/- Cases of fleuronlaw5.AnbBack: the runs of some shapes. -/
import Derived.Test.YtbfdgdigaiimgaaDoorYV0
namespace Go.Proofs.YtbfdgdigaiimgaaDoor.HM
open Go Go.RowKit
theorem b_1_11 : R7 1 11 = true := by kernel_rfl
theorem b_2_16 : R7 2 16 = true := by kernel_rfl
theorem b_4_1 : R7 4 1 = true := by kernel_rfl
theorem b_5_6 : R7 5 6 = true := by kernel_rfl
theorem b_6_11 : R7 6 11 = true := by kernel_rfl
theorem b_7_16 : R7 7 16 = true := by kernel_rfl
theorem b_9_1 : R7 9 1 = true := by kernel_rfl
theorem b_10_6 : R7 10 6 = true := by kernel_rfl
theorem b_11_11 : R7 11 11 = true := by kernel_rfl
theorem b_12_16 : R7 12 16 = true := by kernel_rfl
theorem b_14_1 : R7 14 1 = true := by kernel_rfl
theorem b_15_6 : R7 15 6 = true := by kernel_rfl
theorem b_16_11 : R7 16 11 = true := by kernel_rfl
theorem b_17_16 : R7 17 16 = true := by kernel_rfl
theorem b_19_1 : R7 19 1 = true := by kernel_rfl
theorem b_20_6 : R7 20 6 = true := by kernel_rfl
end Go.Proofs.YtbfdgdigaiimgaaDoor.HM
