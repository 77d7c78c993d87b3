/- Cases of fleuronlaw5.AnbBack: the runs of some shapes. -/
import Derived.Test.YtbfdgdigaiimgaaDoorYV0
namespace Go.Proofs.YtbfdgdigaiimgaaDoor.HM
open Go Go.RowKit
theorem b_1_15 : R7 1 15 = true := by kernel_rfl
theorem b_2_20 : R7 2 20 = true := by kernel_rfl
theorem b_4_5 : R7 4 5 = true := by kernel_rfl
theorem b_5_10 : R7 5 10 = true := by kernel_rfl
theorem b_6_15 : R7 6 15 = true := by kernel_rfl
theorem b_7_20 : R7 7 20 = true := by kernel_rfl
theorem b_9_5 : R7 9 5 = true := by kernel_rfl
theorem b_10_10 : R7 10 10 = true := by kernel_rfl
theorem b_11_15 : R7 11 15 = true := by kernel_rfl
theorem b_12_20 : R7 12 20 = true := by kernel_rfl
theorem b_14_5 : R7 14 5 = true := by kernel_rfl
theorem b_15_10 : R7 15 10 = true := by kernel_rfl
theorem b_16_15 : R7 16 15 = true := by kernel_rfl
theorem b_17_20 : R7 17 20 = true := by kernel_rfl
theorem b_19_5 : R7 19 5 = true := by kernel_rfl
theorem b_20_10 : R7 20 10 = true := by kernel_rfl
end Go.Proofs.YtbfdgdigaiimgaaDoor.HM
