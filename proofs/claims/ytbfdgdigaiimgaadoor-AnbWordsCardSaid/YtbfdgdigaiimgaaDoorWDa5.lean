/- Cases of fleuronlaw5.AnbWords: one run each. -/
import Derived.Test.YtbfdgdigaiimgaaDoorWD0
namespace Go.Proofs.YtbfdgdigaiimgaaDoor.HM
open Go Go.RowKit
theorem wp18_8 : lawRunN 4 [.lin .i64 2147483640 [⟨1, 0, 0, 7⟩], .mod 12 8] = true := by kernel_rfl
theorem wp18_9 : lawRunN 4 [.lin .i64 2147483640 [⟨1, 0, 0, 7⟩], .mod 12 9] = true := by kernel_rfl
theorem wp18_10 : lawRunN 4 [.lin .i64 2147483640 [⟨1, 0, 0, 7⟩], .mod 12 10] = true := by kernel_rfl
theorem wp18_11 : lawRunN 4 [.lin .i64 2147483640 [⟨1, 0, 0, 7⟩], .mod 12 11] = true := by kernel_rfl
theorem wm0_0 : lawRunN 4 [.lin .i64 0 [⟨(-1), 0, 1, 9⟩], .mod 12 0] = true := by kernel_rfl
theorem wm0_1 : lawRunN 4 [.lin .i64 0 [⟨(-1), 0, 1, 9⟩], .mod 12 1] = true := by kernel_rfl
theorem wm0_2 : lawRunN 4 [.lin .i64 0 [⟨(-1), 0, 1, 9⟩], .mod 12 2] = true := by kernel_rfl
theorem wm0_3 : lawRunN 4 [.lin .i64 0 [⟨(-1), 0, 1, 9⟩], .mod 12 3] = true := by kernel_rfl
theorem wm0_4 : lawRunN 4 [.lin .i64 0 [⟨(-1), 0, 1, 9⟩], .mod 12 4] = true := by kernel_rfl
theorem wm0_5 : lawRunN 4 [.lin .i64 0 [⟨(-1), 0, 1, 9⟩], .mod 12 5] = true := by kernel_rfl
theorem wm0_6 : lawRunN 4 [.lin .i64 0 [⟨(-1), 0, 1, 9⟩], .mod 12 6] = true := by kernel_rfl
theorem wm0_7 : lawRunN 4 [.lin .i64 0 [⟨(-1), 0, 1, 9⟩], .mod 12 7] = true := by kernel_rfl
theorem wm0_8 : lawRunN 4 [.lin .i64 0 [⟨(-1), 0, 1, 9⟩], .mod 12 8] = true := by kernel_rfl
theorem wm0_9 : lawRunN 4 [.lin .i64 0 [⟨(-1), 0, 1, 9⟩], .mod 12 9] = true := by kernel_rfl
theorem wm0_10 : lawRunN 4 [.lin .i64 0 [⟨(-1), 0, 1, 9⟩], .mod 12 10] = true := by kernel_rfl
theorem wm0_11 : lawRunN 4 [.lin .i64 0 [⟨(-1), 0, 1, 9⟩], .mod 12 11] = true := by kernel_rfl
theorem wm1_0 : lawRunN 4 [.lin .i64 0 [⟨(-1), 0, 0, 9⟩, ⟨(-10), 1, 1, 9⟩], .mod 12 0] = true := by kernel_rfl
theorem wm1_1 : lawRunN 4 [.lin .i64 0 [⟨(-1), 0, 0, 9⟩, ⟨(-10), 1, 1, 9⟩], .mod 12 1] = true := by kernel_rfl
theorem wm1_2 : lawRunN 4 [.lin .i64 0 [⟨(-1), 0, 0, 9⟩, ⟨(-10), 1, 1, 9⟩], .mod 12 2] = true := by kernel_rfl
theorem wm1_3 : lawRunN 4 [.lin .i64 0 [⟨(-1), 0, 0, 9⟩, ⟨(-10), 1, 1, 9⟩], .mod 12 3] = true := by kernel_rfl
theorem wm1_4 : lawRunN 4 [.lin .i64 0 [⟨(-1), 0, 0, 9⟩, ⟨(-10), 1, 1, 9⟩], .mod 12 4] = true := by kernel_rfl
theorem wm1_5 : lawRunN 4 [.lin .i64 0 [⟨(-1), 0, 0, 9⟩, ⟨(-10), 1, 1, 9⟩], .mod 12 5] = true := by kernel_rfl
theorem wm1_6 : lawRunN 4 [.lin .i64 0 [⟨(-1), 0, 0, 9⟩, ⟨(-10), 1, 1, 9⟩], .mod 12 6] = true := by kernel_rfl
theorem wm1_7 : lawRunN 4 [.lin .i64 0 [⟨(-1), 0, 0, 9⟩, ⟨(-10), 1, 1, 9⟩], .mod 12 7] = true := by kernel_rfl
theorem wm1_8 : lawRunN 4 [.lin .i64 0 [⟨(-1), 0, 0, 9⟩, ⟨(-10), 1, 1, 9⟩], .mod 12 8] = true := by kernel_rfl
theorem wm1_9 : lawRunN 4 [.lin .i64 0 [⟨(-1), 0, 0, 9⟩, ⟨(-10), 1, 1, 9⟩], .mod 12 9] = true := by kernel_rfl
theorem wm1_10 : lawRunN 4 [.lin .i64 0 [⟨(-1), 0, 0, 9⟩, ⟨(-10), 1, 1, 9⟩], .mod 12 10] = true := by kernel_rfl
theorem wm1_11 : lawRunN 4 [.lin .i64 0 [⟨(-1), 0, 0, 9⟩, ⟨(-10), 1, 1, 9⟩], .mod 12 11] = true := by kernel_rfl
theorem wm2_0 : lawRunN 4 [.lin .i64 0 [⟨(-1), 0, 0, 9⟩, ⟨(-10), 1, 0, 9⟩, ⟨(-100), 2, 1, 9⟩], .mod 12 0] = true := by kernel_rfl
theorem wm2_1 : lawRunN 4 [.lin .i64 0 [⟨(-1), 0, 0, 9⟩, ⟨(-10), 1, 0, 9⟩, ⟨(-100), 2, 1, 9⟩], .mod 12 1] = true := by kernel_rfl
theorem wm2_2 : lawRunN 4 [.lin .i64 0 [⟨(-1), 0, 0, 9⟩, ⟨(-10), 1, 0, 9⟩, ⟨(-100), 2, 1, 9⟩], .mod 12 2] = true := by kernel_rfl
theorem wm2_3 : lawRunN 4 [.lin .i64 0 [⟨(-1), 0, 0, 9⟩, ⟨(-10), 1, 0, 9⟩, ⟨(-100), 2, 1, 9⟩], .mod 12 3] = true := by kernel_rfl
theorem wm2_4 : lawRunN 4 [.lin .i64 0 [⟨(-1), 0, 0, 9⟩, ⟨(-10), 1, 0, 9⟩, ⟨(-100), 2, 1, 9⟩], .mod 12 4] = true := by kernel_rfl
theorem wm2_5 : lawRunN 4 [.lin .i64 0 [⟨(-1), 0, 0, 9⟩, ⟨(-10), 1, 0, 9⟩, ⟨(-100), 2, 1, 9⟩], .mod 12 5] = true := by kernel_rfl
theorem wm2_6 : lawRunN 4 [.lin .i64 0 [⟨(-1), 0, 0, 9⟩, ⟨(-10), 1, 0, 9⟩, ⟨(-100), 2, 1, 9⟩], .mod 12 6] = true := by kernel_rfl
theorem wm2_7 : lawRunN 4 [.lin .i64 0 [⟨(-1), 0, 0, 9⟩, ⟨(-10), 1, 0, 9⟩, ⟨(-100), 2, 1, 9⟩], .mod 12 7] = true := by kernel_rfl
theorem wm2_8 : lawRunN 4 [.lin .i64 0 [⟨(-1), 0, 0, 9⟩, ⟨(-10), 1, 0, 9⟩, ⟨(-100), 2, 1, 9⟩], .mod 12 8] = true := by kernel_rfl
theorem wm2_9 : lawRunN 4 [.lin .i64 0 [⟨(-1), 0, 0, 9⟩, ⟨(-10), 1, 0, 9⟩, ⟨(-100), 2, 1, 9⟩], .mod 12 9] = true := by kernel_rfl
theorem wm2_10 : lawRunN 4 [.lin .i64 0 [⟨(-1), 0, 0, 9⟩, ⟨(-10), 1, 0, 9⟩, ⟨(-100), 2, 1, 9⟩], .mod 12 10] = true := by kernel_rfl
theorem wm2_11 : lawRunN 4 [.lin .i64 0 [⟨(-1), 0, 0, 9⟩, ⟨(-10), 1, 0, 9⟩, ⟨(-100), 2, 1, 9⟩], .mod 12 11] = true := by kernel_rfl
theorem wm3_0 : lawRunN 4 [.lin .i64 0 [⟨(-1), 0, 0, 9⟩, ⟨(-10), 1, 0, 9⟩, ⟨(-100), 2, 0, 9⟩, ⟨(-1000), 3, 1, 9⟩], .mod 12 0] = true := by kernel_rfl
theorem wm3_1 : lawRunN 4 [.lin .i64 0 [⟨(-1), 0, 0, 9⟩, ⟨(-10), 1, 0, 9⟩, ⟨(-100), 2, 0, 9⟩, ⟨(-1000), 3, 1, 9⟩], .mod 12 1] = true := by kernel_rfl
theorem wm3_2 : lawRunN 4 [.lin .i64 0 [⟨(-1), 0, 0, 9⟩, ⟨(-10), 1, 0, 9⟩, ⟨(-100), 2, 0, 9⟩, ⟨(-1000), 3, 1, 9⟩], .mod 12 2] = true := by kernel_rfl
theorem wm3_3 : lawRunN 4 [.lin .i64 0 [⟨(-1), 0, 0, 9⟩, ⟨(-10), 1, 0, 9⟩, ⟨(-100), 2, 0, 9⟩, ⟨(-1000), 3, 1, 9⟩], .mod 12 3] = true := by kernel_rfl
theorem wm3_4 : lawRunN 4 [.lin .i64 0 [⟨(-1), 0, 0, 9⟩, ⟨(-10), 1, 0, 9⟩, ⟨(-100), 2, 0, 9⟩, ⟨(-1000), 3, 1, 9⟩], .mod 12 4] = true := by kernel_rfl
theorem wm3_5 : lawRunN 4 [.lin .i64 0 [⟨(-1), 0, 0, 9⟩, ⟨(-10), 1, 0, 9⟩, ⟨(-100), 2, 0, 9⟩, ⟨(-1000), 3, 1, 9⟩], .mod 12 5] = true := by kernel_rfl
theorem wm3_6 : lawRunN 4 [.lin .i64 0 [⟨(-1), 0, 0, 9⟩, ⟨(-10), 1, 0, 9⟩, ⟨(-100), 2, 0, 9⟩, ⟨(-1000), 3, 1, 9⟩], .mod 12 6] = true := by kernel_rfl
theorem wm3_7 : lawRunN 4 [.lin .i64 0 [⟨(-1), 0, 0, 9⟩, ⟨(-10), 1, 0, 9⟩, ⟨(-100), 2, 0, 9⟩, ⟨(-1000), 3, 1, 9⟩], .mod 12 7] = true := by kernel_rfl
theorem wm3_8 : lawRunN 4 [.lin .i64 0 [⟨(-1), 0, 0, 9⟩, ⟨(-10), 1, 0, 9⟩, ⟨(-100), 2, 0, 9⟩, ⟨(-1000), 3, 1, 9⟩], .mod 12 8] = true := by kernel_rfl
theorem wm3_9 : lawRunN 4 [.lin .i64 0 [⟨(-1), 0, 0, 9⟩, ⟨(-10), 1, 0, 9⟩, ⟨(-100), 2, 0, 9⟩, ⟨(-1000), 3, 1, 9⟩], .mod 12 9] = true := by kernel_rfl
theorem wm3_10 : lawRunN 4 [.lin .i64 0 [⟨(-1), 0, 0, 9⟩, ⟨(-10), 1, 0, 9⟩, ⟨(-100), 2, 0, 9⟩, ⟨(-1000), 3, 1, 9⟩], .mod 12 10] = true := by kernel_rfl
theorem wm3_11 : lawRunN 4 [.lin .i64 0 [⟨(-1), 0, 0, 9⟩, ⟨(-10), 1, 0, 9⟩, ⟨(-100), 2, 0, 9⟩, ⟨(-1000), 3, 1, 9⟩], .mod 12 11] = true := by kernel_rfl
theorem wm4_0 : lawRunN 4 [.lin .i64 0 [⟨(-1), 0, 0, 9⟩, ⟨(-10), 1, 0, 9⟩, ⟨(-100), 2, 0, 9⟩, ⟨(-1000), 3, 0, 9⟩, ⟨(-10000), 4, 1, 9⟩], .mod 12 0] = true := by kernel_rfl
theorem wm4_1 : lawRunN 4 [.lin .i64 0 [⟨(-1), 0, 0, 9⟩, ⟨(-10), 1, 0, 9⟩, ⟨(-100), 2, 0, 9⟩, ⟨(-1000), 3, 0, 9⟩, ⟨(-10000), 4, 1, 9⟩], .mod 12 1] = true := by kernel_rfl
theorem wm4_2 : lawRunN 4 [.lin .i64 0 [⟨(-1), 0, 0, 9⟩, ⟨(-10), 1, 0, 9⟩, ⟨(-100), 2, 0, 9⟩, ⟨(-1000), 3, 0, 9⟩, ⟨(-10000), 4, 1, 9⟩], .mod 12 2] = true := by kernel_rfl
theorem wm4_3 : lawRunN 4 [.lin .i64 0 [⟨(-1), 0, 0, 9⟩, ⟨(-10), 1, 0, 9⟩, ⟨(-100), 2, 0, 9⟩, ⟨(-1000), 3, 0, 9⟩, ⟨(-10000), 4, 1, 9⟩], .mod 12 3] = true := by kernel_rfl
theorem wm4_4 : lawRunN 4 [.lin .i64 0 [⟨(-1), 0, 0, 9⟩, ⟨(-10), 1, 0, 9⟩, ⟨(-100), 2, 0, 9⟩, ⟨(-1000), 3, 0, 9⟩, ⟨(-10000), 4, 1, 9⟩], .mod 12 4] = true := by kernel_rfl
theorem wm4_5 : lawRunN 4 [.lin .i64 0 [⟨(-1), 0, 0, 9⟩, ⟨(-10), 1, 0, 9⟩, ⟨(-100), 2, 0, 9⟩, ⟨(-1000), 3, 0, 9⟩, ⟨(-10000), 4, 1, 9⟩], .mod 12 5] = true := by kernel_rfl
theorem wm4_6 : lawRunN 4 [.lin .i64 0 [⟨(-1), 0, 0, 9⟩, ⟨(-10), 1, 0, 9⟩, ⟨(-100), 2, 0, 9⟩, ⟨(-1000), 3, 0, 9⟩, ⟨(-10000), 4, 1, 9⟩], .mod 12 6] = true := by kernel_rfl
end Go.Proofs.YtbfdgdigaiimgaaDoor.HM
