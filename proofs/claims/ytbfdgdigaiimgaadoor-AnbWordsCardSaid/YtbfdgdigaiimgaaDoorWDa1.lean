/- Cases of fleuronlaw5.AnbWords: one run each. -/
import Derived.Test.YtbfdgdigaiimgaaDoorWD0
namespace Go.Proofs.YtbfdgdigaiimgaaDoor.HM
open Go Go.RowKit
theorem wz_0 : lawRunN 4 [.int .i64 0, .mod 12 0] = true := by kernel_rfl
theorem wz_1 : lawRunN 4 [.int .i64 0, .mod 12 1] = true := by kernel_rfl
theorem wz_2 : lawRunN 4 [.int .i64 0, .mod 12 2] = true := by kernel_rfl
theorem wz_3 : lawRunN 4 [.int .i64 0, .mod 12 3] = true := by kernel_rfl
theorem wz_4 : lawRunN 4 [.int .i64 0, .mod 12 4] = true := by kernel_rfl
theorem wz_5 : lawRunN 4 [.int .i64 0, .mod 12 5] = true := by kernel_rfl
theorem wz_6 : lawRunN 4 [.int .i64 0, .mod 12 6] = true := by kernel_rfl
theorem wz_7 : lawRunN 4 [.int .i64 0, .mod 12 7] = true := by kernel_rfl
theorem wz_8 : lawRunN 4 [.int .i64 0, .mod 12 8] = true := by kernel_rfl
theorem wz_9 : lawRunN 4 [.int .i64 0, .mod 12 9] = true := by kernel_rfl
theorem wz_10 : lawRunN 4 [.int .i64 0, .mod 12 10] = true := by kernel_rfl
theorem wz_11 : lawRunN 4 [.int .i64 0, .mod 12 11] = true := by kernel_rfl
theorem wp0_0 : lawRunN 4 [.lin .i64 0 [⟨1, 0, 1, 9⟩], .mod 12 0] = true := by kernel_rfl
theorem wp0_1 : lawRunN 4 [.lin .i64 0 [⟨1, 0, 1, 9⟩], .mod 12 1] = true := by kernel_rfl
theorem wp0_2 : lawRunN 4 [.lin .i64 0 [⟨1, 0, 1, 9⟩], .mod 12 2] = true := by kernel_rfl
theorem wp0_3 : lawRunN 4 [.lin .i64 0 [⟨1, 0, 1, 9⟩], .mod 12 3] = true := by kernel_rfl
theorem wp0_4 : lawRunN 4 [.lin .i64 0 [⟨1, 0, 1, 9⟩], .mod 12 4] = true := by kernel_rfl
theorem wp0_5 : lawRunN 4 [.lin .i64 0 [⟨1, 0, 1, 9⟩], .mod 12 5] = true := by kernel_rfl
theorem wp0_6 : lawRunN 4 [.lin .i64 0 [⟨1, 0, 1, 9⟩], .mod 12 6] = true := by kernel_rfl
theorem wp0_7 : lawRunN 4 [.lin .i64 0 [⟨1, 0, 1, 9⟩], .mod 12 7] = true := by kernel_rfl
theorem wp0_8 : lawRunN 4 [.lin .i64 0 [⟨1, 0, 1, 9⟩], .mod 12 8] = true := by kernel_rfl
theorem wp0_9 : lawRunN 4 [.lin .i64 0 [⟨1, 0, 1, 9⟩], .mod 12 9] = true := by kernel_rfl
theorem wp0_10 : lawRunN 4 [.lin .i64 0 [⟨1, 0, 1, 9⟩], .mod 12 10] = true := by kernel_rfl
theorem wp0_11 : lawRunN 4 [.lin .i64 0 [⟨1, 0, 1, 9⟩], .mod 12 11] = true := by kernel_rfl
theorem wp1_0 : lawRunN 4 [.lin .i64 0 [⟨1, 0, 0, 9⟩, ⟨10, 1, 1, 9⟩], .mod 12 0] = true := by kernel_rfl
theorem wp1_1 : lawRunN 4 [.lin .i64 0 [⟨1, 0, 0, 9⟩, ⟨10, 1, 1, 9⟩], .mod 12 1] = true := by kernel_rfl
theorem wp1_2 : lawRunN 4 [.lin .i64 0 [⟨1, 0, 0, 9⟩, ⟨10, 1, 1, 9⟩], .mod 12 2] = true := by kernel_rfl
theorem wp1_3 : lawRunN 4 [.lin .i64 0 [⟨1, 0, 0, 9⟩, ⟨10, 1, 1, 9⟩], .mod 12 3] = true := by kernel_rfl
theorem wp1_4 : lawRunN 4 [.lin .i64 0 [⟨1, 0, 0, 9⟩, ⟨10, 1, 1, 9⟩], .mod 12 4] = true := by kernel_rfl
theorem wp1_5 : lawRunN 4 [.lin .i64 0 [⟨1, 0, 0, 9⟩, ⟨10, 1, 1, 9⟩], .mod 12 5] = true := by kernel_rfl
theorem wp1_6 : lawRunN 4 [.lin .i64 0 [⟨1, 0, 0, 9⟩, ⟨10, 1, 1, 9⟩], .mod 12 6] = true := by kernel_rfl
theorem wp1_7 : lawRunN 4 [.lin .i64 0 [⟨1, 0, 0, 9⟩, ⟨10, 1, 1, 9⟩], .mod 12 7] = true := by kernel_rfl
theorem wp1_8 : lawRunN 4 [.lin .i64 0 [⟨1, 0, 0, 9⟩, ⟨10, 1, 1, 9⟩], .mod 12 8] = true := by kernel_rfl
theorem wp1_9 : lawRunN 4 [.lin .i64 0 [⟨1, 0, 0, 9⟩, ⟨10, 1, 1, 9⟩], .mod 12 9] = true := by kernel_rfl
theorem wp1_10 : lawRunN 4 [.lin .i64 0 [⟨1, 0, 0, 9⟩, ⟨10, 1, 1, 9⟩], .mod 12 10] = true := by kernel_rfl
theorem wp1_11 : lawRunN 4 [.lin .i64 0 [⟨1, 0, 0, 9⟩, ⟨10, 1, 1, 9⟩], .mod 12 11] = true := by kernel_rfl
theorem wp2_0 : lawRunN 4 [.lin .i64 0 [⟨1, 0, 0, 9⟩, ⟨10, 1, 0, 9⟩, ⟨100, 2, 1, 9⟩], .mod 12 0] = true := by kernel_rfl
theorem wp2_1 : lawRunN 4 [.lin .i64 0 [⟨1, 0, 0, 9⟩, ⟨10, 1, 0, 9⟩, ⟨100, 2, 1, 9⟩], .mod 12 1] = true := by kernel_rfl
theorem wp2_2 : lawRunN 4 [.lin .i64 0 [⟨1, 0, 0, 9⟩, ⟨10, 1, 0, 9⟩, ⟨100, 2, 1, 9⟩], .mod 12 2] = true := by kernel_rfl
theorem wp2_3 : lawRunN 4 [.lin .i64 0 [⟨1, 0, 0, 9⟩, ⟨10, 1, 0, 9⟩, ⟨100, 2, 1, 9⟩], .mod 12 3] = true := by kernel_rfl
theorem wp2_4 : lawRunN 4 [.lin .i64 0 [⟨1, 0, 0, 9⟩, ⟨10, 1, 0, 9⟩, ⟨100, 2, 1, 9⟩], .mod 12 4] = true := by kernel_rfl
theorem wp2_5 : lawRunN 4 [.lin .i64 0 [⟨1, 0, 0, 9⟩, ⟨10, 1, 0, 9⟩, ⟨100, 2, 1, 9⟩], .mod 12 5] = true := by kernel_rfl
theorem wp2_6 : lawRunN 4 [.lin .i64 0 [⟨1, 0, 0, 9⟩, ⟨10, 1, 0, 9⟩, ⟨100, 2, 1, 9⟩], .mod 12 6] = true := by kernel_rfl
theorem wp2_7 : lawRunN 4 [.lin .i64 0 [⟨1, 0, 0, 9⟩, ⟨10, 1, 0, 9⟩, ⟨100, 2, 1, 9⟩], .mod 12 7] = true := by kernel_rfl
theorem wp2_8 : lawRunN 4 [.lin .i64 0 [⟨1, 0, 0, 9⟩, ⟨10, 1, 0, 9⟩, ⟨100, 2, 1, 9⟩], .mod 12 8] = true := by kernel_rfl
theorem wp2_9 : lawRunN 4 [.lin .i64 0 [⟨1, 0, 0, 9⟩, ⟨10, 1, 0, 9⟩, ⟨100, 2, 1, 9⟩], .mod 12 9] = true := by kernel_rfl
theorem wp2_10 : lawRunN 4 [.lin .i64 0 [⟨1, 0, 0, 9⟩, ⟨10, 1, 0, 9⟩, ⟨100, 2, 1, 9⟩], .mod 12 10] = true := by kernel_rfl
theorem wp2_11 : lawRunN 4 [.lin .i64 0 [⟨1, 0, 0, 9⟩, ⟨10, 1, 0, 9⟩, ⟨100, 2, 1, 9⟩], .mod 12 11] = true := by kernel_rfl
theorem wp3_0 : lawRunN 4 [.lin .i64 0 [⟨1, 0, 0, 9⟩, ⟨10, 1, 0, 9⟩, ⟨100, 2, 0, 9⟩, ⟨1000, 3, 1, 9⟩], .mod 12 0] = true := by kernel_rfl
theorem wp3_1 : lawRunN 4 [.lin .i64 0 [⟨1, 0, 0, 9⟩, ⟨10, 1, 0, 9⟩, ⟨100, 2, 0, 9⟩, ⟨1000, 3, 1, 9⟩], .mod 12 1] = true := by kernel_rfl
theorem wp3_2 : lawRunN 4 [.lin .i64 0 [⟨1, 0, 0, 9⟩, ⟨10, 1, 0, 9⟩, ⟨100, 2, 0, 9⟩, ⟨1000, 3, 1, 9⟩], .mod 12 2] = true := by kernel_rfl
theorem wp3_3 : lawRunN 4 [.lin .i64 0 [⟨1, 0, 0, 9⟩, ⟨10, 1, 0, 9⟩, ⟨100, 2, 0, 9⟩, ⟨1000, 3, 1, 9⟩], .mod 12 3] = true := by kernel_rfl
theorem wp3_4 : lawRunN 4 [.lin .i64 0 [⟨1, 0, 0, 9⟩, ⟨10, 1, 0, 9⟩, ⟨100, 2, 0, 9⟩, ⟨1000, 3, 1, 9⟩], .mod 12 4] = true := by kernel_rfl
theorem wp3_5 : lawRunN 4 [.lin .i64 0 [⟨1, 0, 0, 9⟩, ⟨10, 1, 0, 9⟩, ⟨100, 2, 0, 9⟩, ⟨1000, 3, 1, 9⟩], .mod 12 5] = true := by kernel_rfl
theorem wp3_6 : lawRunN 4 [.lin .i64 0 [⟨1, 0, 0, 9⟩, ⟨10, 1, 0, 9⟩, ⟨100, 2, 0, 9⟩, ⟨1000, 3, 1, 9⟩], .mod 12 6] = true := by kernel_rfl
theorem wp3_7 : lawRunN 4 [.lin .i64 0 [⟨1, 0, 0, 9⟩, ⟨10, 1, 0, 9⟩, ⟨100, 2, 0, 9⟩, ⟨1000, 3, 1, 9⟩], .mod 12 7] = true := by kernel_rfl
theorem wp3_8 : lawRunN 4 [.lin .i64 0 [⟨1, 0, 0, 9⟩, ⟨10, 1, 0, 9⟩, ⟨100, 2, 0, 9⟩, ⟨1000, 3, 1, 9⟩], .mod 12 8] = true := by kernel_rfl
theorem wp3_9 : lawRunN 4 [.lin .i64 0 [⟨1, 0, 0, 9⟩, ⟨10, 1, 0, 9⟩, ⟨100, 2, 0, 9⟩, ⟨1000, 3, 1, 9⟩], .mod 12 9] = true := by kernel_rfl
theorem wp3_10 : lawRunN 4 [.lin .i64 0 [⟨1, 0, 0, 9⟩, ⟨10, 1, 0, 9⟩, ⟨100, 2, 0, 9⟩, ⟨1000, 3, 1, 9⟩], .mod 12 10] = true := by kernel_rfl
end Go.Proofs.YtbfdgdigaiimgaaDoor.HM
