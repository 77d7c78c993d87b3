/- Cases of fleuronlaw5.AnbWords: one run each. -/
import Derived.Test.YtbfdgdigaiimgaaDoorWD0
namespace Go.Proofs.YtbfdgdigaiimgaaDoor.HM
open Go Go.RowKit
theorem wp13_9 : lawRunN 4 [.lin .i64 2147000000 [⟨1, 0, 0, 9⟩, ⟨10, 1, 0, 9⟩, ⟨100, 2, 0, 9⟩, ⟨1000, 3, 0, 9⟩, ⟨10000, 4, 0, 9⟩, ⟨100000, 5, 0, 3⟩], .mod 12 9] = true := by kernel_rfl
theorem wp13_10 : lawRunN 4 [.lin .i64 2147000000 [⟨1, 0, 0, 9⟩, ⟨10, 1, 0, 9⟩, ⟨100, 2, 0, 9⟩, ⟨1000, 3, 0, 9⟩, ⟨10000, 4, 0, 9⟩, ⟨100000, 5, 0, 3⟩], .mod 12 10] = true := by kernel_rfl
theorem wp13_11 : lawRunN 4 [.lin .i64 2147000000 [⟨1, 0, 0, 9⟩, ⟨10, 1, 0, 9⟩, ⟨100, 2, 0, 9⟩, ⟨1000, 3, 0, 9⟩, ⟨10000, 4, 0, 9⟩, ⟨100000, 5, 0, 3⟩], .mod 12 11] = true := by kernel_rfl
theorem wp14_0 : lawRunN 4 [.lin .i64 2147400000 [⟨1, 0, 0, 9⟩, ⟨10, 1, 0, 9⟩, ⟨100, 2, 0, 9⟩, ⟨1000, 3, 0, 9⟩, ⟨10000, 4, 0, 7⟩], .mod 12 0] = true := by kernel_rfl
theorem wp14_1 : lawRunN 4 [.lin .i64 2147400000 [⟨1, 0, 0, 9⟩, ⟨10, 1, 0, 9⟩, ⟨100, 2, 0, 9⟩, ⟨1000, 3, 0, 9⟩, ⟨10000, 4, 0, 7⟩], .mod 12 1] = true := by kernel_rfl
theorem wp14_2 : lawRunN 4 [.lin .i64 2147400000 [⟨1, 0, 0, 9⟩, ⟨10, 1, 0, 9⟩, ⟨100, 2, 0, 9⟩, ⟨1000, 3, 0, 9⟩, ⟨10000, 4, 0, 7⟩], .mod 12 2] = true := by kernel_rfl
theorem wp14_3 : lawRunN 4 [.lin .i64 2147400000 [⟨1, 0, 0, 9⟩, ⟨10, 1, 0, 9⟩, ⟨100, 2, 0, 9⟩, ⟨1000, 3, 0, 9⟩, ⟨10000, 4, 0, 7⟩], .mod 12 3] = true := by kernel_rfl
theorem wp14_4 : lawRunN 4 [.lin .i64 2147400000 [⟨1, 0, 0, 9⟩, ⟨10, 1, 0, 9⟩, ⟨100, 2, 0, 9⟩, ⟨1000, 3, 0, 9⟩, ⟨10000, 4, 0, 7⟩], .mod 12 4] = true := by kernel_rfl
theorem wp14_5 : lawRunN 4 [.lin .i64 2147400000 [⟨1, 0, 0, 9⟩, ⟨10, 1, 0, 9⟩, ⟨100, 2, 0, 9⟩, ⟨1000, 3, 0, 9⟩, ⟨10000, 4, 0, 7⟩], .mod 12 5] = true := by kernel_rfl
theorem wp14_6 : lawRunN 4 [.lin .i64 2147400000 [⟨1, 0, 0, 9⟩, ⟨10, 1, 0, 9⟩, ⟨100, 2, 0, 9⟩, ⟨1000, 3, 0, 9⟩, ⟨10000, 4, 0, 7⟩], .mod 12 6] = true := by kernel_rfl
theorem wp14_7 : lawRunN 4 [.lin .i64 2147400000 [⟨1, 0, 0, 9⟩, ⟨10, 1, 0, 9⟩, ⟨100, 2, 0, 9⟩, ⟨1000, 3, 0, 9⟩, ⟨10000, 4, 0, 7⟩], .mod 12 7] = true := by kernel_rfl
theorem wp14_8 : lawRunN 4 [.lin .i64 2147400000 [⟨1, 0, 0, 9⟩, ⟨10, 1, 0, 9⟩, ⟨100, 2, 0, 9⟩, ⟨1000, 3, 0, 9⟩, ⟨10000, 4, 0, 7⟩], .mod 12 8] = true := by kernel_rfl
theorem wp14_9 : lawRunN 4 [.lin .i64 2147400000 [⟨1, 0, 0, 9⟩, ⟨10, 1, 0, 9⟩, ⟨100, 2, 0, 9⟩, ⟨1000, 3, 0, 9⟩, ⟨10000, 4, 0, 7⟩], .mod 12 9] = true := by kernel_rfl
theorem wp14_10 : lawRunN 4 [.lin .i64 2147400000 [⟨1, 0, 0, 9⟩, ⟨10, 1, 0, 9⟩, ⟨100, 2, 0, 9⟩, ⟨1000, 3, 0, 9⟩, ⟨10000, 4, 0, 7⟩], .mod 12 10] = true := by kernel_rfl
theorem wp14_11 : lawRunN 4 [.lin .i64 2147400000 [⟨1, 0, 0, 9⟩, ⟨10, 1, 0, 9⟩, ⟨100, 2, 0, 9⟩, ⟨1000, 3, 0, 9⟩, ⟨10000, 4, 0, 7⟩], .mod 12 11] = true := by kernel_rfl
theorem wp15_0 : lawRunN 4 [.lin .i64 2147480000 [⟨1, 0, 0, 9⟩, ⟨10, 1, 0, 9⟩, ⟨100, 2, 0, 9⟩, ⟨1000, 3, 0, 2⟩], .mod 12 0] = true := by kernel_rfl
theorem wp15_1 : lawRunN 4 [.lin .i64 2147480000 [⟨1, 0, 0, 9⟩, ⟨10, 1, 0, 9⟩, ⟨100, 2, 0, 9⟩, ⟨1000, 3, 0, 2⟩], .mod 12 1] = true := by kernel_rfl
theorem wp15_2 : lawRunN 4 [.lin .i64 2147480000 [⟨1, 0, 0, 9⟩, ⟨10, 1, 0, 9⟩, ⟨100, 2, 0, 9⟩, ⟨1000, 3, 0, 2⟩], .mod 12 2] = true := by kernel_rfl
theorem wp15_3 : lawRunN 4 [.lin .i64 2147480000 [⟨1, 0, 0, 9⟩, ⟨10, 1, 0, 9⟩, ⟨100, 2, 0, 9⟩, ⟨1000, 3, 0, 2⟩], .mod 12 3] = true := by kernel_rfl
theorem wp15_4 : lawRunN 4 [.lin .i64 2147480000 [⟨1, 0, 0, 9⟩, ⟨10, 1, 0, 9⟩, ⟨100, 2, 0, 9⟩, ⟨1000, 3, 0, 2⟩], .mod 12 4] = true := by kernel_rfl
theorem wp15_5 : lawRunN 4 [.lin .i64 2147480000 [⟨1, 0, 0, 9⟩, ⟨10, 1, 0, 9⟩, ⟨100, 2, 0, 9⟩, ⟨1000, 3, 0, 2⟩], .mod 12 5] = true := by kernel_rfl
theorem wp15_6 : lawRunN 4 [.lin .i64 2147480000 [⟨1, 0, 0, 9⟩, ⟨10, 1, 0, 9⟩, ⟨100, 2, 0, 9⟩, ⟨1000, 3, 0, 2⟩], .mod 12 6] = true := by kernel_rfl
theorem wp15_7 : lawRunN 4 [.lin .i64 2147480000 [⟨1, 0, 0, 9⟩, ⟨10, 1, 0, 9⟩, ⟨100, 2, 0, 9⟩, ⟨1000, 3, 0, 2⟩], .mod 12 7] = true := by kernel_rfl
theorem wp15_8 : lawRunN 4 [.lin .i64 2147480000 [⟨1, 0, 0, 9⟩, ⟨10, 1, 0, 9⟩, ⟨100, 2, 0, 9⟩, ⟨1000, 3, 0, 2⟩], .mod 12 8] = true := by kernel_rfl
theorem wp15_9 : lawRunN 4 [.lin .i64 2147480000 [⟨1, 0, 0, 9⟩, ⟨10, 1, 0, 9⟩, ⟨100, 2, 0, 9⟩, ⟨1000, 3, 0, 2⟩], .mod 12 9] = true := by kernel_rfl
theorem wp15_10 : lawRunN 4 [.lin .i64 2147480000 [⟨1, 0, 0, 9⟩, ⟨10, 1, 0, 9⟩, ⟨100, 2, 0, 9⟩, ⟨1000, 3, 0, 2⟩], .mod 12 10] = true := by kernel_rfl
theorem wp15_11 : lawRunN 4 [.lin .i64 2147480000 [⟨1, 0, 0, 9⟩, ⟨10, 1, 0, 9⟩, ⟨100, 2, 0, 9⟩, ⟨1000, 3, 0, 2⟩], .mod 12 11] = true := by kernel_rfl
theorem wp16_0 : lawRunN 4 [.lin .i64 2147483000 [⟨1, 0, 0, 9⟩, ⟨10, 1, 0, 9⟩, ⟨100, 2, 0, 5⟩], .mod 12 0] = true := by kernel_rfl
theorem wp16_1 : lawRunN 4 [.lin .i64 2147483000 [⟨1, 0, 0, 9⟩, ⟨10, 1, 0, 9⟩, ⟨100, 2, 0, 5⟩], .mod 12 1] = true := by kernel_rfl
theorem wp16_2 : lawRunN 4 [.lin .i64 2147483000 [⟨1, 0, 0, 9⟩, ⟨10, 1, 0, 9⟩, ⟨100, 2, 0, 5⟩], .mod 12 2] = true := by kernel_rfl
theorem wp16_3 : lawRunN 4 [.lin .i64 2147483000 [⟨1, 0, 0, 9⟩, ⟨10, 1, 0, 9⟩, ⟨100, 2, 0, 5⟩], .mod 12 3] = true := by kernel_rfl
theorem wp16_4 : lawRunN 4 [.lin .i64 2147483000 [⟨1, 0, 0, 9⟩, ⟨10, 1, 0, 9⟩, ⟨100, 2, 0, 5⟩], .mod 12 4] = true := by kernel_rfl
theorem wp16_5 : lawRunN 4 [.lin .i64 2147483000 [⟨1, 0, 0, 9⟩, ⟨10, 1, 0, 9⟩, ⟨100, 2, 0, 5⟩], .mod 12 5] = true := by kernel_rfl
theorem wp16_6 : lawRunN 4 [.lin .i64 2147483000 [⟨1, 0, 0, 9⟩, ⟨10, 1, 0, 9⟩, ⟨100, 2, 0, 5⟩], .mod 12 6] = true := by kernel_rfl
theorem wp16_7 : lawRunN 4 [.lin .i64 2147483000 [⟨1, 0, 0, 9⟩, ⟨10, 1, 0, 9⟩, ⟨100, 2, 0, 5⟩], .mod 12 7] = true := by kernel_rfl
theorem wp16_8 : lawRunN 4 [.lin .i64 2147483000 [⟨1, 0, 0, 9⟩, ⟨10, 1, 0, 9⟩, ⟨100, 2, 0, 5⟩], .mod 12 8] = true := by kernel_rfl
theorem wp16_9 : lawRunN 4 [.lin .i64 2147483000 [⟨1, 0, 0, 9⟩, ⟨10, 1, 0, 9⟩, ⟨100, 2, 0, 5⟩], .mod 12 9] = true := by kernel_rfl
theorem wp16_10 : lawRunN 4 [.lin .i64 2147483000 [⟨1, 0, 0, 9⟩, ⟨10, 1, 0, 9⟩, ⟨100, 2, 0, 5⟩], .mod 12 10] = true := by kernel_rfl
theorem wp16_11 : lawRunN 4 [.lin .i64 2147483000 [⟨1, 0, 0, 9⟩, ⟨10, 1, 0, 9⟩, ⟨100, 2, 0, 5⟩], .mod 12 11] = true := by kernel_rfl
theorem wp17_0 : lawRunN 4 [.lin .i64 2147483600 [⟨1, 0, 0, 9⟩, ⟨10, 1, 0, 3⟩], .mod 12 0] = true := by kernel_rfl
theorem wp17_1 : lawRunN 4 [.lin .i64 2147483600 [⟨1, 0, 0, 9⟩, ⟨10, 1, 0, 3⟩], .mod 12 1] = true := by kernel_rfl
theorem wp17_2 : lawRunN 4 [.lin .i64 2147483600 [⟨1, 0, 0, 9⟩, ⟨10, 1, 0, 3⟩], .mod 12 2] = true := by kernel_rfl
theorem wp17_3 : lawRunN 4 [.lin .i64 2147483600 [⟨1, 0, 0, 9⟩, ⟨10, 1, 0, 3⟩], .mod 12 3] = true := by kernel_rfl
theorem wp17_4 : lawRunN 4 [.lin .i64 2147483600 [⟨1, 0, 0, 9⟩, ⟨10, 1, 0, 3⟩], .mod 12 4] = true := by kernel_rfl
theorem wp17_5 : lawRunN 4 [.lin .i64 2147483600 [⟨1, 0, 0, 9⟩, ⟨10, 1, 0, 3⟩], .mod 12 5] = true := by kernel_rfl
theorem wp17_6 : lawRunN 4 [.lin .i64 2147483600 [⟨1, 0, 0, 9⟩, ⟨10, 1, 0, 3⟩], .mod 12 6] = true := by kernel_rfl
theorem wp17_7 : lawRunN 4 [.lin .i64 2147483600 [⟨1, 0, 0, 9⟩, ⟨10, 1, 0, 3⟩], .mod 12 7] = true := by kernel_rfl
theorem wp17_8 : lawRunN 4 [.lin .i64 2147483600 [⟨1, 0, 0, 9⟩, ⟨10, 1, 0, 3⟩], .mod 12 8] = true := by kernel_rfl
theorem wp17_9 : lawRunN 4 [.lin .i64 2147483600 [⟨1, 0, 0, 9⟩, ⟨10, 1, 0, 3⟩], .mod 12 9] = true := by kernel_rfl
theorem wp17_10 : lawRunN 4 [.lin .i64 2147483600 [⟨1, 0, 0, 9⟩, ⟨10, 1, 0, 3⟩], .mod 12 10] = true := by kernel_rfl
theorem wp17_11 : lawRunN 4 [.lin .i64 2147483600 [⟨1, 0, 0, 9⟩, ⟨10, 1, 0, 3⟩], .mod 12 11] = true := by kernel_rfl
theorem wp18_0 : lawRunN 4 [.lin .i64 2147483640 [⟨1, 0, 0, 7⟩], .mod 12 0] = true := by kernel_rfl
theorem wp18_1 : lawRunN 4 [.lin .i64 2147483640 [⟨1, 0, 0, 7⟩], .mod 12 1] = true := by kernel_rfl
theorem wp18_2 : lawRunN 4 [.lin .i64 2147483640 [⟨1, 0, 0, 7⟩], .mod 12 2] = true := by kernel_rfl
theorem wp18_3 : lawRunN 4 [.lin .i64 2147483640 [⟨1, 0, 0, 7⟩], .mod 12 3] = true := by kernel_rfl
theorem wp18_4 : lawRunN 4 [.lin .i64 2147483640 [⟨1, 0, 0, 7⟩], .mod 12 4] = true := by kernel_rfl
theorem wp18_5 : lawRunN 4 [.lin .i64 2147483640 [⟨1, 0, 0, 7⟩], .mod 12 5] = true := by kernel_rfl
theorem wp18_6 : lawRunN 4 [.lin .i64 2147483640 [⟨1, 0, 0, 7⟩], .mod 12 6] = true := by kernel_rfl
theorem wp18_7 : lawRunN 4 [.lin .i64 2147483640 [⟨1, 0, 0, 7⟩], .mod 12 7] = true := by kernel_rfl
end Go.Proofs.YtbfdgdigaiimgaaDoor.HM
