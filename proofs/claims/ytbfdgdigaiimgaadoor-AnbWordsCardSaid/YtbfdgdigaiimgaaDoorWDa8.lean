/- Cases of fleuronlaw5.AnbWords: one run each. -/
import Derived.Test.YtbfdgdigaiimgaaDoorWD0
namespace Go.Proofs.YtbfdgdigaiimgaaDoor.HM
open Go Go.RowKit
theorem wm14_5 : lawRunN 4 [.lin .i64 (-2147400000) [⟨(-1), 0, 0, 9⟩, ⟨(-10), 1, 0, 9⟩, ⟨(-100), 2, 0, 9⟩, ⟨(-1000), 3, 0, 9⟩, ⟨(-10000), 4, 0, 7⟩], .mod 12 5] = true := by kernel_rfl
theorem wm14_6 : lawRunN 4 [.lin .i64 (-2147400000) [⟨(-1), 0, 0, 9⟩, ⟨(-10), 1, 0, 9⟩, ⟨(-100), 2, 0, 9⟩, ⟨(-1000), 3, 0, 9⟩, ⟨(-10000), 4, 0, 7⟩], .mod 12 6] = true := by kernel_rfl
theorem wm14_7 : lawRunN 4 [.lin .i64 (-2147400000) [⟨(-1), 0, 0, 9⟩, ⟨(-10), 1, 0, 9⟩, ⟨(-100), 2, 0, 9⟩, ⟨(-1000), 3, 0, 9⟩, ⟨(-10000), 4, 0, 7⟩], .mod 12 7] = true := by kernel_rfl
theorem wm14_8 : lawRunN 4 [.lin .i64 (-2147400000) [⟨(-1), 0, 0, 9⟩, ⟨(-10), 1, 0, 9⟩, ⟨(-100), 2, 0, 9⟩, ⟨(-1000), 3, 0, 9⟩, ⟨(-10000), 4, 0, 7⟩], .mod 12 8] = true := by kernel_rfl
theorem wm14_9 : lawRunN 4 [.lin .i64 (-2147400000) [⟨(-1), 0, 0, 9⟩, ⟨(-10), 1, 0, 9⟩, ⟨(-100), 2, 0, 9⟩, ⟨(-1000), 3, 0, 9⟩, ⟨(-10000), 4, 0, 7⟩], .mod 12 9] = true := by kernel_rfl
theorem wm14_10 : lawRunN 4 [.lin .i64 (-2147400000) [⟨(-1), 0, 0, 9⟩, ⟨(-10), 1, 0, 9⟩, ⟨(-100), 2, 0, 9⟩, ⟨(-1000), 3, 0, 9⟩, ⟨(-10000), 4, 0, 7⟩], .mod 12 10] = true := by kernel_rfl
theorem wm14_11 : lawRunN 4 [.lin .i64 (-2147400000) [⟨(-1), 0, 0, 9⟩, ⟨(-10), 1, 0, 9⟩, ⟨(-100), 2, 0, 9⟩, ⟨(-1000), 3, 0, 9⟩, ⟨(-10000), 4, 0, 7⟩], .mod 12 11] = true := by kernel_rfl
theorem wm15_0 : lawRunN 4 [.lin .i64 (-2147480000) [⟨(-1), 0, 0, 9⟩, ⟨(-10), 1, 0, 9⟩, ⟨(-100), 2, 0, 9⟩, ⟨(-1000), 3, 0, 2⟩], .mod 12 0] = true := by kernel_rfl
theorem wm15_1 : lawRunN 4 [.lin .i64 (-2147480000) [⟨(-1), 0, 0, 9⟩, ⟨(-10), 1, 0, 9⟩, ⟨(-100), 2, 0, 9⟩, ⟨(-1000), 3, 0, 2⟩], .mod 12 1] = true := by kernel_rfl
theorem wm15_2 : lawRunN 4 [.lin .i64 (-2147480000) [⟨(-1), 0, 0, 9⟩, ⟨(-10), 1, 0, 9⟩, ⟨(-100), 2, 0, 9⟩, ⟨(-1000), 3, 0, 2⟩], .mod 12 2] = true := by kernel_rfl
theorem wm15_3 : lawRunN 4 [.lin .i64 (-2147480000) [⟨(-1), 0, 0, 9⟩, ⟨(-10), 1, 0, 9⟩, ⟨(-100), 2, 0, 9⟩, ⟨(-1000), 3, 0, 2⟩], .mod 12 3] = true := by kernel_rfl
theorem wm15_4 : lawRunN 4 [.lin .i64 (-2147480000) [⟨(-1), 0, 0, 9⟩, ⟨(-10), 1, 0, 9⟩, ⟨(-100), 2, 0, 9⟩, ⟨(-1000), 3, 0, 2⟩], .mod 12 4] = true := by kernel_rfl
theorem wm15_5 : lawRunN 4 [.lin .i64 (-2147480000) [⟨(-1), 0, 0, 9⟩, ⟨(-10), 1, 0, 9⟩, ⟨(-100), 2, 0, 9⟩, ⟨(-1000), 3, 0, 2⟩], .mod 12 5] = true := by kernel_rfl
theorem wm15_6 : lawRunN 4 [.lin .i64 (-2147480000) [⟨(-1), 0, 0, 9⟩, ⟨(-10), 1, 0, 9⟩, ⟨(-100), 2, 0, 9⟩, ⟨(-1000), 3, 0, 2⟩], .mod 12 6] = true := by kernel_rfl
theorem wm15_7 : lawRunN 4 [.lin .i64 (-2147480000) [⟨(-1), 0, 0, 9⟩, ⟨(-10), 1, 0, 9⟩, ⟨(-100), 2, 0, 9⟩, ⟨(-1000), 3, 0, 2⟩], .mod 12 7] = true := by kernel_rfl
theorem wm15_8 : lawRunN 4 [.lin .i64 (-2147480000) [⟨(-1), 0, 0, 9⟩, ⟨(-10), 1, 0, 9⟩, ⟨(-100), 2, 0, 9⟩, ⟨(-1000), 3, 0, 2⟩], .mod 12 8] = true := by kernel_rfl
theorem wm15_9 : lawRunN 4 [.lin .i64 (-2147480000) [⟨(-1), 0, 0, 9⟩, ⟨(-10), 1, 0, 9⟩, ⟨(-100), 2, 0, 9⟩, ⟨(-1000), 3, 0, 2⟩], .mod 12 9] = true := by kernel_rfl
theorem wm15_10 : lawRunN 4 [.lin .i64 (-2147480000) [⟨(-1), 0, 0, 9⟩, ⟨(-10), 1, 0, 9⟩, ⟨(-100), 2, 0, 9⟩, ⟨(-1000), 3, 0, 2⟩], .mod 12 10] = true := by kernel_rfl
theorem wm15_11 : lawRunN 4 [.lin .i64 (-2147480000) [⟨(-1), 0, 0, 9⟩, ⟨(-10), 1, 0, 9⟩, ⟨(-100), 2, 0, 9⟩, ⟨(-1000), 3, 0, 2⟩], .mod 12 11] = true := by kernel_rfl
theorem wm16_0 : lawRunN 4 [.lin .i64 (-2147483000) [⟨(-1), 0, 0, 9⟩, ⟨(-10), 1, 0, 9⟩, ⟨(-100), 2, 0, 5⟩], .mod 12 0] = true := by kernel_rfl
theorem wm16_1 : lawRunN 4 [.lin .i64 (-2147483000) [⟨(-1), 0, 0, 9⟩, ⟨(-10), 1, 0, 9⟩, ⟨(-100), 2, 0, 5⟩], .mod 12 1] = true := by kernel_rfl
theorem wm16_2 : lawRunN 4 [.lin .i64 (-2147483000) [⟨(-1), 0, 0, 9⟩, ⟨(-10), 1, 0, 9⟩, ⟨(-100), 2, 0, 5⟩], .mod 12 2] = true := by kernel_rfl
theorem wm16_3 : lawRunN 4 [.lin .i64 (-2147483000) [⟨(-1), 0, 0, 9⟩, ⟨(-10), 1, 0, 9⟩, ⟨(-100), 2, 0, 5⟩], .mod 12 3] = true := by kernel_rfl
theorem wm16_4 : lawRunN 4 [.lin .i64 (-2147483000) [⟨(-1), 0, 0, 9⟩, ⟨(-10), 1, 0, 9⟩, ⟨(-100), 2, 0, 5⟩], .mod 12 4] = true := by kernel_rfl
theorem wm16_5 : lawRunN 4 [.lin .i64 (-2147483000) [⟨(-1), 0, 0, 9⟩, ⟨(-10), 1, 0, 9⟩, ⟨(-100), 2, 0, 5⟩], .mod 12 5] = true := by kernel_rfl
theorem wm16_6 : lawRunN 4 [.lin .i64 (-2147483000) [⟨(-1), 0, 0, 9⟩, ⟨(-10), 1, 0, 9⟩, ⟨(-100), 2, 0, 5⟩], .mod 12 6] = true := by kernel_rfl
theorem wm16_7 : lawRunN 4 [.lin .i64 (-2147483000) [⟨(-1), 0, 0, 9⟩, ⟨(-10), 1, 0, 9⟩, ⟨(-100), 2, 0, 5⟩], .mod 12 7] = true := by kernel_rfl
theorem wm16_8 : lawRunN 4 [.lin .i64 (-2147483000) [⟨(-1), 0, 0, 9⟩, ⟨(-10), 1, 0, 9⟩, ⟨(-100), 2, 0, 5⟩], .mod 12 8] = true := by kernel_rfl
theorem wm16_9 : lawRunN 4 [.lin .i64 (-2147483000) [⟨(-1), 0, 0, 9⟩, ⟨(-10), 1, 0, 9⟩, ⟨(-100), 2, 0, 5⟩], .mod 12 9] = true := by kernel_rfl
theorem wm16_10 : lawRunN 4 [.lin .i64 (-2147483000) [⟨(-1), 0, 0, 9⟩, ⟨(-10), 1, 0, 9⟩, ⟨(-100), 2, 0, 5⟩], .mod 12 10] = true := by kernel_rfl
theorem wm16_11 : lawRunN 4 [.lin .i64 (-2147483000) [⟨(-1), 0, 0, 9⟩, ⟨(-10), 1, 0, 9⟩, ⟨(-100), 2, 0, 5⟩], .mod 12 11] = true := by kernel_rfl
theorem wm17_0 : lawRunN 4 [.lin .i64 (-2147483600) [⟨(-1), 0, 0, 9⟩, ⟨(-10), 1, 0, 3⟩], .mod 12 0] = true := by kernel_rfl
theorem wm17_1 : lawRunN 4 [.lin .i64 (-2147483600) [⟨(-1), 0, 0, 9⟩, ⟨(-10), 1, 0, 3⟩], .mod 12 1] = true := by kernel_rfl
theorem wm17_2 : lawRunN 4 [.lin .i64 (-2147483600) [⟨(-1), 0, 0, 9⟩, ⟨(-10), 1, 0, 3⟩], .mod 12 2] = true := by kernel_rfl
theorem wm17_3 : lawRunN 4 [.lin .i64 (-2147483600) [⟨(-1), 0, 0, 9⟩, ⟨(-10), 1, 0, 3⟩], .mod 12 3] = true := by kernel_rfl
theorem wm17_4 : lawRunN 4 [.lin .i64 (-2147483600) [⟨(-1), 0, 0, 9⟩, ⟨(-10), 1, 0, 3⟩], .mod 12 4] = true := by kernel_rfl
theorem wm17_5 : lawRunN 4 [.lin .i64 (-2147483600) [⟨(-1), 0, 0, 9⟩, ⟨(-10), 1, 0, 3⟩], .mod 12 5] = true := by kernel_rfl
theorem wm17_6 : lawRunN 4 [.lin .i64 (-2147483600) [⟨(-1), 0, 0, 9⟩, ⟨(-10), 1, 0, 3⟩], .mod 12 6] = true := by kernel_rfl
theorem wm17_7 : lawRunN 4 [.lin .i64 (-2147483600) [⟨(-1), 0, 0, 9⟩, ⟨(-10), 1, 0, 3⟩], .mod 12 7] = true := by kernel_rfl
theorem wm17_8 : lawRunN 4 [.lin .i64 (-2147483600) [⟨(-1), 0, 0, 9⟩, ⟨(-10), 1, 0, 3⟩], .mod 12 8] = true := by kernel_rfl
theorem wm17_9 : lawRunN 4 [.lin .i64 (-2147483600) [⟨(-1), 0, 0, 9⟩, ⟨(-10), 1, 0, 3⟩], .mod 12 9] = true := by kernel_rfl
theorem wm17_10 : lawRunN 4 [.lin .i64 (-2147483600) [⟨(-1), 0, 0, 9⟩, ⟨(-10), 1, 0, 3⟩], .mod 12 10] = true := by kernel_rfl
theorem wm17_11 : lawRunN 4 [.lin .i64 (-2147483600) [⟨(-1), 0, 0, 9⟩, ⟨(-10), 1, 0, 3⟩], .mod 12 11] = true := by kernel_rfl
theorem wm18_0 : lawRunN 4 [.lin .i64 (-2147483640) [⟨(-1), 0, 0, 8⟩], .mod 12 0] = true := by kernel_rfl
theorem wm18_1 : lawRunN 4 [.lin .i64 (-2147483640) [⟨(-1), 0, 0, 8⟩], .mod 12 1] = true := by kernel_rfl
theorem wm18_2 : lawRunN 4 [.lin .i64 (-2147483640) [⟨(-1), 0, 0, 8⟩], .mod 12 2] = true := by kernel_rfl
theorem wm18_3 : lawRunN 4 [.lin .i64 (-2147483640) [⟨(-1), 0, 0, 8⟩], .mod 12 3] = true := by kernel_rfl
theorem wm18_4 : lawRunN 4 [.lin .i64 (-2147483640) [⟨(-1), 0, 0, 8⟩], .mod 12 4] = true := by kernel_rfl
theorem wm18_5 : lawRunN 4 [.lin .i64 (-2147483640) [⟨(-1), 0, 0, 8⟩], .mod 12 5] = true := by kernel_rfl
theorem wm18_6 : lawRunN 4 [.lin .i64 (-2147483640) [⟨(-1), 0, 0, 8⟩], .mod 12 6] = true := by kernel_rfl
theorem wm18_7 : lawRunN 4 [.lin .i64 (-2147483640) [⟨(-1), 0, 0, 8⟩], .mod 12 7] = true := by kernel_rfl
theorem wm18_8 : lawRunN 4 [.lin .i64 (-2147483640) [⟨(-1), 0, 0, 8⟩], .mod 12 8] = true := by kernel_rfl
theorem wm18_9 : lawRunN 4 [.lin .i64 (-2147483640) [⟨(-1), 0, 0, 8⟩], .mod 12 9] = true := by kernel_rfl
theorem wm18_10 : lawRunN 4 [.lin .i64 (-2147483640) [⟨(-1), 0, 0, 8⟩], .mod 12 10] = true := by kernel_rfl
theorem wm18_11 : lawRunN 4 [.lin .i64 (-2147483640) [⟨(-1), 0, 0, 8⟩], .mod 12 11] = true := by kernel_rfl
end Go.Proofs.YtbfdgdigaiimgaaDoor.HM
