/- Runs of fleuronlaw22.ShowForms. -/
import Derived.Test.YtfobenohimepaaaDoorJQP
import Derived.Test.YtfobenohimepaaaDoorHG
import Derived.KernelRfl
namespace Go.Proofs.YtfobenohimepaaaDoor.HM
open Go Go.RowKit
theorem sf_d1_0 : lawRun 5 [.mod 15 0, .lin .i64 0 (terms 1 9 1 0 1)] = true := by kernel_rfl
theorem sf_d1_1 : lawRun 5 [.mod 15 1, .lin .i64 0 (terms 1 9 1 0 1)] = true := by kernel_rfl
theorem sf_d1_2 : lawRun 5 [.mod 15 2, .lin .i64 0 (terms 1 9 1 0 1)] = true := by kernel_rfl
theorem sf_d1_3 : lawRun 5 [.mod 15 3, .lin .i64 0 (terms 1 9 1 0 1)] = true := by kernel_rfl
theorem sf_d1_4 : lawRun 5 [.mod 15 4, .lin .i64 0 (terms 1 9 1 0 1)] = true := by kernel_rfl
theorem sf_d1_5 : lawRun 5 [.mod 15 5, .lin .i64 0 (terms 1 9 1 0 1)] = true := by kernel_rfl
theorem sf_d1_6 : lawRun 5 [.mod 15 6, .lin .i64 0 (terms 1 9 1 0 1)] = true := by kernel_rfl
theorem sf_d1_7 : lawRun 5 [.mod 15 7, .lin .i64 0 (terms 1 9 1 0 1)] = true := by kernel_rfl
theorem sf_d1_8 : lawRun 5 [.mod 15 8, .lin .i64 0 (terms 1 9 1 0 1)] = true := by kernel_rfl
theorem sf_d1_9 : lawRun 5 [.mod 15 9, .lin .i64 0 (terms 1 9 1 0 1)] = true := by kernel_rfl
theorem sf_d1_10 : lawRun 5 [.mod 15 10, .lin .i64 0 (terms 1 9 1 0 1)] = true := by kernel_rfl
theorem sf_d1_11 : lawRun 5 [.mod 15 11, .lin .i64 0 (terms 1 9 1 0 1)] = true := by kernel_rfl
theorem sf_d1_12 : lawRun 5 [.mod 15 12, .lin .i64 0 (terms 1 9 1 0 1)] = true := by kernel_rfl
theorem sf_d1_13 : lawRun 5 [.mod 15 13, .lin .i64 0 (terms 1 9 1 0 1)] = true := by kernel_rfl
theorem sf_d1_14 : lawRun 5 [.mod 15 14, .lin .i64 0 (terms 1 9 1 0 1)] = true := by kernel_rfl
theorem sf_d4_0 : lawRun 5 [.mod 15 0, .lin .i64 0 (terms 1 9 4 0 1)] = true := by kernel_rfl
theorem sf_d4_1 : lawRun 5 [.mod 15 1, .lin .i64 0 (terms 1 9 4 0 1)] = true := by kernel_rfl
theorem sf_d4_2 : lawRun 5 [.mod 15 2, .lin .i64 0 (terms 1 9 4 0 1)] = true := by kernel_rfl
theorem sf_d4_3 : lawRun 5 [.mod 15 3, .lin .i64 0 (terms 1 9 4 0 1)] = true := by kernel_rfl
theorem sf_d4_4 : lawRun 5 [.mod 15 4, .lin .i64 0 (terms 1 9 4 0 1)] = true := by kernel_rfl
theorem sf_d4_5 : lawRun 5 [.mod 15 5, .lin .i64 0 (terms 1 9 4 0 1)] = true := by kernel_rfl
theorem sf_d4_6 : lawRun 5 [.mod 15 6, .lin .i64 0 (terms 1 9 4 0 1)] = true := by kernel_rfl
theorem sf_d4_7 : lawRun 5 [.mod 15 7, .lin .i64 0 (terms 1 9 4 0 1)] = true := by kernel_rfl
theorem sf_d4_8 : lawRun 5 [.mod 15 8, .lin .i64 0 (terms 1 9 4 0 1)] = true := by kernel_rfl
theorem sf_d4_9 : lawRun 5 [.mod 15 9, .lin .i64 0 (terms 1 9 4 0 1)] = true := by kernel_rfl
theorem sf_d4_10 : lawRun 5 [.mod 15 10, .lin .i64 0 (terms 1 9 4 0 1)] = true := by kernel_rfl
theorem sf_d4_11 : lawRun 5 [.mod 15 11, .lin .i64 0 (terms 1 9 4 0 1)] = true := by kernel_rfl
theorem sf_d4_12 : lawRun 5 [.mod 15 12, .lin .i64 0 (terms 1 9 4 0 1)] = true := by kernel_rfl
theorem sf_d4_13 : lawRun 5 [.mod 15 13, .lin .i64 0 (terms 1 9 4 0 1)] = true := by kernel_rfl
theorem sf_d4_14 : lawRun 5 [.mod 15 14, .lin .i64 0 (terms 1 9 4 0 1)] = true := by kernel_rfl
end Go.Proofs.YtfobenohimepaaaDoor.HM
