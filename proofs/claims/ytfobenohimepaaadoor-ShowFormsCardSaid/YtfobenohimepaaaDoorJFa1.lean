/- Runs of fleuronlaw22.ShowForms. -/
import Derived.Test.YtfobenohimepaaaDoorJQP
import Derived.Test.YtfobenohimepaaaDoorHG
import Derived.KernelRfl
namespace Go.Proofs.YtfobenohimepaaaDoor.HM
open Go Go.RowKit
theorem sf_z_0 : lawRun 5 [.mod 15 0, .int .i64 0] = true := by kernel_rfl
theorem sf_z_1 : lawRun 5 [.mod 15 1, .int .i64 0] = true := by kernel_rfl
theorem sf_z_2 : lawRun 5 [.mod 15 2, .int .i64 0] = true := by kernel_rfl
theorem sf_z_3 : lawRun 5 [.mod 15 3, .int .i64 0] = true := by kernel_rfl
theorem sf_z_4 : lawRun 5 [.mod 15 4, .int .i64 0] = true := by kernel_rfl
theorem sf_z_5 : lawRun 5 [.mod 15 5, .int .i64 0] = true := by kernel_rfl
theorem sf_z_6 : lawRun 5 [.mod 15 6, .int .i64 0] = true := by kernel_rfl
theorem sf_z_7 : lawRun 5 [.mod 15 7, .int .i64 0] = true := by kernel_rfl
theorem sf_z_8 : lawRun 5 [.mod 15 8, .int .i64 0] = true := by kernel_rfl
theorem sf_z_9 : lawRun 5 [.mod 15 9, .int .i64 0] = true := by kernel_rfl
theorem sf_z_10 : lawRun 5 [.mod 15 10, .int .i64 0] = true := by kernel_rfl
theorem sf_z_11 : lawRun 5 [.mod 15 11, .int .i64 0] = true := by kernel_rfl
theorem sf_z_12 : lawRun 5 [.mod 15 12, .int .i64 0] = true := by kernel_rfl
theorem sf_z_13 : lawRun 5 [.mod 15 13, .int .i64 0] = true := by kernel_rfl
theorem sf_z_14 : lawRun 5 [.mod 15 14, .int .i64 0] = true := by kernel_rfl
theorem sf_d2_0 : lawRun 5 [.mod 15 0, .lin .i64 0 (terms 1 9 2 0 1)] = true := by kernel_rfl
theorem sf_d2_1 : lawRun 5 [.mod 15 1, .lin .i64 0 (terms 1 9 2 0 1)] = true := by kernel_rfl
theorem sf_d2_2 : lawRun 5 [.mod 15 2, .lin .i64 0 (terms 1 9 2 0 1)] = true := by kernel_rfl
theorem sf_d2_3 : lawRun 5 [.mod 15 3, .lin .i64 0 (terms 1 9 2 0 1)] = true := by kernel_rfl
theorem sf_d2_4 : lawRun 5 [.mod 15 4, .lin .i64 0 (terms 1 9 2 0 1)] = true := by kernel_rfl
theorem sf_d2_5 : lawRun 5 [.mod 15 5, .lin .i64 0 (terms 1 9 2 0 1)] = true := by kernel_rfl
theorem sf_d2_6 : lawRun 5 [.mod 15 6, .lin .i64 0 (terms 1 9 2 0 1)] = true := by kernel_rfl
theorem sf_d2_7 : lawRun 5 [.mod 15 7, .lin .i64 0 (terms 1 9 2 0 1)] = true := by kernel_rfl
theorem sf_d2_8 : lawRun 5 [.mod 15 8, .lin .i64 0 (terms 1 9 2 0 1)] = true := by kernel_rfl
theorem sf_d2_9 : lawRun 5 [.mod 15 9, .lin .i64 0 (terms 1 9 2 0 1)] = true := by kernel_rfl
theorem sf_d2_10 : lawRun 5 [.mod 15 10, .lin .i64 0 (terms 1 9 2 0 1)] = true := by kernel_rfl
theorem sf_d2_11 : lawRun 5 [.mod 15 11, .lin .i64 0 (terms 1 9 2 0 1)] = true := by kernel_rfl
theorem sf_d2_12 : lawRun 5 [.mod 15 12, .lin .i64 0 (terms 1 9 2 0 1)] = true := by kernel_rfl
theorem sf_d2_13 : lawRun 5 [.mod 15 13, .lin .i64 0 (terms 1 9 2 0 1)] = true := by kernel_rfl
theorem sf_d2_14 : lawRun 5 [.mod 15 14, .lin .i64 0 (terms 1 9 2 0 1)] = true := by kernel_rfl
theorem sf_d5_0 : lawRun 5 [.mod 15 0, .lin .i64 0 (terms 1 9 5 0 1)] = true := by kernel_rfl
theorem sf_d5_1 : lawRun 5 [.mod 15 1, .lin .i64 0 (terms 1 9 5 0 1)] = true := by kernel_rfl
theorem sf_d5_2 : lawRun 5 [.mod 15 2, .lin .i64 0 (terms 1 9 5 0 1)] = true := by kernel_rfl
theorem sf_d5_3 : lawRun 5 [.mod 15 3, .lin .i64 0 (terms 1 9 5 0 1)] = true := by kernel_rfl
theorem sf_d5_4 : lawRun 5 [.mod 15 4, .lin .i64 0 (terms 1 9 5 0 1)] = true := by kernel_rfl
theorem sf_d5_5 : lawRun 5 [.mod 15 5, .lin .i64 0 (terms 1 9 5 0 1)] = true := by kernel_rfl
theorem sf_d5_6 : lawRun 5 [.mod 15 6, .lin .i64 0 (terms 1 9 5 0 1)] = true := by kernel_rfl
theorem sf_d5_7 : lawRun 5 [.mod 15 7, .lin .i64 0 (terms 1 9 5 0 1)] = true := by kernel_rfl
theorem sf_d5_8 : lawRun 5 [.mod 15 8, .lin .i64 0 (terms 1 9 5 0 1)] = true := by kernel_rfl
theorem sf_d5_9 : lawRun 5 [.mod 15 9, .lin .i64 0 (terms 1 9 5 0 1)] = true := by kernel_rfl
theorem sf_d5_10 : lawRun 5 [.mod 15 10, .lin .i64 0 (terms 1 9 5 0 1)] = true := by kernel_rfl
theorem sf_d5_11 : lawRun 5 [.mod 15 11, .lin .i64 0 (terms 1 9 5 0 1)] = true := by kernel_rfl
theorem sf_d5_12 : lawRun 5 [.mod 15 12, .lin .i64 0 (terms 1 9 5 0 1)] = true := by kernel_rfl
theorem sf_d5_13 : lawRun 5 [.mod 15 13, .lin .i64 0 (terms 1 9 5 0 1)] = true := by kernel_rfl
theorem sf_d5_14 : lawRun 5 [.mod 15 14, .lin .i64 0 (terms 1 9 5 0 1)] = true := by kernel_rfl
end Go.Proofs.YtfobenohimepaaaDoor.HM
