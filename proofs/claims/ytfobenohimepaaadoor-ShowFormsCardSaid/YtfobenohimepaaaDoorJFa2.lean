/- Runs of fleuronlaw22.ShowForms. -/
import Derived.Test.YtfobenohimepaaaDoorJQP
import Derived.Test.YtfobenohimepaaaDoorHG
import Derived.KernelRfl
namespace Go.Proofs.YtfobenohimepaaaDoor.HM
open Go Go.RowKit
theorem sf_h_0 : lawRun 5 [.mod 15 0, .int .i64 100000] = true := by kernel_rfl
theorem sf_h_1 : lawRun 5 [.mod 15 1, .int .i64 100000] = true := by kernel_rfl
theorem sf_h_2 : lawRun 5 [.mod 15 2, .int .i64 100000] = true := by kernel_rfl
theorem sf_h_3 : lawRun 5 [.mod 15 3, .int .i64 100000] = true := by kernel_rfl
theorem sf_h_4 : lawRun 5 [.mod 15 4, .int .i64 100000] = true := by kernel_rfl
theorem sf_h_5 : lawRun 5 [.mod 15 5, .int .i64 100000] = true := by kernel_rfl
theorem sf_h_6 : lawRun 5 [.mod 15 6, .int .i64 100000] = true := by kernel_rfl
theorem sf_h_7 : lawRun 5 [.mod 15 7, .int .i64 100000] = true := by kernel_rfl
theorem sf_h_8 : lawRun 5 [.mod 15 8, .int .i64 100000] = true := by kernel_rfl
theorem sf_h_9 : lawRun 5 [.mod 15 9, .int .i64 100000] = true := by kernel_rfl
theorem sf_h_10 : lawRun 5 [.mod 15 10, .int .i64 100000] = true := by kernel_rfl
theorem sf_h_11 : lawRun 5 [.mod 15 11, .int .i64 100000] = true := by kernel_rfl
theorem sf_h_12 : lawRun 5 [.mod 15 12, .int .i64 100000] = true := by kernel_rfl
theorem sf_h_13 : lawRun 5 [.mod 15 13, .int .i64 100000] = true := by kernel_rfl
theorem sf_h_14 : lawRun 5 [.mod 15 14, .int .i64 100000] = true := by kernel_rfl
theorem sf_d3_0 : lawRun 5 [.mod 15 0, .lin .i64 0 (terms 1 9 3 0 1)] = true := by kernel_rfl
theorem sf_d3_1 : lawRun 5 [.mod 15 1, .lin .i64 0 (terms 1 9 3 0 1)] = true := by kernel_rfl
theorem sf_d3_2 : lawRun 5 [.mod 15 2, .lin .i64 0 (terms 1 9 3 0 1)] = true := by kernel_rfl
theorem sf_d3_3 : lawRun 5 [.mod 15 3, .lin .i64 0 (terms 1 9 3 0 1)] = true := by kernel_rfl
theorem sf_d3_4 : lawRun 5 [.mod 15 4, .lin .i64 0 (terms 1 9 3 0 1)] = true := by kernel_rfl
theorem sf_d3_5 : lawRun 5 [.mod 15 5, .lin .i64 0 (terms 1 9 3 0 1)] = true := by kernel_rfl
theorem sf_d3_6 : lawRun 5 [.mod 15 6, .lin .i64 0 (terms 1 9 3 0 1)] = true := by kernel_rfl
theorem sf_d3_7 : lawRun 5 [.mod 15 7, .lin .i64 0 (terms 1 9 3 0 1)] = true := by kernel_rfl
theorem sf_d3_8 : lawRun 5 [.mod 15 8, .lin .i64 0 (terms 1 9 3 0 1)] = true := by kernel_rfl
theorem sf_d3_9 : lawRun 5 [.mod 15 9, .lin .i64 0 (terms 1 9 3 0 1)] = true := by kernel_rfl
theorem sf_d3_10 : lawRun 5 [.mod 15 10, .lin .i64 0 (terms 1 9 3 0 1)] = true := by kernel_rfl
theorem sf_d3_11 : lawRun 5 [.mod 15 11, .lin .i64 0 (terms 1 9 3 0 1)] = true := by kernel_rfl
theorem sf_d3_12 : lawRun 5 [.mod 15 12, .lin .i64 0 (terms 1 9 3 0 1)] = true := by kernel_rfl
theorem sf_d3_13 : lawRun 5 [.mod 15 13, .lin .i64 0 (terms 1 9 3 0 1)] = true := by kernel_rfl
theorem sf_d3_14 : lawRun 5 [.mod 15 14, .lin .i64 0 (terms 1 9 3 0 1)] = true := by kernel_rfl
end Go.Proofs.YtfobenohimepaaaDoor.HM
