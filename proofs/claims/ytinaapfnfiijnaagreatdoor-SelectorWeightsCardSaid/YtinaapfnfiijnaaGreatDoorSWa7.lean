/- fleuronlaw6.SelectorWeights: cases by runs of the fast machine (part 7). -/
import Derived.Test.YtinaapfnfiijnaaGreatDoorQ3
import Derived.KernelRfl
namespace Go.Proofs.YtinaapfnfiijnaaGreatDoor.Sel
open Go Go.RowKit
theorem sw3_0_0_0 : HM.lawRun 3 [.int .i64 3, .int .i64 0, .int .i64 0, .mod 5 0] = true := by kernel_rfl
theorem sw3_0_0_1 : HM.lawRun 3 [.int .i64 3, .int .i64 0, .int .i64 0, .mod 5 1] = true := by kernel_rfl
theorem sw3_0_0_2 : HM.lawRun 3 [.int .i64 3, .int .i64 0, .int .i64 0, .mod 5 2] = true := by kernel_rfl
theorem sw3_0_0_3 : HM.lawRun 3 [.int .i64 3, .int .i64 0, .int .i64 0, .mod 5 3] = true := by kernel_rfl
theorem sw3_0_0_4 : HM.lawRun 3 [.int .i64 3, .int .i64 0, .int .i64 0, .mod 5 4] = true := by kernel_rfl
theorem sw3_0_1_0 : HM.lawRun 3 [.int .i64 3, .int .i64 0, .int .i64 1, .mod 5 0] = true := by kernel_rfl
theorem sw3_0_1_1 : HM.lawRun 3 [.int .i64 3, .int .i64 0, .int .i64 1, .mod 5 1] = true := by kernel_rfl
theorem sw3_0_1_2 : HM.lawRun 3 [.int .i64 3, .int .i64 0, .int .i64 1, .mod 5 2] = true := by kernel_rfl
theorem sw3_0_1_3 : HM.lawRun 3 [.int .i64 3, .int .i64 0, .int .i64 1, .mod 5 3] = true := by kernel_rfl
theorem sw3_0_1_4 : HM.lawRun 3 [.int .i64 3, .int .i64 0, .int .i64 1, .mod 5 4] = true := by kernel_rfl
theorem sw3_0_2_0 : HM.lawRun 3 [.int .i64 3, .int .i64 0, .int .i64 2, .mod 5 0] = true := by kernel_rfl
theorem sw3_0_2_1 : HM.lawRun 3 [.int .i64 3, .int .i64 0, .int .i64 2, .mod 5 1] = true := by kernel_rfl
theorem sw3_0_2_2 : HM.lawRun 3 [.int .i64 3, .int .i64 0, .int .i64 2, .mod 5 2] = true := by kernel_rfl
theorem sw3_0_2_3 : HM.lawRun 3 [.int .i64 3, .int .i64 0, .int .i64 2, .mod 5 3] = true := by kernel_rfl
theorem sw3_0_2_4 : HM.lawRun 3 [.int .i64 3, .int .i64 0, .int .i64 2, .mod 5 4] = true := by kernel_rfl
theorem sw3_0_3_0 : HM.lawRun 3 [.int .i64 3, .int .i64 0, .int .i64 3, .mod 5 0] = true := by kernel_rfl
theorem sw3_0_3_1 : HM.lawRun 3 [.int .i64 3, .int .i64 0, .int .i64 3, .mod 5 1] = true := by kernel_rfl
theorem sw3_0_3_2 : HM.lawRun 3 [.int .i64 3, .int .i64 0, .int .i64 3, .mod 5 2] = true := by kernel_rfl
theorem sw3_0_3_3 : HM.lawRun 3 [.int .i64 3, .int .i64 0, .int .i64 3, .mod 5 3] = true := by kernel_rfl
theorem sw3_0_3_4 : HM.lawRun 3 [.int .i64 3, .int .i64 0, .int .i64 3, .mod 5 4] = true := by kernel_rfl
theorem sw3_1_0_0 : HM.lawRun 3 [.int .i64 3, .int .i64 1, .int .i64 0, .mod 5 0] = true := by kernel_rfl
theorem sw3_1_0_1 : HM.lawRun 3 [.int .i64 3, .int .i64 1, .int .i64 0, .mod 5 1] = true := by kernel_rfl
theorem sw3_1_0_2 : HM.lawRun 3 [.int .i64 3, .int .i64 1, .int .i64 0, .mod 5 2] = true := by kernel_rfl
theorem sw3_1_0_3 : HM.lawRun 3 [.int .i64 3, .int .i64 1, .int .i64 0, .mod 5 3] = true := by kernel_rfl
theorem sw3_1_0_4 : HM.lawRun 3 [.int .i64 3, .int .i64 1, .int .i64 0, .mod 5 4] = true := by kernel_rfl
theorem sw3_1_1_0 : HM.lawRun 3 [.int .i64 3, .int .i64 1, .int .i64 1, .mod 5 0] = true := by kernel_rfl
theorem sw3_1_1_1 : HM.lawRun 3 [.int .i64 3, .int .i64 1, .int .i64 1, .mod 5 1] = true := by kernel_rfl
theorem sw3_1_1_2 : HM.lawRun 3 [.int .i64 3, .int .i64 1, .int .i64 1, .mod 5 2] = true := by kernel_rfl
theorem sw3_1_1_3 : HM.lawRun 3 [.int .i64 3, .int .i64 1, .int .i64 1, .mod 5 3] = true := by kernel_rfl
theorem sw3_1_1_4 : HM.lawRun 3 [.int .i64 3, .int .i64 1, .int .i64 1, .mod 5 4] = true := by kernel_rfl
theorem sw3_1_2_0 : HM.lawRun 3 [.int .i64 3, .int .i64 1, .int .i64 2, .mod 5 0] = true := by kernel_rfl
theorem sw3_1_2_1 : HM.lawRun 3 [.int .i64 3, .int .i64 1, .int .i64 2, .mod 5 1] = true := by kernel_rfl
theorem sw3_1_2_2 : HM.lawRun 3 [.int .i64 3, .int .i64 1, .int .i64 2, .mod 5 2] = true := by kernel_rfl
theorem sw3_1_2_3 : HM.lawRun 3 [.int .i64 3, .int .i64 1, .int .i64 2, .mod 5 3] = true := by kernel_rfl
theorem sw3_1_2_4 : HM.lawRun 3 [.int .i64 3, .int .i64 1, .int .i64 2, .mod 5 4] = true := by kernel_rfl
theorem sw3_1_3_0 : HM.lawRun 3 [.int .i64 3, .int .i64 1, .int .i64 3, .mod 5 0] = true := by kernel_rfl
theorem sw3_1_3_1 : HM.lawRun 3 [.int .i64 3, .int .i64 1, .int .i64 3, .mod 5 1] = true := by kernel_rfl
theorem sw3_1_3_2 : HM.lawRun 3 [.int .i64 3, .int .i64 1, .int .i64 3, .mod 5 2] = true := by kernel_rfl
theorem sw3_1_3_3 : HM.lawRun 3 [.int .i64 3, .int .i64 1, .int .i64 3, .mod 5 3] = true := by kernel_rfl
theorem sw3_1_3_4 : HM.lawRun 3 [.int .i64 3, .int .i64 1, .int .i64 3, .mod 5 4] = true := by kernel_rfl
theorem sw3_2_0_0 : HM.lawRun 3 [.int .i64 3, .int .i64 2, .int .i64 0, .mod 5 0] = true := by kernel_rfl
theorem sw3_2_0_1 : HM.lawRun 3 [.int .i64 3, .int .i64 2, .int .i64 0, .mod 5 1] = true := by kernel_rfl
theorem sw3_2_0_2 : HM.lawRun 3 [.int .i64 3, .int .i64 2, .int .i64 0, .mod 5 2] = true := by kernel_rfl
theorem sw3_2_0_3 : HM.lawRun 3 [.int .i64 3, .int .i64 2, .int .i64 0, .mod 5 3] = true := by kernel_rfl
theorem sw3_2_0_4 : HM.lawRun 3 [.int .i64 3, .int .i64 2, .int .i64 0, .mod 5 4] = true := by kernel_rfl
theorem sw3_2_1_0 : HM.lawRun 3 [.int .i64 3, .int .i64 2, .int .i64 1, .mod 5 0] = true := by kernel_rfl
theorem sw3_2_1_1 : HM.lawRun 3 [.int .i64 3, .int .i64 2, .int .i64 1, .mod 5 1] = true := by kernel_rfl
theorem sw3_2_1_2 : HM.lawRun 3 [.int .i64 3, .int .i64 2, .int .i64 1, .mod 5 2] = true := by kernel_rfl
theorem sw3_2_1_3 : HM.lawRun 3 [.int .i64 3, .int .i64 2, .int .i64 1, .mod 5 3] = true := by kernel_rfl
theorem sw3_2_1_4 : HM.lawRun 3 [.int .i64 3, .int .i64 2, .int .i64 1, .mod 5 4] = true := by kernel_rfl
theorem sw3_2_2_0 : HM.lawRun 3 [.int .i64 3, .int .i64 2, .int .i64 2, .mod 5 0] = true := by kernel_rfl
theorem sw3_2_2_1 : HM.lawRun 3 [.int .i64 3, .int .i64 2, .int .i64 2, .mod 5 1] = true := by kernel_rfl
theorem sw3_2_2_2 : HM.lawRun 3 [.int .i64 3, .int .i64 2, .int .i64 2, .mod 5 2] = true := by kernel_rfl
theorem sw3_2_2_3 : HM.lawRun 3 [.int .i64 3, .int .i64 2, .int .i64 2, .mod 5 3] = true := by kernel_rfl
theorem sw3_2_2_4 : HM.lawRun 3 [.int .i64 3, .int .i64 2, .int .i64 2, .mod 5 4] = true := by kernel_rfl
theorem sw3_2_3_0 : HM.lawRun 3 [.int .i64 3, .int .i64 2, .int .i64 3, .mod 5 0] = true := by kernel_rfl
theorem sw3_2_3_1 : HM.lawRun 3 [.int .i64 3, .int .i64 2, .int .i64 3, .mod 5 1] = true := by kernel_rfl
theorem sw3_2_3_2 : HM.lawRun 3 [.int .i64 3, .int .i64 2, .int .i64 3, .mod 5 2] = true := by kernel_rfl
theorem sw3_2_3_3 : HM.lawRun 3 [.int .i64 3, .int .i64 2, .int .i64 3, .mod 5 3] = true := by kernel_rfl
theorem sw3_2_3_4 : HM.lawRun 3 [.int .i64 3, .int .i64 2, .int .i64 3, .mod 5 4] = true := by kernel_rfl
end Go.Proofs.YtinaapfnfiijnaaGreatDoor.Sel
