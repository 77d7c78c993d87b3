/- fleuronlaw6.SelectorWeights: cases by runs of the fast machine (part 8). -/
import Derived.Test.YtinaapfnfiijnaaGreatDoorQ3
import Derived.KernelRfl
namespace Go.Proofs.YtinaapfnfiijnaaGreatDoor.Sel
open Go Go.RowKit
theorem sw3_3_0_0 : HM.lawRun 3 [.int .i64 3, .int .i64 3, .int .i64 0, .mod 5 0] = true := by kernel_rfl
theorem sw3_3_0_1 : HM.lawRun 3 [.int .i64 3, .int .i64 3, .int .i64 0, .mod 5 1] = true := by kernel_rfl
theorem sw3_3_0_2 : HM.lawRun 3 [.int .i64 3, .int .i64 3, .int .i64 0, .mod 5 2] = true := by kernel_rfl
theorem sw3_3_0_3 : HM.lawRun 3 [.int .i64 3, .int .i64 3, .int .i64 0, .mod 5 3] = true := by kernel_rfl
theorem sw3_3_0_4 : HM.lawRun 3 [.int .i64 3, .int .i64 3, .int .i64 0, .mod 5 4] = true := by kernel_rfl
theorem sw3_3_1_0 : HM.lawRun 3 [.int .i64 3, .int .i64 3, .int .i64 1, .mod 5 0] = true := by kernel_rfl
theorem sw3_3_1_1 : HM.lawRun 3 [.int .i64 3, .int .i64 3, .int .i64 1, .mod 5 1] = true := by kernel_rfl
theorem sw3_3_1_2 : HM.lawRun 3 [.int .i64 3, .int .i64 3, .int .i64 1, .mod 5 2] = true := by kernel_rfl
theorem sw3_3_1_3 : HM.lawRun 3 [.int .i64 3, .int .i64 3, .int .i64 1, .mod 5 3] = true := by kernel_rfl
theorem sw3_3_1_4 : HM.lawRun 3 [.int .i64 3, .int .i64 3, .int .i64 1, .mod 5 4] = true := by kernel_rfl
theorem sw3_3_2_0 : HM.lawRun 3 [.int .i64 3, .int .i64 3, .int .i64 2, .mod 5 0] = true := by kernel_rfl
theorem sw3_3_2_1 : HM.lawRun 3 [.int .i64 3, .int .i64 3, .int .i64 2, .mod 5 1] = true := by kernel_rfl
theorem sw3_3_2_2 : HM.lawRun 3 [.int .i64 3, .int .i64 3, .int .i64 2, .mod 5 2] = true := by kernel_rfl
theorem sw3_3_2_3 : HM.lawRun 3 [.int .i64 3, .int .i64 3, .int .i64 2, .mod 5 3] = true := by kernel_rfl
theorem sw3_3_2_4 : HM.lawRun 3 [.int .i64 3, .int .i64 3, .int .i64 2, .mod 5 4] = true := by kernel_rfl
theorem sw3_3_3_0 : HM.lawRun 3 [.int .i64 3, .int .i64 3, .int .i64 3, .mod 5 0] = true := by kernel_rfl
theorem sw3_3_3_1 : HM.lawRun 3 [.int .i64 3, .int .i64 3, .int .i64 3, .mod 5 1] = true := by kernel_rfl
theorem sw3_3_3_2 : HM.lawRun 3 [.int .i64 3, .int .i64 3, .int .i64 3, .mod 5 2] = true := by kernel_rfl
theorem sw3_3_3_3 : HM.lawRun 3 [.int .i64 3, .int .i64 3, .int .i64 3, .mod 5 3] = true := by kernel_rfl
theorem sw3_3_3_4 : HM.lawRun 3 [.int .i64 3, .int .i64 3, .int .i64 3, .mod 5 4] = true := by kernel_rfl
theorem sw3_4_0_0 : HM.lawRun 3 [.int .i64 3, .int .i64 4, .int .i64 0, .mod 5 0] = true := by kernel_rfl
theorem sw3_4_0_1 : HM.lawRun 3 [.int .i64 3, .int .i64 4, .int .i64 0, .mod 5 1] = true := by kernel_rfl
theorem sw3_4_0_2 : HM.lawRun 3 [.int .i64 3, .int .i64 4, .int .i64 0, .mod 5 2] = true := by kernel_rfl
theorem sw3_4_0_3 : HM.lawRun 3 [.int .i64 3, .int .i64 4, .int .i64 0, .mod 5 3] = true := by kernel_rfl
theorem sw3_4_0_4 : HM.lawRun 3 [.int .i64 3, .int .i64 4, .int .i64 0, .mod 5 4] = true := by kernel_rfl
theorem sw3_4_1_0 : HM.lawRun 3 [.int .i64 3, .int .i64 4, .int .i64 1, .mod 5 0] = true := by kernel_rfl
theorem sw3_4_1_1 : HM.lawRun 3 [.int .i64 3, .int .i64 4, .int .i64 1, .mod 5 1] = true := by kernel_rfl
theorem sw3_4_1_2 : HM.lawRun 3 [.int .i64 3, .int .i64 4, .int .i64 1, .mod 5 2] = true := by kernel_rfl
theorem sw3_4_1_3 : HM.lawRun 3 [.int .i64 3, .int .i64 4, .int .i64 1, .mod 5 3] = true := by kernel_rfl
theorem sw3_4_1_4 : HM.lawRun 3 [.int .i64 3, .int .i64 4, .int .i64 1, .mod 5 4] = true := by kernel_rfl
theorem sw3_4_2_0 : HM.lawRun 3 [.int .i64 3, .int .i64 4, .int .i64 2, .mod 5 0] = true := by kernel_rfl
theorem sw3_4_2_1 : HM.lawRun 3 [.int .i64 3, .int .i64 4, .int .i64 2, .mod 5 1] = true := by kernel_rfl
theorem sw3_4_2_2 : HM.lawRun 3 [.int .i64 3, .int .i64 4, .int .i64 2, .mod 5 2] = true := by kernel_rfl
theorem sw3_4_2_3 : HM.lawRun 3 [.int .i64 3, .int .i64 4, .int .i64 2, .mod 5 3] = true := by kernel_rfl
theorem sw3_4_2_4 : HM.lawRun 3 [.int .i64 3, .int .i64 4, .int .i64 2, .mod 5 4] = true := by kernel_rfl
theorem sw3_4_3_0 : HM.lawRun 3 [.int .i64 3, .int .i64 4, .int .i64 3, .mod 5 0] = true := by kernel_rfl
theorem sw3_4_3_1 : HM.lawRun 3 [.int .i64 3, .int .i64 4, .int .i64 3, .mod 5 1] = true := by kernel_rfl
theorem sw3_4_3_2 : HM.lawRun 3 [.int .i64 3, .int .i64 4, .int .i64 3, .mod 5 2] = true := by kernel_rfl
theorem sw3_4_3_3 : HM.lawRun 3 [.int .i64 3, .int .i64 4, .int .i64 3, .mod 5 3] = true := by kernel_rfl
theorem sw3_4_3_4 : HM.lawRun 3 [.int .i64 3, .int .i64 4, .int .i64 3, .mod 5 4] = true := by kernel_rfl
theorem sw3_5_0_0 : HM.lawRun 3 [.int .i64 3, .int .i64 5, .int .i64 0, .mod 5 0] = true := by kernel_rfl
theorem sw3_5_0_1 : HM.lawRun 3 [.int .i64 3, .int .i64 5, .int .i64 0, .mod 5 1] = true := by kernel_rfl
theorem sw3_5_0_2 : HM.lawRun 3 [.int .i64 3, .int .i64 5, .int .i64 0, .mod 5 2] = true := by kernel_rfl
theorem sw3_5_0_3 : HM.lawRun 3 [.int .i64 3, .int .i64 5, .int .i64 0, .mod 5 3] = true := by kernel_rfl
theorem sw3_5_0_4 : HM.lawRun 3 [.int .i64 3, .int .i64 5, .int .i64 0, .mod 5 4] = true := by kernel_rfl
theorem sw3_5_1_0 : HM.lawRun 3 [.int .i64 3, .int .i64 5, .int .i64 1, .mod 5 0] = true := by kernel_rfl
theorem sw3_5_1_1 : HM.lawRun 3 [.int .i64 3, .int .i64 5, .int .i64 1, .mod 5 1] = true := by kernel_rfl
theorem sw3_5_1_2 : HM.lawRun 3 [.int .i64 3, .int .i64 5, .int .i64 1, .mod 5 2] = true := by kernel_rfl
theorem sw3_5_1_3 : HM.lawRun 3 [.int .i64 3, .int .i64 5, .int .i64 1, .mod 5 3] = true := by kernel_rfl
theorem sw3_5_1_4 : HM.lawRun 3 [.int .i64 3, .int .i64 5, .int .i64 1, .mod 5 4] = true := by kernel_rfl
theorem sw3_5_2_0 : HM.lawRun 3 [.int .i64 3, .int .i64 5, .int .i64 2, .mod 5 0] = true := by kernel_rfl
theorem sw3_5_2_1 : HM.lawRun 3 [.int .i64 3, .int .i64 5, .int .i64 2, .mod 5 1] = true := by kernel_rfl
theorem sw3_5_2_2 : HM.lawRun 3 [.int .i64 3, .int .i64 5, .int .i64 2, .mod 5 2] = true := by kernel_rfl
theorem sw3_5_2_3 : HM.lawRun 3 [.int .i64 3, .int .i64 5, .int .i64 2, .mod 5 3] = true := by kernel_rfl
theorem sw3_5_2_4 : HM.lawRun 3 [.int .i64 3, .int .i64 5, .int .i64 2, .mod 5 4] = true := by kernel_rfl
theorem sw3_5_3_0 : HM.lawRun 3 [.int .i64 3, .int .i64 5, .int .i64 3, .mod 5 0] = true := by kernel_rfl
theorem sw3_5_3_1 : HM.lawRun 3 [.int .i64 3, .int .i64 5, .int .i64 3, .mod 5 1] = true := by kernel_rfl
theorem sw3_5_3_2 : HM.lawRun 3 [.int .i64 3, .int .i64 5, .int .i64 3, .mod 5 2] = true := by kernel_rfl
theorem sw3_5_3_3 : HM.lawRun 3 [.int .i64 3, .int .i64 5, .int .i64 3, .mod 5 3] = true := by kernel_rfl
theorem sw3_5_3_4 : HM.lawRun 3 [.int .i64 3, .int .i64 5, .int .i64 3, .mod 5 4] = true := by kernel_rfl
end Go.Proofs.YtinaapfnfiijnaaGreatDoor.Sel
