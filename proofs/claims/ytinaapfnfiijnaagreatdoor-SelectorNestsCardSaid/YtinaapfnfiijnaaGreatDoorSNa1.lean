/- fleuronlaw6.SelectorNests: cases by runs of the fast machine (part 1). -/
import Derived.Test.YtinaapfnfiijnaaGreatDoorQ3
import Derived.KernelRfl
namespace Go.Proofs.YtinaapfnfiijnaaGreatDoor.Sel
open Go Go.RowKit
theorem nest0_0 : HM.lawRun 5 [.int .i64 0, .mod 4 0] = true := by kernel_rfl
theorem nest0_1 : HM.lawRun 5 [.int .i64 0, .mod 4 1] = true := by kernel_rfl
theorem nest0_2 : HM.lawRun 5 [.int .i64 0, .mod 4 2] = true := by kernel_rfl
theorem nest0_3 : HM.lawRun 5 [.int .i64 0, .mod 4 3] = true := by kernel_rfl
theorem nest1_0 : HM.lawRun 5 [.int .i64 1, .mod 4 0] = true := by kernel_rfl
theorem nest1_1 : HM.lawRun 5 [.int .i64 1, .mod 4 1] = true := by kernel_rfl
theorem nest1_2 : HM.lawRun 5 [.int .i64 1, .mod 4 2] = true := by kernel_rfl
theorem nest1_3 : HM.lawRun 5 [.int .i64 1, .mod 4 3] = true := by kernel_rfl
theorem nest2_0 : HM.lawRun 5 [.int .i64 2, .mod 4 0] = true := by kernel_rfl
theorem nest2_1 : HM.lawRun 5 [.int .i64 2, .mod 4 1] = true := by kernel_rfl
theorem nest2_2 : HM.lawRun 5 [.int .i64 2, .mod 4 2] = true := by kernel_rfl
theorem nest2_3 : HM.lawRun 5 [.int .i64 2, .mod 4 3] = true := by kernel_rfl
theorem nest3_0 : HM.lawRun 5 [.int .i64 3, .mod 4 0] = true := by kernel_rfl
theorem nest3_1 : HM.lawRun 5 [.int .i64 3, .mod 4 1] = true := by kernel_rfl
theorem nest3_2 : HM.lawRun 5 [.int .i64 3, .mod 4 2] = true := by kernel_rfl
theorem nest3_3 : HM.lawRun 5 [.int .i64 3, .mod 4 3] = true := by kernel_rfl
theorem nest4_0 : HM.lawRun 5 [.int .i64 4, .mod 4 0] = true := by kernel_rfl
theorem nest4_1 : HM.lawRun 5 [.int .i64 4, .mod 4 1] = true := by kernel_rfl
theorem nest4_2 : HM.lawRun 5 [.int .i64 4, .mod 4 2] = true := by kernel_rfl
theorem nest4_3 : HM.lawRun 5 [.int .i64 4, .mod 4 3] = true := by kernel_rfl
end Go.Proofs.YtinaapfnfiijnaaGreatDoor.Sel
