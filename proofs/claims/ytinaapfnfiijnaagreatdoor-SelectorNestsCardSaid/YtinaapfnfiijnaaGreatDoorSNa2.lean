/- fleuronlaw6.SelectorNests: cases by runs of the fast machine (part 2). -/
import Derived.Test.YtinaapfnfiijnaaGreatDoorQ3
import Derived.KernelRfl
namespace Go.Proofs.YtinaapfnfiijnaaGreatDoor.Sel
open Go Go.RowKit
theorem nest5_0 : HM.lawRun 5 [.int .i64 5, .mod 4 0] = true := by kernel_rfl
theorem nest5_1 : HM.lawRun 5 [.int .i64 5, .mod 4 1] = true := by kernel_rfl
theorem nest5_2 : HM.lawRun 5 [.int .i64 5, .mod 4 2] = true := by kernel_rfl
theorem nest5_3 : HM.lawRun 5 [.int .i64 5, .mod 4 3] = true := by kernel_rfl
theorem nest6_0 : HM.lawRun 5 [.int .i64 6, .mod 4 0] = true := by kernel_rfl
theorem nest6_1 : HM.lawRun 5 [.int .i64 6, .mod 4 1] = true := by kernel_rfl
theorem nest6_2 : HM.lawRun 5 [.int .i64 6, .mod 4 2] = true := by kernel_rfl
theorem nest6_3 : HM.lawRun 5 [.int .i64 6, .mod 4 3] = true := by kernel_rfl
end Go.Proofs.YtinaapfnfiijnaaGreatDoor.Sel
