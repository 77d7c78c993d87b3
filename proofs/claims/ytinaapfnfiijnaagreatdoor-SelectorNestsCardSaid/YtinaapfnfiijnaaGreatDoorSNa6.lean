/- fleuronlaw6.SelectorNests: cases by runs of the fast machine (part 6). -/
import Derived.Test.YtinaapfnfiijnaaGreatDoorQ3
import Derived.KernelRfl
namespace Go.Proofs.YtinaapfnfiijnaaGreatDoor.Sel
open Go Go.RowKit
theorem nest10_0 : HM.lawRun 5 [.int .i64 10, .mod 4 0] = true := by kernel_rfl
theorem nest10_1 : HM.lawRun 5 [.int .i64 10, .mod 4 1] = true := by kernel_rfl
theorem nest10_2 : HM.lawRun 5 [.int .i64 10, .mod 4 2] = true := by kernel_rfl
theorem nest10_3 : HM.lawRun 5 [.int .i64 10, .mod 4 3] = true := by kernel_rfl
end Go.Proofs.YtinaapfnfiijnaaGreatDoor.Sel
