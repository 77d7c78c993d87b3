/- fleuronlaw6.SelectorNests: cases by runs of the fast machine (part 5). -/
import Derived.Test.YtinaapfnfiijnaaGreatDoorQ3
import Derived.KernelRfl
namespace Go.Proofs.YtinaapfnfiijnaaGreatDoor.Sel
open Go Go.RowKit
theorem nest9_0 : HM.lawRun 5 [.int .i64 9, .mod 4 0] = true := by kernel_rfl
theorem nest9_1 : HM.lawRun 5 [.int .i64 9, .mod 4 1] = true := by kernel_rfl
theorem nest9_2 : HM.lawRun 5 [.int .i64 9, .mod 4 2] = true := by kernel_rfl
theorem nest9_3 : HM.lawRun 5 [.int .i64 9, .mod 4 3] = true := by kernel_rfl
end Go.Proofs.YtinaapfnfiijnaaGreatDoor.Sel
