/- fleuronlaw6.SelectorForms: each of its sixteen cases by a run of the fast machine (part 4). -/
import Derived.Test.YtinaapfnfiijnaaGreatDoorQ3
import Derived.KernelRfl
namespace Go.Proofs.YtinaapfnfiijnaaGreatDoor.Sel
open Go Go.RowKit
theorem form12 : HM.lawRun 4 [.mod 16 12] = true := by kernel_rfl
theorem form13 : HM.lawRun 4 [.mod 16 13] = true := by kernel_rfl
theorem form14 : HM.lawRun 4 [.mod 16 14] = true := by kernel_rfl
theorem form15 : HM.lawRun 4 [.mod 16 15] = true := by kernel_rfl
end Go.Proofs.YtinaapfnfiijnaaGreatDoor.Sel
