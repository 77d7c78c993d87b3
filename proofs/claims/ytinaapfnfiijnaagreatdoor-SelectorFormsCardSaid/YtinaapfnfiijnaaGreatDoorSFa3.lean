/- fleuronlaw6.SelectorForms: each of its sixteen cases by a run of the fast machine (part 3). -/
import Derived.Test.YtinaapfnfiijnaaGreatDoorQ3
import Derived.KernelRfl
namespace Go.Proofs.YtinaapfnfiijnaaGreatDoor.Sel
open Go Go.RowKit
theorem form8 : HM.lawRun 4 [.mod 16 8] = true := by kernel_rfl
theorem form9 : HM.lawRun 4 [.mod 16 9] = true := by kernel_rfl
theorem form10 : HM.lawRun 4 [.mod 16 10] = true := by kernel_rfl
theorem form11 : HM.lawRun 4 [.mod 16 11] = true := by kernel_rfl
end Go.Proofs.YtinaapfnfiijnaaGreatDoor.Sel
