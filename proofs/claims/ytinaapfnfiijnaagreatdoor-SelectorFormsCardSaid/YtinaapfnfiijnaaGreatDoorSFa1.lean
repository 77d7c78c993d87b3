/- fleuronlaw6.SelectorForms: each of its sixteen cases by a run of the fast machine (part 1). -/
import Derived.Test.YtinaapfnfiijnaaGreatDoorQ3
import Derived.KernelRfl
namespace Go.Proofs.YtinaapfnfiijnaaGreatDoor.Sel
open Go Go.RowKit
theorem form0 : HM.lawRun 4 [.mod 16 0] = true := by kernel_rfl
theorem form1 : HM.lawRun 4 [.mod 16 1] = true := by kernel_rfl
theorem form2 : HM.lawRun 4 [.mod 16 2] = true := by kernel_rfl
theorem form3 : HM.lawRun 4 [.mod 16 3] = true := by kernel_rfl
end Go.Proofs.YtinaapfnfiijnaaGreatDoor.Sel
