/- fleuronlaw6.SelectorForms: each of its sixteen cases by a run of the fast machine (part 2). -/
import Derived.Test.YtinaapfnfiijnaaGreatDoorQ3
import Derived.KernelRfl
namespace Go.Proofs.YtinaapfnfiijnaaGreatDoor.Sel
open Go Go.RowKit
theorem form4 : HM.lawRun 4 [.mod 16 4] = true := by kernel_rfl
theorem form5 : HM.lawRun 4 [.mod 16 5] = true := by kernel_rfl
theorem form6 : HM.lawRun 4 [.mod 16 6] = true := by kernel_rfl
theorem form7 : HM.lawRun 4 [.mod 16 7] = true := by kernel_rfl
end Go.Proofs.YtinaapfnfiijnaaGreatDoor.Sel
