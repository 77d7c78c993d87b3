/- fleuronlaw14.ComputedPseudo: its cases by runs of the fast machine (part 1). -/
import Derived.Test.YtamgnggeckomkaaGreatDoorCQ3
import Derived.KernelRfl
namespace Go.Proofs.YtamgnggeckomkaaGreatDoor.Sel
open Go Go.RowKit
theorem case0 : HM.lawRun 4 [.mod 5 0] = true := by kernel_rfl
theorem case4 : HM.lawRun 4 [.mod 5 4] = true := by kernel_rfl
end Go.Proofs.YtamgnggeckomkaaGreatDoor.Sel
