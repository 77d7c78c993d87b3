/- fleuronlaw14.ComputedPseudo: its cases by runs of the fast machine (part 4). -/
import Derived.Test.YtamgnggeckomkaaGreatDoorCQ3
import Derived.KernelRfl
namespace Go.Proofs.YtamgnggeckomkaaGreatDoor.Sel
open Go Go.RowKit
theorem case3 : HM.lawRun 4 [.mod 5 3] = true := by kernel_rfl
end Go.Proofs.YtamgnggeckomkaaGreatDoor.Sel
