/- fleuronlaw13.CascadePseudos: its cases by runs of the fast machine (part 3). -/
import Derived.Test.YtamgnggeckomkaaGreatDoorDQ3
import Derived.KernelRfl
namespace Go.Proofs.YtamgnggeckomkaaGreatDoor.Sel
open Go Go.RowKit
theorem case4 : HM.lawRun 3 [.mod 6 4] = true := by kernel_rfl
theorem case5 : HM.lawRun 3 [.mod 6 5] = true := by kernel_rfl
end Go.Proofs.YtamgnggeckomkaaGreatDoor.Sel
