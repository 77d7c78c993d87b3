/- fleuronlaw13.CascadePseudos: its cases by runs of the fast machine (part 2). -/
import Derived.Test.YtamgnggeckomkaaGreatDoorDQ3
import Derived.KernelRfl
namespace Go.Proofs.YtamgnggeckomkaaGreatDoor.Sel
open Go Go.RowKit
theorem case2 : HM.lawRun 3 [.mod 6 2] = true := by kernel_rfl
theorem case3 : HM.lawRun 3 [.mod 6 3] = true := by kernel_rfl
end Go.Proofs.YtamgnggeckomkaaGreatDoor.Sel
