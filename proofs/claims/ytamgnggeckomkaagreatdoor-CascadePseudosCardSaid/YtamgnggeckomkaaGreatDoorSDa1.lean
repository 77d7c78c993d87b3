/- fleuronlaw13.CascadePseudos: its cases by runs of the fast machine (part 1). -/
import Derived.Test.YtamgnggeckomkaaGreatDoorDQ3
import Derived.KernelRfl
namespace Go.Proofs.YtamgnggeckomkaaGreatDoor.Sel
open Go Go.RowKit
theorem case0 : HM.lawRun 3 [.mod 6 0] = true := by kernel_rfl
theorem case1 : HM.lawRun 3 [.mod 6 1] = true := by kernel_rfl
end Go.Proofs.YtamgnggeckomkaaGreatDoor.Sel
