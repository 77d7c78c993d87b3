/- A registry is given. -/
import Derived.Test.YtmgjgdnjkgnbiaaGreatDoorProg
import Derived.WalkKit
import Derived.ProofKit
import Derived.OpenShut
import Derived.Lib.Hide
import Derived.LoopTactic
namespace Go.Proofs.YtmgjgdnjkgnbiaaGreatDoor.Reg
open Go Go.RowKit
def NewR (R : Addr → World → Prop) (e : Ending) (w : World) : Prop := ∃ a, e = .returned (.pointer (some a)) ∧ R a w
end Go.Proofs.YtmgjgdnjkgnbiaaGreatDoor.Reg
