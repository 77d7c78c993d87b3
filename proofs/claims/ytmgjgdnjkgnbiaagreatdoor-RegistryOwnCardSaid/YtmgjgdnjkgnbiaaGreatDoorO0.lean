/- fleuronlaw11.RegistryOwn: shapes of numbers, and what a run gives. -/
import Derived.Test.YtmgjgdnjkgnbiaaGreatDoorOM
namespace Go.Proofs.YtmgjgdnjkgnbiaaGreatDoor.HM
open Go Go.RowKit
variable [E : Amb]
def osh : Nat → V
  | 0 => .int .i64 (Int.negSucc 99)
  | 1 => .lin .i64 0 [⟨Int.negSucc 0, 0, 0, 9⟩, ⟨Int.negSucc 9, 1, 1, 9⟩]
  | 2 => .lin .i64 0 [⟨Int.negSucc 0, 0, 1, 9⟩]
  | 3 => .int .i64 0
  | 4 => .lin .i64 0 [⟨1, 0, 1, 9⟩]
  | 5 => .lin .i64 0 [⟨1, 0, 0, 9⟩, ⟨10, 1, 1, 9⟩]
  | _ => .int .i64 100
noncomputable def OwR (i s : Nat) : Bool := match s with
  | 4 => lawRunS S5 (osh 4) 6 [.mod 10 i, osh 4]
  | 5 => lawRunS S5 (osh 5) 6 [.mod 10 i, osh 5]
  | s => lawRun 6 [.mod 10 i, osh s]
end Go.Proofs.YtmgjgdnjkgnbiaaGreatDoor.HM
