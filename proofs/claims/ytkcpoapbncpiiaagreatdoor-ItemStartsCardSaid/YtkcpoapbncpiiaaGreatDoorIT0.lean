/- What is run for fleuronlaw16.ItemStarts. -/
import Derived.Test.YtkcpoapbncpiiaaGreatDoorIQE
namespace Go.Proofs.YtkcpoapbncpiiaaGreatDoor.HM
open Go Go.RowKit
noncomputable def andS (a b : Bool) : Bool := Bool.rec (motive := fun _ => Bool) false b a
theorem andS_inv {a b : Bool} (h : andS a b = true) : a = true ∧ b = true := by
  cases a
  · cases h
  · exact ⟨rfl, h⟩
noncomputable def S1 (n : Nat) (a b c : Bool) : Bool := lawRunE true true 3 [.int .i64 (Int.ofNat n), .lin .i64 0 [⟨1, 0, -1073741824, 1073741824⟩], .bool a, .bool b, .bool c]
end Go.Proofs.YtkcpoapbncpiiaaGreatDoor.HM
