/- The runs of fleuronlaw16.ItemValues: with a number or none. -/
import Derived.Test.YtkcpoapbncpiiaaGreatDoorIQE
namespace Go.Proofs.YtkcpoapbncpiiaaGreatDoor.HM
open Go Go.RowKit
noncomputable def andB (a b : Bool) : Bool := Bool.rec (motive := fun _ => Bool) false b a
theorem andB_inv {a b : Bool} (h : andB a b = true) : a = true ∧ b = true := by
  cases a
  · cases h
  · exact ⟨rfl, h⟩
noncomputable def V1 (ok : Bool) (j k : Nat) : Bool := lawRunE ok false 6 [.mod 0 100, .mod 3 j, .mod 4 k]
noncomputable def V4 (ok : Bool) (j : Nat) : Bool := andB (V1 ok j 0) (andB (V1 ok j 1) (andB (V1 ok j 2) (V1 ok j 3)))
theorem V4_inv {ok : Bool} {j : Nat} (h : V4 ok j = true) (k : Nat) (hk : k < 4) : V1 ok j k = true := by
  obtain ⟨h1, h2⟩ := andB_inv h
  obtain ⟨h3, h4⟩ := andB_inv h2
  obtain ⟨h5, h6⟩ := andB_inv h4
  have : k = 0 ∨ k = 1 ∨ k = 2 ∨ k = 3 := by omega
  rcases this with rfl | rfl | rfl | rfl <;> assumption
theorem vf0 : V4 false 0 = true := by kernel_rfl
theorem vf1 : V4 false 1 = true := by kernel_rfl
theorem vf2 : V4 false 2 = true := by kernel_rfl
theorem vt0 : V4 true 0 = true := by kernel_rfl
theorem vt1 : V4 true 1 = true := by kernel_rfl
theorem vt2 : V4 true 2 = true := by kernel_rfl
theorem vAll (ok : Bool) (j k : Nat) (hj : j < 3) (hk : k < 4) : V1 ok j k = true := by
  have : j = 0 ∨ j = 1 ∨ j = 2 := by omega
  cases ok <;> rcases this with rfl | rfl | rfl
  · exact V4_inv vf0 k hk
  · exact V4_inv vf1 k hk
  · exact V4_inv vf2 k hk
  · exact V4_inv vt0 k hk
  · exact V4_inv vt1 k hk
  · exact V4_inv vt2 k hk
end Go.Proofs.YtkcpoapbncpiiaaGreatDoor.HM
