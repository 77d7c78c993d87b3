/- The runs of fleuronlaw16.ItemSteps: for each length of the list, its last element, the other two arguments. -/
import Derived.Test.YtkcpoapbncpiiaaGreatDoorIQP
namespace Go.Proofs.YtkcpoapbncpiiaaGreatDoor.HM
open Go Go.RowKit
noncomputable def andB (a b : Bool) : Bool := Bool.rec (motive := fun _ => Bool) false b a
theorem andB_inv {a b : Bool} (h : andB a b = true) : a = true ∧ b = true := by
  cases a
  · cases h
  · exact ⟨rfl, h⟩
noncomputable def R3 (l : V) (o : Bool) : Bool := andB (lawRun 4 [l, .bool o, .mod 3 0]) (andB (lawRun 4 [l, .bool o, .mod 3 1]) (lawRun 4 [l, .bool o, .mod 3 2]))
noncomputable def R6 (l : V) : Bool := andB (R3 l false) (R3 l true)
def bits : Nat → Bool → List V
  | 0, b => [.bool b]
  | n + 1, b => .anyb :: bits n b
noncomputable def R12 (n : Nat) : Bool := andB (R6 (.pl (n + 1) 1 (bits n false))) (R6 (.pl (n + 1) 1 (bits n true)))
theorem R6_inv {l : V} (h : R6 l = true) (o : Bool) (i : Nat) (hi : i < 3) : lawRun 4 [l, .bool o, .mod 3 i] = true := by
  obtain ⟨h1, h2⟩ := andB_inv h
  have h3 : R3 l o = true := by cases o <;> assumption
  obtain ⟨k1, k2⟩ := andB_inv h3
  obtain ⟨k3, k4⟩ := andB_inv k2
  have : i = 0 ∨ i = 1 ∨ i = 2 := by omega
  rcases this with rfl | rfl | rfl <;> assumption
theorem R12_inv {n : Nat} (h : R12 n = true) (b : Bool) : R6 (.pl (n + 1) 1 (bits n b)) = true := by
  obtain ⟨h1, h2⟩ := andB_inv h
  cases b <;> assumption
theorem cN : R6 .nils = true := by kernel_rfl
theorem c0 : R6 (.pl 0 1 []) = true := by kernel_rfl
theorem c1 : R12 0 = true := by kernel_rfl
theorem c2 : R12 1 = true := by kernel_rfl
theorem c3 : R12 2 = true := by kernel_rfl
theorem c4 : R12 3 = true := by kernel_rfl
theorem c5 : R12 4 = true := by kernel_rfl
theorem c6 : R12 5 = true := by kernel_rfl
theorem c7 : R12 6 = true := by kernel_rfl
theorem c8 : R12 7 = true := by kernel_rfl
theorem c9 : R12 8 = true := by kernel_rfl
theorem c10 : R12 9 = true := by kernel_rfl
theorem cAll {n : Nat} (h : n < 10) : R12 n = true := by
  have : n = 0 ∨ n = 1 ∨ n = 2 ∨ n = 3 ∨ n = 4 ∨ n = 5 ∨ n = 6 ∨ n = 7 ∨ n = 8 ∨ n = 9 := by omega
  rcases this with rfl | rfl | rfl | rfl | rfl | rfl | rfl | rfl | rfl | rfl
  · exact c1
  · exact c2
  · exact c3
  · exact c4
  · exact c5
  · exact c6
  · exact c7
  · exact c8
  · exact c9
  · exact c10
theorem bits_length (n : Nat) (b : Bool) : (bits n b).length = n + 1 := by
  induction n with
  | zero => rfl
  | succ n ih => simp [bits, ih]
theorem bits_ok {ρ : Ren} (n : Nat) (b : Bool) : ∀ (i : Nat) (x : V) (c : Bool), (bits n b)[i]? = some x → (i = n → c = b) → VR ρ x (.bool c) := by
  induction n with
  | zero =>
    intro i x c hx hc
    cases i with
    | zero => simp [bits] at hx; subst hx; rw [hc rfl]; exact .bool _
    | succ i => simp [bits] at hx
  | succ n ih =>
    intro i x c hx hc
    cases i with
    | zero => simp [bits] at hx; subst hx; exact .anyb _
    | succ i => exact ih i x c (by simpa [bits] using hx) fun e => hc (by omega)
end Go.Proofs.YtkcpoapbncpiiaaGreatDoor.HM
