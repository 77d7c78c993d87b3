/- fleuronref1.Decimal of any number; item.Number of a list of bytes. -/
import Derived.Test.YtkcpoapbncpiiaaGreatDoorNU
import Derived.Test.YtkcpoapbncpiiaaGreatDoorND
namespace Go.Proofs.YtkcpoapbncpiiaaGreatDoor.Num
open Go Go.RowKit
theorem dec_any (n : Int) (w : World) (h1 : -9223372036854775808 ≤ n) (h2 : n ≤ 9223372036854775807) : Calls Tryz.prog 8 #[.int .i64 n] w fun e w' => e = .returned (.string ⟨(dec n).toArray⟩) ∧ Below w.heap.size w w' := by
  by_cases h : n < 0
  · obtain ⟨m, rfl⟩ : ∃ m : Nat, n = -(m : Int) := ⟨n.natAbs, by omega⟩
    have e : dec (-(m : Int)) = 45 :: digs m := by unfold dec; rw [if_pos h]; simp
    rw [e]
    exact dec_neg m w (by omega) (by omega)
  · obtain ⟨m, rfl⟩ : ∃ m : Nat, n = (m : Int) := ⟨n.natAbs, by omega⟩
    have e : dec (m : Int) = digs m := by unfold dec; rw [if_neg h]; simp
    rw [e]
    exact dec_nat m w (by omega)
theorem dec_len (n : Int) (h1 : -9223372036854775808 ≤ n) (h2 : n ≤ 9223372036854775807) : (dec n).length ≤ 20 := by
  have := digs_len 18 n.natAbs (by omega)
  unfold dec
  split <;> simp <;> omega
theorem number_l (l : List UInt8) (w : World) (h : l.length ≤ 100) {v : Int} {b : Bool} (hv : numV l = (v, b)) : Calls Tryz.prog 17 #[.string ⟨l.toArray⟩] w fun e w' => e = .returned (.tuple #[.int .i64 v, .bool b]) ∧ Below w.heap.size w w' := by
  have h1 : (⟨l.toArray⟩ : ByteArray).size = l.length := by show l.toArray.size = _; simp
  have := numberP_any ⟨l.toArray⟩ w (by rw [h1]; unfold maxLen; omega)
  simp only [hv] at this
  exact this
end Go.Proofs.YtkcpoapbncpiiaaGreatDoor.Num
