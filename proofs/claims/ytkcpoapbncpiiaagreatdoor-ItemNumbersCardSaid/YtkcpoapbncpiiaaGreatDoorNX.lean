/- fleuronlaw16.ItemNumbers: what it computes. -/
import Derived.Test.YtkcpoapbncpiiaaGreatDoorNU
import Derived.Test.YtkcpoapbncpiiaaGreatDoorND
import Derived.Test.YtkcpoapbncpiiaaGreatDoorIQP
namespace Go.Proofs.YtkcpoapbncpiiaaGreatDoor.Num
open Go Go.RowKit

theorem dec_any (n : Int) (w : World) (h1 : -9223372036854775808 ≤ n) (h2 : n ≤ 9223372036854775807) : Calls Tryz.prog 8 #[.int .i64 n] w fun e w' => e = .returned (.string ⟨(dec n).toArray⟩) ∧ Below w.heap.size w w' := by
  by_cases h : n < 0
  · obtain ⟨m, rfl⟩ : ∃ m : Nat, n = -(m : Int) := ⟨n.natAbs, by omega⟩
    have e : dec (-(m : Int)) = 45 :: digs m := by unfold dec; rw [if_pos h]; simp
    rw [e]
    exact dec_neg m w (by omega) (by omega)
  · obtain ⟨m, rfl⟩ : ∃ m : Nat, n = (m : Int) := ⟨n.natAbs, by omega⟩
    have e : dec (m : Int) = digs m := by unfold dec; rw [if_neg h]; simp
    rw [e]
    exact dec_nat m w (by omega)
theorem dec_len (n : Int) (h1 : -9223372036854775808 ≤ n) (h2 : n ≤ 9223372036854775807) : (dec n).length ≤ 20 := by
  have := digs_len 18 n.natAbs (by omega)
  unfold dec
  split <;> simp <;> omega
theorem number_l (l : List UInt8) (w : World) (h : l.length ≤ 100) {v : Int} {b : Bool} (hv : numV l = (v, b)) : Calls Tryz.prog 17 #[.string ⟨l.toArray⟩] w fun e w' => e = .returned (.tuple #[.int .i64 v, .bool b]) ∧ Below w.heap.size w w' := by
  have h1 : (⟨l.toArray⟩ : ByteArray).size = l.length := by show l.toArray.size = _; simp
  have := numberP_any ⟨l.toArray⟩ w (by rw [h1]; unfold maxLen; omega)
  simp only [hv] at this
  exact this
theorem add_l (x y : List UInt8) (h : x.length + y.length ≤ 1000) (w : World) : (Op.stringOp .add (⟨x.toArray⟩ : ByteArray) ⟨y.toArray⟩).run Tryz.prog w = .ok (.string ⟨(x ++ y).toArray⟩) w := by
  rw [run_string_add_sum w _ _ (by simp [ByteArray.size]; omega), ByteArray.mk_append_mk]
def blank : List UInt8 := [32, 32, 9, 32, 10]
theorem blank_wh (k : Nat) : ∀ x ∈ blank.take k, wh x = true := fun x hx => by
  have := List.mem_of_mem_take hx
  simp only [blank, List.mem_cons, List.not_mem_nil, or_false] at this
  rcases this with rfl | rfl | rfl | rfl | rfl <;> rfl
theorem blank_len (k : Nat) : (blank.take k).length ≤ 5 := by simp [blank]; omega
theorem blank_ext (k : Nat) : (⟨#[32, 32, 9, 32, 10]⟩ : ByteArray).extract 0 k = ⟨(blank.take k).toArray⟩ := by
  apply ByteArray.ext
  rw [ByteArray.data_extract]
  apply Array.toList_inj.1
  rw [Array.toList_extract]
  simp [blank]

theorem slice_l (k : Nat) (hk : k ≤ 5) (w : World) : (Instr.slice 9 (.string ⟨#[32, 32, 9, 32, 10]⟩) none (some (.int .i64 (k : Int))) none).run Tryz.prog w = .ok (.string ⟨(blank.take k).toArray⟩) w := by
  rw [run_slice_string_h w _ _ Tryz.underlying9 .i64 (k : Int) (by omega) (by show (k : Int) ≤ ((5 : Nat) : Int); omega), Int.toNat_natCast, blank_ext]

theorem tabs_move {W w' : World} (h : HM.Tabs W) (hb : Below W.heap.size W w') : HM.Tabs w' := by
  obtain ⟨arr, el, fr, h1, h2, _⟩ := HM.tab_at HM.gNameS h
  unfold HM.Tabs Lib.TabIs World.var? at *
  rw [HM.gNameS, Option.bind_some] at *
  rw [hb.block _ h2]
  exact h

theorem add_T (x : List UInt8) (T : ByteArray) (h : x.length + T.size ≤ 1000) (w : World) : (Op.stringOp .add (⟨x.toArray⟩ : ByteArray) T).run Tryz.prog w = .ok (.string ⟨(x ++ T.data.toList).toArray⟩) w := by
  have := add_l x T.data.toList (by simpa using h) w
  simpa using this

abbrev Good (n b : Int) (p : Bool) (T : ByteArray) (W : World) : Prop := Calls Tryz.prog 5 #[.int .i64 n, .int .i64 b, .bool p, .string T] W fun e w' => e = .returned (.bool true) ∧ Below W.heap.size W w'

set_option maxRecDepth 100000 in
set_option maxHeartbeats 1000000 in
theorem core (n : Int) (k : Nat) (p : Bool) (T B S D X1 X2 Y1 Y2 : ByteArray) (v x : Int) {W : World} (h1 : -9223372036854775808 ≤ n) (h2 : n ≤ 9223372036854775807) (hk : k ≤ 5) (hT : T.size ≤ 20)
    (hT0 : T.size ≤ 0 ∨ ∃ h : 0 < T.size, T[0].toNat < 48 ∨ (48 ≤ T[0].toNat ∧ 57 < T[0].toNat))
    (hsl : ∀ w, (Instr.slice 9 (.string ⟨#[32, 32, 9, 32, 10]⟩) none (some (.int .i64 (k : Int))) none).run Tryz.prog w = .ok (.string B) w)
    (hp : (p = true ∧ 0 ≤ n ∧ ∀ w, (Op.stringOp .add B ⟨#[43]⟩).run Tryz.prog w = .ok (.string S) w) ∨ (p = true ∧ n < 0 ∧ S = B) ∨ (p = false ∧ S = B))
    (cd : ∀ w, Calls Tryz.prog 8 #[.int .i64 n] w fun e w' => e = .returned (.string D) ∧ Below w.heap.size w w')
    (a1 : ∀ w, (Op.stringOp .add S D).run Tryz.prog w = .ok (.string X1) w) (a2 : ∀ w, (Op.stringOp .add X1 T).run Tryz.prog w = .ok (.string X2) w)
    (a3 : ∀ w, (Op.stringOp .add S ⟨#[45]⟩).run Tryz.prog w = .ok (.string Y1) w) (a4 : ∀ w, (Op.stringOp .add Y1 T).run Tryz.prog w = .ok (.string Y2) w)
    (c1 : ∀ w, Calls Tryz.prog 17 #[.string X2] w fun e w' => e = .returned (.tuple #[.int .i64 v, .bool true]) ∧ Below w.heap.size w w')
    (c2 : ∀ w, Calls Tryz.prog 17 #[.string Y2] w fun e w' => e = .returned (.tuple #[.int .i64 x, .bool false]) ∧ Below w.heap.size w w')
    (aw : ∀ w', Below W.heap.size W w' → Calls Tryz.prog 7 #[] w' fun e w2 => e = .returned (.bool true) ∧ Below w'.heap.size w' w2)
    (HV : Hid (v = max (min n 2147483647) (-2147483648))) : Good n k p T W := by
  rcases hp with ⟨rfl, hn, a0⟩ | ⟨rfl, hn, rfl⟩ | ⟨rfl, rfl⟩
  all_goals rcases hT0 with hz | ⟨hz, hlt | ⟨hge, hgt⟩⟩
  all_goals
    go_enter Tryz.func5, Tryz.ntmps5
    go_wp2_with (first
      | (go_at_call 8; (with_reducible refine (cd _).mono ?_); rintro e w1 ⟨rfl, hB1⟩)
      | (go_at_call 17; (with_reducible refine (c1 _).mono ?_); rintro e w2 ⟨rfl, hB2⟩)
      | (go_at_call 17; (with_reducible refine (c2 _).mono ?_); rintro e w3 ⟨rfl, hB3⟩)
      | (go_at_call 7; (with_reducible refine (aw _ ((hB1.trans (hB2.mono hB1.size)).trans (hB3.mono (Nat.le_trans hB1.size hB2.size)))).mono ?_); rintro e w4 ⟨rfl, hB4⟩))
    all_goals first
      | (exfalso; exact absurd HV.out (by assumption))
      | (go_ret; exact ⟨rfl, ((hB1.trans (hB2.mono hB1.size)).trans (hB3.mono (Nat.le_trans hB1.size hB2.size))).trans (hB4.mono (Nat.le_trans hB1.size (Nat.le_trans hB2.size hB3.size)))⟩)
end Go.Proofs.YtkcpoapbncpiiaaGreatDoor.Num
