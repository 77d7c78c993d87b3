/- fleuronlaw16.ItemNumbers returns true for all arguments, and leaves what was there. -/
import Derived.Test.YtkcpoapbncpiiaaGreatDoorNX
namespace Go.Proofs.YtkcpoapbncpiiaaGreatDoor.Num
open Go Go.RowKit

theorem out_of (n b : Int) (p : Bool) (T : ByteArray) {W : World} (hTb : HM.Tabs W) (hs : T.size ≤ maxLen)
    (h : b < 0 ∨ (0 ≤ b ∧ 5 < b) ∨ (0 ≤ b ∧ b ≤ 5 ∧ 20 < T.size) ∨ (0 ≤ b ∧ b ≤ 5 ∧ T.size ≤ 20 ∧ ∃ h : 0 < T.size, 48 ≤ T[0].toNat ∧ T[0].toNat ≤ 57)) : Good n b p T W := by
  unfold maxLen at hs
  have aw := HM.awake_c hTb
  rcases h with h | ⟨h1, h2⟩ | ⟨h1, h2, h3⟩ | ⟨h1, h2, h3, h4, h5, h6⟩
  all_goals
    go_enter Tryz.func5, Tryz.ntmps5
    go_wp2_with (go_at_call 7; (with_reducible refine aw.mono ?_); rintro e w4 ⟨rfl, hB4⟩)
    all_goals first
      | (exfalso; omega)
      | (go_ret; exact ⟨rfl, hB4⟩)

set_option maxRecDepth 100000 in
theorem in_of (n : Int) (k : Nat) (p : Bool) (T : ByteArray) {W : World} (hTb : HM.Tabs W) (h1 : -9223372036854775808 ≤ n) (h2 : n ≤ 9223372036854775807) (hk : k ≤ 5) (hT : T.size ≤ 20)
    (hT0 : T.size ≤ 0 ∨ ∃ h : 0 < T.size, T[0].toNat < 48 ∨ (48 ≤ T[0].toNat ∧ 57 < T[0].toNat)) : Good n k p T W := by
  have hTl : T.data.toList.length = T.size := by simp
  have ht : ∀ x, T.data.toList.head? = some x → dg x = false := fun x hx => by
    rcases hT0 with hz | ⟨hz, hb⟩
    · have : T.data.toList = [] := List.length_eq_zero_iff.1 (by omega)
      rw [this] at hx; cases hx
    · have h0 := at_list T 0 hz
      rw [← List.head?_eq_getElem?, hx] at h0
      simp only [Option.some.injEq] at h0
      subst h0
      simp only [dg, Bool.and_eq_false_iff, decide_eq_false_iff_not]
      omega
  have hb := blank_wh k
  have hL := dec_len n h1 h2
  have hbl := blank_len k
  have gen : ∀ S : List UInt8, S.length ≤ 6 → ((p = true ∧ 0 ≤ n ∧ ∀ w, (Op.stringOp .add (⟨(blank.take k).toArray⟩ : ByteArray) ⟨#[43]⟩).run Tryz.prog w = .ok (.string ⟨S.toArray⟩) w) ∨ (p = true ∧ n < 0 ∧ (⟨S.toArray⟩ : ByteArray) = ⟨(blank.take k).toArray⟩) ∨ (p = false ∧ (⟨S.toArray⟩ : ByteArray) = ⟨(blank.take k).toArray⟩)) →
      numV ((S ++ dec n) ++ T.data.toList) = (max (min n 2147483647) (-2147483648), true) → (numV ((S ++ [45]) ++ T.data.toList)).2 = false → Good n k p T W := by
    intro S hSl hp hv1 hv2
    obtain ⟨x, hv2'⟩ : ∃ x, numV ((S ++ [45]) ++ T.data.toList) = (x, false) := by
      generalize numV ((S ++ [45]) ++ T.data.toList) = q at hv2
      obtain ⟨a, b⟩ := q
      exact ⟨a, by simp only at hv2; rw [hv2]⟩
    have aw' : ∀ w', Below W.heap.size W w' → Calls Tryz.prog 7 #[] w' fun e w2 => e = .returned (.bool true) ∧ Below w'.heap.size w' w2 := fun w' hb => HM.awake_c (tabs_move hTb hb)
    have HVe : Hid (max (min n 2147483647) (-2147483648) = max (min n 2147483647) (-2147483648)) := Lib.hid rfl
    have h46 : 46 ≤ 1000 := by omega
    have l1 : (S ++ dec n).length + T.size ≤ 46 := by rw [List.length_append]; omega
    have l2 : (S ++ [45]).length + T.size ≤ 46 := by rw [List.length_append, List.length_singleton]; omega
    have l3 : ((S ++ dec n) ++ T.data.toList).length ≤ 100 := by rw [List.length_append, hTl]; omega
    have l4 : ((S ++ [45]) ++ T.data.toList).length ≤ 100 := by rw [List.length_append, hTl]; omega
    have n1 : ∀ w : World, Calls Tryz.prog 17 #[.string ⟨((S ++ dec n) ++ T.data.toList).toArray⟩] w fun e w' => e = .returned (.tuple #[.int .i64 (max (min n 2147483647) (-2147483648)), .bool true]) ∧ Below w.heap.size w w' := fun w => number_l _ w l3 hv1
    have n2 : ∀ w : World, Calls Tryz.prog 17 #[.string ⟨((S ++ [45]) ++ T.data.toList).toArray⟩] w fun e w' => e = .returned (.tuple #[.int .i64 x, .bool false]) ∧ Below w.heap.size w w' := fun w => number_l _ w l4 hv2'
    refine core n k p T ⟨(blank.take k).toArray⟩ ⟨S.toArray⟩ ⟨(dec n).toArray⟩ ⟨(S ++ dec n).toArray⟩ ⟨((S ++ dec n) ++ T.data.toList).toArray⟩ ⟨(S ++ [45]).toArray⟩ ⟨((S ++ [45]) ++ T.data.toList).toArray⟩ (max (min n 2147483647) (-2147483648)) x h1 h2 hk hT hT0 (slice_l k hk) hp
      (fun w => dec_any n w h1 h2) (add_l S (dec n) (by omega)) (add_T (S ++ dec n) T (Nat.le_trans l1 h46)) (add_l S [45] (by rw [List.length_singleton]; omega)) (add_T (S ++ [45]) T (Nat.le_trans l2 h46))
      n1 ?_ aw' HVe
    exact n2
  by_cases hp : p = true
  · by_cases hn : 0 ≤ n
    · refine gen (blank.take k ++ [43]) (by rw [List.length_append, List.length_singleton]; omega) (.inl ⟨hp, hn, add_l (blank.take k) [43] (by rw [List.length_singleton]; omega)⟩) ?_ ?_
      · have := numV_plus hb n hn ht
        simpa [List.append_assoc] using this
      · have := numV_none (s := [43, 45]) hb (.inr rfl) ht
        simpa [List.append_assoc] using this
    · refine gen (blank.take k) (by omega) (.inr (.inl ⟨hp, by omega, rfl⟩)) ?_ ?_
      · rw [List.append_assoc]; exact numV_dec hb n ht
      · rw [List.append_assoc]; exact numV_none hb (.inl rfl) ht
  · refine gen (blank.take k) (by omega) (.inr (.inr ⟨by simpa using hp, rfl⟩)) ?_ ?_
    · rw [List.append_assoc]; exact numV_dec hb n ht
    · rw [List.append_assoc]; exact numV_none hb (.inl rfl) ht

theorem walk_all (n b : Int) (p : Bool) (T : ByteArray) {W : World} (hTb : HM.Tabs W) (h1 : -9223372036854775808 ≤ n) (h2 : n ≤ 9223372036854775807) (hs : T.size ≤ maxLen) : Good n b p T W := by
  by_cases hb : 0 ≤ b ∧ b ≤ 5
  · obtain ⟨k, rfl⟩ : ∃ k : Nat, b = (k : Int) := ⟨b.toNat, by omega⟩
    by_cases hT : T.size ≤ 20
    · by_cases h0 : 0 < T.size
      · by_cases hd : 48 ≤ T[0].toNat ∧ T[0].toNat ≤ 57
        · exact out_of n k p T hTb hs (.inr (.inr (.inr ⟨hb.1, hb.2, hT, h0, hd⟩)))
        · exact in_of n k p T hTb h1 h2 (by omega) hT (.inr ⟨h0, by omega⟩)
      · exact in_of n k p T hTb h1 h2 (by omega) hT (.inl (by omega))
    · exact out_of n k p T hTb hs (.inr (.inr (.inl ⟨hb.1, hb.2, by omega⟩)))
  · exact out_of n b p T hTb hs (by omega)
theorem lit_bounds {n : Int} (h : (Lit.int .i64 n).wf = true) : -9223372036854775808 ≤ n ∧ n ≤ 9223372036854775807 := by
  simp only [Lit.wf, Bool.and_eq_true, decide_eq_true_eq] at h
  have e1 : IntKind.i64.min = -9223372036854775808 := rfl
  have e2 : IntKind.i64.max = 9223372036854775807 := rfl
  omega
end Go.Proofs.YtkcpoapbncpiiaaGreatDoor.Num
