/- dom.lower's look for a name among the attributes so far. -/
import Derived.Test.YtieiopaobipdoaaGreatDoorVA
import Derived.Test.YtieiopaobipdoaaGreatDoorTL
namespace Go.Proofs.YtieiopaobipdoaaGreatDoor.Dom
open Go Go.RowKit
theorem eq_c (ad : Nat) (n v m : ByteArray) (w : World) (h : w.cell? ⟨ad, 0, none⟩ = some (.string m)) :
    Calls Tryz.prog 51 #[.agg #[.string n, .string v], .pointer (some ⟨ad, 0, none⟩)] w fun e w' => e = .returned (.bool (n.toList == m.toList)) ∧ Below w.heap.size w w' := by
  have hb := (Below.refl w.heap.size w).alloc (Nat.le_refl _) (.cells #[.string n, .string v] 43)
  have h2 := (hb.cell (p := ⟨ad, 0, none⟩) (World.block_lt_of_cell? _ _ h)).trans h
  go_enter Tryz.func51, Tryz.ntmps51
  go_wp2
  go_ret
  exact ⟨rfl, hb⟩
def aC : List (ByteArray × ByteArray) → List Value
  | [] => []
  | x :: r => .string x.1 :: .string x.2 :: aC r
theorem aC_length : ∀ l, (aC l).length = l.length * 2
  | [] => rfl
  | _ :: r => by rw [aC, List.length_cons, List.length_cons, aC_length r, List.length_cons]; omega
theorem aC_at : ∀ (l : List (ByteArray × ByteArray)) (j : Nat) x, l[j]? = some x → (aC l)[2 * j]? = some (.string x.1) ∧ (aC l)[2 * j + 1]? = some (.string x.2)
  | [], j, x, h => by simp at h
  | y :: r, 0, x, h => by simp at h; subst h; simp [aC]
  | y :: r, j + 1, x, h => by
    rw [List.getElem?_cons_succ] at h
    have := aC_at r j x h
    rw [show 2 * (j + 1) = 2 * j + 1 + 1 by omega, aC]
    simpa using this
theorem aC_append : ∀ (l m : List (ByteArray × ByteArray)), aC (l ++ m) = aC l ++ aC m
  | [], _ => rfl
  | x :: r, m => by rw [List.cons_append, aC, aC_append r m, aC]; rfl
def AtA (l : List (ByteArray × ByteArray)) (v : Value) (w : World) : Prop :=
  (l = [] ∧ v = .slice none 0 0) ∨ ∃ g o c, v = .slice (some ⟨g, o, none⟩) l.length c ∧ g < w.heap.size ∧ (∀ (j : Nat) x, l[j]? = some x → w.cell? ⟨g, o + j * 2, none⟩ = some (.string x.1) ∧ w.cell? ⟨g, o + j * 2 + 1, none⟩ = some (.string x.2))
theorem AtA.below {l : List (ByteArray × ByteArray)} {v : Value} {w w' : World} (h : AtA l v w) (hb : Below w.heap.size w w') : AtA l v w' := by
  rcases h with h | ⟨g, o, c, hv, hg, hc⟩
  · exact .inl h
  · exact .inr ⟨g, o, c, hv, Nat.lt_of_lt_of_le hg hb.size, fun j x hj => ⟨(hb.cell (p := ⟨g, _, none⟩) hg).trans (hc j x hj).1, (hb.cell (p := ⟨g, _, none⟩) hg).trans (hc j x hj).2⟩⟩
theorem AtA.of_own {w : World} {B : Nat} {v : Value} {l : List (ByteArray × ByteArray)} (h : w.ownsRow B 43 2 v l.length (aC l)) : AtA l v w := by
  rcases h.2 with ⟨h1, h2⟩ | ⟨g, cap, cur, rfl, h2, h3, h4, h5, h6, h7⟩
  · exact .inl ⟨List.eq_nil_of_length_eq_zero h2, h1⟩
  · refine .inr ⟨g, 0, cap, rfl, (Array.getElem?_eq_some_iff.1 h3).1, fun j x hj => ?_⟩
    obtain ⟨k1, k2⟩ := aC_at l j x hj
    rw [← h7, List.getElem?_take] at k1 k2
    have hjl := (List.getElem?_eq_some_iff.1 hj).1
    rw [if_pos (by omega)] at k1 k2
    simp only [Array.getElem?_toList] at k1 k2
    refine ⟨?_, ?_⟩
    · simp only [World.cell?, h3]; rw [show 0 + j * 2 = 2 * j by omega]; simpa using k1
    · simp only [World.cell?, h3]; rw [show 0 + j * 2 + 1 = 2 * j + 1 by omega]; simpa using k2
set_option maxHeartbeats 1000000 in
theorem index_c (l : List (ByteArray × ByteArray)) (v : Value) (ad : Nat) (m : ByteArray) (w : World) (hm : w.cell? ⟨ad, 0, none⟩ = some (.string m)) (hl : l.length ≤ 1000) (hv : AtA l v w) :
    Calls Tryz.prog 85 #[v, .func (.func 51) #[] #[.pointer (some ⟨ad, 0, none⟩)]] w
      fun e w' => (∃ z : Int, e = .returned (.int .i64 z) ∧ decide (0 ≤ z) = l.any (fun x => x.1.toList == m.toList)) ∧ Below w.heap.size w w' := by
  have hml := World.block_lt_of_cell? _ _ hm
  rcases hv with ⟨rfl, rfl⟩ | ⟨g, o, c, rfl, hg, hc⟩
  · go_enter Tryz.func85, Tryz.ntmps85
    go_wp2
    refine wp_loop_rounds 1 ?_
    rw [rounds_succ]
    go_wp2
    go_ret
    exact ⟨⟨-1, rfl, rfl⟩, Below.refl _ _⟩
  · go_enter Tryz.func85, Tryz.ntmps85
    go_wp2
    go_loopg [5, 8] l.length (fun gg _ s8 wr => ∃ kk : Nat, kk ≤ l.length ∧ l.length - kk ≤ gg ∧ s8 = .int .i64 kk ∧ Below w.heap.size w wr ∧ (l.take kk).any (fun x => x.1.toList == m.toList) = false)
    case atStart => exact ⟨0, Nat.zero_le _, by omega, rfl, Below.refl _ w, rfl⟩
    case round =>
      obtain ⟨kk, hkk, hgg, rfl, BW, hA⟩ := hrel
      by_cases hlt : kk < l.length
      · obtain ⟨x, hx⟩ : ∃ x, l[kk]? = some x := ⟨_, List.getElem?_eq_getElem hlt⟩
        have hc1 := (BW.cell (p := ⟨g, o + kk * 2, none⟩) hg).trans (hc kk x hx).1
        have hc2 := (BW.cell (p := ⟨g, o + kk * 2 + 1, none⟩) hg).trans (hc kk x hx).2
        have hq := eq_c ad x.1 x.2 m wr ((BW.cell (p := ⟨ad, 0, none⟩) hml).trans hm)
        have ht : (l.take (kk + 1)).any (fun x => x.1.toList == m.toList) = (x.1.toList == m.toList) := by
          obtain ⟨h1, h2⟩ := List.getElem?_eq_some_iff.1 hx
          rw [List.take_succ_eq_append_getElem h1, h2, List.any_append, hA]
          simp
        have HX := Lib.hid hx
        have HT := Lib.hid ht
        clear hc hx ht
        obtain ⟨x1, x2⟩ := x
        by_cases he : (x1.toList == m.toList) = true
        · rw [he] at hq HT
          go_wp2_with (go_at_call 51; refine hq.mono ?_; rintro e w' ⟨rfl, hb⟩)
          go_ret
          refine ⟨⟨kk, rfl, ?_⟩, BW.trans (hb.mono BW.size)⟩
          have h1 : l.any (fun x => x.1.toList == m.toList) = true := by
            rw [← List.take_append_drop (kk + 1) l, List.any_append, HT.out]; rfl
          rw [h1]
          exact decide_eq_true (by omega)
        · have he : (x1.toList == m.toList) = false := by simpa using he
          rw [he] at hq HT
          go_wp2_with (go_at_call 51; refine hq.mono ?_; rintro e w' ⟨rfl, hb⟩)
          go_roundg (l.length - (kk + 1))
          case measure => omega
          case rel => exact ⟨kk + 1, by omega, by omega, by go_num, BW.trans (hb.mono BW.size), HT.out⟩
      · obtain rfl : kk = l.length := by omega
        rw [List.take_length] at hA
        go_wp2
        go_ret
        exact ⟨⟨-1, rfl, by rw [hA]; rfl⟩, BW⟩
theorem contains_c (l : List (ByteArray × ByteArray)) (v : Value) (ad : Nat) (m : ByteArray) (w : World) (hm : w.cell? ⟨ad, 0, none⟩ = some (.string m)) (hl : l.length ≤ 1000) (hv : AtA l v w) :
    Calls Tryz.prog 50 #[v, .func (.func 51) #[] #[.pointer (some ⟨ad, 0, none⟩)]] w
      fun e w' => e = .returned (.bool (l.any (fun x => x.1.toList == m.toList))) ∧ Below w.heap.size w w' := by
  have hq := index_c l v ad m w hm hl hv
  go_enter Tryz.func50, Tryz.ntmps50
  go_wp2_with (go_at_call 85; refine hq.mono ?_; rintro e w' ⟨⟨z, rfl, hz⟩, hb⟩)
  go_ret
  refine ⟨?_, hb⟩
  rw [← hz]
  rfl
end Go.Proofs.YtieiopaobipdoaaGreatDoor.Dom
