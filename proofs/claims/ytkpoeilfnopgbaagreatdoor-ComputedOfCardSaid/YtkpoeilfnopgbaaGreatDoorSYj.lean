/- fleuronalike.Style: is a style looked at? -/
import Derived.Test.YtkpoeilfnopgbaaGreatDoorSYi
namespace Go.Proofs.YtkpoeilfnopgbaaGreatDoor.Sty
open Go Go.RowKit
def pB (l : List Pr) : Bool := ((l.take 50).all fun x => decide (x.1.size ≤ 100)) && decide (l.length ≤ 40)
theorem pB_len {l : List Pr} (h : pB l = true) : l.length ≤ 40 := by
  unfold pB at h
  simp only [Bool.and_eq_true, decide_eq_true_eq] at h
  exact h.2
theorem pB_big {l : List Pr} {k : Nat} {x : Pr} (hk : k < 50) (hx : l[k]? = some x) (hb : 100 < x.1.size) : pB l = false := by
  unfold pB
  have : ((l.take 50).all fun x => decide (x.1.size ≤ 100)) = false := by
    cases h : (l.take 50).all fun x => decide (x.1.size ≤ 100) with
    | false => rfl
    | true =>
      have hm : x ∈ l.take 50 := List.mem_of_getElem? (i := k) (by rw [List.getElem?_take, if_pos hk]; exact hx)
      have := List.all_eq_true.1 h x hm
      simp at this; omega
  rw [this]; rfl
theorem all_snoc {l : List Pr} {k : Nat} {x : Pr} (hx : l[k]? = some x) (hb : x.1.size ≤ 100) (h : ((l.take k).all fun x => decide (x.1.size ≤ 100)) = true) : ((l.take (k + 1)).all fun x => decide (x.1.size ≤ 100)) = true := by
  obtain ⟨h1, h2⟩ := List.getElem?_eq_some_iff.1 hx
  rw [List.take_succ_eq_append_getElem h1, h2, List.all_append, h]
  simp [hb]
theorem pB_end {l : List Pr} {k : Nat} (hk : k = l.length ∨ k = 50) (hk50 : k ≤ 50) (h : ((l.take k).all fun x => decide (x.1.size ≤ 100)) = true) : pB l = decide (l.length ≤ 40) := by
  unfold pB
  have : ((l.take 50).all fun x => decide (x.1.size ≤ 100)) = true := by
    rcases hk with rfl | rfl
    · rw [List.take_of_length_le hk50]
      rwa [List.take_of_length_le (Nat.le_refl _)] at h
    · exact h
  rw [this]; rfl
set_option maxHeartbeats 1000000 in
set_option maxRecDepth 100000 in
theorem pairs_c (l : List Pr) (v : Value) (w : World) (hl : l.length ≤ maxLen) (hv : RowAt l.length (pC l) v w) :
    Calls Tryz.prog 16 #[v] w fun e w' => e = .returned (.bool (pB l)) ∧ w = w' := by
  unfold maxLen at hl
  have HV := Lib.hid hv
  obtain ⟨p, c, rfl, _⟩ := hv
  go_enter Tryz.func16, Tryz.ntmps16
  go_wp2_with fail
  go_loop [3] (fun x3 => ∃ k : Nat, k ≤ l.length ∧ k ≤ 50 ∧ x3 = .int .i64 (k : Int) ∧ ((l.take k).all fun x => decide (x.1.size ≤ 100)) = true) (fun x3 => 50 - (intOf x3).toNat)
  case atStart => exact ⟨0, Nat.zero_le _, by omega, rfl, rfl⟩
  case round =>
    obtain ⟨k, hk, hk50, rfl, ha⟩ := hrel
    by_cases hlt : k < l.length ∧ k < 50
    · obtain ⟨hlt, hlt5⟩ := hlt
      obtain ⟨x, hx⟩ : ∃ x, l[k]? = some x := ⟨_, List.getElem?_eq_getElem hlt⟩
      obtain ⟨a0, _⟩ := pC_at l k x hx
      obtain ⟨g, o, c', hv, hc⟩ := row_cell HV.out (Below.refl _ _) (by omega)
      simp only [Value.slice.injEq] at hv
      obtain ⟨rfl, _, rfl⟩ := hv
      have c0 := hc (k * 4) 0 _ a0
      simp only [Nat.add_zero] at c0
      by_cases hb : 100 < x.1.size
      · have HP := Lib.hid (pB_big hlt5 hx hb)
        clear hc hx ha a0
        go_wp2
        go_ret
        refine ⟨?_, rfl⟩
        rw [HP.out]
        rfl
      · have HS := Lib.hid (all_snoc hx (by omega) ha)
        clear hc hx ha a0
        go_wp2
        go_round
        case rel => exact ⟨k + 1, by omega, by omega, by go_num, HS.out⟩
        case measure => simp [intOf]; omega
    · have HP := Lib.hid (pB_end (l := l) (k := k) (by omega) hk50 ha)
      clear ha
      by_cases hlt2 : k < l.length
      all_goals
        go_wp2
        go_ret
        refine ⟨?_, rfl⟩
        rw [HP.out]
        exact congrArg (fun b => Ending.returned (.bool b)) (decide_eq_decide.2 (by omega))
def StyOk (s : S) (w : World) (e : Ending) (w' : World) : Prop := ∃ b : Bool, e = .returned (.bool b) ∧ (b = true → s.small) ∧ Below w.heap.size w w'
theorem StyOk.no {s : S} {w w' : World} (h : Below w.heap.size w w') : StyOk s w (.returned (.bool false)) w' := ⟨false, rfl, (fun h => by cases h), h⟩
set_option maxHeartbeats 8000000 in
set_option maxRecDepth 100000 in
theorem style_c (s : S) (vc vq vr va vs : Value) (w : World) (m1 : s.con.length ≤ maxLen) (m2 : s.quo.length ≤ maxLen) (m3 : s.rst.length ≤ maxLen) (m4 : s.add.length ≤ maxLen) (m5 : s.set.length ≤ maxLen) (hv : Parts s vc vq vr va vs w) :
    Calls Tryz.prog 5 #[.agg #[.string s.disp, .string s.lt, .string s.col, vc, .bool s.nor, .bool s.non, vq, .bool s.aut, vr, va, vs]] w (StyOk s w) := by
  have t1 := new_heap w (.cells #[.string s.disp, .string s.lt, .string s.col, vc, .bool s.nor, .bool s.non, vq, .bool s.aut, vr, va, vs] 27)
  have t4 : Below w.heap.size w (w.alloc (.cells #[.string s.disp, .string s.lt, .string s.col, vc, .bool s.nor, .bool s.non, vq, .bool s.aut, vr, va, vs] 27)) := (Below.refl _ w).alloc (Nat.le_refl _) _
  have hp3 := pairs_c s.rst vr (w.alloc (.cells #[.string s.disp, .string s.lt, .string s.col, vc, .bool s.nor, .bool s.non, vq, .bool s.aut, vr, va, vs] 27)) m3 (hv.below t4).r
  have hp4 := pairs_c s.add va (w.alloc (.cells #[.string s.disp, .string s.lt, .string s.col, vc, .bool s.nor, .bool s.non, vq, .bool s.aut, vr, va, vs] 27)) m4 (hv.below t4).a
  have hp5 := pairs_c s.set vs (w.alloc (.cells #[.string s.disp, .string s.lt, .string s.col, vc, .bool s.nor, .bool s.non, vq, .bool s.aut, vr, va, vs] 27)) m5 (hv.below t4).s
  unfold maxLen at m1 m2
  have HV := Lib.hid (hv.below t4)
  obtain ⟨p1, p1c, rfl, _⟩ := hv.c
  obtain ⟨p2, p2c, rfl, _⟩ := hv.q
  obtain ⟨p3, p3c, rfl, _⟩ := hv.r
  obtain ⟨p4, p4c, rfl, _⟩ := hv.a
  obtain ⟨p5, p5c, rfl, _⟩ := hv.s
  have HX := Lib.hid t1
  have HB := Lib.hid t4
  clear t1 t4 hv
  go_enter Tryz.func5, Tryz.ntmps5
  go_upto_region 1 with fail
  generalize (w.alloc (.cells #[.string s.disp, .string s.lt, .string s.col, .slice p1 s.con.length p1c, .bool s.nor, .bool s.non, .slice p2 s.quo.length p2c, .bool s.aut, .slice p3 s.rst.length p3c, .slice p4 s.add.length p4c, .slice p5 s.set.length p5c] 27)) = W1 at HV HX HB hp3 hp4 hp5 ⊢
  have cX := Lib.cell_of_heap HX.out
  by_cases d1 : s.disp.size ≤ 100
  case neg => go_wp2; go_ret; exact StyOk.no HB.out
  by_cases d2 : s.lt.size ≤ 300
  case neg => go_wp2; go_ret; exact StyOk.no HB.out
  by_cases d3 : s.col.size ≤ 100
  case neg => go_wp2; go_ret; exact StyOk.no HB.out
  by_cases d4 : s.con.length ≤ 40
  case neg => go_wp2; go_ret; exact StyOk.no HB.out
  by_cases d5 : s.quo.length ≤ 40
  case neg => go_wp2; go_ret; exact StyOk.no HB.out
  cases e3 : pB s.rst with
  | false =>
    rw [e3] at hp3
    clear e3
    go_wp2_with (go_at_call 16; refine hp3.mono ?_; rintro e w' ⟨rfl, rfl⟩)
    go_ret
    exact StyOk.no HB.out
  | true =>
  rw [e3] at hp3
  have d6 := pB_len e3
  clear e3
  cases e4 : pB s.add with
  | false =>
    rw [e4] at hp4
    clear e4
    go_wp2_with (first | (go_at_call 16; (with_reducible refine hp3.mono ?_); rintro e w' ⟨rfl, rfl⟩) | (go_at_call 16; (with_reducible refine hp4.mono ?_); rintro e w' ⟨rfl, rfl⟩))
    go_ret
    exact StyOk.no HB.out
  | true =>
  rw [e4] at hp4
  have d7 := pB_len e4
  clear e4
  cases e5 : pB s.set with
  | false =>
    rw [e5] at hp5
    clear e5
    go_wp2_with (first | (go_at_call 16; (with_reducible refine hp3.mono ?_); rintro e w' ⟨rfl, rfl⟩) | (go_at_call 16; (with_reducible refine hp4.mono ?_); rintro e w' ⟨rfl, rfl⟩) | (go_at_call 16; (with_reducible refine hp5.mono ?_); rintro e w' ⟨rfl, rfl⟩))
    go_ret
    exact StyOk.no HB.out
  | true =>
  rw [e5] at hp5
  have d8 := pB_len e5
  clear e5
  go_wp2_with (first | (go_at_call 16; (with_reducible refine hp3.mono ?_); rintro e w' ⟨rfl, rfl⟩) | (go_at_call 16; (with_reducible refine hp4.mono ?_); rintro e w' ⟨rfl, rfl⟩) | (go_at_call 16; (with_reducible refine hp5.mono ?_); rintro e w' ⟨rfl, rfl⟩))
  clear hp3 hp4 hp5
  go_loop [3] (fun x3 => ∃ k : Nat, k ≤ s.con.length ∧ x3 = .int .i64 (k : Int)) (fun x3 => s.con.length - (intOf x3).toNat)
  case atStart => exact ⟨0, Nat.zero_le _, rfl⟩
  case round =>
    obtain ⟨k, hk, rfl⟩ := hrel
    by_cases hlt : k < s.con.length
    · obtain ⟨x, hx⟩ : ∃ x, s.con[k]? = some x := ⟨_, List.getElem?_eq_getElem hlt⟩
      obtain ⟨a0, a1, a2, a3⟩ := iC_at s.con k x hx
      obtain ⟨g, o, c', hv, hc⟩ := row_cell HV.out.c (Below.refl _ _) (by omega)
      simp only [Value.slice.injEq] at hv
      obtain ⟨rfl, _, rfl⟩ := hv
      obtain ⟨x1, x2, x3, x4⟩ := x
      have c1 := hc (k * 4) 1 _ a1
      have c2 := hc (k * 4) 2 _ a2
      have c3 := hc (k * 4) 3 _ a3
      clear a0 a1 a2 a3 hc hx
      go_wp2
      all_goals first
        | (go_ret; exact StyOk.no HB.out)
        | (go_round; (case rel => (first | exact ⟨k + 1, by omega, by go_num⟩ | ((repeat apply Exists.intro); exact ⟨⟨k + 1, by omega, by go_num⟩, rfl⟩))); (case measure => (simp [intOf]; omega)))
    · obtain rfl : k = s.con.length := by omega
      go_wp2_with fail
      go_loop [4] (fun x4 => ∃ k : Nat, k ≤ s.quo.length ∧ x4 = .int .i64 (k : Int)) (fun x4 => s.quo.length - (intOf x4).toNat)
      case atStart => exact ⟨0, Nat.zero_le _, rfl⟩
      case round =>
        obtain ⟨k, hk, rfl⟩ := hrel
        by_cases hlt : k < s.quo.length
        · obtain ⟨x, hx⟩ : ∃ x, s.quo[k]? = some x := ⟨_, List.getElem?_eq_getElem hlt⟩
          have a0 := qC_at s.quo k x hx
          obtain ⟨g, o, c', hv, hc⟩ := row_cell HV.out.q (Below.refl _ _) (by omega)
          simp only [Value.slice.injEq] at hv
          obtain ⟨rfl, _, rfl⟩ := hv
          have c0 := hc k 0 _ a0
          simp only [Nat.add_zero] at c0
          clear a0 hc hx
          go_wp2
          all_goals first
            | (go_ret; exact StyOk.no HB.out)
            | (go_round; (case rel => (first | exact ⟨k + 1, by omega, by go_num⟩ | ((repeat apply Exists.intro); exact ⟨⟨k + 1, by omega, by go_num⟩, rfl⟩))); (case measure => (simp [intOf]; omega)))
        · obtain rfl : k = s.quo.length := by omega
          go_wp2
          go_ret
          exact ⟨true, rfl, fun _ => ⟨d4, d5, d6, d7, d8⟩, HB.out⟩
end Go.Proofs.YtkpoeilfnopgbaaGreatDoor.Sty
