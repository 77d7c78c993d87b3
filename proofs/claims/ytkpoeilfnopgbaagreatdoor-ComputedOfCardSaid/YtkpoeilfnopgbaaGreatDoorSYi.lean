/- fleuronref12.SameStyle of a style twice. -/
import Derived.Test.YtkpoeilfnopgbaaGreatDoorSYh
namespace Go.Proofs.YtkpoeilfnopgbaaGreatDoor.Sty
open Go Go.RowKit
theorem row_cell {n : Nat} {cs : List Value} {v : Value} {w wr : World} (h : RowAt n cs v w) (hb : Below w.heap.size w wr) (hn : 0 < n) : ∃ g o c, v = .slice (some ⟨g, o, none⟩) n c ∧ ∀ (j i : Nat) u, cs[j + i]? = some u → wr.cell? ⟨g, o + j + i, none⟩ = some u := by
  obtain ⟨p, c, hv, hc⟩ := h
  obtain ⟨g, o, rfl, hg, hx⟩ := hc hn
  exact ⟨g, o, c, hv, fun j i u hj => by rw [Nat.add_assoc, hb.cell (p := ⟨g, _, none⟩) hg]; exact hx _ u hj⟩
set_option maxHeartbeats 2000000 in
set_option maxRecDepth 100000 in
theorem samepairs_c (l : List Pr) (v u : Value) (w : World) (hl : l.length ≤ 1000) (hv : RowAt l.length (pC l) v w) (hu : RowAt l.length (pC l) u w) :
    Calls Tryz.prog 27 #[v, u] w fun e w' => e = .returned (.bool true) ∧ Below w.heap.size w w' := by
  have HV := Lib.hid hv
  have HU := Lib.hid hu
  obtain ⟨p, c, rfl, _⟩ := hv
  obtain ⟨q, d, rfl, _⟩ := hu
  go_enter Tryz.func27, Tryz.ntmps27
  go_wp2_with fail
  go_loopw [5] (fun x5 wr => ∃ k : Nat, k ≤ l.length ∧ x5 = .int .i64 (k : Int) ∧ Below w.heap.size w wr) (fun x5 _ => l.length - (intOf x5).toNat)
  case atStart => exact ⟨0, Nat.zero_le _, rfl, Below.refl _ _⟩
  case round =>
    obtain ⟨k, hk, rfl, hb⟩ := hrel
    by_cases hlt : k < l.length
    · obtain ⟨x, hx⟩ : ∃ x, l[k]? = some x := ⟨_, List.getElem?_eq_getElem hlt⟩
      obtain ⟨a0, a1, a2, a3⟩ := pC_at l k x hx
      obtain ⟨g, o, c', hv, hc⟩ := row_cell HV.out hb (by omega)
      obtain ⟨g', o', d', hu, hd⟩ := row_cell HU.out hb (by omega)
      simp only [Value.slice.injEq] at hv hu
      obtain ⟨rfl, _, rfl⟩ := hv
      obtain ⟨rfl, _, rfl⟩ := hu
      obtain ⟨x1, x2, x3, x4⟩ := x
      have c0 := hc (k * 4) 0 _ a0
      have c1 := hc (k * 4) 1 _ a1
      have c2 := hc (k * 4) 2 _ a2
      have c3 := hc (k * 4) 3 _ a3
      have d0 := hd (k * 4) 0 _ a0
      have d1 := hd (k * 4) 1 _ a1
      have d2 := hd (k * 4) 2 _ a2
      have d3 := hd (k * 4) 3 _ a3
      simp only [Nat.add_zero] at c0 d0
      have HB := Lib.hid hb
      clear a0 a1 a2 a3 hc hd hx hb
      go_wp2_with fail
      go_region
      all_goals
        go_wp2_with fail
        go_roundw
        case rel => exact ⟨k + 1, by omega, by go_num, HB.out.drew⟩
        case measure => simp [intOf]; omega
    · obtain rfl : k = l.length := by omega
      have HB := Lib.hid hb
      clear hb
      go_wp2
      go_ret
      exact ⟨rfl, HB.out⟩
set_option maxHeartbeats 8000000 in
set_option maxRecDepth 100000 in
theorem same_c (s : S) (vc vq vr va vs uc uq ur ua us : Value) (w : World) (hs : s.small) (hv : Parts s vc vq vr va vs w) (hu : Parts s uc uq ur ua us w) :
    Calls Tryz.prog 8 #[.agg #[.string s.disp, .string s.lt, .string s.col, vc, .bool s.nor, .bool s.non, vq, .bool s.aut, vr, va, vs], .agg #[.string s.disp, .string s.lt, .string s.col, uc, .bool s.nor, .bool s.non, uq, .bool s.aut, ur, ua, us]] w fun e w' => e = .returned (.bool true) ∧ Below w.heap.size w w' := by
  obtain ⟨z1, z2, z3, z4, z5⟩ := hs
  obtain ⟨t1, t2, t3, t4⟩ := two_new w (.cells #[.string s.disp, .string s.lt, .string s.col, vc, .bool s.nor, .bool s.non, vq, .bool s.aut, vr, va, vs] 27) (.cells #[.string s.disp, .string s.lt, .string s.col, uc, .bool s.nor, .bool s.non, uq, .bool s.aut, ur, ua, us] 27)
  have HV := Lib.hid (hv.below t4)
  have HU := Lib.hid (hu.below t4)
  have hp3 := fun w' (h : Below ((w.alloc (.cells #[.string s.disp, .string s.lt, .string s.col, vc, .bool s.nor, .bool s.non, vq, .bool s.aut, vr, va, vs] 27)).alloc (.cells #[.string s.disp, .string s.lt, .string s.col, uc, .bool s.nor, .bool s.non, uq, .bool s.aut, ur, ua, us] 27)).heap.size ((w.alloc (.cells #[.string s.disp, .string s.lt, .string s.col, vc, .bool s.nor, .bool s.non, vq, .bool s.aut, vr, va, vs] 27)).alloc (.cells #[.string s.disp, .string s.lt, .string s.col, uc, .bool s.nor, .bool s.non, uq, .bool s.aut, ur, ua, us] 27)) w') => samepairs_c s.rst vr ur w' (by omega) ((hv.below t4).below h).r ((hu.below t4).below h).r
  have hp4 := fun w' (h : Below ((w.alloc (.cells #[.string s.disp, .string s.lt, .string s.col, vc, .bool s.nor, .bool s.non, vq, .bool s.aut, vr, va, vs] 27)).alloc (.cells #[.string s.disp, .string s.lt, .string s.col, uc, .bool s.nor, .bool s.non, uq, .bool s.aut, ur, ua, us] 27)).heap.size ((w.alloc (.cells #[.string s.disp, .string s.lt, .string s.col, vc, .bool s.nor, .bool s.non, vq, .bool s.aut, vr, va, vs] 27)).alloc (.cells #[.string s.disp, .string s.lt, .string s.col, uc, .bool s.nor, .bool s.non, uq, .bool s.aut, ur, ua, us] 27)) w') => samepairs_c s.add va ua w' (by omega) ((hv.below t4).below h).a ((hu.below t4).below h).a
  have hp5 := fun w' (h : Below ((w.alloc (.cells #[.string s.disp, .string s.lt, .string s.col, vc, .bool s.nor, .bool s.non, vq, .bool s.aut, vr, va, vs] 27)).alloc (.cells #[.string s.disp, .string s.lt, .string s.col, uc, .bool s.nor, .bool s.non, uq, .bool s.aut, ur, ua, us] 27)).heap.size ((w.alloc (.cells #[.string s.disp, .string s.lt, .string s.col, vc, .bool s.nor, .bool s.non, vq, .bool s.aut, vr, va, vs] 27)).alloc (.cells #[.string s.disp, .string s.lt, .string s.col, uc, .bool s.nor, .bool s.non, uq, .bool s.aut, ur, ua, us] 27)) w') => samepairs_c s.set vs us w' (by omega) ((hv.below t4).below h).s ((hu.below t4).below h).s
  obtain ⟨p1, p1c, rfl, _⟩ := hv.c
  obtain ⟨p2, p2c, rfl, _⟩ := hv.q
  obtain ⟨p3, p3c, rfl, _⟩ := hv.r
  obtain ⟨p4, p4c, rfl, _⟩ := hv.a
  obtain ⟨p5, p5c, rfl, _⟩ := hv.s
  obtain ⟨q1, q1c, rfl, _⟩ := hu.c
  obtain ⟨q2, q2c, rfl, _⟩ := hu.q
  obtain ⟨q3, q3c, rfl, _⟩ := hu.r
  obtain ⟨q4, q4c, rfl, _⟩ := hu.a
  obtain ⟨q5, q5c, rfl, _⟩ := hu.s
  have HX := Lib.hid t1
  have HY := Lib.hid t2
  have HZ := Lib.hid t3
  have HB := Lib.hid t4
  have H3 := Lib.hid hp3
  have H4 := Lib.hid hp4
  have H5 := Lib.hid hp5
  clear t1 t2 t3 t4 hv hu hp3 hp4 hp5
  go_enter Tryz.func8, Tryz.ntmps8
  go_upto_region 1 with fail
  generalize ((w.alloc (.cells #[.string s.disp, .string s.lt, .string s.col, .slice p1 s.con.length p1c, .bool s.nor, .bool s.non, .slice p2 s.quo.length p2c, .bool s.aut, .slice p3 s.rst.length p3c, .slice p4 s.add.length p4c, .slice p5 s.set.length p5c] 27)).alloc (.cells #[.string s.disp, .string s.lt, .string s.col, .slice q1 s.con.length q1c, .bool s.nor, .bool s.non, .slice q2 s.quo.length q2c, .bool s.aut, .slice q3 s.rst.length q3c, .slice q4 s.add.length q4c, .slice q5 s.set.length q5c] 27)) = W1 at HV HU HX HY HZ HB H3 H4 H5 ⊢
  have cX := Lib.cell_of_heap HX.out
  have cY := Lib.cell_of_heap HY.out
  go_wp2_with (go_at_call 27; refine (H3.out _ (Below.refl _ _)).mono ?_)
  rintro e w3 ⟨rfl, hb3⟩
  have HB3 := Lib.hid hb3
  have hzz := HZ.out
  have hz3 : w.heap.size + 2 ≤ W1.heap.size := by omega
  clear hzz
  have cX3 := Lib.cell_of_heap ((hb3.block w.heap.size (by omega)).trans HX.out)
  have cY3 := Lib.cell_of_heap ((hb3.block (w.heap.size + 1) (by omega)).trans HY.out)
  clear hb3
  go_wp2_with (go_at_call 27; refine (H4.out _ HB3.out).mono ?_)
  rintro e w4 ⟨rfl, hb4⟩
  have HB4 := Lib.hid (HB3.out.trans (hb4.mono HB3.out.size))
  have cX4 := Lib.cell_of_heap ((HB4.out.block w.heap.size (by omega)).trans HX.out)
  have cY4 := Lib.cell_of_heap ((HB4.out.block (w.heap.size + 1) (by omega)).trans HY.out)
  clear hb4
  go_wp2_with (go_at_call 27; refine (H5.out _ HB4.out).mono ?_)
  rintro e w5 ⟨rfl, hb5⟩
  have HB5 := Lib.hid (HB4.out.trans (hb5.mono HB4.out.size))
  clear hb5 cX cY cX3 cY3 cX4 cY4 H3 H4 H5
  go_wp2_with fail
  go_loopw [5] (fun x5 wr => ∃ k : Nat, k ≤ s.con.length ∧ x5 = .int .i64 (k : Int) ∧ Below W1.heap.size W1 wr) (fun x5 _ => s.con.length - (intOf x5).toNat)
  case atStart => exact ⟨0, Nat.zero_le _, rfl, HB5.out⟩
  case round =>
    obtain ⟨k, hk, rfl, hb⟩ := hrel
    have cX := Lib.cell_of_heap ((hb.block w.heap.size (by omega)).trans HX.out)
    have cY := Lib.cell_of_heap ((hb.block (w.heap.size + 1) (by omega)).trans HY.out)
    by_cases hlt : k < s.con.length
    · obtain ⟨x, hx⟩ : ∃ x, s.con[k]? = some x := ⟨_, List.getElem?_eq_getElem hlt⟩
      obtain ⟨a0, a1, a2, a3⟩ := iC_at s.con k x hx
      obtain ⟨g, o, c', hv, hc⟩ := row_cell HV.out.c hb (by omega)
      obtain ⟨g', o', d', hu, hd⟩ := row_cell HU.out.c hb (by omega)
      simp only [Value.slice.injEq] at hv hu
      obtain ⟨rfl, _, rfl⟩ := hv
      obtain ⟨rfl, _, rfl⟩ := hu
      obtain ⟨x1, x2, x3, x4⟩ := x
      have c0 := hc (k * 4) 0 _ a0
      have c1 := hc (k * 4) 1 _ a1
      have c2 := hc (k * 4) 2 _ a2
      have c3 := hc (k * 4) 3 _ a3
      have d0 := hd (k * 4) 0 _ a0
      have d1 := hd (k * 4) 1 _ a1
      have d2 := hd (k * 4) 2 _ a2
      have d3 := hd (k * 4) 3 _ a3
      simp only [Nat.add_zero] at c0 d0
      have HB := Lib.hid hb
      clear a0 a1 a2 a3 hc hd hx hb
      go_wp2_with fail
      go_region
      all_goals
        go_wp2_with fail
        go_roundw
        case rel => first | exact ⟨k + 1, by omega, by go_num, HB.out.drew⟩ | ((repeat apply Exists.intro); exact ⟨⟨k + 1, by omega, by go_num, HB.out.drew⟩, rfl⟩)
        case measure => simp [intOf]; omega
    · obtain rfl : k = s.con.length := by omega
      have HB5 := Lib.hid hb
      clear hb
      go_wp2_with fail
      go_loopw [6] (fun x6 wr => ∃ k : Nat, k ≤ s.quo.length ∧ x6 = .int .i64 (k : Int) ∧ Below W1.heap.size W1 wr) (fun x6 _ => s.quo.length - (intOf x6).toNat)
      case atStart => exact ⟨0, Nat.zero_le _, rfl, HB5.out⟩
      case round =>
        clear HB5 cX cY
        rename World => wq
        obtain ⟨k, hk, rfl, hb⟩ := hrel
        have cX := Lib.cell_of_heap ((hb.block w.heap.size (by omega)).trans HX.out)
        have cY := Lib.cell_of_heap ((hb.block (w.heap.size + 1) (by omega)).trans HY.out)
        by_cases hlt : k < s.quo.length
        · obtain ⟨x, hx⟩ : ∃ x, s.quo[k]? = some x := ⟨_, List.getElem?_eq_getElem hlt⟩
          have a0 := qC_at s.quo k x hx
          obtain ⟨g, o, c', hv, hc⟩ := row_cell HV.out.q hb (by omega)
          obtain ⟨g', o', d', hu, hd⟩ := row_cell HU.out.q hb (by omega)
          simp only [Value.slice.injEq] at hv hu
          obtain ⟨rfl, _, rfl⟩ := hv
          obtain ⟨rfl, _, rfl⟩ := hu
          have c0 := hc k 0 _ a0
          have d0 := hd k 0 _ a0
          simp only [Nat.add_zero] at c0 d0
          have HB := Lib.hid hb
          clear a0 hc hd hx hb
          go_wp2_with fail
          go_region
          all_goals
            go_wp2_with fail
            go_roundw
            case rel => first | exact ⟨k + 1, by omega, by go_num, HB.out.drew⟩ | ((repeat apply Exists.intro); exact ⟨⟨k + 1, by omega, by go_num, HB.out.drew⟩, rfl⟩)
            case measure => simp [intOf]; omega
        · obtain rfl : k = s.quo.length := by omega
          have HB5 := Lib.hid hb
          clear hb
          go_wp2
          go_ret
          exact ⟨rfl, HB.out.trans (HB5.out.mono (by omega))⟩
end Go.Proofs.YtkpoeilfnopgbaaGreatDoor.Sty
