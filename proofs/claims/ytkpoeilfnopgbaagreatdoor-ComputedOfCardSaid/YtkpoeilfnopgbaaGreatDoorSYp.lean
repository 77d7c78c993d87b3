/- slices.Equal of a style's lists. -/
import Derived.Test.YtkpoeilfnopgbaaGreatDoorSYn
namespace Go.Proofs.YtkpoeilfnopgbaaGreatDoor.Sty
open Go Go.RowKit
set_option maxHeartbeats 4000000 in
set_option maxRecDepth 100000 in
theorem equalI (l m : List (Itm)) (v u : Value) (w : World) (hl : l.length ≤ maxLen) (hm : m.length ≤ maxLen) (hv : RowAt l.length (iC l) v w) (hu : RowAt m.length (iC m) u w) :
    Calls Tryz.prog 29 #[v, u] w fun e w' => e = .returned (.bool (eqB l m)) ∧ Below w.heap.size w w' := by
  have _hm2 := hm
  unfold maxLen at hl hm
  have HV := Lib.hid hv
  have HU := Lib.hid hu
  obtain ⟨p, c, rfl, _⟩ := hv
  obtain ⟨q, d, rfl, _⟩ := hu
  by_cases hlen : l.length = m.length
  case neg =>
    have h1 : ((l.length : Int) == (m.length : Int)) = false := by simp; omega
    have h2 : ((l.length : Int) != (m.length : Int)) = true := by rw [bne, h1]; rfl
    have HE : Hid (eqB l m = false) := Lib.hid (eqB_f fun h => hlen (by rw [h]))
    clear hlen
    go_enter Tryz.func29, Tryz.ntmps29
    go_wp2
    go_ret
    exact ⟨by rw [HE.out]; rfl, Below.refl _ _⟩
  have HL := Lib.hid hlen
  have hu2 : Value.slice q m.length d = .slice q l.length d := by rw [hlen]
  rw [hu2]
  rw [← hlen] at hm
  clear hlen hu2
  go_enter Tryz.func29, Tryz.ntmps29
  go_wp2_with fail
  go_loopw [13] (fun x13 wr => ∃ k : Nat, k ≤ l.length ∧ x13 = .int .i64 (k : Int) ∧ Below w.heap.size w wr ∧ l.take k = m.take k) (fun x13 _ => l.length - (intOf x13).toNat)
  case atStart => exact ⟨0, Nat.zero_le _, rfl, Below.refl _ _, rfl⟩
  case round =>
    obtain ⟨k, hk, rfl, hb, ht⟩ := hrel
    by_cases hlt : k < l.length
    · obtain ⟨x, hx⟩ : ∃ x, l[k]? = some x := ⟨_, List.getElem?_eq_getElem hlt⟩
      obtain ⟨y, hy⟩ : ∃ y, m[k]? = some y := ⟨_, List.getElem?_eq_getElem (by rw [← HL.out]; exact hlt)⟩
      obtain ⟨a0, a1, a2, a3⟩ := iC_at l k x hx
      obtain ⟨b0, b1, b2, b3⟩ := iC_at m k y hy
      obtain ⟨g, o, c', hv, hc⟩ := row_cell HV.out hb (by omega)
      obtain ⟨g', o', d', hu, hd⟩ := row_cell HU.out hb (by have := HL.out; omega)
      simp only [Value.slice.injEq] at hv hu
      obtain ⟨rfl, _, rfl⟩ := hv
      obtain ⟨rfl, _, rfl⟩ := hu
      have c0 := hc (k * 4) 0 _ a0
      have d0 := hd (k * 4) 0 _ b0
      have c1 := hc (k * 4) 1 _ a1
      have d1 := hd (k * 4) 1 _ b1
      have c2 := hc (k * 4) 2 _ a2
      have d2 := hd (k * 4) 2 _ b2
      have c3 := hc (k * 4) 3 _ a3
      have d3 := hd (k * 4) 3 _ b3
      simp only [Nat.add_zero] at c0 d0
      have HB := Lib.hid hb
      clear a0 b0 a1 b1 a2 b2 a3 b3 hc hd hb
      by_cases hxy : x = y
      · subst hxy
        have HT := Lib.hid (take_eq hx hy ht)
        clear hx hy ht
        obtain ⟨x1, x2, x3, x4⟩ := x
        go_wp2_with fail
        go_region
        all_goals
          go_wp2_with fail
          go_roundw
          case rel => first | exact ⟨k + 1, by omega, by go_num, HB.out.drew, HT.out⟩ | ((repeat apply Exists.intro); exact ⟨⟨k + 1, by omega, by go_num, HB.out.drew, HT.out⟩, rfl⟩)
          case measure => simp [intOf]; omega
      · have HE := Lib.hid (eqB_f (at_ne hx hy hxy))
        clear hx hy ht
        obtain ⟨x1, x2, x3, x4⟩ := x
        obtain ⟨y1, y2, y3, y4⟩ := y
        by_cases z1 : x1 = y1
        case neg =>
          have e1 : (x1 == y1) = false := by simpa using z1
          clear z1 hxy
          go_wp2_with fail
          go_region
          all_goals
            go_wp2
            go_ret
            exact ⟨by rw [HE.out]; rfl, HB.out.drew⟩
        subst z1
        by_cases z2 : x2 = y2
        case neg =>
          have e1 := bytes_ne z2
          clear z2 hxy
          go_wp2_with fail
          go_region
          all_goals
            go_wp2
            go_ret
            exact ⟨by rw [HE.out]; rfl, HB.out.drew⟩
        subst z2
        by_cases z3 : x3 = y3
        case neg =>
          have e1 := bytes_ne z3
          clear z3 hxy
          go_wp2_with fail
          go_region
          all_goals
            go_wp2
            go_ret
            exact ⟨by rw [HE.out]; rfl, HB.out.drew⟩
        subst z3
        by_cases z4 : x4 = y4
        case neg =>
          have e1 := bytes_ne z4
          clear z4 hxy
          go_wp2_with fail
          go_region
          all_goals
            go_wp2
            go_ret
            exact ⟨by rw [HE.out]; rfl, HB.out.drew⟩
        subst z4
        exact absurd rfl hxy
    · obtain rfl : k = l.length := by omega
      have HE := Lib.hid (eqB_t (take_all HL.out ht))
      have HB := Lib.hid hb
      clear hb ht
      go_wp2
      go_ret
      exact ⟨by rw [HE.out]; rfl, HB.out⟩
set_option maxHeartbeats 4000000 in
set_option maxRecDepth 100000 in
theorem equalQ (l m : List (ByteArray)) (v u : Value) (w : World) (hl : l.length ≤ maxLen) (hm : m.length ≤ maxLen) (hv : RowAt l.length (qC l) v w) (hu : RowAt m.length (qC m) u w) :
    Calls Tryz.prog 30 #[v, u] w fun e w' => e = .returned (.bool (eqB l m)) ∧ Below w.heap.size w w' := by
  have _hm2 := hm
  unfold maxLen at hl hm
  have HV := Lib.hid hv
  have HU := Lib.hid hu
  obtain ⟨p, c, rfl, _⟩ := hv
  obtain ⟨q, d, rfl, _⟩ := hu
  by_cases hlen : l.length = m.length
  case neg =>
    have h1 : ((l.length : Int) == (m.length : Int)) = false := by simp; omega
    have h2 : ((l.length : Int) != (m.length : Int)) = true := by rw [bne, h1]; rfl
    have HE : Hid (eqB l m = false) := Lib.hid (eqB_f fun h => hlen (by rw [h]))
    clear hlen
    go_enter Tryz.func30, Tryz.ntmps30
    go_wp2
    go_ret
    exact ⟨by rw [HE.out]; rfl, Below.refl _ _⟩
  have HL := Lib.hid hlen
  have hu2 : Value.slice q m.length d = .slice q l.length d := by rw [hlen]
  rw [hu2]
  rw [← hlen] at hm
  clear hlen hu2
  go_enter Tryz.func30, Tryz.ntmps30
  go_wp2_with fail
  go_loopw [13] (fun x13 wr => ∃ k : Nat, k ≤ l.length ∧ x13 = .int .i64 (k : Int) ∧ Below w.heap.size w wr ∧ l.take k = m.take k) (fun x13 _ => l.length - (intOf x13).toNat)
  case atStart => exact ⟨0, Nat.zero_le _, rfl, Below.refl _ _, rfl⟩
  case round =>
    obtain ⟨k, hk, rfl, hb, ht⟩ := hrel
    by_cases hlt : k < l.length
    · obtain ⟨x, hx⟩ : ∃ x, l[k]? = some x := ⟨_, List.getElem?_eq_getElem hlt⟩
      obtain ⟨y, hy⟩ : ∃ y, m[k]? = some y := ⟨_, List.getElem?_eq_getElem (by rw [← HL.out]; exact hlt)⟩
      have a0 := qC_at l k x hx
      have b0 := qC_at m k y hy
      obtain ⟨g, o, c', hv, hc⟩ := row_cell HV.out hb (by omega)
      obtain ⟨g', o', d', hu, hd⟩ := row_cell HU.out hb (by have := HL.out; omega)
      simp only [Value.slice.injEq] at hv hu
      obtain ⟨rfl, _, rfl⟩ := hv
      obtain ⟨rfl, _, rfl⟩ := hu
      have c0 := hc k 0 _ a0
      have d0 := hd k 0 _ b0
      simp only [Nat.add_zero] at c0 d0
      have HB := Lib.hid hb
      clear a0 b0 hc hd hb
      by_cases hxy : x = y
      · subst hxy
        have HT := Lib.hid (take_eq hx hy ht)
        clear hx hy ht
        go_wp2_with fail
        go_region
        all_goals
          go_wp2_with fail
          go_roundw
          case rel => first | exact ⟨k + 1, by omega, by go_num, HB.out.drew, HT.out⟩ | ((repeat apply Exists.intro); exact ⟨⟨k + 1, by omega, by go_num, HB.out.drew, HT.out⟩, rfl⟩)
          case measure => simp [intOf]; omega
      · have HE := Lib.hid (eqB_f (at_ne hx hy hxy))
        clear hx hy ht
        have e1 := bytes_ne hxy
        clear hxy
        go_wp2_with fail
        go_region
        all_goals
          go_wp2
          go_ret
          exact ⟨by rw [HE.out]; rfl, HB.out.drew⟩
    · obtain rfl : k = l.length := by omega
      have HE := Lib.hid (eqB_t (take_all HL.out ht))
      have HB := Lib.hid hb
      clear hb ht
      go_wp2
      go_ret
      exact ⟨by rw [HE.out]; rfl, HB.out⟩
set_option maxHeartbeats 4000000 in
set_option maxRecDepth 100000 in
theorem equalP (l m : List (Pr)) (v u : Value) (w : World) (hl : l.length ≤ maxLen) (hm : m.length ≤ maxLen) (hv : RowAt l.length (pC l) v w) (hu : RowAt m.length (pC m) u w) :
    Calls Tryz.prog 31 #[v, u] w fun e w' => e = .returned (.bool (eqB l m)) ∧ Below w.heap.size w w' := by
  have _hm2 := hm
  unfold maxLen at hl hm
  have HV := Lib.hid hv
  have HU := Lib.hid hu
  obtain ⟨p, c, rfl, _⟩ := hv
  obtain ⟨q, d, rfl, _⟩ := hu
  by_cases hlen : l.length = m.length
  case neg =>
    have h1 : ((l.length : Int) == (m.length : Int)) = false := by simp; omega
    have h2 : ((l.length : Int) != (m.length : Int)) = true := by rw [bne, h1]; rfl
    have HE : Hid (eqB l m = false) := Lib.hid (eqB_f fun h => hlen (by rw [h]))
    clear hlen
    go_enter Tryz.func31, Tryz.ntmps31
    go_wp2
    go_ret
    exact ⟨by rw [HE.out]; rfl, Below.refl _ _⟩
  have HL := Lib.hid hlen
  have hu2 : Value.slice q m.length d = .slice q l.length d := by rw [hlen]
  rw [hu2]
  rw [← hlen] at hm
  clear hlen hu2
  go_enter Tryz.func31, Tryz.ntmps31
  go_wp2_with fail
  go_loopw [13] (fun x13 wr => ∃ k : Nat, k ≤ l.length ∧ x13 = .int .i64 (k : Int) ∧ Below w.heap.size w wr ∧ l.take k = m.take k) (fun x13 _ => l.length - (intOf x13).toNat)
  case atStart => exact ⟨0, Nat.zero_le _, rfl, Below.refl _ _, rfl⟩
  case round =>
    obtain ⟨k, hk, rfl, hb, ht⟩ := hrel
    by_cases hlt : k < l.length
    · obtain ⟨x, hx⟩ : ∃ x, l[k]? = some x := ⟨_, List.getElem?_eq_getElem hlt⟩
      obtain ⟨y, hy⟩ : ∃ y, m[k]? = some y := ⟨_, List.getElem?_eq_getElem (by rw [← HL.out]; exact hlt)⟩
      obtain ⟨a0, a1, a2, a3⟩ := pC_at l k x hx
      obtain ⟨b0, b1, b2, b3⟩ := pC_at m k y hy
      obtain ⟨g, o, c', hv, hc⟩ := row_cell HV.out hb (by omega)
      obtain ⟨g', o', d', hu, hd⟩ := row_cell HU.out hb (by have := HL.out; omega)
      simp only [Value.slice.injEq] at hv hu
      obtain ⟨rfl, _, rfl⟩ := hv
      obtain ⟨rfl, _, rfl⟩ := hu
      have c0 := hc (k * 4) 0 _ a0
      have d0 := hd (k * 4) 0 _ b0
      have c1 := hc (k * 4) 1 _ a1
      have d1 := hd (k * 4) 1 _ b1
      have c2 := hc (k * 4) 2 _ a2
      have d2 := hd (k * 4) 2 _ b2
      have c3 := hc (k * 4) 3 _ a3
      have d3 := hd (k * 4) 3 _ b3
      simp only [Nat.add_zero] at c0 d0
      have HB := Lib.hid hb
      clear a0 b0 a1 b1 a2 b2 a3 b3 hc hd hb
      by_cases hxy : x = y
      · subst hxy
        have HT := Lib.hid (take_eq hx hy ht)
        clear hx hy ht
        obtain ⟨x1, x2, x3, x4⟩ := x
        go_wp2_with fail
        go_region
        all_goals
          go_wp2_with fail
          go_roundw
          case rel => first | exact ⟨k + 1, by omega, by go_num, HB.out.drew, HT.out⟩ | ((repeat apply Exists.intro); exact ⟨⟨k + 1, by omega, by go_num, HB.out.drew, HT.out⟩, rfl⟩)
          case measure => simp [intOf]; omega
      · have HE := Lib.hid (eqB_f (at_ne hx hy hxy))
        clear hx hy ht
        obtain ⟨x1, x2, x3, x4⟩ := x
        obtain ⟨y1, y2, y3, y4⟩ := y
        by_cases z1 : x1 = y1
        case neg =>
          have e1 := bytes_ne z1
          clear z1 hxy
          go_wp2_with fail
          go_region
          all_goals
            go_wp2
            go_ret
            exact ⟨by rw [HE.out]; rfl, HB.out.drew⟩
        subst z1
        by_cases z2 : x2 = y2
        case neg =>
          have e1 : (x2 == y2) = false := by simpa using z2
          clear z2 hxy
          go_wp2_with fail
          go_region
          all_goals
            go_wp2
            go_ret
            exact ⟨by rw [HE.out]; rfl, HB.out.drew⟩
        subst z2
        by_cases z3 : x3 = y3
        case neg =>
          have e1 : (x3 == y3) = false := by simpa using z3
          clear z3 hxy
          go_wp2_with fail
          go_region
          all_goals
            go_wp2
            go_ret
            exact ⟨by rw [HE.out]; rfl, HB.out.drew⟩
        subst z3
        by_cases z4 : x4 = y4
        case neg =>
          have e1 : (x4 == y4) = false := by simpa using z4
          clear z4 hxy
          go_wp2_with fail
          go_region
          all_goals
            go_wp2
            go_ret
            exact ⟨by rw [HE.out]; rfl, HB.out.drew⟩
        subst z4
        exact absurd rfl hxy
    · obtain rfl : k = l.length := by omega
      have HE := Lib.hid (eqB_t (take_all HL.out ht))
      have HB := Lib.hid hb
      clear hb ht
      go_wp2
      go_ret
      exact ⟨by rw [HE.out]; rfl, HB.out⟩
end Go.Proofs.YtkpoeilfnopgbaaGreatDoor.Sty
