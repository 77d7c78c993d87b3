/- fleuronref12.SameStyle where they may be alike. -/
import Derived.Test.YtkpoeilfnopgbaaGreatDoorSYn
namespace Go.Proofs.YtkpoeilfnopgbaaGreatDoor.Sty
open Go Go.RowKit
variable {i0 i1 i2 i0' i1' i2' : ByteArray} {i3 i3' : List Itm} {i4 i5 i7 i4' i5' i7' : Bool} {i6 i6' : List ByteArray} {i8 i9 i10 i8' i9' i10' : List Pr} {p q r a z p' q' r' a' z' : Option Addr} {pc qc rc ac zc pc' qc' rc' ac' zc' : Nat} {w : World}
set_option maxHeartbeats 8000000 in
set_option maxRecDepth 100000 in
theorem same_11 (yi3 : i3.length = i3'.length) (yi6 : i6.length = i6'.length) : SmG 8 (eqB (⟨i0, i1, i2, i3, i4, i5, i6, i7, i8, i9, i10⟩ : S) ⟨i0, i1, i2, i3', i4, i5, i6', i7, i8, i9, i10⟩) ⟨i0, i1, i2, i3, i4, i5, i6, i7, i8, i9, i10⟩ ⟨i0, i1, i2, i3', i4, i5, i6', i7, i8, i9, i10⟩ p q r a z pc qc rc ac zc p' q' r' a' z' pc' qc' rc' ac' zc' w := by
  rintro ⟨m3, m6, m8, m9, m10⟩ ⟨n3, n6, n8, n9, n10⟩ hv hu
  dsimp only at m3 m6 m8 m9 m10 n3 n6 n8 n9 n10 hv hu ⊢
  obtain ⟨hv1, hv2, hv3, hv4, hv5⟩ := hv
  obtain ⟨hu1, hu2, hu3, hu4, hu5⟩ := hu
  dsimp only at hv1 hv2 hv3 hv4 hv5 hu1 hu2 hu3 hu4 hu5
  obtain ⟨t1, t2, t3, t4⟩ := two_new w (.cells #[.string i0, .string i1, .string i2, .slice p i3.length pc, .bool i4, .bool i5, .slice q i6.length qc, .bool i7, .slice r i8.length rc, .slice a i9.length ac, .slice z i10.length zc] 27) (.cells #[.string i0, .string i1, .string i2, .slice p' i3'.length pc', .bool i4, .bool i5, .slice q' i6'.length qc', .bool i7, .slice r' i8.length rc', .slice a' i9.length ac', .slice z' i10.length zc'] 27)
  have hp0 := fun (w1 w' : World) (h1 : Below w.heap.size w w1) (h : Below w1.heap.size w1 w') => samepairs2 i8 i8 (.slice r i8.length rc) (.slice r' i8.length rc') w' m8 n8 (hv3.below (h1.trans (h.mono h1.size))) (hu3.below (h1.trans (h.mono h1.size)))
  have hp1 := fun (w1 w' : World) (h1 : Below w.heap.size w w1) (h : Below w1.heap.size w1 w') => samepairs2 i9 i9 (.slice a i9.length ac) (.slice a' i9.length ac') w' m9 n9 (hv4.below (h1.trans (h.mono h1.size))) (hu4.below (h1.trans (h.mono h1.size)))
  have hp2 := fun (w1 w' : World) (h1 : Below w.heap.size w w1) (h : Below w1.heap.size w1 w') => samepairs2 i10 i10 (.slice z i10.length zc) (.slice z' i10.length zc') w' m10 n10 (hv5.below (h1.trans (h.mono h1.size))) (hu5.below (h1.trans (h.mono h1.size)))
  unfold maxLen at m3 n3 m6 n6
  have H0 := Lib.hid hp0
  have H1 := Lib.hid hp1
  have H2 := Lib.hid hp2
  have HV1 := Lib.hid (hv1.below t4)
  have HU1 := Lib.hid (hu1.below t4)
  have HV2 := Lib.hid (hv2.below t4)
  have HU2 := Lib.hid (hu2.below t4)
  have HX := Lib.hid t1
  have HY := Lib.hid t2
  have HZ := Lib.hid t3
  have HB := Lib.hid t4
  clear t1 t2 t3 t4 hv1 hv2 hv3 hv4 hv5 hu1 hu2 hu3 hu4 hu5 hp0 hp1 hp2
  have Yi3 := Lib.hid yi3
  have e1i3 : ((i3.length : Int) == (i3'.length : Int)) = true := by simp [yi3]
  have e2i3 : ((i3.length : Int) != (i3'.length : Int)) = false := by rw [bne, e1i3]; rfl
  clear yi3
  have Yi6 := Lib.hid yi6
  have e1i6 : ((i6.length : Int) == (i6'.length : Int)) = true := by simp [yi6]
  have e2i6 : ((i6.length : Int) != (i6'.length : Int)) = false := by rw [bne, e1i6]; rfl
  clear yi6
  go_enter Tryz.func8, Tryz.ntmps8
  go_upto_region 1 with fail
  generalize ((w.alloc (.cells #[.string i0, .string i1, .string i2, .slice p i3.length pc, .bool i4, .bool i5, .slice q i6.length qc, .bool i7, .slice r i8.length rc, .slice a i9.length ac, .slice z i10.length zc] 27)).alloc (.cells #[.string i0, .string i1, .string i2, .slice p' i3'.length pc', .bool i4, .bool i5, .slice q' i6'.length qc', .bool i7, .slice r' i8.length rc', .slice a' i9.length ac', .slice z' i10.length zc'] 27)) = W1 at HX HY HZ HB HV1 HU1 HV2 HU2 ⊢
  have hzz := HZ.out
  have hz3 : w.heap.size + 2 ≤ W1.heap.size := by omega
  clear hzz
  have cX := Lib.cell_of_heap HX.out
  have cY := Lib.cell_of_heap HY.out
  have HB0 := Lib.hid (Below.refl W1.heap.size W1)
  have hq0 := H0.out W1 W1 HB.out HB0.out
  rw [eqB_t rfl] at hq0
  go_wp2_with (go_at_call 27; refine hq0.mono ?_)
  rintro e v0 ⟨rfl, hb0⟩
  have HB1 := Lib.hid (HB0.out.trans (hb0.mono HB0.out.size))
  clear hq0 hb0 cX cY
  have cX := Lib.cell_of_heap ((HB1.out.block w.heap.size (by omega)).trans HX.out)
  have cY := Lib.cell_of_heap ((HB1.out.block (w.heap.size + 1) (by omega)).trans HY.out)
  have hq1 := H1.out W1 v0 HB.out HB1.out
  rw [eqB_t rfl] at hq1
  go_wp2_with (go_at_call 27; refine hq1.mono ?_)
  rintro e v1 ⟨rfl, hb1⟩
  have HB2 := Lib.hid (HB1.out.trans (hb1.mono HB1.out.size))
  clear hq1 hb1 cX cY
  have cX := Lib.cell_of_heap ((HB2.out.block w.heap.size (by omega)).trans HX.out)
  have cY := Lib.cell_of_heap ((HB2.out.block (w.heap.size + 1) (by omega)).trans HY.out)
  have hq2 := H2.out W1 v1 HB.out HB2.out
  rw [eqB_t rfl] at hq2
  go_wp2_with (go_at_call 27; refine hq2.mono ?_)
  rintro e v2 ⟨rfl, hb2⟩
  have HB3 := Lib.hid (HB2.out.trans (hb2.mono HB2.out.size))
  clear hq2 hb2 cX cY
  have cX := Lib.cell_of_heap ((HB3.out.block w.heap.size (by omega)).trans HX.out)
  have cY := Lib.cell_of_heap ((HB3.out.block (w.heap.size + 1) (by omega)).trans HY.out)
  clear cX cY
  have hl3 := Yi3.out
  have hl3' : i3.length ≤ i3'.length := by omega
  have hl6 := Yi6.out
  have hl6' : i6.length ≤ i6'.length := by omega
  clear hl3 hl6
  go_wp2_with fail
  go_loopw [5] (fun x5 wr => ∃ k : Nat, k ≤ i3.length ∧ x5 = .int .i64 (k : Int) ∧ Below W1.heap.size W1 wr ∧ i3.take k = i3'.take k) (fun x5 _ => i3.length - (intOf x5).toNat)
  case atStart => exact ⟨0, Nat.zero_le _, rfl, HB3.out, rfl⟩
  case round =>
    obtain ⟨k, hk, rfl, hb, ht⟩ := hrel
    have cX := Lib.cell_of_heap ((hb.block w.heap.size (by omega)).trans HX.out)
    have cY := Lib.cell_of_heap ((hb.block (w.heap.size + 1) (by omega)).trans HY.out)
    by_cases hlt : k < i3.length
    · obtain ⟨x, hx⟩ : ∃ x, i3[k]? = some x := ⟨_, List.getElem?_eq_getElem hlt⟩
      obtain ⟨y, hy⟩ : ∃ y, i3'[k]? = some y := ⟨_, List.getElem?_eq_getElem (by omega)⟩
      obtain ⟨a0, a1, a2, a3⟩ := iC_at i3 k x hx
      obtain ⟨b0, b1, b2, b3⟩ := iC_at i3' k y hy
      obtain ⟨g, o, c', hv, hc⟩ := row_cell HV1.out hb (by omega)
      obtain ⟨g', o', d', hu, hd⟩ := row_cell HU1.out hb (by omega)
      simp only [Value.slice.injEq] at hv hu
      obtain ⟨rfl, _, rfl⟩ := hv
      obtain ⟨rfl, _, rfl⟩ := hu
      have c0 := hc (k * 4) 0 _ a0
      have d0 := hd (k * 4) 0 _ b0
      have c1 := hc (k * 4) 1 _ a1
      have d1 := hd (k * 4) 1 _ b1
      have c2 := hc (k * 4) 2 _ a2
      have d2 := hd (k * 4) 2 _ b2
      have c3 := hc (k * 4) 3 _ a3
      have d3 := hd (k * 4) 3 _ b3
      simp only [Nat.add_zero] at c0 d0
      have HBr := Lib.hid hb
      clear a0 a1 a2 a3 b0 b1 b2 b3 hc hd hb
      by_cases hxy : x = y
      · subst hxy
        have HT := Lib.hid (take_eq hx hy ht)
        clear hx hy ht
        obtain ⟨x1, x2, x3, x4⟩ := x
        go_wp2_with fail
        go_region
        all_goals
          go_wp2_with fail
          go_roundw
          case rel => first | exact ⟨k + 1, by omega, by go_num, HBr.out.drew, HT.out⟩ | ((repeat apply Exists.intro); exact ⟨⟨k + 1, by omega, by go_num, HBr.out.drew, HT.out⟩, rfl⟩)
          case measure => simp [intOf]; omega
      · have hne := at_ne hx hy hxy
        have HE := Lib.hid (eqB_f (a := (⟨i0, i1, i2, i3, i4, i5, i6, i7, i8, i9, i10⟩ : S)) (b := ⟨i0, i1, i2, i3', i4, i5, i6', i7, i8, i9, i10⟩) fun h => hne (congrArg S.con h))
        clear hx hy ht hne
        obtain ⟨x1, x2, x3, x4⟩ := x
        obtain ⟨y1, y2, y3, y4⟩ := y
        by_cases z1 : x1 = y1
        case neg =>
          have e1 : (x1 == y1) = false := by simpa using z1
          clear z1 hxy
          go_wp2_with fail
          go_region
          all_goals
            go_wp2
            go_ret
            exact ⟨by rw [HE.out]; rfl, HB.out.trans (HBr.out.drew.mono (by omega))⟩
        subst z1
        by_cases z2 : x2 = y2
        case neg =>
          have e1 := bytes_ne z2
          clear z2 hxy
          go_wp2_with fail
          go_region
          all_goals
            go_wp2
            go_ret
            exact ⟨by rw [HE.out]; rfl, HB.out.trans (HBr.out.drew.mono (by omega))⟩
        subst z2
        by_cases z3 : x3 = y3
        case neg =>
          have e1 := bytes_ne z3
          clear z3 hxy
          go_wp2_with fail
          go_region
          all_goals
            go_wp2
            go_ret
            exact ⟨by rw [HE.out]; rfl, HB.out.trans (HBr.out.drew.mono (by omega))⟩
        subst z3
        by_cases z4 : x4 = y4
        case neg =>
          have e1 := bytes_ne z4
          clear z4 hxy
          go_wp2_with fail
          go_region
          all_goals
            go_wp2
            go_ret
            exact ⟨by rw [HE.out]; rfl, HB.out.trans (HBr.out.drew.mono (by omega))⟩
        subst z4
        exact absurd rfl hxy
    · obtain rfl : k = i3.length := by omega
      have HT3 := Lib.hid (take_all Yi3.out ht)
      have HB5 := Lib.hid hb
      clear hb ht
      go_wp2_with fail
      go_loopw [6] (fun x6 wr => ∃ k : Nat, k ≤ i6.length ∧ x6 = .int .i64 (k : Int) ∧ Below W1.heap.size W1 wr ∧ i6.take k = i6'.take k) (fun x6 _ => i6.length - (intOf x6).toNat)
      case atStart => exact ⟨0, Nat.zero_le _, rfl, HB5.out, rfl⟩
      case round =>
        clear HB5 cX cY
        rename World => wq
        obtain ⟨k, hk, rfl, hb, ht⟩ := hrel
        have cX := Lib.cell_of_heap ((hb.block w.heap.size (by omega)).trans HX.out)
        have cY := Lib.cell_of_heap ((hb.block (w.heap.size + 1) (by omega)).trans HY.out)
        by_cases hlt : k < i6.length
        · obtain ⟨x, hx⟩ : ∃ x, i6[k]? = some x := ⟨_, List.getElem?_eq_getElem hlt⟩
          obtain ⟨y, hy⟩ : ∃ y, i6'[k]? = some y := ⟨_, List.getElem?_eq_getElem (by omega)⟩
          have a0 := qC_at i6 k x hx
          have b0 := qC_at i6' k y hy
          obtain ⟨g, o, c', hv, hc⟩ := row_cell HV2.out hb (by omega)
          obtain ⟨g', o', d', hu, hd⟩ := row_cell HU2.out hb (by omega)
          simp only [Value.slice.injEq] at hv hu
          obtain ⟨rfl, _, rfl⟩ := hv
          obtain ⟨rfl, _, rfl⟩ := hu
          have c0 := hc k 0 _ a0
          have d0 := hd k 0 _ b0
          simp only [Nat.add_zero] at c0 d0
          have HBr := Lib.hid hb
          clear a0 b0 hc hd hb
          by_cases hxy : x = y
          · subst hxy
            have HT := Lib.hid (take_eq hx hy ht)
            clear hx hy ht
            go_wp2_with fail
            go_region
            all_goals
              go_wp2_with fail
              go_roundw
              case rel => first | exact ⟨k + 1, by omega, by go_num, HBr.out.drew, HT.out⟩ | ((repeat apply Exists.intro); exact ⟨⟨k + 1, by omega, by go_num, HBr.out.drew, HT.out⟩, rfl⟩)
              case measure => simp [intOf]; omega
          · have hne := at_ne hx hy hxy
            have HE := Lib.hid (eqB_f (a := (⟨i0, i1, i2, i3, i4, i5, i6, i7, i8, i9, i10⟩ : S)) (b := ⟨i0, i1, i2, i3', i4, i5, i6', i7, i8, i9, i10⟩) fun h => hne (congrArg S.quo h))
            clear hx hy ht hne
            have e1 := bytes_ne hxy
            clear hxy
            go_wp2_with fail
            go_region
            all_goals
              go_wp2
              go_ret
              exact ⟨by rw [HE.out]; rfl, HB.out.trans (HBr.out.drew.mono (by omega))⟩
        · obtain rfl : k = i6.length := by omega
          have HE : Hid (eqB (⟨i0, i1, i2, i3, i4, i5, i6, i7, i8, i9, i10⟩ : S) ⟨i0, i1, i2, i3', i4, i5, i6', i7, i8, i9, i10⟩ = true) := Lib.hid (eqB_t (by rw [HT3.out, take_all Yi6.out ht]))
          have HBr := Lib.hid hb
          clear hb ht
          go_wp2
          go_ret
          exact ⟨by rw [HE.out]; rfl, HB.out.trans (HBr.out.mono (by omega))⟩
end Go.Proofs.YtkpoeilfnopgbaaGreatDoor.Sty
