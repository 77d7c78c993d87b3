/- fleuronref12.SameStyle where two styles differ. -/
import Derived.Test.YtkpoeilfnopgbaaGreatDoorSYn
namespace Go.Proofs.YtkpoeilfnopgbaaGreatDoor.Sty
open Go Go.RowKit
variable {i0 i1 i2 i0' i1' i2' : ByteArray} {i3 i3' : List Itm} {i4 i5 i7 i4' i5' i7' : Bool} {i6 i6' : List ByteArray} {i8 i9 i10 i8' i9' i10' : List Pr} {p q r a z p' q' r' a' z' : Option Addr} {pc qc rc ac zc pc' qc' rc' ac' zc' : Nat} {w : World}
set_option maxHeartbeats 8000000 in
set_option maxRecDepth 100000 in
theorem same_9 (yi3 : i3.length = i3'.length) (yi6 : i6.length = i6'.length) (y : ¬ i9 = i9') : SmG 8 false ⟨i0, i1, i2, i3, i4, i5, i6, i7, i8, i9, i10⟩ ⟨i0, i1, i2, i3', i4, i5, i6', i7, i8, i9', i10'⟩ p q r a z pc qc rc ac zc p' q' r' a' z' pc' qc' rc' ac' zc' w := by
  rintro ⟨m3, m6, m8, m9, m10⟩ ⟨n3, n6, n8, n9, n10⟩ hv hu
  dsimp only at m3 m6 m8 m9 m10 n3 n6 n8 n9 n10 hv hu ⊢
  obtain ⟨hv1, hv2, hv3, hv4, hv5⟩ := hv
  obtain ⟨hu1, hu2, hu3, hu4, hu5⟩ := hu
  dsimp only at hv1 hv2 hv3 hv4 hv5 hu1 hu2 hu3 hu4 hu5
  obtain ⟨t1, t2, t3, t4⟩ := two_new w (.cells #[.string i0, .string i1, .string i2, .slice p i3.length pc, .bool i4, .bool i5, .slice q i6.length qc, .bool i7, .slice r i8.length rc, .slice a i9.length ac, .slice z i10.length zc] 27) (.cells #[.string i0, .string i1, .string i2, .slice p' i3'.length pc', .bool i4, .bool i5, .slice q' i6'.length qc', .bool i7, .slice r' i8.length rc', .slice a' i9'.length ac', .slice z' i10'.length zc'] 27)
  have hp0 := fun (w1 w' : World) (h1 : Below w.heap.size w w1) (h : Below w1.heap.size w1 w') => samepairs2 i8 i8 (.slice r i8.length rc) (.slice r' i8.length rc') w' m8 n8 (hv3.below (h1.trans (h.mono h1.size))) (hu3.below (h1.trans (h.mono h1.size)))
  have hp1 := fun (w1 w' : World) (h1 : Below w.heap.size w w1) (h : Below w1.heap.size w1 w') => samepairs2 i9 i9' (.slice a i9.length ac) (.slice a' i9'.length ac') w' m9 n9 (hv4.below (h1.trans (h.mono h1.size))) (hu4.below (h1.trans (h.mono h1.size)))
  unfold maxLen at m3 n3 m6 n6
  have H0 := Lib.hid hp0
  have H1 := Lib.hid hp1
  have HV1 := Lib.hid (hv1.below t4)
  have HU1 := Lib.hid (hu1.below t4)
  have HV2 := Lib.hid (hv2.below t4)
  have HU2 := Lib.hid (hu2.below t4)
  have HX := Lib.hid t1
  have HY := Lib.hid t2
  have HZ := Lib.hid t3
  have HB := Lib.hid t4
  clear t1 t2 t3 t4 hv1 hv2 hv3 hv4 hv5 hu1 hu2 hu3 hu4 hu5 hp0 hp1
  have Yi3 := Lib.hid yi3
  have e1i3 : ((i3.length : Int) == (i3'.length : Int)) = true := by simp [yi3]
  have e2i3 : ((i3.length : Int) != (i3'.length : Int)) = false := by rw [bne, e1i3]; rfl
  clear yi3
  have Yi6 := Lib.hid yi6
  have e1i6 : ((i6.length : Int) == (i6'.length : Int)) = true := by simp [yi6]
  have e2i6 : ((i6.length : Int) != (i6'.length : Int)) = false := by rw [bne, e1i6]; rfl
  clear yi6
  have HNE := Lib.hid (eqB_f y)
  clear y
  go_enter Tryz.func8, Tryz.ntmps8
  go_upto_region 1 with fail
  generalize ((w.alloc (.cells #[.string i0, .string i1, .string i2, .slice p i3.length pc, .bool i4, .bool i5, .slice q i6.length qc, .bool i7, .slice r i8.length rc, .slice a i9.length ac, .slice z i10.length zc] 27)).alloc (.cells #[.string i0, .string i1, .string i2, .slice p' i3'.length pc', .bool i4, .bool i5, .slice q' i6'.length qc', .bool i7, .slice r' i8.length rc', .slice a' i9'.length ac', .slice z' i10'.length zc'] 27)) = W1 at HX HY HZ HB HV1 HU1 HV2 HU2 ⊢
  have hzz := HZ.out
  have hz3 : w.heap.size + 2 ≤ W1.heap.size := by omega
  clear hzz
  have cX := Lib.cell_of_heap HX.out
  have cY := Lib.cell_of_heap HY.out
  have HB0 := Lib.hid (Below.refl W1.heap.size W1)
  have hq0 := H0.out W1 W1 HB.out HB0.out
  rw [eqB_t rfl] at hq0
  go_wp2_with (go_at_call 27; refine hq0.mono ?_)
  rintro e v0 ⟨rfl, hb0⟩
  have HB1 := Lib.hid (HB0.out.trans (hb0.mono HB0.out.size))
  clear hq0 hb0 cX cY
  have cX := Lib.cell_of_heap ((HB1.out.block w.heap.size (by omega)).trans HX.out)
  have cY := Lib.cell_of_heap ((HB1.out.block (w.heap.size + 1) (by omega)).trans HY.out)
  have hq1 := H1.out W1 v0 HB.out HB1.out
  rw [HNE.out] at hq1
  go_wp2_with (go_at_call 27; refine hq1.mono ?_)
  rintro e v1 ⟨rfl, hb1⟩
  have HB2 := Lib.hid (HB1.out.trans (hb1.mono HB1.out.size))
  clear hq1 hb1 cX cY
  have cX := Lib.cell_of_heap ((HB2.out.block w.heap.size (by omega)).trans HX.out)
  have cY := Lib.cell_of_heap ((HB2.out.block (w.heap.size + 1) (by omega)).trans HY.out)
  go_wp2
  go_ret
  exact ⟨rfl, HB.out.trans (HB2.out.mono (by omega))⟩
set_option maxHeartbeats 8000000 in
set_option maxRecDepth 100000 in
theorem same_10 (yi3 : i3.length = i3'.length) (yi6 : i6.length = i6'.length) (y : ¬ i10 = i10') : SmG 8 false ⟨i0, i1, i2, i3, i4, i5, i6, i7, i8, i9, i10⟩ ⟨i0, i1, i2, i3', i4, i5, i6', i7, i8, i9, i10'⟩ p q r a z pc qc rc ac zc p' q' r' a' z' pc' qc' rc' ac' zc' w := by
  rintro ⟨m3, m6, m8, m9, m10⟩ ⟨n3, n6, n8, n9, n10⟩ hv hu
  dsimp only at m3 m6 m8 m9 m10 n3 n6 n8 n9 n10 hv hu ⊢
  obtain ⟨hv1, hv2, hv3, hv4, hv5⟩ := hv
  obtain ⟨hu1, hu2, hu3, hu4, hu5⟩ := hu
  dsimp only at hv1 hv2 hv3 hv4 hv5 hu1 hu2 hu3 hu4 hu5
  obtain ⟨t1, t2, t3, t4⟩ := two_new w (.cells #[.string i0, .string i1, .string i2, .slice p i3.length pc, .bool i4, .bool i5, .slice q i6.length qc, .bool i7, .slice r i8.length rc, .slice a i9.length ac, .slice z i10.length zc] 27) (.cells #[.string i0, .string i1, .string i2, .slice p' i3'.length pc', .bool i4, .bool i5, .slice q' i6'.length qc', .bool i7, .slice r' i8.length rc', .slice a' i9.length ac', .slice z' i10'.length zc'] 27)
  have hp0 := fun (w1 w' : World) (h1 : Below w.heap.size w w1) (h : Below w1.heap.size w1 w') => samepairs2 i8 i8 (.slice r i8.length rc) (.slice r' i8.length rc') w' m8 n8 (hv3.below (h1.trans (h.mono h1.size))) (hu3.below (h1.trans (h.mono h1.size)))
  have hp1 := fun (w1 w' : World) (h1 : Below w.heap.size w w1) (h : Below w1.heap.size w1 w') => samepairs2 i9 i9 (.slice a i9.length ac) (.slice a' i9.length ac') w' m9 n9 (hv4.below (h1.trans (h.mono h1.size))) (hu4.below (h1.trans (h.mono h1.size)))
  have hp2 := fun (w1 w' : World) (h1 : Below w.heap.size w w1) (h : Below w1.heap.size w1 w') => samepairs2 i10 i10' (.slice z i10.length zc) (.slice z' i10'.length zc') w' m10 n10 (hv5.below (h1.trans (h.mono h1.size))) (hu5.below (h1.trans (h.mono h1.size)))
  unfold maxLen at m3 n3 m6 n6
  have H0 := Lib.hid hp0
  have H1 := Lib.hid hp1
  have H2 := Lib.hid hp2
  have HV1 := Lib.hid (hv1.below t4)
  have HU1 := Lib.hid (hu1.below t4)
  have HV2 := Lib.hid (hv2.below t4)
  have HU2 := Lib.hid (hu2.below t4)
  have HX := Lib.hid t1
  have HY := Lib.hid t2
  have HZ := Lib.hid t3
  have HB := Lib.hid t4
  clear t1 t2 t3 t4 hv1 hv2 hv3 hv4 hv5 hu1 hu2 hu3 hu4 hu5 hp0 hp1 hp2
  have Yi3 := Lib.hid yi3
  have e1i3 : ((i3.length : Int) == (i3'.length : Int)) = true := by simp [yi3]
  have e2i3 : ((i3.length : Int) != (i3'.length : Int)) = false := by rw [bne, e1i3]; rfl
  clear yi3
  have Yi6 := Lib.hid yi6
  have e1i6 : ((i6.length : Int) == (i6'.length : Int)) = true := by simp [yi6]
  have e2i6 : ((i6.length : Int) != (i6'.length : Int)) = false := by rw [bne, e1i6]; rfl
  clear yi6
  have HNE := Lib.hid (eqB_f y)
  clear y
  go_enter Tryz.func8, Tryz.ntmps8
  go_upto_region 1 with fail
  generalize ((w.alloc (.cells #[.string i0, .string i1, .string i2, .slice p i3.length pc, .bool i4, .bool i5, .slice q i6.length qc, .bool i7, .slice r i8.length rc, .slice a i9.length ac, .slice z i10.length zc] 27)).alloc (.cells #[.string i0, .string i1, .string i2, .slice p' i3'.length pc', .bool i4, .bool i5, .slice q' i6'.length qc', .bool i7, .slice r' i8.length rc', .slice a' i9.length ac', .slice z' i10'.length zc'] 27)) = W1 at HX HY HZ HB HV1 HU1 HV2 HU2 ⊢
  have hzz := HZ.out
  have hz3 : w.heap.size + 2 ≤ W1.heap.size := by omega
  clear hzz
  have cX := Lib.cell_of_heap HX.out
  have cY := Lib.cell_of_heap HY.out
  have HB0 := Lib.hid (Below.refl W1.heap.size W1)
  have hq0 := H0.out W1 W1 HB.out HB0.out
  rw [eqB_t rfl] at hq0
  go_wp2_with (go_at_call 27; refine hq0.mono ?_)
  rintro e v0 ⟨rfl, hb0⟩
  have HB1 := Lib.hid (HB0.out.trans (hb0.mono HB0.out.size))
  clear hq0 hb0 cX cY
  have cX := Lib.cell_of_heap ((HB1.out.block w.heap.size (by omega)).trans HX.out)
  have cY := Lib.cell_of_heap ((HB1.out.block (w.heap.size + 1) (by omega)).trans HY.out)
  have hq1 := H1.out W1 v0 HB.out HB1.out
  rw [eqB_t rfl] at hq1
  go_wp2_with (go_at_call 27; refine hq1.mono ?_)
  rintro e v1 ⟨rfl, hb1⟩
  have HB2 := Lib.hid (HB1.out.trans (hb1.mono HB1.out.size))
  clear hq1 hb1 cX cY
  have cX := Lib.cell_of_heap ((HB2.out.block w.heap.size (by omega)).trans HX.out)
  have cY := Lib.cell_of_heap ((HB2.out.block (w.heap.size + 1) (by omega)).trans HY.out)
  have hq2 := H2.out W1 v1 HB.out HB2.out
  rw [HNE.out] at hq2
  go_wp2_with (go_at_call 27; refine hq2.mono ?_)
  rintro e v2 ⟨rfl, hb2⟩
  have HB3 := Lib.hid (HB2.out.trans (hb2.mono HB2.out.size))
  clear hq2 hb2 cX cY
  have cX := Lib.cell_of_heap ((HB3.out.block w.heap.size (by omega)).trans HX.out)
  have cY := Lib.cell_of_heap ((HB3.out.block (w.heap.size + 1) (by omega)).trans HY.out)
  go_wp2
  go_ret
  exact ⟨rfl, HB.out.trans (HB3.out.mono (by omega))⟩
end Go.Proofs.YtkpoeilfnopgbaaGreatDoor.Sty
