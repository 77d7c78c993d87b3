/- computed.Same where two styles differ. -/
import Derived.Test.YtkpoeilfnopgbaaGreatDoorSYp
namespace Go.Proofs.YtkpoeilfnopgbaaGreatDoor.Sty
open Go Go.RowKit
variable {i0 i1 i2 i0' i1' i2' : ByteArray} {i3 i3' : List Itm} {i4 i5 i7 i4' i5' i7' : Bool} {i6 i6' : List ByteArray} {i8 i9 i10 i8' i9' i10' : List Pr} {p q r a z p' q' r' a' z' : Option Addr} {pc qc rc ac zc pc' qc' rc' ac' zc' : Nat} {w : World}
set_option maxHeartbeats 8000000 in
set_option maxRecDepth 100000 in
theorem csame_3 (y : ¬ i4 = i4') : SmG 10 false ⟨i0, i1, i2, i3, i4, i5, i6, i7, i8, i9, i10⟩ ⟨i0, i1, i2, i3', i4', i5', i6', i7', i8', i9', i10'⟩ p q r a z pc qc rc ac zc p' q' r' a' z' pc' qc' rc' ac' zc' w := by
  rintro ⟨m3, m6, m8, m9, m10⟩ ⟨n3, n6, n8, n9, n10⟩ hv hu
  dsimp only at m3 m6 m8 m9 m10 n3 n6 n8 n9 n10 hv hu ⊢
  obtain ⟨hv1, hv2, hv3, hv4, hv5⟩ := hv
  obtain ⟨hu1, hu2, hu3, hu4, hu5⟩ := hu
  dsimp only at hv1 hv2 hv3 hv4 hv5 hu1 hu2 hu3 hu4 hu5
  obtain ⟨t1, t2, t3, t4⟩ := two_new w (.cells #[.string i0, .string i1, .string i2, .slice p i3.length pc, .bool i4, .bool i5, .slice q i6.length qc, .bool i7, .slice r i8.length rc, .slice a i9.length ac, .slice z i10.length zc] 27) (.cells #[.string i0, .string i1, .string i2, .slice p' i3'.length pc', .bool i4', .bool i5', .slice q' i6'.length qc', .bool i7', .slice r' i8'.length rc', .slice a' i9'.length ac', .slice z' i10'.length zc'] 27)
  have HX := Lib.hid t1
  have HY := Lib.hid t2
  have HZ := Lib.hid t3
  have HB := Lib.hid t4
  clear t1 t2 t3 t4 hv1 hv2 hv3 hv4 hv5 hu1 hu2 hu3 hu4 hu5
  have e1 : (i4 == i4') = false := by simpa using y
  have e2 : (i4 != i4') = true := by rw [bne, e1]; rfl
  clear y
  go_enter Tryz.func10, Tryz.ntmps10
  go_upto_region 1 with fail
  generalize ((w.alloc (.cells #[.string i0, .string i1, .string i2, .slice p i3.length pc, .bool i4, .bool i5, .slice q i6.length qc, .bool i7, .slice r i8.length rc, .slice a i9.length ac, .slice z i10.length zc] 27)).alloc (.cells #[.string i0, .string i1, .string i2, .slice p' i3'.length pc', .bool i4', .bool i5', .slice q' i6'.length qc', .bool i7', .slice r' i8'.length rc', .slice a' i9'.length ac', .slice z' i10'.length zc'] 27)) = W1 at HX HY HZ HB ⊢
  have hzz := HZ.out
  have hz3 : w.heap.size + 2 ≤ W1.heap.size := by omega
  clear hzz
  have cX := Lib.cell_of_heap HX.out
  have cY := Lib.cell_of_heap HY.out
  go_wp2
  go_ret
  exact ⟨rfl, HB.out⟩
set_option maxHeartbeats 8000000 in
set_option maxRecDepth 100000 in
theorem csame_4 (y : ¬ i5 = i5') : SmG 10 false ⟨i0, i1, i2, i3, i4, i5, i6, i7, i8, i9, i10⟩ ⟨i0, i1, i2, i3', i4, i5', i6', i7', i8', i9', i10'⟩ p q r a z pc qc rc ac zc p' q' r' a' z' pc' qc' rc' ac' zc' w := by
  rintro ⟨m3, m6, m8, m9, m10⟩ ⟨n3, n6, n8, n9, n10⟩ hv hu
  dsimp only at m3 m6 m8 m9 m10 n3 n6 n8 n9 n10 hv hu ⊢
  obtain ⟨hv1, hv2, hv3, hv4, hv5⟩ := hv
  obtain ⟨hu1, hu2, hu3, hu4, hu5⟩ := hu
  dsimp only at hv1 hv2 hv3 hv4 hv5 hu1 hu2 hu3 hu4 hu5
  obtain ⟨t1, t2, t3, t4⟩ := two_new w (.cells #[.string i0, .string i1, .string i2, .slice p i3.length pc, .bool i4, .bool i5, .slice q i6.length qc, .bool i7, .slice r i8.length rc, .slice a i9.length ac, .slice z i10.length zc] 27) (.cells #[.string i0, .string i1, .string i2, .slice p' i3'.length pc', .bool i4, .bool i5', .slice q' i6'.length qc', .bool i7', .slice r' i8'.length rc', .slice a' i9'.length ac', .slice z' i10'.length zc'] 27)
  have HX := Lib.hid t1
  have HY := Lib.hid t2
  have HZ := Lib.hid t3
  have HB := Lib.hid t4
  clear t1 t2 t3 t4 hv1 hv2 hv3 hv4 hv5 hu1 hu2 hu3 hu4 hu5
  have e1 : (i5 == i5') = false := by simpa using y
  have e2 : (i5 != i5') = true := by rw [bne, e1]; rfl
  clear y
  go_enter Tryz.func10, Tryz.ntmps10
  go_upto_region 1 with fail
  generalize ((w.alloc (.cells #[.string i0, .string i1, .string i2, .slice p i3.length pc, .bool i4, .bool i5, .slice q i6.length qc, .bool i7, .slice r i8.length rc, .slice a i9.length ac, .slice z i10.length zc] 27)).alloc (.cells #[.string i0, .string i1, .string i2, .slice p' i3'.length pc', .bool i4, .bool i5', .slice q' i6'.length qc', .bool i7', .slice r' i8'.length rc', .slice a' i9'.length ac', .slice z' i10'.length zc'] 27)) = W1 at HX HY HZ HB ⊢
  have hzz := HZ.out
  have hz3 : w.heap.size + 2 ≤ W1.heap.size := by omega
  clear hzz
  have cX := Lib.cell_of_heap HX.out
  have cY := Lib.cell_of_heap HY.out
  go_wp2
  go_ret
  exact ⟨rfl, HB.out⟩
set_option maxHeartbeats 8000000 in
set_option maxRecDepth 100000 in
theorem csame_5 (y : ¬ i7 = i7') : SmG 10 false ⟨i0, i1, i2, i3, i4, i5, i6, i7, i8, i9, i10⟩ ⟨i0, i1, i2, i3', i4, i5, i6', i7', i8', i9', i10'⟩ p q r a z pc qc rc ac zc p' q' r' a' z' pc' qc' rc' ac' zc' w := by
  rintro ⟨m3, m6, m8, m9, m10⟩ ⟨n3, n6, n8, n9, n10⟩ hv hu
  dsimp only at m3 m6 m8 m9 m10 n3 n6 n8 n9 n10 hv hu ⊢
  obtain ⟨hv1, hv2, hv3, hv4, hv5⟩ := hv
  obtain ⟨hu1, hu2, hu3, hu4, hu5⟩ := hu
  dsimp only at hv1 hv2 hv3 hv4 hv5 hu1 hu2 hu3 hu4 hu5
  obtain ⟨t1, t2, t3, t4⟩ := two_new w (.cells #[.string i0, .string i1, .string i2, .slice p i3.length pc, .bool i4, .bool i5, .slice q i6.length qc, .bool i7, .slice r i8.length rc, .slice a i9.length ac, .slice z i10.length zc] 27) (.cells #[.string i0, .string i1, .string i2, .slice p' i3'.length pc', .bool i4, .bool i5, .slice q' i6'.length qc', .bool i7', .slice r' i8'.length rc', .slice a' i9'.length ac', .slice z' i10'.length zc'] 27)
  have HX := Lib.hid t1
  have HY := Lib.hid t2
  have HZ := Lib.hid t3
  have HB := Lib.hid t4
  clear t1 t2 t3 t4 hv1 hv2 hv3 hv4 hv5 hu1 hu2 hu3 hu4 hu5
  have e1 : (i7 == i7') = false := by simpa using y
  have e2 : (i7 != i7') = true := by rw [bne, e1]; rfl
  clear y
  go_enter Tryz.func10, Tryz.ntmps10
  go_upto_region 1 with fail
  generalize ((w.alloc (.cells #[.string i0, .string i1, .string i2, .slice p i3.length pc, .bool i4, .bool i5, .slice q i6.length qc, .bool i7, .slice r i8.length rc, .slice a i9.length ac, .slice z i10.length zc] 27)).alloc (.cells #[.string i0, .string i1, .string i2, .slice p' i3'.length pc', .bool i4, .bool i5, .slice q' i6'.length qc', .bool i7', .slice r' i8'.length rc', .slice a' i9'.length ac', .slice z' i10'.length zc'] 27)) = W1 at HX HY HZ HB ⊢
  have hzz := HZ.out
  have hz3 : w.heap.size + 2 ≤ W1.heap.size := by omega
  clear hzz
  have cX := Lib.cell_of_heap HX.out
  have cY := Lib.cell_of_heap HY.out
  go_wp2
  go_ret
  exact ⟨rfl, HB.out⟩
end Go.Proofs.YtkpoeilfnopgbaaGreatDoor.Sty
