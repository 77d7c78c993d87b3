/- prop.Take: a style with one property of another one. -/
import Derived.Test.YtkpoeilfnopgbaaGreatDoorSYb
namespace Go.Proofs.YtkpoeilfnopgbaaGreatDoor.Sty
open Go Go.RowKit
def take (k : Nat) (s f : S) : S :=
  match k with
  | 0 => { s with col := f.col }
  | 1 => { s with con := f.con, nor := f.nor, non := f.non }
  | 2 => { s with add := f.add }
  | 3 => { s with rst := f.rst }
  | 4 => { s with set := f.set }
  | 5 => { s with disp := f.disp }
  | 6 => { s with lt := f.lt }
  | 7 => { s with quo := f.quo, aut := f.aut }
  | _ => s
def NmIs (k : Nat) (n : ByteArray) : Prop :=
  (k = 0 ∧ n = ⟨#[99, 111, 108, 111, 114]⟩) ∨ (k = 1 ∧ n = ⟨#[99, 111, 110, 116, 101, 110, 116]⟩) ∨ (k = 2 ∧ n = ⟨#[99, 111, 117, 110, 116, 101, 114, 45, 105, 110, 99, 114, 101, 109, 101, 110, 116]⟩) ∨ (k = 3 ∧ n = ⟨#[99, 111, 117, 110, 116, 101, 114, 45, 114, 101, 115, 101, 116]⟩) ∨ (k = 4 ∧ n = ⟨#[99, 111, 117, 110, 116, 101, 114, 45, 115, 101, 116]⟩) ∨ (k = 5 ∧ n = ⟨#[100, 105, 115, 112, 108, 97, 121]⟩) ∨ (k = 6 ∧ n = ⟨#[108, 105, 115, 116, 45, 115, 116, 121, 108, 101, 45, 116, 121, 112, 101]⟩) ∨ (k = 7 ∧ n = ⟨#[113, 117, 111, 116, 101, 115]⟩) ∨ (k = 8 ∧ (n.toList == [99, 111, 108, 111, 114]) = false ∧ (n.toList == [99, 111, 110, 116, 101, 110, 116]) = false ∧ (n.toList == [99, 111, 117, 110, 116, 101, 114, 45, 105, 110, 99, 114, 101, 109, 101, 110, 116]) = false ∧ (n.toList == [99, 111, 117, 110, 116, 101, 114, 45, 114, 101, 115, 101, 116]) = false ∧ (n.toList == [99, 111, 117, 110, 116, 101, 114, 45, 115, 101, 116]) = false ∧ (n.toList == [100, 105, 115, 112, 108, 97, 121]) = false ∧ (n.toList == [108, 105, 115, 116, 45, 115, 116, 121, 108, 101, 45, 116, 121, 112, 101]) = false ∧ (n.toList == [113, 117, 111, 116, 101, 115]) = false)
theorem three_new (w : World) (X Y Z : Obj) : (((w.alloc X).alloc Y).alloc Z).heap[w.heap.size]? = some X ∧ (((w.alloc X).alloc Y).alloc Z).heap[w.heap.size + 1]? = some Y ∧ (((w.alloc X).alloc Y).alloc Z).heap[w.heap.size + 2]? = some Z ∧ (((w.alloc X).alloc Y).alloc Z).heap.size = w.heap.size + 3 ∧ Below w.heap.size w (((w.alloc X).alloc Y).alloc Z) := by
  obtain ⟨h1, h2, h3, h4⟩ := two_new w X Y
  have hb := (Below.refl ((w.alloc X).alloc Y).heap.size ((w.alloc X).alloc Y)).alloc (Nat.le_refl _) Z
  refine ⟨(hb.block _ (by omega)).trans h1, (hb.block _ (by omega)).trans h2, ?_, by rw [World.size_alloc]; omega, h4.trans (hb.mono (by omega))⟩
  have := new_heap ((w.alloc X).alloc Y) Z
  rwa [h3] at this
theorem setRow_setCell (W : World) (b i : Nat) (cs old : Array Value) (T : TypeId) (fr : Nat × Nat) (u : Value) (h : W.heap[b]? = some (.cells old T fr)) : (W.setRow b cs).setCell ⟨b, i, none⟩ u = W.setRow b (cs.setIfInBounds i u) := by
  unfold World.setRow World.setCell
  simp only
  congr 1
  apply Array.ext_getElem?
  intro k
  simp only [Array.getElem?_modify]
  by_cases e : b = k
  · subst e
    rw [h]
    simp
  · simp [e]
theorem set_row (W : World) (b : Nat) (cs : Array Value) (T : TypeId) (fr : Nat × Nat) (u0 u1 u2 u3 u4 u5 u6 u7 u8 u9 u10 : Value) (h : W.heap[b]? = some (.cells cs T fr)) (hz : cs.size = 11) :
    (((((((((((W.setCell ⟨b, 0, none⟩ u0).setCell ⟨b, 1, none⟩ u1).setCell ⟨b, 2, none⟩ u2).setCell ⟨b, 3, none⟩ u3).setCell ⟨b, 4, none⟩ u4).setCell ⟨b, 5, none⟩ u5).setCell ⟨b, 6, none⟩ u6).setCell ⟨b, 7, none⟩ u7).setCell ⟨b, 8, none⟩ u8).setCell ⟨b, 9, none⟩ u9).setCell ⟨b, 10, none⟩ u10) = W.setRow b #[u0, u1, u2, u3, u4, u5, u6, u7, u8, u9, u10] := by
  have e : W.setCell ⟨b, 0, none⟩ u0 = W.setRow b (cs.setIfInBounds 0 u0) := by
    rw [← setRow_setCell W b 0 cs cs T fr u0 h, setRow_self W b cs T fr h]
  rw [e]
  have e2 : ∀ (xs : Array Value) (i : Nat) (u : Value), (W.setRow b xs).setCell ⟨b, i, none⟩ u = W.setRow b (xs.setIfInBounds i u) := fun xs i u => setRow_setCell W b i xs cs T fr u h
  simp only [e2]
  clear e e2 h
  refine congrArg (W.setRow b) ?_
  obtain ⟨l⟩ := cs
  rcases l with _ | ⟨a0, _ | ⟨a1, _ | ⟨a2, _ | ⟨a3, _ | ⟨a4, _ | ⟨a5, _ | ⟨a6, _ | ⟨a7, _ | ⟨a8, _ | ⟨a9, _ | ⟨a10, _ | ⟨a11, r⟩⟩⟩⟩⟩⟩⟩⟩⟩⟩⟩⟩
  all_goals first
    | (exfalso; simp at hz; done)
    | (simp; done)
theorem RowAt.row' {m n : Nat} {cs : List Value} {p : Option Addr} {c b : Nat} {w : World} (h : RowAt m cs (.slice p n c) w) (xs : Array Value) (hp : ∀ g o, p = some ⟨g, o, none⟩ → g ≠ b) : RowAt m cs (.slice p n c) (w.setRow b xs) := by
  obtain ⟨p', c', hv, hc⟩ := h
  simp only [Value.slice.injEq] at hv
  obtain ⟨rfl, rfl, rfl⟩ := hv
  exact RowAt.row ⟨_, _, rfl, hc⟩ xs hp
theorem RowAt.cell {m n : Nat} {cs : List Value} {p : Option Addr} {c b : Nat} {w : World} (h : RowAt m cs (.slice p n c) w) (i : Nat) (u : Value) (hp : ∀ g o, p = some ⟨g, o, none⟩ → g ≠ b) : RowAt m cs (.slice p n c) (w.setCell ⟨b, i, none⟩ u) := by
  obtain ⟨p', c', hv, hc⟩ := h
  simp only [Value.slice.injEq] at hv
  obtain ⟨rfl, rfl, rfl⟩ := hv
  exact RowAt.set ⟨_, _, rfl, hc⟩ i u fun g o c' h _ => by
    simp only [Value.slice.injEq] at h
    exact hp g o h.1
theorem Parts.belowD {s : S} {vc vq vr va vs : Value} {w w' : World} (h : Parts s vc vq vr va vs w.drew) (hb : Below w.heap.size w.drew w') : Parts s vc vq vr va vs w' := h.below hb
theorem Parts.row {s : S} {p1 p2 p3 p4 p5 : Option Addr} {n1 n2 n3 n4 n5 c1 c2 c3 c4 c5 b : Nat} {w : World} (h : Parts s (.slice p1 n1 c1) (.slice p2 n2 c2) (.slice p3 n3 c3) (.slice p4 n4 c4) (.slice p5 n5 c5) w) (xs : Array Value)
    (hp : ∀ p ∈ [p1, p2, p3, p4, p5], ∀ g o, p = some ⟨g, o, none⟩ → g ≠ b) : Parts s (.slice p1 n1 c1) (.slice p2 n2 c2) (.slice p3 n3 c3) (.slice p4 n4 c4) (.slice p5 n5 c5) (w.setRow b xs) :=
  ⟨h.c.row' xs (hp p1 (by simp)), h.q.row' xs (hp p2 (by simp)), h.r.row' xs (hp p3 (by simp)), h.a.row' xs (hp p4 (by simp)), h.s.row' xs (hp p5 (by simp))⟩
theorem Parts.cell {s : S} {p1 p2 p3 p4 p5 : Option Addr} {n1 n2 n3 n4 n5 c1 c2 c3 c4 c5 b : Nat} {w : World} (h : Parts s (.slice p1 n1 c1) (.slice p2 n2 c2) (.slice p3 n3 c3) (.slice p4 n4 c4) (.slice p5 n5 c5) w) (i : Nat) (u : Value)
    (hp : ∀ p ∈ [p1, p2, p3, p4, p5], ∀ g o, p = some ⟨g, o, none⟩ → g ≠ b) : Parts s (.slice p1 n1 c1) (.slice p2 n2 c2) (.slice p3 n3 c3) (.slice p4 n4 c4) (.slice p5 n5 c5) (w.setCell ⟨b, i, none⟩ u) :=
  ⟨h.c.cell i u (hp p1 (by simp)), h.q.cell i u (hp p2 (by simp)), h.r.cell i u (hp p3 (by simp)), h.a.cell i u (hp p4 (by simp)), h.s.cell i u (hp p5 (by simp))⟩
theorem Parts.drew {s : S} {vc vq vr va vs : Value} {w : World} (h : Parts s vc vq vr va vs w) : Parts s vc vq vr va vs w.drew := h.below ((Below.refl _ w).drew)
def Two (s f : S) (w wx : World) : Prop :=
  ∃ p1 p1c p2 p2c p3 p3c p4 p4c p5 p5c q1 q1c q2 q2c q3 q3c q4 q4c q5 q5c, wx.heap[w.heap.size]? = some (.cells #[.string s.disp, .string s.lt, .string s.col, .slice p1 s.con.length p1c, .bool s.nor, .bool s.non, .slice p2 s.quo.length p2c, .bool s.aut, .slice p3 s.rst.length p3c, .slice p4 s.add.length p4c, .slice p5 s.set.length p5c] 27 (0, 0)) ∧ wx.heap[w.heap.size + 1]? = some (.cells #[.string f.disp, .string f.lt, .string f.col, .slice q1 f.con.length q1c, .bool f.nor, .bool f.non, .slice q2 f.quo.length q2c, .bool f.aut, .slice q3 f.rst.length q3c, .slice q4 f.add.length q4c, .slice q5 f.set.length q5c] 27 (0, 0)) ∧ wx.heap[w.heap.size + 2]? = some (.cells #[.string ⟨#[]⟩, .string ⟨#[]⟩, .string ⟨#[]⟩, .slice none 0 0, .bool false, .bool false, .slice none 0 0, .bool false, .slice none 0 0, .slice none 0 0, .slice none 0 0] 27 (0, 0)) ∧
    Parts s (.slice p1 s.con.length p1c) (.slice p2 s.quo.length p2c) (.slice p3 s.rst.length p3c) (.slice p4 s.add.length p4c) (.slice p5 s.set.length p5c) wx ∧ Parts f (.slice q1 f.con.length q1c) (.slice q2 f.quo.length q2c) (.slice q3 f.rst.length q3c) (.slice q4 f.add.length q4c) (.slice q5 f.set.length q5c) wx ∧ (∀ p ∈ [p1, p2, p3, p4, p5, q1, q2, q3, q4, q5], ∀ g o, p = some ⟨g, o, none⟩ → w.heap.size + 3 ≤ g) ∧ Below w.heap.size w wx ∧ w.heap.size + 3 ≤ wx.heap.size
set_option maxHeartbeats 8000000 in
set_option maxRecDepth 100000 in
theorem take_c (k : Nat) (s f : S) (sc sq sr sa ss fc fq fr fa fs : Value) (n : ByteArray) (w : World) (hk : NmIs k n) (hs : s.small) (hf : f.small) (hv : Parts s sc sq sr sa ss w) (hu : Parts f fc fq fr fa fs w) :
    Calls Tryz.prog 26 #[.agg #[.string s.disp, .string s.lt, .string s.col, sc, .bool s.nor, .bool s.non, sq, .bool s.aut, sr, sa, ss], .agg #[.string f.disp, .string f.lt, .string f.col, fc, .bool f.nor, .bool f.non, fq, .bool f.aut, fr, fa, fs], .string n] w fun e w' => ∃ v', e = .returned v' ∧ StyN w.heap.size (take k s f) v' w' ∧ Below w.heap.size w w' := by
  obtain ⟨t1, t2, t3, t4, t5⟩ := three_new w (.cells #[.string s.disp, .string s.lt, .string s.col, sc, .bool s.nor, .bool s.non, sq, .bool s.aut, sr, sa, ss] 27) (.cells #[.string f.disp, .string f.lt, .string f.col, fc, .bool f.nor, .bool f.non, fq, .bool f.aut, fr, fa, fs] 27) (.cells #[.string ⟨#[]⟩, .string ⟨#[]⟩, .string ⟨#[]⟩, .slice none 0 0, .bool false, .bool false, .slice none 0 0, .bool false, .slice none 0 0, .slice none 0 0, .slice none 0 0] 27)
  have HV := Lib.hid (hv.below t5)
  have HU := Lib.hid (hu.below t5)
  have HX := Lib.hid t1
  have HY := Lib.hid t2
  have HZ := Lib.hid t3
  have HS := Lib.hid t4
  have HB := Lib.hid t5
  have HK := Lib.hid hk
  have Hs := Lib.hid hs
  have Hf := Lib.hid hf
  clear t1 t2 t3 t4 t5 hv hu hk hs hf
  go_enter Tryz.func26, Tryz.ntmps26
  go_upto_region 1 with fail
  go_cut [7] (fun _ wx => Two s f w wx)
  case first =>
    generalize (((w.alloc (.cells #[.string s.disp, .string s.lt, .string s.col, sc, .bool s.nor, .bool s.non, sq, .bool s.aut, sr, sa, ss] 27)).alloc (.cells #[.string f.disp, .string f.lt, .string f.col, fc, .bool f.nor, .bool f.non, fq, .bool f.aut, fr, fa, fs] 27)).alloc (.cells #[.string ⟨#[]⟩, .string ⟨#[]⟩, .string ⟨#[]⟩, .slice none 0 0, .bool false, .bool false, .slice none 0 0, .bool false, .slice none 0 0, .slice none 0 0, .slice none 0 0] 27)) = W1 at HV HU HX HY HZ HS HB ⊢
    have hz1 := HS.out
    have hz : w.heap.size + 3 ≤ W1.heap.size := by omega
    clear hz1
    have hdr : Below W1.heap.size W1 W1.drew := (Below.refl _ W1).drew
    have HVd := Lib.hid (HV.out.below hdr)
    have HUd := Lib.hid (HU.out.below hdr)
    have HBd := Lib.hid HB.out.drew
    clear hdr
    have cX := Lib.cell_of_heap HX.out
    have cY := Lib.cell_of_heap HY.out
    go_region_law
      (first
        | (go_simp; go_at_call 36; (with_reducible refine (copy_c s sc sq sr sa ss _ Hs.out HVd.out).mono ?_); rintro e W2 ⟨v1, rfl, ⟨p1, p1c, p2, p2c, p3, p3c, p4, p4c, p5, p5c, rfl, hp1, hn1'⟩, hb1'⟩; have hb1 : Below W1.heap.size W1.drew W2 := hb1'; have hn1 : ∀ p ∈ [p1, p2, p3, p4, p5], ∀ g o, p = some ⟨g, o, none⟩ → W1.heap.size ≤ g := hn1'; clear hb1' hn1'; have HX2 := Lib.hid ((hb1.block w.heap.size (by omega)).trans HX.out); have HY2 := Lib.hid ((hb1.block (w.heap.size + 1) (by omega)).trans HY.out); have HZ2 := Lib.hid ((hb1.block (w.heap.size + 2) (by omega)).trans HZ.out); have cY2 := Lib.cell_of_heap HY2.out; have HP1 := Lib.hid hp1; have HB1 := Lib.hid hb1; have HN1 := Lib.hid hn1; have hz2 : W1.heap.size ≤ W2.heap.size := hb1.size; clear hp1 hb1 hn1)
        | (go_simp; go_at_call 36; (with_reducible refine (copy_c f fc fq fr fa fs _ Hf.out (HUd.out.belowD HB1.out)).mono ?_); rintro e W3 ⟨v2, rfl, ⟨q1, q1c, q2, q2c, q3, q3c, q4, q4c, q5, q5c, rfl, hp2, hn2⟩, hb2⟩; have HX3 := Lib.hid ((hb2.block w.heap.size (by omega)).trans HX2.out); have HY3 := Lib.hid ((hb2.block (w.heap.size + 1) (by omega)).trans HY2.out); have HZ3 := Lib.hid ((hb2.block (w.heap.size + 2) (by omega)).trans HZ2.out); have cX3 := Lib.cell_of_heap HX3.out; have cY3 := Lib.cell_of_heap HY3.out; have fX3 := Lib.frozen_of_heap HX3.out; have fY3 := Lib.frozen_of_heap HY3.out; have HP2 := Lib.hid hp2; have HB2 := Lib.hid hb2; have HN2 := Lib.hid hn2; have hz3 : W2.heap.size ≤ W3.heap.size := hb2.size; clear hp2 hb2 hn2))
    all_goals
      go_wp2
      go_meet
      rw [set_row W3 _ _ _ _ _ _ _ _ _ _ _ _ _ _ _ HX3.out rfl]
      have hY4 := (setRow_other W3 w.heap.size (w.heap.size + 1) #[.string s.disp, .string s.lt, .string s.col, .slice p1 s.con.length p1c, .bool s.nor, .bool s.non, .slice p2 s.quo.length p2c, .bool s.aut, .slice p3 s.rst.length p3c, .slice p4 s.add.length p4c, .slice p5 s.set.length p5c] (by omega)).trans HY3.out
      rw [set_row _ _ _ _ _ _ _ _ _ _ _ _ _ _ _ _ hY4 rfl]
      refine ⟨p1, p1c, p2, p2c, p3, p3c, p4, p4c, p5, p5c, q1, q1c, q2, q2c, q3, q3c, q4, q4c, q5, q5c, ?_, ?_, ?_, ?_, ?_, ?_, ?_, ?_⟩
      · rw [setRow_other _ _ _ _ (by omega)]
        exact setRow_heap _ _ _ _ _ _ HX3.out
      · exact setRow_heap _ _ _ _ _ _ hY4
      · rw [setRow_other _ _ _ _ (by omega), setRow_other _ _ _ _ (by omega)]
        exact HZ3.out
      · exact ((HP1.out.below HB2.out).row _ (fun p hp g o h => by have := HN1.out p hp g o h; omega)).row _ (fun p hp g o h => by have := HN1.out p hp g o h; omega)
      · exact (HP2.out.row _ (fun p hp g o h => by have := HN2.out p hp g o h; omega)).row _ (fun p hp g o h => by have := HN2.out p hp g o h; omega)
      · intro p hp g o h
        have hp : p ∈ [p1, p2, p3, p4, p5] ++ [q1, q2, q3, q4, q5] := hp
        rcases List.mem_append.1 hp with hp | hp
        · have := HN1.out p hp g o h; omega
        · have := HN2.out p hp g o h; omega
      · exact below_setRow (below_setRow (HBd.out.trans ((HB1.out.trans (HB2.out.mono (by omega))).mono (by omega))) (Nat.le_refl _) _) (by omega) _
      · rw [setRow_size, setRow_size]; omega
  case rest =>
    obtain ⟨p1, p1c, p2, p2c, p3, p3c, p4, p4c, p5, p5c, q1, q1c, q2, q2c, q3, q3c, q4, q4c, q5, q5c, hX, hY, hZ, hP, hQ, hN, hB, hz⟩ := hcut
    clear HV HU HX HY HZ HS HB
    rename World => W1
    have HX := Lib.hid hX
    have HY := Lib.hid hY
    have HZ := Lib.hid hZ
    have HP := Lib.hid hP
    have HQ := Lib.hid hQ
    have HN := Lib.hid hN
    have HB := Lib.hid hB
    have cX := Lib.cell_of_heap hX
    have cY := Lib.cell_of_heap hY
    have fX := Lib.frozen_of_heap hX
    clear hX hY hZ hP hQ hN hB
    have hk := HK.out
    clear HK
    rcases hk with ⟨rfl, rfl⟩ | ⟨rfl, rfl⟩ | ⟨rfl, rfl⟩ | ⟨rfl, rfl⟩ | ⟨rfl, rfl⟩ | ⟨rfl, rfl⟩ | ⟨rfl, rfl⟩ | ⟨rfl, rfl⟩ | ⟨rfl, e0, e1, e2, e3, e4, e5, e6, e7⟩
    · go_wp2_with (first | (refine wpList_load_row rfl 27 _ rfl w.heap.size rfl 27 #[.string s.disp, .string s.lt, .string f.col, .slice p1 s.con.length p1c, .bool s.nor, .bool s.non, .slice p2 s.quo.length p2c, .bool s.aut, .slice p3 s.rst.length p3c, .slice p4 s.add.length p4c, .slice p5 s.set.length p5c] (0, 0) _ (set_heap HX.out 2 _) Tryz.underlying27 rfl (by kernel_rfl) ?_) | (refine wpList_store_row rfl 27 _ _ rfl (w.heap.size + 2) _ rfl rfl 27 _ ((Below.heap_setCell _ _ _ _ (by show _ ≠ w.heap.size; omega)).trans HZ.out) (by kernel_rfl) rfl (by simp [Value.oneCell']) ?_))
      (try simp only [Exit.inBlock, Exit.then])
      refine bodyPost_ret (results_cell_row (g := w.heap.size + 2) (t := 27) (cs := #[.string s.disp, .string s.lt, .string f.col, .slice p1 s.con.length p1c, .bool s.nor, .bool s.non, .slice p2 s.quo.length p2c, .bool s.aut, .slice p3 s.rst.length p3c, .slice p4 s.add.length p4c, .slice p5 s.set.length p5c]) (fr := (0, 0)) rfl _ _ _ rfl (setRow_heap _ _ _ _ _ _ ((Below.heap_setCell _ _ _ _ (by show _ ≠ w.heap.size; omega)).trans HZ.out)) Tryz.underlying27 rfl (by kernel_rfl)) rfl ?_
      have nP : ∀ p ∈ [p1, p2, p3, p4, p5], ∀ g o, p = some ⟨g, o, none⟩ → g ≠ w.heap.size := fun p hp g o h => by have := HN.out p (List.mem_append_left [q1, q2, q3, q4, q5] hp) g o h; omega
      have nQ : ∀ p ∈ [q1, q2, q3, q4, q5], ∀ g o, p = some ⟨g, o, none⟩ → g ≠ w.heap.size := fun p hp g o h => by have := HN.out p (List.mem_append_right [p1, p2, p3, p4, p5] hp) g o h; omega
      have nP2 : ∀ p ∈ [p1, p2, p3, p4, p5], ∀ g o, p = some ⟨g, o, none⟩ → g ≠ w.heap.size + 2 := fun p hp g o h => by have := HN.out p (List.mem_append_left [q1, q2, q3, q4, q5] hp) g o h; omega
      have nQ2 : ∀ p ∈ [q1, q2, q3, q4, q5], ∀ g o, p = some ⟨g, o, none⟩ → g ≠ w.heap.size + 2 := fun p hp g o h => by have := HN.out p (List.mem_append_right [p1, p2, p3, p4, p5] hp) g o h; omega
      have PP := ((HP.out.cell 2 (.string f.col) (b := w.heap.size) nP).row #[.string s.disp, .string s.lt, .string f.col, .slice p1 s.con.length p1c, .bool s.nor, .bool s.non, .slice p2 s.quo.length p2c, .bool s.aut, .slice p3 s.rst.length p3c, .slice p4 s.add.length p4c, .slice p5 s.set.length p5c] (b := w.heap.size + 2) nP2)
      have QQ := ((HQ.out.cell 2 (.string f.col) (b := w.heap.size) nQ).row #[.string s.disp, .string s.lt, .string f.col, .slice p1 s.con.length p1c, .bool s.nor, .bool s.non, .slice p2 s.quo.length p2c, .bool s.aut, .slice p3 s.rst.length p3c, .slice p4 s.add.length p4c, .slice p5 s.set.length p5c] (b := w.heap.size + 2) nQ2)
      refine ⟨_, rfl, ⟨p1, p1c, p2, p2c, p3, p3c, p4, p4c, p5, p5c, rfl, ⟨PP.c, PP.q, PP.r, PP.a, PP.s⟩, fun p hp g o h => ?_⟩, below_setRow (HB.out.setCell (Nat.le_refl _) _) (by omega) _⟩
      have := HN.out p (by simp only [List.mem_cons, List.not_mem_nil, or_false] at hp ⊢; rcases hp with rfl | rfl | rfl | rfl | rfl <;> simp) g o h
      omega
    · go_wp2_with fail
      go_region
      go_wp2_with (first | (refine wpList_load_row rfl 27 _ rfl w.heap.size rfl 27 #[.string s.disp, .string s.lt, .string s.col, .slice q1 f.con.length q1c, .bool f.nor, .bool f.non, .slice p2 s.quo.length p2c, .bool s.aut, .slice p3 s.rst.length p3c, .slice p4 s.add.length p4c, .slice p5 s.set.length p5c] (0, 0) _ (set_heap (set_heap (set_heap HX.out 3 _) 4 _) 5 _) Tryz.underlying27 rfl (by kernel_rfl) ?_) | (refine wpList_store_row rfl 27 _ _ rfl (w.heap.size + 2) _ rfl rfl 27 _ ((Below.heap_setCell _ _ _ _ (by show _ ≠ w.heap.size; omega)).trans ((Below.heap_setCell _ _ _ _ (by show _ ≠ w.heap.size; omega)).trans ((Below.heap_setCell _ _ _ _ (by show _ ≠ w.heap.size; omega)).trans HZ.out))) (by kernel_rfl) rfl (by simp [Value.oneCell']) ?_))
      (try simp only [Exit.inBlock, Exit.then])
      refine bodyPost_ret (results_cell_row (g := w.heap.size + 2) (t := 27) (cs := #[.string s.disp, .string s.lt, .string s.col, .slice q1 f.con.length q1c, .bool f.nor, .bool f.non, .slice p2 s.quo.length p2c, .bool s.aut, .slice p3 s.rst.length p3c, .slice p4 s.add.length p4c, .slice p5 s.set.length p5c]) (fr := (0, 0)) rfl _ _ _ rfl (setRow_heap _ _ _ _ _ _ ((Below.heap_setCell _ _ _ _ (by show _ ≠ w.heap.size; omega)).trans ((Below.heap_setCell _ _ _ _ (by show _ ≠ w.heap.size; omega)).trans ((Below.heap_setCell _ _ _ _ (by show _ ≠ w.heap.size; omega)).trans HZ.out)))) Tryz.underlying27 rfl (by kernel_rfl)) rfl ?_
      have nP : ∀ p ∈ [p1, p2, p3, p4, p5], ∀ g o, p = some ⟨g, o, none⟩ → g ≠ w.heap.size := fun p hp g o h => by have := HN.out p (List.mem_append_left [q1, q2, q3, q4, q5] hp) g o h; omega
      have nQ : ∀ p ∈ [q1, q2, q3, q4, q5], ∀ g o, p = some ⟨g, o, none⟩ → g ≠ w.heap.size := fun p hp g o h => by have := HN.out p (List.mem_append_right [p1, p2, p3, p4, p5] hp) g o h; omega
      have nP2 : ∀ p ∈ [p1, p2, p3, p4, p5], ∀ g o, p = some ⟨g, o, none⟩ → g ≠ w.heap.size + 2 := fun p hp g o h => by have := HN.out p (List.mem_append_left [q1, q2, q3, q4, q5] hp) g o h; omega
      have nQ2 : ∀ p ∈ [q1, q2, q3, q4, q5], ∀ g o, p = some ⟨g, o, none⟩ → g ≠ w.heap.size + 2 := fun p hp g o h => by have := HN.out p (List.mem_append_right [p1, p2, p3, p4, p5] hp) g o h; omega
      have PP := ((((HP.out.cell 3 (.slice q1 f.con.length q1c) (b := w.heap.size) nP).cell 4 (.bool f.nor) (b := w.heap.size) nP).cell 5 (.bool f.non) (b := w.heap.size) nP).drew.row #[.string s.disp, .string s.lt, .string s.col, .slice q1 f.con.length q1c, .bool f.nor, .bool f.non, .slice p2 s.quo.length p2c, .bool s.aut, .slice p3 s.rst.length p3c, .slice p4 s.add.length p4c, .slice p5 s.set.length p5c] (b := w.heap.size + 2) nP2)
      have QQ := ((((HQ.out.cell 3 (.slice q1 f.con.length q1c) (b := w.heap.size) nQ).cell 4 (.bool f.nor) (b := w.heap.size) nQ).cell 5 (.bool f.non) (b := w.heap.size) nQ).drew.row #[.string s.disp, .string s.lt, .string s.col, .slice q1 f.con.length q1c, .bool f.nor, .bool f.non, .slice p2 s.quo.length p2c, .bool s.aut, .slice p3 s.rst.length p3c, .slice p4 s.add.length p4c, .slice p5 s.set.length p5c] (b := w.heap.size + 2) nQ2)
      refine ⟨_, rfl, ⟨q1, q1c, p2, p2c, p3, p3c, p4, p4c, p5, p5c, rfl, ⟨QQ.c, PP.q, PP.r, PP.a, PP.s⟩, fun p hp g o h => ?_⟩, below_setRow (((HB.out.setCell (Nat.le_refl _) _).setCell (Nat.le_refl _) _).setCell (Nat.le_refl _) _).drew (by omega) _⟩
      have := HN.out p (by simp only [List.mem_cons, List.not_mem_nil, or_false] at hp ⊢; rcases hp with rfl | rfl | rfl | rfl | rfl <;> simp) g o h
      omega
    · go_wp2_with (first | (refine wpList_load_row rfl 27 _ rfl w.heap.size rfl 27 #[.string s.disp, .string s.lt, .string s.col, .slice p1 s.con.length p1c, .bool s.nor, .bool s.non, .slice p2 s.quo.length p2c, .bool s.aut, .slice p3 s.rst.length p3c, .slice q4 f.add.length q4c, .slice p5 s.set.length p5c] (0, 0) _ (set_heap HX.out 9 _) Tryz.underlying27 rfl (by kernel_rfl) ?_) | (refine wpList_store_row rfl 27 _ _ rfl (w.heap.size + 2) _ rfl rfl 27 _ ((Below.heap_setCell _ _ _ _ (by show _ ≠ w.heap.size; omega)).trans HZ.out) (by kernel_rfl) rfl (by simp [Value.oneCell']) ?_))
      (try simp only [Exit.inBlock, Exit.then])
      refine bodyPost_ret (results_cell_row (g := w.heap.size + 2) (t := 27) (cs := #[.string s.disp, .string s.lt, .string s.col, .slice p1 s.con.length p1c, .bool s.nor, .bool s.non, .slice p2 s.quo.length p2c, .bool s.aut, .slice p3 s.rst.length p3c, .slice q4 f.add.length q4c, .slice p5 s.set.length p5c]) (fr := (0, 0)) rfl _ _ _ rfl (setRow_heap _ _ _ _ _ _ ((Below.heap_setCell _ _ _ _ (by show _ ≠ w.heap.size; omega)).trans HZ.out)) Tryz.underlying27 rfl (by kernel_rfl)) rfl ?_
      have nP : ∀ p ∈ [p1, p2, p3, p4, p5], ∀ g o, p = some ⟨g, o, none⟩ → g ≠ w.heap.size := fun p hp g o h => by have := HN.out p (List.mem_append_left [q1, q2, q3, q4, q5] hp) g o h; omega
      have nQ : ∀ p ∈ [q1, q2, q3, q4, q5], ∀ g o, p = some ⟨g, o, none⟩ → g ≠ w.heap.size := fun p hp g o h => by have := HN.out p (List.mem_append_right [p1, p2, p3, p4, p5] hp) g o h; omega
      have nP2 : ∀ p ∈ [p1, p2, p3, p4, p5], ∀ g o, p = some ⟨g, o, none⟩ → g ≠ w.heap.size + 2 := fun p hp g o h => by have := HN.out p (List.mem_append_left [q1, q2, q3, q4, q5] hp) g o h; omega
      have nQ2 : ∀ p ∈ [q1, q2, q3, q4, q5], ∀ g o, p = some ⟨g, o, none⟩ → g ≠ w.heap.size + 2 := fun p hp g o h => by have := HN.out p (List.mem_append_right [p1, p2, p3, p4, p5] hp) g o h; omega
      have PP := ((HP.out.cell 9 (.slice q4 f.add.length q4c) (b := w.heap.size) nP).row #[.string s.disp, .string s.lt, .string s.col, .slice p1 s.con.length p1c, .bool s.nor, .bool s.non, .slice p2 s.quo.length p2c, .bool s.aut, .slice p3 s.rst.length p3c, .slice q4 f.add.length q4c, .slice p5 s.set.length p5c] (b := w.heap.size + 2) nP2)
      have QQ := ((HQ.out.cell 9 (.slice q4 f.add.length q4c) (b := w.heap.size) nQ).row #[.string s.disp, .string s.lt, .string s.col, .slice p1 s.con.length p1c, .bool s.nor, .bool s.non, .slice p2 s.quo.length p2c, .bool s.aut, .slice p3 s.rst.length p3c, .slice q4 f.add.length q4c, .slice p5 s.set.length p5c] (b := w.heap.size + 2) nQ2)
      refine ⟨_, rfl, ⟨p1, p1c, p2, p2c, p3, p3c, q4, q4c, p5, p5c, rfl, ⟨PP.c, PP.q, PP.r, QQ.a, PP.s⟩, fun p hp g o h => ?_⟩, below_setRow (HB.out.setCell (Nat.le_refl _) _) (by omega) _⟩
      have := HN.out p (by simp only [List.mem_cons, List.not_mem_nil, or_false] at hp ⊢; rcases hp with rfl | rfl | rfl | rfl | rfl <;> simp) g o h
      omega
    · go_wp2_with (first | (refine wpList_load_row rfl 27 _ rfl w.heap.size rfl 27 #[.string s.disp, .string s.lt, .string s.col, .slice p1 s.con.length p1c, .bool s.nor, .bool s.non, .slice p2 s.quo.length p2c, .bool s.aut, .slice q3 f.rst.length q3c, .slice p4 s.add.length p4c, .slice p5 s.set.length p5c] (0, 0) _ (set_heap HX.out 8 _) Tryz.underlying27 rfl (by kernel_rfl) ?_) | (refine wpList_store_row rfl 27 _ _ rfl (w.heap.size + 2) _ rfl rfl 27 _ ((Below.heap_setCell _ _ _ _ (by show _ ≠ w.heap.size; omega)).trans HZ.out) (by kernel_rfl) rfl (by simp [Value.oneCell']) ?_))
      (try simp only [Exit.inBlock, Exit.then])
      refine bodyPost_ret (results_cell_row (g := w.heap.size + 2) (t := 27) (cs := #[.string s.disp, .string s.lt, .string s.col, .slice p1 s.con.length p1c, .bool s.nor, .bool s.non, .slice p2 s.quo.length p2c, .bool s.aut, .slice q3 f.rst.length q3c, .slice p4 s.add.length p4c, .slice p5 s.set.length p5c]) (fr := (0, 0)) rfl _ _ _ rfl (setRow_heap _ _ _ _ _ _ ((Below.heap_setCell _ _ _ _ (by show _ ≠ w.heap.size; omega)).trans HZ.out)) Tryz.underlying27 rfl (by kernel_rfl)) rfl ?_
      have nP : ∀ p ∈ [p1, p2, p3, p4, p5], ∀ g o, p = some ⟨g, o, none⟩ → g ≠ w.heap.size := fun p hp g o h => by have := HN.out p (List.mem_append_left [q1, q2, q3, q4, q5] hp) g o h; omega
      have nQ : ∀ p ∈ [q1, q2, q3, q4, q5], ∀ g o, p = some ⟨g, o, none⟩ → g ≠ w.heap.size := fun p hp g o h => by have := HN.out p (List.mem_append_right [p1, p2, p3, p4, p5] hp) g o h; omega
      have nP2 : ∀ p ∈ [p1, p2, p3, p4, p5], ∀ g o, p = some ⟨g, o, none⟩ → g ≠ w.heap.size + 2 := fun p hp g o h => by have := HN.out p (List.mem_append_left [q1, q2, q3, q4, q5] hp) g o h; omega
      have nQ2 : ∀ p ∈ [q1, q2, q3, q4, q5], ∀ g o, p = some ⟨g, o, none⟩ → g ≠ w.heap.size + 2 := fun p hp g o h => by have := HN.out p (List.mem_append_right [p1, p2, p3, p4, p5] hp) g o h; omega
      have PP := ((HP.out.cell 8 (.slice q3 f.rst.length q3c) (b := w.heap.size) nP).row #[.string s.disp, .string s.lt, .string s.col, .slice p1 s.con.length p1c, .bool s.nor, .bool s.non, .slice p2 s.quo.length p2c, .bool s.aut, .slice q3 f.rst.length q3c, .slice p4 s.add.length p4c, .slice p5 s.set.length p5c] (b := w.heap.size + 2) nP2)
      have QQ := ((HQ.out.cell 8 (.slice q3 f.rst.length q3c) (b := w.heap.size) nQ).row #[.string s.disp, .string s.lt, .string s.col, .slice p1 s.con.length p1c, .bool s.nor, .bool s.non, .slice p2 s.quo.length p2c, .bool s.aut, .slice q3 f.rst.length q3c, .slice p4 s.add.length p4c, .slice p5 s.set.length p5c] (b := w.heap.size + 2) nQ2)
      refine ⟨_, rfl, ⟨p1, p1c, p2, p2c, q3, q3c, p4, p4c, p5, p5c, rfl, ⟨PP.c, PP.q, QQ.r, PP.a, PP.s⟩, fun p hp g o h => ?_⟩, below_setRow (HB.out.setCell (Nat.le_refl _) _) (by omega) _⟩
      have := HN.out p (by simp only [List.mem_cons, List.not_mem_nil, or_false] at hp ⊢; rcases hp with rfl | rfl | rfl | rfl | rfl <;> simp) g o h
      omega
    · go_wp2_with (first | (refine wpList_load_row rfl 27 _ rfl w.heap.size rfl 27 #[.string s.disp, .string s.lt, .string s.col, .slice p1 s.con.length p1c, .bool s.nor, .bool s.non, .slice p2 s.quo.length p2c, .bool s.aut, .slice p3 s.rst.length p3c, .slice p4 s.add.length p4c, .slice q5 f.set.length q5c] (0, 0) _ (set_heap HX.out 10 _) Tryz.underlying27 rfl (by kernel_rfl) ?_) | (refine wpList_store_row rfl 27 _ _ rfl (w.heap.size + 2) _ rfl rfl 27 _ ((Below.heap_setCell _ _ _ _ (by show _ ≠ w.heap.size; omega)).trans HZ.out) (by kernel_rfl) rfl (by simp [Value.oneCell']) ?_))
      (try simp only [Exit.inBlock, Exit.then])
      refine bodyPost_ret (results_cell_row (g := w.heap.size + 2) (t := 27) (cs := #[.string s.disp, .string s.lt, .string s.col, .slice p1 s.con.length p1c, .bool s.nor, .bool s.non, .slice p2 s.quo.length p2c, .bool s.aut, .slice p3 s.rst.length p3c, .slice p4 s.add.length p4c, .slice q5 f.set.length q5c]) (fr := (0, 0)) rfl _ _ _ rfl (setRow_heap _ _ _ _ _ _ ((Below.heap_setCell _ _ _ _ (by show _ ≠ w.heap.size; omega)).trans HZ.out)) Tryz.underlying27 rfl (by kernel_rfl)) rfl ?_
      have nP : ∀ p ∈ [p1, p2, p3, p4, p5], ∀ g o, p = some ⟨g, o, none⟩ → g ≠ w.heap.size := fun p hp g o h => by have := HN.out p (List.mem_append_left [q1, q2, q3, q4, q5] hp) g o h; omega
      have nQ : ∀ p ∈ [q1, q2, q3, q4, q5], ∀ g o, p = some ⟨g, o, none⟩ → g ≠ w.heap.size := fun p hp g o h => by have := HN.out p (List.mem_append_right [p1, p2, p3, p4, p5] hp) g o h; omega
      have nP2 : ∀ p ∈ [p1, p2, p3, p4, p5], ∀ g o, p = some ⟨g, o, none⟩ → g ≠ w.heap.size + 2 := fun p hp g o h => by have := HN.out p (List.mem_append_left [q1, q2, q3, q4, q5] hp) g o h; omega
      have nQ2 : ∀ p ∈ [q1, q2, q3, q4, q5], ∀ g o, p = some ⟨g, o, none⟩ → g ≠ w.heap.size + 2 := fun p hp g o h => by have := HN.out p (List.mem_append_right [p1, p2, p3, p4, p5] hp) g o h; omega
      have PP := ((HP.out.cell 10 (.slice q5 f.set.length q5c) (b := w.heap.size) nP).row #[.string s.disp, .string s.lt, .string s.col, .slice p1 s.con.length p1c, .bool s.nor, .bool s.non, .slice p2 s.quo.length p2c, .bool s.aut, .slice p3 s.rst.length p3c, .slice p4 s.add.length p4c, .slice q5 f.set.length q5c] (b := w.heap.size + 2) nP2)
      have QQ := ((HQ.out.cell 10 (.slice q5 f.set.length q5c) (b := w.heap.size) nQ).row #[.string s.disp, .string s.lt, .string s.col, .slice p1 s.con.length p1c, .bool s.nor, .bool s.non, .slice p2 s.quo.length p2c, .bool s.aut, .slice p3 s.rst.length p3c, .slice p4 s.add.length p4c, .slice q5 f.set.length q5c] (b := w.heap.size + 2) nQ2)
      refine ⟨_, rfl, ⟨p1, p1c, p2, p2c, p3, p3c, p4, p4c, q5, q5c, rfl, ⟨PP.c, PP.q, PP.r, PP.a, QQ.s⟩, fun p hp g o h => ?_⟩, below_setRow (HB.out.setCell (Nat.le_refl _) _) (by omega) _⟩
      have := HN.out p (by simp only [List.mem_cons, List.not_mem_nil, or_false] at hp ⊢; rcases hp with rfl | rfl | rfl | rfl | rfl <;> simp) g o h
      omega
    · go_wp2_with (first | (refine wpList_load_row rfl 27 _ rfl w.heap.size rfl 27 #[.string f.disp, .string s.lt, .string s.col, .slice p1 s.con.length p1c, .bool s.nor, .bool s.non, .slice p2 s.quo.length p2c, .bool s.aut, .slice p3 s.rst.length p3c, .slice p4 s.add.length p4c, .slice p5 s.set.length p5c] (0, 0) _ (set_heap HX.out 0 _) Tryz.underlying27 rfl (by kernel_rfl) ?_) | (refine wpList_store_row rfl 27 _ _ rfl (w.heap.size + 2) _ rfl rfl 27 _ ((Below.heap_setCell _ _ _ _ (by show _ ≠ w.heap.size; omega)).trans HZ.out) (by kernel_rfl) rfl (by simp [Value.oneCell']) ?_))
      (try simp only [Exit.inBlock, Exit.then])
      refine bodyPost_ret (results_cell_row (g := w.heap.size + 2) (t := 27) (cs := #[.string f.disp, .string s.lt, .string s.col, .slice p1 s.con.length p1c, .bool s.nor, .bool s.non, .slice p2 s.quo.length p2c, .bool s.aut, .slice p3 s.rst.length p3c, .slice p4 s.add.length p4c, .slice p5 s.set.length p5c]) (fr := (0, 0)) rfl _ _ _ rfl (setRow_heap _ _ _ _ _ _ ((Below.heap_setCell _ _ _ _ (by show _ ≠ w.heap.size; omega)).trans HZ.out)) Tryz.underlying27 rfl (by kernel_rfl)) rfl ?_
      have nP : ∀ p ∈ [p1, p2, p3, p4, p5], ∀ g o, p = some ⟨g, o, none⟩ → g ≠ w.heap.size := fun p hp g o h => by have := HN.out p (List.mem_append_left [q1, q2, q3, q4, q5] hp) g o h; omega
      have nQ : ∀ p ∈ [q1, q2, q3, q4, q5], ∀ g o, p = some ⟨g, o, none⟩ → g ≠ w.heap.size := fun p hp g o h => by have := HN.out p (List.mem_append_right [p1, p2, p3, p4, p5] hp) g o h; omega
      have nP2 : ∀ p ∈ [p1, p2, p3, p4, p5], ∀ g o, p = some ⟨g, o, none⟩ → g ≠ w.heap.size + 2 := fun p hp g o h => by have := HN.out p (List.mem_append_left [q1, q2, q3, q4, q5] hp) g o h; omega
      have nQ2 : ∀ p ∈ [q1, q2, q3, q4, q5], ∀ g o, p = some ⟨g, o, none⟩ → g ≠ w.heap.size + 2 := fun p hp g o h => by have := HN.out p (List.mem_append_right [p1, p2, p3, p4, p5] hp) g o h; omega
      have PP := ((HP.out.cell 0 (.string f.disp) (b := w.heap.size) nP).row #[.string f.disp, .string s.lt, .string s.col, .slice p1 s.con.length p1c, .bool s.nor, .bool s.non, .slice p2 s.quo.length p2c, .bool s.aut, .slice p3 s.rst.length p3c, .slice p4 s.add.length p4c, .slice p5 s.set.length p5c] (b := w.heap.size + 2) nP2)
      have QQ := ((HQ.out.cell 0 (.string f.disp) (b := w.heap.size) nQ).row #[.string f.disp, .string s.lt, .string s.col, .slice p1 s.con.length p1c, .bool s.nor, .bool s.non, .slice p2 s.quo.length p2c, .bool s.aut, .slice p3 s.rst.length p3c, .slice p4 s.add.length p4c, .slice p5 s.set.length p5c] (b := w.heap.size + 2) nQ2)
      refine ⟨_, rfl, ⟨p1, p1c, p2, p2c, p3, p3c, p4, p4c, p5, p5c, rfl, ⟨PP.c, PP.q, PP.r, PP.a, PP.s⟩, fun p hp g o h => ?_⟩, below_setRow (HB.out.setCell (Nat.le_refl _) _) (by omega) _⟩
      have := HN.out p (by simp only [List.mem_cons, List.not_mem_nil, or_false] at hp ⊢; rcases hp with rfl | rfl | rfl | rfl | rfl <;> simp) g o h
      omega
    · go_wp2_with (first | (refine wpList_load_row rfl 27 _ rfl w.heap.size rfl 27 #[.string s.disp, .string f.lt, .string s.col, .slice p1 s.con.length p1c, .bool s.nor, .bool s.non, .slice p2 s.quo.length p2c, .bool s.aut, .slice p3 s.rst.length p3c, .slice p4 s.add.length p4c, .slice p5 s.set.length p5c] (0, 0) _ (set_heap HX.out 1 _) Tryz.underlying27 rfl (by kernel_rfl) ?_) | (refine wpList_store_row rfl 27 _ _ rfl (w.heap.size + 2) _ rfl rfl 27 _ ((Below.heap_setCell _ _ _ _ (by show _ ≠ w.heap.size; omega)).trans HZ.out) (by kernel_rfl) rfl (by simp [Value.oneCell']) ?_))
      (try simp only [Exit.inBlock, Exit.then])
      refine bodyPost_ret (results_cell_row (g := w.heap.size + 2) (t := 27) (cs := #[.string s.disp, .string f.lt, .string s.col, .slice p1 s.con.length p1c, .bool s.nor, .bool s.non, .slice p2 s.quo.length p2c, .bool s.aut, .slice p3 s.rst.length p3c, .slice p4 s.add.length p4c, .slice p5 s.set.length p5c]) (fr := (0, 0)) rfl _ _ _ rfl (setRow_heap _ _ _ _ _ _ ((Below.heap_setCell _ _ _ _ (by show _ ≠ w.heap.size; omega)).trans HZ.out)) Tryz.underlying27 rfl (by kernel_rfl)) rfl ?_
      have nP : ∀ p ∈ [p1, p2, p3, p4, p5], ∀ g o, p = some ⟨g, o, none⟩ → g ≠ w.heap.size := fun p hp g o h => by have := HN.out p (List.mem_append_left [q1, q2, q3, q4, q5] hp) g o h; omega
      have nQ : ∀ p ∈ [q1, q2, q3, q4, q5], ∀ g o, p = some ⟨g, o, none⟩ → g ≠ w.heap.size := fun p hp g o h => by have := HN.out p (List.mem_append_right [p1, p2, p3, p4, p5] hp) g o h; omega
      have nP2 : ∀ p ∈ [p1, p2, p3, p4, p5], ∀ g o, p = some ⟨g, o, none⟩ → g ≠ w.heap.size + 2 := fun p hp g o h => by have := HN.out p (List.mem_append_left [q1, q2, q3, q4, q5] hp) g o h; omega
      have nQ2 : ∀ p ∈ [q1, q2, q3, q4, q5], ∀ g o, p = some ⟨g, o, none⟩ → g ≠ w.heap.size + 2 := fun p hp g o h => by have := HN.out p (List.mem_append_right [p1, p2, p3, p4, p5] hp) g o h; omega
      have PP := ((HP.out.cell 1 (.string f.lt) (b := w.heap.size) nP).row #[.string s.disp, .string f.lt, .string s.col, .slice p1 s.con.length p1c, .bool s.nor, .bool s.non, .slice p2 s.quo.length p2c, .bool s.aut, .slice p3 s.rst.length p3c, .slice p4 s.add.length p4c, .slice p5 s.set.length p5c] (b := w.heap.size + 2) nP2)
      have QQ := ((HQ.out.cell 1 (.string f.lt) (b := w.heap.size) nQ).row #[.string s.disp, .string f.lt, .string s.col, .slice p1 s.con.length p1c, .bool s.nor, .bool s.non, .slice p2 s.quo.length p2c, .bool s.aut, .slice p3 s.rst.length p3c, .slice p4 s.add.length p4c, .slice p5 s.set.length p5c] (b := w.heap.size + 2) nQ2)
      refine ⟨_, rfl, ⟨p1, p1c, p2, p2c, p3, p3c, p4, p4c, p5, p5c, rfl, ⟨PP.c, PP.q, PP.r, PP.a, PP.s⟩, fun p hp g o h => ?_⟩, below_setRow (HB.out.setCell (Nat.le_refl _) _) (by omega) _⟩
      have := HN.out p (by simp only [List.mem_cons, List.not_mem_nil, or_false] at hp ⊢; rcases hp with rfl | rfl | rfl | rfl | rfl <;> simp) g o h
      omega
    · go_wp2_with fail
      go_region
      go_wp2_with (first | (refine wpList_load_row rfl 27 _ rfl w.heap.size rfl 27 #[.string s.disp, .string s.lt, .string s.col, .slice p1 s.con.length p1c, .bool s.nor, .bool s.non, .slice q2 f.quo.length q2c, .bool f.aut, .slice p3 s.rst.length p3c, .slice p4 s.add.length p4c, .slice p5 s.set.length p5c] (0, 0) _ (set_heap (set_heap HX.out 6 _) 7 _) Tryz.underlying27 rfl (by kernel_rfl) ?_) | (refine wpList_store_row rfl 27 _ _ rfl (w.heap.size + 2) _ rfl rfl 27 _ ((Below.heap_setCell _ _ _ _ (by show _ ≠ w.heap.size; omega)).trans ((Below.heap_setCell _ _ _ _ (by show _ ≠ w.heap.size; omega)).trans HZ.out)) (by kernel_rfl) rfl (by simp [Value.oneCell']) ?_))
      (try simp only [Exit.inBlock, Exit.then])
      refine bodyPost_ret (results_cell_row (g := w.heap.size + 2) (t := 27) (cs := #[.string s.disp, .string s.lt, .string s.col, .slice p1 s.con.length p1c, .bool s.nor, .bool s.non, .slice q2 f.quo.length q2c, .bool f.aut, .slice p3 s.rst.length p3c, .slice p4 s.add.length p4c, .slice p5 s.set.length p5c]) (fr := (0, 0)) rfl _ _ _ rfl (setRow_heap _ _ _ _ _ _ ((Below.heap_setCell _ _ _ _ (by show _ ≠ w.heap.size; omega)).trans ((Below.heap_setCell _ _ _ _ (by show _ ≠ w.heap.size; omega)).trans HZ.out))) Tryz.underlying27 rfl (by kernel_rfl)) rfl ?_
      have nP : ∀ p ∈ [p1, p2, p3, p4, p5], ∀ g o, p = some ⟨g, o, none⟩ → g ≠ w.heap.size := fun p hp g o h => by have := HN.out p (List.mem_append_left [q1, q2, q3, q4, q5] hp) g o h; omega
      have nQ : ∀ p ∈ [q1, q2, q3, q4, q5], ∀ g o, p = some ⟨g, o, none⟩ → g ≠ w.heap.size := fun p hp g o h => by have := HN.out p (List.mem_append_right [p1, p2, p3, p4, p5] hp) g o h; omega
      have nP2 : ∀ p ∈ [p1, p2, p3, p4, p5], ∀ g o, p = some ⟨g, o, none⟩ → g ≠ w.heap.size + 2 := fun p hp g o h => by have := HN.out p (List.mem_append_left [q1, q2, q3, q4, q5] hp) g o h; omega
      have nQ2 : ∀ p ∈ [q1, q2, q3, q4, q5], ∀ g o, p = some ⟨g, o, none⟩ → g ≠ w.heap.size + 2 := fun p hp g o h => by have := HN.out p (List.mem_append_right [p1, p2, p3, p4, p5] hp) g o h; omega
      have PP := (((HP.out.cell 6 (.slice q2 f.quo.length q2c) (b := w.heap.size) nP).cell 7 (.bool f.aut) (b := w.heap.size) nP).drew.row #[.string s.disp, .string s.lt, .string s.col, .slice p1 s.con.length p1c, .bool s.nor, .bool s.non, .slice q2 f.quo.length q2c, .bool f.aut, .slice p3 s.rst.length p3c, .slice p4 s.add.length p4c, .slice p5 s.set.length p5c] (b := w.heap.size + 2) nP2)
      have QQ := (((HQ.out.cell 6 (.slice q2 f.quo.length q2c) (b := w.heap.size) nQ).cell 7 (.bool f.aut) (b := w.heap.size) nQ).drew.row #[.string s.disp, .string s.lt, .string s.col, .slice p1 s.con.length p1c, .bool s.nor, .bool s.non, .slice q2 f.quo.length q2c, .bool f.aut, .slice p3 s.rst.length p3c, .slice p4 s.add.length p4c, .slice p5 s.set.length p5c] (b := w.heap.size + 2) nQ2)
      refine ⟨_, rfl, ⟨p1, p1c, q2, q2c, p3, p3c, p4, p4c, p5, p5c, rfl, ⟨PP.c, QQ.q, PP.r, PP.a, PP.s⟩, fun p hp g o h => ?_⟩, below_setRow ((HB.out.setCell (Nat.le_refl _) _).setCell (Nat.le_refl _) _).drew (by omega) _⟩
      have := HN.out p (by simp only [List.mem_cons, List.not_mem_nil, or_false] at hp ⊢; rcases hp with rfl | rfl | rfl | rfl | rfl <;> simp) g o h
      omega
    · go_wp2_with (first | (refine wpList_load_row rfl 27 _ rfl w.heap.size rfl 27 #[.string s.disp, .string s.lt, .string s.col, .slice p1 s.con.length p1c, .bool s.nor, .bool s.non, .slice p2 s.quo.length p2c, .bool s.aut, .slice p3 s.rst.length p3c, .slice p4 s.add.length p4c, .slice p5 s.set.length p5c] (0, 0) _ HX.out Tryz.underlying27 rfl (by kernel_rfl) ?_) | (refine wpList_store_row rfl 27 _ _ rfl (w.heap.size + 2) _ rfl rfl 27 _ HZ.out (by kernel_rfl) rfl (by simp [Value.oneCell']) ?_))
      (try simp only [Exit.inBlock, Exit.then])
      refine bodyPost_ret (results_cell_row (g := w.heap.size + 2) (t := 27) (cs := #[.string s.disp, .string s.lt, .string s.col, .slice p1 s.con.length p1c, .bool s.nor, .bool s.non, .slice p2 s.quo.length p2c, .bool s.aut, .slice p3 s.rst.length p3c, .slice p4 s.add.length p4c, .slice p5 s.set.length p5c]) (fr := (0, 0)) rfl _ _ _ rfl (setRow_heap _ _ _ _ _ _ HZ.out) Tryz.underlying27 rfl (by kernel_rfl)) rfl ?_
      have nP : ∀ p ∈ [p1, p2, p3, p4, p5], ∀ g o, p = some ⟨g, o, none⟩ → g ≠ w.heap.size := fun p hp g o h => by have := HN.out p (List.mem_append_left [q1, q2, q3, q4, q5] hp) g o h; omega
      have nQ : ∀ p ∈ [q1, q2, q3, q4, q5], ∀ g o, p = some ⟨g, o, none⟩ → g ≠ w.heap.size := fun p hp g o h => by have := HN.out p (List.mem_append_right [p1, p2, p3, p4, p5] hp) g o h; omega
      have nP2 : ∀ p ∈ [p1, p2, p3, p4, p5], ∀ g o, p = some ⟨g, o, none⟩ → g ≠ w.heap.size + 2 := fun p hp g o h => by have := HN.out p (List.mem_append_left [q1, q2, q3, q4, q5] hp) g o h; omega
      have nQ2 : ∀ p ∈ [q1, q2, q3, q4, q5], ∀ g o, p = some ⟨g, o, none⟩ → g ≠ w.heap.size + 2 := fun p hp g o h => by have := HN.out p (List.mem_append_right [p1, p2, p3, p4, p5] hp) g o h; omega
      have PP := (HP.out.row #[.string s.disp, .string s.lt, .string s.col, .slice p1 s.con.length p1c, .bool s.nor, .bool s.non, .slice p2 s.quo.length p2c, .bool s.aut, .slice p3 s.rst.length p3c, .slice p4 s.add.length p4c, .slice p5 s.set.length p5c] (b := w.heap.size + 2) nP2)
      have QQ := (HQ.out.row #[.string s.disp, .string s.lt, .string s.col, .slice p1 s.con.length p1c, .bool s.nor, .bool s.non, .slice p2 s.quo.length p2c, .bool s.aut, .slice p3 s.rst.length p3c, .slice p4 s.add.length p4c, .slice p5 s.set.length p5c] (b := w.heap.size + 2) nQ2)
      refine ⟨_, rfl, ⟨p1, p1c, p2, p2c, p3, p3c, p4, p4c, p5, p5c, rfl, ⟨PP.c, PP.q, PP.r, PP.a, PP.s⟩, fun p hp g o h => ?_⟩, below_setRow HB.out (by omega) _⟩
      have := HN.out p (by simp only [List.mem_cons, List.not_mem_nil, or_false] at hp ⊢; rcases hp with rfl | rfl | rfl | rfl | rfl <;> simp) g o h
      omega
end Go.Proofs.YtkpoeilfnopgbaaGreatDoor.Sty
