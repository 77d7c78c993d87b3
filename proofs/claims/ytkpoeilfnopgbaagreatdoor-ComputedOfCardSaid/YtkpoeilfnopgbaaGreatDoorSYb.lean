/- prop.Copy: another style like it. -/
import Derived.Test.YtkpoeilfnopgbaaGreatDoorSYa
namespace Go.Proofs.YtkpoeilfnopgbaaGreatDoor.Sty
open Go Go.RowKit
theorem RowAt.belowD {n : Nat} {cs : List Value} {v : Value} {w w' : World} (h : RowAt n cs v w.drew) (hb : Below w.heap.size w.drew w') : RowAt n cs v w' := h.below hb
structure S where
  disp : ByteArray
  lt : ByteArray
  col : ByteArray
  con : List Itm
  nor : Bool
  non : Bool
  quo : List ByteArray
  aut : Bool
  rst : List Pr
  add : List Pr
  set : List Pr
def S.small (s : S) : Prop := s.con.length ≤ 40 ∧ s.quo.length ≤ 40 ∧ s.rst.length ≤ 40 ∧ s.add.length ≤ 40 ∧ s.set.length ≤ 40
def S.cs (s : S) (vc vq vr va vs : Value) : Array Value := #[.string s.disp, .string s.lt, .string s.col, vc, .bool s.nor, .bool s.non, vq, .bool s.aut, vr, va, vs]
structure Parts (s : S) (vc vq vr va vs : Value) (w : World) : Prop where
  c : RowAt s.con.length (iC s.con) vc w
  q : RowAt s.quo.length (qC s.quo) vq w
  r : RowAt s.rst.length (pC s.rst) vr w
  a : RowAt s.add.length (pC s.add) va w
  s : RowAt s.set.length (pC s.set) vs w
theorem Parts.below {s : S} {vc vq vr va vs : Value} {w w' : World} (h : Parts s vc vq vr va vs w) (hb : Below w.heap.size w w') : Parts s vc vq vr va vs w' :=
  ⟨h.c.below hb, h.q.below hb, h.r.below hb, h.a.below hb, h.s.below hb⟩
def StyV (s : S) (v : Value) (w : World) : Prop := ∃ vc vq vr va vs, v = .agg #[.string s.disp, .string s.lt, .string s.col, vc, .bool s.nor, .bool s.non, vq, .bool s.aut, vr, va, vs] ∧ Parts s vc vq vr va vs w
theorem StyV.below {s : S} {v : Value} {w w' : World} (h : StyV s v w) (hb : Below w.heap.size w w') : StyV s v w' := by
  obtain ⟨vc, vq, vr, va, vs, e, h⟩ := h
  exact ⟨vc, vq, vr, va, vs, e, h.below hb⟩
def StyN (B : Nat) (s : S) (v : Value) (w : World) : Prop := ∃ p1 c1 p2 c2 p3 c3 p4 c4 p5 c5, v = .agg #[.string s.disp, .string s.lt, .string s.col, .slice p1 s.con.length c1, .bool s.nor, .bool s.non, .slice p2 s.quo.length c2, .bool s.aut, .slice p3 s.rst.length c3, .slice p4 s.add.length c4, .slice p5 s.set.length c5] ∧
  Parts s (.slice p1 s.con.length c1) (.slice p2 s.quo.length c2) (.slice p3 s.rst.length c3) (.slice p4 s.add.length c4) (.slice p5 s.set.length c5) w ∧ ∀ p ∈ [p1, p2, p3, p4, p5], ∀ g o, p = some ⟨g, o, none⟩ → B ≤ g
theorem StyN.v {B : Nat} {s : S} {v : Value} {w : World} (h : StyN B s v w) : StyV s v w := by
  obtain ⟨p1, c1, p2, c2, p3, c3, p4, c4, p5, c5, e, h, _⟩ := h
  exact ⟨_, _, _, _, _, e, h⟩
theorem two_new (w : World) (X Y : Obj) : ((w.alloc X).alloc Y).heap[w.heap.size]? = some X ∧ ((w.alloc X).alloc Y).heap[w.heap.size + 1]? = some Y ∧ ((w.alloc X).alloc Y).heap.size = w.heap.size + 2 ∧ Below w.heap.size w ((w.alloc X).alloc Y) := by
  refine ⟨?_, ?_, ?_, ((Below.refl _ w).alloc (Nat.le_refl _) X).alloc (by rw [World.size_alloc]; omega) Y⟩
  · exact (((Below.refl (w.heap.size + 1) (w.alloc X)).alloc (by rw [World.size_alloc]; omega) Y).block _ (by omega)).trans (new_heap w X)
  · have := new_heap (w.alloc X) Y
    rwa [World.size_alloc] at this
  · rw [World.size_alloc, World.size_alloc]
theorem set_heap {w : World} {b : Nat} {cs : Array Value} {t : TypeId} {fr : Nat × Nat} (h : w.heap[b]? = some (.cells cs t fr)) (i : Nat) (u : Value) : (w.setCell ⟨b, i, none⟩ u).heap[b]? = some (.cells (cs.setIfInBounds i u) t fr) := by
  simp [World.setCell, Array.getElem?_modify, h]
theorem set_size (w : World) (a : Addr) (u : Value) : (w.setCell a u).heap.size = w.heap.size := by simp [World.setCell]
theorem RowAt.set {n : Nat} {cs : List Value} {v : Value} {w : World} (h : RowAt n cs v w) {b : Nat} (i : Nat) (u : Value) (hb : ∀ g o c, v = .slice (some ⟨g, o, none⟩) n c → 0 < n → g ≠ b) : RowAt n cs v (w.setCell ⟨b, i, none⟩ u) := by
  obtain ⟨p, c, hv, hc⟩ := h
  refine ⟨p, c, hv, fun hn => ?_⟩
  obtain ⟨g, o, rfl, hg, hx⟩ := hc hn
  have hne := hb g o c hv hn
  exact ⟨g, o, rfl, by rw [set_size]; exact hg, fun j u' hj => by rw [World.cell?_of_block (Below.heap_setCell _ _ _ _ hne)]; exact hx j u' hj⟩
theorem RowAt.set3 {n : Nat} {cs : List Value} {p : Option Addr} {c : Nat} {w w0 : World} (h : RowAt n cs (.slice p n c) w) {i j k : Nat} {u v x : Value} (hp : ∀ g o, p = some ⟨g, o, none⟩ → w0.heap.size < g) :
    RowAt n cs (.slice p n c) (((w.setCell ⟨w0.heap.size, i, none⟩ u).setCell ⟨w0.heap.size, j, none⟩ v).setCell ⟨w0.heap.size, k, none⟩ x) := by
  have key : ∀ g o c', Value.slice p n c = .slice (some ⟨g, o, none⟩) n c' → 0 < n → g ≠ w0.heap.size := fun g o c' h _ => by
    simp only [Value.slice.injEq] at h
    have := hp g o h.1
    omega
  exact ((h.set i u key).set j v key).set k x key
theorem RowAt.row {n : Nat} {cs : List Value} {p : Option Addr} {c b : Nat} {w : World} (h : RowAt n cs (.slice p n c) w) (xs : Array Value) (hp : ∀ g o, p = some ⟨g, o, none⟩ → g ≠ b) : RowAt n cs (.slice p n c) (w.setRow b xs) := by
  obtain ⟨p', c', hv, hc⟩ := h
  refine ⟨p', c', hv, fun hn => ?_⟩
  obtain ⟨g, o, rfl, hg, hx⟩ := hc hn
  simp only [Value.slice.injEq] at hv
  have hne := hp g o hv.1
  exact ⟨g, o, rfl, by rw [setRow_size]; exact hg, fun j u hj => by rw [cell_setRow_other _ _ _ _ hne]; exact hx j u hj⟩
def Mid (s : S) (vr va vs : Value) (w : World) (wx : World) : Prop :=
  ∃ p1 c1 p2 c2, wx.heap[w.heap.size]? = some (.cells #[.string s.disp, .string s.lt, .string s.col, .slice p1 s.con.length c1, .bool s.nor, .bool s.non, .slice p2 s.quo.length c2, .bool s.aut, vr, va, vs] 27 (0, 0)) ∧
    wx.heap[w.heap.size + 1]? = some (.cells #[.string ⟨#[]⟩, .string ⟨#[]⟩, .string ⟨#[]⟩, .slice none 0 0, .bool false, .bool false, .slice none 0 0, .bool false, .slice none 0 0, .slice none 0 0, .slice none 0 0] 27 (0, 0)) ∧
    RowAt s.con.length (iC s.con) (.slice p1 s.con.length c1) wx ∧ RowAt s.quo.length (qC s.quo) (.slice p2 s.quo.length c2) wx ∧ (∀ p ∈ [p1, p2], ∀ g o, p = some ⟨g, o, none⟩ → w.heap.size + 2 ≤ g) ∧ Below w.heap.size w wx ∧ w.heap.size + 2 ≤ wx.heap.size
def Aft (s : S) (w : World) (wx : World) : Prop :=
  ∃ p1 c1 p2 c2 p3 c3 p4 c4 p5 c5, wx.heap[w.heap.size]? = some (.cells #[.string s.disp, .string s.lt, .string s.col, .slice p1 s.con.length c1, .bool s.nor, .bool s.non, .slice p2 s.quo.length c2, .bool s.aut, .slice p3 s.rst.length c3, .slice p4 s.add.length c4, .slice p5 s.set.length c5] 27 (0, 0)) ∧
    wx.heap[w.heap.size + 1]? = some (.cells #[.string ⟨#[]⟩, .string ⟨#[]⟩, .string ⟨#[]⟩, .slice none 0 0, .bool false, .bool false, .slice none 0 0, .bool false, .slice none 0 0, .slice none 0 0, .slice none 0 0] 27 (0, 0)) ∧
    Parts s (.slice p1 s.con.length c1) (.slice p2 s.quo.length c2) (.slice p3 s.rst.length c3) (.slice p4 s.add.length c4) (.slice p5 s.set.length c5) wx ∧ (∀ p ∈ [p1, p2, p3, p4, p5], ∀ g o, p = some ⟨g, o, none⟩ → w.heap.size + 2 ≤ g) ∧ Below w.heap.size w wx ∧ w.heap.size + 2 ≤ wx.heap.size
set_option maxHeartbeats 8000000 in
set_option maxRecDepth 100000 in
theorem copy_c (s : S) (vc vq vr va vs : Value) (w : World) (hs : s.small) (hv : Parts s vc vq vr va vs w) :
    Calls Tryz.prog 36 #[.agg #[.string s.disp, .string s.lt, .string s.col, vc, .bool s.nor, .bool s.non, vq, .bool s.aut, vr, va, vs]] w fun e w' => ∃ v', e = .returned v' ∧ StyN w.heap.size s v' w' ∧ Below w.heap.size w w' := by
  obtain ⟨h1, h2, h3, h4, h5⟩ := hs
  obtain ⟨hc, hq, hr, ha, hst⟩ := hv
  obtain ⟨t1, t2, t3, t4⟩ := two_new w (.cells #[.string s.disp, .string s.lt, .string s.col, vc, .bool s.nor, .bool s.non, vq, .bool s.aut, vr, va, vs] 27) (.cells #[.string ⟨#[]⟩, .string ⟨#[]⟩, .string ⟨#[]⟩, .slice none 0 0, .bool false, .bool false, .slice none 0 0, .bool false, .slice none 0 0, .slice none 0 0, .slice none 0 0] 27)
  have HC := Lib.hid (hc.below t4)
  have HQ := Lib.hid (hq.below t4)
  have HR := Lib.hid hr
  have HA := Lib.hid ha
  have HS := Lib.hid hst
  have HX := Lib.hid t1
  have HY := Lib.hid t2
  have HZ := Lib.hid t3
  have HB := Lib.hid t4
  clear t1 t2 t3 t4 hr ha hst hc hq
  go_enter Tryz.func36, Tryz.ntmps36
  go_upto_region 1 with fail
  go_cut [3] (fun _ wx => Mid s vr va vs w wx)
  case first =>
    generalize ((w.alloc (.cells #[.string s.disp, .string s.lt, .string s.col, vc, .bool s.nor, .bool s.non, vq, .bool s.aut, vr, va, vs] 27)).alloc (.cells #[.string ⟨#[]⟩, .string ⟨#[]⟩, .string ⟨#[]⟩, .slice none 0 0, .bool false, .bool false, .slice none 0 0, .bool false, .slice none 0 0, .slice none 0 0, .slice none 0 0] 27)) = W1 at HC HQ HX HY HZ HB ⊢
    have c3 : W1.cell? ⟨w.heap.size, 3, none⟩ = some vc := by rw [Lib.cell_of_heap HX.out]; rfl
    have c6 : W1.cell? ⟨w.heap.size, 6, none⟩ = some vq := by rw [Lib.cell_of_heap HX.out]; rfl
    have hz1 := HZ.out
    have hz : w.heap.size + 2 ≤ W1.heap.size := by omega
    clear hz1
    have hdr : Below W1.heap.size W1 W1.drew := (Below.refl _ W1).drew
    have HCd := Lib.hid (HC.out.below hdr)
    have HQd := Lib.hid (HQ.out.below hdr)
    have HBd := Lib.hid (HB.out.drew)
    clear hdr
    go_region_law
      (first
        | (go_simp; go_at_call 56; refine (cloneI s.con _ _ (by omega) HCd.out).mono ?_; rintro e W2 ⟨p1, d1, rfl, hr1, hb1', hf1'⟩; have hb1 : Below W1.heap.size W1.drew W2 := hb1'; have hf1 : ∀ g o, p1 = some ⟨g, o, none⟩ → W1.heap.size ≤ g := hf1'; clear hb1' hf1'; have HX2 := Lib.hid ((hb1.block w.heap.size (by omega)).trans HX.out); have HY2 := Lib.hid ((hb1.block (w.heap.size + 1) (by omega)).trans HY.out); have cq2 : W2.cell? ⟨w.heap.size, 6, none⟩ = some vq := (by rw [Lib.cell_of_heap HX2.out]; rfl); have HR1 := Lib.hid hr1; have HB1 := Lib.hid hb1; have HF1 := Lib.hid hf1; have hz2 : W1.heap.size ≤ W2.heap.size := hb1.size; clear hr1 hb1 hf1)
        | (go_simp; go_at_call 57; refine (cloneQ s.quo _ _ (by omega) (HQd.out.below HB1.out)).mono ?_; rintro e W3 ⟨p2, d2, rfl, hr2, hb2, hf2⟩; have HX3 := Lib.hid ((hb2.block w.heap.size (by omega)).trans HX2.out); have HY3 := Lib.hid ((hb2.block (w.heap.size + 1) (by omega)).trans HY2.out); have c33 : W3.cell? ⟨w.heap.size, 3, none⟩ = some vc := (by rw [Lib.cell_of_heap HX3.out]; rfl); have c36 : W3.cell? ⟨w.heap.size, 6, none⟩ = some vq := (by rw [Lib.cell_of_heap HX3.out]; rfl); have f33 : W3.frozen? ⟨w.heap.size, 3, none⟩ = false := Lib.frozen_of_heap HX3.out 3; have f36 : W3.frozen? ⟨w.heap.size, 6, none⟩ = false := Lib.frozen_of_heap HX3.out 6; have HR2 := Lib.hid hr2; have HB2 := Lib.hid hb2; have HF2 := Lib.hid hf2; have hz3 : W2.heap.size ≤ W3.heap.size := hb2.size; clear hr2 hb2 hf2))
    all_goals
      go_wp2
      go_meet
      refine ⟨p1, d1, p2, d2, set_heap (set_heap HX3.out 3 _) 6 _, ?_, ?_, ?_, ?_, ?_, ?_⟩
      · rw [Below.heap_setCell _ _ _ _ (by show _ ≠ w.heap.size; omega), Below.heap_setCell _ _ _ _ (by show _ ≠ w.heap.size; omega)]
        exact HY3.out
      · refine ((HR1.out.below HB2.out).set 3 _ ?_).set 6 _ ?_ <;>
        · intro g o c h _
          simp only [Value.slice.injEq] at h
          have := HF1.out g o h.1
          omega
      · refine (HR2.out.set 3 _ ?_).set 6 _ ?_ <;>
        · intro g o c h _
          simp only [Value.slice.injEq] at h
          have := HF2.out g o h.1
          omega
      · intro p hp g o h
        simp only [List.mem_cons, List.not_mem_nil, or_false] at hp
        rcases hp with rfl | rfl
        · have := HF1.out g o h; omega
        · have := HF2.out g o h; omega
      · exact ((HBd.out.trans ((HB1.out.trans (HB2.out.mono (by omega))).mono (by omega))).setCell (Nat.le_refl _) _).setCell (Nat.le_refl _) _
      · rw [set_size, set_size]; omega
  case rest =>
    obtain ⟨p1, d1, p2, d2, hX, hY, hC, hQ, hP, hB, hz⟩ := hcut
    clear HC HQ HX HY HZ HB
    go_upto_region 2 with fail
    rename World => W1
    go_cut [11] (fun _ wx => Aft s w wx)
    case first =>
      have HX1 := Lib.hid hX
      have HY1 := Lib.hid hY
      have HP := Lib.hid hP
      have hdr : Below W1.heap.size W1 W1.drew := (Below.refl _ W1).drew
      have HCd := Lib.hid (hC.below hdr)
      have HQd := Lib.hid (hQ.below hdr)
      have hBd := hB.drew
      have HRd := Lib.hid (HR.out.below hBd)
      have HAd := Lib.hid (HA.out.below hBd)
      have HSd := Lib.hid (HS.out.below hBd)
      have HBd := Lib.hid hBd
      clear hX hY hC hQ hP hB hdr hBd
      have c18 : W1.cell? ⟨w.heap.size, 8, none⟩ = some vr := (by rw [Lib.cell_of_heap HX1.out]; rfl)
      have c19 : W1.cell? ⟨w.heap.size, 9, none⟩ = some va := (by rw [Lib.cell_of_heap HX1.out]; rfl)
      have c110 : W1.cell? ⟨w.heap.size, 10, none⟩ = some vs := (by rw [Lib.cell_of_heap HX1.out]; rfl)
      go_region_law
        (first
          | (go_simp; go_at_call 58; (with_reducible refine (cloneP s.rst vr _ (by omega) HRd.out).mono ?_); rintro e W2 ⟨p3, d3, rfl, hr3, hb3', hf3'⟩; have hb3 : Below W1.heap.size W1.drew W2 := hb3'; have hf3 : ∀ g o, p3 = some ⟨g, o, none⟩ → W1.heap.size ≤ g := hf3'; clear hb3' hf3'; have HX2 := Lib.hid ((hb3.block w.heap.size (by omega)).trans HX1.out); have HY2 := Lib.hid ((hb3.block (w.heap.size + 1) (by omega)).trans HY1.out); have c29 : W2.cell? ⟨w.heap.size, 9, none⟩ = some va := (by rw [Lib.cell_of_heap HX2.out]; rfl); have c210 : W2.cell? ⟨w.heap.size, 10, none⟩ = some vs := (by rw [Lib.cell_of_heap HX2.out]; rfl); have HR3 := Lib.hid hr3; have HB3 := Lib.hid hb3; have HF3 := Lib.hid hf3; have hz2 : W1.heap.size ≤ W2.heap.size := hb3.size; clear hr3 hb3 hf3)
          | (go_simp; go_at_call 58; (with_reducible refine (cloneP s.add va _ (by omega) (HAd.out.belowD HB3.out)).mono ?_); rintro e W3 ⟨p4, d4, rfl, hr4, hb4', hf4'⟩; have hb4 : Below W2.heap.size W2 W3 := hb4'; have hf4 : ∀ g o, p4 = some ⟨g, o, none⟩ → W2.heap.size ≤ g := hf4'; clear hb4' hf4'; have HX3 := Lib.hid ((hb4.block w.heap.size (by omega)).trans HX2.out); have HY3 := Lib.hid ((hb4.block (w.heap.size + 1) (by omega)).trans HY2.out); have c310 : W3.cell? ⟨w.heap.size, 10, none⟩ = some vs := (by rw [Lib.cell_of_heap HX3.out]; rfl); have HR4 := Lib.hid hr4; have HB4 := Lib.hid hb4; have HF4 := Lib.hid hf4; have hz3 : W2.heap.size ≤ W3.heap.size := hb4.size; clear hr4 hb4 hf4)
          | (go_simp; go_at_call 58; (with_reducible refine (cloneP s.set vs _ (by omega) ((HSd.out.belowD HB3.out).below HB4.out)).mono ?_); rintro e W4 ⟨p5, d5, rfl, hr5, hb5', hf5'⟩; have hb5 : Below W3.heap.size W3 W4 := hb5'; have hf5 : ∀ g o, p5 = some ⟨g, o, none⟩ → W3.heap.size ≤ g := hf5'; clear hb5' hf5'; have HX4 := Lib.hid ((hb5.block w.heap.size (by omega)).trans HX3.out); have HY4 := Lib.hid ((hb5.block (w.heap.size + 1) (by omega)).trans HY3.out); have c48 : W4.cell? ⟨w.heap.size, 8, none⟩ = some vr := (by rw [Lib.cell_of_heap HX4.out]; rfl); have f48 : W4.frozen? ⟨w.heap.size, 8, none⟩ = false := Lib.frozen_of_heap HX4.out 8; have c49 : W4.cell? ⟨w.heap.size, 9, none⟩ = some va := (by rw [Lib.cell_of_heap HX4.out]; rfl); have f49 : W4.frozen? ⟨w.heap.size, 9, none⟩ = false := Lib.frozen_of_heap HX4.out 9; have c410 : W4.cell? ⟨w.heap.size, 10, none⟩ = some vs := (by rw [Lib.cell_of_heap HX4.out]; rfl); have f410 : W4.frozen? ⟨w.heap.size, 10, none⟩ = false := Lib.frozen_of_heap HX4.out 10; have HR5 := Lib.hid hr5; have HB5 := Lib.hid hb5; have HF5 := Lib.hid hf5; have hz4 : W3.heap.size ≤ W4.heap.size := hb5.size; clear hr5 hb5 hf5))
      all_goals
        go_wp2
        go_meet
        refine ⟨p1, d1, p2, d2, p3, d3, p4, d4, p5, d5, set_heap (set_heap (set_heap HX4.out 8 _) 9 _) 10 _, ?_, ?_, ?_, ?_, ?_⟩
        · rw [Below.heap_setCell _ _ _ _ (by show _ ≠ w.heap.size; omega), Below.heap_setCell _ _ _ _ (by show _ ≠ w.heap.size; omega), Below.heap_setCell _ _ _ _ (by show _ ≠ w.heap.size; omega)]
          exact HY4.out
        · have g1 : ∀ g o, p1 = some ⟨g, o, none⟩ → w.heap.size < g := fun g o h => by have := HP.out p1 (by simp) g o h; omega
          have g2 : ∀ g o, p2 = some ⟨g, o, none⟩ → w.heap.size < g := fun g o h => by have := HP.out p2 (by simp) g o h; omega
          have g3 : ∀ g o, p3 = some ⟨g, o, none⟩ → w.heap.size < g := fun g o h => by have := HF3.out g o h; omega
          have g4 : ∀ g o, p4 = some ⟨g, o, none⟩ → w.heap.size < g := fun g o h => by have := HF4.out g o h; omega
          have g5 : ∀ g o, p5 = some ⟨g, o, none⟩ → w.heap.size < g := fun g o h => by have := HF5.out g o h; omega
          exact ⟨(((HCd.out.below HB3.out).below HB4.out).below HB5.out).set3 g1, (((HQd.out.below HB3.out).below HB4.out).below HB5.out).set3 g2, ((HR3.out.below HB4.out).below HB5.out).set3 g3, (HR4.out.below HB5.out).set3 g4, HR5.out.set3 g5⟩
        · intro p hp g o h
          simp only [List.mem_cons, List.not_mem_nil, or_false] at hp
          rcases hp with rfl | rfl | rfl | rfl | rfl
          · exact HP.out _ (by simp) g o h
          · exact HP.out _ (by simp) g o h
          · have := HF3.out g o h; omega
          · have := HF4.out g o h; omega
          · have := HF5.out g o h; omega
        · exact (((HBd.out.trans ((HB3.out.trans ((HB4.out.trans (HB5.out.mono (by omega))).mono (by omega))).mono (by omega))).setCell (Nat.le_refl _) _).setCell (Nat.le_refl _) _).setCell (Nat.le_refl _) _
        · rw [set_size, set_size, set_size]; omega
    case rest =>
      obtain ⟨p1, d1, p2, d2, p3, d3, p4, d4, p5, d5, hX, hY, hP, hN, hB, hz⟩ := hcut
      have HX := Lib.hid hX
      have HY := Lib.hid hY
      have HP := Lib.hid hP
      have HN := Lib.hid hN
      have HB := Lib.hid hB
      clear hX hY hP hN hB HR HA HS
      go_wp2_with (first
        | (refine wpList_load_row rfl 27 _ rfl w.heap.size rfl 27 _ (0, 0) _ HX.out Tryz.underlying27 rfl (by kernel_rfl) ?_)
        | (refine wpList_store_row rfl 27 _ _ rfl (w.heap.size + 1) _ rfl rfl 27 _ HY.out (by kernel_rfl) rfl (by simp [Value.oneCell']) ?_))
      (try simp only [Exit.inBlock, Exit.then])
      refine bodyPost_ret (results_cell_row (g := w.heap.size + 1) (t := 27) (cs := #[.string s.disp, .string s.lt, .string s.col, .slice p1 s.con.length d1, .bool s.nor, .bool s.non, .slice p2 s.quo.length d2, .bool s.aut, .slice p3 s.rst.length d3, .slice p4 s.add.length d4, .slice p5 s.set.length d5]) (fr := (0, 0)) rfl _ _ _ rfl (setRow_heap _ _ _ _ _ _ HY.out) Tryz.underlying27 rfl (by kernel_rfl)) rfl ?_
      refine ⟨_, rfl, ⟨p1, d1, p2, d2, p3, d3, p4, d4, p5, d5, rfl, ?_, fun p hp g o h => by have := HN.out p hp g o h; omega⟩, below_setRow HB.out (by omega) _⟩
      have key : ∀ p ∈ [p1, p2, p3, p4, p5], ∀ g o, p = some ⟨g, o, none⟩ → g ≠ w.heap.size + 1 := fun p hp g o h => by have := HN.out p hp g o h; omega
      exact ⟨HP.out.c.row _ (key p1 (by simp)), HP.out.q.row _ (key p2 (by simp)), HP.out.r.row _ (key p3 (by simp)), HP.out.a.row _ (key p4 (by simp)), HP.out.s.row _ (key p5 (by simp))⟩
end Go.Proofs.YtkpoeilfnopgbaaGreatDoor.Sty
