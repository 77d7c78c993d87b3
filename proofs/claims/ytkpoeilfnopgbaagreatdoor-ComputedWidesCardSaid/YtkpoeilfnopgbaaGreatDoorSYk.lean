/- fleuronlaw14.ComputedWides returns true for all arguments, whatever awake() is that returns true. -/
import Derived.Test.YtkpoeilfnopgbaaGreatDoorSYj
namespace Go.Proofs.YtkpoeilfnopgbaaGreatDoor.Sty
open Go Go.RowKit
theorem PartsX.belowDD {ok : Nat → Prop} {s : S} {vc vq vr va vs : Value} {w w' : World} (h : PartsX ok s vc vq vr va vs w.drew) (hb : Below w.heap.size w.drew.drew w') : PartsX ok s vc vq vr va vs w' := (h.below (Below.refl _ _).drew).below hb
abbrev GoodW (v u : Value) (ps : Int) (W : World) : Prop := Calls Tryz.prog 4 #[v, u, .int .i64 ps] W fun e W' => e = .returned (.bool true) ∧ Below W.heap.size W W'
abbrev Awk (W : World) : Prop := ∀ w, Below W.heap.size W w → Calls Tryz.prog 6 #[] w fun e w' => e = .returned (.bool true) ∧ Below w.heap.size w w'
structure Wd (W : World) (b3 b4 b8 b9 b10 bn : Nat) (D : Array Value) (pa r bs want : S) (wr : World) : Prop where
  d : wr.heap[b3]? = some (.cells D 32 (0, 0))
  par : Var (· ≠ b10) pa b4 wr
  r : Var (· ≠ b10) r b8 wr
  bs : Var (· ≠ b10) bs b9 wr
  want : Var (· ≠ b10) want b10 wr
  nm : wr.heap[bn]? = some (.cells #[.string ⟨#[99, 111, 108, 111, 114]⟩, .string ⟨#[99, 111, 110, 116, 101, 110, 116]⟩, .string ⟨#[99, 111, 117, 110, 116, 101, 114, 45, 105, 110, 99, 114, 101, 109, 101, 110, 116]⟩, .string ⟨#[99, 111, 117, 110, 116, 101, 114, 45, 114, 101, 115, 101, 116]⟩, .string ⟨#[99, 111, 117, 110, 116, 101, 114, 45, 115, 101, 116]⟩, .string ⟨#[100, 105, 115, 112, 108, 97, 121]⟩, .string ⟨#[108, 105, 115, 116, 45, 115, 116, 121, 108, 101, 45, 116, 121, 112, 101]⟩, .string ⟨#[113, 117, 111, 116, 101, 115]⟩] 9 (0, 0))
  low : Below W.heap.size W wr
theorem Wd.below {W : World} {b3 b4 b8 b9 b10 bn : Nat} {D : Array Value} {pa r bs want : S} {wr w2 : World} (h : Wd W b3 b4 b8 b9 b10 bn D pa r bs want wr) (hb : Below wr.heap.size wr w2) : Wd W b3 b4 b8 b9 b10 bn D pa r bs want w2 :=
  ⟨(hb.block _ (Array.getElem?_eq_some_iff.1 h.d).1).trans h.d, h.par.below hb, h.r.below hb, h.bs.below hb, h.want.below hb, (hb.block _ (Array.getElem?_eq_some_iff.1 h.nm).1).trans h.nm, h.low.trans (hb.mono h.low.size)⟩
theorem Wd.upd {W : World} {b3 b4 b8 b9 b10 bn : Nat} {D xs : Array Value} {pa r bs want new : S} {wr w2 : World} (h : Wd W b3 b4 b8 b9 b10 bn D pa r bs want wr) (hb : Below wr.heap.size wr w2) (hv : StyX (· ≠ b10) new (.agg xs) w2)
    (h0 : W.heap.size ≤ b10) (h3 : b3 ≠ b10) (h4 : b4 ≠ b10) (h8 : b8 ≠ b10) (h9 : b9 ≠ b10) (hn : bn ≠ b10) : Wd W b3 b4 b8 b9 b10 bn D pa r bs new (w2.setRow b10 xs) := by
  have h' := h.below hb
  have hk : ¬ (b10 ≠ b10) := fun h => h rfl
  obtain ⟨p1, c1, p2, c2, p3, c3, p4, c4, p5, c5, hx, _⟩ := h'.want
  exact ⟨(setRow_other _ _ _ _ h3).trans h'.d, h'.par.row xs hk h4, h'.r.row xs hk h8, h'.bs.row xs hk h9, Var.put hx hv hk, (setRow_other _ _ _ _ hn).trans h'.nm, below_setRow h'.low h0 xs⟩
theorem StyV.open {s : S} {v : Value} {w : World} (h : StyV s v w) : ∃ p1 p1c p2 p2c p3 p3c p4 p4c p5 p5c, v = .agg #[.string s.disp, .string s.lt, .string s.col, .slice p1 s.con.length p1c, .bool s.nor, .bool s.non, .slice p2 s.quo.length p2c, .bool s.aut, .slice p3 s.rst.length p3c, .slice p4 s.add.length p4c, .slice p5 s.set.length p5c] ∧ PartsX (· < w.heap.size) s (.slice p1 s.con.length p1c) (.slice p2 s.quo.length p2c) (.slice p3 s.rst.length p3c) (.slice p4 s.add.length p4c) (.slice p5 s.set.length p5c) w := by
  obtain ⟨vc, vq, vr, va, vs, rfl, hp⟩ := h
  have hx := PartsX.of_at hp
  obtain ⟨p1, c1, p2, c2, p3, c3, p4, c4, p5, c5, rfl, rfl, rfl, rfl, rfl⟩ := hx.open
  exact ⟨p1, c1, p2, c2, p3, c3, p4, c4, p5, c5, rfl, hx⟩
theorem nm_some (n : ByteArray) : ∃ k, NmIs k n := by
  by_cases h : ∃ j, j < 8 ∧ nmN j = n
  · obtain ⟨j, hj, rfl⟩ := h
    exact ⟨j, nm_is j hj⟩
  · refine ⟨8, ?_⟩
    have key : ∀ j, j < 8 → (n.toList == (nmN j).toList) = false := fun j hj => by
      cases e : n.toList == (nmN j).toList with
      | false => rfl
      | true =>
        refine absurd ⟨j, hj, ?_⟩ h
        have := beq_iff_eq.1 e
        rw [ByteArray.toList_eq, ByteArray.toList_eq] at this
        exact (ByteArray.ext (Array.toList_inj.1 this)).symm
    have k0 := key 0 (by decide)
    have k1 := key 1 (by decide)
    have k2 := key 2 (by decide)
    have k3 := key 3 (by decide)
    have k4 := key 4 (by decide)
    have k5 := key 5 (by decide)
    have k6 := key 6 (by decide)
    have k7 := key 7 (by decide)
    simp only [nmN, allZ, List.getD_cons_zero, List.getD_cons_succ, ByteArray.toList_mk] at k0 k1 k2 k3 k4 k5 k6 k7
    unfold NmIs
    exact .inr (.inr (.inr (.inr (.inr (.inr (.inr (.inr ⟨rfl, k0, k1, k2, k3, k4, k5, k6, k7⟩)))))))
def wantS (wd : Int) (k : Nat) (pa bs : S) : S := if wd = 1 ∨ (wd = 3 ∧ inh k = true) then take k bs pa else take k bs startS
theorem of_one (p : Int) (hp : p = 0 ∨ p = 1 ∨ p = 2) (pa : S) (nx : ByteArray) (k : Nat) (_hk : k ≤ 8) (wd : Int) (hw : wd ≠ 0) (sx : S) : ofS p pa [⟨nx, k, wd, sx⟩] = if k < 8 then wantS wd k pa (ofS p pa []) else ofS p pa [] := by
  show stepS p pa (baseN pa 8) _ = _
  unfold stepS wantS
  by_cases h8 : k < 8
  · have : alw p k = true := by unfold alw; rw [if_pos hp]; exact decide_eq_true h8
    rw [if_pos h8, if_neg (by rw [this]; decide), if_neg hw]
    rfl
  · have : alw p k = false := by unfold alw; rw [if_pos hp]; exact decide_eq_false h8
    rw [if_neg h8, if_pos this]
    rfl
def LoopW (W : World) (b3 b4 b8 b9 b10 bn : Nat) (D : Array Value) (pa r bs : S) (wd : Int) (k : Nat) (s12 : Value) (wr : World) : Prop :=
  ∃ j : Nat, j ≤ 8 ∧ s12 = .int .i64 (j : Int) ∧ Wd W b3 b4 b8 b9 b10 bn D pa r bs (if k < j then wantS wd k pa bs else bs) wr
set_option maxHeartbeats 16000000 in
set_option maxRecDepth 100000 in
theorem wides_c (nx : ByteArray) (k : Nat) (hk : NmIs k nx) (wd : Int) (sx pa : S) (vc vq vr va vs uc uq ur ua us : Value) (ps p : Int) (W : World) (hT : Tab W) (aw : Awk W) (hp : p = 0 ∨ p = 1 ∨ p = 2)
    (rd : ∀ w, Calls Tryz.prog 11 #[.int .i64 ps, .int .i64 3] w fun e w' => e = .returned (.int .i64 p) ∧ w = w')
    (n1 : sx.con.length ≤ maxLen) (n2 : sx.quo.length ≤ maxLen) (n3 : sx.rst.length ≤ maxLen) (n4 : sx.add.length ≤ maxLen) (n5 : sx.set.length ≤ maxLen)
    (m1 : pa.con.length ≤ maxLen) (m2 : pa.quo.length ≤ maxLen) (m3 : pa.rst.length ≤ maxLen) (m4 : pa.add.length ≤ maxLen) (m5 : pa.set.length ≤ maxLen) (hnx : nx.size ≤ maxLen)
    (hsx : Parts sx vc vq vr va vs W) (hpa : Parts pa uc uq ur ua us W) :
    GoodW (.agg #[.string nx, .int .i64 wd, .string sx.disp, .string sx.lt, .string sx.col, vc, .bool sx.nor, .bool sx.non, vq, .bool sx.aut, vr, va, vs]) (.agg #[.string pa.disp, .string pa.lt, .string pa.col, uc, .bool pa.nor, .bool pa.non, uq, .bool pa.aut, ur, ua, us]) ps W := by
  have hx1 := PartsX.of_at hsx
  obtain ⟨e1, e1c, e2, e2c, e3, e3c, e4, e4c, e5, e5c, rfl, rfl, rfl, rfl, rfl⟩ := hx1.open
  have hx2 := PartsX.of_at hpa
  obtain ⟨q1, q1c, q2, q2c, q3, q3c, q4, q4c, q5, q5c, rfl, rfl, rfl, rfl, rfl⟩ := hx2.open
  clear hx1 hx2
  obtain ⟨t1, t2, t3, t4⟩ := two_new W (.cells #[.string nx, .int .i64 wd, .string sx.disp, .string sx.lt, .string sx.col, .slice e1 sx.con.length e1c, .bool sx.nor, .bool sx.non, .slice e2 sx.quo.length e2c, .bool sx.aut, .slice e3 sx.rst.length e3c, .slice e4 sx.add.length e4c, .slice e5 sx.set.length e5c] 32) (.cells #[.string pa.disp, .string pa.lt, .string pa.col, .slice q1 pa.con.length q1c, .bool pa.nor, .bool pa.non, .slice q2 pa.quo.length q2c, .bool pa.aut, .slice q3 pa.rst.length q3c, .slice q4 pa.add.length q4c, .slice q5 pa.set.length q5c] 27)
  have HSX := Lib.hid (hsx.below t4)
  have HPA := Lib.hid (hpa.below t4)
  have HD := Lib.hid t1
  have HP := Lib.hid t2
  have HZ := Lib.hid t3
  have HB := Lib.hid t4
  have HT := Lib.hid hT
  have HK := Lib.hid hk
  have HPP := Lib.hid hp
  clear t1 t2 t3 t4 hsx hpa hT hk hp
  unfold maxLen at hnx
  go_enter Tryz.func4, Tryz.ntmps4
  go_upto_region 1 with fail
  generalize ((W.alloc (.cells #[.string nx, .int .i64 wd, .string sx.disp, .string sx.lt, .string sx.col, .slice e1 sx.con.length e1c, .bool sx.nor, .bool sx.non, .slice e2 sx.quo.length e2c, .bool sx.aut, .slice e3 sx.rst.length e3c, .slice e4 sx.add.length e4c, .slice e5 sx.set.length e5c] 32)).alloc (.cells #[.string pa.disp, .string pa.lt, .string pa.col, .slice q1 pa.con.length q1c, .bool pa.nor, .bool pa.non, .slice q2 pa.quo.length q2c, .bool pa.aut, .slice q3 pa.rst.length q3c, .slice q4 pa.add.length q4c, .slice q5 pa.set.length q5c] 27)) = W1 at HSX HPA HD HP HZ HB ⊢
  have cD := Lib.cell_of_heap HD.out
  have cP := Lib.cell_of_heap HP.out
  have hz1 := HZ.out
  have hz : W.heap.size + 2 ≤ W1.heap.size := by omega
  clear hz1
  have hs1 := style_c pa _ _ _ _ _ W1 m1 m2 m3 m4 m5 HPA.out
  go_wp2_with (go_at_call 5; refine hs1.mono ?_)
  rintro e w2 ⟨b1, rfl, hb1, hb2⟩
  have HB2 := Lib.hid (HB.out.trans (hb2.mono HB.out.size))
  have HD2 := Lib.hid ((hb2.block W.heap.size (by omega)).trans HD.out)
  have HP2 := Lib.hid ((hb2.block (W.heap.size + 1) (by omega)).trans HP.out)
  have HSX2 := Lib.hid (HSX.out.below hb2)
  have HPA2 := Lib.hid (HPA.out.below hb2)
  have hz2 := hb2.size
  have cD2 := Lib.cell_of_heap HD2.out
  have haw2 := aw w2 HB2.out
  clear hs1 hb2 cD cP
  cases b1 with
  | false =>
    go_wp2_with (go_at_call 6; refine haw2.mono ?_; rintro e w' ⟨rfl, hb⟩)
    go_ret
    exact ⟨rfl, HB2.out.trans (hb.mono HB2.out.size)⟩
  | true =>
  have HPS := Lib.hid (hb1 rfl)
  clear hb1 haw2
  have hs2 := style_c sx _ _ _ _ _ w2 n1 n2 n3 n4 n5 HSX2.out
  go_wp2_with (go_at_call 5; refine hs2.mono ?_)
  rintro e w3 ⟨b2, rfl, hb2, hb3⟩
  have HB3 := Lib.hid (HB2.out.trans (hb3.mono HB2.out.size))
  have HD3 := Lib.hid ((hb3.block W.heap.size (by omega)).trans HD2.out)
  have HP3 := Lib.hid ((hb3.block (W.heap.size + 1) (by omega)).trans HP2.out)
  have HSX3 := Lib.hid (HSX2.out.below hb3)
  have HPA3 := Lib.hid (HPA2.out.below hb3)
  have hz3 := hb3.size
  have cD3 := Lib.cell_of_heap HD3.out
  have haw3 := aw w3 HB3.out
  clear hs2 hb3 cD2
  cases b2 with
  | false =>
    go_wp2_with (go_at_call 6; refine haw3.mono ?_; rintro e w' ⟨rfl, hb⟩)
    go_ret
    exact ⟨rfl, HB3.out.trans (hb.mono HB3.out.size)⟩
  | true =>
  have HSS := Lib.hid (hb2 rfl)
  clear hb2
  by_cases hin : 1 ≤ wd ∧ wd ≤ 3 ∧ nx.size ≤ 100
  case neg =>
    by_cases i1 : wd < 1
    · go_wp2_with (go_at_call 6; refine haw3.mono ?_; rintro e w' ⟨rfl, hb⟩)
      go_ret
      exact ⟨rfl, HB3.out.trans (hb.mono HB3.out.size)⟩
    · by_cases i2 : 3 < wd
      · go_wp2_with (go_at_call 6; refine haw3.mono ?_; rintro e w' ⟨rfl, hb⟩)
        go_ret
        exact ⟨rfl, HB3.out.trans (hb.mono HB3.out.size)⟩
      · have i3 : 100 < nx.size := by omega
        go_wp2_with (go_at_call 6; refine haw3.mono ?_; rintro e w' ⟨rfl, hb⟩)
        go_ret
        exact ⟨rfl, HB3.out.trans (hb.mono HB3.out.size)⟩
  obtain ⟨i1, i2, i3⟩ := hin
  clear haw3
  go_upto_region 4 with (first | (go_at_call 11; refine (rd _).mono ?_; rintro e w' ⟨rfl, rfl⟩))
  have hal : Below w3.heap.size w3 (w3.alloc (.cells #[.string nx, .int .i64 wd, .string sx.disp, .string sx.lt, .string sx.col, .slice e1 sx.con.length e1c, .bool sx.nor, .bool sx.non, .slice e2 sx.quo.length e2c, .bool sx.aut, .slice e3 sx.rst.length e3c, .slice e4 sx.add.length e4c, .slice e5 sx.set.length e5c] 32)) := (Below.refl _ w3).alloc (Nat.le_refl _) _
  have hnew := Lib.cell_of_heap (new_heap w3 (.cells #[.string nx, .int .i64 wd, .string sx.disp, .string sx.lt, .string sx.col, .slice e1 sx.con.length e1c, .bool sx.nor, .bool sx.non, .slice e2 sx.quo.length e2c, .bool sx.aut, .slice e3 sx.rst.length e3c, .slice e4 sx.add.length e4c, .slice e5 sx.set.length e5c] 32))
  have hwon : WonAt [⟨nx, k, wd, sx⟩] (.slice (some ⟨w3.heap.size, 0, none⟩) 1 1) (w3.alloc (.cells #[.string nx, .int .i64 wd, .string sx.disp, .string sx.lt, .string sx.col, .slice e1 sx.con.length e1c, .bool sx.nor, .bool sx.non, .slice e2 sx.quo.length e2c, .bool sx.aut, .slice e3 sx.rst.length e3c, .slice e4 sx.add.length e4c, .slice e5 sx.set.length e5c] 32)) := by
    refine ⟨_, _, rfl, fun _ => ⟨w3.heap.size, 0, rfl, by rw [World.size_alloc]; omega, fun j x hx => ?_⟩⟩
    have hj : j = 0 := by
      have := (List.getElem?_eq_some_iff.1 hx).1
      simp at this; exact this
    subst hj
    simp only [List.getElem?_cons_zero, Option.some.injEq] at hx
    subst hx
    exact ⟨e1, e1c, e2, e2c, e3, e3c, e4, e4c, e5, e5c, ⟨hnew 0, hnew 1, hnew 2, hnew 3, hnew 4, hnew 5, hnew 6, hnew 7, hnew 8, hnew 9, hnew 10, hnew 11, hnew 12⟩, PartsX.of_at (HSX3.out.below hal)⟩
  have hof := of_c p pa _ _ _ _ _ [⟨nx, k, wd, sx⟩] _ _ (HT.out.keep (HB3.out.trans (hal.mono HB3.out.size))) HPS.out (by simp) (fun x hx => by rw [List.mem_singleton.1 hx]; exact ⟨HK.out, HSS.out⟩) hwon (HPA3.out.below hal)
  have hRB := of_one p HPP.out pa nx k HK.out.le wd (by omega) sx
  have hRz := of_small (p := p) HPS.out [⟨nx, k, wd, sx⟩] fun x hx => by rw [List.mem_singleton.1 hx]; exact HSS.out
  obtain ⟨R, hR⟩ : ∃ R, ofS p pa [⟨nx, k, wd, sx⟩] = R := ⟨_, rfl⟩
  rw [hR] at hof hRB hRz
  obtain ⟨B, hBB⟩ : ∃ B, ofS p pa [] = B := ⟨_, rfl⟩
  rw [hBB] at hRB
  have HRB := Lib.hid hRB
  have HRZ := Lib.hid hRz
  have HBB := Lib.hid hBB
  clear hRB hRz hBB
  have HAL := Lib.hid hal
  have cP3 := Lib.cell_of_heap HP3.out
  have cP3a := Lib.cell_of_heap ((hal.block (W.heap.size + 1) (by omega)).trans HP3.out)
  clear hal hnew hwon hR
  go_wp2_with (go_at_call 7; refine hof.mono ?_)
  rintro e w4 ⟨v4, rfl, hv4, hb4⟩
  obtain ⟨r1, r1c, r2, r2c, r3, r3c, r4, r4c, r5, r5c, rfl, hx4⟩ := hv4.open
  have HB4 := Lib.hid (HB3.out.trans ((HAL.out.trans (hb4.mono HAL.out.size)).mono HB3.out.size))
  have hz4 : w3.heap.size + 1 ≤ w4.heap.size := by have := hb4.size; rw [World.size_alloc] at this; exact this
  have HD4 := Lib.hid ((hb4.block W.heap.size (by rw [World.size_alloc]; omega)).trans ((HAL.out.block W.heap.size (by omega)).trans HD3.out))
  have HP4 := Lib.hid ((hb4.block (W.heap.size + 1) (by rw [World.size_alloc]; omega)).trans ((HAL.out.block (W.heap.size + 1) (by omega)).trans HP3.out))
  have HPA4 := Lib.hid ((HPA3.out.below HAL.out).below hb4)
  have HX4 := Lib.hid hx4
  have hal4 : Below w4.heap.size w4 (w4.alloc (.cells #[.string R.disp, .string R.lt, .string R.col, .slice r1 R.con.length r1c, .bool R.nor, .bool R.non, .slice r2 R.quo.length r2c, .bool R.aut, .slice r3 R.rst.length r3c, .slice r4 R.add.length r4c, .slice r5 R.set.length r5c] 27)) := (Below.refl _ w4).alloc (Nat.le_refl _) _
  have HAL4 := Lib.hid hal4
  have hof2 := of_c p pa _ _ _ _ _ [] (.slice none 0 0) (w4.alloc (.cells #[.string R.disp, .string R.lt, .string R.col, .slice r1 R.con.length r1c, .bool R.nor, .bool R.non, .slice r2 R.quo.length r2c, .bool R.aut, .slice r3 R.rst.length r3c, .slice r4 R.add.length r4c, .slice r5 R.set.length r5c] 27)) (HT.out.keep (HB4.out.trans (hal4.mono HB4.out.size))) HPS.out (by simp) (fun x hx => by cases hx) ⟨none, 0, rfl, fun h => by cases h⟩ (HPA4.out.below hal4)
  have cP4 := Lib.cell_of_heap ((hal4.block (W.heap.size + 1) (by omega)).trans HP4.out)
  have hBz := of_small (p := p) HPS.out [] fun x hx => by cases hx
  rw [HBB.out] at hof2 hBz
  have HBZ := Lib.hid hBz
  clear hv4 hb4 hx4 hof hal4 cP3 cP3a cD3 hBz
  go_wp2_with (go_at_call 7; refine hof2.mono ?_)
  rintro e w5 ⟨v5, rfl, hv5, hb5⟩
  obtain ⟨s1, s1c, s2, s2c, s3, s3c, s4, s4c, s5, s5c, rfl, hx5⟩ := hv5.open
  have hz5 : w4.heap.size + 1 ≤ w5.heap.size := by have := hb5.size; rw [World.size_alloc] at this; exact this
  have HB5 := Lib.hid (HB4.out.trans ((HAL4.out.trans (hb5.mono HAL4.out.size)).mono HB4.out.size))
  have hD5 := (hb5.block W.heap.size (by rw [World.size_alloc]; omega)).trans ((HAL4.out.block W.heap.size (by omega)).trans HD4.out)
  have hP5 := (hb5.block (W.heap.size + 1) (by rw [World.size_alloc]; omega)).trans ((HAL4.out.block (W.heap.size + 1) (by omega)).trans HP4.out)
  have hR5 := (hb5.block w4.heap.size (by rw [World.size_alloc]; omega)).trans (new_heap w4 (.cells #[.string R.disp, .string R.lt, .string R.col, .slice r1 R.con.length r1c, .bool R.nor, .bool R.non, .slice r2 R.quo.length r2c, .bool R.aut, .slice r3 R.rst.length r3c, .slice r4 R.add.length r4c, .slice r5 R.set.length r5c] 27))
  have hV4 : Var (· ≠ w5.heap.size + 1) pa (W.heap.size + 1) w5 := ⟨_, _, _, _, _, _, _, _, _, _, hP5, ((PartsX.of_at ((HPA4.out.below HAL4.out).below hb5)).mono fun g h _ => (by omega : g ≠ w5.heap.size + 1))⟩
  have HV4 := Lib.hid hV4
  have hV8 : Var (· ≠ w5.heap.size + 1) R w4.heap.size w5 := ⟨_, _, _, _, _, _, _, _, _, _, hR5, ((PartsX.of_at ((HX4.out.at.below HAL4.out).below hb5)).mono fun g h _ => (by omega : g ≠ w5.heap.size + 1))⟩
  have HV8 := Lib.hid hV8
  have HX5 := Lib.hid (hx5.mono (ok' := (· ≠ w5.heap.size + 1)) fun g h _ => (by omega : g ≠ w5.heap.size + 1))
  have HD5 := Lib.hid hD5
  clear hv5 hb5 hx5 hof2 hD5 hP5 hR5 cP4 hV4 hV8
  have k1 : Below w5.heap.size w5 (w5.alloc (.cells #[.string B.disp, .string B.lt, .string B.col, .slice s1 B.con.length s1c, .bool B.nor, .bool B.non, .slice s2 B.quo.length s2c, .bool B.aut, .slice s3 B.rst.length s3c, .slice s4 B.add.length s4c, .slice s5 B.set.length s5c] 27)) := (Below.refl _ w5).alloc (Nat.le_refl _) _
  have k2 : Below (w5.alloc (.cells #[.string B.disp, .string B.lt, .string B.col, .slice s1 B.con.length s1c, .bool B.nor, .bool B.non, .slice s2 B.quo.length s2c, .bool B.aut, .slice s3 B.rst.length s3c, .slice s4 B.add.length s4c, .slice s5 B.set.length s5c] 27)).heap.size (w5.alloc (.cells #[.string B.disp, .string B.lt, .string B.col, .slice s1 B.con.length s1c, .bool B.nor, .bool B.non, .slice s2 B.quo.length s2c, .bool B.aut, .slice s3 B.rst.length s3c, .slice s4 B.add.length s4c, .slice s5 B.set.length s5c] 27)) ((w5.alloc (.cells #[.string B.disp, .string B.lt, .string B.col, .slice s1 B.con.length s1c, .bool B.nor, .bool B.non, .slice s2 B.quo.length s2c, .bool B.aut, .slice s3 B.rst.length s3c, .slice s4 B.add.length s4c, .slice s5 B.set.length s5c] 27)).alloc (.cells #[.string B.disp, .string B.lt, .string B.col, .slice s1 B.con.length s1c, .bool B.nor, .bool B.non, .slice s2 B.quo.length s2c, .bool B.aut, .slice s3 B.rst.length s3c, .slice s4 B.add.length s4c, .slice s5 B.set.length s5c] 27)) := (Below.refl _ _).alloc (Nat.le_refl _) _
  have k3 : Below ((w5.alloc (.cells #[.string B.disp, .string B.lt, .string B.col, .slice s1 B.con.length s1c, .bool B.nor, .bool B.non, .slice s2 B.quo.length s2c, .bool B.aut, .slice s3 B.rst.length s3c, .slice s4 B.add.length s4c, .slice s5 B.set.length s5c] 27)).alloc (.cells #[.string B.disp, .string B.lt, .string B.col, .slice s1 B.con.length s1c, .bool B.nor, .bool B.non, .slice s2 B.quo.length s2c, .bool B.aut, .slice s3 B.rst.length s3c, .slice s4 B.add.length s4c, .slice s5 B.set.length s5c] 27)).heap.size ((w5.alloc (.cells #[.string B.disp, .string B.lt, .string B.col, .slice s1 B.con.length s1c, .bool B.nor, .bool B.non, .slice s2 B.quo.length s2c, .bool B.aut, .slice s3 B.rst.length s3c, .slice s4 B.add.length s4c, .slice s5 B.set.length s5c] 27)).alloc (.cells #[.string B.disp, .string B.lt, .string B.col, .slice s1 B.con.length s1c, .bool B.nor, .bool B.non, .slice s2 B.quo.length s2c, .bool B.aut, .slice s3 B.rst.length s3c, .slice s4 B.add.length s4c, .slice s5 B.set.length s5c] 27)) (((w5.alloc (.cells #[.string B.disp, .string B.lt, .string B.col, .slice s1 B.con.length s1c, .bool B.nor, .bool B.non, .slice s2 B.quo.length s2c, .bool B.aut, .slice s3 B.rst.length s3c, .slice s4 B.add.length s4c, .slice s5 B.set.length s5c] 27)).alloc (.cells #[.string B.disp, .string B.lt, .string B.col, .slice s1 B.con.length s1c, .bool B.nor, .bool B.non, .slice s2 B.quo.length s2c, .bool B.aut, .slice s3 B.rst.length s3c, .slice s4 B.add.length s4c, .slice s5 B.set.length s5c] 27)).alloc (.cells #[.string ⟨#[99, 111, 108, 111, 114]⟩, .string ⟨#[99, 111, 110, 116, 101, 110, 116]⟩, .string ⟨#[99, 111, 117, 110, 116, 101, 114, 45, 105, 110, 99, 114, 101, 109, 101, 110, 116]⟩, .string ⟨#[99, 111, 117, 110, 116, 101, 114, 45, 114, 101, 115, 101, 116]⟩, .string ⟨#[99, 111, 117, 110, 116, 101, 114, 45, 115, 101, 116]⟩, .string ⟨#[100, 105, 115, 112, 108, 97, 121]⟩, .string ⟨#[108, 105, 115, 116, 45, 115, 116, 121, 108, 101, 45, 116, 121, 112, 101]⟩, .string ⟨#[113, 117, 111, 116, 101, 115]⟩] 9)) := (Below.refl _ _).alloc (Nat.le_refl _) _
  have hB9 := new_heap w5 (.cells #[.string B.disp, .string B.lt, .string B.col, .slice s1 B.con.length s1c, .bool B.nor, .bool B.non, .slice s2 B.quo.length s2c, .bool B.aut, .slice s3 B.rst.length s3c, .slice s4 B.add.length s4c, .slice s5 B.set.length s5c] 27)
  have hB10 := new_heap (w5.alloc (.cells #[.string B.disp, .string B.lt, .string B.col, .slice s1 B.con.length s1c, .bool B.nor, .bool B.non, .slice s2 B.quo.length s2c, .bool B.aut, .slice s3 B.rst.length s3c, .slice s4 B.add.length s4c, .slice s5 B.set.length s5c] 27)) (.cells #[.string B.disp, .string B.lt, .string B.col, .slice s1 B.con.length s1c, .bool B.nor, .bool B.non, .slice s2 B.quo.length s2c, .bool B.aut, .slice s3 B.rst.length s3c, .slice s4 B.add.length s4c, .slice s5 B.set.length s5c] 27)
  have hBn := new_heap ((w5.alloc (.cells #[.string B.disp, .string B.lt, .string B.col, .slice s1 B.con.length s1c, .bool B.nor, .bool B.non, .slice s2 B.quo.length s2c, .bool B.aut, .slice s3 B.rst.length s3c, .slice s4 B.add.length s4c, .slice s5 B.set.length s5c] 27)).alloc (.cells #[.string B.disp, .string B.lt, .string B.col, .slice s1 B.con.length s1c, .bool B.nor, .bool B.non, .slice s2 B.quo.length s2c, .bool B.aut, .slice s3 B.rst.length s3c, .slice s4 B.add.length s4c, .slice s5 B.set.length s5c] 27)) (.cells #[.string ⟨#[99, 111, 108, 111, 114]⟩, .string ⟨#[99, 111, 110, 116, 101, 110, 116]⟩, .string ⟨#[99, 111, 117, 110, 116, 101, 114, 45, 105, 110, 99, 114, 101, 109, 101, 110, 116]⟩, .string ⟨#[99, 111, 117, 110, 116, 101, 114, 45, 114, 101, 115, 101, 116]⟩, .string ⟨#[99, 111, 117, 110, 116, 101, 114, 45, 115, 101, 116]⟩, .string ⟨#[100, 105, 115, 112, 108, 97, 121]⟩, .string ⟨#[108, 105, 115, 116, 45, 115, 116, 121, 108, 101, 45, 116, 121, 112, 101]⟩, .string ⟨#[113, 117, 111, 116, 101, 115]⟩] 9)
  rw [World.size_alloc] at hB10
  rw [World.size_alloc, World.size_alloc] at hBn
  have hW6 : Wd W W.heap.size (W.heap.size + 1) w4.heap.size w5.heap.size (w5.heap.size + 1) (w5.heap.size + 2) #[.string nx, .int .i64 wd, .string sx.disp, .string sx.lt, .string sx.col, .slice e1 sx.con.length e1c, .bool sx.nor, .bool sx.non, .slice e2 sx.quo.length e2c, .bool sx.aut, .slice e3 sx.rst.length e3c, .slice e4 sx.add.length e4c, .slice e5 sx.set.length e5c] pa R B B (((w5.alloc (.cells #[.string B.disp, .string B.lt, .string B.col, .slice s1 B.con.length s1c, .bool B.nor, .bool B.non, .slice s2 B.quo.length s2c, .bool B.aut, .slice s3 B.rst.length s3c, .slice s4 B.add.length s4c, .slice s5 B.set.length s5c] 27)).alloc (.cells #[.string B.disp, .string B.lt, .string B.col, .slice s1 B.con.length s1c, .bool B.nor, .bool B.non, .slice s2 B.quo.length s2c, .bool B.aut, .slice s3 B.rst.length s3c, .slice s4 B.add.length s4c, .slice s5 B.set.length s5c] 27)).alloc (.cells #[.string ⟨#[99, 111, 108, 111, 114]⟩, .string ⟨#[99, 111, 110, 116, 101, 110, 116]⟩, .string ⟨#[99, 111, 117, 110, 116, 101, 114, 45, 105, 110, 99, 114, 101, 109, 101, 110, 116]⟩, .string ⟨#[99, 111, 117, 110, 116, 101, 114, 45, 114, 101, 115, 101, 116]⟩, .string ⟨#[99, 111, 117, 110, 116, 101, 114, 45, 115, 101, 116]⟩, .string ⟨#[100, 105, 115, 112, 108, 97, 121]⟩, .string ⟨#[108, 105, 115, 116, 45, 115, 116, 121, 108, 101, 45, 116, 121, 112, 101]⟩, .string ⟨#[113, 117, 111, 116, 101, 115]⟩] 9)) := by
    refine ⟨?_, ((HV4.out.below k1).below k2).below k3, ((HV8.out.below k1).below k2).below k3, (Var.below (Var.below ⟨_, _, _, _, _, _, _, _, _, _, hB9, HX5.out.below k1⟩ k2) k3), (Var.below ⟨_, _, _, _, _, _, _, _, _, _, hB10, (HX5.out.below k1).below k2⟩ k3), hBn, ?_⟩
    · exact (k3.block _ (by rw [World.size_alloc, World.size_alloc]; omega)).trans ((k2.block _ (by rw [World.size_alloc]; omega)).trans ((k1.block _ (by omega)).trans HD5.out))
    · exact HB5.out.trans ((k1.trans ((k2.mono k1.size).trans (k3.mono (Nat.le_trans k1.size k2.size)))).mono HB5.out.size)
  have cB9 := Lib.cell_of_heap hB9
  have HW6 := Lib.hid hW6
  clear k1 k2 k3 hB9 hB10 hBn hW6
  go_wp2_with (go_at_call 12; refine (rnames_c _).mono ?_)
  rintro e w6 ⟨rfl, rfl⟩
  clear cB9
  go_wp2_with fail
  go_loopw [12] (fun x12 wr => LoopW W W.heap.size (W.heap.size + 1) w4.heap.size w5.heap.size (w5.heap.size + 1) (w5.heap.size + 2) #[.string nx, .int .i64 wd, .string sx.disp, .string sx.lt, .string sx.col, .slice e1 sx.con.length e1c, .bool sx.nor, .bool sx.non, .slice e2 sx.quo.length e2c, .bool sx.aut, .slice e3 sx.rst.length e3c, .slice e4 sx.add.length e4c, .slice e5 sx.set.length e5c] pa R B wd k x12 wr) (fun x12 _ => 8 - (intOf x12).toNat)
  case atStart => exact ⟨0, by omega, rfl, HW6.out⟩
  case round =>
    clear HW6
    obtain ⟨j, hj, rfl, hw⟩ := hrel
    by_cases hlt : j < 8
    · have cN := names_cell hw.nm hlt
      have he := nm_eq j k nx HK.out hlt
      have cD := Lib.cell_of_heap hw.d
      have hdr : Below wr.heap.size wr wr.drew := (Below.refl _ wr).drew
      have hwd := hw.below hdr
      have HWd := Lib.hid hwd
      clear hw hwd
      by_cases hjk : j = k
      · subst hjk
        rw [decide_eq_true rfl] at he
        have hne : ((nmN j).toList != nx.toList) = false := by rw [bne, he]; rfl
        have HE : Hid ((if j < j + 1 then wantS wd j pa B else B) = wantS wd j pa B) := Lib.hid (if_pos (by omega))
        obtain ⟨c1, c1c, c2, c2c, c3, c3c, c4, c4c, c5, c5c, hbs, pbs⟩ := HWd.out.bs
        obtain ⟨d1, d1c, d2, d2c, d3, d3c, d4, d4c, d5, d5c, hpar, ppar⟩ := HWd.out.par
        have HBS := Lib.hid hbs
        have HPR := Lib.hid hpar
        have HPB := Lib.hid pbs
        have HPQ := Lib.hid ppar
        have cBS := Lib.cell_of_heap hbs
        have cDd := Lib.cell_of_heap HWd.out.d
        clear hbs hpar pbs ppar
        go_upto_region 11 with fail
        go_region
        clear he hne cN cD
        have hwz : w5.heap.size + 1 < wr.heap.size := HWd.out.want.lt
        by_cases y1 : wd = 1
        · subst y1
          have HE2 : Hid (wantS 1 j pa B = take j B pa) := Lib.hid (by unfold wantS; rw [if_pos (.inl rfl)])
          clear i1 i2
          go_upto_region 13 with fail
          go_wp2_with (first | (refine wpList_load_row rfl 27 _ rfl w5.heap.size rfl 27 #[.string B.disp, .string B.lt, .string B.col, .slice c1 B.con.length c1c, .bool B.nor, .bool B.non, .slice c2 B.quo.length c2c, .bool B.aut, .slice c3 B.rst.length c3c, .slice c4 B.add.length c4c, .slice c5 B.set.length c5c] (0, 0) _ HBS.out Tryz.underlying27 rfl (by kernel_rfl) ?_) | (refine wpList_load_row rfl 27 _ rfl (W.heap.size + 1) rfl 27 #[.string pa.disp, .string pa.lt, .string pa.col, .slice d1 pa.con.length d1c, .bool pa.nor, .bool pa.non, .slice d2 pa.quo.length d2c, .bool pa.aut, .slice d3 pa.rst.length d3c, .slice d4 pa.add.length d4c, .slice d5 pa.set.length d5c] (0, 0) _ HPR.out Tryz.underlying27 rfl (by kernel_rfl) ?_) | (go_at_call 14; (with_reducible refine (rtake_c (· ≠ w5.heap.size + 1) j B pa _ _ _ _ _ _ _ _ _ _ _ _ _ _ _ _ _ _ _ _ nx _ HK.out HPB.out HPQ.out).mono ?_)))
          rintro e w8 ⟨v8, rfl, ⟨g1, g1c, g2, g2c, g3, g3c, g4, g4c, g5, g5c, rfl, hx8⟩, hb8⟩
          have hC8 := hb8.block (w5.heap.size + 1) hwz
          obtain ⟨f1, f1c, f2, f2c, f3, f3c, f4, f4c, f5, f5c, hwt, _⟩ := HWd.out.want
          have HC8 := Lib.hid (hC8.trans hwt)
          have HX8 := Lib.hid hx8
          have HB8 := Lib.hid hb8
          clear hx8 hb8 hC8 hwt
          go_wp2_with (refine wpList_store_row rfl 27 _ _ rfl (w5.heap.size + 1) _ rfl rfl 27 _ HC8.out (by kernel_rfl) rfl (by simp [Value.oneCell']) ?_)
          go_roundw
          case rel =>
            first
              | (refine ⟨j + 1, by omega, by go_num, ?_⟩; rw [HE.out, HE2.out]; exact HWd.out.upd HB8.out ⟨_, _, _, _, _, _, _, _, _, _, rfl, HX8.out⟩ (by omega) (by omega) (by omega) (by omega) (by omega) (by omega))
              | ((repeat apply Exists.intro); refine ⟨⟨j + 1, by omega, by go_num, ?_⟩, rfl⟩; rw [HE.out, HE2.out]; exact HWd.out.upd HB8.out ⟨_, _, _, _, _, _, _, _, _, _, rfl, HX8.out⟩ (by omega) (by omega) (by omega) (by omega) (by omega) (by omega))
          case measure => simp [intOf]; omega
        · have h1 : (wd == 1) = false := by simp [y1]
          by_cases y3 : wd = 3
          · subst y3
            have hi := rinherits_c j nx wr.drew HK.out
            cases hin : inh j with
            | true =>
              rw [hin] at hi
              have HE2 : Hid (wantS 3 j pa B = take j B pa) := Lib.hid (by unfold wantS; rw [if_pos (.inr ⟨rfl, hin⟩)])
              clear hin i1 i2
              go_upto_region 13 with (first | (go_at_call 13; refine hi.mono ?_; rintro e w' ⟨rfl, rfl⟩))
              clear hi
              go_wp2_with (first | (refine wpList_load_row rfl 27 _ rfl w5.heap.size rfl 27 #[.string B.disp, .string B.lt, .string B.col, .slice c1 B.con.length c1c, .bool B.nor, .bool B.non, .slice c2 B.quo.length c2c, .bool B.aut, .slice c3 B.rst.length c3c, .slice c4 B.add.length c4c, .slice c5 B.set.length c5c] (0, 0) _ HBS.out Tryz.underlying27 rfl (by kernel_rfl) ?_) | (refine wpList_load_row rfl 27 _ rfl (W.heap.size + 1) rfl 27 #[.string pa.disp, .string pa.lt, .string pa.col, .slice d1 pa.con.length d1c, .bool pa.nor, .bool pa.non, .slice d2 pa.quo.length d2c, .bool pa.aut, .slice d3 pa.rst.length d3c, .slice d4 pa.add.length d4c, .slice d5 pa.set.length d5c] (0, 0) _ HPR.out Tryz.underlying27 rfl (by kernel_rfl) ?_) | (go_at_call 14; (with_reducible refine (rtake_c (· ≠ w5.heap.size + 1) j B pa _ _ _ _ _ _ _ _ _ _ _ _ _ _ _ _ _ _ _ _ nx _ HK.out HPB.out HPQ.out).mono ?_)))
              rintro e w8 ⟨v8, rfl, ⟨g1, g1c, g2, g2c, g3, g3c, g4, g4c, g5, g5c, rfl, hx8⟩, hb8⟩
              have hC8 := hb8.block (w5.heap.size + 1) hwz
              obtain ⟨f1, f1c, f2, f2c, f3, f3c, f4, f4c, f5, f5c, hwt, _⟩ := HWd.out.want
              have HC8 := Lib.hid (hC8.trans hwt)
              have HX8 := Lib.hid hx8
              have HB8 := Lib.hid hb8
              clear hx8 hb8 hC8 hwt
              go_wp2_with (refine wpList_store_row rfl 27 _ _ rfl (w5.heap.size + 1) _ rfl rfl 27 _ HC8.out (by kernel_rfl) rfl (by simp [Value.oneCell']) ?_)
              go_roundw
              case rel =>
                first
                  | (refine ⟨j + 1, by omega, by go_num, ?_⟩; rw [HE.out, HE2.out]; exact HWd.out.upd HB8.out ⟨_, _, _, _, _, _, _, _, _, _, rfl, HX8.out⟩ (by omega) (by omega) (by omega) (by omega) (by omega) (by omega))
                  | ((repeat apply Exists.intro); refine ⟨⟨j + 1, by omega, by go_num, ?_⟩, rfl⟩; rw [HE.out, HE2.out]; exact HWd.out.upd HB8.out ⟨_, _, _, _, _, _, _, _, _, _, rfl, HX8.out⟩ (by omega) (by omega) (by omega) (by omega) (by omega) (by omega))
              case measure => simp [intOf]; omega
            | false =>
              rw [hin] at hi
              have HE2 : Hid (wantS 3 j pa B = take j B startS) := Lib.hid (by unfold wantS; rw [if_neg (show ¬ ((3 : Int) = 1 ∨ ((3 : Int) = 3 ∧ inh j = true)) from fun h => h.elim (by decide) fun h => by rw [hin] at h; exact absurd h.2 (by decide))])
              clear hin i1 i2
              go_upto_region 14 with (first | (go_at_call 13; refine hi.mono ?_; rintro e w' ⟨rfl, rfl⟩))
              clear hi
              go_region_law
                (first
                  | (go_simp; go_at_call 15; (with_reducible refine (rstart_x _).mono ?_); rintro e w7 ⟨rfl, hb7'⟩; have hb7 : Below wr.heap.size wr.drew.drew w7 := hb7'; clear hb7'; have hC7 := (hb7.block w5.heap.size (by omega)).trans HBS.out; have cC7 := Lib.cell_of_heap hC7; have cD7 := Lib.cell_of_heap ((hb7.block W.heap.size (by omega)).trans HWd.out.d); have HC7 := Lib.hid hC7; have HB7 := Lib.hid hb7; have hz7 : w5.heap.size + 1 < w7.heap.size := Nat.lt_of_lt_of_le hwz hb7.size; clear hC7 hb7)
                  | (go_simp; go_at_call 14; (with_reducible refine (rtake_c (· ≠ w5.heap.size + 1) j B startS _ _ _ _ _ _ _ _ _ _ _ _ _ _ _ _ _ _ _ _ nx _ HK.out (HPB.out.belowDD HB7.out) (start_parts _ _)).mono ?_); rintro e w8 ⟨v8, rfl, ⟨g1, g1c, g2, g2c, g3, g3c, g4, g4c, g5, g5c, rfl, hx8⟩, hb8⟩; obtain ⟨f1, f1c, f2, f2c, f3, f3c, f4, f4c, f5, f5c, hwt, _⟩ := HWd.out.want; have hC8 := (hb8.block (w5.heap.size + 1) hz7).trans ((HB7.out.block (w5.heap.size + 1) hwz).trans hwt); have cC8 := Lib.cell_of_heap hC8; have fC8 := Lib.frozen_of_heap hC8; have HC8 := Lib.hid hC8; have HX8 := Lib.hid hx8; have HB8 := Lib.hid hb8; clear hC8 hx8 hb8 hwt))
              all_goals
                rw [set_row w8 _ _ _ _ _ _ _ _ _ _ _ _ _ _ _ HC8.out rfl]
                clear cC8 fC8 cC7 cD7 cBS cDd
                go_wp2_with fail
                go_roundw
                case rel =>
                  first
                    | (refine ⟨j + 1, by omega, by go_num, ?_⟩; rw [HE.out, HE2.out]; exact ((HWd.out.below (Below.refl _ _).drew).below HB7.out).upd HB8.out ⟨_, _, _, _, _, _, _, _, _, _, rfl, HX8.out⟩ (by omega) (by omega) (by omega) (by omega) (by omega) (by omega))
                    | ((repeat apply Exists.intro); refine ⟨⟨j + 1, by omega, by go_num, ?_⟩, rfl⟩; rw [HE.out, HE2.out]; exact ((HWd.out.below (Below.refl _ _).drew).below HB7.out).upd HB8.out ⟨_, _, _, _, _, _, _, _, _, _, rfl, HX8.out⟩ (by omega) (by omega) (by omega) (by omega) (by omega) (by omega))
                case measure => simp [intOf]; omega
          · have h3 : (wd == 3) = false := by simp [y3]
            have HE2 : Hid (wantS wd j pa B = take j B startS) := Lib.hid (by unfold wantS; rw [if_neg (show ¬ (wd = 1 ∨ (wd = 3 ∧ inh j = true)) from fun h => h.elim y1 fun h => y3 h.1)])
            clear y1 y3
            go_upto_region 14 with fail
            go_region_law
              (first
                | (go_simp; go_at_call 15; (with_reducible refine (rstart_x _).mono ?_); rintro e w7 ⟨rfl, hb7'⟩; have hb7 : Below wr.heap.size wr.drew.drew w7 := hb7'; clear hb7'; have hC7 := (hb7.block w5.heap.size (by omega)).trans HBS.out; have cC7 := Lib.cell_of_heap hC7; have cD7 := Lib.cell_of_heap ((hb7.block W.heap.size (by omega)).trans HWd.out.d); have HC7 := Lib.hid hC7; have HB7 := Lib.hid hb7; have hz7 : w5.heap.size + 1 < w7.heap.size := Nat.lt_of_lt_of_le hwz hb7.size; clear hC7 hb7)
                | (go_simp; go_at_call 14; (with_reducible refine (rtake_c (· ≠ w5.heap.size + 1) j B startS _ _ _ _ _ _ _ _ _ _ _ _ _ _ _ _ _ _ _ _ nx _ HK.out (HPB.out.belowDD HB7.out) (start_parts _ _)).mono ?_); rintro e w8 ⟨v8, rfl, ⟨g1, g1c, g2, g2c, g3, g3c, g4, g4c, g5, g5c, rfl, hx8⟩, hb8⟩; obtain ⟨f1, f1c, f2, f2c, f3, f3c, f4, f4c, f5, f5c, hwt, _⟩ := HWd.out.want; have hC8 := (hb8.block (w5.heap.size + 1) hz7).trans ((HB7.out.block (w5.heap.size + 1) hwz).trans hwt); have cC8 := Lib.cell_of_heap hC8; have fC8 := Lib.frozen_of_heap hC8; have HC8 := Lib.hid hC8; have HX8 := Lib.hid hx8; have HB8 := Lib.hid hb8; clear hC8 hx8 hb8 hwt))
            all_goals
              rw [set_row w8 _ _ _ _ _ _ _ _ _ _ _ _ _ _ _ HC8.out rfl]
              clear cC8 fC8 cC7 cD7 cBS cDd
              go_wp2_with fail
              go_roundw
              case rel =>
                first
                  | (refine ⟨j + 1, by omega, by go_num, ?_⟩; rw [HE.out, HE2.out]; exact ((HWd.out.below (Below.refl _ _).drew).below HB7.out).upd HB8.out ⟨_, _, _, _, _, _, _, _, _, _, rfl, HX8.out⟩ (by omega) (by omega) (by omega) (by omega) (by omega) (by omega))
                  | ((repeat apply Exists.intro); refine ⟨⟨j + 1, by omega, by go_num, ?_⟩, rfl⟩; rw [HE.out, HE2.out]; exact ((HWd.out.below (Below.refl _ _).drew).below HB7.out).upd HB8.out ⟨_, _, _, _, _, _, _, _, _, _, rfl, HX8.out⟩ (by omega) (by omega) (by omega) (by omega) (by omega) (by omega))
              case measure => simp [intOf]; omega
      · rw [decide_eq_false hjk] at he
        have hne : ((nmN j).toList != nx.toList) = true := by rw [bne, he]; rfl
        have HE : Hid ((if k < j + 1 then wantS wd k pa B else B) = (if k < j then wantS wd k pa B else B)) := Lib.hid (by
          by_cases h : k < j
          · rw [if_pos h, if_pos (by omega)]
          · rw [if_neg h, if_neg (by omega)])
        go_upto_region 11 with fail
        go_region
        clear he hne cN cD
        go_wp2_with fail
        go_roundw
        case rel => first | exact ⟨j + 1, by omega, by go_num, by rw [HE.out]; exact HWd.out⟩ | ((repeat apply Exists.intro); exact ⟨⟨j + 1, by omega, by go_num, by rw [HE.out]; exact HWd.out⟩, rfl⟩)
        case measure => simp [intOf]; omega
    · obtain rfl : j = 8 := by omega
      rw [← HRB.out] at hw
      have hwz : w5.heap.size + 1 < wr.heap.size := hw.want.lt
      obtain ⟨c1, c1c, c2, c2c, c3, c3c, c4, c4c, c5, c5c, hbs, pbs⟩ := hw.r
      obtain ⟨d1, d1c, d2, d2c, d3, d3c, d4, d4c, d5, d5c, hpar, ppar⟩ := hw.want
      have hsm := same_c R _ _ _ _ _ _ _ _ _ _ wr HRZ.out pbs.at ppar.at
      have HBS := Lib.hid hbs
      have HPR := Lib.hid hpar
      have HW := Lib.hid hw
      clear hw hbs hpar pbs ppar
      go_wp2_with (first | (refine wpList_load_row rfl 27 _ rfl w4.heap.size rfl 27 #[.string R.disp, .string R.lt, .string R.col, .slice c1 R.con.length c1c, .bool R.nor, .bool R.non, .slice c2 R.quo.length c2c, .bool R.aut, .slice c3 R.rst.length c3c, .slice c4 R.add.length c4c, .slice c5 R.set.length c5c] (0, 0) _ HBS.out Tryz.underlying27 rfl (by kernel_rfl) ?_) | (refine wpList_load_row rfl 27 _ rfl (w5.heap.size + 1) rfl 27 #[.string R.disp, .string R.lt, .string R.col, .slice d1 R.con.length d1c, .bool R.nor, .bool R.non, .slice d2 R.quo.length d2c, .bool R.aut, .slice d3 R.rst.length d3c, .slice d4 R.add.length d4c, .slice d5 R.set.length d5c] (0, 0) _ HPR.out Tryz.underlying27 rfl (by kernel_rfl) ?_) | (go_at_call 8; refine hsm.mono ?_))
      rintro e w7 ⟨rfl, hb7⟩
      have HB7 := Lib.hid (HW.out.low.trans (hb7.mono HW.out.low.size))
      have haw := aw w7 HB7.out
      clear hb7 hsm
      go_wp2_with (go_at_call 6; refine haw.mono ?_; rintro e w' ⟨rfl, hb⟩)
      go_ret
      exact ⟨rfl, HB7.out.trans (hb.mono HB7.out.size)⟩
end Go.Proofs.YtkpoeilfnopgbaaGreatDoor.Sty
