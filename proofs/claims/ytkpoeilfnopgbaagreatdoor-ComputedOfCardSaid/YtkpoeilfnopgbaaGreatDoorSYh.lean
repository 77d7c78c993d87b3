/- fleuronref12.Of: what holds, as the document says. -/
import Derived.Test.YtkpoeilfnopgbaaGreatDoorSYg
namespace Go.Proofs.YtkpoeilfnopgbaaGreatDoor.Sty
open Go Go.RowKit
theorem PartsX.belowD {ok : Nat → Prop} {s : S} {vc vq vr va vs : Value} {w w' : World} (h : PartsX ok s vc vq vr va vs w.drew) (hb : Below w.heap.size w.drew w') : PartsX ok s vc vq vr va vs w' := h.below hb
def apart3 (bp br bs : Nat) (g : Nat) : Prop := g ≠ bp ∧ g ≠ br ∧ g ≠ bs
structure OfR (w : World) (bp br bs : Nat) (pa cur : S) (wr : World) : Prop where
  par : Var (apart3 bp br bs) pa bp wr
  res : wr.heap[br]? = some (.cells #[.string ⟨#[]⟩, .string ⟨#[]⟩, .string ⟨#[]⟩, .slice none 0 0, .bool false, .bool false, .slice none 0 0, .bool false, .slice none 0 0, .slice none 0 0, .slice none 0 0] 27 (0, 0))
  cur : Var (apart3 bp br bs) cur bs wr
  low : Below w.heap.size w wr
  size : br < wr.heap.size
theorem OfR.below {w : World} {bp br bs : Nat} {pa cur : S} {wr w2 : World} (h : OfR w bp br bs pa cur wr) (hb : Below wr.heap.size wr w2) : OfR w bp br bs pa cur w2 :=
  ⟨h.par.below hb, (hb.block _ h.size).trans h.res, h.cur.below hb, h.low.trans (hb.mono h.low.size), Nat.lt_of_lt_of_le h.size hb.size⟩
theorem OfR.upd {w : World} {bp br bs : Nat} {pa cur new : S} {wr w2 : World} {xs : Array Value} (h : OfR w bp br bs pa cur wr) (hb : Below wr.heap.size wr w2) (hv : StyX (apart3 bp br bs) new (.agg xs) w2)
    (h1 : w.heap.size ≤ bs) (h2 : bp ≠ bs) (h3 : br ≠ bs) : OfR w bp br bs pa new (w2.setRow bs xs) := by
  have h' := h.below hb
  have hn : ¬ apart3 bp br bs bs := fun h => h.2.2 rfl
  obtain ⟨p1, c1, p2, c2, p3, c3, p4, c4, p5, c5, hx, _⟩ := h'.cur
  exact ⟨h'.par.row xs hn h2, (setRow_other _ _ _ _ h3).trans h'.res, Var.put hx hv hn, below_setRow h'.low h1 xs, by rw [setRow_size]; exact h'.size⟩
theorem OfR.start {w w1 : World} {pa : S} {q1 q2 q3 q4 q5 : Option Addr} {q1c q2c q3c q4c q5c : Nat} (hx : PartsX (· < w.heap.size) pa (.slice q1 pa.con.length q1c) (.slice q2 pa.quo.length q2c) (.slice q3 pa.rst.length q3c) (.slice q4 pa.add.length q4c) (.slice q5 pa.set.length q5c) w)
    (hb1 : Below (w.heap.size + 2) ((w.alloc (.cells #[.string pa.disp, .string pa.lt, .string pa.col, .slice q1 pa.con.length q1c, .bool pa.nor, .bool pa.non, .slice q2 pa.quo.length q2c, .bool pa.aut, .slice q3 pa.rst.length q3c, .slice q4 pa.add.length q4c, .slice q5 pa.set.length q5c] 27)).alloc (.cells #[.string ⟨#[]⟩, .string ⟨#[]⟩, .string ⟨#[]⟩, .slice none 0 0, .bool false, .bool false, .slice none 0 0, .bool false, .slice none 0 0, .slice none 0 0, .slice none 0 0] 27)) w1) :
    OfR w w.heap.size (w.heap.size + 1) w1.heap.size pa startS (w1.alloc (.cells #[.string ⟨#[105, 110, 108, 105, 110, 101]⟩, .string ⟨#[100, 105, 115, 99]⟩, .string ⟨#[98, 108, 97, 99, 107]⟩, .slice none 0 0, .bool true, .bool false, .slice none 0 0, .bool true, .slice none 0 0, .slice none 0 0, .slice none 0 0] 27)) ∧ w.heap.size + 2 ≤ w1.heap.size := by
  obtain ⟨t1, t2, t3, t4⟩ := two_new w (.cells #[.string pa.disp, .string pa.lt, .string pa.col, .slice q1 pa.con.length q1c, .bool pa.nor, .bool pa.non, .slice q2 pa.quo.length q2c, .bool pa.aut, .slice q3 pa.rst.length q3c, .slice q4 pa.add.length q4c, .slice q5 pa.set.length q5c] 27) (.cells #[.string ⟨#[]⟩, .string ⟨#[]⟩, .string ⟨#[]⟩, .slice none 0 0, .bool false, .bool false, .slice none 0 0, .bool false, .slice none 0 0, .slice none 0 0, .slice none 0 0] 27)
  have s1 : w.heap.size + 2 ≤ w1.heap.size := by have := hb1.size; omega
  have a1 : Below w1.heap.size w1 (w1.alloc (.cells #[.string ⟨#[105, 110, 108, 105, 110, 101]⟩, .string ⟨#[100, 105, 115, 99]⟩, .string ⟨#[98, 108, 97, 99, 107]⟩, .slice none 0 0, .bool true, .bool false, .slice none 0 0, .bool true, .slice none 0 0, .slice none 0 0, .slice none 0 0] 27)) := (Below.refl _ w1).alloc (Nat.le_refl _) _
  have c1 : Below ((w.alloc (.cells #[.string pa.disp, .string pa.lt, .string pa.col, .slice q1 pa.con.length q1c, .bool pa.nor, .bool pa.non, .slice q2 pa.quo.length q2c, .bool pa.aut, .slice q3 pa.rst.length q3c, .slice q4 pa.add.length q4c, .slice q5 pa.set.length q5c] 27)).alloc (.cells #[.string ⟨#[]⟩, .string ⟨#[]⟩, .string ⟨#[]⟩, .slice none 0 0, .bool false, .bool false, .slice none 0 0, .bool false, .slice none 0 0, .slice none 0 0, .slice none 0 0] 27)).heap.size ((w.alloc (.cells #[.string pa.disp, .string pa.lt, .string pa.col, .slice q1 pa.con.length q1c, .bool pa.nor, .bool pa.non, .slice q2 pa.quo.length q2c, .bool pa.aut, .slice q3 pa.rst.length q3c, .slice q4 pa.add.length q4c, .slice q5 pa.set.length q5c] 27)).alloc (.cells #[.string ⟨#[]⟩, .string ⟨#[]⟩, .string ⟨#[]⟩, .slice none 0 0, .bool false, .bool false, .slice none 0 0, .bool false, .slice none 0 0, .slice none 0 0, .slice none 0 0] 27)) w1 := hb1.mono (by omega)
  have hpar : Var (apart3 w.heap.size (w.heap.size + 1) w1.heap.size) pa w.heap.size ((w.alloc (.cells #[.string pa.disp, .string pa.lt, .string pa.col, .slice q1 pa.con.length q1c, .bool pa.nor, .bool pa.non, .slice q2 pa.quo.length q2c, .bool pa.aut, .slice q3 pa.rst.length q3c, .slice q4 pa.add.length q4c, .slice q5 pa.set.length q5c] 27)).alloc (.cells #[.string ⟨#[]⟩, .string ⟨#[]⟩, .string ⟨#[]⟩, .slice none 0 0, .bool false, .bool false, .slice none 0 0, .bool false, .slice none 0 0, .slice none 0 0, .slice none 0 0] 27)) :=
    ⟨q1, q1c, q2, q2c, q3, q3c, q4, q4c, q5, q5c, t1, (hx.below t4).mono fun g _ h => ⟨by omega, by omega, by omega⟩⟩
  have hcu : Var (apart3 w.heap.size (w.heap.size + 1) w1.heap.size) startS w1.heap.size (w1.alloc (.cells #[.string ⟨#[105, 110, 108, 105, 110, 101]⟩, .string ⟨#[100, 105, 115, 99]⟩, .string ⟨#[98, 108, 97, 99, 107]⟩, .slice none 0 0, .bool true, .bool false, .slice none 0 0, .bool true, .slice none 0 0, .slice none 0 0, .slice none 0 0] 27)) :=
    ⟨none, 0, none, 0, none, 0, none, 0, none, 0, new_heap _ _, ⟨.nil _ _, .nil _ _, .nil _ _, .nil _ _, .nil _ _⟩⟩
  have k2 : w.heap.size + 1 < w1.heap.size := by omega
  refine ⟨⟨(hpar.below c1).below a1, ?_, hcu, ?_, by rw [World.size_alloc]; omega⟩, s1⟩
  · exact (a1.block _ k2).trans ((c1.block _ (by omega)).trans t2)
  · exact t4.trans ((hb1.trans (a1.mono s1)).mono (by omega))
def LoopR1 (w : World) (bp br bs bn : Nat) (pa : S) (s9 : Value) (wr : World) : Prop :=
  ∃ j : Nat, j ≤ 8 ∧ s9 = .int .i64 (j : Int) ∧ OfR w bp br bs pa (baseN pa j) wr ∧ wr.heap[bn]? = some (.cells #[.string ⟨#[99, 111, 108, 111, 114]⟩, .string ⟨#[99, 111, 110, 116, 101, 110, 116]⟩, .string ⟨#[99, 111, 117, 110, 116, 101, 114, 45, 105, 110, 99, 114, 101, 109, 101, 110, 116]⟩, .string ⟨#[99, 111, 117, 110, 116, 101, 114, 45, 114, 101, 115, 101, 116]⟩, .string ⟨#[99, 111, 117, 110, 116, 101, 114, 45, 115, 101, 116]⟩, .string ⟨#[100, 105, 115, 112, 108, 97, 121]⟩, .string ⟨#[108, 105, 115, 116, 45, 115, 116, 121, 108, 101, 45, 116, 121, 112, 101]⟩, .string ⟨#[113, 117, 111, 116, 101, 115]⟩] 9 (0, 0))
def LoopR2 (w : World) (bp br bs : Nat) (p : Int) (pa : S) (l : List Wn) (s10 : Value) (wr : World) : Prop :=
  ∃ j : Nat, j ≤ l.length ∧ s10 = .int .i64 (j : Int) ∧ OfR w bp br bs pa (ofS p pa (l.take j)) wr
theorem rstart_x (w : World) : Calls Tryz.prog 15 #[] w fun e w' => e = .returned (.agg #[.string startS.disp, .string startS.lt, .string startS.col, .slice none startS.con.length 0, .bool startS.nor, .bool startS.non, .slice none startS.quo.length 0, .bool startS.aut, .slice none startS.rst.length 0, .slice none startS.add.length 0, .slice none startS.set.length 0]) ∧ Below w.heap.size w w' := rstart_c w
theorem start_parts (ok : Nat → Prop) (w : World) : PartsX ok startS (.slice none startS.con.length 0) (.slice none startS.quo.length 0) (.slice none startS.rst.length 0) (.slice none startS.add.length 0) (.slice none startS.set.length 0) w := ⟨.nil _ _, .nil _ _, .nil _ _, .nil _ _, .nil _ _⟩
set_option maxHeartbeats 16000000 in
set_option maxRecDepth 100000 in
theorem rof_c (p : Int) (pa : S) (vc vq vr va vs : Value) (l : List Wn) (lv : Value) (w : World) (hln : l.length ≤ 1000) (hk : ∀ x ∈ l, NmIs x.k x.name) (hw : WonAt l lv w) (hp : Parts pa vc vq vr va vs w) :
    Calls Tryz.prog 9 #[lv, .int .i64 p, .agg #[.string pa.disp, .string pa.lt, .string pa.col, vc, .bool pa.nor, .bool pa.non, vq, .bool pa.aut, vr, va, vs]] w fun e w' => ∃ v', e = .returned v' ∧ StyV (ofS p pa l) v' w' ∧ Below w.heap.size w w' := by
  have hx := PartsX.of_at hp
  obtain ⟨q1, q1c, q2, q2c, q3, q3c, q4, q4c, q5, q5c, rfl, rfl, rfl, rfl, rfl⟩ := hx.open
  clear hp
  have HW := Lib.hid hw
  obtain ⟨pw, cw, rfl, _⟩ := hw
  obtain ⟨t1, t2, t3, t4⟩ := two_new w (.cells #[.string pa.disp, .string pa.lt, .string pa.col, .slice q1 pa.con.length q1c, .bool pa.nor, .bool pa.non, .slice q2 pa.quo.length q2c, .bool pa.aut, .slice q3 pa.rst.length q3c, .slice q4 pa.add.length q4c, .slice q5 pa.set.length q5c] 27) (.cells #[.string ⟨#[]⟩, .string ⟨#[]⟩, .string ⟨#[]⟩, .slice none 0 0, .bool false, .bool false, .slice none 0 0, .bool false, .slice none 0 0, .slice none 0 0, .slice none 0 0] 27)
  have HX := Lib.hid hx
  have HK := Lib.hid hk
  have H3 := Lib.hid t3
  clear t1 t2 t3 t4 hx hk
  go_enter Tryz.func9, Tryz.ntmps9
  go_wp2_with (go_at_call 15; refine (rstart_c _).mono ?_)
  rintro e w1 ⟨rfl, hb1⟩
  rw [H3.out] at hb1
  obtain ⟨hO, s1⟩ := OfR.start HX.out hb1
  have HO := Lib.hid hO
  clear hb1 hO
  go_wp2_with (go_at_call 12; refine (rnames_c _).mono ?_)
  rintro e w3 ⟨rfl, rfl⟩
  have a3 : Below (w1.alloc (.cells #[.string ⟨#[105, 110, 108, 105, 110, 101]⟩, .string ⟨#[100, 105, 115, 99]⟩, .string ⟨#[98, 108, 97, 99, 107]⟩, .slice none 0 0, .bool true, .bool false, .slice none 0 0, .bool true, .slice none 0 0, .slice none 0 0, .slice none 0 0] 27)).heap.size (w1.alloc (.cells #[.string ⟨#[105, 110, 108, 105, 110, 101]⟩, .string ⟨#[100, 105, 115, 99]⟩, .string ⟨#[98, 108, 97, 99, 107]⟩, .slice none 0 0, .bool true, .bool false, .slice none 0 0, .bool true, .slice none 0 0, .slice none 0 0, .slice none 0 0] 27)) ((w1.alloc (.cells #[.string ⟨#[105, 110, 108, 105, 110, 101]⟩, .string ⟨#[100, 105, 115, 99]⟩, .string ⟨#[98, 108, 97, 99, 107]⟩, .slice none 0 0, .bool true, .bool false, .slice none 0 0, .bool true, .slice none 0 0, .slice none 0 0, .slice none 0 0] 27)).alloc (.cells #[.string ⟨#[99, 111, 108, 111, 114]⟩, .string ⟨#[99, 111, 110, 116, 101, 110, 116]⟩, .string ⟨#[99, 111, 117, 110, 116, 101, 114, 45, 105, 110, 99, 114, 101, 109, 101, 110, 116]⟩, .string ⟨#[99, 111, 117, 110, 116, 101, 114, 45, 114, 101, 115, 101, 116]⟩, .string ⟨#[99, 111, 117, 110, 116, 101, 114, 45, 115, 101, 116]⟩, .string ⟨#[100, 105, 115, 112, 108, 97, 121]⟩, .string ⟨#[108, 105, 115, 116, 45, 115, 116, 121, 108, 101, 45, 116, 121, 112, 101]⟩, .string ⟨#[113, 117, 111, 116, 101, 115]⟩] 9)) := (Below.refl _ _).alloc (Nat.le_refl _) _
  have hO3 := HO.out.below a3
  have hN3 := new_heap (w1.alloc (.cells #[.string ⟨#[105, 110, 108, 105, 110, 101]⟩, .string ⟨#[100, 105, 115, 99]⟩, .string ⟨#[98, 108, 97, 99, 107]⟩, .slice none 0 0, .bool true, .bool false, .slice none 0 0, .bool true, .slice none 0 0, .slice none 0 0, .slice none 0 0] 27)) (.cells #[.string ⟨#[99, 111, 108, 111, 114]⟩, .string ⟨#[99, 111, 110, 116, 101, 110, 116]⟩, .string ⟨#[99, 111, 117, 110, 116, 101, 114, 45, 105, 110, 99, 114, 101, 109, 101, 110, 116]⟩, .string ⟨#[99, 111, 117, 110, 116, 101, 114, 45, 114, 101, 115, 101, 116]⟩, .string ⟨#[99, 111, 117, 110, 116, 101, 114, 45, 115, 101, 116]⟩, .string ⟨#[100, 105, 115, 112, 108, 97, 121]⟩, .string ⟨#[108, 105, 115, 116, 45, 115, 116, 121, 108, 101, 45, 116, 121, 112, 101]⟩, .string ⟨#[113, 117, 111, 116, 101, 115]⟩] 9)
  rw [World.size_alloc] at hN3
  have HO3 := Lib.hid hO3
  have HN3 := Lib.hid hN3
  clear a3 hO3 hN3 HO
  go_wp2_with fail
  go_loopw [9] (fun x9 wr => LoopR1 w w.heap.size (w.heap.size + 1) w1.heap.size (w1.heap.size + 1) pa x9 wr) (fun x9 _ => 8 - (intOf x9).toNat)
  case atStart => exact ⟨0, by omega, rfl, HO3.out, HN3.out⟩
  case round =>
    clear HO3 HN3
    obtain ⟨j, hj, rfl, hO, hN⟩ := hrel
    by_cases hlt : j < 8
    · have cn := names_cell hN hlt
      have hi := rinherits_c j (nmN j) wr (nm_is j hlt)
      have hbl : w1.heap.size + 1 < wr.heap.size := (Array.getElem?_eq_some_iff.1 hN).1
      have HO := Lib.hid hO
      have HN := Lib.hid hN
      clear hO hN
      obtain ⟨B, hB⟩ : ∃ B, baseN pa j = B := ⟨_, rfl⟩
      rw [hB] at HO
      have HBB := Lib.hid hB
      clear hB
      cases hin : inh j with
      | false =>
        rw [hin] at hi
        have HE : Hid (baseN pa (j + 1) = B) := Lib.hid (by rw [← HBB.out]; show (if inh j = true then _ else _) = _; rw [hin]; rfl)
        clear hin
        go_wp2_with (go_at_call 13; refine hi.mono ?_)
        rintro e w4 ⟨rfl, rfl⟩
        go_wp2_with fail
        go_roundw
        case rel => exact ⟨j + 1, by omega, by go_num, by rw [HE.out]; exact HO.out, HN.out⟩
        case measure => simp [intOf]; omega
      | true =>
        rw [hin] at hi
        have HE : Hid (baseN pa (j + 1) = take j B pa) := Lib.hid (by rw [← HBB.out]; show (if inh j = true then _ else _) = _; rw [hin]; rfl)
        clear hin
        obtain ⟨c1, c1c, c2, c2c, c3, c3c, c4, c4c, c5, c5c, hcur, pcur⟩ := HO.out.cur
        obtain ⟨d1, d1c, d2, d2c, d3, d3c, d4, d4c, d5, d5c, hpar, ppar⟩ := HO.out.par
        have cCU := Lib.cell_of_heap hcur
        have cPA := Lib.cell_of_heap hpar
        have HCU := Lib.hid hcur
        have hdr : Below wr.heap.size wr wr.drew := (Below.refl _ wr).drew
        have HPC := Lib.hid (pcur.below hdr)
        have HPP := Lib.hid (ppar.below hdr)
        have HOd := Lib.hid (HO.out.below hdr)
        clear hcur hpar pcur ppar hdr
        go_upto_region 7 with (first | (go_at_call 13; refine hi.mono ?_; rintro e w4 ⟨rfl, rfl⟩))
        clear hi
        go_region_law
          (go_simp; go_at_call 14; (with_reducible refine (rtake_c (apart3 w.heap.size (w.heap.size + 1) w1.heap.size) j B pa _ _ _ _ _ _ _ _ _ _ _ _ _ _ _ _ _ _ _ _ (nmN j) _ (nm_is j hlt) HPC.out HPP.out).mono ?_); rintro e w5 ⟨v', rfl, ⟨r1, r1c, r2, r2c, r3, r3c, r4, r4c, r5, r5c, rfl, hx5⟩, hb5'⟩; have hb5 : Below wr.heap.size wr.drew w5 := hb5'; clear hb5'; have hC5 := (hb5.block w1.heap.size (by omega)).trans HCU.out; have cC5 := Lib.cell_of_heap hC5; have fC5 := Lib.frozen_of_heap hC5; have HC5 := Lib.hid hC5; have HX5 := Lib.hid hx5; have HB5 := Lib.hid hb5; clear hC5 hx5 hb5)
        all_goals
          rw [set_row w5 _ _ _ _ _ _ _ _ _ _ _ _ _ _ _ HC5.out rfl]
          clear cC5 fC5 cCU cPA cn
          go_wp2_with fail
          go_roundw
          case rel =>
            refine ⟨j + 1, by omega, by go_num, ?_, (setRow_other _ _ _ _ (by omega)).trans ((HB5.out.block _ (by omega)).trans HN.out)⟩
            rw [HE.out]
            exact HOd.out.upd HB5.out ⟨_, _, _, _, _, _, _, _, _, _, rfl, HX5.out⟩ (by omega) (by omega) (by omega)
          case measure => simp [intOf]; omega
    · obtain rfl : j = 8 := by omega
      have HO := Lib.hid hO
      clear hO hN
      go_wp2_with fail
      go_loopw [10] (fun x10 wr => LoopR2 w w.heap.size (w.heap.size + 1) w1.heap.size p pa l x10 wr) (fun x10 _ => l.length - (intOf x10).toNat)
      case atStart => exact ⟨0, Nat.zero_le _, rfl, HO.out⟩
      case round =>
        clear HO
        rename World => wq
        obtain ⟨j, hj, rfl, hO⟩ := hrel
        by_cases hlt : j < l.length
        · obtain ⟨x, hx⟩ : ∃ x, l[j]? = some x := ⟨_, List.getElem?_eq_getElem hlt⟩
          have hofs := of_snoc p pa l j x hx
          have hkx := HK.out x (List.mem_of_getElem? hx)
          obtain ⟨pw', cw', hv, hc⟩ := HW.out
          simp only [Value.slice.injEq] at hv
          obtain ⟨rfl, _, rfl⟩ := hv
          obtain ⟨g, o, rfl, hg, hcells⟩ := hc (by omega)
          obtain ⟨e1, e1c, e2, e2c, e3, e3c, e4, e4c, e5, e5c, ⟨k0, k1, k2, k3, k4, k5, k6, k7, k8, k9, k10, k11, k12⟩, hpx⟩ := hcells j x hx
          have ew : ∀ i, wq.cell? ⟨g, i, none⟩ = w.cell? ⟨g, i, none⟩ := fun i => hO.low.cell (p := ⟨g, i, none⟩) hg
          rw [← ew] at k0 k1 k2 k3 k4 k5 k6 k7 k8 k9 k10 k11 k12
          replace hpx := hpx.below hO.low
          have hlow : ∀ g, g < w.heap.size → apart3 w.heap.size (w.heap.size + 1) w1.heap.size g := fun g h => ⟨by omega, by omega, by omega⟩
          clear ew
          obtain ⟨nx, kx, wd, sx⟩ := x
          dsimp only at hofs hkx k0 k1 k2 k3 k4 k5 k6 k7 k8 k9 k10 k11 k12 hpx
          obtain ⟨cu, hcu⟩ : ∃ cu, ofS p pa (l.take j) = cu := ⟨_, rfl⟩
          rw [hcu] at hO hofs
          have hal : Below wq.heap.size wq (wq.alloc (.cells #[.string nx, .int .i64 wd, .string sx.disp, .string sx.lt, .string sx.col, .slice e1 sx.con.length e1c, .bool sx.nor, .bool sx.non, .slice e2 sx.quo.length e2c, .bool sx.aut, .slice e3 sx.rst.length e3c, .slice e4 sx.add.length e4c, .slice e5 sx.set.length e5c] 33)) := (Below.refl _ wq).alloc (Nat.le_refl _) _
          have hOd := hO.below hal
          have hD := new_heap wq (.cells #[.string nx, .int .i64 wd, .string sx.disp, .string sx.lt, .string sx.col, .slice e1 sx.con.length e1c, .bool sx.nor, .bool sx.non, .slice e2 sx.quo.length e2c, .bool sx.aut, .slice e3 sx.rst.length e3c, .slice e4 sx.add.length e4c, .slice e5 sx.set.length e5c] 33)
          have ha := rallowed_c p kx nx (wq.alloc (.cells #[.string nx, .int .i64 wd, .string sx.disp, .string sx.lt, .string sx.col, .slice e1 sx.con.length e1c, .bool sx.nor, .bool sx.non, .slice e2 sx.quo.length e2c, .bool sx.aut, .slice e3 sx.rst.length e3c, .slice e4 sx.add.length e4c, .slice e5 sx.set.length e5c] 33)) hkx
          have HOD := Lib.hid hOd
          have HD := Lib.hid hD
          have HPX := Lib.hid ((hpx.mono (ok' := apart3 w.heap.size (w.heap.size + 1) w1.heap.size) fun g _ h => hlow g h).below hal)
          have HKX := Lib.hid hkx
          have HE := Lib.hid hofs
          clear hal hO hOd hD hpx hofs hkx hc hcells hx hcu hlow
          cases halw : alw p kx with
          | false =>
            rw [halw] at ha
            have HE2 : Hid (stepS p pa cu ⟨nx, kx, wd, sx⟩ = cu) := Lib.hid (by unfold stepS; rw [if_pos halw])
            clear halw
            go_wp2_with (go_at_call 28; refine ha.mono ?_)
            rintro e w4 ⟨rfl, hb4⟩
            go_wp2_with fail
            go_roundw
            case rel => (repeat apply Exists.intro); exact ⟨⟨j + 1, by omega, by go_num, by rw [HE.out, HE2.out]; exact HOD.out.below hb4⟩, rfl⟩
            case measure => simp [intOf]; omega
          | true =>
            rw [halw] at ha
            have hnf : ¬ alw p kx = false := by rw [halw]; simp
            have HNF := Lib.hid hnf
            clear halw hnf
            go_wp2_with (go_at_call 28; refine ha.mono ?_)
            rintro e w4 ⟨rfl, hb4⟩
            have hO4 := HOD.out.below hb4
            have hz0 : wq.heap.size < w4.heap.size := by have := hb4.size; rw [World.size_alloc] at this; omega
            have hD4 := (hb4.block wq.heap.size (by rw [World.size_alloc]; omega)).trans HD.out
            have cD4 := Lib.cell_of_heap hD4
            have HD4 := Lib.hid hD4
            have HPX4 := Lib.hid (HPX.out.below hb4)
            clear hD4 hb4 ha k0 k1 k2 k3 k4 k5 k6 k7 k8 k9 k10 k11 k12
            by_cases y0 : wd = 0
            · subst y0
              have HE2 : Hid (stepS p pa cu ⟨nx, kx, 0, sx⟩ = take kx cu sx) := Lib.hid (by unfold stepS; rw [if_neg HNF.out, if_pos rfl])
              have HO4 := Lib.hid hO4
              obtain ⟨c1, c1c, c2, c2c, c3, c3c, c4, c4c, c5, c5c, hcur, pcur⟩ := hO4.cur
              have HCU := Lib.hid hcur
              have HPC := Lib.hid pcur
              have hz4 : w1.heap.size < w4.heap.size := (Array.getElem?_eq_some_iff.1 hcur).1
              clear hO4 hcur pcur
              go_wp2_with (first | (refine wpList_load_row rfl 27 _ rfl w1.heap.size rfl 27 #[.string cu.disp, .string cu.lt, .string cu.col, .slice c1 cu.con.length c1c, .bool cu.nor, .bool cu.non, .slice c2 cu.quo.length c2c, .bool cu.aut, .slice c3 cu.rst.length c3c, .slice c4 cu.add.length c4c, .slice c5 cu.set.length c5c] (0, 0) _ HCU.out Tryz.underlying27 rfl (by kernel_rfl) ?_) | (go_at_call 14; (with_reducible refine (rtake_c (apart3 w.heap.size (w.heap.size + 1) w1.heap.size) kx cu sx _ _ _ _ _ _ _ _ _ _ _ _ _ _ _ _ _ _ _ _ nx _ HKX.out HPC.out HPX4.out).mono ?_)))
              rintro e w6 ⟨v6, rfl, ⟨r1, r1c, r2, r2c, r3, r3c, r4, r4c, r5, r5c, rfl, hx6⟩, hb6⟩
              have HC6 := Lib.hid ((hb6.block w1.heap.size hz4).trans HCU.out)
              have HX6 := Lib.hid hx6
              have HB6 := Lib.hid hb6
              clear hx6 hb6
              go_wp2_with (refine wpList_store_row rfl 27 _ _ rfl w1.heap.size _ rfl rfl 27 _ HC6.out (by kernel_rfl) rfl (by simp [Value.oneCell']) ?_)
              go_roundw
              case rel =>
                (repeat apply Exists.intro)
                refine ⟨⟨j + 1, by omega, by go_num, ?_⟩, rfl⟩
                rw [HE.out, HE2.out]
                exact HO4.out.upd HB6.out ⟨_, _, _, _, _, _, _, _, _, _, rfl, HX6.out⟩ (by omega) (by omega) (by omega)
              case measure => simp [intOf]; omega
            · have h0 : (wd == 0) = false := by simp [y0]
              by_cases y1 : wd = 1
              · subst y1
                have HE2 : Hid (stepS p pa cu ⟨nx, kx, 1, sx⟩ = take kx cu pa) := Lib.hid (by unfold stepS; rw [if_neg HNF.out, if_neg (show ¬ (1 : Int) = 0 by decide), if_pos (.inl rfl)])
                have HO4 := Lib.hid hO4
                obtain ⟨c1, c1c, c2, c2c, c3, c3c, c4, c4c, c5, c5c, hcur, pcur⟩ := hO4.cur
                have HCU := Lib.hid hcur
                have HPC := Lib.hid pcur
                have hz4 : w1.heap.size < w4.heap.size := (Array.getElem?_eq_some_iff.1 hcur).1
                obtain ⟨d1, d1c, d2, d2c, d3, d3c, d4, d4c, d5, d5c, hpar, ppar⟩ := hO4.par
                have HPR := Lib.hid hpar
                have HPP := Lib.hid ppar
                clear hO4 hcur pcur hpar ppar
                go_upto_region 17 with fail
                go_wp2_with (first | (refine wpList_load_row rfl 27 _ rfl w1.heap.size rfl 27 #[.string cu.disp, .string cu.lt, .string cu.col, .slice c1 cu.con.length c1c, .bool cu.nor, .bool cu.non, .slice c2 cu.quo.length c2c, .bool cu.aut, .slice c3 cu.rst.length c3c, .slice c4 cu.add.length c4c, .slice c5 cu.set.length c5c] (0, 0) _ HCU.out Tryz.underlying27 rfl (by kernel_rfl) ?_) | (refine wpList_load_row rfl 27 _ rfl w.heap.size rfl 27 #[.string pa.disp, .string pa.lt, .string pa.col, .slice d1 pa.con.length d1c, .bool pa.nor, .bool pa.non, .slice d2 pa.quo.length d2c, .bool pa.aut, .slice d3 pa.rst.length d3c, .slice d4 pa.add.length d4c, .slice d5 pa.set.length d5c] (0, 0) _ HPR.out Tryz.underlying27 rfl (by kernel_rfl) ?_) | (go_at_call 14; (with_reducible refine (rtake_c (apart3 w.heap.size (w.heap.size + 1) w1.heap.size) kx cu pa _ _ _ _ _ _ _ _ _ _ _ _ _ _ _ _ _ _ _ _ nx _ HKX.out HPC.out HPP.out).mono ?_)))
                rintro e w6 ⟨v6, rfl, ⟨r1, r1c, r2, r2c, r3, r3c, r4, r4c, r5, r5c, rfl, hx6⟩, hb6⟩
                have HC6 := Lib.hid ((hb6.block w1.heap.size hz4).trans HCU.out)
                have HX6 := Lib.hid hx6
                have HB6 := Lib.hid hb6
                clear hx6 hb6
                go_wp2_with (refine wpList_store_row rfl 27 _ _ rfl w1.heap.size _ rfl rfl 27 _ HC6.out (by kernel_rfl) rfl (by simp [Value.oneCell']) ?_)
                go_roundw
                case rel =>
                  (repeat apply Exists.intro)
                  refine ⟨⟨j + 1, by omega, by go_num, ?_⟩, rfl⟩
                  rw [HE.out, HE2.out]
                  exact HO4.out.upd HB6.out ⟨_, _, _, _, _, _, _, _, _, _, rfl, HX6.out⟩ (by omega) (by omega) (by omega)
                case measure => simp [intOf]; omega
              · have h1 : (wd == 1) = false := by simp [y1]
                by_cases y3 : wd = 3
                · subst y3
                  have hi := rinherits_c kx nx w4 HKX.out
                  cases hin : inh kx with
                  | true =>
                    rw [hin] at hi
                    have HE2 : Hid (stepS p pa cu ⟨nx, kx, 3, sx⟩ = take kx cu pa) := Lib.hid (by unfold stepS; rw [if_neg HNF.out, if_neg (show ¬ (3 : Int) = 0 by decide), if_pos (.inr ⟨rfl, hin⟩)])
                    clear hin
                    go_wp2_with (go_at_call 13; refine hi.mono ?_)
                    rintro e w5 ⟨rfl, rfl⟩
                    clear hi
                    have HO4 := Lib.hid hO4
                    obtain ⟨c1, c1c, c2, c2c, c3, c3c, c4, c4c, c5, c5c, hcur, pcur⟩ := hO4.cur
                    have HCU := Lib.hid hcur
                    have HPC := Lib.hid pcur
                    have hz4 : w1.heap.size < w4.heap.size := (Array.getElem?_eq_some_iff.1 hcur).1
                    obtain ⟨d1, d1c, d2, d2c, d3, d3c, d4, d4c, d5, d5c, hpar, ppar⟩ := hO4.par
                    have HPR := Lib.hid hpar
                    have HPP := Lib.hid ppar
                    clear hO4 hcur pcur hpar ppar
                    go_wp2_with (first | (refine wpList_load_row rfl 27 _ rfl w1.heap.size rfl 27 #[.string cu.disp, .string cu.lt, .string cu.col, .slice c1 cu.con.length c1c, .bool cu.nor, .bool cu.non, .slice c2 cu.quo.length c2c, .bool cu.aut, .slice c3 cu.rst.length c3c, .slice c4 cu.add.length c4c, .slice c5 cu.set.length c5c] (0, 0) _ HCU.out Tryz.underlying27 rfl (by kernel_rfl) ?_) | (refine wpList_load_row rfl 27 _ rfl w.heap.size rfl 27 #[.string pa.disp, .string pa.lt, .string pa.col, .slice d1 pa.con.length d1c, .bool pa.nor, .bool pa.non, .slice d2 pa.quo.length d2c, .bool pa.aut, .slice d3 pa.rst.length d3c, .slice d4 pa.add.length d4c, .slice d5 pa.set.length d5c] (0, 0) _ HPR.out Tryz.underlying27 rfl (by kernel_rfl) ?_) | (go_at_call 14; (with_reducible refine (rtake_c (apart3 w.heap.size (w.heap.size + 1) w1.heap.size) kx cu pa _ _ _ _ _ _ _ _ _ _ _ _ _ _ _ _ _ _ _ _ nx _ HKX.out HPC.out HPP.out).mono ?_)))
                    rintro e w6 ⟨v6, rfl, ⟨r1, r1c, r2, r2c, r3, r3c, r4, r4c, r5, r5c, rfl, hx6⟩, hb6⟩
                    have HC6 := Lib.hid ((hb6.block w1.heap.size hz4).trans HCU.out)
                    have HX6 := Lib.hid hx6
                    have HB6 := Lib.hid hb6
                    clear hx6 hb6
                    go_wp2_with (refine wpList_store_row rfl 27 _ _ rfl w1.heap.size _ rfl rfl 27 _ HC6.out (by kernel_rfl) rfl (by simp [Value.oneCell']) ?_)
                    go_roundw
                    case rel =>
                      (repeat apply Exists.intro)
                      refine ⟨⟨j + 1, by omega, by go_num, ?_⟩, rfl⟩
                      rw [HE.out, HE2.out]
                      exact HO4.out.upd HB6.out ⟨_, _, _, _, _, _, _, _, _, _, rfl, HX6.out⟩ (by omega) (by omega) (by omega)
                    case measure => simp [intOf]; omega
                  | false =>
                    rw [hin] at hi
                    have HE2 : Hid (stepS p pa cu ⟨nx, kx, 3, sx⟩ = take kx cu startS) := Lib.hid (by unfold stepS; rw [if_neg HNF.out, if_neg (show ¬ (3 : Int) = 0 by decide), if_neg (show ¬ ((3 : Int) = 1 ∨ ((3 : Int) = 3 ∧ inh kx = true)) from fun h => h.elim (by decide) fun h => by rw [hin] at h; exact absurd h.2 (by decide))])
                    clear hin
                    have HO4 := Lib.hid hO4
                    obtain ⟨c1, c1c, c2, c2c, c3, c3c, c4, c4c, c5, c5c, hcur, pcur⟩ := hO4.cur
                    have cCU := Lib.cell_of_heap hcur
                    have HCU := Lib.hid hcur
                    have hz4 : w1.heap.size < w4.heap.size := (Array.getElem?_eq_some_iff.1 hcur).1
                    have hdr : Below w4.heap.size w4 w4.drew := (Below.refl _ w4).drew
                    have HPC := Lib.hid (pcur.below hdr)
                    have HOd := Lib.hid (hO4.below hdr)
                    clear hO4 hcur pcur hdr
                    go_upto_region 13 with (first | (go_at_call 13; refine hi.mono ?_; rintro e w5 ⟨rfl, rfl⟩))
                    clear hi
                    go_region_law
                      (first
                        | (go_simp; go_at_call 15; (with_reducible refine (rstart_x _).mono ?_); rintro e w5 ⟨rfl, hb5'⟩; have hb5 : Below w4.heap.size w4.drew w5 := hb5'; clear hb5'; have hC5 := (hb5.block w1.heap.size hz4).trans HCU.out; have cC5 := Lib.cell_of_heap hC5; have cD5 := Lib.cell_of_heap ((hb5.block wq.heap.size hz0).trans HD4.out); have HC5 := Lib.hid hC5; have HB5 := Lib.hid hb5; have hz5 : w1.heap.size < w5.heap.size := Nat.lt_of_lt_of_le hz4 hb5.size; clear hC5 hb5)
                        | (go_simp; go_at_call 14; (with_reducible refine (rtake_c (apart3 w.heap.size (w.heap.size + 1) w1.heap.size) kx cu startS _ _ _ _ _ _ _ _ _ _ _ _ _ _ _ _ _ _ _ _ nx _ HKX.out (HPC.out.belowD HB5.out) (start_parts _ _)).mono ?_); rintro e w6 ⟨v6, rfl, ⟨r1, r1c, r2, r2c, r3, r3c, r4, r4c, r5, r5c, rfl, hx6⟩, hb6⟩; have hC6 := (hb6.block w1.heap.size hz5).trans HC5.out; have cC6 := Lib.cell_of_heap hC6; have fC6 := Lib.frozen_of_heap hC6; have HC6 := Lib.hid hC6; have HX6 := Lib.hid hx6; have HB6 := Lib.hid hb6; clear hC6 hx6 hb6))
                    all_goals
                      rw [set_row w6 _ _ _ _ _ _ _ _ _ _ _ _ _ _ _ HC6.out rfl]
                      clear cC6 fC6 cCU cC5 cD5
                      go_wp2_with fail
                      go_roundw
                      case rel =>
                        (repeat apply Exists.intro)
                        refine ⟨⟨j + 1, by omega, by go_num, ?_⟩, rfl⟩
                        rw [HE.out, HE2.out]
                        exact (HOd.out.below HB5.out).upd HB6.out ⟨_, _, _, _, _, _, _, _, _, _, rfl, HX6.out⟩ (by omega) (by omega) (by omega)
                      case measure => simp [intOf]; omega
                · have h3 : (wd == 3) = false := by simp [y3]
                  have HE2 : Hid (stepS p pa cu ⟨nx, kx, wd, sx⟩ = take kx cu startS) := Lib.hid (by unfold stepS; rw [if_neg HNF.out, if_neg y0, if_neg (show ¬ (wd = 1 ∨ (wd = 3 ∧ inh kx = true)) from fun h => h.elim y1 fun h => y3 h.1)])
                  clear y0 y1 y3
                  have HO4 := Lib.hid hO4
                  obtain ⟨c1, c1c, c2, c2c, c3, c3c, c4, c4c, c5, c5c, hcur, pcur⟩ := hO4.cur
                  have cCU := Lib.cell_of_heap hcur
                  have HCU := Lib.hid hcur
                  have hz4 : w1.heap.size < w4.heap.size := (Array.getElem?_eq_some_iff.1 hcur).1
                  have hdr : Below w4.heap.size w4 w4.drew := (Below.refl _ w4).drew
                  have HPC := Lib.hid (pcur.below hdr)
                  have HOd := Lib.hid (hO4.below hdr)
                  clear hO4 hcur pcur hdr
                  go_upto_region 13 with fail
                  go_region_law
                    (first
                      | (go_simp; go_at_call 15; (with_reducible refine (rstart_x _).mono ?_); rintro e w5 ⟨rfl, hb5'⟩; have hb5 : Below w4.heap.size w4.drew w5 := hb5'; clear hb5'; have hC5 := (hb5.block w1.heap.size hz4).trans HCU.out; have cC5 := Lib.cell_of_heap hC5; have cD5 := Lib.cell_of_heap ((hb5.block wq.heap.size hz0).trans HD4.out); have HC5 := Lib.hid hC5; have HB5 := Lib.hid hb5; have hz5 : w1.heap.size < w5.heap.size := Nat.lt_of_lt_of_le hz4 hb5.size; clear hC5 hb5)
                      | (go_simp; go_at_call 14; (with_reducible refine (rtake_c (apart3 w.heap.size (w.heap.size + 1) w1.heap.size) kx cu startS _ _ _ _ _ _ _ _ _ _ _ _ _ _ _ _ _ _ _ _ nx _ HKX.out (HPC.out.belowD HB5.out) (start_parts _ _)).mono ?_); rintro e w6 ⟨v6, rfl, ⟨r1, r1c, r2, r2c, r3, r3c, r4, r4c, r5, r5c, rfl, hx6⟩, hb6⟩; have hC6 := (hb6.block w1.heap.size hz5).trans HC5.out; have cC6 := Lib.cell_of_heap hC6; have fC6 := Lib.frozen_of_heap hC6; have HC6 := Lib.hid hC6; have HX6 := Lib.hid hx6; have HB6 := Lib.hid hb6; clear hC6 hx6 hb6))
                  all_goals
                    rw [set_row w6 _ _ _ _ _ _ _ _ _ _ _ _ _ _ _ HC6.out rfl]
                    clear cC6 fC6 cCU cC5 cD5
                    go_wp2_with fail
                    go_roundw
                    case rel =>
                      (repeat apply Exists.intro)
                      refine ⟨⟨j + 1, by omega, by go_num, ?_⟩, rfl⟩
                      rw [HE.out, HE2.out]
                      exact (HOd.out.below HB5.out).upd HB6.out ⟨_, _, _, _, _, _, _, _, _, _, rfl, HX6.out⟩ (by omega) (by omega) (by omega)
                    case measure => simp [intOf]; omega
        · obtain rfl : j = l.length := by omega
          rw [List.take_length] at hO
          obtain ⟨c1, c1c, c2, c2c, c3, c3c, c4, c4c, c5, c5c, hcur, pcur⟩ := hO.cur
          have HO := Lib.hid hO
          have HCU := Lib.hid hcur
          have HPC := Lib.hid pcur
          have HR := Lib.hid hO.res
          clear hO hcur pcur
          obtain ⟨cu, hcu⟩ : ∃ cu, ofS p pa l = cu := ⟨_, rfl⟩
          rw [hcu] at HCU HPC
          have HCC := Lib.hid hcu
          clear hcu
          go_wp2_with (first | (refine wpList_load_row rfl 27 _ rfl w1.heap.size rfl 27 #[.string cu.disp, .string cu.lt, .string cu.col, .slice c1 cu.con.length c1c, .bool cu.nor, .bool cu.non, .slice c2 cu.quo.length c2c, .bool cu.aut, .slice c3 cu.rst.length c3c, .slice c4 cu.add.length c4c, .slice c5 cu.set.length c5c] (0, 0) _ HCU.out Tryz.underlying27 rfl (by kernel_rfl) ?_) | (refine wpList_store_row rfl 27 _ _ rfl (w.heap.size + 1) _ rfl rfl 27 _ HR.out (by kernel_rfl) rfl (by simp [Value.oneCell']) ?_))
          (try simp only [Exit.inBlock, Exit.then])
          refine bodyPost_ret (results_cell_row (g := w.heap.size + 1) (t := 27) (cs := #[.string cu.disp, .string cu.lt, .string cu.col, .slice c1 cu.con.length c1c, .bool cu.nor, .bool cu.non, .slice c2 cu.quo.length c2c, .bool cu.aut, .slice c3 cu.rst.length c3c, .slice c4 cu.add.length c4c, .slice c5 cu.set.length c5c]) (fr := (0, 0)) rfl _ _ _ rfl (setRow_heap _ _ _ _ _ _ HR.out) Tryz.underlying27 rfl (by kernel_rfl)) rfl ?_
          exact ⟨_, rfl, by rw [HCC.out]; exact ⟨_, _, _, _, _, rfl, (HPC.out.row _ fun h => h.2.1 rfl).at⟩, below_setRow HO.out.low (by omega) _⟩
end Go.Proofs.YtkpoeilfnopgbaaGreatDoor.Sty
