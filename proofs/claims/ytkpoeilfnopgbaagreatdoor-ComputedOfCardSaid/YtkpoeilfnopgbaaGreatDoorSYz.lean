/- fleuronlaw14.ComputedOf: of any values and parent's style what holds is as the document says: true for all arguments. -/
import Derived.Test.YtkpoeilfnopgbaaGreatDoorCards
import Derived.Test.YtkpoeilfnopgbaaGreatDoorTie
import Derived.Test.YtkpoeilfnopgbaaGreatDoorSYt
import Derived.Test.YtkpoeilfnopgbaaGreatDoorUQP
import Derived.Test.YtkpoeilfnopgbaaGreatDoorPE
import Derived.Deep.DeepHandedRow
import Derived.ChangeSlices
import Derived.Carry
import Derived.Lay
import Derived.Deep.DeepWitnessRowRef
namespace Go.Proofs.YtkpoeilfnopgbaaGreatDoor.Sel
open Go.ChangeShapes Go.WideShapes Go.ChangeAt Go.RowKit
theorem post_below {H : Type} {enc : TypeId × Value → H} {P : Program} {f : Func} {s : ChangeSpec} {apart fresh handsOn again : Bool} {W W' : World} {args : Array Value} {v : Value} {ds gs : List (DataW H)} {before pa pv : List MemPlace}
    (hW : DataW.Whole enc P f.params.toList s.vars apart W args.toList ds gs before)
    (hres : ∀ (b : Nat) (sp : Nat → Bool) (hd : Bool), DataW.TrodAll enc P W' b sp hd f.resultTypes.toList (v.resultList f.resultTypes.size) (s.fn H (ds ++ gs)).results [])
    (hargs : ∀ sp : Nat → Bool, (∀ p ∈ before, sp p.block = true) → DataW.TrodAll enc P W' 0 sp true f.params.toList args.toList (s.fn H (ds ++ gs)).args pa)
    (hvars : ∀ sp : Nat → Bool, (∀ p ∈ before, sp p.block = true) → DataW.TrodVars enc P W' sp s.vars (s.fn H (ds ++ gs)).vars pv)
    (hps : before = pa ++ pv) (hb : Below W.heap.size W W')
    (hok : ∀ (j : Nat) (t : TypeId) (r : Value), f.resultTypes[j]? = some t → (v.resultList f.resultTypes.size)[j]? = some r → Value.okWide P W' .any 0 t r) :
    s.post enc P f apart fresh handsOn again W args v W' := by
  have hlt := hW.lt
  have hold : ∀ p ∈ before, (fun b => decide (b < W.heap.size)) p.block = true := fun p hp => decide_eq_true (hlt p hp)
  refine ⟨ds, gs, before, [], pa, pv, hW, hres _ _ _, hargs _ hold, hvars _ hold, World.keptBut_mono (fun p hp => ⟨hp, .inr ?_⟩) (hb.frame (· ∈ before)), fun _ => ?_⟩
  · rw [hps, List.mem_append] at hp; exact hp
  · obtain ⟨_, _, _, _, _, hz, hn⟩ := hW
    refine ⟨hok, _, _, ([] ++ pa) ++ pv, ⟨[] ++ pa, pv, trodAll_append (hargs _ (fun _ _ => rfl)) (hres _ _ _), hvars _ (fun _ _ => rfl), rfl, fun b off hp => ?_, fun ha => ?_⟩, fun p hp _ => by rw [hps]; simpa using hp⟩
    · have hm : MemPlace.cell b off ∈ before := by rw [hps]; simpa using hp
      have hq : b < W.heap.size := hlt _ hm
      rw [hb.frozen (p := ⟨b, off, none⟩) hq]
      exact hz b off hm
    · have := hn ha
      rw [hps] at this
      simpa using this
theorem own : ownKnob Tryz.prog.godebug = none := by kernel_rfl
theorem tabs_move {W w' : World} (h : HM.Tabs W) (hb : Below W.heap.size W w') : HM.Tabs w' := Lib.tabBelow_of_tabIs h w' hb
theorem tab_of {w : World} (h : HM.Tabs w) : Sty.Tab w := by
  unfold Sty.Tab
  rw [show Lib.asciiSpaceTab = HM.spaces by kernel_rfl]; exact h
theorem awk {W : World} (hT : HM.Tabs W) : Sty.Awk W := fun w hb => by
  letI : HM.Amb := HM.Amb.none
  exact HM.awake_c (tabs_move hT hb)
section
open Go.Deep
variable {H : Type} {enc : TypeId × Value → H} {w : World} {base : Nat} {spare : Nat → Bool} {held : Bool}
theorem open_wons {fuel : Nat} {v : Value} {x : DataW H × List MemPlace} (h : DataW.trod enc Tryz.prog w base spare held fuel 22 [v] = some x) :
    ∃ l : List Sty.Wn, l.length ≤ maxLen ∧ (∀ x ∈ l, Sty.NmIs x.k x.name ∧ Sty.Mx x.st ∧ x.name.size ≤ maxLen) ∧ Sty.WonAt l v w := by
  rcases open_slice Tryz.underlying22 h with ⟨hcs, _⟩ | ⟨a, len, cap, m, n, D, Pl, hcs, hb, hl, hm, hmm, hx, hi⟩
  · simp only [List.cons.injEq, and_true] at hcs
    exact ⟨[], Nat.zero_le _, fun x hx => absurd hx (by simp), none, 0, hcs, fun h => absurd h (by simp)⟩
  · simp only [List.cons.injEq, and_true] at hcs
    subst hcs
    have hC : Tryz.prog.cellsOf 32 = 13 := by kernel_rfl
    obtain ⟨l, hll, hq⟩ := Sty.list_of len (fun i (x : Sty.Wn) => Sty.NmIs x.k x.name ∧ Sty.Mx x.st ∧ x.name.size ≤ maxLen ∧ ∃ vc vq vr va vs, (∀ (j : Nat) u, (Sty.wn x vc vq vr va vs)[j]? = some u → w.cell? (a.add (i * 13 + j)) = some u) ∧ Sty.Parts x.st vc vq vr va vs w) (fun i hlt => by
      obtain ⟨cs', hc, ht⟩ := hi i (by rw [hmm]; split <;> omega)
      rw [hC] at hc
      obtain ⟨nx, wd, s, vc, vq, vr, va, vs, hcs', hz, hmx, hp⟩ := Sty.open_won ht
      obtain ⟨k, hk⟩ := Sty.nm_some nx
      obtain ⟨_, hcl, hat⟩ := World.cells?_some hc
      refine ⟨⟨nx, k, wd, s⟩, hk, hmx, hz, vc, vq, vr, va, vs, fun j u hj => ?_, hp⟩
      have hjl : j < 13 := (List.getElem?_eq_some_iff.1 hj).1
      rw [← Go.Deep.add_add, hat j hjl, hcs']
      exact hj)
    refine ⟨l, by omega, fun x hx => ?_, ?_⟩
    · obtain ⟨i, hi⟩ := List.getElem?_of_mem hx
      obtain ⟨h1, h2, h3, _⟩ := hq i x hi
      exact ⟨h1, h2, h3⟩
    · refine ⟨some a, cap, by rw [hll], fun hn => ?_⟩
      obtain ⟨x0, hx0⟩ : ∃ x, l[0]? = some x := ⟨_, List.getElem?_eq_getElem hn⟩
      obtain ⟨_, _, _, vc, vq, vr, va, vs, hc0, _⟩ := hq 0 x0 hx0
      have h0 := hc0 0 _ rfl
      obtain ⟨b, o, spot⟩ := a
      have hspot : spot = none := by simpa [Addr.add] using World.cell?_spot h0
      subst hspot
      refine ⟨b, o, rfl, ?_, fun j x hx => ?_⟩
      · rw [Go.WideShapes.add_plain] at h0; exact World.block_lt_of_cell? _ _ h0
      · obtain ⟨_, _, _, vc, vq, vr, va, vs, hc, hp⟩ := hq j x hx
        have hpx := Sty.PartsX.of_at hp
        obtain ⟨p1, c1, p2, c2, p3, c3, p4, c4, p5, c5, rfl, rfl, rfl, rfl, rfl⟩ := hpx.open
        have key : ∀ (i : Nat) u, (Sty.wn x (.slice p1 x.st.con.length c1) (.slice p2 x.st.quo.length c2) (.slice p3 x.st.rst.length c3) (.slice p4 x.st.add.length c4) (.slice p5 x.st.set.length c5))[i]? = some u → w.cell? ⟨b, o + j * 13 + i, none⟩ = some u := fun i u hu => by
          have := hc i u hu
          rw [Go.WideShapes.add_plain] at this
          rw [Nat.add_assoc]
          exact this
        exact ⟨p1, c1, p2, c2, p3, c3, p4, c4, p5, c5, ⟨key 0 _ rfl, key 1 _ rfl, key 2 _ rfl, key 3 _ rfl, key 4 _ rfl, key 5 _ rfl, key 6 _ rfl, key 7 _ rfl, key 8 _ rfl, key 9 _ rfl, key 10 _ rfl, key 11 _ rfl, key 12 _ rfl⟩, hpx⟩
end
set_option maxRecDepth 100000 in
theorem contract (H : Type) (enc : TypeId × Value → H) (W : World) (base : Nat) (args : Array Value) (ds gs : List (DataW H)) (before : List MemPlace)
    (hval : ∀ (j : Nat) t v, Tryz.f3.params[j]? = some t → args[j]? = some v → Value.okWide Tryz.prog W .any base t v)
    (hW : DataW.Whole enc Tryz.prog Tryz.f3.params.toList Rows.computedOfSpec.vars false W args.toList ds gs before) (hL : laidMetH Tryz.prog Rows.computedOfRow.laid W) :
    Calls Tryz.prog 3 args W fun e W' => ∃ v, e = .returned v ∧ Rows.computedOfSpec.post enc Tryz.prog Tryz.f3 false true false false W args v W' := by
  have hW' := hW
  obtain ⟨p, q, hA0, hV, rfl, hfz, hnd⟩ := hW
  have hA : DataW.TrodAll enc Tryz.prog W 0 (fun _ => true) true Tryz.f3.params.toList args.toList ds p := hA0
  rw [Tryz.params3] at hA hval
  obtain ⟨v0, vs0, d0, ds0, p0, q0, hargs, rfl, rfl, h0, r0⟩ := trodAll_cons hA
  obtain ⟨v1, vs1, d1, ds1, p1, q1, rfl, rfl, rfl, h1, r1⟩ := trodAll_cons r0
  obtain ⟨v2, vs2, d2, ds2, p2, q2, rfl, rfl, rfl, h2, r2⟩ := trodAll_cons r1
  obtain ⟨v3, vs3, d3, ds3, p3, q3, rfl, rfl, rfl, h3, r3⟩ := trodAll_cons r2
  obtain ⟨rfl, rfl, rfl⟩ := trodAll_nil r3
  obtain rfl : args = #[v0, v1, v2, v3] := by cases args; simp_all
  obtain ⟨rfl, rfl⟩ := trodVars_none hV
  have hkeep0 := h0
  have hkeep2 := h2
  have hkeep3 := h3
  obtain ⟨x0, len0, cap0, rfl⟩ := okWide_slice Tryz.underlying22 (hval 0 22 v0 rfl rfl)
  obtain ⟨a1, rfl, rfl, rfl, w1⟩ := open_int Tryz.underlying3 (hval 1 3 v1 rfl rfl) h1
  obtain ⟨⟨c2⟩, rfl, _⟩ := okWide_struct Tryz.underlying27 (hval 2 27 v2 rfl rfl)
  obtain ⟨⟨c3⟩, rfl, _⟩ := okWide_struct Tryz.underlying27 (hval 3 27 v3 rfl rfl)
  clear hA0 hval
  simp only [List.append_nil] at hW'
  have hT := HM.table hL
  have hwalk : Sty.GoodO (.slice x0 len0 cap0) a1 (.agg ⟨c2⟩) (.agg ⟨c3⟩) W := by
    obtain ⟨fu0, hf0⟩ := h0
    obtain ⟨fu2, hf2⟩ := h2
    obtain ⟨fu3, hf3⟩ := h3
    obtain ⟨l, hl, hlx, hw⟩ := open_wons (v := .slice x0 len0 cap0) hf0
    obtain ⟨pa, vc, vq, vr, va, vs, rfl, pm, pp⟩ := Sty.open_style (cs := c2) hf2
    obtain ⟨ob, uc, uq, ur, ua, us, rfl, gm, gp⟩ := Sty.open_style (cs := c3) hf3
    exact Sty.of_law l _ a1 pa ob _ _ _ _ _ _ _ _ _ _ W (tab_of hT) (awk hT) hl hlx hw pm gm pp gp
  have hlt0 : ∀ x ∈ p0, x.block < W.heap.size := fun x hx => hW'.lt x (by simp [hx])
  have hlt2 : ∀ x ∈ p2, x.block < W.heap.size := fun x hx => hW'.lt x (by simp [hx])
  have hlt3 : ∀ x ∈ p3, x.block < W.heap.size := fun x hx => hW'.lt x (by simp [hx])
  refine hwalk.mono fun e W' ⟨he, hb⟩ => ?_
  subst he
  exact ⟨_, rfl, post_below (pa := p0 ++ ([] ++ (p2 ++ (p3 ++ [])))) (pv := []) hW' (fun _ _ _ => (trodAll_cons_mk (shut_bool Tryz.underlying4 _) trodAll_mk0)) (fun sp hsp => (trodAll_cons_mk (WideElems.Trod_stays (by kernel_rfl) (by kernel_rfl) (of_decide_eq_true (by kernel_rfl)) hkeep0 (fun x hx => hb.same (hlt0 x hx)) (fun x hx => hsp x (by simp [hx]))) (trodAll_cons_mk (shut_int Tryz.underlying3 w1) (trodAll_cons_mk (WideElems.Trod_stays (by kernel_rfl) (by kernel_rfl) (of_decide_eq_true (by kernel_rfl)) hkeep2 (fun x hx => hb.same (hlt2 x hx)) (fun x hx => hsp x (by simp [hx]))) (trodAll_cons_mk (WideElems.Trod_stays (by kernel_rfl) (by kernel_rfl) (of_decide_eq_true (by kernel_rfl)) hkeep3 (fun x hx => hb.same (hlt3 x hx)) (fun x hx => hsp x (by simp [hx]))) trodAll_mk0))))) (fun _ _ => rfl) (by simp)
    hb (ok_one (by kernel_rfl) rfl (okWide_bool_mk Tryz.underlying4 _))⟩
noncomputable def laidWorld (os : Os) : World := World.laidAll Tryz.prog os Rows.computedOfRow.laid
theorem laid_met (os : Os) : laidMet Tryz.prog Rows.computedOfRow.laid ((laidWorld os).forCall (fun _ _ => 0) ⟨#[], #[.slice none 0 0, .int .i64 0, .agg #[.string ⟨#[]⟩, .string ⟨#[]⟩, .string ⟨#[]⟩, .slice none 0 0, .bool false, .bool false, .slice none 0 0, .bool false, .slice none 0 0, .slice none 0 0, .slice none 0 0], .agg #[.string ⟨#[]⟩, .string ⟨#[]⟩, .string ⟨#[]⟩, .slice none 0 0, .bool false, .bool false, .slice none 0 0, .bool false, .slice none 0 0, .slice none 0 0, .slice none 0 0]], []⟩).memory :=
  laidMet_laidAll _ (by kernel_rfl) (by kernel_rfl)
theorem reads (os : Os) {H : Type} (enc : TypeId × Value → H) : ∃ places, DataW.whole enc Tryz.prog ((laidWorld os).forCall (fun _ _ => 0) ⟨#[], #[.slice none 0 0, .int .i64 0, .agg #[.string ⟨#[]⟩, .string ⟨#[]⟩, .string ⟨#[]⟩, .slice none 0 0, .bool false, .bool false, .slice none 0 0, .bool false, .slice none 0 0, .slice none 0 0, .slice none 0 0], .agg #[.string ⟨#[]⟩, .string ⟨#[]⟩, .string ⟨#[]⟩, .slice none 0 0, .bool false, .bool false, .slice none 0 0, .bool false, .slice none 0 0, .slice none 0 0, .slice none 0 0]], []⟩).memory Tryz.f3.params.toList Rows.computedOfSpec.vars false #[Value.slice none 0 0, .int .i64 0, .agg #[.string ⟨#[]⟩, .string ⟨#[]⟩, .string ⟨#[]⟩, .slice none 0 0, .bool false, .bool false, .slice none 0 0, .bool false, .slice none 0 0, .slice none 0 0, .slice none 0 0], .agg #[.string ⟨#[]⟩, .string ⟨#[]⟩, .string ⟨#[]⟩, .slice none 0 0, .bool false, .bool false, .slice none 0 0, .bool false, .slice none 0 0, .slice none 0 0, .slice none 0 0]].toList 8 = some ([.nil, .lit (.int .i64 0), .agg [.lit (.string []), .lit (.string []), .lit (.string []), .nil, .lit (.bool false), .lit (.bool false), .nil, .lit (.bool false), .nil, .nil, .nil], .agg [.lit (.string []), .lit (.string []), .lit (.string []), .nil, .lit (.bool false), .lit (.bool false), .nil, .lit (.bool false), .nil, .nil, .nil]], [], places) :=
  ⟨[], by kernel_rfl⟩
set_option maxRecDepth 100000 in
theorem lifted (os : Os) (started : os.Started) (H : Type) (enc : TypeId × Value → H) (F : Stop.Interp) :
    ReturnsInHanded {} Tryz.checked os 3 .any ((OpenSpec.ofChange Rows.computedOfSpec).preRow enc Tryz.prog Tryz.f3 Rows.computedOfRow.domain false Rows.computedOfRow.laid) (((OpenSpec.ofChange Rows.computedOfSpec).at F).post enc Tryz.prog Tryz.f3 false true false false) := by
  obtain ⟨places, hx⟩ := reads os enc
  refine returnsInHanded_of_row (C := Tryz.checked) (s := OpenSpec.ofChange Rows.computedOfSpec) own started (by kernel_rfl) Tryz.func3
    (witness_row_atRef (enc := enc) (C := Tryz.checked) false (laidWorld os) #[.slice none 0 0, .int .i64 0, .agg #[.string ⟨#[]⟩, .string ⟨#[]⟩, .string ⟨#[]⟩, .slice none 0 0, .bool false, .bool false, .slice none 0 0, .bool false, .slice none 0 0, .slice none 0 0, .slice none 0 0], .agg #[.string ⟨#[]⟩, .string ⟨#[]⟩, .string ⟨#[]⟩, .slice none 0 0, .bool false, .bool false, .slice none 0 0, .bool false, .slice none 0 0, .slice none 0 0, .slice none 0 0]] (World.laidAll_os _ _ _) (by kernel_rfl) (by kernel_rfl) (by kernel_rfl)
      (OpenSpec.preRow_of_cond 8 hx (by kernel_rfl) (fun k hk => by cases hk) (by kernel_rfl) (laid_met os))) ?_
  intro W base args ds gs before hval hW _ _ _ hL _ _
  exact contract H enc W base args ds gs before hval hW hL
theorem said : Rows.ComputedOfSaid :=
  OpenClaim.holds_of_cond 3 Tryz.f3 rfl rfl rfl rfl rfl rfl rfl ⟨rfl, rfl, rfl, rfl, rfl⟩ rfl rfl rfl rfl rfl (by kernel_rfl) Tryz.func3 (by kernel_rfl)
    (of_decide_eq_true (by kernel_rfl)) (by unfold Func.isWrapper; first | (rw [if_pos (by decide +kernel)]; kernel_rfl) | (rw [if_neg (by decide +kernel)]; exact ⟨rfl, rfl⟩))
    (fun os started H enc _ F => by rw [OpenClaim.pre_eq_preRow]; exact lifted os started H enc F)
theorem plain (f : FuncId) (fn : Func) (hf : Tryz.pinned.checked.prog.funcNamed "fleuron/fleuronlaw14.ComputedOf" = some f) (hfn : Tryz.pinned.checked.prog.funcs[f]? = some fn) :
    false = Tryz.pinned.checked.prog.looks [] ∧ ∀ (j : Nat) t, fn.params[j]? = some t → Tryz.pinned.checked.prog.wantsStandIn t = false := by
  obtain rfl : f = 3 := Option.some.inj ((show Tryz.prog.funcNamed "fleuron/fleuronlaw14.ComputedOf" = some 3 by kernel_rfl).symm.trans hf) |>.symm
  obtain rfl : fn = Tryz.f3 := (Option.some.inj (Tryz.func3.symm.trans hfn)).symm
  refine ⟨by kernel_rfl, fun j t ht => ?_⟩
  rw [Tryz.params3] at ht
  have h3 : t = 22 ∨ t = 3 ∨ t = 27 ∨ t = 27 := by simpa using Array.mem_of_getElem? ht
  rcases h3 with rfl | rfl | rfl | rfl
  · exact (show Tryz.prog.wantsStandIn 22 = false by kernel_rfl)
  · exact (show Tryz.prog.wantsStandIn 3 = false by kernel_rfl)
  · exact (show Tryz.prog.wantsStandIn 27 = false by kernel_rfl)
  · exact (show Tryz.prog.wantsStandIn 27 = false by kernel_rfl)
theorem card : Rows.ComputedOfCardSaid :=
  Claim7.holds_tied_plain_at .later [] _ _ _ _ said (fun _ h => by cases h) (by kernel_rfl) (fun _ h => by cases h) computedOf_row_tie rfl ⟨rfl, rfl⟩ (by kernel_rfl) rfl plain (by kernel_rfl)
end Go.Proofs.YtkpoeilfnopgbaaGreatDoor.Sel
