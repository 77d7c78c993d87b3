/- fleuronlaw13.CascadeOrder returns true and leaves its argument as it was, for every input: the tied card (the library's tables as their initialisers lay them). -/
import Derived.Test.YtamgnggeckomkaaGreatDoorCards
import Derived.Test.YtamgnggeckomkaaGreatDoorTie
import Derived.Test.YtamgnggeckomkaaGreatDoorOR2
import Derived.Deep.DeepHandedRow
import Derived.Deep.DeepWitnessRowRef
namespace Go.Proofs.YtamgnggeckomkaaGreatDoor.Sel
open Go.ChangeShapes Go.WideShapes Go.ChangeAt Go.RowKit

/-- what a row's end asks, where the call changed nothing below the heap's old end -/
theorem post_below {H : Type} {enc : TypeId × Value → H} {P : Program} {f : Func} {s : ChangeSpec} {apart fresh handsOn again : Bool} {W W' : World} {args : Array Value} {v : Value} {ds gs : List (DataW H)} {before pa pv : List MemPlace}
    (hW : DataW.Whole enc P f.params.toList s.vars apart W args.toList ds gs before)
    (hres : ∀ (b : Nat) (sp : Nat → Bool) (hd : Bool), DataW.TrodAll enc P W' b sp hd f.resultTypes.toList (v.resultList f.resultTypes.size) (s.fn H (ds ++ gs)).results [])
    (hargs : ∀ sp : Nat → Bool, (∀ p ∈ before, sp p.block = true) → DataW.TrodAll enc P W' 0 sp true f.params.toList args.toList (s.fn H (ds ++ gs)).args pa)
    (hvars : ∀ sp : Nat → Bool, (∀ p ∈ before, sp p.block = true) → DataW.TrodVars enc P W' sp s.vars (s.fn H (ds ++ gs)).vars pv)
    (hps : before = pa ++ pv) (hb : Below W.heap.size W W')
    (hok : ∀ (j : Nat) (t : TypeId) (r : Value), f.resultTypes[j]? = some t → (v.resultList f.resultTypes.size)[j]? = some r → Value.okWide P W' .any 0 t r) :
    s.post enc P f apart fresh handsOn again W args v W' := by
  have hlt := hW.lt
  have hold : ∀ p ∈ before, (fun b => decide (b < W.heap.size)) p.block = true := fun p hp => decide_eq_true (hlt p hp)
  refine ⟨ds, gs, before, [], pa, pv, hW, hres _ _ _, hargs _ hold, hvars _ hold, World.keptBut_mono (fun p hp => ⟨hp, .inr ?_⟩) (hb.frame (· ∈ before)), fun _ => ?_⟩
  · rw [hps, List.mem_append] at hp; exact hp
  · obtain ⟨_, _, _, _, _, hz, hn⟩ := hW
    refine ⟨hok, _, _, ([] ++ pa) ++ pv, ⟨[] ++ pa, pv, trodAll_append (hargs _ (fun _ _ => rfl)) (hres _ _ _), hvars _ (fun _ _ => rfl), rfl, fun b off hp => ?_, fun ha => ?_⟩, fun p hp _ => by rw [hps]; simpa using hp⟩
    · have hm : MemPlace.cell b off ∈ before := by rw [hps]; simpa using hp
      have hq : b < W.heap.size := hlt _ hm
      rw [hb.frozen (p := ⟨b, off, none⟩) hq]
      exact hz b off hm
    · have := hn ha
      rw [hps] at this
      simpa using this

theorem cellsI : Tryz.prog.cellsOf 3 = 1 := by kernel_rfl
theorem cellsW : Tryz.prog.cellsOf 52 = 3 := by kernel_rfl
theorem cellsK : Tryz.prog.cellsOf 54 = 5 := by kernel_rfl

set_option maxRecDepth 100000 in
/-- a key, opened -/
theorem open_key {H : Type} {enc : TypeId × Value → H} {w : World} {base : Nat} {spare : Nat → Bool} {held : Bool} {r : Reach} {b0 : Nat} {v : Value} {d : DataW H} {p : List MemPlace}
    (hv : Value.okWide Tryz.prog w r b0 54 v) (h : DataW.Trod enc Tryz.prog w base spare held 54 v d p) :
    ∃ a0 a1 a2 a3 a4 : Int, v = HM.kV a0 a1 a2 a3 a4 ∧ d = .agg [.lit (.int .i64 a0), .agg [.lit (.int .i64 a1), .lit (.int .i64 a2), .lit (.int .i64 a3)], .lit (.int .i64 a4)] ∧ p = [] ∧
      (Lit.int .i64 a0).wf = true ∧ (Lit.int .i64 a1).wf = true ∧ (Lit.int .i64 a2).wf = true ∧ (Lit.int .i64 a3).wf = true ∧ (Lit.int .i64 a4).wf = true := by
  obtain ⟨cs, rfl, hsz⟩ := okWide_struct (fs := _) Tryz.underlying54 hv
  obtain ⟨fuel, hf⟩ := h
  obtain ⟨xs, n, _, hx, hl, hlen, hg⟩ := DataW.trod_struct Tryz.underlying54 hf
  rw [cellsK] at hsz
  obtain ⟨l⟩ := cs
  have hl : l.length = 5 := hsz
  match l, hl, xs, hlen with
  | [c0, c1, c2, c3, c4], _, [y0, y1, y2], _ =>
    have g0 := hg 0 _ rfl
    have g1 := hg 1 _ rfl
    have g2 := hg 2 _ rfl
    simp only [Value.cells, List.getElem?_cons_zero, List.getElem?_cons_succ] at g0 g1 g2
    obtain ⟨a0, e0, z0, w0⟩ := DataW.trod_int Tryz.underlying3 g0
    obtain ⟨a4, e4, z4, w4⟩ := DataW.trod_int Tryz.underlying3 g2
    obtain ⟨zs, m, _, hz, _, hzl, hzg⟩ := DataW.trod_array Tryz.underlying52 g1
    match zs, hzl with
    | [q0, q1, q2], _ =>
      have k0 := hzg 0 (by decide)
      have k1 := hzg 1 (by decide)
      have k2 := hzg 2 (by decide)
      simp only [cellsI, Nat.mul_one, List.drop_zero, List.getElem?_cons_zero, List.getElem?_cons_succ] at k0 k1 k2
      obtain ⟨a1, e1, z1, w1⟩ := DataW.trod_int Tryz.underlying3 k0
      obtain ⟨a2, e2, z2, w2⟩ := DataW.trod_int Tryz.underlying3 k1
      obtain ⟨a3, e3, z3, w3⟩ := DataW.trod_int Tryz.underlying3 k2
      cases e0; cases e1; cases e2; cases e3; cases e4
      cases z0; cases z1; cases z2; cases z3; cases hz; cases z4; cases hx
      exact ⟨a0, a1, a2, a3, a4, rfl, rfl, rfl, w0, w1, w2, w3, w4⟩
theorem shut_key {H : Type} {enc : TypeId × Value → H} {w : World} {base : Nat} {spare : Nat → Bool} {held : Bool} {a0 a1 a2 a3 a4 : Int}
    (w0 : (Lit.int .i64 a0).wf = true) (w1 : (Lit.int .i64 a1).wf = true) (w2 : (Lit.int .i64 a2).wf = true) (w3 : (Lit.int .i64 a3).wf = true) (w4 : (Lit.int .i64 a4).wf = true) :
    DataW.Trod enc Tryz.prog w base spare held 54 (HM.kV a0 a1 a2 a3 a4) (.agg [.lit (.int .i64 a0), .agg [.lit (.int .i64 a1), .lit (.int .i64 a2), .lit (.int .i64 a3)], .lit (.int .i64 a4)]) [] := by
  refine ⟨3, ?_⟩
  simp [DataW.trod, Value.cells, Tryz.underlying54, Tryz.underlying52, Tryz.underlying3, cellsI, cellsW, cellsK, show List.range 3 = [0, 1, 2] from rfl, w0, w1, w2, w3, w4]
theorem in_of {n : Int} (h : (Lit.int .i64 n).wf = true) : HM.In n := by
  have e1 : IntKind.i64.min = -9223372036854775808 := rfl
  have e2 : IntKind.i64.max = 9223372036854775807 := rfl
  simp only [Lit.wf, Bool.and_eq_true, decide_eq_true_eq] at h
  rw [e1, e2] at h
  exact h

theorem own : ownKnob Tryz.prog.godebug = none := by kernel_rfl

set_option maxRecDepth 100000 in
theorem contract (H : Type) (enc : TypeId × Value → H) (W : World) (base : Nat) (args : Array Value) (ds gs : List (DataW H)) (before : List MemPlace)
    (hval : ∀ (j : Nat) t v, Tryz.f5.params[j]? = some t → args[j]? = some v → Value.okWide Tryz.prog W .any base t v)
    (hW : DataW.Whole enc Tryz.prog Tryz.f5.params.toList Rows.cascadeOrderSpec.vars false W args.toList ds gs before) (hL : laidMetH Tryz.prog Rows.cascadeOrderRow.laid W) :
    Calls Tryz.prog 5 args W fun e W' => ∃ v, e = .returned v ∧ Rows.cascadeOrderSpec.post enc Tryz.prog Tryz.f5 false true false false W args v W' := by
  have hW' := hW
  obtain ⟨p, q, hA0, hV, rfl, hfz, hnd⟩ := hW
  have hA : DataW.TrodAll enc Tryz.prog W 0 (fun _ => true) true Tryz.f5.params.toList args.toList ds p := hA0
  rw [Tryz.params5] at hA hval
  obtain ⟨v0, vs0, d0, ds0, p0, q0, hargs, rfl, rfl, h0, r0⟩ := trodAll_cons hA
  obtain ⟨v1, vs1, d1, ds1, p1, q1, rfl, rfl, rfl, h1, r1⟩ := trodAll_cons r0
  obtain ⟨v2, vs2, d2, ds2, p2, q2, rfl, rfl, rfl, h2, r2⟩ := trodAll_cons r1
  obtain ⟨rfl, rfl, rfl⟩ := trodAll_nil r2
  obtain rfl : args = #[v0, v1, v2] := by cases args; simp_all
  obtain ⟨rfl, rfl⟩ := trodVars_none hV
  obtain ⟨a0, a1, a2, a3, a4, rfl, rfl, rfl, wa0, wa1, wa2, wa3, wa4⟩ := open_key (hval 0 54 v0 rfl rfl) h0
  obtain ⟨b0, b1, b2, b3, b4, rfl, rfl, rfl, wb0, wb1, wb2, wb3, wb4⟩ := open_key (hval 1 54 v1 rfl rfl) h1
  obtain ⟨c0, c1, c2, c3, c4, rfl, rfl, rfl, wc0, wc1, wc2, wc3, wc4⟩ := open_key (hval 2 54 v2 rfl rfl) h2
  clear hA0 hval
  simp only [List.append_nil] at hW'
  refine (HM.order_all (in_of wa0) (in_of wa1) (in_of wa2) (in_of wa3) (in_of wa4) (in_of wb0) (in_of wb1) (in_of wb2) (in_of wb3) (in_of wb4) (in_of wc0) (in_of wc1) (in_of wc2) (in_of wc3) (in_of wc4) (HM.table (show laidMetH Tryz.prog Rows.computedPseudoRow.laid W from hL))).mono fun e W' ⟨he, hb⟩ => ?_
  subst he
  exact ⟨_, rfl, post_below (pa := []) (pv := []) hW' (fun _ _ _ => (trodAll_cons_mk (shut_bool Tryz.underlying4 _) trodAll_mk0)) (fun sp _ => (trodAll_cons_mk (shut_key wa0 wa1 wa2 wa3 wa4) (trodAll_cons_mk (shut_key wb0 wb1 wb2 wb3 wb4) (trodAll_cons_mk (shut_key wc0 wc1 wc2 wc3 wc4) trodAll_mk0)))) (fun _ _ => rfl) rfl
    hb (ok_one (by kernel_rfl) rfl (okWide_bool_mk Tryz.underlying4 _))⟩

def litCell : DataW Unit → List Value
  | .lit (.int k n) => [.int k n]
  | _ => []
def rowCells : DataW Unit → List Value
  | .agg m => m.flatMap litCell
  | d => litCell d
/-- the cells that a datum of integers lays -/
def datCells : DataW Unit → List Value
  | .agg l => l.flatMap rowCells
  | _ => []
/-- a table's cells as they are laid; a pointer leads to the block of that number -/
def layCells (N : Nat) (d : DataW Unit) : Obj → Obj
  | .cells cs t fr => match d with
    | .ptr _ => .cells #[.pointer (some ⟨N + 1, 0, none⟩)] t fr
    | .agg _ => .cells (datCells d).toArray t fr
    | _ => .cells cs t fr
  | o => o
noncomputable def layOne (N : Nat) (h : Array Obj) (x : String × DataW Unit) : Array Obj :=
  match Tryz.prog.globalNamed x.1 with
  | some g => h.modify g (layCells N x.2)
  | none => h
def whiteCells : DataW Unit → List Value
  | .ptr (.agg (.slice l _ :: _)) => l.flatMap rowCells
  | _ => []

/-- a world for the witness: the tables hold what their initialisers lay -/
noncomputable def laidWorld (os : Os) : World :=
  let N := (World.settled Tryz.prog os).heap.size
  let w0 := World.holding Tryz.prog os ⟨#[.cells (whiteCells Rows.laid_unicode_White_Space).toArray 247, .cells #[.slice (some ⟨N, 0, none⟩) 7 7, .slice none 0 0, .int .i64 2] 244], #[], []⟩
  { w0 with heap := Rows.cascadeOrderRow.laid.foldl (layOne N) w0.heap }
def segs : List Nat → Nat → Nat → List MemPlace → Bool
  | _, _, _, [] => true
  | seen, b, o, .cell b' o' :: r => match Nat.beq b' b with
    | true => match Nat.ble o o' with
      | true => segs seen b (o' + 1) r
      | false => false
    | false => match seen.contains b' with
      | true => false
      | false => segs (b :: seen) b' (o' + 1) r
  | _, _, _, _ => false
theorem segs_ok : ∀ (l : List MemPlace) (seen : List Nat) (b o : Nat), segs seen b o l = true → l.Nodup ∧ ∀ p ∈ l, ∃ b' o', p = .cell b' o' ∧ ((b' = b ∧ o ≤ o') ∨ (b' ≠ b ∧ b' ∉ seen)) := by
  intro l
  induction l with
  | nil => intro seen b o _; exact ⟨List.nodup_nil, fun p hp => by cases hp⟩
  | cons q l ih =>
    intro seen b o h
    cases q with
    | cell b' o' =>
      simp only [segs] at h
      split at h
      · rename_i hb
        obtain rfl := Nat.eq_of_beq_eq_true hb
        split at h
        · rename_i ho
          have ho := Nat.le_of_ble_eq_true ho
          obtain ⟨h1, h2⟩ := ih _ _ _ h
          refine ⟨List.nodup_cons.2 ⟨fun hm => ?_, h1⟩, fun p hp => ?_⟩
          · obtain ⟨b2, o2, e, h3⟩ := h2 _ hm
            cases e
            rcases h3 with ⟨_, h3⟩ | ⟨h3, _⟩
            · omega
            · exact h3 rfl
          · rcases List.mem_cons.1 hp with e | e
            · exact ⟨_, _, e, .inl ⟨rfl, ho⟩⟩
            · obtain ⟨b2, o2, e, h3⟩ := h2 _ e
              refine ⟨b2, o2, e, ?_⟩
              rcases h3 with ⟨h3, h4⟩ | h3
              · exact .inl ⟨h3, by omega⟩
              · exact .inr h3
        · cases h
      · rename_i hb
        have hne : b' ≠ b := Nat.ne_of_beq_eq_false hb
        split at h
        · cases h
        · rename_i hs
          have hs : b' ∉ seen := by simpa using hs
          obtain ⟨h1, h2⟩ := ih _ _ _ h
          refine ⟨List.nodup_cons.2 ⟨fun hm => ?_, h1⟩, fun p hp => ?_⟩
          · obtain ⟨b2, o2, e, h3⟩ := h2 _ hm
            cases e
            rcases h3 with ⟨_, h3⟩ | ⟨h3, _⟩
            · omega
            · exact h3 rfl
          · rcases List.mem_cons.1 hp with e | e
            · exact ⟨_, _, e, .inr ⟨hne, hs⟩⟩
            · obtain ⟨b2, o2, e, h3⟩ := h2 _ e
              refine ⟨b2, o2, e, .inr ?_⟩
              rcases h3 with ⟨h3, h4⟩ | ⟨h3, h4⟩
              · subst h3; exact ⟨hne, hs⟩
              · simp only [List.mem_cons, not_or] at h4
                exact h4
    | _ => simp only [segs] at h; cases h
theorem laidMet_segs {P : Program} {w : World} {l : List (String × DataW Unit)} (fuel : Nat) (h : (DataW.laidRun P w fuel (l.map (·.1))).map (·.1) = some l)
    (hr : (DataW.laidRun P w fuel (l.map (·.1))).map (fun x => segs [] 1000000 0 x.2 && laidRowsB P w x.2) = some true) : laidMet P l w := by
  cases hx : DataW.laidRun P w fuel (l.map (·.1)) with
  | none => simp [hx] at h
  | some x =>
    obtain ⟨l', ps⟩ := x
    simp only [hx, Option.map_some, Option.some.injEq] at h hr
    subst h
    simp only [Bool.and_eq_true] at hr
    exact laidMet_of_run fuel hx (decide_eq_true (segs_ok _ _ _ _ hr.1).1) hr.2

theorem laid_met (os : Os) : laidMet Tryz.prog Rows.cascadeOrderRow.laid ((laidWorld os).forCall (fun _ _ => 0) ⟨#[], #[HM.kV 0 0 0 0 0, HM.kV 0 0 0 0 0, HM.kV 0 0 0 0 0], []⟩).memory :=
  laidMet_segs 10 (by kernel_rfl) (by kernel_rfl)
theorem reads (os : Os) {H : Type} (enc : TypeId × Value → H) : ∃ places, DataW.whole enc Tryz.prog ((laidWorld os).forCall (fun _ _ => 0) ⟨#[], #[HM.kV 0 0 0 0 0, HM.kV 0 0 0 0 0, HM.kV 0 0 0 0 0], []⟩).memory Tryz.f5.params.toList Rows.cascadeOrderSpec.vars false #[HM.kV 0 0 0 0 0, HM.kV 0 0 0 0 0, HM.kV 0 0 0 0 0].toList 8 = some ([.agg [.lit (.int .i64 0), .agg [.lit (.int .i64 0), .lit (.int .i64 0), .lit (.int .i64 0)], .lit (.int .i64 0)], .agg [.lit (.int .i64 0), .agg [.lit (.int .i64 0), .lit (.int .i64 0), .lit (.int .i64 0)], .lit (.int .i64 0)], .agg [.lit (.int .i64 0), .agg [.lit (.int .i64 0), .lit (.int .i64 0), .lit (.int .i64 0)], .lit (.int .i64 0)]], [], places) :=
  ⟨[], by kernel_rfl⟩

set_option maxRecDepth 100000 in
theorem lifted (os : Os) (started : os.Started) (H : Type) (enc : TypeId × Value → H) (F : Stop.Interp) :
    ReturnsInHanded {} Tryz.checked os 5 .any ((OpenSpec.ofChange Rows.cascadeOrderSpec).preRow enc Tryz.prog Tryz.f5 Rows.cascadeOrderRow.domain false Rows.cascadeOrderRow.laid) (((OpenSpec.ofChange Rows.cascadeOrderSpec).at F).post enc Tryz.prog Tryz.f5 false true false false) := by
  obtain ⟨places, hx⟩ := reads os enc
  refine returnsInHanded_of_row (C := Tryz.checked) (s := OpenSpec.ofChange Rows.cascadeOrderSpec) own started (by kernel_rfl) Tryz.func5
    (witness_row_atRef (enc := enc) (C := Tryz.checked) false (laidWorld os) #[HM.kV 0 0 0 0 0, HM.kV 0 0 0 0 0, HM.kV 0 0 0 0 0] rfl (by kernel_rfl) (by kernel_rfl) (by kernel_rfl)
      (OpenSpec.preRow_of_cond 8 hx (by kernel_rfl) (fun k hk => by cases hk) (by kernel_rfl) (laid_met os))) ?_
  intro W base args ds gs before hval hW _ _ _ hL _ _
  exact contract H enc W base args ds gs before hval hW hL

theorem said : Rows.CascadeOrderSaid :=
  OpenClaim.holds_of_cond 5 Tryz.f5 rfl rfl rfl rfl rfl rfl rfl ⟨rfl, rfl, rfl, rfl, rfl⟩ rfl rfl rfl rfl rfl (by kernel_rfl) Tryz.func5 (by kernel_rfl)
    (of_decide_eq_true (by kernel_rfl)) (by unfold Func.isWrapper; first | (rw [if_pos (by decide +kernel)]; kernel_rfl) | (rw [if_neg (by decide +kernel)]; exact ⟨rfl, rfl⟩))
    (fun os started H enc _ F => by rw [OpenClaim.pre_eq_preRow]; exact lifted os started H enc F)

theorem plain (f : FuncId) (fn : Func) (hf : Tryz.pinned.checked.prog.funcNamed "fleuron/fleuronlaw13.CascadeOrder" = some f) (hfn : Tryz.pinned.checked.prog.funcs[f]? = some fn) :
    false = Tryz.pinned.checked.prog.looks [] ∧ ∀ (j : Nat) t, fn.params[j]? = some t → Tryz.pinned.checked.prog.wantsStandIn t = false := by
  obtain rfl : f = 5 := Option.some.inj ((show Tryz.prog.funcNamed "fleuron/fleuronlaw13.CascadeOrder" = some 5 by kernel_rfl).symm.trans hf) |>.symm
  obtain rfl : fn = Tryz.f5 := (Option.some.inj (Tryz.func5.symm.trans hfn)).symm
  refine ⟨by kernel_rfl, fun j t ht => ?_⟩
  rw [Tryz.params5] at ht
  obtain rfl : t = 54 := by simpa using Array.mem_of_getElem? ht
  exact (show Tryz.prog.wantsStandIn 54 = false by kernel_rfl)

/-- the card -/
theorem card : Rows.CascadeOrderCardSaid :=
  Claim7.holds_tied_plain_at .later [] _ _ _ _ said (fun _ h => by cases h) (by kernel_rfl) (fun _ h => by cases h) cascadeOrder_row_tie rfl ⟨rfl, rfl⟩ (by kernel_rfl) rfl plain (by kernel_rfl)
end Go.Proofs.YtamgnggeckomkaaGreatDoor.Sel
