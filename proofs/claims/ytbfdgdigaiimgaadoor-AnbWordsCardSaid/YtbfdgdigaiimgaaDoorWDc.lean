/- fleuronlaw5.AnbWords returns true and leaves its arguments as they were, for every input: the tied card (the library tables as their initialisers lay them). -/
import Derived.Test.YtbfdgdigaiimgaaDoorCards
import Derived.Test.YtbfdgdigaiimgaaDoorTie
import Derived.Test.YtbfdgdigaiimgaaDoorWDb
import Derived.Deep.DeepHandedRow
import Derived.Deep.DeepWitnessRowRef
namespace Go.Proofs.YtbfdgdigaiimgaaDoor.Sel
open Go.ChangeShapes Go.WideShapes Go.ChangeAt Go.RowKit

/-- what a row's end asks, where the call changed nothing below the heap's old end -/
theorem post_below {H : Type} {enc : TypeId × Value → H} {P : Program} {f : Func} {s : ChangeSpec} {apart fresh handsOn again : Bool} {W W' : World} {args : Array Value} {v : Value} {ds gs : List (DataW H)} {before pa pv : List MemPlace}
    (hW : DataW.Whole enc P f.params.toList s.vars apart W args.toList ds gs before)
    (hres : ∀ (b : Nat) (sp : Nat → Bool) (hd : Bool), DataW.TrodAll enc P W' b sp hd f.resultTypes.toList (v.resultList f.resultTypes.size) (s.fn H (ds ++ gs)).results [])
    (hargs : ∀ sp : Nat → Bool, (∀ p ∈ before, sp p.block = true) → DataW.TrodAll enc P W' 0 sp true f.params.toList args.toList (s.fn H (ds ++ gs)).args pa)
    (hvars : ∀ sp : Nat → Bool, (∀ p ∈ before, sp p.block = true) → DataW.TrodVars enc P W' sp s.vars (s.fn H (ds ++ gs)).vars pv)
    (hps : before = pa ++ pv) (hb : Below W.heap.size W W')
    (hok : ∀ (j : Nat) (t : TypeId) (r : Value), f.resultTypes[j]? = some t → (v.resultList f.resultTypes.size)[j]? = some r → Value.okWide P W' .any 0 t r) :
    s.post enc P f apart fresh handsOn again W args v W' := by
  have hlt := hW.lt
  have hold : ∀ p ∈ before, (fun b => decide (b < W.heap.size)) p.block = true := fun p hp => decide_eq_true (hlt p hp)
  refine ⟨ds, gs, before, [], pa, pv, hW, hres _ _ _, hargs _ hold, hvars _ hold, World.keptBut_mono (fun p hp => ⟨hp, .inr ?_⟩) (hb.frame (· ∈ before)), fun _ => ?_⟩
  · rw [hps, List.mem_append] at hp; exact hp
  · obtain ⟨_, _, _, _, _, hz, hn⟩ := hW
    refine ⟨hok, _, _, ([] ++ pa) ++ pv, ⟨[] ++ pa, pv, trodAll_append (hargs _ (fun _ _ => rfl)) (hres _ _ _), hvars _ (fun _ _ => rfl), rfl, fun b off hp => ?_, fun ha => ?_⟩, fun p hp _ => by rw [hps]; simpa using hp⟩
    · have hm : MemPlace.cell b off ∈ before := by rw [hps]; simpa using hp
      have hq : b < W.heap.size := hlt _ hm
      rw [hb.frozen (p := ⟨b, off, none⟩) hq]
      exact hz b off hm
    · have := hn ha
      rw [hps] at this
      simpa using this

theorem own : ownKnob Tryd.prog.godebug = none := by kernel_rfl

set_option maxRecDepth 100000 in
theorem contract (H : Type) (enc : TypeId × Value → H) (W : World) (base : Nat) (args : Array Value) (ds gs : List (DataW H)) (before : List MemPlace)
    (hval : ∀ (j : Nat) t v, Tryd.f4.params[j]? = some t → args[j]? = some v → Value.okWide Tryd.prog W .any base t v)
    (hW : DataW.Whole enc Tryd.prog Tryd.f4.params.toList Rows.anbWordsSpec.vars false W args.toList ds gs before) (hL : laidMetH Tryd.prog Rows.anbWordsRow.laid W) :
    Calls Tryd.prog 4 args W fun e W' => ∃ v, e = .returned v ∧ Rows.anbWordsSpec.post enc Tryd.prog Tryd.f4 false true false false W args v W' := by
  have hW' := hW
  obtain ⟨p, q, hA0, hV, rfl, hfz, hnd⟩ := hW
  have hA : DataW.TrodAll enc Tryd.prog W 0 (fun _ => true) true Tryd.f4.params.toList args.toList ds p := hA0
  rw [Tryd.params4] at hA hval
  obtain ⟨v0, vs0, d0, ds0, p0, q0, hargs, rfl, rfl, h0, r0⟩ := trodAll_cons hA
  obtain ⟨v1, vs1, d1, ds1, p1, q1, rfl, rfl, rfl, h1, r1⟩ := trodAll_cons r0
  obtain ⟨rfl, rfl, rfl⟩ := trodAll_nil r1
  obtain rfl : args = #[v0, v1] := by cases args; simp_all
  obtain ⟨rfl, rfl⟩ := trodVars_none hV
  obtain ⟨a0, rfl, rfl, rfl, w0⟩ := open_int Tryd.underlying3 (hval 0 3 v0 rfl rfl) h0
  obtain ⟨a1, rfl, rfl, rfl, w1⟩ := open_int Tryd.underlying3 (hval 1 3 v1 rfl rfl) h1
  clear hA0 hval
  simp only [List.append_nil] at hW'
  refine (walk_all a0 a1 (HM.table hL)).mono fun e W' ⟨he, hb⟩ => ?_
  subst he
  exact ⟨_, rfl, post_below (pa := []) (pv := []) hW' (fun _ _ _ => (trodAll_cons_mk (shut_bool Tryd.underlying4 _) trodAll_mk0)) (fun sp _ => (trodAll_cons_mk (shut_int Tryd.underlying3 w0) (trodAll_cons_mk (shut_int Tryd.underlying3 w1) trodAll_mk0))) (fun _ _ => rfl) rfl
    hb (ok_one (by kernel_rfl) rfl (okWide_bool_mk Tryd.underlying4 _))⟩

def litCell : DataW Unit → List Value
  | .lit (.int k n) => [.int k n]
  | _ => []
def rowCells : DataW Unit → List Value
  | .agg m => m.flatMap litCell
  | d => litCell d
/-- the cells that a datum of integers lays -/
def datCells : DataW Unit → List Value
  | .agg l => l.flatMap rowCells
  | _ => []
/-- a table's cells as they are laid; a pointer leads to the block of that number -/
def layCells (N : Nat) (d : DataW Unit) : Obj → Obj
  | .cells cs t fr => match d with
    | .ptr _ => .cells #[.pointer (some ⟨N + 1, 0, none⟩)] t fr
    | .agg _ => .cells (datCells d).toArray t fr
    | _ => .cells cs t fr
  | o => o
noncomputable def layOne (N : Nat) (h : Array Obj) (x : String × DataW Unit) : Array Obj :=
  match Tryd.prog.globalNamed x.1 with
  | some g => h.modify g (layCells N x.2)
  | none => h
def whiteCells : DataW Unit → List Value
  | .ptr (.agg (.slice l _ :: _)) => l.flatMap rowCells
  | _ => []

/-- a world for the witness: the tables hold what their initialisers lay -/
noncomputable def laidWorld (os : Os) : World :=
  let N := (World.settled Tryd.prog os).heap.size
  let w0 := World.holding Tryd.prog os ⟨#[.cells (whiteCells Rows.laid_unicode_White_Space).toArray 177, .cells #[.slice (some ⟨N, 0, none⟩) 7 7, .slice none 0 0, .int .i64 2] 174], #[], []⟩
  { w0 with heap := Rows.anbWordsRow.laid.foldl (layOne N) w0.heap }
def segs : List Nat → Nat → Nat → List MemPlace → Bool
  | _, _, _, [] => true
  | seen, b, o, .cell b' o' :: r => match Nat.beq b' b with
    | true => match Nat.ble o o' with
      | true => segs seen b (o' + 1) r
      | false => false
    | false => match seen.contains b' with
      | true => false
      | false => segs (b :: seen) b' (o' + 1) r
  | _, _, _, _ => false
theorem segs_ok : ∀ (l : List MemPlace) (seen : List Nat) (b o : Nat), segs seen b o l = true → l.Nodup ∧ ∀ p ∈ l, ∃ b' o', p = .cell b' o' ∧ ((b' = b ∧ o ≤ o') ∨ (b' ≠ b ∧ b' ∉ seen)) := by
  intro l
  induction l with
  | nil => intro seen b o _; exact ⟨List.nodup_nil, fun p hp => by cases hp⟩
  | cons q l ih =>
    intro seen b o h
    cases q with
    | cell b' o' =>
      simp only [segs] at h
      split at h
      · rename_i hb
        obtain rfl := Nat.eq_of_beq_eq_true hb
        split at h
        · rename_i ho
          have ho := Nat.le_of_ble_eq_true ho
          obtain ⟨h1, h2⟩ := ih _ _ _ h
          refine ⟨List.nodup_cons.2 ⟨fun hm => ?_, h1⟩, fun p hp => ?_⟩
          · obtain ⟨b2, o2, e, h3⟩ := h2 _ hm
            cases e
            rcases h3 with ⟨_, h3⟩ | ⟨h3, _⟩
            · omega
            · exact h3 rfl
          · rcases List.mem_cons.1 hp with e | e
            · exact ⟨_, _, e, .inl ⟨rfl, ho⟩⟩
            · obtain ⟨b2, o2, e, h3⟩ := h2 _ e
              refine ⟨b2, o2, e, ?_⟩
              rcases h3 with ⟨h3, h4⟩ | h3
              · exact .inl ⟨h3, by omega⟩
              · exact .inr h3
        · cases h
      · rename_i hb
        have hne : b' ≠ b := Nat.ne_of_beq_eq_false hb
        split at h
        · cases h
        · rename_i hs
          have hs : b' ∉ seen := by simpa using hs
          obtain ⟨h1, h2⟩ := ih _ _ _ h
          refine ⟨List.nodup_cons.2 ⟨fun hm => ?_, h1⟩, fun p hp => ?_⟩
          · obtain ⟨b2, o2, e, h3⟩ := h2 _ hm
            cases e
            rcases h3 with ⟨_, h3⟩ | ⟨h3, _⟩
            · omega
            · exact h3 rfl
          · rcases List.mem_cons.1 hp with e | e
            · exact ⟨_, _, e, .inr ⟨hne, hs⟩⟩
            · obtain ⟨b2, o2, e, h3⟩ := h2 _ e
              refine ⟨b2, o2, e, .inr ?_⟩
              rcases h3 with ⟨h3, h4⟩ | ⟨h3, h4⟩
              · subst h3; exact ⟨hne, hs⟩
              · simp only [List.mem_cons, not_or] at h4
                exact h4
    | _ => simp only [segs] at h; cases h
theorem laidMet_segs {P : Program} {w : World} {l : List (String × DataW Unit)} (fuel : Nat) (h : (DataW.laidRun P w fuel (l.map (·.1))).map (·.1) = some l)
    (hr : (DataW.laidRun P w fuel (l.map (·.1))).map (fun x => segs [] 1000000 0 x.2 && laidRowsB P w x.2) = some true) : laidMet P l w := by
  cases hx : DataW.laidRun P w fuel (l.map (·.1)) with
  | none => simp [hx] at h
  | some x =>
    obtain ⟨l', ps⟩ := x
    simp only [hx, Option.map_some, Option.some.injEq] at h hr
    subst h
    simp only [Bool.and_eq_true] at hr
    exact laidMet_of_run fuel hx (decide_eq_true (segs_ok _ _ _ _ hr.1).1) hr.2

theorem laid_met (os : Os) : laidMet Tryd.prog Rows.anbWordsRow.laid ((laidWorld os).forCall (fun _ _ => 0) ⟨#[], #[.int .i64 0, .int .i64 0], []⟩).memory :=
  laidMet_segs 10 (by kernel_rfl) (by kernel_rfl)
theorem reads (os : Os) {H : Type} (enc : TypeId × Value → H) : ∃ places, DataW.whole enc Tryd.prog ((laidWorld os).forCall (fun _ _ => 0) ⟨#[], #[.int .i64 0, .int .i64 0], []⟩).memory Tryd.f4.params.toList Rows.anbWordsSpec.vars false #[Value.int .i64 0, .int .i64 0].toList 8 = some ([.lit (.int .i64 0), .lit (.int .i64 0)], [], places) :=
  ⟨[], by kernel_rfl⟩

set_option maxRecDepth 100000 in
theorem lifted (os : Os) (started : os.Started) (H : Type) (enc : TypeId × Value → H) (F : Stop.Interp) :
    ReturnsInHanded {} Tryd.checked os 4 .any ((OpenSpec.ofChange Rows.anbWordsSpec).preRow enc Tryd.prog Tryd.f4 Rows.anbWordsRow.domain false Rows.anbWordsRow.laid) (((OpenSpec.ofChange Rows.anbWordsSpec).at F).post enc Tryd.prog Tryd.f4 false true false false) := by
  obtain ⟨places, hx⟩ := reads os enc
  refine returnsInHanded_of_row (C := Tryd.checked) (s := OpenSpec.ofChange Rows.anbWordsSpec) own started (by kernel_rfl) Tryd.func4
    (witness_row_atRef (enc := enc) (C := Tryd.checked) false (laidWorld os) #[.int .i64 0, .int .i64 0] rfl (by kernel_rfl) (by kernel_rfl) (by kernel_rfl)
      (OpenSpec.preRow_of_cond 8 hx (by kernel_rfl) (fun k hk => by cases hk) (by kernel_rfl) (laid_met os))) ?_
  intro W base args ds gs before hval hW _ _ _ hL _ _
  exact contract H enc W base args ds gs before hval hW hL

theorem said : Rows.AnbWordsSaid :=
  OpenClaim.holds_of_cond 4 Tryd.f4 rfl rfl rfl rfl rfl rfl rfl ⟨rfl, rfl, rfl, rfl, rfl⟩ rfl rfl rfl rfl rfl (by kernel_rfl) Tryd.func4 (by kernel_rfl)
    (of_decide_eq_true (by kernel_rfl)) (by unfold Func.isWrapper; first | (rw [if_pos (by decide +kernel)]; kernel_rfl) | (rw [if_neg (by decide +kernel)]; exact ⟨rfl, rfl⟩))
    (fun os started H enc _ F => by rw [OpenClaim.pre_eq_preRow]; exact lifted os started H enc F)

theorem plain (f : FuncId) (fn : Func) (hf : Tryd.pinned.checked.prog.funcNamed "fleuron/fleuronlaw5.AnbWords" = some f) (hfn : Tryd.pinned.checked.prog.funcs[f]? = some fn) :
    true = Tryd.pinned.checked.prog.looks [] ∧ ∀ (j : Nat) t, fn.params[j]? = some t → Tryd.pinned.checked.prog.wantsStandIn t = false := by
  obtain rfl : f = 4 := Option.some.inj ((show Tryd.prog.funcNamed "fleuron/fleuronlaw5.AnbWords" = some 4 by kernel_rfl).symm.trans hf) |>.symm
  obtain rfl : fn = Tryd.f4 := (Option.some.inj (Tryd.func4.symm.trans hfn)).symm
  refine ⟨by kernel_rfl, fun j t ht => ?_⟩
  rw [Tryd.params4] at ht
  obtain rfl : t = 3 := by simpa using Array.mem_of_getElem? ht
  exact (show Tryd.prog.wantsStandIn 3 = false by kernel_rfl)

/-- the card -/
theorem card : Rows.AnbWordsCardSaid :=
  Claim7.holds_tied_plain_at .later [] _ _ _ _ said (fun _ h => by cases h) (by kernel_rfl) (fun _ h => by cases h) anbWords_row_tie rfl ⟨rfl, rfl⟩ (by kernel_rfl) rfl plain (by kernel_rfl)
end Go.Proofs.YtbfdgdigaiimgaaDoor.Sel
