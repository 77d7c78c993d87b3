/- The heap machine, 4: loads and stores. -/
import Derived.Test.YtbfdgdigaiimgaaDoorH3
namespace Go.Proofs.YtbfdgdigaiimgaaDoor.HM
open Go Go.RowKit

/-! ## Who else may lie there is forgotten -/

def killBut (k p : Nat) : List (Nat × Nat) → Tr Blk → List (Nat × Nat) × Tr Blk
  | [], t => ([], t)
  | (a, e) :: l, t => match Nat.ble e p with
    | true => ((a, e) :: l, t)
    | false => match Nat.beq a k with
      | true => match killBut k p l t with
        | (l', t') => ((a, e) :: l', t')
      | false => killBut k p l (t.put none a)

theorem killBut_spec (k p : Nat) : ∀ (l : List (Nat × Nat)) (t : Tr Blk) (l' : List (Nat × Nat)) (t' : Tr Blk), killBut k p l t = (l', t') →
    l'.Sublist l ∧ (∀ a x, t'.get a = some x → t.get a = some x) ∧ (t'.get k = t.get k) ∧ (∀ a e, (a, e) ∈ l → (a, e) ∈ l' ∨ t'.get a = none) ∧
    (l.Pairwise (fun p q => q.2 ≤ p.2) → ∀ a e, (a, e) ∈ l' → a ≠ k → e ≤ p) := by
  intro l
  induction l with
  | nil =>
    intro t l' t' h
    simp only [killBut, Prod.mk.injEq] at h; obtain ⟨rfl, rfl⟩ := h
    exact ⟨.slnil, fun _ _ h => h, rfl, fun a e h => .inl h, fun _ a e h => by cases h⟩
  | cons ae l ih =>
    obtain ⟨a, e⟩ := ae
    intro t l' t' h
    simp only [killBut] at h
    cases hb : Nat.ble e p with
    | true =>
      rw [hb] at h
      simp only [Prod.mk.injEq] at h; obtain ⟨rfl, rfl⟩ := h
      refine ⟨List.Sublist.refl _, fun _ _ h => h, rfl, fun a e h => .inl h, fun hp b e' hm _ => ?_⟩
      have he := Nat.le_of_ble_eq_true hb
      rcases List.mem_cons.1 hm with hm | hm
      · simp only [Prod.mk.injEq] at hm; omega
      · have := (List.pairwise_cons.1 hp).1 _ hm; simp only at this; omega
    | false =>
      rw [hb] at h
      simp only at h
      cases hk : Nat.beq a k with
      | true =>
        have hak := Nat.eq_of_beq_eq_true hk
        rw [hk] at h
        simp only at h
        cases hr : killBut k p l t with
        | mk l1 t1 =>
          rw [hr] at h
          simp only [Prod.mk.injEq] at h; obtain ⟨rfl, rfl⟩ := h
          obtain ⟨i1, i2, i3, i4, i5⟩ := ih t l1 t1 hr
          refine ⟨i1.cons_cons _, i2, i3, fun b e' hm => ?_, fun hp b e' hm hne => ?_⟩
          · rcases List.mem_cons.1 hm with hm | hm
            · rw [hm]; exact .inl List.mem_cons_self
            · exact (i4 b e' hm).imp (List.mem_cons_of_mem _) id
          · rcases List.mem_cons.1 hm with hm | hm
            · simp only [Prod.mk.injEq] at hm; exact absurd (hm.1.trans hak) hne
            · exact i5 (List.pairwise_cons.1 hp).2 b e' hm hne
      | false =>
        have hak : a ≠ k := Nat.ne_of_beq_eq_false hk
        rw [hk] at h
        simp only at h
        obtain ⟨i1, i2, i3, i4, i5⟩ := ih _ l' t' h
        refine ⟨i1.cons _, fun b x hx => ?_, ?_, fun b e' hm => ?_, fun hp b e' hm hne => i5 (List.pairwise_cons.1 hp).2 b e' hm hne⟩
        · have := i2 b x hx
          rw [Tr.get_put] at this
          split at this
          · cases this
          · exact this
        · rw [i3, Tr.get_put, if_neg (fun e => hak e.symm)]
        · rcases List.mem_cons.1 hm with hm | hm
          · simp only [Prod.mk.injEq] at hm
            right
            cases hg : t'.get b with
            | none => rfl
            | some x =>
              have := i2 b x hg
              rw [Tr.get_put, if_pos hm.1] at this; cases this
          · exact i4 b e' hm

/-! ## Loads -/

def Hp.cellsAt (h : Hp) (Γ : Glob) : V → Option (List V)
  | .ptr a o => match h.t.get a with
    | some (.cells _ _ _ xs) => some (xs.drop o)
    | _ => none
  | .gp g o => match Γ.get g with
    | some xs => some (xs.drop o)
    | none => none
  | _ => none

def opLoad (P : Program) (Γ : Glob) (h : Hp) (T : TypeId) (a : V) : Option V :=
  match h.cellsAt Γ a, isAggT P T with
  | some (x :: _), some false => some x
  | some xs, some true => match szOf P T with
    | some n => if n ≤ xs.length then some (.agg (xs.take n)) else none
    | none => none
  | _, _ => none

theorem cell_of_heap {w : World} {b o : Nat} {arr : Array Value} {el : TypeId} {fr : Nat × Nat} (h : w.heap[b]? = some (.cells arr el fr)) : w.cell? ⟨b, o, none⟩ = arr[o]? := by
  simp [World.cell?, h]

section
variable {P : Program} {Γ : Glob} {N0 : Nat} {w0 : Fr} {ρ : Ren} {h : Hp} {w : World}

theorem VR.empty {x : V} {u : Value} (hx : VR (fun _ => none) x u) : VR ρ x u := hx.ext fun a L e => by cases e

theorem drop_drop_get {α : Type} (xs : List α) (o i : Nat) : (xs.drop o)[i]? = xs[o + i]? := List.getElem?_drop

theorem cellsAt_sound (H : Rel Γ N0 w0 ρ h w) {a : V} {u : Value} (ha : VR ρ a u) {cs : List V} (hc : h.cellsAt Γ a = some cs) :
    ∃ b o, u = .pointer (some ⟨b, o, none⟩) ∧ ∀ (i : Nat) y, cs[i]? = some y → ∃ v, w.cell? ⟨b, o + i, none⟩ = some v ∧ VR ρ y v := by
  unfold Hp.cellsAt at hc
  split at hc
  · rename_i a' o
    split at hc
    · rename_i f fb fz xs hg
      simp only [Option.some.injEq] at hc; subst hc
      obtain ⟨L, hL, rfl⟩ := ha.ptr_inv
      obtain ⟨M, hM, hN, arr, el, fr, k1, k2, k3, k4, k5⟩ := (H.blk _ _ (some_ne (by assumption)) hg).ex
      rw [hL] at hM; simp only [Option.some.injEq] at hM; subst hM
      refine ⟨_, _, rfl, fun i y hy => ?_⟩
      rw [drop_drop_get] at hy
      have hlt := (List.getElem?_eq_some_iff.1 hy).1
      have hv : arr[L.base + (o + i)]? = some (arr[L.base + (o + i)]'(by omega)) := by simp
      rw [cell_of_heap k1, Nat.add_assoc]
      exact ⟨_, hv, k4 _ _ _ hy hv⟩
    · cases hc
  · rename_i g o
    split at hc
    · rename_i xs hg
      simp only [Option.some.injEq] at hc; subst hc
      cases ha
      obtain ⟨h1, arr, el, fr, h2, h3, h4⟩ := H.glob g xs hg
      refine ⟨_, _, rfl, fun i y hy => ?_⟩
      rw [drop_drop_get] at hy
      have hlt := (List.getElem?_eq_some_iff.1 hy).1
      have hv : arr[o + i]? = some (arr[o + i]'(by omega)) := by simp
      rw [cell_of_heap ((H.below.block g h1).trans h2)]
      exact ⟨_, hv, (h4 _ _ _ hy hv).empty⟩
    · cases hc
  · cases hc

theorem run_load1 {b o : Nat} {v : Value} (hc : w.cell? ⟨b, o, none⟩ = some v) : (load ⟨b, o, none⟩).run P w = .ok v w := by
  simp [load, Sem.run, hc]

/-- so many cells read -/
theorem cells_run {b o n : Nat} {cs : List V} (hn : n ≤ cs.length) (hc : ∀ (i : Nat) y, cs[i]? = some y → ∃ v, w.cell? ⟨b, o + i, none⟩ = some v ∧ VR ρ y v) :
    ∃ us : List Value, us.length = n ∧ (∀ w' : World, w'.heap = w.heap → (loadCells ⟨b, o, none⟩ n).run P w' = .ok us.toArray w') ∧ VRs ρ (cs.take n) us := by
  let us : List Value := (List.range n).map fun k => (w.cell? ⟨b, o + k, none⟩).getD undef
  have hget : ∀ k, k < n → us[k]? = some ((w.cell? ⟨b, o + k, none⟩).getD undef) := by
    intro k hk
    simp only [us, List.getElem?_map]
    rw [List.getElem?_range hk]; rfl
  have hlen : us.length = n := by simp [us]
  refine ⟨us, hlen, fun w' hw' => run_loadCells hlen (fun k u hu => ?_), by simp [hlen]; omega, fun i x u hx hu => ?_⟩
  · have hk : k < n := by rw [← hlen]; exact (List.getElem?_eq_some_iff.1 hu).1
    rw [hget k hk] at hu
    have hcs : cs[k]? = some (cs[k]'(by omega)) := by simp
    obtain ⟨v, hv, _⟩ := hc k _ hcs
    have e : w'.cell? ⟨b, o + k, none⟩ = w.cell? ⟨b, o + k, none⟩ := by simp [World.cell?, hw']
    rw [e]
    rw [hv] at hu ⊢
    simpa using hu
  · rw [List.getElem?_take] at hx
    split at hx
    · rename_i hi
      obtain ⟨v, hv, hr⟩ := hc i x hx
      rw [hget i hi, hv] at hu
      simp at hu; subst hu; exact hr
    · cases hx

theorem opLoad_sound (H : Rel Γ N0 w0 ρ h w) {T : TypeId} {a x : V} {u : Value} (ha : VR ρ a u) (hs : opLoad P Γ h T a = some x) :
    ∃ y, (Instr.loadAt T u).run P w = .ok y w ∧ VR ρ x y := by
  unfold opLoad at hs
  split at hs
  · rename_i x' r hc hT
    simp only [Option.some.injEq] at hs; subst hs
    obtain ⟨b, o, rfl, hcs⟩ := cellsAt_sound H ha hc
    obtain ⟨v, hv, hr⟩ := hcs 0 x' rfl
    refine ⟨v, ?_, hr⟩
    simp only [Instr.loadAt, Sem.run_bind, Instr.sureAddr, Sem.run_pure, Result.andThen_ok, loadVar, run_isAgg hT, Bool.false_eq_true, if_false]
    exact run_load1 hv
  · rename_i xs hc hT
    split at hs
    · rename_i n hn
      split at hs
      · rename_i hle
        simp only [Option.some.injEq] at hs; subst hs
        obtain ⟨b, o, rfl, hcs⟩ := cellsAt_sound H ha hc
        obtain ⟨us, h1, h2, h3⟩ := cells_run (P := P) (n := n) hle hcs
        refine ⟨.agg us.toArray, ?_, VRs.agg (by simpa using h3)⟩
        simp only [Instr.loadAt, Sem.run_bind, Instr.sureAddr, Sem.run_pure, Result.andThen_ok, loadVar, run_isAgg hT, if_true, run_sizeOf hn, h2 w rfl]
      · cases hs
    · cases hs
  · cases hs

/-! ## Stores -/

def V.one : V → Bool
  | .agg _ => false
  | .tup _ => false
  | .any => false
  | _ => true

def oneCell : Value → Prop
  | .agg _ => False
  | .tuple _ => False
  | _ => True

theorem VR.oneCell {x : V} {u : Value} (hx : VR ρ x u) (h : x.one = true) : oneCell u := by
  cases hx <;> first | trivial | cases h

theorem VRs.oneCells {xs : List V} {us : List Value} (hx : VRs ρ xs us) (h : xs.all V.one = true) : ∀ v ∈ us, HM.oneCell v := by
  intro v hv
  obtain ⟨i, hi⟩ := List.getElem?_of_mem hv
  have hlt : i < xs.length := by rw [hx.1]; exact (List.getElem?_eq_some_iff.1 hi).1
  have hg : xs[i]? = some xs[i] := by simp
  exact (hx.2 i _ v hg hi).oneCell (List.all_eq_true.1 h _ (List.mem_of_getElem? hg))

theorem run_store1 {b k : Nat} {u z : Value} (hz : w.cell? ⟨b, k, none⟩ = some z) (hf : w.frozen? ⟨b, k, none⟩ = false) (ho : HM.oneCell u) :
    (store ⟨b, k, none⟩ u).run P w = .ok () (w.setCell ⟨b, k, none⟩ u) := by
  cases u <;> first | exact ho.elim | simp [store, Sem.run, hz, hf]

theorem setCell_heap_ne {b k b' : Nat} {u : Value} (h : b' ≠ b) : (w.setCell ⟨b, k, none⟩ u).heap[b']? = w.heap[b']? := by
  simp only [World.setCell, Array.getElem?_modify]
  rw [if_neg (fun e => h e.symm)]

theorem setCell_heap_eq {b k : Nat} {u : Value} {arr : Array Value} {el : TypeId} {fr : Nat × Nat} (h : w.heap[b]? = some (.cells arr el fr)) :
    (w.setCell ⟨b, k, none⟩ u).heap[b]? = some (.cells (arr.setIfInBounds k u) el fr) := by
  simp [World.setCell, Array.getElem?_modify, h]

theorem setCell_size {a : Addr} {u : Value} : (w.setCell a u).heap.size = w.heap.size := by simp [World.setCell]

/-- many cells written into one block -/
theorem run_storeCells {b : Nat} {el : TypeId} {fr : Nat × Nat} : ∀ (vs : List Value) {w : World} {arr : Array Value} {off : Nat} (i : Nat), w.heap[b]? = some (.cells arr el fr) →
    off + i + vs.length ≤ arr.size → (∀ k, off + i ≤ k → k < off + i + vs.length → ¬ (fr.1 ≤ k ∧ k < fr.2)) → (∀ v ∈ vs, HM.oneCell v) →
    ∃ w' arr', (storeCells ⟨b, off, none⟩ vs i).run P w = .ok () w' ∧ w'.heap[b]? = some (.cells arr' el fr) ∧ arr'.size = arr.size ∧
      (∀ k, arr'[k]? = if off + i ≤ k ∧ k < off + i + vs.length then vs[k - (off + i)]? else arr[k]?) ∧
      (∀ b', b' ≠ b → w'.heap[b']? = w.heap[b']?) ∧ w'.heap.size = w.heap.size ∧ w'.os = w.os ∧ w'.tape = w.tape ∧ w'.output = w.output := by
  intro vs
  induction vs with
  | nil =>
    intro w arr off i hb _ _ _
    exact ⟨w, arr, rfl, hb, rfl, fun k => by rw [if_neg (by simp only [List.length_nil]; omega)], fun _ _ => rfl, rfl, rfl, rfl, rfl⟩
  | cons v vs ih =>
    intro w arr off i hb hl hf ho
    simp only [List.length_cons] at hl hf
    have hlt : off + i < arr.size := by omega
    have hcell : w.cell? ⟨b, off + i, none⟩ = some arr[off + i] := by rw [cell_of_heap hb]; simp [hlt]
    have hfz : w.frozen? ⟨b, off + i, none⟩ = false := by
      simp only [World.frozen?, hb]
      cases hh : (decide (fr.1 ≤ off + i) && decide (off + i < fr.2)) with
      | false => rfl
      | true => simp only [Bool.and_eq_true, decide_eq_true_eq] at hh; exact absurd hh (hf _ (Nat.le_refl _) (by omega))
    have hb' := setCell_heap_eq (k := off + i) (u := v) hb
    obtain ⟨w', arr', h1, h2, h3, h4, h5, h6, h7, h8, h9⟩ := ih (w := w.setCell ⟨b, off + i, none⟩ v) (off := off) (i + 1) hb' (by simp; omega) (fun k h1 h2 => hf k (by omega) (by omega)) (fun x hx => ho x (List.mem_cons_of_mem _ hx))
    refine ⟨w', arr', ?_, h2, by rw [h3]; simp, fun k => ?_, fun b' hne => (h5 b' hne).trans (setCell_heap_ne hne), h6.trans setCell_size, h7, h8, h9⟩
    · simp only [storeCells, Sem.run_bind, add_none]
      rw [run_store1 hcell hfz (ho v List.mem_cons_self)]
      simpa using h1
    · rw [h4 k]
      by_cases e : k = off + i
      · subst e
        rw [if_neg (by omega), if_pos ⟨by omega, by simp only [List.length_cons]; omega⟩, Array.getElem?_setIfInBounds, if_pos rfl]
        simp [hlt]
      · by_cases e2 : off + (i + 1) ≤ k ∧ k < off + (i + 1) + vs.length
        · rw [if_pos e2, if_pos (by simp only [List.length_cons]; omega), show k - (off + i) = (k - (off + (i + 1))) + 1 by omega]
          rfl
        · rw [if_neg e2, if_neg (by simp only [List.length_cons]; omega), Array.getElem?_setIfInBounds, if_neg (fun hh => e hh.symm)]

/-- WHAT A WRITE INTO A FAMILY'S BLOCK LEAVES of the others: those who live end ahead of it -/
def Hp.kill (h : Hp) (k f p : Nat) : Option Hp :=
  match h.fams.get f with
  | some l => match killBut k p l h.t with
    | (l', t') => some ⟨h.next, t', h.fams.put (some l') f, h.els⟩
  | none => none

theorem kill_fam (H : FamOk h) {h' : Hp} {k f p : Nat} (hk : h.kill k f p = some h') : FamOk h' ∧ h'.next = h.next ∧ (∀ a x, h'.t.get a = some x → h.t.get a = some x) ∧ h'.t.get k = h.t.get k ∧
    (∃ l, h'.fams.get f = some l ∧ ∀ a e, (a, e) ∈ l → a ≠ k → e ≤ p) ∧ h'.els = h.els := by
  unfold Hp.kill at hk
  split at hk
  · rename_i l hl
    cases hr : killBut k p l h.t with
    | mk l' t' =>
      rw [hr] at hk
      simp only [Option.some.injEq] at hk; subst hk
      obtain ⟨i1, i2, i3, i4, i5⟩ := killBut_spec k p l h.t l' t' hr
      refine ⟨⟨?_, ?_, ?_, ?_⟩, rfl, i2, i3, ⟨l', by simp [Tr.get_put], i5 (H.sorted f l hl)⟩, rfl⟩
      · intro a f' fb fz xs ha
        obtain ⟨m, h1, h2⟩ := H.mem a f' fb fz xs (i2 _ _ ha)
        by_cases e : f' = f
        · subst e
          rw [hl] at h1; simp only [Option.some.injEq] at h1; subst h1
          refine ⟨l', by simp [Tr.get_put], ?_⟩
          rcases i4 _ _ h2 with hh | hh
          · exact hh
          · have ha' : t'.get a = some (.cells f' fb fz xs) := ha
            rw [hh] at ha'; cases ha'
        · exact ⟨m, by simp only [Tr.get_put]; rw [if_neg e]; exact h1, h2⟩
      · intro f' m hm
        simp only [Tr.get_put] at hm
        by_cases e : f' = f
        · subst e; rw [if_pos rfl] at hm; simp only [Option.some.injEq] at hm; subst hm
          exact (H.sorted f' l hl).sublist i1
        · rw [if_neg e] at hm; exact H.sorted f' m hm
      · intro a x ha; exact H.lt a x (i2 _ _ ha)
      · intro a f' fb fz xs b x ha hb hx; exact H.own a f' fb fz xs b x (i2 _ _ ha) (i2 _ _ hb) hx
  · cases hk

theorem Rel.sub (H : Rel Γ N0 w0 ρ h w) {h' : Hp} (hn : h'.next = h.next) (hs : ∀ a x, h'.t.get a = some x → h.t.get a = some x) (hf : FamOk h') (hel : h'.els = h.els) : Rel Γ N0 w0 ρ h' w where
  below := H.below
  hN0 := H.hN0
  glob := H.glob
  fresh := fun a ha => H.fresh a (by omega)
  lt := H.lt
  blk := fun a x hne hx => H.blk a x hne (hs _ _ hx)
  sep := fun a b x y L M hx hy => H.sep a b x y L M (hs _ _ hx) (hs _ _ hy)
  same := fun a b f fb fz xs gb gz ys L M hx hy => H.same a b f fb fz xs gb gz ys L M (hs _ _ hx) (hs _ _ hy)
  fam := hf
  elk := fun a e hne he => H.elk a e hne (hel ▸ he)
  elt := fun a e he => by rw [hn]; exact H.elt a e (hel ▸ he)
  old := ⟨by rw [hn]; exact H.old.1, H.old.2⟩
  kept := H.kept.step (fun _ _ _ => rfl) fun a x L hx hL => .inl ⟨a, x, L, hs _ _ hx, hL, rfl⟩

/-- the members of a family who live end where its list says -/
theorem kill_ends {h' : Hp} {k f p : Nat} (hf : FamOk h') (hl : ∃ l, h'.fams.get f = some l ∧ ∀ a e, (a, e) ∈ l → a ≠ k → e ≤ p) {c gb gz : Nat} {ys : List V} (hc : h'.t.get c = some (.cells f gb gz ys)) (hck : c ≠ k) : gb + ys.length ≤ p := by
  obtain ⟨l, h1, h2⟩ := hl
  obtain ⟨m, h3, h4⟩ := hf.mem c f gb gz ys hc
  rw [h1] at h3; simp only [Option.some.injEq] at h3; subst h3
  exact h2 _ _ h4 hck

def splice (xs ys : List V) (o : Nat) : List V := xs.take o ++ (ys ++ xs.drop (o + ys.length))

theorem splice_length {xs ys : List V} {o : Nat} (h : o + ys.length ≤ xs.length) : (splice xs ys o).length = xs.length := by simp [splice]; omega

theorem splice_get {xs ys : List V} {o i : Nat} (h : o + ys.length ≤ xs.length) : (splice xs ys o)[i]? = if o ≤ i ∧ i < o + ys.length then ys[i - o]? else xs[i]? := by
  unfold splice
  by_cases h1 : i < o
  · rw [List.getElem?_append_left (by simp; omega), List.getElem?_take, if_pos h1, if_neg (by omega)]
  · rw [List.getElem?_append_right (by simp; omega)]
    have e : (xs.take o).length = o := by simp; omega
    rw [e]
    by_cases h2 : i < o + ys.length
    · rw [List.getElem?_append_left (by omega), if_pos (by omega)]
    · rw [List.getElem?_append_right (by omega), List.getElem?_drop, if_neg (by omega)]
      congr 1; omega

def Hp.write (h : Hp) (b o : Nat) (ys : List V) : Option Hp :=
  match h.t.get b with
  | some (.cells f fb fz xs) => if o + ys.length ≤ xs.length ∧ fz ≤ o ∧ ys.all V.one = true then
      match h.kill b f (fb + o) with
      | some h' => some ⟨h'.next, h'.t.put (some (.cells f fb fz (splice xs ys o))) b, h'.fams, h'.els⟩
      | none => none
    else none
  | _ => none

theorem write_sound (H : Rel Γ N0 w0 ρ h w) {b o : Nat} {ys : List V} {us : List Value} {h' : Hp} (hs : h.write b o ys = some h') (hy : VRs ρ ys us) {L : Loc} (hL : ρ b = some L) :
    ∃ w', (storeCells ⟨L.b, L.base + o, none⟩ us).run P w = .ok () w' ∧ Rel Γ N0 w0 ρ h' w' ∧ w'.heap.size = w.heap.size := by
  unfold Hp.write at hs
  split at hs
  · rename_i f fb fz xs hg
    split at hs
    · rename_i hc
      obtain ⟨hlen, hfz, hone⟩ := hc
      split at hs
      · rename_i h1 hk
        simp only [Option.some.injEq] at hs; subst hs
        obtain ⟨f1, n1, s1, g1, e1, el1⟩ := kill_fam H.fam hk
        have H1 := H.sub n1 s1 f1 el1
        rw [hg] at g1
        obtain ⟨M, hM, hN, arr, el, fr, k1, k2, k3, k4, k5⟩ := (H.blk _ _ (some_ne (by assumption)) hg).ex
        rw [hL] at hM; simp only [Option.some.injEq] at hM; subst hM
        obtain ⟨w', arr', r1, r2, r3, r4, r5, r6, r7, r8, r9⟩ := run_storeCells (P := P) us (w := w) (arr := arr) (off := L.base + o) 0 k1 (by rw [← hy.1]; omega) (fun k q1 q2 hh => by
          rcases k5 k hh.1 hh.2 with q | q
          · omega
          · rw [← hy.1] at q2; omega) (hy.oneCells hone)
        rw [← hy.1] at r4
        refine ⟨w', r1, ?_, r6⟩
        have hget : ∀ a, (h1.t.put (some (.cells f fb fz (splice xs ys o))) b).get a = if a = b then some (.cells f fb fz (splice xs ys o)) else h1.t.get a := fun a => by rw [Tr.get_put]
        have hne : ∀ a x M, a ≠ b → h1.t.get a = some x → ρ a = some M → (∀ gb gz ys, x ≠ .cells f gb gz ys) → M.b ≠ L.b := by
          intro a x M hab hx hM hxc
          refine H1.sep a b x _ M L hx g1 hM hL ?_
          cases x with
          | cells f' gb gz zs => simp only [famOf]; intro e; exact hxc gb gz zs (by rw [e])
          | iter l p => simp only [famOf]; exact fun e => f1.own b f fb fz xs a _ g1 hx (fun _ _ _ _ hh => by cases hh) e.symm
          | mapo es c => simp only [famOf]; exact fun e => f1.own b f fb fz xs a _ g1 hx (fun _ _ _ _ hh => by cases hh) e.symm
        refine ⟨?_, H.hN0, H.glob, fun a ha => H1.fresh a ha, fun a M hM => by rw [r6]; exact H.lt a M hM, ?_, ?_, ?_, ?_, fun a e hne0 he => by
          obtain ⟨M, arr2, fr2, q1, q2, q3⟩ := H1.elk a e hne0 he
          by_cases hbb : M.b = L.b
          · rw [hbb, k1] at q2
            simp only [Option.some.injEq, Obj.cells.injEq] at q2
            obtain ⟨rfl, rfl, rfl⟩ := q2
            exact ⟨M, arr', fr, q1, by rw [hbb]; exact r2, by rw [r3]; exact q3⟩
          · exact ⟨M, arr2, fr2, q1, (r5 _ hbb).trans q2, q3⟩, H1.elt, H1.old, H.kept.step (fun c hc _ => r5 c (fun e => hc b _ L hg hL e.symm)) fun a x M hx hM => by
            simp only [hget] at hx
            by_cases e : a = b
            · subst e; exact .inl ⟨a, _, M, hg, hM, rfl⟩
            · rw [if_neg e] at hx; exact .inl ⟨a, x, M, s1 _ _ hx, hM, rfl⟩⟩
        · exact H.below.trans ⟨r7, r8, r9, by rw [r6]; exact Nat.le_refl _, fun k hk => r5 k (by omega)⟩
        · intro a x hne0 hx
          simp only [hget] at hx
          by_cases e : a = b
          · subst e
            rw [if_pos rfl] at hx; simp only [Option.some.injEq] at hx; subst hx
            refine ⟨L, hL, hN, arr', el, fr, r2, by rw [r3]; exact k2, by rw [splice_length hlen]; exact k3, fun i y u hyy hu => ?_, fun q q1 q2 => by rw [r3]; exact k5 q q1 q2⟩
            rw [splice_get hlen] at hyy
            rw [r4] at hu
            by_cases hi : o ≤ i ∧ i < o + ys.length
            · rw [if_pos hi] at hyy
              rw [if_pos (by omega), show L.base + i - (L.base + o + 0) = i - o by omega] at hu
              exact hy.2 _ _ _ hyy hu
            · rw [if_neg hi] at hyy
              rw [if_neg (by omega)] at hu
              exact k4 i y u hyy hu
          · rw [if_neg e] at hx
            obtain ⟨M, hM, hMN, hx2⟩ := (H1.blk a x hne0 hx).ex
            refine ⟨M, hM, hMN, ?_⟩
            cases x with
            | cells f' gb gz zs =>
              obtain ⟨arr2, el2, fr2, q1, q2, q3, q4, q5⟩ := hx2
              by_cases hbb : M.b = L.b
              · have hff : f' = f := by
                  apply Classical.byContradiction
                  intro hff
                  exact hne a _ M e hx hM (fun gb gz ys hh => by simp only [Blk.cells.injEq] at hh; exact hff hh.1) hbb
                subst hff
                rw [hbb, k1] at q1
                simp only [Option.some.injEq, Obj.cells.injEq] at q1
                obtain ⟨rfl, rfl, rfl⟩ := q1
                have hend := kill_ends f1 e1 hx e
                have hco := H1.same a b f' gb gz zs fb fz xs M L hx g1 hM hL hbb
                refine ⟨arr', el, fr, by rw [hbb]; exact r2, by rw [r3]; exact q2, q3, fun i y u hyy hu => ?_, fun q p1 p2 => by rw [r3]; exact q5 q p1 p2⟩
                have hil := (List.getElem?_eq_some_iff.1 hyy).1
                rw [r4, if_neg (by omega)] at hu
                exact q4 i y u hyy hu
              · exact ⟨arr2, el2, fr2, by rw [r5 _ hbb]; exact q1, q2, q3, q4, q5⟩
            | iter l p => obtain ⟨q, bs, hb, k⟩ := hx2; exact ⟨q, bs, hb, by rw [r5 _ (hne a _ M e hx hM (fun _ _ _ hh => by cases hh))]; exact k⟩
            | mapo es c =>
              obtain ⟨arr2, q⟩ := hx2
              exact ⟨arr2, by rw [r5 _ (hne a _ M e hx hM (fun _ _ _ hh => by cases hh))]; exact q⟩
        · intro a c x y M M' hx hy' hM hM' hff
          simp only [hget] at hx hy'
          have hx' : ∃ x', h1.t.get a = some x' ∧ famOf a x' = famOf a x := by
            by_cases e : a = b
            · subst e; rw [if_pos rfl] at hx; simp only [Option.some.injEq] at hx; subst hx; exact ⟨_, g1, rfl⟩
            · rw [if_neg e] at hx; exact ⟨x, hx, rfl⟩
          have hy2 : ∃ y', h1.t.get c = some y' ∧ famOf c y' = famOf c y := by
            by_cases e : c = b
            · subst e; rw [if_pos rfl] at hy'; simp only [Option.some.injEq] at hy'; subst hy'; exact ⟨_, g1, rfl⟩
            · rw [if_neg e] at hy'; exact ⟨y, hy', rfl⟩
          obtain ⟨x', hx1, hx2⟩ := hx'
          obtain ⟨y', hy1, hy3⟩ := hy2
          exact H1.sep a c x' y' M M' hx1 hy1 hM hM' (by rw [hx2, hy3]; exact hff)
        · intro a c f' gb gz zs gb' gz' zs' M M' hx hy' hM hM' hbb
          simp only [hget] at hx hy'
          have hx' : ∃ z q, h1.t.get a = some (.cells f' gb z q) := by
            by_cases e : a = b
            · subst e; rw [if_pos rfl] at hx; simp only [Option.some.injEq, Blk.cells.injEq] at hx; obtain ⟨rfl, rfl, _, _⟩ := hx; exact ⟨_, _, g1⟩
            · rw [if_neg e] at hx; exact ⟨_, _, hx⟩
          have hy2 : ∃ z q, h1.t.get c = some (.cells f' gb' z q) := by
            by_cases e : c = b
            · subst e; rw [if_pos rfl] at hy'; simp only [Option.some.injEq, Blk.cells.injEq] at hy'; obtain ⟨rfl, rfl, _, _⟩ := hy'; exact ⟨_, _, g1⟩
            · rw [if_neg e] at hy'; exact ⟨_, _, hy'⟩
          obtain ⟨z1, q1, hx1⟩ := hx'
          obtain ⟨z2, q2, hy1⟩ := hy2
          exact H1.same a c f' gb z1 q1 gb' z2 q2 M M' hx1 hy1 hM hM' hbb
        · refine ⟨?_, f1.sorted, ?_, ?_⟩
          · intro a f' gb gz zs ha
            simp only [hget] at ha
            by_cases e : a = b
            · subst e; rw [if_pos rfl] at ha; simp only [Option.some.injEq, Blk.cells.injEq] at ha; obtain ⟨rfl, rfl, rfl, rfl⟩ := ha
              rw [splice_length hlen]; exact f1.mem _ _ _ _ _ g1
            · rw [if_neg e] at ha; exact f1.mem a f' gb gz zs ha
          · intro a x ha
            simp only [hget] at ha
            by_cases e : a = b
            · subst e; rw [if_pos rfl] at ha; simp only [Option.some.injEq] at ha; subst ha; simpa [famOf] using f1.lt _ _ g1
            · rw [if_neg e] at ha; exact f1.lt a x ha
          · intro a f' gb gz zs c x ha hc' hx
            simp only [hget] at ha hc'
            have hc2 : h1.t.get c = some x := by
              by_cases e : c = b
              · subst e; rw [if_pos rfl] at hc'; simp only [Option.some.injEq] at hc'; exact absurd hc'.symm (hx _ _ _ _)
              · rw [if_neg e] at hc'; exact hc'
            by_cases e : a = b
            · subst e; rw [if_pos rfl] at ha; simp only [Option.some.injEq, Blk.cells.injEq] at ha; obtain ⟨rfl, _⟩ := ha; exact f1.own _ _ _ _ _ c x g1 hc2 hx
            · rw [if_neg e] at ha; exact f1.own a f' gb gz zs c x ha hc2 hx
      · cases hs
    · cases hs
  · cases hs

def opStore (P : Program) (h : Hp) (T : TypeId) (a v : V) : Option Hp :=
  match a, szOf P T with
  | .ptr b o, some n => if v.cells.length = n ∧ v.isAny = false then h.write b o v.cells else none
  | _, _ => none

theorem opStore_sound (H : Rel Γ N0 w0 ρ h w) {T : TypeId} {a v : V} {ua uv : Value} (ha : VR ρ a ua) (hv : VR ρ v uv) {h' : Hp} (hs : opStore P h T a v = some h') :
    ∃ w', (Instr.storeAt T ua uv).run P w = .ok () w' ∧ Rel Γ N0 w0 ρ h' w' := by
  unfold opStore at hs
  split at hs
  · rename_i b o n hn
    split at hs
    · rename_i hl
      obtain ⟨L, hL, rfl⟩ := ha.ptr_inv
      obtain ⟨w', r1, r2, _⟩ := write_sound (P := P) H hs (hv.cells hl.2) hL
      refine ⟨w', ?_, r2⟩
      have hsz : uv.cells.size = n := by have := (hv.cells hl.2).1; have := hl.1; simp at *; omega
      simp only [Instr.storeAt, Sem.run_bind, Instr.sureAddr, Sem.run_pure, Result.andThen_ok, storeVar, run_sizeOf hn, hsz]
      rw [if_neg (by simp)]
      exact r1
    · cases hs
  · cases hs

end
end Go.Proofs.YtbfdgdigaiimgaaDoor.HM
