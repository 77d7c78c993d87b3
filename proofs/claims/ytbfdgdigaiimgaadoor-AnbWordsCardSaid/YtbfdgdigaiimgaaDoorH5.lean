/- The heap machine, 5: append, new blocks. -/
import Derived.Test.YtbfdgdigaiimgaaDoorH4
namespace Go.Proofs.YtbfdgdigaiimgaaDoor.HM
open Go Go.RowKit

theorem growBy_le (newLen : Nat) : ∀ (r c : Nat), c ≤ 2 * newLen + 192 → Builtin.growBy newLen r c ≤ 2 * newLen + 192 := by
  intro r
  induction r with
  | zero => intro c h; exact h
  | succ r ih =>
    intro c h
    simp only [Builtin.growBy]
    split
    · exact h
    · exact ih _ (by omega)

theorem nextslicecap_le {need cap : Nat} (h : cap < need) : Builtin.nextslicecap need cap ≤ 2 * need + 192 := by
  unfold Builtin.nextslicecap
  split
  · omega
  · split
    · omega
    · exact growBy_le _ _ _ (by omega)


/-! ## What append comes to -/

def zeroC (P : Program) (T : TypeId) : Option (List V) :=
  match P.info? T with
  | some i => match i.zero with
    | some z => mapC constC z.cells.toList
    | none => none
  | none => none

def bytesOf (P : Program) (T : TypeId) : Option Nat := (P.info? T).map (·.bytes)

def World.drew1 (w : World) : World := { w with drawn := w.drawn + 1 }


theorem run_zeroValue {P : Program} {w : World} {T : TypeId} {zs : List V} (h : zeroC P T = some zs) :
    ∃ z, (zeroValue T).run P w = .ok z w ∧ ∀ R, VRs R zs z.cells.toList := by
  unfold zeroC at h
  split at h
  · rename_i i hi
    split at h
    · rename_i z hz
      obtain ⟨h1, h2⟩ := mapC_get h
      refine ⟨z, ?_, fun R => ⟨by simpa using h1.symm, fun k y v hy hv => constC_sound (h2 k v y hv hy)⟩⟩
      simp only [zeroValue, Sem.run_bind, run_typeInfo hi, Result.andThen_ok, hz]; rfl
    · cases h
  · cases h

/-- is the second operand a count of zeros? -/
def plainArg (P : Program) (argTypes : Array TypeId) : Bool :=
  match argTypes[1]? with
  | some t => match P.underlying t with
    | some (.int _) => false
    | some _ => true
    | none => false
  | none => true

theorem run_askRoom {P : Program} {w : World} (n : Nat) : (askRoom n).run P w = .ok () w := by
  unfold askRoom; split <;> rfl

theorem run_appendCap {P : Program} {w : World} (need old : Nat) (e : TypeId) : (choose (.appendCap need old e)).run P w = .ok (need + w.tape w.drawn (.appendCap need old e) % (2 ^ 63 - need)) (World.drew1 w) := by
  simp [choose, Sem.run, Question.forced, Question.cut, World.drew1]

theorem append_run {P : Program} {w : World} {argTypes : Array TypeId} {T sT e : TypeId} {base : Option Addr} {len cap n sz by_ : Nat} {u : Value} {old new : Array Value} {zs : List V}
    (h0 : argTypes[0]? = some sT) (h1 : P.underlying sT = some (.slice e)) (hsz : szOf P e = some sz) (hby : bytesOf P e = some by_) (hz : zeroC P e = some zs)
    (hbp : 0 < by_) (hpl : plainArg P argTypes = true) (hlen : ∀ w, (Builtin.lenOf u).run P w = .ok n w) (hb : (2 * (len + n) + 192) * by_ ≤ 281474976710656)
    (hold : ∀ w', w'.heap = w.heap → (Builtin.firstCells sz len (.slice base len cap)).run P w' = .ok old w') (hnew : ∀ w', w'.heap = w.heap → (Builtin.firstCells sz n u).run P w' = .ok new w') :
    (¬ len + n ≤ cap → ∃ nc rest, len + n ≤ nc ∧ rest.size = (nc - (len + n)) * zs.length ∧
      (Builtin.append_ argTypes T #[.slice base len cap, u]).run P w = .ok (.slice (some ⟨w.heap.size, 0, none⟩) (len + n) nc) (World.new (World.drew1 w) (.cells (old ++ new ++ rest) e))) ∧
    (len + n ≤ cap → ∀ w', (match base with | some a => storeCells (a.add (len * sz)) new.toList | none => (pure () : Sem Unit)).run P w = .ok () w' →
      (Builtin.append_ argTypes T #[.slice base len cap, u]).run P w = .ok (.slice base (len + n) cap) w') := by
  have hpl' : argTypes[1]? = none ∨ ∃ t d, argTypes[1]? = some t ∧ P.underlying t = some d ∧ ∀ k, d ≠ .int k := by
    unfold plainArg at hpl
    split at hpl
    · rename_i t ht
      split at hpl
      · cases hpl
      · rename_i d hd hu
        exact .inr ⟨t, d, ht, hu, fun k e => by subst e; exact hd k rfl⟩
      · cases hpl
    · rename_i ht; exact .inl ht
  obtain ⟨i, hi, rfl⟩ : ∃ i, P.info? e = some i ∧ i.bytes = by_ := by simpa [bytesOf] using hby
  constructor
  · intro hnc
    have hnx : ¬ Builtin.nextslicecap (len + n) cap * i.bytes > 2 ^ 48 := by
      have := Nat.mul_le_mul_right i.bytes (nextslicecap_le (need := len + n) (cap := cap) (by omega))
      omega
    obtain ⟨z, hzr, hzs⟩ := run_zeroValue (P := P) (w := World.drew1 w) hz
    replace hzs := hzs (fun _ => none)
    replace hzs : z.cells.size = zs.length := by simpa using hzs.1.symm
    refine ⟨len + n + w.tape w.drawn (.appendCap (len + n) cap e) % (2 ^ 63 - (len + n)), Builtin.zeroCells z.cells (w.tape w.drawn (.appendCap (len + n) cap e) % (2 ^ 63 - (len + n))), Nat.le_add_right _ _, ?_, ?_⟩
    · rw [Nat.add_sub_cancel_left, ← hzs]; simp [Builtin.zeroCells]
    · have hneed : len + n ≤ 281474976710656 := by
        have := Nat.le_mul_of_pos_right (2 * (len + n) + 192) hbp
        omega
      have e1 : ¬ (((len + n : Nat) : Int) > IntKind.i64.max ∧ (False ∨ i.bytes = 0)) := by
        rintro ⟨h, _⟩
        have : IntKind.i64.max = 9223372036854775807 := rfl
        omega
      rcases hpl' with ht | ⟨t, d, ht, hu, hd⟩
      · unfold Builtin.append_
        simp only [h0, ht, List.getElem?_toArray, List.getElem?_cons_zero, List.getElem?_cons_succ, Sem.run_bind, run_underlying h1, Result.andThen_ok, run_sizeOf hsz, Sem.run_pure, Bool.false_eq_true, if_false, hlen]
        rw [if_neg hnc]
        simp only [Sem.run_bind, run_typeInfo hi, Result.andThen_ok]
        rw [if_neg e1]
        simp only [Sem.run_bind, run_typeInfo hi, Result.andThen_ok]
        rw [if_neg hnx]
        simp only [Sem.run_bind, run_appendCap, run_typeInfo hi, Result.andThen_ok, run_askRoom, hold (World.drew1 w) rfl, Bool.not_false, if_true, hnew (World.drew1 w) rfl, hzr, run_newRow, Nat.add_sub_cancel_left]
        rfl
      · unfold Builtin.append_
        simp only [h0, ht, List.getElem?_toArray, List.getElem?_cons_zero, List.getElem?_cons_succ, Sem.run_bind, run_underlying h1, run_underlying hu, Result.andThen_ok, run_sizeOf hsz]
        cases d <;> first
          | exact absurd rfl (hd _)
          | (simp only [Sem.run_bind, Sem.run_pure, Result.andThen_ok, Bool.false_eq_true, if_false, hlen]
             rw [if_neg hnc]
             simp only [Sem.run_bind, run_typeInfo hi, Result.andThen_ok]
             rw [if_neg e1]
             simp only [Sem.run_bind, run_typeInfo hi, Result.andThen_ok]
             rw [if_neg hnx]
             simp only [Sem.run_bind, run_appendCap, run_typeInfo hi, Result.andThen_ok, run_askRoom, hold (World.drew1 w) rfl, Bool.not_false, if_true, hnew (World.drew1 w) rfl, hzr, run_newRow, Nat.add_sub_cancel_left]
             rfl)
  · intro hc w' hst
    have fin : (match base with | some a => (storeCells (a.add (len * sz)) new.toList).run P w | none => .ok () w) = .ok () w' := by
      cases base with
      | none => exact hst
      | some a => exact hst
    rcases hpl' with ht | ⟨t, d, ht, hu, hd⟩
    · unfold Builtin.append_
      simp only [h0, ht, List.getElem?_toArray, List.getElem?_cons_zero, List.getElem?_cons_succ, Sem.run_bind, run_underlying h1, Result.andThen_ok, run_sizeOf hsz, Sem.run_pure, Bool.false_eq_true, if_false, hlen]
      rw [if_pos hc]
      simp only [Sem.run_bind, hnew w rfl, Result.andThen_ok, Bool.not_false, if_true]
      cases base with
      | none => simp only [Result.ok.injEq, true_and] at fin; subst fin; rfl
      | some a => simp only [Sem.run_bind] at fin ⊢; rw [fin]; rfl
    · unfold Builtin.append_
      simp only [h0, ht, List.getElem?_toArray, List.getElem?_cons_zero, List.getElem?_cons_succ, Sem.run_bind, run_underlying h1, run_underlying hu, Result.andThen_ok, run_sizeOf hsz]
      cases d <;> first
        | exact absurd rfl (hd _)
        | (simp only [Sem.run_bind, Sem.run_pure, Result.andThen_ok, Bool.false_eq_true, if_false, hlen]
           rw [if_pos hc]
           simp only [Sem.run_bind, hnew w rfl, Result.andThen_ok, Bool.not_false, if_true]
           cases base with
           | none => simp only [Result.ok.injEq, true_and] at fin; subst fin; rfl
           | some a => simp only [Sem.run_bind] at fin ⊢; rw [fin]; rfl)


theorem drew1_below (w : World) (k : Nat) : Below k w (World.drew1 w) := ⟨rfl, rfl, rfl, Nat.le_refl _, fun _ _ => rfl⟩

/-! ## Append, on heaps -/

def roomOk (need by_ : Nat) : Bool := decide ((2 * need + 192) * by_ ≤ 281474976710656)

/-- what a slice's elements are: their cells, and how many they are -/
def elemsOf (h : Hp) (sz : Nat) : V → Option (List V × Nat)
  | .nils => some ([], 0)
  | .sl a o n sz' => if sz' = sz then
      match n with
      | 0 => some ([], 0)
      | _ => match h.t.get a with
        | some (.cells _ _ _ xs) => if o + n * sz ≤ xs.length then some ((xs.drop o).take (n * sz), n) else none
        | _ => none
    else none
  | .str l => if sz = 1 then some (l.map fun c => .int .u8 c.toNat, l.length) else none
  | _ => none

section
variable {P : Program} {Γ : Glob} {N0 : Nat} {w0 : Fr} {ρ : Ren} {h : Hp} {w : World}

theorem firstCells_nil {sz : Nat} {a : Option Addr} {n c : Nat} (w' : World) : (Builtin.firstCells sz 0 (.slice a n c)).run P w' = .ok #[] w' := by
  cases a with
  | none => rfl
  | some a => simp [Builtin.firstCells, loadCells, loadCellsFrom]

theorem elemsOf_sound (H : Rel Γ N0 w0 ρ h w) {y : V} {u : Value} (hy : VR ρ y u) {sz k : Nat} {ys : List V} (he : elemsOf h sz y = some (ys, k)) :
    (∀ w' : World, (Builtin.lenOf u).run P w' = .ok k w') ∧ ys.length = k * sz ∧ ∃ us : List Value, (∀ w' : World, w'.heap = w.heap → (Builtin.firstCells sz k u).run P w' = .ok us.toArray w') ∧ VRs ρ ys us := by
  unfold elemsOf at he
  split at he
  · simp only [Option.some.injEq, Prod.mk.injEq] at he; obtain ⟨rfl, rfl⟩ := he
    cases hy
    exact ⟨fun _ => rfl, by simp, [], fun w' _ => rfl, .nil _⟩
  · rename_i a o n sz'
    split at he
    · rename_i hsz
      subst hsz
      split at he
      · simp only [Option.some.injEq, Prod.mk.injEq] at he; obtain ⟨rfl, rfl⟩ := he
        refine ⟨fun w' => ?_, by simp, [], fun w' _ => ?_, .nil _⟩
        · cases hy <;> rfl
        · cases hy <;> exact firstCells_nil _
      · rename_i hn
        split at he
        · rename_i f fb fz xs hg
          split at he
          · rename_i hle
            simp only [Option.some.injEq, Prod.mk.injEq] at he; obtain ⟨rfl, rfl⟩ := he
            cases hy with
            | sl0 => exact absurd rfl hn
            | sl _ _ _ _ c L hL hc hl =>
              obtain ⟨M, hM, hMN, arr, el, fr, k1, k2, k3, k4, k5⟩ := (H.blk _ _ (some_ne (by assumption)) hg).ex
              rw [hL] at hM; simp only [Option.some.injEq] at hM; subst hM
              obtain ⟨us, h1, h2, h3⟩ := cells_run (P := P) (ρ := ρ) (w := w) (b := L.b) (o := L.base + o) (n := n * sz') (cs := xs.drop o) (by simp; omega) (fun i y hy => by
                rw [drop_drop_get] at hy
                have hlt := (List.getElem?_eq_some_iff.1 hy).1
                have hv : arr[L.base + (o + i)]? = some (arr[L.base + (o + i)]'(by omega)) := by simp
                rw [cell_of_heap k1, Nat.add_assoc]
                exact ⟨_, hv, k4 _ _ _ hy hv⟩)
              exact ⟨fun _ => rfl, by simp; omega, us, fun w' hw => h2 w' hw, h3⟩
          · cases he
        · cases he
    · cases he
  · rename_i l
    split at he
    · rename_i hsz
      subst hsz
      simp only [Option.some.injEq, Prod.mk.injEq] at he; obtain ⟨rfl, rfl⟩ := he
      cases hy.str_inv
      refine ⟨fun w' => ?_, by simp, l.map fun c : UInt8 => Value.int .u8 c.toNat, fun w' _ => ?_, ?_⟩
      · show (pure (ByteArray.mk l.toArray).size : Sem Nat).run P w' = _
        have : (ByteArray.mk l.toArray).size = l.length := by show l.toArray.size = _; simp
        rw [this]; rfl
      · have e : ((ByteArray.mk l.toArray).extract 0 l.length).data.map (fun b => Value.int .u8 b.toNat) = (l.map fun c : UInt8 => Value.int .u8 c.toNat).toArray := by
          simp [ByteArray.data_extract]
        show (pure (((ByteArray.mk l.toArray).extract 0 l.length).data.map fun b => Value.int .u8 b.toNat) : Sem (Array Value)).run P w' = _
        rw [e]; rfl
      · refine ⟨by simp, fun i x u hx hu => ?_⟩
        simp only [List.getElem?_map, Option.map_eq_some_iff] at hx hu
        obtain ⟨c, hc, rfl⟩ := hx
        obtain ⟨d, hd, rfl⟩ := hu
        rw [hc] at hd; simp only [Option.some.injEq] at hd; subst hd
        exact .int _ _
    · cases he
  · cases he

/-- a family has grown by a block that begins so far on in it -/
def headOk (n : Nat) : List (Nat × Nat) → Bool
  | [] => true
  | (_, e) :: _ => Nat.ble e n

def Hp.grownBy (h : Hp) (f nb nz : Nat) (xs : List V) : Option Hp :=
  match h.fams.get f with
  | some l => match headOk (nb + xs.length) l with
    | true => some ⟨h.next + 1, h.t.put (some (.cells f nb nz xs)) h.next, h.fams.put (some ((h.next, nb + xs.length) :: l)) f, h.els⟩
    | false => none
  | none => none

theorem grownBy_fam (H : FamOk h) {h' : Hp} {f nb nz : Nat} {xs : List V} (hh : h.grownBy f nb nz xs = some h')
    (hf : f < h.next) (hno : ∀ x, h.t.get f = some x → ∃ fb fz ys g, x = .cells g fb fz ys) :
    FamOk h' ∧ h'.next = h.next + 1 ∧ (∀ b, h'.t.get b = if b = h.next then some (.cells f nb nz xs) else h.t.get b) ∧ h'.els = h.els := by
  unfold Hp.grownBy at hh
  split at hh
  · rename_i l h1
    split at hh
    · rename_i hd
      simp only [Option.some.injEq] at hh; subst hh
      have hml : ∀ q ∈ l, q.2 ≤ nb + xs.length := by
        intro q hq
        have hs := H.sorted f l h1
        cases l with
        | nil => cases hq
        | cons r l =>
          have hr := Nat.le_of_ble_eq_true hd
          rcases List.mem_cons.1 hq with e | hq
          · rw [e]; exact hr
          · have := (List.pairwise_cons.1 hs).1 q hq; exact Nat.le_trans this hr
      refine ⟨⟨?_, ?_, ?_, ?_⟩, rfl, fun b => by simp only [Tr.get_put], rfl⟩
      · intro a f' fb fz ys ha
        simp only [Tr.get_put] at ha ⊢
        by_cases e : a = h.next
        · subst e; simp at ha; obtain ⟨rfl, rfl, rfl, rfl⟩ := ha; exact ⟨(h.next, nb + xs.length) :: l, by simp, by simp⟩
        · rw [if_neg e] at ha
          obtain ⟨m, k1, k2⟩ := H.mem a f' fb fz ys ha
          by_cases e' : f' = f
          · subst e'; rw [h1] at k1; simp only [Option.some.injEq] at k1; subst k1
            exact ⟨(h.next, nb + xs.length) :: l, by simp, List.mem_cons_of_mem _ k2⟩
          · exact ⟨m, by rw [if_neg e']; exact k1, k2⟩
      · intro f' m hm
        simp only [Tr.get_put] at hm
        by_cases e' : f' = f
        · subst e'; rw [if_pos rfl] at hm; simp only [Option.some.injEq] at hm; subst hm
          exact List.pairwise_cons.2 ⟨fun q hq => hml q hq, H.sorted f' l h1⟩
        · rw [if_neg e'] at hm; exact H.sorted f' m hm
      · intro a x ha
        simp only [Tr.get_put] at ha ⊢
        by_cases e : a = h.next
        · subst e; simp at ha; subst ha; simp [famOf]; omega
        · rw [if_neg e] at ha; have := H.lt a x ha; omega
      · intro a f' fb fz ys b x ha hb hx
        simp only [Tr.get_put] at ha hb
        by_cases e : b = h.next
        · subst e; simp at hb; subst hb; exact absurd rfl (hx _ _ _ _)
        · rw [if_neg e] at hb
          by_cases e' : a = h.next
          · subst e'; simp at ha; obtain ⟨rfl, _⟩ := ha
            intro hfb
            rw [← hfb] at hb
            obtain ⟨p1, p2, p3, p4, rfl⟩ := hno x hb
            exact hx _ _ _ _ rfl
          · rw [if_neg e'] at ha; exact H.own a f' fb fz ys b x ha hb hx
    · cases hh
  · cases hh

def opAppend (P : Program) (h : Hp) (e : TypeId) (x y : V) : Option (V × Option Hp) :=
  match szOf P e, bytesOf P e, zeroC P e with
  | some sz, some by_, some zs => match elemsOf h sz y, elemsOf h sz x with
    | some (ys, k), some (os, m) =>
      if 0 < sz ∧ 0 < by_ ∧ zs.length = sz ∧ ys.all V.one = true ∧ roomOk (m + k) by_ = true then
        match x with
        | .nils => match k with
          | 0 => some (.nils, none)
          | _ => some (.sl h.next 0 k sz, some (h.new ys))
        | .sl a o n sz' =>
            match k with
            | 0 => some (.sl a o n sz', none)
            | _ => match h.t.get a with
              | some (.cells f fb fz xs) => if o + n * sz ≤ xs.length ∧ fz ≤ o + n * sz then
                  match h.kill h.next f (fb + (o + n * sz)) with
                  | some h1 => match h1.grownBy f (fb + o) (fz - o) (os ++ ys) with
                    | some h2 => some (.sl h.next 0 (n + k) sz, some h2)
                    | none => none
                  | none => none
                else none
              | _ => none
        | _ => none
      else none
    | _, _ => none
  | _, _, _ => none

theorem elemsOf_sl {a o n sz sz' k : Nat} {ys : List V} (he : elemsOf h sz (.sl a o n sz') = some (ys, k)) : k = n ∧ sz' = sz ∧ (n ≠ 0 → ∃ f fb fz xs, h.t.get a = some (.cells f fb fz xs) ∧ ys = (xs.drop o).take (n * sz)) := by
  unfold elemsOf at he
  simp only at he
  split at he
  · rename_i hsz
    split at he
    · simp only [Option.some.injEq, Prod.mk.injEq] at he; exact ⟨he.2.symm, hsz, fun hn => absurd rfl hn⟩
    · split at he
      · rename_i f fb fz xs hg
        split at he
        · simp only [Option.some.injEq, Prod.mk.injEq] at he; exact ⟨he.2.symm, hsz, fun _ => ⟨f, fb, fz, xs, hg, he.1.symm⟩⟩
        · cases he
      · cases he
  · cases he

theorem inPlace (H : Rel Γ N0 w0 ρ h w) {h1 h2 : Hp} {a f fb fz o p : Nat} {xs new : List V} {us : List Value} {L : Loc} {w' : World} {arr arr' : Array Value} {el : TypeId} {fr : Nat × Nat}
    (hg : h.t.get a = some (.cells f fb fz xs)) (hL : ρ a = some L) (ho : o ≤ L.lim) (n1 : h1.next = h.next) (s1 : ∀ b x, h1.t.get b = some x → h.t.get b = some x) (f1 : FamOk h1) (el1 : h1.els = h.els) (el2 : h2.els = h1.els)
    (e1 : ∃ l, h1.fams.get f = some l ∧ ∀ b e, (b, e) ∈ l → b ≠ h.next → e ≤ fb + p)
    (f2 : FamOk h2) (n2 : h2.next = h1.next + 1) (g2 : ∀ b, h2.t.get b = if b = h1.next then some (.cells f (fb + o) (fz - o) new) else h1.t.get b)
    (k1 : w.heap[L.b]? = some (.cells arr el fr)) (r2 : w'.heap[L.b]? = some (.cells arr' el fr)) (r3 : arr'.size = arr.size)
    (r4 : ∀ k, arr'[k]? = if L.base + p ≤ k ∧ k < L.base + p + us.length then us[k - (L.base + p)]? else arr[k]?)
    (r5 : ∀ b', b' ≠ L.b → w'.heap[b']? = w.heap[b']?) (r6 : w'.heap.size = w.heap.size) (r7 : w'.os = w.os) (r8 : w'.tape = w.tape) (r9 : w'.output = w.output)
    (hlim : o + new.length ≤ L.lim) (hnew : ∀ (i : Nat) y u, new[i]? = some y → arr'[L.base + o + i]? = some u → VR ρ y u) :
    Rel Γ N0 w0 (setR ρ h.next ⟨L.b, L.base + o, L.lim - o⟩) h2 w' := by
  have H1 := H.sub n1 s1 f1 el1
  have hfree := H.fresh h.next (Nat.le_refl _)
  have he := setR_ext (ρ := ρ) (L := ⟨L.b, L.base + o, L.lim - o⟩) hfree
  have hold : ∀ b M, b ≠ h.next → setR ρ h.next ⟨L.b, L.base + o, L.lim - o⟩ b = some M → ρ b = some M := fun b M hb hM => by simpa [setR, hb] using hM
  obtain ⟨M0, hM0, hN, arr0, el0, fr0, q1, k2, k3, k4, k5⟩ := (H.blk _ _ (some_ne (by assumption)) hg).ex
  rw [hL] at hM0; simp only [Option.some.injEq] at hM0; subst hM0
  rw [k1] at q1; simp only [Option.some.injEq, Obj.cells.injEq] at q1; obtain ⟨rfl, rfl, rfl⟩ := q1
  have hnx : ∀ b x, h1.t.get b = some x → b ≠ h.next := fun b x hx => by have := (f1.lt b x hx).1; omega
  rw [n1] at g2
  have hne : ∀ c x M, h1.t.get c = some x → ρ c = some M → (∀ gb gz ys, x ≠ .cells f gb gz ys) → M.b ≠ L.b := by
    intro c x M hx hM hxc
    refine H.sep c a x _ M L (s1 _ _ hx) hg hM hL ?_
    cases x with
    | cells f' gb gz zs => simp only [famOf]; intro e; exact hxc gb gz zs (by rw [e])
    | iter l p => simp only [famOf]; exact fun e => H.fam.own a f fb fz xs c _ hg (s1 _ _ hx) (fun _ _ _ _ hh => by cases hh) e.symm
    | mapo es c' => simp only [famOf]; exact fun e => H.fam.own a f fb fz xs c _ hg (s1 _ _ hx) (fun _ _ _ _ hh => by cases hh) e.symm
  refine ⟨?_, H.hN0, H.glob, ?_, ?_, ?_, ?_, ?_, f2, fun c e hne0 hce => by
    rw [el2] at hce
    have hcl := H1.elt c e hce
    rw [n1] at hcl
    have hne1 : ρ c ≠ none := by simp only [setR] at hne0; rw [if_neg (by omega)] at hne0; exact hne0
    obtain ⟨M, arr2, fr2, q1, q2, q3⟩ := H1.elk c e hne1 hce
    by_cases hbb : M.b = L.b
    · rw [hbb, k1] at q2
      simp only [Option.some.injEq, Obj.cells.injEq] at q2
      obtain ⟨rfl, rfl, rfl⟩ := q2
      exact ⟨M, arr', fr, he c M q1, by rw [hbb]; exact r2, by rw [r3]; exact q3⟩
    · exact ⟨M, arr2, fr2, he c M q1, (r5 _ hbb).trans q2, q3⟩,
    fun c e hce => by rw [el2] at hce; have := H1.elt c e hce; omega,
    ⟨by have := H.old.1; omega, fun c hc => by have := H.old.1; simp only [setR]; rw [if_neg (by omega)]; exact H.old.2 c hc⟩,
    H.kept.step (fun c hc _ => r5 c (fun e => hc a _ L hg hL e.symm)) fun c x M hx hM => by
      rw [g2] at hx
      by_cases e : c = h.next
      · subst e; simp [setR] at hM; subst hM; exact .inl ⟨a, _, L, hg, hL, rfl⟩
      · rw [if_neg e] at hx; exact .inl ⟨c, x, M, s1 _ _ hx, hold c M e hM, rfl⟩⟩
  · exact H.below.trans ⟨r7, r8, r9, by rw [r6]; exact Nat.le_refl _, fun k hk => r5 k (by omega)⟩
  · intro b hb
    simp only [setR]; rw [if_neg (by omega)]; exact H.fresh b (by omega)
  · intro b M hM
    rw [r6]
    by_cases e : b = h.next
    · subst e; simp [setR] at hM; subst hM; exact H.lt a L hL
    · exact H.lt b M (hold b M e hM)
  · intro c x hne0 hx
    rw [g2] at hx
    by_cases e : c = h.next
    · subst e
      rw [if_pos rfl] at hx; simp only [Option.some.injEq] at hx; subst hx
      refine ⟨⟨L.b, L.base + o, L.lim - o⟩, by simp [setR], hN, arr', el, fr, r2, ?_, ?_, fun i y u hy hu => (hnew i y u hy hu).ext he, fun q q1 q2 => ?_⟩
      · show arr'.size = L.base + o + (L.lim - o); rw [r3, k2]; omega
      · show new.length ≤ L.lim - o; omega
      · rw [r3]
        rcases k5 q q1 q2 with h' | h'
        · left; show q < L.base + o + (fz - o); omega
        · exact .inr h'
    · rw [if_neg e] at hx
      have hne1 : ρ c ≠ none := by simp only [setR] at hne0; rw [if_neg e] at hne0; exact hne0
      refine BlkR.ext ?_ he
      obtain ⟨M, hM, hMN, hx2⟩ := (H1.blk c x hne1 hx).ex
      refine ⟨M, hM, hMN, ?_⟩
      cases x with
      | cells f' gb gz zs =>
        obtain ⟨arr2, el2, fr2, q1, q2, q3, q4, q5⟩ := hx2
        by_cases hbb : M.b = L.b
        · have hff : f' = f := by
            apply Classical.byContradiction
            intro hff
            exact hne c _ M hx hM (fun gb gz ys hh => by simp only [Blk.cells.injEq] at hh; exact hff hh.1) hbb
          subst hff
          rw [hbb, k1] at q1
          simp only [Option.some.injEq, Obj.cells.injEq] at q1
          obtain ⟨rfl, rfl, rfl⟩ := q1
          have hend := kill_ends f1 e1 hx e
          have hco := H.same c a f' gb gz zs fb fz xs M L (s1 _ _ hx) hg hM hL hbb
          refine ⟨arr', el, fr, by rw [hbb]; exact r2, by rw [r3]; exact q2, q3, fun i y u hyy hu => ?_, fun q p1 p2 => by rw [r3]; exact q5 q p1 p2⟩
          have hil := (List.getElem?_eq_some_iff.1 hyy).1
          rw [r4, if_neg (by omega)] at hu
          exact q4 i y u hyy hu
        · exact ⟨arr2, el2, fr2, by rw [r5 _ hbb]; exact q1, q2, q3, q4, q5⟩
      | iter l p => obtain ⟨q, bs, hb, k⟩ := hx2; exact ⟨q, bs, hb, by rw [r5 _ (hne c _ M hx hM (fun _ _ _ hh => by cases hh))]; exact k⟩
      | mapo es c' =>
        obtain ⟨arr2, q⟩ := hx2
        exact ⟨arr2, by rw [r5 _ (hne c _ M hx hM (fun _ _ _ hh => by cases hh))]; exact q⟩
  · intro b c x y M M' hx hy hM hM' hff
    rw [g2] at hx hy
    by_cases e : b = h.next <;> by_cases e' : c = h.next
    · subst e; subst e'; rw [if_pos rfl] at hx hy; rw [hx] at hy; simp only [Option.some.injEq] at hy; subst hy; exact absurd rfl hff
    · subst e
      rw [if_pos rfl] at hx; simp only [Option.some.injEq] at hx; subst hx
      simp [setR] at hM; subst hM
      rw [if_neg e'] at hy
      exact H.sep a c _ y L M' hg (s1 _ _ hy) hL (hold c M' e' hM') hff
    · subst e'
      rw [if_pos rfl] at hy; simp only [Option.some.injEq] at hy; subst hy
      simp [setR] at hM'; subst hM'
      rw [if_neg e] at hx
      exact H.sep b a x _ M L (s1 _ _ hx) hg (hold b M e hM) hL hff
    · rw [if_neg e] at hx; rw [if_neg e'] at hy
      exact H.sep b c x y M M' (s1 _ _ hx) (s1 _ _ hy) (hold b M e hM) (hold c M' e' hM') hff
  · intro b c f' gb gz zs gb' gz' zs' M M' hx hy hM hM' hbb
    rw [g2] at hx hy
    by_cases e : b = h.next <;> by_cases e' : c = h.next
    · subst e; subst e'; rw [if_pos rfl] at hx hy; rw [hx] at hy
      simp only [Option.some.injEq, Blk.cells.injEq] at hy
      obtain ⟨_, rfl, _, _⟩ := hy
      rw [hM] at hM'; simp only [Option.some.injEq] at hM'; subst hM'; rfl
    · subst e
      rw [if_pos rfl] at hx; simp only [Option.some.injEq, Blk.cells.injEq] at hx; obtain ⟨rfl, rfl, _, _⟩ := hx
      simp [setR] at hM; subst hM
      rw [if_neg e'] at hy
      have := H.same a c f fb fz xs gb' gz' zs' L M' hg (s1 _ _ hy) hL (hold c M' e' hM') hbb
      show L.base + o + gb' = M'.base + (fb + o); omega
    · subst e'
      rw [if_pos rfl] at hy; simp only [Option.some.injEq, Blk.cells.injEq] at hy; obtain ⟨rfl, rfl, _, _⟩ := hy
      simp [setR] at hM'; subst hM'
      rw [if_neg e] at hx
      have := H.same b a f gb gz zs fb fz xs M L (s1 _ _ hx) hg (hold b M e hM) hL hbb
      show M.base + (fb + o) = L.base + o + gb; omega
    · rw [if_neg e] at hx; rw [if_neg e'] at hy
      exact H.same b c f' gb gz zs gb' gz' zs' M M' (s1 _ _ hx) (s1 _ _ hy) (hold b M e hM) (hold c M' e' hM') hbb

/-- what an operation's run gives, and the heap behind it -/
def Good (Γ : Glob) (N0 : Nat) (w0 : Fr) (ρ : Ren) (h : Hp) (x : V) (h' : Option Hp) (r : Result Value) : Prop :=
  ∃ u w' ρ', r = .ok u w' ∧ Ext ρ ρ' ∧ Rel Γ N0 w0 ρ' (h'.getD h) w' ∧ VR ρ' x u

/-- of what type the new block's elements are -/
def ElOk (h : Hp) (e : TypeId) (x : V) (h' : Option Hp) (ρ' : Ren) (w' : World) : Prop :=
  ∀ h2, h' = some h2 → ∃ L arr el fr, ρ' h.next = some L ∧ w'.heap[L.b]? = some (.cells arr el fr) ∧ ((el = e ∧ FrOk fr arr.size) ∨ ∃ a o n sz, x = .sl a o n sz ∧ ∀ e0, h.els.get a = some e0 → el = e0 / 2 ∧ FrOk fr arr.size)

theorem opAppend_sound (H : Rel Γ N0 w0 ρ h w) {e : TypeId} {x y v : V} {ux uy : Value} {h' : Option Hp} {argTypes : Array TypeId} {T sT : TypeId} (hx : VR ρ x ux) (hy : VR ρ y uy)
    (h0 : argTypes[0]? = some sT) (h1 : P.underlying sT = some (.slice e)) (hpl : plainArg P argTypes = true) (hs : opAppend P h e x y = some (v, h')) :
    ∃ u w' ρ', (Builtin.append_ argTypes T #[ux, uy]).run P w = .ok u w' ∧ Ext ρ ρ' ∧ Rel Γ N0 w0 ρ' (h'.getD h) w' ∧ VR ρ' v u ∧ ElOk h e x h' ρ' w' := by
  unfold opAppend at hs
  split at hs
  · rename_i sz by_ zs hsz hby hzs
    split at hs
    · rename_i ys k os m hel helx
      split at hs
      · rename_i hc
        obtain ⟨hp, hbp, hzl, hone, hroom⟩ := hc
        have hroom' : (2 * (m + k) + 192) * by_ ≤ 281474976710656 := of_decide_eq_true hroom
        obtain ⟨hlenU, hyl, us, hnewU, hVs⟩ := elemsOf_sound (P := P) H hy hel
        obtain ⟨_, hol, old, holdU, hOld⟩ := elemsOf_sound (P := P) H hx helx
        have husl : us.length = k * sz := by rw [← hVs.1]; exact hyl
        have holdl : old.length = m * sz := by rw [← hOld.1]; exact hol
        have hall := hOld.append hVs
        have halll : (old ++ us).length = (m + k) * sz := by rw [List.length_append, husl, holdl, ← Nat.add_mul]
        have hexp : (m + k) * sz = m * sz + k * sz := Nat.add_mul _ _ _
        -- in a new block
        have realloc : ∀ (base : Option Addr) (c : Nat), ux = .slice base m c → c < m + k → ∃ nc rest, m + k ≤ nc ∧ (old.toArray ++ us.toArray ++ rest).size = nc * sz ∧
            (∀ (i : Nat) z u, (os ++ ys)[i]? = some z → (old.toArray ++ us.toArray ++ rest)[i]? = some u → VR ρ z u) ∧
            (Builtin.append_ argTypes T #[ux, uy]).run P w = .ok (.slice (some ⟨w.heap.size, 0, none⟩) (m + k) nc) (World.new (World.drew1 w) (.cells (old.toArray ++ us.toArray ++ rest) e)) := by
          intro base c hux hc
          subst hux
          obtain ⟨g1, _⟩ := append_run (P := P) (w := w) (T := T) (base := base) (len := m) (cap := c) h0 h1 hsz hby hzs hbp hpl hlenU hroom' holdU hnewU
          obtain ⟨nc, rest, hnc, hrest, hrun⟩ := g1 (by omega)
          refine ⟨nc, rest, hnc, ?_, fun i z u hz hu => ?_, hrun⟩
          · simp [husl, holdl, hrest, hzl]; rw [← Nat.add_mul, ← Nat.add_mul]; congr 1; omega
          · have hi := (List.getElem?_eq_some_iff.1 hz).1
            have hi2 : i < (old ++ us).length := by rw [← hall.1]; exact hi
            refine hall.2 i z u hz ?_
            have e1 : old.toArray ++ us.toArray = (old ++ us).toArray := by simp
            rw [e1, Array.getElem?_append_left (by simpa using hi2)] at hu
            simpa using hu
        split at hs
        · -- a nil slice
          have hm : m = 0 ∧ os = [] := by simp [elemsOf] at helx; exact ⟨helx.2.symm, helx.1⟩
          obtain ⟨rfl, rfl⟩ := hm
          cases hx
          split at hs
          · simp only [Option.some.injEq, Prod.mk.injEq] at hs; obtain ⟨rfl, rfl⟩ := hs
            obtain ⟨_, g2⟩ := append_run (P := P) (w := w) (T := T) (base := none) (len := 0) (cap := 0) h0 h1 hsz hby hzs hbp hpl hlenU hroom' (fun w' _ => firstCells_nil w') hnewU
            exact ⟨_, _, ρ, g2 (Nat.le_refl _) w rfl, .refl _, H, .nils, fun h2 hh => by cases hh⟩
          · rename_i hk
            simp only [Option.some.injEq, Prod.mk.injEq] at hs; obtain ⟨rfl, rfl⟩ := hs
            obtain ⟨nc, rest, q1, q2, q3, q4⟩ := realloc none 0 rfl (by rw [Nat.zero_add]; exact Nat.pos_of_ne_zero fun e => hk e)
            simp only [Nat.zero_add] at q1 q4
            have hle : k * sz ≤ nc * sz := Nat.mul_le_mul_right _ q1
            refine ⟨_, _, setR ρ h.next ⟨w.heap.size, 0, (old.toArray ++ us.toArray ++ rest).size⟩, q4, setR_ext (H.fresh _ (Nat.le_refl _)), (H.drawn (w.drawn + 1)).newCells (by rw [q2, hyl]; exact hle) (fun o p1 p2 => by simp at p2) q3, ?_, fun h2 _ => ⟨_, _, e, (0, 0), if_pos rfl, new_heap_new (World.drew1 w) _, .inl ⟨rfl, .inl rfl⟩⟩⟩
            exact .sl h.next 0 k sz nc ⟨w.heap.size, 0, (old.toArray ++ us.toArray ++ rest).size⟩ (if_pos rfl) q1 (by simp only [Nat.zero_add]; rw [q2]; exact Nat.le_refl _)
        · rename_i a o n sz'
          obtain ⟨rfl, rfl, hcon⟩ := elemsOf_sl helx
          have hxs : ∃ base c, ux = .slice base m c ∧ m ≤ c := by cases hx <;> exact ⟨_, _, rfl, by omega⟩
          split at hs
          · simp only [Option.some.injEq, Prod.mk.injEq] at hs; obtain ⟨rfl, rfl⟩ := hs
            obtain rfl : us = [] := by cases us with | nil => rfl | cons _ _ => simp at husl
            obtain ⟨base, c, rfl, hmc⟩ := hxs
            obtain ⟨_, g2⟩ := append_run (P := P) (w := w) (T := T) (base := base) (len := m) (cap := c) h0 h1 hsz hby hzs hbp hpl hlenU hroom' holdU hnewU
            exact ⟨_, _, ρ, g2 hmc w (by cases base <;> simp [storeCells]), .refl _, H, hx, fun h2 hh => by cases hh⟩
          · rename_i hk
            have hk' : k ≠ 0 := fun e => hk e
            split at hs
            · rename_i f fb fz xs hg
              split at hs
              · rename_i hc
                obtain ⟨hle, hfz⟩ := hc
                split at hs
                · rename_i hh1 hkill
                  split at hs
                  · rename_i hh2 hgrow
                    simp only [Option.some.injEq, Prod.mk.injEq] at hs; obtain ⟨rfl, rfl⟩ := hs
                    obtain ⟨f1, n1, s1, _, e1, el1⟩ := kill_fam H.fam hkill
                    have hff := (H.fam.lt _ _ hg).2
                    simp only [famOf] at hff
                    obtain ⟨f2, n2, g2, el2⟩ := grownBy_fam f1 hgrow (by omega) (fun x hx => by
                      cases x with
                      | cells g fb fz ys => exact ⟨_, _, _, _, rfl⟩
                      | iter l p => exact absurd rfl (H.fam.own a f fb fz xs f _ hg (s1 _ _ hx) (fun _ _ _ _ hh => by cases hh))
                      | mapo es c => exact absurd rfl (H.fam.own a f fb fz xs f _ hg (s1 _ _ hx) (fun _ _ _ _ hh => by cases hh)))
                    have fin1 : ∀ (base : Option Addr) (c : Nat), ux = .slice base m c → c < m + k → ∃ u w' ρ', (Builtin.append_ argTypes T #[ux, uy]).run P w = .ok u w' ∧ Ext ρ ρ' ∧ Rel Γ N0 w0 ρ' hh2 w' ∧ VR ρ' (.sl h.next 0 (m + k) sz') u ∧ ElOk h e (.sl a o m sz') (some hh2) ρ' w' := by
                      intro base c hux hcl
                      obtain ⟨nc, rest, q1, q2, q3, q4⟩ := realloc base c hux hcl
                      have hle2 : (m + k) * sz' ≤ nc * sz' := Nat.mul_le_mul_right _ q1
                      have H1 := ((H.sub n1 s1 f1 el1).drawn (w.drawn + 1))
                      refine ⟨_, _, setR ρ h.next ⟨w.heap.size, 0, nc * sz'⟩, q4, setR_ext (H.fresh _ (Nat.le_refl _)), ?_, .sl _ _ _ _ _ ⟨w.heap.size, 0, nc * sz'⟩ (by simp [setR]) q1 (by simp), fun h2 _ => ⟨⟨w.heap.size, 0, nc * sz'⟩, _, e, (0, 0), if_pos rfl, new_heap_new (World.drew1 w) _, .inl ⟨rfl, .inl rfl⟩⟩⟩
                      have := H1.newBlk (Nat.le_trans H.hN0 H.below.size) (x := .cells f (fb + o) (fz - o) (os ++ ys)) (h' := hh2) (L := ⟨w.heap.size, 0, nc * sz'⟩) (w' := World.new (World.drew1 w) (.cells (old.toArray ++ us.toArray ++ rest) e)) (by rw [n2]) g2 (new_below _ _) rfl (by rw [new_size]; exact Nat.lt_succ_self _) ?_ f2 el2
                      · rw [n1] at this; exact this
                      · rw [n1]
                        refine ⟨⟨w.heap.size, 0, nc * sz'⟩, by simp [setR], Nat.le_trans H.hN0 H.below.size, _, e, (0, 0), new_heap_new _ _, by simp only [Nat.zero_add]; exact q2, ?_, fun i z u hz hu => ?_, fun q q1 q2 => by simp at q2⟩
                        · show (os ++ ys).length ≤ nc * sz'
                          rw [hall.1, halll]; exact hle2
                        · rw [Nat.zero_add] at hu
                          exact (q3 i z u hz hu).ext (setR_ext (H.fresh _ (Nat.le_refl _)))
                    cases hx with
                    | sl0 _ _ _ q => exact fin1 (some q) 0 rfl (by omega)
                    | sl _ _ _ _ c L hL hcc hl =>
                      obtain ⟨M, hM, hMN, arr, el, fr, k1, k2, k3, k4, k5⟩ := (H.blk _ _ (some_ne hL) hg).ex
                      rw [hL] at hM; simp only [Option.some.injEq] at hM; subst hM
                      by_cases hfit : m + k ≤ c
                      · -- in its own block
                        have hcl : (m + k) * sz' ≤ c * sz' := Nat.mul_le_mul_right _ hfit
                        obtain ⟨w', arr', r1, r2, r3, r4, r5, r6, r7, r8, r9⟩ := run_storeCells (P := P) us (w := w) (arr := arr) (off := L.base + o + m * sz') 0 k1 (by omega) (fun q q1 q2 hh => by
                          rcases k5 q hh.1 hh.2 with q' | q'
                          · omega
                          · omega) (hVs.oneCells hone)
                        obtain ⟨_, gg⟩ := append_run (P := P) (w := w) (T := T) (base := some ⟨L.b, L.base + o, none⟩) (len := m) (cap := c) h0 h1 hsz hby hzs hbp hpl hlenU hroom' holdU hnewU
                        have hrun := gg hfit w' (by simp only [add_none]; exact r1)
                        refine ⟨_, w', setR ρ h.next ⟨L.b, L.base + o, L.lim - o⟩, hrun, setR_ext (H.fresh _ (Nat.le_refl _)), ?_, ?_, fun h2 _ => ⟨⟨L.b, L.base + o, L.lim - o⟩, arr', el, fr, if_pos rfl, r2, .inr ⟨a, o, m, sz', rfl, fun e0 he0 => by
                          obtain ⟨L0, arr0, fr0, z1, z2, z3⟩ := H.elk a e0 (some_ne hL) he0
                          rw [hL] at z1; simp only [Option.some.injEq] at z1; subst z1
                          rw [k1] at z2; simp only [Option.some.injEq, Obj.cells.injEq] at z2
                          obtain ⟨rfl, rfl, rfl⟩ := z2
                          exact ⟨rfl, by rw [r3]; exact z3.1⟩⟩⟩⟩
                        · refine inPlace H (p := o + m * sz') (us := us) (new := os ++ ys) (arr := arr) (arr' := arr') (el := el) (fr := fr) hg hL (by omega) n1 s1 f1 el1 el2 e1 f2 n2 g2 k1 r2 r3 (fun q => ?_) r5 r6 r7 r8 r9 (by rw [hall.1, halll]; omega) (fun i z u hz hu => ?_)
                          · rw [r4 q, Nat.add_zero, Nat.add_assoc]
                          · rw [r4] at hu
                            by_cases hi : i < os.length
                            · rw [List.getElem?_append_left hi] at hz
                              rw [if_neg (by omega)] at hu
                              have hm0 : m ≠ 0 := by intro e; subst e; simp at hol; subst hol; simp at hi
                              obtain ⟨f', fb', fz', xs', hg', hos⟩ := hcon hm0
                              rw [hg] at hg'; simp only [Option.some.injEq, Blk.cells.injEq] at hg'; obtain ⟨rfl, rfl, rfl, rfl⟩ := hg'
                              rw [hos, List.getElem?_take, if_pos (by omega), drop_drop_get] at hz
                              exact k4 (o + i) z u hz (by rw [← Nat.add_assoc]; exact hu)
                            · rw [List.getElem?_append_right (by omega)] at hz
                              have hil := (List.getElem?_eq_some_iff.1 hz).1
                              rw [if_pos (by omega)] at hu
                              refine hVs.2 (i - os.length) z u hz ?_
                              rw [← hu]; congr 1; omega
                        · refine .sl _ _ _ _ _ ⟨L.b, L.base + o, L.lim - o⟩ (by simp [setR]) hfit ?_
                          show 0 + c * sz' ≤ L.lim - o; omega
                      · exact fin1 _ _ rfl (by omega)
                  · cases hs
                · cases hs
              · cases hs
            · cases hs
        · cases hs
      · cases hs
    · cases hs
  · cases hs

def Hp.withEl (h : Hp) (a e : Nat) : Hp := { h with els := h.els.put (some e) a }

theorem Rel.withEl (H : Rel Γ N0 w0 ρ h w) {a e : Nat} {L : Loc} {arr : Array Value} {fr : Nat × Nat} (hL : ρ a = some L) (hb : w.heap[L.b]? = some (.cells arr (e / 2) fr)) (hfr : FrOk fr arr.size) (hbase : e % 2 = 1 → L.base = 0) : Rel Γ N0 w0 ρ (h.withEl a e) w where
  below := H.below
  hN0 := H.hN0
  glob := H.glob
  fresh := H.fresh
  lt := H.lt
  blk := H.blk
  sep := H.sep
  same := H.same
  fam := ⟨H.fam.mem, H.fam.sorted, H.fam.lt, H.fam.own⟩
  elk := fun b e' hne he => by
    simp only [Hp.withEl, Tr.get_put] at he
    by_cases hba : b = a
    · subst hba; rw [if_pos rfl] at he; simp only [Option.some.injEq] at he; subst he; exact ⟨L, arr, fr, hL, hb, hfr, hbase⟩
    · rw [if_neg hba] at he; exact H.elk b e' hne he
  elt := fun b e' he => by
    simp only [Hp.withEl, Tr.get_put] at he
    show b < h.next
    by_cases hba : b = a
    · subst hba
      rcases Nat.lt_or_ge b h.next with hh | hh
      · exact hh
      · rw [H.fresh b hh] at hL; cases hL
    · rw [if_neg hba] at he; exact H.elt b e' he
  old := H.old
  kept := H.kept

/-- append, and what is known of the new block's elements -/
def opAppendE (P : Program) (h : Hp) (e : TypeId) (x y : V) : Option (V × Option Hp) :=
  match opAppend P h e x y with
  | some (v, some h2) => match x with
    | .nils => some (v, some (h2.withEl h.next (2 * e)))
    | .sl a _ _ _ => match h.els.get a with
      | some e0 => if e0 / 2 = e then some (v, some (h2.withEl h.next (2 * e))) else some (v, some h2)
      | none => some (v, some h2)
    | _ => none
  | r => r

theorem opAppendE_sound (H : Rel Γ N0 w0 ρ h w) {e : TypeId} {x y v : V} {ux uy : Value} {h' : Option Hp} {argTypes : Array TypeId} {T sT : TypeId} (hx : VR ρ x ux) (hy : VR ρ y uy)
    (h0 : argTypes[0]? = some sT) (h1 : P.underlying sT = some (.slice e)) (hpl : plainArg P argTypes = true) (hs : opAppendE P h e x y = some (v, h')) :
    Good Γ N0 w0 ρ h v h' ((Builtin.append_ argTypes T #[ux, uy]).run P w) := by
  unfold opAppendE at hs
  cases ha : opAppend P h e x y with
  | none => rw [ha] at hs; cases hs
  | some r =>
    obtain ⟨v1, h1'⟩ := r
    obtain ⟨u, w', ρ', g1, g2, g3, g4, g5⟩ := opAppend_sound (T := T) H hx hy h0 h1 hpl ha
    rw [ha] at hs
    cases h1' with
    | none =>
      simp only [Option.some.injEq, Prod.mk.injEq] at hs; obtain ⟨rfl, rfl⟩ := hs
      exact ⟨u, w', ρ', g1, g2, g3, g4⟩
    | some h2 =>
      obtain ⟨L, arr, el, fr, q1, q2, q3⟩ := g5 h2 rfl
      simp only at hs
      split at hs
      · simp only [Option.some.injEq, Prod.mk.injEq] at hs; obtain ⟨rfl, rfl⟩ := hs
        have : el = e ∧ FrOk fr arr.size := by rcases q3 with q3 | ⟨a, o, n, sz, hh, _⟩; exact q3; cases hh
        obtain ⟨rfl, hfr⟩ := this
        exact ⟨u, w', ρ', g1, g2, Rel.withEl g3 q1 (by rw [Nat.mul_div_cancel_left _ (by omega)]; exact q2) hfr (fun hh => by omega), g4⟩
      · rename_i a o n sz
        split at hs
        · rename_i e0 he0
          split at hs
          · rename_i hee
            subst hee
            simp only [Option.some.injEq, Prod.mk.injEq] at hs; obtain ⟨rfl, rfl⟩ := hs
            have : el = e0 / 2 ∧ FrOk fr arr.size := by
              rcases q3 with q3 | ⟨a', o', n', sz', hh, hq⟩
              · exact q3
              · simp only [V.sl.injEq] at hh; obtain ⟨rfl, _⟩ := hh; exact hq e0 he0
            obtain ⟨rfl, hfr⟩ := this
            exact ⟨u, w', ρ', g1, g2, Rel.withEl g3 q1 (by rw [Nat.mul_div_cancel_left _ (by omega)]; exact q2) hfr (fun hh => by omega), g4⟩
          · simp only [Option.some.injEq, Prod.mk.injEq] at hs; obtain ⟨rfl, rfl⟩ := hs
            exact ⟨u, w', ρ', g1, g2, g3, g4⟩
        · simp only [Option.some.injEq, Prod.mk.injEq] at hs; obtain ⟨rfl, rfl⟩ := hs
          exact ⟨u, w', ρ', g1, g2, g3, g4⟩
      · cases hs

end
end Go.Proofs.YtbfdgdigaiimgaaDoor.HM
