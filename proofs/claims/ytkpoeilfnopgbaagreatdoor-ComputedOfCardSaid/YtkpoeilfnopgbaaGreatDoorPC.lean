/- The heap machine, 6: structs and slices built, strings and slices, iterators. -/
import Derived.Test.YtkpoeilfnopgbaaGreatDoorPB
import Derived.Laws.RangeString
namespace Go.Proofs.YtkpoeilfnopgbaaGreatDoor.HM
open Go Go.RowKit
variable [E : Amb]
omit [E : Amb] in
theorem fold_set (off : Nat) : ∀ (l : List Value) (i : Nat) (arr : Array Value), off + i + l.length ≤ arr.size →
  ((l.zipIdx i).foldl (fun (cs : Array Value) (x : Value × Nat) => cs.setIfInBounds (off + x.2) x.1) arr).size = arr.size ∧
  ∀ k, ((l.zipIdx i).foldl (fun (cs : Array Value) (x : Value × Nat) => cs.setIfInBounds (off + x.2) x.1) arr)[k]? = if off + i ≤ k ∧ k < off + i + l.length then l[k - (off + i)]? else arr[k]? := by
 intro l
 induction l with
 | nil => intro i arr _; exact ⟨rfl, fun k => by simp; intro h1 h2; omega⟩
 | cons a l ih =>
  intro i arr h
  simp only [List.length_cons] at h
  simp only [List.zipIdx_cons, List.foldl_cons]
  obtain ⟨h1, h2⟩ := ih (i + 1) (arr.setIfInBounds (off + i) a) (by simp; omega)
  refine ⟨by rw [h1]; simp, fun k => ?_⟩
  rw [h2 k]
  by_cases e : k = off + i
  ·subst e
   rw [if_neg (by omega), if_pos ⟨by omega, by simp only [List.length_cons]; omega⟩]
   rw [Array.getElem?_setIfInBounds]
   simp only [if_true, Nat.sub_self, List.getElem?_cons_zero]
   rw [if_pos (by omega)]
  ·by_cases e2 : off + (i + 1) ≤ k ∧ k < off + (i + 1) + l.length
   ·rw [if_pos e2, if_pos (by simp only [List.length_cons]; omega)]
    rw [show k - (off + i) = (k - (off + (i + 1))) + 1 by omega]
    rfl
   ·rw [if_neg e2, if_neg (by simp only [List.length_cons]; omega)]
    rw [Array.getElem?_setIfInBounds, if_neg (by omega)]
def vfill (place : Nat → Option (Nat × Nat)) (cells : List V) : List (Nat × V) → Option (List V)
 | [] => some cells
 | (i, v) :: rest => match place i with
  | none => none
  | some (off, size) => if (v.cells.length = size ∧ v.isAny = false) ∧ off + v.cells.length ≤ cells.length then vfill place (splice cells v.cells off) rest else none
theorem fill_sound {R : Ren} {place : Nat → Option (Nat × Nat)} : ∀ (vs : List (Nat × V)) (us : List (Nat × Value)) (cells : List V) (arr : Array Value) (cs : List V),
  VRs R cells arr.toList → vs.length = us.length → (∀ (k : Nat) x y, vs[k]? = some x → us[k]? = some y → x.1 = y.1 ∧ VR R x.2 y.2) → vfill place cells vs = some cs →
  ∃ arr', Instr.fill place arr us = some arr' ∧ VRs R cs arr'.toList := by
 intro vs
 induction vs with
 | nil =>
  intro us cells arr cs hc hl _ h
  obtain rfl : us = [] := by cases us with | nil => rfl | cons _ _ => simp at hl
  simp only [vfill, Option.some.injEq] at h; subst h
  exact ⟨arr, rfl, hc⟩
 | cons x vs ih =>
  intro us cells arr cs hc hl hr h
  cases us with
  | nil => simp at hl
  | cons y us =>
   obtain ⟨i, v⟩ := x
   obtain ⟨i', u⟩ := y
   obtain ⟨e, hv0⟩ := hr 0 _ _ rfl rfl
   simp only at e; subst e
   simp only [vfill] at h
   split at h
   ·cases h
   ·rename_i off size hp
    split at h
    ·rename_i hb
     have hv := hv0.cells hb.1.2
     simp only at hv
     have h1 : u.cells.size = v.cells.length := by simpa using hv.1.symm
     have h2 : arr.size = cells.length := by simpa using hc.1.symm
     obtain ⟨hs, hg⟩ := fold_set off u.cells.toList 0 arr (by simp; omega)
     have hz : u.cells.zipIdx.foldl (fun cs (c, j) => cs.setIfInBounds (off + j) c) arr = (u.cells.toList.zipIdx 0).foldl (fun (cs : Array Value) (x : Value × Nat) => cs.setIfInBounds (off + x.2) x.1) arr := by
      rw [← Array.foldl_toList]; simp
     have hc2 : VRs R (splice cells v.cells off) (u.cells.zipIdx.foldl (fun cs (c, j) => cs.setIfInBounds (off + j) c) arr).toList := by
      refine ⟨?_, fun k y v' hy hv' => ?_⟩
      ·rw [splice_length hb.2, hz]; have := hs; rw [h2] at this; simpa using this.symm
      ·rw [hz] at hv'
       rw [Array.getElem?_toList, hg] at hv'
       rw [splice_get hb.2] at hy
       by_cases hk : off ≤ k ∧ k < off + v.cells.length
       ·rw [if_pos hk] at hy
        rw [if_pos (by simp; omega)] at hv'
        exact hv.2 _ y v' hy (by simpa using hv')
       ·rw [if_neg hk] at hy
        rw [if_neg (by simp; omega)] at hv'
        exact hc.2 k y v' hy (by simpa using hv')
     obtain ⟨arr', ha, hc'⟩ := ih us _ _ cs hc2 (by simpa using hl) (fun k x y hx hy => hr (k + 1) x y (by simpa using hx) (by simpa using hy)) h
     refine ⟨arr', ?_, hc'⟩
     simp only [Instr.fill, hp]
     rw [if_neg (by simp; omega)]
     exact ha
    ·cases h
def placesOf (P : Program) (fs : List Field) : Option (List (Nat × Nat)) := mapC (fun f => (szOf P f.type).map fun s => (f.offset, s)) fs
def opBuild (P : Program) (T : TypeId) (parts : List (Nat × V)) : Option V :=
 match zeroC P T, P.underlying T with
 | some zs, some (.struct fs) => match placesOf P fs.toList with
  | some pl => (vfill (pl[·]?) zs parts).map .agg
  | none => none
 | some zs, some (.array _ e) => match szOf P e with
  | some sz => (vfill (fun i => some (i * sz, sz)) zs parts).map .agg
  | none => none
 | _, _ => none
omit [E : Amb] in
theorem run_listMapM {P : Program} {w : World} {α β γ : Type} (g : α → Sem β) (f : α → Option γ) (r : γ → β) (hg : ∀ a c, f a = some c → (g a).run P w = .ok (r c) w) :
  ∀ (l : List α) (cs : List γ), mapC f l = some cs → (l.mapM g).run P w = .ok (cs.map r) w := by
 intro l
 induction l with
 | nil => intro cs h; simp [mapC] at h; subst h; rfl
 | cons a l ih =>
  intro cs h
  simp only [mapC] at h
  split at h
  case h_2 => cases h
  rename_i c cs' hc hcs
  simp only [Option.some.injEq] at h; subst h
  simp only [List.mapM_cons, Sem.run_bind, hg a c hc, Result.andThen_ok, ih cs' hcs]
  rfl
section
variable {P : Program} {Γ : Glob} {N0 : Nat} {w0 : Fr} {ρ : Ren} {h : Hp} {w : World}
theorem opBuild_sound {T : TypeId} {parts : List (Nat × V)} {us : List (Nat × Value)} {x : V} (hl : parts.length = us.length)
  (hr : ∀ (k : Nat) a b, parts[k]? = some a → us[k]? = some b → a.1 = b.1 ∧ VR ρ a.2 b.2) (hb : opBuild P T parts = some x) :
  ∃ y, (Instr.build T us.toArray).run P w = .ok y w ∧ VR ρ x y := by
 unfold opBuild at hb
 split at hb
 ·rename_i zs fs hz hT
  split at hb
  ·rename_i pl hpl
   simp only [Option.map_eq_some_iff] at hb
   obtain ⟨cs, hcs, rfl⟩ := hb
   obtain ⟨z, hzr, hzl⟩ := run_zeroValue (P := P) (w := w) hz
   obtain ⟨arr, ha, hc⟩ := fill_sound (R := ρ) parts us zs z.cells cs (hzl ρ) hl hr hcs
   refine ⟨.agg arr, ?_, VRs.agg hc⟩
   have hm : (fs.mapM fun f => do pure (f.offset, ← sizeOf f.type) : Sem (Array (Nat × Nat))).run P w = .ok pl.toArray w := by
    rw [Array.mapM_eq_mapM_toList, Sem.run_map]
    rw [run_listMapM (P := P) (w := w) _ (fun f : Field => (szOf P f.type).map fun s => (f.offset, s)) id (fun f c hc => by
     simp only [Option.map_eq_some_iff] at hc
     obtain ⟨s, hs, rfl⟩ := hc
     simp only [Sem.run_bind, run_sizeOf hs, Result.andThen_ok]; rfl) _ _ hpl]
    simp
   simp only [Instr.build, Sem.run_bind, hzr, Result.andThen_ok, run_underlying hT, hm]
   have e : (fun x : Nat => pl.toArray[x]?) = (fun x : Nat => pl[x]?) := by funext k; simp
   rw [e, ha]; rfl
  ·cases hb
 ·rename_i zs len e hz hT
  split at hb
  ·rename_i sz hsz
   simp only [Option.map_eq_some_iff] at hb
   obtain ⟨cs, hcs, rfl⟩ := hb
   obtain ⟨z, hzr, hzl⟩ := run_zeroValue (P := P) (w := w) hz
   obtain ⟨arr, ha, hc⟩ := fill_sound (R := ρ) parts us zs z.cells cs (hzl ρ) hl hr hcs
   refine ⟨.agg arr, ?_, VRs.agg hc⟩
   simp only [Instr.build, Sem.run_bind, hzr, Result.andThen_ok, run_underlying hT, run_sizeOf hsz, ha]; rfl
  ·cases hb
 ·cases hb
def opAlloc (P : Program) (h : Hp) (T : TypeId) : Option (V × Option Hp) :=
 match zeroC P T with
 | some cs => some (.ptr h.next 0, some ((h.new cs).withEl h.next (2 * T + 1)))
 | none => none
def opBox (h : Hp) (T : TypeId) (v : V) : V × Option Hp := (.ptr h.next 0, some ((h.new v.cells).withEl h.next (2 * T + 1)))
theorem newVR (H : Rel Γ N0 w0 ρ h w) {xs : List V} {us : Array Value} (el : TypeId) (hv : VRs ρ xs us.toList) :
  ∃ ρ', Ext ρ ρ' ∧ Rel Γ N0 w0 ρ' (h.new xs) (World.new w (.cells us el)) ∧ ρ' h.next = some ⟨w.heap.size, 0, us.size⟩ :=
 ⟨_, setR_ext (H.fresh _ (Nat.le_refl _)), H.newCells (by rw [hv.1]; simp) (fun o p1 p2 => by simp at p2) (fun i y u hy hu => hv.2 i y u hy (by simpa using hu)), by simp [setR]⟩
omit [E : Amb] in
theorem half_odd (n : Nat) : (2 * n + 1) / 2 = n := by omega
theorem newEl {xs : List V} {us : Array Value} {el : TypeId} {ρ' : Ren} (H : Rel Γ N0 w0 ρ' (h.new xs) (World.new w (.cells us el))) (hL : ρ' h.next = some ⟨w.heap.size, 0, us.size⟩) :
  Rel Γ N0 w0 ρ' ((h.new xs).withEl h.next (2 * el + 1)) (World.new w (.cells us el)) :=
 H.withEl hL (by rw [half_odd]; exact new_heap_new w _) (.inl rfl) (fun _ => rfl)
theorem VR.newPtr {ρ : Ren} {a b n : Nat} (h : ρ a = some ⟨b, 0, n⟩) : VR ρ (.ptr a 0) (.pointer (some ⟨b, 0, none⟩)) := .ptr a 0 ⟨b, 0, n⟩ h
theorem opAlloc_sound (H : Rel Γ N0 w0 ρ h w) {T : TypeId} {x : V} {h' : Option Hp} (hs : opAlloc P h T = some (x, h')) : Good Γ N0 w0 ρ h x h' ((Instr.alloc T true (.tuple #[])).run P w) := by
 unfold opAlloc at hs
 split at hs
 ·rename_i cs hz
  simp only [Option.some.injEq, Prod.mk.injEq] at hs; obtain ⟨rfl, rfl⟩ := hs
  obtain ⟨z, hzr, hzl⟩ := run_zeroValue (P := P) (w := w) hz
  obtain ⟨ρ', e1, e2, e3⟩ := newVR H (us := z.cells) T (hzl ρ)
  refine ⟨_, _, ρ', ?_, e1, newEl e2 e3, VR.newPtr e3⟩
  simp only [Instr.alloc, Sem.run_bind, hzr, Result.andThen_ok, newVar, run_newRow]; rfl
 ·cases hs
theorem opBox_sound (H : Rel Γ N0 w0 ρ h w) {T : TypeId} {v : V} {u : Value} (hv : VR ρ v u) (hna : v.isAny = false) : Good Γ N0 w0 ρ h (opBox h T v).1 (opBox h T v).2 ((Instr.box T u).run P w) := by
 obtain ⟨ρ', e1, e2, e3⟩ := newVR H (us := u.cells) T (hv.cells hna)
 refine ⟨_, _, ρ', ?_, e1, newEl e2 e3, VR.newPtr e3⟩
 simp only [Instr.box, Sem.run_bind, newVar, run_newRow, Result.andThen_ok]; rfl
def zerosOf (zs : List V) (n : Nat) : List V := (List.range n).map fun k => zs.getD (k % zs.length) .nilp
theorem zerosOf_VRs {R : Ren} {zs : List V} {us : Array Value} (hz : VRs R zs us.toList) (n : Nat) (hn : n = 0 ∨ 0 < zs.length) : VRs R (zerosOf zs n) ((Array.range n).map (us[· % us.size]!)).toList := by
 have hsz : zs.length = us.size := by simpa using hz.1
 refine ⟨by simp [zerosOf], fun k y v hy hv => ?_⟩
 simp only [zerosOf, List.getElem?_map, Option.map_eq_some_iff] at hy
 obtain ⟨k', hk', rfl⟩ := hy
 obtain ⟨hlt, hk''⟩ := List.getElem?_eq_some_iff.1 hk'
 simp only [List.getElem_range] at hk''
 subst hk''
 have hlt' : k < n := by simpa using hlt
 have hp : 0 < zs.length := by rcases hn with e | e; omega; exact e
 have hm : k % zs.length < zs.length := Nat.mod_lt _ hp
 have hv' : v = us[k % us.size]! := by
  rw [Array.getElem?_toList] at hv
  simp only [Array.getElem?_map] at hv
  rw [Array.getElem?_range] at hv
  simp [hlt'] at hv; exact hv.symm
 have e1 : zs[k % zs.length]? = some (zs.getD (k % zs.length) .nilp) := by simp [List.getD_eq_getElem?_getD, hm]
 refine hz.2 _ _ _ e1 ?_
 rw [hv', ← hsz]
 have : k % zs.length < us.size := by rw [← hsz]; exact hm
 simp [this]
def opBuildSlice (P : Program) (h : Hp) (T : TypeId) (len : Nat) (parts : List (Nat × V)) : Option (V × Option Hp) :=
  match P.underlying T with
  | some (.slice e) => match szOf P e, zeroC P e with
    | some sz, some zs => if 0 < sz ∧ zs.length = sz ∧ len * sz ≤ 16777216 then
        match vfill (fun i => some (i * sz, sz)) (zerosOf zs (len * sz)) parts with
        | some cs => some (.sl h.next 0 len sz, some (h.new cs))
        | none => none
      else none
    | _, _ => none
  | _ => none
omit [E : Amb] in
theorem vfill_length {place : Nat → Option (Nat × Nat)} : ∀ (vs : List (Nat × V)) (cells cs : List V), vfill place cells vs = some cs → cs.length = cells.length := by
 intro vs
 induction vs with
 | nil => intro cells cs h; simp [vfill] at h; rw [h]
 | cons x vs ih =>
  intro cells cs h
  simp only [vfill] at h
  split at h
  ·cases h
  ·split at h
   ·rename_i hb; rw [ih _ _ h, splice_length hb.2]
   ·cases h
theorem opBuildSlice_sound (H : Rel Γ N0 w0 ρ h w) {T : TypeId} {len : Nat} {parts : List (Nat × V)} {us : List (Nat × Value)} {x : V} {h' : Option Hp} (hl : parts.length = us.length)
  (hr : ∀ (k : Nat) a b, parts[k]? = some a → us[k]? = some b → a.1 = b.1 ∧ VR ρ a.2 b.2) (hb : opBuildSlice P h T len parts = some (x, h')) :
  Good Γ N0 w0 ρ h x h' ((Instr.buildSlice T len us.toArray).run P w) := by
 unfold opBuildSlice at hb
 split at hb
 ·rename_i e hT
  split at hb
  ·rename_i sz zs hsz hz
   split at hb
   ·rename_i hc
    obtain ⟨hp, hzl, hbig⟩ := hc
    split at hb
    ·rename_i cs hcs
     simp only [Option.some.injEq, Prod.mk.injEq] at hb; obtain ⟨rfl, rfl⟩ := hb
     obtain ⟨z, hzr, hzv⟩ := run_zeroValue (P := P) (w := w) hz
     obtain ⟨arr, ha, hc⟩ := fill_sound (R := ρ) parts us _ _ cs (zerosOf_VRs (hzv ρ) (len * sz) (.inr (by omega))) hl hr hcs
     have hcl := vfill_length _ _ _ hcs
     have hsz2 : arr.size = len * sz := by
      have := hc.1; rw [hcl] at this; simp [zerosOf] at this; omega
     obtain ⟨ρ', e1, e2, e3⟩ := newVR H (us := arr) e hc
     refine ⟨.slice (some ⟨w.heap.size, 0, none⟩) len len, _, ρ', ?_, e1, e2, .sl h.next 0 len sz len ⟨w.heap.size, 0, arr.size⟩ e3 (Nat.le_refl _) (by simp only [Nat.zero_add]; rw [hsz2]; exact Nat.le_refl _)⟩
     simp only [Instr.buildSlice, Sem.run_bind, run_underlying hT, run_sizeOf hsz, Result.andThen_ok]
     rw [if_neg (by omega)]
     by_cases e0 : len * sz = 0
     ·have hz0 : (Array.range (len * sz)).map ((#[] : Array Value)[· % (#[] : Array Value).size]!) = (Array.range (len * sz)).map (z.cells[· % z.cells.size]!) := by rw [e0]; simp
      rw [if_pos e0]
      simp only [Sem.run_bind, Sem.run_pure, Result.andThen_ok, hz0, ha, run_newRow]
     ·rw [if_neg e0]
      simp only [Sem.run_bind, Sem.run_pure, hzr, Result.andThen_ok, ha, run_newRow]
    ·cases hb
   ·cases hb
  ·cases hb
 ·cases hb
def opMakeSlice (P : Program) (h : Hp) (T : TypeId) (len cap : V) : Option (V × Option Hp) :=
  match P.underlying T, len, cap with
  | some (.slice e), .int _ l, .int _ c => match szOf P e, zeroC P e, bytesOf P e with
    | some sz, some zs, some by_ => if 0 < sz ∧ zs.length = sz ∧ 0 ≤ l ∧ l ≤ c ∧ c < 9223372036854775808 ∧ (by_ : Int) * c ≤ 281474976710656 then
        some (.sl h.next 0 l.toNat sz, some (h.new (zerosOf zs (l.toNat * sz))))
      else none
    | _, _, _ => none
  | _, _, _ => none
omit [E : Amb] in
theorem wrap_small {n : Int} (h0 : 0 ≤ n) (h1 : n < 9223372036854775808) : IntKind.i64.wrap n = n := by
 have e1 : ((2 : Int) ^ IntKind.i64.bits) = 18446744073709551616 := rfl
 have e2 : ((2 : Int) ^ (IntKind.i64.bits - 1)) = 9223372036854775808 := rfl
 have e3 : n % 18446744073709551616 = n := Int.emod_eq_of_lt h0 (by omega)
 simp only [IntKind.wrap, e1, e2, e3]
 rw [if_neg]
 simp; omega
theorem opMakeSlice_sound (H : Rel Γ N0 w0 ρ h w) {T : TypeId} {a b : V} {ua ub : Value} {x : V} {h' : Option Hp} (ha : VR ρ a ua) (hb : VR ρ b ub) (hs : opMakeSlice P h T a b = some (x, h')) :
    Good Γ N0 w0 ρ h x h' ((Instr.makeSlice T ua ub).run P w) := by
  unfold opMakeSlice at hs
  split at hs
  · rename_i e k l k' c hT
    cases ha.int_inv; cases hb.int_inv
    split at hs
    · rename_i sz zs by_ hsz hz hby
      split at hs
      · rename_i hc
        obtain ⟨hp, hzl, h0, hlc, hcb, hroom⟩ := hc
        simp only [Option.some.injEq, Prod.mk.injEq] at hs; obtain ⟨rfl, rfl⟩ := hs
        obtain ⟨i, hi, rfl⟩ : ∃ i, P.info? e = some i ∧ i.bytes = by_ := by simpa [bytesOf] using hby
        obtain ⟨z, hzr, hzv⟩ := run_zeroValue (P := P) (w := w) hz
        have hw1 := wrap_small (n := l) h0 (by omega)
        have hw2 := wrap_small (n := c) (by omega) hcb
        have hlc' : l.toNat ≤ c.toNat := by omega
        have hle : l.toNat * sz ≤ c.toNat * sz := Nat.mul_le_mul_right _ hlc'
        have hzs : VRs ρ (zerosOf zs (c.toNat * sz)) ((Array.range (c.toNat * sz)).map (z.cells[· % z.cells.size]!)).toList := zerosOf_VRs (hzv ρ) _ (.inr (by omega))
        have hpre : ∀ (i : Nat) y, (zerosOf zs (l.toNat * sz))[i]? = some y → (zerosOf zs (c.toNat * sz))[i]? = some y := by
          intro i y hy
          have hi : i < l.toNat * sz := by
            have := (List.getElem?_eq_some_iff.1 hy).1; simpa [zerosOf] using this
          simp only [zerosOf, List.getElem?_map] at hy ⊢
          rw [List.getElem?_range hi] at hy
          rw [List.getElem?_range (by omega)]; exact hy
        have hnew := H.newCells (xs := zerosOf zs (l.toNat * sz)) (arr := (Array.range (c.toNat * sz)).map (z.cells[· % z.cells.size]!)) (el := e) (fr := (0, 0)) (by simp [zerosOf]; exact hle) (fun o p1 p2 => by simp at p2) (fun i y u hy hu => hzs.2 i y u (hpre i y hy) (by rw [Array.getElem?_toList]; exact hu))
        refine ⟨.slice (some ⟨w.heap.size, 0, none⟩) l.toNat c.toNat, _, _, ?_, setR_ext (H.fresh _ (Nat.le_refl _)), hnew, ?_⟩
        · have t1 : (decide (c < 0) || decide ((i.bytes : Int) * c > 2 ^ 48)) = false := by
            have e48 : ((2 : Int) ^ 48) = 281474976710656 := rfl
            rw [e48]; simp; omega
          simp only [Instr.makeSlice, Sem.run_bind, run_underlying hT, Result.andThen_ok, asInt, asIntOf, Sem.run_pure, run_typeInfo hi, hw1, hw2, t1]
          rw [if_neg (by simp; omega)]
          simp only [Sem.run_bind, run_askRoom, Result.andThen_ok, run_sizeOf hsz]
          by_cases e0 : c.toNat * sz = 0
          · have hz0 : (Array.range (c.toNat * sz)).map ((#[] : Array Value)[· % (#[] : Array Value).size]!) = (Array.range (c.toNat * sz)).map (z.cells[· % z.cells.size]!) := by rw [e0]; simp
            rw [if_pos e0]
            simp only [Sem.run_bind, Sem.run_pure, Result.andThen_ok, hz0, run_newRow]
          · rw [if_neg e0]
            simp only [Sem.run_bind, Sem.run_pure, hzr, Result.andThen_ok, run_newRow]
        · exact .sl h.next 0 l.toNat sz c.toNat ⟨w.heap.size, 0, ((Array.range (c.toNat * sz)).map (z.cells[· % z.cells.size]!)).size⟩ (if_pos rfl) hlc' (by simp)
      · cases hs
    · cases hs
  · cases hs
omit [E : Amb] in
theorem drew_new_freeze (w : World) (arr : Array Value) (e : TypeId) :
  (World.new w (.cells arr e)).freeze ⟨w.heap.size, arr.size, none⟩ 1 = World.new w (.cells arr e (arr.size, arr.size + 1)) := by
 simp only [World.freeze, World.new, Nat.one_ne_zero, if_false]
 congr 1
 apply Array.ext_getElem?
 intro k
 rw [Array.getElem?_modify]
 by_cases hk : w.heap.size = k
 ·subst hk; simp
 ·rw [if_neg hk]
  rw [Array.getElem?_push, Array.getElem?_push, if_neg (fun h => hk h.symm), if_neg (fun h => hk h.symm)]
def intsOf (k : IntKind) : List V → Option (List Int)
 | [] => some []
 | .int k' n :: r => if k' = k then (intsOf k r).map (n :: ·) else none
 | _ => none
omit [E : Amb] in
theorem intsOf_get {k : IntKind} : ∀ (xs : List V) (ns : List Int), intsOf k xs = some ns → xs = ns.map (.int k ·) := by
 intro xs
 induction xs with
 | nil => intro ns h; simp only [intsOf, Option.some.injEq] at h; subst h; rfl
 | cons x xs ih =>
  intro ns h
  cases x <;> simp only [intsOf, reduceCtorEq] at h
  split at h
  ·rename_i hk
   subst hk
   simp only [Option.map_eq_some_iff] at h
   obtain ⟨r, hr, rfl⟩ := h
   rw [ih r hr]; rfl
  ·cases h
omit [E : Amb] in
theorem run_pushLoop {P : Program} {w : World} {k : IntKind} (f : Value → ByteArray → Sem (ForInStep ByteArray)) (g : Int → List UInt8)
  (hf : ∀ n s, f (.int k n) s = pure (ForInStep.yield ⟨s.data ++ (g n).toArray⟩)) : ∀ (ns : List Int) (s : ByteArray),
  (forIn (ns.map (Value.int k ·)) s f).run P w = .ok ⟨s.data ++ (ns.flatMap g).toArray⟩ w := by
 intro ns
 induction ns with
 | nil => intro s; simp
 | cons n ns ih =>
  intro s
  simp only [List.map_cons, List.forIn_cons, hf, Sem.run_bind, Sem.run_pure, Result.andThen_ok, ih]
  simp
def opBytesOf (P : Program) (h : Hp) (src dst : TypeId) (v : V) : Option (V × Option Hp) :=
 match P.underlying src, P.underlying dst, v with
 | some .string, some (.slice e), .str l => match P.underlying e with
  | some (.int .u8) => some (.sl h.next 0 l.length 1, some (h.new (l.map fun c => .int .u8 c.toNat)))
  | some (.int .i32) => match Conv.runesFrom ⟨l.toArray⟩ l.length 0 #[] with
   | ⟨us⟩ => match mapC constC us with
    | some cs => some (.sl h.next 0 cs.length 1, some (h.new cs))
    | none => none
  | _ => none
 | some .string, some (.slice e), .sstr l => match P.underlying e with
  | some (.int .u8) => some (.sl h.next 0 l.length 1, some (h.new l))
  | _ => none
 | _, _, _ => none
def runeV (x : V) (o : Option (List V)) : Option (List V) := match x, o with
 | .int .i32 n, some l => some ((Utf8.encode n).data.toList.map (fun c : UInt8 => V.int .u8 c.toNat) ++ l)
 | .lin .i32 c ts, some l => if 0 ≤ loS c ts ∧ hiS c ts < 128 then some (mkLin .u8 c ts :: l) else none
 | _, _ => none
def runesV : List V → Option (List V)
 | [] => some []
 | x :: r => runeV x (runesV r)
theorem runesV_sound : ∀ {xs : List V} {us : List Value} {l : List V}, VRs ρ xs us → runesV xs = some l → ∃ ns : List Int, us = ns.map (Value.int .i32 ·) ∧ BytesR ρ l (ns.flatMap fun n => (Utf8.encode n).data.toList)
 | [], us, l, h, e => by
  have := h.1
  cases us with
  | nil =>
   simp only [runesV, Option.some.injEq] at e; subst e
   exact ⟨[], rfl, rfl, fun i x b hx => by simp at hx⟩
  | cons => simp at this
 | x :: r, us, l, h, e => by
  cases us with
  | nil => have := h.1; simp at this
  | cons u us =>
   have h0 := h.2 0 x u rfl rfl
   have hr : VRs ρ r us := ⟨by have := h.1; simpa using this, fun i y c hy hc => h.2 (i + 1) y c (by simpa using hy) (by simpa using hc)⟩
   rw [runesV] at e
   unfold runeV at e
   split at e
   ·rename_i n l' hl
    simp only [Option.some.injEq] at e; subst e
    obtain ⟨ns, rfl, k⟩ := runesV_sound hr hl
    refine ⟨n :: ns, by rw [h0.int_inv]; rfl, ?_⟩
    rw [List.flatMap_cons]
    exact (BytesR.ints _).append k
   ·rename_i c ts l' hl
    split at e
    ·rename_i hb
     simp only [Option.some.injEq] at e; subst e
     obtain ⟨ns, rfl, k⟩ := runesV_sound hr hl
     cases h0 with
     | lin _ _ _ n hs hn =>
      have hq := loS_le (ρ := ρ) c hs
      refine ⟨n :: ns, rfl, ?_⟩
      rw [List.flatMap_cons, encode_ascii (by omega) (by omega)]
      refine BytesR.append (xs := [mkLin .u8 c ts]) ⟨rfl, fun i x b hx hb => ?_⟩ k
      cases i with
      | zero =>
       simp at hx hb; subst hx hb
       have e : ((UInt8.ofNat n.toNat).toNat : Int) = n := by
        rw [UInt8.toNat_ofNat']; omega
       rw [e]; exact mkLin_VR hs hn
      | succ i => simp at hx
    ·cases e
   ·cases e
def opStrOf (P : Program) (h : Hp) (src dst : TypeId) (v : V) : Option V :=
 match P.underlying src, P.underlying dst, v with
 | some (.slice e), some .string, .nils => match P.underlying e with
  | some (.int .u8) => some (.str [])
  | some (.int .i32) => some (.str [])
  | _ => none
 | some (.slice e), some .string, .sl a o n sz => match P.underlying e, elemsOf h 1 (.sl a o n sz) with
  | some (.int .u8), some (xs, _) => match intsOf .u8 xs with
   | some ns => some (.str (ns.map fun n => UInt8.ofNat n.toNat))
   | none => match xs.all byteV with
    | true => some (mkSS xs)
    | false => none
  | some (.int .i32), some (xs, _) => match intsOf .i32 xs with
   | some ns => some (.str (ns.flatMap fun n => (Utf8.encode n).data.toList))
   | none => (runesV xs).map mkSS
  | _, _ => none
 | some (.slice e), some .string, .pl n sz cs => match P.underlying e, elemsOf h 1 (.pl n sz cs) with
  | some (.int .u8), some (xs, _) => match intsOf .u8 xs with
   | some ns => some (.str (ns.map fun n => UInt8.ofNat n.toNat))
   | none => match xs.all byteV with
    | true => some (mkSS xs)
    | false => none
  | some (.int .i32), some (xs, _) => match intsOf .i32 xs with
   | some ns => some (.str (ns.flatMap fun n => (Utf8.encode n).data.toList))
   | none => (runesV xs).map mkSS
  | _, _ => none
 | _, _, _ => none
theorem strSlice (H : Rel Γ N0 w0 ρ h w) {e : TypeId} {cs : List V} {us : Array Value} (hv : VRs ρ cs us.toList) (z : Value) (fr : Nat × Nat) (hfr : ∀ o, fr.1 ≤ o → o < fr.2 → us.size + w.tape w.drawn (.appendCap us.size 0 e) % (2 ^ 63 - us.size) ≤ o) :
  ∃ ρ', Ext ρ ρ' ∧ Rel Γ N0 w0 ρ' (h.new cs) (World.new (World.drew1 w) (.cells (us ++ Array.replicate (w.tape w.drawn (.appendCap us.size 0 e) % (2 ^ 63 - us.size)) z) e fr)) ∧
   VR ρ' (.sl h.next 0 cs.length 1) (.slice (some ⟨w.heap.size, 0, none⟩) us.size (us.size + w.tape w.drawn (.appendCap us.size 0 e) % (2 ^ 63 - us.size))) := by
 have hl : cs.length = us.size := by simpa using hv.1
 have hnew := (H.drawn (w.drawn + 1)).newCells (xs := cs) (arr := us ++ Array.replicate (w.tape w.drawn (.appendCap us.size 0 e) % (2 ^ 63 - us.size)) z) (el := e) (fr := fr) (by simp; omega) (fun o p1 p2 => by
  have := hfr o p1 p2; simpa using this) (fun i y u hy hu => by
  have hi := (List.getElem?_eq_some_iff.1 hy).1
  rw [Array.getElem?_append_left (by omega)] at hu
  exact hv.2 i y u hy (by rw [Array.getElem?_toList]; exact hu))
 refine ⟨_, setR_ext (H.fresh _ (Nat.le_refl _)), hnew, ?_⟩
 rw [hl]
 exact .sl h.next 0 us.size 1 _ ⟨w.heap.size, 0, _⟩ (if_pos rfl) (Nat.le_add_right _ _) (by simp)
theorem bytes_good (H : Rel Γ N0 w0 ρ h w) {src dst e : TypeId} {l : List UInt8} {cs : List V} (h1 : P.underlying src = some .string) (h2 : P.underlying dst = some (.slice e)) (h3 : P.underlying e = some (.int .u8)) (hb : BytesR ρ cs l) :
  Good Γ N0 w0 ρ h (.sl h.next 0 cs.length 1) (some (h.new cs)) ((convert src dst (.string ⟨l.toArray⟩)).run P w) := by
 have hlen : (ByteArray.mk l.toArray).size = l.length := by show l.toArray.size = _; simp
 have hVs : VRs ρ cs (l.toArray.map fun b : UInt8 => Value.int .u8 b.toNat).toList := by
  refine ⟨by simpa using hb.1, fun i x u hx hu => ?_⟩
  simp only [Array.toList_map, List.getElem?_map, Option.map_eq_some_iff] at hu
  obtain ⟨c, hc, rfl⟩ := hu
  exact hb.2 i x c hx hc
 have hsz : (l.toArray.map fun b : UInt8 => Value.int .u8 b.toNat).size = l.length := by simp
 obtain ⟨ρ', e1, e2, e3⟩ := strSlice H (e := e) hVs (.int .u8 0) ((l.toArray.map (fun b : UInt8 => Value.int .u8 b.toNat) ++ Array.replicate (w.tape w.drawn (.appendCap l.length 0 e) % (2 ^ 63 - l.length)) (Value.int .u8 0)).size, (l.toArray.map (fun b : UInt8 => Value.int .u8 b.toNat) ++ Array.replicate (w.tape w.drawn (.appendCap l.length 0 e) % (2 ^ 63 - l.length)) (Value.int .u8 0)).size + 1) (fun o p1 _ => by rw [hsz]; simpa using p1)
 rw [hsz] at e2 e3
 refine ⟨_, _, ρ', ?_, e1, e2, by simpa using e3⟩
 have hfr := drew_new_freeze (World.drew1 w) (l.toArray.map (fun b : UInt8 => Value.int .u8 b.toNat) ++ Array.replicate (w.tape w.drawn (.appendCap l.length 0 e) % (2 ^ 63 - l.length)) (Value.int .u8 0)) e
 simp only [convert, Sem.run_bind, run_underlying h1, run_underlying h2, Result.andThen_ok, run_underlying h3, Conv.stringToBytes, hlen, run_appendCap, Nat.add_sub_cancel_left, run_newRow]
 have hms : (markStringish ⟨(World.drew1 w).heap.size, 0, none⟩).run P (World.new (World.drew1 w) (.cells (l.toArray.map (fun b : UInt8 => Value.int .u8 b.toNat) ++ Array.replicate (w.tape w.drawn (.appendCap l.length 0 e) % (2 ^ 63 - l.length)) (Value.int .u8 0)) e)) = .ok () ((World.new (World.drew1 w) (.cells (l.toArray.map (fun b : UInt8 => Value.int .u8 b.toNat) ++ Array.replicate (w.tape w.drawn (.appendCap l.length 0 e) % (2 ^ 63 - l.length)) (Value.int .u8 0)) e)).freeze ⟨(World.drew1 w).heap.size, (l.toArray.map (fun b : UInt8 => Value.int .u8 b.toNat) ++ Array.replicate (w.tape w.drawn (.appendCap l.length 0 e) % (2 ^ 63 - l.length)) (Value.int .u8 0)).size, none⟩ 1) := by
  simp only [markStringish, Sem.run_bind, shape, freeze, Sem.run]
  have : (World.new (World.drew1 w) (.cells (l.toArray.map (fun b : UInt8 => Value.int .u8 b.toNat) ++ Array.replicate (w.tape w.drawn (.appendCap l.length 0 e) % (2 ^ 63 - l.length)) (Value.int .u8 0)) e)).shape? (World.drew1 w).heap.size = some (e, (l.toArray.map (fun b : UInt8 => Value.int .u8 b.toNat) ++ Array.replicate (w.tape w.drawn (.appendCap l.length 0 e) % (2 ^ 63 - l.length)) (Value.int .u8 0)).size) := by
   simp [World.shape?, new_heap_new]
  simp only [this, Result.andThen_ok, Sem.run]
 rw [hfr] at hms
 simp only [hms, Result.andThen_ok]
 rfl
theorem opBytesOf_sound (H : Rel Γ N0 w0 ρ h w) {src dst : TypeId} {v x : V} {u : Value} {h' : Option Hp} (hv : VR ρ v u) (hb : opBytesOf P h src dst v = some (x, h')) :
  Good Γ N0 w0 ρ h x h' ((convert src dst u).run P w) := by
 unfold opBytesOf at hb
 split at hb
 ·rename_i e l h1 h2
  cases hv.str_inv
  have hlen : (ByteArray.mk l.toArray).size = l.length := by show l.toArray.size = _; simp
  split at hb
  ·rename_i h3
   simp only [Option.some.injEq, Prod.mk.injEq] at hb; obtain ⟨rfl, rfl⟩ := hb
   have := bytes_good H h1 h2 h3 (BytesR.ints (ρ := ρ) l)
   rw [List.length_map] at this
   exact this
  ·rename_i h3
   split at hb
   ·rename_i us hus
    split at hb
    ·rename_i cs hcs
     simp only [Option.some.injEq, Prod.mk.injEq] at hb; obtain ⟨rfl, rfl⟩ := hb
     obtain ⟨m1, m2⟩ := mapC_get hcs
     have hVs : VRs ρ cs (Array.mk us).toList := ⟨by simpa using m1.symm, fun i x u hx hu => constC_sound (m2 i u x (by simpa using hu) hx)⟩
     obtain ⟨ρ', e1, e2, e3⟩ := strSlice H (e := e) hVs (.int .i32 0) (0, 0) (fun o _ p2 => by simp at p2)
     refine ⟨_, _, ρ', ?_, e1, e2, e3⟩
     simp only [convert, Sem.run_bind, run_underlying h1, run_underlying h2, Result.andThen_ok, run_underlying h3, Conv.stringToRunes, hlen, hus, run_appendCap, Nat.add_sub_cancel_left, run_newRow]
     rfl
    ·cases hb
  ·cases hb
 ·rename_i e l h1 h2
  split at hb
  ·rename_i h3
   simp only [Option.some.injEq, Prod.mk.injEq] at hb; obtain ⟨rfl, rfl⟩ := hb
   cases hv with
   | sstr _ bs hn hr => exact bytes_good H h1 h2 h3 ⟨hn, hr⟩
  ·cases hb
 ·cases hb
theorem ints_eq {k : IntKind} : ∀ {xs : List V} {ns : List Int} {us : List Value}, intsOf k xs = some ns → VRs ρ xs us → us = ns.map (Value.int k ·) := by
 intro xs ns us hi hv
 rw [intsOf_get xs ns hi] at hv
 apply List.ext_getElem?
 intro i
 by_cases hlt : i < ns.length
 ·have h1 : (ns.map (V.int k ·))[i]? = some (.int k ns[i]) := by simp [hlt]
  obtain ⟨u, hu, hr⟩ := hv.get h1
  rw [hu, hr.int_inv]; simp [hlt]
 ·rw [List.getElem?_eq_none (by have := hv.1; simp at this; omega), List.getElem?_eq_none (by simp; omega)]
omit [E : Amb] in
theorem elemsOf_pl {n sz k : Nat} {cs xs : List V} (he : elemsOf h 1 (.pl n sz cs) = some (xs, k)) : sz = 1 ∧ k = n ∧ True := by
 unfold elemsOf at he
 simp only at he
 split at he
 ·rename_i e
  simp only [Option.some.injEq, Prod.mk.injEq] at he
  exact ⟨e, he.2.symm, trivial⟩
 ·cases he
theorem opStrOf_sound (H : Rel Γ N0 w0 ρ h w) {src dst : TypeId} {v x : V} {u : Value} (hv : VR ρ v u) (hb : opStrOf P h src dst v = some x) :
    ∃ y, (convert src dst u).run P w = .ok y w ∧ VR ρ x y := by
  have flat1 : ∀ l : List Int, (l.flatMap fun n => [UInt8.ofNat n.toNat]) = l.map fun n => UInt8.ofNat n.toNat := by
    intro l
    induction l with
    | nil => rfl
    | cons a l ih => simp [List.flatMap_cons, ih]
  unfold opStrOf at hb
  split at hb
  · rename_i e h1 h2
    cases hv
    split at hb
    · rename_i h3
      simp only [Option.some.injEq] at hb; subst hb
      exact ⟨.string ⟨#[]⟩, by simp only [convert, Sem.run_bind, run_underlying h1, run_underlying h2, Result.andThen_ok, run_underlying h3]; rfl, .str []⟩
    · rename_i h3
      simp only [Option.some.injEq] at hb; subst hb
      exact ⟨.string ⟨#[]⟩, by simp only [convert, Sem.run_bind, run_underlying h1, run_underlying h2, Result.andThen_ok, run_underlying h3]; rfl, .str []⟩
    · cases hb
  · rename_i e a o n sz h1 h2
    have hsl : ∃ ad c, u = .slice (some ad) n c := by cases hv <;> exact ⟨_, _, rfl⟩
    obtain ⟨ad, c, rfl⟩ := hsl
    split at hb
    · rename_i xs k h3 he
      obtain ⟨rfl, rfl, _⟩ := elemsOf_sl he
      obtain ⟨_, hyl, us, hus, hVs⟩ := elemsOf_sound (P := P) H hv he
      have hl := hus w rfl
      simp only [Builtin.firstCells, Nat.mul_one] at hl
      split at hb
      case h_2 =>
        split at hb
        · rename_i hall
          simp only [Option.some.injEq] at hb; subst hb
          obtain ⟨bs, rfl, hbr⟩ := bytesV_inv hVs hall
          refine ⟨.string ⟨bs.toArray⟩, ?_, mkSS_VR hbr⟩
          have hm : (bs.map fun b => Value.int .u8 b.toNat) = (bs.map fun b : UInt8 => (b.toNat : Int)).map (Value.int .u8 ·) := by simp
          rw [hm] at hl
          simp only [convert, Sem.run_bind, run_underlying h1, run_underlying h2, Result.andThen_ok, run_underlying h3, Conv.bytesToString, hl]
          rw [← Array.forIn_toList, run_pushLoop (k := .u8) _ (fun n => [UInt8.ofNat n.toNat]) (fun n s => by simp [ByteArray.push])]
          simp [flat1]
          exact (List.map_congr_left (g := id) (fun b _ => by simp)).trans (List.map_id _)
        · cases hb
      rename_i ns hi
      simp only [Option.some.injEq] at hb; subst hb
      rw [ints_eq hi hVs] at hl
      refine ⟨.string ⟨(ns.map fun n => UInt8.ofNat n.toNat).toArray⟩, ?_, .str _⟩
      simp only [convert, Sem.run_bind, run_underlying h1, run_underlying h2, Result.andThen_ok, run_underlying h3, Conv.bytesToString, hl]
      rw [← Array.forIn_toList, run_pushLoop (k := .u8) _ (fun n => [UInt8.ofNat n.toNat]) (fun n s => by simp [ByteArray.push])]
      simp [flat1]
    · rename_i xs k h3 he
      obtain ⟨rfl, rfl, _⟩ := elemsOf_sl he
      obtain ⟨_, hyl, us, hus, hVs⟩ := elemsOf_sound (P := P) H hv he
      have hl := hus w rfl
      simp only [Builtin.firstCells, Nat.mul_one] at hl
      have hns : ∃ ns : List Int, us = ns.map (Value.int .i32 ·) ∧ VR ρ x (.string ⟨(ns.flatMap fun n => (Utf8.encode n).data.toList).toArray⟩) := by
        split at hb
        · rename_i ns hi
          simp only [Option.some.injEq] at hb; subst hb
          exact ⟨ns, ints_eq hi hVs, .str _⟩
        · obtain ⟨l, hl2, rfl⟩ := Option.map_eq_some_iff.1 hb
          obtain ⟨ns, h5, h6⟩ := runesV_sound hVs hl2
          exact ⟨ns, h5, mkSS_VR h6⟩
      obtain ⟨ns, rfl, hx⟩ := hns
      refine ⟨.string ⟨(ns.flatMap fun n => (Utf8.encode n).data.toList).toArray⟩, ?_, hx⟩
      simp only [convert, Sem.run_bind, run_underlying h1, run_underlying h2, Result.andThen_ok, run_underlying h3, Conv.runesToString, hl]
      rw [← Array.forIn_toList, run_pushLoop (k := .i32) _ (fun n => (Utf8.encode n).data.toList) (fun n s => by
            simp only
            congr 2
            apply ByteArray.ext
            apply Array.toList_inj.1
            simp)]
      simp
    · cases hb
  · rename_i e n sz cs h1 h2
    have hsl : ∃ ad c, u = .slice (some ad) n c := by cases hv <;> exact ⟨_, _, rfl⟩
    obtain ⟨ad, c, rfl⟩ := hsl
    split at hb
    · rename_i xs k h3 he
      obtain ⟨rfl, rfl, _⟩ := elemsOf_pl he
      obtain ⟨_, hyl, us, hus, hVs⟩ := elemsOf_sound (P := P) H hv he
      have hl := hus w rfl
      simp only [Builtin.firstCells, Nat.mul_one] at hl
      split at hb
      case h_2 =>
        split at hb
        · rename_i hall
          simp only [Option.some.injEq] at hb; subst hb
          obtain ⟨bs, rfl, hbr⟩ := bytesV_inv hVs hall
          refine ⟨.string ⟨bs.toArray⟩, ?_, mkSS_VR hbr⟩
          have hm : (bs.map fun b => Value.int .u8 b.toNat) = (bs.map fun b : UInt8 => (b.toNat : Int)).map (Value.int .u8 ·) := by simp
          rw [hm] at hl
          simp only [convert, Sem.run_bind, run_underlying h1, run_underlying h2, Result.andThen_ok, run_underlying h3, Conv.bytesToString, hl]
          rw [← Array.forIn_toList, run_pushLoop (k := .u8) _ (fun n => [UInt8.ofNat n.toNat]) (fun n s => by simp [ByteArray.push])]
          simp [flat1]
          exact (List.map_congr_left (g := id) (fun b _ => by simp)).trans (List.map_id _)
        · cases hb
      rename_i ns hi
      simp only [Option.some.injEq] at hb; subst hb
      rw [ints_eq hi hVs] at hl
      refine ⟨.string ⟨(ns.map fun n => UInt8.ofNat n.toNat).toArray⟩, ?_, .str _⟩
      simp only [convert, Sem.run_bind, run_underlying h1, run_underlying h2, Result.andThen_ok, run_underlying h3, Conv.bytesToString, hl]
      rw [← Array.forIn_toList, run_pushLoop (k := .u8) _ (fun n => [UInt8.ofNat n.toNat]) (fun n s => by simp [ByteArray.push])]
      simp [flat1]
    · rename_i xs k h3 he
      obtain ⟨rfl, rfl, _⟩ := elemsOf_pl he
      obtain ⟨_, hyl, us, hus, hVs⟩ := elemsOf_sound (P := P) H hv he
      have hl := hus w rfl
      simp only [Builtin.firstCells, Nat.mul_one] at hl
      have hns : ∃ ns : List Int, us = ns.map (Value.int .i32 ·) ∧ VR ρ x (.string ⟨(ns.flatMap fun n => (Utf8.encode n).data.toList).toArray⟩) := by
        split at hb
        · rename_i ns hi
          simp only [Option.some.injEq] at hb; subst hb
          exact ⟨ns, ints_eq hi hVs, .str _⟩
        · obtain ⟨l, hl2, rfl⟩ := Option.map_eq_some_iff.1 hb
          obtain ⟨ns, h5, h6⟩ := runesV_sound hVs hl2
          exact ⟨ns, h5, mkSS_VR h6⟩
      obtain ⟨ns, rfl, hx⟩ := hns
      refine ⟨.string ⟨(ns.flatMap fun n => (Utf8.encode n).data.toList).toArray⟩, ?_, hx⟩
      simp only [convert, Sem.run_bind, run_underlying h1, run_underlying h2, Result.andThen_ok, run_underlying h3, Conv.runesToString, hl]
      rw [← Array.forIn_toList, run_pushLoop (k := .i32) _ (fun n => (Utf8.encode n).data.toList) (fun n s => by
            simp only
            congr 2
            apply ByteArray.ext
            apply Array.toList_inj.1
            simp)]
      simp
    · cases hb
  · cases hb
end
section
variable {P : Program} {Γ : Glob} {N0 : Nat} {w0 : Fr} {ρ : Ren} {h : Hp} {w : World}
theorem Rel.setObj (H : Rel Γ N0 w0 ρ h w) {a : Nat} {x x' : Blk} {L : Loc} {o : Obj} (hx : h.t.get a = some x) (hL : ρ a = some L) (hnc : ∀ f fb fz xs, x ≠ .cells f fb fz xs) (hnc' : ∀ f fb fz xs, x' ≠ .cells f fb fz xs)
  (hN : N0 ≤ L.b) (ho : ∀ arr el fr, w.heap[L.b]? ≠ some (.cells arr el fr)) (hr : BlkR ρ N0 { w with heap := w.heap.setIfInBounds L.b o } a x') :
  Rel Γ N0 w0 ρ ⟨h.next, h.t.put (some x') a, h.fams, h.els⟩ { w with heap := w.heap.setIfInBounds L.b o } := by
 have hne : ∀ b', b' ≠ L.b → (w.heap.setIfInBounds L.b o)[b']? = w.heap[b']? := fun b' hn => by
  rw [Array.getElem?_setIfInBounds, if_neg (fun e => hn e.symm)]
 have hget : ∀ b, (h.t.put (some x') a).get b = if b = a then some x' else h.t.get b := fun b => by rw [Tr.get_put]
 have hfam : famOf a x' = famOf a x := by
  have e1 : ∀ y : Blk, (∀ f fb fz xs, y ≠ .cells f fb fz xs) → famOf a y = a := by intro y hy; cases y <;> first | rfl | exact absurd rfl (hy _ _ _ _)
  rw [e1 x hnc, e1 x' hnc']
 have hold : ∀ b y, (h.t.put (some x') a).get b = some y → ∃ y', h.t.get b = some y' ∧ famOf b y' = famOf b y := by
  intro b y hy
  rw [hget] at hy
  by_cases e : b = a
  ·subst e; rw [if_pos rfl] at hy; simp only [Option.some.injEq] at hy; subst hy; exact ⟨x, hx, hfam.symm⟩
  ·rw [if_neg e] at hy; exact ⟨y, hy, rfl⟩
 have holdc : ∀ b f fb fz xs, (h.t.put (some x') a).get b = some (.cells f fb fz xs) → h.t.get b = some (.cells f fb fz xs) ∧ b ≠ a := by
  intro b f fb fz xs hb
  rw [hget] at hb
  by_cases e : b = a
  ·rw [if_pos e] at hb; simp only [Option.some.injEq] at hb; exact absurd hb (hnc' _ _ _ _)
  ·rw [if_neg e] at hb; exact ⟨hb, e⟩
 refine ⟨?_, H.hN0, H.glob, H.fresh, fun b M hM => by simpa using H.lt b M hM, ?_, ?_, ?_, ?_, fun b e hn0 hbe => by
  obtain ⟨M, arr, fr, q1, q2, q3⟩ := H.elk b e hn0 hbe
  have : M.b ≠ L.b := fun hh => ho arr _ fr (by rw [← hh]; exact q2)
  exact ⟨M, arr, fr, q1, (hne _ this).trans q2, q3⟩, H.elt, H.old, H.kept.step (fun c hc _ => hne c (fun e => hc a _ L hx hL e.symm)) fun b y M hy hM => by
   obtain ⟨y', hy1, _⟩ := hold b y hy
   exact .inl ⟨b, y', M, hy1, hM, rfl⟩, H.pers.step rfl (fun c hc _ => hne c (fun e => hc a _ L hx hL e.symm)) fun b y M hy hM => by
   obtain ⟨y', hy1, _⟩ := hold b y hy
   exact .inl ⟨b, y', M, hy1, hM, rfl⟩⟩
 ·exact H.below.trans ⟨rfl, rfl, rfl, by simp, fun k hk => hne k (by omega)⟩
 ·intro b y hn0 hy
  by_cases e : b = a
  ·rw [hget, if_pos e] at hy; simp only [Option.some.injEq] at hy; subst hy; subst e; exact hr
  ·rw [hget, if_neg e] at hy
   obtain ⟨M, hM, hMN, h3⟩ := (H.blk b y hn0 hy).ex
   refine ⟨M, hM, hMN, ?_⟩
   have hsep : famOf b y ≠ famOf a x → M.b ≠ L.b := H.sep b a y x M L hy hx hM hL
   cases y with
   | cells f fb fz xs =>
    obtain ⟨arr, el, fr, k1, k2⟩ := h3
    have : M.b ≠ L.b := fun hh => ho arr el fr (by rw [← hh]; exact k1)
    exact ⟨arr, el, fr, by rw [hne _ this]; exact k1, k2⟩
   | iter l p =>
    have e1 : famOf a x = a := by cases x <;> first | rfl | exact absurd rfl (hnc _ _ _ _)
    have : M.b ≠ L.b := hsep (by rw [e1]; exact e)
    obtain ⟨q, bs, hb, k⟩ := h3
    exact ⟨q, bs, hb, by rw [hne _ this]; exact k⟩
   | mapo es c =>
    obtain ⟨arr, es0, k1, k2⟩ := h3
    have e1 : famOf a x = a := by cases x <;> first | rfl | exact absurd rfl (hnc _ _ _ _)
    have : M.b ≠ L.b := hsep (by rw [e1]; exact e)
    exact ⟨arr, es0, by rw [hne _ this]; exact k1, k2⟩
 ·intro b c y z M M' hy hz hM hM' hff
  obtain ⟨y', hy1, hy2⟩ := hold b y hy
  obtain ⟨z', hz1, hz2⟩ := hold c z hz
  exact H.sep b c y' z' M M' hy1 hz1 hM hM' (by rw [hy2, hz2]; exact hff)
 ·intro b c f fb fz xs gb gz ys M M' hy hz
  exact H.same b c f fb fz xs gb gz ys M M' (holdc _ _ _ _ _ hy).1 (holdc _ _ _ _ _ hz).1
 ·refine ⟨?_, H.fam.sorted, ?_, ?_⟩
  ·intro b f fb fz xs hb; exact H.fam.mem b f fb fz xs (holdc _ _ _ _ _ hb).1
  ·intro b y hb
   obtain ⟨y', h1, h2⟩ := hold b y hb
   have := H.fam.lt b y' h1
   rw [h2] at this; exact this
  ·intro b f fb fz xs c y hb hc hy
   have hb' := (holdc _ _ _ _ _ hb).1
   by_cases e : c = a
   ·subst e; exact H.fam.own b f fb fz xs c x hb' hx hnc
   ·rw [hget, if_neg e] at hc; exact H.fam.own b f fb fz xs c y hb' hc hy
theorem Rel.newObj (H : Rel Γ N0 w0 ρ h w) {x : Blk} {o : Obj} (hnc : ∀ f fb fz xs, x ≠ .cells f fb fz xs) (hr : BlkR (setR ρ h.next ⟨w.heap.size, 0, 0⟩) N0 (World.new w o) h.next x) :
  Rel Γ N0 w0 (setR ρ h.next ⟨w.heap.size, 0, 0⟩) (h.newObj x) (World.new w o) :=
 H.newBlk (Nat.le_trans H.hN0 H.below.size) (x := x) rfl (fun b => by simp only [Hp.newObj, Tr.get_put]) (new_below _ _) rfl (by rw [new_size]; exact Nat.lt_succ_self _) hr (H.fam.newObj hnc) rfl
def opRange (P : Program) (h : Hp) (T : TypeId) (v : V) : Option (V × Option Hp) :=
 match P.underlying T, v with
 | some .string, .str l => some (.ptr h.next 0, some (h.newObj (.iter (l.map fun c : UInt8 => .int .u8 c.toNat) 0)))
 | some .string, .sstr l => some (.ptr h.next 0, some (h.newObj (.iter l 0)))
 | _, _ => none
theorem range_good (H : Rel Γ N0 w0 ρ h w) {T : TypeId} {l : List V} {bs : List UInt8} (hT : P.underlying T = some .string) (hbs : BytesR ρ l bs) : Good Γ N0 w0 ρ h (.ptr h.next 0) (some (h.newObj (.iter l 0))) ((Instr.range T (.string ⟨bs.toArray⟩)).run P w) := by
 have hb : BlkR (setR ρ h.next ⟨w.heap.size, 0, 0⟩) N0 (World.new w (.stringIter ⟨bs.toArray⟩ 0)) h.next (.iter l 0) :=
  ⟨⟨w.heap.size, 0, 0⟩, by simp [setR], Nat.le_trans H.hN0 H.below.size, rfl, bs, hbs.ext (setR_ext (H.fresh _ (Nat.le_refl _))), new_heap_new _ _⟩
 refine ⟨.pointer (some ⟨w.heap.size, 0, none⟩), _, _, ?_, setR_ext (H.fresh _ (Nat.le_refl _)), H.newObj (fun _ _ _ _ hh => by cases hh) hb, VR.newPtr (n := 0) (by simp [setR])⟩
 simp only [Instr.range, Sem.run_bind, run_underlying hT, Result.andThen_ok, Sem.run_pure, newObj, Sem.run]
 rfl
theorem opRange_sound (H : Rel Γ N0 w0 ρ h w) {T : TypeId} {v x : V} {u : Value} {h' : Option Hp} (hv : VR ρ v u) (hs : opRange P h T v = some (x, h')) : Good Γ N0 w0 ρ h x h' ((Instr.range T u).run P w) := by
 unfold opRange at hs
 split at hs
 ·rename_i l hT
  simp only [Option.some.injEq, Prod.mk.injEq] at hs; obtain ⟨rfl, rfl⟩ := hs
  cases hv.str_inv
  exact range_good H hT (.ints l)
 ·rename_i l hT
  simp only [Option.some.injEq, Prod.mk.injEq] at hs; obtain ⟨rfl, rfl⟩ := hs
  cases hv with
  | sstr _ bs hn hr => exact range_good H hT ⟨hn, hr⟩
 ·cases hs
def decWhole (l : List V) (pos : Nat) : Option (V × Nat) := match allU8 l with
 | some bs => match Utf8.decode ⟨bs.toArray⟩ pos with
  | (c, n) => some (.int .i32 (Int.ofNat c), n)
 | none => none
def nextC (l : List V) (pos : Nat) : Option (V × Nat) := match l[pos]? with
 | some (.int _k (.ofNat m)) => match Nat.blt m 128 with
  | true => some (.int .i32 (.ofNat m), 1)
  | false => decWhole l pos
 | some (.lin _k c ts) => if 0 ≤ loS c ts ∧ hiS c ts < 128 then some (mkLin .i32 c ts, 1) else none
 | _ => none
theorem decWhole_sound {l : List V} {bs : List UInt8} {pos n : Nat} {c : V} (hb : BytesR ρ l bs) (h : decWhole l pos = some (c, n)) : (Utf8.decode ⟨bs.toArray⟩ pos).2 = n ∧ VR ρ c (.int .i32 (Int.ofNat (Utf8.decode ⟨bs.toArray⟩ pos).1)) := by
 unfold decWhole at h
 split at h
 ·rename_i l' hl
  obtain rfl := allU8_sound hb hl
  simp only [Option.some.injEq, Prod.mk.injEq] at h; obtain ⟨rfl, rfl⟩ := h
  exact ⟨rfl, .int _ _⟩
 ·cases h
theorem nextC_sound {l : List V} {bs : List UInt8} {pos n : Nat} {c : V} (hb : BytesR ρ l bs) (h : nextC l pos = some (c, n)) : (Utf8.decode ⟨bs.toArray⟩ pos).2 = n ∧ VR ρ c (.int .i32 (Int.ofNat (Utf8.decode ⟨bs.toArray⟩ pos).1)) := by
 have key : ∀ x, l[pos]? = some x → ∃ b : UInt8, VR ρ x (.int .u8 b.toNat) ∧ (b.toNat < 128 → Utf8.decode ⟨bs.toArray⟩ pos = (b.toNat, 1)) := by
  intro x hx
  have hlt : pos < bs.length := by rw [← hb.1]; exact (List.getElem?_eq_some_iff.1 hx).1
  refine ⟨bs[pos], hb.2 pos x _ hx (List.getElem?_eq_getElem hlt), fun hs => ?_⟩
  have hlt' : pos < (ByteArray.mk bs.toArray).size := by show pos < bs.toArray.size; simpa using hlt
  exact decode_ascii ⟨bs.toArray⟩ pos hlt' hs
 unfold nextC at h
 split at h
 ·rename_i k m hx
  obtain ⟨b, h1, h2⟩ := key _ hx
  split at h
  ·rename_i hm
   simp only [Option.some.injEq, Prod.mk.injEq] at h; obtain ⟨rfl, rfl⟩ := h
   have e := h1.int_inv
   simp only [Value.int.injEq] at e
   have hm' : m < 128 := by simpa [Nat.blt_eq] using hm
   have e2 : b.toNat = m := by have q : (b.toNat : Int) = (m : Int) := e.2; omega
   rw [h2 (by omega), e2]
   exact ⟨rfl, .int _ _⟩
  ·exact decWhole_sound hb h
 ·rename_i k c' ts hx
  obtain ⟨b, h1, h2⟩ := key _ hx
  split at h
  ·rename_i hc
   simp only [Option.some.injEq, Prod.mk.injEq] at h; obtain ⟨rfl, rfl⟩ := h
   cases h1 with
   | lin _ _ _ _ hs hn =>
    have := loS_le (ρ := ρ) c' hs
    rw [h2 (by omega)]
    exact ⟨rfl, mkLin_VR hs hn⟩
  ·cases h
 ·cases h
def opNext (h : Hp) (v : V) : Option (V × Option Hp) :=
 match v with
 | .ptr a 0 => match h.t.get a with
  | some (.iter l pos) => match Nat.blt pos l.length with
   | true => match nextC l pos with
    | some (c, n) => some (.tup [.bool true, .int .i64 pos, c], some ⟨h.next, h.t.put (some (.iter l (pos + n))) a, h.fams, h.els⟩)
    | none => none
   | false => some (.tup [.bool false], none)
  | _ => none
 | _ => none
theorem opNext_sound (H : Rel Γ N0 w0 ρ h w) {T : TypeId} {v x : V} {u : Value} {h' : Option Hp} (hv : VR ρ v u) (hs : opNext h v = some (x, h')) : Good Γ N0 w0 ρ h x h' ((Instr.next u true T).run P w) := by
 unfold opNext at hs
 split at hs
 ·rename_i a
  split at hs
  ·rename_i l pos hg
   obtain ⟨L, hL, rfl⟩ := hv.ptr_inv
   obtain ⟨M, hM, hMN, hb0, bs, hbs, hb⟩ := (H.blk _ _ (some_ne (by assumption)) hg).ex
   rw [hL] at hM; simp only [Option.some.injEq] at hM; subst hM
   have hsize : (ByteArray.mk bs.toArray).size = l.length := by show bs.toArray.size = _; rw [hbs.1]; simp
   have hlt' : L.b < w.heap.size := H.lt _ _ hL
   rw [hb0]
   split at hs
   ·rename_i hlt
    have hlt : pos < l.length := by simpa [Nat.blt_eq] using hlt
    split at hs
    ·rename_i c n hd
     obtain ⟨d1, d2⟩ := nextC_sound hbs hd
     simp only [Option.some.injEq, Prod.mk.injEq] at hs; obtain ⟨rfl, rfl⟩ := hs
     refine ⟨.tuple #[.bool true, .int .i64 pos, .int .i32 (Int.ofNat (Utf8.decode ⟨bs.toArray⟩ pos).1)], _, ρ, ?_, .refl _, H.setObj (o := .stringIter ⟨bs.toArray⟩ (pos + n)) hg hL (fun _ _ _ _ hh => by cases hh) (fun _ _ _ _ hh => by cases hh) hMN (fun arr el fr hh => by rw [hb] at hh; cases hh) ⟨L, hL, hMN, hb0, bs, hbs, by simp [hlt']⟩, VRs.tup (.cons (.bool _) (.cons (.int _ _) (.cons d2 (.nil _))))⟩
     simp [Instr.next, getObj, Sem.run, hb, setObj, hsize, hlt, goInt, ← d1]
    ·cases hs
   ·rename_i hge
    have hge : ¬ pos < l.length := by rw [← Nat.blt_eq, hge]; decide
    simp only [Option.some.injEq, Prod.mk.injEq] at hs; obtain ⟨rfl, rfl⟩ := hs
    refine ⟨.tuple #[.bool false], w, ρ, ?_, .refl _, H, VRs.tup (.cons (.bool _) (.nil _))⟩
    simp [Instr.next, getObj, Sem.run, hb, hsize, hge]
  ·cases hs
 ·cases hs
def opSliceArr (P : Program) (h : Hp) (T : TypeId) (a : V) (lo hi : Option V) : Option V :=
 match P.underlying T, a with
 | some (.array n e), .ptr b o => match h.t.get b, szOf P e, vbound n hi n with
  | some (.cells _ _ _ xs), some sz, some k => match vbound k lo 0 with
   | some l => if l < n ∧ o + n * sz ≤ xs.length then some (.sl b (o + l * sz) (k - l) sz) else none
   | none => none
  | _, _, _ => none
 | _, _ => none
theorem opSliceArr_sound (H : Rel Γ N0 w0 ρ h w) {T : TypeId} {a x : V} {lo hi : Option V} {u : Value} {vlo vhi : Option Value} (ha : VR ρ a u)
  (hlo : OptVR ρ lo vlo) (hhi : OptVR ρ hi vhi) (hs : opSliceArr P h T a lo hi = some x) :
  ∃ y, (Instr.sliceAt T u vlo vhi none).run P w = .ok y w ∧ VR ρ x y := by
 unfold opSliceArr at hs
 split at hs
 ·rename_i n e b o hT
  split at hs
  ·rename_i f fb fz xs sz k hg hsz h1
   split at hs
   ·rename_i l h2
    split at hs
    ·rename_i hc
     simp only [Option.some.injEq] at hs; subst hs
     obtain ⟨L, hL, rfl⟩ := ha.ptr_inv
     obtain ⟨M, hM, hMN, arr, el, fr, k1, k2, k3, k4, k5⟩ := (H.blk _ _ (some_ne (by assumption)) hg).ex
     rw [hL] at hM; simp only [Option.some.injEq] at hM; subst hM
     obtain ⟨hsl, hle, hle2⟩ := sliceBounds_sound (P := P) (w := w) (isS := false) (cap := n) (Nat.le_refl _) hlo hhi h1 h2
     refine ⟨.slice (some ⟨L.b, L.base + (o + l * sz), none⟩) (k - l) (n - l), ?_, .sl _ _ _ _ _ L hL (by omega) ?_⟩
     ·simp only [Instr.sliceAt, Sem.run_bind, run_underlying hT, Result.andThen_ok, Instr.sureAddr, Sem.run_pure, hsl, run_sizeOf hsz, add_none]
      rw [if_neg (by omega), Nat.add_assoc]
     ·have : l * sz + (n - l) * sz = n * sz := by rw [← Nat.add_mul]; congr 1; omega
      omega
    ·cases hs
   ·cases hs
  ·cases hs
 ·cases hs
def opSlice3 (P : Program) (T : TypeId) (a : V) (lo hi mx : Option V) : Option V :=
 match hi, mx with
 | some hi, some mx => match P.underlying T, a with
  | some (.slice e), .sl b o n sz => match szOf P e, vbound n (some mx) 0 with
   | some sz', some m => match vbound m (some hi) 0 with
    | some k => match vbound k lo 0 with
     | some l => if sz = sz' then some (.sl b (o + l * sz) (k - l) sz) else none
     | none => none
    | none => none
   | _, _ => none
  | some (.slice e), .nils => match szOf P e, vbound 0 (some mx) 0 with
   | some _, some m => match vbound m (some hi) 0 with
    | some k => match vbound k lo 0 with
     | some _ => some .nils
     | none => none
    | none => none
   | _, _ => none
  | _, _ => none
 | _, _ => none
theorem bounds3 {lo : Option V} {hi mx : V} {vlo : Option Value} {vhi vmx : Value} {n cap m k l : Nat} (hle : n ≤ cap) (hlo : OptVR ρ lo vlo) (hhi : VR ρ hi vhi) (hmx : VR ρ mx vmx)
  (h1 : vbound n (some mx) 0 = some m) (h2 : vbound m (some hi) 0 = some k) (h3 : vbound k lo 0 = some l) :
  (Instr.sliceBounds true n cap vlo (some vhi) (some vmx)).run P w = .ok (l, k, m) w ∧ l ≤ k ∧ k ≤ m ∧ m ≤ n := by
 have k1 := vbound_sound (P := P) (w := w) (ov := some vmx) (cap := cap) (code := .slice3Acap) hle (show OptVR ρ (some mx) (some vmx) from hmx) h1
 have k2 := vbound_sound (P := P) (w := w) (ov := some vhi) (cap := m) (code := .slice3B) (Nat.le_refl _) (show OptVR ρ (some hi) (some vhi) from hhi) h2
 have k3 := vbound_sound (P := P) (w := w) (cap := k) (code := .slice3C) (Nat.le_refl _) hlo h3
 simp only at k1 k2
 cases vlo with
 | none =>
  simp only at k3; subst k3
  exact ⟨by simp [Instr.sliceBounds, k1.1, k2.1], Nat.zero_le _, k2.2, k1.2⟩
 | some v =>
  simp only at k3
  exact ⟨by simp [Instr.sliceBounds, k1.1, k2.1, k3.1], k3.2, k2.2, k1.2⟩
theorem opSlice3_sound {T : TypeId} {a x : V} {lo hi mx : Option V} {u : Value} {vlo vhi vmx : Option Value} (ha : VR ρ a u)
    (hlo : OptVR ρ lo vlo) (hhi : OptVR ρ hi vhi) (hmx : OptVR ρ mx vmx) (hs : opSlice3 P T a lo hi mx = some x) :
    ∃ y, (Instr.sliceAt T u vlo vhi vmx).run P w = .ok y w ∧ VR ρ x y := by
  unfold opSlice3 at hs
  split at hs
  · rename_i hi mx
    cases vhi with
    | none => exact hhi.elim
    | some vhi =>
    cases vmx with
    | none => exact hmx.elim
    | some vmx =>
    split at hs
    · rename_i e b o n sz hT
      split at hs
      · rename_i sz' m hsz h1
        split at hs
        · rename_i k h2
          split at hs
          · rename_i l h3
            split at hs
            · rename_i hse
              subst hse
              simp only [Option.some.injEq] at hs; subst hs
              have fin : ∀ (ad : Addr) (c : Nat), u = .slice (some ad) n c → n ≤ c → (∀ m' l', l' ≤ m' → m' ≤ n → VR ρ (.sl b (o + l' * sz) (k - l) sz) (.slice (if m' = l' then some ad else some (ad.add (l' * sz))) (k - l) (m' - l')) ∨ l' ≠ l ∨ m' ≠ m) →
                  ∃ y, (Instr.sliceAt T u vlo (some vhi) (some vmx)).run P w = .ok y w ∧ VR ρ (.sl b (o + l * sz) (k - l) sz) y := by
                intro ad c hu hnc hv
                subst hu
                obtain ⟨q1, q2, q3, q4⟩ := bounds3 (P := P) (w := w) hnc hlo hhi hmx h1 h2 h3
                refine ⟨.slice (if m = l then some ad else some (ad.add (l * sz))) (k - l) (m - l), ?_, ?_⟩
                · simp only [Instr.sliceAt, Sem.run_bind, run_underlying hT, Result.andThen_ok, Instr.slice, q1, run_sizeOf hsz, Option.map_some]
                  rfl
                · rcases hv m l (by omega) q4 with q | q | q
                  · exact q
                  · exact absurd rfl q
                  · exact absurd rfl q
              obtain ⟨q1, q2, q3, q4⟩ := bounds3 (P := P) (w := w) (cap := n) (Nat.le_refl _) hlo hhi hmx h1 h2 h3
              cases ha with
              | sl _ _ _ _ c L hL hcc hl =>
                refine fin _ c rfl hcc fun m' l' p1 p2 => ?_
                by_cases e1 : l' = l
                · by_cases e2 : m' = m
                  · subst e1; subst e2
                    left
                    split
                    · rename_i hml
                      have : k - l' = 0 := by omega
                      rw [this, hml, Nat.sub_self]; exact .sl0 _ _ _ _
                    · rw [add_none, Nat.add_assoc]
                      refine .sl _ _ _ _ _ L hL (by omega) ?_
                      have : l' * sz + (m' - l') * sz = m' * sz := by rw [← Nat.add_mul]; congr 1; omega
                      have : m' * sz ≤ c * sz := Nat.mul_le_mul_right _ (by omega)
                      omega
                  · exact .inr (.inr e2)
                · exact .inr (.inl e1)
              | sl0 _ _ _ y =>
                refine fin y 0 rfl (Nat.le_refl _) fun m' l' p1 p2 => ?_
                left
                have : k - l = 0 := by omega
                have e1 : l' = 0 := by omega
                have e2 : m' = 0 := by omega
                rw [this, e1, e2]; exact .sl0 _ _ _ _
            · cases hs
          · cases hs
        · cases hs
      · cases hs
    · rename_i e hT
      split at hs
      · rename_i sz' m hsz h1
        split at hs
        · rename_i k h2
          split at hs
          · rename_i l h3
            simp only [Option.some.injEq] at hs; subst hs
            cases ha
            obtain ⟨q1, q2, q3, q4⟩ := bounds3 (P := P) (w := w) (cap := 0) (Nat.le_refl _) hlo hhi hmx h1 h2 h3
            obtain rfl : m = 0 := by omega
            obtain rfl : k = 0 := by omega
            obtain rfl : l = 0 := by omega
            refine ⟨.slice none 0 0, ?_, .nils⟩
            simp only [Instr.sliceAt, Sem.run_bind, run_underlying hT, Result.andThen_ok, Instr.slice, q1, run_sizeOf hsz]
            rfl
          · cases hs
        · cases hs
      · cases hs
    · cases hs
  · cases hs
def killOth (k : Nat) : List (Nat × Nat) → Tr Blk → Tr Blk
 | [], t => t
 | (a, _) :: l, t => match Nat.beq a k with
  | true => killOth k l t
  | false => killOth k l (t.put none a)
omit [E : Amb] in
theorem killOth_spec (k : Nat) : ∀ (l : List (Nat × Nat)) (t : Tr Blk), (∀ a x, (killOth k l t).get a = some x → t.get a = some x) ∧ (killOth k l t).get k = t.get k ∧ ∀ a e, (a, e) ∈ l → a ≠ k → (killOth k l t).get a = none := by
 intro l
 induction l with
 | nil => intro t; exact ⟨fun _ _ h => h, rfl, fun a e h => by cases h⟩
 | cons ae l ih =>
  obtain ⟨a, e⟩ := ae
  intro t
  simp only [killOth]
  cases hk : Nat.beq a k with
  | true =>
   have hak := Nat.eq_of_beq_eq_true hk
   obtain ⟨i1, i2, i3⟩ := ih t
   refine ⟨i1, i2, fun b e' hm hb => ?_⟩
   rcases List.mem_cons.1 hm with hm | hm
   ·simp only [Prod.mk.injEq] at hm; exact absurd (hm.1.trans hak) hb
   ·exact i3 b e' hm hb
  | false =>
   have hak : a ≠ k := Nat.ne_of_beq_eq_false hk
   obtain ⟨i1, i2, i3⟩ := ih (t.put none a)
   simp only
   have i1' : ∀ b x, (killOth k l (t.put none a)).get b = some x → b ≠ a ∧ t.get b = some x := by
    intro b x hx
    have := i1 b x hx
    rw [Tr.get_put] at this
    split at this
    ·cases this
    ·rename_i hh; exact ⟨hh, this⟩
   refine ⟨fun b x hx => (i1' b x hx).2, by rw [i2, Tr.get_put, if_neg (fun e => hak e.symm)], fun b e' hm hb => ?_⟩
   rcases List.mem_cons.1 hm with hm | hm
   ·simp only [Prod.mk.injEq] at hm
    cases hg : (killOth k l (t.put none a)).get b with
    | none => rfl
    | some x => exact absurd hm.1 (i1' b x hg).1
   ·exact i3 b e' hm hb
def Hp.freeze (h : Hp) (a n : Nat) : Option Hp :=
 match h.t.get a with
 | some (.cells f fb fz xs) => match h.fams.get f with
  | some l => some ⟨h.next, (killOth a l h.t).put (some (.cells f fb (Nat.max fz n) xs)) a, h.fams, h.els⟩
  | none => none
 | _ => none
def byteStr (xs : List V) : Option V := match intsOf .u8 xs with
 | some ns => some (.str (ns.map fun n => UInt8.ofNat n.toNat))
 | none => if xs.all byteV = true then some (.sstr xs) else none
theorem byteStr_inv {xs : List V} {s : V} {us : List Value} (h : byteStr xs = some s) (hv : VRs ρ xs us) :
  ∃ ns : List Int, us = ns.map (Value.int .u8 ·) ∧ VR ρ s (.string ⟨(ns.map fun n => UInt8.ofNat n.toNat).toArray⟩) := by
 unfold byteStr at h
 split at h
 ·rename_i ns hi
  simp only [Option.some.injEq] at h; subst h
  exact ⟨ns, ints_eq hi hv, .str _⟩
 ·split at h
  ·rename_i hb
   simp only [Option.some.injEq] at h; subst h
   obtain ⟨bs, rfl, k1, k2⟩ := bytesV_inv hv hb
   refine ⟨bs.map fun b => (b.toNat : Int), by simp, ?_⟩
   have e : (bs.map fun b : UInt8 => (b.toNat : Int)).map (fun n => UInt8.ofNat n.toNat) = bs := by
    rw [List.map_map]
    exact (List.map_congr_left fun b _ => (show UInt8.ofNat ((b.toNat : Int).toNat) = b from UInt8.toNat_inj.1 (by simp))).trans (List.map_id _)
   rw [e]; exact .sstr xs bs k1 k2
  ·cases h
def opUnsafeString (P : Program) (h : Hp) (argTypes : Array TypeId) (p n : V) : Option (V × Option Hp) :=
 match n with
 | .int _ (.ofNat 0) => match p with
  | .nilp => some (.str [], none)
  | .anyp => some (.str [], none)
  | .ptr _ _ => some (.str [], none)
  | _ => none
 | .int _ (.ofNat (m + 1)) => match p, argTypes[0]? with
  | .ptr a o, some pt => match P.underlying pt, h.t.get a, h.els.get a with
   | some (.pointer e), some (.cells _ _ _ xs), some e' =>
    if P.cellsOf (e' / 2) = 1 ∧ sameLayout P P.depth (e' / 2) e = true ∧ o + (m + 1) ≤ xs.length ∧ m + 1 ≤ 9223372036854775807 then
     match byteStr ((xs.drop o).take (m + 1)), h.freeze a (o + (m + 1)) with
     | some s, some h' => some (s, some h')
     | _, _ => none
    else none
   | _, _, _ => none
  | _, _ => none
 | _ => none
def opSliceData (v : V) : Option V :=
 match v with
 | .nils => some .nilp
 | .sl a o (_ + 1) _ => some (.ptr a o)
 | _ => none
def opConvPtr (P : Program) (h : Hp) (src dst : TypeId) (v : V) : Option V :=
 match P.underlying src, P.underlying dst, v with
 | some (.pointer t), some .unsafePointer, .ptr a o => match h.t.get a, szOf P t with
  | some (.cells _ _ _ xs), some (_ + 1) => if o < xs.length then some (.ptr a o) else none
  | _, _ => none
 | some .unsafePointer, some (.pointer u), .ptr a 0 => match h.t.get a, h.els.get a, szOf P u with
  | some (.cells _ _ _ xs), some e, some (_ + 1) =>
   if e % 2 = 1 ∧ 0 < P.cellsOf (e / 2) ∧ P.cellsOf (e / 2) ≤ xs.length ∧ sameLayout P P.depth (e / 2) u = true then some (.ptr a 0) else none
  | _, _, _ => none
 | some (.pointer _), some .unsafePointer, .nilp => some .nilp
 | some .unsafePointer, some (.pointer _), .nilp => some .nilp
 | some .unsafePointer, some .unsafePointer, .nilp => some .nilp
 | some .unsafePointer, some .unsafePointer, .ptr a o => some (.ptr a o)
 | _, _, _ => none
theorem opSliceData_sound {v x : V} {u : Value} {argTypes : Array TypeId} {T : TypeId} (hv : VR ρ v u) (hs : opSliceData v = some x) :
  ∃ y, (Builtin.unsafeSliceData_ argTypes T #[u]).run P w = .ok y w ∧ VR ρ x y := by
 unfold opSliceData at hs
 split at hs
 ·simp only [Option.some.injEq] at hs; subst hs
  cases hv
  exact ⟨_, rfl, .nilp⟩
 ·rename_i a o n sz
  simp only [Option.some.injEq] at hs; subst hs
  cases hv with
  | sl _ _ _ _ c L hL hc hl =>
   refine ⟨.pointer (some ⟨L.b, L.base + o, none⟩), ?_, .ptr a o L hL⟩
   have : c ≠ 0 := by omega
   show (if c ≠ 0 then (pure (.pointer (some ⟨L.b, L.base + o, none⟩)) : Sem Value) else _).run P w = _
   rw [if_pos this]; rfl
 ·cases hs
omit [E : Amb] in
theorem run_loadBytes {b : Nat} : ∀ (ns : List Int) (o : Nat) (acc : ByteArray), (∀ (i : Nat) n, ns[i]? = some n → w.cell? ⟨b, o + i, none⟩ = some (.int .u8 n)) →
  (loadBytes ⟨b, o, none⟩ acc ns.length).run P w = .ok ⟨acc.data ++ (ns.map fun n => UInt8.ofNat n.toNat).toArray⟩ w := by
 intro ns
 induction ns with
 | nil => intro o acc _; simp [loadBytes]
 | cons n ns ih =>
  intro o acc hc
  have h0 := hc 0 n rfl
  simp only [List.length_cons, loadBytes, Sem.run_bind]
  rw [run_load1 (by simpa using h0)]
  simp only [Result.andThen_ok, add_none]
  rw [ih (o + 1) _ (fun i m hm => by
   have := hc (i + 1) m (by simpa using hm)
   rw [show o + 1 + i = o + (i + 1) by omega]; exact this)]
  congr 1
  apply ByteArray.ext
  simp only [ByteArray.data_push, List.map_cons]
  apply Array.toList_inj.1
  simp
omit [E : Amb] in
theorem freeze_heap {b off n : Nat} {arr : Array Value} {el : TypeId} {fr : Nat × Nat} (hn : n ≠ 0) (hb : w.heap[b]? = some (.cells arr el fr)) :
  (w.freeze ⟨b, off, none⟩ n).heap[b]? = some (.cells arr el (if fr.1 == fr.2 then (off, off + n) else (min fr.1 off, max fr.2 (off + n)))) ∧
  (∀ b', b' ≠ b → (w.freeze ⟨b, off, none⟩ n).heap[b']? = w.heap[b']?) ∧ (w.freeze ⟨b, off, none⟩ n).heap.size = w.heap.size := by
 obtain ⟨lo, hi⟩ := fr
 refine ⟨?_, fun b' hne => ?_, ?_⟩
 ·simp [World.freeze, hn, Array.getElem?_modify, hb]
 ·simp only [World.freeze, hn, if_false, Array.getElem?_modify]
  rw [if_neg (fun e => hne e.symm)]
 ·simp [World.freeze, hn]
omit [E : Amb] in
theorem freeze_below {b off n k : Nat} (hk : k ≤ b) (_hb : b < w.heap.size) (hn : n ≠ 0) : Below k w (w.freeze ⟨b, off, none⟩ n) := by
 have e : (w.freeze ⟨b, off, none⟩ n).os = w.os ∧ (w.freeze ⟨b, off, none⟩ n).tape = w.tape ∧ (w.freeze ⟨b, off, none⟩ n).output = w.output := by
  unfold World.freeze
  rw [if_neg hn]; exact ⟨rfl, rfl, rfl⟩
 refine ⟨e.1, e.2.1, e.2.2, ?_, fun j hj => ?_⟩
 ·simp [World.freeze, hn]
 ·simp only [World.freeze, hn, if_false, Array.getElem?_modify]
  rw [if_neg (by omega)]
theorem freeze_sound (H : Rel Γ N0 w0 ρ h w) {a o n e : Nat} {h' : Hp} {L : Loc} (hL : ρ a = some L) (hs : h.freeze a (o + n) = some h') (hn : n ≠ 0) (hel : h.els.get a = some e)
  (hlen : ∀ f fb fz xs, h.t.get a = some (.cells f fb fz xs) → o + n ≤ xs.length) : Rel Γ N0 w0 ρ h' (w.freeze ⟨L.b, L.base + o, none⟩ n) := by
 unfold Hp.freeze at hs
 split at hs
 ·rename_i f fb fz xs hg
  split at hs
  ·rename_i l hl
   simp only [Option.some.injEq] at hs; subst hs
   have hle := hlen f fb fz xs hg
   obtain ⟨M, hM, hN, arr, el, fr, k1, k2, k3, k4, k5⟩ := (H.blk _ _ (some_ne (by assumption)) hg).ex
   rw [hL] at hM; simp only [Option.some.injEq] at hM; subst hM
   obtain ⟨M2, arr2, fr2, z1, z2, z3, z4⟩ := H.elk a e (some_ne (by assumption)) hel
   rw [hL] at z1; simp only [Option.some.injEq] at z1; subst z1
   rw [k1] at z2; simp only [Option.some.injEq, Obj.cells.injEq] at z2; obtain ⟨rfl, hel2, rfl⟩ := z2
   obtain ⟨q1, q2, q3⟩ := freeze_heap (off := L.base + o) hn k1
   obtain ⟨s1, s2, s3⟩ := killOth_spec a l h.t
   have hlt := H.lt a L hL
   have hget : ∀ b, ((killOth a l h.t).put (some (.cells f fb (Nat.max fz (o + n)) xs)) a).get b = if b = a then some (.cells f fb (Nat.max fz (o + n)) xs) else (killOth a l h.t).get b := fun b => by rw [Tr.get_put]
   -- who else lives lies elsewhere
   have hoth : ∀ b x M, b ≠ a → (killOth a l h.t).get b = some x → ρ b = some M → M.b ≠ L.b := by
    intro b x M hba hx hM
    have hx' := s1 b x hx
    have hff : famOf b x ≠ famOf a (.cells f fb fz xs) := by
     cases x with
     | cells f' gb gz zs =>
      simp only [famOf]
      intro hh; subst hh
      obtain ⟨m, m1, m2⟩ := H.fam.mem b f' gb gz zs hx'
      rw [hl] at m1; simp only [Option.some.injEq] at m1; subst m1
      rw [s3 _ _ m2 hba] at hx; cases hx
     | iter l' p => simp only [famOf]; exact fun hh => H.fam.own a f fb fz xs b _ hg hx' (fun _ _ _ _ h => by cases h) hh.symm
     | mapo es c => simp only [famOf]; exact fun hh => H.fam.own a f fb fz xs b _ hg hx' (fun _ _ _ _ h => by cases h) hh.symm
    exact H.sep b a x _ M L hx' hg hM hL hff
   have hold : ∀ b x, ((killOth a l h.t).put (some (.cells f fb (Nat.max fz (o + n)) xs)) a).get b = some x → ∃ y, h.t.get b = some y ∧ famOf b y = famOf b x ∧ (∀ f' gb gz zs, x = .cells f' gb gz zs → ∃ gz', y = .cells f' gb gz' zs) ∧ ((∀ f' gb gz zs, x ≠ .cells f' gb gz zs) → y = x) := by
    intro b x hx
    rw [hget] at hx
    by_cases e : b = a
    ·subst e; rw [if_pos rfl] at hx; simp only [Option.some.injEq] at hx; subst hx
     exact ⟨_, hg, rfl, fun f' gb gz zs hh => by simp only [Blk.cells.injEq] at hh; obtain ⟨rfl, rfl, _, rfl⟩ := hh; exact ⟨_, rfl⟩, fun hh => absurd rfl (hh _ _ _ _)⟩
    ·rw [if_neg e] at hx; exact ⟨x, s1 _ _ hx, rfl, fun f' gb gz zs hh => ⟨gz, hh⟩, fun _ => rfl⟩
   have hfrok : FrOk (if fr.1 == fr.2 then (L.base + o, L.base + o + n) else (min fr.1 (L.base + o), max fr.2 (L.base + o + n))) arr.size := by
    right
    rcases z3 with rfl | ⟨y1, y2⟩
    ·simp; omega
    ·have : (fr.1 == fr.2) = false := by simp; omega
     rw [this]; simp; omega
   refine ⟨?_, H.hN0, H.glob, H.fresh, fun b M hM => by rw [q3]; exact H.lt b M hM, ?_, ?_, ?_, ?_, ?_, H.elt, H.old, H.kept.step (fun c hc _ => q2 c (fun e => hc a _ L hg hL e.symm)) fun b x M hx hM => by
    obtain ⟨y, hy, _⟩ := hold b x hx
    exact .inl ⟨b, y, M, hy, hM, rfl⟩, H.pers.step rfl (fun c hc _ => q2 c (fun e => hc a _ L hg hL e.symm)) fun b x M hx hM => by
    obtain ⟨y, hy, _⟩ := hold b x hx
    exact .inl ⟨b, y, M, hy, hM, rfl⟩⟩
   ·exact H.below.trans (freeze_below hN hlt hn)
   ·intro b x hn0 hx
    rw [hget] at hx
    by_cases e : b = a
    ·subst e; rw [if_pos rfl] at hx; simp only [Option.some.injEq] at hx; subst hx
     refine ⟨L, hL, hN, arr, el, _, q1, k2, k3, k4, fun q p1 p2 => ?_⟩
     left
     rcases z3 with rfl | ⟨y1, y2⟩
     ·simp only [beq_self_eq_true, if_true] at p1 p2
      show q < L.base + Nat.max fz (o + n)
      have := Nat.le_max_right fz (o + n)
      have e1 : Nat.max fz (o + n) = max fz (o + n) := rfl
      omega
     ·have hb' : (fr.1 == fr.2) = false := by simp; omega
      rw [hb'] at p1 p2
      simp only [Bool.false_eq_true, if_false] at p1 p2
      have h5 := k5 (fr.2 - 1) (by omega) (by omega)
      show q < L.base + Nat.max fz (o + n)
      have e1 : Nat.max fz (o + n) = max fz (o + n) := rfl
      omega
    ·rw [if_neg e] at hx
     obtain ⟨M, hM, hMN, h3⟩ := (H.blk b x hn0 (s1 _ _ hx)).ex
     have hne := hoth b x M e hx hM
     refine ⟨M, hM, hMN, ?_⟩
     cases x with
     | cells f' gb gz zs => obtain ⟨arr2, el2, fr2, j1, j2⟩ := h3; exact ⟨arr2, el2, fr2, (q2 _ hne).trans j1, j2⟩
     | iter l' p => obtain ⟨q, bs, hb, k⟩ := h3; exact ⟨q, bs, hb, (q2 _ hne).trans k⟩
     | mapo es c => obtain ⟨arr2, es0, j1, j2⟩ := h3; exact ⟨arr2, es0, (q2 _ hne).trans j1, j2⟩
   ·intro b c x y M M' hx hy hM hM' hff
    obtain ⟨x', hx1, hx2, _⟩ := hold b x hx
    obtain ⟨y', hy1, hy2, _⟩ := hold c y hy
    exact H.sep b c x' y' M M' hx1 hy1 hM hM' (by rw [hx2, hy2]; exact hff)
   ·intro b c f' gb gz zs gb' gz' zs' M M' hx hy hM hM' hbb
    obtain ⟨x', hx1, _, hx2, _⟩ := hold b _ hx
    obtain ⟨y', hy1, _, hy2, _⟩ := hold c _ hy
    obtain ⟨g1, rfl⟩ := hx2 _ _ _ _ rfl
    obtain ⟨g2, rfl⟩ := hy2 _ _ _ _ rfl
    exact H.same b c f' gb g1 zs gb' g2 zs' M M' hx1 hy1 hM hM' hbb
   ·refine ⟨?_, H.fam.sorted, ?_, ?_⟩
    ·intro b f' gb gz zs hb
     obtain ⟨x', hx1, _, hx2, _⟩ := hold b _ hb
     obtain ⟨g1, rfl⟩ := hx2 _ _ _ _ rfl
     exact H.fam.mem b f' gb g1 zs hx1
    ·intro b x hb
     obtain ⟨x', hx1, hx2, _⟩ := hold b x hb
     have := H.fam.lt b x' hx1
     rw [hx2] at this; exact this
    ·intro b f' gb gz zs c x hb hc hx
     obtain ⟨x', hx1, _, hx2, _⟩ := hold b _ hb
     obtain ⟨g1, rfl⟩ := hx2 _ _ _ _ rfl
     obtain ⟨y', hy1, _, _, hy2⟩ := hold c x hc
     rw [hy2 hx] at hy1
     exact H.fam.own b f' gb g1 zs c x hx1 hy1 hx
   ·intro b e' hn0 he'
    obtain ⟨M, arr3, fr3, j1, j2, j3⟩ := H.elk b e' hn0 he'
    by_cases hbb : M.b = L.b
    ·rw [hbb, k1] at j2
     simp only [Option.some.injEq, Obj.cells.injEq] at j2
     obtain ⟨rfl, hj, rfl⟩ := j2
     exact ⟨M, arr, _, j1, by rw [hbb, ← hj]; exact q1, hfrok, j3.2⟩
    ·exact ⟨M, arr3, fr3, j1, (q2 _ hbb).trans j2, j3⟩
  ·cases hs
 ·cases hs
omit [E : Amb] in
theorem run_shape {b : Nat} {arr : Array Value} {el : TypeId} {fr : Nat × Nat} (hb : w.heap[b]? = some (.cells arr el fr)) : (shape b).run P w = .ok (some (el, arr.size)) w := by
 simp [shape, Sem.run, World.shape?, hb]
omit [E : Amb] in
theorem run_viewAt {b : Nat} {arr : Array Value} {el : TypeId} {fr : Nat × Nat} (hb : w.heap[b]? = some (.cells arr el fr)) : (viewAt b).run P w = .ok none w := by
 simp only [viewAt, Sem.run_bind, run_shape hb, Result.andThen_ok]; rfl
omit [E : Amb] in
theorem rowAt_one {fits : TypeId → Bool} {d e count off n : Nat} (hs : P.cellsOf e = 1) (hf : fits e = true) (hn : off + n ≤ count) : rowAt P fits (d + 1) e count off n = true := by
 simp only [rowAt, hs]
 simp [hf, hn, Nat.mod_one]
omit [E : Amb] in
theorem rowAt_zero {fits : TypeId → Bool} {d e count : Nat} (hs : 0 < P.cellsOf e) (hf : fits e = true) (hn : 1 ≤ count) : rowAt P fits (d + 1) e count 0 1 = true := by
 have : P.cellsOf e ≠ 0 := by omega
 simp only [rowAt, this, if_false]
 simp [hf, hn]
omit [E : Amb] in
theorem depth_succ (P : Program) : ∃ d, P.depth = d + 1 := ⟨2 * (P.types.size + Made.depth) + 1, rfl⟩
omit [E : Amb] in
theorem run_variablesAt {b off n el : Nat} {u : TypeId} {arr : Array Value} {fr : Nat × Nat} (hb : w.heap[b]? = some (.cells arr el fr)) (h : rowAt P (sameLayout P P.depth · u) P.depth el (arr.size / P.cellsOf el) off n = true) :
  (variablesAt ⟨b, off, none⟩ u n).run P w = .ok true w := by
 obtain ⟨d, hd⟩ := depth_succ P
 simp only [variablesAt, Sem.run_bind, run_program, Result.andThen_ok, run_shape hb]
 have : liesAt P P.depth el (arr.size / P.cellsOf el) off u n = true := by
  rw [hd, liesAt]
  rw [hd] at h
  rw [hd, h]; rfl
 simp only [this]; rfl
omit [E : Amb] in
theorem us_zero {argTypes : Array TypeId} {T : TypeId} {q : Option Addr} {k : IntKind} {n : Int} {pt : TypeId} (hpt : argTypes[0]? = some pt) (hn : n = 0) :
  (Builtin.unsafeString_ argTypes T #[.pointer q, .int k n]).run P w = .ok (.string .empty) w := by
 delta Builtin.unsafeString_ Builtin.unsafeString_.match_3
 dsimp only
 rw [dif_pos (show (#[Value.pointer q, Value.int k n] : Array Value).size = 2 from rfl)]
 have g1 : ∀ (a : (#[Value.pointer q, Value.int k n] : Array Value).size = 2) (b : 1 < 2), (#[Value.pointer q, Value.int k n].getLit 1 a b : Value) = .int k n := fun _ _ => rfl
 simp only [g1]
 have hsc : ∀ (a : (#[Value.pointer q, Value.int k n] : Array Value).size = 2) (b : 0 < 2) (F : Option Addr → Sem Value) G, @Builtin.unsafeString_._sparseCasesOn_3 (fun _ => Sem Value) (#[Value.pointer q, Value.int k n].getLit 0 a b) F G = F q := fun _ _ _ _ => rfl
 rw [hsc]
 subst hn
 simp only [Sem.run_bind, asInt, asIntOf, Sem.run_pure, Result.andThen_ok, hpt]
 cases q <;> rfl
omit [E : Amb] in
theorem us_pos {argTypes : Array TypeId} {T : TypeId} {ad : Addr} {k : IntKind} {n : Int} {pt e : TypeId} {s : ByteArray} (hpt : argTypes[0]? = some pt) (h1 : ¬ n < 0) (h2 : ¬ n > IntKind.i64.max) (h3 : ¬ n = 0)
  (hrt : (elemOf pt).run P w = .ok e w) (hva : (variablesAt ad e n.toNat).run P w = .ok true w) (hlb : (loadBytes ad ByteArray.empty n.toNat).run P w = .ok s w) :
  (Builtin.unsafeString_ argTypes T #[.pointer (some ad), .int k n]).run P w = .ok (.string s) (w.freeze ad n.toNat) := by
 delta Builtin.unsafeString_ Builtin.unsafeString_.match_3
 dsimp only
 rw [dif_pos (show (#[Value.pointer (some ad), Value.int k n] : Array Value).size = 2 from rfl)]
 have g1 : ∀ (a : (#[Value.pointer (some ad), Value.int k n] : Array Value).size = 2) (b : 1 < 2), (#[Value.pointer (some ad), Value.int k n].getLit 1 a b : Value) = .int k n := fun _ _ => rfl
 simp only [g1]
 have hsc : ∀ (a : (#[Value.pointer (some ad), Value.int k n] : Array Value).size = 2) (b : 0 < 2) (F : Option Addr → Sem Value) G, @Builtin.unsafeString_._sparseCasesOn_3 (fun _ => Sem Value) (#[Value.pointer (some ad), Value.int k n].getLit 0 a b) F G = F (some ad) := fun _ _ _ _ => rfl
 rw [hsc]
 simp only [Sem.run_bind, asInt, asIntOf, Sem.run_pure, Result.andThen_ok, hpt, h1, h2, h3, if_false, hrt, hva, if_true, hlb]
 simp only [Go.freeze, Sem.run, Result.andThen_ok]
theorem opUnsafeString_sound (H : Rel Γ N0 w0 ρ h w) {p n x : V} {up un : Value} {argTypes : Array TypeId} {T : TypeId} {h' : Option Hp} (hp : VR ρ p up) (hn : VR ρ n un) (hs : opUnsafeString P h argTypes p n = some (x, h')) (hpt : ∃ pt, argTypes[0]? = some pt) :
  Good Γ N0 w0 ρ h x h' ((Builtin.unsafeString_ argTypes T #[up, un]).run P w) := by
 obtain ⟨pt, hpt⟩ := hpt
 unfold opUnsafeString at hs
 have zero : ∀ (k : IntKind) (q : Option Addr), (Builtin.unsafeString_ argTypes T #[.pointer q, .int k (Int.ofNat 0)]).run P w = .ok (.string .empty) w := fun k q => us_zero hpt rfl
 have estr : Value.string .empty = .string ⟨([] : List UInt8).toArray⟩ := rfl
 split at hs
 ·rename_i k
  cases hn.int_inv
  split at hs
  ·simp only [Option.some.injEq, Prod.mk.injEq] at hs; obtain ⟨rfl, rfl⟩ := hs
   cases hp
   exact ⟨_, w, ρ, zero k none, .refl _, H, by rw [estr]; exact .str []⟩
  ·simp only [Option.some.injEq, Prod.mk.injEq] at hs; obtain ⟨rfl, rfl⟩ := hs
   cases hp
   exact ⟨_, w, ρ, zero k _, .refl _, H, by rw [estr]; exact .str []⟩
  ·simp only [Option.some.injEq, Prod.mk.injEq] at hs; obtain ⟨rfl, rfl⟩ := hs
   obtain ⟨L, hL, rfl⟩ := hp.ptr_inv
   exact ⟨_, w, ρ, zero k _, .refl _, H, by rw [estr]; exact .str []⟩
  ·cases hs
 ·rename_i k m
  cases hn.int_inv
  split at hs
  ·rename_i a o pt' hpt'
   rw [hpt] at hpt'; simp only [Option.some.injEq] at hpt'; subst hpt'
   split at hs
   ·rename_i e f fb fz xs e' hT hg hel
    split at hs
    ·rename_i hc
     obtain ⟨hc1, hc2, hc3, hc4⟩ := hc
     split at hs
     ·rename_i s h1 hi hfz
      simp only [Option.some.injEq, Prod.mk.injEq] at hs; obtain ⟨rfl, rfl⟩ := hs
      obtain ⟨L, hL, rfl⟩ := hp.ptr_inv
      obtain ⟨M, hM, hN, arr, el, fr, k1, k2, k3, k4, k5⟩ := (H.blk _ _ (some_ne (by assumption)) hg).ex
      rw [hL] at hM; simp only [Option.some.injEq] at hM; subst hM
      obtain ⟨M2, arr2, fr2, z1, z2, z3, z4⟩ := H.elk a e' (some_ne (by assumption)) hel
      rw [hL] at z1; simp only [Option.some.injEq] at z1; subst z1
      rw [k1] at z2; simp only [Option.some.injEq, Obj.cells.injEq] at z2; obtain ⟨rfl, hel2, rfl⟩ := z2
      have H2 := freeze_sound H hL hfz (by omega) hel (fun f' fb' fz' xs' hg' => by rw [hg] at hg'; simp only [Option.some.injEq, Blk.cells.injEq] at hg'; obtain ⟨_, _, _, rfl⟩ := hg'; omega)
      obtain ⟨us, hus⟩ : ∃ us : List Value, us = (arr.toList.drop (L.base + o)).take (m + 1) := ⟨_, rfl⟩
      have g3 : VRs ρ ((xs.drop o).take (m + 1)) us := by
       refine ⟨by rw [hus]; simp; omega, fun i x u hx hu => ?_⟩
       rw [hus, List.getElem?_take] at hu
       rw [List.getElem?_take] at hx
       split at hx
       ·rw [if_pos (by assumption), List.getElem?_drop] at hu
        rw [drop_drop_get] at hx
        exact k4 _ x u hx (by rw [← Nat.add_assoc]; simpa using hu)
       ·cases hx
      obtain ⟨ns, hns, hstr⟩ := byteStr_inv hi g3
      have hnl : ns.length = m + 1 := by
       have := congrArg List.length hns; rw [hus] at this; simp at this; omega
      refine ⟨.string ⟨(ns.map fun n => UInt8.ofNat n.toNat).toArray⟩, _, ρ, ?_, .refl _, H2, hstr⟩
      have hlb := run_loadBytes (P := P) (w := w) (b := L.b) ns (L.base + o) .empty (fun i n hn => by
       have hi' := (List.getElem?_eq_some_iff.1 hn).1
       have hu : us[i]? = some (.int .u8 n) := by rw [hns]; simp [hn]
       rw [hus, List.getElem?_take, if_pos (by omega), List.getElem?_drop] at hu
       rw [cell_of_heap k1]
       simpa using hu)
      rw [hnl] at hlb
      obtain ⟨d, hd⟩ := depth_succ P
      have hva := run_variablesAt (P := P) (off := L.base + o) (n := m + 1) (u := e) k1 (by
       rw [← hel2] at hc1 hc2
       rw [hd]
       rw [hd] at hc2
       exact rowAt_one hc1 hc2 (by rw [hc1, Nat.div_one]; omega))
      have e1 : ¬ ((Int.ofNat (m + 1)) < 0) := by
       have : (Int.ofNat (m + 1)) = ((m + 1 : Nat) : Int) := rfl
       rw [this]; omega
      have e2 : ¬ ((Int.ofNat (m + 1)) > IntKind.i64.max) := by
       have : IntKind.i64.max = 9223372036854775807 := rfl
       rw [this]
       have : (Int.ofNat (m + 1)) = ((m + 1 : Nat) : Int) := rfl
       rw [this]; omega
      have e3 : ¬ ((Int.ofNat (m + 1)) = 0) := by intro hh; have := congrArg Int.toNat hh; simp at this
      have e4 : (Int.ofNat (m + 1)).toNat = m + 1 := rfl
      have hrt : (elemOf pt).run P w = .ok e w := by
       simp only [elemOf, Sem.run_bind, run_underlying hT, Result.andThen_ok]; rfl
      have := us_pos (argTypes := argTypes) (T := T) (k := k) (n := Int.ofNat (m + 1)) hpt e1 e2 e3 hrt (by rw [e4]; exact hva) (by rw [e4]; exact hlb)
      rw [e4] at this
      rw [this]
      simp
     ·cases hs
    ·cases hs
   ·cases hs
  ·cases hs
 ·cases hs
theorem opConvPtr_sound (H : Rel Γ N0 w0 ρ h w) {src dst : TypeId} {v x : V} {u : Value} (hv : VR ρ v u) (hs : opConvPtr P h src dst v = some x) :
  ∃ y, (convert src dst u).run P w = .ok y w ∧ VR ρ x y := by
 unfold opConvPtr at hs
 split at hs
 ·rename_i t a o h1 h2
  split at hs
  ·rename_i f fb fz xs sz hg hsz
   split at hs
   ·rename_i ho
    simp only [Option.some.injEq] at hs; subst hs
    obtain ⟨L, hL, rfl⟩ := hv.ptr_inv
    obtain ⟨M, hM, hN, arr, el, fr, k1, k2, k3, k4, k5⟩ := (H.blk _ _ (some_ne (by assumption)) hg).ex
    rw [hL] at hM; simp only [Option.some.injEq] at hM; subst hM
    refine ⟨_, ?_, .ptr a o L hL⟩
    have hsee : (Conv.seenAt ⟨L.b, L.base + o, none⟩).run P w = .ok ⟨L.b, L.base + o, none⟩ w := by
     simp only [Conv.seenAt, Sem.run_bind, run_viewAt k1, Result.andThen_ok]; rfl
    have hci : (cellsIn L.b).run P w = .ok (some arr.size) w := by
     simp only [cellsIn, Sem.run_bind, run_shape k1, Result.andThen_ok]; rfl
    have hlt : ¬ (L.base + o ≥ arr.size) := by omega
    simp only [convert, Sem.run_bind, run_underlying h1, run_underlying h2, Result.andThen_ok, Conv.unsafePointer, hsee, hci, run_sizeOf hsz]
    simp [hlt]
   ·cases hs
  ·cases hs
 ·rename_i u' a h1 h2
  split at hs
  ·rename_i f fb fz xs e sz hg hel hsz
   split at hs
   ·rename_i hc
    obtain ⟨hodd, hpos, hle, hlay⟩ := hc
    simp only [Option.some.injEq] at hs; subst hs
    obtain ⟨L, hL, rfl⟩ := hv.ptr_inv
    obtain ⟨M, hM, hN, arr, el, fr, k1, k2, k3, k4, k5⟩ := (H.blk _ _ (some_ne (by assumption)) hg).ex
    rw [hL] at hM; simp only [Option.some.injEq] at hM; subst hM
    obtain ⟨M2, arr2, fr2, z1, z2, z3, z4⟩ := H.elk a e (some_ne (by assumption)) hel
    rw [hL] at z1; simp only [Option.some.injEq] at z1; subst z1
    rw [k1] at z2; simp only [Option.some.injEq, Obj.cells.injEq] at z2; obtain ⟨rfl, hel2, rfl⟩ := z2
    have hb0 := z4 hodd
    rw [← hel2] at hpos hle hlay
    refine ⟨_, ?_, .ptr a 0 L hL⟩
    rw [hb0]
    have hsee : (Conv.seenAt ⟨L.b, 0 + 0, none⟩).run P w = .ok ⟨L.b, 0 + 0, none⟩ w := by
     simp only [Conv.seenAt, Sem.run_bind, run_viewAt k1, Result.andThen_ok]; rfl
    obtain ⟨d, hd⟩ := depth_succ P
    have hva := run_variablesAt (P := P) (off := 0 + 0) (n := 1) (u := u') k1 (by
     rw [hd]
     rw [hd] at hlay
     exact rowAt_zero hpos hlay (by
      have : P.cellsOf el ≤ arr.size := by omega
      exact (Nat.one_le_div_iff hpos).2 this))
    simp only [convert, Sem.run_bind, run_underlying h1, run_underlying h2, Result.andThen_ok, Conv.unsafePointer, hsee, run_sizeOf hsz, hva]
    simp
   ·cases hs
  ·cases hs
 ·rename_i t h1 h2
  simp only [Option.some.injEq] at hs; subst hs
  cases hv
  refine ⟨_, ?_, .nilp⟩
  simp only [convert, Sem.run_bind, run_underlying h1, run_underlying h2, Result.andThen_ok, Conv.unsafePointer]; rfl
 ·rename_i t h1 h2
  simp only [Option.some.injEq] at hs; subst hs
  cases hv
  refine ⟨_, ?_, .nilp⟩
  simp only [convert, Sem.run_bind, run_underlying h1, run_underlying h2, Result.andThen_ok, Conv.unsafePointer]; rfl
 ·rename_i h1 h2
  simp only [Option.some.injEq] at hs; subst hs
  cases hv
  refine ⟨_, ?_, .nilp⟩
  simp only [convert, Sem.run_bind, run_underlying h1, run_underlying h2, Result.andThen_ok, Conv.unsafePointer]; rfl
 ·rename_i a o h1 h2
  simp only [Option.some.injEq] at hs; subst hs
  obtain ⟨L, hL, rfl⟩ := hv.ptr_inv
  refine ⟨_, ?_, .ptr a o L hL⟩
  simp only [convert, Sem.run_bind, run_underlying h1, run_underlying h2, Result.andThen_ok, Conv.unsafePointer]; rfl
 ·cases hs
end
mutual
def V.shift (s : Nat) : V → V
 | .ptr a o => .ptr (a + s) o
 | .sl a o n z => .sl (a + s) o n z
 | .mp a => .mp (a + s)
 | .fn f x y => .fn f (V.shifts s x) (V.shifts s y)
 | .iface t x => .iface t (x.shift s)
 | .agg x => .agg (V.shifts s x)
 | .tup x => .tup (V.shifts s x)
 | .bool b => .bool b
 | .int k n => .int k n
 | .str l => .str l
 | .nilp => .nilp
 | .anyp => .anyp
 | .gp g o => .gp g o
 | .nils => .nils
 | .nilmap => .nilmap
 | .nilfn => .nilfn
 | .nilif => .nilif
 | .any => .any
 | .mod m i => .mod m i
 | .anyb => .anyb
 | .lin k c ts => .lin k c ts
 | .sstr x => .sstr (V.shifts s x)
 | .pl n z x => .pl n z x
 | .pp x => .pp x
 | .pk _ => .any
def V.shifts (s : Nat) : List V → List V
 | [] => []
 | x :: r => x.shift s :: V.shifts s r
end
omit [E : Amb] in
theorem shifts_map (s : Nat) : ∀ (l : List V), V.shifts s l = l.map (V.shift s)
 | [] => rfl
 | x :: r => by rw [V.shifts, shifts_map s r]; rfl
def joinR (s : Nat) (ρ ρ0 : Ren) : Ren := ⟨fun a => if a < s then ρ a else ρ0 (a - s), ρ0.mem⟩
omit [E : Amb] in
theorem joinR_hi (s : Nat) (ρ ρ0 : Ren) (a : Nat) : joinR s ρ ρ0 (a + s) = ρ0 a := by
 show (if a + s < s then ρ (a + s) else ρ0 (a + s - s)) = ρ0 a
 rw [if_neg (by omega)]; congr 1; omega
omit [E : Amb] in
theorem joinR_lo {s : Nat} {ρ ρ0 : Ren} {a : Nat} (h : a < s) : joinR s ρ ρ0 a = ρ a := by
 show (if a < s then ρ a else ρ0 (a - s)) = ρ a
 rw [if_pos h]
theorem VR.shift {s : Nat} {ρ ρ0 : Ren} {x : V} {u : Value} (h : VR ρ0 x u) : VR (joinR s ρ ρ0) (x.shift s) u := by
  have key : ∀ {ρ0 : Ren} (xs : List V) (us : Array Value), (∀ (i : Nat) x u, xs[i]? = some x → us[i]? = some u → VR (joinR s ρ ρ0) (x.shift s) u) →
      ∀ (i : Nat) x u, (V.shifts s xs)[i]? = some x → us[i]? = some u → VR (joinR s ρ ρ0) x u := by
    intro ρ0 xs us ih i x u hx hu
    rw [shifts_map, List.getElem?_map, Option.map_eq_some_iff] at hx
    obtain ⟨y, hy, rfl⟩ := hx
    exact ih i y u hy hu
  induction h with
  | bool b => exact .bool b
  | int k n => exact .int k n
  | str l => exact .str l
  | nilp => exact .nilp
  | anyp p => exact .anyp p
  | ptr a o L h => exact .ptr _ o L (by rw [joinR_hi]; exact h)
  | gp g o => exact .gp g o
  | nils => exact .nils
  | sl a o n sz c L h hc hl => exact .sl _ o n sz c L (by rw [joinR_hi]; exact h) hc hl
  | sl0 a o sz x => exact .sl0 _ o sz x
  | nilmap => exact .nilmap
  | mp a L h => exact .mp _ L (by rw [joinR_hi]; exact h)
  | nilfn => exact .nilfn
  | fn f xs ys us vs hn hm hx hy ih1 ih2 => exact .fn f _ _ us vs (by rw [shifts_map]; simpa using hn) (by rw [shifts_map]; simpa using hm) (key _ _ ih1) (key _ _ ih2)
  | nilif => exact .nilif
  | iface t x u h ih => exact .iface t _ u ih
  | agg xs us hn hr ih => exact .agg _ us (by rw [shifts_map]; simpa using hn) (key _ _ ih)
  | tup xs us hn hr ih => exact .tup _ us (by rw [shifts_map]; simpa using hn) (key _ _ ih)
  | any u => exact .any u
  | mod m i k hm h => exact .mod m i k hm h
  | opq i => exact .opq i
  | anyb b => exact .anyb b
  | lin k c ts n h hn => exact .lin k c ts n (fun t ht => (h t ht).ext) (by rw [sumR_ext (ρ := _) ts]; exact hn)
  | sstr xs bs hn hr ih =>
    exact .sstr _ bs (by rw [shifts_map]; simpa using hn) fun i x b hx hb => by
      rw [shifts_map, List.getElem?_map, Option.map_eq_some_iff] at hx
      obtain ⟨y, hy, rfl⟩ := hx
      exact ih i y b hy hb
  | pl n sz c b o xs m hm hc hn hl hr _ => exact .pl n sz c b o xs m hm hc hn hl hr
  | pl0 sz c x => exact .pl0 sz c x
  | pp b o xs m hm hl hr _ => exact .pp b o xs m hm hl hr
  | pk b o x m u hm hu hx _ => exact .any _
theorem VRs.shift {s : Nat} {ρ ρ0 : Ren} {xs : List V} {us : List Value} (h : VRs ρ0 xs us) : VRs (joinR s ρ ρ0) (V.shifts s xs) us := by
 refine ⟨by rw [shifts_map]; simpa using h.1, fun i x u hx hu => ?_⟩
 rw [shifts_map, List.getElem?_map, Option.map_eq_some_iff] at hx
 obtain ⟨y, hy, rfl⟩ := hx
 exact (h.2 i y u hy hu).shift
theorem BytesR.shift {s : Nat} {ρ ρ0 : Ren} {xs : List V} {bs : List UInt8} (h : BytesR ρ0 xs bs) : BytesR (joinR s ρ ρ0) (V.shifts s xs) bs := by
 refine ⟨by rw [shifts_map]; simpa using h.1, fun i x u hx hu => ?_⟩
 rw [shifts_map, List.getElem?_map, Option.map_eq_some_iff] at hx
 obtain ⟨y, hy, rfl⟩ := hx
 exact (h.2 i y u hy hu).shift
def Blk.shift (s : Nat) : Blk → Blk
 | .cells f b z xs => .cells (f + s) b z (V.shifts s xs)
 | .iter l p => .iter (V.shifts s l) p
 | .mapo es c => .mapo (es.map fun e => (e.1.shift s, e.2.shift s)) c
def Tr.list {α : Type} : Tr α → List (Nat × α)
  | .leaf => []
  | .node l v r => (match v with
      | some x => [(0, x)]
      | none => []) ++ ((Tr.list l).map (fun p => (2 * p.1 + 1, p.2)) ++ (Tr.list r).map (fun p => (2 * p.1 + 2, p.2)))
omit [E : Amb] in
theorem Tr.get_zero {α : Type} (l r : Tr α) (v : Option α) : (Tr.node l v r).get 0 = v := rfl
omit [E : Amb] in
theorem Tr.get_odd {α : Type} (l r : Tr α) (v : Option α) (j : Nat) : (Tr.node l v r).get (2 * j + 1) = l.get j := by
 simp only [Tr.get]
 have h1 : Nat.beq (2 * j + 1) 0 = false := rfl
 have h2 : (2 * j + 1) % 2 = 1 := by omega
 have h3 : (2 * j + 1) / 2 = j := by omega
 rw [h1, h2, h3]
omit [E : Amb] in
theorem Tr.get_even {α : Type} (l r : Tr α) (v : Option α) (j : Nat) : (Tr.node l v r).get (2 * j + 2) = r.get j := by
 simp only [Tr.get]
 have h1 : Nat.beq (2 * j + 2) 0 = false := rfl
 have h2 : (2 * j + 2) % 2 = 0 := by omega
 have h3 : (2 * j + 2) / 2 - 1 = j := by omega
 rw [h1, h2, h3]
omit [E : Amb] in
theorem Tr.mem_list {α : Type} : ∀ (t : Tr α) (i : Nat) (x : α), (i, x) ∈ t.list ↔ t.get i = some x := by
 intro t
 induction t with
 | leaf => intro i x; simp [Tr.list, Tr.get]
 | node l v r ih1 ih2 =>
  intro i x
  simp only [Tr.list, List.mem_append, List.mem_map, Prod.mk.injEq, Prod.exists]
  rcases (show i = 0 ∨ (∃ j, i = 2 * j + 1) ∨ ∃ j, i = 2 * j + 2 by
   rcases Nat.eq_zero_or_pos i with h | h
   ·exact .inl h
   ·rcases Nat.mod_two_eq_zero_or_one i with e | e
    ·exact .inr (.inr ⟨i / 2 - 1, by omega⟩)
    ·exact .inr (.inl ⟨i / 2, by omega⟩)) with rfl | ⟨j, rfl⟩ | ⟨j, rfl⟩
  ·rw [Tr.get_zero]
   constructor
   ·rintro (h | ⟨a, b, _, h, _⟩ | ⟨a, b, _, h, _⟩)
    ·cases v <;> simp at h; rw [h]
    ·omega
    ·omega
   ·intro h; subst h; left; simp
  ·rw [Tr.get_odd, ← ih1]
   constructor
   ·rintro (h | ⟨a, b, hm, h, rfl⟩ | ⟨a, b, _, h, _⟩)
    ·cases v <;> simp at h
    ·have : a = j := by omega
     subst this; exact hm
    ·omega
   ·intro h; exact .inr (.inl ⟨j, x, h, rfl, rfl⟩)
  ·rw [Tr.get_even, ← ih2]
   constructor
   ·rintro (h | ⟨a, b, _, h, _⟩ | ⟨a, b, hm, h, rfl⟩)
    ·cases v <;> simp at h
    ·omega
    ·have : a = j := by omega
     subst this; exact hm
   ·intro h; exact .inr (.inr ⟨j, x, h, rfl, rfl⟩)
def putAll {α : Type} (s : Nat) (f : α → α) : List (Nat × α) → Tr α → Tr α
 | [], t => t
 | p :: r, t => putAll s f r (t.put (some (f p.2)) (p.1 + s))
open Classical in
omit [E : Amb] in
theorem get_putAll {α : Type} {s : Nat} {f : α → α} {g : Nat → Option α} : ∀ (l : List (Nat × α)) (t : Tr α) (j : Nat), (∀ i x, (i, x) ∈ l → g i = some x) →
  (putAll s f l t).get j = if s ≤ j ∧ ∃ x, (j - s, x) ∈ l then (g (j - s)).map f else t.get j := by
 intro l
 induction l with
 | nil => intro t j _; rw [if_neg (by rintro ⟨_, x, h⟩; cases h)]; rfl
 | cons p r ih =>
  intro t j hg
  obtain ⟨i, y⟩ := p
  have hgi := hg i y List.mem_cons_self
  simp only [putAll]
  rw [ih _ j fun i x h => hg i x (List.mem_cons_of_mem _ h)]
  by_cases h1 : s ≤ j ∧ ∃ x, (j - s, x) ∈ r
  ·rw [if_pos h1, if_pos ⟨h1.1, by obtain ⟨x, hx⟩ := h1.2; exact ⟨x, List.mem_cons_of_mem _ hx⟩⟩]
  ·rw [if_neg h1, Tr.get_put]
   by_cases h2 : j = i + s
   ·subst h2
    have e : i + s - s = i := by omega
    rw [if_pos rfl, if_pos ⟨by omega, y, by rw [e]; exact List.mem_cons_self⟩, e, hgi]; rfl
   ·rw [if_neg h2, if_neg]
    rintro ⟨h3, x, hx⟩
    rcases List.mem_cons.1 hx with hx | hx
    ·simp only [Prod.mk.injEq] at hx; omega
    ·exact h1 ⟨h3, x, hx⟩
def Tr.beside {α : Type} (s : Nat) (f : α → α) (t0 t : Tr α) : Tr α := putAll s f t0.list t
omit [E : Amb] in
theorem Tr.get_beside {α : Type} {s : Nat} {f : α → α} {t0 t : Tr α} (ht : ∀ j x, t.get j = some x → j < s) (j : Nat) : (Tr.beside s f t0 t).get j = if j < s then t.get j else (t0.get (j - s)).map f := by
 unfold Tr.beside
 rw [get_putAll (g := t0.get) _ _ _ fun i x h => (Tr.mem_list t0 i x).1 h]
 by_cases hj : j < s
 ·rw [if_pos hj, if_neg (by rintro ⟨h, _⟩; omega)]
 ·rw [if_neg hj]
  cases hq : t0.get (j - s) with
  | none =>
   rw [if_neg]
   ·cases hh : t.get j with
    | none => rfl
    | some x => exact absurd (ht j x hh) hj
   ·rintro ⟨_, x, hx⟩
    rw [(Tr.mem_list t0 _ x).1 hx] at hq; cases hq
  | some x => rw [if_pos ⟨by omega, x, (Tr.mem_list t0 _ x).2 hq⟩]
omit [E : Amb] in
theorem FamOk.sub {h h' : Hp} (H : FamOk h) (hn : h'.next = h.next) (hs : ∀ a x, h'.t.get a = some x → h.t.get a = some x) (hf : h'.fams = h.fams) : FamOk h' where
 mem := fun a f fb fz xs hx => by rw [hf]; exact H.mem a f fb fz xs (hs _ _ hx)
 sorted := fun f l hl => H.sorted f l (hf ▸ hl)
 lt := fun a x hx => by rw [hn]; exact H.lt a x (hs _ _ hx)
 own := fun a f fb fz xs b x ha hb => H.own a f fb fz xs b x (hs _ _ ha) (hs _ _ hb)
def Tr.only {α : Type} : Tr Unit → Tr α → Tr α
 | .leaf, _ => .leaf
 | .node l v r, t => match t with
  | .leaf => .leaf
  | .node l' v' r' => .node (Tr.only l l') (match v with
   | some _ => v'
   | none => none) (Tr.only r r')
omit [E : Amb] in
theorem Tr.get_only {α : Type} : ∀ (u : Tr Unit) (t : Tr α) (i : Nat) (x : α), (Tr.only u t).get i = some x → t.get i = some x := by
 intro u
 induction u with
 | leaf => intro t i x h; simp [Tr.only, Tr.get] at h
 | node l v r ih1 ih2 =>
  intro t i x h
  cases t with
  | leaf => simp [Tr.only, Tr.get] at h
  | node l' v' r' =>
   simp only [Tr.only, Tr.get] at h ⊢
   cases hi : Nat.beq i 0
   ·rw [hi] at h
    simp only at h ⊢
    cases h2 : Nat.beq (i % 2) 1
    ·rw [h2] at h; exact ih2 _ _ _ h
    ·rw [h2] at h; exact ih1 _ _ _ h
   ·rw [hi] at h
    simp only at h ⊢
    split at h
    ·exact h
    ·cases h
mutual
def V.names : V → List Nat → List Nat
 | .ptr a _, l => a :: l
 | .sl a _ _ _, l => a :: l
 | .mp a, l => a :: l
 | .fn _ x y, l => V.namesL x (V.namesL y l)
 | .iface _ x, l => x.names l
 | .agg x, l => V.namesL x l
 | .tup x, l => V.namesL x l
 | _, l => l
def V.namesL : List V → List Nat → List Nat
 | [], l => l
 | x :: r, l => x.names (V.namesL r l)
end
def Blk.names : Blk → List Nat
 | .cells _ _ _ xs => V.namesL xs []
 | .iter _ _ => []
 | .mapo es _ => es.foldl (fun l e => e.1.names (e.2.names l)) []
def reach (t : Tr Blk) : Nat → List Nat → Tr Unit → Tr Unit
 | 0, _, s => s
 | _ + 1, [], s => s
 | n + 1, a :: l, s => match Tr.get s a with
  | some _ => reach t n l s
  | none => match Tr.get t a with
   | some b => reach t n (b.names ++ l) (Tr.put (some ()) s a)
   | none => reach t n l s
def Hp.gc (h : Hp) (v : V) : Hp := ⟨h.next, Tr.only (reach h.t 1000000 (v.names []) .leaf) h.t, h.fams, h.els⟩
theorem Rel.gc {Γ : Glob} {N0 : Nat} {w0 : Fr} {ρ : Ren} {h : Hp} {w : World} (H : Rel Γ N0 w0 ρ h w) (v : V) : Rel Γ N0 w0 ρ (h.gc v) w := by
 have hs : ∀ a x, (h.gc v).t.get a = some x → h.t.get a = some x := fun a x hx => Tr.get_only _ _ a x hx
 exact H.sub rfl hs (H.fam.sub rfl hs rfl) rfl
def moveEnds (s : Nat) (l : List (Nat × Nat)) : List (Nat × Nat) := l.map fun p => (p.1 + s, p.2)
def Hp.beside (h h0 : Hp) : Hp :=
 ⟨h.next + h0.next, Tr.beside h.next (Blk.shift h.next) h0.t h.t, putAll h.next (moveEnds h.next) h0.fams.list h.fams, Tr.beside h.next (fun e => e) h0.els h.els⟩
section
variable {Γ : Glob} {N0 : Nat} {w0 : Fr} {ρ ρ0 : Ren} {h h0 : Hp} {w w' : World}
omit [E : Amb] in
theorem famOf_shift (s a : Nat) (x : Blk) : famOf (a + s) (x.shift s) = famOf a x + s := by cases x <;> rfl
theorem BlkR.moved {s : Nat} {N1 a : Nat} {x : Blk} (hN : N0 ≤ N1) (hx : BlkR ρ0 N1 w' a x) : BlkR (joinR s ρ ρ0) N0 w' (a + s) (x.shift s) := by
 obtain ⟨L, h1, h2, h3⟩ := hx.ex
 refine ⟨L, by rw [joinR_hi]; exact h1, Nat.le_trans hN h2, ?_⟩
 cases x with
 | cells f fb fz xs =>
  obtain ⟨arr, el, fr, g1, g2, g3, g4, g5⟩ := h3
  refine ⟨arr, el, fr, g1, g2, by rw [shifts_map]; simpa using g3, fun i y u hy hu => ?_, g5⟩
  rw [shifts_map, List.getElem?_map, Option.map_eq_some_iff] at hy
  obtain ⟨z, hz, rfl⟩ := hy
  exact (g4 i z u hz hu).shift
 | iter l p => obtain ⟨q, bs, hb, k⟩ := h3; exact ⟨q, bs, hb.shift, k⟩
 | mapo es c =>
  obtain ⟨arr, es0, g1, gb, gp, gq, g2, g3⟩ := h3
  refine ⟨arr, es0.map fun e => (e.1.shift s, e.2.shift s), g1, gb, fun h => by rw [gp h], gq.map _, by simpa using g2, fun i k e hk he => ?_⟩
  rw [List.getElem?_map, Option.map_eq_some_iff] at hk
  obtain ⟨z, hz, rfl⟩ := hk
  exact ⟨(g3 i z e hz he).1.shift, (g3 i z e hz he).2.shift⟩
theorem join_ext (H : Rel Γ N0 w0 ρ h w) (hm : ∀ b m, ρ.mem b = some m → ρ0.mem b = some m) : Ext ρ (joinR h.next ρ ρ0) := by
 refine ⟨fun a L ha => ?_, hm⟩
 have : a < h.next := by
  rcases Nat.lt_or_ge a h.next with hh | hh
  ·exact hh
  ·rw [H.fresh a hh] at ha; cases ha
 rw [joinR_lo this]; exact ha
theorem beside_t (H : Rel Γ N0 w0 ρ h w) (j : Nat) : (h.beside h0).t.get j = if j < h.next then h.t.get j else (h0.t.get (j - h.next)).map (Blk.shift h.next) :=
 Tr.get_beside (fun j x hx => (H.fam.lt j x hx).1) j
theorem beside_els (H : Rel Γ N0 w0 ρ h w) (j : Nat) : (h.beside h0).els.get j = if j < h.next then h.els.get j else (h0.els.get (j - h.next)).map (fun e => e) :=
 Tr.get_beside (fun j x hx => H.elt j x hx) j
theorem beside_cases (H : Rel Γ N0 w0 ρ h w) {a : Nat} {x : Blk} (hx : (h.beside h0).t.get a = some x) :
  (a < h.next ∧ h.t.get a = some x) ∨ ∃ b y, a = b + h.next ∧ h0.t.get b = some y ∧ x = y.shift h.next := by
 rw [beside_t H] at hx
 split at hx
 ·exact .inl ⟨by assumption, hx⟩
 ·obtain ⟨y, h1, h2⟩ := Option.map_eq_some_iff.1 hx
  exact .inr ⟨a - h.next, y, by omega, h1, h2.symm⟩
theorem FamOk.beside (H : Rel Γ N0 w0 ρ h w) (K : FamOk h0) : FamOk (h.beside h0) where
 mem := by
  intro a f fb fz xs hx
  rcases beside_cases H hx with ⟨h1, h2⟩ | ⟨b, y, rfl, h2, h3⟩
  ·obtain ⟨l, g1, g2⟩ := H.fam.mem a f fb fz xs h2
   have hf : f < h.next := (H.fam.lt a _ h2).2
   refine ⟨l, ?_, g2⟩
   show (putAll h.next (moveEnds h.next) h0.fams.list h.fams).get f = some l
   rw [get_putAll (g := h0.fams.get) _ _ _ fun i x hh => (Tr.mem_list _ i x).1 hh, if_neg (by rintro ⟨hh, _⟩; omega)]
   exact g1
  ·cases y <;> simp only [Blk.shift, Blk.cells.injEq, reduceCtorEq] at h3
   rename_i f0 fb0 fz0 xs0
   obtain ⟨rfl, rfl, rfl, rfl⟩ := h3
   obtain ⟨l, g1, g2⟩ := K.mem b _ _ _ _ h2
   refine ⟨moveEnds h.next l, ?_, ?_⟩
   ·show (putAll h.next (moveEnds h.next) h0.fams.list h.fams).get (f0 + h.next) = some _
    have e : f0 + h.next - h.next = f0 := by omega
    rw [get_putAll (g := h0.fams.get) _ _ _ fun i x hh => (Tr.mem_list _ i x).1 hh, if_pos ⟨by omega, l, by rw [e]; exact (Tr.mem_list _ _ _).2 g1⟩, e, g1]; rfl
   ·rw [shifts_map, List.length_map]
    exact List.mem_map.2 ⟨_, g2, rfl⟩
 sorted := by
  intro f l hl
  have hl' : (putAll h.next (moveEnds h.next) h0.fams.list h.fams).get f = some l := hl
  rw [get_putAll (g := h0.fams.get) _ _ _ fun i x hh => (Tr.mem_list _ i x).1 hh] at hl'
  split at hl'
  ·obtain ⟨m, h1, rfl⟩ := Option.map_eq_some_iff.1 hl'
   exact List.pairwise_map.2 (K.sorted _ _ h1)
  ·exact H.fam.sorted f l hl'
 lt := by
  intro a x hx
  have hn : (h.beside h0).next = h.next + h0.next := rfl
  rcases beside_cases H hx with ⟨h1, h2⟩ | ⟨b, y, rfl, h2, rfl⟩
  ·have := H.fam.lt a x h2; omega
  ·have := K.lt b y h2; rw [famOf_shift]; omega
 own := by
  intro a f fb fz xs b x ha hb hne
  rcases beside_cases H ha with ⟨h1, h2⟩ | ⟨a', y, rfl, h2, h3⟩ <;> rcases beside_cases H hb with ⟨k1, k2⟩ | ⟨b', z, rfl, k2, rfl⟩
  ·exact H.fam.own a f fb fz xs b x h2 k2 hne
  ·have := (H.fam.lt a _ h2).2
   simp only [famOf] at this; omega
  ·cases y <;> simp only [Blk.shift, Blk.cells.injEq, reduceCtorEq] at h3
   obtain ⟨rfl, _⟩ := h3; omega
  ·cases y <;> simp only [Blk.shift, Blk.cells.injEq, reduceCtorEq] at h3
   obtain ⟨rfl, _⟩ := h3
   have := K.own a' _ _ _ _ b' z h2 k2 (by intro f' fb' fz' xs' e; subst e; exact hne _ _ _ _ rfl)
   omega
theorem Rel.beside (H : Rel Γ N0 w0 ρ h w) (K : Rel Γ w.heap.size ⟨w, 0, ρ.bare, []⟩ ρ0 h0 w') (hm : ∀ b m, ρ.mem b = some m → ρ0.mem b = some m) : Rel Γ N0 w0 (joinR h.next ρ ρ0) (h.beside h0) w' := by
 have H' := H.grow K.below
 have hN : N0 ≤ w.heap.size := Nat.le_trans H.hN0 H.below.size
 have hb0 : ∀ b y L, h0.t.get b = some y → ρ0 b = some L → w.heap.size ≤ L.b := by
  intro b y L hy hL
  obtain ⟨M, h1, h2, _⟩ := (K.blk b y (some_ne hL) hy).ex
  rw [hL] at h1; simp only [Option.some.injEq] at h1; subst h1; exact h2
 exact {
  below := H'.below
  hN0 := H.hN0
  glob := H.glob
  fresh := by
   intro a ha
   have hn : (h.beside h0).next = h.next + h0.next := rfl
   show (if a < h.next then ρ a else ρ0 (a - h.next)) = none
   rw [if_neg (by omega)]
   exact K.fresh _ (by omega)
  lt := by
   intro a L ha
   have ha : (if a < h.next then ρ a else ρ0 (a - h.next)) = some L := ha
   split at ha
   ·exact H'.lt a L ha
   ·exact K.lt _ L ha
  blk := by
   intro a x hne hx
   rcases beside_cases H hx with ⟨h1, h2⟩ | ⟨b, y, rfl, h2, rfl⟩
   ·have := H'.blk a x (by rw [joinR_lo h1] at hne; exact hne) h2
    obtain ⟨L, g1, g2, g3⟩ := this.ex
    refine ⟨L, join_ext H hm a L g1, g2, ?_⟩
    cases x with
    | cells f fb fz xs =>
     obtain ⟨arr, el, fr, q1, q2, q3, q4, q5⟩ := g3
     exact ⟨arr, el, fr, q1, q2, q3, fun i y u hy hu => (q4 i y u hy hu).ext (join_ext H hm), q5⟩
    | iter l p => obtain ⟨q, bs, hb, k⟩ := g3; exact ⟨q, bs, hb.ext (join_ext H hm), k⟩
    | mapo es c =>
     obtain ⟨arr, es0, q1, qb, qp, qq, q2, q3⟩ := g3
     exact ⟨arr, es0, q1, qb, qp, qq, q2, fun i k e hk he => ⟨(q3 i k e hk he).1.ext (join_ext H hm), (q3 i k e hk he).2.ext (join_ext H hm)⟩⟩
   ·exact (K.blk b y (by rw [joinR_hi] at hne; exact hne) h2).moved hN
  sep := by
   intro a b x y L M hx hy hL hM hf
   rcases beside_cases H hx with ⟨h1, h2⟩ | ⟨a', x', rfl, h2, rfl⟩ <;> rcases beside_cases H hy with ⟨k1, k2⟩ | ⟨b', y', rfl, k2, rfl⟩
   ·rw [joinR_lo h1] at hL; rw [joinR_lo k1] at hM; exact H.sep a b x y L M h2 k2 hL hM hf
   ·rw [joinR_lo h1] at hL; rw [joinR_hi] at hM
    have := H.lt a L hL; have := hb0 _ _ _ k2 hM; omega
   ·rw [joinR_hi] at hL; rw [joinR_lo k1] at hM
    have := H.lt b M hM; have := hb0 _ _ _ h2 hL; omega
   ·rw [joinR_hi] at hL hM
    rw [famOf_shift, famOf_shift] at hf
    exact K.sep a' b' x' y' L M h2 k2 hL hM (by omega)
  same := by
   intro a b f fb fz xs gb gz ys L M hx hy hL hM hb
   rcases beside_cases H hx with ⟨h1, h2⟩ | ⟨a', x', rfl, h2, h3⟩ <;> rcases beside_cases H hy with ⟨k1, k2⟩ | ⟨b', y', rfl, k2, k3⟩
   ·rw [joinR_lo h1] at hL; rw [joinR_lo k1] at hM; exact H.same a b f fb fz xs gb gz ys L M h2 k2 hL hM hb
   ·rw [joinR_lo h1] at hL; rw [joinR_hi] at hM
    have := H.lt a L hL; have := hb0 _ _ _ k2 hM; omega
   ·rw [joinR_hi] at hL; rw [joinR_lo k1] at hM
    have := H.lt b M hM; have := hb0 _ _ _ h2 hL; omega
   ·rw [joinR_hi] at hL hM
    cases x' <;> simp only [Blk.shift, Blk.cells.injEq, reduceCtorEq] at h3
    cases y' <;> simp only [Blk.shift, Blk.cells.injEq, reduceCtorEq] at k3
    obtain ⟨rfl, rfl, rfl, rfl⟩ := h3
    obtain ⟨e, rfl, rfl, rfl⟩ := k3
    have e' := Nat.add_right_cancel e
    subst e'
    exact K.same a' b' _ _ _ _ _ _ _ L M h2 k2 hL hM hb
  fam := FamOk.beside H K.fam
  elk := by
   intro a e hne he
   rw [beside_els H] at he
   split at he
   ·rename_i hlt
    obtain ⟨L, arr, fr, q1, q2⟩ := H'.elk a e (by rw [joinR_lo hlt] at hne; exact hne) he
    exact ⟨L, arr, fr, by rw [joinR_lo hlt]; exact q1, q2⟩
   ·rename_i hnlt
    obtain ⟨e0, h1, rfl⟩ := Option.map_eq_some_iff.1 he
    obtain ⟨L, arr, fr, q1, q2⟩ := K.elk _ _ (by have hne : (if a < h.next then ρ a else ρ0 (a - h.next)) ≠ none := hne; rw [if_neg hnlt] at hne; exact hne) h1
    refine ⟨L, arr, fr, ?_, q2⟩
    show (if a < h.next then ρ a else ρ0 (a - h.next)) = some L
    rw [if_neg (by assumption)]; exact q1
  elt := by
   intro a e he
   have hn : (h.beside h0).next = h.next + h0.next := rfl
   rw [beside_els H] at he
   split at he
   ·omega
   ·obtain ⟨e0, h1, rfl⟩ := Option.map_eq_some_iff.1 he
    have := K.elt _ _ h1
    omega
  old := by
   have hn : (h.beside h0).next = h.next + h0.next := rfl
   have h1 := H.old.1
   refine ⟨by omega, fun a ha => ?_⟩
   rw [joinR_lo (by omega)]
   exact H.old.2 a ha
  kept := H.kept.step (fun b _ hlt => K.below.block b hlt) fun a x L hx hL => by
   rcases beside_cases H hx with ⟨h1, h2⟩ | ⟨b, y, rfl, h2, rfl⟩
   ·rw [joinR_lo h1] at hL; exact .inl ⟨a, x, L, h2, hL, rfl⟩
   ·rw [joinR_hi] at hL; exact .inr (hb0 _ _ _ h2 hL)
  pers := by
   intro b m hb
   obtain ⟨k1, k2, k3⟩ := K.pers b m hb
   refine ⟨k1, ?_, fun a x L hx hL => ?_⟩
   ·rcases k2 with k2 | k2
    ·exact .inl (Nat.le_trans H.below.size k2)
    ·exact (H.pers b m k2).2.1
   ·rcases beside_cases H hx with ⟨h1, h2⟩ | ⟨c, y, rfl, h2, rfl⟩
    ·rw [joinR_lo h1] at hL
     rcases k2 with k2 | k2
     ·have k2 : w.heap.size ≤ b := k2
      have := H.lt a L hL; omega
     ·exact (H.pers b m k2).2.2 a x L h2 hL
    ·rw [joinR_hi] at hL; exact k3 c y L h2 hL }
end
end Go.Proofs.YtkpoeilfnopgbaaGreatDoor.HM
