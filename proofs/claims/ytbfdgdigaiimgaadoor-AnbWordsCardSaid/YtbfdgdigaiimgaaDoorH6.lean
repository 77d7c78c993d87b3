/- The heap machine, 6: structs and slices built, strings and slices, iterators. -/
import Derived.Test.YtbfdgdigaiimgaaDoorH5
namespace Go.Proofs.YtbfdgdigaiimgaaDoor.HM
open Go Go.RowKit

theorem fold_set (off : Nat) : ∀ (l : List Value) (i : Nat) (arr : Array Value), off + i + l.length ≤ arr.size →
    ((l.zipIdx i).foldl (fun (cs : Array Value) (x : Value × Nat) => cs.setIfInBounds (off + x.2) x.1) arr).size = arr.size ∧
    ∀ k, ((l.zipIdx i).foldl (fun (cs : Array Value) (x : Value × Nat) => cs.setIfInBounds (off + x.2) x.1) arr)[k]? = if off + i ≤ k ∧ k < off + i + l.length then l[k - (off + i)]? else arr[k]? := by
  intro l
  induction l with
  | nil => intro i arr _; exact ⟨rfl, fun k => by simp; intro h1 h2; omega⟩
  | cons a l ih =>
    intro i arr h
    simp only [List.length_cons] at h
    simp only [List.zipIdx_cons, List.foldl_cons]
    obtain ⟨h1, h2⟩ := ih (i + 1) (arr.setIfInBounds (off + i) a) (by simp; omega)
    refine ⟨by rw [h1]; simp, fun k => ?_⟩
    rw [h2 k]
    by_cases e : k = off + i
    · subst e
      rw [if_neg (by omega), if_pos ⟨by omega, by simp only [List.length_cons]; omega⟩]
      rw [Array.getElem?_setIfInBounds]
      simp only [if_true, Nat.sub_self, List.getElem?_cons_zero]
      rw [if_pos (by omega)]
    · by_cases e2 : off + (i + 1) ≤ k ∧ k < off + (i + 1) + l.length
      · rw [if_pos e2, if_pos (by simp only [List.length_cons]; omega)]
        rw [show k - (off + i) = (k - (off + (i + 1))) + 1 by omega]
        rfl
      · rw [if_neg e2, if_neg (by simp only [List.length_cons]; omega)]
        rw [Array.getElem?_setIfInBounds, if_neg (by omega)]


def vfill (place : Nat → Option (Nat × Nat)) (cells : List V) : List (Nat × V) → Option (List V)
  | [] => some cells
  | (i, v) :: rest => match place i with
    | none => none
    | some (off, size) => if (v.cells.length = size ∧ v.isAny = false) ∧ off + v.cells.length ≤ cells.length then vfill place (splice cells v.cells off) rest else none

theorem fill_sound {R : Ren} {place : Nat → Option (Nat × Nat)} : ∀ (vs : List (Nat × V)) (us : List (Nat × Value)) (cells : List V) (arr : Array Value) (cs : List V),
    VRs R cells arr.toList → vs.length = us.length → (∀ (k : Nat) x y, vs[k]? = some x → us[k]? = some y → x.1 = y.1 ∧ VR R x.2 y.2) → vfill place cells vs = some cs →
    ∃ arr', Instr.fill place arr us = some arr' ∧ VRs R cs arr'.toList := by
  intro vs
  induction vs with
  | nil =>
    intro us cells arr cs hc hl _ h
    obtain rfl : us = [] := by cases us with | nil => rfl | cons _ _ => simp at hl
    simp only [vfill, Option.some.injEq] at h; subst h
    exact ⟨arr, rfl, hc⟩
  | cons x vs ih =>
    intro us cells arr cs hc hl hr h
    cases us with
    | nil => simp at hl
    | cons y us =>
      obtain ⟨i, v⟩ := x
      obtain ⟨i', u⟩ := y
      obtain ⟨e, hv0⟩ := hr 0 _ _ rfl rfl
      simp only at e; subst e
      simp only [vfill] at h
      split at h
      · cases h
      · rename_i off size hp
        split at h
        · rename_i hb
          have hv := hv0.cells hb.1.2
          simp only at hv
          have h1 : u.cells.size = v.cells.length := by simpa using hv.1.symm
          have h2 : arr.size = cells.length := by simpa using hc.1.symm
          obtain ⟨hs, hg⟩ := fold_set off u.cells.toList 0 arr (by simp; omega)
          have hz : u.cells.zipIdx.foldl (fun cs (c, j) => cs.setIfInBounds (off + j) c) arr = (u.cells.toList.zipIdx 0).foldl (fun (cs : Array Value) (x : Value × Nat) => cs.setIfInBounds (off + x.2) x.1) arr := by
            rw [← Array.foldl_toList]; simp
          have hc2 : VRs R (splice cells v.cells off) (u.cells.zipIdx.foldl (fun cs (c, j) => cs.setIfInBounds (off + j) c) arr).toList := by
            refine ⟨?_, fun k y v' hy hv' => ?_⟩
            · rw [splice_length hb.2, hz]; have := hs; rw [h2] at this; simpa using this.symm
            · rw [hz] at hv'
              rw [Array.getElem?_toList, hg] at hv'
              rw [splice_get hb.2] at hy
              by_cases hk : off ≤ k ∧ k < off + v.cells.length
              · rw [if_pos hk] at hy
                rw [if_pos (by simp; omega)] at hv'
                exact hv.2 _ y v' hy (by simpa using hv')
              · rw [if_neg hk] at hy
                rw [if_neg (by simp; omega)] at hv'
                exact hc.2 k y v' hy (by simpa using hv')
          obtain ⟨arr', ha, hc'⟩ := ih us _ _ cs hc2 (by simpa using hl) (fun k x y hx hy => hr (k + 1) x y (by simpa using hx) (by simpa using hy)) h
          refine ⟨arr', ?_, hc'⟩
          simp only [Instr.fill, hp]
          rw [if_neg (by simp; omega)]
          exact ha
        · cases h

def placesOf (P : Program) (fs : List Field) : Option (List (Nat × Nat)) := mapC (fun f => (szOf P f.type).map fun s => (f.offset, s)) fs

def opBuild (P : Program) (T : TypeId) (parts : List (Nat × V)) : Option V :=
  match zeroC P T, P.underlying T with
  | some zs, some (.struct fs) => match placesOf P fs.toList with
    | some pl => (vfill (pl[·]?) zs parts).map .agg
    | none => none
  | some zs, some (.array _ e) => match szOf P e with
    | some sz => (vfill (fun i => some (i * sz, sz)) zs parts).map .agg
    | none => none
  | _, _ => none

theorem run_listMapM {P : Program} {w : World} {α β γ : Type} (g : α → Sem β) (f : α → Option γ) (r : γ → β) (hg : ∀ a c, f a = some c → (g a).run P w = .ok (r c) w) :
    ∀ (l : List α) (cs : List γ), mapC f l = some cs → (l.mapM g).run P w = .ok (cs.map r) w := by
  intro l
  induction l with
  | nil => intro cs h; simp [mapC] at h; subst h; rfl
  | cons a l ih =>
    intro cs h
    simp only [mapC] at h
    split at h
    case h_2 => cases h
    rename_i c cs' hc hcs
    simp only [Option.some.injEq] at h; subst h
    simp only [List.mapM_cons, Sem.run_bind, hg a c hc, Result.andThen_ok, ih cs' hcs]
    rfl


section
variable {P : Program} {Γ : Glob} {N0 : Nat} {w0 : Fr} {ρ : Ren} {h : Hp} {w : World}

theorem opBuild_sound {T : TypeId} {parts : List (Nat × V)} {us : List (Nat × Value)} {x : V} (hl : parts.length = us.length)
    (hr : ∀ (k : Nat) a b, parts[k]? = some a → us[k]? = some b → a.1 = b.1 ∧ VR ρ a.2 b.2) (hb : opBuild P T parts = some x) :
    ∃ y, (Instr.build T us.toArray).run P w = .ok y w ∧ VR ρ x y := by
  unfold opBuild at hb
  split at hb
  · rename_i zs fs hz hT
    split at hb
    · rename_i pl hpl
      simp only [Option.map_eq_some_iff] at hb
      obtain ⟨cs, hcs, rfl⟩ := hb
      obtain ⟨z, hzr, hzl⟩ := run_zeroValue (P := P) (w := w) hz
      obtain ⟨arr, ha, hc⟩ := fill_sound (R := ρ) parts us zs z.cells cs (hzl ρ) hl hr hcs
      refine ⟨.agg arr, ?_, VRs.agg hc⟩
      have hm : (fs.mapM fun f => do pure (f.offset, ← sizeOf f.type) : Sem (Array (Nat × Nat))).run P w = .ok pl.toArray w := by
        rw [Array.mapM_eq_mapM_toList, Sem.run_map]
        rw [run_listMapM (P := P) (w := w) _ (fun f : Field => (szOf P f.type).map fun s => (f.offset, s)) id (fun f c hc => by
          simp only [Option.map_eq_some_iff] at hc
          obtain ⟨s, hs, rfl⟩ := hc
          simp only [Sem.run_bind, run_sizeOf hs, Result.andThen_ok]; rfl) _ _ hpl]
        simp
      simp only [Instr.build, Sem.run_bind, hzr, Result.andThen_ok, run_underlying hT, hm]
      have e : (fun x : Nat => pl.toArray[x]?) = (fun x : Nat => pl[x]?) := by funext k; simp
      rw [e, ha]; rfl
    · cases hb
  · rename_i zs len e hz hT
    split at hb
    · rename_i sz hsz
      simp only [Option.map_eq_some_iff] at hb
      obtain ⟨cs, hcs, rfl⟩ := hb
      obtain ⟨z, hzr, hzl⟩ := run_zeroValue (P := P) (w := w) hz
      obtain ⟨arr, ha, hc⟩ := fill_sound (R := ρ) parts us zs z.cells cs (hzl ρ) hl hr hcs
      refine ⟨.agg arr, ?_, VRs.agg hc⟩
      simp only [Instr.build, Sem.run_bind, hzr, Result.andThen_ok, run_underlying hT, run_sizeOf hsz, ha]; rfl
    · cases hb
  · cases hb

/-! ## New blocks -/

def opAlloc (P : Program) (h : Hp) (T : TypeId) : Option (V × Option Hp) :=
  match zeroC P T with
  | some cs => some (.ptr h.next 0, some ((h.new cs).withEl h.next (2 * T + 1)))
  | none => none

def opBox (h : Hp) (T : TypeId) (v : V) : V × Option Hp := (.ptr h.next 0, some ((h.new v.cells).withEl h.next (2 * T + 1)))

theorem newVR (H : Rel Γ N0 w0 ρ h w) {xs : List V} {us : Array Value} (el : TypeId) (hv : VRs ρ xs us.toList) :
    ∃ ρ', Ext ρ ρ' ∧ Rel Γ N0 w0 ρ' (h.new xs) (World.new w (.cells us el)) ∧ ρ' h.next = some ⟨w.heap.size, 0, us.size⟩ :=
  ⟨_, setR_ext (H.fresh _ (Nat.le_refl _)), H.newCells (by rw [hv.1]; simp) (fun o p1 p2 => by simp at p2) (fun i y u hy hu => hv.2 i y u hy (by simpa using hu)), by simp [setR]⟩

theorem half_odd (n : Nat) : (2 * n + 1) / 2 = n := by omega

theorem newEl {xs : List V} {us : Array Value} {el : TypeId} {ρ' : Ren} (H : Rel Γ N0 w0 ρ' (h.new xs) (World.new w (.cells us el))) (hL : ρ' h.next = some ⟨w.heap.size, 0, us.size⟩) :
    Rel Γ N0 w0 ρ' ((h.new xs).withEl h.next (2 * el + 1)) (World.new w (.cells us el)) :=
  H.withEl hL (by rw [half_odd]; exact new_heap_new w _) (.inl rfl) (fun _ => rfl)

theorem VR.newPtr {ρ : Ren} {a b n : Nat} (h : ρ a = some ⟨b, 0, n⟩) : VR ρ (.ptr a 0) (.pointer (some ⟨b, 0, none⟩)) := .ptr a 0 ⟨b, 0, n⟩ h

theorem opAlloc_sound (H : Rel Γ N0 w0 ρ h w) {T : TypeId} {x : V} {h' : Option Hp} (hs : opAlloc P h T = some (x, h')) : Good Γ N0 w0 ρ h x h' ((Instr.alloc T true (.tuple #[])).run P w) := by
  unfold opAlloc at hs
  split at hs
  · rename_i cs hz
    simp only [Option.some.injEq, Prod.mk.injEq] at hs; obtain ⟨rfl, rfl⟩ := hs
    obtain ⟨z, hzr, hzl⟩ := run_zeroValue (P := P) (w := w) hz
    obtain ⟨ρ', e1, e2, e3⟩ := newVR H (us := z.cells) T (hzl ρ)
    refine ⟨_, _, ρ', ?_, e1, newEl e2 e3, VR.newPtr e3⟩
    simp only [Instr.alloc, Sem.run_bind, hzr, Result.andThen_ok, newVar, run_newRow]; rfl
  · cases hs

theorem opBox_sound (H : Rel Γ N0 w0 ρ h w) {T : TypeId} {v : V} {u : Value} (hv : VR ρ v u) (hna : v.isAny = false) : Good Γ N0 w0 ρ h (opBox h T v).1 (opBox h T v).2 ((Instr.box T u).run P w) := by
  obtain ⟨ρ', e1, e2, e3⟩ := newVR H (us := u.cells) T (hv.cells hna)
  refine ⟨_, _, ρ', ?_, e1, newEl e2 e3, VR.newPtr e3⟩
  simp only [Instr.box, Sem.run_bind, newVar, run_newRow, Result.andThen_ok]; rfl

def zerosOf (zs : List V) (n : Nat) : List V := (List.range n).map fun k => zs.getD (k % zs.length) .nilp

theorem zerosOf_VRs {R : Ren} {zs : List V} {us : Array Value} (hz : VRs R zs us.toList) (n : Nat) (hn : n = 0 ∨ 0 < zs.length) : VRs R (zerosOf zs n) ((Array.range n).map (us[· % us.size]!)).toList := by
  have hsz : zs.length = us.size := by simpa using hz.1
  refine ⟨by simp [zerosOf], fun k y v hy hv => ?_⟩
  simp only [zerosOf, List.getElem?_map, Option.map_eq_some_iff] at hy
  obtain ⟨k', hk', rfl⟩ := hy
  obtain ⟨hlt, hk''⟩ := List.getElem?_eq_some_iff.1 hk'
  simp only [List.getElem_range] at hk''
  subst hk''
  have hlt' : k < n := by simpa using hlt
  have hp : 0 < zs.length := by rcases hn with e | e; omega; exact e
  have hm : k % zs.length < zs.length := Nat.mod_lt _ hp
  have hv' : v = us[k % us.size]! := by
    rw [Array.getElem?_toList] at hv
    simp only [Array.getElem?_map] at hv
    rw [Array.getElem?_range] at hv
    simp [hlt'] at hv; exact hv.symm
  have e1 : zs[k % zs.length]? = some (zs.getD (k % zs.length) .nilp) := by simp [List.getD_eq_getElem?_getD, hm]
  refine hz.2 _ _ _ e1 ?_
  rw [hv', ← hsz]
  have : k % zs.length < us.size := by rw [← hsz]; exact hm
  simp [this]

def opBuildSlice (P : Program) (h : Hp) (T : TypeId) (len : Nat) (parts : List (Nat × V)) : Option (V × Option Hp) :=
  match P.underlying T with
  | some (.slice e) => match szOf P e, zeroC P e with
    | some sz, some zs => if 0 < sz ∧ zs.length = sz ∧ len * sz ≤ 16777216 then
        match vfill (fun i => some (i * sz, sz)) (zerosOf zs (len * sz)) parts with
        | some cs => some (.sl h.next 0 len sz, some (h.new cs))
        | none => none
      else none
    | _, _ => none
  | _ => none

theorem vfill_length {place : Nat → Option (Nat × Nat)} : ∀ (vs : List (Nat × V)) (cells cs : List V), vfill place cells vs = some cs → cs.length = cells.length := by
  intro vs
  induction vs with
  | nil => intro cells cs h; simp [vfill] at h; rw [h]
  | cons x vs ih =>
    intro cells cs h
    simp only [vfill] at h
    split at h
    · cases h
    · split at h
      · rename_i hb; rw [ih _ _ h, splice_length hb.2]
      · cases h

theorem opBuildSlice_sound (H : Rel Γ N0 w0 ρ h w) {T : TypeId} {len : Nat} {parts : List (Nat × V)} {us : List (Nat × Value)} {x : V} {h' : Option Hp} (hl : parts.length = us.length)
    (hr : ∀ (k : Nat) a b, parts[k]? = some a → us[k]? = some b → a.1 = b.1 ∧ VR ρ a.2 b.2) (hb : opBuildSlice P h T len parts = some (x, h')) :
    Good Γ N0 w0 ρ h x h' ((Instr.buildSlice T len us.toArray).run P w) := by
  unfold opBuildSlice at hb
  split at hb
  · rename_i e hT
    split at hb
    · rename_i sz zs hsz hz
      split at hb
      · rename_i hc
        obtain ⟨hp, hzl, hbig⟩ := hc
        split at hb
        · rename_i cs hcs
          simp only [Option.some.injEq, Prod.mk.injEq] at hb; obtain ⟨rfl, rfl⟩ := hb
          obtain ⟨z, hzr, hzv⟩ := run_zeroValue (P := P) (w := w) hz
          obtain ⟨arr, ha, hc⟩ := fill_sound (R := ρ) parts us _ _ cs (zerosOf_VRs (hzv ρ) (len * sz) (.inr (by omega))) hl hr hcs
          have hcl := vfill_length _ _ _ hcs
          have hsz2 : arr.size = len * sz := by
            have := hc.1; rw [hcl] at this; simp [zerosOf] at this; omega
          obtain ⟨ρ', e1, e2, e3⟩ := newVR H (us := arr) e hc
          refine ⟨.slice (some ⟨w.heap.size, 0, none⟩) len len, _, ρ', ?_, e1, e2, .sl h.next 0 len sz len ⟨w.heap.size, 0, arr.size⟩ e3 (Nat.le_refl _) (by simp only [Nat.zero_add]; rw [hsz2]; exact Nat.le_refl _)⟩
          simp only [Instr.buildSlice, Sem.run_bind, run_underlying hT, run_sizeOf hsz, Result.andThen_ok]
          rw [if_neg (by omega)]
          by_cases e0 : len * sz = 0
          · have hz0 : (Array.range (len * sz)).map ((#[] : Array Value)[· % (#[] : Array Value).size]!) = (Array.range (len * sz)).map (z.cells[· % z.cells.size]!) := by rw [e0]; simp
            rw [if_pos e0]
            simp only [Sem.run_bind, Sem.run_pure, Result.andThen_ok, hz0, ha, run_newRow]
          · rw [if_neg e0]
            simp only [Sem.run_bind, Sem.run_pure, hzr, Result.andThen_ok, ha, run_newRow]
        · cases hb
      · cases hb
    · cases hb
  · cases hb

def opMakeSlice (P : Program) (h : Hp) (T : TypeId) (len cap : V) : Option (V × Option Hp) :=
  match P.underlying T, len, cap with
  | some (.slice e), .int _ l, .int _ c => match szOf P e, zeroC P e, bytesOf P e with
    | some sz, some zs, some by_ => if 0 < sz ∧ zs.length = sz ∧ 0 ≤ l ∧ l ≤ c ∧ c < 9223372036854775808 ∧ (by_ : Int) * c ≤ 281474976710656 then
        some (.sl h.next 0 l.toNat sz, some (h.new (zerosOf zs (l.toNat * sz))))
      else none
    | _, _, _ => none
  | _, _, _ => none

theorem wrap_small {n : Int} (h0 : 0 ≤ n) (h1 : n < 9223372036854775808) : IntKind.i64.wrap n = n := by
  have e1 : ((2 : Int) ^ IntKind.i64.bits) = 18446744073709551616 := rfl
  have e2 : ((2 : Int) ^ (IntKind.i64.bits - 1)) = 9223372036854775808 := rfl
  have e3 : n % 18446744073709551616 = n := Int.emod_eq_of_lt h0 (by omega)
  simp only [IntKind.wrap, e1, e2, e3]
  rw [if_neg]
  simp; omega

theorem opMakeSlice_sound (H : Rel Γ N0 w0 ρ h w) {T : TypeId} {a b : V} {ua ub : Value} {x : V} {h' : Option Hp} (ha : VR ρ a ua) (hb : VR ρ b ub) (hs : opMakeSlice P h T a b = some (x, h')) :
    Good Γ N0 w0 ρ h x h' ((Instr.makeSlice T ua ub).run P w) := by
  unfold opMakeSlice at hs
  split at hs
  · rename_i e k l k' c hT
    cases ha.int_inv; cases hb.int_inv
    split at hs
    · rename_i sz zs by_ hsz hz hby
      split at hs
      · rename_i hc
        obtain ⟨hp, hzl, h0, hlc, hcb, hroom⟩ := hc
        simp only [Option.some.injEq, Prod.mk.injEq] at hs; obtain ⟨rfl, rfl⟩ := hs
        obtain ⟨i, hi, rfl⟩ : ∃ i, P.info? e = some i ∧ i.bytes = by_ := by simpa [bytesOf] using hby
        obtain ⟨z, hzr, hzv⟩ := run_zeroValue (P := P) (w := w) hz
        have hw1 := wrap_small (n := l) h0 (by omega)
        have hw2 := wrap_small (n := c) (by omega) hcb
        have hlc' : l.toNat ≤ c.toNat := by omega
        have hle : l.toNat * sz ≤ c.toNat * sz := Nat.mul_le_mul_right _ hlc'
        have hzs : VRs ρ (zerosOf zs (c.toNat * sz)) ((Array.range (c.toNat * sz)).map (z.cells[· % z.cells.size]!)).toList := zerosOf_VRs (hzv ρ) _ (.inr (by omega))
        have hpre : ∀ (i : Nat) y, (zerosOf zs (l.toNat * sz))[i]? = some y → (zerosOf zs (c.toNat * sz))[i]? = some y := by
          intro i y hy
          have hi : i < l.toNat * sz := by
            have := (List.getElem?_eq_some_iff.1 hy).1; simpa [zerosOf] using this
          simp only [zerosOf, List.getElem?_map] at hy ⊢
          rw [List.getElem?_range hi] at hy
          rw [List.getElem?_range (by omega)]; exact hy
        have hnew := H.newCells (xs := zerosOf zs (l.toNat * sz)) (arr := (Array.range (c.toNat * sz)).map (z.cells[· % z.cells.size]!)) (el := e) (fr := (0, 0)) (by simp [zerosOf]; exact hle) (fun o p1 p2 => by simp at p2) (fun i y u hy hu => hzs.2 i y u (hpre i y hy) (by rw [Array.getElem?_toList]; exact hu))
        refine ⟨.slice (some ⟨w.heap.size, 0, none⟩) l.toNat c.toNat, _, _, ?_, setR_ext (H.fresh _ (Nat.le_refl _)), hnew, ?_⟩
        · have t1 : (decide (c < 0) || decide ((i.bytes : Int) * c > 2 ^ 48)) = false := by
            have e48 : ((2 : Int) ^ 48) = 281474976710656 := rfl
            rw [e48]; simp; omega
          simp only [Instr.makeSlice, Sem.run_bind, run_underlying hT, Result.andThen_ok, asInt, asIntOf, Sem.run_pure, run_typeInfo hi, hw1, hw2, t1]
          rw [if_neg (by simp; omega)]
          simp only [Sem.run_bind, run_askRoom, Result.andThen_ok, run_sizeOf hsz]
          by_cases e0 : c.toNat * sz = 0
          · have hz0 : (Array.range (c.toNat * sz)).map ((#[] : Array Value)[· % (#[] : Array Value).size]!) = (Array.range (c.toNat * sz)).map (z.cells[· % z.cells.size]!) := by rw [e0]; simp
            rw [if_pos e0]
            simp only [Sem.run_bind, Sem.run_pure, Result.andThen_ok, hz0, run_newRow]
          · rw [if_neg e0]
            simp only [Sem.run_bind, Sem.run_pure, hzr, Result.andThen_ok, run_newRow]
        · exact .sl h.next 0 l.toNat sz c.toNat ⟨w.heap.size, 0, ((Array.range (c.toNat * sz)).map (z.cells[· % z.cells.size]!)).size⟩ (if_pos rfl) hlc' (by simp)
      · cases hs
    · cases hs
  · cases hs

/-! ## Strings into slices, slices into strings -/

theorem drew_new_freeze (w : World) (arr : Array Value) (e : TypeId) :
    (World.new w (.cells arr e)).freeze ⟨w.heap.size, arr.size, none⟩ 1 = World.new w (.cells arr e (arr.size, arr.size + 1)) := by
  simp only [World.freeze, World.new, Nat.one_ne_zero, if_false]
  congr 1
  apply Array.ext_getElem?
  intro k
  rw [Array.getElem?_modify]
  by_cases hk : w.heap.size = k
  · subst hk; simp
  · rw [if_neg hk]
    rw [Array.getElem?_push, Array.getElem?_push, if_neg (fun h => hk h.symm), if_neg (fun h => hk h.symm)]

def intsOf (k : IntKind) : List V → Option (List Int)
  | [] => some []
  | .int k' n :: r => if k' = k then (intsOf k r).map (n :: ·) else none
  | _ => none

theorem intsOf_get {k : IntKind} : ∀ (xs : List V) (ns : List Int), intsOf k xs = some ns → xs = ns.map (.int k ·) := by
  intro xs
  induction xs with
  | nil => intro ns h; simp only [intsOf, Option.some.injEq] at h; subst h; rfl
  | cons x xs ih =>
    intro ns h
    cases x <;> simp only [intsOf, reduceCtorEq] at h
    split at h
    · rename_i hk
      subst hk
      simp only [Option.map_eq_some_iff] at h
      obtain ⟨r, hr, rfl⟩ := h
      rw [ih r hr]; rfl
    · cases h

theorem run_pushLoop {P : Program} {w : World} {k : IntKind} (f : Value → ByteArray → Sem (ForInStep ByteArray)) (g : Int → List UInt8)
    (hf : ∀ n s, f (.int k n) s = pure (ForInStep.yield ⟨s.data ++ (g n).toArray⟩)) : ∀ (ns : List Int) (s : ByteArray),
    (forIn (ns.map (Value.int k ·)) s f).run P w = .ok ⟨s.data ++ (ns.flatMap g).toArray⟩ w := by
  intro ns
  induction ns with
  | nil => intro s; simp
  | cons n ns ih =>
    intro s
    simp only [List.map_cons, List.forIn_cons, hf, Sem.run_bind, Sem.run_pure, Result.andThen_ok, ih]
    simp


def opBytesOf (P : Program) (h : Hp) (src dst : TypeId) (v : V) : Option (V × Option Hp) :=
  match P.underlying src, P.underlying dst, v with
  | some .string, some (.slice e), .str l => match P.underlying e with
    | some (.int .u8) => some (.sl h.next 0 l.length 1, some (h.new (l.map fun c => .int .u8 c.toNat)))
    | some (.int .i32) => match Conv.runesFrom ⟨l.toArray⟩ l.length 0 #[] with
      | ⟨us⟩ => match mapC constC us with
        | some cs => some (.sl h.next 0 cs.length 1, some (h.new cs))
        | none => none
    | _ => none
  | some .string, some (.slice e), .sstr l => match P.underlying e with
    | some (.int .u8) => some (.sl h.next 0 l.length 1, some (h.new l))
    | _ => none
  | _, _, _ => none

/-- the bytes of signs, of which some are told by others -/
def runeV (x : V) (o : Option (List V)) : Option (List V) := match x, o with
  | .int .i32 n, some l => some ((Utf8.encode n).data.toList.map (fun c : UInt8 => V.int .u8 c.toNat) ++ l)
  | .lin .i32 c ts, some l => if 0 ≤ loS c ts ∧ hiS c ts < 128 then some (mkLin .u8 c ts :: l) else none
  | _, _ => none
def runesV : List V → Option (List V)
  | [] => some []
  | x :: r => runeV x (runesV r)

theorem runesV_sound : ∀ {xs : List V} {us : List Value} {l : List V}, VRs ρ xs us → runesV xs = some l → ∃ ns : List Int, us = ns.map (Value.int .i32 ·) ∧ BytesR ρ l (ns.flatMap fun n => (Utf8.encode n).data.toList)
  | [], us, l, h, e => by
    have := h.1
    cases us with
    | nil =>
      simp only [runesV, Option.some.injEq] at e; subst e
      exact ⟨[], rfl, rfl, fun i x b hx => by simp at hx⟩
    | cons => simp at this
  | x :: r, us, l, h, e => by
    cases us with
    | nil => have := h.1; simp at this
    | cons u us =>
      have h0 := h.2 0 x u rfl rfl
      have hr : VRs ρ r us := ⟨by have := h.1; simpa using this, fun i y c hy hc => h.2 (i + 1) y c (by simpa using hy) (by simpa using hc)⟩
      rw [runesV] at e
      unfold runeV at e
      split at e
      · rename_i n l' hl
        simp only [Option.some.injEq] at e; subst e
        obtain ⟨ns, rfl, k⟩ := runesV_sound hr hl
        refine ⟨n :: ns, by rw [h0.int_inv]; rfl, ?_⟩
        rw [List.flatMap_cons]
        exact (BytesR.ints _).append k
      · rename_i c ts l' hl
        split at e
        · rename_i hb
          simp only [Option.some.injEq] at e; subst e
          obtain ⟨ns, rfl, k⟩ := runesV_sound hr hl
          cases h0 with
          | lin _ _ _ n hs hn =>
            have hq := loS_le (ρ := ρ) c hs
            refine ⟨n :: ns, rfl, ?_⟩
            rw [List.flatMap_cons, encode_ascii (by omega) (by omega)]
            refine BytesR.append (xs := [mkLin .u8 c ts]) ⟨rfl, fun i x b hx hb => ?_⟩ k
            cases i with
            | zero =>
              simp at hx hb; subst hx hb
              have e : ((UInt8.ofNat n.toNat).toNat : Int) = n := by
                rw [UInt8.toNat_ofNat']; omega
              rw [e]; exact mkLin_VR hs hn
            | succ i => simp at hx
        · cases e
      · cases e

def opStrOf (P : Program) (h : Hp) (src dst : TypeId) (v : V) : Option V :=
  match P.underlying src, P.underlying dst, v with
  | some (.slice e), some .string, .nils => match P.underlying e with
    | some (.int .u8) => some (.str [])
    | some (.int .i32) => some (.str [])
    | _ => none
  | some (.slice e), some .string, .sl a o n sz => match P.underlying e, elemsOf h 1 (.sl a o n sz) with
    | some (.int .u8), some (xs, _) => match intsOf .u8 xs with
      | some ns => some (.str (ns.map fun n => UInt8.ofNat n.toNat))
      | none => match xs.all byteV with
        | true => some (mkSS xs)
        | false => none
    | some (.int .i32), some (xs, _) => match intsOf .i32 xs with
      | some ns => some (.str (ns.flatMap fun n => (Utf8.encode n).data.toList))
      | none => (runesV xs).map mkSS
    | _, _ => none
  | _, _, _ => none

theorem strSlice (H : Rel Γ N0 w0 ρ h w) {e : TypeId} {cs : List V} {us : Array Value} (hv : VRs ρ cs us.toList) (z : Value) (fr : Nat × Nat) (hfr : ∀ o, fr.1 ≤ o → o < fr.2 → us.size + w.tape w.drawn (.appendCap us.size 0 e) % (2 ^ 63 - us.size) ≤ o) :
    ∃ ρ', Ext ρ ρ' ∧ Rel Γ N0 w0 ρ' (h.new cs) (World.new (World.drew1 w) (.cells (us ++ Array.replicate (w.tape w.drawn (.appendCap us.size 0 e) % (2 ^ 63 - us.size)) z) e fr)) ∧
      VR ρ' (.sl h.next 0 cs.length 1) (.slice (some ⟨w.heap.size, 0, none⟩) us.size (us.size + w.tape w.drawn (.appendCap us.size 0 e) % (2 ^ 63 - us.size))) := by
  have hl : cs.length = us.size := by simpa using hv.1
  have hnew := (H.drawn (w.drawn + 1)).newCells (xs := cs) (arr := us ++ Array.replicate (w.tape w.drawn (.appendCap us.size 0 e) % (2 ^ 63 - us.size)) z) (el := e) (fr := fr) (by simp; omega) (fun o p1 p2 => by
    have := hfr o p1 p2; simpa using this) (fun i y u hy hu => by
    have hi := (List.getElem?_eq_some_iff.1 hy).1
    rw [Array.getElem?_append_left (by omega)] at hu
    exact hv.2 i y u hy (by rw [Array.getElem?_toList]; exact hu))
  refine ⟨_, setR_ext (H.fresh _ (Nat.le_refl _)), hnew, ?_⟩
  rw [hl]
  exact .sl h.next 0 us.size 1 _ ⟨w.heap.size, 0, _⟩ (if_pos rfl) (Nat.le_add_right _ _) (by simp)

theorem bytes_good (H : Rel Γ N0 w0 ρ h w) {src dst e : TypeId} {l : List UInt8} {cs : List V} (h1 : P.underlying src = some .string) (h2 : P.underlying dst = some (.slice e)) (h3 : P.underlying e = some (.int .u8)) (hb : BytesR ρ cs l) :
    Good Γ N0 w0 ρ h (.sl h.next 0 cs.length 1) (some (h.new cs)) ((convert src dst (.string ⟨l.toArray⟩)).run P w) := by
  have hlen : (ByteArray.mk l.toArray).size = l.length := by show l.toArray.size = _; simp
  have hVs : VRs ρ cs (l.toArray.map fun b : UInt8 => Value.int .u8 b.toNat).toList := by
    refine ⟨by simpa using hb.1, fun i x u hx hu => ?_⟩
    simp only [Array.toList_map, List.getElem?_map, Option.map_eq_some_iff] at hu
    obtain ⟨c, hc, rfl⟩ := hu
    exact hb.2 i x c hx hc
  have hsz : (l.toArray.map fun b : UInt8 => Value.int .u8 b.toNat).size = l.length := by simp
  obtain ⟨ρ', e1, e2, e3⟩ := strSlice H (e := e) hVs (.int .u8 0) ((l.toArray.map (fun b : UInt8 => Value.int .u8 b.toNat) ++ Array.replicate (w.tape w.drawn (.appendCap l.length 0 e) % (2 ^ 63 - l.length)) (Value.int .u8 0)).size, (l.toArray.map (fun b : UInt8 => Value.int .u8 b.toNat) ++ Array.replicate (w.tape w.drawn (.appendCap l.length 0 e) % (2 ^ 63 - l.length)) (Value.int .u8 0)).size + 1) (fun o p1 _ => by rw [hsz]; simpa using p1)
  rw [hsz] at e2 e3
  refine ⟨_, _, ρ', ?_, e1, e2, by simpa using e3⟩
  have hfr := drew_new_freeze (World.drew1 w) (l.toArray.map (fun b : UInt8 => Value.int .u8 b.toNat) ++ Array.replicate (w.tape w.drawn (.appendCap l.length 0 e) % (2 ^ 63 - l.length)) (Value.int .u8 0)) e
  simp only [convert, Sem.run_bind, run_underlying h1, run_underlying h2, Result.andThen_ok, run_underlying h3, Conv.stringToBytes, hlen, run_appendCap, Nat.add_sub_cancel_left, run_newRow]
  have hms : (markStringish ⟨(World.drew1 w).heap.size, 0, none⟩).run P (World.new (World.drew1 w) (.cells (l.toArray.map (fun b : UInt8 => Value.int .u8 b.toNat) ++ Array.replicate (w.tape w.drawn (.appendCap l.length 0 e) % (2 ^ 63 - l.length)) (Value.int .u8 0)) e)) = .ok () ((World.new (World.drew1 w) (.cells (l.toArray.map (fun b : UInt8 => Value.int .u8 b.toNat) ++ Array.replicate (w.tape w.drawn (.appendCap l.length 0 e) % (2 ^ 63 - l.length)) (Value.int .u8 0)) e)).freeze ⟨(World.drew1 w).heap.size, (l.toArray.map (fun b : UInt8 => Value.int .u8 b.toNat) ++ Array.replicate (w.tape w.drawn (.appendCap l.length 0 e) % (2 ^ 63 - l.length)) (Value.int .u8 0)).size, none⟩ 1) := by
    simp only [markStringish, Sem.run_bind, shape, freeze, Sem.run]
    have : (World.new (World.drew1 w) (.cells (l.toArray.map (fun b : UInt8 => Value.int .u8 b.toNat) ++ Array.replicate (w.tape w.drawn (.appendCap l.length 0 e) % (2 ^ 63 - l.length)) (Value.int .u8 0)) e)).shape? (World.drew1 w).heap.size = some (e, (l.toArray.map (fun b : UInt8 => Value.int .u8 b.toNat) ++ Array.replicate (w.tape w.drawn (.appendCap l.length 0 e) % (2 ^ 63 - l.length)) (Value.int .u8 0)).size) := by
      simp [World.shape?, new_heap_new]
    simp only [this, Result.andThen_ok, Sem.run]
  rw [hfr] at hms
  simp only [hms, Result.andThen_ok]
  rfl

theorem opBytesOf_sound (H : Rel Γ N0 w0 ρ h w) {src dst : TypeId} {v x : V} {u : Value} {h' : Option Hp} (hv : VR ρ v u) (hb : opBytesOf P h src dst v = some (x, h')) :
    Good Γ N0 w0 ρ h x h' ((convert src dst u).run P w) := by
  unfold opBytesOf at hb
  split at hb
  · rename_i e l h1 h2
    cases hv.str_inv
    have hlen : (ByteArray.mk l.toArray).size = l.length := by show l.toArray.size = _; simp
    split at hb
    · rename_i h3
      simp only [Option.some.injEq, Prod.mk.injEq] at hb; obtain ⟨rfl, rfl⟩ := hb
      have := bytes_good H h1 h2 h3 (BytesR.ints (ρ := ρ) l)
      rw [List.length_map] at this
      exact this
    · rename_i h3
      split at hb
      · rename_i us hus
        split at hb
        · rename_i cs hcs
          simp only [Option.some.injEq, Prod.mk.injEq] at hb; obtain ⟨rfl, rfl⟩ := hb
          obtain ⟨m1, m2⟩ := mapC_get hcs
          have hVs : VRs ρ cs (Array.mk us).toList := ⟨by simpa using m1.symm, fun i x u hx hu => constC_sound (m2 i u x (by simpa using hu) hx)⟩
          obtain ⟨ρ', e1, e2, e3⟩ := strSlice H (e := e) hVs (.int .i32 0) (0, 0) (fun o _ p2 => by simp at p2)
          refine ⟨_, _, ρ', ?_, e1, e2, e3⟩
          simp only [convert, Sem.run_bind, run_underlying h1, run_underlying h2, Result.andThen_ok, run_underlying h3, Conv.stringToRunes, hlen, hus, run_appendCap, Nat.add_sub_cancel_left, run_newRow]
          rfl
        · cases hb
    · cases hb
  · rename_i e l h1 h2
    split at hb
    · rename_i h3
      simp only [Option.some.injEq, Prod.mk.injEq] at hb; obtain ⟨rfl, rfl⟩ := hb
      cases hv with
      | sstr _ bs hn hr => exact bytes_good H h1 h2 h3 ⟨hn, hr⟩
    · cases hb
  · cases hb

theorem ints_eq {k : IntKind} : ∀ {xs : List V} {ns : List Int} {us : List Value}, intsOf k xs = some ns → VRs ρ xs us → us = ns.map (Value.int k ·) := by
  intro xs ns us hi hv
  rw [intsOf_get xs ns hi] at hv
  apply List.ext_getElem?
  intro i
  by_cases hlt : i < ns.length
  · have h1 : (ns.map (V.int k ·))[i]? = some (.int k ns[i]) := by simp [hlt]
    obtain ⟨u, hu, hr⟩ := hv.get h1
    rw [hu, hr.int_inv]; simp [hlt]
  · rw [List.getElem?_eq_none (by have := hv.1; simp at this; omega), List.getElem?_eq_none (by simp; omega)]

theorem opStrOf_sound (H : Rel Γ N0 w0 ρ h w) {src dst : TypeId} {v x : V} {u : Value} (hv : VR ρ v u) (hb : opStrOf P h src dst v = some x) :
    ∃ y, (convert src dst u).run P w = .ok y w ∧ VR ρ x y := by
  have flat1 : ∀ l : List Int, (l.flatMap fun n => [UInt8.ofNat n.toNat]) = l.map fun n => UInt8.ofNat n.toNat := by
    intro l
    induction l with
    | nil => rfl
    | cons a l ih => simp [List.flatMap_cons, ih]
  unfold opStrOf at hb
  split at hb
  · rename_i e h1 h2
    cases hv
    split at hb
    · rename_i h3
      simp only [Option.some.injEq] at hb; subst hb
      exact ⟨.string ⟨#[]⟩, by simp only [convert, Sem.run_bind, run_underlying h1, run_underlying h2, Result.andThen_ok, run_underlying h3]; rfl, .str []⟩
    · rename_i h3
      simp only [Option.some.injEq] at hb; subst hb
      exact ⟨.string ⟨#[]⟩, by simp only [convert, Sem.run_bind, run_underlying h1, run_underlying h2, Result.andThen_ok, run_underlying h3]; rfl, .str []⟩
    · cases hb
  · rename_i e a o n sz h1 h2
    have hsl : ∃ ad c, u = .slice (some ad) n c := by cases hv <;> exact ⟨_, _, rfl⟩
    obtain ⟨ad, c, rfl⟩ := hsl
    split at hb
    · rename_i xs k h3 he
      obtain ⟨rfl, rfl, _⟩ := elemsOf_sl he
      obtain ⟨_, hyl, us, hus, hVs⟩ := elemsOf_sound (P := P) H hv he
      have hl := hus w rfl
      simp only [Builtin.firstCells, Nat.mul_one] at hl
      split at hb
      case h_2 =>
        split at hb
        · rename_i hall
          simp only [Option.some.injEq] at hb; subst hb
          obtain ⟨bs, rfl, hbr⟩ := bytesV_inv hVs hall
          refine ⟨.string ⟨bs.toArray⟩, ?_, mkSS_VR hbr⟩
          have hm : (bs.map fun b => Value.int .u8 b.toNat) = (bs.map fun b : UInt8 => (b.toNat : Int)).map (Value.int .u8 ·) := by simp
          rw [hm] at hl
          simp only [convert, Sem.run_bind, run_underlying h1, run_underlying h2, Result.andThen_ok, run_underlying h3, Conv.bytesToString, hl]
          rw [← Array.forIn_toList, run_pushLoop (k := .u8) _ (fun n => [UInt8.ofNat n.toNat]) (fun n s => by simp [ByteArray.push])]
          simp [flat1]
          exact (List.map_congr_left (g := id) (fun b _ => by simp)).trans (List.map_id _)
        · cases hb
      rename_i ns hi
      simp only [Option.some.injEq] at hb; subst hb
      rw [ints_eq hi hVs] at hl
      refine ⟨.string ⟨(ns.map fun n => UInt8.ofNat n.toNat).toArray⟩, ?_, .str _⟩
      simp only [convert, Sem.run_bind, run_underlying h1, run_underlying h2, Result.andThen_ok, run_underlying h3, Conv.bytesToString, hl]
      rw [← Array.forIn_toList, run_pushLoop (k := .u8) _ (fun n => [UInt8.ofNat n.toNat]) (fun n s => by simp [ByteArray.push])]
      simp [flat1]
    · rename_i xs k h3 he
      obtain ⟨rfl, rfl, _⟩ := elemsOf_sl he
      obtain ⟨_, hyl, us, hus, hVs⟩ := elemsOf_sound (P := P) H hv he
      have hl := hus w rfl
      simp only [Builtin.firstCells, Nat.mul_one] at hl
      have hns : ∃ ns : List Int, us = ns.map (Value.int .i32 ·) ∧ VR ρ x (.string ⟨(ns.flatMap fun n => (Utf8.encode n).data.toList).toArray⟩) := by
        split at hb
        · rename_i ns hi
          simp only [Option.some.injEq] at hb; subst hb
          exact ⟨ns, ints_eq hi hVs, .str _⟩
        · obtain ⟨l, hl2, rfl⟩ := Option.map_eq_some_iff.1 hb
          obtain ⟨ns, h5, h6⟩ := runesV_sound hVs hl2
          exact ⟨ns, h5, mkSS_VR h6⟩
      obtain ⟨ns, rfl, hx⟩ := hns
      refine ⟨.string ⟨(ns.flatMap fun n => (Utf8.encode n).data.toList).toArray⟩, ?_, hx⟩
      simp only [convert, Sem.run_bind, run_underlying h1, run_underlying h2, Result.andThen_ok, run_underlying h3, Conv.runesToString, hl]
      rw [← Array.forIn_toList, run_pushLoop (k := .i32) _ (fun n => (Utf8.encode n).data.toList) (fun n s => by
            simp only
            congr 2
            apply ByteArray.ext
            apply Array.toList_inj.1
            simp)]
      simp
    · cases hb
  · cases hb

end
end Go.Proofs.YtbfdgdigaiimgaaDoor.HM
