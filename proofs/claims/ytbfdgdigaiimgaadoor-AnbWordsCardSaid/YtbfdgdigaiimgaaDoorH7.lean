/- The heap machine, 7: iterators, arrays sliced, copy, strings over bytes. -/
import Derived.Test.YtbfdgdigaiimgaaDoorH6
import Derived.Laws.RangeString
namespace Go.Proofs.YtbfdgdigaiimgaaDoor.HM
open Go Go.RowKit

section
variable {P : Program} {Γ : Glob} {N0 : Nat} {w0 : Fr} {ρ : Ren} {h : Hp} {w : World}

/-- a block that holds no cells is written anew -/
theorem Rel.setObj (H : Rel Γ N0 w0 ρ h w) {a : Nat} {x x' : Blk} {L : Loc} {o : Obj} (hx : h.t.get a = some x) (hL : ρ a = some L) (hnc : ∀ f fb fz xs, x ≠ .cells f fb fz xs) (hnc' : ∀ f fb fz xs, x' ≠ .cells f fb fz xs)
    (hN : N0 ≤ L.b) (ho : ∀ arr el fr, w.heap[L.b]? ≠ some (.cells arr el fr)) (hr : BlkR ρ N0 { w with heap := w.heap.setIfInBounds L.b o } a x') :
    Rel Γ N0 w0 ρ ⟨h.next, h.t.put (some x') a, h.fams, h.els⟩ { w with heap := w.heap.setIfInBounds L.b o } := by
  have hne : ∀ b', b' ≠ L.b → (w.heap.setIfInBounds L.b o)[b']? = w.heap[b']? := fun b' hn => by
    rw [Array.getElem?_setIfInBounds, if_neg (fun e => hn e.symm)]
  have hget : ∀ b, (h.t.put (some x') a).get b = if b = a then some x' else h.t.get b := fun b => by rw [Tr.get_put]
  have hfam : famOf a x' = famOf a x := by
    have e1 : ∀ y : Blk, (∀ f fb fz xs, y ≠ .cells f fb fz xs) → famOf a y = a := by intro y hy; cases y <;> first | rfl | exact absurd rfl (hy _ _ _ _)
    rw [e1 x hnc, e1 x' hnc']
  have hold : ∀ b y, (h.t.put (some x') a).get b = some y → ∃ y', h.t.get b = some y' ∧ famOf b y' = famOf b y := by
    intro b y hy
    rw [hget] at hy
    by_cases e : b = a
    · subst e; rw [if_pos rfl] at hy; simp only [Option.some.injEq] at hy; subst hy; exact ⟨x, hx, hfam.symm⟩
    · rw [if_neg e] at hy; exact ⟨y, hy, rfl⟩
  have holdc : ∀ b f fb fz xs, (h.t.put (some x') a).get b = some (.cells f fb fz xs) → h.t.get b = some (.cells f fb fz xs) ∧ b ≠ a := by
    intro b f fb fz xs hb
    rw [hget] at hb
    by_cases e : b = a
    · rw [if_pos e] at hb; simp only [Option.some.injEq] at hb; exact absurd hb (hnc' _ _ _ _)
    · rw [if_neg e] at hb; exact ⟨hb, e⟩
  refine ⟨?_, H.hN0, H.glob, H.fresh, fun b M hM => by simpa using H.lt b M hM, ?_, ?_, ?_, ?_, fun b e hn0 hbe => by
    obtain ⟨M, arr, fr, q1, q2, q3⟩ := H.elk b e hn0 hbe
    have : M.b ≠ L.b := fun hh => ho arr _ fr (by rw [← hh]; exact q2)
    exact ⟨M, arr, fr, q1, (hne _ this).trans q2, q3⟩, H.elt, H.old, H.kept.step (fun c hc _ => hne c (fun e => hc a _ L hx hL e.symm)) fun b y M hy hM => by
      obtain ⟨y', hy1, _⟩ := hold b y hy
      exact .inl ⟨b, y', M, hy1, hM, rfl⟩⟩
  · exact H.below.trans ⟨rfl, rfl, rfl, by simp, fun k hk => hne k (by omega)⟩
  · intro b y hn0 hy
    by_cases e : b = a
    · rw [hget, if_pos e] at hy; simp only [Option.some.injEq] at hy; subst hy; subst e; exact hr
    · rw [hget, if_neg e] at hy
      obtain ⟨M, hM, hMN, h3⟩ := (H.blk b y hn0 hy).ex
      refine ⟨M, hM, hMN, ?_⟩
      have hsep : famOf b y ≠ famOf a x → M.b ≠ L.b := H.sep b a y x M L hy hx hM hL
      cases y with
      | cells f fb fz xs =>
        obtain ⟨arr, el, fr, k1, k2⟩ := h3
        have : M.b ≠ L.b := fun hh => ho arr el fr (by rw [← hh]; exact k1)
        exact ⟨arr, el, fr, by rw [hne _ this]; exact k1, k2⟩
      | iter l p =>
        have e1 : famOf a x = a := by cases x <;> first | rfl | exact absurd rfl (hnc _ _ _ _)
        have : M.b ≠ L.b := hsep (by rw [e1]; exact e)
        obtain ⟨q, bs, hb, k⟩ := h3
        exact ⟨q, bs, hb, by rw [hne _ this]; exact k⟩
      | mapo es c =>
        obtain ⟨arr, es0, k1, k2⟩ := h3
        have e1 : famOf a x = a := by cases x <;> first | rfl | exact absurd rfl (hnc _ _ _ _)
        have : M.b ≠ L.b := hsep (by rw [e1]; exact e)
        exact ⟨arr, es0, by rw [hne _ this]; exact k1, k2⟩
  · intro b c y z M M' hy hz hM hM' hff
    obtain ⟨y', hy1, hy2⟩ := hold b y hy
    obtain ⟨z', hz1, hz2⟩ := hold c z hz
    exact H.sep b c y' z' M M' hy1 hz1 hM hM' (by rw [hy2, hz2]; exact hff)
  · intro b c f fb fz xs gb gz ys M M' hy hz
    exact H.same b c f fb fz xs gb gz ys M M' (holdc _ _ _ _ _ hy).1 (holdc _ _ _ _ _ hz).1
  · refine ⟨?_, H.fam.sorted, ?_, ?_⟩
    · intro b f fb fz xs hb; exact H.fam.mem b f fb fz xs (holdc _ _ _ _ _ hb).1
    · intro b y hb
      obtain ⟨y', h1, h2⟩ := hold b y hb
      have := H.fam.lt b y' h1
      rw [h2] at this; exact this
    · intro b f fb fz xs c y hb hc hy
      have hb' := (holdc _ _ _ _ _ hb).1
      by_cases e : c = a
      · subst e; exact H.fam.own b f fb fz xs c x hb' hx hnc
      · rw [hget, if_neg e] at hc; exact H.fam.own b f fb fz xs c y hb' hc hy

theorem Rel.newObj (H : Rel Γ N0 w0 ρ h w) {x : Blk} {o : Obj} (hnc : ∀ f fb fz xs, x ≠ .cells f fb fz xs) (hr : BlkR (setR ρ h.next ⟨w.heap.size, 0, 0⟩) N0 (World.new w o) h.next x) :
    Rel Γ N0 w0 (setR ρ h.next ⟨w.heap.size, 0, 0⟩) (h.newObj x) (World.new w o) :=
  H.newBlk (Nat.le_trans H.hN0 H.below.size) (x := x) rfl (fun b => by simp only [Hp.newObj, Tr.get_put]) (new_below _ _) rfl (by rw [new_size]; exact Nat.lt_succ_self _) hr (H.fam.newObj hnc) rfl

def opRange (P : Program) (h : Hp) (T : TypeId) (v : V) : Option (V × Option Hp) :=
  match P.underlying T, v with
  | some .string, .str l => some (.ptr h.next 0, some (h.newObj (.iter (l.map fun c : UInt8 => .int .u8 c.toNat) 0)))
  | some .string, .sstr l => some (.ptr h.next 0, some (h.newObj (.iter l 0)))
  | _, _ => none

theorem range_good (H : Rel Γ N0 w0 ρ h w) {T : TypeId} {l : List V} {bs : List UInt8} (hT : P.underlying T = some .string) (hbs : BytesR ρ l bs) : Good Γ N0 w0 ρ h (.ptr h.next 0) (some (h.newObj (.iter l 0))) ((Instr.range T (.string ⟨bs.toArray⟩)).run P w) := by
  have hb : BlkR (setR ρ h.next ⟨w.heap.size, 0, 0⟩) N0 (World.new w (.stringIter ⟨bs.toArray⟩ 0)) h.next (.iter l 0) :=
    ⟨⟨w.heap.size, 0, 0⟩, by simp [setR], Nat.le_trans H.hN0 H.below.size, rfl, bs, hbs.ext (setR_ext (H.fresh _ (Nat.le_refl _))), new_heap_new _ _⟩
  refine ⟨.pointer (some ⟨w.heap.size, 0, none⟩), _, _, ?_, setR_ext (H.fresh _ (Nat.le_refl _)), H.newObj (fun _ _ _ _ hh => by cases hh) hb, VR.newPtr (n := 0) (by simp [setR])⟩
  simp only [Instr.range, Sem.run_bind, run_underlying hT, Result.andThen_ok, Sem.run_pure, newObj, Sem.run]
  rfl

theorem opRange_sound (H : Rel Γ N0 w0 ρ h w) {T : TypeId} {v x : V} {u : Value} {h' : Option Hp} (hv : VR ρ v u) (hs : opRange P h T v = some (x, h')) : Good Γ N0 w0 ρ h x h' ((Instr.range T u).run P w) := by
  unfold opRange at hs
  split at hs
  · rename_i l hT
    simp only [Option.some.injEq, Prod.mk.injEq] at hs; obtain ⟨rfl, rfl⟩ := hs
    cases hv.str_inv
    exact range_good H hT (.ints l)
  · rename_i l hT
    simp only [Option.some.injEq, Prod.mk.injEq] at hs; obtain ⟨rfl, rfl⟩ := hs
    cases hv with
    | sstr _ bs hn hr => exact range_good H hT ⟨hn, hr⟩
  · cases hs

/-- the sign that begins there, and how many bytes it has -/
def decWhole (l : List V) (pos : Nat) : Option (V × Nat) := match allU8 l with
  | some bs => match Utf8.decode ⟨bs.toArray⟩ pos with
    | (c, n) => some (.int .i32 (Int.ofNat c), n)
  | none => none
def nextC (l : List V) (pos : Nat) : Option (V × Nat) := match l[pos]? with
  | some (.int _k (.ofNat m)) => match Nat.blt m 128 with
    | true => some (.int .i32 (.ofNat m), 1)
    | false => decWhole l pos
  | some (.lin _k c ts) => if 0 ≤ loS c ts ∧ hiS c ts < 128 then some (mkLin .i32 c ts, 1) else none
  | _ => none

theorem decWhole_sound {l : List V} {bs : List UInt8} {pos n : Nat} {c : V} (hb : BytesR ρ l bs) (h : decWhole l pos = some (c, n)) : (Utf8.decode ⟨bs.toArray⟩ pos).2 = n ∧ VR ρ c (.int .i32 (Int.ofNat (Utf8.decode ⟨bs.toArray⟩ pos).1)) := by
  unfold decWhole at h
  split at h
  · rename_i l' hl
    obtain rfl := allU8_sound hb hl
    simp only [Option.some.injEq, Prod.mk.injEq] at h; obtain ⟨rfl, rfl⟩ := h
    exact ⟨rfl, .int _ _⟩
  · cases h

theorem nextC_sound {l : List V} {bs : List UInt8} {pos n : Nat} {c : V} (hb : BytesR ρ l bs) (h : nextC l pos = some (c, n)) : (Utf8.decode ⟨bs.toArray⟩ pos).2 = n ∧ VR ρ c (.int .i32 (Int.ofNat (Utf8.decode ⟨bs.toArray⟩ pos).1)) := by
  have key : ∀ x, l[pos]? = some x → ∃ b : UInt8, VR ρ x (.int .u8 b.toNat) ∧ (b.toNat < 128 → Utf8.decode ⟨bs.toArray⟩ pos = (b.toNat, 1)) := by
    intro x hx
    have hlt : pos < bs.length := by rw [← hb.1]; exact (List.getElem?_eq_some_iff.1 hx).1
    refine ⟨bs[pos], hb.2 pos x _ hx (List.getElem?_eq_getElem hlt), fun hs => ?_⟩
    have hlt' : pos < (ByteArray.mk bs.toArray).size := by show pos < bs.toArray.size; simpa using hlt
    exact decode_ascii ⟨bs.toArray⟩ pos hlt' hs
  unfold nextC at h
  split at h
  · rename_i k m hx
    obtain ⟨b, h1, h2⟩ := key _ hx
    split at h
    · rename_i hm
      simp only [Option.some.injEq, Prod.mk.injEq] at h; obtain ⟨rfl, rfl⟩ := h
      have e := h1.int_inv
      simp only [Value.int.injEq] at e
      have hm' : m < 128 := by simpa [Nat.blt_eq] using hm
      have e2 : b.toNat = m := by have q : (b.toNat : Int) = (m : Int) := e.2; omega
      rw [h2 (by omega), e2]
      exact ⟨rfl, .int _ _⟩
    · exact decWhole_sound hb h
  · rename_i k c' ts hx
    obtain ⟨b, h1, h2⟩ := key _ hx
    split at h
    · rename_i hc
      simp only [Option.some.injEq, Prod.mk.injEq] at h; obtain ⟨rfl, rfl⟩ := h
      cases h1 with
      | lin _ _ _ _ hs hn =>
        have := loS_le (ρ := ρ) c' hs
        rw [h2 (by omega)]
        exact ⟨rfl, mkLin_VR hs hn⟩
    · cases h
  · cases h

def opNext (h : Hp) (v : V) : Option (V × Option Hp) :=
  match v with
  | .ptr a 0 => match h.t.get a with
    | some (.iter l pos) => match Nat.blt pos l.length with
      | true => match nextC l pos with
        | some (c, n) => some (.tup [.bool true, .int .i64 pos, c], some ⟨h.next, h.t.put (some (.iter l (pos + n))) a, h.fams, h.els⟩)
        | none => none
      | false => some (.tup [.bool false], none)
    | _ => none
  | _ => none

theorem opNext_sound (H : Rel Γ N0 w0 ρ h w) {T : TypeId} {v x : V} {u : Value} {h' : Option Hp} (hv : VR ρ v u) (hs : opNext h v = some (x, h')) : Good Γ N0 w0 ρ h x h' ((Instr.next u true T).run P w) := by
  unfold opNext at hs
  split at hs
  · rename_i a
    split at hs
    · rename_i l pos hg
      obtain ⟨L, hL, rfl⟩ := hv.ptr_inv
      obtain ⟨M, hM, hMN, hb0, bs, hbs, hb⟩ := (H.blk _ _ (some_ne (by assumption)) hg).ex
      rw [hL] at hM; simp only [Option.some.injEq] at hM; subst hM
      have hsize : (ByteArray.mk bs.toArray).size = l.length := by show bs.toArray.size = _; rw [hbs.1]; simp
      have hlt' : L.b < w.heap.size := H.lt _ _ hL
      rw [hb0]
      split at hs
      · rename_i hlt
        have hlt : pos < l.length := by simpa [Nat.blt_eq] using hlt
        split at hs
        · rename_i c n hd
          obtain ⟨d1, d2⟩ := nextC_sound hbs hd
          simp only [Option.some.injEq, Prod.mk.injEq] at hs; obtain ⟨rfl, rfl⟩ := hs
          refine ⟨.tuple #[.bool true, .int .i64 pos, .int .i32 (Int.ofNat (Utf8.decode ⟨bs.toArray⟩ pos).1)], _, ρ, ?_, .refl _, H.setObj (o := .stringIter ⟨bs.toArray⟩ (pos + n)) hg hL (fun _ _ _ _ hh => by cases hh) (fun _ _ _ _ hh => by cases hh) hMN (fun arr el fr hh => by rw [hb] at hh; cases hh) ⟨L, hL, hMN, hb0, bs, hbs, by simp [hlt']⟩, VRs.tup (.cons (.bool _) (.cons (.int _ _) (.cons d2 (.nil _))))⟩
          simp [Instr.next, getObj, Sem.run, hb, setObj, hsize, hlt, goInt, ← d1]
        · cases hs
      · rename_i hge
        have hge : ¬ pos < l.length := by rw [← Nat.blt_eq, hge]; decide
        simp only [Option.some.injEq, Prod.mk.injEq] at hs; obtain ⟨rfl, rfl⟩ := hs
        refine ⟨.tuple #[.bool false], w, ρ, ?_, .refl _, H, VRs.tup (.cons (.bool _) (.nil _))⟩
        simp [Instr.next, getObj, Sem.run, hb, hsize, hge]
    · cases hs
  · cases hs

/-! ## An array as a slice -/

def opSliceArr (P : Program) (h : Hp) (T : TypeId) (a : V) (lo hi : Option V) : Option V :=
  match P.underlying T, a with
  | some (.array n e), .ptr b o => match h.t.get b, szOf P e, vbound n hi n with
    | some (.cells _ _ _ xs), some sz, some k => match vbound k lo 0 with
      | some l => if l < n ∧ o + n * sz ≤ xs.length then some (.sl b (o + l * sz) (k - l) sz) else none
      | none => none
    | _, _, _ => none
  | _, _ => none

theorem opSliceArr_sound (H : Rel Γ N0 w0 ρ h w) {T : TypeId} {a x : V} {lo hi : Option V} {u : Value} {vlo vhi : Option Value} (ha : VR ρ a u)
    (hlo : OptVR ρ lo vlo) (hhi : OptVR ρ hi vhi) (hs : opSliceArr P h T a lo hi = some x) :
    ∃ y, (Instr.sliceAt T u vlo vhi none).run P w = .ok y w ∧ VR ρ x y := by
  unfold opSliceArr at hs
  split at hs
  · rename_i n e b o hT
    split at hs
    · rename_i f fb fz xs sz k hg hsz h1
      split at hs
      · rename_i l h2
        split at hs
        · rename_i hc
          simp only [Option.some.injEq] at hs; subst hs
          obtain ⟨L, hL, rfl⟩ := ha.ptr_inv
          obtain ⟨M, hM, hMN, arr, el, fr, k1, k2, k3, k4, k5⟩ := (H.blk _ _ (some_ne (by assumption)) hg).ex
          rw [hL] at hM; simp only [Option.some.injEq] at hM; subst hM
          obtain ⟨hsl, hle, hle2⟩ := sliceBounds_sound (P := P) (w := w) (isS := false) (cap := n) (Nat.le_refl _) hlo hhi h1 h2
          refine ⟨.slice (some ⟨L.b, L.base + (o + l * sz), none⟩) (k - l) (n - l), ?_, .sl _ _ _ _ _ L hL (by omega) ?_⟩
          · simp only [Instr.sliceAt, Sem.run_bind, run_underlying hT, Result.andThen_ok, Instr.sureAddr, Sem.run_pure, hsl, run_sizeOf hsz, add_none]
            rw [if_neg (by omega), Nat.add_assoc]
          · have : l * sz + (n - l) * sz = n * sz := by rw [← Nat.add_mul]; congr 1; omega
            omega
        · cases hs
      · cases hs
    · cases hs
  · cases hs


/-! ## A slice with its capacity said -/

def opSlice3 (P : Program) (T : TypeId) (a : V) (lo hi mx : Option V) : Option V :=
  match hi, mx with
  | some hi, some mx => match P.underlying T, a with
    | some (.slice e), .sl b o n sz => match szOf P e, vbound n (some mx) 0 with
      | some sz', some m => match vbound m (some hi) 0 with
        | some k => match vbound k lo 0 with
          | some l => if sz = sz' then some (.sl b (o + l * sz) (k - l) sz) else none
          | none => none
        | none => none
      | _, _ => none
    | some (.slice e), .nils => match szOf P e, vbound 0 (some mx) 0 with
      | some _, some m => match vbound m (some hi) 0 with
        | some k => match vbound k lo 0 with
          | some _ => some .nils
          | none => none
        | none => none
      | _, _ => none
    | _, _ => none
  | _, _ => none

theorem bounds3 {lo : Option V} {hi mx : V} {vlo : Option Value} {vhi vmx : Value} {n cap m k l : Nat} (hle : n ≤ cap) (hlo : OptVR ρ lo vlo) (hhi : VR ρ hi vhi) (hmx : VR ρ mx vmx)
    (h1 : vbound n (some mx) 0 = some m) (h2 : vbound m (some hi) 0 = some k) (h3 : vbound k lo 0 = some l) :
    (Instr.sliceBounds true n cap vlo (some vhi) (some vmx)).run P w = .ok (l, k, m) w ∧ l ≤ k ∧ k ≤ m ∧ m ≤ n := by
  have k1 := vbound_sound (P := P) (w := w) (ov := some vmx) (cap := cap) (code := .slice3Acap) hle (show OptVR ρ (some mx) (some vmx) from hmx) h1
  have k2 := vbound_sound (P := P) (w := w) (ov := some vhi) (cap := m) (code := .slice3B) (Nat.le_refl _) (show OptVR ρ (some hi) (some vhi) from hhi) h2
  have k3 := vbound_sound (P := P) (w := w) (cap := k) (code := .slice3C) (Nat.le_refl _) hlo h3
  simp only at k1 k2
  cases vlo with
  | none =>
    simp only at k3; subst k3
    exact ⟨by simp [Instr.sliceBounds, k1.1, k2.1], Nat.zero_le _, k2.2, k1.2⟩
  | some v =>
    simp only at k3
    exact ⟨by simp [Instr.sliceBounds, k1.1, k2.1, k3.1], k3.2, k2.2, k1.2⟩

theorem opSlice3_sound {T : TypeId} {a x : V} {lo hi mx : Option V} {u : Value} {vlo vhi vmx : Option Value} (ha : VR ρ a u)
    (hlo : OptVR ρ lo vlo) (hhi : OptVR ρ hi vhi) (hmx : OptVR ρ mx vmx) (hs : opSlice3 P T a lo hi mx = some x) :
    ∃ y, (Instr.sliceAt T u vlo vhi vmx).run P w = .ok y w ∧ VR ρ x y := by
  unfold opSlice3 at hs
  split at hs
  · rename_i hi mx
    cases vhi with
    | none => exact hhi.elim
    | some vhi =>
    cases vmx with
    | none => exact hmx.elim
    | some vmx =>
    split at hs
    · rename_i e b o n sz hT
      split at hs
      · rename_i sz' m hsz h1
        split at hs
        · rename_i k h2
          split at hs
          · rename_i l h3
            split at hs
            · rename_i hse
              subst hse
              simp only [Option.some.injEq] at hs; subst hs
              have fin : ∀ (ad : Addr) (c : Nat), u = .slice (some ad) n c → n ≤ c → (∀ m' l', l' ≤ m' → m' ≤ n → VR ρ (.sl b (o + l' * sz) (k - l) sz) (.slice (if m' = l' then some ad else some (ad.add (l' * sz))) (k - l) (m' - l')) ∨ l' ≠ l ∨ m' ≠ m) →
                  ∃ y, (Instr.sliceAt T u vlo (some vhi) (some vmx)).run P w = .ok y w ∧ VR ρ (.sl b (o + l * sz) (k - l) sz) y := by
                intro ad c hu hnc hv
                subst hu
                obtain ⟨q1, q2, q3, q4⟩ := bounds3 (P := P) (w := w) hnc hlo hhi hmx h1 h2 h3
                refine ⟨.slice (if m = l then some ad else some (ad.add (l * sz))) (k - l) (m - l), ?_, ?_⟩
                · simp only [Instr.sliceAt, Sem.run_bind, run_underlying hT, Result.andThen_ok, Instr.slice, q1, run_sizeOf hsz, Option.map_some]
                  rfl
                · rcases hv m l (by omega) q4 with q | q | q
                  · exact q
                  · exact absurd rfl q
                  · exact absurd rfl q
              obtain ⟨q1, q2, q3, q4⟩ := bounds3 (P := P) (w := w) (cap := n) (Nat.le_refl _) hlo hhi hmx h1 h2 h3
              cases ha with
              | sl _ _ _ _ c L hL hcc hl =>
                refine fin _ c rfl hcc fun m' l' p1 p2 => ?_
                by_cases e1 : l' = l
                · by_cases e2 : m' = m
                  · subst e1; subst e2
                    left
                    split
                    · rename_i hml
                      have : k - l' = 0 := by omega
                      rw [this, hml, Nat.sub_self]; exact .sl0 _ _ _ _
                    · rw [add_none, Nat.add_assoc]
                      refine .sl _ _ _ _ _ L hL (by omega) ?_
                      have : l' * sz + (m' - l') * sz = m' * sz := by rw [← Nat.add_mul]; congr 1; omega
                      have : m' * sz ≤ c * sz := Nat.mul_le_mul_right _ (by omega)
                      omega
                  · exact .inr (.inr e2)
                · exact .inr (.inl e1)
              | sl0 _ _ _ y =>
                refine fin y 0 rfl (Nat.le_refl _) fun m' l' p1 p2 => ?_
                left
                have : k - l = 0 := by omega
                have e1 : l' = 0 := by omega
                have e2 : m' = 0 := by omega
                rw [this, e1, e2]; exact .sl0 _ _ _ _
            · cases hs
          · cases hs
        · cases hs
      · cases hs
    · rename_i e hT
      split at hs
      · rename_i sz' m hsz h1
        split at hs
        · rename_i k h2
          split at hs
          · rename_i l h3
            simp only [Option.some.injEq] at hs; subst hs
            cases ha
            obtain ⟨q1, q2, q3, q4⟩ := bounds3 (P := P) (w := w) (cap := 0) (Nat.le_refl _) hlo hhi hmx h1 h2 h3
            obtain rfl : m = 0 := by omega
            obtain rfl : k = 0 := by omega
            obtain rfl : l = 0 := by omega
            refine ⟨.slice none 0 0, ?_, .nils⟩
            simp only [Instr.sliceAt, Sem.run_bind, run_underlying hT, Result.andThen_ok, Instr.slice, q1, run_sizeOf hsz]
            rfl
          · cases hs
        · cases hs
      · cases hs
    · cases hs
  · cases hs

/-! ## A string over bytes -/

def killOth (k : Nat) : List (Nat × Nat) → Tr Blk → Tr Blk
  | [], t => t
  | (a, _) :: l, t => match Nat.beq a k with
    | true => killOth k l t
    | false => killOth k l (t.put none a)

theorem killOth_spec (k : Nat) : ∀ (l : List (Nat × Nat)) (t : Tr Blk), (∀ a x, (killOth k l t).get a = some x → t.get a = some x) ∧ (killOth k l t).get k = t.get k ∧ ∀ a e, (a, e) ∈ l → a ≠ k → (killOth k l t).get a = none := by
  intro l
  induction l with
  | nil => intro t; exact ⟨fun _ _ h => h, rfl, fun a e h => by cases h⟩
  | cons ae l ih =>
    obtain ⟨a, e⟩ := ae
    intro t
    simp only [killOth]
    cases hk : Nat.beq a k with
    | true =>
      have hak := Nat.eq_of_beq_eq_true hk
      obtain ⟨i1, i2, i3⟩ := ih t
      refine ⟨i1, i2, fun b e' hm hb => ?_⟩
      rcases List.mem_cons.1 hm with hm | hm
      · simp only [Prod.mk.injEq] at hm; exact absurd (hm.1.trans hak) hb
      · exact i3 b e' hm hb
    | false =>
      have hak : a ≠ k := Nat.ne_of_beq_eq_false hk
      obtain ⟨i1, i2, i3⟩ := ih (t.put none a)
      simp only
      have i1' : ∀ b x, (killOth k l (t.put none a)).get b = some x → b ≠ a ∧ t.get b = some x := by
        intro b x hx
        have := i1 b x hx
        rw [Tr.get_put] at this
        split at this
        · cases this
        · rename_i hh; exact ⟨hh, this⟩
      refine ⟨fun b x hx => (i1' b x hx).2, by rw [i2, Tr.get_put, if_neg (fun e => hak e.symm)], fun b e' hm hb => ?_⟩
      rcases List.mem_cons.1 hm with hm | hm
      · simp only [Prod.mk.injEq] at hm
        cases hg : (killOth k l (t.put none a)).get b with
        | none => rfl
        | some x => exact absurd hm.1 (i1' b x hg).1
      · exact i3 b e' hm hb

/-- the block's first cells are frozen; who else may lie there is forgotten -/
def Hp.freeze (h : Hp) (a n : Nat) : Option Hp :=
  match h.t.get a with
  | some (.cells f fb fz xs) => match h.fams.get f with
    | some l => some ⟨h.next, (killOth a l h.t).put (some (.cells f fb (Nat.max fz n) xs)) a, h.fams, h.els⟩
    | none => none
  | _ => none

def opUnsafeString (P : Program) (h : Hp) (argTypes : Array TypeId) (p n : V) : Option (V × Option Hp) :=
  match n with
  | .int _ (.ofNat 0) => match p with
    | .nilp => some (.str [], none)
    | .anyp => some (.str [], none)
    | .ptr _ _ => some (.str [], none)
    | _ => none
  | .int _ (.ofNat (m + 1)) => match p, argTypes[0]? with
    | .ptr a o, some pt => match P.underlying pt, h.t.get a, h.els.get a with
      | some (.pointer e), some (.cells _ _ _ xs), some e' =>
        if P.cellsOf (e' / 2) = 1 ∧ sameLayout P P.depth (e' / 2) e = true ∧ o + (m + 1) ≤ xs.length ∧ m + 1 ≤ 9223372036854775807 then
          match intsOf .u8 ((xs.drop o).take (m + 1)), h.freeze a (o + (m + 1)) with
          | some ns, some h' => some (.str (ns.map fun n => UInt8.ofNat n.toNat), some h')
          | _, _ => none
        else none
      | _, _, _ => none
    | _, _ => none
  | _ => none

def opSliceData (v : V) : Option V :=
  match v with
  | .nils => some .nilp
  | .sl a o (_ + 1) _ => some (.ptr a o)
  | _ => none

/-! ## Pointers by way of unsafe.Pointer -/

def opConvPtr (P : Program) (h : Hp) (src dst : TypeId) (v : V) : Option V :=
  match P.underlying src, P.underlying dst, v with
  | some (.pointer t), some .unsafePointer, .ptr a o => match h.t.get a, szOf P t with
    | some (.cells _ _ _ xs), some (_ + 1) => if o < xs.length then some (.ptr a o) else none
    | _, _ => none
  | some .unsafePointer, some (.pointer u), .ptr a 0 => match h.t.get a, h.els.get a, szOf P u with
    | some (.cells _ _ _ xs), some e, some (_ + 1) =>
      if e % 2 = 1 ∧ 0 < P.cellsOf (e / 2) ∧ P.cellsOf (e / 2) ≤ xs.length ∧ sameLayout P P.depth (e / 2) u = true then some (.ptr a 0) else none
    | _, _, _ => none
  | some (.pointer _), some .unsafePointer, .nilp => some .nilp
  | some .unsafePointer, some (.pointer _), .nilp => some .nilp
  | some .unsafePointer, some .unsafePointer, .nilp => some .nilp
  | some .unsafePointer, some .unsafePointer, .ptr a o => some (.ptr a o)
  | _, _, _ => none


theorem opSliceData_sound {v x : V} {u : Value} {argTypes : Array TypeId} {T : TypeId} (hv : VR ρ v u) (hs : opSliceData v = some x) :
    ∃ y, (Builtin.unsafeSliceData_ argTypes T #[u]).run P w = .ok y w ∧ VR ρ x y := by
  unfold opSliceData at hs
  split at hs
  · simp only [Option.some.injEq] at hs; subst hs
    cases hv
    exact ⟨_, rfl, .nilp⟩
  · rename_i a o n sz
    simp only [Option.some.injEq] at hs; subst hs
    cases hv with
    | sl _ _ _ _ c L hL hc hl =>
      refine ⟨.pointer (some ⟨L.b, L.base + o, none⟩), ?_, .ptr a o L hL⟩
      have : c ≠ 0 := by omega
      show (if c ≠ 0 then (pure (.pointer (some ⟨L.b, L.base + o, none⟩)) : Sem Value) else _).run P w = _
      rw [if_pos this]; rfl
  · cases hs

theorem run_loadBytes {b : Nat} : ∀ (ns : List Int) (o : Nat) (acc : ByteArray), (∀ (i : Nat) n, ns[i]? = some n → w.cell? ⟨b, o + i, none⟩ = some (.int .u8 n)) →
    (loadBytes ⟨b, o, none⟩ acc ns.length).run P w = .ok ⟨acc.data ++ (ns.map fun n => UInt8.ofNat n.toNat).toArray⟩ w := by
  intro ns
  induction ns with
  | nil => intro o acc _; simp [loadBytes]
  | cons n ns ih =>
    intro o acc hc
    have h0 := hc 0 n rfl
    simp only [List.length_cons, loadBytes, Sem.run_bind]
    rw [run_load1 (by simpa using h0)]
    simp only [Result.andThen_ok, add_none]
    rw [ih (o + 1) _ (fun i m hm => by
      have := hc (i + 1) m (by simpa using hm)
      rw [show o + 1 + i = o + (i + 1) by omega]; exact this)]
    congr 1
    apply ByteArray.ext
    simp only [ByteArray.data_push, List.map_cons]
    apply Array.toList_inj.1
    simp

theorem freeze_heap {b off n : Nat} {arr : Array Value} {el : TypeId} {fr : Nat × Nat} (hn : n ≠ 0) (hb : w.heap[b]? = some (.cells arr el fr)) :
    (w.freeze ⟨b, off, none⟩ n).heap[b]? = some (.cells arr el (if fr.1 == fr.2 then (off, off + n) else (min fr.1 off, max fr.2 (off + n)))) ∧
    (∀ b', b' ≠ b → (w.freeze ⟨b, off, none⟩ n).heap[b']? = w.heap[b']?) ∧ (w.freeze ⟨b, off, none⟩ n).heap.size = w.heap.size := by
  obtain ⟨lo, hi⟩ := fr
  refine ⟨?_, fun b' hne => ?_, ?_⟩
  · simp [World.freeze, hn, Array.getElem?_modify, hb]
  · simp only [World.freeze, hn, if_false, Array.getElem?_modify]
    rw [if_neg (fun e => hne e.symm)]
  · simp [World.freeze, hn]

theorem freeze_below {b off n k : Nat} (hk : k ≤ b) (_hb : b < w.heap.size) (hn : n ≠ 0) : Below k w (w.freeze ⟨b, off, none⟩ n) := by
  have e : (w.freeze ⟨b, off, none⟩ n).os = w.os ∧ (w.freeze ⟨b, off, none⟩ n).tape = w.tape ∧ (w.freeze ⟨b, off, none⟩ n).output = w.output := by
    unfold World.freeze
    rw [if_neg hn]; exact ⟨rfl, rfl, rfl⟩
  refine ⟨e.1, e.2.1, e.2.2, ?_, fun j hj => ?_⟩
  · simp [World.freeze, hn]
  · simp only [World.freeze, hn, if_false, Array.getElem?_modify]
    rw [if_neg (by omega)]

theorem freeze_sound (H : Rel Γ N0 w0 ρ h w) {a o n e : Nat} {h' : Hp} {L : Loc} (hL : ρ a = some L) (hs : h.freeze a (o + n) = some h') (hn : n ≠ 0) (hel : h.els.get a = some e)
    (hlen : ∀ f fb fz xs, h.t.get a = some (.cells f fb fz xs) → o + n ≤ xs.length) : Rel Γ N0 w0 ρ h' (w.freeze ⟨L.b, L.base + o, none⟩ n) := by
  unfold Hp.freeze at hs
  split at hs
  · rename_i f fb fz xs hg
    split at hs
    · rename_i l hl
      simp only [Option.some.injEq] at hs; subst hs
      have hle := hlen f fb fz xs hg
      obtain ⟨M, hM, hN, arr, el, fr, k1, k2, k3, k4, k5⟩ := (H.blk _ _ (some_ne (by assumption)) hg).ex
      rw [hL] at hM; simp only [Option.some.injEq] at hM; subst hM
      obtain ⟨M2, arr2, fr2, z1, z2, z3, z4⟩ := H.elk a e (some_ne (by assumption)) hel
      rw [hL] at z1; simp only [Option.some.injEq] at z1; subst z1
      rw [k1] at z2; simp only [Option.some.injEq, Obj.cells.injEq] at z2; obtain ⟨rfl, hel2, rfl⟩ := z2
      obtain ⟨q1, q2, q3⟩ := freeze_heap (off := L.base + o) hn k1
      obtain ⟨s1, s2, s3⟩ := killOth_spec a l h.t
      have hlt := H.lt a L hL
      have hget : ∀ b, ((killOth a l h.t).put (some (.cells f fb (Nat.max fz (o + n)) xs)) a).get b = if b = a then some (.cells f fb (Nat.max fz (o + n)) xs) else (killOth a l h.t).get b := fun b => by rw [Tr.get_put]
      -- who else lives lies elsewhere
      have hoth : ∀ b x M, b ≠ a → (killOth a l h.t).get b = some x → ρ b = some M → M.b ≠ L.b := by
        intro b x M hba hx hM
        have hx' := s1 b x hx
        have hff : famOf b x ≠ famOf a (.cells f fb fz xs) := by
          cases x with
          | cells f' gb gz zs =>
            simp only [famOf]
            intro hh; subst hh
            obtain ⟨m, m1, m2⟩ := H.fam.mem b f' gb gz zs hx'
            rw [hl] at m1; simp only [Option.some.injEq] at m1; subst m1
            rw [s3 _ _ m2 hba] at hx; cases hx
          | iter l' p => simp only [famOf]; exact fun hh => H.fam.own a f fb fz xs b _ hg hx' (fun _ _ _ _ h => by cases h) hh.symm
          | mapo es c => simp only [famOf]; exact fun hh => H.fam.own a f fb fz xs b _ hg hx' (fun _ _ _ _ h => by cases h) hh.symm
        exact H.sep b a x _ M L hx' hg hM hL hff
      have hold : ∀ b x, ((killOth a l h.t).put (some (.cells f fb (Nat.max fz (o + n)) xs)) a).get b = some x → ∃ y, h.t.get b = some y ∧ famOf b y = famOf b x ∧ (∀ f' gb gz zs, x = .cells f' gb gz zs → ∃ gz', y = .cells f' gb gz' zs) ∧ ((∀ f' gb gz zs, x ≠ .cells f' gb gz zs) → y = x) := by
        intro b x hx
        rw [hget] at hx
        by_cases e : b = a
        · subst e; rw [if_pos rfl] at hx; simp only [Option.some.injEq] at hx; subst hx
          exact ⟨_, hg, rfl, fun f' gb gz zs hh => by simp only [Blk.cells.injEq] at hh; obtain ⟨rfl, rfl, _, rfl⟩ := hh; exact ⟨_, rfl⟩, fun hh => absurd rfl (hh _ _ _ _)⟩
        · rw [if_neg e] at hx; exact ⟨x, s1 _ _ hx, rfl, fun f' gb gz zs hh => ⟨gz, hh⟩, fun _ => rfl⟩
      have hfrok : FrOk (if fr.1 == fr.2 then (L.base + o, L.base + o + n) else (min fr.1 (L.base + o), max fr.2 (L.base + o + n))) arr.size := by
        right
        rcases z3 with rfl | ⟨y1, y2⟩
        · simp; omega
        · have : (fr.1 == fr.2) = false := by simp; omega
          rw [this]; simp; omega
      refine ⟨?_, H.hN0, H.glob, H.fresh, fun b M hM => by rw [q3]; exact H.lt b M hM, ?_, ?_, ?_, ?_, ?_, H.elt, H.old, H.kept.step (fun c hc _ => q2 c (fun e => hc a _ L hg hL e.symm)) fun b x M hx hM => by
        obtain ⟨y, hy, _⟩ := hold b x hx
        exact .inl ⟨b, y, M, hy, hM, rfl⟩⟩
      · exact H.below.trans (freeze_below hN hlt hn)
      · intro b x hn0 hx
        rw [hget] at hx
        by_cases e : b = a
        · subst e; rw [if_pos rfl] at hx; simp only [Option.some.injEq] at hx; subst hx
          refine ⟨L, hL, hN, arr, el, _, q1, k2, k3, k4, fun q p1 p2 => ?_⟩
          left
          rcases z3 with rfl | ⟨y1, y2⟩
          · simp only [beq_self_eq_true, if_true] at p1 p2
            show q < L.base + Nat.max fz (o + n)
            have := Nat.le_max_right fz (o + n)
            have e1 : Nat.max fz (o + n) = max fz (o + n) := rfl
            omega
          · have hb' : (fr.1 == fr.2) = false := by simp; omega
            rw [hb'] at p1 p2
            simp only [Bool.false_eq_true, if_false] at p1 p2
            have h5 := k5 (fr.2 - 1) (by omega) (by omega)
            show q < L.base + Nat.max fz (o + n)
            have e1 : Nat.max fz (o + n) = max fz (o + n) := rfl
            omega
        · rw [if_neg e] at hx
          obtain ⟨M, hM, hMN, h3⟩ := (H.blk b x hn0 (s1 _ _ hx)).ex
          have hne := hoth b x M e hx hM
          refine ⟨M, hM, hMN, ?_⟩
          cases x with
          | cells f' gb gz zs => obtain ⟨arr2, el2, fr2, j1, j2⟩ := h3; exact ⟨arr2, el2, fr2, (q2 _ hne).trans j1, j2⟩
          | iter l' p => obtain ⟨q, bs, hb, k⟩ := h3; exact ⟨q, bs, hb, (q2 _ hne).trans k⟩
          | mapo es c => obtain ⟨arr2, es0, j1, j2⟩ := h3; exact ⟨arr2, es0, (q2 _ hne).trans j1, j2⟩
      · intro b c x y M M' hx hy hM hM' hff
        obtain ⟨x', hx1, hx2, _⟩ := hold b x hx
        obtain ⟨y', hy1, hy2, _⟩ := hold c y hy
        exact H.sep b c x' y' M M' hx1 hy1 hM hM' (by rw [hx2, hy2]; exact hff)
      · intro b c f' gb gz zs gb' gz' zs' M M' hx hy hM hM' hbb
        obtain ⟨x', hx1, _, hx2, _⟩ := hold b _ hx
        obtain ⟨y', hy1, _, hy2, _⟩ := hold c _ hy
        obtain ⟨g1, rfl⟩ := hx2 _ _ _ _ rfl
        obtain ⟨g2, rfl⟩ := hy2 _ _ _ _ rfl
        exact H.same b c f' gb g1 zs gb' g2 zs' M M' hx1 hy1 hM hM' hbb
      · refine ⟨?_, H.fam.sorted, ?_, ?_⟩
        · intro b f' gb gz zs hb
          obtain ⟨x', hx1, _, hx2, _⟩ := hold b _ hb
          obtain ⟨g1, rfl⟩ := hx2 _ _ _ _ rfl
          exact H.fam.mem b f' gb g1 zs hx1
        · intro b x hb
          obtain ⟨x', hx1, hx2, _⟩ := hold b x hb
          have := H.fam.lt b x' hx1
          rw [hx2] at this; exact this
        · intro b f' gb gz zs c x hb hc hx
          obtain ⟨x', hx1, _, hx2, _⟩ := hold b _ hb
          obtain ⟨g1, rfl⟩ := hx2 _ _ _ _ rfl
          obtain ⟨y', hy1, _, _, hy2⟩ := hold c x hc
          rw [hy2 hx] at hy1
          exact H.fam.own b f' gb g1 zs c x hx1 hy1 hx
      · intro b e' hn0 he'
        obtain ⟨M, arr3, fr3, j1, j2, j3⟩ := H.elk b e' hn0 he'
        by_cases hbb : M.b = L.b
        · rw [hbb, k1] at j2
          simp only [Option.some.injEq, Obj.cells.injEq] at j2
          obtain ⟨rfl, hj, rfl⟩ := j2
          exact ⟨M, arr, _, j1, by rw [hbb, ← hj]; exact q1, hfrok, j3.2⟩
        · exact ⟨M, arr3, fr3, j1, (q2 _ hbb).trans j2, j3⟩
    · cases hs
  · cases hs


theorem run_shape {b : Nat} {arr : Array Value} {el : TypeId} {fr : Nat × Nat} (hb : w.heap[b]? = some (.cells arr el fr)) : (shape b).run P w = .ok (some (el, arr.size)) w := by
  simp [shape, Sem.run, World.shape?, hb]

theorem run_viewAt {b : Nat} {arr : Array Value} {el : TypeId} {fr : Nat × Nat} (hb : w.heap[b]? = some (.cells arr el fr)) : (viewAt b).run P w = .ok none w := by
  simp only [viewAt, Sem.run_bind, run_shape hb, Result.andThen_ok]; rfl

theorem rowAt_one {fits : TypeId → Bool} {d e count off n : Nat} (hs : P.cellsOf e = 1) (hf : fits e = true) (hn : off + n ≤ count) : rowAt P fits (d + 1) e count off n = true := by
  simp only [rowAt, hs]
  simp [hf, hn, Nat.mod_one]

theorem rowAt_zero {fits : TypeId → Bool} {d e count : Nat} (hs : 0 < P.cellsOf e) (hf : fits e = true) (hn : 1 ≤ count) : rowAt P fits (d + 1) e count 0 1 = true := by
  have : P.cellsOf e ≠ 0 := by omega
  simp only [rowAt, this, if_false]
  simp [hf, hn]

theorem depth_succ (P : Program) : ∃ d, P.depth = d + 1 := ⟨2 * (P.types.size + Made.depth) + 1, rfl⟩

theorem run_variablesAt {b off n el : Nat} {u : TypeId} {arr : Array Value} {fr : Nat × Nat} (hb : w.heap[b]? = some (.cells arr el fr)) (h : rowAt P (sameLayout P P.depth · u) P.depth el (arr.size / P.cellsOf el) off n = true) :
    (variablesAt ⟨b, off, none⟩ u n).run P w = .ok true w := by
  obtain ⟨d, hd⟩ := depth_succ P
  simp only [variablesAt, Sem.run_bind, run_program, Result.andThen_ok, run_shape hb]
  have : liesAt P P.depth el (arr.size / P.cellsOf el) off u n = true := by
    rw [hd, liesAt]
    rw [hd] at h
    rw [hd, h]; rfl
  simp only [this]; rfl

theorem us_zero {argTypes : Array TypeId} {T : TypeId} {q : Option Addr} {k : IntKind} {n : Int} {pt : TypeId} (hpt : argTypes[0]? = some pt) (hn : n = 0) :
    (Builtin.unsafeString_ argTypes T #[.pointer q, .int k n]).run P w = .ok (.string .empty) w := by
  delta Builtin.unsafeString_ Builtin.unsafeString_.match_3
  dsimp only
  rw [dif_pos (show (#[Value.pointer q, Value.int k n] : Array Value).size = 2 from rfl)]
  have g1 : ∀ (a : (#[Value.pointer q, Value.int k n] : Array Value).size = 2) (b : 1 < 2), (#[Value.pointer q, Value.int k n].getLit 1 a b : Value) = .int k n := fun _ _ => rfl
  simp only [g1]
  have hsc : ∀ (a : (#[Value.pointer q, Value.int k n] : Array Value).size = 2) (b : 0 < 2) (F : Option Addr → Sem Value) G, @Builtin.unsafeString_._sparseCasesOn_3 (fun _ => Sem Value) (#[Value.pointer q, Value.int k n].getLit 0 a b) F G = F q := fun _ _ _ _ => rfl
  rw [hsc]
  subst hn
  simp only [Sem.run_bind, asInt, asIntOf, Sem.run_pure, Result.andThen_ok, hpt]
  cases q <;> rfl

theorem us_pos {argTypes : Array TypeId} {T : TypeId} {ad : Addr} {k : IntKind} {n : Int} {pt e : TypeId} {s : ByteArray} (hpt : argTypes[0]? = some pt) (h1 : ¬ n < 0) (h2 : ¬ n > IntKind.i64.max) (h3 : ¬ n = 0)
    (hrt : (elemOf pt).run P w = .ok e w) (hva : (variablesAt ad e n.toNat).run P w = .ok true w) (hlb : (loadBytes ad ByteArray.empty n.toNat).run P w = .ok s w) :
    (Builtin.unsafeString_ argTypes T #[.pointer (some ad), .int k n]).run P w = .ok (.string s) (w.freeze ad n.toNat) := by
  delta Builtin.unsafeString_ Builtin.unsafeString_.match_3
  dsimp only
  rw [dif_pos (show (#[Value.pointer (some ad), Value.int k n] : Array Value).size = 2 from rfl)]
  have g1 : ∀ (a : (#[Value.pointer (some ad), Value.int k n] : Array Value).size = 2) (b : 1 < 2), (#[Value.pointer (some ad), Value.int k n].getLit 1 a b : Value) = .int k n := fun _ _ => rfl
  simp only [g1]
  have hsc : ∀ (a : (#[Value.pointer (some ad), Value.int k n] : Array Value).size = 2) (b : 0 < 2) (F : Option Addr → Sem Value) G, @Builtin.unsafeString_._sparseCasesOn_3 (fun _ => Sem Value) (#[Value.pointer (some ad), Value.int k n].getLit 0 a b) F G = F (some ad) := fun _ _ _ _ => rfl
  rw [hsc]
  simp only [Sem.run_bind, asInt, asIntOf, Sem.run_pure, Result.andThen_ok, hpt, h1, h2, h3, if_false, hrt, hva, if_true, hlb]
  simp only [Go.freeze, Sem.run, Result.andThen_ok]

theorem opUnsafeString_sound (H : Rel Γ N0 w0 ρ h w) {p n x : V} {up un : Value} {argTypes : Array TypeId} {T : TypeId} {h' : Option Hp} (hp : VR ρ p up) (hn : VR ρ n un) (hs : opUnsafeString P h argTypes p n = some (x, h')) (hpt : ∃ pt, argTypes[0]? = some pt) :
    Good Γ N0 w0 ρ h x h' ((Builtin.unsafeString_ argTypes T #[up, un]).run P w) := by
  obtain ⟨pt, hpt⟩ := hpt
  unfold opUnsafeString at hs
  have zero : ∀ (k : IntKind) (q : Option Addr), (Builtin.unsafeString_ argTypes T #[.pointer q, .int k (Int.ofNat 0)]).run P w = .ok (.string .empty) w := fun k q => us_zero hpt rfl
  have estr : Value.string .empty = .string ⟨([] : List UInt8).toArray⟩ := rfl
  split at hs
  · rename_i k
    cases hn.int_inv
    split at hs
    · simp only [Option.some.injEq, Prod.mk.injEq] at hs; obtain ⟨rfl, rfl⟩ := hs
      cases hp
      exact ⟨_, w, ρ, zero k none, .refl _, H, by rw [estr]; exact .str []⟩
    · simp only [Option.some.injEq, Prod.mk.injEq] at hs; obtain ⟨rfl, rfl⟩ := hs
      cases hp
      exact ⟨_, w, ρ, zero k _, .refl _, H, by rw [estr]; exact .str []⟩
    · simp only [Option.some.injEq, Prod.mk.injEq] at hs; obtain ⟨rfl, rfl⟩ := hs
      obtain ⟨L, hL, rfl⟩ := hp.ptr_inv
      exact ⟨_, w, ρ, zero k _, .refl _, H, by rw [estr]; exact .str []⟩
    · cases hs
  · rename_i k m
    cases hn.int_inv
    split at hs
    · rename_i a o pt' hpt'
      rw [hpt] at hpt'; simp only [Option.some.injEq] at hpt'; subst hpt'
      split at hs
      · rename_i e f fb fz xs e' hT hg hel
        split at hs
        · rename_i hc
          obtain ⟨hc1, hc2, hc3, hc4⟩ := hc
          split at hs
          · rename_i ns h1 hi hfz
            simp only [Option.some.injEq, Prod.mk.injEq] at hs; obtain ⟨rfl, rfl⟩ := hs
            obtain ⟨L, hL, rfl⟩ := hp.ptr_inv
            obtain ⟨M, hM, hN, arr, el, fr, k1, k2, k3, k4, k5⟩ := (H.blk _ _ (some_ne (by assumption)) hg).ex
            rw [hL] at hM; simp only [Option.some.injEq] at hM; subst hM
            obtain ⟨M2, arr2, fr2, z1, z2, z3, z4⟩ := H.elk a e' (some_ne (by assumption)) hel
            rw [hL] at z1; simp only [Option.some.injEq] at z1; subst z1
            rw [k1] at z2; simp only [Option.some.injEq, Obj.cells.injEq] at z2; obtain ⟨rfl, hel2, rfl⟩ := z2
            have H2 := freeze_sound H hL hfz (by omega) hel (fun f' fb' fz' xs' hg' => by rw [hg] at hg'; simp only [Option.some.injEq, Blk.cells.injEq] at hg'; obtain ⟨_, _, _, rfl⟩ := hg'; omega)
            refine ⟨.string ⟨(ns.map fun n => UInt8.ofNat n.toNat).toArray⟩, _, ρ, ?_, .refl _, H2, .str _⟩
            have hxs := intsOf_get _ _ hi
            have hnl : ns.length = m + 1 := by
              have := congrArg List.length hxs; simp at this; omega
            have hlb := run_loadBytes (P := P) (w := w) (b := L.b) ns (L.base + o) .empty (fun i n hn => by
              have hi' := (List.getElem?_eq_some_iff.1 hn).1
              have hx : ((xs.drop o).take (m + 1))[i]? = some (.int .u8 n) := by rw [hxs]; simp [hn]
              rw [List.getElem?_take, if_pos (by omega), drop_drop_get] at hx
              have hlt := (List.getElem?_eq_some_iff.1 hx).1
              have hv : arr[L.base + (o + i)]? = some (arr[L.base + (o + i)]'(by omega)) := by simp
              rw [cell_of_heap k1, Nat.add_assoc, hv, (k4 _ _ _ hx hv).int_inv])
            rw [hnl] at hlb
            obtain ⟨d, hd⟩ := depth_succ P
            have hva := run_variablesAt (P := P) (off := L.base + o) (n := m + 1) (u := e) k1 (by
              rw [← hel2] at hc1 hc2
              rw [hd]
              rw [hd] at hc2
              exact rowAt_one hc1 hc2 (by rw [hc1, Nat.div_one]; omega))
            have e1 : ¬ ((Int.ofNat (m + 1)) < 0) := by
              have : (Int.ofNat (m + 1)) = ((m + 1 : Nat) : Int) := rfl
              rw [this]; omega
            have e2 : ¬ ((Int.ofNat (m + 1)) > IntKind.i64.max) := by
              have : IntKind.i64.max = 9223372036854775807 := rfl
              rw [this]
              have : (Int.ofNat (m + 1)) = ((m + 1 : Nat) : Int) := rfl
              rw [this]; omega
            have e3 : ¬ ((Int.ofNat (m + 1)) = 0) := by intro hh; have := congrArg Int.toNat hh; simp at this
            have e4 : (Int.ofNat (m + 1)).toNat = m + 1 := rfl
            have hrt : (elemOf pt).run P w = .ok e w := by
              simp only [elemOf, Sem.run_bind, run_underlying hT, Result.andThen_ok]; rfl
            have := us_pos (argTypes := argTypes) (T := T) (k := k) (n := Int.ofNat (m + 1)) hpt e1 e2 e3 hrt (by rw [e4]; exact hva) (by rw [e4]; exact hlb)
            rw [e4] at this
            rw [this]
            simp
          · cases hs
        · cases hs
      · cases hs
    · cases hs
  · cases hs

theorem opConvPtr_sound (H : Rel Γ N0 w0 ρ h w) {src dst : TypeId} {v x : V} {u : Value} (hv : VR ρ v u) (hs : opConvPtr P h src dst v = some x) :
    ∃ y, (convert src dst u).run P w = .ok y w ∧ VR ρ x y := by
  unfold opConvPtr at hs
  split at hs
  · rename_i t a o h1 h2
    split at hs
    · rename_i f fb fz xs sz hg hsz
      split at hs
      · rename_i ho
        simp only [Option.some.injEq] at hs; subst hs
        obtain ⟨L, hL, rfl⟩ := hv.ptr_inv
        obtain ⟨M, hM, hN, arr, el, fr, k1, k2, k3, k4, k5⟩ := (H.blk _ _ (some_ne (by assumption)) hg).ex
        rw [hL] at hM; simp only [Option.some.injEq] at hM; subst hM
        refine ⟨_, ?_, .ptr a o L hL⟩
        have hsee : (Conv.seenAt ⟨L.b, L.base + o, none⟩).run P w = .ok ⟨L.b, L.base + o, none⟩ w := by
          simp only [Conv.seenAt, Sem.run_bind, run_viewAt k1, Result.andThen_ok]; rfl
        have hci : (cellsIn L.b).run P w = .ok (some arr.size) w := by
          simp only [cellsIn, Sem.run_bind, run_shape k1, Result.andThen_ok]; rfl
        have hlt : ¬ (L.base + o ≥ arr.size) := by omega
        simp only [convert, Sem.run_bind, run_underlying h1, run_underlying h2, Result.andThen_ok, Conv.unsafePointer, hsee, hci, run_sizeOf hsz]
        simp [hlt]
      · cases hs
    · cases hs
  · rename_i u' a h1 h2
    split at hs
    · rename_i f fb fz xs e sz hg hel hsz
      split at hs
      · rename_i hc
        obtain ⟨hodd, hpos, hle, hlay⟩ := hc
        simp only [Option.some.injEq] at hs; subst hs
        obtain ⟨L, hL, rfl⟩ := hv.ptr_inv
        obtain ⟨M, hM, hN, arr, el, fr, k1, k2, k3, k4, k5⟩ := (H.blk _ _ (some_ne (by assumption)) hg).ex
        rw [hL] at hM; simp only [Option.some.injEq] at hM; subst hM
        obtain ⟨M2, arr2, fr2, z1, z2, z3, z4⟩ := H.elk a e (some_ne (by assumption)) hel
        rw [hL] at z1; simp only [Option.some.injEq] at z1; subst z1
        rw [k1] at z2; simp only [Option.some.injEq, Obj.cells.injEq] at z2; obtain ⟨rfl, hel2, rfl⟩ := z2
        have hb0 := z4 hodd
        rw [← hel2] at hpos hle hlay
        refine ⟨_, ?_, .ptr a 0 L hL⟩
        rw [hb0]
        have hsee : (Conv.seenAt ⟨L.b, 0 + 0, none⟩).run P w = .ok ⟨L.b, 0 + 0, none⟩ w := by
          simp only [Conv.seenAt, Sem.run_bind, run_viewAt k1, Result.andThen_ok]; rfl
        obtain ⟨d, hd⟩ := depth_succ P
        have hva := run_variablesAt (P := P) (off := 0 + 0) (n := 1) (u := u') k1 (by
          rw [hd]
          rw [hd] at hlay
          exact rowAt_zero hpos hlay (by
            have : P.cellsOf el ≤ arr.size := by omega
            exact (Nat.one_le_div_iff hpos).2 this))
        simp only [convert, Sem.run_bind, run_underlying h1, run_underlying h2, Result.andThen_ok, Conv.unsafePointer, hsee, run_sizeOf hsz, hva]
        simp
      · cases hs
    · cases hs
  · rename_i t h1 h2
    simp only [Option.some.injEq] at hs; subst hs
    cases hv
    refine ⟨_, ?_, .nilp⟩
    simp only [convert, Sem.run_bind, run_underlying h1, run_underlying h2, Result.andThen_ok, Conv.unsafePointer]; rfl
  · rename_i t h1 h2
    simp only [Option.some.injEq] at hs; subst hs
    cases hv
    refine ⟨_, ?_, .nilp⟩
    simp only [convert, Sem.run_bind, run_underlying h1, run_underlying h2, Result.andThen_ok, Conv.unsafePointer]; rfl
  · rename_i h1 h2
    simp only [Option.some.injEq] at hs; subst hs
    cases hv
    refine ⟨_, ?_, .nilp⟩
    simp only [convert, Sem.run_bind, run_underlying h1, run_underlying h2, Result.andThen_ok, Conv.unsafePointer]; rfl
  · rename_i a o h1 h2
    simp only [Option.some.injEq] at hs; subst hs
    obtain ⟨L, hL, rfl⟩ := hv.ptr_inv
    refine ⟨_, ?_, .ptr a o L hL⟩
    simp only [convert, Sem.run_bind, run_underlying h1, run_underlying h2, Result.andThen_ok, Conv.unsafePointer]; rfl
  · cases hs

end
end Go.Proofs.YtbfdgdigaiimgaaDoor.HM
