/- The heap machine: maps. -/
import Derived.Test.YtinaapfnfiijnaaGreatDoorH7
import Derived.Test.YtinaapfnfiijnaaGreatDoorHV
import Derived.MapKept
import Derived.WideKeyRuns
namespace Go.Proofs.YtinaapfnfiijnaaGreatDoor.HM
open Go Go.RowKit

/-! ## Keys that may be keys -/

def partFine (P : Program) (rec : TypeId → V → Bool) (T : TypeId) (cs : List V) (off : Nat) : Bool :=
  match szOf P T, isAggT P T with
  | some sz, some ag => match vpart cs off sz ag with
    | some x => rec T x
    | none => false
  | _, _ => false

def keyFine (P : Program) : Nat → TypeId → V → Bool
  | 0, _, _ => false
  | d + 1, T, v => match P.underlying T, v with
    | some (.interface _), _ => false
    | some (.array n e), .agg cs => match szOf P e with
      | some sz => (List.range' 0 n).all fun i => partFine P (keyFine P d) e cs (i * sz)
      | none => false
    | some (.struct fs), .agg cs => fs.toList.all fun f => if f.name ≠ "_" then partFine P (keyFine P d) f.type cs f.offset else true
    | some (.array _ _), _ => false
    | some (.struct _), _ => false
    | some _, _ => true
    | none, _ => false

def keyExact : Nat → V → Bool
  | 0, _ => false
  | _ + 1, .bool _ => true
  | _ + 1, .int _ _ => true
  | _ + 1, .str _ => true
  | d + 1, .agg cs => cs.all (keyExact d)
  | _, _ => false

section
variable {P : Program} {Γ : Glob} {N0 : Nat} {w0 : World} {ρ : Ren} {h : Hp} {w : World}

theorem partFine_run {rec : TypeId → V → Bool} {em : Bool} {m : Nat} (hrec : ∀ T v u, VR ρ v u → rec T v = true → (Instr.checkKey em m T u).run P w = .ok () w) {T : TypeId} {cs : List V} {arr : Array Value} {off : Nat} (hc : VRs ρ cs arr.toList)
    (h : partFine P rec T cs off = true) : ∃ y, (part T arr off).run P w = .ok y w ∧ (Instr.checkKey em m T y).run P w = .ok () w := by
  unfold partFine at h
  split at h
  · rename_i sz ag hs hg
    split at h
    · rename_i x hx
      obtain ⟨y, h1, h2⟩ := vpart_sound (w := w) hc hs hg hx
      exact ⟨y, h1, hrec _ _ _ h2 h⟩
    · cases h
  · cases h

theorem keyFine_sound (em : Bool) : ∀ (d m : Nat), d ≤ m → ∀ (T : TypeId) (v : V) (u : Value), VR ρ v u → keyFine P d T v = true → (Instr.checkKey em m T u).run P w = .ok () w := by
  intro d
  induction d with
  | zero => intro m _ T v u _ h; cases h
  | succ d ih =>
    intro m hm T v u hv h
    obtain ⟨m, rfl⟩ : ∃ k, m = k + 1 := ⟨m - 1, by omega⟩
    have ih' := fun T v u => ih m (by omega) T v u
    simp only [keyFine] at h
    split at h
    · cases h
    · rename_i n e cs hT
      obtain ⟨us, rfl, hus⟩ := hv.agg_inv
      split at h
      · rename_i sz hz
        rw [Instr.checkKey]
        simp only [Sem.run_bind, run_underlying hT, Result.andThen_ok]
        simp only [Std.Legacy.Range.forIn_eq_forIn_range', Std.Legacy.Range.size, Nat.sub_zero, Nat.add_one_sub_one, Nat.div_one]
        have each : ∀ i ∈ List.range' 0 n, partFine P (keyFine P d) e cs (i * sz) = true := fun i hi => List.all_eq_true.1 h i hi
        clear h
        generalize List.range' 0 n = is at each
        induction is with
        | nil => simp
        | cons j is ihl =>
          obtain ⟨y, p1, p2⟩ := partFine_run (em := em) (m := m) (fun T v u h1 h2 => ih' T v u h1 h2) hus (each j (by simp))
          simp only [List.forIn_cons, Sem.run_bind, run_sizeOf hz, Result.andThen_ok, p1, p2, Sem.run_pure]
          exact ihl (fun y hy => each y (by simp [hy]))
      · cases h
    · rename_i fs cs hT
      obtain ⟨us, rfl, hus⟩ := hv.agg_inv
      rw [Instr.checkKey]
      simp only [Sem.run_bind, run_underlying hT, Result.andThen_ok]
      have each : ∀ f ∈ fs.toList, (if f.name ≠ "_" then partFine P (keyFine P d) f.type cs f.offset else true) = true := fun f hf => List.all_eq_true.1 h f hf
      clear h
      rw [← Array.forIn_toList]
      generalize fs.toList = l at each
      induction l with
      | nil => simp
      | cons f l ihl =>
        have h0 := each f (by simp)
        simp only [List.forIn_cons, Sem.run_bind]
        by_cases hn : f.name ≠ "_"
        · rw [if_pos hn] at h0
          obtain ⟨y, p1, p2⟩ := partFine_run (em := em) (m := m) (fun T v u h1 h2 => ih' T v u h1 h2) hus h0
          rw [if_pos hn]
          simp only [Sem.run_bind, Result.andThen_ok, p1, p2, Sem.run_pure]
          exact ihl (fun y hy => each y (by simp [hy]))
        · rw [if_neg hn]
          simp only [Sem.run_pure, Result.andThen_ok]
          exact ihl (fun y hy => each y (by simp [hy]))
    · cases h
    · cases h
    · rename_i k _ _ _ _ _ _
      have hT : P.underlying T = some k := by assumption
      rw [Instr.checkKey]
      simp only [Sem.run_bind, run_underlying hT, Result.andThen_ok]
      cases k <;> first
        | (exfalso; simp_all; done)
        | (cases u <;> rfl)
    · cases h

theorem keyExact_eq : ∀ (d : Nat) (v : V) (u u' : Value), VR ρ v u → VR ρ v u' → keyExact d v = true → u = u' := by
  intro d
  induction d with
  | zero => intro v u u' _ _ h; cases h
  | succ d ih =>
    intro v u u' h1 h2 h
    cases v with
    | bool b => cases h1; cases h2; rfl
    | int k n => cases h1; cases h2; rfl
    | str l => cases h1; cases h2; rfl
    | agg cs =>
      obtain ⟨us, rfl, hus⟩ := h1.agg_inv
      obtain ⟨vs, rfl, hvs⟩ := h2.agg_inv
      have hall : ∀ x ∈ cs, keyExact d x = true := fun x hx => List.all_eq_true.1 h x hx
      congr 1
      apply Array.toList_inj.1
      apply List.ext_getElem?
      intro i
      cases hc : cs[i]? with
      | none =>
        rw [List.getElem?_eq_none_iff] at hc
        rw [List.getElem?_eq_none (by rw [← hus.1]; exact hc), List.getElem?_eq_none (by rw [← hvs.1]; exact hc)]
      | some x =>
        obtain ⟨y, hy, q1⟩ := hus.get hc
        obtain ⟨z, hz, q2⟩ := hvs.get hc
        rw [hy, hz, ih x y z q1 q2 (hall x (List.mem_of_getElem? hc))]
    | _ => cases h

theorem keyExact_bits : ∀ (d m : Nat), d ≤ m → ∀ (v : V) (u : Value), VR ρ v u → keyExact d v = true → Instr.sameBits m u u = true := by
  intro d
  induction d with
  | zero => intro m _ v u _ h; cases h
  | succ d ih =>
    intro m hm v u h1 h
    obtain ⟨m, rfl⟩ : ∃ k, m = k + 1 := ⟨m - 1, by omega⟩
    cases v with
    | bool b => cases h1; simp [Instr.sameBits]
    | int k n => cases h1; simp [Instr.sameBits]
    | str l =>
      cases h1
      simp only [Instr.sameBits]
      exact (bytes_beq l l).trans (by simp)
    | agg cs =>
      obtain ⟨us, rfl, hus⟩ := h1.agg_inv
      have hall : ∀ x ∈ cs, keyExact d x = true := fun x hx => List.all_eq_true.1 h x hx
      simp only [Instr.sameBits, beq_self_eq_true, Bool.true_and, List.all_eq_true]
      rintro ⟨a, b⟩ hab
      obtain ⟨i, hi⟩ := List.mem_iff_getElem?.1 hab
      obtain ⟨ha, hb⟩ := List.getElem?_zip_eq_some.1 hi
      simp only at ha hb
      rw [ha] at hb
      simp only [Option.some.injEq] at hb; subst hb
      have hlt : i < cs.length := by rw [hus.1]; exact (List.getElem?_eq_some_iff.1 ha).1
      obtain ⟨y, hy, q⟩ := hus.get (List.getElem?_eq_getElem hlt)
      rw [ha] at hy
      simp only [Option.some.injEq] at hy; subst hy
      exact ih m (by omega) _ _ q (hall _ (List.getElem_mem hlt))
    | _ => cases h

/-! ## Finding -/

def sameV : TypeDesc → V → V → Option Bool
  | .int _, .int k m, .int k' n => if k = k' then some (m == n) else none
  | .string, .str a, .str b => some (decide (a = b))
  | .bool, .bool a, .bool b => some (a == b)
  | _, _, _ => none

theorem sameV_sound {d : TypeDesc} {a b : V} {u v : Value} {t : Bool} (ha : VR ρ a u) (hb : VR ρ b v) (h : sameV d a b = some t) : Instr.sameNow d u v = some t := by
  unfold sameV at h
  split at h
  · cases ha; cases hb; exact h
  · rename_i x y
    cases ha; cases hb
    simp only [Option.some.injEq] at h; subst h
    simp only [Instr.sameNow, Option.some.injEq]
    exact bytes_beq x y
  · cases ha; cases hb; exact h
  · cases h

def findN (d : TypeDesc) (k : V) : List (V × V) → Nat → Option (Option (Nat × V × V))
  | [], _ => some none
  | e :: es, i => match sameV d k e.1 with
    | some true => some (some (i, e))
    | some false => findN d k es (i + 1)
    | none => none

def findA (P : Program) (kt : TypeId) (k : V) : List (V × V) → Nat → Option (Option (Nat × V × V))
  | [], _ => some none
  | e :: es, i => match veq P 50 kt k e.1 with
    | some true => some (some (i, e))
    | some false => findA P kt k es (i + 1)
    | none => none

def findV (P : Program) (kt : TypeId) (k : V) (es : List (V × V)) : Option (Option (Nat × V × V)) :=
  match P.underlying kt with
  | some (.int q) => findN (.int q) k es 0
  | some .string => findN .string k es 0
  | some .bool => findN .bool k es 0
  | some (.struct _) => findA P kt k es 0
  | some (.array _ _) => findA P kt k es 0
  | _ => none

/-- entries and entries -/
def EsR (ρ : Ren) (es : List (V × V)) (l : List MapEntry) : Prop := es.length = l.length ∧ ∀ (i : Nat) k e, es[i]? = some k → l[i]? = some e → VR ρ k.1 e.key ∧ VR ρ k.2 e.val

theorem EsR.tail {k : V × V} {es : List (V × V)} {e : MapEntry} {l : List MapEntry} (h : EsR ρ (k :: es) (e :: l)) : (VR ρ k.1 e.key ∧ VR ρ k.2 e.val) ∧ EsR ρ es l :=
  ⟨h.2 0 k e rfl rfl, by have := h.1; simpa using this, fun i a b ha hb => h.2 (i + 1) a b (by simpa using ha) (by simpa using hb)⟩

/-- what is found -/
def FoundR (ρ : Ren) (es : List (V × V)) (i0 : Nat) : Option (Nat × V × V) → Option (Nat × Value) → Prop
  | none, none => True
  | some (i, e), some (j, v) => i = j ∧ i0 ≤ i ∧ es[i - i0]? = some e ∧ VR ρ e.2 v
  | _, _ => False

theorem findN_sound {d : TypeDesc} {k : V} {u : Value} (hk : VR ρ k u) : ∀ (es : List (V × V)) (l : List MapEntry) (i : Nat) (r : Option (Nat × V × V)), EsR ρ es l → findN d k es i = some r →
    ∃ r', Instr.findNow d u l i = some r' ∧ FoundR ρ es i r r' := by
  intro es
  induction es with
  | nil =>
    intro l i r he h
    obtain rfl : l = [] := by have := he.1; cases l with | nil => rfl | cons _ _ => simp at this
    cases h
    exact ⟨none, rfl, trivial⟩
  | cons e es ih =>
    intro l i r he h
    cases l with
    | nil => have := he.1; simp at this
    | cons x l =>
      obtain ⟨⟨q1, q2⟩, q3⟩ := he.tail
      simp only [findN] at h
      split at h
      · rename_i hs
        simp only [Option.some.injEq] at h; subst h
        exact ⟨some (i, x.val), by simp only [Instr.findNow, sameV_sound hk q1 hs], rfl, Nat.le_refl _, by simp, q2⟩
      · rename_i hs
        obtain ⟨r', h1, h2⟩ := ih l (i + 1) r q3 h
        refine ⟨r', by simp only [Instr.findNow, sameV_sound hk q1 hs, h1], ?_⟩
        cases r with
        | none => cases r' with
          | none => trivial
          | some p' => exact h2
        | some p =>
          cases r' with
          | none => exact h2
          | some p' =>
            obtain ⟨a1, a2, a3, a4⟩ := h2
            exact ⟨a1, by omega, by rw [show p.1 - i = (p.1 - (i + 1)) + 1 by omega]; simpa using a3, a4⟩
      · cases h

theorem findA_sound {kt : TypeId} {k : V} {u : Value} (hk : VR ρ k u) : ∀ (es : List (V × V)) (l : List MapEntry) (i : Nat) (r : Option (Nat × V × V)), EsR ρ es l → findA P kt k es i = some r →
    ∃ r', (Instr.findAsking kt u l i).run P w = .ok r' w ∧ FoundR ρ es i r r' := by
  intro es
  induction es with
  | nil =>
    intro l i r he h
    obtain rfl : l = [] := by have := he.1; cases l with | nil => rfl | cons _ _ => simp at this
    cases h
    exact ⟨none, rfl, trivial⟩
  | cons e es ih =>
    intro l i r he h
    cases l with
    | nil => have := he.1; simp at this
    | cons x l =>
      obtain ⟨⟨q1, q2⟩, q3⟩ := he.tail
      simp only [findA] at h
      have run : ∀ t, veq P 50 kt k e.1 = some t → (Op.equal kt u x.key).run P w = .ok t w := fun t ht => veq_sound 50 _ (by decide) kt k e.1 u x.key t hk q1 ht
      split at h
      · rename_i hs
        simp only [Option.some.injEq] at h; subst h
        refine ⟨some (i, x.val), ?_, rfl, Nat.le_refl _, by simp, q2⟩
        simp only [Instr.findAsking, Sem.run_bind, run _ hs, Result.andThen_ok]
        rfl
      · rename_i hs
        obtain ⟨r', h1, h2⟩ := ih l (i + 1) r q3 h
        refine ⟨r', ?_, ?_⟩
        · simp only [Instr.findAsking, Sem.run_bind, run _ hs, Result.andThen_ok]
          exact h1
        · cases r with
          | none => cases r' with
            | none => trivial
            | some p' => exact h2
          | some p =>
            cases r' with
            | none => exact h2
            | some p' =>
              obtain ⟨a1, a2, a3, a4⟩ := h2
              exact ⟨a1, by omega, by rw [show p.1 - i = (p.1 - (i + 1)) + 1 by omega]; simpa using a3, a4⟩
      · cases h

theorem findV_sound {kt : TypeId} {k : V} {u : Value} (hk : VR ρ k u) {es : List (V × V)} {l : List MapEntry} {r : Option (Nat × V × V)} (he : EsR ρ es l) (h : findV P kt k es = some r) :
    ∃ r', (Instr.findKey kt u l).run P w = .ok r' w ∧ FoundR ρ es 0 r r' := by
  have now : ∀ d, P.underlying kt = some d → findN d k es 0 = some r → ∃ r', (Instr.findKey kt u l).run P w = .ok r' w ∧ FoundR ρ es 0 r r' := by
    intro d hd hf
    obtain ⟨r', h1, h2⟩ := findN_sound hk es l 0 r he hf
    exact ⟨r', Go.MapKept.run_findKey hd h1, h2⟩
  unfold findV at h
  split at h
  · rename_i q hd; exact now _ hd h
  · rename_i hd; exact now _ hd h
  · rename_i hd; exact now _ hd h
  · rename_i fs hd
    obtain ⟨r', h1, h2⟩ := findA_sound (P := P) (w := w) hk es l 0 r he h
    exact ⟨r', by rw [run_findKey_eq (w := w) (by rw [hd])]; exact h1, h2⟩
  · rename_i n e hd
    obtain ⟨r', h1, h2⟩ := findA_sound (P := P) (w := w) hk es l 0 r he h
    exact ⟨r', by rw [run_findKey_eq (w := w) (by rw [hd])]; exact h1, h2⟩
  · cases h


/-! ## The operations -/

def opMakeMap (h : Hp) : V × Option Hp := (.mp h.next, some (h.newObj (.mapo [] 0)))

theorem opMakeMap_sound (H : Rel Γ N0 w0 ρ h w) {T : TypeId} {r : Option Value} (hr : ∀ u, r = some u → ∃ k n, u = .int k n ∧ ∃ a b, P.underlying T = some (.map a b)) : Good Γ N0 w0 ρ h (opMakeMap h).1 (opMakeMap h).2 ((Instr.makeMap T r).run P w) := by
  have hb : BlkR (setR ρ h.next ⟨w.heap.size, 0, 0⟩) N0 (World.new w (.map #[] 0)) h.next (.mapo [] 0) :=
    ⟨⟨w.heap.size, 0, 0⟩, by simp [setR], Nat.le_trans H.hN0 H.below.size, #[], new_heap_new _ _, rfl, fun i k e hk => by simp at hk⟩
  refine ⟨.map (some w.heap.size), _, _, ?_, setR_ext (H.fresh _ (Nat.le_refl _)), H.newObj (fun _ _ _ _ hh => by cases hh) hb, .mp _ ⟨w.heap.size, 0, 0⟩ (by simp [setR])⟩
  cases r with
  | none =>
    simp only [Instr.makeMap, Sem.run_bind, Sem.run_pure, Result.andThen_ok, newObj, Sem.run]
    rfl
  | some u =>
    obtain ⟨k, n, rfl, a, b, hT⟩ := hr u rfl
    simp only [Instr.makeMap, Sem.run_bind, run_underlying hT, asInt, Sem.run_pure, Result.andThen_ok, newObj, Sem.run]
    rfl

/-- a map's entries -/
def entriesOf (h : Hp) : V → Option (List (V × V))
  | .nilmap => some []
  | .mp a => match h.t.get a with
    | some (.mapo es _) => some es
    | _ => none
  | _ => none

theorem entries_blk (H : Rel Γ N0 w0 ρ h w) {a : Nat} {es : List (V × V)} {c : Nat} (hg : h.t.get a = some (.mapo es c)) {L : Loc} (hL : ρ a = some L) :
    ∃ arr : Array MapEntry, w.heap[L.b]? = some (.map arr c) ∧ EsR ρ es arr.toList ∧ N0 ≤ L.b := by
  obtain ⟨M, hM, hN, arr, h1, h2, h3⟩ := (H.blk a _ hg).ex
  rw [hL] at hM; simp only [Option.some.injEq] at hM; subst hM
  exact ⟨arr, h1, ⟨by simpa using h2, fun i k e hk he => h3 i k e hk (by simpa using he)⟩, hN⟩

def okTup (ok : Bool) (v : V) (b : Bool) : V := match ok with
  | true => .tup [v, .bool b]
  | false => v

theorem okTup_VR {ok : Bool} {v : V} {u : Value} (h : VR ρ v u) (b : Bool) : VR ρ (okTup ok v b) (if ok = true then .tuple #[u, .bool b] else u) := by
  cases ok with
  | true => exact VRs.tup (.cons h (.cons (.bool b) (.nil _)))
  | false => exact h

def zeroV (P : Program) (T : TypeId) : Option V :=
  match zeroC P T, isAggT P T with
  | some [x], some false => some x
  | some xs, some true => some (.agg xs)
  | _, _ => none

def opLookup (P : Program) (h : Hp) (T : TypeId) (m k : V) (ok : Bool) : Option V :=
  match P.underlying T with
  | some (.map kt et) => match entriesOf h m with
    | some es => match keyFine P 50 kt k, findV P kt k es with
      | true, some (some (_, e)) => some (okTup ok e.2 true)
      | true, some none => match P.info? et with
        | some i => match i.zero with
          | some z => match constV z with
            | some v => some (okTup ok v false)
            | none => none
          | none => none
        | none => none
      | _, _ => none
    | none => none
  | _ => none

theorem opLookup_sound (H : Rel Γ N0 w0 ρ h w) {T : TypeId} {m k x : V} {um uk : Value} {ok : Bool} (hm : VR ρ m um) (hk : VR ρ k uk) (hs : opLookup P h T m k ok = some x) :
    ∃ y, (Instr.lookup T um uk ok).run P w = .ok y w ∧ VR ρ x y := by
  unfold opLookup at hs
  split at hs
  · rename_i kt et hT
    split at hs
    · rename_i es hes
      have key : ∃ arr : Array MapEntry, EsR ρ es arr.toList ∧ ∀ (g : Array MapEntry → Sem Value), (do
          let es ← match um with
            | .map none => pure #[]
            | .map (some r) => do
              let .map es _ ← getObj r | stuck "Lookup: map expected"
              pure es
            | _ => stuck "Lookup: map expected"
          g es : Sem Value).run P w = (g arr).run P w := by
        unfold entriesOf at hes
        split at hes
        · simp only [Option.some.injEq] at hes; subst hes
          cases hm
          exact ⟨#[], ⟨rfl, fun i a b ha => by simp at ha⟩, fun g => by simp only [Sem.run_bind, Sem.run_pure, Result.andThen_ok]⟩
        · rename_i a
          split at hes
          · rename_i es' c hg
            simp only [Option.some.injEq] at hes; subst hes
            cases hm with
            | mp _ L hL =>
            obtain ⟨arr, h1, h2, _⟩ := entries_blk H hg hL
            exact ⟨arr, h2, fun g => by simp only [Sem.run_bind, Go.MapKept.run_getObj_map h1, Sem.run_pure, Result.andThen_ok]⟩
          · cases hes
        · cases hes
      obtain ⟨arr, hE, hrun⟩ := key
      have start : (Instr.lookup T um uk ok).run P w = (do
          Instr.checkKey arr.isEmpty 10000 kt uk
          let (v, ok') ← match ← Instr.findKey kt uk arr.toList with
            | some (_, v) => pure (v, true)
            | none => pure (← zeroValue et, false)
          pure (if ok then .tuple #[v, .bool ok'] else v) : Sem Value).run P w := by
        unfold Instr.lookup
        rw [Sem.run_bind, run_underlying hT, Result.andThen_ok]
        exact hrun _
      rw [start]
      split at hs
      · rename_i i e hf1 hf2
        simp only [Option.some.injEq] at hs; subst hs
        obtain ⟨r', h1, h2⟩ := findV_sound (P := P) (w := w) hk hE hf2
        cases r' with
        | none => exact absurd h2 (by intro h; exact h)
        | some p =>
          obtain ⟨j, v⟩ := p
          obtain ⟨_, _, _, hv⟩ := h2
          refine ⟨_, ?_, okTup_VR hv true⟩
          simp only [Sem.run_bind, keyFine_sound _ 50 10000 (by decide) kt k uk hk hf1, h1, Result.andThen_ok, Sem.run_pure]
      · rename_i hf1 hf2
        obtain ⟨r', h1, h2⟩ := findV_sound (P := P) (w := w) hk hE hf2
        cases r' with
        | some p => exact absurd h2 (by intro h; exact h)
        | none =>
          split at hs
          · rename_i i hi
            split at hs
            · rename_i z hz
              split at hs
              · rename_i v hv
                simp only [Option.some.injEq] at hs; subst hs
                refine ⟨_, ?_, okTup_VR (constV_sound hv) false⟩
                simp only [Sem.run_bind, keyFine_sound _ 50 10000 (by decide) kt k uk hk hf1, h1, Result.andThen_ok, Sem.run_pure, zeroValue, run_typeInfo hi, hz]
              · cases hs
            · cases hs
          · cases hs
      · cases hs
    · cases hs
  · cases hs

def opMapUpdate (P : Program) (h : Hp) (T : TypeId) (m k v : V) : Option Hp :=
  match P.underlying T, m with
  | some (.map kt _), .mp a => match h.t.get a with
    | some (.mapo es c) => match keyFine P 50 kt k && keyExact 50 k, findV P kt k es with
      | true, some none => some ⟨h.next, h.t.put (some (.mapo (es ++ [(k, v)]) (c + 1))) a, h.fams, h.els⟩
      | true, some (some (i, e)) => match k.same e.1 with
        | true => some ⟨h.next, h.t.put (some (.mapo (es.set i (k, v)) c)) a, h.fams, h.els⟩
        | false => none
      | _, _ => none
    | _ => none
  | _, _ => none

theorem opMapUpdate_sound (H : Rel Γ N0 w0 ρ h w) {T : TypeId} {m k v : V} {um uk uv : Value} {h' : Hp} (hm : VR ρ m um) (hk : VR ρ k uk) (hv : VR ρ v uv) (hs : opMapUpdate P h T m k v = some h') :
    ∃ w', (Instr.mapUpdate T um uk uv).run P w = .ok () w' ∧ Rel Γ N0 w0 ρ h' w' := by
  unfold opMapUpdate at hs
  split at hs
  · rename_i kt et a hT
    cases hm with
    | mp _ L hL =>
    split at hs
    · rename_i es c hg
      obtain ⟨arr, h1, hE, hN⟩ := entries_blk H hg hL
      have hlt : L.b < w.heap.size := H.lt _ _ hL
      have no : ∀ arr' el fr, w.heap[L.b]? ≠ some (.cells arr' el fr) := fun _ _ _ hh => by rw [h1] at hh; cases hh
      have hput : ∀ o, (w.heap.setIfInBounds L.b o)[L.b]? = some o := fun o => by simp [hlt]
      have start : (Instr.mapUpdate T (.map (some L.b)) uk uv).run P w = (do
          Instr.checkKey false 10000 kt uk
          match ← Instr.findKey kt uk arr.toList with
          | some (i, _) => do
            let key ← Instr.keyThatStays (((arr[i]?).map (·.key)).getD uk) uk
            setObj L.b (.map (arr.modify i fun e => { e with key, val := uv }) c)
          | none => setObj L.b (.map (arr.push { key := uk, val := uv, born := c }) (c + 1)) : Sem Unit).run P w := by
        unfold Instr.mapUpdate
        simp only [Sem.run_bind, run_underlying hT, Result.andThen_ok, Go.MapKept.run_getObj_map h1]
        rfl
      split at hs
      · rename_i hf1 hf2
        simp only [Option.some.injEq] at hs; subst hs
        simp only [Bool.and_eq_true] at hf1
        obtain ⟨r', q1, q2⟩ := findV_sound (P := P) (w := w) hk hE hf2
        cases r' with
        | some p => exact absurd q2 (by intro h; exact h)
        | none =>
          refine ⟨_, ?_, H.setObj (o := .map (arr.push { key := uk, val := uv, born := c }) (c + 1)) hg hL (fun _ _ _ _ hh => by cases hh) (fun _ _ _ _ hh => by cases hh) hN no ⟨L, hL, hN, _, hput _, by have := hE.1; simp at this ⊢; omega, fun i a b ha hb => ?_⟩⟩
          · rw [start]
            simp only [Sem.run_bind, keyFine_sound _ 50 10000 (by decide) kt k uk hk hf1.1, q1, Result.andThen_ok, Go.MapKept.run_setObj_map _ h1]
          · have hlen : es.length = arr.size := by have := hE.1; simpa using this
            rw [Array.getElem?_push] at hb
            by_cases hi : i = arr.size
            · rw [if_pos hi] at hb
              simp only [Option.some.injEq] at hb; subst hb
              rw [List.getElem?_append_right (by omega), show i - es.length = 0 by omega] at ha
              simp only [List.getElem?_cons_zero, Option.some.injEq] at ha; subst ha
              exact ⟨hk, hv⟩
            · rw [if_neg hi] at hb
              have hi2 : i < arr.size := (Array.getElem?_eq_some_iff.1 hb).1
              rw [List.getElem?_append_left (by omega)] at ha
              exact hE.2 i a b ha (by simpa using hb)
      · rename_i i e hf1 hf2
        split at hs
        · rename_i hsame
          simp only [Option.some.injEq] at hs; subst hs
          simp only [Bool.and_eq_true] at hf1
          obtain ⟨r', q1, q2⟩ := findV_sound (P := P) (w := w) hk hE hf2
          cases r' with
          | none => exact absurd q2 (by intro h; exact h)
          | some p =>
            obtain ⟨j, v0⟩ := p
            obtain ⟨rfl, _, q3, _⟩ := q2
            simp only [Nat.sub_zero] at q3
            have hlen : es.length = arr.size := by have := hE.1; simpa using this
            have hil : i < arr.size := by rw [← hlen]; exact (List.getElem?_eq_some_iff.1 q3).1
            have hai : arr[i]? = some arr[i] := by simp [hil]
            have hkey : arr[i].key = uk := by
              have h2 := (hE.2 i e arr[i] q3 (by simp)).1
              have e3 := V.same_eq _ _ hsame
              rw [← e3] at h2
              exact keyExact_eq 50 k _ _ h2 hk hf1.2
            have hstay : (Instr.keyThatStays (((arr[i]?).map (·.key)).getD uk) uk).run P w = .ok uk w := by
              rw [hai]
              simp only [Option.map_some, Option.getD_some, hkey, Instr.keyThatStays]
              rw [keyExact_bits 50 10000 (by decide) k uk hk hf1.2]
              rfl
            refine ⟨_, ?_, H.setObj (o := .map (arr.modify i fun e => { e with key := uk, val := uv }) c) hg hL (fun _ _ _ _ hh => by cases hh) (fun _ _ _ _ hh => by cases hh) hN no ⟨L, hL, hN, _, hput _, by simp; omega, fun j a b ha hb => ?_⟩⟩
            · rw [start]
              simp only [Sem.run_bind, keyFine_sound _ 50 10000 (by decide) kt k uk hk hf1.1, q1, Result.andThen_ok, hstay, Go.MapKept.run_setObj_map _ h1]
            · rw [Array.getElem?_modify] at hb
              rw [List.getElem?_set] at ha
              by_cases hij : i = j
              · subst hij
                rw [if_pos rfl, hai] at hb
                rw [if_pos rfl, if_pos (by omega)] at ha
                simp only [Option.map_some, Option.some.injEq] at hb ha
                subst hb ha
                exact ⟨hk, hv⟩
              · rw [if_neg hij] at hb ha
                exact hE.2 j a b ha (by simpa using hb)
        · cases hs
      · cases hs
    · cases hs
  · cases hs

/-- how many entries a map has -/
def opLenMap (P : Program) (h : Hp) (argTypes : Array TypeId) (a : V) : Option V :=
  match argTypes[0]? with
  | some T => match P.underlying T, entriesOf h a with
    | some (.map _ _), some es => some (.int .i64 es.length)
    | _, _ => none
  | none => none

theorem opLenMap_sound (H : Rel Γ N0 w0 ρ h w) {argTypes : Array TypeId} {a x : V} {u : Value} {T : TypeId} (ha : VR ρ a u) (hs : opLenMap P h argTypes a = some x) :
    ∃ y, (Builtin.len_ argTypes T #[u]).run P w = .ok y w ∧ VR ρ x y := by
  unfold opLenMap at hs
  split at hs
  · rename_i T' hT
    split at hs
    · rename_i kt et es hu hes
      simp only [Option.some.injEq] at hs; subst hs
      unfold entriesOf at hes
      split at hes
      · simp only [Option.some.injEq] at hes; subst hes
        cases ha
        refine ⟨.int .i64 0, ?_, .int _ _⟩
        simp [Builtin.len_, hT, run_underlying hu, Result.andThen, goInt]
      · rename_i b
        split at hes
        · rename_i es' c hg
          simp only [Option.some.injEq] at hes; subst hes
          cases ha with
          | mp _ L hL =>
          obtain ⟨arr, h1, h2, _⟩ := entries_blk H hg hL
          have hlen : es'.length = arr.size := by have := h2.1; simpa using this
          refine ⟨.int .i64 arr.size, ?_, by rw [hlen]; exact .int _ _⟩
          simp [Builtin.len_, hT, run_underlying hu, Result.andThen, goInt, Go.MapKept.run_getObj_map h1]
        · cases hes
      · cases hes
    · cases hs
  · cases hs

end
end Go.Proofs.YtinaapfnfiijnaaGreatDoor.HM
