/- The heap machine: maps. -/
import Derived.Test.YtbfdgdigaiimgaaDoorH7
import Derived.Test.YtbfdgdigaiimgaaDoorHV
import Derived.MapKept
import Derived.WideKeyRuns
namespace Go.Proofs.YtbfdgdigaiimgaaDoor.HM
open Go Go.RowKit

/-! ## Keys that may be keys -/

def partFine (P : Program) (rec : TypeId → V → Bool) (T : TypeId) (cs : List V) (off : Nat) : Bool :=
  match szOf P T, isAggT P T with
  | some sz, some ag => match vpart cs off sz ag with
    | some x => rec T x
    | none => false
  | _, _ => false

def keyFine (P : Program) : Nat → TypeId → V → Bool
  | 0, _, _ => false
  | d + 1, T, v => match P.underlying T, v with
    | some (.interface _), _ => false
    | some (.array n e), .agg cs => match szOf P e with
      | some sz => (List.range' 0 n).all fun i => partFine P (keyFine P d) e cs (i * sz)
      | none => false
    | some (.struct fs), .agg cs => fs.toList.all fun f => if f.name ≠ "_" then partFine P (keyFine P d) f.type cs f.offset else true
    | some (.array _ _), _ => false
    | some (.struct _), _ => false
    | some _, _ => true
    | none, _ => false

def keyExact : Nat → V → Bool
  | 0, _ => false
  | _ + 1, .bool _ => true
  | _ + 1, .int _ _ => true
  | _ + 1, .str _ => true
  | _ + 1, .nilp => true
  | _ + 1, .ptr _ _ => true
  | _ + 1, .gp _ _ => true
  | d + 1, .agg cs => cs.all (keyExact d)
  | _, _ => false

section
variable {P : Program} {Γ : Glob} {N0 : Nat} {w0 : Fr} {ρ : Ren} {h : Hp} {w : World}

theorem partFine_run {rec : TypeId → V → Bool} {em : Bool} {m : Nat} (hrec : ∀ T v u, VR ρ v u → rec T v = true → (Instr.checkKey em m T u).run P w = .ok () w) {T : TypeId} {cs : List V} {arr : Array Value} {off : Nat} (hc : VRs ρ cs arr.toList)
    (h : partFine P rec T cs off = true) : ∃ y, (part T arr off).run P w = .ok y w ∧ (Instr.checkKey em m T y).run P w = .ok () w := by
  unfold partFine at h
  split at h
  · rename_i sz ag hs hg
    split at h
    · rename_i x hx
      obtain ⟨y, h1, h2⟩ := vpart_sound (w := w) hc hs hg hx
      exact ⟨y, h1, hrec _ _ _ h2 h⟩
    · cases h
  · cases h

theorem keyFine_sound (em : Bool) : ∀ (d m : Nat), d ≤ m → ∀ (T : TypeId) (v : V) (u : Value), VR ρ v u → keyFine P d T v = true → (Instr.checkKey em m T u).run P w = .ok () w := by
  intro d
  induction d with
  | zero => intro m _ T v u _ h; cases h
  | succ d ih =>
    intro m hm T v u hv h
    obtain ⟨m, rfl⟩ : ∃ k, m = k + 1 := ⟨m - 1, by omega⟩
    have ih' := fun T v u => ih m (by omega) T v u
    simp only [keyFine] at h
    split at h
    · cases h
    · rename_i n e cs hT
      obtain ⟨us, rfl, hus⟩ := hv.agg_inv
      split at h
      · rename_i sz hz
        rw [Instr.checkKey]
        simp only [Sem.run_bind, run_underlying hT, Result.andThen_ok]
        simp only [Std.Legacy.Range.forIn_eq_forIn_range', Std.Legacy.Range.size, Nat.sub_zero, Nat.add_one_sub_one, Nat.div_one]
        have each : ∀ i ∈ List.range' 0 n, partFine P (keyFine P d) e cs (i * sz) = true := fun i hi => List.all_eq_true.1 h i hi
        clear h
        generalize List.range' 0 n = is at each
        induction is with
        | nil => simp
        | cons j is ihl =>
          obtain ⟨y, p1, p2⟩ := partFine_run (em := em) (m := m) (fun T v u h1 h2 => ih' T v u h1 h2) hus (each j (by simp))
          simp only [List.forIn_cons, Sem.run_bind, run_sizeOf hz, Result.andThen_ok, p1, p2, Sem.run_pure]
          exact ihl (fun y hy => each y (by simp [hy]))
      · cases h
    · rename_i fs cs hT
      obtain ⟨us, rfl, hus⟩ := hv.agg_inv
      rw [Instr.checkKey]
      simp only [Sem.run_bind, run_underlying hT, Result.andThen_ok]
      have each : ∀ f ∈ fs.toList, (if f.name ≠ "_" then partFine P (keyFine P d) f.type cs f.offset else true) = true := fun f hf => List.all_eq_true.1 h f hf
      clear h
      rw [← Array.forIn_toList]
      generalize fs.toList = l at each
      induction l with
      | nil => simp
      | cons f l ihl =>
        have h0 := each f (by simp)
        simp only [List.forIn_cons, Sem.run_bind]
        by_cases hn : f.name ≠ "_"
        · rw [if_pos hn] at h0
          obtain ⟨y, p1, p2⟩ := partFine_run (em := em) (m := m) (fun T v u h1 h2 => ih' T v u h1 h2) hus h0
          rw [if_pos hn]
          simp only [Sem.run_bind, Result.andThen_ok, p1, p2, Sem.run_pure]
          exact ihl (fun y hy => each y (by simp [hy]))
        · rw [if_neg hn]
          simp only [Sem.run_pure, Result.andThen_ok]
          exact ihl (fun y hy => each y (by simp [hy]))
    · cases h
    · cases h
    · rename_i k _ _ _ _ _ _
      have hT : P.underlying T = some k := by assumption
      rw [Instr.checkKey]
      simp only [Sem.run_bind, run_underlying hT, Result.andThen_ok]
      cases k <;> first
        | (exfalso; simp_all; done)
        | (cases u <;> rfl)
    · cases h

theorem keyExact_eq : ∀ (d : Nat) (v : V) (u u' : Value), VR ρ v u → VR ρ v u' → keyExact d v = true → u = u' := by
  intro d
  induction d with
  | zero => intro v u u' _ _ h; cases h
  | succ d ih =>
    intro v u u' h1 h2 h
    cases v with
    | bool b => cases h1; cases h2; rfl
    | int k n => cases h1; cases h2; rfl
    | str l => cases h1; cases h2; rfl
    | nilp => cases h1; cases h2; rfl
    | ptr a o =>
      obtain ⟨L, e1, rfl⟩ := h1.ptr_inv
      obtain ⟨M, e2, rfl⟩ := h2.ptr_inv
      rw [e1] at e2; cases e2; rfl
    | gp g o => cases h1; cases h2; rfl
    | agg cs =>
      obtain ⟨us, rfl, hus⟩ := h1.agg_inv
      obtain ⟨vs, rfl, hvs⟩ := h2.agg_inv
      have hall : ∀ x ∈ cs, keyExact d x = true := fun x hx => List.all_eq_true.1 h x hx
      congr 1
      apply Array.toList_inj.1
      apply List.ext_getElem?
      intro i
      cases hc : cs[i]? with
      | none =>
        rw [List.getElem?_eq_none_iff] at hc
        rw [List.getElem?_eq_none (by rw [← hus.1]; exact hc), List.getElem?_eq_none (by rw [← hvs.1]; exact hc)]
      | some x =>
        obtain ⟨y, hy, q1⟩ := hus.get hc
        obtain ⟨z, hz, q2⟩ := hvs.get hc
        rw [hy, hz, ih x y z q1 q2 (hall x (List.mem_of_getElem? hc))]
    | _ => cases h

theorem keyExact_bits : ∀ (d m : Nat), d ≤ m → ∀ (v : V) (u : Value), VR ρ v u → keyExact d v = true → Instr.sameBits m u u = true := by
  intro d
  induction d with
  | zero => intro m _ v u _ h; cases h
  | succ d ih =>
    intro m hm v u h1 h
    obtain ⟨m, rfl⟩ : ∃ k, m = k + 1 := ⟨m - 1, by omega⟩
    cases v with
    | bool b => cases h1; simp [Instr.sameBits]
    | int k n => cases h1; simp [Instr.sameBits]
    | str l =>
      cases h1
      simp only [Instr.sameBits]
      exact (bytes_beq l l).trans (by simp)
    | nilp => cases h1; simp [Instr.sameBits]
    | ptr a o => obtain ⟨L, e1, rfl⟩ := h1.ptr_inv; simp [Instr.sameBits]
    | gp g o => cases h1; simp [Instr.sameBits]
    | agg cs =>
      obtain ⟨us, rfl, hus⟩ := h1.agg_inv
      have hall : ∀ x ∈ cs, keyExact d x = true := fun x hx => List.all_eq_true.1 h x hx
      simp only [Instr.sameBits, beq_self_eq_true, Bool.true_and, List.all_eq_true]
      rintro ⟨a, b⟩ hab
      obtain ⟨i, hi⟩ := List.mem_iff_getElem?.1 hab
      obtain ⟨ha, hb⟩ := List.getElem?_zip_eq_some.1 hi
      simp only at ha hb
      rw [ha] at hb
      simp only [Option.some.injEq] at hb; subst hb
      have hlt : i < cs.length := by rw [hus.1]; exact (List.getElem?_eq_some_iff.1 ha).1
      obtain ⟨y, hy, q⟩ := hus.get (List.getElem?_eq_getElem hlt)
      rw [ha] at hy
      simp only [Option.some.injEq] at hy; subst hy
      exact ih m (by omega) _ _ q (hall _ (List.getElem_mem hlt))
    | _ => cases h

/-! ## Finding -/

def sameV : TypeDesc → V → V → Option Bool
  | .int _, .int k m, .int k' n => if k = k' then some (m == n) else none
  | .string, .str a, .str b => some (decide (a = b))
  | .bool, .bool a, .bool b => some (a == b)
  | _, _, _ => none

theorem sameV_sound {d : TypeDesc} {a b : V} {u v : Value} {t : Bool} (ha : VR ρ a u) (hb : VR ρ b v) (h : sameV d a b = some t) : Instr.sameNow d u v = some t := by
  unfold sameV at h
  split at h
  · cases ha; cases hb; exact h
  · rename_i x y
    cases ha; cases hb
    simp only [Option.some.injEq] at h; subst h
    simp only [Instr.sameNow, Option.some.injEq]
    exact bytes_beq x y
  · cases ha; cases hb; exact h
  · cases h

def findN (d : TypeDesc) (k : V) : List (V × V) → Nat → Option (Option (Nat × V × V))
  | [], _ => some none
  | e :: es, i => match sameV d k e.1 with
    | some true => some (some (i, e))
    | some false => findN d k es (i + 1)
    | none => none

def findA (P : Program) (kt : TypeId) (k : V) : List (V × V) → Nat → Option (Option (Nat × V × V))
  | [], _ => some none
  | e :: es, i => match veq P 50 kt k e.1 with
    | some true => some (some (i, e))
    | some false => findA P kt k es (i + 1)
    | none => none

def findV (P : Program) (kt : TypeId) (k : V) (es : List (V × V)) : Option (Option (Nat × V × V)) :=
  match P.underlying kt with
  | some (.int q) => findN (.int q) k es 0
  | some .string => findN .string k es 0
  | some .bool => findN .bool k es 0
  | some (.struct _) => findA P kt k es 0
  | some (.array _ _) => findA P kt k es 0
  | _ => none

/-- entries and entries -/
def EsR (ρ : Ren) (es : List (V × V)) (l : List MapEntry) : Prop := es.length = l.length ∧ ∀ (i : Nat) k e, es[i]? = some k → l[i]? = some e → VR ρ k.1 e.key ∧ VR ρ k.2 e.val

theorem EsR.tail {k : V × V} {es : List (V × V)} {e : MapEntry} {l : List MapEntry} (h : EsR ρ (k :: es) (e :: l)) : (VR ρ k.1 e.key ∧ VR ρ k.2 e.val) ∧ EsR ρ es l :=
  ⟨h.2 0 k e rfl rfl, by have := h.1; simpa using this, fun i a b ha hb => h.2 (i + 1) a b (by simpa using ha) (by simpa using hb)⟩

/-- what is found -/
def FoundR (ρ : Ren) (es : List (V × V)) (i0 : Nat) : Option (Nat × V × V) → Option (Nat × Value) → Prop
  | none, none => True
  | some (i, e), some (j, v) => i = j ∧ i0 ≤ i ∧ es[i - i0]? = some e ∧ VR ρ e.2 v
  | _, _ => False

theorem findN_sound {d : TypeDesc} {k : V} {u : Value} (hk : VR ρ k u) : ∀ (es : List (V × V)) (l : List MapEntry) (i : Nat) (r : Option (Nat × V × V)), EsR ρ es l → findN d k es i = some r →
    ∃ r', Instr.findNow d u l i = some r' ∧ FoundR ρ es i r r' := by
  intro es
  induction es with
  | nil =>
    intro l i r he h
    obtain rfl : l = [] := by have := he.1; cases l with | nil => rfl | cons _ _ => simp at this
    cases h
    exact ⟨none, rfl, trivial⟩
  | cons e es ih =>
    intro l i r he h
    cases l with
    | nil => have := he.1; simp at this
    | cons x l =>
      obtain ⟨⟨q1, q2⟩, q3⟩ := he.tail
      simp only [findN] at h
      split at h
      · rename_i hs
        simp only [Option.some.injEq] at h; subst h
        exact ⟨some (i, x.val), by simp only [Instr.findNow, sameV_sound hk q1 hs], rfl, Nat.le_refl _, by simp, q2⟩
      · rename_i hs
        obtain ⟨r', h1, h2⟩ := ih l (i + 1) r q3 h
        refine ⟨r', by simp only [Instr.findNow, sameV_sound hk q1 hs, h1], ?_⟩
        cases r with
        | none => cases r' with
          | none => trivial
          | some p' => exact h2
        | some p =>
          cases r' with
          | none => exact h2
          | some p' =>
            obtain ⟨a1, a2, a3, a4⟩ := h2
            exact ⟨a1, by omega, by rw [show p.1 - i = (p.1 - (i + 1)) + 1 by omega]; simpa using a3, a4⟩
      · cases h

theorem findA_sound {kt : TypeId} {k : V} {u : Value} (hk : VR ρ k u) : ∀ (es : List (V × V)) (l : List MapEntry) (i : Nat) (r : Option (Nat × V × V)), EsR ρ es l → findA P kt k es i = some r →
    ∃ r', (Instr.findAsking kt u l i).run P w = .ok r' w ∧ FoundR ρ es i r r' := by
  intro es
  induction es with
  | nil =>
    intro l i r he h
    obtain rfl : l = [] := by have := he.1; cases l with | nil => rfl | cons _ _ => simp at this
    cases h
    exact ⟨none, rfl, trivial⟩
  | cons e es ih =>
    intro l i r he h
    cases l with
    | nil => have := he.1; simp at this
    | cons x l =>
      obtain ⟨⟨q1, q2⟩, q3⟩ := he.tail
      simp only [findA] at h
      have run : ∀ t, veq P 50 kt k e.1 = some t → (Op.equal kt u x.key).run P w = .ok t w := fun t ht => veq_sound 50 _ (by decide) kt k e.1 u x.key t hk q1 ht
      split at h
      · rename_i hs
        simp only [Option.some.injEq] at h; subst h
        refine ⟨some (i, x.val), ?_, rfl, Nat.le_refl _, by simp, q2⟩
        simp only [Instr.findAsking, Sem.run_bind, run _ hs, Result.andThen_ok]
        rfl
      · rename_i hs
        obtain ⟨r', h1, h2⟩ := ih l (i + 1) r q3 h
        refine ⟨r', ?_, ?_⟩
        · simp only [Instr.findAsking, Sem.run_bind, run _ hs, Result.andThen_ok]
          exact h1
        · cases r with
          | none => cases r' with
            | none => trivial
            | some p' => exact h2
          | some p =>
            cases r' with
            | none => exact h2
            | some p' =>
              obtain ⟨a1, a2, a3, a4⟩ := h2
              exact ⟨a1, by omega, by rw [show p.1 - i = (p.1 - (i + 1)) + 1 by omega]; simpa using a3, a4⟩
      · cases h

theorem findV_sound {kt : TypeId} {k : V} {u : Value} (hk : VR ρ k u) {es : List (V × V)} {l : List MapEntry} {r : Option (Nat × V × V)} (he : EsR ρ es l) (h : findV P kt k es = some r) :
    ∃ r', (Instr.findKey kt u l).run P w = .ok r' w ∧ FoundR ρ es 0 r r' := by
  have now : ∀ d, P.underlying kt = some d → findN d k es 0 = some r → ∃ r', (Instr.findKey kt u l).run P w = .ok r' w ∧ FoundR ρ es 0 r r' := by
    intro d hd hf
    obtain ⟨r', h1, h2⟩ := findN_sound hk es l 0 r he hf
    exact ⟨r', Go.MapKept.run_findKey hd h1, h2⟩
  unfold findV at h
  split at h
  · rename_i q hd; exact now _ hd h
  · rename_i hd; exact now _ hd h
  · rename_i hd; exact now _ hd h
  · rename_i fs hd
    obtain ⟨r', h1, h2⟩ := findA_sound (P := P) (w := w) hk es l 0 r he h
    exact ⟨r', by rw [run_findKey_eq (w := w) (by rw [hd])]; exact h1, h2⟩
  · rename_i n e hd
    obtain ⟨r', h1, h2⟩ := findA_sound (P := P) (w := w) hk es l 0 r he h
    exact ⟨r', by rw [run_findKey_eq (w := w) (by rw [hd])]; exact h1, h2⟩
  · cases h


/-! ## The operations -/

def opMakeMap (h : Hp) : V × Option Hp := (.mp h.next, some (h.newObj (.mapo [] 0)))

theorem opMakeMap_sound (H : Rel Γ N0 w0 ρ h w) {T : TypeId} {r : Option Value} (hr : ∀ u, r = some u → ∃ k n, u = .int k n ∧ ∃ a b, P.underlying T = some (.map a b)) : Good Γ N0 w0 ρ h (opMakeMap h).1 (opMakeMap h).2 ((Instr.makeMap T r).run P w) := by
  have hb : BlkR (setR ρ h.next ⟨w.heap.size, 0, 0⟩) N0 (World.new w (.map #[] 0)) h.next (.mapo [] 0) :=
    ⟨⟨w.heap.size, 0, 0⟩, by simp [setR], Nat.le_trans H.hN0 H.below.size, #[], [], new_heap_new _ _, ⟨fun x hx => by simp at hx, by simp⟩, fun _ => rfl, .refl _, rfl, fun i k e hk => by simp at hk⟩
  refine ⟨.map (some w.heap.size), _, _, ?_, setR_ext (H.fresh _ (Nat.le_refl _)), H.newObj (fun _ _ _ _ hh => by cases hh) hb, .mp _ ⟨w.heap.size, 0, 0⟩ (by simp [setR])⟩
  cases r with
  | none =>
    simp only [Instr.makeMap, Sem.run_bind, Sem.run_pure, Result.andThen_ok, newObj, Sem.run]
    rfl
  | some u =>
    obtain ⟨k, n, rfl, a, b, hT⟩ := hr u rfl
    simp only [Instr.makeMap, Sem.run_bind, run_underlying hT, asInt, Sem.run_pure, Result.andThen_ok, newObj, Sem.run]
    rfl

/-- a map's entries -/
def entriesOf (h : Hp) : V → Option (List (V × V))
  | .nilmap => some []
  | .mp a => match h.t.get a with
    | some (.mapo es c) => match Nat.beq (c % 2) 0 with
      | true => some es
      | false => none
    | _ => none
  | _ => none

/-- the entries of a map of which the order is not known -/
def entriesU (h : Hp) : V → Option (List (V × V))
  | .mp a => match h.t.get a with
    | some (.mapo es _) => some es
    | _ => none
  | _ => none

theorem entries_perm (H : Rel Γ N0 w0 ρ h w) {a : Nat} {es : List (V × V)} {c : Nat} (hg : h.t.get a = some (.mapo es c)) {L : Loc} (hL : ρ a = some L) :
    ∃ (arr : Array MapEntry) (es0 : List (V × V)), w.heap[L.b]? = some (.map arr (c / 2)) ∧ es0.Perm es ∧ EsR ρ es0 arr.toList := by
  obtain ⟨M, hM, hN, arr, es0, h1, hbo, hp, hq, h2, h3⟩ := (H.blk a _ (some_ne (by assumption)) hg).ex
  rw [hL] at hM; simp only [Option.some.injEq] at hM; subst hM
  exact ⟨arr, es0, h1, hq, ⟨by simpa using h2, fun i k e hk he => h3 i k e hk (by simpa using he)⟩⟩

theorem entries_blk (H : Rel Γ N0 w0 ρ h w) {a : Nat} {es : List (V × V)} {c : Nat} (hg : h.t.get a = some (.mapo es c)) (hc : Nat.beq (c % 2) 0 = true) {L : Loc} (hL : ρ a = some L) :
    ∃ arr : Array MapEntry, w.heap[L.b]? = some (.map arr (c / 2)) ∧ EsR ρ es arr.toList ∧ N0 ≤ L.b ∧ BornOk arr (c / 2) := by
  obtain ⟨M, hM, hN, arr, es0, h1, hbo, hp, hq, h2, h3⟩ := (H.blk a _ (some_ne (by assumption)) hg).ex
  rw [hL] at hM; simp only [Option.some.injEq] at hM; subst hM
  obtain rfl := hp (Nat.eq_of_beq_eq_true hc)
  exact ⟨arr, h1, ⟨by simpa using h2, fun i k e hk he => h3 i k e hk (by simpa using he)⟩, hN, hbo⟩

/-- the one entry that is found, wherever it stands -/
def lookU (P : Program) (kt : TypeId) (k : V) : List (V × V) → Option (Option (V × V))
  | [] => some none
  | e :: r => match findV P kt k [e], lookU P kt k r with
    | some none, some x => some x
    | some (some _), some none => some (some e)
    | _, _ => none

theorem findN_cons {d : TypeDesc} {k : V} (e : V × V) : ∀ (es : List (V × V)) (i : Nat), (findN d k [e] 0 = some none → findN d k (e :: es) i = findN d k es (i + 1)) ∧ (∀ j x, findN d k [e] 0 = some (some (j, x)) → findN d k (e :: es) i = some (some (i, e))) := by
  intro es i
  simp only [findN]
  cases sameV d k e.1 with
  | none => exact ⟨fun h => by simp at h, fun j x h => by simp at h⟩
  | some t => cases t with
    | true => exact ⟨fun h => by simp at h, fun j x h => by simp⟩
    | false => exact ⟨fun h => by simp, fun j x h => by simp at h⟩

theorem findA_cons {kt : TypeId} {k : V} (e : V × V) : ∀ (es : List (V × V)) (i : Nat), (findA P kt k [e] 0 = some none → findA P kt k (e :: es) i = findA P kt k es (i + 1)) ∧ (∀ j x, findA P kt k [e] 0 = some (some (j, x)) → findA P kt k (e :: es) i = some (some (i, e))) := by
  intro es i
  simp only [findA]
  cases veq P 50 kt k e.1 with
  | none => exact ⟨fun h => by simp at h, fun j x h => by simp at h⟩
  | some t => cases t with
    | true => exact ⟨fun h => by simp at h, fun j x h => by simp⟩
    | false => exact ⟨fun h => by simp, fun j x h => by simp at h⟩

/-- the search, wherever it begins to count -/
def findF (P : Program) (kt : TypeId) (k : V) (es : List (V × V)) (i : Nat) : Option (Option (Nat × V × V)) :=
  match P.underlying kt with
  | some (.int q) => findN (.int q) k es i
  | some .string => findN .string k es i
  | some .bool => findN .bool k es i
  | some (.struct _) => findA P kt k es i
  | some (.array _ _) => findA P kt k es i
  | _ => none

theorem findF_zero {kt : TypeId} {k : V} {es : List (V × V)} : findF P kt k es 0 = findV P kt k es := rfl

theorem findF_cons {kt : TypeId} {k : V} (e : V × V) (es : List (V × V)) (i : Nat) : (findV P kt k [e] = some none → findF P kt k (e :: es) i = findF P kt k es (i + 1)) ∧ (∀ j x, findV P kt k [e] = some (some (j, x)) → findF P kt k (e :: es) i = some (some (i, e))) := by
  unfold findV findF
  split <;> first
    | exact findN_cons e es i
    | exact findA_cons e es i
    | exact ⟨fun h => (by cases h), fun j x h => (by cases h)⟩

theorem findF_nil {kt : TypeId} {k : V} {e : V × V} (h : ∃ r, findV P kt k [e] = some r) (i : Nat) : findF P kt k [] i = some none := by
  obtain ⟨r, h⟩ := h
  unfold findV at h
  unfold findF
  split at h <;> first | rfl | cases h

theorem findF_miss {kt : TypeId} {k : V} : ∀ (es : List (V × V)) (i : Nat), (∀ e ∈ es, findV P kt k [e] = some none) → (es = [] → findF P kt k [] i = some none) → findF P kt k es i = some none := by
  intro es
  induction es with
  | nil => intro i _ h; exact h rfl
  | cons e es ih =>
    intro i h _
    have h0 := h e List.mem_cons_self
    rw [(findF_cons e es i).1 h0]
    exact ih (i + 1) (fun x hx => h x (List.mem_cons_of_mem _ hx)) fun _ => findF_nil ⟨_, h0⟩ _

theorem findF_hit {kt : TypeId} {k : V} {e : V × V} {j : Nat} {x : V × V} (he : findV P kt k [e] = some (some (j, x))) : ∀ (m1 m2 : List (V × V)) (i : Nat), (∀ e ∈ m1, findV P kt k [e] = some none) → findF P kt k (m1 ++ e :: m2) i = some (some (i + m1.length, e)) := by
  intro m1
  induction m1 with
  | nil => intro m2 i _; exact (findF_cons e m2 i).2 _ _ he
  | cons a m1 ih =>
    intro m2 i h
    rw [List.cons_append, (findF_cons a (m1 ++ e :: m2) i).1 (h a List.mem_cons_self), ih m2 (i + 1) (fun x hx => h x (List.mem_cons_of_mem _ hx))]
    simp only [List.length_cons]
    rw [show i + 1 + m1.length = i + (m1.length + 1) by omega]

theorem lookU_spec {kt : TypeId} {k : V} : ∀ (es : List (V × V)) (r : Option (V × V)), lookU P kt k es = some r → match r with
    | none => ∀ e ∈ es, findV P kt k [e] = some none
    | some e => (∃ p, findV P kt k [e] = some (some p)) ∧ ∃ l1 l2, es = l1 ++ e :: l2 ∧ ∀ x ∈ l1 ++ l2, findV P kt k [x] = some none := by
  intro es
  induction es with
  | nil => intro r h; cases h; intro e he; cases he
  | cons a es ih =>
    intro r h
    simp only [lookU] at h
    split at h
    · rename_i x h1 h2
      simp only [Option.some.injEq] at h; subst h
      have := ih _ h2
      cases x with
      | none =>
        intro e he
        rcases List.mem_cons.1 he with rfl | he
        · exact h1
        · exact this e he
      | some e =>
        obtain ⟨p1, l1, l2, p2, p3⟩ := this
        refine ⟨p1, a :: l1, l2, by rw [p2]; rfl, fun x hx => ?_⟩
        rcases List.mem_cons.1 hx with rfl | hx
        · exact h1
        · exact p3 x hx
    · rename_i p h1 h2
      simp only [Option.some.injEq] at h; subst h
      exact ⟨⟨_, h1⟩, [], es, rfl, fun x hx => ih _ h2 x hx⟩
    · cases h

theorem lookU_find {kt : TypeId} {k : V} {es es0 : List (V × V)} (hp : es0.Perm es) (hne : es ≠ []) {r : Option (V × V)} (h : lookU P kt k es = some r) : ∃ q, findV P kt k es0 = some q ∧ q.map (·.2) = r := by
  have hs := lookU_spec es r h
  cases r with
  | none =>
    simp only at hs
    refine ⟨none, ?_, rfl⟩
    rw [← findF_zero]
    refine findF_miss es0 0 (fun e he => hs e (hp.mem_iff.1 he)) fun e0 => ?_
    subst e0
    exact absurd (List.nil_perm.1 hp) hne
  | some e =>
    obtain ⟨⟨p, h1⟩, l1, l2, h2, h3⟩ := hs
    have hmem : e ∈ es0 := hp.mem_iff.2 (by rw [h2]; simp)
    obtain ⟨m1, m2, h4⟩ := List.append_of_mem hmem
    have hp2 : (m1 ++ m2).Perm (l1 ++ l2) := by
      have q1 : (e :: (m1 ++ m2)).Perm (e :: (l1 ++ l2)) := by
        refine (List.perm_middle.symm.trans ?_).trans List.perm_middle
        rw [← h4, ← h2]; exact hp
      exact q1.cons_inv
    refine ⟨some (0 + m1.length, e), ?_, rfl⟩
    obtain ⟨j, x⟩ := p
    rw [h4, ← findF_zero]
    exact findF_hit h1 m1 m2 0 fun x hx => h3 x (hp2.mem_iff.1 (List.mem_append_left _ hx))

def okTup (ok : Bool) (v : V) (b : Bool) : V := match ok with
  | true => .tup [v, .bool b]
  | false => v

theorem okTup_VR {ok : Bool} {v : V} {u : Value} (h : VR ρ v u) (b : Bool) : VR ρ (okTup ok v b) (if ok = true then .tuple #[u, .bool b] else u) := by
  cases ok with
  | true => exact VRs.tup (.cons h (.cons (.bool b) (.nil _)))
  | false => exact h

def zeroV (P : Program) (T : TypeId) : Option V :=
  match zeroC P T, isAggT P T with
  | some [x], some false => some x
  | some xs, some true => some (.agg xs)
  | _, _ => none

def opLookup (P : Program) (h : Hp) (T : TypeId) (m k : V) (ok : Bool) : Option V :=
  match P.underlying T with
  | some (.map kt et) => match entriesOf h m with
    | some es => match keyFine P 50 kt k, findV P kt k es with
      | true, some (some (_, e)) => some (okTup ok e.2 true)
      | true, some none => match P.info? et with
        | some i => match i.zero with
          | some z => match constV z with
            | some v => some (okTup ok v false)
            | none => none
          | none => none
        | none => none
      | _, _ => none
    | none => match entriesU h m with
      | some es => match (keyFine P 50 kt k && !es.isEmpty), lookU P kt k es with
        | true, some (some e) => some (okTup ok e.2 true)
        | _, _ => none
      | none => none
  | _ => none

theorem opLookup_sound (H : Rel Γ N0 w0 ρ h w) {T : TypeId} {m k x : V} {um uk : Value} {ok : Bool} (hm : VR ρ m um) (hk : VR ρ k uk) (hs : opLookup P h T m k ok = some x) :
    ∃ y, (Instr.lookup T um uk ok).run P w = .ok y w ∧ VR ρ x y := by
  unfold opLookup at hs
  split at hs
  · rename_i kt et hT
    split at hs
    · rename_i es hes
      have key : ∃ arr : Array MapEntry, EsR ρ es arr.toList ∧ ∀ (g : Array MapEntry → Sem Value), (do
          let es ← match um with
            | .map none => pure #[]
            | .map (some r) => do
              let .map es _ ← getObj r | stuck "Lookup: map expected"
              pure es
            | _ => stuck "Lookup: map expected"
          g es : Sem Value).run P w = (g arr).run P w := by
        unfold entriesOf at hes
        split at hes
        · simp only [Option.some.injEq] at hes; subst hes
          cases hm
          exact ⟨#[], ⟨rfl, fun i a b ha => by simp at ha⟩, fun g => by simp only [Sem.run_bind, Sem.run_pure, Result.andThen_ok]⟩
        · rename_i a
          split at hes
          · rename_i es' c hg
            split at hes
            · rename_i hpar
              simp only [Option.some.injEq] at hes; subst hes
              cases hm with
              | mp _ L hL =>
              obtain ⟨arr, h1, h2, _⟩ := entries_blk H hg hpar hL
              exact ⟨arr, h2, fun g => by simp only [Sem.run_bind, Go.MapKept.run_getObj_map h1, Sem.run_pure, Result.andThen_ok]⟩
            · cases hes
          · cases hes
        · cases hes
      obtain ⟨arr, hE, hrun⟩ := key
      have start : (Instr.lookup T um uk ok).run P w = (do
          Instr.checkKey arr.isEmpty 10000 kt uk
          let (v, ok') ← match ← Instr.findKey kt uk arr.toList with
            | some (_, v) => pure (v, true)
            | none => pure (← zeroValue et, false)
          pure (if ok then .tuple #[v, .bool ok'] else v) : Sem Value).run P w := by
        unfold Instr.lookup
        rw [Sem.run_bind, run_underlying hT, Result.andThen_ok]
        exact hrun _
      rw [start]
      split at hs
      · rename_i i e hf1 hf2
        simp only [Option.some.injEq] at hs; subst hs
        obtain ⟨r', h1, h2⟩ := findV_sound (P := P) (w := w) hk hE hf2
        cases r' with
        | none => exact absurd h2 (by intro h; exact h)
        | some p =>
          obtain ⟨j, v⟩ := p
          obtain ⟨_, _, _, hv⟩ := h2
          refine ⟨_, ?_, okTup_VR hv true⟩
          simp only [Sem.run_bind, keyFine_sound _ 50 10000 (by decide) kt k uk hk hf1, h1, Result.andThen_ok, Sem.run_pure]
      · rename_i hf1 hf2
        obtain ⟨r', h1, h2⟩ := findV_sound (P := P) (w := w) hk hE hf2
        cases r' with
        | some p => exact absurd h2 (by intro h; exact h)
        | none =>
          split at hs
          · rename_i i hi
            split at hs
            · rename_i z hz
              split at hs
              · rename_i v hv
                simp only [Option.some.injEq] at hs; subst hs
                refine ⟨_, ?_, okTup_VR (constV_sound hv) false⟩
                simp only [Sem.run_bind, keyFine_sound _ 50 10000 (by decide) kt k uk hk hf1, h1, Result.andThen_ok, Sem.run_pure, zeroValue, run_typeInfo hi, hz]
              · cases hs
            · cases hs
          · cases hs
      · cases hs
    · -- in whatever order
      split at hs
      · rename_i es hes
        unfold entriesU at hes
        split at hes
        · rename_i a
          split at hes
          · rename_i es' c hg
            simp only [Option.some.injEq] at hes; subst hes
            cases hm with
            | mp _ L hL =>
            obtain ⟨arr, es0, h1, hp, hE⟩ := entries_perm H hg hL
            split at hs
            · rename_i e hf1 hf2
              simp only [Bool.and_eq_true] at hf1
              simp only [Option.some.injEq] at hs; subst hs
              obtain ⟨q, g1, g2⟩ := lookU_find hp (by intro h; rw [h] at hf1; simp at hf1) hf2
              obtain ⟨r', z1, z2⟩ := findV_sound (P := P) (w := w) hk hE g1
              cases q with
              | none => cases g2
              | some p =>
                simp only [Option.map_some, Option.some.injEq] at g2
                cases r' with
                | none => exact absurd z2 (by intro h; exact h)
                | some p' =>
                  obtain ⟨i, e'⟩ := p
                  obtain ⟨j, v⟩ := p'
                  simp only at g2; subst g2
                  obtain ⟨_, _, _, hv⟩ := z2
                  refine ⟨_, ?_, okTup_VR hv true⟩
                  unfold Instr.lookup
                  simp only [Sem.run_bind, run_underlying hT, Result.andThen_ok, Go.MapKept.run_getObj_map h1, Sem.run_pure, keyFine_sound _ 50 10000 (by decide) kt k uk hk hf1.1, z1]
            · cases hs
          · cases hes
        · cases hes
      · cases hs
  · cases hs

def opMapUpdate (P : Program) (h : Hp) (T : TypeId) (m k v : V) : Option Hp :=
  match P.underlying T, m with
  | some (.map kt _), .mp a => match h.t.get a with
    | some (.mapo es c) => match Nat.beq (c % 2) 0 && (keyFine P 50 kt k && keyExact 50 k), findV P kt k es with
      | true, some none => some ⟨h.next, h.t.put (some (.mapo (es ++ [(k, v)]) (c + 2))) a, h.fams, h.els⟩
      | true, some (some (i, e)) => match k.same e.1 with
        | true => some ⟨h.next, h.t.put (some (.mapo (es.set i (k, v)) c)) a, h.fams, h.els⟩
        | false => none
      | _, _ => none
    | _ => none
  | _, _ => none

theorem BornOk.push {arr : Array MapEntry} {c : Nat} {k v : Value} (h : BornOk arr c) : BornOk (arr.push { key := k, val := v, born := c }) (c + 1) := by
  refine ⟨fun x hx => ?_, ?_⟩
  · simp only [Array.toList_push, List.mem_append, List.mem_singleton] at hx
    rcases hx with hx | rfl
    · have := h.1 x hx; omega
    · exact Nat.lt_succ_self _
  · simp only [Array.toList_push, List.map_append, List.map_cons, List.map_nil]
    rw [List.nodup_append]
    refine ⟨h.2, by simp, fun a ha b hb => ?_⟩
    simp only [List.mem_singleton] at hb
    subst hb
    obtain ⟨x, hx, rfl⟩ := List.mem_map.1 ha
    have := h.1 x hx; omega

theorem BornOk.modify {arr : Array MapEntry} {c i : Nat} {k v : Value} (h : BornOk arr c) : BornOk (arr.modify i fun e => { e with key := k, val := v }) c := by
  have e : (arr.modify i fun e => { e with key := k, val := v }).toList.map (·.born) = arr.toList.map (·.born) := by
    apply List.ext_getElem?
    intro j
    simp only [List.getElem?_map, Array.getElem?_toList, Array.getElem?_modify]
    split
    · cases arr[j]? <;> rfl
    · rfl
  refine ⟨fun x hx => ?_, by rw [e]; exact h.2⟩
  have hm : x.born ∈ (arr.modify i fun e => { e with key := k, val := v }).toList.map (·.born) := List.mem_map.2 ⟨x, hx, rfl⟩
  rw [e] at hm
  obtain ⟨y, hy, he⟩ := List.mem_map.1 hm
  rw [← he]; exact h.1 y hy

theorem opMapUpdate_sound (H : Rel Γ N0 w0 ρ h w) {T : TypeId} {m k v : V} {um uk uv : Value} {h' : Hp} (hm : VR ρ m um) (hk : VR ρ k uk) (hv : VR ρ v uv) (hs : opMapUpdate P h T m k v = some h') :
    ∃ w', (Instr.mapUpdate T um uk uv).run P w = .ok () w' ∧ Rel Γ N0 w0 ρ h' w' := by
  unfold opMapUpdate at hs
  split at hs
  · rename_i kt et a hT
    cases hm with
    | mp _ L hL =>
    split at hs
    · rename_i es c hg
      have hpar : Nat.beq (c % 2) 0 = true := by
        cases hb : Nat.beq (c % 2) 0 with
        | true => rfl
        | false =>
          rw [hb] at hs
          simp only [Bool.false_and] at hs
          cases hs
      have hev : c % 2 = 0 := Nat.eq_of_beq_eq_true hpar
      rw [hpar, Bool.true_and] at hs
      obtain ⟨arr, h1, hE, hN, hbo⟩ := entries_blk H hg hpar hL
      have hlt : L.b < w.heap.size := H.lt _ _ hL
      have no : ∀ arr' el fr, w.heap[L.b]? ≠ some (.cells arr' el fr) := fun _ _ _ hh => by rw [h1] at hh; cases hh
      have hput : ∀ o, (w.heap.setIfInBounds L.b o)[L.b]? = some o := fun o => by simp [hlt]
      have start : (Instr.mapUpdate T (.map (some L.b)) uk uv).run P w = (do
          Instr.checkKey false 10000 kt uk
          match ← Instr.findKey kt uk arr.toList with
          | some (i, _) => do
            let key ← Instr.keyThatStays (((arr[i]?).map (·.key)).getD uk) uk
            setObj L.b (.map (arr.modify i fun e => { e with key, val := uv }) (c / 2))
          | none => setObj L.b (.map (arr.push { key := uk, val := uv, born := c / 2 }) (c / 2 + 1)) : Sem Unit).run P w := by
        unfold Instr.mapUpdate
        simp only [Sem.run_bind, run_underlying hT, Result.andThen_ok, Go.MapKept.run_getObj_map h1]
        rfl
      split at hs
      · rename_i hf1 hf2
        simp only [Option.some.injEq] at hs; subst hs
        simp only [Bool.and_eq_true] at hf1
        obtain ⟨r', q1, q2⟩ := findV_sound (P := P) (w := w) hk hE hf2
        cases r' with
        | some p => exact absurd q2 (by intro h; exact h)
        | none =>
          refine ⟨_, ?_, H.setObj (o := .map (arr.push { key := uk, val := uv, born := c / 2 }) (c / 2 + 1)) hg hL (fun _ _ _ _ hh => by cases hh) (fun _ _ _ _ hh => by cases hh) hN no ⟨L, hL, hN, _, es ++ [(k, v)], by rw [show (c + 2) / 2 = c / 2 + 1 by omega]; exact hput _, by rw [show (c + 2) / 2 = c / 2 + 1 by omega]; exact hbo.push, fun _ => rfl, .refl _, by have := hE.1; simp at this ⊢; omega, fun i a b ha hb => ?_⟩⟩
          · rw [start]
            simp only [Sem.run_bind, keyFine_sound _ 50 10000 (by decide) kt k uk hk hf1.1, q1, Result.andThen_ok, Go.MapKept.run_setObj_map _ h1]
          · have hlen : es.length = arr.size := by have := hE.1; simpa using this
            rw [Array.getElem?_push] at hb
            by_cases hi : i = arr.size
            · rw [if_pos hi] at hb
              simp only [Option.some.injEq] at hb; subst hb
              rw [List.getElem?_append_right (by omega), show i - es.length = 0 by omega] at ha
              simp only [List.getElem?_cons_zero, Option.some.injEq] at ha; subst ha
              exact ⟨hk, hv⟩
            · rw [if_neg hi] at hb
              have hi2 : i < arr.size := (Array.getElem?_eq_some_iff.1 hb).1
              rw [List.getElem?_append_left (by omega)] at ha
              exact hE.2 i a b ha (by simpa using hb)
      · rename_i i e hf1 hf2
        split at hs
        · rename_i hsame
          simp only [Option.some.injEq] at hs; subst hs
          simp only [Bool.and_eq_true] at hf1
          obtain ⟨r', q1, q2⟩ := findV_sound (P := P) (w := w) hk hE hf2
          cases r' with
          | none => exact absurd q2 (by intro h; exact h)
          | some p =>
            obtain ⟨j, v0⟩ := p
            obtain ⟨rfl, _, q3, _⟩ := q2
            simp only [Nat.sub_zero] at q3
            have hlen : es.length = arr.size := by have := hE.1; simpa using this
            have hil : i < arr.size := by rw [← hlen]; exact (List.getElem?_eq_some_iff.1 q3).1
            have hai : arr[i]? = some arr[i] := by simp [hil]
            have hkey : arr[i].key = uk := by
              have h2 := (hE.2 i e arr[i] q3 (by simp)).1
              have e3 := V.same_eq _ _ hsame
              rw [← e3] at h2
              exact keyExact_eq 50 k _ _ h2 hk hf1.2
            have hstay : (Instr.keyThatStays (((arr[i]?).map (·.key)).getD uk) uk).run P w = .ok uk w := by
              rw [hai]
              simp only [Option.map_some, Option.getD_some, hkey, Instr.keyThatStays]
              rw [keyExact_bits 50 10000 (by decide) k uk hk hf1.2]
              rfl
            refine ⟨_, ?_, H.setObj (o := .map (arr.modify i fun e => { e with key := uk, val := uv }) (c / 2)) hg hL (fun _ _ _ _ hh => by cases hh) (fun _ _ _ _ hh => by cases hh) hN no ⟨L, hL, hN, _, es.set i (k, v), hput _, hbo.modify, fun _ => rfl, .refl _, by simp; omega, fun j a b ha hb => ?_⟩⟩
            · rw [start]
              simp only [Sem.run_bind, keyFine_sound _ 50 10000 (by decide) kt k uk hk hf1.1, q1, Result.andThen_ok, hstay, Go.MapKept.run_setObj_map _ h1]
            · rw [Array.getElem?_modify] at hb
              rw [List.getElem?_set] at ha
              by_cases hij : i = j
              · subst hij
                rw [if_pos rfl, hai] at hb
                rw [if_pos rfl, if_pos (by omega)] at ha
                simp only [Option.map_some, Option.some.injEq] at hb ha
                subst hb ha
                exact ⟨hk, hv⟩
              · rw [if_neg hij] at hb ha
                exact hE.2 j a b ha (by simpa using hb)
        · cases hs
      · cases hs
    · cases hs
  · cases hs

/-- how many entries a map has -/
def opLenMap (P : Program) (h : Hp) (argTypes : Array TypeId) (a : V) : Option V :=
  match argTypes[0]? with
  | some T => match P.underlying T, entriesOf h a with
    | some (.map _ _), some es => some (.int .i64 es.length)
    | some (.map _ _), none => match entriesU h a with
      | some es => some (.int .i64 es.length)
      | none => none
    | _, _ => none
  | none => none

theorem opLenMap_sound (H : Rel Γ N0 w0 ρ h w) {argTypes : Array TypeId} {a x : V} {u : Value} {T : TypeId} (ha : VR ρ a u) (hs : opLenMap P h argTypes a = some x) :
    ∃ y, (Builtin.len_ argTypes T #[u]).run P w = .ok y w ∧ VR ρ x y := by
  unfold opLenMap at hs
  split at hs
  · rename_i T' hT
    split at hs
    · rename_i kt et es hu hes
      simp only [Option.some.injEq] at hs; subst hs
      unfold entriesOf at hes
      split at hes
      · simp only [Option.some.injEq] at hes; subst hes
        cases ha
        refine ⟨.int .i64 0, ?_, .int _ _⟩
        simp [Builtin.len_, hT, run_underlying hu, Result.andThen, goInt]
      · rename_i b
        split at hes
        · rename_i es' c hg
          split at hes
          · rename_i hpar
            simp only [Option.some.injEq] at hes; subst hes
            cases ha with
            | mp _ L hL =>
            obtain ⟨arr, h1, h2, _⟩ := entries_blk H hg hpar hL
            have hlen : es'.length = arr.size := by have := h2.1; simpa using this
            refine ⟨.int .i64 arr.size, ?_, by rw [hlen]; exact .int _ _⟩
            simp [Builtin.len_, hT, run_underlying hu, Result.andThen, goInt, Go.MapKept.run_getObj_map h1]
          · cases hes
        · cases hes
      · cases hes
    · rename_i kt et hu hes0
      split at hs
      · rename_i es hes
        simp only [Option.some.injEq] at hs; subst hs
        unfold entriesU at hes
        split at hes
        · rename_i b
          split at hes
          · rename_i es' c hg
            simp only [Option.some.injEq] at hes; subst hes
            cases ha with
            | mp _ L hL =>
            obtain ⟨arr, es0, h1, hp, hE⟩ := entries_perm H hg hL
            have hlen : es'.length = arr.size := by have := hE.1; rw [hp.length_eq] at this; simpa using this
            refine ⟨.int .i64 arr.size, ?_, by rw [hlen]; exact .int _ _⟩
            simp [Builtin.len_, hT, run_underlying hu, Result.andThen, goInt, Go.MapKept.run_getObj_map h1]
          · cases hes
        · cases hes
      · cases hs
    · cases hs
  · cases hs

/-- a slice's cells made zero -/
def opClear (P : Program) (h : Hp) (argTypes : Array TypeId) (v : V) : Option Hp :=
  match argTypes[0]? with
  | some T => match P.underlying T, v with
    | some (.slice _), .nils => some h
    | some (.slice e), .sl a o n sz => match n with
      | 0 => some h
      | n + 1 => match zeroC P e with
        | some zs => if zs.length = sz ∧ 0 < sz then h.write a o (zerosOf zs ((n + 1) * sz)) else none
        | none => none
    | _, _ => none
  | none => none

theorem opClear_sound (H : Rel Γ N0 w0 ρ h w) {argTypes : Array TypeId} {v : V} {u : Value} {T : TypeId} {h' : Hp} (hv : VR ρ v u) (hs : opClear P h argTypes v = some h') :
    Good Γ N0 w0 ρ h (.tup []) (some h') ((Builtin.clear_ argTypes T #[u]).run P w) := by
  unfold opClear at hs
  split at hs
  · rename_i T' hT
    split at hs
    · rename_i e hu
      simp only [Option.some.injEq] at hs; subst hs
      cases hv
      refine ⟨.tuple #[], w, ρ, ?_, .refl _, H, VRs.tup (.nil _)⟩
      simp [Builtin.clear_, hT, run_underlying hu, Result.andThen]
    · rename_i e a o n sz hu
      split at hs
      · simp only [Option.some.injEq] at hs; subst hs
        refine ⟨.tuple #[], w, ρ, ?_, .refl _, H, VRs.tup (.nil _)⟩
        cases hv <;> simp [Builtin.clear_, hT, run_underlying hu, Result.andThen]
      · rename_i n
        split at hs
        · rename_i zs hz
          split at hs
          · rename_i hc
            obtain ⟨hc1, hc2⟩ := hc
            obtain ⟨z, hzr, hzv⟩ := run_zeroValue (P := P) (w := w) hz
            have hsz : z.cells.size = sz := by have := (hzv ρ).1; simp at this; omega
            have hzs : VRs ρ (zerosOf zs ((n + 1) * sz)) ((Array.range ((n + 1) * sz)).map (z.cells[· % z.cells.size]!)).toList := zerosOf_VRs (hzv ρ) _ (.inr (by omega))
            cases hv with
            | sl _ _ _ _ c L hL hcap hlim =>
            obtain ⟨w', r1, r2, _⟩ := write_sound (P := P) H hs hzs hL
            refine ⟨.tuple #[], w', ρ, ?_, .refl _, r2, VRs.tup (.nil _)⟩
            have e1 : Builtin.zeroCells z.cells (n + 1) = (Array.range ((n + 1) * sz)).map (z.cells[· % z.cells.size]!) := by unfold Builtin.zeroCells; rw [hsz]
            have r1' := r1
            simp at r1'
            simp [Builtin.clear_, hT, run_underlying hu, Result.andThen, hzr, e1, r1']
          · cases hs
        · cases hs
    · cases hs
  · cases hs

end
end Go.Proofs.YtbfdgdigaiimgaaDoor.HM
