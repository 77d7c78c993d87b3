/- The heap machine: values that are surely the same. -/
import Derived.Test.YtkpoeilfnopgbaaGreatDoorPA
import Derived.Test.YtkpoeilfnopgbaaGreatDoorPC
import Derived.MapKept
import Derived.WideKeyRuns
namespace Go.Proofs.YtkpoeilfnopgbaaGreatDoor.HM
open Go Go.RowKit
variable [E : Amb]
omit [E : Amb] in
theorem nbq {a b : Nat} : (Nat.beq a b = true) ↔ a = b := ⟨Nat.eq_of_beq_eq_true, fun h => by subst h; exact Nat.beq_refl a⟩
mutual
def V.same : V → V → Bool
 | .bool a, y => match y with | .bool b => a == b | _ => false
 | .int k a, y => match y with | .int l b => decide (k = l) && decide (a = b) | _ => false
 | .str a, y => match y with | .str b => decide (a = b) | _ => false
 | .nilp, y => match y with | .nilp => true | _ => false
 | .anyp, y => match y with | .anyp => true | _ => false
 | .ptr a o, y => match y with | .ptr b p => Nat.beq a b && Nat.beq o p | _ => false
 | .gp a o, y => match y with | .gp b p => Nat.beq a b && Nat.beq o p | _ => false
 | .nils, y => match y with | .nils => true | _ => false
 | .sl a o n z, y => match y with | .sl b p m x => (Nat.beq a b && Nat.beq o p) && (Nat.beq n m && Nat.beq z x) | _ => false
 | .nilmap, y => match y with | .nilmap => true | _ => false
 | .mp a, y => match y with | .mp b => Nat.beq a b | _ => false
 | .nilfn, y => match y with | .nilfn => true | _ => false
 | .fn f x s, y => match y with | .fn g z t => Nat.beq f g && (V.sames x z && V.sames s t) | _ => false
 | .nilif, y => match y with | .nilif => true | _ => false
 | .iface t x, y => match y with | .iface s z => Nat.beq t s && x.same z | _ => false
 | .agg x, y => match y with | .agg z => V.sames x z | _ => false
 | .tup x, y => match y with | .tup z => V.sames x z | _ => false
 | .any, y => match y with | .any => true | _ => false
 | .mod m i, y => match y with | .mod n j => Nat.beq m n && Nat.beq i j | _ => false
 | .anyb, y => match y with | .anyb => true | _ => false
 | .lin k a x, y => match y with | .lin l b z => (decide (k = l) && decide (a = b)) && decide (x = z) | _ => false
 | .sstr x, y => match y with | .sstr z => V.sames x z | _ => false
 | .pl n s x, y => match y with | .pl m t z => (Nat.beq n m && Nat.beq s t) && V.sames x z | _ => false
 | .pp x, y => match y with | .pp z => V.sames x z | _ => false
 | .pk x, y => match y with | .pk z => x.same z | _ => false
def V.sames : List V → List V → Bool
 | [], l => match l with | [] => true | _ :: _ => false
 | x :: r, l => match l with | [] => false | y :: s => x.same y && V.sames r s
end
omit [E : Amb] in
mutual
theorem V.same_eq : ∀ (x y : V), x.same y = true → x = y
 | .bool a, y, h => by cases y <;> simp only [V.same, beq_iff_eq, Bool.false_eq_true] at h; rw [h]
 | .int k a, y, h => by cases y <;> simp only [V.same, Bool.and_eq_true, decide_eq_true_eq, Bool.false_eq_true] at h; rw [h.1, h.2]
 | .str a, y, h => by cases y <;> simp only [V.same, decide_eq_true_eq, Bool.false_eq_true] at h; rw [h]
 | .nilp, y, h => by cases y <;> simp only [V.same, Bool.false_eq_true] at h; rfl
 | .anyp, y, h => by cases y <;> simp only [V.same, Bool.false_eq_true] at h; rfl
 | .ptr a o, y, h => by cases y <;> simp only [V.same, Bool.and_eq_true, nbq, Bool.false_eq_true] at h; rw [h.1, h.2]
 | .gp a o, y, h => by cases y <;> simp only [V.same, Bool.and_eq_true, nbq, Bool.false_eq_true] at h; rw [h.1, h.2]
 | .nils, y, h => by cases y <;> simp only [V.same, Bool.false_eq_true] at h; rfl
 | .sl a o n z, y, h => by cases y <;> simp only [V.same, Bool.and_eq_true, nbq, Bool.false_eq_true] at h; rw [h.1.1, h.1.2, h.2.1, h.2.2]
 | .nilmap, y, h => by cases y <;> simp only [V.same, Bool.false_eq_true] at h; rfl
 | .mp a, y, h => by cases y <;> simp only [V.same, nbq, Bool.false_eq_true] at h; rw [h]
 | .nilfn, y, h => by cases y <;> simp only [V.same, Bool.false_eq_true] at h; rfl
 | .fn f x s, y, h => by cases y <;> simp only [V.same, Bool.and_eq_true, nbq, Bool.false_eq_true] at h; rw [h.1, V.sames_eq _ _ h.2.1, V.sames_eq _ _ h.2.2]
 | .nilif, y, h => by cases y <;> simp only [V.same, Bool.false_eq_true] at h; rfl
 | .iface t x, y, h => by cases y <;> simp only [V.same, Bool.and_eq_true, nbq, Bool.false_eq_true] at h; rw [h.1, V.same_eq _ _ h.2]
 | .agg x, y, h => by cases y <;> simp only [V.same, Bool.false_eq_true] at h; rw [V.sames_eq _ _ h]
 | .tup x, y, h => by cases y <;> simp only [V.same, Bool.false_eq_true] at h; rw [V.sames_eq _ _ h]
 | .any, y, h => by cases y <;> simp only [V.same, Bool.false_eq_true] at h; rfl
 | .mod m i, y, h => by cases y <;> simp only [V.same, Bool.and_eq_true, nbq, Bool.false_eq_true] at h; rw [h.1, h.2]
 | .anyb, y, h => by cases y <;> simp only [V.same, Bool.false_eq_true] at h; rfl
 | .lin k a x, y, h => by cases y <;> simp only [V.same, Bool.and_eq_true, decide_eq_true_eq, Bool.false_eq_true] at h; rw [h.1.1, h.1.2, h.2]
 | .sstr x, y, h => by cases y <;> simp only [V.same, Bool.false_eq_true] at h; rw [V.sames_eq _ _ h]
 | .pl n s x, y, h => by cases y <;> simp only [V.same, Bool.and_eq_true, nbq, Bool.false_eq_true] at h; rw [h.1.1, h.1.2, V.sames_eq _ _ h.2]
 | .pp x, y, h => by cases y <;> simp only [V.same, Bool.false_eq_true] at h; rw [V.sames_eq _ _ h]
 | .pk x, y, h => by cases y <;> simp only [V.same, Bool.false_eq_true] at h; rw [V.same_eq _ _ h]
theorem V.sames_eq : ∀ (x y : List V), V.sames x y = true → x = y
 | [], l, h => by cases l <;> simp only [V.sames, Bool.false_eq_true] at h; rfl
 | x :: r, l, h => by cases l <;> simp only [V.sames, Bool.and_eq_true, Bool.false_eq_true] at h; rw [V.same_eq _ _ h.1, V.sames_eq _ _ h.2]
end
def partFine (P : Program) (rec : TypeId → V → Bool) (T : TypeId) (cs : List V) (off : Nat) : Bool :=
 match szOf P T, isAggT P T with
 | some sz, some ag => match vpart cs off sz ag with
  | some x => rec T x
  | none => false
 | _, _ => false
def keyFine (P : Program) : Nat → TypeId → V → Bool
 | 0, _, _ => false
 | d + 1, T, v => match P.underlying T, v with
  | some (.interface _), _ => false
  | some (.array n e), .agg cs => match szOf P e with
   | some sz => (List.range' 0 n).all fun i => partFine P (keyFine P d) e cs (i * sz)
   | none => false
  | some (.struct fs), .agg cs => fs.toList.all fun f => if f.name ≠ "_" then partFine P (keyFine P d) f.type cs f.offset else true
  | some (.array _ _), _ => false
  | some (.struct _), _ => false
  | some _, _ => true
  | none, _ => false
def keyExact : Nat → V → Bool
 | 0, _ => false
 | _ + 1, .bool _ => true
 | _ + 1, .int _ _ => true
 | _ + 1, .str _ => true
 | _ + 1, .nilp => true
 | _ + 1, .ptr _ _ => true
 | _ + 1, .gp _ _ => true
 | d + 1, .agg cs => cs.all (keyExact d)
 | _, _ => false
section
variable {P : Program} {Γ : Glob} {N0 : Nat} {w0 : Fr} {ρ : Ren} {h : Hp} {w : World}
theorem partFine_run {rec : TypeId → V → Bool} {em : Bool} {m : Nat} (hrec : ∀ T v u, VR ρ v u → rec T v = true → (Instr.checkKey em m T u).run P w = .ok () w) {T : TypeId} {cs : List V} {arr : Array Value} {off : Nat} (hc : VRs ρ cs arr.toList)
  (h : partFine P rec T cs off = true) : ∃ y, (part T arr off).run P w = .ok y w ∧ (Instr.checkKey em m T y).run P w = .ok () w := by
 unfold partFine at h
 split at h
 ·rename_i sz ag hs hg
  split at h
  ·rename_i x hx
   obtain ⟨y, h1, h2⟩ := vpart_sound (w := w) hc hs hg hx
   exact ⟨y, h1, hrec _ _ _ h2 h⟩
  ·cases h
 ·cases h
theorem keyFine_sound (em : Bool) : ∀ (d m : Nat), d ≤ m → ∀ (T : TypeId) (v : V) (u : Value), VR ρ v u → keyFine P d T v = true → (Instr.checkKey em m T u).run P w = .ok () w := by
 intro d
 induction d with
 | zero => intro m _ T v u _ h; cases h
 | succ d ih =>
  intro m hm T v u hv h
  obtain ⟨m, rfl⟩ : ∃ k, m = k + 1 := ⟨m - 1, by omega⟩
  have ih' := fun T v u => ih m (by omega) T v u
  simp only [keyFine] at h
  split at h
  ·cases h
  ·rename_i n e cs hT
   obtain ⟨us, rfl, hus⟩ := hv.agg_inv
   split at h
   ·rename_i sz hz
    rw [Instr.checkKey]
    simp only [Sem.run_bind, run_underlying hT, Result.andThen_ok]
    simp only [Std.Legacy.Range.forIn_eq_forIn_range', Std.Legacy.Range.size, Nat.sub_zero, Nat.add_one_sub_one, Nat.div_one]
    have each : ∀ i ∈ List.range' 0 n, partFine P (keyFine P d) e cs (i * sz) = true := fun i hi => List.all_eq_true.1 h i hi
    clear h
    generalize List.range' 0 n = is at each
    induction is with
    | nil => simp
    | cons j is ihl =>
     obtain ⟨y, p1, p2⟩ := partFine_run (em := em) (m := m) (fun T v u h1 h2 => ih' T v u h1 h2) hus (each j (by simp))
     simp only [List.forIn_cons, Sem.run_bind, run_sizeOf hz, Result.andThen_ok, p1, p2, Sem.run_pure]
     exact ihl (fun y hy => each y (by simp [hy]))
   ·cases h
  ·rename_i fs cs hT
   obtain ⟨us, rfl, hus⟩ := hv.agg_inv
   rw [Instr.checkKey]
   simp only [Sem.run_bind, run_underlying hT, Result.andThen_ok]
   have each : ∀ f ∈ fs.toList, (if f.name ≠ "_" then partFine P (keyFine P d) f.type cs f.offset else true) = true := fun f hf => List.all_eq_true.1 h f hf
   clear h
   rw [← Array.forIn_toList]
   generalize fs.toList = l at each
   induction l with
   | nil => simp
   | cons f l ihl =>
    have h0 := each f (by simp)
    simp only [List.forIn_cons, Sem.run_bind]
    by_cases hn : f.name ≠ "_"
    ·rw [if_pos hn] at h0
     obtain ⟨y, p1, p2⟩ := partFine_run (em := em) (m := m) (fun T v u h1 h2 => ih' T v u h1 h2) hus h0
     rw [if_pos hn]
     simp only [Sem.run_bind, Result.andThen_ok, p1, p2, Sem.run_pure]
     exact ihl (fun y hy => each y (by simp [hy]))
    ·rw [if_neg hn]
     simp only [Sem.run_pure, Result.andThen_ok]
     exact ihl (fun y hy => each y (by simp [hy]))
  ·cases h
  ·cases h
  ·rename_i k _ _ _ _ _ _
   have hT : P.underlying T = some k := by assumption
   rw [Instr.checkKey]
   simp only [Sem.run_bind, run_underlying hT, Result.andThen_ok]
   cases k <;> first
    | (exfalso; simp_all; done)
    | (cases u <;> rfl)
  ·cases h
theorem keyExact_eq : ∀ (d : Nat) (v : V) (u u' : Value), VR ρ v u → VR ρ v u' → keyExact d v = true → u = u' := by
 intro d
 induction d with
 | zero => intro v u u' _ _ h; cases h
 | succ d ih =>
  intro v u u' h1 h2 h
  cases v with
  | bool b => cases h1; cases h2; rfl
  | int k n => cases h1; cases h2; rfl
  | str l => cases h1; cases h2; rfl
  | nilp => cases h1; cases h2; rfl
  | ptr a o =>
   obtain ⟨L, e1, rfl⟩ := h1.ptr_inv
   obtain ⟨M, e2, rfl⟩ := h2.ptr_inv
   rw [e1] at e2; cases e2; rfl
  | gp g o => cases h1; cases h2; rfl
  | agg cs =>
   obtain ⟨us, rfl, hus⟩ := h1.agg_inv
   obtain ⟨vs, rfl, hvs⟩ := h2.agg_inv
   have hall : ∀ x ∈ cs, keyExact d x = true := fun x hx => List.all_eq_true.1 h x hx
   congr 1
   apply Array.toList_inj.1
   apply List.ext_getElem?
   intro i
   cases hc : cs[i]? with
   | none =>
    rw [List.getElem?_eq_none_iff] at hc
    rw [List.getElem?_eq_none (by rw [← hus.1]; exact hc), List.getElem?_eq_none (by rw [← hvs.1]; exact hc)]
   | some x =>
    obtain ⟨y, hy, q1⟩ := hus.get hc
    obtain ⟨z, hz, q2⟩ := hvs.get hc
    rw [hy, hz, ih x y z q1 q2 (hall x (List.mem_of_getElem? hc))]
  | _ => cases h
theorem keyExact_bits : ∀ (d m : Nat), d ≤ m → ∀ (v : V) (u : Value), VR ρ v u → keyExact d v = true → Instr.sameBits m u u = true := by
 intro d
 induction d with
 | zero => intro m _ v u _ h; cases h
 | succ d ih =>
  intro m hm v u h1 h
  obtain ⟨m, rfl⟩ : ∃ k, m = k + 1 := ⟨m - 1, by omega⟩
  cases v with
  | bool b => cases h1; simp [Instr.sameBits]
  | int k n => cases h1; simp [Instr.sameBits]
  | str l =>
   cases h1
   simp only [Instr.sameBits]
   exact (bytes_beq l l).trans (by simp)
  | nilp => cases h1; simp [Instr.sameBits]
  | ptr a o => obtain ⟨L, e1, rfl⟩ := h1.ptr_inv; simp [Instr.sameBits]
  | gp g o => cases h1; simp [Instr.sameBits]
  | agg cs =>
   obtain ⟨us, rfl, hus⟩ := h1.agg_inv
   have hall : ∀ x ∈ cs, keyExact d x = true := fun x hx => List.all_eq_true.1 h x hx
   simp only [Instr.sameBits, beq_self_eq_true, Bool.true_and, List.all_eq_true]
   rintro ⟨a, b⟩ hab
   obtain ⟨i, hi⟩ := List.mem_iff_getElem?.1 hab
   obtain ⟨ha, hb⟩ := List.getElem?_zip_eq_some.1 hi
   simp only at ha hb
   rw [ha] at hb
   simp only [Option.some.injEq] at hb; subst hb
   have hlt : i < cs.length := by rw [hus.1]; exact (List.getElem?_eq_some_iff.1 ha).1
   obtain ⟨y, hy, q⟩ := hus.get (List.getElem?_eq_getElem hlt)
   rw [ha] at hy
   simp only [Option.some.injEq] at hy; subst hy
   exact ih m (by omega) _ _ q (hall _ (List.getElem_mem hlt))
  | _ => cases h
def sameV : TypeDesc → V → V → Option Bool
 | .int _, .int k m, .int k' n => if k = k' then some (m == n) else none
 | .string, .str a, .str b => some (decide (a = b))
 | .bool, .bool a, .bool b => some (a == b)
 | _, _, _ => none
theorem sameV_sound {d : TypeDesc} {a b : V} {u v : Value} {t : Bool} (ha : VR ρ a u) (hb : VR ρ b v) (h : sameV d a b = some t) : Instr.sameNow d u v = some t := by
 unfold sameV at h
 split at h
 ·cases ha; cases hb; exact h
 ·rename_i x y
  cases ha; cases hb
  simp only [Option.some.injEq] at h; subst h
  simp only [Instr.sameNow, Option.some.injEq]
  exact bytes_beq x y
 ·cases ha; cases hb; exact h
 ·cases h
def findN (d : TypeDesc) (k : V) : List (V × V) → Nat → Option (Option (Nat × V × V))
 | [], _ => some none
 | e :: es, i => match sameV d k e.1 with
  | some true => some (some (i, e))
  | some false => findN d k es (i + 1)
  | none => none
def findA (P : Program) (kt : TypeId) (k : V) : List (V × V) → Nat → Option (Option (Nat × V × V))
 | [], _ => some none
 | e :: es, i => match veq P 50 kt k e.1 with
  | some true => some (some (i, e))
  | some false => findA P kt k es (i + 1)
  | none => none
def findV (P : Program) (kt : TypeId) (k : V) (es : List (V × V)) : Option (Option (Nat × V × V)) :=
 match P.underlying kt with
 | some (.int q) => findN (.int q) k es 0
 | some .string => findN .string k es 0
 | some .bool => findN .bool k es 0
 | some (.struct _) => findA P kt k es 0
 | some (.array _ _) => findA P kt k es 0
 | _ => none
def EsR (ρ : Ren) (es : List (V × V)) (l : List MapEntry) : Prop := es.length = l.length ∧ ∀ (i : Nat) k e, es[i]? = some k → l[i]? = some e → VR ρ k.1 e.key ∧ VR ρ k.2 e.val
theorem EsR.tail {k : V × V} {es : List (V × V)} {e : MapEntry} {l : List MapEntry} (h : EsR ρ (k :: es) (e :: l)) : (VR ρ k.1 e.key ∧ VR ρ k.2 e.val) ∧ EsR ρ es l :=
 ⟨h.2 0 k e rfl rfl, by have := h.1; simpa using this, fun i a b ha hb => h.2 (i + 1) a b (by simpa using ha) (by simpa using hb)⟩
def FoundR (ρ : Ren) (es : List (V × V)) (i0 : Nat) : Option (Nat × V × V) → Option (Nat × Value) → Prop
 | none, none => True
 | some (i, e), some (j, v) => i = j ∧ i0 ≤ i ∧ es[i - i0]? = some e ∧ VR ρ e.2 v
 | _, _ => False
theorem findN_sound {d : TypeDesc} {k : V} {u : Value} (hk : VR ρ k u) : ∀ (es : List (V × V)) (l : List MapEntry) (i : Nat) (r : Option (Nat × V × V)), EsR ρ es l → findN d k es i = some r →
  ∃ r', Instr.findNow d u l i = some r' ∧ FoundR ρ es i r r' := by
 intro es
 induction es with
 | nil =>
  intro l i r he h
  obtain rfl : l = [] := by have := he.1; cases l with | nil => rfl | cons _ _ => simp at this
  cases h
  exact ⟨none, rfl, trivial⟩
 | cons e es ih =>
  intro l i r he h
  cases l with
  | nil => have := he.1; simp at this
  | cons x l =>
   obtain ⟨⟨q1, q2⟩, q3⟩ := he.tail
   simp only [findN] at h
   split at h
   ·rename_i hs
    simp only [Option.some.injEq] at h; subst h
    exact ⟨some (i, x.val), by simp only [Instr.findNow, sameV_sound hk q1 hs], rfl, Nat.le_refl _, by simp, q2⟩
   ·rename_i hs
    obtain ⟨r', h1, h2⟩ := ih l (i + 1) r q3 h
    refine ⟨r', by simp only [Instr.findNow, sameV_sound hk q1 hs, h1], ?_⟩
    cases r with
    | none => cases r' with
     | none => trivial
     | some p' => exact h2
    | some p =>
     cases r' with
     | none => exact h2
     | some p' =>
      obtain ⟨a1, a2, a3, a4⟩ := h2
      exact ⟨a1, by omega, by rw [show p.1 - i = (p.1 - (i + 1)) + 1 by omega]; simpa using a3, a4⟩
   ·cases h
theorem findA_sound {kt : TypeId} {k : V} {u : Value} (hk : VR ρ k u) : ∀ (es : List (V × V)) (l : List MapEntry) (i : Nat) (r : Option (Nat × V × V)), EsR ρ es l → findA P kt k es i = some r →
  ∃ r', (Instr.findAsking kt u l i).run P w = .ok r' w ∧ FoundR ρ es i r r' := by
 intro es
 induction es with
 | nil =>
  intro l i r he h
  obtain rfl : l = [] := by have := he.1; cases l with | nil => rfl | cons _ _ => simp at this
  cases h
  exact ⟨none, rfl, trivial⟩
 | cons e es ih =>
  intro l i r he h
  cases l with
  | nil => have := he.1; simp at this
  | cons x l =>
   obtain ⟨⟨q1, q2⟩, q3⟩ := he.tail
   simp only [findA] at h
   have run : ∀ t, veq P 50 kt k e.1 = some t → (Op.equal kt u x.key).run P w = .ok t w := fun t ht => veq_sound 50 _ (by decide) kt k e.1 u x.key t hk q1 ht
   split at h
   ·rename_i hs
    simp only [Option.some.injEq] at h; subst h
    refine ⟨some (i, x.val), ?_, rfl, Nat.le_refl _, by simp, q2⟩
    simp only [Instr.findAsking, Sem.run_bind, run _ hs, Result.andThen_ok]
    rfl
   ·rename_i hs
    obtain ⟨r', h1, h2⟩ := ih l (i + 1) r q3 h
    refine ⟨r', ?_, ?_⟩
    ·simp only [Instr.findAsking, Sem.run_bind, run _ hs, Result.andThen_ok]
     exact h1
    ·cases r with
     | none => cases r' with
      | none => trivial
      | some p' => exact h2
     | some p =>
      cases r' with
      | none => exact h2
      | some p' =>
       obtain ⟨a1, a2, a3, a4⟩ := h2
       exact ⟨a1, by omega, by rw [show p.1 - i = (p.1 - (i + 1)) + 1 by omega]; simpa using a3, a4⟩
   ·cases h
theorem findV_sound {kt : TypeId} {k : V} {u : Value} (hk : VR ρ k u) {es : List (V × V)} {l : List MapEntry} {r : Option (Nat × V × V)} (he : EsR ρ es l) (h : findV P kt k es = some r) :
  ∃ r', (Instr.findKey kt u l).run P w = .ok r' w ∧ FoundR ρ es 0 r r' := by
 have now : ∀ d, P.underlying kt = some d → findN d k es 0 = some r → ∃ r', (Instr.findKey kt u l).run P w = .ok r' w ∧ FoundR ρ es 0 r r' := by
  intro d hd hf
  obtain ⟨r', h1, h2⟩ := findN_sound hk es l 0 r he hf
  exact ⟨r', Go.MapKept.run_findKey hd h1, h2⟩
 unfold findV at h
 split at h
 ·rename_i q hd; exact now _ hd h
 ·rename_i hd; exact now _ hd h
 ·rename_i hd; exact now _ hd h
 ·rename_i fs hd
  obtain ⟨r', h1, h2⟩ := findA_sound (P := P) (w := w) hk es l 0 r he h
  exact ⟨r', by rw [run_findKey_eq (w := w) (by rw [hd])]; exact h1, h2⟩
 ·rename_i n e hd
  obtain ⟨r', h1, h2⟩ := findA_sound (P := P) (w := w) hk es l 0 r he h
  exact ⟨r', by rw [run_findKey_eq (w := w) (by rw [hd])]; exact h1, h2⟩
 ·cases h
def opMakeMap (h : Hp) : V × Option Hp := (.mp h.next, some (h.newObj (.mapo [] 0)))
theorem opMakeMap_sound (H : Rel Γ N0 w0 ρ h w) {T : TypeId} {r : Option Value} (hr : ∀ u, r = some u → ∃ k n, u = .int k n ∧ ∃ a b, P.underlying T = some (.map a b)) : Good Γ N0 w0 ρ h (opMakeMap h).1 (opMakeMap h).2 ((Instr.makeMap T r).run P w) := by
 have hb : BlkR (setR ρ h.next ⟨w.heap.size, 0, 0⟩) N0 (World.new w (.map #[] 0)) h.next (.mapo [] 0) :=
  ⟨⟨w.heap.size, 0, 0⟩, by simp [setR], Nat.le_trans H.hN0 H.below.size, #[], [], new_heap_new _ _, ⟨fun x hx => by simp at hx, by simp⟩, fun _ => rfl, .refl _, rfl, fun i k e hk => by simp at hk⟩
 refine ⟨.map (some w.heap.size), _, _, ?_, setR_ext (H.fresh _ (Nat.le_refl _)), H.newObj (fun _ _ _ _ hh => by cases hh) hb, .mp _ ⟨w.heap.size, 0, 0⟩ (by simp [setR])⟩
 cases r with
 | none =>
  simp only [Instr.makeMap, Sem.run_bind, Sem.run_pure, Result.andThen_ok, newObj, Sem.run]
  rfl
 | some u =>
  obtain ⟨k, n, rfl, a, b, hT⟩ := hr u rfl
  simp only [Instr.makeMap, Sem.run_bind, run_underlying hT, asInt, Sem.run_pure, Result.andThen_ok, newObj, Sem.run]
  rfl
def entriesOf (h : Hp) : V → Option (List (V × V))
 | .nilmap => some []
 | .mp a => match h.t.get a with
  | some (.mapo es c) => match Nat.beq (c % 2) 0 with
   | true => some es
   | false => none
  | _ => none
 | _ => none
def entriesU (h : Hp) : V → Option (List (V × V))
 | .mp a => match h.t.get a with
  | some (.mapo es _) => some es
  | _ => none
 | _ => none
theorem entries_perm (H : Rel Γ N0 w0 ρ h w) {a : Nat} {es : List (V × V)} {c : Nat} (hg : h.t.get a = some (.mapo es c)) {L : Loc} (hL : ρ a = some L) :
  ∃ (arr : Array MapEntry) (es0 : List (V × V)), w.heap[L.b]? = some (.map arr (c / 2)) ∧ es0.Perm es ∧ EsR ρ es0 arr.toList := by
 obtain ⟨M, hM, hN, arr, es0, h1, hbo, hp, hq, h2, h3⟩ := (H.blk a _ (some_ne (by assumption)) hg).ex
 rw [hL] at hM; simp only [Option.some.injEq] at hM; subst hM
 exact ⟨arr, es0, h1, hq, ⟨by simpa using h2, fun i k e hk he => h3 i k e hk (by simpa using he)⟩⟩
theorem entries_blk (H : Rel Γ N0 w0 ρ h w) {a : Nat} {es : List (V × V)} {c : Nat} (hg : h.t.get a = some (.mapo es c)) (hc : Nat.beq (c % 2) 0 = true) {L : Loc} (hL : ρ a = some L) :
  ∃ arr : Array MapEntry, w.heap[L.b]? = some (.map arr (c / 2)) ∧ EsR ρ es arr.toList ∧ N0 ≤ L.b ∧ BornOk arr (c / 2) := by
 obtain ⟨M, hM, hN, arr, es0, h1, hbo, hp, hq, h2, h3⟩ := (H.blk a _ (some_ne (by assumption)) hg).ex
 rw [hL] at hM; simp only [Option.some.injEq] at hM; subst hM
 obtain rfl := hp (Nat.eq_of_beq_eq_true hc)
 exact ⟨arr, h1, ⟨by simpa using h2, fun i k e hk he => h3 i k e hk (by simpa using he)⟩, hN, hbo⟩
def lookU (P : Program) (kt : TypeId) (k : V) : List (V × V) → Option (Option (V × V))
 | [] => some none
 | e :: r => match findV P kt k [e], lookU P kt k r with
  | some none, some x => some x
  | some (some _), some none => some (some e)
  | _, _ => none
omit [E : Amb] in
theorem findN_cons {d : TypeDesc} {k : V} (e : V × V) : ∀ (es : List (V × V)) (i : Nat), (findN d k [e] 0 = some none → findN d k (e :: es) i = findN d k es (i + 1)) ∧ (∀ j x, findN d k [e] 0 = some (some (j, x)) → findN d k (e :: es) i = some (some (i, e))) := by
 intro es i
 simp only [findN]
 cases sameV d k e.1 with
 | none => exact ⟨fun h => by simp at h, fun j x h => by simp at h⟩
 | some t => cases t with
  | true => exact ⟨fun h => by simp at h, fun j x h => by simp⟩
  | false => exact ⟨fun h => by simp, fun j x h => by simp at h⟩
omit [E : Amb] in
theorem findA_cons {kt : TypeId} {k : V} (e : V × V) : ∀ (es : List (V × V)) (i : Nat), (findA P kt k [e] 0 = some none → findA P kt k (e :: es) i = findA P kt k es (i + 1)) ∧ (∀ j x, findA P kt k [e] 0 = some (some (j, x)) → findA P kt k (e :: es) i = some (some (i, e))) := by
 intro es i
 simp only [findA]
 cases veq P 50 kt k e.1 with
 | none => exact ⟨fun h => by simp at h, fun j x h => by simp at h⟩
 | some t => cases t with
  | true => exact ⟨fun h => by simp at h, fun j x h => by simp⟩
  | false => exact ⟨fun h => by simp, fun j x h => by simp at h⟩
def findF (P : Program) (kt : TypeId) (k : V) (es : List (V × V)) (i : Nat) : Option (Option (Nat × V × V)) :=
 match P.underlying kt with
 | some (.int q) => findN (.int q) k es i
 | some .string => findN .string k es i
 | some .bool => findN .bool k es i
 | some (.struct _) => findA P kt k es i
 | some (.array _ _) => findA P kt k es i
 | _ => none
omit [E : Amb] in
theorem findF_zero {kt : TypeId} {k : V} {es : List (V × V)} : findF P kt k es 0 = findV P kt k es := rfl
omit [E : Amb] in
theorem findF_cons {kt : TypeId} {k : V} (e : V × V) (es : List (V × V)) (i : Nat) : (findV P kt k [e] = some none → findF P kt k (e :: es) i = findF P kt k es (i + 1)) ∧ (∀ j x, findV P kt k [e] = some (some (j, x)) → findF P kt k (e :: es) i = some (some (i, e))) := by
 unfold findV findF
 split <;> first
  | exact findN_cons e es i
  | exact findA_cons e es i
  | exact ⟨fun h => (by cases h), fun j x h => (by cases h)⟩
omit [E : Amb] in
theorem findF_nil {kt : TypeId} {k : V} {e : V × V} (h : ∃ r, findV P kt k [e] = some r) (i : Nat) : findF P kt k [] i = some none := by
 obtain ⟨r, h⟩ := h
 unfold findV at h
 unfold findF
 split at h <;> first | rfl | cases h
omit [E : Amb] in
theorem findF_miss {kt : TypeId} {k : V} : ∀ (es : List (V × V)) (i : Nat), (∀ e ∈ es, findV P kt k [e] = some none) → (es = [] → findF P kt k [] i = some none) → findF P kt k es i = some none := by
 intro es
 induction es with
 | nil => intro i _ h; exact h rfl
 | cons e es ih =>
  intro i h _
  have h0 := h e List.mem_cons_self
  rw [(findF_cons e es i).1 h0]
  exact ih (i + 1) (fun x hx => h x (List.mem_cons_of_mem _ hx)) fun _ => findF_nil ⟨_, h0⟩ _
omit [E : Amb] in
theorem findF_hit {kt : TypeId} {k : V} {e : V × V} {j : Nat} {x : V × V} (he : findV P kt k [e] = some (some (j, x))) : ∀ (m1 m2 : List (V × V)) (i : Nat), (∀ e ∈ m1, findV P kt k [e] = some none) → findF P kt k (m1 ++ e :: m2) i = some (some (i + m1.length, e)) := by
 intro m1
 induction m1 with
 | nil => intro m2 i _; exact (findF_cons e m2 i).2 _ _ he
 | cons a m1 ih =>
  intro m2 i h
  rw [List.cons_append, (findF_cons a (m1 ++ e :: m2) i).1 (h a List.mem_cons_self), ih m2 (i + 1) (fun x hx => h x (List.mem_cons_of_mem _ hx))]
  simp only [List.length_cons]
  rw [show i + 1 + m1.length = i + (m1.length + 1) by omega]
omit [E : Amb] in
theorem lookU_spec {kt : TypeId} {k : V} : ∀ (es : List (V × V)) (r : Option (V × V)), lookU P kt k es = some r → match r with
  | none => ∀ e ∈ es, findV P kt k [e] = some none
  | some e => (∃ p, findV P kt k [e] = some (some p)) ∧ ∃ l1 l2, es = l1 ++ e :: l2 ∧ ∀ x ∈ l1 ++ l2, findV P kt k [x] = some none := by
 intro es
 induction es with
 | nil => intro r h; cases h; intro e he; cases he
 | cons a es ih =>
  intro r h
  simp only [lookU] at h
  split at h
  ·rename_i x h1 h2
   simp only [Option.some.injEq] at h; subst h
   have := ih _ h2
   cases x with
   | none =>
    intro e he
    rcases List.mem_cons.1 he with rfl | he
    ·exact h1
    ·exact this e he
   | some e =>
    obtain ⟨p1, l1, l2, p2, p3⟩ := this
    refine ⟨p1, a :: l1, l2, by rw [p2]; rfl, fun x hx => ?_⟩
    rcases List.mem_cons.1 hx with rfl | hx
    ·exact h1
    ·exact p3 x hx
  ·rename_i p h1 h2
   simp only [Option.some.injEq] at h; subst h
   exact ⟨⟨_, h1⟩, [], es, rfl, fun x hx => ih _ h2 x hx⟩
  ·cases h
omit [E : Amb] in
theorem lookU_find {kt : TypeId} {k : V} {es es0 : List (V × V)} (hp : es0.Perm es) (hne : es ≠ []) {r : Option (V × V)} (h : lookU P kt k es = some r) : ∃ q, findV P kt k es0 = some q ∧ q.map (·.2) = r := by
 have hs := lookU_spec es r h
 cases r with
 | none =>
  simp only at hs
  refine ⟨none, ?_, rfl⟩
  rw [← findF_zero]
  refine findF_miss es0 0 (fun e he => hs e (hp.mem_iff.1 he)) fun e0 => ?_
  subst e0
  exact absurd (List.nil_perm.1 hp) hne
 | some e =>
  obtain ⟨⟨p, h1⟩, l1, l2, h2, h3⟩ := hs
  have hmem : e ∈ es0 := hp.mem_iff.2 (by rw [h2]; simp)
  obtain ⟨m1, m2, h4⟩ := List.append_of_mem hmem
  have hp2 : (m1 ++ m2).Perm (l1 ++ l2) := by
   have q1 : (e :: (m1 ++ m2)).Perm (e :: (l1 ++ l2)) := by
    refine (List.perm_middle.symm.trans ?_).trans List.perm_middle
    rw [← h4, ← h2]; exact hp
   exact q1.cons_inv
  refine ⟨some (0 + m1.length, e), ?_, rfl⟩
  obtain ⟨j, x⟩ := p
  rw [h4, ← findF_zero]
  exact findF_hit h1 m1 m2 0 fun x hx => h3 x (hp2.mem_iff.1 (List.mem_append_left _ hx))
def okTup (ok : Bool) (v : V) (b : Bool) : V := match ok with
 | true => .tup [v, .bool b]
 | false => v
theorem okTup_VR {ok : Bool} {v : V} {u : Value} (h : VR ρ v u) (b : Bool) : VR ρ (okTup ok v b) (if ok = true then .tuple #[u, .bool b] else u) := by
 cases ok with
 | true => exact VRs.tup (.cons h (.cons (.bool b) (.nil _)))
 | false => exact h
def opLookup (P : Program) (h : Hp) (T : TypeId) (m k : V) (ok : Bool) : Option V :=
 match P.underlying T with
 | some (.map kt et) => match entriesOf h m with
  | some es => match keyFine P 50 kt k, findV P kt k es with
   | true, some (some (_, e)) => some (okTup ok e.2 true)
   | true, some none => match P.info? et with
    | some i => match i.zero with
     | some z => match constV z with
      | some v => some (okTup ok v false)
      | none => none
     | none => none
    | none => none
   | _, _ => none
  | none => match entriesU h m with
   | some es => match (keyFine P 50 kt k && !es.isEmpty), lookU P kt k es with
    | true, some (some e) => some (okTup ok e.2 true)
    | _, _ => none
   | none => none
 | _ => none
theorem opLookup_sound (H : Rel Γ N0 w0 ρ h w) {T : TypeId} {m k x : V} {um uk : Value} {ok : Bool} (hm : VR ρ m um) (hk : VR ρ k uk) (hs : opLookup P h T m k ok = some x) :
    ∃ y, (Instr.lookup T um uk ok).run P w = .ok y w ∧ VR ρ x y := by
  unfold opLookup at hs
  split at hs
  · rename_i kt et hT
    split at hs
    · rename_i es hes
      have key : ∃ arr : Array MapEntry, EsR ρ es arr.toList ∧ ∀ (g : Array MapEntry → Sem Value), (do
          let es ← match um with
            | .map none => pure #[]
            | .map (some r) => do
              let .map es _ ← getObj r | stuck "Lookup: map expected"
              pure es
            | _ => stuck "Lookup: map expected"
          g es : Sem Value).run P w = (g arr).run P w := by
        unfold entriesOf at hes
        split at hes
        · simp only [Option.some.injEq] at hes; subst hes
          cases hm
          exact ⟨#[], ⟨rfl, fun i a b ha => by simp at ha⟩, fun g => by simp only [Sem.run_bind, Sem.run_pure, Result.andThen_ok]⟩
        · rename_i a
          split at hes
          · rename_i es' c hg
            split at hes
            · rename_i hpar
              simp only [Option.some.injEq] at hes; subst hes
              cases hm with
              | mp _ L hL =>
              obtain ⟨arr, h1, h2, _⟩ := entries_blk H hg hpar hL
              exact ⟨arr, h2, fun g => by simp only [Sem.run_bind, Go.MapKept.run_getObj_map h1, Sem.run_pure, Result.andThen_ok]⟩
            · cases hes
          · cases hes
        · cases hes
      obtain ⟨arr, hE, hrun⟩ := key
      have start : (Instr.lookup T um uk ok).run P w = (do
          Instr.checkKey arr.isEmpty 10000 kt uk
          let (v, ok') ← match ← Instr.findKey kt uk arr.toList with
            | some (_, v) => pure (v, true)
            | none => pure (← zeroValue et, false)
          pure (if ok then .tuple #[v, .bool ok'] else v) : Sem Value).run P w := by
        unfold Instr.lookup
        rw [Sem.run_bind, run_underlying hT, Result.andThen_ok]
        exact hrun _
      rw [start]
      split at hs
      · rename_i i e hf1 hf2
        simp only [Option.some.injEq] at hs; subst hs
        obtain ⟨r', h1, h2⟩ := findV_sound (P := P) (w := w) hk hE hf2
        cases r' with
        | none => exact absurd h2 (by intro h; exact h)
        | some p =>
          obtain ⟨j, v⟩ := p
          obtain ⟨_, _, _, hv⟩ := h2
          refine ⟨_, ?_, okTup_VR hv true⟩
          simp only [Sem.run_bind, keyFine_sound _ 50 10000 (by decide) kt k uk hk hf1, h1, Result.andThen_ok, Sem.run_pure]
      · rename_i hf1 hf2
        obtain ⟨r', h1, h2⟩ := findV_sound (P := P) (w := w) hk hE hf2
        cases r' with
        | some p => exact absurd h2 (by intro h; exact h)
        | none =>
          split at hs
          · rename_i i hi
            split at hs
            · rename_i z hz
              split at hs
              · rename_i v hv
                simp only [Option.some.injEq] at hs; subst hs
                refine ⟨_, ?_, okTup_VR (constV_sound hv) false⟩
                simp only [Sem.run_bind, keyFine_sound _ 50 10000 (by decide) kt k uk hk hf1, h1, Result.andThen_ok, Sem.run_pure, zeroValue, run_typeInfo hi, hz]
              · cases hs
            · cases hs
          · cases hs
      · cases hs
    · -- in whatever order
      split at hs
      · rename_i es hes
        unfold entriesU at hes
        split at hes
        · rename_i a
          split at hes
          · rename_i es' c hg
            simp only [Option.some.injEq] at hes; subst hes
            cases hm with
            | mp _ L hL =>
            obtain ⟨arr, es0, h1, hp, hE⟩ := entries_perm H hg hL
            split at hs
            · rename_i e hf1 hf2
              simp only [Bool.and_eq_true] at hf1
              simp only [Option.some.injEq] at hs; subst hs
              obtain ⟨q, g1, g2⟩ := lookU_find hp (by intro h; rw [h] at hf1; simp at hf1) hf2
              obtain ⟨r', z1, z2⟩ := findV_sound (P := P) (w := w) hk hE g1
              cases q with
              | none => cases g2
              | some p =>
                simp only [Option.map_some, Option.some.injEq] at g2
                cases r' with
                | none => exact absurd z2 (by intro h; exact h)
                | some p' =>
                  obtain ⟨i, e'⟩ := p
                  obtain ⟨j, v⟩ := p'
                  simp only at g2; subst g2
                  obtain ⟨_, _, _, hv⟩ := z2
                  refine ⟨_, ?_, okTup_VR hv true⟩
                  unfold Instr.lookup
                  simp only [Sem.run_bind, run_underlying hT, Result.andThen_ok, Go.MapKept.run_getObj_map h1, Sem.run_pure, keyFine_sound _ 50 10000 (by decide) kt k uk hk hf1.1, z1]
            · cases hs
          · cases hes
        · cases hes
      · cases hs
  · cases hs
def opMapUpdate (P : Program) (h : Hp) (T : TypeId) (m k v : V) : Option Hp :=
 match P.underlying T, m with
 | some (.map kt _), .mp a => match h.t.get a with
  | some (.mapo es c) => match Nat.beq (c % 2) 0 && (keyFine P 50 kt k && keyExact 50 k), findV P kt k es with
   | true, some none => some ⟨h.next, h.t.put (some (.mapo (es ++ [(k, v)]) (c + 2))) a, h.fams, h.els⟩
   | true, some (some (i, e)) => match k.same e.1 with
    | true => some ⟨h.next, h.t.put (some (.mapo (es.set i (k, v)) c)) a, h.fams, h.els⟩
    | false => none
   | _, _ => none
  | _ => none
 | _, _ => none
omit [E : Amb] in
theorem BornOk.push {arr : Array MapEntry} {c : Nat} {k v : Value} (h : BornOk arr c) : BornOk (arr.push { key := k, val := v, born := c }) (c + 1) := by
 refine ⟨fun x hx => ?_, ?_⟩
 ·simp only [Array.toList_push, List.mem_append, List.mem_singleton] at hx
  rcases hx with hx | rfl
  ·have := h.1 x hx; omega
  ·exact Nat.lt_succ_self _
 ·simp only [Array.toList_push, List.map_append, List.map_cons, List.map_nil]
  rw [List.nodup_append]
  refine ⟨h.2, by simp, fun a ha b hb => ?_⟩
  simp only [List.mem_singleton] at hb
  subst hb
  obtain ⟨x, hx, rfl⟩ := List.mem_map.1 ha
  have := h.1 x hx; omega
omit [E : Amb] in
theorem BornOk.modify {arr : Array MapEntry} {c i : Nat} {k v : Value} (h : BornOk arr c) : BornOk (arr.modify i fun e => { e with key := k, val := v }) c := by
 have e : (arr.modify i fun e => { e with key := k, val := v }).toList.map (·.born) = arr.toList.map (·.born) := by
  apply List.ext_getElem?
  intro j
  simp only [List.getElem?_map, Array.getElem?_toList, Array.getElem?_modify]
  split
  ·cases arr[j]? <;> rfl
  ·rfl
 refine ⟨fun x hx => ?_, by rw [e]; exact h.2⟩
 have hm : x.born ∈ (arr.modify i fun e => { e with key := k, val := v }).toList.map (·.born) := List.mem_map.2 ⟨x, hx, rfl⟩
 rw [e] at hm
 obtain ⟨y, hy, he⟩ := List.mem_map.1 hm
 rw [← he]; exact h.1 y hy
theorem opMapUpdate_sound (H : Rel Γ N0 w0 ρ h w) {T : TypeId} {m k v : V} {um uk uv : Value} {h' : Hp} (hm : VR ρ m um) (hk : VR ρ k uk) (hv : VR ρ v uv) (hs : opMapUpdate P h T m k v = some h') :
    ∃ w', (Instr.mapUpdate T um uk uv).run P w = .ok () w' ∧ Rel Γ N0 w0 ρ h' w' := by
  unfold opMapUpdate at hs
  split at hs
  · rename_i kt et a hT
    cases hm with
    | mp _ L hL =>
    split at hs
    · rename_i es c hg
      have hpar : Nat.beq (c % 2) 0 = true := by
        cases hb : Nat.beq (c % 2) 0 with
        | true => rfl
        | false =>
          rw [hb] at hs
          simp only [Bool.false_and] at hs
          cases hs
      have hev : c % 2 = 0 := Nat.eq_of_beq_eq_true hpar
      rw [hpar, Bool.true_and] at hs
      obtain ⟨arr, h1, hE, hN, hbo⟩ := entries_blk H hg hpar hL
      have hlt : L.b < w.heap.size := H.lt _ _ hL
      have no : ∀ arr' el fr, w.heap[L.b]? ≠ some (.cells arr' el fr) := fun _ _ _ hh => by rw [h1] at hh; cases hh
      have hput : ∀ o, (w.heap.setIfInBounds L.b o)[L.b]? = some o := fun o => by simp [hlt]
      have start : (Instr.mapUpdate T (.map (some L.b)) uk uv).run P w = (do
          Instr.checkKey false 10000 kt uk
          match ← Instr.findKey kt uk arr.toList with
          | some (i, _) => do
            let key ← Instr.keyThatStays (((arr[i]?).map (·.key)).getD uk) uk
            setObj L.b (.map (arr.modify i fun e => { e with key, val := uv }) (c / 2))
          | none => setObj L.b (.map (arr.push { key := uk, val := uv, born := c / 2 }) (c / 2 + 1)) : Sem Unit).run P w := by
        unfold Instr.mapUpdate
        simp only [Sem.run_bind, run_underlying hT, Result.andThen_ok, Go.MapKept.run_getObj_map h1]
        rfl
      split at hs
      · rename_i hf1 hf2
        simp only [Option.some.injEq] at hs; subst hs
        simp only [Bool.and_eq_true] at hf1
        obtain ⟨r', q1, q2⟩ := findV_sound (P := P) (w := w) hk hE hf2
        cases r' with
        | some p => exact absurd q2 (by intro h; exact h)
        | none =>
          refine ⟨_, ?_, H.setObj (o := .map (arr.push { key := uk, val := uv, born := c / 2 }) (c / 2 + 1)) hg hL (fun _ _ _ _ hh => by cases hh) (fun _ _ _ _ hh => by cases hh) hN no ⟨L, hL, hN, _, es ++ [(k, v)], by rw [show (c + 2) / 2 = c / 2 + 1 by omega]; exact hput _, by rw [show (c + 2) / 2 = c / 2 + 1 by omega]; exact hbo.push, fun _ => rfl, .refl _, by have := hE.1; simp at this ⊢; omega, fun i a b ha hb => ?_⟩⟩
          · rw [start]
            simp only [Sem.run_bind, keyFine_sound _ 50 10000 (by decide) kt k uk hk hf1.1, q1, Result.andThen_ok, Go.MapKept.run_setObj_map _ h1]
          · have hlen : es.length = arr.size := by have := hE.1; simpa using this
            rw [Array.getElem?_push] at hb
            by_cases hi : i = arr.size
            · rw [if_pos hi] at hb
              simp only [Option.some.injEq] at hb; subst hb
              rw [List.getElem?_append_right (by omega), show i - es.length = 0 by omega] at ha
              simp only [List.getElem?_cons_zero, Option.some.injEq] at ha; subst ha
              exact ⟨hk, hv⟩
            · rw [if_neg hi] at hb
              have hi2 : i < arr.size := (Array.getElem?_eq_some_iff.1 hb).1
              rw [List.getElem?_append_left (by omega)] at ha
              exact hE.2 i a b ha (by simpa using hb)
      · rename_i i e hf1 hf2
        split at hs
        · rename_i hsame
          simp only [Option.some.injEq] at hs; subst hs
          simp only [Bool.and_eq_true] at hf1
          obtain ⟨r', q1, q2⟩ := findV_sound (P := P) (w := w) hk hE hf2
          cases r' with
          | none => exact absurd q2 (by intro h; exact h)
          | some p =>
            obtain ⟨j, v0⟩ := p
            obtain ⟨rfl, _, q3, _⟩ := q2
            simp only [Nat.sub_zero] at q3
            have hlen : es.length = arr.size := by have := hE.1; simpa using this
            have hil : i < arr.size := by rw [← hlen]; exact (List.getElem?_eq_some_iff.1 q3).1
            have hai : arr[i]? = some arr[i] := by simp [hil]
            have hkey : arr[i].key = uk := by
              have h2 := (hE.2 i e arr[i] q3 (by simp)).1
              have e3 := V.same_eq _ _ hsame
              rw [← e3] at h2
              exact keyExact_eq 50 k _ _ h2 hk hf1.2
            have hstay : (Instr.keyThatStays (((arr[i]?).map (·.key)).getD uk) uk).run P w = .ok uk w := by
              rw [hai]
              simp only [Option.map_some, Option.getD_some, hkey, Instr.keyThatStays]
              rw [keyExact_bits 50 10000 (by decide) k uk hk hf1.2]
              rfl
            refine ⟨_, ?_, H.setObj (o := .map (arr.modify i fun e => { e with key := uk, val := uv }) (c / 2)) hg hL (fun _ _ _ _ hh => by cases hh) (fun _ _ _ _ hh => by cases hh) hN no ⟨L, hL, hN, _, es.set i (k, v), hput _, hbo.modify, fun _ => rfl, .refl _, by simp; omega, fun j a b ha hb => ?_⟩⟩
            · rw [start]
              simp only [Sem.run_bind, keyFine_sound _ 50 10000 (by decide) kt k uk hk hf1.1, q1, Result.andThen_ok, hstay, Go.MapKept.run_setObj_map _ h1]
            · rw [Array.getElem?_modify] at hb
              rw [List.getElem?_set] at ha
              by_cases hij : i = j
              · subst hij
                rw [if_pos rfl, hai] at hb
                rw [if_pos rfl, if_pos (by omega)] at ha
                simp only [Option.map_some, Option.some.injEq] at hb ha
                subst hb ha
                exact ⟨hk, hv⟩
              · rw [if_neg hij] at hb ha
                exact hE.2 j a b ha (by simpa using hb)
        · cases hs
      · cases hs
    · cases hs
  · cases hs
def opLenMap (P : Program) (h : Hp) (argTypes : Array TypeId) (a : V) : Option V :=
 match argTypes[0]? with
 | some T => match P.underlying T, entriesOf h a with
  | some (.map _ _), some es => some (.int .i64 es.length)
  | some (.map _ _), none => match entriesU h a with
   | some es => some (.int .i64 es.length)
   | none => none
  | _, _ => none
 | none => none
theorem opLenMap_sound (H : Rel Γ N0 w0 ρ h w) {argTypes : Array TypeId} {a x : V} {u : Value} {T : TypeId} (ha : VR ρ a u) (hs : opLenMap P h argTypes a = some x) :
  ∃ y, (Builtin.len_ argTypes T #[u]).run P w = .ok y w ∧ VR ρ x y := by
 unfold opLenMap at hs
 split at hs
 ·rename_i T' hT
  split at hs
  ·rename_i kt et es hu hes
   simp only [Option.some.injEq] at hs; subst hs
   unfold entriesOf at hes
   split at hes
   ·simp only [Option.some.injEq] at hes; subst hes
    cases ha
    refine ⟨.int .i64 0, ?_, .int _ _⟩
    simp [Builtin.len_, hT, run_underlying hu, Result.andThen, goInt]
   ·rename_i b
    split at hes
    ·rename_i es' c hg
     split at hes
     ·rename_i hpar
      simp only [Option.some.injEq] at hes; subst hes
      cases ha with
      | mp _ L hL =>
      obtain ⟨arr, h1, h2, _⟩ := entries_blk H hg hpar hL
      have hlen : es'.length = arr.size := by have := h2.1; simpa using this
      refine ⟨.int .i64 arr.size, ?_, by rw [hlen]; exact .int _ _⟩
      simp [Builtin.len_, hT, run_underlying hu, Result.andThen, goInt, Go.MapKept.run_getObj_map h1]
     ·cases hes
    ·cases hes
   ·cases hes
  ·rename_i kt et hu hes0
   split at hs
   ·rename_i es hes
    simp only [Option.some.injEq] at hs; subst hs
    unfold entriesU at hes
    split at hes
    ·rename_i b
     split at hes
     ·rename_i es' c hg
      simp only [Option.some.injEq] at hes; subst hes
      cases ha with
      | mp _ L hL =>
      obtain ⟨arr, es0, h1, hp, hE⟩ := entries_perm H hg hL
      have hlen : es'.length = arr.size := by have := hE.1; rw [hp.length_eq] at this; simpa using this
      refine ⟨.int .i64 arr.size, ?_, by rw [hlen]; exact .int _ _⟩
      simp [Builtin.len_, hT, run_underlying hu, Result.andThen, goInt, Go.MapKept.run_getObj_map h1]
     ·cases hes
    ·cases hes
   ·cases hs
  ·cases hs
 ·cases hs
def opClear (P : Program) (h : Hp) (argTypes : Array TypeId) (v : V) : Option Hp :=
 match argTypes[0]? with
 | some T => match P.underlying T, v with
  | some (.slice _), .nils => some h
  | some (.slice e), .sl a o n sz => match n with
   | 0 => some h
   | n + 1 => match zeroC P e with
    | some zs => if zs.length = sz ∧ 0 < sz then h.write a o (zerosOf zs ((n + 1) * sz)) else none
    | none => none
  | _, _ => none
 | none => none
theorem opClear_sound (H : Rel Γ N0 w0 ρ h w) {argTypes : Array TypeId} {v : V} {u : Value} {T : TypeId} {h' : Hp} (hv : VR ρ v u) (hs : opClear P h argTypes v = some h') :
  Good Γ N0 w0 ρ h (.tup []) (some h') ((Builtin.clear_ argTypes T #[u]).run P w) := by
 unfold opClear at hs
 split at hs
 ·rename_i T' hT
  split at hs
  ·rename_i e hu
   simp only [Option.some.injEq] at hs; subst hs
   cases hv
   refine ⟨.tuple #[], w, ρ, ?_, .refl _, H, VRs.tup (.nil _)⟩
   simp [Builtin.clear_, hT, run_underlying hu, Result.andThen]
  ·rename_i e a o n sz hu
   split at hs
   ·simp only [Option.some.injEq] at hs; subst hs
    refine ⟨.tuple #[], w, ρ, ?_, .refl _, H, VRs.tup (.nil _)⟩
    cases hv <;> simp [Builtin.clear_, hT, run_underlying hu, Result.andThen]
   ·rename_i n
    split at hs
    ·rename_i zs hz
     split at hs
     ·rename_i hc
      obtain ⟨hc1, hc2⟩ := hc
      obtain ⟨z, hzr, hzv⟩ := run_zeroValue (P := P) (w := w) hz
      have hsz : z.cells.size = sz := by have := (hzv ρ).1; simp at this; omega
      have hzs : VRs ρ (zerosOf zs ((n + 1) * sz)) ((Array.range ((n + 1) * sz)).map (z.cells[· % z.cells.size]!)).toList := zerosOf_VRs (hzv ρ) _ (.inr (by omega))
      cases hv with
      | sl _ _ _ _ c L hL hcap hlim =>
      obtain ⟨w', r1, r2, _⟩ := write_sound (P := P) H hs hzs hL
      refine ⟨.tuple #[], w', ρ, ?_, .refl _, r2, VRs.tup (.nil _)⟩
      have e1 : Builtin.zeroCells z.cells (n + 1) = (Array.range ((n + 1) * sz)).map (z.cells[· % z.cells.size]!) := by unfold Builtin.zeroCells; rw [hsz]
      have r1' := r1
      simp at r1'
      simp [Builtin.clear_, hT, run_underlying hu, Result.andThen, hzr, e1, r1']
     ·cases hs
    ·cases hs
  ·cases hs
 ·cases hs
end
abbrev Spec := List V → Hp → Option (V × Hp)
structure Cfg where
 P : Program
 Γ : Glob
 ctx : FuncId → Option Spec
 pure : FuncId → Bool
 ext : FuncId → Option (List V → Option V)
 closed : FuncId → Bool
mutual
def V.isData : V → Bool
 | .bool _ => true
 | .int _ _ => true
 | .str _ => true
 | .nilp => true
 | .nils => true
 | .nilmap => true
 | .nilfn => true
 | .nilif => true
 | .agg cs => V.areData cs
 | .tup cs => V.areData cs
 | .any => true
 | .mod _ _ => true
 | .anyb => true
 | .pl _ _ _ => true
 | .pp _ => true
 | .lin _ _ _ => true
 | .sstr l => V.areData l
 | _ => false
def V.areData : List V → Bool
 | [] => true
 | x :: r => match x.isData with
  | true => V.areData r
  | false => false
end
def topT : List LT → Nat
 | [] => 0
 | t :: r => Nat.max (t.a + 1) (topT r)
mutual
def V.isSym : V → Bool
 | .lin _ _ _ => true
 | .sstr l => V.areSym l
 | .agg cs => V.areSym cs
 | .tup cs => V.areSym cs
 | .pl _ _ _ => false
 | .pp _ => false
 | v => v.isData
def V.areSym : List V → Bool
 | [] => true
 | x :: r => match x.isSym with
  | true => V.areSym r
  | false => false
end
mutual
def V.top : V → Nat
 | .lin _ _ ts => topT ts
 | .sstr l => V.tops l
 | .agg cs => V.tops cs
 | .tup cs => V.tops cs
 | _ => 0
def V.tops : List V → Nat
 | [] => 0
 | x :: r => Nat.max x.top (V.tops r)
end
def opSym (spec : Spec) (l : List V) : Option (V × Option Hp) := match V.areSym l with
 | true => match spec l (Hp.nums (V.tops l)) with
  | some (r, _) => match r.isSym, Nat.ble r.top (V.tops l) with
   | true, true => some (r, none)
   | _, _ => none
  | none => none
 | false => none
omit [E : Amb] in
theorem opSym_none {spec : Spec} {l : List V} {x : V} {k : Option Hp} (h : opSym spec l = some (x, k)) : k = none := by
 unfold opSym at h
 split at h
 ·split at h
  ·split at h
   ·simp only [Option.some.injEq, Prod.mk.injEq] at h; exact h.2.symm
   ·cases h
  ·cases h
 ·cases h
def frzV (h : Hp) : Nat → V → Option V
 | 0, _ => none
 | n + 1, v => match v with
  | .sl a o k sz => match k with
   | 0 => some (.pl 0 sz [])
   | _ => match h.t.get a with
    | some (.cells _ _ _ xs) => if o + k * sz ≤ xs.length then (mapC (frzV h n) ((xs.drop o).take (k * sz))).map (.pl k sz) else none
    | _ => none
  | .ptr a o => match h.t.get a with
   | some (.cells _ _ _ xs) => if o ≤ xs.length then (mapC (frzV h n) (xs.drop o)).map .pp else none
   | _ => none
  | .pl k sz cs => some (.pl k sz cs)
  | .pp cs => some (.pp cs)
  | .agg cs => (mapC (frzV h n) cs).map .agg
  | .tup cs => (mapC (frzV h n) cs).map .tup
  | .iface t x => (frzV h n x).map (.iface t)
  | .sstr l => some (.sstr l)
  | .mp _ => none
  | .fn _ _ _ => none
  | .pk _ => none
  | v => some v
def litK : Nat := 1000000
def opBuildLit (P : Program) (T : TypeId) (len : Nat) (parts : List (Nat × V)) : Option V :=
  match P.underlying T with
  | some (.slice e) => match szOf P e, zeroC P e with
    | some sz, some zs => if 0 < sz ∧ zs.length = sz ∧ len * sz ≤ 16777216 then
        match vfill (fun i => some (i * sz, sz)) (zerosOf zs (len * sz)) parts with
        | some cs => match V.areData cs with
          | true => some (.pl len sz cs)
          | false => none
        | none => none
      else none
    | _, _ => none
  | _ => none
def opBytesLit (P : Program) (src dst : TypeId) (v : V) : Option V :=
 match P.underlying src, P.underlying dst, v with
 | some .string, some (.slice e), .str l => match P.underlying e with
  | some (.int .u8) => some (.pl l.length 1 (l.map fun c => .int .u8 c.toNat))
  | _ => none
 | some .string, some (.slice e), .sstr l => match P.underlying e with
  | some (.int .u8) => some (.pl l.length 1 l)
  | _ => none
 | _, _, _ => none
def litConv (C : Cfg) (src dst : TypeId) (v : V) : Option V := match C.pure (litK + dst) with
 | true => opBytesLit C.P src dst v
 | false => none
def frzR (h : Hp) (r : V) : Option V := match r.isData with
 | true => some r
 | false => frzV h 100 r
def opCall (C : Cfg) (f : V) (args : List V) (h : Hp) : Option (V × Option Hp) :=
 match f with
 | .fn g xs ys => match C.ctx g with
  | some spec => match C.pure g with
   | true => match V.areData xs, V.areData args, V.areData ys with
    | true, true, true => match spec (xs ++ (args ++ ys)) Hp.empty with
     | some (r, h0) => match frzR h0 r with
      | some r' => some (r', none)
      | none => none
     | none => none
    | _, _, _ => opSym spec (xs ++ (args ++ ys))
   | false => match C.closed g && (V.areData xs && (V.areData args && V.areData ys)) with
    | true => match spec (xs ++ (args ++ ys)) Hp.empty with
     | some (r, h0) => some (r.shift h.next, some (h.beside (h0.gc r)))
     | none => none
    | false => match spec (xs ++ (args ++ ys)) h with
     | some (r, h') => some (r, some h')
     | none => none
  | none => match C.ext g with
   | some e => match e (xs ++ (args ++ ys)) with
    | some r => some (r, none)
    | none => none
   | none => none
 | _ => none
def still (v : Option V) : Option (V × Option Hp) := match v with
 | some v => some (v, none)
 | none => none
def opCapNil (P : Program) (argTypes : Array TypeId) (s : V) : Option V := match argTypes[0]?, s with
 | some T, .nils => match P.underlying T with
  | some (.slice _) => some (.int .i64 0)
  | _ => none
 | _, _ => none
theorem opCapNil_sound {P : Program} {ρ : Ren} {w : World} {argTypes : Array TypeId} {T : TypeId} {s x : V} {u : Value} (hs : VR ρ s u) (h : opCapNil P argTypes s = some x) : ∃ y, (Builtin.cap_ argTypes T #[u]).run P w = .ok y w ∧ VR ρ x y := by
 unfold opCapNil at h
 split at h
 ·rename_i T' hT
  split at h
  ·rename_i e he
   simp only [Option.some.injEq] at h; subst h
   cases hs
   refine ⟨.int .i64 0, ?_, .int _ _⟩
   simp [Builtin.cap_, hT, run_underlying he, Result.andThen, goInt]
  ·cases h
 ·cases h
def opCopyNil (P : Program) (argTypes : Array TypeId) (d s : V) : Option V := match argTypes[0]?, d, s with
 | some T, .sl _ _ 0 _, .nils => match P.underlying T with
  | some (.slice e) => match szOf P e with
   | some _ => some (.int .i64 0)
   | none => none
  | _ => none
 | _, _, _ => none
theorem opCopyNil_sound {P : Program} {ρ : Ren} {w : World} {argTypes : Array TypeId} {T : TypeId} {d s x : V} {u v : Value} (hd : VR ρ d u) (hs : VR ρ s v) (h : opCopyNil P argTypes d s = some x) : ∃ y, (Builtin.copy_ argTypes T #[u, v]).run P w = .ok y w ∧ VR ρ x y := by
 unfold opCopyNil at h
 split at h
 ·rename_i T' a o sz hT
  split at h
  ·rename_i e he
   split at h
   ·rename_i n hn
    simp only [Option.some.injEq] at h; subst h
    cases hs
    refine ⟨.int .i64 0, ?_, .int _ _⟩
    cases hd <;> simp [Builtin.copy_, hT, run_underlying he, Result.andThen, goInt, Builtin.lenOf, Builtin.firstCells, storeCells, run_sizeOf hn]
   ·cases h
  ·cases h
 ·cases h
def opRest (P : Program) (rd : Operand → Option V) (o : Op) : Option V :=
 match o with
 | .build T parts => match rdAll rd (parts.toList.map (·.2)) with
  | some vs => opBuild P T ((parts.toList.map (·.1)).zip vs)
  | none => none
 | .call { callee := .builtin .unsafeSliceData, args, .. } => match rdAll rd args.toList with
  | some [s] => opSliceData s
  | _ => none
 | .call { callee := .builtin .cap, args, argTypes } => match rdAll rd args.toList with
  | some [s] => opCapNil P argTypes s
  | _ => none
 | .call { callee := .builtin .copy, args, argTypes } => match rdAll rd args.toList with
  | some [d, s] => opCopyNil P argTypes d s
  | _ => none
 | o => popS P rd o
def isMapT (P : Program) (argTypes : Array TypeId) : Bool :=
 match argTypes[0]? with
 | some T => match P.underlying T with
  | some (.map _ _) => true
  | _ => false
 | none => false
def opVal (C : Cfg) (rd : Operand → Option V) (h : Hp) (o : Op) : Option (V × Option Hp) :=
  match o with
  | .load T a => match rd a with
    | some a => still (opLoad C.P C.Γ h T a)
    | none => none
  | .store T a v => match rd a, rd v with
    | some a, some v => match opStore C.P h T a v with
      | some h' => some (.tup [], some h')
      | none => none
    | _, _ => none
  | .alloc T => opAlloc C.P h T
  | .box T x => match rd x with
    | some v => match v.isAny with
      | true => none
      | false => some (opBox h T v)
    | none => none
  | .buildSlice T len parts => match rdAll rd (parts.toList.map (·.2)) with
    | some vs => match C.pure (litK + T) with
      | true => still (opBuildLit C.P T len ((parts.toList.map (·.1)).zip vs))
      | false => match h.t.get h.next with
        | some _ => none
        | none => opBuildSlice C.P h T len ((parts.toList.map (·.1)).zip vs)
    | none => none
  | .makeSlice T l c => match rd l, rd c with
    | some l, some c => opMakeSlice C.P h T l c
    | _, _ => none
  | .range T x => match rd x with
    | some v => opRange C.P h T v
    | none => none
  | .next x true => match rd x with
    | some v => opNext h v
    | none => none
  | .convert src dst x => match rd x with
    | some v => match litConv C src dst v with
     | some r => some (r, none)
     | none => match opBytesOf C.P h src dst v with
      | some r => some r
      | none => match opStrOf C.P h src dst v with
        | some r => some (r, none)
        | none => match opConvPtr C.P h src dst v with
          | some r => some (r, none)
          | none => still (opConvX C.P src dst v)
    | none => none
  | .slice T x lo hi none => match rd x, optRd rd lo, optRd rd hi with
    | some a, some l, some k => match opSliceArr C.P h T a l k with
      | some r => some (r, none)
      | none => still (opSliceX C.P T a l k)
    | _, _, _ => none
  | .slice T x lo hi (some mx) => match rd x, optRd rd lo, optRd rd hi with
    | some a, some l, some k => match rd mx with
      | some m => still (opSlice3 C.P T a l k (some m))
      | none => none
    | _, _, _ => none
  | .call { callee := .builtin .append, args, argTypes } => match rdAll rd args.toList, argTypes[0]? with
    | some [x, y], some sT => match C.P.underlying sT with
      | some (.slice e) => match plainArg C.P argTypes with
        | true => opAppendE C.P h e x y
        | false => opAppendZ C.P h argTypes e x y
      | _ => none
    | _, _ => none
  | .call { callee := .builtin .unsafeString, args, argTypes } => match rdAll rd args.toList with
    | some [p, n] => match argTypes.size with
      | _ + 1 => opUnsafeString C.P h argTypes p n
      | 0 => none
    | _ => none
  | .call { callee := .builtin .len, args, argTypes } => match rdAll rd args.toList with
    | some [a] => match isMapT C.P argTypes with
      | true => still (opLenMap C.P h argTypes a)
      | false => still (opLenX C.P argTypes a)
    | _ => none
  | .call { callee := .builtin .clear, args, argTypes } => match rdAll rd args.toList with
    | some [a] => match opClear C.P h argTypes a with
      | some h' => some (.tup [], some h')
      | none => none
    | _ => none
  | .makeMap T r => match optRd rd r, C.P.underlying T with
    | some none, _ => some (opMakeMap h)
    | some (some (.int _ _)), some (.map _ _) => some (opMakeMap h)
    | _, _ => none
  | .lookup T m k ok => match rd m, rd k with
    | some a, some b => still (opLookup C.P h T a b ok)
    | _, _ => none
  | .mapUpdate T m k v => match rd m, rd k, rd v with
    | some a, some b, some c => match opMapUpdate C.P h T a b c with
      | some h' => some (.tup [], some h')
      | none => none
    | _, _, _ => none
  | .insert T m k v => match rd m, rd k, rd v with
    | some a, some b, some c => match opMapUpdate C.P h T a b c with
      | some h' => some (.tup [], some h')
      | none => none
    | _, _, _ => none
  | .call { callee := .value f, args, .. } => match rd f, rdAll rd args.toList with
    | some f, some vs => opCall C f vs h
    | _, _ => none
  | o => still (opRest C.P rd o)
abbrev Env := Tr V
def Env.get (e : Env) (s : Nat) : V := match Tr.get e s with
 | some v => v
 | none => .tup []
def rdE (e : Env) : Operand → Option V
 | .tmp t => some (Env.get e t)
 | .const v => constV v
 | .global g => some (.gp g 0)
 | .func f => some (.fn f [] [])
def Env.put (e : Env) (d : Option Nat) (v : V) : Env := match d with
 | some d => Tr.put (some v) e d
 | none => e
def wantedE (e : Env) (ops : Array Oper) (o : Oper) : Option Bool :=
 match o.guard with
 | none => some true
 | some (j, want) => match (ops[j]?).bind (·.dst) with
  | some d => match Env.get e d with
   | .bool b => some (b == want)
   | .any => none
   | .anyb => none
   | _ => some false
  | none => some false
def stepOp (C : Cfg) (ops : Array Oper) (e : Env) (h : Hp) (o : Oper) : Option (V × Option Hp) :=
 match wantedE e ops o with
 | some true => opVal C (rdE e) h o.op
 | some false => some (.tup [], none)
 | none => none
def runOps (C : Cfg) (ops : Array Oper) : List Oper → Env → Hp → Option (Env × Hp)
 | [], e, h => some (e, h)
 | o :: r, e, h => match stepOp C ops e h o with
  | some (v, none) => runOps C ops r (Env.put e o.dst v) h
  | some (v, some h') => runOps C ops r (Env.put e o.dst v) h'
  | none => none
def traceOps (C : Cfg) (ops : Array Oper) : List Oper → Env → Hp → Option (List Bool × Env × Hp)
 | [], e, h => some ([], e, h)
 | o :: r, e, h => match stepOp C ops e h o with
  | some (v, none) => match traceOps C ops r (Env.put e o.dst v) h with
   | some (l, e', h') => some (false :: l, e', h')
   | none => none
  | some (v, some h1) => match traceOps C ops r (Env.put e o.dst v) h1 with
   | some (l, e', h') => some (true :: l, e', h')
   | none => none
  | none => none
def Sound (P : Program) (Γ : Glob) (f : FuncId) (spec : Spec) : Prop :=
 ∀ (args : List V) (h : Hp) (r : V) (h' : Hp), spec args h = some (r, h') → ∀ (N0 : Nat) (w0 : Fr) (ρ : Ren) (w : World) (us : Array Value), Rel Γ N0 w0 ρ h w → VRs ρ args us.toList →
  Calls P f us w (fun e w' => ∃ ρ' v, e = .returned v ∧ Ext ρ ρ' ∧ Rel Γ N0 w0 ρ' h' w' ∧ VR ρ' r v)
def isBody (P : Program) (f : FuncId) : Bool :=
 match P.funcs[f]? with
 | some fn => !(fn.name == "runtime.NumGoroutine") && fn.body.isSome
 | none => false
def ExtOk (P : Program) (f : FuncId) (e : List V → Option V) : Prop :=
 ∀ (args : List V) (r : V), e args = some r → ∀ (ρ : Ren) (w : World) (us : Array Value), VRs ρ args us.toList → ∃ u, (callFunc f us).run P w = .ok (.value u) w ∧ VR ρ r u
def CalleeOk (P : Program) (Γ : Glob) (f : FuncId) (spec : Spec) : Prop :=
 (isBody P f = true ∧ Sound P Γ f spec) ∨
 ∀ (args : List V) (h : Hp) (r : V) (h' : Hp), spec args h = some (r, h') → ∀ (N0 : Nat) (w0 : Fr) (ρ : Ren) (w : World) (us : Array Value), Rel Γ N0 w0 ρ h w → VRs ρ args us.toList →
  ∃ u w' ρ', (callFunc f us).run P w = .ok (.value u) w' ∧ Ext ρ ρ' ∧ Rel Γ N0 w0 ρ' h' w' ∧ VR ρ' r u
structure CtxOk (C : Cfg) : Prop where
 ctx : ∀ f spec, C.ctx f = some spec → CalleeOk C.P C.Γ f spec
 ext : ∀ f e, C.ext f = some e → ExtOk C.P f e
omit [E : Amb] in
theorem run_callFunc {P : Program} {w : World} {f : FuncId} {args : Array Value} (h : isBody P f = true) : (callFunc f args).run P w = .ok (.enter f args) w := by
 unfold isBody at h
 split at h
 ·rename_i fn hf
  simp only [Bool.and_eq_true, Bool.not_eq_true', beq_eq_false_iff_ne, ne_eq] at h
  have hb : fn.body.isNone = false := by cases hh : fn.body <;> simp_all
  simp only [callFunc, Sem.run_bind, run_program, Result.andThen_ok, hf]
  rw [if_neg (by simpa using h.1), hb]
  rfl
 ·cases h
theorem isData_none_all : (∀ (x : V) (ρ : Ren) (u : Value), VR ρ x u → x.isData = true → VR ρ.bare x u) := by
 intro x ρ u hv
 have key : ∀ (xs : List V), V.areData xs = true → ∀ x ∈ xs, x.isData = true := by
  intro xs
  induction xs with
  | nil => intro _ x hx; cases hx
  | cons y ys ih =>
   intro h x hx
   simp only [V.areData] at h
   split at h
   ·rename_i hy
    rcases List.mem_cons.1 hx with rfl | hx
    ·exact hy
    ·exact ih h x hx
   ·cases h
 induction hv with
 | bool b => intro _; exact .bool b
 | int k n => intro _; exact .int k n
 | str l => intro _; exact .str l
 | nilp => intro _; exact .nilp
 | nils => intro _; exact .nils
 | nilmap => intro _; exact .nilmap
 | nilfn => intro _; exact .nilfn
 | nilif => intro _; exact .nilif
 | any u => intro _; exact .any u
 | mod m i k hm h => intro _; exact .mod m i k hm h
 | opq i => intro _; exact .opq i
 | anyb b => intro _; exact .anyb b
 | agg xs us hn hr ih =>
  intro h
  have h' : V.areData xs = true := by simpa [V.isData] using h
  exact .agg _ _ hn fun i x u hx hu => ih i x u hx hu (key xs h' x (List.mem_of_getElem? hx))
 | tup xs us hn hr ih =>
  intro h
  have h' : V.areData xs = true := by simpa [V.isData] using h
  exact .tup _ _ hn fun i x u hx hu => ih i x u hx hu (key xs h' x (List.mem_of_getElem? hx))
 | pl n sz c b o xs m hm hc hn hl hr _ => intro _; exact .pl n sz c b o xs m hm hc hn hl hr
 | pl0 sz c x => intro _; exact .pl0 sz c x
 | pp b o xs m hm hl hr _ => intro _; exact .pp b o xs m hm hl hr
 | lin k c ts n h hn => intro _; exact .lin k c ts n h (by rw [sumR_ext (ρ' := _) ts]; exact hn)
 | sstr xs bs hn hr ih =>
  intro h
  have h' : V.areData xs = true := by simpa [V.isData] using h
  exact .sstr _ _ hn fun i x b hx hb => ih i x b hx hb (key xs h' x (List.mem_of_getElem? hx))
 | _ => intro h; simp [V.isData] at h
theorem areData_VRs {ρ : Ren} {xs : List V} {us : List Value} (h : V.areData xs = true) (hv : VRs ρ xs us) : VRs ρ.bare xs us := by
 induction xs generalizing us with
 | nil => rw [hv.nil_inv]; exact .nil _
 | cons x xs ih =>
  obtain ⟨u, us', rfl, h1, h2⟩ := hv.cons_inv
  simp only [V.areData] at h
  split at h
  ·rename_i hx
   exact .cons (isData_none_all x ρ u h1 hx) (ih h h2)
  ·cases h
section
variable {C : Cfg} {N0 : Nat} {w0 : Fr} {ρ : Ren} {h : Hp} {w : World}
def After (C : Cfg) (N0 : Nat) (w0 : Fr) (ρ : Ren) (h : Hp) (x : V) (h' : Option Hp) (o : Oper) (a : Act) (next : Act → World → Prop) : Prop :=
 ∀ u w' ρ', Ext ρ ρ' → Rel C.Γ N0 w0 ρ' (h'.getD h) w' → VR ρ' x u → next (a.put o.dst u) w'
omit [E : Amb] in
theorem run_v {P : Program} {w : World} (s : Sem Value) : (do pure (Next.value (← s)) : Sem Next).run P w = (s.run P w).andThen fun v w' => .ok (.value v) w' := by
 simp only [Sem.run_bind]; rfl
theorem good_wp {o : Oper} {a : Act} {x : V} {h' : Option Hp} {next : Act → World → Prop} {Q : Exit → Act → World → Prop} {s : Sem Value}
  (hg : Good C.Γ N0 w0 ρ h x h' (s.run C.P w)) (hr : execOp a.eval o = (do pure (Next.value (← s)) : Sem Next)) (hn : After C N0 w0 ρ h x h' o a next) : o.wp C.P a w next Q := by
 obtain ⟨u, w', ρ', h1, h2, h3, h4⟩ := hg
 unfold Oper.wp
 rw [hr, run_v, h1, Result.andThen_ok, Oper.upon_value]
 exact hn u w' ρ' h2 h3 h4
theorem still_wp (H : Rel C.Γ N0 w0 ρ h w) {o : Oper} {a : Act} {x : V} {next : Act → World → Prop} {Q : Exit → Act → World → Prop} {s : Sem Value}
  (hg : ∃ y, s.run C.P w = .ok y w ∧ VR ρ x y) (hr : execOp a.eval o = (do pure (Next.value (← s)) : Sem Next)) (hn : After C N0 w0 ρ h x none o a next) : o.wp C.P a w next Q := by
 obtain ⟨y, h1, h2⟩ := hg
 exact good_wp (s := s) ⟨y, w, ρ, h1, .refl _, H, h2⟩ hr hn
omit [E : Amb] in
theorem still_inv {v : Option V} {x : V} {h' : Option Hp} (hs : still v = some (x, h')) : v = some x ∧ h' = none := by
 cases v with
 | none => cases hs
 | some v => simp only [still, Option.some.injEq, Prod.mk.injEq] at hs; obtain ⟨rfl, rfl⟩ := hs; exact ⟨rfl, rfl⟩
theorem callee_wp {f : FuncId} {spec : Spec} (hc : CalleeOk C.P C.Γ f spec) {args : List V} {h0 h1 : Hp} {r : V} (hs : spec args h0 = some (r, h1)) {N1 : Nat} {w1 : Fr} {ρ1 : Ren} {us : Array Value} (H : Rel C.Γ N1 w1 ρ1 h0 w) (hv : VRs ρ1 args us.toList)
  {o : Oper} {a : Act} {next : Act → World → Prop} {Q : Exit → Act → World → Prop} (hres : (execOp a.eval o).run C.P w = (callFunc f us).run C.P w)
  (hn : ∀ u w' ρ', Ext ρ1 ρ' → Rel C.Γ N1 w1 ρ' h1 w' → VR ρ' r u → next (a.put o.dst u) w') : o.wp C.P a w next Q := by
 unfold Oper.wp
 rw [hres]
 rcases hc with ⟨hb, hsound⟩ | hx
 ·rw [run_callFunc hb, Oper.upon_enter]
  refine (hsound _ _ _ _ hs N1 w1 ρ1 w us H hv).mono ?_
  rintro e w' ⟨ρ', v, rfl, k0, k1, k2⟩
  exact hn v w' ρ' k0 k1 k2
 ·obtain ⟨u, w', ρ', h1, h2, h3, h4⟩ := hx _ _ _ _ hs N1 w1 ρ1 w us H hv
  rw [h1, Oper.upon_value]
  exact hn u w' ρ' h2 h3 h4
omit [E : Amb] in
theorem areSym_get : ∀ {xs : List V} {i : Nat} {x : V}, V.areSym xs = true → xs[i]? = some x → x.isSym = true
 | [], i, x, _, hx => by simp at hx
 | y :: r, i, x, h, hx => by
  rw [V.areSym] at h
  split at h
  ·rename_i hy
   cases i with
   | zero => simp at hx; subst hx; exact hy
   | succ i => exact areSym_get h (by simpa using hx)
  ·cases h
omit [E : Amb] in
theorem tops_get : ∀ {xs : List V} {i : Nat} {x : V}, xs[i]? = some x → x.top ≤ V.tops xs
 | [], i, x, hx => by simp at hx
 | y :: r, i, x, hx => by
  rw [V.tops]
  cases i with
  | zero => simp at hx; subst hx; exact Nat.le_max_left _ _
  | succ i => exact Nat.le_trans (tops_get (xs := r) (by simpa using hx)) (Nat.le_max_right _ _)
theorem VR.move {ρ1 ρ2 : Ren} {K : Nat} (hK : ∀ a, a < K → ρ1 a = ρ2 a) {x : V} {u : Value} (h : VR ρ1 x u) : x.isSym = true → x.top ≤ K → VR ρ2 x u := by
 induction h with
 | bool b => intro _ _; exact .bool b
 | int k n => intro _ _; exact .int k n
 | str l => intro _ _; exact .str l
 | nilp => intro _ _; exact .nilp
 | anyp p => intro _ _; exact .anyp p
 | ptr a o L h => intro hs; cases hs
 | gp g o => intro _ _; exact .gp g o
 | nils => intro _ _; exact .nils
 | sl a o n sz c L h hc hl => intro hs; cases hs
 | sl0 a o sz x => intro hs; cases hs
 | nilmap => intro _ _; exact .nilmap
 | mp a L h => intro hs; cases hs
 | nilfn => intro _ _; exact .nilfn
 | fn f xs ys us vs hn hm hx hy ih1 ih2 => intro hs; cases hs
 | nilif => intro _ _; exact .nilif
 | iface t x u h ih => intro hs; cases hs
 | agg xs us hn hr ih =>
  intro hs ht
  rw [V.isSym] at hs; rw [V.top] at ht
  exact .agg xs us hn fun i x u hx hu => ih i x u hx hu hK (areSym_get hs hx) (Nat.le_trans (tops_get hx) ht)
 | tup xs us hn hr ih =>
  intro hs ht
  rw [V.isSym] at hs; rw [V.top] at ht
  exact .tup xs us hn fun i x u hx hu => ih i x u hx hu hK (areSym_get hs hx) (Nat.le_trans (tops_get hx) ht)
 | any u => intro _ _; exact .any u
 | mod m i k hm h => intro _ _; exact .mod m i k hm h
 | opq i => intro _ _; exact .opq i
 | anyb b => intro _ _; exact .anyb b
 | lin k c ts n h hn => intro _ _; exact .lin k c ts n h (by rw [sumR_ext (ρ' := _) ts]; exact hn)
 | sstr xs bs hn hr ih =>
  intro hs ht
  rw [V.isSym] at hs; rw [V.top] at ht
  exact .sstr xs bs hn fun i x b hx hb => ih i x b hx hb hK (areSym_get hs hx) (Nat.le_trans (tops_get hx) ht)
 | pl n sz c b o xs m hm hc hn hl hr ih => intro hs; cases hs
 | pl0 sz c x => intro hs; cases hs
 | pp b o xs m hm hl hr ih => intro hs; cases hs
 | pk b o x m u hm hu hx ih => intro hs; cases hs
def Ren.frz (ρ : Ren) (N : Nat) (w' : World) : Ren := ⟨ρ.loc, fun b => match ρ.mem b with
 | some m => some m
 | none => if N ≤ b then (match w'.heap[b]? with
  | some (.cells arr el fr) => some ⟨arr, el, fr⟩
  | _ => none) else none⟩
omit [E : Amb] in
theorem frz_ext (N : Nat) (w' : World) : Ext ρ (ρ.frz N w') := ⟨fun _ _ h => h, fun b m h => by
 show (match ρ.mem b with | some m => some m | none => _) = some m
 rw [h]⟩
theorem frz_new {Γ : Glob} (H : Rel Γ N0 w0 ρ h w) {w' : World} {b : Nat} (hN : w.heap.size ≤ b) {m : Mem} (hb : w'.heap[b]? = some (.cells m.arr m.el m.fr)) : (ρ.frz w.heap.size w').mem b = some m := by
 have h0 : ρ.mem b = none := by
  cases hm : ρ.mem b with
  | none => rfl
  | some m0 =>
   have := (Array.getElem?_eq_some_iff.1 (H.pers b m0 hm).1).1
   omega
 show (match ρ.mem b with | some m => some m | none => if w.heap.size ≤ b then (match w'.heap[b]? with | some (.cells arr el fr) => some (⟨arr, el, fr⟩ : Mem) | _ => none) else none) = some m
 rw [h0]
 simp only [if_pos hN, hb]
theorem frz_rel {Γ : Glob} (H : Rel Γ N0 w0 ρ h w) {w' : World} (hb : Below w.heap.size w w') : Rel Γ N0 w0 (ρ.frz w.heap.size w') h w' := by
 have H' := H.grow hb
 refine { H' with
  blk := fun a x hne hx => (H'.blk a x hne hx).ext (frz_ext _ _)
  pers := fun b m hm => ?_ }
 have hm : (match ρ.mem b with | some m => some m | none => if w.heap.size ≤ b then (match w'.heap[b]? with | some (.cells arr el fr) => some (⟨arr, el, fr⟩ : Mem) | _ => none) else none) = some m := hm
 split at hm
 ·rename_i m0 h0
  simp only [Option.some.injEq] at hm; subst hm
  exact H'.pers b m0 h0
 ·split at hm
  ·rename_i hN
   split at hm
   ·rename_i arr el fr hh
    simp only [Option.some.injEq] at hm; subst hm
    exact ⟨hh, .inl (Nat.le_trans H.below.size hN), fun a x L _ hL => by have := H.lt a L hL; omega⟩
   ·cases hm
  ·cases hm
theorem frz_mem {Γ : Glob} (H : Rel Γ N0 w0 ρ h w) {ρ' : Ren} {h0 : Hp} {w' : World} (K : Rel Γ w.heap.size ⟨w, 0, ρ.bare, []⟩ ρ' h0 w') {b : Nat} {m : Mem} (hm : ρ'.mem b = some m) : (ρ.frz w.heap.size w').mem b = some m := by
 obtain ⟨k1, k2, _⟩ := K.pers b m hm
 rcases k2 with k2 | k2
 ·exact frz_new H k2 k1
 ·exact (frz_ext _ _).mem b m k2
theorem mapC_frz {ρ1 ρ2 : Ren} {f : V → Option V} (hf : ∀ x y u, VR ρ1 x u → f x = some y → VR ρ2 y u) {xs ys : List V} (hm : mapC f xs = some ys) {g : Nat → Option Value} (hr : ∀ (i : Nat) x u, xs[i]? = some x → g i = some u → VR ρ1 x u) :
  ys.length = xs.length ∧ ∀ (i : Nat) y u, ys[i]? = some y → g i = some u → VR ρ2 y u := by
 obtain ⟨l1, l2⟩ := mapC_get hm
 refine ⟨l1.symm, fun i y u hy hu => ?_⟩
 have hi : i < xs.length := by rw [l1]; exact (List.getElem?_eq_some_iff.1 hy).1
 have hx : xs[i]? = some xs[i] := List.getElem?_eq_getElem hi
 exact hf _ y u (hr i _ u hx hu) (l2 i _ y hx hy)
theorem byte_any {ρ1 ρ2 : Ren} {x : V} {n : Int} (h : VR ρ1 x (.int .u8 n)) : VR ρ2 x (.int .u8 n) := by
 cases h with
 | int => exact .int _ _
 | any => exact .any _
 | lin _ c ts _ hs hn => exact .lin _ c ts _ hs (by rw [sumR_ext (ρ := ρ1)]; exact hn)
theorem frzV_sound {Γ : Glob} (H : Rel Γ N0 w0 ρ h w) {ρ' : Ren} {h0 : Hp} {w' : World} (K : Rel Γ w.heap.size ⟨w, 0, ρ.bare, []⟩ ρ' h0 w') : ∀ (n : Nat) (v r : V) (u : Value), VR ρ' v u → frzV h0 n v = some r → VR (ρ.frz w.heap.size w').bare r u := by
  intro n
  induction n with
  | zero => intro v r u _ h; cases h
  | succ n ih =>
    intro v r u hv hr
    have blkm : ∀ {a : Nat} {f fb fz : Nat} {xs : List V} {L : Loc}, h0.t.get a = some (.cells f fb fz xs) → ρ' a = some L → ∃ m : Mem, (ρ.frz w.heap.size w').mem L.b = some m ∧ m.arr.size = L.base + L.lim ∧ xs.length ≤ L.lim ∧ ∀ (i : Nat) y z, xs[i]? = some y → m.arr[L.base + i]? = some z → VR ρ' y z := by
      intro a f fb fz xs L hg hL
      obtain ⟨M, hM, hMN, arr, el, fr, k1, k2, k3, k4, k5⟩ := (K.blk _ _ (some_ne hL) hg).ex
      rw [hL] at hM; simp only [Option.some.injEq] at hM; subst hM
      exact ⟨⟨arr, el, fr⟩, frz_new H hMN k1, k2, k3, k4⟩
    simp only [frzV] at hr
    split at hr
    · rename_i a o k sz
      split at hr
      · simp only [Option.some.injEq] at hr; subst hr
        cases hv with
        | sl _ _ _ _ c L hL hc hl => exact .pl0 _ _ _
        | sl0 => exact .pl0 _ _ _
      · rename_i hk
        split at hr
        · rename_i f fb fz xs hg
          split at hr
          · rename_i hle
            obtain ⟨cs, hcs, rfl⟩ := Option.map_eq_some_iff.1 hr
            cases hv with
            | sl0 => exact absurd rfl hk
            | sl _ _ _ _ c L hL hc hl =>
              obtain ⟨m, m1, m2, m3, m4⟩ := blkm hg hL
              obtain ⟨c1, c2⟩ := mapC_frz ih hcs (g := fun i => m.arr[L.base + o + i]?) (fun i x u hx hu => by
                rw [List.getElem?_take] at hx
                split at hx
                · rw [List.getElem?_drop] at hx
                  exact m4 _ x u hx (by rw [← Nat.add_assoc]; exact hu)
                · cases hx)
              have hlen : cs.length = k * sz := by rw [c1, List.length_take, List.length_drop]; omega
              exact .pl k sz c L.b (L.base + o) cs m m1 hc hlen (by omega) c2
          · cases hr
        · cases hr
    · rename_i a o
      split at hr
      · rename_i f fb fz xs hg
        split at hr
        · rename_i hle
          obtain ⟨cs, hcs, rfl⟩ := Option.map_eq_some_iff.1 hr
          obtain ⟨L, hL, rfl⟩ := hv.ptr_inv
          obtain ⟨m, m1, m2, m3, m4⟩ := blkm hg hL
          obtain ⟨c1, c2⟩ := mapC_frz ih hcs (g := fun i => m.arr[L.base + o + i]?) (fun i x u hx hu => by
            rw [List.getElem?_drop] at hx
            exact m4 _ x u hx (by rw [← Nat.add_assoc]; exact hu))
          exact .pp L.b (L.base + o) cs m m1 (fun i hi => by rw [c1, List.length_drop] at hi; omega) c2
        · cases hr
      · cases hr
    · rename_i k sz cs
      simp only [Option.some.injEq] at hr; subst hr
      cases hv with
      | pl _ _ c b o _ m hm hc hn hl hr2 => exact .pl k sz c b o cs m (frz_mem H K hm) hc hn hl fun i x u h1 h2 => VR.ext (ρ := ρ'.bare) (ρ' := (ρ.frz w.heap.size w').bare) (Ext.unbare (ρ' := (ρ.frz w.heap.size w').bare) fun b m e => frz_mem H K e) (hr2 i x u h1 h2)
      | pl0 _ c x => exact .pl0 _ _ _
    · rename_i cs
      simp only [Option.some.injEq] at hr; subst hr
      cases hv with
      | pp b o _ m hm hl hr2 => exact .pp b o cs m (frz_mem H K hm) hl fun i x u h1 h2 => VR.ext (ρ := ρ'.bare) (ρ' := (ρ.frz w.heap.size w').bare) (Ext.unbare (ρ' := (ρ.frz w.heap.size w').bare) fun b m e => frz_mem H K e) (hr2 i x u h1 h2)
    · rename_i cs
      obtain ⟨ds, hds, rfl⟩ := Option.map_eq_some_iff.1 hr
      cases hv with
      | agg _ us hn hr2 =>
        obtain ⟨c1, c2⟩ := mapC_frz ih hds hr2
        exact .agg ds us (by rw [c1]; exact hn) c2
    · rename_i cs
      obtain ⟨ds, hds, rfl⟩ := Option.map_eq_some_iff.1 hr
      cases hv with
      | tup _ us hn hr2 =>
        obtain ⟨c1, c2⟩ := mapC_frz ih hds hr2
        exact .tup ds us (by rw [c1]; exact hn) c2
    · rename_i t x
      obtain ⟨y, hy, rfl⟩ := Option.map_eq_some_iff.1 hr
      cases hv with
      | iface _ _ u h => exact .iface t y u (ih x y u h hy)
    · rename_i l
      simp only [Option.some.injEq] at hr; subst hr
      cases hv with
      | sstr _ bs hn hr2 => exact .sstr _ bs hn fun i x b hx hb => byte_any (hr2 i x b hx hb)
    all_goals first
      | (cases hr; done)
      | (simp only [Option.some.injEq] at hr; subst hr
         cases hv <;> first
           | (constructor; done)
           | (constructor <;> assumption; done)
           | (refine VR.lin _ _ _ _ (by assumption) ?_; rw [sumR_ext (ρ := ρ')]; assumption)
           | (constructor; assumption; done)
           | (exfalso; rename_i hh; exact hh _ _ _ rfl)
           | (exfalso; clear ih blkm H K; simp_all; done)
           | (exfalso; clear ih blkm H K; simp_all; rename_i hh; first | exact hh _ _ _ _ rfl rfl rfl rfl | exact hh _ _ _ rfl rfl rfl | exact hh _ _ rfl rfl | exact hh _ rfl))
theorem frzR_sound {Γ : Glob} (H : Rel Γ N0 w0 ρ h w) {ρ' : Ren} {h0 : Hp} {w' : World} (K : Rel Γ w.heap.size ⟨w, 0, ρ.bare, []⟩ ρ' h0 w') {v r : V} {u : Value} (hv : VR ρ' v u) (hr : frzR h0 v = some r) : VR (ρ.frz w.heap.size w') r u := by
 unfold frzR at hr
 split at hr
 ·rename_i hd
  simp only [Option.some.injEq] at hr; subst hr
  exact VR.ext (Ext.unbare fun b m e => frz_mem H K e) (isData_none_all _ _ _ hv hd)
 ·exact (frzV_sound H K _ _ _ _ hv hr).ext (Ext.unbare fun _ _ e => e)
theorem opBuildLit_sound {P : Program} {Γ : Glob} (H : Rel Γ N0 w0 ρ h w) {T : TypeId} {len : Nat} {parts : List (Nat × V)} {us : List (Nat × Value)} {x : V} (hl : parts.length = us.length)
  (hr : ∀ (k : Nat) a b, parts[k]? = some a → us[k]? = some b → a.1 = b.1 ∧ VR ρ a.2 b.2) (hb : opBuildLit P T len parts = some x) :
  Good Γ N0 w0 ρ h x none ((Instr.buildSlice T len us.toArray).run P w) := by
 unfold opBuildLit at hb
 split at hb
 ·rename_i e hT
  split at hb
  ·rename_i sz zs hsz hz
   split at hb
   ·rename_i hc
    obtain ⟨hp, hzl, hbig⟩ := hc
    split at hb
    ·rename_i cs hcs
     split at hb
     ·rename_i hda
      simp only [Option.some.injEq] at hb; subst hb
      obtain ⟨z, hzr, hzv⟩ := run_zeroValue (P := P) (w := w) hz
      obtain ⟨arr, ha, hc⟩ := fill_sound (R := ρ) parts us _ _ cs (zerosOf_VRs (hzv ρ) (len * sz) (.inr (by omega))) hl hr hcs
      have hcl := vfill_length _ _ _ hcs
      have hcn : cs.length = len * sz := by rw [hcl]; simp [zerosOf]
      have hsz2 : arr.size = len * sz := by
       have := hc.1; rw [hcn] at this; simpa using this.symm
      have hm := frz_new H (w' := World.new w (.cells arr e)) (Nat.le_refl _) (m := ⟨arr, e, (0, 0)⟩) (new_heap_new w _)
      have hd := areData_VRs hda hc
      refine ⟨.slice (some ⟨w.heap.size, 0, none⟩) len len, _, ρ.frz w.heap.size (World.new w (.cells arr e)), ?_, frz_ext _ _, frz_rel H (new_below _ _), .pl len sz len w.heap.size 0 cs _ hm (Nat.le_refl _) hcn (by rw [hcn, Nat.zero_add]; exact Nat.le_of_eq hsz2.symm) fun i x u hx hu => ?_⟩
      ·simp only [Instr.buildSlice, Sem.run_bind, run_underlying hT, run_sizeOf hsz, Result.andThen_ok]
       rw [if_neg (by omega)]
       by_cases e0 : len * sz = 0
       ·have hz0 : (Array.range (len * sz)).map ((#[] : Array Value)[· % (#[] : Array Value).size]!) = (Array.range (len * sz)).map (z.cells[· % z.cells.size]!) := by rw [e0]; simp
        rw [if_pos e0]
        simp only [Sem.run_bind, Sem.run_pure, Result.andThen_ok, hz0, ha, run_newRow]
       ·rw [if_neg e0]
        simp only [Sem.run_bind, Sem.run_pure, hzr, Result.andThen_ok, ha, run_newRow]
      ·refine VR.ext (Ext.unbare (ρ' := (ρ.frz w.heap.size (World.new w (.cells arr e))).bare) fun b m e => (frz_ext _ _).mem b m e) (hd.2 i x u hx ?_)
       rw [Nat.zero_add] at hu
       rw [Array.getElem?_toList]; exact hu
     ·cases hb
    ·cases hb
   ·cases hb
  ·cases hb
 ·cases hb
theorem bytesLit_core {P : Program} {Γ : Glob} (H : Rel Γ N0 w0 ρ h w) {src dst : TypeId} {e : TypeId} (h1 : P.underlying src = some .string) (h2 : P.underlying dst = some (.slice e)) (h3 : P.underlying e = some (.int .u8)) (l : List UInt8) (xs : List V) (hxl : xs.length = l.length)
  (hxs : ∀ (i : Nat) x b, xs[i]? = some x → l[i]? = some b → ∀ ρ' : Ren, VR ρ' x (.int .u8 b.toNat)) :
  Good Γ N0 w0 ρ h (.pl l.length 1 xs) none ((convert src dst (.string ⟨l.toArray⟩)).run P w) := by
 have hlen : (ByteArray.mk l.toArray).size = l.length := by show l.toArray.size = _; simp
 have hrun : ∃ arr fr c, (convert src dst (.string ⟨l.toArray⟩)).run P w = .ok (.slice (some ⟨w.heap.size, 0, none⟩) l.length (l.length + c)) (World.new (World.drew1 w) (.cells (l.toArray.map (fun b : UInt8 => Value.int .u8 b.toNat) ++ arr) e fr)) := by
  refine ⟨Array.replicate (w.tape w.drawn (.appendCap l.length 0 e) % (2 ^ 63 - l.length)) (Value.int .u8 0), ((l.toArray.map (fun b : UInt8 => Value.int .u8 b.toNat) ++ Array.replicate (w.tape w.drawn (.appendCap l.length 0 e) % (2 ^ 63 - l.length)) (Value.int .u8 0)).size, (l.toArray.map (fun b : UInt8 => Value.int .u8 b.toNat) ++ Array.replicate (w.tape w.drawn (.appendCap l.length 0 e) % (2 ^ 63 - l.length)) (Value.int .u8 0)).size + 1), w.tape w.drawn (.appendCap l.length 0 e) % (2 ^ 63 - l.length), ?_⟩
  have hfr := drew_new_freeze (World.drew1 w) (l.toArray.map (fun b : UInt8 => Value.int .u8 b.toNat) ++ Array.replicate (w.tape w.drawn (.appendCap l.length 0 e) % (2 ^ 63 - l.length)) (Value.int .u8 0)) e
  simp only [convert, Sem.run_bind, run_underlying h1, run_underlying h2, Result.andThen_ok, run_underlying h3, Conv.stringToBytes, hlen, run_appendCap, Nat.add_sub_cancel_left, run_newRow]
  have hms : (markStringish ⟨(World.drew1 w).heap.size, 0, none⟩).run P (World.new (World.drew1 w) (.cells (l.toArray.map (fun b : UInt8 => Value.int .u8 b.toNat) ++ Array.replicate (w.tape w.drawn (.appendCap l.length 0 e) % (2 ^ 63 - l.length)) (Value.int .u8 0)) e)) = .ok () ((World.new (World.drew1 w) (.cells (l.toArray.map (fun b : UInt8 => Value.int .u8 b.toNat) ++ Array.replicate (w.tape w.drawn (.appendCap l.length 0 e) % (2 ^ 63 - l.length)) (Value.int .u8 0)) e)).freeze ⟨(World.drew1 w).heap.size, (l.toArray.map (fun b : UInt8 => Value.int .u8 b.toNat) ++ Array.replicate (w.tape w.drawn (.appendCap l.length 0 e) % (2 ^ 63 - l.length)) (Value.int .u8 0)).size, none⟩ 1) := by
   simp only [markStringish, Sem.run_bind, shape, freeze, Sem.run]
   have : (World.new (World.drew1 w) (.cells (l.toArray.map (fun b : UInt8 => Value.int .u8 b.toNat) ++ Array.replicate (w.tape w.drawn (.appendCap l.length 0 e) % (2 ^ 63 - l.length)) (Value.int .u8 0)) e)).shape? (World.drew1 w).heap.size = some (e, (l.toArray.map (fun b : UInt8 => Value.int .u8 b.toNat) ++ Array.replicate (w.tape w.drawn (.appendCap l.length 0 e) % (2 ^ 63 - l.length)) (Value.int .u8 0)).size) := by
    simp [World.shape?, new_heap_new]
   simp only [this, Result.andThen_ok, Sem.run]
  rw [hfr] at hms
  simp only [hms, Result.andThen_ok]
  rfl
 obtain ⟨arr, fr, c, hrun⟩ := hrun
 have hbel : Below w.heap.size w (World.new (World.drew1 w) (.cells (l.toArray.map (fun b : UInt8 => Value.int .u8 b.toNat) ++ arr) e fr)) := (drew1_below w _).trans (new_below (World.drew1 w) _)
 have hm := frz_new H (w' := World.new (World.drew1 w) (.cells (l.toArray.map (fun b : UInt8 => Value.int .u8 b.toNat) ++ arr) e fr)) (Nat.le_refl _) (m := ⟨l.toArray.map (fun b : UInt8 => Value.int .u8 b.toNat) ++ arr, e, fr⟩) (new_heap_new (World.drew1 w) _)
 refine ⟨_, _, ρ.frz w.heap.size (World.new (World.drew1 w) (.cells (l.toArray.map (fun b : UInt8 => Value.int .u8 b.toNat) ++ arr) e fr)), hrun, frz_ext _ _, frz_rel H hbel, ?_⟩
 refine .pl l.length 1 (l.length + c) w.heap.size 0 _ _ hm (Nat.le_add_right _ _) (hxl.trans (Nat.mul_one _).symm) (by rw [Nat.zero_add, hxl, Array.size_append, Array.size_map, List.size_toArray]; exact Nat.le_add_right _ _) fun i x u hx hu => ?_
 have hi := (List.getElem?_eq_some_iff.1 hx).1
 have hi2 : i < l.length := by omega
 rw [Nat.zero_add, Array.getElem?_append_left (by simpa using hi2)] at hu
 simp only [Array.getElem?_map, List.getElem?_toArray, List.getElem?_eq_getElem hi2, Option.map_some, Option.some.injEq] at hu
 subst hu
 exact hxs i x _ hx (List.getElem?_eq_getElem hi2) _
theorem opBytesLit_sound {P : Program} {Γ : Glob} (H : Rel Γ N0 w0 ρ h w) {src dst : TypeId} {v x : V} {u : Value} (hv : VR ρ v u) (hb : opBytesLit P src dst v = some x) :
  Good Γ N0 w0 ρ h x none ((convert src dst u).run P w) := by
 unfold opBytesLit at hb
 split at hb
 ·rename_i e l h1 h2
  cases hv.str_inv
  split at hb
  ·rename_i h3
   simp only [Option.some.injEq] at hb; subst hb
   refine bytesLit_core H h1 h2 h3 l _ (by simp) fun i x b hx hb ρ' => ?_
   rw [List.getElem?_map, hb] at hx
   simp only [Option.map_some, Option.some.injEq] at hx; subst hx
   exact .int _ _
  ·cases hb
 ·rename_i e l h1 h2
  split at hb
  ·rename_i h3
   simp only [Option.some.injEq] at hb; subst hb
   cases hv with
   | sstr _ bs hn hr =>
    have := bytesLit_core H h1 h2 h3 bs l hn fun i x b hx hb ρ' => byte_any (hr i x b hx hb)
    rw [hn]; exact this
  ·cases hb
 ·cases hb
theorem opSym_wp (H : Rel C.Γ N0 w0 ρ h w) {f : FuncId} {spec : Spec} (hc : CalleeOk C.P C.Γ f spec) {l : List V} {x : V} {h' : Option Hp} (hs : opSym spec l = some (x, h')) {us : Array Value} (hv : VRs ρ l us.toList)
  {o : Oper} {a : Act} {next : Act → World → Prop} {Q : Exit → Act → World → Prop} (hres : (execOp a.eval o).run C.P w = (callFunc f us).run C.P w) (hn : After C N0 w0 ρ h x h' o a next) : o.wp C.P a w next Q := by
 unfold opSym at hs
 split at hs
 ·rename_i hsym
  split at hs
  ·rename_i r hh hr
   split at hs
   ·rename_i hrs hrt
    simp only [Option.some.injEq, Prod.mk.injEq] at hs; obtain ⟨rfl, rfl⟩ := hs
    have hrt := Nat.le_of_ble_eq_true hrt
    have hcut : ∀ a, a < V.tops l → ρ a = (⟨fun a => if a < V.tops l then ρ a else none, ρ.mem⟩ : Ren) a := fun a ha => (if_pos ha).symm
    have H0 := Rel.startK H.globNow (V.tops l) ⟨fun a => if a < V.tops l then ρ a else none, ρ.mem⟩ (fun a ha => if_neg (by omega)) (fun a L hL => by
     have hL : (if a < V.tops l then ρ a else none) = some L := hL
     split at hL
     ·exact H.lt a L hL
     ·cases hL) (fun b m hb => (H.pers b m hb).1)
    refine callee_wp hc hr H0 ⟨hv.1, fun i x u hx hu => (hv.2 i x u hx hu).move hcut (areSym_get hsym hx) (tops_get hx)⟩ hres ?_
    intro v w' ρ' _ k1 k2
    refine hn v w' ρ (.refl _) (H.grow k1.below) (k2.move (K := V.tops l) (fun a ha => ?_) hrs hrt)
    rw [hcut a ha]
    exact k1.old.2 a ha
   ·cases hs
  ·cases hs
 ·cases hs
theorem opCall_sound (hctx : CtxOk C) (H : Rel C.Γ N0 w0 ρ h w) {f : V} {args : List V} {uf : Value} {us : Array Value} {x : V} {h' : Option Hp} (hf : VR ρ f uf) (hv : VRs ρ args us.toList) (hs : opCall C f args h = some (x, h'))
  {o : Oper} {a : Act} {next : Act → World → Prop} {Q : Exit → Act → World → Prop} {oa : Array Operand} {fo : Operand} {at' : Array TypeId} (hop : o.op = .call { callee := .value fo, args := oa, argTypes := at' }) (hfo : a.eval fo = uf) (hoa : oa.map a.eval = us)
  (hn : After C N0 w0 ρ h x h' o a next) : o.wp C.P a w next Q := by
 unfold opCall at hs
 split at hs
 ·rename_i g xs ys
  cases hf with
  | fn _ _ _ vs1 vs2 hn1 hn2 hx hy =>
  have hx' : VRs ρ xs vs1.toList := ⟨by simpa using hn1, fun i x u h1 h2 => hx i x u h1 (by simpa using h2)⟩
  have hy' : VRs ρ ys vs2.toList := ⟨by simpa using hn2, fun i x u h1 h2 => hy i x u h1 (by simpa using h2)⟩
  have hall : VRs ρ (xs ++ (args ++ ys)) ((vs1 ++ us) ++ vs2).toList := by
   have := hx'.append (hv.append hy')
   simpa using this
  have hres : (execOp a.eval o).run C.P w = (callFunc g ((vs1 ++ us) ++ vs2)).run C.P w := by
   unfold execOp
   rw [hop]
   simp only [resolve, hfo, hoa, Deferred.ofValue, Sem.run_bind, Sem.run_pure, Result.andThen_ok, invoke]
  split at hs
  ·rename_i spec hsp
   have hcal := hctx.ctx g spec hsp
   have hall0 : V.areData xs = true → V.areData args = true → V.areData ys = true → VRs ρ.bare (xs ++ (args ++ ys)) ((vs1 ++ us) ++ vs2).toList := fun d1 d2 d3 => by
    have := (areData_VRs d1 hx').append ((areData_VRs d2 hv).append (areData_VRs d3 hy'))
    simpa using this
   split at hs
   ·split at hs
    ·rename_i d1 d2 d3
     split at hs
     ·rename_i r hh hr
      split at hs
      ·rename_i r' hrd
       simp only [Option.some.injEq, Prod.mk.injEq] at hs; obtain ⟨rfl, rfl⟩ := hs
       refine callee_wp hcal hr H.startB (hall0 d1 d2 d3) hres ?_
       intro v w' ρ' _ k1 k2
       exact hn v w' _ (frz_ext _ _) (frz_rel H k1.below) (frzR_sound H k1 k2 hrd)
      ·cases hs
     ·cases hs
    ·exact opSym_wp H hcal hs hall hres hn
   ·split at hs
    ·rename_i hcl
     simp only [Bool.and_eq_true] at hcl
     obtain ⟨_, d1, d2, d3⟩ := hcl
     split at hs
     ·rename_i r h0 hr
      simp only [Option.some.injEq, Prod.mk.injEq] at hs; obtain ⟨rfl, rfl⟩ := hs
      refine callee_wp hcal hr H.startB (hall0 d1 d2 d3) hres ?_
      intro v w' ρ' k0 k1 k2
      exact hn v w' _ (join_ext H fun b m e => k0.mem b m e) (H.beside (k1.gc r) fun b m e => k0.mem b m e) k2.shift
     ·cases hs
    split at hs
    ·rename_i r hh hr
     simp only [Option.some.injEq, Prod.mk.injEq] at hs; obtain ⟨rfl, rfl⟩ := hs
     exact callee_wp hcal hr H hall hres fun v w' ρ' k0 k1 k2 => hn v w' ρ' k0 k1 k2
    ·cases hs
  ·split at hs
   ·rename_i e he
    split at hs
    ·rename_i r hr
     simp only [Option.some.injEq, Prod.mk.injEq] at hs; obtain ⟨rfl, rfl⟩ := hs
     obtain ⟨u, h1, h2⟩ := hctx.ext g e he _ _ hr ρ w _ hall
     unfold Oper.wp
     rw [hres, h1, Oper.upon_value]
     exact hn u w ρ (.refl _) H h2
    ·cases hs
   ·cases hs
 ·cases hs
theorem two_args {ρ : Ren} {ev : Operand → Value} {l : List Operand} {x y : V} (h1 : [x, y].length = l.length) (h2 : ∀ (i : Nat) a b, [x, y][i]? = some a → (l.map ev)[i]? = some b → VR ρ a b) :
  ∃ x0 y0, l = [x0, y0] ∧ VR ρ x (ev x0) ∧ VR ρ y (ev y0) := by
 cases l with
 | nil => simp at h1
 | cons x0 r =>
  cases r with
  | nil => simp at h1
  | cons y0 r =>
   cases r with
   | nil => exact ⟨x0, y0, rfl, h2 0 _ _ rfl rfl, h2 1 _ _ rfl rfl⟩
   | cons _ _ => simp at h1
theorem one_arg {ρ : Ren} {ev : Operand → Value} {l : List Operand} {x : V} (h1 : [x].length = l.length) (h2 : ∀ (i : Nat) a b, [x][i]? = some a → (l.map ev)[i]? = some b → VR ρ a b) :
  ∃ x0, l = [x0] ∧ VR ρ x (ev x0) := by
 cases l with
 | nil => simp at h1
 | cons x0 r =>
  cases r with
  | nil => exact ⟨x0, rfl, h2 0 _ _ rfl rfl⟩
  | cons _ _ => simp at h1
omit [E : Amb] in
theorem zip_get {α β : Type} {l : List α} {m : List β} {i : Nat} {x : α × β} (h : (l.zip m)[i]? = some x) : l[i]? = some x.1 ∧ m[i]? = some x.2 := by
 rw [List.getElem?_zip_eq_some] at h; exact h
omit [E : Amb] in
theorem toArray_of_toList {α : Type} {a : Array α} {l : List α} (h : a.toList = l) : a = l.toArray := by
 apply Array.toList_inj.1; simpa using h
theorem parts_ok {ev : Operand → Value} {rd : Operand → Option V} (hρ : ∀ x v, rd x = some v → VR ρ v (ev x)) {parts : Array (Nat × Operand)} {vs : List V} (hvs : rdAll rd (parts.toList.map (·.2)) = some vs) :
  ((parts.toList.map (·.1)).zip vs).length = ((parts.toList.map (·.1)).zip ((parts.toList.map (·.2)).map ev)).length ∧
  (∀ (k : Nat) a b, ((parts.toList.map (·.1)).zip vs)[k]? = some a → ((parts.toList.map (·.1)).zip ((parts.toList.map (·.2)).map ev))[k]? = some b → a.1 = b.1 ∧ VR ρ a.2 b.2) ∧
  ((parts.toList.map (·.1)).zip ((parts.toList.map (·.2)).map ev)).toArray = (parts.map fun (i, x) => (i, ev x)) := by
 obtain ⟨l1, l2⟩ := rdAll_sound hρ _ _ hvs
 refine ⟨by simp at l1 ⊢; omega, fun k a b ha hb => ?_, ?_⟩
 ·obtain ⟨a1, a2⟩ := zip_get ha
  obtain ⟨b1, b2⟩ := zip_get hb
  rw [a1] at b1
  exact ⟨by simpa using b1, l2 k _ _ a2 b2⟩
 ·apply Array.toList_inj.1
  simp [List.zip_map', List.map_map]
theorem opVal_sound (hctx : CtxOk C) (H : Rel C.Γ N0 w0 ρ h w) {rd : Operand → Option V} {o : Oper} {a : Act} (hρ : ∀ x v, rd x = some v → VR ρ v (a.eval x)) {x : V} {h' : Option Hp} (hs : opVal C rd h o.op = some (x, h'))
  {next : Act → World → Prop} {Q : Exit → Act → World → Prop} (hn : After C N0 w0 ρ h x h' o a next) : o.wp C.P a w next Q := by
 unfold opVal at hs
 split at hs
 ·-- load
  rename_i T ad hop
  split at hs
  ·rename_i v hv
   obtain ⟨hs2, hh2⟩ := still_inv hs; clear hs; subst hh2; have hs := hs2; clear hs2
   exact still_wp H (opLoad_sound H (hρ _ _ hv) hs) (by unfold execOp; rw [hop]) hn
  ·cases hs
 ·-- store
  rename_i T ad y hop
  split at hs
  ·rename_i va vv hva hvv
   split at hs
   ·rename_i h1 hst
    simp only [Option.some.injEq, Prod.mk.injEq] at hs; obtain ⟨rfl, rfl⟩ := hs
    obtain ⟨w', r1, r2⟩ := opStore_sound (P := C.P) H (hρ _ _ hva) (hρ _ _ hvv) hst
    unfold Oper.wp execOp
    rw [hop]
    simp only [Sem.run_bind, r1, Result.andThen_ok]
    show o.upon C.P a next Q (.ok .skip w')
    rw [Oper.upon_skip]
    exact hn undef w' ρ (.refl _) r2 (VRs.tup (.nil _))
   ·cases hs
  ·cases hs
 ·rename_i T hop
  exact good_wp (opAlloc_sound H hs) (by unfold execOp; rw [hop]) hn
 ·rename_i T y hop
  split at hs
  ·rename_i v hv
   split at hs
   ·cases hs
   ·rename_i hna
    have e := hs
    simp only [Option.some.injEq] at e
    have hg := opBox_sound (P := C.P) (T := T) H (hρ _ _ hv) hna
    rw [e] at hg
    exact good_wp hg (by unfold execOp; rw [hop]) hn
  ·cases hs
 ·rename_i T len parts hop
  split at hs
  ·rename_i vs hvs
   obtain ⟨p1, p2, p3⟩ := parts_ok hρ hvs
   split at hs
   ·obtain ⟨hs2, rfl⟩ := still_inv hs
    have := opBuildLit_sound (P := C.P) H p1 p2 hs2
    rw [p3] at this
    exact good_wp this (by unfold execOp; rw [hop]) hn
   split at hs
   ·cases hs
   have := opBuildSlice_sound (P := C.P) H p1 p2 hs
   rw [p3] at this
   exact good_wp this (by unfold execOp; rw [hop]) hn
  ·cases hs
 ·rename_i T l c hop
  split at hs
  ·rename_i vl vc hl hc
   exact good_wp (opMakeSlice_sound H (hρ _ _ hl) (hρ _ _ hc) hs) (by unfold execOp; rw [hop]) hn
  ·cases hs
 ·rename_i T y hop
  split at hs
  ·rename_i v hv
   exact good_wp (opRange_sound H (hρ _ _ hv) hs) (by unfold execOp; rw [hop]) hn
  ·cases hs
 ·rename_i y hop
  split at hs
  ·rename_i v hv
   exact good_wp (opNext_sound H (hρ _ _ hv) hs) (by unfold execOp; rw [hop]) hn
  ·cases hs
 ·rename_i src dst y hop
  split at hs
  ·rename_i v hv
   split at hs
   ·rename_i r hr
    simp only [Option.some.injEq, Prod.mk.injEq] at hs; obtain ⟨rfl, rfl⟩ := hs
    have hr2 : opBytesLit C.P src dst v = some r := by
     unfold litConv at hr
     split at hr
     ·exact hr
     ·cases hr
    exact good_wp (opBytesLit_sound (P := C.P) H (hρ _ _ hv) hr2) (by unfold execOp; rw [hop]) hn
   split at hs
   ·rename_i r hr
    simp only [Option.some.injEq] at hs; subst hs
    exact good_wp (opBytesOf_sound H (hρ _ _ hv) hr) (by unfold execOp; rw [hop]) hn
   ·split at hs
    ·rename_i r hr
     simp only [Option.some.injEq, Prod.mk.injEq] at hs; obtain ⟨rfl, rfl⟩ := hs
     exact still_wp H (opStrOf_sound H (hρ _ _ hv) hr) (by unfold execOp; rw [hop]) hn
    ·split at hs
     ·rename_i r hr
      simp only [Option.some.injEq, Prod.mk.injEq] at hs; obtain ⟨rfl, rfl⟩ := hs
      exact still_wp H (opConvPtr_sound H (hρ _ _ hv) hr) (by unfold execOp; rw [hop]) hn
     ·obtain ⟨hs2, hh2⟩ := still_inv hs; clear hs; subst hh2; have hs := hs2; clear hs2
      exact still_wp H (opConvX_sound (hρ _ _ hv) hs) (by unfold execOp; rw [hop]) hn
  ·cases hs
 ·rename_i T y lo hi hop
  split at hs
  ·rename_i va vl vh ha hl hh
   split at hs
   ·rename_i r hr
    simp only [Option.some.injEq, Prod.mk.injEq] at hs; obtain ⟨rfl, rfl⟩ := hs
    exact still_wp H (opSliceArr_sound H (hρ _ _ ha) (optRd_sound hρ hl) (optRd_sound hρ hh) hr) (by unfold execOp; rw [hop]; rfl) hn
   ·obtain ⟨hs2, hh2⟩ := still_inv hs; clear hs; subst hh2; have hs := hs2; clear hs2
    exact still_wp H (opSliceX_sound (hρ _ _ ha) (optRd_sound hρ hl) (optRd_sound hρ hh) hs) (by unfold execOp; rw [hop]; rfl) hn
  ·cases hs
 ·rename_i T y lo hi mx hop
  split at hs
  ·rename_i va vl vh ha hl hh
   split at hs
   ·rename_i vm hm
    obtain ⟨hs2, hh2⟩ := still_inv hs; clear hs; subst hh2; have hs := hs2; clear hs2
    exact still_wp H (opSlice3_sound (vmx := some (a.eval mx)) (hρ _ _ ha) (optRd_sound hρ hl) (optRd_sound hρ hh) (show OptVR ρ (some vm) (some (a.eval mx)) from hρ _ _ hm) hs) (by unfold execOp; rw [hop]; rfl) hn
   ·cases hs
  ·cases hs
 ·rename_i args argTypes hop
  split at hs
  ·rename_i vx vy sT hvs h0
   obtain ⟨l1, l2⟩ := rdAll_sound hρ _ _ hvs
   obtain ⟨x0, y0, hl, g1, g2⟩ := two_args l1 l2
   have ha := toArray_of_toList hl
   subst ha
   split at hs
   ·rename_i e h1
    split at hs
    ·rename_i hpl
     have := opAppendE_sound (P := C.P) (T := o.type) H g1 g2 h0 h1 hpl hs
     exact good_wp (s := Builtin.append_ argTypes o.type ([x0, y0].toArray.map a.eval)) (by simpa using this) (by unfold execOp; rw [hop]; rfl) hn
    ·have := opAppendZ_sound (P := C.P) (T := o.type) H g1 g2 h0 h1 hs
     exact good_wp (s := Builtin.append_ argTypes o.type ([x0, y0].toArray.map a.eval)) (by simpa using this) (by unfold execOp; rw [hop]; rfl) hn
   ·cases hs
  ·cases hs
 ·rename_i args argTypes hop
  split at hs
  ·rename_i vx vy hvs
   obtain ⟨l1, l2⟩ := rdAll_sound hρ _ _ hvs
   obtain ⟨x0, y0, hl, g1, g2⟩ := two_args l1 l2
   have ha := toArray_of_toList hl
   subst ha
   split at hs
   ·rename_i hpt
    have := opUnsafeString_sound (P := C.P) (T := o.type) H g1 g2 hs (by cases argTypes with | mk l => cases l with | nil => cases hpt | cons q r => exact ⟨q, rfl⟩)
    exact good_wp (s := Builtin.unsafeString_ argTypes o.type ([x0, y0].toArray.map a.eval)) (by simpa using this) (by unfold execOp; rw [hop]; rfl) hn
   ·cases hs
  ·cases hs
 ·-- len
  rename_i args argTypes hop
  split at hs
  ·rename_i vx hvs
   obtain ⟨l1, l2⟩ := rdAll_sound hρ _ _ hvs
   obtain ⟨x0, hl, g1⟩ := one_arg l1 l2
   have ha := toArray_of_toList hl
   subst ha
   split at hs
   ·obtain ⟨hs2, hh2⟩ := still_inv hs; clear hs; subst hh2; have hs := hs2; clear hs2
    have := opLenMap_sound (P := C.P) (T := o.type) H g1 hs
    exact still_wp H (s := Builtin.len_ argTypes o.type ([x0].toArray.map a.eval)) (by simpa using this) (by unfold execOp; rw [hop]; rfl) hn
   ·obtain ⟨hs2, hh2⟩ := still_inv hs; clear hs; subst hh2; have hs := hs2; clear hs2
    have := opLenX_sound (P := C.P) (w := w) (T := o.type) g1 hs
    exact still_wp H (s := Builtin.len_ argTypes o.type ([x0].toArray.map a.eval)) (by simpa using this) (by unfold execOp; rw [hop]; rfl) hn
  ·cases hs
 ·-- clear
  rename_i args argTypes hop
  split at hs
  ·rename_i vx hvs
   obtain ⟨l1, l2⟩ := rdAll_sound hρ _ _ hvs
   obtain ⟨x0, hl, g1⟩ := one_arg l1 l2
   have ha := toArray_of_toList hl
   subst ha
   split at hs
   ·rename_i h1 hst
    simp only [Option.some.injEq, Prod.mk.injEq] at hs; obtain ⟨rfl, rfl⟩ := hs
    have := opClear_sound (P := C.P) (T := o.type) H g1 hst
    exact good_wp (s := Builtin.clear_ argTypes o.type ([x0].toArray.map a.eval)) (by simpa using this) (by unfold execOp; rw [hop]; rfl) hn
   ·cases hs
  ·cases hs
 ·-- makeMap
  rename_i T r hop
  split at hs
  ·rename_i hr
   simp only [Option.some.injEq] at hs
   obtain rfl : r = none := by
    cases r with
    | none => rfl
    | some y => simp only [optRd, Option.map_eq_some_iff] at hr; obtain ⟨_, _, hh⟩ := hr; cases hh
   have hg := opMakeMap_sound (P := C.P) (T := T) (r := none) H (fun u hu => by cases hu)
   rw [hs] at hg
   exact good_wp hg (by unfold execOp; rw [hop]; rfl) hn
  ·rename_i k n kt et hr hT
   simp only [Option.some.injEq] at hs
   cases r with
   | none => simp only [optRd, Option.some.injEq] at hr; cases hr
   | some y =>
    simp only [optRd, Option.map_eq_some_iff] at hr
    obtain ⟨z, hz, hh⟩ := hr
    simp only [Option.some.injEq] at hh; subst hh
    have hi := (hρ _ _ hz).int_inv
    have hg := opMakeMap_sound (P := C.P) (T := T) (r := some (a.eval y)) H (fun u hu => by
     simp only [Option.some.injEq] at hu; subst hu
     exact ⟨k, n, hi, kt, et, hT⟩)
    rw [hs] at hg
    exact good_wp hg (by unfold execOp; rw [hop]; rfl) hn
  ·cases hs
 ·-- lookup
  rename_i T m k ok hop
  split at hs
  ·rename_i va vb ha hb
   obtain ⟨hs2, hh2⟩ := still_inv hs; clear hs; subst hh2; have hs := hs2; clear hs2
   exact still_wp H (opLookup_sound H (hρ _ _ ha) (hρ _ _ hb) hs) (by unfold execOp; rw [hop]) hn
  ·cases hs
 ·-- mapUpdate
  rename_i T m k v hop
  split at hs
  ·rename_i va vb vc ha hb hc
   split at hs
   ·rename_i h1 hst
    simp only [Option.some.injEq, Prod.mk.injEq] at hs; obtain ⟨rfl, rfl⟩ := hs
    obtain ⟨w', r1, r2⟩ := opMapUpdate_sound (P := C.P) H (hρ _ _ ha) (hρ _ _ hb) (hρ _ _ hc) hst
    unfold Oper.wp execOp
    rw [hop]
    simp only [Sem.run_bind, r1, Result.andThen_ok]
    show o.upon C.P a next Q (.ok .skip w')
    rw [Oper.upon_skip]
    exact hn undef w' ρ (.refl _) r2 (VRs.tup (.nil _))
   ·cases hs
  ·cases hs
 ·-- insert
  rename_i T m k v hop
  split at hs
  ·rename_i va vb vc ha hb hc
   split at hs
   ·rename_i h1 hst
    simp only [Option.some.injEq, Prod.mk.injEq] at hs; obtain ⟨rfl, rfl⟩ := hs
    obtain ⟨w', r1, r2⟩ := opMapUpdate_sound (P := C.P) H (hρ _ _ ha) (hρ _ _ hb) (hρ _ _ hc) hst
    unfold Oper.wp execOp
    rw [hop]
    simp only [Sem.run_bind, r1, Result.andThen_ok]
    show o.upon C.P a next Q (.ok .skip w')
    rw [Oper.upon_skip]
    exact hn undef w' ρ (.refl _) r2 (VRs.tup (.nil _))
   ·cases hs
  ·cases hs
 ·rename_i fo args argTypes hop
  split at hs
  ·rename_i vf vs hf hvs
   obtain ⟨l1, l2⟩ := rdAll_sound hρ _ _ hvs
   exact opCall_sound hctx H (hρ _ _ hf) (us := args.map a.eval) ⟨by simpa using l1, fun i x u hx hu => l2 i x u hx (by simpa using hu)⟩ hs hop rfl rfl hn
  ·cases hs
 ·obtain ⟨hs2, hh2⟩ := still_inv hs; clear hs; subst hh2; have hs := hs2; clear hs2
  unfold opRest at hs
  split at hs
  ·rename_i T parts hop
   split at hs
   ·rename_i vs hvs
    obtain ⟨p1, p2, p3⟩ := parts_ok hρ hvs
    have := opBuild_sound (P := C.P) (w := w) p1 p2 hs
    rw [p3] at this
    exact still_wp H this (by unfold execOp; rw [hop]) hn
   ·cases hs
  ·rename_i args argTypes hop
   split at hs
   ·rename_i vx hvs
    obtain ⟨l1, l2⟩ := rdAll_sound hρ _ _ hvs
    obtain ⟨x0, hl, g1⟩ := one_arg l1 l2
    have ha := toArray_of_toList hl
    subst ha
    have := opSliceData_sound (P := C.P) (w := w) (argTypes := argTypes) (T := o.type) g1 hs
    exact still_wp H (s := Builtin.unsafeSliceData_ argTypes o.type ([x0].toArray.map a.eval)) (by simpa using this) (by unfold execOp; rw [hop]; rfl) hn
   ·cases hs
  ·rename_i args argTypes hop
   split at hs
   ·rename_i vx hvs
    obtain ⟨l1, l2⟩ := rdAll_sound hρ _ _ hvs
    obtain ⟨x0, hl, g1⟩ := one_arg l1 l2
    have ha := toArray_of_toList hl
    subst ha
    have := opCapNil_sound (P := C.P) (w := w) (argTypes := argTypes) (T := o.type) g1 hs
    exact still_wp H (s := Builtin.cap_ argTypes o.type ([x0].toArray.map a.eval)) (by simpa using this) (by unfold execOp; rw [hop]; rfl) hn
   ·cases hs
  ·rename_i args argTypes hop
   split at hs
   ·rename_i vx vy hvs
    obtain ⟨l1, l2⟩ := rdAll_sound hρ _ _ hvs
    obtain ⟨x0, y0, hl, g1, g2⟩ := two_args l1 l2
    have ha := toArray_of_toList hl
    subst ha
    have := opCopyNil_sound (P := C.P) (w := w) (argTypes := argTypes) (T := o.type) g1 g2 hs
    exact still_wp H (s := Builtin.copy_ argTypes o.type ([x0, y0].toArray.map a.eval)) (by simpa using this) (by unfold execOp; rw [hop]; rfl) hn
   ·cases hs
  ·obtain ⟨y, hr, ho⟩ := popS_sound (w := w) hρ hs
   unfold Oper.wp
   rw [hr, Oper.upon_value]
   exact hn y w ρ (.refl _) H ho
end
def pairsSame : List (V × V) → List (V × V) → Bool
 | [], l => match l with | [] => true | _ :: _ => false
 | x :: r, l => match l with | [] => false | y :: s => (x.1.same y.1 && x.2.same y.2) && pairsSame r s
omit [E : Amb] in
theorem pairsSame_eq : ∀ (x y : List (V × V)), pairsSame x y = true → x = y
 | [], l, h => by cases l <;> simp only [pairsSame, Bool.false_eq_true] at h; rfl
 | (x1, x2) :: r, l, h => by
  cases l with
  | nil => simp only [pairsSame, Bool.false_eq_true] at h
  | cons y s =>
   obtain ⟨y1, y2⟩ := y
   simp only [pairsSame, Bool.and_eq_true] at h
   rw [V.same_eq _ _ h.1.1, V.same_eq _ _ h.1.2, pairsSame_eq _ _ h.2]
def Blk.same : Blk → Blk → Bool
 | .cells f b z xs, y => match y with | .cells g c x ys => (Nat.beq f g && Nat.beq b c) && (Nat.beq z x && V.sames xs ys) | _ => false
 | .iter l p, y => match y with | .iter m q => V.sames l m && Nat.beq p q | _ => false
 | .mapo es c, y => match y with | .mapo fs d => pairsSame es fs && Nat.beq c d | _ => false
omit [E : Amb] in
theorem Blk.same_eq (x y : Blk) (h : x.same y = true) : x = y := by
 cases x <;> cases y <;> simp only [Blk.same, Bool.and_eq_true, nbq, Bool.false_eq_true] at h
 ·rw [h.1.1, h.1.2, h.2.1, V.sames_eq _ _ h.2.2]
 ·rw [V.sames_eq _ _ h.1, h.2]
 ·rw [pairsSame_eq _ _ h.1, h.2]
def Tr.eqT {α : Type} (s : α → α → Bool) : Tr α → Tr α → Bool
 | .leaf, t => match t with | .leaf => true | _ => false
 | .node l v r, t => match t with
  | .leaf => false
  | .node l' v' r' => (match v, v' with
   | none, none => true
   | some x, some y => s x y
   | _, _ => false) && (Tr.eqT s l l' && Tr.eqT s r r')
omit [E : Amb] in
theorem Tr.eqT_eq {α : Type} {s : α → α → Bool} (hs : ∀ x y, s x y = true → x = y) : ∀ (t u : Tr α), t.eqT s u = true → t = u := by
 intro t
 induction t with
 | leaf => intro u h; cases u with
  | leaf => rfl
  | node => simp [Tr.eqT] at h
 | node l v r ih1 ih2 =>
  intro u h
  cases u with
  | leaf => simp [Tr.eqT] at h
  | node l' v' r' =>
   simp only [Tr.eqT, Bool.and_eq_true] at h
   rw [ih1 _ h.2.1, ih2 _ h.2.2]
   cases v <;> cases v' <;> first | rfl | (simp at h; done) | (have e := hs _ _ h.1; subst e; rfl)
def Tr.meet {α : Type} (s : α → α → Bool) : Tr α → Tr α → Tr α
 | .leaf, _ => .leaf
 | .node l v r, t => match t with
  | .leaf => .leaf
  | .node l' v' r' => .node (Tr.meet s l l') (match v, v' with
   | some x, some y => match s x y with
    | true => some x
    | false => none
   | _, _ => none) (Tr.meet s r r')
omit [E : Amb] in
theorem Tr.get_meet {α : Type} {s : α → α → Bool} (hs : ∀ x y, s x y = true → x = y) : ∀ (t u : Tr α) (i : Nat) (x : α), (t.meet s u).get i = some x → t.get i = some x ∧ u.get i = some x := by
 intro t
 induction t with
 | leaf => intro u i x h; simp [Tr.meet, Tr.get] at h
 | node l v r ih1 ih2 =>
  intro u i x h
  cases u with
  | leaf => simp [Tr.meet, Tr.get] at h
  | node l' v' r' =>
   simp only [Tr.meet, Tr.get] at h ⊢
   cases hi : Nat.beq i 0
   ·rw [hi] at h
    simp only at h ⊢
    cases h2 : Nat.beq (i % 2) 1
    ·rw [h2] at h; exact ih2 _ _ _ h
    ·rw [h2] at h; exact ih1 _ _ _ h
   ·rw [hi] at h
    simp only at h ⊢
    split at h
    ·split at h
     ·rename_i hxy
      rw [← hs _ _ hxy]; exact ⟨h, h⟩
     ·cases h
    ·cases h
def joinV (a b : V) : V := match a.same b with
 | true => a
 | false => match a, b with
  | .bool _, .bool _ => .anyb
  | .bool _, .anyb => .anyb
  | .anyb, .bool _ => .anyb
  | _, _ => .any
def joinO (a b : Option V) : Option V := match a, b with
 | none, none => none
 | some x, some y => some (joinV x y)
 | _, _ => some .any
def anyT : Tr V → Tr V
 | .leaf => .leaf
 | .node l v r => .node (anyT l) (match v with
  | none => none
  | some _ => some .any) (anyT r)
def joinT : Tr V → Tr V → Tr V
 | .leaf, t => anyT t
 | .node l v r, t => match t with
  | .leaf => .node (anyT l) (joinO v none) (anyT r)
  | .node l' v' r' => .node (joinT l l') (joinO v v') (joinT r r')
theorem joinV_left {ρ : Ren} {a b : V} {u : Value} (h : VR ρ a u) : VR ρ (joinV a b) u := by
 unfold joinV
 split
 ·exact h
 ·split
  ·cases h; exact .anyb _
  ·cases h; exact .anyb _
  ·cases h; exact .anyb _
  ·exact .any _
theorem joinV_right {ρ : Ren} {a b : V} {u : Value} (h : VR ρ b u) : VR ρ (joinV a b) u := by
 unfold joinV
 split
 ·rename_i hs; rw [V.same_eq _ _ hs]; exact h
 ·split
  ·cases h; exact .anyb _
  ·cases h; exact .anyb _
  ·cases h; exact .anyb _
  ·exact .any _
omit [E : Amb] in
theorem anyT_get : ∀ (t : Tr V) (i : Nat), (anyT t).get i = (t.get i).map fun _ => .any := by
 intro t
 induction t with
 | leaf => intro i; rfl
 | node l v r ih1 ih2 =>
  intro i
  simp only [anyT, Tr.get]
  split
  ·cases v <;> rfl
  ·split
   ·exact ih1 _
   ·exact ih2 _
omit [E : Amb] in
theorem joinT_get : ∀ (t u : Tr V) (i : Nat), (joinT t u).get i = joinO (t.get i) (u.get i) := by
 intro t
 induction t with
 | leaf =>
  intro u i
  simp only [joinT, anyT_get, Tr.get]
  cases u.get i <;> rfl
 | node l v r ih1 ih2 =>
  intro u i
  cases u with
  | leaf =>
   simp only [joinT, Tr.get, anyT_get]
   split
   ·rfl
   ·split
    ·cases l.get (i / 2) <;> rfl
    ·cases r.get (i / 2 - 1) <;> rfl
  | node l' v' r' =>
   simp only [joinT, Tr.get]
   split
   ·rfl
   ·split
    ·exact ih1 _ _
    ·exact ih2 _ _
theorem join_left {ρ : Ren} {e1 e2 : Env} {s : Nat} {u : Value} (h : VR ρ (Env.get e1 s) u) : VR ρ (Env.get (joinT e1 e2) s) u := by
 unfold Env.get at h ⊢
 rw [joinT_get]
 cases h1 : Tr.get e1 s <;> cases h2 : Tr.get e2 s <;> rw [h1] at h <;> simp only [joinO] at h ⊢
 ·exact h
 ·exact .any _
 ·exact .any _
 ·exact joinV_left h
theorem join_right {ρ : Ren} {e1 e2 : Env} {s : Nat} {u : Value} (h : VR ρ (Env.get e2 s) u) : VR ρ (Env.get (joinT e1 e2) s) u := by
 unfold Env.get at h ⊢
 rw [joinT_get]
 cases h1 : Tr.get e1 s <;> cases h2 : Tr.get e2 s <;> rw [h2] at h <;> simp only [joinO] at h ⊢
 ·exact h
 ·exact .any _
 ·exact .any _
 ·exact joinV_right h
def sameEnds : List (Nat × Nat) → List (Nat × Nat) → Bool
 | [], l => match l with | [] => true | _ :: _ => false
 | x :: r, l => match l with | [] => false | y :: s => (Nat.beq x.1 y.1 && Nat.beq x.2 y.2) && sameEnds r s
omit [E : Amb] in
theorem sameEnds_eq : ∀ (x y : List (Nat × Nat)), sameEnds x y = true → x = y
 | [], l, h => by cases l <;> simp only [sameEnds, Bool.false_eq_true] at h; rfl
 | (x1, x2) :: r, l, h => by
  cases l with
  | nil => simp only [sameEnds, Bool.false_eq_true] at h
  | cons y s =>
   obtain ⟨y1, y2⟩ := y
   simp only [sameEnds, Bool.and_eq_true, nbq] at h
   rw [h.1.1, h.1.2, sameEnds_eq _ _ h.2]
def Hp.join (h1 h2 : Hp) : Option Hp :=
 match (Nat.beq h1.next h2.next && Tr.eqT sameEnds h1.fams h2.fams) && Tr.eqT Nat.beq h1.els h2.els with
 | true => some ⟨h1.next, h1.t.meet Blk.same h2.t, h1.fams, h1.els⟩
 | false => none
theorem Hp.join_left {Γ : Glob} {N0 : Nat} {w0 : Fr} {ρ : Ren} {h1 h2 h' : Hp} {w : World} (hj : h1.join h2 = some h') (H : Rel Γ N0 w0 ρ h1 w) : Rel Γ N0 w0 ρ h' w := by
 unfold Hp.join at hj
 split at hj
 ·simp only [Option.some.injEq] at hj; subst hj
  have hs : ∀ a x, (h1.t.meet Blk.same h2.t).get a = some x → h1.t.get a = some x := fun a x hx => (Tr.get_meet Blk.same_eq _ _ _ _ hx).1
  exact H.sub rfl hs (H.fam.sub rfl hs rfl) rfl
 ·cases hj
theorem Hp.join_right {Γ : Glob} {N0 : Nat} {w0 : Fr} {ρ : Ren} {h1 h2 h' : Hp} {w : World} (hj : h1.join h2 = some h') (H : Rel Γ N0 w0 ρ h2 w) : Rel Γ N0 w0 ρ h' w := by
 unfold Hp.join at hj
 split at hj
 ·rename_i hc
  simp only [Bool.and_eq_true, nbq] at hc
  have e1 := Tr.eqT_eq sameEnds_eq _ _ hc.1.2
  have e2 := Tr.eqT_eq (fun x y h => Nat.eq_of_beq_eq_true h) _ _ hc.2
  simp only [Option.some.injEq] at hj; subst hj
  have hs : ∀ a x, (h1.t.meet Blk.same h2.t).get a = some x → h2.t.get a = some x := fun a x hx => (Tr.get_meet Blk.same_eq _ _ _ _ hx).2
  exact H.sub hc.1.1 hs (H.fam.sub hc.1.1 hs e1) e2
 ·cases hj
end Go.Proofs.YtkpoeilfnopgbaaGreatDoor.HM
