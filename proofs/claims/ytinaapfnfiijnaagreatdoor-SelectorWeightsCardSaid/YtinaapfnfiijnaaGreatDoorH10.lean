/- The heap machine, 10: regions, code and functions are sound. -/
import Derived.Test.YtinaapfnfiijnaaGreatDoorH9
import Derived.LoopN
import Derived.Orders
namespace Go.Proofs.YtinaapfnfiijnaaGreatDoor.HM
open Go Go.RowKit

section
variable {C : Cfg} {N0 : Nat} {w0 : World}

/-- what holds behind a piece of code -/
def Behind (C : Cfg) (N0 : Nat) (w0 : World) (n : Nat) (ρ : Ren) (e' : Env) (h' : Hp) (a : Act) (K : Act → World → Prop) : Prop :=
  ∀ a' w' ρ', EnvR ρ' e' a'.tmps → Ext ρ ρ' → Rel C.Γ N0 w0 ρ' h' w' → a'.tmps.size = n → a'.defers = a.defers → K a' w'

def dstOk (n : Nat) (o : Oper) : Bool := match o.dst with
  | some d => Nat.blt d n
  | none => true

theorem dstOk_lt {n : Nat} {o : Oper} (h : dstOk n o = true) : ∀ k, o.dst = some k → k < n := by
  intro k hk
  unfold dstOk at h
  rw [hk] at h
  exact Nat.lt_of_lt_of_le (Nat.lt_succ_self k) (Nat.le_of_ble_eq_true h)

theorem stepOp_cases {ops : Array Oper} {e : Env} {h : Hp} {o : Oper} {r : V × Option Hp} (hs : stepOp C ops e h o = some r) :
    (wantedE e ops o = some true ∧ opVal C (rdE e) h o.op = some r) ∨ (wantedE e ops o = some false ∧ r = (.tup [], none)) := by
  unfold stepOp at hs
  split at hs
  · rename_i hw; exact .inl ⟨hw, hs⟩
  · rename_i hw; simp only [Option.some.injEq] at hs; exact .inr ⟨hw, hs.symm⟩
  · cases hs

theorem runOps_sound (hctx : CtxOk C) {ops : Array Oper} {n : Nat} {Q : Exit → Act → World → Prop} : ∀ (l : List Oper) {ρ : Ren} {e e' : Env} {h h' : Hp} {a : Act} {w : World}, (l.all (dstOk n)) = true →
    EnvR ρ e a.tmps → Rel C.Γ N0 w0 ρ h w → a.tmps.size = n → runOps C ops l e h = some (e', h') → Behind C N0 w0 n ρ e' h' a (Q .normal) → wpList C.P ops Q l a w := by
  intro l
  induction l with
  | nil =>
    intro ρ e e' h h' a w _ he H hn hr hb
    simp only [runOps, Option.some.injEq, Prod.mk.injEq] at hr; obtain ⟨rfl, rfl⟩ := hr
    exact hb a w ρ he (.refl _) H hn rfl
  | cons o l ih =>
    intro ρ e e' h h' a w hd he H hn hr hb
    simp only [List.all_cons, Bool.and_eq_true] at hd
    have hdl : ∀ k, o.dst = some k → k < a.tmps.size := by rw [hn]; exact dstOk_lt hd.1
    have hwant := wantedE_sound (ops := ops) (o := o) (a := a) (e := e) (ρ := ρ) (fun d _ => he d)
    simp only [runOps] at hr
    have go : ∀ v k, stepOp C ops e h o = some (v, k) → (∀ (a' : Act) (w' : World) (ρ' : Ren), EnvR ρ' (Env.put e o.dst v) a'.tmps → Ext ρ ρ' → Rel C.Γ N0 w0 ρ' (k.getD h) w' → a'.tmps.size = n → a'.defers = a.defers → wpList C.P ops Q l a' w') → wpList C.P ops Q (o :: l) a w := by
      intro v k hs hK
      simp only [wpList]
      rcases stepOp_cases hs with ⟨h1, h2⟩ | ⟨h1, h2⟩
      · rw [hwant _ h1, if_pos rfl]
        left
        refine opVal_sound hctx H (rdE_sound he) h2 (fun u w' ρ' x1 x2 x3 => ?_)
        exact hK _ w' ρ' ((he.ext x1).put x3 hdl) x1 x2 (by rw [put_size]; exact hn) (put_defers' _ _ _)
      · simp only [Prod.mk.injEq] at h2; obtain ⟨rfl, rfl⟩ := h2
        rw [hwant _ h1]
        simp only [Bool.false_eq_true, if_false]
        exact hK _ w ρ (he.put (undef_VR _) hdl) (.refl _) H (by rw [put_size]; exact hn) (put_defers' _ _ _)
    split at hr
    · rename_i v hs
      refine go v none hs fun a' w' ρ' y1 y2 y3 y4 y5 => ?_
      exact ih hd.2 y1 y3 y4 hr fun a2 w2 ρ2 z1 z2 z3 z4 z5 => hb a2 w2 ρ2 z1 (y2.trans z2) z3 z4 (z5.trans y5)
    · rename_i v h1 hs
      refine go v (some h1) hs fun a' w' ρ' y1 y2 y3 y4 y5 => ?_
      exact ih hd.2 y1 y3 y4 hr fun a2 w2 ρ2 z1 z2 z3 z4 z5 => hb a2 w2 ρ2 z1 (y2.trans z2) z3 z4 (z5.trans y5)
    · cases hr

/-! ## Regions whose order is drawn -/

/-- the text's run, step by step -/
structure TrOk (C : Cfg) (ops : Array Oper) (L : List Oper) (es : Nat → Env) (hs : Nat → Hp) (vs : Nat → V) (ns : Nat → Bool) : Prop where
  step : ∀ i o, L[i]? = some o → ∃ k, stepOp C ops (es i) (hs i) o = some (vs i, k) ∧ k.getD (hs i) = hs (i + 1) ∧ (ns i = k.isSome)
  env : ∀ i o, L[i]? = some o → es (i + 1) = Env.put (es i) o.dst (vs i)

def consF {α : Type} (x : α) (f : Nat → α) : Nat → α
  | 0 => x
  | i + 1 => f i

theorem traceOps_tr {ops : Array Oper} : ∀ (L : List Oper) (e e' : Env) (h h' : Hp) (tr : List Bool), traceOps C ops L e h = some (tr, e', h') →
    ∃ es hs vs ns, es 0 = e ∧ hs 0 = h ∧ es L.length = e' ∧ hs L.length = h' ∧ tr.length = L.length ∧ (∀ i b, tr[i]? = some b → ns i = b) ∧ TrOk C ops L es hs vs ns := by
  intro L
  induction L with
  | nil =>
    intro e e' h h' tr ht
    simp only [traceOps, Option.some.injEq, Prod.mk.injEq] at ht; obtain ⟨rfl, rfl, rfl⟩ := ht
    exact ⟨fun _ => e, fun _ => h, fun _ => .nilp, fun _ => false, rfl, rfl, rfl, rfl, rfl, fun i b hb => by simp at hb, ⟨fun i o hi => by simp at hi, fun i o hi => by simp at hi⟩⟩
  | cons o L ih =>
    intro e e' h h' tr ht
    simp only [traceOps] at ht
    have go : ∀ v k tr' , stepOp C ops e h o = some (v, k) → traceOps C ops L (Env.put e o.dst v) (k.getD h) = some (tr', e', h') → tr = k.isSome :: tr' →
        ∃ es hs vs ns, es 0 = e ∧ hs 0 = h ∧ es (o :: L).length = e' ∧ hs (o :: L).length = h' ∧ tr.length = (o :: L).length ∧ (∀ i b, tr[i]? = some b → ns i = b) ∧ TrOk C ops (o :: L) es hs vs ns := by
      intro v k tr' hs hl htr
      obtain ⟨es, hs', vs, ns, q1, q2, q3, q4, q5, q6, q7⟩ := ih _ _ _ _ _ hl
      subst htr
      refine ⟨consF e es, consF h hs', consF v vs, consF k.isSome ns, rfl, rfl, q3, q4, by simp [q5], fun i b hb => ?_, ⟨fun i x hx => ?_, fun i x hx => ?_⟩⟩
      · cases i with
        | zero => simpa [consF] using hb
        | succ i => exact q6 i b (by simpa using hb)
      · cases i with
        | zero =>
          simp only [List.getElem?_cons_zero, Option.some.injEq] at hx; subst hx
          exact ⟨k, hs, by show k.getD h = hs' 0; rw [q2], rfl⟩
        | succ i => exact q7.step i x (by simpa using hx)
      · cases i with
        | zero =>
          simp only [List.getElem?_cons_zero, Option.some.injEq] at hx; subst hx
          show es 0 = _; rw [q1]; rfl
        | succ i => exact q7.env i x (by simpa using hx)
    split at ht
    · rename_i v hs
      split at ht
      · rename_i l e1 h1 hl
        simp only [Option.some.injEq, Prod.mk.injEq] at ht; obtain ⟨rfl, rfl, rfl⟩ := ht
        exact go v none l hs hl rfl
      · cases ht
    · rename_i v h0 hs
      split at ht
      · rename_i l e1 h1 hl
        simp only [Option.some.injEq, Prod.mk.injEq] at ht; obtain ⟨rfl, rfl, rfl⟩ := ht
        exact go v (some h0) l hs hl rfl
      · cases ht
    · cases ht

theorem pairsFrom_get {S : List (Env × Hp)} {ops : Array Oper} {bs : List (List Nat)} {i : Nat} {o : Oper} {n : Bool} : ∀ (l : List Oper) (ms : List Bool) (j : Nat), pairsFrom C S ops bs i o n j l ms = true →
    ∀ k p, l[k]? = some p → ∃ m, ms[k]? = some m ∧ pairOk C S ops bs i o n (j + k) p m = true := by
  intro l
  induction l with
  | nil => intro ms j _ k p hk; simp at hk
  | cons q l ih =>
    intro ms j h k p hk
    cases ms with
    | nil => simp [pairsFrom] at h
    | cons m ms =>
      simp only [pairsFrom] at h
      split at h
      · rename_i hp
        cases k with
        | zero => simp only [List.getElem?_cons_zero, Option.some.injEq] at hk; subst hk; exact ⟨m, rfl, hp⟩
        | succ k =>
          obtain ⟨m', h1, h2⟩ := ih ms (j + 1) h k p (by simpa using hk)
          exact ⟨m', by simpa using h1, by rw [show j + (k + 1) = j + 1 + k by omega]; exact h2⟩
      · cases h

theorem pairsAll_get {S : List (Env × Hp)} {ops : Array Oper} {bs : List (List Nat)} : ∀ (l : List Oper) (ns : List Bool) (i : Nat), pairsAll C S ops bs i l ns = true →
    ∀ a b o p, a < b → l[a]? = some o → l[b]? = some p → ∃ n m, ns[a]? = some n ∧ ns[b]? = some m ∧ pairOk C S ops bs (i + a) o n (i + b) p m = true := by
  intro l
  induction l with
  | nil => intro ns i _ a b o p _ ha; simp at ha
  | cons q l ih =>
    intro ns i h a b o p hab ha hb
    cases ns with
    | nil => simp [pairsAll] at h
    | cons n ns =>
      simp only [pairsAll] at h
      split at h
      · rename_i hp
        cases a with
        | zero =>
          simp only [List.getElem?_cons_zero, Option.some.injEq] at ha; subst ha
          obtain ⟨b, rfl⟩ : ∃ c, b = c + 1 := ⟨b - 1, by omega⟩
          obtain ⟨m, h1, h2⟩ := pairsFrom_get l ns (i + 1) hp b p (by simpa using hb)
          exact ⟨n, m, rfl, by simpa using h1, by rw [Nat.add_zero, show i + (b + 1) = i + 1 + b by omega]; exact h2⟩
        | succ a =>
          obtain ⟨b, rfl⟩ : ∃ c, b = c + 1 := ⟨b - 1, by omega⟩
          obtain ⟨n', m', h1, h2, h3⟩ := ih ns (i + 1) h a b o p (by omega) (by simpa using ha) (by simpa using hb)
          exact ⟨n', m', by simpa using h1, by simpa using h2, by rw [show i + (a + 1) = i + 1 + a by omega, show i + (b + 1) = i + 1 + b by omega]; exact h3⟩
      · cases h

theorem closedFrom_get {bs : List (List Nat)} : ∀ (l : List Oper) (i : Nat), closedFrom bs i l = true → ∀ k o, l[k]? = some o →
    (∀ j ∈ bindsOn o, j < i + k) ∧ ∀ m ∈ bs.getD (i + k) [], ∃ j ∈ bindsOn o, m = j ∨ m ∈ bs.getD j [] := by
  intro l
  induction l with
  | nil => intro i _ k o hk; simp at hk
  | cons q l ih =>
    intro i h k o hk
    simp only [closedFrom] at h
    split at h
    · rename_i hp
      cases k with
      | zero =>
        simp only [List.getElem?_cons_zero, Option.some.injEq] at hk; subst hk
        simp only [Bool.and_eq_true, List.all_eq_true] at hp
        refine ⟨fun j hj => Nat.lt_of_lt_of_le (Nat.lt_succ_self j) (Nat.le_of_ble_eq_true (hp.1 j hj)), fun m hm => ?_⟩
        have := hp.2 m hm
        simp only [List.any_eq_true, Bool.or_eq_true] at this
        obtain ⟨j, hj, hh⟩ := this
        refine ⟨j, hj, ?_⟩
        rcases hh with hh | hh
        · exact .inl (Nat.eq_of_beq_eq_true hh)
        · exact .inr (by simpa using hh)
      | succ k =>
        have := ih (i + 1) h k o (by simpa using hk)
        rw [show i + (k + 1) = i + 1 + k by omega]; exact this
    · cases h


theorem pairOk_spec {S : List (Env × Hp)} {ops : Array Oper} {bs : List (List Nat)} {i j : Nat} {o p : Oper} {n m : Bool} (h : pairOk C S ops bs i o n j p m = true) :
    (∀ d, o.dst = some d → p.dst ≠ some d) ∧ (∀ d, o.dst = some d → d ∈ readsOf ops p → i ∈ bs.getD j []) ∧ (∀ d, p.dst = some d → d ∈ readsOf ops o → i ∈ bs.getD j []) ∧
    (n = true → apartFromHeap C p.op = false → earlyOk C S ops j p i = false → i ∈ bs.getD j []) ∧ (m = true → apartFromHeap C o.op = false → lateOk C S ops i o j = false → i ∈ bs.getD j []) := by
  unfold pairOk at h
  simp only [Bool.and_eq_true] at h
  obtain ⟨⟨h1, h2⟩, h3⟩ := h
  have ordm : (bs.getD j []).contains i = true → i ∈ bs.getD j [] := by simp
  refine ⟨fun d hd hp => ?_, fun d hd hr => ?_, fun d hd hr => ?_, fun hn ha heb => ?_, fun hm ha hlb => ?_⟩
  · rw [hd] at h1
    simp only [Bool.and_eq_true] at h1
    rw [hp] at h1
    have := h1.1
    simp only [Bool.not_eq_true'] at this
    have h0 : Nat.beq d d = true := Nat.beq_refl d
    rw [h0] at this; cases this
  · rw [hd] at h1
    simp only [Bool.and_eq_true, Bool.or_eq_true, Bool.not_eq_true'] at h1
    rcases h1.2 with hh | hh
    · exact ordm hh
    · have : (readsOf ops p).contains d = true := by simpa using hr
      rw [this] at hh; cases hh
  · rw [hd] at h2
    simp only [Bool.or_eq_true, Bool.not_eq_true'] at h2
    rcases h2 with hh | hh
    · exact ordm hh
    · have : (readsOf ops o).contains d = true := by simpa using hr
      rw [this] at hh; cases hh
  · simp only [Bool.or_eq_true, Bool.not_eq_true'] at h3
    rcases h3 with hh | hh
    · exact ordm hh
    · rw [hn, ha, heb] at hh; simp at hh
  · simp only [Bool.or_eq_true, Bool.not_eq_true'] at h3
    rcases h3 with hh | hh
    · exact ordm hh
    · rw [hm, ha, hlb] at hh; simp at hh

theorem states_get {ops : Array Oper} {L : List Oper} {es : Nat → Env} {hs : Nat → Hp} {vs : Nat → V} {ns : Nat → Bool} (T : TrOk C ops L es hs vs ns) : ∀ (l : List Oper) (d : Nat), (∀ k o, l[k]? = some o → L[d + k]? = some o) →
    ∀ i, i ≤ l.length → (statesOps C ops l (es d) (hs d))[i]? = some (es (d + i), hs (d + i)) := by
  intro l
  induction l with
  | nil => intro d _ i hi; have : i = 0 := by simpa using hi
           subst this; rfl
  | cons o l ih =>
    intro d hl i hi
    cases i with
    | zero => rfl
    | succ i =>
      have ho := hl 0 o rfl
      rw [Nat.add_zero] at ho
      obtain ⟨k, h1, h2, _⟩ := T.step d o ho
      have he := T.env d o ho
      simp only [statesOps, List.getElem?_cons_succ]
      have := ih (d + 1) (fun k p hk => by rw [show d + 1 + k = d + (k + 1) by omega]; exact hl (k + 1) p (by simpa using hk)) i (by simpa using hi)
      rw [he, ← h2] at this
      rw [h1]
      rw [show d + (i + 1) = d + 1 + i by omega]
      cases k <;> exact this

/-- what is known of the region as a whole -/
structure DReg (C : Cfg) (S : List (Env × Hp)) (ops : Array Oper) (n : Nat) (es : Nat → Env) (hs : Nat → Hp) (vs : Nat → V) (ns : Nat → Bool) (bs : List (List Nat)) : Prop where
  tr : TrOk C ops ops.toList es hs vs ns
  edge : ∀ (k : Nat) (o : Oper), ops.toList[k]? = some o → (∀ j ∈ bindsOn o, j < k) ∧ ∀ m ∈ bs.getD k [], ∃ j ∈ bindsOn o, m = j ∨ m ∈ bs.getD j []
  pair : ∀ (a b : Nat) (o p : Oper), a < b → ops.toList[a]? = some o → ops.toList[b]? = some p → pairOk C S ops bs a o (ns a) b p (ns b) = true
  dst : ∀ (k : Nat) (o : Oper), ops.toList[k]? = some o → dstOk n o = true
  st : ∀ i, i ≤ ops.toList.length → S[i]? = some (es i, hs i)

def lst (listed : Array Bool) (i : Nat) : Prop := listed.getD i false = true

structure DInv (C : Cfg) (N0 : Nat) (w0 : World) (ops : Array Oper) (n : Nat) (es : Nat → Env) (hs : Nat → Hp) (vs : Nat → V) (ns : Nat → Bool) (bs : List (List Nat)) (listed : Array Bool) (a : Act) (w : World) (ρ : Ren) : Prop where
  size : listed.size = ops.size
  tsz : a.tmps.size = n
  vals : ∀ i o d, ops.toList[i]? = some o → lst listed i → o.dst = some d → VR ρ (vs i) (a.tmps.getD d undef)
  rest : ∀ s, (∀ i o, ops.toList[i]? = some o → lst listed i → o.dst ≠ some s) → VR ρ (Env.get (es 0) s) (a.tmps.getD s undef)
  heap : ∃ m, m ≤ ops.toList.length ∧ Rel C.Γ N0 w0 ρ (hs m) w ∧ ∀ j o, ops.toList[j]? = some o → ns j = true → (lst listed j ↔ j < m)
  closed : ∀ i o, ops.toList[i]? = some o → lst listed i → ∀ j ∈ bs.getD i [], lst listed j

section
variable {S : List (Env × Hp)} {ops : Array Oper} {n : Nat} {es : Nat → Env} {hs : Nat → Hp} {vs : Nat → V} {ns : Nat → Bool} {bs : List (List Nat)}

theorem es_get (R : DReg C S ops n es hs vs ns bs) (s : Nat) : ∀ i, i ≤ ops.toList.length →
    (∃ j o, j < i ∧ ops.toList[j]? = some o ∧ o.dst = some s ∧ Env.get (es i) s = vs j) ∨ ((∀ j o, j < i → ops.toList[j]? = some o → o.dst ≠ some s) ∧ Env.get (es i) s = Env.get (es 0) s) := by
  intro i
  induction i with
  | zero => intro _; exact .inr ⟨fun j o hj => by omega, rfl⟩
  | succ i ih =>
    intro hi
    have ho : ops.toList[i]? = some (ops.toList[i]'(by omega)) := by simp
    have he := R.tr.env i _ ho
    by_cases hd : (ops.toList[i]'(by omega)).dst = some s
    · exact .inl ⟨i, _, by omega, ho, hd, by rw [he, hd, env_get_put, if_pos rfl]⟩
    · have hsame : Env.get (es (i + 1)) s = Env.get (es i) s := by rw [he, env_put_ne hd]
      rcases ih (by omega) with ⟨j, o, h1, h2, h3, h4⟩ | ⟨h1, h2⟩
      · exact .inl ⟨j, o, by omega, h2, h3, by rw [hsame]; exact h4⟩
      · refine .inr ⟨fun j o hj hjo => ?_, by rw [hsame]; exact h2⟩
        by_cases e : j = i
        · subst e; rw [ho] at hjo; simp only [Option.some.injEq] at hjo; subst hjo; exact hd
        · exact h1 j o (by omega) hjo

theorem hs_const (R : DReg C S ops n es hs vs ns bs) {a b : Nat} (hab : a ≤ b) (hb : b ≤ ops.toList.length) (hq : ∀ j o, a ≤ j → j < b → ops.toList[j]? = some o → ns j = false) : hs b = hs a := by
  induction b with
  | zero => have : a = 0 := by omega
            subst this; rfl
  | succ b ih =>
    by_cases e : a = b + 1
    · subst e; rfl
    · have ho : ops.toList[b]? = some (ops.toList[b]'(by omega)) := by simp
      obtain ⟨k, h1, h2, h3⟩ := R.tr.step b _ ho
      have hn := hq b _ (by omega) (by omega) ho
      rw [hn] at h3
      have hk : k = none := by cases k with | none => rfl | some _ => simp at h3
      subst hk
      rw [← h2]
      exact ih (by omega) (by omega) fun j o hj hjb hjo => hq j o hj (by omega) hjo

theorem isLoadO_spec {o : Op} (h : isLoadO o = true) : ∃ T ad, o = .load T ad := by
  unfold isLoadO at h
  split at h
  · exact ⟨_, _, rfl⟩
  · cases h

theorem load_still {rd : Operand → Option V} {h : Hp} {T : TypeId} {ad : Operand} {x : V} {k : Option Hp} (hs : opVal C rd h (.load T ad) = some (x, k)) : k = none := by
  simp only [opVal] at hs
  split at hs
  · exact still_none hs
  · cases hs

/-- a load that is late reads what it reads in the text -/
theorem late_same (R : DReg C S ops n es hs vs ns bs) {o : Oper} {a b : Nat} {x : V} (hw : wantedE (es a) ops o = some true) (hab : a ≤ b) (hb : b ≤ ops.toList.length) (h0 : opVal C (rdE (es a)) (hs a) o.op = some (x, none))
    (hq : ∀ j oj, a ≤ j → j < b → ops.toList[j]? = some oj → ns j = true → lateOk C S ops a o j = true) : opVal C (rdE (es a)) (hs b) o.op = some (x, none) := by
  induction b with
  | zero => have : a = 0 := by omega
            subst this; exact h0
  | succ b ih =>
    by_cases e : a = b + 1
    · subst e; exact h0
    · have ho : ops.toList[b]? = some (ops.toList[b]'(by omega)) := by simp
      obtain ⟨k, h1, h2, h3⟩ := R.tr.step b _ ho
      cases hn : ns b with
      | false =>
        rw [hn] at h3
        have hk : k = none := by cases k with | none => rfl | some _ => simp at h3
        subst hk
        rw [← h2]
        exact ih (by omega) (by omega) fun j oj hj hjb => hq j oj hj (by omega)
      | true =>
        have hl := hq b _ (by omega) (by omega) ho hn
        unfold lateOk at hl
        rw [R.st a (by omega), R.st (b + 1) hb] at hl
        simp only [h0, hw] at hl
        split at hl
        · split at hl
          · rename_i v v' hv hv'
            simp only [Option.some.injEq, Prod.mk.injEq, and_true] at hv
            subst hv
            rw [V.same_eq _ _ hl]; exact hv'
          · cases hl
        · cases hl

/-- a load that is early reads what it reads in the text -/
theorem early_same (R : DReg C S ops n es hs vs ns bs) {o : Oper} {a : Nat} {x : V} (hw : wantedE (es a) ops o = some true) (ha : a ≤ ops.toList.length) (hld : isLoadO o.op = true) (h0 : opVal C (rdE (es a)) (hs a) o.op = some (x, none)) :
    ∀ (d b : Nat), b + d = a → (∀ j oj, b ≤ j → j < a → ops.toList[j]? = some oj → ns j = true → earlyOk C S ops a o j = true) → opVal C (rdE (es a)) (hs b) o.op = some (x, none) := by
  intro d
  induction d with
  | zero => intro b hb _; have : b = a := by omega
            subst this; exact h0
  | succ d ih =>
    intro b hb hq
    have hi := ih (b + 1) (by omega) fun j oj hj hja => hq j oj (by omega) hja
    have ho : ops.toList[b]? = some (ops.toList[b]'(by omega)) := by simp
    obtain ⟨k, h1, h2, h3⟩ := R.tr.step b _ ho
    cases hn : ns b with
    | false =>
      rw [hn] at h3
      have hk : k = none := by cases k with | none => rfl | some _ => simp at h3
      subst hk
      have h2' : hs b = hs (b + 1) := h2
      rw [h2']; exact hi
    | true =>
      have hl := hq b _ (Nat.le_refl _) (by omega) ho hn
      unfold earlyOk at hl
      rw [hld, R.st a ha, R.st b (by omega), R.st (b + 1) (by omega)] at hl
      simp only [hi, hw] at hl
      split at hl
      · rename_i v v' hv hv'
        simp only [Option.some.injEq, Prod.mk.injEq, and_true] at hv'
        subst hv'
        rw [hv, V.same_eq _ _ hl]
      · cases hl

theorem lst_set {listed : Array Bool} {i j : Nat} (hi : i < listed.size) : lst (listed.setIfInBounds i true) j ↔ j = i ∨ lst listed j := by
  unfold lst
  simp only [Array.getD_eq_getD_getElem?, Array.getElem?_setIfInBounds]
  by_cases e : i = j
  · subst e; simp [hi]
  · rw [if_neg e]
    constructor
    · exact .inr
    · rintro (h | h)
      · exact absurd h.symm e
      · exact h

theorem ready_spec {listed : Array Bool} (hsz : listed.size = ops.size) {i : Nat} (hi : i ∈ Region.ready .any ops listed) :
    ∃ o, ops.toList[i]? = some o ∧ i < ops.size ∧ ¬ lst listed i ∧ ∀ j ∈ bindsOn o, lst listed j := by
  unfold Region.ready at hi
  simp only [List.mem_filter, List.mem_range, Bool.and_eq_true, Bool.not_eq_true'] at hi
  obtain ⟨h1, h2, h3⟩ := hi
  have ho : ops[i]? = some ops[i] := by simp
  rw [ho] at h3
  simp only [Option.map_some, Option.getD_some, Array.all_eq_true'] at h3
  refine ⟨ops[i], by simp, h1, ?_, fun j hj => ?_⟩
  · unfold lst
    rw [Array.getD_eq_getD_getElem?] at h2 ⊢
    rw [Array.getElem?_eq_getElem (by omega)] at h2 ⊢
    simp only [Option.getD_some] at h2 ⊢
    simp [h2]
  · unfold bindsOn at hj
    simp only [List.mem_map, List.mem_filter] at hj
    obtain ⟨e, ⟨he1, he2⟩, rfl⟩ := hj
    have := h3 e (by simpa using he1)
    rw [he2] at this
    simpa [lst] using this

theorem ready_mem {listed : Array Bool} (hsz : listed.size = ops.size) {i : Nat} {o : Oper} (ho : ops.toList[i]? = some o) (hn : ¬ lst listed i) (hb : ∀ j ∈ bindsOn o, lst listed j) : i ∈ Region.ready .any ops listed := by
  have hlt : i < ops.size := by have := (List.getElem?_eq_some_iff.1 ho).1; simpa using this
  have ho' : ops[i]? = some o := by simpa using ho
  unfold Region.ready
  simp only [List.mem_filter, List.mem_range, Bool.and_eq_true, Bool.not_eq_true']
  refine ⟨hlt, ?_, ?_⟩
  · unfold lst at hn
    rw [Array.getD_eq_getD_getElem?] at hn ⊢
    rw [Array.getElem?_eq_getElem (by omega)] at hn ⊢
    simpa using hn
  · rw [ho']
    simp only [Option.map_some, Option.getD_some, Array.all_eq_true']
    intro e he
    cases hbnd : Region.binds .any e with
    | false => simp
    | true =>
      have := hb e.on (by unfold bindsOn; exact List.mem_map.2 ⟨e, List.mem_filter.2 ⟨by simpa using he, hbnd⟩, rfl⟩)
      simpa [lst] using this

theorem drawn_step (hctx : CtxOk C) (R : DReg C S ops n es hs vs ns bs) {listed : Array Bool} {a : Act} {w : World} {ρ : Ren} (I : DInv C N0 w0 ops n es hs vs ns bs listed a w ρ) {i : Nat} (hi : i ∈ Region.ready .any ops listed)
    {Q : Exit → Act → World → Prop} {K : Act → World → Prop} (hK : ∀ a' w' ρ', DInv C N0 w0 ops n es hs vs ns bs (listed.setIfInBounds i true) a' w' ρ' → Ext ρ ρ' → a'.defers = a.defers → K a' w') : wpOp C.P ops Q i K a w := by
  obtain ⟨o, ho, hlt, hnl, hbl⟩ := ready_spec I.size hi
  have ho' : ops[i]? = some o := by simpa using ho
  have hil : i < ops.toList.length := by simpa using hlt
  -- all that lies ahead of it is listed
  have hbs : ∀ j ∈ bs.getD i [], lst listed j := by
    intro j hj
    obtain ⟨q, hq, hh⟩ := (R.edge i o ho).2 j hj
    rcases hh with rfl | hh
    · exact hbl _ hq
    · have hqi := (R.edge i o ho).1 q hq
      have hqo : ops.toList[q]? = some (ops.toList[q]'(by omega)) := by simp
      exact I.closed q _ hqo (hbl q hq) j hh
  -- what it reads
  have hslot : ∀ s, s ∈ readsOf ops o → VR ρ (Env.get (es i) s) (a.tmps.getD s undef) := by
    intro s hs
    rcases es_get R s i (by omega) with ⟨j, oj, h1, h2, h3, h4⟩ | ⟨h1, h2⟩
    · have hp := pairOk_spec (R.pair j i oj o h1 h2 ho)
      rw [h4]
      exact I.vals j oj s h2 (hbs j (hp.2.1 s h3 hs)) h3
    · rw [h2]
      refine I.rest s fun k ok hk hkl hkd => ?_
      rcases Nat.lt_trichotomy k i with hki | hki | hki
      · exact h1 k ok hki hk hkd
      · subst hki; exact hnl hkl
      · have hp := pairOk_spec (R.pair i k o ok hki ho hk)
        exact hnl (I.closed k ok hk hkl i (hp.2.2.1 s hkd hs))
  have hdl : ∀ k, o.dst = some k → k < a.tmps.size := by rw [I.tsz]; exact dstOk_lt (R.dst i o ho)
  obtain ⟨m, hm1, hm2, hm3⟩ := I.heap
  obtain ⟨k, hstep, hk1, hk2⟩ := R.tr.step i o ho
  -- the inner world behind the operation
  have fin : ∀ (u : Value) (w' : World) (ρ' : Ren), Ext ρ ρ' → VR ρ' (vs i) u → (∃ m', m' ≤ ops.toList.length ∧ Rel C.Γ N0 w0 ρ' (hs m') w' ∧ ∀ j oj, ops.toList[j]? = some oj → ns j = true → (lst (listed.setIfInBounds i true) j ↔ j < m')) → K (a.put o.dst u) w' := by
    intro u w' ρ' hext hu hheap
    refine hK _ w' ρ' ⟨by simp [I.size], by rw [put_size]; exact I.tsz, fun j oj d hj hjl hd => ?_, fun s hs => ?_, hheap, fun j oj hj hjl q hq => ?_⟩ hext (put_defers' _ _ _)
    · rcases (lst_set (by rw [I.size]; exact hlt)).1 hjl with rfl | hjl2
      · rw [ho] at hj; simp only [Option.some.injEq] at hj; subst hj
        rw [hd]
        rw [act_put_eq (hdl d hd)]; exact hu
      · have hji : j ≠ i := fun e => by subst e; exact hnl hjl2
        have hne : o.dst ≠ some d := by
          intro hod
          rcases Nat.lt_or_ge j i with hh | hh
          · exact (pairOk_spec (R.pair j i oj o hh hj ho)).1 d hd hod
          · exact (pairOk_spec (R.pair i j o oj (by omega) ho hj)).1 d hod hd
        rw [act_put_ne hne]
        exact (I.vals j oj d hj hjl2 hd).ext hext
    · have hne : o.dst ≠ some s := hs i o ho ((lst_set (by rw [I.size]; exact hlt)).2 (.inl rfl))
      rw [act_put_ne hne]
      exact (I.rest s fun j oj hj hjl => hs j oj hj ((lst_set (by rw [I.size]; exact hlt)).2 (.inr hjl))).ext hext
    · refine (lst_set (by rw [I.size]; exact hlt)).2 (.inr ?_)
      rcases (lst_set (by rw [I.size]; exact hlt)).1 hjl with rfl | hjl
      · exact hbs q hq
      · exact I.closed j oj hj hjl q hq
  have noNoise : ns i = false → ∃ m', m' ≤ ops.toList.length ∧ Rel C.Γ N0 w0 ρ (hs m') w ∧ ∀ j oj, ops.toList[j]? = some oj → ns j = true → (lst (listed.setIfInBounds i true) j ↔ j < m') := by
    intro hni
    refine ⟨m, hm1, hm2, fun j oj hj hnj => ?_⟩
    rw [lst_set (by rw [I.size]; exact hlt), ← hm3 j oj hj hnj]
    constructor
    · rintro (rfl | h)
      · rw [hni] at hnj; cases hnj
      · exact h
    · exact .inr
  unfold wpOp
  rw [ho']
  simp only
  have hwant := wantedE_sound (ops := ops) (o := o) (a := a) (e := es i) (ρ := ρ) (fun d hd => hslot d (by
    unfold readsOf
    rw [List.mem_append]
    right
    revert hd
    cases o.guard with
    | none => intro hd; cases hd
    | some gb => obtain ⟨g, b⟩ := gb; intro hd; simp only at hd ⊢; rw [hd]; simp))
  rcases stepOp_cases hstep with ⟨h1, h2⟩ | ⟨h1, h2⟩
  · rw [hwant _ h1, if_pos rfl]
    left
    -- the operands alone
    let rd' : Operand → Option V := fun x => match x with
      | .tmp t => if t ∈ readsOf ops o then some (Env.get (es i) t) else none
      | x => rdE (es i) x
    have hloc : ∀ h, opVal C rd' h o.op = opVal C (rdE (es i)) h o.op := by
      intro h
      refine opVal_local _ fun x hx => ?_
      cases x with
      | tmp t =>
        have : t ∈ readsOf ops o := by
          unfold readsOf
          rw [List.mem_append]
          left
          exact List.mem_filterMap.2 ⟨.tmp t, hx, rfl⟩
        simp only [rd', this, if_true, rdE]
      | _ => rfl
    have hρ : ∀ x v, rd' x = some v → VR ρ v (a.eval x) := by
      intro x v hx
      cases x with
      | tmp t =>
        simp only [rd'] at hx
        split at hx
        · rename_i ht
          simp only [Option.some.injEq] at hx; subst hx
          exact hslot t ht
        · cases hx
      | const c => exact constV_sound hx
      | global g => simp only [rd', rdE, Option.some.injEq] at hx; subst hx; exact .gp g 0
      | func f => simp only [rd', rdE, Option.some.injEq] at hx; subst hx; exact .fn f [] [] #[] #[] rfl rfl (fun i x u h => by simp at h) (fun i x u h => by simp at h)
    cases hap : apartFromHeap C o.op with
    | true =>
      obtain ⟨e1, e2⟩ := opVal_apart (C := C) (e := es i) (h := hs i) (h' := hs m) hap
      have hk0 := e2 _ _ h2
      subst hk0
      rw [e1, ← hloc] at h2
      exact opVal_sound hctx hm2 hρ h2 fun u w' ρ' x1 x2 x3 => by
        refine fin u w' ρ' x1 x3 ?_
        have hni : ns i = false := by rw [hk2]; rfl
        obtain ⟨m', q1, q2, q3⟩ := noNoise hni
        refine ⟨m, hm1, x2, fun j oj hj hnj => ?_⟩
        rw [lst_set (by rw [I.size]; exact hlt), ← hm3 j oj hj hnj]
        constructor
        · rintro (rfl | h)
          · rw [hni] at hnj; cases hnj
          · exact h
        · exact .inr
    | false =>
      cases hld : isLoadO o.op with
      | true =>
        have hni : ns i = false := by
          rw [hk2]
          obtain ⟨T, ad, hop⟩ := isLoadO_spec hld
          have hk0 := load_still (C := C) (rd := rdE (es i)) (h := hs i) (T := T) (ad := ad) (by rw [← hop]; exact h2)
          rw [hk0]; rfl
        obtain ⟨T, ad, hop⟩ := isLoadO_spec hld
        have hk0 : k = none := load_still (C := C) (rd := rdE (es i)) (h := hs i) (T := T) (ad := ad) (by rw [← hop]; exact h2)
        subst hk0
        have h3 : opVal C rd' (hs m) o.op = some (vs i, none) := by
          rw [hloc]
          rcases Nat.le_total m i with hmi | hmi
          · refine early_same R h1 (by omega) hld h2 (i - m) m (by omega) fun j oj h3 h4 hj hnj => ?_
            cases heb : earlyOk C S ops i o j with
            | true => rfl
            | false =>
              have hl := hbs j ((pairOk_spec (R.pair j i oj o h4 hj ho)).2.2.2.1 hnj hap heb)
              have := (hm3 j oj hj hnj).1 hl
              omega
          · refine late_same R h1 hmi hm1 h2 fun j oj h3 h4 hj hnj => ?_
            have hl := (hm3 j oj hj hnj).2 h4
            rcases Nat.lt_or_ge i j with hij | hij
            · cases hlb : lateOk C S ops i o j with
              | true => rfl
              | false => exact absurd (I.closed j oj hj hl i ((pairOk_spec (R.pair i j o oj hij ho hj)).2.2.2.2 hnj hap hlb)) hnl
            · have : j = i := by omega
              subst this; exact absurd hl hnl
        exact opVal_sound hctx hm2 hρ h3 fun u w' ρ' x1 x2 x3 => by
          refine fin u w' ρ' x1 x3 ?_
          refine ⟨m, hm1, x2, fun j oj hj hnj => ?_⟩
          rw [lst_set (by rw [I.size]; exact hlt), ← hm3 j oj hj hnj]
          constructor
          · rintro (rfl | h)
            · rw [hni] at hnj; cases hnj
            · exact h
          · exact .inr
      | false =>
      have hlbf : ∀ j, lateOk C S ops i o j = false := fun j => by unfold lateOk; rw [hld]
      have hebf : ∀ j, earlyOk C S ops i o j = false := fun j => by unfold earlyOk; rw [hld]
      -- the heap is as it was in the text
      have hlow : ∀ j oj, j < i → ops.toList[j]? = some oj → ns j = true → lst listed j := fun j oj hji hj hnj => hbs j ((pairOk_spec (R.pair j i oj o hji hj ho)).2.2.2.1 hnj hap (hebf _))
      have hhigh : ∀ j oj, i < j → ops.toList[j]? = some oj → ns j = true → ¬ lst listed j := fun j oj hij hj hnj hl => hnl (I.closed j oj hj hl i ((pairOk_spec (R.pair i j o oj hij ho hj)).2.2.2.2 hnj hap (hlbf _)))
      have hsame : hs m = hs i := by
        rcases Nat.le_total m i with hmi | hmi
        · refine (hs_const R hmi (by omega) fun j oj h3 h4 hj => ?_).symm
          cases hnj : ns j with
          | false => rfl
          | true => have := (hm3 j oj hj hnj).1 (hlow j oj h4 hj hnj); omega
        · refine hs_const R hmi hm1 fun j oj h3 h4 hj => ?_
          cases hnj : ns j with
          | false => rfl
          | true =>
            have hl := (hm3 j oj hj hnj).2 h4
            rcases Nat.lt_or_ge i j with hij | hij
            · exact absurd hl (hhigh j oj hij hj hnj)
            · have : j = i := by omega
              subst this; exact absurd hl hnl
      rw [hsame] at hm2
      rw [← hloc] at h2
      exact opVal_sound hctx hm2 hρ h2 fun u w' ρ' x1 x2 x3 => by
        refine fin u w' ρ' x1 x3 ?_
        rw [hk1] at x2
        refine ⟨i + 1, by omega, x2, fun j oj hj hnj => ?_⟩
        rw [lst_set (by rw [I.size]; exact hlt)]
        constructor
        · rintro (rfl | h)
          · omega
          · rcases Nat.lt_or_ge i j with hij | hij
            · exact absurd h (hhigh j oj hij hj hnj)
            · omega
        · intro hj1
          rcases Nat.lt_or_ge j i with hji | hji
          · exact .inr (hlow j oj hji hj hnj)
          · exact .inl (by omega)
  · simp only [Prod.mk.injEq] at h2; obtain ⟨hv, rfl⟩ := h2
    rw [hwant _ h1]
    simp only [Bool.false_eq_true, if_false]
    refine fin undef w ρ (.refl _) (by rw [hv]; exact undef_VR _) (noNoise ?_)
    rw [hk2]; rfl

def unl (ops : Array Oper) (listed : Array Bool) : List Nat := (List.range ops.size).filter fun i => !listed.getD i false

theorem drawn_any (hctx : CtxOk C) (R : DReg C S ops n es hs vs ns bs) {Q : Exit → Act → World → Prop} {dfs : List Deferred} {ρ0 : Ren} (hQ : ∀ a w ρ, Ext ρ0 ρ → EnvR ρ (es ops.toList.length) a.tmps → Rel C.Γ N0 w0 ρ (hs ops.toList.length) w → a.tmps.size = n → a.defers = dfs → Q .normal a w) :
    ∀ (fuel : Nat) (listed : Array Bool) (a : Act) (w : World) (ρ : Ren), DInv C N0 w0 ops n es hs vs ns bs listed a w ρ → Ext ρ0 ρ → a.defers = dfs → (unl ops listed).length ≤ fuel → wpAny C.P .any ops Q fuel listed a w := by
  have hend : ∀ (listed : Array Bool) (a : Act) (w : World) (ρ : Ren), DInv C N0 w0 ops n es hs vs ns bs listed a w ρ → Ext ρ0 ρ → a.defers = dfs → (∀ i, i < ops.size → lst listed i) → Q .normal a w := by
    intro listed a w ρ I hx hd hall
    obtain ⟨m, hm1, hm2, hm3⟩ := I.heap
    have hsame : hs ops.toList.length = hs m := by
      refine hs_const R hm1 (Nat.le_refl _) fun j oj h3 h4 hj => ?_
      cases hnj : ns j with
      | false => rfl
      | true => have := (hm3 j oj hj hnj).1 (hall j (by simpa using h4)); omega
    refine hQ a w ρ hx (fun s => ?_) (by rw [hsame]; exact hm2) I.tsz hd
    rcases es_get R s ops.toList.length (Nat.le_refl _) with ⟨j, oj, h1, h2, h3, h4⟩ | ⟨h1, h2⟩
    · rw [h4]; exact I.vals j oj s h2 (hall j (by simpa using h1)) h3
    · rw [h2]
      exact I.rest s fun j oj hj _ => h1 j oj (List.getElem?_eq_some_iff.1 hj).1 hj
  have hmin : ∀ (listed : Array Bool) (a : Act) (w : World) (ρ : Ren), DInv C N0 w0 ops n es hs vs ns bs listed a w ρ → Region.ready .any ops listed = [] → ∀ i, i < ops.size → lst listed i := by
    intro listed a w ρ I hr i
    induction i using Nat.strongRecOn with
    | ind i ih =>
      intro hi
      apply Classical.byContradiction
      intro hn
      have hil : i < ops.toList.length := by simpa using hi
      have ho : ops.toList[i]? = some (ops.toList[i]'hil) := by simp
      have := ready_mem I.size ho hn fun j hj => ih j ((R.edge i _ ho).1 j hj) (Nat.lt_trans ((R.edge i _ ho).1 j hj) hi)
      rw [hr] at this; cases this
  intro fuel
  induction fuel with
  | zero =>
    intro listed a w ρ I hx hd hf
    have hall : ∀ i, i < ops.size → lst listed i := by
      intro i hi
      apply Classical.byContradiction
      intro hn
      have hmem : i ∈ unl ops listed := List.mem_filter.2 ⟨List.mem_range.2 hi, by unfold lst at hn; simpa using hn⟩
      have : (unl ops listed).length ≠ 0 := fun e => by rw [List.length_eq_zero_iff.1 e] at hmem; cases hmem
      omega
    refine ⟨?_, hend listed a w ρ I hx hd hall⟩
    cases hr : Region.ready .any ops listed with
    | nil => rfl
    | cons i r =>
      obtain ⟨o, _, hi, hn, _⟩ := ready_spec I.size (i := i) (by rw [hr]; exact List.mem_cons_self)
      exact absurd (hall i hi) hn
  | succ fuel ih =>
    intro listed a w ρ I hx hd hf
    refine ⟨fun hr => hend listed a w ρ I hx hd (hmin listed a w ρ I hr), fun i hi => ?_⟩
    refine drawn_step hctx R I hi fun a' w' ρ' I' hx' hd' => ?_
    refine ih _ a' w' ρ' I' (hx.trans hx') (hd'.trans hd) ?_
    obtain ⟨o, ho, hlt, hnl, _⟩ := ready_spec I.size hi
    have hlt2 : (unl ops (listed.setIfInBounds i true)).length < (unl ops listed).length := by
      have hsub : unl ops (listed.setIfInBounds i true) = (unl ops listed).filter fun j => !(j == i) := by
        unfold unl
        rw [List.filter_filter]
        apply List.filter_congr
        intro j _
        have := lst_set (listed := listed) (i := i) (j := j) (by rw [I.size]; exact hlt)
        unfold lst at this
        rw [Bool.eq_iff_iff]
        simp only [Bool.not_eq_true', Bool.and_eq_true, beq_eq_false_iff_ne, ne_eq]
        constructor
        · intro h
          have hh : ¬ (listed.setIfInBounds i true).getD j false = true := by rw [h]; simp
          rw [this] at hh
          refine ⟨fun e => hh (.inl e), ?_⟩
          cases hq : listed.getD j false with
          | false => rfl
          | true => exact absurd (.inr hq) hh
        · rintro ⟨h1, h2⟩
          cases hq : (listed.setIfInBounds i true).getD j false with
          | false => rfl
          | true =>
            rcases this.1 hq with e | e
            · exact absurd e h1
            · rw [h2] at e; cases e
      rw [hsub]
      refine List.length_filter_lt_length_iff_exists.2 ⟨i, List.mem_filter.2 ⟨List.mem_range.2 hlt, by unfold lst at hnl; simpa using hnl⟩, by simp⟩
    omega

end

theorem opAt_sound (hctx : CtxOk C) {ops : Array Oper} {n i : Nat} {o : Oper} (ho : ops[i]? = some o) {Q : Exit → Act → World → Prop} {K : Act → World → Prop} {ρ : Ren} {e : Env} {h : Hp} {a : Act} {w : World} (hd : dstOk n o = true)
    (he : EnvR ρ e a.tmps) (H : Rel C.Γ N0 w0 ρ h w) (hn : a.tmps.size = n) {v : V} {k : Option Hp} (hs : stepOp C ops e h o = some (v, k))
    (hK : ∀ (a' : Act) (w' : World) (ρ' : Ren), EnvR ρ' (Env.put e o.dst v) a'.tmps → Ext ρ ρ' → Rel C.Γ N0 w0 ρ' (k.getD h) w' → a'.tmps.size = n → a'.defers = a.defers → K a' w') : wpOp C.P ops Q i K a w := by
  have hdl : ∀ k, o.dst = some k → k < a.tmps.size := by rw [hn]; exact dstOk_lt hd
  have hwant := wantedE_sound (ops := ops) (o := o) (a := a) (e := e) (ρ := ρ) (fun d _ => he d)
  unfold wpOp
  rw [ho]
  simp only
  rcases stepOp_cases hs with ⟨h1, h2⟩ | ⟨h1, h2⟩
  · rw [hwant _ h1, if_pos rfl]
    left
    refine opVal_sound hctx H (rdE_sound he) h2 (fun u w' ρ' x1 x2 x3 => ?_)
    exact hK _ w' ρ' ((he.ext x1).put x3 hdl) x1 x2 (by rw [put_size]; exact hn) (put_defers' _ _ _)
  · simp only [Prod.mk.injEq] at h2; obtain ⟨rfl, rfl⟩ := h2
    rw [hwant _ h1]
    simp only [Bool.false_eq_true, if_false]
    exact hK _ w ρ (he.put (undef_VR _) hdl) (.refl _) H (by rw [put_size]; exact hn) (put_defers' _ _ _)

theorem runOps_head {ops : Array Oper} {o : Oper} {l : List Oper} {e : Env} {h : Hp} {r : Env × Hp} (hr : runOps C ops (o :: l) e h = some r) :
    ∃ v k, stepOp C ops e h o = some (v, k) ∧ runOps C ops l (Env.put e o.dst v) (k.getD h) = some r := by
  simp only [runOps] at hr
  split at hr
  · rename_i v hs; exact ⟨v, none, hs, hr⟩
  · rename_i v h1 hs; exact ⟨v, some h1, hs, hr⟩
  · cases hr

theorem any_step {P : Program} {ops : Array Oper} {Q : Exit → Act → World → Prop} {fuel : Nat} {L : Array Bool} {a : Act} {w : World} (hne : ∃ i, i ∈ Region.ready .any ops L)
    (h : ∀ i ∈ Region.ready .any ops L, wpOp P ops Q i (wpAny P .any ops Q fuel (L.setIfInBounds i true)) a w) : wpAny P .any ops Q (fuel + 1) L a w :=
  ⟨fun hr => (by obtain ⟨i, hi⟩ := hne; rw [hr] at hi; cases hi), h⟩

theorem fork_sound (hctx : CtxOk C) (hm : C.P.follows .mixedOrders = true) {ops : Array Oper} {id n : Nat} {Q : Exit → Act → World → Prop} {ρ : Ren} {e e' : Env} {h h' : Hp} {a : Act} {w : World} (hf : forkOk ops = true)
    (hd : (ops.toList.all (dstOk n)) = true) (he : EnvR ρ e a.tmps) (H : Rel C.Γ N0 w0 ρ h w) (hn : a.tmps.size = n) (hr : forkE C ops e h = some (e', h')) (hb : Behind C N0 w0 n ρ e' h' a (Q .normal)) :
    (Code.region id ops true).wp C.P Q a w := by
  unfold forkOk at hf
  unfold forkE at hr
  split at hf
  case h_2 => cases hf
  rename_i o0 o1 o2 o3 hops
  rw [hops] at hr hd
  simp only at hr
  simp only [Bool.and_eq_true, List.isEmpty_iff, List.contains_iff_mem] at hf
  obtain ⟨⟨_, b0⟩, ⟨b1a, b1⟩, ⟨b2a, b2⟩, ⟨b3a, b31⟩, b32⟩ := hf
  simp only [List.all_cons, List.all_nil, Bool.and_true, Bool.and_eq_true] at hd
  obtain ⟨d0, d1, d2, d3⟩ := hd
  have hsz : ops.size = 4 := by rw [← Array.length_toList, hops]; rfl
  have g0 : ops.toList[0]? = some o0 := by rw [hops]; rfl
  have g1 : ops.toList[1]? = some o1 := by rw [hops]; rfl
  have g2 : ops.toList[2]? = some o2 := by rw [hops]; rfl
  have g3 : ops.toList[3]? = some o3 := by rw [hops]; rfl
  have a0 : ops[0]? = some o0 := by simpa using g0
  have a1 : ops[1]? = some o1 := by simpa using g1
  have a2 : ops[2]? = some o2 := by simpa using g2
  have a3 : ops[3]? = some o3 := by simpa using g3
  split at hr
  case h_2 => cases hr
  rename_i e1 h1 e2 h2 hr1 hr2
  split at hr
  case h_2 => cases hr
  rename_i h3 hj
  simp only [Option.some.injEq, Prod.mk.injEq] at hr; obtain ⟨rfl, rfl⟩ := hr
  -- the two ends
  have end1 : ∀ (a' : Act) (w' : World) (ρ' : Ren), EnvR ρ' e1 a'.tmps → Ext ρ ρ' → Rel C.Γ N0 w0 ρ' h1 w' → a'.tmps.size = n → a'.defers = a.defers → Q .normal a' w' :=
    fun a' w' ρ' y1 y2 y3 y4 y5 => hb a' w' ρ' (fun s => join_left (y1 s)) y2 (Hp.join_left hj y3) y4 y5
  have end2 : ∀ (a' : Act) (w' : World) (ρ' : Ren), EnvR ρ' e2 a'.tmps → Ext ρ ρ' → Rel C.Γ N0 w0 ρ' h2 w' → a'.tmps.size = n → a'.defers = a.defers → Q .normal a' w' :=
    fun a' w' ρ' y1 y2 y3 y4 y5 => hb a' w' ρ' (fun s => join_right (y1 s)) y2 (Hp.join_right hj y3) y4 y5
  refine wp_region_any hm ?_
  rw [hsz]
  -- what is listed
  have l0 : ∀ j, ¬ lst (Array.replicate 4 false) j := by
    intro j
    unfold lst
    rw [Array.getD_eq_getD_getElem?, Array.getElem?_replicate]
    split <;> simp
  -- the last step
  have last : ∀ (L : Array Bool), L.size = 4 → (∀ j, lst L j ↔ j = 0 ∨ j = 1 ∨ j = 2) → ∀ (a' : Act) (w' : World) (ρ' : Ren) (ea : Env) (ha : Hp) (r : Env × Hp), runOps C ops [o3] ea ha = some r → EnvR ρ' ea a'.tmps → Ext ρ ρ' → Rel C.Γ N0 w0 ρ' ha w' → a'.tmps.size = n → a'.defers = a.defers →
      (∀ (a' : Act) (w' : World) (ρ' : Ren), EnvR ρ' r.1 a'.tmps → Ext ρ ρ' → Rel C.Γ N0 w0 ρ' r.2 w' → a'.tmps.size = n → a'.defers = a.defers → Q .normal a' w') → wpAny C.P .any ops Q 1 L a' w' := by
    intro L hL hl a' w' ρ' ea ha r hro y1 y2 y3 y4 y5 hend
    refine any_step ⟨3, ready_mem (by rw [hL, hsz]) g3 (fun hh => by have := (hl 3).1 hh; omega) (fun j hj => (hl j).2 (by have := List.all_eq_true.1 b3a j hj; have := Nat.lt_of_lt_of_le (Nat.lt_succ_self j) (Nat.le_of_ble_eq_true this); omega))⟩ fun i hi => ?_
    obtain ⟨o, q1, q2, q3, q4⟩ := ready_spec (by rw [hL, hsz]) hi
    have hi3 : i = 3 := by
      have hnot : ¬ (i = 0 ∨ i = 1 ∨ i = 2) := fun hh => q3 ((hl i).2 hh)
      omega
    subst hi3
    obtain ⟨v, k, hs, hrest⟩ := runOps_head hro
    refine opAt_sound hctx a3 d3 y1 y3 y4 hs fun a4 w4 ρ4 z1 z2 z3 z4 z5 => ?_
    simp only [runOps, Option.some.injEq] at hrest
    subst hrest
    refine ⟨?_, hend a4 w4 ρ4 z1 (y2.trans z2) z3 z4 (z5.trans y5)⟩
    cases hrd : Region.ready .any ops (L.setIfInBounds 3 true) with
    | nil => rfl
    | cons j r =>
      obtain ⟨oj, p1, p2, p3, p4⟩ := ready_spec (listed := L.setIfInBounds 3 true) (ops := ops) (by rw [Array.size_setIfInBounds, hL, hsz]) (i := j) (by rw [hrd]; exact List.mem_cons_self)
      exact absurd ((lst_set (by omega)).2 (by rw [hl]; omega)) p3
  refine any_step ⟨0, ready_mem (by simp [hsz]) g0 (l0 0) (fun j hj => by rw [b0] at hj; cases hj)⟩ fun i hi => ?_
  obtain ⟨o, q1, q2, q3, q4⟩ := ready_spec (by simp [hsz]) hi
  have hi0 : i = 0 := by
    rcases (show i = 0 ∨ i = 1 ∨ i = 2 ∨ i = 3 by omega) with rfl | rfl | rfl | rfl
    · rfl
    · rw [g1] at q1; simp only [Option.some.injEq] at q1; subst q1; exact absurd (q4 0 b1) (l0 0)
    · rw [g2] at q1; simp only [Option.some.injEq] at q1; subst q1; exact absurd (q4 0 b2) (l0 0)
    · rw [g3] at q1; simp only [Option.some.injEq] at q1; subst q1; exact absurd (q4 1 b31) (l0 1)
  subst hi0
  obtain ⟨v0, k0, s0, r0⟩ := runOps_head hr1
  obtain ⟨v0', k0', s0', r0'⟩ := runOps_head hr2
  rw [s0] at s0'
  simp only [Option.some.injEq, Prod.mk.injEq] at s0'
  obtain ⟨rfl, rfl⟩ := s0'
  refine opAt_sound hctx a0 d0 he (H.drawn _) hn s0 fun x1 u1 ρ1 y1 y2 y3 y4 y5 => ?_
  have l1 : ∀ j, lst ((Array.replicate 4 false).setIfInBounds 0 true) j ↔ j = 0 := fun j => by rw [lst_set (by simp)]; exact ⟨fun hh => hh.elim (fun hx => hx) (fun hh => absurd hh (l0 j)), .inl⟩
  refine any_step ⟨1, ready_mem (by simp [hsz]) g1 (fun hh => by have := (l1 1).1 hh; omega) (fun j hj => (l1 j).2 (by have := List.all_eq_true.1 b1a j hj; exact Nat.eq_of_beq_eq_true this))⟩ fun i hi => ?_
  obtain ⟨o, q1, q2, q3, q4⟩ := ready_spec (by simp [hsz]) hi
  have hi0 : i = 1 ∨ i = 2 := by
    rcases (show i = 0 ∨ i = 1 ∨ i = 2 ∨ i = 3 by omega) with rfl | rfl | rfl | rfl
    · exact absurd ((l1 0).2 rfl) q3
    · exact .inl rfl
    · exact .inr rfl
    · rw [g3] at q1; simp only [Option.some.injEq] at q1; subst q1; have := (l1 1).1 (q4 1 b31); omega
  rcases hi0 with rfl | rfl
  · obtain ⟨v1, k1, s1, r1⟩ := runOps_head r0
    refine opAt_sound hctx a1 d1 y1 y3 y4 s1 fun x2 u2 ρ2 z1 z2 z3 z4 z5 => ?_
    have l2 : ∀ j, lst (((Array.replicate 4 false).setIfInBounds 0 true).setIfInBounds 1 true) j ↔ j = 1 ∨ j = 0 := fun j => by rw [lst_set (by simp), l1]
    refine any_step ⟨2, ready_mem (by simp [hsz]) g2 (fun hh => by have := (l2 2).1 hh; omega) (fun j hj => (l2 j).2 (.inr (Nat.eq_of_beq_eq_true (List.all_eq_true.1 b2a j hj))))⟩ fun i hi => ?_
    obtain ⟨o, q1, q2, q3, q4⟩ := ready_spec (by simp [hsz]) hi
    have hi2 : i = 2 := by
      rcases (show i = 0 ∨ i = 1 ∨ i = 2 ∨ i = 3 by omega) with rfl | rfl | rfl | rfl
      · exact absurd ((l2 0).2 (.inr rfl)) q3
      · exact absurd ((l2 1).2 (.inl rfl)) q3
      · rfl
      · rw [g3] at q1; simp only [Option.some.injEq] at q1; subst q1; have := (l2 2).1 (q4 2 b32); omega
    subst hi2
    obtain ⟨v2, k2, s2, r2⟩ := runOps_head r1
    refine opAt_sound hctx a2 d2 z1 z3 z4 s2 fun x3 u3 ρ3 p1 p2 p3 p4 p5 => ?_
    exact last _ (by simp) (fun j => by rw [lst_set (by simp), l2]; omega) x3 u3 ρ3 _ _ _ r2 p1 ((y2.trans z2).trans p2) p3 p4 (p5.trans (z5.trans y5)) end1
  · obtain ⟨v1, k1, s1, r1⟩ := runOps_head r0'
    refine opAt_sound hctx a2 d2 y1 y3 y4 s1 fun x2 u2 ρ2 z1 z2 z3 z4 z5 => ?_
    have l2 : ∀ j, lst (((Array.replicate 4 false).setIfInBounds 0 true).setIfInBounds 2 true) j ↔ j = 2 ∨ j = 0 := fun j => by rw [lst_set (by simp), l1]
    refine any_step ⟨1, ready_mem (by simp [hsz]) g1 (fun hh => by have := (l2 1).1 hh; omega) (fun j hj => (l2 j).2 (.inr (Nat.eq_of_beq_eq_true (List.all_eq_true.1 b1a j hj))))⟩ fun i hi => ?_
    obtain ⟨o, q1, q2, q3, q4⟩ := ready_spec (by simp [hsz]) hi
    have hi2 : i = 1 := by
      rcases (show i = 0 ∨ i = 1 ∨ i = 2 ∨ i = 3 by omega) with rfl | rfl | rfl | rfl
      · exact absurd ((l2 0).2 (.inr rfl)) q3
      · rfl
      · exact absurd ((l2 2).2 (.inl rfl)) q3
      · rw [g3] at q1; simp only [Option.some.injEq] at q1; subst q1; have := (l2 1).1 (q4 1 b31); omega
    subst hi2
    obtain ⟨v2, k2, s2, r2⟩ := runOps_head r1
    refine opAt_sound hctx a1 d1 z1 z3 z4 s2 fun x3 u3 ρ3 p1 p2 p3 p4 p5 => ?_
    exact last _ (by simp) (fun j => by rw [lst_set (by simp), l2]; omega) x3 u3 ρ3 _ _ _ r2 p1 ((y2.trans z2).trans p2) p3 p4 (p5.trans (z5.trans y5)) end2

theorem region_sound (hctx : CtxOk C) (hm : C.P.follows .mixedOrders = true) {ops : Array Oper} {draw : Bool} {id n : Nat} {Q : Exit → Act → World → Prop} {ρ : Ren} {e e' : Env} {h h' : Hp} {a : Act} {w : World}
    (hd : (ops.toList.all (dstOk n)) = true) (he : EnvR ρ e a.tmps) (H : Rel C.Γ N0 w0 ρ h w) (hn : a.tmps.size = n) (hr : regionE C ops draw e h = some (e', h')) (hb : Behind C N0 w0 n ρ e' h' a (Q .normal)) :
    (Code.region id ops draw).wp C.P Q a w := by
  unfold regionE at hr
  split at hr
  · exact wp_region_list (runOps_sound hctx _ hd he H hn hr hb)
  · split at hr
    · rename_i hfk
      exact fork_sound hctx hm hfk hd he H hn hr hb
    split at hr
    · rename_i tr e1 h1 ht
      split at hr
      · rename_i hord
        simp only [Option.some.injEq, Prod.mk.injEq] at hr; obtain ⟨rfl, rfl⟩ := hr
        obtain ⟨es, hs, vs, ns, q1, q2, q3, q4, q5, q6, q7⟩ := traceOps_tr _ _ _ _ _ _ ht
        unfold orderOk at hord
        split at hord
        · rename_i bs hbs
          simp only [Bool.and_eq_true] at hord
          have R : DReg C (statesOps C ops ops.toList e h) ops n es hs vs ns bs := by
            refine ⟨q7, fun k o hk => ?_, fun a b o p hab ha hb => ?_, fun k o hk => List.all_eq_true.1 hd o (List.mem_of_getElem? hk), fun i hi => by rw [← q1, ← q2]; have := states_get q7 ops.toList 0 (fun k o hk => by simpa using hk) i hi; rw [Nat.zero_add] at this; exact this⟩
            · have := closedFrom_get _ 0 hord.1 k o hk
              rw [Nat.zero_add] at this; exact this
            · obtain ⟨x, y, p1, p2, p3⟩ := pairsAll_get _ _ 0 hord.2 a b o p hab ha hb
              rw [q6 a x p1, q6 b y p2]
              rw [Nat.zero_add, Nat.zero_add] at p3; exact p3
          refine wp_region_any hm ?_
          have hI : DInv C N0 w0 ops n es hs vs ns bs (Array.replicate ops.size false) a { w with drawn := w.drawn + 1 } ρ := by
            have hnl : ∀ i, ¬ lst (Array.replicate ops.size false) i := by
              intro i
              unfold lst
              rw [Array.getD_eq_getD_getElem?, Array.getElem?_replicate]
              split <;> simp
            refine ⟨by simp, hn, fun i o d _ hl => absurd hl (hnl i), fun s _ => by rw [q1]; exact he s, ⟨0, Nat.zero_le _, by rw [q2]; exact H.drawn _, fun j o _ _ => ⟨fun hl => absurd hl (hnl j), fun hh => by omega⟩⟩, fun i o _ hl => absurd hl (hnl i)⟩
          refine drawn_any hctx R (ρ0 := ρ) (dfs := a.defers) (fun a1 w1 ρ1 y5 y1 y2 y3 y4 => ?_) ops.size _ a _ ρ hI (.refl _) rfl ?_
          · rw [q3] at y1; rw [q4] at y2
            exact hb a1 w1 ρ1 y1 y5 y2 y3 y4
          · refine Nat.le_trans (List.length_filter_le _ _) ?_
            simp
        · cases hord
      · cases hr
    · cases hr

end
end Go.Proofs.YtinaapfnfiijnaaGreatDoor.HM
