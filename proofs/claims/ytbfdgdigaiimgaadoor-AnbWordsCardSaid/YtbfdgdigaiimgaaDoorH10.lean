/- The heap machine, 10: regions, code and functions are sound. -/
import Derived.Test.YtbfdgdigaiimgaaDoorH9
import Derived.LoopN
import Derived.Orders
namespace Go.Proofs.YtbfdgdigaiimgaaDoor.HM
open Go Go.RowKit

section
variable {C : Cfg} {N0 : Nat} {w0 : Fr}

/-- what holds behind a piece of code -/
def Behind (C : Cfg) (N0 : Nat) (w0 : Fr) (n : Nat) (ρ : Ren) (e' : Env) (h' : Hp) (a : Act) (K : Act → World → Prop) : Prop :=
  ∀ a' w' ρ', EnvR ρ' e' a'.tmps → Ext ρ ρ' → Rel C.Γ N0 w0 ρ' h' w' → a'.tmps.size = n → a'.defers = a.defers → K a' w'

def dstOk (n : Nat) (o : Oper) : Bool := match o.dst with
  | some d => Nat.blt d n
  | none => true

theorem dstOk_lt {n : Nat} {o : Oper} (h : dstOk n o = true) : ∀ k, o.dst = some k → k < n := by
  intro k hk
  unfold dstOk at h
  rw [hk] at h
  exact Nat.lt_of_lt_of_le (Nat.lt_succ_self k) (Nat.le_of_ble_eq_true h)

theorem stepOp_cases {ops : Array Oper} {e : Env} {h : Hp} {o : Oper} {r : V × Option Hp} (hs : stepOp C ops e h o = some r) :
    (wantedE e ops o = some true ∧ opVal C (rdE e) h o.op = some r) ∨ (wantedE e ops o = some false ∧ r = (.tup [], none)) := by
  unfold stepOp at hs
  split at hs
  · rename_i hw; exact .inl ⟨hw, hs⟩
  · rename_i hw; simp only [Option.some.injEq] at hs; exact .inr ⟨hw, hs.symm⟩
  · cases hs

theorem runOps_sound (hctx : CtxOk C) {ops : Array Oper} {n : Nat} {Q : Exit → Act → World → Prop} : ∀ (l : List Oper) {ρ : Ren} {e e' : Env} {h h' : Hp} {a : Act} {w : World}, (l.all (dstOk n)) = true →
    EnvR ρ e a.tmps → Rel C.Γ N0 w0 ρ h w → a.tmps.size = n → runOps C ops l e h = some (e', h') → Behind C N0 w0 n ρ e' h' a (Q .normal) → wpList C.P ops Q l a w := by
  intro l
  induction l with
  | nil =>
    intro ρ e e' h h' a w _ he H hn hr hb
    simp only [runOps, Option.some.injEq, Prod.mk.injEq] at hr; obtain ⟨rfl, rfl⟩ := hr
    exact hb a w ρ he (.refl _) H hn rfl
  | cons o l ih =>
    intro ρ e e' h h' a w hd he H hn hr hb
    simp only [List.all_cons, Bool.and_eq_true] at hd
    have hdl : ∀ k, o.dst = some k → k < a.tmps.size := by rw [hn]; exact dstOk_lt hd.1
    have hwant := wantedE_sound (ops := ops) (o := o) (a := a) (e := e) (ρ := ρ) (fun d _ => he d)
    simp only [runOps] at hr
    have go : ∀ v k, stepOp C ops e h o = some (v, k) → (∀ (a' : Act) (w' : World) (ρ' : Ren), EnvR ρ' (Env.put e o.dst v) a'.tmps → Ext ρ ρ' → Rel C.Γ N0 w0 ρ' (k.getD h) w' → a'.tmps.size = n → a'.defers = a.defers → wpList C.P ops Q l a' w') → wpList C.P ops Q (o :: l) a w := by
      intro v k hs hK
      simp only [wpList]
      rcases stepOp_cases hs with ⟨h1, h2⟩ | ⟨h1, h2⟩
      · rw [hwant _ h1, if_pos rfl]
        left
        refine opVal_sound hctx H (rdE_sound he) h2 (fun u w' ρ' x1 x2 x3 => ?_)
        exact hK _ w' ρ' ((he.ext x1).put x3 hdl) x1 x2 (by rw [put_size]; exact hn) (put_defers' _ _ _)
      · simp only [Prod.mk.injEq] at h2; obtain ⟨rfl, rfl⟩ := h2
        rw [hwant _ h1]
        simp only [Bool.false_eq_true, if_false]
        exact hK _ w ρ (he.put (undef_VR _) hdl) (.refl _) H (by rw [put_size]; exact hn) (put_defers' _ _ _)
    split at hr
    · rename_i v hs
      refine go v none hs fun a' w' ρ' y1 y2 y3 y4 y5 => ?_
      exact ih hd.2 y1 y3 y4 hr fun a2 w2 ρ2 z1 z2 z3 z4 z5 => hb a2 w2 ρ2 z1 (y2.trans z2) z3 z4 (z5.trans y5)
    · rename_i v h1 hs
      refine go v (some h1) hs fun a' w' ρ' y1 y2 y3 y4 y5 => ?_
      exact ih hd.2 y1 y3 y4 hr fun a2 w2 ρ2 z1 z2 z3 z4 z5 => hb a2 w2 ρ2 z1 (y2.trans z2) z3 z4 (z5.trans y5)
    · cases hr

/-! ## Regions whose order is drawn -/

/-- the text's run, step by step -/
structure TrOk (C : Cfg) (A : Nat → Option V) (ops : Array Oper) (L : List Oper) (es : Nat → Env) (hs : Nat → Hp) (vs : Nat → V) (ns : Nat → Bool) : Prop where
  step : ∀ i o, L[i]? = some o → A i = none → ∃ k, stepOp C ops (es i) (hs i) o = some (vs i, k) ∧ k.getD (hs i) = hs (i + 1) ∧ (ns i = k.isSome)
  flo : ∀ i o v, L[i]? = some o → A i = some v → vs i = v ∧ hs (i + 1) = hs i ∧ ns i = false
  env : ∀ i o, L[i]? = some o → es (i + 1) = Env.put (es i) o.dst (vs i)

def consF {α : Type} (x : α) (f : Nat → α) : Nat → α
  | 0 => x
  | i + 1 => f i

theorem traceOps_tr {ops : Array Oper} : ∀ (L : List Oper) (e e' : Env) (h h' : Hp) (tr : List Bool), traceOps C ops L e h = some (tr, e', h') →
    ∃ es hs vs ns, es 0 = e ∧ hs 0 = h ∧ es L.length = e' ∧ hs L.length = h' ∧ tr.length = L.length ∧ (∀ i b, tr[i]? = some b → ns i = b) ∧ TrOk C (fun _ => none) ops L es hs vs ns := by
  intro L
  induction L with
  | nil =>
    intro e e' h h' tr ht
    simp only [traceOps, Option.some.injEq, Prod.mk.injEq] at ht; obtain ⟨rfl, rfl, rfl⟩ := ht
    exact ⟨fun _ => e, fun _ => h, fun _ => .nilp, fun _ => false, rfl, rfl, rfl, rfl, rfl, fun i b hb => by simp at hb, ⟨fun i o hi => by simp at hi, fun i o v _ ha => (by cases ha), fun i o hi => by simp at hi⟩⟩
  | cons o L ih =>
    intro e e' h h' tr ht
    simp only [traceOps] at ht
    have go : ∀ v k tr' , stepOp C ops e h o = some (v, k) → traceOps C ops L (Env.put e o.dst v) (k.getD h) = some (tr', e', h') → tr = k.isSome :: tr' →
        ∃ es hs vs ns, es 0 = e ∧ hs 0 = h ∧ es (o :: L).length = e' ∧ hs (o :: L).length = h' ∧ tr.length = (o :: L).length ∧ (∀ i b, tr[i]? = some b → ns i = b) ∧ TrOk C (fun _ => none) ops (o :: L) es hs vs ns := by
      intro v k tr' hs hl htr
      obtain ⟨es, hs', vs, ns, q1, q2, q3, q4, q5, q6, q7⟩ := ih _ _ _ _ _ hl
      subst htr
      refine ⟨consF e es, consF h hs', consF v vs, consF k.isSome ns, rfl, rfl, q3, q4, by simp [q5], fun i b hb => ?_, ⟨fun i x hx _ => ?_, fun i o v _ ha => (by cases ha), fun i x hx => ?_⟩⟩
      · cases i with
        | zero => simpa [consF] using hb
        | succ i => exact q6 i b (by simpa using hb)
      · cases i with
        | zero =>
          simp only [List.getElem?_cons_zero, Option.some.injEq] at hx; subst hx
          exact ⟨k, hs, by show k.getD h = hs' 0; rw [q2], rfl⟩
        | succ i => exact q7.step i x (by simpa using hx) rfl
      · cases i with
        | zero =>
          simp only [List.getElem?_cons_zero, Option.some.injEq] at hx; subst hx
          show es 0 = _; rw [q1]; rfl
        | succ i => exact q7.env i x (by simpa using hx)
    split at ht
    · rename_i v hs
      split at ht
      · rename_i l e1 h1 hl
        simp only [Option.some.injEq, Prod.mk.injEq] at ht; obtain ⟨rfl, rfl, rfl⟩ := ht
        exact go v none l hs hl rfl
      · cases ht
    · rename_i v h0 hs
      split at ht
      · rename_i l e1 h1 hl
        simp only [Option.some.injEq, Prod.mk.injEq] at ht; obtain ⟨rfl, rfl, rfl⟩ := ht
        exact go v (some h0) l hs hl rfl
      · cases ht
    · cases ht

theorem traceA_tr {A : Nat → Option V} {rd0 : Operand → Option V} {ops : Array Oper} : ∀ (L : List Oper) (d : Nat) (e e' : Env) (h h' : Hp) (tr : List Bool) (S : List (Env × Hp)), traceA C A rd0 ops d L e h = some (tr, S, e', h') →
    ∃ es hs vs ns, es 0 = e ∧ hs 0 = h ∧ es L.length = e' ∧ hs L.length = h' ∧ tr.length = L.length ∧ (∀ i b, tr[i]? = some b → ns i = b) ∧ (∀ i, i ≤ L.length → S[i]? = some (es i, hs i)) ∧ (∀ i o v, L[i]? = some o → A (d + i) = some v → floatEq (rdE (es i)) rd0 o.op = true) ∧ TrOk C (fun i => A (d + i)) ops L es hs vs ns := by
  intro L
  induction L with
  | nil =>
    intro d e e' h h' tr S ht
    simp only [traceA, Option.some.injEq, Prod.mk.injEq] at ht; obtain ⟨rfl, rfl, rfl, rfl⟩ := ht
    exact ⟨fun _ => e, fun _ => h, fun _ => .nilp, fun _ => false, rfl, rfl, rfl, rfl, rfl, fun i b hb => by simp at hb, fun i hi => (by obtain rfl : i = 0 := (by simpa using hi); rfl), fun i o v hi => by simp at hi, ⟨fun i o hi => by simp at hi, fun i o v hi => by simp at hi, fun i o hi => by simp at hi⟩⟩
  | cons o L ih =>
    intro d e e' h h' tr S ht
    simp only [traceA] at ht
    have go : ∀ v k tr' S', ((A d = none ∧ stepOp C ops e h o = some (v, k)) ∨ ((A d = some v ∧ floatEq (rdE e) rd0 o.op = true) ∧ k = none)) → traceA C A rd0 ops (d + 1) L (Env.put e o.dst v) (k.getD h) = some (tr', S', e', h') → tr = k.isSome :: tr' → S = (e, h) :: S' →
        ∃ es hs vs ns, es 0 = e ∧ hs 0 = h ∧ es (o :: L).length = e' ∧ hs (o :: L).length = h' ∧ tr.length = (o :: L).length ∧ (∀ i b, tr[i]? = some b → ns i = b) ∧ (∀ i, i ≤ (o :: L).length → S[i]? = some (es i, hs i)) ∧ (∀ i p v, (o :: L)[i]? = some p → A (d + i) = some v → floatEq (rdE (es i)) rd0 p.op = true) ∧ TrOk C (fun i => A (d + i)) ops (o :: L) es hs vs ns := by
      intro v k tr' S' hs hl htr hS
      obtain ⟨es, hs', vs, ns, q1, q2, q3, q4, q5, q6, q8, q9, q7⟩ := ih _ _ _ _ _ _ _ hl
      subst htr hS
      refine ⟨consF e es, consF h hs', consF v vs, consF k.isSome ns, rfl, rfl, q3, q4, by simp [q5], fun i b hb => ?_, fun i hi => ?_, fun i x v' hx ha => ?_, ⟨fun i x hx ha => ?_, fun i x v' hx ha => ?_, fun i x hx => ?_⟩⟩
      · cases i with
        | zero => simpa [consF] using hb
        | succ i => exact q6 i b (by simpa using hb)
      · cases i with
        | zero => rfl
        | succ i => exact q8 i (by simpa using hi)
      · cases i with
        | zero =>
          simp only [List.getElem?_cons_zero, Option.some.injEq] at hx; subst hx
          simp only [Nat.add_zero] at ha
          rcases hs with ⟨hs, _⟩ | ⟨⟨_, hs⟩, _⟩
          · rw [ha] at hs; cases hs
          · exact hs
        | succ i => exact q9 i x v' (by simpa using hx) (by rw [show d + 1 + i = d + (i + 1) by omega]; exact ha)
      · cases i with
        | zero =>
          simp only [List.getElem?_cons_zero, Option.some.injEq] at hx; subst hx
          simp only [Nat.add_zero] at ha
          rcases hs with ⟨_, hs⟩ | ⟨hs, _⟩
          · exact ⟨k, hs, by show k.getD h = hs' 0; rw [q2], rfl⟩
          · rw [ha] at hs; cases hs.1
        | succ i => exact q7.step i x (by simpa using hx) (by rw [show d + 1 + i = d + (i + 1) by omega]; exact ha)
      · cases i with
        | zero =>
          simp only [Nat.add_zero] at ha
          rcases hs with ⟨hs, _⟩ | ⟨⟨hs, _⟩, rfl⟩
          · rw [ha] at hs; cases hs
          · rw [ha] at hs; simp only [Option.some.injEq] at hs; subst hs
            exact ⟨rfl, q2, rfl⟩
        | succ i => exact q7.flo i x v' (by simpa using hx) (by rw [show d + 1 + i = d + (i + 1) by omega]; exact ha)
      · cases i with
        | zero =>
          simp only [List.getElem?_cons_zero, Option.some.injEq] at hx; subst hx
          show es 0 = _; rw [q1]; rfl
        | succ i => exact q7.env i x (by simpa using hx)
    split at ht
    · rename_i v ha
      split at ht
      · rename_i hfe
        split at ht
        · rename_i l S1 e1 h1 hl
          simp only [Option.some.injEq, Prod.mk.injEq] at ht; obtain ⟨rfl, rfl, rfl, rfl⟩ := ht
          exact go v none l S1 (.inr ⟨⟨ha, hfe⟩, rfl⟩) hl rfl rfl
        · cases ht
      · cases ht
    · rename_i ha
      split at ht
      · rename_i v hs
        split at ht
        · rename_i l S1 e1 h1 hl
          simp only [Option.some.injEq, Prod.mk.injEq] at ht; obtain ⟨rfl, rfl, rfl, rfl⟩ := ht
          exact go v none l S1 (.inl ⟨ha, hs⟩) hl rfl rfl
        · cases ht
      · rename_i v h0 hs
        split at ht
        · rename_i l S1 e1 h1 hl
          simp only [Option.some.injEq, Prod.mk.injEq] at ht; obtain ⟨rfl, rfl, rfl, rfl⟩ := ht
          exact go v (some h0) l S1 (.inl ⟨ha, hs⟩) hl rfl rfl
        · cases ht
      · cases ht

theorem pairsFromA_get {A : Nat → Option V} {S : List (Env × Hp)} {ops : Array Oper} {bs : List (List Nat)} {i : Nat} {o : Oper} {n : Bool} : ∀ (l : List Oper) (ms : List Bool) (j : Nat), pairsFromA C A S ops bs i o n j l ms = true →
    ∀ k p, l[k]? = some p → ∃ m, ms[k]? = some m ∧ pairOkA C A S ops bs i o n (j + k) p m = true := by
  intro l
  induction l with
  | nil => intro ms j _ k p hk; simp at hk
  | cons q l ih =>
    intro ms j h k p hk
    cases ms with
    | nil => simp [pairsFromA] at h
    | cons m ms =>
      simp only [pairsFromA] at h
      split at h
      · rename_i hp
        cases k with
        | zero => simp only [List.getElem?_cons_zero, Option.some.injEq] at hk; subst hk; exact ⟨m, rfl, hp⟩
        | succ k =>
          obtain ⟨m', h1, h2⟩ := ih ms (j + 1) h k p (by simpa using hk)
          exact ⟨m', by simpa using h1, by rw [show j + (k + 1) = j + 1 + k by omega]; exact h2⟩
      · cases h

theorem pairsAllA_get {A : Nat → Option V} {S : List (Env × Hp)} {ops : Array Oper} {bs : List (List Nat)} : ∀ (l : List Oper) (ns : List Bool) (i : Nat), pairsAllA C A S ops bs i l ns = true →
    ∀ a b o p, a < b → l[a]? = some o → l[b]? = some p → ∃ n m, ns[a]? = some n ∧ ns[b]? = some m ∧ pairOkA C A S ops bs (i + a) o n (i + b) p m = true := by
  intro l
  induction l with
  | nil => intro ns i _ a b o p _ ha; simp at ha
  | cons q l ih =>
    intro ns i h a b o p hab ha hb
    cases ns with
    | nil => simp [pairsAllA] at h
    | cons n ns =>
      simp only [pairsAllA] at h
      split at h
      · rename_i hp
        cases a with
        | zero =>
          simp only [List.getElem?_cons_zero, Option.some.injEq] at ha; subst ha
          obtain ⟨b, rfl⟩ : ∃ c, b = c + 1 := ⟨b - 1, by omega⟩
          obtain ⟨m, h1, h2⟩ := pairsFromA_get l ns (i + 1) hp b p (by simpa using hb)
          exact ⟨n, m, rfl, by simpa using h1, by rw [Nat.add_zero, show i + (b + 1) = i + 1 + b by omega]; exact h2⟩
        | succ a =>
          obtain ⟨b, rfl⟩ : ∃ c, b = c + 1 := ⟨b - 1, by omega⟩
          obtain ⟨n', m', h1, h2, h3⟩ := ih ns (i + 1) h a b o p (by omega) (by simpa using ha) (by simpa using hb)
          exact ⟨n', m', by simpa using h1, by simpa using h2, by rw [show i + (a + 1) = i + 1 + a by omega, show i + (b + 1) = i + 1 + b by omega]; exact h3⟩
      · cases h

theorem pairsFrom_get {S : List (Env × Hp)} {ops : Array Oper} {bs : List (List Nat)} {i : Nat} {o : Oper} {n : Bool} : ∀ (l : List Oper) (ms : List Bool) (j : Nat), pairsFrom C S ops bs i o n j l ms = true →
    ∀ k p, l[k]? = some p → ∃ m, ms[k]? = some m ∧ pairOk C S ops bs i o n (j + k) p m = true := by
  intro l
  induction l with
  | nil => intro ms j _ k p hk; simp at hk
  | cons q l ih =>
    intro ms j h k p hk
    cases ms with
    | nil => simp [pairsFrom] at h
    | cons m ms =>
      simp only [pairsFrom] at h
      split at h
      · rename_i hp
        cases k with
        | zero => simp only [List.getElem?_cons_zero, Option.some.injEq] at hk; subst hk; exact ⟨m, rfl, hp⟩
        | succ k =>
          obtain ⟨m', h1, h2⟩ := ih ms (j + 1) h k p (by simpa using hk)
          exact ⟨m', by simpa using h1, by rw [show j + (k + 1) = j + 1 + k by omega]; exact h2⟩
      · cases h

theorem pairsAll_get {S : List (Env × Hp)} {ops : Array Oper} {bs : List (List Nat)} : ∀ (l : List Oper) (ns : List Bool) (i : Nat), pairsAll C S ops bs i l ns = true →
    ∀ a b o p, a < b → l[a]? = some o → l[b]? = some p → ∃ n m, ns[a]? = some n ∧ ns[b]? = some m ∧ pairOk C S ops bs (i + a) o n (i + b) p m = true := by
  intro l
  induction l with
  | nil => intro ns i _ a b o p _ ha; simp at ha
  | cons q l ih =>
    intro ns i h a b o p hab ha hb
    cases ns with
    | nil => simp [pairsAll] at h
    | cons n ns =>
      simp only [pairsAll] at h
      split at h
      · rename_i hp
        cases a with
        | zero =>
          simp only [List.getElem?_cons_zero, Option.some.injEq] at ha; subst ha
          obtain ⟨b, rfl⟩ : ∃ c, b = c + 1 := ⟨b - 1, by omega⟩
          obtain ⟨m, h1, h2⟩ := pairsFrom_get l ns (i + 1) hp b p (by simpa using hb)
          exact ⟨n, m, rfl, by simpa using h1, by rw [Nat.add_zero, show i + (b + 1) = i + 1 + b by omega]; exact h2⟩
        | succ a =>
          obtain ⟨b, rfl⟩ : ∃ c, b = c + 1 := ⟨b - 1, by omega⟩
          obtain ⟨n', m', h1, h2, h3⟩ := ih ns (i + 1) h a b o p (by omega) (by simpa using ha) (by simpa using hb)
          exact ⟨n', m', by simpa using h1, by simpa using h2, by rw [show i + (a + 1) = i + 1 + a by omega, show i + (b + 1) = i + 1 + b by omega]; exact h3⟩
      · cases h

theorem closedFrom_get {bs : List (List Nat)} : ∀ (l : List Oper) (i : Nat), closedFrom bs i l = true → ∀ k o, l[k]? = some o →
    (∀ j ∈ bindsOn o, j < i + k) ∧ ∀ m ∈ bs.getD (i + k) [], ∃ j ∈ bindsOn o, m = j ∨ m ∈ bs.getD j [] := by
  intro l
  induction l with
  | nil => intro i _ k o hk; simp at hk
  | cons q l ih =>
    intro i h k o hk
    simp only [closedFrom] at h
    split at h
    · rename_i hp
      cases k with
      | zero =>
        simp only [List.getElem?_cons_zero, Option.some.injEq] at hk; subst hk
        simp only [Bool.and_eq_true, List.all_eq_true] at hp
        refine ⟨fun j hj => Nat.lt_of_lt_of_le (Nat.lt_succ_self j) (Nat.le_of_ble_eq_true (hp.1 j hj)), fun m hm => ?_⟩
        have := hp.2 m hm
        simp only [List.any_eq_true, Bool.or_eq_true] at this
        obtain ⟨j, hj, hh⟩ := this
        refine ⟨j, hj, ?_⟩
        rcases hh with hh | hh
        · exact .inl (Nat.eq_of_beq_eq_true hh)
        · exact .inr (by simpa using hh)
      | succ k =>
        have := ih (i + 1) h k o (by simpa using hk)
        rw [show i + (k + 1) = i + 1 + k by omega]; exact this
    · cases h


theorem pairOk_spec {A : Nat → Option V} {S : List (Env × Hp)} {ops : Array Oper} {bs : List (List Nat)} {i j : Nat} {o p : Oper} {n m : Bool} (h : pairOkA C A S ops bs i o n j p m = true) :
    (∀ d, o.dst = some d → p.dst ≠ some d) ∧ (∀ d, o.dst = some d → d ∈ readsOf ops p → i ∈ bs.getD j []) ∧ (∀ d, p.dst = some d → d ∈ readsOf ops o → i ∈ bs.getD j []) ∧
    (n = true → apA C A j p.op = false → earlyOk C S ops j p i = false → i ∈ bs.getD j []) ∧ (m = true → apA C A i o.op = false → lateOk C S ops i o j = false → i ∈ bs.getD j []) := by
  unfold pairOkA at h
  simp only [Bool.and_eq_true] at h
  obtain ⟨⟨h1, h2⟩, h3⟩ := h
  have ordm : (bs.getD j []).contains i = true → i ∈ bs.getD j [] := by simp
  refine ⟨fun d hd hp => ?_, fun d hd hr => ?_, fun d hd hr => ?_, fun hn ha heb => ?_, fun hm ha hlb => ?_⟩
  · rw [hd] at h1
    simp only [Bool.and_eq_true] at h1
    rw [hp] at h1
    have := h1.1
    simp only [Bool.not_eq_true'] at this
    have h0 : Nat.beq d d = true := Nat.beq_refl d
    rw [h0] at this; cases this
  · rw [hd] at h1
    simp only [Bool.and_eq_true, Bool.or_eq_true, Bool.not_eq_true'] at h1
    rcases h1.2 with hh | hh
    · exact ordm hh
    · have : (readsOf ops p).contains d = true := by simpa using hr
      rw [this] at hh; cases hh
  · rw [hd] at h2
    simp only [Bool.or_eq_true, Bool.not_eq_true'] at h2
    rcases h2 with hh | hh
    · exact ordm hh
    · have : (readsOf ops o).contains d = true := by simpa using hr
      rw [this] at hh; cases hh
  · simp only [Bool.or_eq_true, Bool.not_eq_true'] at h3
    rcases h3 with hh | hh
    · exact ordm hh
    · rw [hn, ha, heb] at hh; simp at hh
  · simp only [Bool.or_eq_true, Bool.not_eq_true'] at h3
    rcases h3 with hh | hh
    · exact ordm hh
    · rw [hm, ha, hlb] at hh; simp at hh

theorem states_get {ops : Array Oper} {L : List Oper} {es : Nat → Env} {hs : Nat → Hp} {vs : Nat → V} {ns : Nat → Bool} (T : TrOk C (fun _ => none) ops L es hs vs ns) : ∀ (l : List Oper) (d : Nat), (∀ k o, l[k]? = some o → L[d + k]? = some o) →
    ∀ i, i ≤ l.length → (statesOps C ops l (es d) (hs d))[i]? = some (es (d + i), hs (d + i)) := by
  intro l
  induction l with
  | nil => intro d _ i hi; have : i = 0 := by simpa using hi
           subst this; rfl
  | cons o l ih =>
    intro d hl i hi
    cases i with
    | zero => rfl
    | succ i =>
      have ho := hl 0 o rfl
      rw [Nat.add_zero] at ho
      obtain ⟨k, h1, h2, _⟩ := T.step d o ho rfl
      have he := T.env d o ho
      simp only [statesOps, List.getElem?_cons_succ]
      have := ih (d + 1) (fun k p hk => by rw [show d + 1 + k = d + (k + 1) by omega]; exact hl (k + 1) p (by simpa using hk)) i (by simpa using hi)
      rw [he, ← h2] at this
      rw [h1]
      rw [show d + (i + 1) = d + 1 + i by omega]
      cases k <;> exact this

/-- what is known of the region as a whole -/
structure DReg (C : Cfg) (A : Nat → Option V) (S : List (Env × Hp)) (ops : Array Oper) (n : Nat) (es : Nat → Env) (hs : Nat → Hp) (vs : Nat → V) (ns : Nat → Bool) (bs : List (List Nat)) : Prop where
  tr : TrOk C A ops ops.toList es hs vs ns
  edge : ∀ (k : Nat) (o : Oper), ops.toList[k]? = some o → (∀ j ∈ bindsOn o, j < k) ∧ ∀ m ∈ bs.getD k [], ∃ j ∈ bindsOn o, m = j ∨ m ∈ bs.getD j []
  pair : ∀ (a b : Nat) (o p : Oper), a < b → ops.toList[a]? = some o → ops.toList[b]? = some p → pairOkA C A S ops bs a o (ns a) b p (ns b) = true
  dst : ∀ (k : Nat) (o : Oper), ops.toList[k]? = some o → dstOk n o = true
  st : ∀ i, i ≤ ops.toList.length → S[i]? = some (es i, hs i)
  flo : ∀ i o v, ops.toList[i]? = some o → A i = some v → ∃ T a cs, floatV C.P (rdE (es i)) a o.op = some (v, T, cs) ∧ o.guard = none ∧
    ∀ m, m ≤ ops.toList.length → (∀ j oj, j < m → ops.toList[j]? = some oj → ns j = true → i ∉ bs.getD j []) → (hs m).t.get a = some (.cells a 0 0 cs) ∧ (hs m).els.get a = some (2 * T + 1)
  uniq : ∀ i j a, (A i).bind vblk = some a → (A j).bind vblk = some a → i = j

def lst (listed : Array Bool) (i : Nat) : Prop := listed.getD i false = true

structure DInv (C : Cfg) (A : Nat → Option V) (N0 : Nat) (w0 : Fr) (ops : Array Oper) (n : Nat) (es : Nat → Env) (hs : Nat → Hp) (vs : Nat → V) (ns : Nat → Bool) (bs : List (List Nat)) (listed : Array Bool) (a : Act) (w : World) (ρ : Ren) : Prop where
  size : listed.size = ops.size
  tsz : a.tmps.size = n
  vals : ∀ i o d, ops.toList[i]? = some o → lst listed i → o.dst = some d → VR ρ (vs i) (a.tmps.getD d undef)
  rest : ∀ s, (∀ i o, ops.toList[i]? = some o → lst listed i → o.dst ≠ some s) → VR ρ (Env.get (es 0) s) (a.tmps.getD s undef)
  heap : ∃ m, m ≤ ops.toList.length ∧ Rel C.Γ N0 w0 ρ (hs m) w ∧ ∀ j o, ops.toList[j]? = some o → ns j = true → (lst listed j ↔ j < m)
  closed : ∀ i o, ops.toList[i]? = some o → lst listed i → ∀ j ∈ bs.getD i [], lst listed j
  ghost : ∀ i a, i < ops.toList.length → (A i).bind vblk = some a → ¬ lst listed i → ρ a = none
  kk : ∀ i a, i < ops.toList.length → (A i).bind vblk = some a → w0.K ≤ a

section
variable {A : Nat → Option V} {S : List (Env × Hp)} {ops : Array Oper} {n : Nat} {es : Nat → Env} {hs : Nat → Hp} {vs : Nat → V} {ns : Nat → Bool} {bs : List (List Nat)}

theorem es_get (R : DReg C A S ops n es hs vs ns bs) (s : Nat) : ∀ i, i ≤ ops.toList.length →
    (∃ j o, j < i ∧ ops.toList[j]? = some o ∧ o.dst = some s ∧ Env.get (es i) s = vs j) ∨ ((∀ j o, j < i → ops.toList[j]? = some o → o.dst ≠ some s) ∧ Env.get (es i) s = Env.get (es 0) s) := by
  intro i
  induction i with
  | zero => intro _; exact .inr ⟨fun j o hj => by omega, rfl⟩
  | succ i ih =>
    intro hi
    have ho : ops.toList[i]? = some (ops.toList[i]'(by omega)) := by simp
    have he := R.tr.env i _ ho
    by_cases hd : (ops.toList[i]'(by omega)).dst = some s
    · exact .inl ⟨i, _, by omega, ho, hd, by rw [he, hd, env_get_put, if_pos rfl]⟩
    · have hsame : Env.get (es (i + 1)) s = Env.get (es i) s := by rw [he, env_put_ne hd]
      rcases ih (by omega) with ⟨j, o, h1, h2, h3, h4⟩ | ⟨h1, h2⟩
      · exact .inl ⟨j, o, by omega, h2, h3, by rw [hsame]; exact h4⟩
      · refine .inr ⟨fun j o hj hjo => ?_, by rw [hsame]; exact h2⟩
        by_cases e : j = i
        · subst e; rw [ho] at hjo; simp only [Option.some.injEq] at hjo; subst hjo; exact hd
        · exact h1 j o (by omega) hjo

theorem hs_quiet (R : DReg C A S ops n es hs vs ns bs) {b : Nat} (hb : b < ops.toList.length) (hn : ns b = false) : hs (b + 1) = hs b := by
  have ho : ops.toList[b]? = some (ops.toList[b]'hb) := by simp
  cases ha : A b with
  | some v => exact (R.tr.flo b _ v ho ha).2.1
  | none =>
    obtain ⟨k, h1, h2, h3⟩ := R.tr.step b _ ho ha
    rw [hn] at h3
    have hk : k = none := by cases k with | none => rfl | some _ => simp at h3
    subst hk
    rw [← h2]; rfl

theorem hs_const (R : DReg C A S ops n es hs vs ns bs) {a b : Nat} (hab : a ≤ b) (hb : b ≤ ops.toList.length) (hq : ∀ j o, a ≤ j → j < b → ops.toList[j]? = some o → ns j = false) : hs b = hs a := by
  induction b with
  | zero => have : a = 0 := by omega
            subst this; rfl
  | succ b ih =>
    by_cases e : a = b + 1
    · subst e; rfl
    · have ho : ops.toList[b]? = some (ops.toList[b]'(by omega)) := by simp
      have hn := hq b _ (by omega) (by omega) ho
      rw [hs_quiet R (by omega) hn]
      exact ih (by omega) (by omega) fun j o hj hjb hjo => hq j o hj (by omega) hjo

theorem isLoadO_spec {o : Op} (h : isLoadO o = true) : ∃ T ad, o = .load T ad := by
  unfold isLoadO at h
  split at h
  · exact ⟨_, _, rfl⟩
  · cases h

theorem load_still {rd : Operand → Option V} {h : Hp} {T : TypeId} {ad : Operand} {x : V} {k : Option Hp} (hs : opVal C rd h (.load T ad) = some (x, k)) : k = none := by
  simp only [opVal] at hs
  split at hs
  · exact still_none hs
  · cases hs

/-- a load that is late reads what it reads in the text -/
theorem late_same (R : DReg C A S ops n es hs vs ns bs) {o : Oper} {a b : Nat} {x : V} (hw : wantedE (es a) ops o = some true) (hab : a ≤ b) (hb : b ≤ ops.toList.length) (h0 : opVal C (rdE (es a)) (hs a) o.op = some (x, none))
    (hq : ∀ j oj, a ≤ j → j < b → ops.toList[j]? = some oj → ns j = true → lateOk C S ops a o j = true) : opVal C (rdE (es a)) (hs b) o.op = some (x, none) := by
  induction b with
  | zero => have : a = 0 := by omega
            subst this; exact h0
  | succ b ih =>
    by_cases e : a = b + 1
    · subst e; exact h0
    · have ho : ops.toList[b]? = some (ops.toList[b]'(by omega)) := by simp
      cases hn : ns b with
      | false =>
        rw [hs_quiet R (by omega) hn]
        exact ih (by omega) (by omega) fun j oj hj hjb => hq j oj hj (by omega)
      | true =>
        have hl := hq b _ (by omega) (by omega) ho hn
        unfold lateOk at hl
        rw [R.st a (by omega), R.st (b + 1) hb] at hl
        simp only [h0, hw] at hl
        split at hl
        · split at hl
          · rename_i v v' hv hv'
            simp only [Option.some.injEq, Prod.mk.injEq, and_true] at hv
            subst hv
            rw [V.same_eq _ _ hl]; exact hv'
          · cases hl
        · cases hl

/-- a load that is early reads what it reads in the text -/
theorem early_same (R : DReg C A S ops n es hs vs ns bs) {o : Oper} {a : Nat} {x : V} (hw : wantedE (es a) ops o = some true) (ha : a ≤ ops.toList.length) (hld : isLoadO o.op = true) (h0 : opVal C (rdE (es a)) (hs a) o.op = some (x, none)) :
    ∀ (d b : Nat), b + d = a → (∀ j oj, b ≤ j → j < a → ops.toList[j]? = some oj → ns j = true → earlyOk C S ops a o j = true) → opVal C (rdE (es a)) (hs b) o.op = some (x, none) := by
  intro d
  induction d with
  | zero => intro b hb _; have : b = a := by omega
            subst this; exact h0
  | succ d ih =>
    intro b hb hq
    have hi := ih (b + 1) (by omega) fun j oj hj hja => hq j oj (by omega) hja
    have ho : ops.toList[b]? = some (ops.toList[b]'(by omega)) := by simp
    cases hn : ns b with
    | false =>
      rw [← hs_quiet R (by omega) hn]; exact hi
    | true =>
      have hl := hq b _ (Nat.le_refl _) (by omega) ho hn
      unfold earlyOk at hl
      rw [hld, R.st a ha, R.st b (by omega), R.st (b + 1) (by omega)] at hl
      simp only [hi, hw] at hl
      split at hl
      · rename_i v v' hv hv'
        simp only [Option.some.injEq, Prod.mk.injEq, and_true] at hv'
        subst hv'
        rw [hv, V.same_eq _ _ hl]
      · cases hl

theorem lst_set {listed : Array Bool} {i j : Nat} (hi : i < listed.size) : lst (listed.setIfInBounds i true) j ↔ j = i ∨ lst listed j := by
  unfold lst
  simp only [Array.getD_eq_getD_getElem?, Array.getElem?_setIfInBounds]
  by_cases e : i = j
  · subst e; simp [hi]
  · rw [if_neg e]
    constructor
    · exact .inr
    · rintro (h | h)
      · exact absurd h.symm e
      · exact h

theorem ready_spec {listed : Array Bool} (hsz : listed.size = ops.size) {i : Nat} (hi : i ∈ Region.ready .any ops listed) :
    ∃ o, ops.toList[i]? = some o ∧ i < ops.size ∧ ¬ lst listed i ∧ ∀ j ∈ bindsOn o, lst listed j := by
  unfold Region.ready at hi
  simp only [List.mem_filter, List.mem_range, Bool.and_eq_true, Bool.not_eq_true'] at hi
  obtain ⟨h1, h2, h3⟩ := hi
  have ho : ops[i]? = some ops[i] := by simp
  rw [ho] at h3
  simp only [Option.map_some, Option.getD_some, Array.all_eq_true'] at h3
  refine ⟨ops[i], by simp, h1, ?_, fun j hj => ?_⟩
  · unfold lst
    rw [Array.getD_eq_getD_getElem?] at h2 ⊢
    rw [Array.getElem?_eq_getElem (by omega)] at h2 ⊢
    simp only [Option.getD_some] at h2 ⊢
    simp [h2]
  · unfold bindsOn at hj
    simp only [List.mem_map, List.mem_filter] at hj
    obtain ⟨e, ⟨he1, he2⟩, rfl⟩ := hj
    have := h3 e (by simpa using he1)
    rw [he2] at this
    simpa [lst] using this

theorem ready_mem {listed : Array Bool} (hsz : listed.size = ops.size) {i : Nat} {o : Oper} (ho : ops.toList[i]? = some o) (hn : ¬ lst listed i) (hb : ∀ j ∈ bindsOn o, lst listed j) : i ∈ Region.ready .any ops listed := by
  have hlt : i < ops.size := by have := (List.getElem?_eq_some_iff.1 ho).1; simpa using this
  have ho' : ops[i]? = some o := by simpa using ho
  unfold Region.ready
  simp only [List.mem_filter, List.mem_range, Bool.and_eq_true, Bool.not_eq_true']
  refine ⟨hlt, ?_, ?_⟩
  · unfold lst at hn
    rw [Array.getD_eq_getD_getElem?] at hn ⊢
    rw [Array.getElem?_eq_getElem (by omega)] at hn ⊢
    simpa using hn
  · rw [ho']
    simp only [Option.map_some, Option.getD_some, Array.all_eq_true']
    intro e he
    cases hbnd : Region.binds .any e with
    | false => simp
    | true =>
      have := hb e.on (by unfold bindsOn; exact List.mem_map.2 ⟨e, List.mem_filter.2 ⟨by simpa using he, hbnd⟩, rfl⟩)
      simpa [lst] using this

/-- a block that is told, but not made yet, is made -/
theorem floatV_blk {P : Program} {rd : Operand → Option V} {a : Nat} {o : Op} {v : V} {T : TypeId} {cs : List V} (h : floatV P rd a o = some (v, T, cs)) : vblk v = some a := by
  unfold floatV at h
  split at h
  · split at h
    · simp only [Option.some.injEq, Prod.mk.injEq] at h; rw [← h.1]; rfl
    · cases h
  · split at h
    · split at h
      · split at h
        · simp only [Option.some.injEq, Prod.mk.injEq] at h; rw [← h.1]; rfl
        · cases h
      · cases h
    · cases h
  · cases h

theorem sameInt_spec {x y : Option V} (h : sameInt x y = true) : ∃ k k' n, x = some (.int k n) ∧ y = some (.int k' n) := by
  unfold sameInt at h
  split at h
  · have := of_decide_eq_true h
    subst this
    exact ⟨_, _, _, rfl, rfl⟩
  · cases h

theorem floatEq_spec {P : Program} {rd rd0 : Operand → Option V} {a : Nat} {o : Op} (h : floatEq rd rd0 o = true) : floatV P rd a o = floatV P rd0 a o := by
  unfold floatEq at h
  split at h
  · rfl
  · simp only [Bool.and_eq_true] at h
    obtain ⟨k1, k2, n, e1, e2⟩ := sameInt_spec h.1
    obtain ⟨k3, k4, m, e3, e4⟩ := sameInt_spec h.2
    simp only [floatV, e1, e2, e3, e4]
    generalize P.underlying _ = q
    cases q with
    | none => rfl
    | some d => cases d <;> rfl
  · cases h

theorem ghost_rel {Γ : Glob} {ρ : Ren} {h : Hp} {w : World} (H : Rel Γ N0 w0 ρ h w) {T a : Nat} {cs : List V} {arr : Array Value} (hzl : ∀ ρ, VRs ρ cs arr.toList) (ha : h.t.get a = some (.cells a 0 0 cs)) (he : h.els.get a = some (2 * T + 1))
    (hρ : ρ a = none) (hK : w0.K ≤ a) : Ext ρ (setR ρ a ⟨w.heap.size, 0, cs.length⟩) ∧ Rel Γ N0 w0 (setR ρ a ⟨w.heap.size, 0, cs.length⟩) h (World.new w (.cells arr T)) := by
  have hsz : cs.length = arr.size := by simpa using (hzl ρ).1
  have hext := setR_ext (L := ⟨w.heap.size, 0, cs.length⟩) hρ
  have hN : N0 ≤ w.heap.size := Nat.le_trans H.hN0 H.below.size
  have H' := H.grow (new_below w (.cells arr T))
  have hlt := H.elt a _ he
  have hat : setR ρ a ⟨w.heap.size, 0, cs.length⟩ a = some ⟨w.heap.size, 0, cs.length⟩ := by simp [setR]
  have hold : ∀ b, b ≠ a → setR ρ a ⟨w.heap.size, 0, cs.length⟩ b = ρ b := fun b hb => by simp [setR, hb]
  refine ⟨hext, ?_⟩
  · exact {
      below := H'.below
      hN0 := H.hN0
      glob := H.glob
      fresh := fun b hb => by rw [hold b (by omega)]; exact H.fresh b hb
      lt := fun b M hM => by
        by_cases e : b = a
        · subst e; rw [hat] at hM; simp only [Option.some.injEq] at hM; subst hM; rw [new_size]; exact Nat.lt_succ_self _
        · rw [hold b e] at hM; exact H'.lt b M hM
      blk := fun b x hne hx => by
        by_cases e : b = a
        · subst e
          rw [ha] at hx; simp only [Option.some.injEq] at hx; subst hx
          refine ⟨⟨w.heap.size, 0, cs.length⟩, hat, hN, arr, T, (0, 0), new_heap_new _ _, by show arr.size = 0 + cs.length; omega, Nat.le_refl _, fun i y u hy hu => ?_, fun o h1 h2 => by simp at h2⟩
          simp only [Nat.zero_add] at hu
          exact (hzl _).2 i y u hy (by simpa using hu)
        · rw [hold b e] at hne
          exact (H'.blk b x hne hx).ext hext
      sep := fun b c x y L M hx hy hL hM hff => by
        by_cases e : b = a <;> by_cases e' : c = a
        · subst e; subst e'; rw [hx] at hy; simp only [Option.some.injEq] at hy; subst hy; exact absurd rfl hff
        · subst e; rw [hat] at hL; simp only [Option.some.injEq] at hL; subst hL
          rw [hold c e'] at hM; have := H.lt c M hM
          show w.heap.size ≠ M.b; omega
        · subst e'; rw [hat] at hM; simp only [Option.some.injEq] at hM; subst hM
          rw [hold b e] at hL; have := H.lt b L hL
          show L.b ≠ w.heap.size; omega
        · rw [hold b e] at hL; rw [hold c e'] at hM; exact H.sep b c x y L M hx hy hL hM hff
      same := fun b c f fb fz xs gb gz ys L M hx hy hL hM hbb => by
        by_cases e : b = a <;> by_cases e' : c = a
        · subst e; subst e'; rw [hx] at hy
          simp only [Option.some.injEq, Blk.cells.injEq] at hy
          obtain ⟨_, rfl, _, _⟩ := hy
          rw [hL] at hM; simp only [Option.some.injEq] at hM; subst hM; rfl
        · subst e; rw [hat] at hL; simp only [Option.some.injEq] at hL; subst hL
          rw [hold c e'] at hM; have := H.lt c M hM
          have hbb' : w.heap.size = M.b := hbb
          omega
        · subst e'; rw [hat] at hM; simp only [Option.some.injEq] at hM; subst hM
          rw [hold b e] at hL; have := H.lt b L hL
          have hbb' : L.b = w.heap.size := hbb
          omega
        · rw [hold b e] at hL; rw [hold c e'] at hM; exact H.same b c f fb fz xs gb gz ys L M hx hy hL hM hbb
      fam := H.fam
      elk := fun b e0 hne hb => by
        by_cases e : b = a
        · subst e
          rw [he] at hb; simp only [Option.some.injEq] at hb; subst hb
          exact ⟨⟨w.heap.size, 0, cs.length⟩, arr, (0, 0), hat, by rw [half_odd]; exact new_heap_new w _, .inl rfl, fun _ => rfl⟩
        · rw [hold b e] at hne
          obtain ⟨L, arr, fr, q1, q2⟩ := H'.elk b e0 hne hb
          exact ⟨L, arr, fr, by rw [hold b e]; exact q1, q2⟩
      elt := H.elt
      old := ⟨H.old.1, fun b hb => by rw [hold b (by omega)]; exact H.old.2 b hb⟩
      kept := H.kept.step (fun b _ hlt => (new_below w (.cells arr T)).block b hlt) fun b x M hx hM => by
        by_cases e : b = a
        · subst e; rw [hat] at hM; simp only [Option.some.injEq] at hM; subst hM; exact .inr (Nat.le_refl _)
        · rw [hold b e] at hM; exact .inl ⟨b, x, M, hx, hM, rfl⟩ }

theorem ghost_float {P : Program} {Γ : Glob} {ρ : Ren} {h : Hp} {w : World} (H : Rel Γ N0 w0 ρ h w) {rd : Operand → Option V} {ac : Act} {o : Oper} {v : V} {T a : Nat} {cs : List V} (hv : floatV P rd a o.op = some (v, T, cs))
    (hρx : ∀ x ∈ o.op.operands.toList, ∀ y, rd x = some y → VR ρ y (ac.eval x)) (ha : h.t.get a = some (.cells a 0 0 cs)) (he : h.els.get a = some (2 * T + 1)) (hρ : ρ a = none) (hK : w0.K ≤ a) :
    ∃ u w', (execOp ac.eval o).run P w = .ok (.value u) w' ∧ Ext ρ (setR ρ a ⟨w.heap.size, 0, cs.length⟩) ∧ Rel Γ N0 w0 (setR ρ a ⟨w.heap.size, 0, cs.length⟩) h w' ∧ VR (setR ρ a ⟨w.heap.size, 0, cs.length⟩) v u := by
  have hat : setR ρ a ⟨w.heap.size, 0, cs.length⟩ a = some ⟨w.heap.size, 0, cs.length⟩ := by simp [setR]
  unfold floatV at hv
  split at hv
  · rename_i T' hop
    split at hv
    · rename_i cs' hz
      simp only [Option.some.injEq, Prod.mk.injEq] at hv; obtain ⟨rfl, rfl, rfl⟩ := hv
      obtain ⟨z, hzr, hzl⟩ := run_zeroValue (P := P) (w := w) hz
      obtain ⟨g1, g2⟩ := ghost_rel H (arr := z.cells) hzl ha he hρ hK
      refine ⟨.pointer (some ⟨w.heap.size, 0, none⟩), World.new w (.cells z.cells T'), ?_, g1, g2, .ptr a 0 ⟨w.heap.size, 0, cs'.length⟩ hat⟩
      rw [show (execOp ac.eval o) = (do pure (Next.value (← Instr.alloc T' true (.tuple #[]))) : Sem Next) by unfold execOp; rw [hop], run_v]
      simp only [Instr.alloc, Sem.run_bind, hzr, Result.andThen_ok, newVar, run_newRow]; rfl
    · cases hv
  · rename_i T' lo co hop
    split at hv
    · rename_i e k x k' y hT hl hc
      split at hv
      · rename_i sz zs by_ hsz hz hby
        split at hv
        · rename_i hcnd
          obtain ⟨hp, hzl, h0, hxy, hcb, hroom⟩ := hcnd
          subst hxy
          simp only [Option.some.injEq, Prod.mk.injEq] at hv; obtain ⟨rfl, rfl, rfl⟩ := hv
          have el : ac.eval lo = .int k x := (hρx lo (by rw [hop]; simp [Op.operands]) _ hl).int_inv
          have ec : ac.eval co = .int k' x := (hρx co (by rw [hop]; simp [Op.operands]) _ hc).int_inv
          obtain ⟨i, hi, rfl⟩ : ∃ i, P.info? e = some i ∧ i.bytes = by_ := by simpa [bytesOf] using hby
          obtain ⟨z, hzr, hzv⟩ := run_zeroValue (P := P) (w := w) hz
          have hw1 := wrap_small (n := x) h0 hcb
          have hzs : ∀ ρ, VRs ρ (zerosOf zs (x.toNat * sz)) ((Array.range (x.toNat * sz)).map (z.cells[· % z.cells.size]!)).toList := fun ρ => zerosOf_VRs (hzv ρ) _ (.inr (by omega))
          obtain ⟨g1, g2⟩ := ghost_rel H (arr := (Array.range (x.toNat * sz)).map (z.cells[· % z.cells.size]!)) hzs ha he hρ hK
          refine ⟨.slice (some ⟨w.heap.size, 0, none⟩) x.toNat x.toNat, _, ?_, g1, g2, .sl a 0 x.toNat sz x.toNat ⟨w.heap.size, 0, (zerosOf zs (x.toNat * sz)).length⟩ hat (Nat.le_refl _) (by simp [zerosOf])⟩
          rw [show (execOp ac.eval o) = (do pure (Next.value (← Instr.makeSlice T' (ac.eval lo) (ac.eval co))) : Sem Next) by unfold execOp; rw [hop], run_v, el, ec]
          have t1 : (decide (x < 0) || decide ((i.bytes : Int) * x > 2 ^ 48)) = false := by
            have e48 : ((2 : Int) ^ 48) = 281474976710656 := rfl
            rw [e48]; simp; omega
          have hrun : (Instr.makeSlice T' (.int k x) (.int k' x)).run P w = .ok (.slice (some ⟨w.heap.size, 0, none⟩) x.toNat x.toNat) (World.new w (.cells ((Array.range (x.toNat * sz)).map (z.cells[· % z.cells.size]!)) e)) := by
            simp only [Instr.makeSlice, Sem.run_bind, run_underlying hT, Result.andThen_ok, asInt, asIntOf, Sem.run_pure, run_typeInfo hi, hw1, t1]
            rw [if_neg (by simp; omega)]
            simp only [Sem.run_bind, run_askRoom, Result.andThen_ok, run_sizeOf hsz]
            by_cases e0 : x.toNat * sz = 0
            · have hz0 : (Array.range (x.toNat * sz)).map ((#[] : Array Value)[· % (#[] : Array Value).size]!) = (Array.range (x.toNat * sz)).map (z.cells[· % z.cells.size]!) := by rw [e0]; simp
              rw [if_pos e0]
              simp only [Sem.run_bind, Sem.run_pure, Result.andThen_ok, hz0, run_newRow]
            · rw [if_neg e0]
              simp only [Sem.run_bind, Sem.run_pure, hzr, Result.andThen_ok, run_newRow]
          rw [hrun]; rfl
        · cases hv
      · cases hv
    · cases hv
  · cases hv

theorem drawn_step (hctx : CtxOk C) (R : DReg C A S ops n es hs vs ns bs) {listed : Array Bool} {a : Act} {w : World} {ρ : Ren} (I : DInv C A N0 w0 ops n es hs vs ns bs listed a w ρ) {i : Nat} (hi : i ∈ Region.ready .any ops listed)
    {Q : Exit → Act → World → Prop} {K : Act → World → Prop} (hK : ∀ a' w' ρ', DInv C A N0 w0 ops n es hs vs ns bs (listed.setIfInBounds i true) a' w' ρ' → Ext ρ ρ' → a'.defers = a.defers → K a' w') : wpOp C.P ops Q i K a w := by
  obtain ⟨o, ho, hlt, hnl, hbl⟩ := ready_spec I.size hi
  have ho' : ops[i]? = some o := by simpa using ho
  have hil : i < ops.toList.length := by simpa using hlt
  -- all that lies ahead of it is listed
  have hbs : ∀ j ∈ bs.getD i [], lst listed j := by
    intro j hj
    obtain ⟨q, hq, hh⟩ := (R.edge i o ho).2 j hj
    rcases hh with rfl | hh
    · exact hbl _ hq
    · have hqi := (R.edge i o ho).1 q hq
      have hqo : ops.toList[q]? = some (ops.toList[q]'(by omega)) := by simp
      exact I.closed q _ hqo (hbl q hq) j hh
  -- what it reads
  have hslot : ∀ s, s ∈ readsOf ops o → VR ρ (Env.get (es i) s) (a.tmps.getD s undef) := by
    intro s hs
    rcases es_get R s i (by omega) with ⟨j, oj, h1, h2, h3, h4⟩ | ⟨h1, h2⟩
    · have hp := pairOk_spec (R.pair j i oj o h1 h2 ho)
      rw [h4]
      exact I.vals j oj s h2 (hbs j (hp.2.1 s h3 hs)) h3
    · rw [h2]
      refine I.rest s fun k ok hk hkl hkd => ?_
      rcases Nat.lt_trichotomy k i with hki | hki | hki
      · exact h1 k ok hki hk hkd
      · subst hki; exact hnl hkl
      · have hp := pairOk_spec (R.pair i k o ok hki ho hk)
        exact hnl (I.closed k ok hk hkl i (hp.2.2.1 s hkd hs))
  have hdl : ∀ k, o.dst = some k → k < a.tmps.size := by rw [I.tsz]; exact dstOk_lt (R.dst i o ho)
  obtain ⟨m, hm1, hm2, hm3⟩ := I.heap
  -- the inner world behind the operation
  have fin : ∀ (u : Value) (w' : World) (ρ' : Ren), Ext ρ ρ' → (∀ j b, j ≠ i → j < ops.toList.length → (A j).bind vblk = some b → ¬ lst listed j → ρ' b = none) → VR ρ' (vs i) u → (∃ m', m' ≤ ops.toList.length ∧ Rel C.Γ N0 w0 ρ' (hs m') w' ∧ ∀ j oj, ops.toList[j]? = some oj → ns j = true → (lst (listed.setIfInBounds i true) j ↔ j < m')) → K (a.put o.dst u) w' := by
    intro u w' ρ' hext hgh hu hheap
    refine hK _ w' ρ' ⟨by simp [I.size], by rw [put_size]; exact I.tsz, fun j oj d hj hjl hd => ?_, fun s hs => ?_, hheap, fun j oj hj hjl q hq => ?_, fun j b hj hjb hjn => ?_, I.kk⟩ hext (put_defers' _ _ _)
    · rcases (lst_set (by rw [I.size]; exact hlt)).1 hjl with rfl | hjl2
      · rw [ho] at hj; simp only [Option.some.injEq] at hj; subst hj
        rw [hd]
        rw [act_put_eq (hdl d hd)]; exact hu
      · have hji : j ≠ i := fun e => by subst e; exact hnl hjl2
        have hne : o.dst ≠ some d := by
          intro hod
          rcases Nat.lt_or_ge j i with hh | hh
          · exact (pairOk_spec (R.pair j i oj o hh hj ho)).1 d hd hod
          · exact (pairOk_spec (R.pair i j o oj (by omega) ho hj)).1 d hod hd
        rw [act_put_ne hne]
        exact (I.vals j oj d hj hjl2 hd).ext hext
    · have hne : o.dst ≠ some s := hs i o ho ((lst_set (by rw [I.size]; exact hlt)).2 (.inl rfl))
      rw [act_put_ne hne]
      exact (I.rest s fun j oj hj hjl => hs j oj hj ((lst_set (by rw [I.size]; exact hlt)).2 (.inr hjl))).ext hext
    · refine (lst_set (by rw [I.size]; exact hlt)).2 (.inr ?_)
      rcases (lst_set (by rw [I.size]; exact hlt)).1 hjl with rfl | hjl
      · exact hbs q hq
      · exact I.closed j oj hj hjl q hq
    · exact hgh j b (fun e => hjn ((lst_set (by rw [I.size]; exact hlt)).2 (.inl e))) hj hjb fun hl => hjn ((lst_set (by rw [I.size]; exact hlt)).2 (.inr hl))
  have noNoise : ns i = false → ∃ m', m' ≤ ops.toList.length ∧ Rel C.Γ N0 w0 ρ (hs m') w ∧ ∀ j oj, ops.toList[j]? = some oj → ns j = true → (lst (listed.setIfInBounds i true) j ↔ j < m') := by
    intro hni
    refine ⟨m, hm1, hm2, fun j oj hj hnj => ?_⟩
    rw [lst_set (by rw [I.size]; exact hlt), ← hm3 j oj hj hnj]
    constructor
    · rintro (rfl | h)
      · rw [hni] at hnj; cases hnj
      · exact h
    · exact .inr
  -- what is not made yet
  have pend : ∀ j oj v, ops.toList[j]? = some oj → A j = some v → ¬ lst listed j → ∃ T a cs, floatV C.P (rdE (es j)) a oj.op = some (v, T, cs) ∧ oj.guard = none ∧ (hs m).t.get a = some (.cells a 0 0 cs) ∧ (hs m).els.get a = some (2 * T + 1) := by
    intro j oj v hj hja hjn
    obtain ⟨T, a, cs, f1, f2, f5⟩ := R.flo j oj v hj hja
    obtain ⟨g1, g2⟩ := f5 m hm1 fun q oq hqm hq hqn hin => hjn (I.closed q oq hq ((hm3 q oq hq hqn).2 hqm) j hin)
    exact ⟨T, a, cs, f1, f2, g1, g2⟩
  -- an operation as it stands leaves it so
  have keep : ∀ (ρ' : Ren), (∀ b, b < (hs m).next → ρ' b = ρ b) → ∀ j b, j ≠ i → j < ops.toList.length → (A j).bind vblk = some b → ¬ lst listed j → ρ' b = none := by
    intro ρ' hρ' j b _ hj hjb hjn
    obtain ⟨v, hv, hvb⟩ := Option.bind_eq_some_iff.1 hjb
    obtain ⟨T, a, cs, f3, _, _, g2⟩ := pend j _ _ (List.getElem?_eq_getElem hj) hv hjn
    have f4 := floatV_blk f3
    rw [hvb] at f4
    simp only [Option.some.injEq] at f4
    subst f4
    rw [hρ' b (hm2.elt b _ g2)]
    exact I.ghost j b hj hjb hjn
  unfold wpOp
  rw [ho']
  simp only
  have hwant := wantedE_sound (ops := ops) (o := o) (a := a) (e := es i) (ρ := ρ) (fun d hd => hslot d (by
    unfold readsOf
    rw [List.mem_append]
    right
    revert hd
    cases o.guard with
    | none => intro hd; cases hd
    | some gb => obtain ⟨g, b⟩ := gb; intro hd; simp only at hd ⊢; rw [hd]; simp))
  cases hAi : A i with
  | some v =>
    obtain ⟨T, b, cs, f1, f2, g1, g2⟩ := pend i o v ho hAi hnl
    have hAb : (A i).bind vblk = some b := by rw [hAi]; exact floatV_blk f1
    obtain ⟨e1, e2, e3⟩ := R.tr.flo i o v ho hAi
    have hw1 : wantedE (es i) ops o = some true := by unfold wantedE; rw [f2]
    rw [hwant _ hw1, if_pos rfl]
    left
    obtain ⟨u, w', p1, p2, p3, p4⟩ := ghost_float hm2 f1 (ac := a) (fun x hx y hy => by
      cases x with
      | tmp t =>
        simp only [rdE, Option.some.injEq] at hy; subst hy
        exact hslot t (by
          unfold readsOf
          rw [List.mem_append]
          left
          exact List.mem_filterMap.2 ⟨.tmp t, hx, rfl⟩)
      | const c => exact constV_sound hy
      | global g => simp only [rdE, Option.some.injEq] at hy; subst hy; exact .gp g 0
      | func f => simp only [rdE, Option.some.injEq] at hy; subst hy; exact .fn f [] [] #[] #[] rfl rfl (fun i x u h => by simp at h) (fun i x u h => by simp at h)) g1 g2 (I.ghost i b hil hAb hnl) (I.kk i b hil hAb)
    unfold Oper.wp
    rw [p1, Oper.upon_value]
    refine fin u w' _ p2 (fun j c hji hj hjc hjn => ?_) (by rw [e1]; exact p4) ⟨m, hm1, p3, fun j oj hj hnj => ?_⟩
    · have hne : c ≠ b := fun e => hji (by subst e; exact R.uniq j i c hjc hAb)
      simp only [setR]
      rw [if_neg hne]
      exact I.ghost j c hj hjc hjn
    · obtain ⟨m', _, _, q3⟩ := noNoise e3
      rw [lst_set (by rw [I.size]; exact hlt), ← hm3 j oj hj hnj]
      constructor
      · rintro (rfl | h)
        · rw [e3] at hnj; cases hnj
        · exact h
      · exact .inr
  | none =>
  obtain ⟨k, hstep, hk1, hk2⟩ := R.tr.step i o ho hAi
  have hapA : ∀ {b : Bool}, apartFromHeap C o.op = b → apA C A i o.op = b := by intro b h; unfold apA; rw [h, hAi]; simp
  rcases stepOp_cases hstep with ⟨h1, h2⟩ | ⟨h1, h2⟩
  · rw [hwant _ h1, if_pos rfl]
    left
    -- the operands alone
    let rd' : Operand → Option V := fun x => match x with
      | .tmp t => if t ∈ readsOf ops o then some (Env.get (es i) t) else none
      | x => rdE (es i) x
    have hloc : ∀ h, opVal C rd' h o.op = opVal C (rdE (es i)) h o.op := by
      intro h
      refine opVal_local _ fun x hx => ?_
      cases x with
      | tmp t =>
        have : t ∈ readsOf ops o := by
          unfold readsOf
          rw [List.mem_append]
          left
          exact List.mem_filterMap.2 ⟨.tmp t, hx, rfl⟩
        simp only [rd', this, if_true, rdE]
      | _ => rfl
    have hρ : ∀ x v, rd' x = some v → VR ρ v (a.eval x) := by
      intro x v hx
      cases x with
      | tmp t =>
        simp only [rd'] at hx
        split at hx
        · rename_i ht
          simp only [Option.some.injEq] at hx; subst hx
          exact hslot t ht
        · cases hx
      | const c => exact constV_sound hx
      | global g => simp only [rd', rdE, Option.some.injEq] at hx; subst hx; exact .gp g 0
      | func f => simp only [rd', rdE, Option.some.injEq] at hx; subst hx; exact .fn f [] [] #[] #[] rfl rfl (fun i x u h => by simp at h) (fun i x u h => by simp at h)
    cases hap : apartFromHeap C o.op with
    | true =>
      obtain ⟨e1, e2⟩ := opVal_apart (C := C) (e := es i) (h := hs i) (h' := hs m) hap
      have hk0 := e2 _ _ h2
      subst hk0
      rw [e1, ← hloc] at h2
      exact opVal_sound hctx hm2.focus hρ h2 fun u w' ρ' x1 x2 x3 => by
        refine fin u w' ρ' x1 (keep ρ' x2.old.2) x3 ?_
        have hni : ns i = false := by rw [hk2]; rfl
        obtain ⟨m', q1, q2, q3⟩ := noNoise hni
        refine ⟨m, hm1, hm2.unfocus x2, fun j oj hj hnj => ?_⟩
        rw [lst_set (by rw [I.size]; exact hlt), ← hm3 j oj hj hnj]
        constructor
        · rintro (rfl | h)
          · rw [hni] at hnj; cases hnj
          · exact h
        · exact .inr
    | false =>
      cases hld : isLoadO o.op with
      | true =>
        have hni : ns i = false := by
          rw [hk2]
          obtain ⟨T, ad, hop⟩ := isLoadO_spec hld
          have hk0 := load_still (C := C) (rd := rdE (es i)) (h := hs i) (T := T) (ad := ad) (by rw [← hop]; exact h2)
          rw [hk0]; rfl
        obtain ⟨T, ad, hop⟩ := isLoadO_spec hld
        have hk0 : k = none := load_still (C := C) (rd := rdE (es i)) (h := hs i) (T := T) (ad := ad) (by rw [← hop]; exact h2)
        subst hk0
        have h3 : opVal C rd' (hs m) o.op = some (vs i, none) := by
          rw [hloc]
          rcases Nat.le_total m i with hmi | hmi
          · refine early_same R h1 (by omega) hld h2 (i - m) m (by omega) fun j oj h3 h4 hj hnj => ?_
            cases heb : earlyOk C S ops i o j with
            | true => rfl
            | false =>
              have hl := hbs j ((pairOk_spec (R.pair j i oj o h4 hj ho)).2.2.2.1 hnj (hapA hap) heb)
              have := (hm3 j oj hj hnj).1 hl
              omega
          · refine late_same R h1 hmi hm1 h2 fun j oj h3 h4 hj hnj => ?_
            have hl := (hm3 j oj hj hnj).2 h4
            rcases Nat.lt_or_ge i j with hij | hij
            · cases hlb : lateOk C S ops i o j with
              | true => rfl
              | false => exact absurd (I.closed j oj hj hl i ((pairOk_spec (R.pair i j o oj hij ho hj)).2.2.2.2 hnj (hapA hap) hlb)) hnl
            · have : j = i := by omega
              subst this; exact absurd hl hnl
        exact opVal_sound hctx hm2.focus hρ h3 fun u w' ρ' x1 x2 x3 => by
          refine fin u w' ρ' x1 (keep ρ' x2.old.2) x3 ?_
          refine ⟨m, hm1, hm2.unfocus x2, fun j oj hj hnj => ?_⟩
          rw [lst_set (by rw [I.size]; exact hlt), ← hm3 j oj hj hnj]
          constructor
          · rintro (rfl | h)
            · rw [hni] at hnj; cases hnj
            · exact h
          · exact .inr
      | false =>
      have hlbf : ∀ j, lateOk C S ops i o j = false := fun j => by unfold lateOk; rw [hld]
      have hebf : ∀ j, earlyOk C S ops i o j = false := fun j => by unfold earlyOk; rw [hld]
      -- the heap is as it was in the text
      have hlow : ∀ j oj, j < i → ops.toList[j]? = some oj → ns j = true → lst listed j := fun j oj hji hj hnj => hbs j ((pairOk_spec (R.pair j i oj o hji hj ho)).2.2.2.1 hnj (hapA hap) (hebf _))
      have hhigh : ∀ j oj, i < j → ops.toList[j]? = some oj → ns j = true → ¬ lst listed j := fun j oj hij hj hnj hl => hnl (I.closed j oj hj hl i ((pairOk_spec (R.pair i j o oj hij ho hj)).2.2.2.2 hnj (hapA hap) (hlbf _)))
      have hsame : hs m = hs i := by
        rcases Nat.le_total m i with hmi | hmi
        · refine (hs_const R hmi (by omega) fun j oj h3 h4 hj => ?_).symm
          cases hnj : ns j with
          | false => rfl
          | true => have := (hm3 j oj hj hnj).1 (hlow j oj h4 hj hnj); omega
        · refine hs_const R hmi hm1 fun j oj h3 h4 hj => ?_
          cases hnj : ns j with
          | false => rfl
          | true =>
            have hl := (hm3 j oj hj hnj).2 h4
            rcases Nat.lt_or_ge i j with hij | hij
            · exact absurd hl (hhigh j oj hij hj hnj)
            · have : j = i := by omega
              subst this; exact absurd hl hnl
      rw [← hsame, ← hloc] at h2
      exact opVal_sound hctx hm2.focus hρ h2 fun u w' ρ' x1 x2 x3 => by
        refine fin u w' ρ' x1 (keep ρ' x2.old.2) x3 ?_
        have x4 := hm2.unfocus x2
        rw [hsame, hk1] at x4
        refine ⟨i + 1, by omega, x4, fun j oj hj hnj => ?_⟩
        rw [lst_set (by rw [I.size]; exact hlt)]
        constructor
        · rintro (rfl | h)
          · omega
          · rcases Nat.lt_or_ge i j with hij | hij
            · exact absurd h (hhigh j oj hij hj hnj)
            · omega
        · intro hj1
          rcases Nat.lt_or_ge j i with hji | hji
          · exact .inr (hlow j oj hji hj hnj)
          · exact .inl (by omega)
  · simp only [Prod.mk.injEq] at h2; obtain ⟨hv, rfl⟩ := h2
    rw [hwant _ h1]
    simp only [Bool.false_eq_true, if_false]
    refine fin undef w ρ (.refl _) (keep ρ fun _ _ => rfl) (by rw [hv]; exact undef_VR _) (noNoise ?_)
    rw [hk2]; rfl

def unl (ops : Array Oper) (listed : Array Bool) : List Nat := (List.range ops.size).filter fun i => !listed.getD i false

theorem drawn_any (hctx : CtxOk C) (R : DReg C A S ops n es hs vs ns bs) {Q : Exit → Act → World → Prop} {dfs : List Deferred} {ρ0 : Ren} (hQ : ∀ a w ρ, Ext ρ0 ρ → EnvR ρ (es ops.toList.length) a.tmps → Rel C.Γ N0 w0 ρ (hs ops.toList.length) w → a.tmps.size = n → a.defers = dfs → Q .normal a w) :
    ∀ (fuel : Nat) (listed : Array Bool) (a : Act) (w : World) (ρ : Ren), DInv C A N0 w0 ops n es hs vs ns bs listed a w ρ → Ext ρ0 ρ → a.defers = dfs → (unl ops listed).length ≤ fuel → wpAny C.P .any ops Q fuel listed a w := by
  have hend : ∀ (listed : Array Bool) (a : Act) (w : World) (ρ : Ren), DInv C A N0 w0 ops n es hs vs ns bs listed a w ρ → Ext ρ0 ρ → a.defers = dfs → (∀ i, i < ops.size → lst listed i) → Q .normal a w := by
    intro listed a w ρ I hx hd hall
    obtain ⟨m, hm1, hm2, hm3⟩ := I.heap
    have hsame : hs ops.toList.length = hs m := by
      refine hs_const R hm1 (Nat.le_refl _) fun j oj h3 h4 hj => ?_
      cases hnj : ns j with
      | false => rfl
      | true => have := (hm3 j oj hj hnj).1 (hall j (by simpa using h4)); omega
    refine hQ a w ρ hx (fun s => ?_) (by rw [hsame]; exact hm2) I.tsz hd
    rcases es_get R s ops.toList.length (Nat.le_refl _) with ⟨j, oj, h1, h2, h3, h4⟩ | ⟨h1, h2⟩
    · rw [h4]; exact I.vals j oj s h2 (hall j (by simpa using h1)) h3
    · rw [h2]
      exact I.rest s fun j oj hj _ => h1 j oj (List.getElem?_eq_some_iff.1 hj).1 hj
  have hmin : ∀ (listed : Array Bool) (a : Act) (w : World) (ρ : Ren), DInv C A N0 w0 ops n es hs vs ns bs listed a w ρ → Region.ready .any ops listed = [] → ∀ i, i < ops.size → lst listed i := by
    intro listed a w ρ I hr i
    induction i using Nat.strongRecOn with
    | ind i ih =>
      intro hi
      apply Classical.byContradiction
      intro hn
      have hil : i < ops.toList.length := by simpa using hi
      have ho : ops.toList[i]? = some (ops.toList[i]'hil) := by simp
      have := ready_mem I.size ho hn fun j hj => ih j ((R.edge i _ ho).1 j hj) (Nat.lt_trans ((R.edge i _ ho).1 j hj) hi)
      rw [hr] at this; cases this
  intro fuel
  induction fuel with
  | zero =>
    intro listed a w ρ I hx hd hf
    have hall : ∀ i, i < ops.size → lst listed i := by
      intro i hi
      apply Classical.byContradiction
      intro hn
      have hmem : i ∈ unl ops listed := List.mem_filter.2 ⟨List.mem_range.2 hi, by unfold lst at hn; simpa using hn⟩
      have : (unl ops listed).length ≠ 0 := fun e => by rw [List.length_eq_zero_iff.1 e] at hmem; cases hmem
      omega
    refine ⟨?_, hend listed a w ρ I hx hd hall⟩
    cases hr : Region.ready .any ops listed with
    | nil => rfl
    | cons i r =>
      obtain ⟨o, _, hi, hn, _⟩ := ready_spec I.size (i := i) (by rw [hr]; exact List.mem_cons_self)
      exact absurd (hall i hi) hn
  | succ fuel ih =>
    intro listed a w ρ I hx hd hf
    refine ⟨fun hr => hend listed a w ρ I hx hd (hmin listed a w ρ I hr), fun i hi => ?_⟩
    refine drawn_step hctx R I hi fun a' w' ρ' I' hx' hd' => ?_
    refine ih _ a' w' ρ' I' (hx.trans hx') (hd'.trans hd) ?_
    obtain ⟨o, ho, hlt, hnl, _⟩ := ready_spec I.size hi
    have hlt2 : (unl ops (listed.setIfInBounds i true)).length < (unl ops listed).length := by
      have hsub : unl ops (listed.setIfInBounds i true) = (unl ops listed).filter fun j => !(j == i) := by
        unfold unl
        rw [List.filter_filter]
        apply List.filter_congr
        intro j _
        have := lst_set (listed := listed) (i := i) (j := j) (by rw [I.size]; exact hlt)
        unfold lst at this
        rw [Bool.eq_iff_iff]
        simp only [Bool.not_eq_true', Bool.and_eq_true, beq_eq_false_iff_ne, ne_eq]
        constructor
        · intro h
          have hh : ¬ (listed.setIfInBounds i true).getD j false = true := by rw [h]; simp
          rw [this] at hh
          refine ⟨fun e => hh (.inl e), ?_⟩
          cases hq : listed.getD j false with
          | false => rfl
          | true => exact absurd (.inr hq) hh
        · rintro ⟨h1, h2⟩
          cases hq : (listed.setIfInBounds i true).getD j false with
          | false => rfl
          | true =>
            rcases this.1 hq with e | e
            · exact absurd e h1
            · rw [h2] at e; cases e
      rw [hsub]
      refine List.length_filter_lt_length_iff_exists.2 ⟨i, List.mem_filter.2 ⟨List.mem_range.2 hlt, by unfold lst at hnl; simpa using hnl⟩, by simp⟩
    omega

end

theorem opAt_sound (hctx : CtxOk C) {ops : Array Oper} {n i : Nat} {o : Oper} (ho : ops[i]? = some o) {Q : Exit → Act → World → Prop} {K : Act → World → Prop} {ρ : Ren} {e : Env} {h : Hp} {a : Act} {w : World} (hd : dstOk n o = true)
    (he : EnvR ρ e a.tmps) (H : Rel C.Γ N0 w0 ρ h w) (hn : a.tmps.size = n) {v : V} {k : Option Hp} (hs : stepOp C ops e h o = some (v, k))
    (hK : ∀ (a' : Act) (w' : World) (ρ' : Ren), EnvR ρ' (Env.put e o.dst v) a'.tmps → Ext ρ ρ' → Rel C.Γ N0 w0 ρ' (k.getD h) w' → a'.tmps.size = n → a'.defers = a.defers → K a' w') : wpOp C.P ops Q i K a w := by
  have hdl : ∀ k, o.dst = some k → k < a.tmps.size := by rw [hn]; exact dstOk_lt hd
  have hwant := wantedE_sound (ops := ops) (o := o) (a := a) (e := e) (ρ := ρ) (fun d _ => he d)
  unfold wpOp
  rw [ho]
  simp only
  rcases stepOp_cases hs with ⟨h1, h2⟩ | ⟨h1, h2⟩
  · rw [hwant _ h1, if_pos rfl]
    left
    refine opVal_sound hctx H (rdE_sound he) h2 (fun u w' ρ' x1 x2 x3 => ?_)
    exact hK _ w' ρ' ((he.ext x1).put x3 hdl) x1 x2 (by rw [put_size]; exact hn) (put_defers' _ _ _)
  · simp only [Prod.mk.injEq] at h2; obtain ⟨rfl, rfl⟩ := h2
    rw [hwant _ h1]
    simp only [Bool.false_eq_true, if_false]
    exact hK _ w ρ (he.put (undef_VR _) hdl) (.refl _) H (by rw [put_size]; exact hn) (put_defers' _ _ _)

theorem runOps_head {ops : Array Oper} {o : Oper} {l : List Oper} {e : Env} {h : Hp} {r : Env × Hp} (hr : runOps C ops (o :: l) e h = some r) :
    ∃ v k, stepOp C ops e h o = some (v, k) ∧ runOps C ops l (Env.put e o.dst v) (k.getD h) = some r := by
  simp only [runOps] at hr
  split at hr
  · rename_i v hs; exact ⟨v, none, hs, hr⟩
  · rename_i v h1 hs; exact ⟨v, some h1, hs, hr⟩
  · cases hr

theorem any_step {P : Program} {ops : Array Oper} {Q : Exit → Act → World → Prop} {fuel : Nat} {L : Array Bool} {a : Act} {w : World} (hne : ∃ i, i ∈ Region.ready .any ops L)
    (h : ∀ i ∈ Region.ready .any ops L, wpOp P ops Q i (wpAny P .any ops Q fuel (L.setIfInBounds i true)) a w) : wpAny P .any ops Q (fuel + 1) L a w :=
  ⟨fun hr => (by obtain ⟨i, hi⟩ := hne; rw [hr] at hi; cases hi), h⟩

/-- what is to be shown of a region -/
def RegW (P : Program) (ops : Array Oper) (Q : Exit → Act → World → Prop) (a : Act) (w : World) : Bool → Prop
  | false => wpList P ops Q ops.toList a w
  | true => wpAny P .any ops Q ops.size (Array.replicate ops.size false) a { w with drawn := w.drawn + 1 }

theorem RegW.any {P : Program} {ops : Array Oper} {Q : Exit → Act → World → Prop} {a : Act} {w : World} (h : wpAny P .any ops Q ops.size (Array.replicate ops.size false) a { w with drawn := w.drawn + 1 }) : RegW P ops Q a w true := h

theorem fork_sound (hctx : CtxOk C) {ops : Array Oper} {n : Nat} {Q : Exit → Act → World → Prop} {ρ : Ren} {e e' : Env} {h h' : Hp} {a : Act} {w : World} (hf : forkOk ops = true)
    (hd : (ops.toList.all (dstOk n)) = true) (he : EnvR ρ e a.tmps) (H : Rel C.Γ N0 w0 ρ h w) (hn : a.tmps.size = n) (hr : forkE C ops e h = some (e', h')) (hb : Behind C N0 w0 n ρ e' h' a (Q .normal)) :
    RegW C.P ops Q a w true := by
  unfold forkOk at hf
  unfold forkE at hr
  split at hf
  case h_2 => cases hf
  rename_i o0 o1 o2 o3 hops
  rw [hops] at hr hd
  simp only at hr
  simp only [Bool.and_eq_true, List.isEmpty_iff, List.contains_iff_mem] at hf
  obtain ⟨⟨_, b0⟩, ⟨b1a, b1⟩, ⟨b2a, b2⟩, ⟨b3a, b31⟩, b32⟩ := hf
  simp only [List.all_cons, List.all_nil, Bool.and_true, Bool.and_eq_true] at hd
  obtain ⟨d0, d1, d2, d3⟩ := hd
  have hsz : ops.size = 4 := by rw [← Array.length_toList, hops]; rfl
  have g0 : ops.toList[0]? = some o0 := by rw [hops]; rfl
  have g1 : ops.toList[1]? = some o1 := by rw [hops]; rfl
  have g2 : ops.toList[2]? = some o2 := by rw [hops]; rfl
  have g3 : ops.toList[3]? = some o3 := by rw [hops]; rfl
  have a0 : ops[0]? = some o0 := by simpa using g0
  have a1 : ops[1]? = some o1 := by simpa using g1
  have a2 : ops[2]? = some o2 := by simpa using g2
  have a3 : ops[3]? = some o3 := by simpa using g3
  split at hr
  case h_2 => cases hr
  rename_i e1 h1 e2 h2 hr1 hr2
  split at hr
  case h_2 => cases hr
  rename_i h3 hj
  simp only [Option.some.injEq, Prod.mk.injEq] at hr; obtain ⟨rfl, rfl⟩ := hr
  -- the two ends
  have end1 : ∀ (a' : Act) (w' : World) (ρ' : Ren), EnvR ρ' e1 a'.tmps → Ext ρ ρ' → Rel C.Γ N0 w0 ρ' h1 w' → a'.tmps.size = n → a'.defers = a.defers → Q .normal a' w' :=
    fun a' w' ρ' y1 y2 y3 y4 y5 => hb a' w' ρ' (fun s => join_left (y1 s)) y2 (Hp.join_left hj y3) y4 y5
  have end2 : ∀ (a' : Act) (w' : World) (ρ' : Ren), EnvR ρ' e2 a'.tmps → Ext ρ ρ' → Rel C.Γ N0 w0 ρ' h2 w' → a'.tmps.size = n → a'.defers = a.defers → Q .normal a' w' :=
    fun a' w' ρ' y1 y2 y3 y4 y5 => hb a' w' ρ' (fun s => join_right (y1 s)) y2 (Hp.join_right hj y3) y4 y5
  refine RegW.any ?_
  rw [hsz]
  -- what is listed
  have l0 : ∀ j, ¬ lst (Array.replicate 4 false) j := by
    intro j
    unfold lst
    rw [Array.getD_eq_getD_getElem?, Array.getElem?_replicate]
    split <;> simp
  -- the last step
  have last : ∀ (L : Array Bool), L.size = 4 → (∀ j, lst L j ↔ j = 0 ∨ j = 1 ∨ j = 2) → ∀ (a' : Act) (w' : World) (ρ' : Ren) (ea : Env) (ha : Hp) (r : Env × Hp), runOps C ops [o3] ea ha = some r → EnvR ρ' ea a'.tmps → Ext ρ ρ' → Rel C.Γ N0 w0 ρ' ha w' → a'.tmps.size = n → a'.defers = a.defers →
      (∀ (a' : Act) (w' : World) (ρ' : Ren), EnvR ρ' r.1 a'.tmps → Ext ρ ρ' → Rel C.Γ N0 w0 ρ' r.2 w' → a'.tmps.size = n → a'.defers = a.defers → Q .normal a' w') → wpAny C.P .any ops Q 1 L a' w' := by
    intro L hL hl a' w' ρ' ea ha r hro y1 y2 y3 y4 y5 hend
    refine any_step ⟨3, ready_mem (by rw [hL, hsz]) g3 (fun hh => by have := (hl 3).1 hh; omega) (fun j hj => (hl j).2 (by have := List.all_eq_true.1 b3a j hj; have := Nat.lt_of_lt_of_le (Nat.lt_succ_self j) (Nat.le_of_ble_eq_true this); omega))⟩ fun i hi => ?_
    obtain ⟨o, q1, q2, q3, q4⟩ := ready_spec (by rw [hL, hsz]) hi
    have hi3 : i = 3 := by
      have hnot : ¬ (i = 0 ∨ i = 1 ∨ i = 2) := fun hh => q3 ((hl i).2 hh)
      omega
    subst hi3
    obtain ⟨v, k, hs, hrest⟩ := runOps_head hro
    refine opAt_sound hctx a3 d3 y1 y3 y4 hs fun a4 w4 ρ4 z1 z2 z3 z4 z5 => ?_
    simp only [runOps, Option.some.injEq] at hrest
    subst hrest
    refine ⟨?_, hend a4 w4 ρ4 z1 (y2.trans z2) z3 z4 (z5.trans y5)⟩
    cases hrd : Region.ready .any ops (L.setIfInBounds 3 true) with
    | nil => rfl
    | cons j r =>
      obtain ⟨oj, p1, p2, p3, p4⟩ := ready_spec (listed := L.setIfInBounds 3 true) (ops := ops) (by rw [Array.size_setIfInBounds, hL, hsz]) (i := j) (by rw [hrd]; exact List.mem_cons_self)
      exact absurd ((lst_set (by omega)).2 (by rw [hl]; omega)) p3
  refine any_step ⟨0, ready_mem (by simp [hsz]) g0 (l0 0) (fun j hj => by rw [b0] at hj; cases hj)⟩ fun i hi => ?_
  obtain ⟨o, q1, q2, q3, q4⟩ := ready_spec (by simp [hsz]) hi
  have hi0 : i = 0 := by
    rcases (show i = 0 ∨ i = 1 ∨ i = 2 ∨ i = 3 by omega) with rfl | rfl | rfl | rfl
    · rfl
    · rw [g1] at q1; simp only [Option.some.injEq] at q1; subst q1; exact absurd (q4 0 b1) (l0 0)
    · rw [g2] at q1; simp only [Option.some.injEq] at q1; subst q1; exact absurd (q4 0 b2) (l0 0)
    · rw [g3] at q1; simp only [Option.some.injEq] at q1; subst q1; exact absurd (q4 1 b31) (l0 1)
  subst hi0
  obtain ⟨v0, k0, s0, r0⟩ := runOps_head hr1
  obtain ⟨v0', k0', s0', r0'⟩ := runOps_head hr2
  rw [s0] at s0'
  simp only [Option.some.injEq, Prod.mk.injEq] at s0'
  obtain ⟨rfl, rfl⟩ := s0'
  refine opAt_sound hctx a0 d0 he (H.drawn _) hn s0 fun x1 u1 ρ1 y1 y2 y3 y4 y5 => ?_
  have l1 : ∀ j, lst ((Array.replicate 4 false).setIfInBounds 0 true) j ↔ j = 0 := fun j => by rw [lst_set (by simp)]; exact ⟨fun hh => hh.elim (fun hx => hx) (fun hh => absurd hh (l0 j)), .inl⟩
  refine any_step ⟨1, ready_mem (by simp [hsz]) g1 (fun hh => by have := (l1 1).1 hh; omega) (fun j hj => (l1 j).2 (by have := List.all_eq_true.1 b1a j hj; exact Nat.eq_of_beq_eq_true this))⟩ fun i hi => ?_
  obtain ⟨o, q1, q2, q3, q4⟩ := ready_spec (by simp [hsz]) hi
  have hi0 : i = 1 ∨ i = 2 := by
    rcases (show i = 0 ∨ i = 1 ∨ i = 2 ∨ i = 3 by omega) with rfl | rfl | rfl | rfl
    · exact absurd ((l1 0).2 rfl) q3
    · exact .inl rfl
    · exact .inr rfl
    · rw [g3] at q1; simp only [Option.some.injEq] at q1; subst q1; have := (l1 1).1 (q4 1 b31); omega
  rcases hi0 with rfl | rfl
  · obtain ⟨v1, k1, s1, r1⟩ := runOps_head r0
    refine opAt_sound hctx a1 d1 y1 y3 y4 s1 fun x2 u2 ρ2 z1 z2 z3 z4 z5 => ?_
    have l2 : ∀ j, lst (((Array.replicate 4 false).setIfInBounds 0 true).setIfInBounds 1 true) j ↔ j = 1 ∨ j = 0 := fun j => by rw [lst_set (by simp), l1]
    refine any_step ⟨2, ready_mem (by simp [hsz]) g2 (fun hh => by have := (l2 2).1 hh; omega) (fun j hj => (l2 j).2 (.inr (Nat.eq_of_beq_eq_true (List.all_eq_true.1 b2a j hj))))⟩ fun i hi => ?_
    obtain ⟨o, q1, q2, q3, q4⟩ := ready_spec (by simp [hsz]) hi
    have hi2 : i = 2 := by
      rcases (show i = 0 ∨ i = 1 ∨ i = 2 ∨ i = 3 by omega) with rfl | rfl | rfl | rfl
      · exact absurd ((l2 0).2 (.inr rfl)) q3
      · exact absurd ((l2 1).2 (.inl rfl)) q3
      · rfl
      · rw [g3] at q1; simp only [Option.some.injEq] at q1; subst q1; have := (l2 2).1 (q4 2 b32); omega
    subst hi2
    obtain ⟨v2, k2, s2, r2⟩ := runOps_head r1
    refine opAt_sound hctx a2 d2 z1 z3 z4 s2 fun x3 u3 ρ3 p1 p2 p3 p4 p5 => ?_
    exact last _ (by simp) (fun j => by rw [lst_set (by simp), l2]; omega) x3 u3 ρ3 _ _ _ r2 p1 ((y2.trans z2).trans p2) p3 p4 (p5.trans (z5.trans y5)) end1
  · obtain ⟨v1, k1, s1, r1⟩ := runOps_head r0'
    refine opAt_sound hctx a2 d2 y1 y3 y4 s1 fun x2 u2 ρ2 z1 z2 z3 z4 z5 => ?_
    have l2 : ∀ j, lst (((Array.replicate 4 false).setIfInBounds 0 true).setIfInBounds 2 true) j ↔ j = 2 ∨ j = 0 := fun j => by rw [lst_set (by simp), l1]
    refine any_step ⟨1, ready_mem (by simp [hsz]) g1 (fun hh => by have := (l2 1).1 hh; omega) (fun j hj => (l2 j).2 (.inr (Nat.eq_of_beq_eq_true (List.all_eq_true.1 b1a j hj))))⟩ fun i hi => ?_
    obtain ⟨o, q1, q2, q3, q4⟩ := ready_spec (by simp [hsz]) hi
    have hi2 : i = 1 := by
      rcases (show i = 0 ∨ i = 1 ∨ i = 2 ∨ i = 3 by omega) with rfl | rfl | rfl | rfl
      · exact absurd ((l2 0).2 (.inr rfl)) q3
      · rfl
      · exact absurd ((l2 2).2 (.inl rfl)) q3
      · rw [g3] at q1; simp only [Option.some.injEq] at q1; subst q1; have := (l2 1).1 (q4 1 b31); omega
    subst hi2
    obtain ⟨v2, k2, s2, r2⟩ := runOps_head r1
    refine opAt_sound hctx a1 d1 z1 z3 z4 s2 fun x3 u3 ρ3 p1 p2 p3 p4 p5 => ?_
    exact last _ (by simp) (fun j => by rw [lst_set (by simp), l2]; omega) x3 u3 ρ3 _ _ _ r2 p1 ((y2.trans z2).trans p2) p3 p4 (p5.trans (z5.trans y5)) end2

theorem getA_mem : ∀ (l : List Flo) (i : Nat) (v : V), getA l i = some v → ∃ a T cs, (i, a, v, T, cs) ∈ l := by
  intro l
  induction l with
  | nil => intro i v h; cases h
  | cons f l ih =>
    intro i v h
    obtain ⟨j, a, v', T, cs⟩ := f
    simp only [getA] at h
    split at h
    · rename_i hb
      simp only [Option.some.injEq] at h
      have := Nat.eq_of_beq_eq_true hb
      subst this; subst h
      exact ⟨a, T, cs, List.mem_cons_self⟩
    · obtain ⟨a', T', cs', h1⟩ := ih i v h
      exact ⟨a', T', cs', List.mem_cons_of_mem _ h1⟩

theorem isFloat_guard {o : Oper} (h : isFloat o = true) : o.guard = none := by
  unfold isFloat at h
  split at h
  · assumption
  · assumption
  · cases h

theorem floats_mem : ∀ (L : List Oper) (d i : Nat) (op : Op), (i, op) ∈ floatsFrom d L → ∃ o, L[i - d]? = some o ∧ d ≤ i ∧ o.op = op ∧ o.guard = none := by
  intro L
  induction L with
  | nil => intro d i T h; cases h
  | cons o L ih =>
    intro d i T h
    have next : (i, T) ∈ floatsFrom (d + 1) L → ∃ o', (o :: L)[i - d]? = some o' ∧ d ≤ i ∧ o'.op = T ∧ o'.guard = none := by
      intro h
      obtain ⟨o', h1, h2, h3⟩ := ih _ _ _ h
      refine ⟨o', ?_, by omega, h3⟩
      rw [show i - d = (i - (d + 1)) + 1 by omega]
      simpa using h1
    simp only [floatsFrom] at h
    split at h
    · rename_i hfl
      rcases List.mem_cons.1 h with e | h
      · simp only [Prod.mk.injEq] at e
        obtain ⟨rfl, rfl⟩ := e
        exact ⟨o, by simp, Nat.le_refl _, rfl, isFloat_guard hfl⟩
      · exact next h
    · exact next h

theorem ghost_new {_P : Program} {Γ : Glob} {ρ : Ren} {h : Hp} {w : World} (H : Rel Γ N0 w0 ρ h w) (T : Nat) (cs : List V) : Rel Γ N0 w0 ρ ((h.new cs).withEl h.next (2 * T + 1)) w := by
  have hfr := H.fresh h.next (Nat.le_refl _)
  have ht : ∀ b x, ρ b ≠ none → ((h.new cs).withEl h.next (2 * T + 1)).t.get b = some x → h.t.get b = some x := by
    intro b x hne hx
    simp only [Hp.withEl, Hp.new, Tr.get_put] at hx
    by_cases e : b = h.next
    · subst e; exact absurd hfr hne
    · rw [if_neg e] at hx; exact hx
  have F := H.fam.new cs
  exact {
    below := H.below
    hN0 := H.hN0
    glob := H.glob
    fresh := fun b hb => H.fresh b (by have : h.next + 1 ≤ b := hb
                                       omega)
    lt := H.lt
    blk := fun b x hne hx => H.blk b x hne (ht b x hne hx)
    sep := fun b c x y L M hx hy hL hM hff => H.sep b c x y L M (ht b x (some_ne hL) hx) (ht c y (some_ne hM) hy) hL hM hff
    same := fun b c f fb fz xs gb gz ys L M hx hy hL hM hbb => H.same b c f fb fz xs gb gz ys L M (ht b _ (some_ne hL) hx) (ht c _ (some_ne hM) hy) hL hM hbb
    fam := ⟨F.mem, F.sorted, F.lt, F.own⟩
    elk := fun b e0 hne hb => by
      simp only [Hp.withEl, Hp.new, Tr.get_put] at hb
      by_cases e : b = h.next
      · subst e; exact absurd hfr hne
      · rw [if_neg e] at hb; exact H.elk b e0 hne hb
    elt := fun b e0 hb => by
      simp only [Hp.withEl, Hp.new, Tr.get_put] at hb
      show b < h.next + 1
      by_cases e : b = h.next
      · omega
      · rw [if_neg e] at hb; have := H.elt b e0 hb; omega
    old := ⟨by have := H.old.1; show w0.K ≤ h.next + 1; omega, H.old.2⟩
    kept := H.kept.step (fun _ _ _ => rfl) fun b x M hx hM => .inl ⟨b, x, M, ht b x (some_ne hM) hx, hM, rfl⟩ }

theorem preAlloc_ok {P : Program} {Γ : Glob} {ρ : Ren} {w : World} {rd0 : Operand → Option V} : ∀ (l : List (Nat × Op)) (h hA : Hp) (fl : List Flo), preAlloc P rd0 l h = (fl, hA) → Rel Γ N0 w0 ρ h w →
    Rel Γ N0 w0 ρ hA w ∧ (∀ i a v T cs, (i, a, v, T, cs) ∈ fl → ∃ op, (i, op) ∈ l ∧ floatV P rd0 a op = some (v, T, cs) ∧ h.next ≤ a) ∧ (∀ i j a v v' T T' cs cs', (i, a, v, T, cs) ∈ fl → (j, a, v', T', cs') ∈ fl → i = j) := by
  intro l
  induction l with
  | nil =>
    intro h hA fl hp H
    simp only [preAlloc, Prod.mk.injEq] at hp; obtain ⟨rfl, rfl⟩ := hp
    exact ⟨H, fun i a v T cs hm => by (cases hm), fun i j a v v' T T' cs cs' hm => by (cases hm)⟩
  | cons f l ih =>
    intro h hA fl hp H
    obtain ⟨i0, o0⟩ := f
    simp only [preAlloc] at hp
    split at hp
    · rename_i v0 T0 cs0 hz
      obtain ⟨l', h', hl⟩ : ∃ l' h', preAlloc P rd0 l ((h.new cs0).withEl h.next (2 * T0 + 1)) = (l', h') := ⟨_, _, rfl⟩
      rw [hl] at hp
      simp only [Prod.mk.injEq] at hp; obtain ⟨rfl, rfl⟩ := hp
      obtain ⟨q1, q2, q3⟩ := ih _ _ _ hl (ghost_new (_P := P) H T0 cs0)
      have hn : ((h.new cs0).withEl h.next (2 * T0 + 1)).next = h.next + 1 := rfl
      rw [hn] at q2
      refine ⟨q1, fun i a v T cs hm => ?_, fun i j a v v' T T' cs cs' hm hm' => ?_⟩
      · rcases List.mem_cons.1 hm with e | hm
        · simp only [Prod.mk.injEq] at e
          obtain ⟨rfl, rfl, rfl, rfl, rfl⟩ := e
          exact ⟨o0, List.mem_cons_self, hz, Nat.le_refl _⟩
        · obtain ⟨op, z1, z2, z3⟩ := q2 i a v T cs hm
          exact ⟨op, List.mem_cons_of_mem _ z1, z2, by omega⟩
      · rcases List.mem_cons.1 hm with e | hm <;> rcases List.mem_cons.1 hm' with e' | hm'
        · simp only [Prod.mk.injEq] at e e'; exact e.1.trans e'.1.symm
        · simp only [Prod.mk.injEq] at e
          obtain ⟨_, rfl, _, _⟩ := e
          obtain ⟨_, _, _, hh⟩ := q2 j _ v' T' cs' hm'
          omega
        · simp only [Prod.mk.injEq] at e'
          obtain ⟨_, rfl, _, _⟩ := e'
          obtain ⟨_, _, _, hh⟩ := q2 i _ v T cs hm
          omega
        · exact q3 i j a v v' T T' cs cs' hm hm'
    · obtain ⟨q1, q2, q3⟩ := ih _ _ _ hp H
      exact ⟨q1, fun i a v T cs hm => by obtain ⟨op, z1, z2⟩ := q2 i a v T cs hm; exact ⟨op, List.mem_cons_of_mem _ z1, z2⟩, q3⟩

theorem ghostFrom_ok {bs : List (List Nat)} {i T a : Nat} {cs : List V} : ∀ (S : List (Env × Hp)) (m : Nat) (tr : List Bool), ghostFrom bs i T a cs m S tr = true →
    ∀ k e h, S[k]? = some (e, h) → (∀ j, j < k → ∀ b, tr[j]? = some b → b = true → i ∉ bs.getD (m + j) []) → k ≤ tr.length → h.t.get a = some (.cells a 0 0 cs) ∧ h.els.get a = some (2 * T + 1) := by
  intro S
  induction S with
  | nil => intro m tr _ k e h hk; simp at hk
  | cons s S ih =>
    intro m tr hg k e h hk hq hkt
    obtain ⟨e0, h0⟩ := s
    simp only [ghostFrom, Bool.and_eq_true] at hg
    obtain ⟨g1, g2, g3⟩ := hg
    cases k with
    | zero =>
      simp only [List.getElem?_cons_zero, Option.some.injEq, Prod.mk.injEq] at hk
      obtain ⟨rfl, rfl⟩ := hk
      constructor
      · split at g1
        · rename_i x hx; rw [hx, ← Blk.same_eq _ _ g1]
        · cases g1
      · split at g2
        · rename_i x hx; rw [hx, Nat.eq_of_beq_eq_true g2]
        · cases g2
    | succ k =>
      cases tr with
      | nil => simp at hkt
      | cons n tr =>
        simp only [Bool.or_eq_true, Bool.and_eq_true] at g3
        rcases g3 with g3 | g3
        · exact absurd (by simpa using g3.2) (hq 0 (by omega) n rfl g3.1)
        · exact ih (m + 1) tr g3 k e h (by simpa using hk) (fun j hj b hb hbt => by
            have := hq (j + 1) (by omega) b (by simpa using hb) hbt
            rw [show m + 1 + j = m + (j + 1) by omega]; exact this) (by simpa using hkt)

theorem regionA_sound (hctx : CtxOk C) {ops : Array Oper} {rd0 : Operand → Option V} {n : Nat} {Q : Exit → Act → World → Prop} {ρ : Ren} {e e' : Env} {h h' : Hp} {a : Act} {w : World}
    (hd : (ops.toList.all (dstOk n)) = true) (he : EnvR ρ e a.tmps) (H : Rel C.Γ N0 w0 ρ h w) (hn : a.tmps.size = n) (hr : regionA C ops rd0 e h = some (e', h')) (hb : Behind C N0 w0 n ρ e' h' a (Q .normal)) :
    RegW C.P ops Q a w true := by
  unfold regionA at hr
  split at hr
  · rename_i bs fl hA hbs hp
    split at hr
    · rename_i tr S e1 h1 ht
      split at hr
      · rename_i hord
        simp only [Option.some.injEq, Prod.mk.injEq] at hr; obtain ⟨rfl, rfl⟩ := hr
        simp only [Bool.and_eq_true] at hord
        obtain ⟨o1, o2, o3⟩ := hord
        have hK := H.old.1
        obtain ⟨HA, z1, z2⟩ := preAlloc_ok (N0 := N0) (w0 := w0) _ _ _ _ hp H
        obtain ⟨es, hs, vs, ns, q1, q2, q3, q4, q5, q6, q8, q9, q7⟩ := traceA_tr _ _ _ _ _ _ _ _ ht
        have q7' : TrOk C (getA fl) ops ops.toList es hs vs ns := by
          have : (fun i => getA fl (0 + i)) = getA fl := by funext i; rw [Nat.zero_add]
          rw [this] at q7; exact q7
        have nsb : ∀ j oj, ops.toList[j]? = some oj → tr[j]? = some (ns j) := by
          intro j oj hj
          have hjl : j < tr.length := by rw [q5]; exact (List.getElem?_eq_some_iff.1 hj).1
          have hb : tr[j]? = some tr[j] := by simp
          rw [hb, q6 j _ hb]
        have R : DReg C (getA fl) S ops n es hs vs ns bs := by
          refine ⟨q7', fun k o hk => ?_, fun x y o p hab ha hb => ?_, fun k o hk => List.all_eq_true.1 hd o (List.mem_of_getElem? hk), q8, fun i o v ho hv => ?_, fun i j x hi hj => ?_⟩
          · have := closedFrom_get _ 0 o1 k o hk
            rw [Nat.zero_add] at this; exact this
          · obtain ⟨u, v, p1, p2, p3⟩ := pairsAllA_get _ _ 0 o2 x y o p hab ha hb
            rw [q6 x u p1, q6 y v p2]
            rw [Nat.zero_add, Nat.zero_add] at p3; exact p3
          · obtain ⟨x, T, cs, m1⟩ := getA_mem _ _ _ hv
            obtain ⟨op, m2, m3, m4⟩ := z1 _ _ _ _ _ m1
            obtain ⟨o', g1, _, g3, g4⟩ := floats_mem _ _ _ _ m2
            rw [Nat.sub_zero, ho] at g1
            simp only [Option.some.injEq] at g1; subst g1
            subst g3
            refine ⟨T, x, cs, by rw [floatEq_spec (q9 i o v ho (by rw [Nat.zero_add]; exact hv))]; exact m3, g4, fun m hml hq => ?_⟩
            have := List.all_eq_true.1 o3 _ m1
            exact ghostFrom_ok S 0 tr this m _ _ (q8 m hml) (fun j hj b hbj hbt => by
              have hjl : j < ops.toList.length := by omega
              have hoj : ops.toList[j]? = some (ops.toList[j]'hjl) := by simp
              rw [nsb j _ hoj] at hbj
              simp only [Option.some.injEq] at hbj
              rw [Nat.zero_add]
              exact hq j _ hj hoj (by rw [hbj]; exact hbt)) (by rw [q5]; exact hml)
          · obtain ⟨v, hi, hvx⟩ := Option.bind_eq_some_iff.1 hi
            obtain ⟨v', hj, hvx'⟩ := Option.bind_eq_some_iff.1 hj
            obtain ⟨y, T, cs, m1⟩ := getA_mem _ _ _ hi
            obtain ⟨y', T', cs', m2⟩ := getA_mem _ _ _ hj
            obtain ⟨_, _, b1, _⟩ := z1 _ _ _ _ _ m1
            obtain ⟨_, _, b2, _⟩ := z1 _ _ _ _ _ m2
            have c1 := floatV_blk b1
            have c2 := floatV_blk b2
            rw [hvx] at c1; rw [hvx'] at c2
            simp only [Option.some.injEq] at c1 c2
            subst c1; subst c2
            exact z2 _ _ _ _ _ _ _ _ _ m1 m2
        refine RegW.any ?_
        have hI : DInv C (getA fl) N0 w0 ops n es hs vs ns bs (Array.replicate ops.size false) a { w with drawn := w.drawn + 1 } ρ := by
          have hnl : ∀ i, ¬ lst (Array.replicate ops.size false) i := by
            intro i
            unfold lst
            rw [Array.getD_eq_getD_getElem?, Array.getElem?_replicate]
            split <;> simp
          refine ⟨by simp, hn, fun i o d _ hl => absurd hl (hnl i), fun s _ => by rw [q1]; exact he s, ⟨0, Nat.zero_le _, by rw [q2]; exact HA.drawn _, fun j o _ _ => ⟨fun hl => absurd hl (hnl j), fun hh => by omega⟩⟩, fun i o _ hl => absurd hl (hnl i), fun i x _ hi _ => ?_, fun i x _ hi => ?_⟩
          · obtain ⟨v, hi, hvx⟩ := Option.bind_eq_some_iff.1 hi
            obtain ⟨y, T, cs, m1⟩ := getA_mem _ _ _ hi
            obtain ⟨_, _, b1, b2⟩ := z1 _ _ _ _ _ m1
            have c1 := floatV_blk b1
            rw [hvx] at c1
            simp only [Option.some.injEq] at c1
            subst c1
            exact H.fresh _ b2
          · obtain ⟨v, hi, hvx⟩ := Option.bind_eq_some_iff.1 hi
            obtain ⟨y, T, cs, m1⟩ := getA_mem _ _ _ hi
            obtain ⟨_, _, b1, this⟩ := z1 _ _ _ _ _ m1
            have c1 := floatV_blk b1
            rw [hvx] at c1
            simp only [Option.some.injEq] at c1
            subst c1
            omega
        refine drawn_any hctx R (ρ0 := ρ) (dfs := a.defers) (fun a1 w1 ρ1 y5 y1 y2 y3 y4 => ?_) ops.size _ a _ ρ hI (.refl _) rfl ?_
        · rw [q3] at y1; rw [q4] at y2
          exact hb a1 w1 ρ1 y1 y5 y2 y3 y4
        · refine Nat.le_trans (List.length_filter_le _ _) ?_
          simp
      · cases hr
    · cases hr
  · cases hr

theorem region_sound (hctx : CtxOk C) {ops : Array Oper} {draw : Bool} {n : Nat} {Q : Exit → Act → World → Prop} {ρ : Ren} {e e' : Env} {h h' : Hp} {a : Act} {w : World}
    (hd : (ops.toList.all (dstOk n)) = true) (he : EnvR ρ e a.tmps) (H : Rel C.Γ N0 w0 ρ h w) (hn : a.tmps.size = n) (hr : regionE C ops draw e h = some (e', h')) (hb : Behind C N0 w0 n ρ e' h' a (Q .normal)) :
    RegW C.P ops Q a w draw := by
  unfold regionE at hr
  split at hr
  · exact runOps_sound hctx _ hd he H hn hr hb
  · split at hr
    · rename_i hfk
      exact fork_sound hctx hfk hd he H hn hr hb
    split at hr
    · rename_i tr e1 h1 ht
      split at hr
      · rename_i hord
        simp only [Option.some.injEq, Prod.mk.injEq] at hr; obtain ⟨rfl, rfl⟩ := hr
        obtain ⟨es, hs, vs, ns, q1, q2, q3, q4, q5, q6, q7⟩ := traceOps_tr _ _ _ _ _ _ ht
        unfold orderOk at hord
        split at hord
        · rename_i bs hbs
          simp only [Bool.and_eq_true] at hord
          have R : DReg C (fun _ => none) (statesOps C ops ops.toList e h) ops n es hs vs ns bs := by
            refine ⟨q7, fun k o hk => ?_, fun a b o p hab ha hb => ?_, fun k o hk => List.all_eq_true.1 hd o (List.mem_of_getElem? hk), fun i hi => by rw [← q1, ← q2]; have := states_get q7 ops.toList 0 (fun k o hk => by simpa using hk) i hi; rw [Nat.zero_add] at this; exact this, fun i o v _ hv => by (cases hv), fun i j x hi => by (cases hi)⟩
            · have := closedFrom_get _ 0 hord.1 k o hk
              rw [Nat.zero_add] at this; exact this
            · obtain ⟨x, y, p1, p2, p3⟩ := pairsAll_get _ _ 0 hord.2 a b o p hab ha hb
              rw [q6 a x p1, q6 b y p2]
              rw [Nat.zero_add, Nat.zero_add] at p3; rw [pairOkA_none]; exact p3
          refine RegW.any ?_
          have hI : DInv C (fun _ => none) N0 w0 ops n es hs vs ns bs (Array.replicate ops.size false) a { w with drawn := w.drawn + 1 } ρ := by
            have hnl : ∀ i, ¬ lst (Array.replicate ops.size false) i := by
              intro i
              unfold lst
              rw [Array.getD_eq_getD_getElem?, Array.getElem?_replicate]
              split <;> simp
            refine ⟨by simp, hn, fun i o d _ hl => absurd hl (hnl i), fun s _ => by rw [q1]; exact he s, ⟨0, Nat.zero_le _, by rw [q2]; exact H.drawn _, fun j o _ _ => ⟨fun hl => absurd hl (hnl j), fun hh => by omega⟩⟩, fun i o _ hl => absurd hl (hnl i), fun i x _ hi => by (cases hi), fun i x _ hi => by (cases hi)⟩
          refine drawn_any hctx R (ρ0 := ρ) (dfs := a.defers) (fun a1 w1 ρ1 y5 y1 y2 y3 y4 => ?_) ops.size _ a _ ρ hI (.refl _) rfl ?_
          · rw [q3] at y1; rw [q4] at y2
            exact hb a1 w1 ρ1 y1 y5 y2 y3 y4
          · refine Nat.le_trans (List.length_filter_le _ _) ?_
            simp
        · cases hord
      · exact regionA_sound hctx hd he H hn hr hb
    · cases hr

end
end Go.Proofs.YtbfdgdigaiimgaaDoor.HM
