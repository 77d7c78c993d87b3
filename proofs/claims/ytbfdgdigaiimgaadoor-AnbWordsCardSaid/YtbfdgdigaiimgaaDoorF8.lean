/- The fast machine, 8: regions, code, functions, the whole. -/
import Derived.Test.YtbfdgdigaiimgaaDoorF7
namespace Go.Proofs.YtbfdgdigaiimgaaDoor.HM
open Go Go.RowKit

/-! ## Trees and what is the same -/
mutual
theorem V.same_refl : ∀ v : V, v.same v = true
  | .bool b => by rw [V.same]; simp
  | .int k n => by rw [V.same]; simp
  | .str l => by rw [V.same]; simp
  | .nilp => rfl
  | .anyp => rfl
  | .ptr a o => by rw [V.same]; simp
  | .gp a o => by rw [V.same]; simp
  | .nils => rfl
  | .sl a o n z => by rw [V.same]; simp
  | .nilmap => rfl
  | .mp a => by rw [V.same]; simp
  | .nilfn => rfl
  | .fn f x y => by rw [V.same, V.sames_refl x, V.sames_refl y]; simp
  | .nilif => rfl
  | .iface t x => by rw [V.same, V.same_refl x]; simp
  | .agg x => by rw [V.same]; exact V.sames_refl x
  | .tup x => by rw [V.same]; exact V.sames_refl x
  | .any => rfl
  | .mod m i => by rw [V.same]; simp
  | .anyb => rfl
  | .lin _ _ _ => by rw [V.same]; simp
  | .sstr x => by rw [V.same]; exact V.sames_refl x
theorem V.sames_refl : ∀ l : List V, V.sames l l = true
  | [] => rfl
  | x :: r => by rw [V.sames, V.same_refl x, V.sames_refl r]; rfl
end
theorem pairsSame_refl : ∀ l : List (V × V), pairsSame l l = true
  | [] => rfl
  | x :: r => by rw [pairsSame, V.same_refl, V.same_refl, pairsSame_refl r]; rfl
theorem Blk.same_refl (b : Blk) : b.same b = true := by
  cases b with
  | cells f c z xs => rw [Blk.same, V.sames_refl]; simp
  | iter l p => rw [Blk.same, V.sames_refl]; simp
  | mapo es c => rw [Blk.same, pairsSame_refl]; simp

theorem meet_self {α : Type} {s : α → α → Bool} (hs : ∀ x, s x x = true) : ∀ t : Tr α, Tr.meet s t t = t := by
  intro t
  induction t with
  | leaf => rfl
  | node l v r ihl ihr =>
    simp only [Tr.meet, ihl, ihr]
    cases v with
    | none => rfl
    | some x => simp only [hs]

theorem meet_one {α : Type} {s : α → α → Bool} {x y : α} (hxy : s x y = false) : ∀ (f i : Nat), Tr.meet s (Tr.one (some x) f i) (Tr.one (some y) f i) = Tr.one none f i := by
  intro f
  induction f with
  | zero => intro i; simp only [Tr.one, Tr.meet, hxy]
  | succ f ih =>
    intro i
    simp only [Tr.one]
    cases Nat.beq i 0 with
    | true => simp only [Tr.meet, hxy]
    | false =>
      simp only
      cases Nat.beq (i % 2) 1 with
      | true => simp only [Tr.meet, ih]
      | false => simp only [Tr.meet, ih]

theorem meet_put {α : Type} {s : α → α → Bool} (hs : ∀ x, s x x = true) {x y : α} (hxy : s x y = false) : ∀ (t : Tr α) (i : Nat), Tr.meet s (t.put (some x) i) (t.put (some y) i) = t.put none i := by
  intro t
  induction t with
  | leaf => intro i; exact meet_one hxy i i
  | node l v r ihl ihr =>
    intro i
    simp only [Tr.put]
    cases Nat.beq i 0 with
    | true => simp only [Tr.meet, hxy, meet_self hs]
    | false =>
      simp only
      cases Nat.beq (i % 2) 1 with
      | true =>
        simp only [Tr.meet, ihl, meet_self hs]
        cases v with
        | none => rfl
        | some z => simp only [hs]
      | false =>
        simp only [Tr.meet, ihr, meet_self hs]
        cases v with
        | none => rfl
        | some z => simp only [hs]

theorem one_put {α : Type} (x y : Option α) : ∀ (f i : Nat), i ≤ f → (Tr.one x f i).put y i = Tr.one y f i := by
  intro f
  induction f with
  | zero =>
    intro i h
    obtain rfl : i = 0 := by omega
    rfl
  | succ f ih =>
    intro i h
    simp only [Tr.one]
    cases h0 : Nat.beq i 0 with
    | true => simp only [Tr.put, h0]
    | false =>
      have hi : i ≠ 0 := fun e => by subst e; cases h0
      simp only
      cases h1 : Nat.beq (i % 2) 1 with
      | true => simp only [Tr.put, h0, h1, ih _ (show i / 2 ≤ f by omega)]
      | false => simp only [Tr.put, h0, h1, ih _ (show i / 2 - 1 ≤ f by omega)]

theorem put_over {α : Type} (x y : Option α) : ∀ (t : Tr α) (i : Nat), (t.put x i).put y i = t.put y i := by
  intro t
  induction t with
  | leaf => intro i; exact one_put x y i i (Nat.le_refl _)
  | node l v r ihl ihr =>
    intro i
    simp only [Tr.put]
    cases h0 : Nat.beq i 0 with
    | true => simp only [Tr.put, h0]
    | false =>
      simp only
      cases h1 : Nat.beq (i % 2) 1 with
      | true => simp only [Tr.put, h0, h1, ihl]
      | false => simp only [Tr.put, h0, h1, ihr]


/-! ## One operation in its region -/
section
variable {C : Cfg} {NL : List Nat} {ops : Array Oper}

theorem rdE_leaf (e : Env) : ∀ x, (∀ s, x ≠ .tmp s) → rdE e x = rdE .leaf x := by
  intro x h
  cases x with
  | tmp s => exact absurd rfl (h s)
  | _ => rfl

/-- the operation with its guard -/
noncomputable def goR (g : Option FG) (o : FO) (C : Cfg) (st : List V) (t : Env) (h : Hp) : OR := match g with
  | none => runO o C st t h
  | some g => GV.rec (motive := fun _ => OR) .no (runO o C st t h) (.v (.tup [])) (fG g st t)

theorem goR_ok {ds : List (Option Nat)} {st : List V} {t e : Env} {h : Hp} {o : Oper} {g : Option FG} {f : FO} (hs : RelSt ds st e) (hn : EqN NL t e)
    (hg : decG NL ds ops o.guard = some g) (hd : decO C.P (decA NL ds) o.op = some f) : Le (toO (goR g f C st t h)) (stepOp C ops e h o) := by
  have hop := decO_ok (C := C) (h := h) (decA_ok hs hn) (rdE_leaf e) hd
  unfold stepOp wantedE
  cases hgu : o.guard with
  | none =>
    rw [hgu] at hg
    simp only [decG, Option.some.injEq] at hg; subst hg
    exact hop
  | some jw =>
    obtain ⟨j, w⟩ := jw
    rw [hgu] at hg
    simp only [decG] at hg
    split at hg
    · rename_i d hd'
      simp only [hd']
      split at hg
      · rename_i a ha
        simp only [Option.some.injEq] at hg; subst hg
        have e1 := decA_ok hs hn _ _ ha
        simp only [rdE, Option.some.injEq] at e1
        rw [e1]
        show Le (toO (GV.rec (motive := fun _ => OR) .no (runO f C st t h) (.v (.tup [])) (asG (a.get st t) w))) _
        cases a.get st t with
        | bool b => cases b <;> cases w <;> first | exact hop | exact Le.refl _
        | any => exact Le.none _
        | anyb => exact Le.none _
        | _ => exact Le.refl _
      · cases hg
    · rename_i hd'
      simp only [Option.some.injEq] at hg; subst hg
      simp only [hd']
      exact Le.refl _

/-! ## What may write -/
theorem opVal_mayW {e : Env} {h h' : Hp} {o : Op} {x : V} (hv : opVal C (rdE e) h o = some (x, some h')) : mayW C o = true := by
  unfold mayW
  cases ha : apartFromHeap C o with
  | true => have := (opVal_apart (h' := h) ha).2 _ _ hv; cases this
  | false =>
    cases hl : isLoadO o with
    | false => rfl
    | true =>
      unfold isLoadO at hl
      split at hl
      · rename_i T a
        simp only [opVal] at hv
        split at hv
        · have := still_none hv; cases this
        · cases hv
      · cases hl

/-- what wrote is among what may -/
def Among : List Bool → List Bool → Prop
  | [], [] => True
  | a :: l, b :: m => (a = true → b = true) ∧ Among l m
  | _, _ => False

theorem runR_op (o : FO) (p : Pa) (r : FR) (C : Cfg) (st : List V) (t : Env) (h : Hp) : runR (.op o p r) C st t h = OR.rec (motive := fun _ => RR) .no (fun x => runR r C (x :: st) (p.put x t) h) (fun x h' => runR r C (x :: st) (p.put x t) h') (runO o C st t h) := by
  show OR.rec (motive := fun _ => RR) .no (fun x => p.putK x t (fun t' => runR r C (x :: st) t' h)) (fun x h' => p.putK x t (fun t' => runR r C (x :: st) t' h')) (runO o C st t h) = _
  simp only [pa_putK]
theorem runR_g (g : FG) (o : FO) (d : Option Pa) (r : FR) (C : Cfg) (st : List V) (t : Env) (h : Hp) : runR (.g g o d r) C st t h = OR.rec (motive := fun _ => RR) .no (fun x => runR r C (x :: st) (putO d x t) h) (fun x h' => runR r C (x :: st) (putO d x t) h') (goR (some g) o C st t h) := by
  show OR.rec (motive := fun _ => RR) .no (fun x => putOK d x t (fun t' => runR r C (x :: st) t' h)) (fun x h' => putOK d x t (fun t' => runR r C (x :: st) t' h')) (goR (some g) o C st t h) = _
  simp only [putOK_eq]

theorem runR_ok : ∀ (l : List Oper) (ds : List (Option Nat)) (r : FR), decR C.P NL ops l ds = some r → ∀ (st : List V) (t e : Env) (h : Hp), RelSt ds st e → EqN NL t e → ∀ t' h', runR r C st t h = .ok t' h' →
    ∃ tr e', traceOps C ops l e h = some (tr, e', h') ∧ EqN NL t' e' ∧ Among tr (l.map fun o => mayW C o.op) := by
  intro l
  induction l with
  | nil =>
    intro ds r hr st t e h hs hn t' h' hx
    cases hr
    cases hx
    exact ⟨[], e, rfl, hn, trivial⟩
  | cons o l ih =>
    intro ds r hr st t e h hs hn t' h' hx
    -- one step, whichever form it has
    have step : ∀ (g : Option FG) (f : FO) (q : FR), decG NL ds ops o.guard = some g → decO C.P (decA NL ds) o.op = some f → decR C.P NL ops l (o.dst :: ds) = some q →
        OR.rec (motive := fun _ => RR) .no (fun x => runR q C (x :: st) (putO (decD NL o.dst) x t) h) (fun x k => runR q C (x :: st) (putO (decD NL o.dst) x t) k) (goR g f C st t h) = .ok t' h' →
        ∃ tr e', traceOps C ops (o :: l) e h = some (tr, e', h') ∧ EqN NL t' e' ∧ Among tr ((o :: l).map fun o => mayW C o.op) := by
      intro g f q hg hd hq hx
      have hle := goR_ok (C := C) (h := h) hs hn hg hd
      cases ho : goR g f C st t h with
      | no => rw [ho] at hx; cases hx
      | v x =>
        rw [ho] at hx hle
        have h1 := hle _ rfl
        obtain ⟨tr, e', k1, k2, k3⟩ := ih _ _ hq (x :: st) _ (Env.put e o.dst x) h (hs.push _ _) (hn.put _ _) _ _ hx
        refine ⟨false :: tr, e', ?_, k2, ⟨fun h => (by cases h), k3⟩⟩
        simp only [traceOps, h1, k1]
      | w x k =>
        rw [ho] at hx hle
        have h1 := hle _ rfl
        obtain ⟨tr, e', k1, k2, k3⟩ := ih _ _ hq (x :: st) _ (Env.put e o.dst x) k (hs.push _ _) (hn.put _ _) _ _ hx
        refine ⟨true :: tr, e', ?_, k2, ⟨fun _ => ?_, k3⟩⟩
        · simp only [traceOps, h1, k1]
        · unfold stepOp at h1
          split at h1
          · exact opVal_mayW h1
          · cases h1
          · cases h1
    simp only [decR] at hr
    split at hr
    · rename_i g f q hg hd hq
      simp only [Option.some.injEq] at hr; subst hr
      rw [runR_g] at hx
      exact step (some g) f q hg hd hq hx
    · rename_i f q hg hd hq
      split at hr
      · rename_i p hp
        simp only [Option.some.injEq] at hr; subst hr
        rw [runR_op] at hx
        refine step none f q hg hd hq ?_
        rw [hp]; exact hx
      · rename_i hp
        simp only [Option.some.injEq] at hr; subst hr
        refine step none f q hg hd hq ?_
        rw [hp]; exact hx
    · cases hr

/-! ## With names -/
theorem fa_up (a : FA) (v : V) (st : List V) (t : Env) : a.up.get (v :: st) t = a.get st t := by
  induction a with
  | st i => rfl
  | t p => rfl
  | c v => rfl
  | f k a ih => exact congrArg (fun z => addV z k) ih

theorem pa_beq : ∀ (p q : Pa), p.beq q = true → p = q
  | .h, .h, _ => rfl
  | .l p, .l q, h => by rw [pa_beq p q (by simpa only [Pa.beq] using h)]
  | .r p, .r q, h => by rw [pa_beq p q (by simpa only [Pa.beq] using h)]
  | .h, .l _, h => by cases h
  | .h, .r _, h => by cases h
  | .l _, .h, h => by cases h
  | .l _, .r _, h => by cases h
  | .r _, .h, h => by cases h
  | .r _, .l _, h => by cases h

theorem pa_other : ∀ (p q : Pa) (x : V) (t : Env), p.beq q = false → q.get (p.put x t) = q.get t := by
  intro p
  induction p with
  | h =>
    intro q x t h
    cases q with
    | h => cases h
    | l q => cases t with
      | leaf => cases q <;> rfl
      | node l v r => rfl
    | r q => cases t with
      | leaf => cases q <;> rfl
      | node l v r => rfl
  | l p ih =>
    intro q x t h
    cases q with
    | h => cases t <;> rfl
    | l q =>
      have h' : p.beq q = false := by simpa only [Pa.beq] using h
      cases t with
      | leaf => exact (ih q x .leaf h').trans (by cases q <;> rfl)
      | node l v r => exact ih q x l h'
    | r q => cases t with
      | leaf => cases q <;> rfl
      | node l v r => rfl
  | r p ih =>
    intro q x t h
    cases q with
    | h => cases t <;> rfl
    | r q =>
      have h' : p.beq q = false := by simpa only [Pa.beq] using h
      cases t with
      | leaf => exact (ih q x .leaf h').trans (by cases q <;> rfl)
      | node l v r => exact ih q x r h'
    | l q => cases t with
      | leaf => cases q <;> rfl
      | node l v r => rfl

theorem fa_other (p : Option Pa) (a : FA) (x : V) (st : List V) (t : Env) (h : mentO p a = false) : a.get st (putO p x t) = a.get st t := by
  cases p with
  | none => rfl
  | some p =>
    have h2 : a.ment p = false := h
    show a.get st (p.put x t) = _
    clear h
    induction a with
    | st i => rfl
    | t q => exact pa_other p q x t (by simpa only [FA.ment] using h2)
    | c v => rfl
    | f k a ih => exact congrArg (fun z => addV z k) (ih (by simpa only [FA.ment] using h2))

def Rel2 (NL : List Nat) (ds : List DE) (st : List V) (t e : Env) : Prop := ∀ s a p, res2 NL s ds = some (some (a, p)) → a.get st t = Env.get e s ∧ (p = true → ptrB (a.get st t) = true)

theorem isD_true {d : Option Nat} {s : Nat} (h : isD d s = true) : d = some s := by
  cases d with
  | none => cases h
  | some d => rw [Nat.eq_of_beq_eq_true h]

theorem isD_false {d : Option Nat} {s : Nat} (h : isD d s = false) : d ≠ some s := by
  intro e; subst e; simp [isD] at h

theorem Rel2.push {ds : List DE} {st : List V} {t e : Env} (h : Rel2 NL ds st t e) (d : Option Nat) (v : V) : Rel2 NL (.v d :: ds) (v :: st) (putO (decD NL d) v t) (Env.put e d v) := by
  intro s a p hr
  simp only [res2] at hr
  split at hr
  · rename_i hd
    have := isD_true hd
    subst this
    simp only [Option.some.injEq, Prod.mk.injEq] at hr
    obtain ⟨rfl, rfl⟩ := hr
    refine ⟨?_, fun h => by cases h⟩
    rw [env_get_put, if_pos rfl]; rfl
  · rename_i hd
    split at hr
    · rename_i a0 p0 hr0
      split at hr
      · simp only [Option.some.injEq] at hr; cases hr
      · rename_i hm
        simp only [Option.some.injEq, Prod.mk.injEq] at hr
        obtain ⟨rfl, rfl⟩ := hr
        obtain ⟨h1, h2⟩ := h s a0 p0 hr0
        rw [fa_up, fa_other _ _ _ _ _ hm, env_put_ne (isD_false hd)]
        exact ⟨h1, h2⟩
    · rename_i hn
      exact absurd hr (hn a p)

theorem Rel2.name {ds : List DE} {st : List V} {t e : Env} (h : Rel2 NL ds st t e) (d : Nat) (a : FA) (p : Bool) (hp : p = true → ptrB (a.get st t) = true) : Rel2 NL (.al d a p :: ds) st t (Env.put e (some d) (a.get st t)) := by
  intro s a1 p1 hr
  simp only [res2] at hr
  split at hr
  · rename_i hd
    have := Nat.eq_of_beq_eq_true hd
    subst this
    simp only [Option.some.injEq, Prod.mk.injEq] at hr
    obtain ⟨rfl, rfl⟩ := hr
    refine ⟨?_, hp⟩
    rw [env_get_put, if_pos rfl]
  · rename_i hd
    have hne : s ≠ d := fun e => by subst e; simp at hd
    obtain ⟨h1, h2⟩ := h s a1 p1 hr
    rw [env_get_put, if_neg hne]
    exact ⟨h1, h2⟩

theorem decA2_ok {ds : List DE} {st : List V} {t e : Env} (hs : Rel2 NL ds st t e) (hn : EqN NL t e) : ∀ x a p, decA2 NL ds x = some (a, p) → rdE e x = some (a.get st t) ∧ (p = true → ptrB (a.get st t) = true) := by
  intro x a p h
  cases x with
  | tmp s =>
    simp only [decA2] at h
    split at h
    · rename_i r hr
      simp only [Option.some.injEq] at h; subst h
      obtain ⟨h1, h2⟩ := hs s a p hr
      exact ⟨by show some (Env.get e s) = _; rw [h1], h2⟩
    · cases h
    · split at h
      · rename_i k hk
        simp only [Option.some.injEq, Prod.mk.injEq] at h
        obtain ⟨rfl, rfl⟩ := h
        refine ⟨?_, fun h => by cases h⟩
        show some (Env.get e s) = some ((pathOf k).get t)
        rw [path_get, hn.at hk]
      · cases h
  | _ =>
    simp only [decA2] at h
    split at h
    · rename_i v hv
      simp only [Option.some.injEq, Prod.mk.injEq] at h
      obtain ⟨rfl, rfl⟩ := h
      exact ⟨hv, fun h => by cases h⟩
    · cases h

theorem raOf_ok {ds : List DE} {st : List V} {t e : Env} (hs : Rel2 NL ds st t e) (hn : EqN NL t e) : ∀ x a, raOf NL ds x = some a → rdE e x = some (a.get st t) := by
  intro x a h
  unfold raOf at h
  split at h
  · rename_i b p hb
    simp only [Option.some.injEq] at h; subst h
    exact (decA2_ok hs hn _ _ _ hb).1
  · cases h

theorem ptrB_nil {v : V} (h : ptrB v = true) (P : Program) (rd : Operand → Option V) (x : Operand) (hx : rd x = some v) : pop P rd (.nilCheck x) = some v := by
  simp only [pop, hx]
  cases v <;> first | rfl | (cases h; done)

theorem ptrB_field {v : V} (h : ptrB v = true) (k : Nat) : vfield k v = some (addV v k) ∧ ptrB (addV v k) = true := by
  cases v <;> first | exact ⟨rfl, rfl⟩ | (cases h; done)

theorem alias_ok {ds : List DE} {st : List V} {t e : Env} {h : Hp} {o : Oper} {d : Nat} {a : FA} {p c : Bool} (hs : Rel2 NL ds st t e) (hn : EqN NL t e) (ha : aliasOf C.P NL ds o = some (d, a, p, c)) (hc : c = true → ptrB (a.get st t) = true) :
    o.dst = some d ∧ slotOf NL d = none ∧ stepOp C ops e h o = some (a.get st t, none) ∧ (p = true → ptrB (a.get st t) = true) := by
  unfold aliasOf at ha
  split at ha
  · rename_i d0 hg hd
    have hst : stepOp C ops e h o = opVal C (rdE e) h o.op := by unfold stepOp wantedE; rw [hg]
    rw [hst]
    split at ha
    · cases ha
    · rename_i hsl
      split at ha
      · rename_i x hop
        split at ha
        · rename_i a0 p0 h0
          simp only [Option.some.injEq, Prod.mk.injEq] at ha
          obtain ⟨rfl, rfl, rfl, rfl⟩ := ha
          obtain ⟨h1, h2⟩ := decA2_ok hs hn _ _ _ h0
          exact ⟨hd, hsl, by rw [hop]; simp only [opVal, opRest, popS, pop, h1]; rfl, h2⟩
        · cases ha
      · rename_i x hop
        split at ha
        · rename_i a0 p0 h0
          simp only [Option.some.injEq, Prod.mk.injEq] at ha
          obtain ⟨rfl, rfl, rfl, rfl⟩ := ha
          obtain ⟨h1, h2⟩ := decA2_ok hs hn _ _ _ h0
          exact ⟨hd, hsl, by rw [hop]; simp only [opVal, opRest, popS, pop, h1]; rfl, h2⟩
        · cases ha
      · rename_i x hop
        split at ha
        · rename_i a0 p0 h0
          simp only [Option.some.injEq, Prod.mk.injEq] at ha
          obtain ⟨rfl, rfl, rfl, rfl⟩ := ha
          obtain ⟨h1, h2⟩ := decA2_ok hs hn _ _ _ h0
          have hp : ptrB (a0.get st t) = true := by
            cases p0 with
            | true => exact h2 rfl
            | false => exact hc rfl
          refine ⟨hd, hsl, ?_, fun _ => hp⟩
          rw [hop]
          simp only [opVal, opRest, popS, ptrB_nil hp C.P (rdE e) x h1]
          rfl
        · cases ha
      · rename_i T x f hop
        split at ha
        · rename_i a0 off ft h0 hb
          split at ha
          · rename_i n hz
            simp only [Option.some.injEq, Prod.mk.injEq] at ha
            obtain ⟨rfl, rfl, rfl, rfl⟩ := ha
            obtain ⟨h1, h2⟩ := decA2_ok hs hn _ _ _ h0
            obtain ⟨q1, q2⟩ := ptrB_field (h2 rfl) off
            refine ⟨hd, hsl, ?_, fun _ => q2⟩
            rw [hop]
            simp only [opVal, opRest, popS, pop, h1, opFieldAddr, hb, hz, q1]
            rfl
          · cases ha
        · cases ha
      · cases ha
  · cases ha

theorem goR2_ok {ds : List DE} {st : List V} {t e : Env} {h : Hp} {o : Oper} {g : Option FG} {f : FO} (hs : Rel2 NL ds st t e) (hn : EqN NL t e)
    (hg : decG2 NL ds ops o.guard = some g) (hd : decO C.P (raOf NL ds) o.op = some f) : Le (toO (goR g f C st t h)) (stepOp C ops e h o) := by
  have hop := decO_ok (C := C) (h := h) (raOf_ok hs hn) (rdE_leaf e) hd
  unfold stepOp wantedE
  cases hgu : o.guard with
  | none =>
    rw [hgu] at hg
    simp only [decG2, Option.some.injEq] at hg; subst hg
    exact hop
  | some jw =>
    obtain ⟨j, w⟩ := jw
    rw [hgu] at hg
    simp only [decG2] at hg
    split at hg
    · rename_i d hd'
      simp only [hd']
      split at hg
      · rename_i a ha
        simp only [Option.some.injEq] at hg; subst hg
        have e1 := raOf_ok hs hn _ _ ha
        simp only [rdE, Option.some.injEq] at e1
        rw [e1]
        show Le (toO (GV.rec (motive := fun _ => OR) .no (runO f C st t h) (.v (.tup [])) (asG (a.get st t) w))) _
        cases a.get st t with
        | bool b => cases b <;> cases w <;> first | exact hop | exact Le.refl _
        | any => exact Le.none _
        | anyb => exact Le.none _
        | _ => exact Le.refl _
      · cases hg
    · rename_i hd'
      simp only [Option.some.injEq] at hg; subst hg
      simp only [hd']
      exact Le.refl _

theorem runR2_ok : ∀ (l : List Oper) (ds : List DE) (r : FR), decR2 C.P NL ops l ds = some r → ∀ (st : List V) (t e : Env) (h : Hp), Rel2 NL ds st t e → EqN NL t e → ∀ t' h', runR r C st t h = .ok t' h' →
    ∃ tr e', traceOps C ops l e h = some (tr, e', h') ∧ EqN NL t' e' ∧ Among tr (l.map fun o => mayW C o.op) := by
  intro l
  induction l with
  | nil =>
    intro ds r hr st t e h hs hn t' h' hx
    cases hr
    cases hx
    exact ⟨[], e, rfl, hn, trivial⟩
  | cons o l ih =>
    intro ds r hr st t e h hs hn t' h' hx
    simp only [decR2] at hr
    split at hr
    · -- a name
      rename_i d a p c ha
      split at hr
      · rename_i q hq
        have go : ∀ (hc : c = true → ptrB (a.get st t) = true), runR q C st t h = .ok t' h' → ∃ tr e', traceOps C ops (o :: l) e h = some (tr, e', h') ∧ EqN NL t' e' ∧ Among tr ((o :: l).map fun o => mayW C o.op) := by
          intro hc hx
          obtain ⟨a1, a2, a3, a4⟩ := alias_ok (C := C) (ops := ops) (h := h) hs hn ha hc
          have hn2 : EqN NL t (Env.put e (some d) (a.get st t)) := by
            have := hn.put (some d) (a.get st t)
            have e0 : decD NL (some d) = none := by simp only [decD, a2]
            rw [e0] at this
            exact this
          obtain ⟨tr, e', k1, k2, k3⟩ := ih _ _ hq st t (Env.put e (some d) (a.get st t)) h (hs.name d a p a4) hn2 _ _ hx
          refine ⟨false :: tr, e', ?_, k2, ⟨fun h => (by cases h), k3⟩⟩
          simp only [traceOps, a3, a1, k1]
        split at hr
        · simp only [Option.some.injEq] at hr; subst hr
          have hx2 : Bool.rec (motive := fun _ => RR) .no (runR q C st t h) (ptrB (a.get st t)) = .ok t' h' := hx
          cases hb : ptrB (a.get st t) with
          | false => rw [hb] at hx2; cases hx2
          | true => rw [hb] at hx2; exact go (fun _ => hb) hx2
        · simp only [Option.some.injEq] at hr; subst hr
          exact go (fun h => by cases h) hx
      · cases hr
    · have step : ∀ (g : Option FG) (f : FO) (q : FR), decG2 NL ds ops o.guard = some g → decO C.P (raOf NL ds) o.op = some f → decR2 C.P NL ops l (.v o.dst :: ds) = some q →
          OR.rec (motive := fun _ => RR) .no (fun x => runR q C (x :: st) (putO (decD NL o.dst) x t) h) (fun x k => runR q C (x :: st) (putO (decD NL o.dst) x t) k) (goR g f C st t h) = .ok t' h' →
          ∃ tr e', traceOps C ops (o :: l) e h = some (tr, e', h') ∧ EqN NL t' e' ∧ Among tr ((o :: l).map fun o => mayW C o.op) := by
        intro g f q hg hd hq hx
        have hle := goR2_ok (C := C) (h := h) hs hn hg hd
        cases ho : goR g f C st t h with
        | no => rw [ho] at hx; cases hx
        | v x =>
          rw [ho] at hx hle
          have h1 := hle _ rfl
          obtain ⟨tr, e', k1, k2, k3⟩ := ih _ _ hq (x :: st) _ (Env.put e o.dst x) h (hs.push _ _) (hn.put _ _) _ _ hx
          refine ⟨false :: tr, e', ?_, k2, ⟨fun h => (by cases h), k3⟩⟩
          simp only [traceOps, h1, k1]
        | w x k =>
          rw [ho] at hx hle
          have h1 := hle _ rfl
          obtain ⟨tr, e', k1, k2, k3⟩ := ih _ _ hq (x :: st) _ (Env.put e o.dst x) k (hs.push _ _) (hn.put _ _) _ _ hx
          refine ⟨true :: tr, e', ?_, k2, ⟨fun _ => ?_, k3⟩⟩
          · simp only [traceOps, h1, k1]
          · unfold stepOp at h1
            split at h1
            · exact opVal_mayW h1
            · cases h1
            · cases h1
      split at hr
      · rename_i g f q hg hd hq
        simp only [Option.some.injEq] at hr; subst hr
        rw [runR_g] at hx
        exact step (some g) f q hg hd hq hx
      · rename_i f q hg hd hq
        split at hr
        · rename_i p hp
          simp only [Option.some.injEq] at hr; subst hr
          rw [runR_op] at hx
          refine step none f q hg hd hq ?_
          rw [hp]; exact hx
        · rename_i hp
          simp only [Option.some.injEq] at hr; subst hr
          refine step none f q hg hd hq ?_
          rw [hp]; exact hx
      · cases hr

theorem runRR_ok {r : FR} (hr : decRR C.P NL ops = some r) {t e : Env} {h : Hp} (hn : EqN NL t e) {t' : Env} {h' : Hp} (hx : runR r C [] t h = .ok t' h') :
    ∃ tr e', traceOps C ops ops.toList e h = some (tr, e', h') ∧ EqN NL t' e' ∧ Among tr (ops.toList.map fun o => mayW C o.op) := by
  unfold decRR at hr
  split at hr
  · rename_i q hq
    simp only [Option.some.injEq] at hr; subst hr
    exact runR2_ok _ _ _ hq [] t e h (fun s a p h => by cases h) hn _ _ hx
  · exact runR_ok _ _ _ hr [] t e h (RelSt.nil e) hn _ _ hx

theorem trace_run : ∀ (l : List Oper) (e : Env) (h : Hp) (tr : List Bool) (e' : Env) (h' : Hp), traceOps C ops l e h = some (tr, e', h') → runOps C ops l e h = some (e', h') := by
  intro l
  induction l with
  | nil => intro e h tr e' h' hx; simp only [traceOps, Option.some.injEq, Prod.mk.injEq] at hx; obtain ⟨_, rfl, rfl⟩ := hx; rfl
  | cons o l ih =>
    intro e h tr e' h' hx
    simp only [traceOps] at hx
    simp only [runOps]
    split at hx
    · rename_i v hv
      split at hx
      · rename_i l1 e1 h1 hl
        simp only [Option.some.injEq, Prod.mk.injEq] at hx; obtain ⟨_, rfl, rfl⟩ := hx
        exact ih _ _ _ _ _ hl
      · cases hx
    · rename_i v k hv
      split at hx
      · rename_i l1 e1 h1 hl
        simp only [Option.some.injEq, Prod.mk.injEq] at hx; obtain ⟨_, rfl, rfl⟩ := hx
        exact ih _ _ _ _ _ hl
      · cases hx
    · cases hx

/-! ## The order, whatever was written -/
theorem lateOk_nil (C : Cfg) (ops : Array Oper) (i : Nat) (o : Oper) (j : Nat) : lateOk C [] ops i o j = false := by
  unfold lateOk
  split
  · simp
  · rfl

theorem earlyOk_nil (C : Cfg) (ops : Array Oper) (j : Nat) (p : Oper) (i : Nat) : earlyOk C [] ops j p i = false := by
  unfold earlyOk
  split
  · simp
  · rfl

theorem pairOk_mono {C0 : Cfg} (ha : ∀ o, apartFromHeap C0 o = apartFromHeap C o) (S : List (Env × Hp)) (bs : List (List Nat)) (i : Nat) (o : Oper) (j : Nat) (p : Oper) {n m n' m' : Bool}
    (hn : n = true → n' = true ∨ earlyOk C S ops j p i = true) (hm : m = true → m' = true ∨ lateOk C S ops i o j = true)
    (h : pairOk C0 [] ops bs i o n' j p m' = true) : pairOk C S ops bs i o n j p m = true := by
  unfold pairOk at h ⊢
  rw [lateOk_nil, earlyOk_nil, ha, ha] at h
  simp only [Bool.and_eq_true] at h ⊢
  refine ⟨h.1, ?_⟩
  have h3 := h.2
  cases h1 : (bs.getD j []).contains i with
  | true => rfl
  | false =>
    rw [h1] at h3
    simp only [Bool.false_or, Bool.not_eq_true', Bool.or_eq_false_iff, Bool.and_eq_false_iff, Bool.not_false, Bool.and_true] at h3 ⊢
    constructor
    · rcases h3.1 with e | e
      · cases n with
        | false => exact .inl rfl
        | true =>
          rcases hn rfl with h4 | h4
          · rw [h4] at e; cases e
          · right; right; rw [h4]; rfl
      · exact .inr (.inl e)
    · rcases h3.2 with e | e
      · cases m with
        | false => exact .inl rfl
        | true =>
          rcases hm rfl with h4 | h4
          · rw [h4] at e; cases e
          · right; right; rw [h4]; rfl
      · exact .inr (.inl e)

theorem pairsFrom_mono {C0 : Cfg} (ha : ∀ o, apartFromHeap C0 o = apartFromHeap C o) (S : List (Env × Hp)) (bs : List (List Nat)) (i : Nat) (o : Oper) {n n' : Bool} (hn : n = true → n' = true) :
    ∀ (l : List Oper) (j : Nat) (ms ms' : List Bool), Among ms ms' → pairsFrom C0 [] ops bs i o n' j l ms' = true → pairsFrom C S ops bs i o n j l ms = true := by
  intro l
  induction l with
  | nil => intro j ms ms' _ _; rfl
  | cons p l ih =>
    intro j ms ms' hm h
    cases ms' with
    | nil => simp only [pairsFrom] at h; cases h
    | cons m' ms' =>
      cases ms with
      | nil => cases hm
      | cons m ms =>
        simp only [pairsFrom] at h ⊢
        split at h
        · rename_i hp
          rw [pairOk_mono ha S bs i o j p (fun h => .inl (hn h)) (fun h => .inl (hm.1 h)) hp]
          exact ih _ _ _ hm.2 h
        · cases h

theorem pairsAll_mono {C0 : Cfg} (ha : ∀ o, apartFromHeap C0 o = apartFromHeap C o) (S : List (Env × Hp)) (bs : List (List Nat)) :
    ∀ (l : List Oper) (i : Nat) (ms ms' : List Bool), Among ms ms' → pairsAll C0 [] ops bs i l ms' = true → pairsAll C S ops bs i l ms = true := by
  intro l
  induction l with
  | nil => intro i ms ms' _ _; rfl
  | cons o l ih =>
    intro i ms ms' hm h
    cases ms' with
    | nil => simp only [pairsAll] at h; cases h
    | cons m' ms' =>
      cases ms with
      | nil => cases hm
      | cons m ms =>
        simp only [pairsAll] at h ⊢
        split at h
        · rename_i hp
          rw [pairsFrom_mono ha S bs i o hm.1 _ _ _ _ hm.2 hp]
          exact ih _ _ _ hm.2 h
        · cases h

theorem orderOk_mono {C0 : Cfg} (ha : ∀ o, apartFromHeap C0 o = apartFromHeap C o) (S : List (Env × Hp)) {tr tr' : List Bool} (hm : Among tr tr') (h : orderOk C0 [] ops tr' = true) : orderOk C S ops tr = true := by
  unfold orderOk at h ⊢
  split at h
  · simp only [Bool.and_eq_true] at h ⊢
    exact ⟨h.1, pairsAll_mono ha S _ _ _ _ _ hm h.2⟩
  · cases h

theorem apart_eq (C : Cfg) (o : Op) : apartFromHeap ⟨C.P, .leaf, fun _ => none, C.pure, fun _ => none, fun _ => false⟩ o = apartFromHeap C o := by
  cases C; rfl

theorem region_ok {draw : Bool} {r : FR} (hr : decRR C.P NL ops = some r) (hd : draw = true → statOk C.P C.pure ops = true) {t e : Env} {h : Hp} (hn : EqN NL t e) {t' : Env} {h' : Hp} (hx : runR r C [] t h = .ok t' h') :
    ∃ e', regionE C ops draw e h = some (e', h') ∧ EqN NL t' e' := by
  obtain ⟨tr, e', k1, k2, k3⟩ := runRR_ok hr hn hx
  refine ⟨e', ?_, k2⟩
  cases draw with
  | false => exact trace_run _ _ _ _ _ _ k1
  | true =>
    have hst := hd rfl
    unfold statOk at hst
    split at hst
    · cases hst
    · rename_i hf
      have ho := orderOk_mono (C := C) (apart_eq C) (statesOps C ops ops.toList e h) (tr := tr) (by
        refine (?_ : Among tr (ops.toList.map fun o => mayW ⟨C.P, .leaf, fun _ => none, C.pure, fun _ => none, fun _ => false⟩ o.op))
        have e0 : (fun o : Oper => mayW ⟨C.P, .leaf, fun _ => none, C.pure, fun _ => none, fun _ => false⟩ o.op) = fun o => mayW C o.op := funext fun o => by unfold mayW; rw [apart_eq]
        rw [e0]; exact k3) hst
      simp only [regionE, hf, k1, ho]

/-! ## Late loads -/
theorem pairsFrom_late {C0 : Cfg} (ha : ∀ o, apartFromHeap C0 o = apartFromHeap C o) (S : List (Env × Hp)) (L E : List (Nat × Nat)) (bs : List (List Nat)) (all : List Oper) (i : Nat) (o : Oper) (hL : ∀ j, L.contains (i, j) = true → lateOk C S ops i o j = true)
    (hE : ∀ j p, E.contains (j, i) = true → all[j]? = some p → earlyOk C S ops j p i = true) {n n' : Bool} (hn : n = true → n' = true) :
    ∀ (l : List Oper) (j : Nat) (ms ms' : List Bool), (∀ k, l[k]? = all[j + k]?) → Among ms ms' → pairsFromL C0 L E ops bs i o n' j l ms' = true → pairsFrom C S ops bs i o n j l ms = true := by
  intro l
  induction l with
  | nil => intro j ms ms' _ _ _; rfl
  | cons p l ih =>
    intro j ms ms' hk hm h
    cases ms' with
    | nil => simp only [pairsFromL] at h; cases h
    | cons m' ms' =>
      cases ms with
      | nil => cases hm
      | cons m ms =>
        simp only [pairsFromL] at h
        simp only [pairsFrom]
        have hp0 : all[j]? = some p := by have := hk 0; simpa using this.symm
        split at h
        · rename_i hp
          rw [pairOk_mono ha S bs i o j p (fun e => ?_) (fun e => ?_) hp]
          · refine ih _ _ _ (fun k => ?_) hm.2 h
            have := hk (k + 1)
            simp only [List.getElem?_cons_succ] at this
            rw [this]; congr 1; omega
          · cases hc : E.contains (j, i) with
            | true => exact .inr (hE j p hc hp0)
            | false => left; rw [hn e]; rfl
          · cases hc : L.contains (i, j) with
            | true => exact .inr (hL j hc)
            | false => left; rw [hm.1 e]; rfl
        · cases h

theorem pairsAll_late {C0 : Cfg} (ha : ∀ o, apartFromHeap C0 o = apartFromHeap C o) (S : List (Env × Hp)) (L E : List (Nat × Nat)) (bs : List (List Nat)) (all : List Oper) (hL : ∀ i j o, L.contains (i, j) = true → all[i]? = some o → lateOk C S ops i o j = true)
    (hE : ∀ j i p, E.contains (j, i) = true → all[j]? = some p → earlyOk C S ops j p i = true) :
    ∀ (l : List Oper) (i : Nat) (ms ms' : List Bool), (∀ k, l[k]? = all[i + k]?) → Among ms ms' → pairsAllL C0 L E ops bs i l ms' = true → pairsAll C S ops bs i l ms = true := by
  intro l
  induction l with
  | nil => intro i ms ms' _ _ _; rfl
  | cons o l ih =>
    intro i ms ms' hk hm h
    cases ms' with
    | nil => simp only [pairsAllL] at h; cases h
    | cons m' ms' =>
      cases ms with
      | nil => cases hm
      | cons m ms =>
        simp only [pairsAllL] at h
        simp only [pairsAll]
        have ho : all[i]? = some o := by have := hk 0; simpa using this.symm
        have hk1 : ∀ k, l[k]? = all[i + 1 + k]? := fun k => by
          have := hk (k + 1)
          simp only [List.getElem?_cons_succ] at this
          rw [this]; congr 1; omega
        split at h
        · rename_i hp
          rw [pairsFrom_late ha S L E bs all i o (fun j hj => hL i j o hj ho) (fun j p hj hp => hE j i p hj hp) hm.1 _ _ _ _ hk1 hm.2 hp]
          exact ih _ _ _ hk1 hm.2 h
        · cases h

/-- what the fast machine's states are to the heap machine's -/
theorem statesR_ok : ∀ (l : List Oper) (ds : List (Option Nat)) (r : FR), decR C.P NL ops l ds = some r → ∀ (st : List V) (t e : Env) (h : Hp), RelSt ds st e → EqN NL t e → ∀ (k : Nat) (s : SR), (statesR r C st t h)[k]? = some s →
    ∃ g' o' st' t' h' e', s = SR.mk g' o' st' t' h' ∧ (statesOps C ops l e h)[k]? = some (e', h') ∧ ∀ (o : Oper), l[k]? = some o → ∃ ds', RelSt ds' st' e' ∧ EqN NL t' e' ∧ decO C.P (decA NL ds') o.op = some o' ∧ decG NL ds' ops o.guard = some g' := by
  intro l
  induction l with
  | nil =>
    intro ds r hr st t e h hs hn k s hk
    cases hr
    cases k with
    | zero =>
      have : s = SR.mk none (.lenN 0) st t h := (Option.some.inj hk).symm
      exact ⟨_, _, _, _, _, e, this, rfl, fun o ho => by cases ho⟩
    | succ k => cases hk
  | cons o l ih =>
    intro ds r hr st t e h hs hn k s hk
    have step : ∀ (g : Option FG) (f : FO) (q : FR), decG NL ds ops o.guard = some g → decO C.P (decA NL ds) o.op = some f → decR C.P NL ops l (o.dst :: ds) = some q →
        (SR.mk g f st t h :: OR.rec (motive := fun _ => List SR) [] (fun x => statesR q C (x :: st) (putO (decD NL o.dst) x t) h) (fun x k => statesR q C (x :: st) (putO (decD NL o.dst) x t) k) (goR g f C st t h))[k]? = some s →
        ∃ g' o' st' t' h' e', s = SR.mk g' o' st' t' h' ∧ (statesOps C ops (o :: l) e h)[k]? = some (e', h') ∧ ∀ (o1 : Oper), (o :: l)[k]? = some o1 → ∃ ds', RelSt ds' st' e' ∧ EqN NL t' e' ∧ decO C.P (decA NL ds') o1.op = some o' ∧ decG NL ds' ops o1.guard = some g' := by
      intro g f q hg hd hq hk
      cases k with
      | zero =>
        have : s = SR.mk g f st t h := (Option.some.inj hk).symm
        refine ⟨_, _, _, _, _, e, this, rfl, fun o1 ho => ?_⟩
        have : o1 = o := (Option.some.inj ho).symm
        subst this
        exact ⟨ds, hs, hn, hd, hg⟩
      | succ k =>
        simp only [List.getElem?_cons_succ] at hk ⊢
        have hle := goR_ok (C := C) (h := h) hs hn hg hd
        cases ho : goR g f C st t h with
        | no => rw [ho] at hk; cases hk
        | v x =>
          rw [ho] at hk hle
          have h1 := hle _ rfl
          have := ih _ _ hq (x :: st) _ (Env.put e o.dst x) h (hs.push _ _) (hn.put _ _) k s hk
          simpa only [statesOps, h1, List.getElem?_cons_succ] using this
        | w x k1 =>
          rw [ho] at hk hle
          have h1 := hle _ rfl
          have := ih _ _ hq (x :: st) _ (Env.put e o.dst x) k1 (hs.push _ _) (hn.put _ _) k s hk
          simpa only [statesOps, h1, List.getElem?_cons_succ] using this
    simp only [decR] at hr
    split at hr
    · rename_i g f q hg hd hq
      simp only [Option.some.injEq] at hr; subst hr
      exact step (some g) f q hg hd hq hk
    · rename_i f q hg hd hq
      split at hr
      · rename_i p hp
        simp only [Option.some.injEq] at hr; subst hr
        refine step none f q hg hd hq ?_
        rw [hp]; exact hk
      · rename_i hp
        simp only [Option.some.injEq] at hr; subst hr
        refine step none f q hg hd hq ?_
        rw [hp]; exact hk
    · cases hr

theorem sameR_inv {a b : OR} (h : sameR a b = true) : ∃ x y, a = .v x ∧ b = .v y ∧ x.same y = true := by
  cases a <;> cases b <;> first | (cases h; done) | exact ⟨_, _, rfl, rfl, h⟩

theorem earlyX_mem : ∀ (L : List (Nat × Nat)) (S : List SR), earlyX L S C = true → ∀ p ∈ L, early1 (S[p.1]?) (S[p.2]?) (S[p.2 + 1]?) C = true := by
  intro L
  induction L with
  | nil => intro S _ p hp; cases hp
  | cons q L ih =>
    intro S h p hp
    revert h
    show Bool.rec (motive := fun _ => Bool) false (earlyX L S C) (early1 (nthF q.1 S) (nthF q.2 S) (nthF (Nat.add q.2 1) S) C) = true → _
    rw [nthF_eq, nthF_eq, nthF_eq]
    cases hl : early1 (S[q.1]?) (S[q.2]?) (S[Nat.add q.2 1]?) C with
    | false => intro h; cases h
    | true =>
      intro h
      rcases List.mem_cons.1 hp with e | e
      · subst e; exact hl
      · exact ih S h p e

theorem lateX_mem : ∀ (L : List (Nat × Nat)) (S : List SR), lateX L S C = true → ∀ p ∈ L, late1 (S[p.1]?) (S[p.2 + 1]?) C = true := by
  intro L
  induction L with
  | nil => intro S _ p hp; cases hp
  | cons q L ih =>
    intro S h p hp
    revert h
    show Bool.rec (motive := fun _ => Bool) false (lateX L S C) (late1 (nthF q.1 S) (nthF (Nat.add q.2 1) S) C) = true → _
    rw [nthF_eq, nthF_eq]
    cases hl : late1 (S[q.1]?) (S[Nat.add q.2 1]?) C with
    | false => intro h; cases h
    | true =>
      intro h
      rcases List.mem_cons.1 hp with e | e
      · subst e; exact hl
      · exact ih S h p e

theorem skip_want {ds' : List (Option Nat)} {st1 : List V} {t1 e1 : Env} {o : Oper} {g1 : FG} (d1 : RelSt ds' st1 e1) (d2 : EqN NL t1 e1) (d4 : decG NL ds' ops o.guard = some (some g1)) (hg : fG g1 st1 t1 = .skip) : wantedE e1 ops o = some false := by
  unfold wantedE
  cases hgu : o.guard with
  | none => rw [hgu] at d4; simp only [decG, Option.some.injEq] at d4; cases d4
  | some jw =>
    obtain ⟨j1, w⟩ := jw
    rw [hgu] at d4
    simp only [decG] at d4
    split at d4
    · rename_i d hd'
      simp only [hd']
      split at d4
      · rename_i a1 ha1
        simp only [Option.some.injEq] at d4
        subst d4
        have e9 := decA_ok d1 d2 _ _ ha1
        simp only [rdE, Option.some.injEq] at e9
        rw [e9]
        revert hg
        show asG (a1.get st1 t1) w = .skip → _
        cases a1.get st1 t1 with
        | bool b => cases b <;> cases w <;> intro hg <;> first | rfl | cases hg
        | any => intro hg; cases hg
        | anyb => intro hg; cases hg
        | _ => intro _; rfl
      · cases d4
    · rename_i hd'
      simp only [hd']

theorem regionL_ok {r : FR} {L E : List (Nat × Nat)} (hr : decR C.P NL ops ops.toList [] = some r) (hst : statOkL C.P C.pure L E ops = true) (hLd : ∀ p ∈ L, ∀ o, ops.toList[p.1]? = some o → isLoadO o.op = true) (hEd : ∀ p ∈ E, ∀ o, ops.toList[p.1]? = some o → isLoadO o.op = true)
    {t e : Env} {h : Hp} (hn : EqN NL t e) {t' : Env} {h' : Hp} (hx : runR r C [] t h = .ok t' h')
    (hl : lateX L (statesR r C [] t h) C = true) (hel : earlyX E (statesR r C [] t h) C = true) : ∃ e', regionE C ops true e h = some (e', h') ∧ EqN NL t' e' := by
  obtain ⟨tr, e', k1, k2, k3⟩ := runR_ok _ _ _ hr [] t e h (RelSt.nil e) hn _ _ hx
  refine ⟨e', ?_, k2⟩
  unfold statOkL at hst
  split at hst
  · cases hst
  · rename_i hf
    have hS := statesR_ok _ _ _ hr [] t e h (RelSt.nil e) hn
    have hL : ∀ i j o, L.contains (i, j) = true → ops.toList[i]? = some o → lateOk C (statesOps C ops ops.toList e h) ops i o j = true := by
      intro i j o hij ho
      have hm : (i, j) ∈ L := by simpa using hij
      have hld := hLd _ hm o ho
      have h1 := lateX_mem L _ hl _ hm
      simp only at h1
      cases ha : (statesR r C [] t h)[i]? with
      | none => rw [ha] at h1; cases h1
      | some a =>
        cases hb : (statesR r C [] t h)[j + 1]? with
        | none => rw [ha, hb] at h1; cases h1
        | some b =>
          obtain ⟨g1, o1, st1, t1, h1', e1, rfl, q1, q2⟩ := hS i a ha
          obtain ⟨g2, o2, st2, t2, h2', e2, rfl, q3, _⟩ := hS (j + 1) b hb
          obtain ⟨ds', d1, d2, d3, d4⟩ := q2 o ho
          rw [ha, hb] at h1
          have same : sameR (runO o1 C st1 t1 h1') (runO o1 C st1 t1 h2') = true → lateOk C (statesOps C ops ops.toList e h) ops i o j = true := by
            intro h2
            obtain ⟨x, y, x1, y1, hxy⟩ := sameR_inv h2
            have v1 := decO_ok (C := C) (h := h1') (decA_ok d1 d2) (rdE_leaf e1) d3 (x, none) (by rw [x1]; rfl)
            have v2 := decO_ok (C := C) (h := h2') (decA_ok d1 d2) (rdE_leaf e1) d3 (y, none) (by rw [y1]; rfl)
            unfold lateOk
            simp only [hld, q1, q3, v1, v2, hxy]
            split <;> rfl
          cases g1 with
          | none => exact same h1
          | some g1 =>
            have h2 : GV.rec (motive := fun _ => Bool) false (sameR (runO o1 C st1 t1 h1') (runO o1 C st1 t1 h2')) true (fG g1 st1 t1) = true := h1
            cases hg : fG g1 st1 t1 with
            | no => rw [hg] at h2; cases h2
            | yes => rw [hg] at h2; exact same h2
            | skip =>
              have hw := skip_want (ops := ops) d1 d2 d4 hg
              unfold lateOk
              simp only [hld, q1, q3, hw]
    have hE : ∀ j i p, E.contains (j, i) = true → ops.toList[j]? = some p → earlyOk C (statesOps C ops ops.toList e h) ops j p i = true := by
      intro j i o hij ho
      have hm : (j, i) ∈ E := by simpa using hij
      have hld := hEd _ hm o ho
      have h1 := earlyX_mem E _ hel _ hm
      simp only at h1
      cases ha : (statesR r C [] t h)[j]? with
      | none => rw [ha] at h1; cases h1
      | some a =>
        cases hb : (statesR r C [] t h)[i]? with
        | none => rw [ha, hb] at h1; cases h1
        | some b =>
          cases hc : (statesR r C [] t h)[i + 1]? with
          | none => rw [ha, hb, hc] at h1; cases h1
          | some c =>
            obtain ⟨g1, o1, st1, t1, h1', e1, rfl, q1, q2⟩ := hS j a ha
            obtain ⟨g2, o2, st2, t2, h2', e2, rfl, q3, _⟩ := hS i b hb
            obtain ⟨g3, o3, st3, t3, h3', e3, rfl, q4, _⟩ := hS (i + 1) c hc
            obtain ⟨ds', d1, d2, d3, d4⟩ := q2 o ho
            rw [ha, hb, hc] at h1
            have same : sameR (runO o1 C st1 t1 h2') (runO o1 C st1 t1 h3') = true → earlyOk C (statesOps C ops ops.toList e h) ops j o i = true := by
              intro h2
              obtain ⟨x, y, x1, y1, hxy⟩ := sameR_inv h2
              have v1 := decO_ok (C := C) (h := h2') (decA_ok d1 d2) (rdE_leaf e1) d3 (x, none) (by rw [x1]; rfl)
              have v2 := decO_ok (C := C) (h := h3') (decA_ok d1 d2) (rdE_leaf e1) d3 (y, none) (by rw [y1]; rfl)
              unfold earlyOk
              simp only [hld, q1, q3, q4, v1, v2, hxy]
              split <;> rfl
            cases g1 with
            | none => exact same h1
            | some g1 =>
              have h2 : GV.rec (motive := fun _ => Bool) false (sameR (runO o1 C st1 t1 h2') (runO o1 C st1 t1 h3')) true (fG g1 st1 t1) = true := h1
              cases hg : fG g1 st1 t1 with
              | no => rw [hg] at h2; cases h2
              | yes => rw [hg] at h2; exact same h2
              | skip =>
                have hw := skip_want (ops := ops) d1 d2 d4 hg
                unfold earlyOk
                simp only [hld, q1, q3, q4, hw]
    have ho : orderOk C (statesOps C ops ops.toList e h) ops tr = true := by
      unfold orderOkL at hst
      unfold orderOk
      split at hst
      · rename_i bs hbs
        simp only [hbs]
        simp only [Bool.and_eq_true] at hst
        rw [Bool.and_eq_true]
        refine ⟨hst.1, pairsAll_late (C := C) (apart_eq C) _ L E _ ops.toList hL hE _ _ _ _ (fun k => by simp) ?_ hst.2⟩
        have e0 : (fun o : Oper => mayW ⟨C.P, .leaf, fun _ => none, C.pure, fun _ => none, fun _ => false⟩ o.op) = fun o => mayW C o.op := funext fun o => by unfold mayW; rw [apart_eq]
        rw [e0]; exact k3
      · cases hst
    simp only [regionE, hf, k1, ho]

theorem earlyAll_load {P : Program} {pure : FuncId → Bool} : ∀ p ∈ earlyAll P pure ops, ∀ o, ops.toList[p.1]? = some o → isLoadO o.op = true := by
  intro p hp o ho
  unfold earlyAll at hp
  split at hp
  · simp only [List.mem_flatMap, List.mem_filterMap] at hp
    obtain ⟨j, _, i, _, hh⟩ := hp
    split at hh
    · rename_i p1 o1 hp1 ho1
      split at hh
      · rename_i hb
        simp only [Option.some.injEq] at hh; subst hh
        simp only [Bool.and_eq_true] at hb
        simp only [Array.getElem?_toList] at ho
        rw [hp1] at ho
        simp only [Option.some.injEq] at ho; subst ho
        exact hb.2.1
      · cases hh
    · cases hh
  · cases hp

theorem lateAll_load {P : Program} {pure : FuncId → Bool} : ∀ p ∈ lateAll P pure ops, ∀ o, ops.toList[p.1]? = some o → isLoadO o.op = true := by
  intro p hp o ho
  unfold lateAll at hp
  split at hp
  · simp only [List.mem_flatMap, List.mem_filterMap] at hp
    obtain ⟨i, _, j, _, hh⟩ := hp
    split at hh
    · rename_i o1 p1 ho1 hp1
      split at hh
      · rename_i hb
        simp only [Option.some.injEq] at hh; subst hh
        simp only [Bool.and_eq_true] at hb
        simp only [Array.getElem?_toList] at ho
        rw [ho1] at ho
        simp only [Option.some.injEq] at ho; subst ho
        exact hb.2.1
      · cases hh
    · cases hh
  · cases hp

/-! ## Both ways -/
theorem EqN.join {t1 t2 e1 e2 : Env} (h1 : EqN NL t1 e1) (h2 : EqN NL t2 e2) : EqN NL (joinT t1 t2) (joinT e1 e2) := by
  intro s k hk
  rw [joinT_get, joinT_get, h1 s k hk, h2 s k hk]

theorem eqT_refl {α : Type} {s : α → α → Bool} (hs : ∀ x, s x x = true) : ∀ t : Tr α, Tr.eqT s t t = true := by
  intro t
  induction t with
  | leaf => rfl
  | node l v r ihl ihr =>
    cases v with
    | none => simp only [Tr.eqT, ihl, ihr]; rfl
    | some x => simp only [Tr.eqT, ihl, ihr, hs]; rfl
theorem sameEnds_refl : ∀ l : List (Nat × Nat), sameEnds l l = true
  | [] => rfl
  | x :: r => by rw [sameEnds, sameEnds_refl r]; simp

theorem write_alone {h : Hp} {b e : Nat} {z v : V} (hb : h.t.get b = some (.cells b 0 0 [z])) (hf : h.fams.get b = some [(b, e)]) (hv : v.one = true) (hc : v.cells = [v]) : h.write b 0 v.cells = some ⟨h.next, h.t.put (some (.cells b 0 0 [v])) b, h.fams, h.els⟩ := by
  rw [hc]
  unfold Hp.write
  simp only [hb]
  rw [if_pos ⟨by simp, Nat.le_refl _, by simp [hv]⟩, kill_alone hf]
  rfl

theorem boolFork_ok {d T d3 : Nat} (hd : boolFork C.P ops = some (d, T, d3)) (hf : forkOk ops = true) {t e : Env} {h : Hp} (hn : EqN NL t e) : ∃ e', regionE C ops true e h =
    some (e', ⟨h.next + 1, h.t.put none h.next, h.fams.put (some [(h.next, 1)]) h.next, h.els.put (some (2 * T + 1)) h.next⟩) ∧ EqN NL (putO (decD NL (some d3)) .anyb (putO (decD NL (some d)) (.ptr h.next 0) t)) e' := by
  unfold boolFork at hd
  split at hd
  · rename_i d' T' ty0 ps0 af0 T1 x1 c1 ty1 ps1 af1 T2 x2 c2 ty2 ps2 af2 d3' T3 x3 ty3 ps3 af3 hops
    split at hd
    · rename_i z a b hz hc1 hc2
      split at hd
      · rename_i hq
        simp only [Option.some.injEq, Prod.mk.injEq] at hd
        obtain ⟨rfl, rfl, rfl⟩ := hd
        simp only [Bool.and_eq_true, bne_iff_ne, ne_eq, nbq, Bool.not_eq_true', beq_iff_eq] at hq
        obtain ⟨hab, ⟨⟨e1, e2⟩, e3, hne⟩, ⟨s1, s2⟩, s3⟩ := hq
        subst e1 e2 e3
        have hne2 : d3' ≠ x3 := fun e => by subst e; simp at hne
        obtain ⟨nx, hnx⟩ : ∃ nx, nx = h.next := ⟨_, rfl⟩
        obtain ⟨E, hE⟩ : ∃ E, E = Env.put e (some x3) (.ptr nx 0) := ⟨_, rfl⟩
        have hEg : ∀ v, rdE (Env.put E none v) (.tmp x3) = some (.ptr nx 0) := fun v => by
          show some (Env.get E x3) = _
          rw [hE, env_get_put, if_pos rfl]
        let Z (v : V) : Hp := ⟨nx + 1, h.t.put (some (.cells nx 0 0 [v])) nx, h.fams.put (some [(nx, 1)]) nx, h.els.put (some (2 * T' + 1)) nx⟩
        have alloc : opVal C (rdE e) h (.alloc T') = some (.ptr nx 0, some (Z z)) := by
          simp only [opVal, opAlloc, hz]
          subst hnx
          rfl
        have zt : ∀ v, (Z v).t.get nx = some (.cells nx 0 0 [v]) := fun v => by show (h.t.put _ nx).get nx = _; rw [Tr.get_put, if_pos rfl]
        have zf : ∀ v, (Z v).fams.get nx = some [(nx, 1)] := fun v => by show (h.fams.put _ nx).get nx = _; rw [Tr.get_put, if_pos rfl]
        have store : ∀ (T : TypeId) (c : Value) (b : Bool) (v : V), constV c = some (.bool b) → szOf C.P T = some 1 → opVal C (rdE E) (Z v) (.store T (.tmp x3) (.const c)) = some (.tup [], some (Z (.bool b))) := by
          intro T c b v hc hs
          have r1 : rdE E (.tmp x3) = some (.ptr nx 0) := hEg (.tup [])
          have r2 : rdE E (.const c) = some (.bool b) := hc
          simp only [opVal, r1, r2, opStore, hs]
          rw [if_pos ⟨rfl, rfl⟩, write_alone (zt v) (zf v) rfl rfl]
          show some (V.tup [], some (Hp.mk (nx + 1) ((h.t.put _ nx).put _ nx) _ _)) = _
          rw [put_over]
        have load : ∀ v, opVal C (rdE E) (Z v) (.load T3 (.tmp x3)) = some (v, none) := by
          intro v
          have r1 : rdE E (.tmp x3) = some (.ptr nx 0) := hEg (.tup [])
          simp only [opVal, r1, opLoad, Hp.cellsAt, zt, s3]
          rfl
        have runA : runOps C ops [⟨some x3, .alloc T', ty0, ps0, af0, none⟩, ⟨none, .store T1 (.tmp x3) (.const c1), ty1, ps1, af1, none⟩, ⟨none, .store T2 (.tmp x3) (.const c2), ty2, ps2, af2, none⟩, ⟨some d3', .load T3 (.tmp x3), ty3, ps3, af3, none⟩] e h = some (Env.put E (some d3') (.bool b), Z (.bool b)) := by
          simp only [runOps, stepOp, wantedE, alloc, ← hE]
          simp only [Env.put, store _ _ _ _ hc1 s1, store _ _ _ _ hc2 s2, load]
        have runB : runOps C ops [⟨some x3, .alloc T', ty0, ps0, af0, none⟩, ⟨none, .store T2 (.tmp x3) (.const c2), ty2, ps2, af2, none⟩, ⟨none, .store T1 (.tmp x3) (.const c1), ty1, ps1, af1, none⟩, ⟨some d3', .load T3 (.tmp x3), ty3, ps3, af3, none⟩] e h = some (Env.put E (some d3') (.bool a), Z (.bool a)) := by
          simp only [runOps, stepOp, wantedE, alloc, ← hE]
          simp only [Env.put, store _ _ _ _ hc1 s1, store _ _ _ _ hc2 s2, load]
        have hsame : Blk.same (.cells nx 0 0 [.bool b]) (.cells nx 0 0 [.bool a]) = false := by
          cases a <;> cases b <;> first | rfl | (exact absurd rfl hab) | skip
          all_goals (simp only [Blk.same, V.sames, V.same]; simp)
        have hjoin : (Z (.bool b)).join (Z (.bool a)) = some ⟨nx + 1, h.t.put none nx, h.fams.put (some [(nx, 1)]) nx, h.els.put (some (2 * T' + 1)) nx⟩ := by
          unfold Hp.join
          show (match (Nat.beq (nx + 1) (nx + 1) && Tr.eqT sameEnds (h.fams.put _ nx) (h.fams.put _ nx)) && Tr.eqT Nat.beq (h.els.put _ nx) (h.els.put _ nx) with
            | true => some (Hp.mk (nx + 1) (Tr.meet Blk.same (h.t.put _ nx) (h.t.put _ nx)) _ _)
            | false => none) = _
          rw [Nat.beq_refl, eqT_refl sameEnds_refl, eqT_refl Nat.beq_refl, meet_put Blk.same_refl hsame]
          rfl
        refine ⟨joinT (Env.put E (some d3') (.bool b)) (Env.put E (some d3') (.bool a)), ?_, ?_⟩
        · simp only [regionE, hf, forkE, hops, runA, runB, hjoin, ← hnx]
        · intro s k hk
          have h0 := ((hn.put (some x3) (.ptr nx 0)).put (some d3') .anyb) s k hk
          rw [← hnx, h0, joinT_get]
          show Tr.get (Tr.put (some .anyb) (Env.put e (some x3) (.ptr nx 0)) d3') s = joinO (Tr.get (Tr.put (some (.bool b)) E d3') s) (Tr.get (Tr.put (some (.bool a)) E d3') s)
          rw [Tr.get_put, Tr.get_put, Tr.get_put, ← hE]
          by_cases hs : s = d3'
          · rw [if_pos hs, if_pos hs, if_pos hs]
            cases a <;> cases b <;> first | (exact absurd rfl hab) | rfl
          · rw [if_neg hs, if_neg hs, if_neg hs]
            cases Tr.get E s with
            | none => rfl
            | some v => simp only [joinO, joinV, V.same_refl]
      · cases hd
    · cases hd
  · cases hd

theorem fork_ok {o0 o1 o2 o3 : Oper} {a b : FR} (ho : ops.toList = [o0, o1, o2, o3]) (hf : forkOk ops = true) (ha : decR C.P NL ops [o0, o1, o2, o3] [] = some a) (hb : decR C.P NL ops [o0, o2, o1, o3] [] = some b) {t e : Env} {h : Hp} (hn : EqN NL t e)
    {t1 t2 : Env} {h1 h2 h3 : Hp} (hx : runR a C [] t h = .ok t1 h1) (hy : runR b C [] t h = .ok t2 h2) (hj : h1.join h2 = some h3) : ∃ e', regionE C ops true e h = some (e', h3) ∧ EqN NL (joinT t1 t2) e' := by
  obtain ⟨tr1, e1, k1, k2, _⟩ := runR_ok _ _ _ ha [] t e h (RelSt.nil e) hn _ _ hx
  obtain ⟨tr2, e2, q1, q2, _⟩ := runR_ok _ _ _ hb [] t e h (RelSt.nil e) hn _ _ hy
  refine ⟨joinT e1 e2, ?_, k2.join q2⟩
  simp only [regionE, hf, forkE, ho, trace_run _ _ _ _ _ _ k1, trace_run _ _ _ _ _ _ q1, hj]

/-! ## Code -/
def OkX (NL : List Nat) : XR → Option (AX × Env × Hp) → Prop
  | .no, _ => True
  | .n t h, o => ∃ e, o = some (.normal, e, h) ∧ EqN NL t e
  | .x i t h, o => ∃ e, o = some (.exit i, e, h) ∧ EqN NL t e
  | .g l t h, o => ∃ e, o = some (.goto l, e, h) ∧ EqN NL t e
  | .r t h, o => ∃ e, o = some (.ret, e, h) ∧ EqN NL t e

theorem loopX_ok {f : Env → Hp → XR} {g : Env → Hp → Option (AX × Env × Hp)} (hf : ∀ t e h, EqN NL t e → OkX NL (f t h) (g e h)) : ∀ (n : Nat) (t e : Env) (h : Hp), EqN NL t e → OkX NL (loopX n f t h) (loopE g n e h) := by
  intro n
  induction n with
  | zero => intro t e h _; trivial
  | succ n ih =>
    intro t e h hn
    have := hf t e h hn
    show OkX NL (XR.rec (motive := fun _ => XR) .no (fun t' h' => loopX n f t' h') (fun i t' h' => .x i t' h') (fun l t' h' => .g l t' h') (fun t' h' => .r t' h') (f t h)) _
    simp only [loopE]
    cases hx : f t h with
    | no => trivial
    | n t1 h1 =>
      rw [hx] at this
      obtain ⟨e1, k1, k2⟩ := this
      rw [k1]; exact ih _ _ _ k2
    | x i t1 h1 =>
      rw [hx] at this
      obtain ⟨e1, k1, k2⟩ := this
      rw [k1]; exact ⟨e1, rfl, k2⟩
    | g l t1 h1 =>
      rw [hx] at this
      obtain ⟨e1, k1, k2⟩ := this
      rw [k1]; exact ⟨e1, rfl, k2⟩
    | r t1 h1 =>
      rw [hx] at this
      obtain ⟨e1, k1, k2⟩ := this
      rw [k1]; exact ⟨e1, rfl, k2⟩

theorem execX_ok (lim : Nat) : ∀ (c : Code) (fc : FC), decC C.P C.pure NL c = some fc → ∀ (t e : Env) (h : Hp), EqN NL t e → OkX NL (execX fc C lim t h) (execE C lim c e h) := by
  intro c
  induction c with
  | skip => intro fc hd t e h hn; cases hd; exact ⟨e, rfl, hn⟩
  | region id ops draw =>
    intro fc hd t e h hn
    have key : ∀ r, decRR C.P NL ops = some r → (draw = true → statOk C.P C.pure ops = true) → OkX NL (execX (.reg r) C lim t h) (execE C lim (.region id ops draw) e h) := by
      intro r hr hst
      show OkX NL (rX (runR r C [] t h)) _
      cases hx : runR r C [] t h with
      | no => trivial
      | ok t' h' =>
        obtain ⟨e', k1, k2⟩ := region_ok hr hst hn hx
        exact ⟨e', by simp only [execE, k1], k2⟩
    simp only [decC] at hd
    split at hd
    · split at hd
      · rename_i r hr
        simp only [Option.some.injEq] at hd; subst hd
        exact key r hr (fun h => by cases h)
      · cases hd
    · split at hd
      · rename_i hst
        split at hd
        · rename_i r hr
          simp only [Option.some.injEq] at hd; subst hd
          exact key r hr (fun _ => hst)
        · cases hd
      · split at hd
        · rename_i hf
          split at hd
          · rename_i d T d3 hbf
            simp only [Option.some.injEq] at hd; subst hd
            cases h with
            | mk nx bt ft et =>
              obtain ⟨e', k1, k2⟩ := boolFork_ok (h := ⟨nx, bt, ft, et⟩) hbf hf hn
              show OkX NL (putOK (decD NL (some d)) (.ptr nx 0) t (fun t1 => putOK (decD NL (some d3)) .anyb t1 (fun t2 => putK none bt nx (fun b' => putK (some [(nx, 1)]) ft nx (fun f' => putK (some (2 * T + 1)) et nx (fun e' => forceN nx (fun n' => XR.n t2 ⟨Nat.add n' 1, b', f', e'⟩))))))) _
              rw [putOK_eq, putOK_eq, putK_eq, putK_eq, putK_eq, forceN_eq]
              exact ⟨e', by
                simp only [execE]
                rw [k1], k2⟩
          · split at hd
            rotate_left
            · cases hd
            rename_i o0 o1 o2 o3 ho
            split at hd
            · rename_i a b ha hb
              simp only [Option.some.injEq] at hd; subst hd
              show OkX NL (joinR2 (runR a C [] t h) (runR b C [] t h)) _
              cases hx : runR a C [] t h with
              | no => trivial
              | ok t1 h1 =>
                cases hy : runR b C [] t h with
                | no => trivial
                | ok t2 h2 =>
                  show OkX NL (joinH t1 h1 t2 h2) _
                  unfold joinH
                  rw [joinF_eq]
                  cases hj : h1.join h2 with
                  | none => trivial
                  | some h3 =>
                    obtain ⟨e', k1, k2⟩ := fork_ok ho hf ha hb hn hx hy hj
                    exact ⟨e', by simp only [execE, k1], k2⟩
            · cases hd
        · split at hd
          · rename_i hst
            split at hd
            · rename_i r hr
              simp only [Option.some.injEq] at hd; subst hd
              show OkX NL (RR.rec (motive := fun _ => XR) .no (fun t' h' => Bool.rec (motive := fun _ => XR) .no (Bool.rec (motive := fun _ => XR) .no (.n t' h') (earlyX (earlyAll C.P C.pure ops) (statesR r C [] t h) C)) (lateX (lateAll C.P C.pure ops) (statesR r C [] t h) C)) (runR r C [] t h)) _
              cases hx : runR r C [] t h with
              | no => trivial
              | ok t' h' =>
                simp only
                cases hl : lateX (lateAll C.P C.pure ops) (statesR r C [] t h) C with
                | false => trivial
                | true =>
                  cases hel : earlyX (earlyAll C.P C.pure ops) (statesR r C [] t h) C with
                  | false => trivial
                  | true =>
                    obtain ⟨e', k1, k2⟩ := regionL_ok hr hst lateAll_load earlyAll_load hn hx hl hel
                    exact ⟨e', by simp only [execE, k1], k2⟩
            · cases hd
          · cases hd
  | seq a b iha ihb =>
    intro fc hd t e h hn
    simp only [decC] at hd
    split at hd
    · rename_i x y hx hy
      simp only [Option.some.injEq] at hd; subst hd
      have h1 := iha x hx t e h hn
      show OkX NL (thenX (execX x C lim t h) (execX y C lim)) _
      simp only [execE]
      cases hq : execX x C lim t h with
      | no => trivial
      | n t1 k1 =>
        rw [hq] at h1
        obtain ⟨e1, q1, q2⟩ := h1
        rw [q1]; exact ihb y hy _ _ _ q2
      | x i t1 k1 =>
        rw [hq] at h1
        obtain ⟨e1, q1, q2⟩ := h1
        rw [q1]; exact ⟨e1, rfl, q2⟩
      | g l t1 k1 =>
        rw [hq] at h1
        obtain ⟨e1, q1, q2⟩ := h1
        rw [q1]; exact ⟨e1, rfl, q2⟩
      | r t1 k1 =>
        rw [hq] at h1
        obtain ⟨e1, q1, q2⟩ := h1
        rw [q1]; exact ⟨e1, rfl, q2⟩
    · cases hd
  | cond c a b iha ihb =>
    intro fc hd t e h hn
    simp only [decC] at hd
    split at hd
    · rename_i c' x y hc hx hy
      simp only [Option.some.injEq] at hd; subst hd
      have e1 := decA_ok (RelSt.nil e) hn _ _ hc
      show OkX NL (condX (c'.get [] t) (execX x C lim) (execX y C lim) t h) _
      simp only [execE, e1]
      cases c'.get [] t with
      | bool v =>
        cases v with
        | true => exact iha x hx _ _ _ hn
        | false => exact ihb y hy _ _ _ hn
      | anyb =>
        have h1 := iha x hx _ _ h hn
        have h2 := ihb y hy _ _ h hn
        show OkX NL (joinX (execX x C lim t h) (execX y C lim t h)) _
        cases hq : execX x C lim t h with
        | n t1 k1 =>
          rw [hq] at h1
          obtain ⟨e1, q1, q2⟩ := h1
          cases hp : execX y C lim t h with
          | n t2 k2 =>
            rw [hp] at h2
            obtain ⟨e2, p1, p2⟩ := h2
            show OkX NL (joinH t1 k1 t2 k2) _
            unfold joinH
            rw [joinF_eq]
            cases hj : k1.join k2 with
            | none => trivial
            | some k3 =>
              refine ⟨joinT e1 e2, ?_, q2.join p2⟩
              simp only [q1, p1, hj]
          | _ => trivial
        | _ => trivial
      | _ => trivial
    · cases hd
  | block id b ih =>
    intro fc hd t e h hn
    simp only [decC] at hd
    split at hd
    · rename_i x hx
      simp only [Option.some.injEq] at hd; subst hd
      have h1 := ih x hx t e h hn
      show OkX NL (blockX (execX x C lim t h) id) _
      simp only [execE]
      cases hq : execX x C lim t h with
      | no => trivial
      | n t1 k1 =>
        rw [hq] at h1
        obtain ⟨e1, q1, q2⟩ := h1
        rw [q1]; exact ⟨e1, rfl, q2⟩
      | x i t1 k1 =>
        rw [hq] at h1
        obtain ⟨e1, q1, q2⟩ := h1
        rw [q1]
        show OkX NL (Bool.rec (motive := fun _ => XR) (.x i t1 k1) (.n t1 k1) (Nat.beq i id)) (match Nat.beq i id with | true => some (.normal, e1, k1) | false => some (.exit i, e1, k1))
        cases Nat.beq i id <;> exact ⟨e1, rfl, q2⟩
      | g l t1 k1 =>
        rw [hq] at h1
        obtain ⟨e1, q1, q2⟩ := h1
        rw [q1]; exact ⟨e1, rfl, q2⟩
      | r t1 k1 =>
        rw [hq] at h1
        obtain ⟨e1, q1, q2⟩ := h1
        rw [q1]; exact ⟨e1, rfl, q2⟩
    · cases hd
  | loop b ih =>
    intro fc hd t e h hn
    simp only [decC] at hd
    split at hd
    · rename_i x hx
      simp only [Option.some.injEq] at hd; subst hd
      show OkX NL (loopX lim (execX x C lim) t h) _
      simp only [execE]
      exact loopX_ok (fun t e h hn => ih x hx t e h hn) lim t e h hn
    · cases hd
  | exit id => intro fc hd t e h hn; cases hd; exact ⟨e, rfl, hn⟩
  | label l => intro fc hd t e h hn; cases hd; exact ⟨e, rfl, hn⟩
  | goto l => intro fc hd t e h hn; cases hd; exact ⟨e, rfl, hn⟩
  | ret => intro fc hd t e h hn; cases hd; exact ⟨e, rfl, hn⟩
  | _ => intro fc hd t e h hn; cases hd; trivial

/-! ## Functions -/
theorem enterX_ok : ∀ (np i : Nat) (args : List V) (t e t' : Env), EqN NL t e → enterX (pars NL np i) args t = some t' → EqN NL t' (enterE i args e) ∧ args.length = np := by
  intro np
  induction np with
  | zero =>
    intro i args t e t' hn hx
    cases args with
    | nil => cases hx; exact ⟨hn, rfl⟩
    | cons v r => cases hx
  | succ np ih =>
    intro i args t e t' hn hx
    cases args with
    | nil => cases hx
    | cons v r =>
      obtain ⟨h1, h2⟩ := ih (i + 1) r (putO (decD NL (some i)) v t) (Env.put e (some i) v) t' (hn.put _ _) hx
      exact ⟨h1, by simp [h2]⟩

theorem resAll_ok {t e : Env} (hn : EqN NL t e) (h : Hp) : ∀ (rs : List ResultVar) (fs : List FRes) (vs : List V), mapC (decRes NL) rs = some fs → resAll fs C t h = some vs → mapC (resE C.P C.Γ e h) rs = some vs := by
  intro rs
  induction rs with
  | nil => intro fs vs h1 h2; cases h1; cases h2; rfl
  | cons r rs ih =>
    intro fs vs h1 h2
    simp only [mapC] at h1
    split at h1
    · rename_i f l hf hl
      simp only [Option.some.injEq] at h1; subst h1
      have hr : resX f C t h = resE C.P C.Γ e h r := by
        cases r with
        | tmp s =>
          simp only [decRes] at hf
          split at hf
          · rename_i a ha
            simp only [Option.some.injEq] at hf; subst hf
            exact (decA_ok (RelSt.nil e) hn _ _ ha).symm
          · cases hf
        | cell s T =>
          simp only [decRes] at hf
          split at hf
          · rename_i a ha
            simp only [Option.some.injEq] at hf; subst hf
            have := decA_ok (RelSt.nil e) hn _ _ ha
            simp only [rdE, Option.some.injEq] at this
            show opLoad C.P C.Γ h T (a.get [] t) = opLoad C.P C.Γ h T (Env.get e s)
            rw [this]
          · cases hf
      revert h2
      show Option.rec (motive := fun _ => Option (List V)) none (fun x => Option.rec (motive := fun _ => Option (List V)) none (fun l => some (x :: l)) (resAll l C t h)) (resX f C t h) = some vs → _
      simp only [mapC, ← hr]
      cases resX f C t h with
      | none => intro h2; cases h2
      | some x =>
        cases hq : resAll l C t h with
        | none => intro h2; cases h2
        | some l' =>
          intro h2; cases h2
          rw [ih l l' hl hq]
    · cases h1

theorem leaveX_ok {t e : Env} (hn : EqN NL t e) (h : Hp) {rs : List ResultVar} {fs : List FRes} (h1 : mapC (decRes NL) rs = some fs) {r : V × Hp} (h2 : leaveX fs C t h = some r) : r.2 = h ∧ leaveE C.P C.Γ rs e h = some r.1 := by
  revert h2
  show Option.rec (motive := fun _ => Option (V × Hp)) none (fun vs => some (tupV vs, h)) (resAll fs C t h) = some r → _
  cases hq : resAll fs C t h with
  | none => intro h2; cases h2
  | some vs =>
    intro h2; cases h2
    refine ⟨rfl, ?_⟩
    unfold leaveE
    rw [resAll_ok hn h rs fs vs h1 hq]
    cases vs with
    | nil => rfl
    | cons x r => cases r <;> rfl

theorem callX_ok {np : Nat} {f : FuncId} {ff : FFn} (lim : Nat) (hd : decF C.P C.pure NL np f = some ff) (args : List V) (h : Hp) : Le (callX ff C lim args h) (callE C lim f args h) := by
  unfold decF at hd
  intro r hr
  split at hd
  · rename_i fn hfn
    split at hd
    · rename_i c hc
      split at hd
      · rename_i hb
        simp only [Bool.and_eq_true] at hb
        obtain ⟨_, hb1, hb2⟩ := hb
        split at hd
        · rename_i x rs hx hrs
          simp only [Option.some.injEq] at hd; subst hd
          revert hr
          show Option.rec (motive := fun _ => Option (V × Hp)) none (fun t => XR.rec (motive := fun _ => Option (V × Hp)) none (fun t' h' => leaveX rs C t' h') (fun _ _ _ => none) (fun _ _ _ => none) (fun t' h' => leaveX rs C t' h') (execX x C lim t h)) (enterX (pars NL np 0) args .leaf) = some r → _
          cases he : enterX (pars NL np 0) args .leaf with
          | none => intro hr; cases hr
          | some t0 =>
            obtain ⟨n1, n2⟩ := enterX_ok np 0 args .leaf .leaf t0 (fun s k _ => rfl) he
            have hk := execX_ok lim c x hx t0 _ h n1
            have hlen : Nat.ble args.length fn.ntmps = true := by rw [n2]; exact hb1
            intro hr
            simp only at hr
            simp only [callE, hfn, hc, hlen, hb2, Bool.and_self]
            cases hq : execX x C lim t0 h with
            | no => rw [hq] at hr; cases hr
            | n t1 k1 =>
              rw [hq] at hr hk
              obtain ⟨e1, q1, q2⟩ := hk
              rw [q1]
              obtain ⟨p1, p2⟩ := leaveX_ok q2 k1 hrs hr
              simp only [p2]
              rw [← p1]
            | x i t1 k1 => rw [hq] at hr; cases hr
            | g l t1 k1 => rw [hq] at hr; cases hr
            | r t1 k1 =>
              rw [hq] at hr hk
              obtain ⟨e1, q1, q2⟩ := hk
              rw [q1]
              obtain ⟨p1, p2⟩ := leaveX_ok q2 k1 hrs hr
              simp only [p2]
              rw [← p1]
        · cases hd
      · cases hd
    · cases hd
  · cases hd

end

/-- every function of the table is what the program's is decoded to -/
def TabOk (P : Program) (pure : FuncId → Bool) (tab : Tr FFn) : Prop := ∀ f ff, Tr.get tab f = some ff → ∃ NL np, decF P pure NL np f = some ff

theorem TabOk.leaf (P : Program) (pure : FuncId → Bool) : TabOk P pure .leaf := fun f ff h => by cases h
theorem TabOk.put {P : Program} {pure : FuncId → Bool} {t : Tr FFn} (h : TabOk P pure t) {NL : List Nat} {np : Nat} {f : FuncId} {ff : FFn} (hd : decF P pure NL np f = some ff) : TabOk P pure (Tr.put (some ff) t f) := by
  intro g gg hg
  rw [Tr.get_put] at hg
  split at hg
  · rename_i e; subst e
    simp only [Option.some.injEq] at hg; subst hg
    exact ⟨NL, np, hd⟩
  · exact h g gg hg

theorem Sound.le {P : Program} {Γ : Glob} {f : FuncId} {s s' : Spec} (h : Sound P Γ f s) (hl : ∀ args k, Le (s' args k) (s args k)) : Sound P Γ f s' := fun args h0 r h' hs => h args h0 r h' (hl _ _ _ hs)

theorem runX_sound {P : Program} {Γ : Glob} {pure closed : FuncId → Bool} {ext : FuncId → Option (List V → Option V)} {bodies : Tr Unit} {extra : FuncId → Option Spec} {tab : Tr FFn} {lim : Nat} (hp : ProgOk P Γ ext bodies extra) (ht : TabOk P pure tab) :
    ∀ (k : Nat) (f : FuncId), Sound P Γ f (runX P Γ pure closed ext bodies extra tab lim k f) := by
  intro k
  induction k with
  | zero => intro f args h r h' hs; cases hs
  | succ k ih =>
    intro f
    have hctx : CtxOk ⟨P, Γ, fun g => Option.rec (motive := fun _ => Option Spec) (Option.rec (motive := fun _ => Option Spec) none (fun _ => some (runX P Γ pure closed ext bodies extra tab lim k g)) (getT bodies g)) (fun s => some s) (extra g), pure, ext, closed⟩ := by
      refine ⟨fun g spec hg => ?_, hp.ext⟩
      simp only at hg
      cases hx : extra g with
      | some s =>
        rw [hx] at hg
        simp only [Option.some.injEq] at hg; subst hg
        exact hp.extra g s hx
      | none =>
        rw [hx, getT_eq] at hg
        cases hb : Tr.get bodies g with
        | none => rw [hb] at hg; cases hg
        | some u =>
          rw [hb] at hg
          simp only [Option.some.injEq] at hg; subst hg
          refine .inl ⟨hp.body g ?_, ih g⟩
          unfold inTr; rw [hb]
    have base := callE_sound hctx hp.draws lim f
    show Sound P Γ f (Option.rec (motive := fun _ => Spec)
      (callE ⟨P, Γ, fun g => Option.rec (motive := fun _ => Option Spec) (Option.rec (motive := fun _ => Option Spec) none (fun _ => some (runX P Γ pure closed ext bodies extra tab lim k g)) (getT bodies g)) (fun s => some s) (extra g), pure, ext, closed⟩ lim f)
      (fun ff => callX ff ⟨P, Γ, fun g => Option.rec (motive := fun _ => Option Spec) (Option.rec (motive := fun _ => Option Spec) none (fun _ => some (runX P Γ pure closed ext bodies extra tab lim k g)) (getT bodies g)) (fun s => some s) (extra g), pure, ext, closed⟩ lim)
      (getT tab f))
    rw [getT_eq]
    cases hf : Tr.get tab f with
    | none => exact base
    | some ff =>
      obtain ⟨NL, np, hd⟩ := ht f ff hf
      exact base.le fun args k => callX_ok lim hd args k

end Go.Proofs.YtbfdgdigaiimgaaDoor.HM
