/- The fast machine, 3: its small steps give what the heap machine's give. -/
import Derived.Test.YtbfdgdigaiimgaaDoorF2
namespace Go.Proofs.YtbfdgdigaiimgaaDoor.HM
open Go Go.RowKit

def Le {α : Type} (a b : Option α) : Prop := ∀ r, a = some r → b = some r
theorem Le.refl {α : Type} (a : Option α) : Le a a := fun _ h => h
theorem Le.of_eq {α : Type} {a b : Option α} (h : a = b) : Le a b := fun _ k => h ▸ k
theorem Le.none {α : Type} (b : Option α) : Le none b := fun _ h => by cases h
theorem Le.trans {α : Type} {a b c : Option α} (h : Le a b) (k : Le b c) : Le a c := fun r e => k r (h r e)

/-! ## Lists and trees -/

theorem ix_get : ∀ (i : Nat) (st : List V), (ixOf i).get st = st.getD i (.tup [])
  | 0, [] => rfl
  | 0, _ :: _ => rfl
  | _ + 1, [] => rfl
  | i + 1, _ :: r => (ix_get i r).trans (by simp)

theorem nthF_eq {α : Type} : ∀ (n : Nat) (l : List α), nthF n l = l[n]?
  | 0, [] => rfl
  | 0, _ :: _ => rfl
  | _ + 1, [] => rfl
  | n + 1, _ :: r => (nthF_eq n r).trans (by simp)
theorem lenF_eq {α : Type} : ∀ (l : List α), lenF l = l.length
  | [] => rfl
  | _ :: r => congrArg Nat.succ (lenF_eq r)
theorem dropF_eq {α : Type} : ∀ (n : Nat) (l : List α), dropF n l = l.drop n
  | 0, _ => rfl
  | _ + 1, [] => rfl
  | n + 1, _ :: r => (dropF_eq n r).trans (by simp)
theorem takeF_eq {α : Type} : ∀ (n : Nat) (l : List α), takeF n l = l.take n
  | 0, _ => rfl
  | _ + 1, [] => rfl
  | n + 1, x :: r => (congrArg (x :: ·) (takeF_eq n r)).trans (by simp)
theorem getT_eq {α : Type} : ∀ (t : Tr α) (i : Nat), getT t i = Tr.get t i := by
  intro t
  induction t with
  | leaf => intro i; rfl
  | node l v r ihl ihr =>
    intro i
    simp only [Tr.get]
    rw [← ihl, ← ihr]
    show Bool.rec (motive := fun _ => Option α) (Bool.rec (motive := fun _ => Option α) (getT r (Nat.sub (Nat.div i 2) 1)) (getT l (Nat.div i 2)) (Nat.beq (Nat.mod i 2) 1)) v (Nat.beq i 0) = _
    cases h0 : Nat.beq i 0 with
    | true => rfl
    | false =>
      show Bool.rec (motive := fun _ => Option α) (getT r (i / 2 - 1)) (getT l (i / 2)) (Nat.beq (i % 2) 1) = _
      cases h1 : Nat.beq (i % 2) 1 <;> rfl

theorem pa_get : ∀ (f i : Nat) (t : Env), i ≤ f → (paOf f i).get t = Env.get t i := by
  intro f
  induction f with
  | zero =>
    intro i t h
    obtain rfl : i = 0 := by omega
    cases t with
    | leaf => rfl
    | node l v r => cases v <;> rfl
  | succ f ih =>
    intro i t h
    simp only [paOf]
    cases h0 : Nat.beq i 0 with
    | true =>
      obtain rfl : i = 0 := Nat.eq_of_beq_eq_true h0
      cases t with
      | leaf => rfl
      | node l v r => cases v <;> rfl
    | false =>
      have hi : i ≠ 0 := fun e => by subst e; cases h0
      simp only
      cases h1 : Nat.beq (i % 2) 1 with
      | true =>
        cases t with
        | leaf => rfl
        | node l v r =>
          show (paOf f (i / 2)).get l = _
          rw [ih _ _ (by omega)]
          simp only [Env.get, Tr.get, h0, h1]
      | false =>
        cases t with
        | leaf => rfl
        | node l v r =>
          show (paOf f (i / 2 - 1)).get r = _
          rw [ih _ _ (by omega)]
          simp only [Env.get, Tr.get, h0, h1]

theorem tr_leaf {α : Type} (j : Nat) : Tr.get (Tr.leaf : Tr α) j = none := rfl

theorem pa_put : ∀ (f i : Nat) (x : V) (t : Env) (j : Nat), i ≤ f → Tr.get ((paOf f i).put x t) j = if j = i then some x else Tr.get t j := by
  intro f
  have zero : ∀ (x : V) (t : Env) (j : Nat), Tr.get (Pa.h.put x t) j = if j = 0 then some x else Tr.get t j := by
    intro x t j
    cases t with
    | leaf =>
      show Tr.get (Tr.node .leaf (some x) .leaf) j = _
      rw [tr_leaf]
      by_cases e : j = 0
      · subst e; rfl
      · simp only [Tr.get]
        cases h0 : Nat.beq j 0 with
        | true => exact absurd (Nat.eq_of_beq_eq_true h0) e
        | false => rw [if_neg e]; simp only; split <;> rfl
    | node l v r =>
      show Tr.get (Tr.node l (some x) r) j = _
      by_cases e : j = 0
      · subst e; rfl
      · simp only [Tr.get]
        cases h0 : Nat.beq j 0 with
        | true => exact absurd (Nat.eq_of_beq_eq_true h0) e
        | false => rw [if_neg e]
  induction f with
  | zero =>
    intro i x t j h
    obtain rfl : i = 0 := by omega
    exact zero x t j
  | succ f ih =>
    intro i x t j h
    simp only [paOf]
    cases h0 : Nat.beq i 0 with
    | true =>
      obtain rfl : i = 0 := Nat.eq_of_beq_eq_true h0
      exact zero x t j
    | false =>
      have hi : i ≠ 0 := fun e => by subst e; cases h0
      simp only
      have nodeL : ∀ (l r : Env) (v : Option V), i % 2 = 1 → Tr.get (Tr.node ((paOf f (i / 2)).put x l) v r) j = if j = i then some x else Tr.get (Tr.node l v r) j := by
        intro l r v hm
        simp only [Tr.get]
        cases hj : Nat.beq j 0 with
        | true =>
          obtain rfl : j = 0 := Nat.eq_of_beq_eq_true hj
          rw [if_neg (by omega)]
        | false =>
          have hj0 : j ≠ 0 := fun e => by subst e; cases hj
          simp only
          cases hk : Nat.beq (j % 2) 1 with
          | true =>
            have hk' : j % 2 = 1 := Nat.eq_of_beq_eq_true hk
            simp only
            rw [ih _ _ _ _ (by omega)]
            by_cases e : j = i
            · subst e; simp
            · rw [if_neg e, if_neg (by omega)]
          | false =>
            have hk' : j % 2 ≠ 1 := Nat.ne_of_beq_eq_false hk
            simp only
            rw [if_neg (fun e => hk' (by rw [e]; exact hm))]
      have nodeR : ∀ (l r : Env) (v : Option V), i % 2 ≠ 1 → Tr.get (Tr.node l v ((paOf f (i / 2 - 1)).put x r)) j = if j = i then some x else Tr.get (Tr.node l v r) j := by
        intro l r v hm
        simp only [Tr.get]
        cases hj : Nat.beq j 0 with
        | true =>
          obtain rfl : j = 0 := Nat.eq_of_beq_eq_true hj
          rw [if_neg (by omega)]
        | false =>
          have hj0 : j ≠ 0 := fun e => by subst e; cases hj
          simp only
          cases hk : Nat.beq (j % 2) 1 with
          | true =>
            have hk' : j % 2 = 1 := Nat.eq_of_beq_eq_true hk
            simp only
            rw [if_neg (fun e => hm (by rw [← e]; exact hk'))]
          | false =>
            have hk' : j % 2 ≠ 1 := Nat.ne_of_beq_eq_false hk
            simp only
            rw [ih _ _ _ _ (by omega)]
            by_cases e : j = i
            · subst e; simp
            · rw [if_neg e, if_neg (by omega)]
      have lf : ∀ (l : Env), l = .leaf → Tr.get (Tr.node l none l) j = none := by
        intro l hl
        subst hl
        simp only [Tr.get]
        cases Nat.beq j 0 <;> simp only
        cases Nat.beq (j % 2) 1 <;> rfl
      cases h1 : Nat.beq (i % 2) 1 with
      | true =>
        have hm : i % 2 = 1 := Nat.eq_of_beq_eq_true h1
        cases t with
        | leaf =>
          show Tr.get (Tr.node ((paOf f (i / 2)).put x .leaf) none .leaf) j = _
          rw [nodeL .leaf .leaf none hm, lf _ rfl, tr_leaf]
        | node l v r => exact nodeL l r v hm
      | false =>
        have hm : i % 2 ≠ 1 := Nat.ne_of_beq_eq_false h1
        cases t with
        | leaf =>
          show Tr.get (Tr.node .leaf none ((paOf f (i / 2 - 1)).put x .leaf)) j = _
          rw [nodeR .leaf .leaf none hm, lf _ rfl, tr_leaf]
        | node l v r => exact nodeR l r v hm

theorem path_get (i : Nat) (t : Env) : (pathOf i).get t = Env.get t i := pa_get i i t (Nat.le_refl _)
theorem path_put (i : Nat) (x : V) (t : Env) (j : Nat) : Env.get ((pathOf i).put x t) j = if j = i then x else Env.get t j := by
  unfold Env.get pathOf
  rw [pa_put i i x t j (Nat.le_refl _)]
  by_cases e : j = i
  · rw [if_pos e, if_pos e]
  · rw [if_neg e, if_neg e]

/-! ## Strict building -/
theorem pa_putK {β : Type} : ∀ (p : Pa) (x : V) (t : Env) (k : Env → β), p.putK x t k = k (p.put x t) := by
  intro p
  induction p with
  | h => intro x t k; cases t <;> rfl
  | l p ih =>
    intro x t k
    cases t with
    | leaf => exact ih x .leaf _
    | node l v r => exact ih x l _
  | r p ih =>
    intro x t k
    cases t with
    | leaf => exact ih x .leaf _
    | node l v r => exact ih x r _
theorem putOK_eq {β : Type} (d : Option Pa) (x : V) (t : Env) (k : Env → β) : putOK d x t k = k (putO d x t) := by
  cases d with
  | none => rfl
  | some p => exact pa_putK p x t k
theorem oneK_eq {α β : Type} (x : Option α) : ∀ (f i : Nat) (k : Tr α → β), oneK x f i k = k (Tr.one x f i) := by
  intro f
  induction f with
  | zero => intro i k; rfl
  | succ f ih =>
    intro i k
    show Bool.rec (motive := fun _ => β) (Bool.rec (motive := fun _ => β) (oneK x f (Nat.sub (Nat.div i 2) 1) (fun r' => k (.node .leaf none r'))) (oneK x f (Nat.div i 2) (fun l' => k (.node l' none .leaf))) (Nat.beq (Nat.mod i 2) 1)) (k (.node .leaf x .leaf)) (Nat.beq i 0) = _
    rw [ih, ih]
    simp only [Tr.one]
    cases h0 : Nat.beq i 0 with
    | true => rfl
    | false =>
      show Bool.rec (motive := fun _ => β) _ _ (Nat.beq (i % 2) 1) = k (match Nat.beq (i % 2) 1 with | true => _ | false => _)
      cases Nat.beq (i % 2) 1 <;> rfl
theorem putK_eq {α β : Type} (x : Option α) : ∀ (t : Tr α) (i : Nat) (k : Tr α → β), putK x t i k = k (Tr.put x t i) := by
  intro t
  induction t with
  | leaf => intro i k; exact oneK_eq x i i k
  | node l v r ihl ihr =>
    intro i k
    show Bool.rec (motive := fun _ => β) (Bool.rec (motive := fun _ => β) (putK x r (Nat.sub (Nat.div i 2) 1) (fun r' => k (.node l v r'))) (putK x l (Nat.div i 2) (fun l' => k (.node l' v r))) (Nat.beq (Nat.mod i 2) 1)) (k (.node l x r)) (Nat.beq i 0) = _
    rw [ihl, ihr]
    simp only [Tr.put]
    cases h0 : Nat.beq i 0 with
    | true => rfl
    | false =>
      show Bool.rec (motive := fun _ => β) _ _ (Nat.beq (i % 2) 1) = k (match Nat.beq (i % 2) 1 with | true => _ | false => _)
      cases Nat.beq (i % 2) 1 <;> rfl
theorem forceL_eq {α β : Type} : ∀ (l : List α) (k : List α → β), forceL l k = k l
  | [], _ => rfl
  | x :: r, k => forceL_eq r (fun r' => k (x :: r'))
theorem forceN_eq {β : Type} (n : Nat) (k : Nat → β) : forceN n k = k n := by cases n <;> rfl
theorem forceBk_eq {β : Type} (o : Option Blk) (k : Option Blk → β) : forceBk o k = k o := by
  cases o with
  | none => rfl
  | some b =>
    cases b with
    | cells f fb fz xs => exact forceL_eq xs _
    | iter l p => rfl
    | mapo es c => rfl
theorem forceT_eq {α β : Type} {fv : Option α → (Option α → β) → β} (hf : ∀ v k, fv v k = k v) : ∀ (t : Tr α) (i : Nat) (k : Tr α → β), forceT fv t i k = k t := by
  intro t
  induction t with
  | leaf => intro i k; rfl
  | node l v r ihl ihr =>
    intro i k
    show Bool.rec (motive := fun _ => β) (Bool.rec (motive := fun _ => β) (forceT fv r (Nat.sub (Nat.div i 2) 1) (fun r' => k (.node l v r'))) (forceT fv l (Nat.div i 2) (fun l' => k (.node l' v r))) (Nat.beq (Nat.mod i 2) 1)) (fv v (fun v' => k (.node l v' r))) (Nat.beq i 0) = _
    rw [ihl, ihr, hf]
    cases Nat.beq i 0 <;> simp only
    cases Nat.beq (Nat.mod i 2) 1 <;> rfl
theorem forceA_eq {α β : Type} {fv : Option α → (Option α → β) → β} (hf : ∀ v k, fv v k = k v) : ∀ (t : Tr α) (k : Tr α → β), forceA fv t k = k t := by
  intro t
  induction t with
  | leaf => intro k; rfl
  | node l v r ihl ihr =>
    intro k
    show forceA fv l (fun l' => fv v (fun v' => forceA fv r (fun r' => k (.node l' v' r')))) = _
    rw [ihl, hf, ihr]
theorem forceTs_eq {α β : Type} {fv : Option α → (Option α → β) → β} (hf : ∀ v k, fv v k = k v) : ∀ (is : List Nat) (t : Tr α) (k : Tr α → β), forceTs fv is t k = k t
  | [], _, _ => rfl
  | i :: is, t, k => by
    show forceT fv t i (fun t' => forceTs fv is t' k) = _
    rw [forceT_eq hf, forceTs_eq hf is t k]
theorem forceH_eq {β : Type} (h : Hp) (ts fs es : List Nat) (k : Hp → β) : forceH h ts fs es k = k h := by
  cases h with
  | mk n t f e =>
    show forceTs forceBk ts t (fun t' => forceTs forceId fs f (fun f' => forceTs forceId es e (fun e' => forceN n (fun n' => k ⟨n', t', f', e'⟩)))) = _
    rw [forceTs_eq forceBk_eq, forceTs_eq (fv := forceId) (fun _ _ => rfl), forceTs_eq (fv := forceId) (fun _ _ => rfl), forceN_eq]
theorem forceHA_eq {β : Type} (h : Hp) (k : Hp → β) : forceHA h k = k h := by
  cases h with
  | mk n t f e =>
    show forceA forceBk t (fun t' => forceA forceId f (fun f' => forceA forceId e (fun e' => forceN n (fun n' => k ⟨n', t', f', e'⟩)))) = _
    rw [forceA_eq forceBk_eq, forceA_eq (fv := forceId) (fun _ _ => rfl), forceA_eq (fv := forceId) (fun _ _ => rfl), forceN_eq]
theorem newK_eq (h : Hp) (cs : List V) (T : Nat) : newK h cs T = .w (.ptr h.next 0) ((h.new cs).withEl h.next (2 * T + 1)) := by
  cases h with
  | mk n t f e =>
    show forceL cs (fun cs' => forceN n (fun n' => putK (some (.cells n' 0 0 cs')) t n' (fun t' => putK (some [(n', lenF cs')]) f n' (fun f' => putK (some (2 * T + 1)) e n' (fun e' => OR.w (.ptr n' 0) ⟨n' + 1, t', f', e'⟩))))) = _
    rw [forceL_eq, forceN_eq, putK_eq, putK_eq, putK_eq, lenF_eq]
    rfl
theorem newS_eq (h : Hp) (cs : List V) (len sz : Nat) : newS h cs len sz = .w (.sl h.next 0 len sz) (h.new cs) := by
  cases h with
  | mk n t f e =>
    show forceL cs (fun cs' => forceN n (fun n' => putK (some (.cells n' 0 0 cs')) t n' (fun t' => putK (some [(n', lenF cs')]) f n' (fun f' => OR.w (.sl n' 0 len sz) ⟨Nat.add n' 1, t', f', e⟩)))) = _
    rw [forceL_eq, forceN_eq, putK_eq, putK_eq, lenF_eq]
    rfl
theorem appF_eq {α : Type} : ∀ (l m : List α), appF l m = l ++ m
  | [], _ => rfl
  | x :: l, m => congrArg (x :: ·) (appF_eq l m)
theorem allOne_eq : ∀ (l : List V), allOne l = l.all V.one
  | [] => rfl
  | x :: l => by
    show Bool.rec (motive := fun _ => Bool) false (allOne l) x.one = _
    rw [allOne_eq l, List.all_cons]
    cases x.one <;> rfl
theorem put_same {α : Type} {x : α} : ∀ (t : Tr α) (i : Nat), t.get i = some x → t.put (some x) i = t := by
  intro t
  induction t with
  | leaf => intro i h; cases h
  | node l v r ihl ihr =>
    intro i h
    simp only [Tr.get] at h
    simp only [Tr.put]
    cases h0 : Nat.beq i 0 with
    | true => rw [h0] at h; simp only at h; subst h; rfl
    | false =>
      rw [h0] at h
      simp only at h ⊢
      cases h1 : Nat.beq (i % 2) 1 with
      | true => rw [h1] at h; simp only at h ⊢; rw [ihl _ h]
      | false => rw [h1] at h; simp only at h ⊢; rw [ihr _ h]

/-! ## Slots and places -/

theorem firstAt_get (s : Nat) : ∀ (ds : List (Option Nat)) (i : Nat), firstAt s ds = some i → ds[i]? = some (some s) := by
  intro ds
  induction ds with
  | nil => intro i h; cases h
  | cons d ds ih =>
    intro i h
    cases d with
    | none =>
      simp only [firstAt] at h
      split at h
      · rename_i j hj; simp only [Option.some.injEq] at h; subst h; simpa using ih j hj
      · cases h
    | some d =>
      simp only [firstAt] at h
      split at h
      · rename_i hb
        simp only [Option.some.injEq] at h; subst h
        rw [Nat.eq_of_beq_eq_true hb]; rfl
      · split at h
        · rename_i j hj; simp only [Option.some.injEq] at h; subst h; simpa using ih j hj
        · cases h

theorem slot_get {NL : List Nat} {s k : Nat} (h : slotOf NL s = some k) : NL[k]? = some s := by
  have := firstAt_get s _ _ h
  simpa using this

def EqN (NL : List Nat) (t e : Env) : Prop := ∀ s k, slotOf NL s = some k → Tr.get t k = Tr.get e s
theorem EqN.at {NL : List Nat} {t e : Env} (h : EqN NL t e) {s k : Nat} (hk : slotOf NL s = some k) : Env.get t k = Env.get e s := by unfold Env.get; rw [h s k hk]
def RelSt (ds : List (Option Nat)) (st : List V) (e : Env) : Prop := ∀ s i, firstAt s ds = some i → st.getD i (.tup []) = Env.get e s

theorem RelSt.nil (e : Env) : RelSt [] [] e := fun s i h => by cases h
theorem RelSt.push {ds : List (Option Nat)} {st : List V} {e : Env} (h : RelSt ds st e) (d : Option Nat) (v : V) : RelSt (d :: ds) (v :: st) (Env.put e d v) := by
  intro s i hi
  cases d with
  | none =>
    simp only [firstAt] at hi
    split at hi
    · rename_i j hj
      simp only [Option.some.injEq] at hi; subst hi
      simpa [Env.put] using h s j hj
    · cases hi
  | some d =>
    simp only [firstAt] at hi
    split at hi
    · rename_i hb
      simp only [Option.some.injEq] at hi; subst hi
      rw [env_get_put, if_pos (Nat.eq_of_beq_eq_true hb).symm]; rfl
    · rename_i hb
      split at hi
      · rename_i j hj
        simp only [Option.some.injEq] at hi; subst hi
        rw [env_get_put, if_neg (fun e => by rw [e] at hb; simp at hb)]
        simpa using h s j hj
      · cases hi

theorem EqN.put {NL : List Nat} {t e : Env} (h : EqN NL t e) (d : Option Nat) (v : V) : EqN NL (putO (decD NL d) v t) (Env.put e d v) := by
  intro s k hk
  cases d with
  | none => exact h s k hk
  | some d =>
    show _ = Tr.get (Tr.put (some v) e d) s
    rw [Tr.get_put]
    cases hd : slotOf NL d with
    | none =>
      have e0 : decD NL (some d) = none := by simp only [decD, hd]
      rw [e0, if_neg (fun e => by rw [e, hd] at hk; cases hk)]
      exact h s k hk
    | some k' =>
      have e0 : decD NL (some d) = some (pathOf k') := by simp only [decD, hd]
      rw [e0]
      show Tr.get ((pathOf k').put v t) k = _
      unfold pathOf
      rw [pa_put _ _ _ _ _ (Nat.le_refl _)]
      by_cases e : s = d
      · subst e
        rw [hd] at hk; simp only [Option.some.injEq] at hk; subst hk
        rw [if_pos rfl, if_pos rfl]
      · rw [if_neg (fun e2 => ?_), if_neg e]
        · exact h s k hk
        · subst e2
          have h1 := slot_get hk
          have h2 := slot_get hd
          rw [h1] at h2
          exact e (Option.some.inj h2)

theorem decA_ok {NL : List Nat} {ds : List (Option Nat)} {st : List V} {t e : Env} (hs : RelSt ds st e) (hn : EqN NL t e) : ∀ x a, decA NL ds x = some a → rdE e x = some (a.get st t) := by
  intro x a h
  cases x with
  | tmp s =>
    simp only [decA] at h
    split at h
    · rename_i i hi
      simp only [Option.some.injEq] at h; subst h
      show some (Env.get e s) = some ((ixOf i).get st)
      rw [ix_get, hs s i hi]
    · split at h
      · rename_i k hk
        simp only [Option.some.injEq] at h; subst h
        show some (Env.get e s) = some ((pathOf k).get t)
        rw [path_get, hn.at hk]
      · cases h
  | _ =>
    simp only [decA] at h
    split at h
    · rename_i v hv
      simp only [Option.some.injEq] at h; subst h
      exact hv
    · cases h

/-! ## What is seen of a value -/

theorem asN_inv {v : V} {k : IntKind} {n : Nat} (h : asN v = .mk k n) : v = .int k (Int.ofNat n) := by
  cases v with
  | int k' z => cases z with
    | ofNat m => cases h; rfl
    | negSucc m => cases h
  | _ => cases h
theorem asS_inv {v : V} {l : List UInt8} (h : asS v = .mk l) : v = .str l := by cases v <;> cases h; rfl
theorem asL_inv {v : V} {b o n z : Nat} (h : asL v = .mk b o n z) : v = .sl b o n z := by cases v <;> cases h; rfl
theorem asC_inv {v : V} {cs : List V} (h : asC v = .mk cs) : v = .agg cs := by cases v <;> cases h; rfl
theorem asP_p {v : V} {a o : Nat} (h : asP v = .p a o) : v = .ptr a o := by cases v <;> cases h; rfl
theorem asP_g {v : V} {a o : Nat} (h : asP v = .g a o) : v = .gp a o := by cases v <;> cases h; rfl

theorem knum_inj {k k' : IntKind} (h : Nat.beq (knum k) (knum k') = true) : k = k' := by
  cases k <;> cases k' <;> first | rfl | cases h

theorem kmax_bits (k : IntKind) : kmax k < 2 ^ k.bits := by cases k <;> simp [kmax, IntKind.bits]
theorem kbits_eq (k : IntKind) : kbits k = k.bits := by cases k <;> rfl

theorem wrap_held {k : IntKind} {n : Nat} (h : n ≤ kmax k) : k.wrap (Int.ofNat n) = Int.ofNat n := by
  have h1 : ((Int.ofNat n) % (2 ^ k.bits : Int)) = Int.ofNat n := by
    have := kmax_bits k
    apply Int.emod_eq_of_lt (by simp)
    have h2 : n < 2 ^ k.bits := by omega
    have h3 : ((n : Nat) : Int) < ((2 ^ k.bits : Nat) : Int) := by exact_mod_cast h2
    simpa using h3
  unfold IntKind.wrap
  simp only [h1]
  cases k <;> simp [IntKind.signed, IntKind.bits, kmax] at h ⊢ <;> omega

def toO : OR → Option (V × Option Hp)
  | .no => none
  | .v x => some (x, none)
  | .w x h => some (x, some h)

theorem toO_oV (o : Option V) : toO (oV o) = still o := by cases o <;> rfl
theorem toO_oP (o : Option (V × Option Hp)) : toO (oP o) = o := by
  cases o with
  | none => rfl
  | some p => obtain ⟨x, k⟩ := p; cases k <;> rfl

theorem toO_oPF (o : Option (V × Option Hp)) (ts fs es : List Nat) : toO (oPF o ts fs es) = o := by
  cases o with
  | none => rfl
  | some p =>
    obtain ⟨x, k⟩ := p
    cases k with
    | none => rfl
    | some h =>
      show toO (forceH h ts fs es (fun h' => .w x h')) = _
      rw [forceH_eq]; rfl

theorem held_toO (k : IntKind) (n : Nat) (s : OR) : held k n s = s ∨ (n ≤ kmax k ∧ held k n s = .v (.int k (Int.ofNat n))) := by
  unfold held
  cases h : Nat.ble n (kmax k) with
  | false => exact .inl rfl
  | true => exact .inr ⟨Nat.le_of_ble_eq_true h, rfl⟩

theorem onNN_cases (f : IntKind → Nat → Nat → OR → OR) (s : OR) (a b : V) : onNN f s a b = s ∨ ∃ k m n, a = .int k (Int.ofNat m) ∧ b = .int k (Int.ofNat n) ∧ onNN f s a b = f k m n s := by
  unfold onNN
  cases ha : asN a with
  | no => exact .inl rfl
  | mk k m =>
    cases hb : asN b with
    | no => exact .inl rfl
    | mk k' n =>
      cases hk : Nat.beq (knum k) (knum k') with
      | false => left; simp only [hk]
      | true =>
        have e := knum_inj hk; subst e
        exact .inr ⟨k, m, n, asN_inv ha, asN_inv hb, by simp only [hk]⟩

theorem onMM_cases (f : IntKind → Nat → Nat → OR → OR) (s : OR) (a b : V) : onMM f s a b = s ∨ ∃ k k' m n, a = .int k (Int.ofNat m) ∧ b = .int k' (Int.ofNat n) ∧ onMM f s a b = f k m n s := by
  unfold onMM
  cases ha : asN a with
  | no => exact .inl rfl
  | mk k m =>
    cases hb : asN b with
    | no => exact .inl rfl
    | mk k' n => exact .inr ⟨k, k', m, n, asN_inv ha, asN_inv hb, rfl⟩

theorem onSS_cases (f : List UInt8 → List UInt8 → OR) (s : OR) (a b : V) : onSS f s a b = s ∨ ∃ l m, a = .str l ∧ b = .str m ∧ onSS f s a b = f l m := by
  unfold onSS
  cases ha : asS a with
  | no => exact .inl rfl
  | mk l =>
    cases hb : asS b with
    | no => exact .inl rfl
    | mk m => exact .inr ⟨l, m, asS_inv ha, asS_inv hb, rfl⟩

theorem beqS_eq : ∀ (l m : List UInt8), beqS l m = decide (l = m)
  | [], [] => rfl
  | [], _ :: _ => rfl
  | _ :: _, [] => rfl
  | x :: l, y :: m => by
    show Bool.rec (motive := fun _ => Bool) false (beqS l m) (Nat.beq x.toNat y.toNat) = _
    rw [beqS_eq l m]
    cases h : Nat.beq x.toNat y.toNat with
    | true =>
      have : x = y := UInt8.toNat_inj.1 (Nat.eq_of_beq_eq_true h)
      subst this; simp
    | false =>
      have : x ≠ y := fun e => by subst e; simp at h
      simp [this]

end Go.Proofs.YtbfdgdigaiimgaaDoor.HM
