/- The heap machine: a range over a map, in whatever order. -/
import Derived.Test.YtamgnggeckomkaaGreatDoorH11
import Derived.Maps.RangeRun
namespace Go.Proofs.YtamgnggeckomkaaGreatDoor.HM
open Go Go.RowKit

section
variable {Γ : Glob} {N0 : Nat} {w0 : Fr} {ρ : Ren} {h : Hp} {w : World}

/-! ## A name for a place that the machine does not hold -/
def Hp.bump (h : Hp) : Hp := ⟨h.next + 1, h.t, h.fams, h.els⟩

theorem Rel.name (H : Rel Γ N0 w0 ρ h w) {L : Loc} (hL : L.b < w.heap.size) : Rel Γ N0 w0 (setR ρ h.next L) h.bump w := by
  have he := setR_ext (ρ := ρ) (L := L) (H.fresh h.next (Nat.le_refl _))
  have hold : ∀ b M, b ≠ h.next → setR ρ h.next L b = some M → ρ b = some M := fun b M hb hM => by simpa [setR, hb] using hM
  have hlt : ∀ a x, h.t.get a = some x → a ≠ h.next := fun a x hx => by have := (H.fam.lt a x hx).1; omega
  refine ⟨H.below, H.hN0, H.glob, ?_, ?_, ?_, ?_, ?_, ?_, ?_, ?_, ?_, ?_⟩
  · intro a ha
    have ha : h.next + 1 ≤ a := ha
    simp only [setR]; rw [if_neg (by omega)]; exact H.fresh a (by omega)
  · intro a M hM
    by_cases e : a = h.next
    · subst e; simp [setR] at hM; subst hM; exact hL
    · exact H.lt a M (hold a M e hM)
  · intro a x hne hx
    have e := hlt a x hx
    exact (H.blk a x (by simpa [setR, e] using hne) hx).ext he
  · intro a b x y M M' hx hy hM hM' hne
    exact H.sep a b x y M M' hx hy (hold a M (hlt a x hx) hM) (hold b M' (hlt b y hy) hM') hne
  · intro a b f fb fz xs gb gz ys M M' hx hy hM hM' hbb
    exact H.same a b f fb fz xs gb gz ys M M' hx hy (hold a M (hlt a _ hx) hM) (hold b M' (hlt b _ hy) hM') hbb
  · exact ⟨H.fam.mem, H.fam.sorted, fun a x hx => by have := H.fam.lt a x hx; exact ⟨Nat.lt_succ_of_lt this.1, Nat.lt_succ_of_lt this.2⟩, H.fam.own⟩
  · intro a e hne hae
    have hah := H.elt a e hae
    obtain ⟨M, arr, fr, q1, q2, q3⟩ := H.elk a e (by simp only [setR] at hne; rw [if_neg (by omega)] at hne; exact hne) hae
    exact ⟨M, arr, fr, he a M q1, q2, q3⟩
  · intro a e hae; have := H.elt a e hae; exact Nat.lt_succ_of_lt this
  · exact ⟨Nat.le_succ_of_le H.old.1, fun a ha => by have := H.old.1; simp only [setR]; rw [if_neg (by omega)]; exact H.old.2 a ha⟩
  · exact ⟨H.kept.1, fun b o hb => ⟨(H.kept.2 b o hb).1, fun a x M hx hM => (H.kept.2 b o hb).2 a x M hx (hold a M (hlt a x hx) hM)⟩⟩

/-! ## A map that is left to itself -/
def Hp.forget (h : Hp) (a : Nat) : Hp := ⟨h.next, h.t.put none a, h.fams, h.els⟩

theorem forget_get (h : Hp) (a b : Nat) (x : Blk) (hx : (h.forget a).t.get b = some x) : b ≠ a ∧ h.t.get b = some x := by
  simp only [Hp.forget, Tr.get_put] at hx
  split at hx
  · cases hx
  · rename_i e; exact ⟨e, hx⟩

theorem Rel.hold (H : Rel Γ N0 w0 ρ h w) {a c : Nat} {es : List (V × V)} (ha : h.t.get a = some (.mapo es c)) {L : Loc} (hL : ρ a = some L) {o : Obj} (ho : w.heap[L.b]? = some o) :
    Rel Γ N0 ⟨w0.w, w0.K, w0.r, (L.b, o) :: w0.keep⟩ ρ (h.forget a) w := by
  have hs : ∀ b x, (h.forget a).t.get b = some x → h.t.get b = some x := fun b x hx => (forget_get h a b x hx).2
  have H1 := H.sub (h' := h.forget a) rfl hs (H.fam.sub rfl hs rfl) rfl
  refine { H1 with kept := ⟨?_, fun b q hb => ?_⟩ }
  · simp only [List.map_cons, List.nodup_cons]
    refine ⟨fun hh => ?_, H.kept.1⟩
    obtain ⟨p, hp, e⟩ := List.mem_map.1 hh
    exact (H.kept.2 p.1 p.2 hp).2 a _ L ha hL e.symm
  · rcases List.mem_cons.1 hb with hb | hb
    · simp only [Prod.mk.injEq] at hb; obtain ⟨rfl, rfl⟩ := hb
      refine ⟨ho, fun a1 x M hx hM => ?_⟩
      obtain ⟨hne, hx1⟩ := forget_get h a a1 x hx
      refine H.sep a1 a x _ M L hx1 ha hM hL ?_
      cases x with
      | cells f fb fz xs => exact H.fam.own a1 f fb fz xs a _ hx1 ha (fun _ _ _ _ hh => by cases hh)
      | iter l p => exact hne
      | mapo fs d => exact hne
    · exact H1.kept.2 b q hb

/-! ## Heaps that differ in the order of maps -/
def Loose (x z : Blk) : Prop := x = z ∨ ∃ es c fs, x = .mapo es c ∧ z = .mapo fs (2 * (c / 2) + 1) ∧ es.Perm fs

theorem Loose.cells {x : Blk} {f fb fz : Nat} {xs : List V} (h : Loose x (.cells f fb fz xs)) : x = .cells f fb fz xs := by
  rcases h with h | ⟨_, _, _, _, h, _⟩
  · exact h
  · cases h
theorem Loose.fam {x z : Blk} (h : Loose x z) (a : Nat) : famOf a x = famOf a z := by
  rcases h with rfl | ⟨_, _, _, rfl, rfl, _⟩ <;> rfl
theorem Loose.blk {x z : Blk} (h : Loose x z) {a : Nat} (hx : BlkR ρ N0 w a x) : BlkR ρ N0 w a z := by
  rcases h with rfl | ⟨es, c, fs, rfl, rfl, hp⟩
  · exact hx
  · obtain ⟨L, h1, h2, arr, es0, k1, kb, kp, kq, k2, k3⟩ := hx.ex
    have e : (2 * (c / 2) + 1) / 2 = c / 2 := by omega
    exact ⟨L, h1, h2, arr, es0, by rw [e]; exact k1, by rw [e]; exact kb, fun hh => by omega, kq.trans hp, k2, k3⟩

theorem Rel.loosen (H : Rel Γ N0 w0 ρ h w) {h' : Hp} (hn : h'.next = h.next) (hs : ∀ a z, h'.t.get a = some z → ∃ x, h.t.get a = some x ∧ Loose x z) (hf : h'.fams = h.fams) (hel : h'.els = h.els) : Rel Γ N0 w0 ρ h' w where
  below := H.below
  hN0 := H.hN0
  glob := H.glob
  fresh := fun a ha => H.fresh a (by rw [hn] at ha; exact ha)
  lt := H.lt
  blk := fun a z hne hz => by obtain ⟨x, hx, hl⟩ := hs a z hz; exact hl.blk (H.blk a x hne hx)
  sep := fun a b x y L M hx hy hL hM hne => by
    obtain ⟨x1, hx1, l1⟩ := hs a x hx
    obtain ⟨y1, hy1, l2⟩ := hs b y hy
    exact H.sep a b x1 y1 L M hx1 hy1 hL hM (by rw [l1.fam, l2.fam]; exact hne)
  same := fun a b f fb fz xs gb gz ys L M hx hy hL hM hbb => by
    obtain ⟨x1, hx1, l1⟩ := hs a _ hx
    obtain ⟨y1, hy1, l2⟩ := hs b _ hy
    obtain rfl := l1.cells
    obtain rfl := l2.cells
    exact H.same a b f fb fz xs gb gz ys L M hx1 hy1 hL hM hbb
  fam := {
    mem := fun a f fb fz xs ha => by obtain ⟨x1, hx1, l1⟩ := hs a _ ha; obtain rfl := l1.cells; rw [hf]; exact H.fam.mem a f fb fz xs hx1
    sorted := fun f l hl => H.fam.sorted f l (by rw [← hf]; exact hl)
    lt := fun a x ha => by obtain ⟨x1, hx1, l1⟩ := hs a _ ha; rw [hn, ← l1.fam]; exact H.fam.lt a x1 hx1
    own := fun a f fb fz xs b x ha hb hx => by
      obtain ⟨x1, hx1, l1⟩ := hs a _ ha
      obtain rfl := l1.cells
      obtain ⟨y1, hy1, l2⟩ := hs b _ hb
      refine H.fam.own a f fb fz xs b y1 hx1 hy1 fun f' fb' fz' xs' e => ?_
      subst e
      rcases l2 with l2 | ⟨_, _, _, l2, _⟩
      · exact hx _ _ _ _ l2.symm
      · cases l2 }
  elk := fun a e hne hae => H.elk a e hne (by rw [← hel]; exact hae)
  elt := fun a e hae => by rw [hn]; exact H.elt a e (by rw [← hel]; exact hae)
  old := ⟨by rw [hn]; exact H.old.1, H.old.2⟩
  kept := ⟨H.kept.1, fun b o hb => ⟨(H.kept.2 b o hb).1, fun a z L hz hL => by obtain ⟨x, hx, _⟩ := hs a z hz; exact (H.kept.2 b o hb).2 a x L hx hL⟩⟩

def rmv (p : V × V) : List (V × V) → Option (List (V × V))
  | [] => none
  | q :: r => match p.1.same q.1 && p.2.same q.2 with
    | true => some r
    | false => match rmv p r with
      | some l => some (q :: l)
      | none => none
theorem rmv_perm {p : V × V} : ∀ {l m : List (V × V)}, rmv p l = some m → l.Perm (p :: m)
  | [], m, h => by cases h
  | q :: r, m, h => by
    unfold rmv at h
    split at h
    · rename_i hs
      simp only [Bool.and_eq_true] at hs
      simp only [Option.some.injEq] at h; subst h
      rw [show p = q from Prod.ext (V.same_eq _ _ hs.1) (V.same_eq _ _ hs.2)]
    · split at h
      · rename_i l hl
        simp only [Option.some.injEq] at h; subst h
        exact ((rmv_perm hl).cons q).trans (List.Perm.swap p q l)
      · cases h
def permB : List (V × V) → List (V × V) → Bool
  | [], l => l.isEmpty
  | p :: r, l => match rmv p l with
    | some m => permB r m
    | none => false
theorem permB_perm : ∀ {a b : List (V × V)}, permB a b = true → a.Perm b
  | [], b, h => by cases b with
    | nil => exact .refl _
    | cons => cases h
  | p :: r, b, h => by
    unfold permB at h
    split at h
    · rename_i m hm
      exact ((permB_perm h).cons p).trans (rmv_perm hm).symm
    · cases h

def mrg (x y : Blk) : Option Blk := match x.same y with
  | true => some x
  | false => match x, y with
    | .mapo es c, .mapo fs d => match Nat.beq (c / 2) (d / 2) && permB fs es with
      | true => some (.mapo es (2 * (c / 2) + 1))
      | false => none
    | _, _ => none
theorem mrg_loose {x y z : Blk} (h : mrg x y = some z) : Loose x z ∧ Loose y z := by
  unfold mrg at h
  split at h
  · rename_i hs
    simp only [Option.some.injEq] at h; subst h
    rw [← Blk.same_eq _ _ hs]; exact ⟨.inl rfl, .inl rfl⟩
  · split at h
    · rename_i es c fs d _
      split at h
      · rename_i hc
        simp only [Bool.and_eq_true, nbq] at hc
        simp only [Option.some.injEq] at h; subst h
        exact ⟨.inr ⟨es, c, es, rfl, rfl, .refl _⟩, .inr ⟨fs, d, es, rfl, by rw [hc.1], permB_perm hc.2⟩⟩
      · cases h
    · cases h

def Tr.meetM {α : Type} (f : α → α → Option α) : Tr α → Tr α → Tr α
  | .leaf, _ => .leaf
  | .node l v r, t => match t with
    | .leaf => .leaf
    | .node l' v' r' => .node (Tr.meetM f l l') (match v, v' with
      | some x, some y => f x y
      | _, _ => none) (Tr.meetM f r r')
theorem Tr.get_meetM {α : Type} {f : α → α → Option α} : ∀ (t u : Tr α) (i : Nat) (z : α), (t.meetM f u).get i = some z → ∃ x y, t.get i = some x ∧ u.get i = some y ∧ f x y = some z := by
  intro t
  induction t with
  | leaf => intro u i x h; simp [Tr.meetM, Tr.get] at h
  | node l v r ih1 ih2 =>
    intro u i x h
    cases u with
    | leaf => simp [Tr.meetM, Tr.get] at h
    | node l' v' r' =>
      simp only [Tr.meetM, Tr.get] at h ⊢
      cases hi : Nat.beq i 0
      · rw [hi] at h
        simp only at h ⊢
        cases h2 : Nat.beq (i % 2) 1
        · rw [h2] at h; exact ih2 _ _ _ h
        · rw [h2] at h; exact ih1 _ _ _ h
      · rw [hi] at h
        simp only at h ⊢
        split at h
        · exact ⟨_, _, rfl, rfl, h⟩
        · cases h

def Hp.joinM (h1 h2 : Hp) : Option Hp :=
  match (Nat.beq h1.next h2.next && Tr.eqT sameEnds h1.fams h2.fams) && Tr.eqT Nat.beq h1.els h2.els with
  | true => some ⟨h1.next, h1.t.meetM mrg h2.t, h1.fams, h1.els⟩
  | false => none
theorem Hp.joinM_left {h1 h2 h' : Hp} (hj : h1.joinM h2 = some h') (H : Rel Γ N0 w0 ρ h1 w) : Rel Γ N0 w0 ρ h' w := by
  unfold Hp.joinM at hj
  split at hj
  · simp only [Option.some.injEq] at hj; subst hj
    exact H.loosen rfl (fun a z hz => by obtain ⟨x, y, h1, h2, h3⟩ := Tr.get_meetM _ _ _ _ hz; exact ⟨x, h1, (mrg_loose h3).1⟩) rfl rfl
  · cases hj
theorem Hp.joinM_right {h1 h2 h' : Hp} (hj : h1.joinM h2 = some h') (H : Rel Γ N0 w0 ρ h2 w) : Rel Γ N0 w0 ρ h' w := by
  unfold Hp.joinM at hj
  split at hj
  · rename_i hc
    simp only [Bool.and_eq_true, nbq] at hc
    have e1 := Tr.eqT_eq sameEnds_eq _ _ hc.1.2
    have e2 := Tr.eqT_eq (fun x y h => Nat.eq_of_beq_eq_true h) _ _ hc.2
    simp only [Option.some.injEq] at hj; subst hj
    exact H.loosen hc.1.1 (fun a z hz => by obtain ⟨x, y, h1, h2, h3⟩ := Tr.get_meetM _ _ _ _ hz; exact ⟨y, h2, (mrg_loose h3).2⟩) e1 e2
  · cases hj

/-! ## The loop -/
def joinE2 (a b : Option (Env × Hp)) : Option (Env × Hp) := match a, b with
  | some (e1, h1), some (e2, h2) => match h1.joinM h2 with
    | some h' => some (joinT e1 e2, h')
    | none => none
  | _, _ => none
def joinAll : List (Option (Env × Hp)) → Option (Env × Hp)
  | [] => none
  | [x] => x
  | x :: r => joinE2 x (joinAll r)

/-- what is told of each of these is told of what they have in common -/
theorem joinAll_mem : ∀ {l : List (Option (Env × Hp))} {e' : Env} {h' : Hp}, joinAll l = some (e', h') → ∀ x ∈ l, ∃ e1 h1, x = some (e1, h1) ∧
    ∀ {Γ : Glob} {N0 : Nat} {w0 : Fr} {ρ : Ren} {w : World} {tm : Array Value}, Rel Γ N0 w0 ρ h1 w → EnvR ρ e1 tm → Rel Γ N0 w0 ρ h' w ∧ EnvR ρ e' tm
  | [], e', h', h => by cases h
  | [x], e', h', h => by
    intro y hy
    simp only [List.mem_singleton] at hy; subst hy
    exact ⟨e', h', h, fun a b => ⟨a, b⟩⟩
  | x :: y :: r, e', h', h => by
    rw [joinAll] at h
    · obtain ⟨e1, h1, e2, h2, h3, rfl, hr, hj, rfl, rfl⟩ : ∃ e1 h1 e2 h2 h3, x = some (e1, h1) ∧ joinAll (y :: r) = some (e2, h2) ∧ h1.joinM h2 = some h3 ∧ e' = joinT e1 e2 ∧ h' = h3 := by
        cases x with
        | none => cases h
        | some p =>
          obtain ⟨e1, h1⟩ := p
          cases hr : joinAll (y :: r) with
          | none => rw [hr] at h; cases h
          | some q =>
            obtain ⟨e2, h2⟩ := q
            rw [hr] at h
            simp only [joinE2] at h
            split at h
            · rename_i h3 hj
              simp only [Option.some.injEq, Prod.mk.injEq] at h
              exact ⟨e1, h1, e2, h2, h3, rfl, rfl, hj, h.1.symm, h.2.symm⟩
            · cases h
      intro z hz
      rcases List.mem_cons.1 hz with rfl | hz
      · exact ⟨e1, h1, rfl, fun a b => ⟨Hp.joinM_left hj a, fun s => join_left (b s)⟩⟩
      · obtain ⟨e4, h4, k1, k2⟩ := joinAll_mem (l := y :: r) hr z hz
        refine ⟨e4, h4, k1, fun a b => ?_⟩
        obtain ⟨c, d⟩ := k2 a b
        exact ⟨Hp.joinM_right hj c, fun s => join_right (d s)⟩
    · exact fun hh => by cases hh

/-- a round for each that is left, whichever comes first -/
def mrLoop (f : V × V → Env → Hp → Option (Env × Hp)) (fin : Env → Env) : Nat → List (V × V) → Env → Hp → Option (Env × Hp)
  | _, [], e, h => some (fin e, h)
  | 0, _ :: _, _, _ => none
  | n + 1, p :: r, e, h => joinAll ((List.range (r.length + 1)).map fun i => match (p :: r)[i]? with
    | some kv => match f kv e h with
      | some (e1, h1) => mrLoop f fin n ((p :: r).eraseIdx i) e1 h1
      | none => none
    | none => none)

structure MR where
  it : Nat
  nx : Nat
  ok : Nat
  en : Nat
  b : Nat
  c : Nat
  T : TypeId
  m : Nat

/-- the iterator's place -/
def isPtr (a : Nat) (v : V) : Bool := v.same (.ptr a 0)

/-- a round: the entry, what stands behind it in its region, the rest -/
def mrRound (C : Cfg) (lim : Nat) (S : MR) (i : Nat) (ops5 : Array Oper) (tail : List Oper) (rest : Code) (kv : V × V) (e : Env) (h : Hp) : Option (Env × Hp) :=
  match runOps C ops5 tail (Env.put (Env.put (Env.put e (some S.nx) (.tup [.bool true, kv.1, kv.2])) (some S.ok) (.bool true)) (some S.en) (.tup [kv.1, kv.2])) h with
  | some (e1, h1) => match execE C lim rest e1 h1 with
    | some (.normal, e2, h2) => match isPtr i (Env.get e2 S.it) with
      | true => some (e2, h2)
      | false => none
    | some (.exit c, e2, h2) => match Nat.beq c S.c && isPtr i (Env.get e2 S.it) with
      | true => some (e2, h2)
      | false => none
    | _ => none
  | none => none

def mrFin (S : MR) (e : Env) : Env := Env.put (Env.put e (some S.nx) (.tup [.bool false])) (some S.ok) (.bool false)

def mrShape (o1 o4 o5 oe : Oper) (b b' c : Nat) (okc : Operand) : Option MR := match o1, o4, o5, oe, okc with
  | ⟨some it, .range T (.tmp m), _, _, _, none⟩, ⟨some nx, .next (.tmp it') false, _, _, _, none⟩, ⟨some ok, .extract (.tmp nx') 0, _, _, _, none⟩, ⟨some en, .entry (.tmp it''), _, _, _, none⟩, .tmp ok' =>
    match (Nat.beq it it' && Nat.beq it it'') && (Nat.beq nx nx' && (Nat.beq ok ok' && (Nat.beq b b' && (!(Nat.beq it nx) && (!(Nat.beq it ok) && (!(Nat.beq it en) && !(Nat.beq nx ok))))))) with
    | true => some ⟨it, nx, ok, en, b, c, T, m⟩
    | false => none
  | _, _, _, _, _ => none

/-- the whole loop -/
def mapRangeE (C : Cfg) (lim : Nat) (x : Code) (e : Env) (h : Hp) : Option (Env × Hp) := match x with
  | .seq (.region _ ops3 false) (.block b (.loop (.seq (.region _ ops4 false) (.seq (.cond okc .skip (.exit b')) (.block c (.seq (.region _ ops5 false) rest)))))) =>
    match ops3.toList, ops4.toList, ops5.toList with
    | [o0, o1], [o4, o5], oe :: tail => match mrShape o1 o4 o5 oe b b' c okc with
      | some S => match runOps C ops3 [o0] e h with
        | some (e1, h1) => match Env.get e1 S.m, C.P.underlying S.T with
          | .mp a, some (.map _ _) => match h1.t.get a with
            | some (.mapo es _) => mrLoop (mrRound C lim S h1.next ops5 tail rest) (mrFin S) es.length es (Env.put e1 (some S.it) (.ptr h1.next 0)) (h1.forget a).bump
            | _ => none
          | _, _ => none
        | none => none
      | none => none
    | _, _, _ => none
  | _ => none
end

section
variable {C : Cfg} {N0 : Nat} {w0 : Fr}

theorem step_value {P : Program} {r : Option Nat} {m : Nat} {ops : Array Oper} {Q : Exit → Act → World → Prop} {a : Act} {w w' : World} {rest : List Oper} {o : Oper} {u : Value} (hg : o.guard = none) (hnd : notDefer o.op = true)
    (hr : (execOp a.eval o).run P w = .ok (.value u) w') (h : wpListIn (FW r) m P ops Q rest (a.put o.dst u) w') : wpListIn (FW r) m P ops Q (o :: rest) a w :=
  wpListIn_plain hg fun K hK => wp_in hnd (by unfold Oper.wp; rw [hr, Oper.upon_value]; exact hK _ _ h)

/-- what is left, as it is told -/
def LeftR (ρ : Ren) (R : List (V × V)) (l : List MapEntry) : Prop := ∃ R0 : List (V × V), R0.Perm R ∧ R0.length = l.length ∧ ∀ (i : Nat) p e, R0[i]? = some p → l[i]? = some e → VR ρ p.1 e.key ∧ VR ρ p.2 e.val

theorem LeftR.ext {ρ ρ' : Ren} {R : List (V × V)} {l : List MapEntry} (h : LeftR ρ R l) (he : Ext ρ ρ') : LeftR ρ' R l := by
  obtain ⟨R0, h1, h2, h3⟩ := h
  exact ⟨R0, h1, h2, fun i p e hp hl => ⟨(h3 i p e hp hl).1.ext he, (h3 i p e hp hl).2.ext he⟩⟩

theorem LeftR.length {ρ : Ren} {R : List (V × V)} {l : List MapEntry} (h : LeftR ρ R l) : R.length = l.length := by
  obtain ⟨R0, h1, h2, h3⟩ := h
  rw [← h1.length_eq, h2]

theorem cons_eraseIdx_perm {α : Type} : ∀ (l : List α) (i : Nat) (x : α), l[i]? = some x → (x :: l.eraseIdx i).Perm l
  | [], i, x, h => by simp at h
  | y :: r, 0, x, h => by
    simp only [List.getElem?_cons_zero, Option.some.injEq] at h; subst h
    exact .refl _
  | y :: r, i + 1, x, h => by
    simp only [List.getElem?_cons_succ] at h
    rw [List.eraseIdx_cons_succ]
    exact (List.Perm.swap y x _).trans ((cons_eraseIdx_perm r i x h).cons y)

theorem LeftR.take {ρ : Ren} {R : List (V × V)} {l : List MapEntry} (h : LeftR ρ R l) {k : Nat} {x : MapEntry} (hx : l[k]? = some x) :
    ∃ j p, R[j]? = some p ∧ VR ρ p.1 x.key ∧ VR ρ p.2 x.val ∧ LeftR ρ (R.eraseIdx j) (l.eraseIdx k) := by
  obtain ⟨R0, h1, h2, h3⟩ := h
  have hk := (List.getElem?_eq_some_iff.1 hx).1
  have hk0 : k < R0.length := by omega
  have hp : R0[k]? = some R0[k] := List.getElem?_eq_getElem hk0
  obtain ⟨v1, v2⟩ := h3 k _ x hp hx
  have hm : R0[k] ∈ R := h1.subset (List.getElem_mem hk0)
  obtain ⟨j, hj, ej⟩ := List.getElem_of_mem hm
  refine ⟨j, R0[k], by rw [← ej]; exact List.getElem?_eq_getElem hj, v1, v2, R0.eraseIdx k, ?_, ?_, fun i p e hp hl => ?_⟩
  · have p1 := cons_eraseIdx_perm R0 k _ hp
    have p2 := cons_eraseIdx_perm R j R[j] (List.getElem?_eq_getElem hj)
    rw [ej] at p2
    exact (p1.trans (h1.trans p2.symm)).cons_inv
  · rw [List.length_eraseIdx_of_lt hk0, List.length_eraseIdx_of_lt hk, h2]
  · rw [List.getElem?_eraseIdx] at hp hl
    split at hp
    · rw [if_pos (by assumption)] at hl; exact h3 i p e hp hl
    · rw [if_neg (by assumption)] at hl; exact h3 (i + 1) p e hp hl

theorem filter_born : ∀ (l : List MapEntry) (k : Nat) (x : MapEntry), (l.map (·.born)).Nodup → l[k]? = some x → l.filter (fun y => !(y.born == x.born)) = l.eraseIdx k
  | [], k, x, _, h => by simp at h
  | y :: r, 0, x, hn, h => by
    simp only [List.getElem?_cons_zero, Option.some.injEq] at h; subst h
    simp only [List.map_cons, List.nodup_cons] at hn
    rw [List.filter_cons, List.eraseIdx_cons_zero]
    simp only [beq_self_eq_true, Bool.not_true, Bool.false_eq_true, if_false]
    rw [List.filter_eq_self]
    intro z hz
    have : z.born ≠ y.born := fun e => hn.1 (List.mem_map.2 ⟨z, hz, e⟩)
    simpa using this
  | y :: r, k + 1, x, hn, h => by
    simp only [List.getElem?_cons_succ] at h
    simp only [List.map_cons, List.nodup_cons] at hn
    have : y.born ≠ x.born := fun e => hn.1 (List.mem_map.2 ⟨x, List.mem_of_getElem? h, e.symm⟩)
    rw [List.filter_cons, List.eraseIdx_cons_succ, if_pos (by simpa using this), filter_born r k x hn.2 h]

theorem left_push (arr : Array MapEntry) (seen : Array Nat) (b : Nat) : (leftOf arr (seen.push b)).toList = (leftOf arr seen).toList.filter fun y => !(y.born == b) := by
  unfold leftOf
  simp only [Array.toList_filter, List.filter_filter]
  congr 1
  funext y
  simp only [Array.contains_push, Bool.not_or]
  rw [Bool.and_comm]

/-- what is kept while a map is ranged over -/
structure MKeep (N0 : Nat) (w0 : Fr) (l mb : Nat) (it mo : Obj) (d0 d : List Deferred) (k kk : List (Nat × Obj)) : Prop where
  marks : Marks N0 k d0 d
  sub : ∀ p ∈ k ++ w0.keep, p ∈ kk
  nodup : ((k ++ w0.keep).map (·.1)).Nodup
  itm : (l, it) ∈ kk
  mom : (mb, mo) ∈ kk
  lne : ∀ p ∈ k ++ w0.keep, p.1 ≠ l
  mne : mb ≠ l
  hN : N0 ≤ l

theorem MKeep.turn {l mb : Nat} {it mo : Obj} {d0 d : List Deferred} {k kk : List (Nat × Obj)} (h : MKeep N0 w0 l mb it mo d0 d k kk) (it' : Obj) : MKeep N0 w0 l mb it' mo d0 d k ((l, it') :: kk.filter fun p => !(p.1 == l)) where
  marks := h.marks
  sub := fun p hp => List.mem_cons_of_mem _ (List.mem_filter.2 ⟨h.sub p hp, by simpa using h.lne p hp⟩)
  nodup := h.nodup
  itm := List.mem_cons_self
  mom := List.mem_cons_of_mem _ (List.mem_filter.2 ⟨h.mom, by simpa using h.mne⟩)
  lne := h.lne
  mne := h.mne
  hN := h.hN

theorem MKeep.more {l mb : Nat} {it mo : Obj} {d0 d d' : List Deferred} {k k2 kk : List (Nat × Obj)} (h : MKeep N0 w0 l mb it mo d0 d k kk) (hm : Marks N0 k2 d d') (hn : ((k2 ++ kk).map (·.1)).Nodup) : MKeep N0 w0 l mb it mo d0 d' (k2 ++ k) (k2 ++ kk) := by
  rw [List.map_append, List.nodup_append] at hn
  have hdis : ∀ p ∈ k2, ∀ q ∈ kk, p.1 ≠ q.1 := fun p hp q hq => hn.2.2 p.1 (List.mem_map.2 ⟨p, hp, rfl⟩) q.1 (List.mem_map.2 ⟨q, hq, rfl⟩)
  have hnd : ((k2 ++ (k ++ w0.keep)).map (·.1)).Nodup := by
    rw [List.map_append, List.nodup_append]
    refine ⟨hn.1, h.nodup, fun x hx y hy => ?_⟩
    obtain ⟨p, hp, rfl⟩ := List.mem_map.1 hx
    obtain ⟨q, hq, rfl⟩ := List.mem_map.1 hy
    exact hdis p hp q (h.sub q hq)
  refine ⟨?_, ?_, ?_, List.mem_append_right _ h.itm, List.mem_append_right _ h.mom, ?_, h.mne, h.hN⟩
  · refine h.marks.trans hm ?_
    rw [← List.append_assoc, List.map_append, List.nodup_append] at hnd
    exact hnd.1
  · intro p hp
    rw [List.append_assoc] at hp
    rcases List.mem_append.1 hp with hp | hp
    · exact List.mem_append_left _ hp
    · exact List.mem_append_right _ (h.sub p hp)
  · rw [List.append_assoc]; exact hnd
  · intro p hp
    rw [List.append_assoc] at hp
    rcases List.mem_append.1 hp with hp | hp
    · exact hdis p hp _ h.itm
    · exact h.lne p hp

theorem mrLoop_nil (f : V × V → Env → Hp → Option (Env × Hp)) (fin : Env → Env) (j : Nat) (e : Env) (h : Hp) : mrLoop f fin j [] e h = some (fin e, h) := by cases j <;> rfl

theorem VR.pair {ρ : Ren} {x y : V} {u v : Value} (h : VR ρ x u) (k : VR ρ y v) : VR ρ (.tup [x, y]) (.tuple #[u, v]) := VRs.tup (.cons h (.cons k (.nil _)))
theorem VR.triple {ρ : Ren} {x y z : V} {u v t : Value} (h : VR ρ x u) (k : VR ρ y v) (l : VR ρ z t) : VR ρ (.tup [x, y, z]) (.tuple #[u, v, t]) := VRs.tup (.cons h (.cons k (.cons l (.nil _))))

theorem mrRound_inv {lim : Nat} {S : MR} {i : Nat} {ops5 : Array Oper} {tail : List Oper} {rest : Code} {kv : V × V} {e e2 : Env} {h h2 : Hp} (hr : mrRound C lim S i ops5 tail rest kv e h = some (e2, h2)) :
    ∃ e1 h1 x, runOps C ops5 tail (Env.put (Env.put (Env.put e (some S.nx) (.tup [.bool true, kv.1, kv.2])) (some S.ok) (.bool true)) (some S.en) (.tup [kv.1, kv.2])) h = some (e1, h1) ∧ execE C lim rest e1 h1 = some (x, e2, h2) ∧
      (x = .normal ∨ x = .exit S.c) ∧ Env.get e2 S.it = .ptr i 0 := by
  unfold mrRound at hr
  split at hr
  · rename_i e1 h1 h3
    split at hr
    · rename_i e3 h4 h5
      split at hr
      · rename_i hp
        simp only [Option.some.injEq, Prod.mk.injEq] at hr; obtain ⟨rfl, rfl⟩ := hr
        exact ⟨e1, h1, _, h3, h5, .inl rfl, V.same_eq _ _ hp⟩
      · cases hr
    · rename_i c e3 h4 h5
      split at hr
      · rename_i hp
        simp only [Bool.and_eq_true, nbq] at hp
        simp only [Option.some.injEq, Prod.mk.injEq] at hr; obtain ⟨rfl, rfl⟩ := hr
        exact ⟨e1, h1, _, h3, h5, .inr (by rw [hp.1]), V.same_eq _ _ hp.2⟩
      · cases hr
    · cases hr
  · cases hr

/-- the iterator's step, and what becomes of its flag -/
theorem mr_next (_hctx : CtxOk C) {n m : Nat} {S : MR} {i l : Nat} {ops4 : Array Oper} {t4 t5 : TypeId} {p4 p5 : String} {a4 a5 : Array Edge} {Q : Exit → Act → World → Prop}
    (h4 : ops4.toList = [⟨some S.nx, .next (.tmp S.it) false, t4, p4, a4, none⟩, ⟨some S.ok, .extract (.tmp S.nx) 0, t5, p5, a5, none⟩]) (hnx : S.nx < n) (hok : S.ok < n)
    {ρ : Ren} {e : Env} {h : Hp} {a : Act} {w w' : World} (he : EnvR ρ e a.tmps) (hn : a.tmps.size = n) (hi : ρ i = some ⟨l, 0, 0⟩) (hit : Env.get e S.it = .ptr i 0) {kk' : List (Nat × Obj)}
    (_H' : Rel C.Γ N0 ⟨w0.w, w0.K, w0.r, kk'⟩ ρ h w') {b : Bool} {vs : List V} {us : List Value} (hv : VRs ρ vs us) (hrun : (Instr.next (.pointer (some ⟨l, 0, none⟩)) false t4).run C.P w = .ok (.tuple (.bool b :: us).toArray) w')
    (hQ : ∀ a' : Act, EnvR ρ (Env.put (Env.put e (some S.nx) (.tup (.bool b :: vs))) (some S.ok) (.bool b)) a'.tmps → a'.tmps.size = n → a'.defers = a.defers → Q .normal a' w') : wpListIn (FW none) m C.P ops4 Q ops4.toList a w := by
  rw [h4]
  have hev : a.eval (.tmp S.it) = .pointer (some ⟨l, 0, none⟩) := by
    have := he S.it
    rw [hit] at this
    obtain ⟨L, q1, q2⟩ := this.ptr_inv
    rw [hi] at q1
    simp only [Option.some.injEq] at q1; subst q1
    exact q2
  refine step_value rfl rfl (u := .tuple (.bool b :: us).toArray) (w' := w') ?_ ?_
  · show ((do pure (Next.value (← Instr.next (a.eval (.tmp S.it)) false t4)) : Sem Next)).run C.P w = _
    rw [run_v, hev, hrun, Result.andThen_ok]
  · have he1 := he.put (d := some S.nx) (VRs.tup (us := (.bool b :: us).toArray) (VRs.cons (.bool b) hv)) (fun q hq => by simp only [Option.some.injEq] at hq; subst hq; rw [hn]; exact hnx)
    have hs1 : (a.put (some S.nx) (.tuple (.bool b :: us).toArray)).tmps.size = n := by rw [put_size]; exact hn
    have hev2 : (a.put (some S.nx) (.tuple (.bool b :: us).toArray)).eval (.tmp S.nx) = .tuple (.bool b :: us).toArray := act_put_eq (by rw [hn]; exact hnx)
    refine step_value rfl rfl (u := .bool b) (w' := w') ?_ (wpListIn_nil (hQ _ ?_ (by rw [put_size]; exact hs1) (by rw [put_defers', put_defers'])))
    · show ((do pure (Next.value (← Instr.extract ((a.put (some S.nx) (.tuple (.bool b :: us).toArray)).eval (.tmp S.nx)) 0)) : Sem Next)).run C.P w' = _
      rw [run_v, hev2]
      simp [Instr.extract]
    · exact he1.put (d := some S.ok) (.bool b) (fun q hq => by simp only [Option.some.injEq] at hq; subst hq; rw [hs1]; exact hok)

theorem mrLoop_sound (hctx : CtxOk C) (hm : C.P.follows .mixedOrders = true) {lim n m : Nat} {S : MR} {i l mb clk id4 id5 : Nat} {arr : Array MapEntry} {ops4 ops5 : Array Oper} {t4 t5 te : TypeId} {p4 p5 pe : String} {a4 a5 ae : Array Edge} {tail : List Oper} {rest : Code}
    (h4 : ops4.toList = [⟨some S.nx, .next (.tmp S.it) false, t4, p4, a4, none⟩, ⟨some S.ok, .extract (.tmp S.nx) 0, t5, p5, a5, none⟩]) (h5 : ops5.toList = ⟨some S.en, .entry (.tmp S.it), te, pe, ae, none⟩ :: tail)
    (hnx : S.nx < n) (hok : S.ok < n) (hen : S.en < n) (htl : tail.all (dstOk n) = true) (htd : ∀ o ∈ tail, notDefer o.op = true) (hrest : dstsIn n rest = true) (e1 : S.it ≠ S.nx) (e2 : S.it ≠ S.ok) (_e3 : S.it ≠ S.en) (_e4 : S.nx ≠ S.ok)
    (hborn : BornOk arr clk) {d0 : List Deferred} {Q : Exit → Act → World → Prop} :
    ∀ (j : Nat) (R : List (V × V)) (seen : Array Nat) (c0 : Nat) {k kk : List (Nat × Obj)} {ρ : Ren} {e e' : Env} {h h' : Hp} {a : Act} {w : World},
      R.length ≤ j → LeftR ρ R (leftOf arr seen).toList → clk ≤ c0 → EnvR ρ e a.tmps → Rel C.Γ N0 ⟨w0.w, w0.K, w0.r, kk⟩ ρ h w → a.tmps.size = n → ρ i = some ⟨l, 0, 0⟩ → Env.get e S.it = .ptr i 0 →
      MKeep N0 w0 l mb (.mapIter (some mb) clk seen c0) (.map arr clk) d0 a.defers k kk → mrLoop (mrRound C lim S i ops5 tail rest) (mrFin S) j R e h = some (e', h') →
      (∀ a' w' ρ' k', EnvR ρ' e' a'.tmps → Ext ρ ρ' → Rel C.Γ N0 (w0.more k') ρ' h' w' → a'.tmps.size = n → Marks N0 k' d0 a'.defers → Q .normal a' w') →
      Code.roundsIn (FW none) m C.P (.seq (.region id4 ops4 false) (.seq (.cond (.tmp S.ok) .skip (.exit S.b)) (.block S.c (.seq (.region id5 ops5 false) rest)))) (Exit.inBlock S.b Q) (j + 1) a w := by
  have hit2 : ∀ (e : Env) (x y : V), Env.get e S.it = .ptr i 0 → Env.get (Env.put (Env.put e (some S.nx) x) (some S.ok) y) S.it = .ptr i 0 := fun e x y h => by rw [env_get_put, if_neg e2, env_get_put, if_neg e1]; exact h
  -- where nothing is left
  have done : ∀ {seen : Array Nat} {c0 : Nat} {k kk : List (Nat × Obj)} {ρ : Ren} {e e' : Env} {h h' : Hp} {a : Act} {w : World} {J : Act → World → Prop},
      (leftOf arr seen).size = 0 → clk ≤ c0 → EnvR ρ e a.tmps → Rel C.Γ N0 ⟨w0.w, w0.K, w0.r, kk⟩ ρ h w → a.tmps.size = n → ρ i = some ⟨l, 0, 0⟩ → Env.get e S.it = .ptr i 0 →
      MKeep N0 w0 l mb (.mapIter (some mb) clk seen c0) (.map arr clk) d0 a.defers k kk → (Instr.next (.pointer (some ⟨l, 0, none⟩)) false t4).run C.P w = .ok (.tuple #[.bool false]) w → mrFin S e = e' → h = h' →
      (∀ a' w' ρ' k', EnvR ρ' e' a'.tmps → Ext ρ ρ' → Rel C.Γ N0 (w0.more k') ρ' h' w' → a'.tmps.size = n → Marks N0 k' d0 a'.defers → Q .normal a' w') →
      (Code.seq (.region id4 ops4 false) (.seq (.cond (.tmp S.ok) .skip (.exit S.b)) (.block S.c (.seq (.region id5 ops5 false) rest)))).wpIn (FW none) m C.P (Exit.then J (Exit.inBlock S.b Q)) a w := by
    intro seen c0 k kk ρ e e' h h' a w J hz hc he H hn hi hit K hrun hfin hh hQ
    subst hfin hh
    refine wpIn_seq (wpIn_region_list (mr_next hctx h4 hnx hok he hn hi hit H (VRs.nil _) hrun fun a1 he1 hs1 hd1 => ?_))
    refine wpIn_seq (wpIn_cond_false ?_ (wpIn_exit ?_))
    · have := he1 S.ok
      rw [env_get_put, if_pos rfl] at this
      exact this.bool_inv
    · show Exit.inBlock S.b Q (.exit S.b) a1 w
      simp only [Exit.inBlock, if_true]
      exact hQ a1 w ρ k he1 (.refl _) (Rel.keepLess (w0 := w0.more k) H K.sub K.nodup) hs1 (by rw [hd1]; exact K.marks)
  have hold : ∀ x ∈ arr.toList, x.born < clk := hborn.1
  intro j
  induction j with
  | zero =>
    intro R seen c0 k kk ρ e e' h h' a w hj hL hc he H hn hi hit K hr hQ
    obtain rfl : R = [] := List.eq_nil_of_length_eq_zero (by omega)
    have hz : (leftOf arr seen).size = 0 := by have := hL.length; simp at this; simpa using this.symm
    rw [mrLoop_nil] at hr
    simp only [Option.some.injEq, Prod.mk.injEq] at hr
    rw [roundsIn_succ]
    rcases run_next_at (P := C.P) w t4 l mb clk c0 seen arr clk (H.kept.2 l _ K.itm).1 (H.kept.2 mb _ K.mom).1 hold hc with ⟨_, hrun⟩ | ⟨x, hx, _⟩
    · exact done hz hc he H hn hi hit K hrun hr.1 hr.2 hQ
    · have : (leftOf arr seen).toList = [] := by simpa using hz
      rw [this] at hx; cases hx
  | succ j ih =>
    intro R seen c0 k kk ρ e e' h h' a w hj hL hc he H hn hi hit K hr hQ
    rw [roundsIn_succ]
    rcases run_next_at (P := C.P) w t4 l mb clk c0 seen arr clk (H.kept.2 l _ K.itm).1 (H.kept.2 mb _ K.mom).1 hold hc with ⟨hz, hrun⟩ | ⟨x, hx, w1, hw1, hrun⟩
    · obtain rfl : R = [] := List.eq_nil_of_length_eq_zero (by rw [hL.length]; simpa using hz)
      rw [mrLoop_nil] at hr
      simp only [Option.some.injEq, Prod.mk.injEq] at hr
      exact done hz hc he H hn hi hit K hrun hr.1 hr.2 hQ
    · obtain ⟨ix, hix, hx2⟩ := List.getElem_of_mem hx
      have hx3 : (leftOf arr seen).toList[ix]? = some x := by rw [← hx2]; exact List.getElem?_eq_getElem hix
      obtain ⟨jx, p, hp, v1, v2, hL2⟩ := hL.take hx3
      have hxa : x ∈ arr.toList := by
        have := hx
        unfold leftOf at this
        rw [Array.toList_filter] at this
        exact (List.mem_filter.1 this).1
      have hjx : jx < R.length := (List.getElem?_eq_some_iff.1 hp).1
      -- the run that begins with this one
      obtain ⟨e5, h5', r1, r2⟩ : ∃ e1 h1, (match mrRound C lim S i ops5 tail rest p e h with | some (e1, h1) => mrLoop (mrRound C lim S i ops5 tail rest) (mrFin S) j (R.eraseIdx jx) e1 h1 | none => none) = some (e1, h1) ∧
          ∀ {Γ : Glob} {N0 : Nat} {w0 : Fr} {ρ : Ren} {w : World} {tm : Array Value}, Rel Γ N0 w0 ρ h1 w → EnvR ρ e1 tm → Rel Γ N0 w0 ρ h' w ∧ EnvR ρ e' tm := by
        cases R with
        | nil => simp at hjx
        | cons q R =>
          simp only [mrLoop] at hr
          have hmem := joinAll_mem hr (match (q :: R)[jx]? with | some kv => (match mrRound C lim S i ops5 tail rest kv e h with | some (e1, h1) => mrLoop (mrRound C lim S i ops5 tail rest) (mrFin S) j ((q :: R).eraseIdx jx) e1 h1 | none => none) | none => none)
            (List.mem_map.2 ⟨jx, List.mem_range.2 (by simpa using hjx), rfl⟩)
          rw [hp] at hmem
          exact hmem
      split at r1
      · rename_i e6 h6 hrd
        obtain ⟨e7, h7, ex, q1, q2, q3, q4⟩ := mrRound_inv hrd
        -- the step
        have H1 : Rel C.Γ N0 ⟨w0.w, w0.K, w0.r, kk⟩ ρ h w1 := by
          rcases hw1 with rfl | rfl
          · exact H
          · exact H.drawn _
        have H2 := H1.putKept (o' := .mapIter (some mb) clk (seen.push x.born) clk) K.itm K.hN (fun _ _ _ hh => by cases hh)
        have K2 := K.turn (.mapIter (some mb) clk (seen.push x.born) clk)
        refine wpIn_seq (wpIn_region_list (mr_next hctx h4 hnx hok (b := true) (vs := [p.1, p.2]) (us := [x.key, x.val]) he hn hi hit H2 (VRs.cons v1 (VRs.cons v2 (VRs.nil _))) hrun fun a1 he1 hs1 hd1 => ?_))
        refine wpIn_seq (wpIn_cond_true ?_ (wpIn_skip ?_))
        · have := he1 S.ok
          rw [env_get_put, if_pos rfl] at this
          exact this.bool_inv
        · refine wpIn_block (wpIn_seq (wpIn_mono (Q := fun x a w => x ≠ .outgrown ∧ (x ≠ .outgrown → Exit.then (rest.wpIn (FW none) m C.P (Exit.inBlock S.c (Exit.then (Code.roundsIn (FW none) m C.P (.seq (.region id4 ops4 false) (.seq (.cond (.tmp S.ok) .skip (.exit S.b)) (.block S.c (.seq (.region id5 ops5 false) rest)))) (Exit.inBlock S.b Q) (j + 1)) (Exit.inBlock S.b Q)))) (Exit.inBlock S.c (Exit.then (Code.roundsIn (FW none) m C.P (.seq (.region id4 ops4 false) (.seq (.cond (.tmp S.ok) .skip (.exit S.b)) (.block S.c (.seq (.region id5 ops5 false) rest)))) (Exit.inBlock S.b Q) (j + 1)) (Exit.inBlock S.b Q))) x a w)) (wpIn_region_list ?_) fun x a w hh => hh.2 hh.1))
          rw [h5]
          have hit1 := hit2 e (.tup [.bool true, p.1, p.2]) (.bool true) hit
          have hev : a1.eval (.tmp S.it) = .pointer (some ⟨l, 0, none⟩) := by
            have := he1 S.it
            rw [hit1] at this
            obtain ⟨L, y1, y2⟩ := this.ptr_inv
            rw [hi] at y1
            simp only [Option.some.injEq] at y1; subst y1
            exact y2
          refine step_value rfl rfl (u := .tuple #[x.key, x.val]) (w' := w1.putObj l (.mapIter (some mb) clk (seen.push x.born) clk)) ?_ ?_
          · show ((do pure (Next.value (← Instr.entry (a1.eval (.tmp S.it)))) : Sem Next)).run C.P (w1.putObj l (.mapIter (some mb) clk (seen.push x.born) clk)) = _
            rw [run_v, hev, run_entry_at (P := C.P) _ l mb clk seen arr clk x (H2.kept.2 l _ K2.itm).1 (H2.kept.2 mb _ K2.mom).1 hxa hborn.2, Result.andThen_ok]
          · have he2 := he1.put (d := some S.en) (VR.pair v1 v2) (fun q hq => by simp only [Option.some.injEq] at hq; subst hq; rw [hs1]; exact hen)
            refine wpList_in (fun hh => ?_) _ _ _ htd (runOps_sound hctx (n := n) tail htl he2 H2 (by rw [put_size]; exact hs1) q1 ?_)
            · obtain ⟨_, _, hh, _⟩ := hh; exact hh rfl
            · refine fun a2 w2 ρ2 z1 z2 z3 z4 z5 => ⟨fun hh => (by cases hh), fun _ => ?_⟩
              show rest.wpIn _ _ _ _ _ _
              refine execE_sound hctx hm rest (.inl rfl) hrest z1 z3 z4 q2 ?_
              intro a3 w3 ρ3 k3 y1 y2 y3 y4 y5
              have key : Code.roundsIn (FW none) m C.P (.seq (.region id4 ops4 false) (.seq (.cond (.tmp S.ok) .skip (.exit S.b)) (.block S.c (.seq (.region id5 ops5 false) rest)))) (Exit.inBlock S.b Q) (j + 1) a3 w3 := by
                have hx12 := z2.trans y2
                refine ih (R.eraseIdx jx) (seen.push x.born) clk (k := k3 ++ k) (kk := k3 ++ _) (ρ := ρ3) (e := e6) (e' := e5) (h := h6) (h' := h5') ?_ ?_ (Nat.le_refl _) y1 y3 y4 (hx12 _ _ hi) q4 ?_ r1 ?_
                · rw [List.length_eraseIdx_of_lt hjx]; omega
                · rw [left_push, filter_born _ ix x ?_ hx3]
                  · exact hL2.ext hx12
                  · unfold leftOf
                    rw [Array.toList_filter]
                    exact hborn.2.sublist (List.filter_sublist.map _)
                · refine K2.more (d' := a3.defers) (d := a.defers) ?_ y3.kept.1
                  have hd : a2.defers = a.defers := by rw [z5, put_defers', hd1]
                  rw [← hd]; exact y5
                · intro a4 w4 ρ4 k4 x1 x2 x3 x4 x5
                  obtain ⟨g1, g2⟩ := r2 x3 x1
                  exact hQ a4 w4 ρ4 k4 g2 (hx12.trans x2) g1 x4 x5
              rcases q3 with rfl | rfl
              · exact key
              · show Exit.inBlock S.c _ (.exit S.c) a3 w3
                simp only [Exit.inBlock, if_true]
                exact key
      · cases r1

theorem mrShape_inv {o1 o4 o5 oe : Oper} {b b' c : Nat} {okc : Operand} {S : MR} (h : mrShape o1 o4 o5 oe b b' c okc = some S) : ∃ t1 p1 a1 t4 p4 a4 t5 p5 a5 te pe ae,
    o1 = ⟨some S.it, .range S.T (.tmp S.m), t1, p1, a1, none⟩ ∧ o4 = ⟨some S.nx, .next (.tmp S.it) false, t4, p4, a4, none⟩ ∧ o5 = ⟨some S.ok, .extract (.tmp S.nx) 0, t5, p5, a5, none⟩ ∧ oe = ⟨some S.en, .entry (.tmp S.it), te, pe, ae, none⟩ ∧
    okc = .tmp S.ok ∧ b = S.b ∧ b' = S.b ∧ c = S.c ∧ S.it ≠ S.nx ∧ S.it ≠ S.ok ∧ S.it ≠ S.en ∧ S.nx ≠ S.ok := by
  unfold mrShape at h
  split at h
  · split at h
    · rename_i hc
      simp only [Bool.and_eq_true, Bool.not_eq_true', nbq] at hc
      obtain ⟨⟨rfl, rfl⟩, rfl, rfl, rfl, n1, n2, n3, n4⟩ := hc
      simp only [Option.some.injEq] at h; subst h
      exact ⟨_, _, _, _, _, _, _, _, _, _, _, _, rfl, rfl, rfl, rfl, rfl, rfl, rfl, rfl, Nat.ne_of_beq_eq_false n1, Nat.ne_of_beq_eq_false n2, Nat.ne_of_beq_eq_false n3, Nat.ne_of_beq_eq_false n4⟩
    · cases h
  · cases h

theorem step_in (hctx : CtxOk C) {n m : Nat} {ops : Array Oper} {o : Oper} {rest : List Oper} {Q : Exit → Act → World → Prop} {ρ : Ren} {e e1 : Env} {h h1 : Hp} {a : Act} {w : World} (hd : dstOk n o = true) (hnd : notDefer o.op = true)
    (he : EnvR ρ e a.tmps) (H : Rel C.Γ N0 w0 ρ h w) (hn : a.tmps.size = n) (hr : runOps C ops [o] e h = some (e1, h1))
    (hK : ∀ (a' : Act) (w' : World) (ρ' : Ren), EnvR ρ' e1 a'.tmps → Ext ρ ρ' → Rel C.Γ N0 w0 ρ' h1 w' → a'.tmps.size = n → a'.defers = a.defers → wpListIn (FW none) m C.P ops Q rest a' w') : wpListIn (FW none) m C.P ops Q (o :: rest) a w := by
  have hdl : ∀ k, o.dst = some k → k < a.tmps.size := by rw [hn]; exact dstOk_lt hd
  have hwant := wantedE_sound (ops := ops) (o := o) (a := a) (e := e) (ρ := ρ) (fun d _ => he d)
  have go : ∀ v k, stepOp C ops e h o = some (v, k) → e1 = Env.put e o.dst v → h1 = k.getD h → wpListIn (FW none) m C.P ops Q (o :: rest) a w := by
    rintro v k hs rfl rfl
    simp only [wpListIn]
    rcases stepOp_cases hs with ⟨h1, h2⟩ | ⟨h1, h2⟩
    · rw [hwant _ h1, if_pos rfl]
      refine wp_in hnd (opVal_sound hctx H (rdE_sound he) h2 (fun u w' ρ' x1 x2 x3 => ?_))
      exact hK _ w' ρ' ((he.ext x1).put x3 hdl) x1 x2 (by rw [put_size]; exact hn) (put_defers' _ _ _)
    · simp only [Prod.mk.injEq] at h2; obtain ⟨rfl, rfl⟩ := h2
      rw [hwant _ h1]
      simp only [Bool.false_eq_true, if_false]
      exact ⟨fun _ _ => trivial, hK _ w ρ (he.put (undef_VR _) hdl) (.refl _) H (by rw [put_size]; exact hn) (put_defers' _ _ _)⟩
  simp only [runOps] at hr
  split at hr
  · rename_i v hs
    simp only [Option.some.injEq, Prod.mk.injEq] at hr
    exact go v none hs hr.1.symm hr.2.symm
  · rename_i v k hs
    simp only [Option.some.injEq, Prod.mk.injEq] at hr
    exact go v (some k) hs hr.1.symm hr.2.symm
  · cases hr

theorem leftOf_none (arr : Array MapEntry) : (leftOf arr #[]).toList = arr.toList := by
  unfold leftOf
  rw [Array.toList_filter, List.filter_eq_self]
  intro x _
  simp

theorem mapRange_sound (hctx : CtxOk C) (hm : C.P.follows .mixedOrders = true) {lim n m : Nat} {x : Code} {Q : Exit → Act → World → Prop} {ρ : Ren} {e e' : Env} {h h' : Hp} {a : Act} {w : World} (hd : dstsIn n x = true)
    (he : EnvR ρ e a.tmps) (H : Rel C.Γ N0 w0 ρ h w) (hn : a.tmps.size = n) (hr : mapRangeE C lim x e h = some (e', h')) (hk : BehindM C N0 w0 n ρ e' h' a (Q .normal)) : x.wpIn (FW none) m C.P Q a w := by
  unfold mapRangeE at hr
  split at hr
  case h_2 => cases hr
  rename_i id3 ops3 b id4 ops4 okc b' c id5 ops5 rest
  split at hr
  case h_2 => cases hr
  rename_i o0 o1 o4 o5 oe tail h3 h4 h5
  split at hr
  case h_2 => cases hr
  rename_i S hS
  obtain ⟨t1, p1, a1, t4, p4, a4, t5, p5, a5, te, pe, ae, rfl, rfl, rfl, rfl, rfl, rfl, rfl, rfl, n1, n2, n3, n4⟩ := mrShape_inv hS
  split at hr
  case h_2 => cases hr
  rename_i e1 h1 h0
  split at hr
  case h_2 => cases hr
  rename_i am tk tv hma hty
  split at hr
  case h_2 => cases hr
  rename_i es cl hes
  simp only [dstsIn, Bool.and_eq_true, h3, h4, h5, List.all_cons, List.all_nil] at hd
  obtain ⟨⟨⟨d0, dit, _⟩, nd0, _⟩, ⟨⟨dnx, dok, _⟩, _⟩, _, ⟨⟨den, dtl⟩, _, dtd⟩, drest⟩ := hd
  have lt : ∀ {d : Nat}, Nat.blt d n = true → d < n := fun h => Nat.lt_of_lt_of_le (Nat.lt_succ_self _) (Nat.le_of_ble_eq_true h)
  refine wpIn_seq (wpIn_mono (Q := fun x a w => x ≠ .outgrown ∧ (x ≠ .outgrown → Exit.then ((Code.block S.b (.loop (.seq (.region id4 ops4 false) (.seq (.cond (.tmp S.ok) .skip (.exit S.b)) (.block S.c (.seq (.region id5 ops5 false) rest)))))).wpIn (FW none) m C.P Q) Q x a w)) (wpIn_region_list ?_) fun x a w hh => hh.2 hh.1)
  rw [h3]
  refine step_in hctx d0 nd0 he H hn h0 fun a1 w1 ρ1 z1 z2 z3 z4 z5 => ?_
  -- the map, and its iterator
  have hv : VR ρ1 (.mp am) (a1.eval (.tmp S.m)) := by have := z1 S.m; rw [hma] at this; exact this
  obtain ⟨L, hL, hval⟩ : ∃ L, ρ1 am = some L ∧ a1.eval (.tmp S.m) = .map (some L.b) := by
    generalize a1.eval (.tmp S.m) = u at hv
    cases hv with | mp _ L h => exact ⟨L, h, rfl⟩
  obtain ⟨L', hL', hLN, arr, es0, hb, hborn, _, hperm, hlen, hpt⟩ := (z3.blk am _ (some_ne hL) hes).ex
  rw [hL] at hL'
  simp only [Option.some.injEq] at hL'; subst hL'
  have H1 := z3.hold hes hL hb
  have H2 := H1.allocKept (.mapIter (some L.b) (cl / 2) #[] (cl / 2))
  have H3 := H2.name (L := ⟨w1.heap.size, 0, 0⟩) (by rw [new_size]; exact Nat.lt_succ_self _)
  have hx : Ext ρ1 (setR ρ1 (h1.forget am).next ⟨w1.heap.size, 0, 0⟩) := setR_ext (H2.fresh _ (Nat.le_refl _))
  have hLlt := z3.lt am L hL
  refine step_value rfl rfl (u := .pointer (some ⟨w1.heap.size, 0, none⟩)) (w' := World.new w1 (.mapIter (some L.b) (cl / 2) #[] (cl / 2))) ?_ (wpListIn_nil ⟨fun hh => (by cases hh), fun _ => ?_⟩)
  · show ((do pure (Next.value (← Instr.range S.T (a1.eval (.tmp S.m)))) : Sem Next)).run C.P w1 = _
    rw [run_v, hval, run_range_map w1 S.T tk tv L.b arr (cl / 2) hty hb, Result.andThen_ok]
    rfl
  · show (Code.block S.b _).wpIn _ _ _ _ _ _
    have hlen2 : es.length = arr.toList.length := by rw [← hperm.length_eq, hlen]; simp
    refine wpIn_block (wpIn_loop_rounds (es.length + 1) (mrLoop_sound (w0 := w0) hctx hm (mb := L.b) (clk := cl / 2) (arr := arr) (d0 := a.defers) (l := w1.heap.size) h4 h5 (lt dnx) (lt dok) (lt den) (List.all_eq_true.2 fun o ho => List.all_eq_true.1 dtl o ho) (fun o ho => List.all_eq_true.1 dtd o ho) drest n1 n2 n3 n4 hborn
      es.length es #[] (cl / 2) (k := []) (kk := (w1.heap.size, .mapIter (some L.b) (cl / 2) #[] (cl / 2)) :: (L.b, .map arr (cl / 2)) :: w0.keep) (Nat.le_refl _) ?_ (Nat.le_refl _) ?_ H3 ?_ ?_ ?_ ?_ hr ?_))
    · rw [leftOf_none]
      exact ⟨es0, hperm, by rw [hlen]; simp, fun i p q hp hq => by
        obtain ⟨g1, g2⟩ := hpt i p q hp (by simpa using hq)
        exact ⟨g1.ext hx, g2.ext hx⟩⟩
    · refine (z1.ext hx).put ?_ (fun q hq => by simp only [Option.some.injEq] at hq; subst hq; rw [z4]; exact lt dit)
      exact .ptr _ 0 ⟨w1.heap.size, 0, 0⟩ (by simp [setR, Hp.forget])
    · rw [put_size]; exact z4
    · simp [setR, Hp.forget]
    · rw [env_get_put, if_pos rfl]
    · have hkeep : ∀ p ∈ w0.keep, p.1 < w1.heap.size := fun p hp => (Array.getElem?_eq_some_iff.1 (z3.kept.2 p.1 p.2 hp).1).1
      rw [put_defers', z5]
      exact ⟨.refl _ _ _, fun p hp => List.mem_cons_of_mem _ (List.mem_cons_of_mem _ hp), z3.kept.1, List.mem_cons_self, List.mem_cons_of_mem _ List.mem_cons_self, fun p hp => Nat.ne_of_lt (hkeep p hp), Nat.ne_of_lt hLlt, Nat.le_trans z3.hN0 z3.below.size⟩
    · intro a' w' ρ' k' x1 x2 x3 x4 x5
      exact hk a' w' ρ' k' x1 ((z2.trans hx).trans x2) x3 x4 x5

/-! ## Functions -/
def execM (C : Cfg) (lim : Nat) : Code → Env → Hp → Option (AX × Env × Hp)
  | .seq x y, e, h => match mapRangeE C lim x e h with
    | some (e', h') => execM C lim y e' h'
    | none => match execE C lim x e h with
      | some (.normal, e', h') => execM C lim y e' h'
      | r => r
  | c, e, h => execE C lim c e h

theorem execM_sound (hctx : CtxOk C) (hm : C.P.follows .mixedOrders = true) {lim n : Nat} : ∀ (c : Code) {m : Nat} {w0 : Fr} {Q : Exit → Act → World → Prop} {ρ : Ren} {e e' : Env} {h h' : Hp} {a : Act} {w : World} {x : AX}, dstsIn n c = true →
    EnvR ρ e a.tmps → Rel C.Γ N0 w0 ρ h w → a.tmps.size = n → execM C lim c e h = some (x, e', h') → BehindM C N0 w0 n ρ e' h' a (Q x.to) → c.wpIn (FW none) m C.P Q a w := by
  intro c
  induction c with
  | seq c1 c2 ih1 ih2 =>
    intro m w0 Q ρ e e' h h' a w x hd he H hn hr hk
    simp only [dstsIn, Bool.and_eq_true] at hd
    simp only [execM] at hr
    refine wpIn_seq ?_
    split at hr
    · rename_i e1 h1 hf
      refine mapRange_sound hctx hm hd.1 he H hn hf (fun a1 w1 ρ1 k1 z1 z2 z3 z4 z5 => ?_)
      exact ih2 hd.2 z1 z3 z4 hr (hk.next z2 z5)
    · split at hr
      · rename_i e1 h1 hf
        refine execE_sound hctx hm c1 (.inl rfl) hd.1 he H hn hf (fun a1 w1 ρ1 k1 z1 z2 z3 z4 z5 => ?_)
        exact ih2 hd.2 z1 z3 z4 hr (hk.next z2 z5)
      · rename_i hne
        refine execE_sound hctx hm c1 (.inl rfl) hd.1 he H hn hr (fun a1 w1 ρ1 k1 z1 z2 z3 z4 z5 => ?_)
        have := hk a1 w1 ρ1 k1 z1 z2 z3 z4 z5
        cases x with
        | normal => exact absurd hr (hne _ _)
        | exit id => exact this
        | goto l => exact this
        | ret => exact this
  | _ => intro m w0 Q ρ e e' h h' a w x hd he H hn hr hk; simp only [execM] at hr; exact execE_sound hctx hm _ (.inl rfl) hd he H hn hr hk

def callM (C : Cfg) (lim : Nat) (f : FuncId) : Spec := fun args h =>
  match C.P.funcs[f]? with
  | some fn => match fn.body with
    | some c => match Nat.ble args.length fn.ntmps && dstsIn fn.ntmps c with
      | true => match execM C lim c (enterE 0 args .leaf) h with
        | some (.normal, e, h') => match leaveE C.P C.Γ fn.results.toList e h' with
          | some v => some (v, h')
          | none => none
        | some (.ret, e, h') => match leaveE C.P C.Γ fn.results.toList e h' with
          | some v => some (v, h')
          | none => none
        | _ => none
      | false => none
    | none => none
  | none => none

theorem callM_sound (hctx : CtxOk C) (hm : C.P.follows .mixedOrders = true) (lim : Nat) (f : FuncId) : Sound C.P C.Γ f (callM C lim f) := by
  intro args h r h' hs N0 w0 ρ w us H hv
  unfold callM at hs
  split at hs
  · rename_i fn hf
    split at hs
    · rename_i c hb
      split at hs
      · rename_i hc
        simp only [Bool.and_eq_true] at hc
        have hlen := Nat.le_of_ble_eq_true hc.1
        have hl : us.size = args.length := by simpa using hv.1.symm
        have go : ∀ (x : AX) (e : Env) (h1 : Hp) (v : V), execM C lim c (enterE 0 args .leaf) h = some (x, e, h1) → (x = .normal ∨ x = .ret) → leaveE C.P C.Γ fn.results.toList e h1 = some v → v = r ∧ h1 = h' →
            Calls C.P f us w (fun e w' => ∃ ρ' v, e = .returned v ∧ Ext ρ ρ' ∧ Rel C.Γ N0 w0 ρ' h' w' ∧ VR ρ' r v) := by
          rintro x e h1 v he hx hlv ⟨rfl, rfl⟩
          refine (callsIn_fw (r := none) (m := 0)).1 (callsIn_of_wp_marks hf hb trivial ?_)
          refine execM_sound hctx hm c (n := fn.ntmps) (a := ⟨us ++ Array.replicate (fn.ntmps - us.size) undef, []⟩) hc.2 (enter_EnvR hv _) H (by simp; omega) he ?_
          intro a' w' ρ' k z1 z2 z3 z4 z5
          obtain ⟨bs, hl1, hl2, hl3⟩ := z5
          have hnn : ((k ++ w0.keep).map (·.1)).Nodup := z3.kept.1
          rw [List.map_append, List.nodup_append] at hnn
          have key := leaves_marks (w0 := w0) (R := fun e w' => ∃ ρ' v', e = .returned v' ∧ Ext ρ ρ' ∧ Rel C.Γ N0 w0 ρ' h1 w' ∧ VR ρ' v v') (fn := fn) (tm := a'.tmps) (m := 0) (fun w2 H2 => by
            obtain ⟨u, q1, q2⟩ := results_sound H2 z1 hlv
            exact ⟨u, q1, ρ', u, rfl, z2, H2, q2⟩) bs (k ++ w0.keep) z3 hl2 (fun b hb => ⟨List.mem_append_left _ (hl3 b hb).1, (hl3 b hb).2⟩) (fun p hp => ⟨List.mem_append_right _ hp, fun hh =>
              hnn.2.2 p.1 (List.mem_map.2 ⟨_, (hl3 _ hh).1, rfl⟩) p.1 (List.mem_map.2 ⟨_, hp, rfl⟩) rfl⟩) hnn.2.1
          rw [List.append_nil] at hl1
          rcases hx with rfl | rfl
          · show LeavesInM (FW none) 0 C.P fn a'.tmps _ a'.defers .returning w'
            rw [hl1]; exact key
          · show LeavesInM (FW none) 0 C.P fn a'.tmps _ a'.defers .returning w'
            rw [hl1]; exact key
        split at hs
        · rename_i e h1 he
          split at hs
          · rename_i v hlv
            simp only [Option.some.injEq, Prod.mk.injEq] at hs
            exact go _ e h1 v he (.inl rfl) hlv hs
          · cases hs
        · rename_i e h1 he
          split at hs
          · rename_i v hlv
            simp only [Option.some.injEq, Prod.mk.injEq] at hs
            exact go _ e h1 v he (.inr rfl) hlv hs
          · cases hs
        · cases hs
      · cases hs
    · cases hs
  · cases hs
end
end Go.Proofs.YtamgnggeckomkaaGreatDoor.HM
