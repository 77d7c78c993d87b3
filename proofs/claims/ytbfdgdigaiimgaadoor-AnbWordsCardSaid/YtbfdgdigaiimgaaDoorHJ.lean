/- The heap machine: two ways that meet again. -/
import Derived.Test.YtbfdgdigaiimgaaDoorH8
namespace Go.Proofs.YtbfdgdigaiimgaaDoor.HM
open Go Go.RowKit

def pairsSame : List (V × V) → List (V × V) → Bool
  | [], l => match l with | [] => true | _ :: _ => false
  | x :: r, l => match l with | [] => false | y :: s => (x.1.same y.1 && x.2.same y.2) && pairsSame r s
theorem pairsSame_eq : ∀ (x y : List (V × V)), pairsSame x y = true → x = y
  | [], l, h => by cases l <;> simp only [pairsSame, Bool.false_eq_true] at h; rfl
  | (x1, x2) :: r, l, h => by
    cases l with
    | nil => simp only [pairsSame, Bool.false_eq_true] at h
    | cons y s =>
      obtain ⟨y1, y2⟩ := y
      simp only [pairsSame, Bool.and_eq_true] at h
      rw [V.same_eq _ _ h.1.1, V.same_eq _ _ h.1.2, pairsSame_eq _ _ h.2]

def Blk.same : Blk → Blk → Bool
  | .cells f b z xs, y => match y with | .cells g c x ys => (Nat.beq f g && Nat.beq b c) && (Nat.beq z x && V.sames xs ys) | _ => false
  | .iter l p, y => match y with | .iter m q => V.sames l m && Nat.beq p q | _ => false
  | .mapo es c, y => match y with | .mapo fs d => pairsSame es fs && Nat.beq c d | _ => false
theorem Blk.same_eq (x y : Blk) (h : x.same y = true) : x = y := by
  cases x <;> cases y <;> simp only [Blk.same, Bool.and_eq_true, nbq, Bool.false_eq_true] at h
  · rw [h.1.1, h.1.2, h.2.1, V.sames_eq _ _ h.2.2]
  · rw [V.sames_eq _ _ h.1, h.2]
  · rw [pairsSame_eq _ _ h.1, h.2]

/-! ## Trees -/

def Tr.eqT {α : Type} (s : α → α → Bool) : Tr α → Tr α → Bool
  | .leaf, t => match t with | .leaf => true | _ => false
  | .node l v r, t => match t with
    | .leaf => false
    | .node l' v' r' => (match v, v' with
      | none, none => true
      | some x, some y => s x y
      | _, _ => false) && (Tr.eqT s l l' && Tr.eqT s r r')
theorem Tr.eqT_eq {α : Type} {s : α → α → Bool} (hs : ∀ x y, s x y = true → x = y) : ∀ (t u : Tr α), t.eqT s u = true → t = u := by
  intro t
  induction t with
  | leaf => intro u h; cases u with
    | leaf => rfl
    | node => simp [Tr.eqT] at h
  | node l v r ih1 ih2 =>
    intro u h
    cases u with
    | leaf => simp [Tr.eqT] at h
    | node l' v' r' =>
      simp only [Tr.eqT, Bool.and_eq_true] at h
      rw [ih1 _ h.2.1, ih2 _ h.2.2]
      cases v <;> cases v' <;> first | rfl | (simp at h; done) | (have e := hs _ _ h.1; subst e; rfl)

/-- what both hold -/
def Tr.meet {α : Type} (s : α → α → Bool) : Tr α → Tr α → Tr α
  | .leaf, _ => .leaf
  | .node l v r, t => match t with
    | .leaf => .leaf
    | .node l' v' r' => .node (Tr.meet s l l') (match v, v' with
      | some x, some y => match s x y with
        | true => some x
        | false => none
      | _, _ => none) (Tr.meet s r r')
theorem Tr.get_meet {α : Type} {s : α → α → Bool} (hs : ∀ x y, s x y = true → x = y) : ∀ (t u : Tr α) (i : Nat) (x : α), (t.meet s u).get i = some x → t.get i = some x ∧ u.get i = some x := by
  intro t
  induction t with
  | leaf => intro u i x h; simp [Tr.meet, Tr.get] at h
  | node l v r ih1 ih2 =>
    intro u i x h
    cases u with
    | leaf => simp [Tr.meet, Tr.get] at h
    | node l' v' r' =>
      simp only [Tr.meet, Tr.get] at h ⊢
      cases hi : Nat.beq i 0
      · rw [hi] at h
        simp only at h ⊢
        cases h2 : Nat.beq (i % 2) 1
        · rw [h2] at h; exact ih2 _ _ _ h
        · rw [h2] at h; exact ih1 _ _ _ h
      · rw [hi] at h
        simp only at h ⊢
        split at h
        · split at h
          · rename_i hxy
            rw [← hs _ _ hxy]; exact ⟨h, h⟩
          · cases h
        · cases h

/-- one value for two -/
def joinV (a b : V) : V := match a.same b with
  | true => a
  | false => match a, b with
    | .bool _, .bool _ => .anyb
    | .bool _, .anyb => .anyb
    | .anyb, .bool _ => .anyb
    | _, _ => .any
def joinO (a b : Option V) : Option V := match a, b with
  | none, none => none
  | some x, some y => some (joinV x y)
  | _, _ => some .any
def anyT : Tr V → Tr V
  | .leaf => .leaf
  | .node l v r => .node (anyT l) (match v with
    | none => none
    | some _ => some .any) (anyT r)
def joinT : Tr V → Tr V → Tr V
  | .leaf, t => anyT t
  | .node l v r, t => match t with
    | .leaf => .node (anyT l) (joinO v none) (anyT r)
    | .node l' v' r' => .node (joinT l l') (joinO v v') (joinT r r')

theorem joinV_left {ρ : Ren} {a b : V} {u : Value} (h : VR ρ a u) : VR ρ (joinV a b) u := by
  unfold joinV
  split
  · exact h
  · split
    · cases h; exact .anyb _
    · cases h; exact .anyb _
    · cases h; exact .anyb _
    · exact .any _
theorem joinV_right {ρ : Ren} {a b : V} {u : Value} (h : VR ρ b u) : VR ρ (joinV a b) u := by
  unfold joinV
  split
  · rename_i hs; rw [V.same_eq _ _ hs]; exact h
  · split
    · cases h; exact .anyb _
    · cases h; exact .anyb _
    · cases h; exact .anyb _
    · exact .any _
theorem anyT_get : ∀ (t : Tr V) (i : Nat), (anyT t).get i = (t.get i).map fun _ => .any := by
  intro t
  induction t with
  | leaf => intro i; rfl
  | node l v r ih1 ih2 =>
    intro i
    simp only [anyT, Tr.get]
    split
    · cases v <;> rfl
    · split
      · exact ih1 _
      · exact ih2 _
theorem joinT_get : ∀ (t u : Tr V) (i : Nat), (joinT t u).get i = joinO (t.get i) (u.get i) := by
  intro t
  induction t with
  | leaf =>
    intro u i
    simp only [joinT, anyT_get, Tr.get]
    cases u.get i <;> rfl
  | node l v r ih1 ih2 =>
    intro u i
    cases u with
    | leaf =>
      simp only [joinT, Tr.get, anyT_get]
      split
      · rfl
      · split
        · cases l.get (i / 2) <;> rfl
        · cases r.get (i / 2 - 1) <;> rfl
    | node l' v' r' =>
      simp only [joinT, Tr.get]
      split
      · rfl
      · split
        · exact ih1 _ _
        · exact ih2 _ _

theorem join_left {ρ : Ren} {e1 e2 : Env} {s : Nat} {u : Value} (h : VR ρ (Env.get e1 s) u) : VR ρ (Env.get (joinT e1 e2) s) u := by
  unfold Env.get at h ⊢
  rw [joinT_get]
  cases h1 : Tr.get e1 s <;> cases h2 : Tr.get e2 s <;> rw [h1] at h <;> simp only [joinO] at h ⊢
  · exact h
  · exact .any _
  · exact .any _
  · exact joinV_left h
theorem join_right {ρ : Ren} {e1 e2 : Env} {s : Nat} {u : Value} (h : VR ρ (Env.get e2 s) u) : VR ρ (Env.get (joinT e1 e2) s) u := by
  unfold Env.get at h ⊢
  rw [joinT_get]
  cases h1 : Tr.get e1 s <;> cases h2 : Tr.get e2 s <;> rw [h2] at h <;> simp only [joinO] at h ⊢
  · exact h
  · exact .any _
  · exact .any _
  · exact joinV_right h

/-! ## Heaps -/

def sameEnds : List (Nat × Nat) → List (Nat × Nat) → Bool
  | [], l => match l with | [] => true | _ :: _ => false
  | x :: r, l => match l with | [] => false | y :: s => (Nat.beq x.1 y.1 && Nat.beq x.2 y.2) && sameEnds r s
theorem sameEnds_eq : ∀ (x y : List (Nat × Nat)), sameEnds x y = true → x = y
  | [], l, h => by cases l <;> simp only [sameEnds, Bool.false_eq_true] at h; rfl
  | (x1, x2) :: r, l, h => by
    cases l with
    | nil => simp only [sameEnds, Bool.false_eq_true] at h
    | cons y s =>
      obtain ⟨y1, y2⟩ := y
      simp only [sameEnds, Bool.and_eq_true, nbq] at h
      rw [h.1.1, h.1.2, sameEnds_eq _ _ h.2]

def Hp.join (h1 h2 : Hp) : Option Hp :=
  match (Nat.beq h1.next h2.next && Tr.eqT sameEnds h1.fams h2.fams) && Tr.eqT Nat.beq h1.els h2.els with
  | true => some ⟨h1.next, h1.t.meet Blk.same h2.t, h1.fams, h1.els⟩
  | false => none

theorem Hp.join_left {Γ : Glob} {N0 : Nat} {w0 : Fr} {ρ : Ren} {h1 h2 h' : Hp} {w : World} (hj : h1.join h2 = some h') (H : Rel Γ N0 w0 ρ h1 w) : Rel Γ N0 w0 ρ h' w := by
  unfold Hp.join at hj
  split at hj
  · simp only [Option.some.injEq] at hj; subst hj
    have hs : ∀ a x, (h1.t.meet Blk.same h2.t).get a = some x → h1.t.get a = some x := fun a x hx => (Tr.get_meet Blk.same_eq _ _ _ _ hx).1
    exact H.sub rfl hs (H.fam.sub rfl hs rfl) rfl
  · cases hj
theorem Hp.join_right {Γ : Glob} {N0 : Nat} {w0 : Fr} {ρ : Ren} {h1 h2 h' : Hp} {w : World} (hj : h1.join h2 = some h') (H : Rel Γ N0 w0 ρ h2 w) : Rel Γ N0 w0 ρ h' w := by
  unfold Hp.join at hj
  split at hj
  · rename_i hc
    simp only [Bool.and_eq_true, nbq] at hc
    have e1 := Tr.eqT_eq sameEnds_eq _ _ hc.1.2
    have e2 := Tr.eqT_eq (fun x y h => Nat.eq_of_beq_eq_true h) _ _ hc.2
    simp only [Option.some.injEq] at hj; subst hj
    have hs : ∀ a x, (h1.t.meet Blk.same h2.t).get a = some x → h2.t.get a = some x := fun a x hx => (Tr.get_meet Blk.same_eq _ _ _ _ hx).2
    exact H.sub hc.1.1 hs (H.fam.sub hc.1.1 hs e1) e2
  · cases hj
end Go.Proofs.YtbfdgdigaiimgaaDoor.HM
