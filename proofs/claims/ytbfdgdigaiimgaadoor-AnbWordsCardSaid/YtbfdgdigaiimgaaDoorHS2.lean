/- The heap machine: what a closed run gives is put beside what is there: trees. -/
import Derived.Test.YtbfdgdigaiimgaaDoorHS1
namespace Go.Proofs.YtbfdgdigaiimgaaDoor.HM
open Go Go.RowKit

def Tr.list {α : Type} : Tr α → List (Nat × α)
  | .leaf => []
  | .node l v r => (match v with
      | some x => [(0, x)]
      | none => []) ++ ((Tr.list l).map (fun p => (2 * p.1 + 1, p.2)) ++ (Tr.list r).map (fun p => (2 * p.1 + 2, p.2)))

theorem Tr.get_zero {α : Type} (l r : Tr α) (v : Option α) : (Tr.node l v r).get 0 = v := rfl
theorem Tr.get_odd {α : Type} (l r : Tr α) (v : Option α) (j : Nat) : (Tr.node l v r).get (2 * j + 1) = l.get j := by
  simp only [Tr.get]
  have h1 : Nat.beq (2 * j + 1) 0 = false := rfl
  have h2 : (2 * j + 1) % 2 = 1 := by omega
  have h3 : (2 * j + 1) / 2 = j := by omega
  rw [h1, h2, h3]
theorem Tr.get_even {α : Type} (l r : Tr α) (v : Option α) (j : Nat) : (Tr.node l v r).get (2 * j + 2) = r.get j := by
  simp only [Tr.get]
  have h1 : Nat.beq (2 * j + 2) 0 = false := rfl
  have h2 : (2 * j + 2) % 2 = 0 := by omega
  have h3 : (2 * j + 2) / 2 - 1 = j := by omega
  rw [h1, h2, h3]

theorem Tr.mem_list {α : Type} : ∀ (t : Tr α) (i : Nat) (x : α), (i, x) ∈ t.list ↔ t.get i = some x := by
  intro t
  induction t with
  | leaf => intro i x; simp [Tr.list, Tr.get]
  | node l v r ih1 ih2 =>
    intro i x
    simp only [Tr.list, List.mem_append, List.mem_map, Prod.mk.injEq, Prod.exists]
    rcases (show i = 0 ∨ (∃ j, i = 2 * j + 1) ∨ ∃ j, i = 2 * j + 2 by
      rcases Nat.eq_zero_or_pos i with h | h
      · exact .inl h
      · rcases Nat.mod_two_eq_zero_or_one i with e | e
        · exact .inr (.inr ⟨i / 2 - 1, by omega⟩)
        · exact .inr (.inl ⟨i / 2, by omega⟩)) with rfl | ⟨j, rfl⟩ | ⟨j, rfl⟩
    · rw [Tr.get_zero]
      constructor
      · rintro (h | ⟨a, b, _, h, _⟩ | ⟨a, b, _, h, _⟩)
        · cases v <;> simp at h; rw [h]
        · omega
        · omega
      · intro h; subst h; left; simp
    · rw [Tr.get_odd, ← ih1]
      constructor
      · rintro (h | ⟨a, b, hm, h, rfl⟩ | ⟨a, b, _, h, _⟩)
        · cases v <;> simp at h
        · have : a = j := by omega
          subst this; exact hm
        · omega
      · intro h; exact .inr (.inl ⟨j, x, h, rfl, rfl⟩)
    · rw [Tr.get_even, ← ih2]
      constructor
      · rintro (h | ⟨a, b, _, h, _⟩ | ⟨a, b, hm, h, rfl⟩)
        · cases v <;> simp at h
        · omega
        · have : a = j := by omega
          subst this; exact hm
      · intro h; exact .inr (.inr ⟨j, x, h, rfl, rfl⟩)

def putAll {α : Type} (s : Nat) (f : α → α) : List (Nat × α) → Tr α → Tr α
  | [], t => t
  | p :: r, t => putAll s f r (t.put (some (f p.2)) (p.1 + s))

open Classical in
theorem get_putAll {α : Type} {s : Nat} {f : α → α} {g : Nat → Option α} : ∀ (l : List (Nat × α)) (t : Tr α) (j : Nat), (∀ i x, (i, x) ∈ l → g i = some x) →
    (putAll s f l t).get j = if s ≤ j ∧ ∃ x, (j - s, x) ∈ l then (g (j - s)).map f else t.get j := by
  intro l
  induction l with
  | nil => intro t j _; rw [if_neg (by rintro ⟨_, x, h⟩; cases h)]; rfl
  | cons p r ih =>
    intro t j hg
    obtain ⟨i, y⟩ := p
    have hgi := hg i y List.mem_cons_self
    simp only [putAll]
    rw [ih _ j fun i x h => hg i x (List.mem_cons_of_mem _ h)]
    by_cases h1 : s ≤ j ∧ ∃ x, (j - s, x) ∈ r
    · rw [if_pos h1, if_pos ⟨h1.1, by obtain ⟨x, hx⟩ := h1.2; exact ⟨x, List.mem_cons_of_mem _ hx⟩⟩]
    · rw [if_neg h1, Tr.get_put]
      by_cases h2 : j = i + s
      · subst h2
        have e : i + s - s = i := by omega
        rw [if_pos rfl, if_pos ⟨by omega, y, by rw [e]; exact List.mem_cons_self⟩, e, hgi]; rfl
      · rw [if_neg h2, if_neg]
        rintro ⟨h3, x, hx⟩
        rcases List.mem_cons.1 hx with hx | hx
        · simp only [Prod.mk.injEq] at hx; omega
        · exact h1 ⟨h3, x, hx⟩

/-- a tree's entries behind s of another's -/
def Tr.beside {α : Type} (s : Nat) (f : α → α) (t0 t : Tr α) : Tr α := putAll s f t0.list t

theorem Tr.get_beside {α : Type} {s : Nat} {f : α → α} {t0 t : Tr α} (ht : ∀ j x, t.get j = some x → j < s) (j : Nat) : (Tr.beside s f t0 t).get j = if j < s then t.get j else (t0.get (j - s)).map f := by
  unfold Tr.beside
  rw [get_putAll (g := t0.get) _ _ _ fun i x h => (Tr.mem_list t0 i x).1 h]
  by_cases hj : j < s
  · rw [if_pos hj, if_neg (by rintro ⟨h, _⟩; omega)]
  · rw [if_neg hj]
    cases hq : t0.get (j - s) with
    | none =>
      rw [if_neg]
      · cases hh : t.get j with
        | none => rfl
        | some x => exact absurd (ht j x hh) hj
      · rintro ⟨_, x, hx⟩
        rw [(Tr.mem_list t0 _ x).1 hx] at hq; cases hq
    | some x => rw [if_pos ⟨by omega, x, (Tr.mem_list t0 _ x).2 hq⟩]
end Go.Proofs.YtbfdgdigaiimgaaDoor.HM
