/- The heap machine, 3: heaps, and how they stand to memory. -/
import Derived.Test.YtbfdgdigaiimgaaDoorHL
namespace Go.Proofs.YtbfdgdigaiimgaaDoor.HM
open Go Go.RowKit

inductive Blk where
  /-- cells: the family of blocks that may share memory; where this one begins in the family's count; so many cells may be frozen -/
  | cells (fam fb fz : Nat) (xs : List V)
  | iter (l : List V) (pos : Nat)
  /-- a map's entries; its clock twice, and 1 more: in whatever order -/
  | mapo (es : List (V × V)) (clock : Nat)

structure Hp where
  next : Nat
  t : Tr Blk
  fams : Tr (List (Nat × Nat))
  /-- of some blocks it is known of what type their elements are (twice its number, and 1 more: the block begins where its memory does) -/
  els : Tr Nat

def Hp.empty : Hp := ⟨0, .leaf, .leaf, .leaf⟩
/-- no block; so many places that stand for numbers -/
def Hp.nums (K : Nat) : Hp := ⟨K, .leaf, .leaf, .leaf⟩

def famOf (a : Nat) : Blk → Nat
  | .cells f _ _ _ => f
  | _ => a

/-- the library's tables and the like: blocks that are read, never written -/
abbrev Glob := Tr (List V)

/-- each entry was laid at a time of its own, ahead of now -/
def BornOk (arr : Array MapEntry) (c : Nat) : Prop := (∀ x ∈ arr.toList, x.born < c) ∧ (arr.toList.map (·.born)).Nodup

structure BlkR (ρ : Ren) (N0 : Nat) (w : World) (a : Nat) (x : Blk) : Prop where
  ex : ∃ L, ρ a = some L ∧ N0 ≤ L.b ∧ match x with
    | .cells _ _ fz xs => ∃ arr el fr, w.heap[L.b]? = some (.cells arr el fr) ∧ arr.size = L.base + L.lim ∧ xs.length ≤ L.lim ∧
        (∀ (i : Nat) y u, xs[i]? = some y → arr[L.base + i]? = some u → VR ρ y u) ∧ (∀ o, fr.1 ≤ o → o < fr.2 → o < L.base + fz ∨ arr.size ≤ o)
    | .iter l pos => L.base = 0 ∧ ∃ bs : List UInt8, BytesR ρ l bs ∧ w.heap[L.b]? = some (.stringIter ⟨bs.toArray⟩ pos)
    | .mapo es clock => ∃ (arr : Array MapEntry) (es0 : List (V × V)), w.heap[L.b]? = some (.map arr (clock / 2)) ∧ BornOk arr (clock / 2) ∧ (clock % 2 = 0 → es0 = es) ∧ es0.Perm es ∧ es0.length = arr.size ∧
        ∀ (i : Nat) k e, es0[i]? = some k → arr[i]? = some e → VR ρ k.1 e.key ∧ VR ρ k.2 e.val

def GlobOk (Γ : Glob) (N0 : Nat) (w : World) : Prop :=
  ∀ g xs, Γ.get g = some xs → g < N0 ∧ ∃ arr el fr, w.heap[g]? = some (.cells arr el fr) ∧ xs.length ≤ arr.size ∧ ∀ (i : Nat) y u, xs[i]? = some y → arr[i]? = some u → VR (fun _ => none) y u

/-- a family's members: who lives is told, with its end; the ends fall -/
structure FamOk (h : Hp) : Prop where
  mem : ∀ a f fb fz xs, h.t.get a = some (.cells f fb fz xs) → ∃ l, h.fams.get f = some l ∧ (a, fb + xs.length) ∈ l
  sorted : ∀ f l, h.fams.get f = some l → l.Pairwise fun p q => q.2 ≤ p.2
  lt : ∀ a x, h.t.get a = some x → a < h.next ∧ famOf a x < h.next
  own : ∀ a f fb fz xs b x, h.t.get a = some (.cells f fb fz xs) → h.t.get b = some x → (∀ f' fb' fz' xs', x ≠ .cells f' fb' fz' xs') → f ≠ b

/-- nothing is frozen but what a string was made of -/
def FrOk (fr : Nat × Nat) (n : Nat) : Prop := fr = (0, 0) ∨ (fr.1 < fr.2 ∧ fr.2 ≤ n)

/-- what stays as it was: a world, and whither the ids below some number lead -/
structure Fr where
  w : World
  K : Nat
  r : Ren
  /-- blocks that the machine does not hold, and that stay as they are -/
  keep : List (Nat × Obj)

def Kept (w0 : Fr) (ρ : Ren) (h : Hp) (w : World) : Prop :=
  (w0.keep.map (·.1)).Nodup ∧ ∀ b o, (b, o) ∈ w0.keep → w.heap[b]? = some o ∧ ∀ a x L, h.t.get a = some x → ρ a = some L → L.b ≠ b

theorem Kept.step {w0 : Fr} {ρ ρ' : Ren} {h h' : Hp} {w w' : World} (K : Kept w0 ρ h w)
    (hw : ∀ b, (∀ a x L, h.t.get a = some x → ρ a = some L → L.b ≠ b) → b < w.heap.size → w'.heap[b]? = w.heap[b]?)
    (hr : ∀ a x L, h'.t.get a = some x → ρ' a = some L → (∃ a1 x1 L1, h.t.get a1 = some x1 ∧ ρ a1 = some L1 ∧ L1.b = L.b) ∨ w.heap.size ≤ L.b) : Kept w0 ρ' h' w' := by
  refine ⟨K.1, fun b o hb => ?_⟩
  obtain ⟨h1, h2⟩ := K.2 b o hb
  have hlt : b < w.heap.size := (Array.getElem?_eq_some_iff.1 h1).1
  refine ⟨(hw b h2 hlt).trans h1, fun a x L hx hL => ?_⟩
  rcases hr a x L hx hL with ⟨a1, x1, L1, k1, k2, k3⟩ | k
  · rw [← k3]; exact h2 a1 x1 L1 k1 k2
  · omega

structure Rel (Γ : Glob) (N0 : Nat) (w0 : Fr) (ρ : Ren) (h : Hp) (w : World) : Prop where
  below : Below N0 w0.w w
  hN0 : N0 ≤ w0.w.heap.size
  glob : GlobOk Γ N0 w0.w
  fresh : ∀ a, h.next ≤ a → ρ a = none
  lt : ∀ a L, ρ a = some L → L.b < w.heap.size
  blk : ∀ a x, ρ a ≠ none → h.t.get a = some x → BlkR ρ N0 w a x
  sep : ∀ a b x y L M, h.t.get a = some x → h.t.get b = some y → ρ a = some L → ρ b = some M → famOf a x ≠ famOf b y → L.b ≠ M.b
  same : ∀ a b f fb fz xs gb gz ys L M, h.t.get a = some (.cells f fb fz xs) → h.t.get b = some (.cells f gb gz ys) → ρ a = some L → ρ b = some M → L.b = M.b → L.base + gb = M.base + fb
  fam : FamOk h
  elk : ∀ a e, ρ a ≠ none → h.els.get a = some e → ∃ L arr fr, ρ a = some L ∧ w.heap[L.b]? = some (.cells arr (e / 2) fr) ∧ FrOk fr arr.size ∧ (e % 2 = 1 → L.base = 0)
  elt : ∀ a e, h.els.get a = some e → a < h.next
  old : w0.K ≤ h.next ∧ ∀ a, a < w0.K → ρ a = w0.r a
  kept : Kept w0 ρ h w

theorem some_ne {ρ : Ren} {a : Nat} {L : Loc} (h : ρ a = some L) : ρ a ≠ none := by rw [h]; simp

section
variable {Γ : Glob} {N0 : Nat} {w0 : Fr} {ρ : Ren} {h : Hp} {w : World}

theorem Rel.start (hg : GlobOk Γ w.heap.size w) : Rel Γ w.heap.size ⟨w, 0, fun _ => none, []⟩ (fun _ => none) Hp.empty w where
  below := .refl _ _
  hN0 := Nat.le_refl _
  glob := hg
  fresh := fun _ _ => rfl
  lt := fun a L h => by cases h
  blk := fun a x _ h => by cases h
  sep := fun a b x y L M h => by cases h
  same := fun a b f fb fz xs gb gz ys L M h => by cases h
  fam := ⟨fun a f fb fz xs h => by (cases h), fun f l h => by (cases h), fun a x h => by (cases h), fun a f fb fz xs b x h => by (cases h)⟩
  elk := fun a e _ h => by cases h
  elt := fun a e h => by cases h
  old := ⟨Nat.zero_le _, fun a h => by cases h⟩
  kept := ⟨List.nodup_nil, fun b o hb => by cases hb⟩

theorem Rel.startK (hg : GlobOk Γ w.heap.size w) (K : Nat) (ρ2 : Ren) (h1 : ∀ a, K ≤ a → ρ2 a = none) (h2 : ∀ a L, ρ2 a = some L → L.b < w.heap.size) : Rel Γ w.heap.size ⟨w, K, ρ2, []⟩ ρ2 (Hp.nums K) w where
  below := .refl _ _
  hN0 := Nat.le_refl _
  glob := hg
  fresh := fun a ha => h1 a ha
  lt := h2
  blk := fun a x _ h => by cases h
  sep := fun a b x y L M h => by cases h
  same := fun a b f fb fz xs gb gz ys L M h => by cases h
  fam := ⟨fun a f fb fz xs h => by (cases h), fun f l h => by (cases h), fun a x h => by (cases h), fun a f fb fz xs b x h => by (cases h)⟩
  elk := fun a e _ h => by cases h
  elt := fun a e h => by cases h
  old := ⟨Nat.le_refl _, fun _ _ => rfl⟩
  kept := ⟨List.nodup_nil, fun b o hb => by cases hb⟩

theorem GlobOk.move {W w' : World} {N1 : Nat} (hg : GlobOk Γ N0 W) (hb : Below N0 W w') (hN : N0 ≤ N1) : GlobOk Γ N1 w' := by
  intro g xs hx
  obtain ⟨h1, arr, el, fr, h2, h3⟩ := hg g xs hx
  exact ⟨by omega, arr, el, fr, (hb.block g h1).trans h2, h3⟩

theorem Rel.globNow (H : Rel Γ N0 w0 ρ h w) : GlobOk Γ w.heap.size w := H.glob.move H.below (Nat.le_trans H.hN0 H.below.size)

/-- what is below the heap's end stays: the world may grow -/
theorem Rel.grow (H : Rel Γ N0 w0 ρ h w) {w' : World} (hb : Below w.heap.size w w') : Rel Γ N0 w0 ρ h w' where
  below := H.below.trans (hb.mono (Nat.le_trans H.hN0 H.below.size))
  hN0 := H.hN0
  glob := H.glob
  fresh := H.fresh
  lt := fun a L hL => Nat.lt_of_lt_of_le (H.lt a L hL) hb.size
  blk := fun a x hne hx => by
    obtain ⟨L, h1, h2, h3⟩ := (H.blk a x hne hx).ex
    refine ⟨L, h1, h2, ?_⟩
    have e := hb.block L.b (H.lt a L h1)
    cases x with
    | cells f fb fz xs => obtain ⟨arr, el, fr, k⟩ := h3; exact ⟨arr, el, fr, by rw [e]; exact k⟩
    | iter l pos => obtain ⟨q, bs, hb, k⟩ := h3; exact ⟨q, bs, hb, e.trans k⟩
    | mapo es c => obtain ⟨arr, k⟩ := h3; exact ⟨arr, by rw [e]; exact k⟩
  sep := H.sep
  same := H.same
  fam := H.fam
  elk := fun a e hne he => by
    obtain ⟨L, arr, fr, h1, h2, h3⟩ := H.elk a e hne he
    exact ⟨L, arr, fr, h1, (hb.block _ (H.lt a L h1)).trans h2, h3⟩
  elt := H.elt
  old := H.old
  kept := H.kept.step (fun b _ hlt => hb.block b hlt) fun a x L hx hL => .inl ⟨a, x, L, hx, hL, rfl⟩

theorem Rel.focus (H : Rel Γ N0 w0 ρ h w) : Rel Γ N0 ⟨w0.w, h.next, ρ, w0.keep⟩ ρ h w := { H with old := ⟨Nat.le_refl _, fun _ _ => rfl⟩, kept := H.kept }

theorem Rel.unfocus {ρ' : Ren} {h' : Hp} {w' : World} (H : Rel Γ N0 w0 ρ h w) (H' : Rel Γ N0 ⟨w0.w, h.next, ρ, w0.keep⟩ ρ' h' w') : Rel Γ N0 w0 ρ' h' w' :=
  { H' with kept := H'.kept, old := ⟨Nat.le_trans H.old.1 H'.old.1, fun a ha => (H'.old.2 a (Nat.lt_of_lt_of_le ha H.old.1)).trans (H.old.2 a ha)⟩ }

/-- the same memory, another tape -/
theorem Rel.drawn (H : Rel Γ N0 w0 ρ h w) (k : Nat) : Rel Γ N0 w0 ρ h { w with drawn := k } := H.grow ⟨rfl, rfl, rfl, Nat.le_refl _, fun _ _ => rfl⟩

def setR (ρ : Ren) (a : Nat) (L : Loc) : Ren := fun b => if b = a then some L else ρ b

theorem setR_ext {a : Nat} {L : Loc} (hf : ρ a = none) : Ext ρ (setR ρ a L) := fun b M hb => by
  simp only [setR]; split
  · rename_i e; subst e; rw [hf] at hb; cases hb
  · exact hb

/-- A NEW BLOCK -/
def Hp.new (h : Hp) (xs : List V) : Hp := ⟨h.next + 1, h.t.put (some (.cells h.next 0 0 xs)) h.next, h.fams.put (some [(h.next, xs.length)]) h.next, h.els⟩

def Hp.newObj (h : Hp) (x : Blk) : Hp := ⟨h.next + 1, h.t.put (some x) h.next, h.fams, h.els⟩

theorem BlkR.ext {ρ' : Ren} {a : Nat} {x : Blk} (hr : BlkR ρ N0 w a x) (he : Ext ρ ρ') : BlkR ρ' N0 w a x := by
  obtain ⟨L, h1, h2, h3⟩ := hr.ex
  refine ⟨L, he _ _ h1, h2, ?_⟩
  cases x with
  | cells f fb fz xs => obtain ⟨arr, el, fr, k1, k2, k3, k4, k5⟩ := h3; exact ⟨arr, el, fr, k1, k2, k3, fun i y u hy hu => (k4 i y u hy hu).ext he, k5⟩
  | iter l pos => obtain ⟨q, bs, hb, k⟩ := h3; exact ⟨q, bs, hb.ext he, k⟩
  | mapo es c => obtain ⟨arr, es0, k1, kb, kp, kq, k2, k3⟩ := h3; exact ⟨arr, es0, k1, kb, kp, kq, k2, fun i k e hk hh => ⟨(k3 i k e hk hh).1.ext he, (k3 i k e hk hh).2.ext he⟩⟩

theorem Rel.newBlk (H : Rel Γ N0 w0 ρ h w) (_hsz : N0 ≤ w.heap.size) {x : Blk} {h' : Hp} {L : Loc} {w' : World} (hn : h'.next = h.next + 1) (ht : ∀ b, h'.t.get b = if b = h.next then some x else h.t.get b)
    (hb : Below w.heap.size w w') (hLb : L.b = w.heap.size) (hlt : w.heap.size < w'.heap.size) (hx : BlkR (setR ρ h.next L) N0 w' h.next x) (hf : FamOk h') (hels : h'.els = h.els) :
    Rel Γ N0 w0 (setR ρ h.next L) h' w' := by
  have H' := H.grow hb
  have he := setR_ext (ρ := ρ) (L := L) (H.fresh h.next (Nat.le_refl _))
  have hold : ∀ b M, b ≠ h.next → setR ρ h.next L b = some M → ρ b = some M := fun b M hb hM => by simpa [setR, hb] using hM
  refine ⟨H'.below, H.hN0, H.glob, ?_, ?_, ?_, ?_, ?_, hf, fun a e hne hae => by
    rw [hels] at hae
    have hah := H.elt a e hae
    have hne' : ρ a ≠ none := by
      simp only [setR] at hne; rw [if_neg (by omega)] at hne; exact hne
    obtain ⟨M, arr, fr, q1, q2, q3⟩ := H'.elk a e hne' hae
    exact ⟨M, arr, fr, he a M q1, q2, q3⟩, fun a e hae => by rw [hels] at hae; have := H.elt a e hae; omega,
    ⟨by have := H.old.1; omega, fun a ha => by have := H.old.1; simp only [setR]; rw [if_neg (by omega)]; exact H.old.2 a ha⟩,
    H.kept.step (fun b _ hlt => hb.block b hlt) fun a x M hx hM => by
      by_cases e : a = h.next
      · subst e; simp [setR] at hM; subst hM; right; rw [hLb]; exact Nat.le_refl _
      · rw [ht, if_neg e] at hx; exact .inl ⟨a, x, M, hx, hold a M e hM, rfl⟩⟩
  · intro a ha
    rw [hn] at ha
    simp only [setR]; rw [if_neg (by omega)]; exact H.fresh a (by omega)
  · intro a M hM
    by_cases e : a = h.next
    · subst e; simp [setR] at hM; subst hM; rw [hLb]; exact hlt
    · exact H'.lt a M (hold a M e hM)
  · intro a y hne hy
    rw [ht] at hy
    by_cases e : a = h.next
    · subst e; rw [if_pos rfl] at hy; simp only [Option.some.injEq] at hy; subst hy; exact hx
    · rw [if_neg e] at hy; exact (H'.blk a y (by simpa [setR, e] using hne) hy).ext he
  · intro a b y z M M' hy hz hM hM' hne
    rw [ht] at hy hz
    by_cases e : a = h.next <;> by_cases e' : b = h.next
    · subst e; subst e'; simp at hy hz; subst hy hz; exact absurd rfl hne
    · subst e; simp [setR] at hM; subst hM
      rw [hLb]; have := H.lt b M' (hold b M' e' hM'); omega
    · subst e'; simp [setR] at hM'; subst hM'
      rw [hLb]; have := H.lt a M (hold a M e hM); omega
    · rw [if_neg e] at hy; rw [if_neg e'] at hz
      exact H.sep a b y z M M' hy hz (hold a M e hM) (hold b M' e' hM') hne
  · intro a b f fb fz xs gb gz ys M M' hy hz hM hM' hbb
    rw [ht] at hy hz
    by_cases e : a = h.next <;> by_cases e' : b = h.next
    · subst e; subst e'; rw [if_pos rfl] at hy hz; rw [hy] at hz
      simp only [Option.some.injEq, Blk.cells.injEq] at hz
      obtain ⟨_, rfl, _, _⟩ := hz
      rw [hM] at hM'; simp only [Option.some.injEq] at hM'; subst hM'; rfl
    · subst e; simp [setR] at hM; subst hM
      have := H.lt b M' (hold b M' e' hM'); omega
    · subst e'; simp [setR] at hM'; subst hM'
      have := H.lt a M (hold a M e hM); omega
    · rw [if_neg e] at hy; rw [if_neg e'] at hz
      exact H.same a b f fb fz xs gb gz ys M M' hy hz (hold a M e hM) (hold b M' e' hM') hbb

theorem FamOk.new (H : FamOk h) (xs : List V) : FamOk (h.new xs) where
  mem := fun a f fb fz ys ha => by
    simp only [Hp.new, Tr.get_put] at ha ⊢
    by_cases e : a = h.next
    · subst e; simp at ha; obtain ⟨rfl, rfl, rfl, rfl⟩ := ha; exact ⟨[(h.next, xs.length)], by simp, by simp⟩
    · rw [if_neg e] at ha
      have hl := (H.lt a _ ha).2
      obtain ⟨l, h1, h2⟩ := H.mem a f fb fz ys ha
      simp only [famOf] at hl
      exact ⟨l, by rw [if_neg (by omega)]; exact h1, h2⟩
  sorted := fun f l hl => by
    simp only [Hp.new, Tr.get_put] at hl
    by_cases e : f = h.next
    · subst e; simp at hl; subst hl; simp
    · rw [if_neg e] at hl; exact H.sorted f l hl
  lt := fun a x ha => by
    simp only [Hp.new, Tr.get_put] at ha ⊢
    by_cases e : a = h.next
    · subst e; simp at ha; subst ha; simp [famOf]
    · rw [if_neg e] at ha; have := H.lt a x ha; omega
  own := fun a f fb fz ys b x ha hb hx => by
    simp only [Hp.new, Tr.get_put] at ha hb
    by_cases e : b = h.next
    · subst e; simp at hb; subst hb; exact absurd rfl (hx _ _ _ _)
    · rw [if_neg e] at hb
      by_cases e' : a = h.next
      · subst e'; simp at ha; obtain ⟨rfl, _⟩ := ha; exact fun hh => e hh.symm
      · rw [if_neg e'] at ha; exact H.own a f fb fz ys b x ha hb hx

theorem FamOk.newObj (H : FamOk h) {x : Blk} (hx : ∀ f fb fz xs, x ≠ .cells f fb fz xs) : FamOk (h.newObj x) where
  mem := fun a f fb fz ys ha => by
    simp only [Hp.newObj, Tr.get_put] at ha ⊢
    by_cases e : a = h.next
    · subst e; simp at ha; exact absurd ha (hx _ _ _ _)
    · rw [if_neg e] at ha; exact H.mem a f fb fz ys ha
  sorted := H.sorted
  lt := fun a y ha => by
    simp only [Hp.newObj, Tr.get_put] at ha ⊢
    by_cases e : a = h.next
    · subst e; simp at ha; subst ha
      have : famOf h.next x = h.next := by cases x <;> first | rfl | exact absurd rfl (hx _ _ _ _)
      omega
    · rw [if_neg e] at ha; have := H.lt a y ha; omega
  own := fun a f fb fz ys b y ha hb hy => by
    simp only [Hp.newObj, Tr.get_put] at ha hb
    by_cases e' : a = h.next
    · subst e'; simp at ha; exact absurd ha (hx _ _ _ _)
    · rw [if_neg e'] at ha
      by_cases e : b = h.next
      · subst e
        have := (H.lt a _ ha).2
        simp only [famOf] at this; omega
      · rw [if_neg e] at hb; exact H.own a f fb fz ys b y ha hb hy

end

/-! ## Worlds grown by a block -/
def World.new (w : World) (o : Obj) : World := { w with heap := w.heap.push o }
theorem new_heap_old (w : World) (o : Obj) {b : Nat} (h : b < w.heap.size) : (World.new w o).heap[b]? = w.heap[b]? := by
  simp only [World.new, Array.getElem?_push]; rw [if_neg (by omega)]
theorem new_heap_new (w : World) (o : Obj) : (World.new w o).heap[w.heap.size]? = some o := by
  show (w.heap.push o)[w.heap.size]? = some o
  simp
theorem new_size (w : World) (o : Obj) : (World.new w o).heap.size = w.heap.size + 1 := by simp [World.new]
theorem new_below (w : World) (o : Obj) : Below w.heap.size w (World.new w o) :=
  ⟨rfl, rfl, rfl, by rw [new_size]; omega, fun k hk => new_heap_old w o hk⟩
theorem run_newRow {P : Program} {w : World} (el : TypeId) (cells : Array Value) : (newRow el cells).run P w = .ok ⟨w.heap.size, 0, none⟩ (World.new w (.cells cells el)) := by
  simp [newRow, newObj, Sem.run, World.new]

theorem Rel.newCells {Γ : Glob} {N0 : Nat} {w0 : Fr} {ρ : Ren} {h : Hp} {w : World} (H : Rel Γ N0 w0 ρ h w) {xs : List V} {arr : Array Value} {el : TypeId} {fr : Nat × Nat} (hl : xs.length ≤ arr.size) (hfr : ∀ o, fr.1 ≤ o → o < fr.2 → arr.size ≤ o)
    (hr : ∀ (i : Nat) y u, xs[i]? = some y → arr[i]? = some u → VR ρ y u) :
    Rel Γ N0 w0 (setR ρ h.next ⟨w.heap.size, 0, arr.size⟩) (h.new xs) (World.new w (.cells arr el fr)) := by
  have he := setR_ext (ρ := ρ) (a := h.next) (L := ⟨w.heap.size, 0, arr.size⟩) (H.fresh h.next (Nat.le_refl _))
  refine H.newBlk (Nat.le_trans H.hN0 H.below.size) (x := .cells h.next 0 0 xs) rfl (fun b => by simp only [Hp.new, Tr.get_put]) (new_below _ _) rfl (by rw [new_size]; exact Nat.lt_succ_self _) ?_ (H.fam.new xs) rfl
  refine ⟨⟨w.heap.size, 0, arr.size⟩, by simp [setR], Nat.le_trans H.hN0 H.below.size, arr, el, fr, new_heap_new _ _, by simp, hl, fun i y u hy hu => ?_, fun o h1 h2 => .inr (hfr o h1 h2)⟩
  rw [Nat.zero_add] at hu
  exact (hr i y u hy hu).ext he

end Go.Proofs.YtbfdgdigaiimgaaDoor.HM
