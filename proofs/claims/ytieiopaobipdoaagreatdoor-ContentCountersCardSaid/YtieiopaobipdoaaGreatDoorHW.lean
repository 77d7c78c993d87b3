/- What the machine holds, in a walk: memory that it does not hold may be written; a run is a call that leaves what it holds as it was. -/
import Derived.Test.YtieiopaobipdoaaGreatDoorHB
namespace Go.Proofs.YtieiopaobipdoaaGreatDoor.HM
open Go Go.RowKit
variable [E : Amb]
def domT {α β : Type} : Tr α → Tr β → Bool
  | .leaf, _ => true
  | .node l v r, .leaf => (match v with | none => true | some _ => false) && (domT l (.leaf : Tr β) && domT r (.leaf : Tr β))
  | .node l v r, .node l' v' r' => (match v, v' with | none, _ => true | some _, some _ => true | some _, none => false) && (domT l l' && domT r r')
omit [E : Amb] in
theorem domT_get {α β : Type} : ∀ {t : Tr α} {u : Tr β} {i : Nat} {x : α}, domT t u = true → t.get i = some x → ∃ y, u.get i = some y
  | .leaf, u, i, x, _, h => by cases h
  | .node l v r, .leaf, i, x, k, h => by
    simp only [domT, Bool.and_eq_true] at k
    obtain ⟨k1, k2, k3⟩ := k
    simp only [Tr.get] at h
    split at h
    · subst h; cases k1
    · split at h
      · obtain ⟨y, hy⟩ := domT_get k2 h; cases hy
      · obtain ⟨y, hy⟩ := domT_get k3 h; cases hy
  | .node l v r, .node l' v' r', i, x, k, h => by
    simp only [domT, Bool.and_eq_true] at k
    obtain ⟨k1, k2, k3⟩ := k
    simp only [Tr.get] at h ⊢
    split at h
    · subst h
      cases v' with
      | none => cases k1
      | some y => exact ⟨y, rfl⟩
    · split at h
      · exact domT_get k2 h
      · exact domT_get k3 h
structure Held (Γ : Glob) (S : List Nat) (W : World) (h : Hp) (ρ : Ren) (w : World) : Prop where
  rel : Rel Γ W.heap.size ⟨W, 0, Ren.nil, []⟩ ρ h w
  out : ∀ b ∈ S, W.heap.size ≤ b ∧ b < w.heap.size ∧ ρ.mem b = none ∧ ∀ a x L, h.t.get a = some x → ρ a = some L → L.b ≠ b
structure Only (S : List Nat) (w w' : World) : Prop where
  os : w'.os = w.os
  tape : w'.tape = w.tape
  output : w'.output = w.output
  size : w.heap.size ≤ w'.heap.size
  block : ∀ k, k < w.heap.size → k ∉ S → w'.heap[k]? = w.heap[k]?
omit [E : Amb] in
theorem Only.refl (S : List Nat) (w : World) : Only S w w := ⟨rfl, rfl, rfl, Nat.le_refl _, fun _ _ _ => rfl⟩
omit [E : Amb] in
theorem Only.of_below {S : List Nat} {w w' : World} (h : Below w.heap.size w w') : Only S w w' := ⟨h.os, h.tape, h.output, h.size, fun k h1 _ => h.block k h1⟩
omit [E : Amb] in
theorem Only.trans {S : List Nat} {x y z : World} (h : Only S x y) (k : Only S y z) : Only S x z :=
  ⟨k.os.trans h.os, k.tape.trans h.tape, k.output.trans h.output, Nat.le_trans h.size k.size, fun i h1 h2 => (k.block i (Nat.lt_of_lt_of_le h1 h.size) h2).trans (h.block i h1 h2)⟩
omit [E : Amb] in
theorem Only.mono {S T : List Nat} {x y : World} (h : Only S x y) (hs : ∀ b ∈ S, b ∈ T) : Only T x y :=
  ⟨h.os, h.tape, h.output, h.size, fun i h1 h2 => h.block i h1 fun h3 => h2 (hs i h3)⟩
theorem Held.new {Γ : Glob} {W : World} {h : Hp} {ρ : Ren} {w : World} (H : Rel Γ W.heap.size ⟨W, 0, Ren.nil, []⟩ ρ h w) : Held Γ [] W h ρ w := ⟨H, fun b hb => by cases hb⟩
theorem Held.below {Γ : Glob} {S : List Nat} {W : World} {h : Hp} {ρ : Ren} {w : World} (H : Held Γ S W h ρ w) : Below W.heap.size W w := H.rel.below
theorem Held.move {Γ : Glob} {S T : List Nat} {W : World} {h : Hp} {ρ : Ren} {w w' : World} (H : Held Γ S W h ρ w) (hd : domT h.els h.t = true) (hO : Only S w w') (hT : ∀ b ∈ T, b ∈ S ∨ (w.heap.size ≤ b ∧ b < w'.heap.size)) : Held Γ T W h ρ w' := by
  have ne : ∀ {a x L}, h.t.get a = some x → ρ a = some L → L.b ∉ S := fun hx hL hS => (H.out _ hS).2.2.2 _ _ _ hx hL rfl
  have same : ∀ {a x L}, h.t.get a = some x → ρ a = some L → w'.heap[L.b]? = w.heap[L.b]? := fun hx hL => hO.block _ (H.rel.lt _ _ hL) (ne hx hL)
  have hb : Below W.heap.size w w' := ⟨hO.os, hO.tape, hO.output, hO.size, fun k hk => hO.block k (Nat.lt_of_lt_of_le hk H.rel.below.size) fun hS => by have := (H.out k hS).1; omega⟩
  refine ⟨{ below := H.rel.below.trans hb, hN0 := H.rel.hN0, glob := H.rel.glob, fresh := H.rel.fresh, lt := fun a L hL => Nat.lt_of_lt_of_le (H.rel.lt a L hL) hO.size, blk := fun a x hne hx => ?_, sep := H.rel.sep, same := H.rel.same, fam := H.rel.fam, elk := fun a e hne he => ?_, elt := H.rel.elt, old := H.rel.old, kept := ⟨List.nodup_nil, fun b o hb => by cases hb⟩, pers := fun b m hm => ?_ }, fun b hbT => ?_⟩
  · obtain ⟨L, h1, h2, h3⟩ := (H.rel.blk a x hne hx).ex
    have e := same hx h1
    refine ⟨L, h1, h2, ?_⟩
    cases x with
    | cells f fb fz xs => obtain ⟨arr, el, fr, k⟩ := h3; exact ⟨arr, el, fr, by rw [e]; exact k⟩
    | iter l pos => obtain ⟨q, bs, hb, k⟩ := h3; exact ⟨q, bs, hb, e.trans k⟩
    | mapo es c => obtain ⟨arr, k⟩ := h3; exact ⟨arr, by rw [e]; exact k⟩
  · obtain ⟨L, arr, fr, h1, h2, h3⟩ := H.rel.elk a e hne he
    obtain ⟨x, hx⟩ := domT_get hd he
    exact ⟨L, arr, fr, h1, (same hx h1).trans h2, h3⟩
  · obtain ⟨k1, k2, k3⟩ := H.rel.pers b m hm
    refine ⟨(hO.block b (Array.getElem?_eq_some_iff.1 k1).1 fun hS => ?_).trans k1, k2, k3⟩
    have := (H.out b hS).2.2.1
    rw [this] at hm; cases hm
  · rcases hT b hbT with hS | ⟨h1, h2⟩
    · obtain ⟨k1, k2, k3, k4⟩ := H.out b hS
      exact ⟨k1, Nat.lt_of_lt_of_le k2 hO.size, k3, k4⟩
    · refine ⟨Nat.le_trans H.rel.below.size h1, h2, ?_, fun a x L _ hL => by have := H.rel.lt a L hL; omega⟩
      cases hm : ρ.mem b with
      | none => rfl
      | some m => have := (Array.getElem?_eq_some_iff.1 (H.rel.pers b m hm).1).1; omega
theorem Held.call {P : Program} {Γ : Glob} {f : FuncId} {spec : Spec} (hsd : Sound P Γ f spec) {args : List V} {h h' : Hp} {r : V} (hs : spec args h = some (r, h')) (hb : h.back h' = true)
    {S : List Nat} {W : World} {ρ : Ren} {w : World} (H : Held Γ S W h ρ w) {us : Array Value} (hv : VRs ρ args us.toList) :
    Calls P f us w fun e w' => ∃ ρ2 v, e = .returned v ∧ Held Γ S W h ρ2 w' ∧ (∀ x u, x.low h.next = true → VR ρ x u → VR ρ2 x u) ∧ (r.low h.next = true → VR ρ2 r v) ∧ (∀ b ∈ S, w'.heap[b]? = w.heap[b]?) ∧ Below W.heap.size w w' ∧ w.heap.size ≤ w'.heap.size := by
  let ks : List (Nat × Obj) := ((List.range w.heap.size).filter fun b => decide (b ∈ S)).map fun b => (b, w.heap.getD b (.cells #[] 0 (0, 0)))
  have hk1 : (ks.map (·.1)) = (List.range w.heap.size).filter fun b => decide (b ∈ S) := by simp [ks, Function.comp_def]
  have hk2 : ∀ b o, (b, o) ∈ ks → b ∈ S ∧ w.heap[b]? = some o := fun b o hbo => by
    obtain ⟨b', h1, h2⟩ := List.mem_map.1 hbo
    simp only [Prod.mk.injEq] at h2
    obtain ⟨rfl, rfl⟩ := h2
    obtain ⟨h3, h4⟩ := List.mem_filter.1 h1
    have hlt := List.mem_range.1 h3
    exact ⟨by simpa using h4, by simp [Array.getD, hlt]⟩
  have hk3 : ∀ b ∈ S, ∃ o, (b, o) ∈ ks := fun b hbS => ⟨_, List.mem_map.2 ⟨b, List.mem_filter.2 ⟨List.mem_range.2 (H.out b hbS).2.1, by simpa using hbS⟩, rfl⟩⟩
  have H1 : Rel Γ W.heap.size ⟨w, 0, ρ.bare, ks⟩ ρ h w :=
    { H.rel with
      below := Below.refl _ _
      hN0 := H.rel.below.size
      glob := H.rel.glob.move H.rel.below (Nat.le_refl _)
      old := ⟨Nat.zero_le _, fun a ha => absurd ha (Nat.not_lt_zero _)⟩
      kept := ⟨by rw [hk1]; exact List.nodup_range.filter _, fun b o hbo => ⟨(hk2 b o hbo).2, (H.out b (hk2 b o hbo).1).2.2.2⟩⟩
      pers := fun b m hm => ⟨(H.rel.pers b m hm).1, .inr hm, (H.rel.pers b m hm).2.2⟩ }
  refine (hsd args h r h' hs W.heap.size ⟨w, 0, ρ.bare, ks⟩ ρ w us H1 hv).mono ?_
  rintro e w' ⟨ρ', v, rfl, hx, H2, hr⟩
  have H3 := Rel.back H1 H2 hb
  have hsz : w.heap.size ≤ w'.heap.size := H2.below.size
  refine ⟨ρ'.upto h.next, v, rfl, ⟨{ H3 with below := H.rel.below.trans H2.below, hN0 := H.rel.hN0, glob := H.rel.glob, old := ⟨Nat.zero_le _, fun a ha => absurd ha (Nat.not_lt_zero _)⟩, kept := ⟨List.nodup_nil, fun b o hb => by cases hb⟩, pers := fun b m hm => ?_ }, fun b hbS => ?_⟩, fun x u hl hxu => (hxu.ext hx).upto _ hl, fun hl => hr.upto _ hl, fun b hbS => ?_, H2.below, hsz⟩
  · obtain ⟨k1, k2, k3⟩ := H3.pers b m hm
    refine ⟨k1, ?_, k3⟩
    rcases k2 with k2 | k2
    · exact .inl (Nat.le_trans H.rel.below.size k2)
    · exact .inl ((H.rel.pers b m k2).2.1.elim (fun h => h) (fun h => by cases h))
  · obtain ⟨k1, k2, k3, k4⟩ := H.out b hbS
    obtain ⟨o, ho⟩ := hk3 b hbS
    refine ⟨k1, Nat.lt_of_lt_of_le k2 hsz, ?_, fun a x L hx hL => (H3.kept.2 b o ho).2 a x L hx hL⟩
    show ρ'.mem b = none
    cases hm : ρ'.mem b with
    | none => rfl
    | some m =>
      rcases (H2.pers b m hm).2.1 with k | k
      · have k : w.heap.size ≤ b := k
        omega
      · have k : ρ.mem b = some m := k
        rw [k3] at k; cases k
  · obtain ⟨o, ho⟩ := hk3 b hbS
    exact (H2.kept.2 b o ho).1.trans (hk2 b o ho).2.symm
end Go.Proofs.YtieiopaobipdoaaGreatDoor.HM
