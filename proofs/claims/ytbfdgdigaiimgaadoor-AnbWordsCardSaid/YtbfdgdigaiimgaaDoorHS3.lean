/- The heap machine: what a closed run gives is put beside what is there: heaps. -/
import Derived.Test.YtbfdgdigaiimgaaDoorHS2
namespace Go.Proofs.YtbfdgdigaiimgaaDoor.HM
open Go Go.RowKit

theorem FamOk.sub {h h' : Hp} (H : FamOk h) (hn : h'.next = h.next) (hs : ∀ a x, h'.t.get a = some x → h.t.get a = some x) (hf : h'.fams = h.fams) : FamOk h' where
  mem := fun a f fb fz xs hx => by rw [hf]; exact H.mem a f fb fz xs (hs _ _ hx)
  sorted := fun f l hl => H.sorted f l (hf ▸ hl)
  lt := fun a x hx => by rw [hn]; exact H.lt a x (hs _ _ hx)
  own := fun a f fb fz xs b x ha hb => H.own a f fb fz xs b x (hs _ _ ha) (hs _ _ hb)

/-- what the one holds where the other holds something -/
def Tr.only {α : Type} : Tr Unit → Tr α → Tr α
  | .leaf, _ => .leaf
  | .node l v r, t => match t with
    | .leaf => .leaf
    | .node l' v' r' => .node (Tr.only l l') (match v with
      | some _ => v'
      | none => none) (Tr.only r r')
theorem Tr.get_only {α : Type} : ∀ (u : Tr Unit) (t : Tr α) (i : Nat) (x : α), (Tr.only u t).get i = some x → t.get i = some x := by
  intro u
  induction u with
  | leaf => intro t i x h; simp [Tr.only, Tr.get] at h
  | node l v r ih1 ih2 =>
    intro t i x h
    cases t with
    | leaf => simp [Tr.only, Tr.get] at h
    | node l' v' r' =>
      simp only [Tr.only, Tr.get] at h ⊢
      cases hi : Nat.beq i 0
      · rw [hi] at h
        simp only at h ⊢
        cases h2 : Nat.beq (i % 2) 1
        · rw [h2] at h; exact ih2 _ _ _ h
        · rw [h2] at h; exact ih1 _ _ _ h
      · rw [hi] at h
        simp only at h ⊢
        split at h
        · exact h
        · cases h

mutual
/-- the blocks that a value names -/
def V.names : V → List Nat → List Nat
  | .ptr a _, l => a :: l
  | .sl a _ _ _, l => a :: l
  | .mp a, l => a :: l
  | .fn _ x y, l => V.namesL x (V.namesL y l)
  | .iface _ x, l => x.names l
  | .agg x, l => V.namesL x l
  | .tup x, l => V.namesL x l
  | _, l => l
def V.namesL : List V → List Nat → List Nat
  | [], l => l
  | x :: r, l => x.names (V.namesL r l)
end
def Blk.names : Blk → List Nat
  | .cells _ _ _ xs => V.namesL xs []
  | .iter _ _ => []
  | .mapo es _ => es.foldl (fun l e => e.1.names (e.2.names l)) []
/-- what is reached from there (so many steps at most) -/
def reach (t : Tr Blk) : Nat → List Nat → Tr Unit → Tr Unit
  | 0, _, s => s
  | _ + 1, [], s => s
  | n + 1, a :: l, s => match Tr.get s a with
    | some _ => reach t n l s
    | none => match Tr.get t a with
      | some b => reach t n (b.names ++ l) (Tr.put (some ()) s a)
      | none => reach t n l s
def Hp.gc (h : Hp) (v : V) : Hp := ⟨h.next, Tr.only (reach h.t 1000000 (v.names []) .leaf) h.t, h.fams, h.els⟩
theorem Rel.gc {Γ : Glob} {N0 : Nat} {w0 : Fr} {ρ : Ren} {h : Hp} {w : World} (H : Rel Γ N0 w0 ρ h w) (v : V) : Rel Γ N0 w0 ρ (h.gc v) w := by
  have hs : ∀ a x, (h.gc v).t.get a = some x → h.t.get a = some x := fun a x hx => Tr.get_only _ _ a x hx
  exact H.sub rfl hs (H.fam.sub rfl hs rfl) rfl

def moveEnds (s : Nat) (l : List (Nat × Nat)) : List (Nat × Nat) := l.map fun p => (p.1 + s, p.2)

def Hp.beside (h h0 : Hp) : Hp :=
  ⟨h.next + h0.next, Tr.beside h.next (Blk.shift h.next) h0.t h.t, putAll h.next (moveEnds h.next) h0.fams.list h.fams, Tr.beside h.next (fun e => e) h0.els h.els⟩

section
variable {Γ : Glob} {N0 : Nat} {w0 : Fr} {ρ ρ0 : Ren} {h h0 : Hp} {w w' : World}

theorem famOf_shift (s a : Nat) (x : Blk) : famOf (a + s) (x.shift s) = famOf a x + s := by cases x <;> rfl

theorem BlkR.moved {s : Nat} {N1 a : Nat} {x : Blk} (hN : N0 ≤ N1) (hx : BlkR ρ0 N1 w' a x) : BlkR (joinR s ρ ρ0) N0 w' (a + s) (x.shift s) := by
  obtain ⟨L, h1, h2, h3⟩ := hx.ex
  refine ⟨L, by rw [joinR_hi]; exact h1, Nat.le_trans hN h2, ?_⟩
  cases x with
  | cells f fb fz xs =>
    obtain ⟨arr, el, fr, g1, g2, g3, g4, g5⟩ := h3
    refine ⟨arr, el, fr, g1, g2, by rw [shifts_map]; simpa using g3, fun i y u hy hu => ?_, g5⟩
    rw [shifts_map, List.getElem?_map, Option.map_eq_some_iff] at hy
    obtain ⟨z, hz, rfl⟩ := hy
    exact (g4 i z u hz hu).shift
  | iter l p => obtain ⟨q, bs, hb, k⟩ := h3; exact ⟨q, bs, hb.shift, k⟩
  | mapo es c =>
    obtain ⟨arr, es0, g1, gb, gp, gq, g2, g3⟩ := h3
    refine ⟨arr, es0.map fun e => (e.1.shift s, e.2.shift s), g1, gb, fun h => by rw [gp h], gq.map _, by simpa using g2, fun i k e hk he => ?_⟩
    rw [List.getElem?_map, Option.map_eq_some_iff] at hk
    obtain ⟨z, hz, rfl⟩ := hk
    exact ⟨(g3 i z e hz he).1.shift, (g3 i z e hz he).2.shift⟩

theorem join_ext (H : Rel Γ N0 w0 ρ h w) : Ext ρ (joinR h.next ρ ρ0) := by
  intro a L ha
  have : a < h.next := by
    rcases Nat.lt_or_ge a h.next with hh | hh
    · exact hh
    · rw [H.fresh a hh] at ha; cases ha
  rw [joinR_lo this]; exact ha

theorem beside_t (H : Rel Γ N0 w0 ρ h w) (j : Nat) : (h.beside h0).t.get j = if j < h.next then h.t.get j else (h0.t.get (j - h.next)).map (Blk.shift h.next) :=
  Tr.get_beside (fun j x hx => (H.fam.lt j x hx).1) j

theorem beside_els (H : Rel Γ N0 w0 ρ h w) (j : Nat) : (h.beside h0).els.get j = if j < h.next then h.els.get j else (h0.els.get (j - h.next)).map (fun e => e) :=
  Tr.get_beside (fun j x hx => H.elt j x hx) j

theorem beside_cases (H : Rel Γ N0 w0 ρ h w) {a : Nat} {x : Blk} (hx : (h.beside h0).t.get a = some x) :
    (a < h.next ∧ h.t.get a = some x) ∨ ∃ b y, a = b + h.next ∧ h0.t.get b = some y ∧ x = y.shift h.next := by
  rw [beside_t H] at hx
  split at hx
  · exact .inl ⟨by assumption, hx⟩
  · obtain ⟨y, h1, h2⟩ := Option.map_eq_some_iff.1 hx
    exact .inr ⟨a - h.next, y, by omega, h1, h2.symm⟩

theorem FamOk.beside (H : Rel Γ N0 w0 ρ h w) (K : FamOk h0) : FamOk (h.beside h0) where
  mem := by
    intro a f fb fz xs hx
    rcases beside_cases H hx with ⟨h1, h2⟩ | ⟨b, y, rfl, h2, h3⟩
    · obtain ⟨l, g1, g2⟩ := H.fam.mem a f fb fz xs h2
      have hf : f < h.next := (H.fam.lt a _ h2).2
      refine ⟨l, ?_, g2⟩
      show (putAll h.next (moveEnds h.next) h0.fams.list h.fams).get f = some l
      rw [get_putAll (g := h0.fams.get) _ _ _ fun i x hh => (Tr.mem_list _ i x).1 hh, if_neg (by rintro ⟨hh, _⟩; omega)]
      exact g1
    · cases y <;> simp only [Blk.shift, Blk.cells.injEq, reduceCtorEq] at h3
      rename_i f0 fb0 fz0 xs0
      obtain ⟨rfl, rfl, rfl, rfl⟩ := h3
      obtain ⟨l, g1, g2⟩ := K.mem b _ _ _ _ h2
      refine ⟨moveEnds h.next l, ?_, ?_⟩
      · show (putAll h.next (moveEnds h.next) h0.fams.list h.fams).get (f0 + h.next) = some _
        have e : f0 + h.next - h.next = f0 := by omega
        rw [get_putAll (g := h0.fams.get) _ _ _ fun i x hh => (Tr.mem_list _ i x).1 hh, if_pos ⟨by omega, l, by rw [e]; exact (Tr.mem_list _ _ _).2 g1⟩, e, g1]; rfl
      · rw [shifts_map, List.length_map]
        exact List.mem_map.2 ⟨_, g2, rfl⟩
  sorted := by
    intro f l hl
    have hl' : (putAll h.next (moveEnds h.next) h0.fams.list h.fams).get f = some l := hl
    rw [get_putAll (g := h0.fams.get) _ _ _ fun i x hh => (Tr.mem_list _ i x).1 hh] at hl'
    split at hl'
    · obtain ⟨m, h1, rfl⟩ := Option.map_eq_some_iff.1 hl'
      exact List.pairwise_map.2 (K.sorted _ _ h1)
    · exact H.fam.sorted f l hl'
  lt := by
    intro a x hx
    have hn : (h.beside h0).next = h.next + h0.next := rfl
    rcases beside_cases H hx with ⟨h1, h2⟩ | ⟨b, y, rfl, h2, rfl⟩
    · have := H.fam.lt a x h2; omega
    · have := K.lt b y h2; rw [famOf_shift]; omega
  own := by
    intro a f fb fz xs b x ha hb hne
    rcases beside_cases H ha with ⟨h1, h2⟩ | ⟨a', y, rfl, h2, h3⟩ <;> rcases beside_cases H hb with ⟨k1, k2⟩ | ⟨b', z, rfl, k2, rfl⟩
    · exact H.fam.own a f fb fz xs b x h2 k2 hne
    · have := (H.fam.lt a _ h2).2
      simp only [famOf] at this; omega
    · cases y <;> simp only [Blk.shift, Blk.cells.injEq, reduceCtorEq] at h3
      obtain ⟨rfl, _⟩ := h3; omega
    · cases y <;> simp only [Blk.shift, Blk.cells.injEq, reduceCtorEq] at h3
      obtain ⟨rfl, _⟩ := h3
      have := K.own a' _ _ _ _ b' z h2 k2 (by intro f' fb' fz' xs' e; subst e; exact hne _ _ _ _ rfl)
      omega

/-- THE CALLER's HEAP, AND BESIDE IT WHAT THE CALLEE MADE -/
theorem Rel.beside (H : Rel Γ N0 w0 ρ h w) (K : Rel Γ w.heap.size ⟨w, 0, fun _ => none, []⟩ ρ0 h0 w') : Rel Γ N0 w0 (joinR h.next ρ ρ0) (h.beside h0) w' := by
  have H' := H.grow K.below
  have hN : N0 ≤ w.heap.size := Nat.le_trans H.hN0 H.below.size
  have hb0 : ∀ b y L, h0.t.get b = some y → ρ0 b = some L → w.heap.size ≤ L.b := by
    intro b y L hy hL
    obtain ⟨M, h1, h2, _⟩ := (K.blk b y (some_ne hL) hy).ex
    rw [hL] at h1; simp only [Option.some.injEq] at h1; subst h1; exact h2
  exact {
    below := H'.below
    hN0 := H.hN0
    glob := H.glob
    fresh := by
      intro a ha
      have hn : (h.beside h0).next = h.next + h0.next := rfl
      unfold joinR
      rw [if_neg (by omega)]
      exact K.fresh _ (by omega)
    lt := by
      intro a L ha
      unfold joinR at ha
      split at ha
      · exact H'.lt a L ha
      · exact K.lt _ L ha
    blk := by
      intro a x hne hx
      rcases beside_cases H hx with ⟨h1, h2⟩ | ⟨b, y, rfl, h2, rfl⟩
      · have := H'.blk a x (by rw [joinR_lo h1] at hne; exact hne) h2
        obtain ⟨L, g1, g2, g3⟩ := this.ex
        refine ⟨L, join_ext H a L g1, g2, ?_⟩
        cases x with
        | cells f fb fz xs =>
          obtain ⟨arr, el, fr, q1, q2, q3, q4, q5⟩ := g3
          exact ⟨arr, el, fr, q1, q2, q3, fun i y u hy hu => (q4 i y u hy hu).ext (join_ext H), q5⟩
        | iter l p => obtain ⟨q, bs, hb, k⟩ := g3; exact ⟨q, bs, hb.ext (join_ext H), k⟩
        | mapo es c =>
          obtain ⟨arr, es0, q1, qb, qp, qq, q2, q3⟩ := g3
          exact ⟨arr, es0, q1, qb, qp, qq, q2, fun i k e hk he => ⟨(q3 i k e hk he).1.ext (join_ext H), (q3 i k e hk he).2.ext (join_ext H)⟩⟩
      · exact (K.blk b y (by rw [joinR_hi] at hne; exact hne) h2).moved hN
    sep := by
      intro a b x y L M hx hy hL hM hf
      rcases beside_cases H hx with ⟨h1, h2⟩ | ⟨a', x', rfl, h2, rfl⟩ <;> rcases beside_cases H hy with ⟨k1, k2⟩ | ⟨b', y', rfl, k2, rfl⟩
      · rw [joinR_lo h1] at hL; rw [joinR_lo k1] at hM; exact H.sep a b x y L M h2 k2 hL hM hf
      · rw [joinR_lo h1] at hL; rw [joinR_hi] at hM
        have := H.lt a L hL; have := hb0 _ _ _ k2 hM; omega
      · rw [joinR_hi] at hL; rw [joinR_lo k1] at hM
        have := H.lt b M hM; have := hb0 _ _ _ h2 hL; omega
      · rw [joinR_hi] at hL hM
        rw [famOf_shift, famOf_shift] at hf
        exact K.sep a' b' x' y' L M h2 k2 hL hM (by omega)
    same := by
      intro a b f fb fz xs gb gz ys L M hx hy hL hM hb
      rcases beside_cases H hx with ⟨h1, h2⟩ | ⟨a', x', rfl, h2, h3⟩ <;> rcases beside_cases H hy with ⟨k1, k2⟩ | ⟨b', y', rfl, k2, k3⟩
      · rw [joinR_lo h1] at hL; rw [joinR_lo k1] at hM; exact H.same a b f fb fz xs gb gz ys L M h2 k2 hL hM hb
      · rw [joinR_lo h1] at hL; rw [joinR_hi] at hM
        have := H.lt a L hL; have := hb0 _ _ _ k2 hM; omega
      · rw [joinR_hi] at hL; rw [joinR_lo k1] at hM
        have := H.lt b M hM; have := hb0 _ _ _ h2 hL; omega
      · rw [joinR_hi] at hL hM
        cases x' <;> simp only [Blk.shift, Blk.cells.injEq, reduceCtorEq] at h3
        cases y' <;> simp only [Blk.shift, Blk.cells.injEq, reduceCtorEq] at k3
        obtain ⟨rfl, rfl, rfl, rfl⟩ := h3
        obtain ⟨e, rfl, rfl, rfl⟩ := k3
        have e' := Nat.add_right_cancel e
        subst e'
        exact K.same a' b' _ _ _ _ _ _ _ L M h2 k2 hL hM hb
    fam := FamOk.beside H K.fam
    elk := by
      intro a e hne he
      rw [beside_els H] at he
      split at he
      · rename_i hlt
        obtain ⟨L, arr, fr, q1, q2⟩ := H'.elk a e (by rw [joinR_lo hlt] at hne; exact hne) he
        exact ⟨L, arr, fr, by rw [joinR_lo hlt]; exact q1, q2⟩
      · rename_i hnlt
        obtain ⟨e0, h1, rfl⟩ := Option.map_eq_some_iff.1 he
        obtain ⟨L, arr, fr, q1, q2⟩ := K.elk _ _ (by unfold joinR at hne; rw [if_neg hnlt] at hne; exact hne) h1
        refine ⟨L, arr, fr, ?_, q2⟩
        unfold joinR; rw [if_neg (by assumption)]; exact q1
    elt := by
      intro a e he
      have hn : (h.beside h0).next = h.next + h0.next := rfl
      rw [beside_els H] at he
      split at he
      · omega
      · obtain ⟨e0, h1, rfl⟩ := Option.map_eq_some_iff.1 he
        have := K.elt _ _ h1
        omega
    old := by
      have hn : (h.beside h0).next = h.next + h0.next := rfl
      have h1 := H.old.1
      refine ⟨by omega, fun a ha => ?_⟩
      rw [joinR_lo (by omega)]
      exact H.old.2 a ha
    kept := H.kept.step (fun b _ hlt => K.below.block b hlt) fun a x L hx hL => by
      rcases beside_cases H hx with ⟨h1, h2⟩ | ⟨b, y, rfl, h2, rfl⟩
      · rw [joinR_lo h1] at hL; exact .inl ⟨a, x, L, h2, hL, rfl⟩
      · rw [joinR_hi] at hL; exact .inr (hb0 _ _ _ h2 hL) }
end
end Go.Proofs.YtbfdgdigaiimgaaDoor.HM
