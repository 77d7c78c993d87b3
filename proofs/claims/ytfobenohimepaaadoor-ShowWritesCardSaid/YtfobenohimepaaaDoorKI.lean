/- Boxes that come in: what the cells of a list of boxes hold. -/
import Derived.Test.YtfobenohimepaaaDoorKG
import Derived.Deep.Slices
import Derived.Deep.Fields
import Derived.ChangeSame
namespace Go.Proofs.YtfobenohimepaaaDoor.Num
open Go Go.RowKit Go.ChangeShapes Go.WideShapes Go.Deep
section
variable {H : Type} {enc : TypeId × Value → H} {P : Program} {w : World} {base : Nat} {spare : Nat → Bool} {held : Bool}
theorem openFields {t e : TypeId} {fs : Array Field} {fuel : Nat} {cs : List Value} {x : DataW H × List MemPlace} (ht : P.underlying t = some (.slice e)) (he : P.underlying e = some (.struct fs))
    (hone : oneCellFields P fs = true) (hC : P.cellsOf e = fs.size) (h : DataW.trod enc P w base spare held fuel t cs = some x) :
    (cs = [.slice none 0 0] ∧ x = (.nil, [])) ∨
    ∃ (a : Addr) (len cap m : Nat) (D : Nat → DataW H) (Pl : Nat → List MemPlace), cs = [.slice (some a) len cap] ∧ base ≤ a.block ∧ len ≤ cap ∧ cap ≤ maxLen ∧ m = (if spare a.block then cap else len) ∧
      x = (.slice ((List.range len).map D) ((List.range (m - len)).map fun j => D (len + j)), MemPlace.row a (m * fs.size) ++ (List.range m).flatMap Pl) ∧
      ∀ i, i < m → ∃ (ys : List (DataW H × List MemPlace)) (n : Nat), D i = .agg (ys.map (·.1)) ∧ Pl i = ys.flatMap (·.2) ∧ ys.length = fs.size ∧
        ∀ (j : Nat) (f : Field), fs[j]? = some f → ∃ (v : Value) (y : DataW H × List MemPlace), w.cell? (a.add (i * fs.size + j)) = some v ∧ ys[j]? = some y ∧ DataW.trod enc P w base spare held n f.type [v] = some y := by
  rcases open_slice ht h with h0 | ⟨a, len, cap, m, n, D, Pl, hcs, hb, hl, hm, hmm, hx, hi⟩
  · exact .inl h0
  · refine .inr ⟨a, len, cap, m, D, Pl, hcs, hb, hl, hm, hmm, by rw [hC] at hx; exact hx, fun i him => ?_⟩
    obtain ⟨cs', hc, ht'⟩ := hi i him
    rw [hC] at hc
    obtain ⟨ys, n', hn', hy, hlen, hyl, hf⟩ := DataW.trod_struct he ht'
    obtain ⟨_, hcl, hat⟩ := World.cells?_some hc
    simp only [Prod.mk.injEq] at hy
    refine ⟨ys, n', hy.1, hy.2, hyl, fun j f hj => ?_⟩
    obtain ⟨ho, hk⟩ := hone_of hone j f hj
    have hjl : j < fs.size := (Array.getElem?_eq_some_iff.1 hj).1
    have hcell := hat j hjl
    have hv : cs'[j]? = some (cs'[j]'(by omega)) := List.getElem?_eq_getElem (by omega)
    have h1 := hf j f hj
    rw [ho, hk] at h1
    have hone' : (cs'.drop j).take 1 = [cs'[j]'(by omega)] := by
      rw [List.drop_eq_getElem_cons (by omega)]
      rfl
    rw [hone'] at h1
    have hys : ys[j]? = some (ys[j]'(by omega)) := List.getElem?_eq_getElem (by omega)
    refine ⟨_, _, ?_, hys, h1.trans hys⟩
    rw [← Go.Deep.add_add, hcell, hv]
end
theorem cell_lt {w : World} {a : Addr} {v : Value} (h : w.cell? a = some v) : a.block < w.heap.size := by
  rcases Nat.lt_or_ge a.block w.heap.size with h' | h'
  · exact h'
  · unfold World.cell? at h
    rw [Array.getElem?_eq_none h'] at h
    simp at h
section
variable {H : Type} {enc : TypeId × Value → H} {w : World} {base : Nat} {spare : Nat → Bool} {held : Bool}
theorem list_of {α : Type} (n : Nat) (q : Nat → α → Prop) (h : ∀ i, i < n → ∃ x, q i x) : ∃ l : List α, l.length = n ∧ ∀ i x, l[i]? = some x → q i x := by
  induction n with
  | zero => exact ⟨[], rfl, fun i x hx => by simp at hx⟩
  | succ n ih =>
    obtain ⟨l, hl, hq⟩ := ih fun i hi => h i (by omega)
    obtain ⟨x, hx⟩ := h n (by omega)
    refine ⟨l ++ [x], by simp [hl], fun i y hy => ?_⟩
    by_cases hi : i < l.length
    · rw [List.getElem?_append_left hi] at hy; exact hq i y hy
    · rw [List.getElem?_append_right (by omega)] at hy
      have h0 : i - l.length = 0 := by
        rcases Nat.eq_zero_or_pos (i - l.length) with h0 | h0
        · exact h0
        · rw [List.getElem?_eq_none (by simp; omega)] at hy; cases hy
      rw [h0] at hy
      simp at hy; subst hy
      rwa [show i = n by omega]
theorem int_in {n : Int} (h : (Lit.int IntKind.i64 n).wf = true) : -9223372036854775808 ≤ n ∧ n ≤ 9223372036854775807 := by
  simp [Lit.wf, IntKind.min, IntKind.max, IntKind.bits, IntKind.signed] at h
  omega
theorem open_pairs {fuel : Nat} {v : Value} {x : DataW H × List MemPlace} (h : DataW.trod enc Tryd.prog w base spare held fuel 26 [v] = some x) :
    ∃ (a : Option Addr) (n c : Nat) (l : List PairD), v = .slice a n c ∧ l.length = n ∧ n ≤ c ∧ n ≤ maxLen ∧ (∀ p ∈ l, p.In) ∧ PairsAt w w.heap.size a l := by
  rcases openFields Tryd.underlying26 Tryd.underlying34 (by kernel_rfl) (by kernel_rfl) h with ⟨hv, _⟩ | ⟨a, len, cap, m, D, Pl, hv, hb, hl, hm, hmm, hx, hi⟩
  · simp only [List.cons.injEq, and_true] at hv; subst hv
    exact ⟨none, 0, 0, [], rfl, rfl, Nat.le_refl _, Nat.zero_le _, fun p hp => by simp at hp, fun k p hp => by simp at hp⟩
  · simp only [List.cons.injEq, and_true] at hv; subst hv
    have hlm : len ≤ m := by rw [hmm]; split <;> omega
    obtain ⟨l, hll, hq⟩ := list_of len (fun i (p : PairD) => p.In ∧ w.cell? (a.add (i * 4)) = some (.string p.nm) ∧ w.cell? (a.add (i * 4 + 1)) = some (.int .i64 p.n) ∧ w.cell? (a.add (i * 4 + 2)) = some (.bool p.rev) ∧ w.cell? (a.add (i * 4 + 3)) = some (.bool p.auto)) (fun i hlt => by
      obtain ⟨ys, n, _, _, _, hf⟩ := hi i (by omega)
      obtain ⟨v0, y0, c0, _, t0⟩ := hf 0 _ rfl
      obtain ⟨v1, y1, c1, _, t1⟩ := hf 1 _ rfl
      obtain ⟨v2, y2, c2, _, t2⟩ := hf 2 _ rfl
      obtain ⟨v3, y3, c3, _, t3⟩ := hf 3 _ rfl
      obtain ⟨s0, e0, _, z0⟩ := DataW.trod_string Tryd.underlying9 t0
      obtain ⟨s1, e1, _, z1⟩ := DataW.trod_int Tryd.underlying3 t1
      obtain ⟨s2, e2, _⟩ := DataW.trod_bool Tryd.underlying4 t2
      obtain ⟨s3, e3, _⟩ := DataW.trod_bool Tryd.underlying4 t3
      simp only [List.cons.injEq, and_true] at e0 e1 e2 e3
      subst e0 e1 e2 e3
      have := int_in z1
      exact ⟨⟨s0, s1, s2, s3⟩, ⟨z0, this.1, this.2⟩, c0, c1, c2, c3⟩)
    refine ⟨some a, len, cap, l, rfl, hll, hl, by omega, fun p hp => ?_, fun k p hk => ?_⟩
    · obtain ⟨k, hk, hk2⟩ := List.mem_iff_getElem.1 hp
      exact (hq k p (by rw [List.getElem?_eq_getElem hk, hk2])).1
    · obtain ⟨_, c0, c1, c2, c3⟩ := hq k p hk
      exact ⟨a, rfl, by have := cell_lt c0; rwa [block_of_add] at this, c0, c1, c2, c3⟩
theorem open_boxes {fuel : Nat} {v : Value} {x : DataW H × List MemPlace} (h : DataW.trod enc Tryd.prog w base spare held fuel 22 [v] = some x) :
    ∃ (a : Option Addr) (n c : Nat) (l : List BoxD), v = .slice a n c ∧ l.length = n ∧ n ≤ c ∧ n ≤ maxLen ∧ (∀ b ∈ l, b.In) ∧ BoxesAt w w.heap.size a l := by
  rcases openFields Tryd.underlying22 Tryd.underlying28 (by kernel_rfl) (by kernel_rfl) h with ⟨hv, _⟩ | ⟨a, len, cap, m, D, Pl, hv, hb, hl, hm, hmm, hx, hi⟩
  · simp only [List.cons.injEq, and_true] at hv; subst hv
    exact ⟨none, 0, 0, [], rfl, rfl, Nat.le_refl _, Nat.zero_le _, fun p hp => by simp at hp, fun k p hp => by simp at hp⟩
  · simp only [List.cons.injEq, and_true] at hv; subst hv
    have hlm : len ≤ m := by rw [hmm]; split <;> omega
    obtain ⟨l, hll, hq⟩ := list_of len (fun i (b : BoxD) => b.In ∧ ∃ a' n' c', BoxAt w w.heap.size a i b a' n' c') (fun i hlt => by
      obtain ⟨ys, n, _, _, _, hf⟩ := hi i (by omega)
      obtain ⟨v0, y0, c0, _, t0⟩ := hf 0 _ rfl
      obtain ⟨v1, y1, c1, _, t1⟩ := hf 1 _ rfl
      obtain ⟨v2, y2, c2, _, t2⟩ := hf 2 _ rfl
      obtain ⟨v3, y3, c3, _, t3⟩ := hf 3 _ rfl
      obtain ⟨v4, y4, c4, _, t4⟩ := hf 4 _ rfl
      obtain ⟨v5, y5, c5, _, t5⟩ := hf 5 _ rfl
      obtain ⟨v6, y6, c6, _, t6⟩ := hf 6 _ rfl
      obtain ⟨s0, e0, _, z0⟩ := DataW.trod_int Tryd.underlying3 t0
      obtain ⟨s1, e1, _, z1⟩ := DataW.trod_int Tryd.underlying3 t1
      obtain ⟨s2, e2, _, z2⟩ := DataW.trod_int Tryd.underlying3 t2
      obtain ⟨s3, e3, _, z3⟩ := DataW.trod_string Tryd.underlying9 t3
      obtain ⟨s4, e4, _, z4⟩ := DataW.trod_string Tryd.underlying9 t4
      obtain ⟨s5, e5, _⟩ := DataW.trod_bool Tryd.underlying4 t5
      obtain ⟨a', n', c', lp, rfl, hln, hnc, hnm, hin, hat⟩ := open_pairs t6
      simp only [List.cons.injEq, and_true] at e0 e1 e2 e3 e4 e5
      subst e0 e1 e2 e3 e4 e5
      have i0 := int_in z0
      have i1 := int_in z1
      have i2 := int_in z2
      refine ⟨⟨s0, s1, s2, s3, s4, s5, lp⟩, ⟨i0.1, i0.2, i1.1, i1.2, i2.1, i2.2, z3, z4, by rw [hln]; exact hnm, hin⟩, a', n', c', c0, ?_, ?_, ?_, ?_, ?_, ?_, hln, hnc, hat⟩
      · rw [← add_off a (i * 7) 1 (by decide)]; exact c1
      · rw [← add_off a (i * 7) 2 (by decide)]; exact c2
      · rw [← add_off a (i * 7) 3 (by decide)]; exact c3
      · rw [← add_off a (i * 7) 4 (by decide)]; exact c4
      · rw [← add_off a (i * 7) 5 (by decide)]; exact c5
      · rw [← add_off a (i * 7) 6 (by decide)]; exact c6)
    refine ⟨some a, len, cap, l, rfl, hll, hl, by omega, fun p hp => ?_, fun k p hk => ?_⟩
    · obtain ⟨k, hk, hk2⟩ := List.mem_iff_getElem.1 hp
      exact (hq k p (by rw [List.getElem?_eq_getElem hk, hk2])).1
    · obtain ⟨_, a', n', c', hb⟩ := hq k p hk
      exact ⟨a, a', n', c', rfl, by have := cell_lt hb.1; rwa [block_of_add] at this, hb⟩
end
end Go.Proofs.YtfobenohimepaaaDoor.Num
