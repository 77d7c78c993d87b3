/- Styles and values that come in: what their cells hold. -/
import Derived.Test.YtkpoeilfnopgbaaGreatDoorSYu
import Derived.Deep.Slices
import Derived.Deep.Fields
import Derived.ChangeSame
import Derived.SliceStrings
import Derived.Deep.Strs
namespace Go.Proofs.YtkpoeilfnopgbaaGreatDoor.Sty
open Go Go.RowKit Go.ChangeShapes Go.WideShapes Go.Deep
section
variable {H : Type} {enc : TypeId × Value → H} {P : Program} {w : World} {base : Nat} {spare : Nat → Bool} {held : Bool}
theorem openFields {t e : TypeId} {fs : Array Field} {fuel : Nat} {cs : List Value} {x : DataW H × List MemPlace} (ht : P.underlying t = some (.slice e)) (he : P.underlying e = some (.struct fs))
    (hone : oneCellFields P fs = true) (hC : P.cellsOf e = fs.size) (h : DataW.trod enc P w base spare held fuel t cs = some x) :
    cs = [.slice none 0 0] ∨ ∃ (a : Addr) (len cap m : Nat), cs = [.slice (some a) len cap] ∧ len ≤ m ∧ len ≤ cap ∧ cap ≤ maxLen ∧
      ∀ i, i < m → ∃ n : Nat, ∀ (j : Nat) (f : Field), fs[j]? = some f → ∃ (v : Value) (y : DataW H × List MemPlace), w.cell? (a.add (i * fs.size + j)) = some v ∧ DataW.trod enc P w base spare held n f.type [v] = some y := by
  rcases open_slice ht h with h0 | ⟨a, len, cap, m, n, D, Pl, hcs, hb, hl, hm, hmm, hx, hi⟩
  · exact .inl h0.1
  · refine .inr ⟨a, len, cap, m, hcs, by rw [hmm]; split <;> omega, hl, hm, fun i him => ?_⟩
    obtain ⟨cs', hc, ht'⟩ := hi i him
    rw [hC] at hc
    obtain ⟨ys, n', hn', hy, hlen, hyl, hf⟩ := DataW.trod_struct he ht'
    obtain ⟨_, hcl, hat⟩ := World.cells?_some hc
    refine ⟨n', fun j f hj => ?_⟩
    obtain ⟨ho, hk⟩ := hone_of hone j f hj
    have hjl : j < fs.size := (Array.getElem?_eq_some_iff.1 hj).1
    have hcell := hat j hjl
    have hv : cs'[j]? = some (cs'[j]'(by omega)) := List.getElem?_eq_getElem (by omega)
    have h1 := hf j f hj
    rw [ho, hk] at h1
    have hone' : (cs'.drop j).take 1 = [cs'[j]'(by omega)] := by
      rw [List.drop_eq_getElem_cons (by omega)]
      rfl
    rw [hone'] at h1
    have hys : ys[j]? = some (ys[j]'(by omega)) := List.getElem?_eq_getElem (by omega)
    refine ⟨_, _, ?_, h1.trans hys⟩
    rw [← Go.Deep.add_add, hcell, hv]
end
theorem list_of {α : Type} (n : Nat) (q : Nat → α → Prop) (h : ∀ i, i < n → ∃ x, q i x) : ∃ l : List α, l.length = n ∧ ∀ i x, l[i]? = some x → q i x := by
  induction n with
  | zero => exact ⟨[], rfl, fun i x hx => by simp at hx⟩
  | succ n ih =>
    obtain ⟨l, hl, hq⟩ := ih fun i hi => h i (by omega)
    obtain ⟨x, hx⟩ := h n (by omega)
    refine ⟨l ++ [x], by simp [hl], fun i y hy => ?_⟩
    by_cases hi : i < l.length
    · rw [List.getElem?_append_left hi] at hy; exact hq i y hy
    · rw [List.getElem?_append_right (by omega)] at hy
      have h0 : i - l.length = 0 := by
        rcases Nat.eq_zero_or_pos (i - l.length) with h0 | h0
        · exact h0
        · rw [List.getElem?_eq_none (by simp; omega)] at hy; cases hy
      rw [h0] at hy
      simp at hy; subst hy
      rwa [show i = n by omega]
theorem row_of {α : Type} {w : World} {a : Addr} {c : Nat} (l : List α) (f : List α → List Value) (hlen : (f l).length = l.length * 4) (g : α → Nat → Value)
    (hat : ∀ (j : Nat) x, l[j]? = some x → ∀ r, r < 4 → (f l)[j * 4 + r]? = some (g x r)) (hc : ∀ (j : Nat) x, l[j]? = some x → ∀ r, r < 4 → w.cell? (a.add (j * 4 + r)) = some (g x r)) :
    RowAt l.length (f l) (.slice (some a) l.length c) w := by
  refine ⟨_, _, rfl, fun hn => ?_⟩
  obtain ⟨x0, hx0⟩ : ∃ x, l[0]? = some x := ⟨_, List.getElem?_eq_getElem hn⟩
  have h0 := hc 0 x0 hx0 0 (by omega)
  obtain ⟨b, o, spot⟩ := a
  have hspot : spot = none := by simpa [Addr.add] using World.cell?_spot h0
  subst hspot
  refine ⟨b, o, rfl, ?_, fun j u hj => ?_⟩
  · rw [Go.WideShapes.add_plain] at h0; exact World.block_lt_of_cell? _ _ h0
  · have hjl := (List.getElem?_eq_some_iff.1 hj).1
    obtain ⟨x, hx⟩ : ∃ x, l[j / 4]? = some x := ⟨_, List.getElem?_eq_getElem (by omega)⟩
    have e : j / 4 * 4 + j % 4 = j := by omega
    have h1 := hat (j / 4) x hx (j % 4) (by omega)
    have h2 := hc (j / 4) x hx (j % 4) (by omega)
    rw [e] at h1 h2
    rw [h1] at hj
    rw [Go.WideShapes.add_plain] at h2
    rw [h2, hj]
section
variable {H : Type} {enc : TypeId × Value → H} {w : World} {base : Nat} {spare : Nat → Bool} {held : Bool}
def gI (x : Itm) : Nat → Value
  | 0 => .int .i64 x.1
  | 1 => .string x.2.1
  | 2 => .string x.2.2.1
  | _ => .string x.2.2.2
def gP (x : Pr) : Nat → Value
  | 0 => .string x.1
  | 1 => .int .i64 x.2.1
  | 2 => .bool x.2.2.1
  | _ => .bool x.2.2.2
theorem four {p : Nat → Prop} (h0 : p 0) (h1 : p 1) (h2 : p 2) (h3 : p 3) : ∀ r, r < 4 → p r := fun r hr => by
  have : r = 0 ∨ r = 1 ∨ r = 2 ∨ r = 3 := by omega
  rcases this with rfl | rfl | rfl | rfl <;> assumption
theorem nil_row (v : Value) (h : v = .slice none 0 0) : RowAt 0 [] v w := ⟨none, 0, h, fun h => by cases h⟩
theorem open_items {fuel : Nat} {v : Value} {x : DataW H × List MemPlace} (h : DataW.trod enc Tryz.prog w base spare held fuel 23 [v] = some x) : ∃ l : List Itm, l.length ≤ maxLen ∧ RowAt l.length (iC l) v w := by
  rcases openFields Tryz.underlying23 Tryz.underlying46 (by kernel_rfl) (by kernel_rfl) h with hv | ⟨a, len, cap, m, hv, hlm, hl, hm, hi⟩
  · simp only [List.cons.injEq, and_true] at hv
    exact ⟨[], Nat.zero_le _, nil_row v hv⟩
  · simp only [List.cons.injEq, and_true] at hv; subst hv
    obtain ⟨l, hll, hq⟩ := list_of len (fun i (p : Itm) => ∀ r, r < 4 → w.cell? (a.add (i * 4 + r)) = some (gI p r)) (fun i hlt => by
      obtain ⟨n, hf⟩ := hi i (by omega)
      obtain ⟨v0, y0, c0, t0⟩ := hf 0 _ rfl
      obtain ⟨v1, y1, c1, t1⟩ := hf 1 _ rfl
      obtain ⟨v2, y2, c2, t2⟩ := hf 2 _ rfl
      obtain ⟨v3, y3, c3, t3⟩ := hf 3 _ rfl
      obtain ⟨s0, e0, _, z0⟩ := DataW.trod_int Tryz.underlying3 t0
      obtain ⟨s1, e1, _⟩ := DataW.trod_string Tryz.underlying9 t1
      obtain ⟨s2, e2, _⟩ := DataW.trod_string Tryz.underlying9 t2
      obtain ⟨s3, e3, _⟩ := DataW.trod_string Tryz.underlying9 t3
      simp only [List.cons.injEq, and_true] at e0 e1 e2 e3
      subst e0 e1 e2 e3
      exact ⟨(s0, s1, s2, s3), four c0 c1 c2 c3⟩)
    refine ⟨l, by omega, ?_⟩
    subst hll
    exact row_of l iC (iC_length l) gI (fun j x hx => four (iC_at l j x hx).1 (iC_at l j x hx).2.1 (iC_at l j x hx).2.2.1 (iC_at l j x hx).2.2.2) hq
theorem open_pairs {fuel : Nat} {v : Value} {x : DataW H × List MemPlace} (h : DataW.trod enc Tryz.prog w base spare held fuel 25 [v] = some x) : ∃ l : List Pr, l.length ≤ maxLen ∧ RowAt l.length (pC l) v w := by
  rcases openFields Tryz.underlying25 Tryz.underlying68 (by kernel_rfl) (by kernel_rfl) h with hv | ⟨a, len, cap, m, hv, hlm, hl, hm, hi⟩
  · simp only [List.cons.injEq, and_true] at hv
    exact ⟨[], Nat.zero_le _, nil_row v hv⟩
  · simp only [List.cons.injEq, and_true] at hv; subst hv
    obtain ⟨l, hll, hq⟩ := list_of len (fun i (p : Pr) => ∀ r, r < 4 → w.cell? (a.add (i * 4 + r)) = some (gP p r)) (fun i hlt => by
      obtain ⟨n, hf⟩ := hi i (by omega)
      obtain ⟨v0, y0, c0, t0⟩ := hf 0 _ rfl
      obtain ⟨v1, y1, c1, t1⟩ := hf 1 _ rfl
      obtain ⟨v2, y2, c2, t2⟩ := hf 2 _ rfl
      obtain ⟨v3, y3, c3, t3⟩ := hf 3 _ rfl
      obtain ⟨s0, e0, _⟩ := DataW.trod_string Tryz.underlying9 t0
      obtain ⟨s1, e1, _⟩ := DataW.trod_int Tryz.underlying3 t1
      obtain ⟨s2, e2, _⟩ := DataW.trod_bool Tryz.underlying4 t2
      obtain ⟨s3, e3, _⟩ := DataW.trod_bool Tryz.underlying4 t3
      simp only [List.cons.injEq, and_true] at e0 e1 e2 e3
      subst e0 e1 e2 e3
      exact ⟨(s0, s1, s2, s3), four c0 c1 c2 c3⟩)
    refine ⟨l, by omega, ?_⟩
    subst hll
    exact row_of l pC (pC_length l) gP (fun j x hx => four (pC_at l j x hx).1 (pC_at l j x hx).2.1 (pC_at l j x hx).2.2.1 (pC_at l j x hx).2.2.2) hq
theorem open_texts {fuel : Nat} {v : Value} {x : DataW H × List MemPlace} (h : DataW.trod enc Tryz.prog w base spare held fuel 24 [v] = some x) : ∃ l : List ByteArray, l.length ≤ maxLen ∧ RowAt l.length (qC l) v w := by
  rcases open_strs Tryz.underlying24 Tryz.underlying9 (by kernel_rfl) h with ⟨hv, _⟩ | ⟨a, len, cap, m, Sx, hv, _, hl, hm, hmm, _, hi⟩
  · simp only [List.cons.injEq, and_true] at hv
    exact ⟨[], Nat.zero_le _, nil_row v hv⟩
  · simp only [List.cons.injEq, and_true] at hv; subst hv
    have hlm : len ≤ m := by rw [hmm]; split <;> omega
    obtain ⟨l, hll, hq⟩ := list_of len (fun i (s : ByteArray) => w.cell? (a.add i) = some (.string s)) (fun i hlt => ⟨Sx i, (hi i (by omega)).1⟩)
    refine ⟨l, by omega, _, _, by rw [hll], fun hn => ?_⟩
    obtain ⟨x0, hx0⟩ : ∃ x, l[0]? = some x := ⟨_, List.getElem?_eq_getElem hn⟩
    have h0 := hq 0 x0 hx0
    obtain ⟨b, o, spot⟩ := a
    have hspot : spot = none := by simpa [Addr.add] using World.cell?_spot h0
    subst hspot
    refine ⟨b, o, rfl, ?_, fun j u hj => ?_⟩
    · rw [Go.WideShapes.add_plain] at h0; exact World.block_lt_of_cell? _ _ h0
    · have hjl := (List.getElem?_eq_some_iff.1 hj).1
      rw [qC_length] at hjl
      obtain ⟨x, hx⟩ : ∃ x, l[j]? = some x := ⟨_, List.getElem?_eq_getElem (by omega)⟩
      have h2 := hq j x hx
      rw [qC_at l j x hx] at hj
      rw [Go.WideShapes.add_plain] at h2
      rw [h2, hj]
def Mx (s : S) : Prop := s.con.length ≤ maxLen ∧ s.quo.length ≤ maxLen ∧ s.rst.length ≤ maxLen ∧ s.add.length ≤ maxLen ∧ s.set.length ≤ maxLen
theorem open_style {fuel : Nat} {cs : List Value} {x : DataW H × List MemPlace} (h : DataW.trod enc Tryz.prog w base spare held fuel 27 cs = some x) :
    ∃ (s : S) (vc vq vr va vs : Value), cs = [.string s.disp, .string s.lt, .string s.col, vc, .bool s.nor, .bool s.non, vq, .bool s.aut, vr, va, vs] ∧ Mx s ∧ Parts s vc vq vr va vs w := by
  obtain ⟨ys, n, _, _, hlen, hyl, hf⟩ := DataW.trod_struct Tryz.underlying27 h
  rw [show Tryz.prog.cellsOf 27 = 11 by kernel_rfl] at hlen
  rcases cs with _ | ⟨b0, _ | ⟨b1, _ | ⟨b2, _ | ⟨b3, _ | ⟨b4, _ | ⟨b5, _ | ⟨b6, _ | ⟨b7, _ | ⟨b8, _ | ⟨b9, _ | ⟨b10, _ | ⟨b11, r⟩⟩⟩⟩⟩⟩⟩⟩⟩⟩⟩⟩ <;> simp only [List.length_cons, List.length_nil] at hlen <;> try omega
  have k1 : Tryz.prog.cellsOf 9 = 1 := by kernel_rfl
  have k2 : Tryz.prog.cellsOf 4 = 1 := by kernel_rfl
  have k3 : Tryz.prog.cellsOf 23 = 1 := by kernel_rfl
  have k4 : Tryz.prog.cellsOf 24 = 1 := by kernel_rfl
  have k5 : Tryz.prog.cellsOf 25 = 1 := by kernel_rfl
  have t0 : DataW.trod enc Tryz.prog w base spare held n 9 ((([b0, b1, b2, b3, b4, b5, b6, b7, b8, b9, b10] : List Value).drop 0).take (Tryz.prog.cellsOf 9)) = ys[0]? := hf 0 _ rfl
  have t1 : DataW.trod enc Tryz.prog w base spare held n 9 ((([b0, b1, b2, b3, b4, b5, b6, b7, b8, b9, b10] : List Value).drop 1).take (Tryz.prog.cellsOf 9)) = ys[1]? := hf 1 _ rfl
  have t2 : DataW.trod enc Tryz.prog w base spare held n 9 ((([b0, b1, b2, b3, b4, b5, b6, b7, b8, b9, b10] : List Value).drop 2).take (Tryz.prog.cellsOf 9)) = ys[2]? := hf 2 _ rfl
  have t3 : DataW.trod enc Tryz.prog w base spare held n 23 ((([b0, b1, b2, b3, b4, b5, b6, b7, b8, b9, b10] : List Value).drop 3).take (Tryz.prog.cellsOf 23)) = ys[3]? := hf 3 _ rfl
  have t4 : DataW.trod enc Tryz.prog w base spare held n 4 ((([b0, b1, b2, b3, b4, b5, b6, b7, b8, b9, b10] : List Value).drop 4).take (Tryz.prog.cellsOf 4)) = ys[4]? := hf 4 _ rfl
  have t5 : DataW.trod enc Tryz.prog w base spare held n 4 ((([b0, b1, b2, b3, b4, b5, b6, b7, b8, b9, b10] : List Value).drop 5).take (Tryz.prog.cellsOf 4)) = ys[5]? := hf 5 _ rfl
  have t6 : DataW.trod enc Tryz.prog w base spare held n 24 ((([b0, b1, b2, b3, b4, b5, b6, b7, b8, b9, b10] : List Value).drop 6).take (Tryz.prog.cellsOf 24)) = ys[6]? := hf 6 _ rfl
  have t7 : DataW.trod enc Tryz.prog w base spare held n 4 ((([b0, b1, b2, b3, b4, b5, b6, b7, b8, b9, b10] : List Value).drop 7).take (Tryz.prog.cellsOf 4)) = ys[7]? := hf 7 _ rfl
  have t8 : DataW.trod enc Tryz.prog w base spare held n 25 ((([b0, b1, b2, b3, b4, b5, b6, b7, b8, b9, b10] : List Value).drop 8).take (Tryz.prog.cellsOf 25)) = ys[8]? := hf 8 _ rfl
  have t9 : DataW.trod enc Tryz.prog w base spare held n 25 ((([b0, b1, b2, b3, b4, b5, b6, b7, b8, b9, b10] : List Value).drop 9).take (Tryz.prog.cellsOf 25)) = ys[9]? := hf 9 _ rfl
  have t10 : DataW.trod enc Tryz.prog w base spare held n 25 ((([b0, b1, b2, b3, b4, b5, b6, b7, b8, b9, b10] : List Value).drop 10).take (Tryz.prog.cellsOf 25)) = ys[10]? := hf 10 _ rfl
  clear hf
  simp only [k1, k2, k3, k4, k5, List.drop_zero, List.drop_succ_cons, List.take_succ_cons, List.take_zero] at t0 t1 t2 t3 t4 t5 t6 t7 t8 t9 t10
  have get : ∀ (j : Nat) (z : Option (DataW H × List MemPlace)), ys[j]? = z → j < ys.length → ∃ y, z = some y := fun j z hz hj => ⟨ys[j], by rw [← hz, List.getElem?_eq_getElem hj]⟩
  have hyl : ys.length = 11 := hyl
  obtain ⟨y0, e0⟩ := get 0 _ rfl (by omega)
  obtain ⟨y1, e1⟩ := get 1 _ rfl (by omega)
  obtain ⟨y2, e2⟩ := get 2 _ rfl (by omega)
  obtain ⟨y3, e3⟩ := get 3 _ rfl (by omega)
  obtain ⟨y4, e4⟩ := get 4 _ rfl (by omega)
  obtain ⟨y5, e5⟩ := get 5 _ rfl (by omega)
  obtain ⟨y6, e6⟩ := get 6 _ rfl (by omega)
  obtain ⟨y7, e7⟩ := get 7 _ rfl (by omega)
  obtain ⟨y8, e8⟩ := get 8 _ rfl (by omega)
  obtain ⟨y9, e9⟩ := get 9 _ rfl (by omega)
  obtain ⟨y10, e10⟩ := get 10 _ rfl (by omega)
  obtain ⟨s0, f0, _⟩ := DataW.trod_string Tryz.underlying9 (t0.trans e0)
  obtain ⟨s1, f1, _⟩ := DataW.trod_string Tryz.underlying9 (t1.trans e1)
  obtain ⟨s2, f2, _⟩ := DataW.trod_string Tryz.underlying9 (t2.trans e2)
  obtain ⟨l3, m3, r3⟩ := open_items (t3.trans e3)
  obtain ⟨s4, f4, _⟩ := DataW.trod_bool Tryz.underlying4 (t4.trans e4)
  obtain ⟨s5, f5, _⟩ := DataW.trod_bool Tryz.underlying4 (t5.trans e5)
  obtain ⟨l6, m6, r6⟩ := open_texts (t6.trans e6)
  obtain ⟨s7, f7, _⟩ := DataW.trod_bool Tryz.underlying4 (t7.trans e7)
  obtain ⟨l8, m8, r8⟩ := open_pairs (t8.trans e8)
  obtain ⟨l9, m9, r9⟩ := open_pairs (t9.trans e9)
  obtain ⟨l10, m10, r10⟩ := open_pairs (t10.trans e10)
  simp only [List.cons.injEq, and_true] at f0 f1 f2 f4 f5 f7
  subst f0 f1 f2 f4 f5 f7
  exact ⟨⟨s0, s1, s2, l3, s4, s5, l6, s7, l8, l9, l10⟩, b3, b6, b8, b9, b10, rfl, ⟨m3, m6, m8, m9, m10⟩, r3, r6, r8, r9, r10⟩
theorem open_won {fuel : Nat} {cs : List Value} {x : DataW H × List MemPlace} (h : DataW.trod enc Tryz.prog w base spare held fuel 32 cs = some x) :
    ∃ (nx : ByteArray) (wd : Int) (s : S) (vc vq vr va vs : Value), cs = [.string nx, .int .i64 wd, .string s.disp, .string s.lt, .string s.col, vc, .bool s.nor, .bool s.non, vq, .bool s.aut, vr, va, vs] ∧ nx.size ≤ maxLen ∧ Mx s ∧ Parts s vc vq vr va vs w := by
  obtain ⟨y0, y1, y2, n, _, hlen, t0, t1, t2⟩ := trod_struct3 Tryz.underlying32 h
  rw [show Tryz.prog.cellsOf 32 = 13 by kernel_rfl] at hlen
  rcases cs with _ | ⟨b0, _ | ⟨b1, r⟩⟩ <;> simp only [List.length_cons, List.length_nil] at hlen <;> try omega
  have k1 : Tryz.prog.cellsOf 9 = 1 := by kernel_rfl
  have k2 : Tryz.prog.cellsOf 3 = 1 := by kernel_rfl
  have k3 : Tryz.prog.cellsOf 27 = 11 := by kernel_rfl
  simp only [k1, k2, k3, List.drop_zero, List.drop_succ_cons, List.take_succ_cons, List.take_zero] at t0 t1 t2
  rw [List.take_of_length_le (by omega)] at t2
  obtain ⟨s0, f0, _, z0⟩ := DataW.trod_string Tryz.underlying9 t0
  obtain ⟨s1, f1, _⟩ := DataW.trod_int Tryz.underlying3 t1
  obtain ⟨s, vc, vq, vr, va, vs, rfl, hm, hp⟩ := open_style t2
  simp only [List.cons.injEq, and_true] at f0 f1
  subst f0 f1
  exact ⟨s0, s1, s, vc, vq, vr, va, vs, rfl, z0, hm, hp⟩
end
end Go.Proofs.YtkpoeilfnopgbaaGreatDoor.Sty
