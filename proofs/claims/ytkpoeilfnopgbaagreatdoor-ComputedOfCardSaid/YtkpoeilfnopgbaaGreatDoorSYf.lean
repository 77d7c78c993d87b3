/- computed.Of: what holds, of what won and the parent's style. -/
import Derived.Test.YtkpoeilfnopgbaaGreatDoorSYe
import Derived.Lib.AppendIntMem
namespace Go.Proofs.YtkpoeilfnopgbaaGreatDoor.Sty
open Go Go.RowKit
structure Wn where
  name : ByteArray
  k : Nat
  wide : Int
  st : S
def nmN (j : Nat) : ByteArray := allZ.getD j ByteArray.empty
theorem nm_is (j : Nat) (h : j < 8) : NmIs j (nmN j) := by
  have : j = 0 ∨ j = 1 ∨ j = 2 ∨ j = 3 ∨ j = 4 ∨ j = 5 ∨ j = 6 ∨ j = 7 := by omega
  unfold NmIs
  rcases this with rfl | rfl | rfl | rfl | rfl | rfl | rfl | rfl <;> simp [nmN, allZ]
def baseN (pa : S) : Nat → S
  | 0 => startS
  | j + 1 => if inh j = true then take j (baseN pa j) pa else baseN pa j
theorem base_small {pa : S} (h : pa.small) : ∀ j, (baseN pa j).small
  | 0 => start_small
  | j + 1 => by
    unfold baseN
    split
    · exact take_small j (base_small h j) h
    · exact base_small h j
def stepS (p : Int) (pa cur : S) (x : Wn) : S :=
  if alw p x.k = false then cur else if x.wide = 0 then take x.k cur x.st else if x.wide = 1 ∨ (x.wide = 3 ∧ inh x.k = true) then take x.k cur pa else take x.k cur startS
def ofS (p : Int) (pa : S) (l : List Wn) : S := l.foldl (stepS p pa) (baseN pa 8)
theorem step_small {p : Int} {pa cur : S} {x : Wn} (h : pa.small) (hc : cur.small) (hx : x.st.small) : (stepS p pa cur x).small := by
  unfold stepS
  split
  · exact hc
  · split
    · exact take_small _ hc hx
    · split
      · exact take_small _ hc h
      · exact take_small _ hc start_small
theorem of_snoc (p : Int) (pa : S) (l : List Wn) (j : Nat) (x : Wn) (h : l[j]? = some x) : ofS p pa (l.take (j + 1)) = stepS p pa (ofS p pa (l.take j)) x := by
  obtain ⟨h1, h2⟩ := List.getElem?_eq_some_iff.1 h
  unfold ofS
  rw [List.take_succ_eq_append_getElem h1, h2, List.foldl_append]
  rfl
theorem of_small {p : Int} {pa : S} (h : pa.small) (l : List Wn) (hl : ∀ x ∈ l, x.st.small) : (ofS p pa l).small := by
  unfold ofS
  have key : ∀ (l : List Wn) (c : S), c.small → (∀ x ∈ l, x.st.small) → (l.foldl (stepS p pa) c).small := by
    intro l
    induction l with
    | nil => intro c hc _; exact hc
    | cons x r ih => intro c hc hl; exact ih _ (step_small h hc (hl x (by simp))) fun y hy => hl y (by simp [hy])
  exact key l _ (base_small h 8) hl
def WonAt (l : List Wn) (v : Value) (w : World) : Prop :=
  ∃ pw cw, v = .slice pw l.length cw ∧ (0 < l.length → ∃ g o, pw = some ⟨g, o, none⟩ ∧ g < w.heap.size ∧ ∀ (j : Nat) x, l[j]? = some x → ∃ p1 p1c p2 p2c p3 p3c p4 p4c p5 p5c,
    (w.cell? ⟨g, o + j * 13, none⟩ = some (.string x.name) ∧ w.cell? ⟨g, o + j * 13 + 1, none⟩ = some (.int .i64 x.wide) ∧ w.cell? ⟨g, o + j * 13 + 2, none⟩ = some (.string x.st.disp) ∧ w.cell? ⟨g, o + j * 13 + 3, none⟩ = some (.string x.st.lt) ∧ w.cell? ⟨g, o + j * 13 + 4, none⟩ = some (.string x.st.col) ∧
      w.cell? ⟨g, o + j * 13 + 5, none⟩ = some (.slice p1 x.st.con.length p1c) ∧ w.cell? ⟨g, o + j * 13 + 6, none⟩ = some (.bool x.st.nor) ∧ w.cell? ⟨g, o + j * 13 + 7, none⟩ = some (.bool x.st.non) ∧ w.cell? ⟨g, o + j * 13 + 8, none⟩ = some (.slice p2 x.st.quo.length p2c) ∧ w.cell? ⟨g, o + j * 13 + 9, none⟩ = some (.bool x.st.aut) ∧
      w.cell? ⟨g, o + j * 13 + 10, none⟩ = some (.slice p3 x.st.rst.length p3c) ∧ w.cell? ⟨g, o + j * 13 + 11, none⟩ = some (.slice p4 x.st.add.length p4c) ∧ w.cell? ⟨g, o + j * 13 + 12, none⟩ = some (.slice p5 x.st.set.length p5c)) ∧
    PartsX (· < w.heap.size) x.st (.slice p1 x.st.con.length p1c) (.slice p2 x.st.quo.length p2c) (.slice p3 x.st.rst.length p3c) (.slice p4 x.st.add.length p4c) (.slice p5 x.st.set.length p5c) w)
theorem WonAt.below {l : List Wn} {v : Value} {w w' : World} (h : WonAt l v w) (hb : Below w.heap.size w w') : WonAt l v w' := by
  obtain ⟨pw, cw, hv, hc⟩ := h
  refine ⟨pw, cw, hv, fun hl => ?_⟩
  obtain ⟨g, o, h1, h2, h3⟩ := hc hl
  refine ⟨g, o, h1, Nat.lt_of_lt_of_le h2 hb.size, fun j x hx => ?_⟩
  obtain ⟨p1, p1c, p2, p2c, p3, p3c, p4, p4c, p5, p5c, ⟨k0, k1, k2, k3, k4, k5, k6, k7, k8, k9, k10, k11, k12⟩, hp⟩ := h3 j x hx
  have e : ∀ i, w'.cell? ⟨g, i, none⟩ = w.cell? ⟨g, i, none⟩ := fun i => hb.cell (p := ⟨g, i, none⟩) h2
  exact ⟨p1, p1c, p2, p2c, p3, p3c, p4, p4c, p5, p5c, ⟨(e _).trans k0, (e _).trans k1, (e _).trans k2, (e _).trans k3, (e _).trans k4, (e _).trans k5, (e _).trans k6, (e _).trans k7, (e _).trans k8, (e _).trans k9, (e _).trans k10, (e _).trans k11, (e _).trans k12⟩, (hp.below hb).mono fun g' _ h => Nat.lt_of_lt_of_le h hb.size⟩
theorem Tab.keep {w w' : World} (h : Tab w) (hb : Below w.heap.size w w') : Tab w' := Lib.tabBelow_of_tabIs h w' hb
def apart (bp br bt bs : Nat) (g : Nat) : Prop := g ≠ bp ∧ g ≠ br ∧ g ≠ bt ∧ g ≠ bs ∧ bp ≤ g
structure OfW (w : World) (bp br bt bs : Nat) (pa cur : S) (wr : World) : Prop where
  par : Var (· < bp) pa bp wr
  res : wr.heap[br]? = some (.cells #[.string ⟨#[]⟩, .string ⟨#[]⟩, .string ⟨#[]⟩, .slice none 0 0, .bool false, .bool false, .slice none 0 0, .bool false, .slice none 0 0, .slice none 0 0, .slice none 0 0] 27 (0, 0))
  st : Var (apart bp br bt bs) startS bt wr
  cur : Var (apart bp br bt bs) cur bs wr
  low : Below w.heap.size w wr
  size : br < wr.heap.size
theorem OfW.below {w : World} {bp br bt bs : Nat} {pa cur : S} {wr w2 : World} (h : OfW w bp br bt bs pa cur wr) (hb : Below wr.heap.size wr w2) : OfW w bp br bt bs pa cur w2 :=
  ⟨h.par.below hb, (hb.block _ h.size).trans h.res, h.st.below hb, h.cur.below hb, h.low.trans (hb.mono h.low.size), Nat.lt_of_lt_of_le h.size hb.size⟩
theorem OfW.upd {w : World} {bp br bt bs : Nat} {pa cur new : S} {wr w2 : World} {xs : Array Value} (h : OfW w bp br bt bs pa cur wr) (hb : Below wr.heap.size wr w2) (hv : StyX (apart bp br bt bs) new (.agg xs) w2)
    (h1 : w.heap.size ≤ bs) (h2 : bp ≠ bs) (h3 : br ≠ bs) (h4 : bt ≠ bs) (h5 : bp ≤ bs) : OfW w bp br bt bs pa new (w2.setRow bs xs) := by
  have h' := h.below hb
  have hn : ¬ apart bp br bt bs bs := fun h => h.2.2.2.1 rfl
  obtain ⟨p1, c1, p2, c2, p3, c3, p4, c4, p5, c5, hx, _⟩ := h'.cur
  exact ⟨h'.par.row xs (Nat.not_lt.2 h5) h2, (setRow_other _ _ _ _ h3).trans h'.res, h'.st.row xs hn h4, Var.put hx hv hn, below_setRow h'.low h1 xs, by rw [setRow_size]; exact h'.size⟩
theorem OfW.start {w w1 w2 : World} {pa : S} {q1 q2 q3 q4 q5 : Option Addr} {q1c q2c q3c q4c q5c : Nat} (hx : PartsX (· < w.heap.size) pa (.slice q1 pa.con.length q1c) (.slice q2 pa.quo.length q2c) (.slice q3 pa.rst.length q3c) (.slice q4 pa.add.length q4c) (.slice q5 pa.set.length q5c) w)
    (hb1 : Below (w.heap.size + 2) ((w.alloc (.cells #[.string pa.disp, .string pa.lt, .string pa.col, .slice q1 pa.con.length q1c, .bool pa.nor, .bool pa.non, .slice q2 pa.quo.length q2c, .bool pa.aut, .slice q3 pa.rst.length q3c, .slice q4 pa.add.length q4c, .slice q5 pa.set.length q5c] 27)).alloc (.cells #[.string ⟨#[]⟩, .string ⟨#[]⟩, .string ⟨#[]⟩, .slice none 0 0, .bool false, .bool false, .slice none 0 0, .bool false, .slice none 0 0, .slice none 0 0, .slice none 0 0] 27)) w1) (hb2 : Below (w1.heap.size + 1) (w1.alloc (.cells #[.string ⟨#[105, 110, 108, 105, 110, 101]⟩, .string ⟨#[100, 105, 115, 99]⟩, .string ⟨#[98, 108, 97, 99, 107]⟩, .slice none 0 0, .bool true, .bool false, .slice none 0 0, .bool true, .slice none 0 0, .slice none 0 0, .slice none 0 0] 27)) w2) :
    OfW w w.heap.size (w.heap.size + 1) w1.heap.size w2.heap.size pa startS (w2.alloc (.cells #[.string ⟨#[105, 110, 108, 105, 110, 101]⟩, .string ⟨#[100, 105, 115, 99]⟩, .string ⟨#[98, 108, 97, 99, 107]⟩, .slice none 0 0, .bool true, .bool false, .slice none 0 0, .bool true, .slice none 0 0, .slice none 0 0, .slice none 0 0] 27)) ∧ w.heap.size + 2 ≤ w1.heap.size ∧ w1.heap.size + 1 ≤ w2.heap.size := by
  obtain ⟨t1, t2, t3, t4⟩ := two_new w (.cells #[.string pa.disp, .string pa.lt, .string pa.col, .slice q1 pa.con.length q1c, .bool pa.nor, .bool pa.non, .slice q2 pa.quo.length q2c, .bool pa.aut, .slice q3 pa.rst.length q3c, .slice q4 pa.add.length q4c, .slice q5 pa.set.length q5c] 27) (.cells #[.string ⟨#[]⟩, .string ⟨#[]⟩, .string ⟨#[]⟩, .slice none 0 0, .bool false, .bool false, .slice none 0 0, .bool false, .slice none 0 0, .slice none 0 0, .slice none 0 0] 27)
  have s1 : w.heap.size + 2 ≤ w1.heap.size := by have := hb1.size; omega
  have s2 : w1.heap.size + 1 ≤ w2.heap.size := by have := hb2.size; rw [World.size_alloc] at this; exact this
  have a1 : Below w1.heap.size w1 (w1.alloc (.cells #[.string ⟨#[105, 110, 108, 105, 110, 101]⟩, .string ⟨#[100, 105, 115, 99]⟩, .string ⟨#[98, 108, 97, 99, 107]⟩, .slice none 0 0, .bool true, .bool false, .slice none 0 0, .bool true, .slice none 0 0, .slice none 0 0, .slice none 0 0] 27)) := (Below.refl _ w1).alloc (Nat.le_refl _) _
  have a2 : Below w2.heap.size w2 (w2.alloc (.cells #[.string ⟨#[105, 110, 108, 105, 110, 101]⟩, .string ⟨#[100, 105, 115, 99]⟩, .string ⟨#[98, 108, 97, 99, 107]⟩, .slice none 0 0, .bool true, .bool false, .slice none 0 0, .bool true, .slice none 0 0, .slice none 0 0, .slice none 0 0] 27)) := (Below.refl _ w2).alloc (Nat.le_refl _) _
  have c1 : Below ((w.alloc (.cells #[.string pa.disp, .string pa.lt, .string pa.col, .slice q1 pa.con.length q1c, .bool pa.nor, .bool pa.non, .slice q2 pa.quo.length q2c, .bool pa.aut, .slice q3 pa.rst.length q3c, .slice q4 pa.add.length q4c, .slice q5 pa.set.length q5c] 27)).alloc (.cells #[.string ⟨#[]⟩, .string ⟨#[]⟩, .string ⟨#[]⟩, .slice none 0 0, .bool false, .bool false, .slice none 0 0, .bool false, .slice none 0 0, .slice none 0 0, .slice none 0 0] 27)).heap.size ((w.alloc (.cells #[.string pa.disp, .string pa.lt, .string pa.col, .slice q1 pa.con.length q1c, .bool pa.nor, .bool pa.non, .slice q2 pa.quo.length q2c, .bool pa.aut, .slice q3 pa.rst.length q3c, .slice q4 pa.add.length q4c, .slice q5 pa.set.length q5c] 27)).alloc (.cells #[.string ⟨#[]⟩, .string ⟨#[]⟩, .string ⟨#[]⟩, .slice none 0 0, .bool false, .bool false, .slice none 0 0, .bool false, .slice none 0 0, .slice none 0 0, .slice none 0 0] 27)) w1 := hb1.mono (by omega)
  have c2 : Below (w1.alloc (.cells #[.string ⟨#[105, 110, 108, 105, 110, 101]⟩, .string ⟨#[100, 105, 115, 99]⟩, .string ⟨#[98, 108, 97, 99, 107]⟩, .slice none 0 0, .bool true, .bool false, .slice none 0 0, .bool true, .slice none 0 0, .slice none 0 0, .slice none 0 0] 27)).heap.size (w1.alloc (.cells #[.string ⟨#[105, 110, 108, 105, 110, 101]⟩, .string ⟨#[100, 105, 115, 99]⟩, .string ⟨#[98, 108, 97, 99, 107]⟩, .slice none 0 0, .bool true, .bool false, .slice none 0 0, .bool true, .slice none 0 0, .slice none 0 0, .slice none 0 0] 27)) w2 := hb2.mono (by rw [World.size_alloc]; omega)
  have hpar : Var (· < w.heap.size) pa w.heap.size ((w.alloc (.cells #[.string pa.disp, .string pa.lt, .string pa.col, .slice q1 pa.con.length q1c, .bool pa.nor, .bool pa.non, .slice q2 pa.quo.length q2c, .bool pa.aut, .slice q3 pa.rst.length q3c, .slice q4 pa.add.length q4c, .slice q5 pa.set.length q5c] 27)).alloc (.cells #[.string ⟨#[]⟩, .string ⟨#[]⟩, .string ⟨#[]⟩, .slice none 0 0, .bool false, .bool false, .slice none 0 0, .bool false, .slice none 0 0, .slice none 0 0, .slice none 0 0] 27)) :=
    ⟨q1, q1c, q2, q2c, q3, q3c, q4, q4c, q5, q5c, t1, hx.below t4⟩
  have hst : Var (apart w.heap.size (w.heap.size + 1) w1.heap.size w2.heap.size) startS w1.heap.size (w1.alloc (.cells #[.string ⟨#[105, 110, 108, 105, 110, 101]⟩, .string ⟨#[100, 105, 115, 99]⟩, .string ⟨#[98, 108, 97, 99, 107]⟩, .slice none 0 0, .bool true, .bool false, .slice none 0 0, .bool true, .slice none 0 0, .slice none 0 0, .slice none 0 0] 27)) :=
    ⟨none, 0, none, 0, none, 0, none, 0, none, 0, new_heap _ _, ⟨.nil _ _, .nil _ _, .nil _ _, .nil _ _, .nil _ _⟩⟩
  have hcu : Var (apart w.heap.size (w.heap.size + 1) w1.heap.size w2.heap.size) startS w2.heap.size (w2.alloc (.cells #[.string ⟨#[105, 110, 108, 105, 110, 101]⟩, .string ⟨#[100, 105, 115, 99]⟩, .string ⟨#[98, 108, 97, 99, 107]⟩, .slice none 0 0, .bool true, .bool false, .slice none 0 0, .bool true, .slice none 0 0, .slice none 0 0, .slice none 0 0] 27)) :=
    ⟨none, 0, none, 0, none, 0, none, 0, none, 0, new_heap _ _, ⟨.nil _ _, .nil _ _, .nil _ _, .nil _ _, .nil _ _⟩⟩
  have k2 : w.heap.size + 1 < w1.heap.size := by omega
  refine ⟨⟨(((hpar.below c1).below a1).below c2).below a2, ?_, (hst.below c2).below a2, hcu, ?_, by rw [World.size_alloc]; omega⟩, s1, s2⟩
  · exact (a2.block _ (by omega)).trans ((c2.block _ (by rw [World.size_alloc]; omega)).trans ((a1.block _ k2).trans ((c1.block _ (by omega)).trans t2)))
  · exact t4.trans ((hb1.trans ((a1.mono s1).trans ((hb2.mono (by omega)).trans (a2.mono (by omega))))).mono (by omega))
def Loop1 (w : World) (bp br bt bs bn : Nat) (pa : S) (s17 : Value) (wr : World) : Prop :=
  ∃ j : Nat, j ≤ 8 ∧ s17 = .int .i64 (j : Int) ∧ OfW w bp br bt bs pa (baseN pa j) wr ∧ wr.heap[bn]? = some (.cells #[.string ⟨#[99, 111, 108, 111, 114]⟩, .string ⟨#[99, 111, 110, 116, 101, 110, 116]⟩, .string ⟨#[99, 111, 117, 110, 116, 101, 114, 45, 105, 110, 99, 114, 101, 109, 101, 110, 116]⟩, .string ⟨#[99, 111, 117, 110, 116, 101, 114, 45, 114, 101, 115, 101, 116]⟩, .string ⟨#[99, 111, 117, 110, 116, 101, 114, 45, 115, 101, 116]⟩, .string ⟨#[100, 105, 115, 112, 108, 97, 121]⟩, .string ⟨#[108, 105, 115, 116, 45, 115, 116, 121, 108, 101, 45, 116, 121, 112, 101]⟩, .string ⟨#[113, 117, 111, 116, 101, 115]⟩] 9 (0, 0))
def Loop2 (w : World) (bp br bt bs : Nat) (p : Int) (pa : S) (l : List Wn) (s30 : Value) (wr : World) : Prop :=
  ∃ j : Nat, j ≤ l.length ∧ s30 = .int .i64 (j : Int) ∧ OfW w bp br bt bs pa (ofS p pa (l.take j)) wr
theorem names_cell {wr : World} {bn j : Nat} (h : wr.heap[bn]? = some (.cells #[.string ⟨#[99, 111, 108, 111, 114]⟩, .string ⟨#[99, 111, 110, 116, 101, 110, 116]⟩, .string ⟨#[99, 111, 117, 110, 116, 101, 114, 45, 105, 110, 99, 114, 101, 109, 101, 110, 116]⟩, .string ⟨#[99, 111, 117, 110, 116, 101, 114, 45, 114, 101, 115, 101, 116]⟩, .string ⟨#[99, 111, 117, 110, 116, 101, 114, 45, 115, 101, 116]⟩, .string ⟨#[100, 105, 115, 112, 108, 97, 121]⟩, .string ⟨#[108, 105, 115, 116, 45, 115, 116, 121, 108, 101, 45, 116, 121, 112, 101]⟩, .string ⟨#[113, 117, 111, 116, 101, 115]⟩] 9 (0, 0))) (hj : j < 8) : wr.cell? ⟨bn, j, none⟩ = some (.string (nmN j)) := by
  rw [Lib.cell_of_heap h]
  have : j = 0 ∨ j = 1 ∨ j = 2 ∨ j = 3 ∨ j = 4 ∨ j = 5 ∨ j = 6 ∨ j = 7 := by omega
  rcases this with rfl | rfl | rfl | rfl | rfl | rfl | rfl | rfl <;> rfl
set_option maxHeartbeats 8000000 in
set_option maxRecDepth 100000 in
theorem of_new (p : Int) (pa : S) (vc vq vr va vs : Value) (l : List Wn) (lv : Value) (w : World) (hT : Tab w) (hpa : pa.small) (hln : l.length ≤ 1000) (hk : ∀ x ∈ l, NmIs x.k x.name ∧ x.st.small) (hw : WonAt l lv w) (hp : Parts pa vc vq vr va vs w) :
    Calls Tryz.prog 7 #[lv, .int .i64 p, .agg #[.string pa.disp, .string pa.lt, .string pa.col, vc, .bool pa.nor, .bool pa.non, vq, .bool pa.aut, vr, va, vs]] w fun e w' => ∃ v', e = .returned v' ∧ StyX (w.heap.size ≤ ·) (ofS p pa l) v' w' ∧ Below w.heap.size w w' := by
  have hx := PartsX.of_at hp
  obtain ⟨q1, q1c, q2, q2c, q3, q3c, q4, q4c, q5, q5c, rfl, rfl, rfl, rfl, rfl⟩ := hx.open
  clear hp
  have HW := Lib.hid hw
  obtain ⟨pw, cw, rfl, _⟩ := hw
  obtain ⟨t1, t2, t3, t4⟩ := two_new w (.cells #[.string pa.disp, .string pa.lt, .string pa.col, .slice q1 pa.con.length q1c, .bool pa.nor, .bool pa.non, .slice q2 pa.quo.length q2c, .bool pa.aut, .slice q3 pa.rst.length q3c, .slice q4 pa.add.length q4c, .slice q5 pa.set.length q5c] 27) (.cells #[.string ⟨#[]⟩, .string ⟨#[]⟩, .string ⟨#[]⟩, .slice none 0 0, .bool false, .bool false, .slice none 0 0, .bool false, .slice none 0 0, .slice none 0 0, .slice none 0 0] 27)
  have HX := Lib.hid hx
  have HT := Lib.hid hT
  have HPA := Lib.hid hpa
  have HK := Lib.hid hk
  have H4 := Lib.hid t4
  have H3 := Lib.hid t3
  clear t1 t2 t3 t4 hx hT hpa hk
  go_enter Tryz.func7, Tryz.ntmps7
  go_wp2_with (go_at_call 23; refine (pstart_c _).mono ?_)
  rintro e w1 ⟨rfl, hb1⟩
  rw [H3.out] at hb1
  have HB1 := Lib.hid hb1
  clear hb1
  go_wp2_with (go_at_call 23; refine (pstart_c _).mono ?_)
  rintro e w2 ⟨rfl, hb2⟩
  rw [World.size_alloc] at hb2
  obtain ⟨hO, s1, s2⟩ := OfW.start HX.out HB1.out hb2
  have hn := names_c _ (HT.out.keep hO.low)
  have HO := Lib.hid hO
  clear hb2 hO
  go_wp2_with (go_at_call 24; refine hn.mono ?_)
  rintro e w3 ⟨rfl, rfl⟩
  have a3 : Below (w2.alloc (.cells #[.string ⟨#[105, 110, 108, 105, 110, 101]⟩, .string ⟨#[100, 105, 115, 99]⟩, .string ⟨#[98, 108, 97, 99, 107]⟩, .slice none 0 0, .bool true, .bool false, .slice none 0 0, .bool true, .slice none 0 0, .slice none 0 0, .slice none 0 0] 27)).heap.size (w2.alloc (.cells #[.string ⟨#[105, 110, 108, 105, 110, 101]⟩, .string ⟨#[100, 105, 115, 99]⟩, .string ⟨#[98, 108, 97, 99, 107]⟩, .slice none 0 0, .bool true, .bool false, .slice none 0 0, .bool true, .slice none 0 0, .slice none 0 0, .slice none 0 0] 27)) ((w2.alloc (.cells #[.string ⟨#[105, 110, 108, 105, 110, 101]⟩, .string ⟨#[100, 105, 115, 99]⟩, .string ⟨#[98, 108, 97, 99, 107]⟩, .slice none 0 0, .bool true, .bool false, .slice none 0 0, .bool true, .slice none 0 0, .slice none 0 0, .slice none 0 0] 27)).alloc (.cells #[.string ⟨#[99, 111, 108, 111, 114]⟩, .string ⟨#[99, 111, 110, 116, 101, 110, 116]⟩, .string ⟨#[99, 111, 117, 110, 116, 101, 114, 45, 105, 110, 99, 114, 101, 109, 101, 110, 116]⟩, .string ⟨#[99, 111, 117, 110, 116, 101, 114, 45, 114, 101, 115, 101, 116]⟩, .string ⟨#[99, 111, 117, 110, 116, 101, 114, 45, 115, 101, 116]⟩, .string ⟨#[100, 105, 115, 112, 108, 97, 121]⟩, .string ⟨#[108, 105, 115, 116, 45, 115, 116, 121, 108, 101, 45, 116, 121, 112, 101]⟩, .string ⟨#[113, 117, 111, 116, 101, 115]⟩] 9)) := (Below.refl _ _).alloc (Nat.le_refl _) _
  have hO3 := HO.out.below a3
  have hN3 := new_heap (w2.alloc (.cells #[.string ⟨#[105, 110, 108, 105, 110, 101]⟩, .string ⟨#[100, 105, 115, 99]⟩, .string ⟨#[98, 108, 97, 99, 107]⟩, .slice none 0 0, .bool true, .bool false, .slice none 0 0, .bool true, .slice none 0 0, .slice none 0 0, .slice none 0 0] 27)) (.cells #[.string ⟨#[99, 111, 108, 111, 114]⟩, .string ⟨#[99, 111, 110, 116, 101, 110, 116]⟩, .string ⟨#[99, 111, 117, 110, 116, 101, 114, 45, 105, 110, 99, 114, 101, 109, 101, 110, 116]⟩, .string ⟨#[99, 111, 117, 110, 116, 101, 114, 45, 114, 101, 115, 101, 116]⟩, .string ⟨#[99, 111, 117, 110, 116, 101, 114, 45, 115, 101, 116]⟩, .string ⟨#[100, 105, 115, 112, 108, 97, 121]⟩, .string ⟨#[108, 105, 115, 116, 45, 115, 116, 121, 108, 101, 45, 116, 121, 112, 101]⟩, .string ⟨#[113, 117, 111, 116, 101, 115]⟩] 9)
  rw [World.size_alloc] at hN3
  have HO3 := Lib.hid hO3
  have HN3 := Lib.hid hN3
  clear a3 hO3 hN3 HO hn
  go_wp2_with fail
  go_loopw [17] (fun x17 wr => Loop1 w w.heap.size (w.heap.size + 1) w1.heap.size w2.heap.size (w2.heap.size + 1) pa x17 wr) (fun x17 _ => 8 - (intOf x17).toNat)
  case atStart => exact ⟨0, by omega, rfl, HO3.out, HN3.out⟩
  case round =>
    clear HO3 HN3
    obtain ⟨j, hj, rfl, hO, hN⟩ := hrel
    by_cases hlt : j < 8
    · have cn := names_cell hN hlt
      have hi := inherits_c j (nmN j) wr (nm_is j hlt) (HT.out.keep hO.low)
      have hbl : w2.heap.size + 1 < wr.heap.size := (Array.getElem?_eq_some_iff.1 hN).1
      have HO := Lib.hid hO
      have HN := Lib.hid hN
      have HS := Lib.hid (base_small HPA.out j)
      clear hO hN
      obtain ⟨B, hB⟩ : ∃ B, baseN pa j = B := ⟨_, rfl⟩
      rw [hB] at HO HS
      have HBB := Lib.hid hB
      clear hB
      cases hin : inh j with
      | false =>
        rw [hin] at hi
        have HE : Hid (baseN pa (j + 1) = B) := Lib.hid (by rw [← HBB.out]; show (if inh j = true then _ else _) = _; rw [hin]; rfl)
        clear hin
        go_wp2_with (go_at_call 25; refine hi.mono ?_)
        rintro e w4 ⟨rfl, hb4⟩
        go_wp2_with fail
        go_roundw
        case rel => exact ⟨j + 1, by omega, by go_num, by rw [HE.out]; exact HO.out.below hb4, (hb4.block _ hbl).trans HN.out⟩
        case measure => simp [intOf]; omega
      | true =>
        rw [hin] at hi
        have HE : Hid (baseN pa (j + 1) = take j B pa) := Lib.hid (by rw [← HBB.out]; show (if inh j = true then _ else _) = _; rw [hin]; rfl)
        clear hin
        go_wp2_with (go_at_call 25; refine hi.mono ?_)
        rintro e w4 ⟨rfl, hb4⟩
        have hO4 := HO.out.below hb4
        have hN4 := (hb4.block _ hbl).trans HN.out
        have hz4 := hb4.size
        have HO4 := Lib.hid hO4
        have HN4 := Lib.hid hN4
        obtain ⟨c1, c1c, c2, c2c, c3, c3c, c4, c4c, c5, c5c, hcur, pcur⟩ := hO4.cur
        obtain ⟨d1, d1c, d2, d2c, d3, d3c, d4, d4c, d5, d5c, hpar, ppar⟩ := hO4.par
        have HCU := Lib.hid hcur
        have HPR := Lib.hid hpar
        have HPC := Lib.hid pcur.at
        have HPP := Lib.hid ppar.at
        clear hO4 hN4 hcur hpar pcur ppar hb4 hi cn
        go_wp2_with (first | (refine wpList_load_row rfl 27 _ rfl w2.heap.size rfl 27 #[.string B.disp, .string B.lt, .string B.col, .slice c1 B.con.length c1c, .bool B.nor, .bool B.non, .slice c2 B.quo.length c2c, .bool B.aut, .slice c3 B.rst.length c3c, .slice c4 B.add.length c4c, .slice c5 B.set.length c5c] (0, 0) _ HCU.out Tryz.underlying27 rfl (by kernel_rfl) ?_) | (refine wpList_load_row rfl 27 _ rfl w.heap.size rfl 27 #[.string pa.disp, .string pa.lt, .string pa.col, .slice d1 pa.con.length d1c, .bool pa.nor, .bool pa.non, .slice d2 pa.quo.length d2c, .bool pa.aut, .slice d3 pa.rst.length d3c, .slice d4 pa.add.length d4c, .slice d5 pa.set.length d5c] (0, 0) _ HPR.out Tryz.underlying27 rfl (by kernel_rfl) ?_) | (go_at_call 26; (with_reducible refine (take_c j B pa _ _ _ _ _ _ _ _ _ _ (nmN j) _ (nm_is j hlt) HS.out HPA.out HPC.out HPP.out).mono ?_)))
        rintro e w5 ⟨v', rfl, hv, hb5⟩
        obtain ⟨r1, r1c, r2, r2c, r3, r3c, r4, r4c, r5, r5c, rfl, hx5⟩ := hv.x
        have HC5 := Lib.hid ((hb5.block w2.heap.size (by omega)).trans HCU.out)
        have HX5 := Lib.hid hx5
        have HB5 := Lib.hid hb5
        clear hx5 hb5 hv
        go_wp2_with (refine wpList_store_row rfl 27 _ _ rfl w2.heap.size _ rfl rfl 27 _ HC5.out (by kernel_rfl) rfl (by simp [Value.oneCell']) ?_)
        go_roundw
        case rel =>
          refine ⟨j + 1, by omega, by go_num, ?_, (setRow_other _ _ _ _ (by omega)).trans ((HB5.out.block _ (by omega)).trans HN4.out)⟩
          rw [HE.out]
          exact HO4.out.upd HB5.out ⟨_, _, _, _, _, _, _, _, _, _, rfl, HX5.out.mono fun g _ h => ⟨by omega, by omega, by omega, by omega, by omega⟩⟩ (by omega) (by omega) (by omega) (by omega) (by omega)
        case measure => simp [intOf]; omega
    · obtain rfl : j = 8 := by omega
      have HO := Lib.hid hO
      clear hO hN
      go_wp2_with fail
      go_loopw [30] (fun x30 wr => Loop2 w w.heap.size (w.heap.size + 1) w1.heap.size w2.heap.size p pa l x30 wr) (fun x30 _ => l.length - (intOf x30).toNat)
      case atStart => exact ⟨0, Nat.zero_le _, rfl, HO.out⟩
      case round =>
        clear HO
        rename World => wq
        obtain ⟨j, hj, rfl, hO⟩ := hrel
        have hofz := of_small (p := p) HPA.out (l.take j) fun x hx => (HK.out x (List.mem_of_mem_take hx)).2
        by_cases hlt : j < l.length
        · obtain ⟨x, hx⟩ : ∃ x, l[j]? = some x := ⟨_, List.getElem?_eq_getElem hlt⟩
          have hofs := of_snoc p pa l j x hx
          obtain ⟨hkx, hsx⟩ := HK.out x (List.mem_of_getElem? hx)
          obtain ⟨pw', cw', hv, hc⟩ := HW.out.below hO.low
          simp only [Value.slice.injEq] at hv
          obtain ⟨rfl, _, rfl⟩ := hv
          obtain ⟨g, o, rfl, hg, hcells⟩ := hc (by omega)
          obtain ⟨e1, e1c, e2, e2c, e3, e3c, e4, e4c, e5, e5c, ⟨k0, k1, k2, k3, k4, k5, k6, k7, k8, k9, k10, k11, k12⟩, hpx⟩ := hcells j x hx
          obtain ⟨nx, kx, wd, sx⟩ := x
          dsimp only at hofs hkx hsx k0 k1 k2 k3 k4 k5 k6 k7 k8 k9 k10 k11 k12 hpx
          obtain ⟨cu, hcu⟩ : ∃ cu, ofS p pa (l.take j) = cu := ⟨_, rfl⟩
          rw [hcu] at hO hofz hofs
          have hal : Below wq.heap.size wq (wq.alloc (.cells #[.string nx, .int .i64 wd, .string sx.disp, .string sx.lt, .string sx.col, .slice e1 sx.con.length e1c, .bool sx.nor, .bool sx.non, .slice e2 sx.quo.length e2c, .bool sx.aut, .slice e3 sx.rst.length e3c, .slice e4 sx.add.length e4c, .slice e5 sx.set.length e5c] 32)) := (Below.refl _ wq).alloc (Nat.le_refl _) _
          have hOd := hO.below hal
          have hD := new_heap wq (.cells #[.string nx, .int .i64 wd, .string sx.disp, .string sx.lt, .string sx.col, .slice e1 sx.con.length e1c, .bool sx.nor, .bool sx.non, .slice e2 sx.quo.length e2c, .bool sx.aut, .slice e3 sx.rst.length e3c, .slice e4 sx.add.length e4c, .slice e5 sx.set.length e5c] 32)
          have ha := allowed_c p kx nx _ hkx (HT.out.keep hOd.low)
          have HOD := Lib.hid hOd
          have HD := Lib.hid hD
          have HPX := Lib.hid (hpx.at.below hal)
          have HZ := Lib.hid hofz
          have HSX := Lib.hid hsx
          have HKX := Lib.hid hkx
          have HE := Lib.hid hofs
          clear hal hO hOd hD hpx hofz hofs hsx hkx hc hcells hx hcu
          cases halw : alw p kx with
          | false =>
            rw [halw] at ha
            have HE2 : Hid (stepS p pa cu ⟨nx, kx, wd, sx⟩ = cu) := Lib.hid (by unfold stepS; rw [if_pos halw])
            clear halw
            go_wp2_with (go_at_call 22; refine ha.mono ?_)
            rintro e w4 ⟨rfl, hb4⟩
            go_wp2_with fail
            go_roundw
            case rel => (repeat apply Exists.intro); exact ⟨⟨j + 1, by omega, by go_num, by rw [HE.out, HE2.out]; exact HOD.out.below hb4⟩, rfl⟩
            case measure => simp [intOf]; omega
          | true =>
            rw [halw] at ha
            have hnf : ¬ alw p kx = false := by rw [halw]; simp
            have HNF := Lib.hid hnf
            clear halw hnf
            go_wp2_with (go_at_call 22; refine ha.mono ?_)
            rintro e w4 ⟨rfl, hb4⟩
            have hO4 := HOD.out.below hb4
            have hz0 : wq.heap.size < w4.heap.size := by have := hb4.size; rw [World.size_alloc] at this; omega
            have hD4 := (hb4.block wq.heap.size (by rw [World.size_alloc]; omega)).trans HD.out
            have cD4 := Lib.cell_of_heap hD4
            have HD4 := Lib.hid hD4
            have HPX4 := Lib.hid (HPX.out.below hb4)
            clear hD4 hb4 ha k0 k1 k2 k3 k4 k5 k6 k7 k8 k9 k10 k11 k12
            by_cases y0 : wd = 0
            · subst y0
              have HE2 : Hid (stepS p pa cu ⟨nx, kx, 0, sx⟩ = take kx cu sx) := Lib.hid (by unfold stepS; rw [if_neg HNF.out, if_pos rfl])
              have HO4 := Lib.hid hO4
              obtain ⟨c1, c1c, c2, c2c, c3, c3c, c4, c4c, c5, c5c, hcur, pcur⟩ := hO4.cur
              have HCU := Lib.hid hcur
              have HPC := Lib.hid pcur.at
              have hz4 : w2.heap.size < w4.heap.size := (Array.getElem?_eq_some_iff.1 hcur).1
              clear hO4 hcur pcur
              go_wp2_with (first | (refine wpList_load_row rfl 27 _ rfl w2.heap.size rfl 27 #[.string cu.disp, .string cu.lt, .string cu.col, .slice c1 cu.con.length c1c, .bool cu.nor, .bool cu.non, .slice c2 cu.quo.length c2c, .bool cu.aut, .slice c3 cu.rst.length c3c, .slice c4 cu.add.length c4c, .slice c5 cu.set.length c5c] (0, 0) _ HCU.out Tryz.underlying27 rfl (by kernel_rfl) ?_) | (go_at_call 26; (with_reducible refine (take_c kx cu sx _ _ _ _ _ _ _ _ _ _ nx _ HKX.out HZ.out HSX.out HPC.out HPX4.out).mono ?_)))
              rintro e w6 ⟨v6, rfl, hv, hb6⟩
              obtain ⟨r1, r1c, r2, r2c, r3, r3c, r4, r4c, r5, r5c, rfl, hx6⟩ := hv.x
              have HC6 := Lib.hid ((hb6.block w2.heap.size hz4).trans HCU.out)
              have HX6 := Lib.hid hx6
              have HB6 := Lib.hid hb6
              clear hx6 hb6 hv
              go_wp2_with (refine wpList_store_row rfl 27 _ _ rfl w2.heap.size _ rfl rfl 27 _ HC6.out (by kernel_rfl) rfl (by simp [Value.oneCell']) ?_)
              go_roundw
              case rel =>
                (repeat apply Exists.intro)
                refine ⟨⟨j + 1, by omega, by go_num, ?_⟩, rfl⟩
                rw [HE.out, HE2.out]
                exact HO4.out.upd HB6.out ⟨_, _, _, _, _, _, _, _, _, _, rfl, HX6.out.mono fun g _ h => ⟨by omega, by omega, by omega, by omega, by omega⟩⟩ (by omega) (by omega) (by omega) (by omega) (by omega)
              case measure => simp [intOf]; omega
            · have h0 : (wd == 0) = false := by simp [y0]
              by_cases y1 : wd = 1
              · subst y1
                have HE2 : Hid (stepS p pa cu ⟨nx, kx, 1, sx⟩ = take kx cu pa) := Lib.hid (by unfold stepS; rw [if_neg HNF.out, if_neg (show ¬ (1 : Int) = 0 by decide), if_pos (.inl rfl)])
                have HO4 := Lib.hid hO4
                obtain ⟨c1, c1c, c2, c2c, c3, c3c, c4, c4c, c5, c5c, hcur, pcur⟩ := hO4.cur
                have HCU := Lib.hid hcur
                have HPC := Lib.hid pcur.at
                have hz4 : w2.heap.size < w4.heap.size := (Array.getElem?_eq_some_iff.1 hcur).1
                obtain ⟨d1, d1c, d2, d2c, d3, d3c, d4, d4c, d5, d5c, hpar, ppar⟩ := hO4.par
                have HPR := Lib.hid hpar
                have HPP := Lib.hid ppar.at
                clear hO4 hcur pcur hpar ppar
                go_wp2_with (first | (refine wpList_load_row rfl 27 _ rfl w2.heap.size rfl 27 #[.string cu.disp, .string cu.lt, .string cu.col, .slice c1 cu.con.length c1c, .bool cu.nor, .bool cu.non, .slice c2 cu.quo.length c2c, .bool cu.aut, .slice c3 cu.rst.length c3c, .slice c4 cu.add.length c4c, .slice c5 cu.set.length c5c] (0, 0) _ HCU.out Tryz.underlying27 rfl (by kernel_rfl) ?_) | (refine wpList_load_row rfl 27 _ rfl w.heap.size rfl 27 #[.string pa.disp, .string pa.lt, .string pa.col, .slice d1 pa.con.length d1c, .bool pa.nor, .bool pa.non, .slice d2 pa.quo.length d2c, .bool pa.aut, .slice d3 pa.rst.length d3c, .slice d4 pa.add.length d4c, .slice d5 pa.set.length d5c] (0, 0) _ HPR.out Tryz.underlying27 rfl (by kernel_rfl) ?_) | (go_at_call 26; (with_reducible refine (take_c kx cu pa _ _ _ _ _ _ _ _ _ _ nx _ HKX.out HZ.out HPA.out HPC.out HPP.out).mono ?_)))
                rintro e w6 ⟨v6, rfl, hv, hb6⟩
                obtain ⟨r1, r1c, r2, r2c, r3, r3c, r4, r4c, r5, r5c, rfl, hx6⟩ := hv.x
                have HC6 := Lib.hid ((hb6.block w2.heap.size hz4).trans HCU.out)
                have HX6 := Lib.hid hx6
                have HB6 := Lib.hid hb6
                clear hx6 hb6 hv
                go_wp2_with (refine wpList_store_row rfl 27 _ _ rfl w2.heap.size _ rfl rfl 27 _ HC6.out (by kernel_rfl) rfl (by simp [Value.oneCell']) ?_)
                go_roundw
                case rel =>
                  (repeat apply Exists.intro)
                  refine ⟨⟨j + 1, by omega, by go_num, ?_⟩, rfl⟩
                  rw [HE.out, HE2.out]
                  exact HO4.out.upd HB6.out ⟨_, _, _, _, _, _, _, _, _, _, rfl, HX6.out.mono fun g _ h => ⟨by omega, by omega, by omega, by omega, by omega⟩⟩ (by omega) (by omega) (by omega) (by omega) (by omega)
                case measure => simp [intOf]; omega
              · have h1 : (wd == 1) = false := by simp [y1]
                by_cases y3 : wd = 3
                · subst y3
                  have hi := inherits_c kx nx w4 HKX.out (HT.out.keep hO4.low)
                  cases hin : inh kx with
                  | true =>
                    rw [hin] at hi
                    have HE2 : Hid (stepS p pa cu ⟨nx, kx, 3, sx⟩ = take kx cu pa) := Lib.hid (by unfold stepS; rw [if_neg HNF.out, if_neg (show ¬ (3 : Int) = 0 by decide), if_pos (.inr ⟨rfl, hin⟩)])
                    clear hin
                    go_wp2_with (go_at_call 25; refine hi.mono ?_)
                    rintro e w5 ⟨rfl, hb5⟩
                    have cD5 := Lib.cell_of_heap ((hb5.block wq.heap.size hz0).trans HD4.out)
                    replace hO4 := hO4.below hb5
                    clear hb5 hi cD4
                    have HO4 := Lib.hid hO4
                    obtain ⟨c1, c1c, c2, c2c, c3, c3c, c4, c4c, c5, c5c, hcur, pcur⟩ := hO4.cur
                    have HCU := Lib.hid hcur
                    have HPC := Lib.hid pcur.at
                    have hz4 : w2.heap.size < w5.heap.size := (Array.getElem?_eq_some_iff.1 hcur).1
                    obtain ⟨d1, d1c, d2, d2c, d3, d3c, d4, d4c, d5, d5c, hpar, ppar⟩ := hO4.par
                    have HPR := Lib.hid hpar
                    have HPP := Lib.hid ppar.at
                    clear hO4 hcur pcur hpar ppar
                    go_wp2_with (first | (refine wpList_load_row rfl 27 _ rfl w2.heap.size rfl 27 #[.string cu.disp, .string cu.lt, .string cu.col, .slice c1 cu.con.length c1c, .bool cu.nor, .bool cu.non, .slice c2 cu.quo.length c2c, .bool cu.aut, .slice c3 cu.rst.length c3c, .slice c4 cu.add.length c4c, .slice c5 cu.set.length c5c] (0, 0) _ HCU.out Tryz.underlying27 rfl (by kernel_rfl) ?_) | (refine wpList_load_row rfl 27 _ rfl w.heap.size rfl 27 #[.string pa.disp, .string pa.lt, .string pa.col, .slice d1 pa.con.length d1c, .bool pa.nor, .bool pa.non, .slice d2 pa.quo.length d2c, .bool pa.aut, .slice d3 pa.rst.length d3c, .slice d4 pa.add.length d4c, .slice d5 pa.set.length d5c] (0, 0) _ HPR.out Tryz.underlying27 rfl (by kernel_rfl) ?_) | (go_at_call 26; (with_reducible refine (take_c kx cu pa _ _ _ _ _ _ _ _ _ _ nx _ HKX.out HZ.out HPA.out HPC.out HPP.out).mono ?_)))
                    rintro e w6 ⟨v6, rfl, hv, hb6⟩
                    obtain ⟨r1, r1c, r2, r2c, r3, r3c, r4, r4c, r5, r5c, rfl, hx6⟩ := hv.x
                    have HC6 := Lib.hid ((hb6.block w2.heap.size hz4).trans HCU.out)
                    have HX6 := Lib.hid hx6
                    have HB6 := Lib.hid hb6
                    clear hx6 hb6 hv
                    go_wp2_with (refine wpList_store_row rfl 27 _ _ rfl w2.heap.size _ rfl rfl 27 _ HC6.out (by kernel_rfl) rfl (by simp [Value.oneCell']) ?_)
                    go_roundw
                    case rel =>
                      (repeat apply Exists.intro)
                      refine ⟨⟨j + 1, by omega, by go_num, ?_⟩, rfl⟩
                      rw [HE.out, HE2.out]
                      exact HO4.out.upd HB6.out ⟨_, _, _, _, _, _, _, _, _, _, rfl, HX6.out.mono fun g _ h => ⟨by omega, by omega, by omega, by omega, by omega⟩⟩ (by omega) (by omega) (by omega) (by omega) (by omega)
                    case measure => simp [intOf]; omega
                  | false =>
                    rw [hin] at hi
                    have HE2 : Hid (stepS p pa cu ⟨nx, kx, 3, sx⟩ = take kx cu startS) := Lib.hid (by unfold stepS; rw [if_neg HNF.out, if_neg (show ¬ (3 : Int) = 0 by decide), if_neg (show ¬ ((3 : Int) = 1 ∨ ((3 : Int) = 3 ∧ inh kx = true)) from fun h => h.elim (by decide) fun h => by rw [hin] at h; exact absurd h.2 (by decide))])
                    clear hin
                    go_wp2_with (go_at_call 25; refine hi.mono ?_)
                    rintro e w5 ⟨rfl, hb5⟩
                    have cD5 := Lib.cell_of_heap ((hb5.block wq.heap.size hz0).trans HD4.out)
                    replace hO4 := hO4.below hb5
                    clear hb5 hi cD4
                    have HO4 := Lib.hid hO4
                    obtain ⟨c1, c1c, c2, c2c, c3, c3c, c4, c4c, c5, c5c, hcur, pcur⟩ := hO4.cur
                    have HCU := Lib.hid hcur
                    have HPC := Lib.hid pcur.at
                    have hz4 : w2.heap.size < w5.heap.size := (Array.getElem?_eq_some_iff.1 hcur).1
                    obtain ⟨d1, d1c, d2, d2c, d3, d3c, d4, d4c, d5, d5c, hpar, ppar⟩ := hO4.st
                    have HPR := Lib.hid hpar
                    have HPP := Lib.hid ppar.at
                    clear hO4 hcur pcur hpar ppar
                    go_wp2_with (first | (refine wpList_load_row rfl 27 _ rfl w2.heap.size rfl 27 #[.string cu.disp, .string cu.lt, .string cu.col, .slice c1 cu.con.length c1c, .bool cu.nor, .bool cu.non, .slice c2 cu.quo.length c2c, .bool cu.aut, .slice c3 cu.rst.length c3c, .slice c4 cu.add.length c4c, .slice c5 cu.set.length c5c] (0, 0) _ HCU.out Tryz.underlying27 rfl (by kernel_rfl) ?_) | (refine wpList_load_row rfl 27 _ rfl w1.heap.size rfl 27 #[.string startS.disp, .string startS.lt, .string startS.col, .slice d1 startS.con.length d1c, .bool startS.nor, .bool startS.non, .slice d2 startS.quo.length d2c, .bool startS.aut, .slice d3 startS.rst.length d3c, .slice d4 startS.add.length d4c, .slice d5 startS.set.length d5c] (0, 0) _ HPR.out Tryz.underlying27 rfl (by kernel_rfl) ?_) | (go_at_call 26; (with_reducible refine (take_c kx cu startS _ _ _ _ _ _ _ _ _ _ nx _ HKX.out HZ.out start_small HPC.out HPP.out).mono ?_)))
                    rintro e w6 ⟨v6, rfl, hv, hb6⟩
                    obtain ⟨r1, r1c, r2, r2c, r3, r3c, r4, r4c, r5, r5c, rfl, hx6⟩ := hv.x
                    have HC6 := Lib.hid ((hb6.block w2.heap.size hz4).trans HCU.out)
                    have HX6 := Lib.hid hx6
                    have HB6 := Lib.hid hb6
                    clear hx6 hb6 hv
                    go_wp2_with (refine wpList_store_row rfl 27 _ _ rfl w2.heap.size _ rfl rfl 27 _ HC6.out (by kernel_rfl) rfl (by simp [Value.oneCell']) ?_)
                    go_roundw
                    case rel =>
                      (repeat apply Exists.intro)
                      refine ⟨⟨j + 1, by omega, by go_num, ?_⟩, rfl⟩
                      rw [HE.out, HE2.out]
                      exact HO4.out.upd HB6.out ⟨_, _, _, _, _, _, _, _, _, _, rfl, HX6.out.mono fun g _ h => ⟨by omega, by omega, by omega, by omega, by omega⟩⟩ (by omega) (by omega) (by omega) (by omega) (by omega)
                    case measure => simp [intOf]; omega
                · have h3 : (wd == 3) = false := by simp [y3]
                  have HE2 : Hid (stepS p pa cu ⟨nx, kx, wd, sx⟩ = take kx cu startS) := Lib.hid (by unfold stepS; rw [if_neg HNF.out, if_neg y0, if_neg (show ¬ (wd = 1 ∨ (wd = 3 ∧ inh kx = true)) from fun h => h.elim y1 fun h => y3 h.1)])
                  clear y0 y1 y3
                  have HO4 := Lib.hid hO4
                  obtain ⟨c1, c1c, c2, c2c, c3, c3c, c4, c4c, c5, c5c, hcur, pcur⟩ := hO4.cur
                  have HCU := Lib.hid hcur
                  have HPC := Lib.hid pcur.at
                  have hz4 : w2.heap.size < w4.heap.size := (Array.getElem?_eq_some_iff.1 hcur).1
                  obtain ⟨d1, d1c, d2, d2c, d3, d3c, d4, d4c, d5, d5c, hpar, ppar⟩ := hO4.st
                  have HPR := Lib.hid hpar
                  have HPP := Lib.hid ppar.at
                  clear hO4 hcur pcur hpar ppar
                  go_wp2_with (first | (refine wpList_load_row rfl 27 _ rfl w2.heap.size rfl 27 #[.string cu.disp, .string cu.lt, .string cu.col, .slice c1 cu.con.length c1c, .bool cu.nor, .bool cu.non, .slice c2 cu.quo.length c2c, .bool cu.aut, .slice c3 cu.rst.length c3c, .slice c4 cu.add.length c4c, .slice c5 cu.set.length c5c] (0, 0) _ HCU.out Tryz.underlying27 rfl (by kernel_rfl) ?_) | (refine wpList_load_row rfl 27 _ rfl w1.heap.size rfl 27 #[.string startS.disp, .string startS.lt, .string startS.col, .slice d1 startS.con.length d1c, .bool startS.nor, .bool startS.non, .slice d2 startS.quo.length d2c, .bool startS.aut, .slice d3 startS.rst.length d3c, .slice d4 startS.add.length d4c, .slice d5 startS.set.length d5c] (0, 0) _ HPR.out Tryz.underlying27 rfl (by kernel_rfl) ?_) | (go_at_call 26; (with_reducible refine (take_c kx cu startS _ _ _ _ _ _ _ _ _ _ nx _ HKX.out HZ.out start_small HPC.out HPP.out).mono ?_)))
                  rintro e w6 ⟨v6, rfl, hv, hb6⟩
                  obtain ⟨r1, r1c, r2, r2c, r3, r3c, r4, r4c, r5, r5c, rfl, hx6⟩ := hv.x
                  have HC6 := Lib.hid ((hb6.block w2.heap.size hz4).trans HCU.out)
                  have HX6 := Lib.hid hx6
                  have HB6 := Lib.hid hb6
                  clear hx6 hb6 hv
                  go_wp2_with (refine wpList_store_row rfl 27 _ _ rfl w2.heap.size _ rfl rfl 27 _ HC6.out (by kernel_rfl) rfl (by simp [Value.oneCell']) ?_)
                  go_roundw
                  case rel =>
                    (repeat apply Exists.intro)
                    refine ⟨⟨j + 1, by omega, by go_num, ?_⟩, rfl⟩
                    rw [HE.out, HE2.out]
                    exact HO4.out.upd HB6.out ⟨_, _, _, _, _, _, _, _, _, _, rfl, HX6.out.mono fun g _ h => ⟨by omega, by omega, by omega, by omega, by omega⟩⟩ (by omega) (by omega) (by omega) (by omega) (by omega)
                  case measure => simp [intOf]; omega
        · obtain rfl : j = l.length := by omega
          rw [List.take_length] at hO hofz
          obtain ⟨c1, c1c, c2, c2c, c3, c3c, c4, c4c, c5, c5c, hcur, pcur⟩ := hO.cur
          have HO := Lib.hid hO
          have HCU := Lib.hid hcur
          have HPC := Lib.hid pcur
          have HR := Lib.hid hO.res
          clear hO hcur pcur hofz
          obtain ⟨cu, hcu⟩ : ∃ cu, ofS p pa l = cu := ⟨_, rfl⟩
          rw [hcu] at HCU HPC
          have HCC := Lib.hid hcu
          clear hcu
          go_wp2_with (first | (refine wpList_load_row rfl 27 _ rfl w2.heap.size rfl 27 #[.string cu.disp, .string cu.lt, .string cu.col, .slice c1 cu.con.length c1c, .bool cu.nor, .bool cu.non, .slice c2 cu.quo.length c2c, .bool cu.aut, .slice c3 cu.rst.length c3c, .slice c4 cu.add.length c4c, .slice c5 cu.set.length c5c] (0, 0) _ HCU.out Tryz.underlying27 rfl (by kernel_rfl) ?_) | (refine wpList_store_row rfl 27 _ _ rfl (w.heap.size + 1) _ rfl rfl 27 _ HR.out (by kernel_rfl) rfl (by simp [Value.oneCell']) ?_))
          (try simp only [Exit.inBlock, Exit.then])
          refine bodyPost_ret (results_cell_row (g := w.heap.size + 1) (t := 27) (cs := #[.string cu.disp, .string cu.lt, .string cu.col, .slice c1 cu.con.length c1c, .bool cu.nor, .bool cu.non, .slice c2 cu.quo.length c2c, .bool cu.aut, .slice c3 cu.rst.length c3c, .slice c4 cu.add.length c4c, .slice c5 cu.set.length c5c]) (fr := (0, 0)) rfl _ _ _ rfl (setRow_heap _ _ _ _ _ _ HR.out) Tryz.underlying27 rfl (by kernel_rfl)) rfl ?_
          exact ⟨_, rfl, by rw [HCC.out]; exact ⟨_, _, _, _, _, _, _, _, _, _, rfl, (HPC.out.row _ fun h => h.2.1 rfl).mono fun g _ h => h.2.2.2.2⟩, below_setRow HO.out.low (by omega) _⟩
end Go.Proofs.YtkpoeilfnopgbaaGreatDoor.Sty
