/- Rows that lie apart from the boxes at hand; Start; the document's Names, Inherits, Allowed, Take. -/
import Derived.Test.YtkpoeilfnopgbaaGreatDoorSYd
namespace Go.Proofs.YtkpoeilfnopgbaaGreatDoor.Sty
open Go Go.RowKit
def RowX (ok : Nat → Prop) (n : Nat) (cs : List Value) (v : Value) (w : World) : Prop :=
  ∃ p c, v = .slice p n c ∧ (0 < n → ∃ g o, p = some ⟨g, o, none⟩ ∧ ok g ∧ g < w.heap.size ∧ ∀ (j : Nat) u, cs[j]? = some u → w.cell? ⟨g, o + j, none⟩ = some u)
theorem RowX.at {ok : Nat → Prop} {n : Nat} {cs : List Value} {v : Value} {w : World} (h : RowX ok n cs v w) : RowAt n cs v w := by
  obtain ⟨p, c, hv, hc⟩ := h
  refine ⟨p, c, hv, fun hn => ?_⟩
  obtain ⟨g, o, h1, _, h3, h4⟩ := hc hn
  exact ⟨g, o, h1, h3, h4⟩
theorem RowX.mono {ok ok' : Nat → Prop} {n : Nat} {cs : List Value} {v : Value} {w : World} (h : RowX ok n cs v w) (hk : ∀ g, g < w.heap.size → ok g → ok' g) : RowX ok' n cs v w := by
  obtain ⟨p, c, hv, hc⟩ := h
  refine ⟨p, c, hv, fun hn => ?_⟩
  obtain ⟨g, o, h1, h2, h3, h4⟩ := hc hn
  exact ⟨g, o, h1, hk g h3 h2, h3, h4⟩
theorem RowX.of_at {n : Nat} {cs : List Value} {v : Value} {w : World} (h : RowAt n cs v w) : RowX (· < w.heap.size) n cs v w := by
  obtain ⟨p, c, hv, hc⟩ := h
  refine ⟨p, c, hv, fun hn => ?_⟩
  obtain ⟨g, o, h1, h3, h4⟩ := hc hn
  exact ⟨g, o, h1, h3, h3, h4⟩
theorem RowX.of_new {B n m : Nat} {cs : List Value} {p : Option Addr} {c : Nat} {w : World} (h : RowAt n cs (.slice p m c) w) (hp : ∀ g o, p = some ⟨g, o, none⟩ → B ≤ g) : RowX (B ≤ ·) n cs (.slice p m c) w := by
  obtain ⟨p', c', hv, hc⟩ := h
  simp only [Value.slice.injEq] at hv
  obtain ⟨rfl, rfl, rfl⟩ := hv
  refine ⟨_, _, rfl, fun hn => ?_⟩
  obtain ⟨g, o, h1, h3, h4⟩ := hc hn
  exact ⟨g, o, h1, hp g o h1, h3, h4⟩
theorem RowX.below {ok : Nat → Prop} {n : Nat} {cs : List Value} {v : Value} {w w' : World} (h : RowX ok n cs v w) (hb : Below w.heap.size w w') : RowX ok n cs v w' := by
  obtain ⟨p, c, hv, hc⟩ := h
  refine ⟨p, c, hv, fun hn => ?_⟩
  obtain ⟨g, o, hp, hk, hg, hx⟩ := hc hn
  exact ⟨g, o, hp, hk, Nat.lt_of_lt_of_le hg hb.size, fun j u hj => (hb.cell (p := ⟨g, _, none⟩) hg).trans (hx j u hj)⟩
theorem RowX.row {ok : Nat → Prop} {n b : Nat} {cs : List Value} {v : Value} {w : World} (h : RowX ok n cs v w) (xs : Array Value) (hb : ¬ ok b) : RowX ok n cs v (w.setRow b xs) := by
  obtain ⟨p, c, hv, hc⟩ := h
  refine ⟨p, c, hv, fun hn => ?_⟩
  obtain ⟨g, o, hp, hk, hg, hx⟩ := hc hn
  have hne : g ≠ b := fun e => hb (e ▸ hk)
  exact ⟨g, o, hp, hk, by rw [setRow_size]; exact hg, fun j u hj => by rw [cell_setRow_other _ _ _ _ hne]; exact hx j u hj⟩
theorem RowX.cell {ok : Nat → Prop} {n b : Nat} {cs : List Value} {v : Value} {w : World} (h : RowX ok n cs v w) (i : Nat) (u : Value) (hb : ¬ ok b) : RowX ok n cs v (w.setCell ⟨b, i, none⟩ u) := by
  obtain ⟨p, c, hv, hc⟩ := h
  refine ⟨p, c, hv, fun hn => ?_⟩
  obtain ⟨g, o, hp, hk, hg, hx⟩ := hc hn
  have hne : g ≠ b := fun e => hb (e ▸ hk)
  exact ⟨g, o, hp, hk, by rw [set_size]; exact hg, fun j u' hj => by rw [World.cell?_of_block (Below.heap_setCell _ _ _ _ hne)]; exact hx j u' hj⟩
theorem RowX.nil (ok : Nat → Prop) (w : World) : RowX ok 0 [] (.slice none 0 0) w := ⟨none, 0, rfl, fun h => by cases h⟩
structure PartsX (ok : Nat → Prop) (s : S) (vc vq vr va vs : Value) (w : World) : Prop where
  c : RowX ok s.con.length (iC s.con) vc w
  q : RowX ok s.quo.length (qC s.quo) vq w
  r : RowX ok s.rst.length (pC s.rst) vr w
  a : RowX ok s.add.length (pC s.add) va w
  s : RowX ok s.set.length (pC s.set) vs w
section
variable {ok ok' : Nat → Prop} {s : S} {vc vq vr va vs : Value} {w w' : World} {b : Nat}
theorem PartsX.at (h : PartsX ok s vc vq vr va vs w) : Parts s vc vq vr va vs w := ⟨h.c.at, h.q.at, h.r.at, h.a.at, h.s.at⟩
theorem PartsX.mono (h : PartsX ok s vc vq vr va vs w) (hk : ∀ g, g < w.heap.size → ok g → ok' g) : PartsX ok' s vc vq vr va vs w := ⟨h.c.mono hk, h.q.mono hk, h.r.mono hk, h.a.mono hk, h.s.mono hk⟩
theorem PartsX.of_at (h : Parts s vc vq vr va vs w) : PartsX (· < w.heap.size) s vc vq vr va vs w := ⟨.of_at h.c, .of_at h.q, .of_at h.r, .of_at h.a, .of_at h.s⟩
theorem PartsX.below (h : PartsX ok s vc vq vr va vs w) (hb : Below w.heap.size w w') : PartsX ok s vc vq vr va vs w' := ⟨h.c.below hb, h.q.below hb, h.r.below hb, h.a.below hb, h.s.below hb⟩
theorem PartsX.row (h : PartsX ok s vc vq vr va vs w) (xs : Array Value) (hb : ¬ ok b) : PartsX ok s vc vq vr va vs (w.setRow b xs) := ⟨h.c.row xs hb, h.q.row xs hb, h.r.row xs hb, h.a.row xs hb, h.s.row xs hb⟩
theorem PartsX.cell (h : PartsX ok s vc vq vr va vs w) (i : Nat) (u : Value) (hb : ¬ ok b) : PartsX ok s vc vq vr va vs (w.setCell ⟨b, i, none⟩ u) := ⟨h.c.cell i u hb, h.q.cell i u hb, h.r.cell i u hb, h.a.cell i u hb, h.s.cell i u hb⟩
theorem PartsX.open (h : PartsX ok s vc vq vr va vs w) : ∃ p1 c1 p2 c2 p3 c3 p4 c4 p5 c5, vc = .slice p1 s.con.length c1 ∧ vq = .slice p2 s.quo.length c2 ∧ vr = .slice p3 s.rst.length c3 ∧ va = .slice p4 s.add.length c4 ∧ vs = .slice p5 s.set.length c5 := by
  obtain ⟨p1, c1, h1, _⟩ := h.c
  obtain ⟨p2, c2, h2, _⟩ := h.q
  obtain ⟨p3, c3, h3, _⟩ := h.r
  obtain ⟨p4, c4, h4, _⟩ := h.a
  obtain ⟨p5, c5, h5, _⟩ := h.s
  exact ⟨p1, c1, p2, c2, p3, c3, p4, c4, p5, c5, h1, h2, h3, h4, h5⟩
end
theorem StyN.x {B : Nat} {s : S} {v : Value} {w : World} (h : StyN B s v w) : ∃ p1 c1 p2 c2 p3 c3 p4 c4 p5 c5, v = .agg #[.string s.disp, .string s.lt, .string s.col, .slice p1 s.con.length c1, .bool s.nor, .bool s.non, .slice p2 s.quo.length c2, .bool s.aut, .slice p3 s.rst.length c3, .slice p4 s.add.length c4, .slice p5 s.set.length c5] ∧ PartsX (B ≤ ·) s (.slice p1 s.con.length c1) (.slice p2 s.quo.length c2) (.slice p3 s.rst.length c3) (.slice p4 s.add.length c4) (.slice p5 s.set.length c5) w := by
  obtain ⟨p1, c1, p2, c2, p3, c3, p4, c4, p5, c5, e, h, hn⟩ := h
  exact ⟨p1, c1, p2, c2, p3, c3, p4, c4, p5, c5, e, .of_new h.c (hn p1 (by simp)), .of_new h.q (hn p2 (by simp)), .of_new h.r (hn p3 (by simp)), .of_new h.a (hn p4 (by simp)), .of_new h.s (hn p5 (by simp))⟩
def StyX (ok : Nat → Prop) (s : S) (v : Value) (w : World) : Prop := ∃ p1 c1 p2 c2 p3 c3 p4 c4 p5 c5, v = .agg #[.string s.disp, .string s.lt, .string s.col, .slice p1 s.con.length c1, .bool s.nor, .bool s.non, .slice p2 s.quo.length c2, .bool s.aut, .slice p3 s.rst.length c3, .slice p4 s.add.length c4, .slice p5 s.set.length c5] ∧ PartsX ok s (.slice p1 s.con.length c1) (.slice p2 s.quo.length c2) (.slice p3 s.rst.length c3) (.slice p4 s.add.length c4) (.slice p5 s.set.length c5) w
def Var (ok : Nat → Prop) (s : S) (b : Nat) (w : World) : Prop := ∃ p1 c1 p2 c2 p3 c3 p4 c4 p5 c5, w.heap[b]? = some (.cells #[.string s.disp, .string s.lt, .string s.col, .slice p1 s.con.length c1, .bool s.nor, .bool s.non, .slice p2 s.quo.length c2, .bool s.aut, .slice p3 s.rst.length c3, .slice p4 s.add.length c4, .slice p5 s.set.length c5] 27 (0, 0)) ∧ PartsX ok s (.slice p1 s.con.length c1) (.slice p2 s.quo.length c2) (.slice p3 s.rst.length c3) (.slice p4 s.add.length c4) (.slice p5 s.set.length c5) w
section
variable {ok ok' : Nat → Prop} {s s' : S} {w w' : World} {b b' : Nat} {v : Value}
theorem Var.lt (h : Var ok s b w) : b < w.heap.size := by
  obtain ⟨p1, c1, p2, c2, p3, c3, p4, c4, p5, c5, hb, _⟩ := h
  exact (Array.getElem?_eq_some_iff.1 hb).1
theorem Var.below (h : Var ok s b w) (hb : Below w.heap.size w w') : Var ok s b w' := by
  have hl := h.lt
  obtain ⟨p1, c1, p2, c2, p3, c3, p4, c4, p5, c5, hx, hp⟩ := h
  exact ⟨p1, c1, p2, c2, p3, c3, p4, c4, p5, c5, (hb.block b hl).trans hx, hp.below hb⟩
theorem Var.row (h : Var ok s b w) (xs : Array Value) (hb : ¬ ok b') (hne : b ≠ b') : Var ok s b (w.setRow b' xs) := by
  obtain ⟨p1, c1, p2, c2, p3, c3, p4, c4, p5, c5, hx, hp⟩ := h
  exact ⟨p1, c1, p2, c2, p3, c3, p4, c4, p5, c5, (setRow_other _ _ _ _ hne).trans hx, hp.row xs hb⟩
theorem Var.put {old xs : Array Value} (hx : w.heap[b]? = some (.cells old 27 (0, 0))) (h : StyX ok s (.agg xs) w) (hb : ¬ ok b) : Var ok s b (w.setRow b xs) := by
  obtain ⟨p1, c1, p2, c2, p3, c3, p4, c4, p5, c5, e, hp⟩ := h
  simp only [Value.agg.injEq] at e
  subst e
  exact ⟨p1, c1, p2, c2, p3, c3, p4, c4, p5, c5, setRow_heap _ _ _ _ _ _ hx, hp.row _ hb⟩
theorem StyX.mono (h : StyX ok s v w) (hk : ∀ g, g < w.heap.size → ok g → ok' g) : StyX ok' s v w := by
  obtain ⟨p1, c1, p2, c2, p3, c3, p4, c4, p5, c5, e, hp⟩ := h
  exact ⟨p1, c1, p2, c2, p3, c3, p4, c4, p5, c5, e, hp.mono hk⟩
theorem StyX.below (h : StyX ok s v w) (hb : Below w.heap.size w w') : StyX ok s v w' := by
  obtain ⟨p1, c1, p2, c2, p3, c3, p4, c4, p5, c5, e, hp⟩ := h
  exact ⟨p1, c1, p2, c2, p3, c3, p4, c4, p5, c5, e, hp.below hb⟩
end
def startS : S := ⟨⟨#[105, 110, 108, 105, 110, 101]⟩, ⟨#[100, 105, 115, 99]⟩, ⟨#[98, 108, 97, 99, 107]⟩, [], true, false, [], true, [], [], []⟩
theorem start_small : startS.small := ⟨Nat.zero_le _, Nat.zero_le _, Nat.zero_le _, Nat.zero_le _, Nat.zero_le _⟩
theorem take_small (k : Nat) {s f : S} (h : s.small) (g : f.small) : (take k s f).small := by
  obtain ⟨h1, h2, h3, h4, h5⟩ := h
  obtain ⟨g1, g2, g3, g4, g5⟩ := g
  unfold take
  split <;> exact ⟨by assumption, by assumption, by assumption, by assumption, by assumption⟩
theorem pstart_c (w : World) : Calls Tryz.prog 23 #[] w fun e w' => e = .returned (.agg #[.string ⟨#[105, 110, 108, 105, 110, 101]⟩, .string ⟨#[100, 105, 115, 99]⟩, .string ⟨#[98, 108, 97, 99, 107]⟩, .slice none 0 0, .bool true, .bool false, .slice none 0 0, .bool true, .slice none 0 0, .slice none 0 0, .slice none 0 0]) ∧ Below w.heap.size w w' := by
  have hX := new_heap w (.cells #[.string ⟨#[]⟩, .string ⟨#[]⟩, .string ⟨#[]⟩, .slice none 0 0, .bool false, .bool false, .slice none 0 0, .bool false, .slice none 0 0, .slice none 0 0, .slice none 0 0] 27)
  have hB : Below w.heap.size w (w.alloc (.cells #[.string ⟨#[]⟩, .string ⟨#[]⟩, .string ⟨#[]⟩, .slice none 0 0, .bool false, .bool false, .slice none 0 0, .bool false, .slice none 0 0, .slice none 0 0, .slice none 0 0] 27)) := (Below.refl _ w).alloc (Nat.le_refl _) _
  have HX := Lib.hid hX
  have HB := Lib.hid hB
  clear hX hB
  go_enter Tryz.func23, Tryz.ntmps23
  go_wp2_with (refine wpList_store_row rfl 27 _ _ rfl w.heap.size #[.string ⟨#[105, 110, 108, 105, 110, 101]⟩, .string ⟨#[100, 105, 115, 99]⟩, .string ⟨#[98, 108, 97, 99, 107]⟩, .slice none 0 0, .bool true, .bool false, .slice none 0 0, .bool true, .slice none 0 0, .slice none 0 0, .slice none 0 0] rfl rfl 27 _ HX.out (by kernel_rfl) rfl (by simp [Value.oneCell']) ?_)
  (try simp only [Exit.inBlock, Exit.then])
  refine bodyPost_ret (results_cell_row (g := w.heap.size) (t := 27) (cs := #[.string ⟨#[105, 110, 108, 105, 110, 101]⟩, .string ⟨#[100, 105, 115, 99]⟩, .string ⟨#[98, 108, 97, 99, 107]⟩, .slice none 0 0, .bool true, .bool false, .slice none 0 0, .bool true, .slice none 0 0, .slice none 0 0, .slice none 0 0]) (fr := (0, 0)) rfl _ _ _ rfl (setRow_heap _ _ _ _ _ _ HX.out) Tryz.underlying27 rfl (by kernel_rfl)) rfl ?_
  exact ⟨rfl, below_setRow HB.out (Nat.le_refl _) _⟩
theorem rstart_c (w : World) : Calls Tryz.prog 15 #[] w fun e w' => e = .returned (.agg #[.string ⟨#[105, 110, 108, 105, 110, 101]⟩, .string ⟨#[100, 105, 115, 99]⟩, .string ⟨#[98, 108, 97, 99, 107]⟩, .slice none 0 0, .bool true, .bool false, .slice none 0 0, .bool true, .slice none 0 0, .slice none 0 0, .slice none 0 0]) ∧ Below w.heap.size w w' := by
  have hX := new_heap w (.cells #[.string ⟨#[]⟩, .string ⟨#[]⟩, .string ⟨#[]⟩, .slice none 0 0, .bool false, .bool false, .slice none 0 0, .bool false, .slice none 0 0, .slice none 0 0, .slice none 0 0] 27)
  have hB : Below w.heap.size w (w.alloc (.cells #[.string ⟨#[]⟩, .string ⟨#[]⟩, .string ⟨#[]⟩, .slice none 0 0, .bool false, .bool false, .slice none 0 0, .bool false, .slice none 0 0, .slice none 0 0, .slice none 0 0] 27)) := (Below.refl _ w).alloc (Nat.le_refl _) _
  have HX := Lib.hid hX
  have HB := Lib.hid hB
  clear hX hB
  go_enter Tryz.func15, Tryz.ntmps15
  go_wp2_with (refine wpList_store_row rfl 27 _ _ rfl w.heap.size #[.string ⟨#[105, 110, 108, 105, 110, 101]⟩, .string ⟨#[100, 105, 115, 99]⟩, .string ⟨#[98, 108, 97, 99, 107]⟩, .slice none 0 0, .bool true, .bool false, .slice none 0 0, .bool true, .slice none 0 0, .slice none 0 0, .slice none 0 0] rfl rfl 27 _ HX.out (by kernel_rfl) rfl (by simp [Value.oneCell']) ?_)
  (try simp only [Exit.inBlock, Exit.then])
  refine bodyPost_ret (results_cell_row (g := w.heap.size) (t := 27) (cs := #[.string ⟨#[105, 110, 108, 105, 110, 101]⟩, .string ⟨#[100, 105, 115, 99]⟩, .string ⟨#[98, 108, 97, 99, 107]⟩, .slice none 0 0, .bool true, .bool false, .slice none 0 0, .bool true, .slice none 0 0, .slice none 0 0, .slice none 0 0]) (fr := (0, 0)) rfl _ _ _ rfl (setRow_heap _ _ _ _ _ _ HX.out) Tryz.underlying27 rfl (by kernel_rfl)) rfl ?_
  exact ⟨rfl, below_setRow HB.out (Nat.le_refl _) _⟩
theorem rnames_c (w : World) : Calls Tryz.prog 12 #[] w fun e w' => e = .returned (.slice (some ⟨w.heap.size, 0, none⟩) 8 8) ∧ w' = w.alloc (.cells #[.string ⟨#[99, 111, 108, 111, 114]⟩, .string ⟨#[99, 111, 110, 116, 101, 110, 116]⟩, .string ⟨#[99, 111, 117, 110, 116, 101, 114, 45, 105, 110, 99, 114, 101, 109, 101, 110, 116]⟩, .string ⟨#[99, 111, 117, 110, 116, 101, 114, 45, 114, 101, 115, 101, 116]⟩, .string ⟨#[99, 111, 117, 110, 116, 101, 114, 45, 115, 101, 116]⟩, .string ⟨#[100, 105, 115, 112, 108, 97, 121]⟩, .string ⟨#[108, 105, 115, 116, 45, 115, 116, 121, 108, 101, 45, 116, 121, 112, 101]⟩, .string ⟨#[113, 117, 111, 116, 101, 115]⟩] 9) := by
  go_enter Tryz.func12, Tryz.ntmps12
  go_wp2
  go_ret
  exact ⟨rfl, rfl⟩
theorem rinherits_c (k : Nat) (n : ByteArray) (w : World) (hk : NmIs k n) : Calls Tryz.prog 13 #[.string n] w fun e w' => e = .returned (.bool (inh k)) ∧ w = w' := by
  unfold NmIs at hk
  rcases hk with ⟨rfl, rfl⟩ | ⟨rfl, rfl⟩ | ⟨rfl, rfl⟩ | ⟨rfl, rfl⟩ | ⟨rfl, rfl⟩ | ⟨rfl, rfl⟩ | ⟨rfl, rfl⟩ | ⟨rfl, rfl⟩ | ⟨rfl, e0, e1, e2, e3, e4, e5, e6, e7⟩
  all_goals
    go_enter Tryz.func13, Tryz.ntmps13
    go_wp2
    go_ret
    exact ⟨rfl, rfl⟩
set_option maxHeartbeats 8000000 in
set_option maxRecDepth 100000 in
theorem rtake_c (ok : Nat → Prop) (k : Nat) (s f : S) (p1 p2 p3 p4 p5 q1 q2 q3 q4 q5 : Option Addr) (p1c p2c p3c p4c p5c q1c q2c q3c q4c q5c : Nat) (n : ByteArray) (w : World) (hk : NmIs k n)
    (hv : PartsX ok s (.slice p1 s.con.length p1c) (.slice p2 s.quo.length p2c) (.slice p3 s.rst.length p3c) (.slice p4 s.add.length p4c) (.slice p5 s.set.length p5c) w)
    (hu : PartsX ok f (.slice q1 f.con.length q1c) (.slice q2 f.quo.length q2c) (.slice q3 f.rst.length q3c) (.slice q4 f.add.length q4c) (.slice q5 f.set.length q5c) w) :
    Calls Tryz.prog 14 #[.agg #[.string s.disp, .string s.lt, .string s.col, .slice p1 s.con.length p1c, .bool s.nor, .bool s.non, .slice p2 s.quo.length p2c, .bool s.aut, .slice p3 s.rst.length p3c, .slice p4 s.add.length p4c, .slice p5 s.set.length p5c], .agg #[.string f.disp, .string f.lt, .string f.col, .slice q1 f.con.length q1c, .bool f.nor, .bool f.non, .slice q2 f.quo.length q2c, .bool f.aut, .slice q3 f.rst.length q3c, .slice q4 f.add.length q4c, .slice q5 f.set.length q5c], .string n] w fun e w' => ∃ v', e = .returned v' ∧ StyX ok (take k s f) v' w' ∧ Below w.heap.size w w' := by
  suffices H : Calls Tryz.prog 14 #[.agg #[.string s.disp, .string s.lt, .string s.col, .slice p1 s.con.length p1c, .bool s.nor, .bool s.non, .slice p2 s.quo.length p2c, .bool s.aut, .slice p3 s.rst.length p3c, .slice p4 s.add.length p4c, .slice p5 s.set.length p5c], .agg #[.string f.disp, .string f.lt, .string f.col, .slice q1 f.con.length q1c, .bool f.nor, .bool f.non, .slice q2 f.quo.length q2c, .bool f.aut, .slice q3 f.rst.length q3c, .slice q4 f.add.length q4c, .slice q5 f.set.length q5c], .string n] w fun e w' => ∃ v', e = .returned v' ∧ StyX (fun g => ok g ∧ g < w.heap.size) (take k s f) v' w' ∧ Below w.heap.size w w' by
    refine H.mono ?_
    rintro e w' ⟨v', h1, h2, h3⟩
    exact ⟨v', h1, h2.mono fun g _ h => h.1, h3⟩
  replace hv := hv.mono (ok' := fun g => ok g ∧ g < w.heap.size) fun g h1 h2 => ⟨h2, h1⟩
  replace hu := hu.mono (ok' := fun g => ok g ∧ g < w.heap.size) fun g h1 h2 => ⟨h2, h1⟩
  obtain ⟨t1, t2, t3, t4, t5⟩ := three_new w (.cells #[.string s.disp, .string s.lt, .string s.col, .slice p1 s.con.length p1c, .bool s.nor, .bool s.non, .slice p2 s.quo.length p2c, .bool s.aut, .slice p3 s.rst.length p3c, .slice p4 s.add.length p4c, .slice p5 s.set.length p5c] 27) (.cells #[.string f.disp, .string f.lt, .string f.col, .slice q1 f.con.length q1c, .bool f.nor, .bool f.non, .slice q2 f.quo.length q2c, .bool f.aut, .slice q3 f.rst.length q3c, .slice q4 f.add.length q4c, .slice q5 f.set.length q5c] 27) (.cells #[.string ⟨#[]⟩, .string ⟨#[]⟩, .string ⟨#[]⟩, .slice none 0 0, .bool false, .bool false, .slice none 0 0, .bool false, .slice none 0 0, .slice none 0 0, .slice none 0 0] 27)
  have HP := Lib.hid (hv.below t5)
  have HQ := Lib.hid (hu.below t5)
  have HX := Lib.hid t1
  have HY := Lib.hid t2
  have HZ := Lib.hid t3
  have HB := Lib.hid t5
  clear t1 t2 t3 t5 hv hu
  have HS := Lib.hid t4
  clear t4
  go_enter Tryz.func14, Tryz.ntmps14
  go_upto_region 1 with fail
  generalize (((w.alloc (.cells #[.string s.disp, .string s.lt, .string s.col, .slice p1 s.con.length p1c, .bool s.nor, .bool s.non, .slice p2 s.quo.length p2c, .bool s.aut, .slice p3 s.rst.length p3c, .slice p4 s.add.length p4c, .slice p5 s.set.length p5c] 27)).alloc (.cells #[.string f.disp, .string f.lt, .string f.col, .slice q1 f.con.length q1c, .bool f.nor, .bool f.non, .slice q2 f.quo.length q2c, .bool f.aut, .slice q3 f.rst.length q3c, .slice q4 f.add.length q4c, .slice q5 f.set.length q5c] 27)).alloc (.cells #[.string ⟨#[]⟩, .string ⟨#[]⟩, .string ⟨#[]⟩, .slice none 0 0, .bool false, .bool false, .slice none 0 0, .bool false, .slice none 0 0, .slice none 0 0, .slice none 0 0] 27)) = W1 at HP HQ HX HY HZ HB HS ⊢
  have hz1 := HS.out
  have hz : w.heap.size + 3 ≤ W1.heap.size := by omega
  clear hz1 HS
  have cX := Lib.cell_of_heap HX.out
  have cY := Lib.cell_of_heap HY.out
  have fX := Lib.frozen_of_heap HX.out
  have k0 : ¬ (ok w.heap.size ∧ w.heap.size < w.heap.size) := fun h => absurd h.2 (by omega)
  have k2 : ¬ (ok (w.heap.size + 2) ∧ w.heap.size + 2 < w.heap.size) := fun h => absurd h.2 (by omega)
  unfold NmIs at hk
  rcases hk with ⟨rfl, rfl⟩ | ⟨rfl, rfl⟩ | ⟨rfl, rfl⟩ | ⟨rfl, rfl⟩ | ⟨rfl, rfl⟩ | ⟨rfl, rfl⟩ | ⟨rfl, rfl⟩ | ⟨rfl, rfl⟩ | ⟨rfl, e0, e1, e2, e3, e4, e5, e6, e7⟩
  · go_wp2_with (first | (refine wpList_load_row rfl 27 _ rfl w.heap.size rfl 27 #[.string s.disp, .string s.lt, .string f.col, .slice p1 s.con.length p1c, .bool s.nor, .bool s.non, .slice p2 s.quo.length p2c, .bool s.aut, .slice p3 s.rst.length p3c, .slice p4 s.add.length p4c, .slice p5 s.set.length p5c] (0, 0) _ (set_heap HX.out 2 _) Tryz.underlying27 rfl (by kernel_rfl) ?_) | (refine wpList_store_row rfl 27 _ _ rfl (w.heap.size + 2) _ rfl rfl 27 _ ((Below.heap_setCell _ _ _ _ (by show _ ≠ w.heap.size; omega)).trans HZ.out) (by kernel_rfl) rfl (by simp [Value.oneCell']) ?_))
    (try simp only [Exit.inBlock, Exit.then])
    refine bodyPost_ret (results_cell_row (g := w.heap.size + 2) (t := 27) (cs := #[.string s.disp, .string s.lt, .string f.col, .slice p1 s.con.length p1c, .bool s.nor, .bool s.non, .slice p2 s.quo.length p2c, .bool s.aut, .slice p3 s.rst.length p3c, .slice p4 s.add.length p4c, .slice p5 s.set.length p5c]) (fr := (0, 0)) rfl _ _ _ rfl (setRow_heap _ _ _ _ _ _ ((Below.heap_setCell _ _ _ _ (by show _ ≠ w.heap.size; omega)).trans HZ.out)) Tryz.underlying27 rfl (by kernel_rfl)) rfl ?_
    have PP := ((HP.out.cell 2 (.string f.col) (b := w.heap.size) k0).row #[.string s.disp, .string s.lt, .string f.col, .slice p1 s.con.length p1c, .bool s.nor, .bool s.non, .slice p2 s.quo.length p2c, .bool s.aut, .slice p3 s.rst.length p3c, .slice p4 s.add.length p4c, .slice p5 s.set.length p5c] (b := w.heap.size + 2) k2)
    have QQ := ((HQ.out.cell 2 (.string f.col) (b := w.heap.size) k0).row #[.string s.disp, .string s.lt, .string f.col, .slice p1 s.con.length p1c, .bool s.nor, .bool s.non, .slice p2 s.quo.length p2c, .bool s.aut, .slice p3 s.rst.length p3c, .slice p4 s.add.length p4c, .slice p5 s.set.length p5c] (b := w.heap.size + 2) k2)
    exact ⟨_, rfl, ⟨p1, p1c, p2, p2c, p3, p3c, p4, p4c, p5, p5c, rfl, ⟨PP.c, PP.q, PP.r, PP.a, PP.s⟩⟩, below_setRow (HB.out.setCell (Nat.le_refl _) _) (by omega) _⟩
  · go_wp2_with fail
    go_region
    go_wp2_with (first | (refine wpList_load_row rfl 27 _ rfl w.heap.size rfl 27 #[.string s.disp, .string s.lt, .string s.col, .slice q1 f.con.length q1c, .bool f.nor, .bool f.non, .slice p2 s.quo.length p2c, .bool s.aut, .slice p3 s.rst.length p3c, .slice p4 s.add.length p4c, .slice p5 s.set.length p5c] (0, 0) _ (set_heap (set_heap (set_heap HX.out 3 _) 4 _) 5 _) Tryz.underlying27 rfl (by kernel_rfl) ?_) | (refine wpList_store_row rfl 27 _ _ rfl (w.heap.size + 2) _ rfl rfl 27 _ ((Below.heap_setCell _ _ _ _ (by show _ ≠ w.heap.size; omega)).trans ((Below.heap_setCell _ _ _ _ (by show _ ≠ w.heap.size; omega)).trans ((Below.heap_setCell _ _ _ _ (by show _ ≠ w.heap.size; omega)).trans HZ.out))) (by kernel_rfl) rfl (by simp [Value.oneCell']) ?_))
    (try simp only [Exit.inBlock, Exit.then])
    refine bodyPost_ret (results_cell_row (g := w.heap.size + 2) (t := 27) (cs := #[.string s.disp, .string s.lt, .string s.col, .slice q1 f.con.length q1c, .bool f.nor, .bool f.non, .slice p2 s.quo.length p2c, .bool s.aut, .slice p3 s.rst.length p3c, .slice p4 s.add.length p4c, .slice p5 s.set.length p5c]) (fr := (0, 0)) rfl _ _ _ rfl (setRow_heap _ _ _ _ _ _ ((Below.heap_setCell _ _ _ _ (by show _ ≠ w.heap.size; omega)).trans ((Below.heap_setCell _ _ _ _ (by show _ ≠ w.heap.size; omega)).trans ((Below.heap_setCell _ _ _ _ (by show _ ≠ w.heap.size; omega)).trans HZ.out)))) Tryz.underlying27 rfl (by kernel_rfl)) rfl ?_
    have PP := (((((HP.out.cell 3 (.slice q1 f.con.length q1c) (b := w.heap.size) k0).cell 4 (.bool f.nor) (b := w.heap.size) k0).cell 5 (.bool f.non) (b := w.heap.size) k0).below (Below.refl _ _).drew).row #[.string s.disp, .string s.lt, .string s.col, .slice q1 f.con.length q1c, .bool f.nor, .bool f.non, .slice p2 s.quo.length p2c, .bool s.aut, .slice p3 s.rst.length p3c, .slice p4 s.add.length p4c, .slice p5 s.set.length p5c] (b := w.heap.size + 2) k2)
    have QQ := (((((HQ.out.cell 3 (.slice q1 f.con.length q1c) (b := w.heap.size) k0).cell 4 (.bool f.nor) (b := w.heap.size) k0).cell 5 (.bool f.non) (b := w.heap.size) k0).below (Below.refl _ _).drew).row #[.string s.disp, .string s.lt, .string s.col, .slice q1 f.con.length q1c, .bool f.nor, .bool f.non, .slice p2 s.quo.length p2c, .bool s.aut, .slice p3 s.rst.length p3c, .slice p4 s.add.length p4c, .slice p5 s.set.length p5c] (b := w.heap.size + 2) k2)
    exact ⟨_, rfl, ⟨q1, q1c, p2, p2c, p3, p3c, p4, p4c, p5, p5c, rfl, ⟨QQ.c, PP.q, PP.r, PP.a, PP.s⟩⟩, below_setRow (((HB.out.setCell (Nat.le_refl _) _).setCell (Nat.le_refl _) _).setCell (Nat.le_refl _) _).drew (by omega) _⟩
  · go_wp2_with (first | (refine wpList_load_row rfl 27 _ rfl w.heap.size rfl 27 #[.string s.disp, .string s.lt, .string s.col, .slice p1 s.con.length p1c, .bool s.nor, .bool s.non, .slice p2 s.quo.length p2c, .bool s.aut, .slice p3 s.rst.length p3c, .slice q4 f.add.length q4c, .slice p5 s.set.length p5c] (0, 0) _ (set_heap HX.out 9 _) Tryz.underlying27 rfl (by kernel_rfl) ?_) | (refine wpList_store_row rfl 27 _ _ rfl (w.heap.size + 2) _ rfl rfl 27 _ ((Below.heap_setCell _ _ _ _ (by show _ ≠ w.heap.size; omega)).trans HZ.out) (by kernel_rfl) rfl (by simp [Value.oneCell']) ?_))
    (try simp only [Exit.inBlock, Exit.then])
    refine bodyPost_ret (results_cell_row (g := w.heap.size + 2) (t := 27) (cs := #[.string s.disp, .string s.lt, .string s.col, .slice p1 s.con.length p1c, .bool s.nor, .bool s.non, .slice p2 s.quo.length p2c, .bool s.aut, .slice p3 s.rst.length p3c, .slice q4 f.add.length q4c, .slice p5 s.set.length p5c]) (fr := (0, 0)) rfl _ _ _ rfl (setRow_heap _ _ _ _ _ _ ((Below.heap_setCell _ _ _ _ (by show _ ≠ w.heap.size; omega)).trans HZ.out)) Tryz.underlying27 rfl (by kernel_rfl)) rfl ?_
    have PP := ((HP.out.cell 9 (.slice q4 f.add.length q4c) (b := w.heap.size) k0).row #[.string s.disp, .string s.lt, .string s.col, .slice p1 s.con.length p1c, .bool s.nor, .bool s.non, .slice p2 s.quo.length p2c, .bool s.aut, .slice p3 s.rst.length p3c, .slice q4 f.add.length q4c, .slice p5 s.set.length p5c] (b := w.heap.size + 2) k2)
    have QQ := ((HQ.out.cell 9 (.slice q4 f.add.length q4c) (b := w.heap.size) k0).row #[.string s.disp, .string s.lt, .string s.col, .slice p1 s.con.length p1c, .bool s.nor, .bool s.non, .slice p2 s.quo.length p2c, .bool s.aut, .slice p3 s.rst.length p3c, .slice q4 f.add.length q4c, .slice p5 s.set.length p5c] (b := w.heap.size + 2) k2)
    exact ⟨_, rfl, ⟨p1, p1c, p2, p2c, p3, p3c, q4, q4c, p5, p5c, rfl, ⟨PP.c, PP.q, PP.r, QQ.a, PP.s⟩⟩, below_setRow (HB.out.setCell (Nat.le_refl _) _) (by omega) _⟩
  · go_wp2_with (first | (refine wpList_load_row rfl 27 _ rfl w.heap.size rfl 27 #[.string s.disp, .string s.lt, .string s.col, .slice p1 s.con.length p1c, .bool s.nor, .bool s.non, .slice p2 s.quo.length p2c, .bool s.aut, .slice q3 f.rst.length q3c, .slice p4 s.add.length p4c, .slice p5 s.set.length p5c] (0, 0) _ (set_heap HX.out 8 _) Tryz.underlying27 rfl (by kernel_rfl) ?_) | (refine wpList_store_row rfl 27 _ _ rfl (w.heap.size + 2) _ rfl rfl 27 _ ((Below.heap_setCell _ _ _ _ (by show _ ≠ w.heap.size; omega)).trans HZ.out) (by kernel_rfl) rfl (by simp [Value.oneCell']) ?_))
    (try simp only [Exit.inBlock, Exit.then])
    refine bodyPost_ret (results_cell_row (g := w.heap.size + 2) (t := 27) (cs := #[.string s.disp, .string s.lt, .string s.col, .slice p1 s.con.length p1c, .bool s.nor, .bool s.non, .slice p2 s.quo.length p2c, .bool s.aut, .slice q3 f.rst.length q3c, .slice p4 s.add.length p4c, .slice p5 s.set.length p5c]) (fr := (0, 0)) rfl _ _ _ rfl (setRow_heap _ _ _ _ _ _ ((Below.heap_setCell _ _ _ _ (by show _ ≠ w.heap.size; omega)).trans HZ.out)) Tryz.underlying27 rfl (by kernel_rfl)) rfl ?_
    have PP := ((HP.out.cell 8 (.slice q3 f.rst.length q3c) (b := w.heap.size) k0).row #[.string s.disp, .string s.lt, .string s.col, .slice p1 s.con.length p1c, .bool s.nor, .bool s.non, .slice p2 s.quo.length p2c, .bool s.aut, .slice q3 f.rst.length q3c, .slice p4 s.add.length p4c, .slice p5 s.set.length p5c] (b := w.heap.size + 2) k2)
    have QQ := ((HQ.out.cell 8 (.slice q3 f.rst.length q3c) (b := w.heap.size) k0).row #[.string s.disp, .string s.lt, .string s.col, .slice p1 s.con.length p1c, .bool s.nor, .bool s.non, .slice p2 s.quo.length p2c, .bool s.aut, .slice q3 f.rst.length q3c, .slice p4 s.add.length p4c, .slice p5 s.set.length p5c] (b := w.heap.size + 2) k2)
    exact ⟨_, rfl, ⟨p1, p1c, p2, p2c, q3, q3c, p4, p4c, p5, p5c, rfl, ⟨PP.c, PP.q, QQ.r, PP.a, PP.s⟩⟩, below_setRow (HB.out.setCell (Nat.le_refl _) _) (by omega) _⟩
  · go_wp2_with (first | (refine wpList_load_row rfl 27 _ rfl w.heap.size rfl 27 #[.string s.disp, .string s.lt, .string s.col, .slice p1 s.con.length p1c, .bool s.nor, .bool s.non, .slice p2 s.quo.length p2c, .bool s.aut, .slice p3 s.rst.length p3c, .slice p4 s.add.length p4c, .slice q5 f.set.length q5c] (0, 0) _ (set_heap HX.out 10 _) Tryz.underlying27 rfl (by kernel_rfl) ?_) | (refine wpList_store_row rfl 27 _ _ rfl (w.heap.size + 2) _ rfl rfl 27 _ ((Below.heap_setCell _ _ _ _ (by show _ ≠ w.heap.size; omega)).trans HZ.out) (by kernel_rfl) rfl (by simp [Value.oneCell']) ?_))
    (try simp only [Exit.inBlock, Exit.then])
    refine bodyPost_ret (results_cell_row (g := w.heap.size + 2) (t := 27) (cs := #[.string s.disp, .string s.lt, .string s.col, .slice p1 s.con.length p1c, .bool s.nor, .bool s.non, .slice p2 s.quo.length p2c, .bool s.aut, .slice p3 s.rst.length p3c, .slice p4 s.add.length p4c, .slice q5 f.set.length q5c]) (fr := (0, 0)) rfl _ _ _ rfl (setRow_heap _ _ _ _ _ _ ((Below.heap_setCell _ _ _ _ (by show _ ≠ w.heap.size; omega)).trans HZ.out)) Tryz.underlying27 rfl (by kernel_rfl)) rfl ?_
    have PP := ((HP.out.cell 10 (.slice q5 f.set.length q5c) (b := w.heap.size) k0).row #[.string s.disp, .string s.lt, .string s.col, .slice p1 s.con.length p1c, .bool s.nor, .bool s.non, .slice p2 s.quo.length p2c, .bool s.aut, .slice p3 s.rst.length p3c, .slice p4 s.add.length p4c, .slice q5 f.set.length q5c] (b := w.heap.size + 2) k2)
    have QQ := ((HQ.out.cell 10 (.slice q5 f.set.length q5c) (b := w.heap.size) k0).row #[.string s.disp, .string s.lt, .string s.col, .slice p1 s.con.length p1c, .bool s.nor, .bool s.non, .slice p2 s.quo.length p2c, .bool s.aut, .slice p3 s.rst.length p3c, .slice p4 s.add.length p4c, .slice q5 f.set.length q5c] (b := w.heap.size + 2) k2)
    exact ⟨_, rfl, ⟨p1, p1c, p2, p2c, p3, p3c, p4, p4c, q5, q5c, rfl, ⟨PP.c, PP.q, PP.r, PP.a, QQ.s⟩⟩, below_setRow (HB.out.setCell (Nat.le_refl _) _) (by omega) _⟩
  · go_wp2_with (first | (refine wpList_load_row rfl 27 _ rfl w.heap.size rfl 27 #[.string f.disp, .string s.lt, .string s.col, .slice p1 s.con.length p1c, .bool s.nor, .bool s.non, .slice p2 s.quo.length p2c, .bool s.aut, .slice p3 s.rst.length p3c, .slice p4 s.add.length p4c, .slice p5 s.set.length p5c] (0, 0) _ (set_heap HX.out 0 _) Tryz.underlying27 rfl (by kernel_rfl) ?_) | (refine wpList_store_row rfl 27 _ _ rfl (w.heap.size + 2) _ rfl rfl 27 _ ((Below.heap_setCell _ _ _ _ (by show _ ≠ w.heap.size; omega)).trans HZ.out) (by kernel_rfl) rfl (by simp [Value.oneCell']) ?_))
    (try simp only [Exit.inBlock, Exit.then])
    refine bodyPost_ret (results_cell_row (g := w.heap.size + 2) (t := 27) (cs := #[.string f.disp, .string s.lt, .string s.col, .slice p1 s.con.length p1c, .bool s.nor, .bool s.non, .slice p2 s.quo.length p2c, .bool s.aut, .slice p3 s.rst.length p3c, .slice p4 s.add.length p4c, .slice p5 s.set.length p5c]) (fr := (0, 0)) rfl _ _ _ rfl (setRow_heap _ _ _ _ _ _ ((Below.heap_setCell _ _ _ _ (by show _ ≠ w.heap.size; omega)).trans HZ.out)) Tryz.underlying27 rfl (by kernel_rfl)) rfl ?_
    have PP := ((HP.out.cell 0 (.string f.disp) (b := w.heap.size) k0).row #[.string f.disp, .string s.lt, .string s.col, .slice p1 s.con.length p1c, .bool s.nor, .bool s.non, .slice p2 s.quo.length p2c, .bool s.aut, .slice p3 s.rst.length p3c, .slice p4 s.add.length p4c, .slice p5 s.set.length p5c] (b := w.heap.size + 2) k2)
    have QQ := ((HQ.out.cell 0 (.string f.disp) (b := w.heap.size) k0).row #[.string f.disp, .string s.lt, .string s.col, .slice p1 s.con.length p1c, .bool s.nor, .bool s.non, .slice p2 s.quo.length p2c, .bool s.aut, .slice p3 s.rst.length p3c, .slice p4 s.add.length p4c, .slice p5 s.set.length p5c] (b := w.heap.size + 2) k2)
    exact ⟨_, rfl, ⟨p1, p1c, p2, p2c, p3, p3c, p4, p4c, p5, p5c, rfl, ⟨PP.c, PP.q, PP.r, PP.a, PP.s⟩⟩, below_setRow (HB.out.setCell (Nat.le_refl _) _) (by omega) _⟩
  · go_wp2_with (first | (refine wpList_load_row rfl 27 _ rfl w.heap.size rfl 27 #[.string s.disp, .string f.lt, .string s.col, .slice p1 s.con.length p1c, .bool s.nor, .bool s.non, .slice p2 s.quo.length p2c, .bool s.aut, .slice p3 s.rst.length p3c, .slice p4 s.add.length p4c, .slice p5 s.set.length p5c] (0, 0) _ (set_heap HX.out 1 _) Tryz.underlying27 rfl (by kernel_rfl) ?_) | (refine wpList_store_row rfl 27 _ _ rfl (w.heap.size + 2) _ rfl rfl 27 _ ((Below.heap_setCell _ _ _ _ (by show _ ≠ w.heap.size; omega)).trans HZ.out) (by kernel_rfl) rfl (by simp [Value.oneCell']) ?_))
    (try simp only [Exit.inBlock, Exit.then])
    refine bodyPost_ret (results_cell_row (g := w.heap.size + 2) (t := 27) (cs := #[.string s.disp, .string f.lt, .string s.col, .slice p1 s.con.length p1c, .bool s.nor, .bool s.non, .slice p2 s.quo.length p2c, .bool s.aut, .slice p3 s.rst.length p3c, .slice p4 s.add.length p4c, .slice p5 s.set.length p5c]) (fr := (0, 0)) rfl _ _ _ rfl (setRow_heap _ _ _ _ _ _ ((Below.heap_setCell _ _ _ _ (by show _ ≠ w.heap.size; omega)).trans HZ.out)) Tryz.underlying27 rfl (by kernel_rfl)) rfl ?_
    have PP := ((HP.out.cell 1 (.string f.lt) (b := w.heap.size) k0).row #[.string s.disp, .string f.lt, .string s.col, .slice p1 s.con.length p1c, .bool s.nor, .bool s.non, .slice p2 s.quo.length p2c, .bool s.aut, .slice p3 s.rst.length p3c, .slice p4 s.add.length p4c, .slice p5 s.set.length p5c] (b := w.heap.size + 2) k2)
    have QQ := ((HQ.out.cell 1 (.string f.lt) (b := w.heap.size) k0).row #[.string s.disp, .string f.lt, .string s.col, .slice p1 s.con.length p1c, .bool s.nor, .bool s.non, .slice p2 s.quo.length p2c, .bool s.aut, .slice p3 s.rst.length p3c, .slice p4 s.add.length p4c, .slice p5 s.set.length p5c] (b := w.heap.size + 2) k2)
    exact ⟨_, rfl, ⟨p1, p1c, p2, p2c, p3, p3c, p4, p4c, p5, p5c, rfl, ⟨PP.c, PP.q, PP.r, PP.a, PP.s⟩⟩, below_setRow (HB.out.setCell (Nat.le_refl _) _) (by omega) _⟩
  · go_wp2_with fail
    go_region
    go_wp2_with (first | (refine wpList_load_row rfl 27 _ rfl w.heap.size rfl 27 #[.string s.disp, .string s.lt, .string s.col, .slice p1 s.con.length p1c, .bool s.nor, .bool s.non, .slice q2 f.quo.length q2c, .bool f.aut, .slice p3 s.rst.length p3c, .slice p4 s.add.length p4c, .slice p5 s.set.length p5c] (0, 0) _ (set_heap (set_heap HX.out 6 _) 7 _) Tryz.underlying27 rfl (by kernel_rfl) ?_) | (refine wpList_store_row rfl 27 _ _ rfl (w.heap.size + 2) _ rfl rfl 27 _ ((Below.heap_setCell _ _ _ _ (by show _ ≠ w.heap.size; omega)).trans ((Below.heap_setCell _ _ _ _ (by show _ ≠ w.heap.size; omega)).trans HZ.out)) (by kernel_rfl) rfl (by simp [Value.oneCell']) ?_))
    (try simp only [Exit.inBlock, Exit.then])
    refine bodyPost_ret (results_cell_row (g := w.heap.size + 2) (t := 27) (cs := #[.string s.disp, .string s.lt, .string s.col, .slice p1 s.con.length p1c, .bool s.nor, .bool s.non, .slice q2 f.quo.length q2c, .bool f.aut, .slice p3 s.rst.length p3c, .slice p4 s.add.length p4c, .slice p5 s.set.length p5c]) (fr := (0, 0)) rfl _ _ _ rfl (setRow_heap _ _ _ _ _ _ ((Below.heap_setCell _ _ _ _ (by show _ ≠ w.heap.size; omega)).trans ((Below.heap_setCell _ _ _ _ (by show _ ≠ w.heap.size; omega)).trans HZ.out))) Tryz.underlying27 rfl (by kernel_rfl)) rfl ?_
    have PP := ((((HP.out.cell 6 (.slice q2 f.quo.length q2c) (b := w.heap.size) k0).cell 7 (.bool f.aut) (b := w.heap.size) k0).below (Below.refl _ _).drew).row #[.string s.disp, .string s.lt, .string s.col, .slice p1 s.con.length p1c, .bool s.nor, .bool s.non, .slice q2 f.quo.length q2c, .bool f.aut, .slice p3 s.rst.length p3c, .slice p4 s.add.length p4c, .slice p5 s.set.length p5c] (b := w.heap.size + 2) k2)
    have QQ := ((((HQ.out.cell 6 (.slice q2 f.quo.length q2c) (b := w.heap.size) k0).cell 7 (.bool f.aut) (b := w.heap.size) k0).below (Below.refl _ _).drew).row #[.string s.disp, .string s.lt, .string s.col, .slice p1 s.con.length p1c, .bool s.nor, .bool s.non, .slice q2 f.quo.length q2c, .bool f.aut, .slice p3 s.rst.length p3c, .slice p4 s.add.length p4c, .slice p5 s.set.length p5c] (b := w.heap.size + 2) k2)
    exact ⟨_, rfl, ⟨p1, p1c, q2, q2c, p3, p3c, p4, p4c, p5, p5c, rfl, ⟨PP.c, QQ.q, PP.r, PP.a, PP.s⟩⟩, below_setRow ((HB.out.setCell (Nat.le_refl _) _).setCell (Nat.le_refl _) _).drew (by omega) _⟩
  · go_wp2_with (first | (refine wpList_load_row rfl 27 _ rfl w.heap.size rfl 27 #[.string s.disp, .string s.lt, .string s.col, .slice p1 s.con.length p1c, .bool s.nor, .bool s.non, .slice p2 s.quo.length p2c, .bool s.aut, .slice p3 s.rst.length p3c, .slice p4 s.add.length p4c, .slice p5 s.set.length p5c] (0, 0) _ HX.out Tryz.underlying27 rfl (by kernel_rfl) ?_) | (refine wpList_store_row rfl 27 _ _ rfl (w.heap.size + 2) _ rfl rfl 27 _ HZ.out (by kernel_rfl) rfl (by simp [Value.oneCell']) ?_))
    (try simp only [Exit.inBlock, Exit.then])
    refine bodyPost_ret (results_cell_row (g := w.heap.size + 2) (t := 27) (cs := #[.string s.disp, .string s.lt, .string s.col, .slice p1 s.con.length p1c, .bool s.nor, .bool s.non, .slice p2 s.quo.length p2c, .bool s.aut, .slice p3 s.rst.length p3c, .slice p4 s.add.length p4c, .slice p5 s.set.length p5c]) (fr := (0, 0)) rfl _ _ _ rfl (setRow_heap _ _ _ _ _ _ HZ.out) Tryz.underlying27 rfl (by kernel_rfl)) rfl ?_
    have PP := (HP.out.row #[.string s.disp, .string s.lt, .string s.col, .slice p1 s.con.length p1c, .bool s.nor, .bool s.non, .slice p2 s.quo.length p2c, .bool s.aut, .slice p3 s.rst.length p3c, .slice p4 s.add.length p4c, .slice p5 s.set.length p5c] (b := w.heap.size + 2) k2)
    have QQ := (HQ.out.row #[.string s.disp, .string s.lt, .string s.col, .slice p1 s.con.length p1c, .bool s.nor, .bool s.non, .slice p2 s.quo.length p2c, .bool s.aut, .slice p3 s.rst.length p3c, .slice p4 s.add.length p4c, .slice p5 s.set.length p5c] (b := w.heap.size + 2) k2)
    exact ⟨_, rfl, ⟨p1, p1c, p2, p2c, p3, p3c, p4, p4c, p5, p5c, rfl, ⟨PP.c, PP.q, PP.r, PP.a, PP.s⟩⟩, below_setRow HB.out (by omega) _⟩
end Go.Proofs.YtkpoeilfnopgbaaGreatDoor.Sty
