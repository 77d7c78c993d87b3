/- fleuronlaw14.ComputedOf: the law's walk. -/
import Derived.Test.YtkpoeilfnopgbaaGreatDoorSYr
import Derived.Test.YtkpoeilfnopgbaaGreatDoorSYu
import Derived.Deep.RegionHeld3
import Derived.Deep.AppendLies
namespace Go.Proofs.YtkpoeilfnopgbaaGreatDoor.Sty
open Go Go.RowKit
def wn (x : Wn) (vc vq vr va vs : Value) : List Value := [.string x.name, .int .i64 x.wide, .string x.st.disp, .string x.st.lt, .string x.st.col, vc, .bool x.st.nor, .bool x.st.non, vq, .bool x.st.aut, vr, va, vs]
def CellsOf (W : World) : List Wn → List Value → Prop
  | [], cs => cs = []
  | x :: r, cs => ∃ p1 p1c p2 p2c p3 p3c p4 p4c p5 p5c cs', cs = wn x (.slice p1 x.st.con.length p1c) (.slice p2 x.st.quo.length p2c) (.slice p3 x.st.rst.length p3c) (.slice p4 x.st.add.length p4c) (.slice p5 x.st.set.length p5c) ++ cs' ∧
      PartsX (· < W.heap.size) x.st (.slice p1 x.st.con.length p1c) (.slice p2 x.st.quo.length p2c) (.slice p3 x.st.rst.length p3c) (.slice p4 x.st.add.length p4c) (.slice p5 x.st.set.length p5c) W ∧ CellsOf W r cs'
theorem CellsOf.len {W : World} : ∀ {l : List Wn} {cs : List Value}, CellsOf W l cs → cs.length = l.length * 13
  | [], _, h => by rw [h]; rfl
  | x :: r, cs, h => by
    obtain ⟨p1, p1c, p2, p2c, p3, p3c, p4, p4c, p5, p5c, cs', rfl, _, h⟩ := h
    rw [List.length_append, h.len, List.length_cons]
    simp only [wn, List.length_cons, List.length_nil]
    omega
theorem CellsOf.snoc {W : World} {x : Wn} {p1 p2 p3 p4 p5 : Option Addr} {p1c p2c p3c p4c p5c : Nat}
    (hp : PartsX (· < W.heap.size) x.st (.slice p1 x.st.con.length p1c) (.slice p2 x.st.quo.length p2c) (.slice p3 x.st.rst.length p3c) (.slice p4 x.st.add.length p4c) (.slice p5 x.st.set.length p5c) W) :
    ∀ {l : List Wn} {cs : List Value}, CellsOf W l cs → CellsOf W (l ++ [x]) (cs ++ wn x (.slice p1 x.st.con.length p1c) (.slice p2 x.st.quo.length p2c) (.slice p3 x.st.rst.length p3c) (.slice p4 x.st.add.length p4c) (.slice p5 x.st.set.length p5c))
  | [], _, h => by
    subst h
    exact ⟨p1, p1c, p2, p2c, p3, p3c, p4, p4c, p5, p5c, [], by simp, hp, rfl⟩
  | y :: r, cs, h => by
    obtain ⟨q1, q1c, q2, q2c, q3, q3c, q4, q4c, q5, q5c, cs', rfl, hq, h⟩ := h
    exact ⟨q1, q1c, q2, q2c, q3, q3c, q4, q4c, q5, q5c, _, by rw [List.append_assoc], hq, CellsOf.snoc hp h⟩
theorem CellsOf.at {W : World} : ∀ {l : List Wn} {cs : List Value}, CellsOf W l cs → ∀ (j : Nat) x, l[j]? = some x → ∃ p1 p1c p2 p2c p3 p3c p4 p4c p5 p5c, (∀ (i : Nat) u, (wn x (.slice p1 x.st.con.length p1c) (.slice p2 x.st.quo.length p2c) (.slice p3 x.st.rst.length p3c) (.slice p4 x.st.add.length p4c) (.slice p5 x.st.set.length p5c))[i]? = some u → cs[j * 13 + i]? = some u) ∧
      PartsX (· < W.heap.size) x.st (.slice p1 x.st.con.length p1c) (.slice p2 x.st.quo.length p2c) (.slice p3 x.st.rst.length p3c) (.slice p4 x.st.add.length p4c) (.slice p5 x.st.set.length p5c) W
  | [], _, _, j, x, h => by simp at h
  | y :: r, cs, h, 0, x, hx => by
    obtain ⟨q1, q1c, q2, q2c, q3, q3c, q4, q4c, q5, q5c, cs', rfl, hq, _⟩ := h
    simp only [List.getElem?_cons_zero, Option.some.injEq] at hx
    subst hx
    refine ⟨q1, q1c, q2, q2c, q3, q3c, q4, q4c, q5, q5c, fun i u hi => ?_, hq⟩
    rw [Nat.zero_mul, Nat.zero_add, List.getElem?_append_left (List.getElem?_eq_some_iff.1 hi).1]
    exact hi
  | y :: r, cs, h, j + 1, x, hx => by
    obtain ⟨q1, q1c, q2, q2c, q3, q3c, q4, q4c, q5, q5c, cs', rfl, _, h⟩ := h
    rw [List.getElem?_cons_succ] at hx
    obtain ⟨p1, p1c, p2, p2c, p3, p3c, p4, p4c, p5, p5c, hi, hp⟩ := h.at j x hx
    refine ⟨p1, p1c, p2, p2c, p3, p3c, p4, p4c, p5, p5c, fun i u hu => ?_, hp⟩
    have := hi i u hu
    rw [List.getElem?_append_right (by simp only [wn, List.length_cons, List.length_nil]; omega)]
    rw [show (j + 1) * 13 + i - (wn y (.slice q1 y.st.con.length q1c) (.slice q2 y.st.quo.length q2c) (.slice q3 y.st.rst.length q3c) (.slice q4 y.st.add.length q4c) (.slice q5 y.st.set.length q5c)).length = j * 13 + i by simp only [wn, List.length_cons, List.length_nil]; omega]
    exact this
theorem WonAt.of_own {W w : World} {B : Nat} {v : Value} {l : List Wn} {cs : List Value} (h : w.ownsRow B 33 13 v l.length cs) (hc : CellsOf W l cs) (hb : Below W.heap.size W w) : WonAt l v w := by
  rcases h.2 with ⟨h1, h2⟩ | ⟨g, cap, cur, rfl, h2, h3, h4, h5, h6, h7⟩
  · exact ⟨none, 0, by rw [h1, h2], fun h => by omega⟩
  · refine ⟨_, _, rfl, fun _ => ⟨g, 0, rfl, (Array.getElem?_eq_some_iff.1 h3).1, fun j x hj => ?_⟩⟩
    obtain ⟨p1, p1c, p2, p2c, p3, p3c, p4, p4c, p5, p5c, hi, hp⟩ := hc.at j x hj
    have key : ∀ (i : Nat) u, (wn x (.slice p1 x.st.con.length p1c) (.slice p2 x.st.quo.length p2c) (.slice p3 x.st.rst.length p3c) (.slice p4 x.st.add.length p4c) (.slice p5 x.st.set.length p5c))[i]? = some u → w.cell? ⟨g, 0 + j * 13 + i, none⟩ = some u := fun i u hu => by
      have h8 := hi i u hu
      rw [← h7, List.getElem?_take] at h8
      simp only [World.cell?, h3, Nat.zero_add]
      split at h8
      · simpa using h8
      · cases h8
    refine ⟨p1, p1c, p2, p2c, p3, p3c, p4, p4c, p5, p5c, ⟨key 0 _ rfl, key 1 _ rfl, key 2 _ rfl, key 3 _ rfl, key 4 _ rfl, key 5 _ rfl, key 6 _ rfl, key 7 _ rfl, key 8 _ rfl, key 9 _ rfl, key 10 _ rfl, key 11 _ rfl, key 12 _ rfl⟩, ?_⟩
    exact (hp.below hb).mono fun g _ h => Nat.lt_of_lt_of_le h hb.size
theorem infoWn : (Tryz.prog.info? 33).map (fun i => (i.zero, i.size, i.bytes)) = some (some (.agg #[.string .empty, .int .i64 0, .string .empty, .string .empty, .string .empty, .slice none 0 0, .bool false, .bool false, .slice none 0 0, .bool false, .slice none 0 0, .slice none 0 0, .slice none 0 0]), 13, 208) := by kernel_rfl
abbrev GoodO (v : Value) (p : Int) (u x : Value) (W : World) : Prop := Calls Tryz.prog 3 #[v, .int .i64 p, u, x] W fun e W' => e = .returned (.bool true) ∧ Below W.heap.size W W'
theorem own_below {w w' : World} {B : Nat} {e : TypeId} {size : Nat} {v : Value} {n : Nat} {xs : List Value} (h : w.ownsRow B e size v n xs) (hb : Below w.heap.size w w') : w'.ownsRow B e size v n xs :=
  h.kept (row := none) ⟨hb.os, hb.tape, hb.output, hb.size, fun k hk _ => hb.block k hk⟩ (by cases v.ownBlock <;> simp)
def AB (_W wr : World) (RA RB : S) (x11 x12 : Value) (wx : World) : Prop :=
  ∃ ba bb : Nat, x11 = .pointer (some ⟨ba, 0, none⟩) ∧ x12 = .pointer (some ⟨bb, 0, none⟩) ∧ Var (fun _ => True) RA ba wx ∧ Var (fun _ => True) RB bb wx ∧ Below wr.heap.size wr wx
theorem cellS {w w' : World} {b : Nat} {cs : Array Value} {t : TypeId} {fr : Nat × Nat} (h : w.heap[b]? = some (.cells cs t fr)) (hb : Below w.heap.size w w') : ∀ i, w'.cell? ⟨b, i, none⟩ = cs[i]? :=
  Lib.cell_of_heap ((hb.block b (Array.getElem?_eq_some_iff.1 h).1).trans h)
theorem belC {w w1 w2 : World} (hb : Below w1.heap.size w1 w2) (h : Hid (Below w.heap.size w w1)) : Below w.heap.size w w2 := h.out.trans (hb.mono h.out.size)
theorem new1D {x w4 : World} {Z : Obj} (hb : Below (x.alloc Z).drew.heap.size (x.alloc Z).drew w4) : w4.heap[x.heap.size]? = some Z := (hb.block x.heap.size (by rw [World.size_drew, World.size_alloc]; exact Nat.lt_succ_self _)).trans (new_heap x Z)
theorem new2D {x w4 : World} {Z Y : Obj} (hb : Below ((x.alloc Z).alloc Y).drew.heap.size ((x.alloc Z).alloc Y).drew w4) : w4.heap[x.heap.size]? = some Z ∧ w4.heap[x.heap.size + 1]? = some Y := by
  obtain ⟨t1, t2, t3, _⟩ := two_new x Z Y
  exact ⟨(hb.block x.heap.size (by rw [World.size_drew, t3]; omega)).trans t1, (hb.block (x.heap.size + 1) (by rw [World.size_drew, t3]; omega)).trans t2⟩
theorem new1 {x w4 : World} {Z : Obj} (hb : Below (x.alloc Z).heap.size (x.alloc Z) w4) : w4.heap[x.heap.size]? = some Z := (hb.block x.heap.size (by rw [World.size_alloc]; exact Nat.lt_succ_self _)).trans (new_heap x Z)
theorem new2 {x w4 : World} {Z Y : Obj} (hb : Below ((x.alloc Z).alloc Y).heap.size ((x.alloc Z).alloc Y) w4) : w4.heap[x.heap.size]? = some Z ∧ w4.heap[x.heap.size + 1]? = some Y := by
  obtain ⟨t1, t2, t3, _⟩ := two_new x Z Y
  exact ⟨(hb.block x.heap.size (by rw [t3]; omega)).trans t1, (hb.block (x.heap.size + 1) (by rw [t3]; omega)).trans t2⟩
theorem lt_heap {x : World} {b : Nat} {O : Obj} (h : x.heap[b]? = some O) : b < x.heap.size := (Array.getElem?_eq_some_iff.1 h).1
theorem car0 {x w5 : World} {b : Nat} {O : Obj} (hb : Below x.heap.size x w5) (h : x.heap[b]? = some O) : w5.heap[b]? = some O := (hb.block b (Array.getElem?_eq_some_iff.1 h).1).trans h
theorem car1 {x w5 : World} {b : Nat} {O Z : Obj} (hb : Below (x.alloc Z).heap.size (x.alloc Z) w5) (h : x.heap[b]? = some O) : w5.heap[b]? = some O :=
  car0 hb ((Below.heap_alloc x Z b (Array.getElem?_eq_some_iff.1 h).1).trans h)
theorem mkS {w w' : World} {b : Nat} {cs : Array Value} {t : TypeId} {fr : Nat × Nat} (h : w.heap[b]? = some (.cells cs t fr)) (hb : Below w.heap.size w w') : (∀ i, w'.cell? ⟨b, i, none⟩ = cs[i]?) ∧ Hid (Below w.heap.size w w') := ⟨cellS h hb, Lib.hid hb⟩
theorem al1 {x w5 : World} {Z : Obj} (hb : Below (x.alloc Z).heap.size (x.alloc Z) w5) : Below x.heap.size x w5 := ((Below.refl _ x).alloc (Nat.le_refl _) Z).trans (hb.mono (by rw [World.size_alloc]; omega))
theorem al2 {x w5 : World} {Z Y : Obj} (hb : Below ((x.alloc Z).alloc Y).heap.size ((x.alloc Z).alloc Y) w5) : Below x.heap.size x w5 := al1 ((al1 hb))
structure Fin2 (w1 : World) (b : Nat) (xs : Array Value) (c : Nat) (ys : Array Value) (w2 : World) : Prop where
  x : w2.heap[b]? = some (.cells xs 27 (0, 0))
  y : w2.heap[c]? = some (.cells ys 27 (0, 0))
  size : w1.heap.size ≤ w2.heap.size
  same : ∀ g, g < w1.heap.size → g ≠ b → g ≠ c → w2.heap[g]? = w1.heap[g]?
  below : ∀ B w0, B ≤ w1.heap.size → B ≤ b → B ≤ c → Below B w0 w1 → Below B w0 w2
theorem Fin2.flip {w1 w2 : World} {b c : Nat} {xs ys : Array Value} (h : Fin2 w1 b xs c ys w2) : Fin2 w1 c ys b xs w2 := ⟨h.y, h.x, h.size, fun g h1 h2 h3 => h.same g h1 h3 h2, fun B w0 h1 h2 h3 => h.below B w0 h1 h3 h2⟩
theorem fin1 {w1 : World} {xs ys : Array Value} : Fin2 w1 w1.heap.size xs (w1.heap.size + 1) ys ((w1.alloc (.cells xs 27)).alloc (.cells ys 27)) := by
  obtain ⟨t1, t2, t3, t4⟩ := two_new w1 (.cells xs 27) (.cells ys 27)
  exact ⟨t1, t2, by omega, fun g hg _ _ => t4.block g hg, fun B w0 h1 _ _ h => h.trans (t4.mono h1)⟩
theorem fin_row {w1 : World} {b : Nat} {cs xs ys : Array Value} (h : w1.heap[b]? = some (.cells cs 27 (0, 0))) : Fin2 w1 b xs w1.heap.size ys ((w1.setRow b xs).alloc (.cells ys 27)) := by
  have hb := lt_heap h
  have hz : (w1.setRow b xs).heap.size = w1.heap.size := setRow_size _ _ _
  have hn := new_heap (w1.setRow b xs) (.cells ys 27)
  rw [hz] at hn
  have ho : ∀ g, g < w1.heap.size → ((w1.setRow b xs).alloc (.cells ys 27)).heap[g]? = (w1.setRow b xs).heap[g]? := fun g hg => Below.heap_alloc _ _ g (by rw [hz]; exact hg)
  exact ⟨(ho b hb).trans (setRow_heap _ _ _ _ _ _ h), hn, by rw [World.size_alloc, hz]; omega, fun g hg h1 _ => (ho g hg).trans (setRow_other _ _ _ _ h1), fun B w0 h1 h2 _ hB => (below_setRow hB h2 xs).alloc (by rw [hz]; exact h1) _⟩
theorem fin_rows {w1 : World} {b c : Nat} {cs ds xs ys : Array Value} (h : w1.heap[b]? = some (.cells cs 27 (0, 0))) (k : w1.heap[c]? = some (.cells ds 27 (0, 0))) (hn : c ≠ b) : Fin2 w1 b xs c ys ((w1.setRow b xs).setRow c ys) :=
  ⟨(setRow_other _ _ _ _ hn.symm).trans (setRow_heap _ _ _ _ _ _ h), setRow_heap _ _ _ _ _ _ ((setRow_other _ _ _ _ hn).trans k), by rw [setRow_size, setRow_size]; exact Nat.le_refl _,
    fun g _ h1 h2 => (setRow_other _ _ _ _ h2).trans (setRow_other _ _ _ _ h1), fun B w0 _ h2 h3 hB => below_setRow (below_setRow hB h2 xs) h3 ys⟩
theorem fin2 {w1 : World} {b : Nat} {cs ys : Array Value} {u0 u1 u2 u3 u4 u5 u6 u7 u8 u9 u10 : Value} (h : w1.heap[b]? = some (.cells cs 27 (0, 0))) (hz : cs.size = 11) : Fin2 w1 b #[u0, u1, u2, u3, u4, u5, u6, u7, u8, u9, u10] w1.heap.size ys
    ((((((((((((w1.setCell ⟨b, 0, none⟩ u0).setCell ⟨b, 1, none⟩ u1).setCell ⟨b, 2, none⟩ u2).setCell ⟨b, 3, none⟩ u3).setCell ⟨b, 4, none⟩ u4).setCell ⟨b, 5, none⟩ u5).setCell ⟨b, 6, none⟩ u6).setCell ⟨b, 7, none⟩ u7).setCell ⟨b, 8, none⟩ u8).setCell ⟨b, 9, none⟩ u9).setCell ⟨b, 10, none⟩ u10).alloc (.cells ys 27)) := by
  rw [set_row w1 b cs _ _ _ _ _ _ _ _ _ _ _ _ _ h hz]
  exact fin_row h
theorem fin3 {w1 : World} {b c : Nat} {cs ds : Array Value} {u0 u1 u2 u3 u4 u5 u6 u7 u8 u9 u10 v0 v1 v2 v3 v4 v5 v6 v7 v8 v9 v10 : Value} (h : w1.heap[b]? = some (.cells cs 27 (0, 0))) (hz : cs.size = 11) (k : w1.heap[c]? = some (.cells ds 27 (0, 0))) (hz' : ds.size = 11) (hn : c ≠ b) :
    Fin2 w1 b #[u0, u1, u2, u3, u4, u5, u6, u7, u8, u9, u10] c #[v0, v1, v2, v3, v4, v5, v6, v7, v8, v9, v10]
    ((((((((((((((((((((((w1.setCell ⟨b, 0, none⟩ u0).setCell ⟨b, 1, none⟩ u1).setCell ⟨b, 2, none⟩ u2).setCell ⟨b, 3, none⟩ u3).setCell ⟨b, 4, none⟩ u4).setCell ⟨b, 5, none⟩ u5).setCell ⟨b, 6, none⟩ u6).setCell ⟨b, 7, none⟩ u7).setCell ⟨b, 8, none⟩ u8).setCell ⟨b, 9, none⟩ u9).setCell ⟨b, 10, none⟩ u10).setCell ⟨c, 0, none⟩ v0).setCell ⟨c, 1, none⟩ v1).setCell ⟨c, 2, none⟩ v2).setCell ⟨c, 3, none⟩ v3).setCell ⟨c, 4, none⟩ v4).setCell ⟨c, 5, none⟩ v5).setCell ⟨c, 6, none⟩ v6).setCell ⟨c, 7, none⟩ v7).setCell ⟨c, 8, none⟩ v8).setCell ⟨c, 9, none⟩ v9).setCell ⟨c, 10, none⟩ v10) := by
  rw [set_row w1 b cs _ _ _ _ _ _ _ _ _ _ _ _ _ h hz, set_row _ c ds _ _ _ _ _ _ _ _ _ _ _ _ _ ((setRow_other _ _ _ _ hn).trans k) hz']
  exact fin_rows h k hn
theorem RowX.fin {n : Nat} {cs : List Value} {v : Value} {w1 w2 : World} {b c : Nat} {xs ys : Array Value} (f : Fin2 w1 b xs c ys w2) (h : RowX (fun g => g ≠ b ∧ g ≠ c) n cs v w1) : RowX (fun _ => True) n cs v w2 := by
  obtain ⟨p, k, hv, hc⟩ := h
  refine ⟨p, k, hv, fun hn => ?_⟩
  obtain ⟨g, o, h1, h2, h3, h4⟩ := hc hn
  exact ⟨g, o, h1, trivial, Nat.lt_of_lt_of_le h3 f.size, fun j u hj => by rw [World.cell?_of_block (f.same g h3 h2.1 h2.2)]; exact h4 j u hj⟩
theorem PartsX.fin {s : S} {vc vq vr va vs : Value} {w1 w2 : World} {b c : Nat} {xs ys : Array Value} (f : Fin2 w1 b xs c ys w2) (h : PartsX (fun g => g ≠ b ∧ g ≠ c) s vc vq vr va vs w1) : PartsX (fun _ => True) s vc vq vr va vs w2 :=
  ⟨h.c.fin f, h.q.fin f, h.r.fin f, h.a.fin f, h.s.fin f⟩
theorem AB.mk' {W wr w5 wx : World} {RA RB : S} {ba bb : Nat} {a1 a2 a3 a4 a5 c1 c2 c3 c4 c5 : Option Addr} {a1c a2c a3c a4c a5c c1c c2c c3c c4c c5c : Nat}
    (f : Fin2 w5 ba #[.string RA.disp, .string RA.lt, .string RA.col, .slice a1 RA.con.length a1c, .bool RA.nor, .bool RA.non, .slice a2 RA.quo.length a2c, .bool RA.aut, .slice a3 RA.rst.length a3c, .slice a4 RA.add.length a4c, .slice a5 RA.set.length a5c] bb #[.string RB.disp, .string RB.lt, .string RB.col, .slice c1 RB.con.length c1c, .bool RB.nor, .bool RB.non, .slice c2 RB.quo.length c2c, .bool RB.aut, .slice c3 RB.rst.length c3c, .slice c4 RB.add.length c4c, .slice c5 RB.set.length c5c] wx)
    (hA : PartsX (fun g => g ≠ ba ∧ g ≠ bb) RA (.slice a1 RA.con.length a1c) (.slice a2 RA.quo.length a2c) (.slice a3 RA.rst.length a3c) (.slice a4 RA.add.length a4c) (.slice a5 RA.set.length a5c) w5)
    (hB : PartsX (fun g => g ≠ ba ∧ g ≠ bb) RB (.slice c1 RB.con.length c1c) (.slice c2 RB.quo.length c2c) (.slice c3 RB.rst.length c3c) (.slice c4 RB.add.length c4c) (.slice c5 RB.set.length c5c) w5)
    (hw : Hid (Below wr.heap.size wr w5)) (h1 : wr.heap.size ≤ ba) (h2 : wr.heap.size ≤ bb) : AB W wr RA RB (.pointer (some ⟨ba, 0, none⟩)) (.pointer (some ⟨bb, 0, none⟩)) wx :=
  ⟨ba, bb, rfl, rfl, ⟨_, _, _, _, _, _, _, _, _, _, f.x, hA.fin f⟩, ⟨_, _, _, _, _, _, _, _, _, _, f.y, hB.fin f⟩, f.below _ _ hw.out.size h1 h2 hw.out⟩
theorem mkS4 {w w' : World} {b1 b2 b3 b4 : Nat} {c1 c2 c3 c4 : Array Value} {t1 t2 t3 t4 : TypeId} {f1 f2 f3 f4 : Nat × Nat} (h1 : w.heap[b1]? = some (.cells c1 t1 f1)) (h2 : w.heap[b2]? = some (.cells c2 t2 f2)) (h3 : w.heap[b3]? = some (.cells c3 t3 f3)) (h4 : w.heap[b4]? = some (.cells c4 t4 f4)) (hb : Below w.heap.size w w') :
    (∀ i, w'.cell? ⟨b1, i, none⟩ = c1[i]?) ∧ (∀ i, w'.cell? ⟨b2, i, none⟩ = c2[i]?) ∧ (∀ i, w'.cell? ⟨b3, i, none⟩ = c3[i]?) ∧ (∀ i, w'.cell? ⟨b4, i, none⟩ = c4[i]?) ∧ Hid (Below w.heap.size w w') := ⟨cellS h1 hb, cellS h2 hb, cellS h3 hb, cellS h4 hb, Lib.hid hb⟩
def LawO (W W1 : World) (l : List Wn) (x9 x10 : Value) (wr : World) : Prop :=
  ∃ (k : Nat) (v : Value) (cs : List Value), k ≤ l.length ∧ x10 = .int .i64 (k : Int) ∧ v = x9 ∧ wr.ownsRow (W.heap.size + 2) 33 13 v k cs ∧ CellsOf W (l.take k) cs ∧ (∀ x ∈ l.take k, x.st.small) ∧ Below (W.heap.size + 2) W1 wr ∧ W.heap.size + 2 ≤ wr.heap.size
set_option maxHeartbeats 16000000 in
set_option maxRecDepth 100000 in
theorem of_law (l : List Wn) (lv : Value) (p : Int) (pa ob : S) (vc vq vr va vs uc uq ur ua us : Value) (W : World) (hT : Tab W) (aw : Awk W) (hl : l.length ≤ maxLen) (hlx : ∀ x ∈ l, NmIs x.k x.name ∧ Mx x.st ∧ x.name.size ≤ maxLen) (hw : WonAt l lv W) (mp : Mx pa) (mo : Mx ob) (hpa : Parts pa vc vq vr va vs W) (hob : Parts ob uc uq ur ua us W) :
    GoodO lv p (.agg #[.string pa.disp, .string pa.lt, .string pa.col, vc, .bool pa.nor, .bool pa.non, vq, .bool pa.aut, vr, va, vs]) (.agg #[.string ob.disp, .string ob.lt, .string ob.col, uc, .bool ob.nor, .bool ob.non, uq, .bool ob.aut, ur, ua, us]) W := by
  have hx1 := PartsX.of_at hpa
  obtain ⟨q1, q1c, q2, q2c, q3, q3c, q4, q4c, q5, q5c, rfl, rfl, rfl, rfl, rfl⟩ := hx1.open
  have hx2 := PartsX.of_at hob
  obtain ⟨s1, s1c, s2, s2c, s3, s3c, s4, s4c, s5, s5c, rfl, rfl, rfl, rfl, rfl⟩ := hx2.open
  clear hx1 hx2
  have HT := Lib.hid hT
  clear hT
  have HW := Lib.hid hw
  obtain ⟨pw, cw, rfl, _⟩ := hw
  obtain ⟨t1, t2, t3, t4⟩ := two_new W (.cells #[.string pa.disp, .string pa.lt, .string pa.col, .slice q1 pa.con.length q1c, .bool pa.nor, .bool pa.non, .slice q2 pa.quo.length q2c, .bool pa.aut, .slice q3 pa.rst.length q3c, .slice q4 pa.add.length q4c, .slice q5 pa.set.length q5c] 27) (.cells #[.string ob.disp, .string ob.lt, .string ob.col, .slice s1 ob.con.length s1c, .bool ob.nor, .bool ob.non, .slice s2 ob.quo.length s2c, .bool ob.aut, .slice s3 ob.rst.length s3c, .slice s4 ob.add.length s4c, .slice s5 ob.set.length s5c] 27)
  have HPA := Lib.hid (hpa.below t4)
  have HOB := Lib.hid (hob.below t4)
  have HP := Lib.hid t1
  have HO := Lib.hid t2
  have HZ := Lib.hid t3
  have HB := Lib.hid t4
  have HLX := Lib.hid hlx
  clear t1 t2 t3 t4 hpa hob hlx
  unfold maxLen at hl
  go_enter Tryz.func3, Tryz.ntmps3
  go_upto_region 1 with fail
  generalize ((W.alloc (.cells #[.string pa.disp, .string pa.lt, .string pa.col, .slice q1 pa.con.length q1c, .bool pa.nor, .bool pa.non, .slice q2 pa.quo.length q2c, .bool pa.aut, .slice q3 pa.rst.length q3c, .slice q4 pa.add.length q4c, .slice q5 pa.set.length q5c] 27)).alloc (.cells #[.string ob.disp, .string ob.lt, .string ob.col, .slice s1 ob.con.length s1c, .bool ob.nor, .bool ob.non, .slice s2 ob.quo.length s2c, .bool ob.aut, .slice s3 ob.rst.length s3c, .slice s4 ob.add.length s4c, .slice s5 ob.set.length s5c] 27)) = W1 at HPA HOB HP HO HZ HB ⊢
  have cP := Lib.cell_of_heap HP.out
  have cO := Lib.cell_of_heap HO.out
  have hz1 := HZ.out
  have hz : W.heap.size + 2 ≤ W1.heap.size := by omega
  clear hz1
  by_cases h20 : 20 < l.length
  · have haw := aw W1 HB.out
    go_wp2_with (go_at_call 6; refine haw.mono ?_; rintro e w' ⟨rfl, hb⟩)
    go_ret
    exact ⟨rfl, HB.out.trans (hb.mono HB.out.size)⟩
  have hs1 := style_c pa _ _ _ _ _ W1 mp.1 mp.2.1 mp.2.2.1 mp.2.2.2.1 mp.2.2.2.2 HPA.out
  go_wp2_with (go_at_call 5; refine hs1.mono ?_)
  rintro e w2 ⟨b1, rfl, hb1, hb2⟩
  have HB2 := Lib.hid (HB.out.trans (hb2.mono HB.out.size))
  have HBx := Lib.hid (hb2.mono (by omega : W.heap.size + 2 ≤ W1.heap.size))
  have HO2 := Lib.hid ((hb2.block (W.heap.size + 1) (by omega)).trans HO.out)
  have HOB2 := Lib.hid (HOB.out.below hb2)
  have hz2 := hb2.size
  have cO2 := Lib.cell_of_heap HO2.out
  have haw2 := aw w2 HB2.out
  clear hs1 hb2 cP cO
  cases b1 with
  | false =>
    go_wp2_with (go_at_call 6; refine haw2.mono ?_; rintro e w' ⟨rfl, hb⟩)
    go_ret
    exact ⟨rfl, HB2.out.trans (hb.mono HB2.out.size)⟩
  | true =>
  have HPS := Lib.hid (hb1 rfl)
  clear hb1 haw2
  have hs2 := style_c ob _ _ _ _ _ w2 mo.1 mo.2.1 mo.2.2.1 mo.2.2.2.1 mo.2.2.2.2 HOB2.out
  go_wp2_with (go_at_call 5; refine hs2.mono ?_)
  rintro e w3 ⟨b2, rfl, hb2, hb3⟩
  have HB3 := Lib.hid (HB2.out.trans (hb3.mono HB2.out.size))
  have HBx3 := Lib.hid (HBx.out.trans (hb3.mono (by omega)))
  have hz3 := hb3.size
  have haw3 := aw w3 HB3.out
  clear hs2 hb3 cO2
  cases b2 with
  | false =>
    go_wp2_with (go_at_call 6; refine haw3.mono ?_; rintro e w' ⟨rfl, hb⟩)
    go_ret
    exact ⟨rfl, HB3.out.trans (hb.mono HB3.out.size)⟩
  | true =>
  clear hb2 haw3
  go_wp2_with fail
  go_loopw [9, 10] (fun x9 x10 wr => LawO W W1 l x9 x10 wr) (fun _ x10 _ => l.length - (intOf x10).toNat)
  case atStart => exact ⟨0, .slice none 0 0, [], Nat.zero_le _, rfl, rfl, World.ownsRow_nil _ _ _ _, rfl, by simp, HBx3.out, by omega⟩
  case round =>
    obtain ⟨k, v, cs, hk, rfl, rfl, hown, hcs, hsm, hbx, hzr⟩ := hrel
    have hlow : Below W.heap.size W wr := HB.out.trans (hbx.mono (by omega))
    by_cases hlt : k < l.length
    · obtain ⟨x, hx⟩ : ∃ x, l[k]? = some x := ⟨_, List.getElem?_eq_getElem hlt⟩
      obtain ⟨_, hmx, hnz⟩ := HLX.out x (List.mem_of_getElem? hx)
      obtain ⟨pw', cw', hv, hc⟩ := HW.out
      simp only [Value.slice.injEq] at hv
      obtain ⟨rfl, _, rfl⟩ := hv
      obtain ⟨g, o, rfl, hg, hcells⟩ := hc (by omega)
      obtain ⟨e1, e1c, e2, e2c, e3, e3c, e4, e4c, e5, e5c, ⟨k0, k1, k2, k3, k4, k5, k6, k7, k8, k9, k10, k11, k12⟩, hpx⟩ := hcells k x hx
      have ew : ∀ i, wr.cell? ⟨g, i, none⟩ = W.cell? ⟨g, i, none⟩ := fun i => hlow.cell (p := ⟨g, i, none⟩) hg
      rw [← ew] at k0 k1 k2 k3 k4 k5 k6 k7 k8 k9 k10 k11 k12
      have hsn := CellsOf.snoc hpx hcs
      have htk : l.take (k + 1) = l.take k ++ [x] := by
        obtain ⟨h1, h2⟩ := List.getElem?_eq_some_iff.1 hx
        rw [List.take_succ_eq_append_getElem h1, h2]
      rw [← htk] at hsn
      have hst := style_c x.st _ _ _ _ _ wr hmx.1 hmx.2.1 hmx.2.2.1 hmx.2.2.2.1 hmx.2.2.2.2 (hpx.at.below hlow)
      have hsml : x.st.small → ∀ y ∈ l.take (k + 1), y.st.small := fun h y hy => by
        rw [htk] at hy
        rcases List.mem_append.1 hy with hy | hy
        · exact hsm y hy
        · rw [List.mem_singleton.1 hy]; exact h
      obtain ⟨nx, kx, wd, sx⟩ := x
      dsimp only at k0 k1 k2 k3 k4 k5 k6 k7 k8 k9 k10 k11 k12 hst hsn hsml hnz
      have HSN := Lib.hid hsn
      have HSM := Lib.hid hsml
      have HLO := Lib.hid hlow
      have HOW := Lib.hid hown
      have HBX := Lib.hid hbx
      have hgz : g < wr.heap.size := Nat.lt_of_lt_of_le hg hlow.size
      unfold maxLen at hnz
      clear hsn hsml hlow hown hbx ew hc hcells hx hpx hmx htk hcs hsm
      go_wp2_with (go_at_call 5; refine hst.mono ?_)
      rintro e w4 ⟨b4, rfl, hb4, hbw⟩
      have ew : ∀ i, w4.cell? ⟨g, i, none⟩ = wr.cell? ⟨g, i, none⟩ := fun i => hbw.cell (p := ⟨g, i, none⟩) hgz
      have HL4 := Lib.hid (HLO.out.trans (hbw.mono HLO.out.size))
      have HX4 := Lib.hid (HBX.out.trans (hbw.mono hzr))
      have hz4 := hbw.size
      have haw4 := aw w4 HL4.out
      rw [← ew] at k0 k1 k2 k3 k4 k5 k6 k7 k8 k9 k10 k11 k12
      have hvb : ∀ b, v.ownBlock = some b → W.heap.size + 2 ≤ b := fun b hb => (HOW.out.lt b hb).1
      have hO4 := own_below HOW.out hbw
      have HVB := Lib.hid hvb
      have HO4 := Lib.hid hO4
      clear ew hst hvb hO4 hbw
      cases b4 with
      | false =>
        go_wp2_with (go_at_call 6; refine haw4.mono ?_; rintro e w' ⟨rfl, hb⟩)
        go_ret
        exact ⟨rfl, HL4.out.trans (hb.mono HL4.out.size)⟩
      | true =>
        have HSS := Lib.hid (HSM.out (hb4 rfl))
        clear hb4
        by_cases i1 : wd < 0
        · go_wp2_with (go_at_call 6; refine haw4.mono ?_; rintro e w' ⟨rfl, hb⟩)
          go_ret
          exact ⟨rfl, HL4.out.trans (hb.mono HL4.out.size)⟩
        by_cases i2 : 3 < wd
        · go_wp2_with (go_at_call 6; refine haw4.mono ?_; rintro e w' ⟨rfl, hb⟩)
          go_ret
          exact ⟨rfl, HL4.out.trans (hb.mono HL4.out.size)⟩
        by_cases i3 : 100 < nx.size
        · go_wp2_with (go_at_call 6; refine haw4.mono ?_; rintro e w' ⟨rfl, hb⟩)
          go_ret
          exact ⟨rfl, HL4.out.trans (hb.mono HL4.out.size)⟩
        obtain ⟨j0, hi, hz0', hz1', hz2'⟩ := info_parts infoWn
        clear haw4
        go_upto_region 9 with fail
        go_region_law
          (refine step_append_lies _ (by rfl) _ _ 30 (by rfl) (W.heap.size + 2) 33 j0 _ 13 208 Tryz.underlying30 hi hz0' hz1' hz2' rfl (by omega) v k cs (by rfl) (HO4.out.alloc _) ⟨w4.heap.size, 0, none⟩ 1 1 [.string nx, .int .i64 wd, .string sx.disp, .string sx.lt, .string sx.col, .slice e1 sx.con.length e1c, .bool sx.nor, .bool sx.non, .slice e2 sx.quo.length e2c, .bool sx.aut, .slice e3 sx.rst.length e3c, .slice e4 sx.add.length e4c, .slice e5 sx.set.length e5c] (by rfl) (by rfl) (World.news_of_block (cs := #[.string nx, .int .i64 wd, .string sx.disp, .string sx.lt, .string sx.col, .slice e1 sx.con.length e1c, .bool sx.nor, .bool sx.non, .slice e2 sx.quo.length e2c, .bool sx.aut, .slice e3 sx.rst.length e3c, .slice e4 sx.add.length e4c, .slice e5 sx.set.length e5c]) (t := 33) (fr := (0, 0)) (new_heap _ _)) (by simp [Value.oneCell']) (by omega) (by unfold maxLen; omega) (by omega) (by simp; omega) (w4.heap.size + 1) (by simp) ?_; intro gg cap w5 hown5 hgrow hat hlt5)
        all_goals
          have hal : Below w4.heap.size w4 (w4.alloc (.cells #[.string nx, .int .i64 wd, .string sx.disp, .string sx.lt, .string sx.col, .slice e1 sx.con.length e1c, .bool sx.nor, .bool sx.non, .slice e2 sx.quo.length e2c, .bool sx.aut, .slice e3 sx.rst.length e3c, .slice e4 sx.add.length e4c, .slice e5 sx.set.length e5c] 33)).drew := ((Below.refl _ w4).alloc (Nat.le_refl _) _).drew
          have hds : (w4.alloc (.cells #[.string nx, .int .i64 wd, .string sx.disp, .string sx.lt, .string sx.col, .slice e1 sx.con.length e1c, .bool sx.nor, .bool sx.non, .slice e2 sx.quo.length e2c, .bool sx.aut, .slice e3 sx.rst.length e3c, .slice e4 sx.add.length e4c, .slice e5 sx.set.length e5c] 33)).drew.heap.size = w4.heap.size + 1 := World.size_alloc _ _
          have hzs := hgrow.size
          have HB5 := Lib.hid (HX4.out.trans (⟨hgrow.os.trans hal.os, hgrow.tape.trans hal.tape, hgrow.output.trans hal.output, by omega, fun j hj => (hgrow.block j (by omega) (fun e => by have := HVB.out _ e.symm; omega)).trans (hal.block j (by omega))⟩ : Below (W.heap.size + 2) w4 w5))
          have HO5 := Lib.hid hown5
          clear hal hgrow hat hlt5 hown5
          go_wp2_with fail
          go_roundw
          case rel => first | exact ⟨k + 1, _, _, by omega, by go_num, rfl, HO5.out, HSN.out, HSS.out, HB5.out, by omega⟩ | ((repeat apply Exists.intro); exact ⟨⟨k + 1, _, _, by omega, by go_num, rfl, HO5.out, HSN.out, HSS.out, HB5.out, by omega⟩, rfl⟩)
          case measure => simp [intOf]; omega
    · obtain rfl : k = l.length := by omega
      rw [List.take_length] at hcs hsm
      have hwon := WonAt.of_own hown hcs hlow
      have hP := (hbx.block W.heap.size (by omega)).trans HP.out
      have hO := (hbx.block (W.heap.size + 1) (by omega)).trans HO.out
      have hPA := HPA.out.below (by rw [HZ.out]; exact hbx)
      have hOB := HOB.out.below (by rw [HZ.out]; exact hbx)
      have hRA := of_small (p := p) HPS.out l hsm
      have hofA := fun (w : World) (hb : Below wr.heap.size wr w) => of_new p pa _ _ _ _ _ l (.slice pw l.length cw) w (HT.out.keep (hlow.trans (hb.mono hlow.size))) HPS.out (by omega) (fun x hx => ⟨(HLX.out x hx).1, hsm x hx⟩) (HW.out.below (hlow.trans (hb.mono hlow.size))) (hPA.below hb)
      have hofB := fun (w : World) (hb : Below wr.heap.size wr w) => of_new p pa _ _ _ _ _ [] (.slice none 0 0) w (HT.out.keep (hlow.trans (hb.mono hlow.size))) HPS.out (by simp) (fun x hx => absurd hx (by simp)) ⟨none, 0, rfl, fun h => absurd h (by simp)⟩ (hPA.below hb)
      have HRB0 : Hid (ofS p pa [] = ⟨⟨#[105, 110, 108, 105, 110, 101]⟩, pa.lt, pa.col, [], true, false, pa.quo, pa.aut, [], [], []⟩) := Lib.hid rfl
      obtain ⟨RA, hRA'⟩ : ∃ R, ofS p pa l = R := ⟨_, rfl⟩
      obtain ⟨RB, hRB'⟩ : ∃ R, ofS p pa [] = R := ⟨_, rfl⟩
      rw [hRA'] at hofA hRA
      rw [hRB'] at hofB HRB0
      have HRA := Lib.hid hRA
      have HRAe := Lib.hid hRA'
      have HOA := Lib.hid hofA
      have HOB2 := Lib.hid hofB
      have HWN := Lib.hid hwon
      have HPw := Lib.hid hP
      have HOw := Lib.hid hO
      have HPAw := Lib.hid hPA
      have HOBw := Lib.hid hOB
      have HLO := Lib.hid hlow
      have hzr2 : W.heap.size + 1 < wr.heap.size := by omega
      clear hown hcs hsm hbx hlow hwon hP hO hPA hOB hRA hRA' hRB' hofA hofB
      go_upto_region 10 with fail
      go_cut [11, 12] (fun x11 x12 wx => AB W wr RA RB x11 x12 wx)
      case first =>
        go_region_held3 (fun w' => (∀ i, w'.cell? ⟨W.heap.size, i, none⟩ = (#[.string pa.disp, .string pa.lt, .string pa.col, .slice q1 pa.con.length q1c, .bool pa.nor, .bool pa.non, .slice q2 pa.quo.length q2c, .bool pa.aut, .slice q3 pa.rst.length q3c, .slice q4 pa.add.length q4c, .slice q5 pa.set.length q5c] : Array Value)[i]?) ∧ Hid (Below wr.heap.size wr w'))
          (((try go_split_ands); (refine mkS HPw.out ?_); (repeat' (first | (with_reducible exact HK5.out) | (with_reducible exact HK4.out) | (with_reducible exact Below.refl wr.heap.size wr) | (with_reducible refine Below.drew ?_) | (with_reducible refine Below.alloc ?_ ?_ _) | (with_reducible refine Below.setCell ?_ ?_ _) | (simp only [World.size_alloc, set_size]; omega) | (dsimp only; omega) | omega))))
          (first
            | (go_split_ands; go_at_call_of 7 (Value.slice pw l.length cw); refine (HOA.out _ (Hid.out (by assumption))).mono ?_; rintro e w4 ⟨v4, rfl, hv4, hb4⟩; obtain ⟨a1, a1c, a2, a2c, a3, a3c, a4, a4c, a5, a5c, rfl, hx4⟩ := hv4; have hk4 := belC hb4 (by assumption); have hz4 := hk4.size; have HK4 := Lib.hid hk4; clear hk4; (first | (have n12 := new2D hb4; obtain ⟨n1, n2⟩ := n12) | (have n1 := new1D hb4) | skip); (try (have l3 := lt_heap n1)); (try (have l4 := lt_heap n2)))
            | (go_split_ands; go_at_call_of 7 (Value.slice none 0 0); refine (HOB2.out _ (Hid.out (by assumption))).mono ?_; rintro e w5 ⟨v5, rfl, hv5, hb5⟩; obtain ⟨c1, c1c, c2, c2c, c3, c3c, c4, c4c, c5, c5c, rfl, hx5⟩ := hv5; (first | (have hb45 : Below w4.heap.size w4 w5 := hb5) | (have hb45 : Below w4.heap.size w4 w5 := al1 hb5) | (have hb45 : Below w4.heap.size w4 w5 := al2 hb5)); have hz45 := hb45.size; have hk5 := belC hb5 (by assumption); have hz5 := hk5.size; have HK5 := Lib.hid hk5; clear hk5; (first | (have m1 := car0 hb5 n1; have m2 := car0 hb5 n2) | (have m1 := car1 hb5 n1; have m2 := new1 hb5) | (have m1 := car0 hb5 n1) | (have m12 := new2 hb5; obtain ⟨m1, m2⟩ := m12) | (have m1 := new1 hb5) | skip); (try (have e1 := Lib.cell_of_heap m1; have g1 := Lib.frozen_of_heap m1; have l1 := lt_heap m1)); (try (have e2 := Lib.cell_of_heap m2; have g2 := Lib.frozen_of_heap m2; have l2 := lt_heap m2)))
            | fail)
        all_goals (go_wp2_with fail)
        all_goals (go_meet)
        all_goals (clear hb4 hb5)
        all_goals
          first
            | with_reducible refine AB.mk' fin1 ?_ ?_ HK5 ?_ ?_
            | with_reducible refine AB.mk' fin1.flip ?_ ?_ HK5 ?_ ?_
            | with_reducible refine AB.mk' (fin2 m1 rfl) ?_ ?_ HK5 ?_ ?_
            | with_reducible refine AB.mk' (fin2 m1 rfl).flip ?_ ?_ HK5 ?_ ?_
            | with_reducible refine AB.mk' (fin3 m1 rfl m2 rfl (by omega)) ?_ ?_ HK5 ?_ ?_
            | with_reducible refine AB.mk' (fin3 m2 rfl m1 rfl (by omega)).flip ?_ ?_ HK5 ?_ ?_
            | with_reducible refine AB.mk' (fin3 m2 rfl m1 rfl (by omega)) ?_ ?_ HK5 ?_ ?_
            | with_reducible refine AB.mk' (fin3 m1 rfl m2 rfl (by omega)).flip ?_ ?_ HK5 ?_ ?_
        all_goals
          first
            | with_reducible refine PartsX.below (PartsX.mono hx4 ?_) hb45
            | with_reducible refine PartsX.mono hx5 ?_
            | skip
        all_goals (clear hx4 hx5 HOA HOB2 HWN HPw HOw HPAw HOBw HLO HRA HRAe HRB0 HK4 HK5 hb45 HW HLX HT)
        all_goals first
          | (intro g h1 h2; have h3 : _ ≤ g := h2; clear h2; (try simp only [World.size_drew, World.size_alloc] at h3); exact ⟨by omega, by omega⟩)
          | omega
      case rest =>
        obtain ⟨ba, bb, rfl, rfl, hva, hvb, hbk⟩ := hcut
        rw [HRB0.out] at hvb
        obtain ⟨a1, a1c, a2, a2c, a3, a3c, a4, a4c, a5, a5c, hA, hpA⟩ := hva
        obtain ⟨c1, c1c, c2, c2c, c3, c3c, c4, c4c, c5, c5c, hB, _⟩ := hvb
        dsimp only at hB
        have hlw := HLO.out.trans (hbk.mono HLO.out.size)
        have hP := (hbk.block _ (by omega)).trans HPw.out
        have hO := (hbk.block _ (by omega)).trans HOw.out
        have hpaw := HPAw.out.below hbk
        have hobw := HOBw.out.below hbk
        have hrof := fun (w : World) (hb : Below wc.heap.size wc w) => rof_c p pa _ _ _ _ _ l v w (by omega) (fun x hx => (HLX.out x hx).1) ((HWN.out.below hbk).below hb) (hpaw.below hb)
        rw [HRAe.out] at hrof
        have hsam := fun (w : World) (hb : Below wc.heap.size wc w) => same2 pa ob _ _ _ _ _ _ _ _ _ _ w mp mo (hpaw.below hb) (hobw.below hb)
        have hcsa := fun (w : World) (hb : Below wc.heap.size wc w) => csame2 pa ob _ _ _ _ _ _ _ _ _ _ w mp mo (hpaw.below hb) (hobw.below hb)
        have hawk := fun (w : World) (hb : Below wc.heap.size wc w) => aw w (hlw.trans (hb.mono hlw.size))
        have HROF := Lib.hid hrof
        have HSAM := Lib.hid hsam
        have HCSA := Lib.hid hcsa
        have HAWK := Lib.hid hawk
        have HA := Lib.hid hA
        have HB' := Lib.hid hB
        have HP' := Lib.hid hP
        have HO' := Lib.hid hO
        have HPAX := Lib.hid hpA
        have HLW := Lib.hid hlw
        clear hrof hsam hcsa hawk hA hB hP hO hpA hlw hpaw hobw hbk
        go_upto_region 11 with fail
        go_region_held3 (fun w' => (∀ i, w'.cell? ⟨ba, i, none⟩ = (#[.string RA.disp, .string RA.lt, .string RA.col, .slice a1 RA.con.length a1c, .bool RA.nor, .bool RA.non, .slice a2 RA.quo.length a2c, .bool RA.aut, .slice a3 RA.rst.length a3c, .slice a4 RA.add.length a4c, .slice a5 RA.set.length a5c] : Array Value)[i]?) ∧ (∀ i, w'.cell? ⟨bb, i, none⟩ = (#[.string ⟨#[105, 110, 108, 105, 110, 101]⟩, .string pa.lt, .string pa.col, .slice c1 0 c1c, .bool true, .bool false, .slice c2 pa.quo.length c2c, .bool pa.aut, .slice c3 0 c3c, .slice c4 0 c4c, .slice c5 0 c5c] : Array Value)[i]?) ∧ (∀ i, w'.cell? ⟨W.heap.size, i, none⟩ = (#[.string pa.disp, .string pa.lt, .string pa.col, .slice q1 pa.con.length q1c, .bool pa.nor, .bool pa.non, .slice q2 pa.quo.length q2c, .bool pa.aut, .slice q3 pa.rst.length q3c, .slice q4 pa.add.length q4c, .slice q5 pa.set.length q5c] : Array Value)[i]?) ∧ (∀ i, w'.cell? ⟨W.heap.size + 1, i, none⟩ = (#[.string ob.disp, .string ob.lt, .string ob.col, .slice s1 ob.con.length s1c, .bool ob.nor, .bool ob.non, .slice s2 ob.quo.length s2c, .bool ob.aut, .slice s3 ob.rst.length s3c, .slice s4 ob.add.length s4c, .slice s5 ob.set.length s5c] : Array Value)[i]?) ∧ Hid (Below wc.heap.size wc w'))
          (((try go_split_ands); (refine mkS4 HA.out HB'.out HP'.out HO'.out ?_); first | (with_reducible exact (Below.refl wc.heap.size wc).drew) | (with_reducible exact belC (by assumption) (by assumption))))
          (first
            | (go_split_ands; go_at_call 9; refine (HROF.out _ (Hid.out (by assumption))).mono ?_; rintro e w4 ⟨v4, rfl, hv4, hb4⟩; obtain ⟨d1, d1c, d2, d2c, d3, d3c, d4, d4c, d5, d5c, rfl, hd4⟩ := hv4.open)
            | (go_split_ands; go_at_call_of 8 (Value.agg #[.string pa.disp, .string pa.lt, .string pa.col, .slice q1 pa.con.length q1c, .bool pa.nor, .bool pa.non, .slice q2 pa.quo.length q2c, .bool pa.aut, .slice q3 pa.rst.length q3c, .slice q4 pa.add.length q4c, .slice q5 pa.set.length q5c]); refine (HSAM.out _ (Hid.out (by assumption))).mono ?_; rintro e w7 ⟨rfl, hb7⟩)
            | (go_split_ands; go_at_call 8; (refine (same_c RA _ _ _ _ _ _ _ _ _ _ _ HRA.out (HPAX.out.below (Hid.out (by assumption))).at hd4.at).mono ?_); rintro e w5 ⟨rfl, hb5⟩)
            | (go_split_ands; go_at_call 10; refine (HCSA.out _ (Hid.out (by assumption))).mono ?_; rintro e w6 ⟨rfl, hb6⟩)
            | (go_split_ands; go_at_call 6; refine (HAWK.out _ (Hid.out (by assumption))).mono ?_; rintro e w8 ⟨rfl, hb8⟩)
            | fail)
        all_goals (go_wp2_with fail)
        all_goals go_ret
        all_goals (go_split_ands; exact ⟨rfl, HLW.out.trans ((Hid.out (by assumption) : Below wc.heap.size wc _).mono HLW.out.size)⟩)
end Go.Proofs.YtkpoeilfnopgbaaGreatDoor.Sty
