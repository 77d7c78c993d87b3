/- dom.New of one node. -/
import Derived.Test.YtieiopaobipdoaaGreatDoorCLb
import Derived.Deep.RegionLaw
import Derived.Deep.AppendLies
namespace Go.Proofs.YtieiopaobipdoaaGreatDoor.Dom
open Go Go.RowKit Num
theorem infoNode : (Tryz.prog.info? 88).map (fun i => (i.zero, i.size, i.bytes)) = some (some (.agg #[.int .i64 0, .string .empty, .string .empty, .slice none 0 0, .slice none 0 0, .int .i64 0]), 6, 96) := by kernel_rfl
def TreeA (l : List (ByteArray × ByteArray)) (t : Nat) (w : World) : Prop :=
  ∃ n c v, w.cell? ⟨t, 0, none⟩ = some (.slice (some ⟨n, 0, none⟩) 1 c) ∧ w.cell? ⟨n, 3, none⟩ = some v ∧ AtA l v w
theorem TreeA.below {l : List (ByteArray × ByteArray)} {t : Nat} {w w' : World} (h : TreeA l t w) (hb : Below w.heap.size w w') : TreeA l t w' := by
  obtain ⟨n, c, v, h1, h2, h3⟩ := h
  exact ⟨n, c, v, (hb.cell (p := ⟨t, 0, none⟩) (World.block_lt_of_cell? _ _ h1)).trans h1, (hb.cell (p := ⟨n, 3, none⟩) (World.block_lt_of_cell? _ _ h2)).trans h2, h3.below hb⟩
theorem lower_s (l : List (ByteArray × ByteArray)) (tx : ByteArray) (v : Value) (w : World) (hl : l.length ≤ 100) (hn : ∀ x ∈ l, x.1.size ≤ 100) (hv : AtA l v w) :
    Calls Tryz.prog 24 #[.agg #[.int .i64 (-1), .string ⟨#[97]⟩, .string tx, v]] w fun e w' => ∃ p n c, e = .returned (.agg #[.int .i64 (-1), .string ⟨#[97]⟩, .string tx, .slice p n c]) ∧ AtA (dd l) (.slice p n c) w' ∧ Below w.heap.size w w' := by
  refine (lower_c l tx v w hl hn hv).mono ?_
  rintro e w' ⟨v', rfl, hv', hb⟩
  rcases hv' with ⟨h, rfl⟩ | ⟨g, o, c, rfl, h⟩
  · exact ⟨none, 0, 0, rfl, .inl ⟨h, rfl⟩, hb⟩
  · exact ⟨_, _, _, rfl, .inr ⟨g, o, c, rfl, h⟩, hb⟩
theorem below_of_grown {w w' : World} (h : w.grownBy w' (Value.ownBlock (.slice none 0 0))) : Below w.heap.size w w' := ⟨h.os, h.tape, h.output, h.size, fun k hk => h.block k hk (by simp [Value.ownBlock])⟩
theorem setL {W : World} {b i : Nat} {u v : Value} (h : W.cell? ⟨b + 1, i, none⟩ = some v) : (W.setCell ⟨b, 0, none⟩ u).cell? ⟨b + 1, i, none⟩ = some v := by
  rw [World.cell?_of_block (Below.heap_setCell _ _ _ _ (by show b + 1 ≠ b; omega))]; exact h
theorem after_call {x W2 : World} {T : Nat} (hz : T + 1 < x.heap.size) (hT : x.heap[T]? = some (.cells #[.slice none 0 0] 85 (0, 0))) (hB : Below x.heap.size x W2) :
    T + 1 < W2.heap.size ∧ W2.heap[T]? = some (.cells #[.slice none 0 0] 85 (0, 0)) ∧ W2.cell? ⟨T, 0, none⟩ = some (.slice none 0 0) ∧ W2.frozen? ⟨T, 0, none⟩ = false := by
  have h2 := (hB.block T (by omega)).trans hT
  exact ⟨Nat.lt_of_lt_of_le hz hB.size, h2, by rw [Lib.cell_of_heap h2]; rfl, Lib.frozen_of_heap h2 0⟩
theorem after_alloc {x : World} {T : Nat} (hz : T + 1 < x.heap.size) (hT : x.heap[T]? = some (.cells #[.slice none 0 0] 85 (0, 0))) (o : Obj) :
    T + 1 < (x.alloc o).heap.size ∧ (x.alloc o).heap[T]? = some (.cells #[.slice none 0 0] 85 (0, 0)) := by
  have hB : Below x.heap.size x (x.alloc o) := (Below.refl _ x).alloc (Nat.le_refl _) o
  obtain ⟨h1, h2, _⟩ := after_call hz hT hB
  exact ⟨h1, h2⟩
theorem alloc_cell {x : World} {T : Nat} (hz : T + 1 < x.heap.size) (hT : x.heap[T]? = some (.cells #[.slice none 0 0] 85 (0, 0))) (o : Obj) : (x.alloc o).cell? ⟨T, 0, none⟩ = some (.slice none 0 0) := by
  have hB : Below x.heap.size x (x.alloc o) := (Below.refl _ x).alloc (Nat.le_refl _) o
  exact (after_call hz hT hB).2.2.1
theorem AtA.set {l : List (ByteArray × ByteArray)} {v : Value} {w : World} {T : Nat} (h : AtA l v w) (hT : w.heap[T]? = some (.cells #[.slice none 0 0] 85 (0, 0))) (u : Value) : AtA l v (w.setCell ⟨T, 0, none⟩ u) := by
  have key : ∀ (g i : Nat) (s : ByteArray), w.cell? ⟨g, i, none⟩ = some (.string s) → (w.setCell ⟨T, 0, none⟩ u).cell? ⟨g, i, none⟩ = some (.string s) := fun g i s hs => by
    by_cases e : g = T
    · subst e
      rw [Lib.cell_of_heap hT] at hs
      cases i with
      | zero => simp at hs
      | succ i => simp at hs
    · rw [World.cell?_of_block (Below.heap_setCell _ _ _ _ e)]; exact hs
  rcases h with h | ⟨g, o, c, hv, hg, hc⟩
  · exact .inl h
  · exact .inr ⟨g, o, c, hv, by rw [set_size]; exact hg, fun j x hj => ⟨key _ _ _ (hc j x hj).1, key _ _ _ (hc j x hj).2⟩⟩
theorem tree_mk {l : List (ByteArray × ByteArray)} {T gg cap : Nat} {w : World} {a b c v d e : Value} (hT : w.heap[T]? = some (.cells #[.slice none 0 0] 85 (0, 0))) (hown : w.ownsRow 0 88 6 (.slice (some ⟨gg, 0, none⟩) (0 + 1) cap) (0 + 1) ([] ++ [a, b, c, v, d, e])) (hg : gg ≠ T) (hAt : AtA l v w) :
    TreeA l T (w.setCell ⟨T, 0, none⟩ (.slice (some ⟨gg, 0, none⟩) 1 cap)) := by
  refine ⟨gg, cap, v, ?_, ?_, hAt.set hT _⟩
  · rw [Lib.cell_of_heap (set_heap hT 0 _)]; rfl
  · rw [World.cell?_of_block (Below.heap_setCell _ _ _ _ hg)]
    have := hown.cells rfl 3 v rfl
    simpa [Addr.add] using this
theorem keepL {W W' : World} (hb : Below W.heap.size W W') {b i : Nat} {v : Value} (hz : b < W.heap.size) (h : W.cell? ⟨b, i, none⟩ = some v) : W'.cell? ⟨b, i, none⟩ = some v := by rw [hb.cell (p := ⟨b, i, none⟩) hz]; exact h
theorem keepF {W W' : World} (hb : Below W.heap.size W W') {b i : Nat} (hz : b < W.heap.size) (h : W.frozen? ⟨b, i, none⟩ = false) : W'.frozen? ⟨b, i, none⟩ = false := by rw [hb.frozen (p := ⟨b, i, none⟩) hz]; exact h
theorem keepZ {W W' : World} (hb : Below W.heap.size W W') {b : Nat} (hz : b < W.heap.size) : b < W'.heap.size := Nat.lt_of_lt_of_le hz hb.size
set_option maxHeartbeats 2000000 in
set_option maxRecDepth 100000 in
theorem new_one (l : List (ByteArray × ByteArray)) (tx : ByteArray) (lv : Option Addr) (c : Nat) (p pc : Nat) (w : World) (hl : l.length ≤ 100) (hn : ∀ x ∈ l, x.1.size ≤ 100) (hv : AtA l (.slice lv l.length c) w)
    (c0 : w.cell? ⟨p, 0, none⟩ = some (.int .i64 (-1))) (c1 : w.cell? ⟨p, 1, none⟩ = some (.string ⟨#[97]⟩)) (c2 : w.cell? ⟨p, 2, none⟩ = some (.string tx)) (c3 : w.cell? ⟨p, 3, none⟩ = some (.slice lv l.length c)) :
    Calls Tryz.prog 13 #[.slice (some ⟨p, 0, none⟩) 1 pc] w fun e w' => ∃ t, e = .returned (.tuple #[.pointer (some ⟨t, 0, none⟩), .int .i64 0]) ∧ TreeA (dd l) t w' ∧ Below w.heap.size w w' := by
  obtain ⟨i0, hi, hz0', hz1, hz2'⟩ := info_parts infoNode
  have hp := World.block_lt_of_cell? _ _ c0
  have hb1 : Below w.heap.size w (w.alloc (.cells #[.slice none 0 0] 85)) := (Below.refl _ w).alloc (Nat.le_refl _) _
  have e0 := (hb1.cell (p := ⟨p, 0, none⟩) hp).trans c0
  have e1 := (hb1.cell (p := ⟨p, 1, none⟩) hp).trans c1
  have e2 := (hb1.cell (p := ⟨p, 2, none⟩) hp).trans c2
  have e3 := (hb1.cell (p := ⟨p, 3, none⟩) hp).trans c3
  go_enter Tryz.func13, Tryz.ntmps13
  go_wp2
  refine wp_loop_rounds 2 ?_
  rw [rounds_succ]
  go_upto_region 16 with fail
  have hB0 : Hid (Below w.heap.size w ((w.alloc (.cells #[.slice none 0 0] 85)).alloc (.cells #[.int .i64 (-1), .string ⟨#[97]⟩, .string tx, .slice lv l.length c] 46)).drew) := Lib.hid ((two_new w _ _).2.2.2.drew)
  clear e0 e1 e2 e3 c0 c1 c2 c3
  have hal : ∀ (x : World) (o : Obj), Below x.heap.size x (x.alloc o) := fun x o => (Below.refl _ x).alloc (Nat.le_refl _) o
  have hT0 : Hid (((w.alloc (.cells #[.slice none 0 0] 85)).alloc (.cells #[.int .i64 (-1), .string ⟨#[97]⟩, .string tx, .slice lv l.length c] 46)).heap[w.heap.size]? = some (.cells #[.slice none 0 0] 85 (0, 0))) := Lib.hid (two_new w _ _).1
  have hz0 : w.heap.size + 1 < ((w.alloc (.cells #[.slice none 0 0] 85)).alloc (.cells #[.int .i64 (-1), .string ⟨#[97]⟩, .string tx, .slice lv l.length c] 46)).drew.heap.size := by
    show _ < ((w.alloc _).alloc _).heap.size
    rw [(two_new w _ _).2.2.1]; omega
  go_region_law
    (first
      | (refine step_append_lies _ (by rfl) _ _ 83 (by rfl) 0 88 i0 _ 6 96 Tryz.underlying83 hi hz0' hz1 hz2' rfl (by omega) (.slice none 0 0) 0 [] (by rfl) (World.ownsRow_nil _ _ _ _) ⟨W2.heap.size, 0, none⟩ 1 1 [.int .i64 (-1), .string ⟨#[97]⟩, .string tx, .slice p2 n2 cc2, .slice none 0 0, .int .i64 1] (by rfl) (by rfl) (World.news_of_block (cs := #[.int .i64 (-1), .string ⟨#[97]⟩, .string tx, .slice p2 n2 cc2, .slice none 0 0, .int .i64 1]) (t := 88) (fr := (0, 0)) (heap_alloc_new _ _)) (by simp [Value.oneCell']) (by omega) (by unfold maxLen; omega) (by omega) (Nat.zero_le _) (W2.heap.size + 1) (by simp) ?_; intro gg cap w1 hown1 hgrow hat hlt; have hBw : Below _ _ w1 := below_of_grown hgrow; obtain ⟨hz1, hT1, cT1, fT1⟩ := after_call (after_alloc hz2 hT2 _).1 (after_alloc hz2 hT2 _).2 hBw)
      | (go_simp; go_at_call 24; refine (lower_s l tx _ _ hl hn (AtA.below hv hB0.out)).mono ?_; rintro e W2 ⟨p2, n2, cc2, rfl, hAt, hBn⟩; obtain ⟨hz2, hT2, cT2, fT2⟩ := after_call hz0 hT0.out hBn; have hz2l : w.heap.size < W2.heap.size := Nat.lt_of_succ_lt hz2; have cT3 : ∀ o, (W2.alloc o).cell? ⟨w.heap.size, 0, none⟩ = some (.slice none 0 0) := fun o => alloc_cell hz2 hT2 o))
  all_goals
    go_wp2
    rw [rounds_succ]
    go_wp2
    go_ret2
    refine ⟨_, rfl, tree_mk hT1 hown1 (by rcases hat with h | h <;> first | omega | (cases h; done)) ((AtA.below (AtA.below hAt (hal W2 _)) hBw)), ?_⟩
    exact ((hB0.out.trans (hBn.mono hB0.out.size)).trans (((hal W2 _).trans (hBw.mono (hal W2 _).size)).mono (Nat.le_trans hB0.out.size hBn.size))).setCell (Nat.le_refl _) _
end Go.Proofs.YtieiopaobipdoaaGreatDoor.Dom
