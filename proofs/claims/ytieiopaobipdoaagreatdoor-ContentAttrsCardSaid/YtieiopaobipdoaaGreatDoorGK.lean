/- strings.Builder's String and WriteString at this program (the kit's proofs in Derived/Shelf/Strings/Builder1.lean turned to this seat's copyCheck); what they keep. -/
import Derived.Test.YtieiopaobipdoaaGreatDoorKB
import Derived.Laws.AppendOwn
import Derived.RangeFuncBox
import Derived.RangeFuncCalls
namespace Go.Proofs.YtieiopaobipdoaaGreatDoor.Num
open Go Go.Shelf Go.RowKit Go.Proofs
theorem keeps_freeze (w : World) (p : Addr) (n : Nat) : KeepsOthers w (w.freeze p n) := by
  unfold World.freeze
  split
  · exact KeepsOthers.refl _
  · refine ⟨by simp, fun k o hk ho => ?_⟩
    simp only [Array.getElem?_modify]
    split
    · rename_i e; subst e
      rw [hk]
      cases o <;> first | rfl | (simp [Obj.isCells] at ho)
    · exact hk
set_option maxHeartbeats 2000000 in
set_option maxRecDepth 100000 in
theorem str (B b : Nat) (l : List UInt8) (w : World) (h : Lib.IsBuilder 92 5 B b (Lib.byteCells l) w) (h0 : l ≠ []) :
    Calls Tryz.prog 28 #[.pointer (some ⟨b, 0, none⟩)] w fun e w' => e = .returned (.string ⟨l.toArray⟩) ∧ Below B w w' ∧ KeepsOthers w w' := by
  obtain ⟨p, hB, v, hbk, hown, hne⟩ : ∃ p, Lib.BuilderAt 92 5 B b p (Lib.byteCells l) w := by
    rcases h with h | h
    · exact ⟨_, h⟩
    · exact ⟨_, h⟩
  have hl0 : l.length ≠ 0 := by simpa using h0
  rw [Lib.byteCells_length] at hown
  obtain ⟨g, cap, cur, rfl, hbg, hg, hnc, hcm, hcs, htake⟩ : ∃ g cap cur, v = .slice (some ⟨g, 0, none⟩) l.length cap ∧ B ≤ g ∧ w.heap[g]? = some (.cells cur 5 (0, 0)) ∧ l.length ≤ cap ∧ cap ≤ maxLen ∧ cur.size = cap * 1 ∧ cur.toList.take (l.length * 1) = Lib.byteCells l := by
    rcases hown.2 with ⟨_, hz⟩ | ⟨g, cap, cur, hv, r⟩
    · exact absurd hz hl0
    · exact ⟨g, cap, cur, hv, r⟩
  have c1 : w.drew.cell? ⟨b, 1, none⟩ = some (.slice (some ⟨g, 0, none⟩) l.length cap) := by
    have : w.drew.heap[b]? = some (.cells #[p, .slice (some ⟨g, 0, none⟩) l.length cap] 92 (0, 0)) := hbk
    rw [Lib.cell_of_heap this]; rfl
  have hSD : (Builtin.unsafeSliceData_ #[26] 131 #[.slice (some ⟨g, 0, none⟩) l.length cap]).run Tryz.prog w.drew = .ok (.pointer (some ⟨g, 0, none⟩)) w.drew :=
    Lib.run_unsafeSliceData_row _ _ _ _ _ _ (by omega)
  have hUS : (Builtin.unsafeString_ #[131, 3] 9 #[.pointer (some ⟨g, 0, none⟩), .int .i64 l.length]).run Tryz.prog w.drew = .ok (.string ⟨l.toArray⟩) (w.drew.freeze ⟨g, 0, none⟩ l.length) := by
    refine Lib.run_unsafeString_row w.drew 131 3 9 5 Tryz.underlying131 (by kernel_rfl) g cur.size (by have hg' : w.drew.heap[g]? = some (.cells cur 5 (0, 0)) := hg; simp [World.shape?, hg']) l h0 (by omega) (by unfold maxLen at hcm; omega) ?_
    intro j x hx
    have := hown.cells (g := g) rfl j (.int .u8 x.toNat) (by simp [Lib.byteCells, hx])
    exact this
  have mixed : Tryz.prog.follows Departure.mixedOrders = true := by kernel_rfl
  go_enter Tryz.func28, Tryz.ntmps28
  go_wp2
  go_region_o
  all_goals (go_wp2; go_ret; exact ⟨rfl, Lib.below_freeze (Below.drew (Below.refl B w)) (p := ⟨g, 0, none⟩) hbg _, (KeepsOthers.drew w).trans (keeps_freeze _ _ _)⟩)
theorem str_none (W : World) (q : Option Addr) : (Builtin.unsafeString_ #[131, 3] 9 #[.pointer q, .int .i64 0]).run Tryz.prog W = .ok (.string .empty) W :=
  Lib.run_unsafeString_none W _ _ _ q
set_option maxHeartbeats 2000000 in
set_option maxRecDepth 100000 in
theorem str_nil (B b : Nat) (p : Value) (w : World) (hbk : w.heap[b]? = some (.cells #[p, .slice none 0 0] 92 (0, 0))) :
    Calls Tryz.prog 28 #[.pointer (some ⟨b, 0, none⟩)] w fun e w' => e = .returned (.string ⟨#[]⟩) ∧ Below B w w' ∧ KeepsOthers w w' := by
  have hUS := str_none
  have c1 : w.drew.cell? ⟨b, 1, none⟩ = some (.slice none 0 0) := by
    have : w.drew.heap[b]? = some (.cells #[p, .slice none 0 0] 92 (0, 0)) := hbk
    rw [Lib.cell_of_heap this]; rfl
  have hSD : (Builtin.unsafeSliceData_ #[26] 131 #[.slice none 0 0]).run Tryz.prog w.drew = .ok (.pointer none) w.drew := rfl
  have mixed : Tryz.prog.follows Departure.mixedOrders = true := by kernel_rfl
  go_enter Tryz.func28, Tryz.ntmps28
  go_wp2
  go_region_o
  all_goals (go_wp2; go_ret; exact ⟨rfl, Below.drew (Below.refl B w), KeepsOthers.drew w⟩)
set_option maxHeartbeats 2000000 in
set_option maxRecDepth 100000 in
theorem str_noroom (B b g : Nat) (p : Value) (cur : Array Value) (w : World) (hBw : B ≤ w.heap.size) (hbk : w.heap[b]? = some (.cells #[p, .slice (some ⟨g, 0, none⟩) 0 0] 92 (0, 0))) (hg : w.heap[g]? = some (.cells cur 5 (0, 0))) :
    Calls Tryz.prog 28 #[.pointer (some ⟨b, 0, none⟩)] w fun e w' => e = .returned (.string ⟨#[]⟩) ∧ Below B w w' ∧ KeepsOthers w w' := by
  have hUS := str_none
  have hlt : b < w.heap.size := by
    rcases Nat.lt_or_ge b w.heap.size with h' | h'
    · exact h'
    · simp [Array.getElem?_eq_none h'] at hbk
  have c1 : w.drew.cell? ⟨b, 1, none⟩ = some (.slice (some ⟨g, 0, none⟩) 0 0) := by
    have : w.drew.heap[b]? = some (.cells #[p, .slice (some ⟨g, 0, none⟩) 0 0] 92 (0, 0)) := hbk
    rw [Lib.cell_of_heap this]; rfl
  have hSD : (Builtin.unsafeSliceData_ #[26] 131 #[.slice (some ⟨g, 0, none⟩) 0 0]).run Tryz.prog w.drew = .ok (.pointer (some ⟨w.drew.heap.size, 0, none⟩)) (w.drew.alloc (.view ⟨g, 0, none⟩ 5)) :=
    Lib.run_unsafeSliceData_zero w.drew _ _ 5 Tryz.underlying131 ⟨g, 0, none⟩ 0 (5, cur.size) (by have hg' : w.drew.heap[g]? = some (.cells cur 5 (0, 0)) := hg; simp [World.shape?, hg'])
  have c2 : (w.drew.alloc (.view ⟨g, 0, none⟩ 5)).cell? ⟨b, 1, none⟩ = some (.slice (some ⟨g, 0, none⟩) 0 0) := by
    have : (w.drew.alloc (.view ⟨g, 0, none⟩ 5)).heap[b]? = _ := (Lib.alloc_old w.drew _ b hlt).trans hbk
    rw [Lib.cell_of_heap this]; rfl
  -- (the same fact as the how-to's newer walk spells the world; and of w itself, to which the elder walk comes down)
  have c3 : (w.alloc (.view ⟨g, 0, none⟩ 5)).drew.cell? ⟨b, 1, none⟩ = some (.slice (some ⟨g, 0, none⟩) 0 0) := c2
  have c0 : w.cell? ⟨b, 1, none⟩ = some (.slice (some ⟨g, 0, none⟩) 0 0) := c1
  have mixed : Tryz.prog.follows Departure.mixedOrders = true := by kernel_rfl
  go_enter Tryz.func28, Tryz.ntmps28
  go_wp2
  go_region_o
  all_goals (go_wp2; go_ret; exact ⟨rfl, (Below.drew (Below.refl B w)).alloc hBw _, (KeepsOthers.drew w).trans (KeepsOthers.alloc _ _)⟩)
set_option maxHeartbeats 2000000 in
set_option maxRecDepth 100000 in
theorem str_room (B b g cap : Nat) (p : Value) (w : World) (hc0 : cap ≠ 0) (hbk : w.heap[b]? = some (.cells #[p, .slice (some ⟨g, 0, none⟩) 0 cap] 92 (0, 0))) :
    Calls Tryz.prog 28 #[.pointer (some ⟨b, 0, none⟩)] w fun e w' => e = .returned (.string ⟨#[]⟩) ∧ Below B w w' ∧ KeepsOthers w w' := by
  have hUS := str_none
  have c1 : w.drew.cell? ⟨b, 1, none⟩ = some (.slice (some ⟨g, 0, none⟩) 0 cap) := by
    have : w.drew.heap[b]? = some (.cells #[p, .slice (some ⟨g, 0, none⟩) 0 cap] 92 (0, 0)) := hbk
    rw [Lib.cell_of_heap this]; rfl
  have hSD : (Builtin.unsafeSliceData_ #[26] 131 #[.slice (some ⟨g, 0, none⟩) 0 cap]).run Tryz.prog w.drew = .ok (.pointer (some ⟨g, 0, none⟩)) w.drew :=
    Lib.run_unsafeSliceData_row _ _ _ _ _ _ hc0
  clear hc0
  have mixed : Tryz.prog.follows Departure.mixedOrders = true := by kernel_rfl
  go_enter Tryz.func28, Tryz.ntmps28
  go_wp2
  go_region_o
  all_goals (go_wp2; go_ret; exact ⟨rfl, Below.drew (Below.refl B w), KeepsOthers.drew w⟩)
theorem str_empty (B b : Nat) (w : World) (h : Lib.IsBuilder 92 5 B b [] w) (hBw : B ≤ w.heap.size) :
    Calls Tryz.prog 28 #[.pointer (some ⟨b, 0, none⟩)] w fun e w' => e = .returned (.string ⟨#[]⟩) ∧ Below B w w' ∧ KeepsOthers w w' := by
  obtain ⟨p, hB, v, hbk, hown, hne⟩ : ∃ p, Lib.BuilderAt 92 5 B b p [] w := by
    rcases h with h | h
    · exact ⟨_, h⟩
    · exact ⟨_, h⟩
  rcases hown.2 with ⟨rfl, _⟩ | ⟨g, cap, cur, rfl, hbg, hg, _, _, _, _⟩
  · exact str_nil B b p w hbk
  · by_cases hc0 : cap = 0
    · subst hc0
      exact str_noroom B b g p cur w hBw hbk hg
    · exact str_room B b g cap p w hc0 hbk
theorem str_any (B b : Nat) (l : List UInt8) (w : World) (h : Lib.IsBuilder 92 5 B b (Lib.byteCells l) w) (hBw : B ≤ w.heap.size) :
    Calls Tryz.prog 28 #[.pointer (some ⟨b, 0, none⟩)] w fun e w' => e = .returned (.string ⟨l.toArray⟩) ∧ Below B w w' ∧ KeepsOthers w w' := by
  cases l with
  | nil => exact str_empty B b w h hBw
  | cons x r => exact str B b (x :: r) w h (by simp)
def Bld (B2 b : Nat) (bs : List Value) (w : World) : Prop := b < B2 ∧ B2 ≤ w.heap.size ∧ ∃ p v, (p = Value.pointer none ∨ p = Value.pointer (some ⟨b, 0, none⟩)) ∧ w.heap[b]? = some (.cells #[p, v] 92 (0, 0)) ∧ w.ownsRow B2 5 1 v bs.length bs
structure KpB (B2 b : Nat) (w w' : World) : Prop where
  os : w'.os = w.os
  tape : w'.tape = w.tape
  output : w'.output = w.output
  size : w.heap.size ≤ w'.heap.size
  block : ∀ k, k < B2 → k ≠ b → w'.heap[k]? = w.heap[k]?
theorem KpB.refl (B2 b : Nat) (w : World) : KpB B2 b w w := ⟨rfl, rfl, rfl, Nat.le_refl _, fun _ _ _ => rfl⟩
theorem KpB.trans {B2 b : Nat} {x y z : World} (h : KpB B2 b x y) (k : KpB B2 b y z) : KpB B2 b x z :=
  ⟨k.os.trans h.os, k.tape.trans h.tape, k.output.trans h.output, Nat.le_trans h.size k.size, fun i h1 h2 => (k.block i h1 h2).trans (h.block i h1 h2)⟩
theorem KpB.below {B2 b n : Nat} {w w' : World} (h : KpB B2 b w w') (h1 : n ≤ b) (h2 : b < B2) : Below n w w' :=
  ⟨h.os, h.tape, h.output, h.size, fun k hk => h.block k (by omega) (by omega)⟩
theorem KpB.of_below {B2 b : Nat} {w w' : World} (h : Below B2 w w') : KpB B2 b w w' := ⟨h.os, h.tape, h.output, h.size, fun k h1 _ => h.block k h1⟩
theorem KpB.cell {B2 b : Nat} {w w' : World} (h : KpB B2 b w w') {p : Addr} (h1 : p.block < B2) (h2 : p.block ≠ b) : w'.cell? p = w.cell? p := World.cell?_of_block (h.block _ h1 h2)
theorem KpB.set {B2 b : Nat} {x w : World} (h : KpB B2 b x w) (i : Nat) (u : Value) : KpB B2 b x (w.setCell ⟨b, i, none⟩ u) :=
  h.trans ⟨rfl, rfl, rfl, by simp [World.setCell], fun k _ h2 => Below.heap_setCell _ _ _ _ (fun e => h2 (by simp [e]))⟩
theorem KpB.put {B2 b : Nat} {w : World} {l : Nat} (o' : Obj) (hl : B2 ≤ l) : KpB B2 b w (w.putObj l o') :=
  ⟨rfl, rfl, rfl, by simp [World.putObj], fun k h1 _ => World.putObj_heap_other (by omega)⟩
theorem Bld.is {B2 b : Nat} {bs : List Value} {w : World} (h : Bld B2 b bs w) : Lib.IsBuilder 92 5 b b bs w := by
  obtain ⟨h1, _, p, v, hp, hb, hl, hr⟩ := h
  have hne : v.ownBlock ≠ some b := Lib.ownBlock_ne ⟨hl, hr⟩ hb (by decide)
  have hown : w.ownsRow b 5 1 v bs.length bs := ⟨hl, by
    rcases hr with h | ⟨g, cap, cur, e1, e2, e3⟩
    · exact .inl h
    · exact .inr ⟨g, cap, cur, e1, by omega, e3⟩⟩
  rcases hp with rfl | rfl
  · exact .inl ⟨Nat.le_refl _, v, hb, hown, hne⟩
  · exact .inr ⟨Nat.le_refl _, v, hb, hown, hne⟩
theorem Bld.kept {B2 b : Nat} {bs : List Value} {w w' : World} {row : Option Nat} (h : Bld B2 b bs w) (hg : w.grownBy w' row) (hr : ∀ r, row = some r → ∃ o : Obj, w.heap[r]? = some o ∧ o.isCells = false) : Bld B2 b bs w' := by
  obtain ⟨h1, h0, p, v, hp, hb, hown⟩ := h
  have hlt : b < w.heap.size := (Array.getElem?_eq_some_iff.1 hb).1
  refine ⟨h1, Nat.le_trans h0 hg.size, p, v, hp, ?_, ?_⟩
  · rw [hg.block b hlt fun e => ?_]; exact hb
    obtain ⟨o, ho, hc⟩ := hr b e.symm
    rw [hb] at ho; cases ho; cases hc
  · refine hown.kept hg ?_
    rcases hown.2 with ⟨rfl, _⟩ | ⟨g, cap, cur, rfl, _, hh, _⟩
    · exact .inl rfl
    · refine .inr fun e => ?_
      obtain ⟨o, ho, hc⟩ := hr g e.symm
      rw [hh] at ho; cases ho; cases hc
theorem Bld.new (w : World) : Bld (w.heap.size + 1) w.heap.size [] (w.alloc (.cells #[.pointer none, .slice none 0 0] 92)) :=
  ⟨by omega, by simp, _, _, .inl rfl, heap_alloc_new w _, World.ownsRow_nil _ _ _ _⟩
theorem Bld.alloc {B2 b : Nat} {w : World} (_h : Bld B2 b [] w) (hf : B2 = w.heap.size) (hn : ∃ p, w.heap[b]? = some (.cells #[p, .slice none 0 0] 92 (0, 0)) ∧ (p = Value.pointer none ∨ p = Value.pointer (some ⟨b, 0, none⟩))) (o : Obj) : Bld (B2 + 1) b [] (w.alloc o) := by
  obtain ⟨p, hb, hp⟩ := hn
  have hlt : b < w.heap.size := (Array.getElem?_eq_some_iff.1 hb).1
  exact ⟨by omega, by simp; omega, p, _, hp, (Lib.alloc_old w o b hlt).trans hb, World.ownsRow_nil _ _ _ _⟩
theorem checkB (B2 b : Nat) (bs : List Value) (w : World) (h : Bld B2 b bs w) :
    Calls Tryz.prog 54 #[.pointer (some ⟨b, 0, none⟩)] w fun e w' => e = .returned (.tuple #[]) ∧ (∃ v, w'.heap[b]? = some (.cells #[.pointer (some ⟨b, 0, none⟩), v] 92 (0, 0)) ∧ w'.ownsRow B2 5 1 v bs.length bs) ∧ KpB B2 b w w' ∧ KeepsOthers w w' := by
  have h0 := h
  obtain ⟨h1, _, p, v, hp, hb, hown⟩ := h
  have hne : v.ownBlock ≠ some b := Lib.ownBlock_ne hown hb (by decide)
  rcases hp with rfl | rfl
  · refine (check_fresh b w (by rw [Lib.cell_of_heap hb]; rfl) (by simp [World.shape?, hb]) (Lib.frozen_of_heap hb 0)).mono ?_
    rintro e w' ⟨rfl, rfl⟩
    refine ⟨rfl, ⟨v, ?_, ?_⟩, (KpB.refl B2 b w).set 0 _, KeepsOthers.setCell _ _ _⟩
    · simp [World.setCell, Array.getElem?_modify, hb]
    · exact hown.kept (row := some b) ⟨rfl, rfl, rfl, by simp [World.setCell], fun k _ hk => Below.heap_setCell _ _ _ _ (fun e => hk (by simp [e]))⟩ (Or.inr hne)
  · refine (check_used b w (by rw [Lib.cell_of_heap hb]; rfl)).mono ?_
    rintro e w' ⟨rfl, rfl⟩
    exact ⟨rfl, ⟨v, hb, hown⟩, KpB.refl B2 b _, KeepsOthers.refl _⟩
set_option maxHeartbeats 2000000 in
set_option maxRecDepth 100000 in
theorem writeB (B2 b : Nat) (bs : List Value) (s : ByteArray) (w : World) (h : Bld B2 b bs w) (hlen : bs.length + s.size ≤ 140737488355328) :
    Calls Tryz.prog 27 #[.pointer (some ⟨b, 0, none⟩), .string s] w fun e w' => e = .returned (.tuple #[.int .i64 s.size, .nilIface]) ∧ Bld B2 b (bs ++ Lib.strCells s) w' ∧ KpB B2 b w w' ∧ KeepsOthers w w' := by
  obtain ⟨i0, hi, hz0, hz1, hz2⟩ := info_parts infoByte
  have hB : b < B2 := h.1
  have hBw : B2 ≤ w.heap.size := h.2.1
  go_enter Tryz.func27, Tryz.ntmps27
  go_wp2_with (go_at_call 54; refine (checkB B2 b bs _ h).mono ?_)
  rintro e w1 ⟨rfl, ⟨v, hbk, hown⟩, hb1, hk1⟩
  have hne : v.ownBlock ≠ some b := Lib.ownBlock_ne hown hbk (by decide)
  have c0 : w1.cell? ⟨b, 0, none⟩ = some (.pointer (some ⟨b, 0, none⟩)) := by rw [Lib.cell_of_heap hbk]; rfl
  have c1 : w1.cell? ⟨b, 1, none⟩ = some v := by rw [Lib.cell_of_heap hbk]; rfl
  go_wp2_with (at_builtin; refine Lib.wpList_append_own_string _ rfl _ _ 26 9 rfl B2 5 i0 Tryz.underlying26 Tryz.underlying9 hi hz0 hz1 hz2 _ _ _ rfl hown s rfl ?c3 ?c4 ?c5 ?_)
  case c3 => unfold maxLen; omega
  case c4 => omega
  case c5 => have := hb1.size; omega
  intro v' w2 hown' hgrow _
  have hlt : b < w1.heap.size := (Array.getElem?_eq_some_iff.1 hbk).1
  have hb2 : w2.heap[b]? = some (.cells #[.pointer (some ⟨b, 0, none⟩), v] 92 (0, 0)) := by
    rw [hgrow.block b hlt (fun e => hne e.symm)]
    exact hbk
  have d0 : w2.cell? ⟨b, 0, none⟩ = some (.pointer (some ⟨b, 0, none⟩)) := by rw [Lib.cell_of_heap hb2]; rfl
  have d1 : w2.cell? ⟨b, 1, none⟩ = some v := by rw [Lib.cell_of_heap hb2]; rfl
  have f1 : w2.frozen? ⟨b, 1, none⟩ = false := Lib.frozen_of_heap hb2 1
  have hne' := Lib.ownBlock_ne hown' hb2 (by decide)
  obtain ⟨ao, n', cap, rfl⟩ : ∃ ao n' cap, v' = .slice ao n' cap := by
    rcases hown'.2 with ⟨hv, _⟩ | ⟨g, cap, cur, hv, _⟩
    · exact ⟨_, _, _, hv⟩
    · exact ⟨_, _, _, hv⟩
  go_wp2
  go_ret2
  have hs : w1.heap.size ≤ w2.heap.size := hgrow.size
  have hs1 := hb1.size
  refine ⟨rfl, ⟨hB, by simp only [World.setCell, Array.size_modify]; omega, _, .slice ao n' cap, .inr rfl, ?_, ?_⟩, ?_, ?_⟩
  · show (w2.setCell ⟨b, 1, none⟩ (.slice ao n' cap)).heap[b]? = _
    simp [World.setCell, Array.getElem?_modify, hb2]
  · refine World.ownsRow.kept (w := w2) (by simpa [Lib.strCells_length] using hown') (row := some b) ⟨rfl, rfl, rfl, by simp [World.setCell], fun k _ hk => Below.heap_setCell _ _ _ _ (fun e => hk (by simp [e]))⟩ (Or.inr hne')
  · refine KpB.set (hb1.trans ⟨hgrow.os, hgrow.tape, hgrow.output, hgrow.size, fun k h1 _ => hgrow.block k (by omega) fun e => ?_⟩) 1 _
    have := (hown.lt k e.symm).1
    omega
  · refine (hk1.trans (KeepsOthers.of_grownBy hgrow fun j o ej hj => ?_)).trans (KeepsOthers.setCell _ _ _)
    rcases hown.2 with ⟨rfl, _⟩ | ⟨g, cap, cur, rfl, _, hg, _⟩
    · cases ej
    · simp only [Value.ownBlock, Option.some.injEq] at ej
      subst ej
      rw [hg] at hj
      cases hj; rfl
end Go.Proofs.YtieiopaobipdoaaGreatDoor.Num
