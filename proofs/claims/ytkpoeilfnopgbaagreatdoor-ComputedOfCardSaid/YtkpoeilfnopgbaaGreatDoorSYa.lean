/- Styles: where they lie; slices.Clone of their lists. -/
import Derived.Test.YtkpoeilfnopgbaaGreatDoorProg
import Derived.WalkKit
import Derived.ProofKit
import Derived.OpenShut
import Derived.Lib.Hide
import Derived.Lib.Walk
import Derived.Lib.SliceRun
import Derived.Lib.Builder
import Derived.Laws.IdiomStrings
import Derived.Deep.RegionLaw
import Derived.Deep.CutBlock
import Derived.Deep.DeepCutAuto
import Derived.Laws.Concat
import Derived.BigCall
import Derived.LoopTactic
import Derived.Laws.CopyOwn
namespace Go.Proofs.YtkpoeilfnopgbaaGreatDoor.Sty
open Go Go.RowKit
theorem new_heap (w : World) (o : Obj) : (w.alloc o).heap[w.heap.size]? = some o := by
  show (w.heap.push o)[w.heap.size]? = _
  simp
abbrev Itm := Int × ByteArray × ByteArray × ByteArray
abbrev Pr := ByteArray × Int × Bool × Bool
def iC : List Itm → List Value
  | [] => []
  | x :: r => .int .i64 x.1 :: .string x.2.1 :: .string x.2.2.1 :: .string x.2.2.2 :: iC r
def qC : List ByteArray → List Value
  | [] => []
  | x :: r => .string x :: qC r
def pC : List Pr → List Value
  | [] => []
  | x :: r => .string x.1 :: .int .i64 x.2.1 :: .bool x.2.2.1 :: .bool x.2.2.2 :: pC r
theorem iC_length : ∀ l, (iC l).length = l.length * 4
  | [] => rfl
  | _ :: r => by rw [iC, List.length_cons, List.length_cons, List.length_cons, List.length_cons, iC_length r, List.length_cons]; omega
theorem qC_length : ∀ l, (qC l).length = l.length * 1
  | [] => rfl
  | _ :: r => by rw [qC, List.length_cons, qC_length r, List.length_cons]; omega
theorem pC_length : ∀ l, (pC l).length = l.length * 4
  | [] => rfl
  | _ :: r => by rw [pC, List.length_cons, List.length_cons, List.length_cons, List.length_cons, pC_length r, List.length_cons]; omega
theorem iC_one : ∀ l, ∀ u ∈ iC l, u.oneCell' = true
  | [], u, h => by cases h
  | x :: r, u, h => by
    simp only [iC, List.mem_cons] at h
    rcases h with rfl | rfl | rfl | rfl | h
    · rfl
    · rfl
    · rfl
    · rfl
    · exact iC_one r u h
theorem qC_one : ∀ l, ∀ u ∈ qC l, u.oneCell' = true
  | [], u, h => by cases h
  | x :: r, u, h => by
    simp only [qC, List.mem_cons] at h
    rcases h with rfl | h
    · rfl
    · exact qC_one r u h
theorem pC_one : ∀ l, ∀ u ∈ pC l, u.oneCell' = true
  | [], u, h => by cases h
  | x :: r, u, h => by
    simp only [pC, List.mem_cons] at h
    rcases h with rfl | rfl | rfl | rfl | h
    · rfl
    · rfl
    · rfl
    · rfl
    · exact pC_one r u h
theorem iC_at : ∀ (l : List Itm) (j : Nat) x, l[j]? = some x → (iC l)[j * 4]? = some (.int .i64 x.1) ∧ (iC l)[j * 4 + 1]? = some (.string x.2.1) ∧ (iC l)[j * 4 + 2]? = some (.string x.2.2.1) ∧ (iC l)[j * 4 + 3]? = some (.string x.2.2.2)
  | [], j, x, h => by simp at h
  | y :: r, 0, x, h => by simp at h; subst h; simp [iC]
  | y :: r, j + 1, x, h => by
    rw [List.getElem?_cons_succ] at h
    have := iC_at r j x h
    rw [show (j + 1) * 4 = j * 4 + 1 + 1 + 1 + 1 by omega, iC]
    simpa using this
theorem qC_at : ∀ (l : List ByteArray) (j : Nat) x, l[j]? = some x → (qC l)[j]? = some (.string x)
  | [], j, x, h => by simp at h
  | y :: r, 0, x, h => by simp at h; subst h; simp [qC]
  | y :: r, j + 1, x, h => by
    rw [List.getElem?_cons_succ] at h
    rw [qC, List.getElem?_cons_succ]
    exact qC_at r j x h
theorem pC_at : ∀ (l : List Pr) (j : Nat) x, l[j]? = some x → (pC l)[j * 4]? = some (.string x.1) ∧ (pC l)[j * 4 + 1]? = some (.int .i64 x.2.1) ∧ (pC l)[j * 4 + 2]? = some (.bool x.2.2.1) ∧ (pC l)[j * 4 + 3]? = some (.bool x.2.2.2)
  | [], j, x, h => by simp at h
  | y :: r, 0, x, h => by simp at h; subst h; simp [pC]
  | y :: r, j + 1, x, h => by
    rw [List.getElem?_cons_succ] at h
    have := pC_at r j x h
    rw [show (j + 1) * 4 = j * 4 + 1 + 1 + 1 + 1 by omega, pC]
    simpa using this
def RowAt (n : Nat) (cs : List Value) (v : Value) (w : World) : Prop :=
  ∃ p c, v = .slice p n c ∧ (0 < n → ∃ g o, p = some ⟨g, o, none⟩ ∧ g < w.heap.size ∧ ∀ (j : Nat) u, cs[j]? = some u → w.cell? ⟨g, o + j, none⟩ = some u)
theorem RowAt.below {n : Nat} {cs : List Value} {v : Value} {w w' : World} (h : RowAt n cs v w) (hb : Below w.heap.size w w') : RowAt n cs v w' := by
  obtain ⟨p, c, hv, hc⟩ := h
  refine ⟨p, c, hv, fun hn => ?_⟩
  obtain ⟨g, o, hp, hg, hx⟩ := hc hn
  exact ⟨g, o, hp, Nat.lt_of_lt_of_le hg hb.size, fun j u hj => (hb.cell (p := ⟨g, _, none⟩) hg).trans (hx j u hj)⟩
theorem RowAt.of_own {w : World} {B : Nat} {e : TypeId} {k : Nat} {v : Value} {n : Nat} {cs : List Value} (h : w.ownsRow B e k v n cs) (hl : cs.length = n * k) : ∃ p c, v = .slice p n c ∧ RowAt n cs v w := by
  rcases h.2 with ⟨h1, h2⟩ | ⟨g, cap, cur, rfl, h2, h3, h4, h5, h6, h7⟩
  · subst h2; exact ⟨none, 0, h1, none, 0, h1, fun hn => by omega⟩
  · refine ⟨_, _, rfl, _, _, rfl, fun _ => ⟨g, 0, rfl, (Array.getElem?_eq_some_iff.1 h3).1, fun j u hj => ?_⟩⟩
    have hj1 := (List.getElem?_eq_some_iff.1 hj).1
    rw [← h7, List.getElem?_take] at hj
    simp only [World.cell?, h3, Nat.zero_add]
    split at hj
    · simpa using hj
    · cases hj
theorem RowAt.news {n : Nat} {cs : List Value} {a : Addr} {c k : Nat} {w w' : World} (h : RowAt n cs (.slice (some a) n c) w) (hl : cs.length = n * k) (hb : Below w.heap.size w w') : ∀ j u, cs[j]? = some u → w'.cell? (a.add j) = some u := by
  intro j u hj
  obtain ⟨p, c', hv, hc⟩ := h
  have hj1 := (List.getElem?_eq_some_iff.1 hj).1
  have hn : 0 < n := by
    rcases Nat.eq_zero_or_pos n with h | h
    · subst h; omega
    · exact h
  obtain ⟨g, o, hp, hg, hx⟩ := hc hn
  simp only [Value.slice.injEq] at hv
  obtain ⟨rfl, _, rfl⟩ := hv
  simp only [Option.some.injEq] at hp
  subst hp
  rw [Go.WideShapes.add_plain, hb.cell (p := ⟨g, o + j, none⟩) hg]
  exact hx j u hj
theorem info_cloneI : (Tryz.prog.info? 46).map (fun i => (i.zero, i.size, i.bytes)) = some (some (.agg #[.int .i64 0, .string .empty, .string .empty, .string .empty]), 4, 56) := by kernel_rfl
set_option maxHeartbeats 2000000 in
set_option maxRecDepth 100000 in
theorem cloneI (l : List Itm) (v : Value) (w : World) (hl : l.length ≤ 1000) (hv : RowAt l.length (iC l) v w) :
    Calls Tryz.prog 56 #[v] w fun e w' => ∃ p c, e = .returned (.slice p l.length c) ∧ RowAt l.length (iC l) (.slice p l.length c) w' ∧ Below w.heap.size w w' ∧ ∀ g o, p = some ⟨g, o, none⟩ → w.heap.size ≤ g := by
  obtain ⟨i0, hi, hz0, hz1, hz2⟩ := info_parts info_cloneI
  have hv' := hv
  obtain ⟨p, c, rfl, hc⟩ := hv
  have q : ∀ (w : World) (a : Option Addr) (n c n' c' : Nat), (binOp .eql 23 (.slice a n c) (.slice none n' c')).run Tryz.prog w = .ok (.bool a.isNone) w := fun w a n c n' c' => Lib.run_eql_slice_nil w _ _ a n c n' c' Tryz.underlying23
  cases p with
  | none =>
    have h0 : l.length = 0 := by
      rcases Nat.eq_zero_or_pos l.length with h | h
      · exact h
      · obtain ⟨g, o, h, _⟩ := hc h; cases h
    obtain rfl := List.eq_nil_of_length_eq_zero h0
    clear hc h0 hv'
    go_enter Tryz.func56, Tryz.ntmps56
    go_wp2
    go_ret
    exact ⟨none, 0, rfl, ⟨none, 0, rfl, fun h => by cases h⟩, Below.refl _ _, fun g o h => by cases h⟩
  | some a =>
    have hn := hv'.news (iC_length l) ((Below.refl w.heap.size w).alloc (Nat.le_refl _) (.cells #[] 46))
    have HN := Lib.hid hn
    have hll := iC_length l
    have HL := Lib.hid hll
    have hone := iC_one l
    have HO := Lib.hid hone
    clear hc hv' hn hll hone
    go_enter Tryz.func56, Tryz.ntmps56
    go_wp2_with (at_builtin; refine wpList_append_own _ rfl _ _ 23 rfl w.heap.size 46 i0 _ 4 56 Tryz.underlying23 hi hz0 hz1 hz2 rfl (by decide) _ _ _ rfl (World.ownsRow_made w #[] 0 (Nat.le_refl _) (Nat.zero_le _) rfl) a l.length c (iC l) rfl HL.out HN.out HO.out ?qc4 ?qc5 ?qc6 ?_)
    case qc4 => unfold maxLen; omega
    case qc5 => omega
    case qc6 => simp
    intro v' w1 hown hgrow hnil
    go_wp2
    go_ret
    have hown' : w1.ownsRow w.heap.size 46 4 v' l.length (iC l) := by simpa using hown
    obtain ⟨p, c', rfl, hr⟩ := RowAt.of_own hown' HL.out
    exact ⟨p, c', rfl, hr, ((Below.refl _ w).alloc (Nat.le_refl _) _).grown hgrow (by simp) (by intro k hk; simp [Value.ownBlock] at hk; omega), fun g o h => (hown'.lt g (by subst h; rfl)).1⟩
theorem info_cloneQ : (Tryz.prog.info? 9).map (fun i => (i.zero, i.size, i.bytes)) = some (some (.string .empty), 1, 16) := by kernel_rfl
set_option maxHeartbeats 2000000 in
set_option maxRecDepth 100000 in
theorem cloneQ (l : List ByteArray) (v : Value) (w : World) (hl : l.length ≤ 1000) (hv : RowAt l.length (qC l) v w) :
    Calls Tryz.prog 57 #[v] w fun e w' => ∃ p c, e = .returned (.slice p l.length c) ∧ RowAt l.length (qC l) (.slice p l.length c) w' ∧ Below w.heap.size w w' ∧ ∀ g o, p = some ⟨g, o, none⟩ → w.heap.size ≤ g := by
  obtain ⟨i0, hi, hz0, hz1, hz2⟩ := info_parts info_cloneQ
  have hv' := hv
  obtain ⟨p, c, rfl, hc⟩ := hv
  have q : ∀ (w : World) (a : Option Addr) (n c n' c' : Nat), (binOp .eql 24 (.slice a n c) (.slice none n' c')).run Tryz.prog w = .ok (.bool a.isNone) w := fun w a n c n' c' => Lib.run_eql_slice_nil w _ _ a n c n' c' Tryz.underlying24
  cases p with
  | none =>
    have h0 : l.length = 0 := by
      rcases Nat.eq_zero_or_pos l.length with h | h
      · exact h
      · obtain ⟨g, o, h, _⟩ := hc h; cases h
    obtain rfl := List.eq_nil_of_length_eq_zero h0
    clear hc h0 hv'
    go_enter Tryz.func57, Tryz.ntmps57
    go_wp2
    go_ret
    exact ⟨none, 0, rfl, ⟨none, 0, rfl, fun h => by cases h⟩, Below.refl _ _, fun g o h => by cases h⟩
  | some a =>
    have hn := hv'.news (qC_length l) ((Below.refl w.heap.size w).alloc (Nat.le_refl _) (.cells #[] 9))
    have HN := Lib.hid hn
    have hll := qC_length l
    have HL := Lib.hid hll
    have hone := qC_one l
    have HO := Lib.hid hone
    clear hc hv' hn hll hone
    go_enter Tryz.func57, Tryz.ntmps57
    go_wp2_with (at_builtin; refine wpList_append_own _ rfl _ _ 24 rfl w.heap.size 9 i0 _ 1 16 Tryz.underlying24 hi hz0 hz1 hz2 rfl (by decide) _ _ _ rfl (World.ownsRow_made w #[] 0 (Nat.le_refl _) (Nat.zero_le _) rfl) a l.length c (qC l) rfl HL.out HN.out HO.out ?qc4 ?qc5 ?qc6 ?_)
    case qc4 => unfold maxLen; omega
    case qc5 => omega
    case qc6 => simp
    intro v' w1 hown hgrow hnil
    go_wp2
    go_ret
    have hown' : w1.ownsRow w.heap.size 9 1 v' l.length (qC l) := by simpa using hown
    obtain ⟨p, c', rfl, hr⟩ := RowAt.of_own hown' HL.out
    exact ⟨p, c', rfl, hr, ((Below.refl _ w).alloc (Nat.le_refl _) _).grown hgrow (by simp) (by intro k hk; simp [Value.ownBlock] at hk; omega), fun g o h => (hown'.lt g (by subst h; rfl)).1⟩
theorem info_cloneP : (Tryz.prog.info? 68).map (fun i => (i.zero, i.size, i.bytes)) = some (some (.agg #[.string .empty, .int .i64 0, .bool false, .bool false]), 4, 32) := by kernel_rfl
set_option maxHeartbeats 2000000 in
set_option maxRecDepth 100000 in
theorem cloneP (l : List Pr) (v : Value) (w : World) (hl : l.length ≤ 1000) (hv : RowAt l.length (pC l) v w) :
    Calls Tryz.prog 58 #[v] w fun e w' => ∃ p c, e = .returned (.slice p l.length c) ∧ RowAt l.length (pC l) (.slice p l.length c) w' ∧ Below w.heap.size w w' ∧ ∀ g o, p = some ⟨g, o, none⟩ → w.heap.size ≤ g := by
  obtain ⟨i0, hi, hz0, hz1, hz2⟩ := info_parts info_cloneP
  have hv' := hv
  obtain ⟨p, c, rfl, hc⟩ := hv
  have q : ∀ (w : World) (a : Option Addr) (n c n' c' : Nat), (binOp .eql 25 (.slice a n c) (.slice none n' c')).run Tryz.prog w = .ok (.bool a.isNone) w := fun w a n c n' c' => Lib.run_eql_slice_nil w _ _ a n c n' c' Tryz.underlying25
  cases p with
  | none =>
    have h0 : l.length = 0 := by
      rcases Nat.eq_zero_or_pos l.length with h | h
      · exact h
      · obtain ⟨g, o, h, _⟩ := hc h; cases h
    obtain rfl := List.eq_nil_of_length_eq_zero h0
    clear hc h0 hv'
    go_enter Tryz.func58, Tryz.ntmps58
    go_wp2
    go_ret
    exact ⟨none, 0, rfl, ⟨none, 0, rfl, fun h => by cases h⟩, Below.refl _ _, fun g o h => by cases h⟩
  | some a =>
    have hn := hv'.news (pC_length l) ((Below.refl w.heap.size w).alloc (Nat.le_refl _) (.cells #[] 68))
    have HN := Lib.hid hn
    have hll := pC_length l
    have HL := Lib.hid hll
    have hone := pC_one l
    have HO := Lib.hid hone
    clear hc hv' hn hll hone
    go_enter Tryz.func58, Tryz.ntmps58
    go_wp2_with (at_builtin; refine wpList_append_own _ rfl _ _ 25 rfl w.heap.size 68 i0 _ 4 32 Tryz.underlying25 hi hz0 hz1 hz2 rfl (by decide) _ _ _ rfl (World.ownsRow_made w #[] 0 (Nat.le_refl _) (Nat.zero_le _) rfl) a l.length c (pC l) rfl HL.out HN.out HO.out ?qc4 ?qc5 ?qc6 ?_)
    case qc4 => unfold maxLen; omega
    case qc5 => omega
    case qc6 => simp
    intro v' w1 hown hgrow hnil
    go_wp2
    go_ret
    have hown' : w1.ownsRow w.heap.size 68 4 v' l.length (pC l) := by simpa using hown
    obtain ⟨p, c', rfl, hr⟩ := RowAt.of_own hown' HL.out
    exact ⟨p, c', rfl, hr, ((Below.refl _ w).alloc (Nat.le_refl _) _).grown hgrow (by simp) (by intro k hk; simp [Value.ownBlock] at hk; omega), fun g o h => (hown'.lt g (by subst h; rfl)).1⟩
end Go.Proofs.YtkpoeilfnopgbaaGreatDoor.Sty
