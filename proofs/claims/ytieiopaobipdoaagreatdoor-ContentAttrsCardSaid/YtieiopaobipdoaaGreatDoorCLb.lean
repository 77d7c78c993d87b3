/- dom.lower: a node with small letters, each attribute once. -/
import Derived.Test.YtieiopaobipdoaaGreatDoorCLa
import Derived.RangeFuncRecord
namespace Go.Proofs.YtieiopaobipdoaaGreatDoor.Dom
open Go Go.RowKit Num
def lowS (s : ByteArray) : ByteArray := ⟨(lowL s.data.toList).toArray⟩
def ddS (acc : List (ByteArray × ByteArray)) (x : ByteArray × ByteArray) : List (ByteArray × ByteArray) := if acc.any (fun y => y.1.toList == (lowS x.1).toList) then acc else acc ++ [(lowS x.1, x.2)]
def dd (l : List (ByteArray × ByteArray)) : List (ByteArray × ByteArray) := l.foldl ddS []
theorem dd_snoc (l : List (ByteArray × ByteArray)) (k : Nat) (x : ByteArray × ByteArray) (h : l[k]? = some x) : dd (l.take (k + 1)) = ddS (dd (l.take k)) x := by
  obtain ⟨h1, h2⟩ := List.getElem?_eq_some_iff.1 h
  unfold dd
  rw [List.take_succ_eq_append_getElem h1, h2, List.foldl_append]
  rfl
theorem ddS_len (acc : List (ByteArray × ByteArray)) (x : ByteArray × ByteArray) : (ddS acc x).length ≤ acc.length + 1 := by
  unfold ddS
  split
  · omega
  · simp
theorem dd_len (l : List (ByteArray × ByteArray)) : ∀ k, k ≤ l.length → (dd (l.take k)).length ≤ k
  | 0, _ => by simp [dd]
  | k + 1, h => by
    obtain ⟨x, hx⟩ : ∃ x, l[k]? = some x := ⟨_, List.getElem?_eq_getElem h⟩
    rw [dd_snoc l k x hx]
    have h1 := ddS_len (dd (l.take k)) x
    have h2 := dd_len l k (by omega)
    omega
theorem lower_call (s : ByteArray) (w : World) (hs : s.size ≤ 1000000) : Calls Tryz.prog 49 #[.string s] w fun e w' => e = .returned (.string (lowS s)) ∧ Below w.heap.size w w' := lower_any s w hs
theorem lowS_a : lowS ⟨#[97]⟩ = ⟨#[97]⟩ := by rfl
theorem two_new (w : World) (X Y : Obj) : ((w.alloc X).alloc Y).heap[w.heap.size]? = some X ∧ ((w.alloc X).alloc Y).heap[w.heap.size + 1]? = some Y ∧ ((w.alloc X).alloc Y).heap.size = w.heap.size + 2 ∧ Below w.heap.size w ((w.alloc X).alloc Y) := by
  refine ⟨?_, ?_, ?_, ((Below.refl _ w).alloc (Nat.le_refl _) X).alloc (by rw [World.size_alloc]; omega) Y⟩
  · exact (((Below.refl (w.heap.size + 1) (w.alloc X)).alloc (by rw [World.size_alloc]; omega) Y).block _ (by omega)).trans (World.alloc_heap_new w X)
  · have := World.alloc_heap_new (w.alloc X) Y
    rwa [World.size_alloc] at this
  · rw [World.size_alloc, World.size_alloc]
def LowI (l : List (ByteArray × ByteArray)) (tx : ByteArray) (w : World) (x16 : Value) (wr : World) : Prop :=
  ∃ (k : Nat) (v : Value), k ≤ l.length ∧ x16 = .int .i64 (k : Int) ∧ wr.heap[w.heap.size]? = some (.cells #[.int .i64 (-1), .string ⟨#[97]⟩, .string tx, v] 46 (0, 0)) ∧
    (∃ q, wr.heap[w.heap.size + 1]? = some (.cells q 46 (0, 0)) ∧ q.size = 4) ∧
    wr.ownsRow (w.heap.size + 2) 43 2 v (dd (l.take k)).length (aC (dd (l.take k))) ∧ Below w.heap.size w wr ∧ w.heap.size + 2 ≤ wr.heap.size
theorem infoAttr : (Tryz.prog.info? 43).map (fun i => (i.zero, i.size, i.bytes)) = some (some (.agg #[.string .empty, .string .empty]), 2, 32) := by kernel_rfl
theorem own_below {w w' : World} {B : Nat} {e : TypeId} {size : Nat} {v : Value} {n : Nat} {xs : List Value} (h : w.ownsRow B e size v n xs) (hb : Below w.heap.size w w') : w'.ownsRow B e size v n xs :=
  h.kept (row := none) ⟨hb.os, hb.tape, hb.output, hb.size, fun k hk _ => hb.block k hk⟩ (by cases v.ownBlock <;> simp)
theorem own_set {w : World} {B : Nat} {e : TypeId} {size : Nat} {v : Value} {n : Nat} {xs : List Value} (h : w.ownsRow B e size v n xs) (b i : Nat) (u : Value) (hb : b < B) : (w.setCell ⟨b, i, none⟩ u).ownsRow B e size v n xs :=
  h.kept (row := some b) ⟨rfl, rfl, rfl, by simp [World.setCell], fun k _ hk => Below.heap_setCell _ _ _ _ (fun e => hk (by simp [e]))⟩ (.inr fun e => by
    have := (h.lt b e).1
    omega)
theorem set_heap {w : World} {b : Nat} {cs : Array Value} {t : TypeId} {fr : Nat × Nat} (h : w.heap[b]? = some (.cells cs t fr)) (i : Nat) (u : Value) : (w.setCell ⟨b, i, none⟩ u).heap[b]? = some (.cells (cs.setIfInBounds i u) t fr) := by
  simp [World.setCell, Array.getElem?_modify, h]
theorem set_size (w : World) (a : Addr) (u : Value) : (w.setCell a u).heap.size = w.heap.size := by simp [World.setCell]
theorem news_at (l : List Value) (w : World) (T : TypeId) (j : Nat) (u : Value) (hj : l[j]? = some u) : (w.alloc (.cells l.toArray T)).cell? ((⟨w.heap.size, 0, none⟩ : Addr).add j) = some u := by
  have e : (⟨w.heap.size, 0, none⟩ : Addr).add j = ⟨w.heap.size, j, none⟩ := by
    unfold Addr.add
    split
    · rename_i h; subst h; rfl
    · simp
  rw [e, World.cell?_alloc_new]
  simp [hj]
set_option maxHeartbeats 2000000 in
set_option maxRecDepth 100000 in
theorem lower_c (l : List (ByteArray × ByteArray)) (tx : ByteArray) (v : Value) (w : World) (hl : l.length ≤ 100) (hn : ∀ x ∈ l, x.1.size ≤ 100) (hv : AtA l v w) :
    Calls Tryz.prog 24 #[.agg #[.int .i64 (-1), .string ⟨#[97]⟩, .string tx, v]] w fun e w' => ∃ v', e = .returned (.agg #[.int .i64 (-1), .string ⟨#[97]⟩, .string tx, v']) ∧ AtA (dd l) v' w' ∧ Below w.heap.size w w' := by
  obtain ⟨i0, hi, hz0, hz1, hz2⟩ := info_parts infoAttr
  have hq := fun w => lower_call ⟨#[97]⟩ w (by decide)
  simp only [lowS_a] at hq
  obtain ⟨lv, hvl⟩ : ∃ p c, v = .slice p l.length c := by
    rcases hv with ⟨rfl, rfl⟩ | ⟨g, o, c, rfl, _⟩
    · exact ⟨_, _, rfl⟩
    · exact ⟨_, _, rfl⟩
  obtain ⟨c, rfl⟩ := hvl
  go_enter Tryz.func24, Tryz.ntmps24
  go_wp2_with (go_at_call 49; refine (hq _).mono ?_)
  rintro e w1 ⟨rfl, hb1⟩
  obtain ⟨t1, t2, t3, t4⟩ := two_new w (.cells #[.int .i64 (-1), .string ⟨#[97]⟩, .string tx, .slice lv l.length c] 46) (.cells #[.int .i64 0, .string ⟨#[]⟩, .string ⟨#[]⟩, .slice none 0 0] 46)
  have hA := (hb1.block w.heap.size (by omega)).trans t1
  have hB := (hb1.block (w.heap.size + 1) (by omega)).trans t2
  have hz1 : w.heap.size + 2 ≤ w1.heap.size := by have := hb1.size; omega
  have hlow : Below w.heap.size w w1 := t4.trans (hb1.mono (by omega))
  have HT := Lib.hid t4
  clear t1 t2 t3 t4 hb1
  have c1 : w1.cell? ⟨w.heap.size, 1, none⟩ = some (.string ⟨#[97]⟩) := by rw [Lib.cell_of_heap hA]; rfl
  have c3 : w1.cell? ⟨w.heap.size, 3, none⟩ = some (.slice lv l.length c) := by rw [Lib.cell_of_heap hA]; rfl
  have f1 : w1.frozen? ⟨w.heap.size, 1, none⟩ = false := Lib.frozen_of_heap hA 1
  have f3 : w1.frozen? ⟨w.heap.size, 3, none⟩ = false := Lib.frozen_of_heap hA 3
  have HA := Lib.hid hA
  have HB := Lib.hid hB
  have HZ := Lib.hid hz1
  clear hA hB hz1
  go_wp2
  go_loopw [16] (fun x16 wr => LowI l tx w x16 wr) (fun x16 _ => l.length - (intOf x16).toNat)
  case atStart =>
    refine ⟨0, .slice none 0 0, Nat.zero_le _, rfl, set_heap (set_heap HA.out 1 _) 3 _, ⟨#[.int .i64 0, .string ⟨#[]⟩, .string ⟨#[]⟩, .slice none 0 0], ?_, rfl⟩, World.ownsRow_nil _ _ _ _, (hlow.setCell (Nat.le_refl _) _).setCell (Nat.le_refl _) _, by rw [set_size, set_size]; exact HZ.out⟩
    rw [Below.heap_setCell _ _ _ _ (by show _ ≠ w.heap.size; omega), Below.heap_setCell _ _ _ _ (by show _ ≠ w.heap.size; omega)]
    exact HB.out
  case round =>
    obtain ⟨k, v, hk, rfl, hA, ⟨q, hB, hqz⟩, hown, BW, hz⟩ := hrel
    clear HA HB HZ HT c1 c3 f1 f3 hlow hq
    by_cases hlt : k < l.length
    · obtain ⟨x, hx⟩ : ∃ x, l[k]? = some x := ⟨_, List.getElem?_eq_getElem hlt⟩
      obtain ⟨g, o, c', hvv, hg, hc⟩ : ∃ g o c', Value.slice lv l.length c = .slice (some ⟨g, o, none⟩) l.length c' ∧ g < w.heap.size ∧ (∀ (j : Nat) x, l[j]? = some x → w.cell? ⟨g, o + j * 2, none⟩ = some (.string x.1) ∧ w.cell? ⟨g, o + j * 2 + 1, none⟩ = some (.string x.2)) := by
        rcases hv with ⟨h1, _⟩ | ⟨g, o, c', h1, h2, h3⟩
        · subst h1; simp at hlt
        · exact ⟨g, o, c', h1, h2, h3⟩
      simp only [Value.slice.injEq, true_and] at hvv
      obtain ⟨rfl, rfl⟩ := hvv
      have hc1 := (BW.cell (p := ⟨g, o + k * 2, none⟩) hg).trans (hc k x hx).1
      have hc2 := (BW.cell (p := ⟨g, o + k * 2 + 1, none⟩) hg).trans (hc k x hx).2
      have hxs := hn x (List.mem_of_getElem? hx)
      have hdd := dd_snoc l k x hx
      have hdl := dd_len l k hk
      obtain ⟨D, hD⟩ : ∃ D, dd (l.take k) = D := ⟨_, rfl⟩
      rw [hD] at hdd hdl hown
      have HDD := Lib.hid hdd
      have HA := Lib.hid hA
      have HB := Lib.hid hB
      have HBW := Lib.hid BW
      have HOWN := Lib.hid hown
      obtain ⟨x1, x2⟩ := x
      have hq := fun w => lower_call x1 w (by simpa using Nat.le_trans hxs (by decide))
      clear hc hx hdd hD hA hB BW hown hv hn hxs
      go_wp2_with (go_at_call 49; refine (hq _).mono ?_)
      rintro e w2 rfl hb2
      have h5 := (hb2.block wr.heap.size (by omega)).trans (World.alloc_heap_new wr (.cells #[.string x1, .string x2] 43))
      have B2 : Below wr.heap.size wr w2 := ((Below.refl _ wr).alloc (Nat.le_refl _) _).trans (hb2.mono (by omega))
      have BY : Below wr.heap.size wr (w2.setCell ⟨wr.heap.size, 0, none⟩ (.string (lowS x1))) := B2.setCell (Nat.le_refl _) _
      have hY5 := set_heap h5 0 (.string (lowS x1))
      have c5 : w2.cell? ⟨wr.heap.size, 0, none⟩ = some (.string x1) := by rw [Lib.cell_of_heap h5]; rfl
      have f5 : w2.frozen? ⟨wr.heap.size, 0, none⟩ = false := Lib.frozen_of_heap h5 0
      have hA2 := (BY.block w.heap.size (by omega)).trans HA.out
      have c3 : (w2.setCell ⟨wr.heap.size, 0, none⟩ (.string (lowS x1))).cell? ⟨w.heap.size, 3, none⟩ = some v := by rw [Lib.cell_of_heap hA2]; rfl
      have c3' : w2.cell? ⟨w.heap.size, 3, none⟩ = some v := by rw [Lib.cell_of_heap ((B2.block w.heap.size (by omega)).trans HA.out)]; rfl
      have hcf := contains_c D v wr.heap.size (lowS x1) (w2.setCell ⟨wr.heap.size, 0, none⟩ (.string (lowS x1))) (by rw [Lib.cell_of_heap hY5]; rfl) (by omega) (AtA.of_own (own_below HOWN.out BY))
      have HY5 := Lib.hid hY5
      have HBY := Lib.hid BY
      have HB2 := Lib.hid B2
      have HA2 := Lib.hid hA2
      have hl2 : wr.heap.size < w2.heap.size := by have := hb2.size; simp only [World.size_alloc] at this; omega
      clear h5 B2 BY hY5 hA2 hb2 hq
      have hYz : (w2.setCell ⟨wr.heap.size, 0, none⟩ (.string (lowS x1))).heap.size = w2.heap.size := set_size _ _ _
      go_wp2_with (go_at_call 50; refine hcf.mono ?_)
      rintro e w3 ⟨rfl, hb3⟩
      rw [hYz] at hb3
      have BY3 : Below wr.heap.size wr w3 := HBY.out.trans (hb3.mono (by omega))
      have h53 := (hb3.block wr.heap.size hl2).trans HY5.out
      have hA3 := (BY3.block w.heap.size (by omega)).trans HA.out
      have hB3 := (BY3.block (w.heap.size + 1) (by omega)).trans HB.out
      have a0 : w3.cell? ⟨wr.heap.size, 0, none⟩ = some (.string (lowS x1)) := by rw [Lib.cell_of_heap h53]; rfl
      have a1 : w3.cell? ⟨wr.heap.size, 1, none⟩ = some (.string x2) := by rw [Lib.cell_of_heap h53]; rfl
      have b1 : w3.cell? ⟨w.heap.size, 1, none⟩ = some (.string ⟨#[97]⟩) := by rw [Lib.cell_of_heap hA3]; rfl
      have b3 : w3.cell? ⟨w.heap.size, 3, none⟩ = some v := by rw [Lib.cell_of_heap hA3]; rfl
      have g3 : w3.frozen? ⟨w.heap.size, 3, none⟩ = false := Lib.frozen_of_heap hA3 3
      have hown3 := own_below HOWN.out BY3
      have hz3 : wr.heap.size ≤ w3.heap.size := BY3.size
      have HA3 := Lib.hid hA3
      have HB3 := Lib.hid hB3
      have HBW3 := Lib.hid (HBW.out.trans (BY3.mono (by have := HBW.out.size; omega)))
      have HD2 := HDD.out
      unfold ddS at HD2
      clear hb3 BY3 h53 hA3 hB3 HY5 HBY HB2 HA2 c5 f5 c3 c3' hYz hc1 hc2 hcf
      by_cases hany : (D.any fun x => x.1.toList == (lowS x1).toList) = true
      · rw [if_pos hany] at HD2
        rw [hany]
        have HD3 := Lib.hid HD2
        have HO3 := Lib.hid hown3
        clear HD2 hown3
        go_wp2
        go_roundw
        case rel => exact ⟨k + 1, v, by omega, by go_num, HA3.out, ⟨q, HB3.out, hqz⟩, by rw [HD3.out]; exact HO3.out, HBW3.out, by omega⟩
        case measure => simp [intOf]; omega
      · rw [if_neg hany] at HD2
        have hany : (D.any fun x => x.1.toList == (lowS x1).toList) = false := by simpa using hany
        rw [hany]
        have HD3 := Lib.hid HD2
        have HO3 := Lib.hid hown3
        clear HD2 hown3
        go_wp2_with (at_builtin; go_loud (refine Cnt.append_two rfl _ _ 44 rfl (w.heap.size + 2) 43 i0 _ 2 32 Tryz.underlying44 hi hz0 hz1 hz2 rfl (by decide) _ D.length (aC D) rfl (HO3.out.alloc _) ⟨w3.heap.size, 0, none⟩ 1 1 [.string (lowS x1), .string x2] rfl rfl ?c1 ?c2 ?c3 ?c4 ?c5 (by decide) ?_))
        case c1 =>
          intro j u hj
          exact news_at _ w3 43 j u hj
        case c2 => intro u hu; simp at hu; rcases hu with rfl | rfl <;> rfl
        case c3 => unfold maxLen; omega
        case c4 => omega
        case c5 => rw [World.size_alloc]; omega
        intro v' w5 hown5 hg5 hf5
        have hne : v.ownBlock ≠ some w.heap.size := fun e => by have := (HO3.out.lt _ e).1; omega
        have hne1 : v.ownBlock ≠ some (w.heap.size + 1) := fun e => by have := (HO3.out.lt _ e).1; omega
        obtain ⟨ao, n', cap, rfl⟩ : ∃ ao n' cap, v' = .slice ao n' cap := by
          rcases hown5.2 with ⟨hv, _⟩ | ⟨g, cap, cur, hv, _⟩
          · exact ⟨_, _, _, hv⟩
          · exact ⟨_, _, _, hv⟩
        have hs5 : w3.heap.size + 1 ≤ w5.heap.size := by have := hg5.size; simpa only [World.size_alloc] using this
        have hal : Below w3.heap.size w3 (w3.alloc (.cells #[.string (lowS x1), .string x2] 43)) := (Below.refl _ w3).alloc (Nat.le_refl _) _
        have hA5 := (hg5.block w.heap.size (by rw [World.size_alloc]; omega) (fun e => hne e.symm)).trans ((hal.block w.heap.size (by omega)).trans HA3.out)
        have hB5 := (hg5.block (w.heap.size + 1) (by rw [World.size_alloc]; omega) (fun e => hne1 e.symm)).trans ((hal.block (w.heap.size + 1) (by omega)).trans HB3.out)
        have BW5 : Below w.heap.size w w5 := HBW3.out.trans ⟨hg5.os, hg5.tape, hg5.output, by omega, fun j hj => (hg5.block j (by rw [World.size_alloc]; omega) (fun e => by have := (HO3.out.lt _ e.symm).1; omega)).trans (hal.block j (by omega))⟩
        have hownF : w5.ownsRow (w.heap.size + 2) 43 2 (.slice ao n' cap) (dd (l.take (k + 1))).length (aC (dd (l.take (k + 1)))) := by
          rw [HD3.out, List.length_append, aC_append]
          exact hown5
        have e3 : w5.cell? ⟨w.heap.size, 3, none⟩ = some v := by rw [Lib.cell_of_heap hA5]; rfl
        have e4 : w5.frozen? ⟨w.heap.size, 3, none⟩ = false := Lib.frozen_of_heap hA5 3
        have HF := Lib.hid hownF
        have HA5 := Lib.hid hA5
        have HB5 := Lib.hid hB5
        have HW5 := Lib.hid BW5
        clear hownF hA5 hB5 BW5 hal hg5 hf5 hown5 b1 b3 g3 a0 a1
        go_wp2
        go_roundw
        case rel => exact ⟨k + 1, .slice ao n' cap, by omega, by go_num, set_heap HA5.out 3 _, ⟨q, (Below.heap_setCell _ _ _ _ (by show _ ≠ w.heap.size; omega)).trans HB5.out, hqz⟩, own_set HF.out _ _ _ (by omega), HW5.out.setCell (Nat.le_refl _) _, by rw [set_size]; omega⟩
        case measure => simp [intOf]; omega
    · obtain rfl : k = l.length := by omega
      rw [List.take_length] at hown
      obtain ⟨ao, n', cap, rfl⟩ : ∃ ao n' cap, v = .slice ao n' cap := by
        rcases hown.2 with ⟨hv, _⟩ | ⟨g, cap, cur, hv, _⟩
        · exact ⟨_, _, _, hv⟩
        · exact ⟨_, _, _, hv⟩
      obtain ⟨q0, q1, q2, q3, rfl⟩ : ∃ q0 q1 q2 q3, q = #[q0, q1, q2, q3] := by
        obtain ⟨ql⟩ := q
        match ql, hqz with
        | [q0, q1, q2, q3], _ => exact ⟨q0, q1, q2, q3, rfl⟩
      have b0 : wr.cell? ⟨w.heap.size, 0, none⟩ = some (.int .i64 (-1)) := by rw [Lib.cell_of_heap hA]; rfl
      have b1 : wr.cell? ⟨w.heap.size, 1, none⟩ = some (.string ⟨#[97]⟩) := by rw [Lib.cell_of_heap hA]; rfl
      have b2 : wr.cell? ⟨w.heap.size, 2, none⟩ = some (.string tx) := by rw [Lib.cell_of_heap hA]; rfl
      have b3 : wr.cell? ⟨w.heap.size, 3, none⟩ = some (.slice ao n' cap) := by rw [Lib.cell_of_heap hA]; rfl
      have d0 : wr.cell? ⟨w.heap.size + 1, 0, none⟩ = some q0 := by rw [Lib.cell_of_heap hB]; rfl
      have d1 : wr.cell? ⟨w.heap.size + 1, 1, none⟩ = some q1 := by rw [Lib.cell_of_heap hB]; rfl
      have d2 : wr.cell? ⟨w.heap.size + 1, 2, none⟩ = some q2 := by rw [Lib.cell_of_heap hB]; rfl
      have d3 : wr.cell? ⟨w.heap.size + 1, 3, none⟩ = some q3 := by rw [Lib.cell_of_heap hB]; rfl
      have f0 : wr.frozen? ⟨w.heap.size + 1, 0, none⟩ = false := Lib.frozen_of_heap hB 0
      have f1 : wr.frozen? ⟨w.heap.size + 1, 1, none⟩ = false := Lib.frozen_of_heap hB 1
      have f2 : wr.frozen? ⟨w.heap.size + 1, 2, none⟩ = false := Lib.frozen_of_heap hB 2
      have f3 : wr.frozen? ⟨w.heap.size + 1, 3, none⟩ = false := Lib.frozen_of_heap hB 3
      have HO := Lib.hid hown
      have HW := Lib.hid BW
      have HB := Lib.hid hB
      clear hown BW hA hB hv hn
      go_wp2
      (try simp only [Exit.inBlock, Exit.then])
      refine bodyPost_ret (results_cell_row (g := w.heap.size + 1) (t := 46) (cs := #[.int .i64 (-1), .string ⟨#[97]⟩, .string tx, .slice ao n' cap]) (fr := (0, 0)) rfl _ _ _ rfl (set_heap (set_heap (set_heap (set_heap HB.out 0 _) 1 _) 2 _) 3 _) Tryz.underlying46 rfl (by kernel_rfl)) rfl ?_
      refine ⟨_, rfl, AtA.of_own (own_set (own_set (own_set (own_set HO.out _ _ _ (by omega)) _ _ _ (by omega)) _ _ _ (by omega)) _ _ _ (by omega)), (((HW.out.setCell (by show _ ≤ w.heap.size + 1; omega) _).setCell (by show _ ≤ w.heap.size + 1; omega) _).setCell (by show _ ≤ w.heap.size + 1; omega) _).setCell (by show _ ≤ w.heap.size + 1; omega) _⟩
end Go.Proofs.YtieiopaobipdoaaGreatDoor.Dom
