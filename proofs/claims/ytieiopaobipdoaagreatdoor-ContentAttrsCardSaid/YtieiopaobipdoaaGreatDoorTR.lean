/- fleuronref1.Read of a letter and a sign; fleuronref1.Put. -/
import Derived.Test.YtieiopaobipdoaaGreatDoorProg
import Derived.WalkKit
import Derived.ProofKit
import Derived.OpenShut
import Derived.LoopTactic
import Derived.Lib.Hide
import Derived.Lib.OthersKept
import Derived.Laws.IdiomStrings
import Derived.Laws.Cover4
import Derived.Laws.AppendOwn
import Derived.OwnWalk
namespace Go.Proofs.YtieiopaobipdoaaGreatDoor.Cut
open Go Go.RowKit
theorem info32 : (Tryz.prog.info? 21).map (fun i => (i.zero, i.size, i.bytes)) = some (some (.int .i32 0), 1, 4) := by kernel_rfl
def rd (r : Int) (j : Nat) : List Value := ([.int .i32 97, .int .i32 r] : List Value).take j
def ps (n j : Nat) : Nat := match j with | 0 => 0 | 1 => 1 | _ => n
def ReadI (S : ByteArray) (r : Int) (w : World) (s3 s4 s5 : Value) (W : World) : Prop :=
  ∃ j : Nat, j ≤ 2 ∧ W.heap[w.heap.size]? = some (.stringIter S (ps S.size j)) ∧ s4 = .bool (decide (j = 0)) ∧ s5 = .bool false ∧ W.ownsRow (w.heap.size + 1) 21 1 s3 j (rd r j) ∧ Below w.heap.size w W ∧ w.heap.size + 1 ≤ W.heap.size
theorem own_iter {wr : World} {k e : Nat} {v : Value} {n : Nat} {xs : List Value} (h : wr.ownsRow (k + 1) e 1 v n xs) (S : ByteArray) (p : Nat) : (wr.iterAt k S p).ownsRow (k + 1) e 1 v n xs := by
  rcases h.2 with h2 | ⟨g, cap', cur, h1, h2, h3, h4⟩
  · exact ⟨h.1, .inl h2⟩
  · exact ⟨h.1, .inr ⟨g, cap', cur, h1, h2, (Lib.iterAt_other _ _ _ _ _ (by omega)).trans h3, h4⟩⟩
theorem own_ne {w : World} {k e : Nat} {v : Value} {n : Nat} {xs : List Value} (h : w.ownsRow (k + 1) e 1 v n xs) : some k ≠ v.ownBlock := by
  intro hk
  have := (h.lt k hk.symm).1
  omega
theorem heap_lt_alloc (w : World) (o : Obj) {k : Nat} {x : Obj} (hlt : k < w.heap.size) (h : w.heap[k]? = some x) : (w.alloc o).heap[k]? = some x := (Lib.alloc_old w o k hlt).trans h
theorem own_two {w : World} {B e : Nat} {v : Value} {r : Int} (h : w.ownsRow B e 1 v 2 (rd r 2)) : ∃ g c, v = Value.slice (some ⟨g, 0, none⟩) 2 c ∧ w.cell? ⟨g, 1, none⟩ = some (.int .i32 r) := by
  rcases h.2 with ⟨_, h2⟩ | ⟨g, cap', cur, h1, h2, h3, h4⟩
  · exact absurd h2 (by decide)
  · refine ⟨g, cap', h1, ?_⟩
    subst h1
    exact h.cells (g := g) rfl 1 (.int .i32 r) (by simp [rd])
def Two (r : Int) (w : World) (e : Ending) (w' : World) : Prop := ∃ b c, e = .returned (.slice (some ⟨b, 0, none⟩) 2 c) ∧ w'.cell? ⟨b, 1, none⟩ = some (.int .i32 r) ∧ Below w.heap.size w w'
set_option maxHeartbeats 2000000 in
set_option maxRecDepth 100000 in
theorem read_two (bs : List UInt8) (ad : Addr) (cap : Nat) (r : Nat) (w : World) (hc : ∀ j (hj : j < bs.length), w.cell? (ad.add j) = some (.int .u8 (bs[j].toNat : Int))) (hs : 2 ≤ bs.length) (hs2 : bs.length ≤ 10)
    (d0 : Hid (Utf8.decode ⟨bs.toArray⟩ 0 = (97, 1))) (d1 : Hid (Utf8.decode ⟨bs.toArray⟩ 1 = (r, bs.length - 1))) (hr : 128 ≤ r) (hr2 : r ≤ 2147483647) :
    Calls Tryz.prog 9 #[.slice (some ad) bs.length cap] w (Two r w) := by
  have hcv : ∀ W : World, (∀ j (hj : j < bs.length), W.cell? (ad.add j) = some (.int .u8 (bs[j].toNat : Int))) → _ := fun W hW => run_convert_bytes_back W 26 9 5 ad cap bs Tryz.underlying26 Tryz.underlying5 Tryz.underlying9 hW
  have hcw := hcv w hc
  clear hcv
  have HC := Lib.hid hc
  clear hc
  obtain ⟨S, hS⟩ : ∃ S : ByteArray, (⟨bs.toArray⟩ : ByteArray) = S := ⟨_, rfl⟩
  have hz : S.size = bs.length := by rw [← hS]; show (List.toArray _).size = _; rw [List.size_toArray]
  rw [hS] at d0 d1 hcw
  have HZ := Lib.hid hz
  clear hS hz
  obtain ⟨n, hn⟩ : ∃ n, bs.length = n := ⟨_, rfl⟩
  rw [hn] at d1 hcw HZ hs hs2 ⊢
  clear hn HC
  obtain ⟨i0, hi, hz0, hz1, hz2⟩ := info_parts info32
  go_enter Tryz.func9, Tryz.ntmps9
  go_wp2
  go_loopw [3, 4, 5] (fun x3 x4 x5 W' => ReadI S r w x3 x4 x5 W') (fun _ _ _ W' => S.size - W'.iterPos w.heap.size)
  case atStart => exact ⟨0, by omega, World.iter_heap w S 0, rfl, rfl, World.ownsRow_nil _ _ _ _, (Below.refl _ w).alloc (Nat.le_refl _) _, by show _ ≤ (w.heap.push _).size; simp⟩
  case round =>
    obtain ⟨j, hj, hit, rfl, rfl, hown, hbw, hsz⟩ := hrel
    have hj3 : j = 0 ∨ j = 1 ∨ j = 2 := by omega
    have hSz := HZ.out
    rcases hj3 with rfl | rfl | rfl
    · have hp : 0 < S.size := by omega
      clear hSz
      have hnx : ∀ ty, (Instr.next (.pointer (some ⟨w.heap.size, 0, none⟩)) true ty).run Tryz.prog wr = _ := fun ty => Lib.run_next_any_at wr w.heap.size S 0 ty hit hp
      rw [d0.out] at hnx
      dsimp only at hnx
      have hit2 := Lib.iterAt_heap wr w.heap.size S 0 (0 + 1) hit
      have hbw2 := Lib.below_iterAt hbw (k := w.heap.size) (Nat.le_refl _) S (0 + 1)
      have hsz2 : w.heap.size + 1 ≤ (wr.iterAt w.heap.size S (0 + 1)).heap.size := by rw [Lib.iterAt_size]; omega
      have hown2 := own_iter hown S (0 + 1)
      obtain ⟨W2, hW2⟩ : ∃ W2, wr.iterAt w.heap.size S (0 + 1) = W2 := ⟨_, rfl⟩
      rw [hW2] at hnx hit2 hbw2 hown2 hsz2
      clear hW2 hown hbw
      go_wp2_with (at_builtin; refine wpList_append_own _ rfl _ _ 24 rfl (w.heap.size + 1) 21 i0 (.int .i32 0) 1 4 Tryz.underlying24 hi hz0 hz1 hz2 rfl (by decide) _ _ _ rfl (hown2.alloc _) ⟨W2.heap.size, 0, none⟩ 1 1 [.int .i32 97] rfl rfl ?c10 ?c20 ?c30 ?c40 ?c50 ?_)
      case c10 =>
        intro j u hj
        match j, hj with
        | 0, hj => simp at hj; subst hj; simp [Addr.add]
      case c20 => intro u hu; simp at hu; subst hu; rfl
      case c30 => unfold maxLen; omega
      case c40 => omega
      case c50 => simp; omega
      intro v' W3 hown3 hgrow _
      have hI3 : W3.heap[w.heap.size]? = some (.stringIter S (0 + 1)) := (hgrow.block _ (by simp; omega) (own_ne hown2)).trans (heap_lt_alloc _ _ (by omega) hit2)
      have hB3 : Below w.heap.size w W3 := (hbw2.alloc (by omega) _).grown hgrow (by simp; omega) (fun k hk => by have := (hown2.lt k hk).1; omega)
      have hZ3 : w.heap.size + 1 ≤ W3.heap.size := by have := hgrow.size; simp at this; omega
      clear hgrow hown2 hbw2 hit2 hnx
      go_wp2
      go_roundw
      case rel => exact ⟨0 + 1, by omega, hI3, rfl, rfl, by simpa [rd] using hown3, hB3, hZ3⟩
      case measure => simp only [World.iterPos, hI3, hit, ps]; omega
    · have hp : 1 < S.size := by omega
      clear hSz
      have hnx : ∀ ty, (Instr.next (.pointer (some ⟨w.heap.size, 0, none⟩)) true ty).run Tryz.prog wr = _ := fun ty => Lib.run_next_any_at wr w.heap.size S 1 ty hit hp
      rw [d1.out] at hnx
      dsimp only at hnx
      have hit2 := Lib.iterAt_heap wr w.heap.size S 1 (1 + (n - 1)) hit
      have hbw2 := Lib.below_iterAt hbw (k := w.heap.size) (Nat.le_refl _) S (1 + (n - 1))
      have hsz2 : w.heap.size + 1 ≤ (wr.iterAt w.heap.size S (1 + (n - 1))).heap.size := by rw [Lib.iterAt_size]; omega
      have hown2 := own_iter hown S (1 + (n - 1))
      obtain ⟨W2, hW2⟩ : ∃ W2, wr.iterAt w.heap.size S (1 + (n - 1)) = W2 := ⟨_, rfl⟩
      rw [hW2] at hnx hit2 hbw2 hown2 hsz2
      clear hW2 hown hbw
      go_wp2_with (at_builtin; refine wpList_append_own _ rfl _ _ 24 rfl (w.heap.size + 1) 21 i0 (.int .i32 0) 1 4 Tryz.underlying24 hi hz0 hz1 hz2 rfl (by decide) _ _ _ rfl (hown2.alloc _) ⟨W2.heap.size, 0, none⟩ 1 1 [.int .i32 (r : Int)] rfl rfl ?c11 ?c21 ?c31 ?c41 ?c51 ?_)
      case c11 =>
        intro j u hj
        match j, hj with
        | 0, hj => simp at hj; subst hj; simp [Addr.add]
      case c21 => intro u hu; simp at hu; subst hu; rfl
      case c31 => unfold maxLen; omega
      case c41 => omega
      case c51 => simp; omega
      intro v' W3 hown3 hgrow _
      have hI3 : W3.heap[w.heap.size]? = some (.stringIter S (1 + (n - 1))) := (hgrow.block _ (by simp; omega) (own_ne hown2)).trans (heap_lt_alloc _ _ (by omega) hit2)
      have hB3 : Below w.heap.size w W3 := (hbw2.alloc (by omega) _).grown hgrow (by simp; omega) (fun k hk => by have := (hown2.lt k hk).1; omega)
      have hZ3 : w.heap.size + 1 ≤ W3.heap.size := by have := hgrow.size; simp at this; omega
      clear hgrow hown2 hbw2 hit2 hnx
      go_wp2
      go_roundw
      case rel => exact ⟨1 + 1, by omega, by rw [hI3]; congr 2; show _ = S.size; rw [HZ.out]; omega, rfl, rfl, by simpa [rd] using hown3, hB3, hZ3⟩
      case measure => have := HZ.out; simp only [World.iterPos, hI3, hit, ps]; omega
    · clear hSz
      have hnx : ∀ ty, (Instr.next (.pointer (some ⟨w.heap.size, 0, none⟩)) true ty).run Tryz.prog wr = _ := fun ty => Lib.run_next_end_at wr w.heap.size S S.size ty hit (by omega)
      obtain ⟨g, c, hv, hcell⟩ : ∃ g c, _ = Value.slice (some ⟨g, 0, none⟩) 2 c ∧ wr.cell? ⟨g, 1, none⟩ = some (.int .i32 (r : Int)) := own_two hown
      subst hv
      have HO := Lib.hid hown
      have HB := Lib.hid hbw
      clear hown hbw
      go_wp2
      go_ret
      exact ⟨g, c, rfl, hcell, HB.out⟩
set_option maxHeartbeats 1000000 in
theorem put_any (r : Int) (w : World) : Calls Tryz.prog 8 #[.int .i32 r] w fun e w' => e = .returned (.string (runesBytes [r])) ∧ Below w.heap.size w w' := by
  have hcv : (convert 24 9 (.slice (some ⟨w.heap.size, 0, none⟩) 1 1)).run Tryz.prog (w.alloc (.cells #[.int .i32 r] 21)) = .ok (.string (runesBytes [r])) (w.alloc (.cells #[.int .i32 r] 21)) := by
    have := run_convert_runes (P := Tryz.prog) (w.alloc (.cells #[.int .i32 r] 21)) 24 9 21 ⟨w.heap.size, 0, none⟩ 1 1 [r] (by simp) Tryz.underlying24 Tryz.underlying21 Tryz.underlying9 (fun j hj => by
      simp at hj; subst hj
      simp [Addr.add])
    simpa using this
  go_enter Tryz.func8, Tryz.ntmps8
  go_wp2
  go_ret
  exact ⟨rfl, (Below.refl _ w).alloc (Nat.le_refl _) _⟩
end Go.Proofs.YtieiopaobipdoaaGreatDoor.Cut
