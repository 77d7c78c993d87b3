/- system.Signs: letters' numbers and Roman ones. -/
import Derived.Test.YtmgjgdnjkgnbiaaGreatDoorGA
import Derived.Deep.RegionHeld3
import Derived.Deep.DeepCutAuto
namespace Go.Proofs.YtmgjgdnjkgnbiaaGreatDoor.Num
open Go Go.RowKit Go.Proofs
def PosR (k n : Nat) (w : World) (e : Ending) (w' : World) : Prop := ∃ g cap, e = .returned (.slice (some ⟨g, 0, none⟩) (Reg.pos k n).length cap) ∧ w.heap.size ≤ g ∧ g < w'.heap.size ∧ Hid (∀ j, j < (Reg.pos k n).length → w'.cell? ⟨g, 0 + j, none⟩ = some (.int .i64 (((Reg.pos k n)[j]?.getD 0 : Nat) : Int))) ∧ Below w.heap.size w w'
theorem pos_r (n k : Nat) (w : World) (h1 : 1 ≤ n) (hn : n < 4294967296) (hk : 2 ≤ k) (hk2 : k ≤ 1000) :
    Calls Tryz.prog 92 #[.int .i64 (n : Int), .int .i64 (k : Int), .bool false] w (PosR k n w) := by
  refine (pos_any n k w hn hk hk2).mono ?_
  rintro e w' ⟨o, rfl, hown, hB⟩
  rcases hown.2 with ⟨_, h0⟩ | ⟨g, cap, cur, rfl, hg, hh, _⟩
  · exact absurd (List.eq_nil_of_length_eq_zero h0) (Reg.pos_ne k n h1 (by omega))
  · refine ⟨g, cap, rfl, hg, (Array.getElem?_eq_some_iff.1 hh).1, fun j hj => ?_, hB⟩
    have h2 := hown.cells (g := g) rfl j (.int .i64 (((Reg.pos k n)[j] : Nat) : Int)) (by unfold intCells; rw [List.getElem?_map, List.getElem?_eq_getElem hj]; rfl)
    have e : (⟨g, 0, none⟩ : Addr).add j = ⟨g, j, none⟩ := by unfold Addr.add; split <;> simp_all
    rw [e] at h2
    rw [List.getElem?_eq_getElem hj, Nat.zero_add]; exact h2
theorem keepL {W W' : World} (hb : Below W.heap.size W W') {b i : Nat} {v : Value} (hz : b < W.heap.size) (h : W.cell? ⟨b, i, none⟩ = some v) : W'.cell? ⟨b, i, none⟩ = some v := by rw [hb.cell (p := ⟨b, i, none⟩) hz]; exact h
theorem keepZ {W W' : World} (hb : Below W.heap.size W W') {b : Nat} (hz : b < W.heap.size) : b < W'.heap.size := Nat.lt_of_lt_of_le hz hb.size
def MayOk (D : Array Value) (w : World) : Prop := ∀ w', Below w.heap.size w w' → Calls Tryz.prog 48 #[.agg D] w' fun e w2 => e = .returned (.bool true) ∧ Below w'.heap.size w' w2
abbrev alphaW : ByteArray := ⟨#[97, 108, 112, 104, 97, 98, 101, 116, 105, 99]⟩
abbrev addW : ByteArray := ⟨#[97, 100, 100, 105, 116, 105, 118, 101]⟩
set_option maxRecDepth 100000 in
set_option maxHeartbeats 4000000 in
theorem signs_alpha (d0 d2 d4 d5 d6 d7 d8 d9 d10 d11 d12 d13 d14 d15 : Value) (sb so sn sc : Nat) (syms : List (List UInt8)) (n : Nat) (w : World) (hn : 1 ≤ n) (hn2 : n < 2147483648) (hsl : ∀ s ∈ syms, s.length ≤ 1000) (hsb : sb < w.heap.size) (hk : 2 ≤ sn) (hk2 : sn ≤ 1000)
    (hs : ∀ j, j < sn → w.cell? ⟨sb, so + j, none⟩ = some (.string ⟨(syms.getD j []).toArray⟩)) (hM : MayOk #[d0, .string alphaW, d2, .slice (some ⟨sb, so, none⟩) sn sc, d4, d5, d6, d7, d8, d9, d10, d11, d12, d13, d14, d15] w) :
    Calls Tryz.prog 52 #[.agg #[d0, .string alphaW, d2, .slice (some ⟨sb, so, none⟩) sn sc, d4, d5, d6, d7, d8, d9, d10, d11, d12, d13, d14, d15], .int .i64 (n : Int)] w fun e w' => e = .returned (.tuple #[.string ⟨(Reg.chS syms (Reg.pos sn n)).toArray⟩, .bool true]) ∧ Below w.heap.size w w' := by
  have HS := Lib.hid hs
  have HSL := Lib.hid hsl
  have HM := Lib.hid hM
  clear hs hsl hM
  have hd1 : decide ((n : Int) < -2147483648) = false := by simp <;> omega
  have hd2 : decide ((2147483648 : Int) < (n : Int)) = false := by simp <;> omega
  have hd3 : decide ((1 : Int) ≤ (n : Int)) = true := by simp <;> omega
  have hB0 : Below w.heap.size w (w.alloc (.cells #[d0, .string alphaW, d2, .slice (some ⟨sb, so, none⟩) sn sc, d4, d5, d6, d7, d8, d9, d10, d11, d12, d13, d14, d15] 37)) := (Below.refl _ w).alloc (Nat.le_refl _) _
  have hm1 := HM.out _ hB0
  have HB0 := Lib.hid hB0
  clear hB0
  have hbx : (w.alloc (.cells #[d0, .string alphaW, d2, .slice (some ⟨sb, so, none⟩) sn sc, d4, d5, d6, d7, d8, d9, d10, d11, d12, d13, d14, d15] 37)).heap[w.heap.size]? = some (.cells #[d0, .string alphaW, d2, .slice (some ⟨sb, so, none⟩) sn sc, d4, d5, d6, d7, d8, d9, d10, d11, d12, d13, d14, d15] 37 (0, 0)) := heap_alloc_new w _
  have hsz0 : (w.alloc (.cells #[d0, .string alphaW, d2, .slice (some ⟨sb, so, none⟩) sn sc, d4, d5, d6, d7, d8, d9, d10, d11, d12, d13, d14, d15] 37)).heap.size = w.heap.size + 1 := by simp
  have HBX := Lib.hid hbx
  have HZ0 := Lib.hid hsz0
  clear hbx hsz0
  go_enter Tryz.func52, Tryz.ntmps52
  go_wp2_with (go_at_call 48; refine hm1.mono ?_)
  rintro e w1 ⟨rfl, hB1⟩
  have hB2 : Below w.heap.size w w1 := HB0.out.trans (hB1.mono (by rw [HZ0.out]; omega))
  have hbx1 : w1.heap[w.heap.size]? = some (.cells #[d0, .string alphaW, d2, .slice (some ⟨sb, so, none⟩) sn sc, d4, d5, d6, d7, d8, d9, d10, d11, d12, d13, d14, d15] 37 (0, 0)) := (hB1.block w.heap.size (by rw [HZ0.out]; omega)).trans HBX.out
  have hlt1 : w.heap.size < w1.heap.size := (Array.getElem?_eq_some_iff.1 hbx1).1
  obtain ⟨c0, c1, c2, c3, c4, c5, c6, c7, c8, c9, c10, c11, c12, c13, c14, c15⟩ := box16 hbx1
  have HX := Lib.hid hbx1
  have HB2 := Lib.hid hB2
  clear hbx1 hB2 hB1 hm1
  go_wp2
  have HB2d : Hid (Below w.heap.size w w1.drew) := Lib.hid HB2.out.drew
  have hpl : (Reg.pos sn n).length ≤ 60 := Nat.le_trans (Reg.pos_len sn hk 31 n (by omega)) (by decide)
  go_region_held3 (fun w' => w'.cell? ⟨w.heap.size, 0, none⟩ = some (d0) ∧ w'.cell? ⟨w.heap.size, 1, none⟩ = some (.string alphaW) ∧ w'.cell? ⟨w.heap.size, 2, none⟩ = some (d2) ∧ w'.cell? ⟨w.heap.size, 3, none⟩ = some (.slice (some ⟨sb, so, none⟩) sn sc) ∧ w'.cell? ⟨w.heap.size, 4, none⟩ = some (d4) ∧ w'.cell? ⟨w.heap.size, 5, none⟩ = some (d5) ∧ w'.cell? ⟨w.heap.size, 6, none⟩ = some (d6) ∧ w'.cell? ⟨w.heap.size, 7, none⟩ = some (d7) ∧ w'.cell? ⟨w.heap.size, 8, none⟩ = some (d8) ∧ w'.cell? ⟨w.heap.size, 9, none⟩ = some (d9) ∧ w'.cell? ⟨w.heap.size, 10, none⟩ = some (d10) ∧ w'.cell? ⟨w.heap.size, 11, none⟩ = some (d11) ∧ w'.cell? ⟨w.heap.size, 12, none⟩ = some (d12) ∧ w'.cell? ⟨w.heap.size, 13, none⟩ = some (d13) ∧ w'.cell? ⟨w.heap.size, 14, none⟩ = some (d14) ∧ w'.cell? ⟨w.heap.size, 15, none⟩ = some (d15) ∧ w.heap.size < w'.heap.size ∧ Hid (w'.heap[w.heap.size]? = some (.cells #[d0, .string alphaW, d2, .slice (some ⟨sb, so, none⟩) sn sc, d4, d5, d6, d7, d8, d9, d10, d11, d12, d13, d14, d15] 37 (0, 0))) ∧ Hid (Below w.heap.size w w'))
    (first | (refine ⟨?_, ?_, ?_, ?_, ?_, ?_, ?_, ?_, ?_, ?_, ?_, ?_, ?_, ?_, ?_, ?_, ?_, ?_, ?_⟩ <;> (first | assumption | go_keep)) | (go_split_ands; exact ⟨keepL hBn (by assumption) (by assumption), keepL hBn (by assumption) (by assumption), keepL hBn (by assumption) (by assumption), keepL hBn (by assumption) (by assumption), keepL hBn (by assumption) (by assumption), keepL hBn (by assumption) (by assumption), keepL hBn (by assumption) (by assumption), keepL hBn (by assumption) (by assumption), keepL hBn (by assumption) (by assumption), keepL hBn (by assumption) (by assumption), keepL hBn (by assumption) (by assumption), keepL hBn (by assumption) (by assumption), keepL hBn (by assumption) (by assumption), keepL hBn (by assumption) (by assumption), keepL hBn (by assumption) (by assumption), keepL hBn (by assumption) (by assumption), keepZ hBn (by assumption), Lib.hid ((hBn.block _ (by assumption)).trans (Hid.out (by assumption))), Lib.hid ((Hid.out (by assumption) : Below w.heap.size w _).trans (hBn.mono (Nat.le_of_lt (by assumption))))⟩))
    (first
      | (go_at_call 92; refine (pos_r n sn _ hn (by omega) hk hk2).mono ?_; rintro e W2 ⟨g, cap, rfl, hg1, hg2, HC, hBn⟩)
      | (go_at_call 91; go_split_ands; refine (chosen_in _ sb so sn sc _ _ _ syms (Reg.pos sn n) _ rfl (Nat.lt_of_lt_of_le hsb (Below.size (Hid.out (by assumption) : Below w.heap.size w _))) (fun j hj => (Below.cell (p := ⟨sb, so + j, none⟩) (Hid.out (by assumption) : Below w.heap.size w _) hsb).trans (HS.out j hj)) HSL.out (by assumption) hpl (by omega) hk2 (Reg.pos_lt sn (by omega) n) (Hid.out (by assumption))).mono ?_; rintro e W3 ⟨rfl, hBn⟩))
  all_goals (go_wp2; go_ret2; go_split_ands; exact ⟨rfl, Hid.out (by assumption)⟩)
set_option maxRecDepth 100000 in
set_option maxHeartbeats 4000000 in
theorem signs_add (d0 d2 d5 d6 d7 d8 d9 d10 d11 d12 d13 d14 d15 : Value) (sb so sc wb wo wc : Nat) (syms : List (List UInt8)) (n : Nat) (w : World) (hn : 1 ≤ n) (hn2 : n < 4000) (hsl : ∀ s ∈ syms, s.length ≤ 1000) (hsb : sb < w.heap.size) (hwb : wb < w.heap.size)
    (hs : ∀ j, j < 13 → w.cell? ⟨sb, so + j, none⟩ = some (.string ⟨(syms.getD j []).toArray⟩)) (hw : ∀ (j v : Nat), Reg.wts[j]? = some v → w.cell? ⟨wb, wo + j, none⟩ = some (.int .i64 (v : Int))) (hM : MayOk #[d0, .string addW, d2, .slice (some ⟨sb, so, none⟩) 13 sc, .slice (some ⟨wb, wo, none⟩) 13 wc, d5, d6, d7, d8, d9, d10, d11, d12, d13, d14, d15] w) :
    Calls Tryz.prog 52 #[.agg #[d0, .string addW, d2, .slice (some ⟨sb, so, none⟩) 13 sc, .slice (some ⟨wb, wo, none⟩) 13 wc, d5, d6, d7, d8, d9, d10, d11, d12, d13, d14, d15], .int .i64 (n : Int)] w fun e w' => e = .returned (.tuple #[.string ⟨(Reg.rom syms n).toArray⟩, .bool true]) ∧ Below w.heap.size w w' := by
  have HS := Lib.hid hs
  have HSL := Lib.hid hsl
  have HM := Lib.hid hM
  have HW := Lib.hid hw
  clear hs hsl hM hw
  have hd1 : decide ((n : Int) < -2147483648) = false := by simp <;> omega
  have hd2 : decide ((2147483648 : Int) < (n : Int)) = false := by simp <;> omega
  have hd3 : decide ((0 : Int) ≤ (n : Int)) = true := by simp <;> omega
  have hB0 : Below w.heap.size w (w.alloc (.cells #[d0, .string addW, d2, .slice (some ⟨sb, so, none⟩) 13 sc, .slice (some ⟨wb, wo, none⟩) 13 wc, d5, d6, d7, d8, d9, d10, d11, d12, d13, d14, d15] 37)) := (Below.refl _ w).alloc (Nat.le_refl _) _
  have hm1 := HM.out _ hB0
  have HB0 := Lib.hid hB0
  clear hB0
  have hbx : (w.alloc (.cells #[d0, .string addW, d2, .slice (some ⟨sb, so, none⟩) 13 sc, .slice (some ⟨wb, wo, none⟩) 13 wc, d5, d6, d7, d8, d9, d10, d11, d12, d13, d14, d15] 37)).heap[w.heap.size]? = some (.cells #[d0, .string addW, d2, .slice (some ⟨sb, so, none⟩) 13 sc, .slice (some ⟨wb, wo, none⟩) 13 wc, d5, d6, d7, d8, d9, d10, d11, d12, d13, d14, d15] 37 (0, 0)) := heap_alloc_new w _
  have hsz0 : (w.alloc (.cells #[d0, .string addW, d2, .slice (some ⟨sb, so, none⟩) 13 sc, .slice (some ⟨wb, wo, none⟩) 13 wc, d5, d6, d7, d8, d9, d10, d11, d12, d13, d14, d15] 37)).heap.size = w.heap.size + 1 := by simp
  have HBX := Lib.hid hbx
  have HZ0 := Lib.hid hsz0
  clear hbx hsz0
  go_enter Tryz.func52, Tryz.ntmps52
  go_wp2_with (go_at_call 48; refine hm1.mono ?_)
  rintro e w1 ⟨rfl, hB1⟩
  have hB2 : Below w.heap.size w w1 := HB0.out.trans (hB1.mono (by rw [HZ0.out]; omega))
  have hbx1 : w1.heap[w.heap.size]? = some (.cells #[d0, .string addW, d2, .slice (some ⟨sb, so, none⟩) 13 sc, .slice (some ⟨wb, wo, none⟩) 13 wc, d5, d6, d7, d8, d9, d10, d11, d12, d13, d14, d15] 37 (0, 0)) := (hB1.block w.heap.size (by rw [HZ0.out]; omega)).trans HBX.out
  have hadd := add_any d0 (.string addW) d2 d5 d6 d7 d8 d9 d10 d11 d12 d13 d14 d15 sb so sc wb wo wc syms n w1 hn hn2 HSL.out (Nat.lt_of_lt_of_le hsb hB2.size) (Nat.lt_of_lt_of_le hwb hB2.size) (fun j hj => (hB2.cell (p := ⟨sb, so + j, none⟩) hsb).trans (HS.out j hj)) (fun j v h => (hB2.cell (p := ⟨wb, wo + j, none⟩) hwb).trans (HW.out j v h))
  obtain ⟨c0, c1, c2, c3, c4, c5, c6, c7, c8, c9, c10, c11, c12, c13, c14, c15⟩ := box16 hbx1
  have HX := Lib.hid hbx1
  have HB2 := Lib.hid hB2
  clear hbx1 hB2 hB1 hm1
  go_wp2_with (go_at_call 93; refine hadd.mono ?_; rintro e w2 ⟨rfl, hB3⟩)
  all_goals (go_ret2; exact ⟨rfl, HB2.out.trans (hB3.mono HB2.out.size)⟩)
end Go.Proofs.YtmgjgdnjkgnbiaaGreatDoor.Num
