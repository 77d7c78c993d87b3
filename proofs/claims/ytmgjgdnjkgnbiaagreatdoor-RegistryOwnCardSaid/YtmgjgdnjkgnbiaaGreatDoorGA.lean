/- system.additive by the weights of Roman numbers: a greedy sum. -/
import Derived.Test.YtmgjgdnjkgnbiaaGreatDoorGB
import Derived.Test.YtmgjgdnjkgnbiaaGreatDoorGP
import Derived.Test.YtmgjgdnjkgnbiaaGreatDoorGSh
import Derived.Lib.OwnBridge
namespace Go.Proofs.YtmgjgdnjkgnbiaaGreatDoor.Num
open Go Go.RowKit Go.Proofs Go.Sort
def AddO (n₀ n : Nat) (w : World) (s27 s1 s6 : Value) (W : World) : Prop := ∃ (k m : Nat) (pre : List Nat), s27 = .int .i64 (k : Int) ∧ s1 = .int .i64 (m : Int) ∧ k ≤ 13 ∧ m ≤ n ∧ (k = 13 → m = 0) ∧ Hid (Reg.gre Reg.wts 0 n = pre ++ Reg.gre (Reg.wts.drop k) k m) ∧ W.ownsRow n₀ 3 1 s6 pre.length (intCells pre) ∧ Below n₀ w W
def AddI (n₀ n k : Nat) (w : World) (s1 s6 : Value) (W : World) : Prop := ∃ (m : Nat) (pre : List Nat), s1 = .int .i64 (m : Int) ∧ m ≤ n ∧ Hid (Reg.gre Reg.wts 0 n = pre ++ Reg.gre (Reg.wts.drop k) k m) ∧ W.ownsRow n₀ 3 1 s6 pre.length (intCells pre) ∧ Below n₀ w W
theorem own_form {W : World} {base : Nat} {v : Value} {n : Nat} {xs : List Value} (h : W.ownsRow base 3 1 v n xs) : ∃ A C, v = .slice A n C := by
  rcases h.2 with ⟨rfl, rfl⟩ | ⟨g, cap, cur, hv, _⟩
  · exact ⟨_, _, rfl⟩
  · exact ⟨_, _, hv⟩
theorem box16 {W : World} {N : Nat} {T : TypeId} {d0 d1 d2 d3 d4 d5 d6 d7 d8 d9 d10 d11 d12 d13 d14 d15 : Value} (h : W.heap[N]? = some (.cells #[d0, d1, d2, d3, d4, d5, d6, d7, d8, d9, d10, d11, d12, d13, d14, d15] T (0, 0))) : W.cell? ⟨N, 0, none⟩ = some d0 ∧ W.cell? ⟨N, 1, none⟩ = some d1 ∧ W.cell? ⟨N, 2, none⟩ = some d2 ∧ W.cell? ⟨N, 3, none⟩ = some d3 ∧ W.cell? ⟨N, 4, none⟩ = some d4 ∧ W.cell? ⟨N, 5, none⟩ = some d5 ∧ W.cell? ⟨N, 6, none⟩ = some d6 ∧ W.cell? ⟨N, 7, none⟩ = some d7 ∧ W.cell? ⟨N, 8, none⟩ = some d8 ∧ W.cell? ⟨N, 9, none⟩ = some d9 ∧ W.cell? ⟨N, 10, none⟩ = some d10 ∧ W.cell? ⟨N, 11, none⟩ = some d11 ∧ W.cell? ⟨N, 12, none⟩ = some d12 ∧ W.cell? ⟨N, 13, none⟩ = some d13 ∧ W.cell? ⟨N, 14, none⟩ = some d14 ∧ W.cell? ⟨N, 15, none⟩ = some d15 := by
  refine ⟨?_, ?_, ?_, ?_, ?_, ?_, ?_, ?_, ?_, ?_, ?_, ?_, ?_, ?_, ?_, ?_⟩ <;> (rw [Lib.cell_of_heap h]; rfl)
set_option maxRecDepth 100000 in
set_option maxHeartbeats 4000000 in
theorem add_any (d0 d1 d2 d5 d6 d7 d8 d9 d10 d11 d12 d13 d14 d15 : Value) (sb so sc wb wo wc : Nat) (syms : List (List UInt8)) (n : Nat) (w : World) (hn : 1 ≤ n) (hn2 : n < 4000) (hsl : ∀ s ∈ syms, s.length ≤ 1000) (hsb : sb < w.heap.size) (hwb : wb < w.heap.size)
    (hs : ∀ j, j < 13 → w.cell? ⟨sb, so + j, none⟩ = some (.string ⟨(syms.getD j []).toArray⟩)) (hw : ∀ (j v : Nat), Reg.wts[j]? = some v → w.cell? ⟨wb, wo + j, none⟩ = some (.int .i64 (v : Int))) :
    Calls Tryz.prog 93 #[.agg #[d0, d1, d2, .slice (some ⟨sb, so, none⟩) 13 sc, .slice (some ⟨wb, wo, none⟩) 13 wc, d5, d6, d7, d8, d9, d10, d11, d12, d13, d14, d15], .int .i64 (n : Int)] w fun e w' => e = .returned (.tuple #[.string ⟨(Reg.rom syms n).toArray⟩, .bool true]) ∧ Below w.heap.size w w' := by
  obtain ⟨i0, hi, hz0, hz1, hz2⟩ := info_parts infoInt
  have HL : Hid ((Reg.gre Reg.wts 0 n).length ≤ 15) := Lib.hid (Reg.rom_len n hn2)
  have HS := Lib.hid hs
  have HW := Lib.hid hw
  have HSL := Lib.hid hsl
  clear hs hw hsl
  have hn0 : ((n : Int) == 0) = false := by simp; omega
  go_enter Tryz.func93, Tryz.ntmps93
  go_wp2
  obtain ⟨w1, hw1⟩ : ∃ w1, w.alloc (.cells #[d0, d1, d2, .slice (some ⟨sb, so, none⟩) 13 sc, .slice (some ⟨wb, wo, none⟩) 13 wc, d5, d6, d7, d8, d9, d10, d11, d12, d13, d14, d15] 37) = w1 := ⟨_, rfl⟩
  have hB0 : Below w.heap.size w w1 := by rw [← hw1]; exact (Below.refl _ w).alloc (Nat.le_refl _) _
  have hz1' : w1.heap.size = w.heap.size + 1 := by rw [← hw1]; simp
  have hbx : w1.heap[w.heap.size]? = some (.cells #[d0, d1, d2, .slice (some ⟨sb, so, none⟩) 13 sc, .slice (some ⟨wb, wo, none⟩) 13 wc, d5, d6, d7, d8, d9, d10, d11, d12, d13, d14, d15] 37 (0, 0)) := by rw [← hw1]; exact heap_alloc_new w _
  rw [hw1]
  have HZ := Lib.hid hz1'
  have HB := Lib.hid hbx
  clear hw1 hz1' hbx
  go_loopw [27, 1, 6] (fun s27 s1 s6 W => AddO w1.heap.size n w1 s27 s1 s6 W) (fun s27 _ _ _ => (13 - intOf s27).toNat)
  case atStart => exact ⟨0, n, [], rfl, rfl, by omega, Nat.le_refl _, by omega, rfl, World.ownsRow_nil _ _ _ _, Below.refl _ _⟩
  case round =>
    obtain ⟨k, m, pre, rfl, rfl, hk, hm, hm0, hg, hown, hBw⟩ := hrel
    have HO := Lib.hid hown
    obtain ⟨A, C, rfl⟩ := own_form hown
    clear hown
    by_cases hlt : k < 13
    · obtain ⟨v, r, e1, e2, e3, v1, v2, v3⟩ := Reg.wts_drop k hlt
      have hcv : wr.cell? ⟨wb, wo + k, none⟩ = some (.int .i64 (v : Int)) := ((hBw.cell (p := ⟨wb, wo + k, none⟩) (by show wb < _; have := hB0.size; omega)).trans (hB0.cell (p := ⟨wb, wo + k, none⟩) hwb)).trans (HW.out k v e3)
      have E1 := Lib.hid e1
      have E2 := Lib.hid e2
      have V3 := Lib.hid v3
      have M0 := Lib.hid hm0
      clear e1 e2 e3 v3 hm0
      have hv0 : ((v : Int) == 0) = false := by simp; omega
      have hk13 : decide ((k : Int) < 13) = true := by simp; omega
      go_wp2
      go_loopw [1, 6] (fun s1 s6 W => AddI w1.heap.size n k w1 s1 s6 W) (fun s1 _ _ => (intOf s1).toNat)
      case atStart => exact ⟨m, pre, rfl, hm, hg, HO.out, hBw⟩
      case round =>
        obtain ⟨q, pr, rfl, hq, hg2, hown, hB2⟩ := hrel
        have HO2 := Lib.hid hown
        obtain ⟨A2, C2, rfl⟩ := own_form hown
        have hpl : pr.length ≤ 15 := by
          have h1 := HL.out
          rw [hg2.out, List.length_append] at h1
          omega
        clear hown
        by_cases hge : v ≤ q
        · have hw64 : (q : Int) - (v : Int) = ((q - v : Nat) : Int) := by omega
          have H64 := Lib.hid hw64
          have hg3 : Hid (Reg.gre Reg.wts 0 n = (pr ++ [k]) ++ Reg.gre (Reg.wts.drop k) k (q - v)) := Lib.hid (by
            have h1 := hg2.out
            rw [E1.out, Reg.gre_take v r k q v1 hge, ← E1.out] at h1
            rw [h1]; simp)
          have hd1 : decide ((v : Int) ≤ (q : Int)) = true := by simp; omega
          have hd2 : decide ((pr.length : Int) ≤ 60) = true := by simp; omega
          clear hw64
          go_wp2_with (at_builtin; refine wpList_append_own _ rfl _ _ 27 rfl w1.heap.size 3 i0 (.int .i64 0) 1 8 Tryz.underlying27 hi hz0 hz1 hz2 rfl (by decide) _ _ _ rfl (HO2.out.alloc _) ⟨wr.heap.size, 0, none⟩ 1 1 [.int .i64 (k : Int)] rfl rfl ?c1 ?c2 ?c3 ?c4 ?c5 ?_)
          case c1 =>
            intro j u hj
            match j, hj with
            | 0, hj => simp at hj; subst hj; simp [Addr.add]
          case c2 => intro u hu; simp at hu; subst hu; rfl
          case c3 => unfold maxLen; omega
          case c4 => omega
          case c5 => have := hB2.size; simp; omega
          intro v' w2 hown' hgrow _
          have hsz := hB2.size
          go_wp2
          go_roundw
          case rel =>
            refine ⟨q - v, pr ++ [k], by rw [H64.out], by omega, hg3, ?_, (hB2.alloc hsz _).grown hgrow (by simp; omega) (fun g hg => (HO2.out.lt g hg).1)⟩
            rw [List.length_append]
            have e : intCells (pr ++ [k]) = intCells pr ++ [.int .i64 (k : Int)] := by simp [intCells]
            rw [e]; exact hown'
          case measure =>
            show (intOf (.int .i64 ((q : Int) - (v : Int)))).toNat < (intOf (.int .i64 (q : Int))).toNat
            rw [H64.out]; simp only [intOf]; omega
        · have hg3 : Hid (Reg.gre Reg.wts 0 n = pr ++ Reg.gre (Reg.wts.drop (k + 1)) (k + 1) q) := Lib.hid (by
            have h1 := hg2.out
            rw [E1.out, Reg.gre_less v r k q (by omega), ← E2.out] at h1
            exact h1)
          have hd1 : decide ((v : Int) ≤ (q : Int)) = false := by simp; omega
          go_wp2
          go_roundw
          case rel => exact ⟨k + 1, q, pr, by go_num, rfl, by omega, hq, fun h => by have := V3.out (by omega); omega, hg3, HO2.out, hB2⟩
          case measure => simp [intOf]; omega
    · obtain rfl : k = 13 := by omega
      obtain rfl := hm0 rfl
      have hpr : pre = Reg.gre Reg.wts 0 n := by
        have h1 := hg.out
        have h2 : Reg.gre (Reg.wts.drop 13) 13 0 = [] := rfl
        rw [h2, List.append_nil] at h1
        exact h1.symm
      have hne : pre ≠ [] := by rw [hpr]; exact Reg.gre_ne n hn hn2
      have hnn : Value.slice A pre.length C ≠ .slice none 0 0 := by
        intro e
        injection e with _ e2 _
        exact hne (List.eq_nil_of_length_eq_zero e2)
      have hown := HO.out
      rw [show intCells pre = (pre.map Int.ofNat).map (Value.int .i64) by simp [intCells, List.map_map]] at hown
      obtain ⟨g, cap, hgv, hbg, _, _, hcm, hlen, hH⟩ := Lib.holds_of_ownsRow hown hnn
      obtain ⟨rfl, rfl⟩ : A = some ⟨g, 0, none⟩ ∧ C = cap := by injection hgv with a b c; exact ⟨a, c⟩
      have hrev := Any.slices_Reverse_int Tryz.lays112 g 0 C (pre.map Int.ofNat) wr hH (by unfold maxLen at hcm; omega)
      rw [hlen] at hrev
      have HP := Lib.hid hpr
      have HOW := Lib.hid hown
      have HH := Lib.hid hH
      have HG := Lib.hid hbg
      clear hpr hne hnn hown hH hgv hlen
      have hlg : g < wr.heap.size := by assumption
      go_wp2_with (go_at_call 136; refine hrev.mono ?_)
      rintro e w2 rfl x hx
      have hB5 : Below w1.heap.size w1 w2 := by rw [hx]; exact Lib.below_putRow hBw HG.out
      have hy : (pre.map Int.ofNat).reverse.length = pre.length := by simp
      have hown5 : w2.ownsRow w1.heap.size 3 1 (.slice (some ⟨g, 0, none⟩) pre.length C) pre.length ((pre.map Int.ofNat).reverse.map (Value.int .i64)) := by
        have h1 := Lib.ownsRow_putRow (q := x) (ys := (pre.map Int.ofNat).reverse) HOW.out hy (Nat.le_refl _)
        rw [List.take_of_length_le (Nat.le_of_eq hy)] at h1
        rw [hx]; exact h1
      have hlg2 : g < w2.heap.size := by
        rcases hown5.2 with ⟨h, _⟩ | ⟨g', cap, cur, h, _, hh, _⟩
        · cases h
        · injection h with h _ _
          injection h with h
          injection h with h _ _
          subst h
          exact (Array.getElem?_eq_some_iff.1 hh).1
      have hcz : ∀ j, j < pre.reverse.length → w2.cell? ⟨g, 0 + j, none⟩ = some (.int .i64 ((pre.reverse[j]?.getD 0 : Nat) : Int)) := fun j hj => by
        have h1 := hown5.cells (g := g) rfl j (.int .i64 (pre.reverse[j] : Int)) (by
          rw [← List.map_reverse, List.map_map, List.getElem?_map, List.getElem?_eq_getElem hj]; rfl)
        rw [List.getElem?_eq_getElem hj, Nat.zero_add]
        have e : (⟨g, 0, none⟩ : Addr).add j = ⟨g, j, none⟩ := by unfold Addr.add; split <;> simp_all
        rw [e] at h1; exact h1
      have hbox := box16 ((hB5.block w.heap.size (by rw [HZ.out]; omega)).trans HB.out)
      have hBw2 : Below w.heap.size w w2 := hB0.trans (hB5.mono (by rw [HZ.out]; omega))
      have hch := chosen_in #[d0, d1, d2, .slice (some ⟨sb, so, none⟩) 13 sc, .slice (some ⟨wb, wo, none⟩) 13 wc, d5, d6, d7, d8, d9, d10, d11, d12, d13, d14, d15] sb so 13 sc g 0 C syms pre.reverse w2 rfl (Nat.lt_of_lt_of_le hsb hBw2.size) (fun j hj => (hBw2.cell (p := ⟨sb, so + j, none⟩) hsb).trans (HS.out j hj)) HSL.out hlg2
        (by have h1 := HL.out; rw [← HP.out] at h1; simp only [List.length_reverse]; omega) (by omega) (by omega)
        (fun d hd => by have h1 := List.mem_reverse.1 hd; rw [HP.out] at h1; have := Reg.gre_lt Reg.wts 0 n d h1; rw [show Reg.wts.length = 13 from rfl] at this; omega) hcz
      rw [List.length_reverse] at hch
      have HR : Hid (Reg.chS syms pre.reverse = Reg.rom syms n) := Lib.hid (by rw [HP.out]; rfl)
      have HX := Lib.hid hx
      have HB2 := Lib.hid hBw2
      obtain ⟨c0, c1, c2, c3, c4, c5, c6, c7, c8, c9, c10, c11, c12, c13, c14, c15⟩ := hbox
      clear hx hown5 hcz hy hBw2 hB5 hrev
      go_wp2_with (go_at_call 91; refine hch.mono ?_; rintro e w4 ⟨rfl, hB7⟩)
      go_ret2
      exact ⟨by rw [HR.out]; rfl, HB2.out.trans (hB7.mono HB2.out.size)⟩
end Go.Proofs.YtmgjgdnjkgnbiaaGreatDoor.Num
