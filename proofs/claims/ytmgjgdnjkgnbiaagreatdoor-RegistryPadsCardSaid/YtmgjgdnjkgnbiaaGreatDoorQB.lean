/- fleuronlaw11.RegistryPads returns true for all arguments, and leaves what was there. -/
import Derived.Test.YtmgjgdnjkgnbiaaGreatDoorQa1
import Derived.Test.YtmgjgdnjkgnbiaaGreatDoorQa2
import Derived.Test.YtmgjgdnjkgnbiaaGreatDoorQa3
import Derived.Test.YtmgjgdnjkgnbiaaGreatDoorQa4
import Derived.Test.YtmgjgdnjkgnbiaaGreatDoorQa5
import Derived.Test.YtmgjgdnjkgnbiaaGreatDoorQa6
import Derived.Test.YtmgjgdnjkgnbiaaGreatDoorQa7
import Derived.Test.YtmgjgdnjkgnbiaaGreatDoorQa8
import Derived.Test.YtmgjgdnjkgnbiaaGreatDoorQa9
import Derived.Test.YtmgjgdnjkgnbiaaGreatDoorQa10
import Derived.Test.YtmgjgdnjkgnbiaaGreatDoorQa11
import Derived.Test.YtmgjgdnjkgnbiaaGreatDoorQa12
import Derived.Test.YtmgjgdnjkgnbiaaGreatDoorQa13
import Derived.Test.YtmgjgdnjkgnbiaaGreatDoorQa14
import Derived.Test.YtmgjgdnjkgnbiaaGreatDoorQa15
import Derived.Test.YtmgjgdnjkgnbiaaGreatDoorQa16
import Derived.Test.YtmgjgdnjkgnbiaaGreatDoorQa17
import Derived.Test.YtmgjgdnjkgnbiaaGreatDoorQa18
import Derived.Test.YtmgjgdnjkgnbiaaGreatDoorQa19
import Derived.Test.YtmgjgdnjkgnbiaaGreatDoorQa20
import Derived.Test.YtmgjgdnjkgnbiaaGreatDoorQS
import Derived.Test.YtmgjgdnjkgnbiaaGreatDoorQT
namespace Go.Proofs.YtmgjgdnjkgnbiaaGreatDoor.HM
open Go Go.RowKit
theorem qrow_0 (l : Nat) (h : l < 6) : Q21 0 l = true := by
  have h : l = 0 ∨ l = 1 ∨ l = 2 ∨ l = 3 ∨ l = 4 ∨ l = 5 := by omega
  rcases h with rfl | rfl | rfl | rfl | rfl | rfl
  · exact q_0_0
  · exact q_0_1
  · exact q_0_2
  · exact q_0_3
  · exact q_0_4
  · exact q_0_5
theorem qrow_1 (l : Nat) (h : l < 6) : Q21 1 l = true := by
  have h : l = 0 ∨ l = 1 ∨ l = 2 ∨ l = 3 ∨ l = 4 ∨ l = 5 := by omega
  rcases h with rfl | rfl | rfl | rfl | rfl | rfl
  · exact q_1_0
  · exact q_1_1
  · exact q_1_2
  · exact q_1_3
  · exact q_1_4
  · exact q_1_5
theorem qrow_2 (l : Nat) (h : l < 6) : Q21 2 l = true := by
  have h : l = 0 ∨ l = 1 ∨ l = 2 ∨ l = 3 ∨ l = 4 ∨ l = 5 := by omega
  rcases h with rfl | rfl | rfl | rfl | rfl | rfl
  · exact q_2_0
  · exact q_2_1
  · exact q_2_2
  · exact q_2_3
  · exact q_2_4
  · exact q_2_5
theorem qrow_3 (l : Nat) (h : l < 6) : Q21 3 l = true := by
  have h : l = 0 ∨ l = 1 ∨ l = 2 ∨ l = 3 ∨ l = 4 ∨ l = 5 := by omega
  rcases h with rfl | rfl | rfl | rfl | rfl | rfl
  · exact q_3_0
  · exact q_3_1
  · exact q_3_2
  · exact q_3_3
  · exact q_3_4
  · exact q_3_5
theorem qrow_4 (l : Nat) (h : l < 6) : Q21 4 l = true := by
  have h : l = 0 ∨ l = 1 ∨ l = 2 ∨ l = 3 ∨ l = 4 ∨ l = 5 := by omega
  rcases h with rfl | rfl | rfl | rfl | rfl | rfl
  · exact q_4_0
  · exact q_4_1
  · exact q_4_2
  · exact q_4_3
  · exact q_4_4
  · exact q_4_5
theorem qrow_5 (l : Nat) (h : l < 6) : Q21 5 l = true := by
  have h : l = 0 ∨ l = 1 ∨ l = 2 ∨ l = 3 ∨ l = 4 ∨ l = 5 := by omega
  rcases h with rfl | rfl | rfl | rfl | rfl | rfl
  · exact q_5_0
  · exact q_5_1
  · exact q_5_2
  · exact q_5_3
  · exact q_5_4
  · exact q_5_5
theorem qrow_6 (l : Nat) (h : l < 6) : Q21 6 l = true := by
  have h : l = 0 ∨ l = 1 ∨ l = 2 ∨ l = 3 ∨ l = 4 ∨ l = 5 := by omega
  rcases h with rfl | rfl | rfl | rfl | rfl | rfl
  · exact q_6_0
  · exact q_6_1
  · exact q_6_2
  · exact q_6_3
  · exact q_6_4
  · exact q_6_5
theorem qrow_7 (l : Nat) (h : l < 6) : Q21 7 l = true := by
  have h : l = 0 ∨ l = 1 ∨ l = 2 ∨ l = 3 ∨ l = 4 ∨ l = 5 := by omega
  rcases h with rfl | rfl | rfl | rfl | rfl | rfl
  · exact q_7_0
  · exact q_7_1
  · exact q_7_2
  · exact q_7_3
  · exact q_7_4
  · exact q_7_5
theorem qrow_8 (l : Nat) (h : l < 6) : Q21 8 l = true := by
  have h : l = 0 ∨ l = 1 ∨ l = 2 ∨ l = 3 ∨ l = 4 ∨ l = 5 := by omega
  rcases h with rfl | rfl | rfl | rfl | rfl | rfl
  · exact q_8_0
  · exact q_8_1
  · exact q_8_2
  · exact q_8_3
  · exact q_8_4
  · exact q_8_5
theorem qrow_9 (l : Nat) (h : l < 6) : Q21 9 l = true := by
  have h : l = 0 ∨ l = 1 ∨ l = 2 ∨ l = 3 ∨ l = 4 ∨ l = 5 := by omega
  rcases h with rfl | rfl | rfl | rfl | rfl | rfl
  · exact q_9_0
  · exact q_9_1
  · exact q_9_2
  · exact q_9_3
  · exact q_9_4
  · exact q_9_5
theorem qrow_10 (l : Nat) (h : l < 6) : Q21 10 l = true := by
  have h : l = 0 ∨ l = 1 ∨ l = 2 ∨ l = 3 ∨ l = 4 ∨ l = 5 := by omega
  rcases h with rfl | rfl | rfl | rfl | rfl | rfl
  · exact q_10_0
  · exact q_10_1
  · exact q_10_2
  · exact q_10_3
  · exact q_10_4
  · exact q_10_5
theorem qrow_11 (l : Nat) (h : l < 6) : Q21 11 l = true := by
  have h : l = 0 ∨ l = 1 ∨ l = 2 ∨ l = 3 ∨ l = 4 ∨ l = 5 := by omega
  rcases h with rfl | rfl | rfl | rfl | rfl | rfl
  · exact q_11_0
  · exact q_11_1
  · exact q_11_2
  · exact q_11_3
  · exact q_11_4
  · exact q_11_5
theorem qrow_12 (l : Nat) (h : l < 6) : Q21 12 l = true := by
  have h : l = 0 ∨ l = 1 ∨ l = 2 ∨ l = 3 ∨ l = 4 ∨ l = 5 := by omega
  rcases h with rfl | rfl | rfl | rfl | rfl | rfl
  · exact q_12_0
  · exact q_12_1
  · exact q_12_2
  · exact q_12_3
  · exact q_12_4
  · exact q_12_5
theorem qrow_13 (l : Nat) (h : l < 6) : Q21 13 l = true := by
  have h : l = 0 ∨ l = 1 ∨ l = 2 ∨ l = 3 ∨ l = 4 ∨ l = 5 := by omega
  rcases h with rfl | rfl | rfl | rfl | rfl | rfl
  · exact q_13_0
  · exact q_13_1
  · exact q_13_2
  · exact q_13_3
  · exact q_13_4
  · exact q_13_5
theorem qrow_14 (l : Nat) (h : l < 6) : Q21 14 l = true := by
  have h : l = 0 ∨ l = 1 ∨ l = 2 ∨ l = 3 ∨ l = 4 ∨ l = 5 := by omega
  rcases h with rfl | rfl | rfl | rfl | rfl | rfl
  · exact q_14_0
  · exact q_14_1
  · exact q_14_2
  · exact q_14_3
  · exact q_14_4
  · exact q_14_5
theorem qrow_15 (l : Nat) (h : l < 6) : Q21 15 l = true := by
  have h : l = 0 ∨ l = 1 ∨ l = 2 ∨ l = 3 ∨ l = 4 ∨ l = 5 := by omega
  rcases h with rfl | rfl | rfl | rfl | rfl | rfl
  · exact q_15_0
  · exact q_15_1
  · exact q_15_2
  · exact q_15_3
  · exact q_15_4
  · exact q_15_5
theorem qrow_16 (l : Nat) (h : l < 6) : Q21 16 l = true := by
  have h : l = 0 ∨ l = 1 ∨ l = 2 ∨ l = 3 ∨ l = 4 ∨ l = 5 := by omega
  rcases h with rfl | rfl | rfl | rfl | rfl | rfl
  · exact q_16_0
  · exact q_16_1
  · exact q_16_2
  · exact q_16_3
  · exact q_16_4
  · exact q_16_5
theorem qrow_17 (l : Nat) (h : l < 6) : Q21 17 l = true := by
  have h : l = 0 ∨ l = 1 ∨ l = 2 ∨ l = 3 ∨ l = 4 ∨ l = 5 := by omega
  rcases h with rfl | rfl | rfl | rfl | rfl | rfl
  · exact q_17_0
  · exact q_17_1
  · exact q_17_2
  · exact q_17_3
  · exact q_17_4
  · exact q_17_5
theorem qrow_18 (l : Nat) (h : l < 6) : Q21 18 l = true := by
  have h : l = 0 ∨ l = 1 ∨ l = 2 ∨ l = 3 ∨ l = 4 ∨ l = 5 := by omega
  rcases h with rfl | rfl | rfl | rfl | rfl | rfl
  · exact q_18_0
  · exact q_18_1
  · exact q_18_2
  · exact q_18_3
  · exact q_18_4
  · exact q_18_5
theorem qrow_19 (l : Nat) (h : l < 6) : Q21 19 l = true := by
  have h : l = 0 ∨ l = 1 ∨ l = 2 ∨ l = 3 ∨ l = 4 ∨ l = 5 := by omega
  rcases h with rfl | rfl | rfl | rfl | rfl | rfl
  · exact q_19_0
  · exact q_19_1
  · exact q_19_2
  · exact q_19_3
  · exact q_19_4
  · exact q_19_5
theorem qrow_20 (l : Nat) (h : l < 6) : Q21 20 l = true := by
  have h : l = 0 ∨ l = 1 ∨ l = 2 ∨ l = 3 ∨ l = 4 ∨ l = 5 := by omega
  rcases h with rfl | rfl | rfl | rfl | rfl | rfl
  · exact q_20_0
  · exact q_20_1
  · exact q_20_2
  · exact q_20_3
  · exact q_20_4
  · exact q_20_5
theorem qrow_21 (l : Nat) (h : l < 6) : Q21 21 l = true := by
  have h : l = 0 ∨ l = 1 ∨ l = 2 ∨ l = 3 ∨ l = 4 ∨ l = 5 := by omega
  rcases h with rfl | rfl | rfl | rfl | rfl | rfl
  · exact q_21_0
  · exact q_21_1
  · exact q_21_2
  · exact q_21_3
  · exact q_21_4
  · exact q_21_5
theorem qrow_22 (l : Nat) (h : l < 6) : Q21 22 l = true := by
  have h : l = 0 ∨ l = 1 ∨ l = 2 ∨ l = 3 ∨ l = 4 ∨ l = 5 := by omega
  rcases h with rfl | rfl | rfl | rfl | rfl | rfl
  · exact q_22_0
  · exact q_22_1
  · exact q_22_2
  · exact q_22_3
  · exact q_22_4
  · exact q_22_5
theorem qrow_23 (l : Nat) (h : l < 6) : Q21 23 l = true := by
  have h : l = 0 ∨ l = 1 ∨ l = 2 ∨ l = 3 ∨ l = 4 ∨ l = 5 := by omega
  rcases h with rfl | rfl | rfl | rfl | rfl | rfl
  · exact q_23_0
  · exact q_23_1
  · exact q_23_2
  · exact q_23_3
  · exact q_23_4
  · exact q_23_5
theorem qrow_24 (l : Nat) (h : l < 6) : Q21 24 l = true := by
  have h : l = 0 ∨ l = 1 ∨ l = 2 ∨ l = 3 ∨ l = 4 ∨ l = 5 := by omega
  rcases h with rfl | rfl | rfl | rfl | rfl | rfl
  · exact q_24_0
  · exact q_24_1
  · exact q_24_2
  · exact q_24_3
  · exact q_24_4
  · exact q_24_5
theorem qrow_25 (l : Nat) (h : l < 6) : Q21 25 l = true := by
  have h : l = 0 ∨ l = 1 ∨ l = 2 ∨ l = 3 ∨ l = 4 ∨ l = 5 := by omega
  rcases h with rfl | rfl | rfl | rfl | rfl | rfl
  · exact q_25_0
  · exact q_25_1
  · exact q_25_2
  · exact q_25_3
  · exact q_25_4
  · exact q_25_5
theorem qrow_26 (l : Nat) (h : l < 6) : Q21 26 l = true := by
  have h : l = 0 ∨ l = 1 ∨ l = 2 ∨ l = 3 ∨ l = 4 ∨ l = 5 := by omega
  rcases h with rfl | rfl | rfl | rfl | rfl | rfl
  · exact q_26_0
  · exact q_26_1
  · exact q_26_2
  · exact q_26_3
  · exact q_26_4
  · exact q_26_5
theorem qrow_27 (l : Nat) (h : l < 6) : Q21 27 l = true := by
  have h : l = 0 ∨ l = 1 ∨ l = 2 ∨ l = 3 ∨ l = 4 ∨ l = 5 := by omega
  rcases h with rfl | rfl | rfl | rfl | rfl | rfl
  · exact q_27_0
  · exact q_27_1
  · exact q_27_2
  · exact q_27_3
  · exact q_27_4
  · exact q_27_5
theorem qrow_28 (l : Nat) (h : l < 6) : Q21 28 l = true := by
  have h : l = 0 ∨ l = 1 ∨ l = 2 ∨ l = 3 ∨ l = 4 ∨ l = 5 := by omega
  rcases h with rfl | rfl | rfl | rfl | rfl | rfl
  · exact q_28_0
  · exact q_28_1
  · exact q_28_2
  · exact q_28_3
  · exact q_28_4
  · exact q_28_5
theorem qrow_29 (l : Nat) (h : l < 6) : Q21 29 l = true := by
  have h : l = 0 ∨ l = 1 ∨ l = 2 ∨ l = 3 ∨ l = 4 ∨ l = 5 := by omega
  rcases h with rfl | rfl | rfl | rfl | rfl | rfl
  · exact q_29_0
  · exact q_29_1
  · exact q_29_2
  · exact q_29_3
  · exact q_29_4
  · exact q_29_5
theorem qrow_30 (l : Nat) (h : l < 6) : Q21 30 l = true := by
  have h : l = 0 ∨ l = 1 ∨ l = 2 ∨ l = 3 ∨ l = 4 ∨ l = 5 := by omega
  rcases h with rfl | rfl | rfl | rfl | rfl | rfl
  · exact q_30_0
  · exact q_30_1
  · exact q_30_2
  · exact q_30_3
  · exact q_30_4
  · exact q_30_5
theorem qgrp_0 (p l : Nat) (h0 : 0 ≤ p) (hp : p < 8) (h : l < 6) : Q21 p l = true := by
  have hp : p = 0 ∨ p = 1 ∨ p = 2 ∨ p = 3 ∨ p = 4 ∨ p = 5 ∨ p = 6 ∨ p = 7 := by omega
  rcases hp with rfl | rfl | rfl | rfl | rfl | rfl | rfl | rfl
  · exact qrow_0 l h
  · exact qrow_1 l h
  · exact qrow_2 l h
  · exact qrow_3 l h
  · exact qrow_4 l h
  · exact qrow_5 l h
  · exact qrow_6 l h
  · exact qrow_7 l h
theorem qgrp_1 (p l : Nat) (h0 : 8 ≤ p) (hp : p < 16) (h : l < 6) : Q21 p l = true := by
  have hp : p = 8 ∨ p = 9 ∨ p = 10 ∨ p = 11 ∨ p = 12 ∨ p = 13 ∨ p = 14 ∨ p = 15 := by omega
  rcases hp with rfl | rfl | rfl | rfl | rfl | rfl | rfl | rfl
  · exact qrow_8 l h
  · exact qrow_9 l h
  · exact qrow_10 l h
  · exact qrow_11 l h
  · exact qrow_12 l h
  · exact qrow_13 l h
  · exact qrow_14 l h
  · exact qrow_15 l h
theorem qgrp_2 (p l : Nat) (h0 : 16 ≤ p) (hp : p < 24) (h : l < 6) : Q21 p l = true := by
  have hp : p = 16 ∨ p = 17 ∨ p = 18 ∨ p = 19 ∨ p = 20 ∨ p = 21 ∨ p = 22 ∨ p = 23 := by omega
  rcases hp with rfl | rfl | rfl | rfl | rfl | rfl | rfl | rfl
  · exact qrow_16 l h
  · exact qrow_17 l h
  · exact qrow_18 l h
  · exact qrow_19 l h
  · exact qrow_20 l h
  · exact qrow_21 l h
  · exact qrow_22 l h
  · exact qrow_23 l h
theorem qgrp_3 (p l : Nat) (h0 : 24 ≤ p) (hp : p < 31) (h : l < 6) : Q21 p l = true := by
  have hp : p = 24 ∨ p = 25 ∨ p = 26 ∨ p = 27 ∨ p = 28 ∨ p = 29 ∨ p = 30 := by omega
  rcases hp with rfl | rfl | rfl | rfl | rfl | rfl | rfl
  · exact qrow_24 l h
  · exact qrow_25 l h
  · exact qrow_26 l h
  · exact qrow_27 l h
  · exact qrow_28 l h
  · exact qrow_29 l h
  · exact qrow_30 l h
theorem qruns (p l : Nat) (hp : p < 31) (h : l < 6) : Q21 p l = true := by
  by_cases h1 : p < 8
  · exact qgrp_0 p l (by omega) h1 h
  by_cases h2 : p < 16
  · exact qgrp_1 p l (by omega) h2 h
  by_cases h3 : p < 24
  · exact qgrp_2 p l (by omega) h3 h
  · exact qgrp_3 p l (by omega) hp h
theorem qone (i p l : Nat) (hi : i ≤ 20) (hp : p < 31) (h : l < 6) : Q i p l = true := by
  have h := qruns p l hp h
  unfold Q21 QA QB at h
  simp only [Bool.and_eq_true] at h
  obtain ⟨⟨g0, g1, g2, g3, g4, g5, g6, g7, g8, g9, g10⟩, g11, g12, g13, g14, g15, g16, g17, g18, g19, g20⟩ := h
  have hi : i = 0 ∨ i = 1 ∨ i = 2 ∨ i = 3 ∨ i = 4 ∨ i = 5 ∨ i = 6 ∨ i = 7 ∨ i = 8 ∨ i = 9 ∨ i = 10 ∨ i = 11 ∨ i = 12 ∨ i = 13 ∨ i = 14 ∨ i = 15 ∨ i = 16 ∨ i = 17 ∨ i = 18 ∨ i = 19 ∨ i = 20 := by omega
  rcases hi with rfl | rfl | rfl | rfl | rfl | rfl | rfl | rfl | rfl | rfl | rfl | rfl | rfl | rfl | rfl | rfl | rfl | rfl | rfl | rfl | rfl
  · exact g0
  · exact g1
  · exact g2
  · exact g3
  · exact g4
  · exact g5
  · exact g6
  · exact g7
  · exact g8
  · exact g9
  · exact g10
  · exact g11
  · exact g12
  · exact g13
  · exact g14
  · exact g15
  · exact g16
  · exact g17
  · exact g18
  · exact g19
  · exact g20
end Go.Proofs.YtmgjgdnjkgnbiaaGreatDoor.HM
namespace Go.Proofs.YtmgjgdnjkgnbiaaGreatDoor.Pad
open Go Go.RowKit
theorem pads_in (n : Int) (p : Nat) (bs : List UInt8) (h : InN n) (hp : p < 31) (hl : bs.length < 6) (hb : ∀ (i : Nat) b, bs[i]? = some b → 97 ≤ b.toNat ∧ b.toNat ≤ 122) {W : World} (hT : HM.Tabs W) : GoodP n p ⟨bs.toArray⟩ W := by
  letI := amb h (bs.map fun c => (c.toNat : Int))
  have hneg : HM.VR HM.Ren.nil (HM.negV bs.length) (.string ⟨bs.toArray⟩) := neg_VR bs fun i b hi => by
    refine ⟨?_, hb i b hi⟩
    have hlt : i < 10 := by have := (List.getElem?_eq_some_iff.1 hi).1; omega
    have e := num_c n (bs.map fun c => (c.toNat : Int)) i hlt
    rw [List.getD, List.getElem?_map, hi] at e
    exact e
  have hpad : HM.VR HM.Ren.nil (.int .i64 (.ofNat p)) (.int .i64 (p : Int)) := .int _ _
  by_cases h0 : n = 0
  · subst h0
    exact HM.law_cP (HM.qone 0 p bs.length (by omega) hp hl) (HM.VRs.cons (.int .i64 0) (HM.VRs.cons hpad (HM.VRs.cons hneg (HM.VRs.nil _)))) hT
  · obtain ⟨i, i1, i2, hi⟩ := shape_a h (bs.map fun c => (c.toNat : Int)) h0
    exact HM.law_cP (HM.qone i p bs.length i2 hp hl) (HM.VRs.cons hi (HM.VRs.cons hpad (HM.VRs.cons hneg (HM.VRs.nil _)))) hT
theorem first_bad (s : ByteArray) : (∀ i (h : i < s.size), 97 ≤ s[i].toNat ∧ s[i].toNat ≤ 122) ∨ ∃ j, ∃ h : j < s.size, (s[j].toNat < 97 ∨ 122 < s[j].toNat) ∧ ∀ i (h : i < s.size), i < j → 97 ≤ s[i].toNat ∧ s[i].toNat ≤ 122 := by
  by_cases hall : ∀ i (h : i < s.size), 97 ≤ s[i].toNat ∧ s[i].toNat ≤ 122
  · exact .inl hall
  · right
    have key : ∀ m, (∃ j, ∃ h : j < s.size, j < m ∧ (s[j].toNat < 97 ∨ 122 < s[j].toNat)) → ∃ j, ∃ h : j < s.size, (s[j].toNat < 97 ∨ 122 < s[j].toNat) ∧ ∀ i (h : i < s.size), i < j → 97 ≤ s[i].toNat ∧ s[i].toNat ≤ 122 := by
      intro m
      induction m with
      | zero => rintro ⟨j, h, hj, _⟩; omega
      | succ m ih =>
        rintro ⟨j, h, hj, hb⟩
        by_cases hex : ∃ j', ∃ h' : j' < s.size, j' < m ∧ (s[j'].toNat < 97 ∨ 122 < s[j'].toNat)
        · exact ih hex
        · refine ⟨j, h, hb, fun i hi hij => ?_⟩
          by_cases hq : 97 ≤ s[i].toNat ∧ s[i].toNat ≤ 122
          · exact hq
          · exact absurd ⟨i, hi, by omega, by omega⟩ hex
    have : ∃ i, ∃ h : i < s.size, ¬ (97 ≤ s[i].toNat ∧ s[i].toNat ≤ 122) := by
      apply Classical.byContradiction
      intro hno
      apply hall
      intro i hi
      apply Classical.byContradiction
      intro hc
      exact hno ⟨i, hi, hc⟩
    obtain ⟨i, hi, hc⟩ := this
    exact key s.size ⟨i, hi, hi, by omega⟩
theorem pads_all (n pad : Int) (neg : ByteArray) {W : World} (hT : HM.Tabs W) : GoodP n pad neg W := by
  by_cases ho : n < -2147483648 ∨ 2147483648 ≤ n ∨ pad < 0 ∨ 30 < pad ∨ 5 < neg.size
  · exact pads_out n pad neg ho hT
  · rcases first_bad neg with hall | ⟨j, hj, hb, hg⟩
    · obtain ⟨p, rfl⟩ : ∃ p : Nat, pad = (p : Int) := ⟨pad.toNat, by omega⟩
      have hl : neg.data.toList.length = neg.size := by simp
      have e : neg = ⟨neg.data.toList.toArray⟩ := by simp
      have := pads_in n p neg.data.toList ⟨by omega, by omega⟩ (by omega) (by omega) (fun i b hi => by
        obtain ⟨h1, h2⟩ := List.getElem?_eq_some_iff.1 hi
        have h3 := hall i (by omega)
        have e2 : neg[i] = b := by rw [← h2]; rfl
        rw [e2] at h3; exact h3) hT
      rw [← e] at this
      exact this
    · exact pads_bad n pad neg (by omega) (by omega) (by omega) (by omega) (by omega) j hj hb hg hT
end Go.Proofs.YtmgjgdnjkgnbiaaGreatDoor.Pad
