/- fleuronlaw6.SelectorWeights returns true for all numbers, and leaves what was there. -/
import Derived.Test.YtinaapfnfiijnaaGreatDoorSWo
import Derived.Test.YtinaapfnfiijnaaGreatDoorSWa1
import Derived.Test.YtinaapfnfiijnaaGreatDoorSWa2
import Derived.Test.YtinaapfnfiijnaaGreatDoorSWa3
import Derived.Test.YtinaapfnfiijnaaGreatDoorSWa4
import Derived.Test.YtinaapfnfiijnaaGreatDoorSWa5
import Derived.Test.YtinaapfnfiijnaaGreatDoorSWa6
import Derived.Test.YtinaapfnfiijnaaGreatDoorSWa7
import Derived.Test.YtinaapfnfiijnaaGreatDoorSWa8
import Derived.Test.YtinaapfnfiijnaaGreatDoorSWa9
import Derived.Test.YtinaapfnfiijnaaGreatDoorSWa10
import Derived.Test.YtinaapfnfiijnaaGreatDoorSWa11
import Derived.Test.YtinaapfnfiijnaaGreatDoorSWa12
namespace Go.Proofs.YtinaapfnfiijnaaGreatDoor.Sel
open Go Go.RowKit
theorem walk_weights (a b c how : Int) {W : World} (hT : HM.Tabs W) : Calls Tryz.prog 3 #[.int .i64 a, .int .i64 b, .int .i64 c, .int .i64 how] W fun e w' => e = .returned (.bool true) ∧ Below W.heap.size W w' := by
  by_cases hr : InW a b c
  · obtain ⟨⟨a0, a1⟩, ⟨b0, b1⟩, c0, c1⟩ := hr
    have key : ∀ i : Nat, how % 5 = (i : Int) → HM.lawRun 3 [.int .i64 a, .int .i64 b, .int .i64 c, .mod 5 i] = true → Calls Tryz.prog 3 #[.int .i64 a, .int .i64 b, .int .i64 c, .int .i64 how] W fun e w' => e = .returned (.bool true) ∧ Below W.heap.size W w' :=
      fun i hi h => HM.law_c h (HM.VRs.cons (.int .i64 a) (HM.VRs.cons (.int .i64 b) (HM.VRs.cons (.int .i64 c) (HM.VRs.cons (.mod 5 i how hi) (HM.VRs.nil _))))) hT
    have h5 : how % 5 = 0 ∨ how % 5 = 1 ∨ how % 5 = 2 ∨ how % 5 = 3 ∨ how % 5 = 4 := by omega
    have ha : a = 0 ∨ a = 1 ∨ a = 2 ∨ a = 3 ∨ a = 4 ∨ a = 5 := by omega
    have hb : b = 0 ∨ b = 1 ∨ b = 2 ∨ b = 3 ∨ b = 4 ∨ b = 5 := by omega
    have hc : c = 0 ∨ c = 1 ∨ c = 2 ∨ c = 3 := by omega
    clear a0 a1 b0 b1 c0 c1
    rcases ha with rfl | rfl | rfl | rfl | rfl | rfl
    · rcases hb with rfl | rfl | rfl | rfl | rfl | rfl
      · rcases hc with rfl | rfl | rfl | rfl
        · rcases h5 with h | h | h | h | h
          · exact key 0 h sw0_0_0_0
          · exact key 1 h sw0_0_0_1
          · exact key 2 h sw0_0_0_2
          · exact key 3 h sw0_0_0_3
          · exact key 4 h sw0_0_0_4
        · rcases h5 with h | h | h | h | h
          · exact key 0 h sw0_0_1_0
          · exact key 1 h sw0_0_1_1
          · exact key 2 h sw0_0_1_2
          · exact key 3 h sw0_0_1_3
          · exact key 4 h sw0_0_1_4
        · rcases h5 with h | h | h | h | h
          · exact key 0 h sw0_0_2_0
          · exact key 1 h sw0_0_2_1
          · exact key 2 h sw0_0_2_2
          · exact key 3 h sw0_0_2_3
          · exact key 4 h sw0_0_2_4
        · rcases h5 with h | h | h | h | h
          · exact key 0 h sw0_0_3_0
          · exact key 1 h sw0_0_3_1
          · exact key 2 h sw0_0_3_2
          · exact key 3 h sw0_0_3_3
          · exact key 4 h sw0_0_3_4
      · rcases hc with rfl | rfl | rfl | rfl
        · rcases h5 with h | h | h | h | h
          · exact key 0 h sw0_1_0_0
          · exact key 1 h sw0_1_0_1
          · exact key 2 h sw0_1_0_2
          · exact key 3 h sw0_1_0_3
          · exact key 4 h sw0_1_0_4
        · rcases h5 with h | h | h | h | h
          · exact key 0 h sw0_1_1_0
          · exact key 1 h sw0_1_1_1
          · exact key 2 h sw0_1_1_2
          · exact key 3 h sw0_1_1_3
          · exact key 4 h sw0_1_1_4
        · rcases h5 with h | h | h | h | h
          · exact key 0 h sw0_1_2_0
          · exact key 1 h sw0_1_2_1
          · exact key 2 h sw0_1_2_2
          · exact key 3 h sw0_1_2_3
          · exact key 4 h sw0_1_2_4
        · rcases h5 with h | h | h | h | h
          · exact key 0 h sw0_1_3_0
          · exact key 1 h sw0_1_3_1
          · exact key 2 h sw0_1_3_2
          · exact key 3 h sw0_1_3_3
          · exact key 4 h sw0_1_3_4
      · rcases hc with rfl | rfl | rfl | rfl
        · rcases h5 with h | h | h | h | h
          · exact key 0 h sw0_2_0_0
          · exact key 1 h sw0_2_0_1
          · exact key 2 h sw0_2_0_2
          · exact key 3 h sw0_2_0_3
          · exact key 4 h sw0_2_0_4
        · rcases h5 with h | h | h | h | h
          · exact key 0 h sw0_2_1_0
          · exact key 1 h sw0_2_1_1
          · exact key 2 h sw0_2_1_2
          · exact key 3 h sw0_2_1_3
          · exact key 4 h sw0_2_1_4
        · rcases h5 with h | h | h | h | h
          · exact key 0 h sw0_2_2_0
          · exact key 1 h sw0_2_2_1
          · exact key 2 h sw0_2_2_2
          · exact key 3 h sw0_2_2_3
          · exact key 4 h sw0_2_2_4
        · rcases h5 with h | h | h | h | h
          · exact key 0 h sw0_2_3_0
          · exact key 1 h sw0_2_3_1
          · exact key 2 h sw0_2_3_2
          · exact key 3 h sw0_2_3_3
          · exact key 4 h sw0_2_3_4
      · rcases hc with rfl | rfl | rfl | rfl
        · rcases h5 with h | h | h | h | h
          · exact key 0 h sw0_3_0_0
          · exact key 1 h sw0_3_0_1
          · exact key 2 h sw0_3_0_2
          · exact key 3 h sw0_3_0_3
          · exact key 4 h sw0_3_0_4
        · rcases h5 with h | h | h | h | h
          · exact key 0 h sw0_3_1_0
          · exact key 1 h sw0_3_1_1
          · exact key 2 h sw0_3_1_2
          · exact key 3 h sw0_3_1_3
          · exact key 4 h sw0_3_1_4
        · rcases h5 with h | h | h | h | h
          · exact key 0 h sw0_3_2_0
          · exact key 1 h sw0_3_2_1
          · exact key 2 h sw0_3_2_2
          · exact key 3 h sw0_3_2_3
          · exact key 4 h sw0_3_2_4
        · rcases h5 with h | h | h | h | h
          · exact key 0 h sw0_3_3_0
          · exact key 1 h sw0_3_3_1
          · exact key 2 h sw0_3_3_2
          · exact key 3 h sw0_3_3_3
          · exact key 4 h sw0_3_3_4
      · rcases hc with rfl | rfl | rfl | rfl
        · rcases h5 with h | h | h | h | h
          · exact key 0 h sw0_4_0_0
          · exact key 1 h sw0_4_0_1
          · exact key 2 h sw0_4_0_2
          · exact key 3 h sw0_4_0_3
          · exact key 4 h sw0_4_0_4
        · rcases h5 with h | h | h | h | h
          · exact key 0 h sw0_4_1_0
          · exact key 1 h sw0_4_1_1
          · exact key 2 h sw0_4_1_2
          · exact key 3 h sw0_4_1_3
          · exact key 4 h sw0_4_1_4
        · rcases h5 with h | h | h | h | h
          · exact key 0 h sw0_4_2_0
          · exact key 1 h sw0_4_2_1
          · exact key 2 h sw0_4_2_2
          · exact key 3 h sw0_4_2_3
          · exact key 4 h sw0_4_2_4
        · rcases h5 with h | h | h | h | h
          · exact key 0 h sw0_4_3_0
          · exact key 1 h sw0_4_3_1
          · exact key 2 h sw0_4_3_2
          · exact key 3 h sw0_4_3_3
          · exact key 4 h sw0_4_3_4
      · rcases hc with rfl | rfl | rfl | rfl
        · rcases h5 with h | h | h | h | h
          · exact key 0 h sw0_5_0_0
          · exact key 1 h sw0_5_0_1
          · exact key 2 h sw0_5_0_2
          · exact key 3 h sw0_5_0_3
          · exact key 4 h sw0_5_0_4
        · rcases h5 with h | h | h | h | h
          · exact key 0 h sw0_5_1_0
          · exact key 1 h sw0_5_1_1
          · exact key 2 h sw0_5_1_2
          · exact key 3 h sw0_5_1_3
          · exact key 4 h sw0_5_1_4
        · rcases h5 with h | h | h | h | h
          · exact key 0 h sw0_5_2_0
          · exact key 1 h sw0_5_2_1
          · exact key 2 h sw0_5_2_2
          · exact key 3 h sw0_5_2_3
          · exact key 4 h sw0_5_2_4
        · rcases h5 with h | h | h | h | h
          · exact key 0 h sw0_5_3_0
          · exact key 1 h sw0_5_3_1
          · exact key 2 h sw0_5_3_2
          · exact key 3 h sw0_5_3_3
          · exact key 4 h sw0_5_3_4
    · rcases hb with rfl | rfl | rfl | rfl | rfl | rfl
      · rcases hc with rfl | rfl | rfl | rfl
        · rcases h5 with h | h | h | h | h
          · exact key 0 h sw1_0_0_0
          · exact key 1 h sw1_0_0_1
          · exact key 2 h sw1_0_0_2
          · exact key 3 h sw1_0_0_3
          · exact key 4 h sw1_0_0_4
        · rcases h5 with h | h | h | h | h
          · exact key 0 h sw1_0_1_0
          · exact key 1 h sw1_0_1_1
          · exact key 2 h sw1_0_1_2
          · exact key 3 h sw1_0_1_3
          · exact key 4 h sw1_0_1_4
        · rcases h5 with h | h | h | h | h
          · exact key 0 h sw1_0_2_0
          · exact key 1 h sw1_0_2_1
          · exact key 2 h sw1_0_2_2
          · exact key 3 h sw1_0_2_3
          · exact key 4 h sw1_0_2_4
        · rcases h5 with h | h | h | h | h
          · exact key 0 h sw1_0_3_0
          · exact key 1 h sw1_0_3_1
          · exact key 2 h sw1_0_3_2
          · exact key 3 h sw1_0_3_3
          · exact key 4 h sw1_0_3_4
      · rcases hc with rfl | rfl | rfl | rfl
        · rcases h5 with h | h | h | h | h
          · exact key 0 h sw1_1_0_0
          · exact key 1 h sw1_1_0_1
          · exact key 2 h sw1_1_0_2
          · exact key 3 h sw1_1_0_3
          · exact key 4 h sw1_1_0_4
        · rcases h5 with h | h | h | h | h
          · exact key 0 h sw1_1_1_0
          · exact key 1 h sw1_1_1_1
          · exact key 2 h sw1_1_1_2
          · exact key 3 h sw1_1_1_3
          · exact key 4 h sw1_1_1_4
        · rcases h5 with h | h | h | h | h
          · exact key 0 h sw1_1_2_0
          · exact key 1 h sw1_1_2_1
          · exact key 2 h sw1_1_2_2
          · exact key 3 h sw1_1_2_3
          · exact key 4 h sw1_1_2_4
        · rcases h5 with h | h | h | h | h
          · exact key 0 h sw1_1_3_0
          · exact key 1 h sw1_1_3_1
          · exact key 2 h sw1_1_3_2
          · exact key 3 h sw1_1_3_3
          · exact key 4 h sw1_1_3_4
      · rcases hc with rfl | rfl | rfl | rfl
        · rcases h5 with h | h | h | h | h
          · exact key 0 h sw1_2_0_0
          · exact key 1 h sw1_2_0_1
          · exact key 2 h sw1_2_0_2
          · exact key 3 h sw1_2_0_3
          · exact key 4 h sw1_2_0_4
        · rcases h5 with h | h | h | h | h
          · exact key 0 h sw1_2_1_0
          · exact key 1 h sw1_2_1_1
          · exact key 2 h sw1_2_1_2
          · exact key 3 h sw1_2_1_3
          · exact key 4 h sw1_2_1_4
        · rcases h5 with h | h | h | h | h
          · exact key 0 h sw1_2_2_0
          · exact key 1 h sw1_2_2_1
          · exact key 2 h sw1_2_2_2
          · exact key 3 h sw1_2_2_3
          · exact key 4 h sw1_2_2_4
        · rcases h5 with h | h | h | h | h
          · exact key 0 h sw1_2_3_0
          · exact key 1 h sw1_2_3_1
          · exact key 2 h sw1_2_3_2
          · exact key 3 h sw1_2_3_3
          · exact key 4 h sw1_2_3_4
      · rcases hc with rfl | rfl | rfl | rfl
        · rcases h5 with h | h | h | h | h
          · exact key 0 h sw1_3_0_0
          · exact key 1 h sw1_3_0_1
          · exact key 2 h sw1_3_0_2
          · exact key 3 h sw1_3_0_3
          · exact key 4 h sw1_3_0_4
        · rcases h5 with h | h | h | h | h
          · exact key 0 h sw1_3_1_0
          · exact key 1 h sw1_3_1_1
          · exact key 2 h sw1_3_1_2
          · exact key 3 h sw1_3_1_3
          · exact key 4 h sw1_3_1_4
        · rcases h5 with h | h | h | h | h
          · exact key 0 h sw1_3_2_0
          · exact key 1 h sw1_3_2_1
          · exact key 2 h sw1_3_2_2
          · exact key 3 h sw1_3_2_3
          · exact key 4 h sw1_3_2_4
        · rcases h5 with h | h | h | h | h
          · exact key 0 h sw1_3_3_0
          · exact key 1 h sw1_3_3_1
          · exact key 2 h sw1_3_3_2
          · exact key 3 h sw1_3_3_3
          · exact key 4 h sw1_3_3_4
      · rcases hc with rfl | rfl | rfl | rfl
        · rcases h5 with h | h | h | h | h
          · exact key 0 h sw1_4_0_0
          · exact key 1 h sw1_4_0_1
          · exact key 2 h sw1_4_0_2
          · exact key 3 h sw1_4_0_3
          · exact key 4 h sw1_4_0_4
        · rcases h5 with h | h | h | h | h
          · exact key 0 h sw1_4_1_0
          · exact key 1 h sw1_4_1_1
          · exact key 2 h sw1_4_1_2
          · exact key 3 h sw1_4_1_3
          · exact key 4 h sw1_4_1_4
        · rcases h5 with h | h | h | h | h
          · exact key 0 h sw1_4_2_0
          · exact key 1 h sw1_4_2_1
          · exact key 2 h sw1_4_2_2
          · exact key 3 h sw1_4_2_3
          · exact key 4 h sw1_4_2_4
        · rcases h5 with h | h | h | h | h
          · exact key 0 h sw1_4_3_0
          · exact key 1 h sw1_4_3_1
          · exact key 2 h sw1_4_3_2
          · exact key 3 h sw1_4_3_3
          · exact key 4 h sw1_4_3_4
      · rcases hc with rfl | rfl | rfl | rfl
        · rcases h5 with h | h | h | h | h
          · exact key 0 h sw1_5_0_0
          · exact key 1 h sw1_5_0_1
          · exact key 2 h sw1_5_0_2
          · exact key 3 h sw1_5_0_3
          · exact key 4 h sw1_5_0_4
        · rcases h5 with h | h | h | h | h
          · exact key 0 h sw1_5_1_0
          · exact key 1 h sw1_5_1_1
          · exact key 2 h sw1_5_1_2
          · exact key 3 h sw1_5_1_3
          · exact key 4 h sw1_5_1_4
        · rcases h5 with h | h | h | h | h
          · exact key 0 h sw1_5_2_0
          · exact key 1 h sw1_5_2_1
          · exact key 2 h sw1_5_2_2
          · exact key 3 h sw1_5_2_3
          · exact key 4 h sw1_5_2_4
        · rcases h5 with h | h | h | h | h
          · exact key 0 h sw1_5_3_0
          · exact key 1 h sw1_5_3_1
          · exact key 2 h sw1_5_3_2
          · exact key 3 h sw1_5_3_3
          · exact key 4 h sw1_5_3_4
    · rcases hb with rfl | rfl | rfl | rfl | rfl | rfl
      · rcases hc with rfl | rfl | rfl | rfl
        · rcases h5 with h | h | h | h | h
          · exact key 0 h sw2_0_0_0
          · exact key 1 h sw2_0_0_1
          · exact key 2 h sw2_0_0_2
          · exact key 3 h sw2_0_0_3
          · exact key 4 h sw2_0_0_4
        · rcases h5 with h | h | h | h | h
          · exact key 0 h sw2_0_1_0
          · exact key 1 h sw2_0_1_1
          · exact key 2 h sw2_0_1_2
          · exact key 3 h sw2_0_1_3
          · exact key 4 h sw2_0_1_4
        · rcases h5 with h | h | h | h | h
          · exact key 0 h sw2_0_2_0
          · exact key 1 h sw2_0_2_1
          · exact key 2 h sw2_0_2_2
          · exact key 3 h sw2_0_2_3
          · exact key 4 h sw2_0_2_4
        · rcases h5 with h | h | h | h | h
          · exact key 0 h sw2_0_3_0
          · exact key 1 h sw2_0_3_1
          · exact key 2 h sw2_0_3_2
          · exact key 3 h sw2_0_3_3
          · exact key 4 h sw2_0_3_4
      · rcases hc with rfl | rfl | rfl | rfl
        · rcases h5 with h | h | h | h | h
          · exact key 0 h sw2_1_0_0
          · exact key 1 h sw2_1_0_1
          · exact key 2 h sw2_1_0_2
          · exact key 3 h sw2_1_0_3
          · exact key 4 h sw2_1_0_4
        · rcases h5 with h | h | h | h | h
          · exact key 0 h sw2_1_1_0
          · exact key 1 h sw2_1_1_1
          · exact key 2 h sw2_1_1_2
          · exact key 3 h sw2_1_1_3
          · exact key 4 h sw2_1_1_4
        · rcases h5 with h | h | h | h | h
          · exact key 0 h sw2_1_2_0
          · exact key 1 h sw2_1_2_1
          · exact key 2 h sw2_1_2_2
          · exact key 3 h sw2_1_2_3
          · exact key 4 h sw2_1_2_4
        · rcases h5 with h | h | h | h | h
          · exact key 0 h sw2_1_3_0
          · exact key 1 h sw2_1_3_1
          · exact key 2 h sw2_1_3_2
          · exact key 3 h sw2_1_3_3
          · exact key 4 h sw2_1_3_4
      · rcases hc with rfl | rfl | rfl | rfl
        · rcases h5 with h | h | h | h | h
          · exact key 0 h sw2_2_0_0
          · exact key 1 h sw2_2_0_1
          · exact key 2 h sw2_2_0_2
          · exact key 3 h sw2_2_0_3
          · exact key 4 h sw2_2_0_4
        · rcases h5 with h | h | h | h | h
          · exact key 0 h sw2_2_1_0
          · exact key 1 h sw2_2_1_1
          · exact key 2 h sw2_2_1_2
          · exact key 3 h sw2_2_1_3
          · exact key 4 h sw2_2_1_4
        · rcases h5 with h | h | h | h | h
          · exact key 0 h sw2_2_2_0
          · exact key 1 h sw2_2_2_1
          · exact key 2 h sw2_2_2_2
          · exact key 3 h sw2_2_2_3
          · exact key 4 h sw2_2_2_4
        · rcases h5 with h | h | h | h | h
          · exact key 0 h sw2_2_3_0
          · exact key 1 h sw2_2_3_1
          · exact key 2 h sw2_2_3_2
          · exact key 3 h sw2_2_3_3
          · exact key 4 h sw2_2_3_4
      · rcases hc with rfl | rfl | rfl | rfl
        · rcases h5 with h | h | h | h | h
          · exact key 0 h sw2_3_0_0
          · exact key 1 h sw2_3_0_1
          · exact key 2 h sw2_3_0_2
          · exact key 3 h sw2_3_0_3
          · exact key 4 h sw2_3_0_4
        · rcases h5 with h | h | h | h | h
          · exact key 0 h sw2_3_1_0
          · exact key 1 h sw2_3_1_1
          · exact key 2 h sw2_3_1_2
          · exact key 3 h sw2_3_1_3
          · exact key 4 h sw2_3_1_4
        · rcases h5 with h | h | h | h | h
          · exact key 0 h sw2_3_2_0
          · exact key 1 h sw2_3_2_1
          · exact key 2 h sw2_3_2_2
          · exact key 3 h sw2_3_2_3
          · exact key 4 h sw2_3_2_4
        · rcases h5 with h | h | h | h | h
          · exact key 0 h sw2_3_3_0
          · exact key 1 h sw2_3_3_1
          · exact key 2 h sw2_3_3_2
          · exact key 3 h sw2_3_3_3
          · exact key 4 h sw2_3_3_4
      · rcases hc with rfl | rfl | rfl | rfl
        · rcases h5 with h | h | h | h | h
          · exact key 0 h sw2_4_0_0
          · exact key 1 h sw2_4_0_1
          · exact key 2 h sw2_4_0_2
          · exact key 3 h sw2_4_0_3
          · exact key 4 h sw2_4_0_4
        · rcases h5 with h | h | h | h | h
          · exact key 0 h sw2_4_1_0
          · exact key 1 h sw2_4_1_1
          · exact key 2 h sw2_4_1_2
          · exact key 3 h sw2_4_1_3
          · exact key 4 h sw2_4_1_4
        · rcases h5 with h | h | h | h | h
          · exact key 0 h sw2_4_2_0
          · exact key 1 h sw2_4_2_1
          · exact key 2 h sw2_4_2_2
          · exact key 3 h sw2_4_2_3
          · exact key 4 h sw2_4_2_4
        · rcases h5 with h | h | h | h | h
          · exact key 0 h sw2_4_3_0
          · exact key 1 h sw2_4_3_1
          · exact key 2 h sw2_4_3_2
          · exact key 3 h sw2_4_3_3
          · exact key 4 h sw2_4_3_4
      · rcases hc with rfl | rfl | rfl | rfl
        · rcases h5 with h | h | h | h | h
          · exact key 0 h sw2_5_0_0
          · exact key 1 h sw2_5_0_1
          · exact key 2 h sw2_5_0_2
          · exact key 3 h sw2_5_0_3
          · exact key 4 h sw2_5_0_4
        · rcases h5 with h | h | h | h | h
          · exact key 0 h sw2_5_1_0
          · exact key 1 h sw2_5_1_1
          · exact key 2 h sw2_5_1_2
          · exact key 3 h sw2_5_1_3
          · exact key 4 h sw2_5_1_4
        · rcases h5 with h | h | h | h | h
          · exact key 0 h sw2_5_2_0
          · exact key 1 h sw2_5_2_1
          · exact key 2 h sw2_5_2_2
          · exact key 3 h sw2_5_2_3
          · exact key 4 h sw2_5_2_4
        · rcases h5 with h | h | h | h | h
          · exact key 0 h sw2_5_3_0
          · exact key 1 h sw2_5_3_1
          · exact key 2 h sw2_5_3_2
          · exact key 3 h sw2_5_3_3
          · exact key 4 h sw2_5_3_4
    · rcases hb with rfl | rfl | rfl | rfl | rfl | rfl
      · rcases hc with rfl | rfl | rfl | rfl
        · rcases h5 with h | h | h | h | h
          · exact key 0 h sw3_0_0_0
          · exact key 1 h sw3_0_0_1
          · exact key 2 h sw3_0_0_2
          · exact key 3 h sw3_0_0_3
          · exact key 4 h sw3_0_0_4
        · rcases h5 with h | h | h | h | h
          · exact key 0 h sw3_0_1_0
          · exact key 1 h sw3_0_1_1
          · exact key 2 h sw3_0_1_2
          · exact key 3 h sw3_0_1_3
          · exact key 4 h sw3_0_1_4
        · rcases h5 with h | h | h | h | h
          · exact key 0 h sw3_0_2_0
          · exact key 1 h sw3_0_2_1
          · exact key 2 h sw3_0_2_2
          · exact key 3 h sw3_0_2_3
          · exact key 4 h sw3_0_2_4
        · rcases h5 with h | h | h | h | h
          · exact key 0 h sw3_0_3_0
          · exact key 1 h sw3_0_3_1
          · exact key 2 h sw3_0_3_2
          · exact key 3 h sw3_0_3_3
          · exact key 4 h sw3_0_3_4
      · rcases hc with rfl | rfl | rfl | rfl
        · rcases h5 with h | h | h | h | h
          · exact key 0 h sw3_1_0_0
          · exact key 1 h sw3_1_0_1
          · exact key 2 h sw3_1_0_2
          · exact key 3 h sw3_1_0_3
          · exact key 4 h sw3_1_0_4
        · rcases h5 with h | h | h | h | h
          · exact key 0 h sw3_1_1_0
          · exact key 1 h sw3_1_1_1
          · exact key 2 h sw3_1_1_2
          · exact key 3 h sw3_1_1_3
          · exact key 4 h sw3_1_1_4
        · rcases h5 with h | h | h | h | h
          · exact key 0 h sw3_1_2_0
          · exact key 1 h sw3_1_2_1
          · exact key 2 h sw3_1_2_2
          · exact key 3 h sw3_1_2_3
          · exact key 4 h sw3_1_2_4
        · rcases h5 with h | h | h | h | h
          · exact key 0 h sw3_1_3_0
          · exact key 1 h sw3_1_3_1
          · exact key 2 h sw3_1_3_2
          · exact key 3 h sw3_1_3_3
          · exact key 4 h sw3_1_3_4
      · rcases hc with rfl | rfl | rfl | rfl
        · rcases h5 with h | h | h | h | h
          · exact key 0 h sw3_2_0_0
          · exact key 1 h sw3_2_0_1
          · exact key 2 h sw3_2_0_2
          · exact key 3 h sw3_2_0_3
          · exact key 4 h sw3_2_0_4
        · rcases h5 with h | h | h | h | h
          · exact key 0 h sw3_2_1_0
          · exact key 1 h sw3_2_1_1
          · exact key 2 h sw3_2_1_2
          · exact key 3 h sw3_2_1_3
          · exact key 4 h sw3_2_1_4
        · rcases h5 with h | h | h | h | h
          · exact key 0 h sw3_2_2_0
          · exact key 1 h sw3_2_2_1
          · exact key 2 h sw3_2_2_2
          · exact key 3 h sw3_2_2_3
          · exact key 4 h sw3_2_2_4
        · rcases h5 with h | h | h | h | h
          · exact key 0 h sw3_2_3_0
          · exact key 1 h sw3_2_3_1
          · exact key 2 h sw3_2_3_2
          · exact key 3 h sw3_2_3_3
          · exact key 4 h sw3_2_3_4
      · rcases hc with rfl | rfl | rfl | rfl
        · rcases h5 with h | h | h | h | h
          · exact key 0 h sw3_3_0_0
          · exact key 1 h sw3_3_0_1
          · exact key 2 h sw3_3_0_2
          · exact key 3 h sw3_3_0_3
          · exact key 4 h sw3_3_0_4
        · rcases h5 with h | h | h | h | h
          · exact key 0 h sw3_3_1_0
          · exact key 1 h sw3_3_1_1
          · exact key 2 h sw3_3_1_2
          · exact key 3 h sw3_3_1_3
          · exact key 4 h sw3_3_1_4
        · rcases h5 with h | h | h | h | h
          · exact key 0 h sw3_3_2_0
          · exact key 1 h sw3_3_2_1
          · exact key 2 h sw3_3_2_2
          · exact key 3 h sw3_3_2_3
          · exact key 4 h sw3_3_2_4
        · rcases h5 with h | h | h | h | h
          · exact key 0 h sw3_3_3_0
          · exact key 1 h sw3_3_3_1
          · exact key 2 h sw3_3_3_2
          · exact key 3 h sw3_3_3_3
          · exact key 4 h sw3_3_3_4
      · rcases hc with rfl | rfl | rfl | rfl
        · rcases h5 with h | h | h | h | h
          · exact key 0 h sw3_4_0_0
          · exact key 1 h sw3_4_0_1
          · exact key 2 h sw3_4_0_2
          · exact key 3 h sw3_4_0_3
          · exact key 4 h sw3_4_0_4
        · rcases h5 with h | h | h | h | h
          · exact key 0 h sw3_4_1_0
          · exact key 1 h sw3_4_1_1
          · exact key 2 h sw3_4_1_2
          · exact key 3 h sw3_4_1_3
          · exact key 4 h sw3_4_1_4
        · rcases h5 with h | h | h | h | h
          · exact key 0 h sw3_4_2_0
          · exact key 1 h sw3_4_2_1
          · exact key 2 h sw3_4_2_2
          · exact key 3 h sw3_4_2_3
          · exact key 4 h sw3_4_2_4
        · rcases h5 with h | h | h | h | h
          · exact key 0 h sw3_4_3_0
          · exact key 1 h sw3_4_3_1
          · exact key 2 h sw3_4_3_2
          · exact key 3 h sw3_4_3_3
          · exact key 4 h sw3_4_3_4
      · rcases hc with rfl | rfl | rfl | rfl
        · rcases h5 with h | h | h | h | h
          · exact key 0 h sw3_5_0_0
          · exact key 1 h sw3_5_0_1
          · exact key 2 h sw3_5_0_2
          · exact key 3 h sw3_5_0_3
          · exact key 4 h sw3_5_0_4
        · rcases h5 with h | h | h | h | h
          · exact key 0 h sw3_5_1_0
          · exact key 1 h sw3_5_1_1
          · exact key 2 h sw3_5_1_2
          · exact key 3 h sw3_5_1_3
          · exact key 4 h sw3_5_1_4
        · rcases h5 with h | h | h | h | h
          · exact key 0 h sw3_5_2_0
          · exact key 1 h sw3_5_2_1
          · exact key 2 h sw3_5_2_2
          · exact key 3 h sw3_5_2_3
          · exact key 4 h sw3_5_2_4
        · rcases h5 with h | h | h | h | h
          · exact key 0 h sw3_5_3_0
          · exact key 1 h sw3_5_3_1
          · exact key 2 h sw3_5_3_2
          · exact key 3 h sw3_5_3_3
          · exact key 4 h sw3_5_3_4
    · rcases hb with rfl | rfl | rfl | rfl | rfl | rfl
      · rcases hc with rfl | rfl | rfl | rfl
        · rcases h5 with h | h | h | h | h
          · exact key 0 h sw4_0_0_0
          · exact key 1 h sw4_0_0_1
          · exact key 2 h sw4_0_0_2
          · exact key 3 h sw4_0_0_3
          · exact key 4 h sw4_0_0_4
        · rcases h5 with h | h | h | h | h
          · exact key 0 h sw4_0_1_0
          · exact key 1 h sw4_0_1_1
          · exact key 2 h sw4_0_1_2
          · exact key 3 h sw4_0_1_3
          · exact key 4 h sw4_0_1_4
        · rcases h5 with h | h | h | h | h
          · exact key 0 h sw4_0_2_0
          · exact key 1 h sw4_0_2_1
          · exact key 2 h sw4_0_2_2
          · exact key 3 h sw4_0_2_3
          · exact key 4 h sw4_0_2_4
        · rcases h5 with h | h | h | h | h
          · exact key 0 h sw4_0_3_0
          · exact key 1 h sw4_0_3_1
          · exact key 2 h sw4_0_3_2
          · exact key 3 h sw4_0_3_3
          · exact key 4 h sw4_0_3_4
      · rcases hc with rfl | rfl | rfl | rfl
        · rcases h5 with h | h | h | h | h
          · exact key 0 h sw4_1_0_0
          · exact key 1 h sw4_1_0_1
          · exact key 2 h sw4_1_0_2
          · exact key 3 h sw4_1_0_3
          · exact key 4 h sw4_1_0_4
        · rcases h5 with h | h | h | h | h
          · exact key 0 h sw4_1_1_0
          · exact key 1 h sw4_1_1_1
          · exact key 2 h sw4_1_1_2
          · exact key 3 h sw4_1_1_3
          · exact key 4 h sw4_1_1_4
        · rcases h5 with h | h | h | h | h
          · exact key 0 h sw4_1_2_0
          · exact key 1 h sw4_1_2_1
          · exact key 2 h sw4_1_2_2
          · exact key 3 h sw4_1_2_3
          · exact key 4 h sw4_1_2_4
        · rcases h5 with h | h | h | h | h
          · exact key 0 h sw4_1_3_0
          · exact key 1 h sw4_1_3_1
          · exact key 2 h sw4_1_3_2
          · exact key 3 h sw4_1_3_3
          · exact key 4 h sw4_1_3_4
      · rcases hc with rfl | rfl | rfl | rfl
        · rcases h5 with h | h | h | h | h
          · exact key 0 h sw4_2_0_0
          · exact key 1 h sw4_2_0_1
          · exact key 2 h sw4_2_0_2
          · exact key 3 h sw4_2_0_3
          · exact key 4 h sw4_2_0_4
        · rcases h5 with h | h | h | h | h
          · exact key 0 h sw4_2_1_0
          · exact key 1 h sw4_2_1_1
          · exact key 2 h sw4_2_1_2
          · exact key 3 h sw4_2_1_3
          · exact key 4 h sw4_2_1_4
        · rcases h5 with h | h | h | h | h
          · exact key 0 h sw4_2_2_0
          · exact key 1 h sw4_2_2_1
          · exact key 2 h sw4_2_2_2
          · exact key 3 h sw4_2_2_3
          · exact key 4 h sw4_2_2_4
        · rcases h5 with h | h | h | h | h
          · exact key 0 h sw4_2_3_0
          · exact key 1 h sw4_2_3_1
          · exact key 2 h sw4_2_3_2
          · exact key 3 h sw4_2_3_3
          · exact key 4 h sw4_2_3_4
      · rcases hc with rfl | rfl | rfl | rfl
        · rcases h5 with h | h | h | h | h
          · exact key 0 h sw4_3_0_0
          · exact key 1 h sw4_3_0_1
          · exact key 2 h sw4_3_0_2
          · exact key 3 h sw4_3_0_3
          · exact key 4 h sw4_3_0_4
        · rcases h5 with h | h | h | h | h
          · exact key 0 h sw4_3_1_0
          · exact key 1 h sw4_3_1_1
          · exact key 2 h sw4_3_1_2
          · exact key 3 h sw4_3_1_3
          · exact key 4 h sw4_3_1_4
        · rcases h5 with h | h | h | h | h
          · exact key 0 h sw4_3_2_0
          · exact key 1 h sw4_3_2_1
          · exact key 2 h sw4_3_2_2
          · exact key 3 h sw4_3_2_3
          · exact key 4 h sw4_3_2_4
        · rcases h5 with h | h | h | h | h
          · exact key 0 h sw4_3_3_0
          · exact key 1 h sw4_3_3_1
          · exact key 2 h sw4_3_3_2
          · exact key 3 h sw4_3_3_3
          · exact key 4 h sw4_3_3_4
      · rcases hc with rfl | rfl | rfl | rfl
        · rcases h5 with h | h | h | h | h
          · exact key 0 h sw4_4_0_0
          · exact key 1 h sw4_4_0_1
          · exact key 2 h sw4_4_0_2
          · exact key 3 h sw4_4_0_3
          · exact key 4 h sw4_4_0_4
        · rcases h5 with h | h | h | h | h
          · exact key 0 h sw4_4_1_0
          · exact key 1 h sw4_4_1_1
          · exact key 2 h sw4_4_1_2
          · exact key 3 h sw4_4_1_3
          · exact key 4 h sw4_4_1_4
        · rcases h5 with h | h | h | h | h
          · exact key 0 h sw4_4_2_0
          · exact key 1 h sw4_4_2_1
          · exact key 2 h sw4_4_2_2
          · exact key 3 h sw4_4_2_3
          · exact key 4 h sw4_4_2_4
        · rcases h5 with h | h | h | h | h
          · exact key 0 h sw4_4_3_0
          · exact key 1 h sw4_4_3_1
          · exact key 2 h sw4_4_3_2
          · exact key 3 h sw4_4_3_3
          · exact key 4 h sw4_4_3_4
      · rcases hc with rfl | rfl | rfl | rfl
        · rcases h5 with h | h | h | h | h
          · exact key 0 h sw4_5_0_0
          · exact key 1 h sw4_5_0_1
          · exact key 2 h sw4_5_0_2
          · exact key 3 h sw4_5_0_3
          · exact key 4 h sw4_5_0_4
        · rcases h5 with h | h | h | h | h
          · exact key 0 h sw4_5_1_0
          · exact key 1 h sw4_5_1_1
          · exact key 2 h sw4_5_1_2
          · exact key 3 h sw4_5_1_3
          · exact key 4 h sw4_5_1_4
        · rcases h5 with h | h | h | h | h
          · exact key 0 h sw4_5_2_0
          · exact key 1 h sw4_5_2_1
          · exact key 2 h sw4_5_2_2
          · exact key 3 h sw4_5_2_3
          · exact key 4 h sw4_5_2_4
        · rcases h5 with h | h | h | h | h
          · exact key 0 h sw4_5_3_0
          · exact key 1 h sw4_5_3_1
          · exact key 2 h sw4_5_3_2
          · exact key 3 h sw4_5_3_3
          · exact key 4 h sw4_5_3_4
    · rcases hb with rfl | rfl | rfl | rfl | rfl | rfl
      · rcases hc with rfl | rfl | rfl | rfl
        · rcases h5 with h | h | h | h | h
          · exact key 0 h sw5_0_0_0
          · exact key 1 h sw5_0_0_1
          · exact key 2 h sw5_0_0_2
          · exact key 3 h sw5_0_0_3
          · exact key 4 h sw5_0_0_4
        · rcases h5 with h | h | h | h | h
          · exact key 0 h sw5_0_1_0
          · exact key 1 h sw5_0_1_1
          · exact key 2 h sw5_0_1_2
          · exact key 3 h sw5_0_1_3
          · exact key 4 h sw5_0_1_4
        · rcases h5 with h | h | h | h | h
          · exact key 0 h sw5_0_2_0
          · exact key 1 h sw5_0_2_1
          · exact key 2 h sw5_0_2_2
          · exact key 3 h sw5_0_2_3
          · exact key 4 h sw5_0_2_4
        · rcases h5 with h | h | h | h | h
          · exact key 0 h sw5_0_3_0
          · exact key 1 h sw5_0_3_1
          · exact key 2 h sw5_0_3_2
          · exact key 3 h sw5_0_3_3
          · exact key 4 h sw5_0_3_4
      · rcases hc with rfl | rfl | rfl | rfl
        · rcases h5 with h | h | h | h | h
          · exact key 0 h sw5_1_0_0
          · exact key 1 h sw5_1_0_1
          · exact key 2 h sw5_1_0_2
          · exact key 3 h sw5_1_0_3
          · exact key 4 h sw5_1_0_4
        · rcases h5 with h | h | h | h | h
          · exact key 0 h sw5_1_1_0
          · exact key 1 h sw5_1_1_1
          · exact key 2 h sw5_1_1_2
          · exact key 3 h sw5_1_1_3
          · exact key 4 h sw5_1_1_4
        · rcases h5 with h | h | h | h | h
          · exact key 0 h sw5_1_2_0
          · exact key 1 h sw5_1_2_1
          · exact key 2 h sw5_1_2_2
          · exact key 3 h sw5_1_2_3
          · exact key 4 h sw5_1_2_4
        · rcases h5 with h | h | h | h | h
          · exact key 0 h sw5_1_3_0
          · exact key 1 h sw5_1_3_1
          · exact key 2 h sw5_1_3_2
          · exact key 3 h sw5_1_3_3
          · exact key 4 h sw5_1_3_4
      · rcases hc with rfl | rfl | rfl | rfl
        · rcases h5 with h | h | h | h | h
          · exact key 0 h sw5_2_0_0
          · exact key 1 h sw5_2_0_1
          · exact key 2 h sw5_2_0_2
          · exact key 3 h sw5_2_0_3
          · exact key 4 h sw5_2_0_4
        · rcases h5 with h | h | h | h | h
          · exact key 0 h sw5_2_1_0
          · exact key 1 h sw5_2_1_1
          · exact key 2 h sw5_2_1_2
          · exact key 3 h sw5_2_1_3
          · exact key 4 h sw5_2_1_4
        · rcases h5 with h | h | h | h | h
          · exact key 0 h sw5_2_2_0
          · exact key 1 h sw5_2_2_1
          · exact key 2 h sw5_2_2_2
          · exact key 3 h sw5_2_2_3
          · exact key 4 h sw5_2_2_4
        · rcases h5 with h | h | h | h | h
          · exact key 0 h sw5_2_3_0
          · exact key 1 h sw5_2_3_1
          · exact key 2 h sw5_2_3_2
          · exact key 3 h sw5_2_3_3
          · exact key 4 h sw5_2_3_4
      · rcases hc with rfl | rfl | rfl | rfl
        · rcases h5 with h | h | h | h | h
          · exact key 0 h sw5_3_0_0
          · exact key 1 h sw5_3_0_1
          · exact key 2 h sw5_3_0_2
          · exact key 3 h sw5_3_0_3
          · exact key 4 h sw5_3_0_4
        · rcases h5 with h | h | h | h | h
          · exact key 0 h sw5_3_1_0
          · exact key 1 h sw5_3_1_1
          · exact key 2 h sw5_3_1_2
          · exact key 3 h sw5_3_1_3
          · exact key 4 h sw5_3_1_4
        · rcases h5 with h | h | h | h | h
          · exact key 0 h sw5_3_2_0
          · exact key 1 h sw5_3_2_1
          · exact key 2 h sw5_3_2_2
          · exact key 3 h sw5_3_2_3
          · exact key 4 h sw5_3_2_4
        · rcases h5 with h | h | h | h | h
          · exact key 0 h sw5_3_3_0
          · exact key 1 h sw5_3_3_1
          · exact key 2 h sw5_3_3_2
          · exact key 3 h sw5_3_3_3
          · exact key 4 h sw5_3_3_4
      · rcases hc with rfl | rfl | rfl | rfl
        · rcases h5 with h | h | h | h | h
          · exact key 0 h sw5_4_0_0
          · exact key 1 h sw5_4_0_1
          · exact key 2 h sw5_4_0_2
          · exact key 3 h sw5_4_0_3
          · exact key 4 h sw5_4_0_4
        · rcases h5 with h | h | h | h | h
          · exact key 0 h sw5_4_1_0
          · exact key 1 h sw5_4_1_1
          · exact key 2 h sw5_4_1_2
          · exact key 3 h sw5_4_1_3
          · exact key 4 h sw5_4_1_4
        · rcases h5 with h | h | h | h | h
          · exact key 0 h sw5_4_2_0
          · exact key 1 h sw5_4_2_1
          · exact key 2 h sw5_4_2_2
          · exact key 3 h sw5_4_2_3
          · exact key 4 h sw5_4_2_4
        · rcases h5 with h | h | h | h | h
          · exact key 0 h sw5_4_3_0
          · exact key 1 h sw5_4_3_1
          · exact key 2 h sw5_4_3_2
          · exact key 3 h sw5_4_3_3
          · exact key 4 h sw5_4_3_4
      · rcases hc with rfl | rfl | rfl | rfl
        · rcases h5 with h | h | h | h | h
          · exact key 0 h sw5_5_0_0
          · exact key 1 h sw5_5_0_1
          · exact key 2 h sw5_5_0_2
          · exact key 3 h sw5_5_0_3
          · exact key 4 h sw5_5_0_4
        · rcases h5 with h | h | h | h | h
          · exact key 0 h sw5_5_1_0
          · exact key 1 h sw5_5_1_1
          · exact key 2 h sw5_5_1_2
          · exact key 3 h sw5_5_1_3
          · exact key 4 h sw5_5_1_4
        · rcases h5 with h | h | h | h | h
          · exact key 0 h sw5_5_2_0
          · exact key 1 h sw5_5_2_1
          · exact key 2 h sw5_5_2_2
          · exact key 3 h sw5_5_2_3
          · exact key 4 h sw5_5_2_4
        · rcases h5 with h | h | h | h | h
          · exact key 0 h sw5_5_3_0
          · exact key 1 h sw5_5_3_1
          · exact key 2 h sw5_5_3_2
          · exact key 3 h sw5_5_3_3
          · exact key 4 h sw5_5_3_4
  · exact weights_out a b c how hr hT
end Go.Proofs.YtinaapfnfiijnaaGreatDoor.Sel
