/- fleuronlaw6.SelectorNests returns true for all numbers, and leaves what was there. -/
import Derived.Test.YtinaapfnfiijnaaGreatDoorSNa1
import Derived.Test.YtinaapfnfiijnaaGreatDoorSNa2
import Derived.Test.YtinaapfnfiijnaaGreatDoorSNa3
import Derived.Test.YtinaapfnfiijnaaGreatDoorSNa4
import Derived.Test.YtinaapfnfiijnaaGreatDoorSNa5
import Derived.Test.YtinaapfnfiijnaaGreatDoorSNa6
import Derived.WalkKit
import Derived.ProofKit
import Derived.OpenShut
namespace Go.Proofs.YtinaapfnfiijnaaGreatDoor.Sel
open Go Go.RowKit
theorem nests_out (n k : Int) (h : ¬ (0 ≤ n ∧ n ≤ 10)) {W : World} (hT : HM.Tabs W) : Calls Tryz.prog 5 #[.int .i64 n, .int .i64 k] W fun e w' => e = .returned (.bool true) ∧ Below W.heap.size W w' := by
  have aw := HM.awake_c hT
  go_enter Tryz.func5, Tryz.ntmps5
  go_wp2_with (first | (go_at_call 7; refine aw.mono ?_; rintro e w' ⟨rfl, hb⟩))
  all_goals first
    | (exfalso; omega)
    | (go_ret; exact ⟨rfl, hb⟩)

theorem walk_nests (n k : Int) {W : World} (hT : HM.Tabs W) : Calls Tryz.prog 5 #[.int .i64 n, .int .i64 k] W fun e w' => e = .returned (.bool true) ∧ Below W.heap.size W w' := by
  by_cases hr : 0 ≤ n ∧ n ≤ 10
  · have key : ∀ i : Nat, k % 4 = (i : Int) → HM.lawRun 5 [.int .i64 n, .mod 4 i] = true → Calls Tryz.prog 5 #[.int .i64 n, .int .i64 k] W fun e w' => e = .returned (.bool true) ∧ Below W.heap.size W w' :=
      fun i hi h => HM.law_c h (HM.VRs.cons (.int .i64 n) (HM.VRs.cons (.mod 4 i k hi) (HM.VRs.nil _))) hT
    have h : k % 4 = 0 ∨ k % 4 = 1 ∨ k % 4 = 2 ∨ k % 4 = 3 := by omega
    have h2 : n = 0 ∨ n = 1 ∨ n = 2 ∨ n = 3 ∨ n = 4 ∨ n = 5 ∨ n = 6 ∨ n = 7 ∨ n = 8 ∨ n = 9 ∨ n = 10 := by omega
    rcases h2 with rfl | rfl | rfl | rfl | rfl | rfl | rfl | rfl | rfl | rfl | rfl
    · rcases h with h | h | h | h
      · exact key 0 h nest0_0
      · exact key 1 h nest0_1
      · exact key 2 h nest0_2
      · exact key 3 h nest0_3
    · rcases h with h | h | h | h
      · exact key 0 h nest1_0
      · exact key 1 h nest1_1
      · exact key 2 h nest1_2
      · exact key 3 h nest1_3
    · rcases h with h | h | h | h
      · exact key 0 h nest2_0
      · exact key 1 h nest2_1
      · exact key 2 h nest2_2
      · exact key 3 h nest2_3
    · rcases h with h | h | h | h
      · exact key 0 h nest3_0
      · exact key 1 h nest3_1
      · exact key 2 h nest3_2
      · exact key 3 h nest3_3
    · rcases h with h | h | h | h
      · exact key 0 h nest4_0
      · exact key 1 h nest4_1
      · exact key 2 h nest4_2
      · exact key 3 h nest4_3
    · rcases h with h | h | h | h
      · exact key 0 h nest5_0
      · exact key 1 h nest5_1
      · exact key 2 h nest5_2
      · exact key 3 h nest5_3
    · rcases h with h | h | h | h
      · exact key 0 h nest6_0
      · exact key 1 h nest6_1
      · exact key 2 h nest6_2
      · exact key 3 h nest6_3
    · rcases h with h | h | h | h
      · exact key 0 h nest7_0
      · exact key 1 h nest7_1
      · exact key 2 h nest7_2
      · exact key 3 h nest7_3
    · rcases h with h | h | h | h
      · exact key 0 h nest8_0
      · exact key 1 h nest8_1
      · exact key 2 h nest8_2
      · exact key 3 h nest8_3
    · rcases h with h | h | h | h
      · exact key 0 h nest9_0
      · exact key 1 h nest9_1
      · exact key 2 h nest9_2
      · exact key 3 h nest9_3
    · rcases h with h | h | h | h
      · exact key 0 h nest10_0
      · exact key 1 h nest10_1
      · exact key 2 h nest10_2
      · exact key 3 h nest10_3
  · exact nests_out n k hr hT
end Go.Proofs.YtinaapfnfiijnaaGreatDoor.Sel
