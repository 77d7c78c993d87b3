/- fleuronlaw14.ComputedPseudo returns true for every number, and leaves what was there. -/
import Derived.Test.YtamgnggeckomkaaGreatDoorSCa1
import Derived.Test.YtamgnggeckomkaaGreatDoorSCa2
import Derived.Test.YtamgnggeckomkaaGreatDoorSCa3
import Derived.Test.YtamgnggeckomkaaGreatDoorSCa4
namespace Go.Proofs.YtamgnggeckomkaaGreatDoor.Sel
open Go Go.RowKit
theorem walk_all (k : Int) {W : World} (hT : HM.Tabs W) : Calls Tryz.prog 4 #[.int .i64 k] W fun e w' => e = .returned (.bool true) ∧ Below W.heap.size W w' := by
  have key : ∀ i : Nat, k % 5 = (i : Int) → HM.lawRun 4 [.mod 5 i] = true → Calls Tryz.prog 4 #[.int .i64 k] W fun e w' => e = .returned (.bool true) ∧ Below W.heap.size W w' :=
    fun i hi h => HM.law_c h (HM.VRs.cons (.mod 5 i k hi) (HM.VRs.nil _)) hT
  have h : k % 5 = 0 ∨ k % 5 = 1 ∨ k % 5 = 2 ∨ k % 5 = 3 ∨ k % 5 = 4 := by omega
  rcases h with h | h | h | h | h
  · exact key 0 h case0
  · exact key 1 h case1
  · exact key 2 h case2
  · exact key 3 h case3
  · exact key 4 h case4
end Go.Proofs.YtamgnggeckomkaaGreatDoor.Sel
