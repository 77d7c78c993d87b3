/- fleuronlaw13.CascadePseudos returns true for every number, and leaves what was there. -/
import Derived.Test.YtamgnggeckomkaaGreatDoorSDa1
import Derived.Test.YtamgnggeckomkaaGreatDoorSDa2
import Derived.Test.YtamgnggeckomkaaGreatDoorSDa3
namespace Go.Proofs.YtamgnggeckomkaaGreatDoor.Sel
open Go Go.RowKit
theorem walk_all (k : Int) {W : World} (hT : HM.Tabs W) : Calls Tryz.prog 3 #[.int .i64 k] W fun e w' => e = .returned (.bool true) ∧ Below W.heap.size W w' := by
  have key : ∀ i : Nat, k % 6 = (i : Int) → HM.lawRun 3 [.mod 6 i] = true → Calls Tryz.prog 3 #[.int .i64 k] W fun e w' => e = .returned (.bool true) ∧ Below W.heap.size W w' :=
    fun i hi h => HM.law_c h (HM.VRs.cons (.mod 6 i k hi) (HM.VRs.nil _)) hT
  have h : k % 6 = 0 ∨ k % 6 = 1 ∨ k % 6 = 2 ∨ k % 6 = 3 ∨ k % 6 = 4 ∨ k % 6 = 5 := by omega
  rcases h with h | h | h | h | h | h
  · exact key 0 h case0
  · exact key 1 h case1
  · exact key 2 h case2
  · exact key 3 h case3
  · exact key 4 h case4
  · exact key 5 h case5
end Go.Proofs.YtamgnggeckomkaaGreatDoor.Sel
