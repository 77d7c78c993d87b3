/- fleuronlaw6.SelectorForms returns true for every k, and leaves what was there. -/
import Derived.Test.YtinaapfnfiijnaaGreatDoorSFa1
import Derived.Test.YtinaapfnfiijnaaGreatDoorSFa2
import Derived.Test.YtinaapfnfiijnaaGreatDoorSFa3
import Derived.Test.YtinaapfnfiijnaaGreatDoorSFa4
namespace Go.Proofs.YtinaapfnfiijnaaGreatDoor.Sel
open Go Go.RowKit
theorem walk_forms (k : Int) {W : World} (hT : HM.Tabs W) : Calls Tryz.prog 4 #[.int .i64 k] W fun e w' => e = .returned (.bool true) ∧ Below W.heap.size W w' := by
  have key : ∀ i : Nat, k % 16 = (i : Int) → HM.lawRun 4 [.mod 16 i] = true → Calls Tryz.prog 4 #[.int .i64 k] W fun e w' => e = .returned (.bool true) ∧ Below W.heap.size W w' :=
    fun i hi h => HM.law_c h (HM.VRs.cons (.mod 16 i k hi) (HM.VRs.nil _)) hT
  have h : k % 16 = 0 ∨ k % 16 = 1 ∨ k % 16 = 2 ∨ k % 16 = 3 ∨ k % 16 = 4 ∨ k % 16 = 5 ∨ k % 16 = 6 ∨ k % 16 = 7 ∨ k % 16 = 8 ∨ k % 16 = 9 ∨ k % 16 = 10 ∨ k % 16 = 11 ∨ k % 16 = 12 ∨ k % 16 = 13 ∨ k % 16 = 14 ∨ k % 16 = 15 := by omega
  rcases h with h | h | h | h | h | h | h | h | h | h | h | h | h | h | h | h
  · exact key 0 h form0
  · exact key 1 h form1
  · exact key 2 h form2
  · exact key 3 h form3
  · exact key 4 h form4
  · exact key 5 h form5
  · exact key 6 h form6
  · exact key 7 h form7
  · exact key 8 h form8
  · exact key 9 h form9
  · exact key 10 h form10
  · exact key 11 h form11
  · exact key 12 h form12
  · exact key 13 h form13
  · exact key 14 h form14
  · exact key 15 h form15
end Go.Proofs.YtinaapfnfiijnaaGreatDoor.Sel
