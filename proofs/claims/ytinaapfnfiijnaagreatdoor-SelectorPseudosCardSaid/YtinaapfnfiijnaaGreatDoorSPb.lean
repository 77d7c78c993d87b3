/- fleuronlaw6.SelectorPseudos returns true for all arguments, and leaves what was there. -/
import Derived.Test.YtinaapfnfiijnaaGreatDoorSPa1
import Derived.Test.YtinaapfnfiijnaaGreatDoorSPa2
import Derived.Test.YtinaapfnfiijnaaGreatDoorSPa3
import Derived.Test.YtinaapfnfiijnaaGreatDoorSPa4
namespace Go.Proofs.YtinaapfnfiijnaaGreatDoor.Sel
open Go Go.RowKit
theorem walk_pseudos (k head : Int) (single : Bool) (tail : Int) {W : World} (hT : HM.Tabs W) : Calls Tryz.prog 6 #[.int .i64 k, .int .i64 head, .bool single, .int .i64 tail] W fun e w' => e = .returned (.bool true) ∧ Below W.heap.size W w' := by
  have key : ∀ (i j l : Nat) (b : Bool), k % 5 = (i : Int) → head % 4 = (j : Int) → tail % 4 = (l : Int) → HM.lawRun 6 [.mod 5 i, .mod 4 j, .bool b, .mod 4 l] = true →
      Calls Tryz.prog 6 #[.int .i64 k, .int .i64 head, .bool b, .int .i64 tail] W fun e w' => e = .returned (.bool true) ∧ Below W.heap.size W w' :=
    fun i j l b h1 h2 h3 h => HM.law_c h (HM.VRs.cons (.mod 5 i k h1) (HM.VRs.cons (.mod 4 j head h2) (HM.VRs.cons (.bool b) (HM.VRs.cons (.mod 4 l tail h3) (HM.VRs.nil _))))) hT
  have h1 : k % 5 = 0 ∨ k % 5 = 1 ∨ k % 5 = 2 ∨ k % 5 = 3 ∨ k % 5 = 4 := by omega
  have h2 : head % 4 = 0 ∨ head % 4 = 1 ∨ head % 4 = 2 ∨ head % 4 = 3 := by omega
  have h3 : tail % 4 = 0 ∨ tail % 4 = 1 ∨ tail % 4 = 2 ∨ tail % 4 = 3 := by omega
  rcases h1 with h1 | h1 | h1 | h1 | h1
  · rcases h2 with h2 | h2 | h2 | h2
    · cases single
      · rcases h3 with h3 | h3 | h3 | h3
        · exact key 0 0 0 false h1 h2 h3 ps0_0_0_0
        · exact key 0 0 1 false h1 h2 h3 ps0_0_0_1
        · exact key 0 0 2 false h1 h2 h3 ps0_0_0_2
        · exact key 0 0 3 false h1 h2 h3 ps0_0_0_3
      · rcases h3 with h3 | h3 | h3 | h3
        · exact key 0 0 0 true h1 h2 h3 ps0_0_1_0
        · exact key 0 0 1 true h1 h2 h3 ps0_0_1_1
        · exact key 0 0 2 true h1 h2 h3 ps0_0_1_2
        · exact key 0 0 3 true h1 h2 h3 ps0_0_1_3
    · cases single
      · rcases h3 with h3 | h3 | h3 | h3
        · exact key 0 1 0 false h1 h2 h3 ps0_1_0_0
        · exact key 0 1 1 false h1 h2 h3 ps0_1_0_1
        · exact key 0 1 2 false h1 h2 h3 ps0_1_0_2
        · exact key 0 1 3 false h1 h2 h3 ps0_1_0_3
      · rcases h3 with h3 | h3 | h3 | h3
        · exact key 0 1 0 true h1 h2 h3 ps0_1_1_0
        · exact key 0 1 1 true h1 h2 h3 ps0_1_1_1
        · exact key 0 1 2 true h1 h2 h3 ps0_1_1_2
        · exact key 0 1 3 true h1 h2 h3 ps0_1_1_3
    · cases single
      · rcases h3 with h3 | h3 | h3 | h3
        · exact key 0 2 0 false h1 h2 h3 ps0_2_0_0
        · exact key 0 2 1 false h1 h2 h3 ps0_2_0_1
        · exact key 0 2 2 false h1 h2 h3 ps0_2_0_2
        · exact key 0 2 3 false h1 h2 h3 ps0_2_0_3
      · rcases h3 with h3 | h3 | h3 | h3
        · exact key 0 2 0 true h1 h2 h3 ps0_2_1_0
        · exact key 0 2 1 true h1 h2 h3 ps0_2_1_1
        · exact key 0 2 2 true h1 h2 h3 ps0_2_1_2
        · exact key 0 2 3 true h1 h2 h3 ps0_2_1_3
    · cases single
      · rcases h3 with h3 | h3 | h3 | h3
        · exact key 0 3 0 false h1 h2 h3 ps0_3_0_0
        · exact key 0 3 1 false h1 h2 h3 ps0_3_0_1
        · exact key 0 3 2 false h1 h2 h3 ps0_3_0_2
        · exact key 0 3 3 false h1 h2 h3 ps0_3_0_3
      · rcases h3 with h3 | h3 | h3 | h3
        · exact key 0 3 0 true h1 h2 h3 ps0_3_1_0
        · exact key 0 3 1 true h1 h2 h3 ps0_3_1_1
        · exact key 0 3 2 true h1 h2 h3 ps0_3_1_2
        · exact key 0 3 3 true h1 h2 h3 ps0_3_1_3
  · rcases h2 with h2 | h2 | h2 | h2
    · cases single
      · rcases h3 with h3 | h3 | h3 | h3
        · exact key 1 0 0 false h1 h2 h3 ps1_0_0_0
        · exact key 1 0 1 false h1 h2 h3 ps1_0_0_1
        · exact key 1 0 2 false h1 h2 h3 ps1_0_0_2
        · exact key 1 0 3 false h1 h2 h3 ps1_0_0_3
      · rcases h3 with h3 | h3 | h3 | h3
        · exact key 1 0 0 true h1 h2 h3 ps1_0_1_0
        · exact key 1 0 1 true h1 h2 h3 ps1_0_1_1
        · exact key 1 0 2 true h1 h2 h3 ps1_0_1_2
        · exact key 1 0 3 true h1 h2 h3 ps1_0_1_3
    · cases single
      · rcases h3 with h3 | h3 | h3 | h3
        · exact key 1 1 0 false h1 h2 h3 ps1_1_0_0
        · exact key 1 1 1 false h1 h2 h3 ps1_1_0_1
        · exact key 1 1 2 false h1 h2 h3 ps1_1_0_2
        · exact key 1 1 3 false h1 h2 h3 ps1_1_0_3
      · rcases h3 with h3 | h3 | h3 | h3
        · exact key 1 1 0 true h1 h2 h3 ps1_1_1_0
        · exact key 1 1 1 true h1 h2 h3 ps1_1_1_1
        · exact key 1 1 2 true h1 h2 h3 ps1_1_1_2
        · exact key 1 1 3 true h1 h2 h3 ps1_1_1_3
    · cases single
      · rcases h3 with h3 | h3 | h3 | h3
        · exact key 1 2 0 false h1 h2 h3 ps1_2_0_0
        · exact key 1 2 1 false h1 h2 h3 ps1_2_0_1
        · exact key 1 2 2 false h1 h2 h3 ps1_2_0_2
        · exact key 1 2 3 false h1 h2 h3 ps1_2_0_3
      · rcases h3 with h3 | h3 | h3 | h3
        · exact key 1 2 0 true h1 h2 h3 ps1_2_1_0
        · exact key 1 2 1 true h1 h2 h3 ps1_2_1_1
        · exact key 1 2 2 true h1 h2 h3 ps1_2_1_2
        · exact key 1 2 3 true h1 h2 h3 ps1_2_1_3
    · cases single
      · rcases h3 with h3 | h3 | h3 | h3
        · exact key 1 3 0 false h1 h2 h3 ps1_3_0_0
        · exact key 1 3 1 false h1 h2 h3 ps1_3_0_1
        · exact key 1 3 2 false h1 h2 h3 ps1_3_0_2
        · exact key 1 3 3 false h1 h2 h3 ps1_3_0_3
      · rcases h3 with h3 | h3 | h3 | h3
        · exact key 1 3 0 true h1 h2 h3 ps1_3_1_0
        · exact key 1 3 1 true h1 h2 h3 ps1_3_1_1
        · exact key 1 3 2 true h1 h2 h3 ps1_3_1_2
        · exact key 1 3 3 true h1 h2 h3 ps1_3_1_3
  · rcases h2 with h2 | h2 | h2 | h2
    · cases single
      · rcases h3 with h3 | h3 | h3 | h3
        · exact key 2 0 0 false h1 h2 h3 ps2_0_0_0
        · exact key 2 0 1 false h1 h2 h3 ps2_0_0_1
        · exact key 2 0 2 false h1 h2 h3 ps2_0_0_2
        · exact key 2 0 3 false h1 h2 h3 ps2_0_0_3
      · rcases h3 with h3 | h3 | h3 | h3
        · exact key 2 0 0 true h1 h2 h3 ps2_0_1_0
        · exact key 2 0 1 true h1 h2 h3 ps2_0_1_1
        · exact key 2 0 2 true h1 h2 h3 ps2_0_1_2
        · exact key 2 0 3 true h1 h2 h3 ps2_0_1_3
    · cases single
      · rcases h3 with h3 | h3 | h3 | h3
        · exact key 2 1 0 false h1 h2 h3 ps2_1_0_0
        · exact key 2 1 1 false h1 h2 h3 ps2_1_0_1
        · exact key 2 1 2 false h1 h2 h3 ps2_1_0_2
        · exact key 2 1 3 false h1 h2 h3 ps2_1_0_3
      · rcases h3 with h3 | h3 | h3 | h3
        · exact key 2 1 0 true h1 h2 h3 ps2_1_1_0
        · exact key 2 1 1 true h1 h2 h3 ps2_1_1_1
        · exact key 2 1 2 true h1 h2 h3 ps2_1_1_2
        · exact key 2 1 3 true h1 h2 h3 ps2_1_1_3
    · cases single
      · rcases h3 with h3 | h3 | h3 | h3
        · exact key 2 2 0 false h1 h2 h3 ps2_2_0_0
        · exact key 2 2 1 false h1 h2 h3 ps2_2_0_1
        · exact key 2 2 2 false h1 h2 h3 ps2_2_0_2
        · exact key 2 2 3 false h1 h2 h3 ps2_2_0_3
      · rcases h3 with h3 | h3 | h3 | h3
        · exact key 2 2 0 true h1 h2 h3 ps2_2_1_0
        · exact key 2 2 1 true h1 h2 h3 ps2_2_1_1
        · exact key 2 2 2 true h1 h2 h3 ps2_2_1_2
        · exact key 2 2 3 true h1 h2 h3 ps2_2_1_3
    · cases single
      · rcases h3 with h3 | h3 | h3 | h3
        · exact key 2 3 0 false h1 h2 h3 ps2_3_0_0
        · exact key 2 3 1 false h1 h2 h3 ps2_3_0_1
        · exact key 2 3 2 false h1 h2 h3 ps2_3_0_2
        · exact key 2 3 3 false h1 h2 h3 ps2_3_0_3
      · rcases h3 with h3 | h3 | h3 | h3
        · exact key 2 3 0 true h1 h2 h3 ps2_3_1_0
        · exact key 2 3 1 true h1 h2 h3 ps2_3_1_1
        · exact key 2 3 2 true h1 h2 h3 ps2_3_1_2
        · exact key 2 3 3 true h1 h2 h3 ps2_3_1_3
  · rcases h2 with h2 | h2 | h2 | h2
    · cases single
      · rcases h3 with h3 | h3 | h3 | h3
        · exact key 3 0 0 false h1 h2 h3 ps3_0_0_0
        · exact key 3 0 1 false h1 h2 h3 ps3_0_0_1
        · exact key 3 0 2 false h1 h2 h3 ps3_0_0_2
        · exact key 3 0 3 false h1 h2 h3 ps3_0_0_3
      · rcases h3 with h3 | h3 | h3 | h3
        · exact key 3 0 0 true h1 h2 h3 ps3_0_1_0
        · exact key 3 0 1 true h1 h2 h3 ps3_0_1_1
        · exact key 3 0 2 true h1 h2 h3 ps3_0_1_2
        · exact key 3 0 3 true h1 h2 h3 ps3_0_1_3
    · cases single
      · rcases h3 with h3 | h3 | h3 | h3
        · exact key 3 1 0 false h1 h2 h3 ps3_1_0_0
        · exact key 3 1 1 false h1 h2 h3 ps3_1_0_1
        · exact key 3 1 2 false h1 h2 h3 ps3_1_0_2
        · exact key 3 1 3 false h1 h2 h3 ps3_1_0_3
      · rcases h3 with h3 | h3 | h3 | h3
        · exact key 3 1 0 true h1 h2 h3 ps3_1_1_0
        · exact key 3 1 1 true h1 h2 h3 ps3_1_1_1
        · exact key 3 1 2 true h1 h2 h3 ps3_1_1_2
        · exact key 3 1 3 true h1 h2 h3 ps3_1_1_3
    · cases single
      · rcases h3 with h3 | h3 | h3 | h3
        · exact key 3 2 0 false h1 h2 h3 ps3_2_0_0
        · exact key 3 2 1 false h1 h2 h3 ps3_2_0_1
        · exact key 3 2 2 false h1 h2 h3 ps3_2_0_2
        · exact key 3 2 3 false h1 h2 h3 ps3_2_0_3
      · rcases h3 with h3 | h3 | h3 | h3
        · exact key 3 2 0 true h1 h2 h3 ps3_2_1_0
        · exact key 3 2 1 true h1 h2 h3 ps3_2_1_1
        · exact key 3 2 2 true h1 h2 h3 ps3_2_1_2
        · exact key 3 2 3 true h1 h2 h3 ps3_2_1_3
    · cases single
      · rcases h3 with h3 | h3 | h3 | h3
        · exact key 3 3 0 false h1 h2 h3 ps3_3_0_0
        · exact key 3 3 1 false h1 h2 h3 ps3_3_0_1
        · exact key 3 3 2 false h1 h2 h3 ps3_3_0_2
        · exact key 3 3 3 false h1 h2 h3 ps3_3_0_3
      · rcases h3 with h3 | h3 | h3 | h3
        · exact key 3 3 0 true h1 h2 h3 ps3_3_1_0
        · exact key 3 3 1 true h1 h2 h3 ps3_3_1_1
        · exact key 3 3 2 true h1 h2 h3 ps3_3_1_2
        · exact key 3 3 3 true h1 h2 h3 ps3_3_1_3
  · rcases h2 with h2 | h2 | h2 | h2
    · cases single
      · rcases h3 with h3 | h3 | h3 | h3
        · exact key 4 0 0 false h1 h2 h3 ps4_0_0_0
        · exact key 4 0 1 false h1 h2 h3 ps4_0_0_1
        · exact key 4 0 2 false h1 h2 h3 ps4_0_0_2
        · exact key 4 0 3 false h1 h2 h3 ps4_0_0_3
      · rcases h3 with h3 | h3 | h3 | h3
        · exact key 4 0 0 true h1 h2 h3 ps4_0_1_0
        · exact key 4 0 1 true h1 h2 h3 ps4_0_1_1
        · exact key 4 0 2 true h1 h2 h3 ps4_0_1_2
        · exact key 4 0 3 true h1 h2 h3 ps4_0_1_3
    · cases single
      · rcases h3 with h3 | h3 | h3 | h3
        · exact key 4 1 0 false h1 h2 h3 ps4_1_0_0
        · exact key 4 1 1 false h1 h2 h3 ps4_1_0_1
        · exact key 4 1 2 false h1 h2 h3 ps4_1_0_2
        · exact key 4 1 3 false h1 h2 h3 ps4_1_0_3
      · rcases h3 with h3 | h3 | h3 | h3
        · exact key 4 1 0 true h1 h2 h3 ps4_1_1_0
        · exact key 4 1 1 true h1 h2 h3 ps4_1_1_1
        · exact key 4 1 2 true h1 h2 h3 ps4_1_1_2
        · exact key 4 1 3 true h1 h2 h3 ps4_1_1_3
    · cases single
      · rcases h3 with h3 | h3 | h3 | h3
        · exact key 4 2 0 false h1 h2 h3 ps4_2_0_0
        · exact key 4 2 1 false h1 h2 h3 ps4_2_0_1
        · exact key 4 2 2 false h1 h2 h3 ps4_2_0_2
        · exact key 4 2 3 false h1 h2 h3 ps4_2_0_3
      · rcases h3 with h3 | h3 | h3 | h3
        · exact key 4 2 0 true h1 h2 h3 ps4_2_1_0
        · exact key 4 2 1 true h1 h2 h3 ps4_2_1_1
        · exact key 4 2 2 true h1 h2 h3 ps4_2_1_2
        · exact key 4 2 3 true h1 h2 h3 ps4_2_1_3
    · cases single
      · rcases h3 with h3 | h3 | h3 | h3
        · exact key 4 3 0 false h1 h2 h3 ps4_3_0_0
        · exact key 4 3 1 false h1 h2 h3 ps4_3_0_1
        · exact key 4 3 2 false h1 h2 h3 ps4_3_0_2
        · exact key 4 3 3 false h1 h2 h3 ps4_3_0_3
      · rcases h3 with h3 | h3 | h3 | h3
        · exact key 4 3 0 true h1 h2 h3 ps4_3_1_0
        · exact key 4 3 1 true h1 h2 h3 ps4_3_1_1
        · exact key 4 3 2 true h1 h2 h3 ps4_3_1_2
        · exact key 4 3 3 true h1 h2 h3 ps4_3_1_3
end Go.Proofs.YtinaapfnfiijnaaGreatDoor.Sel
