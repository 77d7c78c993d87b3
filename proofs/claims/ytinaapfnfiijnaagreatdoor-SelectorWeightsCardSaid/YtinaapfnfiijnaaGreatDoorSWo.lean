/- fleuronlaw6.SelectorWeights beyond its range: true, by awake() alone. -/
import Derived.Test.YtinaapfnfiijnaaGreatDoorQ3
import Derived.WalkKit
import Derived.ProofKit
import Derived.OpenShut
namespace Go.Proofs.YtinaapfnfiijnaaGreatDoor.Sel
open Go Go.RowKit
def InW (a b c : Int) : Prop := (0 ≤ a ∧ a ≤ 5) ∧ (0 ≤ b ∧ b ≤ 5) ∧ (0 ≤ c ∧ c ≤ 3)
theorem weights_out (a b c how : Int) (h : ¬ InW a b c) {W : World} (hT : HM.Tabs W) : Calls Tryz.prog 3 #[.int .i64 a, .int .i64 b, .int .i64 c, .int .i64 how] W fun e w' => e = .returned (.bool true) ∧ Below W.heap.size W w' := by
  have aw := HM.awake_c hT
  go_enter Tryz.func3, Tryz.ntmps3
  go_wp2_with (first | (go_at_call 7; refine aw.mono ?_; rintro e w' ⟨rfl, hb⟩))
  all_goals first
    | (exfalso; unfold InW at h; omega)
    | (go_ret; exact ⟨rfl, hb⟩)
end Go.Proofs.YtinaapfnfiijnaaGreatDoor.Sel
