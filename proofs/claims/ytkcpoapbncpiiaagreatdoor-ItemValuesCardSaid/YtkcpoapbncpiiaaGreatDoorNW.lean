/- What the small functions of bytes give: White, Digit. -/
import Derived.Test.YtkcpoapbncpiiaaGreatDoorProg
import Derived.Test.YtkcpoapbncpiiaaGreatDoorNL
import Derived.WalkKit
import Derived.ProofKit
import Derived.OpenShut
namespace Go.Proofs.YtkcpoapbncpiiaaGreatDoor.Num
open Go Go.RowKit
theorem white_t (c : Int) (w : World) (h : c = 10 ∨ c = 9 ∨ c = 32) : Calls Tryz.prog 29 #[.int .i32 c] w fun e w' => e = .returned (.bool true) ∧ w = w' := by
  rcases h with rfl | rfl | rfl
  all_goals
    go_enter Tryz.func29, Tryz.ntmps29
    go_wp2
    all_goals try go_ret
    all_goals exact ⟨rfl, rfl⟩
theorem white_f (c : Int) (w : World) (h1 : c ≠ 10) (h2 : c ≠ 9) (h3 : c ≠ 32) : Calls Tryz.prog 29 #[.int .i32 c] w fun e w' => e = .returned (.bool false) ∧ w = w' := by
  go_enter Tryz.func29, Tryz.ntmps29
  go_wp2
  all_goals try go_ret
  all_goals exact ⟨by show Ending.returned (.bool (c == 10 || c == 9 || c == 32)) = _; simp [h1, h2, h3], rfl⟩
theorem whiteR_t (c : Int) (w : World) (h : c = 10 ∨ c = 9 ∨ c = 32) : Calls Tryz.prog 32 #[.int .i32 c] w fun e w' => e = .returned (.bool true) ∧ w = w' := by
  rcases h with rfl | rfl | rfl
  all_goals
    go_enter Tryz.func32, Tryz.ntmps32
    go_wp2
    all_goals try go_ret
    all_goals exact ⟨rfl, rfl⟩
theorem whiteR_f (c : Int) (w : World) (h1 : c ≠ 10) (h2 : c ≠ 9) (h3 : c ≠ 32) : Calls Tryz.prog 32 #[.int .i32 c] w fun e w' => e = .returned (.bool false) ∧ w = w' := by
  go_enter Tryz.func32, Tryz.ntmps32
  go_wp2
  all_goals try go_ret
  all_goals exact ⟨by show Ending.returned (.bool (c == 10 || c == 9 || c == 32)) = _; simp [h1, h2, h3], rfl⟩
theorem digit_t (c : Int) (w : World) (h1 : 48 ≤ c) (h2 : c ≤ 57) : Calls Tryz.prog 30 #[.int .i32 c] w fun e w' => e = .returned (.bool true) ∧ w = w' := by
  go_enter Tryz.func30, Tryz.ntmps30
  go_wp2
  all_goals try go_ret
  all_goals exact ⟨rfl, rfl⟩
theorem digit_f (c : Int) (w : World) (h : c < 48 ∨ 57 < c) : Calls Tryz.prog 30 #[.int .i32 c] w fun e w' => e = .returned (.bool false) ∧ w = w' := by
  rcases h with h | h
  · have h' : ¬ 48 ≤ c := by omega
    go_enter Tryz.func30, Tryz.ntmps30
    go_wp2
    all_goals try go_ret
    all_goals exact ⟨rfl, rfl⟩
  · have h' : ¬ c ≤ 57 := by omega
    have h0 : 48 ≤ c := by omega
    go_enter Tryz.func30, Tryz.ntmps30
    go_wp2
    all_goals try go_ret
    all_goals exact ⟨rfl, rfl⟩
end Go.Proofs.YtkcpoapbncpiiaaGreatDoor.Num
