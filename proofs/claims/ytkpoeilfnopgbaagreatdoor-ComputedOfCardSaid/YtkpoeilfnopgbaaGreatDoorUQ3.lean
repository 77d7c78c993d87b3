/- What stands for Round: a contract. -/
import Derived.Test.YtkpoeilfnopgbaaGreatDoorUQ2
namespace Go.Proofs.YtkpoeilfnopgbaaGreatDoor.HM
open Go Go.RowKit
variable [E : Amb]
noncomputable def extraR : FuncId → Option Spec := fun g => Bool.rec (motive := fun _ => Option Spec) none (some roundS) (Nat.beq g 11)
theorem extraR_ok (f : FuncId) (s : Spec) (h : extraR f = some s) : CalleeOk Tryz.prog gam f s := by
  revert h
  show Bool.rec (motive := fun _ => Option Spec) none (some roundS) (Nat.beq f 11) = some s → _
  cases hf : Nat.beq f 11 with
  | false => intro h; cases h
  | true =>
    intro h; cases h
    obtain rfl := Nat.eq_of_beq_eq_true hf
    exact .inl ⟨by kernel_rfl, round_sound⟩
end Go.Proofs.YtkpoeilfnopgbaaGreatDoor.HM
