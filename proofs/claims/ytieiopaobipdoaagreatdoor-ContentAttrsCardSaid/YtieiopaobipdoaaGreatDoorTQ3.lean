/- What stands for the functions that have no body, or are not run: a contract of each. -/
import Derived.Test.YtieiopaobipdoaaGreatDoorTQ2
import Derived.Test.YtieiopaobipdoaaGreatDoorPH
namespace Go.Proofs.YtieiopaobipdoaaGreatDoor.HM
open Go Go.RowKit
variable [E : Amb]
omit [E : Amb] in
theorem findNextM : Extern.findNext Tryz.f125 = none := by kernel_rfl
omit [E : Amb] in
theorem extFindM : Extern.find Tryz.f125 = some (Extern.BytealgMakeNoZero.makeNoZero #[3] #[26]) := by kernel_rfl
omit [E : Amb] in
theorem slcM : Tryz.prog.underlying 26 = some (.slice 5) := by kernel_rfl
theorem mkZ_ok : CalleeOk Tryz.prog gam 125 (mkS 5) :=
  mk_ok Tryz.func125 (by kernel_rfl) (by kernel_rfl) findNextM extFindM slcM
noncomputable def extraR : FuncId → Option Spec := fun g => Bool.rec (motive := fun _ => Option Spec) (Bool.rec (motive := fun _ => Option Spec) none (some (mkS 5)) (Nat.beq g 125)) (some roundS) (Nat.beq g 15)
theorem extraR_ok (f : FuncId) (s : Spec) (h : extraR f = some s) : CalleeOk Tryz.prog gam f s := by
  revert h
  show Bool.rec (motive := fun _ => Option Spec) (Bool.rec (motive := fun _ => Option Spec) none (some (mkS 5)) (Nat.beq f 125)) (some roundS) (Nat.beq f 15) = some s → _
  cases hf : Nat.beq f 15 with
  | false =>
    cases hg : Nat.beq f 125 with
    | false => intro h; cases h
    | true =>
      intro h; cases h
      obtain rfl := Nat.eq_of_beq_eq_true hg
      exact mkZ_ok
  | true =>
    intro h; cases h
    obtain rfl := Nat.eq_of_beq_eq_true hf
    exact .inl ⟨by kernel_rfl, round_sound⟩
end Go.Proofs.YtieiopaobipdoaaGreatDoor.HM
