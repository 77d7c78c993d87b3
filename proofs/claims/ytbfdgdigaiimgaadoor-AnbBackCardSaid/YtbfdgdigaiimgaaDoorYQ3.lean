/- What stands for the functions that have no body, or are not run: a contract of each. -/
import Derived.Test.YtbfdgdigaiimgaaDoorYQ2
import Derived.Test.YtbfdgdigaiimgaaDoorPH
namespace Go.Proofs.YtbfdgdigaiimgaaDoor.HM
open Go Go.RowKit
variable [E : Amb]
omit [E : Amb] in
theorem findNextM : Extern.findNext Tryd.f136 = none := by kernel_rfl
omit [E : Amb] in
theorem extFindM : Extern.find Tryd.f136 = some (Extern.BytealgMakeNoZero.makeNoZero #[3] #[59]) := by kernel_rfl
omit [E : Amb] in
theorem slcM : Tryd.prog.underlying 59 = some (.slice 5) := by kernel_rfl
theorem mkZ_ok : CalleeOk Tryd.prog gam 136 (mkS 5) :=
  mk_ok Tryd.func136 (by kernel_rfl) (by kernel_rfl) findNextM extFindM slcM
noncomputable def extraR : FuncId → Option Spec := fun g => Bool.rec (motive := fun _ => Option Spec) (Bool.rec (motive := fun _ => Option Spec) none (some (mkS 5)) (Nat.beq g 136)) (some roundS) (Nat.beq g 11)
theorem extraR_ok (f : FuncId) (s : Spec) (h : extraR f = some s) : CalleeOk Tryd.prog gam f s := by
  revert h
  show Bool.rec (motive := fun _ => Option Spec) (Bool.rec (motive := fun _ => Option Spec) none (some (mkS 5)) (Nat.beq f 136)) (some roundS) (Nat.beq f 11) = some s → _
  cases hf : Nat.beq f 11 with
  | false =>
    cases hg : Nat.beq f 136 with
    | false => intro h; cases h
    | true =>
      intro h; cases h
      obtain rfl := Nat.eq_of_beq_eq_true hg
      exact mkZ_ok
  | true =>
    intro h; cases h
    obtain rfl := Nat.eq_of_beq_eq_true hf
    exact .inl ⟨by kernel_rfl, round_sound⟩
end Go.Proofs.YtbfdgdigaiimgaaDoor.HM
