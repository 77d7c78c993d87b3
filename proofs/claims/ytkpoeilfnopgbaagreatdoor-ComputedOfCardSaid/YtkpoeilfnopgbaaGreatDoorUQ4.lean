/- Functions that write into their literals, or are given bytes that nobody knows: they are run with no literals that stay. -/
import Derived.Test.YtkpoeilfnopgbaaGreatDoorUFT1
import Derived.Test.YtkpoeilfnopgbaaGreatDoorUQ3
namespace Go.Proofs.YtkpoeilfnopgbaaGreatDoor.HM
open Go Go.RowKit
variable [E : Amb]
def pur0 : Tr Unit := trOf [51] .leaf
noncomputable def tabL : Tr FFn := (Tr.put (some ff57) (Tr.put (some ff51) .leaf 51) 57)
omit [E : Amb] in
theorem tabL_ok : TabOk Tryz.prog (inTr pur0) tabL := (((TabOk.leaf _ _).put (NL := [4, 3, 0, 10, 24, 2]) (np := 1) (by kernel_rfl)).put (NL := [0, 4, 2]) (np := 1) (by kernel_rfl))
noncomputable def lowS : Spec := runX Tryz.prog gam (inTr pur0) (inTr .leaf) ext bod (fun _ => none) tabL 100000 2 51
theorem lowS_sound : Sound Tryz.prog gam 51 lowS := runX_sound (prog_ok (fun f s h => by cases h)) tabL_ok _ _
noncomputable def clsS : Spec := runX Tryz.prog gam (inTr pur0) (inTr .leaf) ext bod (fun _ => none) tabL 100000 2 57
theorem clsS_sound : Sound Tryz.prog gam 57 clsS := runX_sound (prog_ok (fun f s h => by cases h)) tabL_ok _ _
noncomputable def extraL : FuncId → Option Spec := fun g => Bool.rec (motive := fun _ => Option Spec) (Bool.rec (motive := fun _ => Option Spec) (extraR g) (some lowS) (Nat.beq g 51)) (some clsS) (Nat.beq g 57)
theorem extraL_ok (f : FuncId) (s : Spec) (h : extraL f = some s) : CalleeOk Tryz.prog gam f s := by
  revert h
  show Bool.rec (motive := fun _ => Option Spec) (Bool.rec (motive := fun _ => Option Spec) (extraR f) (some lowS) (Nat.beq f 51)) (some clsS) (Nat.beq f 57) = some s → _
  cases h1 : Nat.beq f 57 with
  | true =>
    intro h; obtain rfl := Option.some.inj h
    obtain rfl := Nat.eq_of_beq_eq_true h1
    exact .inl ⟨by kernel_rfl, clsS_sound⟩
  | false =>
    cases h0 : Nat.beq f 51 with
    | true =>
      intro h; obtain rfl := Option.some.inj h
      obtain rfl := Nat.eq_of_beq_eq_true h0
      exact .inl ⟨by kernel_rfl, lowS_sound⟩
    | false =>
      exact extraR_ok f s
end Go.Proofs.YtkpoeilfnopgbaaGreatDoor.HM
