/- Functions that write into their literals, or are given bytes that nobody knows: they are run with no literals that stay. -/
import Derived.Test.YtbfdgdigaiimgaaDoorYFT2
import Derived.Test.YtbfdgdigaiimgaaDoorYQ3
namespace Go.Proofs.YtbfdgdigaiimgaaDoor.HM
open Go Go.RowKit
variable [E : Amb]
def pur0 : Tr Unit := .leaf
noncomputable def tabL : Tr FFn := (Tr.put (some ff10) .leaf 10)
omit [E : Amb] in
theorem tabL_ok : TabOk Tryd.prog (inTr pur0) tabL := ((TabOk.leaf _ _).put (NL := [3, 5, 0, 9, 17, 4, 2]) (np := 1) (by kernel_rfl))
noncomputable def decS : Spec := runX Tryd.prog gam (inTr pur0) (inTr .leaf) ext bod (fun _ => none) tabL 100000 2 10
theorem decS_sound : Sound Tryd.prog gam 10 decS := runX_sound (prog_ok (fun f s h => by cases h)) tabL_ok _ _
noncomputable def extraL0 : FuncId → Option Spec := fun g => Bool.rec (motive := fun _ => Option Spec) (extraR g) (some decS) (Nat.beq g 10)
theorem extraL0_ok (f : FuncId) (s : Spec) (h : extraL0 f = some s) : CalleeOk Tryd.prog gam f s := by
  revert h
  show Bool.rec (motive := fun _ => Option Spec) (extraR f) (some decS) (Nat.beq f 10) = some s → _
  cases h0 : Nat.beq f 10 with
  | true =>
    intro h; obtain rfl := Option.some.inj h
    obtain rfl := Nat.eq_of_beq_eq_true h0
    exact .inl ⟨by kernel_rfl, decS_sound⟩
  | false =>
    exact extraR_ok f s
end Go.Proofs.YtbfdgdigaiimgaaDoor.HM
