/- What registry.New gives for the sheets of RegistryAround and awake(), told once. -/
import Derived.Test.YtmgjgdnjkgnbiaaGreatDoorRQN
import Derived.Test.YtmgjgdnjkgnbiaaGreatDoorRQO1
import Derived.Test.YtmgjgdnjkgnbiaaGreatDoorRQO2
namespace Go.Proofs.YtmgjgdnjkgnbiaaGreatDoor.HM
open Go Go.RowKit
noncomputable def newO : Spec := (memoC [rul8V] new8V new8H (memoC [rul7V] new7V new7H (memoC [rul6V] new6V new6H (memoC [rul5V] new5V new5H (memoC [rul4V] new4V new4H (memoC [rul3V] new3V new3H (memoC [rul2V] new2V new2H (memoC [rul1V] new1V new1H (memoC [rulAV] newAV newAH newM)))))))))
theorem newO_sound : Sound Tryz.prog gam 11 newO := (memoC_sound (memoC_sound (memoC_sound (memoC_sound (memoC_sound (memoC_sound (memoC_sound (memoC_sound (memoC_sound newM_sound (runN_sound _) newA_run) (runN_sound _) new1_run) (runN_sound _) new2_run) (runN_sound _) new3_run) (runN_sound _) new4_run) (runN_sound _) new5_run) (runN_sound _) new6_run) (runN_sound _) new7_run) (runN_sound _) new8_run)
noncomputable def extraO : FuncId → Option Spec := fun g => Bool.rec (motive := fun _ => Option Spec) (extraN g) (some newO) (Nat.beq g 11)
theorem extraO_ok (f : FuncId) (s : Spec) (h : extraO f = some s) : CalleeOk Tryz.prog gam f s := by
  revert h
  show Bool.rec (motive := fun _ => Option Spec) (extraN f) (some newO) (Nat.beq f 11) = some s → _
  cases h0 : Nat.beq f 11 with
  | true =>
    intro h; obtain rfl := Option.some.inj h
    obtain rfl := Nat.eq_of_beq_eq_true h0
    exact .inl ⟨by kernel_rfl, newO_sound⟩
  | false =>
    exact extraN_ok f s
noncomputable def goO : FuncId → Spec := fun f => runX Tryz.prog gam (inTr pur) (inTr clo) ext bod extraO ftab 1000 60 f
theorem goO_sound (f : FuncId) : Sound Tryz.prog gam f (goO f) := runX_sound (prog_ok extraO_ok) tab_ok _ _
end Go.Proofs.YtmgjgdnjkgnbiaaGreatDoor.HM
