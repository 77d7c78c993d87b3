/- What rules() gives for the sheets of RegistryAround and awake(), told once; canonical names. -/
import Derived.Test.YtmgjgdnjkgnbiaaGreatDoorRQMb
import Derived.Test.YtmgjgdnjkgnbiaaGreatDoorRQN1
import Derived.Test.YtmgjgdnjkgnbiaaGreatDoorRQN2
import Derived.Test.YtmgjgdnjkgnbiaaGreatDoorRQN3
import Derived.Test.YtmgjgdnjkgnbiaaGreatDoorRQN4
namespace Go.Proofs.YtmgjgdnjkgnbiaaGreatDoor.HM
open Go Go.RowKit
noncomputable def rulM : Spec := (memoS [sh1] rul1V (memoS [sh6] rul6V (memoS [shA] rulAV (memoS [sh2] rul2V (memoS [sh7] rul7V (memoS [sh8] rul8V (memoS [sh3] rul3V (memoS [sh4] rul4V (memoS [sh5] rul5V (runK2 14))))))))))
theorem rulM_sound : Sound Tryz.prog gam 14 rulM := (memoP_sound (memoP_sound (memoP_sound (memoP_sound (memoP_sound (memoP_sound (memoP_sound (memoP_sound (memoP_sound (runK2_sound _) (runK2_sound _) (by kernel_rfl) rul5_run) (runK2_sound _) (by kernel_rfl) rul4_run) (runK2_sound _) (by kernel_rfl) rul3_run) (runK2_sound _) (by kernel_rfl) rul8_run) (runK2_sound _) (by kernel_rfl) rul7_run) (runK2_sound _) (by kernel_rfl) rul2_run) (runK2_sound _) (by kernel_rfl) rulA_run) (runK2_sound _) (by kernel_rfl) rul6_run) (runK2_sound _) (by kernel_rfl) rul1_run)
noncomputable def canM : Spec := (memoS [.str [108, 111, 119, 101, 114, 45, 97, 108, 112, 104, 97]] can22V (memoS [.str [117, 112, 112, 101, 114, 45, 97, 108, 112, 104, 97]] can21V (memoS [.str [100, 101, 99, 105, 109, 97, 108, 45, 108, 101, 97, 100, 105, 110, 103, 45, 122, 101, 114, 111]] can20V (memoS [.str [100, 105, 115, 99]] can19V (memoS [.str [110, 111, 98, 111, 100, 121]] can18V (memoS [.str [76, 79, 87, 69, 82, 45, 65, 76, 80, 72, 65]] can17V (memoS [.str [88]] can16V (memoS [.str [98]] can15V (memoS [.str [97]] can14V (memoS [.str [120]] can13V (memoS [.str [117, 112, 112, 101, 114, 45, 114, 111, 109, 97, 110]] can12V (memoS [.str [85, 80, 80, 69, 82, 45, 114, 111, 109, 97, 110]] can11V (memoS [.str [108, 111, 119, 101, 114, 45, 114, 111, 109, 97, 110]] can10V (memoS [.str [115, 55]] can9V (memoS [.str [115, 54]] can8V (memoS [.str [115, 53]] can7V (memoS [.str [115, 52]] can6V (memoS [.str [115, 51]] can5V (memoS [.str [115, 50]] can4V (memoS [.str [115, 49]] can3V (memoS [.str [115, 48]] can2V (memoS [.str [116]] can1V (memoS [.str [100, 101, 99, 105, 109, 97, 108]] can0V (runK2 34))))))))))))))))))))))))
theorem canM_sound : Sound Tryz.prog gam 34 canM := (memoP_sound (memoP_sound (memoP_sound (memoP_sound (memoP_sound (memoP_sound (memoP_sound (memoP_sound (memoP_sound (memoP_sound (memoP_sound (memoP_sound (memoP_sound (memoP_sound (memoP_sound (memoP_sound (memoP_sound (memoP_sound (memoP_sound (memoP_sound (memoP_sound (memoP_sound (memoP_sound (runK2_sound _) (runK2_sound _) (by kernel_rfl) can0_run) (runK2_sound _) (by kernel_rfl) can1_run) (runK2_sound _) (by kernel_rfl) can2_run) (runK2_sound _) (by kernel_rfl) can3_run) (runK2_sound _) (by kernel_rfl) can4_run) (runK2_sound _) (by kernel_rfl) can5_run) (runK2_sound _) (by kernel_rfl) can6_run) (runK2_sound _) (by kernel_rfl) can7_run) (runK2_sound _) (by kernel_rfl) can8_run) (runK2_sound _) (by kernel_rfl) can9_run) (runK2_sound _) (by kernel_rfl) can10_run) (runK2_sound _) (by kernel_rfl) can11_run) (runK2_sound _) (by kernel_rfl) can12_run) (runK2_sound _) (by kernel_rfl) can13_run) (runK2_sound _) (by kernel_rfl) can14_run) (runK2_sound _) (by kernel_rfl) can15_run) (runK2_sound _) (by kernel_rfl) can16_run) (runK2_sound _) (by kernel_rfl) can17_run) (runK2_sound _) (by kernel_rfl) can18_run) (runK2_sound _) (by kernel_rfl) can19_run) (runK2_sound _) (by kernel_rfl) can20_run) (runK2_sound _) (by kernel_rfl) can21_run) (runK2_sound _) (by kernel_rfl) can22_run)
noncomputable def extraN : FuncId → Option Spec := fun g => Bool.rec (motive := fun _ => Option Spec) (Bool.rec (motive := fun _ => Option Spec) (extraK2 g) (some rulM) (Nat.beq g 14)) (some canM) (Nat.beq g 34)
theorem extraN_ok (f : FuncId) (s : Spec) (h : extraN f = some s) : CalleeOk Tryz.prog gam f s := by
  revert h
  show Bool.rec (motive := fun _ => Option Spec) (Bool.rec (motive := fun _ => Option Spec) (extraK2 f) (some rulM) (Nat.beq f 14)) (some canM) (Nat.beq f 34) = some s → _
  cases h1 : Nat.beq f 34 with
  | true =>
    intro h; obtain rfl := Option.some.inj h
    obtain rfl := Nat.eq_of_beq_eq_true h1
    exact .inl ⟨by kernel_rfl, canM_sound⟩
  | false =>
    cases h0 : Nat.beq f 14 with
    | true =>
      intro h; obtain rfl := Option.some.inj h
      obtain rfl := Nat.eq_of_beq_eq_true h0
      exact .inl ⟨by kernel_rfl, rulM_sound⟩
    | false =>
      exact extraK2_ok f s
noncomputable def runN : FuncId → Spec := fun f => runX Tryz.prog gam (inTr pur) (inTr clo) ext bod extraN ftab 1000 60 f
theorem runN_sound (f : FuncId) : Sound Tryz.prog gam f (runN f) := runX_sound (prog_ok extraN_ok) tab_ok _ _
end Go.Proofs.YtmgjgdnjkgnbiaaGreatDoor.HM
