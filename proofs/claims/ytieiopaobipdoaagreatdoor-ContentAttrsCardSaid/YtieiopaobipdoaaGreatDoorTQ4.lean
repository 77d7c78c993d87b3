/- Functions that write into their literals, or are given bytes that nobody knows: they are run with no literals that stay. -/
import Derived.Test.YtieiopaobipdoaaGreatDoorTFT1
import Derived.Test.YtieiopaobipdoaaGreatDoorTQ3
namespace Go.Proofs.YtieiopaobipdoaaGreatDoor.HM
open Go Go.RowKit
variable [E : Amb]
def pur0 : Tr Unit := trOf [19] .leaf
noncomputable def tabL : Tr FFn := (Tr.put (some ff114) (Tr.put (some ff83) (Tr.put (some ff116) (Tr.put (some ff82) (Tr.put (some ff81) (Tr.put (some ff115) (Tr.put (some ff80) (Tr.put (some ff79) (Tr.put (some ff18) (Tr.put (some ff47) (Tr.put (some ff118) (Tr.put (some ff19) .leaf 19) 118) 47) 18) 79) 80) 115) 81) 82) 116) 83) 114)
omit [E : Amb] in
theorem tabL_ok : TabOk Tryz.prog (inTr pur0) tabL := (((((((((((((TabOk.leaf _ _).put (NL := [4, 3, 0, 10, 24, 2]) (np := 1) (by kernel_rfl)).put (NL := [0, 4, 2]) (np := 1) (by kernel_rfl)).put (NL := [1, 0, 3, 42, 2]) (np := 1) (by kernel_rfl)).put (NL := [3, 5, 0, 9, 17, 4, 2]) (np := 1) (by kernel_rfl)).put (NL := [1, 4, 5, 13, 0, 20, 40, 2]) (np := 1) (by kernel_rfl)).put (NL := [0, 1, 4]) (np := 2) (by kernel_rfl)).put (NL := [8, 0, 5, 7, 9, 1, 16, 4]) (np := 2) (by kernel_rfl)).put (NL := [0, 2]) (np := 1) (by kernel_rfl)).put (NL := [0, 1, 4]) (np := 2) (by kernel_rfl)).put (NL := [8, 0, 5, 7, 9, 1, 16, 4]) (np := 2) (by kernel_rfl)).put (NL := [1, 0, 2]) (np := 1) (by kernel_rfl)).put (NL := [7, 0, 4, 3, 6, 8, 5, 26, 2]) (np := 1) (by kernel_rfl))
noncomputable def lowS : Spec := runX Tryz.prog gam (inTr pur0) (inTr .leaf) ext bod (fun _ => none) tabL 100000 2 19
theorem lowS_sound : Sound Tryz.prog gam 19 lowS := runX_sound (prog_ok (fun f s h => by cases h)) tabL_ok _ _
noncomputable def clsS : Spec := runX Tryz.prog gam (inTr pur0) (inTr .leaf) ext bod (fun _ => none) tabL 100000 2 118
theorem clsS_sound : Sound Tryz.prog gam 118 clsS := runX_sound (prog_ok (fun f s h => by cases h)) tabL_ok _ _
noncomputable def mayS : Spec := runX Tryz.prog gam (inTr pur0) (inTr .leaf) ext bod (fun _ => none) tabL 100000 20 47
theorem mayS_sound : Sound Tryz.prog gam 47 mayS := runX_sound (prog_ok (fun f s h => by cases h)) tabL_ok _ _
noncomputable def decS : Spec := runX Tryz.prog gam (inTr pur0) (inTr .leaf) ext bod (fun _ => none) tabL 100000 2 18
theorem decS_sound : Sound Tryz.prog gam 18 decS := runX_sound (prog_ok (fun f s h => by cases h)) tabL_ok _ _
noncomputable def extraL : FuncId → Option Spec := fun g => Bool.rec (motive := fun _ => Option Spec) (Bool.rec (motive := fun _ => Option Spec) (Bool.rec (motive := fun _ => Option Spec) (Bool.rec (motive := fun _ => Option Spec) (extraR g) (some lowS) (Nat.beq g 19)) (some clsS) (Nat.beq g 118)) (some mayS) (Nat.beq g 47)) (some decS) (Nat.beq g 18)
theorem extraL_ok (f : FuncId) (s : Spec) (h : extraL f = some s) : CalleeOk Tryz.prog gam f s := by
  revert h
  show Bool.rec (motive := fun _ => Option Spec) (Bool.rec (motive := fun _ => Option Spec) (Bool.rec (motive := fun _ => Option Spec) (Bool.rec (motive := fun _ => Option Spec) (extraR f) (some lowS) (Nat.beq f 19)) (some clsS) (Nat.beq f 118)) (some mayS) (Nat.beq f 47)) (some decS) (Nat.beq f 18) = some s → _
  cases h3 : Nat.beq f 18 with
  | true =>
    intro h; obtain rfl := Option.some.inj h
    obtain rfl := Nat.eq_of_beq_eq_true h3
    exact .inl ⟨by kernel_rfl, decS_sound⟩
  | false =>
    cases h2 : Nat.beq f 47 with
    | true =>
      intro h; obtain rfl := Option.some.inj h
      obtain rfl := Nat.eq_of_beq_eq_true h2
      exact .inl ⟨by kernel_rfl, mayS_sound⟩
    | false =>
      cases h1 : Nat.beq f 118 with
      | true =>
        intro h; obtain rfl := Option.some.inj h
        obtain rfl := Nat.eq_of_beq_eq_true h1
        exact .inl ⟨by kernel_rfl, clsS_sound⟩
      | false =>
        cases h0 : Nat.beq f 19 with
        | true =>
          intro h; obtain rfl := Option.some.inj h
          obtain rfl := Nat.eq_of_beq_eq_true h0
          exact .inl ⟨by kernel_rfl, lowS_sound⟩
        | false =>
          exact extraR_ok f s
end Go.Proofs.YtieiopaobipdoaaGreatDoor.HM
