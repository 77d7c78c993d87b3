/- awake() of the verifier's package 'fleuronlaw11' returns true in every world that holds the library's tables: by one run of the fast machine. -/
import Derived.Test.YtmgjgdnjkgnbiaaGreatDoorRQO
import Derived.Test.YtmgjgdnjkgnbiaaGreatDoorPH
namespace Go.Proofs.YtmgjgdnjkgnbiaaGreatDoor.HM
open Go Go.RowKit
noncomputable def isT : Option (V × Hp) → Bool := fun o => Option.rec (motive := fun _ => Bool) false (fun p => Prod.rec (motive := fun _ => Bool) (fun v _ => V.same v (.bool true)) p) o
theorem awake_run : isT (goO 10 [] Hp.empty) = true := by kernel_rfl
theorem isT_inv {o : Option (V × Hp)} (h : isT o = true) : ∃ k, o = some (.bool true, k) := by
  cases o with
  | none => cases h
  | some p =>
    obtain ⟨v, k⟩ := p
    have h2 : V.same v (.bool true) = true := h
    have := V.same_eq _ _ h2
    exact ⟨k, by rw [this]⟩
noncomputable def trueS : List V → Hp → Option (V × Hp)
  | [], h => some (.bool true, h)
  | _, _ => none
theorem awake_sound : Sound Tryz.prog gam 10 trueS := by
  intro args h r h' hs N0 w0 ρ w us H hv
  unfold trueS at hs
  split at hs
  · simp only [Option.some.injEq, Prod.mk.injEq] at hs; obtain ⟨rfl, rfl⟩ := hs
    have h0 := hv.nil_inv
    obtain rfl : us = #[] := by cases us; simp_all
    obtain ⟨k, hk⟩ := isT_inv awake_run
    have hcall := goO_sound _ _ _ _ _ hk w.heap.size _ _ w #[] (Rel.start H.globNow) (VRs.nil _)
    refine hcall.mono ?_
    rintro e w' ⟨ρ', v, rfl, _, k1, k2⟩
    cases k2
    exact ⟨ρ, _, rfl, .refl _, H.grow k1.below, .bool _⟩
  · cases hs
noncomputable def extraA : FuncId → Option Spec := fun g => Bool.rec (motive := fun _ => Option Spec) (extraO g) (some trueS) (Nat.beq g 10)
theorem extraA_ok (f : FuncId) (s : Spec) (h : extraA f = some s) : CalleeOk Tryz.prog gam f s := by
  revert h
  show Bool.rec (motive := fun _ => Option Spec) (extraO f) (some trueS) (Nat.beq f 10) = some s → _
  cases hf : Nat.beq f 10 with
  | false => exact extraO_ok f s
  | true =>
    intro h; cases h
    obtain rfl := Nat.eq_of_beq_eq_true hf
    exact .inl ⟨by kernel_rfl, awake_sound⟩
theorem awake_c {W : World} (hT : Tabs W) : Calls Tryz.prog 10 #[] W fun e w' => e = .returned (.bool true) ∧ Below W.heap.size W w' := by
  obtain ⟨k, hk⟩ := isT_inv awake_run
  refine (runs_calls (goO_sound _) hk rfl (glob_ok hT) (VRs.nil _)).mono ?_
  rintro e w' ⟨v, rfl, hv, hb⟩
  cases hv
  exact ⟨rfl, hb⟩
theorem gam0 : gam.get 0 = some (spaces.map fun z => V.int .u8 z) := by kernel_rfl
noncomputable def lawRunN (f : Nat) (args : List V) : Bool := isT (runX Tryz.prog gam (inTr pur) (inTr clo) ext bod extraA ftab 1000 60 f args (Hp.nums 10))
theorem law_cN (e : Int) {f : Nat} {args : List V} (h : lawRunN f args = true) {us : Array Value} (hv : VRs (numR (digs 10 e)) args us.toList) {W : World} (hT : Tabs W) :
    Calls Tryz.prog f us W fun e w' => e = .returned (.bool true) ∧ Below W.heap.size W w' := by
  obtain ⟨k, hk⟩ := isT_inv h
  rw [show (10 : Nat) = (digs 10 e).length from (digs_length 10 e).symm] at hk
  refine (runs_callsN (runX_sound (prog_ok extraA_ok) tab_ok _ _) (digs 10 e) hk rfl (glob_ok hT) (Nat.lt_of_le_of_lt (Nat.zero_le _) ((glob_ok hT) 0 _ gam0).1) hv).mono ?_
  rintro e w' ⟨v, rfl, hv, hb⟩
  cases hv
  exact ⟨rfl, hb⟩
end Go.Proofs.YtmgjgdnjkgnbiaaGreatDoor.HM
