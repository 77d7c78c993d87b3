/- awake() of the verifier's package 'fleuronlaw18' returns true in every world that holds the library's tables; what a law's run gives where an argument lies in memory. -/
import Derived.Test.YtieiopaobipdoaaGreatDoorTK
namespace Go.Proofs.YtieiopaobipdoaaGreatDoor.HM
open Go Go.RowKit
variable [E : Amb]
omit [E : Amb] in
theorem awake_run : isT (goK 7 [] Hp.empty) = true := by kernel_rfl
noncomputable def trueS : List V → Hp → Option (V × Hp)
  | [], h => some (.bool true, h)
  | _, _ => none
theorem awake_sound : Sound Tryz.prog gam 7 trueS := by
  intro args h r h' hs N0 w0 ρ w us H hv
  unfold trueS at hs
  split at hs
  · simp only [Option.some.injEq, Prod.mk.injEq] at hs; obtain ⟨rfl, rfl⟩ := hs
    have h0 := hv.nil_inv
    obtain rfl : us = #[] := by cases us; simp_all
    obtain ⟨k, hk⟩ := isT_inv awake_run
    have hcall := goK_sound _ _ _ _ _ hk w.heap.size _ _ w #[] (Rel.start H.globNow) (VRs.nil _)
    refine hcall.mono ?_
    rintro e w' ⟨ρ', v, rfl, _, k1, k2⟩
    cases k2
    exact ⟨ρ, _, rfl, .refl _, H.grow k1.below, .bool _⟩
  · cases hs
noncomputable def extraA : FuncId → Option Spec := fun g => Bool.rec (motive := fun _ => Option Spec) (extraK g) (some trueS) (Nat.beq g 7)
theorem extraA_ok (f : FuncId) (s : Spec) (h : extraA f = some s) : CalleeOk Tryz.prog gam f s := by
  revert h
  show Bool.rec (motive := fun _ => Option Spec) (extraK f) (some trueS) (Nat.beq f 7) = some s → _
  cases hf : Nat.beq f 7 with
  | false => exact extraK_ok f s
  | true =>
    intro h; cases h
    obtain rfl := Nat.eq_of_beq_eq_true hf
    exact .inl ⟨by kernel_rfl, awake_sound⟩
theorem awake_c {W : World} (hT : Tabs W) : Calls Tryz.prog 7 #[] W fun e w' => e = .returned (.bool true) ∧ Below W.heap.size W w' := by
  obtain ⟨k, hk⟩ := isT_inv awake_run
  refine (runs_calls (goK_sound _) hk rfl (glob_ok hT) (VRs.nil _)).mono ?_
  rintro e w' ⟨v, rfl, hv, hb⟩
  cases hv
  exact ⟨rfl, hb⟩
noncomputable def lawRun (f : Nat) (args : List V) : Bool := isT (runX Tryz.prog gam (inTr pur) (inTr clo) ext bod extraA ftab 1000 60 f args Hp.empty)
def memR (b : Nat) (m : Mem) : Ren := ⟨fun _ => Option.none, fun c => if c = b then some m else Option.none⟩
theorem law_cM {f : Nat} {args : List V} (h : lawRun f args = true) {us : Array Value} {b : Nat} {m : Mem} {W : World} (hm : W.heap[b]? = some (.cells m.arr m.el m.fr)) (hv : VRs (memR b m) args us.toList) (hT : Tabs W) :
    Calls Tryz.prog f us W fun e w' => e = .returned (.bool true) ∧ Below W.heap.size W w' := by
  obtain ⟨k, hk⟩ := isT_inv h
  have H : Rel gam W.heap.size ⟨W, 0, memR b m, []⟩ (memR b m) Hp.empty W := Rel.startK (glob_ok hT) 0 (memR b m) (fun _ _ => rfl) (fun a L h => by cases h) fun c m' hc => by
    simp only [memR] at hc
    split at hc
    · rename_i e; subst e; simp only [Option.some.injEq] at hc; subst hc; exact hm
    · cases hc
  refine ((runX_sound (prog_ok extraA_ok) tab_ok _ _) _ _ _ _ hk W.heap.size _ _ W us H hv).mono ?_
  rintro e w' ⟨ρ', v, rfl, _, k1, k2⟩
  cases k2
  exact ⟨rfl, k1.below⟩
theorem law_c {f : Nat} {args : List V} (h : lawRun f args = true) {us : Array Value} {W : World} (hv : VRs Ren.nil args us.toList) (hT : Tabs W) :
    Calls Tryz.prog f us W fun e w' => e = .returned (.bool true) ∧ Below W.heap.size W w' := by
  obtain ⟨k, hk⟩ := isT_inv h
  refine (runs_calls (runX_sound (prog_ok extraA_ok) tab_ok _ _) hk rfl (glob_ok hT) hv).mono ?_
  rintro e w' ⟨v, rfl, hv, hb⟩
  cases hv
  exact ⟨rfl, hb⟩
end Go.Proofs.YtieiopaobipdoaaGreatDoor.HM
