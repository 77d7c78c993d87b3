/- awake() of the verifier's package 'fleuronlaw13' returns true in every world that holds the library's tables: by one run of the fast machine. -/
import Derived.Test.YtamgnggeckomkaaGreatDoorCFT2
import Derived.Test.YtamgnggeckomkaaGreatDoorCQ2
import Derived.Test.YtamgnggeckomkaaGreatDoorHM
namespace Go.Proofs.YtamgnggeckomkaaGreatDoor.HM
open Go Go.RowKit

def cloT : Tr Unit := trOf [10] .leaf
noncomputable def extra0 : FuncId → Option Spec := fun g => Bool.rec (motive := fun _ => Option Spec) none (some roundS) (Nat.beq g 7)

theorem extra0_ok (f : FuncId) (s : Spec) (h : extra0 f = some s) : CalleeOk Tryz.prog gam f s := by
  revert h
  show Bool.rec (motive := fun _ => Option Spec) none (some roundS) (Nat.beq f 7) = some s → _
  cases hf : Nat.beq f 7 with
  | false => intro h; cases h
  | true =>
    intro h; cases h
    obtain rfl := Nat.eq_of_beq_eq_true hf
    exact .inl ⟨by kernel_rfl, round_sound⟩

/-- a function that ranges over a map: in whatever order -/
noncomputable def ctxK : FuncId → Option Spec := fun g => Option.rec (motive := fun _ => Option Spec) none (fun _ => some (runX Tryz.prog gam (inTr pur) (inTr cloT) ext bod extra0 ftab 1000 50 g)) (Tr.get bod g)
theorem ctxK_callee (f : FuncId) (s : Spec) (hs : ctxK f = some s) : CalleeOk Tryz.prog gam f s := by
  unfold ctxK at hs
  cases hb : Tr.get bod f with
  | none => rw [hb] at hs; cases hs
  | some u =>
    rw [hb] at hs
    obtain rfl := Option.some.inj hs
    exact .inl ⟨bod_ok f (by unfold inTr; rw [hb]), runX_sound (prog_ok extra0_ok) tab_ok 50 f⟩
theorem ctxOk_of (c : FuncId → Option Spec) (hc : ∀ f s, c f = some s → CalleeOk Tryz.prog gam f s) : CtxOk ⟨Tryz.prog, gam, c, inTr pur, ext, inTr cloT⟩ := ⟨hc, ext_ok⟩
noncomputable def keysS : Spec := callM ⟨Tryz.prog, gam, ctxK, inTr pur, ext, inTr cloT⟩ 1000 28
theorem keys_sound : Sound Tryz.prog gam 28 keysS := callM_sound (ctxOk_of ctxK ctxK_callee) (by kernel_rfl) 1000 _

noncomputable def extraR : FuncId → Option Spec := fun g => Bool.rec (motive := fun _ => Option Spec) (extra0 g) (some keysS) (Nat.beq g 28)

theorem extraR_ok (f : FuncId) (s : Spec) (h : extraR f = some s) : CalleeOk Tryz.prog gam f s := by
  revert h
  show Bool.rec (motive := fun _ => Option Spec) (extra0 f) (some keysS) (Nat.beq f 28) = some s → _
  cases hf : Nat.beq f 28 with
  | false => exact extra0_ok f s
  | true =>
    intro h
    obtain rfl : keysS = s := Option.some.inj h
    obtain rfl := Nat.eq_of_beq_eq_true hf
    exact .inl ⟨by kernel_rfl, keys_sound⟩

/-- does a run give true? -/
noncomputable def isT : Option (V × Hp) → Bool := fun o => Option.rec (motive := fun _ => Bool) false (fun p => Prod.rec (motive := fun _ => Bool) (fun v _ => V.same v (.bool true)) p) o

noncomputable def awakeRun : Bool := isT (runX Tryz.prog gam (inTr pur) (inTr cloT) ext bod extraR ftab 1000 60 14 [] Hp.empty)
theorem awake_run : awakeRun = true := by kernel_rfl

theorem isT_inv {o : Option (V × Hp)} (h : isT o = true) : ∃ k, o = some (.bool true, k) := by
  cases o with
  | none => cases h
  | some p =>
    obtain ⟨v, k⟩ := p
    have h2 : V.same v (.bool true) = true := h
    have := V.same_eq _ _ h2
    exact ⟨k, by rw [this]⟩

/-- a run from an empty heap that gives true is a contract, whatever the heap -/
noncomputable def trueS : List V → Hp → Option (V × Hp)
  | [], h => some (.bool true, h)
  | _, _ => none

theorem awake_sound : Sound Tryz.prog gam 14 trueS := by
  intro args h r h' hs N0 w0 ρ w us H hv
  unfold trueS at hs
  split at hs
  · simp only [Option.some.injEq, Prod.mk.injEq] at hs; obtain ⟨rfl, rfl⟩ := hs
    have h0 := hv.nil_inv
    obtain rfl : us = #[] := by cases us; simp_all
    obtain ⟨k, hk⟩ := isT_inv awake_run
    have hcall := runX_sound (prog_ok extraR_ok) tab_ok _ _ _ _ _ _ hk w.heap.size _ _ w #[] (Rel.start H.globNow) (VRs.nil _)
    refine hcall.mono ?_
    rintro e w' ⟨ρ', v, rfl, _, k1, k2⟩
    cases k2
    exact ⟨ρ, _, rfl, .refl _, H.grow k1.below, .bool _⟩
  · cases hs

noncomputable def extraA : FuncId → Option Spec := fun g => Bool.rec (motive := fun _ => Option Spec) (extraR g) (some trueS) (Nat.beq g 14)
theorem extraA_ok (f : FuncId) (s : Spec) (h : extraA f = some s) : CalleeOk Tryz.prog gam f s := by
  revert h
  show Bool.rec (motive := fun _ => Option Spec) (extraR f) (some trueS) (Nat.beq f 14) = some s → _
  cases hf : Nat.beq f 14 with
  | false => exact extraR_ok f s
  | true =>
    intro h; cases h
    obtain rfl := Nat.eq_of_beq_eq_true hf
    exact .inl ⟨by kernel_rfl, awake_sound⟩

/-- a law's run, with what stands for awake() and Round -/
noncomputable def lawRun (f : Nat) (args : List V) : Bool := isT (runX Tryz.prog gam (inTr pur) (inTr cloT) ext bod extraA ftab 1000 60 f args Hp.empty)

theorem law_c {f : Nat} {args : List V} (h : lawRun f args = true) {us : Array Value} (hv : VRs (fun _ => none) args us.toList) {W : World} (hT : Tabs W) :
    Calls Tryz.prog f us W fun e w' => e = .returned (.bool true) ∧ Below W.heap.size W w' := by
  obtain ⟨k, hk⟩ := isT_inv h
  refine (runs_calls (runX_sound (prog_ok extraA_ok) tab_ok _ _) hk rfl (glob_ok hT) hv).mono ?_
  rintro e w' ⟨v, rfl, hv, hb⟩
  cases hv
  exact ⟨rfl, hb⟩

theorem awake_c {W : World} (hT : Tabs W) : Calls Tryz.prog 14 #[] W fun e w' => e = .returned (.bool true) ∧ Below W.heap.size W w' := by
  obtain ⟨k, hk⟩ := isT_inv awake_run
  refine (runs_calls (runX_sound (prog_ok extraR_ok) tab_ok _ _) hk rfl (glob_ok hT) (VRs.nil _)).mono ?_
  rintro e w' ⟨v, rfl, hv, hb⟩
  cases hv
  exact ⟨rfl, hb⟩

end Go.Proofs.YtamgnggeckomkaaGreatDoor.HM
