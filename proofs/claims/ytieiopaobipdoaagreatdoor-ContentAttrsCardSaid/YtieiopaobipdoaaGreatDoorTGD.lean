/- What stands for system.chosen, too: contracts by the functions' numbers; awake() of chapter 18. -/
import Derived.Test.YtieiopaobipdoaaGreatDoorTGC
namespace Go.Proofs.YtieiopaobipdoaaGreatDoor.HM
open Go Go.RowKit
variable [E : Amb]
noncomputable def extraC : FuncId → Option Spec := fun g => Bool.rec (motive := fun _ => Option Spec) (extraL g) (some chosenS) (Nat.beq g 91)
theorem extraC_ok (f : FuncId) (s : Spec) (h : extraC f = some s) : CalleeOk Tryz.prog gam f s := by
  revert h
  show Bool.rec (motive := fun _ => Option Spec) (extraL f) (some chosenS) (Nat.beq f 91) = some s → _
  cases hf : Nat.beq f 91 with
  | true =>
    intro h; obtain rfl := Option.some.inj h
    obtain rfl := Nat.eq_of_beq_eq_true hf
    exact .inl ⟨by kernel_rfl, chosenS_sound⟩
  | false => exact extraL_ok f s
noncomputable def goC : FuncId → Spec := fun f => runX Tryz.prog gam (inTr pur) (inTr clo) ext bod extraC ftab 1000 60 f
theorem goC_sound (f : FuncId) : Sound Tryz.prog gam f (goC f) := runX_sound (prog_ok extraC_ok) tab_ok _ _
noncomputable def isT : Option (V × Hp) → Bool := fun o => Option.rec (motive := fun _ => Bool) false (fun p => Prod.rec (motive := fun _ => Bool) (fun v _ => V.same v (.bool true)) p) o
omit [E : Amb] in
theorem isT_inv {o : Option (V × Hp)} (h : isT o = true) : ∃ k, o = some (.bool true, k) := by
  cases o with
  | none => cases h
  | some p =>
    obtain ⟨v, k⟩ := p
    have h2 : V.same v (.bool true) = true := h
    have := V.same_eq _ _ h2
    exact ⟨k, by rw [this]⟩
end Go.Proofs.YtieiopaobipdoaaGreatDoor.HM
