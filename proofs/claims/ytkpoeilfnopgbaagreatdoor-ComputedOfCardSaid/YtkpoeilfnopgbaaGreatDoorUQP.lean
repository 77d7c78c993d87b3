/- awake() of the verifier's package 'fleuronlaw14' returns true in every world that holds the library's tables. -/
import Derived.Test.YtkpoeilfnopgbaaGreatDoorUQ4
namespace Go.Proofs.YtkpoeilfnopgbaaGreatDoor.HM
open Go Go.RowKit
variable [E : Amb]
noncomputable def isT : Option (V × Hp) → Bool := fun o => Option.rec (motive := fun _ => Bool) false (fun p => Prod.rec (motive := fun _ => Bool) (fun v _ => V.same v (.bool true)) p) o
omit [E : Amb] in
theorem isT_inv {o : Option (V × Hp)} (h : isT o = true) : ∃ k, o = some (.bool true, k) := by
  cases o with
  | none => cases h
  | some p =>
    obtain ⟨v, k⟩ := p
    have h2 : V.same v (.bool true) = true := h
    have := V.same_eq _ _ h2
    exact ⟨k, by rw [this]⟩
noncomputable def goL : FuncId → Spec := fun f => runX Tryz.prog gam (inTr pur) (inTr clo) ext bod extraL ftab 1000 60 f
theorem goL_sound (f : FuncId) : Sound Tryz.prog gam f (goL f) := runX_sound (prog_ok extraL_ok) tab_ok _ _
omit [E : Amb] in
theorem awake_run : isT (goL 6 [] Hp.empty) = true := by kernel_rfl
theorem awake_c {W : World} (hT : Tabs W) : Calls Tryz.prog 6 #[] W fun e w' => e = .returned (.bool true) ∧ Below W.heap.size W w' := by
  obtain ⟨k, hk⟩ := isT_inv awake_run
  refine (runs_calls (goL_sound _) hk rfl (glob_ok hT) (VRs.nil _)).mono ?_
  rintro e w' ⟨v, rfl, hv, hb⟩
  cases hv
  exact ⟨rfl, hb⟩
end Go.Proofs.YtkpoeilfnopgbaaGreatDoor.HM
