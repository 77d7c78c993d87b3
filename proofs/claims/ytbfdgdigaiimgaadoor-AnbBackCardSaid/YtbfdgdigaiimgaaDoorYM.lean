/- Runs that a law makes again and again are told of terms that stay the same, so that the kernel runs them once. -/
import Derived.Test.YtbfdgdigaiimgaaDoorYQP
import Derived.Test.YtbfdgdigaiimgaaDoorPH
namespace Go.Proofs.YtbfdgdigaiimgaaDoor.HM
open Go Go.RowKit
variable [E : Amb]
noncomputable def memoG (A : List V) (H : Hp) (spec : Spec) : Spec := fun args h => Bool.rec (motive := fun _ => Option (V × Hp)) (spec args h) (Bool.rec (motive := fun _ => Option (V × Hp)) (spec args h) (spec A H) (sameHp h H)) (samesF args A)
theorem memoG_sound {P : Program} {Γ : Glob} {f : FuncId} {spec : Spec} (hsd : Sound P Γ f spec) {A : List V} {H0 : Hp} : Sound P Γ f (memoG A H0 spec) := by
  have e : memoG A H0 spec = spec := by
    funext args h
    show Bool.rec (motive := fun _ => Option (V × Hp)) (spec args h) (Bool.rec (motive := fun _ => Option (V × Hp)) (spec args h) (spec A H0) (sameHp h H0)) (samesF args A) = spec args h
    cases he : samesF args A with
    | false => rfl
    | true =>
      cases hm : sameHp h H0 with
      | false => rfl
      | true =>
        rw [samesF_eq] at he
        obtain rfl := V.sames_eq _ _ he
        obtain rfl := sameHp_eq hm
        rfl
  rw [e]; exact hsd
noncomputable def fstO : Option (V × Hp) → V := fun o => Option.rec (motive := fun _ => V) (.tup []) (fun p => p.1) o
noncomputable def sndO : Option (V × Hp) → Hp := fun o => Option.rec (motive := fun _ => Hp) Hp.empty (fun p => p.2) o
noncomputable def run0 (f : FuncId) : Spec := runX Tryd.prog gam (inTr pur) (inTr clo) ext bod extraA ftab 1000 60 f
theorem run0_sound (f : FuncId) : Sound Tryd.prog gam f (run0 f) := runX_sound (prog_ok extraA_ok) tab_ok _ _
noncomputable def TXT (a b : V) : V := fstO (run0 7 [a, b] Hp.empty)
noncomputable def NR (a b : V) : Option (V × Hp) := run0 9 [TXT a b] Hp.empty
noncomputable def textM (a b : V) : Spec := memoG [a, b] Hp.empty (run0 7)
noncomputable def nodesM (a b : V) : Spec := memoG [TXT a b] Hp.empty (run0 9)
noncomputable def parseM (a b : V) : Spec := memoG [fstO (NR a b)] (sndO (NR a b)) (run0 8)
noncomputable def deciM (a c : V) : Spec := memoG [a] Hp.empty (memoG [c] Hp.empty decS)
noncomputable def extraM (a b c : V) : FuncId → Option Spec := fun g => Bool.rec (motive := fun _ => Option Spec) (Bool.rec (motive := fun _ => Option Spec) (Bool.rec (motive := fun _ => Option Spec) (Bool.rec (motive := fun _ => Option Spec) (extraA g) (some (textM a b)) (Nat.beq g 7)) (some (nodesM a b)) (Nat.beq g 9)) (some (parseM a b)) (Nat.beq g 8)) (some (deciM a c)) (Nat.beq g 10)
theorem extraM_ok (a b c : V) (f : FuncId) (s : Spec) (h : extraM a b c f = some s) : CalleeOk Tryd.prog gam f s := by
  revert h
  show Bool.rec (motive := fun _ => Option Spec) (Bool.rec (motive := fun _ => Option Spec) (Bool.rec (motive := fun _ => Option Spec) (Bool.rec (motive := fun _ => Option Spec) (extraA f) (some (textM a b)) (Nat.beq f 7)) (some (nodesM a b)) (Nat.beq f 9)) (some (parseM a b)) (Nat.beq f 8)) (some (deciM a c)) (Nat.beq f 10) = some s → _
  cases h_3 : Nat.beq f 10 with
  | true =>
    intro h; obtain rfl := Option.some.inj h
    obtain rfl := Nat.eq_of_beq_eq_true h_3
    exact .inl ⟨by kernel_rfl, memoG_sound (memoG_sound decS_sound)⟩
  | false =>
    cases h_2 : Nat.beq f 8 with
    | true =>
      intro h; obtain rfl := Option.some.inj h
      obtain rfl := Nat.eq_of_beq_eq_true h_2
      exact .inl ⟨by kernel_rfl, memoG_sound (run0_sound _)⟩
    | false =>
      cases h_1 : Nat.beq f 9 with
      | true =>
        intro h; obtain rfl := Option.some.inj h
        obtain rfl := Nat.eq_of_beq_eq_true h_1
        exact .inl ⟨by kernel_rfl, memoG_sound (run0_sound _)⟩
      | false =>
        cases h_0 : Nat.beq f 7 with
        | true =>
          intro h; obtain rfl := Option.some.inj h
          obtain rfl := Nat.eq_of_beq_eq_true h_0
          exact .inl ⟨by kernel_rfl, memoG_sound (run0_sound _)⟩
        | false =>
          exact extraA_ok f s
noncomputable def lawRunM (a b c : V) (f : Nat) (args : List V) : Bool := isT (runX Tryd.prog gam (inTr pur) (inTr clo) ext bod (extraM a b c) ftab 1000 60 f args Hp.empty)
theorem law_cM' {a b c : V} {f : Nat} {args : List V} (h : lawRunM a b c f args = true) {us : Array Value} {W : World} (hv : VRs Ren.nil args us.toList) (hT : Tabs W) :
    Calls Tryd.prog f us W fun e w' => e = .returned (.bool true) ∧ Below W.heap.size W w' := by
  obtain ⟨k, hk⟩ := isT_inv h
  refine (runs_calls (runX_sound (prog_ok (extraM_ok a b c)) tab_ok _ _) hk rfl (glob_ok hT) hv).mono ?_
  rintro e w' ⟨v, rfl, hv, hb⟩
  cases hv
  exact ⟨rfl, hb⟩
end Go.Proofs.YtbfdgdigaiimgaaDoor.HM
