/- Contracts: the two Numbers of a text that nobody knows, and Decimal of a number that nobody knows. -/
import Derived.Test.YtkcpoapbncpiiaaGreatDoorIQP
import Derived.Test.YtkcpoapbncpiiaaGreatDoorNV
namespace Go.Proofs.YtkcpoapbncpiiaaGreatDoor.HM
open Go Go.RowKit
abbrev Amb.of (n : Int) (s : ByteArray) (h : s.size ≤ 100) : Amb where
  num a := if a < 5000 then n else if a = 5100 then (s.size : Int) else 0
  str i := if i = 100 then s else ByteArray.empty
  lim i := by
    split
    · rename_i e; subst e; exact h
    · exact Nat.zero_le _
  len i := by
    rw [if_neg (by omega)]
    split
    · rename_i e
      rw [if_pos (by omega)]
    · rename_i e
      rw [if_neg (by omega)]; rfl
variable [E : Amb]
def numT : Bool → Bool → V
  | true, false => .lin .i64 0 [⟨1, 0, -2147483648, 2147483647⟩]
  | true, true => .lin .i64 0 [⟨1, 0, -1073741824, 1073741824⟩]
  | false, _ => .int .i64 0
noncomputable def numS (f : FuncId) (ok dc : Bool) : Spec := fun args h => match args with
  | [.mod 0 100] => some (.tup [numT ok dc, .bool ok], h)
  | _ => goL f args h
noncomputable def decK (dc : Bool) : Spec := fun args h => match args, dc with
  | [.lin .i64 0 [⟨1, 0, _, _⟩]], true => some (.mod 0 100, h)
  | _, _ => decS args h
structure Known (ok dc : Bool) : Prop where
  num : VR Ren.nil (numT ok dc) (.int .i64 (Num.numV (E.str 100).data.toList).1)
  ok : (Num.numV (E.str 100).data.toList).2 = ok
  dec : dc = true → (-9223372036854775808 ≤ E.num 0 ∧ E.num 0 ≤ 9223372036854775807) ∧ E.str 100 = ⟨(Num.dec (E.num 0)).toArray⟩
theorem numS_sound {ok dc : Bool} (K : Known ok dc) {f : FuncId} (hc : ∀ w, Calls Tryz.prog f #[.string (E.str 100)] w fun e w' => e = .returned (.tuple #[.int .i64 (Num.numV (E.str 100).data.toList).1, .bool (Num.numV (E.str 100).data.toList).2]) ∧ Below w.heap.size w w') : Sound Tryz.prog gam f (numS f ok dc) := by
  intro args h r h' hs N0 w0 ρ w us H hv
  unfold numS at hs
  split at hs
  · simp only [Option.some.injEq, Prod.mk.injEq] at hs; obtain ⟨rfl, rfl⟩ := hs
    obtain ⟨u, us', k1, hx, k2⟩ := hv.cons_inv
    have k3 := k2.nil_inv
    subst k3
    obtain rfl : us = #[u] := by cases us; simp_all
    cases hx with
    | mod _ _ _ hm _ => exact absurd rfl hm
    | opq _ =>
      refine (hc w).mono ?_
      rintro e w' ⟨rfl, hb⟩
      refine ⟨ρ, _, rfl, .refl _, H.grow hb, VRs.tup (us := #[_, _]) (VRs.cons (K.num.ext (Ext.nil _)) (VRs.cons ?_ (VRs.nil _)))⟩
      rw [K.ok]; exact .bool _
  · exact goL_sound f args h r h' hs N0 w0 ρ w us H hv
theorem decK_sound {ok dc : Bool} (K : Known ok dc) : Sound Tryz.prog gam 8 (decK dc) := by
  intro args h r h' hs N0 w0 ρ w us H hv
  unfold decK at hs
  split at hs
  · simp only [Option.some.injEq, Prod.mk.injEq] at hs; obtain ⟨rfl, rfl⟩ := hs
    obtain ⟨u, us', k1, hx, k2⟩ := hv.cons_inv
    have k3 := k2.nil_inv
    subst k3
    obtain rfl : us = #[u] := by cases us; simp_all
    cases hx with
    | lin _ _ _ n _ hn =>
      obtain ⟨⟨h1, h2⟩, h3⟩ := K.dec rfl
      have e : n = E.num 0 := by simp only [sumR, valR] at hn; omega
      subst e
      refine (Num.dec_any _ w h1 h2).mono ?_
      rintro e w' ⟨rfl, hb⟩
      refine ⟨ρ, _, rfl, .refl _, H.grow hb, ?_⟩
      rw [← h3]; exact .opq 100
  · exact decS_sound args h r h' hs N0 w0 ρ w us H hv
noncomputable def extraE (ok dc : Bool) : FuncId → Option Spec := fun g => Bool.rec (motive := fun _ => Option Spec) (Bool.rec (motive := fun _ => Option Spec) (Bool.rec (motive := fun _ => Option Spec) (extraA g) (some (numS 17 ok dc)) (Nat.beq g 17)) (some (numS 18 ok dc)) (Nat.beq g 18)) (some (decK dc)) (Nat.beq g 8)
theorem extraE_ok {ok dc : Bool} (K : Known ok dc) (f : FuncId) (s : Spec) (h : extraE ok dc f = some s) : CalleeOk Tryz.prog gam f s := by
  have hsz : (E.str 100).size ≤ maxLen := Nat.le_trans (E.lim 100) (by decide)
  revert h
  show Bool.rec (motive := fun _ => Option Spec) (Bool.rec (motive := fun _ => Option Spec) (Bool.rec (motive := fun _ => Option Spec) (extraA f) (some (numS 17 ok dc)) (Nat.beq f 17)) (some (numS 18 ok dc)) (Nat.beq f 18)) (some (decK dc)) (Nat.beq f 8) = some s → _
  cases h2 : Nat.beq f 8 with
  | true =>
    intro h; obtain rfl := Option.some.inj h
    obtain rfl := Nat.eq_of_beq_eq_true h2
    exact .inl ⟨by kernel_rfl, decK_sound K⟩
  | false =>
    cases h1 : Nat.beq f 18 with
    | true =>
      intro h; obtain rfl := Option.some.inj h
      obtain rfl := Nat.eq_of_beq_eq_true h1
      exact .inl ⟨by kernel_rfl, numS_sound K fun w => (Num.numberR_any _ w hsz).mono fun e w' ⟨he, hw⟩ => ⟨he, by rw [← hw]; exact .refl _ _⟩⟩
    | false =>
      cases h0 : Nat.beq f 17 with
      | true =>
        intro h; obtain rfl := Option.some.inj h
        obtain rfl := Nat.eq_of_beq_eq_true h0
        exact .inl ⟨by kernel_rfl, numS_sound K fun w => Num.numberP_any _ w hsz⟩
      | false => exact extraA_ok f s
noncomputable def lawRunE (ok dc : Bool) (f : Nat) (args : List V) : Bool := isT (runX Tryz.prog gam (inTr pur) (inTr clo) ext bod (extraE ok dc) ftab 1000 60 f args Hp.empty)
theorem law_cE {ok dc : Bool} (K : Known ok dc) {f : Nat} {args : List V} (h : lawRunE ok dc f args = true) {us : Array Value} {W : World} (hv : VRs Ren.nil args us.toList) (hT : Tabs W) :
    Calls Tryz.prog f us W fun e w' => e = .returned (.bool true) ∧ Below W.heap.size W w' := by
  obtain ⟨k, hk⟩ := isT_inv h
  refine (runs_calls (runX_sound (prog_ok (extraE_ok K)) tab_ok _ _) hk rfl (glob_ok hT) hv).mono ?_
  rintro e w' ⟨v, rfl, hv, hb⟩
  cases hv
  exact ⟨rfl, hb⟩
end Go.Proofs.YtkcpoapbncpiiaaGreatDoor.HM
