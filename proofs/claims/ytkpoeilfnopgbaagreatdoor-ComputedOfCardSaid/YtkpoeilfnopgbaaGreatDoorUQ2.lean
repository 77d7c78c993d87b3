/- fleuronalike.Round(k, n) is k's rest by n, from 0 on: a contract for the fast machine. -/
import Derived.Test.YtkpoeilfnopgbaaGreatDoorUQ1
import Derived.WalkKit
import Derived.ProofKit
import Derived.OpenShut
namespace Go.Proofs.YtkpoeilfnopgbaaGreatDoor.HM
open Go Go.RowKit
variable [E : Amb]
omit [E : Amb] in
theorem tmod_bound (k n : Int) (hn : 0 < n) : -n < k.tmod n ∧ k.tmod n < n := by
  constructor
  · have := Int.lt_tmod_of_pos k hn; omega
  · exact Int.tmod_lt_of_pos k hn
omit [E : Amb] in
theorem round_eq (k n : Int) : (k.tmod n + n) % n = k % n := by
  rw [Int.add_emod_right, Int.tmod_def, Int.sub_mul_emod_self_left]
omit [E : Amb] in
theorem wrap64' {n : Int} (h : -9223372036854775808 ≤ n ∧ n < 9223372036854775808) : IntKind.i64.wrap n = n := by
  have e : IntKind.i64.wrap n = if n % 18446744073709551616 ≥ 9223372036854775808 then n % 18446744073709551616 - 18446744073709551616 else n % 18446744073709551616 := by
    unfold IntKind.wrap
    simp [IntKind.bits, IntKind.signed]
  rw [e]; split <;> omega
omit [E : Amb] in
theorem round_c (k n : Int) (hn : 0 < n) (hn2 : n < 4611686018427387904) (w : World) :
    Calls Tryz.prog 11 #[.int .i64 k, .int .i64 n] w fun e w' => e = .returned (.int .i64 (k % n)) ∧ w' = w := by
  have h0 : ¬ n = 0 := by omega
  have hb := tmod_bound k n hn
  have hw : IntKind.i64.wrap (k.tmod n + n) = k.tmod n + n := wrap64' (by omega)
  go_enter Tryz.func11, Tryz.ntmps11
  go_wp2
  all_goals try go_ret
  refine ⟨?_, rfl⟩
  show Ending.returned (Value.int IntKind.i64 ((k.tmod n + n) % n)) = _
  rw [round_eq]
noncomputable def roundS : List V → Hp → Option (V × Hp)
  | [.mod m i, .int .i64 (Int.ofNat n)], h => match (!(Nat.beq n 0)) && (Nat.blt n 1000000 && (Nat.beq (m % n) 0 && !(Nat.beq m 0))) with
    | true => some (.int .i64 (Int.ofNat (i % n)), h)
    | false => none
  | _, _ => none
theorem round_sound : Sound Tryz.prog gam 11 roundS := by
  intro args h r h' hs N0 w0 ρ w us H hv
  unfold roundS at hs
  split at hs
  · rename_i m i n
    split at hs
    · rename_i hc
      simp only [Option.some.injEq, Prod.mk.injEq] at hs; obtain ⟨rfl, rfl⟩ := hs
      simp only [Bool.and_eq_true, Bool.not_eq_true'] at hc
      obtain ⟨c1, c2, c3, c4⟩ := hc
      have hn0 : n ≠ 0 := Nat.ne_of_beq_eq_false c1
      have hn1 : n < 1000000 := Nat.le_of_ble_eq_true c2
      have hn2 : m % n = 0 := Nat.eq_of_beq_eq_true c3
      obtain ⟨u, us', k1, hx, k2⟩ := hv.cons_inv
      obtain ⟨u2, us2, k3, hy, k4⟩ := k2.cons_inv
      have k5 := k4.nil_inv
      subst k5 k3
      obtain rfl : us = #[u, u2] := by cases us; simp_all
      obtain rfl := hy.int_inv
      cases hx with
      | opq _ => cases c4
      | mod _ _ k hm hk =>
      refine (round_c k (n : Int) (by omega) (by omega) w).mono ?_
      rintro e w' ⟨rfl, rfl⟩
      refine ⟨ρ, _, rfl, .refl _, H, ?_⟩
      have e1 : k % (n : Int) = Int.ofNat (i % n) := by
        obtain ⟨q, hq⟩ := Nat.dvd_of_mod_eq_zero hn2
        subst hq
        have e2 : (k % ((n * q : Nat) : Int)) % (n : Int) = k % (n : Int) := Int.emod_emod_of_dvd k ⟨(q : Int), by simp⟩
        rw [← e2, hk]
        rfl
      rw [e1]
      exact .int _ _
    · cases hs
  · cases hs
end Go.Proofs.YtkpoeilfnopgbaaGreatDoor.HM
