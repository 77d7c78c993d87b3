/- fleuronlaw5.AnbMatch: walked in every case: it returns true. -/
import Derived.Test.YtalfjpfpfeddiaaDoorA1
import Derived.Test.YtalfjpfpfeddiaaDoorM3
import Derived.RegionTactic
namespace Go.Proofs.YtalfjpfpfeddiaaDoor.Mat
open Go Go.RowKit

abbrev Tab (w : World) : Prop := Lib.TabIs Tryd.prog w "internal/strconv.uint64pow10" .u64 HM.pows

def inR (a b x o : Int) : Prop := -1000 ≤ a ∧ a ≤ 1000 ∧ -1000 ≤ b ∧ b ≤ 1000 ∧ 0 ≤ x ∧ x ≤ 1000 ∧ 0 ≤ o ∧ o ≤ 1000

theorem walk_out (a b x o : Int) (h : ¬ inR a b x o) (w : World) (hT : Tab w) :
    Calls Tryd.prog 5 #[.int .i64 a, .int .i64 b, .int .i64 x, .int .i64 o] w fun e w' => e = .returned (.bool true) ∧ Below w.heap.size w w' := by
  have aw := HM.awake_c hT
  go_enter Tryd.func5, Tryd.ntmps5
  go_wp2_with (first | (go_at_call 7; refine aw.mono ?_; rintro e w' ⟨rfl, hb⟩))
  all_goals first
    | (exfalso; unfold inR at h; omega)
    | (go_ret; exact ⟨rfl, hb⟩)

theorem wrap64 {n : Int} (h : -9223372036854775808 ≤ n ∧ n < 9223372036854775808) : IntKind.i64.wrap n = n := by
  have e : IntKind.i64.wrap n = if n % 18446744073709551616 ≥ 9223372036854775808 then n % 18446744073709551616 - 18446744073709551616 else n % 18446744073709551616 := by
    unfold IntKind.wrap
    simp [IntKind.bits, IntKind.signed]
  rw [e]; split <;> omega

theorem mulB {a x : Int} (h : -1000 ≤ a ∧ a ≤ 1000) (k : 0 ≤ x ∧ x ≤ 1000) : -1000000 ≤ a * x ∧ a * x ≤ 1000000 := by
  constructor
  · have : -1000 * x ≤ a * x := Int.mul_le_mul_of_nonneg_right h.1 k.1
    omega
  · have : a * x ≤ 1000 * x := Int.mul_le_mul_of_nonneg_right h.2 k.1
    omega


set_option maxRecDepth 100000 in
set_option maxHeartbeats 1000000 in
theorem walk_zero (a b x o : Int) (h : inR a b x o) (h0 : a = 0) (w : World) (hT : Tab w) :
    Calls Tryd.prog 5 #[.int .i64 a, .int .i64 b, .int .i64 x, .int .i64 o] w fun e w' => e = .returned (.bool true) ∧ Below w.heap.size w w' := by
  have aw := HM.awake_c hT
  obtain ⟨i1, i2, i3, i4, i5, i6, i7, i8⟩ := h
  have m := mulB ⟨i1, i2⟩ ⟨i5, i6⟩
  have n1 : decide (a < -1000) = false := decide_eq_false (by omega)
  have n2 : decide (1000 < a) = false := decide_eq_false (by omega)
  have n3 : decide (b < -1000) = false := decide_eq_false (by omega)
  have n4 : decide (1000 < b) = false := decide_eq_false (by omega)
  have n5 : decide (x < 0) = false := decide_eq_false (by omega)
  have n6 : decide (1000 < x) = false := decide_eq_false (by omega)
  have n7 : decide (o < 0) = false := decide_eq_false (by omega)
  have n8 : decide (1000 < o) = false := decide_eq_false (by omega)
  have w1 : IntKind.i64.wrap (a * x) = a * x := wrap64 (by omega)
  have w2 : IntKind.i64.wrap (a * x + b) = a * x + b := wrap64 (by omega)
  have w3 : IntKind.i64.wrap (a * x + b + o) = a * x + b + o := wrap64 (by omega)
  have w4 : IntKind.i64.wrap (b - 1) = b - 1 := wrap64 (by omega)
  have w5 : IntKind.i64.wrap (b - 1 - o) = b - 1 - o := wrap64 (by omega)
  have w6 : IntKind.i64.wrap (b + 1) = b + 1 := wrap64 (by omega)
  have w7 : IntKind.i64.wrap (b + 1 + o) = b + 1 + o := wrap64 (by omega)
  have w8 : IntKind.i64.wrap (-a) = -a := wrap64 (by omega)
  have w9 : IntKind.i64.wrap (a * x + o) = a * x + o := wrap64 (by omega)
  have c1 := match_inf a b (a * x + b) true ⟨by omega, by omega⟩ ⟨by omega, by omega⟩ ⟨by omega, by omega⟩ (on_line i5)
  subst h0
  have c0 := match_inf 0 b b true ⟨by omega, by omega⟩ ⟨by omega, by omega⟩ ⟨by omega, by omega⟩ (mb_eq rfl)
  go_enter Tryd.func5, Tryd.ntmps5
  go_wp2_with (first | (go_at_call 7; refine aw.mono ?_; rintro e w' ⟨rfl, hb⟩) | (go_at_call 11; with_reducible refine (c0 _).mono ?_; rintro e w' ⟨rfl, rfl⟩))
  all_goals (go_ret; exact ⟨rfl, hb⟩)

set_option maxRecDepth 100000 in
set_option maxHeartbeats 1000000 in
theorem walk_pos (a b x o : Int) (h : inR a b x o) (h0 : 0 < a) (w : World) (hT : Tab w) :
    Calls Tryd.prog 5 #[.int .i64 a, .int .i64 b, .int .i64 x, .int .i64 o] w fun e w' => e = .returned (.bool true) ∧ Below w.heap.size w w' := by
  have aw := HM.awake_c hT
  obtain ⟨i1, i2, i3, i4, i5, i6, i7, i8⟩ := h
  have m := mulB ⟨i1, i2⟩ ⟨i5, i6⟩
  have n1 : decide (a < -1000) = false := decide_eq_false (by omega)
  have n2 : decide (1000 < a) = false := decide_eq_false (by omega)
  have n3 : decide (b < -1000) = false := decide_eq_false (by omega)
  have n4 : decide (1000 < b) = false := decide_eq_false (by omega)
  have n5 : decide (x < 0) = false := decide_eq_false (by omega)
  have n6 : decide (1000 < x) = false := decide_eq_false (by omega)
  have n7 : decide (o < 0) = false := decide_eq_false (by omega)
  have n8 : decide (1000 < o) = false := decide_eq_false (by omega)
  have w1 : IntKind.i64.wrap (a * x) = a * x := wrap64 (by omega)
  have w2 : IntKind.i64.wrap (a * x + b) = a * x + b := wrap64 (by omega)
  have w3 : IntKind.i64.wrap (a * x + b + o) = a * x + b + o := wrap64 (by omega)
  have w4 : IntKind.i64.wrap (b - 1) = b - 1 := wrap64 (by omega)
  have w5 : IntKind.i64.wrap (b - 1 - o) = b - 1 - o := wrap64 (by omega)
  have w6 : IntKind.i64.wrap (b + 1) = b + 1 := wrap64 (by omega)
  have w7 : IntKind.i64.wrap (b + 1 + o) = b + 1 + o := wrap64 (by omega)
  have w8 : IntKind.i64.wrap (-a) = -a := wrap64 (by omega)
  have w9 : IntKind.i64.wrap (a * x + o) = a * x + o := wrap64 (by omega)
  have c1 := match_inf a b (a * x + b) true ⟨by omega, by omega⟩ ⟨by omega, by omega⟩ ⟨by omega, by omega⟩ (on_line i5)
  have n9 : decide (a < 0) = false := decide_eq_false (by omega)
  have c2 := match_inf a b (b - 1 - o) false ⟨by omega, by omega⟩ ⟨by omega, by omega⟩ ⟨by omega, by omega⟩ (mb_wrong1 h0 (by omega))
  go_enter Tryd.func5, Tryd.ntmps5
  go_wp2_with (first | (go_at_call 7; refine aw.mono ?_; rintro e w' ⟨rfl, hb⟩) | (go_at_call 11; with_reducible refine (c1 _).mono ?_; rintro e w' ⟨rfl, rfl⟩) | (go_at_call 11; with_reducible refine (c2 _).mono ?_; rintro e w' ⟨rfl, rfl⟩))
  · go_ret
    exact ⟨rfl, hb⟩
  · have na : ¬ a = 0 := by omega
    by_cases hd : o.tmod a = 0
    · have hd' : decide (o.tmod a = 0) = true := decide_eq_true hd
      have c4 := match_inf a b (a * x + b + o) true ⟨by omega, by omega⟩ ⟨by omega, by omega⟩ ⟨by omega, by omega⟩ ((off_pos h0 i5 i7).trans hd')
      clear m i1 i2 i3 i4 i5 i6 i7 i8 w4 w5 w6 w7 w8 c1 c2
      refine wp_region_any (by kernel_rfl) ?_
      change wpAny _ _ _ _ _ _ _ (World.drew _)
      refine wpAny_take (i := 0) (v := .int .i64 (a)) rfl (by kernel_rfl) (by kernel_rfl) (by kernel_rfl) (fun _ _ _ h => h) (Or.inl ⟨by kernel_rfl, fun _ => by kernel_rfl⟩) ?_
      refine wpAny_take (i := 1) (v := .int .i64 (b)) rfl (by kernel_rfl) (by kernel_rfl) (by kernel_rfl) (fun _ _ _ h => h) (Or.inl ⟨by kernel_rfl, fun _ => by kernel_rfl⟩) ?_
      refine wpAny_take (i := 2) (v := .int .i64 (a)) rfl (by kernel_rfl) (by kernel_rfl) (by kernel_rfl) (fun _ _ _ h => h) (Or.inl ⟨by kernel_rfl, fun _ => by kernel_rfl⟩) ?_
      refine wpAny_take (i := 3) (v := .int .i64 (x)) rfl (by kernel_rfl) (by kernel_rfl) (by kernel_rfl) (fun _ _ _ h => h) (Or.inl ⟨by kernel_rfl, fun _ => by kernel_rfl⟩) ?_
      refine wpAny_take (i := 4) (v := .int .i64 (IntKind.i64.wrap (a * x))) rfl (by kernel_rfl) (by kernel_rfl) (by kernel_rfl) (fun _ _ _ h => h) (Or.inl ⟨by kernel_rfl, fun _ => by kernel_rfl⟩) ?_
      refine wpAny_take (i := 5) (v := .int .i64 (b)) rfl (by kernel_rfl) (by kernel_rfl) (by kernel_rfl) (fun _ _ _ h => h) (Or.inl ⟨by kernel_rfl, fun _ => by kernel_rfl⟩) ?_
      refine wpAny_take (i := 6) (v := .int .i64 (IntKind.i64.wrap (IntKind.i64.wrap (a * x) + b))) rfl (by kernel_rfl) (by kernel_rfl) (by kernel_rfl) (fun _ _ _ h => h) (Or.inl ⟨by kernel_rfl, fun _ => by kernel_rfl⟩) ?_
      refine wpAny_take (i := 7) (v := .int .i64 (o)) rfl (by kernel_rfl) (by kernel_rfl) (by kernel_rfl) (fun _ _ _ h => h) (Or.inl ⟨by kernel_rfl, fun _ => by kernel_rfl⟩) ?_
      refine wpAny_take (i := 8) (v := .int .i64 (IntKind.i64.wrap (IntKind.i64.wrap (IntKind.i64.wrap (a * x) + b) + o))) rfl (by kernel_rfl) (by kernel_rfl) (by kernel_rfl) (fun _ _ _ h => h) (Or.inl ⟨by kernel_rfl, fun _ => by kernel_rfl⟩) ?_
      refine wpAny_take (i := 10) (v := .int .i64 (o)) rfl (by kernel_rfl) (by kernel_rfl) (by kernel_rfl) (fun _ _ _ h => h) (Or.inl ⟨by kernel_rfl, fun _ => by kernel_rfl⟩) ?_
      refine wpAny_take (i := 11) (v := .int .i64 (a)) rfl (by kernel_rfl) (by kernel_rfl) (by kernel_rfl) (fun _ _ _ h => h) (Or.inl ⟨by kernel_rfl, fun _ => by kernel_rfl⟩) ?_
      refine wpAny_take (i := 12) (v := .int .i64 (o.tmod a)) rfl (by kernel_rfl) (by kernel_rfl) (by kernel_rfl) (fun _ _ _ h => h) (Or.inl ⟨by kernel_rfl, ?_⟩) ?_
      · intro w9; go_simp
      refine wpAny_take (i := 13) (v := .bool true) rfl (by kernel_rfl) (by kernel_rfl) (by kernel_rfl) (fun _ _ _ h => h) (Or.inl ⟨by kernel_rfl, ?_⟩) ?_
      · intro w9; go_simp
      refine wpAny_ready (rs := [9]) (by kernel_rfl) (by simp) ?_
      refine AllReady.cons rfl (fun K hK => ?_) AllReady.nil
      go_simp
      go_wp2_with (go_at_call 11; with_reducible refine (c4 _).mono ?_; rintro e w' ⟨rfl, rfl⟩)
      try (refine hK _ _ ?_; clear hK K)
      refine wpAny_take (i := 14) (v := .bool true) rfl (by kernel_rfl) (by kernel_rfl) (by kernel_rfl) (fun _ _ _ h => h) (Or.inl ⟨by kernel_rfl, fun _ => by kernel_rfl⟩) ?_
      refine wpAny_take (i := 15) (v := .int .i64 (a)) rfl (by kernel_rfl) (by kernel_rfl) (by kernel_rfl) (fun _ _ _ h => h) (Or.inl ⟨by kernel_rfl, fun _ => by kernel_rfl⟩) ?_
      refine wpAny_take (i := 16) (v := .bool false) rfl (by kernel_rfl) (by kernel_rfl) (by kernel_rfl) (fun _ _ _ h => h) (Or.inl ⟨by kernel_rfl, ?_⟩) ?_
      · intro w9; go_simp
      refine wpAny_take (i := 17) (v := .bool false) rfl (by kernel_rfl) (by kernel_rfl) (by kernel_rfl) (fun _ _ _ h => h) (Or.inl ⟨by kernel_rfl, fun _ => by kernel_rfl⟩) ?_
      refine wpAny_take (i := 18) (v := undef) rfl (by kernel_rfl) (by kernel_rfl) (by kernel_rfl) (fun _ _ _ h => h) (Or.inr ⟨by kernel_rfl, rfl⟩) ?_
      refine wpAny_take (i := 19) (v := undef) rfl (by kernel_rfl) (by kernel_rfl) (by kernel_rfl) (fun _ _ _ h => h) (Or.inr ⟨by kernel_rfl, rfl⟩) ?_
      refine wpAny_take (i := 20) (v := undef) rfl (by kernel_rfl) (by kernel_rfl) (by kernel_rfl) (fun _ _ _ h => h) (Or.inr ⟨by kernel_rfl, rfl⟩) ?_
      refine wpAny_take (i := 21) (v := undef) rfl (by kernel_rfl) (by kernel_rfl) (by kernel_rfl) (fun _ _ _ h => h) (Or.inr ⟨by kernel_rfl, rfl⟩) ?_
      refine wpAny_take (i := 22) (v := undef) rfl (by kernel_rfl) (by kernel_rfl) (by kernel_rfl) (fun _ _ _ h => h) (Or.inr ⟨by kernel_rfl, rfl⟩) ?_
      refine wpAny_take (i := 23) (v := undef) rfl (by kernel_rfl) (by kernel_rfl) (by kernel_rfl) (fun _ _ _ h => h) (Or.inr ⟨by kernel_rfl, rfl⟩) ?_
      refine wpAny_take (i := 24) (v := .bool false) rfl (by kernel_rfl) (by kernel_rfl) (by kernel_rfl) (fun _ _ _ h => h) (Or.inl ⟨by kernel_rfl, fun _ => by kernel_rfl⟩) ?_
      refine wpAny_take (i := 25) (v := .bool false) rfl (by kernel_rfl) (by kernel_rfl) (by kernel_rfl) (fun _ _ _ h => h) (Or.inl ⟨by kernel_rfl, fun _ => by kernel_rfl⟩) ?_
      refine wpAny_take (i := 26) (v := .int .i64 (a)) rfl (by kernel_rfl) (by kernel_rfl) (by kernel_rfl) (fun _ _ _ h => h) (Or.inl ⟨by kernel_rfl, fun _ => by kernel_rfl⟩) ?_
      refine wpAny_take (i := 27) (v := .bool true) rfl (by kernel_rfl) (by kernel_rfl) (by kernel_rfl) (fun _ _ _ h => h) (Or.inl ⟨by kernel_rfl, ?_⟩) ?_
      · intro w9; go_simp
      refine wpAny_take (i := 28) (v := .bool true) rfl (by kernel_rfl) (by kernel_rfl) (by kernel_rfl) (fun _ _ _ h => h) (Or.inl ⟨by kernel_rfl, fun _ => by kernel_rfl⟩) ?_
      refine wpAny_take (i := 29) (v := .bool true) rfl (by kernel_rfl) (by kernel_rfl) (by kernel_rfl) (fun _ _ _ h => h) (Or.inl ⟨by kernel_rfl, fun _ => by kernel_rfl⟩) ?_
      refine wpAny_take (i := 30) (v := .bool true) rfl (by kernel_rfl) (by kernel_rfl) (by kernel_rfl) (fun _ _ _ h => h) (Or.inl ⟨by kernel_rfl, fun _ => by kernel_rfl⟩) ?_
      refine wpAny_take (i := 31) (v := .bool true) rfl (by kernel_rfl) (by kernel_rfl) (by kernel_rfl) (fun _ _ _ h => h) (Or.inl ⟨by kernel_rfl, fun _ => by kernel_rfl⟩) ?_
      refine wpAny_ready (rs := [32]) (by kernel_rfl) (by simp) ?_
      refine AllReady.cons rfl (fun K hK => ?_) AllReady.nil
      go_simp
      go_wp2_with (go_at_call 7; refine (HM.awake_c (W := _) ?_).mono ?_; exact hT; rintro e w' ⟨rfl, hb⟩)
      try (refine hK _ _ ?_; clear hK K)
      refine wpAny_take (i := 33) (v := .bool true) rfl (by kernel_rfl) (by kernel_rfl) (by kernel_rfl) (fun _ _ _ h => h) (Or.inl ⟨by kernel_rfl, fun _ => by kernel_rfl⟩) ?_
      refine wpAny_take (i := 34) (v := .bool true) rfl (by kernel_rfl) (by kernel_rfl) (by kernel_rfl) (fun _ _ _ h => h) (Or.inl ⟨by kernel_rfl, fun _ => by kernel_rfl⟩) ?_
      refine wpAny_done (by kernel_rfl) ?_ _
      go_wp2
      go_ret
      exact ⟨rfl, (Below.refl _ _).drew.trans hb⟩
    · have hd' : decide (o.tmod a = 0) = false := decide_eq_false hd
      have c4 := match_inf a b (a * x + b + o) false ⟨by omega, by omega⟩ ⟨by omega, by omega⟩ ⟨by omega, by omega⟩ ((off_pos h0 i5 i7).trans hd')
      clear m i1 i2 i3 i4 i5 i6 i7 i8 w4 w5 w6 w7 w8 c1 c2
      refine wp_region_any (by kernel_rfl) ?_
      change wpAny _ _ _ _ _ _ _ (World.drew _)
      refine wpAny_take (i := 0) (v := .int .i64 (a)) rfl (by kernel_rfl) (by kernel_rfl) (by kernel_rfl) (fun _ _ _ h => h) (Or.inl ⟨by kernel_rfl, fun _ => by kernel_rfl⟩) ?_
      refine wpAny_take (i := 1) (v := .int .i64 (b)) rfl (by kernel_rfl) (by kernel_rfl) (by kernel_rfl) (fun _ _ _ h => h) (Or.inl ⟨by kernel_rfl, fun _ => by kernel_rfl⟩) ?_
      refine wpAny_take (i := 2) (v := .int .i64 (a)) rfl (by kernel_rfl) (by kernel_rfl) (by kernel_rfl) (fun _ _ _ h => h) (Or.inl ⟨by kernel_rfl, fun _ => by kernel_rfl⟩) ?_
      refine wpAny_take (i := 3) (v := .int .i64 (x)) rfl (by kernel_rfl) (by kernel_rfl) (by kernel_rfl) (fun _ _ _ h => h) (Or.inl ⟨by kernel_rfl, fun _ => by kernel_rfl⟩) ?_
      refine wpAny_take (i := 4) (v := .int .i64 (IntKind.i64.wrap (a * x))) rfl (by kernel_rfl) (by kernel_rfl) (by kernel_rfl) (fun _ _ _ h => h) (Or.inl ⟨by kernel_rfl, fun _ => by kernel_rfl⟩) ?_
      refine wpAny_take (i := 5) (v := .int .i64 (b)) rfl (by kernel_rfl) (by kernel_rfl) (by kernel_rfl) (fun _ _ _ h => h) (Or.inl ⟨by kernel_rfl, fun _ => by kernel_rfl⟩) ?_
      refine wpAny_take (i := 6) (v := .int .i64 (IntKind.i64.wrap (IntKind.i64.wrap (a * x) + b))) rfl (by kernel_rfl) (by kernel_rfl) (by kernel_rfl) (fun _ _ _ h => h) (Or.inl ⟨by kernel_rfl, fun _ => by kernel_rfl⟩) ?_
      refine wpAny_take (i := 7) (v := .int .i64 (o)) rfl (by kernel_rfl) (by kernel_rfl) (by kernel_rfl) (fun _ _ _ h => h) (Or.inl ⟨by kernel_rfl, fun _ => by kernel_rfl⟩) ?_
      refine wpAny_take (i := 8) (v := .int .i64 (IntKind.i64.wrap (IntKind.i64.wrap (IntKind.i64.wrap (a * x) + b) + o))) rfl (by kernel_rfl) (by kernel_rfl) (by kernel_rfl) (fun _ _ _ h => h) (Or.inl ⟨by kernel_rfl, fun _ => by kernel_rfl⟩) ?_
      refine wpAny_take (i := 10) (v := .int .i64 (o)) rfl (by kernel_rfl) (by kernel_rfl) (by kernel_rfl) (fun _ _ _ h => h) (Or.inl ⟨by kernel_rfl, fun _ => by kernel_rfl⟩) ?_
      refine wpAny_take (i := 11) (v := .int .i64 (a)) rfl (by kernel_rfl) (by kernel_rfl) (by kernel_rfl) (fun _ _ _ h => h) (Or.inl ⟨by kernel_rfl, fun _ => by kernel_rfl⟩) ?_
      refine wpAny_take (i := 12) (v := .int .i64 (o.tmod a)) rfl (by kernel_rfl) (by kernel_rfl) (by kernel_rfl) (fun _ _ _ h => h) (Or.inl ⟨by kernel_rfl, ?_⟩) ?_
      · intro w9; go_simp
      refine wpAny_take (i := 13) (v := .bool false) rfl (by kernel_rfl) (by kernel_rfl) (by kernel_rfl) (fun _ _ _ h => h) (Or.inl ⟨by kernel_rfl, ?_⟩) ?_
      · intro w9; go_simp
      refine wpAny_ready (rs := [9]) (by kernel_rfl) (by simp) ?_
      refine AllReady.cons rfl (fun K hK => ?_) AllReady.nil
      go_simp
      go_wp2_with (go_at_call 11; with_reducible refine (c4 _).mono ?_; rintro e w' ⟨rfl, rfl⟩)
      try (refine hK _ _ ?_; clear hK K)
      refine wpAny_take (i := 14) (v := .bool false) rfl (by kernel_rfl) (by kernel_rfl) (by kernel_rfl) (fun _ _ _ h => h) (Or.inl ⟨by kernel_rfl, fun _ => by kernel_rfl⟩) ?_
      refine wpAny_take (i := 15) (v := undef) rfl (by kernel_rfl) (by kernel_rfl) (by kernel_rfl) (fun _ _ _ h => h) (Or.inr ⟨by kernel_rfl, rfl⟩) ?_
      refine wpAny_take (i := 16) (v := undef) rfl (by kernel_rfl) (by kernel_rfl) (by kernel_rfl) (fun _ _ _ h => h) (Or.inr ⟨by kernel_rfl, rfl⟩) ?_
      refine wpAny_take (i := 17) (v := undef) rfl (by kernel_rfl) (by kernel_rfl) (by kernel_rfl) (fun _ _ _ h => h) (Or.inr ⟨by kernel_rfl, rfl⟩) ?_
      refine wpAny_take (i := 18) (v := undef) rfl (by kernel_rfl) (by kernel_rfl) (by kernel_rfl) (fun _ _ _ h => h) (Or.inr ⟨by kernel_rfl, rfl⟩) ?_
      refine wpAny_take (i := 19) (v := undef) rfl (by kernel_rfl) (by kernel_rfl) (by kernel_rfl) (fun _ _ _ h => h) (Or.inr ⟨by kernel_rfl, rfl⟩) ?_
      refine wpAny_take (i := 20) (v := undef) rfl (by kernel_rfl) (by kernel_rfl) (by kernel_rfl) (fun _ _ _ h => h) (Or.inr ⟨by kernel_rfl, rfl⟩) ?_
      refine wpAny_take (i := 21) (v := undef) rfl (by kernel_rfl) (by kernel_rfl) (by kernel_rfl) (fun _ _ _ h => h) (Or.inr ⟨by kernel_rfl, rfl⟩) ?_
      refine wpAny_take (i := 22) (v := undef) rfl (by kernel_rfl) (by kernel_rfl) (by kernel_rfl) (fun _ _ _ h => h) (Or.inr ⟨by kernel_rfl, rfl⟩) ?_
      refine wpAny_take (i := 23) (v := undef) rfl (by kernel_rfl) (by kernel_rfl) (by kernel_rfl) (fun _ _ _ h => h) (Or.inr ⟨by kernel_rfl, rfl⟩) ?_
      refine wpAny_take (i := 24) (v := undef) rfl (by kernel_rfl) (by kernel_rfl) (by kernel_rfl) (fun _ _ _ h => h) (Or.inr ⟨by kernel_rfl, rfl⟩) ?_
      refine wpAny_take (i := 25) (v := undef) rfl (by kernel_rfl) (by kernel_rfl) (by kernel_rfl) (fun _ _ _ h => h) (Or.inr ⟨by kernel_rfl, rfl⟩) ?_
      refine wpAny_take (i := 26) (v := undef) rfl (by kernel_rfl) (by kernel_rfl) (by kernel_rfl) (fun _ _ _ h => h) (Or.inr ⟨by kernel_rfl, rfl⟩) ?_
      refine wpAny_take (i := 27) (v := undef) rfl (by kernel_rfl) (by kernel_rfl) (by kernel_rfl) (fun _ _ _ h => h) (Or.inr ⟨by kernel_rfl, rfl⟩) ?_
      refine wpAny_take (i := 28) (v := undef) rfl (by kernel_rfl) (by kernel_rfl) (by kernel_rfl) (fun _ _ _ h => h) (Or.inr ⟨by kernel_rfl, rfl⟩) ?_
      refine wpAny_take (i := 29) (v := .bool false) rfl (by kernel_rfl) (by kernel_rfl) (by kernel_rfl) (fun _ _ _ h => h) (Or.inl ⟨by kernel_rfl, fun _ => by kernel_rfl⟩) ?_
      refine wpAny_take (i := 30) (v := .bool true) rfl (by kernel_rfl) (by kernel_rfl) (by kernel_rfl) (fun _ _ _ h => h) (Or.inl ⟨by kernel_rfl, fun _ => by kernel_rfl⟩) ?_
      refine wpAny_take (i := 31) (v := .bool true) rfl (by kernel_rfl) (by kernel_rfl) (by kernel_rfl) (fun _ _ _ h => h) (Or.inl ⟨by kernel_rfl, fun _ => by kernel_rfl⟩) ?_
      refine wpAny_ready (rs := [32]) (by kernel_rfl) (by simp) ?_
      refine AllReady.cons rfl (fun K hK => ?_) AllReady.nil
      go_simp
      go_wp2_with (go_at_call 7; refine (HM.awake_c (W := _) ?_).mono ?_; exact hT; rintro e w' ⟨rfl, hb⟩)
      try (refine hK _ _ ?_; clear hK K)
      refine wpAny_take (i := 33) (v := .bool true) rfl (by kernel_rfl) (by kernel_rfl) (by kernel_rfl) (fun _ _ _ h => h) (Or.inl ⟨by kernel_rfl, fun _ => by kernel_rfl⟩) ?_
      refine wpAny_take (i := 34) (v := .bool true) rfl (by kernel_rfl) (by kernel_rfl) (by kernel_rfl) (fun _ _ _ h => h) (Or.inl ⟨by kernel_rfl, fun _ => by kernel_rfl⟩) ?_
      refine wpAny_done (by kernel_rfl) ?_ _
      go_wp2
      go_ret
      exact ⟨rfl, (Below.refl _ _).drew.trans hb⟩

set_option maxRecDepth 100000 in
set_option maxHeartbeats 1000000 in
theorem walk_neg (a b x o : Int) (h : inR a b x o) (h0 : a < 0) (w : World) (hT : Tab w) :
    Calls Tryd.prog 5 #[.int .i64 a, .int .i64 b, .int .i64 x, .int .i64 o] w fun e w' => e = .returned (.bool true) ∧ Below w.heap.size w w' := by
  have aw := HM.awake_c hT
  obtain ⟨i1, i2, i3, i4, i5, i6, i7, i8⟩ := h
  have m := mulB ⟨i1, i2⟩ ⟨i5, i6⟩
  have n1 : decide (a < -1000) = false := decide_eq_false (by omega)
  have n2 : decide (1000 < a) = false := decide_eq_false (by omega)
  have n3 : decide (b < -1000) = false := decide_eq_false (by omega)
  have n4 : decide (1000 < b) = false := decide_eq_false (by omega)
  have n5 : decide (x < 0) = false := decide_eq_false (by omega)
  have n6 : decide (1000 < x) = false := decide_eq_false (by omega)
  have n7 : decide (o < 0) = false := decide_eq_false (by omega)
  have n8 : decide (1000 < o) = false := decide_eq_false (by omega)
  have w1 : IntKind.i64.wrap (a * x) = a * x := wrap64 (by omega)
  have w2 : IntKind.i64.wrap (a * x + b) = a * x + b := wrap64 (by omega)
  have w3 : IntKind.i64.wrap (a * x + b + o) = a * x + b + o := wrap64 (by omega)
  have w4 : IntKind.i64.wrap (b - 1) = b - 1 := wrap64 (by omega)
  have w5 : IntKind.i64.wrap (b - 1 - o) = b - 1 - o := wrap64 (by omega)
  have w6 : IntKind.i64.wrap (b + 1) = b + 1 := wrap64 (by omega)
  have w7 : IntKind.i64.wrap (b + 1 + o) = b + 1 + o := wrap64 (by omega)
  have w8 : IntKind.i64.wrap (-a) = -a := wrap64 (by omega)
  have w9 : IntKind.i64.wrap (a * x + o) = a * x + o := wrap64 (by omega)
  have c1 := match_inf a b (a * x + b) true ⟨by omega, by omega⟩ ⟨by omega, by omega⟩ ⟨by omega, by omega⟩ (on_line i5)
  have n9 : decide (0 < a) = false := decide_eq_false (by omega)
  have n10 : decide (a < 0) = true := decide_eq_true h0
  have c2 := match_inf a b (b + 1 + o) false ⟨by omega, by omega⟩ ⟨by omega, by omega⟩ ⟨by omega, by omega⟩ (mb_wrong2 h0 (by omega))
  go_enter Tryd.func5, Tryd.ntmps5
  go_wp2_with (first | (go_at_call 7; refine aw.mono ?_; rintro e w' ⟨rfl, hb⟩) | (go_at_call 11; with_reducible refine (c1 _).mono ?_; rintro e w' ⟨rfl, rfl⟩) | (go_at_call 11; with_reducible refine (c2 _).mono ?_; rintro e w' ⟨rfl, rfl⟩))
  · go_ret
    exact ⟨rfl, hb⟩
  · have na : ¬ a = 0 := by omega
    have na' : ¬ -a = 0 := by omega
    by_cases hd : o.tmod (-a) = 0
    · have hd' : decide (o.tmod (-a) = 0) = true := decide_eq_true hd
      by_cases hl : a * x + o ≤ 0
      · have hl' : decide (a * x + o ≤ 0) = true := decide_eq_true hl
        have c4 := match_inf a b (a * x + b + o) true ⟨by omega, by omega⟩ ⟨by omega, by omega⟩ ⟨by omega, by omega⟩ ((off_neg_low h0 i7 hl).trans hd')
        clear m i1 i2 i3 i4 i5 i6 i7 i8 w4 w5 w6 w7 w8 c1 c2
        refine wp_region_any (by kernel_rfl) ?_
        change wpAny _ _ _ _ _ _ _ (World.drew _)
        refine wpAny_take (i := 0) (v := .int .i64 (a)) rfl (by kernel_rfl) (by kernel_rfl) (by kernel_rfl) (fun _ _ _ h => h) (Or.inl ⟨by kernel_rfl, fun _ => by kernel_rfl⟩) ?_
        refine wpAny_take (i := 1) (v := .int .i64 (b)) rfl (by kernel_rfl) (by kernel_rfl) (by kernel_rfl) (fun _ _ _ h => h) (Or.inl ⟨by kernel_rfl, fun _ => by kernel_rfl⟩) ?_
        refine wpAny_take (i := 2) (v := .int .i64 (a)) rfl (by kernel_rfl) (by kernel_rfl) (by kernel_rfl) (fun _ _ _ h => h) (Or.inl ⟨by kernel_rfl, fun _ => by kernel_rfl⟩) ?_
        refine wpAny_take (i := 3) (v := .int .i64 (x)) rfl (by kernel_rfl) (by kernel_rfl) (by kernel_rfl) (fun _ _ _ h => h) (Or.inl ⟨by kernel_rfl, fun _ => by kernel_rfl⟩) ?_
        refine wpAny_take (i := 4) (v := .int .i64 (IntKind.i64.wrap (a * x))) rfl (by kernel_rfl) (by kernel_rfl) (by kernel_rfl) (fun _ _ _ h => h) (Or.inl ⟨by kernel_rfl, fun _ => by kernel_rfl⟩) ?_
        refine wpAny_take (i := 5) (v := .int .i64 (b)) rfl (by kernel_rfl) (by kernel_rfl) (by kernel_rfl) (fun _ _ _ h => h) (Or.inl ⟨by kernel_rfl, fun _ => by kernel_rfl⟩) ?_
        refine wpAny_take (i := 6) (v := .int .i64 (IntKind.i64.wrap (IntKind.i64.wrap (a * x) + b))) rfl (by kernel_rfl) (by kernel_rfl) (by kernel_rfl) (fun _ _ _ h => h) (Or.inl ⟨by kernel_rfl, fun _ => by kernel_rfl⟩) ?_
        refine wpAny_take (i := 7) (v := .int .i64 (o)) rfl (by kernel_rfl) (by kernel_rfl) (by kernel_rfl) (fun _ _ _ h => h) (Or.inl ⟨by kernel_rfl, fun _ => by kernel_rfl⟩) ?_
        refine wpAny_take (i := 8) (v := .int .i64 (IntKind.i64.wrap (IntKind.i64.wrap (IntKind.i64.wrap (a * x) + b) + o))) rfl (by kernel_rfl) (by kernel_rfl) (by kernel_rfl) (fun _ _ _ h => h) (Or.inl ⟨by kernel_rfl, fun _ => by kernel_rfl⟩) ?_
        refine wpAny_take (i := 10) (v := .int .i64 (o)) rfl (by kernel_rfl) (by kernel_rfl) (by kernel_rfl) (fun _ _ _ h => h) (Or.inl ⟨by kernel_rfl, fun _ => by kernel_rfl⟩) ?_
        refine wpAny_take (i := 11) (v := .int .i64 ((-a))) rfl (by kernel_rfl) (by kernel_rfl) (by kernel_rfl) (fun _ _ _ h => h) (Or.inl ⟨by kernel_rfl, fun _ => by kernel_rfl⟩) ?_
        refine wpAny_take (i := 12) (v := .int .i64 (o.tmod (-a))) rfl (by kernel_rfl) (by kernel_rfl) (by kernel_rfl) (fun _ _ _ h => h) (Or.inl ⟨by kernel_rfl, ?_⟩) ?_
        · intro w9; go_simp
        refine wpAny_take (i := 13) (v := .bool true) rfl (by kernel_rfl) (by kernel_rfl) (by kernel_rfl) (fun _ _ _ h => h) (Or.inl ⟨by kernel_rfl, ?_⟩) ?_
        · intro w9; go_simp
        refine wpAny_ready (rs := [9]) (by kernel_rfl) (by simp) ?_
        refine AllReady.cons rfl (fun K hK => ?_) AllReady.nil
        go_simp
        go_wp2_with (go_at_call 11; with_reducible refine (c4 _).mono ?_; rintro e w' ⟨rfl, rfl⟩)
        try (refine hK _ _ ?_; clear hK K)
        refine wpAny_take (i := 14) (v := .bool true) rfl (by kernel_rfl) (by kernel_rfl) (by kernel_rfl) (fun _ _ _ h => h) (Or.inl ⟨by kernel_rfl, fun _ => by kernel_rfl⟩) ?_
        refine wpAny_take (i := 15) (v := .int .i64 (a)) rfl (by kernel_rfl) (by kernel_rfl) (by kernel_rfl) (fun _ _ _ h => h) (Or.inl ⟨by kernel_rfl, fun _ => by kernel_rfl⟩) ?_
        refine wpAny_take (i := 16) (v := .bool true) rfl (by kernel_rfl) (by kernel_rfl) (by kernel_rfl) (fun _ _ _ h => h) (Or.inl ⟨by kernel_rfl, ?_⟩) ?_
        · intro w9; go_simp
        refine wpAny_take (i := 17) (v := .bool true) rfl (by kernel_rfl) (by kernel_rfl) (by kernel_rfl) (fun _ _ _ h => h) (Or.inl ⟨by kernel_rfl, fun _ => by kernel_rfl⟩) ?_
        refine wpAny_take (i := 18) (v := .int .i64 (a)) rfl (by kernel_rfl) (by kernel_rfl) (by kernel_rfl) (fun _ _ _ h => h) (Or.inl ⟨by kernel_rfl, fun _ => by kernel_rfl⟩) ?_
        refine wpAny_take (i := 19) (v := .int .i64 (x)) rfl (by kernel_rfl) (by kernel_rfl) (by kernel_rfl) (fun _ _ _ h => h) (Or.inl ⟨by kernel_rfl, fun _ => by kernel_rfl⟩) ?_
        refine wpAny_take (i := 20) (v := .int .i64 (IntKind.i64.wrap (a * x))) rfl (by kernel_rfl) (by kernel_rfl) (by kernel_rfl) (fun _ _ _ h => h) (Or.inl ⟨by kernel_rfl, fun _ => by kernel_rfl⟩) ?_
        refine wpAny_take (i := 21) (v := .int .i64 (o)) rfl (by kernel_rfl) (by kernel_rfl) (by kernel_rfl) (fun _ _ _ h => h) (Or.inl ⟨by kernel_rfl, fun _ => by kernel_rfl⟩) ?_
        refine wpAny_take (i := 22) (v := .int .i64 (IntKind.i64.wrap (IntKind.i64.wrap (a * x) + o))) rfl (by kernel_rfl) (by kernel_rfl) (by kernel_rfl) (fun _ _ _ h => h) (Or.inl ⟨by kernel_rfl, fun _ => by kernel_rfl⟩) ?_
        refine wpAny_take (i := 23) (v := .bool true) rfl (by kernel_rfl) (by kernel_rfl) (by kernel_rfl) (fun _ _ _ h => h) (Or.inl ⟨by kernel_rfl, ?_⟩) ?_
        · intro w9; go_simp
        refine wpAny_take (i := 24) (v := .bool true) rfl (by kernel_rfl) (by kernel_rfl) (by kernel_rfl) (fun _ _ _ h => h) (Or.inl ⟨by kernel_rfl, fun _ => by kernel_rfl⟩) ?_
        refine wpAny_take (i := 25) (v := .bool true) rfl (by kernel_rfl) (by kernel_rfl) (by kernel_rfl) (fun _ _ _ h => h) (Or.inl ⟨by kernel_rfl, fun _ => by kernel_rfl⟩) ?_
        refine wpAny_take (i := 26) (v := undef) rfl (by kernel_rfl) (by kernel_rfl) (by kernel_rfl) (fun _ _ _ h => h) (Or.inr ⟨by kernel_rfl, rfl⟩) ?_
        refine wpAny_take (i := 27) (v := undef) rfl (by kernel_rfl) (by kernel_rfl) (by kernel_rfl) (fun _ _ _ h => h) (Or.inr ⟨by kernel_rfl, rfl⟩) ?_
        refine wpAny_take (i := 28) (v := .bool true) rfl (by kernel_rfl) (by kernel_rfl) (by kernel_rfl) (fun _ _ _ h => h) (Or.inl ⟨by kernel_rfl, fun _ => by kernel_rfl⟩) ?_
        refine wpAny_take (i := 29) (v := .bool true) rfl (by kernel_rfl) (by kernel_rfl) (by kernel_rfl) (fun _ _ _ h => h) (Or.inl ⟨by kernel_rfl, fun _ => by kernel_rfl⟩) ?_
        refine wpAny_take (i := 30) (v := .bool true) rfl (by kernel_rfl) (by kernel_rfl) (by kernel_rfl) (fun _ _ _ h => h) (Or.inl ⟨by kernel_rfl, fun _ => by kernel_rfl⟩) ?_
        refine wpAny_take (i := 31) (v := .bool true) rfl (by kernel_rfl) (by kernel_rfl) (by kernel_rfl) (fun _ _ _ h => h) (Or.inl ⟨by kernel_rfl, fun _ => by kernel_rfl⟩) ?_
        refine wpAny_ready (rs := [32]) (by kernel_rfl) (by simp) ?_
        refine AllReady.cons rfl (fun K hK => ?_) AllReady.nil
        go_simp
        go_wp2_with (go_at_call 7; refine (HM.awake_c (W := _) ?_).mono ?_; exact hT; rintro e w' ⟨rfl, hb⟩)
        try (refine hK _ _ ?_; clear hK K)
        refine wpAny_take (i := 33) (v := .bool true) rfl (by kernel_rfl) (by kernel_rfl) (by kernel_rfl) (fun _ _ _ h => h) (Or.inl ⟨by kernel_rfl, fun _ => by kernel_rfl⟩) ?_
        refine wpAny_take (i := 34) (v := .bool true) rfl (by kernel_rfl) (by kernel_rfl) (by kernel_rfl) (fun _ _ _ h => h) (Or.inl ⟨by kernel_rfl, fun _ => by kernel_rfl⟩) ?_
        refine wpAny_done (by kernel_rfl) ?_ _
        go_wp2
        go_ret
        exact ⟨rfl, (Below.refl _ _).drew.trans hb⟩
      · have hl' : decide (a * x + o ≤ 0) = false := decide_eq_false hl
        have c4 := match_inf a b (a * x + b + o) false ⟨by omega, by omega⟩ ⟨by omega, by omega⟩ ⟨by omega, by omega⟩ (off_neg_high h0 hl)
        clear m i1 i2 i3 i4 i5 i6 i7 i8 w4 w5 w6 w7 w8 c1 c2
        refine wp_region_any (by kernel_rfl) ?_
        change wpAny _ _ _ _ _ _ _ (World.drew _)
        refine wpAny_take (i := 0) (v := .int .i64 (a)) rfl (by kernel_rfl) (by kernel_rfl) (by kernel_rfl) (fun _ _ _ h => h) (Or.inl ⟨by kernel_rfl, fun _ => by kernel_rfl⟩) ?_
        refine wpAny_take (i := 1) (v := .int .i64 (b)) rfl (by kernel_rfl) (by kernel_rfl) (by kernel_rfl) (fun _ _ _ h => h) (Or.inl ⟨by kernel_rfl, fun _ => by kernel_rfl⟩) ?_
        refine wpAny_take (i := 2) (v := .int .i64 (a)) rfl (by kernel_rfl) (by kernel_rfl) (by kernel_rfl) (fun _ _ _ h => h) (Or.inl ⟨by kernel_rfl, fun _ => by kernel_rfl⟩) ?_
        refine wpAny_take (i := 3) (v := .int .i64 (x)) rfl (by kernel_rfl) (by kernel_rfl) (by kernel_rfl) (fun _ _ _ h => h) (Or.inl ⟨by kernel_rfl, fun _ => by kernel_rfl⟩) ?_
        refine wpAny_take (i := 4) (v := .int .i64 (IntKind.i64.wrap (a * x))) rfl (by kernel_rfl) (by kernel_rfl) (by kernel_rfl) (fun _ _ _ h => h) (Or.inl ⟨by kernel_rfl, fun _ => by kernel_rfl⟩) ?_
        refine wpAny_take (i := 5) (v := .int .i64 (b)) rfl (by kernel_rfl) (by kernel_rfl) (by kernel_rfl) (fun _ _ _ h => h) (Or.inl ⟨by kernel_rfl, fun _ => by kernel_rfl⟩) ?_
        refine wpAny_take (i := 6) (v := .int .i64 (IntKind.i64.wrap (IntKind.i64.wrap (a * x) + b))) rfl (by kernel_rfl) (by kernel_rfl) (by kernel_rfl) (fun _ _ _ h => h) (Or.inl ⟨by kernel_rfl, fun _ => by kernel_rfl⟩) ?_
        refine wpAny_take (i := 7) (v := .int .i64 (o)) rfl (by kernel_rfl) (by kernel_rfl) (by kernel_rfl) (fun _ _ _ h => h) (Or.inl ⟨by kernel_rfl, fun _ => by kernel_rfl⟩) ?_
        refine wpAny_take (i := 8) (v := .int .i64 (IntKind.i64.wrap (IntKind.i64.wrap (IntKind.i64.wrap (a * x) + b) + o))) rfl (by kernel_rfl) (by kernel_rfl) (by kernel_rfl) (fun _ _ _ h => h) (Or.inl ⟨by kernel_rfl, fun _ => by kernel_rfl⟩) ?_
        refine wpAny_take (i := 10) (v := .int .i64 (o)) rfl (by kernel_rfl) (by kernel_rfl) (by kernel_rfl) (fun _ _ _ h => h) (Or.inl ⟨by kernel_rfl, fun _ => by kernel_rfl⟩) ?_
        refine wpAny_take (i := 11) (v := .int .i64 ((-a))) rfl (by kernel_rfl) (by kernel_rfl) (by kernel_rfl) (fun _ _ _ h => h) (Or.inl ⟨by kernel_rfl, fun _ => by kernel_rfl⟩) ?_
        refine wpAny_take (i := 12) (v := .int .i64 (o.tmod (-a))) rfl (by kernel_rfl) (by kernel_rfl) (by kernel_rfl) (fun _ _ _ h => h) (Or.inl ⟨by kernel_rfl, ?_⟩) ?_
        · intro w9; go_simp
        refine wpAny_take (i := 13) (v := .bool true) rfl (by kernel_rfl) (by kernel_rfl) (by kernel_rfl) (fun _ _ _ h => h) (Or.inl ⟨by kernel_rfl, ?_⟩) ?_
        · intro w9; go_simp
        refine wpAny_ready (rs := [9]) (by kernel_rfl) (by simp) ?_
        refine AllReady.cons rfl (fun K hK => ?_) AllReady.nil
        go_simp
        go_wp2_with (go_at_call 11; with_reducible refine (c4 _).mono ?_; rintro e w' ⟨rfl, rfl⟩)
        try (refine hK _ _ ?_; clear hK K)
        refine wpAny_take (i := 14) (v := .bool true) rfl (by kernel_rfl) (by kernel_rfl) (by kernel_rfl) (fun _ _ _ h => h) (Or.inl ⟨by kernel_rfl, fun _ => by kernel_rfl⟩) ?_
        refine wpAny_take (i := 15) (v := .int .i64 (a)) rfl (by kernel_rfl) (by kernel_rfl) (by kernel_rfl) (fun _ _ _ h => h) (Or.inl ⟨by kernel_rfl, fun _ => by kernel_rfl⟩) ?_
        refine wpAny_take (i := 16) (v := .bool true) rfl (by kernel_rfl) (by kernel_rfl) (by kernel_rfl) (fun _ _ _ h => h) (Or.inl ⟨by kernel_rfl, ?_⟩) ?_
        · intro w9; go_simp
        refine wpAny_take (i := 17) (v := .bool true) rfl (by kernel_rfl) (by kernel_rfl) (by kernel_rfl) (fun _ _ _ h => h) (Or.inl ⟨by kernel_rfl, fun _ => by kernel_rfl⟩) ?_
        refine wpAny_take (i := 18) (v := .int .i64 (a)) rfl (by kernel_rfl) (by kernel_rfl) (by kernel_rfl) (fun _ _ _ h => h) (Or.inl ⟨by kernel_rfl, fun _ => by kernel_rfl⟩) ?_
        refine wpAny_take (i := 19) (v := .int .i64 (x)) rfl (by kernel_rfl) (by kernel_rfl) (by kernel_rfl) (fun _ _ _ h => h) (Or.inl ⟨by kernel_rfl, fun _ => by kernel_rfl⟩) ?_
        refine wpAny_take (i := 20) (v := .int .i64 (IntKind.i64.wrap (a * x))) rfl (by kernel_rfl) (by kernel_rfl) (by kernel_rfl) (fun _ _ _ h => h) (Or.inl ⟨by kernel_rfl, fun _ => by kernel_rfl⟩) ?_
        refine wpAny_take (i := 21) (v := .int .i64 (o)) rfl (by kernel_rfl) (by kernel_rfl) (by kernel_rfl) (fun _ _ _ h => h) (Or.inl ⟨by kernel_rfl, fun _ => by kernel_rfl⟩) ?_
        refine wpAny_take (i := 22) (v := .int .i64 (IntKind.i64.wrap (IntKind.i64.wrap (a * x) + o))) rfl (by kernel_rfl) (by kernel_rfl) (by kernel_rfl) (fun _ _ _ h => h) (Or.inl ⟨by kernel_rfl, fun _ => by kernel_rfl⟩) ?_
        refine wpAny_take (i := 23) (v := .bool false) rfl (by kernel_rfl) (by kernel_rfl) (by kernel_rfl) (fun _ _ _ h => h) (Or.inl ⟨by kernel_rfl, ?_⟩) ?_
        · intro w9; go_simp
        refine wpAny_take (i := 24) (v := .bool false) rfl (by kernel_rfl) (by kernel_rfl) (by kernel_rfl) (fun _ _ _ h => h) (Or.inl ⟨by kernel_rfl, fun _ => by kernel_rfl⟩) ?_
        refine wpAny_take (i := 25) (v := .bool false) rfl (by kernel_rfl) (by kernel_rfl) (by kernel_rfl) (fun _ _ _ h => h) (Or.inl ⟨by kernel_rfl, fun _ => by kernel_rfl⟩) ?_
        refine wpAny_take (i := 26) (v := .int .i64 (a)) rfl (by kernel_rfl) (by kernel_rfl) (by kernel_rfl) (fun _ _ _ h => h) (Or.inl ⟨by kernel_rfl, fun _ => by kernel_rfl⟩) ?_
        refine wpAny_take (i := 27) (v := .bool false) rfl (by kernel_rfl) (by kernel_rfl) (by kernel_rfl) (fun _ _ _ h => h) (Or.inl ⟨by kernel_rfl, ?_⟩) ?_
        · intro w9; go_simp
        refine wpAny_take (i := 28) (v := .bool false) rfl (by kernel_rfl) (by kernel_rfl) (by kernel_rfl) (fun _ _ _ h => h) (Or.inl ⟨by kernel_rfl, fun _ => by kernel_rfl⟩) ?_
        refine wpAny_take (i := 29) (v := .bool false) rfl (by kernel_rfl) (by kernel_rfl) (by kernel_rfl) (fun _ _ _ h => h) (Or.inl ⟨by kernel_rfl, fun _ => by kernel_rfl⟩) ?_
        refine wpAny_take (i := 30) (v := .bool true) rfl (by kernel_rfl) (by kernel_rfl) (by kernel_rfl) (fun _ _ _ h => h) (Or.inl ⟨by kernel_rfl, fun _ => by kernel_rfl⟩) ?_
        refine wpAny_take (i := 31) (v := .bool true) rfl (by kernel_rfl) (by kernel_rfl) (by kernel_rfl) (fun _ _ _ h => h) (Or.inl ⟨by kernel_rfl, fun _ => by kernel_rfl⟩) ?_
        refine wpAny_ready (rs := [32]) (by kernel_rfl) (by simp) ?_
        refine AllReady.cons rfl (fun K hK => ?_) AllReady.nil
        go_simp
        go_wp2_with (go_at_call 7; refine (HM.awake_c (W := _) ?_).mono ?_; exact hT; rintro e w' ⟨rfl, hb⟩)
        try (refine hK _ _ ?_; clear hK K)
        refine wpAny_take (i := 33) (v := .bool true) rfl (by kernel_rfl) (by kernel_rfl) (by kernel_rfl) (fun _ _ _ h => h) (Or.inl ⟨by kernel_rfl, fun _ => by kernel_rfl⟩) ?_
        refine wpAny_take (i := 34) (v := .bool true) rfl (by kernel_rfl) (by kernel_rfl) (by kernel_rfl) (fun _ _ _ h => h) (Or.inl ⟨by kernel_rfl, fun _ => by kernel_rfl⟩) ?_
        refine wpAny_done (by kernel_rfl) ?_ _
        go_wp2
        go_ret
        exact ⟨rfl, (Below.refl _ _).drew.trans hb⟩
    · have hd' : decide (o.tmod (-a) = 0) = false := decide_eq_false hd
      have hd3 : ¬ o.tmod a = 0 := by rwa [Int.tmod_neg] at hd
      have c4 := match_inf a b (a * x + b + o) false ⟨by omega, by omega⟩ ⟨by omega, by omega⟩ ⟨by omega, by omega⟩ (off_neg h0 i7 hd)
      clear m i1 i2 i3 i4 i5 i6 i7 i8 w4 w5 w6 w7 w8 c1 c2
      refine wp_region_any (by kernel_rfl) ?_
      change wpAny _ _ _ _ _ _ _ (World.drew _)
      refine wpAny_take (i := 0) (v := .int .i64 (a)) rfl (by kernel_rfl) (by kernel_rfl) (by kernel_rfl) (fun _ _ _ h => h) (Or.inl ⟨by kernel_rfl, fun _ => by kernel_rfl⟩) ?_
      refine wpAny_take (i := 1) (v := .int .i64 (b)) rfl (by kernel_rfl) (by kernel_rfl) (by kernel_rfl) (fun _ _ _ h => h) (Or.inl ⟨by kernel_rfl, fun _ => by kernel_rfl⟩) ?_
      refine wpAny_take (i := 2) (v := .int .i64 (a)) rfl (by kernel_rfl) (by kernel_rfl) (by kernel_rfl) (fun _ _ _ h => h) (Or.inl ⟨by kernel_rfl, fun _ => by kernel_rfl⟩) ?_
      refine wpAny_take (i := 3) (v := .int .i64 (x)) rfl (by kernel_rfl) (by kernel_rfl) (by kernel_rfl) (fun _ _ _ h => h) (Or.inl ⟨by kernel_rfl, fun _ => by kernel_rfl⟩) ?_
      refine wpAny_take (i := 4) (v := .int .i64 (IntKind.i64.wrap (a * x))) rfl (by kernel_rfl) (by kernel_rfl) (by kernel_rfl) (fun _ _ _ h => h) (Or.inl ⟨by kernel_rfl, fun _ => by kernel_rfl⟩) ?_
      refine wpAny_take (i := 5) (v := .int .i64 (b)) rfl (by kernel_rfl) (by kernel_rfl) (by kernel_rfl) (fun _ _ _ h => h) (Or.inl ⟨by kernel_rfl, fun _ => by kernel_rfl⟩) ?_
      refine wpAny_take (i := 6) (v := .int .i64 (IntKind.i64.wrap (IntKind.i64.wrap (a * x) + b))) rfl (by kernel_rfl) (by kernel_rfl) (by kernel_rfl) (fun _ _ _ h => h) (Or.inl ⟨by kernel_rfl, fun _ => by kernel_rfl⟩) ?_
      refine wpAny_take (i := 7) (v := .int .i64 (o)) rfl (by kernel_rfl) (by kernel_rfl) (by kernel_rfl) (fun _ _ _ h => h) (Or.inl ⟨by kernel_rfl, fun _ => by kernel_rfl⟩) ?_
      refine wpAny_take (i := 8) (v := .int .i64 (IntKind.i64.wrap (IntKind.i64.wrap (IntKind.i64.wrap (a * x) + b) + o))) rfl (by kernel_rfl) (by kernel_rfl) (by kernel_rfl) (fun _ _ _ h => h) (Or.inl ⟨by kernel_rfl, fun _ => by kernel_rfl⟩) ?_
      refine wpAny_take (i := 10) (v := .int .i64 (o)) rfl (by kernel_rfl) (by kernel_rfl) (by kernel_rfl) (fun _ _ _ h => h) (Or.inl ⟨by kernel_rfl, fun _ => by kernel_rfl⟩) ?_
      refine wpAny_take (i := 11) (v := .int .i64 ((-a))) rfl (by kernel_rfl) (by kernel_rfl) (by kernel_rfl) (fun _ _ _ h => h) (Or.inl ⟨by kernel_rfl, fun _ => by kernel_rfl⟩) ?_
      refine wpAny_take (i := 12) (v := .int .i64 (o.tmod (-a))) rfl (by kernel_rfl) (by kernel_rfl) (by kernel_rfl) (fun _ _ _ h => h) (Or.inl ⟨by kernel_rfl, ?_⟩) ?_
      · intro w9; go_simp
      refine wpAny_take (i := 13) (v := .bool false) rfl (by kernel_rfl) (by kernel_rfl) (by kernel_rfl) (fun _ _ _ h => h) (Or.inl ⟨by kernel_rfl, ?_⟩) ?_
      · intro w9; go_simp
      refine wpAny_ready (rs := [9]) (by kernel_rfl) (by simp) ?_
      refine AllReady.cons rfl (fun K hK => ?_) AllReady.nil
      go_simp
      go_wp2_with (go_at_call 11; with_reducible refine (c4 _).mono ?_; rintro e w' ⟨rfl, rfl⟩)
      try (refine hK _ _ ?_; clear hK K)
      refine wpAny_take (i := 14) (v := .bool false) rfl (by kernel_rfl) (by kernel_rfl) (by kernel_rfl) (fun _ _ _ h => h) (Or.inl ⟨by kernel_rfl, fun _ => by kernel_rfl⟩) ?_
      refine wpAny_take (i := 15) (v := undef) rfl (by kernel_rfl) (by kernel_rfl) (by kernel_rfl) (fun _ _ _ h => h) (Or.inr ⟨by kernel_rfl, rfl⟩) ?_
      refine wpAny_take (i := 16) (v := undef) rfl (by kernel_rfl) (by kernel_rfl) (by kernel_rfl) (fun _ _ _ h => h) (Or.inr ⟨by kernel_rfl, rfl⟩) ?_
      refine wpAny_take (i := 17) (v := undef) rfl (by kernel_rfl) (by kernel_rfl) (by kernel_rfl) (fun _ _ _ h => h) (Or.inr ⟨by kernel_rfl, rfl⟩) ?_
      refine wpAny_take (i := 18) (v := undef) rfl (by kernel_rfl) (by kernel_rfl) (by kernel_rfl) (fun _ _ _ h => h) (Or.inr ⟨by kernel_rfl, rfl⟩) ?_
      refine wpAny_take (i := 19) (v := undef) rfl (by kernel_rfl) (by kernel_rfl) (by kernel_rfl) (fun _ _ _ h => h) (Or.inr ⟨by kernel_rfl, rfl⟩) ?_
      refine wpAny_take (i := 20) (v := undef) rfl (by kernel_rfl) (by kernel_rfl) (by kernel_rfl) (fun _ _ _ h => h) (Or.inr ⟨by kernel_rfl, rfl⟩) ?_
      refine wpAny_take (i := 21) (v := undef) rfl (by kernel_rfl) (by kernel_rfl) (by kernel_rfl) (fun _ _ _ h => h) (Or.inr ⟨by kernel_rfl, rfl⟩) ?_
      refine wpAny_take (i := 22) (v := undef) rfl (by kernel_rfl) (by kernel_rfl) (by kernel_rfl) (fun _ _ _ h => h) (Or.inr ⟨by kernel_rfl, rfl⟩) ?_
      refine wpAny_take (i := 23) (v := undef) rfl (by kernel_rfl) (by kernel_rfl) (by kernel_rfl) (fun _ _ _ h => h) (Or.inr ⟨by kernel_rfl, rfl⟩) ?_
      refine wpAny_take (i := 24) (v := undef) rfl (by kernel_rfl) (by kernel_rfl) (by kernel_rfl) (fun _ _ _ h => h) (Or.inr ⟨by kernel_rfl, rfl⟩) ?_
      refine wpAny_take (i := 25) (v := undef) rfl (by kernel_rfl) (by kernel_rfl) (by kernel_rfl) (fun _ _ _ h => h) (Or.inr ⟨by kernel_rfl, rfl⟩) ?_
      refine wpAny_take (i := 26) (v := undef) rfl (by kernel_rfl) (by kernel_rfl) (by kernel_rfl) (fun _ _ _ h => h) (Or.inr ⟨by kernel_rfl, rfl⟩) ?_
      refine wpAny_take (i := 27) (v := undef) rfl (by kernel_rfl) (by kernel_rfl) (by kernel_rfl) (fun _ _ _ h => h) (Or.inr ⟨by kernel_rfl, rfl⟩) ?_
      refine wpAny_take (i := 28) (v := undef) rfl (by kernel_rfl) (by kernel_rfl) (by kernel_rfl) (fun _ _ _ h => h) (Or.inr ⟨by kernel_rfl, rfl⟩) ?_
      refine wpAny_take (i := 29) (v := .bool false) rfl (by kernel_rfl) (by kernel_rfl) (by kernel_rfl) (fun _ _ _ h => h) (Or.inl ⟨by kernel_rfl, fun _ => by kernel_rfl⟩) ?_
      refine wpAny_take (i := 30) (v := .bool true) rfl (by kernel_rfl) (by kernel_rfl) (by kernel_rfl) (fun _ _ _ h => h) (Or.inl ⟨by kernel_rfl, fun _ => by kernel_rfl⟩) ?_
      refine wpAny_take (i := 31) (v := .bool true) rfl (by kernel_rfl) (by kernel_rfl) (by kernel_rfl) (fun _ _ _ h => h) (Or.inl ⟨by kernel_rfl, fun _ => by kernel_rfl⟩) ?_
      refine wpAny_ready (rs := [32]) (by kernel_rfl) (by simp) ?_
      refine AllReady.cons rfl (fun K hK => ?_) AllReady.nil
      go_simp
      go_wp2_with (go_at_call 7; refine (HM.awake_c (W := _) ?_).mono ?_; exact hT; rintro e w' ⟨rfl, hb⟩)
      try (refine hK _ _ ?_; clear hK K)
      refine wpAny_take (i := 33) (v := .bool true) rfl (by kernel_rfl) (by kernel_rfl) (by kernel_rfl) (fun _ _ _ h => h) (Or.inl ⟨by kernel_rfl, fun _ => by kernel_rfl⟩) ?_
      refine wpAny_take (i := 34) (v := .bool true) rfl (by kernel_rfl) (by kernel_rfl) (by kernel_rfl) (fun _ _ _ h => h) (Or.inl ⟨by kernel_rfl, fun _ => by kernel_rfl⟩) ?_
      refine wpAny_done (by kernel_rfl) ?_ _
      go_wp2
      go_ret
      exact ⟨rfl, (Below.refl _ _).drew.trans hb⟩

theorem walk (a b x o : Int) (w : World) (hT : Tab w) :
    Calls Tryd.prog 5 #[.int .i64 a, .int .i64 b, .int .i64 x, .int .i64 o] w fun e w' => e = .returned (.bool true) ∧ Below w.heap.size w w' := by
  by_cases h : inR a b x o
  · rcases Int.lt_trichotomy a 0 with h0 | h0 | h0
    · exact walk_neg a b x o h h0 w hT
    · exact walk_zero a b x o h h0 w hT
    · exact walk_pos a b x o h h0 w hT
  · exact walk_out a b x o h w hT
end Go.Proofs.YtalfjpfpfeddiaaDoor.Mat
