/- What anb.Match answers at the numbers that AnbMatch asks for: plain arithmetic. -/
import Derived.Test.YtalfjpfpfeddiaaDoorM1
namespace Go.Proofs.YtalfjpfpfeddiaaDoor.Mat

theorem mb_eq {a b n : Int} (h : n = b) : matchB a b n = true := by
  unfold matchB; rw [if_pos (.inr h)]; exact decide_eq_true h
theorem mb_zero {b n : Int} (h : n = b) : matchB 0 b n = true := mb_eq h
theorem mb_up {a b n : Int} (ha : 0 < a) (h : b < n) : matchB a b n = decide ((n - b) % a = 0) := by
  unfold matchB
  rw [if_neg (by omega), decide_eq_true h, decide_eq_true ha]; rfl
theorem mb_down {a b n : Int} (ha : a < 0) (h : n < b) : matchB a b n = decide ((n - b) % a = 0) := by
  unfold matchB
  rw [if_neg (by omega), decide_eq_false (show ¬ b < n by omega), decide_eq_false (show ¬ 0 < a by omega)]; rfl
theorem mb_wrong1 {a b n : Int} (ha : 0 < a) (h : n < b) : matchB a b n = false := by
  unfold matchB
  rw [if_neg (by omega), decide_eq_false (show ¬ b < n by omega), decide_eq_true ha]; rfl
theorem mb_wrong2 {a b n : Int} (ha : a < 0) (h : b < n) : matchB a b n = false := by
  unfold matchB
  rw [if_neg (by omega), decide_eq_true h, decide_eq_false (show ¬ 0 < a by omega)]; rfl

theorem on_line {a b x : Int} (hx : 0 ≤ x) : matchB a b (a * x + b) = true := by
  rcases Int.lt_trichotomy a 0 with ha | rfl | ha
  · by_cases h : a * x = 0
    · exact mb_eq (by omega)
    · have hp : 0 ≤ (-a) * x := Int.mul_nonneg (by omega) hx
      rw [Int.neg_mul] at hp
      rw [mb_down ha (by omega), show a * x + b - b = a * x by omega]
      exact decide_eq_true (Int.mul_emod_right a x)
  · exact mb_eq (by omega)
  · by_cases h : a * x = 0
    · exact mb_eq (by omega)
    · have hp : 0 ≤ a * x := Int.mul_nonneg (by omega) hx
      rw [mb_up ha (by omega), show a * x + b - b = a * x by omega]
      exact decide_eq_true (Int.mul_emod_right a x)

theorem off_pos {a b x o : Int} (ha : 0 < a) (hx : 0 ≤ x) (ho : 0 ≤ o) : matchB a b (a * x + b + o) = decide (o.tmod a = 0) := by
  have hp : 0 ≤ a * x := Int.mul_nonneg (by omega) hx
  rw [Int.tmod_eq_emod_of_nonneg ho]
  by_cases h : a * x + o = 0
  · rw [mb_eq (by omega)]
    obtain rfl : o = 0 := by omega
    simp
  · rw [mb_up ha (by omega), show a * x + b + o - b = o + a * x by omega, Int.add_mul_emod_self_left]

theorem off_neg_low {a b x o : Int} (ha : a < 0) (ho : 0 ≤ o) (hl : a * x + o ≤ 0) : matchB a b (a * x + b + o) = decide (o.tmod (-a) = 0) := by
  rw [Int.tmod_eq_emod_of_nonneg ho, Int.emod_neg]
  by_cases h : a * x + o = 0
  · rw [mb_eq (by omega)]
    have e : o = a * (-x) := by rw [Int.mul_neg]; omega
    rw [e, Int.mul_emod_right]; rfl
  · rw [mb_down ha (by omega), show a * x + b + o - b = o + a * x by omega, Int.add_mul_emod_self_left]

theorem off_neg_high {a b x o : Int} (ha : a < 0) (hl : ¬ a * x + o ≤ 0) : matchB a b (a * x + b + o) = false :=
  mb_wrong2 ha (by omega)

theorem off_neg {a b x o : Int} (ha : a < 0) (ho : 0 ≤ o) (hd : ¬ o.tmod (-a) = 0) : matchB a b (a * x + b + o) = false := by
  by_cases hl : a * x + o ≤ 0
  · rw [off_neg_low ha ho hl]; exact decide_eq_false hd
  · exact off_neg_high ha hl
end Go.Proofs.YtalfjpfpfeddiaaDoor.Mat
