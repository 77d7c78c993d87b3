/- The shapes of a number of 32 binary digits, and of a text of small letters. -/
import Derived.Test.YtmgjgdnjkgnbiaaGreatDoorQ0
import Derived.WalkKit
import Derived.ProofKit
import Derived.OpenShut
namespace Go.Proofs.YtmgjgdnjkgnbiaaGreatDoor.HM
open Go Go.RowKit
section
variable [E : Amb]
theorem dig_ok (hi : Int) : ∀ (n p : Nat) (s : Int) (m : Nat), (∀ i, i < n + 1 → E.num (p + i) = ((m / 10 ^ i % 10 : Nat) : Int)) → 10 ^ n ≤ m → m < 10 ^ (n + 1) → ((m / 10 ^ n : Nat) : Int) ≤ hi → OkS Ren.nil (dig s p hi (n + 1)) ∧ sumR Ren.nil (dig s p hi (n + 1)) = s * (m : Int)
  | 0, p, s, m, h, h1, h2, h3 => by
    have e : E.num p = (m : Int) := by have := h 0 (by omega); simp at this h1 h2; omega
    simp at h1 h2 h3
    refine ⟨OkS.cons ⟨by show 1 ≤ E.num p; omega, by show E.num p ≤ hi; omega⟩ OkS.nil, ?_⟩
    show s * E.num p + 0 = _
    rw [e]; omega
  | n + 1, p, s, m, h, h1, h2, h3 => by
    have e : E.num p = ((m % 10 : Nat) : Int) := by have := h 0 (by omega); simp at this; omega
    have ih := dig_ok hi n (p + 1) (10 * s) (m / 10) (fun i hi2 => by
      have := h (i + 1) (by omega)
      rw [show p + 1 + i = p + (i + 1) by omega, this, Nat.div_div_eq_div_mul, Nat.pow_succ, Nat.mul_comm]) (by rw [Nat.le_div_iff_mul_le (by decide), ← Nat.pow_succ]; exact h1) (by
      rw [Nat.div_lt_iff_lt_mul (by decide), ← Nat.pow_succ]; exact h2) (by rw [Nat.div_div_eq_div_mul, Nat.mul_comm, ← Nat.pow_succ]; exact h3)
    refine ⟨OkS.cons ⟨by show 0 ≤ E.num p; omega, by show E.num p ≤ 9; omega⟩ ih.1, ?_⟩
    show s * E.num p + sumR Ren.nil (dig (10 * s) (p + 1) hi (n + 1)) = _
    rw [ih.2, e, Int.mul_comm 10 s, Int.mul_assoc, ← Int.mul_add]
    congr 1; omega
end
theorem tot_digits {num : Nat → Int} : ∀ (n p m : Nat), (∀ i, i < n → num (p + i) = ((m / 10 ^ i % 10 : Nat) : Int)) → m < 10 ^ n → tot num p n = (m : Int)
  | 0, p, m, _, h => by simp at h; subst h; rfl
  | n + 1, p, m, h, hm => by
    have e : num p = ((m % 10 : Nat) : Int) := by have := h 0 (by omega); simp at this; omega
    rw [tot, tot_digits n (p + 1) (m / 10) (fun i hi => by
      have := h (i + 1) (by omega)
      rw [show p + 1 + i = p + (i + 1) by omega, this, Nat.div_div_eq_div_mul, Nat.pow_succ, Nat.mul_comm]) (by rw [Nat.div_lt_iff_lt_mul (by decide), ← Nat.pow_succ]; exact hm), e]
    omega
end Go.Proofs.YtmgjgdnjkgnbiaaGreatDoor.HM
namespace Go.Proofs.YtmgjgdnjkgnbiaaGreatDoor.Pad
open Go Go.RowKit
def dl (m : Nat) : List Int := (List.range 10).map fun i => ((m / 10 ^ i % 10 : Nat) : Int)
def zs (a b : Int) : List Int := dl a.toNat ++ (dl (-a).toNat ++ (dl b.natAbs ++ dl 0))
theorem ten {P : Nat → Prop} (h : P 0 ∧ P 1 ∧ P 2 ∧ P 3 ∧ P 4 ∧ P 5 ∧ P 6 ∧ P 7 ∧ P 8 ∧ P 9) (i : Nat) (hi : i < 10) : P i := by
  have e : i = 0 ∨ i = 1 ∨ i = 2 ∨ i = 3 ∨ i = 4 ∨ i = 5 ∨ i = 6 ∨ i = 7 ∨ i = 8 ∨ i = 9 := by omega
  obtain ⟨h0, h1, h2, h3, h4, h5, h6, h7, h8, h9⟩ := h
  rcases e with rfl | rfl | rfl | rfl | rfl | rfl | rfl | rfl | rfl | rfl <;> assumption
def numF (a : Int) (bs : List Int) (n : Nat) : Int := if n < 4000 then (dl a.natAbs ++ (dl 0 ++ bs)).getD n 0 else if n < 4040 then (zs a 0).getD (n - 4000) 0 else 0
theorem num_a (a : Int) (bs : List Int) (i : Nat) (hi : i < 10) : numF a bs (0 + i) = ((a.natAbs / 10 ^ i % 10 : Nat) : Int) := ten (P := fun i => numF a bs (0 + i) = ((a.natAbs / 10 ^ i % 10 : Nat) : Int)) ⟨rfl, rfl, rfl, rfl, rfl, rfl, rfl, rfl, rfl, rfl⟩ i hi
theorem num_0 (a : Int) (bs : List Int) (i : Nat) (hi : i < 10) : numF a bs (4000 + i) = ((a.toNat / 10 ^ i % 10 : Nat) : Int) := ten (P := fun i => numF a bs (4000 + i) = ((a.toNat / 10 ^ i % 10 : Nat) : Int)) ⟨rfl, rfl, rfl, rfl, rfl, rfl, rfl, rfl, rfl, rfl⟩ i hi
theorem num_1 (a : Int) (bs : List Int) (i : Nat) (hi : i < 10) : numF a bs (4010 + i) = (((-a).toNat / 10 ^ i % 10 : Nat) : Int) := ten (P := fun i => numF a bs (4010 + i) = (((-a).toNat / 10 ^ i % 10 : Nat) : Int)) ⟨rfl, rfl, rfl, rfl, rfl, rfl, rfl, rfl, rfl, rfl⟩ i hi
theorem num_2 (a : Int) (bs : List Int) (i : Nat) (hi : i < 10) : numF a bs (4020 + i) = ((0 / 10 ^ i % 10 : Nat) : Int) := ten (P := fun i => numF a bs (4020 + i) = ((0 / 10 ^ i % 10 : Nat) : Int)) ⟨rfl, rfl, rfl, rfl, rfl, rfl, rfl, rfl, rfl, rfl⟩ i hi
theorem num_3 (a : Int) (bs : List Int) (i : Nat) (hi : i < 10) : numF a bs (4030 + i) = ((0 / 10 ^ i % 10 : Nat) : Int) := ten (P := fun i => numF a bs (4030 + i) = ((0 / 10 ^ i % 10 : Nat) : Int)) ⟨rfl, rfl, rfl, rfl, rfl, rfl, rfl, rfl, rfl, rfl⟩ i hi
theorem num_c (a : Int) (bs : List Int) (i : Nat) (hi : i < 10) : numF a bs (20 + i) = bs.getD i 0 := ten (P := fun i => numF a bs (20 + i) = bs.getD i 0) ⟨rfl, rfl, rfl, rfl, rfl, rfl, rfl, rfl, rfl, rfl⟩ i hi
abbrev InN (a : Int) : Prop := -2147483648 ≤ a ∧ a < 2147483648
abbrev amb {a : Int} (h : InN a) (bs : List Int) : HM.Amb := HM.Amb.nums4 (dl a.natAbs ++ (dl 0 ++ bs)) (zs a 0) fun g hg => by
  obtain ⟨h1, h2⟩ := h
  have e : g = 0 ∨ g = 1 ∨ g = 2 ∨ g = 3 := by omega
  show 0 ≤ HM.tot (numF a bs) (4000 + 10 * g) 10 ∧ HM.tot (numF a bs) (4000 + 10 * g) 10 ≤ HM.capG g
  rcases e with rfl | rfl | rfl | rfl
  · rw [HM.tot_digits 10 _ a.toNat (num_0 a bs) (by omega)]; unfold HM.capG; rw [if_pos (by decide)]; omega
  · rw [HM.tot_digits 10 _ (-a).toNat (num_1 a bs) (by omega)]; unfold HM.capG; rw [if_neg (by decide)]; omega
  · rw [HM.tot_digits 10 _ 0 (num_2 a bs) (by omega)]; unfold HM.capG; rw [if_pos (by decide)]; omega
  · rw [HM.tot_digits 10 _ 0 (num_3 a bs) (by omega)]; unfold HM.capG; rw [if_neg (by decide)]; omega
theorem len_of {m : Nat} (h0 : m ≠ 0) (h : m < 10 ^ 10) : ∃ n, n ≤ 9 ∧ 10 ^ n ≤ m ∧ m < 10 ^ (n + 1) := by
  have e : m < 10 ∨ (10 ≤ m ∧ m < 100) ∨ (100 ≤ m ∧ m < 1000) ∨ (1000 ≤ m ∧ m < 10000) ∨ (10000 ≤ m ∧ m < 100000) ∨ (100000 ≤ m ∧ m < 1000000) ∨ (1000000 ≤ m ∧ m < 10000000) ∨ (10000000 ≤ m ∧ m < 100000000) ∨ (100000000 ≤ m ∧ m < 1000000000) ∨ (1000000000 ≤ m ∧ m < 10000000000) := by omega
  rcases e with e | e | e | e | e | e | e | e | e | e
  · exact ⟨0, by omega, by omega, by omega⟩
  · exact ⟨1, by omega, by omega, by omega⟩
  · exact ⟨2, by omega, by omega, by omega⟩
  · exact ⟨3, by omega, by omega, by omega⟩
  · exact ⟨4, by omega, by omega, by omega⟩
  · exact ⟨5, by omega, by omega, by omega⟩
  · exact ⟨6, by omega, by omega, by omega⟩
  · exact ⟨7, by omega, by omega, by omega⟩
  · exact ⟨8, by omega, by omega, by omega⟩
  · exact ⟨9, by omega, by omega, by omega⟩
theorem nine {P : Nat → Prop} (h : P 0 ∧ P 1 ∧ P 2 ∧ P 3 ∧ P 4 ∧ P 5 ∧ P 6 ∧ P 7 ∧ P 8) (i : Nat) (hi : i ≤ 8) : P i := by
  have e : i = 0 ∨ i = 1 ∨ i = 2 ∨ i = 3 ∨ i = 4 ∨ i = 5 ∨ i = 6 ∨ i = 7 ∨ i = 8 := by omega
  obtain ⟨h0, h1, h2, h3, h4, h5, h6, h7, h8⟩ := h
  rcases e with rfl | rfl | rfl | rfl | rfl | rfl | rfl | rfl | rfl <;> assumption
theorem shA_p (n : Nat) (h : n ≤ 8) : HM.shA (n + 1) = .lin .i64 0 (HM.dig 1 0 9 (n + 1)) := nine (P := fun n => HM.shA (n + 1) = .lin .i64 0 (HM.dig 1 0 9 (n + 1))) ⟨rfl, rfl, rfl, rfl, rfl, rfl, rfl, rfl, rfl⟩ n h
theorem shA_n (n : Nat) (h : n ≤ 8) : HM.shA (n + 11) = .lin .i64 0 (HM.dig (Int.negSucc 0) 0 9 (n + 1)) := nine (P := fun n => HM.shA (n + 11) = .lin .i64 0 (HM.dig (Int.negSucc 0) 0 9 (n + 1))) ⟨rfl, rfl, rfl, rfl, rfl, rfl, rfl, rfl, rfl⟩ n h
theorem top_le {n m : Nat} (h : m < 10 ^ (n + 1)) : ((m / 10 ^ n : Nat) : Int) ≤ 9 := by
  have : m / 10 ^ n < 10 := by rw [Nat.div_lt_iff_lt_mul (Nat.pow_pos (by decide)), Nat.mul_comm, ← Nat.pow_succ]; exact h
  omega
theorem shape_a {a : Int} (h : InN a) (bs : List Int) (h0 : a ≠ 0) : letI := amb h bs; ∃ i, 1 ≤ i ∧ i ≤ 20 ∧ HM.VR HM.Ren.nil (HM.shA i) (.int .i64 a) := by
  letI := amb h bs
  obtain ⟨n, n9, n1, n2⟩ := len_of (m := a.natAbs) (by omega) (by have := h.1; have := h.2; omega)
  by_cases n8 : n ≤ 8
  · by_cases hp : 0 ≤ a
    · refine ⟨n + 1, by omega, by omega, ?_⟩
      rw [shA_p n n8]
      have k := HM.dig_ok 9 n 0 1 a.natAbs (fun i hi => num_a a bs i (by omega)) n1 n2 (top_le n2)
      exact .lin _ _ _ _ k.1 (by rw [k.2]; omega)
    · refine ⟨n + 11, by omega, by omega, ?_⟩
      rw [shA_n n n8]
      have k := HM.dig_ok 9 n 0 (Int.negSucc 0) a.natAbs (fun i hi => num_a a bs i (by omega)) n1 n2 (top_le n2)
      exact .lin _ _ _ _ k.1 (by rw [k.2]; omega)
  · obtain rfl : n = 9 := by omega
    obtain ⟨h1, h2⟩ := h
    by_cases hp : 0 ≤ a
    · refine ⟨10, by omega, by omega, ?_⟩
      have k := HM.dig_ok 2 9 4000 1 a.toNat (fun i hi => num_0 a bs i (by omega)) (by omega) (by omega) (by omega)
      exact .lin _ _ _ _ k.1 (by rw [k.2]; omega)
    · refine ⟨20, by omega, by omega, ?_⟩
      have k := HM.dig_ok 2 9 4010 (Int.negSucc 0) (-a).toNat (fun i hi => num_1 a bs i (by omega)) (by omega) (by omega) (by omega)
      exact .lin _ _ _ _ k.1 (by rw [k.2]; omega)
section
variable [E : HM.Amb]
omit [E : HM.Amb] in
theorem negB_get : ∀ (n p i : Nat) (x : HM.V), (HM.negB p n)[i]? = some x → i < n ∧ x = .lin .u8 0 [⟨1, p + i, 97, 122⟩]
  | 0, p, i, x, h => by simp [HM.negB] at h
  | n + 1, p, i, x, h => by
    cases i with
    | zero =>
      simp only [HM.negB, List.getElem?_cons_zero, Option.some.injEq] at h
      exact ⟨by omega, h.symm⟩
    | succ i =>
      rw [HM.negB, List.getElem?_cons_succ] at h
      obtain ⟨h1, h2⟩ := negB_get n (p + 1) i x h
      exact ⟨by omega, by rw [h2, show p + 1 + i = p + (i + 1) by omega]⟩
omit [E : HM.Amb] in
theorem negB_len : ∀ (n p : Nat), (HM.negB p n).length = n
  | 0, _ => rfl
  | n + 1, p => by rw [HM.negB, List.length_cons, negB_len n (p + 1)]
theorem neg_VR (bs : List UInt8) (h : ∀ (i : Nat) b, bs[i]? = some b → E.num (20 + i) = (b.toNat : Int) ∧ 97 ≤ b.toNat ∧ b.toNat ≤ 122) : HM.VR HM.Ren.nil (HM.negV bs.length) (.string ⟨bs.toArray⟩) := by
  cases bs with
  | nil => exact .str []
  | cons c r =>
    refine .sstr _ (c :: r) (negB_len _ _) fun i x b hx hb => ?_
    obtain ⟨h1, rfl⟩ := negB_get _ _ _ _ hx
    obtain ⟨h2, h3, h4⟩ := h i b hb
    refine .lin _ _ _ _ (fun t ht => ?_) ?_
    · simp only [List.mem_singleton] at ht; subst ht
      constructor
      · show (97 : Int) ≤ E.num (20 + i); omega
      · show E.num (20 + i) ≤ (122 : Int); omega
    · simp only [HM.sumR, HM.valR]; omega
end
end Go.Proofs.YtmgjgdnjkgnbiaaGreatDoor.Pad
