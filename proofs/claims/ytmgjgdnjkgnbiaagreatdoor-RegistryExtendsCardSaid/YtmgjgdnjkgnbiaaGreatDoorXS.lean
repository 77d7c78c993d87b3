/- The shapes of a number of 32 binary digits: small ones, those below zero by their digits, great ones by letters. -/
import Derived.Test.YtmgjgdnjkgnbiaaGreatDoorX0
import Derived.Test.YtmgjgdnjkgnbiaaGreatDoorQS
import Derived.Test.YtmgjgdnjkgnbiaaGreatDoorQT
namespace Go.Proofs.YtmgjgdnjkgnbiaaGreatDoor.HM
open Go Go.RowKit
section
variable [E : Amb]
theorem OkS.append {ρ : Ren} {xs ys : List LT} (h1 : OkS ρ xs) (h2 : OkS ρ ys) : OkS ρ (xs ++ ys) := fun t ht => (List.mem_append.1 ht).elim (h1 t) (h2 t)
theorem sumR_append (ρ : Ren) : ∀ xs ys : List LT, sumR ρ (xs ++ ys) = sumR ρ xs + sumR ρ ys
  | [], ys => by simp [sumR]
  | x :: xs, ys => by rw [List.cons_append, sumR, sumR, sumR_append ρ xs ys]; omega
theorem let_ok : ∀ (n p : Nat) (s : Int) (m : Nat), (∀ i, i < n → E.num (p + i) = ((m / 26 ^ i % 26 : Nat) : Int)) → OkS Ren.nil (letT s p n) ∧ sumR Ren.nil (letT s p n) = s * ((m % 26 ^ n : Nat) : Int)
  | 0, p, s, m, _ => ⟨OkS.nil, by simp [letT, sumR, Nat.mod_one]⟩
  | n + 1, p, s, m, h => by
    have e : E.num p = ((m % 26 : Nat) : Int) := by have := h 0 (by omega); simp at this; omega
    have ih := let_ok n (p + 1) (26 * s) (m / 26) (fun i hi => by
      have := h (i + 1) (by omega)
      rw [show p + 1 + i = p + (i + 1) by omega, this, Nat.div_div_eq_div_mul, Nat.pow_succ, Nat.mul_comm])
    refine ⟨OkS.cons ⟨by show 0 ≤ E.num p; omega, by show E.num p ≤ 25; omega⟩ ih.1, ?_⟩
    show s * E.num p + sumR Ren.nil (letT (26 * s) (p + 1) n) = _
    have e2 : m % 26 ^ (n + 1) = m % 26 + 26 * (m / 26 % 26 ^ n) := by rw [Nat.pow_succ, Nat.mul_comm, Nat.mod_mul]
    rw [ih.2, e, e2, Int.mul_comm 26 s, Int.mul_assoc, ← Int.mul_add]
    congr 1
theorem piece_ok {c t : Int} {j m : Nat} (h : ∀ i, i < j + 1 → E.num (0 + i) = ((m / 26 ^ i % 26 : Nat) : Int)) (hm : (m : Int) < (t + 1) * ((26 ^ j : Nat) : Int)) (ht : t ≤ 25) {q : Int} (hq : q = ((26 ^ j : Nat) : Int)) {n : Int} (hn : n = c + m) :
    VR Ren.nil (.lin .i64 c (letT 1 0 j ++ [⟨q, j, 0, t⟩])) (.int .i64 n) := by
  subst hq
  have k := let_ok j 0 1 m (fun i hi => h i (by omega))
  have hp : 0 < 26 ^ j := Nat.pow_pos (by decide)
  have h0 : ((m / 26 ^ j : Nat) : Int) ≤ t := by
    have ht0 : 0 ≤ t + 1 := by
      apply Classical.byContradiction
      intro hc
      have : (t + 1) * ((26 ^ j : Nat) : Int) ≤ 0 := Int.mul_nonpos_of_nonpos_of_nonneg (by omega) (by omega)
      omega
    have h2 : m < (t + 1).toNat * 26 ^ j := by
      have : (((t + 1).toNat * 26 ^ j : Nat) : Int) = (t + 1) * ((26 ^ j : Nat) : Int) := by rw [Int.natCast_mul, Int.toNat_of_nonneg ht0]
      omega
    have h3 : m / 26 ^ j < (t + 1).toNat := (Nat.div_lt_iff_lt_mul hp).2 h2
    generalize m / 26 ^ j = d at h3 ⊢
    omega
  have e : E.num j = ((m / 26 ^ j : Nat) : Int) := by
    have := h j (by omega)
    rw [Nat.zero_add] at this
    rw [this, Nat.mod_eq_of_lt (by generalize m / 26 ^ j = d at h0; omega)]
  have hd := Nat.div_add_mod m (26 ^ j)
  generalize m / 26 ^ j = d at h0 e hd
  refine .lin _ _ _ _ (OkS.append k.1 (OkS.cons ⟨by show 0 ≤ E.num j; omega, by show E.num j ≤ t; omega⟩ OkS.nil)) ?_
  rw [sumR_append, k.2]
  show n = c + (1 * ((m % 26 ^ j : Nat) : Int) + (((26 ^ j : Nat) : Int) * E.num j + 0))
  rw [e, hn, ← Int.natCast_mul]
  generalize m % 26 ^ j = r at hd
  generalize 26 ^ j * d = x at hd
  omega
end
end Go.Proofs.YtmgjgdnjkgnbiaaGreatDoor.HM
namespace Go.Proofs.YtmgjgdnjkgnbiaaGreatDoor.Ext
open Go Go.RowKit Go.Proofs.YtmgjgdnjkgnbiaaGreatDoor.Pad
def dx (m : Nat) : List Int := (List.range 10).map fun i => ((m / 26 ^ i % 26 : Nat) : Int)
abbrev ambX (m : Nat) : HM.Amb := HM.Amb.nums (dx m)
theorem num_x (m i : Nat) (hi : i < 10) : (ambX m).num (0 + i) = ((m / 26 ^ i % 26 : Nat) : Int) := ten (P := fun i => (ambX m).num (0 + i) = ((m / 26 ^ i % 26 : Nat) : Int)) ⟨rfl, rfl, rfl, rfl, rfl, rfl, rfl, rfl, rfl, rfl⟩ i hi
theorem letter (n : Int) (c t : Int) (i j : Nat) (q : Int) (hj : j < 9) (he : HM.esh i = .lin .i64 c (HM.letT 1 0 j ++ [⟨q, j, 0, t⟩])) (hq : q = ((26 ^ j : Nat) : Int)) (ht : t ≤ 25) (h1 : c ≤ n) (h2 : n < c + (t + 1) * q) (hi : i ≤ 32) :
    ∃ E : HM.Amb, ∃ i, i ≤ 32 ∧ @HM.VR E HM.Ren.nil (HM.esh i) (.int .i64 n) := by
  refine ⟨ambX (n - c).toNat, i, hi, ?_⟩
  rw [he]
  exact @HM.piece_ok (ambX (n - c).toNat) _ _ _ _ (fun i hi => num_x _ i (by omega)) (by rw [← hq]; omega) ht _ hq _ (by omega)
theorem shape_n {a : Int} (h : InN a) (h0 : a < 0) : letI := amb h []; ∃ i, i ≤ 32 ∧ HM.VR HM.Ren.nil (HM.esh i) (.int .i64 a) := by
  letI := amb h []
  obtain ⟨n, n9, n1, n2⟩ := len_of (m := a.natAbs) (by omega) (by have := h.1; have := h.2; omega)
  by_cases n8 : n ≤ 8
  · refine ⟨n + 10, by omega, ?_⟩
    have e : HM.esh (n + 10) = .lin .i64 0 (HM.dig (Int.negSucc 0) 0 9 (n + 1)) := nine (P := fun n => HM.esh (n + 10) = .lin .i64 0 (HM.dig (Int.negSucc 0) 0 9 (n + 1))) ⟨rfl, rfl, rfl, rfl, rfl, rfl, rfl, rfl, rfl⟩ n n8
    rw [e]
    have k := HM.dig_ok 9 n 0 (Int.negSucc 0) a.natAbs (fun i hi => num_a a [] i (by omega)) n1 n2 (top_le n2)
    exact .lin _ _ _ _ k.1 (by rw [k.2]; omega)
  · obtain rfl : n = 9 := by omega
    obtain ⟨h1, h2⟩ := h
    refine ⟨19, by omega, ?_⟩
    have k := HM.dig_ok 2 9 4010 (Int.negSucc 0) (-a).toNat (fun i hi => num_1 a [] i (by omega)) (by omega) (by omega) (by omega)
    exact .lin _ _ _ _ k.1 (by rw [k.2]; omega)
theorem shape_x (n : Int) (h : InN n) : ∃ E : HM.Amb, ∃ i, i ≤ 32 ∧ @HM.VR E HM.Ren.nil (HM.esh i) (.int .i64 n) := by
  by_cases h0 : n < 0
  · obtain ⟨i, h1, h2⟩ := shape_n h h0
    exact ⟨_, i, h1, h2⟩
  by_cases h9 : n ≤ 9
  · refine ⟨HM.Amb.none, n.toNat, by omega, ?_⟩
    have e : n = 0 ∨ n = 1 ∨ n = 2 ∨ n = 3 ∨ n = 4 ∨ n = 5 ∨ n = 6 ∨ n = 7 ∨ n = 8 ∨ n = 9 := by omega
    rcases e with rfl | rfl | rfl | rfl | rfl | rfl | rfl | rfl | rfl | rfl <;> exact @HM.VR.int HM.Amb.none _ .i64 _
  have hb := h.2
  by_cases g1 : n ≤ 26
  · refine ⟨ambX (n - 1).toNat, 20, by omega, ?_⟩
    have e := num_x (n - 1).toNat 0 (by omega)
    simp only [Nat.zero_add, Nat.pow_zero, Nat.div_one] at e
    exact @HM.VR.lin1 (ambX (n - 1).toNat) _ _ _ _ _ _ _ (by rw [e]; omega) (by rw [e]; omega) (by rw [e]; omega)
  by_cases g2 : n ≤ 702
  · exact letter n 27 25 21 1 26 (by omega) rfl rfl (by omega) (by omega) (by omega) (by omega)
  by_cases g3 : n ≤ 18278
  · exact letter n 703 25 22 2 676 (by omega) rfl rfl (by omega) (by omega) (by omega) (by omega)
  by_cases g4 : n ≤ 475254
  · exact letter n 18279 25 23 3 17576 (by omega) rfl rfl (by omega) (by omega) (by omega) (by omega)
  by_cases g5 : n ≤ 12356630
  · exact letter n 475255 25 24 4 456976 (by omega) rfl rfl (by omega) (by omega) (by omega) (by omega)
  by_cases g6 : n ≤ 321272406
  · exact letter n 12356631 25 25 5 11881376 (by omega) rfl rfl (by omega) (by omega) (by omega) (by omega)
  by_cases g7 : n < 1865851287
  · exact letter n 321272407 4 26 6 308915776 (by omega) rfl rfl (by omega) (by omega) (by omega) (by omega)
  by_cases g8 : n < 2139122935
  · exact letter n 1865851287 22 27 5 11881376 (by omega) rfl rfl (by omega) (by omega) (by omega) (by omega)
  by_cases g9 : n < 2147348503
  · exact letter n 2139122935 17 28 4 456976 (by omega) rfl rfl (by omega) (by omega) (by omega) (by omega)
  by_cases g10 : n < 2147471535
  · exact letter n 2147348503 6 29 3 17576 (by omega) rfl rfl (by omega) (by omega) (by omega) (by omega)
  by_cases g11 : n < 2147483027
  · exact letter n 2147471535 16 30 2 676 (by omega) rfl rfl (by omega) (by omega) (by omega) (by omega)
  by_cases g12 : n < 2147483625
  · exact letter n 2147483027 22 31 1 26 (by omega) rfl rfl (by omega) (by omega) (by omega) (by omega)
  · refine ⟨ambX (n - 2147483625).toNat, 32, by omega, ?_⟩
    have e := num_x (n - 2147483625).toNat 0 (by omega)
    simp only [Nat.zero_add, Nat.pow_zero, Nat.div_one] at e
    exact @HM.VR.lin1 (ambX (n - 2147483625).toNat) _ _ _ _ _ _ _ (by rw [e]; omega) (by rw [e]; omega) (by show n = (2147483625 : Int) + 1 * _; rw [e]; omega)
end Go.Proofs.YtmgjgdnjkgnbiaaGreatDoor.Ext
