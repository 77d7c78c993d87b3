/- anb.Match on small numbers: what it answers. -/
import Derived.Test.YtalfjpfpfeddiaaDoorProg
import Derived.WalkKit
import Derived.ProofKit
import Derived.OpenShut
import Derived.Below
namespace Go.Proofs.YtalfjpfpfeddiaaDoor.Mat
open Go Go.RowKit

/-- the number n is one of a*x+b, x = 0, 1, .. -/
def matchB (a b n : Int) : Bool :=
  if a = 0 ∨ n = b then decide (n = b) else if decide (b < n) != decide (0 < a) then false else decide ((n - b) % a = 0)

theorem wrapU (x : Int) : IntKind.u64.wrap x = x % 18446744073709551616 := rfl

theorem rem_abs (u v x y : Int) (hu : u = y ∨ u = -y) (hv : v = x ∨ v = -x) (h0 : 0 ≤ u) (h1 : 0 < v) : (u.tmod v == 0) = decide (y % x = 0) := by
  have e : u.tmod v = u % v := Int.tmod_eq_emod_of_nonneg h0
  rw [e]
  have k : (u % v = 0) ↔ (y % x = 0) := by
    rw [← Int.dvd_iff_emod_eq_zero, ← Int.dvd_iff_emod_eq_zero]
    rcases hu with rfl | rfl <;> rcases hv with rfl | rfl <;> simp
  by_cases h : u % v = 0
  · rw [h, decide_eq_true (k.1 h)]; rfl
  · rw [decide_eq_false (fun hh => h (k.2 hh))]; simpa using h

def Sm (x : Int) : Prop := -100000000 ≤ x ∧ x ≤ 100000000

theorem r1 {a b n : Int} (h : a = 0) : (n == b) = matchB a b n := by
  unfold matchB; rw [if_pos (.inl h)]; rfl
theorem r2 {a b n : Int} (h : (a == 0) = true ∨ (n == b) = true) : (n == b) = matchB a b n := by
  simp only [beq_iff_eq] at h
  unfold matchB; rw [if_pos h]; rfl
theorem r3 {a b n : Int} (h1 : (a == 0) = false ∧ (n == b) = false) (h2 : (!decide (b < n) == decide (0 < a)) = true) : false = matchB a b n := by
  simp only [beq_eq_false_iff_ne, ne_eq] at h1
  unfold matchB
  rw [if_neg (fun h => h.elim h1.1 h1.2)]
  revert h2
  generalize decide (b < n) = x; generalize decide (0 < a) = y
  intro h2
  cases x <;> cases y <;> simp at h2 <;> rfl
theorem r4 {a b n u v : Int} (h1 : (a == 0) = false ∧ (n == b) = false) (h2 : (!decide (b < n) == decide (0 < a)) = false) (hu : u = n - b ∨ u = -(n - b)) (hv : v = a ∨ v = -a) (h0 : 0 ≤ u) (hp : 0 < v) : (u.tmod v == 0) = matchB a b n := by
  rw [rem_abs u v a (n - b) hu hv h0 hp]
  simp only [beq_eq_false_iff_ne, ne_eq] at h1
  unfold matchB
  rw [if_neg (fun h => h.elim h1.1 h1.2)]
  revert h2
  generalize decide (b < n) = x; generalize decide (0 < a) = y
  intro h2
  cases x <;> cases y <;> simp at h2 <;> rfl
theorem d1 {a : Int} (ha : Sm a) (h : a < 0) (h0 : IntKind.u64.wrap (-IntKind.u64.wrap a) = 0) : False := by
  unfold Sm at ha; simp only [wrapU] at h0; omega
theorem d2 {a : Int} (ha : Sm a) (h : 0 ≤ a) (hn : ¬ a = 0) (h0 : IntKind.u64.wrap a = 0) : False := by
  unfold Sm at ha; simp only [wrapU] at h0; omega
theorem wA {a : Int} (ha : Sm a) (h : a < 0) : IntKind.u64.wrap (-IntKind.u64.wrap a) = -a := by
  unfold Sm at ha; simp only [wrapU]; omega
theorem wB {a : Int} (ha : Sm a) (h : 0 ≤ a) : IntKind.u64.wrap a = a := by
  unfold Sm at ha; simp only [wrapU]; omega
theorem wC {b n : Int} (hb : Sm b) (hn : Sm n) (h : n < b) : IntKind.u64.wrap (-IntKind.u64.wrap (IntKind.u64.wrap n - IntKind.u64.wrap b)) = -(n - b) := by
  unfold Sm at hb hn; simp only [wrapU]; omega
theorem wD {b n : Int} (hb : Sm b) (hn : Sm n) (h : b ≤ n) : IntKind.u64.wrap (IntKind.u64.wrap n - IntKind.u64.wrap b) = n - b := by
  unfold Sm at hb hn; simp only [wrapU]; omega
theorem s1 {a b n : Int} (ha : Sm a) (hb : Sm b) (hn : Sm n) (h1 : (a == 0) = false ∧ (n == b) = false) (h2 : (!decide (b < n) == decide (0 < a)) = false) (h3 : a < 0) (h4 : n < b) :
    ((IntKind.u64.wrap (-IntKind.u64.wrap (IntKind.u64.wrap n - IntKind.u64.wrap b))).tmod (IntKind.u64.wrap (-IntKind.u64.wrap a)) == 0) = matchB a b n := by
  rw [wA ha h3, wC hb hn h4]
  exact r4 h1 h2 (.inr rfl) (.inr rfl) (by omega) (by omega)
theorem s2 {a b n : Int} (ha : Sm a) (hb : Sm b) (hn : Sm n) (h1 : (a == 0) = false ∧ (n == b) = false) (h2 : (!decide (b < n) == decide (0 < a)) = false) (h3 : a < 0) (h4 : b ≤ n) :
    ((IntKind.u64.wrap (IntKind.u64.wrap n - IntKind.u64.wrap b)).tmod (IntKind.u64.wrap (-IntKind.u64.wrap a)) == 0) = matchB a b n := by
  rw [wA ha h3, wD hb hn h4]
  exact r4 h1 h2 (.inl rfl) (.inr rfl) (by omega) (by omega)
theorem s3 {a b n : Int} (ha : Sm a) (hb : Sm b) (hn : Sm n) (h1 : (a == 0) = false ∧ (n == b) = false) (h2 : (!decide (b < n) == decide (0 < a)) = false) (h3 : 0 ≤ a) (h4 : n < b) :
    ((IntKind.u64.wrap (-IntKind.u64.wrap (IntKind.u64.wrap n - IntKind.u64.wrap b))).tmod (IntKind.u64.wrap a) == 0) = matchB a b n := by
  rw [wB ha h3, wC hb hn h4]
  have h5 := h1.1
  simp only [beq_eq_false_iff_ne, ne_eq] at h5
  exact r4 h1 h2 (.inr rfl) (.inl rfl) (by omega) (by omega)
theorem s4 {a b n : Int} (ha : Sm a) (hb : Sm b) (hn : Sm n) (h1 : (a == 0) = false ∧ (n == b) = false) (h2 : (!decide (b < n) == decide (0 < a)) = false) (h3 : 0 ≤ a) (h4 : b ≤ n) :
    ((IntKind.u64.wrap (IntKind.u64.wrap n - IntKind.u64.wrap b)).tmod (IntKind.u64.wrap a) == 0) = matchB a b n := by
  rw [wB ha h3, wD hb hn h4]
  have h5 := h1.1
  simp only [beq_eq_false_iff_ne, ne_eq] at h5
  exact r4 h1 h2 (.inl rfl) (.inl rfl) (by omega) (by omega)

theorem match_c (a b n : Int) (ha : Sm a) (hb : Sm b) (hn : Sm n) (w : World) :
    Calls Tryd.prog 11 #[.int .i64 a, .int .i64 b, .int .i64 n] w fun e w' => e = .returned (.bool (matchB a b n)) ∧ w' = w := by
  go_enter Tryd.func11, Tryd.ntmps11
  go_wp2
  all_goals try go_ret
  all_goals try (refine ⟨?_, rfl⟩)
  all_goals try (show Ending.returned (.bool _) = _; congr 2)
  all_goals first
    | (with_reducible apply r1; assumption; done)
    | (with_reducible apply r2; assumption; done)
    | (with_reducible apply r3 <;> assumption; done)
    | (with_reducible apply s1 <;> assumption; done)
    | (with_reducible apply s2 <;> assumption; done)
    | (with_reducible apply s3 <;> assumption; done)
    | (with_reducible apply s4 <;> assumption; done)
    | (exfalso; with_reducible apply d1 (a := a) <;> assumption; done)
    | (exfalso; with_reducible apply d2 (a := a) <;> assumption; done)

theorem match_inf (a b n : Int) (t : Bool) (ha : Sm a) (hb : Sm b) (hn : Sm n) (ht : matchB a b n = t) (w : World) :
    Calls Tryd.prog 11 #[.int .i64 a, .int .i64 b, .int .i64 n] w fun e w' => e = .returned (.bool t) ∧ w' = w := by
  subst ht; exact match_c a b n ha hb hn w
end Go.Proofs.YtalfjpfpfeddiaaDoor.Mat
