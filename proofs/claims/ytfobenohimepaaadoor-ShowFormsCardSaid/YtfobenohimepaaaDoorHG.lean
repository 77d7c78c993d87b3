/- The heap machine: a whole number told by its decimal digits. -/
import Derived.Test.YtfobenohimepaaaDoorPE
namespace Go.Proofs.YtfobenohimepaaaDoor.HM
open Go Go.RowKit
variable [E : Amb]
def digs : Nat → Int → List Int
  | 0, _ => []
  | L + 1, e => e % 10 :: digs L (e / 10)
omit [E : Amb] in
theorem digs_length : ∀ (L : Nat) (e : Int), (digs L e).length = L
  | 0, _ => rfl
  | L + 1, e => by rw [digs, List.length_cons, digs_length L]
def terms (lo hi : Int) : Nat → Nat → Int → List LT
  | 0, _, _ => []
  | 1, i, s => [⟨s, i, lo, hi⟩]
  | L + 2, i, s => ⟨s, i, 0, 9⟩ :: terms lo hi (L + 1) (i + 1) (s * 10)
def topD : Nat → Int → Int
  | 0, e => e
  | 1, e => e
  | L + 2, e => topD (L + 1) (e / 10)
theorem terms_ok {ns : List Int} (hE : ∀ i x, ns[i]? = some x → E.num i = x) {lo hi : Int} (hhi : hi ≤ 9) : ∀ (L M i : Nat) (s e : Int), L < M → ns.drop i = digs M e → 0 ≤ e → lo ≤ topD (L + 1) e → topD (L + 1) e ≤ hi →
    OkS Ren.nil (terms lo hi (L + 1) i s) ∧ sumR Ren.nil (terms lo hi (L + 1) i s) = s * e := by
  intro L
  induction L with
  | zero =>
    intro M i s e hM hd he h1 h2
    have h1 : lo ≤ e := h1
    have h2 : e ≤ hi := h2
    obtain ⟨M', rfl⟩ : ∃ M', M = M' + 1 := ⟨M - 1, by omega⟩
    have hg : ns[i]? = some e := by
      have := congrArg (·[0]?) hd
      simp only [List.getElem?_drop, Nat.add_zero, digs, List.getElem?_cons_zero] at this
      rw [this]; congr 1; omega
    have hv := hE _ _ hg
    refine ⟨.cons (show LT.ok Ren.nil ⟨s, i, lo, hi⟩ from ⟨by rw [hv]; exact h1, by rw [hv]; exact h2⟩) .nil, ?_⟩
    show s * E.num i + 0 = s * e
    rw [hv]; omega
  | succ L ih =>
    intro M i s e hM hd he h1 h2
    obtain ⟨M', rfl⟩ : ∃ M', M = M' + 1 := ⟨M - 1, by omega⟩
    have hg : ns[i]? = some (e % 10) := by
      have := congrArg (·[0]?) hd
      simpa only [List.getElem?_drop, Nat.add_zero, digs, List.getElem?_cons_zero] using this
    have hd2 : ns.drop (i + 1) = digs M' (e / 10) := by
      have := congrArg (List.drop 1) hd
      simpa only [List.drop_drop, digs, List.drop_succ_cons, List.drop_zero] using this
    obtain ⟨k1, k2⟩ := ih M' (i + 1) (s * 10) (e / 10) (by omega) hd2 (by omega) h1 h2
    have hv := hE _ _ hg
    refine ⟨.cons (show LT.ok Ren.nil ⟨s, i, 0, 9⟩ from ⟨by rw [hv]; show (0 : Int) ≤ e % 10; omega, by rw [hv]; show e % 10 ≤ (9 : Int); omega⟩) k1, ?_⟩
    show s * E.num i + sumR Ren.nil (terms lo hi (L + 1) (i + 1) (s * 10)) = s * e
    rw [hv, k2, Int.mul_assoc, ← Int.mul_add]
    congr 1; omega
theorem VR.digits {e : Int} (hE : ∀ i x, (digs 10 e)[i]? = some x → E.num i = x) {k : IntKind} {c s n lo hi : Int} {L : Nat} (hL : L < 10) (hhi : hi ≤ 9) (he : 0 ≤ e) (h1 : lo ≤ topD (L + 1) e) (h2 : topD (L + 1) e ≤ hi) (hn : n = c + s * e) :
    VR Ren.nil (.lin k c (terms lo hi (L + 1) 0 s)) (.int k n) := by
  obtain ⟨k1, k2⟩ := terms_ok (ns := digs 10 e) hE hhi L 10 0 s e hL rfl he h1 h2
  exact .lin k c _ n k1 (by rw [k2]; exact hn)
end Go.Proofs.YtfobenohimepaaaDoor.HM
