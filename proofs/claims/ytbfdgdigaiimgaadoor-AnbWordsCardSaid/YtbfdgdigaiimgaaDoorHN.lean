/- The heap machine: runs that begin with numbers that nobody knows. -/
import Derived.Test.YtbfdgdigaiimgaaDoorH11
namespace Go.Proofs.YtbfdgdigaiimgaaDoor.HM
open Go Go.RowKit

/-- a place that stands for that number -/
def locOf (n : Int) : Loc := ⟨0, n.toNat, (-n).toNat⟩
theorem locOf_val (n : Int) : (locOf n).val = n := by unfold locOf Loc.val; simp only; omega

def numR (ns : List Int) : Ren := fun a => (ns[a]?).map locOf

theorem Rel.startN {Γ : Glob} {w : World} (hg : GlobOk Γ w.heap.size w) (hw : 0 < w.heap.size) (ns : List Int) : Rel Γ w.heap.size ⟨w, ns.length, numR ns, []⟩ (numR ns) (Hp.nums ns.length) w :=
  Rel.startK hg ns.length (numR ns) (fun a ha => by unfold numR; rw [List.getElem?_eq_none ha]; rfl) fun a L h => by
    unfold numR at h
    obtain ⟨n, _, rfl⟩ := Option.map_eq_some_iff.1 h
    exact hw

theorem runs_callsN {P : Program} {Γ : Glob} {f : FuncId} {spec : Spec} (hs : Sound P Γ f spec) {args : List V} {r : V} {h' : Hp} (ns : List Int) (hr : spec args (Hp.nums ns.length) = some (r, h')) (hrd : r.isData = true)
    {w : World} {us : Array Value} (hg : GlobOk Γ w.heap.size w) (hw : 0 < w.heap.size) (hv : VRs (numR ns) args us.toList) :
    Calls P f us w (fun e w' => ∃ v, e = .returned v ∧ VR (fun _ => none) r v ∧ Below w.heap.size w w') := by
  refine (hs _ _ _ _ hr w.heap.size _ _ w us (Rel.startN hg hw ns) hv).mono ?_
  rintro e w' ⟨ρ', v, rfl, _, k1, k2⟩
  exact ⟨v, rfl, isData_none_all _ _ _ k2 hrd, k1.below⟩

theorem numR_val {ns : List Int} {a : Nat} {n : Int} (h : ns[a]? = some n) : valR (numR ns) a = n := by
  unfold valR numR
  rw [h]
  exact locOf_val n

theorem numR_ok {ns : List Int} {t : LT} {n : Int} (h : ns[t.a]? = some n) (h1 : t.lo ≤ n) (h2 : n ≤ t.hi) : t.ok (numR ns) := by
  refine ⟨locOf n, ?_, ?_, ?_⟩
  · unfold numR; rw [h]; rfl
  · rw [locOf_val]; exact h1
  · rw [locOf_val]; exact h2

/-- c, and so much of the first number -/
theorem VR.lin1 {ns : List Int} {k : IntKind} {c n m x lo hi : Int} {a : Nat} (h : ns[a]? = some x) (h1 : lo ≤ x) (h2 : x ≤ hi) (hn : n = c + m * x) : VR (numR ns) (.lin k c [⟨m, a, lo, hi⟩]) (.int k n) := by
  refine .lin k c _ n (fun t ht => ?_) ?_
  · simp only [List.mem_singleton] at ht; subst ht
    exact numR_ok (t := ⟨m, a, lo, hi⟩) h h1 h2
  · simp only [sumR, numR_val h]; omega

theorem VR.lin2 {ns : List Int} {k : IntKind} {c n m x lo hi m2 x2 lo2 hi2 : Int} {a a2 : Nat} (h : ns[a]? = some x) (h1 : lo ≤ x) (h2 : x ≤ hi) (g : ns[a2]? = some x2) (g1 : lo2 ≤ x2) (g2 : x2 ≤ hi2) (hn : n = c + m * x + m2 * x2) :
    VR (numR ns) (.lin k c [⟨m, a, lo, hi⟩, ⟨m2, a2, lo2, hi2⟩]) (.int k n) := by
  refine .lin k c _ n (fun t ht => ?_) ?_
  · simp only [List.mem_cons, List.not_mem_nil, or_false] at ht
    rcases ht with rfl | rfl
    · exact numR_ok (t := ⟨m, a, lo, hi⟩) h h1 h2
    · exact numR_ok (t := ⟨m2, a2, lo2, hi2⟩) g g1 g2
  · simp only [sumR, numR_val h, numR_val g]; omega

end Go.Proofs.YtbfdgdigaiimgaaDoor.HM
