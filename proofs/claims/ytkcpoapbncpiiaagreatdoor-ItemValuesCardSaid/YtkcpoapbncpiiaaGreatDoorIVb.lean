/- fleuronlaw16.ItemValues returns true for all arguments, and leaves what was there. -/
import Derived.Test.YtkcpoapbncpiiaaGreatDoorIVa
import Derived.Test.YtkcpoapbncpiiaaGreatDoorPE
namespace Go.Proofs.YtkcpoapbncpiiaaGreatDoor.Num
open Go Go.RowKit
theorem intV_bounds (l : List UInt8) : -2147483648 ≤ intV l ∧ intV l ≤ 2147483647 := by
  cases l with
  | nil => simp [intV]
  | cons c r =>
    rw [intV]
    split
    · omega
    · split <;> omega
theorem numV_false {l : List UInt8} (h : (numV l).2 = false) : (numV l).1 = 0 := by
  obtain ⟨I, hI⟩ : ∃ I, scan wh l 0 = I := ⟨_, rfl⟩
  obtain ⟨K, hK⟩ : ∃ K, signed l I = K := ⟨_, rfl⟩
  obtain ⟨J, hJ⟩ : ∃ J, scan dg l K = J := ⟨_, rfl⟩
  have hge := scan_ge dg l K
  have e : numV l = (intV ((l.drop I).take (J - I)), decide (K < J)) := by unfold numV; rw [hI, hK, hJ]
  rw [e] at h ⊢
  have hJK : J = K := by simp at h; omega
  subst hJK
  show intV _ = 0
  rcases signed_cases hK with e1 | ⟨e1, c, hc, hs⟩
  · rw [e1, Nat.sub_self]; simp [intV]
  · rw [e1, drop_take_succ hc (Nat.le_refl _), Nat.sub_self, List.take_zero, intV]
    rcases hs with hs | hs
    · rw [if_neg (by omega), if_pos hs]; simp [val]; omega
    · rw [if_pos hs]; simp [val]; omega
abbrev GoodV (v : ByteArray) (a b : Int) (W : World) : Prop := Calls Tryz.prog 6 #[.string v, .int .i64 a, .int .i64 b] W fun e w' => e = .returned (.bool true) ∧ Below W.heap.size W w'
theorem values_out (v : ByteArray) (a b : Int) (h : 100 < v.size) {W : World} (hT : HM.Tabs W) : GoodV v a b W := by
  letI : HM.Amb := HM.Amb.none
  have aw := HM.awake_c hT
  have h' : (100 : Int) < (v.size : Int) := by omega
  go_enter Tryz.func6, Tryz.ntmps6
  go_wp2_with (go_at_call 7; (with_reducible refine aw.mono ?_); rintro e w' ⟨rfl, hb⟩)
  all_goals first
    | (exfalso; omega)
    | (go_ret; exact ⟨rfl, hb⟩)
theorem values_in (v : ByteArray) (a b : Int) (h : v.size ≤ 100) {W : World} (hT : HM.Tabs W) : GoodV v a b W := by
  letI : HM.Amb := HM.Amb.of (numV v.data.toList).1 v h
  have es : (HM.Amb.of (numV v.data.toList).1 v h).str 100 = v := rfl
  have en : (HM.Amb.of (numV v.data.toList).1 v h).num 0 = (numV v.data.toList).1 := rfl
  have K : HM.Known (numV v.data.toList).2 false := ⟨by
      show HM.VR HM.Ren.nil (HM.numT (numV v.data.toList).2 false) (.int .i64 (numV v.data.toList).1)
      cases hok : (numV v.data.toList).2 with
      | false => rw [numV_false hok]; exact .int _ _
      | true =>
        have hb := intV_bounds ((v.data.toList.drop (scan wh v.data.toList 0)).take (scan dg v.data.toList (signed v.data.toList (scan wh v.data.toList 0)) - scan wh v.data.toList 0))
        refine .lin _ _ _ _ (fun t ht => ?_) ?_
        · simp only [List.mem_singleton] at ht; subst ht
          exact hb
        · simp only [HM.sumR, HM.valR]
          rw [en]; omega, rfl, fun h => by cases h⟩
  obtain ⟨j, hj, ej⟩ : ∃ j : Nat, j < 3 ∧ a % (3 : Nat) = (j : Int) := ⟨(a % 3).toNat, by omega, by omega⟩
  obtain ⟨k, hk, ek⟩ : ∃ k : Nat, k < 4 ∧ b % (4 : Nat) = (k : Int) := ⟨(b % 4).toNat, by omega, by omega⟩
  exact HM.law_cE K (HM.vAll _ j k hj hk) (HM.VRs.cons (.opq 100) (HM.VRs.cons (.mod 3 j a (by decide) ej) (HM.VRs.cons (.mod 4 k b (by decide) ek) (HM.VRs.nil _)))) hT
theorem values_all (v : ByteArray) (a b : Int) {W : World} (hT : HM.Tabs W) : GoodV v a b W := by
  by_cases h : v.size ≤ 100
  · exact values_in v a b h hT
  · exact values_out v a b (by omega) hT
end Go.Proofs.YtkcpoapbncpiiaaGreatDoor.Num
