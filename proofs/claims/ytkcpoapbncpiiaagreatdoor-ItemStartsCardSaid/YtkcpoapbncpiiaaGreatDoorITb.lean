/- fleuronlaw16.ItemStarts returns true for all arguments, and leaves what was there. -/
import Derived.Test.YtkcpoapbncpiiaaGreatDoorITa1
import Derived.Test.YtkcpoapbncpiiaaGreatDoorITa2
import Derived.Test.YtkcpoapbncpiiaaGreatDoorITa3
import Derived.Test.YtkcpoapbncpiiaaGreatDoorITa4
import Derived.Test.YtkcpoapbncpiiaaGreatDoorPE
namespace Go.Proofs.YtkcpoapbncpiiaaGreatDoor.HM
theorem sAll (n : Nat) (hn : n ≤ 15) (a b c : Bool) : S1 n a b c = true := by
  have : n = 0 ∨ n = 1 ∨ n = 2 ∨ n = 3 ∨ n = 4 ∨ n = 5 ∨ n = 6 ∨ n = 7 ∨ n = 8 ∨ n = 9 ∨ n = 10 ∨ n = 11 ∨ n = 12 ∨ n = 13 ∨ n = 14 ∨ n = 15 := by omega
  rcases this with rfl | rfl | rfl | rfl | rfl | rfl | rfl | rfl | rfl | rfl | rfl | rfl | rfl | rfl | rfl | rfl <;> cases a <;> cases b <;> cases c
  · exact s0_000
  · exact s0_001
  · exact s0_010
  · exact s0_011
  · exact s0_100
  · exact s0_101
  · exact s0_110
  · exact s0_111
  · exact s1_000
  · exact s1_001
  · exact s1_010
  · exact s1_011
  · exact s1_100
  · exact s1_101
  · exact s1_110
  · exact s1_111
  · exact s2_000
  · exact s2_001
  · exact s2_010
  · exact s2_011
  · exact s2_100
  · exact s2_101
  · exact s2_110
  · exact s2_111
  · exact s3_000
  · exact s3_001
  · exact s3_010
  · exact s3_011
  · exact s3_100
  · exact s3_101
  · exact s3_110
  · exact s3_111
  · exact s4_000
  · exact s4_001
  · exact s4_010
  · exact s4_011
  · exact s4_100
  · exact s4_101
  · exact s4_110
  · exact s4_111
  · exact s5_000
  · exact s5_001
  · exact s5_010
  · exact s5_011
  · exact s5_100
  · exact s5_101
  · exact s5_110
  · exact s5_111
  · exact s6_000
  · exact s6_001
  · exact s6_010
  · exact s6_011
  · exact s6_100
  · exact s6_101
  · exact s6_110
  · exact s6_111
  · exact s7_000
  · exact s7_001
  · exact s7_010
  · exact s7_011
  · exact s7_100
  · exact s7_101
  · exact s7_110
  · exact s7_111
  · exact s8_000
  · exact s8_001
  · exact s8_010
  · exact s8_011
  · exact s8_100
  · exact s8_101
  · exact s8_110
  · exact s8_111
  · exact s9_000
  · exact s9_001
  · exact s9_010
  · exact s9_011
  · exact s9_100
  · exact s9_101
  · exact s9_110
  · exact s9_111
  · exact s10_000
  · exact s10_001
  · exact s10_010
  · exact s10_011
  · exact s10_100
  · exact s10_101
  · exact s10_110
  · exact s10_111
  · exact s11_000
  · exact s11_001
  · exact s11_010
  · exact s11_011
  · exact s11_100
  · exact s11_101
  · exact s11_110
  · exact s11_111
  · exact s12_000
  · exact s12_001
  · exact s12_010
  · exact s12_011
  · exact s12_100
  · exact s12_101
  · exact s12_110
  · exact s12_111
  · exact s13_000
  · exact s13_001
  · exact s13_010
  · exact s13_011
  · exact s13_100
  · exact s13_101
  · exact s13_110
  · exact s13_111
  · exact s14_000
  · exact s14_001
  · exact s14_010
  · exact s14_011
  · exact s14_100
  · exact s14_101
  · exact s14_110
  · exact s14_111
  · exact s15_000
  · exact s15_001
  · exact s15_010
  · exact s15_011
  · exact s15_100
  · exact s15_101
  · exact s15_110
  · exact s15_111
end Go.Proofs.YtkcpoapbncpiiaaGreatDoor.HM
namespace Go.Proofs.YtkcpoapbncpiiaaGreatDoor.Num
open Go Go.RowKit
abbrev GoodS (n s : Int) (a b c : Bool) (W : World) : Prop := Calls Tryz.prog 3 #[.int .i64 n, .int .i64 s, .bool a, .bool b, .bool c] W fun e w' => e = .returned (.bool true) ∧ Below W.heap.size W w'
theorem starts_out (n s : Int) (a b c : Bool) (h : n < 0 ∨ (0 ≤ n ∧ 15 < n) ∨ (0 ≤ n ∧ n ≤ 15 ∧ s < -1073741824) ∨ (0 ≤ n ∧ n ≤ 15 ∧ -1073741824 ≤ s ∧ 1073741824 < s)) {W : World} (hT : HM.Tabs W) : GoodS n s a b c W := by
  letI : HM.Amb := HM.Amb.none
  have aw := HM.awake_c hT
  rcases h with h | ⟨h1, h2⟩ | ⟨h1, h2, h3⟩ | ⟨h1, h2, h3, h4⟩
  all_goals
    go_enter Tryz.func3, Tryz.ntmps3
    go_wp2_with (go_at_call 7; (with_reducible refine aw.mono ?_); rintro e w' ⟨rfl, hb⟩)
    all_goals first
      | (exfalso; omega)
      | (go_ret; exact ⟨rfl, hb⟩)
theorem starts_in (n : Nat) (s : Int) (a b c : Bool) (hn : n ≤ 15) (h1 : -1073741824 ≤ s) (h2 : s ≤ 1073741824) {W : World} (hT : HM.Tabs W) : GoodS n s a b c W := by
  have hl : (⟨(dec s).toArray⟩ : ByteArray).size ≤ 100 := by
    have := dec_len s (by omega) (by omega)
    have e : (⟨(dec s).toArray⟩ : ByteArray).size = (dec s).length := by show (dec s).toArray.size = _; simp
    omega
  letI : HM.Amb := HM.Amb.of s ⟨(dec s).toArray⟩ hl
  have en : (HM.Amb.of s ⟨(dec s).toArray⟩ hl).num 0 = s := rfl
  have e0 : numV (dec s) = (max (min s 2147483647) (-2147483648), true) := by
    have := numV_dec (b := []) (fun x hx => by cases hx) s (t := []) (fun x hx => by cases hx)
    simpa using this
  have e1 : numV (dec s) = (s, true) := by rw [e0]; congr 1; omega
  have es : ((HM.Amb.of s ⟨(dec s).toArray⟩ hl).str 100).data.toList = dec s := by show (dec s).toArray.toList = dec s; simp
  have hlin : ∀ {ρ : HM.Ren}, HM.VR ρ (.lin .i64 0 [⟨1, 0, -1073741824, 1073741824⟩]) (.int .i64 s) := fun {ρ} => by
    refine .lin _ _ _ _ (fun t ht => ?_) ?_
    · simp only [List.mem_singleton] at ht; subst ht
      exact ⟨h1, h2⟩
    · simp only [HM.sumR, HM.valR]
      rw [en]; omega
  have K : HM.Known true true := ⟨by
      rw [es, e1]; exact hlin, by rw [es, e1], fun _ => ⟨⟨by rw [en]; omega, by rw [en]; omega⟩, by rw [en]; rfl⟩⟩
  exact HM.law_cE K (HM.sAll n hn a b c) (HM.VRs.cons (.int .i64 (Int.ofNat n)) (HM.VRs.cons hlin (HM.VRs.cons (.bool a) (HM.VRs.cons (.bool b) (HM.VRs.cons (.bool c) (HM.VRs.nil _)))))) hT
theorem starts_all (n s : Int) (a b c : Bool) {W : World} (hT : HM.Tabs W) : GoodS n s a b c W := by
  by_cases h : 0 ≤ n ∧ n ≤ 15 ∧ -1073741824 ≤ s ∧ s ≤ 1073741824
  · obtain ⟨h1, h2, h3, h4⟩ := h
    obtain ⟨m, rfl⟩ : ∃ m : Nat, n = (m : Int) := ⟨n.toNat, by omega⟩
    exact starts_in m s a b c (by omega) h3 h4 hT
  · exact starts_out n s a b c (by omega) hT
end Go.Proofs.YtkcpoapbncpiiaaGreatDoor.Num
