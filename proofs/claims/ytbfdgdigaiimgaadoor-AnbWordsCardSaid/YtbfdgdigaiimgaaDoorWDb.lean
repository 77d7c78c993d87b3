/- fleuronlaw5.AnbWords returns true for all numbers, and leaves what was there. -/
import Derived.Test.YtbfdgdigaiimgaaDoorWDa1
import Derived.Test.YtbfdgdigaiimgaaDoorWDa2
import Derived.Test.YtbfdgdigaiimgaaDoorWDa3
import Derived.Test.YtbfdgdigaiimgaaDoorWDa4
import Derived.Test.YtbfdgdigaiimgaaDoorWDa5
import Derived.Test.YtbfdgdigaiimgaaDoorWDa6
import Derived.Test.YtbfdgdigaiimgaaDoorWDa7
import Derived.Test.YtbfdgdigaiimgaaDoorWDa8
import Derived.WalkKit
import Derived.ProofKit
import Derived.OpenShut
namespace Go.Proofs.YtbfdgdigaiimgaaDoor.Sel
open Go Go.RowKit
theorem words_out (n k : Int) (h : ¬ (-2147483648 ≤ n ∧ n < 2147483648)) {W : World} (hT : HM.Tabs W) : Calls Tryd.prog 4 #[.int .i64 n, .int .i64 k] W fun e w' => e = .returned (.bool true) ∧ Below W.heap.size W w' := by
  have aw := HM.awake_c hT
  go_enter Tryd.func4, Tryd.ntmps4
  go_wp2_with (first | (go_at_call 6; refine aw.mono ?_; rintro e w' ⟨rfl, hb⟩))
  all_goals first
    | (exfalso; omega)
    | (go_ret; exact ⟨rfl, hb⟩)

abbrev Good (n k : Int) (W : World) : Prop := Calls Tryd.prog 4 #[.int .i64 n, .int .i64 k] W fun e w' => e = .returned (.bool true) ∧ Below W.heap.size W w'
theorem key {n k e : Int} {a : HM.V} {i : Nat} {W : World} (hT : HM.Tabs W) (ha : HM.VR (HM.numR (HM.digs 10 e)) a (.int .i64 n)) (hi : k % 12 = (i : Int)) (h : HM.lawRunN 4 [a, .mod 12 i] = true) : Good n k W :=
  HM.law_cN e h (HM.VRs.cons ha (HM.VRs.cons (.mod 12 i k hi) (HM.VRs.nil _))) hT
theorem shape_z (k : Int) {W : World} (hT : HM.Tabs W) : Good 0 k W := by
  have h : k % 12 = 0 ∨ k % 12 = 1 ∨ k % 12 = 2 ∨ k % 12 = 3 ∨ k % 12 = 4 ∨ k % 12 = 5 ∨ k % 12 = 6 ∨ k % 12 = 7 ∨ k % 12 = 8 ∨ k % 12 = 9 ∨ k % 12 = 10 ∨ k % 12 = 11 := by omega
  rcases h with h | h | h | h | h | h | h | h | h | h | h | h
  · exact key (e := 0) hT (.int .i64 0) h HM.wz_0
  · exact key (e := 0) hT (.int .i64 0) h HM.wz_1
  · exact key (e := 0) hT (.int .i64 0) h HM.wz_2
  · exact key (e := 0) hT (.int .i64 0) h HM.wz_3
  · exact key (e := 0) hT (.int .i64 0) h HM.wz_4
  · exact key (e := 0) hT (.int .i64 0) h HM.wz_5
  · exact key (e := 0) hT (.int .i64 0) h HM.wz_6
  · exact key (e := 0) hT (.int .i64 0) h HM.wz_7
  · exact key (e := 0) hT (.int .i64 0) h HM.wz_8
  · exact key (e := 0) hT (.int .i64 0) h HM.wz_9
  · exact key (e := 0) hT (.int .i64 0) h HM.wz_10
  · exact key (e := 0) hT (.int .i64 0) h HM.wz_11
theorem shape_p0 (n k : Int) (h0 : 1 ≤ n ∧ n ≤ 9) {W : World} (hT : HM.Tabs W) : Good n k W := by
  have hv : HM.VR (HM.numR (HM.digs 10 (n - 0))) (.lin .i64 0 (HM.terms 1 9 1 0 1)) (.int .i64 n) :=
    HM.VR.digits (L := 0) (by decide) (by decide) (by omega) (by simp only [HM.topD]; omega) (by simp only [HM.topD]; omega) (by omega)
  have h : k % 12 = 0 ∨ k % 12 = 1 ∨ k % 12 = 2 ∨ k % 12 = 3 ∨ k % 12 = 4 ∨ k % 12 = 5 ∨ k % 12 = 6 ∨ k % 12 = 7 ∨ k % 12 = 8 ∨ k % 12 = 9 ∨ k % 12 = 10 ∨ k % 12 = 11 := by omega
  rcases h with h | h | h | h | h | h | h | h | h | h | h | h
  · exact key hT hv h HM.wp0_0
  · exact key hT hv h HM.wp0_1
  · exact key hT hv h HM.wp0_2
  · exact key hT hv h HM.wp0_3
  · exact key hT hv h HM.wp0_4
  · exact key hT hv h HM.wp0_5
  · exact key hT hv h HM.wp0_6
  · exact key hT hv h HM.wp0_7
  · exact key hT hv h HM.wp0_8
  · exact key hT hv h HM.wp0_9
  · exact key hT hv h HM.wp0_10
  · exact key hT hv h HM.wp0_11
theorem shape_p1 (n k : Int) (h0 : 10 ≤ n ∧ n ≤ 99) {W : World} (hT : HM.Tabs W) : Good n k W := by
  have hv : HM.VR (HM.numR (HM.digs 10 (n - 0))) (.lin .i64 0 (HM.terms 1 9 2 0 1)) (.int .i64 n) :=
    HM.VR.digits (L := 1) (by decide) (by decide) (by omega) (by simp only [HM.topD]; omega) (by simp only [HM.topD]; omega) (by omega)
  have h : k % 12 = 0 ∨ k % 12 = 1 ∨ k % 12 = 2 ∨ k % 12 = 3 ∨ k % 12 = 4 ∨ k % 12 = 5 ∨ k % 12 = 6 ∨ k % 12 = 7 ∨ k % 12 = 8 ∨ k % 12 = 9 ∨ k % 12 = 10 ∨ k % 12 = 11 := by omega
  rcases h with h | h | h | h | h | h | h | h | h | h | h | h
  · exact key hT hv h HM.wp1_0
  · exact key hT hv h HM.wp1_1
  · exact key hT hv h HM.wp1_2
  · exact key hT hv h HM.wp1_3
  · exact key hT hv h HM.wp1_4
  · exact key hT hv h HM.wp1_5
  · exact key hT hv h HM.wp1_6
  · exact key hT hv h HM.wp1_7
  · exact key hT hv h HM.wp1_8
  · exact key hT hv h HM.wp1_9
  · exact key hT hv h HM.wp1_10
  · exact key hT hv h HM.wp1_11
theorem shape_p2 (n k : Int) (h0 : 100 ≤ n ∧ n ≤ 999) {W : World} (hT : HM.Tabs W) : Good n k W := by
  have hv : HM.VR (HM.numR (HM.digs 10 (n - 0))) (.lin .i64 0 (HM.terms 1 9 3 0 1)) (.int .i64 n) :=
    HM.VR.digits (L := 2) (by decide) (by decide) (by omega) (by simp only [HM.topD]; omega) (by simp only [HM.topD]; omega) (by omega)
  have h : k % 12 = 0 ∨ k % 12 = 1 ∨ k % 12 = 2 ∨ k % 12 = 3 ∨ k % 12 = 4 ∨ k % 12 = 5 ∨ k % 12 = 6 ∨ k % 12 = 7 ∨ k % 12 = 8 ∨ k % 12 = 9 ∨ k % 12 = 10 ∨ k % 12 = 11 := by omega
  rcases h with h | h | h | h | h | h | h | h | h | h | h | h
  · exact key hT hv h HM.wp2_0
  · exact key hT hv h HM.wp2_1
  · exact key hT hv h HM.wp2_2
  · exact key hT hv h HM.wp2_3
  · exact key hT hv h HM.wp2_4
  · exact key hT hv h HM.wp2_5
  · exact key hT hv h HM.wp2_6
  · exact key hT hv h HM.wp2_7
  · exact key hT hv h HM.wp2_8
  · exact key hT hv h HM.wp2_9
  · exact key hT hv h HM.wp2_10
  · exact key hT hv h HM.wp2_11
theorem shape_p3 (n k : Int) (h0 : 1000 ≤ n ∧ n ≤ 9999) {W : World} (hT : HM.Tabs W) : Good n k W := by
  have hv : HM.VR (HM.numR (HM.digs 10 (n - 0))) (.lin .i64 0 (HM.terms 1 9 4 0 1)) (.int .i64 n) :=
    HM.VR.digits (L := 3) (by decide) (by decide) (by omega) (by simp only [HM.topD]; omega) (by simp only [HM.topD]; omega) (by omega)
  have h : k % 12 = 0 ∨ k % 12 = 1 ∨ k % 12 = 2 ∨ k % 12 = 3 ∨ k % 12 = 4 ∨ k % 12 = 5 ∨ k % 12 = 6 ∨ k % 12 = 7 ∨ k % 12 = 8 ∨ k % 12 = 9 ∨ k % 12 = 10 ∨ k % 12 = 11 := by omega
  rcases h with h | h | h | h | h | h | h | h | h | h | h | h
  · exact key hT hv h HM.wp3_0
  · exact key hT hv h HM.wp3_1
  · exact key hT hv h HM.wp3_2
  · exact key hT hv h HM.wp3_3
  · exact key hT hv h HM.wp3_4
  · exact key hT hv h HM.wp3_5
  · exact key hT hv h HM.wp3_6
  · exact key hT hv h HM.wp3_7
  · exact key hT hv h HM.wp3_8
  · exact key hT hv h HM.wp3_9
  · exact key hT hv h HM.wp3_10
  · exact key hT hv h HM.wp3_11
theorem shape_p4 (n k : Int) (h0 : 10000 ≤ n ∧ n ≤ 99999) {W : World} (hT : HM.Tabs W) : Good n k W := by
  have hv : HM.VR (HM.numR (HM.digs 10 (n - 0))) (.lin .i64 0 (HM.terms 1 9 5 0 1)) (.int .i64 n) :=
    HM.VR.digits (L := 4) (by decide) (by decide) (by omega) (by simp only [HM.topD]; omega) (by simp only [HM.topD]; omega) (by omega)
  have h : k % 12 = 0 ∨ k % 12 = 1 ∨ k % 12 = 2 ∨ k % 12 = 3 ∨ k % 12 = 4 ∨ k % 12 = 5 ∨ k % 12 = 6 ∨ k % 12 = 7 ∨ k % 12 = 8 ∨ k % 12 = 9 ∨ k % 12 = 10 ∨ k % 12 = 11 := by omega
  rcases h with h | h | h | h | h | h | h | h | h | h | h | h
  · exact key hT hv h HM.wp4_0
  · exact key hT hv h HM.wp4_1
  · exact key hT hv h HM.wp4_2
  · exact key hT hv h HM.wp4_3
  · exact key hT hv h HM.wp4_4
  · exact key hT hv h HM.wp4_5
  · exact key hT hv h HM.wp4_6
  · exact key hT hv h HM.wp4_7
  · exact key hT hv h HM.wp4_8
  · exact key hT hv h HM.wp4_9
  · exact key hT hv h HM.wp4_10
  · exact key hT hv h HM.wp4_11
theorem shape_p5 (n k : Int) (h0 : 100000 ≤ n ∧ n ≤ 999999) {W : World} (hT : HM.Tabs W) : Good n k W := by
  have hv : HM.VR (HM.numR (HM.digs 10 (n - 0))) (.lin .i64 0 (HM.terms 1 9 6 0 1)) (.int .i64 n) :=
    HM.VR.digits (L := 5) (by decide) (by decide) (by omega) (by simp only [HM.topD]; omega) (by simp only [HM.topD]; omega) (by omega)
  have h : k % 12 = 0 ∨ k % 12 = 1 ∨ k % 12 = 2 ∨ k % 12 = 3 ∨ k % 12 = 4 ∨ k % 12 = 5 ∨ k % 12 = 6 ∨ k % 12 = 7 ∨ k % 12 = 8 ∨ k % 12 = 9 ∨ k % 12 = 10 ∨ k % 12 = 11 := by omega
  rcases h with h | h | h | h | h | h | h | h | h | h | h | h
  · exact key hT hv h HM.wp5_0
  · exact key hT hv h HM.wp5_1
  · exact key hT hv h HM.wp5_2
  · exact key hT hv h HM.wp5_3
  · exact key hT hv h HM.wp5_4
  · exact key hT hv h HM.wp5_5
  · exact key hT hv h HM.wp5_6
  · exact key hT hv h HM.wp5_7
  · exact key hT hv h HM.wp5_8
  · exact key hT hv h HM.wp5_9
  · exact key hT hv h HM.wp5_10
  · exact key hT hv h HM.wp5_11
theorem shape_p6 (n k : Int) (h0 : 1000000 ≤ n ∧ n ≤ 9999999) {W : World} (hT : HM.Tabs W) : Good n k W := by
  have hv : HM.VR (HM.numR (HM.digs 10 (n - 0))) (.lin .i64 0 (HM.terms 1 9 7 0 1)) (.int .i64 n) :=
    HM.VR.digits (L := 6) (by decide) (by decide) (by omega) (by simp only [HM.topD]; omega) (by simp only [HM.topD]; omega) (by omega)
  have h : k % 12 = 0 ∨ k % 12 = 1 ∨ k % 12 = 2 ∨ k % 12 = 3 ∨ k % 12 = 4 ∨ k % 12 = 5 ∨ k % 12 = 6 ∨ k % 12 = 7 ∨ k % 12 = 8 ∨ k % 12 = 9 ∨ k % 12 = 10 ∨ k % 12 = 11 := by omega
  rcases h with h | h | h | h | h | h | h | h | h | h | h | h
  · exact key hT hv h HM.wp6_0
  · exact key hT hv h HM.wp6_1
  · exact key hT hv h HM.wp6_2
  · exact key hT hv h HM.wp6_3
  · exact key hT hv h HM.wp6_4
  · exact key hT hv h HM.wp6_5
  · exact key hT hv h HM.wp6_6
  · exact key hT hv h HM.wp6_7
  · exact key hT hv h HM.wp6_8
  · exact key hT hv h HM.wp6_9
  · exact key hT hv h HM.wp6_10
  · exact key hT hv h HM.wp6_11
theorem shape_p7 (n k : Int) (h0 : 10000000 ≤ n ∧ n ≤ 99999999) {W : World} (hT : HM.Tabs W) : Good n k W := by
  have hv : HM.VR (HM.numR (HM.digs 10 (n - 0))) (.lin .i64 0 (HM.terms 1 9 8 0 1)) (.int .i64 n) :=
    HM.VR.digits (L := 7) (by decide) (by decide) (by omega) (by simp only [HM.topD]; omega) (by simp only [HM.topD]; omega) (by omega)
  have h : k % 12 = 0 ∨ k % 12 = 1 ∨ k % 12 = 2 ∨ k % 12 = 3 ∨ k % 12 = 4 ∨ k % 12 = 5 ∨ k % 12 = 6 ∨ k % 12 = 7 ∨ k % 12 = 8 ∨ k % 12 = 9 ∨ k % 12 = 10 ∨ k % 12 = 11 := by omega
  rcases h with h | h | h | h | h | h | h | h | h | h | h | h
  · exact key hT hv h HM.wp7_0
  · exact key hT hv h HM.wp7_1
  · exact key hT hv h HM.wp7_2
  · exact key hT hv h HM.wp7_3
  · exact key hT hv h HM.wp7_4
  · exact key hT hv h HM.wp7_5
  · exact key hT hv h HM.wp7_6
  · exact key hT hv h HM.wp7_7
  · exact key hT hv h HM.wp7_8
  · exact key hT hv h HM.wp7_9
  · exact key hT hv h HM.wp7_10
  · exact key hT hv h HM.wp7_11
theorem shape_p8 (n k : Int) (h0 : 100000000 ≤ n ∧ n ≤ 999999999) {W : World} (hT : HM.Tabs W) : Good n k W := by
  have hv : HM.VR (HM.numR (HM.digs 10 (n - 0))) (.lin .i64 0 (HM.terms 1 9 9 0 1)) (.int .i64 n) :=
    HM.VR.digits (L := 8) (by decide) (by decide) (by omega) (by simp only [HM.topD]; omega) (by simp only [HM.topD]; omega) (by omega)
  have h : k % 12 = 0 ∨ k % 12 = 1 ∨ k % 12 = 2 ∨ k % 12 = 3 ∨ k % 12 = 4 ∨ k % 12 = 5 ∨ k % 12 = 6 ∨ k % 12 = 7 ∨ k % 12 = 8 ∨ k % 12 = 9 ∨ k % 12 = 10 ∨ k % 12 = 11 := by omega
  rcases h with h | h | h | h | h | h | h | h | h | h | h | h
  · exact key hT hv h HM.wp8_0
  · exact key hT hv h HM.wp8_1
  · exact key hT hv h HM.wp8_2
  · exact key hT hv h HM.wp8_3
  · exact key hT hv h HM.wp8_4
  · exact key hT hv h HM.wp8_5
  · exact key hT hv h HM.wp8_6
  · exact key hT hv h HM.wp8_7
  · exact key hT hv h HM.wp8_8
  · exact key hT hv h HM.wp8_9
  · exact key hT hv h HM.wp8_10
  · exact key hT hv h HM.wp8_11
theorem shape_p9 (n k : Int) (h0 : 1000000000 ≤ n ∧ n ≤ 1999999999) {W : World} (hT : HM.Tabs W) : Good n k W := by
  have hv : HM.VR (HM.numR (HM.digs 10 (n - 1000000000))) (.lin .i64 1000000000 (HM.terms 0 9 9 0 1)) (.int .i64 n) :=
    HM.VR.digits (L := 8) (by decide) (by decide) (by omega) (by simp only [HM.topD]; omega) (by simp only [HM.topD]; omega) (by omega)
  have h : k % 12 = 0 ∨ k % 12 = 1 ∨ k % 12 = 2 ∨ k % 12 = 3 ∨ k % 12 = 4 ∨ k % 12 = 5 ∨ k % 12 = 6 ∨ k % 12 = 7 ∨ k % 12 = 8 ∨ k % 12 = 9 ∨ k % 12 = 10 ∨ k % 12 = 11 := by omega
  rcases h with h | h | h | h | h | h | h | h | h | h | h | h
  · exact key hT hv h HM.wp9_0
  · exact key hT hv h HM.wp9_1
  · exact key hT hv h HM.wp9_2
  · exact key hT hv h HM.wp9_3
  · exact key hT hv h HM.wp9_4
  · exact key hT hv h HM.wp9_5
  · exact key hT hv h HM.wp9_6
  · exact key hT hv h HM.wp9_7
  · exact key hT hv h HM.wp9_8
  · exact key hT hv h HM.wp9_9
  · exact key hT hv h HM.wp9_10
  · exact key hT hv h HM.wp9_11
theorem shape_p10 (n k : Int) (h0 : 2000000000 ≤ n ∧ n ≤ 2099999999) {W : World} (hT : HM.Tabs W) : Good n k W := by
  have hv : HM.VR (HM.numR (HM.digs 10 (n - 2000000000))) (.lin .i64 2000000000 (HM.terms 0 0 9 0 1)) (.int .i64 n) :=
    HM.VR.digits (L := 8) (by decide) (by decide) (by omega) (by simp only [HM.topD]; omega) (by simp only [HM.topD]; omega) (by omega)
  have h : k % 12 = 0 ∨ k % 12 = 1 ∨ k % 12 = 2 ∨ k % 12 = 3 ∨ k % 12 = 4 ∨ k % 12 = 5 ∨ k % 12 = 6 ∨ k % 12 = 7 ∨ k % 12 = 8 ∨ k % 12 = 9 ∨ k % 12 = 10 ∨ k % 12 = 11 := by omega
  rcases h with h | h | h | h | h | h | h | h | h | h | h | h
  · exact key hT hv h HM.wp10_0
  · exact key hT hv h HM.wp10_1
  · exact key hT hv h HM.wp10_2
  · exact key hT hv h HM.wp10_3
  · exact key hT hv h HM.wp10_4
  · exact key hT hv h HM.wp10_5
  · exact key hT hv h HM.wp10_6
  · exact key hT hv h HM.wp10_7
  · exact key hT hv h HM.wp10_8
  · exact key hT hv h HM.wp10_9
  · exact key hT hv h HM.wp10_10
  · exact key hT hv h HM.wp10_11
theorem shape_p11 (n k : Int) (h0 : 2100000000 ≤ n ∧ n ≤ 2139999999) {W : World} (hT : HM.Tabs W) : Good n k W := by
  have hv : HM.VR (HM.numR (HM.digs 10 (n - 2100000000))) (.lin .i64 2100000000 (HM.terms 0 3 8 0 1)) (.int .i64 n) :=
    HM.VR.digits (L := 7) (by decide) (by decide) (by omega) (by simp only [HM.topD]; omega) (by simp only [HM.topD]; omega) (by omega)
  have h : k % 12 = 0 ∨ k % 12 = 1 ∨ k % 12 = 2 ∨ k % 12 = 3 ∨ k % 12 = 4 ∨ k % 12 = 5 ∨ k % 12 = 6 ∨ k % 12 = 7 ∨ k % 12 = 8 ∨ k % 12 = 9 ∨ k % 12 = 10 ∨ k % 12 = 11 := by omega
  rcases h with h | h | h | h | h | h | h | h | h | h | h | h
  · exact key hT hv h HM.wp11_0
  · exact key hT hv h HM.wp11_1
  · exact key hT hv h HM.wp11_2
  · exact key hT hv h HM.wp11_3
  · exact key hT hv h HM.wp11_4
  · exact key hT hv h HM.wp11_5
  · exact key hT hv h HM.wp11_6
  · exact key hT hv h HM.wp11_7
  · exact key hT hv h HM.wp11_8
  · exact key hT hv h HM.wp11_9
  · exact key hT hv h HM.wp11_10
  · exact key hT hv h HM.wp11_11
theorem shape_p12 (n k : Int) (h0 : 2140000000 ≤ n ∧ n ≤ 2146999999) {W : World} (hT : HM.Tabs W) : Good n k W := by
  have hv : HM.VR (HM.numR (HM.digs 10 (n - 2140000000))) (.lin .i64 2140000000 (HM.terms 0 6 7 0 1)) (.int .i64 n) :=
    HM.VR.digits (L := 6) (by decide) (by decide) (by omega) (by simp only [HM.topD]; omega) (by simp only [HM.topD]; omega) (by omega)
  have h : k % 12 = 0 ∨ k % 12 = 1 ∨ k % 12 = 2 ∨ k % 12 = 3 ∨ k % 12 = 4 ∨ k % 12 = 5 ∨ k % 12 = 6 ∨ k % 12 = 7 ∨ k % 12 = 8 ∨ k % 12 = 9 ∨ k % 12 = 10 ∨ k % 12 = 11 := by omega
  rcases h with h | h | h | h | h | h | h | h | h | h | h | h
  · exact key hT hv h HM.wp12_0
  · exact key hT hv h HM.wp12_1
  · exact key hT hv h HM.wp12_2
  · exact key hT hv h HM.wp12_3
  · exact key hT hv h HM.wp12_4
  · exact key hT hv h HM.wp12_5
  · exact key hT hv h HM.wp12_6
  · exact key hT hv h HM.wp12_7
  · exact key hT hv h HM.wp12_8
  · exact key hT hv h HM.wp12_9
  · exact key hT hv h HM.wp12_10
  · exact key hT hv h HM.wp12_11
theorem shape_p13 (n k : Int) (h0 : 2147000000 ≤ n ∧ n ≤ 2147399999) {W : World} (hT : HM.Tabs W) : Good n k W := by
  have hv : HM.VR (HM.numR (HM.digs 10 (n - 2147000000))) (.lin .i64 2147000000 (HM.terms 0 3 6 0 1)) (.int .i64 n) :=
    HM.VR.digits (L := 5) (by decide) (by decide) (by omega) (by simp only [HM.topD]; omega) (by simp only [HM.topD]; omega) (by omega)
  have h : k % 12 = 0 ∨ k % 12 = 1 ∨ k % 12 = 2 ∨ k % 12 = 3 ∨ k % 12 = 4 ∨ k % 12 = 5 ∨ k % 12 = 6 ∨ k % 12 = 7 ∨ k % 12 = 8 ∨ k % 12 = 9 ∨ k % 12 = 10 ∨ k % 12 = 11 := by omega
  rcases h with h | h | h | h | h | h | h | h | h | h | h | h
  · exact key hT hv h HM.wp13_0
  · exact key hT hv h HM.wp13_1
  · exact key hT hv h HM.wp13_2
  · exact key hT hv h HM.wp13_3
  · exact key hT hv h HM.wp13_4
  · exact key hT hv h HM.wp13_5
  · exact key hT hv h HM.wp13_6
  · exact key hT hv h HM.wp13_7
  · exact key hT hv h HM.wp13_8
  · exact key hT hv h HM.wp13_9
  · exact key hT hv h HM.wp13_10
  · exact key hT hv h HM.wp13_11
theorem shape_p14 (n k : Int) (h0 : 2147400000 ≤ n ∧ n ≤ 2147479999) {W : World} (hT : HM.Tabs W) : Good n k W := by
  have hv : HM.VR (HM.numR (HM.digs 10 (n - 2147400000))) (.lin .i64 2147400000 (HM.terms 0 7 5 0 1)) (.int .i64 n) :=
    HM.VR.digits (L := 4) (by decide) (by decide) (by omega) (by simp only [HM.topD]; omega) (by simp only [HM.topD]; omega) (by omega)
  have h : k % 12 = 0 ∨ k % 12 = 1 ∨ k % 12 = 2 ∨ k % 12 = 3 ∨ k % 12 = 4 ∨ k % 12 = 5 ∨ k % 12 = 6 ∨ k % 12 = 7 ∨ k % 12 = 8 ∨ k % 12 = 9 ∨ k % 12 = 10 ∨ k % 12 = 11 := by omega
  rcases h with h | h | h | h | h | h | h | h | h | h | h | h
  · exact key hT hv h HM.wp14_0
  · exact key hT hv h HM.wp14_1
  · exact key hT hv h HM.wp14_2
  · exact key hT hv h HM.wp14_3
  · exact key hT hv h HM.wp14_4
  · exact key hT hv h HM.wp14_5
  · exact key hT hv h HM.wp14_6
  · exact key hT hv h HM.wp14_7
  · exact key hT hv h HM.wp14_8
  · exact key hT hv h HM.wp14_9
  · exact key hT hv h HM.wp14_10
  · exact key hT hv h HM.wp14_11
theorem shape_p15 (n k : Int) (h0 : 2147480000 ≤ n ∧ n ≤ 2147482999) {W : World} (hT : HM.Tabs W) : Good n k W := by
  have hv : HM.VR (HM.numR (HM.digs 10 (n - 2147480000))) (.lin .i64 2147480000 (HM.terms 0 2 4 0 1)) (.int .i64 n) :=
    HM.VR.digits (L := 3) (by decide) (by decide) (by omega) (by simp only [HM.topD]; omega) (by simp only [HM.topD]; omega) (by omega)
  have h : k % 12 = 0 ∨ k % 12 = 1 ∨ k % 12 = 2 ∨ k % 12 = 3 ∨ k % 12 = 4 ∨ k % 12 = 5 ∨ k % 12 = 6 ∨ k % 12 = 7 ∨ k % 12 = 8 ∨ k % 12 = 9 ∨ k % 12 = 10 ∨ k % 12 = 11 := by omega
  rcases h with h | h | h | h | h | h | h | h | h | h | h | h
  · exact key hT hv h HM.wp15_0
  · exact key hT hv h HM.wp15_1
  · exact key hT hv h HM.wp15_2
  · exact key hT hv h HM.wp15_3
  · exact key hT hv h HM.wp15_4
  · exact key hT hv h HM.wp15_5
  · exact key hT hv h HM.wp15_6
  · exact key hT hv h HM.wp15_7
  · exact key hT hv h HM.wp15_8
  · exact key hT hv h HM.wp15_9
  · exact key hT hv h HM.wp15_10
  · exact key hT hv h HM.wp15_11
theorem shape_p16 (n k : Int) (h0 : 2147483000 ≤ n ∧ n ≤ 2147483599) {W : World} (hT : HM.Tabs W) : Good n k W := by
  have hv : HM.VR (HM.numR (HM.digs 10 (n - 2147483000))) (.lin .i64 2147483000 (HM.terms 0 5 3 0 1)) (.int .i64 n) :=
    HM.VR.digits (L := 2) (by decide) (by decide) (by omega) (by simp only [HM.topD]; omega) (by simp only [HM.topD]; omega) (by omega)
  have h : k % 12 = 0 ∨ k % 12 = 1 ∨ k % 12 = 2 ∨ k % 12 = 3 ∨ k % 12 = 4 ∨ k % 12 = 5 ∨ k % 12 = 6 ∨ k % 12 = 7 ∨ k % 12 = 8 ∨ k % 12 = 9 ∨ k % 12 = 10 ∨ k % 12 = 11 := by omega
  rcases h with h | h | h | h | h | h | h | h | h | h | h | h
  · exact key hT hv h HM.wp16_0
  · exact key hT hv h HM.wp16_1
  · exact key hT hv h HM.wp16_2
  · exact key hT hv h HM.wp16_3
  · exact key hT hv h HM.wp16_4
  · exact key hT hv h HM.wp16_5
  · exact key hT hv h HM.wp16_6
  · exact key hT hv h HM.wp16_7
  · exact key hT hv h HM.wp16_8
  · exact key hT hv h HM.wp16_9
  · exact key hT hv h HM.wp16_10
  · exact key hT hv h HM.wp16_11
theorem shape_p17 (n k : Int) (h0 : 2147483600 ≤ n ∧ n ≤ 2147483639) {W : World} (hT : HM.Tabs W) : Good n k W := by
  have hv : HM.VR (HM.numR (HM.digs 10 (n - 2147483600))) (.lin .i64 2147483600 (HM.terms 0 3 2 0 1)) (.int .i64 n) :=
    HM.VR.digits (L := 1) (by decide) (by decide) (by omega) (by simp only [HM.topD]; omega) (by simp only [HM.topD]; omega) (by omega)
  have h : k % 12 = 0 ∨ k % 12 = 1 ∨ k % 12 = 2 ∨ k % 12 = 3 ∨ k % 12 = 4 ∨ k % 12 = 5 ∨ k % 12 = 6 ∨ k % 12 = 7 ∨ k % 12 = 8 ∨ k % 12 = 9 ∨ k % 12 = 10 ∨ k % 12 = 11 := by omega
  rcases h with h | h | h | h | h | h | h | h | h | h | h | h
  · exact key hT hv h HM.wp17_0
  · exact key hT hv h HM.wp17_1
  · exact key hT hv h HM.wp17_2
  · exact key hT hv h HM.wp17_3
  · exact key hT hv h HM.wp17_4
  · exact key hT hv h HM.wp17_5
  · exact key hT hv h HM.wp17_6
  · exact key hT hv h HM.wp17_7
  · exact key hT hv h HM.wp17_8
  · exact key hT hv h HM.wp17_9
  · exact key hT hv h HM.wp17_10
  · exact key hT hv h HM.wp17_11
theorem shape_p18 (n k : Int) (h0 : 2147483640 ≤ n ∧ n ≤ 2147483647) {W : World} (hT : HM.Tabs W) : Good n k W := by
  have hv : HM.VR (HM.numR (HM.digs 10 (n - 2147483640))) (.lin .i64 2147483640 (HM.terms 0 7 1 0 1)) (.int .i64 n) :=
    HM.VR.digits (L := 0) (by decide) (by decide) (by omega) (by simp only [HM.topD]; omega) (by simp only [HM.topD]; omega) (by omega)
  have h : k % 12 = 0 ∨ k % 12 = 1 ∨ k % 12 = 2 ∨ k % 12 = 3 ∨ k % 12 = 4 ∨ k % 12 = 5 ∨ k % 12 = 6 ∨ k % 12 = 7 ∨ k % 12 = 8 ∨ k % 12 = 9 ∨ k % 12 = 10 ∨ k % 12 = 11 := by omega
  rcases h with h | h | h | h | h | h | h | h | h | h | h | h
  · exact key hT hv h HM.wp18_0
  · exact key hT hv h HM.wp18_1
  · exact key hT hv h HM.wp18_2
  · exact key hT hv h HM.wp18_3
  · exact key hT hv h HM.wp18_4
  · exact key hT hv h HM.wp18_5
  · exact key hT hv h HM.wp18_6
  · exact key hT hv h HM.wp18_7
  · exact key hT hv h HM.wp18_8
  · exact key hT hv h HM.wp18_9
  · exact key hT hv h HM.wp18_10
  · exact key hT hv h HM.wp18_11
theorem shape_m0 (n k : Int) (h0 : -9 ≤ n ∧ n ≤ -1) {W : World} (hT : HM.Tabs W) : Good n k W := by
  have hv : HM.VR (HM.numR (HM.digs 10 (-n - 0))) (.lin .i64 0 (HM.terms 1 9 1 0 (-1))) (.int .i64 n) :=
    HM.VR.digits (L := 0) (by decide) (by decide) (by omega) (by simp only [HM.topD]; omega) (by simp only [HM.topD]; omega) (by omega)
  have h : k % 12 = 0 ∨ k % 12 = 1 ∨ k % 12 = 2 ∨ k % 12 = 3 ∨ k % 12 = 4 ∨ k % 12 = 5 ∨ k % 12 = 6 ∨ k % 12 = 7 ∨ k % 12 = 8 ∨ k % 12 = 9 ∨ k % 12 = 10 ∨ k % 12 = 11 := by omega
  rcases h with h | h | h | h | h | h | h | h | h | h | h | h
  · exact key hT hv h HM.wm0_0
  · exact key hT hv h HM.wm0_1
  · exact key hT hv h HM.wm0_2
  · exact key hT hv h HM.wm0_3
  · exact key hT hv h HM.wm0_4
  · exact key hT hv h HM.wm0_5
  · exact key hT hv h HM.wm0_6
  · exact key hT hv h HM.wm0_7
  · exact key hT hv h HM.wm0_8
  · exact key hT hv h HM.wm0_9
  · exact key hT hv h HM.wm0_10
  · exact key hT hv h HM.wm0_11
theorem shape_m1 (n k : Int) (h0 : -99 ≤ n ∧ n ≤ -10) {W : World} (hT : HM.Tabs W) : Good n k W := by
  have hv : HM.VR (HM.numR (HM.digs 10 (-n - 0))) (.lin .i64 0 (HM.terms 1 9 2 0 (-1))) (.int .i64 n) :=
    HM.VR.digits (L := 1) (by decide) (by decide) (by omega) (by simp only [HM.topD]; omega) (by simp only [HM.topD]; omega) (by omega)
  have h : k % 12 = 0 ∨ k % 12 = 1 ∨ k % 12 = 2 ∨ k % 12 = 3 ∨ k % 12 = 4 ∨ k % 12 = 5 ∨ k % 12 = 6 ∨ k % 12 = 7 ∨ k % 12 = 8 ∨ k % 12 = 9 ∨ k % 12 = 10 ∨ k % 12 = 11 := by omega
  rcases h with h | h | h | h | h | h | h | h | h | h | h | h
  · exact key hT hv h HM.wm1_0
  · exact key hT hv h HM.wm1_1
  · exact key hT hv h HM.wm1_2
  · exact key hT hv h HM.wm1_3
  · exact key hT hv h HM.wm1_4
  · exact key hT hv h HM.wm1_5
  · exact key hT hv h HM.wm1_6
  · exact key hT hv h HM.wm1_7
  · exact key hT hv h HM.wm1_8
  · exact key hT hv h HM.wm1_9
  · exact key hT hv h HM.wm1_10
  · exact key hT hv h HM.wm1_11
theorem shape_m2 (n k : Int) (h0 : -999 ≤ n ∧ n ≤ -100) {W : World} (hT : HM.Tabs W) : Good n k W := by
  have hv : HM.VR (HM.numR (HM.digs 10 (-n - 0))) (.lin .i64 0 (HM.terms 1 9 3 0 (-1))) (.int .i64 n) :=
    HM.VR.digits (L := 2) (by decide) (by decide) (by omega) (by simp only [HM.topD]; omega) (by simp only [HM.topD]; omega) (by omega)
  have h : k % 12 = 0 ∨ k % 12 = 1 ∨ k % 12 = 2 ∨ k % 12 = 3 ∨ k % 12 = 4 ∨ k % 12 = 5 ∨ k % 12 = 6 ∨ k % 12 = 7 ∨ k % 12 = 8 ∨ k % 12 = 9 ∨ k % 12 = 10 ∨ k % 12 = 11 := by omega
  rcases h with h | h | h | h | h | h | h | h | h | h | h | h
  · exact key hT hv h HM.wm2_0
  · exact key hT hv h HM.wm2_1
  · exact key hT hv h HM.wm2_2
  · exact key hT hv h HM.wm2_3
  · exact key hT hv h HM.wm2_4
  · exact key hT hv h HM.wm2_5
  · exact key hT hv h HM.wm2_6
  · exact key hT hv h HM.wm2_7
  · exact key hT hv h HM.wm2_8
  · exact key hT hv h HM.wm2_9
  · exact key hT hv h HM.wm2_10
  · exact key hT hv h HM.wm2_11
theorem shape_m3 (n k : Int) (h0 : -9999 ≤ n ∧ n ≤ -1000) {W : World} (hT : HM.Tabs W) : Good n k W := by
  have hv : HM.VR (HM.numR (HM.digs 10 (-n - 0))) (.lin .i64 0 (HM.terms 1 9 4 0 (-1))) (.int .i64 n) :=
    HM.VR.digits (L := 3) (by decide) (by decide) (by omega) (by simp only [HM.topD]; omega) (by simp only [HM.topD]; omega) (by omega)
  have h : k % 12 = 0 ∨ k % 12 = 1 ∨ k % 12 = 2 ∨ k % 12 = 3 ∨ k % 12 = 4 ∨ k % 12 = 5 ∨ k % 12 = 6 ∨ k % 12 = 7 ∨ k % 12 = 8 ∨ k % 12 = 9 ∨ k % 12 = 10 ∨ k % 12 = 11 := by omega
  rcases h with h | h | h | h | h | h | h | h | h | h | h | h
  · exact key hT hv h HM.wm3_0
  · exact key hT hv h HM.wm3_1
  · exact key hT hv h HM.wm3_2
  · exact key hT hv h HM.wm3_3
  · exact key hT hv h HM.wm3_4
  · exact key hT hv h HM.wm3_5
  · exact key hT hv h HM.wm3_6
  · exact key hT hv h HM.wm3_7
  · exact key hT hv h HM.wm3_8
  · exact key hT hv h HM.wm3_9
  · exact key hT hv h HM.wm3_10
  · exact key hT hv h HM.wm3_11
theorem shape_m4 (n k : Int) (h0 : -99999 ≤ n ∧ n ≤ -10000) {W : World} (hT : HM.Tabs W) : Good n k W := by
  have hv : HM.VR (HM.numR (HM.digs 10 (-n - 0))) (.lin .i64 0 (HM.terms 1 9 5 0 (-1))) (.int .i64 n) :=
    HM.VR.digits (L := 4) (by decide) (by decide) (by omega) (by simp only [HM.topD]; omega) (by simp only [HM.topD]; omega) (by omega)
  have h : k % 12 = 0 ∨ k % 12 = 1 ∨ k % 12 = 2 ∨ k % 12 = 3 ∨ k % 12 = 4 ∨ k % 12 = 5 ∨ k % 12 = 6 ∨ k % 12 = 7 ∨ k % 12 = 8 ∨ k % 12 = 9 ∨ k % 12 = 10 ∨ k % 12 = 11 := by omega
  rcases h with h | h | h | h | h | h | h | h | h | h | h | h
  · exact key hT hv h HM.wm4_0
  · exact key hT hv h HM.wm4_1
  · exact key hT hv h HM.wm4_2
  · exact key hT hv h HM.wm4_3
  · exact key hT hv h HM.wm4_4
  · exact key hT hv h HM.wm4_5
  · exact key hT hv h HM.wm4_6
  · exact key hT hv h HM.wm4_7
  · exact key hT hv h HM.wm4_8
  · exact key hT hv h HM.wm4_9
  · exact key hT hv h HM.wm4_10
  · exact key hT hv h HM.wm4_11
theorem shape_m5 (n k : Int) (h0 : -999999 ≤ n ∧ n ≤ -100000) {W : World} (hT : HM.Tabs W) : Good n k W := by
  have hv : HM.VR (HM.numR (HM.digs 10 (-n - 0))) (.lin .i64 0 (HM.terms 1 9 6 0 (-1))) (.int .i64 n) :=
    HM.VR.digits (L := 5) (by decide) (by decide) (by omega) (by simp only [HM.topD]; omega) (by simp only [HM.topD]; omega) (by omega)
  have h : k % 12 = 0 ∨ k % 12 = 1 ∨ k % 12 = 2 ∨ k % 12 = 3 ∨ k % 12 = 4 ∨ k % 12 = 5 ∨ k % 12 = 6 ∨ k % 12 = 7 ∨ k % 12 = 8 ∨ k % 12 = 9 ∨ k % 12 = 10 ∨ k % 12 = 11 := by omega
  rcases h with h | h | h | h | h | h | h | h | h | h | h | h
  · exact key hT hv h HM.wm5_0
  · exact key hT hv h HM.wm5_1
  · exact key hT hv h HM.wm5_2
  · exact key hT hv h HM.wm5_3
  · exact key hT hv h HM.wm5_4
  · exact key hT hv h HM.wm5_5
  · exact key hT hv h HM.wm5_6
  · exact key hT hv h HM.wm5_7
  · exact key hT hv h HM.wm5_8
  · exact key hT hv h HM.wm5_9
  · exact key hT hv h HM.wm5_10
  · exact key hT hv h HM.wm5_11
theorem shape_m6 (n k : Int) (h0 : -9999999 ≤ n ∧ n ≤ -1000000) {W : World} (hT : HM.Tabs W) : Good n k W := by
  have hv : HM.VR (HM.numR (HM.digs 10 (-n - 0))) (.lin .i64 0 (HM.terms 1 9 7 0 (-1))) (.int .i64 n) :=
    HM.VR.digits (L := 6) (by decide) (by decide) (by omega) (by simp only [HM.topD]; omega) (by simp only [HM.topD]; omega) (by omega)
  have h : k % 12 = 0 ∨ k % 12 = 1 ∨ k % 12 = 2 ∨ k % 12 = 3 ∨ k % 12 = 4 ∨ k % 12 = 5 ∨ k % 12 = 6 ∨ k % 12 = 7 ∨ k % 12 = 8 ∨ k % 12 = 9 ∨ k % 12 = 10 ∨ k % 12 = 11 := by omega
  rcases h with h | h | h | h | h | h | h | h | h | h | h | h
  · exact key hT hv h HM.wm6_0
  · exact key hT hv h HM.wm6_1
  · exact key hT hv h HM.wm6_2
  · exact key hT hv h HM.wm6_3
  · exact key hT hv h HM.wm6_4
  · exact key hT hv h HM.wm6_5
  · exact key hT hv h HM.wm6_6
  · exact key hT hv h HM.wm6_7
  · exact key hT hv h HM.wm6_8
  · exact key hT hv h HM.wm6_9
  · exact key hT hv h HM.wm6_10
  · exact key hT hv h HM.wm6_11
theorem shape_m7 (n k : Int) (h0 : -99999999 ≤ n ∧ n ≤ -10000000) {W : World} (hT : HM.Tabs W) : Good n k W := by
  have hv : HM.VR (HM.numR (HM.digs 10 (-n - 0))) (.lin .i64 0 (HM.terms 1 9 8 0 (-1))) (.int .i64 n) :=
    HM.VR.digits (L := 7) (by decide) (by decide) (by omega) (by simp only [HM.topD]; omega) (by simp only [HM.topD]; omega) (by omega)
  have h : k % 12 = 0 ∨ k % 12 = 1 ∨ k % 12 = 2 ∨ k % 12 = 3 ∨ k % 12 = 4 ∨ k % 12 = 5 ∨ k % 12 = 6 ∨ k % 12 = 7 ∨ k % 12 = 8 ∨ k % 12 = 9 ∨ k % 12 = 10 ∨ k % 12 = 11 := by omega
  rcases h with h | h | h | h | h | h | h | h | h | h | h | h
  · exact key hT hv h HM.wm7_0
  · exact key hT hv h HM.wm7_1
  · exact key hT hv h HM.wm7_2
  · exact key hT hv h HM.wm7_3
  · exact key hT hv h HM.wm7_4
  · exact key hT hv h HM.wm7_5
  · exact key hT hv h HM.wm7_6
  · exact key hT hv h HM.wm7_7
  · exact key hT hv h HM.wm7_8
  · exact key hT hv h HM.wm7_9
  · exact key hT hv h HM.wm7_10
  · exact key hT hv h HM.wm7_11
theorem shape_m8 (n k : Int) (h0 : -999999999 ≤ n ∧ n ≤ -100000000) {W : World} (hT : HM.Tabs W) : Good n k W := by
  have hv : HM.VR (HM.numR (HM.digs 10 (-n - 0))) (.lin .i64 0 (HM.terms 1 9 9 0 (-1))) (.int .i64 n) :=
    HM.VR.digits (L := 8) (by decide) (by decide) (by omega) (by simp only [HM.topD]; omega) (by simp only [HM.topD]; omega) (by omega)
  have h : k % 12 = 0 ∨ k % 12 = 1 ∨ k % 12 = 2 ∨ k % 12 = 3 ∨ k % 12 = 4 ∨ k % 12 = 5 ∨ k % 12 = 6 ∨ k % 12 = 7 ∨ k % 12 = 8 ∨ k % 12 = 9 ∨ k % 12 = 10 ∨ k % 12 = 11 := by omega
  rcases h with h | h | h | h | h | h | h | h | h | h | h | h
  · exact key hT hv h HM.wm8_0
  · exact key hT hv h HM.wm8_1
  · exact key hT hv h HM.wm8_2
  · exact key hT hv h HM.wm8_3
  · exact key hT hv h HM.wm8_4
  · exact key hT hv h HM.wm8_5
  · exact key hT hv h HM.wm8_6
  · exact key hT hv h HM.wm8_7
  · exact key hT hv h HM.wm8_8
  · exact key hT hv h HM.wm8_9
  · exact key hT hv h HM.wm8_10
  · exact key hT hv h HM.wm8_11
theorem shape_m9 (n k : Int) (h0 : -1999999999 ≤ n ∧ n ≤ -1000000000) {W : World} (hT : HM.Tabs W) : Good n k W := by
  have hv : HM.VR (HM.numR (HM.digs 10 (-n - 1000000000))) (.lin .i64 (-1000000000) (HM.terms 0 9 9 0 (-1))) (.int .i64 n) :=
    HM.VR.digits (L := 8) (by decide) (by decide) (by omega) (by simp only [HM.topD]; omega) (by simp only [HM.topD]; omega) (by omega)
  have h : k % 12 = 0 ∨ k % 12 = 1 ∨ k % 12 = 2 ∨ k % 12 = 3 ∨ k % 12 = 4 ∨ k % 12 = 5 ∨ k % 12 = 6 ∨ k % 12 = 7 ∨ k % 12 = 8 ∨ k % 12 = 9 ∨ k % 12 = 10 ∨ k % 12 = 11 := by omega
  rcases h with h | h | h | h | h | h | h | h | h | h | h | h
  · exact key hT hv h HM.wm9_0
  · exact key hT hv h HM.wm9_1
  · exact key hT hv h HM.wm9_2
  · exact key hT hv h HM.wm9_3
  · exact key hT hv h HM.wm9_4
  · exact key hT hv h HM.wm9_5
  · exact key hT hv h HM.wm9_6
  · exact key hT hv h HM.wm9_7
  · exact key hT hv h HM.wm9_8
  · exact key hT hv h HM.wm9_9
  · exact key hT hv h HM.wm9_10
  · exact key hT hv h HM.wm9_11
theorem shape_m10 (n k : Int) (h0 : -2099999999 ≤ n ∧ n ≤ -2000000000) {W : World} (hT : HM.Tabs W) : Good n k W := by
  have hv : HM.VR (HM.numR (HM.digs 10 (-n - 2000000000))) (.lin .i64 (-2000000000) (HM.terms 0 0 9 0 (-1))) (.int .i64 n) :=
    HM.VR.digits (L := 8) (by decide) (by decide) (by omega) (by simp only [HM.topD]; omega) (by simp only [HM.topD]; omega) (by omega)
  have h : k % 12 = 0 ∨ k % 12 = 1 ∨ k % 12 = 2 ∨ k % 12 = 3 ∨ k % 12 = 4 ∨ k % 12 = 5 ∨ k % 12 = 6 ∨ k % 12 = 7 ∨ k % 12 = 8 ∨ k % 12 = 9 ∨ k % 12 = 10 ∨ k % 12 = 11 := by omega
  rcases h with h | h | h | h | h | h | h | h | h | h | h | h
  · exact key hT hv h HM.wm10_0
  · exact key hT hv h HM.wm10_1
  · exact key hT hv h HM.wm10_2
  · exact key hT hv h HM.wm10_3
  · exact key hT hv h HM.wm10_4
  · exact key hT hv h HM.wm10_5
  · exact key hT hv h HM.wm10_6
  · exact key hT hv h HM.wm10_7
  · exact key hT hv h HM.wm10_8
  · exact key hT hv h HM.wm10_9
  · exact key hT hv h HM.wm10_10
  · exact key hT hv h HM.wm10_11
theorem shape_m11 (n k : Int) (h0 : -2139999999 ≤ n ∧ n ≤ -2100000000) {W : World} (hT : HM.Tabs W) : Good n k W := by
  have hv : HM.VR (HM.numR (HM.digs 10 (-n - 2100000000))) (.lin .i64 (-2100000000) (HM.terms 0 3 8 0 (-1))) (.int .i64 n) :=
    HM.VR.digits (L := 7) (by decide) (by decide) (by omega) (by simp only [HM.topD]; omega) (by simp only [HM.topD]; omega) (by omega)
  have h : k % 12 = 0 ∨ k % 12 = 1 ∨ k % 12 = 2 ∨ k % 12 = 3 ∨ k % 12 = 4 ∨ k % 12 = 5 ∨ k % 12 = 6 ∨ k % 12 = 7 ∨ k % 12 = 8 ∨ k % 12 = 9 ∨ k % 12 = 10 ∨ k % 12 = 11 := by omega
  rcases h with h | h | h | h | h | h | h | h | h | h | h | h
  · exact key hT hv h HM.wm11_0
  · exact key hT hv h HM.wm11_1
  · exact key hT hv h HM.wm11_2
  · exact key hT hv h HM.wm11_3
  · exact key hT hv h HM.wm11_4
  · exact key hT hv h HM.wm11_5
  · exact key hT hv h HM.wm11_6
  · exact key hT hv h HM.wm11_7
  · exact key hT hv h HM.wm11_8
  · exact key hT hv h HM.wm11_9
  · exact key hT hv h HM.wm11_10
  · exact key hT hv h HM.wm11_11
theorem shape_m12 (n k : Int) (h0 : -2146999999 ≤ n ∧ n ≤ -2140000000) {W : World} (hT : HM.Tabs W) : Good n k W := by
  have hv : HM.VR (HM.numR (HM.digs 10 (-n - 2140000000))) (.lin .i64 (-2140000000) (HM.terms 0 6 7 0 (-1))) (.int .i64 n) :=
    HM.VR.digits (L := 6) (by decide) (by decide) (by omega) (by simp only [HM.topD]; omega) (by simp only [HM.topD]; omega) (by omega)
  have h : k % 12 = 0 ∨ k % 12 = 1 ∨ k % 12 = 2 ∨ k % 12 = 3 ∨ k % 12 = 4 ∨ k % 12 = 5 ∨ k % 12 = 6 ∨ k % 12 = 7 ∨ k % 12 = 8 ∨ k % 12 = 9 ∨ k % 12 = 10 ∨ k % 12 = 11 := by omega
  rcases h with h | h | h | h | h | h | h | h | h | h | h | h
  · exact key hT hv h HM.wm12_0
  · exact key hT hv h HM.wm12_1
  · exact key hT hv h HM.wm12_2
  · exact key hT hv h HM.wm12_3
  · exact key hT hv h HM.wm12_4
  · exact key hT hv h HM.wm12_5
  · exact key hT hv h HM.wm12_6
  · exact key hT hv h HM.wm12_7
  · exact key hT hv h HM.wm12_8
  · exact key hT hv h HM.wm12_9
  · exact key hT hv h HM.wm12_10
  · exact key hT hv h HM.wm12_11
theorem shape_m13 (n k : Int) (h0 : -2147399999 ≤ n ∧ n ≤ -2147000000) {W : World} (hT : HM.Tabs W) : Good n k W := by
  have hv : HM.VR (HM.numR (HM.digs 10 (-n - 2147000000))) (.lin .i64 (-2147000000) (HM.terms 0 3 6 0 (-1))) (.int .i64 n) :=
    HM.VR.digits (L := 5) (by decide) (by decide) (by omega) (by simp only [HM.topD]; omega) (by simp only [HM.topD]; omega) (by omega)
  have h : k % 12 = 0 ∨ k % 12 = 1 ∨ k % 12 = 2 ∨ k % 12 = 3 ∨ k % 12 = 4 ∨ k % 12 = 5 ∨ k % 12 = 6 ∨ k % 12 = 7 ∨ k % 12 = 8 ∨ k % 12 = 9 ∨ k % 12 = 10 ∨ k % 12 = 11 := by omega
  rcases h with h | h | h | h | h | h | h | h | h | h | h | h
  · exact key hT hv h HM.wm13_0
  · exact key hT hv h HM.wm13_1
  · exact key hT hv h HM.wm13_2
  · exact key hT hv h HM.wm13_3
  · exact key hT hv h HM.wm13_4
  · exact key hT hv h HM.wm13_5
  · exact key hT hv h HM.wm13_6
  · exact key hT hv h HM.wm13_7
  · exact key hT hv h HM.wm13_8
  · exact key hT hv h HM.wm13_9
  · exact key hT hv h HM.wm13_10
  · exact key hT hv h HM.wm13_11
theorem shape_m14 (n k : Int) (h0 : -2147479999 ≤ n ∧ n ≤ -2147400000) {W : World} (hT : HM.Tabs W) : Good n k W := by
  have hv : HM.VR (HM.numR (HM.digs 10 (-n - 2147400000))) (.lin .i64 (-2147400000) (HM.terms 0 7 5 0 (-1))) (.int .i64 n) :=
    HM.VR.digits (L := 4) (by decide) (by decide) (by omega) (by simp only [HM.topD]; omega) (by simp only [HM.topD]; omega) (by omega)
  have h : k % 12 = 0 ∨ k % 12 = 1 ∨ k % 12 = 2 ∨ k % 12 = 3 ∨ k % 12 = 4 ∨ k % 12 = 5 ∨ k % 12 = 6 ∨ k % 12 = 7 ∨ k % 12 = 8 ∨ k % 12 = 9 ∨ k % 12 = 10 ∨ k % 12 = 11 := by omega
  rcases h with h | h | h | h | h | h | h | h | h | h | h | h
  · exact key hT hv h HM.wm14_0
  · exact key hT hv h HM.wm14_1
  · exact key hT hv h HM.wm14_2
  · exact key hT hv h HM.wm14_3
  · exact key hT hv h HM.wm14_4
  · exact key hT hv h HM.wm14_5
  · exact key hT hv h HM.wm14_6
  · exact key hT hv h HM.wm14_7
  · exact key hT hv h HM.wm14_8
  · exact key hT hv h HM.wm14_9
  · exact key hT hv h HM.wm14_10
  · exact key hT hv h HM.wm14_11
theorem shape_m15 (n k : Int) (h0 : -2147482999 ≤ n ∧ n ≤ -2147480000) {W : World} (hT : HM.Tabs W) : Good n k W := by
  have hv : HM.VR (HM.numR (HM.digs 10 (-n - 2147480000))) (.lin .i64 (-2147480000) (HM.terms 0 2 4 0 (-1))) (.int .i64 n) :=
    HM.VR.digits (L := 3) (by decide) (by decide) (by omega) (by simp only [HM.topD]; omega) (by simp only [HM.topD]; omega) (by omega)
  have h : k % 12 = 0 ∨ k % 12 = 1 ∨ k % 12 = 2 ∨ k % 12 = 3 ∨ k % 12 = 4 ∨ k % 12 = 5 ∨ k % 12 = 6 ∨ k % 12 = 7 ∨ k % 12 = 8 ∨ k % 12 = 9 ∨ k % 12 = 10 ∨ k % 12 = 11 := by omega
  rcases h with h | h | h | h | h | h | h | h | h | h | h | h
  · exact key hT hv h HM.wm15_0
  · exact key hT hv h HM.wm15_1
  · exact key hT hv h HM.wm15_2
  · exact key hT hv h HM.wm15_3
  · exact key hT hv h HM.wm15_4
  · exact key hT hv h HM.wm15_5
  · exact key hT hv h HM.wm15_6
  · exact key hT hv h HM.wm15_7
  · exact key hT hv h HM.wm15_8
  · exact key hT hv h HM.wm15_9
  · exact key hT hv h HM.wm15_10
  · exact key hT hv h HM.wm15_11
theorem shape_m16 (n k : Int) (h0 : -2147483599 ≤ n ∧ n ≤ -2147483000) {W : World} (hT : HM.Tabs W) : Good n k W := by
  have hv : HM.VR (HM.numR (HM.digs 10 (-n - 2147483000))) (.lin .i64 (-2147483000) (HM.terms 0 5 3 0 (-1))) (.int .i64 n) :=
    HM.VR.digits (L := 2) (by decide) (by decide) (by omega) (by simp only [HM.topD]; omega) (by simp only [HM.topD]; omega) (by omega)
  have h : k % 12 = 0 ∨ k % 12 = 1 ∨ k % 12 = 2 ∨ k % 12 = 3 ∨ k % 12 = 4 ∨ k % 12 = 5 ∨ k % 12 = 6 ∨ k % 12 = 7 ∨ k % 12 = 8 ∨ k % 12 = 9 ∨ k % 12 = 10 ∨ k % 12 = 11 := by omega
  rcases h with h | h | h | h | h | h | h | h | h | h | h | h
  · exact key hT hv h HM.wm16_0
  · exact key hT hv h HM.wm16_1
  · exact key hT hv h HM.wm16_2
  · exact key hT hv h HM.wm16_3
  · exact key hT hv h HM.wm16_4
  · exact key hT hv h HM.wm16_5
  · exact key hT hv h HM.wm16_6
  · exact key hT hv h HM.wm16_7
  · exact key hT hv h HM.wm16_8
  · exact key hT hv h HM.wm16_9
  · exact key hT hv h HM.wm16_10
  · exact key hT hv h HM.wm16_11
theorem shape_m17 (n k : Int) (h0 : -2147483639 ≤ n ∧ n ≤ -2147483600) {W : World} (hT : HM.Tabs W) : Good n k W := by
  have hv : HM.VR (HM.numR (HM.digs 10 (-n - 2147483600))) (.lin .i64 (-2147483600) (HM.terms 0 3 2 0 (-1))) (.int .i64 n) :=
    HM.VR.digits (L := 1) (by decide) (by decide) (by omega) (by simp only [HM.topD]; omega) (by simp only [HM.topD]; omega) (by omega)
  have h : k % 12 = 0 ∨ k % 12 = 1 ∨ k % 12 = 2 ∨ k % 12 = 3 ∨ k % 12 = 4 ∨ k % 12 = 5 ∨ k % 12 = 6 ∨ k % 12 = 7 ∨ k % 12 = 8 ∨ k % 12 = 9 ∨ k % 12 = 10 ∨ k % 12 = 11 := by omega
  rcases h with h | h | h | h | h | h | h | h | h | h | h | h
  · exact key hT hv h HM.wm17_0
  · exact key hT hv h HM.wm17_1
  · exact key hT hv h HM.wm17_2
  · exact key hT hv h HM.wm17_3
  · exact key hT hv h HM.wm17_4
  · exact key hT hv h HM.wm17_5
  · exact key hT hv h HM.wm17_6
  · exact key hT hv h HM.wm17_7
  · exact key hT hv h HM.wm17_8
  · exact key hT hv h HM.wm17_9
  · exact key hT hv h HM.wm17_10
  · exact key hT hv h HM.wm17_11
theorem shape_m18 (n k : Int) (h0 : -2147483648 ≤ n ∧ n ≤ -2147483640) {W : World} (hT : HM.Tabs W) : Good n k W := by
  have hv : HM.VR (HM.numR (HM.digs 10 (-n - 2147483640))) (.lin .i64 (-2147483640) (HM.terms 0 8 1 0 (-1))) (.int .i64 n) :=
    HM.VR.digits (L := 0) (by decide) (by decide) (by omega) (by simp only [HM.topD]; omega) (by simp only [HM.topD]; omega) (by omega)
  have h : k % 12 = 0 ∨ k % 12 = 1 ∨ k % 12 = 2 ∨ k % 12 = 3 ∨ k % 12 = 4 ∨ k % 12 = 5 ∨ k % 12 = 6 ∨ k % 12 = 7 ∨ k % 12 = 8 ∨ k % 12 = 9 ∨ k % 12 = 10 ∨ k % 12 = 11 := by omega
  rcases h with h | h | h | h | h | h | h | h | h | h | h | h
  · exact key hT hv h HM.wm18_0
  · exact key hT hv h HM.wm18_1
  · exact key hT hv h HM.wm18_2
  · exact key hT hv h HM.wm18_3
  · exact key hT hv h HM.wm18_4
  · exact key hT hv h HM.wm18_5
  · exact key hT hv h HM.wm18_6
  · exact key hT hv h HM.wm18_7
  · exact key hT hv h HM.wm18_8
  · exact key hT hv h HM.wm18_9
  · exact key hT hv h HM.wm18_10
  · exact key hT hv h HM.wm18_11
theorem walk_all (n k : Int) {W : World} (hT : HM.Tabs W) : Good n k W := by
  by_cases hr : -2147483648 ≤ n ∧ n < 2147483648
  · have h : n = 0 ∨ (1 ≤ n ∧ n ≤ 9) ∨ (10 ≤ n ∧ n ≤ 99) ∨ (100 ≤ n ∧ n ≤ 999) ∨ (1000 ≤ n ∧ n ≤ 9999) ∨ (10000 ≤ n ∧ n ≤ 99999) ∨ (100000 ≤ n ∧ n ≤ 999999) ∨ (1000000 ≤ n ∧ n ≤ 9999999) ∨ (10000000 ≤ n ∧ n ≤ 99999999) ∨ (100000000 ≤ n ∧ n ≤ 999999999) ∨ (1000000000 ≤ n ∧ n ≤ 1999999999) ∨ (2000000000 ≤ n ∧ n ≤ 2099999999) ∨ (2100000000 ≤ n ∧ n ≤ 2139999999) ∨ (2140000000 ≤ n ∧ n ≤ 2146999999) ∨ (2147000000 ≤ n ∧ n ≤ 2147399999) ∨ (2147400000 ≤ n ∧ n ≤ 2147479999) ∨ (2147480000 ≤ n ∧ n ≤ 2147482999) ∨ (2147483000 ≤ n ∧ n ≤ 2147483599) ∨ (2147483600 ≤ n ∧ n ≤ 2147483639) ∨ (2147483640 ≤ n ∧ n ≤ 2147483647) ∨ (-9 ≤ n ∧ n ≤ -1) ∨ (-99 ≤ n ∧ n ≤ -10) ∨ (-999 ≤ n ∧ n ≤ -100) ∨ (-9999 ≤ n ∧ n ≤ -1000) ∨ (-99999 ≤ n ∧ n ≤ -10000) ∨ (-999999 ≤ n ∧ n ≤ -100000) ∨ (-9999999 ≤ n ∧ n ≤ -1000000) ∨ (-99999999 ≤ n ∧ n ≤ -10000000) ∨ (-999999999 ≤ n ∧ n ≤ -100000000) ∨ (-1999999999 ≤ n ∧ n ≤ -1000000000) ∨ (-2099999999 ≤ n ∧ n ≤ -2000000000) ∨ (-2139999999 ≤ n ∧ n ≤ -2100000000) ∨ (-2146999999 ≤ n ∧ n ≤ -2140000000) ∨ (-2147399999 ≤ n ∧ n ≤ -2147000000) ∨ (-2147479999 ≤ n ∧ n ≤ -2147400000) ∨ (-2147482999 ≤ n ∧ n ≤ -2147480000) ∨ (-2147483599 ≤ n ∧ n ≤ -2147483000) ∨ (-2147483639 ≤ n ∧ n ≤ -2147483600) ∨ (-2147483648 ≤ n ∧ n ≤ -2147483640) := by omega
    rcases h with rfl | h | h | h | h | h | h | h | h | h | h | h | h | h | h | h | h | h | h | h | h | h | h | h | h | h | h | h | h | h | h | h | h | h | h | h | h | h | h
    · exact shape_z k hT
    · exact shape_p0 n k h hT
    · exact shape_p1 n k h hT
    · exact shape_p2 n k h hT
    · exact shape_p3 n k h hT
    · exact shape_p4 n k h hT
    · exact shape_p5 n k h hT
    · exact shape_p6 n k h hT
    · exact shape_p7 n k h hT
    · exact shape_p8 n k h hT
    · exact shape_p9 n k h hT
    · exact shape_p10 n k h hT
    · exact shape_p11 n k h hT
    · exact shape_p12 n k h hT
    · exact shape_p13 n k h hT
    · exact shape_p14 n k h hT
    · exact shape_p15 n k h hT
    · exact shape_p16 n k h hT
    · exact shape_p17 n k h hT
    · exact shape_p18 n k h hT
    · exact shape_m0 n k h hT
    · exact shape_m1 n k h hT
    · exact shape_m2 n k h hT
    · exact shape_m3 n k h hT
    · exact shape_m4 n k h hT
    · exact shape_m5 n k h hT
    · exact shape_m6 n k h hT
    · exact shape_m7 n k h hT
    · exact shape_m8 n k h hT
    · exact shape_m9 n k h hT
    · exact shape_m10 n k h hT
    · exact shape_m11 n k h hT
    · exact shape_m12 n k h hT
    · exact shape_m13 n k h hT
    · exact shape_m14 n k h hT
    · exact shape_m15 n k h hT
    · exact shape_m16 n k h hT
    · exact shape_m17 n k h hT
    · exact shape_m18 n k h hT
  · exact words_out n k hr hT
end Go.Proofs.YtbfdgdigaiimgaaDoor.Sel
