/- fleuronlaw22.ShowForms returns true for all arguments, and leaves what was there. -/
import Derived.Test.YtfobenohimepaaaDoorJFa1
import Derived.Test.YtfobenohimepaaaDoorJFa2
import Derived.Test.YtfobenohimepaaaDoorJFa3
import Derived.WalkKit
import Derived.ProofKit
import Derived.OpenShut
namespace Go.Proofs.YtfobenohimepaaaDoor.Sel
open Go Go.RowKit
theorem forms_out (k n : Int) (h : ¬ (0 ≤ n ∧ n ≤ 100000)) {W : World} (hT : HM.Tabs W) : Calls Tryd.prog 5 #[.int .i64 k, .int .i64 n] W fun e W' => e = .returned (.bool true) ∧ Below W.heap.size W W' := by
  letI : HM.Amb := HM.Amb.none
  have aw := HM.awake_c hT
  go_enter Tryd.func5, Tryd.ntmps5
  go_wp2_with (first | (go_at_call 7; refine aw.mono ?_; rintro e w' ⟨rfl, hb⟩))
  all_goals first
    | (exfalso; omega)
    | (go_ret; exact ⟨rfl, hb⟩)
abbrev Good (k n : Int) (W : World) : Prop := Calls Tryd.prog 5 #[.int .i64 k, .int .i64 n] W fun e W' => e = .returned (.bool true) ∧ Below W.heap.size W W'
theorem mod15 (k : Int) : ∃ i : Nat, k % 15 = (i : Int) ∧ (i = 0 ∨ i = 1 ∨ i = 2 ∨ i = 3 ∨ i = 4 ∨ i = 5 ∨ i = 6 ∨ i = 7 ∨ i = 8 ∨ i = 9 ∨ i = 10 ∨ i = 11 ∨ i = 12 ∨ i = 13 ∨ i = 14) := ⟨(k % 15).toNat, by omega, by omega⟩
theorem forms_z (k : Int) {W : World} (hT : HM.Tabs W) : Good k 0 W := by
  letI : HM.Amb := HM.Amb.none
  obtain ⟨i, hi, h⟩ := mod15 k
  have key : HM.lawRun 5 [.mod 15 i, .int .i64 0] = true → Good k 0 W := fun hr => HM.law_c hr (HM.VRs.cons (.mod 15 i k (by decide) hi) (HM.VRs.cons (.int .i64 0) (HM.VRs.nil _))) hT
  rcases h with rfl | rfl | rfl | rfl | rfl | rfl | rfl | rfl | rfl | rfl | rfl | rfl | rfl | rfl | rfl
  · exact key HM.sf_z_0
  · exact key HM.sf_z_1
  · exact key HM.sf_z_2
  · exact key HM.sf_z_3
  · exact key HM.sf_z_4
  · exact key HM.sf_z_5
  · exact key HM.sf_z_6
  · exact key HM.sf_z_7
  · exact key HM.sf_z_8
  · exact key HM.sf_z_9
  · exact key HM.sf_z_10
  · exact key HM.sf_z_11
  · exact key HM.sf_z_12
  · exact key HM.sf_z_13
  · exact key HM.sf_z_14
theorem forms_h (k : Int) {W : World} (hT : HM.Tabs W) : Good k 100000 W := by
  letI : HM.Amb := HM.Amb.none
  obtain ⟨i, hi, h⟩ := mod15 k
  have key : HM.lawRun 5 [.mod 15 i, .int .i64 100000] = true → Good k 100000 W := fun hr => HM.law_c hr (HM.VRs.cons (.mod 15 i k (by decide) hi) (HM.VRs.cons (.int .i64 100000) (HM.VRs.nil _))) hT
  rcases h with rfl | rfl | rfl | rfl | rfl | rfl | rfl | rfl | rfl | rfl | rfl | rfl | rfl | rfl | rfl
  · exact key HM.sf_h_0
  · exact key HM.sf_h_1
  · exact key HM.sf_h_2
  · exact key HM.sf_h_3
  · exact key HM.sf_h_4
  · exact key HM.sf_h_5
  · exact key HM.sf_h_6
  · exact key HM.sf_h_7
  · exact key HM.sf_h_8
  · exact key HM.sf_h_9
  · exact key HM.sf_h_10
  · exact key HM.sf_h_11
  · exact key HM.sf_h_12
  · exact key HM.sf_h_13
  · exact key HM.sf_h_14
theorem forms_d1 (k n : Int) (h0 : 1 ≤ n) (h1 : n ≤ 9) {W : World} (hT : HM.Tabs W) : Good k n W := by
  letI : HM.Amb := HM.Amb.nums (HM.digs 10 n)
  obtain ⟨i, hi, h⟩ := mod15 k
  have hv : HM.VR HM.Ren.nil (.lin .i64 0 (HM.terms 1 9 1 0 1)) (.int .i64 n) :=
    HM.VR.digits (e := n) (fun j x hj => HM.Amb.nums_at j x hj (by have := (List.getElem?_eq_some_iff.1 hj).1; rw [HM.digs_length] at this; omega)) (L := 0) (by decide) (by decide) (by omega) (by simp only [HM.topD]; omega) (by simp only [HM.topD]; omega) (by omega)
  have key : HM.lawRun 5 [.mod 15 i, .lin .i64 0 (HM.terms 1 9 1 0 1)] = true → Good k n W := fun hr => HM.law_c hr (HM.VRs.cons (.mod 15 i k (by decide) hi) (HM.VRs.cons hv (HM.VRs.nil _))) hT
  rcases h with rfl | rfl | rfl | rfl | rfl | rfl | rfl | rfl | rfl | rfl | rfl | rfl | rfl | rfl | rfl
  · exact key HM.sf_d1_0
  · exact key HM.sf_d1_1
  · exact key HM.sf_d1_2
  · exact key HM.sf_d1_3
  · exact key HM.sf_d1_4
  · exact key HM.sf_d1_5
  · exact key HM.sf_d1_6
  · exact key HM.sf_d1_7
  · exact key HM.sf_d1_8
  · exact key HM.sf_d1_9
  · exact key HM.sf_d1_10
  · exact key HM.sf_d1_11
  · exact key HM.sf_d1_12
  · exact key HM.sf_d1_13
  · exact key HM.sf_d1_14
theorem forms_d2 (k n : Int) (h0 : 10 ≤ n) (h1 : n ≤ 99) {W : World} (hT : HM.Tabs W) : Good k n W := by
  letI : HM.Amb := HM.Amb.nums (HM.digs 10 n)
  obtain ⟨i, hi, h⟩ := mod15 k
  have hv : HM.VR HM.Ren.nil (.lin .i64 0 (HM.terms 1 9 2 0 1)) (.int .i64 n) :=
    HM.VR.digits (e := n) (fun j x hj => HM.Amb.nums_at j x hj (by have := (List.getElem?_eq_some_iff.1 hj).1; rw [HM.digs_length] at this; omega)) (L := 1) (by decide) (by decide) (by omega) (by simp only [HM.topD]; omega) (by simp only [HM.topD]; omega) (by omega)
  have key : HM.lawRun 5 [.mod 15 i, .lin .i64 0 (HM.terms 1 9 2 0 1)] = true → Good k n W := fun hr => HM.law_c hr (HM.VRs.cons (.mod 15 i k (by decide) hi) (HM.VRs.cons hv (HM.VRs.nil _))) hT
  rcases h with rfl | rfl | rfl | rfl | rfl | rfl | rfl | rfl | rfl | rfl | rfl | rfl | rfl | rfl | rfl
  · exact key HM.sf_d2_0
  · exact key HM.sf_d2_1
  · exact key HM.sf_d2_2
  · exact key HM.sf_d2_3
  · exact key HM.sf_d2_4
  · exact key HM.sf_d2_5
  · exact key HM.sf_d2_6
  · exact key HM.sf_d2_7
  · exact key HM.sf_d2_8
  · exact key HM.sf_d2_9
  · exact key HM.sf_d2_10
  · exact key HM.sf_d2_11
  · exact key HM.sf_d2_12
  · exact key HM.sf_d2_13
  · exact key HM.sf_d2_14
theorem forms_d3 (k n : Int) (h0 : 100 ≤ n) (h1 : n ≤ 999) {W : World} (hT : HM.Tabs W) : Good k n W := by
  letI : HM.Amb := HM.Amb.nums (HM.digs 10 n)
  obtain ⟨i, hi, h⟩ := mod15 k
  have hv : HM.VR HM.Ren.nil (.lin .i64 0 (HM.terms 1 9 3 0 1)) (.int .i64 n) :=
    HM.VR.digits (e := n) (fun j x hj => HM.Amb.nums_at j x hj (by have := (List.getElem?_eq_some_iff.1 hj).1; rw [HM.digs_length] at this; omega)) (L := 2) (by decide) (by decide) (by omega) (by simp only [HM.topD]; omega) (by simp only [HM.topD]; omega) (by omega)
  have key : HM.lawRun 5 [.mod 15 i, .lin .i64 0 (HM.terms 1 9 3 0 1)] = true → Good k n W := fun hr => HM.law_c hr (HM.VRs.cons (.mod 15 i k (by decide) hi) (HM.VRs.cons hv (HM.VRs.nil _))) hT
  rcases h with rfl | rfl | rfl | rfl | rfl | rfl | rfl | rfl | rfl | rfl | rfl | rfl | rfl | rfl | rfl
  · exact key HM.sf_d3_0
  · exact key HM.sf_d3_1
  · exact key HM.sf_d3_2
  · exact key HM.sf_d3_3
  · exact key HM.sf_d3_4
  · exact key HM.sf_d3_5
  · exact key HM.sf_d3_6
  · exact key HM.sf_d3_7
  · exact key HM.sf_d3_8
  · exact key HM.sf_d3_9
  · exact key HM.sf_d3_10
  · exact key HM.sf_d3_11
  · exact key HM.sf_d3_12
  · exact key HM.sf_d3_13
  · exact key HM.sf_d3_14
theorem forms_d4 (k n : Int) (h0 : 1000 ≤ n) (h1 : n ≤ 9999) {W : World} (hT : HM.Tabs W) : Good k n W := by
  letI : HM.Amb := HM.Amb.nums (HM.digs 10 n)
  obtain ⟨i, hi, h⟩ := mod15 k
  have hv : HM.VR HM.Ren.nil (.lin .i64 0 (HM.terms 1 9 4 0 1)) (.int .i64 n) :=
    HM.VR.digits (e := n) (fun j x hj => HM.Amb.nums_at j x hj (by have := (List.getElem?_eq_some_iff.1 hj).1; rw [HM.digs_length] at this; omega)) (L := 3) (by decide) (by decide) (by omega) (by simp only [HM.topD]; omega) (by simp only [HM.topD]; omega) (by omega)
  have key : HM.lawRun 5 [.mod 15 i, .lin .i64 0 (HM.terms 1 9 4 0 1)] = true → Good k n W := fun hr => HM.law_c hr (HM.VRs.cons (.mod 15 i k (by decide) hi) (HM.VRs.cons hv (HM.VRs.nil _))) hT
  rcases h with rfl | rfl | rfl | rfl | rfl | rfl | rfl | rfl | rfl | rfl | rfl | rfl | rfl | rfl | rfl
  · exact key HM.sf_d4_0
  · exact key HM.sf_d4_1
  · exact key HM.sf_d4_2
  · exact key HM.sf_d4_3
  · exact key HM.sf_d4_4
  · exact key HM.sf_d4_5
  · exact key HM.sf_d4_6
  · exact key HM.sf_d4_7
  · exact key HM.sf_d4_8
  · exact key HM.sf_d4_9
  · exact key HM.sf_d4_10
  · exact key HM.sf_d4_11
  · exact key HM.sf_d4_12
  · exact key HM.sf_d4_13
  · exact key HM.sf_d4_14
theorem forms_d5 (k n : Int) (h0 : 10000 ≤ n) (h1 : n ≤ 99999) {W : World} (hT : HM.Tabs W) : Good k n W := by
  letI : HM.Amb := HM.Amb.nums (HM.digs 10 n)
  obtain ⟨i, hi, h⟩ := mod15 k
  have hv : HM.VR HM.Ren.nil (.lin .i64 0 (HM.terms 1 9 5 0 1)) (.int .i64 n) :=
    HM.VR.digits (e := n) (fun j x hj => HM.Amb.nums_at j x hj (by have := (List.getElem?_eq_some_iff.1 hj).1; rw [HM.digs_length] at this; omega)) (L := 4) (by decide) (by decide) (by omega) (by simp only [HM.topD]; omega) (by simp only [HM.topD]; omega) (by omega)
  have key : HM.lawRun 5 [.mod 15 i, .lin .i64 0 (HM.terms 1 9 5 0 1)] = true → Good k n W := fun hr => HM.law_c hr (HM.VRs.cons (.mod 15 i k (by decide) hi) (HM.VRs.cons hv (HM.VRs.nil _))) hT
  rcases h with rfl | rfl | rfl | rfl | rfl | rfl | rfl | rfl | rfl | rfl | rfl | rfl | rfl | rfl | rfl
  · exact key HM.sf_d5_0
  · exact key HM.sf_d5_1
  · exact key HM.sf_d5_2
  · exact key HM.sf_d5_3
  · exact key HM.sf_d5_4
  · exact key HM.sf_d5_5
  · exact key HM.sf_d5_6
  · exact key HM.sf_d5_7
  · exact key HM.sf_d5_8
  · exact key HM.sf_d5_9
  · exact key HM.sf_d5_10
  · exact key HM.sf_d5_11
  · exact key HM.sf_d5_12
  · exact key HM.sf_d5_13
  · exact key HM.sf_d5_14
theorem forms_all (k n : Int) {W : World} (hT : HM.Tabs W) : Good k n W := by
  by_cases hr : 0 ≤ n ∧ n ≤ 100000
  · have h : n = 0 ∨ n = 100000 ∨ (1 ≤ n ∧ n ≤ 9) ∨ (10 ≤ n ∧ n ≤ 99) ∨ (100 ≤ n ∧ n ≤ 999) ∨ (1000 ≤ n ∧ n ≤ 9999) ∨ (10000 ≤ n ∧ n ≤ 99999) := by omega
    rcases h with rfl | rfl | h | h | h | h | h
    · exact forms_z k hT
    · exact forms_h k hT
    · exact forms_d1 k n h.1 h.2 hT
    · exact forms_d2 k n h.1 h.2 hT
    · exact forms_d3 k n h.1 h.2 hT
    · exact forms_d4 k n h.1 h.2 hT
    · exact forms_d5 k n h.1 h.2 hT
  · exact forms_out k n hr hT
end Go.Proofs.YtfobenohimepaaaDoor.Sel
