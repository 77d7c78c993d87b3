/- fleuronlaw11.RegistryExtends returns true for all arguments, and leaves what was there. -/
import Derived.Test.YtmgjgdnjkgnbiaaGreatDoorXa1
import Derived.Test.YtmgjgdnjkgnbiaaGreatDoorXa2
import Derived.Test.YtmgjgdnjkgnbiaaGreatDoorXa3
import Derived.Test.YtmgjgdnjkgnbiaaGreatDoorXa4
import Derived.Test.YtmgjgdnjkgnbiaaGreatDoorXa5
import Derived.Test.YtmgjgdnjkgnbiaaGreatDoorXa6
import Derived.Test.YtmgjgdnjkgnbiaaGreatDoorXa7
import Derived.Test.YtmgjgdnjkgnbiaaGreatDoorXa8
import Derived.Test.YtmgjgdnjkgnbiaaGreatDoorXa9
import Derived.Test.YtmgjgdnjkgnbiaaGreatDoorXa10
import Derived.Test.YtmgjgdnjkgnbiaaGreatDoorXa11
import Derived.Test.YtmgjgdnjkgnbiaaGreatDoorXa12
import Derived.Test.YtmgjgdnjkgnbiaaGreatDoorXa13
import Derived.Test.YtmgjgdnjkgnbiaaGreatDoorXa14
import Derived.Test.YtmgjgdnjkgnbiaaGreatDoorXa15
import Derived.Test.YtmgjgdnjkgnbiaaGreatDoorXa16
import Derived.Test.YtmgjgdnjkgnbiaaGreatDoorXa17
import Derived.Test.YtmgjgdnjkgnbiaaGreatDoorXa18
import Derived.Test.YtmgjgdnjkgnbiaaGreatDoorXa19
import Derived.Test.YtmgjgdnjkgnbiaaGreatDoorXa20
import Derived.Test.YtmgjgdnjkgnbiaaGreatDoorXS
namespace Go.Proofs.YtmgjgdnjkgnbiaaGreatDoor.HM
open Go Go.RowKit
theorem xrow_0 (l : Nat) (h : l < 8) : told (8 * 0 + l) = true ∧ XPa (8 * 0 + l) = true ∧ XPb (8 * 0 + l) = true ∧ XPc (8 * 0 + l) = true := by
  have h : l = 0 ∨ l = 1 ∨ l = 2 ∨ l = 3 ∨ l = 4 ∨ l = 5 ∨ l = 6 ∨ l = 7 := by omega
  rcases h with rfl | rfl | rfl | rfl | rfl | rfl | rfl | rfl
  · exact ⟨w_0, x_0, y_0, z_0⟩
  · exact ⟨w_1, x_1, y_1, z_1⟩
  · exact ⟨w_2, x_2, y_2, z_2⟩
  · exact ⟨w_3, x_3, y_3, z_3⟩
  · exact ⟨w_4, x_4, y_4, z_4⟩
  · exact ⟨w_5, x_5, y_5, z_5⟩
  · exact ⟨w_6, x_6, y_6, z_6⟩
  · exact ⟨w_7, x_7, y_7, z_7⟩
theorem xrow_1 (l : Nat) (h : l < 8) : told (8 * 1 + l) = true ∧ XPa (8 * 1 + l) = true ∧ XPb (8 * 1 + l) = true ∧ XPc (8 * 1 + l) = true := by
  have h : l = 0 ∨ l = 1 ∨ l = 2 ∨ l = 3 ∨ l = 4 ∨ l = 5 ∨ l = 6 ∨ l = 7 := by omega
  rcases h with rfl | rfl | rfl | rfl | rfl | rfl | rfl | rfl
  · exact ⟨w_8, x_8, y_8, z_8⟩
  · exact ⟨w_9, x_9, y_9, z_9⟩
  · exact ⟨w_10, x_10, y_10, z_10⟩
  · exact ⟨w_11, x_11, y_11, z_11⟩
  · exact ⟨w_12, x_12, y_12, z_12⟩
  · exact ⟨w_13, x_13, y_13, z_13⟩
  · exact ⟨w_14, x_14, y_14, z_14⟩
  · exact ⟨w_15, x_15, y_15, z_15⟩
theorem xrow_2 (l : Nat) (h : l < 8) : told (8 * 2 + l) = true ∧ XPa (8 * 2 + l) = true ∧ XPb (8 * 2 + l) = true ∧ XPc (8 * 2 + l) = true := by
  have h : l = 0 ∨ l = 1 ∨ l = 2 ∨ l = 3 ∨ l = 4 ∨ l = 5 ∨ l = 6 ∨ l = 7 := by omega
  rcases h with rfl | rfl | rfl | rfl | rfl | rfl | rfl | rfl
  · exact ⟨w_16, x_16, y_16, z_16⟩
  · exact ⟨w_17, x_17, y_17, z_17⟩
  · exact ⟨w_18, x_18, y_18, z_18⟩
  · exact ⟨w_19, x_19, y_19, z_19⟩
  · exact ⟨w_20, x_20, y_20, z_20⟩
  · exact ⟨w_21, x_21, y_21, z_21⟩
  · exact ⟨w_22, x_22, y_22, z_22⟩
  · exact ⟨w_23, x_23, y_23, z_23⟩
theorem xrow_3 (l : Nat) (h : l < 8) : told (8 * 3 + l) = true ∧ XPa (8 * 3 + l) = true ∧ XPb (8 * 3 + l) = true ∧ XPc (8 * 3 + l) = true := by
  have h : l = 0 ∨ l = 1 ∨ l = 2 ∨ l = 3 ∨ l = 4 ∨ l = 5 ∨ l = 6 ∨ l = 7 := by omega
  rcases h with rfl | rfl | rfl | rfl | rfl | rfl | rfl | rfl
  · exact ⟨w_24, x_24, y_24, z_24⟩
  · exact ⟨w_25, x_25, y_25, z_25⟩
  · exact ⟨w_26, x_26, y_26, z_26⟩
  · exact ⟨w_27, x_27, y_27, z_27⟩
  · exact ⟨w_28, x_28, y_28, z_28⟩
  · exact ⟨w_29, x_29, y_29, z_29⟩
  · exact ⟨w_30, x_30, y_30, z_30⟩
  · exact ⟨w_31, x_31, y_31, z_31⟩
theorem xrow_4 (l : Nat) (h : l < 8) : told (8 * 4 + l) = true ∧ XPa (8 * 4 + l) = true ∧ XPb (8 * 4 + l) = true ∧ XPc (8 * 4 + l) = true := by
  have h : l = 0 ∨ l = 1 ∨ l = 2 ∨ l = 3 ∨ l = 4 ∨ l = 5 ∨ l = 6 ∨ l = 7 := by omega
  rcases h with rfl | rfl | rfl | rfl | rfl | rfl | rfl | rfl
  · exact ⟨w_32, x_32, y_32, z_32⟩
  · exact ⟨w_33, x_33, y_33, z_33⟩
  · exact ⟨w_34, x_34, y_34, z_34⟩
  · exact ⟨w_35, x_35, y_35, z_35⟩
  · exact ⟨w_36, x_36, y_36, z_36⟩
  · exact ⟨w_37, x_37, y_37, z_37⟩
  · exact ⟨w_38, x_38, y_38, z_38⟩
  · exact ⟨w_39, x_39, y_39, z_39⟩
theorem xrow_5 (l : Nat) (h : l < 8) : told (8 * 5 + l) = true ∧ XPa (8 * 5 + l) = true ∧ XPb (8 * 5 + l) = true ∧ XPc (8 * 5 + l) = true := by
  have h : l = 0 ∨ l = 1 ∨ l = 2 ∨ l = 3 ∨ l = 4 ∨ l = 5 ∨ l = 6 ∨ l = 7 := by omega
  rcases h with rfl | rfl | rfl | rfl | rfl | rfl | rfl | rfl
  · exact ⟨w_40, x_40, y_40, z_40⟩
  · exact ⟨w_41, x_41, y_41, z_41⟩
  · exact ⟨w_42, x_42, y_42, z_42⟩
  · exact ⟨w_43, x_43, y_43, z_43⟩
  · exact ⟨w_44, x_44, y_44, z_44⟩
  · exact ⟨w_45, x_45, y_45, z_45⟩
  · exact ⟨w_46, x_46, y_46, z_46⟩
  · exact ⟨w_47, x_47, y_47, z_47⟩
theorem xrow_6 (l : Nat) (h : l < 8) : told (8 * 6 + l) = true ∧ XPa (8 * 6 + l) = true ∧ XPb (8 * 6 + l) = true ∧ XPc (8 * 6 + l) = true := by
  have h : l = 0 ∨ l = 1 ∨ l = 2 ∨ l = 3 ∨ l = 4 ∨ l = 5 ∨ l = 6 ∨ l = 7 := by omega
  rcases h with rfl | rfl | rfl | rfl | rfl | rfl | rfl | rfl
  · exact ⟨w_48, x_48, y_48, z_48⟩
  · exact ⟨w_49, x_49, y_49, z_49⟩
  · exact ⟨w_50, x_50, y_50, z_50⟩
  · exact ⟨w_51, x_51, y_51, z_51⟩
  · exact ⟨w_52, x_52, y_52, z_52⟩
  · exact ⟨w_53, x_53, y_53, z_53⟩
  · exact ⟨w_54, x_54, y_54, z_54⟩
  · exact ⟨w_55, x_55, y_55, z_55⟩
theorem xrow_7 (l : Nat) (h : l < 8) : told (8 * 7 + l) = true ∧ XPa (8 * 7 + l) = true ∧ XPb (8 * 7 + l) = true ∧ XPc (8 * 7 + l) = true := by
  have h : l = 0 ∨ l = 1 ∨ l = 2 ∨ l = 3 ∨ l = 4 ∨ l = 5 ∨ l = 6 ∨ l = 7 := by omega
  rcases h with rfl | rfl | rfl | rfl | rfl | rfl | rfl | rfl
  · exact ⟨w_56, x_56, y_56, z_56⟩
  · exact ⟨w_57, x_57, y_57, z_57⟩
  · exact ⟨w_58, x_58, y_58, z_58⟩
  · exact ⟨w_59, x_59, y_59, z_59⟩
  · exact ⟨w_60, x_60, y_60, z_60⟩
  · exact ⟨w_61, x_61, y_61, z_61⟩
  · exact ⟨w_62, x_62, y_62, z_62⟩
  · exact ⟨w_63, x_63, y_63, z_63⟩
theorem xruns (k : Nat) (hk : k < 64) : told k = true ∧ XPa k = true ∧ XPb k = true ∧ XPc k = true := by
  obtain ⟨a, l, ha, hl, rfl⟩ : ∃ a l, a < 8 ∧ l < 8 ∧ k = 8 * a + l := ⟨k / 8, k % 8, by omega, by omega, by omega⟩
  have ha : a = 0 ∨ a = 1 ∨ a = 2 ∨ a = 3 ∨ a = 4 ∨ a = 5 ∨ a = 6 ∨ a = 7 := by omega
  rcases ha with rfl | rfl | rfl | rfl | rfl | rfl | rfl | rfl
  · exact xrow_0 l hl
  · exact xrow_1 l hl
  · exact xrow_2 l hl
  · exact xrow_3 l hl
  · exact xrow_4 l hl
  · exact xrow_5 l hl
  · exact xrow_6 l hl
  · exact xrow_7 l hl
theorem xone (k i : Nat) (hk : k < 64) (hi : i ≤ 32) : X k i = true := by
  obtain ⟨_, h1, h2, h3⟩ := xruns k hk
  unfold XPa at h1
  unfold XPb at h2
  unfold XPc at h3
  simp only [Bool.and_eq_true] at h1 h2 h3
  obtain ⟨g0, g1, g2, g3, g4, g5, g6, g7, g8, g9, g10⟩ := h1
  obtain ⟨g11, g12, g13, g14, g15, g16, g17, g18, g19, g20, g21⟩ := h2
  obtain ⟨g22, g23, g24, g25, g26, g27, g28, g29, g30, g31, g32⟩ := h3
  have hi : i = 0 ∨ i = 1 ∨ i = 2 ∨ i = 3 ∨ i = 4 ∨ i = 5 ∨ i = 6 ∨ i = 7 ∨ i = 8 ∨ i = 9 ∨ i = 10 ∨ i = 11 ∨ i = 12 ∨ i = 13 ∨ i = 14 ∨ i = 15 ∨ i = 16 ∨ i = 17 ∨ i = 18 ∨ i = 19 ∨ i = 20 ∨ i = 21 ∨ i = 22 ∨ i = 23 ∨ i = 24 ∨ i = 25 ∨ i = 26 ∨ i = 27 ∨ i = 28 ∨ i = 29 ∨ i = 30 ∨ i = 31 ∨ i = 32 := by omega
  rcases hi with rfl | rfl | rfl | rfl | rfl | rfl | rfl | rfl | rfl | rfl | rfl | rfl | rfl | rfl | rfl | rfl | rfl | rfl | rfl | rfl | rfl | rfl | rfl | rfl | rfl | rfl | rfl | rfl | rfl | rfl | rfl | rfl | rfl
  · exact g0
  · exact g1
  · exact g2
  · exact g3
  · exact g4
  · exact g5
  · exact g6
  · exact g7
  · exact g8
  · exact g9
  · exact g10
  · exact g11
  · exact g12
  · exact g13
  · exact g14
  · exact g15
  · exact g16
  · exact g17
  · exact g18
  · exact g19
  · exact g20
  · exact g21
  · exact g22
  · exact g23
  · exact g24
  · exact g25
  · exact g26
  · exact g27
  · exact g28
  · exact g29
  · exact g30
  · exact g31
  · exact g32
end Go.Proofs.YtmgjgdnjkgnbiaaGreatDoor.HM
namespace Go.Proofs.YtmgjgdnjkgnbiaaGreatDoor.Ext
open Go Go.RowKit
abbrev GoodE (k n : Int) (W : World) : Prop := Calls Tryz.prog 5 #[.int .i64 k, .int .i64 n] W fun e W' => e = .returned (.bool true) ∧ Below W.heap.size W W'
set_option maxRecDepth 100000 in
theorem ext_out (k n : Int) (h : n < -2147483648 ∨ 2147483648 ≤ n) {W : World} (hT : HM.Tabs W) : GoodE k n W := by
  letI : HM.Amb := HM.Amb.none
  have aw := HM.awake_c hT
  rcases h with h | h
  all_goals
    go_enter Tryz.func5, Tryz.ntmps5
    go_wp2_with (first | (go_at_call 10; refine aw.mono ?_; rintro e w' ⟨rfl, hb⟩))
    all_goals first
      | (exfalso; omega)
      | (go_ret; exact ⟨rfl, hb⟩)
theorem ext_all (k n : Int) {W : World} (hT : HM.Tabs W) : GoodE k n W := by
  by_cases ho : n < -2147483648 ∨ 2147483648 ≤ n
  · exact ext_out k n ho hT
  · obtain ⟨E, i, hi, hv⟩ := shape_x n ⟨by omega, by omega⟩
    letI := E
    have hk : HM.VR HM.Ren.nil (.mod 64 (k % 64).toNat) (.int .i64 k) := .mod 64 _ k (by decide) (by omega)
    exact HM.law_cX (HM.xruns (k % 64).toNat (by omega)).1 (HM.xone (k % 64).toNat i (by omega) hi) (HM.VRs.cons hk (HM.VRs.cons hv (HM.VRs.nil _))) hT
end Go.Proofs.YtmgjgdnjkgnbiaaGreatDoor.Ext
