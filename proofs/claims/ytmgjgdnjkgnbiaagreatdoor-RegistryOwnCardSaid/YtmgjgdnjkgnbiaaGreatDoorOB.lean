/- fleuronlaw11.RegistryOwn returns true for all arguments, and leaves what was there. -/
import Derived.Test.YtmgjgdnjkgnbiaaGreatDoorOa1
import Derived.Test.YtmgjgdnjkgnbiaaGreatDoorOa2
import Derived.Test.YtmgjgdnjkgnbiaaGreatDoorOa3
import Derived.Test.YtmgjgdnjkgnbiaaGreatDoorOa4
import Derived.Test.YtmgjgdnjkgnbiaaGreatDoorOa5
import Derived.Test.YtmgjgdnjkgnbiaaGreatDoorOa6
import Derived.Test.YtmgjgdnjkgnbiaaGreatDoorOa7
import Derived.Test.YtmgjgdnjkgnbiaaGreatDoorOa8
import Derived.Test.YtmgjgdnjkgnbiaaGreatDoorOa9
import Derived.Test.YtmgjgdnjkgnbiaaGreatDoorOa10
import Derived.Test.YtmgjgdnjkgnbiaaGreatDoorOa11
import Derived.Test.YtmgjgdnjkgnbiaaGreatDoorOa12
import Derived.Test.YtmgjgdnjkgnbiaaGreatDoorOa13
import Derived.Test.YtmgjgdnjkgnbiaaGreatDoorOa14
import Derived.Test.YtmgjgdnjkgnbiaaGreatDoorOL
import Derived.Test.YtmgjgdnjkgnbiaaGreatDoorPE
namespace Go.Proofs.YtmgjgdnjkgnbiaaGreatDoor.HM
open Go Go.RowKit
theorem orow_0 (s : Nat) (h : s < 7) : OwR 0 s = true := by
  have h : s = 0 ∨ s = 1 ∨ s = 2 ∨ s = 3 ∨ s = 4 ∨ s = 5 ∨ s = 6 := by omega
  rcases h with rfl | rfl | rfl | rfl | rfl | rfl | rfl
  · exact o_0_0
  · exact o_0_1
  · exact o_0_2
  · exact o_0_3
  · exact o_0_4
  · exact o_0_5
  · exact o_0_6
theorem orow_1 (s : Nat) (h : s < 7) : OwR 1 s = true := by
  have h : s = 0 ∨ s = 1 ∨ s = 2 ∨ s = 3 ∨ s = 4 ∨ s = 5 ∨ s = 6 := by omega
  rcases h with rfl | rfl | rfl | rfl | rfl | rfl | rfl
  · exact o_1_0
  · exact o_1_1
  · exact o_1_2
  · exact o_1_3
  · exact o_1_4
  · exact o_1_5
  · exact o_1_6
theorem orow_2 (s : Nat) (h : s < 7) : OwR 2 s = true := by
  have h : s = 0 ∨ s = 1 ∨ s = 2 ∨ s = 3 ∨ s = 4 ∨ s = 5 ∨ s = 6 := by omega
  rcases h with rfl | rfl | rfl | rfl | rfl | rfl | rfl
  · exact o_2_0
  · exact o_2_1
  · exact o_2_2
  · exact o_2_3
  · exact o_2_4
  · exact o_2_5
  · exact o_2_6
theorem orow_3 (s : Nat) (h : s < 7) : OwR 3 s = true := by
  have h : s = 0 ∨ s = 1 ∨ s = 2 ∨ s = 3 ∨ s = 4 ∨ s = 5 ∨ s = 6 := by omega
  rcases h with rfl | rfl | rfl | rfl | rfl | rfl | rfl
  · exact o_3_0
  · exact o_3_1
  · exact o_3_2
  · exact o_3_3
  · exact o_3_4
  · exact o_3_5
  · exact o_3_6
theorem orow_4 (s : Nat) (h : s < 7) : OwR 4 s = true := by
  have h : s = 0 ∨ s = 1 ∨ s = 2 ∨ s = 3 ∨ s = 4 ∨ s = 5 ∨ s = 6 := by omega
  rcases h with rfl | rfl | rfl | rfl | rfl | rfl | rfl
  · exact o_4_0
  · exact o_4_1
  · exact o_4_2
  · exact o_4_3
  · exact o_4_4
  · exact o_4_5
  · exact o_4_6
theorem orow_5 (s : Nat) (h : s < 7) : OwR 5 s = true := by
  have h : s = 0 ∨ s = 1 ∨ s = 2 ∨ s = 3 ∨ s = 4 ∨ s = 5 ∨ s = 6 := by omega
  rcases h with rfl | rfl | rfl | rfl | rfl | rfl | rfl
  · exact o_5_0
  · exact o_5_1
  · exact o_5_2
  · exact o_5_3
  · exact o_5_4
  · exact o_5_5
  · exact o_5_6
theorem orow_6 (s : Nat) (h : s < 7) : OwR 6 s = true := by
  have h : s = 0 ∨ s = 1 ∨ s = 2 ∨ s = 3 ∨ s = 4 ∨ s = 5 ∨ s = 6 := by omega
  rcases h with rfl | rfl | rfl | rfl | rfl | rfl | rfl
  · exact o_6_0
  · exact o_6_1
  · exact o_6_2
  · exact o_6_3
  · exact o_6_4
  · exact o_6_5
  · exact o_6_6
theorem orow_7 (s : Nat) (h : s < 7) : OwR 7 s = true := by
  have h : s = 0 ∨ s = 1 ∨ s = 2 ∨ s = 3 ∨ s = 4 ∨ s = 5 ∨ s = 6 := by omega
  rcases h with rfl | rfl | rfl | rfl | rfl | rfl | rfl
  · exact o_7_0
  · exact o_7_1
  · exact o_7_2
  · exact o_7_3
  · exact o_7_4
  · exact o_7_5
  · exact o_7_6
theorem orow_8 (s : Nat) (h : s < 7) : OwR 8 s = true := by
  have h : s = 0 ∨ s = 1 ∨ s = 2 ∨ s = 3 ∨ s = 4 ∨ s = 5 ∨ s = 6 := by omega
  rcases h with rfl | rfl | rfl | rfl | rfl | rfl | rfl
  · exact o_8_0
  · exact o_8_1
  · exact o_8_2
  · exact o_8_3
  · exact o_8_4
  · exact o_8_5
  · exact o_8_6
theorem orow_9 (s : Nat) (h : s < 7) : OwR 9 s = true := by
  have h : s = 0 ∨ s = 1 ∨ s = 2 ∨ s = 3 ∨ s = 4 ∨ s = 5 ∨ s = 6 := by omega
  rcases h with rfl | rfl | rfl | rfl | rfl | rfl | rfl
  · exact o_9_0
  · exact o_9_1
  · exact o_9_2
  · exact o_9_3
  · exact o_9_4
  · exact o_9_5
  · exact o_9_6
theorem oruns (i s : Nat) (hi : i < 10) (h : s < 7) : OwR i s = true := by
  have hi : i = 0 ∨ i = 1 ∨ i = 2 ∨ i = 3 ∨ i = 4 ∨ i = 5 ∨ i = 6 ∨ i = 7 ∨ i = 8 ∨ i = 9 := by omega
  rcases hi with rfl | rfl | rfl | rfl | rfl | rfl | rfl | rfl | rfl | rfl
  · exact orow_0 s h
  · exact orow_1 s h
  · exact orow_2 s h
  · exact orow_3 s h
  · exact orow_4 s h
  · exact orow_5 s h
  · exact orow_6 s h
  · exact orow_7 s h
  · exact orow_8 s h
  · exact orow_9 s h
end Go.Proofs.YtmgjgdnjkgnbiaaGreatDoor.HM
namespace Go.Proofs.YtmgjgdnjkgnbiaaGreatDoor.Reg
open Go Go.RowKit
abbrev GoodO (k n : Int) (W : World) : Prop := Calls Tryz.prog 6 #[.int .i64 k, .int .i64 n] W fun e W' => e = .returned (.bool true) ∧ Below W.heap.size W W'
theorem own_out (k n : Int) (h : n < -100 ∨ 100 < n) {W : World} (hT : HM.Tabs W) : GoodO k n W := by
  letI : HM.Amb := HM.Amb.none
  have aw := HM.awake_c hT
  rcases h with h | h
  all_goals
    go_enter Tryz.func6, Tryz.ntmps6
    go_wp2_with (first | (go_at_call 10; refine aw.mono ?_; rintro e w' ⟨rfl, hb⟩))
    all_goals first
      | (exfalso; omega)
      | (go_ret; exact ⟨rfl, hb⟩)
theorem own_neg (k n : Int) (h : (-100 ≤ n ∧ n ≤ 0) ∨ n = 100) {W : World} (hT : HM.Tabs W) : GoodO k n W := by
  letI : HM.Amb := HM.Amb.nums [-n % 10, -n / 10]
  have hk : HM.VR HM.Ren.nil (.mod 10 (k % 10).toNat) (.int .i64 k) := .mod 10 _ k (by decide) (by omega)
  have hki : (k % 10).toNat < 10 := by omega
  have E0 : (HM.Amb.nums [-n % 10, -n / 10]).num 0 = -n % 10 := HM.Amb.nums_at 0 _ rfl (by decide)
  have E1 : (HM.Amb.nums [-n % 10, -n / 10]).num 1 = -n / 10 := HM.Amb.nums_at 1 _ rfl (by decide)
  by_cases e0 : n = 0
  · subst e0; exact HM.law_c (HM.oruns _ 3 hki (by decide)) (HM.VRs.cons hk (HM.VRs.cons (.int .i64 0) (HM.VRs.nil _))) hT
  by_cases e3 : n = -100
  · subst e3; exact HM.law_c (HM.oruns _ 0 hki (by decide)) (HM.VRs.cons hk (HM.VRs.cons (.int .i64 _) (HM.VRs.nil _))) hT
  by_cases e6 : n = 100
  · subst e6; exact HM.law_c (HM.oruns _ 6 hki (by decide)) (HM.VRs.cons hk (HM.VRs.cons (.int .i64 _) (HM.VRs.nil _))) hT
  by_cases e1 : -9 ≤ n
  · have hv : HM.VR HM.Ren.nil (HM.osh 2) (.int .i64 n) := HM.VR.lin1 (by rw [E0]; omega) (by rw [E0]; omega) (by rw [E0]; show n = 0 + (-1) * (-n % 10); omega)
    exact HM.law_c (HM.oruns _ 2 hki (by decide)) (HM.VRs.cons hk (HM.VRs.cons hv (HM.VRs.nil _))) hT
  · have hv : HM.VR HM.Ren.nil (HM.osh 1) (.int .i64 n) := HM.VR.lin2 (by rw [E0]; omega) (by rw [E0]; omega) (by rw [E1]; omega) (by rw [E1]; omega) (by rw [E0, E1]; show n = 0 + (-1) * (-n % 10) + (-10) * (-n / 10); omega)
    exact HM.law_c (HM.oruns _ 1 hki (by decide)) (HM.VRs.cons hk (HM.VRs.cons hv (HM.VRs.nil _))) hT
theorem own_pos (k : Int) (n : Nat) (h1 : 1 ≤ n) (h2 : n < 100) {W : World} (hT : HM.Tabs W) : GoodO k n W := by
  have h4 : n < 4000 := by omega
  letI : HM.Amb := HM.Amb.tx [(n : Int) % 10, (n : Int) / 10] (txs n) (fun T hT => (txs_ok n h1 h4 T hT).1)
  have E0 : (HM.Amb.tx [(n : Int) % 10, (n : Int) / 10] (txs n) (fun T hT => (txs_ok n h1 h4 T hT).1)).num 0 = (n : Int) % 10 := rfl
  have E1 : (HM.Amb.tx [(n : Int) % 10, (n : Int) / 10] (txs n) (fun T hT => (txs_ok n h1 h4 T hT).1)).num 1 = (n : Int) / 10 := rfl
  have hk : HM.VR HM.Ren.nil (.mod 10 (k % 10).toNat) (.int .i64 k) := .mod 10 _ k (by decide) (by omega)
  have hki : (k % 10).toNat < 10 := by omega
  by_cases e1 : n ≤ 9
  · have hv : HM.VR HM.Ren.nil (HM.osh 4) (.int .i64 (n : Int)) := HM.VR.lin1 (by rw [E0]; omega) (by rw [E0]; omega) (by rw [E0]; omega)
    have K := own_known n h1 h4 [(n : Int) % 10, (n : Int) / 10] (HM.osh 4) (fun ρ u hu => by
      cases hu with
      | lin _ _ _ q hok hq =>
        simp only [HM.sumR, HM.valR, E0] at hq
        rw [show q = (n : Int) by omega])
    exact HM.law_cS K (HM.oruns _ 4 hki (by decide)) (HM.VRs.cons hk (HM.VRs.cons hv (HM.VRs.nil _))) hT
  · have hv : HM.VR HM.Ren.nil (HM.osh 5) (.int .i64 (n : Int)) := HM.VR.lin2 (by rw [E0]; omega) (by rw [E0]; omega) (by rw [E1]; omega) (by rw [E1]; omega) (by rw [E0, E1]; omega)
    have K := own_known n h1 h4 [(n : Int) % 10, (n : Int) / 10] (HM.osh 5) (fun ρ u hu => by
      cases hu with
      | lin _ _ _ q hok hq =>
        simp only [HM.sumR, HM.valR, E0, E1] at hq
        rw [show q = (n : Int) by omega])
    exact HM.law_cS K (HM.oruns _ 5 hki (by decide)) (HM.VRs.cons hk (HM.VRs.cons hv (HM.VRs.nil _))) hT
theorem own_all (k n : Int) {W : World} (hT : HM.Tabs W) : GoodO k n W := by
  by_cases h1 : n < -100 ∨ 100 < n
  · exact own_out k n h1 hT
  · by_cases h2 : 1 ≤ n ∧ n < 100
    · obtain ⟨m, rfl⟩ : ∃ m : Nat, n = (m : Int) := ⟨n.toNat, by omega⟩
      exact own_pos k m (by omega) (by omega) hT
    · exact own_neg k n (by omega) hT
end Go.Proofs.YtmgjgdnjkgnbiaaGreatDoor.Reg
