/- fleuronlaw11.RegistryAround returns true for all numbers, and leaves what was there. -/
import Derived.Test.YtmgjgdnjkgnbiaaGreatDoorRAa1
import Derived.Test.YtmgjgdnjkgnbiaaGreatDoorRAa2
import Derived.Test.YtmgjgdnjkgnbiaaGreatDoorRAa3
import Derived.Test.YtmgjgdnjkgnbiaaGreatDoorRAa4
import Derived.Test.YtmgjgdnjkgnbiaaGreatDoorRAa5
import Derived.Test.YtmgjgdnjkgnbiaaGreatDoorRAa6
import Derived.Test.YtmgjgdnjkgnbiaaGreatDoorRAa7
import Derived.Test.YtmgjgdnjkgnbiaaGreatDoorRAa8
import Derived.WalkKit
import Derived.ProofKit
import Derived.OpenShut
namespace Go.Proofs.YtmgjgdnjkgnbiaaGreatDoor.Sel
open Go Go.RowKit
theorem around_out (n v : Int) (t : Bool) (h : ¬ (1 ≤ n ∧ n ≤ 8 ∧ -2147483648 ≤ v ∧ v < 2147483648)) {W : World} (hT : HM.Tabs W) : Calls Tryz.prog 4 #[.int .i64 n, .int .i64 v, .bool t] W fun e w' => e = .returned (.bool true) ∧ Below W.heap.size W w' := by
  have aw := HM.awake_c hT
  go_enter Tryz.func4, Tryz.ntmps4
  go_wp2_with (first | (go_at_call 10; refine aw.mono ?_; rintro e w' ⟨rfl, hb⟩))
  all_goals first
    | (exfalso; omega)
    | (go_ret; exact ⟨rfl, hb⟩)
abbrev Good (n v : Int) (t : Bool) (W : World) : Prop := Calls Tryz.prog 4 #[.int .i64 n, .int .i64 v, .bool t] W fun e w' => e = .returned (.bool true) ∧ Below W.heap.size W w'
theorem key {n v e : Int} {t : Bool} {a : HM.V} {W : World} (hT : HM.Tabs W) (ha : HM.VR (HM.numR (HM.digs 10 e)) a (.int .i64 v)) (h : HM.R2 n a = true) : Good n v t W :=
  HM.law_cN e (HM.R2_inv h t) (HM.VRs.cons (.int .i64 n) (HM.VRs.cons ha (HM.VRs.cons (.bool t) (HM.VRs.nil _)))) hT
theorem shape_z (n : Int) (t : Bool) (hn : n = 1 ∨ n = 2 ∨ n = 3 ∨ n = 4 ∨ n = 5 ∨ n = 6 ∨ n = 7 ∨ n = 8) {W : World} (hT : HM.Tabs W) : Good n 0 t W := by
  rcases hn with rfl | rfl | rfl | rfl | rfl | rfl | rfl | rfl
  · exact key (e := 0) hT (show HM.VR _ HM.sz _ from .int .i64 0) HM.az_1
  · exact key (e := 0) hT (show HM.VR _ HM.sz _ from .int .i64 0) HM.az_2
  · exact key (e := 0) hT (show HM.VR _ HM.sz _ from .int .i64 0) HM.az_3
  · exact key (e := 0) hT (show HM.VR _ HM.sz _ from .int .i64 0) HM.az_4
  · exact key (e := 0) hT (show HM.VR _ HM.sz _ from .int .i64 0) HM.az_5
  · exact key (e := 0) hT (show HM.VR _ HM.sz _ from .int .i64 0) HM.az_6
  · exact key (e := 0) hT (show HM.VR _ HM.sz _ from .int .i64 0) HM.az_7
  · exact key (e := 0) hT (show HM.VR _ HM.sz _ from .int .i64 0) HM.az_8
theorem shape_p0 (n v : Int) (t : Bool) (hn : n = 1 ∨ n = 2 ∨ n = 3 ∨ n = 4 ∨ n = 5 ∨ n = 6 ∨ n = 7 ∨ n = 8) (h0 : 1 ≤ v ∧ v ≤ 9) {W : World} (hT : HM.Tabs W) : Good n v t W := by
  have hv : HM.VR (HM.numR (HM.digs 10 (v - 0))) HM.sp0 (.int .i64 v) :=
    HM.VR.digits (c := 0) (lo := 1) (hi := 9) (s := 1) (L := 0) (by decide) (by decide) (by omega) (by simp only [HM.topD]; omega) (by simp only [HM.topD]; omega) (by omega)
  rcases hn with rfl | rfl | rfl | rfl | rfl | rfl | rfl | rfl
  · exact key hT hv HM.ap0_1
  · exact key hT hv HM.ap0_2
  · exact key hT hv HM.ap0_3
  · exact key hT hv HM.ap0_4
  · exact key hT hv HM.ap0_5
  · exact key hT hv HM.ap0_6
  · exact key hT hv HM.ap0_7
  · exact key hT hv HM.ap0_8
theorem shape_p1 (n v : Int) (t : Bool) (hn : n = 1 ∨ n = 2 ∨ n = 3 ∨ n = 4 ∨ n = 5 ∨ n = 6 ∨ n = 7 ∨ n = 8) (h0 : 10 ≤ v ∧ v ≤ 99) {W : World} (hT : HM.Tabs W) : Good n v t W := by
  have hv : HM.VR (HM.numR (HM.digs 10 (v - 0))) HM.sp1 (.int .i64 v) :=
    HM.VR.digits (c := 0) (lo := 1) (hi := 9) (s := 1) (L := 1) (by decide) (by decide) (by omega) (by simp only [HM.topD]; omega) (by simp only [HM.topD]; omega) (by omega)
  rcases hn with rfl | rfl | rfl | rfl | rfl | rfl | rfl | rfl
  · exact key hT hv HM.ap1_1
  · exact key hT hv HM.ap1_2
  · exact key hT hv HM.ap1_3
  · exact key hT hv HM.ap1_4
  · exact key hT hv HM.ap1_5
  · exact key hT hv HM.ap1_6
  · exact key hT hv HM.ap1_7
  · exact key hT hv HM.ap1_8
theorem shape_p2 (n v : Int) (t : Bool) (hn : n = 1 ∨ n = 2 ∨ n = 3 ∨ n = 4 ∨ n = 5 ∨ n = 6 ∨ n = 7 ∨ n = 8) (h0 : 100 ≤ v ∧ v ≤ 999) {W : World} (hT : HM.Tabs W) : Good n v t W := by
  have hv : HM.VR (HM.numR (HM.digs 10 (v - 0))) HM.sp2 (.int .i64 v) :=
    HM.VR.digits (c := 0) (lo := 1) (hi := 9) (s := 1) (L := 2) (by decide) (by decide) (by omega) (by simp only [HM.topD]; omega) (by simp only [HM.topD]; omega) (by omega)
  rcases hn with rfl | rfl | rfl | rfl | rfl | rfl | rfl | rfl
  · exact key hT hv HM.ap2_1
  · exact key hT hv HM.ap2_2
  · exact key hT hv HM.ap2_3
  · exact key hT hv HM.ap2_4
  · exact key hT hv HM.ap2_5
  · exact key hT hv HM.ap2_6
  · exact key hT hv HM.ap2_7
  · exact key hT hv HM.ap2_8
theorem shape_p3 (n v : Int) (t : Bool) (hn : n = 1 ∨ n = 2 ∨ n = 3 ∨ n = 4 ∨ n = 5 ∨ n = 6 ∨ n = 7 ∨ n = 8) (h0 : 1000 ≤ v ∧ v ≤ 9999) {W : World} (hT : HM.Tabs W) : Good n v t W := by
  have hv : HM.VR (HM.numR (HM.digs 10 (v - 0))) HM.sp3 (.int .i64 v) :=
    HM.VR.digits (c := 0) (lo := 1) (hi := 9) (s := 1) (L := 3) (by decide) (by decide) (by omega) (by simp only [HM.topD]; omega) (by simp only [HM.topD]; omega) (by omega)
  rcases hn with rfl | rfl | rfl | rfl | rfl | rfl | rfl | rfl
  · exact key hT hv HM.ap3_1
  · exact key hT hv HM.ap3_2
  · exact key hT hv HM.ap3_3
  · exact key hT hv HM.ap3_4
  · exact key hT hv HM.ap3_5
  · exact key hT hv HM.ap3_6
  · exact key hT hv HM.ap3_7
  · exact key hT hv HM.ap3_8
theorem shape_p4 (n v : Int) (t : Bool) (hn : n = 1 ∨ n = 2 ∨ n = 3 ∨ n = 4 ∨ n = 5 ∨ n = 6 ∨ n = 7 ∨ n = 8) (h0 : 10000 ≤ v ∧ v ≤ 99999) {W : World} (hT : HM.Tabs W) : Good n v t W := by
  have hv : HM.VR (HM.numR (HM.digs 10 (v - 0))) HM.sp4 (.int .i64 v) :=
    HM.VR.digits (c := 0) (lo := 1) (hi := 9) (s := 1) (L := 4) (by decide) (by decide) (by omega) (by simp only [HM.topD]; omega) (by simp only [HM.topD]; omega) (by omega)
  rcases hn with rfl | rfl | rfl | rfl | rfl | rfl | rfl | rfl
  · exact key hT hv HM.ap4_1
  · exact key hT hv HM.ap4_2
  · exact key hT hv HM.ap4_3
  · exact key hT hv HM.ap4_4
  · exact key hT hv HM.ap4_5
  · exact key hT hv HM.ap4_6
  · exact key hT hv HM.ap4_7
  · exact key hT hv HM.ap4_8
theorem shape_p5 (n v : Int) (t : Bool) (hn : n = 1 ∨ n = 2 ∨ n = 3 ∨ n = 4 ∨ n = 5 ∨ n = 6 ∨ n = 7 ∨ n = 8) (h0 : 100000 ≤ v ∧ v ≤ 999999) {W : World} (hT : HM.Tabs W) : Good n v t W := by
  have hv : HM.VR (HM.numR (HM.digs 10 (v - 0))) HM.sp5 (.int .i64 v) :=
    HM.VR.digits (c := 0) (lo := 1) (hi := 9) (s := 1) (L := 5) (by decide) (by decide) (by omega) (by simp only [HM.topD]; omega) (by simp only [HM.topD]; omega) (by omega)
  rcases hn with rfl | rfl | rfl | rfl | rfl | rfl | rfl | rfl
  · exact key hT hv HM.ap5_1
  · exact key hT hv HM.ap5_2
  · exact key hT hv HM.ap5_3
  · exact key hT hv HM.ap5_4
  · exact key hT hv HM.ap5_5
  · exact key hT hv HM.ap5_6
  · exact key hT hv HM.ap5_7
  · exact key hT hv HM.ap5_8
theorem shape_p6 (n v : Int) (t : Bool) (hn : n = 1 ∨ n = 2 ∨ n = 3 ∨ n = 4 ∨ n = 5 ∨ n = 6 ∨ n = 7 ∨ n = 8) (h0 : 1000000 ≤ v ∧ v ≤ 9999999) {W : World} (hT : HM.Tabs W) : Good n v t W := by
  have hv : HM.VR (HM.numR (HM.digs 10 (v - 0))) HM.sp6 (.int .i64 v) :=
    HM.VR.digits (c := 0) (lo := 1) (hi := 9) (s := 1) (L := 6) (by decide) (by decide) (by omega) (by simp only [HM.topD]; omega) (by simp only [HM.topD]; omega) (by omega)
  rcases hn with rfl | rfl | rfl | rfl | rfl | rfl | rfl | rfl
  · exact key hT hv HM.ap6_1
  · exact key hT hv HM.ap6_2
  · exact key hT hv HM.ap6_3
  · exact key hT hv HM.ap6_4
  · exact key hT hv HM.ap6_5
  · exact key hT hv HM.ap6_6
  · exact key hT hv HM.ap6_7
  · exact key hT hv HM.ap6_8
theorem shape_p7 (n v : Int) (t : Bool) (hn : n = 1 ∨ n = 2 ∨ n = 3 ∨ n = 4 ∨ n = 5 ∨ n = 6 ∨ n = 7 ∨ n = 8) (h0 : 10000000 ≤ v ∧ v ≤ 99999999) {W : World} (hT : HM.Tabs W) : Good n v t W := by
  have hv : HM.VR (HM.numR (HM.digs 10 (v - 0))) HM.sp7 (.int .i64 v) :=
    HM.VR.digits (c := 0) (lo := 1) (hi := 9) (s := 1) (L := 7) (by decide) (by decide) (by omega) (by simp only [HM.topD]; omega) (by simp only [HM.topD]; omega) (by omega)
  rcases hn with rfl | rfl | rfl | rfl | rfl | rfl | rfl | rfl
  · exact key hT hv HM.ap7_1
  · exact key hT hv HM.ap7_2
  · exact key hT hv HM.ap7_3
  · exact key hT hv HM.ap7_4
  · exact key hT hv HM.ap7_5
  · exact key hT hv HM.ap7_6
  · exact key hT hv HM.ap7_7
  · exact key hT hv HM.ap7_8
theorem shape_p8 (n v : Int) (t : Bool) (hn : n = 1 ∨ n = 2 ∨ n = 3 ∨ n = 4 ∨ n = 5 ∨ n = 6 ∨ n = 7 ∨ n = 8) (h0 : 100000000 ≤ v ∧ v ≤ 999999999) {W : World} (hT : HM.Tabs W) : Good n v t W := by
  have hv : HM.VR (HM.numR (HM.digs 10 (v - 0))) HM.sp8 (.int .i64 v) :=
    HM.VR.digits (c := 0) (lo := 1) (hi := 9) (s := 1) (L := 8) (by decide) (by decide) (by omega) (by simp only [HM.topD]; omega) (by simp only [HM.topD]; omega) (by omega)
  rcases hn with rfl | rfl | rfl | rfl | rfl | rfl | rfl | rfl
  · exact key hT hv HM.ap8_1
  · exact key hT hv HM.ap8_2
  · exact key hT hv HM.ap8_3
  · exact key hT hv HM.ap8_4
  · exact key hT hv HM.ap8_5
  · exact key hT hv HM.ap8_6
  · exact key hT hv HM.ap8_7
  · exact key hT hv HM.ap8_8
theorem shape_p9 (n v : Int) (t : Bool) (hn : n = 1 ∨ n = 2 ∨ n = 3 ∨ n = 4 ∨ n = 5 ∨ n = 6 ∨ n = 7 ∨ n = 8) (h0 : 1000000000 ≤ v ∧ v ≤ 1999999999) {W : World} (hT : HM.Tabs W) : Good n v t W := by
  have hv : HM.VR (HM.numR (HM.digs 10 (v - 1000000000))) HM.sp9 (.int .i64 v) :=
    HM.VR.digits (c := 1000000000) (lo := 0) (hi := 9) (s := 1) (L := 8) (by decide) (by decide) (by omega) (by simp only [HM.topD]; omega) (by simp only [HM.topD]; omega) (by omega)
  rcases hn with rfl | rfl | rfl | rfl | rfl | rfl | rfl | rfl
  · exact key hT hv HM.ap9_1
  · exact key hT hv HM.ap9_2
  · exact key hT hv HM.ap9_3
  · exact key hT hv HM.ap9_4
  · exact key hT hv HM.ap9_5
  · exact key hT hv HM.ap9_6
  · exact key hT hv HM.ap9_7
  · exact key hT hv HM.ap9_8
theorem shape_p10 (n v : Int) (t : Bool) (hn : n = 1 ∨ n = 2 ∨ n = 3 ∨ n = 4 ∨ n = 5 ∨ n = 6 ∨ n = 7 ∨ n = 8) (h0 : 2000000000 ≤ v ∧ v ≤ 2099999999) {W : World} (hT : HM.Tabs W) : Good n v t W := by
  have hv : HM.VR (HM.numR (HM.digs 10 (v - 2000000000))) HM.sp10 (.int .i64 v) :=
    HM.VR.digits (c := 2000000000) (lo := 0) (hi := 0) (s := 1) (L := 8) (by decide) (by decide) (by omega) (by simp only [HM.topD]; omega) (by simp only [HM.topD]; omega) (by omega)
  rcases hn with rfl | rfl | rfl | rfl | rfl | rfl | rfl | rfl
  · exact key hT hv HM.ap10_1
  · exact key hT hv HM.ap10_2
  · exact key hT hv HM.ap10_3
  · exact key hT hv HM.ap10_4
  · exact key hT hv HM.ap10_5
  · exact key hT hv HM.ap10_6
  · exact key hT hv HM.ap10_7
  · exact key hT hv HM.ap10_8
theorem shape_p11 (n v : Int) (t : Bool) (hn : n = 1 ∨ n = 2 ∨ n = 3 ∨ n = 4 ∨ n = 5 ∨ n = 6 ∨ n = 7 ∨ n = 8) (h0 : 2100000000 ≤ v ∧ v ≤ 2139999999) {W : World} (hT : HM.Tabs W) : Good n v t W := by
  have hv : HM.VR (HM.numR (HM.digs 10 (v - 2100000000))) HM.sp11 (.int .i64 v) :=
    HM.VR.digits (c := 2100000000) (lo := 0) (hi := 3) (s := 1) (L := 7) (by decide) (by decide) (by omega) (by simp only [HM.topD]; omega) (by simp only [HM.topD]; omega) (by omega)
  rcases hn with rfl | rfl | rfl | rfl | rfl | rfl | rfl | rfl
  · exact key hT hv HM.ap11_1
  · exact key hT hv HM.ap11_2
  · exact key hT hv HM.ap11_3
  · exact key hT hv HM.ap11_4
  · exact key hT hv HM.ap11_5
  · exact key hT hv HM.ap11_6
  · exact key hT hv HM.ap11_7
  · exact key hT hv HM.ap11_8
theorem shape_p12 (n v : Int) (t : Bool) (hn : n = 1 ∨ n = 2 ∨ n = 3 ∨ n = 4 ∨ n = 5 ∨ n = 6 ∨ n = 7 ∨ n = 8) (h0 : 2140000000 ≤ v ∧ v ≤ 2146999999) {W : World} (hT : HM.Tabs W) : Good n v t W := by
  have hv : HM.VR (HM.numR (HM.digs 10 (v - 2140000000))) HM.sp12 (.int .i64 v) :=
    HM.VR.digits (c := 2140000000) (lo := 0) (hi := 6) (s := 1) (L := 6) (by decide) (by decide) (by omega) (by simp only [HM.topD]; omega) (by simp only [HM.topD]; omega) (by omega)
  rcases hn with rfl | rfl | rfl | rfl | rfl | rfl | rfl | rfl
  · exact key hT hv HM.ap12_1
  · exact key hT hv HM.ap12_2
  · exact key hT hv HM.ap12_3
  · exact key hT hv HM.ap12_4
  · exact key hT hv HM.ap12_5
  · exact key hT hv HM.ap12_6
  · exact key hT hv HM.ap12_7
  · exact key hT hv HM.ap12_8
theorem shape_p13 (n v : Int) (t : Bool) (hn : n = 1 ∨ n = 2 ∨ n = 3 ∨ n = 4 ∨ n = 5 ∨ n = 6 ∨ n = 7 ∨ n = 8) (h0 : 2147000000 ≤ v ∧ v ≤ 2147399999) {W : World} (hT : HM.Tabs W) : Good n v t W := by
  have hv : HM.VR (HM.numR (HM.digs 10 (v - 2147000000))) HM.sp13 (.int .i64 v) :=
    HM.VR.digits (c := 2147000000) (lo := 0) (hi := 3) (s := 1) (L := 5) (by decide) (by decide) (by omega) (by simp only [HM.topD]; omega) (by simp only [HM.topD]; omega) (by omega)
  rcases hn with rfl | rfl | rfl | rfl | rfl | rfl | rfl | rfl
  · exact key hT hv HM.ap13_1
  · exact key hT hv HM.ap13_2
  · exact key hT hv HM.ap13_3
  · exact key hT hv HM.ap13_4
  · exact key hT hv HM.ap13_5
  · exact key hT hv HM.ap13_6
  · exact key hT hv HM.ap13_7
  · exact key hT hv HM.ap13_8
theorem shape_p14 (n v : Int) (t : Bool) (hn : n = 1 ∨ n = 2 ∨ n = 3 ∨ n = 4 ∨ n = 5 ∨ n = 6 ∨ n = 7 ∨ n = 8) (h0 : 2147400000 ≤ v ∧ v ≤ 2147479999) {W : World} (hT : HM.Tabs W) : Good n v t W := by
  have hv : HM.VR (HM.numR (HM.digs 10 (v - 2147400000))) HM.sp14 (.int .i64 v) :=
    HM.VR.digits (c := 2147400000) (lo := 0) (hi := 7) (s := 1) (L := 4) (by decide) (by decide) (by omega) (by simp only [HM.topD]; omega) (by simp only [HM.topD]; omega) (by omega)
  rcases hn with rfl | rfl | rfl | rfl | rfl | rfl | rfl | rfl
  · exact key hT hv HM.ap14_1
  · exact key hT hv HM.ap14_2
  · exact key hT hv HM.ap14_3
  · exact key hT hv HM.ap14_4
  · exact key hT hv HM.ap14_5
  · exact key hT hv HM.ap14_6
  · exact key hT hv HM.ap14_7
  · exact key hT hv HM.ap14_8
theorem shape_p15 (n v : Int) (t : Bool) (hn : n = 1 ∨ n = 2 ∨ n = 3 ∨ n = 4 ∨ n = 5 ∨ n = 6 ∨ n = 7 ∨ n = 8) (h0 : 2147480000 ≤ v ∧ v ≤ 2147482999) {W : World} (hT : HM.Tabs W) : Good n v t W := by
  have hv : HM.VR (HM.numR (HM.digs 10 (v - 2147480000))) HM.sp15 (.int .i64 v) :=
    HM.VR.digits (c := 2147480000) (lo := 0) (hi := 2) (s := 1) (L := 3) (by decide) (by decide) (by omega) (by simp only [HM.topD]; omega) (by simp only [HM.topD]; omega) (by omega)
  rcases hn with rfl | rfl | rfl | rfl | rfl | rfl | rfl | rfl
  · exact key hT hv HM.ap15_1
  · exact key hT hv HM.ap15_2
  · exact key hT hv HM.ap15_3
  · exact key hT hv HM.ap15_4
  · exact key hT hv HM.ap15_5
  · exact key hT hv HM.ap15_6
  · exact key hT hv HM.ap15_7
  · exact key hT hv HM.ap15_8
theorem shape_p16 (n v : Int) (t : Bool) (hn : n = 1 ∨ n = 2 ∨ n = 3 ∨ n = 4 ∨ n = 5 ∨ n = 6 ∨ n = 7 ∨ n = 8) (h0 : 2147483000 ≤ v ∧ v ≤ 2147483599) {W : World} (hT : HM.Tabs W) : Good n v t W := by
  have hv : HM.VR (HM.numR (HM.digs 10 (v - 2147483000))) HM.sp16 (.int .i64 v) :=
    HM.VR.digits (c := 2147483000) (lo := 0) (hi := 5) (s := 1) (L := 2) (by decide) (by decide) (by omega) (by simp only [HM.topD]; omega) (by simp only [HM.topD]; omega) (by omega)
  rcases hn with rfl | rfl | rfl | rfl | rfl | rfl | rfl | rfl
  · exact key hT hv HM.ap16_1
  · exact key hT hv HM.ap16_2
  · exact key hT hv HM.ap16_3
  · exact key hT hv HM.ap16_4
  · exact key hT hv HM.ap16_5
  · exact key hT hv HM.ap16_6
  · exact key hT hv HM.ap16_7
  · exact key hT hv HM.ap16_8
theorem shape_p17 (n v : Int) (t : Bool) (hn : n = 1 ∨ n = 2 ∨ n = 3 ∨ n = 4 ∨ n = 5 ∨ n = 6 ∨ n = 7 ∨ n = 8) (h0 : 2147483600 ≤ v ∧ v ≤ 2147483639) {W : World} (hT : HM.Tabs W) : Good n v t W := by
  have hv : HM.VR (HM.numR (HM.digs 10 (v - 2147483600))) HM.sp17 (.int .i64 v) :=
    HM.VR.digits (c := 2147483600) (lo := 0) (hi := 3) (s := 1) (L := 1) (by decide) (by decide) (by omega) (by simp only [HM.topD]; omega) (by simp only [HM.topD]; omega) (by omega)
  rcases hn with rfl | rfl | rfl | rfl | rfl | rfl | rfl | rfl
  · exact key hT hv HM.ap17_1
  · exact key hT hv HM.ap17_2
  · exact key hT hv HM.ap17_3
  · exact key hT hv HM.ap17_4
  · exact key hT hv HM.ap17_5
  · exact key hT hv HM.ap17_6
  · exact key hT hv HM.ap17_7
  · exact key hT hv HM.ap17_8
theorem shape_p18 (n v : Int) (t : Bool) (hn : n = 1 ∨ n = 2 ∨ n = 3 ∨ n = 4 ∨ n = 5 ∨ n = 6 ∨ n = 7 ∨ n = 8) (h0 : 2147483640 ≤ v ∧ v ≤ 2147483647) {W : World} (hT : HM.Tabs W) : Good n v t W := by
  have hv : HM.VR (HM.numR (HM.digs 10 (v - 2147483640))) HM.sp18 (.int .i64 v) :=
    HM.VR.digits (c := 2147483640) (lo := 0) (hi := 7) (s := 1) (L := 0) (by decide) (by decide) (by omega) (by simp only [HM.topD]; omega) (by simp only [HM.topD]; omega) (by omega)
  rcases hn with rfl | rfl | rfl | rfl | rfl | rfl | rfl | rfl
  · exact key hT hv HM.ap18_1
  · exact key hT hv HM.ap18_2
  · exact key hT hv HM.ap18_3
  · exact key hT hv HM.ap18_4
  · exact key hT hv HM.ap18_5
  · exact key hT hv HM.ap18_6
  · exact key hT hv HM.ap18_7
  · exact key hT hv HM.ap18_8
theorem shape_m0 (n v : Int) (t : Bool) (hn : n = 1 ∨ n = 2 ∨ n = 3 ∨ n = 4 ∨ n = 5 ∨ n = 6 ∨ n = 7 ∨ n = 8) (h0 : -9 ≤ v ∧ v ≤ -1) {W : World} (hT : HM.Tabs W) : Good n v t W := by
  have hv : HM.VR (HM.numR (HM.digs 10 (-v - 0))) HM.sm0 (.int .i64 v) :=
    HM.VR.digits (c := 0) (lo := 1) (hi := 9) (s := (-1)) (L := 0) (by decide) (by decide) (by omega) (by simp only [HM.topD]; omega) (by simp only [HM.topD]; omega) (by omega)
  rcases hn with rfl | rfl | rfl | rfl | rfl | rfl | rfl | rfl
  · exact key hT hv HM.am0_1
  · exact key hT hv HM.am0_2
  · exact key hT hv HM.am0_3
  · exact key hT hv HM.am0_4
  · exact key hT hv HM.am0_5
  · exact key hT hv HM.am0_6
  · exact key hT hv HM.am0_7
  · exact key hT hv HM.am0_8
theorem shape_m1 (n v : Int) (t : Bool) (hn : n = 1 ∨ n = 2 ∨ n = 3 ∨ n = 4 ∨ n = 5 ∨ n = 6 ∨ n = 7 ∨ n = 8) (h0 : -99 ≤ v ∧ v ≤ -10) {W : World} (hT : HM.Tabs W) : Good n v t W := by
  have hv : HM.VR (HM.numR (HM.digs 10 (-v - 0))) HM.sm1 (.int .i64 v) :=
    HM.VR.digits (c := 0) (lo := 1) (hi := 9) (s := (-1)) (L := 1) (by decide) (by decide) (by omega) (by simp only [HM.topD]; omega) (by simp only [HM.topD]; omega) (by omega)
  rcases hn with rfl | rfl | rfl | rfl | rfl | rfl | rfl | rfl
  · exact key hT hv HM.am1_1
  · exact key hT hv HM.am1_2
  · exact key hT hv HM.am1_3
  · exact key hT hv HM.am1_4
  · exact key hT hv HM.am1_5
  · exact key hT hv HM.am1_6
  · exact key hT hv HM.am1_7
  · exact key hT hv HM.am1_8
theorem shape_m2 (n v : Int) (t : Bool) (hn : n = 1 ∨ n = 2 ∨ n = 3 ∨ n = 4 ∨ n = 5 ∨ n = 6 ∨ n = 7 ∨ n = 8) (h0 : -999 ≤ v ∧ v ≤ -100) {W : World} (hT : HM.Tabs W) : Good n v t W := by
  have hv : HM.VR (HM.numR (HM.digs 10 (-v - 0))) HM.sm2 (.int .i64 v) :=
    HM.VR.digits (c := 0) (lo := 1) (hi := 9) (s := (-1)) (L := 2) (by decide) (by decide) (by omega) (by simp only [HM.topD]; omega) (by simp only [HM.topD]; omega) (by omega)
  rcases hn with rfl | rfl | rfl | rfl | rfl | rfl | rfl | rfl
  · exact key hT hv HM.am2_1
  · exact key hT hv HM.am2_2
  · exact key hT hv HM.am2_3
  · exact key hT hv HM.am2_4
  · exact key hT hv HM.am2_5
  · exact key hT hv HM.am2_6
  · exact key hT hv HM.am2_7
  · exact key hT hv HM.am2_8
theorem shape_m3 (n v : Int) (t : Bool) (hn : n = 1 ∨ n = 2 ∨ n = 3 ∨ n = 4 ∨ n = 5 ∨ n = 6 ∨ n = 7 ∨ n = 8) (h0 : -9999 ≤ v ∧ v ≤ -1000) {W : World} (hT : HM.Tabs W) : Good n v t W := by
  have hv : HM.VR (HM.numR (HM.digs 10 (-v - 0))) HM.sm3 (.int .i64 v) :=
    HM.VR.digits (c := 0) (lo := 1) (hi := 9) (s := (-1)) (L := 3) (by decide) (by decide) (by omega) (by simp only [HM.topD]; omega) (by simp only [HM.topD]; omega) (by omega)
  rcases hn with rfl | rfl | rfl | rfl | rfl | rfl | rfl | rfl
  · exact key hT hv HM.am3_1
  · exact key hT hv HM.am3_2
  · exact key hT hv HM.am3_3
  · exact key hT hv HM.am3_4
  · exact key hT hv HM.am3_5
  · exact key hT hv HM.am3_6
  · exact key hT hv HM.am3_7
  · exact key hT hv HM.am3_8
theorem shape_m4 (n v : Int) (t : Bool) (hn : n = 1 ∨ n = 2 ∨ n = 3 ∨ n = 4 ∨ n = 5 ∨ n = 6 ∨ n = 7 ∨ n = 8) (h0 : -99999 ≤ v ∧ v ≤ -10000) {W : World} (hT : HM.Tabs W) : Good n v t W := by
  have hv : HM.VR (HM.numR (HM.digs 10 (-v - 0))) HM.sm4 (.int .i64 v) :=
    HM.VR.digits (c := 0) (lo := 1) (hi := 9) (s := (-1)) (L := 4) (by decide) (by decide) (by omega) (by simp only [HM.topD]; omega) (by simp only [HM.topD]; omega) (by omega)
  rcases hn with rfl | rfl | rfl | rfl | rfl | rfl | rfl | rfl
  · exact key hT hv HM.am4_1
  · exact key hT hv HM.am4_2
  · exact key hT hv HM.am4_3
  · exact key hT hv HM.am4_4
  · exact key hT hv HM.am4_5
  · exact key hT hv HM.am4_6
  · exact key hT hv HM.am4_7
  · exact key hT hv HM.am4_8
theorem shape_m5 (n v : Int) (t : Bool) (hn : n = 1 ∨ n = 2 ∨ n = 3 ∨ n = 4 ∨ n = 5 ∨ n = 6 ∨ n = 7 ∨ n = 8) (h0 : -999999 ≤ v ∧ v ≤ -100000) {W : World} (hT : HM.Tabs W) : Good n v t W := by
  have hv : HM.VR (HM.numR (HM.digs 10 (-v - 0))) HM.sm5 (.int .i64 v) :=
    HM.VR.digits (c := 0) (lo := 1) (hi := 9) (s := (-1)) (L := 5) (by decide) (by decide) (by omega) (by simp only [HM.topD]; omega) (by simp only [HM.topD]; omega) (by omega)
  rcases hn with rfl | rfl | rfl | rfl | rfl | rfl | rfl | rfl
  · exact key hT hv HM.am5_1
  · exact key hT hv HM.am5_2
  · exact key hT hv HM.am5_3
  · exact key hT hv HM.am5_4
  · exact key hT hv HM.am5_5
  · exact key hT hv HM.am5_6
  · exact key hT hv HM.am5_7
  · exact key hT hv HM.am5_8
theorem shape_m6 (n v : Int) (t : Bool) (hn : n = 1 ∨ n = 2 ∨ n = 3 ∨ n = 4 ∨ n = 5 ∨ n = 6 ∨ n = 7 ∨ n = 8) (h0 : -9999999 ≤ v ∧ v ≤ -1000000) {W : World} (hT : HM.Tabs W) : Good n v t W := by
  have hv : HM.VR (HM.numR (HM.digs 10 (-v - 0))) HM.sm6 (.int .i64 v) :=
    HM.VR.digits (c := 0) (lo := 1) (hi := 9) (s := (-1)) (L := 6) (by decide) (by decide) (by omega) (by simp only [HM.topD]; omega) (by simp only [HM.topD]; omega) (by omega)
  rcases hn with rfl | rfl | rfl | rfl | rfl | rfl | rfl | rfl
  · exact key hT hv HM.am6_1
  · exact key hT hv HM.am6_2
  · exact key hT hv HM.am6_3
  · exact key hT hv HM.am6_4
  · exact key hT hv HM.am6_5
  · exact key hT hv HM.am6_6
  · exact key hT hv HM.am6_7
  · exact key hT hv HM.am6_8
theorem shape_m7 (n v : Int) (t : Bool) (hn : n = 1 ∨ n = 2 ∨ n = 3 ∨ n = 4 ∨ n = 5 ∨ n = 6 ∨ n = 7 ∨ n = 8) (h0 : -99999999 ≤ v ∧ v ≤ -10000000) {W : World} (hT : HM.Tabs W) : Good n v t W := by
  have hv : HM.VR (HM.numR (HM.digs 10 (-v - 0))) HM.sm7 (.int .i64 v) :=
    HM.VR.digits (c := 0) (lo := 1) (hi := 9) (s := (-1)) (L := 7) (by decide) (by decide) (by omega) (by simp only [HM.topD]; omega) (by simp only [HM.topD]; omega) (by omega)
  rcases hn with rfl | rfl | rfl | rfl | rfl | rfl | rfl | rfl
  · exact key hT hv HM.am7_1
  · exact key hT hv HM.am7_2
  · exact key hT hv HM.am7_3
  · exact key hT hv HM.am7_4
  · exact key hT hv HM.am7_5
  · exact key hT hv HM.am7_6
  · exact key hT hv HM.am7_7
  · exact key hT hv HM.am7_8
theorem shape_m8 (n v : Int) (t : Bool) (hn : n = 1 ∨ n = 2 ∨ n = 3 ∨ n = 4 ∨ n = 5 ∨ n = 6 ∨ n = 7 ∨ n = 8) (h0 : -999999999 ≤ v ∧ v ≤ -100000000) {W : World} (hT : HM.Tabs W) : Good n v t W := by
  have hv : HM.VR (HM.numR (HM.digs 10 (-v - 0))) HM.sm8 (.int .i64 v) :=
    HM.VR.digits (c := 0) (lo := 1) (hi := 9) (s := (-1)) (L := 8) (by decide) (by decide) (by omega) (by simp only [HM.topD]; omega) (by simp only [HM.topD]; omega) (by omega)
  rcases hn with rfl | rfl | rfl | rfl | rfl | rfl | rfl | rfl
  · exact key hT hv HM.am8_1
  · exact key hT hv HM.am8_2
  · exact key hT hv HM.am8_3
  · exact key hT hv HM.am8_4
  · exact key hT hv HM.am8_5
  · exact key hT hv HM.am8_6
  · exact key hT hv HM.am8_7
  · exact key hT hv HM.am8_8
theorem shape_m9 (n v : Int) (t : Bool) (hn : n = 1 ∨ n = 2 ∨ n = 3 ∨ n = 4 ∨ n = 5 ∨ n = 6 ∨ n = 7 ∨ n = 8) (h0 : -1999999999 ≤ v ∧ v ≤ -1000000000) {W : World} (hT : HM.Tabs W) : Good n v t W := by
  have hv : HM.VR (HM.numR (HM.digs 10 (-v - 1000000000))) HM.sm9 (.int .i64 v) :=
    HM.VR.digits (c := (-1000000000)) (lo := 0) (hi := 9) (s := (-1)) (L := 8) (by decide) (by decide) (by omega) (by simp only [HM.topD]; omega) (by simp only [HM.topD]; omega) (by omega)
  rcases hn with rfl | rfl | rfl | rfl | rfl | rfl | rfl | rfl
  · exact key hT hv HM.am9_1
  · exact key hT hv HM.am9_2
  · exact key hT hv HM.am9_3
  · exact key hT hv HM.am9_4
  · exact key hT hv HM.am9_5
  · exact key hT hv HM.am9_6
  · exact key hT hv HM.am9_7
  · exact key hT hv HM.am9_8
theorem shape_m10 (n v : Int) (t : Bool) (hn : n = 1 ∨ n = 2 ∨ n = 3 ∨ n = 4 ∨ n = 5 ∨ n = 6 ∨ n = 7 ∨ n = 8) (h0 : -2099999999 ≤ v ∧ v ≤ -2000000000) {W : World} (hT : HM.Tabs W) : Good n v t W := by
  have hv : HM.VR (HM.numR (HM.digs 10 (-v - 2000000000))) HM.sm10 (.int .i64 v) :=
    HM.VR.digits (c := (-2000000000)) (lo := 0) (hi := 0) (s := (-1)) (L := 8) (by decide) (by decide) (by omega) (by simp only [HM.topD]; omega) (by simp only [HM.topD]; omega) (by omega)
  rcases hn with rfl | rfl | rfl | rfl | rfl | rfl | rfl | rfl
  · exact key hT hv HM.am10_1
  · exact key hT hv HM.am10_2
  · exact key hT hv HM.am10_3
  · exact key hT hv HM.am10_4
  · exact key hT hv HM.am10_5
  · exact key hT hv HM.am10_6
  · exact key hT hv HM.am10_7
  · exact key hT hv HM.am10_8
theorem shape_m11 (n v : Int) (t : Bool) (hn : n = 1 ∨ n = 2 ∨ n = 3 ∨ n = 4 ∨ n = 5 ∨ n = 6 ∨ n = 7 ∨ n = 8) (h0 : -2139999999 ≤ v ∧ v ≤ -2100000000) {W : World} (hT : HM.Tabs W) : Good n v t W := by
  have hv : HM.VR (HM.numR (HM.digs 10 (-v - 2100000000))) HM.sm11 (.int .i64 v) :=
    HM.VR.digits (c := (-2100000000)) (lo := 0) (hi := 3) (s := (-1)) (L := 7) (by decide) (by decide) (by omega) (by simp only [HM.topD]; omega) (by simp only [HM.topD]; omega) (by omega)
  rcases hn with rfl | rfl | rfl | rfl | rfl | rfl | rfl | rfl
  · exact key hT hv HM.am11_1
  · exact key hT hv HM.am11_2
  · exact key hT hv HM.am11_3
  · exact key hT hv HM.am11_4
  · exact key hT hv HM.am11_5
  · exact key hT hv HM.am11_6
  · exact key hT hv HM.am11_7
  · exact key hT hv HM.am11_8
theorem shape_m12 (n v : Int) (t : Bool) (hn : n = 1 ∨ n = 2 ∨ n = 3 ∨ n = 4 ∨ n = 5 ∨ n = 6 ∨ n = 7 ∨ n = 8) (h0 : -2146999999 ≤ v ∧ v ≤ -2140000000) {W : World} (hT : HM.Tabs W) : Good n v t W := by
  have hv : HM.VR (HM.numR (HM.digs 10 (-v - 2140000000))) HM.sm12 (.int .i64 v) :=
    HM.VR.digits (c := (-2140000000)) (lo := 0) (hi := 6) (s := (-1)) (L := 6) (by decide) (by decide) (by omega) (by simp only [HM.topD]; omega) (by simp only [HM.topD]; omega) (by omega)
  rcases hn with rfl | rfl | rfl | rfl | rfl | rfl | rfl | rfl
  · exact key hT hv HM.am12_1
  · exact key hT hv HM.am12_2
  · exact key hT hv HM.am12_3
  · exact key hT hv HM.am12_4
  · exact key hT hv HM.am12_5
  · exact key hT hv HM.am12_6
  · exact key hT hv HM.am12_7
  · exact key hT hv HM.am12_8
theorem shape_m13 (n v : Int) (t : Bool) (hn : n = 1 ∨ n = 2 ∨ n = 3 ∨ n = 4 ∨ n = 5 ∨ n = 6 ∨ n = 7 ∨ n = 8) (h0 : -2147399999 ≤ v ∧ v ≤ -2147000000) {W : World} (hT : HM.Tabs W) : Good n v t W := by
  have hv : HM.VR (HM.numR (HM.digs 10 (-v - 2147000000))) HM.sm13 (.int .i64 v) :=
    HM.VR.digits (c := (-2147000000)) (lo := 0) (hi := 3) (s := (-1)) (L := 5) (by decide) (by decide) (by omega) (by simp only [HM.topD]; omega) (by simp only [HM.topD]; omega) (by omega)
  rcases hn with rfl | rfl | rfl | rfl | rfl | rfl | rfl | rfl
  · exact key hT hv HM.am13_1
  · exact key hT hv HM.am13_2
  · exact key hT hv HM.am13_3
  · exact key hT hv HM.am13_4
  · exact key hT hv HM.am13_5
  · exact key hT hv HM.am13_6
  · exact key hT hv HM.am13_7
  · exact key hT hv HM.am13_8
theorem shape_m14 (n v : Int) (t : Bool) (hn : n = 1 ∨ n = 2 ∨ n = 3 ∨ n = 4 ∨ n = 5 ∨ n = 6 ∨ n = 7 ∨ n = 8) (h0 : -2147479999 ≤ v ∧ v ≤ -2147400000) {W : World} (hT : HM.Tabs W) : Good n v t W := by
  have hv : HM.VR (HM.numR (HM.digs 10 (-v - 2147400000))) HM.sm14 (.int .i64 v) :=
    HM.VR.digits (c := (-2147400000)) (lo := 0) (hi := 7) (s := (-1)) (L := 4) (by decide) (by decide) (by omega) (by simp only [HM.topD]; omega) (by simp only [HM.topD]; omega) (by omega)
  rcases hn with rfl | rfl | rfl | rfl | rfl | rfl | rfl | rfl
  · exact key hT hv HM.am14_1
  · exact key hT hv HM.am14_2
  · exact key hT hv HM.am14_3
  · exact key hT hv HM.am14_4
  · exact key hT hv HM.am14_5
  · exact key hT hv HM.am14_6
  · exact key hT hv HM.am14_7
  · exact key hT hv HM.am14_8
theorem shape_m15 (n v : Int) (t : Bool) (hn : n = 1 ∨ n = 2 ∨ n = 3 ∨ n = 4 ∨ n = 5 ∨ n = 6 ∨ n = 7 ∨ n = 8) (h0 : -2147482999 ≤ v ∧ v ≤ -2147480000) {W : World} (hT : HM.Tabs W) : Good n v t W := by
  have hv : HM.VR (HM.numR (HM.digs 10 (-v - 2147480000))) HM.sm15 (.int .i64 v) :=
    HM.VR.digits (c := (-2147480000)) (lo := 0) (hi := 2) (s := (-1)) (L := 3) (by decide) (by decide) (by omega) (by simp only [HM.topD]; omega) (by simp only [HM.topD]; omega) (by omega)
  rcases hn with rfl | rfl | rfl | rfl | rfl | rfl | rfl | rfl
  · exact key hT hv HM.am15_1
  · exact key hT hv HM.am15_2
  · exact key hT hv HM.am15_3
  · exact key hT hv HM.am15_4
  · exact key hT hv HM.am15_5
  · exact key hT hv HM.am15_6
  · exact key hT hv HM.am15_7
  · exact key hT hv HM.am15_8
theorem shape_m16 (n v : Int) (t : Bool) (hn : n = 1 ∨ n = 2 ∨ n = 3 ∨ n = 4 ∨ n = 5 ∨ n = 6 ∨ n = 7 ∨ n = 8) (h0 : -2147483599 ≤ v ∧ v ≤ -2147483000) {W : World} (hT : HM.Tabs W) : Good n v t W := by
  have hv : HM.VR (HM.numR (HM.digs 10 (-v - 2147483000))) HM.sm16 (.int .i64 v) :=
    HM.VR.digits (c := (-2147483000)) (lo := 0) (hi := 5) (s := (-1)) (L := 2) (by decide) (by decide) (by omega) (by simp only [HM.topD]; omega) (by simp only [HM.topD]; omega) (by omega)
  rcases hn with rfl | rfl | rfl | rfl | rfl | rfl | rfl | rfl
  · exact key hT hv HM.am16_1
  · exact key hT hv HM.am16_2
  · exact key hT hv HM.am16_3
  · exact key hT hv HM.am16_4
  · exact key hT hv HM.am16_5
  · exact key hT hv HM.am16_6
  · exact key hT hv HM.am16_7
  · exact key hT hv HM.am16_8
theorem shape_m17 (n v : Int) (t : Bool) (hn : n = 1 ∨ n = 2 ∨ n = 3 ∨ n = 4 ∨ n = 5 ∨ n = 6 ∨ n = 7 ∨ n = 8) (h0 : -2147483639 ≤ v ∧ v ≤ -2147483600) {W : World} (hT : HM.Tabs W) : Good n v t W := by
  have hv : HM.VR (HM.numR (HM.digs 10 (-v - 2147483600))) HM.sm17 (.int .i64 v) :=
    HM.VR.digits (c := (-2147483600)) (lo := 0) (hi := 3) (s := (-1)) (L := 1) (by decide) (by decide) (by omega) (by simp only [HM.topD]; omega) (by simp only [HM.topD]; omega) (by omega)
  rcases hn with rfl | rfl | rfl | rfl | rfl | rfl | rfl | rfl
  · exact key hT hv HM.am17_1
  · exact key hT hv HM.am17_2
  · exact key hT hv HM.am17_3
  · exact key hT hv HM.am17_4
  · exact key hT hv HM.am17_5
  · exact key hT hv HM.am17_6
  · exact key hT hv HM.am17_7
  · exact key hT hv HM.am17_8
theorem shape_m18 (n v : Int) (t : Bool) (hn : n = 1 ∨ n = 2 ∨ n = 3 ∨ n = 4 ∨ n = 5 ∨ n = 6 ∨ n = 7 ∨ n = 8) (h0 : -2147483648 ≤ v ∧ v ≤ -2147483640) {W : World} (hT : HM.Tabs W) : Good n v t W := by
  have hv : HM.VR (HM.numR (HM.digs 10 (-v - 2147483640))) HM.sm18 (.int .i64 v) :=
    HM.VR.digits (c := (-2147483640)) (lo := 0) (hi := 8) (s := (-1)) (L := 0) (by decide) (by decide) (by omega) (by simp only [HM.topD]; omega) (by simp only [HM.topD]; omega) (by omega)
  rcases hn with rfl | rfl | rfl | rfl | rfl | rfl | rfl | rfl
  · exact key hT hv HM.am18_1
  · exact key hT hv HM.am18_2
  · exact key hT hv HM.am18_3
  · exact key hT hv HM.am18_4
  · exact key hT hv HM.am18_5
  · exact key hT hv HM.am18_6
  · exact key hT hv HM.am18_7
  · exact key hT hv HM.am18_8
theorem walk_all (n v : Int) (t : Bool) {W : World} (hT : HM.Tabs W) : Good n v t W := by
  by_cases hr : 1 ≤ n ∧ n ≤ 8 ∧ -2147483648 ≤ v ∧ v < 2147483648
  · obtain ⟨h1, h2, h3, h4⟩ := hr
    have hn : n = 1 ∨ n = 2 ∨ n = 3 ∨ n = 4 ∨ n = 5 ∨ n = 6 ∨ n = 7 ∨ n = 8 := by omega
    have h : v = 0 ∨ (1 ≤ v ∧ v ≤ 9) ∨ (10 ≤ v ∧ v ≤ 99) ∨ (100 ≤ v ∧ v ≤ 999) ∨ (1000 ≤ v ∧ v ≤ 9999) ∨ (10000 ≤ v ∧ v ≤ 99999) ∨ (100000 ≤ v ∧ v ≤ 999999) ∨ (1000000 ≤ v ∧ v ≤ 9999999) ∨ (10000000 ≤ v ∧ v ≤ 99999999) ∨ (100000000 ≤ v ∧ v ≤ 999999999) ∨ (1000000000 ≤ v ∧ v ≤ 1999999999) ∨ (2000000000 ≤ v ∧ v ≤ 2099999999) ∨ (2100000000 ≤ v ∧ v ≤ 2139999999) ∨ (2140000000 ≤ v ∧ v ≤ 2146999999) ∨ (2147000000 ≤ v ∧ v ≤ 2147399999) ∨ (2147400000 ≤ v ∧ v ≤ 2147479999) ∨ (2147480000 ≤ v ∧ v ≤ 2147482999) ∨ (2147483000 ≤ v ∧ v ≤ 2147483599) ∨ (2147483600 ≤ v ∧ v ≤ 2147483639) ∨ (2147483640 ≤ v ∧ v ≤ 2147483647) ∨ (-9 ≤ v ∧ v ≤ -1) ∨ (-99 ≤ v ∧ v ≤ -10) ∨ (-999 ≤ v ∧ v ≤ -100) ∨ (-9999 ≤ v ∧ v ≤ -1000) ∨ (-99999 ≤ v ∧ v ≤ -10000) ∨ (-999999 ≤ v ∧ v ≤ -100000) ∨ (-9999999 ≤ v ∧ v ≤ -1000000) ∨ (-99999999 ≤ v ∧ v ≤ -10000000) ∨ (-999999999 ≤ v ∧ v ≤ -100000000) ∨ (-1999999999 ≤ v ∧ v ≤ -1000000000) ∨ (-2099999999 ≤ v ∧ v ≤ -2000000000) ∨ (-2139999999 ≤ v ∧ v ≤ -2100000000) ∨ (-2146999999 ≤ v ∧ v ≤ -2140000000) ∨ (-2147399999 ≤ v ∧ v ≤ -2147000000) ∨ (-2147479999 ≤ v ∧ v ≤ -2147400000) ∨ (-2147482999 ≤ v ∧ v ≤ -2147480000) ∨ (-2147483599 ≤ v ∧ v ≤ -2147483000) ∨ (-2147483639 ≤ v ∧ v ≤ -2147483600) ∨ (-2147483648 ≤ v ∧ v ≤ -2147483640) := by clear hn h1 h2; omega
    rcases h with rfl | h | h | h | h | h | h | h | h | h | h | h | h | h | h | h | h | h | h | h | h | h | h | h | h | h | h | h | h | h | h | h | h | h | h | h | h | h | h
    · exact shape_z n t hn hT
    · exact shape_p0 n v t hn h hT
    · exact shape_p1 n v t hn h hT
    · exact shape_p2 n v t hn h hT
    · exact shape_p3 n v t hn h hT
    · exact shape_p4 n v t hn h hT
    · exact shape_p5 n v t hn h hT
    · exact shape_p6 n v t hn h hT
    · exact shape_p7 n v t hn h hT
    · exact shape_p8 n v t hn h hT
    · exact shape_p9 n v t hn h hT
    · exact shape_p10 n v t hn h hT
    · exact shape_p11 n v t hn h hT
    · exact shape_p12 n v t hn h hT
    · exact shape_p13 n v t hn h hT
    · exact shape_p14 n v t hn h hT
    · exact shape_p15 n v t hn h hT
    · exact shape_p16 n v t hn h hT
    · exact shape_p17 n v t hn h hT
    · exact shape_p18 n v t hn h hT
    · exact shape_m0 n v t hn h hT
    · exact shape_m1 n v t hn h hT
    · exact shape_m2 n v t hn h hT
    · exact shape_m3 n v t hn h hT
    · exact shape_m4 n v t hn h hT
    · exact shape_m5 n v t hn h hT
    · exact shape_m6 n v t hn h hT
    · exact shape_m7 n v t hn h hT
    · exact shape_m8 n v t hn h hT
    · exact shape_m9 n v t hn h hT
    · exact shape_m10 n v t hn h hT
    · exact shape_m11 n v t hn h hT
    · exact shape_m12 n v t hn h hT
    · exact shape_m13 n v t hn h hT
    · exact shape_m14 n v t hn h hT
    · exact shape_m15 n v t hn h hT
    · exact shape_m16 n v t hn h hT
    · exact shape_m17 n v t hn h hT
    · exact shape_m18 n v t hn h hT
  · exact around_out n v t hr hT
end Go.Proofs.YtmgjgdnjkgnbiaaGreatDoor.Sel
