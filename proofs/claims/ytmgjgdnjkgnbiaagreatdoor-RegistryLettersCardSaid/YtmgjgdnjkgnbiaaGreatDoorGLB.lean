/- fleuronlaw11.RegistryLetters returns true for all arguments, and leaves what was there. -/
import Derived.Test.YtmgjgdnjkgnbiaaGreatDoorGLA
import Derived.Test.YtmgjgdnjkgnbiaaGreatDoorGLW
import Derived.Test.YtmgjgdnjkgnbiaaGreatDoorGLN
namespace Go.Proofs.YtmgjgdnjkgnbiaaGreatDoor.Reg
open Go Go.RowKit
theorem let_bytes (rs : List Nat) (hr : ∀ d ∈ rs, d < 26) (fr : Nat) (hf : fr + 25 < 256) (_n : Nat) : Hid ((⟨(rs.map fun d => UInt8.ofNat (fr + d)).toArray⟩ : ByteArray).size = rs.length) ∧
    Hid (∀ k (h : k < (⟨(rs.map fun d => UInt8.ofNat (fr + d)).toArray⟩ : ByteArray).size), fr ≤ (⟨(rs.map fun d => UInt8.ofNat (fr + d)).toArray⟩ : ByteArray)[k].toNat ∧ (⟨(rs.map fun d => UInt8.ofNat (fr + d)).toArray⟩ : ByteArray)[k].toNat ≤ fr + 25 ∧ pv 26 rs (k + 1) = pv 26 rs k * 26 + ((⟨(rs.map fun d => UInt8.ofNat (fr + d)).toArray⟩ : ByteArray)[k].toNat - fr) + 1) := by
  have hz : (⟨(rs.map fun d => UInt8.ofNat (fr + d)).toArray⟩ : ByteArray).size = rs.length := by show (List.toArray _).size = _; simp
  refine ⟨hz, fun k h => ?_⟩
  have hk : k < rs.length := by rw [← hz]; exact h
  have e : (⟨(rs.map fun d => UInt8.ofNat (fr + d)).toArray⟩ : ByteArray)[k] = UInt8.ofNat (fr + rs[k]) := by
    show (List.toArray _)[k]'_ = _
    simp
  have hd := hr _ (List.getElem_mem hk)
  have e2 : (⟨(rs.map fun d => UInt8.ofNat (fr + d)).toArray⟩ : ByteArray)[k].toNat = fr + rs[k] := by rw [e, UInt8.toNat_ofNat']; omega
  rw [e2, pv_succ 26 rs k hk]
  omega
theorem let_text (L : List (List UInt8)) (fr n : Nat) (hL : ∀ d, d < 26 → L.getD d [] = [UInt8.ofNat (fr + d)]) : chS L (pos 26 n) = (pos 26 n).reverse.map fun d => UInt8.ofNat (fr + d) := by
  unfold chS
  exact flatMap_map _ _ _ fun d hd => hL d (pos_lt 26 (by decide) n d (List.mem_reverse.1 hd))
theorem pos31 (K n : Nat) (hK : 2 ≤ K) (h : n < 2147483648) : (pos K n).reverse.length ≤ 31 := by
  rw [List.length_reverse]; exact pos_len K hK 31 n (by omega)
theorem low_ne : ∀ d, d < 26 → (HM.lowL.getD d []).length = 1 ∧ (HM.uppL.getD d []).length = 1 := by decide
theorem let_sizes (n : Nat) (h1 : 1 ≤ n) (h2 : n < 2147483648) (L : List (List UInt8)) (fr : Nat) (hL : ∀ d, d < 26 → L.getD d [] = [UInt8.ofNat (fr + d)]) : (⟨(chS L (pos 26 n)).toArray⟩ : ByteArray).size ≤ 100 ∧ 0 < (⟨(chS L (pos 26 n)).toArray⟩ : ByteArray).size := by
  rw [let_text L fr n hL]
  have h3 := pos31 26 n (by decide) h2
  have h4 := pos_ne 26 n h1 (by decide)
  have e : (⟨((pos 26 n).reverse.map fun d => UInt8.ofNat (fr + d)).toArray⟩ : ByteArray).size = (pos 26 n).reverse.length := by show (List.toArray _).size = _; simp
  rw [e]
  refine ⟨by omega, ?_⟩
  rw [List.length_reverse]
  exact List.length_pos_iff.2 h4
theorem grk_size (n : Nat) : (⟨(chS HM.grkL (pos 24 n)).toArray⟩ : ByteArray).size = 2 * (pos 24 n).reverse.length := by
  have h2 : ∀ d ∈ (pos 24 n).reverse, (HM.grkL.getD d []).length = 2 := fun d hd => by
    obtain ⟨a, b, e, _⟩ := grk_at d (pos_lt 24 (by decide) n d (List.mem_reverse.1 hd)); rw [e]; rfl
  show (List.toArray _).size = _
  rw [List.size_toArray]
  exact (flat2 (fun p => HM.grkL.getD p []) _ h2).1
theorem let_in (n : Nat) (h1 : 1 ≤ n) (h2 : n < 2147483648) (up : Bool) {W : World} (hT : HM.Tabs W) : GoodL n up W := by
  obtain ⟨za, zb⟩ := let_sizes n h1 h2 HM.lowL 97 low_at
  obtain ⟨ya, yb⟩ := let_sizes n h1 h2 HM.uppL 65 upp_at
  have xa := grk_size n
  have x3 := pos31 24 n (by decide) h2
  have x4 : 0 < (pos 24 n).reverse.length := by rw [List.length_reverse]; exact List.length_pos_iff.2 (pos_ne 24 n h1 (by decide))
  letI : HM.Amb := HM.Amb.three (n : Int) ⟨(chS HM.lowL (pos 26 n)).toArray⟩ ⟨(chS HM.uppL (pos 26 n)).toArray⟩ ⟨(chS HM.grkL (pos 24 n)).toArray⟩ za ya (by rw [xa]; omega)
  have K : HM.KnownS HM.SL := by
    refine ⟨by show (1 : Int) ≤ (n : Int); omega, by show (n : Int) < 2147483648; omega, ?_, ?_, ?_, ?_, ?_⟩
    · intro s hs
      have hn : ((n : Int)).toNat = n := by omega
      simp only [HM.SL, List.mem_cons, List.not_mem_nil, or_false] at hs
      rcases hs with rfl | rfl | rfl
      · show (⟨(chS HM.lowL (pos 26 n)).toArray⟩ : ByteArray) = ⟨(chS HM.lowL (pos 26 ((n : Int)).toNat)).toArray⟩
        rw [hn]
      · show (⟨(chS HM.uppL (pos 26 n)).toArray⟩ : ByteArray) = ⟨(chS HM.uppL (pos 26 ((n : Int)).toNat)).toArray⟩
        rw [hn]
      · show (⟨(chS HM.grkL (pos 24 n)).toArray⟩ : ByteArray) = ⟨(chS HM.grkL (pos 24 ((n : Int)).toNat)).toArray⟩
        rw [hn]
    · intro s hs
      simp only [HM.SL, List.mem_cons, List.not_mem_nil, or_false] at hs
      rcases hs with rfl | rfl | rfl <;> rfl
    · intro s hs
      simp only [HM.SL, List.mem_cons, List.not_mem_nil, or_false] at hs
      rcases hs with rfl | rfl | rfl
      · exact HM.rune_pos _ zb
      · exact HM.rune_pos _ yb
      · exact HM.rune_pos ⟨(chS HM.grkL (pos 24 n)).toArray⟩ (by rw [xa]; omega)
    · intro s hs ha
      simp only [HM.SL, List.mem_cons, List.not_mem_nil, or_false] at hs
      rcases hs with rfl | rfl | rfl <;> cases ha
    · intro s hs _
      simp only [HM.SL, List.mem_cons, List.not_mem_nil, or_false] at hs
      rcases hs with rfl | rfl | rfl <;> exact ⟨by decide, by decide⟩
  have hl := HM.let_low
  simp only [Bool.and_eq_true] at hl
  have hu := HM.let_upp
  simp only [Bool.and_eq_true] at hu
  have cN := HM.new_c hl.1 hT
  have aw : ∀ w, Below W.heap.size W w → Calls Tryz.prog 10 #[] w fun e w' => e = .returned (.bool true) ∧ Below w.heap.size w w' := fun w hb => HM.awake_c (tabs_move hT hb)
  have hq0 : Hid (pv 24 (pos 24 n).reverse 0 = 0) := pv_zero _ _
  have hqm : Hid (pv 24 (pos 24 n).reverse (pos 24 n).reverse.length = n) := pv_all 24 n (by decide)
  have hqb : Hid (∀ k, k ≤ (pos 24 n).reverse.length → pv 24 (pos 24 n).reverse k ≤ n) := fun k hk => pv_bound 24 n k (by decide) hk
  have hGb : Hid (∀ k, k < (pos 24 n).reverse.length → Utf8.decode ⟨(chS HM.grkL (pos 24 n)).toArray⟩ (2 * k) = (945 + eG ((pos 24 n).reverse.getD k 0), 2) ∧ (pos 24 n).reverse.getD k 0 < 24 ∧ pv 24 (pos 24 n).reverse (k + 1) = pv 24 (pos 24 n).reverse k * 24 + (pos 24 n).reverse.getD k 0 + 1) := fun k hk => by
    have e : (pos 24 n).reverse.getD k 0 = (pos 24 n).reverse[k] := by rw [List.getD, List.getElem?_eq_getElem hk]; rfl
    have hr : ∀ d ∈ (pos 24 n).reverse, d < 24 := fun d hd => pos_lt 24 (by decide) n d (List.mem_reverse.1 hd)
    rw [e]
    exact ⟨grk_dec _ hr k hk, hr _ (List.getElem_mem hk), pv_succ 24 _ k hk⟩
  have hr26 : ∀ d ∈ (pos 26 n).reverse, d < 26 := fun d hd => pos_lt 26 (by decide) n d (List.mem_reverse.1 hd)
  have hp0 : Hid (pv 26 (pos 26 n).reverse 0 = 0) := pv_zero _ _
  have hpm : Hid (pv 26 (pos 26 n).reverse (pos 26 n).reverse.length = n) := pv_all 26 n (by decide)
  have hpb : Hid (∀ k, k ≤ (pos 26 n).reverse.length → pv 26 (pos 26 n).reverse k ≤ n) := fun k hk => pv_bound 26 n k (by decide) hk
  have h31 := pos31 26 n (by decide) h2
  have hnE : (n : Int) ≤ 2147483647 := by omega
  cases up with
  | false =>
    obtain ⟨s1, s2⟩ := let_bytes (pos 26 n).reverse hr26 97 (by decide) n
    rw [← let_text HM.lowL 97 n low_at] at s1 s2
    exact let_core n 97 false _ ⟨(chS HM.lowL (pos 26 n)).toArray⟩ ⟨(chS HM.grkL (pos 24 n)).toArray⟩ _ _ _ _ _ (HM.RegI W (HM.sndO HM.r0)) (HM.RegI W (HM.sndO (HM.rT HM.SL HM.lowN 2147483647 HM.r0))) h1 h2 (.inl ⟨rfl, rfl, rfl⟩) cN
      (fun a w hR => HM.text_c K hl.2.1 hnE rfl hR)
      (fun a w hR => (HM.text_c K hl.2.2 hnE rfl hR).mono fun e w' ⟨he, hR'⟩ => ⟨he, hR'.below⟩) aw s1 (by omega) s2 hp0 hpm hpb xa (by omega) hGb hq0 hqm hqb
  | true =>
    obtain ⟨s1, s2⟩ := let_bytes (pos 26 n).reverse hr26 65 (by decide) n
    rw [← let_text HM.uppL 65 n upp_at] at s1 s2
    exact let_core n 65 true _ ⟨(chS HM.uppL (pos 26 n)).toArray⟩ ⟨(chS HM.grkL (pos 24 n)).toArray⟩ _ _ _ _ _ (HM.RegI W (HM.sndO HM.r0)) (HM.RegI W (HM.sndO (HM.rT HM.SL HM.uppN 2147483647 HM.r0))) h1 h2 (.inr ⟨rfl, rfl, rfl⟩) cN
      (fun a w hR => HM.text_c K hu.1 hnE rfl hR)
      (fun a w hR => (HM.text_c K hu.2 hnE rfl hR).mono fun e w' ⟨he, hR'⟩ => ⟨he, hR'.below⟩) aw s1 (by omega) s2 hp0 hpm hpb xa (by omega) hGb hq0 hqm hqb
theorem let_out (n : Int) (up : Bool) (h : n < -100 ∨ 2147483647 < n) {W : World} (hT : HM.Tabs W) : GoodL n up W := by
  letI : HM.Amb := HM.Amb.none
  have aw := HM.awake_c hT
  rcases h with h | h
  all_goals
    go_enter Tryz.func8, Tryz.ntmps8
    go_wp2_with (first | (go_at_call 10; refine aw.mono ?_; rintro e w' ⟨rfl, hb⟩))
    all_goals first
      | (exfalso; omega)
      | (go_ret; exact ⟨rfl, hb⟩)
theorem let_neg (n : Int) (up : Bool) (h1 : -100 ≤ n) (h2 : n ≤ 0) {W : World} (hT : HM.Tabs W) : GoodL n up W := by
  letI : HM.Amb := HM.Amb.nums [-n % 10, -n / 10]
  have k0 := HM.let_0
  have k1 := HM.let_1
  have k2 := HM.let_2
  have k3 := HM.let_3
  simp only [Bool.and_eq_true] at k0 k1 k2 k3
  by_cases e0 : n = 0
  · subst e0
    cases up
    · exact HM.law_c k0.1 (HM.VRs.cons (.int .i64 0) (HM.VRs.cons (.bool _) (HM.VRs.nil _))) hT
    · exact HM.law_c k0.2 (HM.VRs.cons (.int .i64 0) (HM.VRs.cons (.bool _) (HM.VRs.nil _))) hT
  by_cases e3 : n = -100
  · subst e3
    cases up
    · exact HM.law_c k3.1 (HM.VRs.cons (.int .i64 _) (HM.VRs.cons (.bool _) (HM.VRs.nil _))) hT
    · exact HM.law_c k3.2 (HM.VRs.cons (.int .i64 _) (HM.VRs.cons (.bool _) (HM.VRs.nil _))) hT
  have E0 : (HM.Amb.nums [-n % 10, -n / 10]).num 0 = -n % 10 := HM.Amb.nums_at 0 _ rfl (by decide)
  have E1 : (HM.Amb.nums [-n % 10, -n / 10]).num 1 = -n / 10 := HM.Amb.nums_at 1 _ rfl (by decide)
  by_cases e1 : -9 ≤ n
  · have hv : HM.VR HM.Ren.nil HM.neg1 (.int .i64 n) := HM.VR.lin1 (by rw [E0]; omega) (by rw [E0]; omega) (by rw [E0]; show n = 0 + (-1) * (-n % 10); omega)
    cases up
    · exact HM.law_c k1.1 (HM.VRs.cons hv (HM.VRs.cons (.bool _) (HM.VRs.nil _))) hT
    · exact HM.law_c k1.2 (HM.VRs.cons hv (HM.VRs.cons (.bool _) (HM.VRs.nil _))) hT
  · have hv : HM.VR HM.Ren.nil HM.neg2 (.int .i64 n) := HM.VR.lin2 (by rw [E0]; omega) (by rw [E0]; omega) (by rw [E1]; omega) (by rw [E1]; omega) (by rw [E0, E1]; show n = 0 + (-1) * (-n % 10) + (-10) * (-n / 10); omega)
    cases up
    · exact HM.law_c k2.1 (HM.VRs.cons hv (HM.VRs.cons (.bool _) (HM.VRs.nil _))) hT
    · exact HM.law_c k2.2 (HM.VRs.cons hv (HM.VRs.cons (.bool _) (HM.VRs.nil _))) hT
theorem let_all (n : Int) (up : Bool) {W : World} (hT : HM.Tabs W) : GoodL n up W := by
  by_cases h1 : n < -100 ∨ 2147483647 < n
  · exact let_out n up h1 hT
  · by_cases h2 : n ≤ 0
    · exact let_neg n up (by omega) h2 hT
    · obtain ⟨m, rfl⟩ : ∃ m : Nat, n = (m : Int) := ⟨n.toNat, by omega⟩
      exact let_in m (by omega) (by omega) up hT
end Go.Proofs.YtmgjgdnjkgnbiaaGreatDoor.Reg
