/- fleuronlaw11.RegistryRoman returns true for all arguments, and leaves what was there. -/
import Derived.Test.YtmgjgdnjkgnbiaaGreatDoorGLA
import Derived.Test.YtmgjgdnjkgnbiaaGreatDoorGRW
import Derived.Test.YtmgjgdnjkgnbiaaGreatDoorGRN
namespace Go.Proofs.YtmgjgdnjkgnbiaaGreatDoor.Reg
open Go Go.RowKit
theorem wk_all : (List.range 256).all (fun i => decide (wt (UInt8.ofNat i) = wk i 7) && (decide (wk i 7 = 0) || (decide (99 ≤ i) && (decide (i ≤ 120) && decide (wk i 7 ≤ 1000))))) = true := by kernel_rfl
theorem wk_of (c : UInt8) : wt c = wk c.toNat 7 ∧ (wt c ≠ 0 → 99 ≤ c.toNat ∧ c.toNat ≤ 120 ∧ wk c.toNat 7 ≤ 1000) := by
  have h1 := List.all_eq_true.1 wk_all c.toNat (List.mem_range.2 c.toNat_lt)
  simp only [Bool.and_eq_true, Bool.or_eq_true, decide_eq_true_eq, UInt8.ofNat_toNat] at h1
  refine ⟨h1.1, fun h => ?_⟩
  rcases h1.2 with h2 | h2
  · rw [h1.1] at h; exact absurd h2 h
  · exact h2
def gs (up : Bool) (s : List UInt8) (r : Nat) : Int × Int := (s.drop r).reverse.foldl (stR up) (0, 0)
theorem gs_end (up : Bool) (s : List UInt8) : gs up s s.length = (0, 0) := by simp [gs]
theorem gs_step (up : Bool) (s : List UInt8) (r : Nat) (h : r < s.length) : gs up s r = stR up (gs up s (r + 1)) s[r] := by
  unfold gs
  rw [List.drop_eq_getElem_cons h, List.reverse_cons, List.foldl_append]; rfl
theorem gs_bound (up : Bool) (s : List UInt8) (hw : ∀ c ∈ s, wt (if up then c + 32 else c) ≤ 1000) : ∀ j r, r + j = s.length → -(1000 * (j : Int)) ≤ (gs up s r).1 ∧ (gs up s r).1 ≤ 1000 * (j : Int) ∧ 0 ≤ (gs up s r).2 ∧ (gs up s r).2 ≤ 1000
  | 0, r, h => by
    obtain rfl : r = s.length := by omega
    rw [gs_end]; simp
  | j + 1, r, h => by
    obtain ⟨i1, i2, i3, i4⟩ := gs_bound up s hw j (r + 1) (by omega)
    have hr : r < s.length := by omega
    rw [gs_step up s r hr]
    have h2 := hw _ (List.getElem_mem hr)
    unfold stR
    generalize wt (if up = true then s[r] + 32 else s[r]) = x at *
    simp only
    split
    · simp only; omega
    · simp only; omega
def code (up : Bool) (s : List UInt8) (r : Nat) : Nat := if up then (s.getD r 0).toNat + 32 else (s.getD r 0).toNat
theorem rom_facts (up : Bool) (n : Nat) (h : n < 4000) (s : List UInt8) (hs : s = rom (romL up) n) :
    s.length ≤ 15 ∧ (gs up s 0).1 = (n : Int) ∧ ∀ c ∈ s, wt (if up then c + 32 else c) ≠ 0 := by
  have h1 := rom_ok up n h
  unfold romOk at h1
  rw [← hs] at h1
  simp only [Bool.and_eq_true, decide_eq_true_eq, List.all_eq_true] at h1
  exact ⟨h1.2.2.1, by unfold gs; rw [List.drop_zero]; exact h1.2.1, fun c hc => by simpa using h1.1 c hc⟩
theorem code_of (up : Bool) (c : UInt8) (h : wt (if up then c + 32 else c) ≠ 0) : wk (if up then c.toNat + 32 else c.toNat) 7 = wt (if up then c + 32 else c) ∧ 99 ≤ (if up then c.toNat + 32 else c.toNat) ∧ (if up then c.toNat + 32 else c.toNat) ≤ 120 ∧ wt (if up then c + 32 else c) ≤ 1000 := by
  cases up with
  | false =>
    simp only [Bool.false_eq_true, if_false] at h ⊢
    obtain ⟨k1, k2⟩ := wk_of c
    obtain ⟨k3, k4, k5⟩ := k2 h
    exact ⟨k1.symm, k3, k4, by rw [k1]; exact k5⟩
  | true =>
    simp only [if_true] at h ⊢
    obtain ⟨k1, k2⟩ := wk_of (c + 32)
    obtain ⟨k3, k4, k5⟩ := k2 h
    have e : (c + 32).toNat = c.toNat + 32 := by
      have h1 := c.toNat_lt
      have h2 : (c + 32).toNat = (c.toNat + 32) % 256 := by rw [UInt8.toNat_add]; rfl
      omega
    rw [e] at k1 k3 k4 k5
    exact ⟨k1.symm, k3, k4, by rw [k1]; exact k5⟩
theorem rom_in (n : Nat) (h1 : 1 ≤ n) (h2 : n ≤ 3999) (up : Bool) {W : World} (hT : HM.Tabs W) : GoodR n up W := by
  have hsz : ∀ u, (⟨(rom (romL u) n).toArray⟩ : ByteArray).size = (rom (romL u) n).length := fun u => by show (List.toArray _).size = _; simp
  have hle : ∀ u, (rom (romL u) n).length ≤ 15 := fun u => (rom_facts u n (by omega) _ rfl).1
  have hne : ∀ u, 0 < (rom (romL u) n).length := fun u => by
    have h3 := (rom_facts u n (by omega) _ rfl).2.1
    rcases Nat.eq_zero_or_pos (rom (romL u) n).length with h0 | h0
    · have e := List.eq_nil_of_length_eq_zero h0
      rw [e] at h3
      have h4 : (0 : Int) = (n : Int) := h3
      omega
    · exact h0
  letI : HM.Amb := HM.Amb.three (n : Int) ⟨(rom (romL false) n).toArray⟩ ⟨(rom (romL true) n).toArray⟩ ByteArray.empty (by rw [hsz]; have := hle false; omega) (by rw [hsz]; have := hle true; omega) (Nat.zero_le _)
  have K : HM.KnownS HM.SRom := by
    refine ⟨by show (1 : Int) ≤ (n : Int); omega, by show (n : Int) < 2147483648; omega, ?_, ?_, ?_, ?_, ?_⟩
    · intro s hs
      have hn : ((n : Int)).toNat = n := by omega
      simp only [HM.SRom, List.mem_cons, List.not_mem_nil, or_false] at hs
      rcases hs with rfl | rfl
      · show (⟨(rom (romL false) n).toArray⟩ : ByteArray) = ⟨(rom loR ((n : Int)).toNat).toArray⟩
        rw [hn]; rfl
      · show (⟨(rom (romL true) n).toArray⟩ : ByteArray) = ⟨(rom upR ((n : Int)).toNat).toArray⟩
        rw [hn]; rfl
    · intro s hs
      simp only [HM.SRom, List.mem_cons, List.not_mem_nil, or_false] at hs
      rcases hs with rfl | rfl <;> rfl
    · intro s hs
      simp only [HM.SRom, List.mem_cons, List.not_mem_nil, or_false] at hs
      rcases hs with rfl | rfl
      · exact HM.rune_pos ⟨(rom (romL false) n).toArray⟩ (by rw [hsz]; exact hne false)
      · exact HM.rune_pos ⟨(rom (romL true) n).toArray⟩ (by rw [hsz]; exact hne true)
    · intro s hs _
      simp only [HM.SRom, List.mem_cons, List.not_mem_nil, or_false] at hs
      rcases hs with rfl | rfl
      · exact ⟨by show (n : Int) < 4000; omega, by decide⟩
      · exact ⟨by show (n : Int) < 4000; omega, by decide⟩
    · intro s hs ha
      simp only [HM.SRom, List.mem_cons, List.not_mem_nil, or_false] at hs
      rcases hs with rfl | rfl <;> cases ha
  have hl := HM.let_low
  simp only [Bool.and_eq_true] at hl
  have cN := HM.new_c hl.1 hT
  have aw : ∀ w, Below W.heap.size W w → Calls Tryz.prog 10 #[] w fun e w' => e = .returned (.bool true) ∧ Below w.heap.size w w' := fun w hb => HM.awake_c (tabs_move hT hb)
  have hnE : (n : Int) ≤ 3999 := by omega
  have core : ∀ (N : ByteArray) (R1 : Addr → World → Prop), ((up = false ∧ N = ⟨#[108, 111, 119, 101, 114, 45, 114, 111, 109, 97, 110]⟩) ∨ (up = true ∧ N = ⟨#[85, 80, 80, 69, 82, 45, 114, 111, 109, 97, 110]⟩)) →
      Calls Tryz.prog 11 #[.slice none 0 0] W (NewR R1) → (∀ a w, R1 a w → Calls Tryz.prog 12 #[.pointer (some a), .string N, .int .i64 (n : Int)] w fun e w' => e = .returned (.string ⟨(rom (romL up) n).toArray⟩) ∧ Below W.heap.size W w') → GoodR n up W := by
    intro N R1 hN cN' cT
    obtain ⟨f1, f2, f3⟩ := rom_facts up n (by omega) _ rfl
    have hw : ∀ c ∈ rom (romL up) n, wt (if up then c + 32 else c) ≤ 1000 := fun c hc => (code_of up c (f3 c hc)).2.2.2
    refine rom_core n up N ⟨(rom (romL up) n).toArray⟩ (rom (romL up) n).length (code up (rom (romL up) n)) (fun r => (gs up (rom (romL up) n) r).1) (fun r => (gs up (rom (romL up) n) r).2) R1 h1 h2 hN cN' cT aw (hsz up) f1 (fun r hr => ?_) (fun r hr => ?_) ?_ ?_ f2
    · have hr' : r < (rom (romL up) n).length := by rw [← hsz up]; exact hr
      have e : (⟨(rom (romL up) n).toArray⟩ : ByteArray)[r] = (rom (romL up) n)[r] := by
        show (List.toArray _)[r]'_ = _
        simp
      have ec : code up (rom (romL up) n) r = if up then (rom (romL up) n)[r].toNat + 32 else (rom (romL up) n)[r].toNat := by
        unfold code; rw [List.getD, List.getElem?_eq_getElem hr']; rfl
      obtain ⟨k1, k2, k3, k4⟩ := code_of up _ (f3 _ (List.getElem_mem hr'))
      have k0 := f3 _ (List.getElem_mem hr')
      rw [← k1] at k0 k4
      rw [e, ec]
      refine ⟨rfl, k2, k3, by omega, k4, ?_⟩
      show (_ < (gs up (rom (romL up) n) (r + 1)).2 ∧ (gs up (rom (romL up) n) r).1 = _ ∧ (gs up (rom (romL up) n) r).2 = _) ∨ ((gs up (rom (romL up) n) (r + 1)).2 ≤ _ ∧ (gs up (rom (romL up) n) r).1 = _ ∧ (gs up (rom (romL up) n) r).2 = _)
      rw [gs_step up _ r hr', k1]
      unfold stR
      simp only
      by_cases hq : (wt (if up = true then (rom (romL up) n)[r] + 32 else (rom (romL up) n)[r]) : Int) < (gs up (rom (romL up) n) (r + 1)).2
      · rw [if_pos hq]; exact .inl ⟨hq, rfl, rfl⟩
      · rw [if_neg hq]; exact .inr ⟨by omega, rfl, rfl⟩
    · obtain ⟨i1, i2, i3, i4⟩ := gs_bound up _ hw ((rom (romL up) n).length - r) r (by omega)
      exact ⟨by omega, by omega, i3, i4⟩
    · show (gs up _ _).1 = 0
      rw [gs_end]
    · show (gs up _ _).2 = 0
      rw [gs_end]
  cases up with
  | false => exact core _ (HM.RegI W (HM.sndO HM.r0)) (.inl ⟨rfl, rfl⟩) cN fun a w hR => (HM.text_c K HM.rom_low hnE rfl hR).mono fun e w' ⟨he, hR'⟩ => ⟨he, hR'.below⟩
  | true => exact core _ (HM.RegI W (HM.sndO HM.r0)) (.inr ⟨rfl, rfl⟩) cN fun a w hR => (HM.text_c K HM.rom_upp hnE rfl hR).mono fun e w' ⟨he, hR'⟩ => ⟨he, hR'.below⟩
theorem rom_out (n : Int) (up : Bool) (h : n < -5000 ∨ 5000 < n) {W : World} (hT : HM.Tabs W) : GoodR n up W := by
  letI : HM.Amb := HM.Amb.none
  have aw := HM.awake_c hT
  rcases h with h | h
  all_goals
    go_enter Tryz.func3, Tryz.ntmps3
    go_wp2_with (first | (go_at_call 10; refine aw.mono ?_; rintro e w' ⟨rfl, hb⟩))
    all_goals first
      | (exfalso; omega)
      | (go_ret; exact ⟨rfl, hb⟩)
theorem rom_shape (n m : Int) (hneg : n < 0 → m = -n) (hpos : 0 ≤ n → m = n - 4000) (h : (-5000 ≤ n ∧ n ≤ 0) ∨ (4000 ≤ n ∧ n ≤ 5000)) : letI := HM.Amb.nums [m % 10, m / 10 % 10, m / 100 % 10, m / 1000]; ∃ k, k < 8 ∧ HM.VR HM.Ren.nil (HM.rsh k) (.int .i64 n) := by
  letI := HM.Amb.nums [m % 10, m / 10 % 10, m / 100 % 10, m / 1000]
  have E0 : (HM.Amb.nums [m % 10, m / 10 % 10, m / 100 % 10, m / 1000]).num 0 = m % 10 := HM.Amb.nums_at 0 _ rfl (by decide)
  have E1 : (HM.Amb.nums [m % 10, m / 10 % 10, m / 100 % 10, m / 1000]).num 1 = m / 10 % 10 := HM.Amb.nums_at 1 _ rfl (by decide)
  have E2 : (HM.Amb.nums [m % 10, m / 10 % 10, m / 100 % 10, m / 1000]).num 2 = m / 100 % 10 := HM.Amb.nums_at 2 _ rfl (by decide)
  have E3 : (HM.Amb.nums [m % 10, m / 10 % 10, m / 100 % 10, m / 1000]).num 3 = m / 1000 := HM.Amb.nums_at 3 _ rfl (by decide)
  have mk : ∀ (c : Int) (ts : List HM.LT), (∀ t ∈ ts, t.lo ≤ HM.Amb.num t.a ∧ HM.Amb.num t.a ≤ t.hi) → n = c + HM.sumR HM.Ren.nil ts → HM.VR HM.Ren.nil (.lin .i64 c ts) (.int .i64 n) := fun c ts h1 h2 => .lin _ _ _ _ h1 h2
  by_cases e0 : n = 0
  · subst e0; exact ⟨0, by decide, .int _ _⟩
  by_cases e5 : n = -5000
  · subst e5; exact ⟨5, by decide, .int _ _⟩
  by_cases e7 : n = 5000
  · subst e7; exact ⟨7, by decide, .int _ _⟩
  by_cases hn : n < 0
  · have hm := hneg hn
    by_cases e1 : m < 10
    · refine ⟨1, by decide, mk _ _ (fun t ht => ?_) ?_⟩
      · simp only [List.mem_cons, List.not_mem_nil, or_false] at ht
        subst ht; rw [E0]; simp only; omega
      · simp only [HM.sumR, HM.valR, E0]; omega
    by_cases e2 : m < 100
    · refine ⟨2, by decide, mk _ _ (fun t ht => ?_) ?_⟩
      · simp only [List.mem_cons, List.not_mem_nil, or_false] at ht
        rcases ht with rfl | rfl
        · rw [E0]; simp only; omega
        · rw [E1]; simp only; omega
      · simp only [HM.sumR, HM.valR, E0, E1]; omega
    by_cases e3 : m < 1000
    · refine ⟨3, by decide, mk _ _ (fun t ht => ?_) ?_⟩
      · simp only [List.mem_cons, List.not_mem_nil, or_false] at ht
        rcases ht with rfl | rfl | rfl
        · rw [E0]; simp only; omega
        · rw [E1]; simp only; omega
        · rw [E2]; simp only; omega
      · simp only [HM.sumR, HM.valR, E0, E1, E2]; omega
    · refine ⟨4, by decide, mk _ _ (fun t ht => ?_) ?_⟩
      · simp only [List.mem_cons, List.not_mem_nil, or_false] at ht
        rcases ht with rfl | rfl | rfl | rfl
        · rw [E0]; simp only; omega
        · rw [E1]; simp only; omega
        · rw [E2]; simp only; omega
        · rw [E3]; simp only; omega
      · simp only [HM.sumR, HM.valR, E0, E1, E2, E3]; omega
  · have hm := hpos (by omega)
    refine ⟨6, by decide, mk _ _ (fun t ht => ?_) ?_⟩
    · simp only [List.mem_cons, List.not_mem_nil, or_false] at ht
      rcases ht with rfl | rfl | rfl
      · rw [E0]; simp only; omega
      · rw [E1]; simp only; omega
      · rw [E2]; simp only; omega
    · simp only [HM.sumR, HM.valR, E0, E1, E2]; omega
theorem rom_runs (k : Nat) (hk : k < 8) (up : Bool) [HM.Amb] : HM.rl (HM.rsh k) up = true := by
  have h : k = 0 ∨ k = 1 ∨ k = 2 ∨ k = 3 ∨ k = 4 ∨ k = 5 ∨ k = 6 ∨ k = 7 := by omega
  have k0 := HM.rom_0
  have k1 := HM.rom_1
  have k2 := HM.rom_2
  have k3 := HM.rom_3
  have k4 := HM.rom_4
  have k5 := HM.rom_5
  have k6 := HM.rom_6
  have k7 := HM.rom_7
  simp only [Bool.and_eq_true] at k0 k1 k2 k3 k4 k5 k6 k7
  rcases h with rfl | rfl | rfl | rfl | rfl | rfl | rfl | rfl <;> cases up
  · exact k0.1
  · exact k0.2
  · exact k1.1
  · exact k1.2
  · exact k2.1
  · exact k2.2
  · exact k3.1
  · exact k3.2
  · exact k4.1
  · exact k4.2
  · exact k5.1
  · exact k5.2
  · exact k6.1
  · exact k6.2
  · exact k7.1
  · exact k7.2
theorem roman_all (n : Int) (up : Bool) {W : World} (hT : HM.Tabs W) : GoodR n up W := by
  by_cases h1 : n < -5000 ∨ 5000 < n
  · exact rom_out n up h1 hT
  · by_cases h2 : 1 ≤ n ∧ n ≤ 3999
    · obtain ⟨m, rfl⟩ : ∃ m : Nat, n = (m : Int) := ⟨n.toNat, by omega⟩
      exact rom_in m (by omega) (by omega) up hT
    · obtain ⟨m, m1, m2⟩ : ∃ m : Int, (n < 0 → m = -n) ∧ (0 ≤ n → m = n - 4000) := by
        by_cases hn : n < 0
        · exact ⟨-n, fun _ => rfl, fun h => by omega⟩
        · exact ⟨n - 4000, fun h => by omega, fun _ => rfl⟩
      letI := HM.Amb.nums [m % 10, m / 10 % 10, m / 100 % 10, m / 1000]
      obtain ⟨k, hk, hv⟩ := rom_shape n m m1 m2 (by omega)
      exact HM.law_c (rom_runs k hk up) (HM.VRs.cons hv (HM.VRs.cons (.bool _) (HM.VRs.nil _))) hT
end Go.Proofs.YtmgjgdnjkgnbiaaGreatDoor.Reg
