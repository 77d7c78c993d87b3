/- fleuronlaw18.ContentCounters: two names more. -/
import Derived.Test.YtieiopaobipdoaaGreatDoorVL
namespace Go.Proofs.YtieiopaobipdoaaGreatDoor.Cnt
open Go Go.RowKit HM
variable [E : Amb]
set_option maxHeartbeats 4000000 in
set_option maxRecDepth 100000 in
theorem cnt_2 {W : World} {lb lo lc : Nat} {zs : List Int} {ns : List Nat} (hcells : ∀ (j : Nat) z, zs[j]? = some z → W.cell? ⟨lb, lo + j, none⟩ = some (.int .i64 z)) (hlb : lb < W.heap.size) (hL : ns.length = zs.length) (hL1 : 1 ≤ ns.length) (hL2 : ns.length ≤ 10)
    (hns : ∀ (j : Nat) z, zs[j]? = some z → ns[j]? = some (z % 50).toNat) (hb : ∀ n ∈ ns, n < 50) {sep : ByteArray} (hsep : sep.size ≤ 10) (k : Int) (hk : k % 4 = 2) (hT : Tabs W) (aw : Cut.Awk W) {T : Nat → List UInt8} (hX : ∀ a, TxOk ⟨#[110, 111, 110, 101]⟩ T W a) :
    GoodN (.slice (some ⟨lb, lo, none⟩) zs.length lc) sep k W := by
  have hnew := new_h hT
  have hrk : ∀ w, Calls Tryz.prog 15 #[.int .i64 k, .int .i64 4] w fun e w' => e = .returned (.int .i64 2) ∧ w' = w := fun w => by
    have := HM.round_c k 4 (by decide) (by decide) w
    rwa [hk] at this
  have hrn : ∀ (z : Int) w, Calls Tryz.prog 15 #[.int .i64 z, .int .i64 50] w fun e w' => e = .returned (.int .i64 (((z % 50).toNat : Nat) : Int)) ∧ w = w' := fun z w => by
    have := HM.round_c z 50 (by decide) (by decide) w
    rw [show z % 50 = (((z % 50).toNat : Nat) : Int) by omega] at this
    exact this.mono fun e w' ⟨h1, h2⟩ => ⟨h1, h2.symm⟩
  obtain ⟨i0, hi, hz0, hz1, hz2⟩ := info_parts infoCnt
  have hTl := (hX default).len
  rw [← hL]
  have HL := Lib.hid hL
  have HC := Lib.hid hcells
  have HNS := Lib.hid hns
  have HB := Lib.hid hb
  clear hL hcells hns hk hb
  go_enter Tryz.func5, Tryz.ntmps5
  go_wp2_with (go_at_call 12; refine hnew.mono ?_)
  rintro e w1 ⟨a, rfl, hR1⟩
  have hR2 := hR1.grow ((Below.refl w1.heap.size w1).alloc (Nat.le_refl _) (.cells #[.string ⟨#[100, 101, 99, 105, 109, 97, 108]⟩, .string ⟨#[117, 112, 112, 101, 114, 45, 114, 111, 109, 97, 110]⟩, .string ⟨#[110, 111, 110, 101]⟩, .string ⟨#[108, 111, 119, 101, 114, 45, 97, 108, 112, 104, 97]⟩] 9))
  have HR1 := Lib.hid hR1
  clear hnew hR1
  go_wp2_with (go_at_call 15; refine (hrk _).mono ?_; rintro e w' ⟨rfl, rfl⟩)
  have htx0 := (hX a).call 0 (by omega) [] _ hR2
  have HR2 := Lib.hid hR2
  clear hR2
  refine htx0.mono ?_
  rintro e w3 ⟨rfl, hS3⟩
  have HS3 := Lib.hid hS3
  clear hS3 htx0
  go_wp2
  go_loopw [9, 10, 11, 12] (fun x9 x10 x11 x12 wr => LawI T ns sep w3.heap.size W a x9 x10 x11 x12 wr) (fun _ _ _ x12 _ => ns.length - (intOf x12).toNat)
  case atStart => exact ⟨0, Nat.zero_le _, rfl, rfl, by rw [AB], World.ownsRow_nil _ _ _ _, by simpa [Value.ownBlock] using HS3.out.reg, Nat.le_refl _⟩
  case round =>
    obtain ⟨j, hj, rfl, rfl, rfl, hown, hreg, hsz⟩ := hrel
    by_cases hjl : j < ns.length
    · obtain ⟨z, hz⟩ : ∃ z, zs[j]? = some z := ⟨_, List.getElem?_eq_getElem (by rw [← HL.out]; exact hjl)⟩
      have hn := HNS.out j z hz
      obtain ⟨n, hnz⟩ : ∃ n, (z % 50).toNat = n := ⟨_, rfl⟩
      have hrz := hrn z
      rw [hnz] at hn hrz
      have hn50 := HB.out n (List.mem_of_getElem? hn)
      have hcx : wr.cell? ⟨lb, lo + j, none⟩ = some (.int .i64 z) := (hreg.low.cell (p := ⟨lb, lo + j, none⟩) hlb).trans (HC.out j z hz)
      have htk : ns.take (j + 1) = ns.take j ++ [n] := by
        obtain ⟨h1, h2⟩ := List.getElem?_eq_some_iff.1 hn
        rw [List.take_succ_eq_append_getElem h1, h2]
      have hgd : ns.getD j 0 = n := by rw [List.getD, hn]; rfl
      have hlj : (ns.take j).length = j := by rw [List.length_take]; omega
      have hrow := rowF_snoc 0 (ns.take j) n
      rw [hlj, Nat.zero_add, ← htk] at hrow
      have HROW := Lib.hid hrow
      have HGD := Lib.hid hgd
      have hAs := AB_size T ns sep hsep hTl HB.out j
      have hTs : (⟨(T n).toArray⟩ : ByteArray).size ≤ 100 := by
        show (List.toArray _).size ≤ _
        rw [List.size_toArray]; exact hTl n hn50
      have hTn := hTl n hn50
      have hAs2 : (AB T ns sep j).size ≤ 2000 := by omega
      have hAS := Lib.hid (AB_succ T ns sep j n hgd)
      have HREG := Lib.hid hreg
      clear hrow htk hgd hlj hn hz hnz hAs hreg hrn
      go_wp2_with (first
        | (go_at_call 15; refine (hrz _).mono ?_; rintro e w' ⟨rfl, rfl⟩)
        | (at_builtin; go_loud (refine append_two rfl _ _ 51 rfl w3.heap.size 49 i0 _ 4 40 Tryz.underlying51 hi hz0 hz1 hz2 rfl (by decide) _ (2 * j) (rowF 0 (ns.take j)) rfl (hown.alloc _) ⟨wr.heap.size, 0, none⟩ 2 2 [.string ⟨#[110]⟩, .int .i64 (j : Int), .int .i64 (n : Int), .bool false, .string ⟨#[109]⟩, .int .i64 (j : Int), .int .i64 99, .bool false] rfl rfl ?c1 ?c2 ?c3 ?c4 ?c5 (by decide) ?_)))
      case c1 =>
        intro q u hq
        refine news_alloc _ wr 49 q u ?_
        exact hq
      case c2 => intro u hu; simp at hu; rcases hu with rfl | rfl | rfl | rfl | rfl | rfl | rfl | rfl <;> rfl
      case c3 => unfold maxLen; omega
      case c4 => omega
      case c5 => simp; omega
      intro v' w5 hown5 hg5 hf5
      have hreg5 : RegH v'.ownBlock.toList W a w5 := reg_append (K := []) HREG.out ((Below.refl wr.heap.size wr).alloc (Nat.le_refl _) _) hg5 (fun g hg => (hf5 g hg).imp id fun h => by rw [World.size_alloc]; exact h) hown5
      have hz5 : w3.heap.size ≤ w5.heap.size := by have := hg5.size; simp at this; omega
      rw [← HROW.out, show 2 * j + 2 = 2 * (j + 1) by omega] at hown5
      have htx := (hX a).call n hn50 _ w5 hreg5
      have HO5 := Lib.hid hown5
      clear hg5 hf5 hreg5 hown5 hown hcx
      by_cases hj0 : j = 0
      · subst hj0
        go_wp2_with (go_at_call 16; refine htx.mono ?_)
        rintro e w6 ⟨rfl, hS6⟩
        have HS6 := Lib.hid hS6
        clear hS6 htx
        go_wp2
        go_roundw
        case rel => exact ⟨1, by omega, by go_num, by simp only [lastB, HGD.out], by rw [hAS.out]; simp only [AB, if_true], own_same HO5.out HS6.out.same, HS6.out.reg, Nat.le_trans hz5 HS6.out.size⟩
        case measure => simp [intOf]; omega
      · go_wp2_with (go_at_call 16; refine htx.mono ?_)
        rintro e w6 ⟨rfl, hS6⟩
        have HS6 := Lib.hid hS6
        clear hS6 htx
        have hAS2 : AB T ns sep (j + 1) = AB T ns sep j ++ sep ++ ⟨(T n).toArray⟩ := by rw [hAS.out, if_neg hj0]
        have HAS2 := Lib.hid hAS2
        clear hAS2
        generalize AB T ns sep j = X at hAs2 HAS2 ⊢
        go_wp2
        go_roundw
        case rel => exact ⟨j + 1, by omega, by go_num, by simp only [lastB, HGD.out], by rw [HAS2.out], own_same HO5.out HS6.out.same, HS6.out.reg, Nat.le_trans hz5 HS6.out.size⟩
        case measure => simp [intOf]; omega
    · obtain rfl : j = ns.length := by omega
      have c1 := fun v => one_none hreg v 3 (.inl rfl) ⟨#[110]⟩ ⟨#[]⟩
      have hne : ¬ (ns.length : Int) = 0 := by omega
      clear hown
      go_wp2_with (go_at_call 17; refine (c1 _).mono ?_)
      rintro e wA ⟨rfl, hA⟩
      have c2 := fun v => one_none hA.reg v 4 (.inr rfl) ⟨#[110]⟩ sep
      have HA := Lib.hid hA
      clear c1 hA
      go_wp2_with (go_at_call 17; refine (c2 _).mono ?_)
      rintro e wB ⟨rfl, hB⟩
      have c3 := fun v => one_words hB.reg v sep ⟨#[]⟩ ⟨#[110, 111, 110, 101]⟩
      have HBB := Lib.hid hB
      clear c2 hB
      go_wp2_with (go_at_call 17; refine (c3 _).mono ?_)
      rintro e wC ⟨rfl, hC⟩
      have c4 := fun v => one_quote hC.reg v
      have HCC := Lib.hid hC
      clear c3 hC
      go_wp2_with (go_at_call 17; refine (c4 _).mono ?_)
      rintro e wD ⟨rfl, hD⟩
      have hlow := hD.low'
      have haw := aw wD hlow
      have HLO := Lib.hid hlow
      clear c4 hD hlow
      go_wp2_with (go_at_call 7; refine haw.mono ?_; rintro e w' ⟨rfl, hbw⟩)
      all_goals (go_ret; exact ⟨rfl, HLO.out.trans (hbw.mono HLO.out.size)⟩)
set_option maxHeartbeats 4000000 in
set_option maxRecDepth 100000 in
theorem cnt0_2 {W : World} {al : Option Addr} {lc : Nat} {sep : ByteArray} (hsep : sep.size ≤ 10) (k : Int) (hk : k % 4 = 2) (hT : Tabs W) (aw : Cut.Awk W) {T : Nat → List UInt8} (hX : ∀ a, TxOk ⟨#[110, 111, 110, 101]⟩ T W a) :
    GoodN (.slice al 0 lc) sep k W := by
  have hnew := new_h hT
  have hrk : ∀ w, Calls Tryz.prog 15 #[.int .i64 k, .int .i64 4] w fun e w' => e = .returned (.int .i64 2) ∧ w' = w := fun w => by
    have := HM.round_c k 4 (by decide) (by decide) w
    rwa [hk] at this
  clear hk
  go_enter Tryz.func5, Tryz.ntmps5
  go_wp2_with (go_at_call 12; refine hnew.mono ?_)
  rintro e w1 ⟨a, rfl, hR1⟩
  have hR2 := hR1.grow ((Below.refl w1.heap.size w1).alloc (Nat.le_refl _) (.cells #[.string ⟨#[100, 101, 99, 105, 109, 97, 108]⟩, .string ⟨#[117, 112, 112, 101, 114, 45, 114, 111, 109, 97, 110]⟩, .string ⟨#[110, 111, 110, 101]⟩, .string ⟨#[108, 111, 119, 101, 114, 45, 97, 108, 112, 104, 97]⟩] 9))
  have HR1 := Lib.hid hR1
  clear hnew hR1
  go_wp2_with (go_at_call 15; refine (hrk _).mono ?_; rintro e w' ⟨rfl, rfl⟩)
  have htx0 := (hX a).call 0 (by omega) [] _ hR2
  have HR2 := Lib.hid hR2
  clear hR2
  refine htx0.mono ?_
  rintro e w3 ⟨rfl, hS3⟩
  have hreg := hS3.reg
  have HS3 := Lib.hid hS3
  clear hS3 htx0
  go_wp2
  refine wp_loop_rounds 1 ?_
  rw [rounds_succ]
  have c1 := fun v => one_none hreg v 3 (.inl rfl) ⟨#[110]⟩ ⟨#[]⟩
  go_wp2_with (go_at_call 17; refine (c1 _).mono ?_)
  rintro e wA ⟨rfl, hA⟩
  have c2 := fun v => one_none hA.reg v 4 (.inr rfl) ⟨#[110]⟩ sep
  have HA := Lib.hid hA
  clear c1 hA
  go_wp2_with (go_at_call 17; refine (c2 _).mono ?_)
  rintro e wB ⟨rfl, hB⟩
  have c3 := fun v => one_words hB.reg v sep ⟨#[]⟩ ⟨#[110, 111, 110, 101]⟩
  have HBB := Lib.hid hB
  clear c2 hB
  go_wp2_with (go_at_call 17; refine (c3 _).mono ?_)
  rintro e wC ⟨rfl, hC⟩
  have c4 := fun v => one_quote hC.reg v
  have HCC := Lib.hid hC
  clear c3 hC
  go_wp2_with (go_at_call 17; refine (c4 _).mono ?_)
  rintro e wD ⟨rfl, hD⟩
  have hlow := hD.low'
  have haw := aw wD hlow
  have HLO := Lib.hid hlow
  clear c4 hD hlow
  go_wp2_with (go_at_call 7; refine haw.mono ?_; rintro e w' ⟨rfl, hbw⟩)
  all_goals (go_ret; exact ⟨rfl, HLO.out.trans (hbw.mono HLO.out.size)⟩)
set_option maxHeartbeats 4000000 in
set_option maxRecDepth 100000 in
theorem cnt_3 {W : World} {lb lo lc : Nat} {zs : List Int} {ns : List Nat} (hcells : ∀ (j : Nat) z, zs[j]? = some z → W.cell? ⟨lb, lo + j, none⟩ = some (.int .i64 z)) (hlb : lb < W.heap.size) (hL : ns.length = zs.length) (hL1 : 1 ≤ ns.length) (hL2 : ns.length ≤ 10)
    (hns : ∀ (j : Nat) z, zs[j]? = some z → ns[j]? = some (z % 50).toNat) (hb : ∀ n ∈ ns, n < 50) {sep : ByteArray} (hsep : sep.size ≤ 10) (k : Int) (hk : k % 4 = 3) (hT : Tabs W) (aw : Cut.Awk W) {T : Nat → List UInt8} (hX : ∀ a, TxOk ⟨#[108, 111, 119, 101, 114, 45, 97, 108, 112, 104, 97]⟩ T W a) :
    GoodN (.slice (some ⟨lb, lo, none⟩) zs.length lc) sep k W := by
  have hnew := new_h hT
  have hrk : ∀ w, Calls Tryz.prog 15 #[.int .i64 k, .int .i64 4] w fun e w' => e = .returned (.int .i64 3) ∧ w' = w := fun w => by
    have := HM.round_c k 4 (by decide) (by decide) w
    rwa [hk] at this
  have hrn : ∀ (z : Int) w, Calls Tryz.prog 15 #[.int .i64 z, .int .i64 50] w fun e w' => e = .returned (.int .i64 (((z % 50).toNat : Nat) : Int)) ∧ w = w' := fun z w => by
    have := HM.round_c z 50 (by decide) (by decide) w
    rw [show z % 50 = (((z % 50).toNat : Nat) : Int) by omega] at this
    exact this.mono fun e w' ⟨h1, h2⟩ => ⟨h1, h2.symm⟩
  obtain ⟨i0, hi, hz0, hz1, hz2⟩ := info_parts infoCnt
  have hTl := (hX default).len
  rw [← hL]
  have HL := Lib.hid hL
  have HC := Lib.hid hcells
  have HNS := Lib.hid hns
  have HB := Lib.hid hb
  clear hL hcells hns hk hb
  go_enter Tryz.func5, Tryz.ntmps5
  go_wp2_with (go_at_call 12; refine hnew.mono ?_)
  rintro e w1 ⟨a, rfl, hR1⟩
  have hR2 := hR1.grow ((Below.refl w1.heap.size w1).alloc (Nat.le_refl _) (.cells #[.string ⟨#[100, 101, 99, 105, 109, 97, 108]⟩, .string ⟨#[117, 112, 112, 101, 114, 45, 114, 111, 109, 97, 110]⟩, .string ⟨#[110, 111, 110, 101]⟩, .string ⟨#[108, 111, 119, 101, 114, 45, 97, 108, 112, 104, 97]⟩] 9))
  have HR1 := Lib.hid hR1
  clear hnew hR1
  go_wp2_with (go_at_call 15; refine (hrk _).mono ?_; rintro e w' ⟨rfl, rfl⟩)
  have htx0 := (hX a).call 0 (by omega) [] _ hR2
  have HR2 := Lib.hid hR2
  clear hR2
  refine htx0.mono ?_
  rintro e w3 ⟨rfl, hS3⟩
  have HS3 := Lib.hid hS3
  clear hS3 htx0
  go_wp2
  go_loopw [9, 10, 11, 12] (fun x9 x10 x11 x12 wr => LawI T ns sep w3.heap.size W a x9 x10 x11 x12 wr) (fun _ _ _ x12 _ => ns.length - (intOf x12).toNat)
  case atStart => exact ⟨0, Nat.zero_le _, rfl, rfl, by rw [AB], World.ownsRow_nil _ _ _ _, by simpa [Value.ownBlock] using HS3.out.reg, Nat.le_refl _⟩
  case round =>
    obtain ⟨j, hj, rfl, rfl, rfl, hown, hreg, hsz⟩ := hrel
    by_cases hjl : j < ns.length
    · obtain ⟨z, hz⟩ : ∃ z, zs[j]? = some z := ⟨_, List.getElem?_eq_getElem (by rw [← HL.out]; exact hjl)⟩
      have hn := HNS.out j z hz
      obtain ⟨n, hnz⟩ : ∃ n, (z % 50).toNat = n := ⟨_, rfl⟩
      have hrz := hrn z
      rw [hnz] at hn hrz
      have hn50 := HB.out n (List.mem_of_getElem? hn)
      have hcx : wr.cell? ⟨lb, lo + j, none⟩ = some (.int .i64 z) := (hreg.low.cell (p := ⟨lb, lo + j, none⟩) hlb).trans (HC.out j z hz)
      have htk : ns.take (j + 1) = ns.take j ++ [n] := by
        obtain ⟨h1, h2⟩ := List.getElem?_eq_some_iff.1 hn
        rw [List.take_succ_eq_append_getElem h1, h2]
      have hgd : ns.getD j 0 = n := by rw [List.getD, hn]; rfl
      have hlj : (ns.take j).length = j := by rw [List.length_take]; omega
      have hrow := rowF_snoc 0 (ns.take j) n
      rw [hlj, Nat.zero_add, ← htk] at hrow
      have HROW := Lib.hid hrow
      have HGD := Lib.hid hgd
      have hAs := AB_size T ns sep hsep hTl HB.out j
      have hTs : (⟨(T n).toArray⟩ : ByteArray).size ≤ 100 := by
        show (List.toArray _).size ≤ _
        rw [List.size_toArray]; exact hTl n hn50
      have hTn := hTl n hn50
      have hAs2 : (AB T ns sep j).size ≤ 2000 := by omega
      have hAS := Lib.hid (AB_succ T ns sep j n hgd)
      have HREG := Lib.hid hreg
      clear hrow htk hgd hlj hn hz hnz hAs hreg hrn
      go_wp2_with (first
        | (go_at_call 15; refine (hrz _).mono ?_; rintro e w' ⟨rfl, rfl⟩)
        | (at_builtin; go_loud (refine append_two rfl _ _ 51 rfl w3.heap.size 49 i0 _ 4 40 Tryz.underlying51 hi hz0 hz1 hz2 rfl (by decide) _ (2 * j) (rowF 0 (ns.take j)) rfl (hown.alloc _) ⟨wr.heap.size, 0, none⟩ 2 2 [.string ⟨#[110]⟩, .int .i64 (j : Int), .int .i64 (n : Int), .bool false, .string ⟨#[109]⟩, .int .i64 (j : Int), .int .i64 99, .bool false] rfl rfl ?c1 ?c2 ?c3 ?c4 ?c5 (by decide) ?_)))
      case c1 =>
        intro q u hq
        refine news_alloc _ wr 49 q u ?_
        exact hq
      case c2 => intro u hu; simp at hu; rcases hu with rfl | rfl | rfl | rfl | rfl | rfl | rfl | rfl <;> rfl
      case c3 => unfold maxLen; omega
      case c4 => omega
      case c5 => simp; omega
      intro v' w5 hown5 hg5 hf5
      have hreg5 : RegH v'.ownBlock.toList W a w5 := reg_append (K := []) HREG.out ((Below.refl wr.heap.size wr).alloc (Nat.le_refl _) _) hg5 (fun g hg => (hf5 g hg).imp id fun h => by rw [World.size_alloc]; exact h) hown5
      have hz5 : w3.heap.size ≤ w5.heap.size := by have := hg5.size; simp at this; omega
      rw [← HROW.out, show 2 * j + 2 = 2 * (j + 1) by omega] at hown5
      have htx := (hX a).call n hn50 _ w5 hreg5
      have HO5 := Lib.hid hown5
      clear hg5 hf5 hreg5 hown5 hown hcx
      by_cases hj0 : j = 0
      · subst hj0
        go_wp2_with (go_at_call 16; refine htx.mono ?_)
        rintro e w6 ⟨rfl, hS6⟩
        have HS6 := Lib.hid hS6
        clear hS6 htx
        go_wp2
        go_roundw
        case rel => exact ⟨1, by omega, by go_num, by simp only [lastB, HGD.out], by rw [hAS.out]; simp only [AB, if_true], own_same HO5.out HS6.out.same, HS6.out.reg, Nat.le_trans hz5 HS6.out.size⟩
        case measure => simp [intOf]; omega
      · go_wp2_with (go_at_call 16; refine htx.mono ?_)
        rintro e w6 ⟨rfl, hS6⟩
        have HS6 := Lib.hid hS6
        clear hS6 htx
        have hAS2 : AB T ns sep (j + 1) = AB T ns sep j ++ sep ++ ⟨(T n).toArray⟩ := by rw [hAS.out, if_neg hj0]
        have HAS2 := Lib.hid hAS2
        clear hAS2
        generalize AB T ns sep j = X at hAs2 HAS2 ⊢
        go_wp2
        go_roundw
        case rel => exact ⟨j + 1, by omega, by go_num, by simp only [lastB, HGD.out], by rw [HAS2.out], own_same HO5.out HS6.out.same, HS6.out.reg, Nat.le_trans hz5 HS6.out.size⟩
        case measure => simp [intOf]; omega
    · obtain rfl : j = ns.length := by omega
      rw [List.take_length] at hown
      have hset := set_of_own hown hL1
      obtain ⟨n, hn⟩ : ∃ n, ns[ns.length - 1]? = some n := ⟨_, List.getElem?_eq_getElem (by omega)⟩
      have hlast : lastB T ns ns.length = ⟨(T (ns.getD (ns.length - 1) 0)).toArray⟩ := by
        obtain ⟨q, hq⟩ : ∃ q, ns.length = q + 1 := ⟨ns.length - 1, by omega⟩
        rw [hq]; rfl
      have hall := AB_all T ns sep hL1
      rw [hlast, hall]
      have hst : ((⟨#[108, 111, 119, 101, 114, 45, 97, 108, 112, 104, 97]⟩ : ByteArray).toList == [110, 111, 110, 101]) = false := by rw [ByteArray.toList_eq]; rfl
      have c1 := one_counter hreg hL1 hL2 HB.out hset hT (hX a) hst
      have HOWN := Lib.hid hown
      have hne : ¬ (ns.length : Int) = 0 := by omega
      generalize (T (ns.getD (ns.length - 1) 0)).toArray = X1 at c1 ⊢
      clear hown hlast hall hn hset
      go_wp2_with (go_at_call 17; refine c1.mono ?_)
      rintro e wA ⟨rfl, hA⟩
      have hownA := own_same HOWN.out hA.same
      have c2 := one_counters hA.reg hL1 hL2 HB.out (set_of_own hownA hL1) hT hsep (hX a) hst
      have HOA := Lib.hid hownA
      have HA := Lib.hid hA
      clear c1 hA hownA
      generalize (Lib.join (ns.map T) sep.data.toList).toArray = X2 at c2 ⊢
      go_wp2_with (go_at_call 17; refine c2.mono ?_)
      rintro e wB ⟨rfl, hB⟩
      have c3 := fun v => one_words hB.reg v sep ⟨#[]⟩ ⟨#[110, 111, 110, 101]⟩
      have HBB := Lib.hid hB
      clear c2 hB
      go_wp2_with (go_at_call 17; refine (c3 _).mono ?_)
      rintro e wC ⟨rfl, hC⟩
      have c4 := fun v => one_quote hC.reg v
      have HCC := Lib.hid hC
      clear c3 hC
      go_wp2_with (go_at_call 17; refine (c4 _).mono ?_)
      rintro e wD ⟨rfl, hD⟩
      have hlow := hD.low'
      have haw := aw wD hlow
      have HLO := Lib.hid hlow
      clear c4 hD hlow
      go_wp2_with (go_at_call 7; refine haw.mono ?_; rintro e w' ⟨rfl, hbw⟩)
      all_goals (go_ret; exact ⟨rfl, HLO.out.trans (hbw.mono HLO.out.size)⟩)
set_option maxHeartbeats 4000000 in
set_option maxRecDepth 100000 in
theorem cnt0_3 {W : World} {al : Option Addr} {lc : Nat} {sep : ByteArray} (hsep : sep.size ≤ 10) (k : Int) (hk : k % 4 = 3) (hT : Tabs W) (aw : Cut.Awk W) {T : Nat → List UInt8} (hX : ∀ a, TxOk ⟨#[108, 111, 119, 101, 114, 45, 97, 108, 112, 104, 97]⟩ T W a) :
    GoodN (.slice al 0 lc) sep k W := by
  have hnew := new_h hT
  have hrk : ∀ w, Calls Tryz.prog 15 #[.int .i64 k, .int .i64 4] w fun e w' => e = .returned (.int .i64 3) ∧ w' = w := fun w => by
    have := HM.round_c k 4 (by decide) (by decide) w
    rwa [hk] at this
  clear hk
  go_enter Tryz.func5, Tryz.ntmps5
  go_wp2_with (go_at_call 12; refine hnew.mono ?_)
  rintro e w1 ⟨a, rfl, hR1⟩
  have hR2 := hR1.grow ((Below.refl w1.heap.size w1).alloc (Nat.le_refl _) (.cells #[.string ⟨#[100, 101, 99, 105, 109, 97, 108]⟩, .string ⟨#[117, 112, 112, 101, 114, 45, 114, 111, 109, 97, 110]⟩, .string ⟨#[110, 111, 110, 101]⟩, .string ⟨#[108, 111, 119, 101, 114, 45, 97, 108, 112, 104, 97]⟩] 9))
  have HR1 := Lib.hid hR1
  clear hnew hR1
  go_wp2_with (go_at_call 15; refine (hrk _).mono ?_; rintro e w' ⟨rfl, rfl⟩)
  have htx0 := (hX a).call 0 (by omega) [] _ hR2
  have HR2 := Lib.hid hR2
  clear hR2
  refine htx0.mono ?_
  rintro e w3 ⟨rfl, hS3⟩
  have hreg := hS3.reg
  have HS3 := Lib.hid hS3
  clear hS3 htx0
  go_wp2
  refine wp_loop_rounds 1 ?_
  rw [rounds_succ]
  have hst : ((⟨#[108, 111, 119, 101, 114, 45, 97, 108, 112, 104, 97]⟩ : ByteArray).toList == [110, 111, 110, 101]) = false := by rw [ByteArray.toList_eq]; rfl
  have c1 := one_counter0 hreg hT (hX a) hst
  obtain ⟨X1, hX1⟩ : ∃ X, (T 0).toArray = X := ⟨_, rfl⟩
  rw [hX1] at c1 ⊢
  have HX1 := Lib.hid hX1
  clear hX1
  go_wp2_with (go_at_call 17; refine c1.mono ?_)
  rintro e wA ⟨rfl, hA⟩
  have c2 := one_counters0 (sep := sep) hA.reg hT (hX a) hst
  rw [HX1.out] at c2
  have HA := Lib.hid hA
  clear c1 hA
  go_wp2_with (go_at_call 17; refine c2.mono ?_)
  rintro e wB ⟨rfl, hB⟩
  have c3 := fun v => one_words hB.reg v sep ⟨#[]⟩ ⟨#[110, 111, 110, 101]⟩
  have HBB := Lib.hid hB
  clear c2 hB
  go_wp2_with (go_at_call 17; refine (c3 _).mono ?_)
  rintro e wC ⟨rfl, hC⟩
  have c4 := fun v => one_quote hC.reg v
  have HCC := Lib.hid hC
  clear c3 hC
  go_wp2_with (go_at_call 17; refine (c4 _).mono ?_)
  rintro e wD ⟨rfl, hD⟩
  have hlow := hD.low'
  have haw := aw wD hlow
  have HLO := Lib.hid hlow
  clear c4 hD hlow
  go_wp2_with (go_at_call 7; refine haw.mono ?_; rintro e w' ⟨rfl, hbw⟩)
  all_goals (go_ret; exact ⟨rfl, HLO.out.trans (hbw.mono HLO.out.size)⟩)
end Go.Proofs.YtieiopaobipdoaaGreatDoor.Cnt
