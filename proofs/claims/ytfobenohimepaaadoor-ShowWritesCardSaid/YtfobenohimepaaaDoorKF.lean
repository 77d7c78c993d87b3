/- few boxes: what the law looks at. -/
import Derived.Test.YtfobenohimepaaaDoorKZ
namespace Go.Proofs.YtfobenohimepaaaDoor.Num
open Go Go.RowKit
def pairB (p : PairD) : Bool := decide (p.nm.size ≤ 100)
def pairsB (l : List PairD) : Bool := (l.take 50).all pairB && decide (l.length ≤ 40)
def boxB (b : BoxD) : Bool := decide (b.t.size ≤ 300) && (decide (b.g.size ≤ 100) && (decide (b.dp ≤ 200) && (decide (b.pairs.length ≤ 10) && pairsB b.pairs)))
def fewB (l : List BoxD) : Bool := (l.take 30).all boxB && decide (l.length ≤ 20)
theorem all_snoc {α : Type} (q : α → Bool) (l : List α) (k : Nat) (x : α) (h : l[k]? = some x) : (l.take (k + 1)).all q = ((l.take k).all q && q x) := by
  rw [List.take_add_one, h]; simp
theorem all_false {α : Type} (q : α → Bool) (l : List α) (k m : Nat) (x : α) (h : l[k]? = some x) (hk : k < m) (hx : q x = false) : (l.take m).all q = false := by
  rw [List.all_eq_false]
  refine ⟨x, ?_, by simp [hx]⟩
  refine List.mem_of_getElem? (i := k) ?_
  rw [List.getElem?_take, if_pos hk]; exact h
structure PairD.In (p : PairD) : Prop where
  nm : p.nm.size ≤ 9223372036854775807
  n0 : -9223372036854775808 ≤ p.n
  n1 : p.n ≤ 9223372036854775807
structure BoxD.In (b : BoxD) : Prop where
  lv0 : -9223372036854775808 ≤ b.lv
  lv1 : b.lv ≤ 9223372036854775807
  ps0 : -9223372036854775808 ≤ b.ps
  ps1 : b.ps ≤ 9223372036854775807
  dp0 : -9223372036854775808 ≤ b.dp
  dp1 : b.dp ≤ 9223372036854775807
  t : b.t.size ≤ 9223372036854775807
  g : b.g.size ≤ 9223372036854775807
  pairs : b.pairs.length ≤ 9223372036854775807
  ok : ∀ p ∈ b.pairs, p.In
theorem few_ok {l : List BoxD} (hin : ∀ b ∈ l, b.In) (h : fewB l = true) : l.length ≤ 20 ∧ ∀ b ∈ l, b.Ok := by
  unfold fewB at h
  simp only [Bool.and_eq_true, decide_eq_true_eq] at h
  obtain ⟨h1, h2⟩ := h
  refine ⟨h2, fun b hb => ?_⟩
  rw [List.take_of_length_le (by omega), List.all_eq_true] at h1
  have hq := h1 b hb
  unfold boxB pairsB at hq
  simp only [Bool.and_eq_true, decide_eq_true_eq] at hq
  obtain ⟨q1, q2, q3, q4, q5, q6⟩ := hq
  rw [List.take_of_length_le (by omega), List.all_eq_true] at q5
  have i := hin b hb
  exact ⟨i.lv0, i.lv1, i.ps0, i.ps1, i.dp0, q3, q1, q2, q4, fun p hp => ⟨by simpa [pairB] using q5 p hp, (i.ok p hp).n0, (i.ok p hp).n1⟩⟩
set_option maxRecDepth 100000 in
set_option maxHeartbeats 2000000 in
theorem pairs_of (l : List PairD) (hin : ∀ p ∈ l, p.In) (a : Option Addr) (n c B : Nat) (w : World) (hn : l.length = n) (hn2 : n ≤ 9223372036854775807) (hnc : n ≤ c) (hP : PairsAt w B a l) : Calls Tryd.prog 15 #[.slice a n c] w fun e w' => e = .returned (.bool (pairsB l)) ∧ w = w' := by
  have HN := Lib.hid hn
  have HP := Lib.hid hP
  clear hn hP
  go_enter Tryd.func15, Tryd.ntmps15
  go_wp2_with fail
  go_loop [3] (fun s3 => ∃ k : Nat, k ≤ n ∧ k ≤ 50 ∧ s3 = .int .i64 k ∧ Hid ((l.take k).all pairB = true)) (fun s3 => n - (intOf s3).toNat)
  case atStart => exact ⟨0, Nat.zero_le _, Nat.zero_le _, rfl, Lib.hid rfl⟩
  case round =>
    obtain ⟨k, hk, hk2, rfl, HA⟩ := hrel
    by_cases hlt : k < n
    · by_cases h50 : k < 50
      · obtain ⟨p, hp⟩ : ∃ p, l[k]? = some p := ⟨l[k]'(by have := HN.out; omega), List.getElem?_eq_getElem _⟩
        obtain ⟨ad, rfl, had, d0, d1, d2, d3⟩ := HP.out k p hp
        have hi := (hin p (List.mem_of_getElem? hp)).nm
        have Hp := Lib.hid hp
        clear hp d1 d2 d3
        by_cases hq : p.nm.size ≤ 100
        · have hq2 : ¬ (100 : Int) < (p.nm.size : Int) := by omega
          go_wp2_with fail
          go_round
          case rel => exact ⟨k + 1, by omega, by omega, by go_num, Lib.hid (by rw [all_snoc _ _ _ _ Hp.out, HA.out]; simp [pairB]; omega)⟩
          case measure => simp [intOf]; omega
        · have hq2 : (100 : Int) < (p.nm.size : Int) := by omega
          have HF : Hid (pairsB l = false) := Lib.hid (by unfold pairsB; rw [all_false pairB l k 50 p Hp.out h50 (by simp [pairB]; omega)]; rfl)
          go_wp2_with fail
          go_ret
          exact ⟨by rw [HF.out]; rfl, rfl⟩
      · obtain rfl : k = 50 := by omega
        have HF : Hid (pairsB l = false) := Lib.hid (by unfold pairsB; rw [decide_eq_false (by have := HN.out; omega)]; simp)
        have hl : ¬ (n : Int) ≤ 40 := by omega
        go_wp2_with fail
        go_ret
        exact ⟨by rw [HF.out]; rfl, rfl⟩
    · obtain rfl : k = n := by omega
      have HF : Hid (pairsB l = decide ((k : Int) ≤ 40)) := Lib.hid (by
        have h1 := HA.out
        have h2 := HN.out
        unfold pairsB
        rw [List.take_of_length_le (by omega)] at h1
        rw [List.take_of_length_le (by omega), h1, h2, Bool.true_and]
        exact decide_eq_decide.2 (by omega))
      by_cases hl : (k : Int) ≤ 40
      all_goals
        go_wp2_with fail
        go_ret
        exact ⟨by rw [HF.out]; simp [hl], rfl⟩
set_option maxRecDepth 100000 in
set_option maxHeartbeats 4000000 in
theorem few_of (l : List BoxD) (hin : ∀ b ∈ l, b.In) (A : Option Addr) (n c B : Nat) (w : World) (hn : l.length = n) (hn2 : n ≤ 9223372036854775807) (hnc : n ≤ c) (hA : BoxesAt w B A l) : Calls Tryd.prog 6 #[.slice A n c] w fun e w' => e = .returned (.bool (fewB l)) ∧ w = w' := by
  have HN := Lib.hid hn
  have HA := Lib.hid hA
  clear hn hA
  go_enter Tryd.func6, Tryd.ntmps6
  go_wp2_with fail
  go_loop [3] (fun s3 => ∃ k : Nat, k ≤ n ∧ k ≤ 30 ∧ s3 = .int .i64 k ∧ Hid ((l.take k).all boxB = true)) (fun s3 => n - (intOf s3).toNat)
  case atStart => exact ⟨0, Nat.zero_le _, Nat.zero_le _, rfl, Lib.hid rfl⟩
  case round =>
    obtain ⟨k, hk, hk2, rfl, HL⟩ := hrel
    by_cases hlt : k < n
    · by_cases h50 : k < 30
      · obtain ⟨b, hb⟩ : ∃ b, l[k]? = some b := ⟨l[k]'(by have := HN.out; omega), List.getElem?_eq_getElem _⟩
        obtain ⟨ad, a, m, c', rfl, had, hbox⟩ := HA.out k b hb
        obtain ⟨d0, d1, d2, d3, d4, d5, d6, hm, hmc, hps⟩ := hbox
        have hi := hin b (List.mem_of_getElem? hb)
        have i1 := hi.t
        have i2 := hi.g
        have i3 := hi.pairs
        have i4 : m ≤ 9223372036854775807 := by omega
        have Hp := Lib.hid hb
        have HM := Lib.hid hm
        have HC := Lib.hid (pairs_of b.pairs hi.ok a m c' B w hm i4 hmc hps)
        clear hb hm hps hi d0 d1 d5 i3
        have HF : boxB b = false → Hid (fewB l = false) := fun hb => Lib.hid (by unfold fewB; rw [all_false boxB l k 30 b Hp.out h50 hb]; rfl)
        by_cases q1 : b.t.size ≤ 300
        · have q1' : ¬ (300 : Int) < (b.t.size : Int) := by omega
          by_cases q2 : b.g.size ≤ 100
          · have q2' : ¬ (100 : Int) < (b.g.size : Int) := by omega
            by_cases q3 : b.dp ≤ 200
            · have q3' : ¬ (200 : Int) < b.dp := by omega
              by_cases q4 : m ≤ 10
              · have q4' : ¬ (10 : Int) < (m : Int) := by omega
                have HB : Hid (boxB b = pairsB b.pairs) := Lib.hid (by unfold boxB; rw [decide_eq_true q1, decide_eq_true q2, decide_eq_true q3, HM.out, decide_eq_true q4]; simp)
                obtain ⟨r, hr⟩ : ∃ r, pairsB b.pairs = r := ⟨_, rfl⟩
                have HR := Lib.hid hr
                have HC2 : Hid (Calls Tryd.prog 15 #[.slice a m c'] w fun e w' => e = .returned (.bool r) ∧ w = w') := Lib.hid (by rw [← hr]; exact HC.out)
                clear hr HC
                cases r with
                | true =>
                  clear HF
                  go_wp2_with (go_at_call 15; refine HC2.out.mono ?_; rintro e w' ⟨rfl, rfl⟩)
                  go_round
                  case rel => exact ⟨k + 1, by omega, by omega, by go_num, Lib.hid (by rw [all_snoc _ _ _ _ Hp.out, HL.out, HB.out, HR.out]; rfl)⟩
                  case measure => simp [intOf]; omega
                | false =>
                  have HF2 := HF (by rw [HB.out, HR.out])
                  clear HF
                  go_wp2_with (go_at_call 15; refine HC2.out.mono ?_; rintro e w' ⟨rfl, rfl⟩)
                  go_ret
                  exact ⟨by rw [HF2.out]; rfl, rfl⟩
              · have q4' : (10 : Int) < (m : Int) := by omega
                have HF2 := HF (by unfold boxB; rw [HM.out, decide_eq_false q4]; simp)
                clear HF HC
                go_wp2_with fail
                go_ret
                exact ⟨by rw [HF2.out]; rfl, rfl⟩
            · have q3' : (200 : Int) < b.dp := by omega
              have HF2 := HF (by unfold boxB; rw [decide_eq_false q3]; simp)
              clear HF HC
              go_wp2_with fail
              go_ret
              exact ⟨by rw [HF2.out]; rfl, rfl⟩
          · have q2' : (100 : Int) < (b.g.size : Int) := by omega
            have HF2 := HF (by unfold boxB; rw [decide_eq_false q2]; simp)
            clear HF HC
            go_wp2_with fail
            go_ret
            exact ⟨by rw [HF2.out]; rfl, rfl⟩
        · have q1' : (300 : Int) < (b.t.size : Int) := by omega
          have HF2 := HF (by unfold boxB; rw [decide_eq_false q1]; simp)
          clear HF HC
          go_wp2_with fail
          go_ret
          exact ⟨by rw [HF2.out]; rfl, rfl⟩
      · obtain rfl : k = 30 := by omega
        have HF : Hid (fewB l = false) := Lib.hid (by unfold fewB; rw [decide_eq_false (by have := HN.out; omega)]; simp)
        have hl : ¬ (n : Int) ≤ 20 := by omega
        go_wp2_with fail
        go_ret
        exact ⟨by rw [HF.out]; rfl, rfl⟩
    · obtain rfl : k = n := by omega
      have HF : Hid (fewB l = decide ((k : Int) ≤ 20)) := Lib.hid (by
        have h1 := HL.out
        have h2 := HN.out
        unfold fewB
        rw [List.take_of_length_le (by omega)] at h1
        rw [List.take_of_length_le (by omega), h1, h2, Bool.true_and]
        exact decide_eq_decide.2 (by omega))
      by_cases hl : (k : Int) ≤ 20
      all_goals
        go_wp2_with fail
        go_ret
        exact ⟨by rw [HF.out]; simp [hl], rfl⟩
end Go.Proofs.YtfobenohimepaaaDoor.Num
