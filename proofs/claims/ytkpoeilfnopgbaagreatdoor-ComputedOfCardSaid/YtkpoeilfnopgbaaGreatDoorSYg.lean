/- fleuronref12.Of: what holds, as the document says. -/
import Derived.Test.YtkpoeilfnopgbaaGreatDoorSYf
namespace Go.Proofs.YtkpoeilfnopgbaaGreatDoor.Sty
open Go Go.RowKit
theorem nm_eq (j k : Nat) (n : ByteArray) (h : NmIs k n) (hj : j < 8) : ((nmN j).toList == n.toList) = decide (j = k) := by
  have : j = 0 ∨ j = 1 ∨ j = 2 ∨ j = 3 ∨ j = 4 ∨ j = 5 ∨ j = 6 ∨ j = 7 := by omega
  unfold NmIs at h
  rcases this with rfl | rfl | rfl | rfl | rfl | rfl | rfl | rfl <;> rcases h with ⟨rfl, rfl⟩ | ⟨rfl, rfl⟩ | ⟨rfl, rfl⟩ | ⟨rfl, rfl⟩ | ⟨rfl, rfl⟩ | ⟨rfl, rfl⟩ | ⟨rfl, rfl⟩ | ⟨rfl, rfl⟩ | ⟨rfl, e0, e1, e2, e3, e4, e5, e6, e7⟩ <;> simp only [nmN, allZ, List.getD_cons_zero, List.getD_cons_succ, ByteArray.toList_mk] <;> first | rfl | (rw [Bool.beq_comm]; simpa using ‹_›) | (simp only [beq_eq_false_iff_ne, ne_eq] at *; simp; exact fun h => by simp_all)
def plcR (k : Nat) : Int := if k < 8 then (k : Int) else -1
theorem NmIs.le {k : Nat} {n : ByteArray} (h : NmIs k n) : k ≤ 8 := by
  unfold NmIs at h
  rcases h with ⟨rfl, rfl⟩ | ⟨rfl, rfl⟩ | ⟨rfl, rfl⟩ | ⟨rfl, rfl⟩ | ⟨rfl, rfl⟩ | ⟨rfl, rfl⟩ | ⟨rfl, rfl⟩ | ⟨rfl, rfl⟩ | ⟨rfl, e0, e1, e2, e3, e4, e5, e6, e7⟩ <;> omega
theorem rplace_c (k : Nat) (n : ByteArray) (w : World) (hk : NmIs k n) : Calls Tryz.prog 41 #[.string n] w fun e w' => e = .returned (.int .i64 (plcR k)) ∧ Below w.heap.size w w' := by
  have hq := rnames_c w
  have hN := new_heap w (.cells #[.string ⟨#[99, 111, 108, 111, 114]⟩, .string ⟨#[99, 111, 110, 116, 101, 110, 116]⟩, .string ⟨#[99, 111, 117, 110, 116, 101, 114, 45, 105, 110, 99, 114, 101, 109, 101, 110, 116]⟩, .string ⟨#[99, 111, 117, 110, 116, 101, 114, 45, 114, 101, 115, 101, 116]⟩, .string ⟨#[99, 111, 117, 110, 116, 101, 114, 45, 115, 101, 116]⟩, .string ⟨#[100, 105, 115, 112, 108, 97, 121]⟩, .string ⟨#[108, 105, 115, 116, 45, 115, 116, 121, 108, 101, 45, 116, 121, 112, 101]⟩, .string ⟨#[113, 117, 111, 116, 101, 115]⟩] 9)
  have hB : Below w.heap.size w (w.alloc (.cells #[.string ⟨#[99, 111, 108, 111, 114]⟩, .string ⟨#[99, 111, 110, 116, 101, 110, 116]⟩, .string ⟨#[99, 111, 117, 110, 116, 101, 114, 45, 105, 110, 99, 114, 101, 109, 101, 110, 116]⟩, .string ⟨#[99, 111, 117, 110, 116, 101, 114, 45, 114, 101, 115, 101, 116]⟩, .string ⟨#[99, 111, 117, 110, 116, 101, 114, 45, 115, 101, 116]⟩, .string ⟨#[100, 105, 115, 112, 108, 97, 121]⟩, .string ⟨#[108, 105, 115, 116, 45, 115, 116, 121, 108, 101, 45, 116, 121, 112, 101]⟩, .string ⟨#[113, 117, 111, 116, 101, 115]⟩] 9)) := (Below.refl _ w).alloc (Nat.le_refl _) _
  have hle := hk.le
  have HN := Lib.hid hN
  have HB := Lib.hid hB
  clear hN hB
  go_enter Tryz.func41, Tryz.ntmps41
  go_wp2_with (go_at_call 12; refine hq.mono ?_)
  rintro e w1 ⟨rfl, rfl⟩
  clear hq
  go_wp2_with fail
  go_loop [4] (fun x4 => ∃ j : Nat, j ≤ 8 ∧ j ≤ k ∧ x4 = .int .i64 (j : Int)) (fun x4 => 8 - (intOf x4).toNat)
  case atStart => exact ⟨0, by omega, by omega, rfl⟩
  case round =>
    obtain ⟨j, hj, hjk, rfl⟩ := hrel
    by_cases hlt : j < 8
    · have cn := names_cell HN.out hlt
      have he := nm_eq j k n hk hlt
      by_cases hjk2 : j = k
      · have HE := Lib.hid hjk2
        rw [decide_eq_true hjk2] at he
        clear hjk2
        go_wp2
        go_ret
        refine ⟨?_, HB.out⟩
        have : plcR k = (j : Int) := by
          have := HE.out
          unfold plcR
          rw [if_pos (by omega)]; omega
        rw [this]; rfl
      · rw [decide_eq_false hjk2] at he
        go_wp2
        go_round
        case rel => exact ⟨j + 1, by omega, by omega, by go_num⟩
        case measure => simp [intOf]; omega
    · obtain rfl : j = 8 := by omega
      have HE : Hid (plcR k = -1) := Lib.hid (by unfold plcR; rw [if_neg (by omega)])
      go_wp2
      go_ret
      exact ⟨by rw [HE.out]; rfl, HB.out⟩
theorem alw_8 (p : Int) : alw p 8 = false := by
  unfold alw
  split
  · rfl
  · split
    · rfl
    · split <;> rfl
set_option maxHeartbeats 2000000 in
theorem rallowed_c (p : Int) (k : Nat) (n : ByteArray) (w : World) (hk : NmIs k n) : Calls Tryz.prog 28 #[.int .i64 p, .string n] w fun e w' => e = .returned (.bool (alw p k)) ∧ Below w.heap.size w w' := by
  have hq := rplace_c k n w hk
  have hle := hk.le
  by_cases h8 : k = 8
  · subst h8
    rw [show plcR 8 = -1 from rfl] at hq
    have HA := Lib.hid (alw_8 p)
    go_enter Tryz.func28, Tryz.ntmps28
    go_wp2_with (go_at_call 41; refine hq.mono ?_; rintro e w' ⟨rfl, hb⟩)
    go_ret
    refine ⟨?_, hb⟩
    rw [HA.out]; rfl
  · have hk8 : k < 8 := by omega
    rw [show plcR k = (k : Int) by unfold plcR; rw [if_pos hk8]] at hq
    by_cases h : p = 0 ∨ p = 1 ∨ p = 2
    · have HA : Hid (alw p k = true) := Lib.hid (by unfold alw; rw [if_pos h]; exact decide_eq_true hk8)
      rcases h with rfl | rfl | rfl
      all_goals
        go_enter Tryz.func28, Tryz.ntmps28
        go_wp2_with (go_at_call 41; refine hq.mono ?_; rintro e w' ⟨rfl, hb⟩)
        go_ret
        refine ⟨?_, hb⟩
        rw [HA.out]; rfl
    · have h0 : (p == 0) = false := by simp; omega
      have h1 : (p == 1) = false := by simp; omega
      have h2 : (p == 2) = false := by simp; omega
      by_cases h3 : p = 3
      · subst h3
        have hk2 := hk
        clear hk h
        unfold NmIs at hk2
        rcases hk2 with ⟨rfl, rfl⟩ | ⟨rfl, rfl⟩ | ⟨rfl, rfl⟩ | ⟨rfl, rfl⟩ | ⟨rfl, rfl⟩ | ⟨rfl, rfl⟩ | ⟨rfl, rfl⟩ | ⟨rfl, rfl⟩ | ⟨rfl, e0, e1, e2, e3, e4, e5, e6, e7⟩
        all_goals first
          | (exfalso; omega; done)
          | skip
        all_goals
          go_enter Tryz.func28, Tryz.ntmps28
          go_wp2_with (go_at_call 41; refine hq.mono ?_; rintro e w' ⟨rfl, hb⟩)
          go_ret
          exact ⟨rfl, hb⟩
      · have h3' : (p == 3) = false := by simp; omega
        by_cases h4 : p = 4 ∨ p = 5
        · have hk2 := hk
          clear hk h h3
          unfold NmIs at hk2
          rcases h4 with rfl | rfl <;> rcases hk2 with ⟨rfl, rfl⟩ | ⟨rfl, rfl⟩ | ⟨rfl, rfl⟩ | ⟨rfl, rfl⟩ | ⟨rfl, rfl⟩ | ⟨rfl, rfl⟩ | ⟨rfl, rfl⟩ | ⟨rfl, rfl⟩ | ⟨rfl, e0, e1, e2, e3, e4, e5, e6, e7⟩
          all_goals first
            | (exfalso; omega; done)
            | skip
          all_goals
            go_enter Tryz.func28, Tryz.ntmps28
            go_wp2_with (go_at_call 41; refine hq.mono ?_; rintro e w' ⟨rfl, hb⟩)
            go_ret
            exact ⟨rfl, hb⟩
        · have HA : Hid (alw p k = false) := Lib.hid (by unfold alw; rw [if_neg h, if_neg h3, if_neg h4])
          have h4' : (p == 4) = false := by simp; omega
          have h5 : (p == 5) = false := by simp; omega
          clear hk h h3 h4
          go_enter Tryz.func28, Tryz.ntmps28
          go_wp2_with (go_at_call 41; refine hq.mono ?_; rintro e w' ⟨rfl, hb⟩)
          go_ret
          refine ⟨?_, hb⟩
          rw [HA.out]; rfl
end Go.Proofs.YtkpoeilfnopgbaaGreatDoor.Sty
