/- fleuronlaw11.RegistryLetters at numbers from 1 on: what it computes. -/
import Derived.Test.YtmgjgdnjkgnbiaaGreatDoorGLP
import Derived.Test.YtmgjgdnjkgnbiaaGreatDoorGN0
import Derived.Laws.RangeAny
import Derived.LoopTactic
import Derived.WalkKit
import Derived.ProofKit
import Derived.OpenShut
import Derived.Lib.Hide
namespace Go.Proofs.YtmgjgdnjkgnbiaaGreatDoor.Reg
open Go Go.RowKit
abbrev GoodL (n : Int) (up : Bool) (W : World) : Prop := Calls Tryz.prog 8 #[.int .i64 n, .bool up] W fun e W' => e = .returned (.bool true) ∧ Below W.heap.size W W'
def LetI (m : Nat) (p : Nat → Nat) (s10 s11 : Value) : Prop := ∃ k : Nat, k ≤ m ∧ s11 = .int .i64 (k : Int) ∧ s10 = .int .i64 (p k : Int)
def GrkI (g : Nat) (p : Nat → Nat) (G : ByteArray) (w1 : World) (s12 : Value) (W : World) : Prop := ∃ k : Nat, k ≤ g ∧ W = w1.iter G (2 * k) ∧ s12 = .int .i64 (p k : Int)
set_option maxRecDepth 100000 in
set_option maxHeartbeats 4000000 in
theorem let_core (n : Nat) (fr : Nat) (up : Bool) (N : ByteArray) (S G : ByteArray) (m g : Nat) (p q : Nat → Nat) (dg : Nat → Nat) {W : World} (R1 : Addr → World → Prop) (R2 : Addr → World → Prop) (hn : 1 ≤ n) (hn2 : n < 2147483648)
    (hfr : (up = false ∧ fr = 97 ∧ N = ⟨#[108, 111, 119, 101, 114, 45, 97, 108, 112, 104, 97]⟩) ∨ (up = true ∧ fr = 65 ∧ N = ⟨#[117, 112, 112, 101, 114, 45, 97, 108, 112, 104, 97]⟩))
    (cN : Calls Tryz.prog 11 #[.slice none 0 0] W (NewR R1))
    (cT : ∀ a w, R1 a w → Calls Tryz.prog 12 #[.pointer (some a), .string N, .int .i64 (n : Int)] w fun e w' => e = .returned (.string S) ∧ R2 a w')
    (cG : ∀ a w, R2 a w → Calls Tryz.prog 12 #[.pointer (some a), .string ⟨#[108, 111, 119, 101, 114, 45, 103, 114, 101, 101, 107]⟩, .int .i64 (n : Int)] w fun e w' => e = .returned (.string G) ∧ Below W.heap.size W w')
    (aw : ∀ w, Below W.heap.size W w → Calls Tryz.prog 10 #[] w fun e w' => e = .returned (.bool true) ∧ Below w.heap.size w w')
    (hS : Hid (S.size = m)) (hm : m ≤ 100) (hSb : Hid (∀ k (h : k < S.size), fr ≤ S[k].toNat ∧ S[k].toNat ≤ fr + 25 ∧ p (k + 1) = p k * 26 + (S[k].toNat - fr) + 1)) (hp0 : Hid (p 0 = 0)) (hpm : Hid (p m = n)) (hpb : Hid (∀ k, k ≤ m → p k ≤ n))
    (hG : Hid (G.size = 2 * g)) (_hg : g ≤ 100) (hGb : Hid (∀ k, k < g → Utf8.decode G (2 * k) = (945 + eG (dg k), 2) ∧ dg k < 24 ∧ q (k + 1) = q k * 24 + dg k + 1)) (hq0 : Hid (q 0 = 0)) (hqm : Hid (q g = n)) (hqb : Hid (∀ k, k ≤ g → q k ≤ n)) : GoodL n up W := by
  have hd1 : decide ((n : Int) < -100) = false := by simp <;> omega
  have hd2 : decide ((2147483647 : Int) < (n : Int)) = false := by simp <;> omega
  have hd3 : decide ((n : Int) < 1) = false := by simp <;> omega
  rcases hfr with ⟨rfl, rfl, rfl⟩ | ⟨rfl, rfl, rfl⟩
  all_goals
    go_enter Tryz.func8, Tryz.ntmps8
    go_wp2_with (go_at_call 11; refine cN.mono ?_)
    rintro e w1 ⟨a, rfl, hR1⟩
    go_wp2_with (go_at_call 12; refine (cT a w1 hR1).mono ?_)
    rintro e w2 ⟨rfl, hR2⟩
    go_wp2_with (go_at_call 12; refine (cG a w2 hR2).mono ?_)
    rintro e w3 ⟨rfl, hB3⟩
    have HB3 := Lib.hid hB3
    clear hB3 hR1 hR2
    go_wp2
    have hs100 : S.size ≤ 100 := by rw [hS.out]; exact hm
    go_loop [10, 11] (fun s10 s11 => LetI S.size p s10 s11) (fun _ s11 => S.size - (intOf s11).toNat)
    case atStart => exact ⟨0, Nat.zero_le _, rfl, by rw [hp0.out]; rfl⟩
    case round =>
      obtain ⟨k, hk, rfl, rfl⟩ := hrel
      by_cases hlt : k < S.size
      · obtain ⟨b1, b2, b3⟩ := hSb.out k hlt
        have hpk := hpb.out (k + 1) (by rw [← hS.out]; exact hlt)
        have HP := Lib.hid b3
        rw [b3] at hpk
        clear b3
        obtain ⟨c, hc⟩ : ∃ c, S[k].toNat = c := ⟨_, rfl⟩
        rw [hc] at b1 b2 hpk HP
        have hci : ((S[k].toNat : Nat) : Int) = (c : Int) := by rw [hc]
        clear hc
        go_wp2
        go_round
        case rel => exact ⟨k + 1, by omega, by go_num, by rw [HP.out]; congr 1; omega⟩
        case measure => simp [intOf]; omega
      · have hkm : k = m := by rw [← hS.out]; omega
        have hpk : p k = n := by rw [hkm]; exact hpm.out
        rw [hpk]
        clear hkm hpk
        go_wp2
        go_loopw [12, 15] (fun s12 _ W' => GrkI g q G w3 s12 W') (fun _ _ W' => G.size - W'.iterPos w3.heap.size)
        case atStart => exact ⟨0, Nat.zero_le _, rfl, by rw [hq0.out]; rfl⟩
        case round =>
          obtain ⟨j, hj, rfl, rfl⟩ := hrel
          by_cases hlj : j < g
          · obtain ⟨g1, g2, g3⟩ := hGb.out j hlj
            have hqk := hqb.out (j + 1) hlj
            have HQ := Lib.hid g3
            rw [g3] at hqk
            clear g3
            have hz : 2 * j < G.size := by rw [hG.out]; omega
            have hnx : ∀ ty, (Instr.next (.pointer (some ⟨w3.heap.size, 0, none⟩)) true ty).run Tryz.prog (w3.iter G (2 * j)) = _ := fun ty => run_next_any w3 G (2 * j) ty hz
            rw [g1] at hnx
            clear g1
            obtain ⟨d, hd⟩ : ∃ d, dg j = d := ⟨_, rfl⟩
            rw [hd] at g2 hqk HQ hnx
            clear hd
            by_cases h17 : d < 17
            · have he : eG d = d := if_pos h17
              rw [he] at hnx
              clear he
              have f1 : decide (945 + (d : Int) - 945 < 0) = false := by simp <;> omega
              have f2 : decide ((24 : Int) < 945 + (d : Int) - 945) = false := by simp <;> omega
              have f3 : ((945 + (d : Int) - 945 : Int) == 17) = false := by simp <;> omega
              have f4 : decide ((17 : Int) < 945 + (d : Int) - 945) = false := by simp <;> omega
              go_wp2
              all_goals
                go_roundw
                case rel => exact ⟨j + 1, by omega, rfl, by rw [HQ.out]; congr 1; omega⟩
                case measure => simp; omega
            · have he : eG d = d + 1 := if_neg h17
              rw [he] at hnx
              clear he
              have f1 : decide (945 + ((d : Int) + 1) - 945 < 0) = false := by simp <;> omega
              have f2 : decide ((24 : Int) < 945 + ((d : Int) + 1) - 945) = false := by simp <;> omega
              have f3 : ((945 + ((d : Int) + 1) - 945 : Int) == 17) = false := by simp <;> omega
              have f4 : decide ((17 : Int) < 945 + ((d : Int) + 1) - 945) = true := by simp <;> omega
              go_wp2
              all_goals
                go_roundw
                case rel => exact ⟨j + 1, by omega, rfl, by rw [HQ.out]; congr 1; omega⟩
                case measure => simp; omega
          · have hjg : j = g := by omega
            have hqj : q j = n := by rw [hjg]; exact hqm.out
            have hnx : ∀ ty, (Instr.next (.pointer (some ⟨w3.heap.size, 0, none⟩)) true ty).run Tryz.prog (w3.iter G (2 * j)) = _ := fun ty => run_next_end w3 G (2 * j) ty (by rw [hG.out]; omega)
            rw [hqj]
            have HB4 : Below W.heap.size W (w3.iter G (2 * j)) := HB3.out.trans (((Below.refl w3.heap.size w3).alloc (Nat.le_refl _) _).mono HB3.out.size)
            have haw := aw _ HB4
            have HB5 := Lib.hid HB4
            clear hjg hqj HB4
            go_wp2_with (go_at_call 10; refine haw.mono ?_; rintro e w5 ⟨rfl, hB6⟩)
            all_goals (go_ret; exact ⟨rfl, HB5.out.trans (hB6.mono HB5.out.size)⟩)
end Go.Proofs.YtmgjgdnjkgnbiaaGreatDoor.Reg
