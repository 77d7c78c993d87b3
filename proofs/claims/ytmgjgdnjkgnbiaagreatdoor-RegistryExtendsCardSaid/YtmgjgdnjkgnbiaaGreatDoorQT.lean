/- fleuronlaw11.RegistryPads where an argument is out of its range, or a sign is no small letter. -/
import Derived.Test.YtmgjgdnjkgnbiaaGreatDoorGE
import Derived.Test.YtmgjgdnjkgnbiaaGreatDoorPE
import Derived.WalkKit
import Derived.ProofKit
import Derived.OpenShut
import Derived.LoopTactic
import Derived.Lib.Hide
namespace Go.Proofs.YtmgjgdnjkgnbiaaGreatDoor.Pad
open Go Go.RowKit
abbrev GoodP (n pad : Int) (neg : ByteArray) (W : World) : Prop := Calls Tryz.prog 7 #[.int .i64 n, .int .i64 pad, .string neg] W fun e W' => e = .returned (.bool true) ∧ Below W.heap.size W W'
set_option maxHeartbeats 1000000 in
theorem pads_out (n pad : Int) (neg : ByteArray) (h : n < -2147483648 ∨ 2147483648 ≤ n ∨ pad < 0 ∨ 30 < pad ∨ 5 < neg.size) {W : World} (hT : HM.Tabs W) : GoodP n pad neg W := by
  letI : HM.Amb := HM.Amb.none
  have aw := HM.awake_c hT
  go_enter Tryz.func7, Tryz.ntmps7
  go_wp2_with (first | (go_at_call 10; refine aw.mono ?_; rintro e w' ⟨rfl, hb⟩))
  all_goals first
    | (exfalso; omega)
    | (go_ret; exact ⟨rfl, hb⟩)
set_option maxHeartbeats 1000000 in
theorem pads_bad (n pad : Int) (neg : ByteArray) (h1 : -2147483648 ≤ n) (h2 : n < 2147483648) (h3 : 0 ≤ pad) (h4 : pad ≤ 30) (h5 : neg.size ≤ 5) (j : Nat) (hj : j < neg.size) (hb : neg[j].toNat < 97 ∨ 122 < neg[j].toNat)
    (hg : Hid (∀ i (h : i < neg.size), i < j → 97 ≤ neg[i].toNat ∧ neg[i].toNat ≤ 122)) {W : World} (hT : HM.Tabs W) : GoodP n pad neg W := by
  letI : HM.Amb := HM.Amb.none
  have aw := HM.awake_c hT
  go_enter Tryz.func7, Tryz.ntmps7
  go_wp2
  all_goals first
    | (exfalso; omega; done)
    | skip
  go_loop [7] (fun s7 => ∃ k : Nat, k ≤ j ∧ s7 = .int .i64 (k : Int)) (fun s7 => neg.size - (intOf s7).toNat)
  case atStart => exact ⟨0, Nat.zero_le _, rfl⟩
  case round =>
    obtain ⟨k, hk, rfl⟩ := hrel
    have hks : k < neg.size := by omega
    by_cases hkj : k < j
    · obtain ⟨g1, g2⟩ := hg.out k hks hkj
      go_wp2
      all_goals first
        | (exfalso; omega; done)
        | skip
      go_round
      case rel => exact ⟨k + 1, by omega, by go_num⟩
      case measure => simp [intOf]; omega
    · obtain rfl : k = j := by omega
      go_wp2_with (first | (go_at_call 10; refine aw.mono ?_; rintro e w' ⟨rfl, hb'⟩))
      all_goals first
        | (exfalso; omega; done)
        | (go_ret; exact ⟨rfl, hb'⟩)
end Go.Proofs.YtmgjgdnjkgnbiaaGreatDoor.Pad
