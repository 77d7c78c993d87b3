/- token.Int of a sign or none and digits: the number, held. -/
import Derived.Test.YtkcpoapbncpiiaaGreatDoorNR
import Derived.Test.YtkcpoapbncpiiaaGreatDoorNS
import Derived.Laws.RangeString
import Derived.Laws.RangeAny
import Derived.LoopTactic
namespace Go.Proofs.YtkcpoapbncpiiaaGreatDoor.Num
open Go Go.RowKit
theorem intP_none (s : ByteArray) (w : World) (hs : s.size ≤ maxLen) (hz : s.size ≤ 1) (hT : Lib.trimLeftS s.data.toList [43, 45] = []) :
    Calls Tryz.prog 31 #[.string s] w fun e w' => e = .returned (.int .i64 0) ∧ Below w.heap.size w w' := by
  unfold maxLen at hs
  have hcon := trimLeft_c s w
  rw [hT] at hcon
  go_enter Tryz.func31, Tryz.ntmps31
  go_wp2_with (go_at_call 58; refine hcon.mono ?_; rintro e w1 ⟨rfl, hB⟩)
  all_goals go_ret
  all_goals exact ⟨rfl, hB⟩
theorem intP_some (s D : ByteArray) (w : World) (V : Nat) (neg : Bool) (_hs : s.size ≤ maxLen) (hz : s.size ≤ D.size + 1) (hDs : D.size ≤ s.size) (hD0 : 0 < D.size) (hT : Lib.trimLeftS s.data.toList [43, 45] = D.data.toList)
    (h0 : 0 < s.size) (hn : ((s[0].toNat : Int) == 45) = neg) (hd : ∀ k (h : k < D.size), 48 ≤ D[k].toNat ∧ D[k].toNat ≤ 57) (H : Hid (vk D 0 D.size = V)) :
    Calls Tryz.prog 31 #[.string s] w fun e w' => e = .returned (.int .i64 (sgnV neg V)) ∧ Below w.heap.size w w' := by
  have hcon := trimLeft_c s w
  rw [hT, show (⟨D.data.toList.toArray⟩ : ByteArray) = D by simp] at hcon
  clear hT
  have hne : D.toList.isEmpty = false := by
    rw [ByteArray.toList_eq]
    cases hx : D.data.toList with
    | nil =>
      have : D.data.toList.length = 0 := by rw [hx]; rfl
      have h2 : D.data.toList.length = D.size := by simp
      omega
    | cons => rfl
  have hz0 := vk_zero D 0
  go_enter Tryz.func31, Tryz.ntmps31
  go_wp2_with (go_at_call 58; refine hcon.mono ?_; rintro e w1 ⟨rfl, hB⟩)
  go_loopw [2, 4, 6] (fun _ n _ w' => ∃ k : Nat, k ≤ D.size ∧ w' = w1.iter D k ∧ n = .int .i64 (min (vk D 0 k : Int) 2147483648)) (fun _ _ _ w' => D.size - w'.iterPos w1.heap.size)
  case atStart => exact ⟨0, by omega, rfl, by rw [hz0]; rfl⟩
  case round =>
    obtain ⟨k, hk, rfl, rfl⟩ := hrel
    by_cases hlt : k < D.size
    · obtain ⟨d1, d2⟩ := hd k hlt
      have hnx : ∀ ty, (Instr.next (.pointer (some ⟨w1.heap.size, 0, none⟩)) true ty).run Tryz.prog (w1.iter D k) = _ := fun ty => run_next_ascii w1 D k ty hlt (by omega)
      have HS : Hid (vk D 0 (k + 1) = 10 * vk D 0 k + (D[k].toNat - 48)) := Lib.hid (vk_succ D 0 k (Nat.zero_le _) hlt)
      have hdig := digit_t (D[k].toNat : Int) (w1.iter D (k + 1)) (by omega) (by omega)
      go_wp2_with (go_at_call 30; refine hdig.mono ?_; rintro e w' ⟨rfl, rfl⟩)
      all_goals
        go_roundw
        case rel => exact ⟨k + 1, by omega, rfl, by rw [HS.out]; congr 1; (try split) <;> omega⟩
        case measure => simp; omega
    · have hnx : ∀ ty, (Instr.next (.pointer (some ⟨w1.heap.size, 0, none⟩)) true ty).run Tryz.prog (w1.iter D k) = _ := fun ty => run_next_end w1 D k ty hlt
      have hk2 : Hid (k = D.size) := Lib.hid (by omega)
      have hB2 : Below w.heap.size w (w1.iter D k) := hB.trans (((Below.refl w1.heap.size w1).alloc (Nat.le_refl _) _).mono hB.size)
      cases neg with
      | true =>
        go_wp2
        all_goals
          go_ret
          have hH : vk D 0 k = V := by rw [hk2.out]; exact H.out
          exact ⟨ret_int (by rw [sgnV_t]; simp only [Int.min_def, Int.max_def] at *; (repeat' split) <;> omega), hB2⟩
      | false =>
        go_wp2
        all_goals
          go_ret
          have hH : vk D 0 k = V := by rw [hk2.out]; exact H.out
          exact ⟨ret_int (by rw [sgnV_f]; simp only [Int.min_def] at *; (repeat' split) <;> omega), hB2⟩
end Go.Proofs.YtkcpoapbncpiiaaGreatDoor.Num
