/- fleuronref1.Int of a sign or none and digits: the number, held. -/
import Derived.Test.YtkcpoapbncpiiaaGreatDoorNW
import Derived.Lib.Hide
namespace Go.Proofs.YtkcpoapbncpiiaaGreatDoor.Num
open Go Go.RowKit
def vk (s : ByteArray) (k0 k : Nat) : Nat := val ((s.data.toList.drop k0).take (k - k0))
theorem vk_zero (s : ByteArray) (k0 : Nat) : vk s k0 k0 = 0 := by simp [vk, val]
theorem vk_succ (s : ByteArray) (k0 k : Nat) (h : k0 ≤ k) (hk : k < s.size) : vk s k0 (k + 1) = 10 * vk s k0 k + (s[k].toNat - 48) := by
  have hl : k < s.data.toList.length := by simpa using hk
  unfold vk
  rw [show k + 1 - k0 = (k - k0) + 1 by omega, List.take_succ_eq_append_getElem (by simp; omega), val_snoc]
  congr 2
  simp only [List.getElem_drop]
  have e : s.data.toList[k0 + (k - k0)] = s[k] := by
    simp only [show k0 + (k - k0) = k by omega]
    rfl
  rw [e]
theorem vk_all (s : ByteArray) (k0 : Nat) : vk s k0 s.size = val (s.data.toList.drop k0) := by
  unfold vk
  rw [List.take_of_length_le (by simp)]
theorem ret_int {k : IntKind} {a b : Int} (h : a = b) : Ending.returned (.int k a) = .returned (.int k b) := by rw [h]
def sgnV (neg : Bool) (v : Nat) : Int := if neg = true then max (-(v : Int)) (-2147483648) else min (v : Int) 2147483647
theorem sgnV_t (v : Nat) : sgnV true v = max (-(v : Int)) (-2147483648) := rfl
theorem sgnV_f (v : Nat) : sgnV false v = min (v : Int) 2147483647 := rfl
theorem intR_sign (s : ByteArray) (w : World) (V : Nat) (neg : Bool) (hs : s.size ≤ maxLen) (h0 : 0 < s.size) (h1 : (neg = true ∧ s[0].toNat = 45) ∨ (neg = false ∧ s[0].toNat = 43)) (hd : ∀ k (h : k < s.size), 1 ≤ k → 48 ≤ s[k].toNat ∧ s[k].toNat ≤ 57)
    (HV : Hid (val (s.data.toList.drop 1) = V)) : Calls Tryz.prog 33 #[.string s] w fun e w' => e = .returned (.int .i64 (sgnV neg V)) ∧ w = w' := by
  unfold maxLen at hs
  have H : Hid (vk s 1 s.size = V) := Lib.hid (by rw [vk_all]; exact HV.out)
  have hz := vk_zero s 1
  clear HV
  rcases h1 with ⟨rfl, h1⟩ | ⟨rfl, h1⟩
  · have e1 : ((s[0].toNat : Int) == 43) = false := by simp; omega
    have e2 : ((s[0].toNat : Int) == 45) = true := by simp; omega
    clear h1
    by_cases hone : s.size ≤ 1
    · have hone' : ((1 : Int) == (s.size : Int)) = true := by simp; omega
      have hv : Hid (V = 0) := Lib.hid (by have := H.out; rw [show s.size = 1 by omega, hz] at this; omega)
      clear hz H hone
      go_enter Tryz.func33, Tryz.ntmps33
      go_wp2
      go_ret
      exact ⟨ret_int (by rw [hv.out]; rfl), rfl⟩
    · have hone' : ((1 : Int) == (s.size : Int)) = false := by simp; omega
      go_enter Tryz.func33, Tryz.ntmps33
      go_wp2
      go_loop [2, 4, 5] (fun _ n i => ∃ k : Nat, 1 ≤ k ∧ k ≤ s.size ∧ i = .int .i64 k ∧ n = .int .i64 (min (vk s 1 k : Int) 4294967296)) (fun _ _ i => s.size - (intOf i).toNat)
      case atStart => exact ⟨1, by omega, by omega, rfl, by rw [hz]; rfl⟩
      case round =>
        obtain ⟨k, hk1, hk, rfl, rfl⟩ := hrel
        by_cases hlt : k < s.size
        · obtain ⟨d1, d2⟩ := hd k hlt hk1
          have HS : Hid (vk s 1 (k + 1) = 10 * vk s 1 k + (s[k].toNat - 48)) := Lib.hid (vk_succ s 1 k hk1 hlt)
          go_wp2
          all_goals
            go_round
            case rel => exact ⟨k + 1, by omega, by omega, by go_num, by rw [HS.out]; congr 1; split <;> omega⟩
            case measure => simp [intOf]; omega
        · have hk2 : Hid (k = s.size) := Lib.hid (by omega)
          go_wp2
          all_goals
            go_ret
            have hH : vk s 1 k = V := by rw [hk2.out]; exact H.out
            exact ⟨ret_int (by rw [sgnV_t]; simp only [Int.min_def, Int.max_def] at *; (repeat' split) <;> omega), rfl⟩
  · have e1 : ((s[0].toNat : Int) == 43) = true := by simp; omega
    have e2 : ((s[0].toNat : Int) == 45) = false := by simp; omega
    clear h1
    by_cases hone : s.size ≤ 1
    · have hone' : ((1 : Int) == (s.size : Int)) = true := by simp; omega
      have hv : Hid (V = 0) := Lib.hid (by have := H.out; rw [show s.size = 1 by omega, hz] at this; omega)
      clear hz H hone
      go_enter Tryz.func33, Tryz.ntmps33
      go_wp2
      go_ret
      exact ⟨ret_int (by rw [hv.out]; rfl), rfl⟩
    · have hone' : ((1 : Int) == (s.size : Int)) = false := by simp; omega
      go_enter Tryz.func33, Tryz.ntmps33
      go_wp2
      go_loop [2, 4, 5] (fun _ n i => ∃ k : Nat, 1 ≤ k ∧ k ≤ s.size ∧ i = .int .i64 k ∧ n = .int .i64 (min (vk s 1 k : Int) 4294967296)) (fun _ _ i => s.size - (intOf i).toNat)
      case atStart => exact ⟨1, by omega, by omega, rfl, by rw [hz]; rfl⟩
      case round =>
        obtain ⟨k, hk1, hk, rfl, rfl⟩ := hrel
        by_cases hlt : k < s.size
        · obtain ⟨d1, d2⟩ := hd k hlt hk1
          have HS : Hid (vk s 1 (k + 1) = 10 * vk s 1 k + (s[k].toNat - 48)) := Lib.hid (vk_succ s 1 k hk1 hlt)
          go_wp2
          all_goals
            go_round
            case rel => exact ⟨k + 1, by omega, by omega, by go_num, by rw [HS.out]; congr 1; split <;> omega⟩
            case measure => simp [intOf]; omega
        · have hk2 : Hid (k = s.size) := Lib.hid (by omega)
          go_wp2
          all_goals
            go_ret
            have hH : vk s 1 k = V := by rw [hk2.out]; exact H.out
            exact ⟨ret_int (by rw [sgnV_f]; simp only [Int.min_def] at *; (repeat' split) <;> omega), rfl⟩
theorem intR_plain (s : ByteArray) (w : World) (V : Nat) (hs : s.size ≤ maxLen) (h0 : 0 < s.size) (hd : ∀ k (h : k < s.size), 48 ≤ s[k].toNat ∧ s[k].toNat ≤ 57)
    (HV : Hid (val s.data.toList = V)) : Calls Tryz.prog 33 #[.string s] w fun e w' => e = .returned (.int .i64 (sgnV false V)) ∧ w = w' := by
  unfold maxLen at hs
  have H : Hid (vk s 0 s.size = V) := Lib.hid (by rw [vk_all]; exact HV.out)
  have hz := vk_zero s 0
  clear HV
  have hd0 := hd 0 h0
  have e1 : ((s[0].toNat : Int) == 43) = false := by simp; omega
  have e2 : ((s[0].toNat : Int) == 45) = false := by simp; omega
  clear hd0
  have hone' : ((0 : Int) == (s.size : Int)) = false := by simp; omega
  go_enter Tryz.func33, Tryz.ntmps33
  go_wp2
  go_loop [2, 4, 5] (fun _ n i => ∃ k : Nat, 0 ≤ k ∧ k ≤ s.size ∧ i = .int .i64 k ∧ n = .int .i64 (min (vk s 0 k : Int) 4294967296)) (fun _ _ i => s.size - (intOf i).toNat)
  case atStart => exact ⟨0, by omega, by omega, rfl, by rw [hz]; rfl⟩
  case round =>
    obtain ⟨k, hk1, hk, rfl, rfl⟩ := hrel
    by_cases hlt : k < s.size
    · obtain ⟨d1, d2⟩ := hd k hlt
      have HS : Hid (vk s 0 (k + 1) = 10 * vk s 0 k + (s[k].toNat - 48)) := Lib.hid (vk_succ s 0 k hk1 hlt)
      go_wp2
      all_goals
        go_round
        case rel => exact ⟨k + 1, by omega, by omega, by go_num, by rw [HS.out]; congr 1; split <;> omega⟩
        case measure => simp [intOf]; omega
    · have hk2 : Hid (k = s.size) := Lib.hid (by omega)
      go_wp2
      all_goals
        go_ret
        have hH : vk s 0 k = V := by rw [hk2.out]; exact H.out
        exact ⟨ret_int (by rw [sgnV_f]; simp only [Int.min_def] at *; (repeat' split) <;> omega), rfl⟩
def OkI (l : List UInt8) : Prop := ∃ c r, l = c :: r ∧ (c.toNat = 45 ∨ c.toNat = 43 ∨ dg c = true) ∧ ∀ x ∈ r, dg x = true
theorem dg_nat {c : UInt8} (h : dg c = true) : 48 ≤ c.toNat ∧ c.toNat ≤ 57 := by simpa [dg] using h
theorem at_list (s : ByteArray) (k : Nat) (h : k < s.size) : s.data.toList[k]? = some s[k] := by
  rw [List.getElem?_eq_getElem (by simpa using h)]; rfl
theorem intR_any (s : ByteArray) (w : World) (hs : s.size ≤ maxLen) (h : OkI s.data.toList) : Calls Tryz.prog 33 #[.string s] w fun e w' => e = .returned (.int .i64 (intV s.data.toList)) ∧ w = w' := by
  obtain ⟨c, r, e, hc, hr⟩ := h
  have hl : s.size = r.length + 1 := by
    have : s.data.toList.length = r.length + 1 := by rw [e]; rfl
    simpa using this
  have h0 : 0 < s.size := by omega
  have hc0 : s[0] = c := by
    have := at_list s 0 h0
    rw [e] at this; simpa using this.symm
  have hrest : ∀ k (h : k < s.size), 1 ≤ k → 48 ≤ s[k].toNat ∧ s[k].toNat ≤ 57 := fun k h hk => by
    have := at_list s k h
    obtain ⟨j, rfl⟩ : ∃ j, k = j + 1 := ⟨k - 1, by omega⟩
    rw [e, List.getElem?_cons_succ] at this
    exact dg_nat (hr _ (List.mem_of_getElem? this))
  have hdrop : s.data.toList.drop 1 = r := by rw [e]; rfl
  rcases hc with hc | hc | hc
  · have := intR_sign s w (val r) true hs h0 (.inl ⟨rfl, by rw [hc0]; exact hc⟩) hrest (Lib.hid (by rw [hdrop]))
    rw [show intV s.data.toList = sgnV true (val r) by rw [e, intV, if_pos hc]; rfl]
    exact this
  · have := intR_sign s w (val r) false hs h0 (.inr ⟨rfl, by rw [hc0]; exact hc⟩) hrest (Lib.hid (by rw [hdrop]))
    rw [show intV s.data.toList = sgnV false (val r) by rw [e, intV, if_neg (by omega), if_pos hc]; rfl]
    exact this
  · have hn := dg_nat hc
    have := intR_plain s w (val s.data.toList) hs h0 (fun k h => by
      cases k with
      | zero => rw [hc0]; exact hn
      | succ k => exact hrest _ h (by omega)) (Lib.hid rfl)
    rw [show intV s.data.toList = sgnV false (val s.data.toList) by rw [e, intV, if_neg (by omega), if_neg (by omega)]; rfl]
    exact this
end Go.Proofs.YtkcpoapbncpiiaaGreatDoor.Num
