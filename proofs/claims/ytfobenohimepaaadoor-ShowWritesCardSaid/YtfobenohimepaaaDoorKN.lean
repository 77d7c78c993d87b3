/- fleuronref1.Decimal: a number's digits (XND at a seat without the items' texts). -/
import Derived.Test.YtfobenohimepaaaDoorKQ
import Derived.Lib.Hide
import Derived.Deep.CutBlock
import Derived.Deep.DeepCutAuto
import Derived.Laws.IdiomStrings
import Derived.Laws.Concat
namespace Go.Proofs.YtfobenohimepaaaDoor.Num
open Go Go.RowKit
def rest (x : Nat) (a : List UInt8) : List UInt8 := if a = [] then digs x else if x = 0 then a else digs x ++ a
theorem rest_step (x : Nat) (a : List UInt8) (h : a = [] ∨ 0 < x) : rest (x / 10) (UInt8.ofNat (48 + x % 10) :: a) = rest x a := by
  have e : rest (x / 10) (UInt8.ofNat (48 + x % 10) :: a) = digs x ++ a := by
    unfold rest
    rw [if_neg (by simp)]
    conv => rhs; rw [digs]
    by_cases hx : x < 10
    · rw [if_pos (by omega), if_pos hx, Nat.mod_eq_of_lt hx]; rfl
    · rw [if_neg (by omega), if_neg hx]; simp
  rw [e]
  unfold rest
  by_cases ha : a = []
  · rw [if_pos ha, ha]; simp
  · rw [if_neg ha, if_neg (by rcases h with h | h; exact absurd h ha; omega)]
theorem digs_len (k m : Nat) (h : m < 10 ^ (k + 1)) : (digs m).length ≤ k + 1 := by
  induction k generalizing m with
  | zero => rw [digs, if_pos (by omega)]; simp
  | succ k ih =>
    rw [digs]
    split
    · simp
    · have := ih (m / 10) (by rw [Nat.pow_succ] at h; omega)
      simp; omega
theorem rest_len (x : Nat) (a : List UInt8) : a.length ≤ (rest x a).length := by
  unfold rest
  split
  · rename_i h; rw [h]; simp
  · split <;> simp
theorem byte_of (x : Nat) : ((UInt8.ofNat (48 + x % 10)).toNat : Int) = 48 + (x : Int) % 10 := by
  rw [ofNat_toNat (by omega)]; omega
theorem byte_str (x : Nat) (B : UInt8) (hB : UInt8.ofNat (48 + x % 10) = B) (wr : World) : (convert 36 9 (.slice (some ⟨wr.heap.size, 0, none⟩) 1 1)).run Tryd.prog (wr.alloc (.cells #[.int .u8 (48 + (x : Int) % 10)] 5)) = .ok (.string ⟨#[B]⟩) (wr.alloc (.cells #[.int .u8 (48 + (x : Int) % 10)] 5)) :=
  run_convert_bytes_back _ _ _ 5 ⟨wr.heap.size, 0, none⟩ 1 [B] Tryd.underlying36 Tryd.underlying5 Tryd.underlying9 (fun j hj => by
    have : j = 0 := by simp at hj; exact hj
    subst this
    have hx := byte_of x
    rw [hB] at hx
    simp only [List.getElem_cons_zero]
    rw [hx]
    show World.cell? _ ⟨wr.heap.size, 0, none⟩ = _
    rw [World.cell?_alloc_new]; rfl)
theorem str_cons (B : UInt8) (a : List UInt8) : Value.string ((⟨#[B]⟩ : ByteArray) ++ ⟨a.toArray⟩) = .string ⟨(B :: a).toArray⟩ := by
  rw [ByteArray.mk_append_mk]; simp
set_option maxRecDepth 100000 in
set_option maxHeartbeats 1000000 in
theorem dec_nat (m : Nat) (w : World) (hm : m ≤ 9223372036854775807) : Calls Tryd.prog 21 #[.int .i64 m] w fun e w' => e = .returned (.string ⟨(digs m).toArray⟩) ∧ Below w.heap.size w w' := by
  have hL := digs_len 18 m (by omega)
  have h64 : IntKind.u64.wrap (m : Int) = (m : Int) := by
    unfold IntKind.wrap; simp [IntKind.bits, IntKind.signed]; omega
  go_enter Tryd.func21, Tryd.ntmps21
  go_upto_block 0 with fail
  go_cut [3, 5] (fun _ s5 wx => s5 = .string ⟨(digs m).toArray⟩ ∧ Below w.heap.size w wx)
  case first =>
    go_wp2_with fail
    go_loopg [3, 5] (2 * m + 1) (fun g s3 s5 wx => Below w.heap.size w wx ∧ ∃ (x : Nat) (a : List UInt8), s3 = .int .u64 x ∧ s5 = .string ⟨a.toArray⟩ ∧ x ≤ m ∧ rest x a = digs m ∧ g = 2 * x + (if a = [] then 1 else 0))
    case atStart => exact ⟨.refl _ _, m, [], rfl, rfl, Nat.le_refl _, by simp [rest], by simp⟩
    case round =>
      obtain ⟨hB, x, a, rfl, rfl, hx, hr, rfl⟩ := hrel
      have hla := rest_len x a
      rw [hr] at hla
      have HR := Lib.hid hr
      clear hr
      have r1 : 0 ≤ (x : Int) % 10 := by omega
      have r2 : (x : Int) % 10 < 10 := by omega
      have hB2 : Below w.heap.size w (wr.alloc (.cells #[.int .u8 (48 + (x : Int) % 10)] 5)) := hB.alloc hB.size _
      obtain ⟨B, hBv⟩ : ∃ B, UInt8.ofNat (48 + x % 10) = B := ⟨_, rfl⟩
      have hcv := byte_str x B hBv wr
      have HBV := Lib.hid hBv
      clear hBv
      cases a with
      | nil =>
        by_cases h0 : 0 < x
        · go_wp2
          go_roundg (2 * (x / 10))
          case measure => omega
          case rel => exact ⟨hB2, x / 10, B :: [], congrArg (Value.int .u64) (by omega), str_cons B [], by omega, by rw [← HBV.out, rest_step x [] (.inl rfl)]; exact HR.out, by simp⟩
        · have h1 : (x : Int) ≤ 0 := by omega
          go_wp2
          go_roundg (2 * (x / 10))
          case measure => omega
          case rel => exact ⟨hB2, x / 10, B :: [], congrArg (Value.int .u64) (by omega), str_cons B [], by omega, by rw [← HBV.out, rest_step x [] (.inl rfl)]; exact HR.out, by simp⟩
      | cons c0 r =>
        by_cases h0 : 0 < x
        · have hadd : ∀ w' : World, (Op.stringOp .add (⟨#[B]⟩ : ByteArray) ⟨(c0 :: r).toArray⟩).run Tryd.prog w' = .ok (.string ⟨(B :: c0 :: r).toArray⟩) w' := fun w' => by
            rw [run_string_add_sum w' _ _ (by simp [ByteArray.size]; simp at hla; omega), str_cons]
          go_wp2
          go_roundg (2 * (x / 10))
          case measure => simp; omega
          case rel => exact ⟨hB2, x / 10, B :: c0 :: r, congrArg (Value.int .u64) (by omega), rfl, by omega, by rw [← HBV.out, rest_step x (c0 :: r) (.inr h0)]; exact HR.out, by simp⟩
        · have hH : digs m = c0 :: r := by
            have := HR.out
            have hx0 : x = 0 := by omega
            rw [hx0] at this
            rw [← this]; simp [rest]
          have HH := Lib.hid hH
          clear hH
          go_wp2
          go_meet
          exact ⟨by rw [HH.out], hB⟩
  case rest =>
    obtain ⟨rfl, hB⟩ := hcut
    go_wp2
    go_ret
    exact ⟨by show Ending.returned (.string ((⟨#[]⟩ : ByteArray) ++ ⟨(digs m).toArray⟩)) = _; rw [ByteArray.mk_append_mk]; simp, hB⟩
set_option maxRecDepth 100000 in
set_option maxHeartbeats 1000000 in
theorem dec_neg (m : Nat) (w : World) (h1 : 1 ≤ m) (hm : m ≤ 9223372036854775808) : Calls Tryd.prog 21 #[.int .i64 (-(m : Int))] w fun e w' => e = .returned (.string ⟨(45 :: digs m).toArray⟩) ∧ Below w.heap.size w w' := by
  have hL := digs_len 18 m (by omega)
  obtain ⟨X, hX⟩ : ∃ X, IntKind.u64.wrap (-(m : Int)) = X := ⟨_, rfl⟩
  have hN : IntKind.u64.wrap (-X) = (m : Int) := by
    rw [← hX]; unfold IntKind.wrap; simp [IntKind.bits, IntKind.signed]; omega
  have hneg : decide (0 < m) = true := by simp; omega
  go_enter Tryd.func21, Tryd.ntmps21
  go_upto_block 0 with fail
  go_cut [3, 5] (fun _ s5 wx => s5 = .string ⟨(digs m).toArray⟩ ∧ Below w.heap.size w wx)
  case first =>
    go_wp2_with fail
    go_loopg [3, 5] (2 * m + 1) (fun g s3 s5 wx => Below w.heap.size w wx ∧ ∃ (x : Nat) (a : List UInt8), s3 = .int .u64 x ∧ s5 = .string ⟨a.toArray⟩ ∧ x ≤ m ∧ rest x a = digs m ∧ g = 2 * x + (if a = [] then 1 else 0))
    case atStart => exact ⟨.refl _ _, m, [], rfl, rfl, Nat.le_refl _, by simp [rest], by simp⟩
    case round =>
      obtain ⟨hB, x, a, rfl, rfl, hx, hr, rfl⟩ := hrel
      have hla := rest_len x a
      rw [hr] at hla
      have HR := Lib.hid hr
      clear hr
      have r1 : 0 ≤ (x : Int) % 10 := by omega
      have r2 : (x : Int) % 10 < 10 := by omega
      have hB2 : Below w.heap.size w (wr.alloc (.cells #[.int .u8 (48 + (x : Int) % 10)] 5)) := hB.alloc hB.size _
      obtain ⟨B, hBv⟩ : ∃ B, UInt8.ofNat (48 + x % 10) = B := ⟨_, rfl⟩
      have hcv := byte_str x B hBv wr
      have HBV := Lib.hid hBv
      clear hBv
      cases a with
      | nil =>
        by_cases h0 : 0 < x
        · go_wp2
          go_roundg (2 * (x / 10))
          case measure => omega
          case rel => exact ⟨hB2, x / 10, B :: [], congrArg (Value.int .u64) (by omega), str_cons B [], by omega, by rw [← HBV.out, rest_step x [] (.inl rfl)]; exact HR.out, by simp⟩
        · have h1 : (x : Int) ≤ 0 := by omega
          go_wp2
          go_roundg (2 * (x / 10))
          case measure => omega
          case rel => exact ⟨hB2, x / 10, B :: [], congrArg (Value.int .u64) (by omega), str_cons B [], by omega, by rw [← HBV.out, rest_step x [] (.inl rfl)]; exact HR.out, by simp⟩
      | cons c0 r =>
        by_cases h0 : 0 < x
        · have hadd : ∀ w' : World, (Op.stringOp .add (⟨#[B]⟩ : ByteArray) ⟨(c0 :: r).toArray⟩).run Tryd.prog w' = .ok (.string ⟨(B :: c0 :: r).toArray⟩) w' := fun w' => by
            rw [run_string_add_sum w' _ _ (by simp [ByteArray.size]; simp at hla; omega), str_cons]
          go_wp2
          go_roundg (2 * (x / 10))
          case measure => simp; omega
          case rel => exact ⟨hB2, x / 10, B :: c0 :: r, congrArg (Value.int .u64) (by omega), rfl, by omega, by rw [← HBV.out, rest_step x (c0 :: r) (.inr h0)]; exact HR.out, by simp⟩
        · have hH : digs m = c0 :: r := by
            have := HR.out
            have hx0 : x = 0 := by omega
            rw [hx0] at this
            rw [← this]; simp [rest]
          have HH := Lib.hid hH
          clear hH
          go_wp2
          go_meet
          exact ⟨by rw [HH.out], hB⟩
  case rest =>
    obtain ⟨rfl, hB⟩ := hcut
    go_wp2
    go_ret
    exact ⟨by show Ending.returned (.string ((⟨#[45]⟩ : ByteArray) ++ ⟨(digs m).toArray⟩)) = _; rw [str_cons], hB⟩
end Go.Proofs.YtfobenohimepaaaDoor.Num
