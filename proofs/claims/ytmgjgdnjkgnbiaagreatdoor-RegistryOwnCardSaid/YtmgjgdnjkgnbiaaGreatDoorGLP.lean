/- Letters' numbers in plain Lean: the bytes of the texts, and what they are read as. -/
import Derived.Test.YtmgjgdnjkgnbiaaGreatDoorGT
import Derived.Lib.DecodeN
namespace Go.Proofs.YtmgjgdnjkgnbiaaGreatDoor.Reg
open Go
def pv (K : Nat) (rs : List Nat) (k : Nat) : Nat := (rs.take k).foldl (fun v d => v * K + d + 1) 0
theorem pv_zero (K : Nat) (rs : List Nat) : pv K rs 0 = 0 := by simp [pv]
theorem pv_succ (K : Nat) (rs : List Nat) (k : Nat) (h : k < rs.length) : pv K rs (k + 1) = pv K rs k * K + rs[k] + 1 := by
  unfold pv
  rw [List.take_succ_eq_append_getElem h, List.foldl_append]; rfl
theorem pv_step (K : Nat) (rs : List Nat) (k : Nat) (hK : 0 < K) (h : k < rs.length) : pv K rs k ≤ pv K rs (k + 1) := by
  rw [pv_succ K rs k h]
  have : pv K rs k * 1 ≤ pv K rs k * K := Nat.mul_le_mul_left _ hK
  omega
theorem pv_le (K : Nat) (rs : List Nat) (hK : 0 < K) : ∀ j k, k + j ≤ rs.length → pv K rs k ≤ pv K rs (k + j)
  | 0, k, _ => Nat.le_refl _
  | j + 1, k, h => Nat.le_trans (pv_le K rs hK j k (by omega)) (pv_step K rs (k + j) hK (by omega))
theorem foldr_val (K : Nat) : ∀ ds : List Nat, ds.foldr (fun d v => v * K + d + 1) 0 = val K ds
  | [] => rfl
  | d :: r => by rw [List.foldr_cons, foldr_val K r]; rfl
theorem pv_all (K n : Nat) (hK : 0 < K) : pv K (pos K n).reverse (pos K n).reverse.length = n := by
  unfold pv
  rw [List.take_length, List.foldl_reverse]
  exact (foldr_val K _).trans (val_pos K hK n)
theorem pv_bound (K n k : Nat) (hK : 0 < K) (h : k ≤ (pos K n).reverse.length) : pv K (pos K n).reverse k ≤ n := by
  have := pv_le K (pos K n).reverse hK ((pos K n).reverse.length - k) k (by omega)
  rw [Nat.add_sub_cancel' h, pv_all K n hK] at this
  exact this
theorem flatMap_map {α β : Type} (f : α → List β) (g : α → β) : ∀ l : List α, (∀ d ∈ l, f d = [g d]) → l.flatMap f = l.map g
  | [], _ => rfl
  | d :: r, h => by
    rw [List.flatMap_cons, h d List.mem_cons_self, flatMap_map f g r fun x hx => h x (List.mem_cons_of_mem _ hx)]; rfl
theorem flat2 {α β : Type} (f : α → List β) : ∀ rs : List α, (∀ d ∈ rs, (f d).length = 2) → (rs.flatMap f).length = 2 * rs.length ∧ ∀ j d, rs[j]? = some d → (rs.flatMap f)[2 * j]? = (f d)[0]? ∧ (rs.flatMap f)[2 * j + 1]? = (f d)[1]?
  | [], _ => ⟨rfl, fun j d h => by simp at h⟩
  | x :: r, h => by
    obtain ⟨i1, i2⟩ := flat2 f r fun d hd => h d (List.mem_cons_of_mem _ hd)
    have hx := h x List.mem_cons_self
    refine ⟨by rw [List.flatMap_cons, List.length_append, hx, i1, List.length_cons]; omega, fun j d hj => ?_⟩
    rw [List.flatMap_cons]
    cases j with
    | zero =>
      simp only [List.getElem?_cons_zero, Option.some.injEq] at hj; subst hj
      exact ⟨List.getElem?_append_left (by omega), List.getElem?_append_left (by omega)⟩
    | succ j =>
      rw [List.getElem?_cons_succ] at hj
      obtain ⟨k1, k2⟩ := i2 j d hj
      refine ⟨?_, ?_⟩
      · rw [List.getElem?_append_right (by omega), hx, show 2 * (j + 1) - 2 = 2 * j by omega]; exact k1
      · rw [List.getElem?_append_right (by omega), hx, show 2 * (j + 1) + 1 - 2 = 2 * j + 1 by omega]; exact k2
theorem low_at : ∀ d, d < 26 → HM.lowL.getD d [] = [UInt8.ofNat (97 + d)] := by decide
theorem upp_at : ∀ d, d < 26 → HM.uppL.getD d [] = [UInt8.ofNat (65 + d)] := by decide
def eG (d : Nat) : Nat := if d < 17 then d else d + 1
theorem grk_at : ∀ d, d < 24 → ∃ a b : UInt8, HM.grkL.getD d [] = [a, b] ∧ 128 ≤ a.toNat ∧ a.toNat / 32 = 6 ∧ b.toNat / 64 = 2 ∧ a.toNat % 32 * 64 + b.toNat % 64 = 945 + eG d := by
  intro d hd
  have h : d = 0 ∨ d = 1 ∨ d = 2 ∨ d = 3 ∨ d = 4 ∨ d = 5 ∨ d = 6 ∨ d = 7 ∨ d = 8 ∨ d = 9 ∨ d = 10 ∨ d = 11 ∨ d = 12 ∨ d = 13 ∨ d = 14 ∨ d = 15 ∨ d = 16 ∨ d = 17 ∨ d = 18 ∨ d = 19 ∨ d = 20 ∨ d = 21 ∨ d = 22 ∨ d = 23 := by omega
  rcases h with rfl | rfl | rfl | rfl | rfl | rfl | rfl | rfl | rfl | rfl | rfl | rfl | rfl | rfl | rfl | rfl | rfl | rfl | rfl | rfl | rfl | rfl | rfl | rfl <;> exact ⟨_, _, rfl, by decide, by decide, by decide, by decide⟩
theorem dec2 (n b0 b1 b2 b3 : Nat) (h0 : 128 ≤ b0) (h1 : b0 / 32 = 6) (hn : 1 < n) (h2 : b1 / 64 = 2) (h3 : 128 ≤ b0 % 32 * 64 + b1 % 64) : Lib.decodeN n b0 b1 b2 b3 = (b0 % 32 * 64 + b1 % 64, 2) := by
  unfold Lib.decodeN
  rw [if_neg (by omega), if_pos ⟨h1, hn, h2⟩, if_pos h3]
theorem get_at (l : List UInt8) (i : Nat) (b : UInt8) (h : l[i]? = some b) : (⟨l.toArray⟩ : ByteArray).get! i = b := by
  obtain ⟨hi, e⟩ := List.getElem?_eq_some_iff.1 h
  show l.toArray[i]! = b
  rw [getElem!_pos _ i (by simpa using hi)]
  simpa using e
theorem grk_dec (rs : List Nat) (hr : ∀ d ∈ rs, d < 24) (j : Nat) (hj : j < rs.length) : Utf8.decode ⟨(rs.flatMap fun p => HM.grkL.getD p []).toArray⟩ (2 * j) = (945 + eG rs[j], 2) := by
  have h2 : ∀ d ∈ rs, (HM.grkL.getD d []).length = 2 := fun d hd => by
    obtain ⟨a, b, e, _⟩ := grk_at d (hr d hd); rw [e]; rfl
  obtain ⟨k1, k2⟩ := flat2 (fun p => HM.grkL.getD p []) rs h2
  obtain ⟨k3, k4⟩ := k2 j rs[j] (List.getElem?_eq_getElem hj)
  obtain ⟨a, b, e, e1, e2, e3, e4⟩ := grk_at rs[j] (hr _ (List.getElem_mem hj))
  rw [e] at k3 k4
  rw [Lib.decode_at, get_at _ _ a k3, get_at _ _ b k4, dec2 _ _ _ _ _ e1 e2 ?_ e3 (by omega), e4]
  show 1 < (List.toArray _).size - 2 * j
  rw [List.size_toArray, k1]; omega
end Go.Proofs.YtmgjgdnjkgnbiaaGreatDoor.Reg
