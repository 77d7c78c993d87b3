/- Signs put together: where each begins, and how wide it is. -/
import Derived.Laws.RangeAny
import Derived.Lib.Hide
namespace Go.Proofs.YtieiopaobipdoaaGreatDoor.Cut
open Go
theorem dec_w (s : ByteArray) (i : Nat) (h : i < s.size) : 1 ≤ (Utf8.decode s i).2 ∧ i + (Utf8.decode s i).2 ≤ s.size ∧ (Utf8.decode s i).2 ≤ 4 := by
  simp only [Utf8.decode]
  repeat' split
  all_goals simp_all
  all_goals omega
def wd (x0 x1 x2 x3 : Nat) (c1 c2 c3 : Bool) : Nat × Nat :=
  if x0 < 0x80 then (x0, 1)
  else if x0 / 32 == 6 && (c1 && x1 / 64 == 2) then
    if x0 % 32 * 64 + x1 % 64 ≥ 0x80 then (x0 % 32 * 64 + x1 % 64, 2) else (Utf8.runeError, 1)
  else if x0 / 16 == 14 && (c1 && x1 / 64 == 2) && (c2 && x2 / 64 == 2) then
    if x0 % 16 * 4096 + x1 % 64 * 64 + x2 % 64 ≥ 0x800 && Utf8.valid (x0 % 16 * 4096 + x1 % 64 * 64 + x2 % 64 : Nat) then (x0 % 16 * 4096 + x1 % 64 * 64 + x2 % 64, 3) else (Utf8.runeError, 1)
  else if x0 / 8 == 30 && (c1 && x1 / 64 == 2) && (c2 && x2 / 64 == 2) && (c3 && x3 / 64 == 2) then
    if x0 % 8 * 262144 + x1 % 64 * 4096 + x2 % 64 * 64 + x3 % 64 ≥ 0x10000 && Utf8.valid (x0 % 8 * 262144 + x1 % 64 * 4096 + x2 % 64 * 64 + x3 % 64 : Nat) then (x0 % 8 * 262144 + x1 % 64 * 4096 + x2 % 64 * 64 + x3 % 64, 4) else (Utf8.runeError, 1)
  else (Utf8.runeError, 1)
theorem dec_wd (s : ByteArray) (i : Nat) : Utf8.decode s i = wd (s.get! (i + 0)).toNat (s.get! (i + 1)).toNat (s.get! (i + 2)).toNat (s.get! (i + 3)).toNat (decide (i + 1 < s.size)) (decide (i + 2 < s.size)) (decide (i + 3 < s.size)) := rfl
theorem wd1 (x0 x1 x2 x3 : Nat) (c1 c2 c3 : Bool) (h0 : x0 < 256) (h : c1 = true → x1 = x0) : (wd x0 x1 x2 x3 c1 c2 c3).2 = 1 := by
  unfold wd
  cases c1 with
  | false => simp; split <;> rfl
  | true =>
    obtain rfl := h rfl
    by_cases g : x1 < 128
    · rw [if_pos g]
    · have e1 : (x1 / 32 == 6 && (true && x1 / 64 == 2)) = false := by simp; omega
      have e2 : (x1 / 16 == 14 && (true && x1 / 64 == 2)) = false := by simp; omega
      have e3 : (x1 / 8 == 30 && (true && x1 / 64 == 2)) = false := by simp; omega
      rw [if_neg g, e1, e2, e3]
      rfl
theorem wd2 (x0 x1 x2 x3 y2 y3 : Nat) (d2 d3 : Bool) (h : (wd x0 x1 x2 x3 true false false).2 = 2) : (wd x0 x1 y2 y3 true d2 d3).2 = 2 := by
  unfold wd at *
  by_cases g : x0 < 128
  · rw [if_pos g] at h; simp at h
  rw [if_neg g] at h ⊢
  by_cases g2 : (x0 / 32 == 6 && (true && x1 / 64 == 2)) = true
  · rw [if_pos g2] at h ⊢
    by_cases g3 : x0 % 32 * 64 + x1 % 64 ≥ 0x80
    · rw [if_pos g3]
    · rw [if_neg g3] at h; simp at h
  · rw [if_neg g2] at h
    simp at h
theorem wd3 (x0 x1 x2 x3 y3 : Nat) (d3 : Bool) (h : (wd x0 x1 x2 x3 true true false).2 = 3) : (wd x0 x1 x2 y3 true true d3).2 = 3 := by
  unfold wd at *
  by_cases g : x0 < 128
  · rw [if_pos g] at h; simp at h
  rw [if_neg g] at h ⊢
  by_cases g2 : (x0 / 32 == 6 && (true && x1 / 64 == 2)) = true
  · rw [if_pos g2] at h
    split at h <;> simp at h
  · rw [if_neg g2] at h ⊢
    by_cases g3 : (x0 / 16 == 14 && (true && x1 / 64 == 2) && (true && x2 / 64 == 2)) = true
    · rw [if_pos g3] at h ⊢
      split at h
      · rename_i g4; rw [if_pos g4]
      · simp at h
    · rw [if_neg g3] at h
      simp at h
theorem dec_same (g S : ByteArray) (pos : Nat) (h1 : 1 ≤ g.size) (hw : (Utf8.decode g 0).2 = g.size) (hin : pos + g.size ≤ S.size) (hag : ∀ k, k < g.size → S.get! (pos + k) = g.get! k)
    (hnx : g.size = 1 → pos + 1 < S.size → S.get! (pos + 1) = g.get! 0) : (Utf8.decode S pos).2 = g.size := by
  have hd4 := (dec_w g 0 h1).2.2
  rw [hw] at hd4
  have e0 : S.get! (pos + 0) = g.get! 0 := hag 0 (by omega)
  rw [dec_wd] at hw ⊢
  simp only [Nat.zero_add] at hw
  have hsz : g.size = 1 ∨ g.size = 2 ∨ g.size = 3 ∨ g.size = 4 := by omega
  rcases hsz with hz | hz | hz | hz
  · rw [hz]
    refine wd1 _ _ _ _ _ _ _ (UInt8.toNat_lt _) fun hc => ?_
    rw [hnx hz (by simpa using hc), e0]
  · have e1 : S.get! (pos + 1) = g.get! 1 := hag 1 (by omega)
    rw [hz] at hw ⊢
    rw [e0, e1, show decide (pos + 1 < S.size) = true by simp; omega]
    exact wd2 _ _ _ _ _ _ _ _ hw
  · have e1 : S.get! (pos + 1) = g.get! 1 := hag 1 (by omega)
    have e2 : S.get! (pos + 2) = g.get! 2 := hag 2 (by omega)
    rw [hz] at hw ⊢
    rw [e0, e1, e2, show decide (pos + 1 < S.size) = true by simp; omega, show decide (pos + 2 < S.size) = true by simp; omega]
    exact wd3 _ _ _ _ _ _ hw
  · have e1 : S.get! (pos + 1) = g.get! 1 := hag 1 (by omega)
    have e2 : S.get! (pos + 2) = g.get! 2 := hag 2 (by omega)
    have e3 : S.get! (pos + 3) = g.get! 3 := hag 3 (by omega)
    rw [hz] at hw ⊢
    rw [e0, e1, e2, e3, show decide (pos + 1 < S.size) = true by simp; omega, show decide (pos + 2 < S.size) = true by simp; omega, show decide (pos + 3 < S.size) = true by simp; omega]
    exact hw
def row (t : Nat) (g : List UInt8) : Nat → List UInt8
  | 0 => List.replicate t 120
  | n + 1 => row t g n ++ g
theorem row_len (t : Nat) (g : List UInt8) (n : Nat) : (row t g n).length = t + n * g.length := by
  induction n with
  | zero => simp [row]
  | succ n ih => simp only [row, List.length_append, ih, Nat.add_mul]; omega
theorem row_x (t : Nat) (g : List UInt8) (n i : Nat) (h : i < t) : (row t g n)[i]? = some 120 := by
  induction n with
  | zero => simp [row, h]
  | succ n ih => rw [row, List.getElem?_append_left (by rw [row_len]; omega)]; exact ih
theorem row_g (t : Nat) (g : List UInt8) (n k j : Nat) (hk : k < n) (hj : j < g.length) : (row t g n)[t + k * g.length + j]? = g[j]? := by
  induction n with
  | zero => omega
  | succ n ih =>
    by_cases h : k < n
    · have : k * g.length + g.length ≤ n * g.length := by
        have := Nat.mul_le_mul_right g.length (show k + 1 ≤ n by omega)
        rw [Nat.add_mul] at this; omega
      rw [row, List.getElem?_append_left (by rw [row_len]; omega)]
      exact ih h
    · obtain rfl : k = n := by omega
      rw [row, List.getElem?_append_right (by rw [row_len]; omega), row_len]
      congr 1; omega
def rowB (t : Nat) (g : List UInt8) (n : Nat) : ByteArray := ⟨(row t g n).toArray⟩
theorem get_list (l : List UInt8) (i : Nat) : (⟨l.toArray⟩ : ByteArray).get! i = l[i]?.getD 0 := by
  show (l.toArray)[i]! = _
  simp [getElem!_def]
  cases l[i]? <;> rfl
def at' (t d k : Nat) : Nat := if k ≤ t then k else t + (k - t) * d
theorem row_dec (t : Nat) (g : List UInt8) (n : Nat) (hg : 1 ≤ g.length) (hw : (Utf8.decode ⟨g.toArray⟩ 0).2 = g.length) (k : Nat) (hk : k < t + n) :
    at' t g.length k < (rowB t g n).size ∧ at' t g.length k + (Utf8.decode (rowB t g n) (at' t g.length k)).2 = at' t g.length (k + 1) ∧ at' t g.length k < at' t g.length (k + 1) := by
  have hsz : (rowB t g n).size = t + n * g.length := by
    show (List.toArray _).size = _
    rw [List.size_toArray, row_len]
  by_cases h : k < t
  · have e1 : at' t g.length k = k := if_pos (by omega)
    have e2 : at' t g.length (k + 1) = k + 1 := if_pos (by omega)
    rw [e1, e2]
    have hx : (rowB t g n).get! (k + 0) = 120 := by
      rw [rowB, get_list, Nat.add_zero, row_x t g n k h]; rfl
    refine ⟨by omega, ?_, by omega⟩
    have : (Utf8.decode (rowB t g n) k).2 = 1 := by
      simp only [Utf8.decode, hx]
      rfl
    rw [this]
  · obtain ⟨m, rfl⟩ : ∃ m, k = t + m := ⟨k - t, by omega⟩
    have hm : m < n := by omega
    have e1 : at' t g.length (t + m) = t + m * g.length := by
      unfold at'; split
      · obtain rfl : m = 0 := by omega
        simp
      · rw [Nat.add_sub_cancel_left]
    have e2 : at' t g.length (t + m + 1) = t + m * g.length + g.length := by
      unfold at'; rw [if_neg (by omega), show t + m + 1 - t = m + 1 by omega, Nat.add_mul]; omega
    rw [e1, e2]
    have hmn : m * g.length + g.length ≤ n * g.length := by
      have := Nat.mul_le_mul_right g.length (show m + 1 ≤ n by omega)
      rw [Nat.add_mul] at this; omega
    have hd := dec_same ⟨g.toArray⟩ (rowB t g n) (t + m * g.length) (by show 1 ≤ (List.toArray _).size; simpa using hg) (by rw [hw]; simp [ByteArray.size]) (by rw [hsz]; show _ + (List.toArray _).size ≤ _; rw [List.size_toArray]; omega)
      (fun j hj => by
        have hj : j < g.length := by simpa [ByteArray.size] using hj
        rw [rowB, get_list, get_list, row_g t g n m j hm hj])
      (fun h1 hlt => by
        have h1 : g.length = 1 := by simpa [ByteArray.size] using h1
        rw [hsz] at hlt
        have hm2 : m + 1 < n := by rw [h1] at hlt; omega
        have := row_g t g n (m + 1) 0 hm2 (by omega)
        rw [rowB, get_list, get_list]
        rw [show t + m * g.length + 1 = t + (m + 1) * g.length + 0 by rw [Nat.add_mul, h1]; omega, this])
    refine ⟨by omega, ?_, by omega⟩
    rw [hd]; simp [ByteArray.size]
end Go.Proofs.YtieiopaobipdoaaGreatDoor.Cut
