/- A box in words: plain lists of bytes. -/
import Derived.Test.YtfobenohimepaaaDoorNL
namespace Go.Proofs.YtfobenohimepaaaDoor.Num
def esc (c : UInt8) : List UInt8 :=
  if c.toNat = 34 ∨ c.toNat = 92 then [92, c]
  else if c.toNat < 32 ∨ c.toNat = 127 then [92, UInt8.ofNat (48 + c.toNat / 100), UInt8.ofNat (48 + c.toNat / 10 % 10), UInt8.ofNat (48 + c.toNat % 10)]
  else [c]
def escs (l : List UInt8) : List UInt8 := l.flatMap esc
def qS (l : List UInt8) : List UInt8 := 34 :: (escs l ++ [34])
theorem esc_len (c : UInt8) : (esc c).length ≤ 4 := by
  unfold esc
  split
  · simp
  · split <;> simp
theorem escs_len (l : List UInt8) : (escs l).length ≤ 4 * l.length := by
  induction l with
  | nil => simp [escs]
  | cons c r ih =>
    have := esc_len c
    simp only [escs, List.flatMap_cons, List.length_append, List.length_cons] at ih ⊢
    omega
theorem qS_len (l : List UInt8) : (qS l).length ≤ 4 * l.length + 2 := by
  have := escs_len l
  simp [qS]; omega
theorem escs_snoc (l : List UInt8) (c : UInt8) : escs (l ++ [c]) = escs l ++ esc c := by simp [escs]
theorem esc_two {c : UInt8} (h : c.toNat = 34 ∨ c.toNat = 92) : esc c = [92, c] := by unfold esc; rw [if_pos h]
theorem esc_four {c : UInt8} (h : ¬ (c.toNat = 34 ∨ c.toNat = 92)) (h2 : c.toNat < 32 ∨ c.toNat = 127) : esc c = [92, UInt8.ofNat (48 + c.toNat / 100), UInt8.ofNat (48 + c.toNat / 10 % 10), UInt8.ofNat (48 + c.toNat % 10)] := by
  unfold esc; rw [if_neg h, if_pos h2]
theorem esc_one {c : UInt8} (h : ¬ (c.toNat = 34 ∨ c.toNat = 92)) (h2 : ¬ (c.toNat < 32 ∨ c.toNat = 127)) : esc c = [c] := by
  unfold esc; rw [if_neg h, if_neg h2]
end Go.Proofs.YtfobenohimepaaaDoor.Num
