/- points.Lower of any text. -/
import Derived.Test.YtieiopaobipdoaaGreatDoorGK
import Derived.Lib.Hide
import Derived.Deep.CutBlock
import Derived.Deep.DeepCutAuto
import Derived.Laws.IdiomStrings
import Derived.Laws.Concat
import Derived.BigCall
import Derived.LoopTactic
namespace Go.Proofs.YtieiopaobipdoaaGreatDoor.Num
open Go Go.Shelf Go.RowKit Go.Proofs
def lowB (c : UInt8) : UInt8 := if 65 ≤ c.toNat ∧ c.toNat ≤ 90 then UInt8.ofNat (c.toNat + 32) else c
def lowL (l : List UInt8) : List UInt8 := l.map lowB
theorem low_hit {c : UInt8} (h1 : 65 ≤ c.toNat) (h2 : c.toNat ≤ 90) : Lib.byteCells [lowB c] = [.int .u8 ((c.toNat : Int) + 32)] := by
  unfold lowB
  rw [if_pos ⟨h1, h2⟩]
  show [Value.int .u8 ((UInt8.ofNat (c.toNat + 32)).toNat : Int)] = _
  have : (UInt8.ofNat (c.toNat + 32)).toNat = c.toNat + 32 := by
    show (c.toNat + 32) % 256 = _
    omega
  rw [this]; rfl
theorem low_miss {c : UInt8} (h : ¬ (65 ≤ c.toNat ∧ c.toNat ≤ 90)) : Lib.byteCells [lowB c] = [.int .u8 (c.toNat : Int)] := by
  unfold lowB
  rw [if_neg h]; rfl
theorem low_snoc (s : ByteArray) (k : Nat) (h : k < s.size) : Lib.byteCells (lowL (s.data.toList.take (k + 1))) = Lib.byteCells (lowL (s.data.toList.take k)) ++ Lib.byteCells [lowB s[k]] := by
  have e : s.data.toList.take (k + 1) = s.data.toList.take k ++ [s[k]] := by
    rw [List.take_succ_eq_append_getElem (by simpa using h)]; rfl
  rw [e, ← Lib.byteCells_append]
  unfold lowL
  rw [List.map_append]; rfl
set_option maxRecDepth 100000 in
set_option maxHeartbeats 2000000 in
theorem lower_any (s : ByteArray) (w : World) (hs : s.size ≤ 1000000) : Calls Tryz.prog 49 #[.string s] w fun e w' => e = .returned (.string ⟨(lowL s.data.toList).toArray⟩) ∧ Below w.heap.size w w' := by
  have hI := Lib.fresh_isBuilder 92 5 w
  have hB0 : Below w.heap.size w (w.alloc (.cells #[.pointer none, .slice none 0 0] 92)) := (Below.refl _ w).alloc (Nat.le_refl _) _
  go_enter Tryz.func49, Tryz.ntmps49
  go_wp2
  go_loopg [8] s.size (fun g s8 wx => Below w.heap.size w wx ∧ ∃ k : Nat, k ≤ s.size ∧ g = s.size - k ∧ s8 = .int .i64 k ∧ Lib.IsBuilder 92 5 w.heap.size w.heap.size (Lib.byteCells (lowL (s.data.toList.take k))) wx)
  case atStart => exact ⟨hB0, 0, Nat.zero_le _, rfl, rfl, hI⟩
  case round =>
    clear hI hB0
    obtain ⟨hB, k, hk, rfl, rfl, hA⟩ := hrel
    have hAl : (Lib.byteCells (lowL (s.data.toList.take k))).length ≤ 1000000 := by rw [Lib.byteCells_length]; unfold lowL; simp; omega
    by_cases hlt : k < s.size
    · have hb : s[k].toNat < 256 := s[k].toNat_lt
      have hnb := low_snoc s k hlt
      obtain ⟨P, hP⟩ : ∃ P, Lib.byteCells (lowL (s.data.toList.take k)) = P := ⟨_, rfl⟩
      rw [hP] at hnb hAl hA
      have HN := Lib.hid hnb
      clear hnb hP
      by_cases h1 : 65 ≤ s[k].toNat ∧ s[k].toNat ≤ 90
      · obtain ⟨h1, h2⟩ := h1
        have HE := Lib.hid (low_hit h1 h2)
        have hc := writeByte w.heap.size w.heap.size P ((s[k].toNat : Int) + 32) wr hA (by omega) hB.size
        go_wp2_with (go_at_call 65; refine hc.mono ?_)
        rintro e W1 ⟨rfl, hA1, hB1⟩
        go_wp2
        go_roundg (s.size - (k + 1))
        case measure => omega
        case rel => exact ⟨hB.trans hB1, k + 1, by omega, rfl, by go_num, by rw [HN.out, HE.out]; exact Or.inr hA1⟩
      · have HE := Lib.hid (low_miss h1)
        have hc := writeByte w.heap.size w.heap.size P (s[k].toNat : Int) wr hA (by omega) hB.size
        by_cases h2 : 65 ≤ s[k].toNat
        all_goals
          go_wp2_with (go_at_call 65; refine hc.mono ?_)
          rintro e W1 ⟨rfl, hA1, hB1⟩
          go_wp2
          try (intro hA1 hB1; go_wp2)
          go_roundg (s.size - (k + 1))
          case measure => omega
          case rel => exact ⟨hB.trans hB1, k + 1, by omega, rfl, by go_num, by rw [HN.out, HE.out]; exact Or.inr hA1⟩
    · have hkk : s.data.toList.take k = s.data.toList := List.take_of_length_le (by simp; omega)
      rw [hkk] at hA
      clear hkk hAl
      have hc2 := str_any w.heap.size w.heap.size (lowL s.data.toList) wr hA hB.size
      clear hA
      go_wp2_with (go_at_call 28; refine hc2.mono ?_)
      rintro e W2 ⟨rfl, hB2, _⟩
      go_wp2
      go_ret
      exact ⟨rfl, hB.trans hB2⟩
end Go.Proofs.YtieiopaobipdoaaGreatDoor.Num
