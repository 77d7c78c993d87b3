/- show.quoted of any text. -/
import Derived.Test.YtfobenohimepaaaDoorKS
import Derived.Test.YtfobenohimepaaaDoorKL
import Derived.Lib.Hide
import Derived.Deep.CutBlock
import Derived.Deep.DeepCutAuto
import Derived.Laws.IdiomStrings
import Derived.Laws.Concat
import Derived.BigCall
namespace Go.Proofs.YtfobenohimepaaaDoor.Num
open Go Go.Shelf Go.RowKit Go.Proofs
theorem news_alloc (l : List Value) (w : World) (T : TypeId) (j : Nat) (u : Value) (hj : l[j]? = some u) : (w.alloc (.cells l.toArray T)).cell? ((⟨w.heap.size, 0, none⟩ : Addr).add j) = some u := by
  have e : (⟨w.heap.size, 0, none⟩ : Addr).add j = ⟨w.heap.size, j, none⟩ := by
    unfold Addr.add
    split
    · rename_i h; subst h; rfl
    · simp
  rw [e, World.cell?_alloc_new]
  simp [hj]
theorem take_snoc' (s : ByteArray) (k : Nat) (h : k < s.size) : s.data.toList.take (k + 1) = s.data.toList.take k ++ [s[k]] := by
  rw [List.take_succ_eq_append_getElem (by simpa using h)]; rfl
set_option maxRecDepth 100000 in
set_option maxHeartbeats 2000000 in
theorem quotedS_any (s : ByteArray) (w : World) (hs : s.size ≤ 1000) : Calls Tryd.prog 19 #[.string s] w fun e w' => e = .returned (.string ⟨(qS s.data.toList).toArray⟩) ∧ Below w.heap.size w w' := by
  have hl : s.data.toList.length = s.size := by simp
  have hI := Lib.fresh_isBuilder 49 5 w
  have hB0 : Below w.heap.size w (w.alloc (.cells #[.pointer none, .slice none 0 0] 49)) := (Below.refl _ w).alloc (Nat.le_refl _) _
  go_enter Tryd.func19, Tryd.ntmps19
  go_wp2_with (go_at_call 35; refine (writeByte w.heap.size w.heap.size [] 34 _ hI (by simp) (by simp)).mono ?_)
  rintro e W ⟨rfl, hA, hB⟩
  have hB1 := hB0.trans hB
  clear hI hB0 hB
  go_wp2
  go_loopg [4, 5, 9] s.size (fun g _ _ s9 wx => Below w.heap.size w wx ∧ ∃ k : Nat, k ≤ s.size ∧ g = s.size - k ∧ s9 = .int .i64 k ∧ Lib.BuilderAt 49 5 w.heap.size w.heap.size (.pointer (some ⟨w.heap.size, 0, none⟩)) (Lib.byteCells (34 :: escs (s.data.toList.take k))) wx)
  case atStart => exact ⟨hB1, 0, Nat.zero_le _, rfl, rfl, hA⟩
  case round =>
    clear hA hB1
    obtain ⟨hB, k, hk, rfl, rfl, hA⟩ := hrel
    have he := escs_len (s.data.toList.take k)
    have htl : (s.data.toList.take k).length ≤ 1000 := by simp; omega
    have hAl : (34 :: escs (s.data.toList.take k)).length ≤ 5000 := by simp only [List.length_cons]; omega
    have hAb : (Lib.byteCells (34 :: escs (s.data.toList.take k))).length ≤ 5000 := by rw [Lib.byteCells_length]; exact hAl
    by_cases hlt : k < s.size
    · have hnx : 34 :: escs (s.data.toList.take (k + 1)) = (34 :: escs (s.data.toList.take k)) ++ esc s[k] := by rw [take_snoc' s k hlt, escs_snoc]; rfl
      have hb : s[k].toNat < 256 := s[k].toNat_lt
      have hnb : Lib.byteCells (34 :: escs (s.data.toList.take (k + 1))) = Lib.byteCells (34 :: escs (s.data.toList.take k)) ++ Lib.byteCells (esc s[k]) := by rw [hnx, Lib.byteCells_append]
      obtain ⟨P, hP⟩ : ∃ P, Lib.byteCells (34 :: escs (s.data.toList.take k)) = P := ⟨_, rfl⟩
      rw [hP] at hnb hAb hA
      have HN := Lib.hid hnb
      clear hnb hnx hP he htl hAl
      have hbk := at_lt hA
      by_cases h2 : s[k].toNat = 34 ∨ s[k].toNat = 92
      · have HE : Hid (esc s[k] = [92, s[k]]) := Lib.hid (esc_two h2)
        have hc := write w.heap.size w.heap.size P ⟨wr.heap.size, 0, none⟩ 2 2 [.int .u8 92, .int .u8 (s[k].toNat : Int)] (wr.alloc (.cells #[.int .u8 92, .int .u8 (s[k].toNat : Int)] 5)) (Or.inr (at_alloc hA _)) rfl (news_alloc _ wr 5) (by simp; omega) (by simp [Value.oneCell']) (by omega) (by simp; omega)
        rcases h2 with h2 | h2
        · have e1 : ((s[k].toNat : Int) == 34) = true := by simp; omega
          clear h2
          go_wp2_with (go_at_call 36; refine hc.mono ?_)
          rintro e W1 ⟨rfl, hA1, hB1⟩
          go_wp2
          go_roundg (s.size - (k + 1))
          case measure => omega
          case rel => exact ⟨(hB.alloc hB.size _).trans hB1, k + 1, by omega, rfl, by go_num, by rw [HN.out, HE.out]; exact hA1⟩
        · have e1 : ((s[k].toNat : Int) == 34) = false := by simp; omega
          have e2 : ((s[k].toNat : Int) == 92) = true := by simp; omega
          clear h2
          go_wp2_with (go_at_call 36; refine hc.mono ?_)
          rintro e W1 ⟨rfl, hA1, hB1⟩
          go_wp2
          go_roundg (s.size - (k + 1))
          case measure => omega
          case rel => exact ⟨(hB.alloc hB.size _).trans hB1, k + 1, by omega, rfl, by go_num, by rw [HN.out, HE.out]; exact hA1⟩
      · have e1 : ((s[k].toNat : Int) == 34) = false := by simp; omega
        have e2 : ((s[k].toNat : Int) == 92) = false := by simp; omega
        by_cases h3 : s[k].toNat < 32 ∨ s[k].toNat = 127
        · have HE : Hid (esc s[k] = [92, UInt8.ofNat (48 + s[k].toNat / 100), UInt8.ofNat (48 + s[k].toNat / 10 % 10), UInt8.ofNat (48 + s[k].toNat % 10)]) := Lib.hid (esc_four h2 h3)
          clear h2
          have hc := write w.heap.size w.heap.size P ⟨wr.heap.size, 0, none⟩ 4 4 [.int .u8 92, .int .u8 (48 + (s[k].toNat : Int) / 100), .int .u8 (48 + (s[k].toNat : Int) / 10 % 10), .int .u8 (48 + (s[k].toNat : Int) % 10)] (wr.alloc (.cells #[.int .u8 92, .int .u8 (48 + (s[k].toNat : Int) / 100), .int .u8 (48 + (s[k].toNat : Int) / 10 % 10), .int .u8 (48 + (s[k].toNat : Int) % 10)] 5)) (Or.inr (at_alloc hA _)) rfl (news_alloc _ wr 5) (by simp; omega) (by simp [Value.oneCell']) (by omega) (by simp; omega)
          have HC : Hid (Lib.byteCells [92, UInt8.ofNat (48 + s[k].toNat / 100), UInt8.ofNat (48 + s[k].toNat / 10 % 10), UInt8.ofNat (48 + s[k].toNat % 10)] = [.int .u8 92, .int .u8 (48 + (s[k].toNat : Int) / 100), .int .u8 (48 + (s[k].toNat : Int) / 10 % 10), .int .u8 (48 + (s[k].toNat : Int) % 10)]) := Lib.hid (by
            have n1 : ((UInt8.ofNat (48 + s[k].toNat / 100)).toNat : Int) = 48 + (s[k].toNat : Int) / 100 := by rw [ofNat_toNat (by omega)]; omega
            have n2 : ((UInt8.ofNat (48 + s[k].toNat / 10 % 10)).toNat : Int) = 48 + (s[k].toNat : Int) / 10 % 10 := by rw [ofNat_toNat (by omega)]; omega
            have n3 : ((UInt8.ofNat (48 + s[k].toNat % 10)).toNat : Int) = 48 + (s[k].toNat : Int) % 10 := by rw [ofNat_toNat (by omega)]; omega
            rw [← n1, ← n2, ← n3]; rfl)
          rcases h3 with h3 | h3
          · go_wp2_with (go_at_call 36; refine hc.mono ?_)
            rintro e W1 ⟨rfl, hA1, hB1⟩
            go_wp2
            intro hA1 hB1
            go_wp2
            go_roundg (s.size - (k + 1))
            case measure => omega
            case rel => exact ⟨(hB.alloc hB.size _).trans hB1, k + 1, by omega, rfl, by go_num, by rw [HN.out, HE.out, HC.out]; exact hA1⟩
          · have e3 : ((s[k].toNat : Int) == 127) = true := by simp; omega
            have e4 : ¬ (s[k].toNat : Int) < 32 := by omega
            have e5 : 32 ≤ (s[k].toNat : Int) := by omega
            clear h3
            go_wp2_with (go_at_call 36; refine hc.mono ?_)
            rintro e W1 ⟨rfl, hA1, hB1⟩
            go_wp2
            intro hA1 hB1
            go_wp2
            go_roundg (s.size - (k + 1))
            case measure => omega
            case rel => exact ⟨(hB.alloc hB.size _).trans hB1, k + 1, by omega, rfl, by go_num, by rw [HN.out, HE.out, HC.out]; exact hA1⟩
        · have HE : Hid (esc s[k] = [s[k]]) := Lib.hid (esc_one h2 h3)
          have e3 : ((s[k].toNat : Int) == 127) = false := by simp; omega
          have e5 : 32 ≤ (s[k].toNat : Int) := by omega
          clear h2 h3
          have hc := writeByte w.heap.size w.heap.size P (s[k].toNat : Int) wr (Or.inr hA) (by omega) hB.size
          go_wp2_with (go_at_call 35; refine hc.mono ?_)
          rintro e W1 ⟨rfl, hA1, hB1⟩
          go_wp2
          go_roundg (s.size - (k + 1))
          case measure => omega
          case rel => exact ⟨hB.trans hB1, k + 1, by omega, rfl, by go_num, by rw [HN.out, HE.out]; exact hA1⟩
    · have hkk : s.data.toList.take k = s.data.toList := List.take_of_length_le (by omega)
      rw [hkk] at hA hAb
      clear hkk he htl hAl
      have hc := writeByte w.heap.size w.heap.size _ 34 wr (Or.inr hA) (by omega) hB.size
      go_wp2_with (go_at_call 35; refine hc.mono ?_)
      rintro e W1 ⟨rfl, hA1, hB1⟩
      have hA2 : Lib.BuilderAt 49 5 w.heap.size w.heap.size (.pointer (some ⟨w.heap.size, 0, none⟩)) (Lib.byteCells (qS s.data.toList)) W1 := by
        have : Lib.byteCells (qS s.data.toList) = Lib.byteCells (34 :: escs s.data.toList) ++ [.int .u8 34] := by
          rw [show qS s.data.toList = (34 :: escs s.data.toList) ++ [34] from rfl, Lib.byteCells_append]; rfl
        rw [this]; exact hA1
      have hc2 := str w.heap.size w.heap.size (qS s.data.toList) W1 (Or.inr hA2) (by simp [qS])
      clear hA1 hA hc hAb
      go_wp2_with (go_at_call 25; refine hc2.mono ?_)
      rintro e W2 ⟨rfl, hB2⟩
      go_wp2
      go_ret
      exact ⟨rfl, (hB.trans hB1).trans hB2⟩
end Go.Proofs.YtfobenohimepaaaDoor.Num
