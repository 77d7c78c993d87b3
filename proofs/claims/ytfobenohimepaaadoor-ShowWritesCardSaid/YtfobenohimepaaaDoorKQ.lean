/- fleuronref15.quoted of any text. -/
import Derived.Test.YtfobenohimepaaaDoorProg
import Derived.Test.YtfobenohimepaaaDoorKL
import Derived.WalkKit
import Derived.ProofKit
import Derived.OpenShut
import Derived.Lib.Hide
import Derived.Deep.CutBlock
import Derived.Deep.DeepCutAuto
import Derived.Laws.IdiomStrings
import Derived.Laws.Concat
namespace Go.Proofs.YtfobenohimepaaaDoor.Num
open Go Go.RowKit
theorem bytes_str (l : List UInt8) (n : Nat) (hn : l.length = n) (C : Array Value) (hC : C = (l.map fun b => Value.int .u8 (b.toNat : Int)).toArray) (wr : World) :
    (convert 36 9 (.slice (some ⟨wr.heap.size, 0, none⟩) n n)).run Tryd.prog (wr.alloc (.cells C 5)) = .ok (.string ⟨l.toArray⟩) (wr.alloc (.cells C 5)) := by
  subst hn hC
  refine run_convert_bytes_back _ _ _ 5 ⟨wr.heap.size, 0, none⟩ l.length l Tryd.underlying36 Tryd.underlying5 Tryd.underlying9 (fun j hj => ?_)
  have e : (⟨wr.heap.size, 0, none⟩ : Addr).add j = ⟨wr.heap.size, j, none⟩ := by
    unfold Addr.add
    split
    · rename_i h; subst h; rfl
    · simp
  rw [e, World.cell?_alloc_new]
  simp [hj]
theorem add_l (x y : List UInt8) (h : x.length + y.length ≤ 100000) (w : World) : (Op.stringOp .add (⟨x.toArray⟩ : ByteArray) ⟨y.toArray⟩).run Tryd.prog w = .ok (.string ⟨(x ++ y).toArray⟩) w := by
  rw [run_string_add_sum w _ _ (by simp [ByteArray.size]; omega), ByteArray.mk_append_mk]
theorem take_snoc (s : ByteArray) (k : Nat) (h : k < s.size) : s.data.toList.take (k + 1) = s.data.toList.take k ++ [s[k]] := by
  rw [List.take_succ_eq_append_getElem (by simpa using h)]; rfl
theorem ext_one (s : ByteArray) (k : Nat) (h : k < s.size) : s.extract k (k + 1) = ⟨[s[k]].toArray⟩ := by
  apply ByteArray.ext
  rw [ByteArray.data_extract]
  apply Array.toList_inj.1
  have hl : k < s.data.toList.length := by simpa using h
  rw [Array.toList_extract, List.extract, List.drop_eq_getElem_cons hl, show k + 1 - k = 0 + 1 by omega, List.take_succ_cons]
  rfl
set_option maxRecDepth 100000 in
set_option maxHeartbeats 1000000 in
theorem quotedR_any (s : ByteArray) (w : World) (hs : s.size ≤ 1000) : Calls Tryd.prog 23 #[.string s] w fun e w' => e = .returned (.string ⟨(qS s.data.toList).toArray⟩) ∧ Below w.heap.size w w' := by
  have hl : s.data.toList.length = s.size := by simp
  go_enter Tryd.func23, Tryd.ntmps23
  go_upto_block 0 with fail
  go_cut [3, 4, 5] (fun s3 _ _ wx => s3 = .string ⟨(34 :: escs s.data.toList).toArray⟩ ∧ Below w.heap.size w wx)
  case first =>
    go_wp2_with fail
    go_loopg [3, 4, 5] s.size (fun g s3 s4 _ wx => Below w.heap.size w wx ∧ ∃ k : Nat, k ≤ s.size ∧ g = s.size - k ∧ s4 = .int .i64 k ∧ s3 = .string ⟨(34 :: escs (s.data.toList.take k)).toArray⟩)
    case atStart => exact ⟨.refl _ _, 0, Nat.zero_le _, rfl, rfl, rfl⟩
    case round =>
      obtain ⟨hB, k, hk, rfl, rfl, rfl⟩ := hrel
      by_cases hlt : k < s.size
      · have hnx : 34 :: escs (s.data.toList.take (k + 1)) = (34 :: escs (s.data.toList.take k)) ++ esc s[k] := by rw [take_snoc s k hlt, escs_snoc]; rfl
        have he := escs_len (s.data.toList.take k)
        have htl : (s.data.toList.take k).length ≤ 1000 := by simp; omega
        have hAl : (34 :: escs (s.data.toList.take k)).length ≤ 5000 := by simp only [List.length_cons]; omega
        have hb : s[k].toNat < 256 := s[k].toNat_lt
        obtain ⟨P, hP⟩ : ∃ P, 34 :: escs (s.data.toList.take k) = P := ⟨_, rfl⟩
        rw [hP] at hnx hAl ⊢
        have HN := Lib.hid hnx
        clear hnx hP he htl
        by_cases h2 : s[k].toNat = 34 ∨ s[k].toNat = 92
        · have HE : Hid (esc s[k] = [92, s[k]]) := Lib.hid (esc_two h2)
          have a1 := add_l P [92] (by simp; omega)
          have a2 := add_l (P ++ [92]) [s[k]] (by simp; omega)
          obtain ⟨A, hA⟩ : ∃ A : ByteArray, ⟨P.toArray⟩ = A := ⟨_, rfl⟩
          obtain ⟨A1, hA1⟩ : ∃ A : ByteArray, ⟨(P ++ [92]).toArray⟩ = A := ⟨_, rfl⟩
          obtain ⟨A2, hA2⟩ : ∃ A : ByteArray, ⟨((P ++ [92]) ++ [s[k]]).toArray⟩ = A := ⟨_, rfl⟩
          rw [hA, hA1] at a1
          rw [hA1, hA2] at a2
          rw [hA]
          have HA2 := Lib.hid hA2
          clear hA hA1 hA2 hAl
          have hcv := bytes_str [s[k]] 1 rfl #[.int .u8 (s[k].toNat : Int)] rfl wr
          have hB2 : Below w.heap.size w (wr.alloc (.cells #[.int .u8 (s[k].toNat : Int)] 5)) := hB.alloc hB.size _
          have hend : A2 = ⟨(34 :: escs (s.data.toList.take (k + 1))).toArray⟩ := by rw [HN.out, HE.out, ← HA2.out]; simp
          have HEND := Lib.hid hend
          clear hend
          rcases h2 with h2 | h2
          · have e1 : ((s[k].toNat : Int) == 34) = true := by simp; omega
            clear h2
            go_wp2
            go_roundg (s.size - (k + 1))
            case measure => omega
            case rel => exact ⟨hB2, k + 1, by omega, rfl, by go_num, by rw [HEND.out]⟩
          · have e1 : ((s[k].toNat : Int) == 34) = false := by simp; omega
            have e2 : ((s[k].toNat : Int) == 92) = true := by simp; omega
            clear h2
            go_wp2
            go_roundg (s.size - (k + 1))
            case measure => omega
            case rel => exact ⟨hB2, k + 1, by omega, rfl, by go_num, by rw [HEND.out]⟩
        · have e1 : ((s[k].toNat : Int) == 34) = false := by simp; omega
          have e2 : ((s[k].toNat : Int) == 92) = false := by simp; omega
          by_cases h3 : s[k].toNat < 32 ∨ s[k].toNat = 127
          · have HE : Hid (esc s[k] = [92, UInt8.ofNat (48 + s[k].toNat / 100), UInt8.ofNat (48 + s[k].toNat / 10 % 10), UInt8.ofNat (48 + s[k].toNat % 10)]) := Lib.hid (esc_four h2 h3)
            clear h2
            obtain ⟨D1, hD1⟩ : ∃ D, UInt8.ofNat (48 + s[k].toNat / 100) = D := ⟨_, rfl⟩
            obtain ⟨D2, hD2⟩ : ∃ D, UInt8.ofNat (48 + s[k].toNat / 10 % 10) = D := ⟨_, rfl⟩
            obtain ⟨D3, hD3⟩ : ∃ D, UInt8.ofNat (48 + s[k].toNat % 10) = D := ⟨_, rfl⟩
            have n1 : (D1.toNat : Int) = 48 + (s[k].toNat : Int) / 100 := by rw [← hD1, ofNat_toNat (by omega)]; omega
            have n2 : (D2.toNat : Int) = 48 + (s[k].toNat : Int) / 10 % 10 := by rw [← hD2, ofNat_toNat (by omega)]; omega
            have n3 : (D3.toNat : Int) = 48 + (s[k].toNat : Int) % 10 := by rw [← hD3, ofNat_toNat (by omega)]; omega
            have a1 := add_l P [92] (by simp; omega)
            have a2 := add_l (P ++ [92]) [D1, D2, D3] (by simp; omega)
            obtain ⟨A, hA⟩ : ∃ A : ByteArray, ⟨P.toArray⟩ = A := ⟨_, rfl⟩
            obtain ⟨A1, hA1⟩ : ∃ A : ByteArray, ⟨(P ++ [92]).toArray⟩ = A := ⟨_, rfl⟩
            obtain ⟨A2, hA2⟩ : ∃ A : ByteArray, ⟨((P ++ [92]) ++ [D1, D2, D3]).toArray⟩ = A := ⟨_, rfl⟩
            obtain ⟨CS, hCS⟩ : ∃ C : ByteArray, ⟨[D1, D2, D3].toArray⟩ = C := ⟨_, rfl⟩
            rw [hA, hA1] at a1
            rw [hA1, hA2, hCS] at a2
            rw [hA]
            have hcv := bytes_str [D1, D2, D3] 3 rfl #[.int .u8 (48 + (s[k].toNat : Int) / 100), .int .u8 (48 + (s[k].toNat : Int) / 10 % 10), .int .u8 (48 + (s[k].toNat : Int) % 10)] (by rw [← n1, ← n2, ← n3]; rfl) wr
            rw [hCS] at hcv
            have hB2 : Below w.heap.size w (wr.alloc (.cells #[.int .u8 (48 + (s[k].toNat : Int) / 100), .int .u8 (48 + (s[k].toNat : Int) / 10 % 10), .int .u8 (48 + (s[k].toNat : Int) % 10)] 5)) := hB.alloc hB.size _
            have hend : A2 = ⟨(34 :: escs (s.data.toList.take (k + 1))).toArray⟩ := by rw [HN.out, HE.out, hD1, hD2, hD3, ← hA2]; simp
            have HEND := Lib.hid hend
            clear hend hA hA1 hA2 hCS hAl hD1 hD2 hD3 n1 n2 n3
            rcases h3 with h3 | h3
            · go_wp2
              go_roundg (s.size - (k + 1))
              case measure => omega
              case rel => exact ⟨hB2, k + 1, by omega, rfl, by go_num, by rw [HEND.out]⟩
            · have e3 : ((s[k].toNat : Int) == 127) = true := by simp; omega
              have e4 : ¬ (s[k].toNat : Int) < 32 := by omega
              have e5 : 32 ≤ (s[k].toNat : Int) := by omega
              clear h3
              go_wp2
              go_roundg (s.size - (k + 1))
              case measure => omega
              case rel => exact ⟨hB2, k + 1, by omega, rfl, by go_num, by rw [HEND.out]⟩
          · have HE : Hid (esc s[k] = [s[k]]) := Lib.hid (esc_one h2 h3)
            have e3 : ((s[k].toNat : Int) == 127) = false := by simp; omega
            have e5 : 32 ≤ (s[k].toNat : Int) := by omega
            clear h2 h3
            have a2 := add_l P [s[k]] (by simp; omega)
            have hx := ext_one s k hlt
            rw [← hx] at a2
            obtain ⟨A, hA⟩ : ∃ A : ByteArray, ⟨P.toArray⟩ = A := ⟨_, rfl⟩
            obtain ⟨A2, hA2⟩ : ∃ A : ByteArray, ⟨(P ++ [s[k]]).toArray⟩ = A := ⟨_, rfl⟩
            rw [hA, hA2] at a2
            rw [hA]
            have hend : A2 = ⟨(34 :: escs (s.data.toList.take (k + 1))).toArray⟩ := by rw [HN.out, HE.out, ← hA2]
            have HEND := Lib.hid hend
            have k1 : (k : Int) + 1 ≤ (s.size : Int) := by omega
            have hsl : ∀ w, (Instr.slice 9 (.string s) (some (.int .i64 (k : Int))) (some (.int .i64 ((k : Int) + 1))) none).run Tryd.prog w = .ok (.string (s.extract k (k + 1))) w := fun w => by
              rw [run_slice_string w _ _ .i64 .i64 (k : Int) ((k : Int) + 1) Tryd.underlying9 (by omega) (by omega) (by omega)]
              congr 3
            obtain ⟨X1, hX1⟩ : ∃ X, s.extract k (k + 1) = X := ⟨_, rfl⟩
            rw [hX1] at hsl a2
            clear hend hx hA hA2 hAl hX1
            go_wp2
            go_roundg (s.size - (k + 1))
            case measure => omega
            case rel => exact ⟨hB, k + 1, by omega, rfl, by go_num, by rw [HEND.out]⟩
      · have hkk : Hid (s.data.toList.take k = s.data.toList) := Lib.hid (List.take_of_length_le (by omega))
        go_wp2
        go_meet
        exact ⟨by rw [hkk.out], hB⟩
  case rest =>
    obtain ⟨rfl, hB⟩ := hcut
    have he := escs_len s.data.toList
    have ha := add_l (34 :: escs s.data.toList) [34] (by simp only [List.length_cons, List.length_nil]; omega)
    clear he
    go_wp2
    go_ret
    exact ⟨by rfl, hB⟩
end Go.Proofs.YtfobenohimepaaaDoor.Num
