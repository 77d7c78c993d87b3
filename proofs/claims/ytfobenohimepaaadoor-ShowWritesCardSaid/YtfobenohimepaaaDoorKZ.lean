/- show.Text of any boxes. -/
import Derived.Test.YtfobenohimepaaaDoorKY
namespace Go.Proofs.YtfobenohimepaaaDoor.Num
open Go Go.RowKit
abbrev IsB (B b : Nat) (bs : List Value) (w : World) : Prop := Lib.IsBuilder 49 5 B b bs w
theorem isB_below {B b : Nat} {bs : List Value} {w w' : World} (h : IsB B b bs w) (hb : Below w.heap.size w w') : IsB B b bs w' := by
  have key : ∀ p, Lib.BuilderAt 49 5 B b p bs w → Lib.BuilderAt 49 5 B b p bs w' := by
    rintro p ⟨hB, v, hbk, hown, hne⟩
    have hlt : b < w.heap.size := by
      rcases Nat.lt_or_ge b w.heap.size with h' | h'
      · exact h'
      · rw [Array.getElem?_eq_none h'] at hbk; cases hbk
    exact ⟨hB, v, by rw [hb.block b hlt]; exact hbk, own_below hown hb, hne⟩
  exact h.imp (key _) (key _)
def RelS (n : Nat) (l : List BoxD) (w : World) (gg : Nat) (s8 : Value) (wx : World) : Prop :=
  ∃ k : Nat, k ≤ n ∧ gg = n - k ∧ s8 = .int .i64 k ∧ IsB w.heap.size w.heap.size (Lib.byteCells (textS (l.take k))) wx ∧ Below w.heap.size w wx
set_option maxRecDepth 100000 in
set_option maxHeartbeats 4000000 in
theorem textS_of (l : List BoxD) (ok : ∀ b ∈ l, b.Ok) (A : Option Addr) (n c : Nat) (w : World) (hn : l.length = n) (hn2 : n ≤ 20) (hA : BoxesAt w w.heap.size A l) (hT : Tab w) : Calls Tryd.prog 10 #[.slice A n c] w (StrOf (textS l) 200000 w) := by
  have HN := Lib.hid hn
  have HA := Lib.hid hA
  have HT := Lib.hid hT
  have HI := Lib.hid (Lib.fresh_isBuilder 49 5 w)
  have HB0 := Lib.hid ((Below.refl w.heap.size w).alloc (Nat.le_refl _) (.cells #[.pointer none, .slice none 0 0] 49))
  clear hn hA hT
  go_enter Tryd.func10, Tryd.ntmps10
  go_wp2_with fail
  go_loopg [8] n (fun gg s8 wx => RelS n l w gg s8 wx)
  case atStart => exact ⟨0, Nat.zero_le _, rfl, rfl, HI.out, HB0.out⟩
  case round =>
    clear HI HB0
    obtain ⟨k, hk, rfl, rfl, hI, hB⟩ := hrel
    have HI := Lib.hid hI
    have HB := Lib.hid hB
    have htl := textS_len (l := l.take k) (fun b hb => ok b (List.mem_of_mem_take hb))
    have hbl : (Lib.byteCells (textS (l.take k))).length ≤ 7001 * 20 := by
      rw [Lib.byteCells_length]
      have : (l.take k).length ≤ k := by rw [List.length_take]; omega
      have : 7001 * (l.take k).length ≤ 7001 * 20 := Nat.mul_le_mul_left _ (by omega)
      omega
    clear hI hB htl
    by_cases hlt : k < n
    · obtain ⟨b, hb⟩ : ∃ b, l[k]? = some b := ⟨l[k]'(by have := HN.out; omega), List.getElem?_eq_getElem _⟩
      obtain ⟨ad, a, m, c', rfl, had, hbox⟩ := HA.out.below HB.out k b hb
      obtain ⟨d0, d1, d2, d3, d4, d5, d6, hm, hmc, hps⟩ := hbox
      have hbo := ok b (List.mem_of_getElem? hb)
      have HM := Lib.hid hm
      have HPS := Lib.hid (hps.below ((Below.refl w.heap.size wr).alloc HB.out.size (.cells #[.int .i64 b.lv, .int .i64 b.ps, .int .i64 b.dp, .string b.t, .string b.g, .bool b.cut, .slice a m c'] 28)))
      have HBA := Lib.hid (HB.out.alloc HB.out.size (.cells #[.int .i64 b.lv, .int .i64 b.ps, .int .i64 b.dp, .string b.t, .string b.g, .bool b.cut, .slice a m c'] 28))
      have HIA := Lib.hid (isB_below HI.out ((Below.refl wr.heap.size wr).alloc (Nat.le_refl _) (.cells #[.int .i64 b.lv, .int .i64 b.ps, .int .i64 b.dp, .string b.t, .string b.g, .bool b.cut, .slice a m c'] 28)))
      have HT' : Hid (l.take (k + 1) = l.take k ++ [b]) := Lib.hid (by rw [List.take_add_one, hb]; rfl)
      clear hm hps hb
      go_wp2_with (go_at_call 8; refine (lineS_of b hbo a m c' _ HM.out hmc (HPS.out.more HBA.out.size) (HT.out.keep HBA.out)).mono ?_; rintro e W2 ⟨D, HD, zD, rfl, hB2⟩)
      have HB2 := Lib.hid (HBA.out.trans (hB2.mono HBA.out.size))
      have HI2 := Lib.hid (isB_below HIA.out hB2)
      clear hB2
      have hlen : (Lib.byteCells (textS (l.take k))).length + (D ++ ⟨#[10]⟩ : ByteArray).size ≤ 140737488355328 := by
        simp only [ByteArray.size_append', ByteArray.size_mk', List.size_toArray, List.length_cons, List.length_nil]; omega
      have hw := writeStr w.heap.size w.heap.size (Lib.byteCells (textS (l.take k))) (D ++ ⟨#[10]⟩) W2 HI2.out hlen HB2.out.size
      have HW := Lib.hid hw
      clear hw hlen
      go_wp2_with (go_at_call 24; refine HW.out.mono ?_; rintro e W3 ⟨rfl, hI3, hB3⟩)
      have HI3 := Lib.hid hI3
      have HB3 := Lib.hid (HB2.out.trans hB3)
      clear hI3 hB3
      go_wp2_with fail
      go_roundg (n - (k + 1))
      case measure => omega
      case rel => exact ⟨k + 1, by omega, rfl, by go_num, by
        have := HI3.out
        rw [Lib.strCells_eq, ← Lib.byteCells_append] at this
        have e : textS (l.take (k + 1)) = textS (l.take k) ++ (D ++ ⟨#[10]⟩ : ByteArray).data.toList := by
          rw [HT'.out, textS_snoc, HD.out]
          simp [ByteArray.data_append]
        rw [e]; exact .inr this, HB3.out⟩
    · obtain rfl : k = n := by omega
      have hs := str_any w.heap.size w.heap.size _ wr HI.out HB.out.size
      rw [List.take_of_length_le (by have := HN.out; omega)] at hs
      have HS := Lib.hid hs
      clear hs
      go_wp2_with (go_at_call 25; refine HS.out.mono ?_; rintro e W2 ⟨rfl, hB2⟩)
      go_ret
      exact ⟨_, Lib.hid rfl, by
        have := textS_len ok
        have h2 := HN.out
        show (textS l).toArray.size ≤ 200000
        rw [List.size_toArray]
        have : 7001 * l.length ≤ 7001 * 20 := Nat.mul_le_mul_left _ (by omega)
        omega, rfl, HB.out.trans hB2⟩
end Go.Proofs.YtfobenohimepaaaDoor.Num
