/- ShowWrites: of any boxes the program's text is the document's, for every table that holds. -/
import Derived.Test.YtfobenohimepaaaDoorKF
namespace Go.Proofs.YtfobenohimepaaaDoor.Num
open Go Go.RowKit
attribute [local go_sem ↓] Go.wp_at_zero Go.wp_at_succ
theorem strIs {f : Nat} {args : Array Value} {w : World} {l : List UInt8} {m : Nat} {L : ByteArray} (h : Calls Tryd.prog f args w (StrOf l m w)) (hL : Hid (⟨l.toArray⟩ = L)) : Calls Tryd.prog f args w fun e w' => e = .returned (.string L) ∧ Below w.heap.size w w' :=
  h.mono fun e w' ⟨D, hD, _, he, hb⟩ => ⟨by rw [he, hD.out, hL.out], hb⟩
def RelW (n : Nat) (w : World) (gg : Nat) (s3 : Value) (wx : World) : Prop := ∃ k : Nat, k ≤ n ∧ gg = n - k ∧ s3 = .int .i64 k ∧ Below w.heap.size w wx
set_option maxRecDepth 100000 in
set_option maxHeartbeats 4000000 in
theorem writes_of (l : List BoxD) (hin : ∀ b ∈ l, b.In) (A : Option Addr) (n c : Nat) (w : World) (hn : l.length = n) (hn2 : n ≤ 9223372036854775807) (hnc : n ≤ c) (hA : BoxesAt w w.heap.size A l) (hT : Tab w)
    (aw : ∀ w1 : World, Below w.heap.size w w1 → Calls Tryd.prog 7 #[] w1 fun e w' => e = .returned (.bool true) ∧ Below w1.heap.size w1 w') :
    Calls Tryd.prog 3 #[.slice A n c] w fun e w' => e = .returned (.bool true) ∧ Below w.heap.size w w' := by
  have HN := Lib.hid hn
  have HA := Lib.hid hA
  have HT := Lib.hid hT
  have HF := Lib.hid (few_of l hin A n c _ w hn hn2 hnc hA)
  have HAW := Lib.hid (aw w (.refl _ _))
  have HAW2 : Hid (∀ w' : World, Below w.heap.size w w' → Calls Tryd.prog 7 #[] w' fun e w2 => e = .returned (.bool true) ∧ Below w'.heap.size w' w2) := Lib.hid aw
  obtain ⟨r, hr⟩ : ∃ r, fewB l = r := ⟨_, rfl⟩
  have HR := Lib.hid hr
  rw [hr] at HF
  clear hn hA hT aw hr
  cases r with
  | false =>
    go_enter Tryd.func3, Tryd.ntmps3
    go_wp2_with (first | (go_at_call 6; refine HF.out.mono ?_; rintro e w' ⟨rfl, rfl⟩) | (go_at_call 7; refine HAW.out.mono ?_; rintro e w' ⟨rfl, hb⟩))
    go_ret
    exact ⟨rfl, hb⟩
  | true =>
    obtain ⟨hl20, hok⟩ := few_ok hin HR.out
    have hn20 : n ≤ 20 := by have := HN.out; omega
    clear hl20
    go_enter Tryd.func3, Tryd.ntmps3
    go_wp2_with (go_at_call 6; refine HF.out.mono ?_; rintro e w' ⟨rfl, rfl⟩)
    go_loopg [3] n (fun gg s3 wx => RelW n w gg s3 wx)
    case atStart => exact ⟨0, Nat.zero_le _, rfl, rfl, .refl _ _⟩
    case round =>
      obtain ⟨k, hk, rfl, rfl, hB⟩ := hrel
      have HB := Lib.hid hB
      clear hB
      by_cases hlt : k < n
      · obtain ⟨b, hb⟩ : ∃ b, l[k]? = some b := ⟨l[k]'(by have := HN.out; omega), List.getElem?_eq_getElem _⟩
        obtain ⟨ad, a, m, c', rfl, had, hbox⟩ := HA.out.below HB.out k b hb
        obtain ⟨d0, d1, d2, d3, d4, d5, d6, hm, hmc, hps⟩ := hbox
        have hbo := hok b (List.mem_of_getElem? hb)
        have HM := Lib.hid hm
        have HPS := Lib.hid hps
        obtain ⟨L, hL⟩ : ∃ L : ByteArray, ⟨(lineS b).toArray⟩ = L := ⟨_, rfl⟩
        have HL := Lib.hid hL
        have j0 : (0 : Int) ≤ (k : Int) := by omega
        have j1 : (k : Int) < (n : Int) := by omega
        have hzz : w.heap.size ≤ wr.heap.size := HB.out.size
        have HBd := Lib.hid HB.out.drew
        have HPd : Hid (PairsAt wr.drew w.heap.size a b.pairs) := Lib.hid hps
        have hcc : ∀ (W W' : World) (o : Nat) (v : Value), W.cell? ⟨(ad.add (k * 7)).block, o, none⟩ = some v → Below w.heap.size W W' → W'.cell? ⟨(ad.add (k * 7)).block, o, none⟩ = some v := fun W W' o v h hb => by rw [hb.cell (by rw [block_of_add]; exact had)]; exact h
        have hc0 : ∀ (W W' : World) (v : Value), W.cell? (ad.add (k * 7)) = some v → Below w.heap.size W W' → W'.cell? (ad.add (k * 7)) = some v := fun W W' v h hb => by rw [hb.cell (by rw [block_of_add]; exact had)]; exact h
        have Hcc := Lib.hid hcc
        have Hc0 := Lib.hid hc0
        clear hb hm hps hL hcc hc0
        go_wp2_with fail
        go_cut [24] (fun s24 wx => s24 = .bool false ∧ Below w.heap.size w wx)
        case first =>
          go_region_held3 (fun w' => w'.cell? (ad.add (k * 7)) = some (.int .i64 b.lv) ∧ w'.cell? ⟨(ad.add (k * 7)).block, (ad.add (k * 7)).off + 1, none⟩ = some (.int .i64 b.ps) ∧ w'.cell? ⟨(ad.add (k * 7)).block, (ad.add (k * 7)).off + 2, none⟩ = some (.int .i64 b.dp) ∧ w'.cell? ⟨(ad.add (k * 7)).block, (ad.add (k * 7)).off + 3, none⟩ = some (.string b.t) ∧ w'.cell? ⟨(ad.add (k * 7)).block, (ad.add (k * 7)).off + 4, none⟩ = some (.string b.g) ∧ w'.cell? ⟨(ad.add (k * 7)).block, (ad.add (k * 7)).off + 5, none⟩ = some (.bool b.cut) ∧ w'.cell? ⟨(ad.add (k * 7)).block, (ad.add (k * 7)).off + 6, none⟩ = some (.slice a m c') ∧ Hid (PairsAt w' w.heap.size a b.pairs) ∧ Hid (Below w.heap.size w w'))
            (first | (refine ⟨?_, ?_, ?_, ?_, ?_, ?_, ?_, ?_, ?_⟩ <;> (first | assumption | go_keep)) | (go_split_ands; exact ⟨Hc0.out _ _ _ (by assumption) hBm, Hcc.out _ _ _ _ (by assumption) hBm, Hcc.out _ _ _ _ (by assumption) hBm, Hcc.out _ _ _ _ (by assumption) hBm, Hcc.out _ _ _ _ (by assumption) hBm, Hcc.out _ _ _ _ (by assumption) hBm, Hcc.out _ _ _ _ (by assumption) hBm, Lib.hid (PairsAt.below (Hid.out (by assumption)) hBm), Lib.hid ((Hid.out (by assumption) : Below w.heap.size w _).trans hBm)⟩))
            (first
              | (go_at_call 8; refine (strIs (lineS_of b hbo a m c' _ HM.out hmc ?_ ?_) HL).mono ?_; (go_split_ands; exact PairsAt.more (Hid.out (by assumption)) (Below.size (Hid.out (by assumption) : Below w.heap.size w _))); (go_split_ands; exact HT.out.keep (Hid.out (by assumption))); rintro e W2 ⟨rfl, hBn⟩; have hBm := hBn.mono (Below.size (by go_split_ands; exact (Hid.out (by assumption) : Below w.heap.size w _))))
              | (go_at_call 9; refine (strIs (lineR b hbo a m c' _ HM.out ?_) HL).mono ?_; (go_split_ands; exact PairsAt.more (Hid.out (by assumption)) (Below.size (Hid.out (by assumption) : Below w.heap.size w _))); rintro e W3 ⟨rfl, hBn⟩; have hBm := hBn.mono (Below.size (by go_split_ands; exact (Hid.out (by assumption) : Below w.heap.size w _)))))
          all_goals (go_wp2_with fail)
          all_goals (rename_i hS; obtain ⟨-, -, -, -, -, -, -, -, hL⟩ := hS)
          all_goals go_meet
          all_goals exact ⟨by simp, hL.out⟩
        case rest =>
          obtain ⟨rfl, hB2⟩ := hcut
          have HB2 := Lib.hid hB2
          clear hB2 d0 d1 d2 d3 d4 d5 d6
          go_wp2_with fail
          go_roundg (n - (k + 1))
          case measure => omega
          case rel => exact ⟨k + 1, by omega, rfl, by go_num, HB2.out⟩
      · obtain rfl : k = n := by omega
        obtain ⟨L, hL⟩ : ∃ L : ByteArray, ⟨(textS l).toArray⟩ = L := ⟨_, rfl⟩
        have HL := Lib.hid hL
        clear hL
        have HT1 := Lib.hid (strIs (textS_of l hok A k c wr HN.out hn20 (fun j b hj => by
          obtain ⟨ad, a, m, c', e1, e2, e3⟩ := HA.out.below HB.out j b hj
          obtain ⟨f0, f1, f2, f3, f4, f5, f6, f7, f8, f9⟩ := e3
          exact ⟨ad, a, m, c', e1, Nat.lt_of_lt_of_le e2 HB.out.size, f0, f1, f2, f3, f4, f5, f6, f7, f8, f9.more HB.out.size⟩) (HT.out.keep HB.out)) HL)
        have HT2 : Hid (∀ w2 : World, Below wr.heap.size wr w2 → Calls Tryd.prog 11 #[.slice A k c] w2 fun e w' => e = .returned (.string L) ∧ Below w2.heap.size w2 w') := Lib.hid fun w2 hb => strIs (textR l hok A k c w2 HN.out hn20 (fun j b hj => by
          have hB3 := HB.out.trans (hb.mono HB.out.size)
          obtain ⟨ad, a, m, c', e1, e2, e3⟩ := HA.out.below hB3 j b hj
          obtain ⟨f0, f1, f2, f3, f4, f5, f6, f7, f8, f9⟩ := e3
          exact ⟨ad, a, m, c', e1, Nat.lt_of_lt_of_le e2 hB3.size, f0, f1, f2, f3, f4, f5, f6, f7, f8, f9.more hB3.size⟩)) HL
        go_wp2_with (go_at_call 10; refine HT1.out.mono ?_; rintro e W2 ⟨rfl, hB2⟩)
        have HB2 := Lib.hid hB2
        have HT3 := Lib.hid (HT2.out W2 hB2)
        have HB3 := Lib.hid (HB.out.trans (hB2.mono HB.out.size))
        clear hB2
        go_wp2_with (go_at_call 11; refine HT3.out.mono ?_; rintro e W3 ⟨rfl, hB4⟩)
        have HB4 := Lib.hid (HB3.out.trans (hB4.mono HB3.out.size))
        have HAW3 := Lib.hid (HAW2.out W3 HB4.out)
        clear hB4
        go_wp2_with (go_at_call 7; refine HAW3.out.mono ?_; rintro e W4 ⟨rfl, hB5⟩)
        go_ret
        exact ⟨rfl, HB4.out.trans (hB5.mono HB4.out.size)⟩
end Go.Proofs.YtfobenohimepaaaDoor.Num
