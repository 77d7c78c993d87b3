/- fleuronref15.ShowText of any boxes. -/
import Derived.Test.YtfobenohimepaaaDoorKP
namespace Go.Proofs.YtfobenohimepaaaDoor.Num
open Go Go.RowKit
def BoxAt (w : World) (B : Nat) (ad : Addr) (k : Nat) (b : BoxD) (a : Option Addr) (n c : Nat) : Prop :=
  w.cell? (ad.add (k * 7)) = some (.int .i64 b.lv) ∧ w.cell? ⟨(ad.add (k * 7)).block, (ad.add (k * 7)).off + 1, none⟩ = some (.int .i64 b.ps) ∧ w.cell? ⟨(ad.add (k * 7)).block, (ad.add (k * 7)).off + 2, none⟩ = some (.int .i64 b.dp) ∧
  w.cell? ⟨(ad.add (k * 7)).block, (ad.add (k * 7)).off + 3, none⟩ = some (.string b.t) ∧ w.cell? ⟨(ad.add (k * 7)).block, (ad.add (k * 7)).off + 4, none⟩ = some (.string b.g) ∧ w.cell? ⟨(ad.add (k * 7)).block, (ad.add (k * 7)).off + 5, none⟩ = some (.bool b.cut) ∧
  w.cell? ⟨(ad.add (k * 7)).block, (ad.add (k * 7)).off + 6, none⟩ = some (.slice a n c) ∧ b.pairs.length = n ∧ n ≤ c ∧ PairsAt w B a b.pairs
def BoxesAt (w : World) (B : Nat) (A : Option Addr) (l : List BoxD) : Prop := ∀ (k : Nat) (b : BoxD), l[k]? = some b → ∃ (ad : Addr) (a : Option Addr) (n c : Nat), A = some ad ∧ ad.block < B ∧ BoxAt w B ad k b a n c
theorem PairsAt.below {w w' : World} {B : Nat} {a : Option Addr} {l : List PairD} (h : PairsAt w B a l) (hb : Below B w w') : PairsAt w' B a l := fun k p hp => by
  obtain ⟨ad, e, hB, h0, h1, h2, h3⟩ := h k p hp
  refine ⟨ad, e, hB, ?_, ?_, ?_, ?_⟩
  · rw [hb.cell (by rw [block_of_add]; exact hB)]; exact h0
  · rw [hb.cell (by rw [block_of_add]; exact hB)]; exact h1
  · rw [hb.cell (by rw [block_of_add]; exact hB)]; exact h2
  · rw [hb.cell (by rw [block_of_add]; exact hB)]; exact h3
theorem PairsAt.more {w : World} {B B' : Nat} {a : Option Addr} {l : List PairD} (h : PairsAt w B a l) (hb : B ≤ B') : PairsAt w B' a l := fun k p hp => by
  obtain ⟨ad, e, hB, h⟩ := h k p hp
  exact ⟨ad, e, by omega, h⟩
theorem BoxAt.below {w w' : World} {B : Nat} {ad : Addr} {k : Nat} {b : BoxD} {a : Option Addr} {n c : Nat} (h : BoxAt w B ad k b a n c) (hB : ad.block < B) (hb : Below B w w') : BoxAt w' B ad k b a n c := by
  obtain ⟨h0, h1, h2, h3, h4, h5, h6, h7, h8, h9⟩ := h
  have key : ∀ (o : Nat) (v : Value), w.cell? ⟨(ad.add (k * 7)).block, o, none⟩ = some v → w'.cell? ⟨(ad.add (k * 7)).block, o, none⟩ = some v := fun o v hv => by
    rw [hb.cell (by rw [block_of_add]; exact hB)]; exact hv
  exact ⟨by rw [hb.cell (by rw [block_of_add]; exact hB)]; exact h0, key _ _ h1, key _ _ h2, key _ _ h3, key _ _ h4, key _ _ h5, key _ _ h6, h7, h8, h9.below hb⟩
theorem BoxesAt.below {w w' : World} {B : Nat} {A : Option Addr} {l : List BoxD} (h : BoxesAt w B A l) (hb : Below B w w') : BoxesAt w' B A l := fun k b hk => by
  obtain ⟨ad, a, n, c, e, hB, h⟩ := h k b hk
  exact ⟨ad, a, n, c, e, hB, h.below hB hb⟩
def RelT (n : Nat) (l : List BoxD) (w : World) (gg : Nat) (s3 s4 : Value) (wx : World) : Prop :=
  ∃ k : Nat, k ≤ n ∧ gg = n - k ∧ s4 = .int .i64 k ∧ ∃ D : ByteArray, Hid (D = ⟨(textS (l.take k)).toArray⟩) ∧ D.size ≤ 9001 * k ∧ s3 = .string D ∧ Below w.heap.size w wx
set_option maxRecDepth 100000 in
set_option maxHeartbeats 2000000 in
theorem textR (l : List BoxD) (ok : ∀ b ∈ l, b.Ok) (A : Option Addr) (n c : Nat) (w : World) (hn : l.length = n) (hn2 : n ≤ 20) (hA : BoxesAt w w.heap.size A l) : Calls Tryd.prog 11 #[.slice A n c] w (StrOf (textS l) 200000 w) := by
  have HN := Lib.hid hn
  have HA := Lib.hid hA
  clear hn hA
  go_enter Tryd.func11, Tryd.ntmps11
  go_wp2_with fail
  go_loopg [3, 4] n (fun gg s3 s4 wx => RelT n l w gg s3 s4 wx)
  case atStart => exact ⟨0, Nat.zero_le _, rfl, rfl, _, Lib.hid rfl, Nat.le_refl 0, rfl, .refl _ _⟩
  case round =>
    obtain ⟨k, hk, rfl, rfl, E, HE, zE, rfl, hB⟩ := hrel
    have HB := Lib.hid hB
    clear hB
    by_cases hlt : k < n
    · obtain ⟨b, hb⟩ : ∃ b, l[k]? = some b := ⟨l[k]'(by have := HN.out; omega), List.getElem?_eq_getElem _⟩
      obtain ⟨ad, a, m, c', rfl, had, hbox⟩ := HA.out.below HB.out k b hb
      obtain ⟨d0, d1, d2, d3, d4, d5, d6, hm, hmc, hps⟩ := hbox
      have HM := Lib.hid hm
      have HPS := Lib.hid (hps.more HB.out.size)
      have hbo := ok b (List.mem_of_getElem? hb)
      have HT : Hid (l.take (k + 1) = l.take k ++ [b]) := Lib.hid (by rw [List.take_add_one, hb]; rfl)
      clear hm hps hb
      go_wp2_with (go_at_call 9; refine (lineR b hbo a m c' _ HM.out HPS.out).mono ?_; rintro e W2 ⟨D, HD, zD, rfl, hB2⟩)
      have HB2 := Lib.hid (HB.out.trans (hB2.mono HB.out.size))
      clear hB2
      go_wp2_with fail
      go_roundg (n - (k + 1))
      case measure => omega
      case rel => exact ⟨k + 1, by omega, rfl, by go_num, _, Lib.hid ((cat_l (cat_l HE.out HD.out) (lit_l [10])).trans (by congr 1; rw [HT.out, textS_snoc]; simp)), by simp only [ByteArray.size_append', ByteArray.size_mk', List.size_toArray, List.length_cons, List.length_nil]; omega, rfl, HB2.out⟩
    · obtain rfl : k = n := by omega
      go_wp2_with fail
      go_ret
      exact ⟨E, Lib.hid (by rw [HE.out, List.take_of_length_le (by have := HN.out; omega)]), by omega, rfl, HB.out⟩
end Go.Proofs.YtfobenohimepaaaDoor.Num
