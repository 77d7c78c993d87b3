/- fleuronlaw18.ContentCounters: for all arguments. -/
import Derived.Test.YtieiopaobipdoaaGreatDoorVM
import Derived.OpenShut
namespace Go.Proofs.YtieiopaobipdoaaGreatDoor.Cnt
open Go Go.RowKit HM
variable [E : Amb]
theorem tx0 (W : World) (a : Addr) : TxOk ⟨#[100, 101, 99, 105, 109, 97, 108]⟩ (txL 0) W a := ⟨fun n hn _ _ H => text_h 0 n (by decide) hn H, fun n hn => txL_len 0 n (by decide) hn⟩
theorem tx1 (W : World) (a : Addr) : TxOk ⟨#[117, 112, 112, 101, 114, 45, 114, 111, 109, 97, 110]⟩ (txL 1) W a := ⟨fun n hn _ _ H => text_h 1 n (by decide) hn H, fun n hn => txL_len 1 n (by decide) hn⟩
theorem tx2 (W : World) (a : Addr) : TxOk ⟨#[110, 111, 110, 101]⟩ (txL 2) W a := ⟨fun n hn _ _ H => text_h 2 n (by decide) hn H, fun n hn => txL_len 2 n (by decide) hn⟩
theorem tx3 (W : World) (a : Addr) : TxOk ⟨#[108, 111, 119, 101, 114, 45, 97, 108, 112, 104, 97]⟩ (txL 3) W a := ⟨fun n hn _ _ H => text_h 3 n (by decide) hn H, fun n hn => txL_len 3 n (by decide) hn⟩
theorem cnt_nil (al : Option Addr) (lc : Nat) (sep : ByteArray) (k : Int) {W : World} (hT : Tabs W) (aw : Cut.Awk W) : GoodN (.slice al 0 lc) sep k W := by
  by_cases hs : 10 < sep.size
  · exact cnt_out al 0 lc sep k (.inr hs) aw
  · have hs : sep.size ≤ 10 := by omega
    have h4 : k % 4 = 0 ∨ k % 4 = 1 ∨ k % 4 = 2 ∨ k % 4 = 3 := by omega
    rcases h4 with h | h | h | h
    · exact cnt0_0 hs k h hT aw (tx0 W)
    · exact cnt0_1 hs k h hT aw (tx1 W)
    · exact cnt0_2 hs k h hT aw (tx2 W)
    · exact cnt0_3 hs k h hT aw (tx3 W)
theorem cnt_all (a : Addr) (n c : Nat) (zs : List Int) (sep : ByteArray) (k : Int) (hl : zs.length = n) {W : World} (hT : Tabs W) (aw : Cut.Awk W) (hx : ∀ i, i < zs.length → W.cell? (a.add i) = some (.int .i64 (zs.getD i 0))) :
    GoodN (.slice (some a) n c) sep k W := by
  by_cases hs : 10 < n ∨ 10 < sep.size
  · exact cnt_out _ n c sep k hs aw
  · by_cases h0 : n = 0
    · subst h0; exact cnt_nil _ c sep k hT aw
    · obtain ⟨b, off, rfl, hc⟩ := Go.ints_at hx (by omega)
      have hlb : b < W.heap.size := World.block_lt_of_cell? _ _ (hc 0 (by omega))
      have hcells : ∀ (j : Nat) z, zs[j]? = some z → W.cell? ⟨b, off + j, none⟩ = some (.int .i64 z) := fun j z hz => by
        have h1 := (List.getElem?_eq_some_iff.1 hz).1
        rw [hc j h1, List.getD, hz]; rfl
      have hns : ∀ (j : Nat) z, zs[j]? = some z → (zs.map fun z => (z % 50).toNat)[j]? = some (z % 50).toNat := fun j z hz => by rw [List.getElem?_map, hz]; rfl
      have hb : ∀ m ∈ zs.map fun z => (z % 50).toNat, m < 50 := fun m hm => by
        obtain ⟨z, _, rfl⟩ := List.mem_map.1 hm
        omega
      have hL : (zs.map fun z => (z % 50).toNat).length = zs.length := List.length_map _
      subst hl
      have h4 : k % 4 = 0 ∨ k % 4 = 1 ∨ k % 4 = 2 ∨ k % 4 = 3 := by omega
      rcases h4 with h | h | h | h
      · exact cnt_0 hcells hlb hL (by omega) (by omega) hns hb (by omega) k h hT aw (tx0 W)
      · exact cnt_1 hcells hlb hL (by omega) (by omega) hns hb (by omega) k h hT aw (tx1 W)
      · exact cnt_2 hcells hlb hL (by omega) (by omega) hns hb (by omega) k h hT aw (tx2 W)
      · exact cnt_3 hcells hlb hL (by omega) (by omega) hns hb (by omega) k h hT aw (tx3 W)
omit [E : Amb] in
theorem card_nil (al : Option Addr) (lc : Nat) (sep : ByteArray) (k : Int) {W : World} (hT : Tabs W) : GoodN (.slice al 0 lc) sep k W := by
  letI : Amb := Amb.none
  exact cnt_nil al lc sep k hT (Cut.awk hT)
omit [E : Amb] in
theorem card_all (a : Addr) (n c : Nat) (zs : List Int) (sep : ByteArray) (k : Int) (hl : n ≤ zs.length) {W : World} (hT : Tabs W) (hx : ∀ i, i < zs.length → W.cell? (a.add i) = some (.int .i64 (zs.getD i 0))) :
    GoodN (.slice (some a) n c) sep k W := by
  letI : Amb := Amb.none
  refine cnt_all a n c (zs.take n) sep k (by rw [List.length_take]; omega) hT (Cut.awk hT) fun i hi => ?_
  have hi' : i < n := by rw [List.length_take] at hi; omega
  rw [hx i (by omega), List.getD, List.getD, List.getElem?_take, if_pos hi']
end Go.Proofs.YtieiopaobipdoaaGreatDoor.Cnt
