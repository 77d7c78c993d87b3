/- fleuronlaw18.ContentAttrs returns true for all arguments, whatever awake() is that returns true. -/
import Derived.Test.YtieiopaobipdoaaGreatDoorCLe
import Derived.Test.YtieiopaobipdoaaGreatDoorCLg
import Derived.Test.YtieiopaobipdoaaGreatDoorCLp
import Derived.Test.YtieiopaobipdoaaGreatDoorTW
namespace Go.Proofs.YtieiopaobipdoaaGreatDoor.Dom
open Go Go.RowKit Num

abbrev GoodA (v : Value) (tx q : ByteArray) (d : Int) (W : World) : Prop := Calls Tryz.prog 6 #[v, .string tx, .string q, .int .i64 d] W fun e W' => e = .returned (.bool true) ∧ Below W.heap.size W W'
abbrev DecOk (W : World) : Prop := ∀ (k : Nat), k < 8 → ∀ w, Below W.heap.size W w → Calls Tryz.prog 18 #[.int .i64 (k : Int)] w fun e w' => e = .returned (.string (decS k)) ∧ Below w.heap.size w w'
abbrev NewOk (W : World) : Prop := ∀ w, Below W.heap.size W w → Calls Tryz.prog 12 #[.slice none 0 0] w fun e w' => (∃ a, e = .returned (.pointer (some a))) ∧ Below w.heap.size w w'
set_option maxHeartbeats 1000000 in
theorem attrs_out (a : Option Addr) (n c : Nat) (tx q : ByteArray) (d : Int) (h : 8 < n ∨ 300 < tx.size ∨ 50 < q.size ∨ d < 0 ∨ 100 < d) {W : World} (aw : Cut.Awk W) : GoodA (.slice a n c) tx q d W := by
  have aw0 := aw W (Below.refl _ _)
  go_enter Tryz.func6, Tryz.ntmps6
  go_wp2_with (first | (go_at_call 7; refine aw0.mono ?_; rintro e w' ⟨rfl, hb⟩))
  all_goals first
    | (exfalso; omega)
    | (go_ret; exact ⟨rfl, hb⟩)
/-- the law's loop -/
def LawA (ns : List ByteArray) (tx q : ByteArray) (W : World) (x10 x11 x12 : Value) (wr : World) : Prop :=
  ∃ (k : Nat) (v : Value), k ≤ ns.length ∧ x12 = .int .i64 (k : Int) ∧ x11 = .bool (metB tx (ns.take k) q) ∧ x10 = .string (wantB tx (ns.take k) q) ∧ (∀ n ∈ ns.take k, n.size ≤ 50) ∧
    wr.heap[W.heap.size]? = some (.cells #[.int .i64 (-1), .string ⟨#[97]⟩, .string ⟨#[]⟩, v] 46 (0, 0)) ∧
    wr.ownsRow (W.heap.size + 1) 43 2 v k (aC (itemsL tx (ns.take k))) ∧ Below W.heap.size W wr ∧ W.heap.size + 1 ≤ wr.heap.size
theorem take_one (ns : List ByteArray) (k : Nat) (n : ByteArray) (h : ns[k]? = some n) : ns.take (k + 1) = ns.take k ++ [n] := by
  obtain ⟨h1, h2⟩ := List.getElem?_eq_some_iff.1 h
  rw [List.take_succ_eq_append_getElem h1, h2]
theorem cell_new (w : World) (cs : Array Value) (T : TypeId) (j : Nat) (v : Value) (h : cs[j]? = some v) : (w.alloc (.cells cs T)).cell? ⟨w.heap.size, j, none⟩ = some v := by
  rw [World.cell?_alloc_new]; exact h
/-- behind the append -/
theorem app_after {W w2 w3 : World} {v : Value} {k gg cap : Nat} {L : List Value} {o : Obj} (hA : w2.heap[W.heap.size]? = some (.cells #[.int .i64 (-1), .string ⟨#[97]⟩, .string ⟨#[]⟩, v] 46 (0, 0)))
    (hv : ∀ b, v.ownBlock = some b → W.heap.size + 1 ≤ b) (hz : W.heap.size + 1 ≤ w2.heap.size) (hB : Below W.heap.size W w2) (hg : (w2.alloc o).drew.grownBy w3 v.ownBlock)
    (hown : w3.ownsRow (W.heap.size + 1) 43 2 (.slice (some ⟨gg, 0, none⟩) (k + 1) cap) (k + 1) L) :
    (w3.frozen? ⟨W.heap.size, 3, none⟩ = false ∧ w3.cell? ⟨W.heap.size, 3, none⟩ = some v) ∧
    (w3.setCell ⟨W.heap.size, 3, none⟩ (.slice (some ⟨gg, 0, none⟩) (k + 1) cap)).heap[W.heap.size]? = some (.cells #[.int .i64 (-1), .string ⟨#[97]⟩, .string ⟨#[]⟩, .slice (some ⟨gg, 0, none⟩) (k + 1) cap] 46 (0, 0)) ∧
    (w3.setCell ⟨W.heap.size, 3, none⟩ (.slice (some ⟨gg, 0, none⟩) (k + 1) cap)).ownsRow (W.heap.size + 1) 43 2 (.slice (some ⟨gg, 0, none⟩) (k + 1) cap) (k + 1) L ∧
    Below W.heap.size W (w3.setCell ⟨W.heap.size, 3, none⟩ (.slice (some ⟨gg, 0, none⟩) (k + 1) cap)) ∧ W.heap.size + 1 ≤ (w3.setCell ⟨W.heap.size, 3, none⟩ (.slice (some ⟨gg, 0, none⟩) (k + 1) cap)).heap.size := by
  have hal : Below w2.heap.size w2 (w2.alloc o).drew := ((Below.refl _ w2).alloc (Nat.le_refl _) _).drew
  have hds : (w2.alloc o).drew.heap.size = w2.heap.size + 1 := World.size_alloc _ _
  have hzs : w2.heap.size + 1 ≤ w3.heap.size := by have := hg.size; omega
  have hA3 : w3.heap[W.heap.size]? = some (.cells #[.int .i64 (-1), .string ⟨#[97]⟩, .string ⟨#[]⟩, v] 46 (0, 0)) :=
    (hg.block W.heap.size (by omega) (fun e => by have := hv _ e.symm; omega)).trans ((hal.block W.heap.size (by omega)).trans hA)
  have hB3 : Below W.heap.size W w3 := hB.trans ⟨hg.os.trans hal.os, hg.tape.trans hal.tape, hg.output.trans hal.output, by omega, fun j hj => (hg.block j (by omega) (fun e => by have := hv _ e.symm; omega)).trans (hal.block j (by omega))⟩
  refine ⟨⟨Lib.frozen_of_heap hA3 3, by rw [Lib.cell_of_heap hA3]; rfl⟩, set_heap hA3 3 _, own_set hown _ _ _ (by omega), hB3.setCell (Nat.le_refl _) _, by rw [set_size]; omega⟩
theorem new_hA (w2 : World) (o : Obj) {B : Nat} {v : Value} (hz : B + 1 ≤ w2.heap.size) (hA : w2.heap[B]? = some (.cells #[.int .i64 (-1), .string ⟨#[97]⟩, .string ⟨#[]⟩, v] 46 (0, 0))) : (w2.alloc o).cell? ⟨B, 3, none⟩ = some v := by
  have hal : Below w2.heap.size w2 (w2.alloc o) := (Below.refl _ w2).alloc (Nat.le_refl _) _
  rw [Lib.cell_of_heap ((hal.block B (by omega)).trans hA)]; rfl
set_option maxHeartbeats 4000000 in
set_option maxRecDepth 100000 in
theorem attrs_in {W : World} {al : Option Addr} {lc : Nat} {ns : List ByteArray} (hcells : 0 < ns.length → ∃ lb lo, al = some ⟨lb, lo, none⟩ ∧ lb < W.heap.size ∧ ∀ (j : Nat) n, ns[j]? = some n → W.cell? ⟨lb, lo + j, none⟩ = some (.string n)) (tx q : ByteArray) (d : Int) (h1 : ns.length ≤ 8) (h2 : tx.size ≤ 300) (h3 : q.size ≤ 50) (h4 : 0 ≤ d) (h5 : d ≤ 100)
    (dk : DecOk W) (nk : NewOk W) (aw : Cut.Awk W) : GoodA (.slice al ns.length lc) tx q d W := by
  obtain ⟨i0, hi, hz0, hz1, hz2⟩ := info_parts infoAttr
  have HC := Lib.hid hcells
  have hB0 : Below W.heap.size W (W.alloc (.cells #[.int .i64 (-1), .string ⟨#[97]⟩, .string ⟨#[]⟩, .slice none 0 0] 46)) := (Below.refl _ W).alloc (Nat.le_refl _) _
  have hA0 := World.alloc_heap_new W (.cells #[.int .i64 (-1), .string ⟨#[97]⟩, .string ⟨#[]⟩, .slice none 0 0] 46)
  have HB0 := Lib.hid hB0
  have HA0 := Lib.hid hA0
  clear hcells hB0 hA0
  go_enter Tryz.func6, Tryz.ntmps6
  go_wp2
  all_goals first
    | (exfalso; omega; done)
    | skip
  go_loopw [10, 11, 12] (fun x10 x11 x12 wr => LawA ns tx q W x10 x11 x12 wr) (fun _ _ x12 _ => ns.length - (intOf x12).toNat)
  case atStart => exact ⟨0, .slice none 0 0, Nat.zero_le _, rfl, rfl, rfl, by simp, HA0.out, World.ownsRow_nil _ _ _ _, HB0.out, by rw [World.size_alloc]; omega⟩
  case round =>
    clear HB0 HA0
    obtain ⟨k, v, hk, rfl, rfl, rfl, hsm, hA, hown, BW, hz⟩ := hrel
    by_cases hlt : k < ns.length
    · obtain ⟨n, hn⟩ : ∃ n, ns[k]? = some n := ⟨_, List.getElem?_eq_getElem hlt⟩
      obtain ⟨lb, lo, rfl, hlb2, hcells⟩ := HC.out (by omega)
      clear HC
      have HC := Lib.hid hcells
      clear hcells
      have hcn := (BW.cell (p := ⟨lb, lo + k, none⟩) hlb2).trans (HC.out k n hn)
      by_cases hbig : 50 < n.size
      · have aw0 := aw _ BW
        have HW := Lib.hid BW
        clear hn hsm hA hown BW
        go_wp2_with (go_at_call 7; refine aw0.mono ?_; rintro e w' ⟨rfl, hb⟩)
        go_ret
        exact ⟨rfl, HW.out.trans (hb.mono HW.out.size)⟩
      · have hbig2 : n.size ≤ 50 := by omega
        have hd := dk k (by omega) _ BW
        have htk := take_one ns k n hn
        have hsm2 : ∀ m ∈ ns.take (k + 1), m.size ≤ 50 := by
          rw [htk]
          intro m hm
          rcases List.mem_append.1 hm with hm | hm
          · exact hsm m hm
          · rw [List.mem_singleton.1 hm]; exact hbig2
        have hlk : (ns.take k).length = k := by rw [List.length_take]; omega
        have hil : (itemsL tx (ns.take k)).length = k := by rw [items_len, hlk]
        have hrow : aC (itemsL tx (ns.take (k + 1))) = aC (itemsL tx (ns.take k)) ++ [.string n, .string (tx ++ decS k)] := by
          rw [htk, items_snoc, aC_append, hlk]; rfl
        have hvb : ∀ b, v.ownBlock = some b → W.heap.size + 1 ≤ b := fun b hb => (hown.lt b hb).1
        have HTK := Lib.hid htk
        have HROW := Lib.hid hrow
        have HSM := Lib.hid hsm2
        have HA := Lib.hid hA
        have HO := Lib.hid hown
        have HW := Lib.hid BW
        have HLK := Lib.hid hlk
        have HN := Lib.hid hn
        have HVB := Lib.hid hvb
        have hds : (decS k).size = 1 := rfl
        have HDS := Lib.hid hds
        clear htk hrow hsm hsm2 hA hown BW hil hlk hn hbig hvb hds
        obtain ⟨D, hD⟩ : ∃ D, decS k = D := ⟨_, rfl⟩
        rw [hD] at hd HROW HDS
        have HD := Lib.hid hD
        clear hD
        have hDz : D.size ≤ 1 := Nat.le_of_eq HDS.out
        go_upto_region 12 with (first | (go_at_call 18; refine hd.mono ?_; rintro e w2 ⟨rfl, hb2⟩))
        all_goals skip
        have hz2w : W.heap.size + 1 ≤ w2.heap.size := Nat.le_trans hz hb2.size
        have hA2 := (hb2.block W.heap.size (by omega)).trans HA.out
        have cA2 : w2.cell? ⟨W.heap.size, 3, none⟩ = some v := by rw [Lib.cell_of_heap hA2]; rfl
        have fA2 : w2.frozen? ⟨W.heap.size, 3, none⟩ = false := Lib.frozen_of_heap hA2 3
        have cA3 : ∀ o, (w2.alloc o).cell? ⟨W.heap.size, 3, none⟩ = some v := fun o => new_hA w2 o hz2w hA2
        have hcn2 := (hb2.cell (p := ⟨lb, lo + k, none⟩) (by have := HW.out.size; show lb < _; omega)).trans hcn
        have HA2 := Lib.hid hA2
        have hown2 := own_below HO.out hb2
        have HO2 := Lib.hid hown2
        have HW2 := Lib.hid (HW.out.trans (hb2.mono HW.out.size))
        clear hA2 hb2 hd hcn hown2
        go_region_law
          (first
            | (refine step_append_lies _ (by rfl) _ _ 44 (by rfl) (W.heap.size + 1) 43 i0 _ 2 32 Tryz.underlying44 hi hz0 hz1 hz2 rfl (by omega) v k (aC (itemsL tx (ns.take k))) (by rfl) (HO2.out.alloc _) ⟨w2.heap.size, 0, none⟩ 1 1 [.string n, .string (tx ++ D)] (by rfl) (by rfl) (World.news_of_block (cs := #[.string n, .string (tx ++ D)]) (t := 43) (fr := (0, 0)) (heap_alloc_new _ _)) (by simp [Value.oneCell']) (by omega) (by unfold maxLen; omega) (by omega) (by simp; omega) (w2.heap.size + 1) (by simp) ?_; intro gg cap w3 hown3 hgrow hat hlt3; obtain ⟨⟨fA3, cA4⟩, hA4, hown4, BW4, hz4⟩ := app_after HA2.out HVB.out hz2w HW2.out hgrow hown3))
        all_goals
          obtain ⟨w4, hw4⟩ : ∃ w4, w3.setCell ⟨W.heap.size, 3, none⟩ (.slice (some ⟨gg, 0, none⟩) (k + 1) cap) = w4 := ⟨_, rfl⟩
          rw [hw4] at hA4 hown4 BW4 hz4 ⊢
          rw [← HROW.out] at hown4
          have hcn4 := (BW4.cell (p := ⟨lb, lo + k, none⟩) hlb2).trans (HC.out k n HN.out)
          have HA4 := Lib.hid hA4
          have HO4 := Lib.hid hown4
          have HW4 := Lib.hid BW4
          clear hA4 hown4 BW4 hw4 fA3 cA4 hown3 hgrow hat hlt3 cA2 fA2 cA3 hcn2
          have hl4 := lower1 n w4 (by omega)
          obtain ⟨L, hL⟩ : ∃ L, lowS n = L := ⟨_, rfl⟩
          rw [hL] at hl4
          have HL := Lib.hid hL
          clear hL
          obtain ⟨mt, hmt⟩ : ∃ mt, metB tx (ns.take k) q = mt := ⟨_, rfl⟩
          rw [hmt]
          obtain ⟨X, hX⟩ : ∃ X, wantB tx (ns.take k) q = X := ⟨_, rfl⟩
          rw [hX]
          have HX := Lib.hid hX
          clear hX
          by_cases heq : (L.toList == q.toList) = true
          · cases mt with
            | false =>
              have hw := want_hit tx (ns.take k) n q (by rw [HL.out]; exact heq) hmt
              rw [← HTK.out, HLK.out, HD.out] at hw
              have HWA := Lib.hid hw
              clear hw hmt
              go_wp2_with (go_at_call 19; refine hl4.mono ?_; rintro e w5 ⟨rfl, hb5⟩)
              go_roundw
              case rel => exact ⟨k + 1, _, by omega, by go_num, by rw [HWA.out.2], by rw [HWA.out.1], HSM.out, (hb5.block W.heap.size (by omega)).trans HA4.out, own_below HO4.out hb5, HW4.out.trans (hb5.mono HW4.out.size), Nat.le_trans hz4 hb5.size⟩
              case measure => simp [intOf]; omega
            | true =>
              have hw := want_stay tx (ns.take k) n q (.inr hmt)
              rw [← HTK.out, HX.out, hmt] at hw
              have HWA := Lib.hid hw
              clear hw hmt
              go_wp2_with (go_at_call 19; refine hl4.mono ?_; rintro e w5 ⟨rfl, hb5⟩)
              go_roundw
              case rel => exact ⟨k + 1, _, by omega, by go_num, by rw [HWA.out.2], by rw [HWA.out.1], HSM.out, (hb5.block W.heap.size (by omega)).trans HA4.out, own_below HO4.out hb5, HW4.out.trans (hb5.mono HW4.out.size), Nat.le_trans hz4 hb5.size⟩
              case measure => simp [intOf]; omega
          · have heq : (L.toList == q.toList) = false := by simpa using heq
            have hw := want_stay tx (ns.take k) n q (.inl (by rw [HL.out]; exact heq))
            rw [← HTK.out, HX.out, hmt] at hw
            have HWA := Lib.hid hw
            clear hw hmt
            go_wp2_with (go_at_call 19; refine hl4.mono ?_; rintro e w5 ⟨rfl, hb5⟩)
            go_roundw
            case rel => exact ⟨k + 1, _, by omega, by go_num, by rw [HWA.out.2], by rw [HWA.out.1], HSM.out, (hb5.block W.heap.size (by omega)).trans HA4.out, own_below HO4.out hb5, HW4.out.trans (hb5.mono HW4.out.size), Nat.le_trans hz4 hb5.size⟩
            case measure => simp [intOf]; omega
    · obtain rfl : k = ns.length := by omega
      rw [List.take_length] at hsm hown
      have hil := items_len tx ns
      have hat := AtA.of_own (l := itemsL tx ns) (v := v) (w := wr) (by rw [hil]; exact hown)
      obtain ⟨lv, c, rfl⟩ : ∃ p c, v = .slice p ns.length c := by
        rcases hat with ⟨h1, rfl⟩ | ⟨g, o, c, rfl, _⟩
        · exact ⟨_, _, by rw [← hil, h1]; rfl⟩
        · exact ⟨_, _, by rw [hil]⟩
      have e0 : wr.cell? ⟨W.heap.size, 0, none⟩ = some (.int .i64 (-1)) := by rw [Lib.cell_of_heap hA]; rfl
      have e1 : wr.cell? ⟨W.heap.size, 1, none⟩ = some (.string ⟨#[97]⟩) := by rw [Lib.cell_of_heap hA]; rfl
      have e2 : wr.cell? ⟨W.heap.size, 2, none⟩ = some (.string ⟨#[]⟩) := by rw [Lib.cell_of_heap hA]; rfl
      have e3 : wr.cell? ⟨W.heap.size, 3, none⟩ = some (.slice lv ns.length c) := by rw [Lib.cell_of_heap hA]; rfl
      have hal : Below wr.heap.size wr (wr.alloc (.cells #[.int .i64 (-1), .string ⟨#[97]⟩, .string ⟨#[]⟩, .slice lv ns.length c] 46)) := (Below.refl _ wr).alloc (Nat.le_refl _) _
      have hnew := new_one (itemsL tx ns) ⟨#[]⟩ lv c wr.heap.size 1 (wr.alloc (.cells #[.int .i64 (-1), .string ⟨#[97]⟩, .string ⟨#[]⟩, .slice lv ns.length c] 46)) (by omega) (fun x hx => by have := hsm x.1 (items_mem tx ns x hx).1; omega)
        (by rw [hil]; exact hat.below hal) (cell_new wr _ _ 0 _ rfl) (cell_new wr _ _ 1 _ rfl) (cell_new wr _ _ 2 _ rfl) (by rw [hil]; exact cell_new wr _ _ 3 _ rfl)
      have HWA := Lib.hid (BW.trans (hal.mono BW.size))
      have hwant := want_size tx ns q
      have hlook := look_want tx ns q
      have hddl : (dd (itemsL tx ns)).length ≤ 1000 := by
        have := dd_len (itemsL tx ns) (itemsL tx ns).length (Nat.le_refl _)
        rw [List.take_length] at this
        omega
      clear hal hat hA hown BW hil hsm
      go_wp2_with (go_at_call 13; refine hnew.mono ?_)
      rintro e w2 ⟨t, rfl, ht, hb2⟩
      have HW2 := Lib.hid (HWA.out.trans (hb2.mono HWA.out.size))
      have hnk := nk w2 HW2.out
      clear hb2 hnew e0 e1 e2 e3
      go_wp2_with (go_at_call 12; refine hnk.mono ?_)
      rintro e w3 ⟨⟨a, rfl⟩, hb3⟩
      have HW3 := Lib.hid (HW2.out.trans (hb3.mono HW2.out.size))
      have ht3 := ht.below hb3
      obtain ⟨B, hB⟩ : ∃ B, wantB tx ns q = B := ⟨_, rfl⟩
      rw [hB] at hwant hlook ⊢
      have HLO := Lib.hid hlook
      clear hb3 hnk ht hB hlook
      go_wp2_with (go_at_call 14; refine (text_c (dd (itemsL tx ns)) t _ _ q ⟨#[60]⟩ ⟨#[62]⟩ _ _ d _ hddl (ht3.below ((Below.refl _ _).alloc (Nat.le_refl _) _)) h4 (by omega) rfl rfl (by rw [HLO.out]; omega) (cell_new _ _ _ 0 _ rfl) (cell_new _ _ _ 1 _ rfl) (cell_new _ _ _ 2 _ rfl) (cell_new _ _ _ 3 _ rfl) (cell_new _ _ _ 4 _ rfl) (cell_new _ _ _ 5 _ rfl) (cell_new _ _ _ 6 _ rfl) (cell_new _ _ _ 7 _ rfl) (cell_new _ _ _ 8 _ rfl) (cell_new _ _ _ 9 _ rfl) (cell_new _ _ _ 10 _ rfl) (cell_new _ _ _ 11 _ rfl)).mono ?_)
      rw [HLO.out]
      rintro e w4 ⟨rfl, hb4⟩
      have HW4 : Hid (Below W.heap.size W w4) := Lib.hid (HW3.out.trans ((((Below.refl _ w3).alloc (Nat.le_refl _) _).trans (hb4.mono (by rw [World.size_alloc]; omega))).mono HW3.out.size))
      have haw := aw w4 HW4.out
      clear hb4
      go_wp2_with (go_at_call 7; refine haw.mono ?_; rintro e w' ⟨rfl, hb⟩)
      all_goals (go_ret; exact ⟨rfl, HW4.out.trans (hb.mono HW4.out.size)⟩)
end Go.Proofs.YtieiopaobipdoaaGreatDoor.Dom
