/- content.Text of a word, an attribute, a word. -/
import Derived.Test.YtieiopaobipdoaaGreatDoorCLd
import Derived.Test.YtieiopaobipdoaaGreatDoorTC
namespace Go.Proofs.YtieiopaobipdoaaGreatDoor.Dom
open Go Go.RowKit Num
theorem bld_below {B2 b : Nat} {bs : List Value} {w w' : World} (h : Bld B2 b bs w) (hb : Below w.heap.size w w') : Bld B2 b bs w' := by
  obtain ⟨h1, h2, p, v, hp, hk, ho⟩ := h
  exact ⟨h1, Nat.le_trans h2 hb.size, p, v, hp, (hb.block b (by omega)).trans hk, own_below ho hb⟩
theorem word_c (v r : Value) (t sep st : ByteArray) (w : World) :
    Calls Tryz.prog 17 #[r, v, .agg #[.int .i64 1, .string t, .string sep, .string st]] w fun e w' => e = .returned (.string t) ∧ Below w.heap.size w w' := by
  have hb : Below w.heap.size w (w.alloc (.cells #[.int .i64 1, .string t, .string sep, .string st] 60)) := (Below.refl _ w).alloc (Nat.le_refl _) _
  go_enter Tryz.func17, Tryz.ntmps17
  go_wp2
  go_ret
  exact ⟨rfl, hb⟩
set_option maxHeartbeats 4000000 in
set_option maxRecDepth 100000 in
theorem text_c (l : List (ByteArray × ByteArray)) (t i : Nat) (r : Value) (m s1 s2 : ByteArray) (cs : Array Value) (ic : Nat) (d : Int) (w : World) (hl : l.length ≤ 1000) (ht : TreeA l t w) (hd : 0 ≤ d) (_hd2 : d ≤ 1000)
    (hs1 : s1.size = 1) (hs2 : s2.size = 1) (hm : ((lookA l m).getD ⟨#[]⟩).size ≤ 1000)
    (a0 : w.cell? ⟨i, 0, none⟩ = some (.int .i64 1)) (a1 : w.cell? ⟨i, 1, none⟩ = some (.string s1)) (a2 : w.cell? ⟨i, 2, none⟩ = some (.string ⟨#[]⟩)) (a3 : w.cell? ⟨i, 3, none⟩ = some (.string ⟨#[]⟩))
    (b0 : w.cell? ⟨i, 4, none⟩ = some (.int .i64 2)) (b1 : w.cell? ⟨i, 5, none⟩ = some (.string m)) (b2 : w.cell? ⟨i, 6, none⟩ = some (.string ⟨#[]⟩)) (b3 : w.cell? ⟨i, 7, none⟩ = some (.string ⟨#[]⟩))
    (c0 : w.cell? ⟨i, 8, none⟩ = some (.int .i64 1)) (c1 : w.cell? ⟨i, 9, none⟩ = some (.string s2)) (c2 : w.cell? ⟨i, 10, none⟩ = some (.string ⟨#[]⟩)) (c3 : w.cell? ⟨i, 11, none⟩ = some (.string ⟨#[]⟩)) :
    Calls Tryz.prog 14 #[.pointer (some ⟨t, 0, none⟩), .int .i64 0, r, .slice none 0 0, .agg cs, .slice (some ⟨i, 0, none⟩) 3 ic, .int .i64 d] w
      fun e w' => e = .returned (.tuple #[.string (s1 ++ (lookA l m).getD ⟨#[]⟩ ++ s2), .int .i64 d, .bool false]) ∧ Below w.heap.size w w' := by
  have hi := World.block_lt_of_cell? _ _ a0
  go_enter Tryz.func14, Tryz.ntmps14
  go_wp2_with fail
  refine wp_loop_rounds 4 ?_
  rw [rounds_succ]
  go_wp2_with (go_at_call 17; refine (word_c _ _ _ _ _ _).mono ?_)
  rintro e w1 ⟨rfl, hb1⟩
  have x1 : Below w.heap.size w ((w.alloc (.cells cs 34)).alloc (.cells #[.pointer none, .slice none 0 0] 92)) := (two_new w _ _).2.2.2
  have xz := (two_new w (.cells cs 34) (.cells #[.pointer none, .slice none 0 0] 92)).2.2.1
  have hB0 : Bld (w.heap.size + 2) (w.heap.size + 1) [] ((w.alloc (.cells cs 34)).alloc (.cells #[.pointer none, .slice none 0 0] 92)) := by
    have := Bld.new (w.alloc (.cells cs 34))
    rwa [World.size_alloc] at this
  have y1 := (Below.refl ((w.alloc (.cells cs 34)).alloc (.cells #[.pointer none, .slice none 0 0] 92)).heap.size _).alloc (Nat.le_refl _) (.cells #[.int .i64 1, .string s1, .string ⟨#[]⟩, .string ⟨#[]⟩] 60)
  have hB1 := bld_below (bld_below hB0 y1) hb1
  have BW1 : Below w.heap.size w w1 := x1.trans ((y1.trans (hb1.mono y1.size)).mono (by rw [xz]; omega))
  have HB1 := Lib.hid hB1
  have HW1 := Lib.hid BW1
  clear x1 xz hB0 y1 hB1 BW1 hb1
  go_wp2_with (go_at_call 27; refine (writeB _ _ _ s1 _ HB1.out (by simp only [List.length_nil]; omega)).mono ?_)
  rintro e w2 ⟨rfl, hB2, hK2, -⟩
  have BW2 : Below w.heap.size w w2 := HW1.out.trans (hK2.below (by omega) (by omega))
  have b0' := (BW2.cell (p := ⟨i, 4, none⟩) hi).trans b0
  have b1' := (BW2.cell (p := ⟨i, 5, none⟩) hi).trans b1
  have b2' := (BW2.cell (p := ⟨i, 6, none⟩) hi).trans b2
  have b3' := (BW2.cell (p := ⟨i, 7, none⟩) hi).trans b3
  have HB2 := Lib.hid hB2
  have HW2 := Lib.hid BW2
  clear hB2 hK2 BW2 HB1
  go_wp2_with fail
  rw [rounds_succ]
  have z2 : Below w2.heap.size w2 (w2.alloc (.cells #[.int .i64 2, .string m, .string ⟨#[]⟩, .string ⟨#[]⟩] 60)) := (Below.refl _ w2).alloc (Nat.le_refl _) _
  have hq := attr_c l t m _ hl ((ht.below HW2.out).below z2)
  unfold lookV at hq
  generalize hw : (lookA l m).getD ⟨#[]⟩ = want at hq hm
  have HWANT := Lib.hid hw
  clear hw
  generalize (lookA l m).isSome = met at hq
  have hlz := HB2.out.2.1
  go_wp2_with (go_at_call 25; refine hq.mono ?_)
  rintro e w3 ⟨rfl, hb3⟩
  have hB3 := bld_below (bld_below HB2.out z2) hb3
  have BW3 : Below w.heap.size w w3 := HW2.out.trans ((z2.trans (hb3.mono z2.size)).mono (by omega))
  have HB3 := Lib.hid hB3
  have HW3 := Lib.hid BW3
  clear z2 hq hB3 BW3 hb3 hlz b0' b1' b2' b3'
  go_wp2_with (go_at_call 27; refine (writeB _ _ _ want _ HB3.out (by rw [List.length_append, Lib.strCells_length, List.length_nil]; omega)).mono ?_)
  rintro e w4 ⟨rfl, hB4, hK4, -⟩
  have BW4 : Below w.heap.size w w4 := HW3.out.trans (hK4.below (by omega) (by omega))
  have c0' := (BW4.cell (p := ⟨i, 8, none⟩) hi).trans c0
  have c1' := (BW4.cell (p := ⟨i, 9, none⟩) hi).trans c1
  have c2' := (BW4.cell (p := ⟨i, 10, none⟩) hi).trans c2
  have c3' := (BW4.cell (p := ⟨i, 11, none⟩) hi).trans c3
  have HB4 := Lib.hid hB4
  have HW4 := Lib.hid BW4
  clear hB4 hK4 BW4 HB3
  go_wp2_with fail
  rw [rounds_succ]
  have z4 : Below w4.heap.size w4 (w4.alloc (.cells #[.int .i64 1, .string s2, .string ⟨#[]⟩, .string ⟨#[]⟩] 60)) := (Below.refl _ w4).alloc (Nat.le_refl _) _
  have hlz := HB4.out.2.1
  go_wp2_with (go_at_call 17; refine (word_c _ _ _ _ _ _).mono ?_)
  rintro e w5 ⟨rfl, hb5⟩
  have hB5 := bld_below (bld_below HB4.out z4) hb5
  have BW5 : Below w.heap.size w w5 := HW4.out.trans ((z4.trans (hb5.mono z4.size)).mono (by omega))
  have HB5 := Lib.hid hB5
  have HW5 := Lib.hid BW5
  clear z4 hB5 BW5 hb5 hlz c0' c1' c2' c3'
  go_wp2_with (go_at_call 27; refine (writeB _ _ _ s2 _ HB5.out (by simp only [List.length_append, Lib.strCells_length, List.length_nil]; omega)).mono ?_)
  rintro e w6 ⟨rfl, hB6, hK6, -⟩
  have BW6 : Below w.heap.size w w6 := HW5.out.trans (hK6.below (by omega) (by omega))
  have hbs : [] ++ Lib.strCells s1 ++ Lib.strCells want ++ Lib.strCells s2 = Lib.byteCells (s1 ++ want ++ s2).data.toList := by
    simp only [ByteArray.data_append, Array.toList_append, Lib.byteCells_append]
    rfl
  rw [hbs] at hB6
  clear hbs
  have hst := str_any (w.heap.size + 1) (w.heap.size + 1) _ w6 hB6.is (by have := hB6.2.1; omega)
  have hz6 : (s1 ++ want ++ s2).size ≤ 2000 := by rw [ByteArray.size_append, ByteArray.size_append]; omega
  have hst' : Calls Tryz.prog 28 #[.pointer (some ⟨w.heap.size + 1, 0, none⟩)] w6 fun e w' => e = .returned (.string (s1 ++ want ++ s2)) ∧ Below (w.heap.size + 1) w6 w' ∧ KeepsOthers w6 w' := hst
  clear hst
  have hst := hst'
  clear hst'
  generalize hR : s1 ++ want ++ s2 = R at hst hz6
  have HRR := Lib.hid hR
  clear hR
  have HW6 := Lib.hid BW6
  have hz7 := BW6.size
  clear hB6 hK6 BW6 HB5
  go_wp2_with fail
  rw [rounds_succ]
  go_wp2_with (go_at_call 28; refine hst.mono ?_)
  rintro e w7 ⟨rfl, hb7, -⟩
  have hcu := Cut.cut_short R w7 hz6
  go_wp2_with (go_at_call 10; refine hcu.mono ?_)
  rintro e w8 ⟨rfl, hb8⟩
  go_wp2
  go_ret3
  have hmx : max d 0 = d := Int.max_eq_left hd
  refine ⟨?_, HW6.out.trans ((hb7.mono (by omega)).trans (hb8.mono (by have := hb7.size; omega)))⟩
  show Ending.returned (.tuple #[.string R, .int .i64 (max d 0), .bool false]) = _
  rw [hmx, HWANT.out, HRR.out]
end Go.Proofs.YtieiopaobipdoaaGreatDoor.Dom
