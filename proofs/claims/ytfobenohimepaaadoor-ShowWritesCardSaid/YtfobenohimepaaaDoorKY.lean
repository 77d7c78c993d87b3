/- show.Line of any box. -/
import Derived.Test.YtfobenohimepaaaDoorKX
import Derived.Test.YtfobenohimepaaaDoorKD
import Derived.IntWalk
import Derived.Deep.AppendLies
namespace Go.Proofs.YtfobenohimepaaaDoor.Num
open Go Go.RowKit
attribute [local go_sem ↓] Go.wp_at_zero Go.wp_at_succ
theorem quotedS_of (s : ByteArray) (w : World) (hs : s.size ≤ 300) : Calls Tryd.prog 19 #[.string s] w (StrOf (qS s.data.toList) (4 * s.size + 2) w) :=
  strOf (quotedS_any s w (by omega)) (by have := qS_len s.data.toList; have h2 : s.data.toList.length = s.size := by simp
                                         omega)
def cutL (b : Bool) : List (List UInt8) := if b then [[99, 117, 116]] else []
def headL (b : BoxD) : List (List UInt8) := [headS b, psS b.ps, qS b.g.data.toList, qS b.t.data.toList]
theorem join_line (b : BoxD) : Lib.join (headL b ++ cutL b.cut ++ b.pairs.map pairS) [32] = lineS b := by
  have e : headL b ++ cutL b.cut ++ b.pairs.map pairS = headS b :: ([psS b.ps, qS b.g.data.toList, qS b.t.data.toList] ++ cutL b.cut ++ b.pairs.map pairS) := rfl
  rw [e, Lib.join_cons]
  unfold Lib.joinTail lineS midS pairsS cutL cutS
  cases b.cut
  · simp [List.flatMap]; rfl
  · simp [List.flatMap]; rfl
theorem own_below {w w' : World} {base : Nat} {e : TypeId} {size n : Nat} {v : Value} {xs : List Value} (h : w.ownsRow base e size v n xs) (hb : Below w.heap.size w w') : w'.ownsRow base e size v n xs := by
  refine ⟨h.1, ?_⟩
  rcases h.2 with h | ⟨g, cap, cur, h1, h2, h3, h4⟩
  · exact .inl h
  · have hlt : g < w.heap.size := by
      rcases Nat.lt_or_ge g w.heap.size with h' | h'
      · exact h'
      · rw [Array.getElem?_eq_none h'] at h3; cases h3
    exact .inr ⟨g, cap, cur, h1, h2, by rw [hb.block g hlt]; exact h3, h4⟩
theorem own_form {w : World} {base : Nat} {e : TypeId} {size n : Nat} {v : Value} {xs : List Value} (h : w.ownsRow base e size v n xs) (hn : 0 < n) : ∃ g cap, v = .slice (some ⟨g, 0, none⟩) n cap ∧ n ≤ cap ∧ g < w.heap.size := by
  rcases h.2 with h | ⟨g, cap, cur, h1, h2, h3, h4, _⟩
  · omega
  · refine ⟨g, cap, h1, h4, ?_⟩
    rcases Nat.lt_or_ge g w.heap.size with h' | h'
    · exact h'
    · rw [Array.getElem?_eq_none h'] at h3; cases h3
theorem infoStr : (Tryd.prog.info? 9).map (fun i => (i.zero, i.size, i.bytes)) = some (some (.string ⟨#[]⟩), 1, 16) := by kernel_rfl
theorem blk_grown {w w' : World} {base b : Nat} {e T : TypeId} {n : Nat} {v : Value} {xs : List Value} {cs : Array Value} (hown : w.ownsRow base e 1 v n xs) (hg : w.grownBy w' v.ownBlock) (h : Blk w b T cs) (hb : b < base) : Blk w' b T cs := by
  unfold Blk
  rw [hg.block b h.lt (fun e => by have := (hown.lt b e.symm).1; omega)]
  exact h
theorem below_grown {w0 w w' : World} {base : Nat} {e : TypeId} {n : Nat} {v : Value} {xs : List Value} (hown : w.ownsRow base e 1 v n xs) (hg : w.grownBy w' v.ownBlock) (h : Below w0.heap.size w0 w) (hb : w0.heap.size ≤ base) : Below w0.heap.size w0 w' :=
  h.grown hg h.size (fun k hk => by have := (hown.lt k hk).1; omega)
def RelL (l : List (List UInt8)) (m : Nat) (w : World) (cs : Array Value) (s3 : Value) (wx : World) : Prop :=
  ∃ ds : List ByteArray, Hid (ds.map (·.data.toList) = l) ∧ 4 ≤ ds.length ∧ ds.length ≤ m ∧ wx.ownsRow (w.heap.size + 1) 9 1 s3 ds.length (ds.map Value.string) ∧ Blk wx w.heap.size 28 cs ∧ Below w.heap.size w wx
def RelLP (n : Nat) (l : List (List UInt8)) (pairs : List PairD) (w : World) (cs : Array Value) (gg : Nat) (s3 s34 : Value) (wx : World) : Prop :=
  ∃ k : Nat, k ≤ n ∧ gg = n - k ∧ s34 = .int .i64 k ∧ RelL (l ++ (pairs.take k).map pairS) (5 + k) w cs s3 wx
def RelQ (l : List UInt8) (m : Nat) (w : World) (cs : Array Value) (v : Value) (xs : List Value) (g : Nat) (ds : Array Value) (s5 s6 : Value) (wx : World) : Prop :=
  ∃ D : ByteArray, Hid (D = ⟨l.toArray⟩) ∧ D.size ≤ m ∧ s6 = .string D ∧ s5 = .pointer (some ⟨g, 0, none⟩) ∧ Blk wx g 34 ds ∧ Blk wx w.heap.size 28 cs ∧ wx.ownsRow (w.heap.size + 1) 9 1 v xs.length xs ∧ Below w.heap.size w wx
set_option maxRecDepth 100000 in
set_option maxHeartbeats 4000000 in
theorem lineS_of (b : BoxD) (ok : b.Ok) (a : Option Addr) (n c : Nat) (w : World) (hPn : b.pairs.length = n) (hnc : n ≤ c) (hPr : PairsAt w w.heap.size a b.pairs) (hT : Tab w) : Calls Tryd.prog 8 #[.agg #[.int .i64 b.lv, .int .i64 b.ps, .int .i64 b.dp, .string b.t, .string b.g, .bool b.cut, .slice a n c]] w (StrOf (lineS b) 9000 w) := by
  have HLL := Lib.hid (lineS_len ok)
  have HJ := Lib.hid (join_line b)
  obtain ⟨lv, ps, dp, t, g, cut, pairs⟩ := b
  obtain ⟨hl0, hl1, hp0, hp1, hd0, hd1, ht, hg, hn, hok⟩ := ok
  simp only at hl0 hl1 hp0 hp1 hd0 hd1 ht hg hn hok hPn hPr ⊢
  have HPn := Lib.hid hPn
  have HPr := Lib.hid hPr
  have HT0 := Lib.hid hT
  have hn2 : n ≤ 10 := by omega
  clear hPn hPr hT
  obtain ⟨m, hm⟩ : ∃ m, (dp - 1).toNat = m := ⟨_, rfl⟩
  have HMm := Lib.hid hm
  have hm2 : m ≤ 200 := by omega
  have hg3 : g.size ≤ 300 := by omega
  have hmx : Hid (IntKind.i64.wrap (max dp 1 - 1) = (m : Int)) := Lib.hid (by rw [IntWalk.i64_in _ (by omega)]; omega)
  clear hm
  have HBx := Lib.hid (Blk.new w 28 #[.int .i64 lv, .int .i64 ps, .int .i64 dp, .string t, .string g, .bool cut, .slice a n c])
  have HB0 := Lib.hid ((Below.refl w.heap.size w).alloc (Nat.le_refl _) (.cells #[.int .i64 lv, .int .i64 ps, .int .i64 dp, .string t, .string g, .bool cut, .slice a n c] 28))
  have HB0d : Hid (Below w.heap.size w (w.alloc (.cells #[.int .i64 lv, .int .i64 ps, .int .i64 dp, .string t, .string g, .bool cut, .slice a n c] 28)).drew) := Lib.hid HB0.out.drew
  have k0 : (w.alloc (.cells #[.int .i64 lv, .int .i64 ps, .int .i64 dp, .string t, .string g, .bool cut, .slice a n c] 28)).cell? ⟨w.heap.size, 0, none⟩ = some (.int .i64 lv) := HBx.out.cell 0 _ rfl
  have k1 : (w.alloc (.cells #[.int .i64 lv, .int .i64 ps, .int .i64 dp, .string t, .string g, .bool cut, .slice a n c] 28)).cell? ⟨w.heap.size, 1, none⟩ = some (.int .i64 ps) := HBx.out.cell 1 _ rfl
  have k2 : (w.alloc (.cells #[.int .i64 lv, .int .i64 ps, .int .i64 dp, .string t, .string g, .bool cut, .slice a n c] 28)).cell? ⟨w.heap.size, 2, none⟩ = some (.int .i64 dp) := HBx.out.cell 2 _ rfl
  have k3 : (w.alloc (.cells #[.int .i64 lv, .int .i64 ps, .int .i64 dp, .string t, .string g, .bool cut, .slice a n c] 28)).cell? ⟨w.heap.size, 3, none⟩ = some (.string t) := HBx.out.cell 3 _ rfl
  have k4 : (w.alloc (.cells #[.int .i64 lv, .int .i64 ps, .int .i64 dp, .string t, .string g, .bool cut, .slice a n c] 28)).cell? ⟨w.heap.size, 4, none⟩ = some (.string g) := HBx.out.cell 4 _ rfl
  have kz := HBx.out.lt
  have kz2 : w.heap.size < (w.alloc (.cells #[.int .i64 lv, .int .i64 ps, .int .i64 dp, .string t, .string g, .bool cut, .slice a n c] 28)).drew.heap.size := kz
  obtain ⟨i0, hi, hz0, hz1, hz2⟩ := info_parts infoStr
  go_enter Tryd.func8, Tryd.ntmps8
  go_upto_region 1 with fail
  go_cut [3] (fun s3 wx => RelL (headL ⟨lv, ps, dp, t, g, cut, pairs⟩) 4 w #[.int .i64 lv, .int .i64 ps, .int .i64 dp, .string t, .string g, .bool cut, .slice a n c] s3 wx)
  case first =>
    have hmx2 := hmx.out
    go_region_held3 (fun w' => w'.cell? ⟨w.heap.size, 0, none⟩ = some (.int .i64 lv) ∧ w'.cell? ⟨w.heap.size, 1, none⟩ = some (.int .i64 ps) ∧ w'.cell? ⟨w.heap.size, 2, none⟩ = some (.int .i64 dp) ∧ w'.cell? ⟨w.heap.size, 3, none⟩ = some (.string t) ∧ w'.cell? ⟨w.heap.size, 4, none⟩ = some (.string g) ∧ w.heap.size < w'.heap.size ∧ Hid (Blk w' w.heap.size 28 #[.int .i64 lv, .int .i64 ps, .int .i64 dp, .string t, .string g, .bool cut, .slice a n c]) ∧ Hid (Below w.heap.size w w'))
      (first | (refine ⟨?_, ?_, ?_, ?_, ?_, ?_, ?_, ?_⟩ <;> (first | assumption | go_keep)) | (go_split_ands; exact ⟨keepL hB5 (by assumption) (by assumption), keepL hB5 (by assumption) (by assumption), keepL hB5 (by assumption) (by assumption), keepL hB5 (by assumption) (by assumption), keepL hB5 (by assumption) (by assumption), keepZ hB5 (by assumption), Lib.hid (Blk.keep (Hid.out (by assumption)) hB5), Lib.hid ((Hid.out (by assumption) : Below w.heap.size w _).trans (hB5.mono (Nat.le_of_lt (by assumption))))⟩) | (go_split_ands; exact ⟨keepL hB4 (by assumption) (by assumption), keepL hB4 (by assumption) (by assumption), keepL hB4 (by assumption) (by assumption), keepL hB4 (by assumption) (by assumption), keepL hB4 (by assumption) (by assumption), keepZ hB4 (by assumption), Lib.hid (Blk.keep (Hid.out (by assumption)) hB4), Lib.hid ((Hid.out (by assumption) : Below w.heap.size w _).trans (hB4.mono (Nat.le_of_lt (by assumption))))⟩) | (go_split_ands; exact ⟨keepL hB3 (by assumption) (by assumption), keepL hB3 (by assumption) (by assumption), keepL hB3 (by assumption) (by assumption), keepL hB3 (by assumption) (by assumption), keepL hB3 (by assumption) (by assumption), keepZ hB3 (by assumption), Lib.hid (Blk.keep (Hid.out (by assumption)) hB3), Lib.hid ((Hid.out (by assumption) : Below w.heap.size w _).trans (hB3.mono (Nat.le_of_lt (by assumption))))⟩) | (go_split_ands; exact ⟨keepL hB2 (by assumption) (by assumption), keepL hB2 (by assumption) (by assumption), keepL hB2 (by assumption) (by assumption), keepL hB2 (by assumption) (by assumption), keepL hB2 (by assumption) (by assumption), keepZ hB2 (by assumption), Lib.hid (Blk.keep (Hid.out (by assumption)) hB2), Lib.hid ((Hid.out (by assumption) : Below w.heap.size w _).trans (hB2.mono (Nat.le_of_lt (by assumption))))⟩) | (go_split_ands; exact ⟨keepL hB1 (by assumption) (by assumption), keepL hB1 (by assumption) (by assumption), keepL hB1 (by assumption) (by assumption), keepL hB1 (by assumption) (by assumption), keepL hB1 (by assumption) (by assumption), keepZ hB1 (by assumption), Lib.hid (Blk.keep (Hid.out (by assumption)) hB1), Lib.hid ((Hid.out (by assumption) : Below w.heap.size w _).trans (hB1.mono (Nat.le_of_lt (by assumption))))⟩) | (go_split_ands; exact ⟨keepL ((Below.refl _ _).alloc (Nat.le_refl _) _) (by assumption) (by assumption), keepL ((Below.refl _ _).alloc (Nat.le_refl _) _) (by assumption) (by assumption), keepL ((Below.refl _ _).alloc (Nat.le_refl _) _) (by assumption) (by assumption), keepL ((Below.refl _ _).alloc (Nat.le_refl _) _) (by assumption) (by assumption), keepL ((Below.refl _ _).alloc (Nat.le_refl _) _) (by assumption) (by assumption), keepZ ((Below.refl _ _).alloc (Nat.le_refl _) _) (by assumption), Lib.hid (Blk.keep (Hid.out (by assumption)) ((Below.refl _ _).alloc (Nat.le_refl _) _)), Lib.hid ((Hid.out (by assumption) : Below w.heap.size w _).trans (((Below.refl _ _).alloc (Nat.le_refl _) _).mono (Nat.le_of_lt (by assumption))))⟩) | (go_split_ands; exact ⟨keepL ((Below.refl _ _).alloc (Nat.le_refl _) _).drew (by assumption) (by assumption), keepL ((Below.refl _ _).alloc (Nat.le_refl _) _).drew (by assumption) (by assumption), keepL ((Below.refl _ _).alloc (Nat.le_refl _) _).drew (by assumption) (by assumption), keepL ((Below.refl _ _).alloc (Nat.le_refl _) _).drew (by assumption) (by assumption), keepL ((Below.refl _ _).alloc (Nat.le_refl _) _).drew (by assumption) (by assumption), keepZ ((Below.refl _ _).alloc (Nat.le_refl _) _).drew (by assumption), Lib.hid (Blk.keep (Hid.out (by assumption)) ((Below.refl _ _).alloc (Nat.le_refl _) _).drew), Lib.hid ((Hid.out (by assumption) : Below w.heap.size w _).trans (((Below.refl _ _).alloc (Nat.le_refl _) _).drew.mono (Nat.le_of_lt (by assumption))))⟩))
      (first
        | (go_at_call 16; refine (repeat_of m _ hm2).mono ?_; rintro e W1 ⟨D1, HD1, zD1, rfl, hB1⟩)
        | (go_at_call 17; refine (itoa_of lv _ hl0 hl1 ?_).mono ?_; (go_split_ands; exact HT0.out.keep (Hid.out (by assumption))); rintro e W2 ⟨D2, HD2, zD2, rfl, hB2⟩; have s2_0 := addB D1 D2 (Nat.le_trans (Nat.add_le_add zD1 zD2) (by decide)))
        | (go_at_call 18; refine (pseudo_of ps _ hp0 hp1 ?_).mono ?_; (go_split_ands; exact HT0.out.keep (Hid.out (by assumption))); rintro e W3 ⟨D3, HD3, zD3, rfl, hB3⟩)
        | (go_at_call_of 19 (Value.string g); refine (quotedS_of g _ hg3).mono ?_; rintro e W4 ⟨D4, HD4, zD4, rfl, hB4⟩)
        | (go_at_call_of 19 (Value.string t); refine (quotedS_of t _ ht).mono ?_; rintro e W5 ⟨D5, HD5, zD5, rfl, hB5⟩))
    all_goals (go_wp2_with fail)
    all_goals (go_meet)
    all_goals (rename_i hS; obtain ⟨-, -, -, -, -, -, hK, hL⟩ := hS)
    all_goals (refine ⟨[D1 ++ D2, D3, D4, D5], Lib.hid (by rw [HD1.out, HD2.out, HD3.out, HD4.out, HD5.out, ByteArray.mk_append_mk]; simp [headL, headS, HMm.out]), Nat.le_refl 4, Nat.le_refl 4, ?_, hK.out, hL.out⟩)
    all_goals (
      have z1 : (w.alloc (.cells #[.int .i64 lv, .int .i64 ps, .int .i64 dp, .string t, .string g, .bool cut, .slice a n c] 28)).drew.heap.size ≤ W1.heap.size := hB1.size
      have z2 : W1.heap.size ≤ W2.heap.size := hB2.size
      have z3 : W2.heap.size ≤ W3.heap.size := hB3.size
      have z4 : W3.heap.size ≤ W4.heap.size := hB4.size
      have z5 : W4.heap.size ≤ W5.heap.size := hB5.size
      clear hmx2
      have z6 : w.heap.size + 1 ≤ W5.heap.size := Nat.le_trans kz2 (Nat.le_trans z1 (Nat.le_trans z2 (Nat.le_trans z3 (Nat.le_trans z4 z5))))
      exact World.ownsRow_lit W5 #[.string (D1 ++ D2), .string D3, .string D4, .string D5] 4 z6 (by decide) rfl)
  case rest =>
    clear k0 k1 k2 k3 k4 kz kz2 HBx HB0 HB0d hmx
    obtain ⟨ds, HDS, hds4, hdsm, hown, hBx, hB⟩ := hcut
    have zb := hBx.lt
    have k5 : wc.cell? ⟨w.heap.size, 5, none⟩ = some (.bool cut) := hBx.cell 5 _ rfl
    have HBx := Lib.hid hBx
    have HB := Lib.hid hB
    clear hBx hB
    go_upto_if 27 with fail
    go_cut [3] (fun s3 wx => RelL (headL ⟨lv, ps, dp, t, g, cut, pairs⟩ ++ cutL cut) 5 w #[.int .i64 lv, .int .i64 ps, .int .i64 dp, .string t, .string g, .bool cut, .slice a n c] s3 wx)
    case first =>
      cases cut with
      | false =>
        go_wp2_with fail
        go_meet
        exact ⟨ds, Lib.hid (by rw [HDS.out]; simp [cutL]), hds4, by omega, hown, HBx.out, HB.out⟩
      | true =>
        have hownA := hown.alloc (.cells #[.string ⟨#[99, 117, 116]⟩] 9)
        have HOA := Lib.hid hownA
        have HBxA := Lib.hid (HBx.out.alloc (.cells #[.string ⟨#[99, 117, 116]⟩] 9))
        have HBA := Lib.hid (HB.out.alloc HB.out.size (.cells #[.string ⟨#[99, 117, 116]⟩] 9))
        have hzA : w.heap.size + 1 ≤ (wc.alloc (.cells #[.string ⟨#[99, 117, 116]⟩] 9)).heap.size := HBxA.out.lt
        clear hownA hown
        go_wp2_with (at_builtin; refine wpList_append_own _ rfl _ _ 39 rfl (w.heap.size + 1) 9 i0 (.string ⟨#[]⟩) 1 16 Tryd.underlying39 hi hz0 hz1 hz2 rfl (by decide) _ _ _ rfl HOA.out ⟨wc.heap.size, 0, none⟩ 1 1 [.string ⟨#[99, 117, 116]⟩] rfl rfl (news_alloc [.string ⟨#[99, 117, 116]⟩] wc 9) (by simp [Value.oneCell']) ?c3 ?c4 hzA ?_)
        case c3 => unfold maxLen; omega
        case c4 => omega
        intro v' w2 hown' hgrow _
        have HO' := Lib.hid hown'
        have HBx2 := Lib.hid (blk_grown HOA.out hgrow HBxA.out (Nat.lt_succ_self _))
        have HB2 := Lib.hid (below_grown HOA.out hgrow HBA.out (Nat.le_succ _))
        clear hown' hgrow
        go_wp2_with fail
        go_meet
        exact ⟨ds ++ [⟨#[99, 117, 116]⟩], Lib.hid (by rw [List.map_append, HDS.out]; rfl), by simp; omega, by simp; omega, by simpa using HO'.out, HBx2.out, HB2.out⟩
    case rest =>
      clear k5 hown
      obtain ⟨ds, HDS, hds4, hdsm, hown, hBx, hB⟩ := hcut
      have HO := Lib.hid hown
      have k6 : wc.cell? ⟨w.heap.size, 6, none⟩ = some (.slice a n c) := hBx.cell 6 _ rfl
      have HBx2 := Lib.hid hBx
      have HB2 := Lib.hid hB
      clear hBx hB hown
      go_wp2_with fail
      clear k6
      go_loopg [3, 34] n (fun gg s3 s34 wx => RelLP n (headL ⟨lv, ps, dp, t, g, cut, pairs⟩ ++ cutL cut) pairs w #[.int .i64 lv, .int .i64 ps, .int .i64 dp, .string t, .string g, .bool cut, .slice a n c] gg s3 s34 wx)
      case atStart => exact ⟨0, Nat.zero_le _, rfl, rfl, ds, Lib.hid (by rw [HDS.out]; simp), hds4, hdsm, HO.out, HBx2.out, HB2.out⟩
      case round =>
        clear HDS hds4 hdsm HO HBx2 HB2
        obtain ⟨k, hk, rfl, rfl, es, HES, hes4, hesm, hown, hBx, hB⟩ := hrel
        have HO := Lib.hid hown
        have HBx := Lib.hid hBx
        have HB := Lib.hid hB
        have zr := hBx.lt
        clear hBx hB hown
        by_cases hlt : k < n
        · obtain ⟨p, hp⟩ : ∃ p, pairs[k]? = some p := ⟨pairs[k]'(by have := HPn.out; omega), List.getElem?_eq_getElem _⟩
          obtain ⟨ad, rfl, had, c0, c1, c2, c3⟩ := HPr.out k p hp
          have d0 : wr.cell? (ad.add (k * 4)) = some (.string p.nm) := by rw [HB.out.cell (by rw [block_of_add]; exact had)]; exact c0
          have d1 : wr.cell? ⟨(ad.add (k * 4)).block, (ad.add (k * 4)).off + 1, none⟩ = some (.int .i64 p.n) := by rw [← add_off ad (k * 4) 1 (by decide), HB.out.cell (by rw [block_of_add]; exact had)]; exact c1
          have d2 : wr.cell? ⟨(ad.add (k * 4)).block, (ad.add (k * 4)).off + 2, none⟩ = some (.bool p.rev) := by rw [← add_off ad (k * 4) 2 (by decide), HB.out.cell (by rw [block_of_add]; exact had)]; exact c2
          have d3 : wr.cell? ⟨(ad.add (k * 4)).block, (ad.add (k * 4)).off + 3, none⟩ = some (.bool p.auto) := by rw [← add_off ad (k * 4) 3 (by decide), HB.out.cell (by rw [block_of_add]; exact had)]; exact c3
          have HP := Lib.hid hp
          clear hp c0 c1 c2 c3
          go_wp2_with fail
          have hpk := hok p (List.mem_of_getElem? HP.out)
          have pn : p.nm.size ≤ 300 := by have := hpk.nm; omega
          have pn2 : p.nm.size ≤ 100 := hpk.nm
          have p0 := hpk.n0
          have p1 := hpk.n1
          have HC := Lib.hid (Blk.new wr 34 #[.string p.nm, .int .i64 p.n, .bool p.rev, .bool p.auto])
          have HBn := Lib.hid (HBx.out.alloc (.cells #[.string p.nm, .int .i64 p.n, .bool p.rev, .bool p.auto] 34))
          have HBw := Lib.hid (HB.out.alloc HB.out.size (.cells #[.string p.nm, .int .i64 p.n, .bool p.rev, .bool p.auto] 34))
          have HBd := Lib.hid (HB.out.alloc HB.out.size (.cells #[.string p.nm, .int .i64 p.n, .bool p.rev, .bool p.auto] 34)).drew
          have HOn := Lib.hid (HO.out.alloc (.cells #[.string p.nm, .int .i64 p.n, .bool p.rev, .bool p.auto] 34))
          have HOd : Hid ((wr.alloc (.cells #[.string p.nm, .int .i64 p.n, .bool p.rev, .bool p.auto] 34)).drew.ownsRow (w.heap.size + 1) 9 1 u3 es.length (es.map Value.string)) := Lib.hid HOn.out
          have e0 : (wr.alloc (.cells #[.string p.nm, .int .i64 p.n, .bool p.rev, .bool p.auto] 34)).cell? ⟨wr.heap.size, 0, none⟩ = some (.string p.nm) := HC.out.cell 0 _ rfl
          have e1 : (wr.alloc (.cells #[.string p.nm, .int .i64 p.n, .bool p.rev, .bool p.auto] 34)).cell? ⟨wr.heap.size, 1, none⟩ = some (.int .i64 p.n) := HC.out.cell 1 _ rfl
          have ez : wr.heap.size < (wr.alloc (.cells #[.string p.nm, .int .i64 p.n, .bool p.rev, .bool p.auto] 34)).heap.size := HC.out.lt
          have ez2 : w.heap.size < (wr.alloc (.cells #[.string p.nm, .int .i64 p.n, .bool p.rev, .bool p.auto] 34)).heap.size := HBn.out.lt
          clear d0 d1 d2 d3
          go_cut [5, 6] (fun s5 s6 wx => RelQ (91 :: (qS p.nm.data.toList ++ (32 :: decI p.n))) 480 w #[.int .i64 lv, .int .i64 ps, .int .i64 dp, .string t, .string g, .bool cut, .slice (some ad) n c] u3 (es.map Value.string) wr.heap.size #[.string p.nm, .int .i64 p.n, .bool p.rev, .bool p.auto] s5 s6 wx)
          case first =>
            go_region_held3 (fun w' => w'.cell? ⟨wr.heap.size, 0, none⟩ = some (.string p.nm) ∧ w'.cell? ⟨wr.heap.size, 1, none⟩ = some (.int .i64 p.n) ∧ w.heap.size < w'.heap.size ∧ Hid (Blk w' w.heap.size 28 #[.int .i64 lv, .int .i64 ps, .int .i64 dp, .string t, .string g, .bool cut, .slice (some ad) n c]) ∧ Hid (Below w.heap.size w w') ∧ wr.heap.size < w'.heap.size ∧ Hid (Blk w' wr.heap.size 34 #[.string p.nm, .int .i64 p.n, .bool p.rev, .bool p.auto]) ∧ Hid (w'.ownsRow (w.heap.size + 1) 9 1 u3 es.length (es.map Value.string)))
              (first | (refine ⟨?_, ?_, ?_, ?_, ?_, ?_, ?_, ?_⟩ <;> (first | assumption | go_keep)) | (go_split_ands; exact ⟨keepL hB2 (by assumption) (by assumption), keepL hB2 (by assumption) (by assumption), keepZ hB2 (by assumption), Lib.hid (Blk.keep (Hid.out (by assumption)) hB2), Lib.hid ((Hid.out (by assumption) : Below w.heap.size w _).trans (hB2.mono (Nat.le_of_lt (by assumption)))), keepZ hB2 (by assumption), Lib.hid (Blk.keep (Hid.out (by assumption)) hB2), Lib.hid (own_below (Hid.out (by assumption)) hB2)⟩) | (go_split_ands; exact ⟨keepL hB3 (by assumption) (by assumption), keepL hB3 (by assumption) (by assumption), keepZ hB3 (by assumption), Lib.hid (Blk.keep (Hid.out (by assumption)) hB3), Lib.hid ((Hid.out (by assumption) : Below w.heap.size w _).trans (hB3.mono (Nat.le_of_lt (by assumption)))), keepZ hB3 (by assumption), Lib.hid (Blk.keep (Hid.out (by assumption)) hB3), Lib.hid (own_below (Hid.out (by assumption)) hB3)⟩))
              (first
                | (go_at_call 17; refine (itoa_of p.n _ p0 p1 ?_).mono ?_; (go_split_ands; exact HT0.out.keep (Hid.out (by assumption))); rintro e W2 ⟨D2, HD2, zD2, rfl, hB2⟩; have s2_0 := addB (⟨#[91]⟩ ++ D3 ++ ⟨#[32]⟩) (D2) (by first | omega | (simp only [ByteArray.size_append', ByteArray.size_mk', List.size_toArray, List.length_cons, List.length_nil]; omega)))
                | (go_at_call 19; refine (quotedS_of p.nm _ pn).mono ?_; rintro e W3 ⟨D3, HD3, zD3, rfl, hB3⟩; have s3_0 := addB (⟨#[91]⟩) (D3) (by first | omega | (simp only [ByteArray.size_mk', List.size_toArray, List.length_cons, List.length_nil]; omega)); have s3_1 := addB (⟨#[91]⟩ ++ D3) (⟨#[32]⟩) (by first | omega | (simp only [ByteArray.size_append', ByteArray.size_mk', List.size_toArray, List.length_cons, List.length_nil]; omega))))
            all_goals (go_wp2_with fail)
            all_goals (go_meet)
            all_goals (rename_i hS; obtain ⟨-, -, -, hK2, hL, -, hK, hO⟩ := hS)
            all_goals (refine ⟨_, Lib.hid ((cat_l (cat_l (cat_l (lit_l [91]) HD3.out) (lit_l [32])) HD2.out).trans (by congr 1; simp)), ?_, rfl, rfl, hK.out, hK2.out, by simpa using hO.out, hL.out⟩)
            all_goals (simp only [ByteArray.size_append', ByteArray.size_mk', List.size_toArray, List.length_cons, List.length_nil]; omega)
          case rest =>
            obtain ⟨F, HF, zF, rfl, rfl, hC, hBx, hown, hB⟩ := hcut
            have f2 : wc.cell? ⟨wr.heap.size, 2, none⟩ = some (.bool p.rev) := hC.cell 2 _ rfl
            have HK := Lib.hid hBx
            have HL := Lib.hid hB
            have HO2 : Hid (wc.ownsRow (w.heap.size + 1) 9 1 u3 es.length (es.map Value.string)) := Lib.hid (by simpa using hown)
            have HT : Hid (pairs.take (k + 1) = pairs.take k ++ [p]) := Lib.hid (by rw [List.take_add_one, HP.out]; rfl)
            clear hC hBx hB hown HC HBn HBw HBd HOn HOd e0 e1 ez ez2 HO HBx HB
            obtain ⟨q, hq⟩ : ∃ q, p.rev = q := ⟨_, rfl⟩
            rw [hq] at f2
            have HR := Lib.hid hq
            clear hq
            cases q with
            | true =>
              have HOA := Lib.hid (HO2.out.alloc (.cells #[.string (F ++ ⟨#[32, 114, 101, 118]⟩ ++ ⟨#[93]⟩)] 9))
              have HBxA := Lib.hid (HK.out.alloc (.cells #[.string (F ++ ⟨#[32, 114, 101, 118]⟩ ++ ⟨#[93]⟩)] 9))
              have HBA := Lib.hid (HL.out.alloc HL.out.size (.cells #[.string (F ++ ⟨#[32, 114, 101, 118]⟩ ++ ⟨#[93]⟩)] 9))
              have hzA : w.heap.size + 1 ≤ (wc.alloc (.cells #[.string (F ++ ⟨#[32, 114, 101, 118]⟩ ++ ⟨#[93]⟩)] 9)).heap.size := HBxA.out.lt
              go_wp2_with (at_builtin; refine wpList_append_own _ rfl _ _ 39 rfl (w.heap.size + 1) 9 i0 (.string ⟨#[]⟩) 1 16 Tryd.underlying39 hi hz0 hz1 hz2 rfl (by decide) _ _ _ rfl HOA.out ⟨wc.heap.size, 0, none⟩ 1 1 [.string (F ++ ⟨#[32, 114, 101, 118]⟩ ++ ⟨#[93]⟩)] rfl rfl (news_alloc [.string (F ++ ⟨#[32, 114, 101, 118]⟩ ++ ⟨#[93]⟩)] wc 9) (by simp [Value.oneCell']) ?c3true ?c4true hzA ?_)
              case c3true => unfold maxLen; omega
              case c4true => omega
              intro v' w2 hown' hgrow _
              have HO' := Lib.hid hown'
              have HBx2 := Lib.hid (blk_grown HOA.out hgrow HBxA.out (Nat.lt_succ_self _))
              have HB2 := Lib.hid (below_grown HOA.out hgrow HBA.out (Nat.le_succ _))
              clear hown' hgrow
              go_wp2_with fail
              go_roundg (n - (k + 1))
              case measure => omega
              case rel => exact ⟨k + 1, by omega, rfl, by go_num, es ++ [F ++ ⟨#[32, 114, 101, 118]⟩ ++ ⟨#[93]⟩], Lib.hid (by rw [List.map_append, HES.out, HT.out, HF.out]; simp [pairS, revS, HR.out, ByteArray.mk_append_mk]), by simp; omega, by simp; omega, by simpa using HO'.out, HBx2.out, HB2.out⟩
            | false =>
              have HOA := Lib.hid (HO2.out.alloc (.cells #[.string (F ++ ⟨#[93]⟩)] 9))
              have HBxA := Lib.hid (HK.out.alloc (.cells #[.string (F ++ ⟨#[93]⟩)] 9))
              have HBA := Lib.hid (HL.out.alloc HL.out.size (.cells #[.string (F ++ ⟨#[93]⟩)] 9))
              have hzA : w.heap.size + 1 ≤ (wc.alloc (.cells #[.string (F ++ ⟨#[93]⟩)] 9)).heap.size := HBxA.out.lt
              go_wp2_with (at_builtin; refine wpList_append_own _ rfl _ _ 39 rfl (w.heap.size + 1) 9 i0 (.string ⟨#[]⟩) 1 16 Tryd.underlying39 hi hz0 hz1 hz2 rfl (by decide) _ _ _ rfl HOA.out ⟨wc.heap.size, 0, none⟩ 1 1 [.string (F ++ ⟨#[93]⟩)] rfl rfl (news_alloc [.string (F ++ ⟨#[93]⟩)] wc 9) (by simp [Value.oneCell']) ?c3false ?c4false hzA ?_)
              case c3false => unfold maxLen; omega
              case c4false => omega
              intro v' w2 hown' hgrow _
              have HO' := Lib.hid hown'
              have HBx2 := Lib.hid (blk_grown HOA.out hgrow HBxA.out (Nat.lt_succ_self _))
              have HB2 := Lib.hid (below_grown HOA.out hgrow HBA.out (Nat.le_succ _))
              clear hown' hgrow
              go_wp2_with fail
              go_roundg (n - (k + 1))
              case measure => omega
              case rel => exact ⟨k + 1, by omega, rfl, by go_num, es ++ [F ++ ⟨#[93]⟩], Lib.hid (by rw [List.map_append, HES.out, HT.out, HF.out]; simp [pairS, revS, HR.out, ByteArray.mk_append_mk]), by simp; omega, by simp; omega, by simpa using HO'.out, HBx2.out, HB2.out⟩
        · obtain rfl : k = n := by omega
          have hlen : Hid ((Lib.join (es.map (·.data.toList)) [32]) = lineS ⟨lv, ps, dp, t, g, cut, pairs⟩) := Lib.hid (by rw [HES.out, List.take_of_length_le (by have := HPn.out; omega)]; exact HJ.out)
          obtain ⟨gg, cap, rfl, hcap, hglt⟩ := own_form HO.out (by omega)
          have hcells := World.ownsRow.cells HO.out (g := gg) rfl
          have hJ := Tryd.strings_Join gg 0 cap es ⟨#[32]⟩ wr (by
            intro j x hj
            have := hcells j (.string x) (by simp [hj])
            unfold Addr.add at this
            by_cases h0 : j = 0
            · subst h0; simpa using this
            · rw [if_neg h0] at this; simpa using this) hglt (by omega) hcap (by rw [show (⟨#[32]⟩ : ByteArray).data.toList = [32] from rfl, hlen.out]; have := HLL.out; omega)
          rw [show (⟨#[32]⟩ : ByteArray).data.toList = [32] from rfl, hlen.out] at hJ
          have HJJ := Lib.hid hJ
          clear hcells hJ
          go_wp2_with (go_at_call 20; refine HJJ.out.mono ?_; rintro e W2 ⟨rfl, hB2⟩)
          go_ret
          exact ⟨_, Lib.hid rfl, by have := HLL.out; simp [ByteArray.size]; omega, rfl, HB.out.trans (hB2.mono HB.out.size)⟩
end Go.Proofs.YtfobenohimepaaaDoor.Num
