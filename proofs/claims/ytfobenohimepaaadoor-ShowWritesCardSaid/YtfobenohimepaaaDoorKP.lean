/- fleuronref15.Line of any box. -/
import Derived.Test.YtfobenohimepaaaDoorKM
import Derived.Test.YtfobenohimepaaaDoorKT
import Derived.Test.YtfobenohimepaaaDoorKO
import Derived.Deep.RegionHeld3
import Derived.Deep.DrawnRows
namespace Go.Proofs.YtfobenohimepaaaDoor.Num
open Go Go.RowKit
attribute [local go_sem ↓] Go.wp_at_zero Go.wp_at_succ
def StrOf (l : List UInt8) (m : Nat) (w : World) (e : Ending) (w' : World) : Prop := ∃ D : ByteArray, Hid (D = ⟨l.toArray⟩) ∧ D.size ≤ m ∧ e = .returned (.string D) ∧ Below w.heap.size w w'
theorem strOf {f : Nat} {args : Array Value} {w : World} {l : List UInt8} {m : Nat} (h : Calls Tryd.prog f args w fun e w' => e = .returned (.string ⟨l.toArray⟩) ∧ Below w.heap.size w w') (hm : l.length ≤ m) : Calls Tryd.prog f args w (StrOf l m w) :=
  h.mono fun e w' ⟨h1, h2⟩ => ⟨_, Lib.hid rfl, by simpa [ByteArray.size] using hm, h1, h2⟩
theorem dec_any (n : Int) (w : World) (h0 : -9223372036854775808 ≤ n) (h1 : n ≤ 9223372036854775807) : Calls Tryd.prog 21 #[.int .i64 n] w (StrOf (decI n) 20 w) := by
  refine strOf ?_ (decI_len n h0 h1)
  unfold decI
  by_cases h : 0 ≤ n
  · rw [if_pos h]
    have := dec_nat n.toNat w (by omega)
    rwa [show ((n.toNat : Nat) : Int) = n from by omega] at this
  · rw [if_neg h]
    have := dec_neg (-n).toNat w (by omega) (by omega)
    rwa [show -(((-n).toNat : Nat) : Int) = n from by omega] at this
theorem quotedR_of (s : ByteArray) (w : World) (hs : s.size ≤ 300) : Calls Tryd.prog 23 #[.string s] w (StrOf (qS s.data.toList) (4 * s.size + 2) w) :=
  strOf (quotedR_any s w (by omega)) (by have := qS_len s.data.toList; have h2 : s.data.toList.length = s.size := by simp
                                         omega)
theorem keepL {W W' : World} (hb : Below W.heap.size W W') {b i : Nat} {v : Value} (hz : b < W.heap.size) (h : W.cell? ⟨b, i, none⟩ = some v) : W'.cell? ⟨b, i, none⟩ = some v := by rw [hb.cell (p := ⟨b, i, none⟩) hz]; exact h
theorem keepZ {W W' : World} (hb : Below W.heap.size W W') {b : Nat} (hz : b < W.heap.size) : b < W'.heap.size := Nat.lt_of_lt_of_le hz hb.size
theorem block_of_add (a : Addr) (n : Nat) : (a.add n).block = a.block := by unfold Addr.add; split <;> rfl
theorem add_off (a : Addr) (i j : Nat) (hj : 0 < j) : a.add (i + j) = ⟨(a.add i).block, (a.add i).off + j, none⟩ := by
  unfold Addr.add
  by_cases hi : i = 0
  · subst hi; simp; omega
  · rw [if_neg (by omega), if_neg hi]; simp; omega
def Blk (w : World) (g : Nat) (t : TypeId) (cs : Array Value) : Prop := w.heap[g]? = some (.cells cs t (0, 0))
theorem Blk.lt {w : World} {g : Nat} {t : TypeId} {cs : Array Value} (h : Blk w g t cs) : g < w.heap.size := by
  rcases Nat.lt_or_ge g w.heap.size with h' | h'
  · exact h'
  · unfold Blk at h; rw [Array.getElem?_eq_none h'] at h; cases h
theorem Blk.below {w w' : World} {g B : Nat} {t : TypeId} {cs : Array Value} (h : Blk w g t cs) (hb : Below B w w') (hg : g < B) : Blk w' g t cs := by
  unfold Blk; rw [hb.block g hg]; exact h
theorem Blk.keep {w w' : World} {g : Nat} {t : TypeId} {cs : Array Value} (h : Blk w g t cs) (hb : Below w.heap.size w w') : Blk w' g t cs := h.below hb h.lt
theorem Blk.new (w : World) (t : TypeId) (cs : Array Value) : Blk (w.alloc (.cells cs t)) w.heap.size t cs := by unfold Blk World.alloc; exact Array.getElem?_push_size
theorem Blk.cell {w : World} {g : Nat} {t : TypeId} {cs : Array Value} (h : Blk w g t cs) (i : Nat) (v : Value) (hv : cs[i]? = some v) : w.cell? ⟨g, i, none⟩ = some v := by
  rw [Lib.cell_of_heap h]; exact hv
abbrev boxV (lv ps dp : Int) (t g : ByteArray) (cut : Bool) (a : Option Addr) (n c : Nat) : Array Value := #[.int .i64 lv, .int .i64 ps, .int .i64 dp, .string t, .string g, .bool cut, .slice a n c]
theorem addB (a b : ByteArray) (h : a.size + b.size ≤ 100000) (w : World) : (Op.stringOp .add a b).run Tryd.prog w = .ok (.string (a ++ b)) w := run_string_add_sum w a b (by omega)
def PairsAt (w : World) (B : Nat) (a : Option Addr) (l : List PairD) : Prop := ∀ (k : Nat) (p : PairD), l[k]? = some p → ∃ ad : Addr, a = some ad ∧ ad.block < B ∧ w.cell? (ad.add (k * 4)) = some (.string p.nm) ∧ w.cell? (ad.add (k * 4 + 1)) = some (.int .i64 p.n) ∧ w.cell? (ad.add (k * 4 + 2)) = some (.bool p.rev) ∧ w.cell? (ad.add (k * 4 + 3)) = some (.bool p.auto)
def RelM (l : List UInt8) (m : Nat) (w : World) (cs : Array Value) (s3 : Value) (wx : World) : Prop :=
  ∃ D : ByteArray, Hid (D = ⟨l.toArray⟩) ∧ D.size ≤ m ∧ s3 = .string D ∧ Blk wx w.heap.size 28 cs ∧ Below w.heap.size w wx
theorem Blk.alloc {w : World} {g : Nat} {t : TypeId} {cs : Array Value} (h : Blk w g t cs) (o : Obj) : Blk (w.alloc o) g t cs := h.keep ((Below.refl _ _).alloc (Nat.le_refl _) o)
theorem cat_l {A B : ByteArray} {x y : List UInt8} (h : A = ⟨x.toArray⟩) (k : B = ⟨y.toArray⟩) : A ++ B = ⟨(x ++ y).toArray⟩ := by rw [h, k, ByteArray.mk_append_mk]
theorem lit_l (x : List UInt8) : (⟨x.toArray⟩ : ByteArray) = ⟨x.toArray⟩ := rfl
def RelC (l : List UInt8) (m : Nat) (w : World) (cs : Array Value) (g : Nat) (ds : Array Value) (s3 s7 : Value) (wx : World) : Prop :=
  ∃ D : ByteArray, Hid (D = ⟨l.toArray⟩) ∧ D.size ≤ m ∧ s3 = .string D ∧ s7 = .pointer (some ⟨g, 0, none⟩) ∧ Blk wx g 34 ds ∧ Blk wx w.heap.size 28 cs ∧ Below w.heap.size w wx
def RelP (n : Nat) (l : List UInt8) (pairs : List PairD) (w : World) (cs : Array Value) (gg : Nat) (s3 s6 : Value) (wx : World) : Prop :=
  ∃ k : Nat, k ≤ n ∧ gg = n - k ∧ s6 = .int .i64 k ∧ ∃ D : ByteArray, Hid (D = ⟨(l ++ pairsS (pairs.take k)).toArray⟩) ∧ D.size ≤ 3200 + 500 * k ∧ s3 = .string D ∧ Blk wx w.heap.size 28 cs ∧ Below w.heap.size w wx
def Rel9 (A : ByteArray) (l : List UInt8) (w : World) (cs : Array Value) (s3 s5 : Value) (wx : World) : Prop :=
  s3 = .string A ∧ ∃ D : ByteArray, Hid (D = ⟨l.toArray⟩) ∧ D.size ≤ 20 ∧ s5 = .string D ∧ Blk wx w.heap.size 28 cs ∧ Below w.heap.size w wx
set_option maxRecDepth 100000 in
set_option maxHeartbeats 4000000 in
theorem lineR (b : BoxD) (ok : b.Ok) (a : Option Addr) (n c : Nat) (w : World) (hPn : b.pairs.length = n) (hPr : PairsAt w w.heap.size a b.pairs) : Calls Tryd.prog 9 #[.agg #[.int .i64 b.lv, .int .i64 b.ps, .int .i64 b.dp, .string b.t, .string b.g, .bool b.cut, .slice a n c]] w (StrOf (lineS b) 9000 w) := by
  obtain ⟨lv, ps, dp, t, g, cut, pairs⟩ := b
  obtain ⟨hl0, hl1, hp0, hp1, hd0, hd1, ht, hg, hn, hok⟩ := ok
  simp only at hl0 hl1 hp0 hp1 hd0 hd1 ht hg hn hok hPn hPr ⊢
  have HPn := Lib.hid hPn
  have HPr := Lib.hid hPr
  have hn2 : n ≤ 10 := by omega
  clear hPn hPr
  obtain ⟨m, HMm⟩ : ∃ m, Hid ((dp - 1).toNat = m) := ⟨_, Lib.hid rfl⟩
  have hm : m ≤ 200 := by have := HMm.out; omega
  have zA : (ByteArray.mk (ind m).toArray).size ≤ 400 := by
    have := ind_len m
    show (ind m).toArray.size ≤ 400
    rw [List.size_toArray]; omega
  go_enter Tryd.func9, Tryd.ntmps9
  go_upto_block 0 with fail
  go_cut [3, 4] (fun s3 _ wx => s3 = .string ⟨(ind m).toArray⟩ ∧ wx = w.alloc (.cells #[.int .i64 lv, .int .i64 ps, .int .i64 dp, .string t, .string g, .bool cut, .slice a n c] 28))
  case first =>
    have hm2 : Hid (1 ≤ dp → dp = (m : Int) + 1) := Lib.hid (by have := HMm.out; omega)
    have hm3 : Hid (dp < 1 → m = 0) := Lib.hid (by have := HMm.out; omega)
    go_wp2_with fail
    go_loopg [3, 4] m (fun gg s3 s4 wx => wx = w.alloc (.cells #[.int .i64 lv, .int .i64 ps, .int .i64 dp, .string t, .string g, .bool cut, .slice a n c] 28) ∧ ∃ k : Nat, k ≤ m ∧ gg = m - k ∧ s4 = .int .i64 ((k : Int) + 1) ∧ s3 = .string ⟨(ind k).toArray⟩)
    case atStart => exact ⟨rfl, 0, Nat.zero_le _, rfl, rfl, rfl⟩
    case round =>
      obtain ⟨rfl, k, hk, rfl, rfl, rfl⟩ := hrel
      by_cases hlt : k < m
      · have a1 := add_l (ind k) [32, 32] (by simp [ind]; omega)
        rw [← ind_snoc] at a1
        have HD : Hid (k + 1 ≤ m) := Lib.hid (by omega)
        obtain ⟨A, hA⟩ : ∃ A : ByteArray, ⟨(ind k).toArray⟩ = A := ⟨_, rfl⟩
        obtain ⟨A1, hA1⟩ : ∃ A : ByteArray, ⟨(ind (k + 1)).toArray⟩ = A := ⟨_, rfl⟩
        rw [hA, hA1] at a1
        rw [hA]
        have HA := Lib.hid hA1
        clear hA hA1 hk
        have hlt2 : (k : Int) + 1 < dp := by
          have h2 := hm2.out; have h3 := hm3.out
          by_cases h1 : 1 ≤ dp
          · have := h2 h1; omega
          · have := h3 (by omega); omega
        go_wp2
        go_roundg (m - (k + 1))
        case measure => omega
        case rel => exact ⟨rfl, k + 1, HD.out, rfl, by go_num, by rw [HA.out]⟩
      · obtain rfl : k = m := by omega
        have hlt2 : ¬ (k : Int) + 1 < dp := by
          have h2 := hm2.out
          by_cases h1 : 1 ≤ dp
          · have := h2 h1; omega
          · omega
        obtain ⟨A, hA⟩ : ∃ A : ByteArray, ⟨(ind k).toArray⟩ = A := ⟨_, rfl⟩
        rw [hA]
        have HA := Lib.hid hA
        clear hA
        go_wp2
        go_meet
        exact ⟨by rw [HA.out], rfl⟩
  case rest =>
    obtain ⟨rfl, rfl⟩ := hcut
    obtain ⟨A, hA⟩ : ∃ A : ByteArray, ⟨(ind m).toArray⟩ = A := ⟨_, rfl⟩
    rw [hA] at zA ⊢
    have HA := Lib.hid hA
    clear hA
    have HBx := Lib.hid (Blk.new w 28 #[.int .i64 lv, .int .i64 ps, .int .i64 dp, .string t, .string g, .bool cut, .slice a n c])
    have HB0 := Lib.hid ((Below.refl w.heap.size w).alloc (Nat.le_refl _) (.cells #[.int .i64 lv, .int .i64 ps, .int .i64 dp, .string t, .string g, .bool cut, .slice a n c] 28))
    go_upto_region 7 with (go_at_call 21; refine (dec_any ps _ hp0 hp1).mono ?_; rintro e W1 ⟨D1, HD1, zD1, rfl, hB1⟩)
    have HBx1 := Lib.hid (HBx.out.keep hB1)
    have HB1 := Lib.hid (HB0.out.trans (hB1.mono HB0.out.size))
    clear hB1 HBx HB0
    go_cut [3, 5, 26] (fun s3 s5 s26 wx => s3 = .string A ∧ s5 = .string D1 ∧ s26 = .bool (decide (0 ≤ ps ∧ ps ≤ 5)) ∧ wx = W1)
    case first =>
      have k1 : W1.cell? ⟨w.heap.size, 1, none⟩ = some (.int .i64 ps) := HBx1.out.cell 1 _ rfl
      by_cases h0 : 0 ≤ ps
      · by_cases h6 : ps ≤ 5
        · go_wp2_with fail
          go_meet
          exact ⟨rfl, rfl, by rw [decide_eq_true ⟨h0, h6⟩], rfl⟩
        · go_wp2_with fail
          go_meet
          exact ⟨rfl, rfl, by rw [decide_eq_false (by omega)], rfl⟩
      · go_wp2_with fail
        go_meet
        exact ⟨rfl, rfl, by rw [decide_eq_false (by omega)], rfl⟩
    case rest =>
    obtain ⟨rfl, rfl, rfl, rfl⟩ := hcut
    obtain ⟨q, hq⟩ : ∃ q : Bool, decide (0 ≤ ps ∧ ps ≤ 5) = q := ⟨_, rfl⟩
    rw [hq]
    have HQ := Lib.hid hq
    clear hq
    go_upto_if 26 with fail
    go_cut [3, 5] (fun s3 s5 wx => Rel9 A (psS ps) w #[.int .i64 lv, .int .i64 ps, .int .i64 dp, .string t, .string g, .bool cut, .slice a n c] s3 s5 wx)
    case first =>
      cases q with
      | false =>
        have Hp : Hid (psS ps = decI ps) := Lib.hid (by have := HQ.out; simp only [decide_eq_false_iff_not] at this; unfold psS; rw [if_neg this])
        go_wp2_with fail
        go_meet
        exact ⟨rfl, D1, Lib.hid (by rw [HD1.out, Hp.out]), zD1, rfl, HBx1.out, HB1.out⟩
      | true =>
        have h5 := of_decide_eq_true HQ.out
        have h6 : ps = 0 ∨ ps = 1 ∨ ps = 2 ∨ ps = 3 ∨ ps = 4 ∨ ps = 5 := by omega
        have zb := HBx1.out.lt
        clear HQ h5
        rcases h6 with rfl | rfl | rfl | rfl | rfl | rfl
        · have k1 : wc.cell? ⟨w.heap.size, 1, none⟩ = some (.int .i64 0) := HBx1.out.cell 1 _ rfl
          go_wp2_with fail
          have k2 : (wc.alloc wordsO).cell? ⟨w.heap.size, 1, none⟩ = some (.int .i64 0) := by rw [World.cell?_alloc_lt _ _ _ zb]; exact k1
          have k3 : (wc.alloc wordsO).cell? ⟨wc.heap.size, 0, none⟩ = some (.string ⟨(wordL.getD 0 []).toArray⟩) := words_cell wc 0 (by decide)
          go_region_with (go_at_call 22; refine (words_run _).mono ?_; rintro e w2 ⟨rfl, rfl⟩)
          all_goals (go_wp2_with fail)
          all_goals (go_meet)
          all_goals exact ⟨rfl, _, Lib.hid rfl, by decide, rfl, HBx1.out.alloc _, by first | exact HB1.out.alloc HB1.out.size _ | exact (HB1.out.alloc HB1.out.size _).drew⟩
        · have k1 : wc.cell? ⟨w.heap.size, 1, none⟩ = some (.int .i64 1) := HBx1.out.cell 1 _ rfl
          go_wp2_with fail
          have k2 : (wc.alloc wordsO).cell? ⟨w.heap.size, 1, none⟩ = some (.int .i64 1) := by rw [World.cell?_alloc_lt _ _ _ zb]; exact k1
          have k3 : (wc.alloc wordsO).cell? ⟨wc.heap.size, 1, none⟩ = some (.string ⟨(wordL.getD 1 []).toArray⟩) := words_cell wc 1 (by decide)
          go_region_with (go_at_call 22; refine (words_run _).mono ?_; rintro e w2 ⟨rfl, rfl⟩)
          all_goals (go_wp2_with fail)
          all_goals (go_meet)
          all_goals exact ⟨rfl, _, Lib.hid rfl, by decide, rfl, HBx1.out.alloc _, by first | exact HB1.out.alloc HB1.out.size _ | exact (HB1.out.alloc HB1.out.size _).drew⟩
        · have k1 : wc.cell? ⟨w.heap.size, 1, none⟩ = some (.int .i64 2) := HBx1.out.cell 1 _ rfl
          go_wp2_with fail
          have k2 : (wc.alloc wordsO).cell? ⟨w.heap.size, 1, none⟩ = some (.int .i64 2) := by rw [World.cell?_alloc_lt _ _ _ zb]; exact k1
          have k3 : (wc.alloc wordsO).cell? ⟨wc.heap.size, 2, none⟩ = some (.string ⟨(wordL.getD 2 []).toArray⟩) := words_cell wc 2 (by decide)
          go_region_with (go_at_call 22; refine (words_run _).mono ?_; rintro e w2 ⟨rfl, rfl⟩)
          all_goals (go_wp2_with fail)
          all_goals (go_meet)
          all_goals exact ⟨rfl, _, Lib.hid rfl, by decide, rfl, HBx1.out.alloc _, by first | exact HB1.out.alloc HB1.out.size _ | exact (HB1.out.alloc HB1.out.size _).drew⟩
        · have k1 : wc.cell? ⟨w.heap.size, 1, none⟩ = some (.int .i64 3) := HBx1.out.cell 1 _ rfl
          go_wp2_with fail
          have k2 : (wc.alloc wordsO).cell? ⟨w.heap.size, 1, none⟩ = some (.int .i64 3) := by rw [World.cell?_alloc_lt _ _ _ zb]; exact k1
          have k3 : (wc.alloc wordsO).cell? ⟨wc.heap.size, 3, none⟩ = some (.string ⟨(wordL.getD 3 []).toArray⟩) := words_cell wc 3 (by decide)
          go_region_with (go_at_call 22; refine (words_run _).mono ?_; rintro e w2 ⟨rfl, rfl⟩)
          all_goals (go_wp2_with fail)
          all_goals (go_meet)
          all_goals exact ⟨rfl, _, Lib.hid rfl, by decide, rfl, HBx1.out.alloc _, by first | exact HB1.out.alloc HB1.out.size _ | exact (HB1.out.alloc HB1.out.size _).drew⟩
        · have k1 : wc.cell? ⟨w.heap.size, 1, none⟩ = some (.int .i64 4) := HBx1.out.cell 1 _ rfl
          go_wp2_with fail
          have k2 : (wc.alloc wordsO).cell? ⟨w.heap.size, 1, none⟩ = some (.int .i64 4) := by rw [World.cell?_alloc_lt _ _ _ zb]; exact k1
          have k3 : (wc.alloc wordsO).cell? ⟨wc.heap.size, 4, none⟩ = some (.string ⟨(wordL.getD 4 []).toArray⟩) := words_cell wc 4 (by decide)
          go_region_with (go_at_call 22; refine (words_run _).mono ?_; rintro e w2 ⟨rfl, rfl⟩)
          all_goals (go_wp2_with fail)
          all_goals (go_meet)
          all_goals exact ⟨rfl, _, Lib.hid rfl, by decide, rfl, HBx1.out.alloc _, by first | exact HB1.out.alloc HB1.out.size _ | exact (HB1.out.alloc HB1.out.size _).drew⟩
        · have k1 : wc.cell? ⟨w.heap.size, 1, none⟩ = some (.int .i64 5) := HBx1.out.cell 1 _ rfl
          go_wp2_with fail
          have k2 : (wc.alloc wordsO).cell? ⟨w.heap.size, 1, none⟩ = some (.int .i64 5) := by rw [World.cell?_alloc_lt _ _ _ zb]; exact k1
          have k3 : (wc.alloc wordsO).cell? ⟨wc.heap.size, 5, none⟩ = some (.string ⟨(wordL.getD 5 []).toArray⟩) := words_cell wc 5 (by decide)
          go_region_with (go_at_call 22; refine (words_run _).mono ?_; rintro e w2 ⟨rfl, rfl⟩)
          all_goals (go_wp2_with fail)
          all_goals (go_meet)
          all_goals exact ⟨rfl, _, Lib.hid rfl, by decide, rfl, HBx1.out.alloc _, by first | exact HB1.out.alloc HB1.out.size _ | exact (HB1.out.alloc HB1.out.size _).drew⟩
    case rest =>
      obtain ⟨rfl, D, HD, zD, rfl, hBx2, hB2⟩ := hcut
      have zb := hBx2.lt
      have k0 : wc.cell? ⟨w.heap.size, 0, none⟩ = some (.int .i64 lv) := hBx2.cell 0 _ rfl
      have k3 : wc.cell? ⟨w.heap.size, 3, none⟩ = some (.string t) := hBx2.cell 3 _ rfl
      have k4 : wc.cell? ⟨w.heap.size, 4, none⟩ = some (.string g) := hBx2.cell 4 _ rfl
      have HBx2 := Lib.hid hBx2
      have HB2 := Lib.hid hB2
      clear hBx2 hB2
      go_upto_region 9 with fail
      go_cut [3] (fun s3 wx => RelM (headS ⟨lv, ps, dp, t, g, cut, pairs⟩ ++ (32 :: (psS ps ++ (32 :: (qS g.data.toList ++ (32 :: qS t.data.toList)))))) 3100 w #[.int .i64 lv, .int .i64 ps, .int .i64 dp, .string t, .string g, .bool cut, .slice a n c] s3 wx)
      case first =>
        have HB2d : Hid (Below w.heap.size w wc.drew) := Lib.hid HB2.out.drew
        go_region_held3 (fun w' => w'.cell? ⟨w.heap.size, 0, none⟩ = some (.int .i64 lv) ∧ w'.cell? ⟨w.heap.size, 3, none⟩ = some (.string t) ∧ w'.cell? ⟨w.heap.size, 4, none⟩ = some (.string g) ∧ w.heap.size < w'.heap.size ∧ Hid (Blk w' w.heap.size 28 #[.int .i64 lv, .int .i64 ps, .int .i64 dp, .string t, .string g, .bool cut, .slice a n c]) ∧ Hid (Below w.heap.size w w'))
          (first | (refine ⟨?_, ?_, ?_, ?_, ?_, ?_⟩ <;> (first | assumption | go_keep)) | (go_split_ands; exact ⟨keepL hBn (by assumption) (by assumption), keepL hBn (by assumption) (by assumption), keepL hBn (by assumption) (by assumption), keepZ hBn (by assumption), Lib.hid (Blk.keep (Hid.out (by assumption)) hBn), Lib.hid ((Hid.out (by assumption) : Below w.heap.size w _).trans (hBn.mono (Nat.le_of_lt (by assumption))))⟩))
          (first
            | (go_at_call 21; refine (dec_any lv _ hl0 hl1).mono ?_; rintro e W2 ⟨D2, HD2, zD2, rfl, hBn⟩; have s2_0 := addB (A) (D2) (by first | omega | (simp only [ByteArray.size_append', ByteArray.size_mk', List.size_toArray, List.length_cons, List.length_nil]; omega)); have s2_1 := addB (A ++ D2) (⟨#[32]⟩) (by first | omega | (simp only [ByteArray.size_append', ByteArray.size_mk', List.size_toArray, List.length_cons, List.length_nil]; omega)); have s2_2 := addB (A ++ D2 ++ ⟨#[32]⟩) (D) (by first | omega | (simp only [ByteArray.size_append', ByteArray.size_mk', List.size_toArray, List.length_cons, List.length_nil]; omega)); have s2_3 := addB (A ++ D2 ++ ⟨#[32]⟩ ++ D) (⟨#[32]⟩) (by first | omega | (simp only [ByteArray.size_append', ByteArray.size_mk', List.size_toArray, List.length_cons, List.length_nil]; omega)))
            | (go_at_call_of 23 (Value.string g); refine (quotedR_of g _ (by omega)).mono ?_; rintro e W3 ⟨D3, HD3, zD3, rfl, hBn⟩; have s3_0 := addB (A ++ D2 ++ ⟨#[32]⟩ ++ D ++ ⟨#[32]⟩) (D3) (by first | omega | (simp only [ByteArray.size_append', ByteArray.size_mk', List.size_toArray, List.length_cons, List.length_nil]; omega)); have s3_1 := addB (A ++ D2 ++ ⟨#[32]⟩ ++ D ++ ⟨#[32]⟩ ++ D3) (⟨#[32]⟩) (by first | omega | (simp only [ByteArray.size_append', ByteArray.size_mk', List.size_toArray, List.length_cons, List.length_nil]; omega)))
            | (go_at_call_of 23 (Value.string t); refine (quotedR_of t _ (by omega)).mono ?_; rintro e W4 ⟨D4, HD4, zD4, rfl, hBn⟩; have s4_0 := addB (A ++ D2 ++ ⟨#[32]⟩ ++ D ++ ⟨#[32]⟩ ++ D3 ++ ⟨#[32]⟩) (D4) (by first | omega | (simp only [ByteArray.size_append', ByteArray.size_mk', List.size_toArray, List.length_cons, List.length_nil]; omega))))
        all_goals (go_wp2_with fail)
        all_goals (go_meet)
        all_goals (rename_i hS; obtain ⟨-, -, -, -, hK, hL⟩ := hS)
        all_goals (refine ⟨_, Lib.hid ((cat_l (cat_l (cat_l (cat_l (cat_l (cat_l (cat_l HA.out.symm HD2.out) (lit_l [32])) HD.out) (lit_l [32])) HD3.out) (lit_l [32])) HD4.out).trans (by congr 1; simp [headS, HMm.out])), ?_, rfl, hK.out, hL.out⟩)
        all_goals (simp only [ByteArray.size_append', ByteArray.size_mk', List.size_toArray, List.length_cons, List.length_nil]; omega)
      case rest =>
        obtain ⟨M, HM, zM, rfl, hBx3, hB3⟩ := hcut
        have zb3 := hBx3.lt
        have k5 : wc.cell? ⟨w.heap.size, 5, none⟩ = some (.bool cut) := hBx3.cell 5 _ rfl
        have HBx3 := Lib.hid hBx3
        have HB3 := Lib.hid hB3
        clear hBx3 hB3
        go_upto_if 51 with fail
        go_cut [3] (fun s3 wx => RelM (midS ⟨lv, ps, dp, t, g, cut, pairs⟩) 3200 w #[.int .i64 lv, .int .i64 ps, .int .i64 dp, .string t, .string g, .bool cut, .slice a n c] s3 wx)
        case first =>
          cases cut with
          | true =>
            go_wp2_with fail
            go_meet
            exact ⟨_, Lib.hid ((cat_l HM.out (lit_l [32, 99, 117, 116])).trans (by congr 1; simp [midS, cutS])), by simp only [ByteArray.size_append', ByteArray.size_mk', List.size_toArray, List.length_cons, List.length_nil]; omega, rfl, HBx3.out, HB3.out⟩
          | false =>
            go_wp2_with fail
            go_meet
            exact ⟨_, Lib.hid (HM.out.trans (by congr 1; simp [midS, cutS])), by omega, rfl, HBx3.out, HB3.out⟩
        case rest =>
          obtain ⟨M, HM, zM, rfl, hBx4, hB4⟩ := hcut
          have HBx4 := Lib.hid hBx4
          have HB4 := Lib.hid hB4
          clear hBx4 hB4
          go_upto_block 1 with fail
          go_loopg [3, 6] n (fun gg s3 s6 wx => RelP n (midS ⟨lv, ps, dp, t, g, cut, pairs⟩) pairs w #[.int .i64 lv, .int .i64 ps, .int .i64 dp, .string t, .string g, .bool cut, .slice a n c] gg s3 s6 wx)
          case atStart => exact ⟨0, Nat.zero_le _, rfl, rfl, M, Lib.hid (by rw [HM.out]; congr 1; simp [pairsS]), by omega, rfl, HBx4.out, HB4.out⟩
          case round =>
            obtain ⟨k, hk, rfl, rfl, E, HE, zE, rfl, hBx, hB⟩ := hrel
            have HBx := Lib.hid hBx
            have HB := Lib.hid hB
            have zr := hBx.lt
            have k6 : wr.cell? ⟨w.heap.size, 6, none⟩ = some (.slice a n c) := hBx.cell 6 _ rfl
            clear hBx hB
            by_cases hlt : k < n
            · obtain ⟨p, hp⟩ : ∃ p, pairs[k]? = some p := ⟨pairs[k]'(by have := HPn.out; omega), List.getElem?_eq_getElem _⟩
              obtain ⟨ad, rfl, had, c0, c1, c2, c3⟩ := HPr.out k p hp
              have d0 : wr.cell? (ad.add (k * 4)) = some (.string p.nm) := by rw [HB.out.cell (by rw [block_of_add]; exact had)]; exact c0
              have d1 : wr.cell? ⟨(ad.add (k * 4)).block, (ad.add (k * 4)).off + 1, none⟩ = some (.int .i64 p.n) := by rw [← add_off ad (k * 4) 1 (by decide), HB.out.cell (by rw [block_of_add]; exact had)]; exact c1
              have d2 : wr.cell? ⟨(ad.add (k * 4)).block, (ad.add (k * 4)).off + 2, none⟩ = some (.bool p.rev) := by rw [← add_off ad (k * 4) 2 (by decide), HB.out.cell (by rw [block_of_add]; exact had)]; exact c2
              have d3 : wr.cell? ⟨(ad.add (k * 4)).block, (ad.add (k * 4)).off + 3, none⟩ = some (.bool p.auto) := by rw [← add_off ad (k * 4) 3 (by decide), HB.out.cell (by rw [block_of_add]; exact had)]; exact c3
              have HP := Lib.hid hp
              clear hp c0 c1 c2 c3
              go_wp2_with fail
              have hpk := hok p (List.mem_of_getElem? HP.out)
              have pn := hpk.nm
              have p0 := hpk.n0
              have p1 := hpk.n1
              have HC := Lib.hid (Blk.new wr 34 #[.string p.nm, .int .i64 p.n, .bool p.rev, .bool p.auto])
              have HBn := Lib.hid (HBx.out.alloc (.cells #[.string p.nm, .int .i64 p.n, .bool p.rev, .bool p.auto] 34))
              have HBw := Lib.hid (HB.out.alloc HB.out.size (.cells #[.string p.nm, .int .i64 p.n, .bool p.rev, .bool p.auto] 34))
              have HBd := Lib.hid (HB.out.alloc HB.out.size (.cells #[.string p.nm, .int .i64 p.n, .bool p.rev, .bool p.auto] 34)).drew
              have e0 : (wr.alloc (.cells #[.string p.nm, .int .i64 p.n, .bool p.rev, .bool p.auto] 34)).cell? ⟨wr.heap.size, 0, none⟩ = some (.string p.nm) := HC.out.cell 0 _ rfl
              have e1 : (wr.alloc (.cells #[.string p.nm, .int .i64 p.n, .bool p.rev, .bool p.auto] 34)).cell? ⟨wr.heap.size, 1, none⟩ = some (.int .i64 p.n) := HC.out.cell 1 _ rfl
              have ez : wr.heap.size < (wr.alloc (.cells #[.string p.nm, .int .i64 p.n, .bool p.rev, .bool p.auto] 34)).heap.size := HC.out.lt
              have ez2 : w.heap.size < (wr.alloc (.cells #[.string p.nm, .int .i64 p.n, .bool p.rev, .bool p.auto] 34)).heap.size := HBn.out.lt
              have s1_0 := addB E ⟨#[32, 91]⟩ (by simp only [ByteArray.size_mk', List.size_toArray, List.length_cons, List.length_nil]; omega)
              clear d0 d1 d2 d3 k6
              go_cut [3, 7] (fun s3 s7 wx => RelC (midS ⟨lv, ps, dp, t, g, cut, pairs⟩ ++ pairsS (pairs.take k) ++ ([32, 91] ++ (qS p.nm.data.toList ++ (32 :: decI p.n)))) (3200 + 500 * k + 480) w #[.int .i64 lv, .int .i64 ps, .int .i64 dp, .string t, .string g, .bool cut, .slice (some ad) n c] wr.heap.size #[.string p.nm, .int .i64 p.n, .bool p.rev, .bool p.auto] s3 s7 wx)
              case first =>
                go_region_held3 (fun w' => w'.cell? ⟨wr.heap.size, 0, none⟩ = some (.string p.nm) ∧ w'.cell? ⟨wr.heap.size, 1, none⟩ = some (.int .i64 p.n) ∧ wr.heap.size < w'.heap.size ∧ w.heap.size < w'.heap.size ∧ Hid (Blk w' wr.heap.size 34 #[.string p.nm, .int .i64 p.n, .bool p.rev, .bool p.auto]) ∧ Hid (Blk w' w.heap.size 28 #[.int .i64 lv, .int .i64 ps, .int .i64 dp, .string t, .string g, .bool cut, .slice (some ad) n c]) ∧ Hid (Below w.heap.size w w'))
                  (first | (refine ⟨?_, ?_, ?_, ?_, ?_, ?_, ?_⟩ <;> (first | assumption | go_keep)) | (go_split_ands; exact ⟨keepL hBn (by assumption) (by assumption), keepL hBn (by assumption) (by assumption), keepZ hBn (by assumption), keepZ hBn (by assumption), Lib.hid (Blk.keep (Hid.out (by assumption)) hBn), Lib.hid (Blk.keep (Hid.out (by assumption)) hBn), Lib.hid ((Hid.out (by assumption) : Below w.heap.size w _).trans (hBn.mono (Nat.le_of_lt (by assumption))))⟩))
                  (first
                    | (go_at_call 21; refine (dec_any p.n _ p0 p1).mono ?_; rintro e W2 ⟨D2, HD2, zD2, rfl, hBn⟩; have s2_0 := addB (E ++ ⟨#[32, 91]⟩ ++ D3 ++ ⟨#[32]⟩) (D2) (by first | omega | (simp only [ByteArray.size_append', ByteArray.size_mk', List.size_toArray, List.length_cons, List.length_nil]; omega)))
                    | (go_at_call 23; refine (quotedR_of p.nm _ (by omega)).mono ?_; rintro e W3 ⟨D3, HD3, zD3, rfl, hBn⟩; have s3_0 := addB (E ++ ⟨#[32, 91]⟩) (D3) (by first | omega | (simp only [ByteArray.size_append', ByteArray.size_mk', List.size_toArray, List.length_cons, List.length_nil]; omega)); have s3_1 := addB (E ++ ⟨#[32, 91]⟩ ++ D3) (⟨#[32]⟩) (by first | omega | (simp only [ByteArray.size_append', ByteArray.size_mk', List.size_toArray, List.length_cons, List.length_nil]; omega))))
                all_goals (go_wp2_with fail)
                all_goals (go_meet)
                all_goals (rename_i hS; obtain ⟨-, -, -, -, hK, hK2, hL⟩ := hS)
                all_goals (refine ⟨_, Lib.hid ((cat_l (cat_l (cat_l (cat_l HE.out (lit_l [32, 91])) HD3.out) (lit_l [32])) HD2.out).trans (by congr 1; simp)), ?_, rfl, rfl, hK.out, hK2.out, hL.out⟩)
                all_goals (simp only [ByteArray.size_append', ByteArray.size_mk', List.size_toArray, List.length_cons, List.length_nil]; omega)
              case rest =>
                obtain ⟨F, HF, zF, rfl, rfl, hC, hBx, hB⟩ := hcut
                have f2 : wc.cell? ⟨wr.heap.size, 2, none⟩ = some (.bool p.rev) := hC.cell 2 _ rfl
                have HK := Lib.hid hBx
                have HL := Lib.hid hB
                have HT : Hid (pairs.take (k + 1) = pairs.take k ++ [p]) := Lib.hid (by rw [List.take_add_one, HP.out]; rfl)
                clear hC hBx hB HC HBn HBw HBd e0 e1 ez ez2 s1_0
                obtain ⟨q, hq⟩ : ∃ q, p.rev = q := ⟨_, rfl⟩
                rw [hq] at f2
                have HR := Lib.hid hq
                clear hq
                cases q with
                | true =>
                  go_wp2_with fail
                  go_roundg (n - (k + 1))
                  case measure => omega
                  case rel => exact ⟨k + 1, by omega, rfl, by go_num, _, Lib.hid ((cat_l (cat_l HF.out (lit_l [32, 114, 101, 118])) (lit_l [93])).trans (by congr 1; rw [HT.out, pairsS_snoc]; simp [pairS, revS, HR.out])), by simp only [ByteArray.size_append', ByteArray.size_mk', List.size_toArray, List.length_cons, List.length_nil]; omega, rfl, HK.out, HL.out⟩
                | false =>
                  go_wp2_with fail
                  go_roundg (n - (k + 1))
                  case measure => omega
                  case rel => exact ⟨k + 1, by omega, rfl, by go_num, _, Lib.hid ((cat_l HF.out (lit_l [93])).trans (by congr 1; rw [HT.out, pairsS_snoc]; simp [pairS, revS, HR.out])), by simp only [ByteArray.size_append', ByteArray.size_mk', List.size_toArray, List.length_cons, List.length_nil]; omega, rfl, HK.out, HL.out⟩
            · obtain rfl : k = n := by omega
              go_wp2_with fail
              go_ret
              exact ⟨E, Lib.hid (by rw [HE.out, List.take_of_length_le (by have := HPn.out; omega)]; rfl), by omega, rfl, HB.out⟩
end Go.Proofs.YtfobenohimepaaaDoor.Num
