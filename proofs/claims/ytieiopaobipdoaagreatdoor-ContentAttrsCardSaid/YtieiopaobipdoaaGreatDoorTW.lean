/- fleuronlaw18.ContentCuts returns true for all arguments, whatever awake() is that returns true. -/
import Derived.Test.YtieiopaobipdoaaGreatDoorTP
import Derived.Test.YtieiopaobipdoaaGreatDoorTC
import Derived.Test.YtieiopaobipdoaaGreatDoorTR
namespace Go.Proofs.YtieiopaobipdoaaGreatDoor.Cut
open Go Go.RowKit
abbrev GoodC (n : Int) (g : ByteArray) (t : Int) (W : World) : Prop := Calls Tryz.prog 3 #[.int .i64 n, .string g, .int .i64 t] W fun e W' => e = .returned (.bool true) ∧ Below W.heap.size W W'
abbrev Awk (W : World) : Prop := ∀ w, Below W.heap.size W w → Calls Tryz.prog 7 #[] w fun e w' => e = .returned (.bool true) ∧ Below w.heap.size w w'
set_option maxHeartbeats 1000000 in
theorem cuts_out (n : Int) (g : ByteArray) (t : Int) (h : n < 0 ∨ 3000 < n ∨ g.size < 1 ∨ 4 < g.size ∨ t < 0 ∨ 5 < t) {W : World} (aw : Awk W) : GoodC n g t W := by
  have aw0 := aw W (Below.refl _ _)
  go_enter Tryz.func3, Tryz.ntmps3
  go_wp2_with (first | (go_at_call 7; refine aw0.mono ?_; rintro e w' ⟨rfl, hb⟩))
  all_goals first
    | (exfalso; omega)
    | (go_ret; exact ⟨rfl, hb⟩)
def ManyI (g : ByteArray) (d : Nat) (w : World) (s7 : Value) (W : World) : Prop := ∃ k p : Nat, W = w.iter g p ∧ s7 = .int .i64 (k : Int) ∧ p ≤ g.size ∧ (k = 0 ∧ p = 0 ∨ k = 1 ∧ p = d ∨ 2 ≤ k ∧ k ≤ p)
set_option maxHeartbeats 1000000 in
set_option maxRecDepth 100000 in
theorem cuts_many (n : Int) (g : ByteArray) (t : Int) (h1 : 0 ≤ n) (h2 : n ≤ 3000) (h3 : 1 ≤ g.size) (h4 : g.size ≤ 4) (h5 : 0 ≤ t) (h6 : t ≤ 5) (hm : Hid ((Utf8.decode g 0).2 ≠ g.size)) {W : World} (aw : Awk W) : GoodC n g t W := by
  have hd1 := Lib.hid (dec_w g 0 h3).1
  have aw0 : ∀ p, Calls Tryz.prog 7 #[] (W.iter g p) fun e w' => e = .returned (.bool true) ∧ Below (W.iter g p).heap.size (W.iter g p) w' := fun p => aw (W.iter g p) ((Below.refl _ _).alloc (Nat.le_refl _) _)
  go_enter Tryz.func3, Tryz.ntmps3
  go_wp2
  all_goals first
    | (exfalso; omega; done)
    | skip
  go_loopw [7] (fun x7 W' => ManyI g (Utf8.decode g 0).2 W x7 W') (fun _ W' => g.size - W'.iterPos W.heap.size)
  case atStart => exact ⟨0, 0, rfl, rfl, Nat.zero_le _, .inl ⟨rfl, rfl⟩⟩
  case round =>
    obtain ⟨k, p, rfl, rfl, hps, hkp⟩ := hrel
    have HKP := Lib.hid hkp
    clear hkp
    by_cases hlt : p < g.size
    · have hnx : ∀ ty, (Instr.next (.pointer (some ⟨W.heap.size, 0, none⟩)) true ty).run Tryz.prog (W.iter g p) = _ := fun ty => run_next_any W g p ty hlt
      obtain ⟨d1, d2, d3⟩ := dec_w g p hlt
      have hk4 : k ≤ 4 := by have := HKP.out; omega
      have hkp2 : k = 0 ∧ p = 0 ∨ 1 ≤ k := by have := HKP.out; omega
      have HK2 := Lib.hid hkp2
      clear hkp2
      go_wp2
      go_roundw
      case rel =>
        refine ⟨k + 1, p + (Utf8.decode g p).2, rfl, by go_num, d2, ?_⟩
        have := HKP.out
        have := hd1.out
        rcases HKP.out with ⟨rfl, rfl⟩ | ⟨rfl, rfl⟩ | ⟨k1, k2⟩
        · exact .inr (.inl ⟨rfl, by omega⟩)
        · exact .inr (.inr ⟨by omega, by omega⟩)
        · exact .inr (.inr ⟨by omega, by omega⟩)
      case measure => simp; omega
    · have hnx : ∀ ty, (Instr.next (.pointer (some ⟨W.heap.size, 0, none⟩)) true ty).run Tryz.prog (W.iter g p) = _ := fun ty => run_next_end W g p ty hlt
      have hk : ((k : Int) == 1) = false := by
        have := HKP.out
        have := hm.out
        simp; omega
      have hk2 : ((k : Int) != 1) = true := by
        have := HKP.out
        have := hm.out
        simp; omega
      have hcA := aw0 p
      clear aw0
      go_wp2_with (first | (go_at_call 7; refine hcA.mono ?_; rintro e w' ⟨rfl, hb⟩))
      all_goals (go_ret; exact ⟨rfl, ((Below.refl W.heap.size W).alloc (Nat.le_refl _) _).trans (hb.mono (by show _ ≤ (W.heap.push _).size; simp))⟩)
def OneI (g : ByteArray) (w : World) (s7 : Value) (W : World) : Prop := ∃ k : Nat, k ≤ 1 ∧ W = w.iter g (k * g.size) ∧ s7 = .int .i64 (k : Int)
theorem row0 (t : Nat) (h : t ≤ 5) : (⟨#[120, 120, 120, 120, 120]⟩ : ByteArray).extract 0 t = rowB t [] 0 := by
  have : t = 0 ∨ t = 1 ∨ t = 2 ∨ t = 3 ∨ t = 4 ∨ t = 5 := by omega
  rcases this with rfl | rfl | rfl | rfl | rfl | rfl <;> rfl
theorem rowB_size (t : Nat) (g : ByteArray) (k : Nat) : (rowB t g.data.toList k).size = t + k * g.size := by
  show (List.toArray _).size = _
  rw [List.size_toArray, row_len]; simp
theorem rowB_succ (t : Nat) (g : ByteArray) (k : Nat) : rowB t g.data.toList k ++ g = rowB t g.data.toList (k + 1) := by
  apply ByteArray.ext; apply Array.toList_inj.1
  simp [rowB, row, ByteArray.data_append]
theorem at_add (t d Q : Nat) : at' t d (t + Q) = t + Q * d := by
  unfold at'
  split
  · obtain rfl : Q = 0 := by omega
    simp
  · rw [Nat.add_sub_cancel_left]
theorem at_mono (t d : Nat) {a b : Nat} (h : a ≤ b) : at' t d a ≤ at' t d b := by
  unfold at'
  split
  · split
    · exact h
    · omega
  · rw [if_neg (by omega)]
    have := Nat.mul_le_mul_right d (show a - t ≤ b - t by omega)
    omega
theorem cut_row (g : ByteArray) (t n : Nat) (w : World) (h3 : 1 ≤ g.size) (h4 : g.size ≤ 4) (h6 : t ≤ 5) (h2 : n ≤ 3000) (hm : Hid ((Utf8.decode g 0).2 = g.size)) (hl : 2000 < (rowB t g.data.toList n).size) :
    ∃ M : Nat, M ≤ 2000 ∧ (∃ Q : Nat, (2000 - (t : Int)) / (g.size : Int) = (Q : Int) ∧ (Q : Int) * (g.size : Int) = (M : Int)) ∧ t + M ≤ (rowB t g.data.toList n).size ∧
      Calls Tryz.prog 10 #[.string (rowB t g.data.toList n)] w (CutE (rowB t g.data.toList n) (t + M) w) := by
  have hz := rowB_size t g n
  have hgl : g.data.toList.length = g.size := by simp
  have hkg : n * g.size ≤ 12000 := by
    have := Nat.mul_le_mul h2 h4
    omega
  have hq0 := Nat.div_add_mod (2000 - t) g.size
  have hq3 := Nat.mod_lt (2000 - t) (show 0 < g.size from h3)
  obtain ⟨Q, hQ⟩ : ∃ Q, (2000 - t) / g.size = Q := ⟨_, rfl⟩
  rw [hQ, Nat.mul_comm] at hq0
  have hQn : Q < n := by
    rcases Nat.lt_or_ge Q n with h | h
    · exact h
    · have := Nat.mul_le_mul_right g.size h
      omega
  refine ⟨Q * g.size, by omega, ⟨Q, ?_, by simp⟩, by omega, ?_⟩
  · rw [show (2000 - (t : Int)) = ((2000 - t : Nat) : Int) by omega, ← Int.natCast_ediv, hQ]
  · have e : at' t g.size (t + Q) = t + Q * g.size := at_add t g.size Q
    rw [← e]
    refine cut_long _ w (at' t g.size) (t + n) (t + Q) hl (by omega) (Lib.hid (if_pos (Nat.zero_le _))) (Lib.hid (by rw [at_add, hz])) (Lib.hid fun k hk => ?_) (by omega) (by rw [e]; omega) (Lib.hid (by rw [Nat.add_assoc, at_add, Nat.add_mul]; omega)) (Lib.hid fun k hk => at_mono t g.size hk)
    have := row_dec t g.data.toList n (by rw [hgl]; exact h3) (by rw [hgl]; exact hm.out) k hk
    rw [hgl] at this
    exact this
def RowI (g : ByteArray) (t n : Nat) (s8 s9 : Value) : Prop := ∃ k : Nat, k ≤ n ∧ s9 = .int .i64 (k : Int) ∧ s8 = .string (rowB t g.data.toList k)
set_option maxHeartbeats 4000000 in
set_option maxRecDepth 100000 in
theorem cuts_one (n : Nat) (g : ByteArray) (t : Nat) (h2 : n ≤ 3000) (h3 : 1 ≤ g.size) (h4 : g.size ≤ 4) (h6 : t ≤ 5) (hm : Hid ((Utf8.decode g 0).2 = g.size)) {W : World} (aw : Awk W) : GoodC n g t W := by
  go_enter Tryz.func3, Tryz.ntmps3
  go_wp2
  all_goals first
    | (exfalso; omega; done)
    | skip
  go_loopw [7] (fun x7 W' => OneI g W x7 W') (fun _ W' => g.size - W'.iterPos W.heap.size)
  case atStart => exact ⟨0, by omega, by rw [Nat.zero_mul], rfl⟩
  case round =>
    obtain ⟨k, hk, rfl, rfl⟩ := hrel
    have hk2 : k = 0 ∨ k = 1 := by omega
    rcases hk2 with rfl | rfl
    · have hnx : ∀ ty, (Instr.next (.pointer (some ⟨W.heap.size, 0, none⟩)) true ty).run Tryz.prog (W.iter g (0 * g.size)) = _ := fun ty => run_next_any W g (0 * g.size) ty (by omega)
      rw [Nat.zero_mul, hm.out, Nat.zero_add] at hnx
      have e0 : 0 * g.size = 0 := Nat.zero_mul _
      rw [e0]
      clear e0
      go_wp2
      go_roundw
      case rel => exact ⟨1, by omega, by rw [Nat.one_mul], by go_num⟩
      case measure => simp; omega
    · have hnx : ∀ ty, (Instr.next (.pointer (some ⟨W.heap.size, 0, none⟩)) true ty).run Tryz.prog (W.iter g (1 * g.size)) = _ := fun ty => run_next_end W g (1 * g.size) ty (by omega)
      have e1 : 1 * g.size = g.size := Nat.one_mul _
      rw [e1] at hnx ⊢
      clear e1
      have hBI : Below W.heap.size W (W.iter g g.size) := (Below.refl _ _).alloc (Nat.le_refl _) _
      have haw := aw _ hBI
      have HBI := Lib.hid hBI
      clear hBI
      by_cases hF : g.toList = [239, 191, 189]
      · go_wp2_with (go_at_call 7; refine haw.mono ?_; rintro e w' ⟨rfl, hb⟩)
        all_goals (go_ret; exact ⟨rfl, HBI.out.trans (hb.mono HBI.out.size)⟩)
      have hF2 : (g.toList == [239, 191, 189]) = false := by simp [hF]
      by_cases hsz : 1 < g.size
      · have hX : (⟨#[97]⟩ ++ g : ByteArray) = ⟨(97 :: g.data.toList).toArray⟩ := by
          apply ByteArray.ext; apply Array.toList_inj.1; simp [ByteArray.data_append]
        have hlen : (97 :: g.data.toList : List UInt8).length = 1 + g.size := by simp; omega
        have hXs : (⟨#[97]⟩ ++ g : ByteArray).size = (97 :: g.data.toList : List UInt8).length := by rw [hX]; show (List.toArray _).size = _; rw [List.size_toArray]
        have hcv0 := run_bytes_of_string (P := Tryz.prog) (W.iter g g.size) 9 26 5 (⟨#[97]⟩ ++ g) Tryz.underlying9 Tryz.underlying26 Tryz.underlying5
        obtain ⟨cap, hcap⟩ : ∃ cap, grownCap (W.iter g g.size) (⟨#[97]⟩ ++ g : ByteArray).size 0 5 = cap := ⟨_, rfl⟩
        rw [hcap] at hcv0
        have hcells : ∀ j (hj : j < (97 :: g.data.toList : List UInt8).length), ((W.iter g g.size).drew.alloc (.cells (bytesRow (⟨#[97]⟩ ++ g) cap) 5 ((bytesRow (⟨#[97]⟩ ++ g) cap).size, (bytesRow (⟨#[97]⟩ ++ g) cap).size + 1))).cell? ((⟨(W.iter g g.size).heap.size, 0, none⟩ : Addr).add j) = some (.int .u8 ((97 :: g.data.toList : List UInt8)[j].toNat : Int)) := fun j hj => by
          have e : (⟨(W.iter g g.size).heap.size, 0, none⟩ : Addr).add j = ⟨(W.iter g g.size).heap.size, j, none⟩ := by
            unfold Addr.add
            split
            · rename_i h; subst h; rfl
            · simp
          rw [e]
          have hh : ((W.iter g g.size).drew.alloc (.cells (bytesRow (⟨#[97]⟩ ++ g) cap) 5 ((bytesRow (⟨#[97]⟩ ++ g) cap).size, (bytesRow (⟨#[97]⟩ ++ g) cap).size + 1))).heap[(W.iter g g.size).heap.size]? = some (.cells (bytesRow (⟨#[97]⟩ ++ g) cap) 5 ((bytesRow (⟨#[97]⟩ ++ g) cap).size, (bytesRow (⟨#[97]⟩ ++ g) cap).size + 1)) := by
            show ((W.iter g g.size).heap.push _)[(W.iter g g.size).heap.size]? = _
            simp
          rw [Lib.cell_of_heap hh, bytesRow_at _ _ _ (by rw [hX]; simpa using hj)]
          simp [hX]
        have hB2 : Below W.heap.size W ((W.iter g g.size).drew.alloc (.cells (bytesRow (⟨#[97]⟩ ++ g) cap) 5 ((bytesRow (⟨#[97]⟩ ++ g) cap).size, (bytesRow (⟨#[97]⟩ ++ g) cap).size + 1))) := (Below.drew HBI.out).alloc HBI.out.size _
        rw [hXs] at hcv0
        have hcv := hcv0
        clear hcv0
        obtain ⟨W2, hW2⟩ : ∃ W2, (W.iter g g.size).drew.alloc (.cells (bytesRow (⟨#[97]⟩ ++ g) cap) 5 ((bytesRow (⟨#[97]⟩ ++ g) cap).size, (bytesRow (⟨#[97]⟩ ++ g) cap).size + 1)) = W2 := ⟨_, rfl⟩
        rw [hW2] at hcv hcells hB2
        have hg2 : (⟨(97 :: g.data.toList).toArray⟩ : ByteArray).size = 1 + g.size := by rw [← hX, hXs, hlen]
        have hdw : (Utf8.decode ⟨(97 :: g.data.toList).toArray⟩ 1).2 = g.size := dec_same g ⟨(97 :: g.data.toList).toArray⟩ 1 h3 hm.out (by rw [hg2]; exact Nat.le_refl _) (fun k hk => by
          rw [get_list, show 1 + k = k + 1 from Nat.add_comm _ _, List.getElem?_cons_succ]
          conv => rhs; rw [show g = ⟨g.data.toList.toArray⟩ by simp]
          rw [get_list]) (fun h => by omega)
        have hhi : 128 ≤ (Utf8.decode ⟨(97 :: g.data.toList).toArray⟩ 1).1 := by
          by_cases ha : ((⟨(97 :: g.data.toList).toArray⟩ : ByteArray)[1]'(by omega)).toNat < 128
          · rw [decode_ascii _ 1 (by omega) ha] at hdw
            simp at hdw; omega
          · exact (decode_high _ 1 (by omega) (by omega)).1
        have hd0 : Utf8.decode ⟨(97 :: g.data.toList).toArray⟩ 0 = (97, 1) := by
          have := decode_ascii ⟨(97 :: g.data.toList).toArray⟩ 0 (by omega) (by show (97 : UInt8).toNat < 128; decide)
          exact this
        have hrd := read_two (97 :: g.data.toList) ⟨(W.iter g g.size).heap.size, 0, none⟩ cap (Utf8.decode ⟨(97 :: g.data.toList).toArray⟩ 1).1 W2 hcells (by rw [hlen]; omega) (by rw [hlen]; omega) (Lib.hid hd0) (Lib.hid (Prod.ext rfl (by rw [hdw, hlen]; omega))) hhi (decode_le _ _)
        generalize (Utf8.decode ⟨(97 :: g.data.toList).toArray⟩ 1).1 = r at hrd
        have HB2 := Lib.hid hB2
        clear hd0 hX hXs hcap hcells hW2 hB2 hg2 hdw hhi
        generalize (97 :: g.data.toList : List UInt8).length = ln at hcv hrd hlen
        clear hlen haw
        go_wp2_with (go_at_call 9; refine hrd.mono ?_)
        rintro e w3 ⟨b3, c3, rfl, hcell, hB3⟩
        have HB3 := Lib.hid (HB2.out.trans (hB3.mono HB2.out.size))
        clear hB3 hrd hcv
        have hput := put_any (r : Int) w3
        go_wp2_with (go_at_call 8; refine hput.mono ?_)
        rintro e w4 ⟨rfl, hB4⟩
        have HB4 := Lib.hid (HB3.out.trans (hB4.mono HB3.out.size))
        clear hB4
        generalize runesBytes [(r : Int)] = p
        have haw4 := aw w4 HB4.out
        go_wp2_with (go_at_call 7; refine haw4.mono ?_; rintro e w' ⟨rfl, hb⟩)
        all_goals first
          | (go_ret; exact ⟨rfl, HB4.out.trans (hb.mono HB4.out.size)⟩)
          | skip
        go_loop [8, 9] (fun x8 x9 => RowI g t n x8 x9) (fun _ x9 => n - (intOf x9).toNat)
        case atStart => exact ⟨0, Nat.zero_le _, rfl, by rw [row0 t h6]; rfl⟩
        case round =>
          obtain ⟨k, hk, rfl, rfl⟩ := hrel
          have hzk := rowB_size t g k
          have hkg : k * g.size ≤ 12000 := by
            have := Nat.mul_le_mul (show k ≤ 3000 by omega) h4
            omega
          have hzk2 : (rowB t g.data.toList k).size ≤ 13000 := by omega
          have HZK := Lib.hid hzk
          clear hzk hkg
          by_cases hkn : k < n
          · have HS := Lib.hid (rowB_succ t g k)
            generalize rowB t g.data.toList k = X at hzk2 HS HZK ⊢
            go_wp2
            go_round
            case rel => exact ⟨k + 1, by omega, by go_num, by rw [← HS.out]⟩
            case measure => simp [intOf]; omega
          · obtain rfl : k = n := by omega
            by_cases hshort : (rowB t g.data.toList k).size ≤ 2000
            · have hcut := cut_short (rowB t g.data.toList k) w4 hshort
              generalize rowB t g.data.toList k = X at hzk2 HZK hshort hcut ⊢
              go_wp2_with (go_at_call 10; refine hcut.mono ?_)
              rintro e w5 ⟨rfl, hB5⟩
              have HB5 := Lib.hid (HB4.out.trans (hB5.mono HB4.out.size))
              clear hB5 hcut
              have haw5 := aw w5 HB5.out
              go_wp2_with (go_at_call 7; refine haw5.mono ?_; rintro e w' ⟨rfl, hb⟩)
              all_goals (go_ret; exact ⟨rfl, HB5.out.trans (hb.mono HB5.out.size)⟩)
            · obtain ⟨M, hM1, hM2, hM3, hcut⟩ := cut_row g t k w4 h3 h4 h6 h2 hm (by omega)
              generalize rowB t g.data.toList k = X at hzk2 HZK hshort hcut hM3 ⊢
              go_wp2_with (go_at_call 10; refine hcut.mono ?_)
              rintro e w5 ⟨rfl, hB5⟩
              have HB5 := Lib.hid (HB4.out.trans (hB5.mono HB4.out.size))
              clear hB5 hcut
              have haw5 := aw w5 HB5.out
              obtain ⟨Q, hQ1, hQ2⟩ := hM2
              have hz5 : (X.extract 0 (t + M)).size = t + M := by rw [ByteArray.size_extract]; omega
              have hn5 : ((t : Int) + (M : Int)).toNat = t + M := by omega
              have h20 : ¬ (X.size : Int) ≤ 2000 := by omega
              go_wp2_with (go_at_call 7; refine haw5.mono ?_; rintro e w' ⟨rfl, hb⟩)
              all_goals (go_ret; exact ⟨rfl, HB5.out.trans (hb.mono HB5.out.size)⟩)
      · have HB4 : Hid (Below W.heap.size W (W.iter g g.size)) := HBI
        clear haw HBI
        generalize W.iter g g.size = w4 at HB4 hnx ⊢
        have haw4 := aw w4 HB4.out
        go_wp2_with (go_at_call 7; refine haw4.mono ?_; rintro e w' ⟨rfl, hb⟩)
        all_goals first
          | (go_ret; exact ⟨rfl, HB4.out.trans (hb.mono HB4.out.size)⟩)
          | skip
        go_loop [8, 9] (fun x8 x9 => RowI g t n x8 x9) (fun _ x9 => n - (intOf x9).toNat)
        case atStart => exact ⟨0, Nat.zero_le _, rfl, by rw [row0 t h6]; rfl⟩
        case round =>
          obtain ⟨k, hk, rfl, rfl⟩ := hrel
          have hzk := rowB_size t g k
          have hkg : k * g.size ≤ 12000 := by
            have := Nat.mul_le_mul (show k ≤ 3000 by omega) h4
            omega
          have hzk2 : (rowB t g.data.toList k).size ≤ 13000 := by omega
          have HZK := Lib.hid hzk
          clear hzk hkg
          by_cases hkn : k < n
          · have HS := Lib.hid (rowB_succ t g k)
            generalize rowB t g.data.toList k = X at hzk2 HS HZK ⊢
            go_wp2
            go_round
            case rel => exact ⟨k + 1, by omega, by go_num, by rw [← HS.out]⟩
            case measure => simp [intOf]; omega
          · obtain rfl : k = n := by omega
            by_cases hshort : (rowB t g.data.toList k).size ≤ 2000
            · have hcut := cut_short (rowB t g.data.toList k) w4 hshort
              generalize rowB t g.data.toList k = X at hzk2 HZK hshort hcut ⊢
              go_wp2_with (go_at_call 10; refine hcut.mono ?_)
              rintro e w5 ⟨rfl, hB5⟩
              have HB5 := Lib.hid (HB4.out.trans (hB5.mono HB4.out.size))
              clear hB5 hcut
              have haw5 := aw w5 HB5.out
              go_wp2_with (go_at_call 7; refine haw5.mono ?_; rintro e w' ⟨rfl, hb⟩)
              all_goals (go_ret; exact ⟨rfl, HB5.out.trans (hb.mono HB5.out.size)⟩)
            · obtain ⟨M, hM1, hM2, hM3, hcut⟩ := cut_row g t k w4 h3 h4 h6 h2 hm (by omega)
              generalize rowB t g.data.toList k = X at hzk2 HZK hshort hcut hM3 ⊢
              go_wp2_with (go_at_call 10; refine hcut.mono ?_)
              rintro e w5 ⟨rfl, hB5⟩
              have HB5 := Lib.hid (HB4.out.trans (hB5.mono HB4.out.size))
              clear hB5 hcut
              have haw5 := aw w5 HB5.out
              obtain ⟨Q, hQ1, hQ2⟩ := hM2
              have hz5 : (X.extract 0 (t + M)).size = t + M := by rw [ByteArray.size_extract]; omega
              have hn5 : ((t : Int) + (M : Int)).toNat = t + M := by omega
              have h20 : ¬ (X.size : Int) ≤ 2000 := by omega
              go_wp2_with (go_at_call 7; refine haw5.mono ?_; rintro e w' ⟨rfl, hb⟩)
              all_goals (go_ret; exact ⟨rfl, HB5.out.trans (hb.mono HB5.out.size)⟩)
theorem cuts_all (n : Int) (g : ByteArray) (t : Int) {W : World} (aw : Awk W) : GoodC n g t W := by
  by_cases h : n < 0 ∨ 3000 < n ∨ g.size < 1 ∨ 4 < g.size ∨ t < 0 ∨ 5 < t
  · exact cuts_out n g t h aw
  · by_cases hm : (Utf8.decode g 0).2 = g.size
    · obtain ⟨n', rfl⟩ : ∃ n' : Nat, n = (n' : Int) := ⟨n.toNat, by omega⟩
      obtain ⟨t', rfl⟩ : ∃ t' : Nat, t = (t' : Int) := ⟨t.toNat, by omega⟩
      exact cuts_one n' g t' (by omega) (by omega) (by omega) (by omega) (Lib.hid hm) aw
    · exact cuts_many n g t (by omega) (by omega) (by omega) (by omega) (by omega) (by omega) (Lib.hid hm) aw
end Go.Proofs.YtieiopaobipdoaaGreatDoor.Cut
