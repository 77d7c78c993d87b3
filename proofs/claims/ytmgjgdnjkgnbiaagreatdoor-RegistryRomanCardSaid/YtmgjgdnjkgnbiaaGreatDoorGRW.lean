/- fleuronlaw11.RegistryRoman at numbers from 1 to 3999: what it computes. -/
import Derived.Test.YtmgjgdnjkgnbiaaGreatDoorGN0
namespace Go.Proofs.YtmgjgdnjkgnbiaaGreatDoor.Reg
open Go Go.RowKit
abbrev GoodR (n : Int) (up : Bool) (W : World) : Prop := Calls Tryz.prog 3 #[.int .i64 n, .bool up] W fun e W' => e = .returned (.bool true) ∧ Below W.heap.size W W'
def ltr : Nat → Nat
  | 0 => 105
  | 1 => 118
  | 2 => 120
  | 3 => 108
  | 4 => 99
  | 5 => 100
  | _ => 109
def lwt : Nat → Nat
  | 0 => 1
  | 1 => 5
  | 2 => 10
  | 3 => 50
  | 4 => 100
  | 5 => 500
  | _ => 1000
def wk (c : Nat) : Nat → Nat
  | 0 => 0
  | k + 1 => if c = ltr k then lwt k else wk c k
def InI (c : Nat) (W : World) (s12 s13 : Value) (W' : World) : Prop := ∃ k : Nat, k ≤ 7 ∧ s13 = .int .i64 (k : Int) ∧ s12 = .int .i64 (wk c k : Int) ∧ Below W.heap.size W W'
def RomI (m : Nat) (v l : Nat → Int) (W : World) (s8 s9 s10 : Value) (W' : World) : Prop := ∃ r : Nat, r ≤ m ∧ s10 = .int .i64 ((r : Int) - 1) ∧ s8 = .int .i64 (v r) ∧ s9 = .int .i64 (l r) ∧ Below W.heap.size W W'
set_option maxRecDepth 100000 in
set_option maxHeartbeats 4000000 in
theorem rom_core (n : Nat) (up : Bool) (N S : ByteArray) (m : Nat) (cc : Nat → Nat) (v l : Nat → Int) {W : World} (R1 : Addr → World → Prop) (hn : 1 ≤ n) (hn2 : n ≤ 3999)
    (hN : (up = false ∧ N = ⟨#[108, 111, 119, 101, 114, 45, 114, 111, 109, 97, 110]⟩) ∨ (up = true ∧ N = ⟨#[85, 80, 80, 69, 82, 45, 114, 111, 109, 97, 110]⟩))
    (cN : Calls Tryz.prog 11 #[.slice none 0 0] W (NewR R1))
    (cT : ∀ a w, R1 a w → Calls Tryz.prog 12 #[.pointer (some a), .string N, .int .i64 (n : Int)] w fun e w' => e = .returned (.string S) ∧ Below W.heap.size W w')
    (aw : ∀ w, Below W.heap.size W w → Calls Tryz.prog 10 #[] w fun e w' => e = .returned (.bool true) ∧ Below w.heap.size w w')
    (hS : Hid (S.size = m)) (hm : m ≤ 15)
    (hc : Hid (∀ r (h : r < S.size), (if up then S[r].toNat + 32 else S[r].toNat) = cc r ∧ 99 ≤ cc r ∧ cc r ≤ 120 ∧ 1 ≤ wk (cc r) 7 ∧ wk (cc r) 7 ≤ 1000 ∧
      (((wk (cc r) 7 : Int) < l (r + 1) ∧ v r = v (r + 1) - (wk (cc r) 7 : Int) ∧ l r = l (r + 1)) ∨ (l (r + 1) ≤ (wk (cc r) 7 : Int) ∧ v r = v (r + 1) + (wk (cc r) 7 : Int) ∧ l r = (wk (cc r) 7 : Int)))))
    (hb : Hid (∀ r, r ≤ m → -20000 ≤ v r ∧ v r ≤ 20000 ∧ 0 ≤ l r ∧ l r ≤ 1000)) (hv0 : Hid (v m = 0)) (hl0 : Hid (l m = 0)) (hvn : Hid (v 0 = (n : Int))) : GoodR n up W := by
  have hd1 : decide ((n : Int) < -5000) = false := by simp <;> omega
  have hd2 : decide ((5000 : Int) < (n : Int)) = false := by simp <;> omega
  have hd3 : decide ((n : Int) < 1) = false := by simp <;> omega
  have hd4 : decide ((3999 : Int) < (n : Int)) = false := by simp <;> omega
  obtain rfl : S.size = m := hS.out
  rcases hN with ⟨rfl, rfl⟩ | ⟨rfl, rfl⟩
  · go_enter Tryz.func3, Tryz.ntmps3
    go_wp2_with (go_at_call 11; refine cN.mono ?_)
    rintro e w1 ⟨a, rfl, hR1⟩
    go_wp2_with (go_at_call 12; refine (cT a w1 hR1).mono ?_)
    rintro e w2 ⟨rfl, hB2⟩
    have HB2 := Lib.hid hB2
    clear hB2 hR1
    go_wp2
    go_loopw [8, 9, 10] (fun s8 s9 s10 W' => RomI S.size v l W s8 s9 s10 W') (fun _ _ s10 _ => (intOf s10 + 1).toNat)
    case atStart => exact ⟨S.size, Nat.le_refl _, rfl, by rw [hv0.out], by rw [hl0.out], HB2.out⟩
    case round =>
      obtain ⟨r, hr, rfl, rfl, rfl, hBr⟩ := hrel
      have HBr := Lib.hid hBr
      clear hBr
      rcases r with _ | r
      · rw [hvn.out]
        have e0 : ((0 : Nat) : Int) - 1 = -1 := rfl
        rw [e0]
        have haw := aw _ HBr.out
        clear e0
        go_wp2_with (go_at_call 10; refine haw.mono ?_; rintro e w5 ⟨rfl, hB6⟩)
        all_goals (go_ret; exact ⟨rfl, HBr.out.trans (hB6.mono HBr.out.size)⟩)
      · obtain ⟨h1, h2, h3, h4, h5, h6⟩ := hc.out r (by omega)
        obtain ⟨b1, b2, b3, b4⟩ := hb.out (r + 1) hr
        obtain ⟨d, hd⟩ : ∃ d, S[r].toNat = d := ⟨_, rfl⟩
        rw [hd] at h1
        have h1' : cc r = d := by simpa using h1.symm
        rw [h1'] at h2 h3 h4 h5 h6
        have hdi : ((S[r].toNat : Nat) : Int) = (d : Int) := by rw [hd]
        have e1 : ((r + 1 : Nat) : Int) - 1 = (r : Int) := by omega
        rw [e1]
        obtain ⟨v1, hv1⟩ : ∃ v1, v (r + 1) = v1 := ⟨_, rfl⟩
        obtain ⟨l1, hl1⟩ : ∃ l1, l (r + 1) = l1 := ⟨_, rfl⟩
        rw [hv1] at h6 b1 b2 ⊢
        rw [hl1] at h6 b3 b4 ⊢
        have H6 := Lib.hid h6
        clear h1 h1' hd e1 hv1 hl1 h6
        have hrs : r < S.size := by omega
        go_wp2
        go_loopw [12, 13] (fun s12 s13 W' => InI d W s12 s13 W') (fun _ s13 _ => (7 - intOf s13).toNat)
        case atStart => exact ⟨0, by omega, rfl, rfl, HBr.out⟩
        case round =>
          obtain ⟨k, hk, rfl, rfl, hBk⟩ := hrel
          have HBk := Lib.hid hBk
          have hsk := hBk.size
          clear hBk
          have h8 : k = 0 ∨ k = 1 ∨ k = 2 ∨ k = 3 ∨ k = 4 ∨ k = 5 ∨ k = 6 ∨ k = 7 := by omega
          rcases h8 with rfl | rfl | rfl | rfl | rfl | rfl | rfl | rfl
          · obtain ⟨x, hx⟩ : ∃ x, wk d 0 = x := ⟨_, rfl⟩
            rw [hx]
            by_cases hq : d = 105
            · have hn1 : Hid (wk d 1 = 1) := Lib.hid (by show (if d = 105 then 1 else wk d 0) = 1; rw [if_pos hq])
              have hb1 : ((((⟨#[105, 118, 120, 108, 99, 100, 109]⟩ : ByteArray)[0]'(by decide)).toNat : Int) == (d : Int)) = true := by show ((105 : Int) == (d : Int)) = true; simp; omega
              clear hx hq
              go_wp2
              go_roundw
              case rel => exact ⟨1, by omega, rfl, by rw [hn1.out]; rfl, HBk.out.alloc hsk _⟩
              case measure => simp [intOf]
            · have hn1 : Hid (wk d 1 = x) := Lib.hid (by rw [← hx]; show (if d = 105 then 1 else wk d 0) = wk d 0; rw [if_neg hq])
              have hb1 : ((((⟨#[105, 118, 120, 108, 99, 100, 109]⟩ : ByteArray)[0]'(by decide)).toNat : Int) == (d : Int)) = false := by show ((105 : Int) == (d : Int)) = false; simp; omega
              clear hx hq
              go_wp2
              go_roundw
              case rel => exact ⟨1, by omega, rfl, by rw [hn1.out], HBk.out⟩
              case measure => simp [intOf]
          · obtain ⟨x, hx⟩ : ∃ x, wk d 1 = x := ⟨_, rfl⟩
            rw [hx]
            by_cases hq : d = 118
            · have hn1 : Hid (wk d 2 = 5) := Lib.hid (by show (if d = 118 then 5 else wk d 1) = 5; rw [if_pos hq])
              have hb1 : ((((⟨#[105, 118, 120, 108, 99, 100, 109]⟩ : ByteArray)[1]'(by decide)).toNat : Int) == (d : Int)) = true := by show ((118 : Int) == (d : Int)) = true; simp; omega
              clear hx hq
              go_wp2
              go_roundw
              case rel => exact ⟨2, by omega, rfl, by rw [hn1.out]; rfl, HBk.out.alloc hsk _⟩
              case measure => simp [intOf]
            · have hn1 : Hid (wk d 2 = x) := Lib.hid (by rw [← hx]; show (if d = 118 then 5 else wk d 1) = wk d 1; rw [if_neg hq])
              have hb1 : ((((⟨#[105, 118, 120, 108, 99, 100, 109]⟩ : ByteArray)[1]'(by decide)).toNat : Int) == (d : Int)) = false := by show ((118 : Int) == (d : Int)) = false; simp; omega
              clear hx hq
              go_wp2
              go_roundw
              case rel => exact ⟨2, by omega, rfl, by rw [hn1.out], HBk.out⟩
              case measure => simp [intOf]
          · obtain ⟨x, hx⟩ : ∃ x, wk d 2 = x := ⟨_, rfl⟩
            rw [hx]
            by_cases hq : d = 120
            · have hn1 : Hid (wk d 3 = 10) := Lib.hid (by show (if d = 120 then 10 else wk d 2) = 10; rw [if_pos hq])
              have hb1 : ((((⟨#[105, 118, 120, 108, 99, 100, 109]⟩ : ByteArray)[2]'(by decide)).toNat : Int) == (d : Int)) = true := by show ((120 : Int) == (d : Int)) = true; simp; omega
              clear hx hq
              go_wp2
              go_roundw
              case rel => exact ⟨3, by omega, rfl, by rw [hn1.out]; rfl, HBk.out.alloc hsk _⟩
              case measure => simp [intOf]
            · have hn1 : Hid (wk d 3 = x) := Lib.hid (by rw [← hx]; show (if d = 120 then 10 else wk d 2) = wk d 2; rw [if_neg hq])
              have hb1 : ((((⟨#[105, 118, 120, 108, 99, 100, 109]⟩ : ByteArray)[2]'(by decide)).toNat : Int) == (d : Int)) = false := by show ((120 : Int) == (d : Int)) = false; simp; omega
              clear hx hq
              go_wp2
              go_roundw
              case rel => exact ⟨3, by omega, rfl, by rw [hn1.out], HBk.out⟩
              case measure => simp [intOf]
          · obtain ⟨x, hx⟩ : ∃ x, wk d 3 = x := ⟨_, rfl⟩
            rw [hx]
            by_cases hq : d = 108
            · have hn1 : Hid (wk d 4 = 50) := Lib.hid (by show (if d = 108 then 50 else wk d 3) = 50; rw [if_pos hq])
              have hb1 : ((((⟨#[105, 118, 120, 108, 99, 100, 109]⟩ : ByteArray)[3]'(by decide)).toNat : Int) == (d : Int)) = true := by show ((108 : Int) == (d : Int)) = true; simp; omega
              clear hx hq
              go_wp2
              go_roundw
              case rel => exact ⟨4, by omega, rfl, by rw [hn1.out]; rfl, HBk.out.alloc hsk _⟩
              case measure => simp [intOf]
            · have hn1 : Hid (wk d 4 = x) := Lib.hid (by rw [← hx]; show (if d = 108 then 50 else wk d 3) = wk d 3; rw [if_neg hq])
              have hb1 : ((((⟨#[105, 118, 120, 108, 99, 100, 109]⟩ : ByteArray)[3]'(by decide)).toNat : Int) == (d : Int)) = false := by show ((108 : Int) == (d : Int)) = false; simp; omega
              clear hx hq
              go_wp2
              go_roundw
              case rel => exact ⟨4, by omega, rfl, by rw [hn1.out], HBk.out⟩
              case measure => simp [intOf]
          · obtain ⟨x, hx⟩ : ∃ x, wk d 4 = x := ⟨_, rfl⟩
            rw [hx]
            by_cases hq : d = 99
            · have hn1 : Hid (wk d 5 = 100) := Lib.hid (by show (if d = 99 then 100 else wk d 4) = 100; rw [if_pos hq])
              have hb1 : ((((⟨#[105, 118, 120, 108, 99, 100, 109]⟩ : ByteArray)[4]'(by decide)).toNat : Int) == (d : Int)) = true := by show ((99 : Int) == (d : Int)) = true; simp; omega
              clear hx hq
              go_wp2
              go_roundw
              case rel => exact ⟨5, by omega, rfl, by rw [hn1.out]; rfl, HBk.out.alloc hsk _⟩
              case measure => simp [intOf]
            · have hn1 : Hid (wk d 5 = x) := Lib.hid (by rw [← hx]; show (if d = 99 then 100 else wk d 4) = wk d 4; rw [if_neg hq])
              have hb1 : ((((⟨#[105, 118, 120, 108, 99, 100, 109]⟩ : ByteArray)[4]'(by decide)).toNat : Int) == (d : Int)) = false := by show ((99 : Int) == (d : Int)) = false; simp; omega
              clear hx hq
              go_wp2
              go_roundw
              case rel => exact ⟨5, by omega, rfl, by rw [hn1.out], HBk.out⟩
              case measure => simp [intOf]
          · obtain ⟨x, hx⟩ : ∃ x, wk d 5 = x := ⟨_, rfl⟩
            rw [hx]
            by_cases hq : d = 100
            · have hn1 : Hid (wk d 6 = 500) := Lib.hid (by show (if d = 100 then 500 else wk d 5) = 500; rw [if_pos hq])
              have hb1 : ((((⟨#[105, 118, 120, 108, 99, 100, 109]⟩ : ByteArray)[5]'(by decide)).toNat : Int) == (d : Int)) = true := by show ((100 : Int) == (d : Int)) = true; simp; omega
              clear hx hq
              go_wp2
              go_roundw
              case rel => exact ⟨6, by omega, rfl, by rw [hn1.out]; rfl, HBk.out.alloc hsk _⟩
              case measure => simp [intOf]
            · have hn1 : Hid (wk d 6 = x) := Lib.hid (by rw [← hx]; show (if d = 100 then 500 else wk d 5) = wk d 5; rw [if_neg hq])
              have hb1 : ((((⟨#[105, 118, 120, 108, 99, 100, 109]⟩ : ByteArray)[5]'(by decide)).toNat : Int) == (d : Int)) = false := by show ((100 : Int) == (d : Int)) = false; simp; omega
              clear hx hq
              go_wp2
              go_roundw
              case rel => exact ⟨6, by omega, rfl, by rw [hn1.out], HBk.out⟩
              case measure => simp [intOf]
          · obtain ⟨x, hx⟩ : ∃ x, wk d 6 = x := ⟨_, rfl⟩
            rw [hx]
            by_cases hq : d = 109
            · have hn1 : Hid (wk d 7 = 1000) := Lib.hid (by show (if d = 109 then 1000 else wk d 6) = 1000; rw [if_pos hq])
              have hb1 : ((((⟨#[105, 118, 120, 108, 99, 100, 109]⟩ : ByteArray)[6]'(by decide)).toNat : Int) == (d : Int)) = true := by show ((109 : Int) == (d : Int)) = true; simp; omega
              clear hx hq
              go_wp2
              go_roundw
              case rel => exact ⟨7, by omega, rfl, by rw [hn1.out]; rfl, HBk.out.alloc hsk _⟩
              case measure => simp [intOf]
            · have hn1 : Hid (wk d 7 = x) := Lib.hid (by rw [← hx]; show (if d = 109 then 1000 else wk d 6) = wk d 6; rw [if_neg hq])
              have hb1 : ((((⟨#[105, 118, 120, 108, 99, 100, 109]⟩ : ByteArray)[6]'(by decide)).toNat : Int) == (d : Int)) = false := by show ((109 : Int) == (d : Int)) = false; simp; omega
              clear hx hq
              go_wp2
              go_roundw
              case rel => exact ⟨7, by omega, rfl, by rw [hn1.out], HBk.out⟩
              case measure => simp [intOf]
          · obtain ⟨x, hx⟩ : ∃ x, wk d 7 = x := ⟨_, rfl⟩
            rw [hx] at h4 h5 H6 ⊢
            have hz : (((x : Nat) : Int) == 0) = false := by simp; omega
            clear hx
            rcases H6.out with ⟨g1, g2, g3⟩ | ⟨g1, g2, g3⟩
            · have G2 := Lib.hid g2
              have G3 := Lib.hid g3
              have hl : decide ((x : Int) < l1) = true := by simp; omega
              clear g2 g3
              go_wp2
              go_roundw
              case rel => exact ⟨r, by omega, by go_num, by rw [G2.out], by rw [G3.out], HBk.out⟩
              case measure => simp [intOf]; try omega
            · have G2 := Lib.hid g2
              have G3 := Lib.hid g3
              have hl : decide ((x : Int) < l1) = false := by simp; omega
              clear g2 g3
              go_wp2
              go_roundw
              case rel => exact ⟨r, by omega, by go_num, by rw [G2.out], by rw [G3.out], HBk.out⟩
              case measure => simp [intOf]; try omega
  · go_enter Tryz.func3, Tryz.ntmps3
    go_wp2_with (go_at_call 11; refine cN.mono ?_)
    rintro e w1 ⟨a, rfl, hR1⟩
    go_wp2_with (go_at_call 12; refine (cT a w1 hR1).mono ?_)
    rintro e w2 ⟨rfl, hB2⟩
    have HB2 := Lib.hid hB2
    clear hB2 hR1
    go_wp2
    go_loopw [8, 9, 10] (fun s8 s9 s10 W' => RomI S.size v l W s8 s9 s10 W') (fun _ _ s10 _ => (intOf s10 + 1).toNat)
    case atStart => exact ⟨S.size, Nat.le_refl _, rfl, by rw [hv0.out], by rw [hl0.out], HB2.out⟩
    case round =>
      obtain ⟨r, hr, rfl, rfl, rfl, hBr⟩ := hrel
      have HBr := Lib.hid hBr
      clear hBr
      rcases r with _ | r
      · rw [hvn.out]
        have e0 : ((0 : Nat) : Int) - 1 = -1 := rfl
        rw [e0]
        have haw := aw _ HBr.out
        clear e0
        go_wp2_with (go_at_call 10; refine haw.mono ?_; rintro e w5 ⟨rfl, hB6⟩)
        all_goals (go_ret; exact ⟨rfl, HBr.out.trans (hB6.mono HBr.out.size)⟩)
      · obtain ⟨h1, h2, h3, h4, h5, h6⟩ := hc.out r (by omega)
        obtain ⟨b1, b2, b3, b4⟩ := hb.out (r + 1) hr
        obtain ⟨d, hd⟩ : ∃ d, S[r].toNat = d := ⟨_, rfl⟩
        rw [hd] at h1
        have h1' : cc r = (d + 32) := by simpa using h1.symm
        rw [h1'] at h2 h3 h4 h5 h6
        have hdi : ((S[r].toNat : Nat) : Int) = (d : Int) := by rw [hd]
        have e1 : ((r + 1 : Nat) : Int) - 1 = (r : Int) := by omega
        rw [e1]
        obtain ⟨v1, hv1⟩ : ∃ v1, v (r + 1) = v1 := ⟨_, rfl⟩
        obtain ⟨l1, hl1⟩ : ∃ l1, l (r + 1) = l1 := ⟨_, rfl⟩
        rw [hv1] at h6 b1 b2 ⊢
        rw [hl1] at h6 b3 b4 ⊢
        have H6 := Lib.hid h6
        clear h1 h1' hd e1 hv1 hl1 h6
        have hrs : r < S.size := by omega
        go_wp2
        go_loopw [12, 13] (fun s12 s13 W' => InI (d + 32) W s12 s13 W') (fun _ s13 _ => (7 - intOf s13).toNat)
        case atStart => exact ⟨0, by omega, rfl, rfl, HBr.out⟩
        case round =>
          obtain ⟨k, hk, rfl, rfl, hBk⟩ := hrel
          have HBk := Lib.hid hBk
          have hsk := hBk.size
          clear hBk
          have h8 : k = 0 ∨ k = 1 ∨ k = 2 ∨ k = 3 ∨ k = 4 ∨ k = 5 ∨ k = 6 ∨ k = 7 := by omega
          rcases h8 with rfl | rfl | rfl | rfl | rfl | rfl | rfl | rfl
          · obtain ⟨x, hx⟩ : ∃ x, wk (d + 32) 0 = x := ⟨_, rfl⟩
            rw [hx]
            by_cases hq : (d + 32) = 105
            · have hn1 : Hid (wk (d + 32) 1 = 1) := Lib.hid (by show (if (d + 32) = 105 then 1 else wk (d + 32) 0) = 1; rw [if_pos hq])
              have hb1 : ((((⟨#[105, 118, 120, 108, 99, 100, 109]⟩ : ByteArray)[0]'(by decide)).toNat : Int) == ((d : Int) + 32)) = true := by show ((105 : Int) == ((d : Int) + 32)) = true; simp; omega
              clear hx hq
              go_wp2
              go_roundw
              case rel => exact ⟨1, by omega, rfl, by rw [hn1.out]; rfl, HBk.out.alloc hsk _⟩
              case measure => simp [intOf]
            · have hn1 : Hid (wk (d + 32) 1 = x) := Lib.hid (by rw [← hx]; show (if (d + 32) = 105 then 1 else wk (d + 32) 0) = wk (d + 32) 0; rw [if_neg hq])
              have hb1 : ((((⟨#[105, 118, 120, 108, 99, 100, 109]⟩ : ByteArray)[0]'(by decide)).toNat : Int) == ((d : Int) + 32)) = false := by show ((105 : Int) == ((d : Int) + 32)) = false; simp; omega
              clear hx hq
              go_wp2
              go_roundw
              case rel => exact ⟨1, by omega, rfl, by rw [hn1.out], HBk.out⟩
              case measure => simp [intOf]
          · obtain ⟨x, hx⟩ : ∃ x, wk (d + 32) 1 = x := ⟨_, rfl⟩
            rw [hx]
            by_cases hq : (d + 32) = 118
            · have hn1 : Hid (wk (d + 32) 2 = 5) := Lib.hid (by show (if (d + 32) = 118 then 5 else wk (d + 32) 1) = 5; rw [if_pos hq])
              have hb1 : ((((⟨#[105, 118, 120, 108, 99, 100, 109]⟩ : ByteArray)[1]'(by decide)).toNat : Int) == ((d : Int) + 32)) = true := by show ((118 : Int) == ((d : Int) + 32)) = true; simp; omega
              clear hx hq
              go_wp2
              go_roundw
              case rel => exact ⟨2, by omega, rfl, by rw [hn1.out]; rfl, HBk.out.alloc hsk _⟩
              case measure => simp [intOf]
            · have hn1 : Hid (wk (d + 32) 2 = x) := Lib.hid (by rw [← hx]; show (if (d + 32) = 118 then 5 else wk (d + 32) 1) = wk (d + 32) 1; rw [if_neg hq])
              have hb1 : ((((⟨#[105, 118, 120, 108, 99, 100, 109]⟩ : ByteArray)[1]'(by decide)).toNat : Int) == ((d : Int) + 32)) = false := by show ((118 : Int) == ((d : Int) + 32)) = false; simp; omega
              clear hx hq
              go_wp2
              go_roundw
              case rel => exact ⟨2, by omega, rfl, by rw [hn1.out], HBk.out⟩
              case measure => simp [intOf]
          · obtain ⟨x, hx⟩ : ∃ x, wk (d + 32) 2 = x := ⟨_, rfl⟩
            rw [hx]
            by_cases hq : (d + 32) = 120
            · have hn1 : Hid (wk (d + 32) 3 = 10) := Lib.hid (by show (if (d + 32) = 120 then 10 else wk (d + 32) 2) = 10; rw [if_pos hq])
              have hb1 : ((((⟨#[105, 118, 120, 108, 99, 100, 109]⟩ : ByteArray)[2]'(by decide)).toNat : Int) == ((d : Int) + 32)) = true := by show ((120 : Int) == ((d : Int) + 32)) = true; simp; omega
              clear hx hq
              go_wp2
              go_roundw
              case rel => exact ⟨3, by omega, rfl, by rw [hn1.out]; rfl, HBk.out.alloc hsk _⟩
              case measure => simp [intOf]
            · have hn1 : Hid (wk (d + 32) 3 = x) := Lib.hid (by rw [← hx]; show (if (d + 32) = 120 then 10 else wk (d + 32) 2) = wk (d + 32) 2; rw [if_neg hq])
              have hb1 : ((((⟨#[105, 118, 120, 108, 99, 100, 109]⟩ : ByteArray)[2]'(by decide)).toNat : Int) == ((d : Int) + 32)) = false := by show ((120 : Int) == ((d : Int) + 32)) = false; simp; omega
              clear hx hq
              go_wp2
              go_roundw
              case rel => exact ⟨3, by omega, rfl, by rw [hn1.out], HBk.out⟩
              case measure => simp [intOf]
          · obtain ⟨x, hx⟩ : ∃ x, wk (d + 32) 3 = x := ⟨_, rfl⟩
            rw [hx]
            by_cases hq : (d + 32) = 108
            · have hn1 : Hid (wk (d + 32) 4 = 50) := Lib.hid (by show (if (d + 32) = 108 then 50 else wk (d + 32) 3) = 50; rw [if_pos hq])
              have hb1 : ((((⟨#[105, 118, 120, 108, 99, 100, 109]⟩ : ByteArray)[3]'(by decide)).toNat : Int) == ((d : Int) + 32)) = true := by show ((108 : Int) == ((d : Int) + 32)) = true; simp; omega
              clear hx hq
              go_wp2
              go_roundw
              case rel => exact ⟨4, by omega, rfl, by rw [hn1.out]; rfl, HBk.out.alloc hsk _⟩
              case measure => simp [intOf]
            · have hn1 : Hid (wk (d + 32) 4 = x) := Lib.hid (by rw [← hx]; show (if (d + 32) = 108 then 50 else wk (d + 32) 3) = wk (d + 32) 3; rw [if_neg hq])
              have hb1 : ((((⟨#[105, 118, 120, 108, 99, 100, 109]⟩ : ByteArray)[3]'(by decide)).toNat : Int) == ((d : Int) + 32)) = false := by show ((108 : Int) == ((d : Int) + 32)) = false; simp; omega
              clear hx hq
              go_wp2
              go_roundw
              case rel => exact ⟨4, by omega, rfl, by rw [hn1.out], HBk.out⟩
              case measure => simp [intOf]
          · obtain ⟨x, hx⟩ : ∃ x, wk (d + 32) 4 = x := ⟨_, rfl⟩
            rw [hx]
            by_cases hq : (d + 32) = 99
            · have hn1 : Hid (wk (d + 32) 5 = 100) := Lib.hid (by show (if (d + 32) = 99 then 100 else wk (d + 32) 4) = 100; rw [if_pos hq])
              have hb1 : ((((⟨#[105, 118, 120, 108, 99, 100, 109]⟩ : ByteArray)[4]'(by decide)).toNat : Int) == ((d : Int) + 32)) = true := by show ((99 : Int) == ((d : Int) + 32)) = true; simp; omega
              clear hx hq
              go_wp2
              go_roundw
              case rel => exact ⟨5, by omega, rfl, by rw [hn1.out]; rfl, HBk.out.alloc hsk _⟩
              case measure => simp [intOf]
            · have hn1 : Hid (wk (d + 32) 5 = x) := Lib.hid (by rw [← hx]; show (if (d + 32) = 99 then 100 else wk (d + 32) 4) = wk (d + 32) 4; rw [if_neg hq])
              have hb1 : ((((⟨#[105, 118, 120, 108, 99, 100, 109]⟩ : ByteArray)[4]'(by decide)).toNat : Int) == ((d : Int) + 32)) = false := by show ((99 : Int) == ((d : Int) + 32)) = false; simp; omega
              clear hx hq
              go_wp2
              go_roundw
              case rel => exact ⟨5, by omega, rfl, by rw [hn1.out], HBk.out⟩
              case measure => simp [intOf]
          · obtain ⟨x, hx⟩ : ∃ x, wk (d + 32) 5 = x := ⟨_, rfl⟩
            rw [hx]
            by_cases hq : (d + 32) = 100
            · have hn1 : Hid (wk (d + 32) 6 = 500) := Lib.hid (by show (if (d + 32) = 100 then 500 else wk (d + 32) 5) = 500; rw [if_pos hq])
              have hb1 : ((((⟨#[105, 118, 120, 108, 99, 100, 109]⟩ : ByteArray)[5]'(by decide)).toNat : Int) == ((d : Int) + 32)) = true := by show ((100 : Int) == ((d : Int) + 32)) = true; simp; omega
              clear hx hq
              go_wp2
              go_roundw
              case rel => exact ⟨6, by omega, rfl, by rw [hn1.out]; rfl, HBk.out.alloc hsk _⟩
              case measure => simp [intOf]
            · have hn1 : Hid (wk (d + 32) 6 = x) := Lib.hid (by rw [← hx]; show (if (d + 32) = 100 then 500 else wk (d + 32) 5) = wk (d + 32) 5; rw [if_neg hq])
              have hb1 : ((((⟨#[105, 118, 120, 108, 99, 100, 109]⟩ : ByteArray)[5]'(by decide)).toNat : Int) == ((d : Int) + 32)) = false := by show ((100 : Int) == ((d : Int) + 32)) = false; simp; omega
              clear hx hq
              go_wp2
              go_roundw
              case rel => exact ⟨6, by omega, rfl, by rw [hn1.out], HBk.out⟩
              case measure => simp [intOf]
          · obtain ⟨x, hx⟩ : ∃ x, wk (d + 32) 6 = x := ⟨_, rfl⟩
            rw [hx]
            by_cases hq : (d + 32) = 109
            · have hn1 : Hid (wk (d + 32) 7 = 1000) := Lib.hid (by show (if (d + 32) = 109 then 1000 else wk (d + 32) 6) = 1000; rw [if_pos hq])
              have hb1 : ((((⟨#[105, 118, 120, 108, 99, 100, 109]⟩ : ByteArray)[6]'(by decide)).toNat : Int) == ((d : Int) + 32)) = true := by show ((109 : Int) == ((d : Int) + 32)) = true; simp; omega
              clear hx hq
              go_wp2
              go_roundw
              case rel => exact ⟨7, by omega, rfl, by rw [hn1.out]; rfl, HBk.out.alloc hsk _⟩
              case measure => simp [intOf]
            · have hn1 : Hid (wk (d + 32) 7 = x) := Lib.hid (by rw [← hx]; show (if (d + 32) = 109 then 1000 else wk (d + 32) 6) = wk (d + 32) 6; rw [if_neg hq])
              have hb1 : ((((⟨#[105, 118, 120, 108, 99, 100, 109]⟩ : ByteArray)[6]'(by decide)).toNat : Int) == ((d : Int) + 32)) = false := by show ((109 : Int) == ((d : Int) + 32)) = false; simp; omega
              clear hx hq
              go_wp2
              go_roundw
              case rel => exact ⟨7, by omega, rfl, by rw [hn1.out], HBk.out⟩
              case measure => simp [intOf]
          · obtain ⟨x, hx⟩ : ∃ x, wk (d + 32) 7 = x := ⟨_, rfl⟩
            rw [hx] at h4 h5 H6 ⊢
            have hz : (((x : Nat) : Int) == 0) = false := by simp; omega
            clear hx
            rcases H6.out with ⟨g1, g2, g3⟩ | ⟨g1, g2, g3⟩
            · have G2 := Lib.hid g2
              have G3 := Lib.hid g3
              have hl : decide ((x : Int) < l1) = true := by simp; omega
              clear g2 g3
              go_wp2
              go_roundw
              case rel => exact ⟨r, by omega, by go_num, by rw [G2.out], by rw [G3.out], HBk.out⟩
              case measure => simp [intOf]; try omega
            · have G2 := Lib.hid g2
              have G3 := Lib.hid g3
              have hl : decide ((x : Int) < l1) = false := by simp; omega
              clear g2 g3
              go_wp2
              go_roundw
              case rel => exact ⟨r, by omega, by go_num, by rw [G2.out], by rw [G3.out], HBk.out⟩
              case measure => simp [intOf]; try omega
end Go.Proofs.YtmgjgdnjkgnbiaaGreatDoor.Reg
