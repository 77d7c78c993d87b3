/- registry.New(nil) and Text, in a walk: contracts. -/
import Derived.Test.YtieiopaobipdoaaGreatDoorVT0
import Derived.Test.YtieiopaobipdoaaGreatDoorVT1
import Derived.Test.YtieiopaobipdoaaGreatDoorVT2
import Derived.Test.YtieiopaobipdoaaGreatDoorVT3
namespace Go.Proofs.YtieiopaobipdoaaGreatDoor.HM
open Go Go.RowKit
variable [E : Amb]
omit [E : Amb] in
theorem tx_half (P : Nat → Prop) (a n : Nat) (h1 : a ≤ n) (h2 : n < a + 25) (h : P (a + 0) ∧ P (a + 1) ∧ P (a + 2) ∧ P (a + 3) ∧ P (a + 4) ∧ P (a + 5) ∧ P (a + 6) ∧ P (a + 7) ∧ P (a + 8) ∧ P (a + 9) ∧ P (a + 10) ∧ P (a + 11) ∧ P (a + 12) ∧ P (a + 13) ∧ P (a + 14) ∧ P (a + 15) ∧ P (a + 16) ∧ P (a + 17) ∧ P (a + 18) ∧ P (a + 19) ∧ P (a + 20) ∧ P (a + 21) ∧ P (a + 22) ∧ P (a + 23) ∧ P (a + 24)) : P n := by
  obtain ⟨k, rfl⟩ : ∃ k, n = a + k := ⟨n - a, by omega⟩
  obtain ⟨q0, q1, q2, q3, q4, q5, q6, q7, q8, q9, q10, q11, q12, q13, q14, q15, q16, q17, q18, q19, q20, q21, q22, q23, q24⟩ := h
  have e : k = 0 ∨ k = 1 ∨ k = 2 ∨ k = 3 ∨ k = 4 ∨ k = 5 ∨ k = 6 ∨ k = 7 ∨ k = 8 ∨ k = 9 ∨ k = 10 ∨ k = 11 ∨ k = 12 ∨ k = 13 ∨ k = 14 ∨ k = 15 ∨ k = 16 ∨ k = 17 ∨ k = 18 ∨ k = 19 ∨ k = 20 ∨ k = 21 ∨ k = 22 ∨ k = 23 ∨ k = 24 := by omega
  rcases e with rfl | rfl | rfl | rfl | rfl | rfl | rfl | rfl | rfl | rfl | rfl | rfl | rfl | rfl | rfl | rfl | rfl | rfl | rfl | rfl | rfl | rfl | rfl | rfl | rfl <;> assumption
omit [E : Amb] in
theorem tx_row (i n : Nat) (hn : n < 50) (h0 : okR i 0 = true ∧ okR i 1 = true ∧ okR i 2 = true ∧ okR i 3 = true ∧ okR i 4 = true ∧ okR i 5 = true ∧ okR i 6 = true ∧ okR i 7 = true ∧ okR i 8 = true ∧ okR i 9 = true ∧ okR i 10 = true ∧ okR i 11 = true ∧ okR i 12 = true ∧ okR i 13 = true ∧ okR i 14 = true ∧ okR i 15 = true ∧ okR i 16 = true ∧ okR i 17 = true ∧ okR i 18 = true ∧ okR i 19 = true ∧ okR i 20 = true ∧ okR i 21 = true ∧ okR i 22 = true ∧ okR i 23 = true ∧ okR i 24 = true) (h1 : okR i 25 = true ∧ okR i 26 = true ∧ okR i 27 = true ∧ okR i 28 = true ∧ okR i 29 = true ∧ okR i 30 = true ∧ okR i 31 = true ∧ okR i 32 = true ∧ okR i 33 = true ∧ okR i 34 = true ∧ okR i 35 = true ∧ okR i 36 = true ∧ okR i 37 = true ∧ okR i 38 = true ∧ okR i 39 = true ∧ okR i 40 = true ∧ okR i 41 = true ∧ okR i 42 = true ∧ okR i 43 = true ∧ okR i 44 = true ∧ okR i 45 = true ∧ okR i 46 = true ∧ okR i 47 = true ∧ okR i 48 = true ∧ okR i 49 = true) : okR i n = true := by
  by_cases h : n < 25
  · exact tx_half (fun n => okR i n = true) 0 n (by omega) (by omega) h0
  · exact tx_half (fun n => okR i n = true) 25 n (by omega) (by omega) h1
omit [E : Amb] in
theorem tx_ok (i n : Nat) (hi : i < 4) (hn : n < 50) : okR i n = true := by
  have h00 := tx_0_0
  have h01 := tx_0_1
  have h10 := tx_1_0
  have h11 := tx_1_1
  have h20 := tx_2_0
  have h21 := tx_2_1
  have h30 := tx_3_0
  have h31 := tx_3_1
  simp only [Bool.and_eq_true] at h00 h01 h10 h11 h20 h21 h30 h31
  have e : i = 0 ∨ i = 1 ∨ i = 2 ∨ i = 3 := by omega
  rcases e with rfl | rfl | rfl | rfl
  · exact tx_row 0 n hn h00 h01
  · exact tx_row 1 n hn h10 h11
  · exact tx_row 2 n hn h20 h21
  · exact tx_row 3 n hn h30 h31
omit [E : Amb] in
theorem txL_len (i n : Nat) (hi : i < 4) (hn : n < 50) : (txL i n).length ≤ 100 := by
  have h := tx_ok i n hi hn
  unfold okR at h
  unfold txL
  split at h
  · rename_i l h' e
    simp only [Bool.and_eq_true] at h
    exact Nat.le_of_ble_eq_true h.1
  · cases h
def RegH (S : List Nat) (W : World) (a : Addr) (w : World) : Prop := ∃ ρ, Held gam S W (sndO r0) ρ w ∧ VR ρ (fstO r0) (.pointer (some a))
structure Step (S : List Nat) (W : World) (a : Addr) (w w' : World) : Prop where
  reg : RegH S W a w'
  same : ∀ b ∈ S, w'.heap[b]? = w.heap[b]?
  low : Below W.heap.size W w'
  size : w.heap.size ≤ w'.heap.size
omit [E : Amb] in
theorem new_inv : ∃ a k h', r0 = some (.ptr a k, h') ∧ domT h'.els h'.t = true ∧ a < h'.next := by
  have h := new_ok
  unfold isP at h
  split at h
  · rename_i a k h' e
    simp only [Bool.and_eq_true] at h
    exact ⟨a, k, h', e, h.1, by simpa using h.2⟩
  · cases h
theorem RegH.move {S T : List Nat} {W w w' : World} {a : Addr} (H : RegH S W a w) (hO : Only S w w') (hT : ∀ b ∈ T, b ∈ S ∨ (w.heap.size ≤ b ∧ b < w'.heap.size)) : RegH T W a w' := by
  obtain ⟨ρ, H, hv⟩ := H
  obtain ⟨a', k, h', e, hd, _⟩ := new_inv
  refine ⟨ρ, H.move (by rw [e]; exact hd) hO hT, hv⟩
theorem RegH.grow {S : List Nat} {W w w' : World} {a : Addr} (H : RegH S W a w) (hb : Below w.heap.size w w') : RegH S W a w' := H.move (.of_below hb) fun _ hb => .inl hb
theorem RegH.low {S : List Nat} {W w : World} {a : Addr} (H : RegH S W a w) : Below W.heap.size W w := by
  obtain ⟨ρ, H, _⟩ := H
  exact H.below
theorem RegH.out {S : List Nat} {W w : World} {a : Addr} (H : RegH S W a w) : ∀ b ∈ S, W.heap.size ≤ b ∧ b < w.heap.size := by
  obtain ⟨ρ, H, _⟩ := H
  exact fun b hb => ⟨(H.out b hb).1, (H.out b hb).2.1⟩
theorem Step.of_below {S : List Nat} {W w w' : World} {a : Addr} (H : RegH S W a w) (hb : Below w.heap.size w w') : Step S W a w w' :=
  ⟨H.grow hb, fun b hbS => hb.block b (H.out b hbS).2, H.low.trans (hb.mono H.low.size), hb.size⟩
theorem Step.trans {S : List Nat} {W x y z : World} {a : Addr} (h : Step S W a x y) (k : Step S W a y z) : Step S W a x z :=
  ⟨k.reg, fun b hb => (k.same b hb).trans (h.same b hb), k.low, Nat.le_trans h.size k.size⟩
theorem Step.low' {S : List Nat} {W w w' : World} {a : Addr} (h : Step S W a w w') : Below W.heap.size W w' := h.reg.low
def NewE (W : World) (e : Ending) (w' : World) : Prop := ∃ a, e = .returned (.pointer (some a)) ∧ RegH [] W a w'
def TextE (S : List Nat) (W : World) (a : Addr) (T : List UInt8) (w : World) (e : Ending) (w' : World) : Prop := e = .returned (.string ⟨T.toArray⟩) ∧ Step S W a w w'
theorem new_h {W : World} (hT : Tabs W) : Calls Tryz.prog 12 #[.slice none 0 0] W (NewE W) := by
  obtain ⟨a, k, h', hr, _, hlt⟩ := new_inv
  have hr2 : goK 12 [.nils] Hp.empty = some (.ptr a k, h') := hr
  refine ((goK_sound _) _ _ _ _ hr2 W.heap.size _ _ W #[.slice none 0 0] (Rel.start (glob_ok hT)) (VRs.cons .nils (VRs.nil _))).mono ?_
  rintro e w' ⟨ρ', v, rfl, _, k1, k2⟩
  obtain ⟨L, hL, rfl⟩ := k2.ptr_inv
  refine ⟨_, rfl, ρ', ?_, ?_⟩
  · rw [hr]; exact Held.new k1
  · rw [hr]; exact k2
theorem text_h {S : List Nat} {W w : World} {a : Addr} (i n : Nat) (hi : i < 4) (hn : n < 50) (H : RegH S W a w) :
    Calls Tryz.prog 16 #[.pointer (some a), .string ⟨(nmL.getD i []).toArray⟩, .int .i64 (n : Int)] w (TextE S W a (txL i n) w) := by
  obtain ⟨ρ, H, hv⟩ := H
  have h := tx_ok i n hi hn
  unfold okR at h
  split at h
  · rename_i l h' e
    simp only [Bool.and_eq_true] at h
    have e2 : txL i n = l := by unfold txL; rw [e]
    have hk : goK 16 [fstO r0, .str (nmL.getD i []), .int .i64 (.ofNat n)] (sndO r0) = some (.str l, h') := e
    refine (Held.call (goK_sound _) hk h.2 H (us := #[.pointer (some a), .string ⟨(nmL.getD i []).toArray⟩, .int .i64 (n : Int)]) (VRs.cons hv (VRs.cons (.str _) (VRs.cons (.int _ _) (VRs.nil _))))).mono ?_
    rintro e' w' ⟨ρ2, v, rfl, g1, g2, g3, g4, g5, g6⟩
    obtain ⟨a', k, h2, hr, _, hlt⟩ := new_inv
    have hv2 : VR ρ2 (fstO r0) (.pointer (some a)) := g2 _ _ (by rw [hr]; show (V.ptr a' k).low h2.next = true; simpa [V.low] using hlt) hv
    refine ⟨?_, ⟨⟨ρ2, g1, hv2⟩, g4, g1.below, g6⟩⟩
    rw [(g3 (by simp [V.low])).str_inv, e2]
  · cases h
end Go.Proofs.YtieiopaobipdoaaGreatDoor.HM
