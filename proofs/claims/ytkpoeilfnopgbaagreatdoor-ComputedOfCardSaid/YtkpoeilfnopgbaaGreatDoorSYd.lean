/- The properties' names: prop.Names, prop.Inherits, computed.Allowed. -/
import Derived.Test.YtkpoeilfnopgbaaGreatDoorSYc
import Derived.Test.YtkpoeilfnopgbaaGreatDoorSYs
namespace Go.Proofs.YtkpoeilfnopgbaaGreatDoor.Sty
open Go Go.RowKit
abbrev Tab (w : World) : Prop := Lib.TabIs Tryz.prog w "strings.asciiSpace" .u8 Lib.asciiSpaceTab
def inh (k : Nat) : Bool := k == 0 || k == 6 || k == 7
def alw (p : Int) (k : Nat) : Bool := if p = 0 ∨ p = 1 ∨ p = 2 then decide (k < 8) else if p = 3 then decide (k < 2) else if p = 4 ∨ p = 5 then decide (k = 0) else false
def allZ : List ByteArray := [⟨#[99, 111, 108, 111, 114]⟩, ⟨#[99, 111, 110, 116, 101, 110, 116]⟩, ⟨#[99, 111, 117, 110, 116, 101, 114, 45, 105, 110, 99, 114, 101, 109, 101, 110, 116]⟩, ⟨#[99, 111, 117, 110, 116, 101, 114, 45, 114, 101, 115, 101, 116]⟩, ⟨#[99, 111, 117, 110, 116, 101, 114, 45, 115, 101, 116]⟩, ⟨#[100, 105, 115, 112, 108, 97, 121]⟩, ⟨#[108, 105, 115, 116, 45, 115, 116, 121, 108, 101, 45, 116, 121, 112, 101]⟩, ⟨#[113, 117, 111, 116, 101, 115]⟩]
def inhZ : List ByteArray := [⟨#[99, 111, 108, 111, 114]⟩, ⟨#[108, 105, 115, 116, 45, 115, 116, 121, 108, 101, 45, 116, 121, 112, 101]⟩, ⟨#[113, 117, 111, 116, 101, 115]⟩]
theorem ne_of {n : ByteArray} {l : List UInt8} {m : ByteArray} (h : (n.toList == l) = false) (hm : m.toList = l) : n ≠ m := by
  rintro rfl
  rw [hm] at h
  simp at h
theorem all_in (k : Nat) (n : ByteArray) (hk : NmIs k n) : Lib.containsS allZ n = decide (k < 8) := by
  unfold NmIs at hk
  rcases hk with ⟨rfl, rfl⟩ | ⟨rfl, rfl⟩ | ⟨rfl, rfl⟩ | ⟨rfl, rfl⟩ | ⟨rfl, rfl⟩ | ⟨rfl, rfl⟩ | ⟨rfl, rfl⟩ | ⟨rfl, rfl⟩ | ⟨rfl, e0, e1, e2, e3, e4, e5, e6, e7⟩
  iterate 8 (first | (decide) | skip)
  · have : ¬ n ∈ allZ := by
      unfold allZ
      simp only [List.mem_cons, List.not_mem_nil, or_false, not_or]
      exact ⟨ne_of e0 (ByteArray.toList_mk _), ne_of e1 (ByteArray.toList_mk _), ne_of e2 (ByteArray.toList_mk _), ne_of e3 (ByteArray.toList_mk _), ne_of e4 (ByteArray.toList_mk _), ne_of e5 (ByteArray.toList_mk _), ne_of e6 (ByteArray.toList_mk _), ne_of e7 (ByteArray.toList_mk _)⟩
    have h2 : Lib.containsS allZ n = false := by
      cases h : Lib.containsS allZ n with
      | false => rfl
      | true => exact absurd ((Lib.containsS_iff _ _).1 h) this
    rw [h2]; rfl
theorem inh_in (k : Nat) (n : ByteArray) (hk : NmIs k n) : Lib.containsS inhZ n = inh k := by
  unfold NmIs at hk
  rcases hk with ⟨rfl, rfl⟩ | ⟨rfl, rfl⟩ | ⟨rfl, rfl⟩ | ⟨rfl, rfl⟩ | ⟨rfl, rfl⟩ | ⟨rfl, rfl⟩ | ⟨rfl, rfl⟩ | ⟨rfl, rfl⟩ | ⟨rfl, e0, e1, e2, e3, e4, e5, e6, e7⟩
  iterate 8 (first | (decide) | skip)
  · have : ¬ n ∈ inhZ := by
      unfold inhZ
      simp only [List.mem_cons, List.not_mem_nil, or_false, not_or]
      exact ⟨ne_of e0 (ByteArray.toList_mk _), ne_of e6 (ByteArray.toList_mk _), ne_of e7 (ByteArray.toList_mk _)⟩
    have h2 : Lib.containsS inhZ n = false := by
      cases h : Lib.containsS inhZ n with
      | false => rfl
      | true => exact absurd ((Lib.containsS_iff _ _).1 h) this
    rw [h2]; rfl
theorem fields_all (w : World) (hT : Tab w) : Calls Tryz.prog 39 #[.string ⟨#[99, 111, 108, 111, 114, 32, 99, 111, 110, 116, 101, 110, 116, 32, 99, 111, 117, 110, 116, 101, 114, 45, 105, 110, 99, 114, 101, 109, 101, 110, 116, 32, 99, 111, 117, 110, 116, 101, 114, 45, 114, 101, 115, 101, 116, 32, 99, 111, 117, 110, 116, 101, 114, 45, 115, 101, 116, 32, 100, 105, 115, 112, 108, 97, 121, 32, 108, 105, 115, 116, 45, 115, 116, 121, 108, 101, 45, 116, 121, 112, 101, 32, 113, 117, 111, 116, 101, 115]⟩] w fun e w' => e = .returned (.slice (some ⟨w.heap.size, 0, none⟩) 8 8) ∧ w' = w.alloc (.cells #[.string ⟨#[99, 111, 108, 111, 114]⟩, .string ⟨#[99, 111, 110, 116, 101, 110, 116]⟩, .string ⟨#[99, 111, 117, 110, 116, 101, 114, 45, 105, 110, 99, 114, 101, 109, 101, 110, 116]⟩, .string ⟨#[99, 111, 117, 110, 116, 101, 114, 45, 114, 101, 115, 101, 116]⟩, .string ⟨#[99, 111, 117, 110, 116, 101, 114, 45, 115, 101, 116]⟩, .string ⟨#[100, 105, 115, 112, 108, 97, 121]⟩, .string ⟨#[108, 105, 115, 116, 45, 115, 116, 121, 108, 101, 45, 116, 121, 112, 101]⟩, .string ⟨#[113, 117, 111, 116, 101, 115]⟩] 9) := by
  have := Tryz.strings_Fields ⟨#[99, 111, 108, 111, 114, 32, 99, 111, 110, 116, 101, 110, 116, 32, 99, 111, 117, 110, 116, 101, 114, 45, 105, 110, 99, 114, 101, 109, 101, 110, 116, 32, 99, 111, 117, 110, 116, 101, 114, 45, 114, 101, 115, 101, 116, 32, 99, 111, 117, 110, 116, 101, 114, 45, 115, 101, 116, 32, 100, 105, 115, 112, 108, 97, 121, 32, 108, 105, 115, 116, 45, 115, 116, 121, 108, 101, 45, 116, 121, 112, 101, 32, 113, 117, 111, 116, 101, 115]⟩ w (by decide) (by
    intro j b hb
    have : ∀ b ∈ (⟨#[99, 111, 108, 111, 114, 32, 99, 111, 110, 116, 101, 110, 116, 32, 99, 111, 117, 110, 116, 101, 114, 45, 105, 110, 99, 114, 101, 109, 101, 110, 116, 32, 99, 111, 117, 110, 116, 101, 114, 45, 114, 101, 115, 101, 116, 32, 99, 111, 117, 110, 116, 101, 114, 45, 115, 101, 116, 32, 100, 105, 115, 112, 108, 97, 121, 32, 108, 105, 115, 116, 45, 115, 116, 121, 108, 101, 45, 116, 121, 112, 101, 32, 113, 117, 111, 116, 101, 115]⟩ : ByteArray).data.toList, b.toNat < 128 := by decide
    exact this b (List.mem_of_getElem? hb)) hT
  rwa [show Lib.fields (⟨#[99, 111, 108, 111, 114, 32, 99, 111, 110, 116, 101, 110, 116, 32, 99, 111, 117, 110, 116, 101, 114, 45, 105, 110, 99, 114, 101, 109, 101, 110, 116, 32, 99, 111, 117, 110, 116, 101, 114, 45, 114, 101, 115, 101, 116, 32, 99, 111, 117, 110, 116, 101, 114, 45, 115, 101, 116, 32, 100, 105, 115, 112, 108, 97, 121, 32, 108, 105, 115, 116, 45, 115, 116, 121, 108, 101, 45, 116, 121, 112, 101, 32, 113, 117, 111, 116, 101, 115]⟩ : ByteArray).data.toList = [[99, 111, 108, 111, 114], [99, 111, 110, 116, 101, 110, 116], [99, 111, 117, 110, 116, 101, 114, 45, 105, 110, 99, 114, 101, 109, 101, 110, 116], [99, 111, 117, 110, 116, 101, 114, 45, 114, 101, 115, 101, 116], [99, 111, 117, 110, 116, 101, 114, 45, 115, 101, 116], [100, 105, 115, 112, 108, 97, 121], [108, 105, 115, 116, 45, 115, 116, 121, 108, 101, 45, 116, 121, 112, 101], [113, 117, 111, 116, 101, 115]] by decide] at this
theorem fields_inh (w : World) (hT : Tab w) : Calls Tryz.prog 39 #[.string ⟨#[99, 111, 108, 111, 114, 32, 108, 105, 115, 116, 45, 115, 116, 121, 108, 101, 45, 116, 121, 112, 101, 32, 113, 117, 111, 116, 101, 115]⟩] w fun e w' => e = .returned (.slice (some ⟨w.heap.size, 0, none⟩) 3 3) ∧ w' = w.alloc (.cells #[.string ⟨#[99, 111, 108, 111, 114]⟩, .string ⟨#[108, 105, 115, 116, 45, 115, 116, 121, 108, 101, 45, 116, 121, 112, 101]⟩, .string ⟨#[113, 117, 111, 116, 101, 115]⟩] 9) := by
  have := Tryz.strings_Fields ⟨#[99, 111, 108, 111, 114, 32, 108, 105, 115, 116, 45, 115, 116, 121, 108, 101, 45, 116, 121, 112, 101, 32, 113, 117, 111, 116, 101, 115]⟩ w (by decide) (by
    intro j b hb
    have : ∀ b ∈ (⟨#[99, 111, 108, 111, 114, 32, 108, 105, 115, 116, 45, 115, 116, 121, 108, 101, 45, 116, 121, 112, 101, 32, 113, 117, 111, 116, 101, 115]⟩ : ByteArray).data.toList, b.toNat < 128 := by decide
    exact this b (List.mem_of_getElem? hb)) hT
  rwa [show Lib.fields (⟨#[99, 111, 108, 111, 114, 32, 108, 105, 115, 116, 45, 115, 116, 121, 108, 101, 45, 116, 121, 112, 101, 32, 113, 117, 111, 116, 101, 115]⟩ : ByteArray).data.toList = [[99, 111, 108, 111, 114], [108, 105, 115, 116, 45, 115, 116, 121, 108, 101, 45, 116, 121, 112, 101], [113, 117, 111, 116, 101, 115]] by decide] at this
theorem names_c (w : World) (hT : Tab w) : Calls Tryz.prog 24 #[] w fun e w' => e = .returned (.slice (some ⟨w.heap.size, 0, none⟩) 8 8) ∧ w' = w.alloc (.cells #[.string ⟨#[99, 111, 108, 111, 114]⟩, .string ⟨#[99, 111, 110, 116, 101, 110, 116]⟩, .string ⟨#[99, 111, 117, 110, 116, 101, 114, 45, 105, 110, 99, 114, 101, 109, 101, 110, 116]⟩, .string ⟨#[99, 111, 117, 110, 116, 101, 114, 45, 114, 101, 115, 101, 116]⟩, .string ⟨#[99, 111, 117, 110, 116, 101, 114, 45, 115, 101, 116]⟩, .string ⟨#[100, 105, 115, 112, 108, 97, 121]⟩, .string ⟨#[108, 105, 115, 116, 45, 115, 116, 121, 108, 101, 45, 116, 121, 112, 101]⟩, .string ⟨#[113, 117, 111, 116, 101, 115]⟩] 9) := by
  have hq := fields_all w hT
  go_enter Tryz.func24, Tryz.ntmps24
  go_wp2_with (go_at_call 39; refine hq.mono ?_; rintro e w' ⟨rfl, rfl⟩)
  go_ret
  exact ⟨rfl, rfl⟩
theorem row_at (l : List ByteArray) (w : World) (T : TypeId) (a : Array Value) (h : a = (l.map Value.string).toArray) : ∀ j, j < l.length → (w.alloc (.cells a T)).cell? ⟨w.heap.size, 0 + j, none⟩ = some (.string (l.getD j ByteArray.empty)) := by
  intro j hj
  subst h
  rw [World.cell?_alloc_new]
  simp [List.getD, hj]
theorem idx_bd (zs : List ByteArray) (x : ByteArray) : -1 ≤ Lib.idxOfS zs x ∧ Lib.idxOfS zs x ≤ zs.length := by
  have key : ∀ (zs : List ByteArray) (i : Nat), -1 ≤ Lib.idxFromS zs x i ∧ Lib.idxFromS zs x i ≤ zs.length + i := by
    intro zs
    induction zs with
    | nil => intro i; simp only [Lib.idxFromS, List.length_nil]; omega
    | cons z r ih =>
      intro i
      simp only [Lib.idxFromS]
      split
      · constructor
        · omega
        · simp; omega
      · have := ih (i + 1)
        simp only [List.length_cons]
        omega
  have := key zs 0
  unfold Lib.idxOfS
  exact ⟨this.1, by have := this.2; simpa using this⟩
set_option maxRecDepth 100000 in
theorem place_c (n : ByteArray) (w : World) (hT : Tab w) : Calls Tryz.prog 40 #[.string ⟨#[99, 111, 108, 111, 114, 32, 108, 105, 115, 116, 45, 115, 116, 121, 108, 101, 45, 116, 121, 112, 101, 32, 113, 117, 111, 116, 101, 115]⟩, .string n] w fun e w' => e = .returned (.int .i64 (Lib.idxOfS inhZ n + 1)) ∧ Below w.heap.size w w' := by
  have hq := fields_inh w hT
  have hi := Tryz.slices_Index_string w.heap.size 0 3 3 inhZ n (w.alloc (.cells #[.string ⟨#[99, 111, 108, 111, 114]⟩, .string ⟨#[108, 105, 115, 116, 45, 115, 116, 121, 108, 101, 45, 116, 121, 112, 101]⟩, .string ⟨#[113, 117, 111, 116, 101, 115]⟩] 9)) (by decide) (by decide) (row_at inhZ w _ _ rfl)
  rw [show inhZ.take 3 = inhZ from rfl] at hi
  have hb := idx_bd inhZ n
  have hl : inhZ.length = 3 := rfl
  rw [hl] at hb
  clear hl
  obtain ⟨b1, b2⟩ := hb
  generalize Lib.idxOfS inhZ n = z at hi b1 b2
  go_enter Tryz.func40, Tryz.ntmps40
  go_wp2_with (first
    | (go_at_call 39; refine hq.mono ?_; rintro e w' ⟨rfl, rfl⟩)
    | (go_at_call 61; refine hi.mono ?_; rintro e w' ⟨rfl, rfl⟩))
  go_ret
  exact ⟨rfl, (Below.refl _ _).alloc (Nat.le_refl _) _⟩
theorem inherits_c (k : Nat) (n : ByteArray) (w : World) (hk : NmIs k n) (hT : Tab w) : Calls Tryz.prog 25 #[.string n] w fun e w' => e = .returned (.bool (inh k)) ∧ Below w.heap.size w w' := by
  have hq := place_c n w hT
  have he : decide (0 < Lib.idxOfS inhZ n + 1) = inh k := by
    rw [← inh_in k n hk]
    unfold Lib.containsS
    exact decide_eq_decide.2 (by omega)
  have hb := idx_bd inhZ n
  generalize Lib.idxOfS inhZ n = z at hq he hb
  obtain ⟨b1, b2⟩ := hb
  have HE := Lib.hid he
  clear he
  go_enter Tryz.func25, Tryz.ntmps25
  go_wp2_with (go_at_call 40; refine hq.mono ?_; rintro e w' ⟨rfl, hb⟩)
  go_ret
  refine ⟨?_, hb⟩
  rw [← HE.out]
  first | rfl | (congr 2; exact decide_eq_decide.2 (by omega))
set_option maxHeartbeats 1000000 in
theorem allowed_c (p : Int) (k : Nat) (n : ByteArray) (w : World) (hk : NmIs k n) (hT : Tab w) : Calls Tryz.prog 22 #[.int .i64 p, .string n] w fun e w' => e = .returned (.bool (alw p k)) ∧ Below w.heap.size w w' := by
  have hq := names_c w hT
  have hc := Tryz.slices_Contains_string w.heap.size 0 8 8 allZ n (w.alloc (.cells #[.string ⟨#[99, 111, 108, 111, 114]⟩, .string ⟨#[99, 111, 110, 116, 101, 110, 116]⟩, .string ⟨#[99, 111, 117, 110, 116, 101, 114, 45, 105, 110, 99, 114, 101, 109, 101, 110, 116]⟩, .string ⟨#[99, 111, 117, 110, 116, 101, 114, 45, 114, 101, 115, 101, 116]⟩, .string ⟨#[99, 111, 117, 110, 116, 101, 114, 45, 115, 101, 116]⟩, .string ⟨#[100, 105, 115, 112, 108, 97, 121]⟩, .string ⟨#[108, 105, 115, 116, 45, 115, 116, 121, 108, 101, 45, 116, 121, 112, 101]⟩, .string ⟨#[113, 117, 111, 116, 101, 115]⟩] 9)) (by decide) (by decide) (row_at allZ w _ _ rfl)
  rw [show allZ.take 8 = allZ from rfl, all_in k n hk] at hc
  by_cases h : p = 0 ∨ p = 1 ∨ p = 2
  · have HA : Hid (decide (k < 8) = alw p k) := Lib.hid (by unfold alw; rw [if_pos h])
    rcases h with rfl | rfl | rfl
    all_goals
      go_enter Tryz.func22, Tryz.ntmps22
      go_wp2_with (first
        | (go_at_call 24; refine hq.mono ?_; rintro e w' ⟨rfl, rfl⟩)
        | (go_at_call 38; refine hc.mono ?_; rintro e w' ⟨rfl, rfl⟩))
      go_ret
      refine ⟨?_, (Below.refl _ _).alloc (Nat.le_refl _) _⟩
      rw [← HA.out]
      rfl
  · have h0 : (p == 0) = false := by simp; omega
    have h1 : (p == 1) = false := by simp; omega
    have h2 : (p == 2) = false := by simp; omega
    clear hq hc
    by_cases h3 : p = 3
    · subst h3
      have hk2 := hk
      have HA : Hid (decide (k < 2) = alw 3 k) := Lib.hid rfl
      clear hk h
      unfold NmIs at hk2
      rcases hk2 with ⟨rfl, rfl⟩ | ⟨rfl, rfl⟩ | ⟨rfl, rfl⟩ | ⟨rfl, rfl⟩ | ⟨rfl, rfl⟩ | ⟨rfl, rfl⟩ | ⟨rfl, rfl⟩ | ⟨rfl, rfl⟩ | ⟨rfl, e0, e1, e2, e3, e4, e5, e6, e7⟩
      all_goals
        go_enter Tryz.func22, Tryz.ntmps22
        go_wp2
        go_ret
        exact ⟨rfl, Below.refl _ _⟩
    · have h3' : (p == 3) = false := by simp; omega
      by_cases h4 : p = 4 ∨ p = 5
      · have HA : Hid (decide (k = 0) = alw p k) := Lib.hid (by unfold alw; rw [if_neg h, if_neg h3, if_pos h4])
        have hk2 := hk
        clear hk h h3
        unfold NmIs at hk2
        rcases h4 with rfl | rfl <;> rcases hk2 with ⟨rfl, rfl⟩ | ⟨rfl, rfl⟩ | ⟨rfl, rfl⟩ | ⟨rfl, rfl⟩ | ⟨rfl, rfl⟩ | ⟨rfl, rfl⟩ | ⟨rfl, rfl⟩ | ⟨rfl, rfl⟩ | ⟨rfl, e0, e1, e2, e3, e4, e5, e6, e7⟩
        all_goals
          go_enter Tryz.func22, Tryz.ntmps22
          go_wp2
          go_ret
          exact ⟨rfl, Below.refl _ _⟩
      · have HA : Hid (false = alw p k) := Lib.hid (by unfold alw; rw [if_neg h, if_neg h3, if_neg h4])
        have h4' : (p == 4) = false := by simp; omega
        have h5 : (p == 5) = false := by simp; omega
        clear hk h h3 h4
        go_enter Tryz.func22, Tryz.ntmps22
        go_wp2
        go_ret
        refine ⟨?_, Below.refl _ _⟩
        rw [← HA.out]
        rfl
end Go.Proofs.YtkpoeilfnopgbaaGreatDoor.Sty
