/- show.pseudo of any number; strconv.Itoa, strings.Repeat of blanks, strings.Join with blanks, told by the words of a box. -/
import Derived.Test.YtfobenohimepaaaDoorKU
import Derived.Test.YtfobenohimepaaaDoorKH
namespace Go.Proofs.YtfobenohimepaaaDoor.Num
open Go Go.RowKit Go.Sort
theorem decDigits_eq (u : Nat) : Lib.decDigits u = digs u := by
  induction u using Nat.strongRecOn with
  | _ u ih =>
    rw [Lib.decDigits, digs]
    split
    · rfl
    · rw [ih (u / 10) (by omega)]
theorem itoa_eq (n : Int) : Lib.itoa n = decI n := by
  unfold Lib.itoa decI
  by_cases h : n < 0
  · rw [if_pos h, if_neg (by omega), decDigits_eq, show n.natAbs = (-n).toNat by omega]
  · rw [if_neg h, if_pos (by omega), decDigits_eq]
theorem repeat_eq (c : Nat) : Lib.repeatL [32, 32] c = ind c := by
  unfold ind
  induction c with
  | zero => rfl
  | succ c ih => rw [Lib.repeatL, ih, show 2 * (c + 1) = 2 * c + 1 + 1 from by omega, List.replicate_succ, List.replicate_succ]; rfl
theorem tab_keep {w w' : World} {n : String} {k : IntKind} {zs : List Int} (h : Lib.TabIs Tryd.prog w n k zs) (hb : Below w.heap.size w w') : Lib.TabIs Tryd.prog w' n k zs := by
  unfold Lib.TabIs World.var? at h ⊢
  cases hg : Tryd.prog.globalNamed n with
  | none => rw [hg] at h; cases h
  | some g =>
    rw [hg, Option.bind_some] at h
    rw [Option.bind_some]
    have hlt : g < w.heap.size := by
      rcases Nat.lt_or_ge g w.heap.size with h' | h'
      · exact h'
      · rw [Array.getElem?_eq_none h'] at h; cases h
    rw [hb.block g hlt]; exact h
def Tab (w : World) : Prop := Lib.TabIs Tryd.prog w "internal/strconv.uint64pow10" .u64 Lib.pow10Tab ∧ Lib.TabIs Tryd.prog w "strings.asciiSpace" .u8 Lib.asciiSpaceTab
theorem Tab.keep {w w' : World} (h : Tab w) (hb : Below w.heap.size w w') : Tab w' := ⟨tab_keep h.1 hb, tab_keep h.2 hb⟩
theorem below_grow (w : World) (k : Nat) (os : Array Obj) : Below w.heap.size w (grow (w.drewN k) os) :=
  ⟨rfl, rfl, rfl, by show w.heap.size ≤ (w.heap ++ os).size; simp, fun i hi => by show (w.heap ++ os)[i]? = w.heap[i]?; rw [Array.getElem?_append_left hi]⟩
theorem itoa_of (n : Int) (w : World) (h0 : -9223372036854775808 ≤ n) (h1 : n ≤ 9223372036854775807) (hT : Tab w) : Calls Tryd.prog 17 #[.int .i64 n] w (StrOf (decI n) 20 w) := by
  refine strOf ?_ (decI_len n h0 h1)
  refine (Tryd.strconv_Itoa n h0 h1 w hT.1).mono ?_
  rintro e w' ⟨rfl, k, os, rfl⟩
  exact ⟨by rw [itoa_eq], below_grow _ _ _⟩
theorem repeat_of (c : Nat) (w : World) (hc : c ≤ 200) : Calls Tryd.prog 16 #[.string ⟨#[32, 32]⟩, .int .i64 c] w (StrOf (ind c) 400 w) := by
  refine strOf ?_ (by rw [ind_len]; omega)
  have := Tryd.strings_Repeat ⟨#[32, 32]⟩ c w (by omega) (by show 2 * c ≤ _; omega)
  rwa [show (⟨#[32, 32]⟩ : ByteArray).data.toList = [32, 32] from rfl, repeat_eq] at this
def wordsA : ByteArray := ⟨#[115, 101, 108, 102, 32, 98, 101, 102, 111, 114, 101, 32, 97, 102, 116, 101, 114, 32, 109, 97, 114, 107, 101, 114, 32, 102, 105, 114, 115, 116, 45, 108, 101, 116, 116, 101, 114, 32, 102, 105, 114, 115, 116, 45, 108, 105, 110, 101]⟩
theorem fields_of (w : World) (hT : Tab w) : Calls Tryd.prog 34 #[.string wordsA] w fun e w' => e = .returned (.slice (some ⟨w.heap.size, 0, none⟩) 6 6) ∧ w' = w.alloc wordsO := by
  have := Tryd.strings_Fields wordsA w (by decide) (by
    intro j b hb
    have : ∀ b ∈ wordsA.data.toList, b.toNat < 128 := by decide
    exact this b (List.mem_of_getElem? hb)) hT.2
  rwa [show Lib.fields wordsA.data.toList = wordL by decide] at this
set_option maxRecDepth 100000 in
set_option maxHeartbeats 1000000 in
theorem pseudo_of (p : Int) (w : World) (h0 : -9223372036854775808 ≤ p) (h1 : p ≤ 9223372036854775807) (hT : Tab w) : Calls Tryd.prog 18 #[.int .i64 p] w (StrOf (psS p) 20 w) := by
  have HT := Lib.hid hT
  have hB := Lib.hid ((Below.refl w.heap.size w).alloc (Nat.le_refl _) wordsO)
  have hF := fields_of w hT
  clear hT
  by_cases h5 : 0 ≤ p ∧ p ≤ 5
  · have h6 : p = 0 ∨ p = 1 ∨ p = 2 ∨ p = 3 ∨ p = 4 ∨ p = 5 := by omega
    have k0 := words_cell w 0 (by decide)
    have k1 := words_cell w 1 (by decide)
    have k2 := words_cell w 2 (by decide)
    have k3 := words_cell w 3 (by decide)
    have k4 := words_cell w 4 (by decide)
    have k5 := words_cell w 5 (by decide)
    clear h5
    rcases h6 with rfl | rfl | rfl | rfl | rfl | rfl
    all_goals
      go_enter Tryd.func18, Tryd.ntmps18
      go_wp2_with (go_at_call 34; refine hF.mono ?_; rintro e w2 ⟨rfl, rfl⟩)
      go_ret
      exact ⟨_, Lib.hid rfl, by decide, rfl, hB.out⟩
  · have HP : Hid (psS p = decI p) := Lib.hid (by unfold psS; rw [if_neg h5])
    have hI := itoa_of p (w.alloc wordsO) h0 h1 (HT.out.keep hB.out)
    rw [HP.out]
    by_cases h6 : p < 0
    all_goals
      have h7 : p < 0 ∨ 6 ≤ p := by omega
      go_enter Tryd.func18, Tryd.ntmps18
      go_wp2_with (first | (go_at_call 34; refine hF.mono ?_; rintro e w2 ⟨rfl, rfl⟩) | (go_at_call 17; refine hI.mono ?_; rintro e w3 ⟨D, HD, zD, rfl, hB3⟩))
      all_goals first
        | (exfalso; omega)
        | (go_ret; exact ⟨D, HD, zD, rfl, hB.out.trans (hB3.mono hB.out.size)⟩)
end Go.Proofs.YtfobenohimepaaaDoor.Num
