/- The five texts of a number of two digits by letters: their sizes. -/
import Derived.Test.YtmgjgdnjkgnbiaaGreatDoorOM
import Derived.Test.YtmgjgdnjkgnbiaaGreatDoorGLP
namespace Go.Proofs.YtmgjgdnjkgnbiaaGreatDoor.Reg
open Go Go.RowKit
theorem own_let_text (L : List (List UInt8)) (fr n : Nat) (hL : ∀ d, d < 26 → L.getD d [] = [UInt8.ofNat (fr + d)]) : chS L (pos 26 n) = (pos 26 n).reverse.map fun d => UInt8.ofNat (fr + d) := by
  unfold chS
  exact flatMap_map _ _ _ fun d hd => hL d (pos_lt 26 (by decide) n d (List.mem_reverse.1 hd))
theorem own_pos31 (K n : Nat) (hK : 2 ≤ K) (h : n < 2147483648) : (pos K n).reverse.length ≤ 31 := by
  rw [List.length_reverse]; exact pos_len K hK 31 n (by omega)
theorem own_let_sizes (n : Nat) (h1 : 1 ≤ n) (h2 : n < 2147483648) (L : List (List UInt8)) (fr : Nat) (hL : ∀ d, d < 26 → L.getD d [] = [UInt8.ofNat (fr + d)]) : (⟨(chS L (pos 26 n)).toArray⟩ : ByteArray).size ≤ 100 ∧ 0 < (⟨(chS L (pos 26 n)).toArray⟩ : ByteArray).size := by
  rw [own_let_text L fr n hL]
  have h3 := own_pos31 26 n (by decide) h2
  have h4 := pos_ne 26 n h1 (by decide)
  have e : (⟨((pos 26 n).reverse.map fun d => UInt8.ofNat (fr + d)).toArray⟩ : ByteArray).size = (pos 26 n).reverse.length := by show (List.toArray _).size = _; simp
  rw [e]
  refine ⟨by omega, ?_⟩
  rw [List.length_reverse]
  exact List.length_pos_iff.2 h4
theorem own_grk_size (n : Nat) : (⟨(chS HM.grkL (pos 24 n)).toArray⟩ : ByteArray).size = 2 * (pos 24 n).reverse.length := by
  have h2 : ∀ d ∈ (pos 24 n).reverse, (HM.grkL.getD d []).length = 2 := fun d hd => by
    obtain ⟨a, b, e, _⟩ := grk_at d (pos_lt 24 (by decide) n d (List.mem_reverse.1 hd)); rw [e]; rfl
  show (List.toArray _).size = _
  rw [List.size_toArray]
  exact (flat2 (fun p => HM.grkL.getD p []) _ h2).1
theorem own_rom (up : Bool) (n : Nat) (h1 : 1 ≤ n) (h : n < 4000) : (rom (romL up) n).length ≤ 15 ∧ 0 < (rom (romL up) n).length := by
  have h2 := rom_ok up n h
  unfold romOk at h2
  simp only [Bool.and_eq_true, decide_eq_true_eq] at h2
  refine ⟨h2.2.2.1, ?_⟩
  rcases Nat.eq_zero_or_pos (rom (romL up) n).length with h0 | h0
  · have e := List.eq_nil_of_length_eq_zero h0
    have h3 := h2.2.1
    rw [e] at h3
    have h4 : (0 : Int) = (n : Int) := h3
    omega
  · exact h0
def txs (n : Nat) : List ByteArray := [⟨(chS HM.lowL (pos 26 n)).toArray⟩, ⟨(chS HM.uppL (pos 26 n)).toArray⟩, ⟨(chS HM.grkL (pos 24 n)).toArray⟩, ⟨(rom loR n).toArray⟩, ⟨(rom upR n).toArray⟩]
theorem txs_ok (n : Nat) (h1 : 1 ≤ n) (h2 : n < 4000) : ∀ T ∈ txs n, T.size ≤ 100 ∧ 0 < T.size := by
  intro T hT
  have sz : ∀ l : List UInt8, (⟨l.toArray⟩ : ByteArray).size = l.length := fun l => by show (List.toArray _).size = _; simp
  simp only [txs, List.mem_cons, List.not_mem_nil, or_false] at hT
  rcases hT with rfl | rfl | rfl | rfl | rfl
  · exact own_let_sizes n h1 (by omega) HM.lowL 97 low_at
  · exact own_let_sizes n h1 (by omega) HM.uppL 65 upp_at
  · have xa := own_grk_size n
    have x3 := own_pos31 24 n (by decide) (by omega)
    have x4 : 0 < (pos 24 n).reverse.length := by rw [List.length_reverse]; exact List.length_pos_iff.2 (pos_ne 24 n h1 (by decide))
    rw [xa]; omega
  · have := own_rom false n h1 h2
    rw [sz]; exact ⟨by have := this.1; simp only [romL] at this; simp at this; omega, this.2⟩
  · have := own_rom true n h1 h2
    rw [sz]; exact ⟨by have := this.1; simp only [romL] at this; simp at this; omega, this.2⟩
theorem own_known (n : Nat) (h1 : 1 ≤ n) (h2 : n < 4000) (ns : List Int) (x : HM.V) (hx : letI := HM.Amb.tx ns (txs n) (fun T hT => (txs_ok n h1 h2 T hT).1); ∀ (ρ : HM.Ren) (u : Value), HM.VR ρ x u → u = .int .i64 (n : Int)) :
    letI := HM.Amb.tx ns (txs n) (fun T hT => (txs_ok n h1 h2 T hT).1); HM.KnownN HM.S5 n x := by
  letI := HM.Amb.tx ns (txs n) (fun T hT => (txs_ok n h1 h2 T hT).1)
  have hp := txs_ok n h1 h2
  refine ⟨h1, by omega, hx, ?_, ?_, ?_, ?_, ?_⟩
  · intro s hs
    simp only [HM.S5, List.mem_cons, List.not_mem_nil, or_false] at hs
    rcases hs with rfl | rfl | rfl | rfl | rfl <;> rfl
  · intro s hs
    simp only [HM.S5, List.mem_cons, List.not_mem_nil, or_false] at hs
    rcases hs with rfl | rfl | rfl | rfl | rfl <;> rfl
  · intro s hs
    simp only [HM.S5, List.mem_cons, List.not_mem_nil, or_false] at hs
    rcases hs with rfl | rfl | rfl | rfl | rfl
    · exact HM.rune_pos ((txs n)[0]'(by show 0 < 5; decide)) (hp _ (List.getElem_mem _)).2
    · exact HM.rune_pos ((txs n)[1]'(by show 1 < 5; decide)) (hp _ (List.getElem_mem _)).2
    · exact HM.rune_pos ((txs n)[2]'(by show 2 < 5; decide)) (hp _ (List.getElem_mem _)).2
    · exact HM.rune_pos ((txs n)[3]'(by show 3 < 5; decide)) (hp _ (List.getElem_mem _)).2
    · exact HM.rune_pos ((txs n)[4]'(by show 4 < 5; decide)) (hp _ (List.getElem_mem _)).2
  · intro s hs ha
    simp only [HM.S5, List.mem_cons, List.not_mem_nil, or_false] at hs
    rcases hs with rfl | rfl | rfl | rfl | rfl <;> first | (cases ha; done) | exact ⟨h2, by decide⟩
  · intro s hs ha
    simp only [HM.S5, List.mem_cons, List.not_mem_nil, or_false] at hs
    rcases hs with rfl | rfl | rfl | rfl | rfl <;> first | (cases ha; done) | exact ⟨by decide, by decide⟩
end Go.Proofs.YtmgjgdnjkgnbiaaGreatDoor.Reg
