/- fleuronlaw11.RegistryLetters at numbers from 1 on: the texts of the run are those of the walk. -/
import Derived.Test.YtmgjgdnjkgnbiaaGreatDoorGT
import Derived.Test.YtmgjgdnjkgnbiaaGreatDoorGN0
import Derived.Test.YtmgjgdnjkgnbiaaGreatDoorPE
namespace Go.Proofs.YtmgjgdnjkgnbiaaGreatDoor.HM
open Go Go.RowKit
abbrev Amb.three (n : Int) (T0 T1 T2 : ByteArray) (h0 : T0.size ≤ 100) (h1 : T1.size ≤ 100) (h2 : T2.size ≤ 100) : Amb where
  num a := if a < 3000 then n else if a = 3000 then (Lib.runeCount T0 : Int) else if a = 3001 then (Lib.runeCount T1 : Int) else if a = 3002 then (Lib.runeCount T2 : Int) else if a = 5100 then (T0.size : Int) else if a = 9196 then (T1.size : Int) else if a = 13292 then (T2.size : Int) else 0
  str i := if i = 100 then T0 else if i = 4196 then T1 else if i = 8292 then T2 else ByteArray.empty
  lim i := by
    split
    · rename_i e; subst e; exact h0
    · split
      · rename_i e; subst e; exact h1
      · split
        · rename_i e; subst e; exact h2
        · exact Nat.zero_le _
  len i := by
    rw [if_neg (by omega), if_neg (by omega), if_neg (by omega), if_neg (by omega)]
    by_cases e0 : i = 100
    · subst e0; rfl
    · rw [if_neg (by omega), if_neg e0]
      by_cases e1 : i = 4196
      · subst e1; rfl
      · rw [if_neg (by omega), if_neg e1]
        by_cases e2 : i = 8292
        · subst e2; rfl
        · rw [if_neg (by omega), if_neg e2]; rfl
  bnd g hg := by
    rw [tot_zero 10 _ fun i h1 h2 => by rw [if_neg (by omega), if_neg (by omega), if_neg (by omega), if_neg (by omega), if_neg (by omega), if_neg (by omega), if_neg (by omega)]]
    unfold capG; split <;> omega
theorem rune_pos (s : ByteArray) (h : 0 < s.size) : 1 ≤ Lib.runeCount s := by
  unfold Lib.runeCount
  obtain ⟨k, hk⟩ : ∃ k, s.size = k + 1 := ⟨s.size - 1, by omega⟩
  rw [hk]
  unfold Lib.runeCountFrom
  rw [if_pos (by omega)]; omega
variable [E : Amb]
omit [E : Amb] in
theorem isP_inv {o : Option (V × Hp)} (h : isP o = true) : ∃ a k h', o = some (.ptr a k, h') := by
  cases o with
  | none => cases h
  | some p =>
    obtain ⟨v, h'⟩ := p
    cases v <;> first | (exact ⟨_, _, _, rfl⟩) | (cases h)
omit [E : Amb] in
theorem isO_inv {i : Nat} {o : Option (V × Hp)} (h : isO i o = true) : ∃ h', o = some (.mod 0 i, h') := by
  cases o with
  | none => cases h
  | some p =>
    obtain ⟨v, h'⟩ := p
    have h2 : V.same v (.mod 0 i) = true := h
    have := V.same_eq _ _ h2
    exact ⟨h', by rw [this]⟩
def RegI (W : World) (h : Hp) (a : Addr) (w : World) : Prop := ∃ ρ, Rel gam W.heap.size ⟨W, 0, Ren.nil, []⟩ ρ h w ∧ VR ρ (fstO r0) (.pointer (some a))
theorem new_c (hP : isP r0 = true) {W : World} (hT : Tabs W) : Calls Tryz.prog 11 #[.slice none 0 0] W (Reg.NewR (RegI W (sndO r0))) := by
  obtain ⟨a, k, h', hr⟩ := isP_inv hP
  have hr2 : goC 11 [.nils] Hp.empty = some (.ptr a k, h') := hr
  refine ((goC_sound _) _ _ _ _ hr2 W.heap.size _ _ W #[.slice none 0 0] (Rel.start (glob_ok hT)) (VRs.cons .nils (VRs.nil _))).mono ?_
  rintro e w' ⟨ρ', v, rfl, _, k1, k2⟩
  obtain ⟨L, hL, rfl⟩ := k2.ptr_inv
  refine ⟨_, rfl, ρ', ?_, ?_⟩
  · rw [hr]; exact k1
  · rw [hr]; exact k2
theorem text_c {S : List Sty} (K : KnownS S) {name : List UInt8} {hi : Int} {o : Option (V × Hp)} {i : Nat} (hr : isO i (rT S name hi o) = true) (hn : E.num 0 ≤ hi) {n : Int} (he : n = E.num 0) {W w : World} {a : Addr} (h : RegI W (sndO o) a w) :
    Calls Tryz.prog 12 #[.pointer (some a), .string ⟨name.toArray⟩, .int .i64 n] w fun e w' => e = .returned (.string (E.str i)) ∧ RegI W (sndO (rT S name hi o)) a w' := by
  obtain ⟨ρ, H, hv⟩ := h
  obtain ⟨h2, hk⟩ := isO_inv hr
  have hk2 : goS S 12 [fstO r0, .str name, nV hi] (sndO o) = some (.mod 0 i, h2) := hk
  have hvn : VR ρ (nV hi) (.int .i64 n) := by
    subst he
    refine .lin _ _ _ _ (fun t ht => ?_) (by simp only [sumR, valR]; omega)
    simp only [List.mem_singleton] at ht; subst ht
    exact ⟨K.n1, hn⟩
  refine ((goS_sound K _) _ _ _ _ hk2 W.heap.size _ _ w #[.pointer (some a), .string ⟨name.toArray⟩, .int .i64 n] H (VRs.cons hv (VRs.cons (.str name) (VRs.cons hvn (VRs.nil _))))).mono ?_
  rintro e w' ⟨ρ', v, rfl, hx, k1, k2⟩
  obtain rfl := opq_inv k2
  refine ⟨rfl, ρ', ?_, hv.ext hx⟩
  rw [hk]; exact k1
theorem RegI.below {W w : World} {h : Hp} {a : Addr} (k : RegI W h a w) : Below W.heap.size W w := by
  obtain ⟨ρ, H, _⟩ := k
  exact H.below
end Go.Proofs.YtmgjgdnjkgnbiaaGreatDoor.HM
namespace Go.Proofs.YtmgjgdnjkgnbiaaGreatDoor.Reg
open Go Go.RowKit
theorem tabs_move {W w' : World} (h : HM.Tabs W) (hb : Below W.heap.size W w') : HM.Tabs w' := by
  letI : HM.Amb := HM.Amb.none
  obtain ⟨arr, el, fr, h1, h2, _⟩ := HM.tab_at HM.gNameS h
  unfold HM.Tabs Lib.TabIs World.var? at *
  rw [HM.gNameS, Option.bind_some] at *
  rw [hb.block _ h2]
  exact h
end Go.Proofs.YtmgjgdnjkgnbiaaGreatDoor.Reg
