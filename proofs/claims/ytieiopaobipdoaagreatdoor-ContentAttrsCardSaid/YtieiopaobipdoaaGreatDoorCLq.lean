/- fleuronlaw18.ContentAttrs: for all arguments. -/
import Derived.Test.YtieiopaobipdoaaGreatDoorCLf
import Derived.Test.YtieiopaobipdoaaGreatDoorTWB
namespace Go.Proofs.YtieiopaobipdoaaGreatDoor.HM
open Go Go.RowKit
variable [E : Amb]
omit [E : Amb] in
theorem dec_run : (goK 18 [.int .i64 (.ofNat 0)] Hp.empty).map (·.1) = some (.str [48]) ∧ (goK 18 [.int .i64 (.ofNat 1)] Hp.empty).map (·.1) = some (.str [49]) ∧
    (goK 18 [.int .i64 (.ofNat 2)] Hp.empty).map (·.1) = some (.str [50]) ∧ (goK 18 [.int .i64 (.ofNat 3)] Hp.empty).map (·.1) = some (.str [51]) ∧
    (goK 18 [.int .i64 (.ofNat 4)] Hp.empty).map (·.1) = some (.str [52]) ∧ (goK 18 [.int .i64 (.ofNat 5)] Hp.empty).map (·.1) = some (.str [53]) ∧
    (goK 18 [.int .i64 (.ofNat 6)] Hp.empty).map (·.1) = some (.str [54]) ∧ (goK 18 [.int .i64 (.ofNat 7)] Hp.empty).map (·.1) = some (.str [55]) := by
  refine ⟨?_, ?_, ?_, ?_, ?_, ?_, ?_, ?_⟩ <;> kernel_rfl
def isPt : Option (V × Hp) → Bool
  | some (.ptr _ _, _) => true
  | _ => false
omit [E : Amb] in
theorem pt_inv {o : Option (V × Hp)} (h : isPt o = true) : ∃ a k h', o = some (.ptr a k, h') := by
  unfold isPt at h
  split at h
  · exact ⟨_, _, _, rfl⟩
  · cases h
omit [E : Amb] in
theorem new_run : isPt (goK 12 [.nils] Hp.empty) = true := by kernel_rfl
theorem new_any {W : World} (hT : Tabs W) : Calls Tryz.prog 12 #[.slice none 0 0] W fun e w' => (∃ a, e = .returned (.pointer (some a))) ∧ Below W.heap.size W w' := by
  obtain ⟨a, k, h', hr⟩ := pt_inv new_run
  refine ((goK_sound _) _ _ _ _ hr W.heap.size _ _ W #[.slice none 0 0] (Rel.start (glob_ok hT)) (VRs.cons .nils (VRs.nil _))).mono ?_
  rintro e w' ⟨ρ', v, rfl, _, k1, k2⟩
  obtain ⟨L, hL, rfl⟩ := k2.ptr_inv
  exact ⟨⟨_, rfl⟩, k1.below⟩
theorem dec_one {W : World} (hT : Tabs W) (k : Nat) (b : UInt8) (h : (goK 18 [.int .i64 (.ofNat k)] Hp.empty).map (·.1) = some (.str [b])) :
    Calls Tryz.prog 18 #[.int .i64 (k : Int)] W fun e w' => e = .returned (.string ⟨#[b]⟩) ∧ Below W.heap.size W w' := by
  obtain ⟨⟨v, h'⟩, hr, rfl⟩ := Option.map_eq_some_iff.1 h
  refine ((goK_sound _) _ _ _ _ hr W.heap.size _ _ W #[.int .i64 (k : Int)] (Rel.start (glob_ok hT)) (VRs.cons (.int _ _) (VRs.nil _))).mono ?_
  rintro e w' ⟨ρ', v, rfl, _, k1, k2⟩
  exact ⟨by rw [k2.str_inv], k1.below⟩
theorem dec_8 {W : World} (hT : Tabs W) (k : Nat) (hk : k < 8) : Calls Tryz.prog 18 #[.int .i64 (k : Int)] W fun e w' => e = .returned (.string (Dom.decS k)) ∧ Below W.heap.size W w' := by
  obtain ⟨d0, d1, d2, d3, d4, d5, d6, d7⟩ := dec_run
  have e : k = 0 ∨ k = 1 ∨ k = 2 ∨ k = 3 ∨ k = 4 ∨ k = 5 ∨ k = 6 ∨ k = 7 := by omega
  rcases e with rfl | rfl | rfl | rfl | rfl | rfl | rfl | rfl
  · exact dec_one hT 0 48 d0
  · exact dec_one hT 1 49 d1
  · exact dec_one hT 2 50 d2
  · exact dec_one hT 3 51 d3
  · exact dec_one hT 4 52 d4
  · exact dec_one hT 5 53 d5
  · exact dec_one hT 6 54 d6
  · exact dec_one hT 7 55 d7
end Go.Proofs.YtieiopaobipdoaaGreatDoor.HM
namespace Go.Proofs.YtieiopaobipdoaaGreatDoor.Dom
open Go Go.RowKit
theorem dec_ok {W : World} (hT : HM.Tabs W) : DecOk W := fun k hk w hb => by
  letI : HM.Amb := HM.Amb.none
  exact HM.dec_8 (Cut.tabs_move hT hb) k hk
theorem new_ok {W : World} (hT : HM.Tabs W) : NewOk W := fun w hb => by
  letI : HM.Amb := HM.Amb.none
  exact HM.new_any (Cut.tabs_move hT hb)
theorem attrs_all (a : Addr) (n c : Nat) (ss : List ByteArray) (tx q : ByteArray) (d : Int) (hl : n ≤ ss.length) {W : World} (hT : HM.Tabs W) (hx : ∀ i, i < ss.length → W.cell? (a.add i) = some (.string (ss.getD i ByteArray.empty))) :
    GoodA (.slice (some a) n c) tx q d W := by
  by_cases h : 8 < n ∨ 300 < tx.size ∨ 50 < q.size ∨ d < 0 ∨ 100 < d
  · exact attrs_out _ n c tx q d h (Cut.awk hT)
  · have hn : (ss.take n).length = n := by rw [List.length_take]; omega
    have := attrs_in (W := W) (al := some a) (lc := c) (ns := ss.take n) (fun hp => by
      obtain ⟨b, o, spot⟩ := a
      have hspot : spot = none := by simpa [Addr.add] using World.cell?_spot (hx 0 (by omega))
      subst hspot
      have hc : ∀ (j : Nat) m, (ss.take n)[j]? = some m → W.cell? ⟨b, o + j, none⟩ = some (.string m) := fun j m hj => by
        have hjn := (List.getElem?_eq_some_iff.1 hj).1
        have h2 := hx j (by omega)
        rw [List.getElem?_take, if_pos (by omega)] at hj
        rw [Go.WideShapes.add_plain] at h2
        rw [h2, List.getD, hj]; rfl
      obtain ⟨m, hm⟩ : ∃ m, (ss.take n)[0]? = some m := ⟨_, List.getElem?_eq_getElem hp⟩
      exact ⟨b, o, rfl, World.block_lt_of_cell? _ _ (hc 0 m hm), hc⟩) tx q d (by omega) (by omega) (by omega) (by omega) (by omega) (dec_ok hT) (new_ok hT) (Cut.awk hT)
    rw [hn] at this
    exact this
theorem attrs_nil (tx q : ByteArray) (d : Int) {W : World} (hT : HM.Tabs W) : GoodA (.slice none 0 0) tx q d W := by
  by_cases h : 8 < 0 ∨ 300 < tx.size ∨ 50 < q.size ∨ d < 0 ∨ 100 < d
  · exact attrs_out _ 0 0 tx q d h (Cut.awk hT)
  · exact attrs_in (W := W) (al := none) (lc := 0) (ns := []) (fun hp => absurd hp (by simp)) tx q d (by simp) (by omega) (by omega) (by omega) (by omega) (dec_ok hT) (new_ok hT) (Cut.awk hT)
end Go.Proofs.YtieiopaobipdoaaGreatDoor.Dom
