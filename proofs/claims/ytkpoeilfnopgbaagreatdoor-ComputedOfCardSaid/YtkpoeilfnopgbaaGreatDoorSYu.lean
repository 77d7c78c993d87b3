/- Words for chapter 14's laws: a style as a value opened, awake() at hand, every name has a number. -/
import Derived.Test.YtkpoeilfnopgbaaGreatDoorSYj
namespace Go.Proofs.YtkpoeilfnopgbaaGreatDoor.Sty
open Go Go.RowKit
abbrev Awk (W : World) : Prop := ∀ w, Below W.heap.size W w → Calls Tryz.prog 6 #[] w fun e w' => e = .returned (.bool true) ∧ Below w.heap.size w w'
theorem StyV.open {s : S} {v : Value} {w : World} (h : StyV s v w) : ∃ p1 p1c p2 p2c p3 p3c p4 p4c p5 p5c, v = .agg #[.string s.disp, .string s.lt, .string s.col, .slice p1 s.con.length p1c, .bool s.nor, .bool s.non, .slice p2 s.quo.length p2c, .bool s.aut, .slice p3 s.rst.length p3c, .slice p4 s.add.length p4c, .slice p5 s.set.length p5c] ∧ PartsX (· < w.heap.size) s (.slice p1 s.con.length p1c) (.slice p2 s.quo.length p2c) (.slice p3 s.rst.length p3c) (.slice p4 s.add.length p4c) (.slice p5 s.set.length p5c) w := by
  obtain ⟨vc, vq, vr, va, vs, rfl, hp⟩ := h
  have hx := PartsX.of_at hp
  obtain ⟨p1, c1, p2, c2, p3, c3, p4, c4, p5, c5, rfl, rfl, rfl, rfl, rfl⟩ := hx.open
  exact ⟨p1, c1, p2, c2, p3, c3, p4, c4, p5, c5, rfl, hx⟩
theorem nm_some (n : ByteArray) : ∃ k, NmIs k n := by
  by_cases h : ∃ j, j < 8 ∧ nmN j = n
  · obtain ⟨j, hj, rfl⟩ := h
    exact ⟨j, nm_is j hj⟩
  · refine ⟨8, ?_⟩
    have key : ∀ j, j < 8 → (n.toList == (nmN j).toList) = false := fun j hj => by
      cases e : n.toList == (nmN j).toList with
      | false => rfl
      | true =>
        refine absurd ⟨j, hj, ?_⟩ h
        have := beq_iff_eq.1 e
        rw [ByteArray.toList_eq, ByteArray.toList_eq] at this
        exact (ByteArray.ext (Array.toList_inj.1 this)).symm
    have k0 := key 0 (by decide)
    have k1 := key 1 (by decide)
    have k2 := key 2 (by decide)
    have k3 := key 3 (by decide)
    have k4 := key 4 (by decide)
    have k5 := key 5 (by decide)
    have k6 := key 6 (by decide)
    have k7 := key 7 (by decide)
    simp only [nmN, allZ, List.getD_cons_zero, List.getD_cons_succ, ByteArray.toList_mk] at k0 k1 k2 k3 k4 k5 k6 k7
    unfold NmIs
    exact .inr (.inr (.inr (.inr (.inr (.inr (.inr (.inr ⟨rfl, k0, k1, k2, k3, k4, k5, k6, k7⟩)))))))
end Go.Proofs.YtkpoeilfnopgbaaGreatDoor.Sty
