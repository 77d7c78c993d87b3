/- fleuronlaw16.ItemSteps returns true for all arguments, and leaves what was there. -/
import Derived.Test.YtkcpoapbncpiiaaGreatDoorISa
import Derived.WalkKit
import Derived.ProofKit
import Derived.OpenShut
namespace Go.Proofs.YtkcpoapbncpiiaaGreatDoor.Sel
open Go Go.RowKit
abbrev Good (v : Value) (o : Bool) (d : Int) (W : World) : Prop := Calls Tryz.prog 4 #[v, .bool o, .int .i64 d] W fun e w' => e = .returned (.bool true) ∧ Below W.heap.size W w'
theorem steps_out (p : Option Addr) (n c : Nat) (o : Bool) (d : Int) (h : 10 < n) {W : World} (hT : HM.Tabs W) : Good (.slice p n c) o d W := by
  have aw := HM.awake_c hT
  have h' : (10 : Int) < (n : Int) := by omega
  go_enter Tryz.func4, Tryz.ntmps4
  go_wp2_with (first | (go_at_call 7; refine aw.mono ?_; rintro e w' ⟨rfl, hb⟩))
  all_goals first
    | (exfalso; omega)
    | (go_ret; exact ⟨rfl, hb⟩)
theorem third (d : Int) : ∃ i : Nat, i < 3 ∧ d % (3 : Nat) = (i : Int) := ⟨(d % 3).toNat, by omega, by omega⟩
theorem steps_nil (o : Bool) (d : Int) {W : World} (hT : HM.Tabs W) : Good (.slice none 0 0) o d W := by
  obtain ⟨i, h1, h2⟩ := third d
  exact HM.law_c (HM.R6_inv HM.cN o i h1) (HM.VRs.cons .nils (HM.VRs.cons (.bool o) (HM.VRs.cons (.mod 3 i d h2) (HM.VRs.nil _)))) hT
theorem steps_zero (a : Addr) (c : Nat) (o : Bool) (d : Int) {W : World} (hT : HM.Tabs W) : Good (.slice (some a) 0 c) o d W := by
  obtain ⟨i, h1, h2⟩ := third d
  exact HM.law_c (HM.R6_inv HM.c0 o i h1) (HM.VRs.cons (.pl0 1 c a) (HM.VRs.cons (.bool o) (HM.VRs.cons (.mod 3 i d h2) (HM.VRs.nil _)))) hT
theorem steps_in (b off n c : Nat) (B : Nat → Bool) (o : Bool) (d : Int) (hn : n < 10) (hc : n + 1 ≤ c) {W : World} (hT : HM.Tabs W) (hx : ∀ i, i < c → W.cell? ⟨b, off + i, none⟩ = some (.bool (B i))) : Good (.slice (some ⟨b, off, none⟩) (n + 1) c) o d W := by
  obtain ⟨i, h1, h2⟩ := third d
  have h0 := hx 0 (by omega)
  unfold World.cell? at h0 hx
  cases hb : W.heap[b]? with
  | none => simp [hb] at h0
  | some ob =>
    cases ob with
    | cells arr el fr =>
      simp only [hb, Option.isSome_none, Bool.false_eq_true, if_false] at hx
      have hl : off + (n + 1) ≤ arr.size := by
        have := (Array.getElem?_eq_some_iff.1 (hx n (by omega))).1
        omega
      refine HM.law_cM (b := b) (m := ⟨arr, el, fr⟩) (HM.R6_inv (HM.R12_inv (HM.cAll hn) (B n)) o i h1) hb (HM.VRs.cons ?_ (HM.VRs.cons (.bool o) (HM.VRs.cons (.mod 3 i d h2) (HM.VRs.nil _)))) hT
      refine .pl (n + 1) 1 c b off _ ⟨arr, el, fr⟩ (by simp [HM.memR]) hc (by rw [HM.bits_length, Nat.mul_one]) (by rw [HM.bits_length]; exact hl) fun j x u hj hu => ?_
      have hjn : j < n + 1 := by rw [← HM.bits_length n (B n)]; exact (List.getElem?_eq_some_iff.1 hj).1
      have e := hx j (by omega)
      have hu : arr[off + j]? = some u := hu
      rw [hu] at e
      simp only [Option.some.injEq] at e
      subst e
      exact HM.bits_ok n (B n) j x (B j) hj fun e => by rw [e]
    | _ => simp [hb] at h0
theorem walk_all (a : Addr) (n c : Nat) (B : Nat → Bool) (o : Bool) (d : Int) (hc : n ≤ c) {W : World} (hT : HM.Tabs W) (hx : ∀ i, i < c → W.cell? (a.add i) = some (.bool (B i))) : Good (.slice (some a) n c) o d W := by
  by_cases h : 10 < n
  · exact steps_out _ n c o d h hT
  · cases n with
    | zero => exact steps_zero a c o d hT
    | succ n =>
      obtain ⟨b, off, s⟩ := a
      have h0 := hx 0 (by omega)
      have hs : s = none := by
        cases s with
        | none => rfl
        | some s => simp [Addr.add, World.cell?] at h0; split at h0 <;> simp at h0
      subst hs
      refine steps_in b off n c B o d (by omega) hc hT fun i hi => ?_
      have := hx i hi
      unfold Addr.add at this
      split at this
      · rename_i e; subst e; simpa using this
      · exact this
end Go.Proofs.YtkcpoapbncpiiaaGreatDoor.Sel
