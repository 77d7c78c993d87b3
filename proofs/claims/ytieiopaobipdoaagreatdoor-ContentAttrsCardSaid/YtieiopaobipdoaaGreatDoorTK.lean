/- content.Cut in a run: a contract; what stands for it, too. -/
import Derived.Test.YtieiopaobipdoaaGreatDoorTGD
import Derived.Test.YtieiopaobipdoaaGreatDoorTC
namespace Go.Proofs.YtieiopaobipdoaaGreatDoor.HM
open Go Go.RowKit
variable [E : Amb]
noncomputable def cutK : List V → Hp → Option (V × Hp)
  | [.str l], h => match Nat.ble l.length 2000 with
    | true => some (.tup [.str l, .bool false], h)
    | false => match l.all (fun c => Nat.blt c.toNat 128) && Nat.ble l.length 100000 with
      | true => some (.tup [.str (l.take 2000), .bool true], h)
      | false => none
  | [.sstr l], h => match Nat.ble l.length 2000 with
    | true => some (.tup [.sstr l, .bool false], h)
    | false => none
  | [.mod 0 i], h => match Nat.ble (i % 4096) 2000 with
    | true => some (.tup [.mod 0 i, .bool false], h)
    | false => none
  | _, _ => none
theorem cut_fin {Γ : Glob} {N0 : Nat} {w0 : Fr} {ρ : Ren} {h : Hp} {w : World} (H : Rel Γ N0 w0 ρ h w) {x : V} {s : ByteArray} {b : Bool} (hx : VR ρ x (.string s)) {e : Ending} {w' : World} (he : e = .returned (.tuple #[.string s, .bool b])) (hb : Below w.heap.size w w') :
    ∃ ρ' v, e = .returned v ∧ Ext ρ ρ' ∧ Rel Γ N0 w0 ρ' h w' ∧ VR ρ' (.tup [x, .bool b]) v :=
  ⟨ρ, _, he, .refl _, H.grow hb, VRs.tup (us := #[_, _]) (VRs.cons hx (VRs.cons (.bool _) (VRs.nil _)))⟩
theorem cutK_sound : Sound Tryz.prog gam 10 cutK := by
  intro args h r h' hs N0 w0 ρ w us H hv
  unfold cutK at hs
  split at hs
  · rename_i l
    obtain ⟨u, us', k1, hu, k2⟩ := hv.cons_inv
    have k3 := k2.nil_inv
    subst k3
    obtain rfl : us = #[u] := by cases us; simp_all
    obtain rfl := hu.str_inv
    have hz : (⟨l.toArray⟩ : ByteArray).size = l.length := by show (List.toArray _).size = _; rw [List.size_toArray]
    split at hs
    · rename_i hc
      simp only [Option.some.injEq, Prod.mk.injEq] at hs; obtain ⟨rfl, rfl⟩ := hs
      refine (Cut.cut_short _ w (by rw [hz]; exact Nat.le_of_ble_eq_true hc)).mono ?_
      rintro e w' ⟨he, hb⟩
      exact cut_fin H (.str l) he hb
    · rename_i hc
      split at hs
      · rename_i hc2
        simp only [Option.some.injEq, Prod.mk.injEq] at hs; obtain ⟨rfl, rfl⟩ := hs
        simp only [Bool.and_eq_true] at hc2
        obtain ⟨hall, hle⟩ := hc2
        have hle := Nat.le_of_ble_eq_true hle
        have hgt : 2000 < l.length := by
          rcases Nat.lt_or_ge 2000 l.length with h | h
          · exact h
          · rw [Nat.ble_eq_true_of_le h] at hc; cases hc
        refine (Cut.cut_long _ w (fun k => k) l.length 2000 (by rw [hz]; exact hgt) (by rw [hz]; exact hle) (Lib.hid rfl) (Lib.hid (by rw [hz])) (Lib.hid fun k hk => ?_) hgt (Nat.le_refl _) (Lib.hid (by decide)) (Lib.hid fun k hk => hk)).mono ?_
        · have hk' : k < (⟨l.toArray⟩ : ByteArray).size := by rw [hz]; exact hk
          have ha : ((⟨l.toArray⟩ : ByteArray)[k]'hk').toNat < 128 := by
            have := List.all_eq_true.1 hall (l[k]) (List.getElem_mem hk)
            exact Nat.le_of_ble_eq_true this
          exact ⟨hk', by rw [decode_ascii _ k hk' ha], Nat.lt_succ_self k⟩
        · rintro e w' ⟨he, hb⟩
          refine cut_fin H ?_ he hb
          have e2 : (⟨l.toArray⟩ : ByteArray).extract 0 2000 = ⟨(l.take 2000).toArray⟩ := by
            apply ByteArray.ext; apply Array.toList_inj.1
            simp [ByteArray.data_extract]
          rw [e2]; exact .str _
      · cases hs
  · rename_i l
    obtain ⟨u, us', k1, hu, k2⟩ := hv.cons_inv
    have k3 := k2.nil_inv
    subst k3
    obtain rfl : us = #[u] := by cases us; simp_all
    split at hs
    · rename_i hc
      simp only [Option.some.injEq, Prod.mk.injEq] at hs; obtain ⟨rfl, rfl⟩ := hs
      cases hu with
      | sstr _ bs hn hr =>
        refine (Cut.cut_short ⟨bs.toArray⟩ w (by show (List.toArray _).size ≤ _; rw [List.size_toArray, ← hn]; exact Nat.le_of_ble_eq_true hc)).mono ?_
        rintro e w' ⟨he, hb⟩
        exact cut_fin H (.sstr l bs hn hr) he hb
    · cases hs
  · rename_i i
    obtain ⟨u, us', k1, hu, k2⟩ := hv.cons_inv
    have k3 := k2.nil_inv
    subst k3
    obtain rfl : us = #[u] := by cases us; simp_all
    split at hs
    · rename_i hc
      simp only [Option.some.injEq, Prod.mk.injEq] at hs; obtain ⟨rfl, rfl⟩ := hs
      obtain rfl := opq_inv hu
      refine (Cut.cut_short (E.str i) w (Nat.le_trans (E.lim i) (Nat.le_of_ble_eq_true hc))).mono ?_
      rintro e w' ⟨he, hb⟩
      exact cut_fin H (.opq i) he hb
    · cases hs
  · cases hs
noncomputable def extraK : FuncId → Option Spec := fun g => Bool.rec (motive := fun _ => Option Spec) (extraC g) (some cutK) (Nat.beq g 10)
theorem extraK_ok (f : FuncId) (s : Spec) (h : extraK f = some s) : CalleeOk Tryz.prog gam f s := by
  revert h
  show Bool.rec (motive := fun _ => Option Spec) (extraC f) (some cutK) (Nat.beq f 10) = some s → _
  cases hf : Nat.beq f 10 with
  | true =>
    intro h; obtain rfl := Option.some.inj h
    obtain rfl := Nat.eq_of_beq_eq_true hf
    exact .inl ⟨by kernel_rfl, cutK_sound⟩
  | false => exact extraC_ok f s
noncomputable def goK : FuncId → Spec := fun f => runX Tryz.prog gam (inTr pur) (inTr clo) ext bod extraK ftab 1000 60 f
theorem goK_sound (f : FuncId) : Sound Tryz.prog gam f (goK f) := runX_sound (prog_ok extraK_ok) tab_ok _ _
end Go.Proofs.YtieiopaobipdoaaGreatDoor.HM
