/- Styles that tell a number, told by its digits, by a text that nobody knows: contracts of system.Signs and utf8.RuneCountInString. -/
import Derived.Test.YtmgjgdnjkgnbiaaGreatDoorGT
import Derived.Test.YtmgjgdnjkgnbiaaGreatDoorGLA
namespace Go.Proofs.YtmgjgdnjkgnbiaaGreatDoor.HM
open Go Go.RowKit
abbrev Amb.tx (ns : List Int) (Ts : List ByteArray) (h : ∀ T ∈ Ts, T.size ≤ 100) : Amb where
  num a := if a < 3000 then ns.getD a 0 else if a < 4000 then (Lib.runeCount (Ts.getD (a - 3000) ByteArray.empty) : Int) else if a < 5000 then 0 else ((if (a - 5000) % 4096 = 100 then Ts.getD ((a - 5000) / 4096) ByteArray.empty else ByteArray.empty).size : Int)
  str i := if i % 4096 = 100 then Ts.getD (i / 4096) ByteArray.empty else ByteArray.empty
  lim i := by
    split
    · rename_i e
      rw [e, List.getD]
      cases hT : Ts[i / 4096]? with
      | none => exact Nat.zero_le _
      | some T => exact h T (List.mem_of_getElem? hT)
    · exact Nat.zero_le _
  len i := by
    rw [if_neg (by omega), if_neg (by omega), if_neg (by omega), Nat.add_sub_cancel]
  bnd g hg := by
    rw [tot_zero 10 _ fun i h1 h2 => by rw [if_neg (by omega), if_neg (by omega), if_pos (by omega)]]
    unfold capG; split <;> omega
variable [E : Amb]
structure KnownN (S : List Sty) (n : Nat) (x : V) : Prop where
  n1 : 1 ≤ n
  n2 : n < 2147483648
  val : ∀ (ρ : Ren) (u : Value), VR ρ x u → u = .int .i64 (n : Int)
  txt : ∀ s ∈ S, E.str s.idx = ⟨(s.text n).toArray⟩
  cnt : ∀ s ∈ S, E.num s.place = ((Lib.runeCount (E.str s.idx) : Nat) : Int)
  pos : ∀ s ∈ S, 1 ≤ Lib.runeCount (E.str s.idx)
  add : ∀ s ∈ S, s.add = true → n < 4000 ∧ s.syms.length = 13
  alp : ∀ s ∈ S, s.add = false → 2 ≤ s.syms.length ∧ s.syms.length ≤ 1000
noncomputable def signsN (S : List Sty) (x : V) : Spec := fun args h => match args with
  | [.agg [v0, .str sy, v2, .pl sn 1 cs, v4, v5, v6, v7, v8, v9, v10, v11, v12, v13, v14, v15], y] => match V.same y x with
   | false => goC 52 args h
   | true => match strsOf cs with
    | some l => match findS sy l v4 S with
      | some s => match V.isData (.agg [v0, .str sy, v2, .pl sn 1 cs, v4, v5, v6, v7, v8, v9, v10, v11, v12, v13, v14, v15]) && (Nat.blt 0 sn && isT (mayS [.agg [v0, .str sy, v2, .pl sn 1 cs, v4, v5, v6, v7, v8, v9, v10, v11, v12, v13, v14, v15]] Hp.empty)) with
        | true => some (.tup [.mod 0 s.idx, .bool true], h)
        | false => none
      | none => goC 52 args h
    | none => goC 52 args h
  | _ => goC 52 args h
theorem signsN_sound {S : List Sty} {nn : Nat} {x : V} (K : KnownN S nn x) : Sound Tryz.prog gam 52 (signsN S x) := by
  intro args h r h' hs N0 w0 ρ w us H hv
  unfold signsN at hs
  split at hs
  · rename_i v0 sy v2 sn cs v4 v5 v6 v7 v8 v9 v10 v11 v12 v13 v14 v15 y
    split at hs
    · exact goC_sound _ _ _ _ _ hs N0 w0 ρ w us H hv
    rename_i hsame
    have hyx := V.same_eq _ _ hsame
    subst hyx
    split at hs
    · rename_i l hl
      split at hs
      · rename_i s hsS
        split at hs
        · rename_i hc
          simp only [Option.some.injEq, Prod.mk.injEq] at hs; obtain ⟨rfl, rfl⟩ := hs
          simp only [Bool.and_eq_true] at hc
          obtain ⟨hc1, hc3b, hc2⟩ := hc
          obtain ⟨u, us', k1, hu, k2⟩ := hv.cons_inv
          obtain ⟨u2, us2, k3, hu2, k4⟩ := k2.cons_inv
          have k5 := k4.nil_inv
          subst k5 k3
          obtain rfl : us = #[u, u2] := by cases us; simp_all
          obtain ⟨D, rfl, hD⟩ := hu.agg_inv
          have hM := may_ok H hc1 hu hc2
          obtain ⟨m1, m2, m3, m4⟩ := findS_sound hsS
          obtain ⟨hcs, hcl⟩ := strsOf_sound hl
          subst m2 hcs
          have hn : ∃ m : Nat, u2 = .int .i64 (m : Int) ∧ 1 ≤ m ∧ m < 2147483648 ∧ m = nn := ⟨nn, K.val _ _ hu2, K.n1, K.n2, rfl⟩
          obtain ⟨m, rfl, n1, n2, n3⟩ := hn
          obtain ⟨e0, t0, g0, h0, q0⟩ := hD.cons_inv
          obtain ⟨e1, t1, g1, h1, q1⟩ := q0.cons_inv
          obtain ⟨e2, t2, g2, h2, q2⟩ := q1.cons_inv
          obtain ⟨e3, t3, g3, h3, q3⟩ := q2.cons_inv
          obtain ⟨e4, t4, g4, h4, q4⟩ := q3.cons_inv
          obtain ⟨e5, t5, g5, h5, q5⟩ := q4.cons_inv
          obtain ⟨e6, t6, g6, h6, q6⟩ := q5.cons_inv
          obtain ⟨e7, t7, g7, h7, q7⟩ := q6.cons_inv
          obtain ⟨e8, t8, g8, h8, q8⟩ := q7.cons_inv
          obtain ⟨e9, t9, g9, h9, q9⟩ := q8.cons_inv
          obtain ⟨e10, t10, g10, h10, q10⟩ := q9.cons_inv
          obtain ⟨e11, t11, g11, h11, q11⟩ := q10.cons_inv
          obtain ⟨e12, t12, g12, h12, q12⟩ := q11.cons_inv
          obtain ⟨e13, t13, g13, h13, q13⟩ := q12.cons_inv
          obtain ⟨e14, t14, g14, h14, q14⟩ := q13.cons_inv
          obtain ⟨e15, t15, g15, h15, q15⟩ := q14.cons_inv
          have g16 := q15.nil_inv
          subst g16 g15 g14 g13 g12 g11 g10 g9 g8 g7 g6 g5 g4 g3 g2 g1
          obtain rfl : D = #[e0, e1, e2, e3, e4, e5, e6, e7, e8, e9, e10, e11, e12, e13, e14, e15] := by apply Array.toList_inj.1; rw [g0]
          obtain rfl := h1.str_inv
          obtain ⟨sb, so, sc, e3', hsb, hsc⟩ := sliceV_sound H h3 (xs := s.syms.map V.str) (by
            show (match Nat.blt 0 sn with | true => some (s.syms.map V.str) | false => none) = some (s.syms.map V.str)
            rw [hc3b])
          subst e3'
          have hsn : s.syms.length = sn := by have := pl_len h3; rw [List.length_map, Nat.mul_one] at this; exact this
          subst hsn
          rw [List.length_map] at hM ⊢
          have hss : ∀ j, j < s.syms.length → w.cell? ⟨sb, so + j, none⟩ = some (.string ⟨(s.syms.getD j []).toArray⟩) := fun j hj => by
            obtain ⟨v, hv, hr⟩ := hsc j (.str s.syms[j]) (by simp [hj])
            rw [hv, hr.str_inv, List.getD, List.getElem?_eq_getElem hj]; rfl
          have ht := K.txt s m1
          rw [← n3] at ht
          have fin : ∀ T : List UInt8, s.text m = T → ∀ e w', (e = Ending.returned (.tuple #[.string ⟨T.toArray⟩, .bool true]) ∧ Below w.heap.size w w') → ∃ ρ' v, e = .returned v ∧ Ext ρ ρ' ∧ Rel gam N0 w0 ρ' h w' ∧ VR ρ' (.tup [.mod 0 s.idx, .bool true]) v := by
            rintro T rfl e w' ⟨rfl, hbw⟩
            refine ⟨ρ, _, rfl, .refl _, H.grow hbw, VRs.tup (us := #[_, _]) (VRs.cons ?_ (VRs.cons (.bool _) (VRs.nil _)))⟩
            rw [← ht]; exact .opq _
          cases ha : s.add with
          | false =>
            obtain ⟨a1, a2⟩ := K.alp s m1 ha
            have hsy := m4 ha
            subst hsy
            refine (Num.signs_alpha e0 e2 e4 e5 e6 e7 e8 e9 e10 e11 e12 e13 e14 e15 sb so s.syms.length sc s.syms m w n1 n2 hcl hsb a1 a2 hss hM).mono (fin _ ?_)
            unfold Sty.text; rw [ha]; rfl
          | true =>
            obtain ⟨a1, a2⟩ := K.add s m1 ha
            obtain ⟨hsy, hw4⟩ := m3 ha
            subst hsy
            have hw4 := isWts_eq hw4
            subst hw4
            obtain ⟨wb, wo, wc, e4', hwb, hwc⟩ := sliceV_sound H h4 (xs := Reg.wts.map fun w : Nat => V.int .i64 (w : Int)) rfl
            subst e4'
            have hwl : (Reg.wts.map fun w : Nat => V.int .i64 (w : Int)).length = 13 := rfl
            rw [hwl] at hM ⊢
            rw [a2] at hM hss ⊢
            refine (Num.signs_add e0 e2 e5 e6 e7 e8 e9 e10 e11 e12 e13 e14 e15 sb so sc wb wo wc s.syms m w n1 (by omega) hcl hsb hwb hss (fun j v hj => ?_) hM).mono (fin _ ?_)
            · obtain ⟨v', hv', hr'⟩ := hwc j (.int .i64 (v : Int)) (by rw [List.getElem?_map, hj]; rfl)
              rw [hv', hr'.int_inv]
            · unfold Sty.text; rw [ha]; rfl
        · cases hs
      · exact goC_sound _ _ _ _ _ hs N0 w0 ρ w us H hv
    · exact goC_sound _ _ _ _ _ hs N0 w0 ρ w us H hv
  · exact goC_sound _ _ _ _ _ hs N0 w0 ρ w us H hv
noncomputable def runeN (S : List Sty) : Spec := fun args h => match args with
  | [.mod 0 i] => match findI i S with
    | some s => some (.lin .i64 0 [⟨1, s.place, 1, 4096⟩], h)
    | none => none
  | _ => goC 30 args h
theorem runeN_sound {S : List Sty} {nn : Nat} {x : V} (K : KnownN S nn x) : Sound Tryz.prog gam 30 (runeN S) := by
  intro args h r h' hs N0 w0 ρ w us H hv
  unfold runeN at hs
  split at hs
  · rename_i i
    split at hs
    · rename_i s hf
      simp only [Option.some.injEq, Prod.mk.injEq] at hs; obtain ⟨rfl, rfl⟩ := hs
      obtain ⟨m1, rfl⟩ := findI_sound hf
      obtain ⟨u, us', k1, hu, k2⟩ := hv.cons_inv
      have k3 := k2.nil_inv
      subst k3
      obtain rfl : us = #[u] := by cases us; simp_all
      obtain rfl := opq_inv hu
      have hlim := E.lim s.idx
      have hmod : s.idx % 4096 < 4096 := Nat.mod_lt _ (by decide)
      have hle : Lib.runeCount (E.str s.idx) ≤ (E.str s.idx).size := Lib.runeCountFrom_le _ _ _
      refine (Any.utf8_RuneCountInString Tryz.lays195 (E.str s.idx) w (by omega)).mono ?_
      rintro e w' ⟨rfl, q, rfl⟩
      refine ⟨ρ, _, rfl, .refl _, H.grow ((Below.refl _ w).alloc (Nat.le_refl _) _), ?_⟩
      refine .lin _ _ _ _ (fun t ht => ?_) ?_
      · simp only [List.mem_singleton] at ht; subst ht
        have := K.cnt s m1
        have := K.pos s m1
        constructor <;> (show _ ≤ _) <;> (simp only []; omega)
      · simp only [sumR, valR]
        rw [K.cnt s m1]; omega
    · cases hs
  · exact goC_sound _ _ _ _ _ hs N0 w0 ρ w us H hv
noncomputable def extraN (S : List Sty) (x : V) : FuncId → Option Spec := fun g => Bool.rec (motive := fun _ => Option Spec) (Bool.rec (motive := fun _ => Option Spec) (extraA g) (some (signsN S x)) (Nat.beq g 52)) (some (runeN S)) (Nat.beq g 30)
theorem extraN_ok {S : List Sty} {n : Nat} {x : V} (K : KnownN S n x) (f : FuncId) (s : Spec) (h : extraN S x f = some s) : CalleeOk Tryz.prog gam f s := by
  revert h
  show Bool.rec (motive := fun _ => Option Spec) (Bool.rec (motive := fun _ => Option Spec) (extraA f) (some (signsN S x)) (Nat.beq f 52)) (some (runeN S)) (Nat.beq f 30) = some s → _
  cases h1 : Nat.beq f 30 with
  | true =>
    intro h; obtain rfl := Option.some.inj h
    obtain rfl := Nat.eq_of_beq_eq_true h1
    exact .inl ⟨by kernel_rfl, runeN_sound K⟩
  | false =>
    cases h0 : Nat.beq f 52 with
    | true =>
      intro h; obtain rfl := Option.some.inj h
      obtain rfl := Nat.eq_of_beq_eq_true h0
      exact .inl ⟨by kernel_rfl, signsN_sound K⟩
    | false => exact extraA_ok f s
noncomputable def lawRunS (S : List Sty) (x : V) (f : Nat) (args : List V) : Bool := isT (runX Tryz.prog gam (inTr pur) (inTr clo) ext bod (extraN S x) ftab 1000 60 f args Hp.empty)
theorem law_cS {S : List Sty} {n : Nat} {x : V} (K : KnownN S n x) {f : Nat} {args : List V} (h : lawRunS S x f args = true) {us : Array Value} {W : World} (hv : VRs Ren.nil args us.toList) (hT : Tabs W) :
    Calls Tryz.prog f us W fun e w' => e = .returned (.bool true) ∧ Below W.heap.size W w' := by
  obtain ⟨k, hk⟩ := isT_inv h
  refine (runs_calls (runX_sound (prog_ok (extraN_ok K)) tab_ok _ _) hk rfl (glob_ok hT) hv).mono ?_
  rintro e w' ⟨v, rfl, hv, hb⟩
  cases hv
  exact ⟨rfl, hb⟩
def S5 : List Sty := [⟨false, lowL, 100, 3000⟩, ⟨false, uppL, 4196, 3001⟩, ⟨false, grkL, 8292, 3002⟩, ⟨true, Reg.loR, 12388, 3003⟩, ⟨true, Reg.upR, 16484, 3004⟩]
end Go.Proofs.YtmgjgdnjkgnbiaaGreatDoor.HM
