/- Styles that tell an unknown number by a text that nobody knows: contracts of system.Signs and utf8.RuneCountInString. -/
import Derived.Test.YtmgjgdnjkgnbiaaGreatDoorGD
import Derived.Test.YtmgjgdnjkgnbiaaGreatDoorGS
namespace Go.Proofs.YtmgjgdnjkgnbiaaGreatDoor.HM
open Go Go.RowKit
structure Sty where
  add : Bool
  syms : List (List UInt8)
  idx : Nat
  place : Nat
def Sty.text (s : Sty) (n : Nat) : List UInt8 := if s.add then Reg.rom s.syms n else Reg.chS s.syms (Reg.pos s.syms.length n)
def eqL : List UInt8 → List UInt8 → Bool
  | [], [] => true
  | a :: r, b :: t => Nat.beq a.toNat b.toNat && eqL r t
  | _, _ => false
theorem eqL_eq : ∀ {a b : List UInt8}, eqL a b = true → a = b
  | [], [], _ => rfl
  | [], _ :: _, h => by cases h
  | _ :: _, [], h => by cases h
  | a :: r, b :: t, h => by
    simp only [eqL, Bool.and_eq_true] at h
    rw [UInt8.toNat_inj.1 (Nat.eq_of_beq_eq_true h.1), eqL_eq h.2]
def eqLL : List (List UInt8) → List (List UInt8) → Bool
  | [], [] => true
  | a :: r, b :: t => eqL a b && eqLL r t
  | _, _ => false
theorem eqLL_eq : ∀ {a b : List (List UInt8)}, eqLL a b = true → a = b
  | [], [], _ => rfl
  | [], _ :: _, h => by cases h
  | _ :: _, [], h => by cases h
  | a :: r, b :: t, h => by
    simp only [eqLL, Bool.and_eq_true] at h
    rw [eqL_eq h.1, eqLL_eq h.2]
def alphaL : List UInt8 := [97, 108, 112, 104, 97, 98, 101, 116, 105, 99]
def addL : List UInt8 := [97, 100, 100, 105, 116, 105, 118, 101]
def isWts : V → Bool
  | .pl 13 1 [.int .i64 (.ofNat 1000), .int .i64 (.ofNat 900), .int .i64 (.ofNat 500), .int .i64 (.ofNat 400), .int .i64 (.ofNat 100), .int .i64 (.ofNat 90), .int .i64 (.ofNat 50), .int .i64 (.ofNat 40), .int .i64 (.ofNat 10), .int .i64 (.ofNat 9), .int .i64 (.ofNat 5), .int .i64 (.ofNat 4), .int .i64 (.ofNat 1)] => true
  | _ => false
theorem isWts_eq {x : V} (h : isWts x = true) : x = .pl 13 1 (Reg.wts.map fun w : Nat => V.int .i64 (w : Int)) := by
  unfold isWts at h
  split at h
  · rfl
  · cases h
def findS (sy : List UInt8) (l : List (List UInt8)) (v4 : V) : List Sty → Option Sty
  | [] => none
  | s :: r => match eqLL s.syms l && (match s.add with | true => eqL sy addL && isWts v4 | false => eqL sy alphaL) with
    | true => some s
    | false => findS sy l v4 r
theorem findS_sound {sy : List UInt8} {l : List (List UInt8)} {v4 : V} : ∀ {S : List Sty} {s : Sty}, findS sy l v4 S = some s → s ∈ S ∧ s.syms = l ∧ (s.add = true → sy = addL ∧ isWts v4 = true) ∧ (s.add = false → sy = alphaL)
  | [], s, h => by cases h
  | t :: r, s, h => by
    unfold findS at h
    split at h
    · rename_i hc
      simp only [Option.some.injEq] at h; subst h
      simp only [Bool.and_eq_true] at hc
      refine ⟨List.mem_cons_self, eqLL_eq hc.1, fun ha => ?_, fun ha => ?_⟩
      · rw [ha] at hc
        have h2 := hc.2
        simp only [Bool.and_eq_true] at h2
        exact ⟨eqL_eq h2.1, h2.2⟩
      · rw [ha] at hc
        exact eqL_eq hc.2
    · obtain ⟨h1, h2⟩ := findS_sound h
      exact ⟨List.mem_cons_of_mem _ h1, h2⟩
def findI (i : Nat) : List Sty → Option Sty
  | [] => none
  | s :: r => match Nat.beq s.idx i with
    | true => some s
    | false => findI i r
theorem findI_sound {i : Nat} : ∀ {S : List Sty} {s : Sty}, findI i S = some s → s ∈ S ∧ s.idx = i
  | [], s, h => by cases h
  | t :: r, s, h => by
    unfold findI at h
    split at h
    · rename_i hc
      simp only [Option.some.injEq] at h; subst h
      exact ⟨List.mem_cons_self, Nat.eq_of_beq_eq_true hc⟩
    · obtain ⟨h1, h2⟩ := findI_sound h
      exact ⟨List.mem_cons_of_mem _ h1, h2⟩
variable [E : Amb]
structure KnownS (S : List Sty) : Prop where
  n1 : 1 ≤ E.num 0
  n2 : E.num 0 < 2147483648
  txt : ∀ s ∈ S, E.str s.idx = ⟨(s.text (E.num 0).toNat).toArray⟩
  cnt : ∀ s ∈ S, E.num s.place = ((Lib.runeCount (E.str s.idx) : Nat) : Int)
  pos : ∀ s ∈ S, 1 ≤ Lib.runeCount (E.str s.idx)
  add : ∀ s ∈ S, s.add = true → E.num 0 < 4000 ∧ s.syms.length = 13
  alp : ∀ s ∈ S, s.add = false → 2 ≤ s.syms.length ∧ s.syms.length ≤ 1000
noncomputable def signsS (S : List Sty) : Spec := fun args h => match args with
  | [.agg [v0, .str sy, v2, .pl sn 1 cs, v4, v5, v6, v7, v8, v9, v10, v11, v12, v13, v14, v15], .lin .i64 0 [⟨1, 0, _, _⟩]] => match strsOf cs with
    | some l => match findS sy l v4 S with
      | some s => match V.isData (.agg [v0, .str sy, v2, .pl sn 1 cs, v4, v5, v6, v7, v8, v9, v10, v11, v12, v13, v14, v15]) && (Nat.blt 0 sn && isT (mayS [.agg [v0, .str sy, v2, .pl sn 1 cs, v4, v5, v6, v7, v8, v9, v10, v11, v12, v13, v14, v15]] Hp.empty)) with
        | true => some (.tup [.mod 0 s.idx, .bool true], h)
        | false => none
      | none => goC 52 args h
    | none => goC 52 args h
  | _ => goC 52 args h
theorem may_ok {D : Array Value} {x : V} {N0 : Nat} {w0 : Fr} {ρ : Ren} {h : Hp} {w : World} (H : Rel gam N0 w0 ρ h w) (hd : x.isData = true) (hv : VR ρ x (.agg D)) (hm : isT (mayS [x] Hp.empty) = true) : Num.MayOk D w := by
  intro w' hb
  have H' := H.grow hb
  obtain ⟨k, hk⟩ := isT_inv hm
  have hv2 : VRs ρ.bare [x] #[Value.agg D].toList := VRs.cons (isData_none_all x ρ _ hv hd) (VRs.nil _)
  refine (mayS_sound _ _ _ _ hk w'.heap.size _ _ w' #[.agg D] H'.startB hv2).mono ?_
  rintro e w2 ⟨ρ', v, rfl, _, k1, k2⟩
  cases k2
  exact ⟨rfl, k1.below⟩
theorem signsS_sound {S : List Sty} (K : KnownS S) : Sound Tryz.prog gam 52 (signsS S) := by
  intro args h r h' hs N0 w0 ρ w us H hv
  unfold signsS at hs
  split at hs
  · rename_i v0 sy v2 sn cs v4 v5 v6 v7 v8 v9 v10 v11 v12 v13 v14 v15 lo hi
    split at hs
    · rename_i l hl
      split at hs
      · rename_i s hsS
        split at hs
        · rename_i hc
          simp only [Option.some.injEq, Prod.mk.injEq] at hs; obtain ⟨rfl, rfl⟩ := hs
          simp only [Bool.and_eq_true] at hc
          obtain ⟨hc1, hc3b, hc2⟩ := hc
          obtain ⟨u, us', k1, hu, k2⟩ := hv.cons_inv
          obtain ⟨u2, us2, k3, hu2, k4⟩ := k2.cons_inv
          have k5 := k4.nil_inv
          subst k5 k3
          obtain rfl : us = #[u, u2] := by cases us; simp_all
          obtain ⟨D, rfl, hD⟩ := hu.agg_inv
          have hM := may_ok H hc1 hu hc2
          obtain ⟨m1, m2, m3, m4⟩ := findS_sound hsS
          obtain ⟨hcs, hcl⟩ := strsOf_sound hl
          subst m2 hcs
          have hn : ∃ m : Nat, u2 = .int .i64 (m : Int) ∧ 1 ≤ m ∧ m < 2147483648 ∧ (m : Int) = E.num 0 := by
            cases hu2 with
            | lin _ _ _ n hok hn =>
              have h1 := K.n1
              have h2 := K.n2
              have e : n = E.num 0 := by simp only [sumR, valR] at hn; omega
              exact ⟨n.toNat, by rw [show ((n.toNat : Nat) : Int) = n by omega], by omega, by omega, by omega⟩
          obtain ⟨m, rfl, n1, n2, n3⟩ := hn
          obtain ⟨e0, t0, g0, h0, q0⟩ := hD.cons_inv
          obtain ⟨e1, t1, g1, h1, q1⟩ := q0.cons_inv
          obtain ⟨e2, t2, g2, h2, q2⟩ := q1.cons_inv
          obtain ⟨e3, t3, g3, h3, q3⟩ := q2.cons_inv
          obtain ⟨e4, t4, g4, h4, q4⟩ := q3.cons_inv
          obtain ⟨e5, t5, g5, h5, q5⟩ := q4.cons_inv
          obtain ⟨e6, t6, g6, h6, q6⟩ := q5.cons_inv
          obtain ⟨e7, t7, g7, h7, q7⟩ := q6.cons_inv
          obtain ⟨e8, t8, g8, h8, q8⟩ := q7.cons_inv
          obtain ⟨e9, t9, g9, h9, q9⟩ := q8.cons_inv
          obtain ⟨e10, t10, g10, h10, q10⟩ := q9.cons_inv
          obtain ⟨e11, t11, g11, h11, q11⟩ := q10.cons_inv
          obtain ⟨e12, t12, g12, h12, q12⟩ := q11.cons_inv
          obtain ⟨e13, t13, g13, h13, q13⟩ := q12.cons_inv
          obtain ⟨e14, t14, g14, h14, q14⟩ := q13.cons_inv
          obtain ⟨e15, t15, g15, h15, q15⟩ := q14.cons_inv
          have g16 := q15.nil_inv
          subst g16 g15 g14 g13 g12 g11 g10 g9 g8 g7 g6 g5 g4 g3 g2 g1
          obtain rfl : D = #[e0, e1, e2, e3, e4, e5, e6, e7, e8, e9, e10, e11, e12, e13, e14, e15] := by apply Array.toList_inj.1; rw [g0]
          obtain rfl := h1.str_inv
          obtain ⟨sb, so, sc, e3', hsb, hsc⟩ := sliceV_sound H h3 (xs := s.syms.map V.str) (by
            show (match Nat.blt 0 sn with | true => some (s.syms.map V.str) | false => none) = some (s.syms.map V.str)
            rw [hc3b])
          subst e3'
          have hsn : s.syms.length = sn := by have := pl_len h3; rw [List.length_map, Nat.mul_one] at this; exact this
          subst hsn
          rw [List.length_map] at hM ⊢
          have hss : ∀ j, j < s.syms.length → w.cell? ⟨sb, so + j, none⟩ = some (.string ⟨(s.syms.getD j []).toArray⟩) := fun j hj => by
            obtain ⟨v, hv, hr⟩ := hsc j (.str s.syms[j]) (by simp [hj])
            rw [hv, hr.str_inv, List.getD, List.getElem?_eq_getElem hj]; rfl
          have ht := K.txt s m1
          have hmn : (E.num 0).toNat = m := by omega
          rw [hmn] at ht
          have fin : ∀ T : List UInt8, s.text m = T → ∀ e w', (e = Ending.returned (.tuple #[.string ⟨T.toArray⟩, .bool true]) ∧ Below w.heap.size w w') → ∃ ρ' v, e = .returned v ∧ Ext ρ ρ' ∧ Rel gam N0 w0 ρ' h w' ∧ VR ρ' (.tup [.mod 0 s.idx, .bool true]) v := by
            rintro T rfl e w' ⟨rfl, hbw⟩
            refine ⟨ρ, _, rfl, .refl _, H.grow hbw, VRs.tup (us := #[_, _]) (VRs.cons ?_ (VRs.cons (.bool _) (VRs.nil _)))⟩
            rw [← ht]; exact .opq _
          cases ha : s.add with
          | false =>
            obtain ⟨a1, a2⟩ := K.alp s m1 ha
            have hsy := m4 ha
            subst hsy
            refine (Num.signs_alpha e0 e2 e4 e5 e6 e7 e8 e9 e10 e11 e12 e13 e14 e15 sb so s.syms.length sc s.syms m w n1 n2 hcl hsb a1 a2 hss hM).mono (fin _ ?_)
            unfold Sty.text; rw [ha]; rfl
          | true =>
            obtain ⟨a1, a2⟩ := K.add s m1 ha
            obtain ⟨hsy, hw4⟩ := m3 ha
            subst hsy
            have hw4 := isWts_eq hw4
            subst hw4
            obtain ⟨wb, wo, wc, e4', hwb, hwc⟩ := sliceV_sound H h4 (xs := Reg.wts.map fun w : Nat => V.int .i64 (w : Int)) rfl
            subst e4'
            have hwl : (Reg.wts.map fun w : Nat => V.int .i64 (w : Int)).length = 13 := rfl
            rw [hwl] at hM ⊢
            rw [a2] at hM hss ⊢
            refine (Num.signs_add e0 e2 e5 e6 e7 e8 e9 e10 e11 e12 e13 e14 e15 sb so sc wb wo wc s.syms m w n1 (by omega) hcl hsb hwb hss (fun j v hj => ?_) hM).mono (fin _ ?_)
            · obtain ⟨v', hv', hr'⟩ := hwc j (.int .i64 (v : Int)) (by rw [List.getElem?_map, hj]; rfl)
              rw [hv', hr'.int_inv]
            · unfold Sty.text; rw [ha]; rfl
        · cases hs
      · exact goC_sound _ _ _ _ _ hs N0 w0 ρ w us H hv
    · exact goC_sound _ _ _ _ _ hs N0 w0 ρ w us H hv
  · exact goC_sound _ _ _ _ _ hs N0 w0 ρ w us H hv
noncomputable def runeS (S : List Sty) : Spec := fun args h => match args with
  | [.mod 0 i] => match findI i S with
    | some s => some (.lin .i64 0 [⟨1, s.place, 1, 4096⟩], h)
    | none => none
  | _ => goC 30 args h
theorem runeS_sound {S : List Sty} (K : KnownS S) : Sound Tryz.prog gam 30 (runeS S) := by
  intro args h r h' hs N0 w0 ρ w us H hv
  unfold runeS at hs
  split at hs
  · rename_i i
    split at hs
    · rename_i s hf
      simp only [Option.some.injEq, Prod.mk.injEq] at hs; obtain ⟨rfl, rfl⟩ := hs
      obtain ⟨m1, rfl⟩ := findI_sound hf
      obtain ⟨u, us', k1, hu, k2⟩ := hv.cons_inv
      have k3 := k2.nil_inv
      subst k3
      obtain rfl : us = #[u] := by cases us; simp_all
      obtain rfl := opq_inv hu
      have hlim := E.lim s.idx
      have hmod : s.idx % 4096 < 4096 := Nat.mod_lt _ (by decide)
      have hle : Lib.runeCount (E.str s.idx) ≤ (E.str s.idx).size := Lib.runeCountFrom_le _ _ _
      refine (Any.utf8_RuneCountInString Tryz.lays195 (E.str s.idx) w (by omega)).mono ?_
      rintro e w' ⟨rfl, q, rfl⟩
      refine ⟨ρ, _, rfl, .refl _, H.grow ((Below.refl _ w).alloc (Nat.le_refl _) _), ?_⟩
      refine .lin _ _ _ _ (fun t ht => ?_) ?_
      · simp only [List.mem_singleton] at ht; subst ht
        have := K.cnt s m1
        have := K.pos s m1
        constructor <;> (show _ ≤ _) <;> (simp only []; omega)
      · simp only [sumR, valR]
        rw [K.cnt s m1]; omega
    · cases hs
  · exact goC_sound _ _ _ _ _ hs N0 w0 ρ w us H hv
end Go.Proofs.YtmgjgdnjkgnbiaaGreatDoor.HM
