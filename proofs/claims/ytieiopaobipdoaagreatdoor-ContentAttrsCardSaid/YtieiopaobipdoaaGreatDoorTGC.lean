/- system.chosen in a run: a contract. -/
import Derived.Test.YtieiopaobipdoaaGreatDoorTQ4
import Derived.Test.YtieiopaobipdoaaGreatDoorGB
namespace Go.Proofs.YtieiopaobipdoaaGreatDoor.HM
open Go Go.RowKit
variable [E : Amb]
def sliceV (h : Hp) : V → Option (List V)
  | .sl a o n 1 => match h.t.get a with
    | some (.cells _ _ _ xs) => match Nat.ble (o + n) xs.length && Nat.blt 0 n with
      | true => some ((xs.drop o).take n)
      | false => none
    | _ => none
  | .pl n 1 xs => match Nat.blt 0 n with
    | true => some xs
    | false => none
  | _ => none
theorem sliceV_sound {Γ : Glob} {N0 : Nat} {w0 : Fr} {ρ : Ren} {h : Hp} {w : World} (H : Rel Γ N0 w0 ρ h w) {x : V} {u : Value} (hv : VR ρ x u) {xs : List V} (hs : sliceV h x = some xs) :
    ∃ b o c, u = .slice (some ⟨b, o, none⟩) xs.length c ∧ b < w.heap.size ∧ ∀ (i : Nat) y, xs[i]? = some y → ∃ v, w.cell? ⟨b, o + i, none⟩ = some v ∧ VR ρ y v := by
  unfold sliceV at hs
  split at hs
  · rename_i a o n
    split at hs
    · rename_i fam fb fz ys hg
      split at hs
      · rename_i hc
        simp only [Bool.and_eq_true] at hc
        have hn1 := Nat.le_of_ble_eq_true hc.1
        have hn0 : 0 < n := Nat.le_of_ble_eq_true hc.2
        simp only [Option.some.injEq] at hs; subst hs
        have hlen : ((ys.drop o).take n).length = n := by simp; omega
        cases hv with
        | sl0 => omega
        | sl _ _ _ _ c L hL hcc hl =>
          obtain ⟨L', k1, k2, arr, el, fr, k3, k4, k5, k6, k7⟩ := (H.blk a _ (some_ne hL) hg).ex
          obtain rfl : L = L' := by rw [hL] at k1; injection k1
          refine ⟨L.b, L.base + o, c, by rw [hlen], (Array.getElem?_eq_some_iff.1 k3).1, fun i y hy => ?_⟩
          have hi : i < n := by have := (List.getElem?_eq_some_iff.1 hy).1; omega
          rw [List.getElem?_take, if_pos hi, List.getElem?_drop] at hy
          have hlt : L.base + o + i < arr.size := by have := (List.getElem?_eq_some_iff.1 hy).1; omega
          refine ⟨arr[L.base + o + i], by rw [cell_of_heap k3]; simp, k6 (o + i) y _ hy ?_⟩
          rw [show L.base + (o + i) = L.base + o + i by omega]; simp
      · cases hs
    · cases hs
  · rename_i n ys
    split at hs
    · rename_i hc
      have hn0 : 0 < n := Nat.le_of_ble_eq_true hc
      simp only [Option.some.injEq] at hs; subst hs
      cases hv with
      | pl0 => omega
      | pl _ _ c b o _ m hm hcc hn hl hr =>
        have hw := (H.pers b m hm).1
        refine ⟨b, o, c, by rw [hn, Nat.mul_one], (Array.getElem?_eq_some_iff.1 hw).1, fun i y hy => ?_⟩
        have hi : i < ys.length := (List.getElem?_eq_some_iff.1 hy).1
        have hlt : o + i < m.arr.size := by omega
        refine ⟨m.arr[o + i], by rw [cell_of_heap hw]; simp, ?_⟩
        exact (hr i y _ hy (by simp)).ext (Ext.unbare fun _ _ h => h)
    · cases hs
  · cases hs
def strsOf : List V → Option (List (List UInt8))
  | [] => some []
  | .str l :: r => match Nat.ble l.length 1000 with
    | true => match strsOf r with
      | some t => some (l :: t)
      | none => none
    | false => none
  | _ :: _ => none
omit [E : Amb] in
theorem strsOf_sound : ∀ {cs : List V} {sy : List (List UInt8)}, strsOf cs = some sy → cs = sy.map V.str ∧ ∀ s ∈ sy, s.length ≤ 1000
  | [], sy, h => by simp only [strsOf, Option.some.injEq] at h; subst h; simp
  | x :: r, sy, h => by
    unfold strsOf at h
    split at h
    · cases ‹_ :: _ = []›
    · rename_i l r' e
      injection e with e1 e2
      subst e1 e2
      split at h
      · rename_i hl
        split at h
        · rename_i t ht
          simp only [Option.some.injEq] at h; subst h
          obtain ⟨g1, g2⟩ := strsOf_sound ht
          refine ⟨by rw [List.map_cons, ← g1], fun s hs => ?_⟩
          rcases List.mem_cons.1 hs with rfl | hs
          · exact Nat.le_of_ble_eq_true hl
          · exact g2 s hs
        · cases h
      · cases h
    · cases h
def pickB (cs : List V) : V → Option (List V)
  | .int .i64 (.ofNat p) => match cs[p]? with
    | some (.str l) => some (l.map fun c => V.int .u8 c.toNat)
    | _ => none
  | .lin .i64 c ts => match lpick0 1 (.pl cs.length 1 cs) (.lin .i64 c ts) with
    | some (.pk (.sstr l)) => some l
    | _ => none
  | _ => none
theorem pickB_sound {ρ : Ren} {sy : List (List UInt8)} {p : V} {u : Value} {bs : List V} (hv : VR ρ p u) (h : pickB (sy.map V.str) p = some bs) : ∃ z : Nat, u = .int .i64 (z : Int) ∧ z < sy.length ∧ BytesR ρ bs (sy.getD z []) := by
  unfold pickB at h
  split at h
  · rename_i p
    split at h
    · rename_i l hl
      simp only [Option.some.injEq] at h; subst h
      rw [List.getElem?_map, Option.map_eq_some_iff] at hl
      obtain ⟨s, hs, e⟩ := hl
      injection e with e; subst e
      refine ⟨p, hv.int_inv, (List.getElem?_eq_some_iff.1 hs).1, ?_⟩
      rw [List.getD, hs]
      exact BytesR.ints s
    · cases h
  · rename_i c ts
    split at h
    · rename_i l hl
      simp only [Option.some.injEq] at h; subst h
      unfold lpick0 at hl
      simp only [] at hl
      split at hl
      · rename_i hc
        obtain ⟨h0, h1, h2⟩ := hc
        simp only [Option.some.injEq, V.pk.injEq, V.sstr.injEq] at hl; subst hl
        cases hv with
        | lin _ _ _ n hok hn =>
          have hb := loS_le c hok
          obtain ⟨by8, g1, g2⟩ := rowS_get _ _ h2 n.toNat (by omega) (by omega)
          rw [List.getElem?_map, Option.map_eq_some_iff] at g1
          obtain ⟨s, hs, e⟩ := g1
          injection e with e; subst e
          refine ⟨n.toNat, by rw [show ((n.toNat : Nat) : Int) = n by omega], (List.getElem?_eq_some_iff.1 hs).1, ?_⟩
          rw [List.getD, hs]
          refine ⟨rfl, fun i x b' hx hb' => ?_⟩
          cases i with
          | zero =>
            simp at hx hb'; subst hx hb'
            exact mkLin_VR hok (by omega)
          | succ i => simp at hx
      · cases hl
    · cases h
  · cases h
def catB (cs : List V) : List V → Option (List V)
  | [] => some []
  | p :: r => match catB cs r with
    | some t => match pickB cs p with
      | some b => some (t ++ b)
      | none => none
    | none => none
theorem catB_sound {ρ : Ren} {sy : List (List UInt8)} : ∀ {ps : List V} {us : List Value} {bs : List V}, VRs ρ ps us → catB (sy.map V.str) ps = some bs → ∃ zs : List Nat, us = zs.map (fun z : Nat => Value.int .i64 (z : Int)) ∧ (∀ z ∈ zs, z < sy.length) ∧ BytesR ρ bs (Reg.chS sy zs)
  | [], us, bs, hv, h => by
    have hu := hv.nil_inv
    subst hu
    simp only [catB, Option.some.injEq] at h; subst h
    exact ⟨[], rfl, by simp, rfl, fun i x b hx _ => by simp at hx⟩
  | p :: r, us, bs, hv, h => by
    obtain ⟨u, us', rfl, hu, hr⟩ := hv.cons_inv
    unfold catB at h
    split at h
    · rename_i t ht
      split at h
      · rename_i b hb
        simp only [Option.some.injEq] at h; subst h
        obtain ⟨z, rfl, hz, kz⟩ := pickB_sound hu hb
        obtain ⟨zs, rfl, hzs, kzs⟩ := catB_sound hr ht
        refine ⟨z :: zs, rfl, fun y hy => ?_, ?_⟩
        · rcases List.mem_cons.1 hy with rfl | hy
          · exact hz
          · exact hzs y hy
        · rw [Reg.chS_cons]; exact kzs.append kz
      · cases h
    · cases h
theorem pl_len {ρ : Ren} {n sz : Nat} {cs : List V} {u : Value} (h : VR ρ (.pl n sz cs) u) : cs.length = n * sz := by
  cases h with
  | pl _ _ _ _ _ _ _ _ _ hn _ _ => exact hn
  | pl0 => simp
def chosenS : Spec := fun args h => match args with
  | [.agg (_ :: _ :: _ :: .pl sn 1 sy :: _), x] => match strsOf sy with
    | some _ => match sliceV h x with
      | some ps => match Nat.ble ps.length 60 && (Nat.ble sn 1000 && Nat.blt 0 sn) with
        | true => match catB sy ps with
          | some bs => some (.tup [mkSS bs, .bool true], h)
          | none => none
        | false => none
      | none => none
    | none => none
  | _ => none
theorem chosenS_sound : Sound Tryz.prog gam 91 chosenS := by
  intro args h r h' hs N0 w0 ρ w us H hv
  unfold chosenS at hs
  split at hs
  · rename_i v0 v1 v2 sn sy rest x
    split at hs
    · rename_i syms hsy
      split at hs
      · rename_i ps hps
        split at hs
        · rename_i hc
          split at hs
          · rename_i bs hbs
            simp only [Option.some.injEq, Prod.mk.injEq] at hs; obtain ⟨rfl, rfl⟩ := hs
            simp only [Bool.and_eq_true] at hc
            obtain ⟨hc1, hc2, hc3⟩ := hc
            have hc1 := Nat.le_of_ble_eq_true hc1
            have hc2 := Nat.le_of_ble_eq_true hc2
            have hc3b := hc3
            have hc3 : 0 < sn := Nat.le_of_ble_eq_true hc3
            obtain ⟨u, us', k1, hu, k2⟩ := hv.cons_inv
            obtain ⟨u2, us2, k3, hu2, k4⟩ := k2.cons_inv
            have k5 := k4.nil_inv
            subst k5 k3
            obtain rfl : us = #[u, u2] := by cases us; simp_all
            obtain ⟨D, rfl, hD⟩ := hu.agg_inv
            obtain ⟨hsy1, hsy2⟩ := strsOf_sound hsy
            subst hsy1
            obtain ⟨u3, hu3, hr3⟩ := hD.get (i := 3) (x := .pl sn 1 (syms.map V.str)) rfl
            have hD3 : D[3]? = some u3 := by simpa using hu3
            obtain ⟨sb, so, sc, e3, hsb, hsc⟩ := sliceV_sound H hr3 (xs := syms.map V.str) (by
              show (match Nat.blt 0 sn with | true => some (syms.map V.str) | false => none) = some (syms.map V.str)
              rw [hc3b])
            subst e3
            have hsn : (syms.map V.str).length = sn := by rw [pl_len hr3, Nat.mul_one]
            obtain ⟨b, o, cp, e2, hb, hbc⟩ := sliceV_sound H hu2 hps
            subst e2
            -- the places, as they are
            have hex : ∀ i, i < ps.length → ∃ v, w.cell? ⟨b, o + i, none⟩ = some v := fun i hi => by
              obtain ⟨v, hv, _⟩ := hbc i ps[i] (List.getElem?_eq_getElem hi)
              exact ⟨v, hv⟩
            have hvs : VRs ρ ps ((List.range ps.length).map fun i => (w.cell? ⟨b, o + i, none⟩).getD undef) := by
              refine ⟨by simp, fun i y v hy hv => ?_⟩
              obtain ⟨v', hv', hr'⟩ := hbc i y hy
              have hi : i < ps.length := (List.getElem?_eq_some_iff.1 hy).1
              rw [List.getElem?_map, List.getElem?_range hi, Option.map_some, Option.some.injEq, hv', Option.getD_some] at hv
              subst hv; exact hr'
            obtain ⟨zs, ezs, hzs, kzs⟩ := catB_sound hvs hbs
            have hzl : zs.length = ps.length := by
              have := congrArg List.length ezs
              simpa using this.symm
            have hcz : ∀ j, j < zs.length → w.cell? ⟨b, o + j, none⟩ = some (.int .i64 ((zs[j]?.getD 0 : Nat) : Int)) := fun j hj => by
              have hj' : j < ps.length := by omega
              have := congrArg (·[j]?) ezs
              rw [List.getElem?_map, List.getElem?_range hj', List.getElem?_map, List.getElem?_eq_getElem hj] at this
              obtain ⟨v, hv⟩ := hex j hj'
              simp only [Option.map_some, Option.some.injEq] at this
              rw [hv, Option.getD_some] at this
              rw [hv, this, List.getElem?_eq_getElem hj]; rfl
            have hss : ∀ j, j < sn → w.cell? ⟨sb, so + j, none⟩ = some (.string ⟨(syms.getD j []).toArray⟩) := fun j hj => by
              have hj' : j < syms.length := by simpa [← hsn] using hj
              obtain ⟨v, hv, hr⟩ := hsc j (.str syms[j]) (by simp [hj'])
              rw [hv, hr.str_inv, List.getD, List.getElem?_eq_getElem hj']; rfl
            rw [hsn] at hD3
            rw [← hzl]
            refine (Num.chosen_in D sb so sn sc b o cp syms zs w hD3 hsb hss hsy2 hb (by omega) hc3 hc2 (fun d hd => by have := hzs d hd; rw [List.length_map] at hsn; omega) hcz).mono ?_
            rintro e w' ⟨rfl, hbw⟩
            exact ⟨ρ, _, rfl, .refl _, H.grow hbw, VRs.tup (us := #[_, _]) (VRs.cons (mkSS_VR kzs) (VRs.cons (.bool _) (VRs.nil _)))⟩
          · cases hs
        · cases hs
      · cases hs
    · cases hs
  · cases hs
end Go.Proofs.YtieiopaobipdoaaGreatDoor.HM
