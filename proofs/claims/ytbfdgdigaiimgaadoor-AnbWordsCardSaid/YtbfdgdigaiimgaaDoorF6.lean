/- The fast machine, 6: calls; whole operations. -/
import Derived.Test.YtbfdgdigaiimgaaDoorF5
namespace Go.Proofs.YtbfdgdigaiimgaaDoor.HM
open Go Go.RowKit

mutual
theorem isDataF_eq : ∀ v : V, isDataF v = v.isData
  | .bool _ => rfl
  | .int _ _ => rfl
  | .str _ => rfl
  | .nilp => rfl
  | .anyp => rfl
  | .ptr _ _ => rfl
  | .gp _ _ => rfl
  | .nils => rfl
  | .sl _ _ _ _ => rfl
  | .nilmap => rfl
  | .mp _ => rfl
  | .nilfn => rfl
  | .fn _ _ _ => rfl
  | .nilif => rfl
  | .iface _ _ => rfl
  | .agg cs => by rw [V.isData]; exact aggDataF_eq cs
  | .tup cs => by rw [V.isData]; exact aggDataF_eq cs
  | .any => rfl
  | .mod _ _ => rfl
  | .anyb => rfl
  | .lin _ _ _ => rfl
  | .sstr _ => rfl
theorem aggDataF_eq : ∀ l : List V, isDataF (.agg l) = V.areData l
  | [] => rfl
  | x :: r => by
    show Bool.rec (motive := fun _ => Bool) false (isDataF (.agg r)) (isDataF x) = _
    rw [aggDataF_eq r, isDataF_eq x, V.areData]
    cases x.isData <;> rfl
end
theorem areDataF_eq : ∀ l : List V, areDataF l = V.areData l
  | [] => rfl
  | x :: r => by
    show Bool.rec (motive := fun _ => Bool) false (areDataF r) (isDataF x) = _
    rw [areDataF_eq r, isDataF_eq x, V.areData]
    cases x.isData <;> rfl

theorem toO_oS (o : Option (V × Hp)) : toO (oS o) = match o with | some (x, k) => some (x, some k) | none => none := by
  cases o with
  | none => rfl
  | some p => rfl

theorem fCall_ok (g : Nat) (xs : List V) (C : Cfg) (h : Hp) : Le (toO (fCall g xs C h)) (opCall C (.fn g [] []) xs h) := by
  unfold fCall
  simp only [opCall, List.nil_append, List.append_nil]
  cases hc : C.ctx g with
  | none =>
    cases C.ext g with
    | none => exact Le.none _
    | some e =>
      simp only [toO_oV]
      cases e xs <;> exact Le.refl _
  | some spec =>
    simp only
    have d0 : V.areData [] = true := rfl
    rw [areDataF_eq, d0]
    cases hp : C.pure g with
    | true =>
      simp only
      cases hd : V.areData xs with
      | false => rw [toO_oP]; exact Le.refl _
      | true =>
        simp only
        cases hs : spec xs Hp.empty with
        | none => exact Le.none _
        | some p =>
          obtain ⟨r, k⟩ := p
          simp only [isDataF_eq]
          cases r.isData <;> exact Le.refl _
    | false =>
      simp only
      cases hcl : C.closed g with
      | false =>
        simp only [Bool.false_and]
        rw [toO_oS]
        cases spec xs h <;> exact Le.refl _
      | true =>
        simp only
        cases hd : V.areData xs with
        | false =>
          simp only [Bool.and_false, Bool.and_true]
          rw [toO_oS]
          cases spec xs h <;> exact Le.refl _
        | true =>
          simp only [Bool.and_true]
          cases hs : spec xs Hp.empty with
          | none => exact Le.none _
          | some p =>
            obtain ⟨r, h0⟩ := p
            show Le (toO (forceHA (h.beside (h0.gc r)) (fun h2 => .w (r.shift h.next) h2))) _
            rw [forceHA_eq]; exact Le.refl _

/-! ## The operands of an operation -/
section
variable {C : Cfg} {P : Program} {rd : Operand → Option V} {st : List V} {t : Env} {h : Hp} {ra : Operand → Option FA}

theorem decAll_ok (hra : ∀ x a, ra x = some a → rd x = some (a.get st t)) : ∀ (l : List Operand) (as : List FA), decAll ra l = some as → rdAll rd l = some (getAll as st t) := by
  intro l
  induction l with
  | nil => intro as h; cases h; rfl
  | cons x l ih =>
    intro as h
    simp only [decAll, mapC] at h
    split at h
    · rename_i a r ha hr
      simp only [Option.some.injEq] at h; subst h
      simp only [rdAll, hra _ _ ha, ih r hr]
      rfl
    · cases h

theorem decOpt_ok (hra : ∀ x a, ra x = some a → rd x = some (a.get st t)) (o : Option Operand) (a : Option FA) (h : decOpt ra o = some a) : optRd rd o = some (getO a st t) := by
  cases o with
  | none => cases h; rfl
  | some x =>
    simp only [decOpt] at h
    split at h
    · rename_i b hb
      simp only [Option.some.injEq] at h; subst h
      simp only [optRd, hra _ _ hb]
      rfl
    · cases h

theorem decM_ok (hra : ∀ x a, ra x = some a → rd x = some (a.get st t)) (hc : ∀ x, (∀ s, x ≠ .tmp s) → rd x = rdE .leaf x) : ∀ (l : List Operand) (m : List (Nat × FA)), decM ra l = some m →
    ∀ x ∈ l, fSlow x st t m = rd x := by
  intro l
  induction l with
  | nil => intro m _ x hx; cases hx
  | cons y l ih =>
    intro m hm x hx
    have other : (∀ s, x ≠ .tmp s) → fSlow x st t m = rd x := by
      intro hn
      rw [hc x hn]
      cases x with
      | tmp s => exact absurd rfl (hn s)
      | _ => rfl
    cases y with
    | tmp s =>
      simp only [decM] at hm
      split at hm
      · rename_i a r ha hr
        simp only [Option.some.injEq] at hm; subst hm
        cases x with
        | tmp s' =>
          show Bool.rec (motive := fun _ => Option V) (fSlow (.tmp s') st t r) (some (a.get st t)) (Nat.beq s s') = _
          cases hb : Nat.beq s s' with
          | true =>
            have := Nat.eq_of_beq_eq_true hb; subst this
            exact (hra _ _ ha).symm
          | false =>
            rcases List.mem_cons.1 hx with e | e
            · simp only [Operand.tmp.injEq] at e; subst e; simp at hb
            · exact ih r hr _ e
        | _ => exact other (fun s e => by cases e)
      · cases hm
    | _ =>
      simp only [decM] at hm
      rcases List.mem_cons.1 hx with e | e
      · exact other (fun s e2 => by rw [e] at e2; cases e2)
      · exact ih m hm x e

theorem slow_ok (hra : ∀ x a, ra x = some a → rd x = some (a.get st t)) (hc : ∀ x, (∀ s, x ≠ .tmp s) → rd x = rdE .leaf x) {o : Op} {fo : FO} (hd : decSlow ra o = some fo) : Le (toO (runO fo C st t h)) (opVal C rd h o) := by
  unfold decSlow at hd
  split at hd
  · rename_i m hm
    simp only [Option.some.injEq] at hd; subst hd
    show Le (toO (oPF (opVal C (fun x => fSlow x st t m) h o) [h.next] [h.next] [h.next])) _
    rw [toO_oPF, opVal_local (rd := fun x => fSlow x st t m) (rd' := rd) o (decM_ok hra hc _ _ hm)]
    exact Le.refl _
  · cases hd

end

/-! ## Sameness -/
theorem andF_eq (a b : Bool) : andF a b = (a && b) := by cases a <;> rfl
theorem beqB_eq (a b : Bool) : beqB a b = (a == b) := by cases a <;> cases b <;> rfl
theorem beqI_eq (a b : Int) : beqI a b = decide (a = b) := by
  cases a with
  | ofNat m => cases b with
    | ofNat n =>
      show Nat.beq m n = _
      rw [Bool.eq_iff_iff, Nat.beq_eq, decide_eq_true_iff]
      exact ⟨fun h => by rw [h], fun h => Int.ofNat.inj h⟩
    | negSucc n => rfl
  | negSucc m => cases b with
    | ofNat n => rfl
    | negSucc n =>
      show Nat.beq m n = _
      rw [Bool.eq_iff_iff, Nat.beq_eq, decide_eq_true_iff]
      exact ⟨fun h => by rw [h], fun h => Int.negSucc.inj h⟩
theorem knum_eq (k l : IntKind) : Nat.beq (knum k) (knum l) = decide (k = l) := by cases k <;> cases l <;> rfl

mutual
theorem sameVF_eq : ∀ (v y : V), sameVF v y = v.same y
  | .bool a, y => by cases y <;> first | rfl | (rw [V.same]; exact beqB_eq _ _)
  | .int k a, y => by cases y <;> first | rfl | (rw [V.same, ← knum_eq, ← beqI_eq]; exact andF_eq _ _)
  | .str a, y => by cases y <;> first | rfl | (rw [V.same]; exact beqS_eq _ _)
  | .nilp, y => by cases y <;> rfl
  | .anyp, y => by cases y <;> rfl
  | .ptr a o, y => by cases y <;> first | rfl | (rw [V.same]; exact andF_eq _ _)
  | .gp a o, y => by cases y <;> first | rfl | (rw [V.same]; exact andF_eq _ _)
  | .nils, y => by cases y <;> rfl
  | .sl a o n z, y => by cases y <;> first | rfl | (rw [V.same, ← andF_eq, ← andF_eq, ← andF_eq]; rfl)
  | .nilmap, y => by cases y <;> rfl
  | .mp a, y => by cases y <;> rfl
  | .nilfn, y => by cases y <;> rfl
  | .fn f x s, y => by
    cases y with
    | fn g x' s' => rw [V.same, ← aggVF_eq x x', ← aggVF_eq s s', ← andF_eq, ← andF_eq]; rfl
    | _ => rfl
  | .nilif, y => by cases y <;> rfl
  | .iface t x, y => by
    cases y with
    | iface t' x' => rw [V.same, ← sameVF_eq x x', ← andF_eq]; rfl
    | _ => rfl
  | .agg x, y => by
    cases y with
    | agg x' => rw [V.same, ← aggVF_eq x x']
    | _ => rfl
  | .tup x, y => by
    cases y with
    | tup x' => rw [V.same, ← aggVF_eq x x']; rfl
    | _ => rfl
  | .any, y => by cases y <;> rfl
  | .mod m i, y => by cases y <;> first | rfl | (rw [V.same]; exact andF_eq _ _)
  | .anyb, y => by cases y <;> rfl
  | .lin k c ts, y => by cases y <;> first | rfl | (rw [V.same, ← knum_eq, ← beqI_eq, ← andF_eq, ← andF_eq]; rfl)
  | .sstr x, y => by
    cases y with
    | sstr x' => rw [V.same, ← aggVF_eq x x']; rfl
    | _ => rfl
theorem aggVF_eq : ∀ (x y : List V), sameVF (.agg x) (.agg y) = V.sames x y
  | [], l => by cases l <;> rfl
  | x :: r, l => by
    cases l with
    | nil => rfl
    | cons y s =>
      rw [V.sames, ← sameVF_eq x y, ← aggVF_eq r s, ← andF_eq]; rfl
end
theorem samesF_eq : ∀ (x y : List V), samesF x y = V.sames x y
  | [], l => by cases l <;> rfl
  | x :: r, l => by
    cases l with
    | nil => rfl
    | cons y s =>
      rw [V.sames, ← sameVF_eq x y, ← samesF_eq r s, ← andF_eq]; rfl
theorem sameBF_eq (a b : Blk) : sameBF a b = a.same b := by
  cases a with
  | cells f c z xs => cases b with
    | cells g d x ys => rw [Blk.same, ← samesF_eq, ← andF_eq, ← andF_eq, ← andF_eq]; rfl
    | _ => rfl
  | iter l p => cases b with
    | iter m q => rw [Blk.same, ← samesF_eq, ← andF_eq]; rfl
    | _ => rfl
  | mapo es c => rfl
theorem sameEF_eq : ∀ (x y : List (Nat × Nat)), sameEF x y = sameEnds x y
  | [], l => by cases l <;> rfl
  | x :: r, l => by
    cases l with
    | nil => rfl
    | cons y s =>
      rw [sameEnds, ← sameEF_eq r s, ← andF_eq, ← andF_eq]; rfl
theorem eqTF_eq {α : Type} (s : α → α → Bool) : ∀ (t u : Tr α), eqTF s t u = Tr.eqT s t u := by
  intro t
  induction t with
  | leaf => intro u; cases u <;> rfl
  | node l v r ihl ihr =>
    intro u
    cases u with
    | leaf => rfl
    | node l' v' r' =>
      show andF (eqOF s v v') (andF (eqTF s l l') (eqTF s r r')) = _
      rw [ihl, ihr, andF_eq, andF_eq]
      cases v <;> cases v' <;> simp only [Tr.eqT] <;> rfl
theorem meetF_eq {α : Type} (s : α → α → Bool) : ∀ (t u : Tr α), meetF s t u = Tr.meet s t u := by
  intro t
  induction t with
  | leaf => intro u; rfl
  | node l v r ihl ihr =>
    intro u
    cases u with
    | leaf => rfl
    | node l' v' r' =>
      show Tr.node (meetF s l l') (meetO s v v') (meetF s r r') = _
      rw [ihl, ihr]
      cases v with
      | none => cases v' <;> rfl
      | some x => cases v' with
        | none => rfl
        | some y =>
          simp only [Tr.meet]
          show Tr.node (Tr.meet s l l') (Bool.rec (motive := fun _ => Option α) none (some x) (s x y)) (Tr.meet s r r') = _
          cases s x y <;> rfl
theorem joinF_eq (a b : Hp) : joinF a b = a.join b := by
  have e1 : sameBF = Blk.same := funext fun x => funext fun y => sameBF_eq x y
  have e2 : sameEF = sameEnds := funext fun x => funext fun y => sameEF_eq x y
  unfold joinF Hp.join
  rw [forceA_eq (fun v k => by cases v <;> rfl), meetF_eq, eqTF_eq, eqTF_eq, andF_eq, andF_eq, e1, e2]
  cases (Nat.beq a.next b.next && Tr.eqT sameEnds a.fams b.fams) && Tr.eqT Nat.beq a.els b.els <;> rfl

end Go.Proofs.YtbfdgdigaiimgaaDoor.HM
