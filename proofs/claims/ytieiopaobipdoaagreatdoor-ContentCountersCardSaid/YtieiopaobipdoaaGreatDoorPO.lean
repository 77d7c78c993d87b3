/- A run told once: for these arguments (plain data) a function gives this (plain data), whatever the heap. -/
import Derived.Test.YtieiopaobipdoaaGreatDoorPG
namespace Go.Proofs.YtieiopaobipdoaaGreatDoor.HM
open Go Go.RowKit
variable [E : Amb]
noncomputable def memoS (A : List V) (lit : V) (spec : Spec) : Spec := fun args h => Bool.rec (motive := fun _ => Option (V × Hp)) (spec args h) (some (lit, h)) (samesF args A)
noncomputable def frzO (o : Option (V × Hp)) : Option V := Option.rec (motive := fun _ => Option V) none (fun p => frzR p.2 p.1) o
omit [E : Amb] in
theorem frzO_inv {o : Option (V × Hp)} {lit : V} (h : frzO o = some lit) : ∃ r h0, o = some (r, h0) ∧ frzR h0 r = some lit := by
  cases o with
  | none => cases h
  | some p => exact ⟨p.1, p.2, rfl, h⟩
theorem memo_sound {P : Program} {Γ : Glob} {f : FuncId} {spec : Spec} (hsd : Sound P Γ f spec) {A : List V} {lit : V} (hA : V.areData A = true) (hr : frzO (spec A Hp.empty) = some lit) : Sound P Γ f (memoS A lit spec) := by
  intro args h r' h' hs N0 w0 ρ w us H hv
  revert hs
  show Bool.rec (motive := fun _ => Option (V × Hp)) (spec args h) (some (lit, h)) (samesF args A) = some (r', h') → _
  cases he : samesF args A with
  | false => intro hs; exact hsd args h r' h' hs N0 w0 ρ w us H hv
  | true =>
    intro hs
    simp only [Option.some.injEq, Prod.mk.injEq] at hs; obtain ⟨rfl, rfl⟩ := hs
    rw [samesF_eq] at he
    obtain rfl := V.sames_eq _ _ he
    obtain ⟨r, h0, hr1, hr2⟩ := frzO_inv hr
    refine (hsd _ _ _ _ hr1 w.heap.size _ _ w us H.startB (areData_VRs hA hv)).mono ?_
    rintro e w' ⟨ρ', v, rfl, _, k1, k2⟩
    exact ⟨_, _, rfl, frz_ext _ _, frz_rel H k1.below, frzR_sound H k1 k2 hr2⟩
theorem memoP_sound {P : Program} {Γ : Glob} {f : FuncId} {spec spec2 : Spec} (hsd : Sound P Γ f spec) (hsd2 : Sound P Γ f spec2) {A : List V} {lit : V} (hA : V.areData A = true) (hr : frzO (spec2 A Hp.empty) = some lit) : Sound P Γ f (memoS A lit spec) := by
  intro args h r' h' hs N0 w0 ρ w us H hv
  revert hs
  show Bool.rec (motive := fun _ => Option (V × Hp)) (spec args h) (some (lit, h)) (samesF args A) = some (r', h') → _
  cases he : samesF args A with
  | false => intro hs; exact hsd args h r' h' hs N0 w0 ρ w us H hv
  | true =>
    intro hs
    simp only [Option.some.injEq, Prod.mk.injEq] at hs; obtain ⟨rfl, rfl⟩ := hs
    rw [samesF_eq] at he
    obtain rfl := V.sames_eq _ _ he
    obtain ⟨r, h0, hr1, hr2⟩ := frzO_inv hr
    refine (hsd2 _ _ _ _ hr1 w.heap.size _ _ w us H.startB (areData_VRs hA hv)).mono ?_
    rintro e w' ⟨ρ', v, rfl, _, k1, k2⟩
    exact ⟨_, _, rfl, frz_ext _ _, frz_rel H k1.below, frzR_sound H k1 k2 hr2⟩
def Tr.unit {α : Type} : Tr α → Tr Unit
  | .leaf => .leaf
  | .node l v r => .node l.unit (v.map fun _ => ()) r.unit
def famsOf (t : Tr Blk) : Tr Unit := t.list.foldr (fun p s => Tr.put (some ()) s (famOf p.1 p.2)) .leaf
def famIn (F : Tr (List (Nat × Nat))) : Blk → Bool
  | .cells f _ _ _ => (Tr.get F f).isSome
  | _ => true
def Hp.trim (h : Hp) : Option Hp := match h.t.list.all (fun p => famIn (Tr.only (famsOf h.t) h.fams) p.2) with
  | true => some ⟨h.next, h.t, Tr.only (famsOf h.t) h.fams, Tr.only h.t.unit h.els⟩
  | false => none
theorem Rel.trim {Γ : Glob} {N0 : Nat} {w0 : Fr} {ρ : Ren} {h h' : Hp} {w : World} (H : Rel Γ N0 w0 ρ h w) (ht : h.trim = some h') : Rel Γ N0 w0 ρ h' w := by
  unfold Hp.trim at ht
  split at ht
  · rename_i hc
    simp only [Option.some.injEq] at ht; subst ht
    rw [List.all_eq_true] at hc
    have hfs : ∀ f l, (Tr.only (famsOf h.t) h.fams).get f = some l → h.fams.get f = some l := fun f l hl => Tr.get_only _ _ f l hl
    have hel : ∀ a e, (Tr.only h.t.unit h.els).get a = some e → h.els.get a = some e := fun a e he => Tr.get_only _ _ a e he
    exact {
      below := H.below, hN0 := H.hN0, glob := H.glob, fresh := H.fresh, lt := H.lt, blk := H.blk, sep := H.sep, same := H.same
      fam := ⟨fun a f fb fz xs hx => by
          have h1 := hc (a, .cells f fb fz xs) ((Tr.mem_list _ _ _).2 hx)
          simp only [famIn, Option.isSome_iff_exists] at h1
          obtain ⟨l, hl⟩ := h1
          obtain ⟨l', k1, k2⟩ := H.fam.mem a f fb fz xs hx
          have := hfs f l hl
          rw [k1] at this; simp only [Option.some.injEq] at this; subst this
          exact ⟨_, hl, k2⟩, fun f l hl => H.fam.sorted f l (hfs f l hl), H.fam.lt, H.fam.own⟩
      elk := fun a e hne he => H.elk a e hne (hel a e he)
      elt := fun a e he => H.elt a e (hel a e he)
      old := H.old, kept := H.kept, pers := H.pers }
  · cases ht
noncomputable def trimO (o : Option (V × Hp)) : Option (V × Hp) := Option.rec (motive := fun _ => Option (V × Hp)) none (fun p => ((p.2.gc p.1).trim).map fun h => (p.1, h)) o
omit [E : Amb] in
theorem trimO_inv {o : Option (V × Hp)} {r : V} {h : Hp} (k : trimO o = some (r, h)) : ∃ h0, o = some (r, h0) ∧ (h0.gc r).trim = some h := by
  cases o with
  | none => cases k
  | some p =>
    obtain ⟨h1, k1, k2⟩ := Option.map_eq_some_iff.1 k
    simp only [Prod.mk.injEq] at k2
    obtain ⟨rfl, rfl⟩ := k2
    exact ⟨p.2, rfl, k1⟩
noncomputable def leafF {α : Type} : Tr α → Bool := fun t => Tr.rec (motive := fun _ => Bool) true (fun _ _ _ _ _ => false) t
omit [E : Amb] in
theorem leafF_eq {α : Type} {t : Tr α} (h : leafF t = true) : t = .leaf := by cases t <;> first | rfl | cases h
noncomputable def emptyF : Hp → Bool := fun h => Hp.rec (motive := fun _ => Bool) (fun n t f e => Bool.rec (motive := fun _ => Bool) false (Bool.rec (motive := fun _ => Bool) false (Bool.rec (motive := fun _ => Bool) false (leafF e) (leafF f)) (leafF t)) (Nat.beq n 0)) h
omit [E : Amb] in
theorem emptyF_eq {h : Hp} (k : emptyF h = true) : h = Hp.empty := by
  obtain ⟨n, t, f, e⟩ := h
  have k' : Bool.rec (motive := fun _ => Bool) false (Bool.rec (motive := fun _ => Bool) false (Bool.rec (motive := fun _ => Bool) false (leafF e) (leafF f)) (leafF t)) (Nat.beq n 0) = true := k
  cases hn : Nat.beq n 0 <;> rw [hn] at k'
  · cases k'
  cases ht : leafF t <;> rw [ht] at k'
  · cases k'
  cases hf : leafF f <;> rw [hf] at k'
  · cases k'
  obtain rfl := Nat.eq_of_beq_eq_true hn
  obtain rfl := leafF_eq ht
  obtain rfl := leafF_eq hf
  obtain rfl := leafF_eq k'
  rfl
noncomputable def memoC (A : List V) (lit : V) (lith : Hp) (spec : Spec) : Spec := fun args h => Bool.rec (motive := fun _ => Option (V × Hp)) (spec args h) (Bool.rec (motive := fun _ => Option (V × Hp)) (spec args h) (some (lit, lith)) (samesF args A)) (emptyF h)
theorem memoC_sound {P : Program} {Γ : Glob} {f : FuncId} {spec spec' : Spec} (hsd : Sound P Γ f spec) (hsd' : Sound P Γ f spec') {A : List V} {lit : V} {lith : Hp} (hr : trimO (spec' A Hp.empty) = some (lit, lith)) : Sound P Γ f (memoC A lit lith spec) := by
  intro args h r' h' hs N0 w0 ρ w us H hv
  revert hs
  show Bool.rec (motive := fun _ => Option (V × Hp)) (spec args h) (Bool.rec (motive := fun _ => Option (V × Hp)) (spec args h) (some (lit, lith)) (samesF args A)) (emptyF h) = some (r', h') → _
  cases hm : emptyF h with
  | false => intro hs; exact hsd args h r' h' hs N0 w0 ρ w us H hv
  | true =>
    cases he : samesF args A with
    | false => intro hs; exact hsd args h r' h' hs N0 w0 ρ w us H hv
    | true =>
      intro hs
      simp only [Option.some.injEq, Prod.mk.injEq] at hs; obtain ⟨rfl, rfl⟩ := hs
      rw [samesF_eq] at he
      obtain rfl := V.sames_eq _ _ he
      obtain rfl := emptyF_eq hm
      obtain ⟨h0, hr1, hr2⟩ := trimO_inv hr
      refine (hsd' _ _ _ _ hr1 N0 w0 ρ w us H hv).mono ?_
      rintro e w' ⟨ρ', v, k0, k1, k2, k3⟩
      exact ⟨ρ', v, k0, k1, (k2.gc _).trim hr2, k3⟩
noncomputable def sameO {α : Type} (f : α → α → Bool) : Option α → Option α → Bool := fun a => Option.rec (motive := fun _ => Option α → Bool) (fun b => Option.rec (motive := fun _ => Bool) true (fun _ => false) b) (fun x b => Option.rec (motive := fun _ => Bool) false (fun y => f x y) b) a
noncomputable def sameT {α : Type} (f : α → α → Bool) : Tr α → Tr α → Bool := fun t => Tr.rec (motive := fun _ => Tr α → Bool) (fun u => Tr.rec (motive := fun _ => Bool) true (fun _ _ _ _ _ => false) u)
  (fun _ v _ ihl ihr u => Tr.rec (motive := fun _ => Bool) false (fun l w r _ _ => Bool.rec (motive := fun _ => Bool) false (Bool.rec (motive := fun _ => Bool) false (ihr r) (ihl l)) (sameO f v w)) u) t
omit [E : Amb] in
theorem sameO_eq {α : Type} {f : α → α → Bool} (hf : ∀ x y, f x y = true → x = y) {a b : Option α} (h : sameO f a b = true) : a = b := by
  cases a <;> cases b <;> first | rfl | (cases h; done) | exact congrArg some (hf _ _ h)
omit [E : Amb] in
theorem sameT_eq {α : Type} {f : α → α → Bool} (hf : ∀ x y, f x y = true → x = y) : ∀ (t u : Tr α), sameT f t u = true → t = u := by
  intro t
  induction t with
  | leaf => intro u h; cases u <;> first | rfl | cases h
  | node l v r ihl ihr =>
    intro u h
    cases u with
    | leaf => cases h
    | node l' w r' =>
      have h : Bool.rec (motive := fun _ => Bool) false (Bool.rec (motive := fun _ => Bool) false (sameT f r r') (sameT f l l')) (sameO f v w) = true := h
      cases h1 : sameO f v w <;> rw [h1] at h
      · cases h
      cases h2 : sameT f l l' <;> rw [h2] at h
      · cases h
      rw [ihl _ h2, ihr _ h, sameO_eq hf h1]
noncomputable def samePs : List (Nat × Nat) → List (Nat × Nat) → Bool := fun a => List.rec (motive := fun _ => List (Nat × Nat) → Bool) (fun b => List.rec (motive := fun _ => Bool) true (fun _ _ _ => false) b)
  (fun x _ ih b => List.rec (motive := fun _ => Bool) false (fun y r _ => Bool.rec (motive := fun _ => Bool) false (Bool.rec (motive := fun _ => Bool) false (ih r) (Nat.beq x.2 y.2)) (Nat.beq x.1 y.1)) b) a
omit [E : Amb] in
theorem samePs_eq : ∀ (a b : List (Nat × Nat)), samePs a b = true → a = b := by
  intro a
  induction a with
  | nil => intro b h; cases b <;> first | rfl | cases h
  | cons x a ih =>
    intro b h
    cases b with
    | nil => cases h
    | cons y b =>
      have h : Bool.rec (motive := fun _ => Bool) false (Bool.rec (motive := fun _ => Bool) false (samePs a b) (Nat.beq x.2 y.2)) (Nat.beq x.1 y.1) = true := h
      cases h1 : Nat.beq x.1 y.1 <;> rw [h1] at h
      · cases h
      cases h2 : Nat.beq x.2 y.2 <;> rw [h2] at h
      · cases h
      rw [ih _ h]
      obtain ⟨x1, x2⟩ := x
      obtain ⟨y1, y2⟩ := y
      have e1 : x1 = y1 := Nat.eq_of_beq_eq_true h1
      have e2 : x2 = y2 := Nat.eq_of_beq_eq_true h2
      rw [e1, e2]
noncomputable def sameHp : Hp → Hp → Bool := fun h => Hp.rec (motive := fun _ => Hp → Bool) (fun n t f e g => Hp.rec (motive := fun _ => Bool) (fun n' t' f' e' =>
  Bool.rec (motive := fun _ => Bool) false (Bool.rec (motive := fun _ => Bool) false (Bool.rec (motive := fun _ => Bool) false (sameT Blk.same t t') (sameT samePs f f')) (sameT Nat.beq e e')) (Nat.beq n n')) g) h
omit [E : Amb] in
theorem sameHp_eq {g h : Hp} (k : sameHp g h = true) : g = h := by
  obtain ⟨n, t, f, e⟩ := g
  obtain ⟨n', t', f', e'⟩ := h
  have k : Bool.rec (motive := fun _ => Bool) false (Bool.rec (motive := fun _ => Bool) false (Bool.rec (motive := fun _ => Bool) false (sameT Blk.same t t') (sameT samePs f f')) (sameT Nat.beq e e')) (Nat.beq n n') = true := k
  cases h1 : Nat.beq n n' <;> rw [h1] at k
  · cases k
  cases h2 : sameT Nat.beq e e' <;> rw [h2] at k
  · cases k
  cases h3 : sameT samePs f f' <;> rw [h3] at k
  · cases k
  rw [Nat.eq_of_beq_eq_true h1, sameT_eq (fun _ _ h => Nat.eq_of_beq_eq_true h) _ _ h2, sameT_eq samePs_eq _ _ h3, sameT_eq Blk.same_eq _ _ k]
noncomputable def memoH (A : List V) (H : Hp) (lit : V) (lith : Hp) (spec : Spec) : Spec := fun args h => Bool.rec (motive := fun _ => Option (V × Hp)) (spec args h) (Bool.rec (motive := fun _ => Option (V × Hp)) (spec args h) (some (lit, lith)) (sameHp h H)) (samesF args A)
def Hp.keepOnly (h : Hp) (roots : List Nat) (stop : Tr Unit) : Hp := ⟨h.next, Tr.only (reach h.t 1000000 roots stop) h.t, h.fams, h.els⟩
theorem Rel.keepOnly {Γ : Glob} {N0 : Nat} {w0 : Fr} {ρ : Ren} {h : Hp} {w : World} (H : Rel Γ N0 w0 ρ h w) (l : List Nat) (s : Tr Unit) : Rel Γ N0 w0 ρ (h.keepOnly l s) w := by
  have hs : ∀ a x, (h.keepOnly l s).t.get a = some x → h.t.get a = some x := fun a x hx => Tr.get_only _ _ a x hx
  exact H.sub rfl hs (H.fam.sub rfl hs rfl) rfl
noncomputable def trimK (roots : List Nat) (stop : Tr Unit) (o : Option (V × Hp)) : Option (V × Hp) := Option.rec (motive := fun _ => Option (V × Hp)) none (fun p => ((p.2.keepOnly (p.1.names roots) stop).trim).map fun h => (p.1, h)) o
omit [E : Amb] in
theorem trimK_inv {roots : List Nat} {stop : Tr Unit} {o : Option (V × Hp)} {r : V} {h : Hp} (k : trimK roots stop o = some (r, h)) : ∃ h0 l, o = some (r, h0) ∧ (h0.keepOnly l stop).trim = some h := by
  cases o with
  | none => cases k
  | some p =>
    obtain ⟨h1, k1, k2⟩ := Option.map_eq_some_iff.1 k
    simp only [Prod.mk.injEq] at k2
    obtain ⟨rfl, rfl⟩ := k2
    exact ⟨p.2, _, rfl, k1⟩
theorem memoH_sound {P : Program} {Γ : Glob} {f : FuncId} {spec spec' : Spec} (hsd : Sound P Γ f spec) (hsd' : Sound P Γ f spec') {A : List V} {H0 : Hp} {lit : V} {lith : Hp} {roots : List Nat} {stop : Tr Unit} (hr : trimK roots stop (spec' A H0) = some (lit, lith)) : Sound P Γ f (memoH A H0 lit lith spec) := by
  intro args h r' h' hs N0 w0 ρ w us H hv
  revert hs
  show Bool.rec (motive := fun _ => Option (V × Hp)) (spec args h) (Bool.rec (motive := fun _ => Option (V × Hp)) (spec args h) (some (lit, lith)) (sameHp h H0)) (samesF args A) = some (r', h') → _
  cases he : samesF args A with
  | false => intro hs; exact hsd args h r' h' hs N0 w0 ρ w us H hv
  | true =>
    cases hm : sameHp h H0 with
    | false => intro hs; exact hsd args h r' h' hs N0 w0 ρ w us H hv
    | true =>
      intro hs
      simp only [Option.some.injEq, Prod.mk.injEq] at hs; obtain ⟨rfl, rfl⟩ := hs
      rw [samesF_eq] at he
      obtain rfl := V.sames_eq _ _ he
      obtain rfl := sameHp_eq hm
      obtain ⟨h0, l, hr1, hr2⟩ := trimK_inv hr
      refine (hsd' _ _ _ _ hr1 N0 w0 ρ w us H hv).mono ?_
      rintro e w' ⟨ρ', v, k0, k1, k2, k3⟩
      exact ⟨ρ', v, k0, k1, (k2.keepOnly _ _).trim hr2, k3⟩
end Go.Proofs.YtieiopaobipdoaaGreatDoor.HM
