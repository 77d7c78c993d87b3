/- What a run leaves, seen as the heap that it began with. -/
import Derived.Test.YtieiopaobipdoaaGreatDoorPO
namespace Go.Proofs.YtieiopaobipdoaaGreatDoor.HM
open Go Go.RowKit
variable [E : Amb]
mutual
def V.low (n : Nat) : V → Bool
  | .ptr a _ => Nat.blt a n
  | .sl a _ _ _ => Nat.blt a n
  | .mp a => Nat.blt a n
  | .fn _ xs ys => V.lows n xs && V.lows n ys
  | .iface _ x => V.low n x
  | .agg xs => V.lows n xs
  | .tup xs => V.lows n xs
  | .pk x => V.low n x
  | .sstr xs => V.lows n xs
  | _ => true
def V.lows (n : Nat) : List V → Bool
  | [] => true
  | x :: r => V.low n x && V.lows n r
end
def Ren.upto (ρ : Ren) (n : Nat) : Ren := ⟨fun a => if a < n then ρ a else Option.none, ρ.mem⟩
omit [E : Amb] in
theorem upto_some {ρ : Ren} {n a : Nat} {L : Loc} (h : (ρ.upto n) a = some L) : ρ a = some L ∧ a < n := by
  simp only [Ren.upto] at h
  split at h
  · exact ⟨h, by assumption⟩
  · cases h
omit [E : Amb] in
theorem upto_lt {ρ : Ren} {n a : Nat} (h : a < n) : (ρ.upto n) a = ρ a := by simp [Ren.upto, h]
omit [E : Amb] in
theorem lows_mem {n : Nat} : ∀ {xs : List V}, V.lows n xs = true → ∀ x ∈ xs, x.low n = true
  | [], _, x, hx => by cases hx
  | y :: ys, h, x, hx => by
    simp only [V.lows, Bool.and_eq_true] at h
    rcases List.mem_cons.1 hx with rfl | hx
    · exact h.1
    · exact lows_mem h.2 x hx
theorem VR.upto {ρ : Ren} {x : V} {u : Value} (h : VR ρ x u) (n : Nat) : x.low n = true → VR (ρ.upto n) x u := by
  induction h with
  | bool b => intro _; exact .bool b
  | int k n => intro _; exact .int k n
  | str l => intro _; exact .str l
  | nilp => intro _; exact .nilp
  | anyp p => intro _; exact .anyp p
  | ptr a o L h => intro k; exact .ptr a o L (by rw [upto_lt (by simpa [V.low] using k)]; exact h)
  | gp g o => intro _; exact .gp g o
  | nils => intro _; exact .nils
  | sl a o m sz c L h hc hl => intro k; exact .sl a o m sz c L (by rw [upto_lt (by simpa [V.low] using k)]; exact h) hc hl
  | sl0 a o sz x => intro _; exact .sl0 a o sz x
  | nilmap => intro _; exact .nilmap
  | mp a L h => intro k; exact .mp a L (by rw [upto_lt (by simpa [V.low] using k)]; exact h)
  | nilfn => intro _; exact .nilfn
  | fn f xs ys us vs hn hm hx hy ihx ihy =>
    intro k
    simp only [V.low, Bool.and_eq_true] at k
    exact .fn f xs ys us vs hn hm (fun i x u h1 h2 => ihx i x u h1 h2 (lows_mem k.1 x (List.mem_of_getElem? h1))) (fun i x u h1 h2 => ihy i x u h1 h2 (lows_mem k.2 x (List.mem_of_getElem? h1)))
  | nilif => intro _; exact .nilif
  | iface t x u h ih => intro k; exact .iface t x u (ih (by simpa [V.low] using k))
  | agg xs us hn hr ih =>
    intro k
    have k' : V.lows n xs = true := by simpa [V.low] using k
    exact .agg xs us hn fun i x u h1 h2 => ih i x u h1 h2 (lows_mem k' x (List.mem_of_getElem? h1))
  | tup xs us hn hr ih =>
    intro k
    have k' : V.lows n xs = true := by simpa [V.low] using k
    exact .tup xs us hn fun i x u h1 h2 => ih i x u h1 h2 (lows_mem k' x (List.mem_of_getElem? h1))
  | any u => intro _; exact .any u
  | mod m i k hm h => intro _; exact .mod m i k hm h
  | opq i => intro _; exact .opq i
  | anyb b => intro _; exact .anyb b
  | lin k c ts m h hn => intro _; exact .lin k c ts m h (by rw [sumR_ext (ρ := _) ts]; exact hn)
  | sstr xs bs hn hr ih =>
    intro k
    have k' : V.lows n xs = true := by simpa [V.low] using k
    exact .sstr xs bs hn fun i x b h1 h2 => ih i x b h1 h2 (lows_mem k' x (List.mem_of_getElem? h1))
  | pl m sz c b o xs mm hm hc hn hl hr _ => intro _; exact .pl m sz c b o xs mm hm hc hn hl hr
  | pl0 sz c x => intro _; exact .pl0 sz c x
  | pp b o xs m hm hl hr _ => intro _; exact .pp b o xs m hm hl hr
  | pk b o x m u hm hu hx ih => intro k; exact .pk b o x m u hm hu (ih (by simpa [V.low] using k))
def Blk.low (n : Nat) : Blk → Bool
  | .cells _ _ _ xs => V.lows n xs
  | .iter l _ => V.lows n l
  | .mapo es _ => es.all fun p => V.low n p.1 && V.low n p.2
def lowT (n : Nat) : Tr Blk → Bool
  | .leaf => true
  | .node l v r => (match v with | none => true | some x => Blk.low n x) && (lowT n l && lowT n r)
omit [E : Amb] in
theorem lowT_get {n : Nat} : ∀ {t : Tr Blk} {i : Nat} {x : Blk}, lowT n t = true → t.get i = some x → x.low n = true
  | .leaf, i, x, _, h => by cases h
  | .node l v r, i, x, k, h => by
    simp only [lowT, Bool.and_eq_true] at k
    obtain ⟨k1, k2, k3⟩ := k
    simp only [Tr.get] at h
    split at h
    · subst h; exact k1
    · split at h
      · exact lowT_get k2 h
      · exact lowT_get k3 h
def subT {α : Type} (f : α → α → Bool) : Tr α → Tr α → Bool
  | .leaf, _ => true
  | .node l v r, .leaf => (match v with | none => true | some _ => false) && (subT f l .leaf && subT f r .leaf)
  | .node l v r, .node l' v' r' => (match v, v' with | none, _ => true | some x, some y => f x y | some _, none => false) && (subT f l l' && subT f r r')
omit [E : Amb] in
theorem subT_get {α : Type} {f : α → α → Bool} (hf : ∀ x y, f x y = true → x = y) : ∀ {t u : Tr α} {i : Nat} {x : α}, subT f t u = true → t.get i = some x → u.get i = some x
  | .leaf, u, i, x, _, h => by cases h
  | .node l v r, .leaf, i, x, k, h => by
    simp only [subT, Bool.and_eq_true] at k
    obtain ⟨k1, k2, k3⟩ := k
    simp only [Tr.get] at h
    split at h
    · subst h; cases k1
    · split at h
      · have := subT_get hf k2 h; cases this
      · have := subT_get hf k3 h; cases this
  | .node l v r, .node l' v' r', i, x, k, h => by
    simp only [subT, Bool.and_eq_true] at k
    obtain ⟨k1, k2, k3⟩ := k
    simp only [Tr.get] at h ⊢
    split at h
    · rename_i e
      subst h
      cases v' with
      | none => cases k1
      | some y => have := hf _ _ k1; subst this; rfl
    · rename_i e
      split at h
      · rename_i e2
        exact subT_get hf k2 h
      · rename_i e2
        exact subT_get hf k3 h
noncomputable def Hp.back (h h' : Hp) : Bool := subT Blk.same h.t h'.t && (subT Nat.beq h.els h'.els && (Nat.ble h.next h'.next && lowT h.next h.t))
theorem Rel.back {Γ : Glob} {N0 : Nat} {w0 : Fr} {ρ ρ' : Ren} {h h' : Hp} {w w' : World} (H : Rel Γ N0 w0 ρ h w) (H' : Rel Γ N0 w0 ρ' h' w') (hb : h.back h' = true) : Rel Γ N0 w0 (ρ'.upto h.next) h w' := by
  simp only [Hp.back, Bool.and_eq_true] at hb
  obtain ⟨b1, b2, b3, b4⟩ := hb
  have st : ∀ {a x}, h.t.get a = some x → h'.t.get a = some x := fun hx => subT_get Blk.same_eq b1 hx
  have se : ∀ {a e}, h.els.get a = some e → h'.els.get a = some e := fun hx => subT_get (fun _ _ k => Nat.eq_of_beq_eq_true k) b2 hx
  have ul : ∀ {a L}, (ρ'.upto h.next) a = some L → ρ' a = some L := fun k => (upto_some k).1
  refine
    { below := H'.below, hN0 := H'.hN0, glob := H'.glob
      fresh := fun a ha => by show (if a < h.next then ρ' a else none) = none; rw [if_neg (by omega)]
      lt := fun a L k => H'.lt a L (ul k)
      blk := fun a x hn hx => ?_
      sep := fun a b x y L M h1 h2 h3 h4 => H'.sep a b x y L M (st h1) (st h2) (ul h3) (ul h4)
      same := fun a b f fb fz xs gb gz ys L M h1 h2 h3 h4 => H'.same a b f fb fz xs gb gz ys L M (st h1) (st h2) (ul h3) (ul h4)
      fam := H.fam
      elk := fun a e hn he => ?_
      elt := H.elt
      old := ⟨H.old.1, fun a ha => (upto_lt (Nat.lt_of_lt_of_le ha H.old.1)).trans (H'.old.2 a ha)⟩
      kept := ⟨H'.kept.1, fun b o hbo => ⟨(H'.kept.2 b o hbo).1, fun a x L hx hL => (H'.kept.2 b o hbo).2 a x L (st hx) (ul hL)⟩⟩
      pers := fun b m hm => ⟨(H'.pers b m hm).1, (H'.pers b m hm).2.1, fun a x L hx hL => (H'.pers b m hm).2.2 a x L (st hx) (ul hL)⟩ }
  · have hlt := (H.fam.lt a x hx).1
    rw [upto_lt hlt] at hn
    obtain ⟨L, g1, g2, g3⟩ := (H'.blk a x hn (st hx)).ex
    have hlow := lowT_get b4 hx
    refine ⟨L, by rw [upto_lt hlt]; exact g1, g2, ?_⟩
    cases x with
    | cells f fb fz xs =>
      obtain ⟨arr, el, fr, k1, k2, k3, k4, k5⟩ := g3
      exact ⟨arr, el, fr, k1, k2, k3, fun i y u h1 h2 => (k4 i y u h1 h2).upto _ (lows_mem hlow y (List.mem_of_getElem? h1)), k5⟩
    | iter l pos =>
      obtain ⟨k1, bs, k2, k3⟩ := g3
      exact ⟨k1, bs, ⟨k2.1, fun i x b h1 h2 => (k2.2 i x b h1 h2).upto _ (lows_mem hlow x (List.mem_of_getElem? h1))⟩, k3⟩
    | mapo es clock =>
      obtain ⟨arr, es0, k1, k2, k3, k4, k5, k6⟩ := g3
      refine ⟨arr, es0, k1, k2, k3, k4, k5, fun i p e h1 h2 => ?_⟩
      have hm : p ∈ es := k4.mem_iff.1 (List.mem_of_getElem? h1)
      have hl := List.all_eq_true.1 hlow p hm
      simp only [Bool.and_eq_true] at hl
      exact ⟨(k6 i p e h1 h2).1.upto _ hl.1, (k6 i p e h1 h2).2.upto _ hl.2⟩
  · have hlt := H.elt a e he
    rw [upto_lt hlt] at hn
    obtain ⟨L, arr, fr, k1, k2⟩ := H'.elk a e hn (se he)
    exact ⟨L, arr, fr, by rw [upto_lt hlt]; exact k1, k2⟩
end Go.Proofs.YtieiopaobipdoaaGreatDoor.HM
