/- fleuronref12.SameStyle of any two styles. -/
import Derived.Test.YtkpoeilfnopgbaaGreatDoorSYl
namespace Go.Proofs.YtkpoeilfnopgbaaGreatDoor.Sty
open Go Go.RowKit
noncomputable def eqB {α : Type} (a b : α) : Bool := @decide (a = b) (Classical.propDecidable _)
theorem eqB_t {α : Type} {a b : α} (h : a = b) : eqB a b = true := by unfold eqB; exact @decide_eq_true _ (Classical.propDecidable _) h
theorem eqB_f {α : Type} {a b : α} (h : ¬ a = b) : eqB a b = false := by unfold eqB; exact @decide_eq_false _ (Classical.propDecidable _) h
theorem bytes_ne {a b : ByteArray} (h : ¬ a = b) : (a.toList == b.toList) = false := by
  cases e : a.toList == b.toList with
  | false => rfl
  | true =>
    have := beq_iff_eq.1 e
    rw [ByteArray.toList_eq, ByteArray.toList_eq] at this
    exact absurd (ByteArray.ext (Array.toList_inj.1 this)) h
theorem take_eq {α : Type} {l m : List α} {k : Nat} {x : α} (hx : l[k]? = some x) (hy : m[k]? = some x) (h : l.take k = m.take k) : l.take (k + 1) = m.take (k + 1) := by
  obtain ⟨h1, h2⟩ := List.getElem?_eq_some_iff.1 hx
  obtain ⟨h3, h4⟩ := List.getElem?_eq_some_iff.1 hy
  rw [List.take_succ_eq_append_getElem h1, List.take_succ_eq_append_getElem h3, h2, h4, h]
theorem take_all {α : Type} {l m : List α} (hl : l.length = m.length) (h : l.take l.length = m.take l.length) : l = m := by
  rw [List.take_length] at h
  rw [h, hl, List.take_length]
theorem at_ne {α : Type} {l m : List α} {k : Nat} {x y : α} (hx : l[k]? = some x) (hy : m[k]? = some y) (h : ¬ x = y) : ¬ l = m := by
  rintro rfl
  rw [hx] at hy
  exact h (Option.some.inj hy)
set_option maxHeartbeats 4000000 in
set_option maxRecDepth 100000 in
theorem samepairs2 (l m : List Pr) (v u : Value) (w : World) (hl : l.length ≤ maxLen) (hm : m.length ≤ maxLen) (hv : RowAt l.length (pC l) v w) (hu : RowAt m.length (pC m) u w) :
    Calls Tryz.prog 27 #[v, u] w fun e w' => e = .returned (.bool (eqB l m)) ∧ Below w.heap.size w w' := by
  have _hm2 := hm
  unfold maxLen at hl hm
  have HV := Lib.hid hv
  have HU := Lib.hid hu
  obtain ⟨p, c, rfl, _⟩ := hv
  obtain ⟨q, d, rfl, _⟩ := hu
  by_cases hlen : l.length = m.length
  case neg =>
    have h1 : ((l.length : Int) == (m.length : Int)) = false := by simp; omega
    have h2 : ((l.length : Int) != (m.length : Int)) = true := by rw [bne, h1]; rfl
    have HE : Hid (eqB l m = false) := Lib.hid (eqB_f fun h => hlen (by rw [h]))
    clear hlen
    go_enter Tryz.func27, Tryz.ntmps27
    go_wp2
    go_ret
    exact ⟨by rw [HE.out]; rfl, Below.refl _ _⟩
  have HL := Lib.hid hlen
  have hu2 : Value.slice q m.length d = .slice q l.length d := by rw [hlen]
  rw [hu2]
  rw [← hlen] at hm
  clear hlen hu2
  go_enter Tryz.func27, Tryz.ntmps27
  go_wp2_with fail
  go_loopw [5] (fun x5 wr => ∃ k : Nat, k ≤ l.length ∧ x5 = .int .i64 (k : Int) ∧ Below w.heap.size w wr ∧ l.take k = m.take k) (fun x5 _ => l.length - (intOf x5).toNat)
  case atStart => exact ⟨0, Nat.zero_le _, rfl, Below.refl _ _, rfl⟩
  case round =>
    obtain ⟨k, hk, rfl, hb, ht⟩ := hrel
    by_cases hlt : k < l.length
    · obtain ⟨x, hx⟩ : ∃ x, l[k]? = some x := ⟨_, List.getElem?_eq_getElem hlt⟩
      obtain ⟨y, hy⟩ : ∃ y, m[k]? = some y := ⟨_, List.getElem?_eq_getElem (by rw [← HL.out]; exact hlt)⟩
      obtain ⟨a0, a1, a2, a3⟩ := pC_at l k x hx
      obtain ⟨b0, b1, b2, b3⟩ := pC_at m k y hy
      obtain ⟨g, o, c', hv, hc⟩ := row_cell HV.out hb (by omega)
      obtain ⟨g', o', d', hu, hd⟩ := row_cell HU.out hb (by have := HL.out; omega)
      simp only [Value.slice.injEq] at hv hu
      obtain ⟨rfl, _, rfl⟩ := hv
      obtain ⟨rfl, _, rfl⟩ := hu
      have c0 := hc (k * 4) 0 _ a0
      have c1 := hc (k * 4) 1 _ a1
      have c2 := hc (k * 4) 2 _ a2
      have c3 := hc (k * 4) 3 _ a3
      have d0 := hd (k * 4) 0 _ b0
      have d1 := hd (k * 4) 1 _ b1
      have d2 := hd (k * 4) 2 _ b2
      have d3 := hd (k * 4) 3 _ b3
      simp only [Nat.add_zero] at c0 d0
      have HB := Lib.hid hb
      clear a0 a1 a2 a3 b0 b1 b2 b3 hc hd hb
      by_cases hxy : x = y
      · subst hxy
        have HT := Lib.hid (take_eq hx hy ht)
        clear hx hy ht
        obtain ⟨x1, x2, x3, x4⟩ := x
        go_wp2_with fail
        go_region
        all_goals
          go_wp2_with fail
          go_roundw
          case rel => exact ⟨k + 1, by omega, by go_num, HB.out.drew, HT.out⟩
          case measure => simp [intOf]; omega
      · have HE := Lib.hid (eqB_f (at_ne hx hy hxy))
        clear hx hy ht
        obtain ⟨x1, x2, x3, x4⟩ := x
        obtain ⟨y1, y2, y3, y4⟩ := y
        by_cases z1 : x1 = y1
        case neg =>
          have e1 := bytes_ne z1
          clear z1 hxy
          go_wp2_with fail
          go_region
          all_goals
            go_wp2
            go_ret
            exact ⟨by rw [HE.out]; rfl, HB.out.drew⟩
        subst z1
        by_cases z2 : x2 = y2
        case neg =>
          have e1 : (x2 == y2) = false := by simpa using z2
          clear z2 hxy
          go_wp2_with fail
          go_region
          all_goals
            go_wp2
            go_ret
            exact ⟨by rw [HE.out]; rfl, HB.out.drew⟩
        subst z2
        by_cases z3 : x3 = y3
        case neg =>
          have e1 : (x3 == y3) = false := by simpa using z3
          clear z3 hxy
          go_wp2_with fail
          go_region
          all_goals
            go_wp2
            go_ret
            exact ⟨by rw [HE.out]; rfl, HB.out.drew⟩
        subst z3
        by_cases z4 : x4 = y4
        case neg =>
          have e1 : (x4 == y4) = false := by simpa using z4
          clear z4 hxy
          go_wp2_with fail
          go_region
          all_goals
            go_wp2
            go_ret
            exact ⟨by rw [HE.out]; rfl, HB.out.drew⟩
        subst z4
        exact absurd rfl hxy
    · obtain rfl : k = l.length := by omega
      have HE := Lib.hid (eqB_t (take_all HL.out ht))
      have HB := Lib.hid hb
      clear hb ht
      go_wp2
      go_ret
      exact ⟨by rw [HE.out]; rfl, HB.out⟩
abbrev SmG (f : FuncId) (b : Bool) (s t : S) (p q r a z : Option Addr) (pc qc rc ac zc : Nat) (p' q' r' a' z' : Option Addr) (pc' qc' rc' ac' zc' : Nat) (w : World) : Prop :=
  Mx s → Mx t → Parts s (.slice p s.con.length pc) (.slice q s.quo.length qc) (.slice r s.rst.length rc) (.slice a s.add.length ac) (.slice z s.set.length zc) w → Parts t (.slice p' t.con.length pc') (.slice q' t.quo.length qc') (.slice r' t.rst.length rc') (.slice a' t.add.length ac') (.slice z' t.set.length zc') w →
    Calls Tryz.prog f #[.agg #[.string s.disp, .string s.lt, .string s.col, .slice p s.con.length pc, .bool s.nor, .bool s.non, .slice q s.quo.length qc, .bool s.aut, .slice r s.rst.length rc, .slice a s.add.length ac, .slice z s.set.length zc], .agg #[.string t.disp, .string t.lt, .string t.col, .slice p' t.con.length pc', .bool t.nor, .bool t.non, .slice q' t.quo.length qc', .bool t.aut, .slice r' t.rst.length rc', .slice a' t.add.length ac', .slice z' t.set.length zc']] w fun e w' => e = .returned (.bool b) ∧ Below w.heap.size w w'
end Go.Proofs.YtkpoeilfnopgbaaGreatDoor.Sty
