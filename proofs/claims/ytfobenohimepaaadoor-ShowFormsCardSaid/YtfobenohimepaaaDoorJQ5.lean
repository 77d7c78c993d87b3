/- strings.Clone's inner function and strings.IndexAny, of texts of which each byte is told by itself: contracts. -/
import Derived.Test.YtfobenohimepaaaDoorJQ4
import Derived.Test.YtfobenohimepaaaDoorKJ
namespace Go.Proofs.YtfobenohimepaaaDoor.HM
open Go Go.RowKit
variable [E : Amb]
def cloneS : Spec := fun args h => match args with
  | [x] => match asSS x with
    | some xs => match Nat.ble xs.length 100000 with
      | true => some (x, h)
      | false => none
    | none => none
  | _ => none
theorem cloneS_sound : Sound Tryd.prog gam 96 cloneS := by
  intro args h r h' hs N0 w0 ρ w us H hv
  unfold cloneS at hs
  split at hs
  · rename_i x
    split at hs
    · rename_i xs hx
      split at hs
      · rename_i hl
        simp only [Option.some.injEq, Prod.mk.injEq] at hs; obtain ⟨rfl, rfl⟩ := hs
        obtain ⟨u, us', k1, hu, k2⟩ := hv.cons_inv
        have k3 := k2.nil_inv
        subst k3
        obtain rfl : us = #[u] := by cases us; simp_all
        obtain ⟨bs, rfl, hb⟩ := asSS_sound hu hx
        have hl2 := Nat.le_of_ble_eq_true hl
        refine (Tryd.stringslite_Clone _ w (by have := hb.1; show bs.toArray.size ≤ _; rw [List.size_toArray]; omega)).mono ?_
        rintro e w' ⟨rfl, hbw⟩
        exact ⟨ρ, _, rfl, .refl _, H.grow hbw, hu⟩
      · cases hs
    · cases hs
  · cases hs
def ascV : V → Bool
  | .int _ n => decide (0 ≤ n) && decide (n < 128)
  | .lin _ c ts => decide (0 ≤ loS c ts) && decide (hiS c ts < 128)
  | _ => false
theorem ascV_sound {ρ : Ren} {x : V} {b : UInt8} (h : VR ρ x (.int .u8 b.toNat)) (ha : ascV x = true) : b.toNat < 128 := by
  unfold ascV at ha
  split at ha
  · simp only [Bool.and_eq_true, decide_eq_true_eq] at ha
    have e := h.int_inv
    simp only [Value.int.injEq] at e
    omega
  · rename_i c ts
    simp only [Bool.and_eq_true, decide_eq_true_eq] at ha
    cases h with
    | lin _ _ _ n hs hn =>
      have := loS_le c hs
      omega
  · cases ha
def anyB (x : V) : List UInt8 → Option Bool
  | [] => some false
  | c :: r => match eqByte x c.toNat with
    | some true => some true
    | some false => anyB x r
    | none => none
theorem anyB_sound {ρ : Ren} {x : V} {b : UInt8} (h0 : VR ρ x (.int .u8 b.toNat)) : ∀ (cs : List UInt8) (t : Bool), anyB x cs = some t → cs.contains b = t
  | [], t, h => by simp only [anyB, Option.some.injEq] at h; subst h; rfl
  | c :: r, t, h => by
    unfold anyB at h
    split at h
    · rename_i he
      have := eqByte_sound h0 he
      simp only [Option.some.injEq] at h; subst h
      have e : b = c := UInt8.toNat_inj.1 (Nat.eq_of_beq_eq_true this)
      simp [e]
    · rename_i he
      have := eqByte_sound h0 he
      have e : b ≠ c := fun e => by subst e; simp at this
      have ih := anyB_sound h0 r t h
      rw [List.contains_cons, ih, beq_eq_false_iff_ne.2 e, Bool.false_or]
    · cases h
def idxA : List V → List UInt8 → Nat → Option V
  | [], _, _ => some (.int .i64 (Int.negSucc 0))
  | x :: r, cs, i => match anyB x cs with
    | some true => some (.int .i64 (Int.ofNat i))
    | some false => idxA r cs (i + 1)
    | none => none
theorem idxA_sound {ρ : Ren} {cs : List UInt8} {v : V} : ∀ (xs : List V) (bs : List UInt8) (i : Nat), BytesR ρ xs bs → idxA xs cs i = some v → v = .int .i64 (if Lib.indexAny bs cs = -1 then -1 else (i : Int) + Lib.indexAny bs cs)
  | [], bs, i, hb, h => by
    have hl := hb.1
    cases bs with
    | nil => simp only [idxA, Option.some.injEq] at h; rw [← h]; rfl
    | cons => simp at hl
  | x :: r, bs, i, hb, h => by
    have hl := hb.1
    cases bs with
    | nil => simp at hl
    | cons b bs =>
      have h0 := hb.2 0 x b rfl rfl
      have hr : BytesR ρ r bs := ⟨by simpa using hl, fun i y c hy hc => hb.2 (i + 1) y c (by simpa using hy) (by simpa using hc)⟩
      unfold idxA at h
      unfold Lib.indexAny
      split at h
      · rename_i he
        rw [if_pos (anyB_sound h0 _ _ he)]
        simp only [Option.some.injEq] at h; rw [← h]; simp
      · rename_i he
        have hc := anyB_sound h0 _ _ he
        rw [hc]
        have ih := idxA_sound r bs (i + 1) hr h
        rw [ih]
        have hge := Lib.indexAny_ge cs bs
        by_cases hm : Lib.indexAny bs cs = -1
        · simp [hm]
        · simp only [hm, if_false, Bool.false_eq_true, beq_iff_eq]
          rw [if_neg (by omega)]
          congr 1; omega
      · cases h
def anyS : Spec := fun args h => match args with
  | [x, .str cs] => match asSS x with
    | some xs => match Nat.ble xs.length 100000 && (xs.all ascV && (cs.all (fun c => Nat.blt c.toNat 128) && Nat.ble cs.length 100000)) with
      | true => match idxA xs cs 0 with
        | some v => some (v, h)
        | none => none
      | false => none
    | none => none
  | _ => none
omit [E : Amb] in
theorem index_of (s chars : ByteArray) (w : World) (hs : s.size < 4294967281) (hcs : chars.size < 4294967281) (has : ∀ (j : Nat) b, s.data.toList[j]? = some b → b.toNat < 128) (hac : ∀ (j : Nat) b, chars.data.toList[j]? = some b → b.toNat < 128) :
    Calls Tryd.prog 70 #[.string s, .string chars] w fun e w' => e = .returned (.int .i64 (Lib.indexAny s.data.toList chars.data.toList)) ∧ Below w.heap.size w w' :=
  Any.strings_IndexAny_laid Tryd.lays153 (by kernel_rfl) s chars w hs hcs has hac
theorem anyS_sound : Sound Tryd.prog gam 70 anyS := by
  intro args h r h' hs N0 w0 ρ w us H hv
  unfold anyS at hs
  split at hs
  · rename_i x cs
    split at hs
    · rename_i xs hx
      split at hs
      · rename_i hc
        split at hs
        · rename_i v hi
          simp only [Option.some.injEq, Prod.mk.injEq] at hs; obtain ⟨rfl, rfl⟩ := hs
          simp only [Bool.and_eq_true, List.all_eq_true] at hc
          obtain ⟨hl, ha, hcs, hcl⟩ := hc
          obtain ⟨u, us', k1, hu, k2⟩ := hv.cons_inv
          obtain ⟨u2, us2, k3, hu2, k4⟩ := k2.cons_inv
          have k5 := k4.nil_inv
          subst k5 k3
          obtain rfl : us = #[u, u2] := by cases us; simp_all
          obtain ⟨bs, rfl, hb⟩ := asSS_sound hu hx
          obtain rfl := hu2.str_inv
          have hl2 := Nat.le_of_ble_eq_true hl
          have hl3 := Nat.le_of_ble_eq_true hcl
          have hbl := hb.1
          have hres := idxA_sound xs bs 0 hb hi
          refine (index_of ⟨bs.toArray⟩ ⟨cs.toArray⟩ w (by show bs.toArray.size < _; rw [List.size_toArray]; omega) (by show cs.toArray.size < _; rw [List.size_toArray]; omega) (fun j b hj => ?_) (fun j b hj => ?_)).mono ?_
          · have hj' : bs[j]? = some b := hj
            have hlt : j < xs.length := by rw [hbl]; exact (List.getElem?_eq_some_iff.1 hj').1
            exact ascV_sound (hb.2 j xs[j] b (List.getElem?_eq_getElem hlt) hj') (ha _ (List.getElem_mem hlt))
          · have hj' : cs[j]? = some b := hj
            have := hcs b (List.mem_of_getElem? hj')
            exact Nat.le_of_ble_eq_true this
          rintro e w' ⟨rfl, hbw⟩
          refine ⟨ρ, _, rfl, .refl _, H.grow hbw, ?_⟩
          rw [hres]
          have e1 : (if Lib.indexAny bs cs = -1 then (-1 : Int) else ((0 : Nat) : Int) + Lib.indexAny bs cs) = Lib.indexAny bs cs := by
            split
            · rename_i h1; exact h1.symm
            · simp
          rw [e1]
          exact .int _ _
        · cases hs
      · cases hs
    · cases hs
  · cases hs
def okD : Int → List LT → Bool
  | s, [t] => decide (t.m = s) && (decide (1 ≤ t.lo) && decide (t.hi ≤ 9))
  | s, t :: r => decide (t.m = s) && (decide (0 ≤ t.lo) && (decide (t.hi ≤ 9) && okD (10 * s) r))
  | _, [] => false
omit [E : Amb] in
theorem okD_mem : ∀ (ts : List LT) (s : Int), okD s ts = true → ∀ t ∈ ts, 0 ≤ t.lo ∧ t.hi ≤ 9
  | [], _, h => by cases h
  | [t], s, h => by
    simp only [okD, Bool.and_eq_true, decide_eq_true_eq] at h
    intro t' ht
    simp only [List.mem_singleton] at ht; subst ht
    omega
  | t :: u :: r, s, h => by
    simp only [okD, Bool.and_eq_true, decide_eq_true_eq] at h
    intro t' ht
    rcases List.mem_cons.1 ht with rfl | ht
    · omega
    · exact okD_mem (u :: r) _ h.2.2.2 t' ht
theorem okD_sum {ρ : Ren} : ∀ (ts : List LT) (s : Int), OkS ρ ts → okD s ts = true → ∃ v : Nat, 1 ≤ v ∧ sumR ρ ts = s * (v : Int) ∧ v < 10 ^ ts.length ∧ Lib.decDigits v = ts.reverse.map fun t => UInt8.ofNat (48 + (E.num t.a).toNat)
  | [], _, _, h => by cases h
  | [t], s, hs, h => by
    simp only [okD, Bool.and_eq_true, decide_eq_true_eq] at h
    obtain ⟨h1, h2, h3⟩ := h
    have ht : t.ok ρ := hs.head
    obtain ⟨g1, g2⟩ := ht
    refine ⟨(E.num t.a).toNat, by omega, ?_, by simp; omega, ?_⟩
    · show t.m * E.num t.a + 0 = _
      rw [h1, show (((E.num t.a).toNat : Nat) : Int) = E.num t.a by omega]; omega
    · rw [Lib.decDigits, dif_pos (by omega)]; rfl
  | t :: u :: r, s, hs, h => by
    simp only [okD, Bool.and_eq_true, decide_eq_true_eq] at h
    obtain ⟨h1, h2, h3, h4⟩ := h
    have ht : t.ok ρ := hs.head
    obtain ⟨g1, g2⟩ := ht
    obtain ⟨v, k1, k2, k3, k4⟩ := okD_sum (u :: r) (10 * s) hs.tail h4
    refine ⟨10 * v + (E.num t.a).toNat, by omega, ?_, ?_, ?_⟩
    · show t.m * E.num t.a + sumR ρ (u :: r) = _
      rw [k2, h1]
      have e : ((10 * v + (E.num t.a).toNat : Nat) : Int) = 10 * (v : Int) + E.num t.a := by omega
      rw [e, Int.mul_add, Int.mul_comm 10 s, Int.mul_assoc]; omega
    · have e : (t :: u :: r).length = (u :: r).length + 1 := rfl
      rw [e, Nat.pow_succ]; omega
    · rw [Lib.decDigits, dif_neg (by omega), show (10 * v + (E.num t.a).toNat) / 10 = v by omega, show (10 * v + (E.num t.a).toNat) % 10 = (E.num t.a).toNat by omega, k4, List.reverse_cons (a := t), List.map_append]
      rfl
def outD (ts : List LT) : List V := ts.reverse.map fun t => .lin .u8 48 [⟨1, t.a, t.lo, t.hi⟩]
noncomputable def small0 : Spec := runX Tryd.prog gam (inTr pur) (inTr clo) ext bod extraL0 ftab 1000 60 60
noncomputable def smallS : Spec := fun args h => match args with
  | [.lin .i64 c ts] => match decide (c = 0) && (okD 1 ts && Nat.ble ts.length 2) with
    | true => some (.sstr (outD ts), h)
    | false => none
  | _ => small0 args h
theorem smallS_sound : Sound Tryd.prog gam 60 smallS := by
  intro args h r h' hs N0 w0 ρ w us H hv
  unfold smallS at hs
  split at hs
  · rename_i c ts
    split at hs
    · rename_i hc
      simp only [Option.some.injEq, Prod.mk.injEq] at hs; obtain ⟨rfl, rfl⟩ := hs
      simp only [Bool.and_eq_true, decide_eq_true_eq] at hc
      obtain ⟨hc0, hd, hl⟩ := hc
      obtain ⟨u, us', k1, hu, k2⟩ := hv.cons_inv
      have k3 := k2.nil_inv
      subst k3
      obtain rfl : us = #[u] := by cases us; simp_all
      cases hu with
      | lin _ _ _ n hok hn =>
        obtain ⟨v, v1, v2, v3, v4⟩ := okD_sum ts 1 hok hd
        have hn2 : n = (v : Int) := by omega
        subst hn2
        have hlen : v < 100 := Nat.lt_of_lt_of_le v3 (Nat.pow_le_pow_right (by decide) (Nat.le_of_ble_eq_true hl))
        refine (Tryd.internal_strconv_small v hlen w).mono ?_
        rintro e w' ⟨rfl, rfl⟩
        refine ⟨ρ, _, rfl, .refl _, H, ?_⟩
        rw [v4]
        refine .sstr _ _ (by simp [outD]) fun i x b hx hb => ?_
        unfold outD at hx
        rw [List.getElem?_map] at hx hb
        cases ht : ts.reverse[i]? with
        | none => rw [ht] at hx; cases hx
        | some t =>
          rw [ht] at hx hb
          simp only [Option.map_some, Option.some.injEq] at hx hb
          subst hx hb
          have hm : t ∈ ts := List.mem_reverse.1 (List.mem_of_getElem? ht)
          have hb2 := okD_mem ts 1 hd t hm
          have hok2 : t.ok ρ := hok t hm
          refine lin1 hok2 ?_
          have g1 := hok2.1
          have g2 := hok2.2
          rw [show (UInt8.ofNat (48 + (E.num t.a).toNat)).toNat = 48 + (E.num t.a).toNat from by rw [UInt8.toNat_ofNat']; omega]
          omega
    · cases hs
  · exact runX_sound (prog_ok extraL0_ok) tab_ok _ _ _ _ _ _ hs N0 w0 ρ w us H hv
omit [E : Amb] in
theorem nDigits_eq : ∀ (u : Nat), Lib.nDigits u = (Lib.decDigits u).length := by
  intro u
  induction u using Nat.strongRecOn with
  | _ u ih =>
    rw [Lib.nDigits, Lib.decDigits]
    split
    · rfl
    · rw [ih (u / 10) (by omega)]; simp
theorem pows_tab {W : World} (h : GlobOk gam W.heap.size W) : Lib.TabIs Tryd.prog W "internal/strconv.uint64pow10" .u64 Lib.pow10Tab := by
  obtain ⟨_, arr, el, fr, h1, h2, h3⟩ := h 3 (pows.map fun z => V.int .u64 z) (by kernel_rfl)
  have e : arr = (Lib.pow10Tab.map fun z => Value.int .u64 z).toArray := by
    rw [show Lib.pow10Tab = pows by kernel_rfl]
    apply Array.ext
    · rw [← h2]; simp
    · intro i hi hj
      have hi2 : i < pows.length := by simpa using hj
      have := h3 i (.int .u64 pows[i]) arr[i] (by simp [hi2]) (Array.getElem?_eq_getElem hi)
      rw [this.int_inv]
      simp
  subst e
  unfold Lib.TabIs World.var?
  rw [gNameP, Option.bind_some, h1]
noncomputable def digs0 : Spec := runX Tryd.prog gam (inTr pur) (inTr clo) ext bod extraL0 ftab 1000 60 61
noncomputable def digsS : Spec := fun args h => match args with
  | [.lin .u64 c ts] => match decide (c = 0) && (okD 1 ts && Nat.ble ts.length 18) with
    | true => some (.int .i64 (Int.ofNat ts.length), h)
    | false => none
  | _ => digs0 args h
theorem digsS_sound : Sound Tryd.prog gam 61 digsS := by
  intro args h r h' hs N0 w0 ρ w us H hv
  unfold digsS at hs
  split at hs
  · rename_i c ts
    split at hs
    · rename_i hc
      simp only [Option.some.injEq, Prod.mk.injEq] at hs; obtain ⟨rfl, rfl⟩ := hs
      simp only [Bool.and_eq_true, decide_eq_true_eq] at hc
      obtain ⟨hc0, hd, hl⟩ := hc
      obtain ⟨u, us', k1, hu, k2⟩ := hv.cons_inv
      have k3 := k2.nil_inv
      subst k3
      obtain rfl : us = #[u] := by cases us; simp_all
      cases hu with
      | lin _ _ _ n hok hn =>
        obtain ⟨v, v1, v2, v3, v4⟩ := okD_sum ts 1 hok hd
        have hn2 : n = (v : Int) := by omega
        subst hn2
        have hlen : v < 18446744073709551616 := Nat.lt_of_lt_of_le v3 (Nat.le_trans (Nat.pow_le_pow_right (by decide) (Nat.le_of_ble_eq_true hl)) (by decide))
        refine (Tryd.internal_strconv_numDigits v v1 hlen w (pows_tab H.globNow)).mono ?_
        rintro e w' ⟨rfl, rfl⟩
        refine ⟨ρ, _, rfl, .refl _, H, ?_⟩
        rw [nDigits_eq, v4, List.length_map, List.length_reverse]
        exact .int _ _
    · cases hs
  · exact runX_sound (prog_ok extraL0_ok) tab_ok _ _ _ _ _ _ hs N0 w0 ρ w us H hv
noncomputable def extraL : FuncId → Option Spec := fun g => Bool.rec (motive := fun _ => Option Spec) (Bool.rec (motive := fun _ => Option Spec) (Bool.rec (motive := fun _ => Option Spec) (Bool.rec (motive := fun _ => Option Spec) (extraL0 g) (some digsS) (Nat.beq g 61)) (some smallS) (Nat.beq g 60)) (some anyS) (Nat.beq g 70)) (some cloneS) (Nat.beq g 96)
theorem extraL_ok (f : FuncId) (s : Spec) (h : extraL f = some s) : CalleeOk Tryd.prog gam f s := by
  revert h
  show Bool.rec (motive := fun _ => Option Spec) (Bool.rec (motive := fun _ => Option Spec) (Bool.rec (motive := fun _ => Option Spec) (Bool.rec (motive := fun _ => Option Spec) (extraL0 f) (some digsS) (Nat.beq f 61)) (some smallS) (Nat.beq f 60)) (some anyS) (Nat.beq f 70)) (some cloneS) (Nat.beq f 96) = some s → _
  cases h1 : Nat.beq f 96 with
  | true =>
    intro h; obtain rfl := Option.some.inj h
    obtain rfl := Nat.eq_of_beq_eq_true h1
    exact .inl ⟨by kernel_rfl, cloneS_sound⟩
  | false =>
    cases h0 : Nat.beq f 70 with
    | true =>
      intro h; obtain rfl := Option.some.inj h
      obtain rfl := Nat.eq_of_beq_eq_true h0
      exact .inl ⟨by kernel_rfl, anyS_sound⟩
    | false =>
      cases h2 : Nat.beq f 60 with
      | true =>
        intro h; obtain rfl := Option.some.inj h
        obtain rfl := Nat.eq_of_beq_eq_true h2
        exact .inl ⟨by kernel_rfl, smallS_sound⟩
      | false =>
        cases h3 : Nat.beq f 61 with
        | true =>
          intro h; obtain rfl := Option.some.inj h
          obtain rfl := Nat.eq_of_beq_eq_true h3
          exact .inl ⟨by kernel_rfl, digsS_sound⟩
        | false => exact extraL0_ok f s
end Go.Proofs.YtfobenohimepaaaDoor.HM
