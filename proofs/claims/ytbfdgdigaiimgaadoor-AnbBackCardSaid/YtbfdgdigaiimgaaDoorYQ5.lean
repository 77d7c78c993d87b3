/- strings.Trim, internal/strconv.small and numDigits at what nobody knows: contracts. -/
import Derived.Test.YtbfdgdigaiimgaaDoorYQ4
import Derived.Test.YtbfdgdigaiimgaaDoorYKJ
namespace Go.Proofs.YtbfdgdigaiimgaaDoor.HM
open Go Go.RowKit
variable [E : Amb]
def anyB (x : V) : List UInt8 → Option Bool
  | [] => some false
  | c :: r => match eqByte x c.toNat with
    | some true => some true
    | some false => anyB x r
    | none => none
theorem anyB_sound {ρ : Ren} {x : V} {b : UInt8} (h0 : VR ρ x (.int .u8 b.toNat)) : ∀ (cs : List UInt8) (t : Bool), anyB x cs = some t → cs.contains b = t
  | [], t, h => by simp only [anyB, Option.some.injEq] at h; subst h; rfl
  | c :: r, t, h => by
    unfold anyB at h
    split at h
    · rename_i he
      have := eqByte_sound h0 he
      simp only [Option.some.injEq] at h; subst h
      have e : b = c := UInt8.toNat_inj.1 (Nat.eq_of_beq_eq_true this)
      simp [e]
    · rename_i he
      have := eqByte_sound h0 he
      have e : b ≠ c := fun e => by subst e; simp at this
      have ih := anyB_sound h0 r t h
      rw [List.contains_cons, ih, beq_eq_false_iff_ne.2 e, Bool.false_or]
    · cases h
def allIn (lo : Nat) (cs : List UInt8) : Nat → Bool
  | 0 => true
  | n + 1 => cs.contains (UInt8.ofNat (lo + n)) && allIn lo cs n
omit [E : Amb] in
theorem allIn_sound (lo : Nat) (cs : List UInt8) : ∀ (n : Nat), allIn lo cs n = true → ∀ b : UInt8, lo ≤ b.toNat → b.toNat < lo + n → cs.contains b = true
  | 0, _, b, h1, h2 => by omega
  | n + 1, h, b, h1, h2 => by
    simp only [allIn, Bool.and_eq_true] at h
    by_cases e : b.toNat = lo + n
    · rw [← e, UInt8.ofNat_toNat] at h; exact h.1
    · exact allIn_sound lo cs n h.2 b h1 (by omega)
def anyC (x : V) (cs : List UInt8) : Option Bool := match x with
  | .lin .u8 c ts => match decide (0 ≤ loS c ts) && (decide (hiS c ts - loS c ts < 16) && (decide (loS c ts ≤ hiS c ts) && allIn (loS c ts).toNat cs ((hiS c ts - loS c ts).toNat + 1))) with
    | true => some true
    | false => anyB (.lin .u8 c ts) cs
  | x => anyB x cs
theorem anyC_sound {ρ : Ren} {x : V} {b : UInt8} (h0 : VR ρ x (.int .u8 b.toNat)) (cs : List UInt8) (t : Bool) (h : anyC x cs = some t) : cs.contains b = t := by
  unfold anyC at h
  split at h
  · rename_i c ts
    split at h
    · rename_i hc
      simp only [Option.some.injEq] at h; subst h
      simp only [Bool.and_eq_true, decide_eq_true_eq] at hc
      obtain ⟨c1, c2, c3, c4⟩ := hc
      cases h0 with
      | lin _ _ _ n hs hn =>
        have g1 := loS_le c hs
        exact allIn_sound _ cs _ c4 b (by omega) (by omega)
    · exact anyB_sound h0 cs t h
  · exact anyB_sound h0 cs t h
def stripA : List V → List UInt8 → Option (List V)
  | [], _ => some []
  | x :: r, cs => match anyC x cs with
    | some true => stripA r cs
    | some false => some (x :: r)
    | none => none
theorem stripA_sound {ρ : Ren} {cs : List UInt8} : ∀ (xs : List V) (bs : List UInt8) (ys : List V), BytesR ρ xs bs → stripA xs cs = some ys → BytesR ρ ys (bs.dropWhile (cs.contains ·))
  | [], bs, ys, hb, h => by
    have hl := hb.1
    cases bs with
    | nil => simp only [stripA, Option.some.injEq] at h; subst h; exact hb
    | cons => simp at hl
  | x :: r, bs, ys, hb, h => by
    have hl := hb.1
    cases bs with
    | nil => simp at hl
    | cons b bs =>
      have h0 := hb.2 0 x b rfl rfl
      have hr : BytesR ρ r bs := ⟨by simpa using hl, fun i y c hy hc => hb.2 (i + 1) y c (by simpa using hy) (by simpa using hc)⟩
      unfold stripA at h
      split at h
      · rename_i he
        rw [List.dropWhile_cons_of_pos (by show cs.contains b = true; exact anyC_sound h0 _ _ he)]
        exact stripA_sound r bs ys hr h
      · rename_i he
        simp only [Option.some.injEq] at h; subst h
        rw [List.dropWhile_cons_of_neg (by show ¬ cs.contains b = true; rw [anyC_sound h0 _ _ he]; decide)]
        exact hb
      · cases h
theorem BytesR.rev {ρ : Ren} {xs : List V} {bs : List UInt8} (h : BytesR ρ xs bs) : BytesR ρ xs.reverse bs.reverse := by
  refine ⟨by simp [h.1], fun i x b hx hb => ?_⟩
  have hi : i < xs.length := by have := (List.getElem?_eq_some_iff.1 hx).1; simpa using this
  have hj : i < bs.length := by rw [← h.1]; exact hi
  rw [List.getElem?_reverse hi] at hx
  rw [List.getElem?_reverse hj, ← h.1] at hb
  exact h.2 _ x b hx hb
def trimA (xs : List V) (cs : List UInt8) : Option (List V) := match stripA xs.reverse cs with
  | some ys => stripA ys.reverse cs
  | none => none
theorem trimA_sound {ρ : Ren} {cs : List UInt8} {xs : List V} {bs : List UInt8} {ys : List V} (hb : BytesR ρ xs bs) (h : trimA xs cs = some ys) : BytesR ρ ys (Lib.trimS bs cs) := by
  unfold trimA at h
  split at h
  · rename_i zs hz
    exact stripA_sound _ _ _ (stripA_sound _ _ _ hb.rev hz).rev h
  · cases h
def trimT : Spec := fun args h => match args with
  | [x, .str cs] => match asSS x with
    | some xs => match Nat.ble xs.length 100000 && (cs.all (fun c => Nat.blt c.toNat 128) && Nat.ble cs.length 100000) with
      | true => match trimA xs cs with
        | some ys => some (mkSS ys, h)
        | none => none
      | false => none
    | none => none
  | _ => none
omit [E : Amb] in
theorem trim_of (s cs : ByteArray) (w : World) (hs : s.size ≤ 9223372036854775807) (hcs : cs.size < 4294967281) (hac : ∀ (j : Nat) b, cs.data.toList[j]? = some b → b.toNat < 128) :
    Calls Tryd.prog 39 #[.string s, .string cs] w fun e w' => e = .returned (.string ⟨(Lib.trimS s.data.toList cs.data.toList).toArray⟩) ∧ Below w.heap.size w w' :=
  Go.Proofs.Any.strings_Trim_laid Tryd.lays160 (by kernel_rfl) s cs w hs hcs hac
theorem trimT_sound : Sound Tryd.prog gam 39 trimT := by
  intro args h r h' hs N0 w0 ρ w us H hv
  unfold trimT at hs
  split at hs
  · rename_i x cs
    split at hs
    · rename_i xs hx
      split at hs
      · rename_i hc
        split at hs
        · rename_i ys hi
          simp only [Option.some.injEq, Prod.mk.injEq] at hs; obtain ⟨rfl, rfl⟩ := hs
          simp only [Bool.and_eq_true, List.all_eq_true] at hc
          obtain ⟨hl, hcs, hcl⟩ := hc
          obtain ⟨u, us', k1, hu, k2⟩ := hv.cons_inv
          obtain ⟨u2, us2, k3, hu2, k4⟩ := k2.cons_inv
          have k5 := k4.nil_inv
          subst k5 k3
          obtain rfl : us = #[u, u2] := by cases us; simp_all
          obtain ⟨bs, rfl, hb⟩ := asSS_sound hu hx
          obtain rfl := hu2.str_inv
          have hl2 := Nat.le_of_ble_eq_true hl
          have hl3 := Nat.le_of_ble_eq_true hcl
          have hbl := hb.1
          refine (trim_of ⟨bs.toArray⟩ ⟨cs.toArray⟩ w (by show bs.toArray.size ≤ _; rw [List.size_toArray]; omega) (by show cs.toArray.size < _; rw [List.size_toArray]; omega) (fun j b hj => ?_)).mono ?_
          · have hj' : cs[j]? = some b := hj
            have := hcs b (List.mem_of_getElem? hj')
            exact Nat.le_of_ble_eq_true this
          rintro e w' ⟨rfl, hbw⟩
          exact ⟨ρ, _, rfl, .refl _, H.grow hbw, mkSS_VR (trimA_sound hb hi)⟩
        · cases hs
      · cases hs
    · cases hs
  · cases hs
def trimL : Spec := fun args h => match args with
  | [x, .str cs] => match asSS x with
    | some xs => match Nat.ble xs.length 100000 && (cs.all (fun c => Nat.blt c.toNat 128) && Nat.ble cs.length 100000) with
      | true => match stripA xs cs with
        | some ys => some (mkSS ys, h)
        | none => none
      | false => none
    | none => none
  | _ => none
omit [E : Amb] in
theorem trimL_of (s cs : ByteArray) (w : World) (hcs : cs.size < 4294967281) (hac : ∀ (j : Nat) b, cs.data.toList[j]? = some b → b.toNat < 128) :
    Calls Tryd.prog 70 #[.string s, .string cs] w fun e w' => e = .returned (.string ⟨(Lib.trimLeftS s.data.toList cs.data.toList).toArray⟩) ∧ Below w.heap.size w w' :=
  Go.Proofs.Any.strings_TrimLeft_laid Tryd.lays161 (by kernel_rfl) s cs w hcs hac
theorem trimL_sound : Sound Tryd.prog gam 70 trimL := by
  intro args h r h' hs N0 w0 ρ w us H hv
  unfold trimL at hs
  split at hs
  · rename_i x cs
    split at hs
    · rename_i xs hx
      split at hs
      · rename_i hc
        split at hs
        · rename_i ys hi
          simp only [Option.some.injEq, Prod.mk.injEq] at hs; obtain ⟨rfl, rfl⟩ := hs
          simp only [Bool.and_eq_true, List.all_eq_true] at hc
          obtain ⟨hl, hcs, hcl⟩ := hc
          obtain ⟨u, us', k1, hu, k2⟩ := hv.cons_inv
          obtain ⟨u2, us2, k3, hu2, k4⟩ := k2.cons_inv
          have k5 := k4.nil_inv
          subst k5 k3
          obtain rfl : us = #[u, u2] := by cases us; simp_all
          obtain ⟨bs, rfl, hb⟩ := asSS_sound hu hx
          obtain rfl := hu2.str_inv
          have hl2 := Nat.le_of_ble_eq_true hl
          have hl3 := Nat.le_of_ble_eq_true hcl
          have hbl := hb.1
          refine (trimL_of ⟨bs.toArray⟩ ⟨cs.toArray⟩ w (by show cs.toArray.size < _; rw [List.size_toArray]; omega) (fun j b hj => ?_)).mono ?_
          · have hj' : cs[j]? = some b := hj
            have := hcs b (List.mem_of_getElem? hj')
            exact Nat.le_of_ble_eq_true this
          rintro e w' ⟨rfl, hbw⟩
          exact ⟨ρ, _, rfl, .refl _, H.grow hbw, mkSS_VR (stripA_sound _ _ _ hb hi)⟩
        · cases hs
      · cases hs
    · cases hs
  · cases hs
def okD : Int → List LT → Bool
  | s, [t] => decide (t.m = s) && (decide (1 ≤ t.lo) && decide (t.hi ≤ 9))
  | s, t :: r => decide (t.m = s) && (decide (0 ≤ t.lo) && (decide (t.hi ≤ 9) && okD (10 * s) r))
  | _, [] => false
omit [E : Amb] in
theorem okD_mem : ∀ (ts : List LT) (s : Int), okD s ts = true → ∀ t ∈ ts, 0 ≤ t.lo ∧ t.hi ≤ 9
  | [], _, h => by cases h
  | [t], s, h => by
    simp only [okD, Bool.and_eq_true, decide_eq_true_eq] at h
    intro t' ht
    simp only [List.mem_singleton] at ht; subst ht
    omega
  | t :: u :: r, s, h => by
    simp only [okD, Bool.and_eq_true, decide_eq_true_eq] at h
    intro t' ht
    rcases List.mem_cons.1 ht with rfl | ht
    · omega
    · exact okD_mem (u :: r) _ h.2.2.2 t' ht
theorem okD_sum {ρ : Ren} : ∀ (ts : List LT) (s : Int), OkS ρ ts → okD s ts = true → ∃ v : Nat, 1 ≤ v ∧ sumR ρ ts = s * (v : Int) ∧ v < 10 ^ ts.length ∧ Lib.decDigits v = ts.reverse.map fun t => UInt8.ofNat (48 + (E.num t.a).toNat)
  | [], _, _, h => by cases h
  | [t], s, hs, h => by
    simp only [okD, Bool.and_eq_true, decide_eq_true_eq] at h
    obtain ⟨h1, h2, h3⟩ := h
    have ht : t.ok ρ := hs.head
    obtain ⟨g1, g2⟩ := ht
    refine ⟨(E.num t.a).toNat, by omega, ?_, by simp; omega, ?_⟩
    · show t.m * E.num t.a + 0 = _
      rw [h1, show (((E.num t.a).toNat : Nat) : Int) = E.num t.a by omega]; omega
    · rw [Lib.decDigits, dif_pos (by omega)]; rfl
  | t :: u :: r, s, hs, h => by
    simp only [okD, Bool.and_eq_true, decide_eq_true_eq] at h
    obtain ⟨h1, h2, h3, h4⟩ := h
    have ht : t.ok ρ := hs.head
    obtain ⟨g1, g2⟩ := ht
    obtain ⟨v, k1, k2, k3, k4⟩ := okD_sum (u :: r) (10 * s) hs.tail h4
    refine ⟨10 * v + (E.num t.a).toNat, by omega, ?_, ?_, ?_⟩
    · show t.m * E.num t.a + sumR ρ (u :: r) = _
      rw [k2, h1]
      have e : ((10 * v + (E.num t.a).toNat : Nat) : Int) = 10 * (v : Int) + E.num t.a := by omega
      rw [e, Int.mul_add, Int.mul_comm 10 s, Int.mul_assoc]; omega
    · have e : (t :: u :: r).length = (u :: r).length + 1 := rfl
      rw [e, Nat.pow_succ]; omega
    · rw [Lib.decDigits, dif_neg (by omega), show (10 * v + (E.num t.a).toNat) / 10 = v by omega, show (10 * v + (E.num t.a).toNat) % 10 = (E.num t.a).toNat by omega, k4, List.reverse_cons (a := t), List.map_append]
      rfl
def outD (ts : List LT) : List V := ts.reverse.map fun t => .lin .u8 48 [⟨1, t.a, t.lo, t.hi⟩]
theorem outD_R {ρ : Ren} {ts : List LT} {s : Int} (hok : OkS ρ ts) (hd : okD s ts = true) : BytesR ρ (outD ts) (ts.reverse.map fun t => UInt8.ofNat (48 + (E.num t.a).toNat)) := by
  refine ⟨by simp [outD], fun i x b hx hb => ?_⟩
  unfold outD at hx
  rw [List.getElem?_map] at hx hb
  cases ht : ts.reverse[i]? with
  | none => rw [ht] at hx; cases hx
  | some t =>
    rw [ht] at hx hb
    simp only [Option.map_some, Option.some.injEq] at hx hb
    subst hx hb
    have hm : t ∈ ts := List.mem_reverse.1 (List.mem_of_getElem? ht)
    have hb2 := okD_mem ts s hd t hm
    have hok2 : t.ok ρ := hok t hm
    refine lin1 hok2 ?_
    have g1 := hok2.1
    have g2 := hok2.2
    rw [show (UInt8.ofNat (48 + (E.num t.a).toNat)).toNat = 48 + (E.num t.a).toNat from by rw [UInt8.toNat_ofNat']; omega]
    omega
theorem pows_tab {W : World} (h : GlobOk gam W.heap.size W) : Lib.TabIs Tryd.prog W "internal/strconv.uint64pow10" .u64 Lib.pow10Tab := by
  obtain ⟨_, arr, el, fr, h1, h2, h3⟩ := h 2 (pows.map fun z => V.int .u64 z) (by kernel_rfl)
  have e : arr = (Lib.pow10Tab.map fun z => Value.int .u64 z).toArray := by
    rw [show Lib.pow10Tab = pows by kernel_rfl]
    apply Array.ext
    · rw [← h2]; simp
    · intro i hi hj
      have hi2 : i < pows.length := by simpa using hj
      have := h3 i (.int .u64 pows[i]) arr[i] (by simp [hi2]) (Array.getElem?_eq_getElem hi)
      rw [this.int_inv]
      simp
  subst e
  unfold Lib.TabIs World.var?
  rw [gNameP, Option.bind_some, h1]
omit [E : Amb] in
theorem below_grow (w : World) (k : Nat) (os : Array Obj) : Below w.heap.size w (Go.Sort.grow (w.drewN k) os) :=
  ⟨rfl, rfl, rfl, by show w.heap.size ≤ (w.heap ++ os).size; simp, fun i hi => by show (w.heap ++ os)[i]? = w.heap[i]?; rw [Array.getElem?_append_left hi]⟩
omit [E : Amb] in
theorem itoa_of (n : Int) (h0 : -9223372036854775808 ≤ n) (h1 : n ≤ 9223372036854775807) (w : World) (htab : Lib.TabIs Tryd.prog w "internal/strconv.uint64pow10" .u64 Lib.pow10Tab) :
    Calls Tryd.prog 16 #[.int .i64 n] w fun e w' => e = .returned (.string ⟨(Lib.itoa n).toArray⟩) ∧ Below w.heap.size w w' := by
  refine (Go.Proofs.Any.strconv_Itoa Tryd.laysM171 n h0 h1 w htab).mono ?_
  rintro e w' ⟨rfl, k, os, rfl⟩
  exact ⟨rfl, below_grow w k os⟩
noncomputable def itoa0 : Spec := runX Tryd.prog gam (inTr pur) (inTr clo) ext bod extraL0 ftab 1000 60 16
noncomputable def itoaS : Spec := fun args h => match args with
  | [.lin .i64 c ts] => match decide (c = 0) && Nat.ble ts.length 18 with
    | true => match okD 1 ts with
      | true => some (.sstr (outD ts), h)
      | false => match okD (Int.negSucc 0) ts with
        | true => some (.sstr (.int .u8 (Int.ofNat 45) :: outD ts), h)
        | false => none
    | false => none
  | _ => itoa0 args h
theorem itoaS_sound : Sound Tryd.prog gam 16 itoaS := by
  intro args h r h' hs N0 w0 ρ w us H hv
  unfold itoaS at hs
  split at hs
  · rename_i c ts
    split at hs
    · rename_i hc
      simp only [Bool.and_eq_true, decide_eq_true_eq] at hc
      obtain ⟨hc0, hl⟩ := hc
      obtain ⟨u, us', k1, hu, k2⟩ := hv.cons_inv
      have k3 := k2.nil_inv
      subst k3
      obtain rfl : us = #[u] := by cases us; simp_all
      cases hu with
      | lin _ _ _ n hok hn =>
      have hpw : 10 ^ ts.length ≤ 10 ^ 18 := Nat.pow_le_pow_right (by decide) (Nat.le_of_ble_eq_true hl)
      split at hs
      · rename_i hd
        simp only [Option.some.injEq, Prod.mk.injEq] at hs; obtain ⟨rfl, rfl⟩ := hs
        obtain ⟨v, v1, v2, v3, v4⟩ := okD_sum ts 1 hok hd
        have hn2 : n = (v : Int) := by omega
        subst hn2
        refine (itoa_of (v : Int) (by omega) (by omega) w (pows_tab H.globNow)).mono ?_
        rintro e w' ⟨rfl, hb⟩
        refine ⟨ρ, _, rfl, .refl _, H.grow hb, ?_⟩
        have e1 : Lib.itoa (v : Int) = ts.reverse.map fun t => UInt8.ofNat (48 + (E.num t.a).toNat) := by
          unfold Lib.itoa
          rw [if_neg (by omega), Int.toNat_natCast, v4]
        rw [e1]
        have k := outD_R hok hd
        exact .sstr _ _ k.1 k.2
      · split at hs
        · rename_i hd
          simp only [Option.some.injEq, Prod.mk.injEq] at hs; obtain ⟨rfl, rfl⟩ := hs
          obtain ⟨v, v1, v2, v3, v4⟩ := okD_sum ts (Int.negSucc 0) hok hd
          have hn2 : n = -(v : Int) := by omega
          subst hn2
          refine (itoa_of (-(v : Int)) (by omega) (by omega) w (pows_tab H.globNow)).mono ?_
          rintro e w' ⟨rfl, hb⟩
          refine ⟨ρ, _, rfl, .refl _, H.grow hb, ?_⟩
          have e1 : Lib.itoa (-(v : Int)) = [45] ++ ts.reverse.map fun t => UInt8.ofNat (48 + (E.num t.a).toNat) := by
            unfold Lib.itoa
            rw [if_pos (by omega), Int.natAbs_neg, Int.natAbs_natCast, v4]; rfl
          rw [e1]
          have k := (BytesR.ints (ρ := ρ) [45]).append (outD_R hok hd)
          exact .sstr _ _ k.1 k.2
        · cases hs
    · cases hs
  · exact runX_sound (prog_ok extraL0_ok) tab_ok _ _ _ _ _ _ hs N0 w0 ρ w us H hv
noncomputable def extraL : FuncId → Option Spec := fun g => Bool.rec (motive := fun _ => Option Spec) (Bool.rec (motive := fun _ => Option Spec) (Bool.rec (motive := fun _ => Option Spec) (extraL0 g) (some itoaS) (Nat.beq g 16)) (some trimT) (Nat.beq g 39)) (some trimL) (Nat.beq g 70)
theorem extraL_ok (f : FuncId) (s : Spec) (h : extraL f = some s) : CalleeOk Tryd.prog gam f s := by
  revert h
  show Bool.rec (motive := fun _ => Option Spec) (Bool.rec (motive := fun _ => Option Spec) (Bool.rec (motive := fun _ => Option Spec) (extraL0 f) (some itoaS) (Nat.beq f 16)) (some trimT) (Nat.beq f 39)) (some trimL) (Nat.beq f 70) = some s → _
  cases h_trimL : Nat.beq f 70 with
  | true =>
    intro h; obtain rfl := Option.some.inj h
    obtain rfl := Nat.eq_of_beq_eq_true h_trimL
    exact .inl ⟨by kernel_rfl, trimL_sound⟩
  | false =>
    cases h_trimT : Nat.beq f 39 with
    | true =>
      intro h; obtain rfl := Option.some.inj h
      obtain rfl := Nat.eq_of_beq_eq_true h_trimT
      exact .inl ⟨by kernel_rfl, trimT_sound⟩
    | false =>
      cases h_itoaS : Nat.beq f 16 with
      | true =>
        intro h; obtain rfl := Option.some.inj h
        obtain rfl := Nat.eq_of_beq_eq_true h_itoaS
        exact .inl ⟨by kernel_rfl, itoaS_sound⟩
      | false =>
        exact extraL0_ok f s
end Go.Proofs.YtbfdgdigaiimgaaDoor.HM
