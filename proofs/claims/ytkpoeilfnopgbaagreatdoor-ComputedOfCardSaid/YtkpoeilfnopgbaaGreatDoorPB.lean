/- The heap machine: whole numbers that nobody knows, told by places' numbers; strings of such bytes. -/
import Derived.Test.YtkpoeilfnopgbaaGreatDoorPA
namespace Go.Proofs.YtkpoeilfnopgbaaGreatDoor.HM
open Go Go.RowKit
variable [E : Amb]
section
variable {ρ : Ren}
def inK (k : IntKind) (lo hi : Int) : Bool := decide (k.min ≤ lo) && decide (hi ≤ k.max)
omit [E : Amb] in
theorem inK_wrap (k : IntKind) {n lo hi : Int} (h : inK k lo hi = true) (h1 : lo ≤ n) (h2 : n ≤ hi) : k.wrap n = n := by
 unfold inK at h
 simp only [Bool.and_eq_true, decide_eq_true_eq] at h
 obtain ⟨h3, h4⟩ := h
 have a := Int.le_trans h3 h1
 have b := Int.le_trans h2 h4
 cases k <;> simp [IntKind.min, IntKind.max, IntKind.wrap, IntKind.bits, IntKind.signed] at a b ⊢ <;> first | omega | (split <;> omega)
def turnsK (k : IntKind) (lo : Int) : Int := (lo - k.min) / (2 ^ k.bits)
omit [E : Amb] in
theorem inK_wrap2 (k : IntKind) (q : Int) {n lo hi : Int} (h : inK k (lo - q * 2 ^ k.bits) (hi - q * 2 ^ k.bits) = true) (h1 : lo ≤ n) (h2 : n ≤ hi) : k.wrap n = n - q * 2 ^ k.bits := by
 unfold inK at h
 simp only [Bool.and_eq_true, decide_eq_true_eq] at h
 obtain ⟨h3, h4⟩ := h
 have a : k.min ≤ n - q * 2 ^ k.bits := by omega
 have b : n - q * 2 ^ k.bits ≤ k.max := by omega
 cases k <;> simp [IntKind.min, IntKind.max, IntKind.wrap, IntKind.bits, IntKind.signed] at a b ⊢ <;> first | omega | (split <;> omega)
def fit (k : IntKind) (c : Int) (ts : List LT) : Option V := if inK k (loS c ts) (hiS c ts) then some (mkLin k c ts) else
 if inK k (loS c ts - turnsK k (loS c ts) * 2 ^ k.bits) (hiS c ts - turnsK k (loS c ts) * 2 ^ k.bits) then some (mkLin k (c - turnsK k (loS c ts) * 2 ^ k.bits) ts) else none
theorem fit_sound {k : IntKind} {c : Int} {ts : List LT} {x : V} (hs : OkS ρ ts) (h : fit k c ts = some x) : VR ρ x (.int k (k.wrap (c + sumR ρ ts))) := by
 unfold fit at h
 split at h
 ·rename_i hk
  simp only [Option.some.injEq] at h; subst h
  have hb := loS_le c hs
  exact mkLin_VR hs (inK_wrap k hk hb.1 hb.2)
 ·split at h
  ·rename_i hk
   simp only [Option.some.injEq] at h; subst h
   have hb := loS_le c hs
   exact mkLin_VR hs (by rw [inK_wrap2 k _ hk hb.1 hb.2]; omega)
  ·cases h
def splitT (d : Int) : List LT → List LT × List LT
 | [] => ([], [])
 | t :: r => if t.m % d = 0 then (⟨t.m / d, t.a, t.lo, t.hi⟩ :: (splitT d r).1, (splitT d r).2) else ((splitT d r).1, t :: (splitT d r).2)
theorem splitT_ok (d : Int) : ∀ {ts : List LT}, OkS ρ ts → OkS ρ (splitT d ts).1 ∧ OkS ρ (splitT d ts).2
 | [], _ => ⟨.nil, .nil⟩
 | t :: r, h => by
  have ih := splitT_ok d h.tail
  unfold splitT; split
  ·exact ⟨.cons (h.head.scale _) ih.1, ih.2⟩
  ·exact ⟨ih.1, .cons h.head ih.2⟩
theorem splitT_sum (d : Int) : ∀ (ts : List LT), sumR ρ ts = d * sumR ρ (splitT d ts).1 + sumR ρ (splitT d ts).2
 | [] => by simp [splitT, sumR]
 | t :: r => by
  have ih := splitT_sum d r
  unfold splitT; split
  ·rename_i hm
   rw [sumR, ih]
   have e : t.m = d * (t.m / d) := (Int.mul_ediv_cancel' (Int.dvd_of_emod_eq_zero hm)).symm
   have e2 : t.m * valR ρ t.a = d * (t.m / d * valR ρ t.a) := by rw [← Int.mul_assoc, ← e]
   show t.m * valR ρ t.a + (d * sumR ρ (splitT d r).1 + sumR ρ (splitT d r).2) = d * (t.m / d * valR ρ t.a + sumR ρ (splitT d r).1) + sumR ρ (splitT d r).2
   rw [e2, Int.mul_add]; omega
  ·show t.m * valR ρ t.a + sumR ρ r = d * sumR ρ (splitT d r).1 + (t.m * valR ρ t.a + sumR ρ (splitT d r).2)
   rw [ih]; omega
def cmpS (op : BinOp) (lo hi : Int) : Option Bool := match op with
 | .lss => if hi < 0 then some true else if 0 ≤ lo then some false else none
 | .leq => if hi ≤ 0 then some true else if 0 < lo then some false else none
 | .gtr => if 0 < lo then some true else if hi ≤ 0 then some false else none
 | .geq => if 0 ≤ lo then some true else if hi < 0 then some false else none
 | .eql => if lo = 0 ∧ hi = 0 then some true else if hi < 0 ∨ 0 < lo then some false else none
 | .neq => if lo = 0 ∧ hi = 0 then some false else if hi < 0 ∨ 0 < lo then some true else none
 | _ => none
def lbin (op : BinOp) (a b : V) : Option V := match asLin a, asLin b with
  | some (k, c, ts), some (k', d, us) => if k = k' then match op with
      | .add => fit k (c + d) (addS 1 us ts)
      | .sub => fit k (c - d) (addS (-1) us ts)
      | .mul => match us, ts with
        | [], ts => fit k (c * d) (addS d ts [])
        | us, [] => fit k (c * d) (addS c us [])
        | _, _ => none
      | .quo => match us with
        | [] => if 0 < d ∧ 0 ≤ loS c ts ∧ 0 ≤ loS (c % d) (splitT d ts).2 ∧ hiS (c % d) (splitT d ts).2 < d then fit k (c / d) (splitT d ts).1 else none
        | _ :: _ => none
      | .rem => match us with
        | [] => if d = 1 then some (.int k 0) else if 0 < d ∧ 0 ≤ loS c ts ∧ 0 ≤ loS (c % d) (splitT d ts).2 ∧ hiS (c % d) (splitT d ts).2 < d then some (mkLin k (c % d) (splitT d ts).2) else none
        | _ :: _ => none
      | op => (cmpS op (diffS c d ts us).1 (diffS c d ts us).2).map .bool
    else none
  | _, _ => none
omit [E : Amb] in
theorem cmpS_sound {op : BinOp} {k : IntKind} {lo hi n m : Int} {t : Bool} (h : cmpS op lo hi = some t) (h1 : lo ≤ n - m) (h2 : n - m ≤ hi) : ibin op k n m = some (.bool t) ∧ op ≠ .shl ∧ op ≠ .shr := by
 cases op <;> simp only [cmpS, reduceCtorEq] at h
 all_goals
  refine ⟨?_, by simp, by simp⟩
  split at h
  ·simp only [Option.some.injEq] at h; subst h
   simp only [ibin, Option.some.injEq, V.bool.injEq, decide_eq_true_eq, Bool.not_eq_false']
   omega
  ·split at h
   ·simp only [Option.some.injEq] at h; subst h
    simp only [ibin, Option.some.injEq, V.bool.injEq, Bool.not_eq_true', decide_eq_false_iff_not]
    omega
   ·cases h
theorem split_div {c d n : Int} {ts : List LT} (hs : OkS ρ ts) (hn : n = c + sumR ρ ts) (hd : 0 < d) (h0 : 0 ≤ loS c ts) (h1 : 0 ≤ loS (c % d) (splitT d ts).2) (h2 : hiS (c % d) (splitT d ts).2 < d) :
  n.tdiv d = c / d + sumR ρ (splitT d ts).1 ∧ n.tmod d = c % d + sumR ρ (splitT d ts).2 := by
 have hb := loS_le c hs
 have hr := loS_le (c % d) (splitT_ok d hs).2
 have hsum := splitT_sum (ρ := ρ) d ts
 have hc := Int.mul_ediv_add_emod c d
 have hn0 : 0 ≤ n := by omega
 have e : n = (c % d + sumR ρ (splitT d ts).2) + d * (c / d + sumR ρ (splitT d ts).1) := by rw [Int.mul_add]; omega
 constructor
 ·rw [Int.tdiv_eq_ediv_of_nonneg hn0, e, Int.add_mul_ediv_left _ _ (by omega), Int.ediv_eq_zero_of_lt (by omega) (by omega), Int.zero_add]
 ·rw [Int.tmod_eq_emod_of_nonneg hn0, e, Int.add_mul_emod_self_left, Int.emod_eq_of_lt (by omega) (by omega)]
theorem lbin_sound {op : BinOp} {a b x : V} {u v : Value} (ha : VR ρ a u) (hb : VR ρ b v) (h : lbin op a b = some x) :
  ∃ k n m y, u = .int k n ∧ v = .int k m ∧ ibin op k n m = some y ∧ (∀ z, VR ρ y z → VR ρ x z) ∧ op ≠ .shl ∧ op ≠ .shr := by
 unfold lbin at h
 split at h
 ·rename_i k c ts k' d us e1 e2
  obtain ⟨n, rfl, s1, hn⟩ := asLin_sound ha e1
  obtain ⟨m, rfl, s2, hm⟩ := asLin_sound hb e2
  split at h
  ·rename_i hk; subst hk
   have fin : ∀ z0 : Int, VR ρ x (.int k (k.wrap z0)) → ∀ z, VR ρ (.int k (k.wrap z0)) z → VR ρ x z := fun z0 hx z hz => by rw [hz.int_inv]; exact hx
   split at h
   ·have h1 := fit_sound (addS_ok 1 s2 s1) h
    rw [addS_sum] at h1
    refine ⟨k, n, m, _, rfl, rfl, rfl, fin _ ?_, by simp, by simp⟩
    have : n + m = c + d + (1 * sumR ρ us + sumR ρ ts) := by omega
    rw [this]; exact h1
   ·have h1 := fit_sound (addS_ok (-1) s2 s1) h
    rw [addS_sum] at h1
    refine ⟨k, n, m, _, rfl, rfl, rfl, fin _ ?_, by simp, by simp⟩
    have : n - m = c - d + (-1 * sumR ρ us + sumR ρ ts) := by omega
    rw [this]; exact h1
   ·split at h
    ·have h1 := fit_sound (addS_ok d s1 .nil) h
     rw [addS_sum] at h1
     refine ⟨k, n, m, _, rfl, rfl, rfl, fin _ ?_, by simp, by simp⟩
     have : n * m = c * d + (d * sumR ρ ts + sumR ρ []) := by
      have e : m = d := by simpa [sumR] using hm
      rw [hn, e, Int.add_mul, Int.mul_comm d (sumR ρ ts)]; simp [sumR]
     rw [this]; exact h1
    ·have h1 := fit_sound (addS_ok c s2 .nil) h
     rw [addS_sum] at h1
     refine ⟨k, n, m, _, rfl, rfl, rfl, fin _ ?_, by simp, by simp⟩
     have : n * m = c * d + (c * sumR ρ us + sumR ρ []) := by
      have e : n = c := by simpa [sumR] using hn
      rw [hm, e, Int.mul_add]; simp [sumR]
     rw [this]; exact h1
    ·cases h
   ·split at h
    ·split at h
     ·rename_i hc
      obtain ⟨c1, c2, c3, c4⟩ := hc
      have e : m = d := by simpa [sumR] using hm
      subst e
      have h1 := fit_sound (splitT_ok m s1).1 h
      have h2 := (split_div s1 hn c1 c2 c3 c4).1
      refine ⟨k, n, m, .int k (k.wrap (n.tdiv m)), rfl, rfl, ?_, fin _ ?_, by simp, by simp⟩
      ·simp only [ibin]; rw [if_neg (by omega)]
      ·rw [h2]; exact h1
     ·cases h
    ·cases h
   ·split at h
    ·split at h
     ·rename_i hd
      subst hd
      have e : m = 1 := by simpa [sumR] using hm
      subst e
      simp only [Option.some.injEq] at h; subst h
      refine ⟨k, n, 1, .int k 0, rfl, rfl, ?_, fun z hz => hz, by simp, by simp⟩
      simp only [ibin]; rw [if_neg (by decide), Int.tmod_one]
     ·split at h
      ·rename_i hc
       obtain ⟨c1, c2, c3, c4⟩ := hc
       have e : m = d := by simpa [sumR] using hm
       subst e
       simp only [Option.some.injEq] at h; subst h
       have h2 := (split_div s1 hn c1 c2 c3 c4).2
       refine ⟨k, n, m, .int k (n.tmod m), rfl, rfl, ?_, fun z hz => ?_, by simp, by simp⟩
       ·simp only [ibin]; rw [if_neg (by omega)]
       ·rw [hz.int_inv]; exact mkLin_VR (splitT_ok m s1).2 h2
      ·cases h
    ·cases h
   ·obtain ⟨t, ht, rfl⟩ := Option.map_eq_some_iff.1 h
    obtain ⟨d1, d2⟩ := diffS_sound s1 s2 hn hm
    obtain ⟨i1, i2, i3⟩ := cmpS_sound (k := k) ht d1 d2
    exact ⟨k, n, m, _, rfl, rfl, i1, fun z hz => hz, i2, i3⟩
  ·cases h
 ·cases h
theorem lbin_run {P : Program} {w : World} {op : BinOp} {T : TypeId} {a b x : V} {u v : Value} (ox oy : Operand) (ha : VR ρ a u) (hb : VR ρ b v) (h : lbin op a b = some x) :
  ∃ y, (do eqGuard op T ox oy u v; binOp op T u v : Sem Value).run P w = .ok y w ∧ VR ρ x y := by
 obtain ⟨k, n, m, y, rfl, rfl, h1, h2, h3, h4⟩ := lbin_sound ha hb h
 have hg : (eqGuard op T ox oy (.int k n) (.int k m) : Sem Unit).run P w = .ok () w := by
  unfold eqGuard; split <;> rfl
 obtain ⟨z, hz, hd⟩ := ibin_sound h1 P w T h3 h4
 exact ⟨z, by rw [Sem.run_bind, hg, Result.andThen_ok]; exact hz, h2 z (hd ρ)⟩
def asSS : V → Option (List V)
 | .str l => some (l.map fun c => .int .u8 c.toNat)
 | .sstr l => some l
 | _ => none
def BytesR (ρ : Ren) (xs : List V) (bs : List UInt8) : Prop := xs.length = bs.length ∧ ∀ (i : Nat) x b, xs[i]? = some x → bs[i]? = some b → VR ρ x (.int .u8 b.toNat)
theorem asSS_sound {a : V} {u : Value} {xs : List V} (h : VR ρ a u) (ha : asSS a = some xs) : ∃ bs : List UInt8, u = .string ⟨bs.toArray⟩ ∧ BytesR ρ xs bs := by
 unfold asSS at ha
 split at ha
 ·rename_i l
  simp only [Option.some.injEq] at ha; subst ha
  refine ⟨l, h.str_inv, by simp, fun i x b hx hb => ?_⟩
  rw [List.getElem?_map, hb] at hx
  simp only [Option.map_some, Option.some.injEq] at hx; subst hx
  exact .int _ _
 ·simp only [Option.some.injEq] at ha; subst ha
  cases h with
  | sstr _ bs hn hr => exact ⟨bs, rfl, hn, hr⟩
 ·cases ha
def allU8 : List V → Option (List UInt8)
 | [] => some []
 | .int _ n :: r => if 0 ≤ n ∧ n < 256 then (allU8 r).map (UInt8.ofNat n.toNat :: ·) else none
 | _ :: _ => none
theorem allU8_sound : ∀ {xs : List V} {bs l : List UInt8}, BytesR ρ xs bs → allU8 xs = some l → l = bs
 | [], bs, l, h, ha => by
  simp only [allU8, Option.some.injEq] at ha; subst ha
  have := h.1
  cases bs with
  | nil => rfl
  | cons => simp at this
 | x :: r, bs, l, h, ha => by
  cases bs with
  | nil => have := h.1; simp at this
  | cons b bs =>
   have h0 := h.2 0 x b rfl rfl
   have hr : BytesR ρ r bs := ⟨by have := h.1; simpa using this, fun i y c hy hc => h.2 (i + 1) y c (by simpa using hy) (by simpa using hc)⟩
   cases x <;> simp only [allU8, reduceCtorEq] at ha
   split at ha
   ·rename_i k n hn
    obtain ⟨l', hl, rfl⟩ := Option.map_eq_some_iff.1 ha
    have e := h0.int_inv
    simp only [Value.int.injEq] at e
    rw [allU8_sound hr hl]
    congr 1
    rw [← e.2]
    exact UInt8.toNat_inj.1 (by simp)
   ·cases ha
def mkSS (xs : List V) : V := match allU8 xs with
 | some l => .str l
 | none => .sstr xs
theorem mkSS_VR {xs : List V} {bs : List UInt8} (h : BytesR ρ xs bs) : VR ρ (mkSS xs) (.string ⟨bs.toArray⟩) := by
 unfold mkSS
 split
 ·rename_i l hl
  rw [allU8_sound h hl]; exact .str _
 ·exact .sstr xs bs h.1 h.2
theorem BytesR.ext {ρ' : Ren} (he : Ext ρ ρ') {xs : List V} {bs : List UInt8} (h : BytesR ρ xs bs) : BytesR ρ' xs bs := ⟨h.1, fun i x b hx hb => (h.2 i x b hx hb).ext he⟩
theorem BytesR.ints (l : List UInt8) : BytesR ρ (l.map fun c : UInt8 => V.int .u8 c.toNat) l := by
 refine ⟨by simp, fun i x b hx hb => ?_⟩
 simp only [List.getElem?_map, hb, Option.map_some, Option.some.injEq] at hx
 subst hx; exact .int _ _
def byteV : V → Bool
 | .int .u8 n => decide (0 ≤ n) && decide (n < 256)
 | .lin .u8 c ts => decide (0 ≤ loS c ts) && decide (hiS c ts < 256)
 | _ => false
theorem byteV_inv {x : V} {u : Value} (h : VR ρ x u) (hb : byteV x = true) : ∃ b : UInt8, u = .int .u8 b.toNat := by
 have key : ∀ n : Int, 0 ≤ n → n < 256 → ∃ b : UInt8, Value.int .u8 n = .int .u8 b.toNat := fun n h0 h1 => ⟨UInt8.ofNat n.toNat, by
  congr 1; rw [UInt8.toNat_ofNat']; omega⟩
 unfold byteV at hb
 split at hb
 ·simp only [Bool.and_eq_true, decide_eq_true_eq] at hb
  rw [h.int_inv]; exact key _ hb.1 hb.2
 ·rename_i c ts
  simp only [Bool.and_eq_true, decide_eq_true_eq] at hb
  cases h with
  | lin _ _ _ n hs hn =>
   have := loS_le c hs
   exact key n (by omega) (by omega)
 ·cases hb
theorem bytesV_inv : ∀ {xs : List V} {us : List Value}, VRs ρ xs us → xs.all byteV = true → ∃ bs : List UInt8, us = bs.map (fun b => Value.int .u8 b.toNat) ∧ BytesR ρ xs bs
 | [], us, h, _ => by
  have := h.1
  cases us with
  | nil => exact ⟨[], rfl, rfl, fun i x b hx => by simp at hx⟩
  | cons => simp at this
 | x :: r, us, h, hb => by
  cases us with
  | nil => have := h.1; simp at this
  | cons u us =>
   simp only [List.all_cons, Bool.and_eq_true] at hb
   obtain ⟨b, rfl⟩ := byteV_inv (h.2 0 x u rfl rfl) hb.1
   obtain ⟨bs, rfl, k⟩ := bytesV_inv (xs := r) (us := us) ⟨by have := h.1; simpa using this, fun i y c hy hc => h.2 (i + 1) y c (by simpa using hy) (by simpa using hc)⟩ hb.2
   refine ⟨b :: bs, rfl, by simp [k.1], fun i y c hy hc => ?_⟩
   cases i with
   | zero => simp at hy hc; subst hy hc; exact h.2 0 _ _ rfl rfl
   | succ i => exact k.2 i y c (by simpa using hy) (by simpa using hc)
theorem BytesR.append {xs ys : List V} {bs cs : List UInt8} (h : BytesR ρ xs bs) (k : BytesR ρ ys cs) : BytesR ρ (xs ++ ys) (bs ++ cs) := by
 refine ⟨by simp [h.1, k.1], fun i x u hx hu => ?_⟩
 by_cases hi : i < xs.length
 ·rw [List.getElem?_append_left hi] at hx
  rw [List.getElem?_append_left (by rw [← h.1]; exact hi)] at hu
  exact h.2 i x u hx hu
 ·rw [List.getElem?_append_right (by omega)] at hx
  rw [List.getElem?_append_right (by rw [← h.1]; omega), ← h.1] at hu
  exact k.2 _ x u hx hu
theorem BytesR.cut {xs : List V} {bs : List UInt8} (h : BytesR ρ xs bs) (m n : Nat) : BytesR ρ ((xs.take m).drop n) ((bs.take m).drop n) := by
 refine ⟨by simp [h.1], fun i x u hx hu => ?_⟩
 rw [List.getElem?_drop, List.getElem?_take] at hx hu
 split at hx
 ·rw [if_pos (by assumption)] at hu; exact h.2 _ x u hx hu
 ·cases hx
def eqS : List V → List V → Option Bool
 | [], [] => some true
 | [], _ :: _ => some false
 | _ :: _, [] => some false
 | x :: r, y :: s => match lbin .eql x y with
  | some (.bool true) => eqS r s
  | some (.bool false) => some false
  | _ => match eqS r s with
   | some false => some false
   | _ => none
theorem eqS_sound : ∀ {xs ys : List V} {bs cs : List UInt8} {t : Bool}, BytesR ρ xs bs → BytesR ρ ys cs → eqS xs ys = some t → decide (bs = cs) = t
 | [], [], bs, cs, t, h, k, e => by
  have h1 := h.1; have k1 := k.1
  cases bs <;> cases cs <;> simp_all [eqS]
 | [], _ :: _, bs, cs, t, h, k, e => by
  have h1 := h.1; have k1 := k.1
  cases bs <;> cases cs <;> simp_all [eqS]
 | _ :: _, [], bs, cs, t, h, k, e => by
  have h1 := h.1; have k1 := k.1
  cases bs <;> cases cs <;> simp_all [eqS]
 | x :: r, y :: s, bs, cs, t, h, k, e => by
  cases bs with
  | nil => have := h.1; simp at this
  | cons b bs =>
   cases cs with
   | nil => have := k.1; simp at this
   | cons c cs =>
    have hr : BytesR ρ r bs := ⟨by have := h.1; simpa using this, fun i y c hy hc => h.2 (i + 1) y c (by simpa using hy) (by simpa using hc)⟩
    have kr : BytesR ρ s cs := ⟨by have := k.1; simpa using this, fun i y c hy hc => k.2 (i + 1) y c (by simpa using hy) (by simpa using hc)⟩
    have hx := h.2 0 x b rfl rfl
    have hy := k.2 0 y c rfl rfl
    have key : ∀ t, lbin .eql x y = some (.bool t) → decide (b = c) = t := fun t ht => by
     obtain ⟨k, n, m, z, e1, e2, e3, e4, _, _⟩ := lbin_sound hx hy ht
     simp only [Value.int.injEq] at e1 e2
     obtain ⟨rfl, e1⟩ := e1
     obtain ⟨_, e2⟩ := e2
     simp only [ibin, Option.some.injEq] at e3; subst e3
     have := (e4 _ (.bool _)).bool_inv
     simp only [Value.bool.injEq] at this
     rw [← this]
     have hh : (b = c) ↔ (n = m) := by
      rw [← e1, ← e2]
      constructor
      ·intro hbc; rw [hbc]
      ·intro hbc; exact UInt8.toNat_inj.1 (by omega)
     simp [hh]
    rw [eqS] at e
    split at e
    ·rename_i ht
     have := of_decide_eq_true (key _ ht)
     subst this
     have := eqS_sound hr kr e
     simpa using this
    ·rename_i ht
     have := of_decide_eq_false (key _ ht)
     simp only [Option.some.injEq] at e; subst e
     simp [this]
    ·split at e
     ·rename_i hf
      simp only [Option.some.injEq] at e; subst e
      have := of_decide_eq_false (eqS_sound hr kr hf)
      simp [this]
     ·cases e
def lsbin0 (op : BinOp) (a b : V) : Option V := match asSS a, asSS b with
 | some xs, some ys => match op with
  | .add => if xs.length + ys.length ≤ 1000000 then some (mkSS (xs ++ ys)) else none
  | .eql => (eqS xs ys).map .bool
  | .neq => (eqS xs ys).map fun t => .bool (!t)
  | _ => none
 | _, _ => none
theorem lsbin0_run {P : Program} {w : World} {op : BinOp} {T : TypeId} {a b x : V} {u v : Value} (ox oy : Operand) (ha : VR ρ a u) (hb : VR ρ b v) (h : lsbin0 op a b = some x) :
  ∃ y, (do eqGuard op T ox oy u v; binOp op T u v : Sem Value).run P w = .ok y w ∧ VR ρ x y := by
 unfold lsbin0 at h
 split at h
 ·rename_i xs ys e1 e2
  obtain ⟨bs, rfl, r1⟩ := asSS_sound ha e1
  obtain ⟨cs, rfl, r2⟩ := asSS_sound hb e2
  have hg : (eqGuard op T ox oy (.string ⟨bs.toArray⟩) (.string ⟨cs.toArray⟩) : Sem Unit).run P w = .ok () w := by
   unfold eqGuard; split <;> rfl
  have fin : ∀ y0, sbin op bs cs = some y0 → (∀ z, VR ρ y0 z → VR ρ x z) → ∃ y, (do eqGuard op T ox oy (.string ⟨bs.toArray⟩) (.string ⟨cs.toArray⟩); binOp op T (.string ⟨bs.toArray⟩) (.string ⟨cs.toArray⟩) : Sem Value).run P w = .ok y w ∧ VR ρ x y := fun y0 h0 h1 => by
   obtain ⟨z, hz, hd⟩ := sbin_sound h0 P w T
   exact ⟨z, by rw [Sem.run_bind, hg, Result.andThen_ok]; exact hz, h1 z (hd ρ)⟩
  split at h
  ·split at h
   ·rename_i hl
    simp only [Option.some.injEq] at h; subst h
    refine fin (.str (bs ++ cs)) ?_ fun z hz => ?_
    ·simp only [sbin]; rw [if_pos (by rw [← r1.1, ← r2.1]; omega)]
    ·rw [hz.str_inv]; exact mkSS_VR (r1.append r2)
   ·cases h
  ·obtain ⟨t, ht, rfl⟩ := Option.map_eq_some_iff.1 h
   refine fin (.bool (decide (bs = cs))) rfl fun z hz => ?_
   rw [hz.bool_inv, eqS_sound r1 r2 ht]; exact .bool _
  ·obtain ⟨t, ht, rfl⟩ := Option.map_eq_some_iff.1 h
   refine fin (.bool (!decide (bs = cs))) rfl fun z hz => ?_
   rw [hz.bool_inv, eqS_sound r1 r2 ht]; exact .bool _
  ·cases h
 ·cases h
def lobin (op : BinOp) (a b : V) : Option V := match op, a, b with
 | .add, .mod 0 i, .str [] => some (.mod 0 i)
 | .add, .str [], .mod 0 i => some (.mod 0 i)
 | .eql, .mod 0 i, .mod 0 j => if i = j then some (.bool true) else none
 | .neq, .mod 0 i, .mod 0 j => if i = j then some (.bool false) else none
 | _, _, _ => none
theorem opq_inv {i : Nat} {u : Value} (h : VR ρ (.mod 0 i) u) : u = .string (E.str i) := by
 cases h with
 | mod _ _ _ hm _ => exact absurd rfl hm
 | opq _ => rfl
theorem lobin_run {P : Program} {w : World} {op : BinOp} {T : TypeId} {a b x : V} {u v : Value} (ox oy : Operand) (ha : VR ρ a u) (hb : VR ρ b v) (h : lobin op a b = some x) :
  ∃ y, (do eqGuard op T ox oy u v; binOp op T u v : Sem Value).run P w = .ok y w ∧ VR ρ x y := by
 have hs : ∀ i, (E.str i) = ⟨(E.str i).data.toList.toArray⟩ := fun i => by simp
 have hl : ∀ i, (E.str i).data.toList.length ≤ 4096 := fun i => by
  have h1 := E.lim i
  have h2 : (E.str i).data.toList.length = (E.str i).size := by simp
  omega
 have fin : ∀ (bs cs : List UInt8) y0, sbin op bs cs = some y0 → (∀ z, VR ρ y0 z → VR ρ x z) → ∃ y, (do eqGuard op T ox oy (.string ⟨bs.toArray⟩) (.string ⟨cs.toArray⟩); binOp op T (.string ⟨bs.toArray⟩) (.string ⟨cs.toArray⟩) : Sem Value).run P w = .ok y w ∧ VR ρ x y := fun bs cs y0 h0 h1 => by
  obtain ⟨z, hz, hd⟩ := sbin_sound h0 P w T
  have hg : (eqGuard op T ox oy (.string ⟨bs.toArray⟩) (.string ⟨cs.toArray⟩) : Sem Unit).run P w = .ok () w := by
   unfold eqGuard; split <;> rfl
  exact ⟨z, by rw [Sem.run_bind, hg, Result.andThen_ok]; exact hz, h1 z (hd ρ)⟩
 unfold lobin at h
 split at h
 ·rename_i i
  simp only [Option.some.injEq] at h; subst h
  rw [opq_inv ha, hb.str_inv, hs i]
  refine fin _ _ (.str ((E.str i).data.toList ++ [])) ?_ fun z hz => ?_
  ·simp only [sbin]; rw [if_pos (by have := hl i; simp only [List.length_nil]; omega)]
  ·rw [hz.str_inv, List.append_nil, ← hs i]; exact .opq i
 ·rename_i i
  simp only [Option.some.injEq] at h; subst h
  rw [opq_inv hb, ha.str_inv, hs i]
  refine fin _ _ (.str ([] ++ (E.str i).data.toList)) ?_ fun z hz => ?_
  ·simp only [sbin]; rw [if_pos (by have := hl i; simp only [List.length_nil]; omega)]
  ·rw [hz.str_inv, List.nil_append, ← hs i]; exact .opq i
 ·rename_i i j
  split at h
  ·rename_i e; subst e
   simp only [Option.some.injEq] at h; subst h
   rw [opq_inv ha, opq_inv hb, hs i]
   refine fin _ _ (.bool (decide ((E.str i).data.toList = (E.str i).data.toList))) rfl fun z hz => ?_
   rw [hz.bool_inv, decide_eq_true rfl]; exact .bool _
  ·cases h
 ·rename_i i j
  split at h
  ·rename_i e; subst e
   simp only [Option.some.injEq] at h; subst h
   rw [opq_inv ha, opq_inv hb, hs i]
   refine fin _ _ (.bool (!decide ((E.str i).data.toList = (E.str i).data.toList))) rfl fun z hz => ?_
   rw [hz.bool_inv, decide_eq_true rfl]; exact .bool _
  ·cases h
 ·cases h
def lsbin (op : BinOp) (a b : V) : Option V := match lsbin0 op a b with
 | some x => some x
 | none => lobin op a b
theorem lsbin_run {P : Program} {w : World} {op : BinOp} {T : TypeId} {a b x : V} {u v : Value} (ox oy : Operand) (ha : VR ρ a u) (hb : VR ρ b v) (h : lsbin op a b = some x) :
  ∃ y, (do eqGuard op T ox oy u v; binOp op T u v : Sem Value).run P w = .ok y w ∧ VR ρ x y := by
 unfold lsbin at h
 split at h
 ·rename_i y hy
  simp only [Option.some.injEq] at h; subst h
  exact lsbin0_run ox oy ha hb hy
 ·exact lobin_run ox oy ha hb h
def lneg : V → Option V
 | .lin k c ts => fit k (0 - c) (addS (-1) ts [])
 | _ => none
theorem lneg_sound {P : Program} {w : World} {a x : V} {u : Value} (ha : VR ρ a u) (h : lneg a = some x) : ∃ y, (Op.unary .neg u).run P w = .ok y w ∧ VR ρ x y := by
 unfold lneg at h
 split at h
 ·rename_i k c ts
  cases ha with
  | lin _ _ _ n hs hn =>
   have h1 := fit_sound (addS_ok (-1) hs .nil) h
   rw [addS_sum] at h1
   refine ⟨.int k (k.wrap (0 - n)), rfl, ?_⟩
   have : 0 - n = 0 - c + (-1 * sumR ρ ts + sumR ρ []) := by simp only [sumR]; omega
   rw [this]; exact h1
 ·cases h
def allR (lo hi : Int) (p : Int → Bool) : Bool := (List.range (hi - lo + 1).toNat).all fun j => p (lo + (j : Int))
omit [E : Amb] in
theorem allR_at {lo hi x : Int} {p : Int → Bool} (h : allR lo hi p = true) (h1 : lo ≤ x) (h2 : x ≤ hi) : p x = true := by
 unfold allR at h
 have := List.all_eq_true.1 h (x - lo).toNat (List.mem_range.2 (by omega))
 rwa [show lo + ((x - lo).toNat : Int) = x by omega] at this
def chkB (l : List UInt8) (i v : Int) : Bool := decide (0 ≤ i) && (match l[i.toNat]? with
 | some b => decide ((b.toNat : Int) = v)
 | none => false)
omit [E : Amb] in
theorem chkB_at {l : List UInt8} {i v : Int} (h : chkB l i v = true) : 0 ≤ i ∧ ∃ b, l[i.toNat]? = some b ∧ (b.toNat : Int) = v := by
 unfold chkB at h
 simp only [Bool.and_eq_true, decide_eq_true_eq] at h
 refine ⟨h.1, ?_⟩
 have h2 := h.2
 split at h2
 ·rename_i b hb
  exact ⟨b, hb, by simpa using h2⟩
 ·cases h2
def byteAt (l : List UInt8) (i : Int) : Int := match l[i.toNat]? with
 | some b => (b.toNat : Int)
 | none => 0
def pickS (l : List UInt8) (c : Int) : List LT → Option V
 | [t] => match allR t.lo t.hi fun x => chkB l (c + t.m * x) (byteAt l (c + t.m * t.lo) - t.lo + x) with
  | true => some (.lin .u8 (byteAt l (c + t.m * t.lo) - t.lo) [⟨1, t.a, t.lo, t.hi⟩])
  | false => none
 | [t, s] => match allR t.lo t.hi fun x => allR s.lo s.hi fun y => chkB l (c + t.m * x + s.m * y) (byteAt l (c + t.m * t.lo + s.m * s.lo) - t.lo + x) with
  | true => some (.lin .u8 (byteAt l (c + t.m * t.lo + s.m * s.lo) - t.lo) [⟨1, t.a, t.lo, t.hi⟩])
  | false => match allR t.lo t.hi fun x => allR s.lo s.hi fun y => chkB l (c + t.m * x + s.m * y) (byteAt l (c + t.m * t.lo + s.m * s.lo) - s.lo + y) with
   | true => some (.lin .u8 (byteAt l (c + t.m * t.lo + s.m * s.lo) - s.lo) [⟨1, s.a, s.lo, s.hi⟩])
   | false => none
 | _ => none
theorem lin1 {k : IntKind} {c : Int} {t : LT} (h : t.ok ρ) {n : Int} (hn : n = c + E.num t.a) : VR ρ (.lin k c [⟨1, t.a, t.lo, t.hi⟩]) (.int k n) := by
 refine .lin k c _ n (fun t' ht => ?_) ?_
 ·simp only [List.mem_singleton] at ht; subst ht; exact h
 ·simp only [sumR, valR]; omega
theorem pickS_sound {l : List UInt8} {c n : Int} {ts : List LT} {x : V} (hs : OkS ρ ts) (hn : n = c + sumR ρ ts) (h : pickS l c ts = some x) : 0 ≤ n ∧ ∃ b : UInt8, l[n.toNat]? = some b ∧ VR ρ x (.int .u8 b.toNat) := by
 unfold pickS at h
 split at h
 ·rename_i t
  split at h
  ·rename_i hc
   simp only [Option.some.injEq] at h; subst h
   have ht : t.ok ρ := hs.head
   have q1 := allR_at hc ht.1 ht.2
   obtain ⟨h0, b, hb, he⟩ := chkB_at q1
   have hn2 : n = c + t.m * E.num t.a := by simp only [sumR, valR] at hn; omega
   rw [← hn2] at h0 hb
   exact ⟨h0, b, hb, lin1 ht he⟩
  ·cases h
 ·rename_i t s
  have ht : t.ok ρ := hs.head
  have hs2 : s.ok ρ := hs.tail.head
  have hn2 : n = c + t.m * E.num t.a + s.m * E.num s.a := by simp only [sumR, valR] at hn; omega
  split at h
  ·rename_i hc
   simp only [Option.some.injEq] at h; subst h
   have q1 := allR_at hc ht.1 ht.2
   have q2 := allR_at q1 hs2.1 hs2.2
   obtain ⟨h0, b, hb, he⟩ := chkB_at q2
   rw [← hn2] at h0 hb
   exact ⟨h0, b, hb, lin1 ht he⟩
  ·split at h
   ·rename_i hc
    simp only [Option.some.injEq] at h; subst h
    have q1 := allR_at hc ht.1 ht.2
    have q2 := allR_at q1 hs2.1 hs2.2
    obtain ⟨h0, b, hb, he⟩ := chkB_at q2
    rw [← hn2] at h0 hb
    exact ⟨h0, b, hb, lin1 hs2 he⟩
   ·cases h
 ·cases h
def lidx0 (a i : V) : Option V := match a, i with
 | .sstr l, .int _ n => if 0 ≤ n then l[n.toNat]? else none
 | .str l, .lin _ c ts => pickS l c ts
 | _, _ => none
def lidx (P : Program) (T : TypeId) (a i : V) : Option V := match P.underlying T with
 | some .string => lidx0 a i
 | _ => none
theorem lidx_sound {P : Program} {w : World} {T : TypeId} {a i x : V} {u v : Value} (ha : VR ρ a u) (hi : VR ρ i v) (h : lidx P T a i = some x) :
  ∃ y, (Instr.index T u v).run P w = .ok y w ∧ VR ρ x y := by
 have run : ∀ (bs : List UInt8) (k : IntKind) (n : Int) (b : UInt8), P.underlying T = some .string → 0 ≤ n → bs[n.toNat]? = some b → (Instr.index T (.string ⟨bs.toArray⟩) (.int k n)).run P w = .ok (.int .u8 b.toNat) w := by
  intro bs k n b hT h0 hb
  obtain ⟨hlt, hb2⟩ := List.getElem?_eq_some_iff.1 hb
  have hsz : n.toNat < (ByteArray.mk bs.toArray).size := by show n.toNat < bs.toArray.size; rw [List.size_toArray]; exact hlt
  have e : (ByteArray.mk bs.toArray)[n.toNat]? = some b := by
   rw [getElem?_pos (ByteArray.mk bs.toArray) n.toNat hsz]
   exact congrArg some hb2
  simp [Instr.index, asIntOf, run_underlying hT, h0, e]
 unfold lidx at h
 split at h
 ·rename_i hT
  unfold lidx0 at h
  split at h
  case h_3 => cases h
  case h_2 =>
   rename_i l k c ts
   obtain rfl := ha.str_inv
   cases hi with
   | lin _ _ _ n hs hn =>
    obtain ⟨h0, b, hb, hx⟩ := pickS_sound hs hn h
    exact ⟨_, run l k n b hT h0 hb, hx⟩
  rename_i l k n
  cases hi.int_inv
  cases ha with
  | sstr _ bs hn hr =>
   split at h
   ·rename_i h0
    obtain ⟨hlt, _⟩ := List.getElem?_eq_some_iff.1 h
    have hb : bs[n.toNat]? = some (bs[n.toNat]'(by rw [← hn]; exact hlt)) := List.getElem?_eq_getElem _
    exact ⟨_, run bs k n _ hT h0 hb, hr _ _ _ h hb⟩
   ·cases h
 ·cases h
def llen (P : Program) (argTypes : Array TypeId) (a : V) : Option V := match argTypes[0]? with
 | some T => match P.underlying T, a with
  | some .string, .sstr l => some (.int .i64 l.length)
  | some .string, .mod 0 i => some (.lin .i64 0 [⟨1, i + 5000, 0, ((i % 4096 : Nat) : Int)⟩])
  | _, _ => none
 | none => none
theorem llen_sound {P : Program} {w : World} {argTypes : Array TypeId} {a x : V} {u : Value} {T : TypeId} (ha : VR ρ a u) (h : llen P argTypes a = some x) :
  ∃ y, (Builtin.len_ argTypes T #[u]).run P w = .ok y w ∧ VR ρ x y := by
 unfold llen at h
 split at h
 ·rename_i T' hT
  split at h
  ·rename_i l hu
   simp only [Option.some.injEq] at h; subst h
   cases ha with
   | sstr _ bs hn hr =>
    refine ⟨_, ?_, (.int _ _)⟩
    rw [hn]
    simp [Builtin.len_, hT, run_underlying hu, goInt]
    rfl
  ·rename_i i hu
   simp only [Option.some.injEq] at h; subst h
   cases ha with
   | mod _ _ _ hm _ => exact absurd rfl hm
   | opq _ =>
    have hl := E.lim i
    have he := E.len i
    refine ⟨.int .i64 ((E.str i).size : Int), ?_, .lin _ _ _ _ (fun t ht => ?_) ?_⟩
    ·simp [Builtin.len_, hT, run_underlying hu, goInt]
    ·simp only [List.mem_singleton] at ht; subst ht
     exact ⟨by show (0 : Int) ≤ E.num (i + 5000); omega, by show E.num (i + 5000) ≤ ((i % 4096 : Nat) : Int); omega⟩
    ·simp only [sumR, valR]; omega
  ·cases h
 ·cases h
def lsli (P : Program) (T : TypeId) (a : V) (lo hi : Option V) : Option V := match P.underlying T, a with
 | some .string, .sstr l => match vbound l.length hi l.length with
  | some h => match vbound h lo 0 with
   | some a => some (mkSS ((l.take h).drop a))
   | none => none
  | none => none
 | _, _ => none
theorem lsli_sound {P : Program} {w : World} {T : TypeId} {a x : V} {lo hi : Option V} {u : Value} {vlo vhi : Option Value} (ha : VR ρ a u)
    (hlo : OptVR ρ lo vlo) (hhi : OptVR ρ hi vhi) (h : lsli P T a lo hi = some x) : ∃ y, (Instr.sliceAt T u vlo vhi none).run P w = .ok y w ∧ VR ρ x y := by
  unfold lsli at h
  split at h
  · rename_i l hT
    cases ha with
    | sstr _ bs hn hr =>
      split at h
      · rename_i hb h1
        split at h
        · rename_i ab h2
          simp only [Option.some.injEq] at h; subst h
          rw [hn] at h1
          have hsz : (ByteArray.mk bs.toArray).size = bs.length := by show bs.toArray.size = _; simp
          obtain ⟨hs, hle, hle2⟩ := sliceBounds_sound (P := P) (isS := false) (cap := bs.length) (Nat.le_refl _) hlo hhi h1 h2 (w := w)
          refine ⟨.string ((ByteArray.mk bs.toArray).extract ab hb), ?_, ?_⟩
          · simp [Instr.sliceAt, run_underlying hT, Instr.slice, hsz, hs]
          · have e : (ByteArray.mk bs.toArray).extract ab hb = ⟨((bs.take hb).drop ab).toArray⟩ := by
              apply ByteArray.ext
              simp [ByteArray.data_extract, List.extract_eq_take_drop, List.drop_take]
            rw [e]; exact mkSS_VR (BytesR.cut ⟨hn, hr⟩ _ _)
        · cases h
      · cases h
  · cases h
def lconv (P : Program) (src dst : TypeId) (a : V) : Option V := match P.underlying src, P.underlying dst, a with
 | some _, some (.int k), .lin _ c ts => fit k c ts
 | some (.int _), some .string, .lin _ c ts => if 0 ≤ loS c ts ∧ hiS c ts < 128 then some (.sstr [mkLin .u8 c ts]) else none
 | some .string, some .string, .sstr l => some (.sstr l)
 | _, _, _ => none
omit [E : Amb] in
theorem encode_ascii {n : Int} (h0 : 0 ≤ n) (h1 : n < 128) : Utf8.encode n = ⟨#[UInt8.ofNat n.toNat]⟩ := by
 obtain ⟨m, rfl⟩ : ∃ m : Nat, n = m := ⟨n.toNat, by omega⟩
 have hv : Utf8.valid (m : Int) = true := by
  unfold Utf8.valid
  simp
  omega
 unfold Utf8.encode
 simp only [hv, if_true]
 rw [if_pos (by omega)]
theorem lconv_sound {P : Program} {w : World} {src dst : TypeId} {a x : V} {u : Value} (ha : VR ρ a u) (h : lconv P src dst a = some x) :
  ∃ y, (convert src dst u).run P w = .ok y w ∧ VR ρ x y := by
 unfold lconv at h
 split at h
 ·rename_i d k k' c ts h1 h2
  cases ha with
  | lin _ _ _ n hs hn =>
   have := fit_sound hs h
   rw [← hn] at this
   refine ⟨_, ?_, this⟩
   simp only [convert, Sem.run_bind, run_underlying h1, run_underlying h2, Result.andThen_ok]
   rfl
 ·rename_i k k' c ts h1 h2
  split at h
  ·rename_i hb
   simp only [Option.some.injEq] at h; subst h
   cases ha with
   | lin _ _ _ n hs hn =>
    have hr := loS_le c hs
    refine ⟨.string (Utf8.encode n), ?_, ?_⟩
    ·simp only [convert, Sem.run_bind, run_underlying h1, run_underlying h2, Result.andThen_ok]
     rfl
    ·rw [encode_ascii (by omega) (by omega)]
     refine .sstr _ [UInt8.ofNat n.toNat] rfl fun i x b hx hb => ?_
     cases i with
     | zero =>
      simp at hx hb; subst hx hb
      have e : ((UInt8.ofNat n.toNat).toNat : Int) = n := by
       rw [UInt8.toNat_ofNat']; omega
      rw [e]; exact mkLin_VR hs hn
     | succ i => simp at hx
  ·cases h
 ·rename_i l h1 h2
  simp only [Option.some.injEq] at h; subst h
  cases ha with
  | sstr _ bs hn hr =>
   refine ⟨_, ?_, .sstr l bs hn hr⟩
   simp only [convert, Sem.run_bind, run_underlying h1, run_underlying h2, Result.andThen_ok]
   rfl
 ·cases h
def lmax (mx : Bool) (a b : V) : Option V := match asLin a, asLin b with
  | some (k, c, ts), some (k', d, us) => if k = k' then match cmpS (if mx then .gtr else .lss) (diffS d c us ts).1 (diffS d c us ts).2 with
      | some true => some b
      | some false => some a
      | none => none
    else none
  | _, _ => none
theorem lmax_sound {mx : Bool} {a b x : V} {u v : Value} (ha : VR ρ a u) (hb : VR ρ b v) (h : lmax mx a b = some x) :
  ∃ k n m, u = .int k n ∧ v = .int k m ∧ VR ρ x (.int k (if (if mx then decide (m > n) else decide (m < n)) then m else n)) := by
 unfold lmax at h
 split at h
 ·rename_i k c ts k' d us e1 e2
  obtain ⟨n, rfl, s1, hn⟩ := asLin_sound ha e1
  obtain ⟨m, rfl, s2, hm⟩ := asLin_sound hb e2
  split at h
  ·rename_i hk; subst hk
   refine ⟨k, n, m, rfl, rfl, ?_⟩
   obtain ⟨d1, d2⟩ := diffS_sound s2 s1 hm hn
   have key : ∀ t, cmpS (if mx then .gtr else .lss) (diffS d c us ts).1 (diffS d c us ts).2 = some t → (if mx then decide (m > n) else decide (m < n)) = t := fun t ht => by
    have i1 := (cmpS_sound (k := k) ht d1 d2).1
    cases mx <;> simpa [ibin] using i1
   split at h
   ·rename_i ht
    simp only [Option.some.injEq] at h; subst h
    rw [key _ ht, if_pos rfl]; exact hb
   ·rename_i ht
    simp only [Option.some.injEq] at h; subst h
    rw [key _ ht, if_neg (by simp)]; exact ha
   ·cases h
  ·cases h
 ·cases h
def orV (a b : Option V) : Option V := match a with
 | some v => some v
 | none => b
def vbinX (P : Program) (op : BinOp) (T : TypeId) (c : Bool) (a b : V) : Option V := orV (vbinE P op T c a b) (orV (lbin op a b) (lsbin op a b))
def vunX (op : UnOp) (a : V) : Option V := orV (vun op a) (match op with | .neg => lneg a | _ => none)
def opConvX (P : Program) (src dst : TypeId) (a : V) : Option V := orV (opConv P src dst a) (lconv P src dst a)
def opSliceX (P : Program) (T : TypeId) (a : V) (lo hi : Option V) : Option V := orV (opSlice P T a lo hi) (lsli P T a lo hi)
def opLenX (P : Program) (argTypes : Array TypeId) (a : V) : Option V := orV (opLen P argTypes a) (llen P argTypes a)
theorem opConvX_sound {P : Program} {w : World} {src dst : TypeId} {a x : V} {u : Value} (ha : VR ρ a u) (h : opConvX P src dst a = some x) :
  ∃ y, (convert src dst u).run P w = .ok y w ∧ VR ρ x y := by
 unfold opConvX orV at h
 split at h
 ·rename_i v hv
  cases h
  exact opConv_sound ha hv
 ·exact lconv_sound ha h
theorem opSliceX_sound {P : Program} {w : World} {T : TypeId} {a x : V} {lo hi : Option V} {u : Value} {vlo vhi : Option Value} (ha : VR ρ a u)
  (hlo : OptVR ρ lo vlo) (hhi : OptVR ρ hi vhi) (h : opSliceX P T a lo hi = some x) : ∃ y, (Instr.sliceAt T u vlo vhi none).run P w = .ok y w ∧ VR ρ x y := by
 unfold opSliceX orV at h
 split at h
 ·rename_i v hv
  cases h
  exact opSlice_sound ha hlo hhi hv
 ·exact lsli_sound ha hlo hhi h
theorem opLenX_sound {P : Program} {w : World} {argTypes : Array TypeId} {a x : V} {u : Value} {T : TypeId} (ha : VR ρ a u) (h : opLenX P argTypes a = some x) :
  ∃ y, (Builtin.len_ argTypes T #[u]).run P w = .ok y w ∧ VR ρ x y := by
 unfold opLenX orV at h
 split at h
 ·rename_i v hv
  cases h
  exact opLen_sound ha hv
 ·exact llen_sound ha h
def rowS (d : Int) (cs : List V) : Nat → Nat → Bool
 | _, 0 => true
 | i, n + 1 => match cs[i]? with
  | some (.str [b]) => if (b.toNat : Int) = i + d then rowS d cs (i + 1) n else false
  | _ => false
omit [E : Amb] in
theorem rowS_get {d : Int} {cs : List V} : ∀ (n i : Nat), rowS d cs i n = true → ∀ j, i ≤ j → j < i + n → ∃ b : UInt8, cs[j]? = some (.str [b]) ∧ (b.toNat : Int) = j + d
 | 0, i, _, j, h1, h2 => by omega
 | n + 1, i, h, j, h1, h2 => by
  rw [rowS] at h
  split at h
  ·rename_i b hb
   split at h
   ·rename_i he
    by_cases e : j = i
    ·subst e; exact ⟨b, hb, he⟩
    ·exact rowS_get n (i + 1) h j (by omega) (by omega)
   ·cases h
  ·cases h
def firstS (cs : List V) (i : Nat) : Int := match cs[i]? with
 | some (.str [b]) => (b.toNat : Int) - i
 | _ => 0
def lpick0 (sz : Nat) (a i : V) : Option V := match sz, a, i with
  | 1, .pl len 1 cs, .lin _ c ts => if 0 ≤ loS c ts ∧ hiS c ts < len ∧ rowS (firstS cs (loS c ts).toNat) cs (loS c ts).toNat ((hiS c ts).toNat + 1 - (loS c ts).toNat) = true
      then some (.pk (.sstr [mkLin .u8 (c + firstS cs (loS c ts).toNat) ts])) else none
  | _, _, _ => none
def lpick (P : Program) (T : TypeId) (a i : V) : Option V := match P.underlying T with
 | some (.slice e) => match szOf P e with
  | some sz => lpick0 sz a i
  | none => none
 | _ => none
theorem lpick_sound {P : Program} {w : World} {T : TypeId} {a i x : V} {u v : Value} (ha : VR ρ a u) (hi : VR ρ i v) (h : lpick P T a i = some x) :
  ∃ y, (Instr.indexAt T u v).run P w = .ok y w ∧ VR ρ x y := by
 unfold lpick at h
 split at h
 ·rename_i e hT
  split at h
  ·rename_i sz hs
   unfold lpick0 at h
   split at h
   ·rename_i len cs k c ts
    split at h
    ·rename_i hc
     obtain ⟨h0, h1, h2⟩ := hc
     simp only [Option.some.injEq] at h; subst h
     cases hi with
     | lin _ _ _ n hok hn =>
     have hb := loS_le c hok
     cases ha with
     | pl _ _ cp b o _ m hm hcc hnn hl hr =>
      obtain ⟨by8, g1, g2⟩ := rowS_get _ _ h2 n.toNat (by omega) (by omega)
      have hlt : n.toNat < cs.length := (List.getElem?_eq_some_iff.1 g1).1
      have hv : m.arr[o + n.toNat]? = some (m.arr[o + n.toNat]'(by omega)) := by simp
      have hu := hr _ _ _ g1 hv
      have e1 := hu.str_inv
      refine ⟨.pointer (some ⟨b, o + n.toNat, none⟩), ?_, .pk b _ _ m _ hm hv ?_⟩
      ·have : 0 ≤ n ∧ n < len := ⟨by omega, by omega⟩
       simp [Instr.indexAt, asIntOf, run_underlying hT, this, run_sizeOf hs, add_none]
      ·rw [e1]
       refine .sstr _ [by8] rfl fun i x b' hx hb' => ?_
       cases i with
       | zero =>
        simp at hx hb'; subst hx hb'
        exact mkLin_VR hok (by omega)
       | succ i => simp at hx
     | pl0 => omega
    ·cases h
   ·cases h
  ·cases h
 ·cases h
def sym (P : Program) (rd : Operand → Option V) : Op → Option V
 | .binOp op _ x y _ => match rd x, rd y with
  | some a, some b => match lbin op a b with
   | some v => some v
   | none => lsbin op a b
  | _, _ => none
 | .unOp .neg _ x => match rd x with
  | some a => lneg a
  | none => none
 | .index T x i => match rd x, rd i with
  | some a, some b => lidx P T a b
  | _, _ => none
 | .indexAddr T x i => match rd x, rd i with
  | some a, some b => lpick P T a b
  | _, _ => none
 | .slice T x lo hi none => match rd x, optRd rd lo, optRd rd hi with
  | some a, some l, some h => lsli P T a l h
  | _, _, _ => none
 | .convert src dst x => match rd x with
  | some a => lconv P src dst a
  | none => none
 | .call { callee := .builtin .len, args, argTypes } => match rdAll rd args.toList with
  | some [a] => llen P argTypes a
  | _ => none
 | .call { callee := .builtin .max, args, .. } => match rdAll rd args.toList with
  | some [a, b] => lmax true a b
  | _ => none
 | .call { callee := .builtin .min, args, .. } => match rdAll rd args.toList with
  | some [a, b] => lmax false a b
  | _ => none
 | _ => none
def popS (P : Program) (rd : Operand → Option V) (o : Op) : Option V := match pop P rd o with
 | some v => some v
 | none => sym P rd o
theorem sym_sound {P : Program} {w : World} {rd : Operand → Option V} {ev : Operand → Value} (hρ : ∀ x a, rd x = some a → VR ρ a (ev x)) {o : Oper} {x : V}
  (h : sym P rd o.op = some x) : ∃ y, (execOp ev o).run P w = .ok (.value y) w ∧ VR ρ x y := by
 have lift : ∀ (s : Sem Value), (∃ y, s.run P w = .ok y w ∧ VR ρ x y) → ∃ y, (do pure (Next.value (← s)) : Sem Next).run P w = .ok (.value y) w ∧ VR ρ x y := by
  rintro s ⟨y, hy, hd⟩
  exact ⟨y, by simp only [Sem.run_bind, hy, Result.andThen_ok]; rfl, hd⟩
 have two : ∀ {args : Array Operand} {a b : V}, rdAll rd args.toList = some [a, b] → ∃ x0 y0, args = #[x0, y0] ∧ VR ρ a (ev x0) ∧ VR ρ b (ev y0) := fun {args a b} ha => by
  obtain ⟨h1, h2⟩ := rdAll_sound hρ _ _ ha
  obtain ⟨x0, y0, hx0⟩ : ∃ x0 y0, args.toList = [x0, y0] := by
   cases hh : args.toList with
   | nil => rw [hh] at h1; simp at h1
   | cons x0 r => cases r with
    | nil => rw [hh] at h1; simp at h1
    | cons y0 r => rw [hh] at h1; simp at h1; exact ⟨x0, y0, by rw [h1.symm]⟩
  obtain rfl : args = #[x0, y0] := by apply Array.toList_inj.1; simpa using hx0
  exact ⟨x0, y0, rfl, h2 0 a (ev x0) rfl (by simp), h2 1 b (ev y0) rfl (by simp)⟩
 unfold sym at h
 unfold execOp
 split at h
 ·rename_i op T a b yt ho
  rw [ho]
  split at h
  ·rename_i a' b' ha hb
   split at h
   ·rename_i v hv
    simp only [Option.some.injEq] at h; subst h
    obtain ⟨y, hy, hd⟩ := lbin_run (P := P) (w := w) (T := T) a b (hρ _ _ ha) (hρ _ _ hb) hv
    exact lift _ ⟨y, hy, hd⟩
   ·obtain ⟨y, hy, hd⟩ := lsbin_run (P := P) (w := w) (T := T) a b (hρ _ _ ha) (hρ _ _ hb) h
    exact lift _ ⟨y, hy, hd⟩
  ·cases h
 ·rename_i T a ho
  rw [ho]
  split at h
  ·rename_i a' ha; exact lift _ (lneg_sound (hρ _ _ ha) h)
  ·cases h
 ·rename_i T a i ho
  rw [ho]
  split at h
  ·rename_i a' b' ha hb; exact lift _ (lidx_sound (hρ _ _ ha) (hρ _ _ hb) h)
  ·cases h
 ·rename_i T a i ho
  rw [ho]
  split at h
  ·rename_i a' b' ha hb; exact lift _ (lpick_sound (hρ _ _ ha) (hρ _ _ hb) h)
  ·cases h
 ·rename_i T a lo hi ho
  rw [ho]
  split at h
  ·rename_i a' l' h' ha hl hh
   exact lift _ (lsli_sound (hρ _ _ ha) (optRd_sound hρ hl) (optRd_sound hρ hh) h)
  ·cases h
 ·rename_i src dst a ho
  rw [ho]
  split at h
  ·rename_i a' ha; exact lift _ (lconv_sound (hρ _ _ ha) h)
  ·cases h
 ·rename_i args argTypes ho
  rw [ho]
  split at h
  ·rename_i a ha
   obtain ⟨h1, h2⟩ := rdAll_sound hρ _ _ ha
   obtain ⟨x0, hx0⟩ : ∃ x0, args.toList = [x0] := by
    cases hh : args.toList with
    | nil => rw [hh] at h1; simp at h1
    | cons x0 r => rw [hh] at h1; simp at h1; exact ⟨x0, by rw [h1.symm]⟩
   obtain rfl : args = #[x0] := by apply Array.toList_inj.1; simpa using hx0
   refine lift (Builtin.len_ argTypes o.type (#[x0].map ev)) ?_
   rw [show #[x0].map ev = #[ev x0] by simp]
   exact llen_sound (h2 0 a (ev x0) rfl (by simp)) h
  ·cases h
 ·rename_i args argTypes ho
  rw [ho]
  split at h
  ·rename_i a b ha
   obtain ⟨x0, y0, rfl, r1, r2⟩ := two ha
   obtain ⟨k, n, m, e1, e2, hx⟩ := lmax_sound r1 r2 h
   refine lift (Builtin.max_ argTypes o.type (#[x0, y0].map ev)) ⟨_, ?_, hx⟩
   rw [show #[x0, y0].map ev = #[ev x0, ev y0] by simp, e1, e2]
   simp only [Builtin.max_, if_true, decide_eq_true_eq]
   rfl
  ·cases h
 ·rename_i args argTypes ho
  rw [ho]
  split at h
  ·rename_i a b ha
   obtain ⟨x0, y0, rfl, r1, r2⟩ := two ha
   obtain ⟨k, n, m, e1, e2, hx⟩ := lmax_sound r1 r2 h
   refine lift (Builtin.min_ argTypes o.type (#[x0, y0].map ev)) ⟨_, ?_, hx⟩
   rw [show #[x0, y0].map ev = #[ev x0, ev y0] by simp, e1, e2]
   simp only [Builtin.min_, Bool.false_eq_true, if_false, decide_eq_true_eq]
   rfl
  ·cases h
 ·cases h
theorem popS_sound {P : Program} {w : World} {rd : Operand → Option V} {ev : Operand → Value} (hρ : ∀ x a, rd x = some a → VR ρ a (ev x)) {o : Oper} {x : V}
  (h : popS P rd o.op = some x) : ∃ y, (execOp ev o).run P w = .ok (.value y) w ∧ VR ρ x y := by
 unfold popS at h
 split at h
 ·rename_i v hv
  simp only [Option.some.injEq] at h; subst h
  exact pop_sound hρ hv
 ·exact sym_sound hρ h
end
inductive Blk where
 | cells (fam fb fz : Nat) (xs : List V)
 | iter (l : List V) (pos : Nat)
 | mapo (es : List (V × V)) (clock : Nat)
structure Hp where
 next : Nat
 t : Tr Blk
 fams : Tr (List (Nat × Nat))
 els : Tr Nat
def Hp.empty : Hp := ⟨0, .leaf, .leaf, .leaf⟩
def Hp.nums (K : Nat) : Hp := ⟨K, .leaf, .leaf, .leaf⟩
def famOf (a : Nat) : Blk → Nat
 | .cells f _ _ _ => f
 | _ => a
abbrev Glob := Tr (List V)
def BornOk (arr : Array MapEntry) (c : Nat) : Prop := (∀ x ∈ arr.toList, x.born < c) ∧ (arr.toList.map (·.born)).Nodup
structure BlkR (ρ : Ren) (N0 : Nat) (w : World) (a : Nat) (x : Blk) : Prop where
  ex : ∃ L, ρ a = some L ∧ N0 ≤ L.b ∧ match x with
    | .cells _ _ fz xs => ∃ arr el fr, w.heap[L.b]? = some (.cells arr el fr) ∧ arr.size = L.base + L.lim ∧ xs.length ≤ L.lim ∧
        (∀ (i : Nat) y u, xs[i]? = some y → arr[L.base + i]? = some u → VR ρ y u) ∧ (∀ o, fr.1 ≤ o → o < fr.2 → o < L.base + fz ∨ arr.size ≤ o)
    | .iter l pos => L.base = 0 ∧ ∃ bs : List UInt8, BytesR ρ l bs ∧ w.heap[L.b]? = some (.stringIter ⟨bs.toArray⟩ pos)
    | .mapo es clock => ∃ (arr : Array MapEntry) (es0 : List (V × V)), w.heap[L.b]? = some (.map arr (clock / 2)) ∧ BornOk arr (clock / 2) ∧ (clock % 2 = 0 → es0 = es) ∧ es0.Perm es ∧ es0.length = arr.size ∧
        ∀ (i : Nat) k e, es0[i]? = some k → arr[i]? = some e → VR ρ k.1 e.key ∧ VR ρ k.2 e.val
def GlobOk (Γ : Glob) (N0 : Nat) (w : World) : Prop :=
 ∀ g xs, Γ.get g = some xs → g < N0 ∧ ∃ arr el fr, w.heap[g]? = some (.cells arr el fr) ∧ xs.length = arr.size ∧ ∀ (i : Nat) y u, xs[i]? = some y → arr[i]? = some u → VR Ren.nil y u
structure FamOk (h : Hp) : Prop where
 mem : ∀ a f fb fz xs, h.t.get a = some (.cells f fb fz xs) → ∃ l, h.fams.get f = some l ∧ (a, fb + xs.length) ∈ l
 sorted : ∀ f l, h.fams.get f = some l → l.Pairwise fun p q => q.2 ≤ p.2
 lt : ∀ a x, h.t.get a = some x → a < h.next ∧ famOf a x < h.next
 own : ∀ a f fb fz xs b x, h.t.get a = some (.cells f fb fz xs) → h.t.get b = some x → (∀ f' fb' fz' xs', x ≠ .cells f' fb' fz' xs') → f ≠ b
def FrOk (fr : Nat × Nat) (n : Nat) : Prop := fr = (0, 0) ∨ (fr.1 < fr.2 ∧ fr.2 ≤ n)
structure Fr where
 w : World
 K : Nat
 r : Ren
 keep : List (Nat × Obj)
def Kept (w0 : Fr) (ρ : Ren) (h : Hp) (w : World) : Prop :=
 (w0.keep.map (·.1)).Nodup ∧ ∀ b o, (b, o) ∈ w0.keep → w.heap[b]? = some o ∧ ∀ a x L, h.t.get a = some x → ρ a = some L → L.b ≠ b
def Pers (_N0 : Nat) (w0 : Fr) (ρ : Ren) (h : Hp) (w : World) : Prop :=
 ∀ b m, ρ.mem b = some m → w.heap[b]? = some (.cells m.arr m.el m.fr) ∧ (w0.w.heap.size ≤ b ∨ w0.r.mem b = some m) ∧ ∀ a x L, h.t.get a = some x → ρ a = some L → L.b ≠ b
omit [E : Amb] in
theorem Pers.step {N0 : Nat} {w0 : Fr} {ρ ρ' : Ren} {h h' : Hp} {w w' : World} (K : Pers N0 w0 ρ h w) (hm : ρ'.mem = ρ.mem)
  (hw : ∀ b, (∀ a x L, h.t.get a = some x → ρ a = some L → L.b ≠ b) → b < w.heap.size → w'.heap[b]? = w.heap[b]?)
  (hr : ∀ a x L, h'.t.get a = some x → ρ' a = some L → (∃ a1 x1 L1, h.t.get a1 = some x1 ∧ ρ a1 = some L1 ∧ L1.b = L.b) ∨ w.heap.size ≤ L.b) : Pers N0 w0 ρ' h' w' := by
 intro b m hb
 rw [hm] at hb
 obtain ⟨h1, h3, h2⟩ := K b m hb
 have hlt : b < w.heap.size := (Array.getElem?_eq_some_iff.1 h1).1
 refine ⟨(hw b h2 hlt).trans h1, h3, fun a x L hx hL => ?_⟩
 rcases hr a x L hx hL with ⟨a1, x1, L1, k1, k2, k3⟩ | k
 ·rw [← k3]; exact h2 a1 x1 L1 k1 k2
 ·omega
omit [E : Amb] in
theorem Kept.step {w0 : Fr} {ρ ρ' : Ren} {h h' : Hp} {w w' : World} (K : Kept w0 ρ h w)
  (hw : ∀ b, (∀ a x L, h.t.get a = some x → ρ a = some L → L.b ≠ b) → b < w.heap.size → w'.heap[b]? = w.heap[b]?)
  (hr : ∀ a x L, h'.t.get a = some x → ρ' a = some L → (∃ a1 x1 L1, h.t.get a1 = some x1 ∧ ρ a1 = some L1 ∧ L1.b = L.b) ∨ w.heap.size ≤ L.b) : Kept w0 ρ' h' w' := by
 refine ⟨K.1, fun b o hb => ?_⟩
 obtain ⟨h1, h2⟩ := K.2 b o hb
 have hlt : b < w.heap.size := (Array.getElem?_eq_some_iff.1 h1).1
 refine ⟨(hw b h2 hlt).trans h1, fun a x L hx hL => ?_⟩
 rcases hr a x L hx hL with ⟨a1, x1, L1, k1, k2, k3⟩ | k
 ·rw [← k3]; exact h2 a1 x1 L1 k1 k2
 ·omega
structure Rel (Γ : Glob) (N0 : Nat) (w0 : Fr) (ρ : Ren) (h : Hp) (w : World) : Prop where
 below : Below N0 w0.w w
 hN0 : N0 ≤ w0.w.heap.size
 glob : GlobOk Γ N0 w0.w
 fresh : ∀ a, h.next ≤ a → ρ a = none
 lt : ∀ a L, ρ a = some L → L.b < w.heap.size
 blk : ∀ a x, ρ a ≠ none → h.t.get a = some x → BlkR ρ N0 w a x
 sep : ∀ a b x y L M, h.t.get a = some x → h.t.get b = some y → ρ a = some L → ρ b = some M → famOf a x ≠ famOf b y → L.b ≠ M.b
 same : ∀ a b f fb fz xs gb gz ys L M, h.t.get a = some (.cells f fb fz xs) → h.t.get b = some (.cells f gb gz ys) → ρ a = some L → ρ b = some M → L.b = M.b → L.base + gb = M.base + fb
 fam : FamOk h
 elk : ∀ a e, ρ a ≠ none → h.els.get a = some e → ∃ L arr fr, ρ a = some L ∧ w.heap[L.b]? = some (.cells arr (e / 2) fr) ∧ FrOk fr arr.size ∧ (e % 2 = 1 → L.base = 0)
 elt : ∀ a e, h.els.get a = some e → a < h.next
 old : w0.K ≤ h.next ∧ ∀ a, a < w0.K → ρ a = w0.r a
 kept : Kept w0 ρ h w
 pers : Pers N0 w0 ρ h w
omit [E : Amb] in
theorem some_ne {ρ : Ren} {a : Nat} {L : Loc} (h : ρ a = some L) : ρ a ≠ none := by rw [h]; simp
section
variable {Γ : Glob} {N0 : Nat} {w0 : Fr} {ρ : Ren} {h : Hp} {w : World}
theorem Rel.start (hg : GlobOk Γ w.heap.size w) : Rel Γ w.heap.size ⟨w, 0, Ren.nil, []⟩ Ren.nil Hp.empty w where
 below := .refl _ _
 hN0 := Nat.le_refl _
 glob := hg
 fresh := fun _ _ => rfl
 lt := fun a L h => by cases h
 blk := fun a x _ h => by cases h
 sep := fun a b x y L M h => by cases h
 same := fun a b f fb fz xs gb gz ys L M h => by cases h
 fam := ⟨fun a f fb fz xs h => by (cases h), fun f l h => by (cases h), fun a x h => by (cases h), fun a f fb fz xs b x h => by (cases h)⟩
 elk := fun a e _ h => by cases h
 elt := fun a e h => by cases h
 old := ⟨Nat.zero_le _, fun a h => by cases h⟩
 kept := ⟨List.nodup_nil, fun b o hb => by cases hb⟩
 pers := fun b m hb => by cases hb
theorem Rel.startK (hg : GlobOk Γ w.heap.size w) (K : Nat) (ρ2 : Ren) (h1 : ∀ a, K ≤ a → ρ2 a = none) (h2 : ∀ a L, ρ2 a = some L → L.b < w.heap.size) (h3 : ∀ b m, ρ2.mem b = some m → w.heap[b]? = some (.cells m.arr m.el m.fr)) : Rel Γ w.heap.size ⟨w, K, ρ2, []⟩ ρ2 (Hp.nums K) w where
 below := .refl _ _
 hN0 := Nat.le_refl _
 glob := hg
 fresh := fun a ha => h1 a ha
 lt := h2
 blk := fun a x _ h => by cases h
 sep := fun a b x y L M h => by cases h
 same := fun a b f fb fz xs gb gz ys L M h => by cases h
 fam := ⟨fun a f fb fz xs h => by (cases h), fun f l h => by (cases h), fun a x h => by (cases h), fun a f fb fz xs b x h => by (cases h)⟩
 elk := fun a e _ h => by cases h
 elt := fun a e h => by cases h
 old := ⟨Nat.le_refl _, fun _ _ => rfl⟩
 kept := ⟨List.nodup_nil, fun b o hb => by cases hb⟩
 pers := fun b m hb => ⟨h3 b m hb, .inr hb, fun a x L hx => by cases hx⟩
theorem GlobOk.move {W w' : World} {N1 : Nat} (hg : GlobOk Γ N0 W) (hb : Below N0 W w') (hN : N0 ≤ N1) : GlobOk Γ N1 w' := by
 intro g xs hx
 obtain ⟨h1, arr, el, fr, h2, h3⟩ := hg g xs hx
 exact ⟨by omega, arr, el, fr, (hb.block g h1).trans h2, h3⟩
theorem Rel.globNow (H : Rel Γ N0 w0 ρ h w) : GlobOk Γ w.heap.size w := H.glob.move H.below (Nat.le_trans H.hN0 H.below.size)
theorem Rel.grow (H : Rel Γ N0 w0 ρ h w) {w' : World} (hb : Below w.heap.size w w') : Rel Γ N0 w0 ρ h w' where
 below := H.below.trans (hb.mono (Nat.le_trans H.hN0 H.below.size))
 hN0 := H.hN0
 glob := H.glob
 fresh := H.fresh
 lt := fun a L hL => Nat.lt_of_lt_of_le (H.lt a L hL) hb.size
 blk := fun a x hne hx => by
  obtain ⟨L, h1, h2, h3⟩ := (H.blk a x hne hx).ex
  refine ⟨L, h1, h2, ?_⟩
  have e := hb.block L.b (H.lt a L h1)
  cases x with
  | cells f fb fz xs => obtain ⟨arr, el, fr, k⟩ := h3; exact ⟨arr, el, fr, by rw [e]; exact k⟩
  | iter l pos => obtain ⟨q, bs, hb, k⟩ := h3; exact ⟨q, bs, hb, e.trans k⟩
  | mapo es c => obtain ⟨arr, k⟩ := h3; exact ⟨arr, by rw [e]; exact k⟩
 sep := H.sep
 same := H.same
 fam := H.fam
 elk := fun a e hne he => by
  obtain ⟨L, arr, fr, h1, h2, h3⟩ := H.elk a e hne he
  exact ⟨L, arr, fr, h1, (hb.block _ (H.lt a L h1)).trans h2, h3⟩
 elt := H.elt
 old := H.old
 kept := H.kept.step (fun b _ hlt => hb.block b hlt) fun a x L hx hL => .inl ⟨a, x, L, hx, hL, rfl⟩
 pers := H.pers.step rfl (fun b _ hlt => hb.block b hlt) fun a x L hx hL => .inl ⟨a, x, L, hx, hL, rfl⟩
theorem Rel.focus (H : Rel Γ N0 w0 ρ h w) : Rel Γ N0 ⟨w0.w, h.next, ρ, w0.keep⟩ ρ h w := { H with old := ⟨Nat.le_refl _, fun _ _ => rfl⟩, kept := H.kept, pers := fun b m hb => ⟨(H.pers b m hb).1, .inr hb, (H.pers b m hb).2.2⟩ }
theorem Rel.unfocus {ρ' : Ren} {h' : Hp} {w' : World} (H : Rel Γ N0 w0 ρ h w) (H' : Rel Γ N0 ⟨w0.w, h.next, ρ, w0.keep⟩ ρ' h' w') : Rel Γ N0 w0 ρ' h' w' :=
 { H' with kept := H'.kept, pers := fun b m hb => ⟨(H'.pers b m hb).1, (H'.pers b m hb).2.1.elim .inl fun hh => (H.pers b m hh).2.1, (H'.pers b m hb).2.2⟩, old := ⟨Nat.le_trans H.old.1 H'.old.1, fun a ha => (H'.old.2 a (Nat.lt_of_lt_of_le ha H.old.1)).trans (H.old.2 a ha)⟩ }
theorem Rel.drawn (H : Rel Γ N0 w0 ρ h w) (k : Nat) : Rel Γ N0 w0 ρ h { w with drawn := k } := H.grow ⟨rfl, rfl, rfl, Nat.le_refl _, fun _ _ => rfl⟩
theorem Rel.startB (H : Rel Γ N0 w0 ρ h w) : Rel Γ w.heap.size ⟨w, 0, ρ.bare, []⟩ ρ.bare Hp.empty w :=
 Rel.startK H.globNow 0 ρ.bare (fun _ _ => rfl) (fun a L h => by cases h) fun b m hb => (H.pers b m hb).1
def setR (ρ : Ren) (a : Nat) (L : Loc) : Ren := ⟨fun b => if b = a then some L else ρ b, ρ.mem⟩
omit [E : Amb] in
theorem setR_ext {a : Nat} {L : Loc} (hf : ρ a = none) : Ext ρ (setR ρ a L) := ⟨fun b M hb => by
 simp only [setR]; split
 ·rename_i e; subst e; rw [hf] at hb; cases hb
 ·exact hb, fun _ _ h => h⟩
def Hp.new (h : Hp) (xs : List V) : Hp := ⟨h.next + 1, h.t.put (some (.cells h.next 0 0 xs)) h.next, h.fams.put (some [(h.next, xs.length)]) h.next, h.els⟩
def Hp.newObj (h : Hp) (x : Blk) : Hp := ⟨h.next + 1, h.t.put (some x) h.next, h.fams, h.els⟩
theorem BlkR.ext {ρ' : Ren} {a : Nat} {x : Blk} (hr : BlkR ρ N0 w a x) (he : Ext ρ ρ') : BlkR ρ' N0 w a x := by
 obtain ⟨L, h1, h2, h3⟩ := hr.ex
 refine ⟨L, he _ _ h1, h2, ?_⟩
 cases x with
 | cells f fb fz xs => obtain ⟨arr, el, fr, k1, k2, k3, k4, k5⟩ := h3; exact ⟨arr, el, fr, k1, k2, k3, fun i y u hy hu => (k4 i y u hy hu).ext he, k5⟩
 | iter l pos => obtain ⟨q, bs, hb, k⟩ := h3; exact ⟨q, bs, hb.ext he, k⟩
 | mapo es c => obtain ⟨arr, es0, k1, kb, kp, kq, k2, k3⟩ := h3; exact ⟨arr, es0, k1, kb, kp, kq, k2, fun i k e hk hh => ⟨(k3 i k e hk hh).1.ext he, (k3 i k e hk hh).2.ext he⟩⟩
theorem Rel.newBlk (H : Rel Γ N0 w0 ρ h w) (_hsz : N0 ≤ w.heap.size) {x : Blk} {h' : Hp} {L : Loc} {w' : World} (hn : h'.next = h.next + 1) (ht : ∀ b, h'.t.get b = if b = h.next then some x else h.t.get b)
  (hb : Below w.heap.size w w') (hLb : L.b = w.heap.size) (hlt : w.heap.size < w'.heap.size) (hx : BlkR (setR ρ h.next L) N0 w' h.next x) (hf : FamOk h') (hels : h'.els = h.els) :
  Rel Γ N0 w0 (setR ρ h.next L) h' w' := by
 have H' := H.grow hb
 have he := setR_ext (ρ := ρ) (L := L) (H.fresh h.next (Nat.le_refl _))
 have hold : ∀ b M, b ≠ h.next → setR ρ h.next L b = some M → ρ b = some M := fun b M hb hM => by simpa [setR, hb] using hM
 refine ⟨H'.below, H.hN0, H.glob, ?_, ?_, ?_, ?_, ?_, hf, fun a e hne hae => by
  rw [hels] at hae
  have hah := H.elt a e hae
  have hne' : ρ a ≠ none := by
   simp only [setR] at hne; rw [if_neg (by omega)] at hne; exact hne
  obtain ⟨M, arr, fr, q1, q2, q3⟩ := H'.elk a e hne' hae
  exact ⟨M, arr, fr, he a M q1, q2, q3⟩, fun a e hae => by rw [hels] at hae; have := H.elt a e hae; omega,
  ⟨by have := H.old.1; omega, fun a ha => by have := H.old.1; simp only [setR]; rw [if_neg (by omega)]; exact H.old.2 a ha⟩,
  H.kept.step (fun b _ hlt => hb.block b hlt) fun a x M hx hM => by
   by_cases e : a = h.next
   ·subst e; simp [setR] at hM; subst hM; right; rw [hLb]; exact Nat.le_refl _
   ·rw [ht, if_neg e] at hx; exact .inl ⟨a, x, M, hx, hold a M e hM, rfl⟩,
  H.pers.step rfl (fun b _ hlt => hb.block b hlt) fun a x M hx hM => by
   by_cases e : a = h.next
   ·subst e; simp [setR] at hM; subst hM; right; rw [hLb]; exact Nat.le_refl _
   ·rw [ht, if_neg e] at hx; exact .inl ⟨a, x, M, hx, hold a M e hM, rfl⟩⟩
 ·intro a ha
  rw [hn] at ha
  simp only [setR]; rw [if_neg (by omega)]; exact H.fresh a (by omega)
 ·intro a M hM
  by_cases e : a = h.next
  ·subst e; simp [setR] at hM; subst hM; rw [hLb]; exact hlt
  ·exact H'.lt a M (hold a M e hM)
 ·intro a y hne hy
  rw [ht] at hy
  by_cases e : a = h.next
  ·subst e; rw [if_pos rfl] at hy; simp only [Option.some.injEq] at hy; subst hy; exact hx
  ·rw [if_neg e] at hy; exact (H'.blk a y (by simpa [setR, e] using hne) hy).ext he
 ·intro a b y z M M' hy hz hM hM' hne
  rw [ht] at hy hz
  by_cases e : a = h.next <;> by_cases e' : b = h.next
  ·subst e; subst e'; simp at hy hz; subst hy hz; exact absurd rfl hne
  ·subst e; simp [setR] at hM; subst hM
   rw [hLb]; have := H.lt b M' (hold b M' e' hM'); omega
  ·subst e'; simp [setR] at hM'; subst hM'
   rw [hLb]; have := H.lt a M (hold a M e hM); omega
  ·rw [if_neg e] at hy; rw [if_neg e'] at hz
   exact H.sep a b y z M M' hy hz (hold a M e hM) (hold b M' e' hM') hne
 ·intro a b f fb fz xs gb gz ys M M' hy hz hM hM' hbb
  rw [ht] at hy hz
  by_cases e : a = h.next <;> by_cases e' : b = h.next
  ·subst e; subst e'; rw [if_pos rfl] at hy hz; rw [hy] at hz
   simp only [Option.some.injEq, Blk.cells.injEq] at hz
   obtain ⟨_, rfl, _, _⟩ := hz
   rw [hM] at hM'; simp only [Option.some.injEq] at hM'; subst hM'; rfl
  ·subst e; simp [setR] at hM; subst hM
   have := H.lt b M' (hold b M' e' hM'); omega
  ·subst e'; simp [setR] at hM'; subst hM'
   have := H.lt a M (hold a M e hM); omega
  ·rw [if_neg e] at hy; rw [if_neg e'] at hz
   exact H.same a b f fb fz xs gb gz ys M M' hy hz (hold a M e hM) (hold b M' e' hM') hbb
omit [E : Amb] in
theorem FamOk.new (H : FamOk h) (xs : List V) : FamOk (h.new xs) where
 mem := fun a f fb fz ys ha => by
  simp only [Hp.new, Tr.get_put] at ha ⊢
  by_cases e : a = h.next
  ·subst e; simp at ha; obtain ⟨rfl, rfl, rfl, rfl⟩ := ha; exact ⟨[(h.next, xs.length)], by simp, by simp⟩
  ·rw [if_neg e] at ha
   have hl := (H.lt a _ ha).2
   obtain ⟨l, h1, h2⟩ := H.mem a f fb fz ys ha
   simp only [famOf] at hl
   exact ⟨l, by rw [if_neg (by omega)]; exact h1, h2⟩
 sorted := fun f l hl => by
  simp only [Hp.new, Tr.get_put] at hl
  by_cases e : f = h.next
  ·subst e; simp at hl; subst hl; simp
  ·rw [if_neg e] at hl; exact H.sorted f l hl
 lt := fun a x ha => by
  simp only [Hp.new, Tr.get_put] at ha ⊢
  by_cases e : a = h.next
  ·subst e; simp at ha; subst ha; simp [famOf]
  ·rw [if_neg e] at ha; have := H.lt a x ha; omega
 own := fun a f fb fz ys b x ha hb hx => by
  simp only [Hp.new, Tr.get_put] at ha hb
  by_cases e : b = h.next
  ·subst e; simp at hb; subst hb; exact absurd rfl (hx _ _ _ _)
  ·rw [if_neg e] at hb
   by_cases e' : a = h.next
   ·subst e'; simp at ha; obtain ⟨rfl, _⟩ := ha; exact fun hh => e hh.symm
   ·rw [if_neg e'] at ha; exact H.own a f fb fz ys b x ha hb hx
omit [E : Amb] in
theorem FamOk.newObj (H : FamOk h) {x : Blk} (hx : ∀ f fb fz xs, x ≠ .cells f fb fz xs) : FamOk (h.newObj x) where
 mem := fun a f fb fz ys ha => by
  simp only [Hp.newObj, Tr.get_put] at ha ⊢
  by_cases e : a = h.next
  ·subst e; simp at ha; exact absurd ha (hx _ _ _ _)
  ·rw [if_neg e] at ha; exact H.mem a f fb fz ys ha
 sorted := H.sorted
 lt := fun a y ha => by
  simp only [Hp.newObj, Tr.get_put] at ha ⊢
  by_cases e : a = h.next
  ·subst e; simp at ha; subst ha
   have : famOf h.next x = h.next := by cases x <;> first | rfl | exact absurd rfl (hx _ _ _ _)
   omega
  ·rw [if_neg e] at ha; have := H.lt a y ha; omega
 own := fun a f fb fz ys b y ha hb hy => by
  simp only [Hp.newObj, Tr.get_put] at ha hb
  by_cases e' : a = h.next
  ·subst e'; simp at ha; exact absurd ha (hx _ _ _ _)
  ·rw [if_neg e'] at ha
   by_cases e : b = h.next
   ·subst e
    have := (H.lt a _ ha).2
    simp only [famOf] at this; omega
   ·rw [if_neg e] at hb; exact H.own a f fb fz ys b y ha hb hy
end
def World.new (w : World) (o : Obj) : World := { w with heap := w.heap.push o }
omit [E : Amb] in
theorem new_heap_old (w : World) (o : Obj) {b : Nat} (h : b < w.heap.size) : (World.new w o).heap[b]? = w.heap[b]? := by
 simp only [World.new, Array.getElem?_push]; rw [if_neg (by omega)]
omit [E : Amb] in
theorem new_heap_new (w : World) (o : Obj) : (World.new w o).heap[w.heap.size]? = some o := by
 show (w.heap.push o)[w.heap.size]? = some o
 simp
omit [E : Amb] in
theorem new_size (w : World) (o : Obj) : (World.new w o).heap.size = w.heap.size + 1 := by simp [World.new]
omit [E : Amb] in
theorem new_below (w : World) (o : Obj) : Below w.heap.size w (World.new w o) :=
 ⟨rfl, rfl, rfl, by rw [new_size]; omega, fun k hk => new_heap_old w o hk⟩
omit [E : Amb] in
theorem run_newRow {P : Program} {w : World} (el : TypeId) (cells : Array Value) : (newRow el cells).run P w = .ok ⟨w.heap.size, 0, none⟩ (World.new w (.cells cells el)) := by
 simp [newRow, newObj, Sem.run, World.new]
theorem Rel.newCells {Γ : Glob} {N0 : Nat} {w0 : Fr} {ρ : Ren} {h : Hp} {w : World} (H : Rel Γ N0 w0 ρ h w) {xs : List V} {arr : Array Value} {el : TypeId} {fr : Nat × Nat} (hl : xs.length ≤ arr.size) (hfr : ∀ o, fr.1 ≤ o → o < fr.2 → arr.size ≤ o)
  (hr : ∀ (i : Nat) y u, xs[i]? = some y → arr[i]? = some u → VR ρ y u) :
  Rel Γ N0 w0 (setR ρ h.next ⟨w.heap.size, 0, arr.size⟩) (h.new xs) (World.new w (.cells arr el fr)) := by
 have he := setR_ext (ρ := ρ) (a := h.next) (L := ⟨w.heap.size, 0, arr.size⟩) (H.fresh h.next (Nat.le_refl _))
 refine H.newBlk (Nat.le_trans H.hN0 H.below.size) (x := .cells h.next 0 0 xs) rfl (fun b => by simp only [Hp.new, Tr.get_put]) (new_below _ _) rfl (by rw [new_size]; exact Nat.lt_succ_self _) ?_ (H.fam.new xs) rfl
 refine ⟨⟨w.heap.size, 0, arr.size⟩, by simp [setR], Nat.le_trans H.hN0 H.below.size, arr, el, fr, new_heap_new _ _, by simp, hl, fun i y u hy hu => ?_, fun o h1 h2 => .inr (hfr o h1 h2)⟩
 rw [Nat.zero_add] at hu
 exact (hr i y u hy hu).ext he
def killBut (k p : Nat) : List (Nat × Nat) → Tr Blk → List (Nat × Nat) × Tr Blk
 | [], t => ([], t)
 | (a, e) :: l, t => match Nat.ble e p with
  | true => ((a, e) :: l, t)
  | false => match Nat.beq a k with
   | true => match killBut k p l t with
    | (l', t') => ((a, e) :: l', t')
   | false => killBut k p l (t.put none a)
omit [E : Amb] in
theorem killBut_spec (k p : Nat) : ∀ (l : List (Nat × Nat)) (t : Tr Blk) (l' : List (Nat × Nat)) (t' : Tr Blk), killBut k p l t = (l', t') →
  l'.Sublist l ∧ (∀ a x, t'.get a = some x → t.get a = some x) ∧ (t'.get k = t.get k) ∧ (∀ a e, (a, e) ∈ l → (a, e) ∈ l' ∨ t'.get a = none) ∧
  (l.Pairwise (fun p q => q.2 ≤ p.2) → ∀ a e, (a, e) ∈ l' → a ≠ k → e ≤ p) := by
 intro l
 induction l with
 | nil =>
  intro t l' t' h
  simp only [killBut, Prod.mk.injEq] at h; obtain ⟨rfl, rfl⟩ := h
  exact ⟨.slnil, fun _ _ h => h, rfl, fun a e h => .inl h, fun _ a e h => by cases h⟩
 | cons ae l ih =>
  obtain ⟨a, e⟩ := ae
  intro t l' t' h
  simp only [killBut] at h
  cases hb : Nat.ble e p with
  | true =>
   rw [hb] at h
   simp only [Prod.mk.injEq] at h; obtain ⟨rfl, rfl⟩ := h
   refine ⟨List.Sublist.refl _, fun _ _ h => h, rfl, fun a e h => .inl h, fun hp b e' hm _ => ?_⟩
   have he := Nat.le_of_ble_eq_true hb
   rcases List.mem_cons.1 hm with hm | hm
   ·simp only [Prod.mk.injEq] at hm; omega
   ·have := (List.pairwise_cons.1 hp).1 _ hm; simp only at this; omega
  | false =>
   rw [hb] at h
   simp only at h
   cases hk : Nat.beq a k with
   | true =>
    have hak := Nat.eq_of_beq_eq_true hk
    rw [hk] at h
    simp only at h
    cases hr : killBut k p l t with
    | mk l1 t1 =>
     rw [hr] at h
     simp only [Prod.mk.injEq] at h; obtain ⟨rfl, rfl⟩ := h
     obtain ⟨i1, i2, i3, i4, i5⟩ := ih t l1 t1 hr
     refine ⟨i1.cons_cons _, i2, i3, fun b e' hm => ?_, fun hp b e' hm hne => ?_⟩
     ·rcases List.mem_cons.1 hm with hm | hm
      ·rw [hm]; exact .inl List.mem_cons_self
      ·exact (i4 b e' hm).imp (List.mem_cons_of_mem _) id
     ·rcases List.mem_cons.1 hm with hm | hm
      ·simp only [Prod.mk.injEq] at hm; exact absurd (hm.1.trans hak) hne
      ·exact i5 (List.pairwise_cons.1 hp).2 b e' hm hne
   | false =>
    have hak : a ≠ k := Nat.ne_of_beq_eq_false hk
    rw [hk] at h
    simp only at h
    obtain ⟨i1, i2, i3, i4, i5⟩ := ih _ l' t' h
    refine ⟨i1.cons _, fun b x hx => ?_, ?_, fun b e' hm => ?_, fun hp b e' hm hne => i5 (List.pairwise_cons.1 hp).2 b e' hm hne⟩
    ·have := i2 b x hx
     rw [Tr.get_put] at this
     split at this
     ·cases this
     ·exact this
    ·rw [i3, Tr.get_put, if_neg (fun e => hak e.symm)]
    ·rcases List.mem_cons.1 hm with hm | hm
     ·simp only [Prod.mk.injEq] at hm
      right
      cases hg : t'.get b with
      | none => rfl
      | some x =>
       have := i2 b x hg
       rw [Tr.get_put, if_pos hm.1] at this; cases this
     ·exact i4 b e' hm
def Hp.cellsAt (h : Hp) (Γ : Glob) : V → Option (List V)
 | .ptr a o => match h.t.get a with
  | some (.cells _ _ _ xs) => some (xs.drop o)
  | _ => none
 | .gp g o => match Γ.get g with
  | some xs => some (xs.drop o)
  | none => none
 | .pp cs => some cs
 | .pk x => some [x]
 | _ => none
def opLoad (P : Program) (Γ : Glob) (h : Hp) (T : TypeId) (a : V) : Option V :=
 match h.cellsAt Γ a, isAggT P T with
 | some (x :: _), some false => some x
 | some xs, some true => match szOf P T with
  | some n => if n ≤ xs.length then some (.agg (xs.take n)) else none
  | none => none
 | _, _ => none
omit [E : Amb] in
theorem cell_of_heap {w : World} {b o : Nat} {arr : Array Value} {el : TypeId} {fr : Nat × Nat} (h : w.heap[b]? = some (.cells arr el fr)) : w.cell? ⟨b, o, none⟩ = arr[o]? := by
 simp [World.cell?, h]
section
variable {P : Program} {Γ : Glob} {N0 : Nat} {w0 : Fr} {ρ : Ren} {h : Hp} {w : World}
theorem VR.empty {x : V} {u : Value} (hx : VR Ren.nil x u) : VR ρ x u := hx.ext (Ext.nil ρ)
omit [E : Amb] in
theorem drop_drop_get {α : Type} (xs : List α) (o i : Nat) : (xs.drop o)[i]? = xs[o + i]? := List.getElem?_drop
theorem cellsAt_sound (H : Rel Γ N0 w0 ρ h w) {a : V} {u : Value} (ha : VR ρ a u) {cs : List V} (hc : h.cellsAt Γ a = some cs) :
  ∃ b o, u = .pointer (some ⟨b, o, none⟩) ∧ ∀ (i : Nat) y, cs[i]? = some y → ∃ v, w.cell? ⟨b, o + i, none⟩ = some v ∧ VR ρ y v := by
 unfold Hp.cellsAt at hc
 split at hc
 ·rename_i a' o
  split at hc
  ·rename_i f fb fz xs hg
   simp only [Option.some.injEq] at hc; subst hc
   obtain ⟨L, hL, rfl⟩ := ha.ptr_inv
   obtain ⟨M, hM, hN, arr, el, fr, k1, k2, k3, k4, k5⟩ := (H.blk _ _ (some_ne (by assumption)) hg).ex
   rw [hL] at hM; simp only [Option.some.injEq] at hM; subst hM
   refine ⟨_, _, rfl, fun i y hy => ?_⟩
   rw [drop_drop_get] at hy
   have hlt := (List.getElem?_eq_some_iff.1 hy).1
   have hv : arr[L.base + (o + i)]? = some (arr[L.base + (o + i)]'(by omega)) := by simp
   rw [cell_of_heap k1, Nat.add_assoc]
   exact ⟨_, hv, k4 _ _ _ hy hv⟩
  ·cases hc
 ·rename_i g o
  split at hc
  ·rename_i xs hg
   simp only [Option.some.injEq] at hc; subst hc
   cases ha
   obtain ⟨h1, arr, el, fr, h2, h3e, h4⟩ := H.glob g xs hg
   have h3 := Nat.le_of_eq h3e
   refine ⟨_, _, rfl, fun i y hy => ?_⟩
   rw [drop_drop_get] at hy
   have hlt := (List.getElem?_eq_some_iff.1 hy).1
   have hv : arr[o + i]? = some (arr[o + i]'(by omega)) := by simp
   rw [cell_of_heap ((H.below.block g h1).trans h2)]
   exact ⟨_, hv, (h4 _ _ _ hy hv).empty⟩
  ·cases hc
 ·rename_i cs'
  simp only [Option.some.injEq] at hc; subst hc
  cases ha with
  | pp b o xs m hm hl hr =>
   obtain ⟨h1, _⟩ := H.pers b m hm
   refine ⟨b, o, rfl, fun i y hy => ?_⟩
   have hlt := (List.getElem?_eq_some_iff.1 hy).1
   have hlt2 := hl i hlt
   have hv : m.arr[o + i]? = some (m.arr[o + i]'hlt2) := by simp
   rw [cell_of_heap h1]
   exact ⟨_, hv, (hr _ _ _ hy hv).ext (Ext.unbare fun _ _ e => e)⟩
 ·rename_i x
  simp only [Option.some.injEq] at hc; subst hc
  cases ha with
  | pk b o _ m u hm hu hx =>
   obtain ⟨h1, _⟩ := H.pers b m hm
   refine ⟨b, o, rfl, fun i y hy => ?_⟩
   cases i with
   | zero =>
    simp at hy; subst hy
    rw [cell_of_heap h1]
    exact ⟨u, hu, hx⟩
   | succ i => simp at hy
 ·cases hc
omit [E : Amb] in
theorem run_load1 {b o : Nat} {v : Value} (hc : w.cell? ⟨b, o, none⟩ = some v) : (load ⟨b, o, none⟩).run P w = .ok v w := by
 simp [load, Sem.run, hc]
theorem cells_run {b o n : Nat} {cs : List V} (hn : n ≤ cs.length) (hc : ∀ (i : Nat) y, cs[i]? = some y → ∃ v, w.cell? ⟨b, o + i, none⟩ = some v ∧ VR ρ y v) :
  ∃ us : List Value, us.length = n ∧ (∀ w' : World, w'.heap = w.heap → (loadCells ⟨b, o, none⟩ n).run P w' = .ok us.toArray w') ∧ VRs ρ (cs.take n) us := by
 let us : List Value := (List.range n).map fun k => (w.cell? ⟨b, o + k, none⟩).getD undef
 have hget : ∀ k, k < n → us[k]? = some ((w.cell? ⟨b, o + k, none⟩).getD undef) := by
  intro k hk
  simp only [us, List.getElem?_map]
  rw [List.getElem?_range hk]; rfl
 have hlen : us.length = n := by simp [us]
 refine ⟨us, hlen, fun w' hw' => run_loadCells hlen (fun k u hu => ?_), by simp [hlen]; omega, fun i x u hx hu => ?_⟩
 ·have hk : k < n := by rw [← hlen]; exact (List.getElem?_eq_some_iff.1 hu).1
  rw [hget k hk] at hu
  have hcs : cs[k]? = some (cs[k]'(by omega)) := by simp
  obtain ⟨v, hv, _⟩ := hc k _ hcs
  have e : w'.cell? ⟨b, o + k, none⟩ = w.cell? ⟨b, o + k, none⟩ := by simp [World.cell?, hw']
  rw [e]
  rw [hv] at hu ⊢
  simpa using hu
 ·rw [List.getElem?_take] at hx
  split at hx
  ·rename_i hi
   obtain ⟨v, hv, hr⟩ := hc i x hx
   rw [hget i hi, hv] at hu
   simp at hu; subst hu; exact hr
  ·cases hx
theorem opLoad_sound (H : Rel Γ N0 w0 ρ h w) {T : TypeId} {a x : V} {u : Value} (ha : VR ρ a u) (hs : opLoad P Γ h T a = some x) :
  ∃ y, (Instr.loadAt T u).run P w = .ok y w ∧ VR ρ x y := by
 unfold opLoad at hs
 split at hs
 ·rename_i x' r hc hT
  simp only [Option.some.injEq] at hs; subst hs
  obtain ⟨b, o, rfl, hcs⟩ := cellsAt_sound H ha hc
  obtain ⟨v, hv, hr⟩ := hcs 0 x' rfl
  refine ⟨v, ?_, hr⟩
  simp only [Instr.loadAt, Sem.run_bind, Instr.sureAddr, Sem.run_pure, Result.andThen_ok, loadVar, run_isAgg hT, Bool.false_eq_true, if_false]
  exact run_load1 hv
 ·rename_i xs hc hT
  split at hs
  ·rename_i n hn
   split at hs
   ·rename_i hle
    simp only [Option.some.injEq] at hs; subst hs
    obtain ⟨b, o, rfl, hcs⟩ := cellsAt_sound H ha hc
    obtain ⟨us, h1, h2, h3⟩ := cells_run (P := P) (n := n) hle hcs
    refine ⟨.agg us.toArray, ?_, VRs.agg (by simpa using h3)⟩
    simp only [Instr.loadAt, Sem.run_bind, Instr.sureAddr, Sem.run_pure, Result.andThen_ok, loadVar, run_isAgg hT, if_true, run_sizeOf hn, h2 w rfl]
   ·cases hs
  ·cases hs
 ·cases hs
def V.one : V → Bool
 | .agg _ => false
 | .tup _ => false
 | .any => false
 | _ => true
def oneCell : Value → Prop
 | .agg _ => False
 | .tuple _ => False
 | _ => True
theorem VR.oneCell {x : V} {u : Value} (hx : VR ρ x u) (h : x.one = true) : oneCell u := by
 cases hx <;> first | trivial | cases h
theorem VRs.oneCells {xs : List V} {us : List Value} (hx : VRs ρ xs us) (h : xs.all V.one = true) : ∀ v ∈ us, HM.oneCell v := by
 intro v hv
 obtain ⟨i, hi⟩ := List.getElem?_of_mem hv
 have hlt : i < xs.length := by rw [hx.1]; exact (List.getElem?_eq_some_iff.1 hi).1
 have hg : xs[i]? = some xs[i] := by simp
 exact (hx.2 i _ v hg hi).oneCell (List.all_eq_true.1 h _ (List.mem_of_getElem? hg))
omit [E : Amb] in
theorem run_store1 {b k : Nat} {u z : Value} (hz : w.cell? ⟨b, k, none⟩ = some z) (hf : w.frozen? ⟨b, k, none⟩ = false) (ho : HM.oneCell u) :
  (store ⟨b, k, none⟩ u).run P w = .ok () (w.setCell ⟨b, k, none⟩ u) := by
 cases u <;> first | exact ho.elim | simp [store, Sem.run, hz, hf]
omit [E : Amb] in
theorem setCell_heap_ne {b k b' : Nat} {u : Value} (h : b' ≠ b) : (w.setCell ⟨b, k, none⟩ u).heap[b']? = w.heap[b']? := by
 simp only [World.setCell, Array.getElem?_modify]
 rw [if_neg (fun e => h e.symm)]
omit [E : Amb] in
theorem setCell_heap_eq {b k : Nat} {u : Value} {arr : Array Value} {el : TypeId} {fr : Nat × Nat} (h : w.heap[b]? = some (.cells arr el fr)) :
  (w.setCell ⟨b, k, none⟩ u).heap[b]? = some (.cells (arr.setIfInBounds k u) el fr) := by
 simp [World.setCell, Array.getElem?_modify, h]
omit [E : Amb] in
theorem setCell_size {a : Addr} {u : Value} : (w.setCell a u).heap.size = w.heap.size := by simp [World.setCell]
omit [E : Amb] in
theorem run_storeCells {b : Nat} {el : TypeId} {fr : Nat × Nat} : ∀ (vs : List Value) {w : World} {arr : Array Value} {off : Nat} (i : Nat), w.heap[b]? = some (.cells arr el fr) →
  off + i + vs.length ≤ arr.size → (∀ k, off + i ≤ k → k < off + i + vs.length → ¬ (fr.1 ≤ k ∧ k < fr.2)) → (∀ v ∈ vs, HM.oneCell v) →
  ∃ w' arr', (storeCells ⟨b, off, none⟩ vs i).run P w = .ok () w' ∧ w'.heap[b]? = some (.cells arr' el fr) ∧ arr'.size = arr.size ∧
   (∀ k, arr'[k]? = if off + i ≤ k ∧ k < off + i + vs.length then vs[k - (off + i)]? else arr[k]?) ∧
   (∀ b', b' ≠ b → w'.heap[b']? = w.heap[b']?) ∧ w'.heap.size = w.heap.size ∧ w'.os = w.os ∧ w'.tape = w.tape ∧ w'.output = w.output := by
 intro vs
 induction vs with
 | nil =>
  intro w arr off i hb _ _ _
  exact ⟨w, arr, rfl, hb, rfl, fun k => by rw [if_neg (by simp only [List.length_nil]; omega)], fun _ _ => rfl, rfl, rfl, rfl, rfl⟩
 | cons v vs ih =>
  intro w arr off i hb hl hf ho
  simp only [List.length_cons] at hl hf
  have hlt : off + i < arr.size := by omega
  have hcell : w.cell? ⟨b, off + i, none⟩ = some arr[off + i] := by rw [cell_of_heap hb]; simp [hlt]
  have hfz : w.frozen? ⟨b, off + i, none⟩ = false := by
   simp only [World.frozen?, hb]
   cases hh : (decide (fr.1 ≤ off + i) && decide (off + i < fr.2)) with
   | false => rfl
   | true => simp only [Bool.and_eq_true, decide_eq_true_eq] at hh; exact absurd hh (hf _ (Nat.le_refl _) (by omega))
  have hb' := setCell_heap_eq (k := off + i) (u := v) hb
  obtain ⟨w', arr', h1, h2, h3, h4, h5, h6, h7, h8, h9⟩ := ih (w := w.setCell ⟨b, off + i, none⟩ v) (off := off) (i + 1) hb' (by simp; omega) (fun k h1 h2 => hf k (by omega) (by omega)) (fun x hx => ho x (List.mem_cons_of_mem _ hx))
  refine ⟨w', arr', ?_, h2, by rw [h3]; simp, fun k => ?_, fun b' hne => (h5 b' hne).trans (setCell_heap_ne hne), h6.trans setCell_size, h7, h8, h9⟩
  ·simp only [storeCells, Sem.run_bind, add_none]
   rw [run_store1 hcell hfz (ho v List.mem_cons_self)]
   simpa using h1
  ·rw [h4 k]
   by_cases e : k = off + i
   ·subst e
    rw [if_neg (by omega), if_pos ⟨by omega, by simp only [List.length_cons]; omega⟩, Array.getElem?_setIfInBounds, if_pos rfl]
    simp [hlt]
   ·by_cases e2 : off + (i + 1) ≤ k ∧ k < off + (i + 1) + vs.length
    ·rw [if_pos e2, if_pos (by simp only [List.length_cons]; omega), show k - (off + i) = (k - (off + (i + 1))) + 1 by omega]
     rfl
    ·rw [if_neg e2, if_neg (by simp only [List.length_cons]; omega), Array.getElem?_setIfInBounds, if_neg (fun hh => e hh.symm)]
def Hp.kill (h : Hp) (k f p : Nat) : Option Hp :=
 match h.fams.get f with
 | some l => match killBut k p l h.t with
  | (l', t') => some ⟨h.next, t', h.fams.put (some l') f, h.els⟩
 | none => none
omit [E : Amb] in
theorem kill_fam (H : FamOk h) {h' : Hp} {k f p : Nat} (hk : h.kill k f p = some h') : FamOk h' ∧ h'.next = h.next ∧ (∀ a x, h'.t.get a = some x → h.t.get a = some x) ∧ h'.t.get k = h.t.get k ∧
  (∃ l, h'.fams.get f = some l ∧ ∀ a e, (a, e) ∈ l → a ≠ k → e ≤ p) ∧ h'.els = h.els := by
 unfold Hp.kill at hk
 split at hk
 ·rename_i l hl
  cases hr : killBut k p l h.t with
  | mk l' t' =>
   rw [hr] at hk
   simp only [Option.some.injEq] at hk; subst hk
   obtain ⟨i1, i2, i3, i4, i5⟩ := killBut_spec k p l h.t l' t' hr
   refine ⟨⟨?_, ?_, ?_, ?_⟩, rfl, i2, i3, ⟨l', by simp [Tr.get_put], i5 (H.sorted f l hl)⟩, rfl⟩
   ·intro a f' fb fz xs ha
    obtain ⟨m, h1, h2⟩ := H.mem a f' fb fz xs (i2 _ _ ha)
    by_cases e : f' = f
    ·subst e
     rw [hl] at h1; simp only [Option.some.injEq] at h1; subst h1
     refine ⟨l', by simp [Tr.get_put], ?_⟩
     rcases i4 _ _ h2 with hh | hh
     ·exact hh
     ·have ha' : t'.get a = some (.cells f' fb fz xs) := ha
      rw [hh] at ha'; cases ha'
    ·exact ⟨m, by simp only [Tr.get_put]; rw [if_neg e]; exact h1, h2⟩
   ·intro f' m hm
    simp only [Tr.get_put] at hm
    by_cases e : f' = f
    ·subst e; rw [if_pos rfl] at hm; simp only [Option.some.injEq] at hm; subst hm
     exact (H.sorted f' l hl).sublist i1
    ·rw [if_neg e] at hm; exact H.sorted f' m hm
   ·intro a x ha; exact H.lt a x (i2 _ _ ha)
   ·intro a f' fb fz xs b x ha hb hx; exact H.own a f' fb fz xs b x (i2 _ _ ha) (i2 _ _ hb) hx
 ·cases hk
theorem Rel.sub (H : Rel Γ N0 w0 ρ h w) {h' : Hp} (hn : h'.next = h.next) (hs : ∀ a x, h'.t.get a = some x → h.t.get a = some x) (hf : FamOk h') (hel : h'.els = h.els) : Rel Γ N0 w0 ρ h' w where
 below := H.below
 hN0 := H.hN0
 glob := H.glob
 fresh := fun a ha => H.fresh a (by omega)
 lt := H.lt
 blk := fun a x hne hx => H.blk a x hne (hs _ _ hx)
 sep := fun a b x y L M hx hy => H.sep a b x y L M (hs _ _ hx) (hs _ _ hy)
 same := fun a b f fb fz xs gb gz ys L M hx hy => H.same a b f fb fz xs gb gz ys L M (hs _ _ hx) (hs _ _ hy)
 fam := hf
 elk := fun a e hne he => H.elk a e hne (hel ▸ he)
 elt := fun a e he => by rw [hn]; exact H.elt a e (hel ▸ he)
 old := ⟨by rw [hn]; exact H.old.1, H.old.2⟩
 kept := H.kept.step (fun _ _ _ => rfl) fun a x L hx hL => .inl ⟨a, x, L, hs _ _ hx, hL, rfl⟩
 pers := H.pers.step rfl (fun _ _ _ => rfl) fun a x L hx hL => .inl ⟨a, x, L, hs _ _ hx, hL, rfl⟩
omit [E : Amb] in
theorem kill_ends {h' : Hp} {k f p : Nat} (hf : FamOk h') (hl : ∃ l, h'.fams.get f = some l ∧ ∀ a e, (a, e) ∈ l → a ≠ k → e ≤ p) {c gb gz : Nat} {ys : List V} (hc : h'.t.get c = some (.cells f gb gz ys)) (hck : c ≠ k) : gb + ys.length ≤ p := by
 obtain ⟨l, h1, h2⟩ := hl
 obtain ⟨m, h3, h4⟩ := hf.mem c f gb gz ys hc
 rw [h1] at h3; simp only [Option.some.injEq] at h3; subst h3
 exact h2 _ _ h4 hck
def splice (xs ys : List V) (o : Nat) : List V := xs.take o ++ (ys ++ xs.drop (o + ys.length))
omit [E : Amb] in
theorem splice_length {xs ys : List V} {o : Nat} (h : o + ys.length ≤ xs.length) : (splice xs ys o).length = xs.length := by simp [splice]; omega
omit [E : Amb] in
theorem splice_get {xs ys : List V} {o i : Nat} (h : o + ys.length ≤ xs.length) : (splice xs ys o)[i]? = if o ≤ i ∧ i < o + ys.length then ys[i - o]? else xs[i]? := by
 unfold splice
 by_cases h1 : i < o
 ·rw [List.getElem?_append_left (by simp; omega), List.getElem?_take, if_pos h1, if_neg (by omega)]
 ·rw [List.getElem?_append_right (by simp; omega)]
  have e : (xs.take o).length = o := by simp; omega
  rw [e]
  by_cases h2 : i < o + ys.length
  ·rw [List.getElem?_append_left (by omega), if_pos (by omega)]
  ·rw [List.getElem?_append_right (by omega), List.getElem?_drop, if_neg (by omega)]
   congr 1; omega
def Hp.write (h : Hp) (b o : Nat) (ys : List V) : Option Hp :=
  match h.t.get b with
  | some (.cells f fb fz xs) => if o + ys.length ≤ xs.length ∧ fz ≤ o ∧ ys.all V.one = true then
      match h.kill b f (fb + o) with
      | some h' => some ⟨h'.next, h'.t.put (some (.cells f fb fz (splice xs ys o))) b, h'.fams, h'.els⟩
      | none => none
    else none
  | _ => none
theorem write_sound (H : Rel Γ N0 w0 ρ h w) {b o : Nat} {ys : List V} {us : List Value} {h' : Hp} (hs : h.write b o ys = some h') (hy : VRs ρ ys us) {L : Loc} (hL : ρ b = some L) :
    ∃ w', (storeCells ⟨L.b, L.base + o, none⟩ us).run P w = .ok () w' ∧ Rel Γ N0 w0 ρ h' w' ∧ w'.heap.size = w.heap.size := by
  unfold Hp.write at hs
  split at hs
  · rename_i f fb fz xs hg
    split at hs
    · rename_i hc
      obtain ⟨hlen, hfz, hone⟩ := hc
      split at hs
      · rename_i h1 hk
        simp only [Option.some.injEq] at hs; subst hs
        obtain ⟨f1, n1, s1, g1, e1, el1⟩ := kill_fam H.fam hk
        have H1 := H.sub n1 s1 f1 el1
        rw [hg] at g1
        obtain ⟨M, hM, hN, arr, el, fr, k1, k2, k3, k4, k5⟩ := (H.blk _ _ (some_ne (by assumption)) hg).ex
        rw [hL] at hM; simp only [Option.some.injEq] at hM; subst hM
        obtain ⟨w', arr', r1, r2, r3, r4, r5, r6, r7, r8, r9⟩ := run_storeCells (P := P) us (w := w) (arr := arr) (off := L.base + o) 0 k1 (by rw [← hy.1]; omega) (fun k q1 q2 hh => by
          rcases k5 k hh.1 hh.2 with q | q
          · omega
          · rw [← hy.1] at q2; omega) (hy.oneCells hone)
        rw [← hy.1] at r4
        refine ⟨w', r1, ?_, r6⟩
        have hget : ∀ a, (h1.t.put (some (.cells f fb fz (splice xs ys o))) b).get a = if a = b then some (.cells f fb fz (splice xs ys o)) else h1.t.get a := fun a => by rw [Tr.get_put]
        have hne : ∀ a x M, a ≠ b → h1.t.get a = some x → ρ a = some M → (∀ gb gz ys, x ≠ .cells f gb gz ys) → M.b ≠ L.b := by
          intro a x M hab hx hM hxc
          refine H1.sep a b x _ M L hx g1 hM hL ?_
          cases x with
          | cells f' gb gz zs => simp only [famOf]; intro e; exact hxc gb gz zs (by rw [e])
          | iter l p => simp only [famOf]; exact fun e => f1.own b f fb fz xs a _ g1 hx (fun _ _ _ _ hh => by cases hh) e.symm
          | mapo es c => simp only [famOf]; exact fun e => f1.own b f fb fz xs a _ g1 hx (fun _ _ _ _ hh => by cases hh) e.symm
        refine ⟨?_, H.hN0, H.glob, fun a ha => H1.fresh a ha, fun a M hM => by rw [r6]; exact H.lt a M hM, ?_, ?_, ?_, ?_, fun a e hne0 he => by
          obtain ⟨M, arr2, fr2, q1, q2, q3⟩ := H1.elk a e hne0 he
          by_cases hbb : M.b = L.b
          · rw [hbb, k1] at q2
            simp only [Option.some.injEq, Obj.cells.injEq] at q2
            obtain ⟨rfl, rfl, rfl⟩ := q2
            exact ⟨M, arr', fr, q1, by rw [hbb]; exact r2, by rw [r3]; exact q3⟩
          · exact ⟨M, arr2, fr2, q1, (r5 _ hbb).trans q2, q3⟩, H1.elt, H1.old, H.kept.step (fun c hc _ => r5 c (fun e => hc b _ L hg hL e.symm)) fun a x M hx hM => by
            simp only [hget] at hx
            by_cases e : a = b
            · subst e; exact .inl ⟨a, _, M, hg, hM, rfl⟩
            · rw [if_neg e] at hx; exact .inl ⟨a, x, M, s1 _ _ hx, hM, rfl⟩, H.pers.step rfl (fun c hc _ => r5 c (fun e => hc b _ L hg hL e.symm)) fun a x M hx hM => by
            simp only [hget] at hx
            by_cases e : a = b
            · subst e; exact .inl ⟨a, _, M, hg, hM, rfl⟩
            · rw [if_neg e] at hx; exact .inl ⟨a, x, M, s1 _ _ hx, hM, rfl⟩⟩
        · exact H.below.trans ⟨r7, r8, r9, by rw [r6]; exact Nat.le_refl _, fun k hk => r5 k (by omega)⟩
        · intro a x hne0 hx
          simp only [hget] at hx
          by_cases e : a = b
          · subst e
            rw [if_pos rfl] at hx; simp only [Option.some.injEq] at hx; subst hx
            refine ⟨L, hL, hN, arr', el, fr, r2, by rw [r3]; exact k2, by rw [splice_length hlen]; exact k3, fun i y u hyy hu => ?_, fun q q1 q2 => by rw [r3]; exact k5 q q1 q2⟩
            rw [splice_get hlen] at hyy
            rw [r4] at hu
            by_cases hi : o ≤ i ∧ i < o + ys.length
            · rw [if_pos hi] at hyy
              rw [if_pos (by omega), show L.base + i - (L.base + o + 0) = i - o by omega] at hu
              exact hy.2 _ _ _ hyy hu
            · rw [if_neg hi] at hyy
              rw [if_neg (by omega)] at hu
              exact k4 i y u hyy hu
          · rw [if_neg e] at hx
            obtain ⟨M, hM, hMN, hx2⟩ := (H1.blk a x hne0 hx).ex
            refine ⟨M, hM, hMN, ?_⟩
            cases x with
            | cells f' gb gz zs =>
              obtain ⟨arr2, el2, fr2, q1, q2, q3, q4, q5⟩ := hx2
              by_cases hbb : M.b = L.b
              · have hff : f' = f := by
                  apply Classical.byContradiction
                  intro hff
                  exact hne a _ M e hx hM (fun gb gz ys hh => by simp only [Blk.cells.injEq] at hh; exact hff hh.1) hbb
                subst hff
                rw [hbb, k1] at q1
                simp only [Option.some.injEq, Obj.cells.injEq] at q1
                obtain ⟨rfl, rfl, rfl⟩ := q1
                have hend := kill_ends f1 e1 hx e
                have hco := H1.same a b f' gb gz zs fb fz xs M L hx g1 hM hL hbb
                refine ⟨arr', el, fr, by rw [hbb]; exact r2, by rw [r3]; exact q2, q3, fun i y u hyy hu => ?_, fun q p1 p2 => by rw [r3]; exact q5 q p1 p2⟩
                have hil := (List.getElem?_eq_some_iff.1 hyy).1
                rw [r4, if_neg (by omega)] at hu
                exact q4 i y u hyy hu
              · exact ⟨arr2, el2, fr2, by rw [r5 _ hbb]; exact q1, q2, q3, q4, q5⟩
            | iter l p => obtain ⟨q, bs, hb, k⟩ := hx2; exact ⟨q, bs, hb, by rw [r5 _ (hne a _ M e hx hM (fun _ _ _ hh => by cases hh))]; exact k⟩
            | mapo es c =>
              obtain ⟨arr2, q⟩ := hx2
              exact ⟨arr2, by rw [r5 _ (hne a _ M e hx hM (fun _ _ _ hh => by cases hh))]; exact q⟩
        · intro a c x y M M' hx hy' hM hM' hff
          simp only [hget] at hx hy'
          have hx' : ∃ x', h1.t.get a = some x' ∧ famOf a x' = famOf a x := by
            by_cases e : a = b
            · subst e; rw [if_pos rfl] at hx; simp only [Option.some.injEq] at hx; subst hx; exact ⟨_, g1, rfl⟩
            · rw [if_neg e] at hx; exact ⟨x, hx, rfl⟩
          have hy2 : ∃ y', h1.t.get c = some y' ∧ famOf c y' = famOf c y := by
            by_cases e : c = b
            · subst e; rw [if_pos rfl] at hy'; simp only [Option.some.injEq] at hy'; subst hy'; exact ⟨_, g1, rfl⟩
            · rw [if_neg e] at hy'; exact ⟨y, hy', rfl⟩
          obtain ⟨x', hx1, hx2⟩ := hx'
          obtain ⟨y', hy1, hy3⟩ := hy2
          exact H1.sep a c x' y' M M' hx1 hy1 hM hM' (by rw [hx2, hy3]; exact hff)
        · intro a c f' gb gz zs gb' gz' zs' M M' hx hy' hM hM' hbb
          simp only [hget] at hx hy'
          have hx' : ∃ z q, h1.t.get a = some (.cells f' gb z q) := by
            by_cases e : a = b
            · subst e; rw [if_pos rfl] at hx; simp only [Option.some.injEq, Blk.cells.injEq] at hx; obtain ⟨rfl, rfl, _, _⟩ := hx; exact ⟨_, _, g1⟩
            · rw [if_neg e] at hx; exact ⟨_, _, hx⟩
          have hy2 : ∃ z q, h1.t.get c = some (.cells f' gb' z q) := by
            by_cases e : c = b
            · subst e; rw [if_pos rfl] at hy'; simp only [Option.some.injEq, Blk.cells.injEq] at hy'; obtain ⟨rfl, rfl, _, _⟩ := hy'; exact ⟨_, _, g1⟩
            · rw [if_neg e] at hy'; exact ⟨_, _, hy'⟩
          obtain ⟨z1, q1, hx1⟩ := hx'
          obtain ⟨z2, q2, hy1⟩ := hy2
          exact H1.same a c f' gb z1 q1 gb' z2 q2 M M' hx1 hy1 hM hM' hbb
        · refine ⟨?_, f1.sorted, ?_, ?_⟩
          · intro a f' gb gz zs ha
            simp only [hget] at ha
            by_cases e : a = b
            · subst e; rw [if_pos rfl] at ha; simp only [Option.some.injEq, Blk.cells.injEq] at ha; obtain ⟨rfl, rfl, rfl, rfl⟩ := ha
              rw [splice_length hlen]; exact f1.mem _ _ _ _ _ g1
            · rw [if_neg e] at ha; exact f1.mem a f' gb gz zs ha
          · intro a x ha
            simp only [hget] at ha
            by_cases e : a = b
            · subst e; rw [if_pos rfl] at ha; simp only [Option.some.injEq] at ha; subst ha; simpa [famOf] using f1.lt _ _ g1
            · rw [if_neg e] at ha; exact f1.lt a x ha
          · intro a f' gb gz zs c x ha hc' hx
            simp only [hget] at ha hc'
            have hc2 : h1.t.get c = some x := by
              by_cases e : c = b
              · subst e; rw [if_pos rfl] at hc'; simp only [Option.some.injEq] at hc'; exact absurd hc'.symm (hx _ _ _ _)
              · rw [if_neg e] at hc'; exact hc'
            by_cases e : a = b
            · subst e; rw [if_pos rfl] at ha; simp only [Option.some.injEq, Blk.cells.injEq] at ha; obtain ⟨rfl, _⟩ := ha; exact f1.own _ _ _ _ _ c x g1 hc2 hx
            · rw [if_neg e] at ha; exact f1.own a f' gb gz zs c x ha hc2 hx
      · cases hs
    · cases hs
  · cases hs
def opStore (P : Program) (h : Hp) (T : TypeId) (a v : V) : Option Hp :=
 match a, szOf P T with
 | .ptr b o, some n => if v.cells.length = n ∧ v.isAny = false then h.write b o v.cells else none
 | _, _ => none
theorem opStore_sound (H : Rel Γ N0 w0 ρ h w) {T : TypeId} {a v : V} {ua uv : Value} (ha : VR ρ a ua) (hv : VR ρ v uv) {h' : Hp} (hs : opStore P h T a v = some h') :
  ∃ w', (Instr.storeAt T ua uv).run P w = .ok () w' ∧ Rel Γ N0 w0 ρ h' w' := by
 unfold opStore at hs
 split at hs
 ·rename_i b o n hn
  split at hs
  ·rename_i hl
   obtain ⟨L, hL, rfl⟩ := ha.ptr_inv
   obtain ⟨w', r1, r2, _⟩ := write_sound (P := P) H hs (hv.cells hl.2) hL
   refine ⟨w', ?_, r2⟩
   have hsz : uv.cells.size = n := by have := (hv.cells hl.2).1; have := hl.1; simp at *; omega
   simp only [Instr.storeAt, Sem.run_bind, Instr.sureAddr, Sem.run_pure, Result.andThen_ok, storeVar, run_sizeOf hn, hsz]
   rw [if_neg (by simp)]
   exact r1
  ·cases hs
 ·cases hs
end
omit [E : Amb] in
theorem growBy_le (newLen : Nat) : ∀ (r c : Nat), c ≤ 2 * newLen + 192 → Builtin.growBy newLen r c ≤ 2 * newLen + 192 := by
 intro r
 induction r with
 | zero => intro c h; exact h
 | succ r ih =>
  intro c h
  simp only [Builtin.growBy]
  split
  ·exact h
  ·exact ih _ (by omega)
omit [E : Amb] in
theorem nextslicecap_le {need cap : Nat} (h : cap < need) : Builtin.nextslicecap need cap ≤ 2 * need + 192 := by
 unfold Builtin.nextslicecap
 split
 ·omega
 ·split
  ·omega
  ·exact growBy_le _ _ _ (by omega)
def zeroC (P : Program) (T : TypeId) : Option (List V) :=
 match P.info? T with
 | some i => match i.zero with
  | some z => mapC constC z.cells.toList
  | none => none
 | none => none
def bytesOf (P : Program) (T : TypeId) : Option Nat := (P.info? T).map (·.bytes)
def World.drew1 (w : World) : World := { w with drawn := w.drawn + 1 }
theorem run_zeroValue {P : Program} {w : World} {T : TypeId} {zs : List V} (h : zeroC P T = some zs) :
  ∃ z, (zeroValue T).run P w = .ok z w ∧ ∀ R, VRs R zs z.cells.toList := by
 unfold zeroC at h
 split at h
 ·rename_i i hi
  split at h
  ·rename_i z hz
   obtain ⟨h1, h2⟩ := mapC_get h
   refine ⟨z, ?_, fun R => ⟨by simpa using h1.symm, fun k y v hy hv => constC_sound (h2 k v y hv hy)⟩⟩
   simp only [zeroValue, Sem.run_bind, run_typeInfo hi, Result.andThen_ok, hz]; rfl
  ·cases h
 ·cases h
def plainArg (P : Program) (argTypes : Array TypeId) : Bool :=
 match argTypes[1]? with
 | some t => match P.underlying t with
  | some (.int _) => false
  | some _ => true
  | none => false
 | none => true
omit [E : Amb] in
theorem run_askRoom {P : Program} {w : World} (n : Nat) : (askRoom n).run P w = .ok () w := by
 unfold askRoom; split <;> rfl
omit [E : Amb] in
theorem run_appendCap {P : Program} {w : World} (need old : Nat) (e : TypeId) : (choose (.appendCap need old e)).run P w = .ok (need + w.tape w.drawn (.appendCap need old e) % (2 ^ 63 - need)) (World.drew1 w) := by
 simp [choose, Sem.run, Question.forced, Question.cut, World.drew1]
theorem append_run {P : Program} {w : World} {argTypes : Array TypeId} {T sT e : TypeId} {base : Option Addr} {len cap n sz by_ : Nat} {u : Value} {old new : Array Value} {zs : List V}
    (h0 : argTypes[0]? = some sT) (h1 : P.underlying sT = some (.slice e)) (hsz : szOf P e = some sz) (hby : bytesOf P e = some by_) (hz : zeroC P e = some zs)
    (hbp : 0 < by_) (hpl : plainArg P argTypes = true) (hlen : ∀ w, (Builtin.lenOf u).run P w = .ok n w) (hb : (2 * (len + n) + 192) * by_ ≤ 281474976710656)
    (hold : ∀ w', w'.heap = w.heap → (Builtin.firstCells sz len (.slice base len cap)).run P w' = .ok old w') (hnew : ∀ w', w'.heap = w.heap → (Builtin.firstCells sz n u).run P w' = .ok new w') :
    (¬ len + n ≤ cap → ∃ nc rest, len + n ≤ nc ∧ rest.size = (nc - (len + n)) * zs.length ∧
      (Builtin.append_ argTypes T #[.slice base len cap, u]).run P w = .ok (.slice (some ⟨w.heap.size, 0, none⟩) (len + n) nc) (World.new (World.drew1 w) (.cells (old ++ new ++ rest) e))) ∧
    (len + n ≤ cap → ∀ w', (match base with | some a => storeCells (a.add (len * sz)) new.toList | none => (pure () : Sem Unit)).run P w = .ok () w' →
      (Builtin.append_ argTypes T #[.slice base len cap, u]).run P w = .ok (.slice base (len + n) cap) w') := by
  have hpl' : argTypes[1]? = none ∨ ∃ t d, argTypes[1]? = some t ∧ P.underlying t = some d ∧ ∀ k, d ≠ .int k := by
    unfold plainArg at hpl
    split at hpl
    · rename_i t ht
      split at hpl
      · cases hpl
      · rename_i d hd hu
        exact .inr ⟨t, d, ht, hu, fun k e => by subst e; exact hd k rfl⟩
      · cases hpl
    · rename_i ht; exact .inl ht
  obtain ⟨i, hi, rfl⟩ : ∃ i, P.info? e = some i ∧ i.bytes = by_ := by simpa [bytesOf] using hby
  constructor
  · intro hnc
    have hnx : ¬ Builtin.nextslicecap (len + n) cap * i.bytes > 2 ^ 48 := by
      have := Nat.mul_le_mul_right i.bytes (nextslicecap_le (need := len + n) (cap := cap) (by omega))
      omega
    obtain ⟨z, hzr, hzs⟩ := run_zeroValue (P := P) (w := World.drew1 w) hz
    replace hzs := hzs Ren.nil
    replace hzs : z.cells.size = zs.length := by simpa using hzs.1.symm
    refine ⟨len + n + w.tape w.drawn (.appendCap (len + n) cap e) % (2 ^ 63 - (len + n)), Builtin.zeroCells z.cells (w.tape w.drawn (.appendCap (len + n) cap e) % (2 ^ 63 - (len + n))), Nat.le_add_right _ _, ?_, ?_⟩
    · rw [Nat.add_sub_cancel_left, ← hzs]; simp [Builtin.zeroCells]
    · have hneed : len + n ≤ 281474976710656 := by
        have := Nat.le_mul_of_pos_right (2 * (len + n) + 192) hbp
        omega
      have e1 : ¬ (((len + n : Nat) : Int) > IntKind.i64.max ∧ (False ∨ i.bytes = 0)) := by
        rintro ⟨h, _⟩
        have : IntKind.i64.max = 9223372036854775807 := rfl
        omega
      rcases hpl' with ht | ⟨t, d, ht, hu, hd⟩
      · unfold Builtin.append_
        simp only [h0, ht, List.getElem?_toArray, List.getElem?_cons_zero, List.getElem?_cons_succ, Sem.run_bind, run_underlying h1, Result.andThen_ok, run_sizeOf hsz, Sem.run_pure, Bool.false_eq_true, if_false, hlen]
        rw [if_neg hnc]
        simp only [Sem.run_bind, run_typeInfo hi, Result.andThen_ok]
        rw [if_neg e1]
        simp only [Sem.run_bind, run_typeInfo hi, Result.andThen_ok]
        rw [if_neg hnx]
        simp only [Sem.run_bind, run_appendCap, run_typeInfo hi, Result.andThen_ok, run_askRoom, hold (World.drew1 w) rfl, Bool.not_false, if_true, hnew (World.drew1 w) rfl, hzr, run_newRow, Nat.add_sub_cancel_left]
        rfl
      · unfold Builtin.append_
        simp only [h0, ht, List.getElem?_toArray, List.getElem?_cons_zero, List.getElem?_cons_succ, Sem.run_bind, run_underlying h1, run_underlying hu, Result.andThen_ok, run_sizeOf hsz]
        cases d <;> first
          | exact absurd rfl (hd _)
          | (simp only [Sem.run_bind, Sem.run_pure, Result.andThen_ok, Bool.false_eq_true, if_false, hlen]
             rw [if_neg hnc]
             simp only [Sem.run_bind, run_typeInfo hi, Result.andThen_ok]
             rw [if_neg e1]
             simp only [Sem.run_bind, run_typeInfo hi, Result.andThen_ok]
             rw [if_neg hnx]
             simp only [Sem.run_bind, run_appendCap, run_typeInfo hi, Result.andThen_ok, run_askRoom, hold (World.drew1 w) rfl, Bool.not_false, if_true, hnew (World.drew1 w) rfl, hzr, run_newRow, Nat.add_sub_cancel_left]
             rfl)
  · intro hc w' hst
    have fin : (match base with | some a => (storeCells (a.add (len * sz)) new.toList).run P w | none => .ok () w) = .ok () w' := by
      cases base with
      | none => exact hst
      | some a => exact hst
    rcases hpl' with ht | ⟨t, d, ht, hu, hd⟩
    · unfold Builtin.append_
      simp only [h0, ht, List.getElem?_toArray, List.getElem?_cons_zero, List.getElem?_cons_succ, Sem.run_bind, run_underlying h1, Result.andThen_ok, run_sizeOf hsz, Sem.run_pure, Bool.false_eq_true, if_false, hlen]
      rw [if_pos hc]
      simp only [Sem.run_bind, hnew w rfl, Result.andThen_ok, Bool.not_false, if_true]
      cases base with
      | none => simp only [Result.ok.injEq, true_and] at fin; subst fin; rfl
      | some a => simp only [Sem.run_bind] at fin ⊢; rw [fin]; rfl
    · unfold Builtin.append_
      simp only [h0, ht, List.getElem?_toArray, List.getElem?_cons_zero, List.getElem?_cons_succ, Sem.run_bind, run_underlying h1, run_underlying hu, Result.andThen_ok, run_sizeOf hsz]
      cases d <;> first
        | exact absurd rfl (hd _)
        | (simp only [Sem.run_bind, Sem.run_pure, Result.andThen_ok, Bool.false_eq_true, if_false, hlen]
           rw [if_pos hc]
           simp only [Sem.run_bind, hnew w rfl, Result.andThen_ok, Bool.not_false, if_true]
           cases base with
           | none => simp only [Result.ok.injEq, true_and] at fin; subst fin; rfl
           | some a => simp only [Sem.run_bind] at fin ⊢; rw [fin]; rfl)
omit [E : Amb] in
theorem drew1_below (w : World) (k : Nat) : Below k w (World.drew1 w) := ⟨rfl, rfl, rfl, Nat.le_refl _, fun _ _ => rfl⟩
def roomOk (need by_ : Nat) : Bool := decide ((2 * need + 192) * by_ ≤ 281474976710656)
def elemsOf (h : Hp) (sz : Nat) : V → Option (List V × Nat)
  | .nils => some ([], 0)
  | .sl a o n sz' => if sz' = sz then
      match n with
      | 0 => some ([], 0)
      | _ => match h.t.get a with
        | some (.cells _ _ _ xs) => if o + n * sz ≤ xs.length then some ((xs.drop o).take (n * sz), n) else none
        | _ => none
    else none
  | .str l => if sz = 1 then some (l.map fun c => .int .u8 c.toNat, l.length) else none
  | .pl n sz' cs => if sz' = sz then some (cs, n) else none
  | .sstr l => if sz = 1 then some (l, l.length) else none
  | _ => none
section
variable {P : Program} {Γ : Glob} {N0 : Nat} {w0 : Fr} {ρ : Ren} {h : Hp} {w : World}
omit [E : Amb] in
theorem firstCells_nil {sz : Nat} {a : Option Addr} {n c : Nat} (w' : World) : (Builtin.firstCells sz 0 (.slice a n c)).run P w' = .ok #[] w' := by
 cases a with
 | none => rfl
 | some a => simp [Builtin.firstCells, loadCells, loadCellsFrom]
theorem elemsOf_sound (H : Rel Γ N0 w0 ρ h w) {y : V} {u : Value} (hy : VR ρ y u) {sz k : Nat} {ys : List V} (he : elemsOf h sz y = some (ys, k)) :
    (∀ w' : World, (Builtin.lenOf u).run P w' = .ok k w') ∧ ys.length = k * sz ∧ ∃ us : List Value, (∀ w' : World, w'.heap = w.heap → (Builtin.firstCells sz k u).run P w' = .ok us.toArray w') ∧ VRs ρ ys us := by
  unfold elemsOf at he
  split at he
  · simp only [Option.some.injEq, Prod.mk.injEq] at he; obtain ⟨rfl, rfl⟩ := he
    cases hy
    exact ⟨fun _ => rfl, by simp, [], fun w' _ => rfl, .nil _⟩
  · rename_i a o n sz'
    split at he
    · rename_i hsz
      subst hsz
      split at he
      · simp only [Option.some.injEq, Prod.mk.injEq] at he; obtain ⟨rfl, rfl⟩ := he
        refine ⟨fun w' => ?_, by simp, [], fun w' _ => ?_, .nil _⟩
        · cases hy <;> rfl
        · cases hy <;> exact firstCells_nil _
      · rename_i hn
        split at he
        · rename_i f fb fz xs hg
          split at he
          · rename_i hle
            simp only [Option.some.injEq, Prod.mk.injEq] at he; obtain ⟨rfl, rfl⟩ := he
            cases hy with
            | sl0 => exact absurd rfl hn
            | sl _ _ _ _ c L hL hc hl =>
              obtain ⟨M, hM, hMN, arr, el, fr, k1, k2, k3, k4, k5⟩ := (H.blk _ _ (some_ne (by assumption)) hg).ex
              rw [hL] at hM; simp only [Option.some.injEq] at hM; subst hM
              obtain ⟨us, h1, h2, h3⟩ := cells_run (P := P) (ρ := ρ) (w := w) (b := L.b) (o := L.base + o) (n := n * sz') (cs := xs.drop o) (by simp; omega) (fun i y hy => by
                rw [drop_drop_get] at hy
                have hlt := (List.getElem?_eq_some_iff.1 hy).1
                have hv : arr[L.base + (o + i)]? = some (arr[L.base + (o + i)]'(by omega)) := by simp
                rw [cell_of_heap k1, Nat.add_assoc]
                exact ⟨_, hv, k4 _ _ _ hy hv⟩)
              exact ⟨fun _ => rfl, by simp; omega, us, fun w' hw => h2 w' hw, h3⟩
          · cases he
        · cases he
    · cases he
  · rename_i l
    split at he
    · rename_i hsz
      subst hsz
      simp only [Option.some.injEq, Prod.mk.injEq] at he; obtain ⟨rfl, rfl⟩ := he
      cases hy.str_inv
      refine ⟨fun w' => ?_, by simp, l.map fun c : UInt8 => Value.int .u8 c.toNat, fun w' _ => ?_, ?_⟩
      · show (pure (ByteArray.mk l.toArray).size : Sem Nat).run P w' = _
        have : (ByteArray.mk l.toArray).size = l.length := by show l.toArray.size = _; simp
        rw [this]; rfl
      · have e : ((ByteArray.mk l.toArray).extract 0 l.length).data.map (fun b => Value.int .u8 b.toNat) = (l.map fun c : UInt8 => Value.int .u8 c.toNat).toArray := by
          simp [ByteArray.data_extract]
        show (pure (((ByteArray.mk l.toArray).extract 0 l.length).data.map fun b => Value.int .u8 b.toNat) : Sem (Array Value)).run P w' = _
        rw [e]; rfl
      · refine ⟨by simp, fun i x u hx hu => ?_⟩
        simp only [List.getElem?_map, Option.map_eq_some_iff] at hx hu
        obtain ⟨c, hc, rfl⟩ := hx
        obtain ⟨d, hd, rfl⟩ := hu
        rw [hc] at hd; simp only [Option.some.injEq] at hd; subst hd
        exact .int _ _
    · cases he
  · rename_i n sz' cs
    split at he
    · rename_i hsz
      subst hsz
      simp only [Option.some.injEq, Prod.mk.injEq] at he; obtain ⟨rfl, rfl⟩ := he
      cases hy with
      | pl0 _ c y => exact ⟨fun _ => rfl, by simp, [], fun w' _ => firstCells_nil _, .nil _⟩
      | pl _ _ c b o _ m hm hcc hn hl hr =>
        obtain ⟨h1, _⟩ := H.pers b m hm
        obtain ⟨us, g1, g2, g3⟩ := cells_run (P := P) (ρ := ρ) (w := w) (b := b) (o := o) (n := n * sz') (cs := cs) (by omega) (fun i y hy => by
          have hlt := (List.getElem?_eq_some_iff.1 hy).1
          have hv : m.arr[o + i]? = some (m.arr[o + i]'(by omega)) := by simp
          rw [cell_of_heap h1]
          exact ⟨_, hv, (hr _ _ _ hy hv).ext (Ext.unbare fun _ _ e => e)⟩)
        rw [List.take_of_length_le (by omega)] at g3
        exact ⟨fun _ => rfl, hn, us, fun w' hw => g2 w' hw, g3⟩
    · cases he
  · rename_i xs
    split at he
    · rename_i hsz
      subst hsz
      simp only [Option.some.injEq, Prod.mk.injEq] at he; obtain ⟨rfl, rfl⟩ := he
      cases hy with
      | sstr _ l hn hr =>
      refine ⟨fun w' => ?_, by simp, l.map fun c : UInt8 => Value.int .u8 c.toNat, fun w' _ => ?_, ?_⟩
      · show (pure (ByteArray.mk l.toArray).size : Sem Nat).run P w' = _
        have : (ByteArray.mk l.toArray).size = xs.length := by show l.toArray.size = _; simp [hn]
        rw [this]; rfl
      · have e : ((ByteArray.mk l.toArray).extract 0 xs.length).data.map (fun b => Value.int .u8 b.toNat) = (l.map fun c : UInt8 => Value.int .u8 c.toNat).toArray := by
          rw [hn]; simp [ByteArray.data_extract]
        show (pure (((ByteArray.mk l.toArray).extract 0 xs.length).data.map fun b => Value.int .u8 b.toNat) : Sem (Array Value)).run P w' = _
        rw [e]; rfl
      · refine ⟨by simp [hn], fun i x u hx hu => ?_⟩
        simp only [List.getElem?_map, Option.map_eq_some_iff] at hu
        obtain ⟨d, hd, rfl⟩ := hu
        exact hr i x d hx hd
    · cases he
  · cases he
def headOk (n : Nat) : List (Nat × Nat) → Bool
 | [] => true
 | (_, e) :: _ => Nat.ble e n
def Hp.grownBy (h : Hp) (f nb nz : Nat) (xs : List V) : Option Hp :=
 match h.fams.get f with
 | some l => match headOk (nb + xs.length) l with
  | true => some ⟨h.next + 1, h.t.put (some (.cells f nb nz xs)) h.next, h.fams.put (some ((h.next, nb + xs.length) :: l)) f, h.els⟩
  | false => none
 | none => none
omit [E : Amb] in
theorem grownBy_fam (H : FamOk h) {h' : Hp} {f nb nz : Nat} {xs : List V} (hh : h.grownBy f nb nz xs = some h')
  (hf : f < h.next) (hno : ∀ x, h.t.get f = some x → ∃ fb fz ys g, x = .cells g fb fz ys) :
  FamOk h' ∧ h'.next = h.next + 1 ∧ (∀ b, h'.t.get b = if b = h.next then some (.cells f nb nz xs) else h.t.get b) ∧ h'.els = h.els := by
 unfold Hp.grownBy at hh
 split at hh
 ·rename_i l h1
  split at hh
  ·rename_i hd
   simp only [Option.some.injEq] at hh; subst hh
   have hml : ∀ q ∈ l, q.2 ≤ nb + xs.length := by
    intro q hq
    have hs := H.sorted f l h1
    cases l with
    | nil => cases hq
    | cons r l =>
     have hr := Nat.le_of_ble_eq_true hd
     rcases List.mem_cons.1 hq with e | hq
     ·rw [e]; exact hr
     ·have := (List.pairwise_cons.1 hs).1 q hq; exact Nat.le_trans this hr
   refine ⟨⟨?_, ?_, ?_, ?_⟩, rfl, fun b => by simp only [Tr.get_put], rfl⟩
   ·intro a f' fb fz ys ha
    simp only [Tr.get_put] at ha ⊢
    by_cases e : a = h.next
    ·subst e; simp at ha; obtain ⟨rfl, rfl, rfl, rfl⟩ := ha; exact ⟨(h.next, nb + xs.length) :: l, by simp, by simp⟩
    ·rw [if_neg e] at ha
     obtain ⟨m, k1, k2⟩ := H.mem a f' fb fz ys ha
     by_cases e' : f' = f
     ·subst e'; rw [h1] at k1; simp only [Option.some.injEq] at k1; subst k1
      exact ⟨(h.next, nb + xs.length) :: l, by simp, List.mem_cons_of_mem _ k2⟩
     ·exact ⟨m, by rw [if_neg e']; exact k1, k2⟩
   ·intro f' m hm
    simp only [Tr.get_put] at hm
    by_cases e' : f' = f
    ·subst e'; rw [if_pos rfl] at hm; simp only [Option.some.injEq] at hm; subst hm
     exact List.pairwise_cons.2 ⟨fun q hq => hml q hq, H.sorted f' l h1⟩
    ·rw [if_neg e'] at hm; exact H.sorted f' m hm
   ·intro a x ha
    simp only [Tr.get_put] at ha ⊢
    by_cases e : a = h.next
    ·subst e; simp at ha; subst ha; simp [famOf]; omega
    ·rw [if_neg e] at ha; have := H.lt a x ha; omega
   ·intro a f' fb fz ys b x ha hb hx
    simp only [Tr.get_put] at ha hb
    by_cases e : b = h.next
    ·subst e; simp at hb; subst hb; exact absurd rfl (hx _ _ _ _)
    ·rw [if_neg e] at hb
     by_cases e' : a = h.next
     ·subst e'; simp at ha; obtain ⟨rfl, _⟩ := ha
      intro hfb
      rw [← hfb] at hb
      obtain ⟨p1, p2, p3, p4, rfl⟩ := hno x hb
      exact hx _ _ _ _ rfl
     ·rw [if_neg e'] at ha; exact H.own a f' fb fz ys b x ha hb hx
  ·cases hh
 ·cases hh
def opAppend (P : Program) (h : Hp) (e : TypeId) (x y : V) : Option (V × Option Hp) :=
  match szOf P e, bytesOf P e, zeroC P e with
  | some sz, some by_, some zs => match elemsOf h sz y, elemsOf h sz x with
    | some (ys, k), some (os, m) =>
      if 0 < sz ∧ 0 < by_ ∧ zs.length = sz ∧ ys.all V.one = true ∧ roomOk (m + k) by_ = true then
        match x with
        | .nils => match k with
          | 0 => some (.nils, none)
          | _ => some (.sl h.next 0 k sz, some (h.new ys))
        | .sl a o n sz' =>
            match k with
            | 0 => some (.sl a o n sz', none)
            | _ => match h.t.get a with
              | some (.cells f fb fz xs) => if o + n * sz ≤ xs.length ∧ fz ≤ o + n * sz then
                  match h.kill h.next f (fb + (o + n * sz)) with
                  | some h1 => match h1.grownBy f (fb + o) (fz - o) (os ++ ys) with
                    | some h2 => some (.sl h.next 0 (n + k) sz, some h2)
                    | none => none
                  | none => none
                else none
              | _ => none
        | _ => none
      else none
    | _, _ => none
  | _, _, _ => none
omit [E : Amb] in
theorem elemsOf_sl {a o n sz sz' k : Nat} {ys : List V} (he : elemsOf h sz (.sl a o n sz') = some (ys, k)) : k = n ∧ sz' = sz ∧ (n ≠ 0 → ∃ f fb fz xs, h.t.get a = some (.cells f fb fz xs) ∧ ys = (xs.drop o).take (n * sz)) := by
 unfold elemsOf at he
 simp only at he
 split at he
 ·rename_i hsz
  split at he
  ·simp only [Option.some.injEq, Prod.mk.injEq] at he; exact ⟨he.2.symm, hsz, fun hn => absurd rfl hn⟩
  ·split at he
   ·rename_i f fb fz xs hg
    split at he
    ·simp only [Option.some.injEq, Prod.mk.injEq] at he; exact ⟨he.2.symm, hsz, fun _ => ⟨f, fb, fz, xs, hg, he.1.symm⟩⟩
    ·cases he
   ·cases he
 ·cases he
theorem inPlace (H : Rel Γ N0 w0 ρ h w) {h1 h2 : Hp} {a f fb fz o p : Nat} {xs new : List V} {us : List Value} {L : Loc} {w' : World} {arr arr' : Array Value} {el : TypeId} {fr : Nat × Nat}
    (hg : h.t.get a = some (.cells f fb fz xs)) (hL : ρ a = some L) (ho : o ≤ L.lim) (n1 : h1.next = h.next) (s1 : ∀ b x, h1.t.get b = some x → h.t.get b = some x) (f1 : FamOk h1) (el1 : h1.els = h.els) (el2 : h2.els = h1.els)
    (e1 : ∃ l, h1.fams.get f = some l ∧ ∀ b e, (b, e) ∈ l → b ≠ h.next → e ≤ fb + p)
    (f2 : FamOk h2) (n2 : h2.next = h1.next + 1) (g2 : ∀ b, h2.t.get b = if b = h1.next then some (.cells f (fb + o) (fz - o) new) else h1.t.get b)
    (k1 : w.heap[L.b]? = some (.cells arr el fr)) (r2 : w'.heap[L.b]? = some (.cells arr' el fr)) (r3 : arr'.size = arr.size)
    (r4 : ∀ k, arr'[k]? = if L.base + p ≤ k ∧ k < L.base + p + us.length then us[k - (L.base + p)]? else arr[k]?)
    (r5 : ∀ b', b' ≠ L.b → w'.heap[b']? = w.heap[b']?) (r6 : w'.heap.size = w.heap.size) (r7 : w'.os = w.os) (r8 : w'.tape = w.tape) (r9 : w'.output = w.output)
    (hlim : o + new.length ≤ L.lim) (hnew : ∀ (i : Nat) y u, new[i]? = some y → arr'[L.base + o + i]? = some u → VR ρ y u) :
    Rel Γ N0 w0 (setR ρ h.next ⟨L.b, L.base + o, L.lim - o⟩) h2 w' := by
  have H1 := H.sub n1 s1 f1 el1
  have hfree := H.fresh h.next (Nat.le_refl _)
  have he := setR_ext (ρ := ρ) (L := ⟨L.b, L.base + o, L.lim - o⟩) hfree
  have hold : ∀ b M, b ≠ h.next → setR ρ h.next ⟨L.b, L.base + o, L.lim - o⟩ b = some M → ρ b = some M := fun b M hb hM => by simpa [setR, hb] using hM
  obtain ⟨M0, hM0, hN, arr0, el0, fr0, q1, k2, k3, k4, k5⟩ := (H.blk _ _ (some_ne (by assumption)) hg).ex
  rw [hL] at hM0; simp only [Option.some.injEq] at hM0; subst hM0
  rw [k1] at q1; simp only [Option.some.injEq, Obj.cells.injEq] at q1; obtain ⟨rfl, rfl, rfl⟩ := q1
  have hnx : ∀ b x, h1.t.get b = some x → b ≠ h.next := fun b x hx => by have := (f1.lt b x hx).1; omega
  rw [n1] at g2
  have hne : ∀ c x M, h1.t.get c = some x → ρ c = some M → (∀ gb gz ys, x ≠ .cells f gb gz ys) → M.b ≠ L.b := by
    intro c x M hx hM hxc
    refine H.sep c a x _ M L (s1 _ _ hx) hg hM hL ?_
    cases x with
    | cells f' gb gz zs => simp only [famOf]; intro e; exact hxc gb gz zs (by rw [e])
    | iter l p => simp only [famOf]; exact fun e => H.fam.own a f fb fz xs c _ hg (s1 _ _ hx) (fun _ _ _ _ hh => by cases hh) e.symm
    | mapo es c' => simp only [famOf]; exact fun e => H.fam.own a f fb fz xs c _ hg (s1 _ _ hx) (fun _ _ _ _ hh => by cases hh) e.symm
  refine ⟨?_, H.hN0, H.glob, ?_, ?_, ?_, ?_, ?_, f2, fun c e hne0 hce => by
    rw [el2] at hce
    have hcl := H1.elt c e hce
    rw [n1] at hcl
    have hne1 : ρ c ≠ none := by simp only [setR] at hne0; rw [if_neg (by omega)] at hne0; exact hne0
    obtain ⟨M, arr2, fr2, q1, q2, q3⟩ := H1.elk c e hne1 hce
    by_cases hbb : M.b = L.b
    · rw [hbb, k1] at q2
      simp only [Option.some.injEq, Obj.cells.injEq] at q2
      obtain ⟨rfl, rfl, rfl⟩ := q2
      exact ⟨M, arr', fr, he c M q1, by rw [hbb]; exact r2, by rw [r3]; exact q3⟩
    · exact ⟨M, arr2, fr2, he c M q1, (r5 _ hbb).trans q2, q3⟩,
    fun c e hce => by rw [el2] at hce; have := H1.elt c e hce; omega,
    ⟨by have := H.old.1; omega, fun c hc => by have := H.old.1; simp only [setR]; rw [if_neg (by omega)]; exact H.old.2 c hc⟩,
    H.kept.step (fun c hc _ => r5 c (fun e => hc a _ L hg hL e.symm)) fun c x M hx hM => by
      rw [g2] at hx
      by_cases e : c = h.next
      · subst e; simp [setR] at hM; subst hM; exact .inl ⟨a, _, L, hg, hL, rfl⟩
      · rw [if_neg e] at hx; exact .inl ⟨c, x, M, s1 _ _ hx, hold c M e hM, rfl⟩, H.pers.step rfl (fun c hc _ => r5 c (fun e => hc a _ L hg hL e.symm)) fun c x M hx hM => by
      rw [g2] at hx
      by_cases e : c = h.next
      · subst e; simp [setR] at hM; subst hM; exact .inl ⟨a, _, L, hg, hL, rfl⟩
      · rw [if_neg e] at hx; exact .inl ⟨c, x, M, s1 _ _ hx, hold c M e hM, rfl⟩⟩
  · exact H.below.trans ⟨r7, r8, r9, by rw [r6]; exact Nat.le_refl _, fun k hk => r5 k (by omega)⟩
  · intro b hb
    simp only [setR]; rw [if_neg (by omega)]; exact H.fresh b (by omega)
  · intro b M hM
    rw [r6]
    by_cases e : b = h.next
    · subst e; simp [setR] at hM; subst hM; exact H.lt a L hL
    · exact H.lt b M (hold b M e hM)
  · intro c x hne0 hx
    rw [g2] at hx
    by_cases e : c = h.next
    · subst e
      rw [if_pos rfl] at hx; simp only [Option.some.injEq] at hx; subst hx
      refine ⟨⟨L.b, L.base + o, L.lim - o⟩, by simp [setR], hN, arr', el, fr, r2, ?_, ?_, fun i y u hy hu => (hnew i y u hy hu).ext he, fun q q1 q2 => ?_⟩
      · show arr'.size = L.base + o + (L.lim - o); rw [r3, k2]; omega
      · show new.length ≤ L.lim - o; omega
      · rw [r3]
        rcases k5 q q1 q2 with h' | h'
        · left; show q < L.base + o + (fz - o); omega
        · exact .inr h'
    · rw [if_neg e] at hx
      have hne1 : ρ c ≠ none := by simp only [setR] at hne0; rw [if_neg e] at hne0; exact hne0
      refine BlkR.ext ?_ he
      obtain ⟨M, hM, hMN, hx2⟩ := (H1.blk c x hne1 hx).ex
      refine ⟨M, hM, hMN, ?_⟩
      cases x with
      | cells f' gb gz zs =>
        obtain ⟨arr2, el2, fr2, q1, q2, q3, q4, q5⟩ := hx2
        by_cases hbb : M.b = L.b
        · have hff : f' = f := by
            apply Classical.byContradiction
            intro hff
            exact hne c _ M hx hM (fun gb gz ys hh => by simp only [Blk.cells.injEq] at hh; exact hff hh.1) hbb
          subst hff
          rw [hbb, k1] at q1
          simp only [Option.some.injEq, Obj.cells.injEq] at q1
          obtain ⟨rfl, rfl, rfl⟩ := q1
          have hend := kill_ends f1 e1 hx e
          have hco := H.same c a f' gb gz zs fb fz xs M L (s1 _ _ hx) hg hM hL hbb
          refine ⟨arr', el, fr, by rw [hbb]; exact r2, by rw [r3]; exact q2, q3, fun i y u hyy hu => ?_, fun q p1 p2 => by rw [r3]; exact q5 q p1 p2⟩
          have hil := (List.getElem?_eq_some_iff.1 hyy).1
          rw [r4, if_neg (by omega)] at hu
          exact q4 i y u hyy hu
        · exact ⟨arr2, el2, fr2, by rw [r5 _ hbb]; exact q1, q2, q3, q4, q5⟩
      | iter l p => obtain ⟨q, bs, hb, k⟩ := hx2; exact ⟨q, bs, hb, by rw [r5 _ (hne c _ M hx hM (fun _ _ _ hh => by cases hh))]; exact k⟩
      | mapo es c' =>
        obtain ⟨arr2, q⟩ := hx2
        exact ⟨arr2, by rw [r5 _ (hne c _ M hx hM (fun _ _ _ hh => by cases hh))]; exact q⟩
  · intro b c x y M M' hx hy hM hM' hff
    rw [g2] at hx hy
    by_cases e : b = h.next <;> by_cases e' : c = h.next
    · subst e; subst e'; rw [if_pos rfl] at hx hy; rw [hx] at hy; simp only [Option.some.injEq] at hy; subst hy; exact absurd rfl hff
    · subst e
      rw [if_pos rfl] at hx; simp only [Option.some.injEq] at hx; subst hx
      simp [setR] at hM; subst hM
      rw [if_neg e'] at hy
      exact H.sep a c _ y L M' hg (s1 _ _ hy) hL (hold c M' e' hM') hff
    · subst e'
      rw [if_pos rfl] at hy; simp only [Option.some.injEq] at hy; subst hy
      simp [setR] at hM'; subst hM'
      rw [if_neg e] at hx
      exact H.sep b a x _ M L (s1 _ _ hx) hg (hold b M e hM) hL hff
    · rw [if_neg e] at hx; rw [if_neg e'] at hy
      exact H.sep b c x y M M' (s1 _ _ hx) (s1 _ _ hy) (hold b M e hM) (hold c M' e' hM') hff
  · intro b c f' gb gz zs gb' gz' zs' M M' hx hy hM hM' hbb
    rw [g2] at hx hy
    by_cases e : b = h.next <;> by_cases e' : c = h.next
    · subst e; subst e'; rw [if_pos rfl] at hx hy; rw [hx] at hy
      simp only [Option.some.injEq, Blk.cells.injEq] at hy
      obtain ⟨_, rfl, _, _⟩ := hy
      rw [hM] at hM'; simp only [Option.some.injEq] at hM'; subst hM'; rfl
    · subst e
      rw [if_pos rfl] at hx; simp only [Option.some.injEq, Blk.cells.injEq] at hx; obtain ⟨rfl, rfl, _, _⟩ := hx
      simp [setR] at hM; subst hM
      rw [if_neg e'] at hy
      have := H.same a c f fb fz xs gb' gz' zs' L M' hg (s1 _ _ hy) hL (hold c M' e' hM') hbb
      show L.base + o + gb' = M'.base + (fb + o); omega
    · subst e'
      rw [if_pos rfl] at hy; simp only [Option.some.injEq, Blk.cells.injEq] at hy; obtain ⟨rfl, rfl, _, _⟩ := hy
      simp [setR] at hM'; subst hM'
      rw [if_neg e] at hx
      have := H.same b a f gb gz zs fb fz xs M L (s1 _ _ hx) hg (hold b M e hM) hL hbb
      show M.base + (fb + o) = L.base + o + gb; omega
    · rw [if_neg e] at hx; rw [if_neg e'] at hy
      exact H.same b c f' gb gz zs gb' gz' zs' M M' (s1 _ _ hx) (s1 _ _ hy) (hold b M e hM) (hold c M' e' hM') hbb
def Good (Γ : Glob) (N0 : Nat) (w0 : Fr) (ρ : Ren) (h : Hp) (x : V) (h' : Option Hp) (r : Result Value) : Prop :=
 ∃ u w' ρ', r = .ok u w' ∧ Ext ρ ρ' ∧ Rel Γ N0 w0 ρ' (h'.getD h) w' ∧ VR ρ' x u
def ElOk (h : Hp) (e : TypeId) (x : V) (h' : Option Hp) (ρ' : Ren) (w' : World) : Prop :=
 ∀ h2, h' = some h2 → ∃ L arr el fr, ρ' h.next = some L ∧ w'.heap[L.b]? = some (.cells arr el fr) ∧ ((el = e ∧ FrOk fr arr.size) ∨ ∃ a o n sz, x = .sl a o n sz ∧ ∀ e0, h.els.get a = some e0 → el = e0 / 2 ∧ FrOk fr arr.size)
theorem opAppend_sound (H : Rel Γ N0 w0 ρ h w) {e : TypeId} {x y v : V} {ux uy : Value} {h' : Option Hp} {argTypes : Array TypeId} {T sT : TypeId} (hx : VR ρ x ux) (hy : VR ρ y uy)
    (h0 : argTypes[0]? = some sT) (h1 : P.underlying sT = some (.slice e)) (hpl : plainArg P argTypes = true) (hs : opAppend P h e x y = some (v, h')) :
    ∃ u w' ρ', (Builtin.append_ argTypes T #[ux, uy]).run P w = .ok u w' ∧ Ext ρ ρ' ∧ Rel Γ N0 w0 ρ' (h'.getD h) w' ∧ VR ρ' v u ∧ ElOk h e x h' ρ' w' := by
  unfold opAppend at hs
  split at hs
  · rename_i sz by_ zs hsz hby hzs
    split at hs
    · rename_i ys k os m hel helx
      split at hs
      · rename_i hc
        obtain ⟨hp, hbp, hzl, hone, hroom⟩ := hc
        have hroom' : (2 * (m + k) + 192) * by_ ≤ 281474976710656 := of_decide_eq_true hroom
        obtain ⟨hlenU, hyl, us, hnewU, hVs⟩ := elemsOf_sound (P := P) H hy hel
        obtain ⟨_, hol, old, holdU, hOld⟩ := elemsOf_sound (P := P) H hx helx
        have husl : us.length = k * sz := by rw [← hVs.1]; exact hyl
        have holdl : old.length = m * sz := by rw [← hOld.1]; exact hol
        have hall := hOld.append hVs
        have halll : (old ++ us).length = (m + k) * sz := by rw [List.length_append, husl, holdl, ← Nat.add_mul]
        have hexp : (m + k) * sz = m * sz + k * sz := Nat.add_mul _ _ _
        -- in a new block
        have realloc : ∀ (base : Option Addr) (c : Nat), ux = .slice base m c → c < m + k → ∃ nc rest, m + k ≤ nc ∧ (old.toArray ++ us.toArray ++ rest).size = nc * sz ∧
            (∀ (i : Nat) z u, (os ++ ys)[i]? = some z → (old.toArray ++ us.toArray ++ rest)[i]? = some u → VR ρ z u) ∧
            (Builtin.append_ argTypes T #[ux, uy]).run P w = .ok (.slice (some ⟨w.heap.size, 0, none⟩) (m + k) nc) (World.new (World.drew1 w) (.cells (old.toArray ++ us.toArray ++ rest) e)) := by
          intro base c hux hc
          subst hux
          obtain ⟨g1, _⟩ := append_run (P := P) (w := w) (T := T) (base := base) (len := m) (cap := c) h0 h1 hsz hby hzs hbp hpl hlenU hroom' holdU hnewU
          obtain ⟨nc, rest, hnc, hrest, hrun⟩ := g1 (by omega)
          refine ⟨nc, rest, hnc, ?_, fun i z u hz hu => ?_, hrun⟩
          · simp [husl, holdl, hrest, hzl]; rw [← Nat.add_mul, ← Nat.add_mul]; congr 1; omega
          · have hi := (List.getElem?_eq_some_iff.1 hz).1
            have hi2 : i < (old ++ us).length := by rw [← hall.1]; exact hi
            refine hall.2 i z u hz ?_
            have e1 : old.toArray ++ us.toArray = (old ++ us).toArray := by simp
            rw [e1, Array.getElem?_append_left (by simpa using hi2)] at hu
            simpa using hu
        split at hs
        · -- a nil slice
          have hm : m = 0 ∧ os = [] := by simp [elemsOf] at helx; exact ⟨helx.2.symm, helx.1⟩
          obtain ⟨rfl, rfl⟩ := hm
          cases hx
          split at hs
          · simp only [Option.some.injEq, Prod.mk.injEq] at hs; obtain ⟨rfl, rfl⟩ := hs
            obtain ⟨_, g2⟩ := append_run (P := P) (w := w) (T := T) (base := none) (len := 0) (cap := 0) h0 h1 hsz hby hzs hbp hpl hlenU hroom' (fun w' _ => firstCells_nil w') hnewU
            exact ⟨_, _, ρ, g2 (Nat.le_refl _) w rfl, .refl _, H, .nils, fun h2 hh => by cases hh⟩
          · rename_i hk
            simp only [Option.some.injEq, Prod.mk.injEq] at hs; obtain ⟨rfl, rfl⟩ := hs
            obtain ⟨nc, rest, q1, q2, q3, q4⟩ := realloc none 0 rfl (by rw [Nat.zero_add]; exact Nat.pos_of_ne_zero fun e => hk e)
            simp only [Nat.zero_add] at q1 q4
            have hle : k * sz ≤ nc * sz := Nat.mul_le_mul_right _ q1
            refine ⟨_, _, setR ρ h.next ⟨w.heap.size, 0, (old.toArray ++ us.toArray ++ rest).size⟩, q4, setR_ext (H.fresh _ (Nat.le_refl _)), (H.drawn (w.drawn + 1)).newCells (by rw [q2, hyl]; exact hle) (fun o p1 p2 => by simp at p2) q3, ?_, fun h2 _ => ⟨_, _, e, (0, 0), if_pos rfl, new_heap_new (World.drew1 w) _, .inl ⟨rfl, .inl rfl⟩⟩⟩
            exact .sl h.next 0 k sz nc ⟨w.heap.size, 0, (old.toArray ++ us.toArray ++ rest).size⟩ (if_pos rfl) q1 (by simp only [Nat.zero_add]; rw [q2]; exact Nat.le_refl _)
        · rename_i a o n sz'
          obtain ⟨rfl, rfl, hcon⟩ := elemsOf_sl helx
          have hxs : ∃ base c, ux = .slice base m c ∧ m ≤ c := by cases hx <;> exact ⟨_, _, rfl, by omega⟩
          split at hs
          · simp only [Option.some.injEq, Prod.mk.injEq] at hs; obtain ⟨rfl, rfl⟩ := hs
            obtain rfl : us = [] := by cases us with | nil => rfl | cons _ _ => simp at husl
            obtain ⟨base, c, rfl, hmc⟩ := hxs
            obtain ⟨_, g2⟩ := append_run (P := P) (w := w) (T := T) (base := base) (len := m) (cap := c) h0 h1 hsz hby hzs hbp hpl hlenU hroom' holdU hnewU
            exact ⟨_, _, ρ, g2 hmc w (by cases base <;> simp [storeCells]), .refl _, H, hx, fun h2 hh => by cases hh⟩
          · rename_i hk
            have hk' : k ≠ 0 := fun e => hk e
            split at hs
            · rename_i f fb fz xs hg
              split at hs
              · rename_i hc
                obtain ⟨hle, hfz⟩ := hc
                split at hs
                · rename_i hh1 hkill
                  split at hs
                  · rename_i hh2 hgrow
                    simp only [Option.some.injEq, Prod.mk.injEq] at hs; obtain ⟨rfl, rfl⟩ := hs
                    obtain ⟨f1, n1, s1, _, e1, el1⟩ := kill_fam H.fam hkill
                    have hff := (H.fam.lt _ _ hg).2
                    simp only [famOf] at hff
                    obtain ⟨f2, n2, g2, el2⟩ := grownBy_fam f1 hgrow (by omega) (fun x hx => by
                      cases x with
                      | cells g fb fz ys => exact ⟨_, _, _, _, rfl⟩
                      | iter l p => exact absurd rfl (H.fam.own a f fb fz xs f _ hg (s1 _ _ hx) (fun _ _ _ _ hh => by cases hh))
                      | mapo es c => exact absurd rfl (H.fam.own a f fb fz xs f _ hg (s1 _ _ hx) (fun _ _ _ _ hh => by cases hh)))
                    have fin1 : ∀ (base : Option Addr) (c : Nat), ux = .slice base m c → c < m + k → ∃ u w' ρ', (Builtin.append_ argTypes T #[ux, uy]).run P w = .ok u w' ∧ Ext ρ ρ' ∧ Rel Γ N0 w0 ρ' hh2 w' ∧ VR ρ' (.sl h.next 0 (m + k) sz') u ∧ ElOk h e (.sl a o m sz') (some hh2) ρ' w' := by
                      intro base c hux hcl
                      obtain ⟨nc, rest, q1, q2, q3, q4⟩ := realloc base c hux hcl
                      have hle2 : (m + k) * sz' ≤ nc * sz' := Nat.mul_le_mul_right _ q1
                      have H1 := ((H.sub n1 s1 f1 el1).drawn (w.drawn + 1))
                      refine ⟨_, _, setR ρ h.next ⟨w.heap.size, 0, nc * sz'⟩, q4, setR_ext (H.fresh _ (Nat.le_refl _)), ?_, .sl _ _ _ _ _ ⟨w.heap.size, 0, nc * sz'⟩ (by simp [setR]) q1 (by simp), fun h2 _ => ⟨⟨w.heap.size, 0, nc * sz'⟩, _, e, (0, 0), if_pos rfl, new_heap_new (World.drew1 w) _, .inl ⟨rfl, .inl rfl⟩⟩⟩
                      have := H1.newBlk (Nat.le_trans H.hN0 H.below.size) (x := .cells f (fb + o) (fz - o) (os ++ ys)) (h' := hh2) (L := ⟨w.heap.size, 0, nc * sz'⟩) (w' := World.new (World.drew1 w) (.cells (old.toArray ++ us.toArray ++ rest) e)) (by rw [n2]) g2 (new_below _ _) rfl (by rw [new_size]; exact Nat.lt_succ_self _) ?_ f2 el2
                      · rw [n1] at this; exact this
                      · rw [n1]
                        refine ⟨⟨w.heap.size, 0, nc * sz'⟩, by simp [setR], Nat.le_trans H.hN0 H.below.size, _, e, (0, 0), new_heap_new _ _, by simp only [Nat.zero_add]; exact q2, ?_, fun i z u hz hu => ?_, fun q q1 q2 => by simp at q2⟩
                        · show (os ++ ys).length ≤ nc * sz'
                          rw [hall.1, halll]; exact hle2
                        · rw [Nat.zero_add] at hu
                          exact (q3 i z u hz hu).ext (setR_ext (H.fresh _ (Nat.le_refl _)))
                    cases hx with
                    | sl0 _ _ _ q => exact fin1 (some q) 0 rfl (by omega)
                    | sl _ _ _ _ c L hL hcc hl =>
                      obtain ⟨M, hM, hMN, arr, el, fr, k1, k2, k3, k4, k5⟩ := (H.blk _ _ (some_ne hL) hg).ex
                      rw [hL] at hM; simp only [Option.some.injEq] at hM; subst hM
                      by_cases hfit : m + k ≤ c
                      · -- in its own block
                        have hcl : (m + k) * sz' ≤ c * sz' := Nat.mul_le_mul_right _ hfit
                        obtain ⟨w', arr', r1, r2, r3, r4, r5, r6, r7, r8, r9⟩ := run_storeCells (P := P) us (w := w) (arr := arr) (off := L.base + o + m * sz') 0 k1 (by omega) (fun q q1 q2 hh => by
                          rcases k5 q hh.1 hh.2 with q' | q'
                          · omega
                          · omega) (hVs.oneCells hone)
                        obtain ⟨_, gg⟩ := append_run (P := P) (w := w) (T := T) (base := some ⟨L.b, L.base + o, none⟩) (len := m) (cap := c) h0 h1 hsz hby hzs hbp hpl hlenU hroom' holdU hnewU
                        have hrun := gg hfit w' (by simp only [add_none]; exact r1)
                        refine ⟨_, w', setR ρ h.next ⟨L.b, L.base + o, L.lim - o⟩, hrun, setR_ext (H.fresh _ (Nat.le_refl _)), ?_, ?_, fun h2 _ => ⟨⟨L.b, L.base + o, L.lim - o⟩, arr', el, fr, if_pos rfl, r2, .inr ⟨a, o, m, sz', rfl, fun e0 he0 => by
                          obtain ⟨L0, arr0, fr0, z1, z2, z3⟩ := H.elk a e0 (some_ne hL) he0
                          rw [hL] at z1; simp only [Option.some.injEq] at z1; subst z1
                          rw [k1] at z2; simp only [Option.some.injEq, Obj.cells.injEq] at z2
                          obtain ⟨rfl, rfl, rfl⟩ := z2
                          exact ⟨rfl, by rw [r3]; exact z3.1⟩⟩⟩⟩
                        · refine inPlace H (p := o + m * sz') (us := us) (new := os ++ ys) (arr := arr) (arr' := arr') (el := el) (fr := fr) hg hL (by omega) n1 s1 f1 el1 el2 e1 f2 n2 g2 k1 r2 r3 (fun q => ?_) r5 r6 r7 r8 r9 (by rw [hall.1, halll]; omega) (fun i z u hz hu => ?_)
                          · rw [r4 q, Nat.add_zero, Nat.add_assoc]
                          · rw [r4] at hu
                            by_cases hi : i < os.length
                            · rw [List.getElem?_append_left hi] at hz
                              rw [if_neg (by omega)] at hu
                              have hm0 : m ≠ 0 := by intro e; subst e; simp at hol; subst hol; simp at hi
                              obtain ⟨f', fb', fz', xs', hg', hos⟩ := hcon hm0
                              rw [hg] at hg'; simp only [Option.some.injEq, Blk.cells.injEq] at hg'; obtain ⟨rfl, rfl, rfl, rfl⟩ := hg'
                              rw [hos, List.getElem?_take, if_pos (by omega), drop_drop_get] at hz
                              exact k4 (o + i) z u hz (by rw [← Nat.add_assoc]; exact hu)
                            · rw [List.getElem?_append_right (by omega)] at hz
                              have hil := (List.getElem?_eq_some_iff.1 hz).1
                              rw [if_pos (by omega)] at hu
                              refine hVs.2 (i - os.length) z u hz ?_
                              rw [← hu]; congr 1; omega
                        · refine .sl _ _ _ _ _ ⟨L.b, L.base + o, L.lim - o⟩ (by simp [setR]) hfit ?_
                          show 0 + c * sz' ≤ L.lim - o; omega
                      · exact fin1 _ _ rfl (by omega)
                  · cases hs
                · cases hs
              · cases hs
            · cases hs
        · cases hs
      · cases hs
    · cases hs
  · cases hs
def Hp.withEl (h : Hp) (a e : Nat) : Hp := { h with els := h.els.put (some e) a }
theorem Rel.withEl (H : Rel Γ N0 w0 ρ h w) {a e : Nat} {L : Loc} {arr : Array Value} {fr : Nat × Nat} (hL : ρ a = some L) (hb : w.heap[L.b]? = some (.cells arr (e / 2) fr)) (hfr : FrOk fr arr.size) (hbase : e % 2 = 1 → L.base = 0) : Rel Γ N0 w0 ρ (h.withEl a e) w where
 below := H.below
 hN0 := H.hN0
 glob := H.glob
 fresh := H.fresh
 lt := H.lt
 blk := H.blk
 sep := H.sep
 same := H.same
 fam := ⟨H.fam.mem, H.fam.sorted, H.fam.lt, H.fam.own⟩
 elk := fun b e' hne he => by
  simp only [Hp.withEl, Tr.get_put] at he
  by_cases hba : b = a
  ·subst hba; rw [if_pos rfl] at he; simp only [Option.some.injEq] at he; subst he; exact ⟨L, arr, fr, hL, hb, hfr, hbase⟩
  ·rw [if_neg hba] at he; exact H.elk b e' hne he
 elt := fun b e' he => by
  simp only [Hp.withEl, Tr.get_put] at he
  show b < h.next
  by_cases hba : b = a
  ·subst hba
   rcases Nat.lt_or_ge b h.next with hh | hh
   ·exact hh
   ·rw [H.fresh b hh] at hL; cases hL
  ·rw [if_neg hba] at he; exact H.elt b e' he
 old := H.old
 kept := H.kept
 pers := H.pers
def opAppendE (P : Program) (h : Hp) (e : TypeId) (x y : V) : Option (V × Option Hp) :=
 match opAppend P h e x y with
 | some (v, some h2) => match x with
  | .nils => some (v, some (h2.withEl h.next (2 * e)))
  | .sl a _ _ _ => match h.els.get a with
   | some e0 => if e0 / 2 = e then some (v, some (h2.withEl h.next (2 * e))) else some (v, some h2)
   | none => some (v, some h2)
  | _ => none
 | r => r
theorem opAppendE_sound (H : Rel Γ N0 w0 ρ h w) {e : TypeId} {x y v : V} {ux uy : Value} {h' : Option Hp} {argTypes : Array TypeId} {T sT : TypeId} (hx : VR ρ x ux) (hy : VR ρ y uy)
  (h0 : argTypes[0]? = some sT) (h1 : P.underlying sT = some (.slice e)) (hpl : plainArg P argTypes = true) (hs : opAppendE P h e x y = some (v, h')) :
  Good Γ N0 w0 ρ h v h' ((Builtin.append_ argTypes T #[ux, uy]).run P w) := by
 unfold opAppendE at hs
 cases ha : opAppend P h e x y with
 | none => rw [ha] at hs; cases hs
 | some r =>
  obtain ⟨v1, h1'⟩ := r
  obtain ⟨u, w', ρ', g1, g2, g3, g4, g5⟩ := opAppend_sound (T := T) H hx hy h0 h1 hpl ha
  rw [ha] at hs
  cases h1' with
  | none =>
   simp only [Option.some.injEq, Prod.mk.injEq] at hs; obtain ⟨rfl, rfl⟩ := hs
   exact ⟨u, w', ρ', g1, g2, g3, g4⟩
  | some h2 =>
   obtain ⟨L, arr, el, fr, q1, q2, q3⟩ := g5 h2 rfl
   simp only at hs
   split at hs
   ·simp only [Option.some.injEq, Prod.mk.injEq] at hs; obtain ⟨rfl, rfl⟩ := hs
    have : el = e ∧ FrOk fr arr.size := by rcases q3 with q3 | ⟨a, o, n, sz, hh, _⟩; exact q3; cases hh
    obtain ⟨rfl, hfr⟩ := this
    exact ⟨u, w', ρ', g1, g2, Rel.withEl g3 q1 (by rw [Nat.mul_div_cancel_left _ (by omega)]; exact q2) hfr (fun hh => by omega), g4⟩
   ·rename_i a o n sz
    split at hs
    ·rename_i e0 he0
     split at hs
     ·rename_i hee
      subst hee
      simp only [Option.some.injEq, Prod.mk.injEq] at hs; obtain ⟨rfl, rfl⟩ := hs
      have : el = e0 / 2 ∧ FrOk fr arr.size := by
       rcases q3 with q3 | ⟨a', o', n', sz', hh, hq⟩
       ·exact q3
       ·simp only [V.sl.injEq] at hh; obtain ⟨rfl, _⟩ := hh; exact hq e0 he0
      obtain ⟨rfl, hfr⟩ := this
      exact ⟨u, w', ρ', g1, g2, Rel.withEl g3 q1 (by rw [Nat.mul_div_cancel_left _ (by omega)]; exact q2) hfr (fun hh => by omega), g4⟩
     ·simp only [Option.some.injEq, Prod.mk.injEq] at hs; obtain ⟨rfl, rfl⟩ := hs
      exact ⟨u, w', ρ', g1, g2, g3, g4⟩
    ·simp only [Option.some.injEq, Prod.mk.injEq] at hs; obtain ⟨rfl, rfl⟩ := hs
     exact ⟨u, w', ρ', g1, g2, g3, g4⟩
   ·cases hs
def opAppendZ (P : Program) (h : Hp) (argTypes : Array TypeId) (e : TypeId) (x n : V) : Option (V × Option Hp) :=
 match szOf P e, bytesOf P e, zeroC P e, argTypes[1]? with
 | some sz, some by_, some zs, some t => match P.underlying t, x, n with
  | some (.int _), .nils, .int .i64 (.ofNat (k + 1)) => if 0 < sz ∧ 0 < by_ ∧ zs.length = sz ∧ roomOk (k + 1) by_ = true then some (.sl h.next 0 (k + 1) sz, some (h.new [])) else none
  | _, _, _ => none
 | _, _, _, _ => none
theorem opAppendZ_sound (H : Rel Γ N0 w0 ρ h w) {e : TypeId} {x y v : V} {ux uy : Value} {h' : Option Hp} {argTypes : Array TypeId} {T sT : TypeId} (hx : VR ρ x ux) (hy : VR ρ y uy)
  (h0 : argTypes[0]? = some sT) (h1 : P.underlying sT = some (.slice e)) (hs : opAppendZ P h argTypes e x y = some (v, h')) :
  Good Γ N0 w0 ρ h v h' ((Builtin.append_ argTypes T #[ux, uy]).run P w) := by
 unfold opAppendZ at hs
 split at hs
 ·rename_i sz by_ zs t hsz hby hz ht
  split at hs
  ·rename_i kk k hu
   split at hs
   ·rename_i hc
    obtain ⟨hp, hbp, hzl, hroom⟩ := hc
    have hroom' : (2 * (k + 1) + 192) * by_ ≤ 281474976710656 := of_decide_eq_true hroom
    simp only [Option.some.injEq, Prod.mk.injEq] at hs; obtain ⟨rfl, rfl⟩ := hs
    obtain rfl := hy.int_inv
    cases hx
    obtain ⟨i, hi, rfl⟩ : ∃ i, P.info? e = some i ∧ i.bytes = by_ := by simpa [bytesOf] using hby
    have hneed : k + 1 ≤ 281474976710656 := by
     have := Nat.le_mul_of_pos_right (2 * (k + 1) + 192) hbp
     omega
    have hmul : (k + 1) * i.bytes ≤ 281474976710656 := by
     have := Nat.mul_le_mul_right i.bytes (show k + 1 ≤ 2 * (k + 1) + 192 by omega)
     omega
    have hw : IntKind.i64.wrap (Int.ofNat (k + 1)) = ((k + 1 : Nat) : Int) := by
     have e1 : ∀ n : Int, -9223372036854775808 ≤ n → n < 9223372036854775808 → IntKind.i64.wrap n = n := by
      intro n a b
      have e : IntKind.i64.wrap n = if n % 18446744073709551616 ≥ 9223372036854775808 then n % 18446744073709551616 - 18446744073709551616 else n % 18446744073709551616 := by
       unfold IntKind.wrap
       simp [IntKind.bits, IntKind.signed]
      rw [e]; split <;> omega
     have e2 : Int.ofNat (k + 1) = ((k + 1 : Nat) : Int) := rfl
     rw [e2]
     exact e1 _ (by omega) (by omega)
    obtain ⟨z, hzr, hzs⟩ := run_zeroValue (P := P) (w := World.drew1 w) hz
    replace hzs := hzs Ren.nil
    replace hzs : z.cells.size = zs.length := by simpa using hzs.1.symm
    have hnx : ¬ Builtin.nextslicecap (k + 1) 0 * i.bytes > 2 ^ 48 := by
     have := Nat.mul_le_mul_right i.bytes (nextslicecap_le (need := k + 1) (cap := 0) (by omega))
     omega
    have e1 : ¬ (((k + 1 : Nat) : Int) > IntKind.i64.max ∧ (True ∨ i.bytes = 0)) := by
     rintro ⟨hh, _⟩
     have hm : IntKind.i64.max = (9223372036854775807 : Int) := rfl
     rw [hm] at hh
     clear hw
     omega
    have e2 : ¬ ((k + 1 : Nat) : Int) < 0 := by omega
    have e3 : ¬ ((k + 1 : Nat) : Int) * (i.bytes : Int) > 2 ^ 48 := by
     have : ((k + 1 : Nat) : Int) * (i.bytes : Int) = (((k + 1) * i.bytes : Nat) : Int) := by simp
     rw [this]; omega
    have e4 : ¬ (k + 1) * sz = 0 := Nat.ne_of_gt (Nat.mul_pos (Nat.succ_pos k) hp)
    have hrun : ∃ nc arr, k + 1 ≤ nc ∧ arr.size = nc * sz ∧ (Builtin.append_ argTypes T #[.slice none 0 0, .int .i64 (Int.ofNat (k + 1))]).run P w = .ok (.slice (some ⟨w.heap.size, 0, none⟩) (k + 1) nc) (World.new (World.drew1 w) (.cells arr e)) := by
     refine ⟨(k + 1) + w.tape w.drawn (.appendCap (k + 1) 0 e) % (2 ^ 63 - (k + 1)), #[] ++ Builtin.zeroCells z.cells (k + 1) ++ Builtin.zeroCells z.cells (w.tape w.drawn (.appendCap (k + 1) 0 e) % (2 ^ 63 - (k + 1))), Nat.le_add_right _ _, ?_, ?_⟩
     ·rw [← hzl, ← hzs]; simp [Builtin.zeroCells]; rw [← Nat.add_mul]
     ·unfold Builtin.append_
      simp only [h0, ht, List.getElem?_toArray, List.getElem?_cons_zero, List.getElem?_cons_succ, Sem.run_bind, run_underlying h1, run_underlying hu, Result.andThen_ok, run_sizeOf hsz, Sem.run_pure, if_true, asInt, asIntOf, hw]
      rw [if_neg e2]
      simp only [Sem.run_bind, run_typeInfo hi, Result.andThen_ok]
      rw [if_neg e3]
      simp only [Sem.run_bind, Sem.run_pure, Result.andThen_ok, Nat.zero_add, Int.toNat_natCast]
      rw [if_neg (show ¬ k + 1 ≤ 0 by omega)]
      simp only [Sem.run_bind, run_typeInfo hi, Result.andThen_ok]
      rw [if_neg e1]
      simp only [Sem.run_bind, run_typeInfo hi, Result.andThen_ok]
      rw [if_neg hnx]
      simp only [Sem.run_bind, run_appendCap, run_typeInfo hi, Result.andThen_ok, run_askRoom, firstCells_nil, Bool.not_true, Bool.false_eq_true, if_false, e4, hzr, run_newRow, Nat.add_sub_cancel_left, Sem.run_pure]
      rfl
    obtain ⟨nc, arr, q1, q2, q3⟩ := hrun
    refine ⟨_, _, setR ρ h.next ⟨w.heap.size, 0, arr.size⟩, q3, setR_ext (H.fresh _ (Nat.le_refl _)), (H.drawn (w.drawn + 1)).newCells (Nat.zero_le _) (fun o p1 p2 => by simp at p2) (fun i y u hy => by simp at hy), ?_⟩
    exact .sl h.next 0 (k + 1) sz nc ⟨w.heap.size, 0, arr.size⟩ (if_pos rfl) q1 (by simp only [Nat.zero_add]; rw [q2]; exact Nat.le_refl _)
   ·cases hs
  ·cases hs
 ·cases hs
end
end Go.Proofs.YtkpoeilfnopgbaaGreatDoor.HM
