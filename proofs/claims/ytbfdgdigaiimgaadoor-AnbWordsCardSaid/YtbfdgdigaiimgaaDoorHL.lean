/- The heap machine: whole numbers that nobody knows, told by places' numbers; strings of such bytes. -/
import Derived.Test.YtbfdgdigaiimgaaDoorH2
namespace Go.Proofs.YtbfdgdigaiimgaaDoor.HM
open Go Go.RowKit

section
variable {ρ : Ren}
def inK (k : IntKind) (lo hi : Int) : Bool := decide (k.min ≤ lo) && decide (hi ≤ k.max)
theorem inK_wrap (k : IntKind) {n lo hi : Int} (h : inK k lo hi = true) (h1 : lo ≤ n) (h2 : n ≤ hi) : k.wrap n = n := by
  unfold inK at h
  simp only [Bool.and_eq_true, decide_eq_true_eq] at h
  obtain ⟨h3, h4⟩ := h
  have a := Int.le_trans h3 h1
  have b := Int.le_trans h2 h4
  cases k <;> simp [IntKind.min, IntKind.max, IntKind.wrap, IntKind.bits, IntKind.signed] at a b ⊢ <;> first | omega | (split <;> omega)

/-- so many times round -/
def turnsK (k : IntKind) (lo : Int) : Int := (lo - k.min) / (2 ^ k.bits)
theorem inK_wrap2 (k : IntKind) (q : Int) {n lo hi : Int} (h : inK k (lo - q * 2 ^ k.bits) (hi - q * 2 ^ k.bits) = true) (h1 : lo ≤ n) (h2 : n ≤ hi) : k.wrap n = n - q * 2 ^ k.bits := by
  unfold inK at h
  simp only [Bool.and_eq_true, decide_eq_true_eq] at h
  obtain ⟨h3, h4⟩ := h
  have a : k.min ≤ n - q * 2 ^ k.bits := by omega
  have b : n - q * 2 ^ k.bits ≤ k.max := by omega
  cases k <;> simp [IntKind.min, IntKind.max, IntKind.wrap, IntKind.bits, IntKind.signed] at a b ⊢ <;> first | omega | (split <;> omega)

def fit (k : IntKind) (c : Int) (ts : List LT) : Option V := if inK k (loS c ts) (hiS c ts) then some (mkLin k c ts) else
  if inK k (loS c ts - turnsK k (loS c ts) * 2 ^ k.bits) (hiS c ts - turnsK k (loS c ts) * 2 ^ k.bits) then some (mkLin k (c - turnsK k (loS c ts) * 2 ^ k.bits) ts) else none
theorem fit_sound {k : IntKind} {c : Int} {ts : List LT} {x : V} (hs : OkS ρ ts) (h : fit k c ts = some x) : VR ρ x (.int k (k.wrap (c + sumR ρ ts))) := by
  unfold fit at h
  split at h
  · rename_i hk
    simp only [Option.some.injEq] at h; subst h
    have hb := loS_le c hs
    exact mkLin_VR hs (inK_wrap k hk hb.1 hb.2)
  · split at h
    · rename_i hk
      simp only [Option.some.injEq] at h; subst h
      have hb := loS_le c hs
      exact mkLin_VR hs (by rw [inK_wrap2 k _ hk hb.1 hb.2]; omega)
    · cases h

/-- those that d parts, parted by it; the others -/
def splitT (d : Int) : List LT → List LT × List LT
  | [] => ([], [])
  | t :: r => if t.m % d = 0 then (⟨t.m / d, t.a, t.lo, t.hi⟩ :: (splitT d r).1, (splitT d r).2) else ((splitT d r).1, t :: (splitT d r).2)
theorem splitT_ok (d : Int) : ∀ {ts : List LT}, OkS ρ ts → OkS ρ (splitT d ts).1 ∧ OkS ρ (splitT d ts).2
  | [], _ => ⟨.nil, .nil⟩
  | t :: r, h => by
    have ih := splitT_ok d h.tail
    unfold splitT; split
    · exact ⟨.cons (h.head.scale _) ih.1, ih.2⟩
    · exact ⟨ih.1, .cons h.head ih.2⟩
theorem splitT_sum (d : Int) : ∀ (ts : List LT), sumR ρ ts = d * sumR ρ (splitT d ts).1 + sumR ρ (splitT d ts).2
  | [] => by simp [splitT, sumR]
  | t :: r => by
    have ih := splitT_sum d r
    unfold splitT; split
    · rename_i hm
      rw [sumR, ih]
      have e : t.m = d * (t.m / d) := (Int.mul_ediv_cancel' (Int.dvd_of_emod_eq_zero hm)).symm
      have e2 : t.m * valR ρ t.a = d * (t.m / d * valR ρ t.a) := by rw [← Int.mul_assoc, ← e]
      show t.m * valR ρ t.a + (d * sumR ρ (splitT d r).1 + sumR ρ (splitT d r).2) = d * (t.m / d * valR ρ t.a + sumR ρ (splitT d r).1) + sumR ρ (splitT d r).2
      rw [e2, Int.mul_add]; omega
    · show t.m * valR ρ t.a + sumR ρ r = d * sumR ρ (splitT d r).1 + (t.m * valR ρ t.a + sumR ρ (splitT d r).2)
      rw [ih]; omega

/-- what is told of two numbers by their difference's bounds -/
def cmpS (op : BinOp) (lo hi : Int) : Option Bool := match op with
  | .lss => if hi < 0 then some true else if 0 ≤ lo then some false else none
  | .leq => if hi ≤ 0 then some true else if 0 < lo then some false else none
  | .gtr => if 0 < lo then some true else if hi ≤ 0 then some false else none
  | .geq => if 0 ≤ lo then some true else if hi < 0 then some false else none
  | .eql => if lo = 0 ∧ hi = 0 then some true else if hi < 0 ∨ 0 < lo then some false else none
  | .neq => if lo = 0 ∧ hi = 0 then some false else if hi < 0 ∨ 0 < lo then some true else none
  | _ => none

def lbin (op : BinOp) (a b : V) : Option V := match asLin a, asLin b with
  | some (k, c, ts), some (k', d, us) => if k = k' then match op with
      | .add => fit k (c + d) (addS 1 us ts)
      | .sub => fit k (c - d) (addS (-1) us ts)
      | .mul => match us, ts with
        | [], ts => fit k (c * d) (addS d ts [])
        | us, [] => fit k (c * d) (addS c us [])
        | _, _ => none
      | .quo => match us with
        | [] => if 0 < d ∧ 0 ≤ loS c ts ∧ 0 ≤ loS (c % d) (splitT d ts).2 ∧ hiS (c % d) (splitT d ts).2 < d then fit k (c / d) (splitT d ts).1 else none
        | _ :: _ => none
      | .rem => match us with
        | [] => if 0 < d ∧ 0 ≤ loS c ts ∧ 0 ≤ loS (c % d) (splitT d ts).2 ∧ hiS (c % d) (splitT d ts).2 < d then some (mkLin k (c % d) (splitT d ts).2) else none
        | _ :: _ => none
      | op => (cmpS op (diffS c d ts us).1 (diffS c d ts us).2).map .bool
    else none
  | _, _ => none

theorem cmpS_sound {op : BinOp} {k : IntKind} {lo hi n m : Int} {t : Bool} (h : cmpS op lo hi = some t) (h1 : lo ≤ n - m) (h2 : n - m ≤ hi) : ibin op k n m = some (.bool t) ∧ op ≠ .shl ∧ op ≠ .shr := by
  cases op <;> simp only [cmpS, reduceCtorEq] at h
  all_goals
    refine ⟨?_, by simp, by simp⟩
    split at h
    · simp only [Option.some.injEq] at h; subst h
      simp only [ibin, Option.some.injEq, V.bool.injEq, decide_eq_true_eq, Bool.not_eq_false']
      omega
    · split at h
      · simp only [Option.some.injEq] at h; subst h
        simp only [ibin, Option.some.injEq, V.bool.injEq, Bool.not_eq_true', decide_eq_false_iff_not]
        omega
      · cases h

theorem split_div {c d n : Int} {ts : List LT} (hs : OkS ρ ts) (hn : n = c + sumR ρ ts) (hd : 0 < d) (h0 : 0 ≤ loS c ts) (h1 : 0 ≤ loS (c % d) (splitT d ts).2) (h2 : hiS (c % d) (splitT d ts).2 < d) :
    n.tdiv d = c / d + sumR ρ (splitT d ts).1 ∧ n.tmod d = c % d + sumR ρ (splitT d ts).2 := by
  have hb := loS_le c hs
  have hr := loS_le (c % d) (splitT_ok d hs).2
  have hsum := splitT_sum (ρ := ρ) d ts
  have hc := Int.mul_ediv_add_emod c d
  have hn0 : 0 ≤ n := by omega
  have e : n = (c % d + sumR ρ (splitT d ts).2) + d * (c / d + sumR ρ (splitT d ts).1) := by rw [Int.mul_add]; omega
  constructor
  · rw [Int.tdiv_eq_ediv_of_nonneg hn0, e, Int.add_mul_ediv_left _ _ (by omega), Int.ediv_eq_zero_of_lt (by omega) (by omega), Int.zero_add]
  · rw [Int.tmod_eq_emod_of_nonneg hn0, e, Int.add_mul_emod_self_left, Int.emod_eq_of_lt (by omega) (by omega)]

theorem lbin_sound {op : BinOp} {a b x : V} {u v : Value} (ha : VR ρ a u) (hb : VR ρ b v) (h : lbin op a b = some x) :
    ∃ k n m y, u = .int k n ∧ v = .int k m ∧ ibin op k n m = some y ∧ (∀ z, VR ρ y z → VR ρ x z) ∧ op ≠ .shl ∧ op ≠ .shr := by
  unfold lbin at h
  split at h
  · rename_i k c ts k' d us e1 e2
    obtain ⟨n, rfl, s1, hn⟩ := asLin_sound ha e1
    obtain ⟨m, rfl, s2, hm⟩ := asLin_sound hb e2
    split at h
    · rename_i hk; subst hk
      have fin : ∀ z0 : Int, VR ρ x (.int k (k.wrap z0)) → ∀ z, VR ρ (.int k (k.wrap z0)) z → VR ρ x z := fun z0 hx z hz => by rw [hz.int_inv]; exact hx
      split at h
      · have h1 := fit_sound (addS_ok 1 s2 s1) h
        rw [addS_sum] at h1
        refine ⟨k, n, m, _, rfl, rfl, rfl, fin _ ?_, by simp, by simp⟩
        have : n + m = c + d + (1 * sumR ρ us + sumR ρ ts) := by omega
        rw [this]; exact h1
      · have h1 := fit_sound (addS_ok (-1) s2 s1) h
        rw [addS_sum] at h1
        refine ⟨k, n, m, _, rfl, rfl, rfl, fin _ ?_, by simp, by simp⟩
        have : n - m = c - d + (-1 * sumR ρ us + sumR ρ ts) := by omega
        rw [this]; exact h1
      · split at h
        · have h1 := fit_sound (addS_ok d s1 .nil) h
          rw [addS_sum] at h1
          refine ⟨k, n, m, _, rfl, rfl, rfl, fin _ ?_, by simp, by simp⟩
          have : n * m = c * d + (d * sumR ρ ts + sumR ρ []) := by
            have e : m = d := by simpa [sumR] using hm
            rw [hn, e, Int.add_mul, Int.mul_comm d (sumR ρ ts)]; simp [sumR]
          rw [this]; exact h1
        · have h1 := fit_sound (addS_ok c s2 .nil) h
          rw [addS_sum] at h1
          refine ⟨k, n, m, _, rfl, rfl, rfl, fin _ ?_, by simp, by simp⟩
          have : n * m = c * d + (c * sumR ρ us + sumR ρ []) := by
            have e : n = c := by simpa [sumR] using hn
            rw [hm, e, Int.mul_add]; simp [sumR]
          rw [this]; exact h1
        · cases h
      · split at h
        · split at h
          · rename_i hc
            obtain ⟨c1, c2, c3, c4⟩ := hc
            have e : m = d := by simpa [sumR] using hm
            subst e
            have h1 := fit_sound (splitT_ok m s1).1 h
            have h2 := (split_div s1 hn c1 c2 c3 c4).1
            refine ⟨k, n, m, .int k (k.wrap (n.tdiv m)), rfl, rfl, ?_, fin _ ?_, by simp, by simp⟩
            · simp only [ibin]; rw [if_neg (by omega)]
            · rw [h2]; exact h1
          · cases h
        · cases h
      · split at h
        · split at h
          · rename_i hc
            obtain ⟨c1, c2, c3, c4⟩ := hc
            have e : m = d := by simpa [sumR] using hm
            subst e
            simp only [Option.some.injEq] at h; subst h
            have h2 := (split_div s1 hn c1 c2 c3 c4).2
            refine ⟨k, n, m, .int k (n.tmod m), rfl, rfl, ?_, fun z hz => ?_, by simp, by simp⟩
            · simp only [ibin]; rw [if_neg (by omega)]
            · rw [hz.int_inv]; exact mkLin_VR (splitT_ok m s1).2 h2
          · cases h
        · cases h
      · obtain ⟨t, ht, rfl⟩ := Option.map_eq_some_iff.1 h
        obtain ⟨d1, d2⟩ := diffS_sound s1 s2 hn hm
        obtain ⟨i1, i2, i3⟩ := cmpS_sound (k := k) ht d1 d2
        exact ⟨k, n, m, _, rfl, rfl, i1, fun z hz => hz, i2, i3⟩
    · cases h
  · cases h

theorem lbin_run {P : Program} {w : World} {op : BinOp} {T : TypeId} {a b x : V} {u v : Value} (ox oy : Operand) (ha : VR ρ a u) (hb : VR ρ b v) (h : lbin op a b = some x) :
    ∃ y, (do eqGuard op T ox oy u v; binOp op T u v : Sem Value).run P w = .ok y w ∧ VR ρ x y := by
  obtain ⟨k, n, m, y, rfl, rfl, h1, h2, h3, h4⟩ := lbin_sound ha hb h
  have hg : (eqGuard op T ox oy (.int k n) (.int k m) : Sem Unit).run P w = .ok () w := by
    unfold eqGuard; split <;> rfl
  obtain ⟨z, hz, hd⟩ := ibin_sound h1 P w T h3 h4
  exact ⟨z, by rw [Sem.run_bind, hg, Result.andThen_ok]; exact hz, h2 z (hd ρ)⟩

/-! ## Strings -/
def asSS : V → Option (List V)
  | .str l => some (l.map fun c => .int .u8 c.toNat)
  | .sstr l => some l
  | _ => none

def BytesR (ρ : Ren) (xs : List V) (bs : List UInt8) : Prop := xs.length = bs.length ∧ ∀ (i : Nat) x b, xs[i]? = some x → bs[i]? = some b → VR ρ x (.int .u8 b.toNat)

theorem asSS_sound {a : V} {u : Value} {xs : List V} (h : VR ρ a u) (ha : asSS a = some xs) : ∃ bs : List UInt8, u = .string ⟨bs.toArray⟩ ∧ BytesR ρ xs bs := by
  unfold asSS at ha
  split at ha
  · rename_i l
    simp only [Option.some.injEq] at ha; subst ha
    refine ⟨l, h.str_inv, by simp, fun i x b hx hb => ?_⟩
    rw [List.getElem?_map, hb] at hx
    simp only [Option.map_some, Option.some.injEq] at hx; subst hx
    exact .int _ _
  · simp only [Option.some.injEq] at ha; subst ha
    cases h with
    | sstr _ bs hn hr => exact ⟨bs, rfl, hn, hr⟩
  · cases ha

/-- bytes that are all known -/
def allU8 : List V → Option (List UInt8)
  | [] => some []
  | .int _ n :: r => if 0 ≤ n ∧ n < 256 then (allU8 r).map (UInt8.ofNat n.toNat :: ·) else none
  | _ :: _ => none
theorem allU8_sound : ∀ {xs : List V} {bs l : List UInt8}, BytesR ρ xs bs → allU8 xs = some l → l = bs
  | [], bs, l, h, ha => by
    simp only [allU8, Option.some.injEq] at ha; subst ha
    have := h.1
    cases bs with
    | nil => rfl
    | cons => simp at this
  | x :: r, bs, l, h, ha => by
    cases bs with
    | nil => have := h.1; simp at this
    | cons b bs =>
      have h0 := h.2 0 x b rfl rfl
      have hr : BytesR ρ r bs := ⟨by have := h.1; simpa using this, fun i y c hy hc => h.2 (i + 1) y c (by simpa using hy) (by simpa using hc)⟩
      cases x <;> simp only [allU8, reduceCtorEq] at ha
      split at ha
      · rename_i k n hn
        obtain ⟨l', hl, rfl⟩ := Option.map_eq_some_iff.1 ha
        have e := h0.int_inv
        simp only [Value.int.injEq] at e
        rw [allU8_sound hr hl]
        congr 1
        rw [← e.2]
        exact UInt8.toNat_inj.1 (by simp)
      · cases ha

def mkSS (xs : List V) : V := match allU8 xs with
  | some l => .str l
  | none => .sstr xs
theorem mkSS_VR {xs : List V} {bs : List UInt8} (h : BytesR ρ xs bs) : VR ρ (mkSS xs) (.string ⟨bs.toArray⟩) := by
  unfold mkSS
  split
  · rename_i l hl
    rw [allU8_sound h hl]; exact .str _
  · exact .sstr xs bs h.1 h.2

theorem BytesR.ext {ρ' : Ren} (he : Ext ρ ρ') {xs : List V} {bs : List UInt8} (h : BytesR ρ xs bs) : BytesR ρ' xs bs := ⟨h.1, fun i x b hx hb => (h.2 i x b hx hb).ext he⟩
theorem BytesR.ints (l : List UInt8) : BytesR ρ (l.map fun c : UInt8 => V.int .u8 c.toNat) l := by
  refine ⟨by simp, fun i x b hx hb => ?_⟩
  simp only [List.getElem?_map, hb, Option.map_some, Option.some.injEq] at hx
  subst hx; exact .int _ _
def byteV : V → Bool
  | .int .u8 n => decide (0 ≤ n) && decide (n < 256)
  | .lin .u8 c ts => decide (0 ≤ loS c ts) && decide (hiS c ts < 256)
  | _ => false
theorem byteV_inv {x : V} {u : Value} (h : VR ρ x u) (hb : byteV x = true) : ∃ b : UInt8, u = .int .u8 b.toNat := by
  have key : ∀ n : Int, 0 ≤ n → n < 256 → ∃ b : UInt8, Value.int .u8 n = .int .u8 b.toNat := fun n h0 h1 => ⟨UInt8.ofNat n.toNat, by
    congr 1; rw [UInt8.toNat_ofNat']; omega⟩
  unfold byteV at hb
  split at hb
  · simp only [Bool.and_eq_true, decide_eq_true_eq] at hb
    rw [h.int_inv]; exact key _ hb.1 hb.2
  · rename_i c ts
    simp only [Bool.and_eq_true, decide_eq_true_eq] at hb
    cases h with
    | lin _ _ _ n hs hn =>
      have := loS_le c hs
      exact key n (by omega) (by omega)
  · cases hb
theorem bytesV_inv : ∀ {xs : List V} {us : List Value}, VRs ρ xs us → xs.all byteV = true → ∃ bs : List UInt8, us = bs.map (fun b => Value.int .u8 b.toNat) ∧ BytesR ρ xs bs
  | [], us, h, _ => by
    have := h.1
    cases us with
    | nil => exact ⟨[], rfl, rfl, fun i x b hx => by simp at hx⟩
    | cons => simp at this
  | x :: r, us, h, hb => by
    cases us with
    | nil => have := h.1; simp at this
    | cons u us =>
      simp only [List.all_cons, Bool.and_eq_true] at hb
      obtain ⟨b, rfl⟩ := byteV_inv (h.2 0 x u rfl rfl) hb.1
      obtain ⟨bs, rfl, k⟩ := bytesV_inv (xs := r) (us := us) ⟨by have := h.1; simpa using this, fun i y c hy hc => h.2 (i + 1) y c (by simpa using hy) (by simpa using hc)⟩ hb.2
      refine ⟨b :: bs, rfl, by simp [k.1], fun i y c hy hc => ?_⟩
      cases i with
      | zero => simp at hy hc; subst hy hc; exact h.2 0 _ _ rfl rfl
      | succ i => exact k.2 i y c (by simpa using hy) (by simpa using hc)

theorem BytesR.append {xs ys : List V} {bs cs : List UInt8} (h : BytesR ρ xs bs) (k : BytesR ρ ys cs) : BytesR ρ (xs ++ ys) (bs ++ cs) := by
  refine ⟨by simp [h.1, k.1], fun i x u hx hu => ?_⟩
  by_cases hi : i < xs.length
  · rw [List.getElem?_append_left hi] at hx
    rw [List.getElem?_append_left (by rw [← h.1]; exact hi)] at hu
    exact h.2 i x u hx hu
  · rw [List.getElem?_append_right (by omega)] at hx
    rw [List.getElem?_append_right (by rw [← h.1]; omega), ← h.1] at hu
    exact k.2 _ x u hx hu
theorem BytesR.cut {xs : List V} {bs : List UInt8} (h : BytesR ρ xs bs) (m n : Nat) : BytesR ρ ((xs.take m).drop n) ((bs.take m).drop n) := by
  refine ⟨by simp [h.1], fun i x u hx hu => ?_⟩
  rw [List.getElem?_drop, List.getElem?_take] at hx hu
  split at hx
  · rw [if_pos (by assumption)] at hu; exact h.2 _ x u hx hu
  · cases hx

/-- are two strings the same? -/
def eqS : List V → List V → Option Bool
  | [], [] => some true
  | [], _ :: _ => some false
  | _ :: _, [] => some false
  | x :: r, y :: s => match lbin .eql x y with
    | some (.bool true) => eqS r s
    | some (.bool false) => some false
    | _ => match eqS r s with
      | some false => some false
      | _ => none

theorem eqS_sound : ∀ {xs ys : List V} {bs cs : List UInt8} {t : Bool}, BytesR ρ xs bs → BytesR ρ ys cs → eqS xs ys = some t → decide (bs = cs) = t
  | [], [], bs, cs, t, h, k, e => by
    have h1 := h.1; have k1 := k.1
    cases bs <;> cases cs <;> simp_all [eqS]
  | [], _ :: _, bs, cs, t, h, k, e => by
    have h1 := h.1; have k1 := k.1
    cases bs <;> cases cs <;> simp_all [eqS]
  | _ :: _, [], bs, cs, t, h, k, e => by
    have h1 := h.1; have k1 := k.1
    cases bs <;> cases cs <;> simp_all [eqS]
  | x :: r, y :: s, bs, cs, t, h, k, e => by
    cases bs with
    | nil => have := h.1; simp at this
    | cons b bs =>
      cases cs with
      | nil => have := k.1; simp at this
      | cons c cs =>
        have hr : BytesR ρ r bs := ⟨by have := h.1; simpa using this, fun i y c hy hc => h.2 (i + 1) y c (by simpa using hy) (by simpa using hc)⟩
        have kr : BytesR ρ s cs := ⟨by have := k.1; simpa using this, fun i y c hy hc => k.2 (i + 1) y c (by simpa using hy) (by simpa using hc)⟩
        have hx := h.2 0 x b rfl rfl
        have hy := k.2 0 y c rfl rfl
        have key : ∀ t, lbin .eql x y = some (.bool t) → decide (b = c) = t := fun t ht => by
          obtain ⟨k, n, m, z, e1, e2, e3, e4, _, _⟩ := lbin_sound hx hy ht
          simp only [Value.int.injEq] at e1 e2
          obtain ⟨rfl, e1⟩ := e1
          obtain ⟨_, e2⟩ := e2
          simp only [ibin, Option.some.injEq] at e3; subst e3
          have := (e4 _ (.bool _)).bool_inv
          simp only [Value.bool.injEq] at this
          rw [← this]
          have hh : (b = c) ↔ (n = m) := by
            rw [← e1, ← e2]
            constructor
            · intro hbc; rw [hbc]
            · intro hbc; exact UInt8.toNat_inj.1 (by omega)
          simp [hh]
        rw [eqS] at e
        split at e
        · rename_i ht
          have := of_decide_eq_true (key _ ht)
          subst this
          have := eqS_sound hr kr e
          simpa using this
        · rename_i ht
          have := of_decide_eq_false (key _ ht)
          simp only [Option.some.injEq] at e; subst e
          simp [this]
        · split at e
          · rename_i hf
            simp only [Option.some.injEq] at e; subst e
            have := of_decide_eq_false (eqS_sound hr kr hf)
            simp [this]
          · cases e

def lsbin (op : BinOp) (a b : V) : Option V := match asSS a, asSS b with
  | some xs, some ys => match op with
    | .add => if xs.length + ys.length ≤ 1000000 then some (mkSS (xs ++ ys)) else none
    | .eql => (eqS xs ys).map .bool
    | .neq => (eqS xs ys).map fun t => .bool (!t)
    | _ => none
  | _, _ => none

theorem lsbin_run {P : Program} {w : World} {op : BinOp} {T : TypeId} {a b x : V} {u v : Value} (ox oy : Operand) (ha : VR ρ a u) (hb : VR ρ b v) (h : lsbin op a b = some x) :
    ∃ y, (do eqGuard op T ox oy u v; binOp op T u v : Sem Value).run P w = .ok y w ∧ VR ρ x y := by
  unfold lsbin at h
  split at h
  · rename_i xs ys e1 e2
    obtain ⟨bs, rfl, r1⟩ := asSS_sound ha e1
    obtain ⟨cs, rfl, r2⟩ := asSS_sound hb e2
    have hg : (eqGuard op T ox oy (.string ⟨bs.toArray⟩) (.string ⟨cs.toArray⟩) : Sem Unit).run P w = .ok () w := by
      unfold eqGuard; split <;> rfl
    have fin : ∀ y0, sbin op bs cs = some y0 → (∀ z, VR ρ y0 z → VR ρ x z) → ∃ y, (do eqGuard op T ox oy (.string ⟨bs.toArray⟩) (.string ⟨cs.toArray⟩); binOp op T (.string ⟨bs.toArray⟩) (.string ⟨cs.toArray⟩) : Sem Value).run P w = .ok y w ∧ VR ρ x y := fun y0 h0 h1 => by
      obtain ⟨z, hz, hd⟩ := sbin_sound h0 P w T
      exact ⟨z, by rw [Sem.run_bind, hg, Result.andThen_ok]; exact hz, h1 z (hd ρ)⟩
    split at h
    · split at h
      · rename_i hl
        simp only [Option.some.injEq] at h; subst h
        refine fin (.str (bs ++ cs)) ?_ fun z hz => ?_
        · simp only [sbin]; rw [if_pos (by rw [← r1.1, ← r2.1]; omega)]
        · rw [hz.str_inv]; exact mkSS_VR (r1.append r2)
      · cases h
    · obtain ⟨t, ht, rfl⟩ := Option.map_eq_some_iff.1 h
      refine fin (.bool (decide (bs = cs))) rfl fun z hz => ?_
      rw [hz.bool_inv, eqS_sound r1 r2 ht]; exact .bool _
    · obtain ⟨t, ht, rfl⟩ := Option.map_eq_some_iff.1 h
      refine fin (.bool (!decide (bs = cs))) rfl fun z hz => ?_
      rw [hz.bool_inv, eqS_sound r1 r2 ht]; exact .bool _
    · cases h
  · cases h

def lneg : V → Option V
  | .lin k c ts => fit k (0 - c) (addS (-1) ts [])
  | _ => none
theorem lneg_sound {P : Program} {w : World} {a x : V} {u : Value} (ha : VR ρ a u) (h : lneg a = some x) : ∃ y, (Op.unary .neg u).run P w = .ok y w ∧ VR ρ x y := by
  unfold lneg at h
  split at h
  · rename_i k c ts
    cases ha with
    | lin _ _ _ n hs hn =>
      have h1 := fit_sound (addS_ok (-1) hs .nil) h
      rw [addS_sum] at h1
      refine ⟨.int k (k.wrap (0 - n)), rfl, ?_⟩
      have : 0 - n = 0 - c + (-1 * sumR ρ ts + sumR ρ []) := by simp only [sumR]; omega
      rw [this]; exact h1
  · cases h

def lidx0 (a i : V) : Option V := match a, i with
  | .sstr l, .int _ n => if 0 ≤ n then l[n.toNat]? else none
  | _, _ => none
def lidx (P : Program) (T : TypeId) (a i : V) : Option V := match P.underlying T with
  | some .string => lidx0 a i
  | _ => none
theorem lidx_sound {P : Program} {w : World} {T : TypeId} {a i x : V} {u v : Value} (ha : VR ρ a u) (hi : VR ρ i v) (h : lidx P T a i = some x) :
    ∃ y, (Instr.index T u v).run P w = .ok y w ∧ VR ρ x y := by
  unfold lidx at h
  split at h
  · rename_i hT
    unfold lidx0 at h
    split at h
    case h_2 => cases h
    rename_i l k n
    cases hi.int_inv
    cases ha with
    | sstr _ bs hn hr =>
      split at h
      · rename_i h0
        obtain ⟨hlt, _⟩ := List.getElem?_eq_some_iff.1 h
        have hb : bs[n.toNat]? = some (bs[n.toNat]'(by rw [← hn]; exact hlt)) := List.getElem?_eq_getElem _
        refine ⟨.int .u8 (bs[n.toNat]'(by rw [← hn]; exact hlt)).toNat, ?_, hr _ _ _ h hb⟩
        have hsz : n.toNat < (ByteArray.mk bs.toArray).size := by show n.toNat < bs.toArray.size; rw [List.size_toArray, ← hn]; exact hlt
        have e : (ByteArray.mk bs.toArray)[n.toNat]? = some (bs[n.toNat]'(by rw [← hn]; exact hlt)) := by
          rw [getElem?_pos (ByteArray.mk bs.toArray) n.toNat hsz]
          rfl
        simp [Instr.index, asIntOf, run_underlying hT, h0, e]
      · cases h
  · cases h

def llen (P : Program) (argTypes : Array TypeId) (a : V) : Option V := match argTypes[0]? with
  | some T => match P.underlying T, a with
    | some .string, .sstr l => some (.int .i64 l.length)
    | _, _ => none
  | none => none
theorem llen_sound {P : Program} {w : World} {argTypes : Array TypeId} {a x : V} {u : Value} {T : TypeId} (ha : VR ρ a u) (h : llen P argTypes a = some x) :
    ∃ y, (Builtin.len_ argTypes T #[u]).run P w = .ok y w ∧ VR ρ x y := by
  unfold llen at h
  split at h
  · rename_i T' hT
    split at h
    · rename_i l hu
      simp only [Option.some.injEq] at h; subst h
      cases ha with
      | sstr _ bs hn hr =>
        refine ⟨_, ?_, (.int _ _)⟩
        rw [hn]
        simp [Builtin.len_, hT, run_underlying hu, goInt]
        rfl
    · cases h
  · cases h

def lsli (P : Program) (T : TypeId) (a : V) (lo hi : Option V) : Option V := match P.underlying T, a with
  | some .string, .sstr l => match vbound l.length hi l.length with
    | some h => match vbound h lo 0 with
      | some a => some (mkSS ((l.take h).drop a))
      | none => none
    | none => none
  | _, _ => none
theorem lsli_sound {P : Program} {w : World} {T : TypeId} {a x : V} {lo hi : Option V} {u : Value} {vlo vhi : Option Value} (ha : VR ρ a u)
    (hlo : OptVR ρ lo vlo) (hhi : OptVR ρ hi vhi) (h : lsli P T a lo hi = some x) : ∃ y, (Instr.sliceAt T u vlo vhi none).run P w = .ok y w ∧ VR ρ x y := by
  unfold lsli at h
  split at h
  · rename_i l hT
    cases ha with
    | sstr _ bs hn hr =>
      split at h
      · rename_i hb h1
        split at h
        · rename_i ab h2
          simp only [Option.some.injEq] at h; subst h
          rw [hn] at h1
          have hsz : (ByteArray.mk bs.toArray).size = bs.length := by show bs.toArray.size = _; simp
          obtain ⟨hs, hle, hle2⟩ := sliceBounds_sound (P := P) (isS := false) (cap := bs.length) (Nat.le_refl _) hlo hhi h1 h2 (w := w)
          refine ⟨.string ((ByteArray.mk bs.toArray).extract ab hb), ?_, ?_⟩
          · simp [Instr.sliceAt, run_underlying hT, Instr.slice, hsz, hs]
          · have e : (ByteArray.mk bs.toArray).extract ab hb = ⟨((bs.take hb).drop ab).toArray⟩ := by
              apply ByteArray.ext
              simp [ByteArray.data_extract, List.extract_eq_take_drop, List.drop_take]
            rw [e]; exact mkSS_VR (BytesR.cut ⟨hn, hr⟩ _ _)
        · cases h
      · cases h
  · cases h

def lconv (P : Program) (src dst : TypeId) (a : V) : Option V := match P.underlying src, P.underlying dst, a with
  | some _, some (.int k), .lin _ c ts => fit k c ts
  | some (.int _), some .string, .lin _ c ts => if 0 ≤ loS c ts ∧ hiS c ts < 128 then some (.sstr [mkLin .u8 c ts]) else none
  | some .string, some .string, .sstr l => some (.sstr l)
  | _, _, _ => none

theorem encode_ascii {n : Int} (h0 : 0 ≤ n) (h1 : n < 128) : Utf8.encode n = ⟨#[UInt8.ofNat n.toNat]⟩ := by
  obtain ⟨m, rfl⟩ : ∃ m : Nat, n = m := ⟨n.toNat, by omega⟩
  have hv : Utf8.valid (m : Int) = true := by
    unfold Utf8.valid
    simp
    omega
  unfold Utf8.encode
  simp only [hv, if_true]
  rw [if_pos (by omega)]

theorem lconv_sound {P : Program} {w : World} {src dst : TypeId} {a x : V} {u : Value} (ha : VR ρ a u) (h : lconv P src dst a = some x) :
    ∃ y, (convert src dst u).run P w = .ok y w ∧ VR ρ x y := by
  unfold lconv at h
  split at h
  · rename_i d k k' c ts h1 h2
    cases ha with
    | lin _ _ _ n hs hn =>
      have := fit_sound hs h
      rw [← hn] at this
      refine ⟨_, ?_, this⟩
      simp only [convert, Sem.run_bind, run_underlying h1, run_underlying h2, Result.andThen_ok]
      rfl
  · rename_i k k' c ts h1 h2
    split at h
    · rename_i hb
      simp only [Option.some.injEq] at h; subst h
      cases ha with
      | lin _ _ _ n hs hn =>
        have hr := loS_le c hs
        refine ⟨.string (Utf8.encode n), ?_, ?_⟩
        · simp only [convert, Sem.run_bind, run_underlying h1, run_underlying h2, Result.andThen_ok]
          rfl
        · rw [encode_ascii (by omega) (by omega)]
          refine .sstr _ [UInt8.ofNat n.toNat] rfl fun i x b hx hb => ?_
          cases i with
          | zero =>
            simp at hx hb; subst hx hb
            have e : ((UInt8.ofNat n.toNat).toNat : Int) = n := by
              rw [UInt8.toNat_ofNat']; omega
            rw [e]; exact mkLin_VR hs hn
          | succ i => simp at hx
    · cases h
  · rename_i l h1 h2
    simp only [Option.some.injEq] at h; subst h
    cases ha with
    | sstr _ bs hn hr =>
      refine ⟨_, ?_, .sstr l bs hn hr⟩
      simp only [convert, Sem.run_bind, run_underlying h1, run_underlying h2, Result.andThen_ok]
      rfl
  · cases h

/-- the greater, or the lesser, of two -/
def lmax (mx : Bool) (a b : V) : Option V := match asLin a, asLin b with
  | some (k, c, ts), some (k', d, us) => if k = k' then match cmpS (if mx then .gtr else .lss) (diffS d c us ts).1 (diffS d c us ts).2 with
      | some true => some b
      | some false => some a
      | none => none
    else none
  | _, _ => none
theorem lmax_sound {mx : Bool} {a b x : V} {u v : Value} (ha : VR ρ a u) (hb : VR ρ b v) (h : lmax mx a b = some x) :
    ∃ k n m, u = .int k n ∧ v = .int k m ∧ VR ρ x (.int k (if (if mx then decide (m > n) else decide (m < n)) then m else n)) := by
  unfold lmax at h
  split at h
  · rename_i k c ts k' d us e1 e2
    obtain ⟨n, rfl, s1, hn⟩ := asLin_sound ha e1
    obtain ⟨m, rfl, s2, hm⟩ := asLin_sound hb e2
    split at h
    · rename_i hk; subst hk
      refine ⟨k, n, m, rfl, rfl, ?_⟩
      obtain ⟨d1, d2⟩ := diffS_sound s2 s1 hm hn
      have key : ∀ t, cmpS (if mx then .gtr else .lss) (diffS d c us ts).1 (diffS d c us ts).2 = some t → (if mx then decide (m > n) else decide (m < n)) = t := fun t ht => by
        have i1 := (cmpS_sound (k := k) ht d1 d2).1
        cases mx <;> simpa [ibin] using i1
      split at h
      · rename_i ht
        simp only [Option.some.injEq] at h; subst h
        rw [key _ ht, if_pos rfl]; exact hb
      · rename_i ht
        simp only [Option.some.injEq] at h; subst h
        rw [key _ ht, if_neg (by simp)]; exact ha
      · cases h
    · cases h
  · cases h

def orV (a b : Option V) : Option V := match a with
  | some v => some v
  | none => b
def vbinX (P : Program) (op : BinOp) (T : TypeId) (c : Bool) (a b : V) : Option V := orV (vbinE P op T c a b) (orV (lbin op a b) (lsbin op a b))
def vunX (op : UnOp) (a : V) : Option V := orV (vun op a) (match op with | .neg => lneg a | _ => none)
def opConvX (P : Program) (src dst : TypeId) (a : V) : Option V := orV (opConv P src dst a) (lconv P src dst a)
def opSliceX (P : Program) (T : TypeId) (a : V) (lo hi : Option V) : Option V := orV (opSlice P T a lo hi) (lsli P T a lo hi)
def opLenX (P : Program) (argTypes : Array TypeId) (a : V) : Option V := orV (opLen P argTypes a) (llen P argTypes a)
theorem opConvX_sound {P : Program} {w : World} {src dst : TypeId} {a x : V} {u : Value} (ha : VR ρ a u) (h : opConvX P src dst a = some x) :
    ∃ y, (convert src dst u).run P w = .ok y w ∧ VR ρ x y := by
  unfold opConvX orV at h
  split at h
  · rename_i v hv
    cases h
    exact opConv_sound ha hv
  · exact lconv_sound ha h
theorem opSliceX_sound {P : Program} {w : World} {T : TypeId} {a x : V} {lo hi : Option V} {u : Value} {vlo vhi : Option Value} (ha : VR ρ a u)
    (hlo : OptVR ρ lo vlo) (hhi : OptVR ρ hi vhi) (h : opSliceX P T a lo hi = some x) : ∃ y, (Instr.sliceAt T u vlo vhi none).run P w = .ok y w ∧ VR ρ x y := by
  unfold opSliceX orV at h
  split at h
  · rename_i v hv
    cases h
    exact opSlice_sound ha hlo hhi hv
  · exact lsli_sound ha hlo hhi h
theorem opLenX_sound {P : Program} {w : World} {argTypes : Array TypeId} {a x : V} {u : Value} {T : TypeId} (ha : VR ρ a u) (h : opLenX P argTypes a = some x) :
    ∃ y, (Builtin.len_ argTypes T #[u]).run P w = .ok y w ∧ VR ρ x y := by
  unfold opLenX orV at h
  split at h
  · rename_i v hv
    cases h
    exact opLen_sound ha hv
  · exact llen_sound ha h

/-- operations on what nobody knows -/
def sym (P : Program) (rd : Operand → Option V) : Op → Option V
  | .binOp op _ x y _ => match rd x, rd y with
    | some a, some b => match lbin op a b with
      | some v => some v
      | none => lsbin op a b
    | _, _ => none
  | .unOp .neg _ x => match rd x with
    | some a => lneg a
    | none => none
  | .index T x i => match rd x, rd i with
    | some a, some b => lidx P T a b
    | _, _ => none
  | .slice T x lo hi none => match rd x, optRd rd lo, optRd rd hi with
    | some a, some l, some h => lsli P T a l h
    | _, _, _ => none
  | .convert src dst x => match rd x with
    | some a => lconv P src dst a
    | none => none
  | .call { callee := .builtin .len, args, argTypes } => match rdAll rd args.toList with
    | some [a] => llen P argTypes a
    | _ => none
  | .call { callee := .builtin .max, args, .. } => match rdAll rd args.toList with
    | some [a, b] => lmax true a b
    | _ => none
  | .call { callee := .builtin .min, args, .. } => match rdAll rd args.toList with
    | some [a, b] => lmax false a b
    | _ => none
  | _ => none

def popS (P : Program) (rd : Operand → Option V) (o : Op) : Option V := match pop P rd o with
  | some v => some v
  | none => sym P rd o

theorem sym_sound {P : Program} {w : World} {rd : Operand → Option V} {ev : Operand → Value} (hρ : ∀ x a, rd x = some a → VR ρ a (ev x)) {o : Oper} {x : V}
    (h : sym P rd o.op = some x) : ∃ y, (execOp ev o).run P w = .ok (.value y) w ∧ VR ρ x y := by
  have lift : ∀ (s : Sem Value), (∃ y, s.run P w = .ok y w ∧ VR ρ x y) → ∃ y, (do pure (Next.value (← s)) : Sem Next).run P w = .ok (.value y) w ∧ VR ρ x y := by
    rintro s ⟨y, hy, hd⟩
    exact ⟨y, by simp only [Sem.run_bind, hy, Result.andThen_ok]; rfl, hd⟩
  have two : ∀ {args : Array Operand} {a b : V}, rdAll rd args.toList = some [a, b] → ∃ x0 y0, args = #[x0, y0] ∧ VR ρ a (ev x0) ∧ VR ρ b (ev y0) := fun {args a b} ha => by
    obtain ⟨h1, h2⟩ := rdAll_sound hρ _ _ ha
    obtain ⟨x0, y0, hx0⟩ : ∃ x0 y0, args.toList = [x0, y0] := by
      cases hh : args.toList with
      | nil => rw [hh] at h1; simp at h1
      | cons x0 r => cases r with
        | nil => rw [hh] at h1; simp at h1
        | cons y0 r => rw [hh] at h1; simp at h1; exact ⟨x0, y0, by rw [h1.symm]⟩
    obtain rfl : args = #[x0, y0] := by apply Array.toList_inj.1; simpa using hx0
    exact ⟨x0, y0, rfl, h2 0 a (ev x0) rfl (by simp), h2 1 b (ev y0) rfl (by simp)⟩
  unfold sym at h
  unfold execOp
  split at h
  · rename_i op T a b yt ho
    rw [ho]
    split at h
    · rename_i a' b' ha hb
      split at h
      · rename_i v hv
        simp only [Option.some.injEq] at h; subst h
        obtain ⟨y, hy, hd⟩ := lbin_run (P := P) (w := w) (T := T) a b (hρ _ _ ha) (hρ _ _ hb) hv
        exact lift _ ⟨y, hy, hd⟩
      · obtain ⟨y, hy, hd⟩ := lsbin_run (P := P) (w := w) (T := T) a b (hρ _ _ ha) (hρ _ _ hb) h
        exact lift _ ⟨y, hy, hd⟩
    · cases h
  · rename_i T a ho
    rw [ho]
    split at h
    · rename_i a' ha; exact lift _ (lneg_sound (hρ _ _ ha) h)
    · cases h
  · rename_i T a i ho
    rw [ho]
    split at h
    · rename_i a' b' ha hb; exact lift _ (lidx_sound (hρ _ _ ha) (hρ _ _ hb) h)
    · cases h
  · rename_i T a lo hi ho
    rw [ho]
    split at h
    · rename_i a' l' h' ha hl hh
      exact lift _ (lsli_sound (hρ _ _ ha) (optRd_sound hρ hl) (optRd_sound hρ hh) h)
    · cases h
  · rename_i src dst a ho
    rw [ho]
    split at h
    · rename_i a' ha; exact lift _ (lconv_sound (hρ _ _ ha) h)
    · cases h
  · rename_i args argTypes ho
    rw [ho]
    split at h
    · rename_i a ha
      obtain ⟨h1, h2⟩ := rdAll_sound hρ _ _ ha
      obtain ⟨x0, hx0⟩ : ∃ x0, args.toList = [x0] := by
        cases hh : args.toList with
        | nil => rw [hh] at h1; simp at h1
        | cons x0 r => rw [hh] at h1; simp at h1; exact ⟨x0, by rw [h1.symm]⟩
      obtain rfl : args = #[x0] := by apply Array.toList_inj.1; simpa using hx0
      refine lift (Builtin.len_ argTypes o.type (#[x0].map ev)) ?_
      rw [show #[x0].map ev = #[ev x0] by simp]
      exact llen_sound (h2 0 a (ev x0) rfl (by simp)) h
    · cases h
  · rename_i args argTypes ho
    rw [ho]
    split at h
    · rename_i a b ha
      obtain ⟨x0, y0, rfl, r1, r2⟩ := two ha
      obtain ⟨k, n, m, e1, e2, hx⟩ := lmax_sound r1 r2 h
      refine lift (Builtin.max_ argTypes o.type (#[x0, y0].map ev)) ⟨_, ?_, hx⟩
      rw [show #[x0, y0].map ev = #[ev x0, ev y0] by simp, e1, e2]
      simp only [Builtin.max_, if_true, decide_eq_true_eq]
      rfl
    · cases h
  · rename_i args argTypes ho
    rw [ho]
    split at h
    · rename_i a b ha
      obtain ⟨x0, y0, rfl, r1, r2⟩ := two ha
      obtain ⟨k, n, m, e1, e2, hx⟩ := lmax_sound r1 r2 h
      refine lift (Builtin.min_ argTypes o.type (#[x0, y0].map ev)) ⟨_, ?_, hx⟩
      rw [show #[x0, y0].map ev = #[ev x0, ev y0] by simp, e1, e2]
      simp only [Builtin.min_, Bool.false_eq_true, if_false, decide_eq_true_eq]
      rfl
    · cases h
  · cases h

theorem popS_sound {P : Program} {w : World} {rd : Operand → Option V} {ev : Operand → Value} (hρ : ∀ x a, rd x = some a → VR ρ a (ev x)) {o : Oper} {x : V}
    (h : popS P rd o.op = some x) : ∃ y, (execOp ev o).run P w = .ok (.value y) w ∧ VR ρ x y := by
  unfold popS at h
  split at h
  · rename_i v hv
    simp only [Option.some.injEq] at h; subst h
    exact pop_sound hρ hv
  · exact sym_sound hρ h
end
end Go.Proofs.YtbfdgdigaiimgaaDoor.HM
