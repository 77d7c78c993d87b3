/- The fast machine, 4: arithmetic and comparisons. -/
import Derived.Test.YtkpoeilfnopgbaaGreatDoorPF
namespace Go.Proofs.YtkpoeilfnopgbaaGreatDoor.HM
open Go Go.RowKit
variable [E : Amb]
section
variable (P : Program) (T : TypeId) (c : Bool)
omit [E : Amb] in
theorem vb_nn (op : BinOp) (k : IntKind) (m n : Int) (h1 : op ≠ .shl) (h2 : op ≠ .shr) {v : V} (h : ibin op k m n = some v) : vbinX P op T c (.int k m) (.int k n) = some v := by
 have : vbin P op T (.int k m) (.int k n) = some v := by
  unfold vbin
  cases op <;> first | (exact absurd rfl h1) | (exact absurd rfl h2) | (simp only [if_pos]; exact h)
 unfold vbinX vbinE
 rw [this]; rfl
omit [E : Amb] in
theorem vb_sh (op : BinOp) (k k' : IntKind) (m n : Int) (ho : op = .shl ∨ op = .shr) {v : V} (h : shbin op k m n = some v) : vbinX P op T c (.int k m) (.int k' n) = some v := by
 have : vbin P op T (.int k m) (.int k' n) = some v := by
  unfold vbin
  rcases ho with rfl | rfl <;> exact h
 unfold vbinX vbinE
 rw [this]; rfl
omit [E : Amb] in
theorem vb_ss (op : BinOp) (l m : List UInt8) {v : V} (h : sbin op l m = some v) : vbinX P op T c (.str l) (.str m) = some v := by
 have : vbin P op T (.str l) (.str m) = some v := h
 unfold vbinX vbinE
 rw [this]; rfl
omit [E : Amb] in
theorem le_held {k : IntKind} {n : Nat} {s : OR} {o : Option V} (hs : Le (toO s) (still o)) (h : n ≤ kmax k → o = some (.int k (Int.ofNat n))) : Le (toO (held k n s)) (still o) := by
 rcases held_toO k n s with e | ⟨h1, e⟩
 ·rw [e]; exact hs
 ·rw [e, h h1]; exact Le.refl _
omit [E : Amb] in
theorem le_v {v : V} {o : Option V} (h : o = some v) : Le (toO (.v v)) (still o) := by rw [h]; exact Le.refl _
omit [E : Amb] in
theorem land_le (m n : Nat) : Nat.land m n ≤ m := Nat.and_le_left
omit [E : Amb] in
theorem fb_ok (op : BinOp) (a b : V) : Le (toO (fb (bfOf op) (oV (vbinX P op T c a b)) a b)) (still (vbinX P op T c a b)) := by
 have hs : Le (toO (oV (vbinX P op T c a b))) (still (vbinX P op T c a b)) := by rw [toO_oV]; exact Le.refl _
 cases op with
 | add =>
  show Le (toO (onNN fAdd (onSS (sAdd _) _ a b) a b)) _
  rcases onNN_cases fAdd (onSS (sAdd (oV (vbinX P .add T c a b))) (oV (vbinX P .add T c a b)) a b) a b with e | ⟨k, m, n, rfl, rfl, e⟩
  ·rw [e]
   rcases onSS_cases (sAdd (oV (vbinX P .add T c a b))) (oV (vbinX P .add T c a b)) a b with e | ⟨l, m, rfl, rfl, e⟩
   ·rw [e]; exact hs
   ·rw [e]
    unfold sAdd
    rw [lenF_eq, lenF_eq, forceL_eq, appF_eq]
    cases hb : Nat.ble (Nat.add l.length m.length) 9223372036854775807 with
    | false => exact hs
    | true =>
     refine le_v (vb_ss P T c _ l m ?_)
     show (if l.length + m.length ≤ 9223372036854775807 then some (V.str (l ++ m)) else none) = _
     rw [if_pos (show l.length + m.length ≤ 9223372036854775807 from Nat.le_of_ble_eq_true hb)]
  ·rw [e]
   have hs2 : Le (toO (onSS (sAdd (oV (vbinX P .add T c (.int k (Int.ofNat m)) (.int k (Int.ofNat n))))) (oV (vbinX P .add T c (.int k (Int.ofNat m)) (.int k (Int.ofNat n)))) (.int k (Int.ofNat m)) (.int k (Int.ofNat n)))) (still (vbinX P .add T c (.int k (Int.ofNat m)) (.int k (Int.ofNat n)))) := hs
   refine le_held hs2 fun h => vb_nn P T c _ k _ _ (by decide) (by decide) ?_
   show some (V.int k (k.wrap (Int.ofNat m + Int.ofNat n))) = _
   have : Int.ofNat m + Int.ofNat n = Int.ofNat (Nat.add m n) := rfl
   rw [this, wrap_held h]
 | sub =>
  show Le (toO (onNN fSub _ a b)) _
  rcases onNN_cases fSub (oV (vbinX P .sub T c a b)) a b with e | ⟨k, m, n, rfl, rfl, e⟩
  ·rw [e]; exact hs
  ·rw [e]
   unfold fSub
   cases hb : Nat.ble n m with
   | false => exact hs
   | true =>
    have hle := Nat.le_of_ble_eq_true hb
    refine le_held hs fun h => vb_nn P T c _ k _ _ (by decide) (by decide) ?_
    show some (V.int k (k.wrap (Int.ofNat m - Int.ofNat n))) = _
    have : Int.ofNat m - Int.ofNat n = Int.ofNat (Nat.sub m n) := (Int.ofNat_sub hle).symm
    rw [this, wrap_held h]
 | mul =>
  show Le (toO (onNN fMul _ a b)) _
  rcases onNN_cases fMul (oV (vbinX P .mul T c a b)) a b with e | ⟨k, m, n, rfl, rfl, e⟩
  ·rw [e]; exact hs
  ·rw [e]
   refine le_held hs fun h => vb_nn P T c _ k _ _ (by decide) (by decide) ?_
   show some (V.int k (k.wrap (Int.ofNat m * Int.ofNat n))) = _
   have : Int.ofNat m * Int.ofNat n = Int.ofNat (Nat.mul m n) := rfl
   rw [this, wrap_held h]
 | quo =>
  show Le (toO (onNN fQuo _ a b)) _
  rcases onNN_cases fQuo (oV (vbinX P .quo T c a b)) a b with e | ⟨k, m, n, rfl, rfl, e⟩
  ·rw [e]; exact hs
  ·rw [e]
   unfold fQuo
   cases hb : Nat.beq n 0 with
   | true => exact hs
   | false =>
    have hn : n ≠ 0 := Nat.ne_of_beq_eq_false hb
    refine le_held hs fun h => vb_nn P T c _ k _ _ (by decide) (by decide) ?_
    show (if (Int.ofNat n) = 0 then none else some (V.int k (k.wrap ((Int.ofNat m).tdiv (Int.ofNat n))))) = _
    rw [if_neg (by intro e; exact hn (Int.ofNat.inj e))]
    have : (Int.ofNat m).tdiv (Int.ofNat n) = Int.ofNat (Nat.div m n) := rfl
    rw [this, wrap_held h]
 | rem =>
  show Le (toO (onNN fRem _ a b)) _
  rcases onNN_cases fRem (oV (vbinX P .rem T c a b)) a b with e | ⟨k, m, n, rfl, rfl, e⟩
  ·rw [e]; exact hs
  ·rw [e]
   unfold fRem
   cases hb : Nat.beq n 0 with
   | true => exact hs
   | false =>
    have hn : n ≠ 0 := Nat.ne_of_beq_eq_false hb
    refine le_v (vb_nn P T c _ k _ _ (by decide) (by decide) ?_)
    show (if (Int.ofNat n) = 0 then none else some (V.int k ((Int.ofNat m).tmod (Int.ofNat n)))) = _
    rw [if_neg (by intro e; exact hn (Int.ofNat.inj e))]
    rfl
 | and =>
  show Le (toO (onNN fAnd _ a b)) _
  rcases onNN_cases fAnd (oV (vbinX P .and T c a b)) a b with e | ⟨k, m, n, rfl, rfl, e⟩
  ·rw [e]; exact hs
  ·rw [e]
   unfold fAnd
   cases hb : Nat.ble m (kmax k) with
   | false => exact hs
   | true =>
    cases hd : Nat.ble n (kmax k) with
    | false => exact hs
    | true =>
     have h1 := Nat.le_of_ble_eq_true hb
     have h2 := Nat.le_of_ble_eq_true hd
     have h3 := kmax_bits k
     refine le_v (vb_nn P T c _ k _ _ (by decide) (by decide) ?_)
     show some (V.int k (k.wrap (BitVec.ofInt k.bits (Int.ofNat m) &&& BitVec.ofInt k.bits (Int.ofNat n)).toNat)) = _
     have e1 : (BitVec.ofInt k.bits (Int.ofNat m) &&& BitVec.ofInt k.bits (Int.ofNat n)).toNat = Nat.land m n := by
      have a1 : BitVec.ofInt k.bits (Int.ofNat m) = BitVec.ofNat k.bits m := BitVec.ofInt_natCast _ _
      have a2 : BitVec.ofInt k.bits (Int.ofNat n) = BitVec.ofNat k.bits n := BitVec.ofInt_natCast _ _
      rw [a1, a2, BitVec.toNat_and, BitVec.toNat_ofNat, BitVec.toNat_ofNat, Nat.mod_eq_of_lt (by omega), Nat.mod_eq_of_lt (by omega)]
      rfl
     rw [e1]
     have h4 : Nat.land m n ≤ kmax k := Nat.le_trans (land_le m n) h1
     exact congrArg (fun z => some (V.int k z)) (wrap_held h4)
 | or =>
  show Le (toO (onNN fOr _ a b)) _
  rcases onNN_cases fOr (oV (vbinX P .or T c a b)) a b with e | ⟨k, m, n, rfl, rfl, e⟩
  ·rw [e]; exact hs
  ·rw [e]
   unfold fOr
   cases hb : Nat.ble m (kmax k) with
   | false => exact hs
   | true =>
    cases hd : Nat.ble n (kmax k) with
    | false => exact hs
    | true =>
     have h1 := Nat.le_of_ble_eq_true hb
     have h2 := Nat.le_of_ble_eq_true hd
     have h3 := kmax_bits k
     refine le_held hs fun h => (vb_nn P T c _ k _ _ (by decide) (by decide) ?_)
     show some (V.int k (k.wrap (BitVec.ofInt k.bits (Int.ofNat m) ||| BitVec.ofInt k.bits (Int.ofNat n)).toNat)) = _
     have e1 : (BitVec.ofInt k.bits (Int.ofNat m) ||| BitVec.ofInt k.bits (Int.ofNat n)).toNat = Nat.lor m n := by
      have a1 : BitVec.ofInt k.bits (Int.ofNat m) = BitVec.ofNat k.bits m := BitVec.ofInt_natCast _ _
      have a2 : BitVec.ofInt k.bits (Int.ofNat n) = BitVec.ofNat k.bits n := BitVec.ofInt_natCast _ _
      rw [a1, a2, BitVec.toNat_or, BitVec.toNat_ofNat, BitVec.toNat_ofNat, Nat.mod_eq_of_lt (by omega), Nat.mod_eq_of_lt (by omega)]
      rfl
     rw [e1]
     exact congrArg (fun z => some (V.int k z)) (wrap_held h)
 | shl =>
  show Le (toO (onMM fShl _ a b)) _
  rcases onMM_cases fShl (oV (vbinX P .shl T c a b)) a b with e | ⟨k, k', m, n, rfl, rfl, e⟩
  ·rw [e]; exact hs
  ·rw [e]
   unfold fShl
   cases hb : Nat.ble n (kbits k) with
   | false => exact hs
   | true =>
    have h1 := Nat.le_of_ble_eq_true hb
    rw [kbits_eq] at h1
    refine le_held hs fun h => vb_sh P T c _ k k' _ _ (.inl rfl) ?_
    unfold shbin
    rw [if_neg (by exact Int.not_lt.2 (Int.natCast_nonneg n))]
    show some (V.int k (k.wrap (Int.ofNat m * 2 ^ min (Int.ofNat n).toNat k.bits))) = _
    have e0 : (Int.ofNat n).toNat = n := rfl
    rw [e0, Nat.min_eq_left h1]
    have e1 : (Int.ofNat m * 2 ^ n : Int) = Int.ofNat (Nat.mul m (Nat.pow 2 n)) := by
     show ((m : Int) * 2 ^ n) = ((m * 2 ^ n : Nat) : Int)
     simp
    rw [e1, wrap_held h]
 | shr =>
  show Le (toO (onMM fShr _ a b)) _
  rcases onMM_cases fShr (oV (vbinX P .shr T c a b)) a b with e | ⟨k, k', m, n, rfl, rfl, e⟩
  ·rw [e]; exact hs
  ·rw [e]
   unfold fShr
   cases hb : Nat.ble n (kbits k) with
   | false => exact hs
   | true =>
    have h1 := Nat.le_of_ble_eq_true hb
    rw [kbits_eq] at h1
    refine le_v (vb_sh P T c _ k k' _ _ (.inr rfl) ?_)
    unfold shbin
    rw [if_neg (by exact Int.not_lt.2 (Int.natCast_nonneg n))]
    show some (V.int k ((Int.ofNat m).fdiv (2 ^ min (Int.ofNat n).toNat k.bits))) = _
    have e0 : (Int.ofNat n).toNat = n := rfl
    rw [e0, Nat.min_eq_left h1]
    have e1 : ((2 : Int) ^ n) = Int.ofNat (Nat.pow 2 n) := by
     show (2 : Int) ^ n = ((2 ^ n : Nat) : Int)
     simp
    rw [e1]
    exact congrArg (fun z => some (V.int k z)) (Int.ofNat_fdiv m (Nat.pow 2 n)).symm
 | lss =>
  show Le (toO (onNN fLss _ a b)) _
  rcases onNN_cases fLss (oV (vbinX P .lss T c a b)) a b with e | ⟨k, m, n, rfl, rfl, e⟩
  ·rw [e]; exact hs
  ·rw [e]
   refine le_v (vb_nn P T c _ k _ _ (by decide) (by decide) ?_)
   show some (V.bool (decide (Int.ofNat m < Int.ofNat n))) = some (V.bool (Nat.ble (Nat.add m 1) n))
   congr 2
   rw [Bool.eq_iff_iff, decide_eq_true_iff, Nat.ble_eq]
   exact Int.ofNat_lt
 | leq =>
  show Le (toO (onNN fLeq _ a b)) _
  rcases onNN_cases fLeq (oV (vbinX P .leq T c a b)) a b with e | ⟨k, m, n, rfl, rfl, e⟩
  ·rw [e]; exact hs
  ·rw [e]
   refine le_v (vb_nn P T c _ k _ _ (by decide) (by decide) ?_)
   show some (V.bool (decide (Int.ofNat m ≤ Int.ofNat n))) = some (V.bool (Nat.ble m n))
   congr 2
   rw [Bool.eq_iff_iff, decide_eq_true_iff, Nat.ble_eq]
   exact Int.ofNat_le
 | gtr =>
  show Le (toO (onNN fGtr _ a b)) _
  rcases onNN_cases fGtr (oV (vbinX P .gtr T c a b)) a b with e | ⟨k, m, n, rfl, rfl, e⟩
  ·rw [e]; exact hs
  ·rw [e]
   refine le_v (vb_nn P T c _ k _ _ (by decide) (by decide) ?_)
   show some (V.bool (decide (Int.ofNat n < Int.ofNat m))) = some (V.bool (Nat.ble (Nat.add n 1) m))
   congr 2
   rw [Bool.eq_iff_iff, decide_eq_true_iff, Nat.ble_eq]
   exact Int.ofNat_lt
 | geq =>
  show Le (toO (onNN fGeq _ a b)) _
  rcases onNN_cases fGeq (oV (vbinX P .geq T c a b)) a b with e | ⟨k, m, n, rfl, rfl, e⟩
  ·rw [e]; exact hs
  ·rw [e]
   refine le_v (vb_nn P T c _ k _ _ (by decide) (by decide) ?_)
   show some (V.bool (decide (Int.ofNat n ≤ Int.ofNat m))) = some (V.bool (Nat.ble n m))
   congr 2
   rw [Bool.eq_iff_iff, decide_eq_true_iff, Nat.ble_eq]
   exact Int.ofNat_le
 | eql =>
  show Le (toO (onNN fEql (onSS sEql _ a b) a b)) _
  rcases onNN_cases fEql (onSS sEql (oV (vbinX P .eql T c a b)) a b) a b with e | ⟨k, m, n, rfl, rfl, e⟩
  ·rw [e]
   rcases onSS_cases sEql (oV (vbinX P .eql T c a b)) a b with e | ⟨l, m, rfl, rfl, e⟩
   ·rw [e]; exact hs
   ·rw [e]
    refine le_v (vb_ss P T c _ l m ?_)
    show some (V.bool (decide (l = m))) = some (V.bool (beqS l m))
    rw [beqS_eq]
  ·rw [e]
   refine le_v (vb_nn P T c _ k _ _ (by decide) (by decide) ?_)
   show some (V.bool (decide (Int.ofNat m = Int.ofNat n))) = some (V.bool (Nat.beq m n))
   congr 2
   rw [Bool.eq_iff_iff, decide_eq_true_iff, Nat.beq_eq]
   exact ⟨fun h => Int.ofNat.inj h, fun h => by rw [h]⟩
 | neq =>
  show Le (toO (onNN fNeq (onSS sNeq _ a b) a b)) _
  rcases onNN_cases fNeq (onSS sNeq (oV (vbinX P .neq T c a b)) a b) a b with e | ⟨k, m, n, rfl, rfl, e⟩
  ·rw [e]
   rcases onSS_cases sNeq (oV (vbinX P .neq T c a b)) a b with e | ⟨l, m, rfl, rfl, e⟩
   ·rw [e]; exact hs
   ·rw [e]
    refine le_v (vb_ss P T c _ l m ?_)
    show some (V.bool (!decide (l = m))) = some (V.bool (Bool.rec (motive := fun _ => Bool) true false (beqS l m)))
    rw [beqS_eq]
    cases decide (l = m) <;> rfl
  ·rw [e]
   refine le_v (vb_nn P T c _ k _ _ (by decide) (by decide) ?_)
   show some (V.bool (!decide (Int.ofNat m = Int.ofNat n))) = some (V.bool (Bool.rec (motive := fun _ => Bool) true false (Nat.beq m n)))
   have : decide (Int.ofNat m = Int.ofNat n) = Nat.beq m n := by
    rw [Bool.eq_iff_iff, decide_eq_true_iff, Nat.beq_eq]
    exact ⟨fun h => Int.ofNat.inj h, fun h => by rw [h]⟩
   rw [this]
   cases Nat.beq m n <;> rfl
 | xor => exact hs
 | andNot => exact hs
end
omit [E : Amb] in
theorem fPick_ok (c x y : V) : Le (toO (fPick c x y)) (still (match c with | .bool t => if t then some x else some y | _ => none)) := by
 cases c with
 | bool b => cases b <;> exact Le.refl _
 | _ => exact Le.none _
omit [E : Amb] in
theorem fNilc_ok (v : V) : Le (toO (fNilc v)) (still (match v with | .ptr a o => some (.ptr a o) | .gp a o => some (.gp a o) | .iface t v => some (.iface t v) | .fn f a b => some (.fn f a b) | .pp cs => some (.pp cs) | _ => none)) := by
 cases v <;> first | exact Le.refl _ | exact Le.none _
omit [E : Amb] in
theorem fNot_ok (v : V) : Le (toO (fNot v)) (still (vun .not v)) := by
 cases v with
 | bool b => cases b <;> exact Le.refl _
 | anyb => exact Le.refl _
 | _ => exact Le.none _
omit [E : Amb] in
theorem fFaddr_ok (v : V) (k : Nat) : toO (fFaddr v k) = still (vfield k v) := by
 cases v with
 | pp cs =>
  show some (V.pp (dropF k cs), none) = some (V.pp (cs.drop k), none)
  rw [dropF_eq]
 | _ => rfl
omit [E : Amb] in
theorem fFld1_ok (v : V) (k z : Nat) : Le (toO (fFld1 v k)) (still (match v with | .agg cs => vpart cs k z false | _ => none)) := by
 cases v with
 | agg cs =>
  show Le (toO (oV (nthF k cs))) _
  rw [toO_oV, nthF_eq]; exact Le.refl _
 | _ => exact Le.none _
omit [E : Amb] in
theorem fldA_ok (cs : List V) (k z : Nat) : toO (fFldA (.agg cs) k z) = still (vpart cs k z true) := by
 show toO (Bool.rec (motive := fun _ => OR) OR.no (.v (.agg (takeF z (dropF k cs)))) (Nat.ble (Nat.add k z) (lenF cs))) = _
 rw [takeF_eq, dropF_eq, lenF_eq]
 simp only [vpart, if_true]
 have e : Nat.add k z = k + z := rfl
 rw [e]
 cases h : Nat.ble (k + z) cs.length with
 | true => rw [if_pos (Nat.le_of_ble_eq_true h)]; rfl
 | false => rw [if_neg (fun hh => by rw [Nat.ble_eq_true_of_le hh] at h; cases h)]; rfl
omit [E : Amb] in
theorem fFldA_ok (v : V) (k z : Nat) : Le (toO (fFldA v k z)) (still (match v with | .agg cs => vpart cs k z true | _ => none)) := by
 cases v with
 | agg cs => rw [fldA_ok]; exact Le.refl _
 | _ => exact Le.none _
omit [E : Amb] in
theorem ble_succ {m n : Nat} (h : Nat.ble (Nat.add m 1) n = true) : m < n := Nat.le_of_ble_eq_true h
omit [E : Amb] in
theorem orV_le_l {a b : Option V} : Le (still a) (still (orV a b)) := by
 cases a with
 | none => exact Le.none _
 | some v => exact Le.refl _
omit [E : Amb] in
theorem lpick0_none (sz : Nat) (a i : V) (h : ∀ k c ts, i ≠ .lin k c ts) : lpick0 sz a i = none := by
 unfold lpick0
 split
 ·rename_i k c ts; exact absurd rfl (h k c ts)
 ·rfl
omit [E : Amb] in
theorem fIadr_ok (sz : Nat) (a i : V) : Le (toO (fIadr sz a i)) (still (orV (match i with
  | .int _ n => match a with
   | .sl b o len sz' => if 0 ≤ n ∧ n.toNat < len ∧ sz = sz' then some (.ptr b (o + n.toNat * sz)) else none
   | .pl len sz' cs => if 0 ≤ n ∧ n.toNat < len ∧ sz = sz' then some (.pp ((cs.drop (n.toNat * sz)).take sz)) else none
   | _ => none
  | _ => none) (lpick0 sz a i))) := by
 unfold fIadr
 cases hi : asN i with
 | no =>
  simp only [toO_oV]
  cases i with
  | lin k c ts => exact Le.refl _
  | _ => rw [lpick0_none _ _ _ (fun _ _ _ e => by cases e)]; exact Le.none _
 | mk k m =>
  obtain rfl := asN_inv hi
  refine Le.trans ?_ orV_le_l
  cases ha : asL a with
  | no => exact Le.none _
  | mk b o n z =>
   obtain rfl := asL_inv ha
   cases h1 : Nat.ble (Nat.add m 1) n with
   | false => simp only [h1]; exact Le.none _
   | true =>
    cases h2 : Nat.beq sz z with
    | false => simp only [h1, h2]; exact Le.none _
    | true =>
     have e2 := Nat.eq_of_beq_eq_true h2
     have e1 := ble_succ h1
     simp only [h1, h2]
     rw [if_pos ⟨Int.natCast_nonneg m, e1, e2⟩]
     exact Le.refl _
  | pl n z cs =>
   obtain rfl := asL_pl ha
   cases h1 : Nat.ble (Nat.add m 1) n with
   | false => simp only [h1]; exact Le.none _
   | true =>
    cases h2 : Nat.beq sz z with
    | false => simp only [h1, h2]; exact Le.none _
    | true =>
     have e2 := Nat.eq_of_beq_eq_true h2
     have e1 := ble_succ h1
     simp only [h1, h2]
     rw [if_pos ⟨Int.natCast_nonneg m, e1, e2⟩, takeF_eq, dropF_eq]
     exact Le.refl _
omit [E : Amb] in
theorem fIadrA_ok (len sz : Nat) (a i : V) : Le (toO (fIadrA len sz a i)) (still (match i with
  | .int _ n => if 0 ≤ n ∧ n.toNat < len then vfield (n.toNat * sz) a else none
  | _ => none)) := by
 unfold fIadrA
 cases hi : asN i with
 | no => exact Le.none _
 | mk k m =>
  obtain rfl := asN_inv hi
  cases h1 : Nat.ble (Nat.add m 1) len with
  | false => simp only [h1]; exact Le.none _
  | true =>
   have e1 := ble_succ h1
   simp only [h1]
   rw [if_pos ⟨Int.natCast_nonneg m, e1⟩, fFaddr_ok]
   exact Le.refl _
omit [E : Amb] in
theorem fIdxS_ok (P : Program) (T : TypeId) (hT : P.underlying T = some .string) (a i : V) : Le (toO (fIdxS a i)) (still (orV (opIndex P T a i) (lidx P T a i))) := by
 unfold fIdxS
 cases hi : asN i with
 | no =>
  simp only [toO_oV]
  cases a with
  | str l => cases i with
   | lin k c ts => simp only [opIndex, lidx, hT]; exact Le.refl _
   | _ => exact Le.none _
  | sstr l => cases i with
   | int k n => simp only [opIndex, lidx, hT]; exact Le.refl _
   | _ => exact Le.none _
  | _ => exact Le.none _
 | mk k m =>
  obtain rfl := asN_inv hi
  cases ha : asS a with
  | no =>
   simp only [toO_oV]
   cases a with
   | sstr l => simp only [opIndex, lidx, hT]; exact Le.refl _
   | _ => exact Le.none _
  | mk l =>
   obtain rfl := asS_inv ha
   refine Le.trans ?_ orV_le_l
   simp only [nthF_eq, opIndex, hT]
   rw [if_pos (show (0 : Int) ≤ Int.ofNat m from Int.natCast_nonneg m)]
   show Le (toO (u8V l[m]?)) (still ((l[m]?).map _))
   cases l[m]? <;> first | exact Le.refl _ | exact Le.none _
omit [E : Amb] in
theorem fIdxA_ok (len sz : Nat) (ag : Bool) (a i : V) : Le (toO (fIdxA len sz ag a i)) (still (match a, i with
  | .agg cs, .int _ n => if 0 ≤ n ∧ n.toNat < len then vpart cs (n.toNat * sz) sz ag else none
  | _, _ => none)) := by
 unfold fIdxA
 cases hi : asN i with
 | no => exact Le.none _
 | mk k m =>
  obtain rfl := asN_inv hi
  cases ha : asC a with
  | no => exact Le.none _
  | mk cs =>
   obtain rfl := asC_inv ha
   cases h1 : Nat.ble (Nat.add m 1) len with
   | false => simp only [h1]; exact Le.none _
   | true =>
    have e1 := ble_succ h1
    simp only [h1]
    rw [if_pos ⟨Int.natCast_nonneg m, e1⟩]
    cases ag with
    | true =>
     show Le (toO (fFldA (.agg cs) (Nat.mul m sz) sz)) _
     rw [fldA_ok]; exact Le.refl _
    | false =>
     show Le (toO (oV (nthF (Nat.mul m sz) cs))) _
     rw [toO_oV, nthF_eq]
     exact Le.refl _
omit [E : Amb] in
theorem fBound_ok (o : Option V) (len d h : Nat) (hb : fBound o len d = .mk h) : vbound len o d = some h := by
 cases o with
 | none => cases hb; rfl
 | some v =>
  revert hb
  show NV.rec (motive := fun _ => BV) .no (fun _ n => Bool.rec (motive := fun _ => BV) .no (.mk n) (Nat.ble n len)) (asN v) = _ → _
  cases hv : asN v with
  | no => intro hb; cases hb
  | mk k n =>
   obtain rfl := asN_inv hv
   cases h1 : Nat.ble n len with
   | false => simp only [h1]; intro hb; cases hb
   | true =>
    simp only [h1]; intro hb; cases hb
    simp only [vbound]
    rw [if_pos ⟨Int.natCast_nonneg _, Nat.le_of_ble_eq_true h1⟩]
    rfl
omit [E : Amb] in
theorem fSliS_ok (P : Program) (T : TypeId) (hT : P.underlying T = some .string) (a : V) (lo hi : Option V) : Le (toO (fSliS (oV (opSliceX P T a lo hi)) lo hi a)) (still (opSliceX P T a lo hi)) := by
 unfold fSliS
 cases ha : asS a with
 | no => rw [toO_oV]; exact Le.refl _
 | mk l =>
  obtain rfl := asS_inv ha
  simp only
  cases h1 : fBound hi (lenF l) (lenF l) with
  | no => exact Le.none _
  | mk h =>
   have e1 := fBound_ok _ _ _ _ h1
   rw [lenF_eq] at e1
   simp only
   cases h2 : fBound lo h 0 with
   | no => exact Le.none _
   | mk k =>
    have e2 := fBound_ok _ _ _ _ h2
    have e3 : opSliceX P T (.str l) lo hi = some (.str ((l.take h).drop k)) := by
     simp only [opSliceX, orV, opSlice, hT, e1, e2]
    rw [e3]
    cases h3 : Nat.beq h (lenF l) with
    | true =>
     have := Nat.eq_of_beq_eq_true h3
     rw [lenF_eq] at this
     subst this
     simp only [dropF_eq, List.take_length]
     exact Le.refl _
    | false =>
     simp only [dropF_eq, takeF_eq]
     exact Le.refl _
omit [E : Amb] in
theorem fConv_ok (k : IntKind) (v : V) : Le (toO (fConv k v)) (still (match v with | .int _ n => some (.int k (k.wrap n)) | .lin _ c ts => fit k c ts | _ => none)) := by
 cases v with
 | int k' n =>
  cases n with
  | ofNat m =>
   show Le (toO (held k m (.v (.int k (k.wrap (.ofNat m)))))) _
   rcases held_toO k m (.v (.int k (k.wrap (.ofNat m)))) with e | ⟨h1, e⟩
   ·rw [e]; exact Le.refl _
   ·rw [e]
    refine le_v ?_
    show some (V.int k (k.wrap (Int.ofNat m))) = _
    rw [wrap_held h1]
  | negSucc m => exact Le.refl _
 | lin k' c ts =>
  show Le (toO (oV (fit k c ts))) _
  rw [toO_oV]; exact Le.refl _
 | _ => exact Le.none _
omit [E : Amb] in
theorem fExt_ok (v : V) (k : Nat) : Le (toO (fExt v k)) (still (opExtract v k)) := by
 cases v with
 | tup cs =>
  show Le (toO (oV (nthF k cs))) _
  rw [toO_oV, nthF_eq]; exact Le.refl _
 | _ => exact Le.none _
omit [E : Amb] in
theorem fLenS_ok (v : V) : Le (toO (fLenS v)) (still (match v with | .str l => some (.int .i64 l.length) | .sstr l => some (.int .i64 l.length) | .mod 0 i => some (.lin .i64 0 [⟨1, i + 5000, 0, ((i % 4096 : Nat) : Int)⟩]) | _ => none)) := by
 cases v with
 | mod m i => cases m <;> first | exact Le.refl _ | exact Le.none _
 | str l =>
  show Le (toO (.v (.int .i64 (Int.ofNat (lenF l))))) _
  rw [lenF_eq]; exact Le.refl _
 | sstr l =>
  show Le (toO (.v (.int .i64 (Int.ofNat (lenF l))))) _
  rw [lenF_eq]; exact Le.refl _
 | _ => exact Le.none _
omit [E : Amb] in
theorem fLenL_ok (v : V) : Le (toO (fLenL v)) (still (match v with | .nils => some (.int .i64 0) | .sl _ _ n _ => some (.int .i64 n) | .pl n _ _ => some (.int .i64 n) | _ => none)) := by
 cases v <;> first | exact Le.refl _ | exact Le.none _
omit [E : Amb] in
theorem fCells_ok (_P : Program) (Γ : Glob) (h : Hp) (_T : TypeId) (v : V) (n : Nat) (f : List V → Nat → OR) (o : List V → Option V) (hf : ∀ xs, Le (toO (f xs n)) (still (o xs))) : Le (toO (fCells v Γ h n f)) (still ((h.cellsAt Γ v).bind o)) := by
 unfold fCells
 cases hp : asP v with
 | no => exact Le.none _
 | p a o' =>
  obtain rfl := asP_p hp
  simp only [getT_eq, dropF_eq, Hp.cellsAt]
  cases hb : h.t.get a with
  | none => exact Le.none _
  | some b =>
   cases b with
   | cells f1 f2 f3 xs => exact hf _
   | _ => exact Le.none _
 | g a o' =>
  obtain rfl := asP_g hp
  simp only [getT_eq, dropF_eq, Hp.cellsAt]
  cases hb : Γ.get a with
  | none => exact Le.none _
  | some xs => exact hf _
 | c cs =>
  rcases asP_c hp with rfl | ⟨x, rfl, rfl⟩ <;> exact hf _
omit [E : Amb] in
theorem ld1_ok (P : Program) (Γ : Glob) (h : Hp) (T : TypeId) (v : V) (hT : isAggT P T = some false) : Le (toO (fCells v Γ h 0 head1)) (still (opLoad P Γ h T v)) := by
 have e : opLoad P Γ h T v = (h.cellsAt Γ v).bind fun xs => match xs with | x :: _ => some x | [] => none := by
  unfold opLoad
  rw [hT]
  cases h.cellsAt Γ v with
  | none => rfl
  | some xs => cases xs <;> rfl
 rw [e]
 refine fCells_ok P Γ h T v 0 head1 _ fun xs => ?_
 cases xs <;> first | exact Le.refl _ | exact Le.none _
omit [E : Amb] in
theorem ldN_ok (P : Program) (Γ : Glob) (h : Hp) (T : TypeId) (v : V) (n : Nat) (hT : isAggT P T = some true) (hn : szOf P T = some n) : Le (toO (fCells v Γ h n headN)) (still (opLoad P Γ h T v)) := by
 have e : opLoad P Γ h T v = (h.cellsAt Γ v).bind fun xs => if n ≤ xs.length then some (.agg (xs.take n)) else none := by
  unfold opLoad
  rw [hT, hn]
  cases h.cellsAt Γ v with
  | none => rfl
  | some xs => cases xs <;> rfl
 rw [e]
 refine fCells_ok P Γ h T v n headN _ fun xs => ?_
 unfold headN
 rw [lenF_eq, takeF_eq]
 cases hb : Nat.ble n xs.length with
 | true => rw [if_pos (Nat.le_of_ble_eq_true hb)]; exact Le.refl _
 | false => exact Le.none _
omit [E : Amb] in
theorem aloneF_inv {o : Option (List (Nat × Nat))} {b : Nat} (h : aloneF o b = true) : ∃ e, o = some [(b, e)] := by
 cases o with
 | none => cases h
 | some l =>
  cases l with
  | nil => cases h
  | cons p r =>
   cases r with
   | nil =>
    obtain ⟨a, e⟩ := p
    have : a = b := Nat.eq_of_beq_eq_true h
    subst this
    exact ⟨e, rfl⟩
   | cons q r => cases h
omit [E : Amb] in
theorem kill_alone {h : Hp} {b f p e : Nat} (hf : h.fams.get f = some [(b, e)]) : h.kill b f p = some h := by
 unfold Hp.kill
 rw [hf]
 have : killBut b p [(b, e)] h.t = ([(b, e)], h.t) := by
  simp only [killBut]
  cases Nat.ble e p with
  | true => rfl
  | false => simp
 simp only [this, put_same _ _ hf]
omit [E : Amb] in
theorem stoF_ok (h : Hp) (b o : Nat) (ys : List V) (s : OR) (X : Option (V × Option Hp)) (hs : Le (toO s) X) (hX : X = match h.write b o ys with | some h' => some (.tup [], some h') | none => none) : Le (toO (stoF h b o ys s)) X := by
 cases h with
 | mk nx t f e =>
  show Le (toO (Option.rec (motive := fun _ => OR) s (fun bk => Blk.rec (motive := fun _ => OR) (fun fm fb fz xs =>
   Bool.rec (motive := fun _ => OR) s (Bool.rec (motive := fun _ => OR) s (Bool.rec (motive := fun _ => OR) s (Bool.rec (motive := fun _ => OR) s
    (forceL (appF (takeF o xs) (appF ys (dropF (Nat.add o (lenF ys)) xs))) (fun zs => putK (some (.cells fm fb fz zs)) t b (fun t' => .w (.tup []) ⟨nx, t', f, e⟩)))
    (aloneF (getT f fm) b)) (allOne ys)) (Nat.ble fz o)) (Nat.ble (Nat.add o (lenF ys)) (lenF xs))) (fun _ _ => s) (fun _ _ => s) bk) (getT t b))) X
  rw [getT_eq]
  cases hb : t.get b with
  | none => exact hs
  | some bk =>
   cases bk with
   | iter l p => exact hs
   | mapo es c => exact hs
   | cells fm fb fz xs =>
    simp only [lenF_eq, allOne_eq]
    cases h1 : Nat.ble (Nat.add o ys.length) xs.length with
    | false => exact hs
    | true =>
     cases h2 : Nat.ble fz o with
     | false => exact hs
     | true =>
      cases h3 : ys.all V.one with
      | false => exact hs
      | true =>
       cases h4 : aloneF (getT f fm) b with
       | false => simp only []; exact hs
       | true =>
        rw [getT_eq] at h4
        obtain ⟨en, he⟩ := aloneF_inv h4
        have hw : (Hp.mk nx t f e).write b o ys = some ⟨nx, t.put (some (.cells fm fb fz (splice xs ys o))) b, f, e⟩ := by
         unfold Hp.write
         simp only [hb]
         rw [if_pos ⟨Nat.le_of_ble_eq_true h1, Nat.le_of_ble_eq_true h2, h3⟩, kill_alone (h := Hp.mk nx t f e) he]
        rw [hX, hw]
        simp only
        rw [forceL_eq, putK_eq, appF_eq, appF_eq, takeF_eq, dropF_eq]
        exact Le.refl _
omit [E : Amb] in
theorem vfillF_eq (pl : Nat → Option (Nat × Nat)) : ∀ (l : List (Nat × V)) (cs : List V), vfillF pl l cs = vfill pl cs l := by
 intro l
 induction l with
 | nil => intro cs; rfl
 | cons p l ih =>
  intro cs
  obtain ⟨i, v⟩ := p
  show Option.rec (motive := fun _ => Option (List V)) none (fun q => Bool.rec (motive := fun _ => Option (List V)) none (Bool.rec (motive := fun _ => Option (List V)) (Bool.rec (motive := fun _ => Option (List V)) none
   (forceL (appF (takeF q.1 cs) (appF v.cells (dropF (Nat.add q.1 (lenF v.cells)) cs))) (fun zs => vfillF pl l zs)) (Nat.ble (Nat.add q.1 (lenF v.cells)) (lenF cs))) none v.isAny) (Nat.beq (lenF v.cells) q.2)) (pl i) = _
  simp only [vfill]
  cases pl i with
  | none => rfl
  | some q =>
   obtain ⟨off, size⟩ := q
   simp only [forceL_eq, appF_eq, takeF_eq, dropF_eq, lenF_eq, ih]
   cases h1 : Nat.beq v.cells.length size with
   | false =>
    rw [if_neg (fun h => Nat.ne_of_beq_eq_false h1 h.1.1)]
   | true =>
    cases h2 : v.isAny with
    | true => rw [if_neg (fun h => by cases h.1.2)]
    | false =>
     cases h3 : Nat.ble (Nat.add off v.cells.length) cs.length with
     | false => rw [if_neg (fun h => by rw [show Nat.ble (Nat.add off v.cells.length) cs.length = true from Nat.ble_eq_true_of_le h.2] at h3; cases h3)]
     | true =>
      rw [if_pos ⟨⟨Nat.eq_of_beq_eq_true h1, rfl⟩, Nat.le_of_ble_eq_true h3⟩]
      rfl
omit [E : Amb] in
theorem fSto_ok (C : Cfg) (h : Hp) (T : TypeId) (n : Nat) (a v : V) (hn : szOf C.P T = some n) : Le (toO (fSto n a v C h)) (match opStore C.P h T a v with | some h' => some (.tup [], some h') | none => none) := by
 unfold fSto
 cases hp : asP a with
 | no => exact Le.none _
 | g a o' => exact Le.none _
 | c cs => exact Le.none _
 | p b o =>
  obtain rfl := asP_p hp
  simp only [lenF_eq, opStore, hn]
  cases h1 : Nat.beq v.cells.length n with
  | false => exact Le.none _
  | true =>
   cases h2 : v.isAny with
   | true => exact Le.none _
   | false =>
    simp only
    rw [if_pos ⟨Nat.eq_of_beq_eq_true h1, trivial⟩]
    refine stoF_ok h b o v.cells _ _ ?_ rfl
    cases h.write b o v.cells with
    | none => exact Le.none _
    | some h' =>
     show Le (toO (forceH h' [b] [b] [] (fun h2 => .w (.tup []) h2))) _
     rw [forceH_eq]; exact Le.refl _
omit [E : Amb] in
theorem cutF_some {h : Hp} {sz a o n : Nat} {ys : List V} (hc : cutF h sz a o n = some ys) : ∃ fm fb fz xs, h.t.get a = some (.cells fm fb fz xs) ∧ o + n * sz ≤ xs.length ∧ ys = (xs.drop o).take (n * sz) := by
 unfold cutF at hc
 rw [getT_eq] at hc
 cases hb : h.t.get a with
 | none => rw [hb] at hc; cases hc
 | some bk =>
  rw [hb] at hc
  cases bk with
  | iter l p => cases hc
  | mapo es c => cases hc
  | cells fm fb fz xs =>
   simp only [lenF_eq, takeF_eq, dropF_eq] at hc
   cases h1 : Nat.ble (Nat.add o (Nat.mul n sz)) xs.length with
   | false => rw [h1] at hc; cases hc
   | true =>
    rw [h1] at hc
    simp only [Option.some.injEq] at hc
    exact ⟨fm, fb, fz, xs, rfl, Nat.le_of_ble_eq_true h1, hc.symm⟩
omit [E : Amb] in
theorem tailF_ok {h : Hp} {sz : Nat} {y : V} {f : List V → Nat → OR} {s : OR} {X : Option (V × Option Hp)} (hs : Le (toO s) X)
  (hf : ∀ ys k, elemsOf h sz y = some (ys, k) → k ≠ 0 → ys.all V.one = true → Le (toO (f ys k)) X) : Le (toO (tailF h sz y f s)) X := by
 unfold tailF
 cases hy : asL y with
 | no => exact hs
 | mk a o k z =>
  obtain rfl := asL_inv hy
  cases h1 : Nat.beq z sz with
  | false => simp only [h1]; exact hs
  | true =>
   cases h2 : Nat.beq k 0 with
   | true => simp only [h1, h2]; exact hs
   | false =>
    simp only [h1, h2]
    cases hc : cutF h sz a o k with
    | none => exact hs
    | some ys =>
     simp only [allOne_eq]
     cases h3 : ys.all V.one with
     | false => exact hs
     | true =>
      have hz := Nat.eq_of_beq_eq_true h1
      have hk : k ≠ 0 := Nat.ne_of_beq_eq_false h2
      obtain ⟨fm, fb, fz, xs, q1, q2, q3⟩ := cutF_some hc
      refine hf ys k ?_ hk h3
      cases k with
      | zero => exact absurd rfl hk
      | succ k =>
       simp only [elemsOf]
       rw [if_pos hz, q1]
       simp only
       rw [if_pos q2, q3]
 | pl k z cs =>
  obtain rfl := asL_pl hy
  cases h1 : Nat.beq z sz with
  | false => simp only [h1]; exact hs
  | true =>
   cases h2 : Nat.beq k 0 with
   | true => simp only [h1, h2]; exact hs
   | false =>
    simp only [h1, h2, allOne_eq]
    cases h3 : cs.all V.one with
    | false => exact hs
    | true =>
     refine hf cs k ?_ (Nat.ne_of_beq_eq_false h2) h3
     simp only [elemsOf]
     rw [if_pos (Nat.eq_of_beq_eq_true h1)]
omit [E : Amb] in
theorem growF_ok {P : Program} {h : Hp} {e sz by_ a o n k : Nat} {os ys : List V} {y : V} {zs : List V} {s : OR} {X : Option (V × Option Hp)} (hs : Le (toO s) X)
  (h1 : szOf P e = some sz) (h2 : bytesOf P e = some by_) (h3 : zeroC P e = some zs) (hz : zs.length = sz) (hsz : 0 < sz) (hby : 0 < by_)
  (hy : elemsOf h sz y = some (ys, k)) (hk : k ≠ 0) (hone : ys.all V.one = true) (hx : elemsOf h sz (.sl a o n sz) = some (os, n)) (hroom : roomOk (n + k) by_ = true)
  (hX : X = opAppendE P h e (.sl a o n sz) y) : Le (toO (growF h e sz a o n os k ys s)) X := by
 cases h with
 | mk nx t fs es =>
  unfold growF
  simp only [getT_eq]
  cases hb : t.get a with
  | none => exact hs
  | some bk =>
   cases bk with
   | iter l p => exact hs
   | mapo es' c => exact hs
   | cells fm fb fz xs =>
    simp only [lenF_eq]
    cases g1 : Nat.ble (Nat.add o (Nat.mul n sz)) xs.length with
    | false => exact hs
    | true =>
     cases g2 : Nat.ble fz (Nat.add o (Nat.mul n sz)) with
     | false => exact hs
     | true =>
      cases g3 : fs.get fm with
      | none => exact hs
      | some l =>
       cases l with
       | nil => exact hs
       | cons q l =>
        obtain ⟨b1, e1⟩ := q
        cases g4 : Nat.ble e1 (Nat.add fb (Nat.add o (Nat.mul n sz))) with
        | false =>
         have : headF ((b1, e1) :: l) (Nat.add fb (Nat.add o (Nat.mul n sz))) = false := g4
         simp only [this]; exact hs
        | true =>
         have g5 : headF ((b1, e1) :: l) (Nat.add fb (Nat.add o (Nat.mul n sz))) = true := g4
         simp only [g5]
         have le1 := Nat.le_of_ble_eq_true g1
         have le2 := Nat.le_of_ble_eq_true g2
         have le3 := Nat.le_of_ble_eq_true g4
         have hkill : (Hp.mk nx t fs es).kill nx fm (fb + (o + n * sz)) = some ⟨nx, t, fs, es⟩ := by
          unfold Hp.kill
          simp only [g3]
          have e0 : killBut nx (fb + (o + n * sz)) ((b1, e1) :: l) t = ((b1, e1) :: l, t) := by
           simp only [killBut]
           have : Nat.ble e1 (fb + (o + n * sz)) = true := g4
           rw [this]
          simp only [e0, put_same _ _ g3]
         have hlen : (os ++ ys).length = os.length + ys.length := List.length_append
         have hgrow : (Hp.mk nx t fs es).grownBy fm (fb + o) (fz - o) (os ++ ys) = some ⟨nx + 1, t.put (some (.cells fm (fb + o) (fz - o) (os ++ ys))) nx, fs.put (some ((nx, fb + o + (os ++ ys).length) :: (b1, e1) :: l)) fm, es⟩ := by
          unfold Hp.grownBy
          simp only [g3]
          have hos : n * sz ≤ os.length := by
           simp only [elemsOf, if_true] at hx
           cases n with
           | zero => omega
           | succ n =>
            simp only [hb] at hx
            rw [if_pos (show o + (n + 1) * sz ≤ xs.length from le1)] at hx
            simp only [Option.some.injEq, Prod.mk.injEq, and_true] at hx
            rw [← hx, List.length_take, List.length_drop]
            have : o + (n + 1) * sz ≤ xs.length := le1
            omega
          have : headOk (fb + o + (os ++ ys).length) ((b1, e1) :: l) = true := by
           simp only [headOk]
           apply Nat.ble_eq_true_of_le
           have : e1 ≤ fb + (o + n * sz) := le3
           omega
          rw [this]
         have happ : opAppend P ⟨nx, t, fs, es⟩ e (.sl a o n sz) y = some (.sl nx 0 (n + k) sz, some ⟨nx + 1, t.put (some (.cells fm (fb + o) (fz - o) (os ++ ys))) nx, fs.put (some ((nx, fb + o + (os ++ ys).length) :: (b1, e1) :: l)) fm, es⟩) := by
          unfold opAppend
          simp only [h1, h2, h3, hy, hx]
          rw [if_pos ⟨hsz, hby, hz, hone, hroom⟩]
          cases k with
          | zero => exact absurd rfl hk
          | succ k =>
           simp only [hb]
           rw [if_pos ⟨le1, le2⟩, hkill]
           simp only [hgrow]
         rw [hX]
         unfold opAppendE
         simp only [happ, forceL_eq, putK_eq, appF_eq]
         cases g6 : es.get a with
         | none => exact Le.refl _
         | some e0 =>
          simp only
          cases g7 : Nat.beq (Nat.div e0 2) e with
          | false =>
           rw [if_neg (show ¬ e0 / 2 = e from Nat.ne_of_beq_eq_false g7)]
           exact Le.refl _
          | true =>
           rw [if_pos (show e0 / 2 = e from Nat.eq_of_beq_eq_true g7)]
           exact Le.refl _
omit [E : Amb] in
theorem fApp_ok {P : Program} {h : Hp} {e sz by_ : Nat} {x y : V} {zs : List V} {s : OR} (hs : Le (toO s) (opAppendE P h e x y))
  (h1 : szOf P e = some sz) (h2 : bytesOf P e = some by_) (h3 : zeroC P e = some zs) (hz : zs.length = sz) (hsz : 0 < sz) (hby : 0 < by_) : Le (toO (fApp h e sz by_ x y s)) (opAppendE P h e x y) := by
 unfold fApp
 cases hx : asL x with
 | no => exact hs
 | pl n z cs => exact hs
 | mk a o n z =>
  obtain rfl := asL_inv hx
  cases g1 : Nat.beq z sz with
  | false => simp only [g1]; exact hs
  | true =>
   have := Nat.eq_of_beq_eq_true g1
   subst this
   simp only [g1]
   refine tailF_ok hs fun ys k hy hk hone => ?_
   cases g2 : roomF (Nat.add n k) by_ with
   | false => exact hs
   | true =>
    have hroom : roomOk (n + k) by_ = true := by
     unfold roomOk
     exact decide_eq_true (Nat.le_of_ble_eq_true g2)
    simp only
    cases g3 : Nat.beq n 0 with
    | true =>
     have := Nat.eq_of_beq_eq_true g3
     subst this
     refine growF_ok hs h1 h2 h3 hz hsz hby hy hk hone ?_ hroom rfl
     simp only [elemsOf, if_true]
    | false =>
     simp only
     cases hc : cutF h z a o n with
     | none => exact hs
     | some os =>
      obtain ⟨fm, fb, fz, xs, q1, q2, q3⟩ := cutF_some hc
      refine growF_ok hs h1 h2 h3 hz hsz hby hy hk hone ?_ hroom rfl
      have hn : n ≠ 0 := Nat.ne_of_beq_eq_false g3
      cases n with
      | zero => exact absurd rfl hn
      | succ n =>
       simp only [elemsOf, if_true]
       rw [q1]
       simp only
       rw [if_pos q2, q3]
omit [E : Amb] in
mutual
theorem isDataF_eq : ∀ v : V, isDataF v = v.isData
 | .bool _ => rfl
 | .int _ _ => rfl
 | .str _ => rfl
 | .nilp => rfl
 | .anyp => rfl
 | .ptr _ _ => rfl
 | .gp _ _ => rfl
 | .nils => rfl
 | .sl _ _ _ _ => rfl
 | .nilmap => rfl
 | .mp _ => rfl
 | .nilfn => rfl
 | .fn _ _ _ => rfl
 | .nilif => rfl
 | .iface _ _ => rfl
 | .agg cs => by rw [V.isData]; exact aggDataF_eq cs
 | .tup cs => by rw [V.isData]; exact aggDataF_eq cs
 | .any => rfl
 | .mod _ _ => rfl
 | .anyb => rfl
 | .lin _ _ _ => rfl
 | .sstr cs => by rw [V.isData]; exact aggDataF_eq cs
 | .pl _ _ _ => rfl
 | .pp _ => rfl
 | .pk _ => rfl
theorem aggDataF_eq : ∀ l : List V, isDataF (.agg l) = V.areData l
 | [] => rfl
 | x :: r => by
  show Bool.rec (motive := fun _ => Bool) false (isDataF (.agg r)) (isDataF x) = _
  rw [aggDataF_eq r, isDataF_eq x, V.areData]
  cases x.isData <;> rfl
end
omit [E : Amb] in
theorem areDataF_eq : ∀ l : List V, areDataF l = V.areData l
 | [] => rfl
 | x :: r => by
  show Bool.rec (motive := fun _ => Bool) false (areDataF r) (isDataF x) = _
  rw [areDataF_eq r, isDataF_eq x, V.areData]
  cases x.isData <;> rfl
omit [E : Amb] in
theorem mapK_eq {f : V → (V → OR) → OR} {g : V → Option V} (hf : ∀ v k, f v k = match g v with | some x => k x | none => .no) : ∀ (l : List V) (k : List V → OR), mapK f l k = match mapC g l with | some r => k r | none => .no
 | [], k => rfl
 | x :: l, k => by
  show f x (fun y => mapK f l (fun ys => k (y :: ys))) = _
  rw [hf x, mapC]
  cases g x with
  | none => rfl
  | some y =>
   simp only [mapK_eq hf l]
   cases mapC g l <;> rfl
omit [E : Amb] in
theorem frzF_eq (h : Hp) : ∀ (n : Nat) (v : V) (k : V → OR), frzF n h v k = match frzV h n v with | some r => k r | none => .no
 | 0, v, k => rfl
 | n + 1, v, k => by
  have ih := frzF_eq h n
  cases v with
  | sl a o m sz =>
   simp only [frzV]
   show Bool.rec (motive := fun _ => OR) (Option.rec (motive := fun _ => OR) .no (fun bk => Blk.rec (motive := fun _ => OR) (fun _ _ _ xs => Bool.rec (motive := fun _ => OR) .no (mapK (frzF n h) (takeF (Nat.mul m sz) (dropF o xs)) (fun cs => k (.pl m sz cs))) (Nat.ble (Nat.add o (Nat.mul m sz)) (lenF xs))) (fun _ _ => .no) (fun _ _ => .no) bk) (getT h.t a)) (k (.pl 0 sz [])) (Nat.beq m 0) = _
   cases m with
   | zero => rfl
   | succ m =>
    simp only [getT_eq]
    show Option.rec (motive := fun _ => OR) .no (fun bk => Blk.rec (motive := fun _ => OR) (fun _ _ _ xs => Bool.rec (motive := fun _ => OR) .no (mapK (frzF n h) (takeF (Nat.mul (m + 1) sz) (dropF o xs)) (fun cs => k (.pl (m + 1) sz cs))) (Nat.ble (Nat.add o (Nat.mul (m + 1) sz)) (lenF xs))) (fun _ _ => .no) (fun _ _ => .no) bk) (h.t.get a) = _
    cases h.t.get a with
    | none => rfl
    | some bk =>
     cases bk with
     | iter _ _ => rfl
     | mapo _ _ => rfl
     | cells f1 f2 f3 xs =>
      simp only [lenF_eq, takeF_eq, dropF_eq]
      cases h1 : Nat.ble (Nat.add o (Nat.mul (m + 1) sz)) xs.length with
      | false => rw [if_neg (fun hh => by rw [show Nat.ble (Nat.add o (Nat.mul (m + 1) sz)) xs.length = true from Nat.ble_eq_true_of_le hh] at h1; cases h1)]
      | true =>
       rw [if_pos (show o + (m + 1) * sz ≤ xs.length from Nat.le_of_ble_eq_true h1)]
       simp only [mapK_eq ih]
       show _ = match (mapC (frzV h n) (List.take (Nat.mul (m + 1) sz) (List.drop o xs))).map (V.pl (m + 1) sz) with | some r => k r | none => .no
       cases mapC (frzV h n) (List.take (Nat.mul (m + 1) sz) (List.drop o xs)) <;> rfl
  | ptr a o =>
   simp only [frzV]
   show Option.rec (motive := fun _ => OR) .no (fun bk => Blk.rec (motive := fun _ => OR) (fun _ _ _ xs => Bool.rec (motive := fun _ => OR) .no (mapK (frzF n h) (dropF o xs) (fun cs => k (.pp cs))) (Nat.ble o (lenF xs))) (fun _ _ => .no) (fun _ _ => .no) bk) (getT h.t a) = _
   rw [getT_eq]
   cases h.t.get a with
   | none => rfl
   | some bk =>
    cases bk with
    | iter _ _ => rfl
    | mapo _ _ => rfl
    | cells f1 f2 f3 xs =>
     simp only [lenF_eq, dropF_eq]
     cases h1 : Nat.ble o xs.length with
     | false => rw [if_neg (fun hh => by rw [Nat.ble_eq_true_of_le hh] at h1; cases h1)]
     | true =>
      rw [if_pos (Nat.le_of_ble_eq_true h1)]
      simp only [mapK_eq ih]
      cases mapC (frzV h n) (List.drop o xs) <;> rfl
  | agg cs =>
   show mapK (frzF n h) cs (fun ds => k (.agg ds)) = _
   rw [mapK_eq ih]
   simp only [frzV]
   cases mapC (frzV h n) cs <;> rfl
  | tup cs =>
   show mapK (frzF n h) cs (fun ds => k (.tup ds)) = _
   rw [mapK_eq ih]
   simp only [frzV]
   cases mapC (frzV h n) cs <;> rfl
  | iface T x =>
   show frzF n h x (fun y => k (.iface T y)) = _
   rw [ih]
   simp only [frzV]
   cases frzV h n x <;> rfl
  | _ => rfl
omit [E : Amb] in
theorem toO_oS (o : Option (V × Hp)) : toO (oS o) = match o with | some (x, k) => some (x, some k) | none => none := by
 cases o with
 | none => rfl
 | some p => rfl
omit [E : Amb] in
theorem fCall_ok (g : Nat) (xs : List V) (C : Cfg) (h : Hp) : Le (toO (fCall g xs C h)) (opCall C (.fn g [] []) xs h) := by
 unfold fCall
 simp only [opCall, List.nil_append, List.append_nil]
 cases hc : C.ctx g with
 | none =>
  cases C.ext g with
  | none => exact Le.none _
  | some e =>
   simp only [toO_oV]
   cases e xs <;> exact Le.refl _
 | some spec =>
  simp only
  have d0 : V.areData [] = true := rfl
  rw [areDataF_eq, d0]
  cases hp : C.pure g with
  | true =>
   simp only
   cases hd : V.areData xs with
   | false => rw [toO_oP]; exact Le.refl _
   | true =>
    simp only
    cases hs : spec xs Hp.empty with
    | none => exact Le.none _
    | some p =>
     obtain ⟨r, k⟩ := p
     simp only [isDataF_eq, frzR]
     cases r.isData with
     | true => exact Le.refl _
     | false =>
      simp only [frzF_eq]
      cases frzV k 100 r <;> exact Le.refl _
  | false =>
   simp only
   cases hcl : C.closed g with
   | false =>
    simp only [Bool.false_and]
    rw [toO_oS]
    cases spec xs h <;> exact Le.refl _
   | true =>
    simp only
    cases hd : V.areData xs with
    | false =>
     simp only [Bool.and_false, Bool.and_true]
     rw [toO_oS]
     cases spec xs h <;> exact Le.refl _
    | true =>
     simp only [Bool.and_true]
     cases hs : spec xs Hp.empty with
     | none => exact Le.none _
     | some p =>
      obtain ⟨r, h0⟩ := p
      show Le (toO (forceHA (h.beside (h0.gc r)) (fun h2 => .w (r.shift h.next) h2))) _
      rw [forceHA_eq]; exact Le.refl _
section
variable {C : Cfg} {P : Program} {rd : Operand → Option V} {st : List V} {t : Env} {h : Hp} {ra : Operand → Option FA}
omit [E : Amb] in
theorem decAll_ok (hra : ∀ x a, ra x = some a → rd x = some (a.get st t)) : ∀ (l : List Operand) (as : List FA), decAll ra l = some as → rdAll rd l = some (getAll as st t) := by
 intro l
 induction l with
 | nil => intro as h; cases h; rfl
 | cons x l ih =>
  intro as h
  simp only [decAll, mapC] at h
  split at h
  ·rename_i a r ha hr
   simp only [Option.some.injEq] at h; subst h
   simp only [rdAll, hra _ _ ha, ih r hr]
   rfl
  ·cases h
omit [E : Amb] in
theorem decOpt_ok (hra : ∀ x a, ra x = some a → rd x = some (a.get st t)) (o : Option Operand) (a : Option FA) (h : decOpt ra o = some a) : optRd rd o = some (getO a st t) := by
 cases o with
 | none => cases h; rfl
 | some x =>
  simp only [decOpt] at h
  split at h
  ·rename_i b hb
   simp only [Option.some.injEq] at h; subst h
   simp only [optRd, hra _ _ hb]
   rfl
  ·cases h
omit [E : Amb] in
theorem decM_ok (hra : ∀ x a, ra x = some a → rd x = some (a.get st t)) (hc : ∀ x, (∀ s, x ≠ .tmp s) → rd x = rdE .leaf x) : ∀ (l : List Operand) (m : List (Nat × FA)), decM ra l = some m →
  ∀ x ∈ l, fSlow x st t m = rd x := by
 intro l
 induction l with
 | nil => intro m _ x hx; cases hx
 | cons y l ih =>
  intro m hm x hx
  have other : (∀ s, x ≠ .tmp s) → fSlow x st t m = rd x := by
   intro hn
   rw [hc x hn]
   cases x with
   | tmp s => exact absurd rfl (hn s)
   | _ => rfl
  cases y with
  | tmp s =>
   simp only [decM] at hm
   split at hm
   ·rename_i a r ha hr
    simp only [Option.some.injEq] at hm; subst hm
    cases x with
    | tmp s' =>
     show Bool.rec (motive := fun _ => Option V) (fSlow (.tmp s') st t r) (some (a.get st t)) (Nat.beq s s') = _
     cases hb : Nat.beq s s' with
     | true =>
      have := Nat.eq_of_beq_eq_true hb; subst this
      exact (hra _ _ ha).symm
     | false =>
      rcases List.mem_cons.1 hx with e | e
      ·simp only [Operand.tmp.injEq] at e; subst e; simp at hb
      ·exact ih r hr _ e
    | _ => exact other (fun s e => by cases e)
   ·cases hm
  | _ =>
   simp only [decM] at hm
   rcases List.mem_cons.1 hx with e | e
   ·exact other (fun s e2 => by rw [e] at e2; cases e2)
   ·exact ih m hm x e
omit [E : Amb] in
theorem slow_ok (hra : ∀ x a, ra x = some a → rd x = some (a.get st t)) (hc : ∀ x, (∀ s, x ≠ .tmp s) → rd x = rdE .leaf x) {o : Op} {fo : FO} (hd : decSlow ra o = some fo) : Le (toO (runO fo C st t h)) (opVal C rd h o) := by
 unfold decSlow at hd
 split at hd
 ·rename_i m hm
  simp only [Option.some.injEq] at hd; subst hd
  show Le (toO (oPF (opVal C (fun x => fSlow x st t m) h o) [h.next] [h.next] [h.next])) _
  rw [toO_oPF, opVal_local (rd := fun x => fSlow x st t m) (rd' := rd) o (decM_ok hra hc _ _ hm)]
  exact Le.refl _
 ·cases hd
end
omit [E : Amb] in
theorem andF_eq (a b : Bool) : andF a b = (a && b) := by cases a <;> rfl
omit [E : Amb] in
theorem beqB_eq (a b : Bool) : beqB a b = (a == b) := by cases a <;> cases b <;> rfl
omit [E : Amb] in
theorem beqI_eq (a b : Int) : beqI a b = decide (a = b) := by
 cases a with
 | ofNat m => cases b with
  | ofNat n =>
   show Nat.beq m n = _
   rw [Bool.eq_iff_iff, Nat.beq_eq, decide_eq_true_iff]
   exact ⟨fun h => by rw [h], fun h => Int.ofNat.inj h⟩
  | negSucc n => rfl
 | negSucc m => cases b with
  | ofNat n => rfl
  | negSucc n =>
   show Nat.beq m n = _
   rw [Bool.eq_iff_iff, Nat.beq_eq, decide_eq_true_iff]
   exact ⟨fun h => by rw [h], fun h => Int.negSucc.inj h⟩
omit [E : Amb] in
theorem knum_eq (k l : IntKind) : Nat.beq (knum k) (knum l) = decide (k = l) := by cases k <;> cases l <;> rfl
omit [E : Amb] in
mutual
theorem sameVF_eq : ∀ (v y : V), sameVF v y = v.same y
 | .bool a, y => by cases y <;> first | rfl | (rw [V.same]; exact beqB_eq _ _)
 | .int k a, y => by cases y <;> first | rfl | (rw [V.same, ← knum_eq, ← beqI_eq]; exact andF_eq _ _)
 | .str a, y => by cases y <;> first | rfl | (rw [V.same]; exact beqS_eq _ _)
 | .nilp, y => by cases y <;> rfl
 | .anyp, y => by cases y <;> rfl
 | .ptr a o, y => by cases y <;> first | rfl | (rw [V.same]; exact andF_eq _ _)
 | .gp a o, y => by cases y <;> first | rfl | (rw [V.same]; exact andF_eq _ _)
 | .nils, y => by cases y <;> rfl
 | .sl a o n z, y => by cases y <;> first | rfl | (rw [V.same, ← andF_eq, ← andF_eq, ← andF_eq]; rfl)
 | .nilmap, y => by cases y <;> rfl
 | .mp a, y => by cases y <;> rfl
 | .nilfn, y => by cases y <;> rfl
 | .fn f x s, y => by
  cases y with
  | fn g x' s' => rw [V.same, ← aggVF_eq x x', ← aggVF_eq s s', ← andF_eq, ← andF_eq]; rfl
  | _ => rfl
 | .nilif, y => by cases y <;> rfl
 | .iface t x, y => by
  cases y with
  | iface t' x' => rw [V.same, ← sameVF_eq x x', ← andF_eq]; rfl
  | _ => rfl
 | .agg x, y => by
  cases y with
  | agg x' => rw [V.same, ← aggVF_eq x x']
  | _ => rfl
 | .tup x, y => by
  cases y with
  | tup x' => rw [V.same, ← aggVF_eq x x']; rfl
  | _ => rfl
 | .any, y => by cases y <;> rfl
 | .mod m i, y => by cases y <;> first | rfl | (rw [V.same]; exact andF_eq _ _)
 | .anyb, y => by cases y <;> rfl
 | .lin k c ts, y => by cases y <;> first | rfl | (rw [V.same, ← knum_eq, ← beqI_eq, ← andF_eq, ← andF_eq]; rfl)
 | .sstr x, y => by
  cases y with
  | sstr x' => rw [V.same, ← aggVF_eq x x']; rfl
  | _ => rfl
 | .pl n z x, y => by
  cases y with
  | pl n' z' x' => rw [V.same, ← aggVF_eq x x', ← andF_eq, ← andF_eq]; rfl
  | _ => rfl
 | .pp x, y => by
  cases y with
  | pp x' => rw [V.same, ← aggVF_eq x x']; rfl
  | _ => rfl
 | .pk x, y => by
  cases y with
  | pk x' => rw [V.same, ← sameVF_eq x x']; rfl
  | _ => rfl
theorem aggVF_eq : ∀ (x y : List V), sameVF (.agg x) (.agg y) = V.sames x y
 | [], l => by cases l <;> rfl
 | x :: r, l => by
  cases l with
  | nil => rfl
  | cons y s =>
   rw [V.sames, ← sameVF_eq x y, ← aggVF_eq r s, ← andF_eq]; rfl
end
omit [E : Amb] in
theorem samesF_eq : ∀ (x y : List V), samesF x y = V.sames x y
 | [], l => by cases l <;> rfl
 | x :: r, l => by
  cases l with
  | nil => rfl
  | cons y s =>
   rw [V.sames, ← sameVF_eq x y, ← samesF_eq r s, ← andF_eq]; rfl
omit [E : Amb] in
theorem sameBF_eq (a b : Blk) : sameBF a b = a.same b := by
 cases a with
 | cells f c z xs => cases b with
  | cells g d x ys => rw [Blk.same, ← samesF_eq, ← andF_eq, ← andF_eq, ← andF_eq]; rfl
  | _ => rfl
 | iter l p => cases b with
  | iter m q => rw [Blk.same, ← samesF_eq, ← andF_eq]; rfl
  | _ => rfl
 | mapo es c => rfl
omit [E : Amb] in
theorem sameEF_eq : ∀ (x y : List (Nat × Nat)), sameEF x y = sameEnds x y
 | [], l => by cases l <;> rfl
 | x :: r, l => by
  cases l with
  | nil => rfl
  | cons y s =>
   rw [sameEnds, ← sameEF_eq r s, ← andF_eq, ← andF_eq]; rfl
omit [E : Amb] in
theorem eqTF_eq {α : Type} (s : α → α → Bool) : ∀ (t u : Tr α), eqTF s t u = Tr.eqT s t u := by
 intro t
 induction t with
 | leaf => intro u; cases u <;> rfl
 | node l v r ihl ihr =>
  intro u
  cases u with
  | leaf => rfl
  | node l' v' r' =>
   show andF (eqOF s v v') (andF (eqTF s l l') (eqTF s r r')) = _
   rw [ihl, ihr, andF_eq, andF_eq]
   cases v <;> cases v' <;> simp only [Tr.eqT] <;> rfl
omit [E : Amb] in
theorem meetF_eq {α : Type} (s : α → α → Bool) : ∀ (t u : Tr α), meetF s t u = Tr.meet s t u := by
 intro t
 induction t with
 | leaf => intro u; rfl
 | node l v r ihl ihr =>
  intro u
  cases u with
  | leaf => rfl
  | node l' v' r' =>
   show Tr.node (meetF s l l') (meetO s v v') (meetF s r r') = _
   rw [ihl, ihr]
   cases v with
   | none => cases v' <;> rfl
   | some x => cases v' with
    | none => rfl
    | some y =>
     simp only [Tr.meet]
     show Tr.node (Tr.meet s l l') (Bool.rec (motive := fun _ => Option α) none (some x) (s x y)) (Tr.meet s r r') = _
     cases s x y <;> rfl
omit [E : Amb] in
theorem joinF_eq (a b : Hp) : joinF a b = a.join b := by
 have e1 : sameBF = Blk.same := funext fun x => funext fun y => sameBF_eq x y
 have e2 : sameEF = sameEnds := funext fun x => funext fun y => sameEF_eq x y
 unfold joinF Hp.join
 rw [forceA_eq (fun v k => by cases v <;> rfl), meetF_eq, eqTF_eq, eqTF_eq, andF_eq, andF_eq, e1, e2]
 cases (Nat.beq a.next b.next && Tr.eqT sameEnds a.fams b.fams) && Tr.eqT Nat.beq a.els b.els <;> rfl
section
variable {C : Cfg} {rd : Operand → Option V} {st : List V} {t : Env} {h : Hp} {ra : Operand → Option FA}
omit [E : Amb] in
theorem isIntT_inv {P : Program} {T : TypeId} {k : IntKind} (h : isIntT P T = some k) : P.underlying T = some (.int k) := by
 unfold isIntT at h
 split at h
 ·rename_i k' hk; simp only [Option.some.injEq] at h; subst h; exact hk
 ·cases h
omit [E : Amb] in
theorem rest_le {o : Op} (hk : opVal C rd h o = still (popS C.P rd o)) : Le (still (pop C.P rd o)) (opVal C rd h o) := by
 rw [hk]
 unfold popS
 cases pop C.P rd o with
 | none => exact Le.none _
 | some v => exact Le.refl _
omit [E : Amb] in
theorem decO_ok (hra : ∀ x a, ra x = some a → rd x = some (a.get st t)) (hc : ∀ x, (∀ s, x ≠ .tmp s) → rd x = rdE .leaf x) {o : Op} {fo : FO} (hd : decO C.P ra o = some fo) :
  Le (toO (runO fo C st t h)) (opVal C rd h o) := by
 have slow : ∀ {o : Op} {fo : FO}, decSlow ra o = some fo → Le (toO (runO fo C st t h)) (opVal C rd h o) := fun hd => slow_ok hra hc hd
 unfold decO at hd
 split at hd
 ·-- move
  rename_i x
  split at hd
  ·rename_i a ha
   cases hd
   show Le (toO (.v (a.get st t))) (opVal C rd h (.move x))
   refine Le.trans ?_ (rest_le rfl)
   simp only [pop, hra _ _ ha]; exact Le.refl _
  ·cases hd
 ·rename_i x
  split at hd
  ·rename_i a ha
   cases hd
   show Le (toO (.v (a.get st t))) (opVal C rd h (.assign x))
   refine Le.trans ?_ (rest_le rfl)
   simp only [pop, hra _ _ ha]; exact Le.refl _
  ·cases hd
 ·-- pick
  rename_i c x y
  split at hd
  ·rename_i c' a b h1 h2 h3
   cases hd
   show Le (toO (fPick (c'.get st t) (a.get st t) (b.get st t))) (opVal C rd h (.pick c x y))
   refine Le.trans ?_ (rest_le rfl)
   simp only [pop, hra _ _ h1, hra _ _ h2, hra _ _ h3]
   refine (fPick_ok _ _ _).trans ?_
   cases c'.get st t <;> first | exact Le.refl _ | exact Le.none _
  ·cases hd
 ·-- nilCheck
  rename_i x
  split at hd
  ·rename_i a ha
   cases hd
   show Le (toO (fNilc (a.get st t))) (opVal C rd h (.nilCheck x))
   refine Le.trans ?_ (rest_le rfl)
   simp only [pop, hra _ _ ha]
   refine (fNilc_ok _).trans ?_
   cases a.get st t <;> first | exact Le.refl _ | exact Le.none _
  ·cases hd
 ·-- binOp
  rename_i op T x y yT
  split at hd
  ·rename_i a b h1 h2
   cases hd
   have e : opVal C rd h (.binOp op T x y yT) = still (vbinX C.P op T (isConstO x || isConstO y) (a.get st t) (b.get st t)) := by
    show still (popS C.P rd (.binOp op T x y yT)) = _
    unfold popS vbinX orV
    simp only [pop, sym, hra _ _ h1, hra _ _ h2]
   rw [e]
   exact fb_ok _ _ _ _ _ _
  ·cases hd
 ·-- unOp
  rename_i op T x
  split at hd
  ·rename_i a ha
   split at hd
   ·cases hd
    show Le (toO (fNot (a.get st t))) (opVal C rd h (.unOp .not T x))
    refine Le.trans ?_ (rest_le rfl)
    simp only [pop, hra _ _ ha]
    exact fNot_ok _
   ·cases hd
    have e : opVal C rd h (.unOp op T x) = still (vunX op (a.get st t)) := by
     show still (popS C.P rd (.unOp op T x)) = _
     unfold popS vunX orV
     cases op <;> simp only [pop, sym, hra _ _ ha]
    rw [e]
    show Le (toO (oV (vunX op (a.get st t)))) _
    rw [toO_oV]
    exact Le.refl _
  ·cases hd
 ·-- fieldAddr
  rename_i T x f
  split at hd
  ·rename_i a off ft ha hb
   split at hd
   ·rename_i n hz
    cases hd
    show Le (toO (fFaddr (a.get st t) off)) (opVal C rd h (.fieldAddr T x f))
    refine Le.trans ?_ (rest_le rfl)
    simp only [pop, hra _ _ ha, opFieldAddr, hb, hz, fFaddr_ok]
    exact Le.refl _
   ·cases hd
  ·cases hd
 ·-- field
  rename_i T x f
  split at hd
  ·rename_i a off ft ha hb
   split at hd
   ·rename_i sz ag hz hg
    split at hd
    ·cases hd
     show Le (toO (fFldA (a.get st t) off sz)) (opVal C rd h (.field T x f))
     refine Le.trans ?_ (rest_le rfl)
     simp only [pop, hra _ _ ha, opField, hb]
     refine (fFldA_ok _ _ _).trans ?_
     cases a.get st t <;> first | (simp only [hz, hg]; exact Le.refl _) | exact Le.none _
    ·cases hd
     show Le (toO (fFld1 (a.get st t) off)) (opVal C rd h (.field T x f))
     refine Le.trans ?_ (rest_le rfl)
     simp only [pop, hra _ _ ha, opField, hb]
     refine (fFld1_ok _ _ sz).trans ?_
     cases a.get st t <;> first | (simp only [hz, hg]; exact Le.refl _) | exact Le.none _
   ·cases hd
  ·cases hd
 ·-- indexAddr
  rename_i T x i
  split at hd
  ·rename_i a b e ha hb hT
   split at hd
   ·rename_i sz hz
    cases hd
    show Le (toO (fIadr sz (a.get st t) (b.get st t))) (opVal C rd h (.indexAddr T x i))
    have e : opVal C rd h (.indexAddr T x i) = still (orV (opIndexAddr C.P T (a.get st t) (b.get st t)) (lpick C.P T (a.get st t) (b.get st t))) := by
     show still (popS C.P rd (.indexAddr T x i)) = _
     unfold popS orV
     simp only [pop, sym, hra _ _ ha, hra _ _ hb]
    have e2 : lpick C.P T (a.get st t) (b.get st t) = lpick0 sz (a.get st t) (b.get st t) := by
     unfold lpick; simp only [hT, hz]
    rw [e, e2]
    refine (fIadr_ok _ _ _).trans (Le.of_eq ?_)
    congr 2
    simp only [opIndexAddr, hT]
    cases b.get st t <;> first | rfl | skip
    cases a.get st t <;> simp only [hz]
   ·cases hd
  ·rename_i a b len e ha hb hT
   split at hd
   ·rename_i sz hz
    cases hd
    show Le (toO (fIadrA len sz (a.get st t) (b.get st t))) (opVal C rd h (.indexAddr T x i))
    refine Le.trans ?_ (rest_le rfl)
    simp only [pop, hra _ _ ha, hra _ _ hb, opIndexAddr, hT]
    refine (fIadrA_ok _ _ _ _).trans ?_
    cases b.get st t <;> first | exact Le.none _ | (simp only [hz]; exact Le.refl _)
   ·cases hd
  ·cases hd
 ·-- index
  rename_i T x i
  split at hd
  ·rename_i a b ha hb hT
   cases hd
   show Le (toO (fIdxS (a.get st t) (b.get st t))) (opVal C rd h (.index T x i))
   have e : opVal C rd h (.index T x i) = still (orV (opIndex C.P T (a.get st t) (b.get st t)) (lidx C.P T (a.get st t) (b.get st t))) := by
    show still (popS C.P rd (.index T x i)) = _
    unfold popS orV
    simp only [pop, sym, hra _ _ ha, hra _ _ hb]
   rw [e]
   exact fIdxS_ok C.P T hT _ _
  ·rename_i a b len e ha hb hT
   split at hd
   ·rename_i sz ag hz hg
    cases hd
    show Le (toO (fIdxA len sz ag (a.get st t) (b.get st t))) (opVal C rd h (.index T x i))
    refine Le.trans ?_ (rest_le rfl)
    simp only [pop, hra _ _ ha, hra _ _ hb, opIndex, hT]
    refine (fIdxA_ok _ _ _ _ _).trans ?_
    cases a.get st t <;> first | exact Le.none _ | skip
    cases b.get st t <;> first | exact Le.none _ | (simp only [hz, hg]; exact Le.refl _)
   ·cases hd
  ·cases hd
 ·-- slice
  rename_i T x lo hi
  split at hd
  ·rename_i hT
   split at hd
   ·rename_i a l k ha hl hk
    cases hd
    show Le (toO (fSliS (oV (opSliceX C.P T (a.get st t) (getO l st t) (getO k st t))) (getO l st t) (getO k st t) (a.get st t))) (opVal C rd h (.slice T x lo hi none))
    have e1 := decOpt_ok hra _ _ hl
    have e2 := decOpt_ok hra _ _ hk
    simp only [opVal, hra _ _ ha, e1, e2]
    have e3 : opSliceArr C.P h T (a.get st t) (getO l st t) (getO k st t) = none := by
     unfold opSliceArr
     rw [hT]
    rw [e3]
    exact fSliS_ok C.P T hT _ _ _
   ·cases hd
  ·exact slow hd
 ·-- convert
  rename_i src dst x
  split at hd
  ·rename_i k0 k h1 h2
   split at hd
   ·rename_i a ha
    cases hd
    show Le (toO (fConv k (a.get st t))) (opVal C rd h (.convert src dst x))
    have i1 := isIntT_inv h1
    have i2 := isIntT_inv h2
    have b1 : opBytesOf C.P h src dst (a.get st t) = none := by
     unfold opBytesOf; rw [i1]
    have b0 : litConv C src dst (a.get st t) = none := by
     unfold litConv opBytesLit; rw [i1]; cases C.pure (litK + dst) <;> rfl
    have b2 : opStrOf C.P h src dst (a.get st t) = none := by
     unfold opStrOf; rw [i1]
    have b3 : opConvPtr C.P h src dst (a.get st t) = none := by
     unfold opConvPtr; rw [i1]
    simp only [opVal, hra _ _ ha, b0, b1, b2, b3, opConvX, opConv, lconv, i1, i2]
    refine (fConv_ok _ _).trans ?_
    cases a.get st t <;> first | exact Le.none _ | exact Le.refl _
   ·cases hd
  ·exact slow hd
 ·-- extract
  rename_i x i
  split at hd
  ·rename_i a ha
   cases hd
   show Le (toO (fExt (a.get st t) i)) (opVal C rd h (.extract x i))
   refine Le.trans ?_ (rest_le rfl)
   simp only [pop, hra _ _ ha]
   exact fExt_ok _ _
  ·cases hd
 ·-- makeInterface
  rename_i T x
  split at hd
  ·cases hd
  ·rename_i a d hn ha hT
   cases hd
   show Le (toO (.v (.iface T (a.get st t)))) (opVal C rd h (.makeInterface T x))
   refine Le.trans ?_ (rest_le rfl)
   simp only [pop, hra _ _ ha, opMkIface]
   refine le_v ?_
   rw [hT]
   cases d <;> first | rfl | (exact absurd rfl (hn _))
  ·cases hd
 ·-- makeFunc
  rename_i f first caps
  split at hd
  ·rename_i a b h1 h2
   cases hd
   show Le (toO (.v (.fn f (getAll a st t) (getAll b st t)))) (opVal C rd h (.makeFunc (.func f) first caps))
   refine Le.trans ?_ (rest_le rfl)
   simp only [pop, decAll_ok hra _ _ h1, decAll_ok hra _ _ h2]
   exact Le.refl _
  ·cases hd
 ·-- len
  rename_i args argTypes
  split at hd
  ·rename_i x T hx hT
   have key : ∀ a, isMapT C.P argTypes = false → ra x = some a → opVal C rd h (.call { callee := .builtin .len, args, argTypes }) = still (opLenX C.P argTypes (a.get st t)) := by
    intro a hm ha
    simp only [opVal, hm, hx, rdAll, hra _ _ ha]
   split at hd
   ·rename_i a ha hu
    cases hd
    show Le (toO (fLenS (a.get st t))) _
    rw [key a (by simp only [isMapT, hT, hu]) ha]
    simp only [opLenX, opLen, llen, hT, hu]
    refine (fLenS_ok _).trans ?_
    cases a.get st t <;> first | exact Le.none _ | exact Le.refl _ | (rename_i m i; cases m <;> first | exact Le.refl _ | exact Le.none _)
   ·rename_i a e ha hu
    cases hd
    show Le (toO (fLenL (a.get st t))) _
    rw [key a (by simp only [isMapT, hT, hu]) ha]
    simp only [opLenX, opLen, llen, hT, hu]
    refine (fLenL_ok _).trans ?_
    cases a.get st t <;> first | exact Le.none _ | exact Le.refl _
   ·rename_i a n e ha hu
    cases hd
    show Le (toO (.v (.int .i64 (Int.ofNat n)))) _
    rw [key a (by simp only [isMapT, hT, hu]) ha]
    simp only [opLenX, opLen, llen, hT, hu]
    exact Le.refl _
   ·exact slow hd
  ·cases hd
 ·-- load
  rename_i T x
  split at hd
  ·rename_i a ha hT
   cases hd
   show Le (toO (fCells (a.get st t) C.Γ h 0 head1)) (opVal C rd h (.load T x))
   simp only [opVal, hra _ _ ha]
   exact ld1_ok C.P C.Γ h T _ hT
  ·rename_i a ha hT
   split at hd
   ·rename_i n hn
    cases hd
    show Le (toO (fCells (a.get st t) C.Γ h n headN)) (opVal C rd h (.load T x))
    simp only [opVal, hra _ _ ha]
    exact ldN_ok C.P C.Γ h T _ n hT hn
   ·cases hd
  ·cases hd
 ·-- store
  rename_i T x y
  split at hd
  ·rename_i a b n ha hb hn
   cases hd
   show Le (toO (fSto n (a.get st t) (b.get st t) C h)) (opVal C rd h (.store T x y))
   simp only [opVal, hra _ _ ha, hra _ _ hb]
   exact fSto_ok C h T n _ _ hn
  ·cases hd
 ·-- alloc
  rename_i T
  split at hd
  ·rename_i cs hz
   cases hd
   show Le (toO (newK h cs T)) (opVal C rd h (.alloc T))
   simp only [opVal, opAlloc, hz, newK_eq]
   exact Le.refl _
  ·cases hd
 ·-- box
  rename_i T x
  split at hd
  ·rename_i a ha
   cases hd
   show Le (toO (Bool.rec (motive := fun _ => OR) (newK h (a.get st t).cells T) .no (a.get st t).isAny)) (opVal C rd h (.box T x))
   simp only [opVal, hra _ _ ha, newK_eq]
   cases (a.get st t).isAny <;> first | exact Le.none _ | exact Le.refl _
  ·cases hd
 ·-- buildSlice
  rename_i T len parts
  split at hd
  ·rename_i l e hl hT
   split at hd
   ·rename_i sz zs hz1 hz2
    split at hd
    ·rename_i hq
     cases hd
     simp only [Bool.and_eq_true] at hq
     have e1 : (fun i => some (Nat.mul i sz, sz)) = fun i => some (i * sz, sz) := rfl
     show Le (toO (Bool.rec (motive := fun _ => OR) (Option.rec (motive := fun _ => OR) (Option.rec (motive := fun _ => OR) .no (fun cs => newS h cs len sz) (vfillF (fun i => some (Nat.mul i sz, sz)) ((parts.toList.map (·.1)).zip (getAll l st t)) (zerosOf zs (len * sz)))) (fun _ => .no) (getT h.t h.next)) (fLit (zerosOf zs (len * sz)) len sz (parts.toList.map (·.1)) (getAll l st t)) (C.pure (litK + T)))) (opVal C rd h (.buildSlice T len parts))
     simp only [opVal, decAll_ok hra _ _ hl]
     cases C.pure (litK + T) with
     | true =>
      simp only [opBuildLit, hT, hz1, hz2, fLit]
      rw [if_pos ⟨Nat.le_of_ble_eq_true hq.1, Nat.eq_of_beq_eq_true hq.2.1, Nat.le_of_ble_eq_true hq.2.2⟩]
      simp only [vfillF_eq, e1, areDataF_eq, forceL_eq]
      cases vfill (fun i => some (i * sz, sz)) (zerosOf zs (len * sz)) ((parts.toList.map (·.1)).zip (getAll l st t)) with
      | none => exact Le.none _
      | some cs =>
       simp only
       cases V.areData cs with
       | false => exact Le.none _
       | true => exact Le.refl _
     | false =>
      simp only [getT_eq, vfillF_eq, e1]
      cases h.t.get h.next with
      | some b => exact Le.none _
      | none =>
       simp only [opBuildSlice, hT, hz1, hz2]
       rw [if_pos ⟨Nat.le_of_ble_eq_true hq.1, Nat.eq_of_beq_eq_true hq.2.1, Nat.le_of_ble_eq_true hq.2.2⟩]
       cases vfill (fun i => some (i * sz, sz)) (zerosOf zs (len * sz)) ((parts.toList.map (·.1)).zip (getAll l st t)) with
       | none => exact Le.none _
       | some cs =>
        simp only [newS_eq]
        exact Le.refl _
    ·cases hd
   ·cases hd
  ·cases hd
 ·-- makeSlice
  rename_i T l c
  split at hd
  ·rename_i a b ha hb
   cases hd
   show Le (toO (oPF (opMakeSlice C.P h T (a.get st t) (b.get st t)) [h.next] [h.next] [h.next])) (opVal C rd h (.makeSlice T l c))
   simp only [opVal, hra _ _ ha, hra _ _ hb, toO_oPF]
   exact Le.refl _
  ·cases hd
 ·-- range
  rename_i T x
  split at hd
  ·rename_i a ha
   cases hd
   show Le (toO (oPF (opRange C.P h T (a.get st t)) [h.next] [h.next] [h.next])) (opVal C rd h (.range T x))
   simp only [opVal, hra _ _ ha, toO_oPF]
   exact Le.refl _
  ·cases hd
 ·-- next
  rename_i x
  split at hd
  ·rename_i a ha
   cases hd
   show Le (toO (oPF (opNext h (a.get st t)) (ptrV (a.get st t)) [] [])) (opVal C rd h (.next x true))
   simp only [opVal, hra _ _ ha, toO_oPF]
   exact Le.refl _
  ·cases hd
 ·-- append
  rename_i args argTypes
  split at hd
  ·rename_i x y sT hxy hT
   split at hd
   ·rename_i e a b hu hp ha hb
    split at hd
    ·rename_i sz by_ zs z1 z2 z3
     split at hd
     ·rename_i hq
      cases hd
      simp only [Bool.and_eq_true] at hq
      show Le (toO (fApp h e sz by_ (a.get st t) (b.get st t) (oPF (opAppendE C.P h e (a.get st t) (b.get st t)) [h.next] (famV (a.get st t) h) [h.next]))) (opVal C rd h (.call { callee := .builtin .append, args, argTypes }))
      simp only [opVal, hxy, rdAll, hra _ _ ha, hra _ _ hb, hT, hu, hp]
      exact fApp_ok (by rw [toO_oPF]; exact Le.refl _) z1 z2 z3 (Nat.eq_of_beq_eq_true hq.1) (Nat.le_of_ble_eq_true hq.2.1) (Nat.le_of_ble_eq_true hq.2.2)
     ·cases hd
    ·cases hd
   ·exact slow hd
   ·cases hd
  ·cases hd
 ·-- build
  rename_i T parts
  split at hd
  ·rename_i zs fs l hz hu hl
   split at hd
   ·rename_i pl hpl
    cases hd
    show Le (toO (Option.rec (motive := fun _ => OR) .no (fun l => .v (.agg l)) (vfillF (fun i => nthF i pl) ((parts.toList.map (·.1)).zip (getAll l st t)) zs))) (opVal C rd h (.build T parts))
    have e : (fun i => nthF i pl) = fun i => pl[i]? := funext fun i => nthF_eq i pl
    simp only [opVal, opRest, decAll_ok hra _ _ hl, opBuild, hz, hu, hpl, e, vfillF_eq]
    cases vfill (fun i => pl[i]?) zs ((parts.toList.map (·.1)).zip (getAll l st t)) <;> first | exact Le.none _ | exact Le.refl _
   ·cases hd
  ·exact slow hd
 ·-- call
  rename_i g args argTypes
  split at hd
  ·rename_i l hl
   cases hd
   show Le (toO (fCall g (getAll l st t) C h)) (opVal C rd h (.call { callee := .value (.func g), args, argTypes }))
   have e0 : rd (.func g) = some (.fn g [] []) := by rw [hc _ (fun s e => by cases e)]; rfl
   simp only [opVal, e0, decAll_ok hra _ _ hl]
   exact fCall_ok _ _ _ _
  ·cases hd
 ·exact slow hd
end
omit [E : Amb] in
mutual
theorem V.same_refl : ∀ v : V, v.same v = true
 | .bool b => by rw [V.same]; simp
 | .int k n => by rw [V.same]; simp
 | .str l => by rw [V.same]; simp
 | .nilp => rfl
 | .anyp => rfl
 | .ptr a o => by rw [V.same]; simp
 | .gp a o => by rw [V.same]; simp
 | .nils => rfl
 | .sl a o n z => by rw [V.same]; simp
 | .nilmap => rfl
 | .mp a => by rw [V.same]; simp
 | .nilfn => rfl
 | .fn f x y => by rw [V.same, V.sames_refl x, V.sames_refl y]; simp
 | .nilif => rfl
 | .iface t x => by rw [V.same, V.same_refl x]; simp
 | .agg x => by rw [V.same]; exact V.sames_refl x
 | .tup x => by rw [V.same]; exact V.sames_refl x
 | .any => rfl
 | .mod m i => by rw [V.same]; simp
 | .anyb => rfl
 | .lin _ _ _ => by rw [V.same]; simp
 | .sstr x => by rw [V.same]; exact V.sames_refl x
 | .pl _ _ x => by rw [V.same, V.sames_refl x]; simp
 | .pp x => by rw [V.same]; exact V.sames_refl x
 | .pk x => by rw [V.same]; exact V.same_refl x
theorem V.sames_refl : ∀ l : List V, V.sames l l = true
 | [] => rfl
 | x :: r => by rw [V.sames, V.same_refl x, V.sames_refl r]; rfl
end
omit [E : Amb] in
theorem pairsSame_refl : ∀ l : List (V × V), pairsSame l l = true
 | [] => rfl
 | x :: r => by rw [pairsSame, V.same_refl, V.same_refl, pairsSame_refl r]; rfl
omit [E : Amb] in
theorem Blk.same_refl (b : Blk) : b.same b = true := by
 cases b with
 | cells f c z xs => rw [Blk.same, V.sames_refl]; simp
 | iter l p => rw [Blk.same, V.sames_refl]; simp
 | mapo es c => rw [Blk.same, pairsSame_refl]; simp
omit [E : Amb] in
theorem meet_self {α : Type} {s : α → α → Bool} (hs : ∀ x, s x x = true) : ∀ t : Tr α, Tr.meet s t t = t := by
 intro t
 induction t with
 | leaf => rfl
 | node l v r ihl ihr =>
  simp only [Tr.meet, ihl, ihr]
  cases v with
  | none => rfl
  | some x => simp only [hs]
omit [E : Amb] in
theorem meet_one {α : Type} {s : α → α → Bool} {x y : α} (hxy : s x y = false) : ∀ (f i : Nat), Tr.meet s (Tr.one (some x) f i) (Tr.one (some y) f i) = Tr.one none f i := by
 intro f
 induction f with
 | zero => intro i; simp only [Tr.one, Tr.meet, hxy]
 | succ f ih =>
  intro i
  simp only [Tr.one]
  cases Nat.beq i 0 with
  | true => simp only [Tr.meet, hxy]
  | false =>
   simp only
   cases Nat.beq (i % 2) 1 with
   | true => simp only [Tr.meet, ih]
   | false => simp only [Tr.meet, ih]
omit [E : Amb] in
theorem meet_put {α : Type} {s : α → α → Bool} (hs : ∀ x, s x x = true) {x y : α} (hxy : s x y = false) : ∀ (t : Tr α) (i : Nat), Tr.meet s (t.put (some x) i) (t.put (some y) i) = t.put none i := by
 intro t
 induction t with
 | leaf => intro i; exact meet_one hxy i i
 | node l v r ihl ihr =>
  intro i
  simp only [Tr.put]
  cases Nat.beq i 0 with
  | true => simp only [Tr.meet, hxy, meet_self hs]
  | false =>
   simp only
   cases Nat.beq (i % 2) 1 with
   | true =>
    simp only [Tr.meet, ihl, meet_self hs]
    cases v with
    | none => rfl
    | some z => simp only [hs]
   | false =>
    simp only [Tr.meet, ihr, meet_self hs]
    cases v with
    | none => rfl
    | some z => simp only [hs]
omit [E : Amb] in
theorem one_put {α : Type} (x y : Option α) : ∀ (f i : Nat), i ≤ f → (Tr.one x f i).put y i = Tr.one y f i := by
 intro f
 induction f with
 | zero =>
  intro i h
  obtain rfl : i = 0 := by omega
  rfl
 | succ f ih =>
  intro i h
  simp only [Tr.one]
  cases h0 : Nat.beq i 0 with
  | true => simp only [Tr.put, h0]
  | false =>
   have hi : i ≠ 0 := fun e => by subst e; cases h0
   simp only
   cases h1 : Nat.beq (i % 2) 1 with
   | true => simp only [Tr.put, h0, h1, ih _ (show i / 2 ≤ f by omega)]
   | false => simp only [Tr.put, h0, h1, ih _ (show i / 2 - 1 ≤ f by omega)]
omit [E : Amb] in
theorem put_over {α : Type} (x y : Option α) : ∀ (t : Tr α) (i : Nat), (t.put x i).put y i = t.put y i := by
 intro t
 induction t with
 | leaf => intro i; exact one_put x y i i (Nat.le_refl _)
 | node l v r ihl ihr =>
  intro i
  simp only [Tr.put]
  cases h0 : Nat.beq i 0 with
  | true => simp only [Tr.put, h0]
  | false =>
   simp only
   cases h1 : Nat.beq (i % 2) 1 with
   | true => simp only [Tr.put, h0, h1, ihl]
   | false => simp only [Tr.put, h0, h1, ihr]
section
variable {C : Cfg} {NL : List Nat} {ops : Array Oper}
omit [E : Amb] in
theorem rdE_leaf (e : Env) : ∀ x, (∀ s, x ≠ .tmp s) → rdE e x = rdE .leaf x := by
 intro x h
 cases x with
 | tmp s => exact absurd rfl (h s)
 | _ => rfl
noncomputable def goR (g : Option FG) (o : FO) (C : Cfg) (st : List V) (t : Env) (h : Hp) : OR := match g with
 | none => runO o C st t h
 | some g => GV.rec (motive := fun _ => OR) .no (runO o C st t h) (.v (.tup [])) (fG g st t)
omit [E : Amb] in
theorem goR_ok {ds : List (Option Nat)} {st : List V} {t e : Env} {h : Hp} {o : Oper} {g : Option FG} {f : FO} (hs : RelSt ds st e) (hn : EqN NL t e)
  (hg : decG NL ds ops o.guard = some g) (hd : decO C.P (decA NL ds) o.op = some f) : Le (toO (goR g f C st t h)) (stepOp C ops e h o) := by
 have hop := decO_ok (C := C) (h := h) (decA_ok hs hn) (rdE_leaf e) hd
 unfold stepOp wantedE
 cases hgu : o.guard with
 | none =>
  rw [hgu] at hg
  simp only [decG, Option.some.injEq] at hg; subst hg
  exact hop
 | some jw =>
  obtain ⟨j, w⟩ := jw
  rw [hgu] at hg
  simp only [decG] at hg
  split at hg
  ·rename_i d hd'
   simp only [hd']
   split at hg
   ·rename_i a ha
    simp only [Option.some.injEq] at hg; subst hg
    have e1 := decA_ok hs hn _ _ ha
    simp only [rdE, Option.some.injEq] at e1
    rw [e1]
    show Le (toO (GV.rec (motive := fun _ => OR) .no (runO f C st t h) (.v (.tup [])) (asG (a.get st t) w))) _
    cases a.get st t with
    | bool b => cases b <;> cases w <;> first | exact hop | exact Le.refl _
    | any => exact Le.none _
    | anyb => exact Le.none _
    | _ => exact Le.refl _
   ·cases hg
  ·rename_i hd'
   simp only [Option.some.injEq] at hg; subst hg
   simp only [hd']
   exact Le.refl _
omit [E : Amb] in
theorem opVal_mayW {e : Env} {h h' : Hp} {o : Op} {x : V} (hv : opVal C (rdE e) h o = some (x, some h')) : mayW C o = true := by
 unfold mayW
 cases ha : apartFromHeap C o with
 | true => have := (opVal_apart (h' := h) ha).2 _ _ hv; cases this
 | false =>
  cases hl : isLoadO o with
  | false =>
   cases hs : isSliceO o with
   | false => rfl
   | true =>
    unfold isSliceO at hs
    split at hs
    ·rename_i T x lo hi
     simp only [opVal] at hv
     split at hv
     ·split at hv
      ·cases hv
      ·have := still_none hv; cases this
     ·cases hv
    ·cases hs
  | true =>
   unfold isLoadO at hl
   split at hl
   ·rename_i T a
    simp only [opVal] at hv
    split at hv
    ·have := still_none hv; cases this
    ·cases hv
   ·cases hl
def Among : List Bool → List Bool → Prop
 | [], [] => True
 | a :: l, b :: m => (a = true → b = true) ∧ Among l m
 | _, _ => False
omit [E : Amb] in
theorem runR_op (o : FO) (p : Pa) (r : FR) (C : Cfg) (st : List V) (t : Env) (h : Hp) : runR (.op o p r) C st t h = OR.rec (motive := fun _ => RR) .no (fun x => runR r C (x :: st) (p.put x t) h) (fun x h' => runR r C (x :: st) (p.put x t) h') (runO o C st t h) := by
 show OR.rec (motive := fun _ => RR) .no (fun x => p.putK x t (fun t' => runR r C (x :: st) t' h)) (fun x h' => p.putK x t (fun t' => runR r C (x :: st) t' h')) (runO o C st t h) = _
 simp only [pa_putK]
omit [E : Amb] in
theorem runR_g (g : FG) (o : FO) (d : Option Pa) (r : FR) (C : Cfg) (st : List V) (t : Env) (h : Hp) : runR (.g g o d r) C st t h = OR.rec (motive := fun _ => RR) .no (fun x => runR r C (x :: st) (putO d x t) h) (fun x h' => runR r C (x :: st) (putO d x t) h') (goR (some g) o C st t h) := by
 show OR.rec (motive := fun _ => RR) .no (fun x => putOK d x t (fun t' => runR r C (x :: st) t' h)) (fun x h' => putOK d x t (fun t' => runR r C (x :: st) t' h')) (goR (some g) o C st t h) = _
 simp only [putOK_eq]
omit [E : Amb] in
theorem runR_ok : ∀ (l : List Oper) (ds : List (Option Nat)) (r : FR), decR C.P NL ops l ds = some r → ∀ (st : List V) (t e : Env) (h : Hp), RelSt ds st e → EqN NL t e → ∀ t' h', runR r C st t h = .ok t' h' →
    ∃ tr e', traceOps C ops l e h = some (tr, e', h') ∧ EqN NL t' e' ∧ Among tr (l.map fun o => mayW C o.op) := by
  intro l
  induction l with
  | nil =>
    intro ds r hr st t e h hs hn t' h' hx
    cases hr
    cases hx
    exact ⟨[], e, rfl, hn, trivial⟩
  | cons o l ih =>
    intro ds r hr st t e h hs hn t' h' hx
    -- one step, whichever form it has
    have step : ∀ (g : Option FG) (f : FO) (q : FR), decG NL ds ops o.guard = some g → decO C.P (decA NL ds) o.op = some f → decR C.P NL ops l (o.dst :: ds) = some q →
        OR.rec (motive := fun _ => RR) .no (fun x => runR q C (x :: st) (putO (decD NL o.dst) x t) h) (fun x k => runR q C (x :: st) (putO (decD NL o.dst) x t) k) (goR g f C st t h) = .ok t' h' →
        ∃ tr e', traceOps C ops (o :: l) e h = some (tr, e', h') ∧ EqN NL t' e' ∧ Among tr ((o :: l).map fun o => mayW C o.op) := by
      intro g f q hg hd hq hx
      have hle := goR_ok (C := C) (h := h) hs hn hg hd
      cases ho : goR g f C st t h with
      | no => rw [ho] at hx; cases hx
      | v x =>
        rw [ho] at hx hle
        have h1 := hle _ rfl
        obtain ⟨tr, e', k1, k2, k3⟩ := ih _ _ hq (x :: st) _ (Env.put e o.dst x) h (hs.push _ _) (hn.put _ _) _ _ hx
        refine ⟨false :: tr, e', ?_, k2, ⟨fun h => (by cases h), k3⟩⟩
        simp only [traceOps, h1, k1]
      | w x k =>
        rw [ho] at hx hle
        have h1 := hle _ rfl
        obtain ⟨tr, e', k1, k2, k3⟩ := ih _ _ hq (x :: st) _ (Env.put e o.dst x) k (hs.push _ _) (hn.put _ _) _ _ hx
        refine ⟨true :: tr, e', ?_, k2, ⟨fun _ => ?_, k3⟩⟩
        · simp only [traceOps, h1, k1]
        · unfold stepOp at h1
          split at h1
          · exact opVal_mayW h1
          · cases h1
          · cases h1
    simp only [decR] at hr
    split at hr
    · rename_i g f q hg hd hq
      simp only [Option.some.injEq] at hr; subst hr
      rw [runR_g] at hx
      exact step (some g) f q hg hd hq hx
    · rename_i f q hg hd hq
      split at hr
      · rename_i p hp
        simp only [Option.some.injEq] at hr; subst hr
        rw [runR_op] at hx
        refine step none f q hg hd hq ?_
        rw [hp]; exact hx
      · rename_i hp
        simp only [Option.some.injEq] at hr; subst hr
        refine step none f q hg hd hq ?_
        rw [hp]; exact hx
    · cases hr
omit [E : Amb] in
theorem fa_up (a : FA) (v : V) (st : List V) (t : Env) : a.up.get (v :: st) t = a.get st t := by
 induction a with
 | st i => rfl
 | t p => rfl
 | c v => rfl
 | f k a ih => exact congrArg (fun z => addV z k) ih
omit [E : Amb] in
theorem pa_other : ∀ (p q : Pa) (x : V) (t : Env), p.beq q = false → q.get (p.put x t) = q.get t := by
 intro p
 induction p with
 | h =>
  intro q x t h
  cases q with
  | h => cases h
  | l q => cases t with
   | leaf => cases q <;> rfl
   | node l v r => rfl
  | r q => cases t with
   | leaf => cases q <;> rfl
   | node l v r => rfl
 | l p ih =>
  intro q x t h
  cases q with
  | h => cases t <;> rfl
  | l q =>
   have h' : p.beq q = false := by simpa only [Pa.beq] using h
   cases t with
   | leaf => exact (ih q x .leaf h').trans (by cases q <;> rfl)
   | node l v r => exact ih q x l h'
  | r q => cases t with
   | leaf => cases q <;> rfl
   | node l v r => rfl
 | r p ih =>
  intro q x t h
  cases q with
  | h => cases t <;> rfl
  | r q =>
   have h' : p.beq q = false := by simpa only [Pa.beq] using h
   cases t with
   | leaf => exact (ih q x .leaf h').trans (by cases q <;> rfl)
   | node l v r => exact ih q x r h'
  | l q => cases t with
   | leaf => cases q <;> rfl
   | node l v r => rfl
omit [E : Amb] in
theorem fa_other (p : Option Pa) (a : FA) (x : V) (st : List V) (t : Env) (h : mentO p a = false) : a.get st (putO p x t) = a.get st t := by
 cases p with
 | none => rfl
 | some p =>
  have h2 : a.ment p = false := h
  show a.get st (p.put x t) = _
  clear h
  induction a with
  | st i => rfl
  | t q => exact pa_other p q x t (by simpa only [FA.ment] using h2)
  | c v => rfl
  | f k a ih => exact congrArg (fun z => addV z k) (ih (by simpa only [FA.ment] using h2))
def Rel2 (NL : List Nat) (ds : List DE) (st : List V) (t e : Env) : Prop := ∀ s a p, res2 NL s ds = some (some (a, p)) → a.get st t = Env.get e s ∧ (p = true → ptrB (a.get st t) = true)
omit [E : Amb] in
theorem isD_true {d : Option Nat} {s : Nat} (h : isD d s = true) : d = some s := by
 cases d with
 | none => cases h
 | some d => rw [Nat.eq_of_beq_eq_true h]
omit [E : Amb] in
theorem isD_false {d : Option Nat} {s : Nat} (h : isD d s = false) : d ≠ some s := by
 intro e; subst e; simp [isD] at h
omit [E : Amb] in
theorem Rel2.push {ds : List DE} {st : List V} {t e : Env} (h : Rel2 NL ds st t e) (d : Option Nat) (v : V) : Rel2 NL (.v d :: ds) (v :: st) (putO (decD NL d) v t) (Env.put e d v) := by
 intro s a p hr
 simp only [res2] at hr
 split at hr
 ·rename_i hd
  have := isD_true hd
  subst this
  simp only [Option.some.injEq, Prod.mk.injEq] at hr
  obtain ⟨rfl, rfl⟩ := hr
  refine ⟨?_, fun h => by cases h⟩
  rw [env_get_put, if_pos rfl]; rfl
 ·rename_i hd
  split at hr
  ·rename_i a0 p0 hr0
   split at hr
   ·simp only [Option.some.injEq] at hr; cases hr
   ·rename_i hm
    simp only [Option.some.injEq, Prod.mk.injEq] at hr
    obtain ⟨rfl, rfl⟩ := hr
    obtain ⟨h1, h2⟩ := h s a0 p0 hr0
    rw [fa_up, fa_other _ _ _ _ _ hm, env_put_ne (isD_false hd)]
    exact ⟨h1, h2⟩
  ·rename_i hn
   exact absurd hr (hn a p)
omit [E : Amb] in
theorem Rel2.name {ds : List DE} {st : List V} {t e : Env} (h : Rel2 NL ds st t e) (d : Nat) (a : FA) (p : Bool) (hp : p = true → ptrB (a.get st t) = true) : Rel2 NL (.al d a p :: ds) st t (Env.put e (some d) (a.get st t)) := by
 intro s a1 p1 hr
 simp only [res2] at hr
 split at hr
 ·rename_i hd
  have := Nat.eq_of_beq_eq_true hd
  subst this
  simp only [Option.some.injEq, Prod.mk.injEq] at hr
  obtain ⟨rfl, rfl⟩ := hr
  refine ⟨?_, hp⟩
  rw [env_get_put, if_pos rfl]
 ·rename_i hd
  have hne : s ≠ d := fun e => by subst e; simp at hd
  obtain ⟨h1, h2⟩ := h s a1 p1 hr
  rw [env_get_put, if_neg hne]
  exact ⟨h1, h2⟩
omit [E : Amb] in
theorem decA2_ok {ds : List DE} {st : List V} {t e : Env} (hs : Rel2 NL ds st t e) (hn : EqN NL t e) : ∀ x a p, decA2 NL ds x = some (a, p) → rdE e x = some (a.get st t) ∧ (p = true → ptrB (a.get st t) = true) := by
 intro x a p h
 cases x with
 | tmp s =>
  simp only [decA2] at h
  split at h
  ·rename_i r hr
   simp only [Option.some.injEq] at h; subst h
   obtain ⟨h1, h2⟩ := hs s a p hr
   exact ⟨by show some (Env.get e s) = _; rw [h1], h2⟩
  ·cases h
  ·split at h
   ·rename_i k hk
    simp only [Option.some.injEq, Prod.mk.injEq] at h
    obtain ⟨rfl, rfl⟩ := h
    refine ⟨?_, fun h => by cases h⟩
    show some (Env.get e s) = some ((pathOf k).get t)
    rw [path_get, hn.at hk]
   ·cases h
 | _ =>
  simp only [decA2] at h
  split at h
  ·rename_i v hv
   simp only [Option.some.injEq, Prod.mk.injEq] at h
   obtain ⟨rfl, rfl⟩ := h
   exact ⟨hv, fun h => by cases h⟩
  ·cases h
omit [E : Amb] in
theorem raOf_ok {ds : List DE} {st : List V} {t e : Env} (hs : Rel2 NL ds st t e) (hn : EqN NL t e) : ∀ x a, raOf NL ds x = some a → rdE e x = some (a.get st t) := by
 intro x a h
 unfold raOf at h
 split at h
 ·rename_i b p hb
  simp only [Option.some.injEq] at h; subst h
  exact (decA2_ok hs hn _ _ _ hb).1
 ·cases h
omit [E : Amb] in
theorem ptrB_nil {v : V} (h : ptrB v = true) (P : Program) (rd : Operand → Option V) (x : Operand) (hx : rd x = some v) : pop P rd (.nilCheck x) = some v := by
 simp only [pop, hx]
 cases v <;> first | rfl | (cases h; done)
omit [E : Amb] in
theorem ptrB_field {v : V} (h : ptrB v = true) (k : Nat) : vfield k v = some (addV v k) ∧ ptrB (addV v k) = true := by
 cases v with
 | pp cs =>
  refine ⟨?_, rfl⟩
  show some (V.pp (cs.drop k)) = some (V.pp (dropF k cs))
  rw [dropF_eq]
 | ptr a o => exact ⟨rfl, rfl⟩
 | gp a o => exact ⟨rfl, rfl⟩
 | _ => cases h
omit [E : Amb] in
theorem alias_ok {ds : List DE} {st : List V} {t e : Env} {h : Hp} {o : Oper} {d : Nat} {a : FA} {p c : Bool} (hs : Rel2 NL ds st t e) (hn : EqN NL t e) (ha : aliasOf C.P NL ds o = some (d, a, p, c)) (hc : c = true → ptrB (a.get st t) = true) :
  o.dst = some d ∧ slotOf NL d = none ∧ stepOp C ops e h o = some (a.get st t, none) ∧ (p = true → ptrB (a.get st t) = true) := by
 unfold aliasOf at ha
 split at ha
 ·rename_i d0 hg hd
  have hst : stepOp C ops e h o = opVal C (rdE e) h o.op := by unfold stepOp wantedE; rw [hg]
  rw [hst]
  split at ha
  ·cases ha
  ·rename_i hsl
   split at ha
   ·rename_i x hop
    split at ha
    ·rename_i a0 p0 h0
     simp only [Option.some.injEq, Prod.mk.injEq] at ha
     obtain ⟨rfl, rfl, rfl, rfl⟩ := ha
     obtain ⟨h1, h2⟩ := decA2_ok hs hn _ _ _ h0
     exact ⟨hd, hsl, by rw [hop]; simp only [opVal, opRest, popS, pop, h1]; rfl, h2⟩
    ·cases ha
   ·rename_i x hop
    split at ha
    ·rename_i a0 p0 h0
     simp only [Option.some.injEq, Prod.mk.injEq] at ha
     obtain ⟨rfl, rfl, rfl, rfl⟩ := ha
     obtain ⟨h1, h2⟩ := decA2_ok hs hn _ _ _ h0
     exact ⟨hd, hsl, by rw [hop]; simp only [opVal, opRest, popS, pop, h1]; rfl, h2⟩
    ·cases ha
   ·rename_i x hop
    split at ha
    ·rename_i a0 p0 h0
     simp only [Option.some.injEq, Prod.mk.injEq] at ha
     obtain ⟨rfl, rfl, rfl, rfl⟩ := ha
     obtain ⟨h1, h2⟩ := decA2_ok hs hn _ _ _ h0
     have hp : ptrB (a0.get st t) = true := by
      cases p0 with
      | true => exact h2 rfl
      | false => exact hc rfl
     refine ⟨hd, hsl, ?_, fun _ => hp⟩
     rw [hop]
     simp only [opVal, opRest, popS, ptrB_nil hp C.P (rdE e) x h1]
     rfl
    ·cases ha
   ·rename_i T x f hop
    split at ha
    ·rename_i a0 off ft h0 hb
     split at ha
     ·rename_i n hz
      simp only [Option.some.injEq, Prod.mk.injEq] at ha
      obtain ⟨rfl, rfl, rfl, rfl⟩ := ha
      obtain ⟨h1, h2⟩ := decA2_ok hs hn _ _ _ h0
      obtain ⟨q1, q2⟩ := ptrB_field (h2 rfl) off
      refine ⟨hd, hsl, ?_, fun _ => q2⟩
      rw [hop]
      simp only [opVal, opRest, popS, pop, h1, opFieldAddr, hb, hz, q1]
      rfl
     ·cases ha
    ·cases ha
   ·cases ha
 ·cases ha
omit [E : Amb] in
theorem goR2_ok {ds : List DE} {st : List V} {t e : Env} {h : Hp} {o : Oper} {g : Option FG} {f : FO} (hs : Rel2 NL ds st t e) (hn : EqN NL t e)
  (hg : decG2 NL ds ops o.guard = some g) (hd : decO C.P (raOf NL ds) o.op = some f) : Le (toO (goR g f C st t h)) (stepOp C ops e h o) := by
 have hop := decO_ok (C := C) (h := h) (raOf_ok hs hn) (rdE_leaf e) hd
 unfold stepOp wantedE
 cases hgu : o.guard with
 | none =>
  rw [hgu] at hg
  simp only [decG2, Option.some.injEq] at hg; subst hg
  exact hop
 | some jw =>
  obtain ⟨j, w⟩ := jw
  rw [hgu] at hg
  simp only [decG2] at hg
  split at hg
  ·rename_i d hd'
   simp only [hd']
   split at hg
   ·rename_i a ha
    simp only [Option.some.injEq] at hg; subst hg
    have e1 := raOf_ok hs hn _ _ ha
    simp only [rdE, Option.some.injEq] at e1
    rw [e1]
    show Le (toO (GV.rec (motive := fun _ => OR) .no (runO f C st t h) (.v (.tup [])) (asG (a.get st t) w))) _
    cases a.get st t with
    | bool b => cases b <;> cases w <;> first | exact hop | exact Le.refl _
    | any => exact Le.none _
    | anyb => exact Le.none _
    | _ => exact Le.refl _
   ·cases hg
  ·rename_i hd'
   simp only [Option.some.injEq] at hg; subst hg
   simp only [hd']
   exact Le.refl _
omit [E : Amb] in
theorem runR2_ok : ∀ (l : List Oper) (ds : List DE) (r : FR), decR2 C.P NL ops l ds = some r → ∀ (st : List V) (t e : Env) (h : Hp), Rel2 NL ds st t e → EqN NL t e → ∀ t' h', runR r C st t h = .ok t' h' →
    ∃ tr e', traceOps C ops l e h = some (tr, e', h') ∧ EqN NL t' e' ∧ Among tr (l.map fun o => mayW C o.op) := by
  intro l
  induction l with
  | nil =>
    intro ds r hr st t e h hs hn t' h' hx
    cases hr
    cases hx
    exact ⟨[], e, rfl, hn, trivial⟩
  | cons o l ih =>
    intro ds r hr st t e h hs hn t' h' hx
    simp only [decR2] at hr
    split at hr
    · -- a name
      rename_i d a p c ha
      split at hr
      · rename_i q hq
        have go : ∀ (hc : c = true → ptrB (a.get st t) = true), runR q C st t h = .ok t' h' → ∃ tr e', traceOps C ops (o :: l) e h = some (tr, e', h') ∧ EqN NL t' e' ∧ Among tr ((o :: l).map fun o => mayW C o.op) := by
          intro hc hx
          obtain ⟨a1, a2, a3, a4⟩ := alias_ok (C := C) (ops := ops) (h := h) hs hn ha hc
          have hn2 : EqN NL t (Env.put e (some d) (a.get st t)) := by
            have := hn.put (some d) (a.get st t)
            have e0 : decD NL (some d) = none := by simp only [decD, a2]
            rw [e0] at this
            exact this
          obtain ⟨tr, e', k1, k2, k3⟩ := ih _ _ hq st t (Env.put e (some d) (a.get st t)) h (hs.name d a p a4) hn2 _ _ hx
          refine ⟨false :: tr, e', ?_, k2, ⟨fun h => (by cases h), k3⟩⟩
          simp only [traceOps, a3, a1, k1]
        split at hr
        · simp only [Option.some.injEq] at hr; subst hr
          have hx2 : Bool.rec (motive := fun _ => RR) .no (runR q C st t h) (ptrB (a.get st t)) = .ok t' h' := hx
          cases hb : ptrB (a.get st t) with
          | false => rw [hb] at hx2; cases hx2
          | true => rw [hb] at hx2; exact go (fun _ => hb) hx2
        · simp only [Option.some.injEq] at hr; subst hr
          exact go (fun h => by cases h) hx
      · cases hr
    · have step : ∀ (g : Option FG) (f : FO) (q : FR), decG2 NL ds ops o.guard = some g → decO C.P (raOf NL ds) o.op = some f → decR2 C.P NL ops l (.v o.dst :: ds) = some q →
          OR.rec (motive := fun _ => RR) .no (fun x => runR q C (x :: st) (putO (decD NL o.dst) x t) h) (fun x k => runR q C (x :: st) (putO (decD NL o.dst) x t) k) (goR g f C st t h) = .ok t' h' →
          ∃ tr e', traceOps C ops (o :: l) e h = some (tr, e', h') ∧ EqN NL t' e' ∧ Among tr ((o :: l).map fun o => mayW C o.op) := by
        intro g f q hg hd hq hx
        have hle := goR2_ok (C := C) (h := h) hs hn hg hd
        cases ho : goR g f C st t h with
        | no => rw [ho] at hx; cases hx
        | v x =>
          rw [ho] at hx hle
          have h1 := hle _ rfl
          obtain ⟨tr, e', k1, k2, k3⟩ := ih _ _ hq (x :: st) _ (Env.put e o.dst x) h (hs.push _ _) (hn.put _ _) _ _ hx
          refine ⟨false :: tr, e', ?_, k2, ⟨fun h => (by cases h), k3⟩⟩
          simp only [traceOps, h1, k1]
        | w x k =>
          rw [ho] at hx hle
          have h1 := hle _ rfl
          obtain ⟨tr, e', k1, k2, k3⟩ := ih _ _ hq (x :: st) _ (Env.put e o.dst x) k (hs.push _ _) (hn.put _ _) _ _ hx
          refine ⟨true :: tr, e', ?_, k2, ⟨fun _ => ?_, k3⟩⟩
          · simp only [traceOps, h1, k1]
          · unfold stepOp at h1
            split at h1
            · exact opVal_mayW h1
            · cases h1
            · cases h1
      split at hr
      · rename_i g f q hg hd hq
        simp only [Option.some.injEq] at hr; subst hr
        rw [runR_g] at hx
        exact step (some g) f q hg hd hq hx
      · rename_i f q hg hd hq
        split at hr
        · rename_i p hp
          simp only [Option.some.injEq] at hr; subst hr
          rw [runR_op] at hx
          refine step none f q hg hd hq ?_
          rw [hp]; exact hx
        · rename_i hp
          simp only [Option.some.injEq] at hr; subst hr
          refine step none f q hg hd hq ?_
          rw [hp]; exact hx
      · cases hr
omit [E : Amb] in
theorem runRR_ok {r : FR} (hr : decRR C.P NL ops = some r) {t e : Env} {h : Hp} (hn : EqN NL t e) {t' : Env} {h' : Hp} (hx : runR r C [] t h = .ok t' h') :
  ∃ tr e', traceOps C ops ops.toList e h = some (tr, e', h') ∧ EqN NL t' e' ∧ Among tr (ops.toList.map fun o => mayW C o.op) := by
 unfold decRR at hr
 split at hr
 ·rename_i q hq
  simp only [Option.some.injEq] at hr; subst hr
  exact runR2_ok _ _ _ hq [] t e h (fun s a p h => by cases h) hn _ _ hx
 ·exact runR_ok _ _ _ hr [] t e h (RelSt.nil e) hn _ _ hx
omit [E : Amb] in
theorem trace_run : ∀ (l : List Oper) (e : Env) (h : Hp) (tr : List Bool) (e' : Env) (h' : Hp), traceOps C ops l e h = some (tr, e', h') → runOps C ops l e h = some (e', h') := by
 intro l
 induction l with
 | nil => intro e h tr e' h' hx; simp only [traceOps, Option.some.injEq, Prod.mk.injEq] at hx; obtain ⟨_, rfl, rfl⟩ := hx; rfl
 | cons o l ih =>
  intro e h tr e' h' hx
  simp only [traceOps] at hx
  simp only [runOps]
  split at hx
  ·rename_i v hv
   split at hx
   ·rename_i l1 e1 h1 hl
    simp only [Option.some.injEq, Prod.mk.injEq] at hx; obtain ⟨_, rfl, rfl⟩ := hx
    exact ih _ _ _ _ _ hl
   ·cases hx
  ·rename_i v k hv
   split at hx
   ·rename_i l1 e1 h1 hl
    simp only [Option.some.injEq, Prod.mk.injEq] at hx; obtain ⟨_, rfl, rfl⟩ := hx
    exact ih _ _ _ _ _ hl
   ·cases hx
  ·cases hx
omit [E : Amb] in
theorem lateOk_nil (C : Cfg) (ops : Array Oper) (i : Nat) (o : Oper) (j : Nat) : lateOk C [] ops i o j = false := by
 unfold lateOk
 split
 ·simp
 ·rfl
omit [E : Amb] in
theorem earlyOk_nil (C : Cfg) (ops : Array Oper) (j : Nat) (p : Oper) (i : Nat) : earlyOk C [] ops j p i = false := by
 unfold earlyOk
 split
 ·simp
 ·rfl
omit [E : Amb] in
theorem pairOk_mono {C0 : Cfg} (ha : ∀ o, apartFromHeap C0 o = apartFromHeap C o) (S : List (Env × Hp)) (bs : List (List Nat)) (i : Nat) (o : Oper) (j : Nat) (p : Oper) {n m n' m' : Bool}
  (hn : n = true → n' = true ∨ earlyOk C S ops j p i = true) (hm : m = true → m' = true ∨ lateOk C S ops i o j = true)
  (h : pairOk C0 [] ops bs i o n' j p m' = true) : pairOk C S ops bs i o n j p m = true := by
 unfold pairOk at h ⊢
 rw [lateOk_nil, earlyOk_nil, ha, ha] at h
 simp only [Bool.and_eq_true] at h ⊢
 refine ⟨h.1, ?_⟩
 have h3 := h.2
 cases h1 : (bs.getD j []).contains i with
 | true => rfl
 | false =>
  rw [h1] at h3
  simp only [Bool.false_or, Bool.not_eq_true', Bool.or_eq_false_iff, Bool.and_eq_false_iff, Bool.not_false, Bool.and_true] at h3 ⊢
  constructor
  ·rcases h3.1 with e | e
   ·cases n with
    | false => exact .inl rfl
    | true =>
     rcases hn rfl with h4 | h4
     ·rw [h4] at e; cases e
     ·right; right; rw [h4]; rfl
   ·exact .inr (.inl e)
  ·rcases h3.2 with e | e
   ·cases m with
    | false => exact .inl rfl
    | true =>
     rcases hm rfl with h4 | h4
     ·rw [h4] at e; cases e
     ·right; right; rw [h4]; rfl
   ·exact .inr (.inl e)
omit [E : Amb] in
theorem pairsFrom_mono {C0 : Cfg} (ha : ∀ o, apartFromHeap C0 o = apartFromHeap C o) (S : List (Env × Hp)) (bs : List (List Nat)) (i : Nat) (o : Oper) {n n' : Bool} (hn : n = true → n' = true) :
  ∀ (l : List Oper) (j : Nat) (ms ms' : List Bool), Among ms ms' → pairsFrom C0 [] ops bs i o n' j l ms' = true → pairsFrom C S ops bs i o n j l ms = true := by
 intro l
 induction l with
 | nil => intro j ms ms' _ _; rfl
 | cons p l ih =>
  intro j ms ms' hm h
  cases ms' with
  | nil => simp only [pairsFrom] at h; cases h
  | cons m' ms' =>
   cases ms with
   | nil => cases hm
   | cons m ms =>
    simp only [pairsFrom] at h ⊢
    split at h
    ·rename_i hp
     rw [pairOk_mono ha S bs i o j p (fun h => .inl (hn h)) (fun h => .inl (hm.1 h)) hp]
     exact ih _ _ _ hm.2 h
    ·cases h
omit [E : Amb] in
theorem pairsAll_mono {C0 : Cfg} (ha : ∀ o, apartFromHeap C0 o = apartFromHeap C o) (S : List (Env × Hp)) (bs : List (List Nat)) :
  ∀ (l : List Oper) (i : Nat) (ms ms' : List Bool), Among ms ms' → pairsAll C0 [] ops bs i l ms' = true → pairsAll C S ops bs i l ms = true := by
 intro l
 induction l with
 | nil => intro i ms ms' _ _; rfl
 | cons o l ih =>
  intro i ms ms' hm h
  cases ms' with
  | nil => simp only [pairsAll] at h; cases h
  | cons m' ms' =>
   cases ms with
   | nil => cases hm
   | cons m ms =>
    simp only [pairsAll] at h ⊢
    split at h
    ·rename_i hp
     rw [pairsFrom_mono ha S bs i o hm.1 _ _ _ _ hm.2 hp]
     exact ih _ _ _ hm.2 h
    ·cases h
omit [E : Amb] in
theorem orderOk_mono {C0 : Cfg} (ha : ∀ o, apartFromHeap C0 o = apartFromHeap C o) (S : List (Env × Hp)) {tr tr' : List Bool} (hm : Among tr tr') (h : orderOk C0 [] ops tr' = true) : orderOk C S ops tr = true := by
 unfold orderOk at h ⊢
 split at h
 ·simp only [Bool.and_eq_true] at h ⊢
  exact ⟨h.1, pairsAll_mono ha S _ _ _ _ _ hm h.2⟩
 ·cases h
omit [E : Amb] in
theorem apart_eq (C : Cfg) (o : Op) : apartFromHeap ⟨C.P, .leaf, fun _ => none, C.pure, fun _ => none, fun _ => false⟩ o = apartFromHeap C o := by
 cases C; rfl
omit [E : Amb] in
theorem hoist_stat {P : Program} {pure : FuncId → Bool} (h : statOk P pure ops = true) : hoist P pure ops = false := by
 unfold hoist; rw [h]; cases hasFloat ops <;> rfl
omit [E : Amb] in
theorem hoist_statL {P : Program} {pure : FuncId → Bool} (h : statOkL P pure (lateAll P pure ops) (earlyAll P pure ops) ops = true) : hoist P pure ops = false := by
 unfold hoist; rw [h]; cases hasFloat ops <;> simp
omit [E : Amb] in
theorem region_ok {draw : Bool} {r : FR} (hr : decRR C.P NL ops = some r) (hd : draw = true → statOk C.P C.pure ops = true) {t e : Env} {h : Hp} (hn : EqN NL t e) {t' : Env} {h' : Hp} (hx : runR r C [] t h = .ok t' h') :
  ∃ e', regionE C ops draw e h = some (e', h') ∧ EqN NL t' e' := by
 obtain ⟨tr, e', k1, k2, k3⟩ := runRR_ok hr hn hx
 refine ⟨e', ?_, k2⟩
 cases draw with
 | false => exact trace_run _ _ _ _ _ _ k1
 | true =>
  have hst := hd rfl
  have hho := hoist_stat hst
  unfold statOk at hst
  split at hst
  ·cases hst
  ·rename_i hf
   have ho := orderOk_mono (C := C) (apart_eq C) (statesOps C ops ops.toList e h) (tr := tr) (by
    refine (?_ : Among tr (ops.toList.map fun o => mayW ⟨C.P, .leaf, fun _ => none, C.pure, fun _ => none, fun _ => false⟩ o.op))
    have e0 : (fun o : Oper => mayW ⟨C.P, .leaf, fun _ => none, C.pure, fun _ => none, fun _ => false⟩ o.op) = fun o => mayW C o.op := funext fun o => by unfold mayW; rw [apart_eq]
    rw [e0]; exact k3) hst
   simp only [regionE, hf, hho, k1, ho]
omit [E : Amb] in
theorem pairsFrom_late {C0 : Cfg} (ha : ∀ o, apartFromHeap C0 o = apartFromHeap C o) (S : List (Env × Hp)) (L E : List (Nat × Nat)) (bs : List (List Nat)) (all : List Oper) (i : Nat) (o : Oper) (hL : ∀ j, L.contains (i, j) = true → lateOk C S ops i o j = true)
  (hE : ∀ j p, E.contains (j, i) = true → all[j]? = some p → earlyOk C S ops j p i = true) {n n' : Bool} (hn : n = true → n' = true) :
  ∀ (l : List Oper) (j : Nat) (ms ms' : List Bool), (∀ k, l[k]? = all[j + k]?) → Among ms ms' → pairsFromL C0 L E ops bs i o n' j l ms' = true → pairsFrom C S ops bs i o n j l ms = true := by
 intro l
 induction l with
 | nil => intro j ms ms' _ _ _; rfl
 | cons p l ih =>
  intro j ms ms' hk hm h
  cases ms' with
  | nil => simp only [pairsFromL] at h; cases h
  | cons m' ms' =>
   cases ms with
   | nil => cases hm
   | cons m ms =>
    simp only [pairsFromL] at h
    simp only [pairsFrom]
    have hp0 : all[j]? = some p := by have := hk 0; simpa using this.symm
    split at h
    ·rename_i hp
     rw [pairOk_mono ha S bs i o j p (fun e => ?_) (fun e => ?_) hp]
     ·refine ih _ _ _ (fun k => ?_) hm.2 h
      have := hk (k + 1)
      simp only [List.getElem?_cons_succ] at this
      rw [this]; congr 1; omega
     ·cases hc : E.contains (j, i) with
      | true => exact .inr (hE j p hc hp0)
      | false => left; rw [hn e]; rfl
     ·cases hc : L.contains (i, j) with
      | true => exact .inr (hL j hc)
      | false => left; rw [hm.1 e]; rfl
    ·cases h
omit [E : Amb] in
theorem pairsAll_late {C0 : Cfg} (ha : ∀ o, apartFromHeap C0 o = apartFromHeap C o) (S : List (Env × Hp)) (L E : List (Nat × Nat)) (bs : List (List Nat)) (all : List Oper) (hL : ∀ i j o, L.contains (i, j) = true → all[i]? = some o → lateOk C S ops i o j = true)
  (hE : ∀ j i p, E.contains (j, i) = true → all[j]? = some p → earlyOk C S ops j p i = true) :
  ∀ (l : List Oper) (i : Nat) (ms ms' : List Bool), (∀ k, l[k]? = all[i + k]?) → Among ms ms' → pairsAllL C0 L E ops bs i l ms' = true → pairsAll C S ops bs i l ms = true := by
 intro l
 induction l with
 | nil => intro i ms ms' _ _ _; rfl
 | cons o l ih =>
  intro i ms ms' hk hm h
  cases ms' with
  | nil => simp only [pairsAllL] at h; cases h
  | cons m' ms' =>
   cases ms with
   | nil => cases hm
   | cons m ms =>
    simp only [pairsAllL] at h
    simp only [pairsAll]
    have ho : all[i]? = some o := by have := hk 0; simpa using this.symm
    have hk1 : ∀ k, l[k]? = all[i + 1 + k]? := fun k => by
     have := hk (k + 1)
     simp only [List.getElem?_cons_succ] at this
     rw [this]; congr 1; omega
    split at h
    ·rename_i hp
     rw [pairsFrom_late ha S L E bs all i o (fun j hj => hL i j o hj ho) (fun j p hj hp => hE j i p hj hp) hm.1 _ _ _ _ hk1 hm.2 hp]
     exact ih _ _ _ hk1 hm.2 h
    ·cases h
omit [E : Amb] in
theorem statesR_ok : ∀ (l : List Oper) (ds : List (Option Nat)) (r : FR), decR C.P NL ops l ds = some r → ∀ (st : List V) (t e : Env) (h : Hp), RelSt ds st e → EqN NL t e → ∀ (k : Nat) (s : SR), (statesR r C st t h)[k]? = some s →
    ∃ g' o' st' t' h' e', s = SR.mk g' o' st' t' h' ∧ (statesOps C ops l e h)[k]? = some (e', h') ∧ ∀ (o : Oper), l[k]? = some o → ∃ ds', RelSt ds' st' e' ∧ EqN NL t' e' ∧ decO C.P (decA NL ds') o.op = some o' ∧ decG NL ds' ops o.guard = some g' := by
  intro l
  induction l with
  | nil =>
    intro ds r hr st t e h hs hn k s hk
    cases hr
    cases k with
    | zero =>
      have : s = SR.mk none (.lenN 0) st t h := (Option.some.inj hk).symm
      exact ⟨_, _, _, _, _, e, this, rfl, fun o ho => by cases ho⟩
    | succ k => cases hk
  | cons o l ih =>
    intro ds r hr st t e h hs hn k s hk
    have step : ∀ (g : Option FG) (f : FO) (q : FR), decG NL ds ops o.guard = some g → decO C.P (decA NL ds) o.op = some f → decR C.P NL ops l (o.dst :: ds) = some q →
        (SR.mk g f st t h :: OR.rec (motive := fun _ => List SR) [] (fun x => statesR q C (x :: st) (putO (decD NL o.dst) x t) h) (fun x k => statesR q C (x :: st) (putO (decD NL o.dst) x t) k) (goR g f C st t h))[k]? = some s →
        ∃ g' o' st' t' h' e', s = SR.mk g' o' st' t' h' ∧ (statesOps C ops (o :: l) e h)[k]? = some (e', h') ∧ ∀ (o1 : Oper), (o :: l)[k]? = some o1 → ∃ ds', RelSt ds' st' e' ∧ EqN NL t' e' ∧ decO C.P (decA NL ds') o1.op = some o' ∧ decG NL ds' ops o1.guard = some g' := by
      intro g f q hg hd hq hk
      cases k with
      | zero =>
        have : s = SR.mk g f st t h := (Option.some.inj hk).symm
        refine ⟨_, _, _, _, _, e, this, rfl, fun o1 ho => ?_⟩
        have : o1 = o := (Option.some.inj ho).symm
        subst this
        exact ⟨ds, hs, hn, hd, hg⟩
      | succ k =>
        simp only [List.getElem?_cons_succ] at hk ⊢
        have hle := goR_ok (C := C) (h := h) hs hn hg hd
        cases ho : goR g f C st t h with
        | no => rw [ho] at hk; cases hk
        | v x =>
          rw [ho] at hk hle
          have h1 := hle _ rfl
          have := ih _ _ hq (x :: st) _ (Env.put e o.dst x) h (hs.push _ _) (hn.put _ _) k s hk
          simpa only [statesOps, h1, List.getElem?_cons_succ] using this
        | w x k1 =>
          rw [ho] at hk hle
          have h1 := hle _ rfl
          have := ih _ _ hq (x :: st) _ (Env.put e o.dst x) k1 (hs.push _ _) (hn.put _ _) k s hk
          simpa only [statesOps, h1, List.getElem?_cons_succ] using this
    simp only [decR] at hr
    split at hr
    · rename_i g f q hg hd hq
      simp only [Option.some.injEq] at hr; subst hr
      exact step (some g) f q hg hd hq hk
    · rename_i f q hg hd hq
      split at hr
      · rename_i p hp
        simp only [Option.some.injEq] at hr; subst hr
        refine step none f q hg hd hq ?_
        rw [hp]; exact hk
      · rename_i hp
        simp only [Option.some.injEq] at hr; subst hr
        refine step none f q hg hd hq ?_
        rw [hp]; exact hk
    · cases hr
omit [E : Amb] in
theorem sameR_inv {a b : OR} (h : sameR a b = true) : ∃ x y, a = .v x ∧ b = .v y ∧ x.same y = true := by
 cases a <;> cases b <;> first | (cases h; done) | exact ⟨_, _, rfl, rfl, h⟩
omit [E : Amb] in
theorem earlyX_mem : ∀ (L : List (Nat × Nat)) (S : List SR), earlyX L S C = true → ∀ p ∈ L, early1 (S[p.1]?) (S[p.2]?) (S[p.2 + 1]?) C = true := by
 intro L
 induction L with
 | nil => intro S _ p hp; cases hp
 | cons q L ih =>
  intro S h p hp
  revert h
  show Bool.rec (motive := fun _ => Bool) false (earlyX L S C) (early1 (nthF q.1 S) (nthF q.2 S) (nthF (Nat.add q.2 1) S) C) = true → _
  rw [nthF_eq, nthF_eq, nthF_eq]
  cases hl : early1 (S[q.1]?) (S[q.2]?) (S[Nat.add q.2 1]?) C with
  | false => intro h; cases h
  | true =>
   intro h
   rcases List.mem_cons.1 hp with e | e
   ·subst e; exact hl
   ·exact ih S h p e
omit [E : Amb] in
theorem lateX_mem : ∀ (L : List (Nat × Nat)) (S : List SR), lateX L S C = true → ∀ p ∈ L, late1 (S[p.1]?) (S[p.2 + 1]?) C = true := by
 intro L
 induction L with
 | nil => intro S _ p hp; cases hp
 | cons q L ih =>
  intro S h p hp
  revert h
  show Bool.rec (motive := fun _ => Bool) false (lateX L S C) (late1 (nthF q.1 S) (nthF (Nat.add q.2 1) S) C) = true → _
  rw [nthF_eq, nthF_eq]
  cases hl : late1 (S[q.1]?) (S[Nat.add q.2 1]?) C with
  | false => intro h; cases h
  | true =>
   intro h
   rcases List.mem_cons.1 hp with e | e
   ·subst e; exact hl
   ·exact ih S h p e
omit [E : Amb] in
theorem skip_want {ds' : List (Option Nat)} {st1 : List V} {t1 e1 : Env} {o : Oper} {g1 : FG} (d1 : RelSt ds' st1 e1) (d2 : EqN NL t1 e1) (d4 : decG NL ds' ops o.guard = some (some g1)) (hg : fG g1 st1 t1 = .skip) : wantedE e1 ops o = some false := by
 unfold wantedE
 cases hgu : o.guard with
 | none => rw [hgu] at d4; simp only [decG, Option.some.injEq] at d4; cases d4
 | some jw =>
  obtain ⟨j1, w⟩ := jw
  rw [hgu] at d4
  simp only [decG] at d4
  split at d4
  ·rename_i d hd'
   simp only [hd']
   split at d4
   ·rename_i a1 ha1
    simp only [Option.some.injEq] at d4
    subst d4
    have e9 := decA_ok d1 d2 _ _ ha1
    simp only [rdE, Option.some.injEq] at e9
    rw [e9]
    revert hg
    show asG (a1.get st1 t1) w = .skip → _
    cases a1.get st1 t1 with
    | bool b => cases b <;> cases w <;> intro hg <;> first | rfl | cases hg
    | any => intro hg; cases hg
    | anyb => intro hg; cases hg
    | _ => intro _; rfl
   ·cases d4
  ·rename_i hd'
   simp only [hd']
omit [E : Amb] in
theorem regionL_ok {r : FR} {L E : List (Nat × Nat)} (hr : decR C.P NL ops ops.toList [] = some r) (hst : statOkL C.P C.pure L E ops = true) (hho : hoist C.P C.pure ops = false) (hLd : ∀ p ∈ L, ∀ o, ops.toList[p.1]? = some o → isLoadO o.op = true) (hEd : ∀ p ∈ E, ∀ o, ops.toList[p.1]? = some o → isLoadO o.op = true)
  {t e : Env} {h : Hp} (hn : EqN NL t e) {t' : Env} {h' : Hp} (hx : runR r C [] t h = .ok t' h')
  (hl : lateX L (statesR r C [] t h) C = true) (hel : earlyX E (statesR r C [] t h) C = true) : ∃ e', regionE C ops true e h = some (e', h') ∧ EqN NL t' e' := by
 obtain ⟨tr, e', k1, k2, k3⟩ := runR_ok _ _ _ hr [] t e h (RelSt.nil e) hn _ _ hx
 refine ⟨e', ?_, k2⟩
 unfold statOkL at hst
 split at hst
 ·cases hst
 ·rename_i hf
  have hS := statesR_ok _ _ _ hr [] t e h (RelSt.nil e) hn
  have hL : ∀ i j o, L.contains (i, j) = true → ops.toList[i]? = some o → lateOk C (statesOps C ops ops.toList e h) ops i o j = true := by
   intro i j o hij ho
   have hm : (i, j) ∈ L := by simpa using hij
   have hld := hLd _ hm o ho
   have h1 := lateX_mem L _ hl _ hm
   simp only at h1
   cases ha : (statesR r C [] t h)[i]? with
   | none => rw [ha] at h1; cases h1
   | some a =>
    cases hb : (statesR r C [] t h)[j + 1]? with
    | none => rw [ha, hb] at h1; cases h1
    | some b =>
     obtain ⟨g1, o1, st1, t1, h1', e1, rfl, q1, q2⟩ := hS i a ha
     obtain ⟨g2, o2, st2, t2, h2', e2, rfl, q3, _⟩ := hS (j + 1) b hb
     obtain ⟨ds', d1, d2, d3, d4⟩ := q2 o ho
     rw [ha, hb] at h1
     have same : sameR (runO o1 C st1 t1 h1') (runO o1 C st1 t1 h2') = true → lateOk C (statesOps C ops ops.toList e h) ops i o j = true := by
      intro h2
      obtain ⟨x, y, x1, y1, hxy⟩ := sameR_inv h2
      have v1 := decO_ok (C := C) (h := h1') (decA_ok d1 d2) (rdE_leaf e1) d3 (x, none) (by rw [x1]; rfl)
      have v2 := decO_ok (C := C) (h := h2') (decA_ok d1 d2) (rdE_leaf e1) d3 (y, none) (by rw [y1]; rfl)
      unfold lateOk
      simp only [hld, q1, q3, v1, v2, hxy]
      split <;> rfl
     cases g1 with
     | none => exact same h1
     | some g1 =>
      have h2 : GV.rec (motive := fun _ => Bool) false (sameR (runO o1 C st1 t1 h1') (runO o1 C st1 t1 h2')) true (fG g1 st1 t1) = true := h1
      cases hg : fG g1 st1 t1 with
      | no => rw [hg] at h2; cases h2
      | yes => rw [hg] at h2; exact same h2
      | skip =>
       have hw := skip_want (ops := ops) d1 d2 d4 hg
       unfold lateOk
       simp only [hld, q1, q3, hw]
  have hE : ∀ j i p, E.contains (j, i) = true → ops.toList[j]? = some p → earlyOk C (statesOps C ops ops.toList e h) ops j p i = true := by
   intro j i o hij ho
   have hm : (j, i) ∈ E := by simpa using hij
   have hld := hEd _ hm o ho
   have h1 := earlyX_mem E _ hel _ hm
   simp only at h1
   cases ha : (statesR r C [] t h)[j]? with
   | none => rw [ha] at h1; cases h1
   | some a =>
    cases hb : (statesR r C [] t h)[i]? with
    | none => rw [ha, hb] at h1; cases h1
    | some b =>
     cases hc : (statesR r C [] t h)[i + 1]? with
     | none => rw [ha, hb, hc] at h1; cases h1
     | some c =>
      obtain ⟨g1, o1, st1, t1, h1', e1, rfl, q1, q2⟩ := hS j a ha
      obtain ⟨g2, o2, st2, t2, h2', e2, rfl, q3, _⟩ := hS i b hb
      obtain ⟨g3, o3, st3, t3, h3', e3, rfl, q4, _⟩ := hS (i + 1) c hc
      obtain ⟨ds', d1, d2, d3, d4⟩ := q2 o ho
      rw [ha, hb, hc] at h1
      have same : sameR (runO o1 C st1 t1 h2') (runO o1 C st1 t1 h3') = true → earlyOk C (statesOps C ops ops.toList e h) ops j o i = true := by
       intro h2
       obtain ⟨x, y, x1, y1, hxy⟩ := sameR_inv h2
       have v1 := decO_ok (C := C) (h := h2') (decA_ok d1 d2) (rdE_leaf e1) d3 (x, none) (by rw [x1]; rfl)
       have v2 := decO_ok (C := C) (h := h3') (decA_ok d1 d2) (rdE_leaf e1) d3 (y, none) (by rw [y1]; rfl)
       unfold earlyOk
       simp only [hld, q1, q3, q4, v1, v2, hxy]
       split <;> rfl
      cases g1 with
      | none => exact same h1
      | some g1 =>
       have h2 : GV.rec (motive := fun _ => Bool) false (sameR (runO o1 C st1 t1 h2') (runO o1 C st1 t1 h3')) true (fG g1 st1 t1) = true := h1
       cases hg : fG g1 st1 t1 with
       | no => rw [hg] at h2; cases h2
       | yes => rw [hg] at h2; exact same h2
       | skip =>
        have hw := skip_want (ops := ops) d1 d2 d4 hg
        unfold earlyOk
        simp only [hld, q1, q3, q4, hw]
  have ho : orderOk C (statesOps C ops ops.toList e h) ops tr = true := by
   unfold orderOkL at hst
   unfold orderOk
   split at hst
   ·rename_i bs hbs
    try simp only [hbs]
    simp only [Bool.and_eq_true] at hst
    rw [Bool.and_eq_true]
    refine ⟨hst.1, pairsAll_late (C := C) (apart_eq C) _ L E _ ops.toList hL hE _ _ _ _ (fun k => by simp) ?_ hst.2⟩
    have e0 : (fun o : Oper => mayW ⟨C.P, .leaf, fun _ => none, C.pure, fun _ => none, fun _ => false⟩ o.op) = fun o => mayW C o.op := funext fun o => by unfold mayW; rw [apart_eq]
    rw [e0]; exact k3
   ·cases hst
  simp only [regionE, hf, hho, k1, ho]
omit [E : Amb] in
theorem earlyAll_load {P : Program} {pure : FuncId → Bool} : ∀ p ∈ earlyAll P pure ops, ∀ o, ops.toList[p.1]? = some o → isLoadO o.op = true := by
 intro p hp o ho
 unfold earlyAll at hp
 split at hp
 ·simp only [List.mem_flatMap, List.mem_filterMap] at hp
  obtain ⟨j, _, i, _, hh⟩ := hp
  split at hh
  ·rename_i p1 o1 hp1 ho1
   split at hh
   ·rename_i hb
    simp only [Option.some.injEq] at hh; subst hh
    simp only [Bool.and_eq_true] at hb
    simp only [Array.getElem?_toList] at ho
    rw [hp1] at ho
    simp only [Option.some.injEq] at ho; subst ho
    exact hb.2.1
   ·cases hh
  ·cases hh
 ·cases hp
omit [E : Amb] in
theorem lateAll_load {P : Program} {pure : FuncId → Bool} : ∀ p ∈ lateAll P pure ops, ∀ o, ops.toList[p.1]? = some o → isLoadO o.op = true := by
 intro p hp o ho
 unfold lateAll at hp
 split at hp
 ·simp only [List.mem_flatMap, List.mem_filterMap] at hp
  obtain ⟨i, _, j, _, hh⟩ := hp
  split at hh
  ·rename_i o1 p1 ho1 hp1
   split at hh
   ·rename_i hb
    simp only [Option.some.injEq] at hh; subst hh
    simp only [Bool.and_eq_true] at hb
    simp only [Array.getElem?_toList] at ho
    rw [ho1] at ho
    simp only [Option.some.injEq] at ho; subst ho
    exact hb.2.1
   ·cases hh
  ·cases hh
 ·cases hp
omit [E : Amb] in
theorem EqN.join {t1 t2 e1 e2 : Env} (h1 : EqN NL t1 e1) (h2 : EqN NL t2 e2) : EqN NL (joinT t1 t2) (joinT e1 e2) := by
 intro s k hk
 rw [joinT_get, joinT_get, h1 s k hk, h2 s k hk]
omit [E : Amb] in
theorem eqT_refl {α : Type} {s : α → α → Bool} (hs : ∀ x, s x x = true) : ∀ t : Tr α, Tr.eqT s t t = true := by
 intro t
 induction t with
 | leaf => rfl
 | node l v r ihl ihr =>
  cases v with
  | none => simp only [Tr.eqT, ihl, ihr]; rfl
  | some x => simp only [Tr.eqT, ihl, ihr, hs]; rfl
omit [E : Amb] in
theorem sameEnds_refl : ∀ l : List (Nat × Nat), sameEnds l l = true
 | [] => rfl
 | x :: r => by rw [sameEnds, sameEnds_refl r]; simp
omit [E : Amb] in
theorem write_alone {h : Hp} {b e : Nat} {z v : V} (hb : h.t.get b = some (.cells b 0 0 [z])) (hf : h.fams.get b = some [(b, e)]) (hv : v.one = true) (hc : v.cells = [v]) : h.write b 0 v.cells = some ⟨h.next, h.t.put (some (.cells b 0 0 [v])) b, h.fams, h.els⟩ := by
 rw [hc]
 unfold Hp.write
 simp only [hb]
 rw [if_pos ⟨by simp, Nat.le_refl _, by simp [hv]⟩, kill_alone hf]
 rfl
omit [E : Amb] in
theorem boolFork_ok {d T d3 : Nat} (hd : boolFork C.P ops = some (d, T, d3)) (hf : forkOk ops = true) {t e : Env} {h : Hp} (hn : EqN NL t e) : ∃ e', regionE C ops true e h =
  some (e', ⟨h.next + 1, h.t.put none h.next, h.fams.put (some [(h.next, 1)]) h.next, h.els.put (some (2 * T + 1)) h.next⟩) ∧ EqN NL (putO (decD NL (some d3)) .anyb (putO (decD NL (some d)) (.ptr h.next 0) t)) e' := by
 unfold boolFork at hd
 split at hd
 ·rename_i d' T' ty0 ps0 af0 T1 x1 c1 ty1 ps1 af1 T2 x2 c2 ty2 ps2 af2 d3' T3 x3 ty3 ps3 af3 hops
  split at hd
  ·rename_i z a b hz hc1 hc2
   split at hd
   ·rename_i hq
    simp only [Option.some.injEq, Prod.mk.injEq] at hd
    obtain ⟨rfl, rfl, rfl⟩ := hd
    simp only [Bool.and_eq_true, bne_iff_ne, ne_eq, nbq, Bool.not_eq_true', beq_iff_eq] at hq
    obtain ⟨hab, ⟨⟨e1, e2⟩, e3, hne⟩, ⟨s1, s2⟩, s3⟩ := hq
    subst e1 e2 e3
    have hne2 : d3' ≠ x3 := fun e => by subst e; simp at hne
    obtain ⟨nx, hnx⟩ : ∃ nx, nx = h.next := ⟨_, rfl⟩
    obtain ⟨E, hE⟩ : ∃ E, E = Env.put e (some x3) (.ptr nx 0) := ⟨_, rfl⟩
    have hEg : ∀ v, rdE (Env.put E none v) (.tmp x3) = some (.ptr nx 0) := fun v => by
     show some (Env.get E x3) = _
     rw [hE, env_get_put, if_pos rfl]
    let Z (v : V) : Hp := ⟨nx + 1, h.t.put (some (.cells nx 0 0 [v])) nx, h.fams.put (some [(nx, 1)]) nx, h.els.put (some (2 * T' + 1)) nx⟩
    have alloc : opVal C (rdE e) h (.alloc T') = some (.ptr nx 0, some (Z z)) := by
     simp only [opVal, opAlloc, hz]
     subst hnx
     rfl
    have zt : ∀ v, (Z v).t.get nx = some (.cells nx 0 0 [v]) := fun v => by show (h.t.put _ nx).get nx = _; rw [Tr.get_put, if_pos rfl]
    have zf : ∀ v, (Z v).fams.get nx = some [(nx, 1)] := fun v => by show (h.fams.put _ nx).get nx = _; rw [Tr.get_put, if_pos rfl]
    have store : ∀ (T : TypeId) (c : Value) (b : Bool) (v : V), constV c = some (.bool b) → szOf C.P T = some 1 → opVal C (rdE E) (Z v) (.store T (.tmp x3) (.const c)) = some (.tup [], some (Z (.bool b))) := by
     intro T c b v hc hs
     have r1 : rdE E (.tmp x3) = some (.ptr nx 0) := hEg (.tup [])
     have r2 : rdE E (.const c) = some (.bool b) := hc
     simp only [opVal, r1, r2, opStore, hs]
     rw [if_pos ⟨rfl, rfl⟩, write_alone (zt v) (zf v) rfl rfl]
     show some (V.tup [], some (Hp.mk (nx + 1) ((h.t.put _ nx).put _ nx) _ _)) = _
     rw [put_over]
    have load : ∀ v, opVal C (rdE E) (Z v) (.load T3 (.tmp x3)) = some (v, none) := by
     intro v
     have r1 : rdE E (.tmp x3) = some (.ptr nx 0) := hEg (.tup [])
     simp only [opVal, r1, opLoad, Hp.cellsAt, zt, s3]
     rfl
    have runA : runOps C ops [⟨some x3, .alloc T', ty0, ps0, af0, none⟩, ⟨none, .store T1 (.tmp x3) (.const c1), ty1, ps1, af1, none⟩, ⟨none, .store T2 (.tmp x3) (.const c2), ty2, ps2, af2, none⟩, ⟨some d3', .load T3 (.tmp x3), ty3, ps3, af3, none⟩] e h = some (Env.put E (some d3') (.bool b), Z (.bool b)) := by
     simp only [runOps, stepOp, wantedE, alloc, ← hE]
     simp only [Env.put, store _ _ _ _ hc1 s1, store _ _ _ _ hc2 s2, load]
    have runB : runOps C ops [⟨some x3, .alloc T', ty0, ps0, af0, none⟩, ⟨none, .store T2 (.tmp x3) (.const c2), ty2, ps2, af2, none⟩, ⟨none, .store T1 (.tmp x3) (.const c1), ty1, ps1, af1, none⟩, ⟨some d3', .load T3 (.tmp x3), ty3, ps3, af3, none⟩] e h = some (Env.put E (some d3') (.bool a), Z (.bool a)) := by
     simp only [runOps, stepOp, wantedE, alloc, ← hE]
     simp only [Env.put, store _ _ _ _ hc1 s1, store _ _ _ _ hc2 s2, load]
    have hsame : Blk.same (.cells nx 0 0 [.bool b]) (.cells nx 0 0 [.bool a]) = false := by
     cases a <;> cases b <;> first | rfl | (exact absurd rfl hab) | skip
     all_goals (simp only [Blk.same, V.sames, V.same]; simp)
    have hjoin : (Z (.bool b)).join (Z (.bool a)) = some ⟨nx + 1, h.t.put none nx, h.fams.put (some [(nx, 1)]) nx, h.els.put (some (2 * T' + 1)) nx⟩ := by
     unfold Hp.join
     show (match (Nat.beq (nx + 1) (nx + 1) && Tr.eqT sameEnds (h.fams.put _ nx) (h.fams.put _ nx)) && Tr.eqT Nat.beq (h.els.put _ nx) (h.els.put _ nx) with
      | true => some (Hp.mk (nx + 1) (Tr.meet Blk.same (h.t.put _ nx) (h.t.put _ nx)) _ _)
      | false => none) = _
     rw [Nat.beq_refl, eqT_refl sameEnds_refl, eqT_refl Nat.beq_refl, meet_put Blk.same_refl hsame]
     rfl
    refine ⟨joinT (Env.put E (some d3') (.bool b)) (Env.put E (some d3') (.bool a)), ?_, ?_⟩
    ·simp only [regionE, hf, forkE, hops, runA, runB, hjoin, ← hnx]
    ·intro s k hk
     have h0 := ((hn.put (some x3) (.ptr nx 0)).put (some d3') .anyb) s k hk
     rw [← hnx, h0, joinT_get]
     show Tr.get (Tr.put (some .anyb) (Env.put e (some x3) (.ptr nx 0)) d3') s = joinO (Tr.get (Tr.put (some (.bool b)) E d3') s) (Tr.get (Tr.put (some (.bool a)) E d3') s)
     rw [Tr.get_put, Tr.get_put, Tr.get_put, ← hE]
     by_cases hs : s = d3'
     ·rw [if_pos hs, if_pos hs, if_pos hs]
      cases a <;> cases b <;> first | (exact absurd rfl hab) | rfl
     ·rw [if_neg hs, if_neg hs, if_neg hs]
      cases Tr.get E s with
      | none => rfl
      | some v => simp only [joinO, joinV, V.same_refl]
   ·cases hd
  ·cases hd
 ·cases hd
omit [E : Amb] in
theorem fork_ok {o0 o1 o2 o3 : Oper} {a b : FR} (ho : ops.toList = [o0, o1, o2, o3]) (hf : forkOk ops = true) (ha : decR C.P NL ops [o0, o1, o2, o3] [] = some a) (hb : decR C.P NL ops [o0, o2, o1, o3] [] = some b) {t e : Env} {h : Hp} (hn : EqN NL t e)
  {t1 t2 : Env} {h1 h2 h3 : Hp} (hx : runR a C [] t h = .ok t1 h1) (hy : runR b C [] t h = .ok t2 h2) (hj : h1.join h2 = some h3) : ∃ e', regionE C ops true e h = some (e', h3) ∧ EqN NL (joinT t1 t2) e' := by
 obtain ⟨tr1, e1, k1, k2, _⟩ := runR_ok _ _ _ ha [] t e h (RelSt.nil e) hn _ _ hx
 obtain ⟨tr2, e2, q1, q2, _⟩ := runR_ok _ _ _ hb [] t e h (RelSt.nil e) hn _ _ hy
 refine ⟨joinT e1 e2, ?_, k2.join q2⟩
 simp only [regionE, hf, forkE, ho, trace_run _ _ _ _ _ _ k1, trace_run _ _ _ _ _ _ q1, hj]
def OkX (NL : List Nat) : XR → Option (AX × Env × Hp) → Prop
 | .no, _ => True
 | .n t h, o => ∃ e, o = some (.normal, e, h) ∧ EqN NL t e
 | .x i t h, o => ∃ e, o = some (.exit i, e, h) ∧ EqN NL t e
 | .g l t h, o => ∃ e, o = some (.goto l, e, h) ∧ EqN NL t e
 | .r t h, o => ∃ e, o = some (.ret, e, h) ∧ EqN NL t e
omit [E : Amb] in
theorem loopX_ok {f : Env → Hp → XR} {g : Env → Hp → Option (AX × Env × Hp)} (hf : ∀ t e h, EqN NL t e → OkX NL (f t h) (g e h)) : ∀ (n : Nat) (t e : Env) (h : Hp), EqN NL t e → OkX NL (loopX n f t h) (loopE g n e h) := by
 intro n
 induction n with
 | zero => intro t e h _; trivial
 | succ n ih =>
  intro t e h hn
  have := hf t e h hn
  show OkX NL (XR.rec (motive := fun _ => XR) .no (fun t' h' => loopX n f t' h') (fun i t' h' => .x i t' h') (fun l t' h' => .g l t' h') (fun t' h' => .r t' h') (f t h)) _
  simp only [loopE]
  cases hx : f t h with
  | no => trivial
  | n t1 h1 =>
   rw [hx] at this
   obtain ⟨e1, k1, k2⟩ := this
   rw [k1]; exact ih _ _ _ k2
  | x i t1 h1 =>
   rw [hx] at this
   obtain ⟨e1, k1, k2⟩ := this
   rw [k1]; exact ⟨e1, rfl, k2⟩
  | g l t1 h1 =>
   rw [hx] at this
   obtain ⟨e1, k1, k2⟩ := this
   rw [k1]; exact ⟨e1, rfl, k2⟩
  | r t1 h1 =>
   rw [hx] at this
   obtain ⟨e1, k1, k2⟩ := this
   rw [k1]; exact ⟨e1, rfl, k2⟩
omit [E : Amb] in
theorem getA_mk : ∀ (l : List (Nat × TypeId × List V)) (n i : Nat), getA (mkFl l n) i = (posF l i).map fun j => .ptr (n + j) 0
 | [], _, _ => rfl
 | (k, T, cs) :: r, n, i => by
  simp only [mkFl, getA, posF]
  cases Nat.beq k i with
  | true => simp
  | false =>
   simp only
   rw [getA_mk r (n + 1) i, Option.map_map]
   cases posF r i with
   | none => rfl
   | some j => simp only [Option.map_some, Function.comp]; congr 2; omega
omit [E : Amb] in
theorem mkFl_mem : ∀ (l : List (Nat × TypeId × List V)) (n : Nat) (f : Flo), f ∈ mkFl l n → ∃ j x, l[j]? = some x ∧ f = (x.1, n + j, .ptr (n + j) 0, x.2.1, x.2.2)
 | [], _, _, h => by cases h
 | (k, T, cs) :: r, n, f, h => by
  simp only [mkFl, List.mem_cons] at h
  rcases h with rfl | h
  ·exact ⟨0, _, rfl, rfl⟩
  ·obtain ⟨j, x, h1, rfl⟩ := mkFl_mem r (n + 1) f h
   have e : n + 1 + j = n + (j + 1) := by omega
   exact ⟨j + 1, x, by simpa using h1, by rw [e]⟩
omit [E : Amb] in
theorem posF_get : ∀ (l : List (Nat × TypeId × List V)) (i j : Nat), posF l i = some j → j < l.length
 | [], _, _, h => by cases h
 | (k, T, cs) :: r, i, j, h => by
  simp only [posF] at h
  split at h
  ·cases h; exact Nat.succ_pos _
  ·obtain ⟨j', h1, rfl⟩ := Option.map_eq_some_iff.1 h
   have := posF_get r i j' h1
   simp only [List.length_cons]; omega
def hpAll : List (Nat × TypeId × List V) → Hp → Hp
 | [], h => h
 | (_, T, cs) :: r, h => hpAll r ((h.new cs).withEl h.next (2 * T + 1))
def stAll : List (Nat × TypeId × List V) → Nat → List V → List V
 | [], _, st => st
 | _ :: r, n, st => stAll r (n + 1) (.ptr n 0 :: st)
omit [E : Amb] in
theorem pre_ok (P : Program) : ∀ (l : List (Nat × Op)) (h : Hp), preAlloc P (fun _ => none) l h = (mkFl (floatIx P l) h.next, hpAll (floatIx P l) h)
 | [], h => rfl
 | (i, o) :: r, h => by
  have other : floatV P (fun _ => none) h.next o = none → (floatIx P ((i, o) :: r) = floatIx P r) → preAlloc P (fun _ => none) ((i, o) :: r) h = (mkFl (floatIx P ((i, o) :: r)) h.next, hpAll (floatIx P ((i, o) :: r)) h) := by
   intro h1 h2
   simp only [preAlloc, h1, h2]
   exact pre_ok P r h
  cases o with
  | alloc T =>
   cases hz : zeroC P T with
   | none => exact other (by simp only [floatV, hz]) (by simp only [floatIx, List.filterMap_cons, hz, Option.map_none])
   | some cs =>
    have e : floatIx P ((i, .alloc T) :: r) = (i, T, cs) :: floatIx P r := by simp only [floatIx, List.filterMap_cons, hz, Option.map_some]
    rw [e]
    simp only [preAlloc, floatV, hz, mkFl, hpAll]
    rw [pre_ok P r]
    rfl
  | makeSlice T l c => exact other (by simp only [floatV]; split <;> first | rfl | (rename_i hh _; cases hh)) rfl
  | _ => exact other rfl rfl
omit [E : Amb] in
theorem allocAll_ok (C : Cfg) (q : FR) (t : Env) : ∀ (l : List (Nat × TypeId × List V)) (st : List V) (h : Hp), runR (allocAll l q) C st t h = runR q C (stAll l h.next st) t (hpAll l h)
 | [], st, h => rfl
 | (i, T, cs) :: r, st, h => by
  show OR.rec (motive := fun _ => RR) .no (fun x => runR (allocAll r q) C (x :: st) t h) (fun x h' => runR (allocAll r q) C (x :: st) t h') (newK h cs T) = _
  rw [newK_eq]
  show runR (allocAll r q) C (.ptr h.next 0 :: st) t ((h.new cs).withEl h.next (2 * T + 1)) = _
  rw [allocAll_ok C q t r]
  rfl
omit [E : Amb] in
theorem stAll_get : ∀ (l : List (Nat × TypeId × List V)) (n : Nat) (st : List V), (∀ j, j < l.length → (stAll l n st).getD (l.length - 1 - j) (.tup []) = .ptr (n + j) 0) ∧ ∀ i, (stAll l n st).getD (l.length + i) (.tup []) = st.getD i (.tup [])
 | [], n, st => ⟨fun j hj => (by cases hj), fun i => (by simp only [stAll, List.length_nil, Nat.zero_add])⟩
 | x :: r, n, st => by
  obtain ⟨h1, h2⟩ := stAll_get r (n + 1) (.ptr n 0 :: st)
  simp only [stAll, List.length_cons]
  refine ⟨fun j hj => ?_, fun i => ?_⟩
  ·cases j with
   | zero =>
    have := h2 0
    simp only [Nat.add_zero, List.getD_cons_zero] at this
    simp only [Nat.add_sub_cancel, Nat.sub_zero, Nat.add_zero]
    exact this
   | succ j =>
    have := h1 j (by omega)
    have e1 : r.length + 1 - 1 - (j + 1) = r.length - 1 - j := by omega
    have e2 : n + (j + 1) = n + 1 + j := by omega
    rw [e1, e2]; exact this
  ·have := h2 (i + 1)
   have e : r.length + 1 + i = r.length + (i + 1) := by omega
   rw [e, this, List.getD_cons_succ]
def FreshB (h : Hp) (a : Nat) (T : Nat) (cs : List V) : Prop := (match h.t.get a with
  | some x => Blk.same (.cells a 0 0 cs) x
  | none => false) = true ∧ (match h.els.get a with
  | some e => Nat.beq e (2 * T + 1)
  | none => false) = true
omit [E : Amb] in
theorem ghF_ok {a T : Nat} {cs : List V} {h : Hp} (k : ghF (.ptr a 0) T cs h = true) : FreshB h a T cs := by
 have k : Option.rec (motive := fun _ => Bool) false (fun x => Option.rec (motive := fun _ => Bool) false (fun e => Bool.rec (motive := fun _ => Bool) false (Nat.beq e (Nat.add (Nat.mul 2 T) 1)) (Blk.same (.cells a 0 0 cs) x)) (getT h.els a)) (getT h.t a) = true := k
 rw [getT_eq, getT_eq] at k
 unfold FreshB
 cases hx : Tr.get h.t a with
 | none => rw [hx] at k; cases k
 | some x =>
  rw [hx] at k
  cases he : Tr.get h.els a with
  | none => rw [he] at k; cases k
  | some e =>
   rw [he] at k
   simp only at k ⊢
   cases hb : Blk.same (.cells a 0 0 cs) x with
   | false => rw [hb] at k; cases k
   | true => rw [hb] at k; exact ⟨rfl, k⟩
omit [E : Amb] in
theorem ghAll_ok {C : Cfg} {q : FR} {i n : Nat} {st : List V} {t : Env} {h : Hp} {t' : Env} {h' : Hp} : ∀ (l : List (Nat × TypeId × List V)) (ms : List Nat) (j : Nat), runR (ghAll i n l ms j q) C st t h = .ok t' h' →
  runR q C st t h = .ok t' h' ∧ ∀ k f m, l[k]? = some f → ms[k]? = some m → i ≤ m → ghF (st.getD (i + (n - 1 - (j + k))) (.tup [])) f.2.1 f.2.2 h = true
 | [], ms, j, hx => ⟨hx, fun k f m hk => by simp at hk⟩
 | _ :: _, [], j, hx => ⟨hx, fun k f m _ hk => by simp at hk⟩
 | (k0, T, cs) :: l, m :: ms, j, hx => by
  simp only [ghAll] at hx
  have tail : runR (ghAll i n l ms (j + 1) q) C st t h = .ok t' h' → (i ≤ m → ghF (st.getD (i + (n - 1 - j)) (.tup [])) T cs h = true) → runR q C st t h = .ok t' h' ∧ ∀ k f m1, ((k0, T, cs) :: l)[k]? = some f → (m :: ms)[k]? = some m1 → i ≤ m1 → ghF (st.getD (i + (n - 1 - (j + k))) (.tup [])) f.2.1 f.2.2 h = true := by
   intro h1 h2
   obtain ⟨g1, g2⟩ := ghAll_ok l ms (j + 1) h1
   refine ⟨g1, fun k f m1 hf hm hi => ?_⟩
   cases k with
   | zero =>
    simp only [List.getElem?_cons_zero, Option.some.injEq] at hf hm
    subst hf hm
    exact h2 hi
   | succ k =>
    simp only [List.getElem?_cons_succ] at hf hm
    have := g2 k f m1 hf hm hi
    have e : j + 1 + k = j + (k + 1) := by omega
    rw [e] at this; exact this
  cases hb : Nat.ble i m with
  | false =>
   rw [hb] at hx
   exact tail hx fun hi => by rw [Nat.ble_eq_true_of_le hi] at hb; cases hb
  | true =>
   rw [hb] at hx
   have hx : Bool.rec (motive := fun _ => RR) .no (runR (ghAll i n l ms (j + 1) q) C st t h) (ghF ((ixOf (i + (n - 1 - j))).get st) T cs h) = .ok t' h' := hx
   rw [ix_get] at hx
   cases hg : ghF (st.getD (i + (n - 1 - j)) (.tup [])) T cs h with
   | false => rw [hg] at hx; cases hx
   | true => rw [hg] at hx; exact tail hx fun _ => hg
omit [E : Amb] in
theorem store_writes {e : Env} {h : Hp} {o : Oper} {x : V} (hs : isStoreO o.op = true) (hg : o.guard = none) (h1 : stepOp C ops e h o = some (x, none)) : False := by
 unfold isStoreO at hs
 split at hs
 ·rename_i T a v hop
  unfold stepOp wantedE at h1
  rw [hg] at h1
  simp only [hop, opVal] at h1
  split at h1
  ·split at h1
   ·cases h1
   ·cases h1
  ·cases h1
 ·cases hs
omit [E : Amb] in
theorem runRH_ok (fl : List (Nat × TypeId × List V)) (ms : List Nat) (bs : List (List Nat)) (n0 : Nat) (_hlen : ms.length = fl.length) :
    ∀ (l : List Oper) (i : Nat) (b : Bool) (ds : List (Option Nat)) (r : FR), decRH C.P C.pure NL ops fl ms l i b ds = some r →
    ∀ (st : List V) (t e : Env) (h : Hp), RelSt ds st e → EqN NL t e → (∀ j, j < fl.length → st.getD (i + (fl.length - 1 - j)) (.tup []) = .ptr (n0 + j) 0) →
    (b = false → ∀ (j : Nat) (f : Nat × TypeId × List V) (m : Nat), fl[j]? = some f → ms[j]? = some m → i ≤ m → FreshB h (n0 + j) f.2.1 f.2.2) →
    (∀ (j : Nat) (f : Nat × TypeId × List V) (m : Nat), fl[j]? = some f → ms[j]? = some m → i ≤ m → ∃ o, l[m - i]? = some o ∧ isStoreO o.op = true ∧ o.guard = none ∧ (bs.getD m []).contains f.1 = true) →
    ∀ t' h', runR r C st t h = .ok t' h' →
    ∃ tr S e', traceA C (getA (mkFl fl n0)) (fun _ => none) ops i l e h = some (tr, S, e', h') ∧ EqN NL t' e' ∧ Among tr (trF C fl i l) ∧
      ∀ (j : Nat) (f : Nat × TypeId × List V) (m : Nat), fl[j]? = some f → ms[j]? = some m → i ≤ m → ghostFrom bs f.1 f.2.1 (n0 + j) f.2.2 i S tr = true := by
  intro l
  induction l with
  | nil =>
    intro i b ds r hr st t e h hs hn hst hfr hends t' h' hx
    cases hr
    cases hx
    refine ⟨[], [(e, h)], e, rfl, hn, trivial, fun j f m hf hm hi => ?_⟩
    obtain ⟨o, ho, _⟩ := hends j f m hf hm hi
    cases ho
  | cons o l ih =>
    intro i b ds r hr st t e h hs hn hst hfr hends t' h' hx
    have hends' : ∀ (j : Nat) (f : Nat × TypeId × List V) (m : Nat), fl[j]? = some f → ms[j]? = some m → i + 1 ≤ m → ∃ o, l[m - (i + 1)]? = some o ∧ isStoreO o.op = true ∧ o.guard = none ∧ (bs.getD m []).contains f.1 = true := by
      intro j f m hf hm hi
      obtain ⟨o1, h1, h2⟩ := hends j f m hf hm (by omega)
      have e1 : m - i = (m - (i + 1)) + 1 := by omega
      rw [e1, List.getElem?_cons_succ] at h1
      exact ⟨o1, h1, h2⟩
    have hst' : ∀ (x : V) j, j < fl.length → (x :: st).getD (i + 1 + (fl.length - 1 - j)) (.tup []) = .ptr (n0 + j) 0 := by
      intro x j hj
      have e1 : i + 1 + (fl.length - 1 - j) = (i + (fl.length - 1 - j)) + 1 := by omega
      rw [e1, List.getD_cons_succ]
      exact hst j hj
    -- without what is looked at ahead of it
    have core : ∀ (q : FR), (match posF fl i with
        | some j => match o.op with
          | .alloc _ => match decRH C.P C.pure NL ops fl ms l (i + 1) false (o.dst :: ds) with
            | some q => match decD NL o.dst with
              | some p => some (FR.op (.mv (.st (ixOf (i + (fl.length - 1 - j))))) p q)
              | none => some (FR.o (.mv (.st (ixOf (i + (fl.length - 1 - j))))) q)
            | none => none
          | _ => none
        | none => match decG NL ds ops o.guard, decO C.P (decA NL ds) o.op, decRH C.P C.pure NL ops fl ms l (i + 1) (mayW (bareC C.P C.pure) o.op) (o.dst :: ds) with
          | some (some g), some f, some q => some (.g g f (decD NL o.dst) q)
          | some none, some f, some q => match decD NL o.dst with
            | some p => some (.op f p q)
            | none => some (.o f q)
          | _, _, _ => none) = some q →
        (∀ (j : Nat) (f : Nat × TypeId × List V) (m : Nat), fl[j]? = some f → ms[j]? = some m → i ≤ m → FreshB h (n0 + j) f.2.1 f.2.2) → runR q C st t h = .ok t' h' →
        ∃ tr S e', traceA C (getA (mkFl fl n0)) (fun _ => none) ops i (o :: l) e h = some (tr, S, e', h') ∧ EqN NL t' e' ∧ Among tr (trF C fl i (o :: l)) ∧
          ∀ (j : Nat) (f : Nat × TypeId × List V) (m : Nat), fl[j]? = some f → ms[j]? = some m → i ≤ m → ghostFrom bs f.1 f.2.1 (n0 + j) f.2.2 i S tr = true := by
      intro q hq hF hx
      -- what a block's check asks
      have gh : ∀ (S : List (Env × Hp)) (tr : List Bool) (n : Bool), (∀ (j : Nat) (f : Nat × TypeId × List V) (m : Nat), fl[j]? = some f → ms[j]? = some m → i + 1 ≤ m → ghostFrom bs f.1 f.2.1 (n0 + j) f.2.2 (i + 1) S tr = true) →
          (isStoreO o.op = true → o.guard = none → n = true) →
          ∀ (j : Nat) (f : Nat × TypeId × List V) (m : Nat), fl[j]? = some f → ms[j]? = some m → i ≤ m → ghostFrom bs f.1 f.2.1 (n0 + j) f.2.2 i ((e, h) :: S) (n :: tr) = true := by
        intro S tr n hS hw j f m hf hm hi
        obtain ⟨F1, F2⟩ := hF j f m hf hm hi
        simp only [ghostFrom]
        rw [Bool.and_eq_true, Bool.and_eq_true]
        refine ⟨F1, F2, ?_⟩
        by_cases hmi : i = m
        · subst hmi
          obtain ⟨o1, h1, h2, h3, h4⟩ := hends j f i hf hm (Nat.le_refl _)
          rw [Nat.sub_self, List.getElem?_cons_zero, Option.some.injEq] at h1
          subst h1
          rw [hw h2 h3, h4]; rfl
        · rw [hS j f m hf hm (by omega), Bool.or_true]
      cases hp : posF fl i with
      | some j =>
        rw [hp] at hq
        simp only at hq
        have hj := posF_get _ _ _ hp
        have hA : getA (mkFl fl n0) i = some (.ptr (n0 + j) 0) := by rw [getA_mk, hp]; rfl
        split at hq
        rotate_left
        · cases hq
        rename_i T hop
        split at hq
        rotate_left
        · cases hq
        rename_i q1 hq1
        have hrun : runR q1 C (.ptr (n0 + j) 0 :: st) (putO (decD NL o.dst) (.ptr (n0 + j) 0) t) h = .ok t' h' := by
          have hv : (FA.st (ixOf (i + (fl.length - 1 - j)))).get st t = .ptr (n0 + j) 0 := (ix_get _ _).trans (hst j hj)
          split at hq
          · rename_i p hpd
            simp only [Option.some.injEq] at hq; subst hq
            rw [runR_op] at hx
            have hx : runR q1 C ((FA.st (ixOf (i + (fl.length - 1 - j)))).get st t :: st) (p.put ((FA.st (ixOf (i + (fl.length - 1 - j)))).get st t) t) h = .ok t' h' := hx
            rw [hv] at hx
            rw [hpd]; exact hx
          · rename_i hpd
            simp only [Option.some.injEq] at hq; subst hq
            have hx : runR q1 C ((FA.st (ixOf (i + (fl.length - 1 - j)))).get st t :: st) t h = .ok t' h' := hx
            rw [hv] at hx
            rw [hpd]; exact hx
        obtain ⟨tr, S, e', k1, k2, k3, k4⟩ := ih (i + 1) false _ _ hq1 (.ptr (n0 + j) 0 :: st) _ (Env.put e o.dst (.ptr (n0 + j) 0)) h (hs.push _ _) (hn.put _ _) (hst' _) (fun _ j f m hf hm hi => hF j f m hf hm (by omega)) hends' _ _ hrun
        refine ⟨false :: tr, (e, h) :: S, e', ?_, k2, ⟨fun hh => (by cases hh), k3⟩, gh S tr false k4 fun h1 _ => ?_⟩
        · have hfe : floatEq (rdE e) (fun _ => none) o.op = true := by rw [hop]; rfl
          simp only [traceA, hA, hfe, k1]
        · rw [hop] at h1; cases h1
      | none =>
        rw [hp] at hq
        simp only at hq
        have hA : getA (mkFl fl n0) i = none := by rw [getA_mk, hp]; rfl
        have htf : trF C fl i (o :: l) = mayW C o.op :: trF C fl (i + 1) l := by simp only [trF, hp]
        have emw : mayW (bareC C.P C.pure) o.op = mayW C o.op := by unfold mayW; rw [apart_eq]
        have step : ∀ (g : Option FG) (f : FO) (q : FR), decG NL ds ops o.guard = some g → decO C.P (decA NL ds) o.op = some f → decRH C.P C.pure NL ops fl ms l (i + 1) (mayW (bareC C.P C.pure) o.op) (o.dst :: ds) = some q →
            OR.rec (motive := fun _ => RR) .no (fun x => runR q C (x :: st) (putO (decD NL o.dst) x t) h) (fun x k => runR q C (x :: st) (putO (decD NL o.dst) x t) k) (goR g f C st t h) = .ok t' h' →
            ∃ tr S e', traceA C (getA (mkFl fl n0)) (fun _ => none) ops i (o :: l) e h = some (tr, S, e', h') ∧ EqN NL t' e' ∧ Among tr (trF C fl i (o :: l)) ∧
              ∀ (j : Nat) (f : Nat × TypeId × List V) (m : Nat), fl[j]? = some f → ms[j]? = some m → i ≤ m → ghostFrom bs f.1 f.2.1 (n0 + j) f.2.2 i S tr = true := by
          intro g f q hg hd hq hx
          have hle := goR_ok (C := C) (h := h) hs hn hg hd
          cases ho : goR g f C st t h with
          | no => rw [ho] at hx; cases hx
          | v x =>
            rw [ho] at hx hle
            have h1 := hle _ rfl
            obtain ⟨tr, S, e', k1, k2, k3, k4⟩ := ih (i + 1) _ _ _ hq (x :: st) _ (Env.put e o.dst x) h (hs.push _ _) (hn.put _ _) (hst' _) (fun _ j f m hf hm hi => hF j f m hf hm (by omega)) hends' _ _ hx
            refine ⟨false :: tr, (e, h) :: S, e', ?_, k2, ?_, gh S tr false k4 fun h2 h3 => (store_writes h2 h3 h1).elim⟩
            · simp only [traceA, hA, h1, k1]
            · rw [htf]; exact ⟨fun h => (by cases h), k3⟩
          | w x k =>
            rw [ho] at hx hle
            have h1 := hle _ rfl
            have hmw : mayW C o.op = true := by
              unfold stepOp at h1
              split at h1
              · exact opVal_mayW h1
              · cases h1
              · cases h1
            obtain ⟨tr, S, e', k1, k2, k3, k4⟩ := ih (i + 1) _ _ _ hq (x :: st) _ (Env.put e o.dst x) k (hs.push _ _) (hn.put _ _) (hst' _) (fun hb => by rw [emw, hmw] at hb; cases hb) hends' _ _ hx
            refine ⟨true :: tr, (e, h) :: S, e', ?_, k2, ?_, gh S tr true k4 fun _ _ => rfl⟩
            · simp only [traceA, hA, h1, k1]
            · rw [htf]; exact ⟨fun _ => hmw, k3⟩
        split at hq
        · rename_i g f q1 hg hd hq1
          simp only [Option.some.injEq] at hq; subst hq
          rw [runR_g] at hx
          exact step (some g) f q1 hg hd hq1 hx
        · rename_i f q1 hg hd hq1
          split at hq
          · rename_i p hpd
            simp only [Option.some.injEq] at hq; subst hq
            rw [runR_op] at hx
            refine step none f q1 hg hd hq1 ?_
            rw [hpd]; exact hx
          · rename_i hpd
            simp only [Option.some.injEq] at hq; subst hq
            refine step none f q1 hg hd hq1 ?_
            rw [hpd]; exact hx
        · cases hq
    simp only [decRH] at hr
    split at hr
    · rename_i q hq
      split at hr
      · simp only [Option.some.injEq] at hr; subst hr
        obtain ⟨g1, g2⟩ := ghAll_ok _ _ _ hx
        refine core q hq (fun j f m hf hm hi => ?_) g1
        have := g2 j f m hf hm hi
        rw [Nat.zero_add, hst j (List.getElem?_eq_some_iff.1 hf).1] at this
        exact ghF_ok this
      · simp only [Option.some.injEq] at hr; subst hr
        exact core q hq (hfr rfl) hx
    · cases hr
omit [E : Amb] in
theorem pairOkA_mono {C0 : Cfg} {A0 A : Nat → Option V} (ha : ∀ o, apartFromHeap C0 o = apartFromHeap C o) (hA : ∀ i, (A0 i).isSome = (A i).isSome) (S : List (Env × Hp)) (bs : List (List Nat)) (i : Nat) (o : Oper) (j : Nat) (p : Oper) {n m n' m' : Bool}
  (hn : n = true → n' = true) (hm : m = true → m' = true)
  (h : pairOkA C0 A0 [] ops bs i o n' j p m' = true) : pairOkA C A S ops bs i o n j p m = true := by
 unfold pairOkA at h ⊢
 rw [lateOk_nil, earlyOk_nil] at h
 simp only [apA, ha, hA] at h ⊢
 simp only [Bool.and_eq_true] at h ⊢
 refine ⟨h.1, ?_⟩
 have h3 := h.2
 cases h1 : (bs.getD j []).contains i with
 | true => rfl
 | false =>
  rw [h1] at h3
  simp only [Bool.false_or, Bool.not_eq_true', Bool.or_eq_false_iff, Bool.and_eq_false_iff, Bool.not_false, Bool.and_true] at h3 ⊢
  constructor
  ·rcases h3.1 with e | e
   ·left; cases n with
    | false => rfl
    | true => rw [hn rfl] at e; exact e
   ·exact .inr (.inl e)
  ·rcases h3.2 with e | e
   ·left; cases m with
    | false => rfl
    | true => rw [hm rfl] at e; exact e
   ·exact .inr (.inl e)
omit [E : Amb] in
theorem pairsFromA_mono {C0 : Cfg} {A0 A : Nat → Option V} (ha : ∀ o, apartFromHeap C0 o = apartFromHeap C o) (hA : ∀ i, (A0 i).isSome = (A i).isSome) (S : List (Env × Hp)) (bs : List (List Nat)) (i : Nat) (o : Oper) {n n' : Bool} (hn : n = true → n' = true) :
  ∀ (l : List Oper) (j : Nat) (ms ms' : List Bool), Among ms ms' → pairsFromA C0 A0 [] ops bs i o n' j l ms' = true → pairsFromA C A S ops bs i o n j l ms = true := by
 intro l
 induction l with
 | nil => intro j ms ms' _ _; rfl
 | cons p l ih =>
  intro j ms ms' hm h
  cases ms' with
  | nil => simp only [pairsFromA] at h; cases h
  | cons m' ms' =>
   cases ms with
   | nil => cases hm
   | cons m ms =>
    simp only [pairsFromA] at h ⊢
    split at h
    ·rename_i hp
     rw [pairOkA_mono ha hA S bs i o j p hn hm.1 hp]
     exact ih _ _ _ hm.2 h
    ·cases h
omit [E : Amb] in
theorem pairsAllA_mono {C0 : Cfg} {A0 A : Nat → Option V} (ha : ∀ o, apartFromHeap C0 o = apartFromHeap C o) (hA : ∀ i, (A0 i).isSome = (A i).isSome) (S : List (Env × Hp)) (bs : List (List Nat)) :
  ∀ (l : List Oper) (i : Nat) (ms ms' : List Bool), Among ms ms' → pairsAllA C0 A0 [] ops bs i l ms' = true → pairsAllA C A S ops bs i l ms = true := by
 intro l
 induction l with
 | nil => intro i ms ms' _ _; rfl
 | cons o l ih =>
  intro i ms ms' hm h
  cases ms' with
  | nil => simp only [pairsAllA] at h; cases h
  | cons m' ms' =>
   cases ms with
   | nil => cases hm
   | cons m ms =>
    simp only [pairsAllA] at h ⊢
    split at h
    ·rename_i hp
     rw [pairsFromA_mono ha hA S bs i o hm.1 _ _ _ _ hm.2 hp]
     exact ih _ _ _ hm.2 h
    ·cases h
omit [E : Amb] in
theorem firstStore_get {bs : List (List Nat)} {i : Nat} : ∀ (l : List Oper) (k m : Nat), firstStore bs i k l = some m → k ≤ m ∧ ∃ o, l[m - k]? = some o ∧ isStoreO o.op = true ∧ o.guard = none ∧ (bs.getD m []).contains i = true
 | [], _, _, h => by cases h
 | o :: r, k, m, h => by
  simp only [firstStore] at h
  split at h
  ·rename_i hc
   simp only [Option.some.injEq] at h; subst h
   simp only [Bool.and_eq_true, Option.isNone_iff_eq_none] at hc
   exact ⟨Nat.le_refl _, o, by rw [Nat.sub_self]; rfl, hc.1, hc.2.1, hc.2.2⟩
  ·obtain ⟨h1, o1, h2, h3⟩ := firstStore_get r (k + 1) m h
   refine ⟨by omega, o1, ?_, h3⟩
   have e : m - k = (m - (k + 1)) + 1 := by omega
   rw [e, List.getElem?_cons_succ]; exact h2
omit [E : Amb] in
theorem regionH_ok {ms : List Nat} {r : FR} (hh : hoist C.P C.pure ops = true) (hf : forkOk ops = false) (hms : floatEnds C.P ops = some ms)
  (hr : decRH C.P C.pure NL ops (floatIx C.P (floatsFrom 0 ops.toList)) ms ops.toList 0 true (List.replicate (floatIx C.P (floatsFrom 0 ops.toList)).length none) = some r)
  {t e : Env} {h : Hp} (hn : EqN NL t e) {t' : Env} {h' : Hp} (hx : runR (allocAll (floatIx C.P (floatsFrom 0 ops.toList)) r) C [] t h = .ok t' h') :
  ∃ e', regionE C ops true e h = some (e', h') ∧ EqN NL t' e' := by
 have hst : statOkA C.P C.pure ops = true := by
  unfold hoist at hh
  split at hh
  ·simp only [Bool.and_eq_true] at hh; exact hh.2.2.1
  ·cases hh
 rw [allocAll_ok] at hx
 unfold floatEnds at hms
 unfold statOkA at hst
 split at hms
 rotate_left
 ·cases hms
 rename_i bs hbs
 rw [hbs] at hst
 simp only [Bool.and_eq_true] at hst
 obtain ⟨l1, l2⟩ := mapC_get hms
 have hds : RelSt (List.replicate (floatIx C.P (floatsFrom 0 ops.toList)).length none) (stAll (floatIx C.P (floatsFrom 0 ops.toList)) h.next []) e := by
  intro s i hi
  have : ∀ n, firstAt s (List.replicate n none) = none := by
   intro n
   induction n with
   | zero => rfl
   | succ n ih => rw [List.replicate_succ]; simp only [firstAt, ih]
  rw [this] at hi; cases hi
 obtain ⟨tr, S, e', k1, k2, k3, k4⟩ := runRH_ok (C := C) (floatIx C.P (floatsFrom 0 ops.toList)) ms bs h.next l1.symm ops.toList 0 true _ _ hr _ t e _ hds hn (fun j hj => by rw [Nat.zero_add]; exact (stAll_get _ _ _).1 j hj) (fun hb => by cases hb)
  (fun j f m hf hm _ => by
   obtain ⟨_, q⟩ := firstStore_get _ _ _ (l2 j f m hf hm)
   exact q) _ _ hx
 refine ⟨e', ?_, k2⟩
 have hpairs : pairsAllA C (getA (mkFl (floatIx C.P (floatsFrom 0 ops.toList)) h.next)) S ops bs 0 ops.toList tr = true := by
  refine pairsAllA_mono (C := C) (apart_eq C) (fun i => by rw [getA_mk, getA_mk]; cases posF (floatIx C.P (floatsFrom 0 ops.toList)) i <;> rfl) S bs _ _ _ _ ?_ hst.2
  have e0 : ∀ (l : List Oper) (i : Nat), trF (bareC C.P C.pure) (floatIx C.P (floatsFrom 0 ops.toList)) i l = trF C (floatIx C.P (floatsFrom 0 ops.toList)) i l := by
   intro l
   induction l with
   | nil => intro i; rfl
   | cons o l ih =>
    intro i
    simp only [trF, ih]
    have : mayW (bareC C.P C.pure) o.op = mayW C o.op := by unfold mayW; rw [apart_eq]
    rw [this]
  rw [e0]; exact k3
 have hghost : (mkFl (floatIx C.P (floatsFrom 0 ops.toList)) h.next).all (fun f => ghostFrom bs f.1 f.2.2.2.1 f.2.1 f.2.2.2.2 0 S tr) = true := by
  rw [List.all_eq_true]
  intro f hfm
  obtain ⟨j, x, hx1, rfl⟩ := mkFl_mem _ _ _ hfm
  have hjl : j < ms.length := by rw [← l1]; exact (List.getElem?_eq_some_iff.1 hx1).1
  exact k4 j x ms[j] hx1 (List.getElem?_eq_getElem hjl) (Nat.zero_le _)
 simp only [regionE, hf, hh, regionA, hbs, pre_ok, k1, hst.1, hpairs, hghost, Bool.and_self]
omit [E : Amb] in
theorem execX_ok (lim : Nat) : ∀ (c : Code) (fc : FC), decC C.P C.pure NL c = some fc → ∀ (t e : Env) (h : Hp), EqN NL t e → OkX NL (execX fc C lim t h) (execE C lim c e h) := by
 intro c
 induction c with
 | skip => intro fc hd t e h hn; cases hd; exact ⟨e, rfl, hn⟩
 | region id ops draw =>
  intro fc hd t e h hn
  have key : ∀ r, decRR C.P NL ops = some r → (draw = true → statOk C.P C.pure ops = true) → OkX NL (execX (.reg r) C lim t h) (execE C lim (.region id ops draw) e h) := by
   intro r hr hst
   show OkX NL (rX (runR r C [] t h)) _
   cases hx : runR r C [] t h with
   | no => trivial
   | ok t' h' =>
    obtain ⟨e', k1, k2⟩ := region_ok hr hst hn hx
    exact ⟨e', by simp only [execE, k1], k2⟩
  simp only [decC] at hd
  split at hd
  ·split at hd
   ·rename_i r hr
    simp only [Option.some.injEq] at hd; subst hd
    exact key r hr (fun h => by cases h)
   ·cases hd
  ·split at hd
   ·rename_i hst
    split at hd
    ·rename_i r hr
     simp only [Option.some.injEq] at hd; subst hd
     exact key r hr (fun _ => hst)
    ·cases hd
   ·split at hd
    ·rename_i hf
     split at hd
     ·rename_i d T d3 hbf
      simp only [Option.some.injEq] at hd; subst hd
      cases h with
      | mk nx bt ft et =>
       obtain ⟨e', k1, k2⟩ := boolFork_ok (h := ⟨nx, bt, ft, et⟩) hbf hf hn
       show OkX NL (putOK (decD NL (some d)) (.ptr nx 0) t (fun t1 => putOK (decD NL (some d3)) .anyb t1 (fun t2 => putK none bt nx (fun b' => putK (some [(nx, 1)]) ft nx (fun f' => putK (some (2 * T + 1)) et nx (fun e' => forceN nx (fun n' => XR.n t2 ⟨Nat.add n' 1, b', f', e'⟩))))))) _
       rw [putOK_eq, putOK_eq, putK_eq, putK_eq, putK_eq, forceN_eq]
       exact ⟨e', by
        simp only [execE]
        rw [k1], k2⟩
     ·split at hd
      rotate_left
      ·cases hd
      rename_i o0 o1 o2 o3 ho
      split at hd
      ·rename_i a b ha hb
       simp only [Option.some.injEq] at hd; subst hd
       show OkX NL (joinR2 (runR a C [] t h) (runR b C [] t h)) _
       cases hx : runR a C [] t h with
       | no => trivial
       | ok t1 h1 =>
        cases hy : runR b C [] t h with
        | no => trivial
        | ok t2 h2 =>
         show OkX NL (joinH t1 h1 t2 h2) _
         unfold joinH
         rw [joinF_eq]
         cases hj : h1.join h2 with
         | none => trivial
         | some h3 =>
          obtain ⟨e', k1, k2⟩ := fork_ok ho hf ha hb hn hx hy hj
          exact ⟨e', by simp only [execE, k1], k2⟩
      ·cases hd
    ·split at hd
     ·rename_i hst
      split at hd
      ·rename_i r hr
       simp only [Option.some.injEq] at hd; subst hd
       show OkX NL (RR.rec (motive := fun _ => XR) .no (fun t' h' => Bool.rec (motive := fun _ => XR) .no (Bool.rec (motive := fun _ => XR) .no (.n t' h') (earlyX (earlyAll C.P C.pure ops) (statesR r C [] t h) C)) (lateX (lateAll C.P C.pure ops) (statesR r C [] t h) C)) (runR r C [] t h)) _
       cases hx : runR r C [] t h with
       | no => trivial
       | ok t' h' =>
        simp only
        cases hl : lateX (lateAll C.P C.pure ops) (statesR r C [] t h) C with
        | false => trivial
        | true =>
         cases hel : earlyX (earlyAll C.P C.pure ops) (statesR r C [] t h) C with
         | false => trivial
         | true =>
          obtain ⟨e', k1, k2⟩ := regionL_ok hr hst (hoist_statL hst) lateAll_load earlyAll_load hn hx hl hel
          exact ⟨e', by simp only [execE, k1], k2⟩
      ·cases hd
     ·split at hd
      rotate_left
      ·cases hd
      rename_i ms hh hms
      split at hd
      rotate_left
      ·cases hd
      rename_i r hr
      simp only [Option.some.injEq] at hd; subst hd
      show OkX NL (rX (runR (allocAll (floatIx C.P (floatsFrom 0 ops.toList)) r) C [] t h)) _
      cases hx : runR (allocAll (floatIx C.P (floatsFrom 0 ops.toList)) r) C [] t h with
      | no => trivial
      | ok t' h' =>
       obtain ⟨e', k1, k2⟩ := regionH_ok hh (by assumption) hms hr hn hx
       exact ⟨e', by simp only [execE, k1], k2⟩
 | seq a b iha ihb =>
  intro fc hd t e h hn
  simp only [decC] at hd
  split at hd
  ·rename_i x y hx hy
   simp only [Option.some.injEq] at hd; subst hd
   have h1 := iha x hx t e h hn
   show OkX NL (thenX (execX x C lim t h) (execX y C lim)) _
   simp only [execE]
   cases hq : execX x C lim t h with
   | no => trivial
   | n t1 k1 =>
    rw [hq] at h1
    obtain ⟨e1, q1, q2⟩ := h1
    rw [q1]; exact ihb y hy _ _ _ q2
   | x i t1 k1 =>
    rw [hq] at h1
    obtain ⟨e1, q1, q2⟩ := h1
    rw [q1]; exact ⟨e1, rfl, q2⟩
   | g l t1 k1 =>
    rw [hq] at h1
    obtain ⟨e1, q1, q2⟩ := h1
    rw [q1]; exact ⟨e1, rfl, q2⟩
   | r t1 k1 =>
    rw [hq] at h1
    obtain ⟨e1, q1, q2⟩ := h1
    rw [q1]; exact ⟨e1, rfl, q2⟩
  ·cases hd
 | cond c a b iha ihb =>
  intro fc hd t e h hn
  simp only [decC] at hd
  split at hd
  ·rename_i c' x y hc hx hy
   simp only [Option.some.injEq] at hd; subst hd
   have e1 := decA_ok (RelSt.nil e) hn _ _ hc
   show OkX NL (condX (c'.get [] t) (execX x C lim) (execX y C lim) t h) _
   simp only [execE, e1]
   cases c'.get [] t with
   | bool v =>
    cases v with
    | true => exact iha x hx _ _ _ hn
    | false => exact ihb y hy _ _ _ hn
   | anyb =>
    have h1 := iha x hx _ _ h hn
    have h2 := ihb y hy _ _ h hn
    show OkX NL (joinX (execX x C lim t h) (execX y C lim t h)) _
    cases hq : execX x C lim t h with
    | n t1 k1 =>
     rw [hq] at h1
     obtain ⟨e1, q1, q2⟩ := h1
     cases hp : execX y C lim t h with
     | n t2 k2 =>
      rw [hp] at h2
      obtain ⟨e2, p1, p2⟩ := h2
      show OkX NL (joinH t1 k1 t2 k2) _
      unfold joinH
      rw [joinF_eq]
      cases hj : k1.join k2 with
      | none => trivial
      | some k3 =>
       refine ⟨joinT e1 e2, ?_, q2.join p2⟩
       simp only [q1, p1, hj]
     | _ => trivial
    | _ => trivial
   | _ => trivial
  ·cases hd
 | block id b ih =>
  intro fc hd t e h hn
  simp only [decC] at hd
  split at hd
  ·rename_i x hx
   simp only [Option.some.injEq] at hd; subst hd
   have h1 := ih x hx t e h hn
   show OkX NL (blockX (execX x C lim t h) id) _
   simp only [execE]
   cases hq : execX x C lim t h with
   | no => trivial
   | n t1 k1 =>
    rw [hq] at h1
    obtain ⟨e1, q1, q2⟩ := h1
    rw [q1]; exact ⟨e1, rfl, q2⟩
   | x i t1 k1 =>
    rw [hq] at h1
    obtain ⟨e1, q1, q2⟩ := h1
    rw [q1]
    show OkX NL (Bool.rec (motive := fun _ => XR) (.x i t1 k1) (.n t1 k1) (Nat.beq i id)) (match Nat.beq i id with | true => some (.normal, e1, k1) | false => some (.exit i, e1, k1))
    cases Nat.beq i id <;> exact ⟨e1, rfl, q2⟩
   | g l t1 k1 =>
    rw [hq] at h1
    obtain ⟨e1, q1, q2⟩ := h1
    rw [q1]; exact ⟨e1, rfl, q2⟩
   | r t1 k1 =>
    rw [hq] at h1
    obtain ⟨e1, q1, q2⟩ := h1
    rw [q1]; exact ⟨e1, rfl, q2⟩
  ·cases hd
 | loop b ih =>
  intro fc hd t e h hn
  simp only [decC] at hd
  split at hd
  ·rename_i x hx
   simp only [Option.some.injEq] at hd; subst hd
   show OkX NL (loopX lim (execX x C lim) t h) _
   simp only [execE]
   exact loopX_ok (fun t e h hn => ih x hx t e h hn) lim t e h hn
  ·cases hd
 | exit id => intro fc hd t e h hn; cases hd; exact ⟨e, rfl, hn⟩
 | label l => intro fc hd t e h hn; cases hd; exact ⟨e, rfl, hn⟩
 | goto l => intro fc hd t e h hn; cases hd; exact ⟨e, rfl, hn⟩
 | ret => intro fc hd t e h hn; cases hd; exact ⟨e, rfl, hn⟩
 | _ => intro fc hd t e h hn; cases hd; trivial
omit [E : Amb] in
theorem enterX_ok : ∀ (np i : Nat) (args : List V) (t e t' : Env), EqN NL t e → enterX (pars NL np i) args t = some t' → EqN NL t' (enterE i args e) ∧ args.length = np := by
 intro np
 induction np with
 | zero =>
  intro i args t e t' hn hx
  cases args with
  | nil => cases hx; exact ⟨hn, rfl⟩
  | cons v r => cases hx
 | succ np ih =>
  intro i args t e t' hn hx
  cases args with
  | nil => cases hx
  | cons v r =>
   obtain ⟨h1, h2⟩ := ih (i + 1) r (putO (decD NL (some i)) v t) (Env.put e (some i) v) t' (hn.put _ _) hx
   exact ⟨h1, by simp [h2]⟩
omit [E : Amb] in
theorem resAll_ok {t e : Env} (hn : EqN NL t e) (h : Hp) : ∀ (rs : List ResultVar) (fs : List FRes) (vs : List V), mapC (decRes NL) rs = some fs → resAll fs C t h = some vs → mapC (resE C.P C.Γ e h) rs = some vs := by
 intro rs
 induction rs with
 | nil => intro fs vs h1 h2; cases h1; cases h2; rfl
 | cons r rs ih =>
  intro fs vs h1 h2
  simp only [mapC] at h1
  split at h1
  ·rename_i f l hf hl
   simp only [Option.some.injEq] at h1; subst h1
   have hr : resX f C t h = resE C.P C.Γ e h r := by
    cases r with
    | tmp s =>
     simp only [decRes] at hf
     split at hf
     ·rename_i a ha
      simp only [Option.some.injEq] at hf; subst hf
      exact (decA_ok (RelSt.nil e) hn _ _ ha).symm
     ·cases hf
    | cell s T =>
     simp only [decRes] at hf
     split at hf
     ·rename_i a ha
      simp only [Option.some.injEq] at hf; subst hf
      have := decA_ok (RelSt.nil e) hn _ _ ha
      simp only [rdE, Option.some.injEq] at this
      show opLoad C.P C.Γ h T (a.get [] t) = opLoad C.P C.Γ h T (Env.get e s)
      rw [this]
     ·cases hf
   revert h2
   show Option.rec (motive := fun _ => Option (List V)) none (fun x => Option.rec (motive := fun _ => Option (List V)) none (fun l => some (x :: l)) (resAll l C t h)) (resX f C t h) = some vs → _
   simp only [mapC, ← hr]
   cases resX f C t h with
   | none => intro h2; cases h2
   | some x =>
    cases hq : resAll l C t h with
    | none => intro h2; cases h2
    | some l' =>
     intro h2; cases h2
     rw [ih l l' hl hq]
  ·cases h1
omit [E : Amb] in
theorem leaveX_ok {t e : Env} (hn : EqN NL t e) (h : Hp) {rs : List ResultVar} {fs : List FRes} (h1 : mapC (decRes NL) rs = some fs) {r : V × Hp} (h2 : leaveX fs C t h = some r) : r.2 = h ∧ leaveE C.P C.Γ rs e h = some r.1 := by
 revert h2
 show Option.rec (motive := fun _ => Option (V × Hp)) none (fun vs => some (tupV vs, h)) (resAll fs C t h) = some r → _
 cases hq : resAll fs C t h with
 | none => intro h2; cases h2
 | some vs =>
  intro h2; cases h2
  refine ⟨rfl, ?_⟩
  unfold leaveE
  rw [resAll_ok hn h rs fs vs h1 hq]
  cases vs with
  | nil => rfl
  | cons x r => cases r <;> rfl
omit [E : Amb] in
theorem callX_ok {np : Nat} {f : FuncId} {ff : FFn} (lim : Nat) (hd : decF C.P C.pure NL np f = some ff) (args : List V) (h : Hp) : Le (callX ff C lim args h) (callE C lim f args h) := by
 unfold decF at hd
 intro r hr
 split at hd
 ·rename_i fn hfn
  split at hd
  ·rename_i c hc
   split at hd
   ·rename_i hb
    simp only [Bool.and_eq_true] at hb
    obtain ⟨_, hb1, hb2⟩ := hb
    split at hd
    ·rename_i x rs hx hrs
     simp only [Option.some.injEq] at hd; subst hd
     revert hr
     show Option.rec (motive := fun _ => Option (V × Hp)) none (fun t => XR.rec (motive := fun _ => Option (V × Hp)) none (fun t' h' => leaveX rs C t' h') (fun _ _ _ => none) (fun _ _ _ => none) (fun t' h' => leaveX rs C t' h') (execX x C lim t h)) (enterX (pars NL np 0) args .leaf) = some r → _
     cases he : enterX (pars NL np 0) args .leaf with
     | none => intro hr; cases hr
     | some t0 =>
      obtain ⟨n1, n2⟩ := enterX_ok np 0 args .leaf .leaf t0 (fun s k _ => rfl) he
      have hk := execX_ok lim c x hx t0 _ h n1
      have hlen : Nat.ble args.length fn.ntmps = true := by rw [n2]; exact hb1
      intro hr
      simp only at hr
      simp only [callE, hfn, hc, hlen, hb2, Bool.and_self]
      cases hq : execX x C lim t0 h with
      | no => rw [hq] at hr; cases hr
      | n t1 k1 =>
       rw [hq] at hr hk
       obtain ⟨e1, q1, q2⟩ := hk
       rw [q1]
       obtain ⟨p1, p2⟩ := leaveX_ok q2 k1 hrs hr
       simp only [p2]
       rw [← p1]
      | x i t1 k1 => rw [hq] at hr; cases hr
      | g l t1 k1 => rw [hq] at hr; cases hr
      | r t1 k1 =>
       rw [hq] at hr hk
       obtain ⟨e1, q1, q2⟩ := hk
       rw [q1]
       obtain ⟨p1, p2⟩ := leaveX_ok q2 k1 hrs hr
       simp only [p2]
       rw [← p1]
    ·cases hd
   ·cases hd
  ·cases hd
 ·cases hd
end
def TabOk (P : Program) (pure : FuncId → Bool) (tab : Tr FFn) : Prop := ∀ f ff, Tr.get tab f = some ff → ∃ NL np, decF P pure NL np f = some ff
omit [E : Amb] in
theorem TabOk.leaf (P : Program) (pure : FuncId → Bool) : TabOk P pure .leaf := fun f ff h => by cases h
omit [E : Amb] in
theorem TabOk.put {P : Program} {pure : FuncId → Bool} {t : Tr FFn} (h : TabOk P pure t) {NL : List Nat} {np : Nat} {f : FuncId} {ff : FFn} (hd : decF P pure NL np f = some ff) : TabOk P pure (Tr.put (some ff) t f) := by
 intro g gg hg
 rw [Tr.get_put] at hg
 split at hg
 ·rename_i e; subst e
  simp only [Option.some.injEq] at hg; subst hg
  exact ⟨NL, np, hd⟩
 ·exact h g gg hg
theorem Sound.le {P : Program} {Γ : Glob} {f : FuncId} {s s' : Spec} (h : Sound P Γ f s) (hl : ∀ args k, Le (s' args k) (s args k)) : Sound P Γ f s' := fun args h0 r h' hs => h args h0 r h' (hl _ _ _ hs)
theorem runX_sound {P : Program} {Γ : Glob} {pure closed : FuncId → Bool} {ext : FuncId → Option (List V → Option V)} {bodies : Tr Unit} {extra : FuncId → Option Spec} {tab : Tr FFn} {lim : Nat} (hp : ProgOk P Γ ext bodies extra) (ht : TabOk P pure tab) :
  ∀ (k : Nat) (f : FuncId), Sound P Γ f (runX P Γ pure closed ext bodies extra tab lim k f) := by
 intro k
 induction k with
 | zero => intro f args h r h' hs; cases hs
 | succ k ih =>
  intro f
  have hctx : CtxOk ⟨P, Γ, fun g => Option.rec (motive := fun _ => Option Spec) (Option.rec (motive := fun _ => Option Spec) none (fun _ => some (runX P Γ pure closed ext bodies extra tab lim k g)) (getT bodies g)) (fun s => some s) (extra g), pure, ext, closed⟩ := by
   refine ⟨fun g spec hg => ?_, hp.ext⟩
   simp only at hg
   cases hx : extra g with
   | some s =>
    rw [hx] at hg
    simp only [Option.some.injEq] at hg; subst hg
    exact hp.extra g s hx
   | none =>
    rw [hx, getT_eq] at hg
    cases hb : Tr.get bodies g with
    | none => rw [hb] at hg; cases hg
    | some u =>
     rw [hb] at hg
     simp only [Option.some.injEq] at hg; subst hg
     refine .inl ⟨hp.body g ?_, ih g⟩
     unfold inTr; rw [hb]
  have base := callE_sound hctx hp.draws lim f
  show Sound P Γ f (Option.rec (motive := fun _ => Spec)
   (callE ⟨P, Γ, fun g => Option.rec (motive := fun _ => Option Spec) (Option.rec (motive := fun _ => Option Spec) none (fun _ => some (runX P Γ pure closed ext bodies extra tab lim k g)) (getT bodies g)) (fun s => some s) (extra g), pure, ext, closed⟩ lim f)
   (fun ff => callX ff ⟨P, Γ, fun g => Option.rec (motive := fun _ => Option Spec) (Option.rec (motive := fun _ => Option Spec) none (fun _ => some (runX P Γ pure closed ext bodies extra tab lim k g)) (getT bodies g)) (fun s => some s) (extra g), pure, ext, closed⟩ lim)
   (getT tab f))
  rw [getT_eq]
  cases hf : Tr.get tab f with
  | none => exact base
  | some ff =>
   obtain ⟨NL, np, hd⟩ := ht f ff hf
   exact base.le fun args k => callX_ok lim hd args k
end Go.Proofs.YtkpoeilfnopgbaaGreatDoor.HM
