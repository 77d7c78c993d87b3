/- The fast machine, 4: arithmetic and comparisons. -/
import Derived.Test.YtbfdgdigaiimgaaDoorF3
namespace Go.Proofs.YtbfdgdigaiimgaaDoor.HM
open Go Go.RowKit

section
variable (P : Program) (T : TypeId) (c : Bool)

theorem vb_nn (op : BinOp) (k : IntKind) (m n : Int) (h1 : op ≠ .shl) (h2 : op ≠ .shr) {v : V} (h : ibin op k m n = some v) : vbinX P op T c (.int k m) (.int k n) = some v := by
  have : vbin P op T (.int k m) (.int k n) = some v := by
    unfold vbin
    cases op <;> first | (exact absurd rfl h1) | (exact absurd rfl h2) | (simp only [if_pos]; exact h)
  unfold vbinX vbinE
  rw [this]; rfl

theorem vb_sh (op : BinOp) (k k' : IntKind) (m n : Int) (ho : op = .shl ∨ op = .shr) {v : V} (h : shbin op k m n = some v) : vbinX P op T c (.int k m) (.int k' n) = some v := by
  have : vbin P op T (.int k m) (.int k' n) = some v := by
    unfold vbin
    rcases ho with rfl | rfl <;> exact h
  unfold vbinX vbinE
  rw [this]; rfl

theorem vb_ss (op : BinOp) (l m : List UInt8) {v : V} (h : sbin op l m = some v) : vbinX P op T c (.str l) (.str m) = some v := by
  have : vbin P op T (.str l) (.str m) = some v := h
  unfold vbinX vbinE
  rw [this]; rfl

/-- one way of giving a value, or else the slow one -/
theorem le_held {k : IntKind} {n : Nat} {s : OR} {o : Option V} (hs : Le (toO s) (still o)) (h : n ≤ kmax k → o = some (.int k (Int.ofNat n))) : Le (toO (held k n s)) (still o) := by
  rcases held_toO k n s with e | ⟨h1, e⟩
  · rw [e]; exact hs
  · rw [e, h h1]; exact Le.refl _

theorem le_v {v : V} {o : Option V} (h : o = some v) : Le (toO (.v v)) (still o) := by rw [h]; exact Le.refl _

theorem land_le (m n : Nat) : Nat.land m n ≤ m := Nat.and_le_left

theorem fb_ok (op : BinOp) (a b : V) : Le (toO (fb (bfOf op) (oV (vbinX P op T c a b)) a b)) (still (vbinX P op T c a b)) := by
  have hs : Le (toO (oV (vbinX P op T c a b))) (still (vbinX P op T c a b)) := by rw [toO_oV]; exact Le.refl _
  cases op with
  | add =>
    show Le (toO (onNN fAdd (onSS (sAdd _) _ a b) a b)) _
    rcases onNN_cases fAdd (onSS (sAdd (oV (vbinX P .add T c a b))) (oV (vbinX P .add T c a b)) a b) a b with e | ⟨k, m, n, rfl, rfl, e⟩
    · rw [e]
      rcases onSS_cases (sAdd (oV (vbinX P .add T c a b))) (oV (vbinX P .add T c a b)) a b with e | ⟨l, m, rfl, rfl, e⟩
      · rw [e]; exact hs
      · rw [e]
        unfold sAdd
        rw [lenF_eq, lenF_eq, forceL_eq, appF_eq]
        cases hb : Nat.ble (Nat.add l.length m.length) 9223372036854775807 with
        | false => exact hs
        | true =>
          refine le_v (vb_ss P T c _ l m ?_)
          show (if l.length + m.length ≤ 9223372036854775807 then some (V.str (l ++ m)) else none) = _
          rw [if_pos (show l.length + m.length ≤ 9223372036854775807 from Nat.le_of_ble_eq_true hb)]
    · rw [e]
      have hs2 : Le (toO (onSS (sAdd (oV (vbinX P .add T c (.int k (Int.ofNat m)) (.int k (Int.ofNat n))))) (oV (vbinX P .add T c (.int k (Int.ofNat m)) (.int k (Int.ofNat n)))) (.int k (Int.ofNat m)) (.int k (Int.ofNat n)))) (still (vbinX P .add T c (.int k (Int.ofNat m)) (.int k (Int.ofNat n)))) := hs
      refine le_held hs2 fun h => vb_nn P T c _ k _ _ (by decide) (by decide) ?_
      show some (V.int k (k.wrap (Int.ofNat m + Int.ofNat n))) = _
      have : Int.ofNat m + Int.ofNat n = Int.ofNat (Nat.add m n) := rfl
      rw [this, wrap_held h]
  | sub =>
    show Le (toO (onNN fSub _ a b)) _
    rcases onNN_cases fSub (oV (vbinX P .sub T c a b)) a b with e | ⟨k, m, n, rfl, rfl, e⟩
    · rw [e]; exact hs
    · rw [e]
      unfold fSub
      cases hb : Nat.ble n m with
      | false => exact hs
      | true =>
        have hle := Nat.le_of_ble_eq_true hb
        refine le_held hs fun h => vb_nn P T c _ k _ _ (by decide) (by decide) ?_
        show some (V.int k (k.wrap (Int.ofNat m - Int.ofNat n))) = _
        have : Int.ofNat m - Int.ofNat n = Int.ofNat (Nat.sub m n) := (Int.ofNat_sub hle).symm
        rw [this, wrap_held h]
  | mul =>
    show Le (toO (onNN fMul _ a b)) _
    rcases onNN_cases fMul (oV (vbinX P .mul T c a b)) a b with e | ⟨k, m, n, rfl, rfl, e⟩
    · rw [e]; exact hs
    · rw [e]
      refine le_held hs fun h => vb_nn P T c _ k _ _ (by decide) (by decide) ?_
      show some (V.int k (k.wrap (Int.ofNat m * Int.ofNat n))) = _
      have : Int.ofNat m * Int.ofNat n = Int.ofNat (Nat.mul m n) := rfl
      rw [this, wrap_held h]
  | quo =>
    show Le (toO (onNN fQuo _ a b)) _
    rcases onNN_cases fQuo (oV (vbinX P .quo T c a b)) a b with e | ⟨k, m, n, rfl, rfl, e⟩
    · rw [e]; exact hs
    · rw [e]
      unfold fQuo
      cases hb : Nat.beq n 0 with
      | true => exact hs
      | false =>
        have hn : n ≠ 0 := Nat.ne_of_beq_eq_false hb
        refine le_held hs fun h => vb_nn P T c _ k _ _ (by decide) (by decide) ?_
        show (if (Int.ofNat n) = 0 then none else some (V.int k (k.wrap ((Int.ofNat m).tdiv (Int.ofNat n))))) = _
        rw [if_neg (by intro e; exact hn (Int.ofNat.inj e))]
        have : (Int.ofNat m).tdiv (Int.ofNat n) = Int.ofNat (Nat.div m n) := rfl
        rw [this, wrap_held h]
  | rem =>
    show Le (toO (onNN fRem _ a b)) _
    rcases onNN_cases fRem (oV (vbinX P .rem T c a b)) a b with e | ⟨k, m, n, rfl, rfl, e⟩
    · rw [e]; exact hs
    · rw [e]
      unfold fRem
      cases hb : Nat.beq n 0 with
      | true => exact hs
      | false =>
        have hn : n ≠ 0 := Nat.ne_of_beq_eq_false hb
        refine le_v (vb_nn P T c _ k _ _ (by decide) (by decide) ?_)
        show (if (Int.ofNat n) = 0 then none else some (V.int k ((Int.ofNat m).tmod (Int.ofNat n)))) = _
        rw [if_neg (by intro e; exact hn (Int.ofNat.inj e))]
        rfl
  | and =>
    show Le (toO (onNN fAnd _ a b)) _
    rcases onNN_cases fAnd (oV (vbinX P .and T c a b)) a b with e | ⟨k, m, n, rfl, rfl, e⟩
    · rw [e]; exact hs
    · rw [e]
      unfold fAnd
      cases hb : Nat.ble m (kmax k) with
      | false => exact hs
      | true =>
        cases hd : Nat.ble n (kmax k) with
        | false => exact hs
        | true =>
          have h1 := Nat.le_of_ble_eq_true hb
          have h2 := Nat.le_of_ble_eq_true hd
          have h3 := kmax_bits k
          refine le_v (vb_nn P T c _ k _ _ (by decide) (by decide) ?_)
          show some (V.int k (k.wrap (BitVec.ofInt k.bits (Int.ofNat m) &&& BitVec.ofInt k.bits (Int.ofNat n)).toNat)) = _
          have e1 : (BitVec.ofInt k.bits (Int.ofNat m) &&& BitVec.ofInt k.bits (Int.ofNat n)).toNat = Nat.land m n := by
            have a1 : BitVec.ofInt k.bits (Int.ofNat m) = BitVec.ofNat k.bits m := BitVec.ofInt_natCast _ _
            have a2 : BitVec.ofInt k.bits (Int.ofNat n) = BitVec.ofNat k.bits n := BitVec.ofInt_natCast _ _
            rw [a1, a2, BitVec.toNat_and, BitVec.toNat_ofNat, BitVec.toNat_ofNat, Nat.mod_eq_of_lt (by omega), Nat.mod_eq_of_lt (by omega)]
            rfl
          rw [e1]
          have h4 : Nat.land m n ≤ kmax k := Nat.le_trans (land_le m n) h1
          exact congrArg (fun z => some (V.int k z)) (wrap_held h4)
  | or =>
    show Le (toO (onNN fOr _ a b)) _
    rcases onNN_cases fOr (oV (vbinX P .or T c a b)) a b with e | ⟨k, m, n, rfl, rfl, e⟩
    · rw [e]; exact hs
    · rw [e]
      unfold fOr
      cases hb : Nat.ble m (kmax k) with
      | false => exact hs
      | true =>
        cases hd : Nat.ble n (kmax k) with
        | false => exact hs
        | true =>
          have h1 := Nat.le_of_ble_eq_true hb
          have h2 := Nat.le_of_ble_eq_true hd
          have h3 := kmax_bits k
          refine le_held hs fun h => (vb_nn P T c _ k _ _ (by decide) (by decide) ?_)
          show some (V.int k (k.wrap (BitVec.ofInt k.bits (Int.ofNat m) ||| BitVec.ofInt k.bits (Int.ofNat n)).toNat)) = _
          have e1 : (BitVec.ofInt k.bits (Int.ofNat m) ||| BitVec.ofInt k.bits (Int.ofNat n)).toNat = Nat.lor m n := by
            have a1 : BitVec.ofInt k.bits (Int.ofNat m) = BitVec.ofNat k.bits m := BitVec.ofInt_natCast _ _
            have a2 : BitVec.ofInt k.bits (Int.ofNat n) = BitVec.ofNat k.bits n := BitVec.ofInt_natCast _ _
            rw [a1, a2, BitVec.toNat_or, BitVec.toNat_ofNat, BitVec.toNat_ofNat, Nat.mod_eq_of_lt (by omega), Nat.mod_eq_of_lt (by omega)]
            rfl
          rw [e1]
          exact congrArg (fun z => some (V.int k z)) (wrap_held h)
  | shl =>
    show Le (toO (onMM fShl _ a b)) _
    rcases onMM_cases fShl (oV (vbinX P .shl T c a b)) a b with e | ⟨k, k', m, n, rfl, rfl, e⟩
    · rw [e]; exact hs
    · rw [e]
      unfold fShl
      cases hb : Nat.ble n (kbits k) with
      | false => exact hs
      | true =>
        have h1 := Nat.le_of_ble_eq_true hb
        rw [kbits_eq] at h1
        refine le_held hs fun h => vb_sh P T c _ k k' _ _ (.inl rfl) ?_
        unfold shbin
        rw [if_neg (by exact Int.not_lt.2 (Int.natCast_nonneg n))]
        show some (V.int k (k.wrap (Int.ofNat m * 2 ^ min (Int.ofNat n).toNat k.bits))) = _
        have e0 : (Int.ofNat n).toNat = n := rfl
        rw [e0, Nat.min_eq_left h1]
        have e1 : (Int.ofNat m * 2 ^ n : Int) = Int.ofNat (Nat.mul m (Nat.pow 2 n)) := by
          show ((m : Int) * 2 ^ n) = ((m * 2 ^ n : Nat) : Int)
          simp
        rw [e1, wrap_held h]
  | shr =>
    show Le (toO (onMM fShr _ a b)) _
    rcases onMM_cases fShr (oV (vbinX P .shr T c a b)) a b with e | ⟨k, k', m, n, rfl, rfl, e⟩
    · rw [e]; exact hs
    · rw [e]
      unfold fShr
      cases hb : Nat.ble n (kbits k) with
      | false => exact hs
      | true =>
        have h1 := Nat.le_of_ble_eq_true hb
        rw [kbits_eq] at h1
        refine le_v (vb_sh P T c _ k k' _ _ (.inr rfl) ?_)
        unfold shbin
        rw [if_neg (by exact Int.not_lt.2 (Int.natCast_nonneg n))]
        show some (V.int k ((Int.ofNat m).fdiv (2 ^ min (Int.ofNat n).toNat k.bits))) = _
        have e0 : (Int.ofNat n).toNat = n := rfl
        rw [e0, Nat.min_eq_left h1]
        have e1 : ((2 : Int) ^ n) = Int.ofNat (Nat.pow 2 n) := by
          show (2 : Int) ^ n = ((2 ^ n : Nat) : Int)
          simp
        rw [e1]
        exact congrArg (fun z => some (V.int k z)) (Int.ofNat_fdiv m (Nat.pow 2 n)).symm
  | lss =>
    show Le (toO (onNN fLss _ a b)) _
    rcases onNN_cases fLss (oV (vbinX P .lss T c a b)) a b with e | ⟨k, m, n, rfl, rfl, e⟩
    · rw [e]; exact hs
    · rw [e]
      refine le_v (vb_nn P T c _ k _ _ (by decide) (by decide) ?_)
      show some (V.bool (decide (Int.ofNat m < Int.ofNat n))) = some (V.bool (Nat.ble (Nat.add m 1) n))
      congr 2
      rw [Bool.eq_iff_iff, decide_eq_true_iff, Nat.ble_eq]
      exact Int.ofNat_lt
  | leq =>
    show Le (toO (onNN fLeq _ a b)) _
    rcases onNN_cases fLeq (oV (vbinX P .leq T c a b)) a b with e | ⟨k, m, n, rfl, rfl, e⟩
    · rw [e]; exact hs
    · rw [e]
      refine le_v (vb_nn P T c _ k _ _ (by decide) (by decide) ?_)
      show some (V.bool (decide (Int.ofNat m ≤ Int.ofNat n))) = some (V.bool (Nat.ble m n))
      congr 2
      rw [Bool.eq_iff_iff, decide_eq_true_iff, Nat.ble_eq]
      exact Int.ofNat_le
  | gtr =>
    show Le (toO (onNN fGtr _ a b)) _
    rcases onNN_cases fGtr (oV (vbinX P .gtr T c a b)) a b with e | ⟨k, m, n, rfl, rfl, e⟩
    · rw [e]; exact hs
    · rw [e]
      refine le_v (vb_nn P T c _ k _ _ (by decide) (by decide) ?_)
      show some (V.bool (decide (Int.ofNat n < Int.ofNat m))) = some (V.bool (Nat.ble (Nat.add n 1) m))
      congr 2
      rw [Bool.eq_iff_iff, decide_eq_true_iff, Nat.ble_eq]
      exact Int.ofNat_lt
  | geq =>
    show Le (toO (onNN fGeq _ a b)) _
    rcases onNN_cases fGeq (oV (vbinX P .geq T c a b)) a b with e | ⟨k, m, n, rfl, rfl, e⟩
    · rw [e]; exact hs
    · rw [e]
      refine le_v (vb_nn P T c _ k _ _ (by decide) (by decide) ?_)
      show some (V.bool (decide (Int.ofNat n ≤ Int.ofNat m))) = some (V.bool (Nat.ble n m))
      congr 2
      rw [Bool.eq_iff_iff, decide_eq_true_iff, Nat.ble_eq]
      exact Int.ofNat_le
  | eql =>
    show Le (toO (onNN fEql (onSS sEql _ a b) a b)) _
    rcases onNN_cases fEql (onSS sEql (oV (vbinX P .eql T c a b)) a b) a b with e | ⟨k, m, n, rfl, rfl, e⟩
    · rw [e]
      rcases onSS_cases sEql (oV (vbinX P .eql T c a b)) a b with e | ⟨l, m, rfl, rfl, e⟩
      · rw [e]; exact hs
      · rw [e]
        refine le_v (vb_ss P T c _ l m ?_)
        show some (V.bool (decide (l = m))) = some (V.bool (beqS l m))
        rw [beqS_eq]
    · rw [e]
      refine le_v (vb_nn P T c _ k _ _ (by decide) (by decide) ?_)
      show some (V.bool (decide (Int.ofNat m = Int.ofNat n))) = some (V.bool (Nat.beq m n))
      congr 2
      rw [Bool.eq_iff_iff, decide_eq_true_iff, Nat.beq_eq]
      exact ⟨fun h => Int.ofNat.inj h, fun h => by rw [h]⟩
  | neq =>
    show Le (toO (onNN fNeq (onSS sNeq _ a b) a b)) _
    rcases onNN_cases fNeq (onSS sNeq (oV (vbinX P .neq T c a b)) a b) a b with e | ⟨k, m, n, rfl, rfl, e⟩
    · rw [e]
      rcases onSS_cases sNeq (oV (vbinX P .neq T c a b)) a b with e | ⟨l, m, rfl, rfl, e⟩
      · rw [e]; exact hs
      · rw [e]
        refine le_v (vb_ss P T c _ l m ?_)
        show some (V.bool (!decide (l = m))) = some (V.bool (Bool.rec (motive := fun _ => Bool) true false (beqS l m)))
        rw [beqS_eq]
        cases decide (l = m) <;> rfl
    · rw [e]
      refine le_v (vb_nn P T c _ k _ _ (by decide) (by decide) ?_)
      show some (V.bool (!decide (Int.ofNat m = Int.ofNat n))) = some (V.bool (Bool.rec (motive := fun _ => Bool) true false (Nat.beq m n)))
      have : decide (Int.ofNat m = Int.ofNat n) = Nat.beq m n := by
        rw [Bool.eq_iff_iff, decide_eq_true_iff, Nat.beq_eq]
        exact ⟨fun h => Int.ofNat.inj h, fun h => by rw [h]⟩
      rw [this]
      cases Nat.beq m n <;> rfl
  | xor => exact hs
  | andNot => exact hs

end
end Go.Proofs.YtbfdgdigaiimgaaDoor.HM
