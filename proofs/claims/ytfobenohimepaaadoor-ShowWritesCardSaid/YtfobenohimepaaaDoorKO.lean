/- A box in words: plain lists of bytes. -/
import Derived.Test.YtfobenohimepaaaDoorKL
namespace Go.Proofs.YtfobenohimepaaaDoor.Num
def ind (k : Nat) : List UInt8 := List.replicate (2 * k) 32
theorem ind_snoc (k : Nat) : ind (k + 1) = ind k ++ [32, 32] := by
  unfold ind
  rw [show 2 * (k + 1) = 2 * k + 1 + 1 from by omega, List.replicate_succ', List.replicate_succ']; simp
theorem ind_len (k : Nat) : (ind k).length = 2 * k := by simp [ind]
def decI (n : Int) : List UInt8 := if 0 ≤ n then digs n.toNat else 45 :: digs (-n).toNat
theorem digs_len' (k m : Nat) (h : m < 10 ^ (k + 1)) : (digs m).length ≤ k + 1 := by
  induction k generalizing m with
  | zero => rw [digs, if_pos (by omega)]; simp
  | succ k ih =>
    rw [digs]
    split
    · simp
    · have := ih (m / 10) (by rw [Nat.pow_succ] at h; omega)
      simp; omega
theorem decI_len (n : Int) (h0 : -9223372036854775808 ≤ n) (h1 : n ≤ 9223372036854775807) : (decI n).length ≤ 20 := by
  unfold decI
  split
  · have := digs_len' 18 n.toNat (by show _ < 10000000000000000000; omega); omega
  · have := digs_len' 18 (-n).toNat (by show _ < 10000000000000000000; omega); simp; omega
def wordL : List (List UInt8) := [[115, 101, 108, 102], [98, 101, 102, 111, 114, 101], [97, 102, 116, 101, 114], [109, 97, 114, 107, 101, 114], [102, 105, 114, 115, 116, 45, 108, 101, 116, 116, 101, 114], [102, 105, 114, 115, 116, 45, 108, 105, 110, 101]]
def psS (p : Int) : List UInt8 := if 0 ≤ p ∧ p ≤ 5 then wordL.getD p.toNat [] else decI p
theorem wordL_len (k : Nat) : (wordL.getD k []).length ≤ 20 := by
  match k with
  | 0 => decide
  | 1 => decide
  | 2 => decide
  | 3 => decide
  | 4 => decide
  | 5 => decide
  | k + 6 => simp [wordL]
theorem psS_len (n : Int) (h0 : -9223372036854775808 ≤ n) (h1 : n ≤ 9223372036854775807) : (psS n).length ≤ 20 := by
  unfold psS
  split
  · exact wordL_len _
  · exact decI_len n h0 h1
structure PairD where
  nm : ByteArray
  n : Int
  rev : Bool
  auto : Bool
def revS (b : Bool) : List UInt8 := if b then [32, 114, 101, 118] else []
def pairS (p : PairD) : List UInt8 := 91 :: (qS p.nm.data.toList ++ (32 :: (decI p.n ++ (revS p.rev ++ [93]))))
structure BoxD where
  lv : Int
  ps : Int
  dp : Int
  t : ByteArray
  g : ByteArray
  cut : Bool
  pairs : List PairD
def cutS (b : Bool) : List UInt8 := if b then [32, 99, 117, 116] else []
def headS (b : BoxD) : List UInt8 := ind (b.dp - 1).toNat ++ decI b.lv
def midS (b : BoxD) : List UInt8 := headS b ++ (32 :: (psS b.ps ++ (32 :: (qS b.g.data.toList ++ (32 :: (qS b.t.data.toList ++ cutS b.cut))))))
def pairsS (l : List PairD) : List UInt8 := l.flatMap fun p => 32 :: pairS p
def lineS (b : BoxD) : List UInt8 := midS b ++ pairsS b.pairs
def textS (l : List BoxD) : List UInt8 := l.flatMap fun b => lineS b ++ [10]
theorem pairsS_snoc (l : List PairD) (p : PairD) : pairsS (l ++ [p]) = pairsS l ++ (32 :: pairS p) := by simp [pairsS]
theorem textS_snoc (l : List BoxD) (b : BoxD) : textS (l ++ [b]) = textS l ++ (lineS b ++ [10]) := by simp [textS]
structure PairD.Ok (p : PairD) : Prop where
  nm : p.nm.size ≤ 100
  n0 : -9223372036854775808 ≤ p.n
  n1 : p.n ≤ 9223372036854775807
structure BoxD.Ok (b : BoxD) : Prop where
  lv0 : -9223372036854775808 ≤ b.lv
  lv1 : b.lv ≤ 9223372036854775807
  ps0 : -9223372036854775808 ≤ b.ps
  ps1 : b.ps ≤ 9223372036854775807
  dp0 : -9223372036854775808 ≤ b.dp
  dp1 : b.dp ≤ 200
  t : b.t.size ≤ 300
  g : b.g.size ≤ 100
  pairs : b.pairs.length ≤ 10
  ok : ∀ p ∈ b.pairs, p.Ok
theorem pairS_len {p : PairD} (h : p.Ok) : (pairS p).length ≤ 450 := by
  have h1 := qS_len p.nm.data.toList
  have h2 := h.nm
  have h3 := decI_len p.n h.n0 h.n1
  have h4 : p.nm.data.toList.length = p.nm.size := by simp
  have h5 : (revS p.rev).length ≤ 4 := by unfold revS; split <;> simp
  simp only [pairS, List.length_cons, List.length_append]; simp; omega
theorem pairsS_len : ∀ {l : List PairD}, (∀ p ∈ l, p.Ok) → (pairsS l).length ≤ 451 * l.length
  | [], _ => by simp [pairsS]
  | p :: r, h => by
    have h1 := pairS_len (h p (List.mem_cons_self ..))
    have h2 := pairsS_len (l := r) fun q hq => h q (List.mem_cons_of_mem _ hq)
    have e : pairsS (p :: r) = (32 :: pairS p) ++ pairsS r := by simp [pairsS]
    rw [e]; simp only [List.length_append, List.length_cons]; omega
theorem midS_len {b : BoxD} (h : b.Ok) : (midS b).length ≤ 2200 := by
  have h1 := qS_len b.t.data.toList
  have h2 := qS_len b.g.data.toList
  have h3 := decI_len b.lv h.lv0 h.lv1
  have h4 : b.t.data.toList.length = b.t.size := by simp
  have h5 : b.g.data.toList.length = b.g.size := by simp
  have h6 := psS_len b.ps h.ps0 h.ps1
  have h7 : (cutS b.cut).length ≤ 4 := by unfold cutS; split <;> simp
  have h8 := ind_len (b.dp - 1).toNat
  have h9 := h.dp1
  have h10 := h.t
  have h11 := h.g
  simp only [midS, headS, List.length_cons, List.length_append]; omega
theorem lineS_len {b : BoxD} (h : b.Ok) : (lineS b).length ≤ 7000 := by
  have h1 := midS_len h
  have h2 := pairsS_len h.ok
  have h3 := h.pairs
  simp only [lineS, List.length_append]; omega
theorem textS_len : ∀ {l : List BoxD}, (∀ b ∈ l, b.Ok) → (textS l).length ≤ 7001 * l.length
  | [], _ => by simp [textS]
  | b :: r, h => by
    have h1 := lineS_len (h b (List.mem_cons_self ..))
    have h2 := textS_len (l := r) fun q hq => h q (List.mem_cons_of_mem _ hq)
    have e : textS (b :: r) = (lineS b ++ [10]) ++ textS r := by simp [textS]
    rw [e]; simp only [List.length_append, List.length_cons, List.length_nil]; omega
end Go.Proofs.YtfobenohimepaaaDoor.Num
