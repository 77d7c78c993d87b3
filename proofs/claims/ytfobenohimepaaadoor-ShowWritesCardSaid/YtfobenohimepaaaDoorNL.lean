/- The number that a text begins with, and a number's digits: plain lists of bytes. -/
namespace Go.Proofs.YtfobenohimepaaaDoor.Num
def wh (c : UInt8) : Bool := decide (c.toNat = 10) || decide (c.toNat = 9) || decide (c.toNat = 32)
def dg (c : UInt8) : Bool := decide (48 ≤ c.toNat) && decide (c.toNat ≤ 57)
def sg (c : UInt8) : Bool := decide (c.toNat = 43) || decide (c.toNat = 45)
def val (l : List UInt8) : Nat := l.foldl (fun n c => 10 * n + (c.toNat - 48)) 0
theorem val_snoc (l : List UInt8) (c : UInt8) : val (l ++ [c]) = 10 * val l + (c.toNat - 48) := by simp [val]
def intV : List UInt8 → Int
  | [] => 0
  | c :: r => if c.toNat = 45 then max (-(val r : Int)) (-2147483648) else if c.toNat = 43 then min (val r : Int) 2147483647 else min (val (c :: r) : Int) 2147483647
def scan (p : UInt8 → Bool) (l : List UInt8) (i : Nat) : Nat := i + ((l.drop i).takeWhile p).length
theorem scan_hit {p : UInt8 → Bool} {l : List UInt8} {i : Nat} (h : i < l.length) (hp : p l[i] = true) : scan p l i = scan p l (i + 1) := by
  unfold scan
  rw [List.drop_eq_getElem_cons h, List.takeWhile_cons, if_pos hp]; simp; omega
theorem scan_miss {p : UInt8 → Bool} {l : List UInt8} {i : Nat} (h : i < l.length) (hp : p l[i] = false) : scan p l i = i := by
  unfold scan
  rw [List.drop_eq_getElem_cons h, List.takeWhile_cons, if_neg (by simp [hp])]; simp
theorem scan_end {p : UInt8 → Bool} {l : List UInt8} {i : Nat} (h : l.length ≤ i) : scan p l i = i := by
  unfold scan
  rw [List.drop_eq_nil_of_le h]; simp
theorem takeWhile_len (p : UInt8 → Bool) : ∀ l : List UInt8, (l.takeWhile p).length ≤ l.length
  | [] => by simp
  | c :: r => by
    rw [List.takeWhile_cons]
    split
    · have := takeWhile_len p r; simp; omega
    · simp
theorem scan_le {p : UInt8 → Bool} {l : List UInt8} {i : Nat} (h : i ≤ l.length) : scan p l i ≤ l.length := by
  have := takeWhile_len p (l.drop i)
  unfold scan; simp at this; omega
theorem scan_ge (p : UInt8 → Bool) (l : List UInt8) (i : Nat) : i ≤ scan p l i := by unfold scan; omega
def signed (l : List UInt8) (i : Nat) : Nat := match l[i]? with
  | some c => if sg c = true then i + 1 else i
  | none => i
def numV (l : List UInt8) : Int × Bool :=
  (intV ((l.drop (scan wh l 0)).take (scan dg l (signed l (scan wh l 0)) - scan wh l 0)), decide (signed l (scan wh l 0) < scan dg l (signed l (scan wh l 0))))
def digs (u : Nat) : List UInt8 := if u < 10 then [UInt8.ofNat (48 + u)] else digs (u / 10) ++ [UInt8.ofNat (48 + u % 10)]
theorem ofNat_toNat {n : Nat} (h : n < 256) : (UInt8.ofNat n).toNat = n := by
  show n % 256 = n
  omega
theorem digs_val (u : Nat) : val (digs u) = u := by
  induction u using Nat.strongRecOn with
  | _ u ih =>
    rw [digs]
    split
    · rename_i h
      simp only [val, List.foldl_cons, List.foldl_nil]
      rw [ofNat_toNat (by omega)]; omega
    · rename_i h
      rw [val_snoc, ih (u / 10) (by omega), ofNat_toNat (by omega)]; omega
theorem digs_dg (u : Nat) : ∀ c ∈ digs u, dg c = true := by
  induction u using Nat.strongRecOn with
  | _ u ih =>
    intro c hc
    rw [digs] at hc
    split at hc
    · rename_i h
      simp only [List.mem_singleton] at hc; subst hc
      unfold dg; rw [ofNat_toNat (by omega)]; simp; omega
    · rename_i h
      rcases List.mem_append.1 hc with hc | hc
      · exact ih (u / 10) (by omega) c hc
      · simp only [List.mem_singleton] at hc; subst hc
        unfold dg; rw [ofNat_toNat (by omega)]; simp; omega
theorem digs_ne (u : Nat) : digs u ≠ [] := by
  rw [digs]; split <;> simp
def dec (n : Int) : List UInt8 := (if n < 0 then [45] else []) ++ digs n.natAbs
theorem scan_all {p : UInt8 → Bool} {a b c : List UInt8} (hb : ∀ x ∈ b, p x = true) (hc : ∀ x, c.head? = some x → p x = false) : scan p (a ++ (b ++ c)) a.length = a.length + b.length := by
  unfold scan
  rw [List.drop_left, List.takeWhile_append_of_pos hb]
  have : c.takeWhile p = [] := by
    cases c with
    | nil => rfl
    | cons x r => rw [List.takeWhile_cons, if_neg]; simp [hc x rfl]
  rw [this]; simp
theorem numV_of {b s d t : List UInt8} (hb : ∀ x ∈ b, wh x = true) (hs : s = [] ∨ ∃ c, s = [c] ∧ sg c = true) (hd : ∀ x ∈ d, dg x = true) (hr : ∀ x, (s ++ (d ++ t)).head? = some x → wh x = false)
    (hq : s = [] → ∀ x, (d ++ t).head? = some x → sg x = false) (ht : ∀ x, t.head? = some x → dg x = false) : numV (b ++ (s ++ (d ++ t))) = (intV (s ++ d), decide (0 < d.length)) := by
  have h1 : scan wh (b ++ (s ++ (d ++ t))) 0 = b.length := by
    have := scan_all (p := wh) (a := []) hb hr
    simpa using this
  have h2 : signed (b ++ (s ++ (d ++ t))) b.length = b.length + s.length := by
    unfold signed
    rw [List.getElem?_append_right (Nat.le_refl _), Nat.sub_self]
    rcases hs with rfl | ⟨c, rfl, hc⟩
    · simp only [List.nil_append]
      have hq := hq rfl
      cases hx : (d ++ t) with
      | nil => simp
      | cons x r =>
        rw [hx] at hq
        simp [hq x rfl]
    · simp [hc]
  have h3 : scan dg (b ++ (s ++ (d ++ t))) (b.length + s.length) = b.length + s.length + d.length := by
    have := scan_all (p := dg) (a := b ++ s) hd ht
    simpa [List.append_assoc, Nat.add_assoc] using this
  unfold numV
  rw [h1, h2, h3]
  refine Prod.ext ?_ ?_
  · show intV _ = _
    rw [List.drop_left, show b.length + s.length + d.length - b.length = (s ++ d).length by simp; omega, ← List.append_assoc, List.take_left]
  · show decide _ = _
    congr 1; simp
theorem intV_dec (n : Int) : intV (dec n) = max (min n 2147483647) (-2147483648) := by
  unfold dec
  split
  · rename_i h
    have e : intV ([45] ++ digs n.natAbs) = max (-(val (digs n.natAbs) : Int)) (-2147483648) := by
      show intV (45 :: digs n.natAbs) = _
      rw [intV, if_pos (by decide)]
    rw [e, digs_val]; omega
  · rename_i h
    have hd := digs_dg n.natAbs
    have hv := digs_val n.natAbs
    cases hx : digs n.natAbs with
    | nil => exact absurd hx (digs_ne _)
    | cons c r =>
      rw [hx] at hd hv
      have := hd c (List.mem_cons_self ..)
      simp only [dg, Bool.and_eq_true, decide_eq_true_eq] at this
      rw [List.nil_append, intV, if_neg (by omega), if_neg (by omega), hv]; omega
theorem intV_plus (n : Int) (h : 0 ≤ n) : intV (43 :: dec n) = max (min n 2147483647) (-2147483648) := by
  rw [intV, if_neg (by decide), if_pos (by decide)]
  unfold dec
  rw [if_neg (by omega), List.nil_append, digs_val]; omega
theorem dg_not {x : UInt8} (h : dg x = true) : wh x = false ∧ sg x = false := by
  simp only [dg, Bool.and_eq_true, decide_eq_true_eq] at h
  constructor
  · simp [wh]; omega
  · simp [sg]; omega
theorem head_digs {u : Nat} {t : List UInt8} {x : UInt8} (h : (digs u ++ t).head? = some x) : dg x = true := by
  cases hx : digs u with
  | nil => exact absurd hx (digs_ne _)
  | cons c r =>
    rw [hx] at h; simp at h; subst h
    exact digs_dg u c (by rw [hx]; exact List.mem_cons_self ..)
theorem numV_dec {b : List UInt8} (hb : ∀ x ∈ b, wh x = true) (n : Int) {t : List UInt8} (ht : ∀ x, t.head? = some x → dg x = false) : numV (b ++ (dec n ++ t)) = (max (min n 2147483647) (-2147483648), true) := by
  have hl : 0 < (digs n.natAbs).length := List.length_pos_iff.2 (digs_ne _)
  have e := numV_of (b := b) (s := if n < 0 then [45] else []) (d := digs n.natAbs) (t := t) hb (by split <;> simp [sg]) (digs_dg _) (by
    intro x hx
    split at hx
    · simp at hx; subst hx; rfl
    · exact (dg_not (head_digs (by simpa using hx))).1) (by
    intro _ x hx; exact (dg_not (head_digs hx)).2) ht
  rw [show (if n < 0 then [45] else []) ++ (digs n.natAbs ++ t) = dec n ++ t by simp [dec]] at e
  rw [e]
  refine Prod.ext ?_ (by simpa using hl)
  exact intV_dec n
theorem numV_plus {b : List UInt8} (hb : ∀ x ∈ b, wh x = true) (n : Int) (h : 0 ≤ n) {t : List UInt8} (ht : ∀ x, t.head? = some x → dg x = false) : numV (b ++ (43 :: (dec n ++ t))) = (max (min n 2147483647) (-2147483648), true) := by
  have hl : 0 < (digs n.natAbs).length := List.length_pos_iff.2 (digs_ne _)
  have hd : dec n = digs n.natAbs := by unfold dec; rw [if_neg (by omega)]; rfl
  have e := numV_of (b := b) (s := [43]) (d := digs n.natAbs) (t := t) hb (.inr ⟨43, rfl, rfl⟩) (digs_dg _) (by
    intro x hx; simp at hx; subst hx; rfl) (by intro h; cases h) ht
  rw [hd]
  show numV (b ++ ([43] ++ (digs n.natAbs ++ t))) = _
  rw [e]
  refine Prod.ext ?_ (by simpa using hl)
  rw [← hd]; exact intV_plus n h
theorem numV_none {b s : List UInt8} (hb : ∀ x ∈ b, wh x = true) (hs : s = [45] ∨ s = [43, 45]) {t : List UInt8} (ht : ∀ x, t.head? = some x → dg x = false) : (numV (b ++ (s ++ t))).2 = false := by
  rcases hs with rfl | rfl
  · have e := numV_of (b := b) (s := [45]) (d := []) (t := t) hb (.inr ⟨45, rfl, rfl⟩) (by simp) (by intro x hx; simp at hx; subst hx; rfl) (by intro h; cases h) ht
    simp only [List.nil_append] at e
    rw [e]; rfl
  · have e := numV_of (b := b) (s := [43]) (d := []) (t := 45 :: t) hb (.inr ⟨43, rfl, rfl⟩) (by simp) (by intro x hx; simp at hx; subst hx; rfl) (by intro h; cases h) (by intro x hx; simp at hx; subst hx; rfl)
    simp only [List.nil_append] at e
    show (numV (b ++ ([43] ++ (45 :: t)))).2 = false
    rw [e]; rfl
end Go.Proofs.YtfobenohimepaaaDoor.Num
