/- Numbers by signs, in plain Lean: places, greedy sums, and what they are read as. -/
import Derived.KernelRfl
namespace Go.Proofs.YtieiopaobipdoaaGreatDoor.Reg
def pos (k n : Nat) : List Nat := if h : n = 0 ∨ k = 0 then [] else (n - 1) % k :: pos k ((n - 1) / k)
termination_by n
decreasing_by
  have : (n - 1) / k ≤ n - 1 := Nat.div_le_self _ _
  omega
def val (k : Nat) : List Nat → Nat
  | [] => 0
  | d :: r => val k r * k + d + 1
theorem pos_zero (k : Nat) : pos k 0 = [] := by rw [pos, dif_pos (.inl rfl)]
theorem pos_succ (k n : Nat) (hn : 0 < n) (hk : 0 < k) : pos k n = (n - 1) % k :: pos k ((n - 1) / k) := by rw [pos, dif_neg (by omega)]
theorem val_pos (k : Nat) (hk : 0 < k) : ∀ n, val k (pos k n) = n := by
  intro n
  induction n using Nat.strongRecOn with
  | ind n ih =>
    rcases Nat.eq_zero_or_pos n with rfl | hn
    · rw [pos_zero]; rfl
    · rw [pos_succ k n hn hk, val, ih _ (by have : (n - 1) / k ≤ n - 1 := Nat.div_le_self _ _; omega)]
      have := Nat.div_add_mod (n - 1) k
      rw [Nat.mul_comm] at this
      omega
theorem pos_lt (k : Nat) (hk : 0 < k) : ∀ n, ∀ d ∈ pos k n, d < k := by
  intro n
  induction n using Nat.strongRecOn with
  | ind n ih =>
    rcases Nat.eq_zero_or_pos n with rfl | hn
    · rw [pos_zero]; intro d hd; simp at hd
    · rw [pos_succ k n hn hk]
      intro d hd
      rcases List.mem_cons.1 hd with rfl | hd
      · exact Nat.mod_lt _ hk
      · exact ih _ (by have : (n - 1) / k ≤ n - 1 := Nat.div_le_self _ _; omega) d hd
theorem pos_len (k : Nat) (hk : 2 ≤ k) : ∀ m n, n < 2 ^ m → (pos k n).length ≤ m := by
  intro m
  induction m with
  | zero =>
    intro n hn
    obtain rfl : n = 0 := by simpa using hn
    rw [pos_zero]; simp
  | succ m ih =>
    intro n hn
    rcases Nat.eq_zero_or_pos n with rfl | hp
    · rw [pos_zero]; simp
    · rw [pos_succ k n hp (by omega), List.length_cons]
      have h1 : (n - 1) / k ≤ (n - 1) / 2 := Nat.div_le_div_left hk (by decide)
      have h2 : (n - 1) / 2 < 2 ^ m := by rw [Nat.pow_succ] at hn; omega
      have := ih _ (Nat.lt_of_le_of_lt h1 h2)
      omega
theorem pos_ne (k n : Nat) (hn : 0 < n) (hk : 0 < k) : pos k n ≠ [] := by rw [pos_succ k n hn hk]; simp
def chS (syms : List (List UInt8)) (places : List Nat) : List UInt8 := places.reverse.flatMap fun p => syms.getD p []
theorem chS_cons (syms : List (List UInt8)) (d : Nat) (r : List Nat) : chS syms (d :: r) = chS syms r ++ syms.getD d [] := by simp [chS]
theorem chS_len (syms : List (List UInt8)) (b : Nat) (hb : ∀ s ∈ syms, s.length ≤ b) : ∀ places, (chS syms places).length ≤ b * places.length
  | [] => by simp [chS]
  | d :: r => by
    rw [chS_cons, List.length_append, List.length_cons, Nat.mul_add]
    have := chS_len syms b hb r
    have h2 : (syms.getD d []).length ≤ b := by
      rw [List.getD]
      cases h : syms[d]? with
      | none => simp
      | some s => exact hb s (List.mem_of_getElem? h)
    omega
def gre : List Nat → Nat → Nat → List Nat
  | [], _, _ => []
  | w :: r, i, n => List.replicate (n / w) i ++ gre r (i + 1) (n % w)
def wts : List Nat := [1000, 900, 500, 400, 100, 90, 50, 40, 10, 9, 5, 4, 1]
def rom (syms : List (List UInt8)) (n : Nat) : List UInt8 := chS syms (gre wts 0 n).reverse
def loR : List (List UInt8) := [[109], [99, 109], [100], [99, 100], [99], [120, 99], [108], [120, 108], [120], [105, 120], [118], [105, 118], [105]]
def upR : List (List UInt8) := loR.map fun l => l.map fun c => c - 32
def romL (up : Bool) : List (List UInt8) := if up then upR else loR
def wt (c : UInt8) : Nat := if c = 105 then 1 else if c = 118 then 5 else if c = 120 then 10 else if c = 108 then 50 else if c = 99 then 100 else if c = 100 then 500 else if c = 109 then 1000 else 0
def stR (up : Bool) (p : Int × Int) (c : UInt8) : Int × Int :=
  let w : Int := wt (if up then c + 32 else c)
  if w < p.2 then (p.1 - w, p.2) else (p.1 + w, w)
def romOk (up : Bool) (n : Nat) : Bool :=
  let s := rom (romL up) n
  (s.all fun c => decide (wt (if up then c + 32 else c) ≠ 0)) && (decide ((s.reverse.foldl (stR up) (0, 0)).1 = (n : Int)) && (decide (s.length ≤ 15) && decide ((gre wts 0 n).length ≤ 15)))
theorem rom_all : (List.range 4000).all (fun n => romOk false n && romOk true n) = true := by kernel_rfl
theorem rom_ok (up : Bool) (n : Nat) (h : n < 4000) : romOk up n = true := by
  have h1 := List.all_eq_true.1 rom_all n (List.mem_range.2 h)
  simp only [Bool.and_eq_true] at h1
  cases up
  · exact h1.1
  · exact h1.2
theorem gre_take (w : Nat) (r : List Nat) (i n : Nat) (hw : 0 < w) (h : w ≤ n) : gre (w :: r) i n = i :: gre (w :: r) i (n - w) := by
  have e1 : n / w = (n - w) / w + 1 := by
    rw [Nat.div_eq n w, if_pos ⟨hw, h⟩]
  have e2 : n % w = (n - w) % w := by rw [Nat.mod_eq_sub_mod h]
  rw [gre, gre, e1, e2, List.replicate_succ, List.cons_append]
theorem gre_less (w : Nat) (r : List Nat) (i n : Nat) (h : n < w) : gre (w :: r) i n = gre r (i + 1) n := by
  rw [gre, Nat.div_eq_of_lt h, Nat.mod_eq_of_lt h]; rfl
theorem rom_len (n : Nat) (h : n < 4000) : (gre wts 0 n).length ≤ 15 := by
  have := rom_ok false n h
  simp only [romOk, Bool.and_eq_true, decide_eq_true_eq] at this
  exact this.2.2.2
theorem gre_ne (n : Nat) (h1 : 1 ≤ n) (h : n < 4000) : gre wts 0 n ≠ [] := by
  intro e
  have := rom_ok false n h
  simp only [romOk, Bool.and_eq_true, decide_eq_true_eq] at this
  have h2 := this.2.1
  have e2 : rom (romL false) n = [] := by unfold rom; rw [e]; rfl
  rw [e2] at h2
  have h3 : (0 : Int) = (n : Int) := h2
  omega
theorem gre_lt : ∀ (l : List Nat) (i n : Nat), ∀ d ∈ gre l i n, d < i + l.length
  | [], _, _ => fun d hd => by simp [gre] at hd
  | w :: r, i, n => fun d hd => by
    rw [gre] at hd
    rcases List.mem_append.1 hd with h | h
    · have := List.eq_of_mem_replicate h
      subst this; simp
    · have := gre_lt r (i + 1) (n % w) d h
      rw [List.length_cons]; omega
theorem wts_drop (k : Nat) (h : k < 13) : ∃ w r, wts.drop k = w :: r ∧ wts.drop (k + 1) = r ∧ wts[k]? = some w ∧ 1 ≤ w ∧ w ≤ 1000 ∧ (k = 12 → w = 1) := by
  have h : k = 0 ∨ k = 1 ∨ k = 2 ∨ k = 3 ∨ k = 4 ∨ k = 5 ∨ k = 6 ∨ k = 7 ∨ k = 8 ∨ k = 9 ∨ k = 10 ∨ k = 11 ∨ k = 12 := by omega
  rcases h with rfl | rfl | rfl | rfl | rfl | rfl | rfl | rfl | rfl | rfl | rfl | rfl | rfl <;> exact ⟨_, _, rfl, rfl, rfl, by decide, by decide, by decide⟩
end Go.Proofs.YtieiopaobipdoaaGreatDoor.Reg
