/- The heap machine, 1: values, the renaming of blocks, trees of numbered things. -/
import Derived.Calls
import Derived.Below
import Derived.StillTail
import Derived.KernelRfl
namespace Go.Proofs.YtbfdgdigaiimgaaDoor.HM
open Go Go.RowKit

/-- where an abstract block lies in memory: the block, the first cell, how many cells there are from there on -/
structure Loc where
  b : Nat
  base : Nat
  lim : Nat

abbrev Ren := Nat → Option Loc

/-- a place may stand for a number that nobody knows -/
def Loc.val (L : Loc) : Int := (L.base : Int) - (L.lim : Int)

/-- so much of what a place stands for; that lies between two bounds -/
structure LT where
  m : Int
  a : Nat
  lo : Int
  hi : Int
  deriving DecidableEq

inductive V where
  | bool (b : Bool)
  | int (k : IntKind) (n : Int)
  | str (l : List UInt8)
  | nilp
  | anyp
  | ptr (a o : Nat)
  | gp (g o : Nat)
  | nils
  | sl (a o n sz : Nat)
  | nilmap
  | mp (a : Nat)
  | nilfn
  | fn (f : Nat) (first caps : List V)
  | nilif
  | iface (t : Nat) (v : V)
  | agg (cs : List V)
  | tup (vs : List V)
  /-- anything at all -/
  | any
  /-- a whole number that leaves i when it is parted by m -/
  | mod (m i : Nat)
  /-- true or false -/
  | anyb
  /-- a whole number: c, and so much of each of these -/
  | lin (k : IntKind) (c : Int) (ts : List LT)
  /-- a string, of which each byte is told by itself -/
  | sstr (l : List V)
  deriving Inhabited

def V.cells : V → List V
  | .agg cs => cs
  | v => [v]

def LT.ok (ρ : Ren) (t : LT) : Prop := ∃ L, ρ t.a = some L ∧ t.lo ≤ L.val ∧ L.val ≤ t.hi
def valR (ρ : Ren) (a : Nat) : Int := match ρ a with
  | some L => L.val
  | none => 0
def sumR (ρ : Ren) : List LT → Int
  | [] => 0
  | t :: r => t.m * valR ρ t.a + sumR ρ r

inductive VR (ρ : Ren) : V → Value → Prop
  | bool (b : Bool) : VR ρ (.bool b) (.bool b)
  | int (k : IntKind) (n : Int) : VR ρ (.int k n) (.int k n)
  | str (l : List UInt8) : VR ρ (.str l) (.string ⟨l.toArray⟩)
  | nilp : VR ρ .nilp (.pointer none)
  | anyp (p : Option Addr) : VR ρ .anyp (.pointer p)
  | ptr (a o : Nat) (L : Loc) (h : ρ a = some L) : VR ρ (.ptr a o) (.pointer (some ⟨L.b, L.base + o, none⟩))
  | gp (g o : Nat) : VR ρ (.gp g o) (.pointer (some ⟨g, o, none⟩))
  | nils : VR ρ .nils (.slice none 0 0)
  | sl (a o n sz c : Nat) (L : Loc) (h : ρ a = some L) (hc : n ≤ c) (hl : o + c * sz ≤ L.lim) : VR ρ (.sl a o n sz) (.slice (some ⟨L.b, L.base + o, none⟩) n c)
  | sl0 (a o sz : Nat) (x : Addr) : VR ρ (.sl a o 0 sz) (.slice (some x) 0 0)
  | nilmap : VR ρ .nilmap (.map none)
  | mp (a : Nat) (L : Loc) (h : ρ a = some L) : VR ρ (.mp a) (.map (some L.b))
  | nilfn : VR ρ .nilfn .nilFunc
  | fn (f : Nat) (xs ys : List V) (us vs : Array Value) (hn : xs.length = us.size) (hm : ys.length = vs.size)
      (hx : ∀ (i : Nat) x u, xs[i]? = some x → us[i]? = some u → VR ρ x u)
      (hy : ∀ (i : Nat) x u, ys[i]? = some x → vs[i]? = some u → VR ρ x u) : VR ρ (.fn f xs ys) (.func (.func f) us vs)
  | nilif : VR ρ .nilif .nilIface
  | iface (t : Nat) (x : V) (u : Value) (h : VR ρ x u) : VR ρ (.iface t x) (.iface t u)
  | agg (xs : List V) (us : Array Value) (hn : xs.length = us.size)
      (hr : ∀ (i : Nat) x u, xs[i]? = some x → us[i]? = some u → VR ρ x u) : VR ρ (.agg xs) (.agg us)
  | tup (xs : List V) (us : Array Value) (hn : xs.length = us.size)
      (hr : ∀ (i : Nat) x u, xs[i]? = some x → us[i]? = some u → VR ρ x u) : VR ρ (.tup xs) (.tuple us)
  | any (u : Value) : VR ρ .any u
  | mod (m i : Nat) (k : Int) (h : k % (m : Int) = (i : Int)) : VR ρ (.mod m i) (.int .i64 k)
  | anyb (b : Bool) : VR ρ .anyb (.bool b)
  | lin (k : IntKind) (c : Int) (ts : List LT) (n : Int) (h : ∀ t ∈ ts, t.ok ρ) (hn : n = c + sumR ρ ts) : VR ρ (.lin k c ts) (.int k n)
  | sstr (xs : List V) (bs : List UInt8) (hn : xs.length = bs.length)
      (hr : ∀ (i : Nat) x b, xs[i]? = some x → bs[i]? = some b → VR ρ x (.int .u8 b.toNat)) : VR ρ (.sstr xs) (.string ⟨bs.toArray⟩)

/-- lists of values and arrays of values -/
def VRs (ρ : Ren) (xs : List V) (us : List Value) : Prop := xs.length = us.length ∧ ∀ (i : Nat) x u, xs[i]? = some x → us[i]? = some u → VR ρ x u

def Ext (ρ ρ' : Ren) : Prop := ∀ a L, ρ a = some L → ρ' a = some L

theorem Ext.refl (ρ : Ren) : Ext ρ ρ := fun _ _ h => h
theorem Ext.trans {a b c : Ren} (h : Ext a b) (k : Ext b c) : Ext a c := fun x L e => k x L (h x L e)

theorem LT.ok.ext {ρ ρ' : Ren} (he : Ext ρ ρ') {t : LT} (h : t.ok ρ) : t.ok ρ' := by
  obtain ⟨L, h1, h2⟩ := h
  exact ⟨L, he _ _ h1, h2⟩
theorem sumR_ext {ρ ρ' : Ren} (he : Ext ρ ρ') : ∀ (ts : List LT), (∀ t ∈ ts, t.ok ρ) → sumR ρ' ts = sumR ρ ts
  | [], _ => rfl
  | t :: r, h => by
    obtain ⟨L, h1, _⟩ := h t (List.mem_cons_self ..)
    have e : valR ρ' t.a = valR ρ t.a := by unfold valR; rw [h1, he _ _ h1]
    rw [sumR, sumR, e, sumR_ext he r fun t ht => h t (List.mem_cons_of_mem _ ht)]

theorem VR.ext {ρ ρ' : Ren} (he : Ext ρ ρ') {x : V} {u : Value} (h : VR ρ x u) : VR ρ' x u := by
  induction h with
  | bool b => exact .bool b
  | int k n => exact .int k n
  | str l => exact .str l
  | nilp => exact .nilp
  | anyp p => exact .anyp p
  | ptr a o L h => exact .ptr a o L (he _ _ h)
  | gp g o => exact .gp g o
  | nils => exact .nils
  | sl a o n sz c L h hc hl => exact .sl a o n sz c L (he _ _ h) hc hl
  | sl0 a o sz x => exact .sl0 a o sz x
  | nilmap => exact .nilmap
  | mp a L h => exact .mp a L (he _ _ h)
  | nilfn => exact .nilfn
  | fn f xs ys us vs hn hm hx hy ih1 ih2 => exact .fn f xs ys us vs hn hm ih1 ih2
  | nilif => exact .nilif
  | iface t x u h ih => exact .iface t x u ih
  | agg xs us hn hr ih => exact .agg xs us hn ih
  | tup xs us hn hr ih => exact .tup xs us hn ih
  | any u => exact .any u
  | mod m i k h => exact .mod m i k h
  | anyb b => exact .anyb b
  | lin k c ts n h hn => exact .lin k c ts n (fun t ht => (h t ht).ext he) (by rw [sumR_ext he ts h]; exact hn)
  | sstr xs bs hn hr ih => exact .sstr xs bs hn ih

theorem VRs.ext {ρ ρ' : Ren} (he : Ext ρ ρ') {xs : List V} {us : List Value} (h : VRs ρ xs us) : VRs ρ' xs us := ⟨h.1, fun i x u hx hu => (h.2 i x u hx hu).ext he⟩

theorem VRs.nil (ρ : Ren) : VRs ρ [] [] := ⟨rfl, fun i x u h => by simp at h⟩
theorem VRs.cons {ρ : Ren} {x : V} {u : Value} {xs : List V} {us : List Value} (h : VR ρ x u) (hs : VRs ρ xs us) : VRs ρ (x :: xs) (u :: us) := by
  refine ⟨by simp [hs.1], fun i y v hy hv => ?_⟩
  cases i with
  | zero => simp at hy hv; subst hy hv; exact h
  | succ i => simp at hy hv; exact hs.2 i y v hy hv
theorem VRs.cons_inv {ρ : Ren} {x : V} {xs : List V} {us : List Value} (h : VRs ρ (x :: xs) us) : ∃ u us', us = u :: us' ∧ VR ρ x u ∧ VRs ρ xs us' := by
  cases us with
  | nil => have := h.1; simp at this
  | cons u us => exact ⟨u, us, rfl, h.2 0 x u rfl rfl, by have := h.1; simpa using this, fun i y v hy hv => h.2 (i + 1) y v (by simpa using hy) (by simpa using hv)⟩
theorem VRs.nil_inv {ρ : Ren} {us : List Value} (h : VRs ρ [] us) : us = [] := by
  have := h.1; cases us with
  | nil => rfl
  | cons => simp at this
theorem VRs.append {ρ : Ren} {xs ys : List V} {us vs : List Value} (h : VRs ρ xs us) (k : VRs ρ ys vs) : VRs ρ (xs ++ ys) (us ++ vs) := by
  refine ⟨by simp [h.1, k.1], fun i x u hx hu => ?_⟩
  by_cases hi : i < xs.length
  · rw [List.getElem?_append_left hi] at hx
    rw [List.getElem?_append_left (by rw [← h.1]; exact hi)] at hu
    exact h.2 i x u hx hu
  · rw [List.getElem?_append_right (by omega)] at hx
    rw [List.getElem?_append_right (by rw [← h.1]; omega), ← h.1] at hu
    exact k.2 _ x u hx hu
theorem VRs.take {ρ : Ren} {xs : List V} {us : List Value} (h : VRs ρ xs us) (n : Nat) : VRs ρ (xs.take n) (us.take n) := by
  refine ⟨by simp [h.1], fun i x u hx hu => ?_⟩
  rw [List.getElem?_take] at hx hu
  split at hx
  · rw [if_pos (by assumption)] at hu; exact h.2 i x u hx hu
  · cases hx
theorem VRs.drop {ρ : Ren} {xs : List V} {us : List Value} (h : VRs ρ xs us) (n : Nat) : VRs ρ (xs.drop n) (us.drop n) := by
  refine ⟨by simp [h.1], fun i x u hx hu => ?_⟩
  rw [List.getElem?_drop] at hx hu
  exact h.2 _ x u hx hu
theorem VRs.get {ρ : Ren} {xs : List V} {us : List Value} (h : VRs ρ xs us) {i : Nat} {x : V} (hx : xs[i]? = some x) : ∃ u, us[i]? = some u ∧ VR ρ x u := by
  have hi : i < us.length := by rw [← h.1]; exact (List.getElem?_eq_some_iff.1 hx).1
  exact ⟨us[i], by simp, h.2 i x _ hx (by simp)⟩
theorem VRs.set {ρ : Ren} {xs : List V} {us : List Value} (h : VRs ρ xs us) {x : V} {u : Value} (hx : VR ρ x u) (n : Nat) : VRs ρ (xs.set n x) (us.set n u) := by
  refine ⟨by simp [h.1], fun i y v hy hv => ?_⟩
  rw [List.getElem?_set] at hy hv
  by_cases e : n = i
  · subst e
    rw [if_pos rfl] at hy hv
    split at hy <;> split at hv <;> first | (cases hy; done) | (cases hv; done) | (simp at hy hv; subst hy hv; exact hx)
  · rw [if_neg e] at hy hv; exact h.2 i y v hy hv

theorem VRs.replicate {ρ : Ren} {x : V} {u : Value} (h : VR ρ x u) (n : Nat) : VRs ρ (List.replicate n x) (List.replicate n u) := by
  refine ⟨by simp, fun i y v hy hv => ?_⟩
  rw [List.getElem?_replicate] at hy hv
  split at hy
  · rw [if_pos (by assumption)] at hv; simp at hy hv; subst hy hv; exact h
  · cases hy

def V.isAny : V → Bool
  | .any => true
  | _ => false

theorem VR.cells {ρ : Ren} {x : V} {u : Value} (h : VR ρ x u) (hna : x.isAny = false) : VRs ρ x.cells u.cells.toList := by
  cases h with
  | any u => cases hna
  | agg xs us hn hr => exact ⟨by simpa [V.cells, Value.cells] using hn, fun i x u hx hu => hr i x u hx (by simpa [Value.cells] using hu)⟩
  | _ =>
    refine VRs.cons ?_ (VRs.nil _)
    constructor <;> assumption

section
variable {ρ : Ren} {u : Value}
theorem VR.int_inv {k : IntKind} {n : Int} (h : VR ρ (.int k n) u) : u = .int k n := by cases h; rfl
theorem VR.str_inv {l : List UInt8} (h : VR ρ (.str l) u) : u = .string ⟨l.toArray⟩ := by cases h; rfl
theorem VR.bool_inv {b : Bool} (h : VR ρ (.bool b) u) : u = .bool b := by cases h; rfl
theorem VR.agg_inv {xs : List V} (h : VR ρ (.agg xs) u) : ∃ us : Array Value, u = .agg us ∧ VRs ρ xs us.toList := by
  cases h with | agg _ us hn hr => exact ⟨us, rfl, by simpa using hn, fun i x v hx hv => hr i x v hx (by simpa using hv)⟩
theorem VR.tup_inv {xs : List V} (h : VR ρ (.tup xs) u) : ∃ us : Array Value, u = .tuple us ∧ VRs ρ xs us.toList := by
  cases h with | tup _ us hn hr => exact ⟨us, rfl, by simpa using hn, fun i x v hx hv => hr i x v hx (by simpa using hv)⟩
theorem VR.ptr_inv {a o : Nat} (h : VR ρ (.ptr a o) u) : ∃ L, ρ a = some L ∧ u = .pointer (some ⟨L.b, L.base + o, none⟩) := by
  cases h with | ptr _ _ L h => exact ⟨L, h, rfl⟩
theorem VRs.agg {xs : List V} {us : Array Value} (h : VRs ρ xs us.toList) : VR ρ (.agg xs) (.agg us) := .agg _ _ (by simpa using h.1) fun i x v hx hv => h.2 i x v hx (by simpa using hv)
theorem VRs.tup {xs : List V} {us : Array Value} (h : VRs ρ xs us.toList) : VR ρ (.tup xs) (.tuple us) := .tup _ _ (by simpa using h.1) fun i x v hx hv => h.2 i x v hx (by simpa using hv)
end

/-! ## Trees of numbered things -/

inductive Tr (α : Type) where
  | leaf
  | node (l : Tr α) (v : Option α) (r : Tr α)

def Tr.get {α : Type} : Tr α → Nat → Option α
  | .leaf, _ => none
  | .node l v r, i => match Nat.beq i 0 with
    | true => v
    | false => match Nat.beq (i % 2) 1 with
      | true => l.get (i / 2)
      | false => r.get (i / 2 - 1)

def Tr.one {α : Type} (x : Option α) : Nat → Nat → Tr α
  | 0, _ => .node .leaf x .leaf
  | f + 1, i => match Nat.beq i 0 with
    | true => .node .leaf x .leaf
    | false => match Nat.beq (i % 2) 1 with
      | true => .node (Tr.one x f (i / 2)) none .leaf
      | false => .node .leaf none (Tr.one x f (i / 2 - 1))

def Tr.put {α : Type} (x : Option α) : Tr α → Nat → Tr α
  | .leaf, i => Tr.one x i i
  | .node l v r, i => match Nat.beq i 0 with
    | true => .node l x r
    | false => match Nat.beq (i % 2) 1 with
      | true => .node (l.put x (i / 2)) v r
      | false => .node l v (r.put x (i / 2 - 1))

theorem Tr.get_one {α : Type} (x : Option α) : ∀ (f i j : Nat), i ≤ f → (Tr.one x f i).get j = if j = i then x else none := by
  intro f
  induction f with
  | zero =>
    intro i j h
    obtain rfl : i = 0 := by omega
    simp only [Tr.one, Tr.get]
    cases j with
    | zero => rfl
    | succ j =>
      have e : Nat.beq (j + 1) 0 = false := rfl
      simp only [e]
      split <;> rfl
  | succ f ih =>
    intro i j h
    simp only [Tr.one]
    cases hi : Nat.beq i 0 with
    | true =>
      have : i = 0 := Nat.eq_of_beq_eq_true hi
      subst this
      simp only [Tr.get]
      cases j with
      | zero => rfl
      | succ j =>
        have e : Nat.beq (j + 1) 0 = false := rfl
        simp only [e]
        split <;> rfl
    | false =>
      have hi0 : i ≠ 0 := fun e => by subst e; cases hi
      simp only
      cases hm : Nat.beq (i % 2) 1 with
      | true =>
        have hm' : i % 2 = 1 := Nat.eq_of_beq_eq_true hm
        simp only [Tr.get]
        cases hj : Nat.beq j 0 with
        | true =>
          have : j = 0 := Nat.eq_of_beq_eq_true hj
          subst this
          simp only
          rw [if_neg (by omega)]
        | false =>
          have hj0 : j ≠ 0 := fun e => by subst e; cases hj
          simp only
          cases hk : Nat.beq (j % 2) 1 with
          | true =>
            have hk' : j % 2 = 1 := Nat.eq_of_beq_eq_true hk
            simp only
            rw [ih _ _ (by omega)]
            by_cases e : j = i
            · subst e; simp
            · rw [if_neg e, if_neg (by omega)]
          | false =>
            have hk' : j % 2 ≠ 1 := Nat.ne_of_beq_eq_false hk
            simp only []
            rw [if_neg (fun e => hk' (by rw [e]; exact hm'))]
      | false =>
        have hm' : i % 2 ≠ 1 := Nat.ne_of_beq_eq_false hm
        simp only [Tr.get]
        cases hj : Nat.beq j 0 with
        | true =>
          have : j = 0 := Nat.eq_of_beq_eq_true hj
          subst this
          simp only
          rw [if_neg (by omega)]
        | false =>
          have hj0 : j ≠ 0 := fun e => by subst e; cases hj
          simp only
          cases hk : Nat.beq (j % 2) 1 with
          | true =>
            have hk' : j % 2 = 1 := Nat.eq_of_beq_eq_true hk
            simp only []
            rw [if_neg (fun e => hm' (by rw [← e]; exact hk'))]
          | false =>
            have hk' : j % 2 ≠ 1 := Nat.ne_of_beq_eq_false hk
            simp only
            rw [ih _ _ (by omega)]
            by_cases e : j = i
            · subst e; simp
            · rw [if_neg e, if_neg (by omega)]

theorem Tr.get_put {α : Type} (x : Option α) : ∀ (t : Tr α) (i j : Nat), (t.put x i).get j = if j = i then x else t.get j := by
  intro t
  induction t with
  | leaf => intro i j; simp only [Tr.put]; rw [Tr.get_one _ _ _ _ (Nat.le_refl _)]; rfl
  | node l v r ihl ihr =>
    intro i j
    simp only [Tr.put]
    cases hi : Nat.beq i 0 with
    | true =>
      have : i = 0 := Nat.eq_of_beq_eq_true hi
      subst this
      simp only [Tr.get]
      cases hj : Nat.beq j 0 with
      | true =>
        have : j = 0 := Nat.eq_of_beq_eq_true hj
        subst this; rfl
      | false =>
        have hj0 : j ≠ 0 := fun e => by subst e; cases hj
        simp only
        rw [if_neg hj0]
    | false =>
      have hi0 : i ≠ 0 := fun e => by subst e; cases hi
      simp only
      cases hm : Nat.beq (i % 2) 1 with
      | true =>
        have hm' : i % 2 = 1 := Nat.eq_of_beq_eq_true hm
        simp only [Tr.get]
        cases hj : Nat.beq j 0 with
        | true =>
          have : j = 0 := Nat.eq_of_beq_eq_true hj
          subst this
          simp only
          rw [if_neg (by omega)]
        | false =>
          have hj0 : j ≠ 0 := fun e => by subst e; cases hj
          simp only
          cases hk : Nat.beq (j % 2) 1 with
          | true =>
            have hk' : j % 2 = 1 := Nat.eq_of_beq_eq_true hk
            simp only
            rw [ihl]
            by_cases e : j = i
            · subst e; simp
            · rw [if_neg e, if_neg (by omega)]
          | false =>
            have hk' : j % 2 ≠ 1 := Nat.ne_of_beq_eq_false hk
            simp only
            rw [if_neg (fun e => hk' (by rw [e]; exact hm'))]
      | false =>
        have hm' : i % 2 ≠ 1 := Nat.ne_of_beq_eq_false hm
        simp only [Tr.get]
        cases hj : Nat.beq j 0 with
        | true =>
          have : j = 0 := Nat.eq_of_beq_eq_true hj
          subst this
          simp only
          rw [if_neg (by omega)]
        | false =>
          have hj0 : j ≠ 0 := fun e => by subst e; cases hj
          simp only
          cases hk : Nat.beq (j % 2) 1 with
          | true =>
            have hk' : j % 2 = 1 := Nat.eq_of_beq_eq_true hk
            simp only
            rw [if_neg (fun e => hm' (by rw [← e]; exact hk'))]
          | false =>
            have hk' : j % 2 ≠ 1 := Nat.ne_of_beq_eq_false hk
            simp only
            rw [ihr]
            by_cases e : j = i
            · subst e; simp
            · rw [if_neg e, if_neg (by omega)]

end Go.Proofs.YtbfdgdigaiimgaaDoor.HM
