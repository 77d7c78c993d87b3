/- The heap machine, 1: values, the renaming of blocks, trees of numbered things. -/
import Derived.Calls
import Derived.Below
import Derived.StillTail
import Derived.KernelRfl
import Derived.Laws.Sem
import Derived.Laws.Strings
namespace Go.Proofs.YtkpoeilfnopgbaaGreatDoor.HM
open Go Go.RowKit
structure Loc where
 b : Nat
 base : Nat
 lim : Nat
structure Mem where
 arr : Array Value
 el : TypeId
 fr : Nat × Nat
structure Ren where
 loc : Nat → Option Loc
 mem : Nat → Option Mem
instance : CoeFun Ren fun _ => Nat → Option Loc := ⟨Ren.loc⟩
def Ren.nil : Ren := ⟨fun _ => Option.none, fun _ => Option.none⟩
def Ren.bare (ρ : Ren) : Ren := ⟨fun _ => Option.none, ρ.mem⟩
def tot (num : Nat → Int) : Nat → Nat → Int
 | _, 0 => 0
 | a, n + 1 => num a + 10 * tot num (a + 1) n
theorem tot_zero {num : Nat → Int} : ∀ (n a : Nat), (∀ i, a ≤ i → i < a + n → num i = 0) → tot num a n = 0
 | 0, _, _ => rfl
 | n + 1, a, h => by
  rw [tot, h a (Nat.le_refl _) (by omega), tot_zero n (a + 1) fun i h1 h2 => h i (by omega) (by omega)]; rfl
def capG (g : Nat) : Int := if g % 2 = 0 then 2147483647 else 2147483648
class Amb where
 num : Nat → Int
 str : Nat → ByteArray
 lim : ∀ i, (str i).size ≤ i % 4096
 len : ∀ i, num (i + 5000) = ((str i).size : Int)
 bnd : ∀ g, g < 4 → 0 ≤ tot num (4000 + 10 * g) 10 ∧ tot num (4000 + 10 * g) 10 ≤ capG g
variable [E : Amb]
structure LT where
 m : Int
 a : Nat
 lo : Int
 hi : Int
 deriving DecidableEq
inductive V where
 | bool (b : Bool)
 | int (k : IntKind) (n : Int)
 | str (l : List UInt8)
 | nilp
 | anyp
 | ptr (a o : Nat)
 | gp (g o : Nat)
 | nils
 | sl (a o n sz : Nat)
 | nilmap
 | mp (a : Nat)
 | nilfn
 | fn (f : Nat) (first caps : List V)
 | nilif
 | iface (t : Nat) (v : V)
 | agg (cs : List V)
 | tup (vs : List V)
 | any
 | mod (m i : Nat)
 | anyb
 | lin (k : IntKind) (c : Int) (ts : List LT)
 | sstr (l : List V)
 | pl (n sz : Nat) (cs : List V)
 | pp (cs : List V)
 | pk (x : V)
 deriving Inhabited
def V.cells : V → List V
 | .agg cs => cs
 | v => [v]
def LT.ok (_ : Ren) (t : LT) : Prop := t.lo ≤ E.num t.a ∧ E.num t.a ≤ t.hi
def valR (_ : Ren) (a : Nat) : Int := E.num a
def sumR (ρ : Ren) : List LT → Int
 | [] => 0
 | t :: r => t.m * valR ρ t.a + sumR ρ r
inductive VR : Ren → V → Value → Prop
  | bool {ρ : Ren} (b : Bool) : VR ρ (.bool b) (.bool b)
  | int {ρ : Ren} (k : IntKind) (n : Int) : VR ρ (.int k n) (.int k n)
  | str {ρ : Ren} (l : List UInt8) : VR ρ (.str l) (.string ⟨l.toArray⟩)
  | nilp {ρ : Ren} : VR ρ .nilp (.pointer none)
  | anyp {ρ : Ren} (p : Option Addr) : VR ρ .anyp (.pointer p)
  | ptr {ρ : Ren} (a o : Nat) (L : Loc) (h : ρ a = some L) : VR ρ (.ptr a o) (.pointer (some ⟨L.b, L.base + o, none⟩))
  | gp {ρ : Ren} (g o : Nat) : VR ρ (.gp g o) (.pointer (some ⟨g, o, none⟩))
  | nils {ρ : Ren} : VR ρ .nils (.slice none 0 0)
  | sl {ρ : Ren} (a o n sz c : Nat) (L : Loc) (h : ρ a = some L) (hc : n ≤ c) (hl : o + c * sz ≤ L.lim) : VR ρ (.sl a o n sz) (.slice (some ⟨L.b, L.base + o, none⟩) n c)
  | sl0 {ρ : Ren} (a o sz : Nat) (x : Addr) : VR ρ (.sl a o 0 sz) (.slice (some x) 0 0)
  | nilmap {ρ : Ren} : VR ρ .nilmap (.map none)
  | mp {ρ : Ren} (a : Nat) (L : Loc) (h : ρ a = some L) : VR ρ (.mp a) (.map (some L.b))
  | nilfn {ρ : Ren} : VR ρ .nilfn .nilFunc
  | fn {ρ : Ren} (f : Nat) (xs ys : List V) (us vs : Array Value) (hn : xs.length = us.size) (hm : ys.length = vs.size)
      (hx : ∀ (i : Nat) x u, xs[i]? = some x → us[i]? = some u → VR ρ x u)
      (hy : ∀ (i : Nat) x u, ys[i]? = some x → vs[i]? = some u → VR ρ x u) : VR ρ (.fn f xs ys) (.func (.func f) us vs)
  | nilif {ρ : Ren} : VR ρ .nilif .nilIface
  | iface {ρ : Ren} (t : Nat) (x : V) (u : Value) (h : VR ρ x u) : VR ρ (.iface t x) (.iface t u)
  | agg {ρ : Ren} (xs : List V) (us : Array Value) (hn : xs.length = us.size)
      (hr : ∀ (i : Nat) x u, xs[i]? = some x → us[i]? = some u → VR ρ x u) : VR ρ (.agg xs) (.agg us)
  | tup {ρ : Ren} (xs : List V) (us : Array Value) (hn : xs.length = us.size)
      (hr : ∀ (i : Nat) x u, xs[i]? = some x → us[i]? = some u → VR ρ x u) : VR ρ (.tup xs) (.tuple us)
  | any {ρ : Ren} (u : Value) : VR ρ .any u
  | mod {ρ : Ren} (m i : Nat) (k : Int) (hm : m ≠ 0) (h : k % (m : Int) = (i : Int)) : VR ρ (.mod m i) (.int .i64 k)
  | opq {ρ : Ren} (i : Nat) : VR ρ (.mod 0 i) (.string (E.str i))
  | anyb {ρ : Ren} (b : Bool) : VR ρ .anyb (.bool b)
  | lin {ρ : Ren} (k : IntKind) (c : Int) (ts : List LT) (n : Int) (h : ∀ t ∈ ts, t.ok ρ) (hn : n = c + sumR ρ ts) : VR ρ (.lin k c ts) (.int k n)
  | sstr {ρ : Ren} (xs : List V) (bs : List UInt8) (hn : xs.length = bs.length)
      (hr : ∀ (i : Nat) x b, xs[i]? = some x → bs[i]? = some b → VR ρ x (.int .u8 b.toNat)) : VR ρ (.sstr xs) (.string ⟨bs.toArray⟩)
  | pl {ρ : Ren} (n sz c b o : Nat) (xs : List V) (m : Mem) (hm : ρ.mem b = some m) (hc : n ≤ c) (hn : xs.length = n * sz) (hl : o + xs.length ≤ m.arr.size)
      (hr : ∀ (i : Nat) x u, xs[i]? = some x → m.arr[o + i]? = some u → VR ρ.bare x u) : VR ρ (.pl n sz xs) (.slice (some ⟨b, o, Option.none⟩) n c)
  | pl0 {ρ : Ren} (sz c : Nat) (x : Addr) : VR ρ (.pl 0 sz []) (.slice (some x) 0 c)
  | pp {ρ : Ren} (b o : Nat) (xs : List V) (m : Mem) (hm : ρ.mem b = some m) (hl : ∀ i, i < xs.length → o + i < m.arr.size)
      (hr : ∀ (i : Nat) x u, xs[i]? = some x → m.arr[o + i]? = some u → VR ρ.bare x u) : VR ρ (.pp xs) (.pointer (some ⟨b, o, Option.none⟩))
  | pk {ρ : Ren} (b o : Nat) (x : V) (m : Mem) (u : Value) (hm : ρ.mem b = some m) (hu : m.arr[o]? = some u) (hx : VR ρ x u) : VR ρ (.pk x) (.pointer (some ⟨b, o, Option.none⟩))
def VRs (ρ : Ren) (xs : List V) (us : List Value) : Prop := xs.length = us.length ∧ ∀ (i : Nat) x u, xs[i]? = some x → us[i]? = some u → VR ρ x u
structure Ext (ρ ρ' : Ren) : Prop where
 loc : ∀ a L, ρ a = some L → ρ' a = some L
 mem : ∀ b m, ρ.mem b = some m → ρ'.mem b = some m
instance {ρ ρ' : Ren} : CoeFun (Ext ρ ρ') fun _ => ∀ a L, ρ a = some L → ρ' a = some L := ⟨Ext.loc⟩
omit [E : Amb] in
theorem Ext.refl (ρ : Ren) : Ext ρ ρ := ⟨fun _ _ h => h, fun _ _ h => h⟩
omit [E : Amb] in
theorem Ext.trans {a b c : Ren} (h : Ext a b) (k : Ext b c) : Ext a c := ⟨fun x L e => k x L (h x L e), fun x m e => k.mem x m (h.mem x m e)⟩
omit [E : Amb] in
theorem Ext.nil (ρ : Ren) : Ext Ren.nil ρ := ⟨fun a L e => (by cases e), fun b m e => (by cases e)⟩
theorem LT.ok.ext {ρ ρ' : Ren} {t : LT} (h : t.ok ρ) : t.ok ρ' := h
theorem sumR_ext {ρ ρ' : Ren} : ∀ (ts : List LT), sumR ρ' ts = sumR ρ ts
 | [] => rfl
 | t :: r => by rw [sumR, sumR, sumR_ext (ρ := ρ) (ρ' := ρ') r]; rfl
omit [E : Amb] in
theorem Ext.bare {ρ ρ' : Ren} (he : Ext ρ ρ') : Ext ρ.bare ρ'.bare := ⟨fun _ _ h => (by cases h), he.mem⟩
omit [E : Amb] in
theorem Ext.unbare {ρ ρ' : Ren} (hm : ∀ b m, ρ.mem b = some m → ρ'.mem b = some m) : Ext ρ.bare ρ' := ⟨fun _ _ h => (by cases h), hm⟩
theorem VR.ext {ρ ρ' : Ren} (he : Ext ρ ρ') {x : V} {u : Value} (h : VR ρ x u) : VR ρ' x u := by
 induction h generalizing ρ' with
 | bool b => exact .bool b
 | int k n => exact .int k n
 | str l => exact .str l
 | nilp => exact .nilp
 | anyp p => exact .anyp p
 | ptr a o L h => exact .ptr a o L (he _ _ h)
 | gp g o => exact .gp g o
 | nils => exact .nils
 | sl a o n sz c L h hc hl => exact .sl a o n sz c L (he _ _ h) hc hl
 | sl0 a o sz x => exact .sl0 a o sz x
 | nilmap => exact .nilmap
 | mp a L h => exact .mp a L (he _ _ h)
 | nilfn => exact .nilfn
 | fn f xs ys us vs hn hm hx hy ih1 ih2 => exact .fn f xs ys us vs hn hm (fun i x u h1 h2 => ih1 i x u h1 h2 he) (fun i x u h1 h2 => ih2 i x u h1 h2 he)
 | nilif => exact .nilif
 | iface t x u h ih => exact .iface t x u (ih he)
 | agg xs us hn hr ih => exact .agg xs us hn fun i x u h1 h2 => ih i x u h1 h2 he
 | tup xs us hn hr ih => exact .tup xs us hn fun i x u h1 h2 => ih i x u h1 h2 he
 | any u => exact .any u
 | mod m i k hm h => exact .mod m i k hm h
 | anyb b => exact .anyb b
 | opq i => exact .opq i
 | lin k c ts n h hn => exact .lin k c ts n (fun t ht => (h t ht).ext) (by rw [sumR_ext (ρ := _) ts]; exact hn)
 | sstr xs bs hn hr ih => exact .sstr xs bs hn fun i x u h1 h2 => ih i x u h1 h2 he
 | pl n sz c b o xs m hm hc hn hl hr ih => exact .pl n sz c b o xs m (he.mem _ _ hm) hc hn hl fun i x u h1 h2 => ih i x u h1 h2 he.bare
 | pl0 sz c x => exact .pl0 sz c x
 | pp b o xs m hm hl hr ih => exact .pp b o xs m (he.mem _ _ hm) hl fun i x u h1 h2 => ih i x u h1 h2 he.bare
 | pk b o x m u hm hu hx ih => exact .pk b o x m u (he.mem _ _ hm) hu (ih he)
theorem VRs.ext {ρ ρ' : Ren} (he : Ext ρ ρ') {xs : List V} {us : List Value} (h : VRs ρ xs us) : VRs ρ' xs us := ⟨h.1, fun i x u hx hu => (h.2 i x u hx hu).ext he⟩
theorem VRs.nil (ρ : Ren) : VRs ρ [] [] := ⟨rfl, fun i x u h => by simp at h⟩
theorem VRs.cons {ρ : Ren} {x : V} {u : Value} {xs : List V} {us : List Value} (h : VR ρ x u) (hs : VRs ρ xs us) : VRs ρ (x :: xs) (u :: us) := by
 refine ⟨by simp [hs.1], fun i y v hy hv => ?_⟩
 cases i with
 | zero => simp at hy hv; subst hy hv; exact h
 | succ i => simp at hy hv; exact hs.2 i y v hy hv
theorem VRs.cons_inv {ρ : Ren} {x : V} {xs : List V} {us : List Value} (h : VRs ρ (x :: xs) us) : ∃ u us', us = u :: us' ∧ VR ρ x u ∧ VRs ρ xs us' := by
 cases us with
 | nil => have := h.1; simp at this
 | cons u us => exact ⟨u, us, rfl, h.2 0 x u rfl rfl, by have := h.1; simpa using this, fun i y v hy hv => h.2 (i + 1) y v (by simpa using hy) (by simpa using hv)⟩
theorem VRs.nil_inv {ρ : Ren} {us : List Value} (h : VRs ρ [] us) : us = [] := by
 have := h.1; cases us with
 | nil => rfl
 | cons => simp at this
theorem VRs.append {ρ : Ren} {xs ys : List V} {us vs : List Value} (h : VRs ρ xs us) (k : VRs ρ ys vs) : VRs ρ (xs ++ ys) (us ++ vs) := by
 refine ⟨by simp [h.1, k.1], fun i x u hx hu => ?_⟩
 by_cases hi : i < xs.length
 ·rw [List.getElem?_append_left hi] at hx
  rw [List.getElem?_append_left (by rw [← h.1]; exact hi)] at hu
  exact h.2 i x u hx hu
 ·rw [List.getElem?_append_right (by omega)] at hx
  rw [List.getElem?_append_right (by rw [← h.1]; omega), ← h.1] at hu
  exact k.2 _ x u hx hu
theorem VRs.take {ρ : Ren} {xs : List V} {us : List Value} (h : VRs ρ xs us) (n : Nat) : VRs ρ (xs.take n) (us.take n) := by
 refine ⟨by simp [h.1], fun i x u hx hu => ?_⟩
 rw [List.getElem?_take] at hx hu
 split at hx
 ·rw [if_pos (by assumption)] at hu; exact h.2 i x u hx hu
 ·cases hx
theorem VRs.drop {ρ : Ren} {xs : List V} {us : List Value} (h : VRs ρ xs us) (n : Nat) : VRs ρ (xs.drop n) (us.drop n) := by
 refine ⟨by simp [h.1], fun i x u hx hu => ?_⟩
 rw [List.getElem?_drop] at hx hu
 exact h.2 _ x u hx hu
theorem VRs.get {ρ : Ren} {xs : List V} {us : List Value} (h : VRs ρ xs us) {i : Nat} {x : V} (hx : xs[i]? = some x) : ∃ u, us[i]? = some u ∧ VR ρ x u := by
 have hi : i < us.length := by rw [← h.1]; exact (List.getElem?_eq_some_iff.1 hx).1
 exact ⟨us[i], by simp, h.2 i x _ hx (by simp)⟩
theorem VRs.set {ρ : Ren} {xs : List V} {us : List Value} (h : VRs ρ xs us) {x : V} {u : Value} (hx : VR ρ x u) (n : Nat) : VRs ρ (xs.set n x) (us.set n u) := by
 refine ⟨by simp [h.1], fun i y v hy hv => ?_⟩
 rw [List.getElem?_set] at hy hv
 by_cases e : n = i
 ·subst e
  rw [if_pos rfl] at hy hv
  split at hy <;> split at hv <;> first | (cases hy; done) | (cases hv; done) | (simp at hy hv; subst hy hv; exact hx)
 ·rw [if_neg e] at hy hv; exact h.2 i y v hy hv
theorem VRs.replicate {ρ : Ren} {x : V} {u : Value} (h : VR ρ x u) (n : Nat) : VRs ρ (List.replicate n x) (List.replicate n u) := by
 refine ⟨by simp, fun i y v hy hv => ?_⟩
 rw [List.getElem?_replicate] at hy hv
 split at hy
 ·rw [if_pos (by assumption)] at hv; simp at hy hv; subst hy hv; exact h
 ·cases hy
def V.isAny : V → Bool
 | .any => true
 | _ => false
theorem VR.cells {ρ : Ren} {x : V} {u : Value} (h : VR ρ x u) (hna : x.isAny = false) : VRs ρ x.cells u.cells.toList := by
 cases h with
 | any u => cases hna
 | agg xs us hn hr => exact ⟨by simpa [V.cells, Value.cells] using hn, fun i x u hx hu => hr i x u hx (by simpa [Value.cells] using hu)⟩
 | _ =>
  refine VRs.cons ?_ (VRs.nil _)
  constructor <;> assumption
section
variable {ρ : Ren} {u : Value}
theorem VR.int_inv {k : IntKind} {n : Int} (h : VR ρ (.int k n) u) : u = .int k n := by cases h; rfl
theorem VR.str_inv {l : List UInt8} (h : VR ρ (.str l) u) : u = .string ⟨l.toArray⟩ := by cases h; rfl
theorem VR.bool_inv {b : Bool} (h : VR ρ (.bool b) u) : u = .bool b := by cases h; rfl
theorem VR.agg_inv {xs : List V} (h : VR ρ (.agg xs) u) : ∃ us : Array Value, u = .agg us ∧ VRs ρ xs us.toList := by
 cases h with | agg _ us hn hr => exact ⟨us, rfl, by simpa using hn, fun i x v hx hv => hr i x v hx (by simpa using hv)⟩
theorem VR.tup_inv {xs : List V} (h : VR ρ (.tup xs) u) : ∃ us : Array Value, u = .tuple us ∧ VRs ρ xs us.toList := by
 cases h with | tup _ us hn hr => exact ⟨us, rfl, by simpa using hn, fun i x v hx hv => hr i x v hx (by simpa using hv)⟩
theorem VR.ptr_inv {a o : Nat} (h : VR ρ (.ptr a o) u) : ∃ L, ρ a = some L ∧ u = .pointer (some ⟨L.b, L.base + o, none⟩) := by
 cases h with | ptr _ _ L h => exact ⟨L, h, rfl⟩
theorem VRs.agg {xs : List V} {us : Array Value} (h : VRs ρ xs us.toList) : VR ρ (.agg xs) (.agg us) := .agg _ _ (by simpa using h.1) fun i x v hx hv => h.2 i x v hx (by simpa using hv)
theorem VRs.tup {xs : List V} {us : Array Value} (h : VRs ρ xs us.toList) : VR ρ (.tup xs) (.tuple us) := .tup _ _ (by simpa using h.1) fun i x v hx hv => h.2 i x v hx (by simpa using hv)
end
inductive Tr (α : Type) where
 | leaf
 | node (l : Tr α) (v : Option α) (r : Tr α)
def Tr.get {α : Type} : Tr α → Nat → Option α
 | .leaf, _ => none
 | .node l v r, i => match Nat.beq i 0 with
  | true => v
  | false => match Nat.beq (i % 2) 1 with
   | true => l.get (i / 2)
   | false => r.get (i / 2 - 1)
def Tr.one {α : Type} (x : Option α) : Nat → Nat → Tr α
 | 0, _ => .node .leaf x .leaf
 | f + 1, i => match Nat.beq i 0 with
  | true => .node .leaf x .leaf
  | false => match Nat.beq (i % 2) 1 with
   | true => .node (Tr.one x f (i / 2)) none .leaf
   | false => .node .leaf none (Tr.one x f (i / 2 - 1))
def Tr.put {α : Type} (x : Option α) : Tr α → Nat → Tr α
 | .leaf, i => Tr.one x i i
 | .node l v r, i => match Nat.beq i 0 with
  | true => .node l x r
  | false => match Nat.beq (i % 2) 1 with
   | true => .node (l.put x (i / 2)) v r
   | false => .node l v (r.put x (i / 2 - 1))
omit [E : Amb] in
theorem Tr.get_one {α : Type} (x : Option α) : ∀ (f i j : Nat), i ≤ f → (Tr.one x f i).get j = if j = i then x else none := by
 intro f
 induction f with
 | zero =>
  intro i j h
  obtain rfl : i = 0 := by omega
  simp only [Tr.one, Tr.get]
  cases j with
  | zero => rfl
  | succ j =>
   have e : Nat.beq (j + 1) 0 = false := rfl
   simp only [e]
   split <;> rfl
 | succ f ih =>
  intro i j h
  simp only [Tr.one]
  cases hi : Nat.beq i 0 with
  | true =>
   have : i = 0 := Nat.eq_of_beq_eq_true hi
   subst this
   simp only [Tr.get]
   cases j with
   | zero => rfl
   | succ j =>
    have e : Nat.beq (j + 1) 0 = false := rfl
    simp only [e]
    split <;> rfl
  | false =>
   have hi0 : i ≠ 0 := fun e => by subst e; cases hi
   simp only
   cases hm : Nat.beq (i % 2) 1 with
   | true =>
    have hm' : i % 2 = 1 := Nat.eq_of_beq_eq_true hm
    simp only [Tr.get]
    cases hj : Nat.beq j 0 with
    | true =>
     have : j = 0 := Nat.eq_of_beq_eq_true hj
     subst this
     simp only
     rw [if_neg (by omega)]
    | false =>
     have hj0 : j ≠ 0 := fun e => by subst e; cases hj
     simp only
     cases hk : Nat.beq (j % 2) 1 with
     | true =>
      have hk' : j % 2 = 1 := Nat.eq_of_beq_eq_true hk
      simp only
      rw [ih _ _ (by omega)]
      by_cases e : j = i
      ·subst e; simp
      ·rw [if_neg e, if_neg (by omega)]
     | false =>
      have hk' : j % 2 ≠ 1 := Nat.ne_of_beq_eq_false hk
      simp only []
      rw [if_neg (fun e => hk' (by rw [e]; exact hm'))]
   | false =>
    have hm' : i % 2 ≠ 1 := Nat.ne_of_beq_eq_false hm
    simp only [Tr.get]
    cases hj : Nat.beq j 0 with
    | true =>
     have : j = 0 := Nat.eq_of_beq_eq_true hj
     subst this
     simp only
     rw [if_neg (by omega)]
    | false =>
     have hj0 : j ≠ 0 := fun e => by subst e; cases hj
     simp only
     cases hk : Nat.beq (j % 2) 1 with
     | true =>
      have hk' : j % 2 = 1 := Nat.eq_of_beq_eq_true hk
      simp only []
      rw [if_neg (fun e => hm' (by rw [← e]; exact hk'))]
     | false =>
      have hk' : j % 2 ≠ 1 := Nat.ne_of_beq_eq_false hk
      simp only
      rw [ih _ _ (by omega)]
      by_cases e : j = i
      ·subst e; simp
      ·rw [if_neg e, if_neg (by omega)]
omit [E : Amb] in
theorem Tr.get_put {α : Type} (x : Option α) : ∀ (t : Tr α) (i j : Nat), (t.put x i).get j = if j = i then x else t.get j := by
 intro t
 induction t with
 | leaf => intro i j; simp only [Tr.put]; rw [Tr.get_one _ _ _ _ (Nat.le_refl _)]; rfl
 | node l v r ihl ihr =>
  intro i j
  simp only [Tr.put]
  cases hi : Nat.beq i 0 with
  | true =>
   have : i = 0 := Nat.eq_of_beq_eq_true hi
   subst this
   simp only [Tr.get]
   cases hj : Nat.beq j 0 with
   | true =>
    have : j = 0 := Nat.eq_of_beq_eq_true hj
    subst this; rfl
   | false =>
    have hj0 : j ≠ 0 := fun e => by subst e; cases hj
    simp only
    rw [if_neg hj0]
  | false =>
   have hi0 : i ≠ 0 := fun e => by subst e; cases hi
   simp only
   cases hm : Nat.beq (i % 2) 1 with
   | true =>
    have hm' : i % 2 = 1 := Nat.eq_of_beq_eq_true hm
    simp only [Tr.get]
    cases hj : Nat.beq j 0 with
    | true =>
     have : j = 0 := Nat.eq_of_beq_eq_true hj
     subst this
     simp only
     rw [if_neg (by omega)]
    | false =>
     have hj0 : j ≠ 0 := fun e => by subst e; cases hj
     simp only
     cases hk : Nat.beq (j % 2) 1 with
     | true =>
      have hk' : j % 2 = 1 := Nat.eq_of_beq_eq_true hk
      simp only
      rw [ihl]
      by_cases e : j = i
      ·subst e; simp
      ·rw [if_neg e, if_neg (by omega)]
     | false =>
      have hk' : j % 2 ≠ 1 := Nat.ne_of_beq_eq_false hk
      simp only
      rw [if_neg (fun e => hk' (by rw [e]; exact hm'))]
   | false =>
    have hm' : i % 2 ≠ 1 := Nat.ne_of_beq_eq_false hm
    simp only [Tr.get]
    cases hj : Nat.beq j 0 with
    | true =>
     have : j = 0 := Nat.eq_of_beq_eq_true hj
     subst this
     simp only
     rw [if_neg (by omega)]
    | false =>
     have hj0 : j ≠ 0 := fun e => by subst e; cases hj
     simp only
     cases hk : Nat.beq (j % 2) 1 with
     | true =>
      have hk' : j % 2 = 1 := Nat.eq_of_beq_eq_true hk
      simp only
      rw [if_neg (fun e => hm' (by rw [← e]; exact hk'))]
     | false =>
      have hk' : j % 2 ≠ 1 := Nat.ne_of_beq_eq_false hk
      simp only
      rw [ihr]
      by_cases e : j = i
      ·subst e; simp
      ·rw [if_neg e, if_neg (by omega)]
def LT.least (t : LT) : Int := if 0 ≤ t.m then t.m * t.lo else t.m * t.hi
def LT.most (t : LT) : Int := if 0 ≤ t.m then t.m * t.hi else t.m * t.lo
def loT (c : Int) : List LT → Int
 | [] => c
 | t :: r => t.least + loT c r
def hiT (c : Int) : List LT → Int
 | [] => c
 | t :: r => t.most + hiT c r
def fullP (a : Nat) (s : Int) : Nat → List LT → Bool
 | 0, [] => true
 | n + 1, t :: r => decide (t.a = a) && (decide (t.m = s) && fullP (a + 1) (s * 10) n r)
 | _, _ => false
def bigP (s : Int) (ts : List LT) : Option Nat := match ts with
 | t :: _ => match decide (4000 ≤ t.a) && (decide (t.a < 4040) && (decide (t.a % 10 = 0) && fullP t.a s 10 ts)) with
  | true => some ((t.a - 4000) / 10)
  | false => none
 | [] => none
def loS (c : Int) (ts : List LT) : Int := match bigP (-1) ts with
 | some g => max (loT c ts) (c - capG g)
 | none => loT c ts
def hiS (c : Int) (ts : List LT) : Int := match bigP 1 ts with
 | some g => min (hiT c ts) (c + capG g)
 | none => hiT c ts
def insT (t : LT) : List LT → List LT
 | [] => if t.m = 0 then [] else [t]
 | u :: r => if t.a = u.a then (if t.m + u.m = 0 then r else ⟨t.m + u.m, u.a, u.lo, u.hi⟩ :: r)
  else if t.a < u.a then (if t.m = 0 then u :: r else t :: u :: r)
  else u :: insT t r
def addS (k : Int) : List LT → List LT → List LT
 | [], us => us
 | t :: r, us => insT ⟨k * t.m, t.a, t.lo, t.hi⟩ (addS k r us)
def OkS (ρ : Ren) (ts : List LT) : Prop := ∀ t ∈ ts, t.ok ρ
section
variable {ρ : Ren}
theorem OkS.nil : OkS ρ [] := fun _ h => by cases h
theorem OkS.cons {t : LT} {ts : List LT} (h : t.ok ρ) (hs : OkS ρ ts) : OkS ρ (t :: ts) := fun x hx => by
 rcases List.mem_cons.1 hx with rfl | hx
 ·exact h
 ·exact hs x hx
theorem OkS.head {t : LT} {ts : List LT} (h : OkS ρ (t :: ts)) : t.ok ρ := h t (List.mem_cons_self ..)
theorem OkS.tail {t : LT} {ts : List LT} (h : OkS ρ (t :: ts)) : OkS ρ ts := fun x hx => h x (List.mem_cons_of_mem _ hx)
theorem LT.ok.scale {t : LT} (h : t.ok ρ) (m : Int) : LT.ok ρ ⟨m, t.a, t.lo, t.hi⟩ := h
theorem insT_ok {t : LT} (h : t.ok ρ) : ∀ {ts : List LT}, OkS ρ ts → OkS ρ (insT t ts)
 | [], _ => by
  unfold insT; split
  ·exact .nil
  ·exact .cons h .nil
 | u :: r, hs => by
  unfold insT
  split
  ·split
   ·exact hs.tail
   ·exact .cons (hs.head.scale _) hs.tail
  ·split
   ·split
    ·exact hs
    ·exact .cons h hs
   ·exact .cons hs.head (insT_ok h hs.tail)
theorem insT_sum (t : LT) : ∀ (ts : List LT), sumR ρ (insT t ts) = t.m * valR ρ t.a + sumR ρ ts
 | [] => by
  unfold insT; split
  ·rename_i h; simp [sumR, h]
  ·rfl
 | u :: r => by
  unfold insT
  split
  ·rename_i ha
   split
   ·rename_i hm
    have e : t.m * valR ρ t.a + u.m * valR ρ u.a = 0 := by rw [ha, ← Int.add_mul, hm, Int.zero_mul]
    rw [sumR]; omega
   ·rw [sumR, sumR]
    have e : (t.m + u.m) * valR ρ u.a = t.m * valR ρ t.a + u.m * valR ρ u.a := by rw [ha, Int.add_mul]
    show (t.m + u.m) * valR ρ u.a + _ = _
    omega
  ·split
   ·split
    ·rename_i hm; rw [hm, Int.zero_mul, Int.zero_add]
    ·rfl
   ·rw [sumR, insT_sum t r, sumR]; omega
theorem addS_ok (k : Int) : ∀ {ts us : List LT}, OkS ρ ts → OkS ρ us → OkS ρ (addS k ts us)
 | [], _, _, h => h
 | _ :: _, _, hs, h => insT_ok (hs.head.scale _) (addS_ok k hs.tail h)
theorem addS_sum (k : Int) : ∀ (ts us : List LT), sumR ρ (addS k ts us) = k * sumR ρ ts + sumR ρ us
 | [], us => by simp [addS, sumR]
 | t :: r, us => by
  rw [addS, insT_sum, addS_sum k r us, sumR]
  show k * t.m * valR ρ t.a + _ = _
  rw [Int.mul_add, Int.mul_assoc]; omega
theorem LT.bounds {t : LT} (h : t.ok ρ) : t.least ≤ t.m * valR ρ t.a ∧ t.m * valR ρ t.a ≤ t.most := by
 obtain ⟨h2, h3⟩ := h
 show t.least ≤ t.m * E.num t.a ∧ t.m * E.num t.a ≤ t.most
 unfold LT.least LT.most
 split
 ·rename_i hm
  exact ⟨Int.mul_le_mul_of_nonneg_left h2 hm, Int.mul_le_mul_of_nonneg_left h3 hm⟩
 ·rename_i hm
  exact ⟨Int.mul_le_mul_of_nonpos_left (by omega) h3, Int.mul_le_mul_of_nonpos_left (by omega) h2⟩
theorem loT_le (c : Int) : ∀ {ts : List LT}, OkS ρ ts → loT c ts ≤ c + sumR ρ ts ∧ c + sumR ρ ts ≤ hiT c ts
 | [], _ => by simp [loT, hiT, sumR]
 | t :: r, h => by
  have h1 := LT.bounds h.head
  have h2 := loT_le c h.tail
  rw [loT, hiT, sumR]; omega
theorem fullP_sum : ∀ (n a : Nat) (s : Int) (ts : List LT), fullP a s n ts = true → sumR ρ ts = s * tot E.num a n
 | 0, _, _, [], _ => by simp [sumR, tot]
 | 0, _, _, _ :: _, h => by simp [fullP] at h
 | n + 1, _, _, [], h => by simp [fullP] at h
 | n + 1, a, s, t :: r, h => by
  simp only [fullP, Bool.and_eq_true, decide_eq_true_eq] at h
  obtain ⟨h1, h2, h3⟩ := h
  rw [sumR, fullP_sum n (a + 1) (s * 10) r h3, tot, h2]
  show s * E.num t.a + _ = _
  rw [h1, Int.mul_add, Int.mul_assoc]
theorem bigP_sum {s : Int} {ts : List LT} {g : Nat} (h : bigP s ts = some g) : ∃ v : Int, sumR ρ ts = s * v ∧ 0 ≤ v ∧ v ≤ capG g := by
 unfold bigP at h
 split at h
 ·rename_i t r
  split at h
  ·rename_i hc
   simp only [Bool.and_eq_true, decide_eq_true_eq] at hc
   obtain ⟨h1, h2, h3, h4⟩ := hc
   simp only [Option.some.injEq] at h; subst h
   refine ⟨_, fullP_sum 10 t.a s (t :: r) h4, ?_⟩
   have := E.bnd ((t.a - 4000) / 10) (by omega)
   rwa [show 4000 + 10 * ((t.a - 4000) / 10) = t.a by omega] at this
  ·cases h
 ·cases h
theorem loS_le (c : Int) {ts : List LT} (h : OkS ρ ts) : loS c ts ≤ c + sumR ρ ts ∧ c + sumR ρ ts ≤ hiS c ts := by
 have h0 := loT_le c h
 constructor
 ·unfold loS
  split
  ·rename_i g hg
   obtain ⟨v, h1, h2, h3⟩ := bigP_sum (ρ := ρ) hg
   omega
  ·exact h0.1
 ·unfold hiS
  split
  ·rename_i g hg
   obtain ⟨v, h1, h2, h3⟩ := bigP_sum (ρ := ρ) hg
   omega
  ·exact h0.2
def mkLin (k : IntKind) (c : Int) : List LT → V
 | [] => .int k c
 | t :: r => .lin k c (t :: r)
theorem mkLin_VR {k : IntKind} {c n : Int} {ts : List LT} (h : OkS ρ ts) (hn : n = c + sumR ρ ts) : VR ρ (mkLin k c ts) (.int k n) := by
 cases ts with
 | nil =>
  obtain rfl : n = c := by simpa [sumR] using hn
  exact .int k _
 | cons t r => exact .lin k c _ n h hn
def asLin : V → Option (IntKind × Int × List LT)
 | .int k c => some (k, c, [])
 | .lin k c ts => some (k, c, ts)
 | _ => none
theorem asLin_sound {a : V} {u : Value} {k : IntKind} {c : Int} {ts : List LT} (h : VR ρ a u) (ha : asLin a = some (k, c, ts)) : ∃ n, u = .int k n ∧ OkS ρ ts ∧ n = c + sumR ρ ts := by
 unfold asLin at ha
 split at ha
 ·simp only [Option.some.injEq, Prod.mk.injEq] at ha; obtain ⟨rfl, rfl, rfl⟩ := ha
  exact ⟨_, h.int_inv, .nil, by simp [sumR]⟩
 ·simp only [Option.some.injEq, Prod.mk.injEq] at ha; obtain ⟨rfl, rfl, rfl⟩ := ha
  cases h with
  | lin _ _ _ n h hn => exact ⟨n, rfl, h, hn⟩
 ·cases ha
def diffS (c d : Int) (ts us : List LT) : Int × Int := (loS (c - d) (addS (-1) us ts), hiS (c - d) (addS (-1) us ts))
theorem diffS_sound {c d n m : Int} {ts us : List LT} (h1 : OkS ρ ts) (h2 : OkS ρ us) (hn : n = c + sumR ρ ts) (hm : m = d + sumR ρ us) : (diffS c d ts us).1 ≤ n - m ∧ n - m ≤ (diffS c d ts us).2 := by
 have h := loS_le (c - d) (addS_ok (-1) h2 h1)
 rw [addS_sum] at h
 unfold diffS
 simp only
 omega
def eqLin (a b : V) : Option Bool := match asLin a, asLin b with
  | some (k, c, ts), some (k', d, us) => if k = k' then
      (if (diffS c d ts us).1 = 0 ∧ (diffS c d ts us).2 = 0 then some true else if (diffS c d ts us).2 < 0 ∨ 0 < (diffS c d ts us).1 then some false else none)
    else none
  | _, _ => none
theorem eqLin_sound {a b : V} {u v : Value} {t : Bool} (ha : VR ρ a u) (hb : VR ρ b v) (h : eqLin a b = some t) : ∃ k n m, u = .int k n ∧ v = .int k m ∧ t = decide (n = m) := by
 unfold eqLin at h
 split at h
 ·rename_i k c ts k' d us e1 e2
  obtain ⟨n, rfl, s1, hn⟩ := asLin_sound ha e1
  obtain ⟨m, rfl, s2, hm⟩ := asLin_sound hb e2
  split at h
  ·rename_i hk; subst hk
   obtain ⟨d1, d2⟩ := diffS_sound s1 s2 hn hm
   refine ⟨k, n, m, rfl, rfl, ?_⟩
   split at h
   ·simp only [Option.some.injEq] at h; subst h
    symm; rw [decide_eq_true_iff]; omega
   ·split at h
    ·simp only [Option.some.injEq] at h; subst h
     symm; rw [decide_eq_false_iff_not]; omega
    ·cases h
  ·cases h
 ·cases h
end
def constC : Value → Option V
 | .bool b => some (.bool b)
 | .int k n => some (.int k n)
 | .string s => some (.str s.data.toList)
 | .pointer none => some .nilp
 | .nilFunc => some .nilfn
 | .nilIface => some .nilif
 | .map none => some .nilmap
 | .slice none 0 0 => some .nils
 | _ => none
def mapC {α β : Type} (f : α → Option β) : List α → Option (List β)
 | [] => some []
 | x :: r => match f x, mapC f r with
  | some y, some l => some (y :: l)
  | _, _ => none
def constV (v : Value) : Option V :=
 match v with
 | .agg cs => (mapC constC cs.toList).map .agg
 | .iface t v => (constC v).map (.iface t)
 | .func (.func f) fs cs => if fs.size = 0 ∧ cs.size = 0 then some (.fn f [] []) else none
 | v => constC v
theorem VR.string (R : Ren) (s : ByteArray) : VR R (.str s.data.toList) (.string s) := by
 have := VR.str (ρ := R) s.data.toList
 cases s; simpa using this
theorem constC_sound {R : Ren} {v : Value} {x : V} (h : constC v = some x) : VR R x v := by
 unfold constC at h
 split at h <;> first | (cases h; done) | skip
 all_goals simp only [Option.some.injEq] at h; subst h
 ·exact .bool _
 ·exact .int _ _
 ·exact VR.string _ _
 ·exact .nilp
 ·exact .nilfn
 ·exact .nilif
 ·exact .nilmap
 ·exact .nils
omit [E : Amb] in
theorem mapC_get {α β : Type} {f : α → Option β} {l : List α} {r : List β} (h : mapC f l = some r) : l.length = r.length ∧ ∀ (i : Nat) x y, l[i]? = some x → r[i]? = some y → f x = some y := by
 induction l generalizing r with
 | nil => simp [mapC] at h; subst h; simp
 | cons a l ih =>
  simp only [mapC] at h
  split at h
  ·rename_i b r' hb hr
   simp only [Option.some.injEq] at h; subst h
   obtain ⟨hl, hi⟩ := ih hr
   refine ⟨by simp [hl], fun i x y hx hy => ?_⟩
   cases i with
   | zero => simp at hx hy; subst hx hy; exact hb
   | succ i => simp at hx hy; exact hi i x y hx hy
  ·cases h
theorem constV_sound {R : Ren} {v : Value} {x : V} (h : constV v = some x) : VR R x v := by
 unfold constV at h
 split at h
 ·rename_i cs
  simp only [Option.map_eq_some_iff] at h
  obtain ⟨l, hl, rfl⟩ := h
  obtain ⟨hn, hi⟩ := mapC_get hl
  refine .agg l cs (by simpa using hn.symm) (fun i y u hy hu => ?_)
  have hu' : cs.toList[i]? = some u := by simpa using hu
  exact constC_sound (hi i u y hu' hy)
 ·simp only [Option.map_eq_some_iff] at h
  obtain ⟨y, hy, rfl⟩ := h
  exact .iface _ _ _ (constC_sound hy)
 ·split at h
  ·rename_i hz
   simp only [Option.some.injEq] at h; subst h
   exact .fn _ _ _ _ _ hz.1.symm hz.2.symm (fun i x u h => by simp at h) (fun i x u h => by simp at h)
  ·cases h
 ·exact constC_sound h
def ibin (op : BinOp) (k : IntKind) (a b : Int) : Option V :=
 match op with
 | .add => some (.int k (k.wrap (a + b)))
 | .sub => some (.int k (k.wrap (a - b)))
 | .mul => some (.int k (k.wrap (a * b)))
 | .quo => if b = 0 then none else some (.int k (k.wrap (a.tdiv b)))
 | .rem => if b = 0 then none else some (.int k (a.tmod b))
 | .and => some (.int k (k.wrap (BitVec.ofInt k.bits a &&& BitVec.ofInt k.bits b).toNat))
 | .or => some (.int k (k.wrap (BitVec.ofInt k.bits a ||| BitVec.ofInt k.bits b).toNat))
 | .xor => some (.int k (k.wrap (BitVec.ofInt k.bits a ^^^ BitVec.ofInt k.bits b).toNat))
 | .andNot => some (.int k (k.wrap (BitVec.ofInt k.bits a &&& ~~~ BitVec.ofInt k.bits b).toNat))
 | .eql => some (.bool (decide (a = b)))
 | .neq => some (.bool (!decide (a = b)))
 | .lss => some (.bool (decide (a < b)))
 | .leq => some (.bool (decide (a ≤ b)))
 | .gtr => some (.bool (decide (a > b)))
 | .geq => some (.bool (decide (a ≥ b)))
 | _ => none
def shbin (op : BinOp) (k : IntKind) (a b : Int) : Option V :=
 if b < 0 then none else
 match op with
 | .shl => some (.int k (k.wrap (a * 2 ^ min b.toNat k.bits)))
 | .shr => some (.int k (a.fdiv (2 ^ min b.toNat k.bits)))
 | _ => none
def sbin (op : BinOp) (a b : List UInt8) : Option V :=
 match op with
 | .add => if a.length + b.length ≤ 9223372036854775807 then some (.str (a ++ b)) else none
 | .eql => some (.bool (decide (a = b)))
 | .neq => some (.bool (!decide (a = b)))
 | .lss => some (.bool (Op.bytesLess a b))
 | .leq => some (.bool (Op.bytesLess a b || decide (a = b)))
 | .gtr => some (.bool (!(Op.bytesLess a b || decide (a = b))))
 | .geq => some (.bool (!Op.bytesLess a b))
 | _ => none
def bbin (P : Program) (T : TypeId) (op : BinOp) (a b : Bool) : Option V :=
 match P.underlying T with
 | some .bool =>
  match op with
  | .eql => some (.bool (a == b))
  | .neq => some (.bool (!(a == b)))
  | _ => none
 | _ => none
def vbin (P : Program) (op : BinOp) (T : TypeId) : V → V → Option V
 | .int k a, .int k' b =>
  match op with
  | .shl => shbin .shl k a b
  | .shr => shbin .shr k a b
  | op => if k = k' then ibin op k a b else none
 | .str a, .str b => sbin op a b
 | .bool a, .bool b => bbin P T op a b
 | _, _ => none
def vun (op : UnOp) : V → Option V
 | .int k n => match op with
  | .neg => some (.int k (k.wrap (0 - n)))
  | .xor => some (.int k (k.wrap (BitVec.ofInt k.bits (if k.signed then -1 else k.max) ^^^ BitVec.ofInt k.bits n).toNat))
  | _ => none
 | .bool b => match op with
  | .not => some (.bool !b)
  | _ => none
 | .anyb => match op with
  | .not => some .anyb
  | _ => none
 | _ => none
omit [E : Amb] in
theorem beq_decide {α : Type} [BEq α] [LawfulBEq α] [DecidableEq α] (a b : α) : (a == b) = decide (a = b) := by
 rw [Bool.eq_iff_iff]; simp
theorem ibin_sound {op : BinOp} {k : IntKind} {a b : Int} {x : V} (h : ibin op k a b = some x) (P : Program) (w : World) (T : TypeId) (hs : op ≠ .shl) (hs' : op ≠ .shr) :
  ∃ v, (binOp op T (.int k a) (.int k b)).run P w = .ok v w ∧ ∀ R, VR R x v := by
 have key : ∀ v, (if k ≠ k then (stuck "BinOp: operands of different kinds" : Sem Value) else v) = v := fun v => by simp
 cases op <;> simp only [ibin, reduceCtorEq, Option.some.injEq] at h <;> first
  | (subst h; refine ⟨_, by simp only [binOp, key, Op.intArith, Op.intBits, Op.intCmp, beq_decide, bne]; rfl, fun R => ?_⟩; first | exact .int _ _ | exact .bool _)
  | (split at h <;> first | (cases h; done) | (simp only [Option.some.injEq] at h; subst h; rename_i hb; exact ⟨_, by simp only [binOp, key, Op.intDiv, hb, if_false]; rfl, fun R => .int _ _⟩))
  | exact absurd rfl hs
  | exact absurd rfl hs'
theorem shbin_sound {op : BinOp} {k k' : IntKind} {a b : Int} {x : V} (h : shbin op k a b = some x) (P : Program) (w : World) (T : TypeId) :
  ∃ v, (binOp op T (.int k a) (.int k' b)).run P w = .ok v w ∧ ∀ R, VR R x v := by
 unfold shbin at h
 split at h
 ·cases h
 ·rename_i hb
  cases op <;> simp only [reduceCtorEq, Option.some.injEq] at h
  all_goals subst h; exact ⟨_, by simp only [binOp, Op.shift, hb, if_false]; rfl, fun R => .int _ _⟩
theorem sbin_sound {op : BinOp} {a b : List UInt8} {x : V} (h : sbin op a b = some x) (P : Program) (w : World) (T : TypeId) :
  ∃ v, (binOp op T (.string ⟨a.toArray⟩) (.string ⟨b.toArray⟩)).run P w = .ok v w ∧ ∀ R, VR R x v := by
 cases op <;> simp only [sbin, reduceCtorEq, Option.some.injEq] at h
 case add =>
  split at h
  ·rename_i hl
   simp only [Option.some.injEq] at h; subst h
   refine ⟨.string ⟨(a ++ b).toArray⟩, ?_, fun R => .str _⟩
   have : ¬ (((ByteArray.mk a.toArray).size + (ByteArray.mk b.toArray).size : Nat) : Int) > IntKind.i64.max := by
    show ¬ ((a.toArray.size + b.toArray.size : Nat) : Int) > 9223372036854775807
    simp; omega
   simp only [binOp, Op.stringOp, this, if_false]
   have e : (ByteArray.mk a.toArray ++ ByteArray.mk b.toArray) = ⟨(a ++ b).toArray⟩ := by
    apply ByteArray.ext; simp
   rw [e]; rfl
  ·cases h
 all_goals
  subst h
  refine ⟨_, ?_, fun R => .bool _⟩
  simp only [binOp, Op.stringOp, ByteArray.toList_mk, beq_decide]
  rfl
omit [E : Amb] in
theorem equalIn_bool (P : Program) (w : World) (T : TypeId) (hT : P.underlying T = some .bool) (a b : Bool) (d : Nat) :
  (Op.equalIn (d + 1) T (.bool a) (.bool b)).run P w = .ok (a == b) w := by
 unfold Op.equalIn
 simp [underlying, program, hT, Sem.run]
omit [E : Amb] in
theorem equal_bool (P : Program) (w : World) (T : TypeId) (hT : P.underlying T = some .bool) (a b : Bool) :
  (Op.equal T (.bool a) (.bool b)).run P w = .ok (a == b) w := equalIn_bool P w T hT a b 9999
theorem bbin_sound {P : Program} {T : TypeId} {op : BinOp} {a b : Bool} {x : V} (h : bbin P T op a b = some x) (w : World) :
  ∃ v, (binOp op T (.bool a) (.bool b)).run P w = .ok v w ∧ ∀ R, VR R x v := by
 unfold bbin at h
 split at h
 ·rename_i hT
  cases op <;> simp only [reduceCtorEq, Option.some.injEq] at h
  all_goals
   subst h
   refine ⟨_, ?_, fun R => .bool _⟩
   simp only [binOp, Sem.run_bind, equal_bool P w T hT, Result.andThen_ok]
   rfl
 ·cases h
theorem vbin_sound {P : Program} {R : Ren} {w : World} {op : BinOp} {T : TypeId} {a b x : V} {u v : Value} (ox oy : Operand)
  (ha : VR R a u) (hb : VR R b v) (h : vbin P op T a b = some x) :
  ∃ y, (do eqGuard op T ox oy u v; binOp op T u v : Sem Value).run P w = .ok y w ∧ VR R x y := by
 unfold vbin at h
 split at h
 ·cases ha.int_inv; cases hb.int_inv
  rename_i k a' k' b'
  have hg : (eqGuard op T ox oy (.int k a') (.int k' b') : Sem Unit).run P w = .ok () w := by
   unfold eqGuard; split <;> rfl
  rw [Sem.run_bind, hg, Result.andThen_ok]
  split at h
  ·obtain ⟨y, hy, hd⟩ := shbin_sound (k' := k') h P w T
   exact ⟨y, hy, hd R⟩
  ·obtain ⟨y, hy, hd⟩ := shbin_sound (k' := k') h P w T
   exact ⟨y, hy, hd R⟩
  ·split at h
   ·rename_i h1 h2 hk; subst hk
    obtain ⟨y, hy, hd⟩ := ibin_sound h P w T h1 h2
    exact ⟨y, hy, hd R⟩
   ·cases h
 ·cases ha.str_inv; cases hb.str_inv
  rename_i a' b'
  have hg : (eqGuard op T ox oy (.string ⟨a'.toArray⟩) (.string ⟨b'.toArray⟩) : Sem Unit).run P w = .ok () w := by
   unfold eqGuard; split <;> rfl
  rw [Sem.run_bind, hg, Result.andThen_ok]
  obtain ⟨y, hy, hd⟩ := sbin_sound h P w T
  exact ⟨y, hy, hd R⟩
 ·cases ha.bool_inv; cases hb.bool_inv
  rename_i a' b'
  have hg : (eqGuard op T ox oy (.bool a') (.bool b') : Sem Unit).run P w = .ok () w := by
   unfold eqGuard; split <;> rfl
  rw [Sem.run_bind, hg, Result.andThen_ok]
  obtain ⟨y, hy, hd⟩ := bbin_sound h w
  exact ⟨y, hy, hd R⟩
 ·cases h
theorem vun_sound {P : Program} {R : Ren} {w : World} {op : UnOp} {a x : V} {u : Value}
  (ha : VR R a u) (h : vun op a = some x) : ∃ y, (Op.unary op u).run P w = .ok y w ∧ VR R x y := by
 unfold vun at h
 split at h
 ·cases ha.int_inv
  cases op <;> simp only [reduceCtorEq, Option.some.injEq] at h <;> subst h
  ·exact ⟨_, rfl, .int _ _⟩
  ·exact ⟨_, rfl, .int _ _⟩
 ·cases ha.bool_inv
  cases op <;> simp only [reduceCtorEq, Option.some.injEq] at h <;> subst h
  exact ⟨_, rfl, .bool _⟩
 ·cases ha with
  | anyb b =>
   cases op <;> simp only [reduceCtorEq, Option.some.injEq] at h <;> subst h
   exact ⟨_, rfl, .anyb _⟩
 ·cases h
def isAggT (P : Program) (T : TypeId) : Option Bool :=
 match P.underlying T with
 | some (.struct _) => some true
 | some (.array _ _) => some true
 | some _ => some false
 | none => none
def vmax (f : Int → Int → Int) : List V → Option V
 | [] => none
 | x :: r => r.foldlM (fun a b => match a, b with | .int k m, .int _ n => some (.int k (f m n)) | _, _ => none) x
def szOf (P : Program) (T : TypeId) : Option Nat := (P.info? T).map (·.size)
omit [E : Amb] in
theorem add_none (b off k : Nat) : (⟨b, off, none⟩ : Addr).add k = ⟨b, off + k, none⟩ := by
 unfold Addr.add; split
 ·subst_vars; rfl
 ·rfl
section
variable {P : Program} {w : World}
omit [E : Amb] in
theorem run_program : (program : Sem Program).run P w = .ok P w := rfl
omit [E : Amb] in
theorem run_underlying {T : TypeId} {d : TypeDesc} (h : P.underlying T = some d) : (underlying T).run P w = .ok d w := by
 simp only [underlying, Sem.run_bind, run_program, Result.andThen_ok, h]; rfl
omit [E : Amb] in
theorem run_typeInfo {T : TypeId} {i : TypeInfo} (h : P.info? T = some i) : (typeInfo T).run P w = .ok i w := by
 simp only [typeInfo, Sem.run_bind, run_program, Result.andThen_ok, h]; rfl
omit [E : Amb] in
theorem run_sizeOf {T : TypeId} {n : Nat} (h : szOf P T = some n) : (sizeOf T).run P w = .ok n w := by
 simp only [szOf, Option.map_eq_some_iff] at h
 obtain ⟨i, hi, rfl⟩ := h
 simp only [sizeOf, Sem.run_bind, run_typeInfo hi, Result.andThen_ok]; rfl
omit [E : Amb] in
theorem run_isAgg {T : TypeId} {b : Bool} (h : isAggT P T = some b) : (isAgg T).run P w = .ok b w := by
 unfold isAggT at h
 split at h <;> simp only [Option.some.injEq, reduceCtorEq] at h
 ·rename_i fs hT; subst h; simp only [isAgg, Sem.run_bind, run_underlying hT, Result.andThen_ok]; rfl
 ·rename_i n e hT; subst h; simp only [isAgg, Sem.run_bind, run_underlying hT, Result.andThen_ok]; rfl
 ·rename_i d h1 h2 hT; subst h
  simp only [isAgg, Sem.run_bind, run_underlying hT, Result.andThen_ok]
  cases d <;> first | rfl | exact absurd rfl (h1 _) | exact absurd rfl (h2 _ _)
omit [E : Amb] in
theorem run_loadCellsFrom (a : Addr) : ∀ (n i : Nat) (acc : Array Value) (cs : List Value), cs.length = n → (∀ (k : Nat) u, cs[k]? = some u → w.cell? (a.add (i + k)) = some u) →
    (loadCellsFrom a i n acc).run P w = .ok (acc ++ cs.toArray) w := by
  intro n
  induction n with
  | zero => intro i acc cs hn _; obtain rfl : cs = [] := by simpa using hn
            simp [loadCellsFrom]
  | succ n ih =>
    intro i acc cs hn hc
    cases cs with
    | nil => simp at hn
    | cons u cs =>
      have h0 : w.cell? (a.add i) = some u := by simpa using hc 0 u rfl
      simp only [loadCellsFrom, Sem.run_bind, run_load, h0, Result.andThen_ok]
      rw [ih (i + 1) (acc.push u) cs (by simpa using hn) (fun k v hv => by
        have := hc (k + 1) v (by simpa using hv)
        rwa [show i + 1 + k = i + (k + 1) by omega])]
      simp
omit [E : Amb] in
theorem run_loadCells {b off n : Nat} {cs : List Value} (hn : cs.length = n) (hc : ∀ (k : Nat) u, cs[k]? = some u → w.cell? ⟨b, off + k, none⟩ = some u) :
  (loadCells ⟨b, off, none⟩ n).run P w = .ok cs.toArray w := by
 unfold loadCells
 rw [run_loadCellsFrom _ n 0 #[] cs hn (fun k u hu => by rw [add_none, Nat.zero_add]; exact hc k u hu)]
 simp
end
def vfield (off : Nat) : V → Option V
 | .ptr a o => some (.ptr a (o + off))
 | .gp a o => some (.gp a (o + off))
 | .pp cs => some (.pp (cs.drop off))
 | _ => none
def vpart (cs : List V) (off sz : Nat) (isAgg : Bool) : Option V :=
 if isAgg then (if off + sz ≤ cs.length then some (.agg ((cs.drop off).take sz)) else none) else cs[off]?
def vbound (len : Nat) : Option V → Nat → Option Nat
 | none, d => some d
 | some (.int _ n), _ => if 0 ≤ n ∧ n.toNat ≤ len then some n.toNat else none
 | some _, _ => none
def bfield (P : Program) (T : TypeId) (f : Nat) : Option (Nat × TypeId) :=
 match P.underlying T with
 | some (.struct fs) => match fs[f]? with
  | some fd => some (fd.offset, fd.type)
  | none => none
 | _ => none
def opLen (P : Program) (argTypes : Array TypeId) (a : V) : Option V :=
 match argTypes[0]? with
 | some T => match P.underlying T, a with
  | some .string, .str l => some (.int .i64 l.length)
  | some (.slice _), .nils => some (.int .i64 0)
  | some (.slice _), .sl _ _ n _ => some (.int .i64 n)
  | some (.array n _), _ => some (.int .i64 n)
  | some (.map _ _), .nilmap => some (.int .i64 0)
  | some (.slice _), .pl n _ _ => some (.int .i64 n)
  | _, _ => none
 | none => none
def opIndex (P : Program) (T : TypeId) (a i : V) : Option V :=
 match P.underlying T, a, i with
 | some .string, .str l, .int _ n => if 0 ≤ n then (l[n.toNat]?).map fun c => .int .u8 c.toNat else none
 | some (.array len e), .agg cs, .int _ n => match szOf P e, isAggT P e with
  | some sz, some ag => if 0 ≤ n ∧ n.toNat < len then vpart cs (n.toNat * sz) sz ag else none
  | _, _ => none
 | _, _, _ => none
def opIndexAddr (P : Program) (T : TypeId) (a i : V) : Option V :=
 match P.underlying T, i with
 | some (.slice e), .int _ n => match szOf P e, a with
  | some sz, .sl b o len sz' => if 0 ≤ n ∧ n.toNat < len ∧ sz = sz' then some (.ptr b (o + n.toNat * sz)) else none
  | some sz, .pl len sz' cs => if 0 ≤ n ∧ n.toNat < len ∧ sz = sz' then some (.pp ((cs.drop (n.toNat * sz)).take sz)) else none
  | _, _ => none
 | some (.array len e), .int _ n => match szOf P e with
  | some sz => if 0 ≤ n ∧ n.toNat < len then vfield (n.toNat * sz) a else none
  | none => none
 | _, _ => none
def opField (P : Program) (T : TypeId) (a : V) (f : Nat) : Option V :=
 match bfield P T f, a with
 | some (off, ft), .agg cs => match szOf P ft, isAggT P ft with
  | some sz, some ag => vpart cs off sz ag
  | _, _ => none
 | _, _ => none
def opFieldAddr (P : Program) (T : TypeId) (a : V) (f : Nat) : Option V :=
 match bfield P T f with
 | some (off, ft) => match szOf P ft with
  | some (_ + 1) => vfield off a
  | _ => none
 | none => none
def opSlice (P : Program) (T : TypeId) (a : V) (lo hi : Option V) : Option V :=
 match P.underlying T, a with
 | some .string, .str l => match vbound l.length hi l.length with
  | some h => match vbound h lo 0 with
   | some a => some (.str ((l.take h).drop a))
   | none => none
  | none => none
 | some (.slice e), .sl b o n sz => match szOf P e with
  | some sz' => if sz = sz' then match vbound n hi n with
   | some h => match vbound h lo 0 with
    | some l => some (.sl b (o + l * sz) (h - l) sz)
    | none => none
   | none => none
   else none
  | none => none
 | some (.slice e), .nils => match szOf P e, vbound 0 hi 0 with
  | some _, some h => match vbound h lo 0 with
   | some _ => some .nils
   | none => none
  | _, _ => none
 | some (.slice e), .pl n sz cs => match szOf P e with
  | some sz' => if sz = sz' then match vbound n hi n with
   | some h => match vbound h lo 0 with
    | some l => some (.pl (h - l) sz ((cs.drop (l * sz)).take ((h - l) * sz)))
    | none => none
   | none => none
   else none
  | none => none
 | _, _ => none
def allEq (f : Nat → Option Bool) : List Nat → Option Bool
 | [] => some true
 | i :: r => match f i with
  | some true => allEq f r
  | some false => some false
  | none => none
def fieldsEq (f : Field → Option Bool) : List Field → Option Bool
  | [] => some true
  | x :: r => if x.name ≠ "_" then match f x with
      | some true => fieldsEq f r
      | some false => some false
      | none => none
    else fieldsEq f r
def partEq (P : Program) (rec : TypeId → V → V → Option Bool) (T : TypeId) (xs ys : List V) (off : Nat) : Option Bool :=
 match szOf P T, isAggT P T with
 | some sz, some ag => match vpart xs off sz ag, vpart ys off sz ag with
  | some a, some b => rec T a b
  | _, _ => none
 | _, _ => none
def veq (P : Program) : Nat → TypeId → V → V → Option Bool
  | 0, _, _, _ => none
  | d + 1, T, a, b => match P.underlying T, a, b with
    | some .bool, .bool x, .bool y => some (x == y)
    | some (.int _), .int k x, .int k' y => if k = k' then some (decide (x = y)) else none
    | some .string, .str x, .str y => some (decide (x = y))
    | some (.pointer _), .nilp, .nilp => some true
    | some (.pointer _), .nilp, .ptr _ _ => some false
    | some (.pointer _), .nilp, .gp _ _ => some false
    | some (.pointer _), .ptr _ _, .nilp => some false
    | some (.pointer _), .gp _ _, .nilp => some false
    | some (.pointer e), .ptr x o, .ptr y o' => if x = y then match szOf P e with
        | some (_ + 1) => some (decide (o = o'))
        | _ => none
      else none
    | some (.slice _), .nils, .nils => some true
    | some (.slice _), .nils, .sl _ _ _ _ => some false
    | some (.slice _), .sl _ _ _ _, .nils => some false
    | some (.map _ _), .nilmap, .nilmap => some true
    | some (.map _ _), .nilmap, .mp _ => some false
    | some (.map _ _), .mp _, .nilmap => some false
    | some (.func _ _ _), .nilfn, .nilfn => some true
    | some (.func _ _ _), .nilfn, .fn _ _ _ => some false
    | some (.func _ _ _), .fn _ _ _, .nilfn => some false
    | some (.interface _), .nilif, .nilif => some true
    | some (.interface _), .nilif, .iface _ _ => some false
    | some (.interface _), .iface _ _, .nilif => some false
    | some (.struct fs), .agg xs, .agg ys => match P.stoodInHeld T with
      | false => fieldsEq (fun f => partEq P (veq P d) f.type xs ys f.offset) fs.toList
      | true => none
    | some (.array n e), .agg xs, .agg ys => match szOf P e with
      | some sz => allEq (fun i => partEq P (veq P d) e xs ys (i * sz)) (List.range' 0 n)
      | none => none
    | some (.int _), a, b => eqLin a b
    | some (.pointer _), .nilp, .pp _ => some false
    | some (.pointer _), .pp _, .nilp => some false
    | some (.slice _), .nils, .pl _ _ _ => some false
    | some (.slice _), .pl _ _ _, .nils => some false
    | some (.interface _), .iface t x, .iface t' y => if t = t' then match (P.info? t).map (·.comparable) with
        | some true => veq P d t x y
        | _ => none
      else some false
    | _, _, _ => none
def isConstO : Operand → Bool
 | .const _ => true
 | _ => false
def eqOp (P : Program) (op : BinOp) (T : TypeId) (a b : V) : Option V :=
 match op with
 | .eql => (veq P 50 T a b).map .bool
 | .neq => (veq P 50 T a b).map fun t => .bool (!t)
 | _ => none
def eqKind : V → V → Nat
 | .any, _ => 0
 | .mod _ _, _ => 0
 | .anyb, _ => 0
 | .lin _ _ _, _ => 0
 | .sstr _, _ => 0
 | .bool _, .lin _ _ _ => 0
 | .bool _, .sstr _ => 0
 | .int _ _, .lin _ _ _ => 0
 | .int _ _, .sstr _ => 0
 | .str _, .lin _ _ _ => 0
 | .str _, .sstr _ => 0
 | .nilp, .lin _ _ _ => 0
 | .nilp, .sstr _ => 0
 | .anyp, .lin _ _ _ => 0
 | .anyp, .sstr _ => 0
 | .ptr _ _, .lin _ _ _ => 0
 | .ptr _ _, .sstr _ => 0
 | .gp _ _, .lin _ _ _ => 0
 | .gp _ _, .sstr _ => 0
 | .nils, .lin _ _ _ => 0
 | .nils, .sstr _ => 0
 | .sl _ _ _ _, .lin _ _ _ => 0
 | .sl _ _ _ _, .sstr _ => 0
 | .nilmap, .lin _ _ _ => 0
 | .nilmap, .sstr _ => 0
 | .mp _, .lin _ _ _ => 0
 | .mp _, .sstr _ => 0
 | .nilfn, .lin _ _ _ => 0
 | .nilfn, .sstr _ => 0
 | .fn _ _ _, .lin _ _ _ => 0
 | .fn _ _ _, .sstr _ => 0
 | .nilif, .lin _ _ _ => 0
 | .nilif, .sstr _ => 0
 | .iface _ _, .lin _ _ _ => 0
 | .iface _ _, .sstr _ => 0
 | .agg _, .lin _ _ _ => 0
 | .agg _, .sstr _ => 0
 | .tup _, .lin _ _ _ => 0
 | .tup _, .sstr _ => 0
 | .bool _, .anyb => 0
 | .int _ _, .anyb => 0
 | .str _, .anyb => 0
 | .nilp, .anyb => 0
 | .anyp, .anyb => 0
 | .ptr _ _, .anyb => 0
 | .gp _ _, .anyb => 0
 | .nils, .anyb => 0
 | .sl _ _ _ _, .anyb => 0
 | .nilmap, .anyb => 0
 | .mp _, .anyb => 0
 | .nilfn, .anyb => 0
 | .fn _ _ _, .anyb => 0
 | .nilif, .anyb => 0
 | .iface _ _, .anyb => 0
 | .agg _, .anyb => 0
 | .tup _, .anyb => 0
 | .bool _, .any => 0
 | .int _ _, .any => 0
 | .str _, .any => 0
 | .nilp, .any => 0
 | .anyp, .any => 0
 | .ptr _ _, .any => 0
 | .gp _ _, .any => 0
 | .nils, .any => 0
 | .sl _ _ _ _, .any => 0
 | .nilmap, .any => 0
 | .mp _, .any => 0
 | .nilfn, .any => 0
 | .fn _ _ _, .any => 0
 | .nilif, .any => 0
 | .iface _ _, .any => 0
 | .agg _, .any => 0
 | .tup _, .any => 0
 | .bool _, .mod _ _ => 0
 | .int _ _, .mod _ _ => 0
 | .str _, .mod _ _ => 0
 | .nilp, .mod _ _ => 0
 | .anyp, .mod _ _ => 0
 | .ptr _ _, .mod _ _ => 0
 | .gp _ _, .mod _ _ => 0
 | .nils, .mod _ _ => 0
 | .sl _ _ _ _, .mod _ _ => 0
 | .nilmap, .mod _ _ => 0
 | .mp _, .mod _ _ => 0
 | .nilfn, .mod _ _ => 0
 | .fn _ _ _, .mod _ _ => 0
 | .nilif, .mod _ _ => 0
 | .iface _ _, .mod _ _ => 0
 | .agg _, .mod _ _ => 0
 | .tup _, .mod _ _ => 0
 | .int _ _, .int _ _ => 0
 | .str _, .str _ => 0
 | .nilif, .nilif => 1
 | .agg _, .agg _ => 2
 | _, _ => 3
def vbinE (P : Program) (op : BinOp) (T : TypeId) (c : Bool) (a b : V) : Option V :=
 match vbin P op T a b with
 | some v => some v
 | none => match eqKind a b with
  | 1 => match c with
   | true => eqOp P op T a b
   | false => none
  | 2 => match P.eqGuardType P.depth T with
   | false => eqOp P op T a b
   | true => none
  | 3 => eqOp P op T a b
  | _ => none
def opConv (P : Program) (src dst : TypeId) (a : V) : Option V :=
 match P.underlying src, P.underlying dst, a with
 | some _, some (.int k), .int _ n => some (.int k (k.wrap n))
 | some (.int _), some .string, .int _ n => some (.str (Utf8.encode n).data.toList)
 | some .string, some .string, .str l => some (.str l)
 | _, _, _ => none
def rdAll (rd : Operand → Option V) : List Operand → Option (List V)
 | [] => some []
 | x :: r => match rd x, rdAll rd r with
  | some a, some l => some (a :: l)
  | _, _ => none
def optRd (rd : Operand → Option V) : Option Operand → Option (Option V)
 | none => some none
 | some x => (rd x).map some
def opExtract (a : V) (i : Nat) : Option V :=
 match a with
 | .tup vs => vs[i]?
 | _ => none
def opMkIface (P : Program) (T : TypeId) (a : V) : Option V :=
 match P.underlying T with
 | some (.interface _) => none
 | some _ => some (.iface T a)
 | none => none
def pop (P : Program) (rd : Operand → Option V) : Op → Option V
 | .move x => rd x
 | .assign x => rd x
 | .pick c a b => match rd c with
  | some (.bool t) => if t then rd a else rd b
  | _ => none
 | .nilCheck x => match rd x with
  | some (.ptr a o) => some (.ptr a o)
  | some (.gp a o) => some (.gp a o)
  | some (.iface t v) => some (.iface t v)
  | some (.fn f a b) => some (.fn f a b)
  | some (.pp cs) => some (.pp cs)
  | _ => none
 | .binOp op T x y _ => match rd x, rd y with
  | some a, some b => vbinE P op T (isConstO x || isConstO y) a b
  | _, _ => none
 | .unOp op _ x => match rd x with
  | some a => vun op a
  | _ => none
 | .fieldAddr T x f => match rd x with
  | some a => opFieldAddr P T a f
  | none => none
 | .field T x f => match rd x with
  | some a => opField P T a f
  | none => none
 | .indexAddr T x i => match rd x, rd i with
  | some a, some b => opIndexAddr P T a b
  | _, _ => none
 | .index T x i => match rd x, rd i with
  | some a, some b => opIndex P T a b
  | _, _ => none
 | .slice T x lo hi none => match rd x, optRd rd lo, optRd rd hi with
  | some a, some l, some h => opSlice P T a l h
  | _, _, _ => none
 | .convert src dst x => match rd x with
  | some a => opConv P src dst a
  | none => none
 | .extract x i => match rd x with
  | some a => opExtract a i
  | none => none
 | .makeInterface T x => match rd x with
  | some a => opMkIface P T a
  | none => none
 | .makeFunc (.func f) first caps => match rdAll rd first.toList, rdAll rd caps.toList with
  | some a, some b => some (.fn f a b)
  | _, _ => none
 | .call { callee := .builtin .len, args, argTypes } => match rdAll rd args.toList with
  | some [a] => opLen P argTypes a
  | _ => none
 | .call { callee := .builtin .max, args, .. } => match rdAll rd args.toList with
  | some l => vmax (fun x y => if y > x then y else x) l
  | none => none
 | .call { callee := .builtin .min, args, .. } => match rdAll rd args.toList with
  | some l => vmax (fun x y => if y < x then y else x) l
  | none => none
 | _ => none
section
variable {P : Program} {R : Ren} {w : World}
theorem opLen_sound {argTypes : Array TypeId} {a x : V} {u : Value} {T : TypeId} (ha : VR R a u) (h : opLen P argTypes a = some x) :
  ∃ y, (Builtin.len_ argTypes T #[u]).run P w = .ok y w ∧ VR R x y := by
 unfold opLen at h
 split at h
 ·rename_i T' hT
  split at h
  ·rename_i l hu
   cases ha.str_inv
   simp only [Option.some.injEq] at h; subst h
   refine ⟨_, ?_, (.int _ _)⟩
   simp [Builtin.len_, hT, run_underlying hu, goInt]
   rfl
  ·rename_i e hu
   simp only [Option.some.injEq] at h; subst h
   cases ha
   refine ⟨_, ?_, (.int _ _)⟩
   simp [Builtin.len_, hT, run_underlying hu, goInt]
  ·rename_i e a0 o0 n0 s0 hu
   simp only [Option.some.injEq] at h; subst h
   cases ha
   ·refine ⟨_, ?_, (.int _ _)⟩
    simp [Builtin.len_, hT, run_underlying hu, goInt]
   ·refine ⟨_, ?_, (.int _ _)⟩
    simp [Builtin.len_, hT, run_underlying hu, goInt]
  ·rename_i n e hu
   simp only [Option.some.injEq] at h; subst h
   refine ⟨_, ?_, (.int _ _)⟩
   simp [Builtin.len_, hT, run_underlying hu, goInt]
  ·rename_i k e hu
   simp only [Option.some.injEq] at h; subst h
   cases ha
   refine ⟨_, ?_, (.int _ _)⟩
   simp [Builtin.len_, hT, run_underlying hu, goInt]
  ·rename_i e n0 s0 c0 hu
   simp only [Option.some.injEq] at h; subst h
   cases ha
   ·refine ⟨_, ?_, (.int _ _)⟩
    simp [Builtin.len_, hT, run_underlying hu, goInt]
   ·refine ⟨_, ?_, (.int _ _)⟩
    simp [Builtin.len_, hT, run_underlying hu, goInt]
  ·cases h
 ·cases h
theorem vpart_sound {T : TypeId} {cs : List V} {arr : Array Value} {off sz : Nat} {ag : Bool} {x : V} (hr : VRs R cs arr.toList) (hs : szOf P T = some sz) (hg : isAggT P T = some ag) (h : vpart cs off sz ag = some x) :
  ∃ y, (part T arr off).run P w = .ok y w ∧ VR R x y := by
 unfold vpart at h
 cases ag with
 | true =>
  simp only [if_true] at h
  split at h
  ·rename_i hle
   simp only [Option.some.injEq] at h; subst h
   refine ⟨.agg (arr.extract off (off + sz)), ?_, ?_⟩
   ·simp only [part, Sem.run_bind, run_isAgg hg, Result.andThen_ok, if_true, run_sizeOf hs]; rfl
   ·refine VRs.agg ?_
    have : (arr.extract off (off + sz)).toList = (arr.toList.drop off).take sz := by simp
    rw [this]
    exact (hr.drop off).take sz
  ·cases h
 | false =>
  simp only [Bool.false_eq_true, if_false] at h
  obtain ⟨u, hu, hv⟩ := hr.get h
  have ha : arr[off]? = some u := by simpa using hu
  exact ⟨u, by simp only [part, Sem.run_bind, run_isAgg hg, Result.andThen_ok, Bool.false_eq_true, if_false, ha]; rfl, hv⟩
theorem opIndex_sound {T : TypeId} {a i x : V} {u v : Value} (ha : VR R a u) (hi : VR R i v) (h : opIndex P T a i = some x) :
  ∃ y, (Instr.index T u v).run P w = .ok y w ∧ VR R x y := by
 unfold opIndex at h
 split at h
 ·rename_i l k n hT
  cases ha.str_inv; cases hi.int_inv
  split at h
  ·rename_i h0
   simp only [Option.map_eq_some_iff] at h
   obtain ⟨c, hc, rfl⟩ := h
   refine ⟨.int .u8 c.toNat, ?_, (.int _ _)⟩
   have e : (ByteArray.mk l.toArray)[n.toNat]? = some c := by
    obtain ⟨hlt, he⟩ := List.getElem?_eq_some_iff.1 hc
    have hsz : n.toNat < (ByteArray.mk l.toArray).size := by show n.toNat < l.toArray.size; simpa using hlt
    rw [getElem?_pos (ByteArray.mk l.toArray) n.toNat hsz]
    show some (l.toArray[n.toNat]) = some c
    simp [he]
   simp [Instr.index, asIntOf, run_underlying hT, h0, e]
  ·cases h
 ·rename_i len e cs k n hT
  obtain ⟨arr, rfl, hr⟩ := ha.agg_inv
  cases hi.int_inv
  split at h
  ·rename_i sz ag hs hg
   split at h
   ·rename_i hb
    obtain ⟨y, hy, hd⟩ := vpart_sound (w := w) hr hs hg h
    refine ⟨y, ?_, ?_⟩
    ·have : 0 ≤ n ∧ n < len := ⟨hb.1, by omega⟩
     simp [Instr.index, asIntOf, run_underlying hT, this, run_sizeOf hs, hy]
    ·exact hd
   ·cases h
  ·cases h
 ·cases h
theorem vfield_sound {a x : V} {u : Value} {off : Nat} (ha : VR R a u) (h : vfield off a = some x) :
  ∃ b o, u = .pointer (some ⟨b, o, none⟩) ∧ VR R x (.pointer (some ⟨b, o + off, none⟩)) := by
 unfold vfield at h
 split at h
 ·simp only [Option.some.injEq] at h; subst h
  obtain ⟨L, hL, rfl⟩ := ha.ptr_inv
  exact ⟨_, _, rfl, by rw [Nat.add_assoc]; exact .ptr _ _ L hL⟩
 ·simp only [Option.some.injEq] at h; subst h
  cases ha
  exact ⟨_, _, rfl, .gp _ _⟩
 ·simp only [Option.some.injEq] at h; subst h
  cases ha with
  | pp b o xs m hm hl hr =>
   refine ⟨b, o, rfl, .pp b (o + off) _ m hm (fun i hi => ?_) fun i x u hx hu => ?_⟩
   ·rw [List.length_drop] at hi
    have := hl (off + i) (by omega)
    omega
   ·rw [List.getElem?_drop] at hx
    exact hr _ x u hx (by rw [← Nat.add_assoc]; exact hu)
 ·cases h
theorem opFieldAddr_sound {T : TypeId} {f : Nat} {a x : V} {u : Value} (ha : VR R a u) (h : opFieldAddr P T a f = some x) :
  ∃ y, (Instr.fieldAt T u f).run P w = .ok y w ∧ VR R x y := by
 unfold opFieldAddr at h
 split at h
 ·rename_i off ft hb
  split at h
  ·rename_i n hs
   obtain ⟨b, o, rfl, hx⟩ := vfield_sound ha h
   refine ⟨_, ?_, hx⟩
   unfold bfield at hb
   split at hb
   ·rename_i fs hT
    split at hb
    ·rename_i fd hf
     simp only [Option.some.injEq, Prod.mk.injEq] at hb
     obtain ⟨rfl, rfl⟩ := hb
     simp [Instr.fieldAt, run_underlying hT, hf, Instr.sureAddr, fieldPlace, run_sizeOf hs, add_none]
    ·cases hb
   ·cases hb
  ·cases h
 ·cases h
theorem opField_sound {T : TypeId} {f : Nat} {a x : V} {u : Value} (ha : VR R a u) (h : opField P T a f = some x) :
  ∃ y, (Instr.field T u f).run P w = .ok y w ∧ VR R x y := by
 unfold opField at h
 split at h
 ·rename_i off ft cs hb
  obtain ⟨arr, rfl, hr⟩ := ha.agg_inv
  split at h
  ·rename_i sz ag hs hg
   obtain ⟨y, hy, hd⟩ := vpart_sound (w := w) hr hs hg h
   refine ⟨y, ?_, ?_⟩
   ·unfold bfield at hb
    split at hb
    ·rename_i fs hT
     split at hb
     ·rename_i fd hf
      simp only [Option.some.injEq, Prod.mk.injEq] at hb
      obtain ⟨rfl, rfl⟩ := hb
      simp [Instr.field, run_underlying hT, hf, asAgg, hy]
     ·cases hb
    ·cases hb
   ·exact hd
  ·cases h
 ·cases h
theorem opIndexAddr_sound {T : TypeId} {a i x : V} {u v : Value} (ha : VR R a u) (hi : VR R i v) (h : opIndexAddr P T a i = some x) :
  ∃ y, (Instr.indexAt T u v).run P w = .ok y w ∧ VR R x y := by
 unfold opIndexAddr at h
 split at h
 ·rename_i e k n hT
  cases hi.int_inv
  split at h
  ·rename_i sz b o len sz' hs
   split at h
   ·rename_i hc
    simp only [Option.some.injEq] at h; subst h
    obtain ⟨h0, h1, rfl⟩ := hc
    cases ha with
    | sl _ _ _ _ c L hL hcc hl =>
     refine ⟨.pointer (some ⟨L.b, L.base + o + n.toNat * sz, none⟩), ?_, by rw [Nat.add_assoc]; exact .ptr _ _ L hL⟩
     have : 0 ≤ n ∧ n < len := ⟨h0, by omega⟩
     simp [Instr.indexAt, asIntOf, run_underlying hT, this, run_sizeOf hs, add_none]
    | sl0 => omega
   ·cases h
  ·rename_i sz len sz' cs hs
   split at h
   ·rename_i hc
    simp only [Option.some.injEq] at h; subst h
    obtain ⟨h0, h1, rfl⟩ := hc
    cases ha with
    | pl _ _ c b o _ m hm hcc hn hl hr =>
     have hle : n.toNat * sz + sz ≤ len * sz := by
      have := Nat.mul_le_mul_right sz (show n.toNat + 1 ≤ len from h1)
      rw [Nat.add_mul, Nat.one_mul] at this; exact this
     refine ⟨.pointer (some ⟨b, o + n.toNat * sz, none⟩), ?_, .pp b _ _ m hm (fun i hi => by rw [List.length_take, List.length_drop] at hi; omega) fun i x u hx hu => ?_⟩
     ·have : 0 ≤ n ∧ n < len := ⟨h0, by omega⟩
      simp [Instr.indexAt, asIntOf, run_underlying hT, this, run_sizeOf hs, add_none]
     ·rw [List.getElem?_take] at hx
      split at hx
      ·rw [List.getElem?_drop] at hx
       exact hr _ x u hx (by rw [← Nat.add_assoc]; exact hu)
      ·cases hx
    | pl0 => omega
   ·cases h
  ·cases h
 ·rename_i len e k n hT
  cases hi.int_inv
  split at h
  ·rename_i sz hs
   split at h
   ·rename_i hb
    obtain ⟨b, o, rfl, hx⟩ := vfield_sound ha h
    refine ⟨_, ?_, hx⟩
    have : 0 ≤ n ∧ n < len := ⟨hb.1, by omega⟩
    simp [Instr.indexAt, asIntOf, run_underlying hT, Instr.sureAddr, this, run_sizeOf hs, add_none]
   ·cases h
  ·cases h
 ·cases h
def OptVR (R : Ren) : Option V → Option Value → Prop
 | none, none => True
 | some a, some v => VR R a v
 | _, _ => False
theorem vbound_sound {o : Option V} {ov : Option Value} {len cap n d : Nat} {code : BoundsCode} (hle : len ≤ cap)
  (ho : OptVR R o ov) (h : vbound len o d = some n) :
  match ov with
  | none => n = d
  | some v => (Instr.sliceBound v cap code).run P w = .ok n w ∧ n ≤ len := by
 unfold vbound at h
 split at h
 ·cases ov with
  | none => simpa using h.symm
  | some v => exact ho.elim
 ·rename_i k n'
  cases ov with
  | none => exact ho.elim
  | some v =>
   cases VR.int_inv ho
   split at h
   ·rename_i hb
    simp only [Option.some.injEq] at h; subst h
    have : 0 ≤ n' ∧ n' ≤ cap := ⟨hb.1, by omega⟩
    refine ⟨?_, hb.2⟩
    simp [Instr.sliceBound, asIntOf, this]
   ·cases h
 ·cases h
theorem sliceBounds_sound {lo hi : Option V} {vlo vhi : Option Value} {isS : Bool} {len cap a h : Nat} (hle : len ≤ cap)
  (hlo : OptVR R lo vlo)
  (hhi : OptVR R hi vhi)
  (h1 : vbound len hi len = some h) (h2 : vbound h lo 0 = some a) :
  (Instr.sliceBounds isS len cap vlo vhi none).run P w = .ok (a, h, cap) w ∧ a ≤ h ∧ h ≤ len := by
 have k1 := vbound_sound (P := P) (w := w) (cap := cap) (code := if isS then .sliceAcap else .sliceAlen) hle hhi h1
 have k2 := vbound_sound (P := P) (w := w) (cap := h) (code := .sliceB) (Nat.le_refl _) hlo h2
 cases vhi with
 | none =>
  simp only at k1; subst k1
  cases vlo with
  | none => simp only at k2; subst k2; exact ⟨by simp [Instr.sliceBounds], Nat.zero_le _, Nat.le_refl _⟩
  | some v => simp only at k2; exact ⟨by simp [Instr.sliceBounds, k2.1], k2.2, Nat.le_refl _⟩
 | some u =>
  simp only at k1
  cases vlo with
  | none => simp only at k2; subst k2; exact ⟨by simp [Instr.sliceBounds, k1.1], Nat.zero_le _, k1.2⟩
  | some v => simp only at k2; exact ⟨by simp [Instr.sliceBounds, k1.1, k2.1], k2.2, k1.2⟩
theorem opSlice_sound {T : TypeId} {a x : V} {lo hi : Option V} {u : Value} {vlo vhi : Option Value} (ha : VR R a u)
    (hlo : OptVR R lo vlo) (hhi : OptVR R hi vhi) (h : opSlice P T a lo hi = some x) :
    ∃ y, (Instr.sliceAt T u vlo vhi none).run P w = .ok y w ∧ VR R x y := by
  unfold opSlice at h
  split at h
  · rename_i l hT
    cases ha.str_inv
    split at h
    · rename_i hb h1
      split at h
      · rename_i ab h2
        simp only [Option.some.injEq] at h; subst h
        have hsz : (ByteArray.mk l.toArray).size = l.length := by show l.toArray.size = _; simp
        obtain ⟨hs, hle, hle2⟩ := sliceBounds_sound (P := P) (isS := false) (cap := l.length) (Nat.le_refl _) hlo hhi h1 h2 (w := w)
        refine ⟨.string ((ByteArray.mk l.toArray).extract ab hb), ?_, ?_⟩
        · simp [Instr.sliceAt, run_underlying hT, Instr.slice, hsz, hs]
        · have e : (ByteArray.mk l.toArray).extract ab hb = ⟨((l.take hb).drop ab).toArray⟩ := by
            apply ByteArray.ext
            simp [ByteArray.data_extract, List.extract_eq_take_drop, List.drop_take]
          rw [e]; exact .str _
      · cases h
    · cases h
  · rename_i e b o n sz hT
    split at h
    · rename_i sz' hs
      split at h
      · rename_i hse
        subst hse
        split at h
        · rename_i hb h1
          split at h
          · rename_i ab h2
            simp only [Option.some.injEq] at h; subst h
            cases ha with
            | sl _ _ _ _ c L hL hcc hl =>
              obtain ⟨hsl, hle, hle2⟩ := sliceBounds_sound (P := P) (isS := true) (cap := c) hcc hlo hhi h1 h2 (w := w)
              refine ⟨.slice (if c = ab then some ⟨L.b, L.base + o, none⟩ else some ⟨L.b, L.base + o + ab * sz, none⟩) (hb - ab) (c - ab), ?_, ?_⟩
              · simp only [Instr.sliceAt, Sem.run_bind, run_underlying hT, Result.andThen_ok, Instr.slice, hsl, run_sizeOf hs, Option.map_some, add_none]
                rfl
              · split
                · rename_i hc; subst hc
                  obtain rfl : hb = c := by omega
                  rw [Nat.sub_self]
                  exact .sl0 _ _ _ _
                · rw [Nat.add_assoc]
                  refine .sl _ _ _ _ _ L hL (by omega) ?_
                  have : ab * sz + (c - ab) * sz = c * sz := by rw [← Nat.add_mul]; congr 1; omega
                  omega
            | sl0 _ _ _ y =>
              obtain ⟨hsl, hle, hle2⟩ := sliceBounds_sound (P := P) (isS := true) (cap := 0) (Nat.le_refl _) hlo hhi h1 h2 (w := w)
              obtain rfl : hb = 0 := by omega
              obtain rfl : ab = 0 := by omega
              refine ⟨.slice (some y) 0 0, ?_, .sl0 _ _ _ _⟩
              simp only [Instr.sliceAt, Sem.run_bind, run_underlying hT, Result.andThen_ok, Instr.slice, hsl, run_sizeOf hs]
              rfl
          · cases h
        · cases h
      · cases h
    · cases h
  · rename_i e hT
    split at h
    · rename_i sz' hb hs h1
      split at h
      · rename_i ab h2
        simp only [Option.some.injEq] at h; subst h
        cases ha
        obtain ⟨hsl, hle, hle2⟩ := sliceBounds_sound (P := P) (isS := true) (cap := 0) (Nat.le_refl _) hlo hhi h1 h2 (w := w)
        obtain rfl : hb = 0 := by omega
        obtain rfl : ab = 0 := by omega
        refine ⟨.slice none 0 0, ?_, .nils⟩
        simp only [Instr.sliceAt, Sem.run_bind, run_underlying hT, Result.andThen_ok, Instr.slice, hsl, run_sizeOf hs]
        rfl
      · cases h
    · cases h
  · rename_i e n sz cs hT
    split at h
    · rename_i sz' hs
      split at h
      · rename_i hse
        subst hse
        split at h
        · rename_i hb h1
          split at h
          · rename_i ab h2
            simp only [Option.some.injEq] at h; subst h
            cases ha with
            | pl _ _ c b o _ m hm hcc hn hl hr =>
              obtain ⟨hsl, hle, hle2⟩ := sliceBounds_sound (P := P) (isS := true) (cap := c) hcc hlo hhi h1 h2 (w := w)
              refine ⟨.slice (if c = ab then some ⟨b, o, none⟩ else some ⟨b, o + ab * sz, none⟩) (hb - ab) (c - ab), ?_, ?_⟩
              · simp only [Instr.sliceAt, Sem.run_bind, run_underlying hT, Result.andThen_ok, Instr.slice, hsl, run_sizeOf hs, Option.map_some, add_none]
                rfl
              · split
                · rename_i hc; subst hc
                  obtain rfl : hb = c := by omega
                  rw [Nat.sub_self, Nat.zero_mul, List.take_zero]
                  exact .pl0 _ _ _
                · have hmul : ab * sz + (hb - ab) * sz ≤ n * sz := by
                    rw [← Nat.add_mul]; exact Nat.mul_le_mul_right sz (by omega)
                  refine .pl _ _ _ b _ _ m hm (by omega) (by rw [List.length_take, List.length_drop]; omega) (by rw [List.length_take, List.length_drop]; omega) fun i x u hx hu => ?_
                  rw [List.getElem?_take] at hx
                  split at hx
                  · rw [List.getElem?_drop] at hx
                    exact hr _ x u hx (by rw [← Nat.add_assoc]; exact hu)
                  · cases hx
            | pl0 _ c y =>
              obtain ⟨hsl, hle, hle2⟩ := sliceBounds_sound (P := P) (isS := true) (cap := c) (Nat.zero_le _) hlo hhi h1 h2 (w := w)
              obtain rfl : hb = 0 := by omega
              obtain rfl : ab = 0 := by omega
              refine ⟨.slice (if c = 0 then some y else some (y.add (0 * sz))) 0 (c - 0), ?_, ?_⟩
              · simp only [Instr.sliceAt, Sem.run_bind, run_underlying hT, Result.andThen_ok, Instr.slice, hsl, run_sizeOf hs]
                rfl
              · rw [Nat.sub_self, Nat.zero_mul, List.take_zero]
                split <;> exact .pl0 _ _ _
          · cases h
        · cases h
      · cases h
    · cases h
  · cases h
theorem opConv_sound {src dst : TypeId} {a x : V} {u : Value} (ha : VR R a u) (h : opConv P src dst a = some x) :
  ∃ y, (convert src dst u).run P w = .ok y w ∧ VR R x y := by
 unfold opConv at h
 split at h
 ·rename_i d k k' n h1 h2
  simp only [Option.some.injEq] at h; subst h
  cases ha.int_inv
  refine ⟨_, ?_, (.int _ _)⟩
  simp only [convert, Sem.run_bind, run_underlying h1, run_underlying h2, Result.andThen_ok]
  rfl
 ·rename_i k k' n h1 h2
  simp only [Option.some.injEq] at h; subst h
  cases ha.int_inv
  refine ⟨.string (Utf8.encode n), ?_, (VR.string _ _)⟩
  simp only [convert, Sem.run_bind, run_underlying h1, run_underlying h2, Result.andThen_ok]
  rfl
 ·rename_i l h1 h2
  simp only [Option.some.injEq] at h; subst h
  cases ha.str_inv
  refine ⟨_, ?_, (.str l)⟩
  simp only [convert, Sem.run_bind, run_underlying h1, run_underlying h2, Result.andThen_ok]
  rfl
 ·cases h
theorem rdAll_sound {rd : Operand → Option V} {ev : Operand → Value} (hρ : ∀ x a, rd x = some a → VR R a (ev x)) :
  ∀ (l : List Operand) (vs : List V), rdAll rd l = some vs → vs.length = l.length ∧ ∀ (i : Nat) x y, vs[i]? = some x → (l.map ev)[i]? = some y → VR R x y := by
 intro l
 induction l with
 | nil => intro vs h; simp only [rdAll, Option.some.injEq] at h; subst h; exact ⟨rfl, fun i x y h => by simp at h⟩
 | cons o r ih =>
  intro vs h
  simp only [rdAll] at h
  split at h
  ·rename_i a l' ha hr
   simp only [Option.some.injEq] at h; subst h
   obtain ⟨h1, h2⟩ := ih _ hr
   refine ⟨by simp [h1], fun i x y hx hy => ?_⟩
   cases i with
   | zero => simp at hx hy; subst hx hy; exact hρ _ _ ha
   | succ i => simp at hx hy; exact h2 i x y hx (by simpa using hy)
  ·cases h
theorem vmax_fold {f : Int → Int → Int} {g : Value → Value → Sem Value}
  (hg : ∀ k k' x y w', (g (.int k x) (.int k' y)).run P w' = .ok (.int k (f x y)) w') {x : V} :
  ∀ (vs : List V) (us : List Value) (a : V) (u : Value), VR R a u → vs.length = us.length → (∀ (i : Nat) x y, vs[i]? = some x → us[i]? = some y → VR R x y) →
   vs.foldlM (fun a b => match a, b with | .int k m, .int _ n => some (.int k (f m n)) | _, _ => none) a = some x → ∃ y, (us.foldlM g u).run P w = .ok y w ∧ VR R x y := by
 intro vs
 induction vs with
 | nil =>
  intro us a u h0 hl _ h
  obtain rfl : us = [] := by cases us with | nil => rfl | cons _ _ => simp at hl
  simp at h; subst h
  exact ⟨u, rfl, h0⟩
 | cons b vs ih =>
  intro us a u h0 hl hr h
  cases us with
  | nil => simp at hl
  | cons u' us =>
   simp only [List.foldlM_cons] at h
   have hb := hr 0 b u' rfl rfl
   cases a <;> simp only [Option.bind_eq_bind, Option.bind_none, reduceCtorEq] at h
   rename_i k m
   cases b <;> simp only [Option.bind_none, Option.bind_some, reduceCtorEq] at h
   rename_i k' n
   cases h0.int_inv; cases hb.int_inv
   obtain ⟨y, h2, h3⟩ := ih us (.int k (f m n)) (.int k (f m n)) ((.int _ _)) (by simpa using hl) (fun i x y hx hy => hr (i + 1) x y (by simpa using hx) (by simpa using hy)) h
   refine ⟨y, ?_, h3⟩
   rw [List.foldlM_cons, Sem.run_bind, hg, Result.andThen_ok, h2]
theorem vmax_sound {f : Int → Int → Int} {g : Value → Value → Sem Value}
  (hg : ∀ k k' x y w', (g (.int k x) (.int k' y)).run P w' = .ok (.int k (f x y)) w')
  {vs : List V} {us : List Value} {x : V} (hl : vs.length = us.length) (hr : ∀ (i : Nat) x y, vs[i]? = some x → us[i]? = some y → VR R x y) (h : vmax f vs = some x) :
  ∃ u r y, us = u :: r ∧ (r.foldlM g u).run P w = .ok y w ∧ VR R x y := by
 cases vs with
 | nil => simp [vmax] at h
 | cons a vs =>
  cases us with
  | nil => simp at hl
  | cons u us =>
   simp only [vmax] at h
   obtain ⟨y, h1, h2⟩ := vmax_fold hg vs us a u (hr 0 a u rfl rfl) (by simpa using hl) (fun i x y hx hy => hr (i + 1) x y (by simpa using hx) (by simpa using hy)) h
   exact ⟨u, us, y, rfl, h1, h2⟩
theorem optRd_sound {rd : Operand → Option V} {ev : Operand → Value} (hρ : ∀ x a, rd x = some a → VR R a (ev x)) {o : Option Operand} {r : Option V} (h : optRd rd o = some r) :
  OptVR R r (o.map ev) := by
 cases o with
 | none => simp only [optRd, Option.some.injEq] at h; subst h; trivial
 | some x =>
  simp only [optRd, Option.map_eq_some_iff] at h
  obtain ⟨a, ha, rfl⟩ := h
  exact hρ _ _ ha
omit [E : Amb] in
theorem allEq_run {f : Nat → Option Bool} {g : Nat → Sem Bool} : ∀ (l : List Nat) (t : Bool), (∀ i t, f i = some t → (g i).run P w = .ok t w) → allEq f l = some t →
    ((forIn l ((none : Option Bool), ()) (fun i _ => do
            let b ← g i
            if (!b) = true then pure (ForInStep.done (some false, ())) else pure (ForInStep.yield (none, ()))) : Sem (Option Bool × Unit)).run P w) = .ok (if t = true then (none, ()) else (some false, ())) w := by
  intro l
  induction l with
  | nil => intro t _ h; simp only [allEq, Option.some.injEq] at h; subst h; rfl
  | cons i r ih =>
    intro t hf h
    simp only [allEq] at h
    simp only [List.forIn_cons, Sem.run_bind]
    split at h
    · rename_i hi
      rw [hf i true hi]
      simp only [Result.andThen_ok, Bool.not_true, Bool.false_eq_true, if_false, Sem.run_pure]
      exact ih t hf h
    · rename_i hi
      simp only [Option.some.injEq] at h; subst h
      rw [hf i false hi]
      simp
    · cases h
omit [E : Amb] in
theorem fieldsEq_run {f : Field → Option Bool} {g : Field → Sem Bool} : ∀ (l : List Field) (t : Bool), (∀ i t, f i = some t → (g i).run P w = .ok t w) → fieldsEq f l = some t →
    ((forIn l ((none : Option Bool), ()) (fun x _ => if x.name ≠ "_" then do
            let b ← g x
            if (!b) = true then pure (ForInStep.done (some false, ())) else pure (ForInStep.yield (none, ()))
          else pure (ForInStep.yield (none, ()))) : Sem (Option Bool × Unit)).run P w) = .ok (if t = true then (none, ()) else (some false, ())) w := by
  intro l
  induction l with
  | nil => intro t _ h; simp only [fieldsEq, Option.some.injEq] at h; subst h; rfl
  | cons i r ih =>
    intro t hf h
    simp only [fieldsEq] at h
    simp only [List.forIn_cons, Sem.run_bind]
    by_cases hn : i.name ≠ "_"
    · rw [if_pos hn] at h ⊢
      simp only [Sem.run_bind]
      split at h
      · rename_i hi
        rw [hf i true hi]
        simp only [Result.andThen_ok, Bool.not_true, Bool.false_eq_true, if_false, Sem.run_pure]
        exact ih t hf h
      · rename_i hi
        simp only [Option.some.injEq] at h; subst h
        rw [hf i false hi]
        simp
      · cases h
    · rw [if_neg hn] at h ⊢
      simp only [Sem.run_pure, Result.andThen_ok]
      exact ih t hf h
theorem partEq_run {rec : TypeId → V → V → Option Bool} {d : Nat} (hrec : ∀ T a b u v t, VR R a u → VR R b v → rec T a b = some t → (Op.equalIn d T u v).run P w = .ok t w)
    {T : TypeId} {xs ys : List V} {us vs : Array Value} {off : Nat} {t : Bool} (hx : VRs R xs us.toList) (hy : VRs R ys vs.toList) (h : partEq P rec T xs ys off = some t) :
    (do let a ← part T us off
        let b ← part T vs off
        Op.equalIn d T a b : Sem Bool).run P w = .ok t w := by
  unfold partEq at h
  split at h
  · rename_i sz ag hs hg
    split at h
    · rename_i a b ha hb
      obtain ⟨u, r1, q1⟩ := vpart_sound (P := P) (w := w) hx hs hg ha
      obtain ⟨v, r2, q2⟩ := vpart_sound (P := P) (w := w) hy hs hg hb
      simp only [Sem.run_bind, r1, r2, Result.andThen_ok]
      exact hrec T a b u v t q1 q2 h
    · cases h
  · cases h
omit [E : Amb] in
theorem bytes_beq (a b : List UInt8) : ((ByteArray.mk a.toArray) == (ByteArray.mk b.toArray)) = decide (a = b) := by
 have : ((ByteArray.mk a.toArray) == (ByteArray.mk b.toArray)) = (a.toArray == b.toArray) := rfl
 rw [this, Bool.eq_iff_iff]
 simp
set_option maxHeartbeats 2000000 in
theorem veq_sound : ∀ (d m : Nat), d ≤ m → ∀ (T : TypeId) (a b : V) (u v : Value) (t : Bool), VR R a u → VR R b v → veq P d T a b = some t → (Op.equalIn m T u v).run P w = .ok t w := by
  intro d
  induction d with
  | zero => intro m _ T a b u v t _ _ h; cases h
  | succ d ih =>
    intro m hm T a b u v t ha hb h
    obtain ⟨m, rfl⟩ : ∃ k, m = k + 1 := ⟨m - 1, by omega⟩
    have ih' := ih m (by omega)
    simp only [veq] at h
    split at h <;> rename_i hT
    case h_9 =>
      split at h
      · rename_i hxy
        subst hxy
        split at h
        · rename_i n hsz
          simp only [Option.some.injEq] at h; subst h
          obtain ⟨L, hL, rfl⟩ := ha.ptr_inv
          obtain ⟨M, hM, rfl⟩ := hb.ptr_inv
          rw [hL] at hM; simp only [Option.some.injEq] at hM; subst hM
          unfold Op.equalIn
          simp only [Sem.run_bind, run_underlying hT, Result.andThen_ok, run_sizeOf hsz]
          rw [if_pos (by omega)]
          simp only [sameAddr, beq_self_eq_true, if_true, Sem.run_pure]
          congr 1
          rw [Bool.eq_iff_iff]
          simp
        · cases h
      · cases h
    case h_22 =>
      rename_i fs xs ys
      obtain ⟨us, rfl, hx⟩ := ha.agg_inv
      obtain ⟨vs, rfl, hy⟩ := hb.agg_inv
      split at h
      · rename_i hst
        have key := fieldsEq_run (P := P) (w := w) (g := fun f => do
          let a ← part f.type us f.offset
          let b ← part f.type vs f.offset
          Op.equalIn m f.type a b) fs.toList t (fun f t hf => partEq_run (fun T a b u v t h1 h2 h3 => ih' T a b u v t h1 h2 h3) hx hy hf) h
        unfold Op.equalIn
        simp only [Sem.run_bind, run_underlying hT, Result.andThen_ok, run_program, hst, Bool.false_eq_true, if_false]
        rw [← Array.forIn_toList]
        simp only [bind_assoc] at key
        rw [key]
        cases t <;> rfl
      · cases h
    case h_23 =>
      rename_i n e xs ys
      obtain ⟨us, rfl, hx⟩ := ha.agg_inv
      obtain ⟨vs, rfl, hy⟩ := hb.agg_inv
      split at h
      · rename_i sz hsz
        have key := allEq_run (P := P) (w := w) (g := fun i => do
          let a ← part e us (i * sz)
          let b ← part e vs (i * sz)
          Op.equalIn m e a b) (List.range' 0 n) t (fun i t hf => partEq_run (fun T a b u v t h1 h2 h3 => ih' T a b u v t h1 h2 h3) hx hy hf) h
        unfold Op.equalIn
        simp only [Sem.run_bind, run_underlying hT, Result.andThen_ok, run_sizeOf hsz]
        simp only [bind_assoc] at key
        rw [Std.Legacy.Range.forIn_eq_forIn_range']
        simp only [Std.Legacy.Range.size, Nat.sub_zero, Nat.add_sub_cancel, Nat.div_one]
        rw [key]
        cases t <;> rfl
      · cases h
    case h_2 =>
      rename_i k0 k x k' y
      cases ha.int_inv; cases hb.int_inv
      split at h
      · rename_i hk; subst hk
        simp only [Option.some.injEq] at h; subst h
        unfold Op.equalIn
        simp only [Sem.run_bind, run_underlying hT, Result.andThen_ok, if_true, Sem.run_pure, beq_decide]
      · cases h
    case h_3 =>
      cases ha.str_inv; cases hb.str_inv
      simp only [Option.some.injEq] at h; subst h
      unfold Op.equalIn
      simp only [Sem.run_bind, run_underlying hT, Result.andThen_ok, Sem.run_pure, bytes_beq]
    case h_24 =>
      rename_i hq
      obtain ⟨k, n, m, rfl, rfl, rfl⟩ := eqLin_sound ha hb h
      unfold Op.equalIn
      simp only [Sem.run_bind, run_underlying hq, Result.andThen_ok, if_true, Sem.run_pure, beq_decide]
    case h_29 =>
      cases ha with
      | iface _ _ u0 hx => cases hb with
        | iface _ _ v0 hy =>
          split at h
          · rename_i e
            subst e
            split at h
            · rename_i hc
              obtain ⟨info, hi, hc2⟩ := Option.map_eq_some_iff.1 hc
              unfold Op.equalIn
              simp only [Sem.run_bind, run_underlying hT, Result.andThen_ok, ne_eq, not_true_eq_false, if_false, run_typeInfo hi, hc2, Bool.not_true, Bool.false_eq_true]
              exact ih' _ _ _ _ _ _ hx hy h
            · cases h
          · rename_i hne
            simp only [Option.some.injEq] at h; subst h
            unfold Op.equalIn
            simp only [Sem.run_bind, run_underlying hT, Result.andThen_ok, ne_eq, hne, not_false_eq_true, if_true, Sem.run_pure]
    all_goals first
      | (cases h; done)
      | (simp only [Option.some.injEq] at h; subst h
         cases ha <;> cases hb <;> (unfold Op.equalIn; simp only [Sem.run_bind, run_underlying hT, Result.andThen_ok, Sem.run_pure]; try rfl))
theorem eqOp_sound {op : BinOp} {T : TypeId} {a b x : V} {u v : Value} (ox oy : Operand)
  (ha : VR R a u) (hb : VR R b v) (hk : eqKind a b ≠ 0) (hg : (eqGuard op T ox oy u v : Sem Unit).run P w = .ok () w) (h : eqOp P op T a b = some x) :
  ∃ y, (do eqGuard op T ox oy u v; binOp op T u v : Sem Value).run P w = .ok y w ∧ VR R x y := by
 have e1 : binOp .eql T u v = (do pure (.bool (← Op.equal T u v)) : Sem Value) := by
  cases ha <;> cases hb <;> first | rfl | exact absurd rfl hk
 have e2 : binOp .neq T u v = (do pure (.bool (!(← Op.equal T u v))) : Sem Value) := by
  cases ha <;> cases hb <;> first | rfl | exact absurd rfl hk
 rw [Sem.run_bind, hg, Result.andThen_ok]
 unfold eqOp at h
 split at h
 ·obtain ⟨t, ht, rfl⟩ := Option.map_eq_some_iff.1 h
  have hq := veq_sound (P := P) (w := w) 50 Op.maxDepth (by decide) T a b u v t ha hb ht
  refine ⟨.bool t, ?_, .bool t⟩
  rw [e1]
  simp only [Op.equal, Sem.run_bind, hq, Result.andThen_ok, Sem.run_pure]
 ·obtain ⟨t, ht, rfl⟩ := Option.map_eq_some_iff.1 h
  have hq := veq_sound (P := P) (w := w) 50 Op.maxDepth (by decide) T a b u v t ha hb ht
  refine ⟨.bool (!t), ?_, .bool _⟩
  rw [e2]
  simp only [Op.equal, Sem.run_bind, hq, Result.andThen_ok, Sem.run_pure]
 ·cases h
omit [E : Amb] in
theorem eqGuard_else {op : BinOp} {T : TypeId} {u v : Value} (ox oy : Operand) (hn : u = .nilIface → v = .nilIface → False) (ha : ∀ xs ys, u = .agg xs → v = .agg ys → False) :
    (eqGuard op T ox oy u v : Sem Unit).run P w = .ok () w := by
  unfold eqGuard
  split
  all_goals first
    | rfl
    | (simp only [Bool.not_true, Bool.false_eq_true, if_false]
       first
         | rfl
         | (split
            · exact absurd rfl (fun _ => hn rfl rfl)
            · exact absurd rfl (fun _ => ha _ _ rfl rfl)
            · rfl))
theorem eqGuard_other {op : BinOp} {T : TypeId} {a b : V} {u v : Value} (ox oy : Operand)
  (ha : VR R a u) (hb : VR R b v) (hk : eqKind a b = 3) : (eqGuard op T ox oy u v : Sem Unit).run P w = .ok () w := by
 refine eqGuard_else ox oy (fun e1 e2 => ?_) (fun xs ys e1 e2 => ?_)
 ·cases ha <;> cases hb <;> first | (simp [eqKind] at hk; done) | (cases e1; done) | (cases e2; done)
 ·cases ha <;> cases hb <;> first | (simp [eqKind] at hk; done) | (cases e1; done) | (cases e2; done)
omit [E : Amb] in
theorem eqGuard_agg {op : BinOp} {T : TypeId} {xs ys : Array Value} (ox oy : Operand) (hg : P.eqGuardType P.depth T = false) : (eqGuard op T ox oy (.agg xs) (.agg ys) : Sem Unit).run P w = .ok () w := by
  unfold eqGuard
  split
  all_goals first
    | rfl
    | (simp only [Bool.not_true, Bool.false_eq_true, if_false, Sem.run_bind, run_program, Result.andThen_ok, hg]
       rfl)
omit [E : Amb] in
theorem eqGuard_const {op : BinOp} {T : TypeId} (ox oy : Operand) (hc : (isConstO ox || isConstO oy) = true) : (eqGuard op T ox oy .nilIface .nilIface : Sem Unit).run P w = .ok () w := by
 cases ox <;> cases oy <;> first
  | (simp [isConstO] at hc; done)
  | (unfold eqGuard; split <;> first | rfl | (simp; done))
theorem vbinE_sound {op : BinOp} {T : TypeId} {a b x : V} {u v : Value} (ox oy : Operand)
  (ha : VR R a u) (hb : VR R b v) (h : vbinE P op T (isConstO ox || isConstO oy) a b = some x) :
  ∃ y, (do eqGuard op T ox oy u v; binOp op T u v : Sem Value).run P w = .ok y w ∧ VR R x y := by
 unfold vbinE at h
 split at h
 ·rename_i r hr
  simp only [Option.some.injEq] at h; subst h
  obtain ⟨y, h1, h2⟩ := vbin_sound (w := w) ox oy ha hb hr
  exact ⟨y, h1, h2⟩
 ·split at h
  ·rename_i hk
   split at h
   ·rename_i hc
    have hab : u = .nilIface ∧ v = .nilIface := by cases ha <;> cases hb <;> first | exact ⟨rfl, rfl⟩ | exact absurd hk (by simp [eqKind])
    refine eqOp_sound ox oy ha hb (by rw [hk]; decide) ?_ h
    obtain ⟨rfl, rfl⟩ := hab
    exact eqGuard_const ox oy hc
   ·cases h
  ·rename_i hk
   split at h
   ·rename_i hg
    have hab : ∃ xs ys, u = .agg xs ∧ v = .agg ys := by cases ha <;> cases hb <;> first | exact ⟨_, _, rfl, rfl⟩ | exact absurd hk (by simp [eqKind])
    refine eqOp_sound ox oy ha hb (by rw [hk]; decide) ?_ h
    obtain ⟨xs, ys, rfl, rfl⟩ := hab
    exact eqGuard_agg ox oy hg
   ·cases h
  ·rename_i hk
   exact eqOp_sound ox oy ha hb (by rw [hk]; decide) (eqGuard_other ox oy ha hb hk) h
  ·cases h
theorem pop_sound {rd : Operand → Option V} {ev : Operand → Value} (hρ : ∀ x a, rd x = some a → VR R a (ev x)) {o : Oper} {x : V}
  (h : pop P rd o.op = some x) : ∃ y, (execOp ev o).run P w = .ok (.value y) w ∧ VR R x y := by
 have lift : ∀ (s : Sem Value), (∃ y, s.run P w = .ok y w ∧ VR R x y) → ∃ y, (do pure (Next.value (← s)) : Sem Next).run P w = .ok (.value y) w ∧ VR R x y := by
  rintro s ⟨y, hy, hd⟩
  exact ⟨y, by simp only [Sem.run_bind, hy, Result.andThen_ok]; rfl, hd⟩
 unfold pop at h
 unfold execOp
 split at h
 ·rename_i a ho
  rw [ho]; exact ⟨_, rfl, hρ _ _ h⟩
 ·rename_i a ho
  rw [ho]; exact ⟨_, rfl, hρ _ _ h⟩
 ·rename_i c a b ho
  rw [ho]
  split at h
  ·rename_i t hc
   have e := (hρ _ _ hc).bool_inv
   have : (asBool (ev c)).run P w = .ok t w := by rw [e]; rfl
   simp only [Sem.run_bind, this, Result.andThen_ok]
   split at h
   ·rename_i ht; simp only [ht, if_true]; exact ⟨_, rfl, hρ _ _ h⟩
   ·rename_i ht; simp only [ht]; exact ⟨_, rfl, hρ _ _ h⟩
  ·cases h
 ·rename_i a ho
  rw [ho]
  split at h <;> simp only [Option.some.injEq, reduceCtorEq] at h <;> subst h
  all_goals
   rename_i hc
   have hr := hρ _ _ hc
   simp only
   generalize ev a = u at hr
   cases hr
  ·exact ⟨_, rfl, .ptr _ _ _ (by assumption)⟩
  ·exact ⟨_, rfl, .gp _ _⟩
  ·exact ⟨_, rfl, .iface _ _ _ (by assumption)⟩
  ·exact ⟨_, rfl, .fn _ _ _ _ _ (by assumption) (by assumption) (by assumption) (by assumption)⟩
  ·exact ⟨_, rfl, .pp _ _ _ _ (by assumption) (by assumption) (by assumption)⟩
 ·rename_i op T a b yt ho
  rw [ho]
  split at h
  ·rename_i a' b' ha hb
   obtain ⟨y, hy, hd⟩ := vbinE_sound a b (hρ _ _ ha) (hρ _ _ hb) h
   exact lift _ ⟨y, hy, hd⟩
  ·cases h
 ·rename_i op T a ho
  rw [ho]
  split at h
  ·rename_i a' ha
   obtain ⟨y, hy, hd⟩ := vun_sound (P := P) (hρ _ _ ha) h
   exact lift _ ⟨y, hy, hd⟩
  ·cases h
 ·rename_i T a f ho
  rw [ho]
  split at h
  ·rename_i a' ha; exact lift _ (opFieldAddr_sound (hρ _ _ ha) h)
  ·cases h
 ·rename_i T a f ho
  rw [ho]
  split at h
  ·rename_i a' ha; exact lift _ (opField_sound (hρ _ _ ha) h)
  ·cases h
 ·rename_i T a i ho
  rw [ho]
  split at h
  ·rename_i a' b' ha hb; exact lift _ (opIndexAddr_sound (hρ _ _ ha) (hρ _ _ hb) h)
  ·cases h
 ·rename_i T a i ho
  rw [ho]
  split at h
  ·rename_i a' b' ha hb; exact lift _ (opIndex_sound (hρ _ _ ha) (hρ _ _ hb) h)
  ·cases h
 ·rename_i T a lo hi ho
  rw [ho]
  split at h
  ·rename_i a' l' h' ha hl hh
   exact lift _ (opSlice_sound (hρ _ _ ha) (optRd_sound hρ hl) (optRd_sound hρ hh) h)
  ·cases h
 ·rename_i src dst a ho
  rw [ho]
  split at h
  ·rename_i a' ha; exact lift _ (opConv_sound (hρ _ _ ha) h)
  ·cases h
 ·rename_i a i ho
  rw [ho]
  split at h
  ·rename_i a' ha
   unfold opExtract at h
   split at h
   ·rename_i vs
    have hr := hρ _ _ ha
    obtain ⟨us, e, hv⟩ := hr.tup_inv
    obtain ⟨u, hu, hr2⟩ := hv.get h
    refine lift _ ⟨u, ?_, hr2⟩
    rw [e]
    have : us[i]? = some u := by simpa using hu
    simp [Instr.extract, this]
   ·cases h
  ·cases h
 ·rename_i T a ho
  rw [ho]
  split at h
  ·rename_i a' ha
   unfold opMkIface at h
   split at h
   ·cases h
   ·rename_i d hd hu
    simp only [Option.some.injEq] at h; subst h
    refine lift _ ⟨.iface T (ev a), ?_, .iface _ _ _ (hρ _ _ ha)⟩
    simp only [Instr.makeInterface, Sem.run_bind, run_underlying hu, Result.andThen_ok]
    cases d <;> first | rfl | exact absurd hu (hd _)
   ·cases h
  ·cases h
 ·rename_i f first caps ho
  rw [ho]
  split at h
  ·rename_i a b ha hb
   simp only [Option.some.injEq] at h; subst h
   obtain ⟨h1, h2⟩ := rdAll_sound hρ _ _ ha
   obtain ⟨h3, h4⟩ := rdAll_sound hρ _ _ hb
   refine lift _ ⟨.func (.func f) (first.map ev) (caps.map ev), rfl, .fn _ _ _ _ _ (by simpa using h1) (by simpa using h3) (fun i x u hx hu => h2 i x u hx (by simpa using hu)) (fun i x u hx hu => h4 i x u hx (by simpa using hu))⟩
  ·cases h
 ·rename_i args argTypes ho
  rw [ho]
  split at h
  ·rename_i a ha
   obtain ⟨h1, h2⟩ := rdAll_sound hρ _ _ ha
   obtain ⟨x0, hx0⟩ : ∃ x0, args.toList = [x0] := by
    cases hh : args.toList with
    | nil => rw [hh] at h1; simp at h1
    | cons x0 r => rw [hh] at h1; simp at h1; exact ⟨x0, by rw [h1.symm]⟩
   obtain rfl : args = #[x0] := by apply Array.toList_inj.1; simpa using hx0
   refine lift (Builtin.len_ argTypes o.type (#[x0].map ev)) ?_
   rw [show #[x0].map ev = #[ev x0] by simp]
   exact opLen_sound (h2 0 a (ev x0) rfl (by simp)) h
  ·cases h
 ·rename_i args argTypes ho
  rw [ho]
  split at h
  ·rename_i l ha
   obtain ⟨h1, h2⟩ := rdAll_sound hρ _ _ ha
   obtain ⟨u, r, y, e, hy, hd⟩ := vmax_sound (P := P) (g := Builtin.max2) (fun _ _ _ _ _ => rfl) (by simpa using h1) h2 h
   refine lift (Builtin.max_ argTypes o.type (args.map ev)) ⟨y, ?_, hd⟩
   simp only [Builtin.max_, Array.toList_map, e]
   exact hy
  ·cases h
 ·rename_i args argTypes ho
  rw [ho]
  split at h
  ·rename_i l ha
   obtain ⟨h1, h2⟩ := rdAll_sound hρ _ _ ha
   obtain ⟨u, r, y, e, hy, hd⟩ := vmax_sound (P := P) (g := Builtin.min2) (fun _ _ _ _ _ => rfl) (by simpa using h1) h2 h
   refine lift (Builtin.min_ argTypes o.type (args.map ev)) ⟨y, ?_, hd⟩
   simp only [Builtin.min_, Array.toList_map, e]
   exact hy
  ·cases h
 ·cases h
end
end Go.Proofs.YtkpoeilfnopgbaaGreatDoor.HM
