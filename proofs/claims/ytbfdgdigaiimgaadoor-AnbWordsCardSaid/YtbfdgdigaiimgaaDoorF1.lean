/- The fast machine, 1: its code and its steps, by direct recursors. -/
import Derived.Test.YtbfdgdigaiimgaaDoorH11
namespace Go.Proofs.YtbfdgdigaiimgaaDoor.HM
open Go Go.RowKit

inductive Ix where
  | z
  | s (i : Ix)
inductive Pa where
  | h
  | l (p : Pa)
  | r (p : Pa)
/-- an operand: what an operation of the same region gave; a slot; a constant -/
inductive FA where
  | st (i : Ix)
  | t (p : Pa)
  | c (v : V)
  /-- so far on from where that points -/
  | f (off : Nat) (a : FA)

inductive BF where
  | add | sub | mul | quo | rem | and | or | shl | shr | lss | leq | gtr | geq | eql | neq | no

inductive FO where
  | mv (a : FA)
  | pick (c a b : FA)
  | nilc (a : FA)
  | bin (f : BF) (op : BinOp) (T : Nat) (c : Bool) (a b : FA)
  | nt (a : FA)
  | un (op : UnOp) (a : FA)
  | faddr (off : Nat) (a : FA)
  | fld1 (off : Nat) (a : FA)
  | fldA (off sz : Nat) (a : FA)
  | iadr (sz : Nat) (a i : FA)
  | iadrA (len sz : Nat) (a i : FA)
  | idxS (a i : FA)
  | idxA (len sz : Nat) (ag : Bool) (a i : FA)
  | sliS (T : Nat) (a : FA) (lo hi : Option FA)
  | conv (k : IntKind) (a : FA)
  | ext (a : FA) (i : Nat)
  | mkif (T : Nat) (a : FA)
  | mkfn (f : Nat) (xs ys : List FA)
  | lenS (a : FA)
  | lenL (a : FA)
  | lenN (n : Nat)
  | ld1 (a : FA)
  | ldN (n : Nat) (a : FA)
  | sto (n : Nat) (a v : FA)
  | alloc (cs : List V) (T : Nat)
  | box (T : Nat) (a : FA)
  | bsl (zs : List V) (len sz : Nat) (ks : List Nat) (xs : List FA)
  | msl (T : Nat) (l c : FA)
  | rng (T : Nat) (a : FA)
  | nxt (a : FA)
  | app (e sz by_ : Nat) (x y : FA)
  | bld (zs : List V) (pl : List (Nat × Nat)) (ks : List Nat) (xs : List FA)
  | call (g : Nat) (xs : List FA)
  | slow (o : Op) (m : List (Nat × FA))

inductive FG where
  | on (a : FA) (w : Bool)
  | never

inductive FR where
  | nil
  | o (o : FO) (r : FR)
  | op (o : FO) (p : Pa) (r : FR)
  | g (g : FG) (o : FO) (d : Option Pa) (r : FR)
  | chk (a : FA) (r : FR)

inductive FC where
  | skip
  | reg (r : FR)
  | seq (a b : FC)
  | cond (c : FA) (a b : FC)
  | block (id : Nat) (b : FC)
  | loop (b : FC)
  | exit (id : Nat)
  | goto (l : Nat)
  | ret
  | regL (r : FR) (late early : List (Nat × Nat))
  | fork (a b : FR)
  | bad
  /-- a truth value that is drawn -/
  | forkB (T : Nat) (p q : Option Pa)

/-- what an operation gives -/
inductive OR where
  | no
  | v (x : V)
  | w (x : V) (h : Hp)
/-- what a region gives -/
inductive RR where
  | no
  | ok (t : Env) (h : Hp)
/-- what a piece of code gives -/
inductive XR where
  | no
  | n (t : Env) (h : Hp)
  | x (id : Nat) (t : Env) (h : Hp)
  | g (l : Nat) (t : Env) (h : Hp)
  | r (t : Env) (h : Hp)

noncomputable def Ix.get : Ix → List V → V := fun i => Ix.rec (motive := fun _ => List V → V)
  (fun st => List.rec (motive := fun _ => V) (.tup []) (fun x _ _ => x) st)
  (fun _ ih st => List.rec (motive := fun _ => V) (.tup []) (fun _ r _ => ih r) st) i
noncomputable def valO : Option V → V := fun o => Option.rec (motive := fun _ => V) (.tup []) (fun x => x) o
noncomputable def Pa.get : Pa → Env → V := fun p => Pa.rec (motive := fun _ => Env → V)
  (fun t => Tr.rec (motive := fun _ => V) (.tup []) (fun _ v _ _ _ => valO v) t)
  (fun _ ih t => Tr.rec (motive := fun _ => V) (.tup []) (fun l _ _ _ _ => ih l) t)
  (fun _ ih t => Tr.rec (motive := fun _ => V) (.tup []) (fun _ _ r _ _ => ih r) t) p
noncomputable def Pa.put : Pa → V → Env → Env := fun p => Pa.rec (motive := fun _ => V → Env → Env)
  (fun x t => Tr.rec (motive := fun _ => Env) (.node .leaf (some x) .leaf) (fun l _ r _ _ => .node l (some x) r) t)
  (fun _ ih x t => Tr.rec (motive := fun _ => Env) (.node (ih x .leaf) none .leaf) (fun l v r _ _ => .node (ih x l) v r) t)
  (fun _ ih x t => Tr.rec (motive := fun _ => Env) (.node .leaf none (ih x .leaf)) (fun l v r _ _ => .node l v (ih x r)) t) p
noncomputable def addV : V → Nat → V := fun v => V.rec (motive_1 := fun _ => Nat → V) (motive_2 := fun _ => Unit) (fun _ => fun _ => V.tup []) (fun _ _ => fun _ => V.tup []) (fun _ => fun _ => V.tup []) (fun _ => V.tup []) (fun _ => V.tup []) (fun a o => fun k => .ptr a (Nat.add o k)) (fun a o => fun k => .gp a (Nat.add o k)) (fun _ => V.tup []) (fun _ _ _ _ => fun _ => V.tup []) (fun _ => V.tup []) (fun _ => fun _ => V.tup []) (fun _ => V.tup []) (fun _ _ _ _ _ => fun _ => V.tup []) (fun _ => V.tup []) (fun _ _ _ => fun _ => V.tup []) (fun _ _ => fun _ => V.tup []) (fun _ _ => fun _ => V.tup []) (fun _ => V.tup []) (fun _ _ => fun _ => V.tup []) (fun _ => V.tup []) (fun _ _ _ => fun _ => V.tup []) (fun _ _ => fun _ => V.tup []) () (fun _ _ _ _ => ()) v
noncomputable def ptrB : V → Bool := fun v => V.rec (motive_1 := fun _ => Bool) (motive_2 := fun _ => Unit) (fun _ => false) (fun _ _ => false) (fun _ => false) (false) (false) (fun _a _o => true) (fun _a _o => true) (false) (fun _ _ _ _ => false) (false) (fun _ => false) (false) (fun _ _ _ _ _ => false) (false) (fun _ _ _ => false) (fun _ _ => false) (fun _ _ => false) (false) (fun _ _ => false) (false) (fun _ _ _ => false) (fun _ _ => false) () (fun _ _ _ _ => ()) v
noncomputable def FA.get : FA → List V → Env → V := fun a => FA.rec (motive := fun _ => List V → Env → V) (fun i st _ => i.get st) (fun p _ t => p.get t) (fun v _ _ => v) (fun off _ ih st t => addV (ih st t) off) a
noncomputable def getAll : List FA → List V → Env → List V := fun l => List.rec (motive := fun _ => List V → Env → List V) (fun _ _ => []) (fun a _ ih st t => a.get st t :: ih st t) l
noncomputable def getO : Option FA → List V → Env → Option V := fun o => Option.rec (motive := fun _ => List V → Env → Option V) (fun _ _ => none) (fun a st t => some (a.get st t)) o
noncomputable def putO : Option Pa → V → Env → Env := fun o => Option.rec (motive := fun _ => V → Env → Env) (fun _ t => t) (fun p x t => p.put x t) o

/-- the n-th -/
noncomputable def nthF {α : Type} : Nat → List α → Option α := fun n => Nat.rec (motive := fun _ => List α → Option α)
  (fun l => List.rec (motive := fun _ => Option α) none (fun x _ _ => some x) l)
  (fun _ ih l => List.rec (motive := fun _ => Option α) none (fun _ r _ => ih r) l) n
noncomputable def lenF {α : Type} : List α → Nat := fun l => List.rec (motive := fun _ => Nat) 0 (fun _ _ ih => Nat.add ih 1) l
noncomputable def dropF {α : Type} : Nat → List α → List α := fun n => Nat.rec (motive := fun _ => List α → List α)
  (fun l => l)
  (fun _ ih l => List.rec (motive := fun _ => List α) [] (fun _ r _ => ih r) l) n
noncomputable def takeF {α : Type} : Nat → List α → List α := fun n => Nat.rec (motive := fun _ => List α → List α)
  (fun _ => [])
  (fun _ ih l => List.rec (motive := fun _ => List α) [] (fun x r _ => x :: ih r) l) n
noncomputable def getT {α : Type} : Tr α → Nat → Option α := fun t => Tr.rec (motive := fun _ => Nat → Option α) (fun _ => none)
  (fun _ v _ ihl ihr i => Bool.rec (motive := fun _ => Option α) (Bool.rec (motive := fun _ => Option α) (ihr (Nat.sub (Nat.div i 2) 1)) (ihl (Nat.div i 2)) (Nat.beq (Nat.mod i 2) 1)) v (Nat.beq i 0)) t
noncomputable def putT {α : Type} (x : Option α) : Tr α → Nat → Tr α := fun t => Tr.rec (motive := fun _ => Nat → Tr α) (fun i => Tr.one x i i)
  (fun l v r ihl ihr i => Bool.rec (motive := fun _ => Tr α) (Bool.rec (motive := fun _ => Tr α) (.node l v (ihr (Nat.sub (Nat.div i 2) 1))) (.node (ihl (Nat.div i 2)) v r) (Nat.beq (Nat.mod i 2) 1)) (.node l x r) (Nat.beq i 0)) t

/-! ## Strict building: what is built stands there as it is, no longer to be reckoned -/
noncomputable def Pa.putK {β : Type} : Pa → V → Env → (Env → β) → β := fun p => Pa.rec (motive := fun _ => V → Env → (Env → β) → β)
  (fun x t k => Tr.rec (motive := fun _ => β) (k (.node .leaf (some x) .leaf)) (fun l _ r _ _ => k (.node l (some x) r)) t)
  (fun _ ih x t k => Tr.rec (motive := fun _ => β) (ih x .leaf (fun l' => k (.node l' none .leaf))) (fun l v r _ _ => ih x l (fun l' => k (.node l' v r))) t)
  (fun _ ih x t k => Tr.rec (motive := fun _ => β) (ih x .leaf (fun r' => k (.node .leaf none r'))) (fun l v r _ _ => ih x r (fun r' => k (.node l v r'))) t) p
noncomputable def putOK {β : Type} : Option Pa → V → Env → (Env → β) → β := fun o => Option.rec (motive := fun _ => V → Env → (Env → β) → β) (fun _ t k => k t) (fun p x t k => p.putK x t k) o
noncomputable def oneK {α β : Type} (x : Option α) : Nat → Nat → (Tr α → β) → β := fun f => Nat.rec (motive := fun _ => Nat → (Tr α → β) → β) (fun _ k => k (.node .leaf x .leaf)) (fun _ ih i k => Bool.rec (motive := fun _ => β) (Bool.rec (motive := fun _ => β) (ih (Nat.sub (Nat.div i 2) 1) (fun r' => k (.node .leaf none r'))) (ih (Nat.div i 2) (fun l' => k (.node l' none .leaf))) (Nat.beq (Nat.mod i 2) 1)) (k (.node .leaf x .leaf)) (Nat.beq i 0)) f
noncomputable def putK {α β : Type} (x : Option α) : Tr α → Nat → (Tr α → β) → β := fun t => Tr.rec (motive := fun _ => Nat → (Tr α → β) → β) (fun i k => oneK x i i k)
  (fun l v r ihl ihr i k => Bool.rec (motive := fun _ => β) (Bool.rec (motive := fun _ => β) (ihr (Nat.sub (Nat.div i 2) 1) (fun r' => k (.node l v r'))) (ihl (Nat.div i 2) (fun l' => k (.node l' v r))) (Nat.beq (Nat.mod i 2) 1)) (k (.node l x r)) (Nat.beq i 0)) t
noncomputable def appF {α : Type} : List α → List α → List α := fun l m => List.rec (motive := fun _ => List α) m (fun x _ ih => x :: ih) l
noncomputable def forceL {α β : Type} : List α → (List α → β) → β := fun l => List.rec (motive := fun _ => (List α → β) → β) (fun k => k []) (fun x _ ih k => ih (fun r' => k (x :: r'))) l
noncomputable def forceN {β : Type} : Nat → (Nat → β) → β := fun n => Nat.rec (motive := fun _ => (Nat → β) → β) (fun k => k 0) (fun m _ k => k (Nat.succ m)) n
noncomputable def forceBk {β : Type} : Option Blk → (Option Blk → β) → β := fun o => Option.rec (motive := fun _ => (Option Blk → β) → β) (fun k => k none)
  (fun b k => Blk.rec (motive := fun _ => β) (fun f fb fz xs => forceL xs (fun xs' => k (some (.cells f fb fz xs')))) (fun l p => k (some (.iter l p))) (fun es c => k (some (.mapo es c))) b) o
noncomputable def forceId {α β : Type} : Option α → (Option α → β) → β := fun o k => k o
/-- the way to one place -/
noncomputable def forceT {α β : Type} (fv : Option α → (Option α → β) → β) : Tr α → Nat → (Tr α → β) → β := fun t => Tr.rec (motive := fun _ => Nat → (Tr α → β) → β) (fun _ k => k .leaf)
  (fun l v r ihl ihr i k => Bool.rec (motive := fun _ => β) (Bool.rec (motive := fun _ => β) (ihr (Nat.sub (Nat.div i 2) 1) (fun r' => k (.node l v r'))) (ihl (Nat.div i 2) (fun l' => k (.node l' v r))) (Nat.beq (Nat.mod i 2) 1)) (fv v (fun v' => k (.node l v' r))) (Nat.beq i 0)) t
/-- the whole tree -/
noncomputable def forceA {α β : Type} (fv : Option α → (Option α → β) → β) : Tr α → (Tr α → β) → β := fun t => Tr.rec (motive := fun _ => (Tr α → β) → β) (fun k => k .leaf)
  (fun _ v _ ihl ihr k => ihl (fun l' => fv v (fun v' => ihr (fun r' => k (.node l' v' r'))))) t
noncomputable def forceTs {α β : Type} (fv : Option α → (Option α → β) → β) : List Nat → Tr α → (Tr α → β) → β := fun l => List.rec (motive := fun _ => Tr α → (Tr α → β) → β) (fun t k => k t) (fun i _ ih t k => forceT fv t i (fun t' => ih t' k)) l
noncomputable def forceH {β : Type} : Hp → List Nat → List Nat → List Nat → (Hp → β) → β := fun h => Hp.rec (motive := fun _ => List Nat → List Nat → List Nat → (Hp → β) → β)
  (fun n t f e ts fs es k => forceTs forceBk ts t (fun t' => forceTs forceId fs f (fun f' => forceTs forceId es e (fun e' => forceN n (fun n' => k ⟨n', t', f', e'⟩))))) h
noncomputable def forceHA {β : Type} : Hp → (Hp → β) → β := fun h => Hp.rec (motive := fun _ => (Hp → β) → β)
  (fun n t f e k => forceA forceBk t (fun t' => forceA forceId f (fun f' => forceA forceId e (fun e' => forceN n (fun n' => k ⟨n', t', f', e'⟩))))) h
/-- a new block of that type -/
noncomputable def newK : Hp → List V → Nat → OR := fun h => Hp.rec (motive := fun _ => List V → Nat → OR)
  (fun n t f e cs T => forceL cs (fun cs' => forceN n (fun n' => putK (some (.cells n' 0 0 cs')) t n' (fun t' => putK (some [(n', lenF cs')]) f n' (fun f' => putK (some (2 * T + 1)) e n' (fun e' => .w (.ptr n' 0) ⟨n' + 1, t', f', e'⟩)))))) h

noncomputable def newS : Hp → List V → Nat → Nat → OR := fun h => Hp.rec (motive := fun _ => List V → Nat → Nat → OR)
  (fun n t f e cs len sz => forceL cs (fun cs' => forceN n (fun n' => putK (some (.cells n' 0 0 cs')) t n' (fun t' => putK (some [(n', lenF cs')]) f n' (fun f' => .w (.sl n' 0 len sz) ⟨Nat.add n' 1, t', f', e⟩))))) h

noncomputable def oV : Option V → OR := fun o => Option.rec (motive := fun _ => OR) .no .v o
noncomputable def oP : Option (V × Option Hp) → OR := fun o => Option.rec (motive := fun _ => OR) .no (fun p => Prod.rec (motive := fun _ => OR) (fun x k => Option.rec (motive := fun _ => OR) (.v x) (.w x) k) p) o
/-- the same, with the ways to these places built -/
noncomputable def oPF : Option (V × Option Hp) → List Nat → List Nat → List Nat → OR := fun o ts fs es => Option.rec (motive := fun _ => OR) .no (fun p => Prod.rec (motive := fun _ => OR) (fun x k => Option.rec (motive := fun _ => OR) (.v x) (fun h => forceH h ts fs es (fun h' => .w x h')) k) p) o
noncomputable def oS : Option (V × Hp) → OR := fun o => Option.rec (motive := fun _ => OR) .no (fun p => Prod.rec (motive := fun _ => OR) (fun x k => .w x k) p) o

noncomputable def knum : IntKind → Nat := fun k => IntKind.rec (motive := fun _ => Nat) 0 1 2 3 4 5 6 7 k
noncomputable def kmax : IntKind → Nat := fun k => IntKind.rec (motive := fun _ => Nat) 127 32767 2147483647 9223372036854775807 255 65535 4294967295 18446744073709551615 k
noncomputable def kbits : IntKind → Nat := fun k => IntKind.rec (motive := fun _ => Nat) 8 16 32 64 8 16 32 64 k

inductive NV where
  | no
  | mk (k : IntKind) (n : Nat)
inductive SV where
  | no
  | mk (l : List UInt8)

noncomputable def asN : V → NV := fun v => V.rec (motive_1 := fun _ => NV) (motive_2 := fun _ => Unit) (fun _ => NV.no) (fun k n => Int.rec (motive := fun _ => NV) (fun m => NV.mk k m) (fun _ => NV.no) n) (fun _ => NV.no) (NV.no) (NV.no) (fun _ _ => NV.no) (fun _ _ => NV.no) (NV.no) (fun _ _ _ _ => NV.no) (NV.no) (fun _ => NV.no) (NV.no) (fun _ _ _ _ _ => NV.no) (NV.no) (fun _ _ _ => NV.no) (fun _ _ => NV.no) (fun _ _ => NV.no) (NV.no) (fun _ _ => NV.no) (NV.no) (fun _ _ _ => NV.no) (fun _ _ => NV.no) () (fun _ _ _ _ => ()) v
noncomputable def asS : V → SV := fun v => V.rec (motive_1 := fun _ => SV) (motive_2 := fun _ => Unit) (fun _ => SV.no) (fun _ _ => SV.no) (fun l => SV.mk l) (SV.no) (SV.no) (fun _ _ => SV.no) (fun _ _ => SV.no) (SV.no) (fun _ _ _ _ => SV.no) (SV.no) (fun _ => SV.no) (SV.no) (fun _ _ _ _ _ => SV.no) (SV.no) (fun _ _ _ => SV.no) (fun _ _ => SV.no) (fun _ _ => SV.no) (SV.no) (fun _ _ => SV.no) (SV.no) (fun _ _ _ => SV.no) (fun _ _ => SV.no) () (fun _ _ _ _ => ()) v

/-- both whole numbers from 0 on, of one kind -/
noncomputable def onNN : (IntKind → Nat → Nat → OR → OR) → OR → V → V → OR := fun f s a b => NV.rec (motive := fun _ => OR) s (fun k m => NV.rec (motive := fun _ => OR) s (fun k' n => Bool.rec (motive := fun _ => OR) s (f k m n s) (Nat.beq (knum k) (knum k'))) (asN b)) (asN a)
noncomputable def onMM : (IntKind → Nat → Nat → OR → OR) → OR → V → V → OR := fun f s a b => NV.rec (motive := fun _ => OR) s (fun k m => NV.rec (motive := fun _ => OR) s (fun _ n => f k m n s) (asN b)) (asN a)
noncomputable def onSS : (List UInt8 → List UInt8 → OR) → OR → V → V → OR := fun f s a b => SV.rec (motive := fun _ => OR) s (fun l => SV.rec (motive := fun _ => OR) s (fun m => f l m) (asS b)) (asS a)
noncomputable def held : IntKind → Nat → OR → OR := fun k n s => Bool.rec (motive := fun _ => OR) s (.v (.int k (.ofNat n))) (Nat.ble n (kmax k))
noncomputable def beqS : List UInt8 → List UInt8 → Bool := fun a => List.rec (motive := fun _ => List UInt8 → Bool) (fun b => List.rec (motive := fun _ => Bool) true (fun _ _ _ => false) b)
  (fun x _ ih b => List.rec (motive := fun _ => Bool) false (fun y r _ => Bool.rec (motive := fun _ => Bool) false (ih r) (Nat.beq x.toNat y.toNat)) b) a

noncomputable def fAdd : IntKind → Nat → Nat → OR → OR := fun k m n s => held k (Nat.add m n) s
noncomputable def fSub : IntKind → Nat → Nat → OR → OR := fun k m n s => Bool.rec (motive := fun _ => OR) s (held k (Nat.sub m n) s) (Nat.ble n m)
noncomputable def fMul : IntKind → Nat → Nat → OR → OR := fun k m n s => held k (Nat.mul m n) s
noncomputable def fQuo : IntKind → Nat → Nat → OR → OR := fun k m n s => Bool.rec (motive := fun _ => OR) (held k (Nat.div m n) s) s (Nat.beq n 0)
noncomputable def fRem : IntKind → Nat → Nat → OR → OR := fun k m n s => Bool.rec (motive := fun _ => OR) (.v (.int k (.ofNat (Nat.mod m n)))) s (Nat.beq n 0)
noncomputable def fAnd : IntKind → Nat → Nat → OR → OR := fun k m n s => Bool.rec (motive := fun _ => OR) s (Bool.rec (motive := fun _ => OR) s (.v (.int k (.ofNat (Nat.land m n)))) (Nat.ble n (kmax k))) (Nat.ble m (kmax k))
noncomputable def fOr : IntKind → Nat → Nat → OR → OR := fun k m n s => Bool.rec (motive := fun _ => OR) s (Bool.rec (motive := fun _ => OR) s (held k (Nat.lor m n) s) (Nat.ble n (kmax k))) (Nat.ble m (kmax k))
noncomputable def fShl : IntKind → Nat → Nat → OR → OR := fun k m n s => Bool.rec (motive := fun _ => OR) s (held k (Nat.mul m (Nat.pow 2 n)) s) (Nat.ble n (kbits k))
noncomputable def fShr : IntKind → Nat → Nat → OR → OR := fun k m n s => Bool.rec (motive := fun _ => OR) s (.v (.int k (.ofNat (Nat.div m (Nat.pow 2 n))))) (Nat.ble n (kbits k))
noncomputable def fLss : IntKind → Nat → Nat → OR → OR := fun _ m n _ => .v (.bool (Nat.ble (Nat.add m 1) n))
noncomputable def fLeq : IntKind → Nat → Nat → OR → OR := fun _ m n _ => .v (.bool (Nat.ble m n))
noncomputable def fGtr : IntKind → Nat → Nat → OR → OR := fun _ m n _ => .v (.bool (Nat.ble (Nat.add n 1) m))
noncomputable def fGeq : IntKind → Nat → Nat → OR → OR := fun _ m n _ => .v (.bool (Nat.ble n m))
noncomputable def fEql : IntKind → Nat → Nat → OR → OR := fun _ m n _ => .v (.bool (Nat.beq m n))
noncomputable def fNeq : IntKind → Nat → Nat → OR → OR := fun _ m n _ => .v (.bool (Bool.rec (motive := fun _ => Bool) true false (Nat.beq m n)))
noncomputable def sEql : List UInt8 → List UInt8 → OR := fun l m => .v (.bool (beqS l m))
noncomputable def sAdd : OR → List UInt8 → List UInt8 → OR := fun s l m => Bool.rec (motive := fun _ => OR) s (forceL (appF l m) (fun z => .v (.str z))) (Nat.ble (Nat.add (lenF l) (lenF m)) 9223372036854775807)
noncomputable def sNeq : List UInt8 → List UInt8 → OR := fun l m => .v (.bool (Bool.rec (motive := fun _ => Bool) true false (beqS l m)))

noncomputable def fb : BF → OR → V → V → OR := fun f => BF.rec (motive := fun _ => OR → V → V → OR)
  (fun s a b => onNN fAdd (onSS (sAdd s) s a b) a b) (fun s a b => onNN fSub s a b) (fun s a b => onNN fMul s a b) (fun s a b => onNN fQuo s a b) (fun s a b => onNN fRem s a b) (fun s a b => onNN fAnd s a b) (fun s a b => onNN fOr s a b) (fun s a b => onMM fShl s a b) (fun s a b => onMM fShr s a b)
  (fun s a b => onNN fLss s a b) (fun s a b => onNN fLeq s a b) (fun s a b => onNN fGtr s a b) (fun s a b => onNN fGeq s a b) (fun s a b => onNN fEql (onSS sEql s a b) a b) (fun s a b => onNN fNeq (onSS sNeq s a b) a b) (fun s _ _ => s) f

noncomputable def isDataF : V → Bool := fun v => V.rec (motive_1 := fun _ => Bool) (motive_2 := fun _ => Bool) (fun _ => true) (fun _ _ => true) (fun _ => true) (true) (false) (fun _ _ => false) (fun _ _ => false) (true) (fun _ _ _ _ => false) (true) (fun _ => false) (true) (fun _ _ _ _ _ => false) (true) (fun _ _ _ => false) (fun _ ih => ih) (fun _ ih => ih) (true) (fun _ _ => true) (true) (fun _ _ _ => false) (fun _ _ => false) true (fun _ _ a b => Bool.rec (motive := fun _ => Bool) false b a) v
noncomputable def areDataF : List V → Bool := fun l => List.rec (motive := fun _ => Bool) true (fun x _ ih => Bool.rec (motive := fun _ => Bool) false ih (isDataF x)) l
noncomputable def andF : Bool → Bool → Bool := fun a b => Bool.rec (motive := fun _ => Bool) false b a
noncomputable def beqB : Bool → Bool → Bool := fun a b => Bool.rec (motive := fun _ => Bool) (Bool.rec (motive := fun _ => Bool) true false b) b a
noncomputable def beqI : Int → Int → Bool := fun a b => Int.rec (motive := fun _ => Bool) (fun m => Int.rec (motive := fun _ => Bool) (fun n => Nat.beq m n) (fun _ => false) b) (fun m => Int.rec (motive := fun _ => Bool) (fun _ => false) (fun n => Nat.beq m n) b) a
noncomputable def sameVF : V → V → Bool := fun v => V.rec (motive_1 := fun _ => V → Bool) (motive_2 := fun _ => List V → Bool)
  (fun b y => V.rec (motive_1 := fun _ => Bool) (motive_2 := fun _ => Unit) (fun b2 => beqB b b2) (fun _ _ => false) (fun _ => false) false false (fun _ _ => false) (fun _ _ => false) false (fun _ _ _ _ => false) false (fun _ => false) false (fun _ _ _ _ _ => false) false (fun _ _ _ => false) (fun _ _ => false) (fun _ _ => false) false (fun _ _ => false) false (fun _ _ _ => false) (fun _ _ => false) () (fun _ _ _ _ => ()) y)
  (fun k n y => V.rec (motive_1 := fun _ => Bool) (motive_2 := fun _ => Unit) (fun _ => false) (fun k2 n2 => andF (Nat.beq (knum k) (knum k2)) (beqI n n2)) (fun _ => false) false false (fun _ _ => false) (fun _ _ => false) false (fun _ _ _ _ => false) false (fun _ => false) false (fun _ _ _ _ _ => false) false (fun _ _ _ => false) (fun _ _ => false) (fun _ _ => false) false (fun _ _ => false) false (fun _ _ _ => false) (fun _ _ => false) () (fun _ _ _ _ => ()) y)
  (fun l y => V.rec (motive_1 := fun _ => Bool) (motive_2 := fun _ => Unit) (fun _ => false) (fun _ _ => false) (fun l2 => beqS l l2) false false (fun _ _ => false) (fun _ _ => false) false (fun _ _ _ _ => false) false (fun _ => false) false (fun _ _ _ _ _ => false) false (fun _ _ _ => false) (fun _ _ => false) (fun _ _ => false) false (fun _ _ => false) false (fun _ _ _ => false) (fun _ _ => false) () (fun _ _ _ _ => ()) y)
  (fun  y => V.rec (motive_1 := fun _ => Bool) (motive_2 := fun _ => Unit) (fun _ => false) (fun _ _ => false) (fun _ => false) (true) false (fun _ _ => false) (fun _ _ => false) false (fun _ _ _ _ => false) false (fun _ => false) false (fun _ _ _ _ _ => false) false (fun _ _ _ => false) (fun _ _ => false) (fun _ _ => false) false (fun _ _ => false) false (fun _ _ _ => false) (fun _ _ => false) () (fun _ _ _ _ => ()) y)
  (fun  y => V.rec (motive_1 := fun _ => Bool) (motive_2 := fun _ => Unit) (fun _ => false) (fun _ _ => false) (fun _ => false) false (true) (fun _ _ => false) (fun _ _ => false) false (fun _ _ _ _ => false) false (fun _ => false) false (fun _ _ _ _ _ => false) false (fun _ _ _ => false) (fun _ _ => false) (fun _ _ => false) false (fun _ _ => false) false (fun _ _ _ => false) (fun _ _ => false) () (fun _ _ _ _ => ()) y)
  (fun a o y => V.rec (motive_1 := fun _ => Bool) (motive_2 := fun _ => Unit) (fun _ => false) (fun _ _ => false) (fun _ => false) false false (fun a2 o2 => andF (Nat.beq a a2) (Nat.beq o o2)) (fun _ _ => false) false (fun _ _ _ _ => false) false (fun _ => false) false (fun _ _ _ _ _ => false) false (fun _ _ _ => false) (fun _ _ => false) (fun _ _ => false) false (fun _ _ => false) false (fun _ _ _ => false) (fun _ _ => false) () (fun _ _ _ _ => ()) y)
  (fun a o y => V.rec (motive_1 := fun _ => Bool) (motive_2 := fun _ => Unit) (fun _ => false) (fun _ _ => false) (fun _ => false) false false (fun _ _ => false) (fun a2 o2 => andF (Nat.beq a a2) (Nat.beq o o2)) false (fun _ _ _ _ => false) false (fun _ => false) false (fun _ _ _ _ _ => false) false (fun _ _ _ => false) (fun _ _ => false) (fun _ _ => false) false (fun _ _ => false) false (fun _ _ _ => false) (fun _ _ => false) () (fun _ _ _ _ => ()) y)
  (fun  y => V.rec (motive_1 := fun _ => Bool) (motive_2 := fun _ => Unit) (fun _ => false) (fun _ _ => false) (fun _ => false) false false (fun _ _ => false) (fun _ _ => false) (true) (fun _ _ _ _ => false) false (fun _ => false) false (fun _ _ _ _ _ => false) false (fun _ _ _ => false) (fun _ _ => false) (fun _ _ => false) false (fun _ _ => false) false (fun _ _ _ => false) (fun _ _ => false) () (fun _ _ _ _ => ()) y)
  (fun a o n sz y => V.rec (motive_1 := fun _ => Bool) (motive_2 := fun _ => Unit) (fun _ => false) (fun _ _ => false) (fun _ => false) false false (fun _ _ => false) (fun _ _ => false) false (fun a2 o2 n2 z2 => andF (andF (Nat.beq a a2) (Nat.beq o o2)) (andF (Nat.beq n n2) (Nat.beq sz z2))) false (fun _ => false) false (fun _ _ _ _ _ => false) false (fun _ _ _ => false) (fun _ _ => false) (fun _ _ => false) false (fun _ _ => false) false (fun _ _ _ => false) (fun _ _ => false) () (fun _ _ _ _ => ()) y)
  (fun  y => V.rec (motive_1 := fun _ => Bool) (motive_2 := fun _ => Unit) (fun _ => false) (fun _ _ => false) (fun _ => false) false false (fun _ _ => false) (fun _ _ => false) false (fun _ _ _ _ => false) (true) (fun _ => false) false (fun _ _ _ _ _ => false) false (fun _ _ _ => false) (fun _ _ => false) (fun _ _ => false) false (fun _ _ => false) false (fun _ _ _ => false) (fun _ _ => false) () (fun _ _ _ _ => ()) y)
  (fun a y => V.rec (motive_1 := fun _ => Bool) (motive_2 := fun _ => Unit) (fun _ => false) (fun _ _ => false) (fun _ => false) false false (fun _ _ => false) (fun _ _ => false) false (fun _ _ _ _ => false) false (fun a2 => Nat.beq a a2) false (fun _ _ _ _ _ => false) false (fun _ _ _ => false) (fun _ _ => false) (fun _ _ => false) false (fun _ _ => false) false (fun _ _ _ => false) (fun _ _ => false) () (fun _ _ _ _ => ()) y)
  (fun  y => V.rec (motive_1 := fun _ => Bool) (motive_2 := fun _ => Unit) (fun _ => false) (fun _ _ => false) (fun _ => false) false false (fun _ _ => false) (fun _ _ => false) false (fun _ _ _ _ => false) false (fun _ => false) (true) (fun _ _ _ _ _ => false) false (fun _ _ _ => false) (fun _ _ => false) (fun _ _ => false) false (fun _ _ => false) false (fun _ _ _ => false) (fun _ _ => false) () (fun _ _ _ _ => ()) y)
  (fun f _xs _ys ih0 ih1 y => V.rec (motive_1 := fun _ => Bool) (motive_2 := fun _ => Unit) (fun _ => false) (fun _ _ => false) (fun _ => false) false false (fun _ _ => false) (fun _ _ => false) false (fun _ _ _ _ => false) false (fun _ => false) false (fun f2 xs2 ys2 _h0 _h1 => andF (Nat.beq f f2) (andF (ih0 xs2) (ih1 ys2))) false (fun _ _ _ => false) (fun _ _ => false) (fun _ _ => false) false (fun _ _ => false) false (fun _ _ _ => false) (fun _ _ => false) () (fun _ _ _ _ => ()) y)
  (fun  y => V.rec (motive_1 := fun _ => Bool) (motive_2 := fun _ => Unit) (fun _ => false) (fun _ _ => false) (fun _ => false) false false (fun _ _ => false) (fun _ _ => false) false (fun _ _ _ _ => false) false (fun _ => false) false (fun _ _ _ _ _ => false) (true) (fun _ _ _ => false) (fun _ _ => false) (fun _ _ => false) false (fun _ _ => false) false (fun _ _ _ => false) (fun _ _ => false) () (fun _ _ _ _ => ()) y)
  (fun T _x ih0 y => V.rec (motive_1 := fun _ => Bool) (motive_2 := fun _ => Unit) (fun _ => false) (fun _ _ => false) (fun _ => false) false false (fun _ _ => false) (fun _ _ => false) false (fun _ _ _ _ => false) false (fun _ => false) false (fun _ _ _ _ _ => false) false (fun T2 x2 _h0 => andF (Nat.beq T T2) (ih0 x2)) (fun _ _ => false) (fun _ _ => false) false (fun _ _ => false) false (fun _ _ _ => false) (fun _ _ => false) () (fun _ _ _ _ => ()) y)
  (fun _cs ih0 y => V.rec (motive_1 := fun _ => Bool) (motive_2 := fun _ => Unit) (fun _ => false) (fun _ _ => false) (fun _ => false) false false (fun _ _ => false) (fun _ _ => false) false (fun _ _ _ _ => false) false (fun _ => false) false (fun _ _ _ _ _ => false) false (fun _ _ _ => false) (fun cs2 _h0 => ih0 cs2) (fun _ _ => false) false (fun _ _ => false) false (fun _ _ _ => false) (fun _ _ => false) () (fun _ _ _ _ => ()) y)
  (fun _cs ih0 y => V.rec (motive_1 := fun _ => Bool) (motive_2 := fun _ => Unit) (fun _ => false) (fun _ _ => false) (fun _ => false) false false (fun _ _ => false) (fun _ _ => false) false (fun _ _ _ _ => false) false (fun _ => false) false (fun _ _ _ _ _ => false) false (fun _ _ _ => false) (fun _ _ => false) (fun cs2 _h0 => ih0 cs2) false (fun _ _ => false) false (fun _ _ _ => false) (fun _ _ => false) () (fun _ _ _ _ => ()) y)
  (fun  y => V.rec (motive_1 := fun _ => Bool) (motive_2 := fun _ => Unit) (fun _ => false) (fun _ _ => false) (fun _ => false) false false (fun _ _ => false) (fun _ _ => false) false (fun _ _ _ _ => false) false (fun _ => false) false (fun _ _ _ _ _ => false) false (fun _ _ _ => false) (fun _ _ => false) (fun _ _ => false) (true) (fun _ _ => false) false (fun _ _ _ => false) (fun _ _ => false) () (fun _ _ _ _ => ()) y)
  (fun m i y => V.rec (motive_1 := fun _ => Bool) (motive_2 := fun _ => Unit) (fun _ => false) (fun _ _ => false) (fun _ => false) false false (fun _ _ => false) (fun _ _ => false) false (fun _ _ _ _ => false) false (fun _ => false) false (fun _ _ _ _ _ => false) false (fun _ _ _ => false) (fun _ _ => false) (fun _ _ => false) false (fun m2 i2 => andF (Nat.beq m m2) (Nat.beq i i2)) false (fun _ _ _ => false) (fun _ _ => false) () (fun _ _ _ _ => ()) y)
  (fun  y => V.rec (motive_1 := fun _ => Bool) (motive_2 := fun _ => Unit) (fun _ => false) (fun _ _ => false) (fun _ => false) false false (fun _ _ => false) (fun _ _ => false) false (fun _ _ _ _ => false) false (fun _ => false) false (fun _ _ _ _ _ => false) false (fun _ _ _ => false) (fun _ _ => false) (fun _ _ => false) false (fun _ _ => false) (true) (fun _ _ _ => false) (fun _ _ => false) () (fun _ _ _ _ => ()) y)
  (fun k c ts y => V.rec (motive_1 := fun _ => Bool) (motive_2 := fun _ => Unit) (fun _ => false) (fun _ _ => false) (fun _ => false) false false (fun _ _ => false) (fun _ _ => false) false (fun _ _ _ _ => false) false (fun _ => false) false (fun _ _ _ _ _ => false) false (fun _ _ _ => false) (fun _ _ => false) (fun _ _ => false) false (fun _ _ => false) false (fun k2 c2 ts2 => andF (andF (Nat.beq (knum k) (knum k2)) (beqI c c2)) (decide (ts = ts2))) (fun _ _ => false) () (fun _ _ _ _ => ()) y)
  (fun _l ih0 y => V.rec (motive_1 := fun _ => Bool) (motive_2 := fun _ => Unit) (fun _ => false) (fun _ _ => false) (fun _ => false) false false (fun _ _ => false) (fun _ _ => false) false (fun _ _ _ _ => false) false (fun _ => false) false (fun _ _ _ _ _ => false) false (fun _ _ _ => false) (fun _ _ => false) (fun _ _ => false) false (fun _ _ => false) false (fun _ _ _ => false) (fun l2 _h0 => ih0 l2) () (fun _ _ _ _ => ()) y)
  (fun l => List.rec (motive := fun _ => Bool) true (fun _ _ _ => false) l) (fun _ _ ihx ihr l => List.rec (motive := fun _ => Bool) false (fun y s _ => andF (ihx y) (ihr s)) l) v
noncomputable def samesF : List V → List V → Bool := fun l => List.rec (motive := fun _ => List V → Bool) (fun m => List.rec (motive := fun _ => Bool) true (fun _ _ _ => false) m) (fun x _ ih m => List.rec (motive := fun _ => Bool) false (fun y s _ => andF (sameVF x y) (ih s)) m) l
noncomputable def sameBF : Blk → Blk → Bool := fun b c => Blk.rec (motive := fun _ => Bool) (fun f b z xs => Blk.rec (motive := fun _ => Bool) (fun g c x ys => andF (andF (Nat.beq f g) (Nat.beq b c)) (andF (Nat.beq z x) (samesF xs ys))) (fun _ _ => false) (fun _ _ => false) c) (fun l p => Blk.rec (motive := fun _ => Bool) (fun _ _ _ _ => false) (fun m q => andF (samesF l m) (Nat.beq p q)) (fun _ _ => false) c) (fun es k => Blk.same (.mapo es k) c) b
noncomputable def sameEF : List (Nat × Nat) → List (Nat × Nat) → Bool := fun l => List.rec (motive := fun _ => List (Nat × Nat) → Bool) (fun m => List.rec (motive := fun _ => Bool) true (fun _ _ _ => false) m) (fun x _ ih m => List.rec (motive := fun _ => Bool) false (fun y s _ => andF (andF (Nat.beq x.1 y.1) (Nat.beq x.2 y.2)) (ih s)) m) l
noncomputable def eqOF {α : Type} (s : α → α → Bool) : Option α → Option α → Bool := fun a b => Option.rec (motive := fun _ => Bool) (Option.rec (motive := fun _ => Bool) true (fun _ => false) b) (fun x => Option.rec (motive := fun _ => Bool) false (fun y => s x y) b) a
noncomputable def eqTF {α : Type} (s : α → α → Bool) : Tr α → Tr α → Bool := fun t => Tr.rec (motive := fun _ => Tr α → Bool) (fun u => Tr.rec (motive := fun _ => Bool) true (fun _ _ _ _ _ => false) u)
  (fun _ v _ ihl ihr u => Tr.rec (motive := fun _ => Bool) false (fun l' v' r' _ _ => andF (eqOF s v v') (andF (ihl l') (ihr r'))) u) t
noncomputable def meetO {α : Type} (s : α → α → Bool) : Option α → Option α → Option α := fun a b => Option.rec (motive := fun _ => Option α) none (fun x => Option.rec (motive := fun _ => Option α) none (fun y => Bool.rec (motive := fun _ => Option α) none (some x) (s x y)) b) a
noncomputable def meetF {α : Type} (s : α → α → Bool) : Tr α → Tr α → Tr α := fun t => Tr.rec (motive := fun _ => Tr α → Tr α) (fun _ => .leaf)
  (fun _ v _ ihl ihr u => Tr.rec (motive := fun _ => Tr α) .leaf (fun l' v' r' _ _ => .node (ihl l') (meetO s v v') (ihr r')) u) t
noncomputable def forceOp {α β : Type} : Option α → (Option α → β) → β := fun o k => Option.rec (motive := fun _ => β) (k none) (fun x => k (some x)) o
noncomputable def joinF : Hp → Hp → Option Hp := fun a b => Bool.rec (motive := fun _ => Option Hp) none (forceA forceOp (meetF sameBF a.t b.t) (fun t' => some ⟨a.next, t', a.fams, a.els⟩)) (andF (andF (Nat.beq a.next b.next) (eqTF sameEF a.fams b.fams)) (eqTF Nat.beq a.els b.els))


/-! ## Operations -/

noncomputable def fPick : V → V → V → OR := fun c => V.rec (motive_1 := fun _ => V → V → OR) (motive_2 := fun _ => Unit) (fun b => fun x y => Bool.rec (motive := fun _ => OR) (.v y) (.v x) b) (fun _ _ => fun _ _ => OR.no) (fun _ => fun _ _ => OR.no) (fun _ _ => OR.no) (fun _ _ => OR.no) (fun _ _ => fun _ _ => OR.no) (fun _ _ => fun _ _ => OR.no) (fun _ _ => OR.no) (fun _ _ _ _ => fun _ _ => OR.no) (fun _ _ => OR.no) (fun _ => fun _ _ => OR.no) (fun _ _ => OR.no) (fun _ _ _ _ _ => fun _ _ => OR.no) (fun _ _ => OR.no) (fun _ _ _ => fun _ _ => OR.no) (fun _ _ => fun _ _ => OR.no) (fun _ _ => fun _ _ => OR.no) (fun _ _ => OR.no) (fun _ _ => fun _ _ => OR.no) (fun _ _ => OR.no) (fun _ _ _ => fun _ _ => OR.no) (fun _ _ => fun _ _ => OR.no) () (fun _ _ _ _ => ()) c
noncomputable def fNilc : V → OR := fun v => V.rec (motive_1 := fun _ => OR) (motive_2 := fun _ => Unit) (fun _ => OR.no) (fun _ _ => OR.no) (fun _ => OR.no) (OR.no) (OR.no) (fun a o => .v (.ptr a o)) (fun a o => .v (.gp a o)) (OR.no) (fun _ _ _ _ => OR.no) (OR.no) (fun _ => OR.no) (OR.no) (fun f xs ys _h0 _h1 => .v (.fn f xs ys)) (OR.no) (fun T x _h0 => .v (.iface T x)) (fun _ _ => OR.no) (fun _ _ => OR.no) (OR.no) (fun _ _ => OR.no) (OR.no) (fun _ _ _ => OR.no) (fun _ _ => OR.no) () (fun _ _ _ _ => ()) v
noncomputable def fNot : V → OR := fun v => V.rec (motive_1 := fun _ => OR) (motive_2 := fun _ => Unit) (fun b => .v (.bool (Bool.rec (motive := fun _ => Bool) true false b))) (fun _ _ => OR.no) (fun _ => OR.no) (OR.no) (OR.no) (fun _ _ => OR.no) (fun _ _ => OR.no) (OR.no) (fun _ _ _ _ => OR.no) (OR.no) (fun _ => OR.no) (OR.no) (fun _ _ _ _ _ => OR.no) (OR.no) (fun _ _ _ => OR.no) (fun _ _ => OR.no) (fun _ _ => OR.no) (OR.no) (fun _ _ => OR.no) (OR.no) (fun _ _ _ => OR.no) (fun _ _ => OR.no) () (fun _ _ _ _ => ()) v
noncomputable def fFaddr : V → Nat → OR := fun v => V.rec (motive_1 := fun _ => Nat → OR) (motive_2 := fun _ => Unit) (fun _ => fun _ => OR.no) (fun _ _ => fun _ => OR.no) (fun _ => fun _ => OR.no) (fun _ => OR.no) (fun _ => OR.no) (fun a o => fun k => .v (.ptr a (Nat.add o k))) (fun a o => fun k => .v (.gp a (Nat.add o k))) (fun _ => OR.no) (fun _ _ _ _ => fun _ => OR.no) (fun _ => OR.no) (fun _ => fun _ => OR.no) (fun _ => OR.no) (fun _ _ _ _ _ => fun _ => OR.no) (fun _ => OR.no) (fun _ _ _ => fun _ => OR.no) (fun _ _ => fun _ => OR.no) (fun _ _ => fun _ => OR.no) (fun _ => OR.no) (fun _ _ => fun _ => OR.no) (fun _ => OR.no) (fun _ _ _ => fun _ => OR.no) (fun _ _ => fun _ => OR.no) () (fun _ _ _ _ => ()) v
noncomputable def fFld1 : V → Nat → OR := fun v => V.rec (motive_1 := fun _ => Nat → OR) (motive_2 := fun _ => Unit) (fun _ => fun _ => OR.no) (fun _ _ => fun _ => OR.no) (fun _ => fun _ => OR.no) (fun _ => OR.no) (fun _ => OR.no) (fun _ _ => fun _ => OR.no) (fun _ _ => fun _ => OR.no) (fun _ => OR.no) (fun _ _ _ _ => fun _ => OR.no) (fun _ => OR.no) (fun _ => fun _ => OR.no) (fun _ => OR.no) (fun _ _ _ _ _ => fun _ => OR.no) (fun _ => OR.no) (fun _ _ _ => fun _ => OR.no) (fun cs _h0 => fun k => oV (nthF k cs)) (fun _ _ => fun _ => OR.no) (fun _ => OR.no) (fun _ _ => fun _ => OR.no) (fun _ => OR.no) (fun _ _ _ => fun _ => OR.no) (fun _ _ => fun _ => OR.no) () (fun _ _ _ _ => ()) v
noncomputable def fFldA : V → Nat → Nat → OR := fun v => V.rec (motive_1 := fun _ => Nat → Nat → OR) (motive_2 := fun _ => Unit) (fun _ => fun _ _ => OR.no) (fun _ _ => fun _ _ => OR.no) (fun _ => fun _ _ => OR.no) (fun _ _ => OR.no) (fun _ _ => OR.no) (fun _ _ => fun _ _ => OR.no) (fun _ _ => fun _ _ => OR.no) (fun _ _ => OR.no) (fun _ _ _ _ => fun _ _ => OR.no) (fun _ _ => OR.no) (fun _ => fun _ _ => OR.no) (fun _ _ => OR.no) (fun _ _ _ _ _ => fun _ _ => OR.no) (fun _ _ => OR.no) (fun _ _ _ => fun _ _ => OR.no) (fun cs _h0 => fun k z => Bool.rec (motive := fun _ => OR) OR.no (.v (.agg (takeF z (dropF k cs)))) (Nat.ble (Nat.add k z) (lenF cs))) (fun _ _ => fun _ _ => OR.no) (fun _ _ => OR.no) (fun _ _ => fun _ _ => OR.no) (fun _ _ => OR.no) (fun _ _ _ => fun _ _ => OR.no) (fun _ _ => fun _ _ => OR.no) () (fun _ _ _ _ => ()) v
inductive LV where
  | no
  | mk (b o n sz : Nat)
inductive PV where
  | no
  | p (a o : Nat)
  | g (a o : Nat)
inductive CV where
  | no
  | mk (cs : List V)
noncomputable def asL : V → LV := fun v => V.rec (motive_1 := fun _ => LV) (motive_2 := fun _ => Unit) (fun _ => LV.no) (fun _ _ => LV.no) (fun _ => LV.no) (LV.no) (LV.no) (fun _ _ => LV.no) (fun _ _ => LV.no) (LV.no) (fun a o n sz => .mk a o n sz) (LV.no) (fun _ => LV.no) (LV.no) (fun _ _ _ _ _ => LV.no) (LV.no) (fun _ _ _ => LV.no) (fun _ _ => LV.no) (fun _ _ => LV.no) (LV.no) (fun _ _ => LV.no) (LV.no) (fun _ _ _ => LV.no) (fun _ _ => LV.no) () (fun _ _ _ _ => ()) v
noncomputable def asP : V → PV := fun v => V.rec (motive_1 := fun _ => PV) (motive_2 := fun _ => Unit) (fun _ => PV.no) (fun _ _ => PV.no) (fun _ => PV.no) (PV.no) (PV.no) (fun a o => .p a o) (fun a o => .g a o) (PV.no) (fun _ _ _ _ => PV.no) (PV.no) (fun _ => PV.no) (PV.no) (fun _ _ _ _ _ => PV.no) (PV.no) (fun _ _ _ => PV.no) (fun _ _ => PV.no) (fun _ _ => PV.no) (PV.no) (fun _ _ => PV.no) (PV.no) (fun _ _ _ => PV.no) (fun _ _ => PV.no) () (fun _ _ _ _ => ()) v
noncomputable def asC : V → CV := fun v => V.rec (motive_1 := fun _ => CV) (motive_2 := fun _ => Unit) (fun _ => CV.no) (fun _ _ => CV.no) (fun _ => CV.no) (CV.no) (CV.no) (fun _ _ => CV.no) (fun _ _ => CV.no) (CV.no) (fun _ _ _ _ => CV.no) (CV.no) (fun _ => CV.no) (CV.no) (fun _ _ _ _ _ => CV.no) (CV.no) (fun _ _ _ => CV.no) (fun cs _h0 => .mk cs) (fun _ _ => CV.no) (CV.no) (fun _ _ => CV.no) (CV.no) (fun _ _ _ => CV.no) (fun _ _ => CV.no) () (fun _ _ _ _ => ()) v
noncomputable def fIadr : Nat → V → V → OR := fun sz a i => NV.rec (motive := fun _ => OR) .no (fun _ m => LV.rec (motive := fun _ => OR) .no (fun b o len sz' => Bool.rec (motive := fun _ => OR) .no (Bool.rec (motive := fun _ => OR) .no (.v (.ptr b (Nat.add o (Nat.mul m sz)))) (Nat.beq sz sz')) (Nat.ble (Nat.add m 1) len)) (asL a)) (asN i)
noncomputable def fIadrA : Nat → Nat → V → V → OR := fun len sz a i => NV.rec (motive := fun _ => OR) .no (fun _ m => Bool.rec (motive := fun _ => OR) .no (fFaddr a (Nat.mul m sz)) (Nat.ble (Nat.add m 1) len)) (asN i)
noncomputable def u8V : Option UInt8 → OR := fun o => Option.rec (motive := fun _ => OR) .no (fun c => .v (.int .u8 (Int.ofNat (UInt8.toNat c)))) o
noncomputable def fIdxS : V → V → OR := fun a i => NV.rec (motive := fun _ => OR) .no (fun _ m => SV.rec (motive := fun _ => OR) (oV (lidx0 a i)) (fun l => u8V (nthF m l)) (asS a)) (asN i)
noncomputable def fIdxA : Nat → Nat → Bool → V → V → OR := fun len sz ag a i => NV.rec (motive := fun _ => OR) .no (fun _ m => CV.rec (motive := fun _ => OR) .no (fun cs => Bool.rec (motive := fun _ => OR) .no (Bool.rec (motive := fun _ => OR) (oV (nthF (Nat.mul m sz) cs)) (fFldA (.agg cs) (Nat.mul m sz) sz) ag) (Nat.ble (Nat.add m 1) len)) (asC a)) (asN i)

inductive BV where
  | no
  | mk (n : Nat)
/-- the upper bound: none: at the end -/
noncomputable def fBound : Option V → Nat → Nat → BV := fun o => Option.rec (motive := fun _ => Nat → Nat → BV) (fun _ d => .mk d) (fun v len _ => NV.rec (motive := fun _ => BV) .no (fun _ n => Bool.rec (motive := fun _ => BV) .no (.mk n) (Nat.ble n len)) (asN v)) o
noncomputable def fSliS : OR → Option V → Option V → V → OR := fun s lo hi a => SV.rec (motive := fun _ => OR) s (fun l => BV.rec (motive := fun _ => OR) .no (fun h => BV.rec (motive := fun _ => OR) .no (fun k =>
  Bool.rec (motive := fun _ => OR) (.v (.str (dropF k (takeF h l)))) (.v (.str (dropF k l))) (Nat.beq h (lenF l))) (fBound lo h 0)) (fBound hi (lenF l) (lenF l))) (asS a)
noncomputable def fConv : IntKind → V → OR := fun k v => V.rec (motive_1 := fun _ => IntKind → OR) (motive_2 := fun _ => Unit) (fun _ => fun _ => OR.no) (fun _k n => fun k => Int.rec (motive := fun _ => OR) (fun m => held k m (.v (.int k (k.wrap (.ofNat m))))) (fun m => .v (.int k (k.wrap (.negSucc m)))) n) (fun _ => fun _ => OR.no) (fun _ => OR.no) (fun _ => OR.no) (fun _ _ => fun _ => OR.no) (fun _ _ => fun _ => OR.no) (fun _ => OR.no) (fun _ _ _ _ => fun _ => OR.no) (fun _ => OR.no) (fun _ => fun _ => OR.no) (fun _ => OR.no) (fun _ _ _ _ _ => fun _ => OR.no) (fun _ => OR.no) (fun _ _ _ => fun _ => OR.no) (fun _ _ => fun _ => OR.no) (fun _ _ => fun _ => OR.no) (fun _ => OR.no) (fun _ _ => fun _ => OR.no) (fun _ => OR.no) (fun _k c ts => fun k => oV (fit k c ts)) (fun _ _ => fun _ => OR.no) () (fun _ _ _ _ => ()) v k
noncomputable def fExt : V → Nat → OR := fun v => V.rec (motive_1 := fun _ => Nat → OR) (motive_2 := fun _ => Unit) (fun _ => fun _ => OR.no) (fun _ _ => fun _ => OR.no) (fun _ => fun _ => OR.no) (fun _ => OR.no) (fun _ => OR.no) (fun _ _ => fun _ => OR.no) (fun _ _ => fun _ => OR.no) (fun _ => OR.no) (fun _ _ _ _ => fun _ => OR.no) (fun _ => OR.no) (fun _ => fun _ => OR.no) (fun _ => OR.no) (fun _ _ _ _ _ => fun _ => OR.no) (fun _ => OR.no) (fun _ _ _ => fun _ => OR.no) (fun _ _ => fun _ => OR.no) (fun cs _h0 => fun k => oV (nthF k cs)) (fun _ => OR.no) (fun _ _ => fun _ => OR.no) (fun _ => OR.no) (fun _ _ _ => fun _ => OR.no) (fun _ _ => fun _ => OR.no) () (fun _ _ _ _ => ()) v
noncomputable def fLenS : V → OR := fun v => V.rec (motive_1 := fun _ => OR) (motive_2 := fun _ => Unit) (fun _ => OR.no) (fun _ _ => OR.no) (fun l => .v (.int .i64 (Int.ofNat (lenF l)))) (OR.no) (OR.no) (fun _ _ => OR.no) (fun _ _ => OR.no) (OR.no) (fun _ _ _ _ => OR.no) (OR.no) (fun _ => OR.no) (OR.no) (fun _ _ _ _ _ => OR.no) (OR.no) (fun _ _ _ => OR.no) (fun _ _ => OR.no) (fun _ _ => OR.no) (OR.no) (fun _ _ => OR.no) (OR.no) (fun _ _ _ => OR.no) (fun l _h0 => .v (.int .i64 (Int.ofNat (lenF l)))) () (fun _ _ _ _ => ()) v
noncomputable def fLenL : V → OR := fun v => V.rec (motive_1 := fun _ => OR) (motive_2 := fun _ => Unit) (fun _ => OR.no) (fun _ _ => OR.no) (fun _ => OR.no) (OR.no) (OR.no) (fun _ _ => OR.no) (fun _ _ => OR.no) (.v (.int .i64 0)) (fun _a _o n _sz => .v (.int .i64 (Int.ofNat n))) (OR.no) (fun _ => OR.no) (OR.no) (fun _ _ _ _ _ => OR.no) (OR.no) (fun _ _ _ => OR.no) (fun _ _ => OR.no) (fun _ _ => OR.no) (OR.no) (fun _ _ => OR.no) (OR.no) (fun _ _ _ => OR.no) (fun _ _ => OR.no) () (fun _ _ _ _ => ()) v
/-- the cells of a block -/
noncomputable def cellsB : Blk → Option (List V) := fun b => Blk.rec (motive := fun _ => Option (List V)) (fun _ _ _ xs => some xs) (fun _ _ => none) (fun _ _ => none) b
noncomputable def fCells : V → Glob → Hp → Nat → (List V → Nat → OR) → OR := fun v Γ h n f => PV.rec (motive := fun _ => OR) .no
  (fun a o => Option.rec (motive := fun _ => OR) .no (fun b => Blk.rec (motive := fun _ => OR) (fun _ _ _ xs => f (dropF o xs) n) (fun _ _ => .no) (fun _ _ => .no) b) (getT h.t a))
  (fun g o => Option.rec (motive := fun _ => OR) .no (fun xs => f (dropF o xs) n) (getT Γ g)) (asP v)
noncomputable def head1 : List V → Nat → OR := fun l _ => List.rec (motive := fun _ => OR) .no (fun x _ _ => .v x) l
noncomputable def headN : List V → Nat → OR := fun l n => Bool.rec (motive := fun _ => OR) .no (.v (.agg (takeF n l))) (Nat.ble n (lenF l))
noncomputable def fSlow : Operand → List V → Env → List (Nat × FA) → Option V := fun x st t m => Operand.rec (motive := fun _ => Option V)
  (fun s => List.rec (motive := fun _ => Option V) none (fun p _ ih => Bool.rec (motive := fun _ => Option V) ih (some (p.2.get st t)) (Nat.beq p.1 s)) m)
  (fun v => rdE .leaf (.const v)) (fun g => rdE .leaf (.global g)) (fun f => rdE .leaf (.func f)) x
noncomputable def allOne : List V → Bool := fun l => List.rec (motive := fun _ => Bool) true (fun x _ ih => Bool.rec (motive := fun _ => Bool) false ih x.one) l
noncomputable def aloneF : Option (List (Nat × Nat)) → Nat → Bool := fun o b => Option.rec (motive := fun _ => Bool) false (fun l => List.rec (motive := fun _ => Bool) false (fun p r _ => List.rec (motive := fun _ => Bool) (Nat.beq p.1 b) (fun _ _ _ => false) r) l) o
/-- a store into a block that shares its memory with no other -/
noncomputable def stoF : Hp → Nat → Nat → List V → OR → OR := fun h => Hp.rec (motive := fun _ => Nat → Nat → List V → OR → OR) (fun nx t f e b o ys s =>
  Option.rec (motive := fun _ => OR) s (fun bk => Blk.rec (motive := fun _ => OR) (fun fm fb fz xs =>
    Bool.rec (motive := fun _ => OR) s (Bool.rec (motive := fun _ => OR) s (Bool.rec (motive := fun _ => OR) s (Bool.rec (motive := fun _ => OR) s
      (forceL (appF (takeF o xs) (appF ys (dropF (Nat.add o (lenF ys)) xs))) (fun zs => putK (some (.cells fm fb fz zs)) t b (fun t' => .w (.tup []) ⟨nx, t', f, e⟩)))
      (aloneF (getT f fm) b)) (allOne ys)) (Nat.ble fz o)) (Nat.ble (Nat.add o (lenF ys)) (lenF xs))) (fun _ _ => s) (fun _ _ => s) bk) (getT t b)) h
noncomputable def fSto : Nat → V → V → Cfg → Hp → OR := fun n a v _C h => PV.rec (motive := fun _ => OR) .no (fun b o => Bool.rec (motive := fun _ => OR) .no (Bool.rec (motive := fun _ => OR)
    (stoF h b o v.cells (Option.rec (motive := fun _ => OR) .no (fun h' => forceH h' [b] [b] [] (fun h2 => .w (.tup []) h2)) (h.write b o v.cells))) .no v.isAny) (Nat.beq (lenF v.cells) n)) (fun _ _ => .no) (asP a)
noncomputable def vfillF : (Nat → Option (Nat × Nat)) → List (Nat × V) → List V → Option (List V) := fun pl l => List.rec (motive := fun _ => List V → Option (List V)) (fun cs => some cs)
  (fun p _ ih cs => Option.rec (motive := fun _ => Option (List V)) none (fun q => Bool.rec (motive := fun _ => Option (List V)) none (Bool.rec (motive := fun _ => Option (List V)) (Bool.rec (motive := fun _ => Option (List V)) none
    (forceL (appF (takeF q.1 cs) (appF p.2.cells (dropF (Nat.add q.1 (lenF p.2.cells)) cs))) (fun zs => ih zs)) (Nat.ble (Nat.add q.1 (lenF p.2.cells)) (lenF cs))) none p.2.isAny) (Nat.beq (lenF p.2.cells) q.2)) (pl p.1)) l
/-- the family of the block that a slice lies in -/
noncomputable def famV : V → Hp → List Nat := fun v h => LV.rec (motive := fun _ => List Nat) [h.next] (fun b _ _ _ => Option.rec (motive := fun _ => List Nat) [h.next] (fun bk => Blk.rec (motive := fun _ => List Nat) (fun fm _ _ _ => [h.next, fm]) (fun _ _ => [h.next]) (fun _ _ => [h.next]) bk) (getT h.t b)) (asL v)
noncomputable def ptrV : V → List Nat := fun v => PV.rec (motive := fun _ => List Nat) [] (fun b _ => [b]) (fun _ _ => []) (asP v)
noncomputable def fCall : Nat → List V → Cfg → Hp → OR := fun g xs C h => Option.rec (motive := fun _ => OR) (Option.rec (motive := fun _ => OR) .no (fun e => oV (e xs)) (C.ext g))
  (fun spec => Bool.rec (motive := fun _ => OR)
    (Bool.rec (motive := fun _ => OR) (oS (spec xs h)) (Option.rec (motive := fun _ => OR) .no (fun p => Prod.rec (motive := fun _ => OR) (fun r h0 => forceHA (h.beside (h0.gc r)) (fun h2 => .w (r.shift h.next) h2)) p) (spec xs Hp.empty)) (Bool.rec (motive := fun _ => Bool) false (areDataF xs) (C.closed g)))
    (Bool.rec (motive := fun _ => OR) (oP (opSym spec xs)) (Option.rec (motive := fun _ => OR) .no (fun p => Prod.rec (motive := fun _ => OR) (fun r _ => Bool.rec (motive := fun _ => OR) .no (.v r) (isDataF r)) p) (spec xs Hp.empty)) (areDataF xs)) (C.pure g)) (C.ctx g)

/-- the cells of a slice -/
noncomputable def cutF : Hp → Nat → Nat → Nat → Nat → Option (List V) := fun h sz a o n => Option.rec (motive := fun _ => Option (List V)) none (fun bk => Blk.rec (motive := fun _ => Option (List V)) (fun _ _ _ xs =>
    Bool.rec (motive := fun _ => Option (List V)) none (some (takeF (Nat.mul n sz) (dropF o xs))) (Nat.ble (Nat.add o (Nat.mul n sz)) (lenF xs))) (fun _ _ => none) (fun _ _ => none) bk) (getT h.t a)
/-- what is appended: a slice that is not empty -/
noncomputable def tailF : Hp → Nat → V → (List V → Nat → OR) → OR → OR := fun h sz y f s => LV.rec (motive := fun _ => OR) s (fun a o k z => Bool.rec (motive := fun _ => OR) s (Bool.rec (motive := fun _ => OR)
    (Option.rec (motive := fun _ => OR) s (fun ys => Bool.rec (motive := fun _ => OR) s (f ys k) (allOne ys)) (cutF h sz a o k)) s (Nat.beq k 0)) (Nat.beq z sz)) (asL y)
/-- the head of a family's list ends there or ahead -/
noncomputable def headF : List (Nat × Nat) → Nat → Bool := fun l p => List.rec (motive := fun _ => Bool) false (fun q _ _ => Nat.ble q.2 p) l
/-- a grown slice -/
noncomputable def growF : Hp → Nat → Nat → Nat → Nat → Nat → List V → Nat → List V → OR → OR := fun h => Hp.rec (motive := fun _ => Nat → Nat → Nat → Nat → Nat → List V → Nat → List V → OR → OR) (fun nx t fs es e sz a o n os k ys s =>
  Option.rec (motive := fun _ => OR) s (fun bk => Blk.rec (motive := fun _ => OR) (fun fm fb fz xs =>
    Bool.rec (motive := fun _ => OR) s (Bool.rec (motive := fun _ => OR) s
      (Option.rec (motive := fun _ => OR) s (fun l => Bool.rec (motive := fun _ => OR) s
        (forceL (appF os ys) (fun zs => putK (some (.cells fm (Nat.add fb o) (Nat.sub fz o) zs)) t nx (fun t' => putK (some ((nx, Nat.add (Nat.add fb o) (lenF zs)) :: l)) fs fm (fun fs' =>
          Option.rec (motive := fun _ => OR) (.w (.sl nx 0 (Nat.add n k) sz) ⟨Nat.add nx 1, t', fs', es⟩) (fun e0 => Bool.rec (motive := fun _ => OR) (.w (.sl nx 0 (Nat.add n k) sz) ⟨Nat.add nx 1, t', fs', es⟩)
            (putK (some (Nat.mul 2 e)) es nx (fun es' => .w (.sl nx 0 (Nat.add n k) sz) ⟨Nat.add nx 1, t', fs', es'⟩)) (Nat.beq (Nat.div e0 2) e)) (getT es a)))))
        (headF l (Nat.add fb (Nat.add o (Nat.mul n sz))))) (getT fs fm))
      (Nat.ble fz (Nat.add o (Nat.mul n sz)))) (Nat.ble (Nat.add o (Nat.mul n sz)) (lenF xs))) (fun _ _ => s) (fun _ _ => s) bk) (getT t a)) h
noncomputable def roomF : Nat → Nat → Bool := fun m b => Nat.ble (Nat.mul (Nat.add (Nat.mul 2 m) 192) b) 281474976710656
noncomputable def fApp : Hp → Nat → Nat → Nat → V → V → OR → OR := fun h e sz by_ x y s => LV.rec (motive := fun _ => OR) s
  (fun a o n z => Bool.rec (motive := fun _ => OR) s (tailF h sz y (fun ys k => Bool.rec (motive := fun _ => OR) s (Bool.rec (motive := fun _ => OR)
      (Option.rec (motive := fun _ => OR) s (fun os => growF h e sz a o n os k ys s) (cutF h sz a o n)) (growF h e sz a o n [] k ys s) (Nat.beq n 0)) (roomF (Nat.add n k) by_)) s) (Nat.beq z sz)) (asL x)

noncomputable def runO : FO → Cfg → List V → Env → Hp → OR := fun o => FO.rec (motive := fun _ => Cfg → List V → Env → Hp → OR)
  (fun a _C st t _h => .v (a.get st t))
  (fun c a b _C st t _h => fPick (c.get st t) (a.get st t) (b.get st t))
  (fun a _C st t _h => fNilc (a.get st t))
  (fun f op T c a b C st t _h => fb f (oV (vbinX C.P op T c (a.get st t) (b.get st t))) (a.get st t) (b.get st t))
  (fun a _C st t _h => fNot (a.get st t))
  (fun op a _C st t _h => oV (vunX op (a.get st t)))
  (fun k a _C st t _h => fFaddr (a.get st t) k)
  (fun k a _C st t _h => fFld1 (a.get st t) k)
  (fun k z a _C st t _h => fFldA (a.get st t) k z)
  (fun z a i _C st t _h => fIadr z (a.get st t) (i.get st t))
  (fun n z a i _C st t _h => fIadrA n z (a.get st t) (i.get st t))
  (fun a i _C st t _h => fIdxS (a.get st t) (i.get st t))
  (fun n z g a i _C st t _h => fIdxA n z g (a.get st t) (i.get st t))
  (fun T a lo hi C st t _h => fSliS (oV (opSliceX C.P T (a.get st t) (getO lo st t) (getO hi st t))) (getO lo st t) (getO hi st t) (a.get st t))
  (fun k a _C st t _h => fConv k (a.get st t))
  (fun a i _C st t _h => fExt (a.get st t) i)
  (fun T a _C st t _h => .v (.iface T (a.get st t)))
  (fun f xs ys _C st t _h => .v (.fn f (getAll xs st t) (getAll ys st t)))
  (fun a _C st t _h => fLenS (a.get st t))
  (fun a _C st t _h => fLenL (a.get st t))
  (fun n _C _st _t _h => .v (.int .i64 (Int.ofNat n)))
  (fun a C st t h => fCells (a.get st t) C.Γ h 0 head1)
  (fun n a C st t h => fCells (a.get st t) C.Γ h n headN)
  (fun n a v C st t h => fSto n (a.get st t) (v.get st t) C h)
  (fun cs T _C _st _t h => newK h cs T)
  (fun T a _C st t h => Bool.rec (motive := fun _ => OR) (newK h (a.get st t).cells T) .no (a.get st t).isAny)
  (fun zs n z ks xs _C st t h => Option.rec (motive := fun _ => OR) (Option.rec (motive := fun _ => OR) .no (fun cs => newS h cs n z) (vfillF (fun i => some (Nat.mul i z, z)) (ks.zip (getAll xs st t)) zs)) (fun _ => .no) (getT h.t h.next))
  (fun T l c C st t h => oPF (opMakeSlice C.P h T (l.get st t) (c.get st t)) [h.next] [h.next] [h.next])
  (fun T a C st t h => oPF (opRange C.P h T (a.get st t)) [h.next] [h.next] [h.next])
  (fun a _C st t h => oPF (opNext h (a.get st t)) (ptrV (a.get st t)) [] [])
  (fun e sz b x y C st t h => fApp h e sz b (x.get st t) (y.get st t) (oPF (opAppendE C.P h e (x.get st t) (y.get st t)) [h.next] (famV (x.get st t) h) [h.next]))
  (fun zs pl ks xs _C st t _h => Option.rec (motive := fun _ => OR) .no (fun l => .v (.agg l)) (vfillF (fun i => nthF i pl) (ks.zip (getAll xs st t)) zs))
  (fun g xs C st t h => fCall g (getAll xs st t) C h)
  (fun o m C st t h => oPF (opVal C (fun x => fSlow x st t m) h o) [h.next] [h.next] [h.next]) o

/-! ## Regions and code -/
inductive GV where
  | no
  | yes
  | skip
noncomputable def asG : V → Bool → GV := fun v => V.rec (motive_1 := fun _ => Bool → GV) (motive_2 := fun _ => Unit) (fun b => fun w => Bool.rec (motive := fun _ => GV) (Bool.rec (motive := fun _ => GV) .yes .skip w) (Bool.rec (motive := fun _ => GV) .skip .yes w) b) (fun _ _ => fun _ => GV.skip) (fun _ => fun _ => GV.skip) (fun _ => GV.skip) (fun _ => GV.skip) (fun _ _ => fun _ => GV.skip) (fun _ _ => fun _ => GV.skip) (fun _ => GV.skip) (fun _ _ _ _ => fun _ => GV.skip) (fun _ => GV.skip) (fun _ => fun _ => GV.skip) (fun _ => GV.skip) (fun _ _ _ _ _ => fun _ => GV.skip) (fun _ => GV.skip) (fun _ _ _ => fun _ => GV.skip) (fun _ _ => fun _ => GV.skip) (fun _ _ => fun _ => GV.skip) (fun _ => .no) (fun _ _ => fun _ => GV.skip) (fun _ => .no) (fun _ _ _ => fun _ => GV.skip) (fun _ _ => fun _ => GV.skip) () (fun _ _ _ _ => ()) v
noncomputable def fG : FG → List V → Env → GV := fun g => FG.rec (motive := fun _ => List V → Env → GV) (fun a w st t => asG (a.get st t) w) (fun _ _ => .skip) g
noncomputable def runR : FR → Cfg → List V → Env → Hp → RR := fun r => FR.rec (motive := fun _ => Cfg → List V → Env → Hp → RR)
  (fun _ _ t h => .ok t h)
  (fun o _ ih C st t h => OR.rec (motive := fun _ => RR) .no (fun x => ih C (x :: st) t h) (fun x h' => ih C (x :: st) t h') (runO o C st t h))
  (fun o p _ ih C st t h => OR.rec (motive := fun _ => RR) .no (fun x => p.putK x t (fun t' => ih C (x :: st) t' h)) (fun x h' => p.putK x t (fun t' => ih C (x :: st) t' h')) (runO o C st t h))
  (fun g o d _ ih C st t h => OR.rec (motive := fun _ => RR) .no (fun x => putOK d x t (fun t' => ih C (x :: st) t' h)) (fun x h' => putOK d x t (fun t' => ih C (x :: st) t' h')) (GV.rec (motive := fun _ => OR) .no (runO o C st t h) (.v (.tup [])) (fG g st t)))
  (fun a _ ih C st t h => Bool.rec (motive := fun _ => RR) .no (ih C st t h) (ptrB (a.get st t))) r
noncomputable def rX : RR → XR := fun r => RR.rec (motive := fun _ => XR) .no (fun t h => .n t h) r
noncomputable def loopX : Nat → (Env → Hp → XR) → Env → Hp → XR := fun n => Nat.rec (motive := fun _ => (Env → Hp → XR) → Env → Hp → XR) (fun _ _ _ => .no)
  (fun _ ih f t h => XR.rec (motive := fun _ => XR) .no (fun t' h' => ih f t' h') (fun i t' h' => .x i t' h') (fun l t' h' => .g l t' h') (fun t' h' => .r t' h') (f t h)) n
noncomputable def thenX : XR → (Env → Hp → XR) → XR := fun r f => XR.rec (motive := fun _ => XR) .no (fun t h => f t h) (fun i t' h' => .x i t' h') (fun l t' h' => .g l t' h') (fun t' h' => .r t' h') r
noncomputable def blockX : XR → Nat → XR := fun r k => XR.rec (motive := fun _ => XR) .no (fun t h => .n t h) (fun i t' h' => Bool.rec (motive := fun _ => XR) (.x i t' h') (.n t' h') (Nat.beq i k)) (fun l t' h' => .g l t' h') (fun t' h' => .r t' h') r
noncomputable def joinH : Env → Hp → Env → Hp → XR := fun t1 h1 t2 h2 => Option.rec (motive := fun _ => XR) .no (fun h' => .n (joinT t1 t2) h') (joinF h1 h2)
noncomputable def joinX : XR → XR → XR := fun a b => XR.rec (motive := fun _ => XR) .no (fun t1 h1 => XR.rec (motive := fun _ => XR) .no (fun t2 h2 => joinH t1 h1 t2 h2) (fun _ _ _ => .no) (fun _ _ _ => .no) (fun _ _ => .no) b) (fun _ _ _ => .no) (fun _ _ _ => .no) (fun _ _ => .no) a
noncomputable def joinR2 : RR → RR → XR := fun a b => RR.rec (motive := fun _ => XR) .no (fun t1 h1 => RR.rec (motive := fun _ => XR) .no (fun t2 h2 => joinH t1 h1 t2 h2) b) a
/-- the states ahead of each operation, and behind the last -/
inductive SR where
  | mk (g : Option FG) (o : FO) (st : List V) (t : Env) (h : Hp)
noncomputable def statesR : FR → Cfg → List V → Env → Hp → List SR := fun r => FR.rec (motive := fun _ => Cfg → List V → Env → Hp → List SR)
  (fun _ st t h => [.mk none (.lenN 0) st t h])
  (fun o _ ih C st t h => .mk none o st t h :: OR.rec (motive := fun _ => List SR) [] (fun x => ih C (x :: st) t h) (fun x h' => ih C (x :: st) t h') (runO o C st t h))
  (fun o p _ ih C st t h => .mk none o st t h :: OR.rec (motive := fun _ => List SR) [] (fun x => ih C (x :: st) (p.put x t) h) (fun x h' => ih C (x :: st) (p.put x t) h') (runO o C st t h))
  (fun g o d _ ih C st t h => .mk (some g) o st t h :: OR.rec (motive := fun _ => List SR) [] (fun x => ih C (x :: st) (putO d x t) h) (fun x h' => ih C (x :: st) (putO d x t) h') (GV.rec (motive := fun _ => OR) .no (runO o C st t h) (.v (.tup [])) (fG g st t)))
  (fun _ _ _ _ _ _ _ => []) r
noncomputable def sameR : OR → OR → Bool := fun a b => OR.rec (motive := fun _ => Bool) false (fun x => OR.rec (motive := fun _ => Bool) false (fun y => x.same y) (fun _ _ => false) b) (fun _ _ => false) a
noncomputable def late1 : Option SR → Option SR → Cfg → Bool := fun a b C => Option.rec (motive := fun _ => Bool) false (fun s => Option.rec (motive := fun _ => Bool) false (fun s2 => SR.rec (motive := fun _ => Bool) (fun g o st t h => SR.rec (motive := fun _ => Bool) (fun _ _ _ _ h2 => Option.rec (motive := fun _ => Bool) (sameR (runO o C st t h) (runO o C st t h2)) (fun g => GV.rec (motive := fun _ => Bool) false (sameR (runO o C st t h) (runO o C st t h2)) true (fG g st t)) g) s2) s) b) a
noncomputable def early1 : Option SR → Option SR → Option SR → Cfg → Bool := fun a b c C => Option.rec (motive := fun _ => Bool) false (fun s => Option.rec (motive := fun _ => Bool) false (fun s2 => Option.rec (motive := fun _ => Bool) false (fun s3 => SR.rec (motive := fun _ => Bool) (fun g o st t _ => SR.rec (motive := fun _ => Bool) (fun _ _ _ _ h2 => SR.rec (motive := fun _ => Bool) (fun _ _ _ _ h3 => Option.rec (motive := fun _ => Bool) (sameR (runO o C st t h2) (runO o C st t h3)) (fun g => GV.rec (motive := fun _ => Bool) false (sameR (runO o C st t h2) (runO o C st t h3)) true (fG g st t)) g) s3) s2) s) c) b) a
noncomputable def earlyX : List (Nat × Nat) → List SR → Cfg → Bool := fun l => List.rec (motive := fun _ => List SR → Cfg → Bool) (fun _ _ => true) (fun p _ ih S C => Bool.rec (motive := fun _ => Bool) false (ih S C) (early1 (nthF p.1 S) (nthF p.2 S) (nthF (Nat.add p.2 1) S) C)) l
noncomputable def lateX : List (Nat × Nat) → List SR → Cfg → Bool := fun l => List.rec (motive := fun _ => List SR → Cfg → Bool) (fun _ _ => true) (fun p _ ih S C => Bool.rec (motive := fun _ => Bool) false (ih S C) (late1 (nthF p.1 S) (nthF (Nat.add p.2 1) S) C)) l
noncomputable def condX : V → (Env → Hp → XR) → (Env → Hp → XR) → Env → Hp → XR := fun v => V.rec (motive_1 := fun _ => (Env → Hp → XR) → (Env → Hp → XR) → Env → Hp → XR) (motive_2 := fun _ => Unit) (fun b => fun f g t h => Bool.rec (motive := fun _ => XR) (g t h) (f t h) b) (fun _ _ => fun _ _ _ _ => XR.no) (fun _ => fun _ _ _ _ => XR.no) (fun _ _ _ _ => XR.no) (fun _ _ _ _ => XR.no) (fun _ _ => fun _ _ _ _ => XR.no) (fun _ _ => fun _ _ _ _ => XR.no) (fun _ _ _ _ => XR.no) (fun _ _ _ _ => fun _ _ _ _ => XR.no) (fun _ _ _ _ => XR.no) (fun _ => fun _ _ _ _ => XR.no) (fun _ _ _ _ => XR.no) (fun _ _ _ _ _ => fun _ _ _ _ => XR.no) (fun _ _ _ _ => XR.no) (fun _ _ _ => fun _ _ _ _ => XR.no) (fun _ _ => fun _ _ _ _ => XR.no) (fun _ _ => fun _ _ _ _ => XR.no) (fun _ _ _ _ => XR.no) (fun _ _ => fun _ _ _ _ => XR.no) (fun f g t h => joinX (f t h) (g t h)) (fun _ _ _ => fun _ _ _ _ => XR.no) (fun _ _ => fun _ _ _ _ => XR.no) () (fun _ _ _ _ => ()) v
noncomputable def forkBX : Nat → Option Pa → Option Pa → Env → Hp → XR := fun T p q t h => Hp.rec (motive := fun _ => XR) (fun n b f e => putOK p (.ptr n 0) t (fun t1 => putOK q .anyb t1 (fun t2 => putK none b n (fun b' => putK (some [(n, 1)]) f n (fun f' => putK (some (2 * T + 1)) e n (fun e' => forceN n (fun n' => .n t2 ⟨Nat.add n' 1, b', f', e'⟩))))))) h
noncomputable def execX : FC → Cfg → Nat → Env → Hp → XR := fun c => FC.rec (motive := fun _ => Cfg → Nat → Env → Hp → XR)
  (fun _ _ t h => .n t h)
  (fun r C _ t h => rX (runR r C [] t h))
  (fun _ _ ia ib C n t h => thenX (ia C n t h) (ib C n))
  (fun c _ _ ia ib C n t h => condX (c.get [] t) (ia C n) (ib C n) t h)
  (fun k _ ib C n t h => blockX (ib C n t h) k)
  (fun _ ib C n t h => loopX n (ib C n) t h)
  (fun k _ _ t h => .x k t h)
  (fun l _ _ t h => .g l t h)
  (fun _ _ t h => .r t h)
  (fun r l e C _ t h => RR.rec (motive := fun _ => XR) .no (fun t' h' => Bool.rec (motive := fun _ => XR) .no (Bool.rec (motive := fun _ => XR) .no (.n t' h') (earlyX e (statesR r C [] t h) C)) (lateX l (statesR r C [] t h) C)) (runR r C [] t h))
  (fun a b C _ t h => joinR2 (runR a C [] t h) (runR b C [] t h))
  (fun _ _ _ _ => .no)
  (fun T p q _ _ t h => forkBX T p q t h) c

/-! ## Functions -/
inductive FRes where
  | t (a : FA)
  | c (a : FA) (T : Nat)
structure FFn where
  params : List (Option Pa)
  res : List FRes
  code : FC

noncomputable def enterX : List (Option Pa) → List V → Env → Option Env := fun l => List.rec (motive := fun _ => List V → Env → Option Env)
  (fun vs t => List.rec (motive := fun _ => Option Env) (some t) (fun _ _ _ => none) vs)
  (fun p _ ih vs t => List.rec (motive := fun _ => Option Env) none (fun v r _ => ih r (putO p v t)) vs) l
noncomputable def resX : FRes → Cfg → Env → Hp → Option V := fun r => FRes.rec (motive := fun _ => Cfg → Env → Hp → Option V) (fun a _ t _ => some (a.get [] t)) (fun a T C t h => opLoad C.P C.Γ h T (a.get [] t)) r
noncomputable def resAll : List FRes → Cfg → Env → Hp → Option (List V) := fun l => List.rec (motive := fun _ => Cfg → Env → Hp → Option (List V)) (fun _ _ _ => some [])
  (fun r _ ih C t h => Option.rec (motive := fun _ => Option (List V)) none (fun x => Option.rec (motive := fun _ => Option (List V)) none (fun l => some (x :: l)) (ih C t h)) (resX r C t h)) l
noncomputable def tupV : List V → V := fun l => List.rec (motive := fun _ => V) (.tup []) (fun x r _ => List.rec (motive := fun _ => V) x (fun _ _ _ => .tup (x :: r)) r) l
noncomputable def leaveX : List FRes → Cfg → Env → Hp → Option (V × Hp) := fun l C t h => Option.rec (motive := fun _ => Option (V × Hp)) none (fun vs => some (tupV vs, h)) (resAll l C t h)
noncomputable def callX : FFn → Cfg → Nat → List V → Hp → Option (V × Hp) := fun f C n args h => Option.rec (motive := fun _ => Option (V × Hp)) none
  (fun t => XR.rec (motive := fun _ => Option (V × Hp)) none (fun t' h' => leaveX f.res C t' h') (fun _ _ _ => none) (fun _ _ _ => none) (fun t' h' => leaveX f.res C t' h') (execX f.code C n t h)) (enterX f.params args .leaf)

end Go.Proofs.YtbfdgdigaiimgaaDoor.HM
