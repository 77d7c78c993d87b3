/- The heap machine, 9: regions, code, functions. -/
import Derived.Test.YtbfdgdigaiimgaaDoorHJ
namespace Go.Proofs.YtbfdgdigaiimgaaDoor.HM
open Go Go.RowKit

/-! ## Regions whose order is drawn -/

def bindsOn (o : Oper) : List Nat := (o.after.toList.filter fun e => Region.binds .any e).map (·.on)

def addAll : List Nat → List Nat → List Nat
  | [], r => r
  | x :: l, r => match r.contains x with
    | true => addAll l r
    | false => addAll l (x :: r)

/-- what lies ahead of each operation, by way of others, too -/
def befores : List Oper → Nat → List (List Nat) → Option (List (List Nat))
  | [], _, acc => some acc
  | o :: r, i, acc => match (bindsOn o).all (fun j => Nat.blt j i) with
    | true => befores r (i + 1) (acc ++ [(bindsOn o).foldl (fun s j => addAll (acc.getD j []) (addAll [j] s)) []])
    | false => none

def readsOf (ops : Array Oper) (o : Oper) : List Nat :=
  (o.op.operands.toList.filterMap fun | .tmp t => some t | _ => none) ++
  (match o.guard with
   | some (g, _) => ((ops[g]?).bind (·.dst)).toList
   | none => [])

def convApart (P : Program) (src dst : TypeId) : Bool :=
  match P.underlying src, P.underlying dst with
  | some (.slice _), _ => false
  | _, some (.slice _) => false
  | some (.pointer _), _ => false
  | some .unsafePointer, _ => false
  | _, _ => true

def sliceApart (P : Program) (T : TypeId) : Bool :=
  match P.underlying T with
  | some (.array _ _) => false
  | _ => true

/-- does the operation leave the heap out of account? -/
def apartFromHeap (C : Cfg) : Op → Bool
  | .load _ _ => false
  | .store _ _ _ => false
  | .alloc _ => false
  | .box _ _ => false
  | .buildSlice _ _ _ => false
  | .makeSlice _ _ _ => false
  | .range _ _ => false
  | .next _ _ => false
  | .convert src dst _ => convApart C.P src dst
  | .slice T _ _ _ _ => sliceApart C.P T
  | .call { callee := .builtin .append, .. } => false
  | .call { callee := .builtin .unsafeString, .. } => false
  | .call { callee := .value (.func g), .. } => C.pure g
  | .call { callee := .value _, .. } => false
  | .makeMap _ _ => false
  | .lookup _ _ _ _ => false
  | .mapUpdate _ _ _ _ => false
  | .insert _ _ _ _ => false
  | .call { callee := .builtin .len, argTypes, .. } => !(isMapT C.P argTypes)
  | .call { callee := .builtin .clear, .. } => false
  | _ => true

/-- the states ahead of each operation, and behind the last -/
def statesOps (C : Cfg) (ops : Array Oper) : List Oper → Env → Hp → List (Env × Hp)
  | [], e, h => [(e, h)]
  | o :: r, e, h => (e, h) :: match stepOp C ops e h o with
    | some (v, none) => statesOps C ops r (Env.put e o.dst v) h
    | some (v, some h') => statesOps C ops r (Env.put e o.dst v) h'
    | none => []

def isLoadO : Op → Bool
  | .load _ _ => true
  | _ => false

/-- a load that would read the same behind what stands behind it in the text -/
def lateOk (C : Cfg) (S : List (Env × Hp)) (ops : Array Oper) (i : Nat) (o : Oper) (j : Nat) : Bool :=
  match isLoadO o.op with
  | true => match S[i]?, S[j + 1]? with
    | some (e, h), some (_, h') => match wantedE e ops o with
      | some false => true
      | _ => match opVal C (rdE e) h o.op, opVal C (rdE e) h' o.op with
        | some (v, none), some (v', none) => v.same v'
        | _, _ => false
    | _, _ => false
  | false => false

/-- a load that would read the same ahead of what stands ahead of it in the text -/
def earlyOk (C : Cfg) (S : List (Env × Hp)) (ops : Array Oper) (j : Nat) (p : Oper) (i : Nat) : Bool :=
  match isLoadO p.op with
  | true => match S[j]?, S[i]?, S[i + 1]? with
    | some (e, _), some (_, h), some (_, h') => match wantedE e ops p with
      | some false => true
      | _ => match opVal C (rdE e) h p.op, opVal C (rdE e) h' p.op with
        | some (v, none), some (v', none) => v.same v'
        | _, _ => false
    | _, _, _ => false
  | false => false

/-- each two operations that may not be turned are in order -/
def pairOk (C : Cfg) (S : List (Env × Hp)) (ops : Array Oper) (bs : List (List Nat)) (i : Nat) (o : Oper) (n : Bool) (j : Nat) (p : Oper) (m : Bool) : Bool :=
  -- i is ahead of j in the text
  let ord := (bs.getD j []).contains i
  (match o.dst with
   | some d => (match p.dst with
      | some d' => !(Nat.beq d d')
      | none => true) && (ord || !((readsOf ops p).contains d))
   | none => true) &&
  (match p.dst with
   | some d => ord || !((readsOf ops o).contains d)
   | none => true) &&
  (ord || !((n && (!(apartFromHeap C p.op) && !(earlyOk C S ops j p i))) || (m && (!(apartFromHeap C o.op) && !(lateOk C S ops i o j)))))

def pairsFrom (C : Cfg) (S : List (Env × Hp)) (ops : Array Oper) (bs : List (List Nat)) (i : Nat) (o : Oper) (n : Bool) : Nat → List Oper → List Bool → Bool
  | _, [], _ => true
  | j, p :: r, m :: ms => match pairOk C S ops bs i o n j p m with
    | true => pairsFrom C S ops bs i o n (j + 1) r ms
    | false => false
  | _, _ :: _, [] => false

def pairsAll (C : Cfg) (S : List (Env × Hp)) (ops : Array Oper) (bs : List (List Nat)) : Nat → List Oper → List Bool → Bool
  | _, [], _ => true
  | i, o :: r, n :: ns => match pairsFrom C S ops bs i o n (i + 1) r ns with
    | true => pairsAll C S ops bs (i + 1) r ns
    | false => false
  | _, _ :: _, [] => false

def closedFrom (bs : List (List Nat)) : Nat → List Oper → Bool
  | _, [] => true
  | i, o :: r => match (bindsOn o).all (fun j => Nat.blt j i) && (bs.getD i []).all (fun k => (bindsOn o).any fun j => Nat.beq k j || (bs.getD j []).contains k) with
    | true => closedFrom bs (i + 1) r
    | false => false

def orderOk (C : Cfg) (S : List (Env × Hp)) (ops : Array Oper) (tr : List Bool) : Bool :=
  match befores ops.toList 0 [] with
  | some bs => closedFrom bs 0 ops.toList && pairsAll C S ops bs 0 ops.toList tr
  | none => false

def isStoreO : Op → Bool
  | .store _ _ _ => true
  | _ => false

/-- an operation, two stores behind it in any order, and one behind both -/
def forkOk (ops : Array Oper) : Bool :=
  match ops.toList with
  | [o0, o1, o2, o3] => ((isStoreO o1.op && isStoreO o2.op) && (bindsOn o0).isEmpty) && (((bindsOn o1).all (fun j => Nat.beq j 0) && (bindsOn o1).contains 0) &&
      (((bindsOn o2).all (fun j => Nat.beq j 0) && (bindsOn o2).contains 0) && (((bindsOn o3).all (fun j => Nat.blt j 3) && (bindsOn o3).contains 1) && (bindsOn o3).contains 2)))
  | _ => false

/-- both orders, and what both give -/
def forkE (C : Cfg) (ops : Array Oper) (e : Env) (h : Hp) : Option (Env × Hp) :=
  match ops.toList with
  | [o0, o1, o2, o3] => match runOps C ops [o0, o1, o2, o3] e h, runOps C ops [o0, o2, o1, o3] e h with
    | some (e1, h1), some (e2, h2) => match h1.join h2 with
      | some h' => some (joinT e1 e2, h')
      | none => none
    | _, _ => none
  | _ => none

/-! ## Allocations that hang on nothing: they may be made at any time -/

/-- does it leave the heap out of account, or is it such an allocation? -/
def apA (C : Cfg) (A : Nat → Option V) (i : Nat) (o : Op) : Bool := apartFromHeap C o || (A i).isSome

def pairOkA (C : Cfg) (A : Nat → Option V) (S : List (Env × Hp)) (ops : Array Oper) (bs : List (List Nat)) (i : Nat) (o : Oper) (n : Bool) (j : Nat) (p : Oper) (m : Bool) : Bool :=
  let ord := (bs.getD j []).contains i
  (match o.dst with
   | some d => (match p.dst with
      | some d' => !(Nat.beq d d')
      | none => true) && (ord || !((readsOf ops p).contains d))
   | none => true) &&
  (match p.dst with
   | some d => ord || !((readsOf ops o).contains d)
   | none => true) &&
  (ord || !((n && (!(apA C A j p.op) && !(earlyOk C S ops j p i))) || (m && (!(apA C A i o.op) && !(lateOk C S ops i o j)))))

theorem pairOkA_none {C : Cfg} {S : List (Env × Hp)} {ops : Array Oper} {bs : List (List Nat)} {i j : Nat} {o p : Oper} {n m : Bool} : pairOkA C (fun _ => none) S ops bs i o n j p m = pairOk C S ops bs i o n j p m := by
  simp only [pairOkA, pairOk, apA, Option.isSome_none, Bool.or_false]

def pairsFromA (C : Cfg) (A : Nat → Option V) (S : List (Env × Hp)) (ops : Array Oper) (bs : List (List Nat)) (i : Nat) (o : Oper) (n : Bool) : Nat → List Oper → List Bool → Bool
  | _, [], _ => true
  | j, p :: r, m :: ms => match pairOkA C A S ops bs i o n j p m with
    | true => pairsFromA C A S ops bs i o n (j + 1) r ms
    | false => false
  | _, _ :: _, [] => false

def pairsAllA (C : Cfg) (A : Nat → Option V) (S : List (Env × Hp)) (ops : Array Oper) (bs : List (List Nat)) : Nat → List Oper → List Bool → Bool
  | _, [], _ => true
  | i, o :: r, n :: ns => match pairsFromA C A S ops bs i o n (i + 1) r ns with
    | true => pairsAllA C A S ops bs (i + 1) r ns
    | false => false
  | _, _ :: _, [] => false

/-- an allocation whose block is given ahead: what it gives, of what type the cells are, the cells -/
def floatV (P : Program) (rd : Operand → Option V) (a : Nat) : Op → Option (V × TypeId × List V)
  | .alloc T => match zeroC P T with
    | some cs => some (.ptr a 0, T, cs)
    | none => none
  | .makeSlice T l c => match P.underlying T, rd l, rd c with
    | some (.slice e), some (.int _ x), some (.int _ y) => match szOf P e, zeroC P e, bytesOf P e with
      | some sz, some zs, some by_ => if 0 < sz ∧ zs.length = sz ∧ 0 ≤ x ∧ x = y ∧ y < 9223372036854775808 ∧ (by_ : Int) * y ≤ 281474976710656 then
          some (.sl a 0 x.toNat sz, e, zerosOf zs (x.toNat * sz))
        else none
      | _, _, _ => none
    | _, _, _ => none
  | _ => none

def sameInt : Option V → Option V → Bool
  | some (.int _ x), some (.int _ y) => decide (x = y)
  | _, _ => false

/-- what such an allocation reads is as it will be -/
def floatEq (rd rd0 : Operand → Option V) : Op → Bool
  | .alloc _ => true
  | .makeSlice _ l c => sameInt (rd l) (rd0 l) && sameInt (rd c) (rd0 c)
  | _ => false

def vblk : V → Option Nat
  | .ptr a _ => some a
  | .sl a _ _ _ => some a
  | _ => none

def traceA (C : Cfg) (A : Nat → Option V) (rd0 : Operand → Option V) (ops : Array Oper) : Nat → List Oper → Env → Hp → Option (List Bool × List (Env × Hp) × Env × Hp)
  | _, [], e, h => some ([], [(e, h)], e, h)
  | i, o :: r, e, h => match A i with
    | some v => match floatEq (rdE e) rd0 o.op with
      | true => match traceA C A rd0 ops (i + 1) r (Env.put e o.dst v) h with
        | some (l, S, e', h') => some (false :: l, (e, h) :: S, e', h')
        | none => none
      | false => none
    | none => match stepOp C ops e h o with
      | some (v, none) => match traceA C A rd0 ops (i + 1) r (Env.put e o.dst v) h with
        | some (l, S, e', h') => some (false :: l, (e, h) :: S, e', h')
        | none => none
      | some (v, some h1) => match traceA C A rd0 ops (i + 1) r (Env.put e o.dst v) h1 with
        | some (l, S, e', h') => some (true :: l, (e, h) :: S, e', h')
        | none => none
      | none => none

def isFloat (o : Oper) : Bool := match o.dst, o.op, o.guard with
  | some _, .alloc _, none => (bindsOn o).isEmpty
  | some _, .makeSlice _ _ _, none => true
  | _, _, _ => false

def floatsFrom : Nat → List Oper → List (Nat × Op)
  | _, [] => []
  | i, o :: r => match isFloat o with
    | true => (i, o.op) :: floatsFrom (i + 1) r
    | false => floatsFrom (i + 1) r

/-- the operation, the block, what it gives, the cells' type, the cells -/
abbrev Flo := Nat × Nat × V × TypeId × List V

def preAlloc (P : Program) (rd0 : Operand → Option V) : List (Nat × Op) → Hp → List Flo × Hp
  | [], h => ([], h)
  | (i, o) :: r, h => match floatV P rd0 h.next o with
    | some (v, T, cs) => match preAlloc P rd0 r ((h.new cs).withEl h.next (2 * T + 1)) with
      | (l, h') => ((i, h.next, v, T, cs) :: l, h')
    | none => preAlloc P rd0 r h

def getA : List Flo → Nat → Option V
  | [], _ => none
  | (j, _, v, _) :: r, i => match Nat.beq j i with
    | true => some v
    | false => getA r i

/-- till something that hangs on it writes, the block is as it was made -/
def ghostFrom (bs : List (List Nat)) (i T a : Nat) (cs : List V) : Nat → List (Env × Hp) → List Bool → Bool
  | _, [], _ => true
  | m, (_, h) :: S, tr => (match h.t.get a with
      | some x => Blk.same (.cells a 0 0 cs) x
      | none => false) && ((match h.els.get a with
      | some e => Nat.beq e (2 * T + 1)
      | none => false) && (match tr with
      | [] => true
      | n :: tr' => (n && (bs.getD m []).contains i) || ghostFrom bs i T a cs (m + 1) S tr'))

def regionA (C : Cfg) (ops : Array Oper) (rd0 : Operand → Option V) (e : Env) (h : Hp) : Option (Env × Hp) :=
  match befores ops.toList 0 [], preAlloc C.P rd0 (floatsFrom 0 ops.toList) h with
  | some bs, (fl, hA) => match traceA C (getA fl) rd0 ops 0 ops.toList e hA with
    | some (tr, S, e', h') => match closedFrom bs 0 ops.toList && (pairsAllA C (getA fl) S ops bs 0 ops.toList tr && fl.all fun f => ghostFrom bs f.1 f.2.2.2.1 f.2.1 f.2.2.2.2 0 S tr) with
      | true => some (e', h')
      | false => none
    | none => none
  | _, _ => none

def regionE (C : Cfg) (ops : Array Oper) (draw : Bool) (e : Env) (h : Hp) : Option (Env × Hp) :=
  match draw with
  | false => runOps C ops ops.toList e h
  | true => match forkOk ops with
    | true => forkE C ops e h
    | false => match traceOps C ops ops.toList e h with
      | some (tr, e', h') => match orderOk C (statesOps C ops ops.toList e h) ops tr with
        | true => some (e', h')
        | false => regionA C ops (rdE e') e h
      | none => none

/-! ## Code -/

inductive AX where
  | normal
  | exit (id : Nat)
  | goto (l : Nat)
  | ret
  deriving DecidableEq

def loopE (f : Env → Hp → Option (AX × Env × Hp)) : Nat → Env → Hp → Option (AX × Env × Hp)
  | 0, _, _ => none
  | n + 1, e, h => match f e h with
    | some (.normal, e', h') => loopE f n e' h'
    | r => r

def enterE : Nat → List V → Env → Env
  | _, [], e => e
  | i, v :: r, e => enterE (i + 1) r (Tr.put (some v) e i)

def notDefer : Op → Bool
  | .defer _ => false
  | _ => true

def dstsIn (n : Nat) : Code → Bool
  | .region _ ops _ => (ops.toList.all fun o => match o.dst with
    | some d => Nat.blt d n
    | none => true) && ops.toList.all fun o => notDefer o.op
  | .seq x y => dstsIn n x && dstsIn n y
  | .cond _ x y => dstsIn n x && dstsIn n y
  | .block _ b => dstsIn n b
  | .loop b => dstsIn n b
  | .rangeFunc _ ps x y => (ps.toList.all fun d => Nat.blt d n) && (dstsIn n x && dstsIn n y)
  | _ => true

/-- no range over a function -/
def noRange : Code → Bool
  | .rangeFunc _ _ _ _ => false
  | .seq x y => noRange x && noRange y
  | .cond _ x y => noRange x && noRange y
  | .block _ b => noRange b
  | .loop b => noRange b
  | .scope b => noRange b
  | _ => true

/-- nothing is written into that slot -/
def keepsSlot (s : Nat) : Code → Bool
  | .region _ ops _ => ops.toList.all fun o => match o.dst with
    | some d => !(Nat.beq d s)
    | none => true
  | .seq x y => keepsSlot s x && keepsSlot s y
  | .cond _ x y => keepsSlot s x && keepsSlot s y
  | .block _ b => keepsSlot s b
  | .loop b => keepsSlot s b
  | .rangeFunc _ _ _ _ => false
  | _ => true


/-! ## Functions that are ranged over -/

/-- is it a call of the function in that slot? -/
def yieldsO (s : Nat) : Op → Option (List Operand)
  | .call { callee := .value (.tmp t), args, .. } => match Nat.beq t s with
    | true => some args.toList
    | false => none
  | _ => none

/-- a round: what came; the jump by which it was left -/
abbrev Rounds := List V → Hp → Option (Option AX × Hp)

def runOpsY (C : Cfg) (s : Nat) (B : Rounds) (ops : Array Oper) : List Oper → Env → Hp → Option AX → Option (Env × Hp × Option AX)
  | [], e, h, p => some (e, h, p)
  | o :: r, e, h, p => match yieldsO s o.op with
    | some args => match wantedE e ops o with
      | some true => match p, rdAll (rdE e) args with
        | none, some vs => match B vs h with
          | some (none, h') => runOpsY C s B ops r (Env.put e o.dst (.bool true)) h' none
          | some (some x, h') => runOpsY C s B ops r (Env.put e o.dst (.bool false)) h' (some x)
          | none => none
        | _, _ => none
      | some false => runOpsY C s B ops r (Env.put e o.dst (.tup [])) h p
      | none => none
    | none => match stepOp C ops e h o with
      | some (v, none) => runOpsY C s B ops r (Env.put e o.dst v) h p
      | some (v, some h') => runOpsY C s B ops r (Env.put e o.dst v) h' p
      | none => none

def loopY (f : Env → Hp → Option AX → Option (AX × Env × Hp × Option AX)) : Nat → Env → Hp → Option AX → Option (AX × Env × Hp × Option AX)
  | 0, _, _, _ => none
  | n + 1, e, h, p => match f e h p with
    | some (.normal, e', h', p') => loopY f n e' h' p'
    | r => r

def iterE (C : Cfg) (lim s : Nat) (B : Rounds) : Code → Env → Hp → Option AX → Option (AX × Env × Hp × Option AX)
  | .skip, e, h, p => some (.normal, e, h, p)
  | .region _ ops draw, e, h, p => match draw with
    | false => match runOpsY C s B ops ops.toList e h p with
      | some (e', h', p') => some (.normal, e', h', p')
      | none => none
    | true => match regionE C ops true e h with
      | some (e', h') => some (.normal, e', h', p)
      | none => none
  | .seq x y, e, h, p => match iterE C lim s B x e h p with
    | some (.normal, e', h', p') => iterE C lim s B y e' h' p'
    | r => r
  | .cond c x y, e, h, p => match rdE e c with
    | some (.bool true) => iterE C lim s B x e h p
    | some (.bool false) => iterE C lim s B y e h p
    | _ => none
  | .block id b, e, h, p => match iterE C lim s B b e h p with
    | some (.exit id', e', h', p') => match Nat.beq id' id with
      | true => some (.normal, e', h', p')
      | false => some (.exit id', e', h', p')
    | r => r
  | .loop b, e, h, p => loopY (iterE C lim s B b) lim e h p
  | .exit id, e, h, p => some (.exit id, e, h, p)
  | .label _, e, h, p => some (.normal, e, h, p)
  | .ret, e, h, p => some (.ret, e, h, p)
  | _, _, _, _ => none

/-- the function that is ranged over, from its beginning -/
def iterRun (C : Cfg) (lim : Nat) (g : FuncId) (xs ys : List V) (B : Rounds) (h : Hp) : Option (Option AX × Hp) :=
  match C.P.funcs[g]?, isBody C.P g with
  | some fn, true => match fn.body with
    | some c => match Nat.ble (xs ++ (V.any :: ys)).length fn.ntmps && (dstsIn fn.ntmps c && (keepsSlot xs.length c && fn.results.toList.isEmpty)) with
      | true => match iterE C lim xs.length B c (enterE 0 (xs ++ (V.any :: ys)) .leaf) h none with
        | some (.normal, _, h', p) => some (p, h')
        | some (.ret, _, h', p) => some (p, h')
        | _ => none
      | false => none
    | none => none
  | _, _ => none

def putPs : List Nat → List V → Env → Env
  | t :: ps, v :: vs, e => putPs ps vs (Env.put e (some t) v)
  | _, _, e => e

/-- a round's body -/
def roundB (ps : List Nat) (fa fb : Env → Hp → Option (AX × Env × Hp)) (e : Env) : Rounds := fun vs h => match Nat.beq vs.length ps.length with
  | true => match fa (putPs ps vs e) h with
    | some (.normal, e1, h1) => match fb e1 h1 with
      | some (.normal, _, h2) => some (none, h2)
      | some (x, _, h2) => some (some x, h2)
      | none => none
    | _ => none
  | false => none

def rangeE (C : Cfg) (lim : Nat) (f : V) (ps : List Nat) (ok : Bool) (fa fb : Env → Hp → Option (AX × Env × Hp)) (e : Env) (h : Hp) : Option (AX × Env × Hp) :=
  match f, ok with
  | .fn g xs ys, true => match iterRun C lim g xs ys (roundB ps fa fb e) h with
    | some (none, h') => some (.normal, e, h')
    | some (some x, h') => some (x, e, h')
    | none => none
  | _, _ => none

def execE (C : Cfg) (lim : Nat) : Code → Env → Hp → Option (AX × Env × Hp)
  | .skip, e, h => some (.normal, e, h)
  | .region _ ops draw, e, h => match regionE C ops draw e h with
    | some (e', h') => some (.normal, e', h')
    | none => none
  | .seq x y, e, h => match execE C lim x e h with
    | some (.normal, e', h') => execE C lim y e' h'
    | r => r
  | .cond c x y, e, h => match rdE e c with
    | some (.bool true) => execE C lim x e h
    | some (.bool false) => execE C lim y e h
    | some .anyb => match execE C lim x e h with
      | some (.normal, e1, h1) => match execE C lim y e h with
        | some (.normal, e2, h2) => match h1.join h2 with
          | some h' => some (.normal, joinT e1 e2, h')
          | none => none
        | _ => none
      | _ => none
    | _ => none
  | .block id b, e, h => match execE C lim b e h with
    | some (.exit id', e', h') => match Nat.beq id' id with
      | true => some (.normal, e', h')
      | false => some (.exit id', e', h')
    | r => r
  | .loop b, e, h => loopE (execE C lim b) lim e h
  | .exit id, e, h => some (.exit id, e, h)
  | .label _, e, h => some (.normal, e, h)
  | .goto l, e, h => some (.goto l, e, h)
  | .ret, e, h => some (.ret, e, h)
  | .rangeFunc f ps x y, e, h => match rdE e f with
    | some f => rangeE C lim f ps.toList (noRange x && noRange y) (execE C lim x) (execE C lim y) e h
    | none => none
  | _, _, _ => none

/-! ## Functions -/

def resE (P : Program) (Γ : Glob) (e : Env) (h : Hp) : ResultVar → Option V
  | .tmp t => some (Env.get e t)
  | .cell a T => opLoad P Γ h T (Env.get e a)

def leaveE (P : Program) (Γ : Glob) (rs : List ResultVar) (e : Env) (h : Hp) : Option V :=
  match mapC (resE P Γ e h) rs with
  | some [v] => some v
  | some vs => some (.tup vs)
  | none => none

def callE (C : Cfg) (lim : Nat) (f : FuncId) : Spec := fun args h =>
  match C.P.funcs[f]? with
  | some fn => match fn.body with
    | some c => match Nat.ble args.length fn.ntmps && dstsIn fn.ntmps c with
      | true => match execE C lim c (enterE 0 args .leaf) h with
        | some (.normal, e, h') => match leaveE C.P C.Γ fn.results.toList e h' with
          | some v => some (v, h')
          | none => none
        | some (.ret, e, h') => match leaveE C.P C.Γ fn.results.toList e h' with
          | some v => some (v, h')
          | none => none
        | _ => none
      | false => none
    | none => none
  | none => none

def trOf : List Nat → Tr Unit → Tr Unit
  | [], t => t
  | n :: l, t => trOf l (Tr.put (some ()) t n)

def inTr (t : Tr Unit) (n : Nat) : Bool := match Tr.get t n with
  | some _ => true
  | none => false

/-- the whole program, so deep -/
def runF (P : Program) (Γ : Glob) (pure closed : FuncId → Bool) (ext : FuncId → Option (List V → Option V)) (bodies : Tr Unit) (extra : FuncId → Option Spec) (lim : Nat) : Nat → FuncId → Spec
  | 0, _ => fun _ _ => none
  | k + 1, f => callE ⟨P, Γ, fun g => match extra g with
      | some s => some s
      | none => match Tr.get bodies g with
        | some _ => some (runF P Γ pure closed ext bodies extra lim k g)
        | none => none, pure, ext, closed⟩ lim f


/-! ## Soundness: frames -/

def EnvR (ρ : Ren) (e : Env) (tm : Array Value) : Prop := ∀ s, VR ρ (Env.get e s) (tm.getD s undef)

theorem EnvR.ext {ρ ρ' : Ren} {e : Env} {tm : Array Value} (h : EnvR ρ e tm) (he : Ext ρ ρ') : EnvR ρ' e tm := fun s => (h s).ext he

theorem getD_set (tm : Array Value) (d s : Nat) (u : Value) (hd : d < tm.size) : (tm.setIfInBounds d u).getD s undef = if s = d then u else tm.getD s undef := by
  simp only [Array.getD_eq_getD_getElem?, Array.getElem?_setIfInBounds]
  by_cases e : d = s
  · subst e; simp [hd]
  · rw [if_neg e, if_neg (fun h => e h.symm)]

theorem env_get_put (e : Env) (d : Nat) (v : V) (s : Nat) : Env.get (Env.put e (some d) v) s = if s = d then v else Env.get e s := by
  simp only [Env.get, Env.put, Tr.get_put]
  by_cases h : s = d
  · subst h; simp
  · simp [h]

theorem env_put_ne {e : Env} {d : Option Nat} {v : V} {s : Nat} (h : d ≠ some s) : Env.get (Env.put e d v) s = Env.get e s := by
  cases d with
  | none => rfl
  | some d => rw [env_get_put, if_neg (fun hh => h (by rw [hh]))]

theorem act_put_ne {a : Act} {d : Option Nat} {u : Value} {s : Nat} (h : d ≠ some s) : (a.put d u).tmps.getD s undef = a.tmps.getD s undef := by
  cases d with
  | none => rfl
  | some d =>
    have : s ≠ d := fun e => h (by rw [e])
    simp only [Act.put, Array.getD_eq_getD_getElem?, Array.getElem?_setIfInBounds]
    rw [if_neg (fun e => this e.symm)]

theorem act_put_eq {a : Act} {d : Nat} {u : Value} (hd : d < a.tmps.size) : (a.put (some d) u).tmps.getD d undef = u := by
  simp only [Act.put]; rw [getD_set _ _ _ _ hd, if_pos rfl]

theorem put_size (a : Act) (d : Option Tmp) (v : Value) : (a.put d v).tmps.size = a.tmps.size := by cases d <;> simp [Act.put]
theorem put_defers' (a : Act) (d : Option Tmp) (v : Value) : (a.put d v).defers = a.defers := by cases d <;> rfl

theorem EnvR.put {ρ : Ren} {e : Env} {a : Act} (h : EnvR ρ e a.tmps) {d : Option Nat} {v : V} {u : Value} (hv : VR ρ v u) (hd : ∀ k, d = some k → k < a.tmps.size) : EnvR ρ (Env.put e d v) (a.put d u).tmps := by
  intro s
  by_cases hs : d = some s
  · subst hs
    rw [act_put_eq (hd s rfl), env_get_put, if_pos rfl]; exact hv
  · rw [env_put_ne hs, act_put_ne hs]; exact h s

theorem undef_VR (ρ : Ren) : VR ρ (.tup []) undef := VRs.tup (.nil _)

theorem rdE_sound {ρ : Ren} {e : Env} {a : Act} (h : EnvR ρ e a.tmps) : ∀ x v, rdE e x = some v → VR ρ v (a.eval x) := by
  intro x v hx
  cases x with
  | tmp t => simp only [rdE, Option.some.injEq] at hx; subst hx; exact h t
  | const c => exact constV_sound hx
  | global g => simp only [rdE, Option.some.injEq] at hx; subst hx; exact .gp g 0
  | func f => simp only [rdE, Option.some.injEq] at hx; subst hx; exact .fn f [] [] #[] #[] rfl rfl (fun i x u h => by simp at h) (fun i x u h => by simp at h)

/-- whether a guarded operation is run hangs on one slot -/
theorem wantedE_sound {ρ : Ren} {e : Env} {a : Act} {ops : Array Oper} {o : Oper} (h : ∀ d, (match o.guard with | some (g, _) => (ops[g]?).bind (·.dst) | none => none) = some d → VR ρ (Env.get e d) (a.tmps.getD d undef)) :
    ∀ b, wantedE e ops o = some b → Region.wanted o (yielded ops a.tmps) = b := by
  intro bb hbb
  unfold wantedE at hbb
  unfold Region.wanted
  cases hg : o.guard with
  | none => rw [hg] at hbb; simpa using hbb
  | some jw =>
    obtain ⟨j, want⟩ := jw
    simp only
    rw [hg] at h hbb
    simp only at h hbb
    cases hj : (ops[j]?).bind (·.dst) with
    | none => rw [hj] at hbb; simpa [yielded, hj] using hbb
    | some d =>
      have hv := h d hj
      rw [hj] at hbb
      simp only at hbb
      simp only [yielded, hj, Option.bind_some]
      cases ht : a.tmps[d]? with
      | none =>
        have : a.tmps.getD d undef = undef := by rw [Array.getD_eq_getD_getElem?, ht]; rfl
        rw [this] at hv
        cases hq : Env.get e d <;> rw [hq] at hv hbb <;> first | (cases hv; done) | (cases hbb; first | rfl | done)
      | some u =>
        have : a.tmps.getD d undef = u := by rw [Array.getD_eq_getD_getElem?, ht]; rfl
        rw [this] at hv
        cases hq : Env.get e d <;> rw [hq] at hv hbb <;> cases hv <;> cases hbb <;> rfl

/-! ## Locality -/

theorem rdAll_local {rd rd' : Operand → Option V} : ∀ (l : List Operand), (∀ x ∈ l, rd x = rd' x) → rdAll rd l = rdAll rd' l := by
  intro l
  induction l with
  | nil => intro _; rfl
  | cons x l ih => intro h; simp only [rdAll, h x List.mem_cons_self, ih (fun y hy => h y (List.mem_cons_of_mem _ hy))]

theorem optRd_local {rd rd' : Operand → Option V} (o : Option Operand) (h : ∀ x, o = some x → rd x = rd' x) : optRd rd o = optRd rd' o := by
  cases o with
  | none => rfl
  | some x => simp only [optRd, h x rfl]

theorem pop_local {P : Program} {rd rd' : Operand → Option V} (o : Op) (h : ∀ x ∈ o.operands.toList, rd x = rd' x) : pop P rd o = pop P rd' o := by
  unfold pop
  split <;> first
    | rfl
    | (simp only [Op.operands, List.mem_cons, List.not_mem_nil, or_false, forall_eq_or_imp, forall_eq] at h
       first
         | simp only [h]
         | (obtain ⟨h1, h2, h3⟩ := h; simp only [h1, h2, h3])
         | (obtain ⟨h1, h2⟩ := h; simp only [h1, h2]))
    | skip
  · rename_i T y lo hi
    have h1 : rd y = rd' y := h y (by simp [Op.operands])
    have h2 : optRd rd lo = optRd rd' lo := optRd_local lo fun z hz => h z (by subst hz; simp [Op.operands])
    have h3 : optRd rd hi = optRd rd' hi := optRd_local hi fun z hz => h z (by subst hz; simp [Op.operands])
    simp only [h1, h2, h3]
  · rename_i f first caps
    have h1 := rdAll_local (rd := rd) (rd' := rd') first.toList fun z hz => h z (by simp only [Op.operands, Array.toList_append, List.mem_append]; exact .inl hz)
    have h2 := rdAll_local (rd := rd) (rd' := rd') caps.toList fun z hz => h z (by simp only [Op.operands, Array.toList_append, List.mem_append]; exact .inr hz)
    simp only [h1, h2]
  all_goals
    rename_i args argTypes
    have h1 := rdAll_local (rd := rd) (rd' := rd') args.toList fun z hz => h z (by simp only [Op.operands, Call.operands, Array.toList_append, List.mem_append]; exact .inr hz)
    simp only [h1]

theorem sym_local {P : Program} {rd rd' : Operand → Option V} (o : Op) (h : ∀ x ∈ o.operands.toList, rd x = rd' x) : sym P rd o = sym P rd' o := by
  unfold sym
  split <;> first
    | rfl
    | (simp only [Op.operands, List.mem_cons, List.not_mem_nil, or_false, forall_eq_or_imp, forall_eq] at h
       first
         | simp only [h]
         | (obtain ⟨h1, h2⟩ := h; simp only [h1, h2]))
    | skip
  · rename_i T y lo hi
    have h1 : rd y = rd' y := h y (by simp [Op.operands])
    have h2 : optRd rd lo = optRd rd' lo := optRd_local lo fun z hz => h z (by subst hz; simp [Op.operands])
    have h3 : optRd rd hi = optRd rd' hi := optRd_local hi fun z hz => h z (by subst hz; simp [Op.operands])
    simp only [h1, h2, h3]
  all_goals
    rename_i args argTypes
    have h1 := rdAll_local (rd := rd) (rd' := rd') args.toList fun z hz => h z (by simp only [Op.operands, Call.operands, Array.toList_append, List.mem_append]; exact .inr hz)
    simp only [h1]

theorem popS_local {P : Program} {rd rd' : Operand → Option V} (o : Op) (h : ∀ x ∈ o.operands.toList, rd x = rd' x) : popS P rd o = popS P rd' o := by
  unfold popS
  rw [pop_local o h, sym_local o h]

theorem parts_local {rd rd' : Operand → Option V} {parts : Array (Nat × Operand)} (h : ∀ x ∈ (parts.toList.map (·.2)).toArray.toList, rd x = rd' x) : rdAll rd (parts.toList.map (·.2)) = rdAll rd' (parts.toList.map (·.2)) :=
  rdAll_local _ fun x hx => h x (by simpa using hx)

theorem opRest_local {P : Program} {rd rd' : Operand → Option V} (o : Op) (hl : ∀ x ∈ o.operands.toList, rd x = rd' x) : opRest P rd o = opRest P rd' o := by
  unfold opRest
  split
  · rename_i T parts
    rw [parts_local (rd := rd) (rd' := rd') hl]
  · rename_i args argTypes
    have h1 := rdAll_local (rd := rd) (rd' := rd') args.toList fun z hz => hl z (by simp only [Op.operands, Call.operands, Array.toList_append, List.mem_append]; exact .inr hz)
    simp only [h1]
  · rename_i args argTypes
    have h1 := rdAll_local (rd := rd) (rd' := rd') args.toList fun z hz => hl z (by simp only [Op.operands, Call.operands, Array.toList_append, List.mem_append]; exact .inr hz)
    simp only [h1]
  · rename_i args argTypes
    have h1 := rdAll_local (rd := rd) (rd' := rd') args.toList fun z hz => hl z (by simp only [Op.operands, Call.operands, Array.toList_append, List.mem_append]; exact .inr hz)
    simp only [h1]
  · rw [popS_local o hl]

theorem opVal_local {C : Cfg} {rd rd' : Operand → Option V} {h : Hp} (o : Op) (hl : ∀ x ∈ o.operands.toList, rd x = rd' x) : opVal C rd h o = opVal C rd' h o := by
  unfold opVal
  split <;> first
    | rfl
    | (simp only [Op.operands, List.mem_cons, List.not_mem_nil, or_false, forall_eq_or_imp, forall_eq] at hl
       first
         | simp only [hl]
         | (obtain ⟨h1, h2, h3⟩ := hl; simp only [h1, h2, h3])
         | (obtain ⟨h1, h2⟩ := hl; simp only [h1, h2]))
    | skip
  · rename_i T len parts
    rw [parts_local (rd := rd) (rd' := rd') hl]
  · rename_i T y lo hi
    have h1 : rd y = rd' y := hl y (by simp [Op.operands])
    have h2 : optRd rd lo = optRd rd' lo := optRd_local lo fun z hz => hl z (by subst hz; simp [Op.operands])
    have h3 : optRd rd hi = optRd rd' hi := optRd_local hi fun z hz => hl z (by subst hz; simp [Op.operands])
    simp only [h1, h2, h3]
  · rename_i T y lo hi mx
    have h1 : rd y = rd' y := hl y (by simp [Op.operands])
    have h2 : optRd rd lo = optRd rd' lo := optRd_local lo fun z hz => hl z (by subst hz; simp [Op.operands])
    have h3 : optRd rd hi = optRd rd' hi := optRd_local hi fun z hz => hl z (by subst hz; simp [Op.operands])
    have h4 : rd mx = rd' mx := hl mx (by simp [Op.operands])
    simp only [h1, h2, h3, h4]
  · rename_i args argTypes
    have h1 := rdAll_local (rd := rd) (rd' := rd') args.toList fun z hz => hl z (by simp only [Op.operands, Call.operands, Array.toList_append, List.mem_append]; exact .inr hz)
    simp only [h1]
  · rename_i args argTypes
    have h1 := rdAll_local (rd := rd) (rd' := rd') args.toList fun z hz => hl z (by simp only [Op.operands, Call.operands, Array.toList_append, List.mem_append]; exact .inr hz)
    simp only [h1]
  · rename_i args argTypes
    have h1 := rdAll_local (rd := rd) (rd' := rd') args.toList fun z hz => hl z (by simp only [Op.operands, Call.operands, Array.toList_append, List.mem_append]; exact .inr hz)
    simp only [h1]
  · rename_i args argTypes
    have h1 := rdAll_local (rd := rd) (rd' := rd') args.toList fun z hz => hl z (by simp only [Op.operands, Call.operands, Array.toList_append, List.mem_append]; exact .inr hz)
    simp only [h1]
  · rename_i T r
    have h1 : optRd rd r = optRd rd' r := optRd_local r fun z hz => hl z (by subst hz; simp [Op.operands])
    simp only [h1]
  · rename_i f args argTypes
    have h1 := rdAll_local (rd := rd) (rd' := rd') args.toList fun z hz => hl z (by simp only [Op.operands, Call.operands, Array.toList_append, List.mem_append]; exact .inr hz)
    have h2 : rd f = rd' f := hl f (by simp [Op.operands, Call.operands])
    simp only [h1, h2]
  · rw [opRest_local o hl]

theorem still_none {v : Option V} {x : V} {k : Option Hp} (h : still v = some (x, k)) : k = none := (still_inv h).2

/-- an operation that leaves the heap out of account gives the same in each, and writes nothing -/
theorem opVal_apart {C : Cfg} {e : Env} {h h' : Hp} {o : Op} (ha : apartFromHeap C o = true) : opVal C (rdE e) h o = opVal C (rdE e) h' o ∧ ∀ x k, opVal C (rdE e) h o = some (x, k) → k = none := by
  unfold apartFromHeap at ha
  split at ha
  case h_9 =>
    rename_i src dst y
    unfold convApart at ha
    have b1 : ∀ (h : Hp) v, opBytesOf C.P h src dst v = none := by
      intro h v
      unfold opBytesOf
      split
      · rename_i hs hd; rw [hs, hd] at ha; simp at ha
      · rename_i hs hd; rw [hs, hd] at ha; simp at ha
      · rfl
    have b2 : ∀ (h : Hp) v, opStrOf C.P h src dst v = none := by
      intro h v
      unfold opStrOf
      split
      · rename_i hd _; rw [hd] at ha; exfalso; simp at ha
      · rename_i hd _; rw [hd] at ha; exfalso; simp at ha
      · rfl
    have b3 : ∀ (h : Hp) v, opConvPtr C.P h src dst v = none := by
      intro h v
      unfold opConvPtr
      split <;> first
        | rfl
        | (rename_i h1 h2; rw [h1, h2] at ha; simp at ha; done)
        | (rename_i h1 h2 _; rw [h1, h2] at ha; simp at ha; done)
    have key : ∀ h, opVal C (rdE e) h (.convert src dst y) = match rdE e y with | some v => still (opConvX C.P src dst v) | none => none := by
      intro h
      simp only [opVal]
      cases rdE e y with
      | none => rfl
      | some v => simp only [b1, b2, b3]
    refine ⟨by rw [key, key], fun x k hk => ?_⟩
    rw [key] at hk
    split at hk
    · exact still_none hk
    · cases hk
  case h_10 =>
    rename_i T y lo hi mx
    unfold sliceApart at ha
    have b1 : ∀ (h : Hp) a l k, opSliceArr C.P h T a l k = none := by
      intro h a l k
      unfold opSliceArr
      split
      · rename_i hd; rw [hd] at ha; simp at ha
      · rfl
    cases mx with
    | none =>
      have key : ∀ h, opVal C (rdE e) h (.slice T y lo hi none) = match rdE e y, optRd (rdE e) lo, optRd (rdE e) hi with | some a, some l, some k => still (opSliceX C.P T a l k) | _, _, _ => none := by
        intro h
        simp only [opVal]
        cases rdE e y <;> cases optRd (rdE e) lo <;> cases optRd (rdE e) hi <;> simp only [b1]
      refine ⟨by rw [key, key], fun x k hk => ?_⟩
      rw [key] at hk
      split at hk
      · exact still_none hk
      · cases hk
    | some m =>
      refine ⟨rfl, fun x k hk => ?_⟩
      simp only [opVal] at hk
      split at hk
      · split at hk
        · exact still_none hk
        · cases hk
      · cases hk
  case h_13 =>
    rename_i g args argTypes
    have key : ∀ h, opVal C (rdE e) h (.call { callee := .value (.func g), args, argTypes }) = match rdAll (rdE e) args.toList with | some vs => opCall C (.fn g [] []) vs h | none => none := by
      intro h
      have e0 : rdE e (.func g) = some (.fn g [] []) := rfl
      simp only [opVal, e0]
      cases rdAll (rdE e) args.toList <;> rfl
    have k2 : ∀ vs (h h' : Hp), opCall C (.fn g [] []) vs h = opCall C (.fn g [] []) vs h' ∧ ∀ x k, opCall C (.fn g [] []) vs h = some (x, k) → k = none := by
      intro vs h h'
      refine ⟨by simp only [opCall, ha], fun x k hk => ?_⟩
      simp only [opCall, ha] at hk
      split at hk
      · split at hk
        · split at hk
          · split at hk
            · simp only [Option.some.injEq, Prod.mk.injEq] at hk; exact hk.2.symm
            · cases hk
          · cases hk
        · exact opSym_none hk
      · split at hk
        · split at hk
          · simp only [Option.some.injEq, Prod.mk.injEq] at hk; exact hk.2.symm
          · cases hk
        · cases hk
    rw [key, key]
    refine ⟨?_, fun x k hk => ?_⟩
    · split
      · exact (k2 _ h h').1
      · rfl
    · split at hk
      · exact (k2 _ h h').2 x k hk
      · cases hk
  case h_19 =>
    rename_i args argTypes
    have hf : isMapT C.P argTypes = false := by simpa using ha
    have key : ∀ h, opVal C (rdE e) h (.call { callee := .builtin .len, args, argTypes }) = match rdAll (rdE e) args.toList with | some [a] => still (opLenX C.P argTypes a) | _ => none := by
      intro h
      simp only [opVal, hf]
      cases rdAll (rdE e) args.toList with
      | none => rfl
      | some l => cases l with
        | nil => rfl
        | cons x r => cases r <;> rfl
    refine ⟨by rw [key, key], fun x k hk => ?_⟩
    rw [key] at hk
    split at hk
    · exact still_none hk
    · cases hk
  case h_21 =>
    rename_i n1 n2 n3 n4 n5 n6 n7 n8 n9 n10 n11 n12 n13 n14 n15 n16 n17 n18 n19 n20
    have key : ∀ h, opVal C (rdE e) h o = still (opRest C.P (rdE e) o) := by
      intro h
      unfold opVal
      split <;> first
        | rfl
        | (exfalso; first | exact n1 _ _ rfl | exact n2 _ _ _ rfl | exact n3 _ rfl | exact n4 _ _ rfl | exact n5 _ _ _ rfl | exact n6 _ _ _ rfl | exact n7 _ _ rfl | exact n8 _ _ rfl | exact n9 _ _ _ rfl | exact n10 _ _ _ _ _ rfl | exact n11 _ _ rfl | exact n12 _ _ rfl | exact n13 _ _ _ rfl | exact n14 _ _ _ rfl | exact n15 _ _ rfl | exact n16 _ _ _ _ rfl | exact n17 _ _ _ _ rfl | exact n18 _ _ _ _ rfl | exact n19 _ _ rfl | exact n20 _ _ rfl)
    exact ⟨by rw [key, key], fun x k hk => by rw [key] at hk; exact still_none hk⟩
  all_goals cases ha

end Go.Proofs.YtbfdgdigaiimgaaDoor.HM
