/- The heap machine, 9: regions, code, functions. -/
import Derived.Test.YtkpoeilfnopgbaaGreatDoorPD
import Derived.LoopN
import Derived.Orders
import Derived.LoopNIn
import Derived.OrdersIn
import Derived.TacticsIn
import Derived.RangeFuncLeaves
import Derived.RangeFuncRecord
namespace Go.Proofs.YtkpoeilfnopgbaaGreatDoor.HM
open Go Go.RowKit
variable [E : Amb]
def bindsOn (o : Oper) : List Nat := (o.after.toList.filter fun e => Region.binds .any e).map (·.on)
def addAll : List Nat → List Nat → List Nat
 | [], r => r
 | x :: l, r => match r.contains x with
  | true => addAll l r
  | false => addAll l (x :: r)
def befores : List Oper → Nat → List (List Nat) → Option (List (List Nat))
 | [], _, acc => some acc
 | o :: r, i, acc => match (bindsOn o).all (fun j => Nat.blt j i) with
  | true => befores r (i + 1) (acc ++ [(bindsOn o).foldl (fun s j => addAll (acc.getD j []) (addAll [j] s)) []])
  | false => none
def readsOf (ops : Array Oper) (o : Oper) : List Nat :=
  (o.op.operands.toList.filterMap fun | .tmp t => some t | _ => none) ++
  (match o.guard with
   | some (g, _) => ((ops[g]?).bind (·.dst)).toList
   | none => [])
def convApart (P : Program) (src dst : TypeId) : Bool :=
 match P.underlying src, P.underlying dst with
 | some (.slice _), _ => false
 | _, some (.slice _) => false
 | some (.pointer _), _ => false
 | some .unsafePointer, _ => false
 | _, _ => true
def sliceApart (P : Program) (T : TypeId) : Bool :=
 match P.underlying T with
 | some (.array _ _) => false
 | _ => true
def apartFromHeap (C : Cfg) : Op → Bool
 | .load _ _ => false
 | .store _ _ _ => false
 | .alloc _ => false
 | .box _ _ => false
 | .buildSlice T _ _ => C.pure (litK + T)
 | .makeSlice _ _ _ => false
 | .range _ _ => false
 | .next _ _ => false
 | .convert src dst _ => convApart C.P src dst
 | .slice T _ _ _ _ => sliceApart C.P T
 | .call { callee := .builtin .append, .. } => false
 | .call { callee := .builtin .unsafeString, .. } => false
 | .call { callee := .value (.func g), .. } => C.pure g
 | .call { callee := .value _, .. } => false
 | .makeMap _ _ => false
 | .lookup _ _ _ _ => false
 | .mapUpdate _ _ _ _ => false
 | .insert _ _ _ _ => false
 | .call { callee := .builtin .len, argTypes, .. } => !(isMapT C.P argTypes)
 | .call { callee := .builtin .clear, .. } => false
 | _ => true
def statesOps (C : Cfg) (ops : Array Oper) : List Oper → Env → Hp → List (Env × Hp)
 | [], e, h => [(e, h)]
 | o :: r, e, h => (e, h) :: match stepOp C ops e h o with
  | some (v, none) => statesOps C ops r (Env.put e o.dst v) h
  | some (v, some h') => statesOps C ops r (Env.put e o.dst v) h'
  | none => []
def isLoadO : Op → Bool
 | .load _ _ => true
 | _ => false
def lateOk (C : Cfg) (S : List (Env × Hp)) (ops : Array Oper) (i : Nat) (o : Oper) (j : Nat) : Bool :=
 match isLoadO o.op with
 | true => match S[i]?, S[j + 1]? with
  | some (e, h), some (_, h') => match wantedE e ops o with
   | some false => true
   | _ => match opVal C (rdE e) h o.op, opVal C (rdE e) h' o.op with
    | some (v, none), some (v', none) => v.same v'
    | _, _ => false
  | _, _ => false
 | false => false
def earlyOk (C : Cfg) (S : List (Env × Hp)) (ops : Array Oper) (j : Nat) (p : Oper) (i : Nat) : Bool :=
 match isLoadO p.op with
 | true => match S[j]?, S[i]?, S[i + 1]? with
  | some (e, _), some (_, h), some (_, h') => match wantedE e ops p with
   | some false => true
   | _ => match opVal C (rdE e) h p.op, opVal C (rdE e) h' p.op with
    | some (v, none), some (v', none) => v.same v'
    | _, _ => false
  | _, _, _ => false
 | false => false
def pairOk (C : Cfg) (S : List (Env × Hp)) (ops : Array Oper) (bs : List (List Nat)) (i : Nat) (o : Oper) (n : Bool) (j : Nat) (p : Oper) (m : Bool) : Bool :=
  -- i is ahead of j in the text
  let ord := (bs.getD j []).contains i
  (match o.dst with
   | some d => (match p.dst with
      | some d' => !(Nat.beq d d')
      | none => true) && (ord || !((readsOf ops p).contains d))
   | none => true) &&
  (match p.dst with
   | some d => ord || !((readsOf ops o).contains d)
   | none => true) &&
  (ord || !((n && (!(apartFromHeap C p.op) && !(earlyOk C S ops j p i))) || (m && (!(apartFromHeap C o.op) && !(lateOk C S ops i o j)))))
def pairsFrom (C : Cfg) (S : List (Env × Hp)) (ops : Array Oper) (bs : List (List Nat)) (i : Nat) (o : Oper) (n : Bool) : Nat → List Oper → List Bool → Bool
 | _, [], _ => true
 | j, p :: r, m :: ms => match pairOk C S ops bs i o n j p m with
  | true => pairsFrom C S ops bs i o n (j + 1) r ms
  | false => false
 | _, _ :: _, [] => false
def pairsAll (C : Cfg) (S : List (Env × Hp)) (ops : Array Oper) (bs : List (List Nat)) : Nat → List Oper → List Bool → Bool
 | _, [], _ => true
 | i, o :: r, n :: ns => match pairsFrom C S ops bs i o n (i + 1) r ns with
  | true => pairsAll C S ops bs (i + 1) r ns
  | false => false
 | _, _ :: _, [] => false
def closedFrom (bs : List (List Nat)) : Nat → List Oper → Bool
 | _, [] => true
 | i, o :: r => match (bindsOn o).all (fun j => Nat.blt j i) && (bs.getD i []).all (fun k => (bindsOn o).any fun j => Nat.beq k j || (bs.getD j []).contains k) with
  | true => closedFrom bs (i + 1) r
  | false => false
def orderOk (C : Cfg) (S : List (Env × Hp)) (ops : Array Oper) (tr : List Bool) : Bool :=
 match befores ops.toList 0 [] with
 | some bs => closedFrom bs 0 ops.toList && pairsAll C S ops bs 0 ops.toList tr
 | none => false
def isStoreO : Op → Bool
 | .store _ _ _ => true
 | _ => false
def forkOk (ops : Array Oper) : Bool :=
  match ops.toList with
  | [o0, o1, o2, o3] => ((isStoreO o1.op && isStoreO o2.op) && (bindsOn o0).isEmpty) && (((bindsOn o1).all (fun j => Nat.beq j 0) && (bindsOn o1).contains 0) &&
      (((bindsOn o2).all (fun j => Nat.beq j 0) && (bindsOn o2).contains 0) && (((bindsOn o3).all (fun j => Nat.blt j 3) && (bindsOn o3).contains 1) && (bindsOn o3).contains 2)))
  | _ => false
def forkE (C : Cfg) (ops : Array Oper) (e : Env) (h : Hp) : Option (Env × Hp) :=
 match ops.toList with
 | [o0, o1, o2, o3] => match runOps C ops [o0, o1, o2, o3] e h, runOps C ops [o0, o2, o1, o3] e h with
  | some (e1, h1), some (e2, h2) => match h1.join h2 with
   | some h' => some (joinT e1 e2, h')
   | none => none
  | _, _ => none
 | _ => none
def apA (C : Cfg) (A : Nat → Option V) (i : Nat) (o : Op) : Bool := apartFromHeap C o || (A i).isSome
def pairOkA (C : Cfg) (A : Nat → Option V) (S : List (Env × Hp)) (ops : Array Oper) (bs : List (List Nat)) (i : Nat) (o : Oper) (n : Bool) (j : Nat) (p : Oper) (m : Bool) : Bool :=
  let ord := (bs.getD j []).contains i
  (match o.dst with
   | some d => (match p.dst with
      | some d' => !(Nat.beq d d')
      | none => true) && (ord || !((readsOf ops p).contains d))
   | none => true) &&
  (match p.dst with
   | some d => ord || !((readsOf ops o).contains d)
   | none => true) &&
  (ord || !((n && (!(apA C A j p.op) && !(earlyOk C S ops j p i))) || (m && (!(apA C A i o.op) && !(lateOk C S ops i o j)))))
omit [E : Amb] in
theorem pairOkA_none {C : Cfg} {S : List (Env × Hp)} {ops : Array Oper} {bs : List (List Nat)} {i j : Nat} {o p : Oper} {n m : Bool} : pairOkA C (fun _ => none) S ops bs i o n j p m = pairOk C S ops bs i o n j p m := by
 simp only [pairOkA, pairOk, apA, Option.isSome_none, Bool.or_false]
def pairsFromA (C : Cfg) (A : Nat → Option V) (S : List (Env × Hp)) (ops : Array Oper) (bs : List (List Nat)) (i : Nat) (o : Oper) (n : Bool) : Nat → List Oper → List Bool → Bool
 | _, [], _ => true
 | j, p :: r, m :: ms => match pairOkA C A S ops bs i o n j p m with
  | true => pairsFromA C A S ops bs i o n (j + 1) r ms
  | false => false
 | _, _ :: _, [] => false
def pairsAllA (C : Cfg) (A : Nat → Option V) (S : List (Env × Hp)) (ops : Array Oper) (bs : List (List Nat)) : Nat → List Oper → List Bool → Bool
 | _, [], _ => true
 | i, o :: r, n :: ns => match pairsFromA C A S ops bs i o n (i + 1) r ns with
  | true => pairsAllA C A S ops bs (i + 1) r ns
  | false => false
 | _, _ :: _, [] => false
def floatV (P : Program) (rd : Operand → Option V) (a : Nat) : Op → Option (V × TypeId × List V)
  | .alloc T => match zeroC P T with
    | some cs => some (.ptr a 0, T, cs)
    | none => none
  | .makeSlice T l c => match P.underlying T, rd l, rd c with
    | some (.slice e), some (.int _ x), some (.int _ y) => match szOf P e, zeroC P e, bytesOf P e with
      | some sz, some zs, some by_ => if 0 < sz ∧ zs.length = sz ∧ 0 ≤ x ∧ x = y ∧ y < 9223372036854775808 ∧ (by_ : Int) * y ≤ 281474976710656 then
          some (.sl a 0 x.toNat sz, e, zerosOf zs (x.toNat * sz))
        else none
      | _, _, _ => none
    | _, _, _ => none
  | _ => none
def sameInt : Option V → Option V → Bool
 | some (.int _ x), some (.int _ y) => decide (x = y)
 | _, _ => false
def floatEq (rd rd0 : Operand → Option V) : Op → Bool
 | .alloc _ => true
 | .makeSlice _ l c => sameInt (rd l) (rd0 l) && sameInt (rd c) (rd0 c)
 | _ => false
def vblk : V → Option Nat
 | .ptr a _ => some a
 | .sl a _ _ _ => some a
 | _ => none
def traceA (C : Cfg) (A : Nat → Option V) (rd0 : Operand → Option V) (ops : Array Oper) : Nat → List Oper → Env → Hp → Option (List Bool × List (Env × Hp) × Env × Hp)
 | _, [], e, h => some ([], [(e, h)], e, h)
 | i, o :: r, e, h => match A i with
  | some v => match floatEq (rdE e) rd0 o.op with
   | true => match traceA C A rd0 ops (i + 1) r (Env.put e o.dst v) h with
    | some (l, S, e', h') => some (false :: l, (e, h) :: S, e', h')
    | none => none
   | false => none
  | none => match stepOp C ops e h o with
   | some (v, none) => match traceA C A rd0 ops (i + 1) r (Env.put e o.dst v) h with
    | some (l, S, e', h') => some (false :: l, (e, h) :: S, e', h')
    | none => none
   | some (v, some h1) => match traceA C A rd0 ops (i + 1) r (Env.put e o.dst v) h1 with
    | some (l, S, e', h') => some (true :: l, (e, h) :: S, e', h')
    | none => none
   | none => none
def isFloat (o : Oper) : Bool := match o.dst, o.op, o.guard with
 | some _, .alloc _, none => (bindsOn o).isEmpty
 | some _, .makeSlice _ _ _, none => true
 | _, _, _ => false
def floatsFrom : Nat → List Oper → List (Nat × Op)
 | _, [] => []
 | i, o :: r => match isFloat o with
  | true => (i, o.op) :: floatsFrom (i + 1) r
  | false => floatsFrom (i + 1) r
abbrev Flo := Nat × Nat × V × TypeId × List V
def preAlloc (P : Program) (rd0 : Operand → Option V) : List (Nat × Op) → Hp → List Flo × Hp
 | [], h => ([], h)
 | (i, o) :: r, h => match floatV P rd0 h.next o with
  | some (v, T, cs) => match preAlloc P rd0 r ((h.new cs).withEl h.next (2 * T + 1)) with
   | (l, h') => ((i, h.next, v, T, cs) :: l, h')
  | none => preAlloc P rd0 r h
def getA : List Flo → Nat → Option V
 | [], _ => none
 | (j, _, v, _) :: r, i => match Nat.beq j i with
  | true => some v
  | false => getA r i
def ghostFrom (bs : List (List Nat)) (i T a : Nat) (cs : List V) : Nat → List (Env × Hp) → List Bool → Bool
  | _, [], _ => true
  | m, (_, h) :: S, tr => (match h.t.get a with
      | some x => Blk.same (.cells a 0 0 cs) x
      | none => false) && ((match h.els.get a with
      | some e => Nat.beq e (2 * T + 1)
      | none => false) && (match tr with
      | [] => true
      | n :: tr' => (n && (bs.getD m []).contains i) || ghostFrom bs i T a cs (m + 1) S tr'))
def regionA (C : Cfg) (ops : Array Oper) (rd0 : Operand → Option V) (e : Env) (h : Hp) : Option (Env × Hp) :=
 match befores ops.toList 0 [], preAlloc C.P rd0 (floatsFrom 0 ops.toList) h with
 | some bs, (fl, hA) => match traceA C (getA fl) rd0 ops 0 ops.toList e hA with
  | some (tr, S, e', h') => match closedFrom bs 0 ops.toList && (pairsAllA C (getA fl) S ops bs 0 ops.toList tr && fl.all fun f => ghostFrom bs f.1 f.2.2.2.1 f.2.1 f.2.2.2.2 0 S tr) with
   | true => some (e', h')
   | false => none
  | none => none
 | _, _ => none
def isSliceO : Op → Bool
 | .slice _ _ _ _ none => true
 | _ => false
def mayW (C : Cfg) (o : Op) : Bool := !(apartFromHeap C o || (isLoadO o || isSliceO o))
def statOk (P : Program) (pure : FuncId → Bool) (ops : Array Oper) : Bool :=
 match forkOk ops with
 | true => false
 | false => orderOk ⟨P, .leaf, fun _ => none, pure, fun _ => none, fun _ => false⟩ [] ops (ops.toList.map fun o => mayW ⟨P, .leaf, fun _ => none, pure, fun _ => none, fun _ => false⟩ o.op)
def lateAll (P : Program) (pure : FuncId → Bool) (ops : Array Oper) : List (Nat × Nat) :=
 match befores ops.toList 0 [] with
 | some bs => (List.range ops.size).flatMap fun i => (List.range ops.size).filterMap fun j => match ops[i]?, ops[j]? with
  | some o, some p => match Nat.blt i j && (isLoadO o.op && (mayW ⟨P, .leaf, fun _ => none, pure, fun _ => none, fun _ => false⟩ p.op && !((bs.getD j []).contains i))) with
   | true => some (i, j)
   | false => none
  | _, _ => none
 | none => []
def earlyAll (P : Program) (pure : FuncId → Bool) (ops : Array Oper) : List (Nat × Nat) :=
 match befores ops.toList 0 [] with
 | some bs => (List.range ops.size).flatMap fun j => (List.range ops.size).filterMap fun i => match ops[j]?, ops[i]? with
  | some p, some o => match Nat.blt i j && (isLoadO p.op && (mayW ⟨P, .leaf, fun _ => none, pure, fun _ => none, fun _ => false⟩ o.op && !((bs.getD j []).contains i))) with
   | true => some (j, i)
   | false => none
  | _, _ => none
 | none => []
def pairsFromL (C : Cfg) (L E : List (Nat × Nat)) (ops : Array Oper) (bs : List (List Nat)) (i : Nat) (o : Oper) (n : Bool) : Nat → List Oper → List Bool → Bool
 | _, [], _ => true
 | j, p :: r, m :: ms => match pairOk C [] ops bs i o (n && !(E.contains (j, i))) j p (m && !(L.contains (i, j))) with
  | true => pairsFromL C L E ops bs i o n (j + 1) r ms
  | false => false
 | _, _ :: _, [] => false
def pairsAllL (C : Cfg) (L E : List (Nat × Nat)) (ops : Array Oper) (bs : List (List Nat)) : Nat → List Oper → List Bool → Bool
 | _, [], _ => true
 | i, o :: r, n :: ns => match pairsFromL C L E ops bs i o n (i + 1) r ns with
  | true => pairsAllL C L E ops bs (i + 1) r ns
  | false => false
 | _, _ :: _, [] => false
def orderOkL (C : Cfg) (L E : List (Nat × Nat)) (ops : Array Oper) (tr : List Bool) : Bool :=
 match befores ops.toList 0 [] with
 | some bs => closedFrom bs 0 ops.toList && pairsAllL C L E ops bs 0 ops.toList tr
 | none => false
def statOkL (P : Program) (pure : FuncId → Bool) (L E : List (Nat × Nat)) (ops : Array Oper) : Bool :=
 match forkOk ops with
 | true => false
 | false => orderOkL ⟨P, .leaf, fun _ => none, pure, fun _ => none, fun _ => false⟩ L E ops (ops.toList.map fun o => mayW ⟨P, .leaf, fun _ => none, pure, fun _ => none, fun _ => false⟩ o.op)
def hasFloat (ops : Array Oper) : Bool := (floatsFrom 0 ops.toList).any fun p => match p.2 with
 | .alloc _ => Nat.blt 0 p.1
 | _ => false
def floatIx (P : Program) (l : List (Nat × Op)) : List (Nat × TypeId × List V) := l.filterMap fun p => match p.2 with
 | .alloc T => (zeroC P T).map fun cs => (p.1, T, cs)
 | _ => none
def mkFl : List (Nat × TypeId × List V) → Nat → List Flo
 | [], _ => []
 | (i, T, cs) :: r, n => (i, n, .ptr n 0, T, cs) :: mkFl r (n + 1)
def posF : List (Nat × TypeId × List V) → Nat → Option Nat
 | [], _ => none
 | (k, _, _) :: r, i => match Nat.beq k i with
  | true => some 0
  | false => (posF r i).map (· + 1)
def trF (C : Cfg) (fl : List (Nat × TypeId × List V)) : Nat → List Oper → List Bool
 | _, [] => []
 | i, o :: r => (match posF fl i with
  | some _ => false
  | none => mayW C o.op) :: trF C fl (i + 1) r
abbrev bareC (P : Program) (pure : FuncId → Bool) : Cfg := ⟨P, .leaf, fun _ => none, pure, fun _ => none, fun _ => false⟩
def statOkA (P : Program) (pure : FuncId → Bool) (ops : Array Oper) : Bool :=
 match befores ops.toList 0 [] with
 | some bs => closedFrom bs 0 ops.toList && pairsAllA (bareC P pure) (getA (mkFl (floatIx P (floatsFrom 0 ops.toList)) 0)) [] ops bs 0 ops.toList (trF (bareC P pure) (floatIx P (floatsFrom 0 ops.toList)) 0 ops.toList)
 | none => false
def firstStore (bs : List (List Nat)) (i : Nat) : Nat → List Oper → Option Nat
 | _, [] => none
 | m, o :: r => match isStoreO o.op && (o.guard.isNone && (bs.getD m []).contains i) with
  | true => some m
  | false => firstStore bs i (m + 1) r
def floatEnds (P : Program) (ops : Array Oper) : Option (List Nat) := match befores ops.toList 0 [] with
 | some bs => mapC (fun f => firstStore bs f.1 0 ops.toList) (floatIx P (floatsFrom 0 ops.toList))
 | none => none
def hoist (P : Program) (pure : FuncId → Bool) (ops : Array Oper) : Bool :=
 match hasFloat ops with
 | true => !(statOk P pure ops) && (!(statOkL P pure (lateAll P pure ops) (earlyAll P pure ops) ops) && (statOkA P pure ops && (floatEnds P ops).isSome))
 | false => false
def regionE (C : Cfg) (ops : Array Oper) (draw : Bool) (e : Env) (h : Hp) : Option (Env × Hp) :=
  match draw with
  | false => runOps C ops ops.toList e h
  | true => match forkOk ops with
    | true => forkE C ops e h
    | false => match hoist C.P C.pure ops with
     | true => regionA C ops (fun _ => none) e h
     | false => match traceOps C ops ops.toList e h with
      | some (tr, e', h') => match orderOk C (statesOps C ops ops.toList e h) ops tr with
        | true => some (e', h')
        | false => regionA C ops (rdE e') e h
      | none => none
inductive AX where
 | normal
 | exit (id : Nat)
 | goto (l : Nat)
 | ret
 deriving DecidableEq
def loopE (f : Env → Hp → Option (AX × Env × Hp)) : Nat → Env → Hp → Option (AX × Env × Hp)
 | 0, _, _ => none
 | n + 1, e, h => match f e h with
  | some (.normal, e', h') => loopE f n e' h'
  | r => r
def enterE : Nat → List V → Env → Env
 | _, [], e => e
 | i, v :: r, e => enterE (i + 1) r (Tr.put (some v) e i)
def notDefer : Op → Bool
 | .defer _ => false
 | _ => true
def dstsIn (n : Nat) : Code → Bool
 | .region _ ops _ => (ops.toList.all fun o => match o.dst with
  | some d => Nat.blt d n
  | none => true) && ops.toList.all fun o => notDefer o.op
 | .seq x y => dstsIn n x && dstsIn n y
 | .cond _ x y => dstsIn n x && dstsIn n y
 | .block _ b => dstsIn n b
 | .loop b => dstsIn n b
 | .rangeFunc _ ps x y => (ps.toList.all fun d => Nat.blt d n) && (dstsIn n x && dstsIn n y)
 | _ => true
def noRange : Code → Bool
 | .rangeFunc _ _ _ _ => false
 | .seq x y => noRange x && noRange y
 | .cond _ x y => noRange x && noRange y
 | .block _ b => noRange b
 | .loop b => noRange b
 | .scope b => noRange b
 | _ => true
def keepsSlot (s : Nat) : Code → Bool
 | .region _ ops _ => ops.toList.all fun o => match o.dst with
  | some d => !(Nat.beq d s)
  | none => true
 | .seq x y => keepsSlot s x && keepsSlot s y
 | .cond _ x y => keepsSlot s x && keepsSlot s y
 | .block _ b => keepsSlot s b
 | .loop b => keepsSlot s b
 | .rangeFunc _ _ _ _ => false
 | _ => true
def isAl : Option Nat → Nat → Bool
 | some d, t => Nat.beq d t
 | none, _ => false
def movesS (s : Nat) (o : Oper) : Bool := match o.op, o.guard with
 | .move (.tmp t), none => Nat.beq t s
 | _, _ => false
def nextAl (s : Nat) (al : Option Nat) (o : Oper) : Option Nat := match o.dst with
 | none => al
 | some d => match movesS s o with
  | true => some d
  | false => match isAl al d with
   | true => none
   | false => al
def yieldsO (s : Nat) (al : Option Nat) : Op → Option (List Operand)
 | .call { callee := .value (.tmp t), args, .. } => match Nat.beq t s || isAl al t with
  | true => some args.toList
  | false => none
 | _ => none
abbrev Rounds := List V → Hp → Option (Option AX × Hp)
def runOpsY (C : Cfg) (s : Nat) (B : Rounds) (ops : Array Oper) : Option Nat → List Oper → Env → Hp → Option AX → Option (Env × Hp × Option AX)
 | _, [], e, h, p => some (e, h, p)
 | al, o :: r, e, h, p => match yieldsO s al o.op with
  | some args => match wantedE e ops o with
   | some true => match p, rdAll (rdE e) args with
    | none, some vs => match B vs h with
     | some (none, h') => runOpsY C s B ops (nextAl s al o) r (Env.put e o.dst (.bool true)) h' none
     | some (some x, h') => runOpsY C s B ops (nextAl s al o) r (Env.put e o.dst (.bool false)) h' (some x)
     | none => none
    | _, _ => none
   | some false => runOpsY C s B ops (nextAl s al o) r (Env.put e o.dst (.tup [])) h p
   | none => none
  | none => match stepOp C ops e h o with
   | some (v, none) => runOpsY C s B ops (nextAl s al o) r (Env.put e o.dst v) h p
   | some (v, some h') => runOpsY C s B ops (nextAl s al o) r (Env.put e o.dst v) h' p
   | none => none
def loopY (f : Env → Hp → Option AX → Option (AX × Env × Hp × Option AX)) : Nat → Env → Hp → Option AX → Option (AX × Env × Hp × Option AX)
 | 0, _, _, _ => none
 | n + 1, e, h, p => match f e h p with
  | some (.normal, e', h', p') => loopY f n e' h' p'
  | r => r
def iterE (C : Cfg) (lim s : Nat) (B : Rounds) : Code → Env → Hp → Option AX → Option (AX × Env × Hp × Option AX)
 | .skip, e, h, p => some (.normal, e, h, p)
 | .region _ ops draw, e, h, p => match draw with
  | false => match runOpsY C s B ops none ops.toList e h p with
   | some (e', h', p') => some (.normal, e', h', p')
   | none => none
  | true => match regionE C ops true e h with
   | some (e', h') => some (.normal, e', h', p)
   | none => none
 | .seq x y, e, h, p => match iterE C lim s B x e h p with
  | some (.normal, e', h', p') => iterE C lim s B y e' h' p'
  | r => r
 | .cond c x y, e, h, p => match rdE e c with
  | some (.bool true) => iterE C lim s B x e h p
  | some (.bool false) => iterE C lim s B y e h p
  | _ => none
 | .block id b, e, h, p => match iterE C lim s B b e h p with
  | some (.exit id', e', h', p') => match Nat.beq id' id with
   | true => some (.normal, e', h', p')
   | false => some (.exit id', e', h', p')
  | r => r
 | .loop b, e, h, p => loopY (iterE C lim s B b) lim e h p
 | .exit id, e, h, p => some (.exit id, e, h, p)
 | .label _, e, h, p => some (.normal, e, h, p)
 | .ret, e, h, p => some (.ret, e, h, p)
 | _, _, _, _ => none
def iterRun (C : Cfg) (lim : Nat) (g : FuncId) (xs ys : List V) (B : Rounds) (h : Hp) : Option (Option AX × Hp) :=
 match C.P.funcs[g]?, isBody C.P g with
 | some fn, true => match fn.body with
  | some c => match Nat.ble (xs ++ (V.any :: ys)).length fn.ntmps && (dstsIn fn.ntmps c && (keepsSlot xs.length c && fn.results.toList.isEmpty)) with
   | true => match iterE C lim xs.length B c (enterE 0 (xs ++ (V.any :: ys)) .leaf) h none with
    | some (.normal, _, h', p) => some (p, h')
    | some (.ret, _, h', p) => some (p, h')
    | _ => none
   | false => none
  | none => none
 | _, _ => none
def putPs : List Nat → List V → Env → Env
 | t :: ps, v :: vs, e => putPs ps vs (Env.put e (some t) v)
 | _, _, e => e
def roundB (ps : List Nat) (fa fb : Env → Hp → Option (AX × Env × Hp)) (e : Env) : Rounds := fun vs h => match Nat.beq vs.length ps.length with
 | true => match fa (putPs ps vs e) h with
  | some (.normal, e1, h1) => match fb e1 h1 with
   | some (.normal, _, h2) => some (none, h2)
   | some (x, _, h2) => some (some x, h2)
   | none => none
  | _ => none
 | false => none
def rangeE (C : Cfg) (lim : Nat) (f : V) (ps : List Nat) (ok : Bool) (fa fb : Env → Hp → Option (AX × Env × Hp)) (e : Env) (h : Hp) : Option (AX × Env × Hp) :=
 match f, ok with
 | .fn g xs ys, true => match iterRun C lim g xs ys (roundB ps fa fb e) h with
  | some (none, h') => some (.normal, e, h')
  | some (some x, h') => some (x, e, h')
  | none => none
 | _, _ => none
def execE (C : Cfg) (lim : Nat) : Code → Env → Hp → Option (AX × Env × Hp)
 | .skip, e, h => some (.normal, e, h)
 | .region _ ops draw, e, h => match regionE C ops draw e h with
  | some (e', h') => some (.normal, e', h')
  | none => none
 | .seq x y, e, h => match execE C lim x e h with
  | some (.normal, e', h') => execE C lim y e' h'
  | r => r
 | .cond c x y, e, h => match rdE e c with
  | some (.bool true) => execE C lim x e h
  | some (.bool false) => execE C lim y e h
  | some .anyb => match execE C lim x e h with
   | some (.normal, e1, h1) => match execE C lim y e h with
    | some (.normal, e2, h2) => match h1.join h2 with
     | some h' => some (.normal, joinT e1 e2, h')
     | none => none
    | _ => none
   | _ => none
  | _ => none
 | .block id b, e, h => match execE C lim b e h with
  | some (.exit id', e', h') => match Nat.beq id' id with
   | true => some (.normal, e', h')
   | false => some (.exit id', e', h')
  | r => r
 | .loop b, e, h => loopE (execE C lim b) lim e h
 | .exit id, e, h => some (.exit id, e, h)
 | .label _, e, h => some (.normal, e, h)
 | .goto l, e, h => some (.goto l, e, h)
 | .ret, e, h => some (.ret, e, h)
 | .rangeFunc f ps x y, e, h => match rdE e f with
  | some f => rangeE C lim f ps.toList (noRange x && noRange y) (execE C lim x) (execE C lim y) e h
  | none => none
 | _, _, _ => none
def resE (P : Program) (Γ : Glob) (e : Env) (h : Hp) : ResultVar → Option V
 | .tmp t => some (Env.get e t)
 | .cell a T => opLoad P Γ h T (Env.get e a)
def leaveE (P : Program) (Γ : Glob) (rs : List ResultVar) (e : Env) (h : Hp) : Option V :=
 match mapC (resE P Γ e h) rs with
 | some [v] => some v
 | some vs => some (.tup vs)
 | none => none
def callE (C : Cfg) (lim : Nat) (f : FuncId) : Spec := fun args h =>
 match C.P.funcs[f]? with
 | some fn => match fn.body with
  | some c => match Nat.ble args.length fn.ntmps && dstsIn fn.ntmps c with
   | true => match execE C lim c (enterE 0 args .leaf) h with
    | some (.normal, e, h') => match leaveE C.P C.Γ fn.results.toList e h' with
     | some v => some (v, h')
     | none => none
    | some (.ret, e, h') => match leaveE C.P C.Γ fn.results.toList e h' with
     | some v => some (v, h')
     | none => none
    | _ => none
   | false => none
  | none => none
 | none => none
def trOf : List Nat → Tr Unit → Tr Unit
 | [], t => t
 | n :: l, t => trOf l (Tr.put (some ()) t n)
def inTr (t : Tr Unit) (n : Nat) : Bool := match Tr.get t n with
 | some _ => true
 | none => false
def EnvR (ρ : Ren) (e : Env) (tm : Array Value) : Prop := ∀ s, VR ρ (Env.get e s) (tm.getD s undef)
theorem EnvR.ext {ρ ρ' : Ren} {e : Env} {tm : Array Value} (h : EnvR ρ e tm) (he : Ext ρ ρ') : EnvR ρ' e tm := fun s => (h s).ext he
omit [E : Amb] in
theorem getD_set (tm : Array Value) (d s : Nat) (u : Value) (hd : d < tm.size) : (tm.setIfInBounds d u).getD s undef = if s = d then u else tm.getD s undef := by
 simp only [Array.getD_eq_getD_getElem?, Array.getElem?_setIfInBounds]
 by_cases e : d = s
 ·subst e; simp [hd]
 ·rw [if_neg e, if_neg (fun h => e h.symm)]
omit [E : Amb] in
theorem env_get_put (e : Env) (d : Nat) (v : V) (s : Nat) : Env.get (Env.put e (some d) v) s = if s = d then v else Env.get e s := by
 simp only [Env.get, Env.put, Tr.get_put]
 by_cases h : s = d
 ·subst h; simp
 ·simp [h]
omit [E : Amb] in
theorem env_put_ne {e : Env} {d : Option Nat} {v : V} {s : Nat} (h : d ≠ some s) : Env.get (Env.put e d v) s = Env.get e s := by
 cases d with
 | none => rfl
 | some d => rw [env_get_put, if_neg (fun hh => h (by rw [hh]))]
omit [E : Amb] in
theorem act_put_ne {a : Act} {d : Option Nat} {u : Value} {s : Nat} (h : d ≠ some s) : (a.put d u).tmps.getD s undef = a.tmps.getD s undef := by
 cases d with
 | none => rfl
 | some d =>
  have : s ≠ d := fun e => h (by rw [e])
  simp only [Act.put, Array.getD_eq_getD_getElem?, Array.getElem?_setIfInBounds]
  rw [if_neg (fun e => this e.symm)]
omit [E : Amb] in
theorem act_put_eq {a : Act} {d : Nat} {u : Value} (hd : d < a.tmps.size) : (a.put (some d) u).tmps.getD d undef = u := by
 simp only [Act.put]; rw [getD_set _ _ _ _ hd, if_pos rfl]
omit [E : Amb] in
theorem put_size (a : Act) (d : Option Tmp) (v : Value) : (a.put d v).tmps.size = a.tmps.size := by cases d <;> simp [Act.put]
omit [E : Amb] in
theorem put_defers' (a : Act) (d : Option Tmp) (v : Value) : (a.put d v).defers = a.defers := by cases d <;> rfl
theorem EnvR.put {ρ : Ren} {e : Env} {a : Act} (h : EnvR ρ e a.tmps) {d : Option Nat} {v : V} {u : Value} (hv : VR ρ v u) (hd : ∀ k, d = some k → k < a.tmps.size) : EnvR ρ (Env.put e d v) (a.put d u).tmps := by
 intro s
 by_cases hs : d = some s
 ·subst hs
  rw [act_put_eq (hd s rfl), env_get_put, if_pos rfl]; exact hv
 ·rw [env_put_ne hs, act_put_ne hs]; exact h s
theorem undef_VR (ρ : Ren) : VR ρ (.tup []) undef := VRs.tup (.nil _)
theorem rdE_sound {ρ : Ren} {e : Env} {a : Act} (h : EnvR ρ e a.tmps) : ∀ x v, rdE e x = some v → VR ρ v (a.eval x) := by
 intro x v hx
 cases x with
 | tmp t => simp only [rdE, Option.some.injEq] at hx; subst hx; exact h t
 | const c => exact constV_sound hx
 | global g => simp only [rdE, Option.some.injEq] at hx; subst hx; exact .gp g 0
 | func f => simp only [rdE, Option.some.injEq] at hx; subst hx; exact .fn f [] [] #[] #[] rfl rfl (fun i x u h => by simp at h) (fun i x u h => by simp at h)
theorem wantedE_sound {ρ : Ren} {e : Env} {a : Act} {ops : Array Oper} {o : Oper} (h : ∀ d, (match o.guard with | some (g, _) => (ops[g]?).bind (·.dst) | none => none) = some d → VR ρ (Env.get e d) (a.tmps.getD d undef)) :
  ∀ b, wantedE e ops o = some b → Region.wanted o (yielded ops a.tmps) = b := by
 intro bb hbb
 unfold wantedE at hbb
 unfold Region.wanted
 cases hg : o.guard with
 | none => rw [hg] at hbb; simpa using hbb
 | some jw =>
  obtain ⟨j, want⟩ := jw
  simp only
  rw [hg] at h hbb
  simp only at h hbb
  cases hj : (ops[j]?).bind (·.dst) with
  | none => rw [hj] at hbb; simpa [yielded, hj] using hbb
  | some d =>
   have hv := h d hj
   rw [hj] at hbb
   simp only at hbb
   simp only [yielded, hj, Option.bind_some]
   cases ht : a.tmps[d]? with
   | none =>
    have : a.tmps.getD d undef = undef := by rw [Array.getD_eq_getD_getElem?, ht]; rfl
    rw [this] at hv
    cases hq : Env.get e d <;> rw [hq] at hv hbb <;> first | (cases hv; done) | (cases hbb; first | rfl | done)
   | some u =>
    have : a.tmps.getD d undef = u := by rw [Array.getD_eq_getD_getElem?, ht]; rfl
    rw [this] at hv
    cases hq : Env.get e d <;> rw [hq] at hv hbb <;> cases hv <;> cases hbb <;> rfl
omit [E : Amb] in
theorem rdAll_local {rd rd' : Operand → Option V} : ∀ (l : List Operand), (∀ x ∈ l, rd x = rd' x) → rdAll rd l = rdAll rd' l := by
 intro l
 induction l with
 | nil => intro _; rfl
 | cons x l ih => intro h; simp only [rdAll, h x List.mem_cons_self, ih (fun y hy => h y (List.mem_cons_of_mem _ hy))]
omit [E : Amb] in
theorem optRd_local {rd rd' : Operand → Option V} (o : Option Operand) (h : ∀ x, o = some x → rd x = rd' x) : optRd rd o = optRd rd' o := by
 cases o with
 | none => rfl
 | some x => simp only [optRd, h x rfl]
omit [E : Amb] in
theorem pop_local {P : Program} {rd rd' : Operand → Option V} (o : Op) (h : ∀ x ∈ o.operands.toList, rd x = rd' x) : pop P rd o = pop P rd' o := by
  unfold pop
  split <;> first
    | rfl
    | (simp only [Op.operands, List.mem_cons, List.not_mem_nil, or_false, forall_eq_or_imp, forall_eq] at h
       first
         | simp only [h]
         | (obtain ⟨h1, h2, h3⟩ := h; simp only [h1, h2, h3])
         | (obtain ⟨h1, h2⟩ := h; simp only [h1, h2]))
    | skip
  · rename_i T y lo hi
    have h1 : rd y = rd' y := h y (by simp [Op.operands])
    have h2 : optRd rd lo = optRd rd' lo := optRd_local lo fun z hz => h z (by subst hz; simp [Op.operands])
    have h3 : optRd rd hi = optRd rd' hi := optRd_local hi fun z hz => h z (by subst hz; simp [Op.operands])
    simp only [h1, h2, h3]
  · rename_i f first caps
    have h1 := rdAll_local (rd := rd) (rd' := rd') first.toList fun z hz => h z (by simp only [Op.operands, Array.toList_append, List.mem_append]; exact .inl hz)
    have h2 := rdAll_local (rd := rd) (rd' := rd') caps.toList fun z hz => h z (by simp only [Op.operands, Array.toList_append, List.mem_append]; exact .inr hz)
    simp only [h1, h2]
  all_goals
    rename_i args argTypes
    have h1 := rdAll_local (rd := rd) (rd' := rd') args.toList fun z hz => h z (by simp only [Op.operands, Call.operands, Array.toList_append, List.mem_append]; exact .inr hz)
    simp only [h1]
omit [E : Amb] in
theorem sym_local {P : Program} {rd rd' : Operand → Option V} (o : Op) (h : ∀ x ∈ o.operands.toList, rd x = rd' x) : sym P rd o = sym P rd' o := by
  unfold sym
  split <;> first
    | rfl
    | (simp only [Op.operands, List.mem_cons, List.not_mem_nil, or_false, forall_eq_or_imp, forall_eq] at h
       first
         | simp only [h]
         | (obtain ⟨h1, h2⟩ := h; simp only [h1, h2]))
    | skip
  · rename_i T y lo hi
    have h1 : rd y = rd' y := h y (by simp [Op.operands])
    have h2 : optRd rd lo = optRd rd' lo := optRd_local lo fun z hz => h z (by subst hz; simp [Op.operands])
    have h3 : optRd rd hi = optRd rd' hi := optRd_local hi fun z hz => h z (by subst hz; simp [Op.operands])
    simp only [h1, h2, h3]
  all_goals
    rename_i args argTypes
    have h1 := rdAll_local (rd := rd) (rd' := rd') args.toList fun z hz => h z (by simp only [Op.operands, Call.operands, Array.toList_append, List.mem_append]; exact .inr hz)
    simp only [h1]
omit [E : Amb] in
theorem popS_local {P : Program} {rd rd' : Operand → Option V} (o : Op) (h : ∀ x ∈ o.operands.toList, rd x = rd' x) : popS P rd o = popS P rd' o := by
 unfold popS
 rw [pop_local o h, sym_local o h]
omit [E : Amb] in
theorem parts_local {rd rd' : Operand → Option V} {parts : Array (Nat × Operand)} (h : ∀ x ∈ (parts.toList.map (·.2)).toArray.toList, rd x = rd' x) : rdAll rd (parts.toList.map (·.2)) = rdAll rd' (parts.toList.map (·.2)) :=
 rdAll_local _ fun x hx => h x (by simpa using hx)
omit [E : Amb] in
theorem opRest_local {P : Program} {rd rd' : Operand → Option V} (o : Op) (hl : ∀ x ∈ o.operands.toList, rd x = rd' x) : opRest P rd o = opRest P rd' o := by
 unfold opRest
 split
 ·rename_i T parts
  rw [parts_local (rd := rd) (rd' := rd') hl]
 ·rename_i args argTypes
  have h1 := rdAll_local (rd := rd) (rd' := rd') args.toList fun z hz => hl z (by simp only [Op.operands, Call.operands, Array.toList_append, List.mem_append]; exact .inr hz)
  simp only [h1]
 ·rename_i args argTypes
  have h1 := rdAll_local (rd := rd) (rd' := rd') args.toList fun z hz => hl z (by simp only [Op.operands, Call.operands, Array.toList_append, List.mem_append]; exact .inr hz)
  simp only [h1]
 ·rename_i args argTypes
  have h1 := rdAll_local (rd := rd) (rd' := rd') args.toList fun z hz => hl z (by simp only [Op.operands, Call.operands, Array.toList_append, List.mem_append]; exact .inr hz)
  simp only [h1]
 ·rw [popS_local o hl]
omit [E : Amb] in
theorem opVal_local {C : Cfg} {rd rd' : Operand → Option V} {h : Hp} (o : Op) (hl : ∀ x ∈ o.operands.toList, rd x = rd' x) : opVal C rd h o = opVal C rd' h o := by
  unfold opVal
  split <;> first
    | rfl
    | (simp only [Op.operands, List.mem_cons, List.not_mem_nil, or_false, forall_eq_or_imp, forall_eq] at hl
       first
         | simp only [hl]
         | (obtain ⟨h1, h2, h3⟩ := hl; simp only [h1, h2, h3])
         | (obtain ⟨h1, h2⟩ := hl; simp only [h1, h2]))
    | skip
  · rename_i T len parts
    rw [parts_local (rd := rd) (rd' := rd') hl]
  · rename_i T y lo hi
    have h1 : rd y = rd' y := hl y (by simp [Op.operands])
    have h2 : optRd rd lo = optRd rd' lo := optRd_local lo fun z hz => hl z (by subst hz; simp [Op.operands])
    have h3 : optRd rd hi = optRd rd' hi := optRd_local hi fun z hz => hl z (by subst hz; simp [Op.operands])
    simp only [h1, h2, h3]
  · rename_i T y lo hi mx
    have h1 : rd y = rd' y := hl y (by simp [Op.operands])
    have h2 : optRd rd lo = optRd rd' lo := optRd_local lo fun z hz => hl z (by subst hz; simp [Op.operands])
    have h3 : optRd rd hi = optRd rd' hi := optRd_local hi fun z hz => hl z (by subst hz; simp [Op.operands])
    have h4 : rd mx = rd' mx := hl mx (by simp [Op.operands])
    simp only [h1, h2, h3, h4]
  · rename_i args argTypes
    have h1 := rdAll_local (rd := rd) (rd' := rd') args.toList fun z hz => hl z (by simp only [Op.operands, Call.operands, Array.toList_append, List.mem_append]; exact .inr hz)
    simp only [h1]
  · rename_i args argTypes
    have h1 := rdAll_local (rd := rd) (rd' := rd') args.toList fun z hz => hl z (by simp only [Op.operands, Call.operands, Array.toList_append, List.mem_append]; exact .inr hz)
    simp only [h1]
  · rename_i args argTypes
    have h1 := rdAll_local (rd := rd) (rd' := rd') args.toList fun z hz => hl z (by simp only [Op.operands, Call.operands, Array.toList_append, List.mem_append]; exact .inr hz)
    simp only [h1]
  · rename_i args argTypes
    have h1 := rdAll_local (rd := rd) (rd' := rd') args.toList fun z hz => hl z (by simp only [Op.operands, Call.operands, Array.toList_append, List.mem_append]; exact .inr hz)
    simp only [h1]
  · rename_i T r
    have h1 : optRd rd r = optRd rd' r := optRd_local r fun z hz => hl z (by subst hz; simp [Op.operands])
    simp only [h1]
  · rename_i f args argTypes
    have h1 := rdAll_local (rd := rd) (rd' := rd') args.toList fun z hz => hl z (by simp only [Op.operands, Call.operands, Array.toList_append, List.mem_append]; exact .inr hz)
    have h2 : rd f = rd' f := hl f (by simp [Op.operands, Call.operands])
    simp only [h1, h2]
  · rw [opRest_local o hl]
omit [E : Amb] in
theorem still_none {v : Option V} {x : V} {k : Option Hp} (h : still v = some (x, k)) : k = none := (still_inv h).2
omit [E : Amb] in
theorem opVal_apart {C : Cfg} {e : Env} {h h' : Hp} {o : Op} (ha : apartFromHeap C o = true) : opVal C (rdE e) h o = opVal C (rdE e) h' o ∧ ∀ x k, opVal C (rdE e) h o = some (x, k) → k = none := by
 unfold apartFromHeap at ha
 split at ha
 case h_5 =>
  rename_i T len parts
  have key : ∀ h, opVal C (rdE e) h (.buildSlice T len parts) = match rdAll (rdE e) (parts.toList.map (·.2)) with | some vs => still (opBuildLit C.P T len ((parts.toList.map (·.1)).zip vs)) | none => none := by
   intro h
   simp only [opVal, ha]
   cases rdAll (rdE e) (parts.toList.map (·.2)) <;> rfl
  refine ⟨by rw [key, key], fun x k hk => ?_⟩
  rw [key] at hk
  split at hk
  ·exact still_none hk
  ·cases hk
 case h_9 =>
  rename_i src dst y
  unfold convApart at ha
  have b1 : ∀ (h : Hp) v, opBytesOf C.P h src dst v = none := by
   intro h v
   unfold opBytesOf
   split
   ·rename_i hs hd; rw [hs, hd] at ha; simp at ha
   ·rename_i hs hd; rw [hs, hd] at ha; simp at ha
   ·rfl
  have b0 : ∀ v, litConv C src dst v = none := by
   intro v
   unfold litConv opBytesLit
   split
   ·split
    ·rename_i hs hd; rw [hs, hd] at ha; simp at ha
    ·rename_i hs hd; rw [hs, hd] at ha; simp at ha
    ·rfl
   ·rfl
  have b2 : ∀ (h : Hp) v, opStrOf C.P h src dst v = none := by
   intro h v
   unfold opStrOf
   split
   ·rename_i hd _; rw [hd] at ha; exfalso; simp at ha
   ·rename_i hd _; rw [hd] at ha; exfalso; simp at ha
   ·rename_i hd _; rw [hd] at ha; exfalso; simp at ha
   ·rfl
  have b3 : ∀ (h : Hp) v, opConvPtr C.P h src dst v = none := by
   intro h v
   unfold opConvPtr
   split <;> first
    | rfl
    | (rename_i h1 h2; rw [h1, h2] at ha; simp at ha; done)
    | (rename_i h1 h2 _; rw [h1, h2] at ha; simp at ha; done)
  have key : ∀ h, opVal C (rdE e) h (.convert src dst y) = match rdE e y with | some v => still (opConvX C.P src dst v) | none => none := by
   intro h
   simp only [opVal]
   cases rdE e y with
   | none => rfl
   | some v => simp only [b0, b1, b2, b3]
  refine ⟨by rw [key, key], fun x k hk => ?_⟩
  rw [key] at hk
  split at hk
  ·exact still_none hk
  ·cases hk
 case h_10 =>
  rename_i T y lo hi mx
  unfold sliceApart at ha
  have b1 : ∀ (h : Hp) a l k, opSliceArr C.P h T a l k = none := by
   intro h a l k
   unfold opSliceArr
   split
   ·rename_i hd; rw [hd] at ha; simp at ha
   ·rfl
  cases mx with
  | none =>
   have key : ∀ h, opVal C (rdE e) h (.slice T y lo hi none) = match rdE e y, optRd (rdE e) lo, optRd (rdE e) hi with | some a, some l, some k => still (opSliceX C.P T a l k) | _, _, _ => none := by
    intro h
    simp only [opVal]
    cases rdE e y <;> cases optRd (rdE e) lo <;> cases optRd (rdE e) hi <;> simp only [b1]
   refine ⟨by rw [key, key], fun x k hk => ?_⟩
   rw [key] at hk
   split at hk
   ·exact still_none hk
   ·cases hk
  | some m =>
   refine ⟨rfl, fun x k hk => ?_⟩
   simp only [opVal] at hk
   split at hk
   ·split at hk
    ·exact still_none hk
    ·cases hk
   ·cases hk
 case h_13 =>
  rename_i g args argTypes
  have key : ∀ h, opVal C (rdE e) h (.call { callee := .value (.func g), args, argTypes }) = match rdAll (rdE e) args.toList with | some vs => opCall C (.fn g [] []) vs h | none => none := by
   intro h
   have e0 : rdE e (.func g) = some (.fn g [] []) := rfl
   simp only [opVal, e0]
   cases rdAll (rdE e) args.toList <;> rfl
  have k2 : ∀ vs (h h' : Hp), opCall C (.fn g [] []) vs h = opCall C (.fn g [] []) vs h' ∧ ∀ x k, opCall C (.fn g [] []) vs h = some (x, k) → k = none := by
   intro vs h h'
   refine ⟨by simp only [opCall, ha], fun x k hk => ?_⟩
   simp only [opCall, ha] at hk
   split at hk
   ·split at hk
    ·split at hk
     ·split at hk
      ·simp only [Option.some.injEq, Prod.mk.injEq] at hk; exact hk.2.symm
      ·cases hk
     ·cases hk
    ·exact opSym_none hk
   ·split at hk
    ·split at hk
     ·simp only [Option.some.injEq, Prod.mk.injEq] at hk; exact hk.2.symm
     ·cases hk
    ·cases hk
  rw [key, key]
  refine ⟨?_, fun x k hk => ?_⟩
  ·split
   ·exact (k2 _ h h').1
   ·rfl
  ·split at hk
   ·exact (k2 _ h h').2 x k hk
   ·cases hk
 case h_19 =>
  rename_i args argTypes
  have hf : isMapT C.P argTypes = false := by simpa using ha
  have key : ∀ h, opVal C (rdE e) h (.call { callee := .builtin .len, args, argTypes }) = match rdAll (rdE e) args.toList with | some [a] => still (opLenX C.P argTypes a) | _ => none := by
   intro h
   simp only [opVal, hf]
   cases rdAll (rdE e) args.toList with
   | none => rfl
   | some l => cases l with
    | nil => rfl
    | cons x r => cases r <;> rfl
  refine ⟨by rw [key, key], fun x k hk => ?_⟩
  rw [key] at hk
  split at hk
  ·exact still_none hk
  ·cases hk
 case h_21 =>
  rename_i n1 n2 n3 n4 n5 n6 n7 n8 n9 n10 n11 n12 n13 n14 n15 n16 n17 n18 n19 n20
  have key : ∀ h, opVal C (rdE e) h o = still (opRest C.P (rdE e) o) := by
   intro h
   unfold opVal
   split <;> first
    | rfl
    | (exfalso; first | exact n1 _ _ rfl | exact n2 _ _ _ rfl | exact n3 _ rfl | exact n4 _ _ rfl | exact n5 _ _ _ rfl | exact n6 _ _ _ rfl | exact n7 _ _ rfl | exact n8 _ _ rfl | exact n9 _ _ _ rfl | exact n10 _ _ _ _ _ rfl | exact n11 _ _ rfl | exact n12 _ _ rfl | exact n13 _ _ _ rfl | exact n14 _ _ _ rfl | exact n15 _ _ rfl | exact n16 _ _ _ _ rfl | exact n17 _ _ _ _ rfl | exact n18 _ _ _ _ rfl | exact n19 _ _ rfl | exact n20 _ _ rfl)
  exact ⟨by rw [key, key], fun x k hk => by rw [key] at hk; exact still_none hk⟩
 all_goals cases ha
section
variable {C : Cfg} {N0 : Nat} {w0 : Fr}
def Behind (C : Cfg) (N0 : Nat) (w0 : Fr) (n : Nat) (ρ : Ren) (e' : Env) (h' : Hp) (a : Act) (K : Act → World → Prop) : Prop :=
 ∀ a' w' ρ', EnvR ρ' e' a'.tmps → Ext ρ ρ' → Rel C.Γ N0 w0 ρ' h' w' → a'.tmps.size = n → a'.defers = a.defers → K a' w'
def dstOk (n : Nat) (o : Oper) : Bool := match o.dst with
 | some d => Nat.blt d n
 | none => true
omit [E : Amb] in
theorem dstOk_lt {n : Nat} {o : Oper} (h : dstOk n o = true) : ∀ k, o.dst = some k → k < n := by
 intro k hk
 unfold dstOk at h
 rw [hk] at h
 exact Nat.lt_of_lt_of_le (Nat.lt_succ_self k) (Nat.le_of_ble_eq_true h)
omit [E : Amb] in
theorem stepOp_cases {ops : Array Oper} {e : Env} {h : Hp} {o : Oper} {r : V × Option Hp} (hs : stepOp C ops e h o = some r) :
  (wantedE e ops o = some true ∧ opVal C (rdE e) h o.op = some r) ∨ (wantedE e ops o = some false ∧ r = (.tup [], none)) := by
 unfold stepOp at hs
 split at hs
 ·rename_i hw; exact .inl ⟨hw, hs⟩
 ·rename_i hw; simp only [Option.some.injEq] at hs; exact .inr ⟨hw, hs.symm⟩
 ·cases hs
theorem runOps_sound (hctx : CtxOk C) {ops : Array Oper} {n : Nat} {Q : Exit → Act → World → Prop} : ∀ (l : List Oper) {ρ : Ren} {e e' : Env} {h h' : Hp} {a : Act} {w : World}, (l.all (dstOk n)) = true →
  EnvR ρ e a.tmps → Rel C.Γ N0 w0 ρ h w → a.tmps.size = n → runOps C ops l e h = some (e', h') → Behind C N0 w0 n ρ e' h' a (Q .normal) → wpList C.P ops Q l a w := by
 intro l
 induction l with
 | nil =>
  intro ρ e e' h h' a w _ he H hn hr hb
  simp only [runOps, Option.some.injEq, Prod.mk.injEq] at hr; obtain ⟨rfl, rfl⟩ := hr
  exact hb a w ρ he (.refl _) H hn rfl
 | cons o l ih =>
  intro ρ e e' h h' a w hd he H hn hr hb
  simp only [List.all_cons, Bool.and_eq_true] at hd
  have hdl : ∀ k, o.dst = some k → k < a.tmps.size := by rw [hn]; exact dstOk_lt hd.1
  have hwant := wantedE_sound (ops := ops) (o := o) (a := a) (e := e) (ρ := ρ) (fun d _ => he d)
  simp only [runOps] at hr
  have go : ∀ v k, stepOp C ops e h o = some (v, k) → (∀ (a' : Act) (w' : World) (ρ' : Ren), EnvR ρ' (Env.put e o.dst v) a'.tmps → Ext ρ ρ' → Rel C.Γ N0 w0 ρ' (k.getD h) w' → a'.tmps.size = n → a'.defers = a.defers → wpList C.P ops Q l a' w') → wpList C.P ops Q (o :: l) a w := by
   intro v k hs hK
   simp only [wpList]
   rcases stepOp_cases hs with ⟨h1, h2⟩ | ⟨h1, h2⟩
   ·rw [hwant _ h1, if_pos rfl]
    left
    refine opVal_sound hctx H (rdE_sound he) h2 (fun u w' ρ' x1 x2 x3 => ?_)
    exact hK _ w' ρ' ((he.ext x1).put x3 hdl) x1 x2 (by rw [put_size]; exact hn) (put_defers' _ _ _)
   ·simp only [Prod.mk.injEq] at h2; obtain ⟨rfl, rfl⟩ := h2
    rw [hwant _ h1]
    simp only [Bool.false_eq_true, if_false]
    exact hK _ w ρ (he.put (undef_VR _) hdl) (.refl _) H (by rw [put_size]; exact hn) (put_defers' _ _ _)
  split at hr
  ·rename_i v hs
   refine go v none hs fun a' w' ρ' y1 y2 y3 y4 y5 => ?_
   exact ih hd.2 y1 y3 y4 hr fun a2 w2 ρ2 z1 z2 z3 z4 z5 => hb a2 w2 ρ2 z1 (y2.trans z2) z3 z4 (z5.trans y5)
  ·rename_i v h1 hs
   refine go v (some h1) hs fun a' w' ρ' y1 y2 y3 y4 y5 => ?_
   exact ih hd.2 y1 y3 y4 hr fun a2 w2 ρ2 z1 z2 z3 z4 z5 => hb a2 w2 ρ2 z1 (y2.trans z2) z3 z4 (z5.trans y5)
  ·cases hr
structure TrOk (C : Cfg) (A : Nat → Option V) (ops : Array Oper) (L : List Oper) (es : Nat → Env) (hs : Nat → Hp) (vs : Nat → V) (ns : Nat → Bool) : Prop where
 step : ∀ i o, L[i]? = some o → A i = none → ∃ k, stepOp C ops (es i) (hs i) o = some (vs i, k) ∧ k.getD (hs i) = hs (i + 1) ∧ (ns i = k.isSome)
 flo : ∀ i o v, L[i]? = some o → A i = some v → vs i = v ∧ hs (i + 1) = hs i ∧ ns i = false
 env : ∀ i o, L[i]? = some o → es (i + 1) = Env.put (es i) o.dst (vs i)
def consF {α : Type} (x : α) (f : Nat → α) : Nat → α
 | 0 => x
 | i + 1 => f i
omit [E : Amb] in
theorem traceOps_tr {ops : Array Oper} : ∀ (L : List Oper) (e e' : Env) (h h' : Hp) (tr : List Bool), traceOps C ops L e h = some (tr, e', h') →
    ∃ es hs vs ns, es 0 = e ∧ hs 0 = h ∧ es L.length = e' ∧ hs L.length = h' ∧ tr.length = L.length ∧ (∀ i b, tr[i]? = some b → ns i = b) ∧ TrOk C (fun _ => none) ops L es hs vs ns := by
  intro L
  induction L with
  | nil =>
    intro e e' h h' tr ht
    simp only [traceOps, Option.some.injEq, Prod.mk.injEq] at ht; obtain ⟨rfl, rfl, rfl⟩ := ht
    exact ⟨fun _ => e, fun _ => h, fun _ => .nilp, fun _ => false, rfl, rfl, rfl, rfl, rfl, fun i b hb => by simp at hb, ⟨fun i o hi => by simp at hi, fun i o v _ ha => (by cases ha), fun i o hi => by simp at hi⟩⟩
  | cons o L ih =>
    intro e e' h h' tr ht
    simp only [traceOps] at ht
    have go : ∀ v k tr' , stepOp C ops e h o = some (v, k) → traceOps C ops L (Env.put e o.dst v) (k.getD h) = some (tr', e', h') → tr = k.isSome :: tr' →
        ∃ es hs vs ns, es 0 = e ∧ hs 0 = h ∧ es (o :: L).length = e' ∧ hs (o :: L).length = h' ∧ tr.length = (o :: L).length ∧ (∀ i b, tr[i]? = some b → ns i = b) ∧ TrOk C (fun _ => none) ops (o :: L) es hs vs ns := by
      intro v k tr' hs hl htr
      obtain ⟨es, hs', vs, ns, q1, q2, q3, q4, q5, q6, q7⟩ := ih _ _ _ _ _ hl
      subst htr
      refine ⟨consF e es, consF h hs', consF v vs, consF k.isSome ns, rfl, rfl, q3, q4, by simp [q5], fun i b hb => ?_, ⟨fun i x hx _ => ?_, fun i o v _ ha => (by cases ha), fun i x hx => ?_⟩⟩
      · cases i with
        | zero => simpa [consF] using hb
        | succ i => exact q6 i b (by simpa using hb)
      · cases i with
        | zero =>
          simp only [List.getElem?_cons_zero, Option.some.injEq] at hx; subst hx
          exact ⟨k, hs, by show k.getD h = hs' 0; rw [q2], rfl⟩
        | succ i => exact q7.step i x (by simpa using hx) rfl
      · cases i with
        | zero =>
          simp only [List.getElem?_cons_zero, Option.some.injEq] at hx; subst hx
          show es 0 = _; rw [q1]; rfl
        | succ i => exact q7.env i x (by simpa using hx)
    split at ht
    · rename_i v hs
      split at ht
      · rename_i l e1 h1 hl
        simp only [Option.some.injEq, Prod.mk.injEq] at ht; obtain ⟨rfl, rfl, rfl⟩ := ht
        exact go v none l hs hl rfl
      · cases ht
    · rename_i v h0 hs
      split at ht
      · rename_i l e1 h1 hl
        simp only [Option.some.injEq, Prod.mk.injEq] at ht; obtain ⟨rfl, rfl, rfl⟩ := ht
        exact go v (some h0) l hs hl rfl
      · cases ht
    · cases ht
omit [E : Amb] in
theorem traceA_tr {A : Nat → Option V} {rd0 : Operand → Option V} {ops : Array Oper} : ∀ (L : List Oper) (d : Nat) (e e' : Env) (h h' : Hp) (tr : List Bool) (S : List (Env × Hp)), traceA C A rd0 ops d L e h = some (tr, S, e', h') →
    ∃ es hs vs ns, es 0 = e ∧ hs 0 = h ∧ es L.length = e' ∧ hs L.length = h' ∧ tr.length = L.length ∧ (∀ i b, tr[i]? = some b → ns i = b) ∧ (∀ i, i ≤ L.length → S[i]? = some (es i, hs i)) ∧ (∀ i o v, L[i]? = some o → A (d + i) = some v → floatEq (rdE (es i)) rd0 o.op = true) ∧ TrOk C (fun i => A (d + i)) ops L es hs vs ns := by
  intro L
  induction L with
  | nil =>
    intro d e e' h h' tr S ht
    simp only [traceA, Option.some.injEq, Prod.mk.injEq] at ht; obtain ⟨rfl, rfl, rfl, rfl⟩ := ht
    exact ⟨fun _ => e, fun _ => h, fun _ => .nilp, fun _ => false, rfl, rfl, rfl, rfl, rfl, fun i b hb => by simp at hb, fun i hi => (by obtain rfl : i = 0 := (by simpa using hi); rfl), fun i o v hi => by simp at hi, ⟨fun i o hi => by simp at hi, fun i o v hi => by simp at hi, fun i o hi => by simp at hi⟩⟩
  | cons o L ih =>
    intro d e e' h h' tr S ht
    simp only [traceA] at ht
    have go : ∀ v k tr' S', ((A d = none ∧ stepOp C ops e h o = some (v, k)) ∨ ((A d = some v ∧ floatEq (rdE e) rd0 o.op = true) ∧ k = none)) → traceA C A rd0 ops (d + 1) L (Env.put e o.dst v) (k.getD h) = some (tr', S', e', h') → tr = k.isSome :: tr' → S = (e, h) :: S' →
        ∃ es hs vs ns, es 0 = e ∧ hs 0 = h ∧ es (o :: L).length = e' ∧ hs (o :: L).length = h' ∧ tr.length = (o :: L).length ∧ (∀ i b, tr[i]? = some b → ns i = b) ∧ (∀ i, i ≤ (o :: L).length → S[i]? = some (es i, hs i)) ∧ (∀ i p v, (o :: L)[i]? = some p → A (d + i) = some v → floatEq (rdE (es i)) rd0 p.op = true) ∧ TrOk C (fun i => A (d + i)) ops (o :: L) es hs vs ns := by
      intro v k tr' S' hs hl htr hS
      obtain ⟨es, hs', vs, ns, q1, q2, q3, q4, q5, q6, q8, q9, q7⟩ := ih _ _ _ _ _ _ _ hl
      subst htr hS
      refine ⟨consF e es, consF h hs', consF v vs, consF k.isSome ns, rfl, rfl, q3, q4, by simp [q5], fun i b hb => ?_, fun i hi => ?_, fun i x v' hx ha => ?_, ⟨fun i x hx ha => ?_, fun i x v' hx ha => ?_, fun i x hx => ?_⟩⟩
      · cases i with
        | zero => simpa [consF] using hb
        | succ i => exact q6 i b (by simpa using hb)
      · cases i with
        | zero => rfl
        | succ i => exact q8 i (by simpa using hi)
      · cases i with
        | zero =>
          simp only [List.getElem?_cons_zero, Option.some.injEq] at hx; subst hx
          simp only [Nat.add_zero] at ha
          rcases hs with ⟨hs, _⟩ | ⟨⟨_, hs⟩, _⟩
          · rw [ha] at hs; cases hs
          · exact hs
        | succ i => exact q9 i x v' (by simpa using hx) (by rw [show d + 1 + i = d + (i + 1) by omega]; exact ha)
      · cases i with
        | zero =>
          simp only [List.getElem?_cons_zero, Option.some.injEq] at hx; subst hx
          simp only [Nat.add_zero] at ha
          rcases hs with ⟨_, hs⟩ | ⟨hs, _⟩
          · exact ⟨k, hs, by show k.getD h = hs' 0; rw [q2], rfl⟩
          · rw [ha] at hs; cases hs.1
        | succ i => exact q7.step i x (by simpa using hx) (by rw [show d + 1 + i = d + (i + 1) by omega]; exact ha)
      · cases i with
        | zero =>
          simp only [Nat.add_zero] at ha
          rcases hs with ⟨hs, _⟩ | ⟨⟨hs, _⟩, rfl⟩
          · rw [ha] at hs; cases hs
          · rw [ha] at hs; simp only [Option.some.injEq] at hs; subst hs
            exact ⟨rfl, q2, rfl⟩
        | succ i => exact q7.flo i x v' (by simpa using hx) (by rw [show d + 1 + i = d + (i + 1) by omega]; exact ha)
      · cases i with
        | zero =>
          simp only [List.getElem?_cons_zero, Option.some.injEq] at hx; subst hx
          show es 0 = _; rw [q1]; rfl
        | succ i => exact q7.env i x (by simpa using hx)
    split at ht
    · rename_i v ha
      split at ht
      · rename_i hfe
        split at ht
        · rename_i l S1 e1 h1 hl
          simp only [Option.some.injEq, Prod.mk.injEq] at ht; obtain ⟨rfl, rfl, rfl, rfl⟩ := ht
          exact go v none l S1 (.inr ⟨⟨ha, hfe⟩, rfl⟩) hl rfl rfl
        · cases ht
      · cases ht
    · rename_i ha
      split at ht
      · rename_i v hs
        split at ht
        · rename_i l S1 e1 h1 hl
          simp only [Option.some.injEq, Prod.mk.injEq] at ht; obtain ⟨rfl, rfl, rfl, rfl⟩ := ht
          exact go v none l S1 (.inl ⟨ha, hs⟩) hl rfl rfl
        · cases ht
      · rename_i v h0 hs
        split at ht
        · rename_i l S1 e1 h1 hl
          simp only [Option.some.injEq, Prod.mk.injEq] at ht; obtain ⟨rfl, rfl, rfl, rfl⟩ := ht
          exact go v (some h0) l S1 (.inl ⟨ha, hs⟩) hl rfl rfl
        · cases ht
      · cases ht
omit [E : Amb] in
theorem pairsFromA_get {A : Nat → Option V} {S : List (Env × Hp)} {ops : Array Oper} {bs : List (List Nat)} {i : Nat} {o : Oper} {n : Bool} : ∀ (l : List Oper) (ms : List Bool) (j : Nat), pairsFromA C A S ops bs i o n j l ms = true →
  ∀ k p, l[k]? = some p → ∃ m, ms[k]? = some m ∧ pairOkA C A S ops bs i o n (j + k) p m = true := by
 intro l
 induction l with
 | nil => intro ms j _ k p hk; simp at hk
 | cons q l ih =>
  intro ms j h k p hk
  cases ms with
  | nil => simp [pairsFromA] at h
  | cons m ms =>
   simp only [pairsFromA] at h
   split at h
   ·rename_i hp
    cases k with
    | zero => simp only [List.getElem?_cons_zero, Option.some.injEq] at hk; subst hk; exact ⟨m, rfl, hp⟩
    | succ k =>
     obtain ⟨m', h1, h2⟩ := ih ms (j + 1) h k p (by simpa using hk)
     exact ⟨m', by simpa using h1, by rw [show j + (k + 1) = j + 1 + k by omega]; exact h2⟩
   ·cases h
omit [E : Amb] in
theorem pairsAllA_get {A : Nat → Option V} {S : List (Env × Hp)} {ops : Array Oper} {bs : List (List Nat)} : ∀ (l : List Oper) (ns : List Bool) (i : Nat), pairsAllA C A S ops bs i l ns = true →
  ∀ a b o p, a < b → l[a]? = some o → l[b]? = some p → ∃ n m, ns[a]? = some n ∧ ns[b]? = some m ∧ pairOkA C A S ops bs (i + a) o n (i + b) p m = true := by
 intro l
 induction l with
 | nil => intro ns i _ a b o p _ ha; simp at ha
 | cons q l ih =>
  intro ns i h a b o p hab ha hb
  cases ns with
  | nil => simp [pairsAllA] at h
  | cons n ns =>
   simp only [pairsAllA] at h
   split at h
   ·rename_i hp
    cases a with
    | zero =>
     simp only [List.getElem?_cons_zero, Option.some.injEq] at ha; subst ha
     obtain ⟨b, rfl⟩ : ∃ c, b = c + 1 := ⟨b - 1, by omega⟩
     obtain ⟨m, h1, h2⟩ := pairsFromA_get l ns (i + 1) hp b p (by simpa using hb)
     exact ⟨n, m, rfl, by simpa using h1, by rw [Nat.add_zero, show i + (b + 1) = i + 1 + b by omega]; exact h2⟩
    | succ a =>
     obtain ⟨b, rfl⟩ : ∃ c, b = c + 1 := ⟨b - 1, by omega⟩
     obtain ⟨n', m', h1, h2, h3⟩ := ih ns (i + 1) h a b o p (by omega) (by simpa using ha) (by simpa using hb)
     exact ⟨n', m', by simpa using h1, by simpa using h2, by rw [show i + (a + 1) = i + 1 + a by omega, show i + (b + 1) = i + 1 + b by omega]; exact h3⟩
   ·cases h
omit [E : Amb] in
theorem pairsFrom_get {S : List (Env × Hp)} {ops : Array Oper} {bs : List (List Nat)} {i : Nat} {o : Oper} {n : Bool} : ∀ (l : List Oper) (ms : List Bool) (j : Nat), pairsFrom C S ops bs i o n j l ms = true →
  ∀ k p, l[k]? = some p → ∃ m, ms[k]? = some m ∧ pairOk C S ops bs i o n (j + k) p m = true := by
 intro l
 induction l with
 | nil => intro ms j _ k p hk; simp at hk
 | cons q l ih =>
  intro ms j h k p hk
  cases ms with
  | nil => simp [pairsFrom] at h
  | cons m ms =>
   simp only [pairsFrom] at h
   split at h
   ·rename_i hp
    cases k with
    | zero => simp only [List.getElem?_cons_zero, Option.some.injEq] at hk; subst hk; exact ⟨m, rfl, hp⟩
    | succ k =>
     obtain ⟨m', h1, h2⟩ := ih ms (j + 1) h k p (by simpa using hk)
     exact ⟨m', by simpa using h1, by rw [show j + (k + 1) = j + 1 + k by omega]; exact h2⟩
   ·cases h
omit [E : Amb] in
theorem pairsAll_get {S : List (Env × Hp)} {ops : Array Oper} {bs : List (List Nat)} : ∀ (l : List Oper) (ns : List Bool) (i : Nat), pairsAll C S ops bs i l ns = true →
  ∀ a b o p, a < b → l[a]? = some o → l[b]? = some p → ∃ n m, ns[a]? = some n ∧ ns[b]? = some m ∧ pairOk C S ops bs (i + a) o n (i + b) p m = true := by
 intro l
 induction l with
 | nil => intro ns i _ a b o p _ ha; simp at ha
 | cons q l ih =>
  intro ns i h a b o p hab ha hb
  cases ns with
  | nil => simp [pairsAll] at h
  | cons n ns =>
   simp only [pairsAll] at h
   split at h
   ·rename_i hp
    cases a with
    | zero =>
     simp only [List.getElem?_cons_zero, Option.some.injEq] at ha; subst ha
     obtain ⟨b, rfl⟩ : ∃ c, b = c + 1 := ⟨b - 1, by omega⟩
     obtain ⟨m, h1, h2⟩ := pairsFrom_get l ns (i + 1) hp b p (by simpa using hb)
     exact ⟨n, m, rfl, by simpa using h1, by rw [Nat.add_zero, show i + (b + 1) = i + 1 + b by omega]; exact h2⟩
    | succ a =>
     obtain ⟨b, rfl⟩ : ∃ c, b = c + 1 := ⟨b - 1, by omega⟩
     obtain ⟨n', m', h1, h2, h3⟩ := ih ns (i + 1) h a b o p (by omega) (by simpa using ha) (by simpa using hb)
     exact ⟨n', m', by simpa using h1, by simpa using h2, by rw [show i + (a + 1) = i + 1 + a by omega, show i + (b + 1) = i + 1 + b by omega]; exact h3⟩
   ·cases h
omit [E : Amb] in
theorem closedFrom_get {bs : List (List Nat)} : ∀ (l : List Oper) (i : Nat), closedFrom bs i l = true → ∀ k o, l[k]? = some o →
  (∀ j ∈ bindsOn o, j < i + k) ∧ ∀ m ∈ bs.getD (i + k) [], ∃ j ∈ bindsOn o, m = j ∨ m ∈ bs.getD j [] := by
 intro l
 induction l with
 | nil => intro i _ k o hk; simp at hk
 | cons q l ih =>
  intro i h k o hk
  simp only [closedFrom] at h
  split at h
  ·rename_i hp
   cases k with
   | zero =>
    simp only [List.getElem?_cons_zero, Option.some.injEq] at hk; subst hk
    simp only [Bool.and_eq_true, List.all_eq_true] at hp
    refine ⟨fun j hj => Nat.lt_of_lt_of_le (Nat.lt_succ_self j) (Nat.le_of_ble_eq_true (hp.1 j hj)), fun m hm => ?_⟩
    have := hp.2 m hm
    simp only [List.any_eq_true, Bool.or_eq_true] at this
    obtain ⟨j, hj, hh⟩ := this
    refine ⟨j, hj, ?_⟩
    rcases hh with hh | hh
    ·exact .inl (Nat.eq_of_beq_eq_true hh)
    ·exact .inr (by simpa using hh)
   | succ k =>
    have := ih (i + 1) h k o (by simpa using hk)
    rw [show i + (k + 1) = i + 1 + k by omega]; exact this
  ·cases h
omit [E : Amb] in
theorem pairOk_spec {A : Nat → Option V} {S : List (Env × Hp)} {ops : Array Oper} {bs : List (List Nat)} {i j : Nat} {o p : Oper} {n m : Bool} (h : pairOkA C A S ops bs i o n j p m = true) :
  (∀ d, o.dst = some d → p.dst ≠ some d) ∧ (∀ d, o.dst = some d → d ∈ readsOf ops p → i ∈ bs.getD j []) ∧ (∀ d, p.dst = some d → d ∈ readsOf ops o → i ∈ bs.getD j []) ∧
  (n = true → apA C A j p.op = false → earlyOk C S ops j p i = false → i ∈ bs.getD j []) ∧ (m = true → apA C A i o.op = false → lateOk C S ops i o j = false → i ∈ bs.getD j []) := by
 unfold pairOkA at h
 simp only [Bool.and_eq_true] at h
 obtain ⟨⟨h1, h2⟩, h3⟩ := h
 have ordm : (bs.getD j []).contains i = true → i ∈ bs.getD j [] := by simp
 refine ⟨fun d hd hp => ?_, fun d hd hr => ?_, fun d hd hr => ?_, fun hn ha heb => ?_, fun hm ha hlb => ?_⟩
 ·rw [hd] at h1
  simp only [Bool.and_eq_true] at h1
  rw [hp] at h1
  have := h1.1
  simp only [Bool.not_eq_true'] at this
  have h0 : Nat.beq d d = true := Nat.beq_refl d
  rw [h0] at this; cases this
 ·rw [hd] at h1
  simp only [Bool.and_eq_true, Bool.or_eq_true, Bool.not_eq_true'] at h1
  rcases h1.2 with hh | hh
  ·exact ordm hh
  ·have : (readsOf ops p).contains d = true := by simpa using hr
   rw [this] at hh; cases hh
 ·rw [hd] at h2
  simp only [Bool.or_eq_true, Bool.not_eq_true'] at h2
  rcases h2 with hh | hh
  ·exact ordm hh
  ·have : (readsOf ops o).contains d = true := by simpa using hr
   rw [this] at hh; cases hh
 ·simp only [Bool.or_eq_true, Bool.not_eq_true'] at h3
  rcases h3 with hh | hh
  ·exact ordm hh
  ·rw [hn, ha, heb] at hh; simp at hh
 ·simp only [Bool.or_eq_true, Bool.not_eq_true'] at h3
  rcases h3 with hh | hh
  ·exact ordm hh
  ·rw [hm, ha, hlb] at hh; simp at hh
omit [E : Amb] in
theorem states_get {ops : Array Oper} {L : List Oper} {es : Nat → Env} {hs : Nat → Hp} {vs : Nat → V} {ns : Nat → Bool} (T : TrOk C (fun _ => none) ops L es hs vs ns) : ∀ (l : List Oper) (d : Nat), (∀ k o, l[k]? = some o → L[d + k]? = some o) →
    ∀ i, i ≤ l.length → (statesOps C ops l (es d) (hs d))[i]? = some (es (d + i), hs (d + i)) := by
  intro l
  induction l with
  | nil => intro d _ i hi; have : i = 0 := by simpa using hi
           subst this; rfl
  | cons o l ih =>
    intro d hl i hi
    cases i with
    | zero => rfl
    | succ i =>
      have ho := hl 0 o rfl
      rw [Nat.add_zero] at ho
      obtain ⟨k, h1, h2, _⟩ := T.step d o ho rfl
      have he := T.env d o ho
      simp only [statesOps, List.getElem?_cons_succ]
      have := ih (d + 1) (fun k p hk => by rw [show d + 1 + k = d + (k + 1) by omega]; exact hl (k + 1) p (by simpa using hk)) i (by simpa using hi)
      rw [he, ← h2] at this
      rw [h1]
      rw [show d + (i + 1) = d + 1 + i by omega]
      cases k <;> exact this
structure DReg (C : Cfg) (A : Nat → Option V) (S : List (Env × Hp)) (ops : Array Oper) (n : Nat) (es : Nat → Env) (hs : Nat → Hp) (vs : Nat → V) (ns : Nat → Bool) (bs : List (List Nat)) : Prop where
 tr : TrOk C A ops ops.toList es hs vs ns
 edge : ∀ (k : Nat) (o : Oper), ops.toList[k]? = some o → (∀ j ∈ bindsOn o, j < k) ∧ ∀ m ∈ bs.getD k [], ∃ j ∈ bindsOn o, m = j ∨ m ∈ bs.getD j []
 pair : ∀ (a b : Nat) (o p : Oper), a < b → ops.toList[a]? = some o → ops.toList[b]? = some p → pairOkA C A S ops bs a o (ns a) b p (ns b) = true
 dst : ∀ (k : Nat) (o : Oper), ops.toList[k]? = some o → dstOk n o = true
 st : ∀ i, i ≤ ops.toList.length → S[i]? = some (es i, hs i)
 flo : ∀ i o v, ops.toList[i]? = some o → A i = some v → ∃ T a cs, floatV C.P (rdE (es i)) a o.op = some (v, T, cs) ∧ o.guard = none ∧
  ∀ m, m ≤ ops.toList.length → (∀ j oj, j < m → ops.toList[j]? = some oj → ns j = true → i ∉ bs.getD j []) → (hs m).t.get a = some (.cells a 0 0 cs) ∧ (hs m).els.get a = some (2 * T + 1)
 uniq : ∀ i j a, (A i).bind vblk = some a → (A j).bind vblk = some a → i = j
def lst (listed : Array Bool) (i : Nat) : Prop := listed.getD i false = true
structure DInv (C : Cfg) (A : Nat → Option V) (N0 : Nat) (w0 : Fr) (ops : Array Oper) (n : Nat) (es : Nat → Env) (hs : Nat → Hp) (vs : Nat → V) (ns : Nat → Bool) (bs : List (List Nat)) (listed : Array Bool) (a : Act) (w : World) (ρ : Ren) : Prop where
 size : listed.size = ops.size
 tsz : a.tmps.size = n
 vals : ∀ i o d, ops.toList[i]? = some o → lst listed i → o.dst = some d → VR ρ (vs i) (a.tmps.getD d undef)
 rest : ∀ s, (∀ i o, ops.toList[i]? = some o → lst listed i → o.dst ≠ some s) → VR ρ (Env.get (es 0) s) (a.tmps.getD s undef)
 heap : ∃ m, m ≤ ops.toList.length ∧ Rel C.Γ N0 w0 ρ (hs m) w ∧ ∀ j o, ops.toList[j]? = some o → ns j = true → (lst listed j ↔ j < m)
 closed : ∀ i o, ops.toList[i]? = some o → lst listed i → ∀ j ∈ bs.getD i [], lst listed j
 ghost : ∀ i a, i < ops.toList.length → (A i).bind vblk = some a → ¬ lst listed i → ρ a = none
 kk : ∀ i a, i < ops.toList.length → (A i).bind vblk = some a → w0.K ≤ a
section
variable {A : Nat → Option V} {S : List (Env × Hp)} {ops : Array Oper} {n : Nat} {es : Nat → Env} {hs : Nat → Hp} {vs : Nat → V} {ns : Nat → Bool} {bs : List (List Nat)}
omit [E : Amb] in
theorem es_get (R : DReg C A S ops n es hs vs ns bs) (s : Nat) : ∀ i, i ≤ ops.toList.length →
  (∃ j o, j < i ∧ ops.toList[j]? = some o ∧ o.dst = some s ∧ Env.get (es i) s = vs j) ∨ ((∀ j o, j < i → ops.toList[j]? = some o → o.dst ≠ some s) ∧ Env.get (es i) s = Env.get (es 0) s) := by
 intro i
 induction i with
 | zero => intro _; exact .inr ⟨fun j o hj => by omega, rfl⟩
 | succ i ih =>
  intro hi
  have ho : ops.toList[i]? = some (ops.toList[i]'(by omega)) := by simp
  have he := R.tr.env i _ ho
  by_cases hd : (ops.toList[i]'(by omega)).dst = some s
  ·exact .inl ⟨i, _, by omega, ho, hd, by rw [he, hd, env_get_put, if_pos rfl]⟩
  ·have hsame : Env.get (es (i + 1)) s = Env.get (es i) s := by rw [he, env_put_ne hd]
   rcases ih (by omega) with ⟨j, o, h1, h2, h3, h4⟩ | ⟨h1, h2⟩
   ·exact .inl ⟨j, o, by omega, h2, h3, by rw [hsame]; exact h4⟩
   ·refine .inr ⟨fun j o hj hjo => ?_, by rw [hsame]; exact h2⟩
    by_cases e : j = i
    ·subst e; rw [ho] at hjo; simp only [Option.some.injEq] at hjo; subst hjo; exact hd
    ·exact h1 j o (by omega) hjo
omit [E : Amb] in
theorem hs_quiet (R : DReg C A S ops n es hs vs ns bs) {b : Nat} (hb : b < ops.toList.length) (hn : ns b = false) : hs (b + 1) = hs b := by
 have ho : ops.toList[b]? = some (ops.toList[b]'hb) := by simp
 cases ha : A b with
 | some v => exact (R.tr.flo b _ v ho ha).2.1
 | none =>
  obtain ⟨k, h1, h2, h3⟩ := R.tr.step b _ ho ha
  rw [hn] at h3
  have hk : k = none := by cases k with | none => rfl | some _ => simp at h3
  subst hk
  rw [← h2]; rfl
omit [E : Amb] in
theorem hs_const (R : DReg C A S ops n es hs vs ns bs) {a b : Nat} (hab : a ≤ b) (hb : b ≤ ops.toList.length) (hq : ∀ j o, a ≤ j → j < b → ops.toList[j]? = some o → ns j = false) : hs b = hs a := by
  induction b with
  | zero => have : a = 0 := by omega
            subst this; rfl
  | succ b ih =>
    by_cases e : a = b + 1
    · subst e; rfl
    · have ho : ops.toList[b]? = some (ops.toList[b]'(by omega)) := by simp
      have hn := hq b _ (by omega) (by omega) ho
      rw [hs_quiet R (by omega) hn]
      exact ih (by omega) (by omega) fun j o hj hjb hjo => hq j o hj (by omega) hjo
omit [E : Amb] in
theorem isLoadO_spec {o : Op} (h : isLoadO o = true) : ∃ T ad, o = .load T ad := by
 unfold isLoadO at h
 split at h
 ·exact ⟨_, _, rfl⟩
 ·cases h
omit [E : Amb] in
theorem load_still {rd : Operand → Option V} {h : Hp} {T : TypeId} {ad : Operand} {x : V} {k : Option Hp} (hs : opVal C rd h (.load T ad) = some (x, k)) : k = none := by
 simp only [opVal] at hs
 split at hs
 ·exact still_none hs
 ·cases hs
omit [E : Amb] in
theorem late_same (R : DReg C A S ops n es hs vs ns bs) {o : Oper} {a b : Nat} {x : V} (hw : wantedE (es a) ops o = some true) (hab : a ≤ b) (hb : b ≤ ops.toList.length) (h0 : opVal C (rdE (es a)) (hs a) o.op = some (x, none))
    (hq : ∀ j oj, a ≤ j → j < b → ops.toList[j]? = some oj → ns j = true → lateOk C S ops a o j = true) : opVal C (rdE (es a)) (hs b) o.op = some (x, none) := by
  induction b with
  | zero => have : a = 0 := by omega
            subst this; exact h0
  | succ b ih =>
    by_cases e : a = b + 1
    · subst e; exact h0
    · have ho : ops.toList[b]? = some (ops.toList[b]'(by omega)) := by simp
      cases hn : ns b with
      | false =>
        rw [hs_quiet R (by omega) hn]
        exact ih (by omega) (by omega) fun j oj hj hjb => hq j oj hj (by omega)
      | true =>
        have hl := hq b _ (by omega) (by omega) ho hn
        unfold lateOk at hl
        rw [R.st a (by omega), R.st (b + 1) hb] at hl
        simp only [h0, hw] at hl
        split at hl
        · split at hl
          · rename_i v v' hv hv'
            simp only [Option.some.injEq, Prod.mk.injEq, and_true] at hv
            subst hv
            rw [V.same_eq _ _ hl]; exact hv'
          · cases hl
        · cases hl
omit [E : Amb] in
theorem early_same (R : DReg C A S ops n es hs vs ns bs) {o : Oper} {a : Nat} {x : V} (hw : wantedE (es a) ops o = some true) (ha : a ≤ ops.toList.length) (hld : isLoadO o.op = true) (h0 : opVal C (rdE (es a)) (hs a) o.op = some (x, none)) :
    ∀ (d b : Nat), b + d = a → (∀ j oj, b ≤ j → j < a → ops.toList[j]? = some oj → ns j = true → earlyOk C S ops a o j = true) → opVal C (rdE (es a)) (hs b) o.op = some (x, none) := by
  intro d
  induction d with
  | zero => intro b hb _; have : b = a := by omega
            subst this; exact h0
  | succ d ih =>
    intro b hb hq
    have hi := ih (b + 1) (by omega) fun j oj hj hja => hq j oj (by omega) hja
    have ho : ops.toList[b]? = some (ops.toList[b]'(by omega)) := by simp
    cases hn : ns b with
    | false =>
      rw [← hs_quiet R (by omega) hn]; exact hi
    | true =>
      have hl := hq b _ (Nat.le_refl _) (by omega) ho hn
      unfold earlyOk at hl
      rw [hld, R.st a ha, R.st b (by omega), R.st (b + 1) (by omega)] at hl
      simp only [hi, hw] at hl
      split at hl
      · rename_i v v' hv hv'
        simp only [Option.some.injEq, Prod.mk.injEq, and_true] at hv'
        subst hv'
        rw [hv, V.same_eq _ _ hl]
      · cases hl
omit [E : Amb] in
theorem lst_set {listed : Array Bool} {i j : Nat} (hi : i < listed.size) : lst (listed.setIfInBounds i true) j ↔ j = i ∨ lst listed j := by
 unfold lst
 simp only [Array.getD_eq_getD_getElem?, Array.getElem?_setIfInBounds]
 by_cases e : i = j
 ·subst e; simp [hi]
 ·rw [if_neg e]
  constructor
  ·exact .inr
  ·rintro (h | h)
   ·exact absurd h.symm e
   ·exact h
omit [E : Amb] in
theorem ready_spec {listed : Array Bool} (hsz : listed.size = ops.size) {i : Nat} (hi : i ∈ Region.ready .any ops listed) :
  ∃ o, ops.toList[i]? = some o ∧ i < ops.size ∧ ¬ lst listed i ∧ ∀ j ∈ bindsOn o, lst listed j := by
 unfold Region.ready at hi
 simp only [List.mem_filter, List.mem_range, Bool.and_eq_true, Bool.not_eq_true'] at hi
 obtain ⟨h1, h2, h3⟩ := hi
 have ho : ops[i]? = some ops[i] := by simp
 rw [ho] at h3
 simp only [Option.map_some, Option.getD_some, Array.all_eq_true'] at h3
 refine ⟨ops[i], by simp, h1, ?_, fun j hj => ?_⟩
 ·unfold lst
  rw [Array.getD_eq_getD_getElem?] at h2 ⊢
  rw [Array.getElem?_eq_getElem (by omega)] at h2 ⊢
  simp only [Option.getD_some] at h2 ⊢
  simp [h2]
 ·unfold bindsOn at hj
  simp only [List.mem_map, List.mem_filter] at hj
  obtain ⟨e, ⟨he1, he2⟩, rfl⟩ := hj
  have := h3 e (by simpa using he1)
  rw [he2] at this
  simpa [lst] using this
omit [E : Amb] in
theorem ready_mem {listed : Array Bool} (hsz : listed.size = ops.size) {i : Nat} {o : Oper} (ho : ops.toList[i]? = some o) (hn : ¬ lst listed i) (hb : ∀ j ∈ bindsOn o, lst listed j) : i ∈ Region.ready .any ops listed := by
 have hlt : i < ops.size := by have := (List.getElem?_eq_some_iff.1 ho).1; simpa using this
 have ho' : ops[i]? = some o := by simpa using ho
 unfold Region.ready
 simp only [List.mem_filter, List.mem_range, Bool.and_eq_true, Bool.not_eq_true']
 refine ⟨hlt, ?_, ?_⟩
 ·unfold lst at hn
  rw [Array.getD_eq_getD_getElem?] at hn ⊢
  rw [Array.getElem?_eq_getElem (by omega)] at hn ⊢
  simpa using hn
 ·rw [ho']
  simp only [Option.map_some, Option.getD_some, Array.all_eq_true']
  intro e he
  cases hbnd : Region.binds .any e with
  | false => simp
  | true =>
   have := hb e.on (by unfold bindsOn; exact List.mem_map.2 ⟨e, List.mem_filter.2 ⟨by simpa using he, hbnd⟩, rfl⟩)
   simpa [lst] using this
omit [E : Amb] in
theorem floatV_blk {P : Program} {rd : Operand → Option V} {a : Nat} {o : Op} {v : V} {T : TypeId} {cs : List V} (h : floatV P rd a o = some (v, T, cs)) : vblk v = some a := by
 unfold floatV at h
 split at h
 ·split at h
  ·simp only [Option.some.injEq, Prod.mk.injEq] at h; rw [← h.1]; rfl
  ·cases h
 ·split at h
  ·split at h
   ·split at h
    ·simp only [Option.some.injEq, Prod.mk.injEq] at h; rw [← h.1]; rfl
    ·cases h
   ·cases h
  ·cases h
 ·cases h
omit [E : Amb] in
theorem sameInt_spec {x y : Option V} (h : sameInt x y = true) : ∃ k k' n, x = some (.int k n) ∧ y = some (.int k' n) := by
 unfold sameInt at h
 split at h
 ·have := of_decide_eq_true h
  subst this
  exact ⟨_, _, _, rfl, rfl⟩
 ·cases h
omit [E : Amb] in
theorem floatEq_spec {P : Program} {rd rd0 : Operand → Option V} {a : Nat} {o : Op} (h : floatEq rd rd0 o = true) : floatV P rd a o = floatV P rd0 a o := by
 unfold floatEq at h
 split at h
 ·rfl
 ·simp only [Bool.and_eq_true] at h
  obtain ⟨k1, k2, n, e1, e2⟩ := sameInt_spec h.1
  obtain ⟨k3, k4, m, e3, e4⟩ := sameInt_spec h.2
  simp only [floatV, e1, e2, e3, e4]
  generalize P.underlying _ = q
  cases q with
  | none => rfl
  | some d => cases d <;> rfl
 ·cases h
theorem ghost_rel {Γ : Glob} {ρ : Ren} {h : Hp} {w : World} (H : Rel Γ N0 w0 ρ h w) {T a : Nat} {cs : List V} {arr : Array Value} (hzl : ∀ ρ, VRs ρ cs arr.toList) (ha : h.t.get a = some (.cells a 0 0 cs)) (he : h.els.get a = some (2 * T + 1))
    (hρ : ρ a = none) (hK : w0.K ≤ a) : Ext ρ (setR ρ a ⟨w.heap.size, 0, cs.length⟩) ∧ Rel Γ N0 w0 (setR ρ a ⟨w.heap.size, 0, cs.length⟩) h (World.new w (.cells arr T)) := by
  have hsz : cs.length = arr.size := by simpa using (hzl ρ).1
  have hext := setR_ext (L := ⟨w.heap.size, 0, cs.length⟩) hρ
  have hN : N0 ≤ w.heap.size := Nat.le_trans H.hN0 H.below.size
  have H' := H.grow (new_below w (.cells arr T))
  have hlt := H.elt a _ he
  have hat : setR ρ a ⟨w.heap.size, 0, cs.length⟩ a = some ⟨w.heap.size, 0, cs.length⟩ := by simp [setR]
  have hold : ∀ b, b ≠ a → setR ρ a ⟨w.heap.size, 0, cs.length⟩ b = ρ b := fun b hb => by simp [setR, hb]
  refine ⟨hext, ?_⟩
  · exact {
      below := H'.below
      hN0 := H.hN0
      glob := H.glob
      fresh := fun b hb => by rw [hold b (by omega)]; exact H.fresh b hb
      lt := fun b M hM => by
        by_cases e : b = a
        · subst e; rw [hat] at hM; simp only [Option.some.injEq] at hM; subst hM; rw [new_size]; exact Nat.lt_succ_self _
        · rw [hold b e] at hM; exact H'.lt b M hM
      blk := fun b x hne hx => by
        by_cases e : b = a
        · subst e
          rw [ha] at hx; simp only [Option.some.injEq] at hx; subst hx
          refine ⟨⟨w.heap.size, 0, cs.length⟩, hat, hN, arr, T, (0, 0), new_heap_new _ _, by show arr.size = 0 + cs.length; omega, Nat.le_refl _, fun i y u hy hu => ?_, fun o h1 h2 => by simp at h2⟩
          simp only [Nat.zero_add] at hu
          exact (hzl _).2 i y u hy (by simpa using hu)
        · rw [hold b e] at hne
          exact (H'.blk b x hne hx).ext hext
      sep := fun b c x y L M hx hy hL hM hff => by
        by_cases e : b = a <;> by_cases e' : c = a
        · subst e; subst e'; rw [hx] at hy; simp only [Option.some.injEq] at hy; subst hy; exact absurd rfl hff
        · subst e; rw [hat] at hL; simp only [Option.some.injEq] at hL; subst hL
          rw [hold c e'] at hM; have := H.lt c M hM
          show w.heap.size ≠ M.b; omega
        · subst e'; rw [hat] at hM; simp only [Option.some.injEq] at hM; subst hM
          rw [hold b e] at hL; have := H.lt b L hL
          show L.b ≠ w.heap.size; omega
        · rw [hold b e] at hL; rw [hold c e'] at hM; exact H.sep b c x y L M hx hy hL hM hff
      same := fun b c f fb fz xs gb gz ys L M hx hy hL hM hbb => by
        by_cases e : b = a <;> by_cases e' : c = a
        · subst e; subst e'; rw [hx] at hy
          simp only [Option.some.injEq, Blk.cells.injEq] at hy
          obtain ⟨_, rfl, _, _⟩ := hy
          rw [hL] at hM; simp only [Option.some.injEq] at hM; subst hM; rfl
        · subst e; rw [hat] at hL; simp only [Option.some.injEq] at hL; subst hL
          rw [hold c e'] at hM; have := H.lt c M hM
          have hbb' : w.heap.size = M.b := hbb
          omega
        · subst e'; rw [hat] at hM; simp only [Option.some.injEq] at hM; subst hM
          rw [hold b e] at hL; have := H.lt b L hL
          have hbb' : L.b = w.heap.size := hbb
          omega
        · rw [hold b e] at hL; rw [hold c e'] at hM; exact H.same b c f fb fz xs gb gz ys L M hx hy hL hM hbb
      fam := H.fam
      elk := fun b e0 hne hb => by
        by_cases e : b = a
        · subst e
          rw [he] at hb; simp only [Option.some.injEq] at hb; subst hb
          exact ⟨⟨w.heap.size, 0, cs.length⟩, arr, (0, 0), hat, by rw [half_odd]; exact new_heap_new w _, .inl rfl, fun _ => rfl⟩
        · rw [hold b e] at hne
          obtain ⟨L, arr, fr, q1, q2⟩ := H'.elk b e0 hne hb
          exact ⟨L, arr, fr, by rw [hold b e]; exact q1, q2⟩
      elt := H.elt
      old := ⟨H.old.1, fun b hb => by rw [hold b (by omega)]; exact H.old.2 b hb⟩
      kept := H.kept.step (fun b _ hlt => (new_below w (.cells arr T)).block b hlt) fun b x M hx hM => by
        by_cases e : b = a
        · subst e; rw [hat] at hM; simp only [Option.some.injEq] at hM; subst hM; exact .inr (Nat.le_refl _)
        · rw [hold b e] at hM; exact .inl ⟨b, x, M, hx, hM, rfl⟩
      pers := H.pers.step rfl (fun b _ hlt => (new_below w (.cells arr T)).block b hlt) fun b x M hx hM => by
        by_cases e : b = a
        · subst e; rw [hat] at hM; simp only [Option.some.injEq] at hM; subst hM; exact .inr (Nat.le_refl _)
        · rw [hold b e] at hM; exact .inl ⟨b, x, M, hx, hM, rfl⟩ }
theorem ghost_float {P : Program} {Γ : Glob} {ρ : Ren} {h : Hp} {w : World} (H : Rel Γ N0 w0 ρ h w) {rd : Operand → Option V} {ac : Act} {o : Oper} {v : V} {T a : Nat} {cs : List V} (hv : floatV P rd a o.op = some (v, T, cs))
  (hρx : ∀ x ∈ o.op.operands.toList, ∀ y, rd x = some y → VR ρ y (ac.eval x)) (ha : h.t.get a = some (.cells a 0 0 cs)) (he : h.els.get a = some (2 * T + 1)) (hρ : ρ a = none) (hK : w0.K ≤ a) :
  ∃ u w', (execOp ac.eval o).run P w = .ok (.value u) w' ∧ Ext ρ (setR ρ a ⟨w.heap.size, 0, cs.length⟩) ∧ Rel Γ N0 w0 (setR ρ a ⟨w.heap.size, 0, cs.length⟩) h w' ∧ VR (setR ρ a ⟨w.heap.size, 0, cs.length⟩) v u := by
 have hat : setR ρ a ⟨w.heap.size, 0, cs.length⟩ a = some ⟨w.heap.size, 0, cs.length⟩ := by simp [setR]
 unfold floatV at hv
 split at hv
 ·rename_i T' hop
  split at hv
  ·rename_i cs' hz
   simp only [Option.some.injEq, Prod.mk.injEq] at hv; obtain ⟨rfl, rfl, rfl⟩ := hv
   obtain ⟨z, hzr, hzl⟩ := run_zeroValue (P := P) (w := w) hz
   obtain ⟨g1, g2⟩ := ghost_rel H (arr := z.cells) hzl ha he hρ hK
   refine ⟨.pointer (some ⟨w.heap.size, 0, none⟩), World.new w (.cells z.cells T'), ?_, g1, g2, .ptr a 0 ⟨w.heap.size, 0, cs'.length⟩ hat⟩
   rw [show (execOp ac.eval o) = (do pure (Next.value (← Instr.alloc T' true (.tuple #[]))) : Sem Next) by unfold execOp; rw [hop], run_v]
   simp only [Instr.alloc, Sem.run_bind, hzr, Result.andThen_ok, newVar, run_newRow]; rfl
  ·cases hv
 ·rename_i T' lo co hop
  split at hv
  ·rename_i e k x k' y hT hl hc
   split at hv
   ·rename_i sz zs by_ hsz hz hby
    split at hv
    ·rename_i hcnd
     obtain ⟨hp, hzl, h0, hxy, hcb, hroom⟩ := hcnd
     subst hxy
     simp only [Option.some.injEq, Prod.mk.injEq] at hv; obtain ⟨rfl, rfl, rfl⟩ := hv
     have el : ac.eval lo = .int k x := (hρx lo (by rw [hop]; simp [Op.operands]) _ hl).int_inv
     have ec : ac.eval co = .int k' x := (hρx co (by rw [hop]; simp [Op.operands]) _ hc).int_inv
     obtain ⟨i, hi, rfl⟩ : ∃ i, P.info? e = some i ∧ i.bytes = by_ := by simpa [bytesOf] using hby
     obtain ⟨z, hzr, hzv⟩ := run_zeroValue (P := P) (w := w) hz
     have hw1 := wrap_small (n := x) h0 hcb
     have hzs : ∀ ρ, VRs ρ (zerosOf zs (x.toNat * sz)) ((Array.range (x.toNat * sz)).map (z.cells[· % z.cells.size]!)).toList := fun ρ => zerosOf_VRs (hzv ρ) _ (.inr (by omega))
     obtain ⟨g1, g2⟩ := ghost_rel H (arr := (Array.range (x.toNat * sz)).map (z.cells[· % z.cells.size]!)) hzs ha he hρ hK
     refine ⟨.slice (some ⟨w.heap.size, 0, none⟩) x.toNat x.toNat, _, ?_, g1, g2, .sl a 0 x.toNat sz x.toNat ⟨w.heap.size, 0, (zerosOf zs (x.toNat * sz)).length⟩ hat (Nat.le_refl _) (by simp [zerosOf])⟩
     rw [show (execOp ac.eval o) = (do pure (Next.value (← Instr.makeSlice T' (ac.eval lo) (ac.eval co))) : Sem Next) by unfold execOp; rw [hop], run_v, el, ec]
     have t1 : (decide (x < 0) || decide ((i.bytes : Int) * x > 2 ^ 48)) = false := by
      have e48 : ((2 : Int) ^ 48) = 281474976710656 := rfl
      rw [e48]; simp; omega
     have hrun : (Instr.makeSlice T' (.int k x) (.int k' x)).run P w = .ok (.slice (some ⟨w.heap.size, 0, none⟩) x.toNat x.toNat) (World.new w (.cells ((Array.range (x.toNat * sz)).map (z.cells[· % z.cells.size]!)) e)) := by
      simp only [Instr.makeSlice, Sem.run_bind, run_underlying hT, Result.andThen_ok, asInt, asIntOf, Sem.run_pure, run_typeInfo hi, hw1, t1]
      rw [if_neg (by simp; omega)]
      simp only [Sem.run_bind, run_askRoom, Result.andThen_ok, run_sizeOf hsz]
      by_cases e0 : x.toNat * sz = 0
      ·have hz0 : (Array.range (x.toNat * sz)).map ((#[] : Array Value)[· % (#[] : Array Value).size]!) = (Array.range (x.toNat * sz)).map (z.cells[· % z.cells.size]!) := by rw [e0]; simp
       rw [if_pos e0]
       simp only [Sem.run_bind, Sem.run_pure, Result.andThen_ok, hz0, run_newRow]
      ·rw [if_neg e0]
       simp only [Sem.run_bind, Sem.run_pure, hzr, Result.andThen_ok, run_newRow]
     rw [hrun]; rfl
    ·cases hv
   ·cases hv
  ·cases hv
 ·cases hv
theorem drawn_step (hctx : CtxOk C) (R : DReg C A S ops n es hs vs ns bs) {listed : Array Bool} {a : Act} {w : World} {ρ : Ren} (I : DInv C A N0 w0 ops n es hs vs ns bs listed a w ρ) {i : Nat} (hi : i ∈ Region.ready .any ops listed)
  {Q : Exit → Act → World → Prop} {K : Act → World → Prop} (hK : ∀ a' w' ρ', DInv C A N0 w0 ops n es hs vs ns bs (listed.setIfInBounds i true) a' w' ρ' → Ext ρ ρ' → a'.defers = a.defers → K a' w') : wpOp C.P ops Q i K a w := by
 obtain ⟨o, ho, hlt, hnl, hbl⟩ := ready_spec I.size hi
 have ho' : ops[i]? = some o := by simpa using ho
 have hil : i < ops.toList.length := by simpa using hlt
 -- all that lies ahead of it is listed
 have hbs : ∀ j ∈ bs.getD i [], lst listed j := by
  intro j hj
  obtain ⟨q, hq, hh⟩ := (R.edge i o ho).2 j hj
  rcases hh with rfl | hh
  ·exact hbl _ hq
  ·have hqi := (R.edge i o ho).1 q hq
   have hqo : ops.toList[q]? = some (ops.toList[q]'(by omega)) := by simp
   exact I.closed q _ hqo (hbl q hq) j hh
 -- what it reads
 have hslot : ∀ s, s ∈ readsOf ops o → VR ρ (Env.get (es i) s) (a.tmps.getD s undef) := by
  intro s hs
  rcases es_get R s i (by omega) with ⟨j, oj, h1, h2, h3, h4⟩ | ⟨h1, h2⟩
  ·have hp := pairOk_spec (R.pair j i oj o h1 h2 ho)
   rw [h4]
   exact I.vals j oj s h2 (hbs j (hp.2.1 s h3 hs)) h3
  ·rw [h2]
   refine I.rest s fun k ok hk hkl hkd => ?_
   rcases Nat.lt_trichotomy k i with hki | hki | hki
   ·exact h1 k ok hki hk hkd
   ·subst hki; exact hnl hkl
   ·have hp := pairOk_spec (R.pair i k o ok hki ho hk)
    exact hnl (I.closed k ok hk hkl i (hp.2.2.1 s hkd hs))
 have hdl : ∀ k, o.dst = some k → k < a.tmps.size := by rw [I.tsz]; exact dstOk_lt (R.dst i o ho)
 obtain ⟨m, hm1, hm2, hm3⟩ := I.heap
 -- the inner world behind the operation
 have fin : ∀ (u : Value) (w' : World) (ρ' : Ren), Ext ρ ρ' → (∀ j b, j ≠ i → j < ops.toList.length → (A j).bind vblk = some b → ¬ lst listed j → ρ' b = none) → VR ρ' (vs i) u → (∃ m', m' ≤ ops.toList.length ∧ Rel C.Γ N0 w0 ρ' (hs m') w' ∧ ∀ j oj, ops.toList[j]? = some oj → ns j = true → (lst (listed.setIfInBounds i true) j ↔ j < m')) → K (a.put o.dst u) w' := by
  intro u w' ρ' hext hgh hu hheap
  refine hK _ w' ρ' ⟨by simp [I.size], by rw [put_size]; exact I.tsz, fun j oj d hj hjl hd => ?_, fun s hs => ?_, hheap, fun j oj hj hjl q hq => ?_, fun j b hj hjb hjn => ?_, I.kk⟩ hext (put_defers' _ _ _)
  ·rcases (lst_set (by rw [I.size]; exact hlt)).1 hjl with rfl | hjl2
   ·rw [ho] at hj; simp only [Option.some.injEq] at hj; subst hj
    rw [hd]
    rw [act_put_eq (hdl d hd)]; exact hu
   ·have hji : j ≠ i := fun e => by subst e; exact hnl hjl2
    have hne : o.dst ≠ some d := by
     intro hod
     rcases Nat.lt_or_ge j i with hh | hh
     ·exact (pairOk_spec (R.pair j i oj o hh hj ho)).1 d hd hod
     ·exact (pairOk_spec (R.pair i j o oj (by omega) ho hj)).1 d hod hd
    rw [act_put_ne hne]
    exact (I.vals j oj d hj hjl2 hd).ext hext
  ·have hne : o.dst ≠ some s := hs i o ho ((lst_set (by rw [I.size]; exact hlt)).2 (.inl rfl))
   rw [act_put_ne hne]
   exact (I.rest s fun j oj hj hjl => hs j oj hj ((lst_set (by rw [I.size]; exact hlt)).2 (.inr hjl))).ext hext
  ·refine (lst_set (by rw [I.size]; exact hlt)).2 (.inr ?_)
   rcases (lst_set (by rw [I.size]; exact hlt)).1 hjl with rfl | hjl
   ·exact hbs q hq
   ·exact I.closed j oj hj hjl q hq
  ·exact hgh j b (fun e => hjn ((lst_set (by rw [I.size]; exact hlt)).2 (.inl e))) hj hjb fun hl => hjn ((lst_set (by rw [I.size]; exact hlt)).2 (.inr hl))
 have noNoise : ns i = false → ∃ m', m' ≤ ops.toList.length ∧ Rel C.Γ N0 w0 ρ (hs m') w ∧ ∀ j oj, ops.toList[j]? = some oj → ns j = true → (lst (listed.setIfInBounds i true) j ↔ j < m') := by
  intro hni
  refine ⟨m, hm1, hm2, fun j oj hj hnj => ?_⟩
  rw [lst_set (by rw [I.size]; exact hlt), ← hm3 j oj hj hnj]
  constructor
  ·rintro (rfl | h)
   ·rw [hni] at hnj; cases hnj
   ·exact h
  ·exact .inr
 -- what is not made yet
 have pend : ∀ j oj v, ops.toList[j]? = some oj → A j = some v → ¬ lst listed j → ∃ T a cs, floatV C.P (rdE (es j)) a oj.op = some (v, T, cs) ∧ oj.guard = none ∧ (hs m).t.get a = some (.cells a 0 0 cs) ∧ (hs m).els.get a = some (2 * T + 1) := by
  intro j oj v hj hja hjn
  obtain ⟨T, a, cs, f1, f2, f5⟩ := R.flo j oj v hj hja
  obtain ⟨g1, g2⟩ := f5 m hm1 fun q oq hqm hq hqn hin => hjn (I.closed q oq hq ((hm3 q oq hq hqn).2 hqm) j hin)
  exact ⟨T, a, cs, f1, f2, g1, g2⟩
 -- an operation as it stands leaves it so
 have keep : ∀ (ρ' : Ren), (∀ b, b < (hs m).next → ρ' b = ρ b) → ∀ j b, j ≠ i → j < ops.toList.length → (A j).bind vblk = some b → ¬ lst listed j → ρ' b = none := by
  intro ρ' hρ' j b _ hj hjb hjn
  obtain ⟨v, hv, hvb⟩ := Option.bind_eq_some_iff.1 hjb
  obtain ⟨T, a, cs, f3, _, _, g2⟩ := pend j _ _ (List.getElem?_eq_getElem hj) hv hjn
  have f4 := floatV_blk f3
  rw [hvb] at f4
  simp only [Option.some.injEq] at f4
  subst f4
  rw [hρ' b (hm2.elt b _ g2)]
  exact I.ghost j b hj hjb hjn
 unfold wpOp
 rw [ho']
 simp only
 have hwant := wantedE_sound (ops := ops) (o := o) (a := a) (e := es i) (ρ := ρ) (fun d hd => hslot d (by
  unfold readsOf
  rw [List.mem_append]
  right
  revert hd
  cases o.guard with
  | none => intro hd; cases hd
  | some gb => obtain ⟨g, b⟩ := gb; intro hd; simp only at hd ⊢; rw [hd]; simp))
 cases hAi : A i with
 | some v =>
  obtain ⟨T, b, cs, f1, f2, g1, g2⟩ := pend i o v ho hAi hnl
  have hAb : (A i).bind vblk = some b := by rw [hAi]; exact floatV_blk f1
  obtain ⟨e1, e2, e3⟩ := R.tr.flo i o v ho hAi
  have hw1 : wantedE (es i) ops o = some true := by unfold wantedE; rw [f2]
  rw [hwant _ hw1, if_pos rfl]
  left
  obtain ⟨u, w', p1, p2, p3, p4⟩ := ghost_float hm2 f1 (ac := a) (fun x hx y hy => by
   cases x with
   | tmp t =>
    simp only [rdE, Option.some.injEq] at hy; subst hy
    exact hslot t (by
     unfold readsOf
     rw [List.mem_append]
     left
     exact List.mem_filterMap.2 ⟨.tmp t, hx, rfl⟩)
   | const c => exact constV_sound hy
   | global g => simp only [rdE, Option.some.injEq] at hy; subst hy; exact .gp g 0
   | func f => simp only [rdE, Option.some.injEq] at hy; subst hy; exact .fn f [] [] #[] #[] rfl rfl (fun i x u h => by simp at h) (fun i x u h => by simp at h)) g1 g2 (I.ghost i b hil hAb hnl) (I.kk i b hil hAb)
  unfold Oper.wp
  rw [p1, Oper.upon_value]
  refine fin u w' _ p2 (fun j c hji hj hjc hjn => ?_) (by rw [e1]; exact p4) ⟨m, hm1, p3, fun j oj hj hnj => ?_⟩
  ·have hne : c ≠ b := fun e => hji (by subst e; exact R.uniq j i c hjc hAb)
   simp only [setR]
   rw [if_neg hne]
   exact I.ghost j c hj hjc hjn
  ·obtain ⟨m', _, _, q3⟩ := noNoise e3
   rw [lst_set (by rw [I.size]; exact hlt), ← hm3 j oj hj hnj]
   constructor
   ·rintro (rfl | h)
    ·rw [e3] at hnj; cases hnj
    ·exact h
   ·exact .inr
 | none =>
 obtain ⟨k, hstep, hk1, hk2⟩ := R.tr.step i o ho hAi
 have hapA : ∀ {b : Bool}, apartFromHeap C o.op = b → apA C A i o.op = b := by intro b h; unfold apA; rw [h, hAi]; simp
 rcases stepOp_cases hstep with ⟨h1, h2⟩ | ⟨h1, h2⟩
 ·rw [hwant _ h1, if_pos rfl]
  left
  -- the operands alone
  let rd' : Operand → Option V := fun x => match x with
   | .tmp t => if t ∈ readsOf ops o then some (Env.get (es i) t) else none
   | x => rdE (es i) x
  have hloc : ∀ h, opVal C rd' h o.op = opVal C (rdE (es i)) h o.op := by
   intro h
   refine opVal_local _ fun x hx => ?_
   cases x with
   | tmp t =>
    have : t ∈ readsOf ops o := by
     unfold readsOf
     rw [List.mem_append]
     left
     exact List.mem_filterMap.2 ⟨.tmp t, hx, rfl⟩
    simp only [rd', this, if_true, rdE]
   | _ => rfl
  have hρ : ∀ x v, rd' x = some v → VR ρ v (a.eval x) := by
   intro x v hx
   cases x with
   | tmp t =>
    simp only [rd'] at hx
    split at hx
    ·rename_i ht
     simp only [Option.some.injEq] at hx; subst hx
     exact hslot t ht
    ·cases hx
   | const c => exact constV_sound hx
   | global g => simp only [rd', rdE, Option.some.injEq] at hx; subst hx; exact .gp g 0
   | func f => simp only [rd', rdE, Option.some.injEq] at hx; subst hx; exact .fn f [] [] #[] #[] rfl rfl (fun i x u h => by simp at h) (fun i x u h => by simp at h)
  cases hap : apartFromHeap C o.op with
  | true =>
   obtain ⟨e1, e2⟩ := opVal_apart (C := C) (e := es i) (h := hs i) (h' := hs m) hap
   have hk0 := e2 _ _ h2
   subst hk0
   rw [e1, ← hloc] at h2
   exact opVal_sound hctx hm2.focus hρ h2 fun u w' ρ' x1 x2 x3 => by
    refine fin u w' ρ' x1 (keep ρ' x2.old.2) x3 ?_
    have hni : ns i = false := by rw [hk2]; rfl
    obtain ⟨m', q1, q2, q3⟩ := noNoise hni
    refine ⟨m, hm1, hm2.unfocus x2, fun j oj hj hnj => ?_⟩
    rw [lst_set (by rw [I.size]; exact hlt), ← hm3 j oj hj hnj]
    constructor
    ·rintro (rfl | h)
     ·rw [hni] at hnj; cases hnj
     ·exact h
    ·exact .inr
  | false =>
   cases hld : isLoadO o.op with
   | true =>
    have hni : ns i = false := by
     rw [hk2]
     obtain ⟨T, ad, hop⟩ := isLoadO_spec hld
     have hk0 := load_still (C := C) (rd := rdE (es i)) (h := hs i) (T := T) (ad := ad) (by rw [← hop]; exact h2)
     rw [hk0]; rfl
    obtain ⟨T, ad, hop⟩ := isLoadO_spec hld
    have hk0 : k = none := load_still (C := C) (rd := rdE (es i)) (h := hs i) (T := T) (ad := ad) (by rw [← hop]; exact h2)
    subst hk0
    have h3 : opVal C rd' (hs m) o.op = some (vs i, none) := by
     rw [hloc]
     rcases Nat.le_total m i with hmi | hmi
     ·refine early_same R h1 (by omega) hld h2 (i - m) m (by omega) fun j oj h3 h4 hj hnj => ?_
      cases heb : earlyOk C S ops i o j with
      | true => rfl
      | false =>
       have hl := hbs j ((pairOk_spec (R.pair j i oj o h4 hj ho)).2.2.2.1 hnj (hapA hap) heb)
       have := (hm3 j oj hj hnj).1 hl
       omega
     ·refine late_same R h1 hmi hm1 h2 fun j oj h3 h4 hj hnj => ?_
      have hl := (hm3 j oj hj hnj).2 h4
      rcases Nat.lt_or_ge i j with hij | hij
      ·cases hlb : lateOk C S ops i o j with
       | true => rfl
       | false => exact absurd (I.closed j oj hj hl i ((pairOk_spec (R.pair i j o oj hij ho hj)).2.2.2.2 hnj (hapA hap) hlb)) hnl
      ·have : j = i := by omega
       subst this; exact absurd hl hnl
    exact opVal_sound hctx hm2.focus hρ h3 fun u w' ρ' x1 x2 x3 => by
     refine fin u w' ρ' x1 (keep ρ' x2.old.2) x3 ?_
     refine ⟨m, hm1, hm2.unfocus x2, fun j oj hj hnj => ?_⟩
     rw [lst_set (by rw [I.size]; exact hlt), ← hm3 j oj hj hnj]
     constructor
     ·rintro (rfl | h)
      ·rw [hni] at hnj; cases hnj
      ·exact h
     ·exact .inr
   | false =>
   have hlbf : ∀ j, lateOk C S ops i o j = false := fun j => by unfold lateOk; rw [hld]
   have hebf : ∀ j, earlyOk C S ops i o j = false := fun j => by unfold earlyOk; rw [hld]
   -- the heap is as it was in the text
   have hlow : ∀ j oj, j < i → ops.toList[j]? = some oj → ns j = true → lst listed j := fun j oj hji hj hnj => hbs j ((pairOk_spec (R.pair j i oj o hji hj ho)).2.2.2.1 hnj (hapA hap) (hebf _))
   have hhigh : ∀ j oj, i < j → ops.toList[j]? = some oj → ns j = true → ¬ lst listed j := fun j oj hij hj hnj hl => hnl (I.closed j oj hj hl i ((pairOk_spec (R.pair i j o oj hij ho hj)).2.2.2.2 hnj (hapA hap) (hlbf _)))
   have hsame : hs m = hs i := by
    rcases Nat.le_total m i with hmi | hmi
    ·refine (hs_const R hmi (by omega) fun j oj h3 h4 hj => ?_).symm
     cases hnj : ns j with
     | false => rfl
     | true => have := (hm3 j oj hj hnj).1 (hlow j oj h4 hj hnj); omega
    ·refine hs_const R hmi hm1 fun j oj h3 h4 hj => ?_
     cases hnj : ns j with
     | false => rfl
     | true =>
      have hl := (hm3 j oj hj hnj).2 h4
      rcases Nat.lt_or_ge i j with hij | hij
      ·exact absurd hl (hhigh j oj hij hj hnj)
      ·have : j = i := by omega
       subst this; exact absurd hl hnl
   rw [← hsame, ← hloc] at h2
   exact opVal_sound hctx hm2.focus hρ h2 fun u w' ρ' x1 x2 x3 => by
    refine fin u w' ρ' x1 (keep ρ' x2.old.2) x3 ?_
    have x4 := hm2.unfocus x2
    rw [hsame, hk1] at x4
    refine ⟨i + 1, by omega, x4, fun j oj hj hnj => ?_⟩
    rw [lst_set (by rw [I.size]; exact hlt)]
    constructor
    ·rintro (rfl | h)
     ·omega
     ·rcases Nat.lt_or_ge i j with hij | hij
      ·exact absurd h (hhigh j oj hij hj hnj)
      ·omega
    ·intro hj1
     rcases Nat.lt_or_ge j i with hji | hji
     ·exact .inr (hlow j oj hji hj hnj)
     ·exact .inl (by omega)
 ·simp only [Prod.mk.injEq] at h2; obtain ⟨hv, rfl⟩ := h2
  rw [hwant _ h1]
  simp only [Bool.false_eq_true, if_false]
  refine fin undef w ρ (.refl _) (keep ρ fun _ _ => rfl) (by rw [hv]; exact undef_VR _) (noNoise ?_)
  rw [hk2]; rfl
def unl (ops : Array Oper) (listed : Array Bool) : List Nat := (List.range ops.size).filter fun i => !listed.getD i false
theorem drawn_any (hctx : CtxOk C) (R : DReg C A S ops n es hs vs ns bs) {Q : Exit → Act → World → Prop} {dfs : List Deferred} {ρ0 : Ren} (hQ : ∀ a w ρ, Ext ρ0 ρ → EnvR ρ (es ops.toList.length) a.tmps → Rel C.Γ N0 w0 ρ (hs ops.toList.length) w → a.tmps.size = n → a.defers = dfs → Q .normal a w) :
  ∀ (fuel : Nat) (listed : Array Bool) (a : Act) (w : World) (ρ : Ren), DInv C A N0 w0 ops n es hs vs ns bs listed a w ρ → Ext ρ0 ρ → a.defers = dfs → (unl ops listed).length ≤ fuel → wpAny C.P .any ops Q fuel listed a w := by
 have hend : ∀ (listed : Array Bool) (a : Act) (w : World) (ρ : Ren), DInv C A N0 w0 ops n es hs vs ns bs listed a w ρ → Ext ρ0 ρ → a.defers = dfs → (∀ i, i < ops.size → lst listed i) → Q .normal a w := by
  intro listed a w ρ I hx hd hall
  obtain ⟨m, hm1, hm2, hm3⟩ := I.heap
  have hsame : hs ops.toList.length = hs m := by
   refine hs_const R hm1 (Nat.le_refl _) fun j oj h3 h4 hj => ?_
   cases hnj : ns j with
   | false => rfl
   | true => have := (hm3 j oj hj hnj).1 (hall j (by simpa using h4)); omega
  refine hQ a w ρ hx (fun s => ?_) (by rw [hsame]; exact hm2) I.tsz hd
  rcases es_get R s ops.toList.length (Nat.le_refl _) with ⟨j, oj, h1, h2, h3, h4⟩ | ⟨h1, h2⟩
  ·rw [h4]; exact I.vals j oj s h2 (hall j (by simpa using h1)) h3
  ·rw [h2]
   exact I.rest s fun j oj hj _ => h1 j oj (List.getElem?_eq_some_iff.1 hj).1 hj
 have hmin : ∀ (listed : Array Bool) (a : Act) (w : World) (ρ : Ren), DInv C A N0 w0 ops n es hs vs ns bs listed a w ρ → Region.ready .any ops listed = [] → ∀ i, i < ops.size → lst listed i := by
  intro listed a w ρ I hr i
  induction i using Nat.strongRecOn with
  | ind i ih =>
   intro hi
   apply Classical.byContradiction
   intro hn
   have hil : i < ops.toList.length := by simpa using hi
   have ho : ops.toList[i]? = some (ops.toList[i]'hil) := by simp
   have := ready_mem I.size ho hn fun j hj => ih j ((R.edge i _ ho).1 j hj) (Nat.lt_trans ((R.edge i _ ho).1 j hj) hi)
   rw [hr] at this; cases this
 intro fuel
 induction fuel with
 | zero =>
  intro listed a w ρ I hx hd hf
  have hall : ∀ i, i < ops.size → lst listed i := by
   intro i hi
   apply Classical.byContradiction
   intro hn
   have hmem : i ∈ unl ops listed := List.mem_filter.2 ⟨List.mem_range.2 hi, by unfold lst at hn; simpa using hn⟩
   have : (unl ops listed).length ≠ 0 := fun e => by rw [List.length_eq_zero_iff.1 e] at hmem; cases hmem
   omega
  refine ⟨?_, hend listed a w ρ I hx hd hall⟩
  cases hr : Region.ready .any ops listed with
  | nil => rfl
  | cons i r =>
   obtain ⟨o, _, hi, hn, _⟩ := ready_spec I.size (i := i) (by rw [hr]; exact List.mem_cons_self)
   exact absurd (hall i hi) hn
 | succ fuel ih =>
  intro listed a w ρ I hx hd hf
  refine ⟨fun hr => hend listed a w ρ I hx hd (hmin listed a w ρ I hr), fun i hi => ?_⟩
  refine drawn_step hctx R I hi fun a' w' ρ' I' hx' hd' => ?_
  refine ih _ a' w' ρ' I' (hx.trans hx') (hd'.trans hd) ?_
  obtain ⟨o, ho, hlt, hnl, _⟩ := ready_spec I.size hi
  have hlt2 : (unl ops (listed.setIfInBounds i true)).length < (unl ops listed).length := by
   have hsub : unl ops (listed.setIfInBounds i true) = (unl ops listed).filter fun j => !(j == i) := by
    unfold unl
    rw [List.filter_filter]
    apply List.filter_congr
    intro j _
    have := lst_set (listed := listed) (i := i) (j := j) (by rw [I.size]; exact hlt)
    unfold lst at this
    rw [Bool.eq_iff_iff]
    simp only [Bool.not_eq_true', Bool.and_eq_true, beq_eq_false_iff_ne, ne_eq]
    constructor
    ·intro h
     have hh : ¬ (listed.setIfInBounds i true).getD j false = true := by rw [h]; simp
     rw [this] at hh
     refine ⟨fun e => hh (.inl e), ?_⟩
     cases hq : listed.getD j false with
     | false => rfl
     | true => exact absurd (.inr hq) hh
    ·rintro ⟨h1, h2⟩
     cases hq : (listed.setIfInBounds i true).getD j false with
     | false => rfl
     | true =>
      rcases this.1 hq with e | e
      ·exact absurd e h1
      ·rw [h2] at e; cases e
   rw [hsub]
   refine List.length_filter_lt_length_iff_exists.2 ⟨i, List.mem_filter.2 ⟨List.mem_range.2 hlt, by unfold lst at hnl; simpa using hnl⟩, by simp⟩
  omega
end
theorem opAt_sound (hctx : CtxOk C) {ops : Array Oper} {n i : Nat} {o : Oper} (ho : ops[i]? = some o) {Q : Exit → Act → World → Prop} {K : Act → World → Prop} {ρ : Ren} {e : Env} {h : Hp} {a : Act} {w : World} (hd : dstOk n o = true)
  (he : EnvR ρ e a.tmps) (H : Rel C.Γ N0 w0 ρ h w) (hn : a.tmps.size = n) {v : V} {k : Option Hp} (hs : stepOp C ops e h o = some (v, k))
  (hK : ∀ (a' : Act) (w' : World) (ρ' : Ren), EnvR ρ' (Env.put e o.dst v) a'.tmps → Ext ρ ρ' → Rel C.Γ N0 w0 ρ' (k.getD h) w' → a'.tmps.size = n → a'.defers = a.defers → K a' w') : wpOp C.P ops Q i K a w := by
 have hdl : ∀ k, o.dst = some k → k < a.tmps.size := by rw [hn]; exact dstOk_lt hd
 have hwant := wantedE_sound (ops := ops) (o := o) (a := a) (e := e) (ρ := ρ) (fun d _ => he d)
 unfold wpOp
 rw [ho]
 simp only
 rcases stepOp_cases hs with ⟨h1, h2⟩ | ⟨h1, h2⟩
 ·rw [hwant _ h1, if_pos rfl]
  left
  refine opVal_sound hctx H (rdE_sound he) h2 (fun u w' ρ' x1 x2 x3 => ?_)
  exact hK _ w' ρ' ((he.ext x1).put x3 hdl) x1 x2 (by rw [put_size]; exact hn) (put_defers' _ _ _)
 ·simp only [Prod.mk.injEq] at h2; obtain ⟨rfl, rfl⟩ := h2
  rw [hwant _ h1]
  simp only [Bool.false_eq_true, if_false]
  exact hK _ w ρ (he.put (undef_VR _) hdl) (.refl _) H (by rw [put_size]; exact hn) (put_defers' _ _ _)
omit [E : Amb] in
theorem runOps_head {ops : Array Oper} {o : Oper} {l : List Oper} {e : Env} {h : Hp} {r : Env × Hp} (hr : runOps C ops (o :: l) e h = some r) :
  ∃ v k, stepOp C ops e h o = some (v, k) ∧ runOps C ops l (Env.put e o.dst v) (k.getD h) = some r := by
 simp only [runOps] at hr
 split at hr
 ·rename_i v hs; exact ⟨v, none, hs, hr⟩
 ·rename_i v h1 hs; exact ⟨v, some h1, hs, hr⟩
 ·cases hr
omit [E : Amb] in
theorem any_step {P : Program} {ops : Array Oper} {Q : Exit → Act → World → Prop} {fuel : Nat} {L : Array Bool} {a : Act} {w : World} (hne : ∃ i, i ∈ Region.ready .any ops L)
  (h : ∀ i ∈ Region.ready .any ops L, wpOp P ops Q i (wpAny P .any ops Q fuel (L.setIfInBounds i true)) a w) : wpAny P .any ops Q (fuel + 1) L a w :=
 ⟨fun hr => (by obtain ⟨i, hi⟩ := hne; rw [hr] at hi; cases hi), h⟩
def RegW (P : Program) (ops : Array Oper) (Q : Exit → Act → World → Prop) (a : Act) (w : World) : Bool → Prop
 | false => wpList P ops Q ops.toList a w
 | true => wpAny P .any ops Q ops.size (Array.replicate ops.size false) a { w with drawn := w.drawn + 1 }
omit [E : Amb] in
theorem RegW.any {P : Program} {ops : Array Oper} {Q : Exit → Act → World → Prop} {a : Act} {w : World} (h : wpAny P .any ops Q ops.size (Array.replicate ops.size false) a { w with drawn := w.drawn + 1 }) : RegW P ops Q a w true := h
theorem fork_sound (hctx : CtxOk C) {ops : Array Oper} {n : Nat} {Q : Exit → Act → World → Prop} {ρ : Ren} {e e' : Env} {h h' : Hp} {a : Act} {w : World} (hf : forkOk ops = true)
    (hd : (ops.toList.all (dstOk n)) = true) (he : EnvR ρ e a.tmps) (H : Rel C.Γ N0 w0 ρ h w) (hn : a.tmps.size = n) (hr : forkE C ops e h = some (e', h')) (hb : Behind C N0 w0 n ρ e' h' a (Q .normal)) :
    RegW C.P ops Q a w true := by
  unfold forkOk at hf
  unfold forkE at hr
  split at hf
  case h_2 => cases hf
  rename_i o0 o1 o2 o3 hops
  rw [hops] at hr hd
  simp only at hr
  simp only [Bool.and_eq_true, List.isEmpty_iff, List.contains_iff_mem] at hf
  obtain ⟨⟨_, b0⟩, ⟨b1a, b1⟩, ⟨b2a, b2⟩, ⟨b3a, b31⟩, b32⟩ := hf
  simp only [List.all_cons, List.all_nil, Bool.and_true, Bool.and_eq_true] at hd
  obtain ⟨d0, d1, d2, d3⟩ := hd
  have hsz : ops.size = 4 := by rw [← Array.length_toList, hops]; rfl
  have g0 : ops.toList[0]? = some o0 := by rw [hops]; rfl
  have g1 : ops.toList[1]? = some o1 := by rw [hops]; rfl
  have g2 : ops.toList[2]? = some o2 := by rw [hops]; rfl
  have g3 : ops.toList[3]? = some o3 := by rw [hops]; rfl
  have a0 : ops[0]? = some o0 := by simpa using g0
  have a1 : ops[1]? = some o1 := by simpa using g1
  have a2 : ops[2]? = some o2 := by simpa using g2
  have a3 : ops[3]? = some o3 := by simpa using g3
  split at hr
  case h_2 => cases hr
  rename_i e1 h1 e2 h2 hr1 hr2
  split at hr
  case h_2 => cases hr
  rename_i h3 hj
  simp only [Option.some.injEq, Prod.mk.injEq] at hr; obtain ⟨rfl, rfl⟩ := hr
  -- the two ends
  have end1 : ∀ (a' : Act) (w' : World) (ρ' : Ren), EnvR ρ' e1 a'.tmps → Ext ρ ρ' → Rel C.Γ N0 w0 ρ' h1 w' → a'.tmps.size = n → a'.defers = a.defers → Q .normal a' w' :=
    fun a' w' ρ' y1 y2 y3 y4 y5 => hb a' w' ρ' (fun s => join_left (y1 s)) y2 (Hp.join_left hj y3) y4 y5
  have end2 : ∀ (a' : Act) (w' : World) (ρ' : Ren), EnvR ρ' e2 a'.tmps → Ext ρ ρ' → Rel C.Γ N0 w0 ρ' h2 w' → a'.tmps.size = n → a'.defers = a.defers → Q .normal a' w' :=
    fun a' w' ρ' y1 y2 y3 y4 y5 => hb a' w' ρ' (fun s => join_right (y1 s)) y2 (Hp.join_right hj y3) y4 y5
  refine RegW.any ?_
  rw [hsz]
  -- what is listed
  have l0 : ∀ j, ¬ lst (Array.replicate 4 false) j := by
    intro j
    unfold lst
    rw [Array.getD_eq_getD_getElem?, Array.getElem?_replicate]
    split <;> simp
  -- the last step
  have last : ∀ (L : Array Bool), L.size = 4 → (∀ j, lst L j ↔ j = 0 ∨ j = 1 ∨ j = 2) → ∀ (a' : Act) (w' : World) (ρ' : Ren) (ea : Env) (ha : Hp) (r : Env × Hp), runOps C ops [o3] ea ha = some r → EnvR ρ' ea a'.tmps → Ext ρ ρ' → Rel C.Γ N0 w0 ρ' ha w' → a'.tmps.size = n → a'.defers = a.defers →
      (∀ (a' : Act) (w' : World) (ρ' : Ren), EnvR ρ' r.1 a'.tmps → Ext ρ ρ' → Rel C.Γ N0 w0 ρ' r.2 w' → a'.tmps.size = n → a'.defers = a.defers → Q .normal a' w') → wpAny C.P .any ops Q 1 L a' w' := by
    intro L hL hl a' w' ρ' ea ha r hro y1 y2 y3 y4 y5 hend
    refine any_step ⟨3, ready_mem (by rw [hL, hsz]) g3 (fun hh => by have := (hl 3).1 hh; omega) (fun j hj => (hl j).2 (by have := List.all_eq_true.1 b3a j hj; have := Nat.lt_of_lt_of_le (Nat.lt_succ_self j) (Nat.le_of_ble_eq_true this); omega))⟩ fun i hi => ?_
    obtain ⟨o, q1, q2, q3, q4⟩ := ready_spec (by rw [hL, hsz]) hi
    have hi3 : i = 3 := by
      have hnot : ¬ (i = 0 ∨ i = 1 ∨ i = 2) := fun hh => q3 ((hl i).2 hh)
      omega
    subst hi3
    obtain ⟨v, k, hs, hrest⟩ := runOps_head hro
    refine opAt_sound hctx a3 d3 y1 y3 y4 hs fun a4 w4 ρ4 z1 z2 z3 z4 z5 => ?_
    simp only [runOps, Option.some.injEq] at hrest
    subst hrest
    refine ⟨?_, hend a4 w4 ρ4 z1 (y2.trans z2) z3 z4 (z5.trans y5)⟩
    cases hrd : Region.ready .any ops (L.setIfInBounds 3 true) with
    | nil => rfl
    | cons j r =>
      obtain ⟨oj, p1, p2, p3, p4⟩ := ready_spec (listed := L.setIfInBounds 3 true) (ops := ops) (by rw [Array.size_setIfInBounds, hL, hsz]) (i := j) (by rw [hrd]; exact List.mem_cons_self)
      exact absurd ((lst_set (by omega)).2 (by rw [hl]; omega)) p3
  refine any_step ⟨0, ready_mem (by simp [hsz]) g0 (l0 0) (fun j hj => by rw [b0] at hj; cases hj)⟩ fun i hi => ?_
  obtain ⟨o, q1, q2, q3, q4⟩ := ready_spec (by simp [hsz]) hi
  have hi0 : i = 0 := by
    rcases (show i = 0 ∨ i = 1 ∨ i = 2 ∨ i = 3 by omega) with rfl | rfl | rfl | rfl
    · rfl
    · rw [g1] at q1; simp only [Option.some.injEq] at q1; subst q1; exact absurd (q4 0 b1) (l0 0)
    · rw [g2] at q1; simp only [Option.some.injEq] at q1; subst q1; exact absurd (q4 0 b2) (l0 0)
    · rw [g3] at q1; simp only [Option.some.injEq] at q1; subst q1; exact absurd (q4 1 b31) (l0 1)
  subst hi0
  obtain ⟨v0, k0, s0, r0⟩ := runOps_head hr1
  obtain ⟨v0', k0', s0', r0'⟩ := runOps_head hr2
  rw [s0] at s0'
  simp only [Option.some.injEq, Prod.mk.injEq] at s0'
  obtain ⟨rfl, rfl⟩ := s0'
  refine opAt_sound hctx a0 d0 he (H.drawn _) hn s0 fun x1 u1 ρ1 y1 y2 y3 y4 y5 => ?_
  have l1 : ∀ j, lst ((Array.replicate 4 false).setIfInBounds 0 true) j ↔ j = 0 := fun j => by rw [lst_set (by simp)]; exact ⟨fun hh => hh.elim (fun hx => hx) (fun hh => absurd hh (l0 j)), .inl⟩
  refine any_step ⟨1, ready_mem (by simp [hsz]) g1 (fun hh => by have := (l1 1).1 hh; omega) (fun j hj => (l1 j).2 (by have := List.all_eq_true.1 b1a j hj; exact Nat.eq_of_beq_eq_true this))⟩ fun i hi => ?_
  obtain ⟨o, q1, q2, q3, q4⟩ := ready_spec (by simp [hsz]) hi
  have hi0 : i = 1 ∨ i = 2 := by
    rcases (show i = 0 ∨ i = 1 ∨ i = 2 ∨ i = 3 by omega) with rfl | rfl | rfl | rfl
    · exact absurd ((l1 0).2 rfl) q3
    · exact .inl rfl
    · exact .inr rfl
    · rw [g3] at q1; simp only [Option.some.injEq] at q1; subst q1; have := (l1 1).1 (q4 1 b31); omega
  rcases hi0 with rfl | rfl
  · obtain ⟨v1, k1, s1, r1⟩ := runOps_head r0
    refine opAt_sound hctx a1 d1 y1 y3 y4 s1 fun x2 u2 ρ2 z1 z2 z3 z4 z5 => ?_
    have l2 : ∀ j, lst (((Array.replicate 4 false).setIfInBounds 0 true).setIfInBounds 1 true) j ↔ j = 1 ∨ j = 0 := fun j => by rw [lst_set (by simp), l1]
    refine any_step ⟨2, ready_mem (by simp [hsz]) g2 (fun hh => by have := (l2 2).1 hh; omega) (fun j hj => (l2 j).2 (.inr (Nat.eq_of_beq_eq_true (List.all_eq_true.1 b2a j hj))))⟩ fun i hi => ?_
    obtain ⟨o, q1, q2, q3, q4⟩ := ready_spec (by simp [hsz]) hi
    have hi2 : i = 2 := by
      rcases (show i = 0 ∨ i = 1 ∨ i = 2 ∨ i = 3 by omega) with rfl | rfl | rfl | rfl
      · exact absurd ((l2 0).2 (.inr rfl)) q3
      · exact absurd ((l2 1).2 (.inl rfl)) q3
      · rfl
      · rw [g3] at q1; simp only [Option.some.injEq] at q1; subst q1; have := (l2 2).1 (q4 2 b32); omega
    subst hi2
    obtain ⟨v2, k2, s2, r2⟩ := runOps_head r1
    refine opAt_sound hctx a2 d2 z1 z3 z4 s2 fun x3 u3 ρ3 p1 p2 p3 p4 p5 => ?_
    exact last _ (by simp) (fun j => by rw [lst_set (by simp), l2]; omega) x3 u3 ρ3 _ _ _ r2 p1 ((y2.trans z2).trans p2) p3 p4 (p5.trans (z5.trans y5)) end1
  · obtain ⟨v1, k1, s1, r1⟩ := runOps_head r0'
    refine opAt_sound hctx a2 d2 y1 y3 y4 s1 fun x2 u2 ρ2 z1 z2 z3 z4 z5 => ?_
    have l2 : ∀ j, lst (((Array.replicate 4 false).setIfInBounds 0 true).setIfInBounds 2 true) j ↔ j = 2 ∨ j = 0 := fun j => by rw [lst_set (by simp), l1]
    refine any_step ⟨1, ready_mem (by simp [hsz]) g1 (fun hh => by have := (l2 1).1 hh; omega) (fun j hj => (l2 j).2 (.inr (Nat.eq_of_beq_eq_true (List.all_eq_true.1 b1a j hj))))⟩ fun i hi => ?_
    obtain ⟨o, q1, q2, q3, q4⟩ := ready_spec (by simp [hsz]) hi
    have hi2 : i = 1 := by
      rcases (show i = 0 ∨ i = 1 ∨ i = 2 ∨ i = 3 by omega) with rfl | rfl | rfl | rfl
      · exact absurd ((l2 0).2 (.inr rfl)) q3
      · rfl
      · exact absurd ((l2 2).2 (.inl rfl)) q3
      · rw [g3] at q1; simp only [Option.some.injEq] at q1; subst q1; have := (l2 1).1 (q4 1 b31); omega
    subst hi2
    obtain ⟨v2, k2, s2, r2⟩ := runOps_head r1
    refine opAt_sound hctx a1 d1 z1 z3 z4 s2 fun x3 u3 ρ3 p1 p2 p3 p4 p5 => ?_
    exact last _ (by simp) (fun j => by rw [lst_set (by simp), l2]; omega) x3 u3 ρ3 _ _ _ r2 p1 ((y2.trans z2).trans p2) p3 p4 (p5.trans (z5.trans y5)) end2
omit [E : Amb] in
theorem getA_mem : ∀ (l : List Flo) (i : Nat) (v : V), getA l i = some v → ∃ a T cs, (i, a, v, T, cs) ∈ l := by
 intro l
 induction l with
 | nil => intro i v h; cases h
 | cons f l ih =>
  intro i v h
  obtain ⟨j, a, v', T, cs⟩ := f
  simp only [getA] at h
  split at h
  ·rename_i hb
   simp only [Option.some.injEq] at h
   have := Nat.eq_of_beq_eq_true hb
   subst this; subst h
   exact ⟨a, T, cs, List.mem_cons_self⟩
  ·obtain ⟨a', T', cs', h1⟩ := ih i v h
   exact ⟨a', T', cs', List.mem_cons_of_mem _ h1⟩
omit [E : Amb] in
theorem isFloat_guard {o : Oper} (h : isFloat o = true) : o.guard = none := by
 unfold isFloat at h
 split at h
 ·assumption
 ·assumption
 ·cases h
omit [E : Amb] in
theorem floats_mem : ∀ (L : List Oper) (d i : Nat) (op : Op), (i, op) ∈ floatsFrom d L → ∃ o, L[i - d]? = some o ∧ d ≤ i ∧ o.op = op ∧ o.guard = none := by
 intro L
 induction L with
 | nil => intro d i T h; cases h
 | cons o L ih =>
  intro d i T h
  have next : (i, T) ∈ floatsFrom (d + 1) L → ∃ o', (o :: L)[i - d]? = some o' ∧ d ≤ i ∧ o'.op = T ∧ o'.guard = none := by
   intro h
   obtain ⟨o', h1, h2, h3⟩ := ih _ _ _ h
   refine ⟨o', ?_, by omega, h3⟩
   rw [show i - d = (i - (d + 1)) + 1 by omega]
   simpa using h1
  simp only [floatsFrom] at h
  split at h
  ·rename_i hfl
   rcases List.mem_cons.1 h with e | h
   ·simp only [Prod.mk.injEq] at e
    obtain ⟨rfl, rfl⟩ := e
    exact ⟨o, by simp, Nat.le_refl _, rfl, isFloat_guard hfl⟩
   ·exact next h
  ·exact next h
theorem ghost_new {_P : Program} {Γ : Glob} {ρ : Ren} {h : Hp} {w : World} (H : Rel Γ N0 w0 ρ h w) (T : Nat) (cs : List V) : Rel Γ N0 w0 ρ ((h.new cs).withEl h.next (2 * T + 1)) w := by
  have hfr := H.fresh h.next (Nat.le_refl _)
  have ht : ∀ b x, ρ b ≠ none → ((h.new cs).withEl h.next (2 * T + 1)).t.get b = some x → h.t.get b = some x := by
    intro b x hne hx
    simp only [Hp.withEl, Hp.new, Tr.get_put] at hx
    by_cases e : b = h.next
    · subst e; exact absurd hfr hne
    · rw [if_neg e] at hx; exact hx
  have F := H.fam.new cs
  exact {
    below := H.below
    hN0 := H.hN0
    glob := H.glob
    fresh := fun b hb => H.fresh b (by have : h.next + 1 ≤ b := hb
                                       omega)
    lt := H.lt
    blk := fun b x hne hx => H.blk b x hne (ht b x hne hx)
    sep := fun b c x y L M hx hy hL hM hff => H.sep b c x y L M (ht b x (some_ne hL) hx) (ht c y (some_ne hM) hy) hL hM hff
    same := fun b c f fb fz xs gb gz ys L M hx hy hL hM hbb => H.same b c f fb fz xs gb gz ys L M (ht b _ (some_ne hL) hx) (ht c _ (some_ne hM) hy) hL hM hbb
    fam := ⟨F.mem, F.sorted, F.lt, F.own⟩
    elk := fun b e0 hne hb => by
      simp only [Hp.withEl, Hp.new, Tr.get_put] at hb
      by_cases e : b = h.next
      · subst e; exact absurd hfr hne
      · rw [if_neg e] at hb; exact H.elk b e0 hne hb
    elt := fun b e0 hb => by
      simp only [Hp.withEl, Hp.new, Tr.get_put] at hb
      show b < h.next + 1
      by_cases e : b = h.next
      · omega
      · rw [if_neg e] at hb; have := H.elt b e0 hb; omega
    old := ⟨by have := H.old.1; show w0.K ≤ h.next + 1; omega, H.old.2⟩
    kept := H.kept.step (fun _ _ _ => rfl) fun b x M hx hM => .inl ⟨b, x, M, ht b x (some_ne hM) hx, hM, rfl⟩
    pers := H.pers.step rfl (fun _ _ _ => rfl) fun b x M hx hM => .inl ⟨b, x, M, ht b x (some_ne hM) hx, hM, rfl⟩ }
theorem preAlloc_ok {P : Program} {Γ : Glob} {ρ : Ren} {w : World} {rd0 : Operand → Option V} : ∀ (l : List (Nat × Op)) (h hA : Hp) (fl : List Flo), preAlloc P rd0 l h = (fl, hA) → Rel Γ N0 w0 ρ h w →
  Rel Γ N0 w0 ρ hA w ∧ (∀ i a v T cs, (i, a, v, T, cs) ∈ fl → ∃ op, (i, op) ∈ l ∧ floatV P rd0 a op = some (v, T, cs) ∧ h.next ≤ a) ∧ (∀ i j a v v' T T' cs cs', (i, a, v, T, cs) ∈ fl → (j, a, v', T', cs') ∈ fl → i = j) := by
 intro l
 induction l with
 | nil =>
  intro h hA fl hp H
  simp only [preAlloc, Prod.mk.injEq] at hp; obtain ⟨rfl, rfl⟩ := hp
  exact ⟨H, fun i a v T cs hm => by (cases hm), fun i j a v v' T T' cs cs' hm => by (cases hm)⟩
 | cons f l ih =>
  intro h hA fl hp H
  obtain ⟨i0, o0⟩ := f
  simp only [preAlloc] at hp
  split at hp
  ·rename_i v0 T0 cs0 hz
   obtain ⟨l', h', hl⟩ : ∃ l' h', preAlloc P rd0 l ((h.new cs0).withEl h.next (2 * T0 + 1)) = (l', h') := ⟨_, _, rfl⟩
   rw [hl] at hp
   simp only [Prod.mk.injEq] at hp; obtain ⟨rfl, rfl⟩ := hp
   obtain ⟨q1, q2, q3⟩ := ih _ _ _ hl (ghost_new (_P := P) H T0 cs0)
   have hn : ((h.new cs0).withEl h.next (2 * T0 + 1)).next = h.next + 1 := rfl
   rw [hn] at q2
   refine ⟨q1, fun i a v T cs hm => ?_, fun i j a v v' T T' cs cs' hm hm' => ?_⟩
   ·rcases List.mem_cons.1 hm with e | hm
    ·simp only [Prod.mk.injEq] at e
     obtain ⟨rfl, rfl, rfl, rfl, rfl⟩ := e
     exact ⟨o0, List.mem_cons_self, hz, Nat.le_refl _⟩
    ·obtain ⟨op, z1, z2, z3⟩ := q2 i a v T cs hm
     exact ⟨op, List.mem_cons_of_mem _ z1, z2, by omega⟩
   ·rcases List.mem_cons.1 hm with e | hm <;> rcases List.mem_cons.1 hm' with e' | hm'
    ·simp only [Prod.mk.injEq] at e e'; exact e.1.trans e'.1.symm
    ·simp only [Prod.mk.injEq] at e
     obtain ⟨_, rfl, _, _⟩ := e
     obtain ⟨_, _, _, hh⟩ := q2 j _ v' T' cs' hm'
     omega
    ·simp only [Prod.mk.injEq] at e'
     obtain ⟨_, rfl, _, _⟩ := e'
     obtain ⟨_, _, _, hh⟩ := q2 i _ v T cs hm
     omega
    ·exact q3 i j a v v' T T' cs cs' hm hm'
  ·obtain ⟨q1, q2, q3⟩ := ih _ _ _ hp H
   exact ⟨q1, fun i a v T cs hm => by obtain ⟨op, z1, z2⟩ := q2 i a v T cs hm; exact ⟨op, List.mem_cons_of_mem _ z1, z2⟩, q3⟩
omit [E : Amb] in
theorem ghostFrom_ok {bs : List (List Nat)} {i T a : Nat} {cs : List V} : ∀ (S : List (Env × Hp)) (m : Nat) (tr : List Bool), ghostFrom bs i T a cs m S tr = true →
    ∀ k e h, S[k]? = some (e, h) → (∀ j, j < k → ∀ b, tr[j]? = some b → b = true → i ∉ bs.getD (m + j) []) → k ≤ tr.length → h.t.get a = some (.cells a 0 0 cs) ∧ h.els.get a = some (2 * T + 1) := by
  intro S
  induction S with
  | nil => intro m tr _ k e h hk; simp at hk
  | cons s S ih =>
    intro m tr hg k e h hk hq hkt
    obtain ⟨e0, h0⟩ := s
    simp only [ghostFrom, Bool.and_eq_true] at hg
    obtain ⟨g1, g2, g3⟩ := hg
    cases k with
    | zero =>
      simp only [List.getElem?_cons_zero, Option.some.injEq, Prod.mk.injEq] at hk
      obtain ⟨rfl, rfl⟩ := hk
      constructor
      · split at g1
        · rename_i x hx; rw [hx, ← Blk.same_eq _ _ g1]
        · cases g1
      · split at g2
        · rename_i x hx; rw [hx, Nat.eq_of_beq_eq_true g2]
        · cases g2
    | succ k =>
      cases tr with
      | nil => simp at hkt
      | cons n tr =>
        simp only [Bool.or_eq_true, Bool.and_eq_true] at g3
        rcases g3 with g3 | g3
        · exact absurd (by simpa using g3.2) (hq 0 (by omega) n rfl g3.1)
        · exact ih (m + 1) tr g3 k e h (by simpa using hk) (fun j hj b hb hbt => by
            have := hq (j + 1) (by omega) b (by simpa using hb) hbt
            rw [show m + 1 + j = m + (j + 1) by omega]; exact this) (by simpa using hkt)
theorem regionA_sound (hctx : CtxOk C) {ops : Array Oper} {rd0 : Operand → Option V} {n : Nat} {Q : Exit → Act → World → Prop} {ρ : Ren} {e e' : Env} {h h' : Hp} {a : Act} {w : World}
  (hd : (ops.toList.all (dstOk n)) = true) (he : EnvR ρ e a.tmps) (H : Rel C.Γ N0 w0 ρ h w) (hn : a.tmps.size = n) (hr : regionA C ops rd0 e h = some (e', h')) (hb : Behind C N0 w0 n ρ e' h' a (Q .normal)) :
  RegW C.P ops Q a w true := by
 unfold regionA at hr
 split at hr
 ·rename_i bs fl hA hbs hp
  split at hr
  ·rename_i tr S e1 h1 ht
   split at hr
   ·rename_i hord
    simp only [Option.some.injEq, Prod.mk.injEq] at hr; obtain ⟨rfl, rfl⟩ := hr
    simp only [Bool.and_eq_true] at hord
    obtain ⟨o1, o2, o3⟩ := hord
    have hK := H.old.1
    obtain ⟨HA, z1, z2⟩ := preAlloc_ok (N0 := N0) (w0 := w0) _ _ _ _ hp H
    obtain ⟨es, hs, vs, ns, q1, q2, q3, q4, q5, q6, q8, q9, q7⟩ := traceA_tr _ _ _ _ _ _ _ _ ht
    have q7' : TrOk C (getA fl) ops ops.toList es hs vs ns := by
     have : (fun i => getA fl (0 + i)) = getA fl := by funext i; rw [Nat.zero_add]
     rw [this] at q7; exact q7
    have nsb : ∀ j oj, ops.toList[j]? = some oj → tr[j]? = some (ns j) := by
     intro j oj hj
     have hjl : j < tr.length := by rw [q5]; exact (List.getElem?_eq_some_iff.1 hj).1
     have hb : tr[j]? = some tr[j] := by simp
     rw [hb, q6 j _ hb]
    have R : DReg C (getA fl) S ops n es hs vs ns bs := by
     refine ⟨q7', fun k o hk => ?_, fun x y o p hab ha hb => ?_, fun k o hk => List.all_eq_true.1 hd o (List.mem_of_getElem? hk), q8, fun i o v ho hv => ?_, fun i j x hi hj => ?_⟩
     ·have := closedFrom_get _ 0 o1 k o hk
      rw [Nat.zero_add] at this; exact this
     ·obtain ⟨u, v, p1, p2, p3⟩ := pairsAllA_get _ _ 0 o2 x y o p hab ha hb
      rw [q6 x u p1, q6 y v p2]
      rw [Nat.zero_add, Nat.zero_add] at p3; exact p3
     ·obtain ⟨x, T, cs, m1⟩ := getA_mem _ _ _ hv
      obtain ⟨op, m2, m3, m4⟩ := z1 _ _ _ _ _ m1
      obtain ⟨o', g1, _, g3, g4⟩ := floats_mem _ _ _ _ m2
      rw [Nat.sub_zero, ho] at g1
      simp only [Option.some.injEq] at g1; subst g1
      subst g3
      refine ⟨T, x, cs, by rw [floatEq_spec (q9 i o v ho (by rw [Nat.zero_add]; exact hv))]; exact m3, g4, fun m hml hq => ?_⟩
      have := List.all_eq_true.1 o3 _ m1
      exact ghostFrom_ok S 0 tr this m _ _ (q8 m hml) (fun j hj b hbj hbt => by
       have hjl : j < ops.toList.length := by omega
       have hoj : ops.toList[j]? = some (ops.toList[j]'hjl) := by simp
       rw [nsb j _ hoj] at hbj
       simp only [Option.some.injEq] at hbj
       rw [Nat.zero_add]
       exact hq j _ hj hoj (by rw [hbj]; exact hbt)) (by rw [q5]; exact hml)
     ·obtain ⟨v, hi, hvx⟩ := Option.bind_eq_some_iff.1 hi
      obtain ⟨v', hj, hvx'⟩ := Option.bind_eq_some_iff.1 hj
      obtain ⟨y, T, cs, m1⟩ := getA_mem _ _ _ hi
      obtain ⟨y', T', cs', m2⟩ := getA_mem _ _ _ hj
      obtain ⟨_, _, b1, _⟩ := z1 _ _ _ _ _ m1
      obtain ⟨_, _, b2, _⟩ := z1 _ _ _ _ _ m2
      have c1 := floatV_blk b1
      have c2 := floatV_blk b2
      rw [hvx] at c1; rw [hvx'] at c2
      simp only [Option.some.injEq] at c1 c2
      subst c1; subst c2
      exact z2 _ _ _ _ _ _ _ _ _ m1 m2
    refine RegW.any ?_
    have hI : DInv C (getA fl) N0 w0 ops n es hs vs ns bs (Array.replicate ops.size false) a { w with drawn := w.drawn + 1 } ρ := by
     have hnl : ∀ i, ¬ lst (Array.replicate ops.size false) i := by
      intro i
      unfold lst
      rw [Array.getD_eq_getD_getElem?, Array.getElem?_replicate]
      split <;> simp
     refine ⟨by simp, hn, fun i o d _ hl => absurd hl (hnl i), fun s _ => by rw [q1]; exact he s, ⟨0, Nat.zero_le _, by rw [q2]; exact HA.drawn _, fun j o _ _ => ⟨fun hl => absurd hl (hnl j), fun hh => by omega⟩⟩, fun i o _ hl => absurd hl (hnl i), fun i x _ hi _ => ?_, fun i x _ hi => ?_⟩
     ·obtain ⟨v, hi, hvx⟩ := Option.bind_eq_some_iff.1 hi
      obtain ⟨y, T, cs, m1⟩ := getA_mem _ _ _ hi
      obtain ⟨_, _, b1, b2⟩ := z1 _ _ _ _ _ m1
      have c1 := floatV_blk b1
      rw [hvx] at c1
      simp only [Option.some.injEq] at c1
      subst c1
      exact H.fresh _ b2
     ·obtain ⟨v, hi, hvx⟩ := Option.bind_eq_some_iff.1 hi
      obtain ⟨y, T, cs, m1⟩ := getA_mem _ _ _ hi
      obtain ⟨_, _, b1, this⟩ := z1 _ _ _ _ _ m1
      have c1 := floatV_blk b1
      rw [hvx] at c1
      simp only [Option.some.injEq] at c1
      subst c1
      omega
    refine drawn_any hctx R (ρ0 := ρ) (dfs := a.defers) (fun a1 w1 ρ1 y5 y1 y2 y3 y4 => ?_) ops.size _ a _ ρ hI (.refl _) rfl ?_
    ·rw [q3] at y1; rw [q4] at y2
     exact hb a1 w1 ρ1 y1 y5 y2 y3 y4
    ·refine Nat.le_trans (List.length_filter_le _ _) ?_
     simp
   ·cases hr
  ·cases hr
 ·cases hr
theorem region_sound (hctx : CtxOk C) {ops : Array Oper} {draw : Bool} {n : Nat} {Q : Exit → Act → World → Prop} {ρ : Ren} {e e' : Env} {h h' : Hp} {a : Act} {w : World}
  (hd : (ops.toList.all (dstOk n)) = true) (he : EnvR ρ e a.tmps) (H : Rel C.Γ N0 w0 ρ h w) (hn : a.tmps.size = n) (hr : regionE C ops draw e h = some (e', h')) (hb : Behind C N0 w0 n ρ e' h' a (Q .normal)) :
  RegW C.P ops Q a w draw := by
 unfold regionE at hr
 split at hr
 ·exact runOps_sound hctx _ hd he H hn hr hb
 ·split at hr
  ·rename_i hfk
   exact fork_sound hctx hfk hd he H hn hr hb
  split at hr
  ·exact regionA_sound hctx hd he H hn hr hb
  split at hr
  ·rename_i tr e1 h1 ht
   split at hr
   ·rename_i hord
    simp only [Option.some.injEq, Prod.mk.injEq] at hr; obtain ⟨rfl, rfl⟩ := hr
    obtain ⟨es, hs, vs, ns, q1, q2, q3, q4, q5, q6, q7⟩ := traceOps_tr _ _ _ _ _ _ ht
    unfold orderOk at hord
    split at hord
    ·rename_i bs hbs
     simp only [Bool.and_eq_true] at hord
     have R : DReg C (fun _ => none) (statesOps C ops ops.toList e h) ops n es hs vs ns bs := by
      refine ⟨q7, fun k o hk => ?_, fun a b o p hab ha hb => ?_, fun k o hk => List.all_eq_true.1 hd o (List.mem_of_getElem? hk), fun i hi => by rw [← q1, ← q2]; have := states_get q7 ops.toList 0 (fun k o hk => by simpa using hk) i hi; rw [Nat.zero_add] at this; exact this, fun i o v _ hv => by (cases hv), fun i j x hi => by (cases hi)⟩
      ·have := closedFrom_get _ 0 hord.1 k o hk
       rw [Nat.zero_add] at this; exact this
      ·obtain ⟨x, y, p1, p2, p3⟩ := pairsAll_get _ _ 0 hord.2 a b o p hab ha hb
       rw [q6 a x p1, q6 b y p2]
       rw [Nat.zero_add, Nat.zero_add] at p3; rw [pairOkA_none]; exact p3
     refine RegW.any ?_
     have hI : DInv C (fun _ => none) N0 w0 ops n es hs vs ns bs (Array.replicate ops.size false) a { w with drawn := w.drawn + 1 } ρ := by
      have hnl : ∀ i, ¬ lst (Array.replicate ops.size false) i := by
       intro i
       unfold lst
       rw [Array.getD_eq_getD_getElem?, Array.getElem?_replicate]
       split <;> simp
      refine ⟨by simp, hn, fun i o d _ hl => absurd hl (hnl i), fun s _ => by rw [q1]; exact he s, ⟨0, Nat.zero_le _, by rw [q2]; exact H.drawn _, fun j o _ _ => ⟨fun hl => absurd hl (hnl j), fun hh => by omega⟩⟩, fun i o _ hl => absurd hl (hnl i), fun i x _ hi => by (cases hi), fun i x _ hi => by (cases hi)⟩
     refine drawn_any hctx R (ρ0 := ρ) (dfs := a.defers) (fun a1 w1 ρ1 y5 y1 y2 y3 y4 => ?_) ops.size _ a _ ρ hI (.refl _) rfl ?_
     ·rw [q3] at y1; rw [q4] at y2
      exact hb a1 w1 ρ1 y1 y5 y2 y3 y4
     ·refine Nat.le_trans (List.length_filter_le _ _) ?_
      simp
    ·cases hord
   ·exact regionA_sound hctx hd he H hn hr hb
  ·cases hr
end
def AX.to : AX → Exit
 | .normal => .normal
 | .exit id => .exit id
 | .goto l => .goto l
 | .ret => .ret
def FW (r : Option Nat) : Fence := { Fence.wide with round := r }
section
variable {P : Program} {r : Option Nat} {m : Nat} {ops : Array Oper} {Q : Exit → Act → World → Prop}
omit [E : Amb] in
theorem callsIn_fw {f : FuncId} {args : Array Value} {w : World} {R : Ending → World → Prop} : CallsIn (FW r) m P f args w R ↔ Calls P f args w R := callsIn_wide (n := m)
omit [E : Amb] in
theorem rowsIn_fw {row : String} {args : Array Value} {w : World} {R : Value → World → Prop} (h : Rows P row args w R) : RowsIn (FW r) m P row args w R :=
 fun c cs _ => let ⟨v, w', q, s⟩ := h c cs; ⟨v, w', q, stepsIn_wide.2 s⟩
omit [E : Amb] in
theorem no_depth {p : Prop} : (FW r).depth.isSome = true → p := fun h => by cases h
omit [E : Amb] in
theorem notDefer_spec {o : Op} (h : notDefer o = true) : ∀ c, o ≠ .defer c := fun c e => by subst e; cases h
omit [E : Amb] in
theorem wp_in {o : Oper} {a : Act} {w : World} {K : Act → World → Prop} (hnd : notDefer o.op = true) (h : o.wp P a w K Q) : o.wpIn (FW r) m P a w K Q := by
 refine ⟨fun f _ => trivial, ?_⟩
 unfold Oper.wp at h
 rw [Oper.semAt_eq _ _ _ (notDefer_spec hnd)]
 generalize (execOp a.eval o).run P w = x at *
 cases x with
 | ok x w' =>
  cases x <;> simp only [Oper.upon, Oper.uponIn] at h ⊢ <;>
   first
    | exact h
    | exact ⟨no_depth, callsIn_fw.2 h⟩
    | exact ⟨no_depth, rowsIn_fw h⟩
    | exact h.elim
 | halt x w' => cases x <;> simp only [Oper.upon, Oper.uponIn] at h ⊢ <;> exact h
omit [E : Amb] in
theorem wpOp_in (hnd : ∀ o ∈ ops.toList, notDefer o.op = true) (hQ : ¬ LetsOut Q) {i : Nat} {K K' : Act → World → Prop} {a : Act} {w : World} (hK : ∀ a w, K a w → K' a w) (h : wpOp P ops Q i K a w) : wpOpIn (FW r) m P ops Q i K' a w := by
 unfold wpOp at h
 unfold wpOpIn
 split
 ·rename_i ho
  rw [ho] at h
  exact hK _ _ h
 ·rename_i o ho
  rw [ho] at h
  simp only at h
  split
  ·rename_i hw
   rw [if_pos hw] at h
   rcases h with h | ⟨_, h⟩
   ·exact wp_in (hnd o (List.mem_of_getElem? (i := i) (by simpa using ho))) (Oper.wp_mono hK h)
   ·exact absurd h hQ
  ·rename_i hw
   rw [if_neg hw] at h
   exact ⟨fun _ _ => trivial, hK _ _ h⟩
omit [E : Amb] in
theorem wpAny_in (hnd : ∀ o ∈ ops.toList, notDefer o.op = true) (hQ : ¬ LetsOut Q) : ∀ (fuel : Nat) (listed : Array Bool) (a : Act) (w : World), wpAny P .any ops Q fuel listed a w → wpAnyIn (FW r) m P .any ops Q fuel listed a w := by
 intro fuel
 induction fuel with
 | zero => intro listed a w h; exact h
 | succ fuel ih =>
  intro listed a w h
  exact ⟨h.1, fun i hi => wpOp_in hnd hQ (fun a w hh => ih _ a w hh) (h.2 i hi)⟩
omit [E : Amb] in
theorem wpList_in (hQ : ¬ LetsOut Q) : ∀ (l : List Oper) (a : Act) (w : World), (∀ o ∈ l, notDefer o.op = true) → wpList P ops Q l a w → wpListIn (FW r) m P ops Q l a w := by
 intro l
 induction l with
 | nil => intro a w _ h; exact h
 | cons o l ih =>
  intro a w hnd h
  have hnd' := fun x hx => hnd x (List.mem_cons_of_mem _ hx)
  simp only [wpList] at h
  simp only [wpListIn]
  split
  ·rename_i hw
   rw [if_pos hw] at h
   rcases h with h | ⟨_, h⟩
   ·exact wp_in (hnd o List.mem_cons_self) (Oper.wp_mono (fun a w hh => ih a w hnd' hh) h)
   ·exact absurd h hQ
  ·rename_i hw
   rw [if_neg hw] at h
   exact ⟨fun _ _ => trivial, ih _ _ hnd' h⟩
omit [E : Amb] in
theorem RegW.wpIn (hm : P.follows .mixedOrders = true) (hnd : ∀ o ∈ ops.toList, notDefer o.op = true) (hQ : ¬ LetsOut Q) {draw : Bool} {id : Nat} {a : Act} {w : World} (h : RegW P ops Q a w draw) : (Code.region id ops draw).wpIn (FW r) m P Q a w := by
 cases draw with
 | false => exact wpIn_region_list (wpList_in hQ _ _ _ hnd h)
 | true => exact wpIn_region_any hm (wpAny_in hnd hQ _ _ _ _ h)
end
section
variable {C : Cfg} {N0 : Nat} {w0 : Fr}
def markOf (b : Nat) : Deferred := { target := .collected b, args := #[] }
def Marks (N0 : Nat) (k : List (Nat × Obj)) (d d' : List Deferred) : Prop := ∃ bs : List Nat, d' = bs.map markOf ++ d ∧ bs.Nodup ∧ ∀ b ∈ bs, (b, Obj.deferred (some [])) ∈ k ∧ N0 ≤ b
omit [E : Amb] in
theorem Marks.refl (N0 : Nat) (k : List (Nat × Obj)) (d : List Deferred) : Marks N0 k d d := ⟨[], rfl, List.nodup_nil, fun _ h => by cases h⟩
omit [E : Amb] in
theorem Marks.trans {N0 : Nat} {k k' : List (Nat × Obj)} {a b c : List Deferred} (h : Marks N0 k a b) (h' : Marks N0 k' b c) (hn : ((k' ++ k).map (·.1)).Nodup) : Marks N0 (k' ++ k) a c := by
 obtain ⟨l, rfl, h1, h2⟩ := h
 obtain ⟨l', rfl, h3, h4⟩ := h'
 refine ⟨l' ++ l, by simp, ?_, fun x hx => ?_⟩
 ·rw [List.map_append, List.nodup_append] at hn
  rw [List.nodup_append]
  refine ⟨h3, h1, fun x hx y hy => ?_⟩
  exact hn.2.2 x (List.mem_map.2 ⟨_, (h4 x hx).1, rfl⟩) y (List.mem_map.2 ⟨_, (h2 y hy).1, rfl⟩)
 ·rcases List.mem_append.1 hx with hx | hx
  ·exact ⟨List.mem_append_left _ (h4 x hx).1, (h4 x hx).2⟩
  ·exact ⟨List.mem_append_right _ (h2 x hx).1, (h2 x hx).2⟩
def Fr.more (w0 : Fr) (k : List (Nat × Obj)) : Fr := ⟨w0.w, w0.K, w0.r, k ++ w0.keep⟩
omit [E : Amb] in
theorem Fr.more_more (w0 : Fr) (k k' : List (Nat × Obj)) : (w0.more k).more k' = w0.more (k' ++ k) := by simp [Fr.more]
def BehindM (C : Cfg) (N0 : Nat) (w0 : Fr) (n : Nat) (ρ : Ren) (e' : Env) (h' : Hp) (a : Act) (K : Act → World → Prop) : Prop :=
 ∀ a' w' ρ' k, EnvR ρ' e' a'.tmps → Ext ρ ρ' → Rel C.Γ N0 (w0.more k) ρ' h' w' → a'.tmps.size = n → Marks N0 k a.defers a'.defers → K a' w'
theorem BehindM.one {n : Nat} {ρ : Ren} {e' : Env} {h' : Hp} {a : Act} {K : Act → World → Prop} (h : BehindM C N0 w0 n ρ e' h' a K) : Behind C N0 w0 n ρ e' h' a K :=
 fun a' w' ρ' z1 z2 z3 z4 z5 => h a' w' ρ' [] z1 z2 z3 z4 (by rw [z5]; exact .refl _ _ _)
theorem BehindM.next {n : Nat} {ρ ρ1 : Ren} {e' : Env} {h' : Hp} {a a1 : Act} {k : List (Nat × Obj)} {K : Act → World → Prop} (h : BehindM C N0 w0 n ρ e' h' a K) (hx : Ext ρ ρ1) (hd : Marks N0 k a.defers a1.defers) : BehindM C N0 (w0.more k) n ρ1 e' h' a1 K :=
 fun a2 w2 ρ2 k' z1 z2 z3 z4 z5 => by
  have e : (w0.more k).more k' = w0.more (k' ++ k) := Fr.more_more _ _ _
  rw [e] at z3
  refine h a2 w2 ρ2 (k' ++ k) z1 (hx.trans z2) z3 z4 (hd.trans z5 ?_)
  have hn : (((k' ++ k) ++ w0.keep).map (·.1)).Nodup := z3.kept.1
  rw [List.map_append, List.nodup_append] at hn
  exact hn.1
theorem loop_sound {b : Code} {r : Option Nat} {m n : Nat} {f : Env → Hp → Option (AX × Env × Hp)}
  (hb : ∀ {w0 : Fr} {Q : Exit → Act → World → Prop} {ρ : Ren} {e e' : Env} {h h' : Hp} {a : Act} {w : World} {x : AX}, EnvR ρ e a.tmps → Rel C.Γ N0 w0 ρ h w → a.tmps.size = n → f e h = some (x, e', h') → BehindM C N0 w0 n ρ e' h' a (Q x.to) → b.wpIn (FW r) m C.P Q a w)
  {Q : Exit → Act → World → Prop} : ∀ (j : Nat) {w0 : Fr} {ρ : Ren} {e e' : Env} {h h' : Hp} {a : Act} {w : World} {x : AX},
  EnvR ρ e a.tmps → Rel C.Γ N0 w0 ρ h w → a.tmps.size = n → loopE f j e h = some (x, e', h') → BehindM C N0 w0 n ρ e' h' a (Q x.to) → Code.roundsIn (FW r) m C.P b Q j a w := by
 intro j
 induction j with
 | zero => intro w0 ρ e e' h h' a w x _ _ _ hr _; cases hr
 | succ j ih =>
  intro w0 ρ e e' h h' a w x he H hn hr hk
  rw [roundsIn_succ]
  simp only [loopE] at hr
  split at hr
  ·rename_i e1 h1 hf
   refine hb he H hn hf (Q := Exit.then (Code.roundsIn (FW r) m C.P b Q j) Q) (fun a1 w1 ρ1 k1 z1 z2 z3 z4 z5 => ?_)
   exact ih z1 z3 z4 hr (hk.next z2 z5)
  ·rename_i hne
   refine hb he H hn hr (Q := Exit.then (Code.roundsIn (FW r) m C.P b Q j) Q) (fun a1 w1 ρ1 k1 z1 z2 z3 z4 z5 => ?_)
   have := hk a1 w1 ρ1 k1 z1 z2 z3 z4 z5
   cases x with
   | normal => exact absurd hr (hne _ _)
   | exit id => exact this
   | goto l => exact this
   | ret => exact this
omit [E : Amb] in
theorem lookup_enterE : ∀ (args : List V) (i : Nat) (e : Env) (s : Nat), Env.get (enterE i args e) s = if i ≤ s ∧ s < i + args.length then args.getD (s - i) (.tup []) else Env.get e s := by
 intro args
 induction args with
 | nil => intro i e s; simp only [enterE, List.length_nil]; rw [if_neg (by omega)]
 | cons v r ih =>
  intro i e s
  simp only [enterE, ih, List.length_cons]
  by_cases h : i + 1 ≤ s ∧ s < i + 1 + r.length
  ·rw [if_pos h, if_pos (by omega)]
   obtain ⟨k, rfl⟩ : ∃ k, s = i + 1 + k := ⟨s - (i + 1), by omega⟩
   rw [show i + 1 + k - (i + 1) = k by omega, show i + 1 + k - i = k + 1 by omega]
   simp
  ·rw [if_neg h]
   have hp := env_get_put e i v s
   simp only [Env.put] at hp
   rw [hp]
   by_cases hs : s = i
   ·subst hs; rw [if_pos rfl, if_pos (by omega)]; simp
   ·rw [if_neg hs, if_neg (by omega)]
theorem enter_EnvR {ρ : Ren} {args : List V} {us : Array Value} (hv : VRs ρ args us.toList) (m : Nat) : EnvR ρ (enterE 0 args .leaf) (us ++ Array.replicate m undef) := by
 intro s
 have hl : us.size = args.length := by simpa using hv.1.symm
 rw [lookup_enterE]
 by_cases hs : s < args.length
 ·rw [if_pos (by omega)]
  have h1 : args[s]? = some args[s] := by simp
  obtain ⟨u, hu, hr⟩ := hv.get h1
  have hu' : us[s]? = some u := by simpa using hu
  rw [Nat.sub_zero, List.getD_eq_getElem?_getD, h1]
  rw [Array.getD_eq_getD_getElem?, Array.getElem?_append_left (by omega), hu']
  exact hr
 ·rw [if_neg (by omega)]
  have e1 : Env.get .leaf s = .tup [] := rfl
  rw [e1, Array.getD_eq_getD_getElem?, Array.getElem?_append_right (by omega)]
  have : (Array.replicate m undef)[s - us.size]?.getD undef = undef := by
   rw [Array.getElem?_replicate]; split <;> rfl
  rw [this]; exact undef_VR _
theorem Rel.keepLess {ρ : Ren} {h : Hp} {w : World} {kk : List (Nat × Obj)} (H : Rel C.Γ N0 ⟨w0.w, w0.K, w0.r, kk⟩ ρ h w) (hs : ∀ p ∈ w0.keep, p ∈ kk) (hn : (w0.keep.map (·.1)).Nodup) : Rel C.Γ N0 w0 ρ h w :=
 { H with kept := ⟨hn, fun b o hb => H.kept.2 b o (hs _ hb)⟩ }
theorem Rel.putKept {ρ : Ren} {h : Hp} {w : World} (H : Rel C.Γ N0 w0 ρ h w) {b : Nat} {o o' : Obj} (hb : (b, o) ∈ w0.keep) (hN : N0 ≤ b) (hnc : ∀ arr el fr, o ≠ .cells arr el fr) :
  Rel C.Γ N0 ⟨w0.w, w0.K, w0.r, (b, o') :: w0.keep.filter (fun p => !(p.1 == b))⟩ ρ h (w.putObj b o') := by
 obtain ⟨hbo, hout⟩ := H.kept.2 b o hb
 have hlt := (Array.getElem?_eq_some_iff.1 hbo).1
 have hne : ∀ c, c ≠ b → (w.putObj b o').heap[c]? = w.heap[c]? := fun c hc => World.putObj_heap_other hc
 exact {
  below := H.below.trans ⟨rfl, rfl, rfl, by rw [World.putObj_size]; exact Nat.le_refl _, fun c hc => hne c (by omega)⟩
  hN0 := H.hN0
  glob := H.glob
  fresh := H.fresh
  lt := fun a L hL => by rw [World.putObj_size]; exact H.lt a L hL
  blk := fun a x hn hx => by
   obtain ⟨L, h1, h2, h3⟩ := (H.blk a x hn hx).ex
   have hd := hne L.b (hout a x L hx h1)
   refine ⟨L, h1, h2, ?_⟩
   cases x with
   | cells f fb fz xs => obtain ⟨arr, el, fr, g⟩ := h3; exact ⟨arr, el, fr, by rw [hd]; exact g⟩
   | iter l p => obtain ⟨q, bs, hb, k⟩ := h3; exact ⟨q, bs, hb, hd.trans k⟩
   | mapo es c => obtain ⟨arr, g⟩ := h3; exact ⟨arr, by rw [hd]; exact g⟩
  sep := H.sep
  same := H.same
  fam := H.fam
  elk := fun a e hn he => by
   obtain ⟨L, arr, fr, h1, h2, h3⟩ := H.elk a e hn he
   refine ⟨L, arr, fr, h1, ?_, h3⟩
   by_cases hc : L.b = b
   ·rw [hc, hbo] at h2
    simp only [Option.some.injEq] at h2
    exact absurd h2 (hnc _ _ _)
   ·exact (hne _ hc).trans h2
  elt := H.elt
  old := H.old
  kept := by
   refine ⟨?_, fun c q hc => ?_⟩
   ·simp only [List.map_cons, List.nodup_cons]
    refine ⟨fun hh => ?_, H.kept.1.sublist (List.filter_sublist.map _)⟩
    obtain ⟨p, hp, e⟩ := List.mem_map.1 hh
    simp only [List.mem_filter] at hp
    simp [e] at hp
   rcases List.mem_cons.1 hc with hc | hc
   ·simp only [Prod.mk.injEq] at hc; obtain ⟨rfl, rfl⟩ := hc
    exact ⟨World.putObj_heap_same hlt, hout⟩
   ·obtain ⟨q1, q2⟩ := List.mem_filter.1 hc
    obtain ⟨q3, q4⟩ := H.kept.2 c q q1
    exact ⟨(hne c (by simpa using q2)).trans q3, q4⟩
  pers := fun c m hm => by
   obtain ⟨q1, q2, q3⟩ := H.pers c m hm
   refine ⟨?_, q2, q3⟩
   by_cases hc : c = b
   ·rw [hc, hbo] at q1
    simp only [Option.some.injEq] at q1
    exact absurd q1 (hnc _ _ _)
   ·exact (hne _ hc).trans q1 }
def AX.code : AX → Option Code
 | .normal => none
 | .exit id => some (.exit id)
 | .goto l => some (.goto l)
 | .ret => some .ret
def recOf (R : LoopState → Option Code → Loop) : Option AX → Loop
 | none => R .ready none
 | some x => R .done x.code
theorem Rel.allocKept {ρ : Ren} {h : Hp} {w : World} (H : Rel C.Γ N0 w0 ρ h w) (o : Obj) : Rel C.Γ N0 ⟨w0.w, w0.K, w0.r, (w.heap.size, o) :: w0.keep⟩ ρ h (World.new w o) := by
 have H' := H.grow (new_below w o)
 have hk : Kept ⟨w0.w, w0.K, w0.r, (w.heap.size, o) :: w0.keep⟩ ρ h (World.new w o) := by
  refine ⟨?_, fun b q hb => ?_⟩
  ·simp only [List.map_cons, List.nodup_cons]
   refine ⟨fun hh => ?_, H.kept.1⟩
   obtain ⟨p, hp, e⟩ := List.mem_map.1 hh
   have := (Array.getElem?_eq_some_iff.1 (H.kept.2 p.1 p.2 hp).1).1
   omega
  ·rcases List.mem_cons.1 hb with hb | hb
   ·simp only [Prod.mk.injEq] at hb; obtain ⟨rfl, rfl⟩ := hb
    exact ⟨new_heap_new _ _, fun a x L _ hL hh => by have := H.lt a L hL; omega⟩
   ·exact H'.kept.2 b q hb
 exact { H' with kept := hk }
theorem Rel.turn {ρ : Ren} {h : Hp} {w w1 : World} {K : Nat} {r : Ren} {k kp : List (Nat × Obj)} {l : Nat} {o : Obj} (H : Rel C.Γ N0 ⟨w1, K, r, k ++ ((l, o) :: kp)⟩ ρ h w) (hN : N0 ≤ l) (hnc : ∀ arr el fr, o ≠ .cells arr el fr) (o' : Obj) :
  Rel C.Γ N0 ⟨w1, K, r, (l, o') :: kp⟩ ρ h (w.putObj l o') := by
 have hnd := H.kept.1
 have H1 := H.putKept (b := l) (o := o) (o' := o') (List.mem_append_right _ List.mem_cons_self) hN hnc
 simp only [List.map_append, List.map_cons, List.nodup_append, List.nodup_cons] at hnd
 refine Rel.keepLess (w0 := ⟨w1, K, r, (l, o') :: kp⟩) H1 (fun p hp => ?_) ?_
 ·rcases List.mem_cons.1 hp with rfl | hp
  ·exact List.mem_cons_self
  ·refine List.mem_cons_of_mem _ (List.mem_filter.2 ⟨List.mem_append_right _ (List.mem_cons_of_mem _ hp), ?_⟩)
   have : p.1 ≠ l := fun e => hnd.2.1.1 (List.mem_map.2 ⟨p, hp, e⟩)
   simpa using this
 ·simp only [List.map_cons, List.nodup_cons]; exact hnd.2.1
def RoundsOk (C : Cfg) (N0 : Nat) (w0 : Fr) (m l : Nat) (R : LoopState → Option Code → Loop) (ρ0 : Ren) (B : Rounds) : Prop :=
 ∀ vs h q h', B vs h = some (q, h') → ∀ (ρ : Ren) (w : World) (us : Array Value), Ext ρ0 ρ → Rel C.Γ N0 ⟨w0.w, w0.K, w0.r, (l, .loop (recOf R none)) :: w0.keep⟩ ρ h w → VRs ρ vs us.toList →
  us.size = (R .ready none).params.size ∧ RoundIn (FW none) (m - 1) C.P l (R .ready none).fn (((R .ready none).params.zip us).foldl (fun tmps (t, a) => tmps.setIfInBounds t a) (R .ready none).tmps) (R .ready none).assign (R .ready none).body w
   (fun e w' => ∃ ρ', e = .returned (.bool q.isNone) ∧ Ext ρ ρ' ∧ Rel C.Γ N0 ⟨w0.w, w0.K, w0.r, (l, .loop (recOf R q)) :: w0.keep⟩ ρ' h' w')
omit [E : Amb] in
theorem wp_keeps {P : Program} {o : Oper} {a : Act} {w : World} {K : Act → World → Prop} {Q : Exit → Act → World → Prop} {s : Nat} (hd : o.dst ≠ some s) (h : o.wp P a w K Q) :
  o.wp P a w (fun a' w' => K a' w' ∧ a'.tmps[s]? = a.tmps[s]?) Q := by
 have put : ∀ (a : Act) (v : Value), (a.put o.dst v).tmps[s]? = a.tmps[s]? := by
  intro a v
  cases hd' : o.dst with
  | none => rfl
  | some d =>
   simp only [Act.put]
   rw [Array.getElem?_setIfInBounds_ne (fun e => hd (by rw [hd', e]))]
 unfold Oper.wp at *
 generalize (execOp a.eval o).run P w = x at *
 cases x with
 | ok x w' =>
  cases x <;> simp only [Oper.upon] at h ⊢ <;>
   first
    | exact ⟨h, put _ _⟩
    | exact h.elim
    | exact Calls.mono h (fun e w'' he => by cases e <;> first | exact ⟨he, put _ _⟩ | exact he)
    | exact Rows.mono h (fun _ _ he => ⟨he, put _ _⟩)
 | halt x w' => cases x <;> simp only [Oper.upon] at h ⊢ <;> exact h
omit [E : Amb] in
theorem wpOp_keeps {P : Program} {ops : Array Oper} {Q : Exit → Act → World → Prop} {i : Nat} {K : Act → World → Prop} {a : Act} {w : World} {s : Nat} (hd : ∀ o ∈ ops.toList, o.dst ≠ some s) (h : wpOp P ops Q i K a w) :
  wpOp P ops Q i (fun a' w' => K a' w' ∧ a'.tmps[s]? = a.tmps[s]?) a w := by
 unfold wpOp at *
 cases ho : ops[i]? with
 | none => rw [ho] at h; exact ⟨h, rfl⟩
 | some o =>
  rw [ho] at h
  have hds := hd o (List.mem_of_getElem? (i := i) (by simpa using ho))
  simp only at h ⊢
  split
  ·rename_i hw
   rw [if_pos hw] at h
   exact h.imp (wp_keeps hds) id
  ·rename_i hw
   rw [if_neg hw] at h
   refine ⟨h, ?_⟩
   cases hd' : o.dst with
   | none => rfl
   | some d =>
    simp only [Act.put]
    rw [Array.getElem?_setIfInBounds_ne (fun e => hds (by rw [hd', e]))]
omit [E : Amb] in
theorem wpAny_keeps {P : Program} {ops : Array Oper} {Q : Exit → Act → World → Prop} {s : Nat} {v : Option Value} (hd : ∀ o ∈ ops.toList, o.dst ≠ some s) : ∀ (fuel : Nat) (listed : Array Bool) (a : Act) (w : World), a.tmps[s]? = v →
  wpAny P .any ops Q fuel listed a w → wpAny P .any ops (fun e a w => Q e a w ∧ (e = .normal → a.tmps[s]? = v)) fuel listed a w := by
 have lift : ∀ (K : Act → World → Prop) (i : Nat) (a : Act) (w : World), wpOp P ops Q i K a w → wpOp P ops (fun e a w => Q e a w ∧ (e = .normal → a.tmps[s]? = v)) i K a w := by
  intro K i a w h
  unfold wpOp at *
  cases ho : ops[i]? with
  | none => rw [ho] at h; exact h
  | some o =>
   rw [ho] at h
   simp only at h ⊢
   split
   ·rename_i hw
    rw [if_pos hw] at h
    refine h.imp (fun h => ?_) fun h => ⟨h.1, by obtain ⟨a, w, q⟩ := h.2; exact ⟨a, w, q, fun e => by cases e⟩⟩
    unfold Oper.wp at *
    generalize (execOp a.eval o).run P w = x at *
    cases x with
    | ok x w' =>
     cases x <;> simp only [Oper.upon] at h ⊢ <;>
      first
       | exact h
       | exact Calls.mono h (fun e w'' he => by cases e <;> first | exact he | exact ⟨he, fun hh => by cases hh⟩ | (obtain ⟨a, w, q⟩ := he; exact ⟨a, w, q, fun hh => by cases hh⟩))
    | halt x w' => cases x <;> simp only [Oper.upon] at h ⊢ <;> first | exact h | exact ⟨h, fun hh => by cases hh⟩
   ·rename_i hw
    rw [if_neg hw] at h; exact h
 intro fuel
 induction fuel with
 | zero => intro listed a w hv h; exact ⟨h.1, h.2, fun _ => hv⟩
 | succ fuel ih =>
  intro listed a w hv h
  refine ⟨fun hr => ⟨h.1 hr, fun _ => hv⟩, fun i hi => wpOp_mono (fun a' w' hh => ih _ a' w' (hh.2.trans hv) hh.1) (lift _ _ _ _ (wpOp_keeps hd (h.2 i hi)))⟩
section iter
variable {lim n s l m : Nat} {R : LoopState → Option Code → Loop} {ρ0 : Ren} {B : Rounds}
def BehindY (C : Cfg) (N0 : Nat) (w0 : Fr) (n s l : Nat) (R : LoopState → Option Code → Loop) (ρ : Ren) (e' : Env) (h' : Hp) (p' : Option AX) (a : Act) (K : Act → World → Prop) : Prop :=
 ∀ a' w' ρ', EnvR ρ' e' a'.tmps → Ext ρ ρ' → Rel C.Γ N0 ⟨w0.w, w0.K, w0.r, (l, .loop (recOf R p')) :: w0.keep⟩ ρ' h' w' → a'.tmps.size = n → a'.tmps[s]? = some (.func (.yield l) #[] #[]) → a'.defers = a.defers → K a' w'
theorem BehindY.next {ρ ρ1 : Ren} {e' : Env} {h' : Hp} {p' : Option AX} {a a1 : Act} {K : Act → World → Prop} (h : BehindY C N0 w0 n s l R ρ e' h' p' a K) (hx : Ext ρ ρ1) (hd : a1.defers = a.defers) : BehindY C N0 w0 n s l R ρ1 e' h' p' a1 K :=
 fun a2 w2 ρ2 z1 z2 z3 z4 z5 z6 => h a2 w2 ρ2 z1 (hx.trans z2) z3 z4 z5 (z6.trans hd)
omit [E : Amb] in
theorem yieldsO_spec {al : Option Nat} {o : Op} {args : List Operand} (h : yieldsO s al o = some args) : ∃ t oa at', (t = s ∨ al = some t) ∧ o = .call { callee := .value (.tmp t), args := oa, argTypes := at' } ∧ args = oa.toList := by
 unfold yieldsO at h
 split at h
 ·rename_i t oa at'
  split at h
  ·rename_i hb
   simp only [Option.some.injEq] at h; subst h
   refine ⟨t, oa, at', ?_, rfl, rfl⟩
   rw [Bool.or_eq_true] at hb
   rcases hb with hb | hb
   ·exact .inl (Nat.eq_of_beq_eq_true hb)
   ·right
    cases al with
    | none => cases hb
    | some d => rw [Nat.eq_of_beq_eq_true hb]
  ·cases h
 ·cases h
omit [E : Amb] in
theorem movesS_spec {o : Oper} (h : movesS s o = true) : o.op = .move (.tmp s) ∧ o.guard = none := by
 unfold movesS at h
 split at h
 ·rename_i t h1 h2
  rw [Nat.eq_of_beq_eq_true h] at h1
  exact ⟨h1, h2⟩
 ·cases h
omit [E : Amb] in
theorem move_wp {P : Program} {o : Oper} {a : Act} {w : World} {K : Act → World → Prop} {Q : Exit → Act → World → Prop} {x : Operand} (hop : o.op = .move x) (h : K (a.put o.dst (a.eval x)) w) : o.wp P a w K Q := by
 unfold Oper.wp
 have e : (execOp a.eval o).run P w = .ok (.value (a.eval x)) w := by
  unfold execOp; rw [hop]; rfl
 rw [e, Oper.upon_value]
 exact h
omit [E : Amb] in
theorem put_slot {a : Act} {d : Option Nat} {v : Value} (hd : d ≠ some s) : (a.put d v).tmps[s]? = a.tmps[s]? := by
 cases d with
 | none => rfl
 | some d =>
  simp only [Act.put]
  rw [Array.getElem?_setIfInBounds_ne (fun e => hd (by rw [e]))]
def AlOk (l : Nat) (al : Option Nat) (a : Act) : Prop := ∀ d, al = some d → a.tmps[d]? = some (.func (.yield l) #[] #[])
omit [E : Amb] in
theorem AlOk.put {l : Nat} {al : Option Nat} {a : Act} {o : Oper} (h : AlOk l al a) (hm : movesS s o = false) (v : Value) : AlOk l (nextAl s al o) (a.put o.dst v) := by
 intro d hd
 unfold nextAl at hd
 split at hd
 ·rename_i hdn
  rw [put_slot (by rw [hdn]; exact fun e => by cases e)]; exact h d hd
 ·rename_i k hk
  rw [hm] at hd
  simp only at hd
  split at hd
  ·cases hd
  ·rename_i hne
   rw [put_slot (by
    rw [hk]; intro e; cases e; subst hd
    simp only [isAl, Nat.beq_refl] at hne; cases hne)]; exact h d hd
omit [E : Amb] in
theorem nextAl_keep {al : Option Nat} {o : Oper} (hm : movesS s o = false) {d : Nat} (hd : nextAl s al o = some d) : al = some d ∧ o.dst ≠ some d := by
 unfold nextAl at hd
 split at hd
 ·rename_i hdn; exact ⟨hd, by rw [hdn]; exact fun e => by cases e⟩
 ·rename_i k hk
  rw [hm] at hd
  simp only at hd
  split at hd
  ·cases hd
  ·rename_i hne
   refine ⟨hd, ?_⟩
   rw [hk]; intro e; cases e; subst hd
   simp only [isAl, Nat.beq_refl] at hne; cases hne
theorem runOpsY_sound (hctx : CtxOk C) (hB : RoundsOk C N0 w0 m l R ρ0 B) (_hRst : ∀ p, (recOf R p).params = (R .ready none).params) {ops : Array Oper} {Q : Exit → Act → World → Prop} :
    ∀ (L : List Oper) {al : Option Nat} {ρ : Ren} {e e' : Env} {h h' : Hp} {p p' : Option AX} {a : Act} {w : World}, AlOk l al a → (L.all (dstOk n)) = true → (∀ o ∈ L, notDefer o.op = true) → (∀ o ∈ L, o.dst ≠ some s) →
    EnvR ρ e a.tmps → Rel C.Γ N0 ⟨w0.w, w0.K, w0.r, (l, .loop (recOf R p)) :: w0.keep⟩ ρ h w → Ext ρ0 ρ → a.tmps.size = n → a.tmps[s]? = some (.func (.yield l) #[] #[]) → runOpsY C s B ops al L e h p = some (e', h', p') →
    BehindY C N0 w0 n s l R ρ e' h' p' a (Q .normal) → wpListIn (FW none) m C.P ops Q L a w := by
  intro L
  induction L with
  | nil =>
    intro al ρ e e' h h' p p' a w _ _ _ _ he H hx hn hs hr hb
    simp only [runOpsY, Option.some.injEq, Prod.mk.injEq] at hr
    obtain ⟨rfl, rfl, rfl⟩ := hr
    exact hb a w ρ he (.refl _) H hn hs rfl
  | cons o L ih =>
    intro al ρ e e' h h' p p' a w hal hd hnd hds he H hx hn hs hr hb
    simp only [List.all_cons, Bool.and_eq_true] at hd
    have hdl : ∀ k, o.dst = some k → k < a.tmps.size := by rw [hn]; exact dstOk_lt hd.1
    have hds0 := hds o List.mem_cons_self
    have hwant := wantedE_sound (ops := ops) (o := o) (a := a) (e := e) (ρ := ρ) (fun d _ => he d)
    have hnd' := fun x hx => hnd x (List.mem_cons_of_mem o hx)
    have hds' := fun x hx => hds x (List.mem_cons_of_mem o hx)
    simp only [runOpsY] at hr
    simp only [wpListIn]
    -- what is left out
    have skip : ∀ {p1 : Option AX}, Rel C.Γ N0 ⟨w0.w, w0.K, w0.r, (l, .loop (recOf R p1)) :: w0.keep⟩ ρ h w → movesS s o = false → runOpsY C s B ops (nextAl s al o) L (Env.put e o.dst (.tup [])) h p1 = some (e', h', p') → wpListIn (FW none) m C.P ops Q L (a.put o.dst undef) w := by
      intro p1 H1 hm h1
      refine ih (hal.put hm _) hd.2 hnd' hds' (he.put (undef_VR _) hdl) H1 hx (by rw [put_size]; exact hn) (by rw [put_slot hds0]; exact hs) h1 ?_
      exact hb.next (.refl _) (put_defers' _ _ _)
    split at hr
    · rename_i args hy
      obtain ⟨ty, oa, at', hty, hop, rfl⟩ := yieldsO_spec hy
      have hm : movesS s o = false := by unfold movesS; rw [hop]
      split at hr
      · rename_i hw
        rw [hwant _ hw, if_pos rfl]
        split at hr
        case h_2 => cases hr
        rename_i vs hvs
        obtain ⟨l1, l2⟩ := rdAll_sound (rdE_sound he) _ _ hvs
        have hev : a.eval (.tmp ty) = .func (.yield l) #[] #[] := by
          show a.tmps.getD ty undef = _
          rw [Array.getD_eq_getD_getElem?]
          rcases hty with e1 | e1
          · rw [e1, hs]; rfl
          · rw [hal _ e1]; rfl
        have hvr : VRs ρ vs (oa.map a.eval).toList := ⟨by simpa using l1, fun i x u hx hu => l2 i x u hx (by simpa using hu)⟩
        have go : ∀ q h1, B vs h = some (q, h1) → runOpsY C s B ops (nextAl s al o) L (Env.put e o.dst (.bool q.isNone)) h1 q = some (e', h', p') → Oper.wpIn (FW none) m C.P o a w (wpListIn (FW none) m C.P ops Q L) Q := by
          intro q h1 hq hrest
          obtain ⟨g1, g2⟩ := hB _ _ _ _ hq ρ w _ hx H hvr
          refine ⟨fun _ _ => trivial, ?_⟩
          rw [Oper.semAt_eq _ _ _ (notDefer_spec (hnd o List.mem_cons_self))]
          have hy := run_yield (P := C.P) (H.kept.2 l _ List.mem_cons_self).1 (args := oa.map a.eval) g1
          have hrun : (execOp a.eval o).run C.P w = .ok (.round l (R .ready none).fn (((R .ready none).params.zip (oa.map a.eval)).foldl (fun tmps (t, a) => tmps.setIfInBounds t a) (R .ready none).tmps) (R .ready none).assign (R .ready none).body) w := by
            refine Eq.trans ?_ hy
            unfold execOp
            rw [hop]
            simp only [resolve, hev, Deferred.ofValue, Sem.run_bind, Sem.run_pure, Result.andThen_ok, invoke]
            simp
          rw [hrun, Oper.uponIn_round]
          refine ⟨no_depth, g2.mono ?_⟩
          rintro e1 w1 ⟨ρ1, rfl, z1, z2⟩
          refine ih (hal.put hm _) hd.2 hnd' hds' ((he.ext z1).put (.bool _) hdl) z2 (hx.trans z1) (by rw [put_size]; exact hn) (by rw [put_slot hds0]; exact hs) hrest ?_
          exact hb.next z1 (put_defers' _ _ _)
        split at hr
        · rename_i h1 hq; exact go none h1 hq hr
        · rename_i x h1 hq; exact go (some x) h1 hq hr
        · cases hr
      · rename_i hw
        rw [hwant _ hw]
        simp only [Bool.false_eq_true, if_false]
        exact ⟨fun _ _ => trivial, skip H hm hr⟩
      · cases hr
    · rename_i hny
      have go : ∀ v k, stepOp C ops e h o = some (v, k) → runOpsY C s B ops (nextAl s al o) L (Env.put e o.dst v) (k.getD h) p = some (e', h', p') →
          (if Region.wanted o (yielded ops a.tmps) then o.wpIn (FW none) m C.P a w (wpListIn (FW none) m C.P ops Q L) Q else (∀ f, o.about C.P w a.eval = some f → (FW none).fn f) ∧ wpListIn (FW none) m C.P ops Q L (a.put o.dst undef) w) := by
        intro v k hs1 hrest
        rcases stepOp_cases hs1 with ⟨h1, h2⟩ | ⟨h1, h2⟩
        · rw [hwant _ h1, if_pos rfl]
          cases hm : movesS s o with
          | true =>
            obtain ⟨hop, hgu⟩ := movesS_spec hm
            refine wp_in (hnd o List.mem_cons_self) (move_wp hop ?_)
            have hvk : opVal C (rdE e) h (.move (.tmp s)) = still (some (Env.get e s)) := rfl
            rw [hop, hvk] at h2
            simp only [still, Option.some.injEq, Prod.mk.injEq] at h2
            obtain ⟨rfl, rfl⟩ := h2
            have hev : a.eval (.tmp s) = .func (.yield l) #[] #[] := by
              show a.tmps.getD s undef = _
              rw [Array.getD_eq_getD_getElem?, hs]; rfl
            have hvr : VR ρ (Env.get e s) (a.eval (.tmp s)) := rdE_sound he (.tmp s) _ rfl
            refine ih (fun d hd' => ?_) hd.2 hnd' hds' (he.put hvr hdl) H hx (by rw [put_size]; exact hn) (by rw [put_slot hds0]; exact hs) hrest (hb.next (.refl _) (put_defers' _ _ _))
            unfold nextAl at hd'
            split at hd'
            · rename_i hdn
              rw [put_slot (by rw [hdn]; exact fun e => by cases e)]; exact hal d hd'
            · rename_i k hk
              rw [hm] at hd'
              simp only [Option.some.injEq] at hd'; subst hd'
              rw [hev, hk]
              simp only [Act.put]
              rw [Array.getElem?_setIfInBounds_self_of_lt (hdl _ hk)]
          | false =>
            have keepAl : ∀ {K : Act → World → Prop} {Q : Exit → Act → World → Prop}, o.wp C.P a w K Q → o.wp C.P a w (fun a1 w1 => K a1 w1 ∧ AlOk l (nextAl s al o) a1) Q := by
              intro K Q hk
              cases hna : nextAl s al o with
              | none => exact Oper.wp_mono (fun a1 w1 hh => ⟨hh, fun d hd => by cases hd⟩) hk
              | some d =>
                obtain ⟨q1, q2⟩ := nextAl_keep hm hna
                refine Oper.wp_mono (fun a1 w1 hh => ⟨hh.1, fun d' hd' => ?_⟩) (wp_keeps q2 hk)
                cases hd'
                rw [hh.2]; exact hal _ q1
            refine wp_in (hnd o List.mem_cons_self) (Oper.wp_mono (fun a1 w1 hh => ?_) (keepAl (wp_keeps (s := s) hds0 (opVal_sound hctx H (rdE_sound he) h2 (Q := Q) (next := fun a1 w1 => ∃ ρ1, EnvR ρ1 (Env.put e o.dst v) a1.tmps ∧ Ext ρ ρ1 ∧ Rel C.Γ N0 ⟨w0.w, w0.K, w0.r, (l, .loop (recOf R p)) :: w0.keep⟩ ρ1 (k.getD h) w1 ∧ a1.tmps.size = n ∧ a1.defers = a.defers)
              (fun u w' ρ' x1 x2 x3 => ⟨ρ', (he.ext x1).put x3 hdl, x1, x2, by rw [put_size]; exact hn, put_defers' _ _ _⟩)))))
            obtain ⟨⟨⟨ρ1, y1, y2, y3, y4, y5⟩, y6⟩, y7⟩ := hh
            exact ih y7 hd.2 hnd' hds' y1 y3 (hx.trans y2) y4 (y6.trans hs) hrest (hb.next y2 y5)
        · simp only [Prod.mk.injEq] at h2; obtain ⟨rfl, rfl⟩ := h2
          rw [hwant _ h1]
          simp only [Bool.false_eq_true, if_false]
          have hm : movesS s o = false := by
            cases hm : movesS s o with
            | false => rfl
            | true =>
              obtain ⟨_, hgu⟩ := movesS_spec hm
              unfold wantedE at h1
              rw [hgu] at h1; cases h1
          exact ⟨fun _ _ => trivial, skip H hm hrest⟩
      split at hr
      · rename_i v hs1; exact go v none hs1 hr
      · rename_i v h1 hs1; exact go v (some h1) hs1 hr
      · cases hr
theorem loopY_sound {b : Code} {f : Env → Hp → Option AX → Option (AX × Env × Hp × Option AX)}
  (hb : ∀ {Q : Exit → Act → World → Prop} {ρ : Ren} {e e' : Env} {h h' : Hp} {p p' : Option AX} {a : Act} {w : World} {x : AX}, EnvR ρ e a.tmps → Rel C.Γ N0 ⟨w0.w, w0.K, w0.r, (l, .loop (recOf R p)) :: w0.keep⟩ ρ h w → Ext ρ0 ρ → a.tmps.size = n → a.tmps[s]? = some (.func (.yield l) #[] #[]) →
   f e h p = some (x, e', h', p') → BehindY C N0 w0 n s l R ρ e' h' p' a (Q x.to) → b.wpIn (FW none) m C.P Q a w)
  {Q : Exit → Act → World → Prop} : ∀ (j : Nat) {ρ : Ren} {e e' : Env} {h h' : Hp} {p p' : Option AX} {a : Act} {w : World} {x : AX},
  EnvR ρ e a.tmps → Rel C.Γ N0 ⟨w0.w, w0.K, w0.r, (l, .loop (recOf R p)) :: w0.keep⟩ ρ h w → Ext ρ0 ρ → a.tmps.size = n → a.tmps[s]? = some (.func (.yield l) #[] #[]) → loopY f j e h p = some (x, e', h', p') → BehindY C N0 w0 n s l R ρ e' h' p' a (Q x.to) → Code.roundsIn (FW none) m C.P b Q j a w := by
 intro j
 induction j with
 | zero => intro ρ e e' h h' p p' a w x _ _ _ _ _ hr _; cases hr
 | succ j ih =>
  intro ρ e e' h h' p p' a w x he H hx hn hs hr hk
  rw [roundsIn_succ]
  simp only [loopY] at hr
  split at hr
  ·rename_i e1 h1 p1 hf
   refine hb he H hx hn hs hf (Q := Exit.then (Code.roundsIn (FW none) m C.P b Q j) Q) (fun a1 w1 ρ1 z1 z2 z3 z4 z5 z6 => ?_)
   exact ih z1 z3 (hx.trans z2) z4 z5 hr (hk.next z2 z6)
  ·rename_i hne
   refine hb he H hx hn hs hr (Q := Exit.then (Code.roundsIn (FW none) m C.P b Q j) Q) (fun a1 w1 ρ1 z1 z2 z3 z4 z5 z6 => ?_)
   have := hk a1 w1 ρ1 z1 z2 z3 z4 z5 z6
   cases x with
   | normal => exact absurd hr (hne _ _ _)
   | exit id => exact this
   | goto l => exact this
   | ret => exact this
theorem iterE_sound (hctx : CtxOk C) (hm : C.P.follows .mixedOrders = true) (hB : RoundsOk C N0 w0 m l R ρ0 B) (hRst : ∀ p, (recOf R p).params = (R .ready none).params) : ∀ (c : Code) {Q : Exit → Act → World → Prop} {ρ : Ren} {e e' : Env} {h h' : Hp} {p p' : Option AX} {a : Act} {w : World} {x : AX},
  dstsIn n c = true → keepsSlot s c = true → EnvR ρ e a.tmps → Rel C.Γ N0 ⟨w0.w, w0.K, w0.r, (l, .loop (recOf R p)) :: w0.keep⟩ ρ h w → Ext ρ0 ρ → a.tmps.size = n → a.tmps[s]? = some (.func (.yield l) #[] #[]) →
  iterE C lim s B c e h p = some (x, e', h', p') → BehindY C N0 w0 n s l R ρ e' h' p' a (Q x.to) → c.wpIn (FW none) m C.P Q a w := by
 intro c
 induction c with
 | skip =>
  intro Q ρ e e' h h' p p' a w x _ _ he H hx hn hs hr hk
  simp only [iterE, Option.some.injEq, Prod.mk.injEq] at hr
  obtain ⟨rfl, rfl, rfl, rfl⟩ := hr
  exact wpIn_skip (hk a w ρ he (.refl _) H hn hs rfl)
 | region id ops draw =>
  intro Q ρ e e' h h' p p' a w x hd hks he H hx hn hs hr hk
  simp only [dstsIn, Bool.and_eq_true] at hd
  have hnd : ∀ o ∈ ops.toList, notDefer o.op = true := fun o ho => List.all_eq_true.1 hd.2 o ho
  have hds : ∀ o ∈ ops.toList, o.dst ≠ some s := by
   intro o ho hh
   have := List.all_eq_true.1 hks o ho
   rw [hh] at this
   simp at this
  simp only [iterE] at hr
  split at hr
  ·split at hr
   ·rename_i e1 h1 p1 h2
    simp only [Option.some.injEq, Prod.mk.injEq] at hr
    obtain ⟨rfl, rfl, rfl, rfl⟩ := hr
    exact wpIn_region_list (runOpsY_sound hctx hB hRst _ (al := none) (fun d hd => by cases hd) hd.1 hnd hds he H hx hn hs h2 hk)
   ·cases hr
  ·split at hr
   ·rename_i e1 h1 h2
    simp only [Option.some.injEq, Prod.mk.injEq] at hr
    obtain ⟨rfl, rfl, rfl, rfl⟩ := hr
    have hw : RegW C.P ops (fun e a' w' => e ≠ .outgrown ∧ (e = .normal → ∃ ρ', EnvR ρ' e1 a'.tmps ∧ Ext ρ ρ' ∧ Rel C.Γ N0 ⟨w0.w, w0.K, w0.r, (l, .loop (recOf R p)) :: w0.keep⟩ ρ' h1 w' ∧ a'.tmps.size = n ∧ a'.defers = a.defers) ∧ (e ≠ .normal → Q e a' w')) a w true :=
     region_sound hctx hd.1 he H hn h2 fun a' w' ρ' z1 z2 z3 z4 z5 => ⟨fun hh => (by cases hh), fun _ => ⟨ρ', z1, z2, z3, z4, z5⟩, fun hh => absurd rfl hh⟩
    have hw2 := wpAny_keeps (s := s) (v := some (.func (.yield l) #[] #[])) hds _ _ _ _ hs hw
    refine wpIn_mono (RegW.wpIn (r := none) (id := id) (draw := true) hm hnd ?_ hw2) ?_
    ·rintro ⟨_, _, ⟨hh, _⟩, _⟩; exact hh rfl
    ·rintro e2 a2 w2 ⟨⟨q1, q2, q3⟩, q4⟩
     by_cases hen : e2 = .normal
     ·subst hen
      obtain ⟨ρ', z1, z2, z3, z4, z5⟩ := q2 rfl
      exact hk a2 w2 ρ' z1 z2 z3 z4 (q4 rfl) z5
     ·exact q3 hen
   ·cases hr
 | seq c1 c2 ih1 ih2 =>
  intro Q ρ e e' h h' p p' a w x hd hks he H hx hn hs hr hk
  simp only [dstsIn, Bool.and_eq_true] at hd
  simp only [keepsSlot, Bool.and_eq_true] at hks
  simp only [iterE] at hr
  refine wpIn_seq ?_
  split at hr
  ·rename_i e1 h1 p1 hf
   refine ih1 hd.1 hks.1 he H hx hn hs hf (fun a1 w1 ρ1 z1 z2 z3 z4 z5 z6 => ?_)
   exact ih2 hd.2 hks.2 z1 z3 (hx.trans z2) z4 z5 hr (hk.next z2 z6)
  ·rename_i hne
   refine ih1 hd.1 hks.1 he H hx hn hs hr (fun a1 w1 ρ1 z1 z2 z3 z4 z5 z6 => ?_)
   have := hk a1 w1 ρ1 z1 z2 z3 z4 z5 z6
   cases x with
   | normal => exact absurd hr (hne _ _ _)
   | exit id => exact this
   | goto l => exact this
   | ret => exact this
 | cond c c1 c2 ih1 ih2 =>
  intro Q ρ e e' h h' p p' a w x hd hks he H hx hn hs hr hk
  simp only [dstsIn, Bool.and_eq_true] at hd
  simp only [keepsSlot, Bool.and_eq_true] at hks
  simp only [iterE] at hr
  split at hr
  ·rename_i hc
   exact wpIn_cond_true (rdE_sound he c _ hc).bool_inv (ih1 hd.1 hks.1 he H hx hn hs hr hk)
  ·rename_i hc
   exact wpIn_cond_false (rdE_sound he c _ hc).bool_inv (ih2 hd.2 hks.2 he H hx hn hs hr hk)
  ·cases hr
 | block id c1 ih =>
  intro Q ρ e e' h h' p p' a w x hd hks he H hx hn hs hr hk
  simp only [iterE] at hr
  refine wpIn_block ?_
  split at hr
  ·rename_i id' e1 h1 p1 hf
   split at hr
   ·rename_i hid
    have hid' := Nat.eq_of_beq_eq_true hid
    simp only [Option.some.injEq, Prod.mk.injEq] at hr
    obtain ⟨rfl, rfl, rfl, rfl⟩ := hr
    refine ih hd hks he H hx hn hs hf (fun a1 w1 ρ1 z1 z2 z3 z4 z5 z6 => ?_)
    show Exit.inBlock id Q (.exit id') a1 w1
    simp only [Exit.inBlock, hid', if_true]
    exact hk a1 w1 ρ1 z1 z2 z3 z4 z5 z6
   ·rename_i hid
    have hid' : id' ≠ id := Nat.ne_of_beq_eq_false hid
    simp only [Option.some.injEq, Prod.mk.injEq] at hr
    obtain ⟨rfl, rfl, rfl, rfl⟩ := hr
    refine ih hd hks he H hx hn hs hf (fun a1 w1 ρ1 z1 z2 z3 z4 z5 z6 => ?_)
    show Exit.inBlock id Q (.exit id') a1 w1
    simp only [Exit.inBlock, hid', if_false]
    exact hk a1 w1 ρ1 z1 z2 z3 z4 z5 z6
  ·rename_i hne
   refine ih hd hks he H hx hn hs hr (fun a1 w1 ρ1 z1 z2 z3 z4 z5 z6 => ?_)
   have := hk a1 w1 ρ1 z1 z2 z3 z4 z5 z6
   cases x with
   | normal => exact this
   | exit id' => exact absurd hr (hne _ _ _ _)
   | goto l => exact this
   | ret => exact this
 | loop c1 ih =>
  intro Q ρ e e' h h' p p' a w x hd hks he H hx hn hs hr hk
  simp only [iterE] at hr
  exact wpIn_loop_rounds lim (loopY_sound (f := iterE C lim s B c1) (fun he H hx hn hs hr hk => ih hd hks he H hx hn hs hr hk) lim he H hx hn hs hr hk)
 | exit id =>
  intro Q ρ e e' h h' p p' a w x _ _ he H hx hn hs hr hk
  simp only [iterE, Option.some.injEq, Prod.mk.injEq] at hr
  obtain ⟨rfl, rfl, rfl, rfl⟩ := hr
  exact wpIn_exit (hk a w ρ he (.refl _) H hn hs rfl)
 | label l =>
  intro Q ρ e e' h h' p p' a w x _ _ he H hx hn hs hr hk
  simp only [iterE, Option.some.injEq, Prod.mk.injEq] at hr
  obtain ⟨rfl, rfl, rfl, rfl⟩ := hr
  exact wpIn_label (hk a w ρ he (.refl _) H hn hs rfl)
 | ret =>
  intro Q ρ e e' h h' p p' a w x _ _ he H hx hn hs hr hk
  simp only [iterE, Option.some.injEq, Prod.mk.injEq] at hr
  obtain ⟨rfl, rfl, rfl, rfl⟩ := hr
  exact wpIn_ret (hk a w ρ he (.refl _) H hn hs rfl)
 | _ => intro Q ρ e e' h h' p p' a w x _ _ he H hx hn hs hr hk; simp only [iterE] at hr; cases hr
end iter
theorem putPs_ok {ρ : Ren} {n : Nat} : ∀ (ps : List Nat) (vs : List V) (us : List Value) (e : Env) (T : Array Value), (ps.all fun d => Nat.blt d n) = true → T.size = n → VRs ρ vs us → EnvR ρ e T →
  EnvR ρ (putPs ps vs e) ((ps.zip us).foldl (fun tmps (x : Nat × Value) => tmps.setIfInBounds x.1 x.2) T) ∧ ((ps.zip us).foldl (fun tmps (x : Nat × Value) => tmps.setIfInBounds x.1 x.2) T).size = n := by
 intro ps
 induction ps with
 | nil => intro vs us e T _ hT _ he; exact ⟨he, hT⟩
 | cons t ps ih =>
  intro vs us e T hp hT hv he
  cases vs with
  | nil => rw [hv.nil_inv]; exact ⟨he, hT⟩
  | cons v vs =>
   obtain ⟨u, us', rfl, h1, h2⟩ := hv.cons_inv
   simp only [List.all_cons, Bool.and_eq_true] at hp
   simp only [putPs, List.zip_cons_cons, List.foldl_cons]
   refine ih vs us' _ _ hp.2 (by simpa using hT) h2 ?_
   have := he.put (a := ⟨T, []⟩) (d := some t) h1 (fun k hk => by simp only [Option.some.injEq] at hk; subst hk; rw [hT]; exact Nat.blt_eq ▸ hp.1)
   exact this
theorem roundB_ok {n l m fn D : Nat} {ps : Array Tmp} {cx cy : Code} {fa fb : Env → Hp → Option (AX × Env × Hp)} {ρ0 : Ren} {e0 : Env} {T : Array Value} (hN : N0 ≤ l)
    (ihx : ∀ {m : Nat} {w0 : Fr} {Q : Exit → Act → World → Prop} {ρ : Ren} {e e' : Env} {h h' : Hp} {a : Act} {w : World} {x : AX}, EnvR ρ e a.tmps → Rel C.Γ N0 w0 ρ h w → a.tmps.size = n → fa e h = some (x, e', h') → BehindM C N0 w0 n ρ e' h' a (Q x.to) → cx.wpIn (FW (some l)) m C.P Q a w)
    (ihy : ∀ {m : Nat} {w0 : Fr} {Q : Exit → Act → World → Prop} {ρ : Ren} {e e' : Env} {h h' : Hp} {a : Act} {w : World} {x : AX}, EnvR ρ e a.tmps → Rel C.Γ N0 w0 ρ h w → a.tmps.size = n → fb e h = some (x, e', h') → BehindM C N0 w0 n ρ e' h' a (Q x.to) → cy.wpIn (FW (some l)) m C.P Q a w)
    (he0 : EnvR ρ0 e0 T) (hT : T.size = n) (hps : (ps.toList.all fun d => Nat.blt d n) = true) :
    RoundsOk C N0 w0 m l (fun st pe => { state := st, pending := pe, fn, tmps := T, params := ps, assign := cx, body := cy, defers := D }) ρ0 (roundB ps.toList fa fb e0) := by
  intro vs h q h' hB ρ w us hx H hv
  unfold roundB at hB
  split at hB
  case h_2 => cases hB
  rename_i hlen
  have hlen' : us.size = ps.size := by
    have h1 := Nat.eq_of_beq_eq_true hlen
    have h2 := hv.1
    simp only [Array.length_toList] at h1 h2
    omega
  refine ⟨hlen', ?_⟩
  split at hB
  case h_2 => cases hB
  rename_i e1 h1 hfa
  have hset := putPs_ok ps.toList vs us.toList e0 T hps hT hv (he0.ext hx)
  have hfold : (ps.zip us).foldl (fun tmps (t, a) => tmps.setIfInBounds t a) T = (ps.toList.zip us.toList).foldl (fun tmps (x : Nat × Value) => tmps.setIfInBounds x.1 x.2) T := by
    rw [← Array.foldl_toList, Array.toList_zip]
  refine roundIn_of_wpIn trivial ?_
  show cx.wpIn (FW (some l)) (m - 1) C.P _ ⟨(ps.zip us).foldl (fun tmps (t, a) => tmps.setIfInBounds t a) T, []⟩ w
  rw [hfold]
  refine ihx (x := .normal) hset.1 H hset.2 hfa ?_
  intro a1 w1 ρ1 k z1 z2 z3 z4 z5
  have hl1 := (z3.kept.2 l _ (List.mem_append_right _ List.mem_cons_self)).1
  refine ⟨_, run_beginRound (P := C.P) hl1 rfl, ?_⟩
  have H2 := Rel.turn (k := k) z3 hN (fun _ _ _ hh => by cases hh) (.loop { state := .busy, pending := none, fn, tmps := T, params := ps, assign := cx, body := cy, defers := D })
  have go : ∀ (x : AX) (e2 : Env) (q : Option AX), fb e1 h1 = some (x, e2, h') → x.code = (match q with | none => none | some x => x.code) → (x.code = none → q = none) → (q = none → x.code = none) →
      cy.wpIn (FW (some l)) (m - 1) C.P (roundPost C.P l (fun e w' => ∃ ρ', e = .returned (.bool q.isNone) ∧ Ext ρ ρ' ∧ Rel C.Γ N0 ⟨w0.w, w0.K, w0.r, (l, .loop (recOf (fun st pe => { state := st, pending := pe, fn, tmps := T, params := ps, assign := cx, body := cy, defers := D }) q)) :: w0.keep⟩ ρ' h' w')) a1 (w1.putObj l (.loop { state := .busy, pending := none, fn, tmps := T, params := ps, assign := cx, body := cy, defers := D })) := by
    intro x e2 q hfb hq1 hq2 hq3
    refine ihy (x := x) z1 H2 z4 hfb ?_
    intro a2 w2 ρ2 k2 y1 y2 y3 y4 y5
    have hl2 := (y3.kept.2 l _ (List.mem_append_right _ List.mem_cons_self)).1
    have hend := run_endRound (P := C.P) x.code hl2
    have H3 := Rel.turn (k := k2) y3 hN (fun _ _ _ hh => by cases hh) (.loop { state := if x.code.isNone then .ready else .done, pending := x.code, fn, tmps := T, params := ps, assign := cx, body := cy, defers := D })
    have hrec : recOf (fun st pe => { state := st, pending := pe, fn, tmps := T, params := ps, assign := cx, body := cy, defers := D : Loop }) q = { state := if x.code.isNone then .ready else .done, pending := x.code, fn, tmps := T, params := ps, assign := cx, body := cy, defers := D } := by
      cases q with
      | none => simp [recOf, hq3 rfl]
      | some y =>
        have : x.code ≠ none := fun hh => by have := hq2 hh; cases this
        simp only at hq1
        cases hxc : x.code with
        | none => exact absurd hxc this
        | some cc => simp [recOf, ← hq1, hxc]
    have hfin : ∃ v w', (Instr.endRound l x.code).run C.P w2 = .ok v w' ∧ ∃ ρ', Ending.returned v = .returned (.bool q.isNone) ∧ Ext ρ ρ' ∧ Rel C.Γ N0 ⟨w0.w, w0.K, w0.r, (l, .loop (recOf (fun st pe => { state := st, pending := pe, fn, tmps := T, params := ps, assign := cx, body := cy, defers := D }) q)) :: w0.keep⟩ ρ' h' w' := by
      refine ⟨_, _, hend, ρ2, ?_, z2.trans y2, by rw [hrec]; exact H3⟩
      congr 2
      cases q with
      | none => rw [hq3 rfl]; rfl
      | some y =>
        cases hxc : x.code with
        | none => have := hq2 hxc; cases this
        | some cc => rfl
    cases x with
    | normal => exact hfin
    | exit id => exact hfin
    | goto t => exact hfin
    | ret => exact hfin
  split at hB
  · rename_i e2 h2 hfb
    simp only [Option.some.injEq, Prod.mk.injEq] at hB; obtain ⟨rfl, rfl⟩ := hB
    exact go .normal e2 none hfb rfl (fun _ => rfl) (fun _ => rfl)
  · rename_i x e2 h2 hne hfb
    simp only [Option.some.injEq, Prod.mk.injEq] at hB; obtain ⟨rfl, rfl⟩ := hB
    refine go x e2 (some x) hfb rfl (fun hh => ?_) (fun hh => by cases hh)
    cases x with
    | normal => exact (hne rfl).elim
    | _ => cases hh
  · cases hB
theorem range_sound (hctx : CtxOk C) (hm : C.P.follows .mixedOrders = true) {lim n m : Nat} {f : Operand} {ps : Array Tmp} {cx cy : Code} {fa fb : Env → Hp → Option (AX × Env × Hp)}
  (ihx : ∀ {l m : Nat} {w0 : Fr} {Q : Exit → Act → World → Prop} {ρ : Ren} {e e' : Env} {h h' : Hp} {a : Act} {w : World} {x : AX}, EnvR ρ e a.tmps → Rel C.Γ N0 w0 ρ h w → a.tmps.size = n → fa e h = some (x, e', h') → BehindM C N0 w0 n ρ e' h' a (Q x.to) → cx.wpIn (FW (some l)) m C.P Q a w)
  (ihy : ∀ {l m : Nat} {w0 : Fr} {Q : Exit → Act → World → Prop} {ρ : Ren} {e e' : Env} {h h' : Hp} {a : Act} {w : World} {x : AX}, EnvR ρ e a.tmps → Rel C.Γ N0 w0 ρ h w → a.tmps.size = n → fb e h = some (x, e', h') → BehindM C N0 w0 n ρ e' h' a (Q x.to) → cy.wpIn (FW (some l)) m C.P Q a w)
  {w0 : Fr} {Q : Exit → Act → World → Prop} {ρ : Ren} {e e' : Env} {h h' : Hp} {a : Act} {w : World} {x : AX} {vf : V} {ok : Bool} (hps : (ps.toList.all fun d => Nat.blt d n) = true)
  (he : EnvR ρ e a.tmps) (H : Rel C.Γ N0 w0 ρ h w) (hn : a.tmps.size = n) (hvf : rdE e f = some vf) (hr : rangeE C lim vf ps.toList ok fa fb e h = some (x, e', h')) (hk : BehindM C N0 w0 n ρ e' h' a (Q x.to)) :
  (Code.rangeFunc f ps cx cy).wpIn (FW none) m C.P Q a w := by
 unfold rangeE at hr
 split at hr
 case h_2 => cases hr
 rename_i g xs ys
 have hv := rdE_sound he f _ hvf
 generalize hfv : a.eval f = uf at hv
 cases hv with
 | fn _ _ _ vs1 vs2 hn1 hn2 hx1 hy1 =>
 have hxs : VRs ρ xs vs1.toList := ⟨by simpa using hn1, fun i x u h1 h2 => hx1 i x u h1 (by simpa using h2)⟩
 have hys : VRs ρ ys vs2.toList := ⟨by simpa using hn2, fun i x u h1 h2 => hy1 i x u h1 (by simpa using h2)⟩
 have hrun : ∃ q, iterRun C lim g xs ys (roundB ps.toList fa fb e) h = some (q, h') ∧ e = e' ∧ x = (match q with | none => .normal | some x => x) := by
  split at hr
  ·rename_i h1 hq
   simp only [Option.some.injEq, Prod.mk.injEq] at hr; obtain ⟨rfl, rfl, rfl⟩ := hr
   exact ⟨none, hq, rfl, rfl⟩
  ·rename_i x1 h1 hq
   simp only [Option.some.injEq, Prod.mk.injEq] at hr; obtain ⟨rfl, rfl, rfl⟩ := hr
   exact ⟨some _, hq, rfl, rfl⟩
  ·cases hr
 clear hr
 obtain ⟨q, hq, rfl, hx⟩ := hrun
 unfold iterRun at hq
 split at hq
 case h_2 => cases hq
 rename_i fn hfn hib
 split at hq
 case h_2 => cases hq
 rename_i c hbc
 split at hq
 case h_2 => cases hq
 rename_i hchk
 simp only [Bool.and_eq_true] at hchk
 obtain ⟨c1, c2, c3, c4⟩ := hchk
 have hit : ∃ y e2, iterE C lim xs.length (roundB ps.toList fa fb e) c (enterE 0 (xs ++ (V.any :: ys)) .leaf) h none = some (y, e2, h', q) ∧ (y = .normal ∨ y = .ret) := by
  split at hq
  ·rename_i e2 h2 p2 hh
   simp only [Option.some.injEq, Prod.mk.injEq] at hq; obtain ⟨rfl, rfl⟩ := hq
   exact ⟨_, _, hh, .inl rfl⟩
  ·rename_i e2 h2 p2 hh
   simp only [Option.some.injEq, Prod.mk.injEq] at hq; obtain ⟨rfl, rfl⟩ := hq
   exact ⟨_, _, hh, .inr rfl⟩
  ·cases hq
 obtain ⟨y, e2, hit, hy⟩ := hit
 have hN : N0 ≤ w.heap.size := Nat.le_trans H.hN0 H.below.size
 refine wpIn_rangeFunc ?_
 intro fn0 _
 have HA := (H.allocKept (.deferred (some []))).allocKept (.loop { state := .ready, pending := none, fn := fn0, tmps := a.tmps, params := ps, assign := cx, body := cy, defers := w.heap.size })
 rw [new_size] at HA
 generalize hW : World.new (World.new w (.deferred (some []))) (.loop { state := .ready, pending := none, fn := fn0, tmps := a.tmps, params := ps, assign := cx, body := cy, defers := w.heap.size }) = W at HA
 refine ⟨w.heap.size + 1, [markOf w.heap.size], W, { target := .fn (.func g) vs2, args := vs1 ++ #[Value.func (.yield (w.heap.size + 1)) #[] #[]] }, W, g, (vs1 ++ #[Value.func (.yield (w.heap.size + 1)) #[] #[]]) ++ vs2, W, ?_, ?_, fun _ _ => trivial, ?_, no_depth, ?_⟩
 ·rw [← hW]; exact run_enterLoop_outer _ _ _ _ _
 ·simp only [resolve, hfv]
  simp [go_sem, Deferred.ofValue, Act.eval]
 ·simp only [invoke]
  exact run_callFunc hib
 ·-- the iterator's call
  have hB := roundB_ok (C := C) (N0 := N0) (w0 := ⟨w0.w, w0.K, w0.r, (w.heap.size, .deferred (some [])) :: w0.keep⟩) (m := m - 1) (l := w.heap.size + 1) (fn := fn0) (D := w.heap.size) (by omega) ihx ihy he hn hps
  refine callsIn_of_wp_marks hfn hbc trivial ?_
  have hlen := Nat.le_of_ble_eq_true c1
  have hvs : VRs ρ (xs ++ (V.any :: ys)) ((vs1 ++ #[Value.func (.yield (w.heap.size + 1)) #[] #[]]) ++ vs2).toList := by
   have := hxs.append (VRs.cons (.any (Value.func (.yield (w.heap.size + 1)) #[] #[])) hys)
   simpa using this
  have hsz : (xs ++ (V.any :: ys)).length = ((vs1 ++ #[Value.func (.yield (w.heap.size + 1)) #[] #[]]) ++ vs2).size := by have := hvs.1; rw [Array.length_toList] at this; exact this
  refine iterE_sound hctx hm (w0 := ⟨w0.w, w0.K, w0.r, (w.heap.size, .deferred (some [])) :: w0.keep⟩) (n := fn.ntmps) (s := xs.length) (p := none) (a := ⟨(vs1 ++ #[Value.func (.yield (w.heap.size + 1)) #[] #[]]) ++ vs2 ++ Array.replicate (fn.ntmps - ((vs1 ++ #[Value.func (.yield (w.heap.size + 1)) #[] #[]]) ++ vs2).size) undef, []⟩) hB (fun p => by cases p <;> rfl) c (x := y) c2 c3 (enter_EnvR hvs _) HA (.refl _) ?_ ?_ hit ?_
  ·simp only [Array.size_append, Array.size_replicate] at hsz ⊢; omega
  ·have e1 : xs.length = vs1.size := hn1
   rw [e1]
   simp [Array.getElem?_append]
  intro a1 w1 ρ1 z1 z2 z3 z4 z5 z6
  have hres : ∀ w, (results fn a1.tmps).run C.P w = .ok (.tuple #[]) w := by
   intro w
   have : fn.results = #[] := by
    apply Array.toList_inj.1
    simpa using c4
   unfold results
   rw [this]
   simp [Sem.run_pure]
  have key : LeavesInM (FW none) (m - 1) C.P fn a1.tmps (rangePost (FW none) m C.P (w.heap.size + 1) Q { a with defers := [markOf w.heap.size] ++ a.defers }) [] .returning w1 := by
   refine ⟨.tuple #[], hres w1, ?_⟩
   have hl1 := (z3.kept.2 _ _ List.mem_cons_self).1
   have hnb : (recOf (fun st pe => { state := st, pending := pe, fn := fn0, tmps := a.tmps, params := ps, assign := cx, body := cy, defers := w.heap.size : Loop }) q).state ≠ .busy := by cases q <;> simp [recOf]
   have hend := run_endLoop (P := C.P) hl1 hnb
   refine ⟨_, _, hend, ?_⟩
   have H2 := Rel.turn (k := []) z3 (by omega) (fun _ _ _ hh => by cases hh) (.loop { (recOf (fun st pe => { state := st, pending := pe, fn := fn0, tmps := a.tmps, params := ps, assign := cx, body := cy, defers := w.heap.size : Loop }) q) with state := .exhausted })
   have H3 : Rel C.Γ N0 (w0.more [(w.heap.size, .deferred (some []))]) ρ1 h' (w1.putObj (w.heap.size + 1) (.loop { (recOf (fun st pe => { state := st, pending := pe, fn := fn0, tmps := a.tmps, params := ps, assign := cx, body := cy, defers := w.heap.size : Loop }) q) with state := .exhausted })) :=
    Rel.keepLess (w0 := w0.more [(w.heap.size, .deferred (some []))]) H2 (fun p hp => List.mem_cons_of_mem _ hp) (by have := H2.kept.1; simp only [List.map_cons, List.nodup_cons] at this; show (((w.heap.size, Obj.deferred (some [])) :: w0.keep).map (·.1)).Nodup; simp only [List.map_cons, List.nodup_cons]; exact this.2)
   have hQ := hk { a with defers := [markOf w.heap.size] ++ a.defers } _ ρ1 [(w.heap.size, .deferred (some []))] (he.ext z2) z2 H3 hn ⟨[w.heap.size], rfl, by simp, fun b hb => by simp at hb; subst hb; exact ⟨List.mem_cons_self, hN⟩⟩
   subst hx
   cases q with
   | none => exact hQ
   | some x =>
    cases x with
    | normal => exact hQ
    | exit id => exact wpIn_exit hQ
    | goto t => exact wpIn_goto hQ
    | ret => exact wpIn_ret hQ
  rcases hy with rfl | rfl
  ·show LeavesInM (FW none) (m - 1) C.P fn a1.tmps _ a1.defers .returning w1
   rw [z6]; exact key
  ·show LeavesInM (FW none) (m - 1) C.P fn a1.tmps _ a1.defers .returning w1
   rw [z6]; exact key
theorem execE_sound (hctx : CtxOk C) (hm : C.P.follows .mixedOrders = true) {lim n : Nat} : ∀ (c : Code) {r : Option Nat} {m : Nat} {w0 : Fr} {Q : Exit → Act → World → Prop} {ρ : Ren} {e e' : Env} {h h' : Hp} {a : Act} {w : World} {x : AX}, (r = none ∨ noRange c = true) → dstsIn n c = true →
  EnvR ρ e a.tmps → Rel C.Γ N0 w0 ρ h w → a.tmps.size = n → execE C lim c e h = some (x, e', h') → BehindM C N0 w0 n ρ e' h' a (Q x.to) → c.wpIn (FW r) m C.P Q a w := by
 intro c
 induction c with
 | skip =>
  intro r m w0 Q ρ e e' h h' a w x _ _ he H hn hr hk
  simp only [execE, Option.some.injEq, Prod.mk.injEq] at hr
  obtain ⟨rfl, rfl, rfl⟩ := hr
  exact wpIn_skip (hk a w ρ [] he (.refl _) H hn (.refl _ _ _))
 | region id ops draw =>
  intro r m w0 Q ρ e e' h h' a w x hnr hd he H hn hr hk
  simp only [execE] at hr
  split at hr
  ·rename_i e1 h1 h2
   simp only [Option.some.injEq, Prod.mk.injEq] at hr
   obtain ⟨rfl, rfl, rfl⟩ := hr
   simp only [dstsIn, Bool.and_eq_true] at hd
   refine wpIn_mono (RegW.wpIn hm (fun o ho => List.all_eq_true.1 hd.2 o ho) (Q := fun e a w => e ≠ .outgrown ∧ Q e a w) (fun hh => by obtain ⟨_, _, hh, _⟩ := hh; exact hh rfl) (region_sound hctx hd.1 he H hn h2 fun a' w' ρ' z1 z2 z3 z4 z5 => ⟨fun hh => (by cases hh), hk.one a' w' ρ' z1 z2 z3 z4 z5⟩)) fun e a w hh => hh.2
  ·cases hr
 | seq c1 c2 ih1 ih2 =>
  intro r m w0 Q ρ e e' h h' a w x hnr hd he H hn hr hk
  simp only [dstsIn, Bool.and_eq_true] at hd
  simp only [execE] at hr
  refine wpIn_seq ?_
  split at hr
  ·rename_i e1 h1 hf
   refine ih1 (hnr.imp id fun h => by simp only [noRange, Bool.and_eq_true] at h; exact h.1) hd.1 he H hn hf (fun a1 w1 ρ1 k1 z1 z2 z3 z4 z5 => ?_)
   exact ih2 (hnr.imp id fun h => by simp only [noRange, Bool.and_eq_true] at h; exact h.2) hd.2 z1 z3 z4 hr (hk.next z2 z5)
  ·rename_i hne
   refine ih1 (hnr.imp id fun h => by simp only [noRange, Bool.and_eq_true] at h; exact h.1) hd.1 he H hn hr (fun a1 w1 ρ1 k1 z1 z2 z3 z4 z5 => ?_)
   have := hk a1 w1 ρ1 k1 z1 z2 z3 z4 z5
   cases x with
   | normal => exact absurd hr (hne _ _)
   | exit id => exact this
   | goto l => exact this
   | ret => exact this
 | cond c c1 c2 ih1 ih2 =>
  intro r m w0 Q ρ e e' h h' a w x hnr hd he H hn hr hk
  simp only [dstsIn, Bool.and_eq_true] at hd
  simp only [execE] at hr
  split at hr
  ·rename_i hc
   exact wpIn_cond_true (rdE_sound he c _ hc).bool_inv (ih1 (hnr.imp id fun h => by simp only [noRange, Bool.and_eq_true] at h; exact h.1) hd.1 he H hn hr hk)
  ·rename_i hc
   exact wpIn_cond_false (rdE_sound he c _ hc).bool_inv (ih2 (hnr.imp id fun h => by simp only [noRange, Bool.and_eq_true] at h; exact h.2) hd.2 he H hn hr hk)
  ·rename_i hc
   split at hr
   case h_2 => cases hr
   rename_i e1 h1 hx
   split at hr
   case h_2 => cases hr
   rename_i e2 h2 hy
   split at hr
   case h_2 => cases hr
   rename_i h3 hj
   simp only [Option.some.injEq, Prod.mk.injEq] at hr; obtain ⟨rfl, rfl, rfl⟩ := hr
   have hv := rdE_sound he c _ hc
   have k1 := ih1 (m := m) (Q := Q) (hnr.imp id fun h => by simp only [noRange, Bool.and_eq_true] at h; exact h.1) hd.1 he H hn hx fun a' w' ρ' k1 y1 y2 y3 y4 y5 => hk a' w' ρ' k1 (fun s => join_left (y1 s)) y2 (Hp.join_left hj y3) y4 y5
   have k2 := ih2 (m := m) (Q := Q) (hnr.imp id fun h => by simp only [noRange, Bool.and_eq_true] at h; exact h.2) hd.2 he H hn hy fun a' w' ρ' k1 y1 y2 y3 y4 y5 => hk a' w' ρ' k1 (fun s => join_right (y1 s)) y2 (Hp.join_right hj y3) y4 y5
   have hb : ∃ b, a.eval c = .bool b := by
    generalize a.eval c = u at hv
    cases hv with
    | anyb b => exact ⟨b, rfl⟩
   obtain ⟨b, hb⟩ := hb
   cases b
   ·exact wpIn_cond_false hb k2
   ·exact wpIn_cond_true hb k1
  ·cases hr
 | block id c1 ih =>
  intro r m w0 Q ρ e e' h h' a w x hnr hd he H hn hr hk
  simp only [execE] at hr
  refine wpIn_block ?_
  split at hr
  ·rename_i id' e1 h1 hf
   split at hr
   ·rename_i hid
    have hid' := Nat.eq_of_beq_eq_true hid
    simp only [Option.some.injEq, Prod.mk.injEq] at hr
    obtain ⟨rfl, rfl, rfl⟩ := hr
    refine ih hnr hd he H hn hf (fun a1 w1 ρ1 k1 z1 z2 z3 z4 z5 => ?_)
    show Exit.inBlock id Q (.exit id') a1 w1
    simp only [Exit.inBlock, hid', if_true]
    exact hk a1 w1 ρ1 k1 z1 z2 z3 z4 z5
   ·rename_i hid
    have hid' : id' ≠ id := Nat.ne_of_beq_eq_false hid
    simp only [Option.some.injEq, Prod.mk.injEq] at hr
    obtain ⟨rfl, rfl, rfl⟩ := hr
    refine ih hnr hd he H hn hf (fun a1 w1 ρ1 k1 z1 z2 z3 z4 z5 => ?_)
    show Exit.inBlock id Q (.exit id') a1 w1
    simp only [Exit.inBlock, hid', if_false]
    exact hk a1 w1 ρ1 k1 z1 z2 z3 z4 z5
  ·rename_i hne
   refine ih hnr hd he H hn hr (fun a1 w1 ρ1 k1 z1 z2 z3 z4 z5 => ?_)
   have := hk a1 w1 ρ1 k1 z1 z2 z3 z4 z5
   cases x with
   | normal => exact this
   | exit id' => exact absurd hr (hne _ _ _)
   | goto l => exact this
   | ret => exact this
 | loop c1 ih =>
  intro r m w0 Q ρ e e' h h' a w x hnr hd he H hn hr hk
  simp only [execE] at hr
  exact wpIn_loop_rounds lim (loop_sound (f := execE C lim c1) (fun he H hn hr hk => ih hnr hd he H hn hr hk) lim he H hn hr hk)
 | exit id =>
  intro r m w0 Q ρ e e' h h' a w x _ _ he H hn hr hk
  simp only [execE, Option.some.injEq, Prod.mk.injEq] at hr
  obtain ⟨rfl, rfl, rfl⟩ := hr
  exact wpIn_exit (hk a w ρ [] he (.refl _) H hn (.refl _ _ _))
 | label l =>
  intro r m w0 Q ρ e e' h h' a w x _ _ he H hn hr hk
  simp only [execE, Option.some.injEq, Prod.mk.injEq] at hr
  obtain ⟨rfl, rfl, rfl⟩ := hr
  exact wpIn_label (hk a w ρ [] he (.refl _) H hn (.refl _ _ _))
 | goto l =>
  intro r m w0 Q ρ e e' h h' a w x _ _ he H hn hr hk
  simp only [execE, Option.some.injEq, Prod.mk.injEq] at hr
  obtain ⟨rfl, rfl, rfl⟩ := hr
  exact wpIn_goto (hk a w ρ [] he (.refl _) H hn (.refl _ _ _))
 | ret =>
  intro r m w0 Q ρ e e' h h' a w x _ _ he H hn hr hk
  simp only [execE, Option.some.injEq, Prod.mk.injEq] at hr
  obtain ⟨rfl, rfl, rfl⟩ := hr
  exact wpIn_ret (hk a w ρ [] he (.refl _) H hn (.refl _ _ _))
 | rangeFunc f ps cx cy ihx ihy =>
  intro r m w0 Q ρ e e' h h' a w x hnr hd he H hn hr hk
  obtain rfl : r = none := hnr.resolve_right (by simp [noRange])
  simp only [dstsIn, Bool.and_eq_true] at hd
  simp only [execE] at hr
  split at hr
  case h_2 => cases hr
  rename_i vf hvf
  have hok : noRange cx = true ∧ noRange cy = true := by
   cases hb : (noRange cx && noRange cy) with
   | true => simpa using hb
   | false =>
    rw [hb] at hr
    unfold rangeE at hr
    split at hr
    ·rename_i hh; cases hh
    ·cases hr
  exact range_sound hctx hm (fun he H hn hr hk => ihx (.inr hok.1) hd.2.1 he H hn hr hk) (fun he H hn hr hk => ihy (.inr hok.2) hd.2.2 he H hn hr hk) hd.1 he H hn hvf hr hk
 | _ => intro r m w0 Q ρ e e' h h' a w x _ _ he H hn hr hk; simp only [execE] at hr; cases hr
theorem results_sound {ρ : Ren} {h : Hp} {w : World} (H : Rel C.Γ N0 w0 ρ h w) {e : Env} {tm : Array Value} (he : EnvR ρ e tm) {fn : Func} {v : V} (hl : leaveE C.P C.Γ fn.results.toList e h = some v) :
  ∃ u, (results fn tm).run C.P w = .ok u w ∧ VR ρ v u := by
 have one : ∀ (r : ResultVar) x, resE C.P C.Γ e h r = some x → ∃ u, ((fun r : ResultVar => match r with | .tmp t => pure (tm.getD t undef) | .cell a t => do loadVar t (← asAddr (tm.getD a undef)) : ResultVar → Sem Value) r).run C.P w = .ok u w ∧ VR ρ x u := by
  intro r x hx
  cases r with
  | tmp t => simp only [resE, Option.some.injEq] at hx; subst hx; exact ⟨_, rfl, he t⟩
  | cell a T =>
   simp only [resE] at hx
   obtain ⟨y, r1, r2⟩ := opLoad_sound (P := C.P) H (he a) hx
   refine ⟨y, ?_, r2⟩
   have hp : ∃ ad, tm.getD a undef = .pointer (some ad) := by
    have hv := he a
    unfold opLoad at hx
    split at hx
    ·rename_i hc _
     obtain ⟨b, o, e1, _⟩ := cellsAt_sound H hv hc; exact ⟨_, e1⟩
    ·rename_i hc _
     obtain ⟨b, o, e1, _⟩ := cellsAt_sound H hv hc; exact ⟨_, e1⟩
    ·cases hx
   obtain ⟨ad, had⟩ := hp
   rw [had] at r1
   simp only [Instr.loadAt, Instr.sureAddr, Sem.run_bind, Sem.run_pure, Result.andThen_ok] at r1
   simp only [had, asAddr, Sem.run_bind, Sem.run_pure, Result.andThen_ok]
   exact r1
 have many : ∀ (rs : List ResultVar) (vs : List V), mapC (resE C.P C.Γ e h) rs = some vs → ∃ us : List Value, (rs.mapM (fun r : ResultVar => match r with | .tmp t => pure (tm.getD t undef) | .cell a t => do loadVar t (← asAddr (tm.getD a undef)) : ResultVar → Sem Value)).run C.P w = .ok us w ∧ VRs ρ vs us := by
  intro rs
  induction rs with
  | nil => intro vs hv; simp only [mapC, Option.some.injEq] at hv; subst hv; exact ⟨[], rfl, .nil _⟩
  | cons r rs ih =>
   intro vs hv
   simp only [mapC] at hv
   split at hv
   ·rename_i x l h1 h2
    simp only [Option.some.injEq] at hv; subst hv
    obtain ⟨u, r1, r2⟩ := one r x h1
    obtain ⟨us, s1, s2⟩ := ih l h2
    refine ⟨u :: us, ?_, .cons r2 s2⟩
    simp only [List.mapM_cons, Sem.run_bind, r1, Result.andThen_ok, s1, Sem.run_pure]
   ·cases hv
 unfold leaveE at hl
 have fin : ∀ vs, mapC (resE C.P C.Γ e h) fn.results.toList = some vs → ∃ us : List Value, VRs ρ vs us ∧ (results fn tm).run C.P w = .ok (if h : us.toArray.size = 1 then us.toArray[0] else Value.tuple us.toArray) w := by
  intro vs hvs
  obtain ⟨us, r1, r2⟩ := many _ _ hvs
  refine ⟨us, r2, ?_⟩
  unfold results
  rw [Array.mapM_eq_mapM_toList]
  simp only [Sem.run_bind, Sem.run_map, Sem.run_pure]
  refine Eq.trans (congrArg (fun r : Result (List Value) => (r.andThen fun a w' => .ok a.toArray w').andThen fun a w' => .ok (if h : a.size = 1 then a[0] else Value.tuple a) w') r1) ?_
  simp only [Result.andThen_ok]
 split at hl
 ·rename_i v' hvs
  simp only [Option.some.injEq] at hl; subst hl
  obtain ⟨us, h1, h2⟩ := fin _ hvs
  obtain ⟨u, us', rfl, h3, h4⟩ := h1.cons_inv
  obtain rfl := h4.nil_inv
  exact ⟨u, by rw [h2]; rfl, h3⟩
 ·rename_i vs hne hvs
  simp only [Option.some.injEq] at hl; subst hl
  obtain ⟨us, h1, h2⟩ := fin _ hvs
  refine ⟨.tuple us.toArray, ?_, VRs.tup (by simpa using h1)⟩
  rw [h2]
  have : ¬ us.toArray.size = 1 := by
   intro hh
   have hlen : vs.length = 1 := by rw [h1.1]; simpa using hh
   cases vs with
   | nil => simp at hlen
   | cons x r => cases r with
    | nil => exact hne x rfl
    | cons _ _ => simp at hlen
  rw [dif_neg this]
 ·cases hl
theorem leaves_marks {ρ : Ren} {h : Hp} {fn : Func} {tm : Array Value} {R : Ending → World → Prop} {m : Nat} (hR : ∀ w2, Rel C.Γ N0 w0 ρ h w2 → ∃ u, (results fn tm).run C.P w2 = .ok u w2 ∧ R (.returned u) w2) :
  ∀ (bs : List Nat) (kk : List (Nat × Obj)) {w : World}, Rel C.Γ N0 ⟨w0.w, w0.K, w0.r, kk⟩ ρ h w → bs.Nodup → (∀ b ∈ bs, (b, Obj.deferred (some [])) ∈ kk ∧ N0 ≤ b) → (∀ p ∈ w0.keep, p ∈ kk ∧ p.1 ∉ bs) → (w0.keep.map (·.1)).Nodup →
  LeavesInM (FW none) m C.P fn tm R (bs.map markOf) .returning w := by
 intro bs
 induction bs with
 | nil =>
  intro kk w H _ _ hs hn
  exact hR w (H.keepLess (fun p hp => (hs p hp).1) hn)
 | cons b bs ih =>
  intro kk w H hnd hb hs hn
  rw [List.nodup_cons] at hnd
  obtain ⟨b1, b2⟩ := hb b List.mem_cons_self
  have hbo := (H.kept.2 b _ b1).1
  refine ⟨by simp, .inl ⟨b, w.putObj b (.deferred none), rfl, run_takeDeferred hbo, ?_⟩⟩
  refine ih _ (H.putKept (o' := .deferred none) b1 b2 (fun _ _ _ hh => by cases hh)) hnd.2 (fun c hc => ?_) (fun p hp => ?_) hn
  ·obtain ⟨c1, c2⟩ := hb c (List.mem_cons_of_mem _ hc)
   refine ⟨List.mem_cons_of_mem _ (List.mem_filter.2 ⟨c1, ?_⟩), c2⟩
   have : c ≠ b := fun e => hnd.1 (e ▸ hc)
   simpa using this
  ·obtain ⟨p1, p2⟩ := hs p hp
   have : p.1 ≠ b := fun e => p2 (by rw [e]; exact List.mem_cons_self)
   exact ⟨List.mem_cons_of_mem _ (List.mem_filter.2 ⟨p1, by simpa using this⟩), fun hh => p2 (List.mem_cons_of_mem _ hh)⟩
theorem callE_sound (hctx : CtxOk C) (hm : C.P.follows .mixedOrders = true) (lim : Nat) (f : FuncId) : Sound C.P C.Γ f (callE C lim f) := by
  intro args h r h' hs N0 w0 ρ w us H hv
  unfold callE at hs
  split at hs
  · rename_i fn hf
    split at hs
    · rename_i c hb
      split at hs
      · rename_i hc
        simp only [Bool.and_eq_true] at hc
        have hlen := Nat.le_of_ble_eq_true hc.1
        have hl : us.size = args.length := by simpa using hv.1.symm
        have go : ∀ (x : AX) (e : Env) (h1 : Hp) (v : V), execE C lim c (enterE 0 args .leaf) h = some (x, e, h1) → (x = .normal ∨ x = .ret) → leaveE C.P C.Γ fn.results.toList e h1 = some v → v = r ∧ h1 = h' →
            Calls C.P f us w (fun e w' => ∃ ρ' v, e = .returned v ∧ Ext ρ ρ' ∧ Rel C.Γ N0 w0 ρ' h' w' ∧ VR ρ' r v) := by
          rintro x e h1 v he hx hlv ⟨rfl, rfl⟩
          refine (callsIn_fw (r := none) (m := 0)).1 (callsIn_of_wp_marks hf hb trivial ?_)
          refine execE_sound hctx hm c (n := fn.ntmps) (r := none) (a := ⟨us ++ Array.replicate (fn.ntmps - us.size) undef, []⟩) (.inl rfl) hc.2 (enter_EnvR hv _) H (by simp; omega) he ?_
          intro a' w' ρ' k z1 z2 z3 z4 z5
          obtain ⟨bs, hl1, hl2, hl3⟩ := z5
          have hnn : ((k ++ w0.keep).map (·.1)).Nodup := z3.kept.1
          rw [List.map_append, List.nodup_append] at hnn
          have key := leaves_marks (w0 := w0) (R := fun e w' => ∃ ρ' v', e = .returned v' ∧ Ext ρ ρ' ∧ Rel C.Γ N0 w0 ρ' h1 w' ∧ VR ρ' v v') (fn := fn) (tm := a'.tmps) (m := 0) (fun w2 H2 => by
            obtain ⟨u, q1, q2⟩ := results_sound H2 z1 hlv
            exact ⟨u, q1, ρ', u, rfl, z2, H2, q2⟩) bs (k ++ w0.keep) z3 hl2 (fun b hb => ⟨List.mem_append_left _ (hl3 b hb).1, (hl3 b hb).2⟩) (fun p hp => ⟨List.mem_append_right _ hp, fun hh =>
              hnn.2.2 p.1 (List.mem_map.2 ⟨_, (hl3 _ hh).1, rfl⟩) p.1 (List.mem_map.2 ⟨_, hp, rfl⟩) rfl⟩) hnn.2.1
          rw [List.append_nil] at hl1
          rcases hx with rfl | rfl
          · show LeavesInM (FW none) 0 C.P fn a'.tmps _ a'.defers .returning w'
            rw [hl1]; exact key
          · show LeavesInM (FW none) 0 C.P fn a'.tmps _ a'.defers .returning w'
            rw [hl1]; exact key
        split at hs
        · rename_i e h1 he
          split at hs
          · rename_i v hlv
            simp only [Option.some.injEq, Prod.mk.injEq] at hs
            exact go _ e h1 v he (.inl rfl) hlv hs
          · cases hs
        · rename_i e h1 he
          split at hs
          · rename_i v hlv
            simp only [Option.some.injEq, Prod.mk.injEq] at hs
            exact go _ e h1 v he (.inr rfl) hlv hs
          · cases hs
        · cases hs
      · cases hs
    · cases hs
  · cases hs
end
structure ProgOk (P : Program) (Γ : Glob) (ext : FuncId → Option (List V → Option V)) (bodies : Tr Unit) (extra : FuncId → Option Spec) : Prop where
 draws : P.follows .mixedOrders = true
 ext : ∀ f e, ext f = some e → ExtOk P f e
 body : ∀ f, inTr bodies f = true → isBody P f = true
 extra : ∀ f s, extra f = some s → CalleeOk P Γ f s
def isBoolV : V → Bool
 | .bool _ => true
 | _ => false
theorem runs_calls {P : Program} {Γ : Glob} {f : FuncId} {spec : Spec} (hs : Sound P Γ f spec) {args : List V} {r : V} {h' : Hp} (hr : spec args Hp.empty = some (r, h')) (hrd : isBoolV r = true)
  {w : World} {us : Array Value} (hg : GlobOk Γ w.heap.size w) (hv : VRs Ren.nil args us.toList) :
  Calls P f us w (fun e w' => ∃ v, e = .returned v ∧ VR Ren.nil r v ∧ Below w.heap.size w w') := by
 refine (hs _ _ _ _ hr w.heap.size _ _ w us (Rel.start hg) hv).mono ?_
 rintro e w' ⟨ρ', v, rfl, _, k1, k2⟩
 refine ⟨v, rfl, ?_, k1.below⟩
 unfold isBoolV at hrd
 split at hrd
 ·cases k2; exact .bool _
 ·cases hrd
abbrev Amb.nums (ns : List Int) : Amb := ⟨fun a => if a < 4000 then ns.getD a 0 else 0, fun _ => ByteArray.empty, fun i => Nat.zero_le _, fun i => by rw [if_neg (by omega)]; rfl, fun g _ => by
 rw [tot_zero 10 _ fun i h1 _ => if_neg (by omega)]
 unfold capG; split <;> omega⟩
abbrev Amb.none : Amb := Amb.nums []
theorem VR.lin1 {k : IntKind} {c n m lo hi : Int} {a : Nat} (h1 : lo ≤ E.num a) (h2 : E.num a ≤ hi) (hn : n = c + m * E.num a) : VR Ren.nil (.lin k c [⟨m, a, lo, hi⟩]) (.int k n) := by
 refine .lin k c _ n (fun t ht => ?_) ?_
 ·simp only [List.mem_singleton] at ht; subst ht
  exact ⟨h1, h2⟩
 ·simp only [sumR, valR]; omega
end Go.Proofs.YtkpoeilfnopgbaaGreatDoor.HM
