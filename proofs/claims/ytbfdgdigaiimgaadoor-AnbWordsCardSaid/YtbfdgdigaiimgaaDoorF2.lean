/- The fast machine, 2: how its code is made of a program's. -/
import Derived.Test.YtbfdgdigaiimgaaDoorF1
namespace Go.Proofs.YtbfdgdigaiimgaaDoor.HM
open Go Go.RowKit

def ixOf : Nat → Ix
  | 0 => .z
  | n + 1 => .s (ixOf n)

def paOf : Nat → Nat → Pa
  | 0, _ => .h
  | k + 1, i => match Nat.beq i 0 with
    | true => .h
    | false => match Nat.beq (i % 2) 1 with
      | true => .l (paOf k (i / 2))
      | false => .r (paOf k (i / 2 - 1))

def pathOf (i : Nat) : Pa := paOf i i

/-- the first place at which it stands -/
def firstAt (s : Nat) : List (Option Nat) → Option Nat
  | [] => none
  | some d :: r => match Nat.beq d s with
    | true => some 0
    | false => match firstAt s r with
      | some i => some (i + 1)
      | none => none
  | none :: r => match firstAt s r with
      | some i => some (i + 1)
      | none => none

def slotOf (NL : List Nat) (s : Nat) : Option Nat := firstAt s (NL.map some)

def nodupB : List Nat → Bool
  | [] => true
  | x :: r => (!(r.contains x)) && nodupB r

/-- an operand -/
def decA (NL : List Nat) (ds : List (Option Nat)) : Operand → Option FA
  | .tmp s => match firstAt s ds with
    | some i => some (.st (ixOf i))
    | none => match slotOf NL s with
      | some k => some (.t (pathOf k))
      | none => none
  | x => match rdE .leaf x with
    | some v => some (.c v)
    | none => none

def decD (NL : List Nat) (d : Option Nat) : Option Pa := match d with
  | some s => match slotOf NL s with
    | some k => some (pathOf k)
    | none => none
  | none => none

def bfOf : BinOp → BF
  | .add => .add | .sub => .sub | .mul => .mul | .quo => .quo | .rem => .rem | .and => .and | .or => .or | .shl => .shl | .shr => .shr
  | .lss => .lss | .leq => .leq | .gtr => .gtr | .geq => .geq | .eql => .eql | .neq => .neq
  | _ => .no

def decAll (ra : Operand → Option FA) (l : List Operand) : Option (List FA) := mapC ra l

def decOpt (ra : Operand → Option FA) : Option Operand → Option (Option FA)
  | none => some none
  | some x => match ra x with
    | some a => some (some a)
    | none => none

/-- the operands of an operation that is done the slow way -/
def decM (ra : Operand → Option FA) : List Operand → Option (List (Nat × FA))
  | [] => some []
  | .tmp s :: r => match ra (.tmp s), decM ra r with
    | some a, some l => some ((s, a) :: l)
    | _, _ => none
  | _ :: r => decM ra r

def decSlow (ra : Operand → Option FA) (o : Op) : Option FO := match decM ra o.operands.toList with
  | some m => some (.slow o m)
  | none => none

def isIntT (P : Program) (T : TypeId) : Option IntKind := match P.underlying T with
  | some (.int k) => some k
  | _ => none

def decO (P : Program) (ra : Operand → Option FA) (o : Op) : Option FO :=
  match o with
  | .move x => match ra x with
    | some a => some (.mv a)
    | none => none
  | .assign x => match ra x with
    | some a => some (.mv a)
    | none => none
  | .pick c x y => match ra c, ra x, ra y with
    | some c, some a, some b => some (.pick c a b)
    | _, _, _ => none
  | .nilCheck x => match ra x with
    | some a => some (.nilc a)
    | none => none
  | .binOp op T x y _ => match ra x, ra y with
    | some a, some b => some (.bin (bfOf op) op T (isConstO x || isConstO y) a b)
    | _, _ => none
  | .unOp op _ x => match ra x with
    | some a => match op with
      | .not => some (.nt a)
      | op => some (.un op a)
    | none => none
  | .fieldAddr T x f => match ra x, bfield P T f with
    | some a, some (off, ft) => match szOf P ft with
      | some (_ + 1) => some (.faddr off a)
      | _ => none
    | _, _ => none
  | .field T x f => match ra x, bfield P T f with
    | some a, some (off, ft) => match szOf P ft, isAggT P ft with
      | some sz, some ag => match ag with
        | true => some (.fldA off sz a)
        | false => some (.fld1 off a)
      | _, _ => none
    | _, _ => none
  | .indexAddr T x i => match ra x, ra i, P.underlying T with
    | some a, some b, some (.slice e) => match szOf P e with
      | some sz => some (.iadr sz a b)
      | none => none
    | some a, some b, some (.array len e) => match szOf P e with
      | some sz => some (.iadrA len sz a b)
      | none => none
    | _, _, _ => none
  | .index T x i => match ra x, ra i, P.underlying T with
    | some a, some b, some .string => some (.idxS a b)
    | some a, some b, some (.array len e) => match szOf P e, isAggT P e with
      | some sz, some ag => some (.idxA len sz ag a b)
      | _, _ => none
    | _, _, _ => none
  | .slice T x lo hi none => match P.underlying T with
    | some .string => match ra x, decOpt ra lo, decOpt ra hi with
      | some a, some l, some h => some (.sliS T a l h)
      | _, _, _ => none
    | _ => decSlow ra (.slice T x lo hi none)
  | .convert src dst x => match isIntT P src, isIntT P dst with
    | some _, some k => match ra x with
      | some a => some (.conv k a)
      | none => none
    | _, _ => decSlow ra (.convert src dst x)
  | .extract x i => match ra x with
    | some a => some (.ext a i)
    | none => none
  | .makeInterface T x => match ra x, P.underlying T with
    | some _, some (.interface _) => none
    | some a, some _ => some (.mkif T a)
    | _, _ => none
  | .makeFunc (.func f) first caps => match decAll ra first.toList, decAll ra caps.toList with
    | some a, some b => some (.mkfn f a b)
    | _, _ => none
  | .call { callee := .builtin .len, args, argTypes } => match args.toList, argTypes[0]? with
    | [x], some T => match ra x, P.underlying T with
      | some a, some .string => some (.lenS a)
      | some a, some (.slice _) => some (.lenL a)
      | some _, some (.array n _) => some (.lenN n)
      | _, _ => decSlow ra (.call { callee := .builtin .len, args, argTypes })
    | _, _ => none
  | .load T x => match ra x, isAggT P T with
    | some a, some false => some (.ld1 a)
    | some a, some true => match szOf P T with
      | some n => some (.ldN n a)
      | none => none
    | _, _ => none
  | .store T x y => match ra x, ra y, szOf P T with
    | some a, some b, some n => some (.sto n a b)
    | _, _, _ => none
  | .alloc T => match zeroC P T with
    | some cs => some (.alloc cs T)
    | none => none
  | .box T x => match ra x with
    | some a => some (.box T a)
    | none => none
  | .buildSlice T len parts => match decAll ra (parts.toList.map (·.2)), P.underlying T with
    | some l, some (.slice e) => match szOf P e, zeroC P e with
      | some sz, some zs => match Nat.blt 0 sz && (Nat.beq zs.length sz && Nat.ble (len * sz) 16777216) with
        | true => some (.bsl (zerosOf zs (len * sz)) len sz (parts.toList.map (·.1)) l)
        | false => none
      | _, _ => none
    | _, _ => none
  | .makeSlice T l c => match ra l, ra c with
    | some a, some b => some (.msl T a b)
    | _, _ => none
  | .range T x => match ra x with
    | some a => some (.rng T a)
    | none => none
  | .next x true => match ra x with
    | some a => some (.nxt a)
    | none => none
  | .call { callee := .builtin .append, args, argTypes } => match args.toList, argTypes[0]? with
    | [x, y], some sT => match P.underlying sT, plainArg P argTypes, ra x, ra y with
      | some (.slice e), true, some a, some b => match szOf P e, bytesOf P e, zeroC P e with
        | some sz, some by_, some zs => match Nat.beq zs.length sz && (Nat.blt 0 sz && Nat.blt 0 by_) with
          | true => some (.app e sz by_ a b)
          | false => none
        | _, _, _ => none
      | _, _, _, _ => none
    | _, _ => none
  | .build T parts => match zeroC P T, P.underlying T, decAll ra (parts.toList.map (·.2)) with
    | some zs, some (.struct fs), some l => match placesOf P fs.toList with
      | some pl => some (.bld zs pl (parts.toList.map (·.1)) l)
      | none => none
    | _, _, _ => decSlow ra (.build T parts)
  | .call { callee := .value (.func g), args, .. } => match decAll ra args.toList with
    | some l => some (.call g l)
    | none => none
  | o => decSlow ra o

def decG (NL : List Nat) (ds : List (Option Nat)) (ops : Array Oper) : Option (Nat × Bool) → Option (Option FG)
  | none => some none
  | some (j, w) => match (ops[j]?).bind (·.dst) with
    | some d => match decA NL ds (.tmp d) with
      | some a => some (some (.on a w))
      | none => none
    | none => some (some .never)

def decR (P : Program) (NL : List Nat) (ops : Array Oper) : List Oper → List (Option Nat) → Option FR
  | [], _ => some .nil
  | o :: r, ds => match decG NL ds ops o.guard, decO P (decA NL ds) o.op, decR P NL ops r (o.dst :: ds) with
    | some (some g), some f, some q => some (.g g f (decD NL o.dst) q)
    | some none, some f, some q => match decD NL o.dst with
      | some p => some (.op f p q)
      | none => some (.o f q)
    | _, _, _ => none

/-! ## With names for what need not be reckoned -/
def FA.up : FA → FA
  | .st i => .st (.s i)
  | .t p => .t p
  | .c v => .c v
  | .f k a => .f k a.up

def Pa.beq : Pa → Pa → Bool
  | .h, .h => true
  | .l p, .l q => p.beq q
  | .r p, .r q => p.beq q
  | _, _ => false

def FA.ment (p : Pa) : FA → Bool
  | .t q => p.beq q
  | .f _ a => a.ment p
  | _ => false

def mentO (p : Option Pa) (a : FA) : Bool := match p with
  | some p => a.ment p
  | none => false

/-- what a region has given so far: a value on the stack; another name of an operand (and whether that is known to point) -/
inductive DE where
  | v (d : Option Nat)
  | al (d : Nat) (a : FA) (p : Bool)

def isD (d : Option Nat) (s : Nat) : Bool := match d with
  | some d => Nat.beq d s
  | none => false

/-- what a slot's name stands for: none: nothing of the region; some none: what is no longer so -/
def res2 (NL : List Nat) (s : Nat) : List DE → Option (Option (FA × Bool))
  | [] => none
  | .v d :: r => match isD d s with
    | true => some (some (.st .z, false))
    | false => match res2 NL s r with
      | some (some (a, p)) => match mentO (decD NL d) a with
        | true => some none
        | false => some (some (a.up, p))
      | x => x
  | .al d a p :: r => match Nat.beq d s with
    | true => some (some (a, p))
    | false => res2 NL s r

def decA2 (NL : List Nat) (ds : List DE) : Operand → Option (FA × Bool)
  | .tmp s => match res2 NL s ds with
    | some (some r) => some r
    | some none => none
    | none => match slotOf NL s with
      | some k => some (.t (pathOf k), false)
      | none => none
  | x => match rdE .leaf x with
    | some v => some (.c v, false)
    | none => none

def raOf (NL : List Nat) (ds : List DE) (x : Operand) : Option FA := match decA2 NL ds x with
  | some (a, _) => some a
  | none => none

/-- an operation that only names: the name, the operand, whether it points, whether that has to be seen first -/
def aliasOf (P : Program) (NL : List Nat) (ds : List DE) (o : Oper) : Option (Nat × FA × Bool × Bool) :=
  match o.guard, o.dst with
  | none, some d => match slotOf NL d with
    | some _ => none
    | none => match o.op with
      | .move x => match decA2 NL ds x with
        | some (a, p) => some (d, a, p, false)
        | none => none
      | .assign x => match decA2 NL ds x with
        | some (a, p) => some (d, a, p, false)
        | none => none
      | .nilCheck x => match decA2 NL ds x with
        | some (a, p) => some (d, a, true, !p)
        | none => none
      | .fieldAddr T x f => match decA2 NL ds x, bfield P T f with
        | some (a, true), some (off, ft) => match szOf P ft with
          | some (_ + 1) => some (d, .f off a, true, false)
          | _ => none
        | _, _ => none
      | _ => none
  | _, _ => none

def decG2 (NL : List Nat) (ds : List DE) (ops : Array Oper) : Option (Nat × Bool) → Option (Option FG)
  | none => some none
  | some (j, w) => match (ops[j]?).bind (·.dst) with
    | some d => match raOf NL ds (.tmp d) with
      | some a => some (some (.on a w))
      | none => none
    | none => some (some .never)

def decR2 (P : Program) (NL : List Nat) (ops : Array Oper) : List Oper → List DE → Option FR
  | [], _ => some .nil
  | o :: r, ds => match aliasOf P NL ds o with
    | some (d, a, p, c) => match decR2 P NL ops r (.al d a p :: ds) with
      | some q => match c with
        | true => some (.chk a q)
        | false => some q
      | none => none
    | none => match decG2 NL ds ops o.guard, decO P (raOf NL ds) o.op, decR2 P NL ops r (.v o.dst :: ds) with
      | some (some g), some f, some q => some (.g g f (decD NL o.dst) q)
      | some none, some f, some q => match decD NL o.dst with
        | some p => some (.op f p q)
        | none => some (.o f q)
      | _, _, _ => none

def decRR (P : Program) (NL : List Nat) (ops : Array Oper) : Option FR := match decR2 P NL ops ops.toList [] with
  | some r => some r
  | none => decR P NL ops ops.toList []

def mayW (C : Cfg) (o : Op) : Bool := !(apartFromHeap C o || isLoadO o)

/-- are the operations in order, whichever of them write? -/
def statOk (P : Program) (pure : FuncId → Bool) (ops : Array Oper) : Bool :=
  match forkOk ops with
  | true => false
  | false => orderOk ⟨P, .leaf, fun _ => none, pure, fun _ => none, fun _ => false⟩ [] ops (ops.toList.map fun o => mayW ⟨P, .leaf, fun _ => none, pure, fun _ => none, fun _ => false⟩ o.op)

/-- a load and what may write behind it, not in order -/
def lateAll (P : Program) (pure : FuncId → Bool) (ops : Array Oper) : List (Nat × Nat) :=
  match befores ops.toList 0 [] with
  | some bs => (List.range ops.size).flatMap fun i => (List.range ops.size).filterMap fun j => match ops[i]?, ops[j]? with
    | some o, some p => match Nat.blt i j && (isLoadO o.op && (mayW ⟨P, .leaf, fun _ => none, pure, fun _ => none, fun _ => false⟩ p.op && !((bs.getD j []).contains i))) with
      | true => some (i, j)
      | false => none
    | _, _ => none
  | none => []

/-- a load and what may write ahead of it, not in order -/
def earlyAll (P : Program) (pure : FuncId → Bool) (ops : Array Oper) : List (Nat × Nat) :=
  match befores ops.toList 0 [] with
  | some bs => (List.range ops.size).flatMap fun j => (List.range ops.size).filterMap fun i => match ops[j]?, ops[i]? with
    | some p, some o => match Nat.blt i j && (isLoadO p.op && (mayW ⟨P, .leaf, fun _ => none, pure, fun _ => none, fun _ => false⟩ o.op && !((bs.getD j []).contains i))) with
      | true => some (j, i)
      | false => none
    | _, _ => none
  | none => []

def pairsFromL (C : Cfg) (L E : List (Nat × Nat)) (ops : Array Oper) (bs : List (List Nat)) (i : Nat) (o : Oper) (n : Bool) : Nat → List Oper → List Bool → Bool
  | _, [], _ => true
  | j, p :: r, m :: ms => match pairOk C [] ops bs i o (n && !(E.contains (j, i))) j p (m && !(L.contains (i, j))) with
    | true => pairsFromL C L E ops bs i o n (j + 1) r ms
    | false => false
  | _, _ :: _, [] => false

def pairsAllL (C : Cfg) (L E : List (Nat × Nat)) (ops : Array Oper) (bs : List (List Nat)) : Nat → List Oper → List Bool → Bool
  | _, [], _ => true
  | i, o :: r, n :: ns => match pairsFromL C L E ops bs i o n (i + 1) r ns with
    | true => pairsAllL C L E ops bs (i + 1) r ns
    | false => false
  | _, _ :: _, [] => false

def orderOkL (C : Cfg) (L E : List (Nat × Nat)) (ops : Array Oper) (tr : List Bool) : Bool :=
  match befores ops.toList 0 [] with
  | some bs => closedFrom bs 0 ops.toList && pairsAllL C L E ops bs 0 ops.toList tr
  | none => false

def statOkL (P : Program) (pure : FuncId → Bool) (L E : List (Nat × Nat)) (ops : Array Oper) : Bool :=
  match forkOk ops with
  | true => false
  | false => orderOkL ⟨P, .leaf, fun _ => none, pure, fun _ => none, fun _ => false⟩ L E ops (ops.toList.map fun o => mayW ⟨P, .leaf, fun _ => none, pure, fun _ => none, fun _ => false⟩ o.op)

/-- a truth value that is drawn: where it lies, its type, where it is read to -/
def boolFork (P : Program) (ops : Array Oper) : Option (Nat × Nat × Nat) :=
  match ops.toList with
  | [⟨some d, .alloc T, _, _, _, none⟩, ⟨none, .store T1 (.tmp x1) (.const c1), _, _, _, none⟩, ⟨none, .store T2 (.tmp x2) (.const c2), _, _, _, none⟩, ⟨some d3, .load T3 (.tmp x3), _, _, _, none⟩] =>
    match zeroC P T, constV c1, constV c2 with
    | some [_], some (.bool a), some (.bool b) => match (a != b) && (((Nat.beq x1 d && Nat.beq x2 d) && (Nat.beq x3 d && !(Nat.beq d3 d))) && ((szOf P T1 == some 1 && szOf P T2 == some 1) && isAggT P T3 == some false)) with
      | true => some (d, T, d3)
      | false => none
    | _, _, _ => none
  | _ => none

def decC (P : Program) (pure : FuncId → Bool) (NL : List Nat) : Code → Option FC
  | .skip => some .skip
  | .region _ ops draw => match draw with
    | false => match decRR P NL ops with
      | some r => some (.reg r)
      | none => none
    | true => match statOk P pure ops with
      | true => match decRR P NL ops with
        | some r => some (.reg r)
        | none => none
      | false => match forkOk ops with
        | true => match boolFork P ops with
         | some (d, T, d3) => some (.forkB T (decD NL (some d)) (decD NL (some d3)))
         | none => match ops.toList with
          | [o0, o1, o2, o3] => match decR P NL ops [o0, o1, o2, o3] [], decR P NL ops [o0, o2, o1, o3] [] with
            | some a, some b => some (.fork a b)
            | _, _ => none
          | _ => none
        | false => match statOkL P pure (lateAll P pure ops) (earlyAll P pure ops) ops with
          | true => match decR P NL ops ops.toList [] with
            | some r => some (.regL r (lateAll P pure ops) (earlyAll P pure ops))
            | none => none
          | false => none
  | .seq a b => match decC P pure NL a, decC P pure NL b with
    | some x, some y => some (.seq x y)
    | _, _ => none
  | .cond c a b => match decA NL [] c, decC P pure NL a, decC P pure NL b with
    | some c, some x, some y => some (.cond c x y)
    | _, _, _ => none
  | .block id b => match decC P pure NL b with
    | some x => some (.block id x)
    | none => none
  | .loop b => match decC P pure NL b with
    | some x => some (.loop x)
    | none => none
  | .exit id => some (.exit id)
  | .label _ => some .skip
  | .goto l => some (.goto l)
  | .ret => some .ret
  | _ => some .bad

def decRes (NL : List Nat) : ResultVar → Option FRes
  | .tmp t => match decA NL [] (.tmp t) with
    | some a => some (.t a)
    | none => none
  | .cell a T => match decA NL [] (.tmp a) with
    | some a => some (.c a T)
    | none => none

def pars (NL : List Nat) : Nat → Nat → List (Option Pa)
  | 0, _ => []
  | k + 1, i => decD NL (some i) :: pars NL k (i + 1)

/-- a function: np is how many values it is given -/
def decF (P : Program) (pure : FuncId → Bool) (NL : List Nat) (np : Nat) (f : FuncId) : Option FFn :=
  match P.funcs[f]? with
  | some fn => match fn.body with
    | some c => match nodupB NL && (Nat.ble np fn.ntmps && dstsIn fn.ntmps c) with
      | true => match decC P pure NL c, mapC (decRes NL) fn.results.toList with
        | some x, some rs => some ⟨pars NL np 0, rs, x⟩
        | _, _ => none
      | false => none
    | none => none
  | none => none

/-- the whole program, so deep: some functions by the fast machine -/
noncomputable def runX (P : Program) (Γ : Glob) (pure closed : FuncId → Bool) (ext : FuncId → Option (List V → Option V)) (bodies : Tr Unit) (extra : FuncId → Option Spec) (tab : Tr FFn) (lim : Nat) : Nat → FuncId → Spec := fun k =>
  Nat.rec (motive := fun _ => FuncId → Spec) (fun _ _ _ => none)
    (fun _ ih f => Option.rec (motive := fun _ => Spec)
      (callE ⟨P, Γ, fun g => Option.rec (motive := fun _ => Option Spec) (Option.rec (motive := fun _ => Option Spec) none (fun _ => some (ih g)) (getT bodies g)) (fun s => some s) (extra g), pure, ext, closed⟩ lim f)
      (fun ff => callX ff ⟨P, Γ, fun g => Option.rec (motive := fun _ => Option Spec) (Option.rec (motive := fun _ => Option Spec) none (fun _ => some (ih g)) (getT bodies g)) (fun s => some s) (extra g), pure, ext, closed⟩ lim)
      (getT tab f)) k

end Go.Proofs.YtbfdgdigaiimgaaDoor.HM
