/- The heap machine, 8: one operation. -/
import Derived.Test.YtbfdgdigaiimgaaDoorHS3
import Derived.Test.YtbfdgdigaiimgaaDoorHK
namespace Go.Proofs.YtbfdgdigaiimgaaDoor.HM
open Go Go.RowKit

abbrev Spec := List V → Hp → Option (V × Hp)

structure Cfg where
  P : Program
  Γ : Glob
  ctx : FuncId → Option Spec
  /-- functions that are given data, and give data: they are run by themselves -/
  pure : FuncId → Bool
  /-- functions without a body -/
  ext : FuncId → Option (List V → Option V)
  /-- functions that are given data, and may give anything: they are run by themselves, too -/
  closed : FuncId → Bool

mutual
def V.isData : V → Bool
  | .bool _ => true
  | .int _ _ => true
  | .str _ => true
  | .nilp => true
  | .nils => true
  | .nilmap => true
  | .nilfn => true
  | .nilif => true
  | .agg cs => V.areData cs
  | .tup cs => V.areData cs
  | .any => true
  | .mod _ _ => true
  | .anyb => true
  | _ => false
def V.areData : List V → Bool
  | [] => true
  | x :: r => match x.isData with
    | true => V.areData r
    | false => false
end

def topT : List LT → Nat
  | [] => 0
  | t :: r => Nat.max (t.a + 1) (topT r)
mutual
/-- data, and numbers that nobody knows -/
def V.isSym : V → Bool
  | .lin _ _ _ => true
  | .sstr l => V.areSym l
  | .agg cs => V.areSym cs
  | .tup cs => V.areSym cs
  | v => v.isData
def V.areSym : List V → Bool
  | [] => true
  | x :: r => match x.isSym with
    | true => V.areSym r
    | false => false
end
mutual
/-- above all places that are named -/
def V.top : V → Nat
  | .lin _ _ ts => topT ts
  | .sstr l => V.tops l
  | .agg cs => V.tops cs
  | .tup cs => V.tops cs
  | _ => 0
def V.tops : List V → Nat
  | [] => 0
  | x :: r => Nat.max x.top (V.tops r)
end
/-- a run by itself, from numbers that nobody knows -/
def opSym (spec : Spec) (l : List V) : Option (V × Option Hp) := match V.areSym l with
  | true => match spec l (Hp.nums (V.tops l)) with
    | some (r, _) => match r.isSym, Nat.ble r.top (V.tops l) with
      | true, true => some (r, none)
      | _, _ => none
    | none => none
  | false => none

theorem opSym_none {spec : Spec} {l : List V} {x : V} {k : Option Hp} (h : opSym spec l = some (x, k)) : k = none := by
  unfold opSym at h
  split at h
  · split at h
    · split at h
      · simp only [Option.some.injEq, Prod.mk.injEq] at h; exact h.2.symm
      · cases h
    · cases h
  · cases h

def opCall (C : Cfg) (f : V) (args : List V) (h : Hp) : Option (V × Option Hp) :=
  match f with
  | .fn g xs ys => match C.ctx g with
    | some spec => match C.pure g with
      | true => match V.areData xs, V.areData args, V.areData ys with
        | true, true, true => match spec (xs ++ (args ++ ys)) Hp.empty with
          | some (r, _) => match r.isData with
            | true => some (r, none)
            | false => none
          | none => none
        | _, _, _ => opSym spec (xs ++ (args ++ ys))
      | false => match C.closed g && (V.areData xs && (V.areData args && V.areData ys)) with
        | true => match spec (xs ++ (args ++ ys)) Hp.empty with
          | some (r, h0) => some (r.shift h.next, some (h.beside (h0.gc r)))
          | none => none
        | false => match spec (xs ++ (args ++ ys)) h with
          | some (r, h') => some (r, some h')
          | none => none
    | none => match C.ext g with
      | some e => match e (xs ++ (args ++ ys)) with
        | some r => some (r, none)
        | none => none
      | none => none
  | _ => none

def still (v : Option V) : Option (V × Option Hp) := match v with
  | some v => some (v, none)
  | none => none

/-- nothing has no room -/
def opCapNil (P : Program) (argTypes : Array TypeId) (s : V) : Option V := match argTypes[0]?, s with
  | some T, .nils => match P.underlying T with
    | some (.slice _) => some (.int .i64 0)
    | _ => none
  | _, _ => none

theorem opCapNil_sound {P : Program} {ρ : Ren} {w : World} {argTypes : Array TypeId} {T : TypeId} {s x : V} {u : Value} (hs : VR ρ s u) (h : opCapNil P argTypes s = some x) : ∃ y, (Builtin.cap_ argTypes T #[u]).run P w = .ok y w ∧ VR ρ x y := by
  unfold opCapNil at h
  split at h
  · rename_i T' hT
    split at h
    · rename_i e he
      simp only [Option.some.injEq] at h; subst h
      cases hs
      refine ⟨.int .i64 0, ?_, .int _ _⟩
      simp [Builtin.cap_, hT, run_underlying he, Result.andThen, goInt]
    · cases h
  · cases h

/-- nothing is copied -/
def opCopyNil (P : Program) (argTypes : Array TypeId) (d s : V) : Option V := match argTypes[0]?, d, s with
  | some T, .sl _ _ 0 _, .nils => match P.underlying T with
    | some (.slice e) => match szOf P e with
      | some _ => some (.int .i64 0)
      | none => none
    | _ => none
  | _, _, _ => none

theorem opCopyNil_sound {P : Program} {ρ : Ren} {w : World} {argTypes : Array TypeId} {T : TypeId} {d s x : V} {u v : Value} (hd : VR ρ d u) (hs : VR ρ s v) (h : opCopyNil P argTypes d s = some x) : ∃ y, (Builtin.copy_ argTypes T #[u, v]).run P w = .ok y w ∧ VR ρ x y := by
  unfold opCopyNil at h
  split at h
  · rename_i T' a o sz hT
    split at h
    · rename_i e he
      split at h
      · rename_i n hn
        simp only [Option.some.injEq] at h; subst h
        cases hs
        refine ⟨.int .i64 0, ?_, .int _ _⟩
        cases hd <;> simp [Builtin.copy_, hT, run_underlying he, Result.andThen, goInt, Builtin.lenOf, Builtin.firstCells, storeCells, run_sizeOf hn]
      · cases h
    · cases h
  · cases h

/-- operations that leave the heap alone -/
def opRest (P : Program) (rd : Operand → Option V) (o : Op) : Option V :=
  match o with
  | .build T parts => match rdAll rd (parts.toList.map (·.2)) with
    | some vs => opBuild P T ((parts.toList.map (·.1)).zip vs)
    | none => none
  | .call { callee := .builtin .unsafeSliceData, args, .. } => match rdAll rd args.toList with
    | some [s] => opSliceData s
    | _ => none
  | .call { callee := .builtin .cap, args, argTypes } => match rdAll rd args.toList with
    | some [s] => opCapNil P argTypes s
    | _ => none
  | .call { callee := .builtin .copy, args, argTypes } => match rdAll rd args.toList with
    | some [d, s] => opCopyNil P argTypes d s
    | _ => none
  | o => popS P rd o

def isMapT (P : Program) (argTypes : Array TypeId) : Bool :=
  match argTypes[0]? with
  | some T => match P.underlying T with
    | some (.map _ _) => true
    | _ => false
  | none => false

def opVal (C : Cfg) (rd : Operand → Option V) (h : Hp) (o : Op) : Option (V × Option Hp) :=
  match o with
  | .load T a => match rd a with
    | some a => still (opLoad C.P C.Γ h T a)
    | none => none
  | .store T a v => match rd a, rd v with
    | some a, some v => match opStore C.P h T a v with
      | some h' => some (.tup [], some h')
      | none => none
    | _, _ => none
  | .alloc T => opAlloc C.P h T
  | .box T x => match rd x with
    | some v => match v.isAny with
      | true => none
      | false => some (opBox h T v)
    | none => none
  | .buildSlice T len parts => match rdAll rd (parts.toList.map (·.2)) with
    | some vs => match h.t.get h.next with
      | some _ => none
      | none => opBuildSlice C.P h T len ((parts.toList.map (·.1)).zip vs)
    | none => none
  | .makeSlice T l c => match rd l, rd c with
    | some l, some c => opMakeSlice C.P h T l c
    | _, _ => none
  | .range T x => match rd x with
    | some v => opRange C.P h T v
    | none => none
  | .next x true => match rd x with
    | some v => opNext h v
    | none => none
  | .convert src dst x => match rd x with
    | some v => match opBytesOf C.P h src dst v with
      | some r => some r
      | none => match opStrOf C.P h src dst v with
        | some r => some (r, none)
        | none => match opConvPtr C.P h src dst v with
          | some r => some (r, none)
          | none => still (opConvX C.P src dst v)
    | none => none
  | .slice T x lo hi none => match rd x, optRd rd lo, optRd rd hi with
    | some a, some l, some k => match opSliceArr C.P h T a l k with
      | some r => some (r, none)
      | none => still (opSliceX C.P T a l k)
    | _, _, _ => none
  | .slice T x lo hi (some mx) => match rd x, optRd rd lo, optRd rd hi with
    | some a, some l, some k => match rd mx with
      | some m => still (opSlice3 C.P T a l k (some m))
      | none => none
    | _, _, _ => none
  | .call { callee := .builtin .append, args, argTypes } => match rdAll rd args.toList, argTypes[0]? with
    | some [x, y], some sT => match C.P.underlying sT with
      | some (.slice e) => match plainArg C.P argTypes with
        | true => opAppendE C.P h e x y
        | false => none
      | _ => none
    | _, _ => none
  | .call { callee := .builtin .unsafeString, args, argTypes } => match rdAll rd args.toList with
    | some [p, n] => match argTypes.size with
      | _ + 1 => opUnsafeString C.P h argTypes p n
      | 0 => none
    | _ => none
  | .call { callee := .builtin .len, args, argTypes } => match rdAll rd args.toList with
    | some [a] => match isMapT C.P argTypes with
      | true => still (opLenMap C.P h argTypes a)
      | false => still (opLenX C.P argTypes a)
    | _ => none
  | .call { callee := .builtin .clear, args, argTypes } => match rdAll rd args.toList with
    | some [a] => match opClear C.P h argTypes a with
      | some h' => some (.tup [], some h')
      | none => none
    | _ => none
  | .makeMap T r => match optRd rd r, C.P.underlying T with
    | some none, _ => some (opMakeMap h)
    | some (some (.int _ _)), some (.map _ _) => some (opMakeMap h)
    | _, _ => none
  | .lookup T m k ok => match rd m, rd k with
    | some a, some b => still (opLookup C.P h T a b ok)
    | _, _ => none
  | .mapUpdate T m k v => match rd m, rd k, rd v with
    | some a, some b, some c => match opMapUpdate C.P h T a b c with
      | some h' => some (.tup [], some h')
      | none => none
    | _, _, _ => none
  | .insert T m k v => match rd m, rd k, rd v with
    | some a, some b, some c => match opMapUpdate C.P h T a b c with
      | some h' => some (.tup [], some h')
      | none => none
    | _, _, _ => none
  | .call { callee := .value f, args, .. } => match rd f, rdAll rd args.toList with
    | some f, some vs => opCall C f vs h
    | _, _ => none
  | o => still (opRest C.P rd o)

/-! ## Frames -/

abbrev Env := Tr V

def Env.get (e : Env) (s : Nat) : V := match Tr.get e s with
  | some v => v
  | none => .tup []

def rdE (e : Env) : Operand → Option V
  | .tmp t => some (Env.get e t)
  | .const v => constV v
  | .global g => some (.gp g 0)
  | .func f => some (.fn f [] [])

def Env.put (e : Env) (d : Option Nat) (v : V) : Env := match d with
  | some d => Tr.put (some v) e d
  | none => e

def wantedE (e : Env) (ops : Array Oper) (o : Oper) : Option Bool :=
  match o.guard with
  | none => some true
  | some (j, want) => match (ops[j]?).bind (·.dst) with
    | some d => match Env.get e d with
      | .bool b => some (b == want)
      | .any => none
      | .anyb => none
      | _ => some false
    | none => some false

def stepOp (C : Cfg) (ops : Array Oper) (e : Env) (h : Hp) (o : Oper) : Option (V × Option Hp) :=
  match wantedE e ops o with
  | some true => opVal C (rdE e) h o.op
  | some false => some (.tup [], none)
  | none => none

def runOps (C : Cfg) (ops : Array Oper) : List Oper → Env → Hp → Option (Env × Hp)
  | [], e, h => some (e, h)
  | o :: r, e, h => match stepOp C ops e h o with
    | some (v, none) => runOps C ops r (Env.put e o.dst v) h
    | some (v, some h') => runOps C ops r (Env.put e o.dst v) h'
    | none => none

/-- which operations wrote -/
def traceOps (C : Cfg) (ops : Array Oper) : List Oper → Env → Hp → Option (List Bool × Env × Hp)
  | [], e, h => some ([], e, h)
  | o :: r, e, h => match stepOp C ops e h o with
    | some (v, none) => match traceOps C ops r (Env.put e o.dst v) h with
      | some (l, e', h') => some (false :: l, e', h')
      | none => none
    | some (v, some h1) => match traceOps C ops r (Env.put e o.dst v) h1 with
      | some (l, e', h') => some (true :: l, e', h')
      | none => none
    | none => none


/-! ## Contracts -/

/-- A CONTRACT: whatever the world, the tape, the memory around: the call comes back, with that value, in that heap -/
def Sound (P : Program) (Γ : Glob) (f : FuncId) (spec : Spec) : Prop :=
  ∀ (args : List V) (h : Hp) (r : V) (h' : Hp), spec args h = some (r, h') → ∀ (N0 : Nat) (w0 : Fr) (ρ : Ren) (w : World) (us : Array Value), Rel Γ N0 w0 ρ h w → VRs ρ args us.toList →
    Calls P f us w (fun e w' => ∃ ρ' v, e = .returned v ∧ Ext ρ ρ' ∧ Rel Γ N0 w0 ρ' h' w' ∧ VR ρ' r v)

def isBody (P : Program) (f : FuncId) : Bool :=
  match P.funcs[f]? with
  | some fn => !(fn.name == "runtime.NumGoroutine") && fn.body.isSome
  | none => false

/-- a function without a body gives that value, and leaves memory as it is -/
def ExtOk (P : Program) (f : FuncId) (e : List V → Option V) : Prop :=
  ∀ (args : List V) (r : V), e args = some r → ∀ (ρ : Ren) (w : World) (us : Array Value), VRs ρ args us.toList → ∃ u, (callFunc f us).run P w = .ok (.value u) w ∧ VR ρ r u

/-- a function with a body keeps the contract; one without gives the value at once -/
def CalleeOk (P : Program) (Γ : Glob) (f : FuncId) (spec : Spec) : Prop :=
  (isBody P f = true ∧ Sound P Γ f spec) ∨
  ∀ (args : List V) (h : Hp) (r : V) (h' : Hp), spec args h = some (r, h') → ∀ (N0 : Nat) (w0 : Fr) (ρ : Ren) (w : World) (us : Array Value), Rel Γ N0 w0 ρ h w → VRs ρ args us.toList →
    ∃ u w' ρ', (callFunc f us).run P w = .ok (.value u) w' ∧ Ext ρ ρ' ∧ Rel Γ N0 w0 ρ' h' w' ∧ VR ρ' r u

structure CtxOk (C : Cfg) : Prop where
  ctx : ∀ f spec, C.ctx f = some spec → CalleeOk C.P C.Γ f spec
  ext : ∀ f e, C.ext f = some e → ExtOk C.P f e

theorem run_callFunc {P : Program} {w : World} {f : FuncId} {args : Array Value} (h : isBody P f = true) : (callFunc f args).run P w = .ok (.enter f args) w := by
  unfold isBody at h
  split at h
  · rename_i fn hf
    simp only [Bool.and_eq_true, Bool.not_eq_true', beq_eq_false_iff_ne, ne_eq] at h
    have hb : fn.body.isNone = false := by cases hh : fn.body <;> simp_all
    simp only [callFunc, Sem.run_bind, run_program, Result.andThen_ok, hf]
    rw [if_neg (by simpa using h.1), hb]
    rfl
  · cases h

theorem isData_none_all : (∀ (x : V) (ρ : Ren) (u : Value), VR ρ x u → x.isData = true → VR (fun _ => none) x u) := by
  intro x ρ u hv
  have key : ∀ (xs : List V), V.areData xs = true → ∀ x ∈ xs, x.isData = true := by
    intro xs
    induction xs with
    | nil => intro _ x hx; cases hx
    | cons y ys ih =>
      intro h x hx
      simp only [V.areData] at h
      split at h
      · rename_i hy
        rcases List.mem_cons.1 hx with rfl | hx
        · exact hy
        · exact ih h x hx
      · cases h
  induction hv with
  | bool b => intro _; exact .bool b
  | int k n => intro _; exact .int k n
  | str l => intro _; exact .str l
  | nilp => intro _; exact .nilp
  | nils => intro _; exact .nils
  | nilmap => intro _; exact .nilmap
  | nilfn => intro _; exact .nilfn
  | nilif => intro _; exact .nilif
  | any u => intro _; exact .any u
  | mod m i k h => intro _; exact .mod m i k h
  | anyb b => intro _; exact .anyb b
  | agg xs us hn hr ih =>
    intro h
    have h' : V.areData xs = true := by simpa [V.isData] using h
    exact .agg _ _ hn fun i x u hx hu => ih i x u hx hu (key xs h' x (List.mem_of_getElem? hx))
  | tup xs us hn hr ih =>
    intro h
    have h' : V.areData xs = true := by simpa [V.isData] using h
    exact .tup _ _ hn fun i x u hx hu => ih i x u hx hu (key xs h' x (List.mem_of_getElem? hx))
  | _ => intro h; simp [V.isData] at h

theorem areData_VRs {ρ : Ren} {xs : List V} {us : List Value} (h : V.areData xs = true) (hv : VRs ρ xs us) : VRs (fun _ => none) xs us := by
  induction xs generalizing us with
  | nil => rw [hv.nil_inv]; exact .nil _
  | cons x xs ih =>
    obtain ⟨u, us', rfl, h1, h2⟩ := hv.cons_inv
    simp only [V.areData] at h
    split at h
    · rename_i hx
      exact .cons (isData_none_all x ρ u h1 hx) (ih h h2)
    · cases h

section
variable {C : Cfg} {N0 : Nat} {w0 : Fr} {ρ : Ren} {h : Hp} {w : World}

/-- what follows an operation -/
def After (C : Cfg) (N0 : Nat) (w0 : Fr) (ρ : Ren) (h : Hp) (x : V) (h' : Option Hp) (o : Oper) (a : Act) (next : Act → World → Prop) : Prop :=
  ∀ u w' ρ', Ext ρ ρ' → Rel C.Γ N0 w0 ρ' (h'.getD h) w' → VR ρ' x u → next (a.put o.dst u) w'

theorem run_v {P : Program} {w : World} (s : Sem Value) : (do pure (Next.value (← s)) : Sem Next).run P w = (s.run P w).andThen fun v w' => .ok (.value v) w' := by
  simp only [Sem.run_bind]; rfl

theorem good_wp {o : Oper} {a : Act} {x : V} {h' : Option Hp} {next : Act → World → Prop} {Q : Exit → Act → World → Prop} {s : Sem Value}
    (hg : Good C.Γ N0 w0 ρ h x h' (s.run C.P w)) (hr : execOp a.eval o = (do pure (Next.value (← s)) : Sem Next)) (hn : After C N0 w0 ρ h x h' o a next) : o.wp C.P a w next Q := by
  obtain ⟨u, w', ρ', h1, h2, h3, h4⟩ := hg
  unfold Oper.wp
  rw [hr, run_v, h1, Result.andThen_ok, Oper.upon_value]
  exact hn u w' ρ' h2 h3 h4

theorem still_wp (H : Rel C.Γ N0 w0 ρ h w) {o : Oper} {a : Act} {x : V} {next : Act → World → Prop} {Q : Exit → Act → World → Prop} {s : Sem Value}
    (hg : ∃ y, s.run C.P w = .ok y w ∧ VR ρ x y) (hr : execOp a.eval o = (do pure (Next.value (← s)) : Sem Next)) (hn : After C N0 w0 ρ h x none o a next) : o.wp C.P a w next Q := by
  obtain ⟨y, h1, h2⟩ := hg
  exact good_wp (s := s) ⟨y, w, ρ, h1, .refl _, H, h2⟩ hr hn

theorem still_inv {v : Option V} {x : V} {h' : Option Hp} (hs : still v = some (x, h')) : v = some x ∧ h' = none := by
  cases v with
  | none => cases hs
  | some v => simp only [still, Option.some.injEq, Prod.mk.injEq] at hs; obtain ⟨rfl, rfl⟩ := hs; exact ⟨rfl, rfl⟩

theorem callee_wp {f : FuncId} {spec : Spec} (hc : CalleeOk C.P C.Γ f spec) {args : List V} {h0 h1 : Hp} {r : V} (hs : spec args h0 = some (r, h1)) {N1 : Nat} {w1 : Fr} {ρ1 : Ren} {us : Array Value} (H : Rel C.Γ N1 w1 ρ1 h0 w) (hv : VRs ρ1 args us.toList)
    {o : Oper} {a : Act} {next : Act → World → Prop} {Q : Exit → Act → World → Prop} (hres : (execOp a.eval o).run C.P w = (callFunc f us).run C.P w)
    (hn : ∀ u w' ρ', Ext ρ1 ρ' → Rel C.Γ N1 w1 ρ' h1 w' → VR ρ' r u → next (a.put o.dst u) w') : o.wp C.P a w next Q := by
  unfold Oper.wp
  rw [hres]
  rcases hc with ⟨hb, hsound⟩ | hx
  · rw [run_callFunc hb, Oper.upon_enter]
    refine (hsound _ _ _ _ hs N1 w1 ρ1 w us H hv).mono ?_
    rintro e w' ⟨ρ', v, rfl, k0, k1, k2⟩
    exact hn v w' ρ' k0 k1 k2
  · obtain ⟨u, w', ρ', h1, h2, h3, h4⟩ := hx _ _ _ _ hs N1 w1 ρ1 w us H hv
    rw [h1, Oper.upon_value]
    exact hn u w' ρ' h2 h3 h4

theorem areSym_get : ∀ {xs : List V} {i : Nat} {x : V}, V.areSym xs = true → xs[i]? = some x → x.isSym = true
  | [], i, x, _, hx => by simp at hx
  | y :: r, i, x, h, hx => by
    rw [V.areSym] at h
    split at h
    · rename_i hy
      cases i with
      | zero => simp at hx; subst hx; exact hy
      | succ i => exact areSym_get h (by simpa using hx)
    · cases h
theorem tops_get : ∀ {xs : List V} {i : Nat} {x : V}, xs[i]? = some x → x.top ≤ V.tops xs
  | [], i, x, hx => by simp at hx
  | y :: r, i, x, hx => by
    rw [V.tops]
    cases i with
    | zero => simp at hx; subst hx; exact Nat.le_max_left _ _
    | succ i => exact Nat.le_trans (tops_get (xs := r) (by simpa using hx)) (Nat.le_max_right _ _)
theorem topT_get : ∀ {ts : List LT} {t : LT}, t ∈ ts → t.a < topT ts
  | [], t, h => by cases h
  | u :: r, t, h => by
    rw [topT]
    rcases List.mem_cons.1 h with rfl | h
    · exact Nat.le_max_left _ _
    · exact Nat.lt_of_lt_of_le (topT_get h) (Nat.le_max_right _ _)

/-- what is told by the places below a number stands there -/
theorem VR.move {ρ1 ρ2 : Ren} {K : Nat} (hK : ∀ a, a < K → ρ1 a = ρ2 a) {x : V} {u : Value} (h : VR ρ1 x u) : x.isSym = true → x.top ≤ K → VR ρ2 x u := by
  induction h with
  | bool b => intro _ _; exact .bool b
  | int k n => intro _ _; exact .int k n
  | str l => intro _ _; exact .str l
  | nilp => intro _ _; exact .nilp
  | anyp p => intro _ _; exact .anyp p
  | ptr a o L h => intro hs; cases hs
  | gp g o => intro _ _; exact .gp g o
  | nils => intro _ _; exact .nils
  | sl a o n sz c L h hc hl => intro hs; cases hs
  | sl0 a o sz x => intro hs; cases hs
  | nilmap => intro _ _; exact .nilmap
  | mp a L h => intro hs; cases hs
  | nilfn => intro _ _; exact .nilfn
  | fn f xs ys us vs hn hm hx hy ih1 ih2 => intro hs; cases hs
  | nilif => intro _ _; exact .nilif
  | iface t x u h ih => intro hs; cases hs
  | agg xs us hn hr ih =>
    intro hs ht
    rw [V.isSym] at hs; rw [V.top] at ht
    exact .agg xs us hn fun i x u hx hu => ih i x u hx hu (areSym_get hs hx) (Nat.le_trans (tops_get hx) ht)
  | tup xs us hn hr ih =>
    intro hs ht
    rw [V.isSym] at hs; rw [V.top] at ht
    exact .tup xs us hn fun i x u hx hu => ih i x u hx hu (areSym_get hs hx) (Nat.le_trans (tops_get hx) ht)
  | any u => intro _ _; exact .any u
  | mod m i k h => intro _ _; exact .mod m i k h
  | anyb b => intro _ _; exact .anyb b
  | lin k c ts n h hn =>
    intro _ ht
    rw [V.top] at ht
    have hsum : ∀ (l : List LT), (∀ t ∈ l, t.a < K) → sumR ρ2 l = sumR ρ1 l := by
      intro l
      induction l with
      | nil => intro _; rfl
      | cons t r ih =>
        intro hl
        have e : valR ρ2 t.a = valR ρ1 t.a := by unfold valR; rw [hK _ (hl t (List.mem_cons_self ..))]
        rw [sumR, sumR, e, ih fun t ht => hl t (List.mem_cons_of_mem _ ht)]
    refine .lin k c ts n (fun t hm => ?_) (by rw [hsum ts fun t hm => Nat.lt_of_lt_of_le (topT_get hm) ht]; exact hn)
    obtain ⟨L, h1, h2⟩ := h t hm
    exact ⟨L, by rw [← hK _ (Nat.lt_of_lt_of_le (topT_get hm) ht)]; exact h1, h2⟩
  | sstr xs bs hn hr ih =>
    intro hs ht
    rw [V.isSym] at hs; rw [V.top] at ht
    exact .sstr xs bs hn fun i x b hx hb => ih i x b hx hb (areSym_get hs hx) (Nat.le_trans (tops_get hx) ht)

theorem opSym_wp (H : Rel C.Γ N0 w0 ρ h w) {f : FuncId} {spec : Spec} (hc : CalleeOk C.P C.Γ f spec) {l : List V} {x : V} {h' : Option Hp} (hs : opSym spec l = some (x, h')) {us : Array Value} (hv : VRs ρ l us.toList)
    {o : Oper} {a : Act} {next : Act → World → Prop} {Q : Exit → Act → World → Prop} (hres : (execOp a.eval o).run C.P w = (callFunc f us).run C.P w) (hn : After C N0 w0 ρ h x h' o a next) : o.wp C.P a w next Q := by
  unfold opSym at hs
  split at hs
  · rename_i hsym
    split at hs
    · rename_i r hh hr
      split at hs
      · rename_i hrs hrt
        simp only [Option.some.injEq, Prod.mk.injEq] at hs; obtain ⟨rfl, rfl⟩ := hs
        have hrt := Nat.le_of_ble_eq_true hrt
        have hcut : ∀ a, a < V.tops l → ρ a = (fun a => if a < V.tops l then ρ a else none) a := fun a ha => by simp only [if_pos ha]
        have H0 := Rel.startK H.globNow (V.tops l) (fun a => if a < V.tops l then ρ a else none) (fun a ha => if_neg (by omega)) (fun a L hL => by
          split at hL
          · exact H.lt a L hL
          · cases hL)
        refine callee_wp hc hr H0 ⟨hv.1, fun i x u hx hu => (hv.2 i x u hx hu).move hcut (areSym_get hsym hx) (tops_get hx)⟩ hres ?_
        intro v w' ρ' _ k1 k2
        refine hn v w' ρ (.refl _) (H.grow k1.below) (k2.move (K := V.tops l) (fun a ha => ?_) hrs hrt)
        rw [hcut a ha]
        exact k1.old.2 a ha
      · cases hs
    · cases hs
  · cases hs

theorem opCall_sound (hctx : CtxOk C) (H : Rel C.Γ N0 w0 ρ h w) {f : V} {args : List V} {uf : Value} {us : Array Value} {x : V} {h' : Option Hp} (hf : VR ρ f uf) (hv : VRs ρ args us.toList) (hs : opCall C f args h = some (x, h'))
    {o : Oper} {a : Act} {next : Act → World → Prop} {Q : Exit → Act → World → Prop} {oa : Array Operand} {fo : Operand} {at' : Array TypeId} (hop : o.op = .call { callee := .value fo, args := oa, argTypes := at' }) (hfo : a.eval fo = uf) (hoa : oa.map a.eval = us)
    (hn : After C N0 w0 ρ h x h' o a next) : o.wp C.P a w next Q := by
  unfold opCall at hs
  split at hs
  · rename_i g xs ys
    cases hf with
    | fn _ _ _ vs1 vs2 hn1 hn2 hx hy =>
    have hx' : VRs ρ xs vs1.toList := ⟨by simpa using hn1, fun i x u h1 h2 => hx i x u h1 (by simpa using h2)⟩
    have hy' : VRs ρ ys vs2.toList := ⟨by simpa using hn2, fun i x u h1 h2 => hy i x u h1 (by simpa using h2)⟩
    have hall : VRs ρ (xs ++ (args ++ ys)) ((vs1 ++ us) ++ vs2).toList := by
      have := hx'.append (hv.append hy')
      simpa using this
    have hres : (execOp a.eval o).run C.P w = (callFunc g ((vs1 ++ us) ++ vs2)).run C.P w := by
      unfold execOp
      rw [hop]
      simp only [resolve, hfo, hoa, Deferred.ofValue, Sem.run_bind, Sem.run_pure, Result.andThen_ok, invoke]
    split at hs
    · rename_i spec hsp
      have hcal := hctx.ctx g spec hsp
      have hall0 : V.areData xs = true → V.areData args = true → V.areData ys = true → VRs (fun _ => none) (xs ++ (args ++ ys)) ((vs1 ++ us) ++ vs2).toList := fun d1 d2 d3 => by
        have := (areData_VRs d1 hx').append ((areData_VRs d2 hv).append (areData_VRs d3 hy'))
        simpa using this
      split at hs
      · split at hs
        · rename_i d1 d2 d3
          split at hs
          · rename_i r hh hr
            split at hs
            · rename_i hrd
              simp only [Option.some.injEq, Prod.mk.injEq] at hs; obtain ⟨rfl, rfl⟩ := hs
              refine callee_wp hcal hr (Rel.start H.globNow) (hall0 d1 d2 d3) hres ?_
              intro v w' ρ' _ k1 k2
              exact hn v w' ρ (.refl _) (H.grow k1.below) ((isData_none_all _ _ _ k2 hrd).empty)
            · cases hs
          · cases hs
        · exact opSym_wp H hcal hs hall hres hn
      · split at hs
        · rename_i hcl
          simp only [Bool.and_eq_true] at hcl
          obtain ⟨_, d1, d2, d3⟩ := hcl
          split at hs
          · rename_i r h0 hr
            simp only [Option.some.injEq, Prod.mk.injEq] at hs; obtain ⟨rfl, rfl⟩ := hs
            refine callee_wp hcal hr (Rel.start H.globNow) (hall0 d1 d2 d3) hres ?_
            intro v w' ρ' _ k1 k2
            exact hn v w' _ (join_ext H) (H.beside (k1.gc r)) k2.shift
          · cases hs
        split at hs
        · rename_i r hh hr
          simp only [Option.some.injEq, Prod.mk.injEq] at hs; obtain ⟨rfl, rfl⟩ := hs
          exact callee_wp hcal hr H hall hres fun v w' ρ' k0 k1 k2 => hn v w' ρ' k0 k1 k2
        · cases hs
    · split at hs
      · rename_i e he
        split at hs
        · rename_i r hr
          simp only [Option.some.injEq, Prod.mk.injEq] at hs; obtain ⟨rfl, rfl⟩ := hs
          obtain ⟨u, h1, h2⟩ := hctx.ext g e he _ _ hr ρ w _ hall
          unfold Oper.wp
          rw [hres, h1, Oper.upon_value]
          exact hn u w ρ (.refl _) H h2
        · cases hs
      · cases hs
  · cases hs

theorem two_args {ρ : Ren} {ev : Operand → Value} {l : List Operand} {x y : V} (h1 : [x, y].length = l.length) (h2 : ∀ (i : Nat) a b, [x, y][i]? = some a → (l.map ev)[i]? = some b → VR ρ a b) :
    ∃ x0 y0, l = [x0, y0] ∧ VR ρ x (ev x0) ∧ VR ρ y (ev y0) := by
  cases l with
  | nil => simp at h1
  | cons x0 r =>
    cases r with
    | nil => simp at h1
    | cons y0 r =>
      cases r with
      | nil => exact ⟨x0, y0, rfl, h2 0 _ _ rfl rfl, h2 1 _ _ rfl rfl⟩
      | cons _ _ => simp at h1

theorem one_arg {ρ : Ren} {ev : Operand → Value} {l : List Operand} {x : V} (h1 : [x].length = l.length) (h2 : ∀ (i : Nat) a b, [x][i]? = some a → (l.map ev)[i]? = some b → VR ρ a b) :
    ∃ x0, l = [x0] ∧ VR ρ x (ev x0) := by
  cases l with
  | nil => simp at h1
  | cons x0 r =>
    cases r with
    | nil => exact ⟨x0, rfl, h2 0 _ _ rfl rfl⟩
    | cons _ _ => simp at h1

theorem zip_get {α β : Type} {l : List α} {m : List β} {i : Nat} {x : α × β} (h : (l.zip m)[i]? = some x) : l[i]? = some x.1 ∧ m[i]? = some x.2 := by
  rw [List.getElem?_zip_eq_some] at h; exact h

theorem toArray_of_toList {α : Type} {a : Array α} {l : List α} (h : a.toList = l) : a = l.toArray := by
  apply Array.toList_inj.1; simpa using h

theorem parts_ok {ev : Operand → Value} {rd : Operand → Option V} (hρ : ∀ x v, rd x = some v → VR ρ v (ev x)) {parts : Array (Nat × Operand)} {vs : List V} (hvs : rdAll rd (parts.toList.map (·.2)) = some vs) :
    ((parts.toList.map (·.1)).zip vs).length = ((parts.toList.map (·.1)).zip ((parts.toList.map (·.2)).map ev)).length ∧
    (∀ (k : Nat) a b, ((parts.toList.map (·.1)).zip vs)[k]? = some a → ((parts.toList.map (·.1)).zip ((parts.toList.map (·.2)).map ev))[k]? = some b → a.1 = b.1 ∧ VR ρ a.2 b.2) ∧
    ((parts.toList.map (·.1)).zip ((parts.toList.map (·.2)).map ev)).toArray = (parts.map fun (i, x) => (i, ev x)) := by
  obtain ⟨l1, l2⟩ := rdAll_sound hρ _ _ hvs
  refine ⟨by simp at l1 ⊢; omega, fun k a b ha hb => ?_, ?_⟩
  · obtain ⟨a1, a2⟩ := zip_get ha
    obtain ⟨b1, b2⟩ := zip_get hb
    rw [a1] at b1
    exact ⟨by simpa using b1, l2 k _ _ a2 b2⟩
  · apply Array.toList_inj.1
    simp [List.zip_map', List.map_map]

theorem opVal_sound (hctx : CtxOk C) (H : Rel C.Γ N0 w0 ρ h w) {rd : Operand → Option V} {o : Oper} {a : Act} (hρ : ∀ x v, rd x = some v → VR ρ v (a.eval x)) {x : V} {h' : Option Hp} (hs : opVal C rd h o.op = some (x, h'))
    {next : Act → World → Prop} {Q : Exit → Act → World → Prop} (hn : After C N0 w0 ρ h x h' o a next) : o.wp C.P a w next Q := by
  unfold opVal at hs
  split at hs
  · -- load
    rename_i T ad hop
    split at hs
    · rename_i v hv
      obtain ⟨hs2, hh2⟩ := still_inv hs; clear hs; subst hh2; have hs := hs2; clear hs2
      exact still_wp H (opLoad_sound H (hρ _ _ hv) hs) (by unfold execOp; rw [hop]) hn
    · cases hs
  · -- store
    rename_i T ad y hop
    split at hs
    · rename_i va vv hva hvv
      split at hs
      · rename_i h1 hst
        simp only [Option.some.injEq, Prod.mk.injEq] at hs; obtain ⟨rfl, rfl⟩ := hs
        obtain ⟨w', r1, r2⟩ := opStore_sound (P := C.P) H (hρ _ _ hva) (hρ _ _ hvv) hst
        unfold Oper.wp execOp
        rw [hop]
        simp only [Sem.run_bind, r1, Result.andThen_ok]
        show o.upon C.P a next Q (.ok .skip w')
        rw [Oper.upon_skip]
        exact hn undef w' ρ (.refl _) r2 (VRs.tup (.nil _))
      · cases hs
    · cases hs
  · rename_i T hop
    exact good_wp (opAlloc_sound H hs) (by unfold execOp; rw [hop]) hn
  · rename_i T y hop
    split at hs
    · rename_i v hv
      split at hs
      · cases hs
      · rename_i hna
        have e := hs
        simp only [Option.some.injEq] at e
        have hg := opBox_sound (P := C.P) (T := T) H (hρ _ _ hv) hna
        rw [e] at hg
        exact good_wp hg (by unfold execOp; rw [hop]) hn
    · cases hs
  · rename_i T len parts hop
    split at hs
    · rename_i vs hvs
      split at hs
      · cases hs
      obtain ⟨p1, p2, p3⟩ := parts_ok hρ hvs
      have := opBuildSlice_sound (P := C.P) H p1 p2 hs
      rw [p3] at this
      exact good_wp this (by unfold execOp; rw [hop]) hn
    · cases hs
  · rename_i T l c hop
    split at hs
    · rename_i vl vc hl hc
      exact good_wp (opMakeSlice_sound H (hρ _ _ hl) (hρ _ _ hc) hs) (by unfold execOp; rw [hop]) hn
    · cases hs
  · rename_i T y hop
    split at hs
    · rename_i v hv
      exact good_wp (opRange_sound H (hρ _ _ hv) hs) (by unfold execOp; rw [hop]) hn
    · cases hs
  · rename_i y hop
    split at hs
    · rename_i v hv
      exact good_wp (opNext_sound H (hρ _ _ hv) hs) (by unfold execOp; rw [hop]) hn
    · cases hs
  · rename_i src dst y hop
    split at hs
    · rename_i v hv
      split at hs
      · rename_i r hr
        simp only [Option.some.injEq] at hs; subst hs
        exact good_wp (opBytesOf_sound H (hρ _ _ hv) hr) (by unfold execOp; rw [hop]) hn
      · split at hs
        · rename_i r hr
          simp only [Option.some.injEq, Prod.mk.injEq] at hs; obtain ⟨rfl, rfl⟩ := hs
          exact still_wp H (opStrOf_sound H (hρ _ _ hv) hr) (by unfold execOp; rw [hop]) hn
        · split at hs
          · rename_i r hr
            simp only [Option.some.injEq, Prod.mk.injEq] at hs; obtain ⟨rfl, rfl⟩ := hs
            exact still_wp H (opConvPtr_sound H (hρ _ _ hv) hr) (by unfold execOp; rw [hop]) hn
          · obtain ⟨hs2, hh2⟩ := still_inv hs; clear hs; subst hh2; have hs := hs2; clear hs2
            exact still_wp H (opConvX_sound (hρ _ _ hv) hs) (by unfold execOp; rw [hop]) hn
    · cases hs
  · rename_i T y lo hi hop
    split at hs
    · rename_i va vl vh ha hl hh
      split at hs
      · rename_i r hr
        simp only [Option.some.injEq, Prod.mk.injEq] at hs; obtain ⟨rfl, rfl⟩ := hs
        exact still_wp H (opSliceArr_sound H (hρ _ _ ha) (optRd_sound hρ hl) (optRd_sound hρ hh) hr) (by unfold execOp; rw [hop]; rfl) hn
      · obtain ⟨hs2, hh2⟩ := still_inv hs; clear hs; subst hh2; have hs := hs2; clear hs2
        exact still_wp H (opSliceX_sound (hρ _ _ ha) (optRd_sound hρ hl) (optRd_sound hρ hh) hs) (by unfold execOp; rw [hop]; rfl) hn
    · cases hs
  · rename_i T y lo hi mx hop
    split at hs
    · rename_i va vl vh ha hl hh
      split at hs
      · rename_i vm hm
        obtain ⟨hs2, hh2⟩ := still_inv hs; clear hs; subst hh2; have hs := hs2; clear hs2
        exact still_wp H (opSlice3_sound (vmx := some (a.eval mx)) (hρ _ _ ha) (optRd_sound hρ hl) (optRd_sound hρ hh) (show OptVR ρ (some vm) (some (a.eval mx)) from hρ _ _ hm) hs) (by unfold execOp; rw [hop]; rfl) hn
      · cases hs
    · cases hs
  · rename_i args argTypes hop
    split at hs
    · rename_i vx vy sT hvs h0
      obtain ⟨l1, l2⟩ := rdAll_sound hρ _ _ hvs
      obtain ⟨x0, y0, hl, g1, g2⟩ := two_args l1 l2
      have ha := toArray_of_toList hl
      subst ha
      split at hs
      · rename_i e h1
        split at hs
        · rename_i hpl
          have := opAppendE_sound (P := C.P) (T := o.type) H g1 g2 h0 h1 hpl hs
          exact good_wp (s := Builtin.append_ argTypes o.type ([x0, y0].toArray.map a.eval)) (by simpa using this) (by unfold execOp; rw [hop]; rfl) hn
        · cases hs
      · cases hs
    · cases hs
  · rename_i args argTypes hop
    split at hs
    · rename_i vx vy hvs
      obtain ⟨l1, l2⟩ := rdAll_sound hρ _ _ hvs
      obtain ⟨x0, y0, hl, g1, g2⟩ := two_args l1 l2
      have ha := toArray_of_toList hl
      subst ha
      split at hs
      · rename_i hpt
        have := opUnsafeString_sound (P := C.P) (T := o.type) H g1 g2 hs (by cases argTypes with | mk l => cases l with | nil => cases hpt | cons q r => exact ⟨q, rfl⟩)
        exact good_wp (s := Builtin.unsafeString_ argTypes o.type ([x0, y0].toArray.map a.eval)) (by simpa using this) (by unfold execOp; rw [hop]; rfl) hn
      · cases hs
    · cases hs
  · -- len
    rename_i args argTypes hop
    split at hs
    · rename_i vx hvs
      obtain ⟨l1, l2⟩ := rdAll_sound hρ _ _ hvs
      obtain ⟨x0, hl, g1⟩ := one_arg l1 l2
      have ha := toArray_of_toList hl
      subst ha
      split at hs
      · obtain ⟨hs2, hh2⟩ := still_inv hs; clear hs; subst hh2; have hs := hs2; clear hs2
        have := opLenMap_sound (P := C.P) (T := o.type) H g1 hs
        exact still_wp H (s := Builtin.len_ argTypes o.type ([x0].toArray.map a.eval)) (by simpa using this) (by unfold execOp; rw [hop]; rfl) hn
      · obtain ⟨hs2, hh2⟩ := still_inv hs; clear hs; subst hh2; have hs := hs2; clear hs2
        have := opLenX_sound (P := C.P) (w := w) (T := o.type) g1 hs
        exact still_wp H (s := Builtin.len_ argTypes o.type ([x0].toArray.map a.eval)) (by simpa using this) (by unfold execOp; rw [hop]; rfl) hn
    · cases hs
  · -- clear
    rename_i args argTypes hop
    split at hs
    · rename_i vx hvs
      obtain ⟨l1, l2⟩ := rdAll_sound hρ _ _ hvs
      obtain ⟨x0, hl, g1⟩ := one_arg l1 l2
      have ha := toArray_of_toList hl
      subst ha
      split at hs
      · rename_i h1 hst
        simp only [Option.some.injEq, Prod.mk.injEq] at hs; obtain ⟨rfl, rfl⟩ := hs
        have := opClear_sound (P := C.P) (T := o.type) H g1 hst
        exact good_wp (s := Builtin.clear_ argTypes o.type ([x0].toArray.map a.eval)) (by simpa using this) (by unfold execOp; rw [hop]; rfl) hn
      · cases hs
    · cases hs
  · -- makeMap
    rename_i T r hop
    split at hs
    · rename_i hr
      simp only [Option.some.injEq] at hs
      obtain rfl : r = none := by
        cases r with
        | none => rfl
        | some y => simp only [optRd, Option.map_eq_some_iff] at hr; obtain ⟨_, _, hh⟩ := hr; cases hh
      have hg := opMakeMap_sound (P := C.P) (T := T) (r := none) H (fun u hu => by cases hu)
      rw [hs] at hg
      exact good_wp hg (by unfold execOp; rw [hop]; rfl) hn
    · rename_i k n kt et hr hT
      simp only [Option.some.injEq] at hs
      cases r with
      | none => simp only [optRd, Option.some.injEq] at hr; cases hr
      | some y =>
        simp only [optRd, Option.map_eq_some_iff] at hr
        obtain ⟨z, hz, hh⟩ := hr
        simp only [Option.some.injEq] at hh; subst hh
        have hi := (hρ _ _ hz).int_inv
        have hg := opMakeMap_sound (P := C.P) (T := T) (r := some (a.eval y)) H (fun u hu => by
          simp only [Option.some.injEq] at hu; subst hu
          exact ⟨k, n, hi, kt, et, hT⟩)
        rw [hs] at hg
        exact good_wp hg (by unfold execOp; rw [hop]; rfl) hn
    · cases hs
  · -- lookup
    rename_i T m k ok hop
    split at hs
    · rename_i va vb ha hb
      obtain ⟨hs2, hh2⟩ := still_inv hs; clear hs; subst hh2; have hs := hs2; clear hs2
      exact still_wp H (opLookup_sound H (hρ _ _ ha) (hρ _ _ hb) hs) (by unfold execOp; rw [hop]) hn
    · cases hs
  · -- mapUpdate
    rename_i T m k v hop
    split at hs
    · rename_i va vb vc ha hb hc
      split at hs
      · rename_i h1 hst
        simp only [Option.some.injEq, Prod.mk.injEq] at hs; obtain ⟨rfl, rfl⟩ := hs
        obtain ⟨w', r1, r2⟩ := opMapUpdate_sound (P := C.P) H (hρ _ _ ha) (hρ _ _ hb) (hρ _ _ hc) hst
        unfold Oper.wp execOp
        rw [hop]
        simp only [Sem.run_bind, r1, Result.andThen_ok]
        show o.upon C.P a next Q (.ok .skip w')
        rw [Oper.upon_skip]
        exact hn undef w' ρ (.refl _) r2 (VRs.tup (.nil _))
      · cases hs
    · cases hs
  · -- insert
    rename_i T m k v hop
    split at hs
    · rename_i va vb vc ha hb hc
      split at hs
      · rename_i h1 hst
        simp only [Option.some.injEq, Prod.mk.injEq] at hs; obtain ⟨rfl, rfl⟩ := hs
        obtain ⟨w', r1, r2⟩ := opMapUpdate_sound (P := C.P) H (hρ _ _ ha) (hρ _ _ hb) (hρ _ _ hc) hst
        unfold Oper.wp execOp
        rw [hop]
        simp only [Sem.run_bind, r1, Result.andThen_ok]
        show o.upon C.P a next Q (.ok .skip w')
        rw [Oper.upon_skip]
        exact hn undef w' ρ (.refl _) r2 (VRs.tup (.nil _))
      · cases hs
    · cases hs
  · rename_i fo args argTypes hop
    split at hs
    · rename_i vf vs hf hvs
      obtain ⟨l1, l2⟩ := rdAll_sound hρ _ _ hvs
      exact opCall_sound hctx H (hρ _ _ hf) (us := args.map a.eval) ⟨by simpa using l1, fun i x u hx hu => l2 i x u hx (by simpa using hu)⟩ hs hop rfl rfl hn
    · cases hs
  · obtain ⟨hs2, hh2⟩ := still_inv hs; clear hs; subst hh2; have hs := hs2; clear hs2
    unfold opRest at hs
    split at hs
    · rename_i T parts hop
      split at hs
      · rename_i vs hvs
        obtain ⟨p1, p2, p3⟩ := parts_ok hρ hvs
        have := opBuild_sound (P := C.P) (w := w) p1 p2 hs
        rw [p3] at this
        exact still_wp H this (by unfold execOp; rw [hop]) hn
      · cases hs
    · rename_i args argTypes hop
      split at hs
      · rename_i vx hvs
        obtain ⟨l1, l2⟩ := rdAll_sound hρ _ _ hvs
        obtain ⟨x0, hl, g1⟩ := one_arg l1 l2
        have ha := toArray_of_toList hl
        subst ha
        have := opSliceData_sound (P := C.P) (w := w) (argTypes := argTypes) (T := o.type) g1 hs
        exact still_wp H (s := Builtin.unsafeSliceData_ argTypes o.type ([x0].toArray.map a.eval)) (by simpa using this) (by unfold execOp; rw [hop]; rfl) hn
      · cases hs
    · rename_i args argTypes hop
      split at hs
      · rename_i vx hvs
        obtain ⟨l1, l2⟩ := rdAll_sound hρ _ _ hvs
        obtain ⟨x0, hl, g1⟩ := one_arg l1 l2
        have ha := toArray_of_toList hl
        subst ha
        have := opCapNil_sound (P := C.P) (w := w) (argTypes := argTypes) (T := o.type) g1 hs
        exact still_wp H (s := Builtin.cap_ argTypes o.type ([x0].toArray.map a.eval)) (by simpa using this) (by unfold execOp; rw [hop]; rfl) hn
      · cases hs
    · rename_i args argTypes hop
      split at hs
      · rename_i vx vy hvs
        obtain ⟨l1, l2⟩ := rdAll_sound hρ _ _ hvs
        obtain ⟨x0, y0, hl, g1, g2⟩ := two_args l1 l2
        have ha := toArray_of_toList hl
        subst ha
        have := opCopyNil_sound (P := C.P) (w := w) (argTypes := argTypes) (T := o.type) g1 g2 hs
        exact still_wp H (s := Builtin.copy_ argTypes o.type ([x0, y0].toArray.map a.eval)) (by simpa using this) (by unfold execOp; rw [hop]; rfl) hn
      · cases hs
    · obtain ⟨y, hr, ho⟩ := popS_sound (w := w) hρ hs
      unfold Oper.wp
      rw [hr, Oper.upon_value]
      exact hn y w ρ (.refl _) H ho

end
end Go.Proofs.YtbfdgdigaiimgaaDoor.HM
