/- The heap machine, 11: code, functions, the whole program. -/
import Derived.Test.YtbfdgdigaiimgaaDoorH10
import Derived.LoopNIn
import Derived.OrdersIn
import Derived.TacticsIn
import Derived.RangeFuncLeaves
import Derived.RangeFuncRecord
namespace Go.Proofs.YtbfdgdigaiimgaaDoor.HM
open Go Go.RowKit

def AX.to : AX → Exit
  | .normal => .normal
  | .exit id => .exit id
  | .goto l => .goto l
  | .ret => .ret

/-! ## Regions within fences: the wide one, and a round's in it -/

def FW (r : Option Nat) : Fence := { Fence.wide with round := r }

section
variable {P : Program} {r : Option Nat} {m : Nat} {ops : Array Oper} {Q : Exit → Act → World → Prop}

theorem callsIn_fw {f : FuncId} {args : Array Value} {w : World} {R : Ending → World → Prop} : CallsIn (FW r) m P f args w R ↔ Calls P f args w R := callsIn_wide (n := m)
theorem rowsIn_fw {row : String} {args : Array Value} {w : World} {R : Value → World → Prop} (h : Rows P row args w R) : RowsIn (FW r) m P row args w R :=
  fun c cs _ => let ⟨v, w', q, s⟩ := h c cs; ⟨v, w', q, stepsIn_wide.2 s⟩
theorem no_depth {p : Prop} : (FW r).depth.isSome = true → p := fun h => by cases h

theorem notDefer_spec {o : Op} (h : notDefer o = true) : ∀ c, o ≠ .defer c := fun c e => by subst e; cases h

theorem wp_in {o : Oper} {a : Act} {w : World} {K : Act → World → Prop} (hnd : notDefer o.op = true) (h : o.wp P a w K Q) : o.wpIn (FW r) m P a w K Q := by
  refine ⟨fun f _ => trivial, ?_⟩
  unfold Oper.wp at h
  rw [Oper.semAt_eq _ _ _ (notDefer_spec hnd)]
  generalize (execOp a.eval o).run P w = x at *
  cases x with
  | ok x w' =>
    cases x <;> simp only [Oper.upon, Oper.uponIn] at h ⊢ <;>
      first
        | exact h
        | exact ⟨no_depth, callsIn_fw.2 h⟩
        | exact ⟨no_depth, rowsIn_fw h⟩
        | exact h.elim
  | halt x w' => cases x <;> simp only [Oper.upon, Oper.uponIn] at h ⊢ <;> exact h

theorem wpOp_in (hnd : ∀ o ∈ ops.toList, notDefer o.op = true) (hQ : ¬ LetsOut Q) {i : Nat} {K K' : Act → World → Prop} {a : Act} {w : World} (hK : ∀ a w, K a w → K' a w) (h : wpOp P ops Q i K a w) : wpOpIn (FW r) m P ops Q i K' a w := by
  unfold wpOp at h
  unfold wpOpIn
  split
  · rename_i ho
    rw [ho] at h
    exact hK _ _ h
  · rename_i o ho
    rw [ho] at h
    simp only at h
    split
    · rename_i hw
      rw [if_pos hw] at h
      rcases h with h | ⟨_, h⟩
      · exact wp_in (hnd o (List.mem_of_getElem? (i := i) (by simpa using ho))) (Oper.wp_mono hK h)
      · exact absurd h hQ
    · rename_i hw
      rw [if_neg hw] at h
      exact ⟨fun _ _ => trivial, hK _ _ h⟩

theorem wpAny_in (hnd : ∀ o ∈ ops.toList, notDefer o.op = true) (hQ : ¬ LetsOut Q) : ∀ (fuel : Nat) (listed : Array Bool) (a : Act) (w : World), wpAny P .any ops Q fuel listed a w → wpAnyIn (FW r) m P .any ops Q fuel listed a w := by
  intro fuel
  induction fuel with
  | zero => intro listed a w h; exact h
  | succ fuel ih =>
    intro listed a w h
    exact ⟨h.1, fun i hi => wpOp_in hnd hQ (fun a w hh => ih _ a w hh) (h.2 i hi)⟩

theorem wpList_in (hQ : ¬ LetsOut Q) : ∀ (l : List Oper) (a : Act) (w : World), (∀ o ∈ l, notDefer o.op = true) → wpList P ops Q l a w → wpListIn (FW r) m P ops Q l a w := by
  intro l
  induction l with
  | nil => intro a w _ h; exact h
  | cons o l ih =>
    intro a w hnd h
    have hnd' := fun x hx => hnd x (List.mem_cons_of_mem _ hx)
    simp only [wpList] at h
    simp only [wpListIn]
    split
    · rename_i hw
      rw [if_pos hw] at h
      rcases h with h | ⟨_, h⟩
      · exact wp_in (hnd o List.mem_cons_self) (Oper.wp_mono (fun a w hh => ih a w hnd' hh) h)
      · exact absurd h hQ
    · rename_i hw
      rw [if_neg hw] at h
      exact ⟨fun _ _ => trivial, ih _ _ hnd' h⟩

theorem RegW.wpIn (hm : P.follows .mixedOrders = true) (hnd : ∀ o ∈ ops.toList, notDefer o.op = true) (hQ : ¬ LetsOut Q) {draw : Bool} {id : Nat} {a : Act} {w : World} (h : RegW P ops Q a w draw) : (Code.region id ops draw).wpIn (FW r) m P Q a w := by
  cases draw with
  | false => exact wpIn_region_list (wpList_in hQ _ _ _ hnd h)
  | true => exact wpIn_region_any hm (wpAny_in hnd hQ _ _ _ _ h)
end

section
variable {C : Cfg} {N0 : Nat} {w0 : Fr}

/-- deferred calls that hand over nothing -/
def markOf (b : Nat) : Deferred := { target := .collected b, args := #[] }

def Marks (N0 : Nat) (k : List (Nat × Obj)) (d d' : List Deferred) : Prop := ∃ bs : List Nat, d' = bs.map markOf ++ d ∧ bs.Nodup ∧ ∀ b ∈ bs, (b, Obj.deferred (some [])) ∈ k ∧ N0 ≤ b

theorem Marks.refl (N0 : Nat) (k : List (Nat × Obj)) (d : List Deferred) : Marks N0 k d d := ⟨[], rfl, List.nodup_nil, fun _ h => by cases h⟩
theorem Marks.trans {N0 : Nat} {k k' : List (Nat × Obj)} {a b c : List Deferred} (h : Marks N0 k a b) (h' : Marks N0 k' b c) (hn : ((k' ++ k).map (·.1)).Nodup) : Marks N0 (k' ++ k) a c := by
  obtain ⟨l, rfl, h1, h2⟩ := h
  obtain ⟨l', rfl, h3, h4⟩ := h'
  refine ⟨l' ++ l, by simp, ?_, fun x hx => ?_⟩
  · rw [List.map_append, List.nodup_append] at hn
    rw [List.nodup_append]
    refine ⟨h3, h1, fun x hx y hy => ?_⟩
    exact hn.2.2 x (List.mem_map.2 ⟨_, (h4 x hx).1, rfl⟩) y (List.mem_map.2 ⟨_, (h2 y hy).1, rfl⟩)
  · rcases List.mem_append.1 hx with hx | hx
    · exact ⟨List.mem_append_left _ (h4 x hx).1, (h4 x hx).2⟩
    · exact ⟨List.mem_append_right _ (h2 x hx).1, (h2 x hx).2⟩

def Fr.more (w0 : Fr) (k : List (Nat × Obj)) : Fr := ⟨w0.w, w0.K, w0.r, k ++ w0.keep⟩
theorem Fr.more_nil (w0 : Fr) : w0.more [] = w0 := rfl
theorem Fr.more_more (w0 : Fr) (k k' : List (Nat × Obj)) : (w0.more k).more k' = w0.more (k' ++ k) := by simp [Fr.more]

/-- what holds behind a piece of code -/
def BehindM (C : Cfg) (N0 : Nat) (w0 : Fr) (n : Nat) (ρ : Ren) (e' : Env) (h' : Hp) (a : Act) (K : Act → World → Prop) : Prop :=
  ∀ a' w' ρ' k, EnvR ρ' e' a'.tmps → Ext ρ ρ' → Rel C.Γ N0 (w0.more k) ρ' h' w' → a'.tmps.size = n → Marks N0 k a.defers a'.defers → K a' w'

theorem BehindM.one {n : Nat} {ρ : Ren} {e' : Env} {h' : Hp} {a : Act} {K : Act → World → Prop} (h : BehindM C N0 w0 n ρ e' h' a K) : Behind C N0 w0 n ρ e' h' a K :=
  fun a' w' ρ' z1 z2 z3 z4 z5 => h a' w' ρ' [] z1 z2 z3 z4 (by rw [z5]; exact .refl _ _ _)

theorem BehindM.next {n : Nat} {ρ ρ1 : Ren} {e' : Env} {h' : Hp} {a a1 : Act} {k : List (Nat × Obj)} {K : Act → World → Prop} (h : BehindM C N0 w0 n ρ e' h' a K) (hx : Ext ρ ρ1) (hd : Marks N0 k a.defers a1.defers) : BehindM C N0 (w0.more k) n ρ1 e' h' a1 K :=
  fun a2 w2 ρ2 k' z1 z2 z3 z4 z5 => by
    have e : (w0.more k).more k' = w0.more (k' ++ k) := Fr.more_more _ _ _
    rw [e] at z3
    refine h a2 w2 ρ2 (k' ++ k) z1 (hx.trans z2) z3 z4 (hd.trans z5 ?_)
    have hn : (((k' ++ k) ++ w0.keep).map (·.1)).Nodup := z3.kept.1
    rw [List.map_append, List.nodup_append] at hn
    exact hn.1

theorem loop_sound {b : Code} {r : Option Nat} {m n : Nat} {f : Env → Hp → Option (AX × Env × Hp)}
    (hb : ∀ {w0 : Fr} {Q : Exit → Act → World → Prop} {ρ : Ren} {e e' : Env} {h h' : Hp} {a : Act} {w : World} {x : AX}, EnvR ρ e a.tmps → Rel C.Γ N0 w0 ρ h w → a.tmps.size = n → f e h = some (x, e', h') → BehindM C N0 w0 n ρ e' h' a (Q x.to) → b.wpIn (FW r) m C.P Q a w)
    {Q : Exit → Act → World → Prop} : ∀ (j : Nat) {w0 : Fr} {ρ : Ren} {e e' : Env} {h h' : Hp} {a : Act} {w : World} {x : AX},
    EnvR ρ e a.tmps → Rel C.Γ N0 w0 ρ h w → a.tmps.size = n → loopE f j e h = some (x, e', h') → BehindM C N0 w0 n ρ e' h' a (Q x.to) → Code.roundsIn (FW r) m C.P b Q j a w := by
  intro j
  induction j with
  | zero => intro w0 ρ e e' h h' a w x _ _ _ hr _; cases hr
  | succ j ih =>
    intro w0 ρ e e' h h' a w x he H hn hr hk
    rw [roundsIn_succ]
    simp only [loopE] at hr
    split at hr
    · rename_i e1 h1 hf
      refine hb he H hn hf (Q := Exit.then (Code.roundsIn (FW r) m C.P b Q j) Q) (fun a1 w1 ρ1 k1 z1 z2 z3 z4 z5 => ?_)
      exact ih z1 z3 z4 hr (hk.next z2 z5)
    · rename_i hne
      refine hb he H hn hr (Q := Exit.then (Code.roundsIn (FW r) m C.P b Q j) Q) (fun a1 w1 ρ1 k1 z1 z2 z3 z4 z5 => ?_)
      have := hk a1 w1 ρ1 k1 z1 z2 z3 z4 z5
      cases x with
      | normal => exact absurd hr (hne _ _)
      | exit id => exact this
      | goto l => exact this
      | ret => exact this

theorem lookup_enterE : ∀ (args : List V) (i : Nat) (e : Env) (s : Nat), Env.get (enterE i args e) s = if i ≤ s ∧ s < i + args.length then args.getD (s - i) (.tup []) else Env.get e s := by
  intro args
  induction args with
  | nil => intro i e s; simp only [enterE, List.length_nil]; rw [if_neg (by omega)]
  | cons v r ih =>
    intro i e s
    simp only [enterE, ih, List.length_cons]
    by_cases h : i + 1 ≤ s ∧ s < i + 1 + r.length
    · rw [if_pos h, if_pos (by omega)]
      obtain ⟨k, rfl⟩ : ∃ k, s = i + 1 + k := ⟨s - (i + 1), by omega⟩
      rw [show i + 1 + k - (i + 1) = k by omega, show i + 1 + k - i = k + 1 by omega]
      simp
    · rw [if_neg h]
      have hp := env_get_put e i v s
      simp only [Env.put] at hp
      rw [hp]
      by_cases hs : s = i
      · subst hs; rw [if_pos rfl, if_pos (by omega)]; simp
      · rw [if_neg hs, if_neg (by omega)]

theorem enter_EnvR {ρ : Ren} {args : List V} {us : Array Value} (hv : VRs ρ args us.toList) (m : Nat) : EnvR ρ (enterE 0 args .leaf) (us ++ Array.replicate m undef) := by
  intro s
  have hl : us.size = args.length := by simpa using hv.1.symm
  rw [lookup_enterE]
  by_cases hs : s < args.length
  · rw [if_pos (by omega)]
    have h1 : args[s]? = some args[s] := by simp
    obtain ⟨u, hu, hr⟩ := hv.get h1
    have hu' : us[s]? = some u := by simpa using hu
    rw [Nat.sub_zero, List.getD_eq_getElem?_getD, h1]
    rw [Array.getD_eq_getD_getElem?, Array.getElem?_append_left (by omega), hu']
    exact hr
  · rw [if_neg (by omega)]
    have e1 : Env.get .leaf s = .tup [] := rfl
    rw [e1, Array.getD_eq_getD_getElem?, Array.getElem?_append_right (by omega)]
    have : (Array.replicate m undef)[s - us.size]?.getD undef = undef := by
      rw [Array.getElem?_replicate]; split <;> rfl
    rw [this]; exact undef_VR _

theorem Rel.keepLess {ρ : Ren} {h : Hp} {w : World} {kk : List (Nat × Obj)} (H : Rel C.Γ N0 ⟨w0.w, w0.K, w0.r, kk⟩ ρ h w) (hs : ∀ p ∈ w0.keep, p ∈ kk) (hn : (w0.keep.map (·.1)).Nodup) : Rel C.Γ N0 w0 ρ h w :=
  { H with kept := ⟨hn, fun b o hb => H.kept.2 b o (hs _ hb)⟩ }

/-- a block that the machine does not hold is written anew -/
theorem Rel.putKept {ρ : Ren} {h : Hp} {w : World} (H : Rel C.Γ N0 w0 ρ h w) {b : Nat} {o o' : Obj} (hb : (b, o) ∈ w0.keep) (hN : N0 ≤ b) (hnc : ∀ arr el fr, o ≠ .cells arr el fr) :
    Rel C.Γ N0 ⟨w0.w, w0.K, w0.r, (b, o') :: w0.keep.filter (fun p => !(p.1 == b))⟩ ρ h (w.putObj b o') := by
  obtain ⟨hbo, hout⟩ := H.kept.2 b o hb
  have hlt := (Array.getElem?_eq_some_iff.1 hbo).1
  have hne : ∀ c, c ≠ b → (w.putObj b o').heap[c]? = w.heap[c]? := fun c hc => World.putObj_heap_other hc
  exact {
    below := H.below.trans ⟨rfl, rfl, rfl, by rw [World.putObj_size]; exact Nat.le_refl _, fun c hc => hne c (by omega)⟩
    hN0 := H.hN0
    glob := H.glob
    fresh := H.fresh
    lt := fun a L hL => by rw [World.putObj_size]; exact H.lt a L hL
    blk := fun a x hn hx => by
      obtain ⟨L, h1, h2, h3⟩ := (H.blk a x hn hx).ex
      have hd := hne L.b (hout a x L hx h1)
      refine ⟨L, h1, h2, ?_⟩
      cases x with
      | cells f fb fz xs => obtain ⟨arr, el, fr, g⟩ := h3; exact ⟨arr, el, fr, by rw [hd]; exact g⟩
      | iter l p => obtain ⟨q, bs, hb, k⟩ := h3; exact ⟨q, bs, hb, hd.trans k⟩
      | mapo es c => obtain ⟨arr, g⟩ := h3; exact ⟨arr, by rw [hd]; exact g⟩
    sep := H.sep
    same := H.same
    fam := H.fam
    elk := fun a e hn he => by
      obtain ⟨L, arr, fr, h1, h2, h3⟩ := H.elk a e hn he
      refine ⟨L, arr, fr, h1, ?_, h3⟩
      by_cases hc : L.b = b
      · rw [hc, hbo] at h2
        simp only [Option.some.injEq] at h2
        exact absurd h2 (hnc _ _ _)
      · exact (hne _ hc).trans h2
    elt := H.elt
    old := H.old
    kept := by
      refine ⟨?_, fun c q hc => ?_⟩
      · simp only [List.map_cons, List.nodup_cons]
        refine ⟨fun hh => ?_, H.kept.1.sublist (List.filter_sublist.map _)⟩
        obtain ⟨p, hp, e⟩ := List.mem_map.1 hh
        simp only [List.mem_filter] at hp
        simp [e] at hp
      rcases List.mem_cons.1 hc with hc | hc
      · simp only [Prod.mk.injEq] at hc; obtain ⟨rfl, rfl⟩ := hc
        exact ⟨World.putObj_heap_same hlt, hout⟩
      · obtain ⟨q1, q2⟩ := List.mem_filter.1 hc
        obtain ⟨q3, q4⟩ := H.kept.2 c q q1
        exact ⟨(hne c (by simpa using q2)).trans q3, q4⟩ }

/-! ## A function that is ranged over -/

def AX.code : AX → Option Code
  | .normal => none
  | .exit id => some (.exit id)
  | .goto l => some (.goto l)
  | .ret => some .ret

def recOf (R : LoopState → Option Code → Loop) : Option AX → Loop
  | none => R .ready none
  | some x => R .done x.code

theorem Rel.allocKept {ρ : Ren} {h : Hp} {w : World} (H : Rel C.Γ N0 w0 ρ h w) (o : Obj) : Rel C.Γ N0 ⟨w0.w, w0.K, w0.r, (w.heap.size, o) :: w0.keep⟩ ρ h (World.new w o) := by
  have H' := H.grow (new_below w o)
  have hk : Kept ⟨w0.w, w0.K, w0.r, (w.heap.size, o) :: w0.keep⟩ ρ h (World.new w o) := by
    refine ⟨?_, fun b q hb => ?_⟩
    · simp only [List.map_cons, List.nodup_cons]
      refine ⟨fun hh => ?_, H.kept.1⟩
      obtain ⟨p, hp, e⟩ := List.mem_map.1 hh
      have := (Array.getElem?_eq_some_iff.1 (H.kept.2 p.1 p.2 hp).1).1
      omega
    · rcases List.mem_cons.1 hb with hb | hb
      · simp only [Prod.mk.injEq] at hb; obtain ⟨rfl, rfl⟩ := hb
        exact ⟨new_heap_new _ _, fun a x L _ hL hh => by have := H.lt a L hL; omega⟩
      · exact H'.kept.2 b q hb
  exact { H' with kept := hk }

/-- the block on top of what is kept is written anew -/
theorem Rel.turn {ρ : Ren} {h : Hp} {w w1 : World} {K : Nat} {r : Ren} {k kp : List (Nat × Obj)} {l : Nat} {o : Obj} (H : Rel C.Γ N0 ⟨w1, K, r, k ++ ((l, o) :: kp)⟩ ρ h w) (hN : N0 ≤ l) (hnc : ∀ arr el fr, o ≠ .cells arr el fr) (o' : Obj) :
    Rel C.Γ N0 ⟨w1, K, r, (l, o') :: kp⟩ ρ h (w.putObj l o') := by
  have hnd := H.kept.1
  have H1 := H.putKept (b := l) (o := o) (o' := o') (List.mem_append_right _ List.mem_cons_self) hN hnc
  simp only [List.map_append, List.map_cons, List.nodup_append, List.nodup_cons] at hnd
  refine Rel.keepLess (w0 := ⟨w1, K, r, (l, o') :: kp⟩) H1 (fun p hp => ?_) ?_
  · rcases List.mem_cons.1 hp with rfl | hp
    · exact List.mem_cons_self
    · refine List.mem_cons_of_mem _ (List.mem_filter.2 ⟨List.mem_append_right _ (List.mem_cons_of_mem _ hp), ?_⟩)
      have : p.1 ≠ l := fun e => hnd.2.1.1 (List.mem_map.2 ⟨p, hp, e⟩)
      simpa using this
  · simp only [List.map_cons, List.nodup_cons]; exact hnd.2.1

/-- what a call of yield does -/
def RoundsOk (C : Cfg) (N0 : Nat) (w0 : Fr) (m l : Nat) (R : LoopState → Option Code → Loop) (ρ0 : Ren) (B : Rounds) : Prop :=
  ∀ vs h q h', B vs h = some (q, h') → ∀ (ρ : Ren) (w : World) (us : Array Value), Ext ρ0 ρ → Rel C.Γ N0 ⟨w0.w, w0.K, w0.r, (l, .loop (recOf R none)) :: w0.keep⟩ ρ h w → VRs ρ vs us.toList →
    us.size = (R .ready none).params.size ∧ RoundIn (FW none) (m - 1) C.P l (R .ready none).fn (((R .ready none).params.zip us).foldl (fun tmps (t, a) => tmps.setIfInBounds t a) (R .ready none).tmps) (R .ready none).assign (R .ready none).body w
      (fun e w' => ∃ ρ', e = .returned (.bool q.isNone) ∧ Ext ρ ρ' ∧ Rel C.Γ N0 ⟨w0.w, w0.K, w0.r, (l, .loop (recOf R q)) :: w0.keep⟩ ρ' h' w')

/-- an operation writes its own slot and no other -/
theorem wp_keeps {P : Program} {o : Oper} {a : Act} {w : World} {K : Act → World → Prop} {Q : Exit → Act → World → Prop} {s : Nat} (hd : o.dst ≠ some s) (h : o.wp P a w K Q) :
    o.wp P a w (fun a' w' => K a' w' ∧ a'.tmps[s]? = a.tmps[s]?) Q := by
  have put : ∀ (a : Act) (v : Value), (a.put o.dst v).tmps[s]? = a.tmps[s]? := by
    intro a v
    cases hd' : o.dst with
    | none => rfl
    | some d =>
      simp only [Act.put]
      rw [Array.getElem?_setIfInBounds_ne (fun e => hd (by rw [hd', e]))]
  unfold Oper.wp at *
  generalize (execOp a.eval o).run P w = x at *
  cases x with
  | ok x w' =>
    cases x <;> simp only [Oper.upon] at h ⊢ <;>
      first
        | exact ⟨h, put _ _⟩
        | exact h.elim
        | exact Calls.mono h (fun e w'' he => by cases e <;> first | exact ⟨he, put _ _⟩ | exact he)
        | exact Rows.mono h (fun _ _ he => ⟨he, put _ _⟩)
  | halt x w' => cases x <;> simp only [Oper.upon] at h ⊢ <;> exact h

theorem wpOp_keeps {P : Program} {ops : Array Oper} {Q : Exit → Act → World → Prop} {i : Nat} {K : Act → World → Prop} {a : Act} {w : World} {s : Nat} (hd : ∀ o ∈ ops.toList, o.dst ≠ some s) (h : wpOp P ops Q i K a w) :
    wpOp P ops Q i (fun a' w' => K a' w' ∧ a'.tmps[s]? = a.tmps[s]?) a w := by
  unfold wpOp at *
  cases ho : ops[i]? with
  | none => rw [ho] at h; exact ⟨h, rfl⟩
  | some o =>
    rw [ho] at h
    have hds := hd o (List.mem_of_getElem? (i := i) (by simpa using ho))
    simp only at h ⊢
    split
    · rename_i hw
      rw [if_pos hw] at h
      exact h.imp (wp_keeps hds) id
    · rename_i hw
      rw [if_neg hw] at h
      refine ⟨h, ?_⟩
      cases hd' : o.dst with
      | none => rfl
      | some d =>
        simp only [Act.put]
        rw [Array.getElem?_setIfInBounds_ne (fun e => hds (by rw [hd', e]))]

/-- .. and so does a region that is drawn -/
theorem wpAny_keeps {P : Program} {ops : Array Oper} {Q : Exit → Act → World → Prop} {s : Nat} {v : Option Value} (hd : ∀ o ∈ ops.toList, o.dst ≠ some s) : ∀ (fuel : Nat) (listed : Array Bool) (a : Act) (w : World), a.tmps[s]? = v →
    wpAny P .any ops Q fuel listed a w → wpAny P .any ops (fun e a w => Q e a w ∧ (e = .normal → a.tmps[s]? = v)) fuel listed a w := by
  have lift : ∀ (K : Act → World → Prop) (i : Nat) (a : Act) (w : World), wpOp P ops Q i K a w → wpOp P ops (fun e a w => Q e a w ∧ (e = .normal → a.tmps[s]? = v)) i K a w := by
    intro K i a w h
    unfold wpOp at *
    cases ho : ops[i]? with
    | none => rw [ho] at h; exact h
    | some o =>
      rw [ho] at h
      simp only at h ⊢
      split
      · rename_i hw
        rw [if_pos hw] at h
        refine h.imp (fun h => ?_) fun h => ⟨h.1, by obtain ⟨a, w, q⟩ := h.2; exact ⟨a, w, q, fun e => by cases e⟩⟩
        unfold Oper.wp at *
        generalize (execOp a.eval o).run P w = x at *
        cases x with
        | ok x w' =>
          cases x <;> simp only [Oper.upon] at h ⊢ <;>
            first
              | exact h
              | exact Calls.mono h (fun e w'' he => by cases e <;> first | exact he | exact ⟨he, fun hh => by cases hh⟩ | (obtain ⟨a, w, q⟩ := he; exact ⟨a, w, q, fun hh => by cases hh⟩))
        | halt x w' => cases x <;> simp only [Oper.upon] at h ⊢ <;> first | exact h | exact ⟨h, fun hh => by cases hh⟩
      · rename_i hw
        rw [if_neg hw] at h; exact h
  intro fuel
  induction fuel with
  | zero => intro listed a w hv h; exact ⟨h.1, h.2, fun _ => hv⟩
  | succ fuel ih =>
    intro listed a w hv h
    refine ⟨fun hr => ⟨h.1 hr, fun _ => hv⟩, fun i hi => wpOp_mono (fun a' w' hh => ih _ a' w' (hh.2.trans hv) hh.1) (lift _ _ _ _ (wpOp_keeps hd (h.2 i hi)))⟩

section iter
variable {lim n s l m : Nat} {R : LoopState → Option Code → Loop} {ρ0 : Ren} {B : Rounds}

/-- what holds behind a piece of the iterator's code -/
def BehindY (C : Cfg) (N0 : Nat) (w0 : Fr) (n s l : Nat) (R : LoopState → Option Code → Loop) (ρ : Ren) (e' : Env) (h' : Hp) (p' : Option AX) (a : Act) (K : Act → World → Prop) : Prop :=
  ∀ a' w' ρ', EnvR ρ' e' a'.tmps → Ext ρ ρ' → Rel C.Γ N0 ⟨w0.w, w0.K, w0.r, (l, .loop (recOf R p')) :: w0.keep⟩ ρ' h' w' → a'.tmps.size = n → a'.tmps[s]? = some (.func (.yield l) #[] #[]) → a'.defers = a.defers → K a' w'

theorem BehindY.next {ρ ρ1 : Ren} {e' : Env} {h' : Hp} {p' : Option AX} {a a1 : Act} {K : Act → World → Prop} (h : BehindY C N0 w0 n s l R ρ e' h' p' a K) (hx : Ext ρ ρ1) (hd : a1.defers = a.defers) : BehindY C N0 w0 n s l R ρ1 e' h' p' a1 K :=
  fun a2 w2 ρ2 z1 z2 z3 z4 z5 z6 => h a2 w2 ρ2 z1 (hx.trans z2) z3 z4 z5 (z6.trans hd)

theorem yieldsO_spec {o : Op} {args : List Operand} (h : yieldsO s o = some args) : ∃ oa at', o = .call { callee := .value (.tmp s), args := oa, argTypes := at' } ∧ args = oa.toList := by
  unfold yieldsO at h
  split at h
  · rename_i t oa at'
    split at h
    · rename_i hb
      simp only [Option.some.injEq] at h; subst h
      rw [Nat.eq_of_beq_eq_true hb]
      exact ⟨oa, at', rfl, rfl⟩
    · cases h
  · cases h

theorem put_slot {a : Act} {d : Option Nat} {v : Value} (hd : d ≠ some s) : (a.put d v).tmps[s]? = a.tmps[s]? := by
  cases d with
  | none => rfl
  | some d =>
    simp only [Act.put]
    rw [Array.getElem?_setIfInBounds_ne (fun e => hd (by rw [e]))]

theorem runOpsY_sound (hctx : CtxOk C) (hB : RoundsOk C N0 w0 m l R ρ0 B) (_hRst : ∀ p, (recOf R p).params = (R .ready none).params) {ops : Array Oper} {Q : Exit → Act → World → Prop} :
    ∀ (L : List Oper) {ρ : Ren} {e e' : Env} {h h' : Hp} {p p' : Option AX} {a : Act} {w : World}, (L.all (dstOk n)) = true → (∀ o ∈ L, notDefer o.op = true) → (∀ o ∈ L, o.dst ≠ some s) →
    EnvR ρ e a.tmps → Rel C.Γ N0 ⟨w0.w, w0.K, w0.r, (l, .loop (recOf R p)) :: w0.keep⟩ ρ h w → Ext ρ0 ρ → a.tmps.size = n → a.tmps[s]? = some (.func (.yield l) #[] #[]) → runOpsY C s B ops L e h p = some (e', h', p') →
    BehindY C N0 w0 n s l R ρ e' h' p' a (Q .normal) → wpListIn (FW none) m C.P ops Q L a w := by
  intro L
  induction L with
  | nil =>
    intro ρ e e' h h' p p' a w _ _ _ he H hx hn hs hr hb
    simp only [runOpsY, Option.some.injEq, Prod.mk.injEq] at hr
    obtain ⟨rfl, rfl, rfl⟩ := hr
    exact hb a w ρ he (.refl _) H hn hs rfl
  | cons o L ih =>
    intro ρ e e' h h' p p' a w hd hnd hds he H hx hn hs hr hb
    simp only [List.all_cons, Bool.and_eq_true] at hd
    have hdl : ∀ k, o.dst = some k → k < a.tmps.size := by rw [hn]; exact dstOk_lt hd.1
    have hds0 := hds o List.mem_cons_self
    have hwant := wantedE_sound (ops := ops) (o := o) (a := a) (e := e) (ρ := ρ) (fun d _ => he d)
    have hnd' := fun x hx => hnd x (List.mem_cons_of_mem o hx)
    have hds' := fun x hx => hds x (List.mem_cons_of_mem o hx)
    simp only [runOpsY] at hr
    simp only [wpListIn]
    -- what is left out
    have skip : ∀ {p1 : Option AX}, Rel C.Γ N0 ⟨w0.w, w0.K, w0.r, (l, .loop (recOf R p1)) :: w0.keep⟩ ρ h w → runOpsY C s B ops L (Env.put e o.dst (.tup [])) h p1 = some (e', h', p') → wpListIn (FW none) m C.P ops Q L (a.put o.dst undef) w := by
      intro p1 H1 h1
      refine ih hd.2 hnd' hds' (he.put (undef_VR _) hdl) H1 hx (by rw [put_size]; exact hn) (by rw [put_slot hds0]; exact hs) h1 ?_
      exact hb.next (.refl _) (put_defers' _ _ _)
    split at hr
    · rename_i args hy
      obtain ⟨oa, at', hop, rfl⟩ := yieldsO_spec hy
      split at hr
      · rename_i hw
        rw [hwant _ hw, if_pos rfl]
        split at hr
        case h_2 => cases hr
        rename_i vs hvs
        obtain ⟨l1, l2⟩ := rdAll_sound (rdE_sound he) _ _ hvs
        have hev : a.eval (.tmp s) = .func (.yield l) #[] #[] := by
          show a.tmps.getD s undef = _
          rw [Array.getD_eq_getD_getElem?, hs]; rfl
        have hvr : VRs ρ vs (oa.map a.eval).toList := ⟨by simpa using l1, fun i x u hx hu => l2 i x u hx (by simpa using hu)⟩
        have go : ∀ q h1, B vs h = some (q, h1) → runOpsY C s B ops L (Env.put e o.dst (.bool q.isNone)) h1 q = some (e', h', p') → Oper.wpIn (FW none) m C.P o a w (wpListIn (FW none) m C.P ops Q L) Q := by
          intro q h1 hq hrest
          obtain ⟨g1, g2⟩ := hB _ _ _ _ hq ρ w _ hx H hvr
          refine ⟨fun _ _ => trivial, ?_⟩
          rw [Oper.semAt_eq _ _ _ (notDefer_spec (hnd o List.mem_cons_self))]
          have hy := run_yield (P := C.P) (H.kept.2 l _ List.mem_cons_self).1 (args := oa.map a.eval) g1
          have hrun : (execOp a.eval o).run C.P w = .ok (.round l (R .ready none).fn (((R .ready none).params.zip (oa.map a.eval)).foldl (fun tmps (t, a) => tmps.setIfInBounds t a) (R .ready none).tmps) (R .ready none).assign (R .ready none).body) w := by
            refine Eq.trans ?_ hy
            unfold execOp
            rw [hop]
            simp only [resolve, hev, Deferred.ofValue, Sem.run_bind, Sem.run_pure, Result.andThen_ok, invoke]
            simp
          rw [hrun, Oper.uponIn_round]
          refine ⟨no_depth, g2.mono ?_⟩
          rintro e1 w1 ⟨ρ1, rfl, z1, z2⟩
          refine ih hd.2 hnd' hds' ((he.ext z1).put (.bool _) hdl) z2 (hx.trans z1) (by rw [put_size]; exact hn) (by rw [put_slot hds0]; exact hs) hrest ?_
          exact hb.next z1 (put_defers' _ _ _)
        split at hr
        · rename_i h1 hq; exact go none h1 hq hr
        · rename_i x h1 hq; exact go (some x) h1 hq hr
        · cases hr
      · rename_i hw
        rw [hwant _ hw]
        simp only [Bool.false_eq_true, if_false]
        exact ⟨fun _ _ => trivial, skip H hr⟩
      · cases hr
    · rename_i hny
      have go : ∀ v k, stepOp C ops e h o = some (v, k) → runOpsY C s B ops L (Env.put e o.dst v) (k.getD h) p = some (e', h', p') →
          (if Region.wanted o (yielded ops a.tmps) then o.wpIn (FW none) m C.P a w (wpListIn (FW none) m C.P ops Q L) Q else (∀ f, o.about C.P w a.eval = some f → (FW none).fn f) ∧ wpListIn (FW none) m C.P ops Q L (a.put o.dst undef) w) := by
        intro v k hs1 hrest
        rcases stepOp_cases hs1 with ⟨h1, h2⟩ | ⟨h1, h2⟩
        · rw [hwant _ h1, if_pos rfl]
          refine wp_in (hnd o List.mem_cons_self) (Oper.wp_mono (fun a1 w1 hh => ?_) (wp_keeps (s := s) hds0 (opVal_sound hctx H (rdE_sound he) h2 (Q := Q) (next := fun a1 w1 => ∃ ρ1, EnvR ρ1 (Env.put e o.dst v) a1.tmps ∧ Ext ρ ρ1 ∧ Rel C.Γ N0 ⟨w0.w, w0.K, w0.r, (l, .loop (recOf R p)) :: w0.keep⟩ ρ1 (k.getD h) w1 ∧ a1.tmps.size = n ∧ a1.defers = a.defers)
            (fun u w' ρ' x1 x2 x3 => ⟨ρ', (he.ext x1).put x3 hdl, x1, x2, by rw [put_size]; exact hn, put_defers' _ _ _⟩))))
          obtain ⟨⟨ρ1, y1, y2, y3, y4, y5⟩, y6⟩ := hh
          exact ih hd.2 hnd' hds' y1 y3 (hx.trans y2) y4 (y6.trans hs) hrest (hb.next y2 y5)
        · simp only [Prod.mk.injEq] at h2; obtain ⟨rfl, rfl⟩ := h2
          rw [hwant _ h1]
          simp only [Bool.false_eq_true, if_false]
          exact ⟨fun _ _ => trivial, skip H hrest⟩
      split at hr
      · rename_i v hs1; exact go v none hs1 hr
      · rename_i v h1 hs1; exact go v (some h1) hs1 hr
      · cases hr

theorem loopY_sound {b : Code} {f : Env → Hp → Option AX → Option (AX × Env × Hp × Option AX)}
    (hb : ∀ {Q : Exit → Act → World → Prop} {ρ : Ren} {e e' : Env} {h h' : Hp} {p p' : Option AX} {a : Act} {w : World} {x : AX}, EnvR ρ e a.tmps → Rel C.Γ N0 ⟨w0.w, w0.K, w0.r, (l, .loop (recOf R p)) :: w0.keep⟩ ρ h w → Ext ρ0 ρ → a.tmps.size = n → a.tmps[s]? = some (.func (.yield l) #[] #[]) →
      f e h p = some (x, e', h', p') → BehindY C N0 w0 n s l R ρ e' h' p' a (Q x.to) → b.wpIn (FW none) m C.P Q a w)
    {Q : Exit → Act → World → Prop} : ∀ (j : Nat) {ρ : Ren} {e e' : Env} {h h' : Hp} {p p' : Option AX} {a : Act} {w : World} {x : AX},
    EnvR ρ e a.tmps → Rel C.Γ N0 ⟨w0.w, w0.K, w0.r, (l, .loop (recOf R p)) :: w0.keep⟩ ρ h w → Ext ρ0 ρ → a.tmps.size = n → a.tmps[s]? = some (.func (.yield l) #[] #[]) → loopY f j e h p = some (x, e', h', p') → BehindY C N0 w0 n s l R ρ e' h' p' a (Q x.to) → Code.roundsIn (FW none) m C.P b Q j a w := by
  intro j
  induction j with
  | zero => intro ρ e e' h h' p p' a w x _ _ _ _ _ hr _; cases hr
  | succ j ih =>
    intro ρ e e' h h' p p' a w x he H hx hn hs hr hk
    rw [roundsIn_succ]
    simp only [loopY] at hr
    split at hr
    · rename_i e1 h1 p1 hf
      refine hb he H hx hn hs hf (Q := Exit.then (Code.roundsIn (FW none) m C.P b Q j) Q) (fun a1 w1 ρ1 z1 z2 z3 z4 z5 z6 => ?_)
      exact ih z1 z3 (hx.trans z2) z4 z5 hr (hk.next z2 z6)
    · rename_i hne
      refine hb he H hx hn hs hr (Q := Exit.then (Code.roundsIn (FW none) m C.P b Q j) Q) (fun a1 w1 ρ1 z1 z2 z3 z4 z5 z6 => ?_)
      have := hk a1 w1 ρ1 z1 z2 z3 z4 z5 z6
      cases x with
      | normal => exact absurd hr (hne _ _ _)
      | exit id => exact this
      | goto l => exact this
      | ret => exact this

theorem iterE_sound (hctx : CtxOk C) (hm : C.P.follows .mixedOrders = true) (hB : RoundsOk C N0 w0 m l R ρ0 B) (hRst : ∀ p, (recOf R p).params = (R .ready none).params) : ∀ (c : Code) {Q : Exit → Act → World → Prop} {ρ : Ren} {e e' : Env} {h h' : Hp} {p p' : Option AX} {a : Act} {w : World} {x : AX},
    dstsIn n c = true → keepsSlot s c = true → EnvR ρ e a.tmps → Rel C.Γ N0 ⟨w0.w, w0.K, w0.r, (l, .loop (recOf R p)) :: w0.keep⟩ ρ h w → Ext ρ0 ρ → a.tmps.size = n → a.tmps[s]? = some (.func (.yield l) #[] #[]) →
    iterE C lim s B c e h p = some (x, e', h', p') → BehindY C N0 w0 n s l R ρ e' h' p' a (Q x.to) → c.wpIn (FW none) m C.P Q a w := by
  intro c
  induction c with
  | skip =>
    intro Q ρ e e' h h' p p' a w x _ _ he H hx hn hs hr hk
    simp only [iterE, Option.some.injEq, Prod.mk.injEq] at hr
    obtain ⟨rfl, rfl, rfl, rfl⟩ := hr
    exact wpIn_skip (hk a w ρ he (.refl _) H hn hs rfl)
  | region id ops draw =>
    intro Q ρ e e' h h' p p' a w x hd hks he H hx hn hs hr hk
    simp only [dstsIn, Bool.and_eq_true] at hd
    have hnd : ∀ o ∈ ops.toList, notDefer o.op = true := fun o ho => List.all_eq_true.1 hd.2 o ho
    have hds : ∀ o ∈ ops.toList, o.dst ≠ some s := by
      intro o ho hh
      have := List.all_eq_true.1 hks o ho
      rw [hh] at this
      simp at this
    simp only [iterE] at hr
    split at hr
    · split at hr
      · rename_i e1 h1 p1 h2
        simp only [Option.some.injEq, Prod.mk.injEq] at hr
        obtain ⟨rfl, rfl, rfl, rfl⟩ := hr
        exact wpIn_region_list (runOpsY_sound hctx hB hRst _ hd.1 hnd hds he H hx hn hs h2 hk)
      · cases hr
    · split at hr
      · rename_i e1 h1 h2
        simp only [Option.some.injEq, Prod.mk.injEq] at hr
        obtain ⟨rfl, rfl, rfl, rfl⟩ := hr
        have hw : RegW C.P ops (fun e a' w' => e ≠ .outgrown ∧ (e = .normal → ∃ ρ', EnvR ρ' e1 a'.tmps ∧ Ext ρ ρ' ∧ Rel C.Γ N0 ⟨w0.w, w0.K, w0.r, (l, .loop (recOf R p)) :: w0.keep⟩ ρ' h1 w' ∧ a'.tmps.size = n ∧ a'.defers = a.defers) ∧ (e ≠ .normal → Q e a' w')) a w true :=
          region_sound hctx hd.1 he H hn h2 fun a' w' ρ' z1 z2 z3 z4 z5 => ⟨fun hh => (by cases hh), fun _ => ⟨ρ', z1, z2, z3, z4, z5⟩, fun hh => absurd rfl hh⟩
        have hw2 := wpAny_keeps (s := s) (v := some (.func (.yield l) #[] #[])) hds _ _ _ _ hs hw
        refine wpIn_mono (RegW.wpIn (r := none) (id := id) (draw := true) hm hnd ?_ hw2) ?_
        · rintro ⟨_, _, ⟨hh, _⟩, _⟩; exact hh rfl
        · rintro e2 a2 w2 ⟨⟨q1, q2, q3⟩, q4⟩
          by_cases hen : e2 = .normal
          · subst hen
            obtain ⟨ρ', z1, z2, z3, z4, z5⟩ := q2 rfl
            exact hk a2 w2 ρ' z1 z2 z3 z4 (q4 rfl) z5
          · exact q3 hen
      · cases hr
  | seq c1 c2 ih1 ih2 =>
    intro Q ρ e e' h h' p p' a w x hd hks he H hx hn hs hr hk
    simp only [dstsIn, Bool.and_eq_true] at hd
    simp only [keepsSlot, Bool.and_eq_true] at hks
    simp only [iterE] at hr
    refine wpIn_seq ?_
    split at hr
    · rename_i e1 h1 p1 hf
      refine ih1 hd.1 hks.1 he H hx hn hs hf (fun a1 w1 ρ1 z1 z2 z3 z4 z5 z6 => ?_)
      exact ih2 hd.2 hks.2 z1 z3 (hx.trans z2) z4 z5 hr (hk.next z2 z6)
    · rename_i hne
      refine ih1 hd.1 hks.1 he H hx hn hs hr (fun a1 w1 ρ1 z1 z2 z3 z4 z5 z6 => ?_)
      have := hk a1 w1 ρ1 z1 z2 z3 z4 z5 z6
      cases x with
      | normal => exact absurd hr (hne _ _ _)
      | exit id => exact this
      | goto l => exact this
      | ret => exact this
  | cond c c1 c2 ih1 ih2 =>
    intro Q ρ e e' h h' p p' a w x hd hks he H hx hn hs hr hk
    simp only [dstsIn, Bool.and_eq_true] at hd
    simp only [keepsSlot, Bool.and_eq_true] at hks
    simp only [iterE] at hr
    split at hr
    · rename_i hc
      exact wpIn_cond_true (rdE_sound he c _ hc).bool_inv (ih1 hd.1 hks.1 he H hx hn hs hr hk)
    · rename_i hc
      exact wpIn_cond_false (rdE_sound he c _ hc).bool_inv (ih2 hd.2 hks.2 he H hx hn hs hr hk)
    · cases hr
  | block id c1 ih =>
    intro Q ρ e e' h h' p p' a w x hd hks he H hx hn hs hr hk
    simp only [iterE] at hr
    refine wpIn_block ?_
    split at hr
    · rename_i id' e1 h1 p1 hf
      split at hr
      · rename_i hid
        have hid' := Nat.eq_of_beq_eq_true hid
        simp only [Option.some.injEq, Prod.mk.injEq] at hr
        obtain ⟨rfl, rfl, rfl, rfl⟩ := hr
        refine ih hd hks he H hx hn hs hf (fun a1 w1 ρ1 z1 z2 z3 z4 z5 z6 => ?_)
        show Exit.inBlock id Q (.exit id') a1 w1
        simp only [Exit.inBlock, hid', if_true]
        exact hk a1 w1 ρ1 z1 z2 z3 z4 z5 z6
      · rename_i hid
        have hid' : id' ≠ id := Nat.ne_of_beq_eq_false hid
        simp only [Option.some.injEq, Prod.mk.injEq] at hr
        obtain ⟨rfl, rfl, rfl, rfl⟩ := hr
        refine ih hd hks he H hx hn hs hf (fun a1 w1 ρ1 z1 z2 z3 z4 z5 z6 => ?_)
        show Exit.inBlock id Q (.exit id') a1 w1
        simp only [Exit.inBlock, hid', if_false]
        exact hk a1 w1 ρ1 z1 z2 z3 z4 z5 z6
    · rename_i hne
      refine ih hd hks he H hx hn hs hr (fun a1 w1 ρ1 z1 z2 z3 z4 z5 z6 => ?_)
      have := hk a1 w1 ρ1 z1 z2 z3 z4 z5 z6
      cases x with
      | normal => exact this
      | exit id' => exact absurd hr (hne _ _ _ _)
      | goto l => exact this
      | ret => exact this
  | loop c1 ih =>
    intro Q ρ e e' h h' p p' a w x hd hks he H hx hn hs hr hk
    simp only [iterE] at hr
    exact wpIn_loop_rounds lim (loopY_sound (f := iterE C lim s B c1) (fun he H hx hn hs hr hk => ih hd hks he H hx hn hs hr hk) lim he H hx hn hs hr hk)
  | exit id =>
    intro Q ρ e e' h h' p p' a w x _ _ he H hx hn hs hr hk
    simp only [iterE, Option.some.injEq, Prod.mk.injEq] at hr
    obtain ⟨rfl, rfl, rfl, rfl⟩ := hr
    exact wpIn_exit (hk a w ρ he (.refl _) H hn hs rfl)
  | label l =>
    intro Q ρ e e' h h' p p' a w x _ _ he H hx hn hs hr hk
    simp only [iterE, Option.some.injEq, Prod.mk.injEq] at hr
    obtain ⟨rfl, rfl, rfl, rfl⟩ := hr
    exact wpIn_label (hk a w ρ he (.refl _) H hn hs rfl)
  | ret =>
    intro Q ρ e e' h h' p p' a w x _ _ he H hx hn hs hr hk
    simp only [iterE, Option.some.injEq, Prod.mk.injEq] at hr
    obtain ⟨rfl, rfl, rfl, rfl⟩ := hr
    exact wpIn_ret (hk a w ρ he (.refl _) H hn hs rfl)
  | _ => intro Q ρ e e' h h' p p' a w x _ _ he H hx hn hs hr hk; simp only [iterE] at hr; cases hr
end iter

theorem putPs_ok {ρ : Ren} {n : Nat} : ∀ (ps : List Nat) (vs : List V) (us : List Value) (e : Env) (T : Array Value), (ps.all fun d => Nat.blt d n) = true → T.size = n → VRs ρ vs us → EnvR ρ e T →
    EnvR ρ (putPs ps vs e) ((ps.zip us).foldl (fun tmps (x : Nat × Value) => tmps.setIfInBounds x.1 x.2) T) ∧ ((ps.zip us).foldl (fun tmps (x : Nat × Value) => tmps.setIfInBounds x.1 x.2) T).size = n := by
  intro ps
  induction ps with
  | nil => intro vs us e T _ hT _ he; exact ⟨he, hT⟩
  | cons t ps ih =>
    intro vs us e T hp hT hv he
    cases vs with
    | nil => rw [hv.nil_inv]; exact ⟨he, hT⟩
    | cons v vs =>
      obtain ⟨u, us', rfl, h1, h2⟩ := hv.cons_inv
      simp only [List.all_cons, Bool.and_eq_true] at hp
      simp only [putPs, List.zip_cons_cons, List.foldl_cons]
      refine ih vs us' _ _ hp.2 (by simpa using hT) h2 ?_
      have := he.put (a := ⟨T, []⟩) (d := some t) h1 (fun k hk => by simp only [Option.some.injEq] at hk; subst hk; rw [hT]; exact Nat.blt_eq ▸ hp.1)
      exact this

theorem roundB_ok {n l m fn D : Nat} {ps : Array Tmp} {cx cy : Code} {fa fb : Env → Hp → Option (AX × Env × Hp)} {ρ0 : Ren} {e0 : Env} {T : Array Value} (hN : N0 ≤ l)
    (ihx : ∀ {m : Nat} {w0 : Fr} {Q : Exit → Act → World → Prop} {ρ : Ren} {e e' : Env} {h h' : Hp} {a : Act} {w : World} {x : AX}, EnvR ρ e a.tmps → Rel C.Γ N0 w0 ρ h w → a.tmps.size = n → fa e h = some (x, e', h') → BehindM C N0 w0 n ρ e' h' a (Q x.to) → cx.wpIn (FW (some l)) m C.P Q a w)
    (ihy : ∀ {m : Nat} {w0 : Fr} {Q : Exit → Act → World → Prop} {ρ : Ren} {e e' : Env} {h h' : Hp} {a : Act} {w : World} {x : AX}, EnvR ρ e a.tmps → Rel C.Γ N0 w0 ρ h w → a.tmps.size = n → fb e h = some (x, e', h') → BehindM C N0 w0 n ρ e' h' a (Q x.to) → cy.wpIn (FW (some l)) m C.P Q a w)
    (he0 : EnvR ρ0 e0 T) (hT : T.size = n) (hps : (ps.toList.all fun d => Nat.blt d n) = true) :
    RoundsOk C N0 w0 m l (fun st pe => { state := st, pending := pe, fn, tmps := T, params := ps, assign := cx, body := cy, defers := D }) ρ0 (roundB ps.toList fa fb e0) := by
  intro vs h q h' hB ρ w us hx H hv
  unfold roundB at hB
  split at hB
  case h_2 => cases hB
  rename_i hlen
  have hlen' : us.size = ps.size := by
    have h1 := Nat.eq_of_beq_eq_true hlen
    have h2 := hv.1
    simp only [Array.length_toList] at h1 h2
    omega
  refine ⟨hlen', ?_⟩
  split at hB
  case h_2 => cases hB
  rename_i e1 h1 hfa
  have hset := putPs_ok ps.toList vs us.toList e0 T hps hT hv (he0.ext hx)
  have hfold : (ps.zip us).foldl (fun tmps (t, a) => tmps.setIfInBounds t a) T = (ps.toList.zip us.toList).foldl (fun tmps (x : Nat × Value) => tmps.setIfInBounds x.1 x.2) T := by
    rw [← Array.foldl_toList, Array.toList_zip]
  refine roundIn_of_wpIn trivial ?_
  show cx.wpIn (FW (some l)) (m - 1) C.P _ ⟨(ps.zip us).foldl (fun tmps (t, a) => tmps.setIfInBounds t a) T, []⟩ w
  rw [hfold]
  refine ihx (x := .normal) hset.1 H hset.2 hfa ?_
  intro a1 w1 ρ1 k z1 z2 z3 z4 z5
  have hl1 := (z3.kept.2 l _ (List.mem_append_right _ List.mem_cons_self)).1
  refine ⟨_, run_beginRound (P := C.P) hl1 rfl, ?_⟩
  have H2 := Rel.turn (k := k) z3 hN (fun _ _ _ hh => by cases hh) (.loop { state := .busy, pending := none, fn, tmps := T, params := ps, assign := cx, body := cy, defers := D })
  have go : ∀ (x : AX) (e2 : Env) (q : Option AX), fb e1 h1 = some (x, e2, h') → x.code = (match q with | none => none | some x => x.code) → (x.code = none → q = none) → (q = none → x.code = none) →
      cy.wpIn (FW (some l)) (m - 1) C.P (roundPost C.P l (fun e w' => ∃ ρ', e = .returned (.bool q.isNone) ∧ Ext ρ ρ' ∧ Rel C.Γ N0 ⟨w0.w, w0.K, w0.r, (l, .loop (recOf (fun st pe => { state := st, pending := pe, fn, tmps := T, params := ps, assign := cx, body := cy, defers := D }) q)) :: w0.keep⟩ ρ' h' w')) a1 (w1.putObj l (.loop { state := .busy, pending := none, fn, tmps := T, params := ps, assign := cx, body := cy, defers := D })) := by
    intro x e2 q hfb hq1 hq2 hq3
    refine ihy (x := x) z1 H2 z4 hfb ?_
    intro a2 w2 ρ2 k2 y1 y2 y3 y4 y5
    have hl2 := (y3.kept.2 l _ (List.mem_append_right _ List.mem_cons_self)).1
    have hend := run_endRound (P := C.P) x.code hl2
    have H3 := Rel.turn (k := k2) y3 hN (fun _ _ _ hh => by cases hh) (.loop { state := if x.code.isNone then .ready else .done, pending := x.code, fn, tmps := T, params := ps, assign := cx, body := cy, defers := D })
    have hrec : recOf (fun st pe => { state := st, pending := pe, fn, tmps := T, params := ps, assign := cx, body := cy, defers := D : Loop }) q = { state := if x.code.isNone then .ready else .done, pending := x.code, fn, tmps := T, params := ps, assign := cx, body := cy, defers := D } := by
      cases q with
      | none => simp [recOf, hq3 rfl]
      | some y =>
        have : x.code ≠ none := fun hh => by have := hq2 hh; cases this
        simp only at hq1
        cases hxc : x.code with
        | none => exact absurd hxc this
        | some cc => simp [recOf, ← hq1, hxc]
    have hfin : ∃ v w', (Instr.endRound l x.code).run C.P w2 = .ok v w' ∧ ∃ ρ', Ending.returned v = .returned (.bool q.isNone) ∧ Ext ρ ρ' ∧ Rel C.Γ N0 ⟨w0.w, w0.K, w0.r, (l, .loop (recOf (fun st pe => { state := st, pending := pe, fn, tmps := T, params := ps, assign := cx, body := cy, defers := D }) q)) :: w0.keep⟩ ρ' h' w' := by
      refine ⟨_, _, hend, ρ2, ?_, z2.trans y2, by rw [hrec]; exact H3⟩
      congr 2
      cases q with
      | none => rw [hq3 rfl]; rfl
      | some y =>
        cases hxc : x.code with
        | none => have := hq2 hxc; cases this
        | some cc => rfl
    cases x with
    | normal => exact hfin
    | exit id => exact hfin
    | goto t => exact hfin
    | ret => exact hfin
  split at hB
  · rename_i e2 h2 hfb
    simp only [Option.some.injEq, Prod.mk.injEq] at hB; obtain ⟨rfl, rfl⟩ := hB
    exact go .normal e2 none hfb rfl (fun _ => rfl) (fun _ => rfl)
  · rename_i x e2 h2 hne hfb
    simp only [Option.some.injEq, Prod.mk.injEq] at hB; obtain ⟨rfl, rfl⟩ := hB
    refine go x e2 (some x) hfb rfl (fun hh => ?_) (fun hh => by cases hh)
    cases x with
    | normal => exact (hne rfl).elim
    | _ => cases hh
  · cases hB

theorem range_sound (hctx : CtxOk C) (hm : C.P.follows .mixedOrders = true) {lim n m : Nat} {f : Operand} {ps : Array Tmp} {cx cy : Code} {fa fb : Env → Hp → Option (AX × Env × Hp)}
    (ihx : ∀ {l m : Nat} {w0 : Fr} {Q : Exit → Act → World → Prop} {ρ : Ren} {e e' : Env} {h h' : Hp} {a : Act} {w : World} {x : AX}, EnvR ρ e a.tmps → Rel C.Γ N0 w0 ρ h w → a.tmps.size = n → fa e h = some (x, e', h') → BehindM C N0 w0 n ρ e' h' a (Q x.to) → cx.wpIn (FW (some l)) m C.P Q a w)
    (ihy : ∀ {l m : Nat} {w0 : Fr} {Q : Exit → Act → World → Prop} {ρ : Ren} {e e' : Env} {h h' : Hp} {a : Act} {w : World} {x : AX}, EnvR ρ e a.tmps → Rel C.Γ N0 w0 ρ h w → a.tmps.size = n → fb e h = some (x, e', h') → BehindM C N0 w0 n ρ e' h' a (Q x.to) → cy.wpIn (FW (some l)) m C.P Q a w)
    {w0 : Fr} {Q : Exit → Act → World → Prop} {ρ : Ren} {e e' : Env} {h h' : Hp} {a : Act} {w : World} {x : AX} {vf : V} {ok : Bool} (hps : (ps.toList.all fun d => Nat.blt d n) = true)
    (he : EnvR ρ e a.tmps) (H : Rel C.Γ N0 w0 ρ h w) (hn : a.tmps.size = n) (hvf : rdE e f = some vf) (hr : rangeE C lim vf ps.toList ok fa fb e h = some (x, e', h')) (hk : BehindM C N0 w0 n ρ e' h' a (Q x.to)) :
    (Code.rangeFunc f ps cx cy).wpIn (FW none) m C.P Q a w := by
  unfold rangeE at hr
  split at hr
  case h_2 => cases hr
  rename_i g xs ys
  have hv := rdE_sound he f _ hvf
  generalize hfv : a.eval f = uf at hv
  cases hv with
  | fn _ _ _ vs1 vs2 hn1 hn2 hx1 hy1 =>
  have hxs : VRs ρ xs vs1.toList := ⟨by simpa using hn1, fun i x u h1 h2 => hx1 i x u h1 (by simpa using h2)⟩
  have hys : VRs ρ ys vs2.toList := ⟨by simpa using hn2, fun i x u h1 h2 => hy1 i x u h1 (by simpa using h2)⟩
  have hrun : ∃ q, iterRun C lim g xs ys (roundB ps.toList fa fb e) h = some (q, h') ∧ e = e' ∧ x = (match q with | none => .normal | some x => x) := by
    split at hr
    · rename_i h1 hq
      simp only [Option.some.injEq, Prod.mk.injEq] at hr; obtain ⟨rfl, rfl, rfl⟩ := hr
      exact ⟨none, hq, rfl, rfl⟩
    · rename_i x1 h1 hq
      simp only [Option.some.injEq, Prod.mk.injEq] at hr; obtain ⟨rfl, rfl, rfl⟩ := hr
      exact ⟨some _, hq, rfl, rfl⟩
    · cases hr
  clear hr
  obtain ⟨q, hq, rfl, hx⟩ := hrun
  unfold iterRun at hq
  split at hq
  case h_2 => cases hq
  rename_i fn hfn hib
  split at hq
  case h_2 => cases hq
  rename_i c hbc
  split at hq
  case h_2 => cases hq
  rename_i hchk
  simp only [Bool.and_eq_true] at hchk
  obtain ⟨c1, c2, c3, c4⟩ := hchk
  have hit : ∃ y e2, iterE C lim xs.length (roundB ps.toList fa fb e) c (enterE 0 (xs ++ (V.any :: ys)) .leaf) h none = some (y, e2, h', q) ∧ (y = .normal ∨ y = .ret) := by
    split at hq
    · rename_i e2 h2 p2 hh
      simp only [Option.some.injEq, Prod.mk.injEq] at hq; obtain ⟨rfl, rfl⟩ := hq
      exact ⟨_, _, hh, .inl rfl⟩
    · rename_i e2 h2 p2 hh
      simp only [Option.some.injEq, Prod.mk.injEq] at hq; obtain ⟨rfl, rfl⟩ := hq
      exact ⟨_, _, hh, .inr rfl⟩
    · cases hq
  obtain ⟨y, e2, hit, hy⟩ := hit
  have hN : N0 ≤ w.heap.size := Nat.le_trans H.hN0 H.below.size
  refine wpIn_rangeFunc ?_
  intro fn0 _
  have HA := (H.allocKept (.deferred (some []))).allocKept (.loop { state := .ready, pending := none, fn := fn0, tmps := a.tmps, params := ps, assign := cx, body := cy, defers := w.heap.size })
  rw [new_size] at HA
  generalize hW : World.new (World.new w (.deferred (some []))) (.loop { state := .ready, pending := none, fn := fn0, tmps := a.tmps, params := ps, assign := cx, body := cy, defers := w.heap.size }) = W at HA
  refine ⟨w.heap.size + 1, [markOf w.heap.size], W, { target := .fn (.func g) vs2, args := vs1 ++ #[Value.func (.yield (w.heap.size + 1)) #[] #[]] }, W, g, (vs1 ++ #[Value.func (.yield (w.heap.size + 1)) #[] #[]]) ++ vs2, W, ?_, ?_, fun _ _ => trivial, ?_, no_depth, ?_⟩
  · rw [← hW]; exact run_enterLoop_outer _ _ _ _ _
  · simp only [resolve, hfv]
    simp [go_sem, Deferred.ofValue, Act.eval]
  · simp only [invoke]
    exact run_callFunc hib
  · -- the iterator's call
    have hB := roundB_ok (C := C) (N0 := N0) (w0 := ⟨w0.w, w0.K, w0.r, (w.heap.size, .deferred (some [])) :: w0.keep⟩) (m := m - 1) (l := w.heap.size + 1) (fn := fn0) (D := w.heap.size) (by omega) ihx ihy he hn hps
    refine callsIn_of_wp_marks hfn hbc trivial ?_
    have hlen := Nat.le_of_ble_eq_true c1
    have hvs : VRs ρ (xs ++ (V.any :: ys)) ((vs1 ++ #[Value.func (.yield (w.heap.size + 1)) #[] #[]]) ++ vs2).toList := by
      have := hxs.append (VRs.cons (.any (Value.func (.yield (w.heap.size + 1)) #[] #[])) hys)
      simpa using this
    have hsz : (xs ++ (V.any :: ys)).length = ((vs1 ++ #[Value.func (.yield (w.heap.size + 1)) #[] #[]]) ++ vs2).size := by have := hvs.1; rw [Array.length_toList] at this; exact this
    refine iterE_sound hctx hm (w0 := ⟨w0.w, w0.K, w0.r, (w.heap.size, .deferred (some [])) :: w0.keep⟩) (n := fn.ntmps) (s := xs.length) (p := none) (a := ⟨(vs1 ++ #[Value.func (.yield (w.heap.size + 1)) #[] #[]]) ++ vs2 ++ Array.replicate (fn.ntmps - ((vs1 ++ #[Value.func (.yield (w.heap.size + 1)) #[] #[]]) ++ vs2).size) undef, []⟩) hB (fun p => by cases p <;> rfl) c (x := y) c2 c3 (enter_EnvR hvs _) HA (.refl _) ?_ ?_ hit ?_
    · simp only [Array.size_append, Array.size_replicate] at hsz ⊢; omega
    · have e1 : xs.length = vs1.size := hn1
      rw [e1]
      simp [Array.getElem?_append]
    intro a1 w1 ρ1 z1 z2 z3 z4 z5 z6
    have hres : ∀ w, (results fn a1.tmps).run C.P w = .ok (.tuple #[]) w := by
      intro w
      have : fn.results = #[] := by
        apply Array.toList_inj.1
        simpa using c4
      unfold results
      rw [this]
      simp [Sem.run_pure]
    have key : LeavesInM (FW none) (m - 1) C.P fn a1.tmps (rangePost (FW none) m C.P (w.heap.size + 1) Q { a with defers := [markOf w.heap.size] ++ a.defers }) [] .returning w1 := by
      refine ⟨.tuple #[], hres w1, ?_⟩
      have hl1 := (z3.kept.2 _ _ List.mem_cons_self).1
      have hnb : (recOf (fun st pe => { state := st, pending := pe, fn := fn0, tmps := a.tmps, params := ps, assign := cx, body := cy, defers := w.heap.size : Loop }) q).state ≠ .busy := by cases q <;> simp [recOf]
      have hend := run_endLoop (P := C.P) hl1 hnb
      refine ⟨_, _, hend, ?_⟩
      have H2 := Rel.turn (k := []) z3 (by omega) (fun _ _ _ hh => by cases hh) (.loop { (recOf (fun st pe => { state := st, pending := pe, fn := fn0, tmps := a.tmps, params := ps, assign := cx, body := cy, defers := w.heap.size : Loop }) q) with state := .exhausted })
      have H3 : Rel C.Γ N0 (w0.more [(w.heap.size, .deferred (some []))]) ρ1 h' (w1.putObj (w.heap.size + 1) (.loop { (recOf (fun st pe => { state := st, pending := pe, fn := fn0, tmps := a.tmps, params := ps, assign := cx, body := cy, defers := w.heap.size : Loop }) q) with state := .exhausted })) :=
        Rel.keepLess (w0 := w0.more [(w.heap.size, .deferred (some []))]) H2 (fun p hp => List.mem_cons_of_mem _ hp) (by have := H2.kept.1; simp only [List.map_cons, List.nodup_cons] at this; show (((w.heap.size, Obj.deferred (some [])) :: w0.keep).map (·.1)).Nodup; simp only [List.map_cons, List.nodup_cons]; exact this.2)
      have hQ := hk { a with defers := [markOf w.heap.size] ++ a.defers } _ ρ1 [(w.heap.size, .deferred (some []))] (he.ext z2) z2 H3 hn ⟨[w.heap.size], rfl, by simp, fun b hb => by simp at hb; subst hb; exact ⟨List.mem_cons_self, hN⟩⟩
      subst hx
      cases q with
      | none => exact hQ
      | some x =>
        cases x with
        | normal => exact hQ
        | exit id => exact wpIn_exit hQ
        | goto t => exact wpIn_goto hQ
        | ret => exact wpIn_ret hQ
    rcases hy with rfl | rfl
    · show LeavesInM (FW none) (m - 1) C.P fn a1.tmps _ a1.defers .returning w1
      rw [z6]; exact key
    · show LeavesInM (FW none) (m - 1) C.P fn a1.tmps _ a1.defers .returning w1
      rw [z6]; exact key

theorem execE_sound (hctx : CtxOk C) (hm : C.P.follows .mixedOrders = true) {lim n : Nat} : ∀ (c : Code) {r : Option Nat} {m : Nat} {w0 : Fr} {Q : Exit → Act → World → Prop} {ρ : Ren} {e e' : Env} {h h' : Hp} {a : Act} {w : World} {x : AX}, (r = none ∨ noRange c = true) → dstsIn n c = true →
    EnvR ρ e a.tmps → Rel C.Γ N0 w0 ρ h w → a.tmps.size = n → execE C lim c e h = some (x, e', h') → BehindM C N0 w0 n ρ e' h' a (Q x.to) → c.wpIn (FW r) m C.P Q a w := by
  intro c
  induction c with
  | skip =>
    intro r m w0 Q ρ e e' h h' a w x _ _ he H hn hr hk
    simp only [execE, Option.some.injEq, Prod.mk.injEq] at hr
    obtain ⟨rfl, rfl, rfl⟩ := hr
    exact wpIn_skip (hk a w ρ [] he (.refl _) H hn (.refl _ _ _))
  | region id ops draw =>
    intro r m w0 Q ρ e e' h h' a w x hnr hd he H hn hr hk
    simp only [execE] at hr
    split at hr
    · rename_i e1 h1 h2
      simp only [Option.some.injEq, Prod.mk.injEq] at hr
      obtain ⟨rfl, rfl, rfl⟩ := hr
      simp only [dstsIn, Bool.and_eq_true] at hd
      refine wpIn_mono (RegW.wpIn hm (fun o ho => List.all_eq_true.1 hd.2 o ho) (Q := fun e a w => e ≠ .outgrown ∧ Q e a w) (fun hh => by obtain ⟨_, _, hh, _⟩ := hh; exact hh rfl) (region_sound hctx hd.1 he H hn h2 fun a' w' ρ' z1 z2 z3 z4 z5 => ⟨fun hh => (by cases hh), hk.one a' w' ρ' z1 z2 z3 z4 z5⟩)) fun e a w hh => hh.2
    · cases hr
  | seq c1 c2 ih1 ih2 =>
    intro r m w0 Q ρ e e' h h' a w x hnr hd he H hn hr hk
    simp only [dstsIn, Bool.and_eq_true] at hd
    simp only [execE] at hr
    refine wpIn_seq ?_
    split at hr
    · rename_i e1 h1 hf
      refine ih1 (hnr.imp id fun h => by simp only [noRange, Bool.and_eq_true] at h; exact h.1) hd.1 he H hn hf (fun a1 w1 ρ1 k1 z1 z2 z3 z4 z5 => ?_)
      exact ih2 (hnr.imp id fun h => by simp only [noRange, Bool.and_eq_true] at h; exact h.2) hd.2 z1 z3 z4 hr (hk.next z2 z5)
    · rename_i hne
      refine ih1 (hnr.imp id fun h => by simp only [noRange, Bool.and_eq_true] at h; exact h.1) hd.1 he H hn hr (fun a1 w1 ρ1 k1 z1 z2 z3 z4 z5 => ?_)
      have := hk a1 w1 ρ1 k1 z1 z2 z3 z4 z5
      cases x with
      | normal => exact absurd hr (hne _ _)
      | exit id => exact this
      | goto l => exact this
      | ret => exact this
  | cond c c1 c2 ih1 ih2 =>
    intro r m w0 Q ρ e e' h h' a w x hnr hd he H hn hr hk
    simp only [dstsIn, Bool.and_eq_true] at hd
    simp only [execE] at hr
    split at hr
    · rename_i hc
      exact wpIn_cond_true (rdE_sound he c _ hc).bool_inv (ih1 (hnr.imp id fun h => by simp only [noRange, Bool.and_eq_true] at h; exact h.1) hd.1 he H hn hr hk)
    · rename_i hc
      exact wpIn_cond_false (rdE_sound he c _ hc).bool_inv (ih2 (hnr.imp id fun h => by simp only [noRange, Bool.and_eq_true] at h; exact h.2) hd.2 he H hn hr hk)
    · rename_i hc
      split at hr
      case h_2 => cases hr
      rename_i e1 h1 hx
      split at hr
      case h_2 => cases hr
      rename_i e2 h2 hy
      split at hr
      case h_2 => cases hr
      rename_i h3 hj
      simp only [Option.some.injEq, Prod.mk.injEq] at hr; obtain ⟨rfl, rfl, rfl⟩ := hr
      have hv := rdE_sound he c _ hc
      have k1 := ih1 (m := m) (Q := Q) (hnr.imp id fun h => by simp only [noRange, Bool.and_eq_true] at h; exact h.1) hd.1 he H hn hx fun a' w' ρ' k1 y1 y2 y3 y4 y5 => hk a' w' ρ' k1 (fun s => join_left (y1 s)) y2 (Hp.join_left hj y3) y4 y5
      have k2 := ih2 (m := m) (Q := Q) (hnr.imp id fun h => by simp only [noRange, Bool.and_eq_true] at h; exact h.2) hd.2 he H hn hy fun a' w' ρ' k1 y1 y2 y3 y4 y5 => hk a' w' ρ' k1 (fun s => join_right (y1 s)) y2 (Hp.join_right hj y3) y4 y5
      have hb : ∃ b, a.eval c = .bool b := by
        generalize a.eval c = u at hv
        cases hv with
        | anyb b => exact ⟨b, rfl⟩
      obtain ⟨b, hb⟩ := hb
      cases b
      · exact wpIn_cond_false hb k2
      · exact wpIn_cond_true hb k1
    · cases hr
  | block id c1 ih =>
    intro r m w0 Q ρ e e' h h' a w x hnr hd he H hn hr hk
    simp only [execE] at hr
    refine wpIn_block ?_
    split at hr
    · rename_i id' e1 h1 hf
      split at hr
      · rename_i hid
        have hid' := Nat.eq_of_beq_eq_true hid
        simp only [Option.some.injEq, Prod.mk.injEq] at hr
        obtain ⟨rfl, rfl, rfl⟩ := hr
        refine ih hnr hd he H hn hf (fun a1 w1 ρ1 k1 z1 z2 z3 z4 z5 => ?_)
        show Exit.inBlock id Q (.exit id') a1 w1
        simp only [Exit.inBlock, hid', if_true]
        exact hk a1 w1 ρ1 k1 z1 z2 z3 z4 z5
      · rename_i hid
        have hid' : id' ≠ id := Nat.ne_of_beq_eq_false hid
        simp only [Option.some.injEq, Prod.mk.injEq] at hr
        obtain ⟨rfl, rfl, rfl⟩ := hr
        refine ih hnr hd he H hn hf (fun a1 w1 ρ1 k1 z1 z2 z3 z4 z5 => ?_)
        show Exit.inBlock id Q (.exit id') a1 w1
        simp only [Exit.inBlock, hid', if_false]
        exact hk a1 w1 ρ1 k1 z1 z2 z3 z4 z5
    · rename_i hne
      refine ih hnr hd he H hn hr (fun a1 w1 ρ1 k1 z1 z2 z3 z4 z5 => ?_)
      have := hk a1 w1 ρ1 k1 z1 z2 z3 z4 z5
      cases x with
      | normal => exact this
      | exit id' => exact absurd hr (hne _ _ _)
      | goto l => exact this
      | ret => exact this
  | loop c1 ih =>
    intro r m w0 Q ρ e e' h h' a w x hnr hd he H hn hr hk
    simp only [execE] at hr
    exact wpIn_loop_rounds lim (loop_sound (f := execE C lim c1) (fun he H hn hr hk => ih hnr hd he H hn hr hk) lim he H hn hr hk)
  | exit id =>
    intro r m w0 Q ρ e e' h h' a w x _ _ he H hn hr hk
    simp only [execE, Option.some.injEq, Prod.mk.injEq] at hr
    obtain ⟨rfl, rfl, rfl⟩ := hr
    exact wpIn_exit (hk a w ρ [] he (.refl _) H hn (.refl _ _ _))
  | label l =>
    intro r m w0 Q ρ e e' h h' a w x _ _ he H hn hr hk
    simp only [execE, Option.some.injEq, Prod.mk.injEq] at hr
    obtain ⟨rfl, rfl, rfl⟩ := hr
    exact wpIn_label (hk a w ρ [] he (.refl _) H hn (.refl _ _ _))
  | goto l =>
    intro r m w0 Q ρ e e' h h' a w x _ _ he H hn hr hk
    simp only [execE, Option.some.injEq, Prod.mk.injEq] at hr
    obtain ⟨rfl, rfl, rfl⟩ := hr
    exact wpIn_goto (hk a w ρ [] he (.refl _) H hn (.refl _ _ _))
  | ret =>
    intro r m w0 Q ρ e e' h h' a w x _ _ he H hn hr hk
    simp only [execE, Option.some.injEq, Prod.mk.injEq] at hr
    obtain ⟨rfl, rfl, rfl⟩ := hr
    exact wpIn_ret (hk a w ρ [] he (.refl _) H hn (.refl _ _ _))
  | rangeFunc f ps cx cy ihx ihy =>
    intro r m w0 Q ρ e e' h h' a w x hnr hd he H hn hr hk
    obtain rfl : r = none := hnr.resolve_right (by simp [noRange])
    simp only [dstsIn, Bool.and_eq_true] at hd
    simp only [execE] at hr
    split at hr
    case h_2 => cases hr
    rename_i vf hvf
    have hok : noRange cx = true ∧ noRange cy = true := by
      cases hb : (noRange cx && noRange cy) with
      | true => simpa using hb
      | false =>
        rw [hb] at hr
        unfold rangeE at hr
        split at hr
        · rename_i hh; cases hh
        · cases hr
    exact range_sound hctx hm (fun he H hn hr hk => ihx (.inr hok.1) hd.2.1 he H hn hr hk) (fun he H hn hr hk => ihy (.inr hok.2) hd.2.2 he H hn hr hk) hd.1 he H hn hvf hr hk
  | _ => intro r m w0 Q ρ e e' h h' a w x _ _ he H hn hr hk; simp only [execE] at hr; cases hr

theorem results_sound {ρ : Ren} {h : Hp} {w : World} (H : Rel C.Γ N0 w0 ρ h w) {e : Env} {tm : Array Value} (he : EnvR ρ e tm) {fn : Func} {v : V} (hl : leaveE C.P C.Γ fn.results.toList e h = some v) :
    ∃ u, (results fn tm).run C.P w = .ok u w ∧ VR ρ v u := by
  have one : ∀ (r : ResultVar) x, resE C.P C.Γ e h r = some x → ∃ u, ((fun r : ResultVar => match r with | .tmp t => pure (tm.getD t undef) | .cell a t => do loadVar t (← asAddr (tm.getD a undef)) : ResultVar → Sem Value) r).run C.P w = .ok u w ∧ VR ρ x u := by
    intro r x hx
    cases r with
    | tmp t => simp only [resE, Option.some.injEq] at hx; subst hx; exact ⟨_, rfl, he t⟩
    | cell a T =>
      simp only [resE] at hx
      obtain ⟨y, r1, r2⟩ := opLoad_sound (P := C.P) H (he a) hx
      refine ⟨y, ?_, r2⟩
      have hp : ∃ ad, tm.getD a undef = .pointer (some ad) := by
        have hv := he a
        unfold opLoad at hx
        split at hx
        · rename_i hc _
          obtain ⟨b, o, e1, _⟩ := cellsAt_sound H hv hc; exact ⟨_, e1⟩
        · rename_i hc _
          obtain ⟨b, o, e1, _⟩ := cellsAt_sound H hv hc; exact ⟨_, e1⟩
        · cases hx
      obtain ⟨ad, had⟩ := hp
      rw [had] at r1
      simp only [Instr.loadAt, Instr.sureAddr, Sem.run_bind, Sem.run_pure, Result.andThen_ok] at r1
      simp only [had, asAddr, Sem.run_bind, Sem.run_pure, Result.andThen_ok]
      exact r1
  have many : ∀ (rs : List ResultVar) (vs : List V), mapC (resE C.P C.Γ e h) rs = some vs → ∃ us : List Value, (rs.mapM (fun r : ResultVar => match r with | .tmp t => pure (tm.getD t undef) | .cell a t => do loadVar t (← asAddr (tm.getD a undef)) : ResultVar → Sem Value)).run C.P w = .ok us w ∧ VRs ρ vs us := by
    intro rs
    induction rs with
    | nil => intro vs hv; simp only [mapC, Option.some.injEq] at hv; subst hv; exact ⟨[], rfl, .nil _⟩
    | cons r rs ih =>
      intro vs hv
      simp only [mapC] at hv
      split at hv
      · rename_i x l h1 h2
        simp only [Option.some.injEq] at hv; subst hv
        obtain ⟨u, r1, r2⟩ := one r x h1
        obtain ⟨us, s1, s2⟩ := ih l h2
        refine ⟨u :: us, ?_, .cons r2 s2⟩
        simp only [List.mapM_cons, Sem.run_bind, r1, Result.andThen_ok, s1, Sem.run_pure]
      · cases hv
  unfold leaveE at hl
  have fin : ∀ vs, mapC (resE C.P C.Γ e h) fn.results.toList = some vs → ∃ us : List Value, VRs ρ vs us ∧ (results fn tm).run C.P w = .ok (if h : us.toArray.size = 1 then us.toArray[0] else Value.tuple us.toArray) w := by
    intro vs hvs
    obtain ⟨us, r1, r2⟩ := many _ _ hvs
    refine ⟨us, r2, ?_⟩
    unfold results
    rw [Array.mapM_eq_mapM_toList]
    simp only [Sem.run_bind, Sem.run_map, Sem.run_pure]
    refine Eq.trans (congrArg (fun r : Result (List Value) => (r.andThen fun a w' => .ok a.toArray w').andThen fun a w' => .ok (if h : a.size = 1 then a[0] else Value.tuple a) w') r1) ?_
    simp only [Result.andThen_ok]
  split at hl
  · rename_i v' hvs
    simp only [Option.some.injEq] at hl; subst hl
    obtain ⟨us, h1, h2⟩ := fin _ hvs
    obtain ⟨u, us', rfl, h3, h4⟩ := h1.cons_inv
    obtain rfl := h4.nil_inv
    exact ⟨u, by rw [h2]; rfl, h3⟩
  · rename_i vs hne hvs
    simp only [Option.some.injEq] at hl; subst hl
    obtain ⟨us, h1, h2⟩ := fin _ hvs
    refine ⟨.tuple us.toArray, ?_, VRs.tup (by simpa using h1)⟩
    rw [h2]
    have : ¬ us.toArray.size = 1 := by
      intro hh
      have hlen : vs.length = 1 := by rw [h1.1]; simpa using hh
      cases vs with
      | nil => simp at hlen
      | cons x r => cases r with
        | nil => exact hne x rfl
        | cons _ _ => simp at hlen
    rw [dif_neg this]
  · cases hl

theorem leaves_marks {ρ : Ren} {h : Hp} {fn : Func} {tm : Array Value} {R : Ending → World → Prop} {m : Nat} (hR : ∀ w2, Rel C.Γ N0 w0 ρ h w2 → ∃ u, (results fn tm).run C.P w2 = .ok u w2 ∧ R (.returned u) w2) :
    ∀ (bs : List Nat) (kk : List (Nat × Obj)) {w : World}, Rel C.Γ N0 ⟨w0.w, w0.K, w0.r, kk⟩ ρ h w → bs.Nodup → (∀ b ∈ bs, (b, Obj.deferred (some [])) ∈ kk ∧ N0 ≤ b) → (∀ p ∈ w0.keep, p ∈ kk ∧ p.1 ∉ bs) → (w0.keep.map (·.1)).Nodup →
    LeavesInM (FW none) m C.P fn tm R (bs.map markOf) .returning w := by
  intro bs
  induction bs with
  | nil =>
    intro kk w H _ _ hs hn
    exact hR w (H.keepLess (fun p hp => (hs p hp).1) hn)
  | cons b bs ih =>
    intro kk w H hnd hb hs hn
    rw [List.nodup_cons] at hnd
    obtain ⟨b1, b2⟩ := hb b List.mem_cons_self
    have hbo := (H.kept.2 b _ b1).1
    refine ⟨by simp, .inl ⟨b, w.putObj b (.deferred none), rfl, run_takeDeferred hbo, ?_⟩⟩
    refine ih _ (H.putKept (o' := .deferred none) b1 b2 (fun _ _ _ hh => by cases hh)) hnd.2 (fun c hc => ?_) (fun p hp => ?_) hn
    · obtain ⟨c1, c2⟩ := hb c (List.mem_cons_of_mem _ hc)
      refine ⟨List.mem_cons_of_mem _ (List.mem_filter.2 ⟨c1, ?_⟩), c2⟩
      have : c ≠ b := fun e => hnd.1 (e ▸ hc)
      simpa using this
    · obtain ⟨p1, p2⟩ := hs p hp
      have : p.1 ≠ b := fun e => p2 (by rw [e]; exact List.mem_cons_self)
      exact ⟨List.mem_cons_of_mem _ (List.mem_filter.2 ⟨p1, by simpa using this⟩), fun hh => p2 (List.mem_cons_of_mem _ hh)⟩

theorem callE_sound (hctx : CtxOk C) (hm : C.P.follows .mixedOrders = true) (lim : Nat) (f : FuncId) : Sound C.P C.Γ f (callE C lim f) := by
  intro args h r h' hs N0 w0 ρ w us H hv
  unfold callE at hs
  split at hs
  · rename_i fn hf
    split at hs
    · rename_i c hb
      split at hs
      · rename_i hc
        simp only [Bool.and_eq_true] at hc
        have hlen := Nat.le_of_ble_eq_true hc.1
        have hl : us.size = args.length := by simpa using hv.1.symm
        have go : ∀ (x : AX) (e : Env) (h1 : Hp) (v : V), execE C lim c (enterE 0 args .leaf) h = some (x, e, h1) → (x = .normal ∨ x = .ret) → leaveE C.P C.Γ fn.results.toList e h1 = some v → v = r ∧ h1 = h' →
            Calls C.P f us w (fun e w' => ∃ ρ' v, e = .returned v ∧ Ext ρ ρ' ∧ Rel C.Γ N0 w0 ρ' h' w' ∧ VR ρ' r v) := by
          rintro x e h1 v he hx hlv ⟨rfl, rfl⟩
          refine (callsIn_fw (r := none) (m := 0)).1 (callsIn_of_wp_marks hf hb trivial ?_)
          refine execE_sound hctx hm c (n := fn.ntmps) (r := none) (a := ⟨us ++ Array.replicate (fn.ntmps - us.size) undef, []⟩) (.inl rfl) hc.2 (enter_EnvR hv _) H (by simp; omega) he ?_
          intro a' w' ρ' k z1 z2 z3 z4 z5
          obtain ⟨bs, hl1, hl2, hl3⟩ := z5
          have hnn : ((k ++ w0.keep).map (·.1)).Nodup := z3.kept.1
          rw [List.map_append, List.nodup_append] at hnn
          have key := leaves_marks (w0 := w0) (R := fun e w' => ∃ ρ' v', e = .returned v' ∧ Ext ρ ρ' ∧ Rel C.Γ N0 w0 ρ' h1 w' ∧ VR ρ' v v') (fn := fn) (tm := a'.tmps) (m := 0) (fun w2 H2 => by
            obtain ⟨u, q1, q2⟩ := results_sound H2 z1 hlv
            exact ⟨u, q1, ρ', u, rfl, z2, H2, q2⟩) bs (k ++ w0.keep) z3 hl2 (fun b hb => ⟨List.mem_append_left _ (hl3 b hb).1, (hl3 b hb).2⟩) (fun p hp => ⟨List.mem_append_right _ hp, fun hh =>
              hnn.2.2 p.1 (List.mem_map.2 ⟨_, (hl3 _ hh).1, rfl⟩) p.1 (List.mem_map.2 ⟨_, hp, rfl⟩) rfl⟩) hnn.2.1
          rw [List.append_nil] at hl1
          rcases hx with rfl | rfl
          · show LeavesInM (FW none) 0 C.P fn a'.tmps _ a'.defers .returning w'
            rw [hl1]; exact key
          · show LeavesInM (FW none) 0 C.P fn a'.tmps _ a'.defers .returning w'
            rw [hl1]; exact key
        split at hs
        · rename_i e h1 he
          split at hs
          · rename_i v hlv
            simp only [Option.some.injEq, Prod.mk.injEq] at hs
            exact go _ e h1 v he (.inl rfl) hlv hs
          · cases hs
        · rename_i e h1 he
          split at hs
          · rename_i v hlv
            simp only [Option.some.injEq, Prod.mk.injEq] at hs
            exact go _ e h1 v he (.inr rfl) hlv hs
          · cases hs
        · cases hs
      · cases hs
    · cases hs
  · cases hs

end

/-! ## The whole program -/

structure ProgOk (P : Program) (Γ : Glob) (ext : FuncId → Option (List V → Option V)) (bodies : Tr Unit) (extra : FuncId → Option Spec) : Prop where
  draws : P.follows .mixedOrders = true
  ext : ∀ f e, ext f = some e → ExtOk P f e
  body : ∀ f, inTr bodies f = true → isBody P f = true
  extra : ∀ f s, extra f = some s → CalleeOk P Γ f s

theorem runF_sound {P : Program} {Γ : Glob} {pure closed : FuncId → Bool} {ext : FuncId → Option (List V → Option V)} {bodies : Tr Unit} {extra : FuncId → Option Spec} {lim : Nat} (hp : ProgOk P Γ ext bodies extra) :
    ∀ (k : Nat) (f : FuncId), Sound P Γ f (runF P Γ pure closed ext bodies extra lim k f) := by
  intro k
  induction k with
  | zero => intro f args h r h' hs; cases hs
  | succ k ih =>
    intro f
    refine callE_sound (C := ⟨P, Γ, _, pure, ext, closed⟩) ⟨fun g spec hg => ?_, hp.ext⟩ hp.draws lim f
    simp only at hg
    split at hg
    · rename_i s hs
      simp only [Option.some.injEq] at hg; subst hg
      exact hp.extra g s hs
    · split at hg
      · rename_i u hu
        simp only [Option.some.injEq] at hg; subst hg
        refine .inl ⟨hp.body g ?_, ih g⟩
        unfold inTr; rw [hu]
      · cases hg

/-- what a run from an empty heap gives: whatever the world -/
theorem runs_calls {P : Program} {Γ : Glob} {f : FuncId} {spec : Spec} (hs : Sound P Γ f spec) {args : List V} {r : V} {h' : Hp} (hr : spec args Hp.empty = some (r, h')) (hrd : r.isData = true)
    {w : World} {us : Array Value} (hg : GlobOk Γ w.heap.size w) (hv : VRs (fun _ => none) args us.toList) :
    Calls P f us w (fun e w' => ∃ v, e = .returned v ∧ VR (fun _ => none) r v ∧ Below w.heap.size w w') := by
  refine (hs _ _ _ _ hr w.heap.size _ _ w us (Rel.start hg) hv).mono ?_
  rintro e w' ⟨ρ', v, rfl, _, k1, k2⟩
  exact ⟨v, rfl, isData_none_all _ _ _ k2 hrd, k1.below⟩

end Go.Proofs.YtbfdgdigaiimgaaDoor.HM
