/- The heap machine, 11: code, functions, the whole program. -/
import Derived.Test.YtinaapfnfiijnaaGreatDoorH10
namespace Go.Proofs.YtinaapfnfiijnaaGreatDoor.HM
open Go Go.RowKit

def AX.to : AX → Exit
  | .normal => .normal
  | .exit id => .exit id
  | .goto l => .goto l
  | .ret => .ret

section
variable {C : Cfg} {N0 : Nat} {w0 : World}

theorem Behind.next {n : Nat} {ρ ρ1 : Ren} {e' : Env} {h' : Hp} {a a1 : Act} {K : Act → World → Prop} (h : Behind C N0 w0 n ρ e' h' a K) (hx : Ext ρ ρ1) (hd : a1.defers = a.defers) : Behind C N0 w0 n ρ1 e' h' a1 K :=
  fun a2 w2 ρ2 z1 z2 z3 z4 z5 => h a2 w2 ρ2 z1 (hx.trans z2) z3 z4 (z5.trans hd)

theorem loop_sound {b : Code} {n : Nat} {f : Env → Hp → Option (AX × Env × Hp)}
    (hb : ∀ {Q : Exit → Act → World → Prop} {ρ : Ren} {e e' : Env} {h h' : Hp} {a : Act} {w : World} {x : AX}, EnvR ρ e a.tmps → Rel C.Γ N0 w0 ρ h w → a.tmps.size = n → f e h = some (x, e', h') → Behind C N0 w0 n ρ e' h' a (Q x.to) → b.wp C.P Q a w)
    {Q : Exit → Act → World → Prop} : ∀ (m : Nat) {ρ : Ren} {e e' : Env} {h h' : Hp} {a : Act} {w : World} {x : AX},
    EnvR ρ e a.tmps → Rel C.Γ N0 w0 ρ h w → a.tmps.size = n → loopE f m e h = some (x, e', h') → Behind C N0 w0 n ρ e' h' a (Q x.to) → Code.rounds C.P b Q m a w := by
  intro m
  induction m with
  | zero => intro ρ e e' h h' a w x _ _ _ hr _; cases hr
  | succ m ih =>
    intro ρ e e' h h' a w x he H hn hr hk
    rw [rounds_succ]
    simp only [loopE] at hr
    split at hr
    · rename_i e1 h1 hf
      refine hb he H hn hf (Q := Exit.then (Code.rounds C.P b Q m) Q) (fun a1 w1 ρ1 z1 z2 z3 z4 z5 => ?_)
      exact ih z1 z3 z4 hr (hk.next z2 z5)
    · rename_i hne
      refine hb he H hn hr (Q := Exit.then (Code.rounds C.P b Q m) Q) (fun a1 w1 ρ1 z1 z2 z3 z4 z5 => ?_)
      have := hk a1 w1 ρ1 z1 z2 z3 z4 z5
      cases x with
      | normal => exact absurd hr (hne _ _)
      | exit id => exact this
      | goto l => exact this
      | ret => exact this

theorem execE_sound (hctx : CtxOk C) (hm : C.P.follows .mixedOrders = true) {lim n : Nat} : ∀ (c : Code) {Q : Exit → Act → World → Prop} {ρ : Ren} {e e' : Env} {h h' : Hp} {a : Act} {w : World} {x : AX}, dstsIn n c = true →
    EnvR ρ e a.tmps → Rel C.Γ N0 w0 ρ h w → a.tmps.size = n → execE C lim c e h = some (x, e', h') → Behind C N0 w0 n ρ e' h' a (Q x.to) → c.wp C.P Q a w := by
  intro c
  induction c with
  | skip =>
    intro Q ρ e e' h h' a w x _ he H hn hr hk
    simp only [execE, Option.some.injEq, Prod.mk.injEq] at hr
    obtain ⟨rfl, rfl, rfl⟩ := hr
    exact wp_skip (hk a w ρ he (.refl _) H hn rfl)
  | region id ops draw =>
    intro Q ρ e e' h h' a w x hd he H hn hr hk
    simp only [execE] at hr
    split at hr
    · rename_i e1 h1 h2
      simp only [Option.some.injEq, Prod.mk.injEq] at hr
      obtain ⟨rfl, rfl, rfl⟩ := hr
      exact region_sound hctx hm hd he H hn h2 hk
    · cases hr
  | seq c1 c2 ih1 ih2 =>
    intro Q ρ e e' h h' a w x hd he H hn hr hk
    simp only [dstsIn, Bool.and_eq_true] at hd
    simp only [execE] at hr
    refine wp_seq ?_
    split at hr
    · rename_i e1 h1 hf
      refine ih1 hd.1 he H hn hf (fun a1 w1 ρ1 z1 z2 z3 z4 z5 => ?_)
      exact ih2 hd.2 z1 z3 z4 hr (hk.next z2 z5)
    · rename_i hne
      refine ih1 hd.1 he H hn hr (fun a1 w1 ρ1 z1 z2 z3 z4 z5 => ?_)
      have := hk a1 w1 ρ1 z1 z2 z3 z4 z5
      cases x with
      | normal => exact absurd hr (hne _ _)
      | exit id => exact this
      | goto l => exact this
      | ret => exact this
  | cond c c1 c2 ih1 ih2 =>
    intro Q ρ e e' h h' a w x hd he H hn hr hk
    simp only [dstsIn, Bool.and_eq_true] at hd
    simp only [execE] at hr
    split at hr
    · rename_i hc
      exact wp_cond_true (rdE_sound he c _ hc).bool_inv (ih1 hd.1 he H hn hr hk)
    · rename_i hc
      exact wp_cond_false (rdE_sound he c _ hc).bool_inv (ih2 hd.2 he H hn hr hk)
    · rename_i hc
      split at hr
      case h_2 => cases hr
      rename_i e1 h1 hx
      split at hr
      case h_2 => cases hr
      rename_i e2 h2 hy
      split at hr
      case h_2 => cases hr
      rename_i h3 hj
      simp only [Option.some.injEq, Prod.mk.injEq] at hr; obtain ⟨rfl, rfl, rfl⟩ := hr
      have hv := rdE_sound he c _ hc
      have k1 := ih1 (Q := Q) hd.1 he H hn hx fun a' w' ρ' y1 y2 y3 y4 y5 => hk a' w' ρ' (fun s => join_left (y1 s)) y2 (Hp.join_left hj y3) y4 y5
      have k2 := ih2 (Q := Q) hd.2 he H hn hy fun a' w' ρ' y1 y2 y3 y4 y5 => hk a' w' ρ' (fun s => join_right (y1 s)) y2 (Hp.join_right hj y3) y4 y5
      have hb : ∃ b, a.eval c = .bool b := by
        generalize a.eval c = u at hv
        cases hv with
        | anyb b => exact ⟨b, rfl⟩
      obtain ⟨b, hb⟩ := hb
      cases b
      · exact wp_cond_false hb k2
      · exact wp_cond_true hb k1
    · cases hr
  | block id c1 ih =>
    intro Q ρ e e' h h' a w x hd he H hn hr hk
    simp only [execE] at hr
    refine wp_block ?_
    split at hr
    · rename_i id' e1 h1 hf
      split at hr
      · rename_i hid
        have hid' := Nat.eq_of_beq_eq_true hid
        simp only [Option.some.injEq, Prod.mk.injEq] at hr
        obtain ⟨rfl, rfl, rfl⟩ := hr
        refine ih hd he H hn hf (fun a1 w1 ρ1 z1 z2 z3 z4 z5 => ?_)
        show Exit.inBlock id Q (.exit id') a1 w1
        simp only [Exit.inBlock, hid', if_true]
        exact hk a1 w1 ρ1 z1 z2 z3 z4 z5
      · rename_i hid
        have hid' : id' ≠ id := Nat.ne_of_beq_eq_false hid
        simp only [Option.some.injEq, Prod.mk.injEq] at hr
        obtain ⟨rfl, rfl, rfl⟩ := hr
        refine ih hd he H hn hf (fun a1 w1 ρ1 z1 z2 z3 z4 z5 => ?_)
        show Exit.inBlock id Q (.exit id') a1 w1
        simp only [Exit.inBlock, hid', if_false]
        exact hk a1 w1 ρ1 z1 z2 z3 z4 z5
    · rename_i hne
      refine ih hd he H hn hr (fun a1 w1 ρ1 z1 z2 z3 z4 z5 => ?_)
      have := hk a1 w1 ρ1 z1 z2 z3 z4 z5
      cases x with
      | normal => exact this
      | exit id' => exact absurd hr (hne _ _ _)
      | goto l => exact this
      | ret => exact this
  | loop c1 ih =>
    intro Q ρ e e' h h' a w x hd he H hn hr hk
    simp only [execE] at hr
    exact wp_loop_rounds lim (loop_sound (f := execE C lim c1) (fun he H hn hr hk => ih hd he H hn hr hk) lim he H hn hr hk)
  | exit id =>
    intro Q ρ e e' h h' a w x _ he H hn hr hk
    simp only [execE, Option.some.injEq, Prod.mk.injEq] at hr
    obtain ⟨rfl, rfl, rfl⟩ := hr
    exact wp_exit (hk a w ρ he (.refl _) H hn rfl)
  | label l =>
    intro Q ρ e e' h h' a w x _ he H hn hr hk
    simp only [execE, Option.some.injEq, Prod.mk.injEq] at hr
    obtain ⟨rfl, rfl, rfl⟩ := hr
    exact wp_label (hk a w ρ he (.refl _) H hn rfl)
  | goto l =>
    intro Q ρ e e' h h' a w x _ he H hn hr hk
    simp only [execE, Option.some.injEq, Prod.mk.injEq] at hr
    obtain ⟨rfl, rfl, rfl⟩ := hr
    exact wp_goto (hk a w ρ he (.refl _) H hn rfl)
  | ret =>
    intro Q ρ e e' h h' a w x _ he H hn hr hk
    simp only [execE, Option.some.injEq, Prod.mk.injEq] at hr
    obtain ⟨rfl, rfl, rfl⟩ := hr
    exact wp_ret (hk a w ρ he (.refl _) H hn rfl)
  | _ => intro Q ρ e e' h h' a w x _ he H hn hr hk; simp only [execE] at hr; cases hr

theorem lookup_enterE : ∀ (args : List V) (i : Nat) (e : Env) (s : Nat), Env.get (enterE i args e) s = if i ≤ s ∧ s < i + args.length then args.getD (s - i) (.tup []) else Env.get e s := by
  intro args
  induction args with
  | nil => intro i e s; simp only [enterE, List.length_nil]; rw [if_neg (by omega)]
  | cons v r ih =>
    intro i e s
    simp only [enterE, ih, List.length_cons]
    by_cases h : i + 1 ≤ s ∧ s < i + 1 + r.length
    · rw [if_pos h, if_pos (by omega)]
      obtain ⟨k, rfl⟩ : ∃ k, s = i + 1 + k := ⟨s - (i + 1), by omega⟩
      rw [show i + 1 + k - (i + 1) = k by omega, show i + 1 + k - i = k + 1 by omega]
      simp
    · rw [if_neg h]
      have hp := env_get_put e i v s
      simp only [Env.put] at hp
      rw [hp]
      by_cases hs : s = i
      · subst hs; rw [if_pos rfl, if_pos (by omega)]; simp
      · rw [if_neg hs, if_neg (by omega)]

theorem enter_EnvR {ρ : Ren} {args : List V} {us : Array Value} (hv : VRs ρ args us.toList) (m : Nat) : EnvR ρ (enterE 0 args .leaf) (us ++ Array.replicate m undef) := by
  intro s
  have hl : us.size = args.length := by simpa using hv.1.symm
  rw [lookup_enterE]
  by_cases hs : s < args.length
  · rw [if_pos (by omega)]
    have h1 : args[s]? = some args[s] := by simp
    obtain ⟨u, hu, hr⟩ := hv.get h1
    have hu' : us[s]? = some u := by simpa using hu
    rw [Nat.sub_zero, List.getD_eq_getElem?_getD, h1]
    rw [Array.getD_eq_getD_getElem?, Array.getElem?_append_left (by omega), hu']
    exact hr
  · rw [if_neg (by omega)]
    have e1 : Env.get .leaf s = .tup [] := rfl
    rw [e1, Array.getD_eq_getD_getElem?, Array.getElem?_append_right (by omega)]
    have : (Array.replicate m undef)[s - us.size]?.getD undef = undef := by
      rw [Array.getElem?_replicate]; split <;> rfl
    rw [this]; exact undef_VR _

theorem results_sound {ρ : Ren} {h : Hp} {w : World} (H : Rel C.Γ N0 w0 ρ h w) {e : Env} {tm : Array Value} (he : EnvR ρ e tm) {fn : Func} {v : V} (hl : leaveE C.P C.Γ fn.results.toList e h = some v) :
    ∃ u, (results fn tm).run C.P w = .ok u w ∧ VR ρ v u := by
  have one : ∀ (r : ResultVar) x, resE C.P C.Γ e h r = some x → ∃ u, ((fun r : ResultVar => match r with | .tmp t => pure (tm.getD t undef) | .cell a t => do loadVar t (← asAddr (tm.getD a undef)) : ResultVar → Sem Value) r).run C.P w = .ok u w ∧ VR ρ x u := by
    intro r x hx
    cases r with
    | tmp t => simp only [resE, Option.some.injEq] at hx; subst hx; exact ⟨_, rfl, he t⟩
    | cell a T =>
      simp only [resE] at hx
      obtain ⟨y, r1, r2⟩ := opLoad_sound (P := C.P) H (he a) hx
      refine ⟨y, ?_, r2⟩
      have hp : ∃ ad, tm.getD a undef = .pointer (some ad) := by
        have hv := he a
        unfold opLoad at hx
        split at hx
        · rename_i hc _
          obtain ⟨b, o, e1, _⟩ := cellsAt_sound H hv hc; exact ⟨_, e1⟩
        · rename_i hc _
          obtain ⟨b, o, e1, _⟩ := cellsAt_sound H hv hc; exact ⟨_, e1⟩
        · cases hx
      obtain ⟨ad, had⟩ := hp
      rw [had] at r1
      simp only [Instr.loadAt, Instr.sureAddr, Sem.run_bind, Sem.run_pure, Result.andThen_ok] at r1
      simp only [had, asAddr, Sem.run_bind, Sem.run_pure, Result.andThen_ok]
      exact r1
  have many : ∀ (rs : List ResultVar) (vs : List V), mapC (resE C.P C.Γ e h) rs = some vs → ∃ us : List Value, (rs.mapM (fun r : ResultVar => match r with | .tmp t => pure (tm.getD t undef) | .cell a t => do loadVar t (← asAddr (tm.getD a undef)) : ResultVar → Sem Value)).run C.P w = .ok us w ∧ VRs ρ vs us := by
    intro rs
    induction rs with
    | nil => intro vs hv; simp only [mapC, Option.some.injEq] at hv; subst hv; exact ⟨[], rfl, .nil _⟩
    | cons r rs ih =>
      intro vs hv
      simp only [mapC] at hv
      split at hv
      · rename_i x l h1 h2
        simp only [Option.some.injEq] at hv; subst hv
        obtain ⟨u, r1, r2⟩ := one r x h1
        obtain ⟨us, s1, s2⟩ := ih l h2
        refine ⟨u :: us, ?_, .cons r2 s2⟩
        simp only [List.mapM_cons, Sem.run_bind, r1, Result.andThen_ok, s1, Sem.run_pure]
      · cases hv
  unfold leaveE at hl
  have fin : ∀ vs, mapC (resE C.P C.Γ e h) fn.results.toList = some vs → ∃ us : List Value, VRs ρ vs us ∧ (results fn tm).run C.P w = .ok (if h : us.toArray.size = 1 then us.toArray[0] else Value.tuple us.toArray) w := by
    intro vs hvs
    obtain ⟨us, r1, r2⟩ := many _ _ hvs
    refine ⟨us, r2, ?_⟩
    unfold results
    rw [Array.mapM_eq_mapM_toList]
    simp only [Sem.run_bind, Sem.run_map, Sem.run_pure]
    refine Eq.trans (congrArg (fun r : Result (List Value) => (r.andThen fun a w' => .ok a.toArray w').andThen fun a w' => .ok (if h : a.size = 1 then a[0] else Value.tuple a) w') r1) ?_
    simp only [Result.andThen_ok]
  split at hl
  · rename_i v' hvs
    simp only [Option.some.injEq] at hl; subst hl
    obtain ⟨us, h1, h2⟩ := fin _ hvs
    obtain ⟨u, us', rfl, h3, h4⟩ := h1.cons_inv
    obtain rfl := h4.nil_inv
    exact ⟨u, by rw [h2]; rfl, h3⟩
  · rename_i vs hne hvs
    simp only [Option.some.injEq] at hl; subst hl
    obtain ⟨us, h1, h2⟩ := fin _ hvs
    refine ⟨.tuple us.toArray, ?_, VRs.tup (by simpa using h1)⟩
    rw [h2]
    have : ¬ us.toArray.size = 1 := by
      intro hh
      have hlen : vs.length = 1 := by rw [h1.1]; simpa using hh
      cases vs with
      | nil => simp at hlen
      | cons x r => cases r with
        | nil => exact hne x rfl
        | cons _ _ => simp at hlen
    rw [dif_neg this]
  · cases hl

theorem callE_sound (hctx : CtxOk C) (hm : C.P.follows .mixedOrders = true) (lim : Nat) (f : FuncId) : Sound C.P C.Γ f (callE C lim f) := by
  intro args h r h' hs N0 w0 ρ w us H hv
  unfold callE at hs
  split at hs
  · rename_i fn hf
    split at hs
    · rename_i c hb
      split at hs
      · rename_i hc
        simp only [Bool.and_eq_true] at hc
        have hlen := Nat.le_of_ble_eq_true hc.1
        have hl : us.size = args.length := by simpa using hv.1.symm
        have go : ∀ (x : AX) (e : Env) (h1 : Hp) (v : V), execE C lim c (enterE 0 args .leaf) h = some (x, e, h1) → (x = .normal ∨ x = .ret) → leaveE C.P C.Γ fn.results.toList e h1 = some v → v = r ∧ h1 = h' →
            Calls C.P f us w (fun e w' => ∃ ρ' v, e = .returned v ∧ Ext ρ ρ' ∧ Rel C.Γ N0 w0 ρ' h' w' ∧ VR ρ' r v) := by
          rintro x e h1 v he hx hlv ⟨rfl, rfl⟩
          refine calls_of_wp hf hb ?_
          refine execE_sound hctx hm c (n := fn.ntmps) (a := ⟨us ++ Array.replicate (fn.ntmps - us.size) undef, []⟩) hc.2 (enter_EnvR hv _) H (by simp; omega) he ?_
          intro a' w' ρ' z1 z2 z3 z4 z5
          obtain ⟨u, q1, q2⟩ := results_sound z3 z1 hlv
          have d2 : a'.defers = [] := z5
          have key : ∃ u', (results fn a'.tmps).run C.P w' = .ok u' w' ∧ ∃ ρ'' v', Ending.returned u' = .returned v' ∧ Ext ρ ρ'' ∧ Rel C.Γ N0 w0 ρ'' h1 w' ∧ VR ρ'' v v' := ⟨u, q1, ρ', u, rfl, z2, z3, q2⟩
          rcases hx with rfl | rfl
          · exact ⟨d2, key⟩
          · exact ⟨d2, key⟩
        split at hs
        · rename_i e h1 he
          split at hs
          · rename_i v hlv
            simp only [Option.some.injEq, Prod.mk.injEq] at hs
            exact go _ e h1 v he (.inl rfl) hlv hs
          · cases hs
        · rename_i e h1 he
          split at hs
          · rename_i v hlv
            simp only [Option.some.injEq, Prod.mk.injEq] at hs
            exact go _ e h1 v he (.inr rfl) hlv hs
          · cases hs
        · cases hs
      · cases hs
    · cases hs
  · cases hs

end

/-! ## The whole program -/

structure ProgOk (P : Program) (Γ : Glob) (ext : FuncId → Option (List V → Option V)) (bodies : Tr Unit) (extra : FuncId → Option Spec) : Prop where
  draws : P.follows .mixedOrders = true
  ext : ∀ f e, ext f = some e → ExtOk P f e
  body : ∀ f, inTr bodies f = true → isBody P f = true
  extra : ∀ f s, extra f = some s → isBody P f = true ∧ Sound P Γ f s

theorem runF_sound {P : Program} {Γ : Glob} {pure closed : FuncId → Bool} {ext : FuncId → Option (List V → Option V)} {bodies : Tr Unit} {extra : FuncId → Option Spec} {lim : Nat} (hp : ProgOk P Γ ext bodies extra) :
    ∀ (k : Nat) (f : FuncId), Sound P Γ f (runF P Γ pure closed ext bodies extra lim k f) := by
  intro k
  induction k with
  | zero => intro f args h r h' hs; cases hs
  | succ k ih =>
    intro f
    refine callE_sound (C := ⟨P, Γ, _, pure, ext, closed⟩) ⟨fun g spec hg => ?_, hp.ext⟩ hp.draws lim f
    simp only at hg
    split at hg
    · rename_i s hs
      simp only [Option.some.injEq] at hg; subst hg
      exact hp.extra g s hs
    · split at hg
      · rename_i u hu
        simp only [Option.some.injEq] at hg; subst hg
        refine ⟨hp.body g ?_, ih g⟩
        unfold inTr; rw [hu]
      · cases hg

/-- what a run from an empty heap gives: whatever the world -/
theorem runs_calls {P : Program} {Γ : Glob} {f : FuncId} {spec : Spec} (hs : Sound P Γ f spec) {args : List V} {r : V} {h' : Hp} (hr : spec args Hp.empty = some (r, h')) (hrd : r.isData = true)
    {w : World} {us : Array Value} (hg : GlobOk Γ w.heap.size w) (hv : VRs (fun _ => none) args us.toList) :
    Calls P f us w (fun e w' => ∃ v, e = .returned v ∧ VR (fun _ => none) r v ∧ Below w.heap.size w w') := by
  refine (hs _ _ _ _ hr w.heap.size w _ w us (Rel.start hg) hv).mono ?_
  rintro e w' ⟨ρ', v, rfl, _, k1, k2⟩
  exact ⟨v, rfl, isData_none_all _ _ _ k2 hrd, k1.below⟩

end Go.Proofs.YtinaapfnfiijnaaGreatDoor.HM
