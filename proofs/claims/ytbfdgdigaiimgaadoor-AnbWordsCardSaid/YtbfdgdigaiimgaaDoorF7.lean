/- The fast machine, 7: one operation, as decoded. -/
import Derived.Test.YtbfdgdigaiimgaaDoorF6
namespace Go.Proofs.YtbfdgdigaiimgaaDoor.HM
open Go Go.RowKit

section
variable {C : Cfg} {rd : Operand → Option V} {st : List V} {t : Env} {h : Hp} {ra : Operand → Option FA}

theorem isIntT_inv {P : Program} {T : TypeId} {k : IntKind} (h : isIntT P T = some k) : P.underlying T = some (.int k) := by
  unfold isIntT at h
  split at h
  · rename_i k' hk; simp only [Option.some.injEq] at h; subst h; exact hk
  · cases h

theorem rest_le {o : Op} (hk : opVal C rd h o = still (popS C.P rd o)) : Le (still (pop C.P rd o)) (opVal C rd h o) := by
  rw [hk]
  unfold popS
  cases pop C.P rd o with
  | none => exact Le.none _
  | some v => exact Le.refl _

theorem decO_ok (hra : ∀ x a, ra x = some a → rd x = some (a.get st t)) (hc : ∀ x, (∀ s, x ≠ .tmp s) → rd x = rdE .leaf x) {o : Op} {fo : FO} (hd : decO C.P ra o = some fo) :
    Le (toO (runO fo C st t h)) (opVal C rd h o) := by
  have slow : ∀ {o : Op} {fo : FO}, decSlow ra o = some fo → Le (toO (runO fo C st t h)) (opVal C rd h o) := fun hd => slow_ok hra hc hd
  unfold decO at hd
  split at hd
  · -- move
    rename_i x
    split at hd
    · rename_i a ha
      cases hd
      show Le (toO (.v (a.get st t))) (opVal C rd h (.move x))
      refine Le.trans ?_ (rest_le rfl)
      simp only [pop, hra _ _ ha]; exact Le.refl _
    · cases hd
  · rename_i x
    split at hd
    · rename_i a ha
      cases hd
      show Le (toO (.v (a.get st t))) (opVal C rd h (.assign x))
      refine Le.trans ?_ (rest_le rfl)
      simp only [pop, hra _ _ ha]; exact Le.refl _
    · cases hd
  · -- pick
    rename_i c x y
    split at hd
    · rename_i c' a b h1 h2 h3
      cases hd
      show Le (toO (fPick (c'.get st t) (a.get st t) (b.get st t))) (opVal C rd h (.pick c x y))
      refine Le.trans ?_ (rest_le rfl)
      simp only [pop, hra _ _ h1, hra _ _ h2, hra _ _ h3]
      refine (fPick_ok _ _ _).trans ?_
      cases c'.get st t <;> first | exact Le.refl _ | exact Le.none _
    · cases hd
  · -- nilCheck
    rename_i x
    split at hd
    · rename_i a ha
      cases hd
      show Le (toO (fNilc (a.get st t))) (opVal C rd h (.nilCheck x))
      refine Le.trans ?_ (rest_le rfl)
      simp only [pop, hra _ _ ha]
      refine (fNilc_ok _).trans ?_
      cases a.get st t <;> first | exact Le.refl _ | exact Le.none _
    · cases hd
  · -- binOp
    rename_i op T x y yT
    split at hd
    · rename_i a b h1 h2
      cases hd
      have e : opVal C rd h (.binOp op T x y yT) = still (vbinX C.P op T (isConstO x || isConstO y) (a.get st t) (b.get st t)) := by
        show still (popS C.P rd (.binOp op T x y yT)) = _
        unfold popS vbinX orV
        simp only [pop, sym, hra _ _ h1, hra _ _ h2]
      rw [e]
      exact fb_ok _ _ _ _ _ _
    · cases hd
  · -- unOp
    rename_i op T x
    split at hd
    · rename_i a ha
      split at hd
      · cases hd
        show Le (toO (fNot (a.get st t))) (opVal C rd h (.unOp .not T x))
        refine Le.trans ?_ (rest_le rfl)
        simp only [pop, hra _ _ ha]
        exact fNot_ok _
      · cases hd
        have e : opVal C rd h (.unOp op T x) = still (vunX op (a.get st t)) := by
          show still (popS C.P rd (.unOp op T x)) = _
          unfold popS vunX orV
          cases op <;> simp only [pop, sym, hra _ _ ha]
        rw [e]
        show Le (toO (oV (vunX op (a.get st t)))) _
        rw [toO_oV]
        exact Le.refl _
    · cases hd
  · -- fieldAddr
    rename_i T x f
    split at hd
    · rename_i a off ft ha hb
      split at hd
      · rename_i n hz
        cases hd
        show Le (toO (fFaddr (a.get st t) off)) (opVal C rd h (.fieldAddr T x f))
        refine Le.trans ?_ (rest_le rfl)
        simp only [pop, hra _ _ ha, opFieldAddr, hb, hz, fFaddr_ok]
        exact Le.refl _
      · cases hd
    · cases hd
  · -- field
    rename_i T x f
    split at hd
    · rename_i a off ft ha hb
      split at hd
      · rename_i sz ag hz hg
        split at hd
        · cases hd
          show Le (toO (fFldA (a.get st t) off sz)) (opVal C rd h (.field T x f))
          refine Le.trans ?_ (rest_le rfl)
          simp only [pop, hra _ _ ha, opField, hb]
          refine (fFldA_ok _ _ _).trans ?_
          cases a.get st t <;> first | (simp only [hz, hg]; exact Le.refl _) | exact Le.none _
        · cases hd
          show Le (toO (fFld1 (a.get st t) off)) (opVal C rd h (.field T x f))
          refine Le.trans ?_ (rest_le rfl)
          simp only [pop, hra _ _ ha, opField, hb]
          refine (fFld1_ok _ _ sz).trans ?_
          cases a.get st t <;> first | (simp only [hz, hg]; exact Le.refl _) | exact Le.none _
      · cases hd
    · cases hd
  · -- indexAddr
    rename_i T x i
    split at hd
    · rename_i a b e ha hb hT
      split at hd
      · rename_i sz hz
        cases hd
        show Le (toO (fIadr sz (a.get st t) (b.get st t))) (opVal C rd h (.indexAddr T x i))
        refine Le.trans ?_ (rest_le rfl)
        simp only [pop, hra _ _ ha, hra _ _ hb, opIndexAddr, hT]
        refine (fIadr_ok _ _ _).trans ?_
        cases b.get st t <;> first | exact Le.none _ | skip
        cases a.get st t <;> first | exact Le.none _ | (simp only [hz]; exact Le.refl _)
      · cases hd
    · rename_i a b len e ha hb hT
      split at hd
      · rename_i sz hz
        cases hd
        show Le (toO (fIadrA len sz (a.get st t) (b.get st t))) (opVal C rd h (.indexAddr T x i))
        refine Le.trans ?_ (rest_le rfl)
        simp only [pop, hra _ _ ha, hra _ _ hb, opIndexAddr, hT]
        refine (fIadrA_ok _ _ _ _).trans ?_
        cases b.get st t <;> first | exact Le.none _ | (simp only [hz]; exact Le.refl _)
      · cases hd
    · cases hd
  · -- index
    rename_i T x i
    split at hd
    · rename_i a b ha hb hT
      cases hd
      show Le (toO (fIdxS (a.get st t) (b.get st t))) (opVal C rd h (.index T x i))
      have e : opVal C rd h (.index T x i) = still (orV (opIndex C.P T (a.get st t) (b.get st t)) (lidx C.P T (a.get st t) (b.get st t))) := by
        show still (popS C.P rd (.index T x i)) = _
        unfold popS orV
        simp only [pop, sym, hra _ _ ha, hra _ _ hb]
      rw [e]
      exact fIdxS_ok C.P T hT _ _
    · rename_i a b len e ha hb hT
      split at hd
      · rename_i sz ag hz hg
        cases hd
        show Le (toO (fIdxA len sz ag (a.get st t) (b.get st t))) (opVal C rd h (.index T x i))
        refine Le.trans ?_ (rest_le rfl)
        simp only [pop, hra _ _ ha, hra _ _ hb, opIndex, hT]
        refine (fIdxA_ok _ _ _ _ _).trans ?_
        cases a.get st t <;> first | exact Le.none _ | skip
        cases b.get st t <;> first | exact Le.none _ | (simp only [hz, hg]; exact Le.refl _)
      · cases hd
    · cases hd
  · -- slice
    rename_i T x lo hi
    split at hd
    · rename_i hT
      split at hd
      · rename_i a l k ha hl hk
        cases hd
        show Le (toO (fSliS (oV (opSliceX C.P T (a.get st t) (getO l st t) (getO k st t))) (getO l st t) (getO k st t) (a.get st t))) (opVal C rd h (.slice T x lo hi none))
        have e1 := decOpt_ok hra _ _ hl
        have e2 := decOpt_ok hra _ _ hk
        simp only [opVal, hra _ _ ha, e1, e2]
        have e3 : opSliceArr C.P h T (a.get st t) (getO l st t) (getO k st t) = none := by
          unfold opSliceArr
          rw [hT]
        rw [e3]
        exact fSliS_ok C.P T hT _ _ _
      · cases hd
    · exact slow hd
  · -- convert
    rename_i src dst x
    split at hd
    · rename_i k0 k h1 h2
      split at hd
      · rename_i a ha
        cases hd
        show Le (toO (fConv k (a.get st t))) (opVal C rd h (.convert src dst x))
        have i1 := isIntT_inv h1
        have i2 := isIntT_inv h2
        have b1 : opBytesOf C.P h src dst (a.get st t) = none := by
          unfold opBytesOf; rw [i1]
        have b2 : opStrOf C.P h src dst (a.get st t) = none := by
          unfold opStrOf; rw [i1]
        have b3 : opConvPtr C.P h src dst (a.get st t) = none := by
          unfold opConvPtr; rw [i1]
        simp only [opVal, hra _ _ ha, b1, b2, b3, opConvX, opConv, lconv, i1, i2]
        refine (fConv_ok _ _).trans ?_
        cases a.get st t <;> first | exact Le.none _ | exact Le.refl _
      · cases hd
    · exact slow hd
  · -- extract
    rename_i x i
    split at hd
    · rename_i a ha
      cases hd
      show Le (toO (fExt (a.get st t) i)) (opVal C rd h (.extract x i))
      refine Le.trans ?_ (rest_le rfl)
      simp only [pop, hra _ _ ha]
      exact fExt_ok _ _
    · cases hd
  · -- makeInterface
    rename_i T x
    split at hd
    · cases hd
    · rename_i a d hn ha hT
      cases hd
      show Le (toO (.v (.iface T (a.get st t)))) (opVal C rd h (.makeInterface T x))
      refine Le.trans ?_ (rest_le rfl)
      simp only [pop, hra _ _ ha, opMkIface]
      refine le_v ?_
      rw [hT]
      cases d <;> first | rfl | (exact absurd rfl (hn _))
    · cases hd
  · -- makeFunc
    rename_i f first caps
    split at hd
    · rename_i a b h1 h2
      cases hd
      show Le (toO (.v (.fn f (getAll a st t) (getAll b st t)))) (opVal C rd h (.makeFunc (.func f) first caps))
      refine Le.trans ?_ (rest_le rfl)
      simp only [pop, decAll_ok hra _ _ h1, decAll_ok hra _ _ h2]
      exact Le.refl _
    · cases hd
  · -- len
    rename_i args argTypes
    split at hd
    · rename_i x T hx hT
      have key : ∀ a, isMapT C.P argTypes = false → ra x = some a → opVal C rd h (.call { callee := .builtin .len, args, argTypes }) = still (opLenX C.P argTypes (a.get st t)) := by
        intro a hm ha
        simp only [opVal, hm, hx, rdAll, hra _ _ ha]
      split at hd
      · rename_i a ha hu
        cases hd
        show Le (toO (fLenS (a.get st t))) _
        rw [key a (by simp only [isMapT, hT, hu]) ha]
        simp only [opLenX, opLen, llen, hT, hu]
        refine (fLenS_ok _).trans ?_
        cases a.get st t <;> first | exact Le.none _ | exact Le.refl _
      · rename_i a e ha hu
        cases hd
        show Le (toO (fLenL (a.get st t))) _
        rw [key a (by simp only [isMapT, hT, hu]) ha]
        simp only [opLenX, opLen, llen, hT, hu]
        refine (fLenL_ok _).trans ?_
        cases a.get st t <;> first | exact Le.none _ | exact Le.refl _
      · rename_i a n e ha hu
        cases hd
        show Le (toO (.v (.int .i64 (Int.ofNat n)))) _
        rw [key a (by simp only [isMapT, hT, hu]) ha]
        simp only [opLenX, opLen, llen, hT, hu]
        exact Le.refl _
      · exact slow hd
    · cases hd
  · -- load
    rename_i T x
    split at hd
    · rename_i a ha hT
      cases hd
      show Le (toO (fCells (a.get st t) C.Γ h 0 head1)) (opVal C rd h (.load T x))
      simp only [opVal, hra _ _ ha]
      exact ld1_ok C.P C.Γ h T _ hT
    · rename_i a ha hT
      split at hd
      · rename_i n hn
        cases hd
        show Le (toO (fCells (a.get st t) C.Γ h n headN)) (opVal C rd h (.load T x))
        simp only [opVal, hra _ _ ha]
        exact ldN_ok C.P C.Γ h T _ n hT hn
      · cases hd
    · cases hd
  · -- store
    rename_i T x y
    split at hd
    · rename_i a b n ha hb hn
      cases hd
      show Le (toO (fSto n (a.get st t) (b.get st t) C h)) (opVal C rd h (.store T x y))
      simp only [opVal, hra _ _ ha, hra _ _ hb]
      exact fSto_ok C h T n _ _ hn
    · cases hd
  · -- alloc
    rename_i T
    split at hd
    · rename_i cs hz
      cases hd
      show Le (toO (newK h cs T)) (opVal C rd h (.alloc T))
      simp only [opVal, opAlloc, hz, newK_eq]
      exact Le.refl _
    · cases hd
  · -- box
    rename_i T x
    split at hd
    · rename_i a ha
      cases hd
      show Le (toO (Bool.rec (motive := fun _ => OR) (newK h (a.get st t).cells T) .no (a.get st t).isAny)) (opVal C rd h (.box T x))
      simp only [opVal, hra _ _ ha, newK_eq]
      cases (a.get st t).isAny <;> first | exact Le.none _ | exact Le.refl _
    · cases hd
  · -- buildSlice
    rename_i T len parts
    split at hd
    · rename_i l e hl hT
      split at hd
      · rename_i sz zs hz1 hz2
        split at hd
        · rename_i hq
          cases hd
          simp only [Bool.and_eq_true] at hq
          show Le (toO (Option.rec (motive := fun _ => OR) (Option.rec (motive := fun _ => OR) .no (fun cs => newS h cs len sz) (vfillF (fun i => some (Nat.mul i sz, sz)) ((parts.toList.map (·.1)).zip (getAll l st t)) (zerosOf zs (len * sz)))) (fun _ => .no) (getT h.t h.next))) (opVal C rd h (.buildSlice T len parts))
          have e1 : (fun i => some (Nat.mul i sz, sz)) = fun i => some (i * sz, sz) := rfl
          simp only [opVal, decAll_ok hra _ _ hl, getT_eq, vfillF_eq, e1]
          cases h.t.get h.next with
          | some b => exact Le.none _
          | none =>
            simp only [opBuildSlice, hT, hz1, hz2]
            rw [if_pos ⟨Nat.le_of_ble_eq_true hq.1, Nat.eq_of_beq_eq_true hq.2.1, Nat.le_of_ble_eq_true hq.2.2⟩]
            cases vfill (fun i => some (i * sz, sz)) (zerosOf zs (len * sz)) ((parts.toList.map (·.1)).zip (getAll l st t)) with
            | none => exact Le.none _
            | some cs =>
              simp only [newS_eq]
              exact Le.refl _
        · cases hd
      · cases hd
    · cases hd
  · -- makeSlice
    rename_i T l c
    split at hd
    · rename_i a b ha hb
      cases hd
      show Le (toO (oPF (opMakeSlice C.P h T (a.get st t) (b.get st t)) [h.next] [h.next] [h.next])) (opVal C rd h (.makeSlice T l c))
      simp only [opVal, hra _ _ ha, hra _ _ hb, toO_oPF]
      exact Le.refl _
    · cases hd
  · -- range
    rename_i T x
    split at hd
    · rename_i a ha
      cases hd
      show Le (toO (oPF (opRange C.P h T (a.get st t)) [h.next] [h.next] [h.next])) (opVal C rd h (.range T x))
      simp only [opVal, hra _ _ ha, toO_oPF]
      exact Le.refl _
    · cases hd
  · -- next
    rename_i x
    split at hd
    · rename_i a ha
      cases hd
      show Le (toO (oPF (opNext h (a.get st t)) (ptrV (a.get st t)) [] [])) (opVal C rd h (.next x true))
      simp only [opVal, hra _ _ ha, toO_oPF]
      exact Le.refl _
    · cases hd
  · -- append
    rename_i args argTypes
    split at hd
    · rename_i x y sT hxy hT
      split at hd
      · rename_i e a b hu hp ha hb
        split at hd
        · rename_i sz by_ zs z1 z2 z3
          split at hd
          · rename_i hq
            cases hd
            simp only [Bool.and_eq_true] at hq
            show Le (toO (fApp h e sz by_ (a.get st t) (b.get st t) (oPF (opAppendE C.P h e (a.get st t) (b.get st t)) [h.next] (famV (a.get st t) h) [h.next]))) (opVal C rd h (.call { callee := .builtin .append, args, argTypes }))
            simp only [opVal, hxy, rdAll, hra _ _ ha, hra _ _ hb, hT, hu, hp]
            exact fApp_ok (by rw [toO_oPF]; exact Le.refl _) z1 z2 z3 (Nat.eq_of_beq_eq_true hq.1) (Nat.le_of_ble_eq_true hq.2.1) (Nat.le_of_ble_eq_true hq.2.2)
          · cases hd
        · cases hd
      · cases hd
    · cases hd
  · -- build
    rename_i T parts
    split at hd
    · rename_i zs fs l hz hu hl
      split at hd
      · rename_i pl hpl
        cases hd
        show Le (toO (Option.rec (motive := fun _ => OR) .no (fun l => .v (.agg l)) (vfillF (fun i => nthF i pl) ((parts.toList.map (·.1)).zip (getAll l st t)) zs))) (opVal C rd h (.build T parts))
        have e : (fun i => nthF i pl) = fun i => pl[i]? := funext fun i => nthF_eq i pl
        simp only [opVal, opRest, decAll_ok hra _ _ hl, opBuild, hz, hu, hpl, e, vfillF_eq]
        cases vfill (fun i => pl[i]?) zs ((parts.toList.map (·.1)).zip (getAll l st t)) <;> first | exact Le.none _ | exact Le.refl _
      · cases hd
    · exact slow hd
  · -- call
    rename_i g args argTypes
    split at hd
    · rename_i l hl
      cases hd
      show Le (toO (fCall g (getAll l st t) C h)) (opVal C rd h (.call { callee := .value (.func g), args, argTypes }))
      have e0 : rd (.func g) = some (.fn g [] []) := by rw [hc _ (fun s e => by cases e)]; rfl
      simp only [opVal, e0, decAll_ok hra _ _ hl]
      exact fCall_ok _ _ _ _
    · cases hd
  · exact slow hd

end
end Go.Proofs.YtbfdgdigaiimgaaDoor.HM
