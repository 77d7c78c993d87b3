/- The fast machine, 5: operations. -/
import Derived.Test.YtbfdgdigaiimgaaDoorF4
namespace Go.Proofs.YtbfdgdigaiimgaaDoor.HM
open Go Go.RowKit

/-! ## On values -/

theorem fPick_ok (c x y : V) : Le (toO (fPick c x y)) (still (match c with | .bool t => if t then some x else some y | _ => none)) := by
  cases c with
  | bool b => cases b <;> exact Le.refl _
  | _ => exact Le.none _

theorem fNilc_ok (v : V) : Le (toO (fNilc v)) (still (match v with | .ptr a o => some (.ptr a o) | .gp a o => some (.gp a o) | .iface t v => some (.iface t v) | .fn f a b => some (.fn f a b) | _ => none)) := by
  cases v <;> first | exact Le.refl _ | exact Le.none _

theorem fNot_ok (v : V) : Le (toO (fNot v)) (still (vun .not v)) := by
  cases v with
  | bool b => cases b <;> exact Le.refl _
  | _ => exact Le.none _

theorem fFaddr_ok (v : V) (k : Nat) : toO (fFaddr v k) = still (vfield k v) := by cases v <;> rfl

theorem fFld1_ok (v : V) (k z : Nat) : Le (toO (fFld1 v k)) (still (match v with | .agg cs => vpart cs k z false | _ => none)) := by
  cases v with
  | agg cs =>
    show Le (toO (oV (nthF k cs))) _
    rw [toO_oV, nthF_eq]; exact Le.refl _
  | _ => exact Le.none _

theorem fldA_ok (cs : List V) (k z : Nat) : toO (fFldA (.agg cs) k z) = still (vpart cs k z true) := by
  show toO (Bool.rec (motive := fun _ => OR) OR.no (.v (.agg (takeF z (dropF k cs)))) (Nat.ble (Nat.add k z) (lenF cs))) = _
  rw [takeF_eq, dropF_eq, lenF_eq]
  simp only [vpart, if_true]
  have e : Nat.add k z = k + z := rfl
  rw [e]
  cases h : Nat.ble (k + z) cs.length with
  | true => rw [if_pos (Nat.le_of_ble_eq_true h)]; rfl
  | false => rw [if_neg (fun hh => by rw [Nat.ble_eq_true_of_le hh] at h; cases h)]; rfl

theorem fFldA_ok (v : V) (k z : Nat) : Le (toO (fFldA v k z)) (still (match v with | .agg cs => vpart cs k z true | _ => none)) := by
  cases v with
  | agg cs => rw [fldA_ok]; exact Le.refl _
  | _ => exact Le.none _

theorem ble_succ {m n : Nat} (h : Nat.ble (Nat.add m 1) n = true) : m < n := Nat.le_of_ble_eq_true h

theorem fIadr_ok (sz : Nat) (a i : V) : Le (toO (fIadr sz a i)) (still (match i with
    | .int _ n => match a with
      | .sl b o len sz' => if 0 ≤ n ∧ n.toNat < len ∧ sz = sz' then some (.ptr b (o + n.toNat * sz)) else none
      | _ => none
    | _ => none)) := by
  unfold fIadr
  cases hi : asN i with
  | no => exact Le.none _
  | mk k m =>
    obtain rfl := asN_inv hi
    cases ha : asL a with
    | no => exact Le.none _
    | mk b o n z =>
      obtain rfl := asL_inv ha
      cases h1 : Nat.ble (Nat.add m 1) n with
      | false => simp only [h1]; exact Le.none _
      | true =>
        cases h2 : Nat.beq sz z with
        | false => simp only [h1, h2]; exact Le.none _
        | true =>
          have e2 := Nat.eq_of_beq_eq_true h2
          have e1 := ble_succ h1
          simp only [h1, h2]
          rw [if_pos ⟨Int.natCast_nonneg m, e1, e2⟩]
          exact Le.refl _

theorem fIadrA_ok (len sz : Nat) (a i : V) : Le (toO (fIadrA len sz a i)) (still (match i with
    | .int _ n => if 0 ≤ n ∧ n.toNat < len then vfield (n.toNat * sz) a else none
    | _ => none)) := by
  unfold fIadrA
  cases hi : asN i with
  | no => exact Le.none _
  | mk k m =>
    obtain rfl := asN_inv hi
    cases h1 : Nat.ble (Nat.add m 1) len with
    | false => simp only [h1]; exact Le.none _
    | true =>
      have e1 := ble_succ h1
      simp only [h1]
      rw [if_pos ⟨Int.natCast_nonneg m, e1⟩, fFaddr_ok]
      exact Le.refl _

theorem orV_le_l {a b : Option V} : Le (still a) (still (orV a b)) := by
  cases a with
  | none => exact Le.none _
  | some v => exact Le.refl _

theorem fIdxS_ok (P : Program) (T : TypeId) (hT : P.underlying T = some .string) (a i : V) : Le (toO (fIdxS a i)) (still (orV (opIndex P T a i) (lidx P T a i))) := by
  unfold fIdxS
  cases hi : asN i with
  | no => exact Le.none _
  | mk k m =>
    obtain rfl := asN_inv hi
    cases ha : asS a with
    | no =>
      simp only [toO_oV]
      cases a with
      | sstr l => simp only [opIndex, lidx, hT]; exact Le.refl _
      | _ => exact Le.none _
    | mk l =>
      obtain rfl := asS_inv ha
      refine Le.trans ?_ orV_le_l
      simp only [nthF_eq, opIndex, hT]
      rw [if_pos (show (0 : Int) ≤ Int.ofNat m from Int.natCast_nonneg m)]
      show Le (toO (u8V l[m]?)) (still ((l[m]?).map _))
      cases l[m]? <;> first | exact Le.refl _ | exact Le.none _

theorem fIdxA_ok (len sz : Nat) (ag : Bool) (a i : V) : Le (toO (fIdxA len sz ag a i)) (still (match a, i with
    | .agg cs, .int _ n => if 0 ≤ n ∧ n.toNat < len then vpart cs (n.toNat * sz) sz ag else none
    | _, _ => none)) := by
  unfold fIdxA
  cases hi : asN i with
  | no => exact Le.none _
  | mk k m =>
    obtain rfl := asN_inv hi
    cases ha : asC a with
    | no => exact Le.none _
    | mk cs =>
      obtain rfl := asC_inv ha
      cases h1 : Nat.ble (Nat.add m 1) len with
      | false => simp only [h1]; exact Le.none _
      | true =>
        have e1 := ble_succ h1
        simp only [h1]
        rw [if_pos ⟨Int.natCast_nonneg m, e1⟩]
        cases ag with
        | true =>
          show Le (toO (fFldA (.agg cs) (Nat.mul m sz) sz)) _
          rw [fldA_ok]; exact Le.refl _
        | false =>
          show Le (toO (oV (nthF (Nat.mul m sz) cs))) _
          rw [toO_oV, nthF_eq]
          exact Le.refl _

theorem fBound_ok (o : Option V) (len d h : Nat) (hb : fBound o len d = .mk h) : vbound len o d = some h := by
  cases o with
  | none => cases hb; rfl
  | some v =>
    revert hb
    show NV.rec (motive := fun _ => BV) .no (fun _ n => Bool.rec (motive := fun _ => BV) .no (.mk n) (Nat.ble n len)) (asN v) = _ → _
    cases hv : asN v with
    | no => intro hb; cases hb
    | mk k n =>
      obtain rfl := asN_inv hv
      cases h1 : Nat.ble n len with
      | false => simp only [h1]; intro hb; cases hb
      | true =>
        simp only [h1]; intro hb; cases hb
        simp only [vbound]
        rw [if_pos ⟨Int.natCast_nonneg _, Nat.le_of_ble_eq_true h1⟩]
        rfl

theorem fSliS_ok (P : Program) (T : TypeId) (hT : P.underlying T = some .string) (a : V) (lo hi : Option V) : Le (toO (fSliS (oV (opSliceX P T a lo hi)) lo hi a)) (still (opSliceX P T a lo hi)) := by
  unfold fSliS
  cases ha : asS a with
  | no => rw [toO_oV]; exact Le.refl _
  | mk l =>
    obtain rfl := asS_inv ha
    simp only
    cases h1 : fBound hi (lenF l) (lenF l) with
    | no => exact Le.none _
    | mk h =>
      have e1 := fBound_ok _ _ _ _ h1
      rw [lenF_eq] at e1
      simp only
      cases h2 : fBound lo h 0 with
      | no => exact Le.none _
      | mk k =>
        have e2 := fBound_ok _ _ _ _ h2
        have e3 : opSliceX P T (.str l) lo hi = some (.str ((l.take h).drop k)) := by
          simp only [opSliceX, orV, opSlice, hT, e1, e2]
        rw [e3]
        cases h3 : Nat.beq h (lenF l) with
        | true =>
          have := Nat.eq_of_beq_eq_true h3
          rw [lenF_eq] at this
          subst this
          simp only [dropF_eq, List.take_length]
          exact Le.refl _
        | false =>
          simp only [dropF_eq, takeF_eq]
          exact Le.refl _

theorem fConv_ok (k : IntKind) (v : V) : Le (toO (fConv k v)) (still (match v with | .int _ n => some (.int k (k.wrap n)) | .lin _ c ts => fit k c ts | _ => none)) := by
  cases v with
  | int k' n =>
    cases n with
    | ofNat m =>
      show Le (toO (held k m (.v (.int k (k.wrap (.ofNat m)))))) _
      rcases held_toO k m (.v (.int k (k.wrap (.ofNat m)))) with e | ⟨h1, e⟩
      · rw [e]; exact Le.refl _
      · rw [e]
        refine le_v ?_
        show some (V.int k (k.wrap (Int.ofNat m))) = _
        rw [wrap_held h1]
    | negSucc m => exact Le.refl _
  | lin k' c ts =>
    show Le (toO (oV (fit k c ts))) _
    rw [toO_oV]; exact Le.refl _
  | _ => exact Le.none _

theorem fExt_ok (v : V) (k : Nat) : Le (toO (fExt v k)) (still (opExtract v k)) := by
  cases v with
  | tup cs =>
    show Le (toO (oV (nthF k cs))) _
    rw [toO_oV, nthF_eq]; exact Le.refl _
  | _ => exact Le.none _

theorem fLenS_ok (v : V) : Le (toO (fLenS v)) (still (match v with | .str l => some (.int .i64 l.length) | .sstr l => some (.int .i64 l.length) | _ => none)) := by
  cases v with
  | str l =>
    show Le (toO (.v (.int .i64 (Int.ofNat (lenF l))))) _
    rw [lenF_eq]; exact Le.refl _
  | sstr l =>
    show Le (toO (.v (.int .i64 (Int.ofNat (lenF l))))) _
    rw [lenF_eq]; exact Le.refl _
  | _ => exact Le.none _

theorem fLenL_ok (v : V) : Le (toO (fLenL v)) (still (match v with | .nils => some (.int .i64 0) | .sl _ _ n _ => some (.int .i64 n) | _ => none)) := by
  cases v <;> first | exact Le.refl _ | exact Le.none _

theorem fCells_ok (_P : Program) (Γ : Glob) (h : Hp) (_T : TypeId) (v : V) (n : Nat) (f : List V → Nat → OR) (o : List V → Option V) (hf : ∀ xs, Le (toO (f xs n)) (still (o xs))) : Le (toO (fCells v Γ h n f)) (still ((h.cellsAt Γ v).bind o)) := by
  unfold fCells
  cases hp : asP v with
  | no => exact Le.none _
  | p a o' =>
    obtain rfl := asP_p hp
    simp only [getT_eq, dropF_eq, Hp.cellsAt]
    cases hb : h.t.get a with
    | none => exact Le.none _
    | some b =>
      cases b with
      | cells f1 f2 f3 xs => exact hf _
      | _ => exact Le.none _
  | g a o' =>
    obtain rfl := asP_g hp
    simp only [getT_eq, dropF_eq, Hp.cellsAt]
    cases hb : Γ.get a with
    | none => exact Le.none _
    | some xs => exact hf _

theorem ld1_ok (P : Program) (Γ : Glob) (h : Hp) (T : TypeId) (v : V) (hT : isAggT P T = some false) : Le (toO (fCells v Γ h 0 head1)) (still (opLoad P Γ h T v)) := by
  have e : opLoad P Γ h T v = (h.cellsAt Γ v).bind fun xs => match xs with | x :: _ => some x | [] => none := by
    unfold opLoad
    rw [hT]
    cases h.cellsAt Γ v with
    | none => rfl
    | some xs => cases xs <;> rfl
  rw [e]
  refine fCells_ok P Γ h T v 0 head1 _ fun xs => ?_
  cases xs <;> first | exact Le.refl _ | exact Le.none _

theorem ldN_ok (P : Program) (Γ : Glob) (h : Hp) (T : TypeId) (v : V) (n : Nat) (hT : isAggT P T = some true) (hn : szOf P T = some n) : Le (toO (fCells v Γ h n headN)) (still (opLoad P Γ h T v)) := by
  have e : opLoad P Γ h T v = (h.cellsAt Γ v).bind fun xs => if n ≤ xs.length then some (.agg (xs.take n)) else none := by
    unfold opLoad
    rw [hT, hn]
    cases h.cellsAt Γ v with
    | none => rfl
    | some xs => cases xs <;> rfl
  rw [e]
  refine fCells_ok P Γ h T v n headN _ fun xs => ?_
  unfold headN
  rw [lenF_eq, takeF_eq]
  cases hb : Nat.ble n xs.length with
  | true => rw [if_pos (Nat.le_of_ble_eq_true hb)]; exact Le.refl _
  | false => exact Le.none _

theorem aloneF_inv {o : Option (List (Nat × Nat))} {b : Nat} (h : aloneF o b = true) : ∃ e, o = some [(b, e)] := by
  cases o with
  | none => cases h
  | some l =>
    cases l with
    | nil => cases h
    | cons p r =>
      cases r with
      | nil =>
        obtain ⟨a, e⟩ := p
        have : a = b := Nat.eq_of_beq_eq_true h
        subst this
        exact ⟨e, rfl⟩
      | cons q r => cases h

theorem kill_alone {h : Hp} {b f p e : Nat} (hf : h.fams.get f = some [(b, e)]) : h.kill b f p = some h := by
  unfold Hp.kill
  rw [hf]
  have : killBut b p [(b, e)] h.t = ([(b, e)], h.t) := by
    simp only [killBut]
    cases Nat.ble e p with
    | true => rfl
    | false => simp
  simp only [this, put_same _ _ hf]

theorem stoF_ok (h : Hp) (b o : Nat) (ys : List V) (s : OR) (X : Option (V × Option Hp)) (hs : Le (toO s) X) (hX : X = match h.write b o ys with | some h' => some (.tup [], some h') | none => none) : Le (toO (stoF h b o ys s)) X := by
  cases h with
  | mk nx t f e =>
    show Le (toO (Option.rec (motive := fun _ => OR) s (fun bk => Blk.rec (motive := fun _ => OR) (fun fm fb fz xs =>
      Bool.rec (motive := fun _ => OR) s (Bool.rec (motive := fun _ => OR) s (Bool.rec (motive := fun _ => OR) s (Bool.rec (motive := fun _ => OR) s
        (forceL (appF (takeF o xs) (appF ys (dropF (Nat.add o (lenF ys)) xs))) (fun zs => putK (some (.cells fm fb fz zs)) t b (fun t' => .w (.tup []) ⟨nx, t', f, e⟩)))
        (aloneF (getT f fm) b)) (allOne ys)) (Nat.ble fz o)) (Nat.ble (Nat.add o (lenF ys)) (lenF xs))) (fun _ _ => s) (fun _ _ => s) bk) (getT t b))) X
    rw [getT_eq]
    cases hb : t.get b with
    | none => exact hs
    | some bk =>
      cases bk with
      | iter l p => exact hs
      | mapo es c => exact hs
      | cells fm fb fz xs =>
        simp only [lenF_eq, allOne_eq]
        cases h1 : Nat.ble (Nat.add o ys.length) xs.length with
        | false => exact hs
        | true =>
          cases h2 : Nat.ble fz o with
          | false => exact hs
          | true =>
            cases h3 : ys.all V.one with
            | false => exact hs
            | true =>
              cases h4 : aloneF (getT f fm) b with
              | false => simp only []; exact hs
              | true =>
                rw [getT_eq] at h4
                obtain ⟨en, he⟩ := aloneF_inv h4
                have hw : (Hp.mk nx t f e).write b o ys = some ⟨nx, t.put (some (.cells fm fb fz (splice xs ys o))) b, f, e⟩ := by
                  unfold Hp.write
                  simp only [hb]
                  rw [if_pos ⟨Nat.le_of_ble_eq_true h1, Nat.le_of_ble_eq_true h2, h3⟩, kill_alone (h := Hp.mk nx t f e) he]
                rw [hX, hw]
                simp only
                rw [forceL_eq, putK_eq, appF_eq, appF_eq, takeF_eq, dropF_eq]
                exact Le.refl _

theorem vfillF_eq (pl : Nat → Option (Nat × Nat)) : ∀ (l : List (Nat × V)) (cs : List V), vfillF pl l cs = vfill pl cs l := by
  intro l
  induction l with
  | nil => intro cs; rfl
  | cons p l ih =>
    intro cs
    obtain ⟨i, v⟩ := p
    show Option.rec (motive := fun _ => Option (List V)) none (fun q => Bool.rec (motive := fun _ => Option (List V)) none (Bool.rec (motive := fun _ => Option (List V)) (Bool.rec (motive := fun _ => Option (List V)) none
      (forceL (appF (takeF q.1 cs) (appF v.cells (dropF (Nat.add q.1 (lenF v.cells)) cs))) (fun zs => vfillF pl l zs)) (Nat.ble (Nat.add q.1 (lenF v.cells)) (lenF cs))) none v.isAny) (Nat.beq (lenF v.cells) q.2)) (pl i) = _
    simp only [vfill]
    cases pl i with
    | none => rfl
    | some q =>
      obtain ⟨off, size⟩ := q
      simp only [forceL_eq, appF_eq, takeF_eq, dropF_eq, lenF_eq, ih]
      cases h1 : Nat.beq v.cells.length size with
      | false =>
        rw [if_neg (fun h => Nat.ne_of_beq_eq_false h1 h.1.1)]
      | true =>
        cases h2 : v.isAny with
        | true => rw [if_neg (fun h => by cases h.1.2)]
        | false =>
          cases h3 : Nat.ble (Nat.add off v.cells.length) cs.length with
          | false => rw [if_neg (fun h => by rw [show Nat.ble (Nat.add off v.cells.length) cs.length = true from Nat.ble_eq_true_of_le h.2] at h3; cases h3)]
          | true =>
            rw [if_pos ⟨⟨Nat.eq_of_beq_eq_true h1, rfl⟩, Nat.le_of_ble_eq_true h3⟩]
            rfl

theorem fSto_ok (C : Cfg) (h : Hp) (T : TypeId) (n : Nat) (a v : V) (hn : szOf C.P T = some n) : Le (toO (fSto n a v C h)) (match opStore C.P h T a v with | some h' => some (.tup [], some h') | none => none) := by
  unfold fSto
  cases hp : asP a with
  | no => exact Le.none _
  | g a o' => exact Le.none _
  | p b o =>
    obtain rfl := asP_p hp
    simp only [lenF_eq, opStore, hn]
    cases h1 : Nat.beq v.cells.length n with
    | false => exact Le.none _
    | true =>
      cases h2 : v.isAny with
      | true => exact Le.none _
      | false =>
        simp only
        rw [if_pos ⟨Nat.eq_of_beq_eq_true h1, trivial⟩]
        refine stoF_ok h b o v.cells _ _ ?_ rfl
        cases h.write b o v.cells with
        | none => exact Le.none _
        | some h' =>
          show Le (toO (forceH h' [b] [b] [] (fun h2 => .w (.tup []) h2))) _
          rw [forceH_eq]; exact Le.refl _

/-! ## append -/
theorem cutF_some {h : Hp} {sz a o n : Nat} {ys : List V} (hc : cutF h sz a o n = some ys) : ∃ fm fb fz xs, h.t.get a = some (.cells fm fb fz xs) ∧ o + n * sz ≤ xs.length ∧ ys = (xs.drop o).take (n * sz) := by
  unfold cutF at hc
  rw [getT_eq] at hc
  cases hb : h.t.get a with
  | none => rw [hb] at hc; cases hc
  | some bk =>
    rw [hb] at hc
    cases bk with
    | iter l p => cases hc
    | mapo es c => cases hc
    | cells fm fb fz xs =>
      simp only [lenF_eq, takeF_eq, dropF_eq] at hc
      cases h1 : Nat.ble (Nat.add o (Nat.mul n sz)) xs.length with
      | false => rw [h1] at hc; cases hc
      | true =>
        rw [h1] at hc
        simp only [Option.some.injEq] at hc
        exact ⟨fm, fb, fz, xs, rfl, Nat.le_of_ble_eq_true h1, hc.symm⟩

theorem tailF_ok {h : Hp} {sz : Nat} {y : V} {f : List V → Nat → OR} {s : OR} {X : Option (V × Option Hp)} (hs : Le (toO s) X)
    (hf : ∀ ys k, elemsOf h sz y = some (ys, k) → k ≠ 0 → ys.all V.one = true → Le (toO (f ys k)) X) : Le (toO (tailF h sz y f s)) X := by
  unfold tailF
  cases hy : asL y with
  | no => exact hs
  | mk a o k z =>
    obtain rfl := asL_inv hy
    cases h1 : Nat.beq z sz with
    | false => simp only [h1]; exact hs
    | true =>
      cases h2 : Nat.beq k 0 with
      | true => simp only [h1, h2]; exact hs
      | false =>
        simp only [h1, h2]
        cases hc : cutF h sz a o k with
        | none => exact hs
        | some ys =>
          simp only [allOne_eq]
          cases h3 : ys.all V.one with
          | false => exact hs
          | true =>
            have hz := Nat.eq_of_beq_eq_true h1
            have hk : k ≠ 0 := Nat.ne_of_beq_eq_false h2
            obtain ⟨fm, fb, fz, xs, q1, q2, q3⟩ := cutF_some hc
            refine hf ys k ?_ hk h3
            cases k with
            | zero => exact absurd rfl hk
            | succ k =>
              simp only [elemsOf]
              rw [if_pos hz, q1]
              simp only
              rw [if_pos q2, q3]

theorem put_put {α : Type} {x _y : Option α} : ∀ (t : Tr α) (i : Nat), (t.put x i).get i = x := by
  intro t i; rw [Tr.get_put, if_pos rfl]

theorem growF_ok {P : Program} {h : Hp} {e sz by_ a o n k : Nat} {os ys : List V} {y : V} {zs : List V} {s : OR} {X : Option (V × Option Hp)} (hs : Le (toO s) X)
    (h1 : szOf P e = some sz) (h2 : bytesOf P e = some by_) (h3 : zeroC P e = some zs) (hz : zs.length = sz) (hsz : 0 < sz) (hby : 0 < by_)
    (hy : elemsOf h sz y = some (ys, k)) (hk : k ≠ 0) (hone : ys.all V.one = true) (hx : elemsOf h sz (.sl a o n sz) = some (os, n)) (hroom : roomOk (n + k) by_ = true)
    (hX : X = opAppendE P h e (.sl a o n sz) y) : Le (toO (growF h e sz a o n os k ys s)) X := by
  cases h with
  | mk nx t fs es =>
    unfold growF
    simp only [getT_eq]
    cases hb : t.get a with
    | none => exact hs
    | some bk =>
      cases bk with
      | iter l p => exact hs
      | mapo es' c => exact hs
      | cells fm fb fz xs =>
        simp only [lenF_eq]
        cases g1 : Nat.ble (Nat.add o (Nat.mul n sz)) xs.length with
        | false => exact hs
        | true =>
          cases g2 : Nat.ble fz (Nat.add o (Nat.mul n sz)) with
          | false => exact hs
          | true =>
            cases g3 : fs.get fm with
            | none => exact hs
            | some l =>
              cases l with
              | nil => exact hs
              | cons q l =>
                obtain ⟨b1, e1⟩ := q
                cases g4 : Nat.ble e1 (Nat.add fb (Nat.add o (Nat.mul n sz))) with
                | false =>
                  have : headF ((b1, e1) :: l) (Nat.add fb (Nat.add o (Nat.mul n sz))) = false := g4
                  simp only [this]; exact hs
                | true =>
                  have g5 : headF ((b1, e1) :: l) (Nat.add fb (Nat.add o (Nat.mul n sz))) = true := g4
                  simp only [g5]
                  have le1 := Nat.le_of_ble_eq_true g1
                  have le2 := Nat.le_of_ble_eq_true g2
                  have le3 := Nat.le_of_ble_eq_true g4
                  have hkill : (Hp.mk nx t fs es).kill nx fm (fb + (o + n * sz)) = some ⟨nx, t, fs, es⟩ := by
                    unfold Hp.kill
                    simp only [g3]
                    have e0 : killBut nx (fb + (o + n * sz)) ((b1, e1) :: l) t = ((b1, e1) :: l, t) := by
                      simp only [killBut]
                      have : Nat.ble e1 (fb + (o + n * sz)) = true := g4
                      rw [this]
                    simp only [e0, put_same _ _ g3]
                  have hlen : (os ++ ys).length = os.length + ys.length := List.length_append
                  have hgrow : (Hp.mk nx t fs es).grownBy fm (fb + o) (fz - o) (os ++ ys) = some ⟨nx + 1, t.put (some (.cells fm (fb + o) (fz - o) (os ++ ys))) nx, fs.put (some ((nx, fb + o + (os ++ ys).length) :: (b1, e1) :: l)) fm, es⟩ := by
                    unfold Hp.grownBy
                    simp only [g3]
                    have hos : n * sz ≤ os.length := by
                      simp only [elemsOf, if_true] at hx
                      cases n with
                      | zero => omega
                      | succ n =>
                        simp only [hb] at hx
                        rw [if_pos (show o + (n + 1) * sz ≤ xs.length from le1)] at hx
                        simp only [Option.some.injEq, Prod.mk.injEq, and_true] at hx
                        rw [← hx, List.length_take, List.length_drop]
                        have : o + (n + 1) * sz ≤ xs.length := le1
                        omega
                    have : headOk (fb + o + (os ++ ys).length) ((b1, e1) :: l) = true := by
                      simp only [headOk]
                      apply Nat.ble_eq_true_of_le
                      have : e1 ≤ fb + (o + n * sz) := le3
                      omega
                    rw [this]
                  have happ : opAppend P ⟨nx, t, fs, es⟩ e (.sl a o n sz) y = some (.sl nx 0 (n + k) sz, some ⟨nx + 1, t.put (some (.cells fm (fb + o) (fz - o) (os ++ ys))) nx, fs.put (some ((nx, fb + o + (os ++ ys).length) :: (b1, e1) :: l)) fm, es⟩) := by
                    unfold opAppend
                    simp only [h1, h2, h3, hy, hx]
                    rw [if_pos ⟨hsz, hby, hz, hone, hroom⟩]
                    cases k with
                    | zero => exact absurd rfl hk
                    | succ k =>
                      simp only [hb]
                      rw [if_pos ⟨le1, le2⟩, hkill]
                      simp only [hgrow]
                  rw [hX]
                  unfold opAppendE
                  simp only [happ, forceL_eq, putK_eq, appF_eq]
                  cases g6 : es.get a with
                  | none => exact Le.refl _
                  | some e0 =>
                    simp only
                    cases g7 : Nat.beq (Nat.div e0 2) e with
                    | false =>
                      rw [if_neg (show ¬ e0 / 2 = e from Nat.ne_of_beq_eq_false g7)]
                      exact Le.refl _
                    | true =>
                      rw [if_pos (show e0 / 2 = e from Nat.eq_of_beq_eq_true g7)]
                      exact Le.refl _

theorem fApp_ok {P : Program} {h : Hp} {e sz by_ : Nat} {x y : V} {zs : List V} {s : OR} (hs : Le (toO s) (opAppendE P h e x y))
    (h1 : szOf P e = some sz) (h2 : bytesOf P e = some by_) (h3 : zeroC P e = some zs) (hz : zs.length = sz) (hsz : 0 < sz) (hby : 0 < by_) : Le (toO (fApp h e sz by_ x y s)) (opAppendE P h e x y) := by
  unfold fApp
  cases hx : asL x with
  | no => exact hs
  | mk a o n z =>
    obtain rfl := asL_inv hx
    cases g1 : Nat.beq z sz with
    | false => simp only [g1]; exact hs
    | true =>
      have := Nat.eq_of_beq_eq_true g1
      subst this
      simp only [g1]
      refine tailF_ok hs fun ys k hy hk hone => ?_
      cases g2 : roomF (Nat.add n k) by_ with
      | false => exact hs
      | true =>
        have hroom : roomOk (n + k) by_ = true := by
          unfold roomOk
          exact decide_eq_true (Nat.le_of_ble_eq_true g2)
        simp only
        cases g3 : Nat.beq n 0 with
        | true =>
          have := Nat.eq_of_beq_eq_true g3
          subst this
          refine growF_ok hs h1 h2 h3 hz hsz hby hy hk hone ?_ hroom rfl
          simp only [elemsOf, if_true]
        | false =>
          simp only
          cases hc : cutF h z a o n with
          | none => exact hs
          | some os =>
            obtain ⟨fm, fb, fz, xs, q1, q2, q3⟩ := cutF_some hc
            refine growF_ok hs h1 h2 h3 hz hsz hby hy hk hone ?_ hroom rfl
            have hn : n ≠ 0 := Nat.ne_of_beq_eq_false g3
            cases n with
            | zero => exact absurd rfl hn
            | succ n =>
              simp only [elemsOf, if_true]
              rw [q1]
              simp only
              rw [if_pos q2, q3]

end Go.Proofs.YtbfdgdigaiimgaaDoor.HM
