/- What the fast machine is given of this program: the functions it may call, the library's two byte searches, the tables. -/
import Derived.Test.YtbfdgdigaiimgaaDoorPG
import Derived.Test.YtbfdgdigaiimgaaDoorRows
import Derived.Lib.LaidTab
import Derived.Stop.LaidErr
import Derived.MakeChecks
import Derived.Laws.Externs
namespace Go.Proofs.YtbfdgdigaiimgaaDoor.HM
open Go Go.RowKit
variable [E : Amb]
def bod : Tr Unit := trOf [2, 3, 4, 5, 6, 7, 8, 9, 10, 11, 12, 13, 14, 15, 16, 17, 18, 19, 20, 21, 22, 23, 24, 25, 26, 27, 28, 29, 30, 31, 32, 33, 34, 35, 36, 37, 38, 39, 40, 41, 42, 43, 44, 45, 46, 47, 48, 49, 50, 51, 52, 53, 54, 55, 56, 57, 58, 59, 60, 61, 62, 63, 64, 65, 66, 67, 68, 69, 70, 71, 72, 73, 74, 75, 76, 77, 78, 79, 80, 81, 82, 83, 84, 85, 86, 87, 88, 89, 90, 91, 92, 93, 94, 95, 96, 97, 98, 99, 100, 101, 102, 103, 104, 105, 106, 107, 108, 109, 110, 111, 112, 113, 114, 115, 117, 119, 120, 121, 122, 123, 124, 125, 126, 127, 128, 129, 130, 131, 132, 133, 134, 135, 137, 139, 140, 141, 142, 143, 144, 145, 146, 147, 148, 149, 150, 151, 152, 153, 154, 155, 156, 191] .leaf
def pur : Tr Unit := trOf [7, 10, 11, 14, 15, 16, 27, 28, 29, 30, 31, 34, 36, 39, 40, 45, 46, 47, 52, 59, 62, 63, 64, 65, 68, 69, 70, 71, 72, 73, 74, 76, 80, 85, 88, 91, 92, 94, 96, 97, 98, 102, 103, 104, 106, 108, 109, 111, 112, 115, 117, 119, 120, 121, 122, 123, 125, 126, 127, 128, 129, 130, 131, 132, 133, 135, 139, 140, 141, 142, 143, 144, 145, 146, 147, 148, 149, 152, 153, 154, 155, 156] .leaf
def clo : Tr Unit := trOf [] .leaf
noncomputable def extId : List V → Option V := fun l => List.rec (motive := fun _ => Option V) none (fun x r _ => List.rec (motive := fun _ => Option V) (some x) (fun _ _ _ => none) r) l
noncomputable def atB : List UInt8 → Nat → Nat → Option Nat := fun l => List.rec (motive := fun _ => Nat → Nat → Option Nat) (fun _ _ => none) (fun x _ ih i c => Bool.rec (motive := fun _ => Option Nat) (ih (Nat.add i 1) c) (some i) (Nat.beq x.toNat c)) l
noncomputable def intO : Option Nat → V := fun o => Option.rec (motive := fun _ => V) (.int .i64 (Int.negSucc 0)) (fun i => .int .i64 (Int.ofNat i)) o
noncomputable def extB : List V → Option V := fun l => List.rec (motive := fun _ => Option V) none (fun x r _ => List.rec (motive := fun _ => Option V) none (fun y r2 _ => List.rec (motive := fun _ => Option V) (SV.rec (motive := fun _ => Option V) none (fun b => NV.rec (motive := fun _ => Option V) none (fun k n => Bool.rec (motive := fun _ => Option V) none (Bool.rec (motive := fun _ => Option V) none (some (intO (atB b 0 n))) (Nat.ble n 255)) (Nat.beq (knum k) 4)) (asN y)) (asS x)) (fun _ _ _ => none) r2) r) l
def eqByte (x : V) (c : Nat) : Option Bool := match lbin .eql x (.int .u8 (Int.ofNat c)) with
  | some (.bool b) => some b
  | _ => none
def atS : List V → Nat → Nat → Option V
  | [], _, _ => some (.int .i64 (Int.negSucc 0))
  | x :: r, i, c => match eqByte x c with
    | some true => some (.int .i64 (Int.ofNat i))
    | some false => atS r (i + 1) c
    | none => none
def extS : List V → Option V
  | [.sstr xs, .int .u8 (Int.ofNat n)] => match Nat.ble n 255 with
    | true => atS xs 0 n
    | false => none
  | _ => none
noncomputable def extBS : List V → Option V := fun l => Option.rec (motive := fun _ => Option V) (extS l) (fun r => some r) (extB l)
noncomputable def ext : FuncId → Option (List V → Option V) := fun g => Bool.rec (motive := fun _ => Option (List V → Option V)) (Bool.rec (motive := fun _ => Option (List V → Option V)) none (some extBS) (Nat.beq g 138)) (some extId) (Nat.beq g 116)
def pows : List Int := [1, 10, 100, 1000, 10000, 100000, 1000000, 10000000, 100000000, 1000000000, 10000000000, 100000000000, 1000000000000, 10000000000000, 100000000000000, 1000000000000000, 10000000000000000, 100000000000000000, 1000000000000000000, 10000000000000000000]
def tabD : List Int := [0, 1, 28, 2, 29, 14, 24, 3, 30, 22, 20, 15, 25, 17, 4, 8, 31, 27, 13, 23, 21, 19, 16, 7, 26, 12, 18, 6, 11, 5, 10, 9]
def tabE : List Int := [0, 1, 56, 2, 57, 49, 28, 3, 61, 58, 42, 50, 38, 29, 17, 4, 62, 47, 59, 36, 45, 43, 51, 22, 53, 39, 33, 30, 24, 18, 12, 5, 63, 55, 48, 27, 60, 41, 37, 16, 46, 35, 44, 21, 52, 32, 23, 11, 54, 26, 40, 15, 34, 20, 31, 10, 25, 14, 19, 9, 13, 8, 7, 6]
def gam : Glob := (Tr.put (some (tabE.map fun z => V.int .u8 z)) (Tr.put (some (tabD.map fun z => V.int .u8 z)) (Tr.put (some (pows.map fun z => V.int .u64 z)) .leaf 2) 8) 9)
omit [E : Amb] in
theorem findNextN : Extern.findNext Tryd.f116 = none := by kernel_rfl
omit [E : Amb] in
theorem extFindN : Extern.find Tryd.f116 = some Extern.AbiNoEscape.same := by kernel_rfl
omit [E : Amb] in
theorem findNextB : Extern.findNext Tryd.f138 = none := by kernel_rfl
omit [E : Amb] in
theorem extFindB : Extern.find Tryd.f138 = some Extern.BytealgIndexByte.indexByte := by kernel_rfl
omit [E : Amb] in
theorem extId_inv {l : List V} {r : V} (h : extId l = some r) : l = [r] := by
  cases l with
  | nil => cases h
  | cons x t => cases t with
    | nil => cases h; rfl
    | cons y t => cases h
omit [E : Amb] in
theorem extB_inv {l : List V} {r : V} (h : extB l = some r) : ∃ b n, l = [.str b, .int .u8 (Int.ofNat n)] ∧ n ≤ 255 ∧ r = intO (atB b 0 n) := by
  cases l with
  | nil => cases h
  | cons x t => cases t with
    | nil => cases h
    | cons y t => cases t with
      | cons z t => cases h
      | nil =>
        revert h
        show SV.rec (motive := fun _ => Option V) none (fun b => NV.rec (motive := fun _ => Option V) none (fun k n => Bool.rec (motive := fun _ => Option V) none (Bool.rec (motive := fun _ => Option V) none (some (intO (atB b 0 n))) (Nat.ble n 255)) (Nat.beq (knum k) 4)) (asN y)) (asS x) = some r → _
        cases hx : asS x with
        | no => intro h; cases h
        | mk b =>
          cases hy : asN y with
          | no => intro h; cases h
          | mk k n =>
            obtain rfl := asS_inv hx
            obtain rfl := asN_inv hy
            simp only
            cases hk : Nat.beq (knum k) 4 with
            | false => intro h; cases h
            | true =>
              have ek : k = .u8 := by cases k <;> first | rfl | cases hk
              subst ek
              cases hn : Nat.ble n 255 with
              | false => intro h; cases h
              | true => intro h; cases h; exact ⟨b, n, rfl, Nat.le_of_ble_eq_true hn, rfl⟩
omit [E : Amb] in
theorem atB_eq (full : List UInt8) (c : UInt8) : ∀ (l : List UInt8) (i : Nat), full.drop i = l → atB l i c.toNat = (List.range' i l.length).find? fun (j : Nat) => (full[j]?.getD default) == c := by
  intro l
  induction l with
  | nil => intro i _; rfl
  | cons x l ih =>
    intro i h
    have hx : full[i]? = some x := by
      have := congrArg (·[0]?) h
      simpa using this
    have hl : full.drop (i + 1) = l := by
      have := congrArg (List.drop 1) h
      simpa [List.drop_drop] using this
    show Bool.rec (motive := fun _ => Option Nat) (atB l (i + 1) c.toNat) (some i) (Nat.beq x.toNat c.toNat) = _
    rw [ih (i + 1) hl]
    simp only [List.length_cons, List.range'_succ, List.find?_cons, hx, Option.getD_some]
    cases hb : Nat.beq x.toNat c.toNat with
    | true =>
      have : x = c := UInt8.toNat_inj.1 (Nat.eq_of_beq_eq_true hb)
      subst this; simp
    | false =>
      have : x ≠ c := fun e => by subst e; simp at hb
      rw [beq_eq_false_iff_ne.2 this]
theorem firstIdx_eq (l : List UInt8) (n : Nat) (h : n ≤ 255) : VR Ren.nil (intO (atB l 0 n)) (.int .i64 (firstIdx ⟨l.toArray⟩ (Int.ofNat n).toNat.toUInt8)) := by
  have e0 : (Int.ofNat n).toNat.toUInt8.toNat = n := by
    show n.toUInt8.toNat = n
    rw [show n.toUInt8.toNat = n % 256 from UInt8.toNat_ofNat']
    omega
  have e1 := atB_eq l (Int.ofNat n).toNat.toUInt8 l 0 rfl
  rw [e0] at e1
  rw [e1]
  unfold firstIdx
  have e2 : (ByteArray.mk l.toArray).size = l.length := by show l.toArray.size = _; simp
  rw [e2, List.range_eq_range']
  have e3 : (fun i => ((ByteArray.mk l.toArray)[i]! == (Int.ofNat n).toNat.toUInt8)) = fun (j : Nat) => (l[j]?.getD default) == (Int.ofNat n).toNat.toUInt8 := by
    funext i
    congr 1
    by_cases h : i < l.length
    · rw [getElem!_pos _ i (by rw [e2]; exact h), List.getElem?_eq_getElem h]
      rfl
    · rw [getElem!_neg _ i (by rw [e2]; exact h), List.getElem?_eq_none (by omega)]
      rfl
  rw [e3]
  cases (List.range' 0 l.length).find? fun (j : Nat) => (l[j]?.getD default) == (Int.ofNat n).toNat.toUInt8 with
  | none => exact .int _ _
  | some i => exact .int _ _
theorem eqByte_sound {ρ : Ren} {x : V} {b : UInt8} {c : Nat} {t : Bool} (h0 : VR ρ x (.int .u8 b.toNat)) (h : eqByte x c = some t) : Nat.beq b.toNat c = t := by
  unfold eqByte at h
  split at h
  · rename_i r hr
    simp only [Option.some.injEq] at h; subst h
    obtain ⟨k, n, m, y, e1, e2, hy, hz, _, _⟩ := lbin_sound h0 (VR.int .u8 (Int.ofNat c)) hr
    simp only [Value.int.injEq] at e1 e2
    obtain ⟨rfl, rfl⟩ := e1
    obtain ⟨_, rfl⟩ := e2
    simp only [ibin, Option.some.injEq] at hy
    subst hy
    have h2 := hz _ (VR.bool _)
    cases h2
    rw [Bool.eq_iff_iff]
    simp
    omega
  · cases h
theorem atS_eq {ρ : Ren} {c : Nat} {v : V} : ∀ (xs : List V) (bs : List UInt8) (i : Nat), BytesR ρ xs bs → atS xs i c = some v → v = intO (atB bs i c)
  | [], bs, i, hb, h => by
    have hl := hb.1
    cases bs with
    | nil => simp only [atS, Option.some.injEq] at h; exact h.symm
    | cons => simp at hl
  | x :: r, bs, i, hb, h => by
    have hl := hb.1
    cases bs with
    | nil => simp at hl
    | cons b bs =>
      have h0 := hb.2 0 x b rfl rfl
      have hr : BytesR ρ r bs := ⟨by simpa using hl, fun i y c hy hc => hb.2 (i + 1) y c (by simpa using hy) (by simpa using hc)⟩
      show v = intO (Bool.rec (motive := fun _ => Option Nat) (atB bs (i + 1) c) (some i) (Nat.beq b.toNat c))
      unfold atS at h
      split at h
      · rename_i he
        rw [eqByte_sound h0 he]
        simp only [Option.some.injEq] at h; exact h.symm
      · rename_i he
        rw [eqByte_sound h0 he]
        exact atS_eq r bs (i + 1) hr h
      · cases h
omit [E : Amb] in
theorem extS_inv {l : List V} {r : V} (h : extS l = some r) : ∃ xs n, l = [.sstr xs, .int .u8 (Int.ofNat n)] ∧ n ≤ 255 ∧ atS xs 0 n = some r := by
  unfold extS at h
  split at h
  · split at h
    · rename_i hn
      exact ⟨_, _, rfl, Nat.le_of_ble_eq_true hn, h⟩
    · cases h
  · cases h
theorem ext_ok (f : FuncId) (e : List V → Option V) (h : ext f = some e) : ExtOk Tryd.prog f e := by
  revert h
  show Bool.rec (motive := fun _ => Option (List V → Option V)) (Bool.rec (motive := fun _ => Option (List V → Option V)) none (some extBS) (Nat.beq f 138)) (some extId) (Nat.beq f 116) = some e → _
  cases h1 : Nat.beq f 116 with
  | true =>
    intro h; cases h
    obtain rfl := Nat.eq_of_beq_eq_true h1
    intro args r hr ρ w us hus
    obtain rfl := extId_inv hr
    obtain ⟨u, us', h1, hx, h2⟩ := hus.cons_inv
    have h3 := h2.nil_inv
    subst h3
    obtain rfl : us = #[u] := by cases us; simp_all
    refine ⟨u, ?_, hx⟩
    rw [run_callFunc_extern Tryd.func116 (by kernel_rfl) (by kernel_rfl) findNextN extFindN]
    rfl
  | false =>
    cases h2 : Nat.beq f 138 with
    | false => intro h; cases h
    | true =>
      intro h; cases h
      obtain rfl := Nat.eq_of_beq_eq_true h2
      intro args r hr ρ w us hus
      cases hB : extB args with
      | some r0 =>
        have hr0 : r0 = r := by
          have : extBS args = some r0 := by show Option.rec (motive := fun _ => Option V) (extS args) (fun r => some r) (extB args) = _; rw [hB]
          rw [this] at hr; exact Option.some.inj hr
        subst hr0
        obtain ⟨b, n, rfl, hn, rfl⟩ := extB_inv hB
        obtain ⟨u, us', k1, hx, k2⟩ := hus.cons_inv
        obtain ⟨u2, us2, k3, hy, k4⟩ := k2.cons_inv
        have k5 := k4.nil_inv
        subst k5 k3
        obtain rfl : us = #[u, u2] := by cases us; simp_all
        obtain rfl := hx.str_inv
        obtain rfl := hy.int_inv
        refine ⟨_, ?_, (firstIdx_eq b n hn).ext (Ext.nil _)⟩
        rw [run_callFunc_extern Tryd.func138 (by kernel_rfl) (by kernel_rfl) findNextB extFindB, run_indexByte_string]
        rfl
      | none =>
        have hS : extS args = some r := by
          have : extBS args = extS args := by show Option.rec (motive := fun _ => Option V) (extS args) (fun r => some r) (extB args) = _; rw [hB]
          rwa [this] at hr
        obtain ⟨xs, n, rfl, hn, ha⟩ := extS_inv hS
        obtain ⟨u, us', k1, hx, k2⟩ := hus.cons_inv
        obtain ⟨u2, us2, k3, hy, k4⟩ := k2.cons_inv
        have k5 := k4.nil_inv
        subst k5 k3
        obtain rfl : us = #[u, u2] := by cases us; simp_all
        obtain ⟨bs, rfl, hbs⟩ := asSS_sound hx (xs := xs) rfl
        obtain rfl := hy.int_inv
        obtain rfl := atS_eq xs bs 0 hbs ha
        refine ⟨_, ?_, (firstIdx_eq bs n hn).ext (Ext.nil _)⟩
        rw [run_callFunc_extern Tryd.func138 (by kernel_rfl) (by kernel_rfl) findNextB extFindB, run_indexByte_string]
        rfl
omit [E : Amb] in
theorem trOf_in (q : Nat → Bool) (l : List Nat) : l.all q = true → ∀ (t : Tr Unit), (∀ f, inTr t f = true → q f = true) → ∀ f, inTr (trOf l t) f = true → q f = true := by
  induction l with
  | nil => intro _ t ht f hf; exact ht f hf
  | cons a l ih =>
    intro h t ht
    simp only [List.all_cons, Bool.and_eq_true] at h
    refine ih h.2 _ fun f hf => ?_
    by_cases e : f = a
    · subst e; exact h.1
    · refine ht f ?_
      unfold inTr at hf ⊢
      rwa [Tr.get_put, if_neg e] at hf
omit [E : Amb] in
theorem bod_ok : ∀ f, inTr bod f = true → isBody Tryd.prog f = true :=
  trOf_in _ _ (by kernel_rfl) _ fun f h => by unfold inTr at h; simp [Tr.get] at h
theorem prog_ok {extra : FuncId → Option Spec} (hx : ∀ f s, extra f = some s → CalleeOk Tryd.prog gam f s) : ProgOk Tryd.prog gam ext bod extra where
  draws := by kernel_rfl
  ext := ext_ok
  body := bod_ok
  extra := hx
omit [E : Amb] in
theorem gam_get (g : Nat) (xs : List V) (h : gam.get g = some xs) : (g = 9 ∧ xs = tabE.map fun z => V.int .u8 z) ∨ (g = 8 ∧ xs = tabD.map fun z => V.int .u8 z) ∨ (g = 2 ∧ xs = pows.map fun z => V.int .u64 z) := by
  unfold gam at h
  rw [Tr.get_put] at h
  split at h
  · rename_i e; simp only [Option.some.injEq] at h; exact .inl ⟨e, h.symm⟩
  · skip
    rw [Tr.get_put] at h
    split at h
    · rename_i e; simp only [Option.some.injEq] at h; exact .inr (.inl ⟨e, h.symm⟩)
    · skip
      rw [Tr.get_put] at h
      split at h
      · rename_i e; simp only [Option.some.injEq] at h; exact .inr (.inr (⟨e, h.symm⟩))
      · simp [Tr.get] at h
omit [E : Amb] in
theorem gNameP : Tryd.prog.globalNamed "internal/strconv.uint64pow10" = some 2 := by kernel_rfl
omit [E : Amb] in
theorem gTypeP : (Tryd.prog.globals[2]?).map (·.type) = some 148 := by kernel_rfl
omit [E : Amb] in
theorem cellsP : Tryd.prog.cellsOf 148 = 20 := by kernel_rfl
omit [E : Amb] in
theorem gNameD : Tryd.prog.globalNamed "math/bits.deBruijn32tab" = some 8 := by kernel_rfl
omit [E : Amb] in
theorem gTypeD : (Tryd.prog.globals[8]?).map (·.type) = some 187 := by kernel_rfl
omit [E : Amb] in
theorem cellsD : Tryd.prog.cellsOf 187 = 32 := by kernel_rfl
omit [E : Amb] in
theorem gNameE : Tryd.prog.globalNamed "math/bits.deBruijn64tab" = some 9 := by kernel_rfl
omit [E : Amb] in
theorem gTypeE : (Tryd.prog.globals[9]?).map (·.type) = some 188 := by kernel_rfl
omit [E : Amb] in
theorem cellsE : Tryd.prog.cellsOf 188 = 64 := by kernel_rfl
omit [E : Amb] in
theorem cellsU8 : Tryd.prog.cellsOf 5 = 1 := by kernel_rfl
omit [E : Amb] in
theorem cellsU64 : Tryd.prog.cellsOf 60 = 1 := by kernel_rfl
def Tabs (W : World) : Prop := Lib.TabIs Tryd.prog W "internal/strconv.uint64pow10" .u64 pows ∧ Lib.TabIs Tryd.prog W "math/bits.deBruijn32tab" .u8 tabD ∧ Lib.TabIs Tryd.prog W "math/bits.deBruijn64tab" .u8 tabE
theorem tab_at {W : World} {name : String} {k : IntKind} {zs : List Int} {g : Nat} (hg : Tryd.prog.globalNamed name = some g) (h : Lib.TabIs Tryd.prog W name k zs) :
    ∃ arr el fr, W.heap[g]? = some (.cells arr el fr) ∧ g < W.heap.size ∧ (zs.map fun z => V.int k z).length = arr.size ∧ ∀ (i : Nat) y u, (zs.map fun z => V.int k z)[i]? = some y → arr[i]? = some u → VR Ren.nil y u := by
  unfold Lib.TabIs World.var? at h
  rw [hg, Option.bind_some] at h
  split at h
  · rename_i cs el fr hh
    simp only [Option.some.injEq] at h; subst h
    refine ⟨_, _, _, hh, (Array.getElem?_eq_some_iff.1 hh).1, by simp, fun i y u hy hu => ?_⟩
    simp only [List.getElem?_map, Option.map_eq_some_iff] at hy
    obtain ⟨z, hz, rfl⟩ := hy
    simp only [List.getElem?_toArray, List.getElem?_map, hz, Option.map_some, Option.some.injEq] at hu
    subst hu
    exact .int _ _
  · cases h
theorem glob_ok {W : World} (h : Tabs W) : GlobOk gam W.heap.size W := by
  obtain ⟨hP, hD, hE⟩ := h
  intro g xs hx
  rcases gam_get g xs hx with ⟨rfl, rfl⟩ | ⟨rfl, rfl⟩ | ⟨rfl, rfl⟩
  · obtain ⟨arr, el, fr, h1, h2, h3, h4⟩ := tab_at gNameE hE
    exact ⟨h2, arr, el, fr, h1, h3, h4⟩
  · obtain ⟨arr, el, fr, h1, h2, h3, h4⟩ := tab_at gNameD hD
    exact ⟨h2, arr, el, fr, h1, h3, h4⟩
  · obtain ⟨arr, el, fr, h1, h2, h3, h4⟩ := tab_at gNameP hP
    exact ⟨h2, arr, el, fr, h1, h3, h4⟩
set_option maxRecDepth 100000 in
omit [E : Amb] in
theorem table {W : World} (h : laidMetH Tryd.prog Rows.anbBackRow.laid W) : Tabs W := by
  rw [Go.MakeChecks.laidMetH_plain _ _ _ (by kernel_rfl)] at h
  exact ⟨Lib.tabIs_of_head gNameP gTypeP Tryd.underlying148 Tryd.underlying60 cellsU64 cellsP (show laidMet Tryd.prog (("internal/strconv.uint64pow10", Lib.tabData .u64 pows) :: _) W from h.tail.tail),
    Lib.tabIs_of_head gNameD gTypeD Tryd.underlying187 Tryd.underlying5 cellsU8 cellsD (show laidMet Tryd.prog (("math/bits.deBruijn32tab", Lib.tabData .u8 tabD) :: _) W from h),
    Lib.tabIs_of_head gNameE gTypeE Tryd.underlying188 Tryd.underlying5 cellsU8 cellsE (show laidMet Tryd.prog (("math/bits.deBruijn64tab", Lib.tabData .u8 tabE) :: _) W from h.tail)⟩
end Go.Proofs.YtbfdgdigaiimgaaDoor.HM
