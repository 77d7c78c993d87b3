/- What the fast machine is given of this program: the functions it may call, the library's two byte searches, the tables. -/
import Derived.Test.YtkpoeilfnopgbaaGreatDoorPG
import Derived.Test.YtkpoeilfnopgbaaGreatDoorRows
import Derived.Lib.LaidTab
import Derived.Stop.LaidErr
import Derived.MakeChecks
import Derived.Laws.Externs
namespace Go.Proofs.YtkpoeilfnopgbaaGreatDoor.HM
open Go Go.RowKit
variable [E : Amb]
def bod : Tr Unit := trOf [2, 3, 4, 5, 6, 7, 8, 9, 10, 11, 12, 13, 14, 15, 16, 17, 18, 19, 20, 21, 22, 23, 24, 25, 26, 27, 28, 29, 30, 31, 32, 33, 34, 35, 36, 37, 38, 39, 40, 41, 42, 43, 44, 45, 46, 47, 48, 49, 50, 51, 52, 53, 54, 55, 56, 57, 58, 59, 60, 61, 62, 63, 64, 65, 66, 67, 68, 69, 70, 71, 72, 73, 74, 75, 76, 77, 78, 79, 80, 81, 82, 83, 84, 85, 86, 87, 88, 89, 90, 91, 92, 93, 94, 95, 96, 97, 98, 99, 100, 101, 102, 103, 104, 105, 106, 107, 108, 109, 110, 112, 113, 114, 115, 116, 117, 118, 119, 120, 121, 122, 123, 124, 125, 126, 127, 128, 129, 130, 131, 132, 133, 134, 135, 136, 137, 138, 139, 140, 141, 142, 143, 144, 145, 146, 147, 148, 149, 150, 151, 152, 153, 154, 155, 156, 157, 158, 159, 160, 161, 162, 163, 164, 165, 166, 167, 168, 169, 170, 171, 172, 173, 174, 175, 176, 177, 178, 179, 180, 181, 182, 183, 184, 185, 186, 187, 188, 189, 191, 192, 193, 194, 195, 196, 197, 198, 199, 200, 201, 202, 203, 204, 205, 206, 208, 209, 210, 211, 212, 213, 214, 215, 216, 217, 218, 219, 220, 221, 222, 223, 224, 225, 226, 227, 228, 229, 230, 231, 259] .leaf
def pur : Tr Unit := trOf [11, 12, 13, 15, 22, 23, 24, 25, 28, 39, 40, 41, 42, 51, 63, 92, 93, 94, 96, 100, 107, 108, 118, 124, 126, 130, 135, 142, 144, 147, 152, 153, 155, 162, 171, 184, 189, 191, 192, 194, 197, 198, 200, 208, 209, 210, 211, 212, 215, 216, 217, 218, 219, 220, 223, 224, 225, 226, 227, 228, 229, 230, 231, 20, 34, 48, 49, 50, 47, 1000024, 1000087] .leaf
def clo : Tr Unit := trOf [45] .leaf
noncomputable def extId : List V → Option V := fun l => List.rec (motive := fun _ => Option V) none (fun x r _ => List.rec (motive := fun _ => Option V) (some x) (fun _ _ _ => none) r) l
noncomputable def atB : List UInt8 → Nat → Nat → Option Nat := fun l => List.rec (motive := fun _ => Nat → Nat → Option Nat) (fun _ _ => none) (fun x _ ih i c => Bool.rec (motive := fun _ => Option Nat) (ih (Nat.add i 1) c) (some i) (Nat.beq x.toNat c)) l
noncomputable def intO : Option Nat → V := fun o => Option.rec (motive := fun _ => V) (.int .i64 (Int.negSucc 0)) (fun i => .int .i64 (Int.ofNat i)) o
noncomputable def extB : List V → Option V := fun l => List.rec (motive := fun _ => Option V) none (fun x r _ => List.rec (motive := fun _ => Option V) none (fun y r2 _ => List.rec (motive := fun _ => Option V) (SV.rec (motive := fun _ => Option V) none (fun b => NV.rec (motive := fun _ => Option V) none (fun k n => Bool.rec (motive := fun _ => Option V) none (Bool.rec (motive := fun _ => Option V) none (some (intO (atB b 0 n))) (Nat.ble n 255)) (Nat.beq (knum k) 4)) (asN y)) (asS x)) (fun _ _ _ => none) r2) r) l
noncomputable def ext : FuncId → Option (List V → Option V) := fun g => Bool.rec (motive := fun _ => Option (List V → Option V)) (Bool.rec (motive := fun _ => Option (List V → Option V)) none (some extB) (Nat.beq g 207)) (some extId) (Nat.beq g 111)
def spaces : List Int := [0, 0, 0, 0, 0, 0, 0, 0, 0, 1, 1, 1, 1, 1, 0, 0, 0, 0, 0, 0, 0, 0, 0, 0, 0, 0, 0, 0, 0, 0, 0, 0, 1, 0, 0, 0, 0, 0, 0, 0, 0, 0, 0, 0, 0, 0, 0, 0, 0, 0, 0, 0, 0, 0, 0, 0, 0, 0, 0, 0, 0, 0, 0, 0, 0, 0, 0, 0, 0, 0, 0, 0, 0, 0, 0, 0, 0, 0, 0, 0, 0, 0, 0, 0, 0, 0, 0, 0, 0, 0, 0, 0, 0, 0, 0, 0, 0, 0, 0, 0, 0, 0, 0, 0, 0, 0, 0, 0, 0, 0, 0, 0, 0, 0, 0, 0, 0, 0, 0, 0, 0, 0, 0, 0, 0, 0, 0, 0, 0, 0, 0, 0, 0, 0, 0, 0, 0, 0, 0, 0, 0, 0, 0, 0, 0, 0, 0, 0, 0, 0, 0, 0, 0, 0, 0, 0, 0, 0, 0, 0, 0, 0, 0, 0, 0, 0, 0, 0, 0, 0, 0, 0, 0, 0, 0, 0, 0, 0, 0, 0, 0, 0, 0, 0, 0, 0, 0, 0, 0, 0, 0, 0, 0, 0, 0, 0, 0, 0, 0, 0, 0, 0, 0, 0, 0, 0, 0, 0, 0, 0, 0, 0, 0, 0, 0, 0, 0, 0, 0, 0, 0, 0, 0, 0, 0, 0, 0, 0, 0, 0, 0, 0, 0, 0, 0, 0, 0, 0, 0, 0, 0, 0, 0, 0, 0, 0, 0, 0, 0, 0, 0, 0, 0, 0, 0, 0]
def gam : Glob := Tr.put (some (spaces.map fun z => V.int .u8 z)) .leaf 0
omit [E : Amb] in
theorem findNextN : Extern.findNext Tryz.f111 = none := by kernel_rfl
omit [E : Amb] in
theorem extFindN : Extern.find Tryz.f111 = some Extern.AbiNoEscape.same := by kernel_rfl
omit [E : Amb] in
theorem findNextB : Extern.findNext Tryz.f207 = none := by kernel_rfl
omit [E : Amb] in
theorem extFindB : Extern.find Tryz.f207 = some Extern.BytealgIndexByte.indexByte := by kernel_rfl
omit [E : Amb] in
theorem extId_inv {l : List V} {r : V} (h : extId l = some r) : l = [r] := by
  cases l with
  | nil => cases h
  | cons x t => cases t with
    | nil => cases h; rfl
    | cons y t => cases h
omit [E : Amb] in
theorem extB_inv {l : List V} {r : V} (h : extB l = some r) : ∃ b n, l = [.str b, .int .u8 (Int.ofNat n)] ∧ n ≤ 255 ∧ r = intO (atB b 0 n) := by
  cases l with
  | nil => cases h
  | cons x t => cases t with
    | nil => cases h
    | cons y t => cases t with
      | cons z t => cases h
      | nil =>
        revert h
        show SV.rec (motive := fun _ => Option V) none (fun b => NV.rec (motive := fun _ => Option V) none (fun k n => Bool.rec (motive := fun _ => Option V) none (Bool.rec (motive := fun _ => Option V) none (some (intO (atB b 0 n))) (Nat.ble n 255)) (Nat.beq (knum k) 4)) (asN y)) (asS x) = some r → _
        cases hx : asS x with
        | no => intro h; cases h
        | mk b =>
          cases hy : asN y with
          | no => intro h; cases h
          | mk k n =>
            obtain rfl := asS_inv hx
            obtain rfl := asN_inv hy
            simp only
            cases hk : Nat.beq (knum k) 4 with
            | false => intro h; cases h
            | true =>
              have ek : k = .u8 := by cases k <;> first | rfl | cases hk
              subst ek
              cases hn : Nat.ble n 255 with
              | false => intro h; cases h
              | true => intro h; cases h; exact ⟨b, n, rfl, Nat.le_of_ble_eq_true hn, rfl⟩
omit [E : Amb] in
theorem atB_eq (full : List UInt8) (c : UInt8) : ∀ (l : List UInt8) (i : Nat), full.drop i = l → atB l i c.toNat = (List.range' i l.length).find? fun (j : Nat) => (full[j]?.getD default) == c := by
  intro l
  induction l with
  | nil => intro i _; rfl
  | cons x l ih =>
    intro i h
    have hx : full[i]? = some x := by
      have := congrArg (·[0]?) h
      simpa using this
    have hl : full.drop (i + 1) = l := by
      have := congrArg (List.drop 1) h
      simpa [List.drop_drop] using this
    show Bool.rec (motive := fun _ => Option Nat) (atB l (i + 1) c.toNat) (some i) (Nat.beq x.toNat c.toNat) = _
    rw [ih (i + 1) hl]
    simp only [List.length_cons, List.range'_succ, List.find?_cons, hx, Option.getD_some]
    cases hb : Nat.beq x.toNat c.toNat with
    | true =>
      have : x = c := UInt8.toNat_inj.1 (Nat.eq_of_beq_eq_true hb)
      subst this; simp
    | false =>
      have : x ≠ c := fun e => by subst e; simp at hb
      rw [beq_eq_false_iff_ne.2 this]
theorem firstIdx_eq (l : List UInt8) (n : Nat) (h : n ≤ 255) : VR Ren.nil (intO (atB l 0 n)) (.int .i64 (firstIdx ⟨l.toArray⟩ (Int.ofNat n).toNat.toUInt8)) := by
  have e0 : (Int.ofNat n).toNat.toUInt8.toNat = n := by
    show n.toUInt8.toNat = n
    rw [show n.toUInt8.toNat = n % 256 from UInt8.toNat_ofNat']
    omega
  have e1 := atB_eq l (Int.ofNat n).toNat.toUInt8 l 0 rfl
  rw [e0] at e1
  rw [e1]
  unfold firstIdx
  have e2 : (ByteArray.mk l.toArray).size = l.length := by show l.toArray.size = _; simp
  rw [e2, List.range_eq_range']
  have e3 : (fun i => ((ByteArray.mk l.toArray)[i]! == (Int.ofNat n).toNat.toUInt8)) = fun (j : Nat) => (l[j]?.getD default) == (Int.ofNat n).toNat.toUInt8 := by
    funext i
    congr 1
    by_cases h : i < l.length
    · rw [getElem!_pos _ i (by rw [e2]; exact h), List.getElem?_eq_getElem h]
      rfl
    · rw [getElem!_neg _ i (by rw [e2]; exact h), List.getElem?_eq_none (by omega)]
      rfl
  rw [e3]
  cases (List.range' 0 l.length).find? fun (j : Nat) => (l[j]?.getD default) == (Int.ofNat n).toNat.toUInt8 with
  | none => exact .int _ _
  | some i => exact .int _ _
theorem ext_ok (f : FuncId) (e : List V → Option V) (h : ext f = some e) : ExtOk Tryz.prog f e := by
  revert h
  show Bool.rec (motive := fun _ => Option (List V → Option V)) (Bool.rec (motive := fun _ => Option (List V → Option V)) none (some extB) (Nat.beq f 207)) (some extId) (Nat.beq f 111) = some e → _
  cases h1 : Nat.beq f 111 with
  | true =>
    intro h; cases h
    obtain rfl := Nat.eq_of_beq_eq_true h1
    intro args r hr ρ w us hus
    obtain rfl := extId_inv hr
    obtain ⟨u, us', h1, hx, h2⟩ := hus.cons_inv
    have h3 := h2.nil_inv
    subst h3
    obtain rfl : us = #[u] := by cases us; simp_all
    refine ⟨u, ?_, hx⟩
    rw [run_callFunc_extern Tryz.func111 (by kernel_rfl) (by kernel_rfl) findNextN extFindN]
    rfl
  | false =>
    cases h2 : Nat.beq f 207 with
    | false => intro h; cases h
    | true =>
      intro h; cases h
      obtain rfl := Nat.eq_of_beq_eq_true h2
      intro args r hr ρ w us hus
      obtain ⟨b, n, rfl, hn, rfl⟩ := extB_inv hr
      obtain ⟨u, us', k1, hx, k2⟩ := hus.cons_inv
      obtain ⟨u2, us2, k3, hy, k4⟩ := k2.cons_inv
      have k5 := k4.nil_inv
      subst k5 k3
      obtain rfl : us = #[u, u2] := by cases us; simp_all
      obtain rfl := hx.str_inv
      obtain rfl := hy.int_inv
      refine ⟨_, ?_, (firstIdx_eq b n hn).ext (Ext.nil _)⟩
      rw [run_callFunc_extern Tryz.func207 (by kernel_rfl) (by kernel_rfl) findNextB extFindB, run_indexByte_string]
      rfl
omit [E : Amb] in
theorem trOf_in (q : Nat → Bool) (l : List Nat) : l.all q = true → ∀ (t : Tr Unit), (∀ f, inTr t f = true → q f = true) → ∀ f, inTr (trOf l t) f = true → q f = true := by
  induction l with
  | nil => intro _ t ht f hf; exact ht f hf
  | cons a l ih =>
    intro h t ht
    simp only [List.all_cons, Bool.and_eq_true] at h
    refine ih h.2 _ fun f hf => ?_
    by_cases e : f = a
    · subst e; exact h.1
    · refine ht f ?_
      unfold inTr at hf ⊢
      rwa [Tr.get_put, if_neg e] at hf
omit [E : Amb] in
theorem bod_ok : ∀ f, inTr bod f = true → isBody Tryz.prog f = true :=
  trOf_in _ _ (by kernel_rfl) _ fun f h => by unfold inTr at h; simp [Tr.get] at h
theorem prog_ok {extra : FuncId → Option Spec} (hx : ∀ f s, extra f = some s → CalleeOk Tryz.prog gam f s) : ProgOk Tryz.prog gam ext bod extra where
  draws := by kernel_rfl
  ext := ext_ok
  body := bod_ok
  extra := hx
omit [E : Amb] in
theorem gam_get (g : Nat) (xs : List V) (h : gam.get g = some xs) : g = 0 ∧ xs = spaces.map fun z => V.int .u8 z := by
  unfold gam at h
  rw [Tr.get_put] at h
  split at h
  · rename_i e; simp only [Option.some.injEq] at h; exact ⟨e, h.symm⟩
  · simp [Tr.get] at h
omit [E : Amb] in
theorem gNameS : Tryz.prog.globalNamed "strings.asciiSpace" = some 0 := by kernel_rfl
omit [E : Amb] in
theorem gTypeS : (Tryz.prog.globals[0]?).map (·.type) = some 142 := by kernel_rfl
omit [E : Amb] in
theorem cellsS : Tryz.prog.cellsOf 142 = 256 := by kernel_rfl
omit [E : Amb] in
theorem cellsU8 : Tryz.prog.cellsOf 5 = 1 := by kernel_rfl
def Tabs (W : World) : Prop := Lib.TabIs Tryz.prog W "strings.asciiSpace" .u8 spaces
theorem tab_at {W : World} {name : String} {k : IntKind} {zs : List Int} {g : Nat} (hg : Tryz.prog.globalNamed name = some g) (h : Lib.TabIs Tryz.prog W name k zs) :
    ∃ arr el fr, W.heap[g]? = some (.cells arr el fr) ∧ g < W.heap.size ∧ (zs.map fun z => V.int k z).length = arr.size ∧ ∀ (i : Nat) y u, (zs.map fun z => V.int k z)[i]? = some y → arr[i]? = some u → VR Ren.nil y u := by
  unfold Lib.TabIs World.var? at h
  rw [hg, Option.bind_some] at h
  split at h
  · rename_i cs el fr hh
    simp only [Option.some.injEq] at h; subst h
    refine ⟨_, _, _, hh, (Array.getElem?_eq_some_iff.1 hh).1, by simp, fun i y u hy hu => ?_⟩
    simp only [List.getElem?_map, Option.map_eq_some_iff] at hy
    obtain ⟨z, hz, rfl⟩ := hy
    simp only [List.getElem?_toArray, List.getElem?_map, hz, Option.map_some, Option.some.injEq] at hu
    subst hu
    exact .int _ _
  · cases h
theorem glob_ok {W : World} (h : Tabs W) : GlobOk gam W.heap.size W := by
  intro g xs hx
  obtain ⟨rfl, rfl⟩ := gam_get g xs hx
  obtain ⟨arr, el, fr, h1, h2, h3, h4⟩ := tab_at gNameS h
  exact ⟨h2, arr, el, fr, h1, h3, h4⟩
set_option maxRecDepth 100000 in
omit [E : Amb] in
theorem table {W : World} (h : laidMetH Tryz.prog Rows.computedWidesRow.laid W) : Tabs W := by
  rw [Go.MakeChecks.laidMetH_plain _ _ _ (by kernel_rfl)] at h
  exact Lib.tabIs_of_head gNameS gTypeS Tryz.underlying142 Tryz.underlying5 cellsU8 cellsS (show laidMet Tryz.prog (("strings.asciiSpace", Lib.tabData .u8 spaces) :: _) W from h.tail.tail)
end Go.Proofs.YtkpoeilfnopgbaaGreatDoor.HM
