/- What the fast machine is given of this program: the functions it may call, the tables. -/
import Derived.Test.YtieiopaobipdoaaGreatDoorPG
import Derived.Test.YtieiopaobipdoaaGreatDoorRows
import Derived.Lib.LaidTab
import Derived.Stop.LaidErr
import Derived.MakeChecks
import Derived.Laws.Externs
namespace Go.Proofs.YtieiopaobipdoaaGreatDoor.HM
open Go Go.RowKit
variable [E : Amb]
def bod : Tr Unit := trOf [2, 3, 4, 5, 6, 7, 8, 9, 10, 11, 12, 13, 14, 15, 16, 17, 18, 19, 20, 21, 22, 23, 24, 25, 26, 27, 28, 29, 30, 31, 32, 33, 34, 35, 36, 37, 38, 39, 40, 41, 42, 43, 44, 45, 46, 47, 48, 49, 50, 51, 52, 53, 54, 55, 56, 57, 58, 59, 60, 61, 62, 63, 64, 65, 66, 67, 68, 69, 70, 71, 72, 73, 74, 75, 76, 77, 78, 79, 80, 81, 82, 83, 84, 85, 86, 87, 89, 90, 91, 92, 93, 94, 95, 96, 97, 98, 99, 100, 101, 102, 103, 104, 105, 106, 107, 108, 109, 110, 111, 112, 113, 114, 115, 116, 117, 118, 119, 120, 121, 122, 123, 124, 126, 127, 128, 129, 130, 131, 132, 133, 134, 135, 136, 137, 138, 139, 167] .leaf
def pur : Tr Unit := trOf [2, 8, 9, 10, 15, 18, 19, 21, 22, 23, 29, 34, 35, 39, 40, 41, 42, 43, 44, 48, 49, 58, 59, 64, 67, 69, 81, 94, 95, 96, 100, 101, 104, 118, 120, 121, 129, 1000031, 1000026] .leaf
def clo : Tr Unit := trOf [12] .leaf
noncomputable def extId : List V → Option V := fun l => List.rec (motive := fun _ => Option V) none (fun x r _ => List.rec (motive := fun _ => Option V) (some x) (fun _ _ _ => none) r) l
noncomputable def ext : FuncId → Option (List V → Option V) := fun g => Bool.rec (motive := fun _ => Option (List V → Option V)) none (some extId) (Nat.beq g 88)
def spaces : List Int := [0, 0, 0, 0, 0, 0, 0, 0, 0, 1, 1, 1, 1, 1, 0, 0, 0, 0, 0, 0, 0, 0, 0, 0, 0, 0, 0, 0, 0, 0, 0, 0, 1, 0, 0, 0, 0, 0, 0, 0, 0, 0, 0, 0, 0, 0, 0, 0, 0, 0, 0, 0, 0, 0, 0, 0, 0, 0, 0, 0, 0, 0, 0, 0, 0, 0, 0, 0, 0, 0, 0, 0, 0, 0, 0, 0, 0, 0, 0, 0, 0, 0, 0, 0, 0, 0, 0, 0, 0, 0, 0, 0, 0, 0, 0, 0, 0, 0, 0, 0, 0, 0, 0, 0, 0, 0, 0, 0, 0, 0, 0, 0, 0, 0, 0, 0, 0, 0, 0, 0, 0, 0, 0, 0, 0, 0, 0, 0, 0, 0, 0, 0, 0, 0, 0, 0, 0, 0, 0, 0, 0, 0, 0, 0, 0, 0, 0, 0, 0, 0, 0, 0, 0, 0, 0, 0, 0, 0, 0, 0, 0, 0, 0, 0, 0, 0, 0, 0, 0, 0, 0, 0, 0, 0, 0, 0, 0, 0, 0, 0, 0, 0, 0, 0, 0, 0, 0, 0, 0, 0, 0, 0, 0, 0, 0, 0, 0, 0, 0, 0, 0, 0, 0, 0, 0, 0, 0, 0, 0, 0, 0, 0, 0, 0, 0, 0, 0, 0, 0, 0, 0, 0, 0, 0, 0, 0, 0, 0, 0, 0, 0, 0, 0, 0, 0, 0, 0, 0, 0, 0, 0, 0, 0, 0, 0, 0, 0, 0, 0, 0, 0, 0, 0, 0, 0, 0]
def gam : Glob := Tr.put (some (spaces.map fun z => V.int .u8 z)) .leaf 0
omit [E : Amb] in
theorem findNextN : Extern.findNext Tryz.f88 = none := by kernel_rfl
omit [E : Amb] in
theorem extFindN : Extern.find Tryz.f88 = some Extern.AbiNoEscape.same := by kernel_rfl
omit [E : Amb] in
theorem extId_inv {l : List V} {r : V} (h : extId l = some r) : l = [r] := by
  cases l with
  | nil => cases h
  | cons x t => cases t with
    | nil => cases h; rfl
    | cons y t => cases h
theorem ext_ok (f : FuncId) (e : List V → Option V) (h : ext f = some e) : ExtOk Tryz.prog f e := by
  revert h
  show Bool.rec (motive := fun _ => Option (List V → Option V)) none (some extId) (Nat.beq f 88) = some e → _
  cases h1 : Nat.beq f 88 with
  | true =>
    intro h; cases h
    obtain rfl := Nat.eq_of_beq_eq_true h1
    intro args r hr ρ w us hus
    obtain rfl := extId_inv hr
    obtain ⟨u, us', h1, hx, h2⟩ := hus.cons_inv
    have h3 := h2.nil_inv
    subst h3
    obtain rfl : us = #[u] := by cases us; simp_all
    refine ⟨u, ?_, hx⟩
    rw [run_callFunc_extern Tryz.func88 (by kernel_rfl) (by kernel_rfl) findNextN extFindN]
    rfl
  | false => intro h; cases h
omit [E : Amb] in
theorem trOf_in (q : Nat → Bool) (l : List Nat) : l.all q = true → ∀ (t : Tr Unit), (∀ f, inTr t f = true → q f = true) → ∀ f, inTr (trOf l t) f = true → q f = true := by
  induction l with
  | nil => intro _ t ht f hf; exact ht f hf
  | cons a l ih =>
    intro h t ht
    simp only [List.all_cons, Bool.and_eq_true] at h
    refine ih h.2 _ fun f hf => ?_
    by_cases e : f = a
    · subst e; exact h.1
    · refine ht f ?_
      unfold inTr at hf ⊢
      rwa [Tr.get_put, if_neg e] at hf
omit [E : Amb] in
theorem bod_ok : ∀ f, inTr bod f = true → isBody Tryz.prog f = true :=
  trOf_in _ _ (by kernel_rfl) _ fun f h => by unfold inTr at h; simp [Tr.get] at h
theorem prog_ok {extra : FuncId → Option Spec} (hx : ∀ f s, extra f = some s → CalleeOk Tryz.prog gam f s) : ProgOk Tryz.prog gam ext bod extra where
  draws := by kernel_rfl
  ext := ext_ok
  body := bod_ok
  extra := hx
omit [E : Amb] in
theorem gam_get (g : Nat) (xs : List V) (h : gam.get g = some xs) : g = 0 ∧ xs = spaces.map fun z => V.int .u8 z := by
  unfold gam at h
  rw [Tr.get_put] at h
  split at h
  · rename_i e; simp only [Option.some.injEq] at h; exact ⟨e, h.symm⟩
  · simp [Tr.get] at h
omit [E : Amb] in
theorem gNameS : Tryz.prog.globalNamed "strings.asciiSpace" = some 0 := by kernel_rfl
omit [E : Amb] in
theorem gTypeS : (Tryz.prog.globals[0]?).map (·.type) = some 140 := by kernel_rfl
omit [E : Amb] in
theorem cellsS : Tryz.prog.cellsOf 140 = 256 := by kernel_rfl
omit [E : Amb] in
theorem cellsU8 : Tryz.prog.cellsOf 5 = 1 := by kernel_rfl
def Tabs (W : World) : Prop := Lib.TabIs Tryz.prog W "strings.asciiSpace" .u8 spaces
theorem tab_at {W : World} {name : String} {k : IntKind} {zs : List Int} {g : Nat} (hg : Tryz.prog.globalNamed name = some g) (h : Lib.TabIs Tryz.prog W name k zs) :
    ∃ arr el fr, W.heap[g]? = some (.cells arr el fr) ∧ g < W.heap.size ∧ (zs.map fun z => V.int k z).length = arr.size ∧ ∀ (i : Nat) y u, (zs.map fun z => V.int k z)[i]? = some y → arr[i]? = some u → VR Ren.nil y u := by
  unfold Lib.TabIs World.var? at h
  rw [hg, Option.bind_some] at h
  split at h
  · rename_i cs el fr hh
    simp only [Option.some.injEq] at h; subst h
    refine ⟨_, _, _, hh, (Array.getElem?_eq_some_iff.1 hh).1, by simp, fun i y u hy hu => ?_⟩
    simp only [List.getElem?_map, Option.map_eq_some_iff] at hy
    obtain ⟨z, hz, rfl⟩ := hy
    simp only [List.getElem?_toArray, List.getElem?_map, hz, Option.map_some, Option.some.injEq] at hu
    subst hu
    exact .int _ _
  · cases h
theorem glob_ok {W : World} (h : Tabs W) : GlobOk gam W.heap.size W := by
  intro g xs hx
  obtain ⟨rfl, rfl⟩ := gam_get g xs hx
  obtain ⟨arr, el, fr, h1, h2, h3, h4⟩ := tab_at gNameS h
  exact ⟨h2, arr, el, fr, h1, h3, h4⟩
set_option maxRecDepth 100000 in
omit [E : Amb] in
theorem table {W : World} (h : laidMetH Tryz.prog Rows.contentCutsRow.laid W) : Tabs W := by
  rw [Go.MakeChecks.laidMetH_plain _ _ _ (by kernel_rfl)] at h
  exact Lib.tabIs_of_head gNameS gTypeS Tryz.underlying140 Tryz.underlying5 cellsU8 cellsS (show laidMet Tryz.prog (("strings.asciiSpace", Lib.tabData .u8 spaces) :: _) W from h.tail.tail)
end Go.Proofs.YtieiopaobipdoaaGreatDoor.HM
