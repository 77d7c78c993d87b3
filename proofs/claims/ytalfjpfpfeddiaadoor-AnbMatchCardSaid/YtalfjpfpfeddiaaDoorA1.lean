/- awake() of the verifier's package 'fleuronlaw5' returns true in every world that holds strconv's table uint64pow10, and leaves what was there: by one run of the heap machine. -/
import Derived.Test.YtalfjpfpfeddiaaDoorH11
import Derived.Test.YtalfjpfpfeddiaaDoorRows
import Derived.Lib.LaidTab
import Derived.Stop.LaidErr
import Derived.MakeChecks
namespace Go.Proofs.YtalfjpfpfeddiaaDoor.HM
open Go Go.RowKit

def bod : Tr Unit := trOf [2, 3, 4, 5, 6, 7, 8, 9, 10, 11, 12, 13, 14, 15, 16, 17, 18, 19, 20, 21, 22, 23, 24, 25, 26, 27, 28, 29, 30, 31, 32, 33, 34, 35, 36, 37, 38, 39, 40, 41, 42, 43, 44, 45, 46, 47, 48, 49, 50, 51, 52, 53, 54, 55, 56, 57, 58, 59, 60, 61, 62, 63, 64, 65, 66, 67, 68, 69, 70, 71, 72, 73, 74, 75, 76, 77, 78, 79, 80, 81, 82, 83, 84, 85, 87, 88, 89, 90, 91, 92, 93, 94, 95, 96, 97, 99, 100, 101, 127] .leaf
def pur : Tr Unit := trOf [2, 3, 4, 5, 6, 7, 11, 12, 13, 14, 15, 16, 25, 27, 28, 34, 36, 39, 40, 42, 43, 44, 45, 47, 51, 59, 60, 61, 62, 65, 66, 67, 68, 69, 71, 76, 77, 78, 79, 80, 83, 85, 87, 88, 89, 90, 91, 92, 93, 94, 95, 96, 97, 99, 100, 101, 127] .leaf
def extId : List V → Option V
  | [x] => some x
  | _ => none
def ext (g : FuncId) : Option (List V → Option V) :=
  match Nat.beq g 86 with
  | true => some extId
  | false => none
def pows : List Int := [1, 10, 100, 1000, 10000, 100000, 1000000, 10000000, 100000000, 1000000000, 10000000000, 100000000000, 1000000000000, 10000000000000, 100000000000000, 1000000000000000, 10000000000000000, 100000000000000000, 1000000000000000000, 10000000000000000000]
def gam : Glob := Tr.put (some (pows.map fun z => V.int .u64 z)) .leaf 0

theorem findNext86 : Extern.findNext Tryd.f86 = none := by kernel_rfl
theorem find86 : Extern.find Tryd.f86 = some Extern.AbiNoEscape.same := by kernel_rfl

theorem ext_ok (f : FuncId) (e : List V → Option V) (h : ext f = some e) : ExtOk Tryd.prog f e := by
  unfold ext at h
  split at h
  · rename_i hf
    obtain rfl := Nat.eq_of_beq_eq_true hf
    simp only [Option.some.injEq] at h; subst h
    intro args r hr ρ w us hus
    unfold extId at hr
    split at hr
    · rename_i x
      simp only [Option.some.injEq] at hr; subst hr
      obtain ⟨u, us', h1, hx, h2⟩ := hus.cons_inv
      have h3 := h2.nil_inv
      subst h3
      obtain rfl : us = #[u] := by cases us; simp_all
      refine ⟨u, ?_, hx⟩
      simp only [callFunc, Sem.run_bind, run_program, Result.andThen_ok, Tryd.func86]
      rw [if_neg (by decide), if_pos (by decide)]
      simp only [Sem.run_bind, run_mark, Result.andThen_ok, findNext86, find86]
      rfl
    · cases hr
  · cases h

theorem trOf_in (q : Nat → Bool) (l : List Nat) : l.all q = true → ∀ (t : Tr Unit), (∀ f, inTr t f = true → q f = true) → ∀ f, inTr (trOf l t) f = true → q f = true := by
  induction l with
  | nil => intro _ t ht f hf; exact ht f hf
  | cons a l ih =>
    intro h t ht
    simp only [List.all_cons, Bool.and_eq_true] at h
    refine ih h.2 _ fun f hf => ?_
    by_cases e : f = a
    · subst e; exact h.1
    · refine ht f ?_
      unfold inTr at hf ⊢
      rwa [Tr.get_put, if_neg e] at hf

theorem bod_ok : ∀ f, inTr bod f = true → isBody Tryd.prog f = true :=
  trOf_in _ _ (by kernel_rfl) _ fun f h => by unfold inTr at h; simp [Tr.get] at h

theorem prog_ok : ProgOk Tryd.prog gam ext bod (fun _ => none) where
  draws := by kernel_rfl
  ext := ext_ok
  body := bod_ok
  extra := fun f s h => by cases h

theorem gam_get (g : Nat) (xs : List V) (h : gam.get g = some xs) : g = 0 ∧ xs = pows.map fun z => V.int .u64 z := by
  unfold gam at h
  rw [Tr.get_put] at h
  split at h
  · rename_i e; simp only [Option.some.injEq] at h; exact ⟨e, h.symm⟩
  · simp [Tr.get] at h

theorem gName : Tryd.prog.globalNamed "internal/strconv.uint64pow10" = some 0 := by kernel_rfl
theorem gType : (Tryd.prog.globals[0]?).map (·.type) = some 108 := by kernel_rfl
theorem cellsA : Tryd.prog.cellsOf 108 = 20 := by kernel_rfl
theorem cellsU : Tryd.prog.cellsOf 58 = 1 := by kernel_rfl

theorem glob_ok {W : World} (h : Lib.TabIs Tryd.prog W "internal/strconv.uint64pow10" .u64 pows) : GlobOk gam W.heap.size W := by
  intro g xs hx
  obtain ⟨rfl, rfl⟩ := gam_get g xs hx
  unfold Lib.TabIs World.var? at h
  rw [gName, Option.bind_some] at h
  split at h
  · rename_i cs el fr hh
    simp only [Option.some.injEq] at h; subst h
    refine ⟨(Array.getElem?_eq_some_iff.1 hh).1, _, _, _, hh, by simp, fun i y u hy hu => ?_⟩
    simp only [List.getElem?_map, Option.map_eq_some_iff] at hy
    obtain ⟨z, hz, rfl⟩ := hy
    simp only [List.getElem?_toArray, List.getElem?_map, hz, Option.map_some, Option.some.injEq] at hu
    subst hu
    exact .int _ _
  · cases h

/-- what the rows' list gives -/
theorem table {W : World} (h : laidMetH Tryd.prog Rows.anbMatchRow.laid W) : Lib.TabIs Tryd.prog W "internal/strconv.uint64pow10" .u64 pows := by
  rw [Go.MakeChecks.laidMetH_plain _ _ _ (by kernel_rfl)] at h
  exact Lib.tabIs_of_head gName gType Tryd.underlying108 Tryd.underlying58 cellsU cellsA (show laidMet Tryd.prog (("internal/strconv.uint64pow10", Lib.tabData .u64 pows) :: _) W from h.tail.tail)

noncomputable def awakeRun : Bool := match runF Tryd.prog gam (inTr pur) ext bod (fun _ => none) 1000 40 7 [] Hp.empty with
  | some (.bool b, _) => b
  | _ => false
theorem awake_run : awakeRun = true := by kernel_rfl

theorem awake_c {W : World} (h : Lib.TabIs Tryd.prog W "internal/strconv.uint64pow10" .u64 pows) :
    Calls Tryd.prog 7 #[] W fun e w' => e = .returned (.bool true) ∧ Below W.heap.size W w' := by
  have hr := awake_run
  unfold awakeRun at hr
  split at hr
  · rename_i b h' hh
    subst hr
    refine (runs_calls (runF_sound prog_ok _ _) hh rfl (glob_ok h) (VRs.nil _)).mono ?_
    rintro e w' ⟨v, rfl, hv, hb⟩
    cases hv
    exact ⟨rfl, hb⟩
  · cases hr

end Go.Proofs.YtalfjpfpfeddiaaDoor.HM
