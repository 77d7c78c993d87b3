/- fleuronref12.SameStyle and computed.Same: one answer. -/
import Derived.Test.YtkpoeilfnopgbaaGreatDoorSYo1
import Derived.Test.YtkpoeilfnopgbaaGreatDoorSYo2
import Derived.Test.YtkpoeilfnopgbaaGreatDoorSYo3
import Derived.Test.YtkpoeilfnopgbaaGreatDoorSYo4
import Derived.Test.YtkpoeilfnopgbaaGreatDoorSYo5
import Derived.Test.YtkpoeilfnopgbaaGreatDoorSYq1
import Derived.Test.YtkpoeilfnopgbaaGreatDoorSYq2
import Derived.Test.YtkpoeilfnopgbaaGreatDoorSYq3
import Derived.Test.YtkpoeilfnopgbaaGreatDoorSYq4
import Derived.Test.YtkpoeilfnopgbaaGreatDoorSYl
namespace Go.Proofs.YtkpoeilfnopgbaaGreatDoor.Sty
open Go Go.RowKit
theorem same2 (s t : S) (vc vq vr va vs uc uq ur ua us : Value) (w : World) (ms : Mx s) (mt : Mx t) (hv : Parts s vc vq vr va vs w) (hu : Parts t uc uq ur ua us w) :
    Calls Tryz.prog 8 #[.agg #[.string s.disp, .string s.lt, .string s.col, vc, .bool s.nor, .bool s.non, vq, .bool s.aut, vr, va, vs], .agg #[.string t.disp, .string t.lt, .string t.col, uc, .bool t.nor, .bool t.non, uq, .bool t.aut, ur, ua, us]] w fun e w' => e = .returned (.bool (eqB s t)) ∧ Below w.heap.size w w' := by
  obtain ⟨i0, i1, i2, i3, i4, i5, i6, i7, i8, i9, i10⟩ := s
  obtain ⟨i0', i1', i2', i3', i4', i5', i6', i7', i8', i9', i10'⟩ := t
  obtain ⟨p, pc, rfl, _⟩ := hv.c
  obtain ⟨q, qc, rfl, _⟩ := hv.q
  obtain ⟨r, rc, rfl, _⟩ := hv.r
  obtain ⟨a, ac, rfl, _⟩ := hv.a
  obtain ⟨z, zc, rfl, _⟩ := hv.s
  obtain ⟨p', pc', rfl, _⟩ := hu.c
  obtain ⟨q', qc', rfl, _⟩ := hu.q
  obtain ⟨r', rc', rfl, _⟩ := hu.r
  obtain ⟨a', ac', rfl, _⟩ := hu.a
  obtain ⟨z', zc', rfl, _⟩ := hu.s
  by_cases y : i0 = i0'
  case neg => rw [eqB_f fun h => y (congrArg S.disp h)]; apply same_0 <;> assumption
  subst y
  by_cases y : i1 = i1'
  case neg => rw [eqB_f fun h => y (congrArg S.lt h)]; apply same_1 <;> assumption
  subst y
  by_cases y : i2 = i2'
  case neg => rw [eqB_f fun h => y (congrArg S.col h)]; apply same_2 <;> assumption
  subst y
  by_cases y : i4 = i4'
  case neg => rw [eqB_f fun h => y (congrArg S.nor h)]; apply same_3 <;> assumption
  subst y
  by_cases y : i5 = i5'
  case neg => rw [eqB_f fun h => y (congrArg S.non h)]; apply same_4 <;> assumption
  subst y
  by_cases y : i7 = i7'
  case neg => rw [eqB_f fun h => y (congrArg S.aut h)]; apply same_5 <;> assumption
  subst y
  by_cases yi3 : i3.length = i3'.length
  case neg => rw [eqB_f fun h => yi3 (congrArg (fun x => x.con.length) h)]; apply same_6 <;> assumption
  by_cases yi6 : i6.length = i6'.length
  case neg => rw [eqB_f fun h => yi6 (congrArg (fun x => x.quo.length) h)]; apply same_7 <;> assumption
  by_cases y : i8 = i8'
  case neg => rw [eqB_f fun h => y (congrArg S.rst h)]; apply same_8 <;> assumption
  subst y
  by_cases y : i9 = i9'
  case neg => rw [eqB_f fun h => y (congrArg S.add h)]; apply same_9 <;> assumption
  subst y
  by_cases y : i10 = i10'
  case neg => rw [eqB_f fun h => y (congrArg S.set h)]; apply same_10 <;> assumption
  subst y
  apply same_11 <;> assumption
theorem csame2 (s t : S) (vc vq vr va vs uc uq ur ua us : Value) (w : World) (ms : Mx s) (mt : Mx t) (hv : Parts s vc vq vr va vs w) (hu : Parts t uc uq ur ua us w) :
    Calls Tryz.prog 10 #[.agg #[.string s.disp, .string s.lt, .string s.col, vc, .bool s.nor, .bool s.non, vq, .bool s.aut, vr, va, vs], .agg #[.string t.disp, .string t.lt, .string t.col, uc, .bool t.nor, .bool t.non, uq, .bool t.aut, ur, ua, us]] w fun e w' => e = .returned (.bool (eqB s t)) ∧ Below w.heap.size w w' := by
  obtain ⟨i0, i1, i2, i3, i4, i5, i6, i7, i8, i9, i10⟩ := s
  obtain ⟨i0', i1', i2', i3', i4', i5', i6', i7', i8', i9', i10'⟩ := t
  obtain ⟨p, pc, rfl, _⟩ := hv.c
  obtain ⟨q, qc, rfl, _⟩ := hv.q
  obtain ⟨r, rc, rfl, _⟩ := hv.r
  obtain ⟨a, ac, rfl, _⟩ := hv.a
  obtain ⟨z, zc, rfl, _⟩ := hv.s
  obtain ⟨p', pc', rfl, _⟩ := hu.c
  obtain ⟨q', qc', rfl, _⟩ := hu.q
  obtain ⟨r', rc', rfl, _⟩ := hu.r
  obtain ⟨a', ac', rfl, _⟩ := hu.a
  obtain ⟨z', zc', rfl, _⟩ := hu.s
  by_cases y : i0 = i0'
  case neg => rw [eqB_f fun h => y (congrArg S.disp h)]; apply csame_0 <;> assumption
  subst y
  by_cases y : i1 = i1'
  case neg => rw [eqB_f fun h => y (congrArg S.lt h)]; apply csame_1 <;> assumption
  subst y
  by_cases y : i2 = i2'
  case neg => rw [eqB_f fun h => y (congrArg S.col h)]; apply csame_2 <;> assumption
  subst y
  by_cases y : i4 = i4'
  case neg => rw [eqB_f fun h => y (congrArg S.nor h)]; apply csame_3 <;> assumption
  subst y
  by_cases y : i5 = i5'
  case neg => rw [eqB_f fun h => y (congrArg S.non h)]; apply csame_4 <;> assumption
  subst y
  by_cases y : i7 = i7'
  case neg => rw [eqB_f fun h => y (congrArg S.aut h)]; apply csame_5 <;> assumption
  subst y
  by_cases y : i3 = i3'
  case neg => rw [eqB_f fun h => y (congrArg S.con h)]; apply csame_6 <;> assumption
  subst y
  by_cases y : i6 = i6'
  case neg => rw [eqB_f fun h => y (congrArg S.quo h)]; apply csame_7 <;> assumption
  subst y
  by_cases y : i8 = i8'
  case neg => rw [eqB_f fun h => y (congrArg S.rst h)]; apply csame_8 <;> assumption
  subst y
  by_cases y : i9 = i9'
  case neg => rw [eqB_f fun h => y (congrArg S.add h)]; apply csame_9 <;> assumption
  subst y
  by_cases y : i10 = i10'
  case neg => rw [eqB_f fun h => y (congrArg S.set h)]; apply csame_10 <;> assumption
  subst y
  rw [eqB_t rfl]
  apply csame_11 <;> assumption
end Go.Proofs.YtkpoeilfnopgbaaGreatDoor.Sty
