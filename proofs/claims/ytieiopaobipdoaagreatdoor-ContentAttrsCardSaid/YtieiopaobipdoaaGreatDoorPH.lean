/- internal/bytealg.MakeNoZero for the heap machine: a new block of whatever bytes. -/
import Derived.Test.YtieiopaobipdoaaGreatDoorPE
import Derived.Lib.MakeNoZero
import Derived.Laws.Externs
namespace Go.Proofs.YtieiopaobipdoaaGreatDoor.HM
open Go Go.RowKit
variable [E : Amb]
noncomputable def mkS (e : Nat) : List V → Hp → Option (V × Hp)
  | [.int .i64 (Int.ofNat n)], h => match Nat.ble n 1000000 with
    | true => some (.sl h.next 0 n 1, (h.new (List.replicate n .any)).withEl h.next (2 * e + 1))
    | false => none
  | _, _ => none
theorem mk_ok {P : Program} {Γ : Glob} {f : FuncId} {fn : Func} {ps : Array TypeId} {t e : TypeId} (hf : P.funcs[f]? = some fn) (hname : (fn.name == "runtime.NumGoroutine") = false) (hb : fn.body.isNone = true)
    (hn : Extern.findNext fn = none) (he : Extern.find fn = some (Extern.BytealgMakeNoZero.makeNoZero ps #[t])) (ht : P.underlying t = some (.slice e)) : CalleeOk P Γ f (mkS e) := by
  refine .inr fun args h r h' hs N0 w0 ρ w us H hv => ?_
  unfold mkS at hs
  split at hs
  · rename_i n
    split at hs
    · rename_i hc
      simp only [Option.some.injEq, Prod.mk.injEq] at hs; obtain ⟨rfl, rfl⟩ := hs
      obtain ⟨u, us', k1, hx, k2⟩ := hv.cons_inv
      have k5 := k2.nil_inv
      subst k5
      obtain rfl : us = #[u] := by cases us; simp_all
      obtain rfl := hx.int_inv
      have hn1 : n ≤ 1000000 := Nat.le_of_ble_eq_true hc
      obtain ⟨cs, h1, h2, _⟩ := Lib.run_makeNoZero (P := P) w ps t e ht n (by omega)
      have H2 : Rel Γ N0 w0 (setR ρ h.next ⟨w.heap.size, 0, cs.size⟩) (h.new (List.replicate n .any)) (World.new (w.drew.drew) (.cells cs e (0, 0))) :=
        Rel.newCells (H.drawn (w.drawn + 2)) (by simpa using h2) (fun o a b => by simp at b) (fun i y u hy _ => by
          obtain rfl := List.eq_of_mem_replicate (List.mem_of_getElem? hy)
          exact .any _)
      refine ⟨.slice (some ⟨w.heap.size, 0, none⟩) n cs.size, World.new (w.drew.drew) (.cells cs e (0, 0)), _, ?_, setR_ext (H.fresh _ (Nat.le_refl _)), Rel.withEl H2 (a := h.next) (arr := cs) (fr := (0, 0)) (e := 2 * e + 1) (L := ⟨w.heap.size, 0, cs.size⟩) (by simp [setR]) ?_ (.inl rfl) (fun _ => rfl), ?_⟩
      · rw [run_callFunc_extern hf hname hb hn he]
        show ((Extern.BytealgMakeNoZero.makeNoZero ps #[t] #[.int .i64 n]).run P w).andThen _ = _
        rw [h1]
        rfl
      · have e1 : (2 * e + 1) / 2 = e := (fun x : Nat => (by omega : (2 * x + 1) / 2 = x)) e
        rw [e1]
        exact new_heap_new _ _
      · exact .sl h.next 0 n 1 cs.size ⟨w.heap.size, 0, cs.size⟩ (by simp [setR]) h2 (by simp)
    · cases hs
  · cases hs
end Go.Proofs.YtieiopaobipdoaaGreatDoor.HM
