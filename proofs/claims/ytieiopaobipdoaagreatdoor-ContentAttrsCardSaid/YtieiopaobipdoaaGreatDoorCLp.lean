/- The plain law: the first of that small name is what is found among the small names, each once. -/
import Derived.Test.YtieiopaobipdoaaGreatDoorCLd
namespace Go.Proofs.YtieiopaobipdoaaGreatDoor.Dom
open Go Go.RowKit Num

theorem dd_app (l : List (ByteArray × ByteArray)) (x : ByteArray × ByteArray) : dd (l ++ [x]) = ddS (dd l) x := by
  unfold dd
  rw [List.foldl_append]; rfl
/-- the first whose small name is asked -/
def first (l : List (ByteArray × ByteArray)) (m : ByteArray) : Option (ByteArray × ByteArray) := l.find? (fun x => (lowS x.1).toList == m.toList)
theorem first_snoc (l : List (ByteArray × ByteArray)) (x : ByteArray × ByteArray) (m : ByteArray) : first (l ++ [x]) m = (first l m).or (if ((lowS x.1).toList == m.toList) = true then some x else none) := by
  unfold first
  rw [List.find?_append]
  congr 1
  simp only [List.find?_cons, List.find?_nil]
  cases (lowS x.1).toList == m.toList <;> rfl
theorem dd_find (m : ByteArray) : ∀ (n : Nat) (l : List (ByteArray × ByteArray)), l.length = n → (dd l).find? (fun x => x.1.toList == m.toList) = (first l m).map (fun x => (lowS x.1, x.2))
  | 0, l, h => by
    obtain rfl := List.eq_nil_of_length_eq_zero h
    rfl
  | n + 1, l, h => by
    obtain ⟨r, x, rfl⟩ : ∃ r x, l = r ++ [x] := ⟨l.dropLast, l.getLast (by intro e; subst e; simp at h), (List.dropLast_concat_getLast _).symm⟩
    have ih := dd_find m n r (by simpa using h)
    rw [dd_app, first_snoc]
    unfold ddS
    by_cases hx : ((lowS x.1).toList == m.toList) = true
    · rw [if_pos hx]
      split
      · rename_i hany
        rw [ih]
        cases hf : first r m with
        | some y => rfl
        | none =>
          exfalso
          rw [hf] at ih
          obtain ⟨y, hy, hyx⟩ := List.any_eq_true.1 hany
          have := List.find?_eq_none.1 ih y hy
          simp only [beq_iff_eq] at hyx hx this
          exact this (hyx.trans hx)
      · rw [List.find?_append, ih]
        cases first r m with
        | some y => rfl
        | none => simp [hx]
    · rw [if_neg hx]
      have hx' : ((lowS x.1).toList == m.toList) = false := by simpa using hx
      split
      · rw [ih]; simp
      · rw [List.find?_append, ih]
        simp [hx']
theorem look_dd (l : List (ByteArray × ByteArray)) (m : ByteArray) : lookA (dd l) m = (first l m).map (·.2) := by
  unfold lookA
  rw [dd_find m _ l rfl]
  cases first l m <;> rfl
/-- the items of the law: name, value and place -/
def decS (k : Nat) : ByteArray := ⟨#[UInt8.ofNat (48 + k)]⟩
def itemsL (v : ByteArray) (ns : List ByteArray) : List (ByteArray × ByteArray) := ns.mapIdx fun k n => (n, v ++ decS k)
theorem items_len (v : ByteArray) (ns : List ByteArray) : (itemsL v ns).length = ns.length := by simp [itemsL]
theorem items_snoc (v : ByteArray) (ns : List ByteArray) (n : ByteArray) : itemsL v (ns ++ [n]) = itemsL v ns ++ [(n, v ++ decS ns.length)] := by
  simp [itemsL, List.mapIdx_append]
theorem items_mem (v : ByteArray) (ns : List ByteArray) (x : ByteArray × ByteArray) (h : x ∈ itemsL v ns) : x.1 ∈ ns ∧ x.2.size = v.size + 1 := by
  simp only [itemsL, List.mem_mapIdx] at h
  obtain ⟨i, hi, rfl⟩ := h
  exact ⟨List.getElem_mem hi, by rw [ByteArray.size_append]; rfl⟩
/-- what is wanted so far; whether it was met -/
def wantB (v : ByteArray) (ns : List ByteArray) (m : ByteArray) : ByteArray := ((first (itemsL v ns) m).map (·.2)).getD ⟨#[]⟩
def metB (v : ByteArray) (ns : List ByteArray) (m : ByteArray) : Bool := (first (itemsL v ns) m).isSome
theorem want_size (v : ByteArray) (ns : List ByteArray) (m : ByteArray) : (wantB v ns m).size ≤ v.size + 1 := by
  unfold wantB
  cases h : first (itemsL v ns) m with
  | none => exact Nat.zero_le _
  | some x =>
    have := (items_mem v ns x (List.mem_of_find?_eq_some h)).2
    simp only [Option.map_some, Option.getD_some]; omega
theorem want_hit (v : ByteArray) (ns : List ByteArray) (n m : ByteArray) (h : ((lowS n).toList == m.toList) = true) (hm : metB v ns m = false) : wantB v (ns ++ [n]) m = v ++ decS ns.length ∧ metB v (ns ++ [n]) m = true := by
  unfold wantB metB at *
  rw [items_snoc, first_snoc, if_pos h]
  cases hf : first (itemsL v ns) m with
  | none => exact ⟨rfl, rfl⟩
  | some x => rw [hf] at hm; cases hm
theorem want_stay (v : ByteArray) (ns : List ByteArray) (n m : ByteArray) (h : ((lowS n).toList == m.toList) = false ∨ metB v ns m = true) : wantB v (ns ++ [n]) m = wantB v ns m ∧ metB v (ns ++ [n]) m = metB v ns m := by
  unfold wantB metB at *
  rw [items_snoc, first_snoc]
  rcases h with h | h
  · simp [h]
  · cases hf : first (itemsL v ns) m with
    | none => rw [hf] at h; cases h
    | some x => exact ⟨rfl, rfl⟩
theorem look_want (v : ByteArray) (ns : List ByteArray) (m : ByteArray) : (lookA (dd (itemsL v ns)) m).getD ⟨#[]⟩ = wantB v ns m := by rw [look_dd]; rfl
end Go.Proofs.YtieiopaobipdoaaGreatDoor.Dom
