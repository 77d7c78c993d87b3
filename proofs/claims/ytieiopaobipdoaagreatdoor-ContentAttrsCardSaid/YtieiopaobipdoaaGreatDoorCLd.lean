/- Tree.Attr of the one node. -/
import Derived.Test.YtieiopaobipdoaaGreatDoorCLc
namespace Go.Proofs.YtieiopaobipdoaaGreatDoor.Dom
open Go Go.RowKit Num
def lookA (l : List (ByteArray × ByteArray)) (m : ByteArray) : Option ByteArray := (l.find? (fun x => x.1.toList == m.toList)).map (·.2)
def lookV (o : Option ByteArray) : Value := .tuple #[.string (o.getD ⟨#[]⟩), .bool o.isSome]
theorem look_hit {l : List (ByteArray × ByteArray)} {m : ByteArray} {k : Nat} {x : ByteArray × ByteArray} (hx : l[k]? = some x) (he : (x.1.toList == m.toList) = true) (hA : (l.take k).find? (fun x => x.1.toList == m.toList) = none) : lookA l m = some x.2 := by
  obtain ⟨h1, h2⟩ := List.getElem?_eq_some_iff.1 hx
  unfold lookA
  rw [← List.take_append_drop k l, List.find?_append, hA, List.drop_eq_getElem_cons h1, h2]
  simp only [List.find?_cons, he, Option.none_or, Option.map_some]
theorem look_miss {l : List (ByteArray × ByteArray)} {m : ByteArray} {k : Nat} {x : ByteArray × ByteArray} (hx : l[k]? = some x) (he : (x.1.toList == m.toList) = false) (hA : (l.take k).find? (fun x => x.1.toList == m.toList) = none) : (l.take (k + 1)).find? (fun x => x.1.toList == m.toList) = none := by
  obtain ⟨h1, h2⟩ := List.getElem?_eq_some_iff.1 hx
  rw [List.take_succ_eq_append_getElem h1, h2, List.find?_append, hA]
  simp only [List.find?_cons, he, Option.none_or, List.find?_nil]
set_option maxHeartbeats 1000000 in
theorem attr_c (l : List (ByteArray × ByteArray)) (t : Nat) (m : ByteArray) (w : World) (hl : l.length ≤ 1000) (ht : TreeA l t w) :
    Calls Tryz.prog 25 #[.pointer (some ⟨t, 0, none⟩), .int .i64 0, .string m] w fun e w' => e = .returned (lookV (lookA l m)) ∧ Below w.heap.size w w' := by
  obtain ⟨n, c, v, h1, h2, hv⟩ := ht
  rcases hv with ⟨rfl, rfl⟩ | ⟨g, o, c', rfl, hg, hc⟩
  · go_enter Tryz.func25, Tryz.ntmps25
    go_wp2
    refine wp_loop_rounds 1 ?_
    rw [rounds_succ]
    go_wp2
    go_ret2
    exact ⟨rfl, Below.refl _ _⟩
  · go_enter Tryz.func25, Tryz.ntmps25
    go_wp2
    go_loopg [24] l.length (fun gg s24 wr => ∃ kk : Nat, kk ≤ l.length ∧ l.length - kk ≤ gg ∧ s24 = .int .i64 kk ∧ Below w.heap.size w wr ∧ (l.take kk).find? (fun x => x.1.toList == m.toList) = none)
    case atStart => exact ⟨0, Nat.zero_le _, by omega, rfl, Below.refl _ w, rfl⟩
    case round =>
      obtain ⟨kk, hkk, hgg, rfl, BW, hA⟩ := hrel
      by_cases hlt : kk < l.length
      · obtain ⟨x, hx⟩ : ∃ x, l[kk]? = some x := ⟨_, List.getElem?_eq_getElem hlt⟩
        have hc1 := (BW.cell (p := ⟨g, o + kk * 2, none⟩) hg).trans (hc kk x hx).1
        have hc2 := (BW.cell (p := ⟨g, o + kk * 2 + 1, none⟩) hg).trans (hc kk x hx).2
        have HX := Lib.hid hx
        have HA := Lib.hid hA
        clear hc hx hA
        obtain ⟨x1, x2⟩ := x
        by_cases he : (x1.toList == m.toList) = true
        · have hr := look_hit HX.out he HA.out
          have HR := Lib.hid hr
          clear hr
          go_wp2
          go_ret2
          exact ⟨by rw [HR.out]; rfl, BW.alloc BW.size _⟩
        · have he : (x1.toList == m.toList) = false := by simpa using he
          have HR := Lib.hid (look_miss HX.out he HA.out)
          go_wp2
          go_roundg (l.length - (kk + 1))
          case measure => omega
          case rel => exact ⟨kk + 1, by omega, by omega, by go_num, BW.alloc BW.size _, HR.out⟩
      · obtain rfl : kk = l.length := by omega
        rw [List.take_length] at hA
        have hr : lookA l m = none := by unfold lookA; rw [hA]; rfl
        have HR := Lib.hid hr
        clear hr
        go_wp2
        go_ret2
        exact ⟨by rw [HR.out]; rfl, BW⟩
end Go.Proofs.YtieiopaobipdoaaGreatDoor.Dom
