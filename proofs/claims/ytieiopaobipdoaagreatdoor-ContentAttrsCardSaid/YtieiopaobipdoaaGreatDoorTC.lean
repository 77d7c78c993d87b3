/- content.Cut of a text whose signs' places are known. -/
import Derived.Test.YtieiopaobipdoaaGreatDoorProg
import Derived.Laws.RangeAny
import Derived.LoopTactic
import Derived.WalkKit
import Derived.ProofKit
import Derived.OpenShut
import Derived.Lib.Hide
namespace Go.Proofs.YtieiopaobipdoaaGreatDoor.Cut
open Go Go.RowKit
def CutS (s : ByteArray) (w : World) (e : Ending) (w' : World) : Prop := e = .returned (.tuple #[.string s, .bool false]) ∧ Below w.heap.size w w'
theorem cut_short (s : ByteArray) (w : World) (h : s.size ≤ 2000) :
    Calls Tryz.prog 10 #[.string s] w (CutS s w) := by
  go_enter Tryz.func10, Tryz.ntmps10
  go_wp2
  all_goals (go_ret2; exact ⟨rfl, Below.refl _ _⟩)
def CutI (s : ByteArray) (f : Nat → Nat) (q : Nat) (w0 : World) (s4 : Value) (W : World) : Prop := ∃ k t : Nat, k ≤ q + 1 ∧ W = w0.iter s (f k) ∧ s4 = .int .i64 (t : Int) ∧ (k = 0 → t = 0) ∧ (∀ j, k = j + 1 → t = f j)
def CutE (s : ByteArray) (n : Nat) (w : World) (e : Ending) (w' : World) : Prop := e = .returned (.tuple #[.string (s.extract 0 n), .bool true]) ∧ Below w.heap.size w w'
set_option maxHeartbeats 1000000 in
theorem cut_long (s : ByteArray) (w : World) (f : Nat → Nat) (m q : Nat) (h1 : 2000 < s.size) (h2 : s.size ≤ 100000) (h0 : Hid (f 0 = 0)) (hm : Hid (f m = s.size))
    (hf : Hid (∀ k, k < m → f k < s.size ∧ f k + (Utf8.decode s (f k)).2 = f (k + 1) ∧ f k < f (k + 1))) (hq : q < m) (hq1 : f q ≤ 2000) (hq2 : Hid (2000 < f (q + 1))) (hmono : Hid (∀ k, k ≤ q → f k ≤ f q)) :
    Calls Tryz.prog 10 #[.string s] w (CutE s (f q) w) := by
  go_enter Tryz.func10, Tryz.ntmps10
  go_wp2
  go_loopw [4] (fun s4 W' => CutI s f q w s4 W') (fun _ W' => s.size - W'.iterPos w.heap.size)
  case atStart => exact ⟨0, 0, Nat.zero_le _, by rw [h0.out], rfl, fun _ => rfl, fun j hj => by omega⟩
  case round =>
    obtain ⟨k, t, hk, rfl, rfl, ht0, ht⟩ := hrel
    have HT0 := Lib.hid ht0
    have HT := Lib.hid ht
    clear ht0 ht
    by_cases hlt : k < m
    · obtain ⟨f1, f2, f3⟩ := hf.out k hlt
      have hnx : ∀ ty, (Instr.next (.pointer (some ⟨w.heap.size, 0, none⟩)) true ty).run Tryz.prog (w.iter s (f k)) = _ := fun ty => run_next_any w s (f k) ty f1
      rw [f2] at hnx
      clear f2
      by_cases hkq : k ≤ q
      · have f4 : f k ≤ 2000 := Nat.le_trans (hmono.out k hkq) hq1
        go_wp2
        go_roundw
        case rel => exact ⟨k + 1, f k, by omega, rfl, rfl, fun h => by omega, fun j hj => by rw [show j = k by omega]⟩
        case measure => simp; omega
      · obtain rfl : k = q + 1 := by omega
        have f4 := hq2.out
        have htq : t = f q := HT.out q rfl
        subst htq
        go_wp2
        go_ret2
        exact ⟨rfl, (Below.refl _ _).alloc (Nat.le_refl _) _⟩
    · obtain rfl : k = m := by omega
      have hkq : k = q + 1 := by omega
      have htq : t = f q := HT.out q hkq
      subst htq
      clear hkq
      have hfm := hm.out
      have hnx : ∀ ty, (Instr.next (.pointer (some ⟨w.heap.size, 0, none⟩)) true ty).run Tryz.prog (w.iter s (f k)) = _ := fun ty => run_next_end w s (f k) ty (by omega)
      have hle : f q ≤ s.size := by omega
      clear hfm
      go_wp2
      go_ret2
      exact ⟨rfl, (Below.refl _ _).alloc (Nat.le_refl _) _⟩
end Go.Proofs.YtieiopaobipdoaaGreatDoor.Cut
