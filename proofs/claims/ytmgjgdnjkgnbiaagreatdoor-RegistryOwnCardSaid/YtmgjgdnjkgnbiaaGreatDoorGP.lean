/- system.positional without a nought: the places of a number. -/
import Derived.Test.YtmgjgdnjkgnbiaaGreatDoorGL
import Derived.Test.YtmgjgdnjkgnbiaaGreatDoorProg
import Derived.WalkKit
import Derived.ProofKit
import Derived.OpenShut
import Derived.Laws.AppendOwn
import Derived.IntWalk
import Derived.LoopTactic
import Derived.Lib.Hide
namespace Go.Proofs.YtmgjgdnjkgnbiaaGreatDoor.Num
open Go Go.RowKit Go.Proofs
theorem wrap64_nat (m : Nat) (h : m < 4294967296) : wrap64 (m : Int) = m := by
  unfold wrap64; omega
theorem infoInt : (Tryz.prog.info? 3).map (fun i => (i.zero, i.size, i.bytes)) = some (some (.int .i64 0), 1, 8) := by kernel_rfl
def intCells (l : List Nat) : List Value := l.map fun d : Nat => Value.int .i64 (d : Int)
theorem intCells_length (l : List Nat) : (intCells l).length = l.length := by simp [intCells]
def PosI (n₀ k n : Nat) (w : World) (m o : Value) (W : World) : Prop := ∃ (q : Nat) (pre : List Nat), m = .int .i64 (q : Int) ∧ q ≤ n ∧ Reg.pos k n = pre ++ Reg.pos k q ∧ W.ownsRow n₀ 3 1 o pre.length (intCells pre) ∧ Below n₀ w W
set_option maxRecDepth 100000 in
set_option maxHeartbeats 2000000 in
theorem pos_any (n k : Nat) (w : World) (hn : n < 4294967296) (hk : 2 ≤ k) (hk2 : k ≤ 1000) :
    Calls Tryz.prog 92 #[.int .i64 (n : Int), .int .i64 (k : Int), .bool false] w fun e w' => ∃ o, e = .returned o ∧ w'.ownsRow w.heap.size 3 1 o (Reg.pos k n).length (intCells (Reg.pos k n)) ∧ Below w.heap.size w w' := by
  obtain ⟨i0, hi, hz0, hz1, hz2⟩ := info_parts infoInt
  have HP : Hid (∀ m q, q < 2 ^ m → (Reg.pos k q).length ≤ m) := Lib.hid (Reg.pos_len k hk)
  go_enter Tryz.func92, Tryz.ntmps92
  go_wp2
  go_loopw [0, 6] (fun m o W => PosI w.heap.size k n w m o W) (fun m _ _ => (intOf m).toNat)
  case atStart => exact ⟨n, [], rfl, Nat.le_refl _, rfl, World.ownsRow_nil _ _ _ _, Below.refl _ _⟩
  case round =>
    obtain ⟨q, pre, rfl, hq, he, hown, hB⟩ := hrel
    obtain ⟨A, L, C, rfl⟩ : ∃ A L C, u6 = .slice A L C := by
      rcases hown.2 with ⟨hv, _⟩ | ⟨g, cap, cur, hv, _⟩
      · exact ⟨_, _, _, hv⟩
      · exact ⟨_, _, _, hv⟩
    rcases q with _ | p
    · rw [Reg.pos_zero, List.append_nil] at he
      have HE := Lib.hid he
      clear he
      have e0 : ((0 : Nat) : Int) = 0 := rfl
      rw [e0]
      clear e0
      go_wp2
      go_ret
      exact ⟨_, rfl, by rw [HE.out]; exact hown, hB⟩
    · rw [Reg.pos_succ k (p + 1) (by omega) (by omega), Nat.add_sub_cancel] at he
      have HE := Lib.hid he
      have hpl : pre.length ≤ 32 := by
        have h1 := HP.out 32 n (by omega)
        rw [he, List.length_append] at h1
        omega
      have e1 : ((p + 1 : Nat) : Int) = (p : Int) + 1 := by omega
      have e2 : (p : Int) % (k : Int) = ((p % k : Nat) : Int) := by simp
      have e3 : (p : Int) / (k : Int) = ((p / k : Nat) : Int) := by simp
      have hpk : p / k ≤ p := Nat.div_le_self _ _
      have H2 := Lib.hid e2
      have H3 := Lib.hid e3
      have hw : wrap64 ((p : Int) / (k : Int)) = (p : Int) / (k : Int) := by rw [e3]; exact wrap64_nat _ (by omega)
      have HW := Lib.hid hw
      rw [e1]
      clear he e1 e2 e3 hw
      go_wp2_with (at_builtin; refine wpList_append_own _ rfl _ _ 27 rfl w.heap.size 3 i0 (.int .i64 0) 1 8 Tryz.underlying27 hi hz0 hz1 hz2 rfl (by decide) _ _ _ rfl (hown.alloc _) ⟨wr.heap.size, 0, none⟩ 1 1 [.int .i64 ((p : Int) % (k : Int))] rfl rfl ?c1 ?c2 ?c3 ?c4 ?c5 ?_)
      case c1 =>
        intro j u hj
        match j, hj with
        | 0, hj => simp at hj; subst hj; simp [Addr.add]
      case c2 => intro u hu; simp at hu; subst hu; rfl
      case c3 => unfold maxLen; omega
      case c4 => omega
      case c5 => have := hB.size; simp; omega
      intro v' w2 hown' hgrow _
      have hsz := hB.size
      go_wp2
      go_roundw
      case rel =>
        refine ⟨p / k, pre ++ [p % k], by rw [HW.out, H3.out], by omega, by rw [HE.out]; simp, ?_, (hB.alloc hsz _).grown hgrow (by simp; omega) (fun g hg => (hown.lt g hg).1)⟩
        rw [List.length_append]
        have e : intCells (pre ++ [p % k]) = intCells pre ++ [.int .i64 ((p : Int) % (k : Int))] := by rw [H2.out]; simp [intCells]
        rw [e]; exact hown'
      case measure =>
        show (intOf (.int .i64 (wrap64 ((p : Int) / (k : Int))))).toNat < (intOf (.int .i64 ((p : Int) + 1))).toNat
        rw [HW.out, H3.out]; simp only [intOf]; omega
end Go.Proofs.YtmgjgdnjkgnbiaaGreatDoor.Num
