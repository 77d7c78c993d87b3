/- The heap machine: values that are surely the same. -/
import Derived.Test.YtbfdgdigaiimgaaDoorH1
namespace Go.Proofs.YtbfdgdigaiimgaaDoor.HM
open Go Go.RowKit

theorem nbq {a b : Nat} : (Nat.beq a b = true) ↔ a = b := ⟨Nat.eq_of_beq_eq_true, fun h => by subst h; exact Nat.beq_refl a⟩

mutual
def V.same : V → V → Bool
  | .bool a, y => match y with | .bool b => a == b | _ => false
  | .int k a, y => match y with | .int l b => decide (k = l) && decide (a = b) | _ => false
  | .str a, y => match y with | .str b => decide (a = b) | _ => false
  | .nilp, y => match y with | .nilp => true | _ => false
  | .anyp, y => match y with | .anyp => true | _ => false
  | .ptr a o, y => match y with | .ptr b p => Nat.beq a b && Nat.beq o p | _ => false
  | .gp a o, y => match y with | .gp b p => Nat.beq a b && Nat.beq o p | _ => false
  | .nils, y => match y with | .nils => true | _ => false
  | .sl a o n z, y => match y with | .sl b p m x => (Nat.beq a b && Nat.beq o p) && (Nat.beq n m && Nat.beq z x) | _ => false
  | .nilmap, y => match y with | .nilmap => true | _ => false
  | .mp a, y => match y with | .mp b => Nat.beq a b | _ => false
  | .nilfn, y => match y with | .nilfn => true | _ => false
  | .fn f x s, y => match y with | .fn g z t => Nat.beq f g && (V.sames x z && V.sames s t) | _ => false
  | .nilif, y => match y with | .nilif => true | _ => false
  | .iface t x, y => match y with | .iface s z => Nat.beq t s && x.same z | _ => false
  | .agg x, y => match y with | .agg z => V.sames x z | _ => false
  | .tup x, y => match y with | .tup z => V.sames x z | _ => false
  | .any, y => match y with | .any => true | _ => false
  | .mod m i, y => match y with | .mod n j => Nat.beq m n && Nat.beq i j | _ => false
  | .anyb, y => match y with | .anyb => true | _ => false
  | .lin k a x, y => match y with | .lin l b z => (decide (k = l) && decide (a = b)) && decide (x = z) | _ => false
  | .sstr x, y => match y with | .sstr z => V.sames x z | _ => false
def V.sames : List V → List V → Bool
  | [], l => match l with | [] => true | _ :: _ => false
  | x :: r, l => match l with | [] => false | y :: s => x.same y && V.sames r s
end

mutual
theorem V.same_eq : ∀ (x y : V), x.same y = true → x = y
  | .bool a, y, h => by cases y <;> simp only [V.same, beq_iff_eq, Bool.false_eq_true] at h; rw [h]
  | .int k a, y, h => by cases y <;> simp only [V.same, Bool.and_eq_true, decide_eq_true_eq, Bool.false_eq_true] at h; rw [h.1, h.2]
  | .str a, y, h => by cases y <;> simp only [V.same, decide_eq_true_eq, Bool.false_eq_true] at h; rw [h]
  | .nilp, y, h => by cases y <;> simp only [V.same, Bool.false_eq_true] at h; rfl
  | .anyp, y, h => by cases y <;> simp only [V.same, Bool.false_eq_true] at h; rfl
  | .ptr a o, y, h => by cases y <;> simp only [V.same, Bool.and_eq_true, nbq, Bool.false_eq_true] at h; rw [h.1, h.2]
  | .gp a o, y, h => by cases y <;> simp only [V.same, Bool.and_eq_true, nbq, Bool.false_eq_true] at h; rw [h.1, h.2]
  | .nils, y, h => by cases y <;> simp only [V.same, Bool.false_eq_true] at h; rfl
  | .sl a o n z, y, h => by cases y <;> simp only [V.same, Bool.and_eq_true, nbq, Bool.false_eq_true] at h; rw [h.1.1, h.1.2, h.2.1, h.2.2]
  | .nilmap, y, h => by cases y <;> simp only [V.same, Bool.false_eq_true] at h; rfl
  | .mp a, y, h => by cases y <;> simp only [V.same, nbq, Bool.false_eq_true] at h; rw [h]
  | .nilfn, y, h => by cases y <;> simp only [V.same, Bool.false_eq_true] at h; rfl
  | .fn f x s, y, h => by cases y <;> simp only [V.same, Bool.and_eq_true, nbq, Bool.false_eq_true] at h; rw [h.1, V.sames_eq _ _ h.2.1, V.sames_eq _ _ h.2.2]
  | .nilif, y, h => by cases y <;> simp only [V.same, Bool.false_eq_true] at h; rfl
  | .iface t x, y, h => by cases y <;> simp only [V.same, Bool.and_eq_true, nbq, Bool.false_eq_true] at h; rw [h.1, V.same_eq _ _ h.2]
  | .agg x, y, h => by cases y <;> simp only [V.same, Bool.false_eq_true] at h; rw [V.sames_eq _ _ h]
  | .tup x, y, h => by cases y <;> simp only [V.same, Bool.false_eq_true] at h; rw [V.sames_eq _ _ h]
  | .any, y, h => by cases y <;> simp only [V.same, Bool.false_eq_true] at h; rfl
  | .mod m i, y, h => by cases y <;> simp only [V.same, Bool.and_eq_true, nbq, Bool.false_eq_true] at h; rw [h.1, h.2]
  | .anyb, y, h => by cases y <;> simp only [V.same, Bool.false_eq_true] at h; rfl
  | .lin k a x, y, h => by cases y <;> simp only [V.same, Bool.and_eq_true, decide_eq_true_eq, Bool.false_eq_true] at h; rw [h.1.1, h.1.2, h.2]
  | .sstr x, y, h => by cases y <;> simp only [V.same, Bool.false_eq_true] at h; rw [V.sames_eq _ _ h]
theorem V.sames_eq : ∀ (x y : List V), V.sames x y = true → x = y
  | [], l, h => by cases l <;> simp only [V.sames, Bool.false_eq_true] at h; rfl
  | x :: r, l, h => by cases l <;> simp only [V.sames, Bool.and_eq_true, Bool.false_eq_true] at h; rw [V.same_eq _ _ h.1, V.sames_eq _ _ h.2]
end


end Go.Proofs.YtbfdgdigaiimgaaDoor.HM
