/- The shapes of AnbBack's numbers. -/
import Derived.Test.YtbfdgdigaiimgaaDoorYM
namespace Go.Proofs.YtbfdgdigaiimgaaDoor.HM
open Go Go.RowKit
variable [E : Amb]
def dig (s : Int) (p : Nat) (hi : Int) : Nat → List LT
  | 0 => []
  | 1 => [⟨s, p, 1, hi⟩]
  | n + 2 => ⟨s, p, 0, 9⟩ :: dig (10 * s) (p + 1) hi (n + 1)
def shA : Nat → V
  | 0 => .int .i64 0
  | 10 => .lin .i64 0 (dig 1 4000 2 10)
  | 20 => .lin .i64 0 (dig (Int.negSucc 0) 4010 2 10)
  | n => match Nat.ble n 10 with
    | true => .lin .i64 0 (dig 1 0 9 n)
    | false => .lin .i64 0 (dig (Int.negSucc 0) 0 9 (n - 10))
def shB : Nat → V
  | 0 => .int .i64 0
  | 10 => .lin .i64 0 (dig 1 4020 2 10)
  | 20 => .lin .i64 0 (dig (Int.negSucc 0) 4020 2 10)
  | n => match Nat.ble n 10 with
    | true => .lin .i64 0 (dig 1 10 9 n)
    | false => .lin .i64 0 (dig (Int.negSucc 0) 10 9 (n - 10))
def shC (j : Nat) : V := match Nat.ble j 10 with
  | true => shB j
  | false => shB (j - 10)
noncomputable def R (i j k : Nat) : Bool := lawRunM (shA i) (shB j) (shC j) 3 [shA i, shB j, .mod 7 k]
noncomputable def R7 (i j : Nat) : Bool := R i j 0 && (R i j 1 && (R i j 2 && (R i j 3 && (R i j 4 && (R i j 5 && R i j 6)))))
noncomputable def R0 (i j : Nat) : Bool := lawRunM (shA i) (shB j) (shC j) 3 [shA i, shB j, .any]
end Go.Proofs.YtbfdgdigaiimgaaDoor.HM
