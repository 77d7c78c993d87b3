/- fleuronlaw11.RegistryRoman at numbers that are no Roman ones: runs. -/
import Derived.Test.YtmgjgdnjkgnbiaaGreatDoorGE
import Derived.Test.YtmgjgdnjkgnbiaaGreatDoorPE
namespace Go.Proofs.YtmgjgdnjkgnbiaaGreatDoor.HM
open Go Go.RowKit
variable [E : Amb]
noncomputable def rl (v : V) (up : Bool) : Bool := lawRun 3 [v, .bool up]
def rsh : Nat → V
  | 0 => .int .i64 0
  | 1 => .lin .i64 0 [⟨Int.negSucc 0, 0, 1, 9⟩]
  | 2 => .lin .i64 0 [⟨Int.negSucc 0, 0, 0, 9⟩, ⟨Int.negSucc 9, 1, 1, 9⟩]
  | 3 => .lin .i64 0 [⟨Int.negSucc 0, 0, 0, 9⟩, ⟨Int.negSucc 9, 1, 0, 9⟩, ⟨Int.negSucc 99, 2, 1, 9⟩]
  | 4 => .lin .i64 0 [⟨Int.negSucc 0, 0, 0, 9⟩, ⟨Int.negSucc 9, 1, 0, 9⟩, ⟨Int.negSucc 99, 2, 0, 9⟩, ⟨Int.negSucc 999, 3, 1, 4⟩]
  | 5 => .int .i64 (Int.negSucc 4999)
  | 6 => .lin .i64 4000 [⟨1, 0, 0, 9⟩, ⟨10, 1, 0, 9⟩, ⟨100, 2, 0, 9⟩]
  | _ => .int .i64 5000
omit [E : Amb] in
theorem rom_0 : (rl (rsh 0) false && rl (rsh 0) true) = true := by kernel_rfl
omit [E : Amb] in
theorem rom_1 : (rl (rsh 1) false && rl (rsh 1) true) = true := by kernel_rfl
omit [E : Amb] in
theorem rom_2 : (rl (rsh 2) false && rl (rsh 2) true) = true := by kernel_rfl
omit [E : Amb] in
theorem rom_3 : (rl (rsh 3) false && rl (rsh 3) true) = true := by kernel_rfl
omit [E : Amb] in
theorem rom_4 : (rl (rsh 4) false && rl (rsh 4) true) = true := by kernel_rfl
omit [E : Amb] in
theorem rom_5 : (rl (rsh 5) false && rl (rsh 5) true) = true := by kernel_rfl
omit [E : Amb] in
theorem rom_6 : (rl (rsh 6) false && rl (rsh 6) true) = true := by kernel_rfl
omit [E : Amb] in
theorem rom_7 : (rl (rsh 7) false && rl (rsh 7) true) = true := by kernel_rfl
end Go.Proofs.YtmgjgdnjkgnbiaaGreatDoor.HM
