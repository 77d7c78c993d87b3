/- fleuronlaw11.RegistryLetters at numbers up to nought: runs. -/
import Derived.Test.YtmgjgdnjkgnbiaaGreatDoorGE
import Derived.Test.YtmgjgdnjkgnbiaaGreatDoorPE
namespace Go.Proofs.YtmgjgdnjkgnbiaaGreatDoor.HM
open Go Go.RowKit
variable [E : Amb]
def neg1 : V := .lin .i64 0 [⟨Int.negSucc 0, 0, 1, 9⟩]
def neg2 : V := .lin .i64 0 [⟨Int.negSucc 0, 0, 0, 9⟩, ⟨Int.negSucc 9, 1, 1, 9⟩]
omit [E : Amb] in
theorem let_0 : (lawRun 8 [.int .i64 0, .bool false] && lawRun 8 [.int .i64 0, .bool true]) = true := by kernel_rfl
omit [E : Amb] in
theorem let_1 : (lawRun 8 [neg1, .bool false] && lawRun 8 [neg1, .bool true]) = true := by kernel_rfl
omit [E : Amb] in
theorem let_2 : (lawRun 8 [neg2, .bool false] && lawRun 8 [neg2, .bool true]) = true := by kernel_rfl
omit [E : Amb] in
theorem let_3 : (lawRun 8 [.int .i64 (Int.negSucc 99), .bool false] && lawRun 8 [.int .i64 (Int.negSucc 99), .bool true]) = true := by kernel_rfl
end Go.Proofs.YtmgjgdnjkgnbiaaGreatDoor.HM
