/- fleuronlaw6.SelectorPseudos: cases by runs of the fast machine (part 2). -/
import Derived.Test.YtinaapfnfiijnaaGreatDoorQ3
import Derived.KernelRfl
namespace Go.Proofs.YtinaapfnfiijnaaGreatDoor.Sel
open Go Go.RowKit
theorem ps0_1_0_0 : HM.lawRun 6 [.mod 5 0, .mod 4 1, .bool false, .mod 4 0] = true := by kernel_rfl
theorem ps0_1_0_1 : HM.lawRun 6 [.mod 5 0, .mod 4 1, .bool false, .mod 4 1] = true := by kernel_rfl
theorem ps0_1_0_2 : HM.lawRun 6 [.mod 5 0, .mod 4 1, .bool false, .mod 4 2] = true := by kernel_rfl
theorem ps0_1_0_3 : HM.lawRun 6 [.mod 5 0, .mod 4 1, .bool false, .mod 4 3] = true := by kernel_rfl
theorem ps0_1_1_0 : HM.lawRun 6 [.mod 5 0, .mod 4 1, .bool true, .mod 4 0] = true := by kernel_rfl
theorem ps0_1_1_1 : HM.lawRun 6 [.mod 5 0, .mod 4 1, .bool true, .mod 4 1] = true := by kernel_rfl
theorem ps0_1_1_2 : HM.lawRun 6 [.mod 5 0, .mod 4 1, .bool true, .mod 4 2] = true := by kernel_rfl
theorem ps0_1_1_3 : HM.lawRun 6 [.mod 5 0, .mod 4 1, .bool true, .mod 4 3] = true := by kernel_rfl
theorem ps1_1_0_0 : HM.lawRun 6 [.mod 5 1, .mod 4 1, .bool false, .mod 4 0] = true := by kernel_rfl
theorem ps1_1_0_1 : HM.lawRun 6 [.mod 5 1, .mod 4 1, .bool false, .mod 4 1] = true := by kernel_rfl
theorem ps1_1_0_2 : HM.lawRun 6 [.mod 5 1, .mod 4 1, .bool false, .mod 4 2] = true := by kernel_rfl
theorem ps1_1_0_3 : HM.lawRun 6 [.mod 5 1, .mod 4 1, .bool false, .mod 4 3] = true := by kernel_rfl
theorem ps1_1_1_0 : HM.lawRun 6 [.mod 5 1, .mod 4 1, .bool true, .mod 4 0] = true := by kernel_rfl
theorem ps1_1_1_1 : HM.lawRun 6 [.mod 5 1, .mod 4 1, .bool true, .mod 4 1] = true := by kernel_rfl
theorem ps1_1_1_2 : HM.lawRun 6 [.mod 5 1, .mod 4 1, .bool true, .mod 4 2] = true := by kernel_rfl
theorem ps1_1_1_3 : HM.lawRun 6 [.mod 5 1, .mod 4 1, .bool true, .mod 4 3] = true := by kernel_rfl
theorem ps2_1_0_0 : HM.lawRun 6 [.mod 5 2, .mod 4 1, .bool false, .mod 4 0] = true := by kernel_rfl
theorem ps2_1_0_1 : HM.lawRun 6 [.mod 5 2, .mod 4 1, .bool false, .mod 4 1] = true := by kernel_rfl
theorem ps2_1_0_2 : HM.lawRun 6 [.mod 5 2, .mod 4 1, .bool false, .mod 4 2] = true := by kernel_rfl
theorem ps2_1_0_3 : HM.lawRun 6 [.mod 5 2, .mod 4 1, .bool false, .mod 4 3] = true := by kernel_rfl
theorem ps2_1_1_0 : HM.lawRun 6 [.mod 5 2, .mod 4 1, .bool true, .mod 4 0] = true := by kernel_rfl
theorem ps2_1_1_1 : HM.lawRun 6 [.mod 5 2, .mod 4 1, .bool true, .mod 4 1] = true := by kernel_rfl
theorem ps2_1_1_2 : HM.lawRun 6 [.mod 5 2, .mod 4 1, .bool true, .mod 4 2] = true := by kernel_rfl
theorem ps2_1_1_3 : HM.lawRun 6 [.mod 5 2, .mod 4 1, .bool true, .mod 4 3] = true := by kernel_rfl
theorem ps3_1_0_0 : HM.lawRun 6 [.mod 5 3, .mod 4 1, .bool false, .mod 4 0] = true := by kernel_rfl
theorem ps3_1_0_1 : HM.lawRun 6 [.mod 5 3, .mod 4 1, .bool false, .mod 4 1] = true := by kernel_rfl
theorem ps3_1_0_2 : HM.lawRun 6 [.mod 5 3, .mod 4 1, .bool false, .mod 4 2] = true := by kernel_rfl
theorem ps3_1_0_3 : HM.lawRun 6 [.mod 5 3, .mod 4 1, .bool false, .mod 4 3] = true := by kernel_rfl
theorem ps3_1_1_0 : HM.lawRun 6 [.mod 5 3, .mod 4 1, .bool true, .mod 4 0] = true := by kernel_rfl
theorem ps3_1_1_1 : HM.lawRun 6 [.mod 5 3, .mod 4 1, .bool true, .mod 4 1] = true := by kernel_rfl
theorem ps3_1_1_2 : HM.lawRun 6 [.mod 5 3, .mod 4 1, .bool true, .mod 4 2] = true := by kernel_rfl
theorem ps3_1_1_3 : HM.lawRun 6 [.mod 5 3, .mod 4 1, .bool true, .mod 4 3] = true := by kernel_rfl
theorem ps4_1_0_0 : HM.lawRun 6 [.mod 5 4, .mod 4 1, .bool false, .mod 4 0] = true := by kernel_rfl
theorem ps4_1_0_1 : HM.lawRun 6 [.mod 5 4, .mod 4 1, .bool false, .mod 4 1] = true := by kernel_rfl
theorem ps4_1_0_2 : HM.lawRun 6 [.mod 5 4, .mod 4 1, .bool false, .mod 4 2] = true := by kernel_rfl
theorem ps4_1_0_3 : HM.lawRun 6 [.mod 5 4, .mod 4 1, .bool false, .mod 4 3] = true := by kernel_rfl
theorem ps4_1_1_0 : HM.lawRun 6 [.mod 5 4, .mod 4 1, .bool true, .mod 4 0] = true := by kernel_rfl
theorem ps4_1_1_1 : HM.lawRun 6 [.mod 5 4, .mod 4 1, .bool true, .mod 4 1] = true := by kernel_rfl
theorem ps4_1_1_2 : HM.lawRun 6 [.mod 5 4, .mod 4 1, .bool true, .mod 4 2] = true := by kernel_rfl
theorem ps4_1_1_3 : HM.lawRun 6 [.mod 5 4, .mod 4 1, .bool true, .mod 4 3] = true := by kernel_rfl
end Go.Proofs.YtinaapfnfiijnaaGreatDoor.Sel
