/- fleuronlaw6.SelectorPseudos: cases by runs of the fast machine (part 3). -/
import Derived.Test.YtinaapfnfiijnaaGreatDoorQ3
import Derived.KernelRfl
namespace Go.Proofs.YtinaapfnfiijnaaGreatDoor.Sel
open Go Go.RowKit
theorem ps0_2_0_0 : HM.lawRun 6 [.mod 5 0, .mod 4 2, .bool false, .mod 4 0] = true := by kernel_rfl
theorem ps0_2_0_1 : HM.lawRun 6 [.mod 5 0, .mod 4 2, .bool false, .mod 4 1] = true := by kernel_rfl
theorem ps0_2_0_2 : HM.lawRun 6 [.mod 5 0, .mod 4 2, .bool false, .mod 4 2] = true := by kernel_rfl
theorem ps0_2_0_3 : HM.lawRun 6 [.mod 5 0, .mod 4 2, .bool false, .mod 4 3] = true := by kernel_rfl
theorem ps0_2_1_0 : HM.lawRun 6 [.mod 5 0, .mod 4 2, .bool true, .mod 4 0] = true := by kernel_rfl
theorem ps0_2_1_1 : HM.lawRun 6 [.mod 5 0, .mod 4 2, .bool true, .mod 4 1] = true := by kernel_rfl
theorem ps0_2_1_2 : HM.lawRun 6 [.mod 5 0, .mod 4 2, .bool true, .mod 4 2] = true := by kernel_rfl
theorem ps0_2_1_3 : HM.lawRun 6 [.mod 5 0, .mod 4 2, .bool true, .mod 4 3] = true := by kernel_rfl
theorem ps1_2_0_0 : HM.lawRun 6 [.mod 5 1, .mod 4 2, .bool false, .mod 4 0] = true := by kernel_rfl
theorem ps1_2_0_1 : HM.lawRun 6 [.mod 5 1, .mod 4 2, .bool false, .mod 4 1] = true := by kernel_rfl
theorem ps1_2_0_2 : HM.lawRun 6 [.mod 5 1, .mod 4 2, .bool false, .mod 4 2] = true := by kernel_rfl
theorem ps1_2_0_3 : HM.lawRun 6 [.mod 5 1, .mod 4 2, .bool false, .mod 4 3] = true := by kernel_rfl
theorem ps1_2_1_0 : HM.lawRun 6 [.mod 5 1, .mod 4 2, .bool true, .mod 4 0] = true := by kernel_rfl
theorem ps1_2_1_1 : HM.lawRun 6 [.mod 5 1, .mod 4 2, .bool true, .mod 4 1] = true := by kernel_rfl
theorem ps1_2_1_2 : HM.lawRun 6 [.mod 5 1, .mod 4 2, .bool true, .mod 4 2] = true := by kernel_rfl
theorem ps1_2_1_3 : HM.lawRun 6 [.mod 5 1, .mod 4 2, .bool true, .mod 4 3] = true := by kernel_rfl
theorem ps2_2_0_0 : HM.lawRun 6 [.mod 5 2, .mod 4 2, .bool false, .mod 4 0] = true := by kernel_rfl
theorem ps2_2_0_1 : HM.lawRun 6 [.mod 5 2, .mod 4 2, .bool false, .mod 4 1] = true := by kernel_rfl
theorem ps2_2_0_2 : HM.lawRun 6 [.mod 5 2, .mod 4 2, .bool false, .mod 4 2] = true := by kernel_rfl
theorem ps2_2_0_3 : HM.lawRun 6 [.mod 5 2, .mod 4 2, .bool false, .mod 4 3] = true := by kernel_rfl
theorem ps2_2_1_0 : HM.lawRun 6 [.mod 5 2, .mod 4 2, .bool true, .mod 4 0] = true := by kernel_rfl
theorem ps2_2_1_1 : HM.lawRun 6 [.mod 5 2, .mod 4 2, .bool true, .mod 4 1] = true := by kernel_rfl
theorem ps2_2_1_2 : HM.lawRun 6 [.mod 5 2, .mod 4 2, .bool true, .mod 4 2] = true := by kernel_rfl
theorem ps2_2_1_3 : HM.lawRun 6 [.mod 5 2, .mod 4 2, .bool true, .mod 4 3] = true := by kernel_rfl
theorem ps3_2_0_0 : HM.lawRun 6 [.mod 5 3, .mod 4 2, .bool false, .mod 4 0] = true := by kernel_rfl
theorem ps3_2_0_1 : HM.lawRun 6 [.mod 5 3, .mod 4 2, .bool false, .mod 4 1] = true := by kernel_rfl
theorem ps3_2_0_2 : HM.lawRun 6 [.mod 5 3, .mod 4 2, .bool false, .mod 4 2] = true := by kernel_rfl
theorem ps3_2_0_3 : HM.lawRun 6 [.mod 5 3, .mod 4 2, .bool false, .mod 4 3] = true := by kernel_rfl
theorem ps3_2_1_0 : HM.lawRun 6 [.mod 5 3, .mod 4 2, .bool true, .mod 4 0] = true := by kernel_rfl
theorem ps3_2_1_1 : HM.lawRun 6 [.mod 5 3, .mod 4 2, .bool true, .mod 4 1] = true := by kernel_rfl
theorem ps3_2_1_2 : HM.lawRun 6 [.mod 5 3, .mod 4 2, .bool true, .mod 4 2] = true := by kernel_rfl
theorem ps3_2_1_3 : HM.lawRun 6 [.mod 5 3, .mod 4 2, .bool true, .mod 4 3] = true := by kernel_rfl
theorem ps4_2_0_0 : HM.lawRun 6 [.mod 5 4, .mod 4 2, .bool false, .mod 4 0] = true := by kernel_rfl
theorem ps4_2_0_1 : HM.lawRun 6 [.mod 5 4, .mod 4 2, .bool false, .mod 4 1] = true := by kernel_rfl
theorem ps4_2_0_2 : HM.lawRun 6 [.mod 5 4, .mod 4 2, .bool false, .mod 4 2] = true := by kernel_rfl
theorem ps4_2_0_3 : HM.lawRun 6 [.mod 5 4, .mod 4 2, .bool false, .mod 4 3] = true := by kernel_rfl
theorem ps4_2_1_0 : HM.lawRun 6 [.mod 5 4, .mod 4 2, .bool true, .mod 4 0] = true := by kernel_rfl
theorem ps4_2_1_1 : HM.lawRun 6 [.mod 5 4, .mod 4 2, .bool true, .mod 4 1] = true := by kernel_rfl
theorem ps4_2_1_2 : HM.lawRun 6 [.mod 5 4, .mod 4 2, .bool true, .mod 4 2] = true := by kernel_rfl
theorem ps4_2_1_3 : HM.lawRun 6 [.mod 5 4, .mod 4 2, .bool true, .mod 4 3] = true := by kernel_rfl
end Go.Proofs.YtinaapfnfiijnaaGreatDoor.Sel
