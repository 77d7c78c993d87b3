/- Cases of fleuronlaw11.RegistryPads: the runs of some shapes. -/
import Derived.Test.YtmgjgdnjkgnbiaaGreatDoorQ0
namespace Go.Proofs.YtmgjgdnjkgnbiaaGreatDoor.HM
open Go Go.RowKit
theorem q_2_1 : Q21 2 1 = true := by kernel_rfl
theorem q_5_3 : Q21 5 3 = true := by kernel_rfl
theorem q_8_5 : Q21 8 5 = true := by kernel_rfl
theorem qa_12_1 : QA 12 1 = true := by kernel_rfl
theorem qb_12_1 : QB 12 1 = true := by kernel_rfl
theorem q_12_1 : Q21 12 1 = true := by unfold Q21; rw [qa_12_1, qb_12_1]; rfl
theorem qa_15_3 : QA 15 3 = true := by kernel_rfl
theorem qb_15_3 : QB 15 3 = true := by kernel_rfl
theorem q_15_3 : Q21 15 3 = true := by unfold Q21; rw [qa_15_3, qb_15_3]; rfl
theorem qa_18_5 : QA 18 5 = true := by kernel_rfl
theorem qb_18_5 : QB 18 5 = true := by kernel_rfl
theorem q_18_5 : Q21 18 5 = true := by unfold Q21; rw [qa_18_5, qb_18_5]; rfl
theorem qa_22_1 : QA 22 1 = true := by kernel_rfl
theorem qb_22_1 : QB 22 1 = true := by kernel_rfl
theorem q_22_1 : Q21 22 1 = true := by unfold Q21; rw [qa_22_1, qb_22_1]; rfl
theorem qa_25_3 : QA 25 3 = true := by kernel_rfl
theorem qb_25_3 : QB 25 3 = true := by kernel_rfl
theorem q_25_3 : Q21 25 3 = true := by unfold Q21; rw [qa_25_3, qb_25_3]; rfl
theorem qa_28_5 : QA 28 5 = true := by kernel_rfl
theorem qb_28_5 : QB 28 5 = true := by kernel_rfl
theorem q_28_5 : Q21 28 5 = true := by unfold Q21; rw [qa_28_5, qb_28_5]; rfl
end Go.Proofs.YtmgjgdnjkgnbiaaGreatDoor.HM
