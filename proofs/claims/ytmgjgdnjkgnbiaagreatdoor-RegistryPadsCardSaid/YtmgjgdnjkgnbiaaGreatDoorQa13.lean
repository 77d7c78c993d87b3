/- Cases of fleuronlaw11.RegistryPads: the runs of some shapes. -/
import Derived.Test.YtmgjgdnjkgnbiaaGreatDoorQ0
namespace Go.Proofs.YtmgjgdnjkgnbiaaGreatDoor.HM
open Go Go.RowKit
theorem q_2_0 : Q21 2 0 = true := by kernel_rfl
theorem q_5_2 : Q21 5 2 = true := by kernel_rfl
theorem q_8_4 : Q21 8 4 = true := by kernel_rfl
theorem qa_12_0 : QA 12 0 = true := by kernel_rfl
theorem qb_12_0 : QB 12 0 = true := by kernel_rfl
theorem q_12_0 : Q21 12 0 = true := by unfold Q21; rw [qa_12_0, qb_12_0]; rfl
theorem qa_15_2 : QA 15 2 = true := by kernel_rfl
theorem qb_15_2 : QB 15 2 = true := by kernel_rfl
theorem q_15_2 : Q21 15 2 = true := by unfold Q21; rw [qa_15_2, qb_15_2]; rfl
theorem qa_18_4 : QA 18 4 = true := by kernel_rfl
theorem qb_18_4 : QB 18 4 = true := by kernel_rfl
theorem q_18_4 : Q21 18 4 = true := by unfold Q21; rw [qa_18_4, qb_18_4]; rfl
theorem qa_22_0 : QA 22 0 = true := by kernel_rfl
theorem qb_22_0 : QB 22 0 = true := by kernel_rfl
theorem q_22_0 : Q21 22 0 = true := by unfold Q21; rw [qa_22_0, qb_22_0]; rfl
theorem qa_25_2 : QA 25 2 = true := by kernel_rfl
theorem qb_25_2 : QB 25 2 = true := by kernel_rfl
theorem q_25_2 : Q21 25 2 = true := by unfold Q21; rw [qa_25_2, qb_25_2]; rfl
theorem qa_28_4 : QA 28 4 = true := by kernel_rfl
theorem qb_28_4 : QB 28 4 = true := by kernel_rfl
theorem q_28_4 : Q21 28 4 = true := by unfold Q21; rw [qa_28_4, qb_28_4]; rfl
end Go.Proofs.YtmgjgdnjkgnbiaaGreatDoor.HM
