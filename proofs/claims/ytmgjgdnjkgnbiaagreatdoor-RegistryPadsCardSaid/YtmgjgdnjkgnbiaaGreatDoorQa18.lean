/- Cases of fleuronlaw11.RegistryPads: the runs of some shapes. -/
import Derived.Test.YtmgjgdnjkgnbiaaGreatDoorQ0
namespace Go.Proofs.YtmgjgdnjkgnbiaaGreatDoor.HM
open Go Go.RowKit
theorem q_2_5 : Q21 2 5 = true := by kernel_rfl
theorem q_6_1 : Q21 6 1 = true := by kernel_rfl
theorem q_9_3 : Q21 9 3 = true := by kernel_rfl
theorem qa_12_5 : QA 12 5 = true := by kernel_rfl
theorem qb_12_5 : QB 12 5 = true := by kernel_rfl
theorem q_12_5 : Q21 12 5 = true := by unfold Q21; rw [qa_12_5, qb_12_5]; rfl
theorem qa_16_1 : QA 16 1 = true := by kernel_rfl
theorem qb_16_1 : QB 16 1 = true := by kernel_rfl
theorem q_16_1 : Q21 16 1 = true := by unfold Q21; rw [qa_16_1, qb_16_1]; rfl
theorem qa_19_3 : QA 19 3 = true := by kernel_rfl
theorem qb_19_3 : QB 19 3 = true := by kernel_rfl
theorem q_19_3 : Q21 19 3 = true := by unfold Q21; rw [qa_19_3, qb_19_3]; rfl
theorem qa_22_5 : QA 22 5 = true := by kernel_rfl
theorem qb_22_5 : QB 22 5 = true := by kernel_rfl
theorem q_22_5 : Q21 22 5 = true := by unfold Q21; rw [qa_22_5, qb_22_5]; rfl
theorem qa_26_1 : QA 26 1 = true := by kernel_rfl
theorem qb_26_1 : QB 26 1 = true := by kernel_rfl
theorem q_26_1 : Q21 26 1 = true := by unfold Q21; rw [qa_26_1, qb_26_1]; rfl
theorem qa_29_3 : QA 29 3 = true := by kernel_rfl
theorem qb_29_3 : QB 29 3 = true := by kernel_rfl
theorem q_29_3 : Q21 29 3 = true := by unfold Q21; rw [qa_29_3, qb_29_3]; rfl
end Go.Proofs.YtmgjgdnjkgnbiaaGreatDoor.HM
