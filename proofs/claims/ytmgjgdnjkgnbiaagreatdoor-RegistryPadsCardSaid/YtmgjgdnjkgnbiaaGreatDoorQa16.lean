/- Cases of fleuronlaw11.RegistryPads: the runs of some shapes. -/
import Derived.Test.YtmgjgdnjkgnbiaaGreatDoorQ0
namespace Go.Proofs.YtmgjgdnjkgnbiaaGreatDoor.HM
open Go Go.RowKit
theorem q_2_3 : Q21 2 3 = true := by kernel_rfl
theorem q_5_5 : Q21 5 5 = true := by kernel_rfl
theorem q_9_1 : Q21 9 1 = true := by kernel_rfl
theorem qa_12_3 : QA 12 3 = true := by kernel_rfl
theorem qb_12_3 : QB 12 3 = true := by kernel_rfl
theorem q_12_3 : Q21 12 3 = true := by unfold Q21; rw [qa_12_3, qb_12_3]; rfl
theorem qa_15_5 : QA 15 5 = true := by kernel_rfl
theorem qb_15_5 : QB 15 5 = true := by kernel_rfl
theorem q_15_5 : Q21 15 5 = true := by unfold Q21; rw [qa_15_5, qb_15_5]; rfl
theorem qa_19_1 : QA 19 1 = true := by kernel_rfl
theorem qb_19_1 : QB 19 1 = true := by kernel_rfl
theorem q_19_1 : Q21 19 1 = true := by unfold Q21; rw [qa_19_1, qb_19_1]; rfl
theorem qa_22_3 : QA 22 3 = true := by kernel_rfl
theorem qb_22_3 : QB 22 3 = true := by kernel_rfl
theorem q_22_3 : Q21 22 3 = true := by unfold Q21; rw [qa_22_3, qb_22_3]; rfl
theorem qa_25_5 : QA 25 5 = true := by kernel_rfl
theorem qb_25_5 : QB 25 5 = true := by kernel_rfl
theorem q_25_5 : Q21 25 5 = true := by unfold Q21; rw [qa_25_5, qb_25_5]; rfl
theorem qa_29_1 : QA 29 1 = true := by kernel_rfl
theorem qb_29_1 : QB 29 1 = true := by kernel_rfl
theorem q_29_1 : Q21 29 1 = true := by unfold Q21; rw [qa_29_1, qb_29_1]; rfl
end Go.Proofs.YtmgjgdnjkgnbiaaGreatDoor.HM
