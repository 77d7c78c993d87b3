/- Cases of fleuronlaw11.RegistryPads: the runs of some shapes. -/
import Derived.Test.YtmgjgdnjkgnbiaaGreatDoorQ0
namespace Go.Proofs.YtmgjgdnjkgnbiaaGreatDoor.HM
open Go Go.RowKit
theorem q_3_1 : Q21 3 1 = true := by kernel_rfl
theorem q_6_3 : Q21 6 3 = true := by kernel_rfl
theorem q_9_5 : Q21 9 5 = true := by kernel_rfl
theorem qa_13_1 : QA 13 1 = true := by kernel_rfl
theorem qb_13_1 : QB 13 1 = true := by kernel_rfl
theorem q_13_1 : Q21 13 1 = true := by unfold Q21; rw [qa_13_1, qb_13_1]; rfl
theorem qa_16_3 : QA 16 3 = true := by kernel_rfl
theorem qb_16_3 : QB 16 3 = true := by kernel_rfl
theorem q_16_3 : Q21 16 3 = true := by unfold Q21; rw [qa_16_3, qb_16_3]; rfl
theorem qa_19_5 : QA 19 5 = true := by kernel_rfl
theorem qb_19_5 : QB 19 5 = true := by kernel_rfl
theorem q_19_5 : Q21 19 5 = true := by unfold Q21; rw [qa_19_5, qb_19_5]; rfl
theorem qa_23_1 : QA 23 1 = true := by kernel_rfl
theorem qb_23_1 : QB 23 1 = true := by kernel_rfl
theorem q_23_1 : Q21 23 1 = true := by unfold Q21; rw [qa_23_1, qb_23_1]; rfl
theorem qa_26_3 : QA 26 3 = true := by kernel_rfl
theorem qb_26_3 : QB 26 3 = true := by kernel_rfl
theorem q_26_3 : Q21 26 3 = true := by unfold Q21; rw [qa_26_3, qb_26_3]; rfl
theorem qa_29_5 : QA 29 5 = true := by kernel_rfl
theorem qb_29_5 : QB 29 5 = true := by kernel_rfl
theorem q_29_5 : Q21 29 5 = true := by unfold Q21; rw [qa_29_5, qb_29_5]; rfl
end Go.Proofs.YtmgjgdnjkgnbiaaGreatDoor.HM
