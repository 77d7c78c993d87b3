/- Cases of fleuronlaw11.RegistryPads: the runs of some shapes. -/
import Derived.Test.YtmgjgdnjkgnbiaaGreatDoorQ0
namespace Go.Proofs.YtmgjgdnjkgnbiaaGreatDoor.HM
open Go Go.RowKit
theorem q_3_0 : Q21 3 0 = true := by kernel_rfl
theorem q_6_2 : Q21 6 2 = true := by kernel_rfl
theorem q_9_4 : Q21 9 4 = true := by kernel_rfl
theorem qa_13_0 : QA 13 0 = true := by kernel_rfl
theorem qb_13_0 : QB 13 0 = true := by kernel_rfl
theorem q_13_0 : Q21 13 0 = true := by unfold Q21; rw [qa_13_0, qb_13_0]; rfl
theorem qa_16_2 : QA 16 2 = true := by kernel_rfl
theorem qb_16_2 : QB 16 2 = true := by kernel_rfl
theorem q_16_2 : Q21 16 2 = true := by unfold Q21; rw [qa_16_2, qb_16_2]; rfl
theorem qa_19_4 : QA 19 4 = true := by kernel_rfl
theorem qb_19_4 : QB 19 4 = true := by kernel_rfl
theorem q_19_4 : Q21 19 4 = true := by unfold Q21; rw [qa_19_4, qb_19_4]; rfl
theorem qa_23_0 : QA 23 0 = true := by kernel_rfl
theorem qb_23_0 : QB 23 0 = true := by kernel_rfl
theorem q_23_0 : Q21 23 0 = true := by unfold Q21; rw [qa_23_0, qb_23_0]; rfl
theorem qa_26_2 : QA 26 2 = true := by kernel_rfl
theorem qb_26_2 : QB 26 2 = true := by kernel_rfl
theorem q_26_2 : Q21 26 2 = true := by unfold Q21; rw [qa_26_2, qb_26_2]; rfl
theorem qa_29_4 : QA 29 4 = true := by kernel_rfl
theorem qb_29_4 : QB 29 4 = true := by kernel_rfl
theorem q_29_4 : Q21 29 4 = true := by unfold Q21; rw [qa_29_4, qb_29_4]; rfl
end Go.Proofs.YtmgjgdnjkgnbiaaGreatDoor.HM
