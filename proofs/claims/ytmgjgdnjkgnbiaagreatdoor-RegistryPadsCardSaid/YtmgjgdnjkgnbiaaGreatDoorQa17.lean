/- Cases of fleuronlaw11.RegistryPads: the runs of some shapes. -/
import Derived.Test.YtmgjgdnjkgnbiaaGreatDoorQ0
namespace Go.Proofs.YtmgjgdnjkgnbiaaGreatDoor.HM
open Go Go.RowKit
theorem q_2_4 : Q21 2 4 = true := by kernel_rfl
theorem q_6_0 : Q21 6 0 = true := by kernel_rfl
theorem q_9_2 : Q21 9 2 = true := by kernel_rfl
theorem qa_12_4 : QA 12 4 = true := by kernel_rfl
theorem qb_12_4 : QB 12 4 = true := by kernel_rfl
theorem q_12_4 : Q21 12 4 = true := by unfold Q21; rw [qa_12_4, qb_12_4]; rfl
theorem qa_16_0 : QA 16 0 = true := by kernel_rfl
theorem qb_16_0 : QB 16 0 = true := by kernel_rfl
theorem q_16_0 : Q21 16 0 = true := by unfold Q21; rw [qa_16_0, qb_16_0]; rfl
theorem qa_19_2 : QA 19 2 = true := by kernel_rfl
theorem qb_19_2 : QB 19 2 = true := by kernel_rfl
theorem q_19_2 : Q21 19 2 = true := by unfold Q21; rw [qa_19_2, qb_19_2]; rfl
theorem qa_22_4 : QA 22 4 = true := by kernel_rfl
theorem qb_22_4 : QB 22 4 = true := by kernel_rfl
theorem q_22_4 : Q21 22 4 = true := by unfold Q21; rw [qa_22_4, qb_22_4]; rfl
theorem qa_26_0 : QA 26 0 = true := by kernel_rfl
theorem qb_26_0 : QB 26 0 = true := by kernel_rfl
theorem q_26_0 : Q21 26 0 = true := by unfold Q21; rw [qa_26_0, qb_26_0]; rfl
theorem qa_29_2 : QA 29 2 = true := by kernel_rfl
theorem qb_29_2 : QB 29 2 = true := by kernel_rfl
theorem q_29_2 : Q21 29 2 = true := by unfold Q21; rw [qa_29_2, qb_29_2]; rfl
end Go.Proofs.YtmgjgdnjkgnbiaaGreatDoor.HM
