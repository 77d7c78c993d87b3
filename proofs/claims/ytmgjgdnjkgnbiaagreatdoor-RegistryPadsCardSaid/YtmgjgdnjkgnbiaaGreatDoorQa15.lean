/- Cases of fleuronlaw11.RegistryPads: the runs of some shapes. -/
import Derived.Test.YtmgjgdnjkgnbiaaGreatDoorQ0
namespace Go.Proofs.YtmgjgdnjkgnbiaaGreatDoor.HM
open Go Go.RowKit
theorem q_2_2 : Q21 2 2 = true := by kernel_rfl
theorem q_5_4 : Q21 5 4 = true := by kernel_rfl
theorem q_9_0 : Q21 9 0 = true := by kernel_rfl
theorem qa_12_2 : QA 12 2 = true := by kernel_rfl
theorem qb_12_2 : QB 12 2 = true := by kernel_rfl
theorem q_12_2 : Q21 12 2 = true := by unfold Q21; rw [qa_12_2, qb_12_2]; rfl
theorem qa_15_4 : QA 15 4 = true := by kernel_rfl
theorem qb_15_4 : QB 15 4 = true := by kernel_rfl
theorem q_15_4 : Q21 15 4 = true := by unfold Q21; rw [qa_15_4, qb_15_4]; rfl
theorem qa_19_0 : QA 19 0 = true := by kernel_rfl
theorem qb_19_0 : QB 19 0 = true := by kernel_rfl
theorem q_19_0 : Q21 19 0 = true := by unfold Q21; rw [qa_19_0, qb_19_0]; rfl
theorem qa_22_2 : QA 22 2 = true := by kernel_rfl
theorem qb_22_2 : QB 22 2 = true := by kernel_rfl
theorem q_22_2 : Q21 22 2 = true := by unfold Q21; rw [qa_22_2, qb_22_2]; rfl
theorem qa_25_4 : QA 25 4 = true := by kernel_rfl
theorem qb_25_4 : QB 25 4 = true := by kernel_rfl
theorem q_25_4 : Q21 25 4 = true := by unfold Q21; rw [qa_25_4, qb_25_4]; rfl
theorem qa_29_0 : QA 29 0 = true := by kernel_rfl
theorem qb_29_0 : QB 29 0 = true := by kernel_rfl
theorem q_29_0 : Q21 29 0 = true := by unfold Q21; rw [qa_29_0, qb_29_0]; rfl
end Go.Proofs.YtmgjgdnjkgnbiaaGreatDoor.HM
