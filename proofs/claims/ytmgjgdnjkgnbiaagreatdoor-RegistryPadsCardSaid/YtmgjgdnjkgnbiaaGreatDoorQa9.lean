/- Cases of fleuronlaw11.RegistryPads: the runs of some shapes. -/
import Derived.Test.YtmgjgdnjkgnbiaaGreatDoorQ0
namespace Go.Proofs.YtmgjgdnjkgnbiaaGreatDoor.HM
open Go Go.RowKit
theorem q_1_2 : Q21 1 2 = true := by kernel_rfl
theorem q_4_4 : Q21 4 4 = true := by kernel_rfl
theorem q_8_0 : Q21 8 0 = true := by kernel_rfl
theorem qa_11_2 : QA 11 2 = true := by kernel_rfl
theorem qb_11_2 : QB 11 2 = true := by kernel_rfl
theorem q_11_2 : Q21 11 2 = true := by unfold Q21; rw [qa_11_2, qb_11_2]; rfl
theorem qa_14_4 : QA 14 4 = true := by kernel_rfl
theorem qb_14_4 : QB 14 4 = true := by kernel_rfl
theorem q_14_4 : Q21 14 4 = true := by unfold Q21; rw [qa_14_4, qb_14_4]; rfl
theorem qa_18_0 : QA 18 0 = true := by kernel_rfl
theorem qb_18_0 : QB 18 0 = true := by kernel_rfl
theorem q_18_0 : Q21 18 0 = true := by unfold Q21; rw [qa_18_0, qb_18_0]; rfl
theorem qa_21_2 : QA 21 2 = true := by kernel_rfl
theorem qb_21_2 : QB 21 2 = true := by kernel_rfl
theorem q_21_2 : Q21 21 2 = true := by unfold Q21; rw [qa_21_2, qb_21_2]; rfl
theorem qa_24_4 : QA 24 4 = true := by kernel_rfl
theorem qb_24_4 : QB 24 4 = true := by kernel_rfl
theorem q_24_4 : Q21 24 4 = true := by unfold Q21; rw [qa_24_4, qb_24_4]; rfl
theorem qa_28_0 : QA 28 0 = true := by kernel_rfl
theorem qb_28_0 : QB 28 0 = true := by kernel_rfl
theorem q_28_0 : Q21 28 0 = true := by unfold Q21; rw [qa_28_0, qb_28_0]; rfl
end Go.Proofs.YtmgjgdnjkgnbiaaGreatDoor.HM
