/- Cases of fleuronlaw11.RegistryPads: the runs of some shapes. -/
import Derived.Test.YtmgjgdnjkgnbiaaGreatDoorQ0
namespace Go.Proofs.YtmgjgdnjkgnbiaaGreatDoor.HM
open Go Go.RowKit
theorem q_1_3 : Q21 1 3 = true := by kernel_rfl
theorem q_4_5 : Q21 4 5 = true := by kernel_rfl
theorem q_8_1 : Q21 8 1 = true := by kernel_rfl
theorem qa_11_3 : QA 11 3 = true := by kernel_rfl
theorem qb_11_3 : QB 11 3 = true := by kernel_rfl
theorem q_11_3 : Q21 11 3 = true := by unfold Q21; rw [qa_11_3, qb_11_3]; rfl
theorem qa_14_5 : QA 14 5 = true := by kernel_rfl
theorem qb_14_5 : QB 14 5 = true := by kernel_rfl
theorem q_14_5 : Q21 14 5 = true := by unfold Q21; rw [qa_14_5, qb_14_5]; rfl
theorem qa_18_1 : QA 18 1 = true := by kernel_rfl
theorem qb_18_1 : QB 18 1 = true := by kernel_rfl
theorem q_18_1 : Q21 18 1 = true := by unfold Q21; rw [qa_18_1, qb_18_1]; rfl
theorem qa_21_3 : QA 21 3 = true := by kernel_rfl
theorem qb_21_3 : QB 21 3 = true := by kernel_rfl
theorem q_21_3 : Q21 21 3 = true := by unfold Q21; rw [qa_21_3, qb_21_3]; rfl
theorem qa_24_5 : QA 24 5 = true := by kernel_rfl
theorem qb_24_5 : QB 24 5 = true := by kernel_rfl
theorem q_24_5 : Q21 24 5 = true := by unfold Q21; rw [qa_24_5, qb_24_5]; rfl
theorem qa_28_1 : QA 28 1 = true := by kernel_rfl
theorem qb_28_1 : QB 28 1 = true := by kernel_rfl
theorem q_28_1 : Q21 28 1 = true := by unfold Q21; rw [qa_28_1, qb_28_1]; rfl
end Go.Proofs.YtmgjgdnjkgnbiaaGreatDoor.HM
