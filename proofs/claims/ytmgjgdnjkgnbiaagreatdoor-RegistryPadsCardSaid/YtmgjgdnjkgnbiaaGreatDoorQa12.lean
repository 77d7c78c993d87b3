/- Cases of fleuronlaw11.RegistryPads: the runs of some shapes. -/
import Derived.Test.YtmgjgdnjkgnbiaaGreatDoorQ0
namespace Go.Proofs.YtmgjgdnjkgnbiaaGreatDoor.HM
open Go Go.RowKit
theorem q_1_5 : Q21 1 5 = true := by kernel_rfl
theorem q_5_1 : Q21 5 1 = true := by kernel_rfl
theorem q_8_3 : Q21 8 3 = true := by kernel_rfl
theorem qa_11_5 : QA 11 5 = true := by kernel_rfl
theorem qb_11_5 : QB 11 5 = true := by kernel_rfl
theorem q_11_5 : Q21 11 5 = true := by unfold Q21; rw [qa_11_5, qb_11_5]; rfl
theorem qa_15_1 : QA 15 1 = true := by kernel_rfl
theorem qb_15_1 : QB 15 1 = true := by kernel_rfl
theorem q_15_1 : Q21 15 1 = true := by unfold Q21; rw [qa_15_1, qb_15_1]; rfl
theorem qa_18_3 : QA 18 3 = true := by kernel_rfl
theorem qb_18_3 : QB 18 3 = true := by kernel_rfl
theorem q_18_3 : Q21 18 3 = true := by unfold Q21; rw [qa_18_3, qb_18_3]; rfl
theorem qa_21_5 : QA 21 5 = true := by kernel_rfl
theorem qb_21_5 : QB 21 5 = true := by kernel_rfl
theorem q_21_5 : Q21 21 5 = true := by unfold Q21; rw [qa_21_5, qb_21_5]; rfl
theorem qa_25_1 : QA 25 1 = true := by kernel_rfl
theorem qb_25_1 : QB 25 1 = true := by kernel_rfl
theorem q_25_1 : Q21 25 1 = true := by unfold Q21; rw [qa_25_1, qb_25_1]; rfl
theorem qa_28_3 : QA 28 3 = true := by kernel_rfl
theorem qb_28_3 : QB 28 3 = true := by kernel_rfl
theorem q_28_3 : Q21 28 3 = true := by unfold Q21; rw [qa_28_3, qb_28_3]; rfl
end Go.Proofs.YtmgjgdnjkgnbiaaGreatDoor.HM
