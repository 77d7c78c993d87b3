/- Cases of fleuronlaw11.RegistryPads: the runs of some shapes. -/
import Derived.Test.YtmgjgdnjkgnbiaaGreatDoorQ0
namespace Go.Proofs.YtmgjgdnjkgnbiaaGreatDoor.HM
open Go Go.RowKit
theorem q_1_4 : Q21 1 4 = true := by kernel_rfl
theorem q_5_0 : Q21 5 0 = true := by kernel_rfl
theorem q_8_2 : Q21 8 2 = true := by kernel_rfl
theorem qa_11_4 : QA 11 4 = true := by kernel_rfl
theorem qb_11_4 : QB 11 4 = true := by kernel_rfl
theorem q_11_4 : Q21 11 4 = true := by unfold Q21; rw [qa_11_4, qb_11_4]; rfl
theorem qa_15_0 : QA 15 0 = true := by kernel_rfl
theorem qb_15_0 : QB 15 0 = true := by kernel_rfl
theorem q_15_0 : Q21 15 0 = true := by unfold Q21; rw [qa_15_0, qb_15_0]; rfl
theorem qa_18_2 : QA 18 2 = true := by kernel_rfl
theorem qb_18_2 : QB 18 2 = true := by kernel_rfl
theorem q_18_2 : Q21 18 2 = true := by unfold Q21; rw [qa_18_2, qb_18_2]; rfl
theorem qa_21_4 : QA 21 4 = true := by kernel_rfl
theorem qb_21_4 : QB 21 4 = true := by kernel_rfl
theorem q_21_4 : Q21 21 4 = true := by unfold Q21; rw [qa_21_4, qb_21_4]; rfl
theorem qa_25_0 : QA 25 0 = true := by kernel_rfl
theorem qb_25_0 : QB 25 0 = true := by kernel_rfl
theorem q_25_0 : Q21 25 0 = true := by unfold Q21; rw [qa_25_0, qb_25_0]; rfl
theorem qa_28_2 : QA 28 2 = true := by kernel_rfl
theorem qb_28_2 : QB 28 2 = true := by kernel_rfl
theorem q_28_2 : Q21 28 2 = true := by unfold Q21; rw [qa_28_2, qb_28_2]; rfl
end Go.Proofs.YtmgjgdnjkgnbiaaGreatDoor.HM
