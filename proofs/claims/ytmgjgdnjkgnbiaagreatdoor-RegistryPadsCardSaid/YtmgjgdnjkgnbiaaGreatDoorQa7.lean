/- Cases of fleuronlaw11.RegistryPads: the runs of some shapes. -/
import Derived.Test.YtmgjgdnjkgnbiaaGreatDoorQ0
namespace Go.Proofs.YtmgjgdnjkgnbiaaGreatDoor.HM
open Go Go.RowKit
theorem q_1_0 : Q21 1 0 = true := by kernel_rfl
theorem q_4_2 : Q21 4 2 = true := by kernel_rfl
theorem q_7_4 : Q21 7 4 = true := by kernel_rfl
theorem qa_11_0 : QA 11 0 = true := by kernel_rfl
theorem qb_11_0 : QB 11 0 = true := by kernel_rfl
theorem q_11_0 : Q21 11 0 = true := by unfold Q21; rw [qa_11_0, qb_11_0]; rfl
theorem qa_14_2 : QA 14 2 = true := by kernel_rfl
theorem qb_14_2 : QB 14 2 = true := by kernel_rfl
theorem q_14_2 : Q21 14 2 = true := by unfold Q21; rw [qa_14_2, qb_14_2]; rfl
theorem qa_17_4 : QA 17 4 = true := by kernel_rfl
theorem qb_17_4 : QB 17 4 = true := by kernel_rfl
theorem q_17_4 : Q21 17 4 = true := by unfold Q21; rw [qa_17_4, qb_17_4]; rfl
theorem qa_21_0 : QA 21 0 = true := by kernel_rfl
theorem qb_21_0 : QB 21 0 = true := by kernel_rfl
theorem q_21_0 : Q21 21 0 = true := by unfold Q21; rw [qa_21_0, qb_21_0]; rfl
theorem qa_24_2 : QA 24 2 = true := by kernel_rfl
theorem qb_24_2 : QB 24 2 = true := by kernel_rfl
theorem q_24_2 : Q21 24 2 = true := by unfold Q21; rw [qa_24_2, qb_24_2]; rfl
theorem qa_27_4 : QA 27 4 = true := by kernel_rfl
theorem qb_27_4 : QB 27 4 = true := by kernel_rfl
theorem q_27_4 : Q21 27 4 = true := by unfold Q21; rw [qa_27_4, qb_27_4]; rfl
end Go.Proofs.YtmgjgdnjkgnbiaaGreatDoor.HM
