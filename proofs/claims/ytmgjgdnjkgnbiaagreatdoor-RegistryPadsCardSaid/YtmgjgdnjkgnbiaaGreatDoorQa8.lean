/- Cases of fleuronlaw11.RegistryPads: the runs of some shapes. -/
import Derived.Test.YtmgjgdnjkgnbiaaGreatDoorQ0
namespace Go.Proofs.YtmgjgdnjkgnbiaaGreatDoor.HM
open Go Go.RowKit
theorem q_1_1 : Q21 1 1 = true := by kernel_rfl
theorem q_4_3 : Q21 4 3 = true := by kernel_rfl
theorem q_7_5 : Q21 7 5 = true := by kernel_rfl
theorem qa_11_1 : QA 11 1 = true := by kernel_rfl
theorem qb_11_1 : QB 11 1 = true := by kernel_rfl
theorem q_11_1 : Q21 11 1 = true := by unfold Q21; rw [qa_11_1, qb_11_1]; rfl
theorem qa_14_3 : QA 14 3 = true := by kernel_rfl
theorem qb_14_3 : QB 14 3 = true := by kernel_rfl
theorem q_14_3 : Q21 14 3 = true := by unfold Q21; rw [qa_14_3, qb_14_3]; rfl
theorem qa_17_5 : QA 17 5 = true := by kernel_rfl
theorem qb_17_5 : QB 17 5 = true := by kernel_rfl
theorem q_17_5 : Q21 17 5 = true := by unfold Q21; rw [qa_17_5, qb_17_5]; rfl
theorem qa_21_1 : QA 21 1 = true := by kernel_rfl
theorem qb_21_1 : QB 21 1 = true := by kernel_rfl
theorem q_21_1 : Q21 21 1 = true := by unfold Q21; rw [qa_21_1, qb_21_1]; rfl
theorem qa_24_3 : QA 24 3 = true := by kernel_rfl
theorem qb_24_3 : QB 24 3 = true := by kernel_rfl
theorem q_24_3 : Q21 24 3 = true := by unfold Q21; rw [qa_24_3, qb_24_3]; rfl
theorem qa_27_5 : QA 27 5 = true := by kernel_rfl
theorem qb_27_5 : QB 27 5 = true := by kernel_rfl
theorem q_27_5 : Q21 27 5 = true := by unfold Q21; rw [qa_27_5, qb_27_5]; rfl
end Go.Proofs.YtmgjgdnjkgnbiaaGreatDoor.HM
