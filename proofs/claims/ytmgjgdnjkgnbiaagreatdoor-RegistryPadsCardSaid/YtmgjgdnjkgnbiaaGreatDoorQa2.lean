/- Cases of fleuronlaw11.RegistryPads: the runs of some shapes. -/
import Derived.Test.YtmgjgdnjkgnbiaaGreatDoorQ0
namespace Go.Proofs.YtmgjgdnjkgnbiaaGreatDoor.HM
open Go Go.RowKit
theorem q_0_1 : Q21 0 1 = true := by kernel_rfl
theorem q_3_3 : Q21 3 3 = true := by kernel_rfl
theorem q_6_5 : Q21 6 5 = true := by kernel_rfl
theorem qa_10_1 : QA 10 1 = true := by kernel_rfl
theorem qb_10_1 : QB 10 1 = true := by kernel_rfl
theorem q_10_1 : Q21 10 1 = true := by unfold Q21; rw [qa_10_1, qb_10_1]; rfl
theorem qa_13_3 : QA 13 3 = true := by kernel_rfl
theorem qb_13_3 : QB 13 3 = true := by kernel_rfl
theorem q_13_3 : Q21 13 3 = true := by unfold Q21; rw [qa_13_3, qb_13_3]; rfl
theorem qa_16_5 : QA 16 5 = true := by kernel_rfl
theorem qb_16_5 : QB 16 5 = true := by kernel_rfl
theorem q_16_5 : Q21 16 5 = true := by unfold Q21; rw [qa_16_5, qb_16_5]; rfl
theorem qa_20_1 : QA 20 1 = true := by kernel_rfl
theorem qb_20_1 : QB 20 1 = true := by kernel_rfl
theorem q_20_1 : Q21 20 1 = true := by unfold Q21; rw [qa_20_1, qb_20_1]; rfl
theorem qa_23_3 : QA 23 3 = true := by kernel_rfl
theorem qb_23_3 : QB 23 3 = true := by kernel_rfl
theorem q_23_3 : Q21 23 3 = true := by unfold Q21; rw [qa_23_3, qb_23_3]; rfl
theorem qa_26_5 : QA 26 5 = true := by kernel_rfl
theorem qb_26_5 : QB 26 5 = true := by kernel_rfl
theorem q_26_5 : Q21 26 5 = true := by unfold Q21; rw [qa_26_5, qb_26_5]; rfl
theorem qa_30_1 : QA 30 1 = true := by kernel_rfl
theorem qb_30_1 : QB 30 1 = true := by kernel_rfl
theorem q_30_1 : Q21 30 1 = true := by unfold Q21; rw [qa_30_1, qb_30_1]; rfl
end Go.Proofs.YtmgjgdnjkgnbiaaGreatDoor.HM
