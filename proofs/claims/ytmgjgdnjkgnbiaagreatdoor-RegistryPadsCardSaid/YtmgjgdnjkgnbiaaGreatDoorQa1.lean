/- Cases of fleuronlaw11.RegistryPads: the runs of some shapes. -/
import Derived.Test.YtmgjgdnjkgnbiaaGreatDoorQ0
namespace Go.Proofs.YtmgjgdnjkgnbiaaGreatDoor.HM
open Go Go.RowKit
theorem q_0_0 : Q21 0 0 = true := by kernel_rfl
theorem q_3_2 : Q21 3 2 = true := by kernel_rfl
theorem q_6_4 : Q21 6 4 = true := by kernel_rfl
theorem qa_10_0 : QA 10 0 = true := by kernel_rfl
theorem qb_10_0 : QB 10 0 = true := by kernel_rfl
theorem q_10_0 : Q21 10 0 = true := by unfold Q21; rw [qa_10_0, qb_10_0]; rfl
theorem qa_13_2 : QA 13 2 = true := by kernel_rfl
theorem qb_13_2 : QB 13 2 = true := by kernel_rfl
theorem q_13_2 : Q21 13 2 = true := by unfold Q21; rw [qa_13_2, qb_13_2]; rfl
theorem qa_16_4 : QA 16 4 = true := by kernel_rfl
theorem qb_16_4 : QB 16 4 = true := by kernel_rfl
theorem q_16_4 : Q21 16 4 = true := by unfold Q21; rw [qa_16_4, qb_16_4]; rfl
theorem qa_20_0 : QA 20 0 = true := by kernel_rfl
theorem qb_20_0 : QB 20 0 = true := by kernel_rfl
theorem q_20_0 : Q21 20 0 = true := by unfold Q21; rw [qa_20_0, qb_20_0]; rfl
theorem qa_23_2 : QA 23 2 = true := by kernel_rfl
theorem qb_23_2 : QB 23 2 = true := by kernel_rfl
theorem q_23_2 : Q21 23 2 = true := by unfold Q21; rw [qa_23_2, qb_23_2]; rfl
theorem qa_26_4 : QA 26 4 = true := by kernel_rfl
theorem qb_26_4 : QB 26 4 = true := by kernel_rfl
theorem q_26_4 : Q21 26 4 = true := by unfold Q21; rw [qa_26_4, qb_26_4]; rfl
theorem qa_30_0 : QA 30 0 = true := by kernel_rfl
theorem qb_30_0 : QB 30 0 = true := by kernel_rfl
theorem q_30_0 : Q21 30 0 = true := by unfold Q21; rw [qa_30_0, qb_30_0]; rfl
end Go.Proofs.YtmgjgdnjkgnbiaaGreatDoor.HM
