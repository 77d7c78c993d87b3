/- Cases of fleuronlaw11.RegistryPads: the runs of some shapes. -/
import Derived.Test.YtmgjgdnjkgnbiaaGreatDoorQ0
namespace Go.Proofs.YtmgjgdnjkgnbiaaGreatDoor.HM
open Go Go.RowKit
theorem q_0_2 : Q21 0 2 = true := by kernel_rfl
theorem q_3_4 : Q21 3 4 = true := by kernel_rfl
theorem q_7_0 : Q21 7 0 = true := by kernel_rfl
theorem qa_10_2 : QA 10 2 = true := by kernel_rfl
theorem qb_10_2 : QB 10 2 = true := by kernel_rfl
theorem q_10_2 : Q21 10 2 = true := by unfold Q21; rw [qa_10_2, qb_10_2]; rfl
theorem qa_13_4 : QA 13 4 = true := by kernel_rfl
theorem qb_13_4 : QB 13 4 = true := by kernel_rfl
theorem q_13_4 : Q21 13 4 = true := by unfold Q21; rw [qa_13_4, qb_13_4]; rfl
theorem qa_17_0 : QA 17 0 = true := by kernel_rfl
theorem qb_17_0 : QB 17 0 = true := by kernel_rfl
theorem q_17_0 : Q21 17 0 = true := by unfold Q21; rw [qa_17_0, qb_17_0]; rfl
theorem qa_20_2 : QA 20 2 = true := by kernel_rfl
theorem qb_20_2 : QB 20 2 = true := by kernel_rfl
theorem q_20_2 : Q21 20 2 = true := by unfold Q21; rw [qa_20_2, qb_20_2]; rfl
theorem qa_23_4 : QA 23 4 = true := by kernel_rfl
theorem qb_23_4 : QB 23 4 = true := by kernel_rfl
theorem q_23_4 : Q21 23 4 = true := by unfold Q21; rw [qa_23_4, qb_23_4]; rfl
theorem qa_27_0 : QA 27 0 = true := by kernel_rfl
theorem qb_27_0 : QB 27 0 = true := by kernel_rfl
theorem q_27_0 : Q21 27 0 = true := by unfold Q21; rw [qa_27_0, qb_27_0]; rfl
theorem qa_30_2 : QA 30 2 = true := by kernel_rfl
theorem qb_30_2 : QB 30 2 = true := by kernel_rfl
theorem q_30_2 : Q21 30 2 = true := by unfold Q21; rw [qa_30_2, qb_30_2]; rfl
end Go.Proofs.YtmgjgdnjkgnbiaaGreatDoor.HM
