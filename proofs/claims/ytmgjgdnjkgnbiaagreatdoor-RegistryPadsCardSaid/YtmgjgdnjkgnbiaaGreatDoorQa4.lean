/- Cases of fleuronlaw11.RegistryPads: the runs of some shapes. -/
import Derived.Test.YtmgjgdnjkgnbiaaGreatDoorQ0
namespace Go.Proofs.YtmgjgdnjkgnbiaaGreatDoor.HM
open Go Go.RowKit
theorem q_0_3 : Q21 0 3 = true := by kernel_rfl
theorem q_3_5 : Q21 3 5 = true := by kernel_rfl
theorem q_7_1 : Q21 7 1 = true := by kernel_rfl
theorem qa_10_3 : QA 10 3 = true := by kernel_rfl
theorem qb_10_3 : QB 10 3 = true := by kernel_rfl
theorem q_10_3 : Q21 10 3 = true := by unfold Q21; rw [qa_10_3, qb_10_3]; rfl
theorem qa_13_5 : QA 13 5 = true := by kernel_rfl
theorem qb_13_5 : QB 13 5 = true := by kernel_rfl
theorem q_13_5 : Q21 13 5 = true := by unfold Q21; rw [qa_13_5, qb_13_5]; rfl
theorem qa_17_1 : QA 17 1 = true := by kernel_rfl
theorem qb_17_1 : QB 17 1 = true := by kernel_rfl
theorem q_17_1 : Q21 17 1 = true := by unfold Q21; rw [qa_17_1, qb_17_1]; rfl
theorem qa_20_3 : QA 20 3 = true := by kernel_rfl
theorem qb_20_3 : QB 20 3 = true := by kernel_rfl
theorem q_20_3 : Q21 20 3 = true := by unfold Q21; rw [qa_20_3, qb_20_3]; rfl
theorem qa_23_5 : QA 23 5 = true := by kernel_rfl
theorem qb_23_5 : QB 23 5 = true := by kernel_rfl
theorem q_23_5 : Q21 23 5 = true := by unfold Q21; rw [qa_23_5, qb_23_5]; rfl
theorem qa_27_1 : QA 27 1 = true := by kernel_rfl
theorem qb_27_1 : QB 27 1 = true := by kernel_rfl
theorem q_27_1 : Q21 27 1 = true := by unfold Q21; rw [qa_27_1, qb_27_1]; rfl
theorem qa_30_3 : QA 30 3 = true := by kernel_rfl
theorem qb_30_3 : QB 30 3 = true := by kernel_rfl
theorem q_30_3 : Q21 30 3 = true := by unfold Q21; rw [qa_30_3, qb_30_3]; rfl
end Go.Proofs.YtmgjgdnjkgnbiaaGreatDoor.HM
