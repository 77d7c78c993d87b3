/- Cases of fleuronlaw11.RegistryPads: the runs of some shapes. -/
import Derived.Test.YtmgjgdnjkgnbiaaGreatDoorQ0
namespace Go.Proofs.YtmgjgdnjkgnbiaaGreatDoor.HM
open Go Go.RowKit
theorem q_0_5 : Q21 0 5 = true := by kernel_rfl
theorem q_4_1 : Q21 4 1 = true := by kernel_rfl
theorem q_7_3 : Q21 7 3 = true := by kernel_rfl
theorem qa_10_5 : QA 10 5 = true := by kernel_rfl
theorem qb_10_5 : QB 10 5 = true := by kernel_rfl
theorem q_10_5 : Q21 10 5 = true := by unfold Q21; rw [qa_10_5, qb_10_5]; rfl
theorem qa_14_1 : QA 14 1 = true := by kernel_rfl
theorem qb_14_1 : QB 14 1 = true := by kernel_rfl
theorem q_14_1 : Q21 14 1 = true := by unfold Q21; rw [qa_14_1, qb_14_1]; rfl
theorem qa_17_3 : QA 17 3 = true := by kernel_rfl
theorem qb_17_3 : QB 17 3 = true := by kernel_rfl
theorem q_17_3 : Q21 17 3 = true := by unfold Q21; rw [qa_17_3, qb_17_3]; rfl
theorem qa_20_5 : QA 20 5 = true := by kernel_rfl
theorem qb_20_5 : QB 20 5 = true := by kernel_rfl
theorem q_20_5 : Q21 20 5 = true := by unfold Q21; rw [qa_20_5, qb_20_5]; rfl
theorem qa_24_1 : QA 24 1 = true := by kernel_rfl
theorem qb_24_1 : QB 24 1 = true := by kernel_rfl
theorem q_24_1 : Q21 24 1 = true := by unfold Q21; rw [qa_24_1, qb_24_1]; rfl
theorem qa_27_3 : QA 27 3 = true := by kernel_rfl
theorem qb_27_3 : QB 27 3 = true := by kernel_rfl
theorem q_27_3 : Q21 27 3 = true := by unfold Q21; rw [qa_27_3, qb_27_3]; rfl
theorem qa_30_5 : QA 30 5 = true := by kernel_rfl
theorem qb_30_5 : QB 30 5 = true := by kernel_rfl
theorem q_30_5 : Q21 30 5 = true := by unfold Q21; rw [qa_30_5, qb_30_5]; rfl
end Go.Proofs.YtmgjgdnjkgnbiaaGreatDoor.HM
