/- Cases of fleuronlaw11.RegistryPads: the runs of some shapes. -/
import Derived.Test.YtmgjgdnjkgnbiaaGreatDoorQ0
namespace Go.Proofs.YtmgjgdnjkgnbiaaGreatDoor.HM
open Go Go.RowKit
theorem q_0_4 : Q21 0 4 = true := by kernel_rfl
theorem q_4_0 : Q21 4 0 = true := by kernel_rfl
theorem q_7_2 : Q21 7 2 = true := by kernel_rfl
theorem qa_10_4 : QA 10 4 = true := by kernel_rfl
theorem qb_10_4 : QB 10 4 = true := by kernel_rfl
theorem q_10_4 : Q21 10 4 = true := by unfold Q21; rw [qa_10_4, qb_10_4]; rfl
theorem qa_14_0 : QA 14 0 = true := by kernel_rfl
theorem qb_14_0 : QB 14 0 = true := by kernel_rfl
theorem q_14_0 : Q21 14 0 = true := by unfold Q21; rw [qa_14_0, qb_14_0]; rfl
theorem qa_17_2 : QA 17 2 = true := by kernel_rfl
theorem qb_17_2 : QB 17 2 = true := by kernel_rfl
theorem q_17_2 : Q21 17 2 = true := by unfold Q21; rw [qa_17_2, qb_17_2]; rfl
theorem qa_20_4 : QA 20 4 = true := by kernel_rfl
theorem qb_20_4 : QB 20 4 = true := by kernel_rfl
theorem q_20_4 : Q21 20 4 = true := by unfold Q21; rw [qa_20_4, qb_20_4]; rfl
theorem qa_24_0 : QA 24 0 = true := by kernel_rfl
theorem qb_24_0 : QB 24 0 = true := by kernel_rfl
theorem q_24_0 : Q21 24 0 = true := by unfold Q21; rw [qa_24_0, qb_24_0]; rfl
theorem qa_27_2 : QA 27 2 = true := by kernel_rfl
theorem qb_27_2 : QB 27 2 = true := by kernel_rfl
theorem q_27_2 : Q21 27 2 = true := by unfold Q21; rw [qa_27_2, qb_27_2]; rfl
theorem qa_30_4 : QA 30 4 = true := by kernel_rfl
theorem qb_30_4 : QB 30 4 = true := by kernel_rfl
theorem q_30_4 : Q21 30 4 = true := by unfold Q21; rw [qa_30_4, qb_30_4]; rfl
end Go.Proofs.YtmgjgdnjkgnbiaaGreatDoor.HM
