/- Cases of fleuronlaw11.RegistryAround. -/
import Derived.Test.YtmgjgdnjkgnbiaaGreatDoorRA0
namespace Go.Proofs.YtmgjgdnjkgnbiaaGreatDoor.HM
open Go Go.RowKit
theorem ap12_8 : R2 8 sp12 = true := by kernel_rfl
theorem am10_8 : R2 8 sm10 = true := by kernel_rfl
theorem am18_8 : R2 8 sm18 = true := by kernel_rfl
theorem ap18_7 : R2 7 sp18 = true := by kernel_rfl
theorem am16_7 : R2 7 sm16 = true := by kernel_rfl
theorem am6_8 : R2 8 sm6 = true := by kernel_rfl
theorem ap12_6 : R2 6 sp12 = true := by kernel_rfl
theorem ap18_6 : R2 6 sp18 = true := by kernel_rfl
theorem am16_6 : R2 6 sm16 = true := by kernel_rfl
theorem am4_8 : R2 8 sm4 = true := by kernel_rfl
theorem ap10_5 : R2 5 sp10 = true := by kernel_rfl
theorem ap18_5 : R2 5 sp18 = true := by kernel_rfl
theorem am16_5 : R2 5 sm16 = true := by kernel_rfl
theorem am4_7 : R2 7 sm4 = true := by kernel_rfl
theorem am2_8 : R2 8 sm2 = true := by kernel_rfl
theorem ap16_4 : R2 4 sp16 = true := by kernel_rfl
theorem am14_4 : R2 4 sm14 = true := by kernel_rfl
theorem am4_6 : R2 6 sm4 = true := by kernel_rfl
theorem am5_5 : R2 5 sm5 = true := by kernel_rfl
theorem am6_4 : R2 4 sm6 = true := by kernel_rfl
theorem ap10_3 : R2 3 sp10 = true := by kernel_rfl
theorem ap18_3 : R2 3 sp18 = true := by kernel_rfl
theorem am16_3 : R2 3 sm16 = true := by kernel_rfl
theorem ap5_4 : R2 4 sp5 = true := by kernel_rfl
theorem az_7 : R2 7 sz = true := by kernel_rfl
theorem ap6_3 : R2 3 sp6 = true := by kernel_rfl
theorem am5_3 : R2 3 sm5 = true := by kernel_rfl
theorem ap17_2 : R2 2 sp17 = true := by kernel_rfl
theorem am15_2 : R2 2 sm15 = true := by kernel_rfl
theorem ap8_2 : R2 2 sp8 = true := by kernel_rfl
theorem ap7_2 : R2 2 sp7 = true := by kernel_rfl
theorem ap6_2 : R2 2 sp6 = true := by kernel_rfl
theorem am3_2 : R2 2 sm3 = true := by kernel_rfl
theorem ap12_1 : R2 1 sp12 = true := by kernel_rfl
theorem am10_1 : R2 1 sm10 = true := by kernel_rfl
theorem am18_1 : R2 1 sm18 = true := by kernel_rfl
theorem am7_1 : R2 1 sm7 = true := by kernel_rfl
theorem ap4_1 : R2 1 sp4 = true := by kernel_rfl
theorem am1_1 : R2 1 sm1 = true := by kernel_rfl
end Go.Proofs.YtmgjgdnjkgnbiaaGreatDoor.HM
