/- Cases of fleuronlaw11.RegistryAround. -/
import Derived.Test.YtmgjgdnjkgnbiaaGreatDoorRA0
namespace Go.Proofs.YtmgjgdnjkgnbiaaGreatDoor.HM
open Go Go.RowKit
theorem ap16_8 : R2 8 sp16 = true := by kernel_rfl
theorem am14_8 : R2 8 sm14 = true := by kernel_rfl
theorem ap10_7 : R2 7 sp10 = true := by kernel_rfl
theorem ap12_7 : R2 7 sp12 = true := by kernel_rfl
theorem am10_7 : R2 7 sm10 = true := by kernel_rfl
theorem am18_7 : R2 7 sm18 = true := by kernel_rfl
theorem am7_7 : R2 7 sm7 = true := by kernel_rfl
theorem ap16_6 : R2 6 sp16 = true := by kernel_rfl
theorem am14_6 : R2 6 sm14 = true := by kernel_rfl
theorem am8_6 : R2 6 sm8 = true := by kernel_rfl
theorem ap12_5 : R2 5 sp12 = true := by kernel_rfl
theorem am10_5 : R2 5 sm10 = true := by kernel_rfl
theorem am18_5 : R2 5 sm18 = true := by kernel_rfl
theorem am5_6 : R2 6 sm5 = true := by kernel_rfl
theorem am7_5 : R2 5 sm7 = true := by kernel_rfl
theorem ap12_4 : R2 4 sp12 = true := by kernel_rfl
theorem am10_4 : R2 4 sm10 = true := by kernel_rfl
theorem am18_4 : R2 4 sm18 = true := by kernel_rfl
theorem am3_6 : R2 6 sm3 = true := by kernel_rfl
theorem am4_5 : R2 5 sm4 = true := by kernel_rfl
theorem ap12_3 : R2 3 sp12 = true := by kernel_rfl
theorem am10_3 : R2 3 sm10 = true := by kernel_rfl
theorem am18_3 : R2 3 sm18 = true := by kernel_rfl
theorem ap8_3 : R2 3 sp8 = true := by kernel_rfl
theorem ap0_7 : R2 7 sp0 = true := by kernel_rfl
theorem am6_3 : R2 3 sm6 = true := by kernel_rfl
theorem ap9_2 : R2 2 sp9 = true := by kernel_rfl
theorem ap12_2 : R2 2 sp12 = true := by kernel_rfl
theorem am10_2 : R2 2 sm10 = true := by kernel_rfl
theorem am18_2 : R2 2 sm18 = true := by kernel_rfl
theorem am3_3 : R2 3 sm3 = true := by kernel_rfl
theorem az_4 : R2 4 sz = true := by kernel_rfl
theorem am5_2 : R2 2 sm5 = true := by kernel_rfl
theorem ap17_1 : R2 1 sp17 = true := by kernel_rfl
theorem am15_1 : R2 1 sm15 = true := by kernel_rfl
theorem am8_1 : R2 1 sm8 = true := by kernel_rfl
theorem am1_2 : R2 2 sm1 = true := by kernel_rfl
theorem am4_1 : R2 1 sm4 = true := by kernel_rfl
theorem ap0_1 : R2 1 sp0 = true := by kernel_rfl
end Go.Proofs.YtmgjgdnjkgnbiaaGreatDoor.HM
