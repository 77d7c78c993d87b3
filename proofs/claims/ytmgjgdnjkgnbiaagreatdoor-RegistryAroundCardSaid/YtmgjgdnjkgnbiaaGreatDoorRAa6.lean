/- Cases of fleuronlaw11.RegistryAround. -/
import Derived.Test.YtmgjgdnjkgnbiaaGreatDoorRA0
namespace Go.Proofs.YtmgjgdnjkgnbiaaGreatDoor.HM
open Go Go.RowKit
theorem ap14_8 : R2 8 sp14 = true := by kernel_rfl
theorem am12_8 : R2 8 sm12 = true := by kernel_rfl
theorem am8_8 : R2 8 sm8 = true := by kernel_rfl
theorem ap14_7 : R2 7 sp14 = true := by kernel_rfl
theorem am12_7 : R2 7 sm12 = true := by kernel_rfl
theorem am7_8 : R2 8 sm7 = true := by kernel_rfl
theorem ap10_6 : R2 6 sp10 = true := by kernel_rfl
theorem am10_6 : R2 6 sm10 = true := by kernel_rfl
theorem am18_6 : R2 6 sm18 = true := by kernel_rfl
theorem am7_6 : R2 6 sm7 = true := by kernel_rfl
theorem am5_7 : R2 7 sm5 = true := by kernel_rfl
theorem ap16_5 : R2 5 sp16 = true := by kernel_rfl
theorem am14_5 : R2 5 sm14 = true := by kernel_rfl
theorem am3_8 : R2 8 sm3 = true := by kernel_rfl
theorem ap10_4 : R2 4 sp10 = true := by kernel_rfl
theorem ap14_4 : R2 4 sp14 = true := by kernel_rfl
theorem am12_4 : R2 4 sm12 = true := by kernel_rfl
theorem am6_5 : R2 5 sm6 = true := by kernel_rfl
theorem am1_8 : R2 8 sm1 = true := by kernel_rfl
theorem am1_7 : R2 7 sm1 = true := by kernel_rfl
theorem am2_6 : R2 6 sm2 = true := by kernel_rfl
theorem ap16_3 : R2 3 sp16 = true := by kernel_rfl
theorem am14_3 : R2 3 sm14 = true := by kernel_rfl
theorem ap3_5 : R2 5 sp3 = true := by kernel_rfl
theorem am0_7 : R2 7 sm0 = true := by kernel_rfl
theorem am3_4 : R2 4 sm3 = true := by kernel_rfl
theorem am1_5 : R2 5 sm1 = true := by kernel_rfl
theorem ap14_2 : R2 2 sp14 = true := by kernel_rfl
theorem am12_2 : R2 2 sm12 = true := by kernel_rfl
theorem am2_4 : R2 4 sm2 = true := by kernel_rfl
theorem ap3_3 : R2 3 sp3 = true := by kernel_rfl
theorem am2_3 : R2 3 sm2 = true := by kernel_rfl
theorem am1_3 : R2 3 sm1 = true := by kernel_rfl
theorem ap16_1 : R2 1 sp16 = true := by kernel_rfl
theorem am14_1 : R2 1 sm14 = true := by kernel_rfl
theorem ap8_1 : R2 1 sp8 = true := by kernel_rfl
theorem am2_2 : R2 2 sm2 = true := by kernel_rfl
theorem ap3_1 : R2 1 sp3 = true := by kernel_rfl
theorem am3_1 : R2 1 sm3 = true := by kernel_rfl
end Go.Proofs.YtmgjgdnjkgnbiaaGreatDoor.HM
