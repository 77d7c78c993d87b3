/- Cases of fleuronlaw11.RegistryAround. -/
import Derived.Test.YtmgjgdnjkgnbiaaGreatDoorRA0
namespace Go.Proofs.YtmgjgdnjkgnbiaaGreatDoor.HM
open Go Go.RowKit
theorem ap10_8 : R2 8 sp10 = true := by kernel_rfl
theorem ap18_8 : R2 8 sp18 = true := by kernel_rfl
theorem am16_8 : R2 8 sm16 = true := by kernel_rfl
theorem ap16_7 : R2 7 sp16 = true := by kernel_rfl
theorem am14_7 : R2 7 sm14 = true := by kernel_rfl
theorem am8_7 : R2 7 sm8 = true := by kernel_rfl
theorem ap14_6 : R2 6 sp14 = true := by kernel_rfl
theorem am12_6 : R2 6 sm12 = true := by kernel_rfl
theorem am5_8 : R2 8 sm5 = true := by kernel_rfl
theorem am6_7 : R2 7 sm6 = true := by kernel_rfl
theorem ap14_5 : R2 5 sp14 = true := by kernel_rfl
theorem am12_5 : R2 5 sm12 = true := by kernel_rfl
theorem am6_6 : R2 6 sm6 = true := by kernel_rfl
theorem am8_5 : R2 5 sm8 = true := by kernel_rfl
theorem am3_7 : R2 7 sm3 = true := by kernel_rfl
theorem ap18_4 : R2 4 sp18 = true := by kernel_rfl
theorem am16_4 : R2 4 sm16 = true := by kernel_rfl
theorem am8_4 : R2 4 sm8 = true := by kernel_rfl
theorem am2_7 : R2 7 sm2 = true := by kernel_rfl
theorem am7_4 : R2 4 sm7 = true := by kernel_rfl
theorem ap14_3 : R2 3 sp14 = true := by kernel_rfl
theorem am12_3 : R2 3 sm12 = true := by kernel_rfl
theorem ap0_8 : R2 8 sp0 = true := by kernel_rfl
theorem ap1_6 : R2 6 sp1 = true := by kernel_rfl
theorem am1_6 : R2 6 sm1 = true := by kernel_rfl
theorem ap2_5 : R2 5 sp2 = true := by kernel_rfl
theorem ap10_2 : R2 2 sp10 = true := by kernel_rfl
theorem ap18_2 : R2 2 sp18 = true := by kernel_rfl
theorem am16_2 : R2 2 sm16 = true := by kernel_rfl
theorem am8_2 : R2 2 sm8 = true := by kernel_rfl
theorem ap1_4 : R2 4 sp1 = true := by kernel_rfl
theorem am6_2 : R2 2 sm6 = true := by kernel_rfl
theorem ap9_1 : R2 1 sp9 = true := by kernel_rfl
theorem ap11_1 : R2 1 sp11 = true := by kernel_rfl
theorem am9_1 : R2 1 sm9 = true := by kernel_rfl
theorem am17_1 : R2 1 sm17 = true := by kernel_rfl
theorem ap7_1 : R2 1 sp7 = true := by kernel_rfl
theorem am0_2 : R2 2 sm0 = true := by kernel_rfl
theorem am0_1 : R2 1 sm0 = true := by kernel_rfl
end Go.Proofs.YtmgjgdnjkgnbiaaGreatDoor.HM
