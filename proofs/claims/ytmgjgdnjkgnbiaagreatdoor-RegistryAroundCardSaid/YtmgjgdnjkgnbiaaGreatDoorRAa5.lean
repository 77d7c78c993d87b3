/- Cases of fleuronlaw11.RegistryAround. -/
import Derived.Test.YtmgjgdnjkgnbiaaGreatDoorRA0
namespace Go.Proofs.YtmgjgdnjkgnbiaaGreatDoor.HM
open Go Go.RowKit
theorem ap13_8 : R2 8 sp13 = true := by kernel_rfl
theorem am11_8 : R2 8 sm11 = true := by kernel_rfl
theorem ap8_8 : R2 8 sp8 = true := by kernel_rfl
theorem ap13_7 : R2 7 sp13 = true := by kernel_rfl
theorem am11_7 : R2 7 sm11 = true := by kernel_rfl
theorem ap7_8 : R2 8 sp7 = true := by kernel_rfl
theorem ap9_6 : R2 6 sp9 = true := by kernel_rfl
theorem am9_6 : R2 6 sm9 = true := by kernel_rfl
theorem am17_6 : R2 6 sm17 = true := by kernel_rfl
theorem ap7_6 : R2 6 sp7 = true := by kernel_rfl
theorem ap5_7 : R2 7 sp5 = true := by kernel_rfl
theorem ap15_5 : R2 5 sp15 = true := by kernel_rfl
theorem am13_5 : R2 5 sm13 = true := by kernel_rfl
theorem ap3_8 : R2 8 sp3 = true := by kernel_rfl
theorem ap9_4 : R2 4 sp9 = true := by kernel_rfl
theorem ap13_4 : R2 4 sp13 = true := by kernel_rfl
theorem am11_4 : R2 4 sm11 = true := by kernel_rfl
theorem ap6_5 : R2 5 sp6 = true := by kernel_rfl
theorem ap1_8 : R2 8 sp1 = true := by kernel_rfl
theorem ap1_7 : R2 7 sp1 = true := by kernel_rfl
theorem ap2_6 : R2 6 sp2 = true := by kernel_rfl
theorem ap15_3 : R2 3 sp15 = true := by kernel_rfl
theorem am13_3 : R2 3 sm13 = true := by kernel_rfl
theorem am0_8 : R2 8 sm0 = true := by kernel_rfl
theorem am4_4 : R2 4 sm4 = true := by kernel_rfl
theorem ap0_6 : R2 6 sp0 = true := by kernel_rfl
theorem ap5_3 : R2 3 sp5 = true := by kernel_rfl
theorem ap15_2 : R2 2 sp15 = true := by kernel_rfl
theorem am13_2 : R2 2 sm13 = true := by kernel_rfl
theorem ap4_3 : R2 3 sp4 = true := by kernel_rfl
theorem am0_5 : R2 5 sm0 = true := by kernel_rfl
theorem ap5_2 : R2 2 sp5 = true := by kernel_rfl
theorem ap3_2 : R2 2 sp3 = true := by kernel_rfl
theorem ap10_1 : R2 1 sp10 = true := by kernel_rfl
theorem ap18_1 : R2 1 sp18 = true := by kernel_rfl
theorem am16_1 : R2 1 sm16 = true := by kernel_rfl
theorem ap2_2 : R2 2 sp2 = true := by kernel_rfl
theorem ap0_2 : R2 2 sp0 = true := by kernel_rfl
theorem am2_1 : R2 1 sm2 = true := by kernel_rfl
end Go.Proofs.YtmgjgdnjkgnbiaaGreatDoor.HM
