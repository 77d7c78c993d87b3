/- Cases of fleuronlaw11.RegistryAround. -/
import Derived.Test.YtmgjgdnjkgnbiaaGreatDoorRA0
namespace Go.Proofs.YtmgjgdnjkgnbiaaGreatDoor.HM
open Go Go.RowKit
theorem ap9_8 : R2 8 sp9 = true := by kernel_rfl
theorem ap17_8 : R2 8 sp17 = true := by kernel_rfl
theorem am15_8 : R2 8 sm15 = true := by kernel_rfl
theorem ap15_7 : R2 7 sp15 = true := by kernel_rfl
theorem am13_7 : R2 7 sm13 = true := by kernel_rfl
theorem ap8_7 : R2 7 sp8 = true := by kernel_rfl
theorem ap13_6 : R2 6 sp13 = true := by kernel_rfl
theorem am11_6 : R2 6 sm11 = true := by kernel_rfl
theorem ap5_8 : R2 8 sp5 = true := by kernel_rfl
theorem ap6_7 : R2 7 sp6 = true := by kernel_rfl
theorem ap13_5 : R2 5 sp13 = true := by kernel_rfl
theorem am11_5 : R2 5 sm11 = true := by kernel_rfl
theorem ap6_6 : R2 6 sp6 = true := by kernel_rfl
theorem ap8_5 : R2 5 sp8 = true := by kernel_rfl
theorem ap3_7 : R2 7 sp3 = true := by kernel_rfl
theorem ap17_4 : R2 4 sp17 = true := by kernel_rfl
theorem am15_4 : R2 4 sm15 = true := by kernel_rfl
theorem ap8_4 : R2 4 sp8 = true := by kernel_rfl
theorem ap2_7 : R2 7 sp2 = true := by kernel_rfl
theorem ap7_4 : R2 4 sp7 = true := by kernel_rfl
theorem ap13_3 : R2 3 sp13 = true := by kernel_rfl
theorem am11_3 : R2 3 sm11 = true := by kernel_rfl
theorem az_8 : R2 8 sz = true := by kernel_rfl
theorem am8_3 : R2 3 sm8 = true := by kernel_rfl
theorem ap4_4 : R2 4 sp4 = true := by kernel_rfl
theorem az_6 : R2 6 sz = true := by kernel_rfl
theorem am0_6 : R2 6 sm0 = true := by kernel_rfl
theorem ap16_2 : R2 2 sp16 = true := by kernel_rfl
theorem am14_2 : R2 2 sm14 = true := by kernel_rfl
theorem am4_3 : R2 3 sm4 = true := by kernel_rfl
theorem am7_2 : R2 2 sm7 = true := by kernel_rfl
theorem ap2_3 : R2 3 sp2 = true := by kernel_rfl
theorem am4_2 : R2 2 sm4 = true := by kernel_rfl
theorem ap15_1 : R2 1 sp15 = true := by kernel_rfl
theorem am13_1 : R2 1 sm13 = true := by kernel_rfl
theorem am0_3 : R2 3 sm0 = true := by kernel_rfl
theorem ap1_2 : R2 2 sp1 = true := by kernel_rfl
theorem ap5_1 : R2 1 sp5 = true := by kernel_rfl
theorem ap1_1 : R2 1 sp1 = true := by kernel_rfl
end Go.Proofs.YtmgjgdnjkgnbiaaGreatDoor.HM
