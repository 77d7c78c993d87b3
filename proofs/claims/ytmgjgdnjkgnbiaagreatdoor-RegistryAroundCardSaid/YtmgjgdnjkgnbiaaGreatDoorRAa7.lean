/- Cases of fleuronlaw11.RegistryAround. -/
import Derived.Test.YtmgjgdnjkgnbiaaGreatDoorRA0
namespace Go.Proofs.YtmgjgdnjkgnbiaaGreatDoor.HM
open Go Go.RowKit
theorem ap15_8 : R2 8 sp15 = true := by kernel_rfl
theorem am13_8 : R2 8 sm13 = true := by kernel_rfl
theorem ap9_7 : R2 7 sp9 = true := by kernel_rfl
theorem ap11_7 : R2 7 sp11 = true := by kernel_rfl
theorem am9_7 : R2 7 sm9 = true := by kernel_rfl
theorem am17_7 : R2 7 sm17 = true := by kernel_rfl
theorem ap7_7 : R2 7 sp7 = true := by kernel_rfl
theorem ap15_6 : R2 6 sp15 = true := by kernel_rfl
theorem am13_6 : R2 6 sm13 = true := by kernel_rfl
theorem ap8_6 : R2 6 sp8 = true := by kernel_rfl
theorem ap11_5 : R2 5 sp11 = true := by kernel_rfl
theorem am9_5 : R2 5 sm9 = true := by kernel_rfl
theorem am17_5 : R2 5 sm17 = true := by kernel_rfl
theorem ap5_6 : R2 6 sp5 = true := by kernel_rfl
theorem ap7_5 : R2 5 sp7 = true := by kernel_rfl
theorem ap11_4 : R2 4 sp11 = true := by kernel_rfl
theorem am9_4 : R2 4 sm9 = true := by kernel_rfl
theorem am17_4 : R2 4 sm17 = true := by kernel_rfl
theorem ap3_6 : R2 6 sp3 = true := by kernel_rfl
theorem ap4_5 : R2 5 sp4 = true := by kernel_rfl
theorem ap11_3 : R2 3 sp11 = true := by kernel_rfl
theorem am9_3 : R2 3 sm9 = true := by kernel_rfl
theorem am17_3 : R2 3 sm17 = true := by kernel_rfl
theorem am5_4 : R2 4 sm5 = true := by kernel_rfl
theorem am7_3 : R2 3 sm7 = true := by kernel_rfl
theorem ap3_4 : R2 4 sp3 = true := by kernel_rfl
theorem ap1_5 : R2 5 sp1 = true := by kernel_rfl
theorem ap13_2 : R2 2 sp13 = true := by kernel_rfl
theorem am11_2 : R2 2 sm11 = true := by kernel_rfl
theorem ap2_4 : R2 4 sp2 = true := by kernel_rfl
theorem am1_4 : R2 4 sm1 = true := by kernel_rfl
theorem ap0_4 : R2 4 sp0 = true := by kernel_rfl
theorem ap4_2 : R2 2 sp4 = true := by kernel_rfl
theorem ap13_1 : R2 1 sp13 = true := by kernel_rfl
theorem am11_1 : R2 1 sm11 = true := by kernel_rfl
theorem az_3 : R2 3 sz = true := by kernel_rfl
theorem ap6_1 : R2 1 sp6 = true := by kernel_rfl
theorem am5_1 : R2 1 sm5 = true := by kernel_rfl
theorem az_1 : R2 1 sz = true := by kernel_rfl
end Go.Proofs.YtmgjgdnjkgnbiaaGreatDoor.HM
