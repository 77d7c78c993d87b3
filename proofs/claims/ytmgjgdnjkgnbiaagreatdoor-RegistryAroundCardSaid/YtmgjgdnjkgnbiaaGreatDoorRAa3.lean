/- Cases of fleuronlaw11.RegistryAround. -/
import Derived.Test.YtmgjgdnjkgnbiaaGreatDoorRA0
namespace Go.Proofs.YtmgjgdnjkgnbiaaGreatDoor.HM
open Go Go.RowKit
theorem ap11_8 : R2 8 sp11 = true := by kernel_rfl
theorem am9_8 : R2 8 sm9 = true := by kernel_rfl
theorem am17_8 : R2 8 sm17 = true := by kernel_rfl
theorem ap17_7 : R2 7 sp17 = true := by kernel_rfl
theorem am15_7 : R2 7 sm15 = true := by kernel_rfl
theorem ap6_8 : R2 8 sp6 = true := by kernel_rfl
theorem ap11_6 : R2 6 sp11 = true := by kernel_rfl
theorem ap17_6 : R2 6 sp17 = true := by kernel_rfl
theorem am15_6 : R2 6 sm15 = true := by kernel_rfl
theorem ap4_8 : R2 8 sp4 = true := by kernel_rfl
theorem ap9_5 : R2 5 sp9 = true := by kernel_rfl
theorem ap17_5 : R2 5 sp17 = true := by kernel_rfl
theorem am15_5 : R2 5 sm15 = true := by kernel_rfl
theorem ap4_7 : R2 7 sp4 = true := by kernel_rfl
theorem ap2_8 : R2 8 sp2 = true := by kernel_rfl
theorem ap15_4 : R2 4 sp15 = true := by kernel_rfl
theorem am13_4 : R2 4 sm13 = true := by kernel_rfl
theorem ap4_6 : R2 6 sp4 = true := by kernel_rfl
theorem ap5_5 : R2 5 sp5 = true := by kernel_rfl
theorem ap6_4 : R2 4 sp6 = true := by kernel_rfl
theorem ap9_3 : R2 3 sp9 = true := by kernel_rfl
theorem ap17_3 : R2 3 sp17 = true := by kernel_rfl
theorem am15_3 : R2 3 sm15 = true := by kernel_rfl
theorem am3_5 : R2 5 sm3 = true := by kernel_rfl
theorem ap7_3 : R2 3 sp7 = true := by kernel_rfl
theorem am2_5 : R2 5 sm2 = true := by kernel_rfl
theorem ap11_2 : R2 2 sp11 = true := by kernel_rfl
theorem am9_2 : R2 2 sm9 = true := by kernel_rfl
theorem am17_2 : R2 2 sm17 = true := by kernel_rfl
theorem az_5 : R2 5 sz = true := by kernel_rfl
theorem ap0_5 : R2 5 sp0 = true := by kernel_rfl
theorem am0_4 : R2 4 sm0 = true := by kernel_rfl
theorem ap1_3 : R2 3 sp1 = true := by kernel_rfl
theorem ap14_1 : R2 1 sp14 = true := by kernel_rfl
theorem am12_1 : R2 1 sm12 = true := by kernel_rfl
theorem ap0_3 : R2 3 sp0 = true := by kernel_rfl
theorem am6_1 : R2 1 sm6 = true := by kernel_rfl
theorem az_2 : R2 2 sz = true := by kernel_rfl
theorem ap2_1 : R2 1 sp2 = true := by kernel_rfl
end Go.Proofs.YtmgjgdnjkgnbiaaGreatDoor.HM
