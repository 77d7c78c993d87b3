/- Cases of fleuronlaw11.RegistryOwn: runs. -/
import Derived.Test.YtmgjgdnjkgnbiaaGreatDoorO0
namespace Go.Proofs.YtmgjgdnjkgnbiaaGreatDoor.HM
open Go Go.RowKit
theorem o_0_1 : OwR 0 1 = true := by kernel_rfl
theorem o_2_1 : OwR 2 1 = true := by kernel_rfl
theorem o_4_1 : OwR 4 1 = true := by kernel_rfl
theorem o_6_1 : OwR 6 1 = true := by kernel_rfl
theorem o_8_1 : OwR 8 1 = true := by kernel_rfl
end Go.Proofs.YtmgjgdnjkgnbiaaGreatDoor.HM
