/- Cases of fleuronlaw11.RegistryOwn: runs. -/
import Derived.Test.YtmgjgdnjkgnbiaaGreatDoorO0
namespace Go.Proofs.YtmgjgdnjkgnbiaaGreatDoor.HM
open Go Go.RowKit
theorem o_0_0 : OwR 0 0 = true := by kernel_rfl
theorem o_2_0 : OwR 2 0 = true := by kernel_rfl
theorem o_4_0 : OwR 4 0 = true := by kernel_rfl
theorem o_6_0 : OwR 6 0 = true := by kernel_rfl
theorem o_8_0 : OwR 8 0 = true := by kernel_rfl
end Go.Proofs.YtmgjgdnjkgnbiaaGreatDoor.HM
