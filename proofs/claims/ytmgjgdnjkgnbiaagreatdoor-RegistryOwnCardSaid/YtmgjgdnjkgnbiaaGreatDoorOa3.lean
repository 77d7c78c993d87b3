/- Cases of fleuronlaw11.RegistryOwn: runs. -/
import Derived.Test.YtmgjgdnjkgnbiaaGreatDoorO0
namespace Go.Proofs.YtmgjgdnjkgnbiaaGreatDoor.HM
open Go Go.RowKit
theorem o_0_2 : OwR 0 2 = true := by kernel_rfl
theorem o_2_2 : OwR 2 2 = true := by kernel_rfl
theorem o_4_2 : OwR 4 2 = true := by kernel_rfl
theorem o_6_2 : OwR 6 2 = true := by kernel_rfl
theorem o_8_2 : OwR 8 2 = true := by kernel_rfl
end Go.Proofs.YtmgjgdnjkgnbiaaGreatDoor.HM
