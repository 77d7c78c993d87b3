/- Cases of fleuronlaw11.RegistryOwn: runs. -/
import Derived.Test.YtmgjgdnjkgnbiaaGreatDoorO0
namespace Go.Proofs.YtmgjgdnjkgnbiaaGreatDoor.HM
open Go Go.RowKit
theorem o_0_6 : OwR 0 6 = true := by kernel_rfl
theorem o_2_6 : OwR 2 6 = true := by kernel_rfl
theorem o_4_6 : OwR 4 6 = true := by kernel_rfl
theorem o_6_6 : OwR 6 6 = true := by kernel_rfl
theorem o_8_6 : OwR 8 6 = true := by kernel_rfl
end Go.Proofs.YtmgjgdnjkgnbiaaGreatDoor.HM
