/- Cases of fleuronlaw11.RegistryOwn: runs. -/
import Derived.Test.YtmgjgdnjkgnbiaaGreatDoorO0
namespace Go.Proofs.YtmgjgdnjkgnbiaaGreatDoor.HM
open Go Go.RowKit
theorem o_0_4 : OwR 0 4 = true := by kernel_rfl
theorem o_2_4 : OwR 2 4 = true := by kernel_rfl
theorem o_4_4 : OwR 4 4 = true := by kernel_rfl
theorem o_6_4 : OwR 6 4 = true := by kernel_rfl
theorem o_8_4 : OwR 8 4 = true := by kernel_rfl
end Go.Proofs.YtmgjgdnjkgnbiaaGreatDoor.HM
