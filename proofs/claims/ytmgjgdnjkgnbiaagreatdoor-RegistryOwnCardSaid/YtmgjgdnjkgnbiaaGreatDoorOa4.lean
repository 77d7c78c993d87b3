/- Cases of fleuronlaw11.RegistryOwn: runs. -/
import Derived.Test.YtmgjgdnjkgnbiaaGreatDoorO0
namespace Go.Proofs.YtmgjgdnjkgnbiaaGreatDoor.HM
open Go Go.RowKit
theorem o_0_3 : OwR 0 3 = true := by kernel_rfl
theorem o_2_3 : OwR 2 3 = true := by kernel_rfl
theorem o_4_3 : OwR 4 3 = true := by kernel_rfl
theorem o_6_3 : OwR 6 3 = true := by kernel_rfl
theorem o_8_3 : OwR 8 3 = true := by kernel_rfl
end Go.Proofs.YtmgjgdnjkgnbiaaGreatDoor.HM
