/- Cases of fleuronlaw11.RegistryOwn: runs. -/
import Derived.Test.YtmgjgdnjkgnbiaaGreatDoorO0
namespace Go.Proofs.YtmgjgdnjkgnbiaaGreatDoor.HM
open Go Go.RowKit
theorem o_0_5 : OwR 0 5 = true := by kernel_rfl
theorem o_2_5 : OwR 2 5 = true := by kernel_rfl
theorem o_4_5 : OwR 4 5 = true := by kernel_rfl
theorem o_6_5 : OwR 6 5 = true := by kernel_rfl
theorem o_8_5 : OwR 8 5 = true := by kernel_rfl
end Go.Proofs.YtmgjgdnjkgnbiaaGreatDoor.HM
