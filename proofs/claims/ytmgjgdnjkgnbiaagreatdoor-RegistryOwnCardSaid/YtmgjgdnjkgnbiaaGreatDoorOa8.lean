/- Cases of fleuronlaw11.RegistryOwn: runs. -/
import Derived.Test.YtmgjgdnjkgnbiaaGreatDoorO0
namespace Go.Proofs.YtmgjgdnjkgnbiaaGreatDoor.HM
open Go Go.RowKit
theorem o_1_0 : OwR 1 0 = true := by kernel_rfl
theorem o_3_0 : OwR 3 0 = true := by kernel_rfl
theorem o_5_0 : OwR 5 0 = true := by kernel_rfl
theorem o_7_0 : OwR 7 0 = true := by kernel_rfl
theorem o_9_0 : OwR 9 0 = true := by kernel_rfl
end Go.Proofs.YtmgjgdnjkgnbiaaGreatDoor.HM
