/- Cases of fleuronlaw11.RegistryOwn: runs. -/
import Derived.Test.YtmgjgdnjkgnbiaaGreatDoorO0
namespace Go.Proofs.YtmgjgdnjkgnbiaaGreatDoor.HM
open Go Go.RowKit
theorem o_1_1 : OwR 1 1 = true := by kernel_rfl
theorem o_3_1 : OwR 3 1 = true := by kernel_rfl
theorem o_5_1 : OwR 5 1 = true := by kernel_rfl
theorem o_7_1 : OwR 7 1 = true := by kernel_rfl
theorem o_9_1 : OwR 9 1 = true := by kernel_rfl
end Go.Proofs.YtmgjgdnjkgnbiaaGreatDoor.HM
