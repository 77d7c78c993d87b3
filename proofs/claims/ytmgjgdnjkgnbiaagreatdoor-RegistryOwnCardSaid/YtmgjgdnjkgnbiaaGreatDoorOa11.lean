/- Cases of fleuronlaw11.RegistryOwn: runs. -/
import Derived.Test.YtmgjgdnjkgnbiaaGreatDoorO0
namespace Go.Proofs.YtmgjgdnjkgnbiaaGreatDoor.HM
open Go Go.RowKit
theorem o_1_3 : OwR 1 3 = true := by kernel_rfl
theorem o_3_3 : OwR 3 3 = true := by kernel_rfl
theorem o_5_3 : OwR 5 3 = true := by kernel_rfl
theorem o_7_3 : OwR 7 3 = true := by kernel_rfl
theorem o_9_3 : OwR 9 3 = true := by kernel_rfl
end Go.Proofs.YtmgjgdnjkgnbiaaGreatDoor.HM
