/- Cases of fleuronlaw11.RegistryOwn: runs. -/
import Derived.Test.YtmgjgdnjkgnbiaaGreatDoorO0
namespace Go.Proofs.YtmgjgdnjkgnbiaaGreatDoor.HM
open Go Go.RowKit
theorem o_1_5 : OwR 1 5 = true := by kernel_rfl
theorem o_3_5 : OwR 3 5 = true := by kernel_rfl
theorem o_5_5 : OwR 5 5 = true := by kernel_rfl
theorem o_7_5 : OwR 7 5 = true := by kernel_rfl
theorem o_9_5 : OwR 9 5 = true := by kernel_rfl
end Go.Proofs.YtmgjgdnjkgnbiaaGreatDoor.HM
