/- Cases of fleuronlaw11.RegistryOwn: runs. -/
import Derived.Test.YtmgjgdnjkgnbiaaGreatDoorO0
namespace Go.Proofs.YtmgjgdnjkgnbiaaGreatDoor.HM
open Go Go.RowKit
theorem o_1_2 : OwR 1 2 = true := by kernel_rfl
theorem o_3_2 : OwR 3 2 = true := by kernel_rfl
theorem o_5_2 : OwR 5 2 = true := by kernel_rfl
theorem o_7_2 : OwR 7 2 = true := by kernel_rfl
theorem o_9_2 : OwR 9 2 = true := by kernel_rfl
end Go.Proofs.YtmgjgdnjkgnbiaaGreatDoor.HM
