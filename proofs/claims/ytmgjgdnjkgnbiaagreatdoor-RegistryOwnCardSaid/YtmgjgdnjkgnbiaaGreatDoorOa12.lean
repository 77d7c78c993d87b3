/- Cases of fleuronlaw11.RegistryOwn: runs. -/
import Derived.Test.YtmgjgdnjkgnbiaaGreatDoorO0
namespace Go.Proofs.YtmgjgdnjkgnbiaaGreatDoor.HM
open Go Go.RowKit
theorem o_1_4 : OwR 1 4 = true := by kernel_rfl
theorem o_3_4 : OwR 3 4 = true := by kernel_rfl
theorem o_5_4 : OwR 5 4 = true := by kernel_rfl
theorem o_7_4 : OwR 7 4 = true := by kernel_rfl
theorem o_9_4 : OwR 9 4 = true := by kernel_rfl
end Go.Proofs.YtmgjgdnjkgnbiaaGreatDoor.HM
