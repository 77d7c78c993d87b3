/- Cases of fleuronlaw11.RegistryOwn: runs. -/
import Derived.Test.YtmgjgdnjkgnbiaaGreatDoorO0
namespace Go.Proofs.YtmgjgdnjkgnbiaaGreatDoor.HM
open Go Go.RowKit
theorem o_1_6 : OwR 1 6 = true := by kernel_rfl
theorem o_3_6 : OwR 3 6 = true := by kernel_rfl
theorem o_5_6 : OwR 5 6 = true := by kernel_rfl
theorem o_7_6 : OwR 7 6 = true := by kernel_rfl
theorem o_9_6 : OwR 9 6 = true := by kernel_rfl
end Go.Proofs.YtmgjgdnjkgnbiaaGreatDoor.HM
