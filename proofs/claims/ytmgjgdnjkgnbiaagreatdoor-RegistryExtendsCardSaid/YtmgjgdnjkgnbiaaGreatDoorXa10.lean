/- Cases of fleuronlaw11.RegistryExtends: the runs of some sheets. -/
import Derived.Test.YtmgjgdnjkgnbiaaGreatDoorX0
namespace Go.Proofs.YtmgjgdnjkgnbiaaGreatDoor.HM
open Go Go.RowKit
theorem w_9 : told 9 = true := by kernel_rfl
theorem x_9 : XPa 9 = true := by kernel_rfl
theorem y_9 : XPb 9 = true := by kernel_rfl
theorem z_9 : XPc 9 = true := by kernel_rfl
theorem w_29 : told 29 = true := by kernel_rfl
theorem x_29 : XPa 29 = true := by kernel_rfl
theorem y_29 : XPb 29 = true := by kernel_rfl
theorem z_29 : XPc 29 = true := by kernel_rfl
theorem w_49 : told 49 = true := by kernel_rfl
theorem x_49 : XPa 49 = true := by kernel_rfl
theorem y_49 : XPb 49 = true := by kernel_rfl
theorem z_49 : XPc 49 = true := by kernel_rfl
end Go.Proofs.YtmgjgdnjkgnbiaaGreatDoor.HM
