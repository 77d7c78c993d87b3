/- Cases of fleuronlaw11.RegistryExtends: the runs of some sheets. -/
import Derived.Test.YtmgjgdnjkgnbiaaGreatDoorX0
namespace Go.Proofs.YtmgjgdnjkgnbiaaGreatDoor.HM
open Go Go.RowKit
theorem w_14 : told 14 = true := by kernel_rfl
theorem x_14 : XPa 14 = true := by kernel_rfl
theorem y_14 : XPb 14 = true := by kernel_rfl
theorem z_14 : XPc 14 = true := by kernel_rfl
theorem w_34 : told 34 = true := by kernel_rfl
theorem x_34 : XPa 34 = true := by kernel_rfl
theorem y_34 : XPb 34 = true := by kernel_rfl
theorem z_34 : XPc 34 = true := by kernel_rfl
theorem w_54 : told 54 = true := by kernel_rfl
theorem x_54 : XPa 54 = true := by kernel_rfl
theorem y_54 : XPb 54 = true := by kernel_rfl
theorem z_54 : XPc 54 = true := by kernel_rfl
end Go.Proofs.YtmgjgdnjkgnbiaaGreatDoor.HM
