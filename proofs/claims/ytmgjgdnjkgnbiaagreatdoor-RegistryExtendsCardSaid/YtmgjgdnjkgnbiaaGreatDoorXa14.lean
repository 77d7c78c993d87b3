/- Cases of fleuronlaw11.RegistryExtends: the runs of some sheets. -/
import Derived.Test.YtmgjgdnjkgnbiaaGreatDoorX0
namespace Go.Proofs.YtmgjgdnjkgnbiaaGreatDoor.HM
open Go Go.RowKit
theorem w_13 : told 13 = true := by kernel_rfl
theorem x_13 : XPa 13 = true := by kernel_rfl
theorem y_13 : XPb 13 = true := by kernel_rfl
theorem z_13 : XPc 13 = true := by kernel_rfl
theorem w_33 : told 33 = true := by kernel_rfl
theorem x_33 : XPa 33 = true := by kernel_rfl
theorem y_33 : XPb 33 = true := by kernel_rfl
theorem z_33 : XPc 33 = true := by kernel_rfl
theorem w_53 : told 53 = true := by kernel_rfl
theorem x_53 : XPa 53 = true := by kernel_rfl
theorem y_53 : XPb 53 = true := by kernel_rfl
theorem z_53 : XPc 53 = true := by kernel_rfl
end Go.Proofs.YtmgjgdnjkgnbiaaGreatDoor.HM
