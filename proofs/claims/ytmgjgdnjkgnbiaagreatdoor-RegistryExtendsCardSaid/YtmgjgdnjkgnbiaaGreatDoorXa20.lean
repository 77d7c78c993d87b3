/- Cases of fleuronlaw11.RegistryExtends: the runs of some sheets. -/
import Derived.Test.YtmgjgdnjkgnbiaaGreatDoorX0
namespace Go.Proofs.YtmgjgdnjkgnbiaaGreatDoor.HM
open Go Go.RowKit
theorem w_19 : told 19 = true := by kernel_rfl
theorem x_19 : XPa 19 = true := by kernel_rfl
theorem y_19 : XPb 19 = true := by kernel_rfl
theorem z_19 : XPc 19 = true := by kernel_rfl
theorem w_39 : told 39 = true := by kernel_rfl
theorem x_39 : XPa 39 = true := by kernel_rfl
theorem y_39 : XPb 39 = true := by kernel_rfl
theorem z_39 : XPc 39 = true := by kernel_rfl
theorem w_59 : told 59 = true := by kernel_rfl
theorem x_59 : XPa 59 = true := by kernel_rfl
theorem y_59 : XPb 59 = true := by kernel_rfl
theorem z_59 : XPc 59 = true := by kernel_rfl
end Go.Proofs.YtmgjgdnjkgnbiaaGreatDoor.HM
