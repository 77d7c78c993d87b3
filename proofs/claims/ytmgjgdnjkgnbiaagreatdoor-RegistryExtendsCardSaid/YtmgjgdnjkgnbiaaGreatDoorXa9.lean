/- Cases of fleuronlaw11.RegistryExtends: the runs of some sheets. -/
import Derived.Test.YtmgjgdnjkgnbiaaGreatDoorX0
namespace Go.Proofs.YtmgjgdnjkgnbiaaGreatDoor.HM
open Go Go.RowKit
theorem w_8 : told 8 = true := by kernel_rfl
theorem x_8 : XPa 8 = true := by kernel_rfl
theorem y_8 : XPb 8 = true := by kernel_rfl
theorem z_8 : XPc 8 = true := by kernel_rfl
theorem w_28 : told 28 = true := by kernel_rfl
theorem x_28 : XPa 28 = true := by kernel_rfl
theorem y_28 : XPb 28 = true := by kernel_rfl
theorem z_28 : XPc 28 = true := by kernel_rfl
theorem w_48 : told 48 = true := by kernel_rfl
theorem x_48 : XPa 48 = true := by kernel_rfl
theorem y_48 : XPb 48 = true := by kernel_rfl
theorem z_48 : XPc 48 = true := by kernel_rfl
end Go.Proofs.YtmgjgdnjkgnbiaaGreatDoor.HM
