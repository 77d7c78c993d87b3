/- Cases of fleuronlaw11.RegistryExtends: the runs of some sheets. -/
import Derived.Test.YtmgjgdnjkgnbiaaGreatDoorX0
namespace Go.Proofs.YtmgjgdnjkgnbiaaGreatDoor.HM
open Go Go.RowKit
theorem w_17 : told 17 = true := by kernel_rfl
theorem x_17 : XPa 17 = true := by kernel_rfl
theorem y_17 : XPb 17 = true := by kernel_rfl
theorem z_17 : XPc 17 = true := by kernel_rfl
theorem w_37 : told 37 = true := by kernel_rfl
theorem x_37 : XPa 37 = true := by kernel_rfl
theorem y_37 : XPb 37 = true := by kernel_rfl
theorem z_37 : XPc 37 = true := by kernel_rfl
theorem w_57 : told 57 = true := by kernel_rfl
theorem x_57 : XPa 57 = true := by kernel_rfl
theorem y_57 : XPb 57 = true := by kernel_rfl
theorem z_57 : XPc 57 = true := by kernel_rfl
end Go.Proofs.YtmgjgdnjkgnbiaaGreatDoor.HM
