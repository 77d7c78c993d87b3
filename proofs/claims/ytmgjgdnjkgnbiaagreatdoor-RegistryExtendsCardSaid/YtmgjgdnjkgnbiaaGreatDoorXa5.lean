/- Cases of fleuronlaw11.RegistryExtends: the runs of some sheets. -/
import Derived.Test.YtmgjgdnjkgnbiaaGreatDoorX0
namespace Go.Proofs.YtmgjgdnjkgnbiaaGreatDoor.HM
open Go Go.RowKit
theorem w_4 : told 4 = true := by kernel_rfl
theorem x_4 : XPa 4 = true := by kernel_rfl
theorem y_4 : XPb 4 = true := by kernel_rfl
theorem z_4 : XPc 4 = true := by kernel_rfl
theorem w_24 : told 24 = true := by kernel_rfl
theorem x_24 : XPa 24 = true := by kernel_rfl
theorem y_24 : XPb 24 = true := by kernel_rfl
theorem z_24 : XPc 24 = true := by kernel_rfl
theorem w_44 : told 44 = true := by kernel_rfl
theorem x_44 : XPa 44 = true := by kernel_rfl
theorem y_44 : XPb 44 = true := by kernel_rfl
theorem z_44 : XPc 44 = true := by kernel_rfl
end Go.Proofs.YtmgjgdnjkgnbiaaGreatDoor.HM
