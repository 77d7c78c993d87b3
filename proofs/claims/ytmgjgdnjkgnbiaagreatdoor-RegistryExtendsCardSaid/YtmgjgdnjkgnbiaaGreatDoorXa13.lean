/- Cases of fleuronlaw11.RegistryExtends: the runs of some sheets. -/
import Derived.Test.YtmgjgdnjkgnbiaaGreatDoorX0
namespace Go.Proofs.YtmgjgdnjkgnbiaaGreatDoor.HM
open Go Go.RowKit
theorem w_12 : told 12 = true := by kernel_rfl
theorem x_12 : XPa 12 = true := by kernel_rfl
theorem y_12 : XPb 12 = true := by kernel_rfl
theorem z_12 : XPc 12 = true := by kernel_rfl
theorem w_32 : told 32 = true := by kernel_rfl
theorem x_32 : XPa 32 = true := by kernel_rfl
theorem y_32 : XPb 32 = true := by kernel_rfl
theorem z_32 : XPc 32 = true := by kernel_rfl
theorem w_52 : told 52 = true := by kernel_rfl
theorem x_52 : XPa 52 = true := by kernel_rfl
theorem y_52 : XPb 52 = true := by kernel_rfl
theorem z_52 : XPc 52 = true := by kernel_rfl
end Go.Proofs.YtmgjgdnjkgnbiaaGreatDoor.HM
