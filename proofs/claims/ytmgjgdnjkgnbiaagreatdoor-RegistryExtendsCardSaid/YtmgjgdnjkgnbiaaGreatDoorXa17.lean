/- Cases of fleuronlaw11.RegistryExtends: the runs of some sheets. -/
import Derived.Test.YtmgjgdnjkgnbiaaGreatDoorX0
namespace Go.Proofs.YtmgjgdnjkgnbiaaGreatDoor.HM
open Go Go.RowKit
theorem w_16 : told 16 = true := by kernel_rfl
theorem x_16 : XPa 16 = true := by kernel_rfl
theorem y_16 : XPb 16 = true := by kernel_rfl
theorem z_16 : XPc 16 = true := by kernel_rfl
theorem w_36 : told 36 = true := by kernel_rfl
theorem x_36 : XPa 36 = true := by kernel_rfl
theorem y_36 : XPb 36 = true := by kernel_rfl
theorem z_36 : XPc 36 = true := by kernel_rfl
theorem w_56 : told 56 = true := by kernel_rfl
theorem x_56 : XPa 56 = true := by kernel_rfl
theorem y_56 : XPb 56 = true := by kernel_rfl
theorem z_56 : XPc 56 = true := by kernel_rfl
end Go.Proofs.YtmgjgdnjkgnbiaaGreatDoor.HM
