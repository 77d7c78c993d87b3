/- Cases of fleuronlaw11.RegistryExtends: the runs of some sheets. -/
import Derived.Test.YtmgjgdnjkgnbiaaGreatDoorX0
namespace Go.Proofs.YtmgjgdnjkgnbiaaGreatDoor.HM
open Go Go.RowKit
theorem w_6 : told 6 = true := by kernel_rfl
theorem x_6 : XPa 6 = true := by kernel_rfl
theorem y_6 : XPb 6 = true := by kernel_rfl
theorem z_6 : XPc 6 = true := by kernel_rfl
theorem w_26 : told 26 = true := by kernel_rfl
theorem x_26 : XPa 26 = true := by kernel_rfl
theorem y_26 : XPb 26 = true := by kernel_rfl
theorem z_26 : XPc 26 = true := by kernel_rfl
theorem w_46 : told 46 = true := by kernel_rfl
theorem x_46 : XPa 46 = true := by kernel_rfl
theorem y_46 : XPb 46 = true := by kernel_rfl
theorem z_46 : XPc 46 = true := by kernel_rfl
end Go.Proofs.YtmgjgdnjkgnbiaaGreatDoor.HM
