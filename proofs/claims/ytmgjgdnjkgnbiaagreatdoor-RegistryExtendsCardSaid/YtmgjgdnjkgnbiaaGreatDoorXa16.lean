/- Cases of fleuronlaw11.RegistryExtends: the runs of some sheets. -/
import Derived.Test.YtmgjgdnjkgnbiaaGreatDoorX0
namespace Go.Proofs.YtmgjgdnjkgnbiaaGreatDoor.HM
open Go Go.RowKit
theorem w_15 : told 15 = true := by kernel_rfl
theorem x_15 : XPa 15 = true := by kernel_rfl
theorem y_15 : XPb 15 = true := by kernel_rfl
theorem z_15 : XPc 15 = true := by kernel_rfl
theorem w_35 : told 35 = true := by kernel_rfl
theorem x_35 : XPa 35 = true := by kernel_rfl
theorem y_35 : XPb 35 = true := by kernel_rfl
theorem z_35 : XPc 35 = true := by kernel_rfl
theorem w_55 : told 55 = true := by kernel_rfl
theorem x_55 : XPa 55 = true := by kernel_rfl
theorem y_55 : XPb 55 = true := by kernel_rfl
theorem z_55 : XPc 55 = true := by kernel_rfl
end Go.Proofs.YtmgjgdnjkgnbiaaGreatDoor.HM
