/- Cases of fleuronlaw11.RegistryExtends: the runs of some sheets. -/
import Derived.Test.YtmgjgdnjkgnbiaaGreatDoorX0
namespace Go.Proofs.YtmgjgdnjkgnbiaaGreatDoor.HM
open Go Go.RowKit
theorem w_11 : told 11 = true := by kernel_rfl
theorem x_11 : XPa 11 = true := by kernel_rfl
theorem y_11 : XPb 11 = true := by kernel_rfl
theorem z_11 : XPc 11 = true := by kernel_rfl
theorem w_31 : told 31 = true := by kernel_rfl
theorem x_31 : XPa 31 = true := by kernel_rfl
theorem y_31 : XPb 31 = true := by kernel_rfl
theorem z_31 : XPc 31 = true := by kernel_rfl
theorem w_51 : told 51 = true := by kernel_rfl
theorem x_51 : XPa 51 = true := by kernel_rfl
theorem y_51 : XPb 51 = true := by kernel_rfl
theorem z_51 : XPc 51 = true := by kernel_rfl
end Go.Proofs.YtmgjgdnjkgnbiaaGreatDoor.HM
