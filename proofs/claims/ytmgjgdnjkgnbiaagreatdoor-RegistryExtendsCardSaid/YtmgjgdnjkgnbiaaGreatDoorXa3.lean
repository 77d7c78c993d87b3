/- Cases of fleuronlaw11.RegistryExtends: the runs of some sheets. -/
import Derived.Test.YtmgjgdnjkgnbiaaGreatDoorX0
namespace Go.Proofs.YtmgjgdnjkgnbiaaGreatDoor.HM
open Go Go.RowKit
theorem w_2 : told 2 = true := by kernel_rfl
theorem x_2 : XPa 2 = true := by kernel_rfl
theorem y_2 : XPb 2 = true := by kernel_rfl
theorem z_2 : XPc 2 = true := by kernel_rfl
theorem w_22 : told 22 = true := by kernel_rfl
theorem x_22 : XPa 22 = true := by kernel_rfl
theorem y_22 : XPb 22 = true := by kernel_rfl
theorem z_22 : XPc 22 = true := by kernel_rfl
theorem w_42 : told 42 = true := by kernel_rfl
theorem x_42 : XPa 42 = true := by kernel_rfl
theorem y_42 : XPb 42 = true := by kernel_rfl
theorem z_42 : XPc 42 = true := by kernel_rfl
theorem w_62 : told 62 = true := by kernel_rfl
theorem x_62 : XPa 62 = true := by kernel_rfl
theorem y_62 : XPb 62 = true := by kernel_rfl
theorem z_62 : XPc 62 = true := by kernel_rfl
end Go.Proofs.YtmgjgdnjkgnbiaaGreatDoor.HM
