/- Cases of fleuronlaw11.RegistryExtends: the runs of some sheets. -/
import Derived.Test.YtmgjgdnjkgnbiaaGreatDoorX0
namespace Go.Proofs.YtmgjgdnjkgnbiaaGreatDoor.HM
open Go Go.RowKit
theorem w_1 : told 1 = true := by kernel_rfl
theorem x_1 : XPa 1 = true := by kernel_rfl
theorem y_1 : XPb 1 = true := by kernel_rfl
theorem z_1 : XPc 1 = true := by kernel_rfl
theorem w_21 : told 21 = true := by kernel_rfl
theorem x_21 : XPa 21 = true := by kernel_rfl
theorem y_21 : XPb 21 = true := by kernel_rfl
theorem z_21 : XPc 21 = true := by kernel_rfl
theorem w_41 : told 41 = true := by kernel_rfl
theorem x_41 : XPa 41 = true := by kernel_rfl
theorem y_41 : XPb 41 = true := by kernel_rfl
theorem z_41 : XPc 41 = true := by kernel_rfl
theorem w_61 : told 61 = true := by kernel_rfl
theorem x_61 : XPa 61 = true := by kernel_rfl
theorem y_61 : XPb 61 = true := by kernel_rfl
theorem z_61 : XPc 61 = true := by kernel_rfl
end Go.Proofs.YtmgjgdnjkgnbiaaGreatDoor.HM
