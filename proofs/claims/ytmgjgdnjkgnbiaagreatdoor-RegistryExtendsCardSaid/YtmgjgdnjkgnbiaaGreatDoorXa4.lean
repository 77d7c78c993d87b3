/- Cases of fleuronlaw11.RegistryExtends: the runs of some sheets. -/
import Derived.Test.YtmgjgdnjkgnbiaaGreatDoorX0
namespace Go.Proofs.YtmgjgdnjkgnbiaaGreatDoor.HM
open Go Go.RowKit
theorem w_3 : told 3 = true := by kernel_rfl
theorem x_3 : XPa 3 = true := by kernel_rfl
theorem y_3 : XPb 3 = true := by kernel_rfl
theorem z_3 : XPc 3 = true := by kernel_rfl
theorem w_23 : told 23 = true := by kernel_rfl
theorem x_23 : XPa 23 = true := by kernel_rfl
theorem y_23 : XPb 23 = true := by kernel_rfl
theorem z_23 : XPc 23 = true := by kernel_rfl
theorem w_43 : told 43 = true := by kernel_rfl
theorem x_43 : XPa 43 = true := by kernel_rfl
theorem y_43 : XPb 43 = true := by kernel_rfl
theorem z_43 : XPc 43 = true := by kernel_rfl
theorem w_63 : told 63 = true := by kernel_rfl
theorem x_63 : XPa 63 = true := by kernel_rfl
theorem y_63 : XPb 63 = true := by kernel_rfl
theorem z_63 : XPc 63 = true := by kernel_rfl
end Go.Proofs.YtmgjgdnjkgnbiaaGreatDoor.HM
