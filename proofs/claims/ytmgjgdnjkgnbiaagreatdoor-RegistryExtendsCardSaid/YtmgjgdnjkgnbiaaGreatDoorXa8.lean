/- Cases of fleuronlaw11.RegistryExtends: the runs of some sheets. -/
import Derived.Test.YtmgjgdnjkgnbiaaGreatDoorX0
namespace Go.Proofs.YtmgjgdnjkgnbiaaGreatDoor.HM
open Go Go.RowKit
theorem w_7 : told 7 = true := by kernel_rfl
theorem x_7 : XPa 7 = true := by kernel_rfl
theorem y_7 : XPb 7 = true := by kernel_rfl
theorem z_7 : XPc 7 = true := by kernel_rfl
theorem w_27 : told 27 = true := by kernel_rfl
theorem x_27 : XPa 27 = true := by kernel_rfl
theorem y_27 : XPb 27 = true := by kernel_rfl
theorem z_27 : XPc 27 = true := by kernel_rfl
theorem w_47 : told 47 = true := by kernel_rfl
theorem x_47 : XPa 47 = true := by kernel_rfl
theorem y_47 : XPb 47 = true := by kernel_rfl
theorem z_47 : XPc 47 = true := by kernel_rfl
end Go.Proofs.YtmgjgdnjkgnbiaaGreatDoor.HM
