/- Cases of fleuronlaw11.RegistryExtends: the runs of some sheets. -/
import Derived.Test.YtmgjgdnjkgnbiaaGreatDoorX0
namespace Go.Proofs.YtmgjgdnjkgnbiaaGreatDoor.HM
open Go Go.RowKit
theorem w_5 : told 5 = true := by kernel_rfl
theorem x_5 : XPa 5 = true := by kernel_rfl
theorem y_5 : XPb 5 = true := by kernel_rfl
theorem z_5 : XPc 5 = true := by kernel_rfl
theorem w_25 : told 25 = true := by kernel_rfl
theorem x_25 : XPa 25 = true := by kernel_rfl
theorem y_25 : XPb 25 = true := by kernel_rfl
theorem z_25 : XPc 25 = true := by kernel_rfl
theorem w_45 : told 45 = true := by kernel_rfl
theorem x_45 : XPa 45 = true := by kernel_rfl
theorem y_45 : XPb 45 = true := by kernel_rfl
theorem z_45 : XPc 45 = true := by kernel_rfl
end Go.Proofs.YtmgjgdnjkgnbiaaGreatDoor.HM
