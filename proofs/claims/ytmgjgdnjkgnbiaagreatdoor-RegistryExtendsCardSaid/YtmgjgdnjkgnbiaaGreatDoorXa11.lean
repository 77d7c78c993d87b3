/- Cases of fleuronlaw11.RegistryExtends: the runs of some sheets. -/
import Derived.Test.YtmgjgdnjkgnbiaaGreatDoorX0
namespace Go.Proofs.YtmgjgdnjkgnbiaaGreatDoor.HM
open Go Go.RowKit
theorem w_10 : told 10 = true := by kernel_rfl
theorem x_10 : XPa 10 = true := by kernel_rfl
theorem y_10 : XPb 10 = true := by kernel_rfl
theorem z_10 : XPc 10 = true := by kernel_rfl
theorem w_30 : told 30 = true := by kernel_rfl
theorem x_30 : XPa 30 = true := by kernel_rfl
theorem y_30 : XPb 30 = true := by kernel_rfl
theorem z_30 : XPc 30 = true := by kernel_rfl
theorem w_50 : told 50 = true := by kernel_rfl
theorem x_50 : XPa 50 = true := by kernel_rfl
theorem y_50 : XPb 50 = true := by kernel_rfl
theorem z_50 : XPc 50 = true := by kernel_rfl
end Go.Proofs.YtmgjgdnjkgnbiaaGreatDoor.HM
