/- Cases of fleuronlaw11.RegistryExtends: the runs of some sheets. -/
import Derived.Test.YtmgjgdnjkgnbiaaGreatDoorX0
namespace Go.Proofs.YtmgjgdnjkgnbiaaGreatDoor.HM
open Go Go.RowKit
theorem w_0 : told 0 = true := by kernel_rfl
theorem x_0 : XPa 0 = true := by kernel_rfl
theorem y_0 : XPb 0 = true := by kernel_rfl
theorem z_0 : XPc 0 = true := by kernel_rfl
theorem w_20 : told 20 = true := by kernel_rfl
theorem x_20 : XPa 20 = true := by kernel_rfl
theorem y_20 : XPb 20 = true := by kernel_rfl
theorem z_20 : XPc 20 = true := by kernel_rfl
theorem w_40 : told 40 = true := by kernel_rfl
theorem x_40 : XPa 40 = true := by kernel_rfl
theorem y_40 : XPb 40 = true := by kernel_rfl
theorem z_40 : XPc 40 = true := by kernel_rfl
theorem w_60 : told 60 = true := by kernel_rfl
theorem x_60 : XPa 60 = true := by kernel_rfl
theorem y_60 : XPb 60 = true := by kernel_rfl
theorem z_60 : XPc 60 = true := by kernel_rfl
end Go.Proofs.YtmgjgdnjkgnbiaaGreatDoor.HM
