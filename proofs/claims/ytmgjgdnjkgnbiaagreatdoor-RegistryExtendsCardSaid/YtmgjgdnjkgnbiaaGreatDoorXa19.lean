/- Cases of fleuronlaw11.RegistryExtends: the runs of some sheets. -/
import Derived.Test.YtmgjgdnjkgnbiaaGreatDoorX0
namespace Go.Proofs.YtmgjgdnjkgnbiaaGreatDoor.HM
open Go Go.RowKit
theorem w_18 : told 18 = true := by kernel_rfl
theorem x_18 : XPa 18 = true := by kernel_rfl
theorem y_18 : XPb 18 = true := by kernel_rfl
theorem z_18 : XPc 18 = true := by kernel_rfl
theorem w_38 : told 38 = true := by kernel_rfl
theorem x_38 : XPa 38 = true := by kernel_rfl
theorem y_38 : XPb 38 = true := by kernel_rfl
theorem z_38 : XPc 38 = true := by kernel_rfl
theorem w_58 : told 58 = true := by kernel_rfl
theorem x_58 : XPa 58 = true := by kernel_rfl
theorem y_58 : XPb 58 = true := by kernel_rfl
theorem z_58 : XPc 58 = true := by kernel_rfl
end Go.Proofs.YtmgjgdnjkgnbiaaGreatDoor.HM
