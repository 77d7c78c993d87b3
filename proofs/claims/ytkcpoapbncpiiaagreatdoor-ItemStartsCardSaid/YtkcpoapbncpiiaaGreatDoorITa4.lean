/- Runs of fleuronlaw16.ItemStarts. -/
import Derived.Test.YtkcpoapbncpiiaaGreatDoorIT0
namespace Go.Proofs.YtkcpoapbncpiiaaGreatDoor.HM
open Go Go.RowKit
theorem s3_000 : S1 3 false false false = true := by kernel_rfl
theorem s3_001 : S1 3 false false true = true := by kernel_rfl
theorem s3_010 : S1 3 false true false = true := by kernel_rfl
theorem s3_011 : S1 3 false true true = true := by kernel_rfl
theorem s3_100 : S1 3 true false false = true := by kernel_rfl
theorem s3_101 : S1 3 true false true = true := by kernel_rfl
theorem s3_110 : S1 3 true true false = true := by kernel_rfl
theorem s3_111 : S1 3 true true true = true := by kernel_rfl
theorem s7_000 : S1 7 false false false = true := by kernel_rfl
theorem s7_001 : S1 7 false false true = true := by kernel_rfl
theorem s7_010 : S1 7 false true false = true := by kernel_rfl
theorem s7_011 : S1 7 false true true = true := by kernel_rfl
theorem s7_100 : S1 7 true false false = true := by kernel_rfl
theorem s7_101 : S1 7 true false true = true := by kernel_rfl
theorem s7_110 : S1 7 true true false = true := by kernel_rfl
theorem s7_111 : S1 7 true true true = true := by kernel_rfl
theorem s11_000 : S1 11 false false false = true := by kernel_rfl
theorem s11_001 : S1 11 false false true = true := by kernel_rfl
theorem s11_010 : S1 11 false true false = true := by kernel_rfl
theorem s11_011 : S1 11 false true true = true := by kernel_rfl
theorem s11_100 : S1 11 true false false = true := by kernel_rfl
theorem s11_101 : S1 11 true false true = true := by kernel_rfl
theorem s11_110 : S1 11 true true false = true := by kernel_rfl
theorem s11_111 : S1 11 true true true = true := by kernel_rfl
theorem s15_000 : S1 15 false false false = true := by kernel_rfl
theorem s15_001 : S1 15 false false true = true := by kernel_rfl
theorem s15_010 : S1 15 false true false = true := by kernel_rfl
theorem s15_011 : S1 15 false true true = true := by kernel_rfl
theorem s15_100 : S1 15 true false false = true := by kernel_rfl
theorem s15_101 : S1 15 true false true = true := by kernel_rfl
theorem s15_110 : S1 15 true true false = true := by kernel_rfl
theorem s15_111 : S1 15 true true true = true := by kernel_rfl
end Go.Proofs.YtkcpoapbncpiiaaGreatDoor.HM
