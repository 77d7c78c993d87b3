/- Runs of fleuronlaw16.ItemStarts. -/
import Derived.Test.YtkcpoapbncpiiaaGreatDoorIT0
namespace Go.Proofs.YtkcpoapbncpiiaaGreatDoor.HM
open Go Go.RowKit
theorem s2_000 : S1 2 false false false = true := by kernel_rfl
theorem s2_001 : S1 2 false false true = true := by kernel_rfl
theorem s2_010 : S1 2 false true false = true := by kernel_rfl
theorem s2_011 : S1 2 false true true = true := by kernel_rfl
theorem s2_100 : S1 2 true false false = true := by kernel_rfl
theorem s2_101 : S1 2 true false true = true := by kernel_rfl
theorem s2_110 : S1 2 true true false = true := by kernel_rfl
theorem s2_111 : S1 2 true true true = true := by kernel_rfl
theorem s6_000 : S1 6 false false false = true := by kernel_rfl
theorem s6_001 : S1 6 false false true = true := by kernel_rfl
theorem s6_010 : S1 6 false true false = true := by kernel_rfl
theorem s6_011 : S1 6 false true true = true := by kernel_rfl
theorem s6_100 : S1 6 true false false = true := by kernel_rfl
theorem s6_101 : S1 6 true false true = true := by kernel_rfl
theorem s6_110 : S1 6 true true false = true := by kernel_rfl
theorem s6_111 : S1 6 true true true = true := by kernel_rfl
theorem s10_000 : S1 10 false false false = true := by kernel_rfl
theorem s10_001 : S1 10 false false true = true := by kernel_rfl
theorem s10_010 : S1 10 false true false = true := by kernel_rfl
theorem s10_011 : S1 10 false true true = true := by kernel_rfl
theorem s10_100 : S1 10 true false false = true := by kernel_rfl
theorem s10_101 : S1 10 true false true = true := by kernel_rfl
theorem s10_110 : S1 10 true true false = true := by kernel_rfl
theorem s10_111 : S1 10 true true true = true := by kernel_rfl
theorem s14_000 : S1 14 false false false = true := by kernel_rfl
theorem s14_001 : S1 14 false false true = true := by kernel_rfl
theorem s14_010 : S1 14 false true false = true := by kernel_rfl
theorem s14_011 : S1 14 false true true = true := by kernel_rfl
theorem s14_100 : S1 14 true false false = true := by kernel_rfl
theorem s14_101 : S1 14 true false true = true := by kernel_rfl
theorem s14_110 : S1 14 true true false = true := by kernel_rfl
theorem s14_111 : S1 14 true true true = true := by kernel_rfl
end Go.Proofs.YtkcpoapbncpiiaaGreatDoor.HM
