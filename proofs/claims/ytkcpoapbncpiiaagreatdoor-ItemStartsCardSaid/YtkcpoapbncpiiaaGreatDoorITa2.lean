/- Runs of fleuronlaw16.ItemStarts. -/
import Derived.Test.YtkcpoapbncpiiaaGreatDoorIT0
namespace Go.Proofs.YtkcpoapbncpiiaaGreatDoor.HM
open Go Go.RowKit
theorem s1_000 : S1 1 false false false = true := by kernel_rfl
theorem s1_001 : S1 1 false false true = true := by kernel_rfl
theorem s1_010 : S1 1 false true false = true := by kernel_rfl
theorem s1_011 : S1 1 false true true = true := by kernel_rfl
theorem s1_100 : S1 1 true false false = true := by kernel_rfl
theorem s1_101 : S1 1 true false true = true := by kernel_rfl
theorem s1_110 : S1 1 true true false = true := by kernel_rfl
theorem s1_111 : S1 1 true true true = true := by kernel_rfl
theorem s5_000 : S1 5 false false false = true := by kernel_rfl
theorem s5_001 : S1 5 false false true = true := by kernel_rfl
theorem s5_010 : S1 5 false true false = true := by kernel_rfl
theorem s5_011 : S1 5 false true true = true := by kernel_rfl
theorem s5_100 : S1 5 true false false = true := by kernel_rfl
theorem s5_101 : S1 5 true false true = true := by kernel_rfl
theorem s5_110 : S1 5 true true false = true := by kernel_rfl
theorem s5_111 : S1 5 true true true = true := by kernel_rfl
theorem s9_000 : S1 9 false false false = true := by kernel_rfl
theorem s9_001 : S1 9 false false true = true := by kernel_rfl
theorem s9_010 : S1 9 false true false = true := by kernel_rfl
theorem s9_011 : S1 9 false true true = true := by kernel_rfl
theorem s9_100 : S1 9 true false false = true := by kernel_rfl
theorem s9_101 : S1 9 true false true = true := by kernel_rfl
theorem s9_110 : S1 9 true true false = true := by kernel_rfl
theorem s9_111 : S1 9 true true true = true := by kernel_rfl
theorem s13_000 : S1 13 false false false = true := by kernel_rfl
theorem s13_001 : S1 13 false false true = true := by kernel_rfl
theorem s13_010 : S1 13 false true false = true := by kernel_rfl
theorem s13_011 : S1 13 false true true = true := by kernel_rfl
theorem s13_100 : S1 13 true false false = true := by kernel_rfl
theorem s13_101 : S1 13 true false true = true := by kernel_rfl
theorem s13_110 : S1 13 true true false = true := by kernel_rfl
theorem s13_111 : S1 13 true true true = true := by kernel_rfl
end Go.Proofs.YtkcpoapbncpiiaaGreatDoor.HM
