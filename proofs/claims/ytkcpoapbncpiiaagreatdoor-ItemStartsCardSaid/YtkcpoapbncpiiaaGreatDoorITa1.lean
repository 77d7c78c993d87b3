/- Runs of fleuronlaw16.ItemStarts. -/
import Derived.Test.YtkcpoapbncpiiaaGreatDoorIT0
namespace Go.Proofs.YtkcpoapbncpiiaaGreatDoor.HM
open Go Go.RowKit
theorem s0_000 : S1 0 false false false = true := by kernel_rfl
theorem s0_001 : S1 0 false false true = true := by kernel_rfl
theorem s0_010 : S1 0 false true false = true := by kernel_rfl
theorem s0_011 : S1 0 false true true = true := by kernel_rfl
theorem s0_100 : S1 0 true false false = true := by kernel_rfl
theorem s0_101 : S1 0 true false true = true := by kernel_rfl
theorem s0_110 : S1 0 true true false = true := by kernel_rfl
theorem s0_111 : S1 0 true true true = true := by kernel_rfl
theorem s4_000 : S1 4 false false false = true := by kernel_rfl
theorem s4_001 : S1 4 false false true = true := by kernel_rfl
theorem s4_010 : S1 4 false true false = true := by kernel_rfl
theorem s4_011 : S1 4 false true true = true := by kernel_rfl
theorem s4_100 : S1 4 true false false = true := by kernel_rfl
theorem s4_101 : S1 4 true false true = true := by kernel_rfl
theorem s4_110 : S1 4 true true false = true := by kernel_rfl
theorem s4_111 : S1 4 true true true = true := by kernel_rfl
theorem s8_000 : S1 8 false false false = true := by kernel_rfl
theorem s8_001 : S1 8 false false true = true := by kernel_rfl
theorem s8_010 : S1 8 false true false = true := by kernel_rfl
theorem s8_011 : S1 8 false true true = true := by kernel_rfl
theorem s8_100 : S1 8 true false false = true := by kernel_rfl
theorem s8_101 : S1 8 true false true = true := by kernel_rfl
theorem s8_110 : S1 8 true true false = true := by kernel_rfl
theorem s8_111 : S1 8 true true true = true := by kernel_rfl
theorem s12_000 : S1 12 false false false = true := by kernel_rfl
theorem s12_001 : S1 12 false false true = true := by kernel_rfl
theorem s12_010 : S1 12 false true false = true := by kernel_rfl
theorem s12_011 : S1 12 false true true = true := by kernel_rfl
theorem s12_100 : S1 12 true false false = true := by kernel_rfl
theorem s12_101 : S1 12 true false true = true := by kernel_rfl
theorem s12_110 : S1 12 true true false = true := by kernel_rfl
theorem s12_111 : S1 12 true true true = true := by kernel_rfl
end Go.Proofs.YtkcpoapbncpiiaaGreatDoor.HM
