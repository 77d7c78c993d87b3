/- fleuronlaw5.AnbBack returns true for all arguments, and leaves what was there. -/
import Derived.Test.YtbfdgdigaiimgaaDoorYBa1
import Derived.Test.YtbfdgdigaiimgaaDoorYBa2
import Derived.Test.YtbfdgdigaiimgaaDoorYBa3
import Derived.Test.YtbfdgdigaiimgaaDoorYBa4
import Derived.Test.YtbfdgdigaiimgaaDoorYBa5
import Derived.Test.YtbfdgdigaiimgaaDoorYBa6
import Derived.Test.YtbfdgdigaiimgaaDoorYBa7
import Derived.Test.YtbfdgdigaiimgaaDoorYBa8
import Derived.Test.YtbfdgdigaiimgaaDoorYBa9
import Derived.Test.YtbfdgdigaiimgaaDoorYBa10
import Derived.Test.YtbfdgdigaiimgaaDoorYBa11
import Derived.Test.YtbfdgdigaiimgaaDoorYBa12
import Derived.Test.YtbfdgdigaiimgaaDoorYBa13
import Derived.Test.YtbfdgdigaiimgaaDoorYBa14
import Derived.Test.YtbfdgdigaiimgaaDoorYBa15
import Derived.Test.YtbfdgdigaiimgaaDoorYBa16
import Derived.Test.YtbfdgdigaiimgaaDoorYBa17
import Derived.Test.YtbfdgdigaiimgaaDoorYBa18
import Derived.Test.YtbfdgdigaiimgaaDoorYBa19
import Derived.Test.YtbfdgdigaiimgaaDoorYBa20
import Derived.Test.YtbfdgdigaiimgaaDoorYBa21
import Derived.Test.YtbfdgdigaiimgaaDoorYBa22
import Derived.Test.YtbfdgdigaiimgaaDoorYBa23
import Derived.Test.YtbfdgdigaiimgaaDoorYBa24
import Derived.Test.YtbfdgdigaiimgaaDoorYBa25
import Derived.Test.YtbfdgdigaiimgaaDoorYBz
import Derived.Test.YtbfdgdigaiimgaaDoorPE
import Derived.WalkKit
import Derived.ProofKit
import Derived.OpenShut
namespace Go.Proofs.YtbfdgdigaiimgaaDoor.HM
open Go Go.RowKit
theorem row_1 (j : Nat) (h1 : 1 ≤ j) (h2 : j ≤ 20) : R7 1 j = true := by
  have h : j = 1 ∨ j = 2 ∨ j = 3 ∨ j = 4 ∨ j = 5 ∨ j = 6 ∨ j = 7 ∨ j = 8 ∨ j = 9 ∨ j = 10 ∨ j = 11 ∨ j = 12 ∨ j = 13 ∨ j = 14 ∨ j = 15 ∨ j = 16 ∨ j = 17 ∨ j = 18 ∨ j = 19 ∨ j = 20 := by omega
  rcases h with rfl | rfl | rfl | rfl | rfl | rfl | rfl | rfl | rfl | rfl | rfl | rfl | rfl | rfl | rfl | rfl | rfl | rfl | rfl | rfl
  · exact b_1_1
  · exact b_1_2
  · exact b_1_3
  · exact b_1_4
  · exact b_1_5
  · exact b_1_6
  · exact b_1_7
  · exact b_1_8
  · exact b_1_9
  · exact b_1_10
  · exact b_1_11
  · exact b_1_12
  · exact b_1_13
  · exact b_1_14
  · exact b_1_15
  · exact b_1_16
  · exact b_1_17
  · exact b_1_18
  · exact b_1_19
  · exact b_1_20
theorem row_2 (j : Nat) (h1 : 1 ≤ j) (h2 : j ≤ 20) : R7 2 j = true := by
  have h : j = 1 ∨ j = 2 ∨ j = 3 ∨ j = 4 ∨ j = 5 ∨ j = 6 ∨ j = 7 ∨ j = 8 ∨ j = 9 ∨ j = 10 ∨ j = 11 ∨ j = 12 ∨ j = 13 ∨ j = 14 ∨ j = 15 ∨ j = 16 ∨ j = 17 ∨ j = 18 ∨ j = 19 ∨ j = 20 := by omega
  rcases h with rfl | rfl | rfl | rfl | rfl | rfl | rfl | rfl | rfl | rfl | rfl | rfl | rfl | rfl | rfl | rfl | rfl | rfl | rfl | rfl
  · exact b_2_1
  · exact b_2_2
  · exact b_2_3
  · exact b_2_4
  · exact b_2_5
  · exact b_2_6
  · exact b_2_7
  · exact b_2_8
  · exact b_2_9
  · exact b_2_10
  · exact b_2_11
  · exact b_2_12
  · exact b_2_13
  · exact b_2_14
  · exact b_2_15
  · exact b_2_16
  · exact b_2_17
  · exact b_2_18
  · exact b_2_19
  · exact b_2_20
theorem row_3 (j : Nat) (h1 : 1 ≤ j) (h2 : j ≤ 20) : R7 3 j = true := by
  have h : j = 1 ∨ j = 2 ∨ j = 3 ∨ j = 4 ∨ j = 5 ∨ j = 6 ∨ j = 7 ∨ j = 8 ∨ j = 9 ∨ j = 10 ∨ j = 11 ∨ j = 12 ∨ j = 13 ∨ j = 14 ∨ j = 15 ∨ j = 16 ∨ j = 17 ∨ j = 18 ∨ j = 19 ∨ j = 20 := by omega
  rcases h with rfl | rfl | rfl | rfl | rfl | rfl | rfl | rfl | rfl | rfl | rfl | rfl | rfl | rfl | rfl | rfl | rfl | rfl | rfl | rfl
  · exact b_3_1
  · exact b_3_2
  · exact b_3_3
  · exact b_3_4
  · exact b_3_5
  · exact b_3_6
  · exact b_3_7
  · exact b_3_8
  · exact b_3_9
  · exact b_3_10
  · exact b_3_11
  · exact b_3_12
  · exact b_3_13
  · exact b_3_14
  · exact b_3_15
  · exact b_3_16
  · exact b_3_17
  · exact b_3_18
  · exact b_3_19
  · exact b_3_20
theorem row_4 (j : Nat) (h1 : 1 ≤ j) (h2 : j ≤ 20) : R7 4 j = true := by
  have h : j = 1 ∨ j = 2 ∨ j = 3 ∨ j = 4 ∨ j = 5 ∨ j = 6 ∨ j = 7 ∨ j = 8 ∨ j = 9 ∨ j = 10 ∨ j = 11 ∨ j = 12 ∨ j = 13 ∨ j = 14 ∨ j = 15 ∨ j = 16 ∨ j = 17 ∨ j = 18 ∨ j = 19 ∨ j = 20 := by omega
  rcases h with rfl | rfl | rfl | rfl | rfl | rfl | rfl | rfl | rfl | rfl | rfl | rfl | rfl | rfl | rfl | rfl | rfl | rfl | rfl | rfl
  · exact b_4_1
  · exact b_4_2
  · exact b_4_3
  · exact b_4_4
  · exact b_4_5
  · exact b_4_6
  · exact b_4_7
  · exact b_4_8
  · exact b_4_9
  · exact b_4_10
  · exact b_4_11
  · exact b_4_12
  · exact b_4_13
  · exact b_4_14
  · exact b_4_15
  · exact b_4_16
  · exact b_4_17
  · exact b_4_18
  · exact b_4_19
  · exact b_4_20
theorem row_5 (j : Nat) (h1 : 1 ≤ j) (h2 : j ≤ 20) : R7 5 j = true := by
  have h : j = 1 ∨ j = 2 ∨ j = 3 ∨ j = 4 ∨ j = 5 ∨ j = 6 ∨ j = 7 ∨ j = 8 ∨ j = 9 ∨ j = 10 ∨ j = 11 ∨ j = 12 ∨ j = 13 ∨ j = 14 ∨ j = 15 ∨ j = 16 ∨ j = 17 ∨ j = 18 ∨ j = 19 ∨ j = 20 := by omega
  rcases h with rfl | rfl | rfl | rfl | rfl | rfl | rfl | rfl | rfl | rfl | rfl | rfl | rfl | rfl | rfl | rfl | rfl | rfl | rfl | rfl
  · exact b_5_1
  · exact b_5_2
  · exact b_5_3
  · exact b_5_4
  · exact b_5_5
  · exact b_5_6
  · exact b_5_7
  · exact b_5_8
  · exact b_5_9
  · exact b_5_10
  · exact b_5_11
  · exact b_5_12
  · exact b_5_13
  · exact b_5_14
  · exact b_5_15
  · exact b_5_16
  · exact b_5_17
  · exact b_5_18
  · exact b_5_19
  · exact b_5_20
theorem row_6 (j : Nat) (h1 : 1 ≤ j) (h2 : j ≤ 20) : R7 6 j = true := by
  have h : j = 1 ∨ j = 2 ∨ j = 3 ∨ j = 4 ∨ j = 5 ∨ j = 6 ∨ j = 7 ∨ j = 8 ∨ j = 9 ∨ j = 10 ∨ j = 11 ∨ j = 12 ∨ j = 13 ∨ j = 14 ∨ j = 15 ∨ j = 16 ∨ j = 17 ∨ j = 18 ∨ j = 19 ∨ j = 20 := by omega
  rcases h with rfl | rfl | rfl | rfl | rfl | rfl | rfl | rfl | rfl | rfl | rfl | rfl | rfl | rfl | rfl | rfl | rfl | rfl | rfl | rfl
  · exact b_6_1
  · exact b_6_2
  · exact b_6_3
  · exact b_6_4
  · exact b_6_5
  · exact b_6_6
  · exact b_6_7
  · exact b_6_8
  · exact b_6_9
  · exact b_6_10
  · exact b_6_11
  · exact b_6_12
  · exact b_6_13
  · exact b_6_14
  · exact b_6_15
  · exact b_6_16
  · exact b_6_17
  · exact b_6_18
  · exact b_6_19
  · exact b_6_20
theorem row_7 (j : Nat) (h1 : 1 ≤ j) (h2 : j ≤ 20) : R7 7 j = true := by
  have h : j = 1 ∨ j = 2 ∨ j = 3 ∨ j = 4 ∨ j = 5 ∨ j = 6 ∨ j = 7 ∨ j = 8 ∨ j = 9 ∨ j = 10 ∨ j = 11 ∨ j = 12 ∨ j = 13 ∨ j = 14 ∨ j = 15 ∨ j = 16 ∨ j = 17 ∨ j = 18 ∨ j = 19 ∨ j = 20 := by omega
  rcases h with rfl | rfl | rfl | rfl | rfl | rfl | rfl | rfl | rfl | rfl | rfl | rfl | rfl | rfl | rfl | rfl | rfl | rfl | rfl | rfl
  · exact b_7_1
  · exact b_7_2
  · exact b_7_3
  · exact b_7_4
  · exact b_7_5
  · exact b_7_6
  · exact b_7_7
  · exact b_7_8
  · exact b_7_9
  · exact b_7_10
  · exact b_7_11
  · exact b_7_12
  · exact b_7_13
  · exact b_7_14
  · exact b_7_15
  · exact b_7_16
  · exact b_7_17
  · exact b_7_18
  · exact b_7_19
  · exact b_7_20
theorem row_8 (j : Nat) (h1 : 1 ≤ j) (h2 : j ≤ 20) : R7 8 j = true := by
  have h : j = 1 ∨ j = 2 ∨ j = 3 ∨ j = 4 ∨ j = 5 ∨ j = 6 ∨ j = 7 ∨ j = 8 ∨ j = 9 ∨ j = 10 ∨ j = 11 ∨ j = 12 ∨ j = 13 ∨ j = 14 ∨ j = 15 ∨ j = 16 ∨ j = 17 ∨ j = 18 ∨ j = 19 ∨ j = 20 := by omega
  rcases h with rfl | rfl | rfl | rfl | rfl | rfl | rfl | rfl | rfl | rfl | rfl | rfl | rfl | rfl | rfl | rfl | rfl | rfl | rfl | rfl
  · exact b_8_1
  · exact b_8_2
  · exact b_8_3
  · exact b_8_4
  · exact b_8_5
  · exact b_8_6
  · exact b_8_7
  · exact b_8_8
  · exact b_8_9
  · exact b_8_10
  · exact b_8_11
  · exact b_8_12
  · exact b_8_13
  · exact b_8_14
  · exact b_8_15
  · exact b_8_16
  · exact b_8_17
  · exact b_8_18
  · exact b_8_19
  · exact b_8_20
theorem row_9 (j : Nat) (h1 : 1 ≤ j) (h2 : j ≤ 20) : R7 9 j = true := by
  have h : j = 1 ∨ j = 2 ∨ j = 3 ∨ j = 4 ∨ j = 5 ∨ j = 6 ∨ j = 7 ∨ j = 8 ∨ j = 9 ∨ j = 10 ∨ j = 11 ∨ j = 12 ∨ j = 13 ∨ j = 14 ∨ j = 15 ∨ j = 16 ∨ j = 17 ∨ j = 18 ∨ j = 19 ∨ j = 20 := by omega
  rcases h with rfl | rfl | rfl | rfl | rfl | rfl | rfl | rfl | rfl | rfl | rfl | rfl | rfl | rfl | rfl | rfl | rfl | rfl | rfl | rfl
  · exact b_9_1
  · exact b_9_2
  · exact b_9_3
  · exact b_9_4
  · exact b_9_5
  · exact b_9_6
  · exact b_9_7
  · exact b_9_8
  · exact b_9_9
  · exact b_9_10
  · exact b_9_11
  · exact b_9_12
  · exact b_9_13
  · exact b_9_14
  · exact b_9_15
  · exact b_9_16
  · exact b_9_17
  · exact b_9_18
  · exact b_9_19
  · exact b_9_20
theorem row_10 (j : Nat) (h1 : 1 ≤ j) (h2 : j ≤ 20) : R7 10 j = true := by
  have h : j = 1 ∨ j = 2 ∨ j = 3 ∨ j = 4 ∨ j = 5 ∨ j = 6 ∨ j = 7 ∨ j = 8 ∨ j = 9 ∨ j = 10 ∨ j = 11 ∨ j = 12 ∨ j = 13 ∨ j = 14 ∨ j = 15 ∨ j = 16 ∨ j = 17 ∨ j = 18 ∨ j = 19 ∨ j = 20 := by omega
  rcases h with rfl | rfl | rfl | rfl | rfl | rfl | rfl | rfl | rfl | rfl | rfl | rfl | rfl | rfl | rfl | rfl | rfl | rfl | rfl | rfl
  · exact b_10_1
  · exact b_10_2
  · exact b_10_3
  · exact b_10_4
  · exact b_10_5
  · exact b_10_6
  · exact b_10_7
  · exact b_10_8
  · exact b_10_9
  · exact b_10_10
  · exact b_10_11
  · exact b_10_12
  · exact b_10_13
  · exact b_10_14
  · exact b_10_15
  · exact b_10_16
  · exact b_10_17
  · exact b_10_18
  · exact b_10_19
  · exact b_10_20
theorem row_11 (j : Nat) (h1 : 1 ≤ j) (h2 : j ≤ 20) : R7 11 j = true := by
  have h : j = 1 ∨ j = 2 ∨ j = 3 ∨ j = 4 ∨ j = 5 ∨ j = 6 ∨ j = 7 ∨ j = 8 ∨ j = 9 ∨ j = 10 ∨ j = 11 ∨ j = 12 ∨ j = 13 ∨ j = 14 ∨ j = 15 ∨ j = 16 ∨ j = 17 ∨ j = 18 ∨ j = 19 ∨ j = 20 := by omega
  rcases h with rfl | rfl | rfl | rfl | rfl | rfl | rfl | rfl | rfl | rfl | rfl | rfl | rfl | rfl | rfl | rfl | rfl | rfl | rfl | rfl
  · exact b_11_1
  · exact b_11_2
  · exact b_11_3
  · exact b_11_4
  · exact b_11_5
  · exact b_11_6
  · exact b_11_7
  · exact b_11_8
  · exact b_11_9
  · exact b_11_10
  · exact b_11_11
  · exact b_11_12
  · exact b_11_13
  · exact b_11_14
  · exact b_11_15
  · exact b_11_16
  · exact b_11_17
  · exact b_11_18
  · exact b_11_19
  · exact b_11_20
theorem row_12 (j : Nat) (h1 : 1 ≤ j) (h2 : j ≤ 20) : R7 12 j = true := by
  have h : j = 1 ∨ j = 2 ∨ j = 3 ∨ j = 4 ∨ j = 5 ∨ j = 6 ∨ j = 7 ∨ j = 8 ∨ j = 9 ∨ j = 10 ∨ j = 11 ∨ j = 12 ∨ j = 13 ∨ j = 14 ∨ j = 15 ∨ j = 16 ∨ j = 17 ∨ j = 18 ∨ j = 19 ∨ j = 20 := by omega
  rcases h with rfl | rfl | rfl | rfl | rfl | rfl | rfl | rfl | rfl | rfl | rfl | rfl | rfl | rfl | rfl | rfl | rfl | rfl | rfl | rfl
  · exact b_12_1
  · exact b_12_2
  · exact b_12_3
  · exact b_12_4
  · exact b_12_5
  · exact b_12_6
  · exact b_12_7
  · exact b_12_8
  · exact b_12_9
  · exact b_12_10
  · exact b_12_11
  · exact b_12_12
  · exact b_12_13
  · exact b_12_14
  · exact b_12_15
  · exact b_12_16
  · exact b_12_17
  · exact b_12_18
  · exact b_12_19
  · exact b_12_20
theorem row_13 (j : Nat) (h1 : 1 ≤ j) (h2 : j ≤ 20) : R7 13 j = true := by
  have h : j = 1 ∨ j = 2 ∨ j = 3 ∨ j = 4 ∨ j = 5 ∨ j = 6 ∨ j = 7 ∨ j = 8 ∨ j = 9 ∨ j = 10 ∨ j = 11 ∨ j = 12 ∨ j = 13 ∨ j = 14 ∨ j = 15 ∨ j = 16 ∨ j = 17 ∨ j = 18 ∨ j = 19 ∨ j = 20 := by omega
  rcases h with rfl | rfl | rfl | rfl | rfl | rfl | rfl | rfl | rfl | rfl | rfl | rfl | rfl | rfl | rfl | rfl | rfl | rfl | rfl | rfl
  · exact b_13_1
  · exact b_13_2
  · exact b_13_3
  · exact b_13_4
  · exact b_13_5
  · exact b_13_6
  · exact b_13_7
  · exact b_13_8
  · exact b_13_9
  · exact b_13_10
  · exact b_13_11
  · exact b_13_12
  · exact b_13_13
  · exact b_13_14
  · exact b_13_15
  · exact b_13_16
  · exact b_13_17
  · exact b_13_18
  · exact b_13_19
  · exact b_13_20
theorem row_14 (j : Nat) (h1 : 1 ≤ j) (h2 : j ≤ 20) : R7 14 j = true := by
  have h : j = 1 ∨ j = 2 ∨ j = 3 ∨ j = 4 ∨ j = 5 ∨ j = 6 ∨ j = 7 ∨ j = 8 ∨ j = 9 ∨ j = 10 ∨ j = 11 ∨ j = 12 ∨ j = 13 ∨ j = 14 ∨ j = 15 ∨ j = 16 ∨ j = 17 ∨ j = 18 ∨ j = 19 ∨ j = 20 := by omega
  rcases h with rfl | rfl | rfl | rfl | rfl | rfl | rfl | rfl | rfl | rfl | rfl | rfl | rfl | rfl | rfl | rfl | rfl | rfl | rfl | rfl
  · exact b_14_1
  · exact b_14_2
  · exact b_14_3
  · exact b_14_4
  · exact b_14_5
  · exact b_14_6
  · exact b_14_7
  · exact b_14_8
  · exact b_14_9
  · exact b_14_10
  · exact b_14_11
  · exact b_14_12
  · exact b_14_13
  · exact b_14_14
  · exact b_14_15
  · exact b_14_16
  · exact b_14_17
  · exact b_14_18
  · exact b_14_19
  · exact b_14_20
theorem row_15 (j : Nat) (h1 : 1 ≤ j) (h2 : j ≤ 20) : R7 15 j = true := by
  have h : j = 1 ∨ j = 2 ∨ j = 3 ∨ j = 4 ∨ j = 5 ∨ j = 6 ∨ j = 7 ∨ j = 8 ∨ j = 9 ∨ j = 10 ∨ j = 11 ∨ j = 12 ∨ j = 13 ∨ j = 14 ∨ j = 15 ∨ j = 16 ∨ j = 17 ∨ j = 18 ∨ j = 19 ∨ j = 20 := by omega
  rcases h with rfl | rfl | rfl | rfl | rfl | rfl | rfl | rfl | rfl | rfl | rfl | rfl | rfl | rfl | rfl | rfl | rfl | rfl | rfl | rfl
  · exact b_15_1
  · exact b_15_2
  · exact b_15_3
  · exact b_15_4
  · exact b_15_5
  · exact b_15_6
  · exact b_15_7
  · exact b_15_8
  · exact b_15_9
  · exact b_15_10
  · exact b_15_11
  · exact b_15_12
  · exact b_15_13
  · exact b_15_14
  · exact b_15_15
  · exact b_15_16
  · exact b_15_17
  · exact b_15_18
  · exact b_15_19
  · exact b_15_20
theorem row_16 (j : Nat) (h1 : 1 ≤ j) (h2 : j ≤ 20) : R7 16 j = true := by
  have h : j = 1 ∨ j = 2 ∨ j = 3 ∨ j = 4 ∨ j = 5 ∨ j = 6 ∨ j = 7 ∨ j = 8 ∨ j = 9 ∨ j = 10 ∨ j = 11 ∨ j = 12 ∨ j = 13 ∨ j = 14 ∨ j = 15 ∨ j = 16 ∨ j = 17 ∨ j = 18 ∨ j = 19 ∨ j = 20 := by omega
  rcases h with rfl | rfl | rfl | rfl | rfl | rfl | rfl | rfl | rfl | rfl | rfl | rfl | rfl | rfl | rfl | rfl | rfl | rfl | rfl | rfl
  · exact b_16_1
  · exact b_16_2
  · exact b_16_3
  · exact b_16_4
  · exact b_16_5
  · exact b_16_6
  · exact b_16_7
  · exact b_16_8
  · exact b_16_9
  · exact b_16_10
  · exact b_16_11
  · exact b_16_12
  · exact b_16_13
  · exact b_16_14
  · exact b_16_15
  · exact b_16_16
  · exact b_16_17
  · exact b_16_18
  · exact b_16_19
  · exact b_16_20
theorem row_17 (j : Nat) (h1 : 1 ≤ j) (h2 : j ≤ 20) : R7 17 j = true := by
  have h : j = 1 ∨ j = 2 ∨ j = 3 ∨ j = 4 ∨ j = 5 ∨ j = 6 ∨ j = 7 ∨ j = 8 ∨ j = 9 ∨ j = 10 ∨ j = 11 ∨ j = 12 ∨ j = 13 ∨ j = 14 ∨ j = 15 ∨ j = 16 ∨ j = 17 ∨ j = 18 ∨ j = 19 ∨ j = 20 := by omega
  rcases h with rfl | rfl | rfl | rfl | rfl | rfl | rfl | rfl | rfl | rfl | rfl | rfl | rfl | rfl | rfl | rfl | rfl | rfl | rfl | rfl
  · exact b_17_1
  · exact b_17_2
  · exact b_17_3
  · exact b_17_4
  · exact b_17_5
  · exact b_17_6
  · exact b_17_7
  · exact b_17_8
  · exact b_17_9
  · exact b_17_10
  · exact b_17_11
  · exact b_17_12
  · exact b_17_13
  · exact b_17_14
  · exact b_17_15
  · exact b_17_16
  · exact b_17_17
  · exact b_17_18
  · exact b_17_19
  · exact b_17_20
theorem row_18 (j : Nat) (h1 : 1 ≤ j) (h2 : j ≤ 20) : R7 18 j = true := by
  have h : j = 1 ∨ j = 2 ∨ j = 3 ∨ j = 4 ∨ j = 5 ∨ j = 6 ∨ j = 7 ∨ j = 8 ∨ j = 9 ∨ j = 10 ∨ j = 11 ∨ j = 12 ∨ j = 13 ∨ j = 14 ∨ j = 15 ∨ j = 16 ∨ j = 17 ∨ j = 18 ∨ j = 19 ∨ j = 20 := by omega
  rcases h with rfl | rfl | rfl | rfl | rfl | rfl | rfl | rfl | rfl | rfl | rfl | rfl | rfl | rfl | rfl | rfl | rfl | rfl | rfl | rfl
  · exact b_18_1
  · exact b_18_2
  · exact b_18_3
  · exact b_18_4
  · exact b_18_5
  · exact b_18_6
  · exact b_18_7
  · exact b_18_8
  · exact b_18_9
  · exact b_18_10
  · exact b_18_11
  · exact b_18_12
  · exact b_18_13
  · exact b_18_14
  · exact b_18_15
  · exact b_18_16
  · exact b_18_17
  · exact b_18_18
  · exact b_18_19
  · exact b_18_20
theorem row_19 (j : Nat) (h1 : 1 ≤ j) (h2 : j ≤ 20) : R7 19 j = true := by
  have h : j = 1 ∨ j = 2 ∨ j = 3 ∨ j = 4 ∨ j = 5 ∨ j = 6 ∨ j = 7 ∨ j = 8 ∨ j = 9 ∨ j = 10 ∨ j = 11 ∨ j = 12 ∨ j = 13 ∨ j = 14 ∨ j = 15 ∨ j = 16 ∨ j = 17 ∨ j = 18 ∨ j = 19 ∨ j = 20 := by omega
  rcases h with rfl | rfl | rfl | rfl | rfl | rfl | rfl | rfl | rfl | rfl | rfl | rfl | rfl | rfl | rfl | rfl | rfl | rfl | rfl | rfl
  · exact b_19_1
  · exact b_19_2
  · exact b_19_3
  · exact b_19_4
  · exact b_19_5
  · exact b_19_6
  · exact b_19_7
  · exact b_19_8
  · exact b_19_9
  · exact b_19_10
  · exact b_19_11
  · exact b_19_12
  · exact b_19_13
  · exact b_19_14
  · exact b_19_15
  · exact b_19_16
  · exact b_19_17
  · exact b_19_18
  · exact b_19_19
  · exact b_19_20
theorem row_20 (j : Nat) (h1 : 1 ≤ j) (h2 : j ≤ 20) : R7 20 j = true := by
  have h : j = 1 ∨ j = 2 ∨ j = 3 ∨ j = 4 ∨ j = 5 ∨ j = 6 ∨ j = 7 ∨ j = 8 ∨ j = 9 ∨ j = 10 ∨ j = 11 ∨ j = 12 ∨ j = 13 ∨ j = 14 ∨ j = 15 ∨ j = 16 ∨ j = 17 ∨ j = 18 ∨ j = 19 ∨ j = 20 := by omega
  rcases h with rfl | rfl | rfl | rfl | rfl | rfl | rfl | rfl | rfl | rfl | rfl | rfl | rfl | rfl | rfl | rfl | rfl | rfl | rfl | rfl
  · exact b_20_1
  · exact b_20_2
  · exact b_20_3
  · exact b_20_4
  · exact b_20_5
  · exact b_20_6
  · exact b_20_7
  · exact b_20_8
  · exact b_20_9
  · exact b_20_10
  · exact b_20_11
  · exact b_20_12
  · exact b_20_13
  · exact b_20_14
  · exact b_20_15
  · exact b_20_16
  · exact b_20_17
  · exact b_20_18
  · exact b_20_19
  · exact b_20_20
theorem rows (i j : Nat) (h1 : 1 ≤ i) (h2 : i ≤ 20) (h3 : 1 ≤ j) (h4 : j ≤ 20) : R7 i j = true := by
  have h : i = 1 ∨ i = 2 ∨ i = 3 ∨ i = 4 ∨ i = 5 ∨ i = 6 ∨ i = 7 ∨ i = 8 ∨ i = 9 ∨ i = 10 ∨ i = 11 ∨ i = 12 ∨ i = 13 ∨ i = 14 ∨ i = 15 ∨ i = 16 ∨ i = 17 ∨ i = 18 ∨ i = 19 ∨ i = 20 := by omega
  rcases h with rfl | rfl | rfl | rfl | rfl | rfl | rfl | rfl | rfl | rfl | rfl | rfl | rfl | rfl | rfl | rfl | rfl | rfl | rfl | rfl
  · exact row_1 j h3 h4
  · exact row_2 j h3 h4
  · exact row_3 j h3 h4
  · exact row_4 j h3 h4
  · exact row_5 j h3 h4
  · exact row_6 j h3 h4
  · exact row_7 j h3 h4
  · exact row_8 j h3 h4
  · exact row_9 j h3 h4
  · exact row_10 j h3 h4
  · exact row_11 j h3 h4
  · exact row_12 j h3 h4
  · exact row_13 j h3 h4
  · exact row_14 j h3 h4
  · exact row_15 j h3 h4
  · exact row_16 j h3 h4
  · exact row_17 j h3 h4
  · exact row_18 j h3 h4
  · exact row_19 j h3 h4
  · exact row_20 j h3 h4
theorem rows_k (i j k : Nat) (h1 : 1 ≤ i) (h2 : i ≤ 20) (h3 : 1 ≤ j) (h4 : j ≤ 20) (hk : k < 7) : R i j k = true := by
  have h := rows i j h1 h2 h3 h4
  unfold R7 at h
  simp only [Bool.and_eq_true] at h
  obtain ⟨g0, g1, g2, g3, g4, g5, g6⟩ := h
  have h : k = 0 ∨ k = 1 ∨ k = 2 ∨ k = 3 ∨ k = 4 ∨ k = 5 ∨ k = 6 := by omega
  rcases h with rfl | rfl | rfl | rfl | rfl | rfl | rfl
  · exact g0
  · exact g1
  · exact g2
  · exact g3
  · exact g4
  · exact g5
  · exact g6
theorem zero_b (j : Nat) (h2 : j ≤ 20) : R0 0 j = true := by
  have h : j = 0 ∨ j = 1 ∨ j = 2 ∨ j = 3 ∨ j = 4 ∨ j = 5 ∨ j = 6 ∨ j = 7 ∨ j = 8 ∨ j = 9 ∨ j = 10 ∨ j = 11 ∨ j = 12 ∨ j = 13 ∨ j = 14 ∨ j = 15 ∨ j = 16 ∨ j = 17 ∨ j = 18 ∨ j = 19 ∨ j = 20 := by omega
  rcases h with rfl | rfl | rfl | rfl | rfl | rfl | rfl | rfl | rfl | rfl | rfl | rfl | rfl | rfl | rfl | rfl | rfl | rfl | rfl | rfl | rfl
  · exact z_0_0
  · exact z_0_1
  · exact z_0_2
  · exact z_0_3
  · exact z_0_4
  · exact z_0_5
  · exact z_0_6
  · exact z_0_7
  · exact z_0_8
  · exact z_0_9
  · exact z_0_10
  · exact z_0_11
  · exact z_0_12
  · exact z_0_13
  · exact z_0_14
  · exact z_0_15
  · exact z_0_16
  · exact z_0_17
  · exact z_0_18
  · exact z_0_19
  · exact z_0_20
theorem zero_a (i : Nat) (h2 : i ≤ 20) : R0 i 0 = true := by
  have h : i = 0 ∨ i = 1 ∨ i = 2 ∨ i = 3 ∨ i = 4 ∨ i = 5 ∨ i = 6 ∨ i = 7 ∨ i = 8 ∨ i = 9 ∨ i = 10 ∨ i = 11 ∨ i = 12 ∨ i = 13 ∨ i = 14 ∨ i = 15 ∨ i = 16 ∨ i = 17 ∨ i = 18 ∨ i = 19 ∨ i = 20 := by omega
  rcases h with rfl | rfl | rfl | rfl | rfl | rfl | rfl | rfl | rfl | rfl | rfl | rfl | rfl | rfl | rfl | rfl | rfl | rfl | rfl | rfl | rfl
  · exact z_0_0
  · exact z_1_0
  · exact z_2_0
  · exact z_3_0
  · exact z_4_0
  · exact z_5_0
  · exact z_6_0
  · exact z_7_0
  · exact z_8_0
  · exact z_9_0
  · exact z_10_0
  · exact z_11_0
  · exact z_12_0
  · exact z_13_0
  · exact z_14_0
  · exact z_15_0
  · exact z_16_0
  · exact z_17_0
  · exact z_18_0
  · exact z_19_0
  · exact z_20_0
section
variable [E : Amb]
theorem dig_ok (hi : Int) : ∀ (n p : Nat) (s : Int) (m : Nat), (∀ i, i < n + 1 → E.num (p + i) = ((m / 10 ^ i % 10 : Nat) : Int)) → 10 ^ n ≤ m → m < 10 ^ (n + 1) → ((m / 10 ^ n : Nat) : Int) ≤ hi → OkS Ren.nil (dig s p hi (n + 1)) ∧ sumR Ren.nil (dig s p hi (n + 1)) = s * (m : Int)
  | 0, p, s, m, h, h1, h2, h3 => by
    have e : E.num p = (m : Int) := by have := h 0 (by omega); simp at this h1 h2; omega
    simp at h1 h2 h3
    refine ⟨OkS.cons ⟨by show 1 ≤ E.num p; omega, by show E.num p ≤ hi; omega⟩ OkS.nil, ?_⟩
    show s * E.num p + 0 = _
    rw [e]; omega
  | n + 1, p, s, m, h, h1, h2, h3 => by
    have e : E.num p = ((m % 10 : Nat) : Int) := by have := h 0 (by omega); simp at this; omega
    have ih := dig_ok hi n (p + 1) (10 * s) (m / 10) (fun i hi2 => by
      have := h (i + 1) (by omega)
      rw [show p + 1 + i = p + (i + 1) by omega, this, Nat.div_div_eq_div_mul, Nat.pow_succ, Nat.mul_comm]) (by rw [Nat.le_div_iff_mul_le (by decide), ← Nat.pow_succ]; exact h1) (by
      rw [Nat.div_lt_iff_lt_mul (by decide), ← Nat.pow_succ]; exact h2) (by rw [Nat.div_div_eq_div_mul, Nat.mul_comm, ← Nat.pow_succ]; exact h3)
    refine ⟨OkS.cons ⟨by show 0 ≤ E.num p; omega, by show E.num p ≤ 9; omega⟩ ih.1, ?_⟩
    show s * E.num p + sumR Ren.nil (dig (10 * s) (p + 1) hi (n + 1)) = _
    rw [ih.2, e, Int.mul_comm 10 s, Int.mul_assoc, ← Int.mul_add]
    congr 1; omega
end
theorem tot_digits {num : Nat → Int} : ∀ (n p m : Nat), (∀ i, i < n → num (p + i) = ((m / 10 ^ i % 10 : Nat) : Int)) → m < 10 ^ n → tot num p n = (m : Int)
  | 0, p, m, _, h => by simp at h; subst h; rfl
  | n + 1, p, m, h, hm => by
    have e : num p = ((m % 10 : Nat) : Int) := by have := h 0 (by omega); simp at this; omega
    rw [tot, tot_digits n (p + 1) (m / 10) (fun i hi => by
      have := h (i + 1) (by omega)
      rw [show p + 1 + i = p + (i + 1) by omega, this, Nat.div_div_eq_div_mul, Nat.pow_succ, Nat.mul_comm]) (by rw [Nat.div_lt_iff_lt_mul (by decide), ← Nat.pow_succ]; exact hm), e]
    omega
end Go.Proofs.YtbfdgdigaiimgaaDoor.HM
namespace Go.Proofs.YtbfdgdigaiimgaaDoor.Sel
open Go Go.RowKit
def dl (m : Nat) : List Int := (List.range 10).map fun i => ((m / 10 ^ i % 10 : Nat) : Int)
def zs (a b : Int) : List Int := dl a.toNat ++ (dl (-a).toNat ++ (dl b.natAbs ++ dl 0))
theorem ten {P : Nat → Prop} (h : P 0 ∧ P 1 ∧ P 2 ∧ P 3 ∧ P 4 ∧ P 5 ∧ P 6 ∧ P 7 ∧ P 8 ∧ P 9) (i : Nat) (hi : i < 10) : P i := by
  have e : i = 0 ∨ i = 1 ∨ i = 2 ∨ i = 3 ∨ i = 4 ∨ i = 5 ∨ i = 6 ∨ i = 7 ∨ i = 8 ∨ i = 9 := by omega
  obtain ⟨h0, h1, h2, h3, h4, h5, h6, h7, h8, h9⟩ := h
  rcases e with rfl | rfl | rfl | rfl | rfl | rfl | rfl | rfl | rfl | rfl <;> assumption
def numF (a b : Int) (n : Nat) : Int := if n < 4000 then (dl a.natAbs ++ dl b.natAbs).getD n 0 else if n < 4040 then (zs a b).getD (n - 4000) 0 else 0
theorem num_a (a b : Int) (i : Nat) (hi : i < 10) : numF a b (0 + i) = ((a.natAbs / 10 ^ i % 10 : Nat) : Int) := ten (P := fun i => numF a b (0 + i) = ((a.natAbs / 10 ^ i % 10 : Nat) : Int)) ⟨rfl, rfl, rfl, rfl, rfl, rfl, rfl, rfl, rfl, rfl⟩ i hi
theorem num_b (a b : Int) (i : Nat) (hi : i < 10) : numF a b (10 + i) = ((b.natAbs / 10 ^ i % 10 : Nat) : Int) := ten (P := fun i => numF a b (10 + i) = ((b.natAbs / 10 ^ i % 10 : Nat) : Int)) ⟨rfl, rfl, rfl, rfl, rfl, rfl, rfl, rfl, rfl, rfl⟩ i hi
theorem num_0 (a b : Int) (i : Nat) (hi : i < 10) : numF a b (4000 + i) = ((a.toNat / 10 ^ i % 10 : Nat) : Int) := ten (P := fun i => numF a b (4000 + i) = ((a.toNat / 10 ^ i % 10 : Nat) : Int)) ⟨rfl, rfl, rfl, rfl, rfl, rfl, rfl, rfl, rfl, rfl⟩ i hi
theorem num_1 (a b : Int) (i : Nat) (hi : i < 10) : numF a b (4010 + i) = (((-a).toNat / 10 ^ i % 10 : Nat) : Int) := ten (P := fun i => numF a b (4010 + i) = (((-a).toNat / 10 ^ i % 10 : Nat) : Int)) ⟨rfl, rfl, rfl, rfl, rfl, rfl, rfl, rfl, rfl, rfl⟩ i hi
theorem num_2 (a b : Int) (i : Nat) (hi : i < 10) : numF a b (4020 + i) = ((b.natAbs / 10 ^ i % 10 : Nat) : Int) := ten (P := fun i => numF a b (4020 + i) = ((b.natAbs / 10 ^ i % 10 : Nat) : Int)) ⟨rfl, rfl, rfl, rfl, rfl, rfl, rfl, rfl, rfl, rfl⟩ i hi
theorem num_3 (a b : Int) (i : Nat) (hi : i < 10) : numF a b (4030 + i) = ((0 / 10 ^ i % 10 : Nat) : Int) := ten (P := fun i => numF a b (4030 + i) = ((0 / 10 ^ i % 10 : Nat) : Int)) ⟨rfl, rfl, rfl, rfl, rfl, rfl, rfl, rfl, rfl, rfl⟩ i hi
abbrev In (a b : Int) : Prop := -2147483648 ≤ a ∧ a < 2147483648 ∧ -2147483648 < b ∧ b < 2147483648
abbrev amb {a b : Int} (h : In a b) : HM.Amb := HM.Amb.nums4 (dl a.natAbs ++ dl b.natAbs) (zs a b) fun g hg => by
  obtain ⟨h1, h2, h3, h4⟩ := h
  have e : g = 0 ∨ g = 1 ∨ g = 2 ∨ g = 3 := by omega
  show 0 ≤ HM.tot (numF a b) (4000 + 10 * g) 10 ∧ HM.tot (numF a b) (4000 + 10 * g) 10 ≤ HM.capG g
  rcases e with rfl | rfl | rfl | rfl
  · rw [HM.tot_digits 10 _ a.toNat (num_0 a b) (by omega)]; unfold HM.capG; rw [if_pos (by decide)]; omega
  · rw [HM.tot_digits 10 _ (-a).toNat (num_1 a b) (by omega)]; unfold HM.capG; rw [if_neg (by decide)]; omega
  · rw [HM.tot_digits 10 _ b.natAbs (num_2 a b) (by omega)]; unfold HM.capG; rw [if_pos (by decide)]; omega
  · rw [HM.tot_digits 10 _ 0 (num_3 a b) (by omega)]; unfold HM.capG; rw [if_neg (by decide)]; omega
theorem len_of {m : Nat} (h0 : m ≠ 0) (h : m < 10 ^ 10) : ∃ n, n ≤ 9 ∧ 10 ^ n ≤ m ∧ m < 10 ^ (n + 1) := by
  have e : m < 10 ∨ (10 ≤ m ∧ m < 100) ∨ (100 ≤ m ∧ m < 1000) ∨ (1000 ≤ m ∧ m < 10000) ∨ (10000 ≤ m ∧ m < 100000) ∨ (100000 ≤ m ∧ m < 1000000) ∨ (1000000 ≤ m ∧ m < 10000000) ∨ (10000000 ≤ m ∧ m < 100000000) ∨ (100000000 ≤ m ∧ m < 1000000000) ∨ (1000000000 ≤ m ∧ m < 10000000000) := by omega
  rcases e with e | e | e | e | e | e | e | e | e | e
  · exact ⟨0, by omega, by omega, by omega⟩
  · exact ⟨1, by omega, by omega, by omega⟩
  · exact ⟨2, by omega, by omega, by omega⟩
  · exact ⟨3, by omega, by omega, by omega⟩
  · exact ⟨4, by omega, by omega, by omega⟩
  · exact ⟨5, by omega, by omega, by omega⟩
  · exact ⟨6, by omega, by omega, by omega⟩
  · exact ⟨7, by omega, by omega, by omega⟩
  · exact ⟨8, by omega, by omega, by omega⟩
  · exact ⟨9, by omega, by omega, by omega⟩
theorem nine {P : Nat → Prop} (h : P 0 ∧ P 1 ∧ P 2 ∧ P 3 ∧ P 4 ∧ P 5 ∧ P 6 ∧ P 7 ∧ P 8) (i : Nat) (hi : i ≤ 8) : P i := by
  have e : i = 0 ∨ i = 1 ∨ i = 2 ∨ i = 3 ∨ i = 4 ∨ i = 5 ∨ i = 6 ∨ i = 7 ∨ i = 8 := by omega
  obtain ⟨h0, h1, h2, h3, h4, h5, h6, h7, h8⟩ := h
  rcases e with rfl | rfl | rfl | rfl | rfl | rfl | rfl | rfl | rfl <;> assumption
theorem shA_p (n : Nat) (h : n ≤ 8) : HM.shA (n + 1) = .lin .i64 0 (HM.dig 1 0 9 (n + 1)) := nine (P := fun n => HM.shA (n + 1) = .lin .i64 0 (HM.dig 1 0 9 (n + 1))) ⟨rfl, rfl, rfl, rfl, rfl, rfl, rfl, rfl, rfl⟩ n h
theorem shA_n (n : Nat) (h : n ≤ 8) : HM.shA (n + 11) = .lin .i64 0 (HM.dig (Int.negSucc 0) 0 9 (n + 1)) := nine (P := fun n => HM.shA (n + 11) = .lin .i64 0 (HM.dig (Int.negSucc 0) 0 9 (n + 1))) ⟨rfl, rfl, rfl, rfl, rfl, rfl, rfl, rfl, rfl⟩ n h
theorem shB_p (n : Nat) (h : n ≤ 8) : HM.shB (n + 1) = .lin .i64 0 (HM.dig 1 10 9 (n + 1)) := nine (P := fun n => HM.shB (n + 1) = .lin .i64 0 (HM.dig 1 10 9 (n + 1))) ⟨rfl, rfl, rfl, rfl, rfl, rfl, rfl, rfl, rfl⟩ n h
theorem shB_n (n : Nat) (h : n ≤ 8) : HM.shB (n + 11) = .lin .i64 0 (HM.dig (Int.negSucc 0) 10 9 (n + 1)) := nine (P := fun n => HM.shB (n + 11) = .lin .i64 0 (HM.dig (Int.negSucc 0) 10 9 (n + 1))) ⟨rfl, rfl, rfl, rfl, rfl, rfl, rfl, rfl, rfl⟩ n h
theorem top_le {n m : Nat} (h : m < 10 ^ (n + 1)) : ((m / 10 ^ n : Nat) : Int) ≤ 9 := by
  have : m / 10 ^ n < 10 := by rw [Nat.div_lt_iff_lt_mul (Nat.pow_pos (by decide)), Nat.mul_comm, ← Nat.pow_succ]; exact h
  omega
theorem shape_a {a b : Int} (h : In a b) (h0 : a ≠ 0) : letI := amb h; ∃ i, 1 ≤ i ∧ i ≤ 20 ∧ HM.VR HM.Ren.nil (HM.shA i) (.int .i64 a) := by
  letI := amb h
  obtain ⟨n, n9, n1, n2⟩ := len_of (m := a.natAbs) (by omega) (by have := h.1; have := h.2.1; omega)
  by_cases n8 : n ≤ 8
  · by_cases hp : 0 ≤ a
    · refine ⟨n + 1, by omega, by omega, ?_⟩
      rw [shA_p n n8]
      have k := HM.dig_ok 9 n 0 1 a.natAbs (fun i hi => num_a a b i (by omega)) n1 n2 (top_le n2)
      exact .lin _ _ _ _ k.1 (by rw [k.2]; omega)
    · refine ⟨n + 11, by omega, by omega, ?_⟩
      rw [shA_n n n8]
      have k := HM.dig_ok 9 n 0 (Int.negSucc 0) a.natAbs (fun i hi => num_a a b i (by omega)) n1 n2 (top_le n2)
      exact .lin _ _ _ _ k.1 (by rw [k.2]; omega)
  · obtain rfl : n = 9 := by omega
    obtain ⟨h1, h2, h3, h4⟩ := h
    by_cases hp : 0 ≤ a
    · refine ⟨10, by omega, by omega, ?_⟩
      have k := HM.dig_ok 2 9 4000 1 a.toNat (fun i hi => num_0 a b i (by omega)) (by omega) (by omega) (by omega)
      exact .lin _ _ _ _ k.1 (by rw [k.2]; omega)
    · refine ⟨20, by omega, by omega, ?_⟩
      have k := HM.dig_ok 2 9 4010 (Int.negSucc 0) (-a).toNat (fun i hi => num_1 a b i (by omega)) (by omega) (by omega) (by omega)
      exact .lin _ _ _ _ k.1 (by rw [k.2]; omega)
theorem shape_b {a b : Int} (h : In a b) (h0 : b ≠ 0) : letI := amb h; ∃ i, 1 ≤ i ∧ i ≤ 20 ∧ HM.VR HM.Ren.nil (HM.shB i) (.int .i64 b) := by
  letI := amb h
  obtain ⟨n, n9, n1, n2⟩ := len_of (m := b.natAbs) (by omega) (by have := h.2.2.1; have := h.2.2.2; omega)
  by_cases n8 : n ≤ 8
  · by_cases hp : 0 ≤ b
    · refine ⟨n + 1, by omega, by omega, ?_⟩
      rw [shB_p n n8]
      have k := HM.dig_ok 9 n 10 1 b.natAbs (fun i hi => num_b a b i (by omega)) n1 n2 (top_le n2)
      exact .lin _ _ _ _ k.1 (by rw [k.2]; omega)
    · refine ⟨n + 11, by omega, by omega, ?_⟩
      rw [shB_n n n8]
      have k := HM.dig_ok 9 n 10 (Int.negSucc 0) b.natAbs (fun i hi => num_b a b i (by omega)) n1 n2 (top_le n2)
      exact .lin _ _ _ _ k.1 (by rw [k.2]; omega)
  · obtain rfl : n = 9 := by omega
    obtain ⟨h1, h2, h3, h4⟩ := h
    by_cases hp : 0 ≤ b
    · refine ⟨10, by omega, by omega, ?_⟩
      have k := HM.dig_ok 2 9 4020 1 b.natAbs (fun i hi => num_2 a b i (by omega)) (by omega) (by omega) (by omega)
      exact .lin _ _ _ _ k.1 (by rw [k.2]; omega)
    · refine ⟨20, by omega, by omega, ?_⟩
      have k := HM.dig_ok 2 9 4020 (Int.negSucc 0) b.natAbs (fun i hi => num_2 a b i (by omega)) (by omega) (by omega) (by omega)
      exact .lin _ _ _ _ k.1 (by rw [k.2]; omega)
abbrev Good (a b k : Int) (W : World) : Prop := Calls Tryd.prog 3 #[.int .i64 a, .int .i64 b, .int .i64 k] W fun e W' => e = .returned (.bool true) ∧ Below W.heap.size W W'
set_option maxRecDepth 10000 in
theorem back_out (a b k : Int) (h : ¬ In a b) {W : World} (hT : HM.Tabs W) : Good a b k W := by
  letI : HM.Amb := HM.Amb.none
  have aw := HM.awake_c hT
  go_enter Tryd.func3, Tryd.ntmps3
  go_wp2_with (first | (go_at_call 6; refine aw.mono ?_; rintro e w' ⟨rfl, hb⟩))
  all_goals first
    | (exfalso; omega)
    | (go_ret; exact ⟨rfl, hb⟩)
theorem back_in (a b k : Int) (h : In a b) {W : World} (hT : HM.Tabs W) : Good a b k W := by
  letI := amb h
  by_cases ha : a = 0
  · subst ha
    by_cases hb : b = 0
    · subst hb
      exact HM.law_cM' (HM.zero_b 0 (by omega)) (HM.VRs.cons (.int .i64 0) (HM.VRs.cons (.int .i64 0) (HM.VRs.cons (.any _) (HM.VRs.nil _)))) hT
    · obtain ⟨j, j1, j2, hj⟩ := shape_b h hb
      exact HM.law_cM' (HM.zero_b j j2) (HM.VRs.cons (.int .i64 0) (HM.VRs.cons hj (HM.VRs.cons (.any _) (HM.VRs.nil _)))) hT
  · obtain ⟨i, i1, i2, hi⟩ := shape_a h ha
    by_cases hb : b = 0
    · subst hb
      exact HM.law_cM' (HM.zero_a i i2) (HM.VRs.cons hi (HM.VRs.cons (.int .i64 0) (HM.VRs.cons (.any _) (HM.VRs.nil _)))) hT
    · obtain ⟨j, j1, j2, hj⟩ := shape_b h hb
      exact HM.law_cM' (HM.rows_k i j (k % 7).toNat i1 i2 j1 j2 (by omega)) (HM.VRs.cons hi (HM.VRs.cons hj (HM.VRs.cons (.mod 7 _ k (by decide) (by omega)) (HM.VRs.nil _)))) hT
theorem back_all (a b k : Int) {W : World} (hT : HM.Tabs W) : Good a b k W := by
  by_cases h : In a b
  · exact back_in a b k h hT
  · exact back_out a b k h hT
end Go.Proofs.YtbfdgdigaiimgaaDoor.Sel
