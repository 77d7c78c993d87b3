/- strings.TrimLeft's contract laid at this program (as the kit's lay-plain.mjs writes it). -/
import Derived.Test.YtkcpoapbncpiiaaGreatDoorProg
import Derived.WalkKit
import Derived.Ground.NamesProg
import Derived.Shelf.Strings.SlTrimAscii
namespace Go.Proofs.YtkcpoapbncpiiaaGreatDoor.Num
open Go Go.Shelf Go.RowKit
def lays161_ren : Go.Shelf.Ren := ⟨fun | 161 => 58 | 231 => 85 | 227 => 86 | 233 => 87 | 235 => 88 | 228 => 121 | 197 => 122 | 151 => 123 | 260 => 147 | 152 => 148 | 137 => 167 | 119 => 168 | 224 => 169 | 225 => 170 | 217 => 182 | 266 => 187 | n => n, fun | 9 => 9 | 4 => 4 | 3 => 3 | 5 => 5 | 117 => 195 | 116 => 194 | 0 => 0 | 124 => 198 | 105 => 230 | 21 => 21 | 119 => 249 | 46 => 274 | 139 => 277 | 138 => 276 | n => n, fun | 3 => 2 | 4 => 3 | n => n⟩
theorem lays161 : Go.Proofs.Lays.n161 Tryz.prog lays161_ren := {
  mixed := by kernel_rfl
  f119 := Tryz.func168.trans (congrArg some (by kernel_rfl))
  f137 := Tryz.func167.trans (congrArg some (by kernel_rfl))
  f151 := Tryz.func123.trans (congrArg some (by kernel_rfl))
  f152 := Tryz.func148.trans (congrArg some (by kernel_rfl))
  f161 := Tryz.func58.trans (congrArg some (by kernel_rfl))
  f197 := Tryz.func122.trans (congrArg some (by kernel_rfl))
  f217 := Tryz.func182.trans (congrArg some (by kernel_rfl))
  f224 := Tryz.func169.trans (congrArg some (by kernel_rfl))
  f225 := Tryz.func170.trans (congrArg some (by kernel_rfl))
  f227 := Tryz.func86.trans (congrArg some (by kernel_rfl))
  f228 := Tryz.func121.trans (congrArg some (by kernel_rfl))
  f231 := Tryz.func85.trans (congrArg some (by kernel_rfl))
  f233 := Tryz.func87.trans (congrArg some (by kernel_rfl))
  f235 := Tryz.func88.trans (congrArg some (by kernel_rfl))
  f260 := Tryz.func147.trans (congrArg some (by kernel_rfl))
  f266 := Tryz.func187.trans (congrArg some (by kernel_rfl))
  t0 := Tryz.underlying0
  a0 := Tryz.isAgg0
  z0 := Tryz.sizeOf0
  v0 := Tryz.zeroValue0
  t3 := Tryz.underlying3
  a3 := Tryz.isAgg3
  z3 := Tryz.sizeOf3
  v3 := Tryz.zeroValue3
  t4 := Tryz.underlying4
  a4 := Tryz.isAgg4
  z4 := Tryz.sizeOf4
  v4 := Tryz.zeroValue4
  t5 := Tryz.underlying5
  a5 := Tryz.isAgg5
  z5 := Tryz.sizeOf5
  v5 := Tryz.zeroValue5
  t9 := Tryz.underlying9
  a9 := Tryz.isAgg9
  z9 := Tryz.sizeOf9
  v9 := Tryz.zeroValue9
  t21 := Tryz.underlying21
  a21 := Tryz.isAgg21
  z21 := Tryz.sizeOf21
  v21 := Tryz.zeroValue21
  t46 := Tryz.underlying274
  a46 := Tryz.isAgg274
  z46 := Tryz.sizeOf274
  v46 := Tryz.zeroValue274
  t105 := Tryz.underlying230
  a105 := Tryz.isAgg230
  z105 := Tryz.sizeOf230
  v105 := Tryz.zeroValue230
  t116 := Tryz.underlying194
  a116 := Tryz.isAgg194
  z116 := Tryz.sizeOf194
  t117 := Tryz.underlying195
  a117 := Tryz.isAgg195
  z117 := Tryz.sizeOf195
  v117 := Tryz.zeroValue195
  t119 := Tryz.underlying249
  a119 := Tryz.isAgg249
  z119 := Tryz.sizeOf249
  t124 := Tryz.underlying198
  a124 := Tryz.isAgg198
  z124 := Tryz.sizeOf198
  v124 := Tryz.zeroValue198
  t138 := Tryz.underlying276
  a138 := Tryz.isAgg276
  z138 := Tryz.sizeOf276
  v138 := Tryz.zeroValue276
  t139 := Tryz.underlying277
  a139 := Tryz.isAgg277
  z139 := Tryz.sizeOf277
  v139 := Tryz.zeroValue277
  g3 := by kernel_rfl
  g4 := by kernel_rfl }
theorem trimLeft_c (s : ByteArray) (w : World) : Calls Tryz.prog 58 #[.string s, .string ⟨#[43, 45]⟩] w fun e w' => e = .returned (.string ⟨(Lib.trimLeftS s.data.toList [43, 45]).toArray⟩) ∧ Below w.heap.size w w' := by
  have h := Go.Proofs.Any.strings_TrimLeft_laid lays161 (by kernel_rfl) s ⟨#[43, 45]⟩ w (by decide) (Go.Proofs.ascii_of_all (by decide))
  exact h
end Go.Proofs.YtkcpoapbncpiiaaGreatDoor.Num
