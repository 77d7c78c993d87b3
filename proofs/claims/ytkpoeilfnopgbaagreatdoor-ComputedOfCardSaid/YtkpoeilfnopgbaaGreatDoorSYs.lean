/- DERIVED: THE SHELF's CONTRACTS AT THIS DUMP, IN PLAIN WORDS (tools/lay-plain.mjs out of 'YtkpoeilfnopgbaaGreatDoorShelfT.lean', which tools/lay-shelf.mjs wrote): THE SAME DECLARATIONS UNDER THE SAME NAMES: 'import', 'namespace', 'open', 'def', 'theorem' AND NOTHING ELSE: no command of the shelf's: FOR A HAND-IN. Each laying: the table of numbers ('.._ren') and one theorem, a field a fact of the dump's own or the kernel's comparison; each contract: ONE APPLICATION. -/
import Derived.Shelf.Strings.Fields
import Derived.Shelf.Slices.Turned
import Derived.Ground.NamesProg
import Derived.Test.YtkpoeilfnopgbaaGreatDoorProg
namespace Go.Proofs
open Go.Shelf
def Tryz.lays157_ren : Go.Shelf.Ren := ⟨fun | 157 => 39 | 229 => 62 | 199 => 63 | 261 => 79 | 311 => 109 | 312 => 110 | n => n, fun | 9 => 9 | 31 => 24 | 3 => 3 | 5 => 5 | 4 => 4 | 119 => 142 | 0 => 0 | 40 => 144 | 152 => 182 | 21 => 21 | 154 => 184 | 51 => 185 | 141 => 187 | 196 => 212 | 193 => 209 | 198 => 215 | 49 => 213 | 194 => 210 | 201 => 218 | 226 => 239 | 46 => 240 | 227 => 241 | n => n, fun | 0 => 0 | 6 => 1 | n => n⟩
theorem Tryz.lays157 : Go.Proofs.Lays.n157 Tryz.prog Tryz.lays157_ren := {
  mixed := by kernel_rfl
  f157 := Tryz.func39.trans (congrArg some (by kernel_rfl))
  f199 := Tryz.func63.trans (congrArg some (by kernel_rfl))
  f229 := Tryz.func62.trans (congrArg some (by kernel_rfl))
  f261 := Tryz.func79.trans (congrArg some (by kernel_rfl))
  f311 := Tryz.func109.trans (congrArg some (by kernel_rfl))
  f312 := Tryz.func110.trans (congrArg some (by kernel_rfl))
  t0 := Tryz.underlying0
  a0 := Tryz.isAgg0
  z0 := Tryz.sizeOf0
  v0 := Tryz.zeroValue0
  t3 := Tryz.underlying3
  a3 := Tryz.isAgg3
  z3 := Tryz.sizeOf3
  v3 := Tryz.zeroValue3
  t4 := Tryz.underlying4
  a4 := Tryz.isAgg4
  z4 := Tryz.sizeOf4
  v4 := Tryz.zeroValue4
  t5 := Tryz.underlying5
  a5 := Tryz.isAgg5
  z5 := Tryz.sizeOf5
  v5 := Tryz.zeroValue5
  t9 := Tryz.underlying9
  a9 := Tryz.isAgg9
  z9 := Tryz.sizeOf9
  v9 := Tryz.zeroValue9
  t21 := Tryz.underlying21
  a21 := Tryz.isAgg21
  z21 := Tryz.sizeOf21
  v21 := Tryz.zeroValue21
  t31 := Tryz.underlying24
  a31 := Tryz.isAgg24
  z31 := Tryz.sizeOf24
  v31 := Tryz.zeroValue24
  t40 := Tryz.underlying144
  a40 := Tryz.isAgg144
  z40 := Tryz.sizeOf144
  v40 := Tryz.zeroValue144
  t46 := Tryz.underlying240
  a46 := Tryz.isAgg240
  z46 := Tryz.sizeOf240
  v46 := Tryz.zeroValue240
  t49 := Tryz.underlying213
  a49 := Tryz.isAgg213
  z49 := Tryz.sizeOf213
  v49 := Tryz.zeroValue213
  t51 := Tryz.underlying185
  a51 := Tryz.isAgg185
  z51 := Tryz.sizeOf185
  v51 := Tryz.zeroValue185
  t119 := Tryz.underlying142
  a119 := Tryz.isAgg142
  z119 := Tryz.sizeOf142
  t141 := Tryz.underlying187
  a141 := Tryz.isAgg187
  z141 := Tryz.sizeOf187
  v141 := Tryz.zeroValue187
  t152 := Tryz.underlying182
  a152 := Tryz.isAgg182
  z152 := Tryz.sizeOf182
  v152 := Tryz.zeroValue182
  t154 := Tryz.underlying184
  a154 := Tryz.isAgg184
  z154 := Tryz.sizeOf184
  v154 := Tryz.zeroValue184
  t193 := Tryz.underlying209
  a193 := Tryz.isAgg209
  z193 := Tryz.sizeOf209
  v193 := Tryz.zeroValue209
  t194 := Tryz.underlying210
  a194 := Tryz.isAgg210
  z194 := Tryz.sizeOf210
  v194 := Tryz.zeroValue210
  t196 := Tryz.underlying212
  a196 := Tryz.isAgg212
  z196 := Tryz.sizeOf212
  v196 := Tryz.zeroValue212
  t198 := Tryz.underlying215
  a198 := Tryz.isAgg215
  z198 := Tryz.sizeOf215
  v198 := Tryz.zeroValue215
  t201 := Tryz.underlying218
  a201 := Tryz.isAgg218
  z201 := Tryz.sizeOf218
  v201 := Tryz.zeroValue218
  t226 := Tryz.underlying239
  a226 := Tryz.isAgg239
  z226 := Tryz.sizeOf239
  v226 := Tryz.zeroValue239
  t227 := Tryz.underlying241
  a227 := Tryz.isAgg241
  z227 := Tryz.sizeOf241
  v227 := Tryz.zeroValue241
  g0 := by kernel_rfl
  g6 := by kernel_rfl }
open Go.RowKit Go.Lib in
theorem Tryz.strings_Fields (s : ByteArray) (w : World) (hs : s.size < 4294967281) (hascii : ∀ (j : Nat) b, s.data.toList[j]? = some b → b.toNat < 128) (htab : Lib.TabIs Tryz.prog w "strings.asciiSpace" .u8 Lib.asciiSpaceTab) :
    Calls Tryz.prog 39 #[.string s] w fun e w' =>
      e = .returned (.slice (some ⟨w.heap.size, 0, none⟩) (Lib.fields s.data.toList).length (Lib.fields s.data.toList).length) ∧ w' = w.alloc (.cells ((Lib.fields s.data.toList).map fun l => Value.string ⟨l.toArray⟩).toArray 9) := Any.strings_Fields Tryz.lays157 (by kernel_rfl) (by kernel_rfl) s w hs hascii htab
def Tryz.lays109_ren : Go.Shelf.Ren := ⟨fun | 109 => 61 | n => n, fun | 31 => 24 | 9 => 9 | 3 => 3 | 0 => 0 | 4 => 4 | n => n, fun | n => n⟩
theorem Tryz.lays109 : Go.Proofs.Lays.n109 Tryz.prog Tryz.lays109_ren := {
  mixed := by kernel_rfl
  f109 := Tryz.func61.trans (congrArg some (by kernel_rfl))
  t0 := Tryz.underlying0
  a0 := Tryz.isAgg0
  z0 := Tryz.sizeOf0
  v0 := Tryz.zeroValue0
  t3 := Tryz.underlying3
  a3 := Tryz.isAgg3
  z3 := Tryz.sizeOf3
  v3 := Tryz.zeroValue3
  t4 := Tryz.underlying4
  a4 := Tryz.isAgg4
  z4 := Tryz.sizeOf4
  v4 := Tryz.zeroValue4
  t9 := Tryz.underlying9
  a9 := Tryz.isAgg9
  z9 := Tryz.sizeOf9
  v9 := Tryz.zeroValue9
  t31 := Tryz.underlying24
  a31 := Tryz.isAgg24
  z31 := Tryz.sizeOf24
  v31 := Tryz.zeroValue24 }
open Go.Lib in
theorem Tryz.slices_Index_string (b off n c : Nat) (zs : List ByteArray) (x : ByteArray) (w : World) (hz : n ≤ zs.length) (hbig : n ≤ 9223372036854775807) (hc : ∀ j, j < zs.length → w.cell? ⟨b, off + j, none⟩ = some (.string (zs.getD j ByteArray.empty))) :
    Calls Tryz.prog 61 #[.slice (some ⟨b, off, none⟩) n c, .string x] w fun e w' => e = .returned (.int .i64 (Lib.idxOfS (zs.take n) x)) ∧ w' = w := Any.slices_Index_string Tryz.lays109 b off n c zs x w hz hbig hc
def Tryz.lays110_ren : Go.Shelf.Ren := ⟨fun | 110 => 38 | 109 => 61 | n => n, fun | 31 => 24 | 9 => 9 | 4 => 4 | 3 => 3 | 0 => 0 | n => n, fun | n => n⟩
theorem Tryz.lays110 : Go.Proofs.Lays.n110 Tryz.prog Tryz.lays110_ren := {
  mixed := by kernel_rfl
  f109 := Tryz.func61.trans (congrArg some (by kernel_rfl))
  f110 := Tryz.func38.trans (congrArg some (by kernel_rfl))
  t0 := Tryz.underlying0
  a0 := Tryz.isAgg0
  z0 := Tryz.sizeOf0
  v0 := Tryz.zeroValue0
  t3 := Tryz.underlying3
  a3 := Tryz.isAgg3
  z3 := Tryz.sizeOf3
  v3 := Tryz.zeroValue3
  t4 := Tryz.underlying4
  a4 := Tryz.isAgg4
  z4 := Tryz.sizeOf4
  v4 := Tryz.zeroValue4
  t9 := Tryz.underlying9
  a9 := Tryz.isAgg9
  z9 := Tryz.sizeOf9
  v9 := Tryz.zeroValue9
  t31 := Tryz.underlying24
  a31 := Tryz.isAgg24
  z31 := Tryz.sizeOf24
  v31 := Tryz.zeroValue24 }
open Go.Lib in
theorem Tryz.slices_Contains_string (b off n c : Nat) (zs : List ByteArray) (x : ByteArray) (w : World) (hz : n ≤ zs.length) (hbig : n ≤ 9223372036854775807) (hc : ∀ j, j < zs.length → w.cell? ⟨b, off + j, none⟩ = some (.string (zs.getD j ByteArray.empty))) :
    Calls Tryz.prog 38 #[.slice (some ⟨b, off, none⟩) n c, .string x] w fun e w' => e = .returned (.bool (Lib.containsS (zs.take n) x)) ∧ w' = w := Any.slices_Contains_string Tryz.lays110 b off n c zs x w hz hbig hc
end Go.Proofs
