/- Letters' and Roman numbers: registry.New and Text with a number that nobody knows. -/
import Derived.Test.YtmgjgdnjkgnbiaaGreatDoorGE
import Derived.Test.YtmgjgdnjkgnbiaaGreatDoorGM
namespace Go.Proofs.YtmgjgdnjkgnbiaaGreatDoor.HM
open Go Go.RowKit
def lowL : List (List UInt8) := [[97], [98], [99], [100], [101], [102], [103], [104], [105], [106], [107], [108], [109], [110], [111], [112], [113], [114], [115], [116], [117], [118], [119], [120], [121], [122]]
def uppL : List (List UInt8) := [[65], [66], [67], [68], [69], [70], [71], [72], [73], [74], [75], [76], [77], [78], [79], [80], [81], [82], [83], [84], [85], [86], [87], [88], [89], [90]]
def grkL : List (List UInt8) := [[206, 177], [206, 178], [206, 179], [206, 180], [206, 181], [206, 182], [206, 183], [206, 184], [206, 185], [206, 186], [206, 187], [206, 188], [206, 189], [206, 190], [206, 191], [207, 128], [207, 129], [207, 131], [207, 132], [207, 133], [207, 134], [207, 135], [207, 136], [207, 137]]
def SL : List Sty := [⟨false, lowL, 100, 3000⟩, ⟨false, uppL, 4196, 3001⟩, ⟨false, grkL, 8292, 3002⟩]
def SRom : List Sty := [⟨true, Reg.loR, 100, 3000⟩, ⟨true, Reg.upR, 4196, 3001⟩]
variable [E : Amb]
noncomputable def extraS (S : List Sty) : FuncId → Option Spec := fun g => Bool.rec (motive := fun _ => Option Spec) (Bool.rec (motive := fun _ => Option Spec) (extraA g) (some (signsS S)) (Nat.beq g 52)) (some (runeS S)) (Nat.beq g 30)
theorem extraS_ok {S : List Sty} (K : KnownS S) (f : FuncId) (s : Spec) (h : extraS S f = some s) : CalleeOk Tryz.prog gam f s := by
  revert h
  show Bool.rec (motive := fun _ => Option Spec) (Bool.rec (motive := fun _ => Option Spec) (extraA f) (some (signsS S)) (Nat.beq f 52)) (some (runeS S)) (Nat.beq f 30) = some s → _
  cases h1 : Nat.beq f 30 with
  | true =>
    intro h; obtain rfl := Option.some.inj h
    obtain rfl := Nat.eq_of_beq_eq_true h1
    exact .inl ⟨by kernel_rfl, runeS_sound K⟩
  | false =>
    cases h0 : Nat.beq f 52 with
    | true =>
      intro h; obtain rfl := Option.some.inj h
      obtain rfl := Nat.eq_of_beq_eq_true h0
      exact .inl ⟨by kernel_rfl, signsS_sound K⟩
    | false => exact extraA_ok f s
noncomputable def goS (S : List Sty) : FuncId → Spec := fun f => runX Tryz.prog gam (inTr pur) (inTr clo) ext bod (extraS S) ftab 1000 60 f
theorem goS_sound {S : List Sty} (K : KnownS S) (f : FuncId) : Sound Tryz.prog gam f (goS S f) := runX_sound (prog_ok (extraS_ok K)) tab_ok _ _
noncomputable def fstO : Option (V × Hp) → V := fun o => Option.rec (motive := fun _ => V) (.tup []) (fun p => p.1) o
noncomputable def sndO : Option (V × Hp) → Hp := fun o => Option.rec (motive := fun _ => Hp) Hp.empty (fun p => p.2) o
noncomputable def isSo : Option (V × Hp) → Bool := fun o => Option.rec (motive := fun _ => Bool) false (fun _ => true) o
noncomputable def isO (i : Nat) : Option (V × Hp) → Bool := fun o => Option.rec (motive := fun _ => Bool) false (fun p => V.same p.1 (.mod 0 i)) o
noncomputable def isP : Option (V × Hp) → Bool := fun o => Option.rec (motive := fun _ => Bool) false (fun p => V.rec (motive_1 := fun _ => Bool) (motive_2 := fun _ => Unit) (fun _ => false) (fun _ _ => false) (fun _ => false) false false (fun _ _ => true) (fun _ _ => false) false (fun _ _ _ _ => false) false (fun _ => false) false (fun _ _ _ _ _ => false) false (fun _ _ _ => false) (fun _ _ => false) (fun _ _ => false) false (fun _ _ => false) false (fun _ _ _ => false) (fun _ _ => false) (fun _ _ _ _ => false) (fun _ _ => false) (fun _ _ => false) () (fun _ _ _ _ => ()) p.1) o
def nV (hi : Int) : V := .lin .i64 0 [⟨1, 0, 1, hi⟩]
def lowN : List UInt8 := [108,111,119,101,114,45,97,108,112,104,97]
def uppN : List UInt8 := [117,112,112,101,114,45,97,108,112,104,97]
def grkN : List UInt8 := [108,111,119,101,114,45,103,114,101,101,107]
def loRN : List UInt8 := [108,111,119,101,114,45,114,111,109,97,110]
def upRN : List UInt8 := [85,80,80,69,82,45,114,111,109,97,110]
noncomputable def r0 : Option (V × Hp) := goC 11 [.nils] Hp.empty
noncomputable def rT (S : List Sty) (name : List UInt8) (hi : Int) (o : Option (V × Hp)) : Option (V × Hp) := goS S 12 [fstO r0, .str name, nV hi] (sndO o)
omit [E : Amb] in
theorem let_low : (isP r0 && (isO 100 (rT SL lowN 2147483647 r0) && isO 8292 (rT SL grkN 2147483647 (rT SL lowN 2147483647 r0)))) = true := by kernel_rfl
omit [E : Amb] in
theorem let_upp : (isO 4196 (rT SL uppN 2147483647 r0) && isO 8292 (rT SL grkN 2147483647 (rT SL uppN 2147483647 r0))) = true := by kernel_rfl
omit [E : Amb] in
theorem rom_low : isO 100 (rT SRom loRN 3999 r0) = true := by kernel_rfl
omit [E : Amb] in
theorem rom_upp : isO 4196 (rT SRom upRN 3999 r0) = true := by kernel_rfl
end Go.Proofs.YtmgjgdnjkgnbiaaGreatDoor.HM
