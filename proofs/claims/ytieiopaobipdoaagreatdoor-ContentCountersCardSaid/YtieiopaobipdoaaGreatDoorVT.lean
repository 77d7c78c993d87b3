/- registry.New(nil) and Text, in a walk: what they give at four names and numbers below 50. -/
import Derived.Test.YtieiopaobipdoaaGreatDoorTGE
import Derived.Test.YtieiopaobipdoaaGreatDoorHW
import Derived.Test.YtieiopaobipdoaaGreatDoorPE
namespace Go.Proofs.YtieiopaobipdoaaGreatDoor.HM
open Go Go.RowKit
variable [E : Amb]
noncomputable def fstO : Option (V × Hp) → V := fun o => Option.rec (motive := fun _ => V) (.tup []) (fun p => p.1) o
noncomputable def sndO : Option (V × Hp) → Hp := fun o => Option.rec (motive := fun _ => Hp) Hp.empty (fun p => p.2) o
def nmL : List (List UInt8) := [[100,101,99,105,109,97,108], [117,112,112,101,114,45,114,111,109,97,110], [110,111,110,101], [108,111,119,101,114,45,97,108,112,104,97]]
noncomputable def r0 : Option (V × Hp) := goK 12 [.nils] Hp.empty
noncomputable def tR (i n : Nat) : Option (V × Hp) := goK 16 [fstO r0, .str (nmL.getD i []), .int .i64 (.ofNat n)] (sndO r0)
noncomputable def okR (i n : Nat) : Bool := match tR i n with
  | some (.str l, h') => Nat.ble l.length 100 && Hp.back (sndO r0) h'
  | _ => false
noncomputable def txL (i n : Nat) : List UInt8 := match tR i n with
  | some (.str l, _) => l
  | _ => []
noncomputable def isP : Option (V × Hp) → Bool := fun o => match o with
  | some (.ptr a _, h) => domT h.els h.t && Nat.blt a h.next
  | _ => false
omit [E : Amb] in
theorem new_ok : isP r0 = true := by kernel_rfl
end Go.Proofs.YtieiopaobipdoaaGreatDoor.HM
