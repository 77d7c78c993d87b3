/-
  DERIVED. GIVEN WITH THE SEED: THE CARDS: each row of YtkpoeilfnopgbaaGreatDoorRows.lean that lists a variable, with what it lists TIED to the program's text (the seventh form; the later family's looks); each row that meets fmt, with fmt's text TOLD by the authors' own Lean function (tested against real Go, not proved from fmt's source: count such statements apart). THE CARD IS WHAT COUNTS. Prove the row's statement (the work); the ties are given (YtkpoeilfnopgbaaGreatDoorTie.lean); close each card by the builder's one call (the guide's Derived/Test/ToyasCard.lean, 'card_holds'). Laid BY PROGRAM, IN A SANDBOX (cutbox-door.mjs). By AI agents, Wed Nov 11 2026. No macro, syntax, notation, axiom, sorry.
-/
import Derived.Test.YtkpoeilfnopgbaaGreatDoorRows
import GoSem.ClaimSeven
namespace Go.Proofs.YtkpoeilfnopgbaaGreatDoor
namespace Rows

/-- THE TIED CARD OF 'fleuronlaw14.ComputedOf'. -/
def computedOfCard : Claim7 := { stood := { row := computedOfRow, standIns := [], harness := (true, "63fe2767a1985875b06b837b3708aea2830b12c039f126adc183d3ac2356e4ab"), looks := false }, kinds := [], alts := [], laidByText := true, laidKinds := [.data, .listed, .data, .pinned], laidTests := true, laidLooks := .later }
def ComputedOfCardSaid : Prop := Claim7.holds Tryz.pinned (.plain (OpenSpec.ofChange computedOfSpec)) computedOfCard

/-- THE TIED CARD OF 'fleuronlaw14.ComputedWides'. -/
def computedWidesCard : Claim7 := { stood := { row := computedWidesRow, standIns := [], harness := (true, "63fe2767a1985875b06b837b3708aea2830b12c039f126adc183d3ac2356e4ab"), looks := false }, kinds := [], alts := [], laidByText := true, laidKinds := [.data, .listed, .data, .pinned], laidTests := true, laidLooks := .later }
def ComputedWidesCardSaid : Prop := Claim7.holds Tryz.pinned (.plain (OpenSpec.ofChange computedWidesSpec)) computedWidesCard

/-- THE SECOND FORM's CARD OF 'fleuronlaw14.ComputedOf'. -/
def computedOfUptoCard : Claim7 := { stood := { row := computedOfUptoRow, standIns := [], harness := (true, "63fe2767a1985875b06b837b3708aea2830b12c039f126adc183d3ac2356e4ab"), looks := false }, kinds := [], alts := [], laidByText := true, laidKinds := [.data, .listed, .data, .pinned], laidTests := true, laidLooks := .later }
def ComputedOfUptoCardSaid : Prop := Claim7.holds Tryz.pinned (.plain (OpenSpec.upto computedOfSpec)) computedOfUptoCard

/-- THE SECOND FORM's CARD OF 'fleuronlaw14.ComputedWides'. -/
def computedWidesUptoCard : Claim7 := { stood := { row := computedWidesUptoRow, standIns := [], harness := (true, "63fe2767a1985875b06b837b3708aea2830b12c039f126adc183d3ac2356e4ab"), looks := false }, kinds := [], alts := [], laidByText := true, laidKinds := [.data, .listed, .data, .pinned], laidTests := true, laidLooks := .later }
def ComputedWidesUptoCardSaid : Prop := Claim7.holds Tryz.pinned (.plain (OpenSpec.upto computedWidesSpec)) computedWidesUptoCard
end Rows
end Go.Proofs.YtkpoeilfnopgbaaGreatDoor
