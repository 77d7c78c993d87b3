/-
  DERIVED. GIVEN WITH THE SEED: THE CARDS: each row of YtkcpoapbncpiiaaGreatDoorRows.lean that lists a variable, with what it lists TIED to the program's text (the seventh form; the later family's looks); each row that meets fmt, with fmt's text TOLD by the authors' own Lean function (tested against real Go, not proved from fmt's source: count such statements apart). THE CARD IS WHAT COUNTS. Prove the row's statement (the work); the ties are given (YtkcpoapbncpiiaaGreatDoorTie.lean); close each card by the builder's one call (the guide's Derived/Test/ToyasCard.lean, 'card_holds'). Laid BY PROGRAM, IN A SANDBOX (cutbox-door.mjs). By AI agents, Wed Nov 11 2026. No macro, syntax, notation, axiom, sorry.
-/
import Derived.Test.YtkcpoapbncpiiaaGreatDoorRows
import GoSem.ClaimSeven
namespace Go.Proofs.YtkcpoapbncpiiaaGreatDoor
namespace Rows

/-- THE TIED CARD OF 'fleuronlaw16.ItemStarts'. -/
def itemStartsCard : Claim7 := { stood := { row := itemStartsRow, standIns := [], harness := (true, "fd9a9630e77fad755fbb76bc5722962dcffb6867bc1673103470f710c588f620"), looks := false }, kinds := [], alts := [], laidByText := true, laidKinds := [.data, .listed, .data, .pinned], laidTests := true, laidLooks := .later }
def ItemStartsCardSaid : Prop := Claim7.holds Tryz.pinned (.plain (OpenSpec.ofChange itemStartsSpec)) itemStartsCard

/-- THE TIED CARD OF 'fleuronlaw16.ItemSteps'. -/
def itemStepsCard : Claim7 := { stood := { row := itemStepsRow, standIns := [], harness := (true, "fd9a9630e77fad755fbb76bc5722962dcffb6867bc1673103470f710c588f620"), looks := false }, kinds := [], alts := [], laidByText := true, laidKinds := [.data, .listed, .data, .pinned], laidTests := true, laidLooks := .later }
def ItemStepsCardSaid : Prop := Claim7.holds Tryz.pinned (.plain (OpenSpec.ofChange itemStepsSpec)) itemStepsCard

/-- THE TIED CARD OF 'fleuronlaw16.ItemNumbers'. -/
def itemNumbersCard : Claim7 := { stood := { row := itemNumbersRow, standIns := [], harness := (true, "fd9a9630e77fad755fbb76bc5722962dcffb6867bc1673103470f710c588f620"), looks := false }, kinds := [], alts := [], laidByText := true, laidKinds := [.data, .listed, .data, .pinned], laidTests := true, laidLooks := .later }
def ItemNumbersCardSaid : Prop := Claim7.holds Tryz.pinned (.plain (OpenSpec.ofChange itemNumbersSpec)) itemNumbersCard

/-- THE TIED CARD OF 'fleuronlaw16.ItemValues'. -/
def itemValuesCard : Claim7 := { stood := { row := itemValuesRow, standIns := [], harness := (true, "fd9a9630e77fad755fbb76bc5722962dcffb6867bc1673103470f710c588f620"), looks := false }, kinds := [], alts := [], laidByText := true, laidKinds := [.data, .listed, .data, .pinned], laidTests := true, laidLooks := .later }
def ItemValuesCardSaid : Prop := Claim7.holds Tryz.pinned (.plain (OpenSpec.ofChange itemValuesSpec)) itemValuesCard

/-- THE SECOND FORM's CARD OF 'fleuronlaw16.ItemStarts'. -/
def itemStartsUptoCard : Claim7 := { stood := { row := itemStartsUptoRow, standIns := [], harness := (true, "fd9a9630e77fad755fbb76bc5722962dcffb6867bc1673103470f710c588f620"), looks := false }, kinds := [], alts := [], laidByText := true, laidKinds := [.data, .listed, .data, .pinned], laidTests := true, laidLooks := .later }
def ItemStartsUptoCardSaid : Prop := Claim7.holds Tryz.pinned (.plain (OpenSpec.upto itemStartsSpec)) itemStartsUptoCard

/-- THE SECOND FORM's CARD OF 'fleuronlaw16.ItemSteps'. -/
def itemStepsUptoCard : Claim7 := { stood := { row := itemStepsUptoRow, standIns := [], harness := (true, "fd9a9630e77fad755fbb76bc5722962dcffb6867bc1673103470f710c588f620"), looks := false }, kinds := [], alts := [], laidByText := true, laidKinds := [.data, .listed, .data, .pinned], laidTests := true, laidLooks := .later }
def ItemStepsUptoCardSaid : Prop := Claim7.holds Tryz.pinned (.plain (OpenSpec.upto itemStepsSpec)) itemStepsUptoCard

/-- THE SECOND FORM's CARD OF 'fleuronlaw16.ItemNumbers'. -/
def itemNumbersUptoCard : Claim7 := { stood := { row := itemNumbersUptoRow, standIns := [], harness := (true, "fd9a9630e77fad755fbb76bc5722962dcffb6867bc1673103470f710c588f620"), looks := false }, kinds := [], alts := [], laidByText := true, laidKinds := [.data, .listed, .data, .pinned], laidTests := true, laidLooks := .later }
def ItemNumbersUptoCardSaid : Prop := Claim7.holds Tryz.pinned (.plain (OpenSpec.upto itemNumbersSpec)) itemNumbersUptoCard

/-- THE SECOND FORM's CARD OF 'fleuronlaw16.ItemValues'. -/
def itemValuesUptoCard : Claim7 := { stood := { row := itemValuesUptoRow, standIns := [], harness := (true, "fd9a9630e77fad755fbb76bc5722962dcffb6867bc1673103470f710c588f620"), looks := false }, kinds := [], alts := [], laidByText := true, laidKinds := [.data, .listed, .data, .pinned], laidTests := true, laidLooks := .later }
def ItemValuesUptoCardSaid : Prop := Claim7.holds Tryz.pinned (.plain (OpenSpec.upto itemValuesSpec)) itemValuesUptoCard
end Rows
end Go.Proofs.YtkcpoapbncpiiaaGreatDoor
