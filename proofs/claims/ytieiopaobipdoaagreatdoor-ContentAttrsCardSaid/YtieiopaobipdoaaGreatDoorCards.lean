/-
  DERIVED. GIVEN WITH THE SEED: THE CARDS: each row of YtieiopaobipdoaaGreatDoorRows.lean that lists a variable, with what it lists TIED to the program's text (the seventh form; the later family's looks); each row that meets fmt, with fmt's text TOLD by the authors' own Lean function (tested against real Go, not proved from fmt's source: count such statements apart). THE CARD IS WHAT COUNTS. Prove the row's statement (the work); the ties are given (YtieiopaobipdoaaGreatDoorTie.lean); close each card by the builder's one call (the guide's Derived/Test/ToyasCard.lean, 'card_holds'). Laid BY PROGRAM, IN A SANDBOX (cutbox-door.mjs). By AI agents, Wed Nov 11 2026. No macro, syntax, notation, axiom, sorry.
-/
import Derived.Test.YtieiopaobipdoaaGreatDoorRows
import GoSem.ClaimSeven
namespace Go.Proofs.YtieiopaobipdoaaGreatDoor
namespace Rows

/-- THE TIED CARD OF 'fleuronlaw18.ContentCuts'. -/
def contentCutsCard : Claim7 := { stood := { row := contentCutsRow, standIns := [], harness := (true, "70af8adab43c7c58ed74435df47ae9969899b64d2e8ba219628de5309d2181b2"), looks := false }, kinds := [], alts := [], laidByText := true, laidKinds := [.data, .listed, .data, .pinned, .pinned], laidTests := true, laidLooks := .later }
def ContentCutsCardSaid : Prop := Claim7.holds Tryz.pinned (.plain (OpenSpec.ofChange contentCutsSpec)) contentCutsCard

/-- THE TIED CARD OF 'fleuronlaw18.ContentJoins'. -/
def contentJoinsCard : Claim7 := { stood := { row := contentJoinsRow, standIns := [], harness := (true, "70af8adab43c7c58ed74435df47ae9969899b64d2e8ba219628de5309d2181b2"), looks := false }, kinds := [], alts := [], laidByText := true, laidKinds := [.data, .listed, .data, .pinned, .pinned], laidTests := true, laidLooks := .later }
def ContentJoinsCardSaid : Prop := Claim7.holds Tryz.pinned (.plain (OpenSpec.ofChange contentJoinsSpec)) contentJoinsCard

/-- THE TIED CARD OF 'fleuronlaw18.ContentCounters'. -/
def contentCountersCard : Claim7 := { stood := { row := contentCountersRow, standIns := [], harness := (true, "70af8adab43c7c58ed74435df47ae9969899b64d2e8ba219628de5309d2181b2"), looks := false }, kinds := [], alts := [], laidByText := true, laidKinds := [.data, .listed, .data, .pinned, .pinned], laidTests := true, laidLooks := .later }
def ContentCountersCardSaid : Prop := Claim7.holds Tryz.pinned (.plain (OpenSpec.ofChange contentCountersSpec)) contentCountersCard

/-- THE TIED CARD OF 'fleuronlaw18.ContentAttrs'. -/
def contentAttrsCard : Claim7 := { stood := { row := contentAttrsRow, standIns := [], harness := (true, "70af8adab43c7c58ed74435df47ae9969899b64d2e8ba219628de5309d2181b2"), looks := false }, kinds := [], alts := [], laidByText := true, laidKinds := [.data, .listed, .data, .pinned, .pinned], laidTests := true, laidLooks := .later }
def ContentAttrsCardSaid : Prop := Claim7.holds Tryz.pinned (.plain (OpenSpec.ofChange contentAttrsSpec)) contentAttrsCard

/-- THE SECOND FORM's CARD OF 'fleuronlaw18.ContentCuts'. -/
def contentCutsUptoCard : Claim7 := { stood := { row := contentCutsUptoRow, standIns := [], harness := (true, "70af8adab43c7c58ed74435df47ae9969899b64d2e8ba219628de5309d2181b2"), looks := false }, kinds := [], alts := [], laidByText := true, laidKinds := [.data, .listed, .data, .pinned, .pinned], laidTests := true, laidLooks := .later }
def ContentCutsUptoCardSaid : Prop := Claim7.holds Tryz.pinned (.plain (OpenSpec.upto contentCutsSpec)) contentCutsUptoCard

/-- THE SECOND FORM's CARD OF 'fleuronlaw18.ContentJoins'. -/
def contentJoinsUptoCard : Claim7 := { stood := { row := contentJoinsUptoRow, standIns := [], harness := (true, "70af8adab43c7c58ed74435df47ae9969899b64d2e8ba219628de5309d2181b2"), looks := false }, kinds := [], alts := [], laidByText := true, laidKinds := [.data, .listed, .data, .pinned, .pinned], laidTests := true, laidLooks := .later }
def ContentJoinsUptoCardSaid : Prop := Claim7.holds Tryz.pinned (.plain (OpenSpec.upto contentJoinsSpec)) contentJoinsUptoCard

/-- THE SECOND FORM's CARD OF 'fleuronlaw18.ContentCounters'. -/
def contentCountersUptoCard : Claim7 := { stood := { row := contentCountersUptoRow, standIns := [], harness := (true, "70af8adab43c7c58ed74435df47ae9969899b64d2e8ba219628de5309d2181b2"), looks := false }, kinds := [], alts := [], laidByText := true, laidKinds := [.data, .listed, .data, .pinned, .pinned], laidTests := true, laidLooks := .later }
def ContentCountersUptoCardSaid : Prop := Claim7.holds Tryz.pinned (.plain (OpenSpec.upto contentCountersSpec)) contentCountersUptoCard

/-- THE SECOND FORM's CARD OF 'fleuronlaw18.ContentAttrs'. -/
def contentAttrsUptoCard : Claim7 := { stood := { row := contentAttrsUptoRow, standIns := [], harness := (true, "70af8adab43c7c58ed74435df47ae9969899b64d2e8ba219628de5309d2181b2"), looks := false }, kinds := [], alts := [], laidByText := true, laidKinds := [.data, .listed, .data, .pinned, .pinned], laidTests := true, laidLooks := .later }
def ContentAttrsUptoCardSaid : Prop := Claim7.holds Tryz.pinned (.plain (OpenSpec.upto contentAttrsSpec)) contentAttrsUptoCard
end Rows
end Go.Proofs.YtieiopaobipdoaaGreatDoor
