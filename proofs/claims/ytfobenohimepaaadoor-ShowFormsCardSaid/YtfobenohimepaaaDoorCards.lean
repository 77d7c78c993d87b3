/-
  DERIVED. GIVEN WITH THE SEED: THE CARDS: each row of YtfobenohimepaaaDoorRows.lean that lists a variable, with what it lists TIED to the program's text (the seventh form; the later family's looks); each row that meets fmt, with fmt's text TOLD by the authors' own Lean function (tested against real Go, not proved from fmt's source: count such statements apart). THE CARD IS WHAT COUNTS. Prove the row's statement (the work); the ties are given (YtfobenohimepaaaDoorTie.lean); close each card by the builder's one call (the guide's Derived/Test/ToyasCard.lean, 'card_holds'). Laid BY PROGRAM, IN A SANDBOX (cutbox-door.mjs). By AI agents, Wed Nov 11 2026. No macro, syntax, notation, axiom, sorry.
-/
import Derived.Test.YtfobenohimepaaaDoorRows
import GoSem.ClaimSeven
namespace Go.Proofs.YtfobenohimepaaaDoor
namespace Rows

/-- THE TIED CARD OF 'fleuronlaw22.ShowWrites'. -/
def showWritesCard : Claim7 := { stood := { row := showWritesRow, standIns := [], harness := (true, "d8a1a0c5271dbb413fb9911897fa4f994eb0c70013c978cfd05369f1e4993837"), looks := true }, kinds := [], alts := [], laidByText := true, laidKinds := [.data, .data, .data, .sentinel, .sentinel, .listed, .data], laidTests := true, laidLooks := .later }
def ShowWritesCardSaid : Prop := Claim7.holds Tryd.pinned (.plain (OpenSpec.ofChange showWritesSpec)) showWritesCard

/-- THE TIED CARD OF 'fleuronlaw22.ShowBack'. -/
def showBackCard : Claim7 := { stood := { row := showBackRow, standIns := [], harness := (true, "d8a1a0c5271dbb413fb9911897fa4f994eb0c70013c978cfd05369f1e4993837"), looks := true }, kinds := [], alts := [], laidByText := true, laidKinds := [.data, .data, .data, .sentinel, .sentinel, .listed, .data], laidTests := true, laidLooks := .later }
def ShowBackCardSaid : Prop := Claim7.holds Tryd.pinned (.plain (OpenSpec.ofChange showBackSpec)) showBackCard

/-- THE TIED CARD OF 'fleuronlaw22.ShowForms'. -/
def showFormsCard : Claim7 := { stood := { row := showFormsRow, standIns := [], harness := (true, "d8a1a0c5271dbb413fb9911897fa4f994eb0c70013c978cfd05369f1e4993837"), looks := true }, kinds := [], alts := [], laidByText := true, laidKinds := [.data, .data, .data, .sentinel, .sentinel, .listed, .data], laidTests := true, laidLooks := .later }
def ShowFormsCardSaid : Prop := Claim7.holds Tryd.pinned (.plain (OpenSpec.ofChange showFormsSpec)) showFormsCard

/-- THE SECOND FORM's CARD OF 'fleuronlaw22.ShowWrites'. -/
def showWritesUptoCard : Claim7 := { stood := { row := showWritesUptoRow, standIns := [], harness := (true, "d8a1a0c5271dbb413fb9911897fa4f994eb0c70013c978cfd05369f1e4993837"), looks := true }, kinds := [], alts := [], laidByText := true, laidKinds := [.data, .data, .data, .sentinel, .sentinel, .listed, .data], laidTests := true, laidLooks := .later }
def ShowWritesUptoCardSaid : Prop := Claim7.holds Tryd.pinned (.plain (OpenSpec.upto showWritesSpec)) showWritesUptoCard

/-- THE SECOND FORM's CARD OF 'fleuronlaw22.ShowBack'. -/
def showBackUptoCard : Claim7 := { stood := { row := showBackUptoRow, standIns := [], harness := (true, "d8a1a0c5271dbb413fb9911897fa4f994eb0c70013c978cfd05369f1e4993837"), looks := true }, kinds := [], alts := [], laidByText := true, laidKinds := [.data, .data, .data, .sentinel, .sentinel, .listed, .data], laidTests := true, laidLooks := .later }
def ShowBackUptoCardSaid : Prop := Claim7.holds Tryd.pinned (.plain (OpenSpec.upto showBackSpec)) showBackUptoCard

/-- THE SECOND FORM's CARD OF 'fleuronlaw22.ShowForms'. -/
def showFormsUptoCard : Claim7 := { stood := { row := showFormsUptoRow, standIns := [], harness := (true, "d8a1a0c5271dbb413fb9911897fa4f994eb0c70013c978cfd05369f1e4993837"), looks := true }, kinds := [], alts := [], laidByText := true, laidKinds := [.data, .data, .data, .sentinel, .sentinel, .listed, .data], laidTests := true, laidLooks := .later }
def ShowFormsUptoCardSaid : Prop := Claim7.holds Tryd.pinned (.plain (OpenSpec.upto showFormsSpec)) showFormsUptoCard
end Rows
end Go.Proofs.YtfobenohimepaaaDoor
