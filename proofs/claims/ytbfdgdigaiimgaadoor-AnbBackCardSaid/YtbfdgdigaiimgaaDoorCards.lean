/-
  DERIVED. GIVEN WITH THE SEED: THE CARDS: each row of YtbfdgdigaiimgaaDoorRows.lean that lists a variable, with what it lists TIED to the program's text (the seventh form; the later family's looks); each row that meets fmt, with fmt's text TOLD by the authors' own Lean function (tested against real Go, not proved from fmt's source: count such statements apart). THE CARD IS WHAT COUNTS. Prove the row's statement (the work); the ties are given (YtbfdgdigaiimgaaDoorTie.lean); close each card by the builder's one call (the guide's Derived/Test/ToyasCard.lean, 'card_holds'). Laid BY PROGRAM, IN A SANDBOX (cutbox-door.mjs). By AI agents, Wed Nov 11 2026. No macro, syntax, notation, axiom, sorry.
-/
import Derived.Test.YtbfdgdigaiimgaaDoorRows
import GoSem.ClaimSeven
namespace Go.Proofs.YtbfdgdigaiimgaaDoor
namespace Rows

/-- THE TIED CARD OF 'fleuronlaw5.AnbBack'. -/
def anbBackCard : Claim7 := { stood := { row := anbBackRow, standIns := [], harness := (true, "7d4a71365c440e48327f57e9c8aedfd9c43f73018618a7aac2d3a5dfa55896f4"), looks := true }, kinds := [], alts := [], laidByText := true, laidKinds := [.data, .data, .data, .data, .pinned], laidTests := true, laidLooks := .later }
def AnbBackCardSaid : Prop := Claim7.holds Tryd.pinned (.plain (OpenSpec.ofChange anbBackSpec)) anbBackCard

/-- THE TIED CARD OF 'fleuronlaw5.AnbWords'. -/
def anbWordsCard : Claim7 := { stood := { row := anbWordsRow, standIns := [], harness := (true, "7d4a71365c440e48327f57e9c8aedfd9c43f73018618a7aac2d3a5dfa55896f4"), looks := true }, kinds := [], alts := [], laidByText := true, laidKinds := [.data, .data, .data, .data, .pinned], laidTests := true, laidLooks := .later }
def AnbWordsCardSaid : Prop := Claim7.holds Tryd.pinned (.plain (OpenSpec.ofChange anbWordsSpec)) anbWordsCard

/-- THE TIED CARD OF 'fleuronlaw22.ShowForms'. -/
def showFormsCard : Claim7 := { stood := { row := showFormsRow, standIns := [], harness := (true, "7d4a71365c440e48327f57e9c8aedfd9c43f73018618a7aac2d3a5dfa55896f4"), looks := true }, kinds := [], alts := [], laidByText := true, laidKinds := [.data, .data, .data, .sentinel, .sentinel, .listed, .data], laidTests := true, laidLooks := .later }
def ShowFormsCardSaid : Prop := Claim7.holds Tryd.pinned (.plain (OpenSpec.ofChange showFormsSpec)) showFormsCard

/-- THE SECOND FORM's CARD OF 'fleuronlaw5.AnbBack'. -/
def anbBackUptoCard : Claim7 := { stood := { row := anbBackUptoRow, standIns := [], harness := (true, "7d4a71365c440e48327f57e9c8aedfd9c43f73018618a7aac2d3a5dfa55896f4"), looks := true }, kinds := [], alts := [], laidByText := true, laidKinds := [.data, .data, .data, .data, .pinned], laidTests := true, laidLooks := .later }
def AnbBackUptoCardSaid : Prop := Claim7.holds Tryd.pinned (.plain (OpenSpec.upto anbBackSpec)) anbBackUptoCard

/-- THE SECOND FORM's CARD OF 'fleuronlaw5.AnbWords'. -/
def anbWordsUptoCard : Claim7 := { stood := { row := anbWordsUptoRow, standIns := [], harness := (true, "7d4a71365c440e48327f57e9c8aedfd9c43f73018618a7aac2d3a5dfa55896f4"), looks := true }, kinds := [], alts := [], laidByText := true, laidKinds := [.data, .data, .data, .data, .pinned], laidTests := true, laidLooks := .later }
def AnbWordsUptoCardSaid : Prop := Claim7.holds Tryd.pinned (.plain (OpenSpec.upto anbWordsSpec)) anbWordsUptoCard

/-- THE SECOND FORM's CARD OF 'fleuronlaw22.ShowForms'. -/
def showFormsUptoCard : Claim7 := { stood := { row := showFormsUptoRow, standIns := [], harness := (true, "7d4a71365c440e48327f57e9c8aedfd9c43f73018618a7aac2d3a5dfa55896f4"), looks := true }, kinds := [], alts := [], laidByText := true, laidKinds := [.data, .data, .data, .sentinel, .sentinel, .listed, .data], laidTests := true, laidLooks := .later }
def ShowFormsUptoCardSaid : Prop := Claim7.holds Tryd.pinned (.plain (OpenSpec.upto showFormsSpec)) showFormsUptoCard
end Rows
end Go.Proofs.YtbfdgdigaiimgaaDoor
