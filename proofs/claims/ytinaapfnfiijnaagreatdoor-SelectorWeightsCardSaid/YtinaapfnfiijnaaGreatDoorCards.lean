/-
  DERIVED. GIVEN WITH THE SEED: THE CARDS: each row of YtinaapfnfiijnaaGreatDoorRows.lean that lists a variable, with what it lists TIED to the program's text (the seventh form; the later family's looks); each row that meets fmt, with fmt's text TOLD by the authors' own Lean function (tested against real Go, not proved from fmt's source: count such statements apart). THE CARD IS WHAT COUNTS. Prove the row's statement (the work); the ties are given (YtinaapfnfiijnaaGreatDoorTie.lean); close each card by the builder's one call (the guide's Derived/Test/ToyasCard.lean, 'card_holds'). Laid BY PROGRAM, IN A SANDBOX (cutbox-door.mjs). By AI agents, Wed Nov 11 2026. No macro, syntax, notation, axiom, sorry.
-/
import Derived.Test.YtinaapfnfiijnaaGreatDoorRows
import GoSem.ClaimSeven
namespace Go.Proofs.YtinaapfnfiijnaaGreatDoor
namespace Rows

/-- THE TIED CARD OF 'fleuronlaw6.SelectorWeights'. -/
def selectorWeightsCard : Claim7 := { stood := { row := selectorWeightsRow, standIns := [], harness := (true, "c767b30341fce993241c311c5f0785923ad965ca31a0d956314e2304699513a8"), looks := false }, kinds := [], alts := [], laidByText := true, laidKinds := [.data, .data, .data, .data, .listed, .data, .pinned], laidTests := true, laidLooks := .later }
def SelectorWeightsCardSaid : Prop := Claim7.holds Tryz.pinned (.plain (OpenSpec.ofChange selectorWeightsSpec)) selectorWeightsCard

/-- THE TIED CARD OF 'fleuronlaw6.SelectorForms'. -/
def selectorFormsCard : Claim7 := { stood := { row := selectorFormsRow, standIns := [], harness := (true, "c767b30341fce993241c311c5f0785923ad965ca31a0d956314e2304699513a8"), looks := false }, kinds := [], alts := [], laidByText := true, laidKinds := [.data, .data, .data, .data, .listed, .data, .pinned], laidTests := true, laidLooks := .later }
def SelectorFormsCardSaid : Prop := Claim7.holds Tryz.pinned (.plain (OpenSpec.ofChange selectorFormsSpec)) selectorFormsCard

/-- THE TIED CARD OF 'fleuronlaw6.SelectorNests'. -/
def selectorNestsCard : Claim7 := { stood := { row := selectorNestsRow, standIns := [], harness := (true, "c767b30341fce993241c311c5f0785923ad965ca31a0d956314e2304699513a8"), looks := false }, kinds := [], alts := [], laidByText := true, laidKinds := [.data, .data, .data, .data, .listed, .data, .pinned], laidTests := true, laidLooks := .later }
def SelectorNestsCardSaid : Prop := Claim7.holds Tryz.pinned (.plain (OpenSpec.ofChange selectorNestsSpec)) selectorNestsCard

/-- THE TIED CARD OF 'fleuronlaw6.SelectorPseudos'. -/
def selectorPseudosCard : Claim7 := { stood := { row := selectorPseudosRow, standIns := [], harness := (true, "c767b30341fce993241c311c5f0785923ad965ca31a0d956314e2304699513a8"), looks := false }, kinds := [], alts := [], laidByText := true, laidKinds := [.data, .data, .data, .data, .listed, .data, .pinned], laidTests := true, laidLooks := .later }
def SelectorPseudosCardSaid : Prop := Claim7.holds Tryz.pinned (.plain (OpenSpec.ofChange selectorPseudosSpec)) selectorPseudosCard

/-- THE SECOND FORM's CARD OF 'fleuronlaw6.SelectorWeights'. -/
def selectorWeightsUptoCard : Claim7 := { stood := { row := selectorWeightsUptoRow, standIns := [], harness := (true, "c767b30341fce993241c311c5f0785923ad965ca31a0d956314e2304699513a8"), looks := false }, kinds := [], alts := [], laidByText := true, laidKinds := [.data, .data, .data, .data, .listed, .data, .pinned], laidTests := true, laidLooks := .later }
def SelectorWeightsUptoCardSaid : Prop := Claim7.holds Tryz.pinned (.plain (OpenSpec.upto selectorWeightsSpec)) selectorWeightsUptoCard

/-- THE SECOND FORM's CARD OF 'fleuronlaw6.SelectorForms'. -/
def selectorFormsUptoCard : Claim7 := { stood := { row := selectorFormsUptoRow, standIns := [], harness := (true, "c767b30341fce993241c311c5f0785923ad965ca31a0d956314e2304699513a8"), looks := false }, kinds := [], alts := [], laidByText := true, laidKinds := [.data, .data, .data, .data, .listed, .data, .pinned], laidTests := true, laidLooks := .later }
def SelectorFormsUptoCardSaid : Prop := Claim7.holds Tryz.pinned (.plain (OpenSpec.upto selectorFormsSpec)) selectorFormsUptoCard

/-- THE SECOND FORM's CARD OF 'fleuronlaw6.SelectorNests'. -/
def selectorNestsUptoCard : Claim7 := { stood := { row := selectorNestsUptoRow, standIns := [], harness := (true, "c767b30341fce993241c311c5f0785923ad965ca31a0d956314e2304699513a8"), looks := false }, kinds := [], alts := [], laidByText := true, laidKinds := [.data, .data, .data, .data, .listed, .data, .pinned], laidTests := true, laidLooks := .later }
def SelectorNestsUptoCardSaid : Prop := Claim7.holds Tryz.pinned (.plain (OpenSpec.upto selectorNestsSpec)) selectorNestsUptoCard

/-- THE SECOND FORM's CARD OF 'fleuronlaw6.SelectorPseudos'. -/
def selectorPseudosUptoCard : Claim7 := { stood := { row := selectorPseudosUptoRow, standIns := [], harness := (true, "c767b30341fce993241c311c5f0785923ad965ca31a0d956314e2304699513a8"), looks := false }, kinds := [], alts := [], laidByText := true, laidKinds := [.data, .data, .data, .data, .listed, .data, .pinned], laidTests := true, laidLooks := .later }
def SelectorPseudosUptoCardSaid : Prop := Claim7.holds Tryz.pinned (.plain (OpenSpec.upto selectorPseudosSpec)) selectorPseudosUptoCard
end Rows
end Go.Proofs.YtinaapfnfiijnaaGreatDoor
