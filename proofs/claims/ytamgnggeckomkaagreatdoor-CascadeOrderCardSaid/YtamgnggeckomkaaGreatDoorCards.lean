/-
  DERIVED. GIVEN WITH THE SEED: THE CARDS: each row of YtamgnggeckomkaaGreatDoorRows.lean that lists a variable, with what it lists TIED to the program's text (the seventh form; the later family's looks); each row that meets fmt, with fmt's text TOLD by the authors' own Lean function (tested against real Go, not proved from fmt's source: count such statements apart). THE CARD IS WHAT COUNTS. Prove the row's statement (the work); the ties are given (YtamgnggeckomkaaGreatDoorTie.lean); close each card by the builder's one call (the guide's Derived/Test/ToyasCard.lean, 'card_holds'). Laid BY PROGRAM, IN A SANDBOX (cutbox-door.mjs). By AI agents, Wed Nov 11 2026. No macro, syntax, notation, axiom, sorry.
-/
import Derived.Test.YtamgnggeckomkaaGreatDoorRows
import GoSem.ClaimSeven
namespace Go.Proofs.YtamgnggeckomkaaGreatDoor
namespace Rows

/-- THE TIED CARD OF 'fleuronlaw13.CascadePseudos'. -/
def cascadePseudosCard : Claim7 := { stood := { row := cascadePseudosRow, standIns := [], harness := (true, "acd148fba2fd986f0c710f72d13ade6daaaa6644a6d07d026df0457452392eec"), looks := false }, kinds := [], alts := [], laidByText := true, laidKinds := [.data, .listed, .data, .pinned], laidTests := true, laidLooks := .later }
def CascadePseudosCardSaid : Prop := Claim7.holds Tryz.pinned (.plain (OpenSpec.ofChange cascadePseudosSpec)) cascadePseudosCard

/-- THE TIED CARD OF 'fleuronlaw14.ComputedPseudo'. -/
def computedPseudoCard : Claim7 := { stood := { row := computedPseudoRow, standIns := [], harness := (true, "acd148fba2fd986f0c710f72d13ade6daaaa6644a6d07d026df0457452392eec"), looks := false }, kinds := [], alts := [], laidByText := true, laidKinds := [.data, .listed, .data, .pinned], laidTests := true, laidLooks := .later }
def ComputedPseudoCardSaid : Prop := Claim7.holds Tryz.pinned (.plain (OpenSpec.ofChange computedPseudoSpec)) computedPseudoCard

/-- THE TIED CARD OF 'fleuronlaw13.CascadeOrder'. -/
def cascadeOrderCard : Claim7 := { stood := { row := cascadeOrderRow, standIns := [], harness := (true, "acd148fba2fd986f0c710f72d13ade6daaaa6644a6d07d026df0457452392eec"), looks := false }, kinds := [], alts := [], laidByText := true, laidKinds := [.data, .listed, .data, .pinned], laidTests := true, laidLooks := .later }
def CascadeOrderCardSaid : Prop := Claim7.holds Tryz.pinned (.plain (OpenSpec.ofChange cascadeOrderSpec)) cascadeOrderCard

/-- THE SECOND FORM's CARD OF 'fleuronlaw13.CascadePseudos'. -/
def cascadePseudosUptoCard : Claim7 := { stood := { row := cascadePseudosUptoRow, standIns := [], harness := (true, "acd148fba2fd986f0c710f72d13ade6daaaa6644a6d07d026df0457452392eec"), looks := false }, kinds := [], alts := [], laidByText := true, laidKinds := [.data, .listed, .data, .pinned], laidTests := true, laidLooks := .later }
def CascadePseudosUptoCardSaid : Prop := Claim7.holds Tryz.pinned (.plain (OpenSpec.upto cascadePseudosSpec)) cascadePseudosUptoCard

/-- THE SECOND FORM's CARD OF 'fleuronlaw14.ComputedPseudo'. -/
def computedPseudoUptoCard : Claim7 := { stood := { row := computedPseudoUptoRow, standIns := [], harness := (true, "acd148fba2fd986f0c710f72d13ade6daaaa6644a6d07d026df0457452392eec"), looks := false }, kinds := [], alts := [], laidByText := true, laidKinds := [.data, .listed, .data, .pinned], laidTests := true, laidLooks := .later }
def ComputedPseudoUptoCardSaid : Prop := Claim7.holds Tryz.pinned (.plain (OpenSpec.upto computedPseudoSpec)) computedPseudoUptoCard

/-- THE SECOND FORM's CARD OF 'fleuronlaw13.CascadeOrder'. -/
def cascadeOrderUptoCard : Claim7 := { stood := { row := cascadeOrderUptoRow, standIns := [], harness := (true, "acd148fba2fd986f0c710f72d13ade6daaaa6644a6d07d026df0457452392eec"), looks := false }, kinds := [], alts := [], laidByText := true, laidKinds := [.data, .listed, .data, .pinned], laidTests := true, laidLooks := .later }
def CascadeOrderUptoCardSaid : Prop := Claim7.holds Tryz.pinned (.plain (OpenSpec.upto cascadeOrderSpec)) cascadeOrderUptoCard
end Rows
end Go.Proofs.YtamgnggeckomkaaGreatDoor
