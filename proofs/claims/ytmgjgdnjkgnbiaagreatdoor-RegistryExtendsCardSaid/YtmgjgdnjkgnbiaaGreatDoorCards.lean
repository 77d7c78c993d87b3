/-
  DERIVED. GIVEN WITH THE SEED: THE CARDS: each row of YtmgjgdnjkgnbiaaGreatDoorRows.lean that lists a variable, with what it lists TIED to the program's text (the seventh form; the later family's looks); each row that meets fmt, with fmt's text TOLD by the authors' own Lean function (tested against real Go, not proved from fmt's source: count such statements apart). THE CARD IS WHAT COUNTS. Prove the row's statement (the work); the ties are given (YtmgjgdnjkgnbiaaGreatDoorTie.lean); close each card by the builder's one call (the guide's Derived/Test/ToyasCard.lean, 'card_holds'). Laid BY PROGRAM, IN A SANDBOX (cutbox-door.mjs). By AI agents, Wed Nov 11 2026. No macro, syntax, notation, axiom, sorry.
-/
import Derived.Test.YtmgjgdnjkgnbiaaGreatDoorRows
import GoSem.ClaimSeven
namespace Go.Proofs.YtmgjgdnjkgnbiaaGreatDoor
namespace Rows

/-- THE TIED CARD OF 'fleuronlaw11.RegistryRoman'. -/
def registryRomanCard : Claim7 := { stood := { row := registryRomanRow, standIns := [], harness := (true, "aa3c8235238f19b12e215c8b2e864751c81cf7164ec326145c2b2a6ac301b94e"), looks := false }, kinds := [], alts := [], laidByText := true, laidKinds := [.data, .listed, .data, .pinned, .pinned], laidTests := true, laidLooks := .later }
def RegistryRomanCardSaid : Prop := Claim7.holds Tryz.pinned (.plain (OpenSpec.ofChange registryRomanSpec)) registryRomanCard

/-- THE TIED CARD OF 'fleuronlaw11.RegistryAround'. -/
def registryAroundCard : Claim7 := { stood := { row := registryAroundRow, standIns := [], harness := (true, "aa3c8235238f19b12e215c8b2e864751c81cf7164ec326145c2b2a6ac301b94e"), looks := false }, kinds := [], alts := [], laidByText := true, laidKinds := [.data, .listed, .data, .pinned, .pinned], laidTests := true, laidLooks := .later }
def RegistryAroundCardSaid : Prop := Claim7.holds Tryz.pinned (.plain (OpenSpec.ofChange registryAroundSpec)) registryAroundCard

/-- THE TIED CARD OF 'fleuronlaw11.RegistryExtends'. -/
def registryExtendsCard : Claim7 := { stood := { row := registryExtendsRow, standIns := [], harness := (true, "aa3c8235238f19b12e215c8b2e864751c81cf7164ec326145c2b2a6ac301b94e"), looks := false }, kinds := [], alts := [], laidByText := true, laidKinds := [.data, .listed, .data, .pinned, .pinned], laidTests := true, laidLooks := .later }
def RegistryExtendsCardSaid : Prop := Claim7.holds Tryz.pinned (.plain (OpenSpec.ofChange registryExtendsSpec)) registryExtendsCard

/-- THE TIED CARD OF 'fleuronlaw11.RegistryOwn'. -/
def registryOwnCard : Claim7 := { stood := { row := registryOwnRow, standIns := [], harness := (true, "aa3c8235238f19b12e215c8b2e864751c81cf7164ec326145c2b2a6ac301b94e"), looks := false }, kinds := [], alts := [], laidByText := true, laidKinds := [.data, .listed, .data, .pinned, .pinned], laidTests := true, laidLooks := .later }
def RegistryOwnCardSaid : Prop := Claim7.holds Tryz.pinned (.plain (OpenSpec.ofChange registryOwnSpec)) registryOwnCard

/-- THE TIED CARD OF 'fleuronlaw11.RegistryPads'. -/
def registryPadsCard : Claim7 := { stood := { row := registryPadsRow, standIns := [], harness := (true, "aa3c8235238f19b12e215c8b2e864751c81cf7164ec326145c2b2a6ac301b94e"), looks := false }, kinds := [], alts := [], laidByText := true, laidKinds := [.data, .listed, .data, .pinned, .pinned], laidTests := true, laidLooks := .later }
def RegistryPadsCardSaid : Prop := Claim7.holds Tryz.pinned (.plain (OpenSpec.ofChange registryPadsSpec)) registryPadsCard

/-- THE TIED CARD OF 'fleuronlaw11.RegistryLetters'. -/
def registryLettersCard : Claim7 := { stood := { row := registryLettersRow, standIns := [], harness := (true, "aa3c8235238f19b12e215c8b2e864751c81cf7164ec326145c2b2a6ac301b94e"), looks := false }, kinds := [], alts := [], laidByText := true, laidKinds := [.data, .listed, .data, .pinned, .pinned], laidTests := true, laidLooks := .later }
def RegistryLettersCardSaid : Prop := Claim7.holds Tryz.pinned (.plain (OpenSpec.ofChange registryLettersSpec)) registryLettersCard

/-- THE TIED CARD OF 'fleuronlaw11.RegistryChain'. -/
def registryChainCard : Claim7 := { stood := { row := registryChainRow, standIns := [], harness := (true, "aa3c8235238f19b12e215c8b2e864751c81cf7164ec326145c2b2a6ac301b94e"), looks := false }, kinds := [], alts := [], laidByText := true, laidKinds := [.data, .listed, .data, .pinned, .pinned], laidTests := true, laidLooks := .later }
def RegistryChainCardSaid : Prop := Claim7.holds Tryz.pinned (.plain (OpenSpec.ofChange registryChainSpec)) registryChainCard

/-- THE SECOND FORM's CARD OF 'fleuronlaw11.RegistryRoman'. -/
def registryRomanUptoCard : Claim7 := { stood := { row := registryRomanUptoRow, standIns := [], harness := (true, "aa3c8235238f19b12e215c8b2e864751c81cf7164ec326145c2b2a6ac301b94e"), looks := false }, kinds := [], alts := [], laidByText := true, laidKinds := [.data, .listed, .data, .pinned, .pinned], laidTests := true, laidLooks := .later }
def RegistryRomanUptoCardSaid : Prop := Claim7.holds Tryz.pinned (.plain (OpenSpec.upto registryRomanSpec)) registryRomanUptoCard

/-- THE SECOND FORM's CARD OF 'fleuronlaw11.RegistryAround'. -/
def registryAroundUptoCard : Claim7 := { stood := { row := registryAroundUptoRow, standIns := [], harness := (true, "aa3c8235238f19b12e215c8b2e864751c81cf7164ec326145c2b2a6ac301b94e"), looks := false }, kinds := [], alts := [], laidByText := true, laidKinds := [.data, .listed, .data, .pinned, .pinned], laidTests := true, laidLooks := .later }
def RegistryAroundUptoCardSaid : Prop := Claim7.holds Tryz.pinned (.plain (OpenSpec.upto registryAroundSpec)) registryAroundUptoCard

/-- THE SECOND FORM's CARD OF 'fleuronlaw11.RegistryExtends'. -/
def registryExtendsUptoCard : Claim7 := { stood := { row := registryExtendsUptoRow, standIns := [], harness := (true, "aa3c8235238f19b12e215c8b2e864751c81cf7164ec326145c2b2a6ac301b94e"), looks := false }, kinds := [], alts := [], laidByText := true, laidKinds := [.data, .listed, .data, .pinned, .pinned], laidTests := true, laidLooks := .later }
def RegistryExtendsUptoCardSaid : Prop := Claim7.holds Tryz.pinned (.plain (OpenSpec.upto registryExtendsSpec)) registryExtendsUptoCard

/-- THE SECOND FORM's CARD OF 'fleuronlaw11.RegistryOwn'. -/
def registryOwnUptoCard : Claim7 := { stood := { row := registryOwnUptoRow, standIns := [], harness := (true, "aa3c8235238f19b12e215c8b2e864751c81cf7164ec326145c2b2a6ac301b94e"), looks := false }, kinds := [], alts := [], laidByText := true, laidKinds := [.data, .listed, .data, .pinned, .pinned], laidTests := true, laidLooks := .later }
def RegistryOwnUptoCardSaid : Prop := Claim7.holds Tryz.pinned (.plain (OpenSpec.upto registryOwnSpec)) registryOwnUptoCard

/-- THE SECOND FORM's CARD OF 'fleuronlaw11.RegistryPads'. -/
def registryPadsUptoCard : Claim7 := { stood := { row := registryPadsUptoRow, standIns := [], harness := (true, "aa3c8235238f19b12e215c8b2e864751c81cf7164ec326145c2b2a6ac301b94e"), looks := false }, kinds := [], alts := [], laidByText := true, laidKinds := [.data, .listed, .data, .pinned, .pinned], laidTests := true, laidLooks := .later }
def RegistryPadsUptoCardSaid : Prop := Claim7.holds Tryz.pinned (.plain (OpenSpec.upto registryPadsSpec)) registryPadsUptoCard

/-- THE SECOND FORM's CARD OF 'fleuronlaw11.RegistryLetters'. -/
def registryLettersUptoCard : Claim7 := { stood := { row := registryLettersUptoRow, standIns := [], harness := (true, "aa3c8235238f19b12e215c8b2e864751c81cf7164ec326145c2b2a6ac301b94e"), looks := false }, kinds := [], alts := [], laidByText := true, laidKinds := [.data, .listed, .data, .pinned, .pinned], laidTests := true, laidLooks := .later }
def RegistryLettersUptoCardSaid : Prop := Claim7.holds Tryz.pinned (.plain (OpenSpec.upto registryLettersSpec)) registryLettersUptoCard

/-- THE SECOND FORM's CARD OF 'fleuronlaw11.RegistryChain'. -/
def registryChainUptoCard : Claim7 := { stood := { row := registryChainUptoRow, standIns := [], harness := (true, "aa3c8235238f19b12e215c8b2e864751c81cf7164ec326145c2b2a6ac301b94e"), looks := false }, kinds := [], alts := [], laidByText := true, laidKinds := [.data, .listed, .data, .pinned, .pinned], laidTests := true, laidLooks := .later }
def RegistryChainUptoCardSaid : Prop := Claim7.holds Tryz.pinned (.plain (OpenSpec.upto registryChainSpec)) registryChainUptoCard
end Rows
end Go.Proofs.YtmgjgdnjkgnbiaaGreatDoor
