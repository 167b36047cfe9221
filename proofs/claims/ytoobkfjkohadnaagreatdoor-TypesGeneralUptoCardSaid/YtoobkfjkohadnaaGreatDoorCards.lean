/-
  DERIVED. GIVEN WITH THE SEED: THE CARDS: each row of YtoobkfjkohadnaaGreatDoorRows.lean that lists a variable, with what it lists TIED to the program's text (the seventh form; the later family's looks); each row that meets fmt, with fmt's text TOLD by the authors' own Lean function (tested against real Go, not proved from fmt's source: count such statements apart). THE CARD IS WHAT COUNTS. Prove the row's statement (the work); the ties are given (YtoobkfjkohadnaaGreatDoorTie.lean); close each card by the builder's one call (the guide's Derived/Test/ToyasCard.lean, 'card_holds'). Laid BY PROGRAM, IN A SANDBOX (cutbox-door.mjs). By AI agents, Wed Nov 11 2026. No macro, syntax, notation, axiom, sorry.
-/
import Derived.Test.YtoobkfjkohadnaaGreatDoorRows
import GoSem.ClaimSeven
namespace Go.Proofs.YtoobkfjkohadnaaGreatDoor
namespace Rows

/-- THE TIED CARD OF 'virgatelaw04.TypesItself'. -/
def typesItselfCard : Claim7 := { stood := { row := typesItselfRow, standIns := [], harness := (true, "e26879969153bcf4164d3b88a1f36a056b7683f66c34ef4a8591179a6a4d6573"), looks := true }, kinds := [], alts := [], laidByText := true, laidKinds := [.data, .data, .data, .sentinel, .sentinel, .listed, .data], laidTests := true, laidLooks := .later }
def TypesItselfCardSaid : Prop := Claim7.holds Tryz.pinned (.plain (OpenSpec.ofChange typesItselfSpec)) typesItselfCard

/-- THE TIED CARD OF 'virgatelaw04.TypesEqual'. -/
def typesEqualCard : Claim7 := { stood := { row := typesEqualRow, standIns := [], harness := (true, "e26879969153bcf4164d3b88a1f36a056b7683f66c34ef4a8591179a6a4d6573"), looks := true }, kinds := [], alts := [], laidByText := true, laidKinds := [.data, .data, .data, .sentinel, .sentinel, .listed, .data], laidTests := true, laidLooks := .later }
def TypesEqualCardSaid : Prop := Claim7.holds Tryz.pinned (.plain (OpenSpec.ofChange typesEqualSpec)) typesEqualCard

/-- THE TIED CARD OF 'virgatelaw04.TypesAfter'. -/
def typesAfterCard : Claim7 := { stood := { row := typesAfterRow, standIns := [], harness := (true, "e26879969153bcf4164d3b88a1f36a056b7683f66c34ef4a8591179a6a4d6573"), looks := true }, kinds := [], alts := [], laidByText := true, laidKinds := [.data, .data, .data, .sentinel, .sentinel, .listed, .data], laidTests := true, laidLooks := .later }
def TypesAfterCardSaid : Prop := Claim7.holds Tryz.pinned (.plain (OpenSpec.ofChange typesAfterSpec)) typesAfterCard

/-- THE TIED CARD OF 'virgatelaw04.TypesCanonical'. -/
def typesCanonicalCard : Claim7 := { stood := { row := typesCanonicalRow, standIns := [], harness := (true, "e26879969153bcf4164d3b88a1f36a056b7683f66c34ef4a8591179a6a4d6573"), looks := true }, kinds := [], alts := [], laidByText := true, laidKinds := [.data, .data, .data, .sentinel, .sentinel, .listed, .data], laidTests := true, laidLooks := .later }
def TypesCanonicalCardSaid : Prop := Claim7.holds Tryz.pinned (.plain (OpenSpec.ofChange typesCanonicalSpec)) typesCanonicalCard

/-- THE TIED CARD OF 'virgatelaw04.TypesUnify'. -/
def typesUnifyCard : Claim7 := { stood := { row := typesUnifyRow, standIns := [], harness := (true, "e26879969153bcf4164d3b88a1f36a056b7683f66c34ef4a8591179a6a4d6573"), looks := true }, kinds := [], alts := [], laidByText := true, laidKinds := [.data, .data, .data, .data, .sentinel, .sentinel, .listed, .data, .pinned], laidTests := true, laidLooks := .later }
def TypesUnifyCardSaid : Prop := Claim7.holds Tryz.pinned (.plain (OpenSpec.ofChange typesUnifySpec)) typesUnifyCard

/-- THE TIED CARD OF 'virgatelaw04.TypesUnifyAll'. -/
def typesUnifyAllCard : Claim7 := { stood := { row := typesUnifyAllRow, standIns := [], harness := (true, "e26879969153bcf4164d3b88a1f36a056b7683f66c34ef4a8591179a6a4d6573"), looks := true }, kinds := [], alts := [], laidByText := true, laidKinds := [.data, .data, .data, .data, .sentinel, .sentinel, .listed, .data, .pinned], laidTests := true, laidLooks := .later }
def TypesUnifyAllCardSaid : Prop := Claim7.holds Tryz.pinned (.plain (OpenSpec.ofChange typesUnifyAllSpec)) typesUnifyAllCard

/-- THE TIED CARD OF 'virgatelaw04.TypesApply'. -/
def typesApplyCard : Claim7 := { stood := { row := typesApplyRow, standIns := [], harness := (true, "e26879969153bcf4164d3b88a1f36a056b7683f66c34ef4a8591179a6a4d6573"), looks := true }, kinds := [], alts := [], laidByText := true, laidKinds := [.data, .data, .data, .data, .sentinel, .sentinel, .listed, .data, .pinned], laidTests := true, laidLooks := .later }
def TypesApplyCardSaid : Prop := Claim7.holds Tryz.pinned (.plain (OpenSpec.ofChange typesApplySpec)) typesApplyCard

/-- THE TIED CARD OF 'virgatelaw04.TypesAsked'. -/
def typesAskedCard : Claim7 := { stood := { row := typesAskedRow, standIns := [], harness := (true, "e26879969153bcf4164d3b88a1f36a056b7683f66c34ef4a8591179a6a4d6573"), looks := true }, kinds := [], alts := [], laidByText := true, laidKinds := [.data, .data, .data, .data, .sentinel, .sentinel, .listed, .data, .pinned], laidTests := true, laidLooks := .later }
def TypesAskedCardSaid : Prop := Claim7.holds Tryz.pinned (.plain (OpenSpec.ofChange typesAskedSpec)) typesAskedCard

/-- THE TIED CARD OF 'virgatelaw04.TypesGeneral'. -/
def typesGeneralCard : Claim7 := { stood := { row := typesGeneralRow, standIns := [], harness := (true, "e26879969153bcf4164d3b88a1f36a056b7683f66c34ef4a8591179a6a4d6573"), looks := true }, kinds := [], alts := [], laidByText := true, laidKinds := [.data, .data, .data, .data, .sentinel, .sentinel, .listed, .data, .pinned], laidTests := true, laidLooks := .later }
def TypesGeneralCardSaid : Prop := Claim7.holds Tryz.pinned (.plain (OpenSpec.ofChange typesGeneralSpec)) typesGeneralCard

/-- THE TIED CARD OF 'virgatelaw04.TypesInstance'. -/
def typesInstanceCard : Claim7 := { stood := { row := typesInstanceRow, standIns := [], harness := (true, "e26879969153bcf4164d3b88a1f36a056b7683f66c34ef4a8591179a6a4d6573"), looks := true }, kinds := [], alts := [], laidByText := true, laidKinds := [.data, .data, .data, .data, .sentinel, .sentinel, .listed, .data, .pinned], laidTests := true, laidLooks := .later }
def TypesInstanceCardSaid : Prop := Claim7.holds Tryz.pinned (.plain (OpenSpec.ofChange typesInstanceSpec)) typesInstanceCard

/-- THE SECOND FORM's CARD OF 'virgatelaw04.TypesItself'. -/
def typesItselfUptoCard : Claim7 := { stood := { row := typesItselfUptoRow, standIns := [], harness := (true, "e26879969153bcf4164d3b88a1f36a056b7683f66c34ef4a8591179a6a4d6573"), looks := true }, kinds := [], alts := [], laidByText := true, laidKinds := [.data, .data, .data, .sentinel, .sentinel, .listed, .data], laidTests := true, laidLooks := .later }
def TypesItselfUptoCardSaid : Prop := Claim7.holds Tryz.pinned (.plain (OpenSpec.upto typesItselfSpec)) typesItselfUptoCard

/-- THE SECOND FORM's CARD OF 'virgatelaw04.TypesEqual'. -/
def typesEqualUptoCard : Claim7 := { stood := { row := typesEqualUptoRow, standIns := [], harness := (true, "e26879969153bcf4164d3b88a1f36a056b7683f66c34ef4a8591179a6a4d6573"), looks := true }, kinds := [], alts := [], laidByText := true, laidKinds := [.data, .data, .data, .sentinel, .sentinel, .listed, .data], laidTests := true, laidLooks := .later }
def TypesEqualUptoCardSaid : Prop := Claim7.holds Tryz.pinned (.plain (OpenSpec.upto typesEqualSpec)) typesEqualUptoCard

/-- THE SECOND FORM's CARD OF 'virgatelaw04.TypesAfter'. -/
def typesAfterUptoCard : Claim7 := { stood := { row := typesAfterUptoRow, standIns := [], harness := (true, "e26879969153bcf4164d3b88a1f36a056b7683f66c34ef4a8591179a6a4d6573"), looks := true }, kinds := [], alts := [], laidByText := true, laidKinds := [.data, .data, .data, .sentinel, .sentinel, .listed, .data], laidTests := true, laidLooks := .later }
def TypesAfterUptoCardSaid : Prop := Claim7.holds Tryz.pinned (.plain (OpenSpec.upto typesAfterSpec)) typesAfterUptoCard

/-- THE SECOND FORM's CARD OF 'virgatelaw04.TypesCanonical'. -/
def typesCanonicalUptoCard : Claim7 := { stood := { row := typesCanonicalUptoRow, standIns := [], harness := (true, "e26879969153bcf4164d3b88a1f36a056b7683f66c34ef4a8591179a6a4d6573"), looks := true }, kinds := [], alts := [], laidByText := true, laidKinds := [.data, .data, .data, .sentinel, .sentinel, .listed, .data], laidTests := true, laidLooks := .later }
def TypesCanonicalUptoCardSaid : Prop := Claim7.holds Tryz.pinned (.plain (OpenSpec.upto typesCanonicalSpec)) typesCanonicalUptoCard

/-- THE SECOND FORM's CARD OF 'virgatelaw04.TypesUnify'. -/
def typesUnifyUptoCard : Claim7 := { stood := { row := typesUnifyUptoRow, standIns := [], harness := (true, "e26879969153bcf4164d3b88a1f36a056b7683f66c34ef4a8591179a6a4d6573"), looks := true }, kinds := [], alts := [], laidByText := true, laidKinds := [.data, .data, .data, .data, .sentinel, .sentinel, .listed, .data, .pinned], laidTests := true, laidLooks := .later }
def TypesUnifyUptoCardSaid : Prop := Claim7.holds Tryz.pinned (.plain (OpenSpec.upto typesUnifySpec)) typesUnifyUptoCard

/-- THE SECOND FORM's CARD OF 'virgatelaw04.TypesUnifyAll'. -/
def typesUnifyAllUptoCard : Claim7 := { stood := { row := typesUnifyAllUptoRow, standIns := [], harness := (true, "e26879969153bcf4164d3b88a1f36a056b7683f66c34ef4a8591179a6a4d6573"), looks := true }, kinds := [], alts := [], laidByText := true, laidKinds := [.data, .data, .data, .data, .sentinel, .sentinel, .listed, .data, .pinned], laidTests := true, laidLooks := .later }
def TypesUnifyAllUptoCardSaid : Prop := Claim7.holds Tryz.pinned (.plain (OpenSpec.upto typesUnifyAllSpec)) typesUnifyAllUptoCard

/-- THE SECOND FORM's CARD OF 'virgatelaw04.TypesApply'. -/
def typesApplyUptoCard : Claim7 := { stood := { row := typesApplyUptoRow, standIns := [], harness := (true, "e26879969153bcf4164d3b88a1f36a056b7683f66c34ef4a8591179a6a4d6573"), looks := true }, kinds := [], alts := [], laidByText := true, laidKinds := [.data, .data, .data, .data, .sentinel, .sentinel, .listed, .data, .pinned], laidTests := true, laidLooks := .later }
def TypesApplyUptoCardSaid : Prop := Claim7.holds Tryz.pinned (.plain (OpenSpec.upto typesApplySpec)) typesApplyUptoCard

/-- THE SECOND FORM's CARD OF 'virgatelaw04.TypesAsked'. -/
def typesAskedUptoCard : Claim7 := { stood := { row := typesAskedUptoRow, standIns := [], harness := (true, "e26879969153bcf4164d3b88a1f36a056b7683f66c34ef4a8591179a6a4d6573"), looks := true }, kinds := [], alts := [], laidByText := true, laidKinds := [.data, .data, .data, .data, .sentinel, .sentinel, .listed, .data, .pinned], laidTests := true, laidLooks := .later }
def TypesAskedUptoCardSaid : Prop := Claim7.holds Tryz.pinned (.plain (OpenSpec.upto typesAskedSpec)) typesAskedUptoCard

/-- THE SECOND FORM's CARD OF 'virgatelaw04.TypesGeneral'. -/
def typesGeneralUptoCard : Claim7 := { stood := { row := typesGeneralUptoRow, standIns := [], harness := (true, "e26879969153bcf4164d3b88a1f36a056b7683f66c34ef4a8591179a6a4d6573"), looks := true }, kinds := [], alts := [], laidByText := true, laidKinds := [.data, .data, .data, .data, .sentinel, .sentinel, .listed, .data, .pinned], laidTests := true, laidLooks := .later }
def TypesGeneralUptoCardSaid : Prop := Claim7.holds Tryz.pinned (.plain (OpenSpec.upto typesGeneralSpec)) typesGeneralUptoCard

/-- THE SECOND FORM's CARD OF 'virgatelaw04.TypesInstance'. -/
def typesInstanceUptoCard : Claim7 := { stood := { row := typesInstanceUptoRow, standIns := [], harness := (true, "e26879969153bcf4164d3b88a1f36a056b7683f66c34ef4a8591179a6a4d6573"), looks := true }, kinds := [], alts := [], laidByText := true, laidKinds := [.data, .data, .data, .data, .sentinel, .sentinel, .listed, .data, .pinned], laidTests := true, laidLooks := .later }
def TypesInstanceUptoCardSaid : Prop := Claim7.holds Tryz.pinned (.plain (OpenSpec.upto typesInstanceSpec)) typesInstanceUptoCard
end Rows
end Go.Proofs.YtoobkfjkohadnaaGreatDoor
