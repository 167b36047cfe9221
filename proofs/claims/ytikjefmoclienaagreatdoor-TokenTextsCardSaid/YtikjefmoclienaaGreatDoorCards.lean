/-
  DERIVED. GIVEN WITH THE SEED: THE CARDS: each row of YtikjefmoclienaaGreatDoorRows.lean that lists a variable, with what it lists TIED to the program's text (the seventh form; the later family's looks); each row that meets fmt, with fmt's text TOLD by the authors' own Lean function (tested against real Go, not proved from fmt's source: count such statements apart). THE CARD IS WHAT COUNTS. Prove the row's statement (the work); the ties are given (YtikjefmoclienaaGreatDoorTie.lean); close each card by the builder's one call (the guide's Derived/Test/ToyasCard.lean, 'card_holds'). Laid BY PROGRAM, IN A SANDBOX (cutbox-door.mjs). By AI agents, Wed Nov 11 2026. No macro, syntax, notation, axiom, sorry.
-/
import Derived.Test.YtikjefmoclienaaGreatDoorRows
import GoSem.ClaimSeven
namespace Go.Proofs.YtikjefmoclienaaGreatDoor
namespace Rows

/-- THE TIED CARD OF 'virgatelaw01.TokenNames'. -/
def tokenNamesCard : Claim7 := { stood := { row := tokenNamesRow, standIns := [], harness := (true, "444a4f9c3f9225287ab646d07501b28328ee9908bd41a90e65e715098357c88e"), looks := true }, kinds := [], alts := [], laidByText := true, laidKinds := [.data, .data, .data, .data, .sentinel, .sentinel, .listed, .data, .pinned], laidTests := true, laidLooks := .later }
def TokenNamesCardSaid : Prop := Claim7.holds Tryz.pinned (.plain (OpenSpec.ofChange tokenNamesSpec)) tokenNamesCard

/-- THE TIED CARD OF 'virgatelaw01.TokenWhere'. -/
def tokenWhereCard : Claim7 := { stood := { row := tokenWhereRow, standIns := [], harness := (true, "444a4f9c3f9225287ab646d07501b28328ee9908bd41a90e65e715098357c88e"), looks := true }, kinds := [], alts := [], laidByText := true, laidKinds := [.data, .data, .data, .sentinel, .sentinel, .listed, .data], laidTests := true, laidLooks := .later }
def TokenWhereCardSaid : Prop := Claim7.holds Tryz.pinned (.plain (OpenSpec.ofChange tokenWhereSpec)) tokenWhereCard

/-- THE TIED CARD OF 'virgatelaw01.TokenBack'. -/
def tokenBackCard : Claim7 := { stood := { row := tokenBackRow, standIns := [], harness := (true, "444a4f9c3f9225287ab646d07501b28328ee9908bd41a90e65e715098357c88e"), looks := true }, kinds := [], alts := [], laidByText := true, laidKinds := [.data, .data, .data, .sentinel, .sentinel, .listed, .data], laidTests := true, laidLooks := .later }
def TokenBackCardSaid : Prop := Claim7.holds Tryz.pinned (.plain (OpenSpec.ofChange tokenBackSpec)) tokenBackCard

/-- THE TIED CARD OF 'virgatelaw01.TokenQuotes'. -/
def tokenQuotesCard : Claim7 := { stood := { row := tokenQuotesRow, standIns := [], harness := (true, "444a4f9c3f9225287ab646d07501b28328ee9908bd41a90e65e715098357c88e"), looks := true }, kinds := [], alts := [], laidByText := true, laidKinds := [.data, .data, .data, .data, .sentinel, .sentinel, .listed, .data, .pinned], laidTests := true, laidLooks := .later }
def TokenQuotesCardSaid : Prop := Claim7.holds Tryz.pinned (.plain (OpenSpec.ofChange tokenQuotesSpec)) tokenQuotesCard

/-- THE TIED CARD OF 'virgatelaw01.TokenTexts'. -/
def tokenTextsCard : Claim7 := { stood := { row := tokenTextsRow, standIns := [], harness := (true, "444a4f9c3f9225287ab646d07501b28328ee9908bd41a90e65e715098357c88e"), looks := true }, kinds := [], alts := [], laidByText := true, laidKinds := [.data, .data, .data, .data, .sentinel, .sentinel, .listed, .data, .pinned], laidTests := true, laidLooks := .later }
def TokenTextsCardSaid : Prop := Claim7.holds Tryz.pinned (.plain (OpenSpec.ofChange tokenTextsSpec)) tokenTextsCard

/-- THE SECOND FORM's CARD OF 'virgatelaw01.TokenNames'. -/
def tokenNamesUptoCard : Claim7 := { stood := { row := tokenNamesUptoRow, standIns := [], harness := (true, "444a4f9c3f9225287ab646d07501b28328ee9908bd41a90e65e715098357c88e"), looks := true }, kinds := [], alts := [], laidByText := true, laidKinds := [.data, .data, .data, .data, .sentinel, .sentinel, .listed, .data, .pinned], laidTests := true, laidLooks := .later }
def TokenNamesUptoCardSaid : Prop := Claim7.holds Tryz.pinned (.plain (OpenSpec.upto tokenNamesSpec)) tokenNamesUptoCard

/-- THE SECOND FORM's CARD OF 'virgatelaw01.TokenWhere'. -/
def tokenWhereUptoCard : Claim7 := { stood := { row := tokenWhereUptoRow, standIns := [], harness := (true, "444a4f9c3f9225287ab646d07501b28328ee9908bd41a90e65e715098357c88e"), looks := true }, kinds := [], alts := [], laidByText := true, laidKinds := [.data, .data, .data, .sentinel, .sentinel, .listed, .data], laidTests := true, laidLooks := .later }
def TokenWhereUptoCardSaid : Prop := Claim7.holds Tryz.pinned (.plain (OpenSpec.upto tokenWhereSpec)) tokenWhereUptoCard

/-- THE SECOND FORM's CARD OF 'virgatelaw01.TokenBack'. -/
def tokenBackUptoCard : Claim7 := { stood := { row := tokenBackUptoRow, standIns := [], harness := (true, "444a4f9c3f9225287ab646d07501b28328ee9908bd41a90e65e715098357c88e"), looks := true }, kinds := [], alts := [], laidByText := true, laidKinds := [.data, .data, .data, .sentinel, .sentinel, .listed, .data], laidTests := true, laidLooks := .later }
def TokenBackUptoCardSaid : Prop := Claim7.holds Tryz.pinned (.plain (OpenSpec.upto tokenBackSpec)) tokenBackUptoCard

/-- THE SECOND FORM's CARD OF 'virgatelaw01.TokenQuotes'. -/
def tokenQuotesUptoCard : Claim7 := { stood := { row := tokenQuotesUptoRow, standIns := [], harness := (true, "444a4f9c3f9225287ab646d07501b28328ee9908bd41a90e65e715098357c88e"), looks := true }, kinds := [], alts := [], laidByText := true, laidKinds := [.data, .data, .data, .data, .sentinel, .sentinel, .listed, .data, .pinned], laidTests := true, laidLooks := .later }
def TokenQuotesUptoCardSaid : Prop := Claim7.holds Tryz.pinned (.plain (OpenSpec.upto tokenQuotesSpec)) tokenQuotesUptoCard

/-- THE SECOND FORM's CARD OF 'virgatelaw01.TokenTexts'. -/
def tokenTextsUptoCard : Claim7 := { stood := { row := tokenTextsUptoRow, standIns := [], harness := (true, "444a4f9c3f9225287ab646d07501b28328ee9908bd41a90e65e715098357c88e"), looks := true }, kinds := [], alts := [], laidByText := true, laidKinds := [.data, .data, .data, .data, .sentinel, .sentinel, .listed, .data, .pinned], laidTests := true, laidLooks := .later }
def TokenTextsUptoCardSaid : Prop := Claim7.holds Tryz.pinned (.plain (OpenSpec.upto tokenTextsSpec)) tokenTextsUptoCard
end Rows
end Go.Proofs.YtikjefmoclienaaGreatDoor
