/-
  DERIVED. GIVEN WITH THE SEED: THE CARDS: each row of YtikjefmoclienaaDoorRows.lean that lists a variable, with what it lists TIED to the program's text (the seventh form; the later family's looks); each row that meets fmt, with fmt's text TOLD by the authors' own Lean function (tested against real Go, not proved from fmt's source: count such statements apart). THE CARD IS WHAT COUNTS. Prove the row's statement (the work); the ties are given (YtikjefmoclienaaDoorTie.lean); close each card by the builder's one call (the guide's Derived/Test/ToyasCard.lean, 'card_holds'). Laid BY PROGRAM, IN A SANDBOX (cutbox-door.mjs). By AI agents, Wed Nov 11 2026. No macro, syntax, notation, axiom, sorry.
-/
import Derived.Test.YtikjefmoclienaaDoorRows
import GoSem.ClaimSeven
namespace Go.Proofs.YtikjefmoclienaaDoor
namespace Rows

/-- THE TIED CARD OF 'virgatelaw01.TokenPlaces'. -/
def tokenPlacesCard : Claim7 := { stood := { row := tokenPlacesRow, standIns := [], harness := (true, "25ee9f376b3f24d90a8fdc72357784c404ceb77e07db7ff33b8e28c8e3ae0131"), looks := true }, kinds := [], alts := [], laidByText := true, laidKinds := [.data, .data, .data, .sentinel, .sentinel, .listed, .data], laidTests := true, laidLooks := .later }
def TokenPlacesCardSaid : Prop := Claim7.holds Tryd.pinned (.plain (OpenSpec.ofChange tokenPlacesSpec)) tokenPlacesCard

/-- THE TIED CARD OF 'virgatelaw01.TokenTokens'. -/
def tokenTokensCard : Claim7 := { stood := { row := tokenTokensRow, standIns := [], harness := (true, "25ee9f376b3f24d90a8fdc72357784c404ceb77e07db7ff33b8e28c8e3ae0131"), looks := true }, kinds := [], alts := [], laidByText := true, laidKinds := [.data, .data, .data, .data, .sentinel, .sentinel, .listed, .data, .pinned], laidTests := true, laidLooks := .later }
def TokenTokensCardSaid : Prop := Claim7.holds Tryd.pinned (.plain (OpenSpec.ofChange tokenTokensSpec)) tokenTokensCard

/-- THE SECOND FORM's CARD OF 'virgatelaw01.TokenPlaces'. -/
def tokenPlacesUptoCard : Claim7 := { stood := { row := tokenPlacesUptoRow, standIns := [], harness := (true, "25ee9f376b3f24d90a8fdc72357784c404ceb77e07db7ff33b8e28c8e3ae0131"), looks := true }, kinds := [], alts := [], laidByText := true, laidKinds := [.data, .data, .data, .sentinel, .sentinel, .listed, .data], laidTests := true, laidLooks := .later }
def TokenPlacesUptoCardSaid : Prop := Claim7.holds Tryd.pinned (.plain (OpenSpec.upto tokenPlacesSpec)) tokenPlacesUptoCard

/-- THE SECOND FORM's CARD OF 'virgatelaw01.TokenTokens'. -/
def tokenTokensUptoCard : Claim7 := { stood := { row := tokenTokensUptoRow, standIns := [], harness := (true, "25ee9f376b3f24d90a8fdc72357784c404ceb77e07db7ff33b8e28c8e3ae0131"), looks := true }, kinds := [], alts := [], laidByText := true, laidKinds := [.data, .data, .data, .data, .sentinel, .sentinel, .listed, .data, .pinned], laidTests := true, laidLooks := .later }
def TokenTokensUptoCardSaid : Prop := Claim7.holds Tryd.pinned (.plain (OpenSpec.upto tokenTokensSpec)) tokenTokensUptoCard
end Rows
end Go.Proofs.YtikjefmoclienaaDoor
