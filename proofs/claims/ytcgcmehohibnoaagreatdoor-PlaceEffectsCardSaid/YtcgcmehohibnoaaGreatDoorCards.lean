/-
  DERIVED. GIVEN WITH THE SEED: THE CARDS: each row of YtcgcmehohibnoaaGreatDoorRows.lean that lists a variable, with what it lists TIED to the program's text (the seventh form; the later family's looks); each row that meets fmt, with fmt's text TOLD by the authors' own Lean function (tested against real Go, not proved from fmt's source: count such statements apart). THE CARD IS WHAT COUNTS. Prove the row's statement (the work); the ties are given (YtcgcmehohibnoaaGreatDoorTie.lean); close each card by the builder's one call (the guide's Derived/Test/ToyasCard.lean, 'card_holds'). Laid BY PROGRAM, IN A SANDBOX (cutbox-door.mjs). By AI agents, Wed Nov 11 2026. No macro, syntax, notation, axiom, sorry.
-/
import Derived.Test.YtcgcmehohibnoaaGreatDoorRows
import GoSem.ClaimSeven
namespace Go.Proofs.YtcgcmehohibnoaaGreatDoor
namespace Rows

/-- THE TIED CARD OF 'virgatelaw10.PlaceEffects'. -/
def placeEffectsCard : Claim7 := { stood := { row := placeEffectsRow, standIns := [], harness := (true, "55616b9a1244e9322ce4404abb4514f302dfdf850bd6953a1ed751d7c9715ba3"), looks := true }, kinds := [], alts := [], laidByText := true, laidKinds := [.data, .data, .data, .sentinel, .sentinel, .listed, .data], laidTests := true, laidLooks := .later }
def PlaceEffectsCardSaid : Prop := Claim7.holds Tryz.pinned (.plain (OpenSpec.ofChange placeEffectsSpec)) placeEffectsCard

/-- THE TIED CARD OF 'virgatelaw10.PlaceOther'. -/
def placeOtherCard : Claim7 := { stood := { row := placeOtherRow, standIns := [], harness := (true, "55616b9a1244e9322ce4404abb4514f302dfdf850bd6953a1ed751d7c9715ba3"), looks := true }, kinds := [], alts := [], laidByText := true, laidKinds := [.data, .data, .data, .sentinel, .sentinel, .listed, .data], laidTests := true, laidLooks := .later }
def PlaceOtherCardSaid : Prop := Claim7.holds Tryz.pinned (.plain (OpenSpec.ofChange placeOtherSpec)) placeOtherCard

/-- THE TIED CARD OF 'virgatelaw10.PlaceReads'. -/
def placeReadsCard : Claim7 := { stood := { row := placeReadsRow, standIns := [], harness := (true, "55616b9a1244e9322ce4404abb4514f302dfdf850bd6953a1ed751d7c9715ba3"), looks := true }, kinds := [], alts := [], laidByText := true, laidKinds := [.data, .data, .data, .data, .sentinel, .sentinel, .listed, .data, .pinned], laidTests := true, laidLooks := .later }
def PlaceReadsCardSaid : Prop := Claim7.holds Tryz.pinned (.plain (OpenSpec.ofChange placeReadsSpec)) placeReadsCard

/-- THE TIED CARD OF 'virgatelaw10.PlaceBack'. -/
def placeBackCard : Claim7 := { stood := { row := placeBackRow, standIns := [], harness := (true, "55616b9a1244e9322ce4404abb4514f302dfdf850bd6953a1ed751d7c9715ba3"), looks := true }, kinds := [], alts := [], laidByText := true, laidKinds := [.data, .data, .data, .data, .sentinel, .sentinel, .listed, .data, .pinned], laidTests := true, laidLooks := .later }
def PlaceBackCardSaid : Prop := Claim7.holds Tryz.pinned (.plain (OpenSpec.ofChange placeBackSpec)) placeBackCard

/-- THE TIED CARD OF 'virgatelaw10.PlacePlain'. -/
def placePlainCard : Claim7 := { stood := { row := placePlainRow, standIns := [], harness := (true, "55616b9a1244e9322ce4404abb4514f302dfdf850bd6953a1ed751d7c9715ba3"), looks := true }, kinds := [], alts := [], laidByText := true, laidKinds := [.data, .data, .data, .data, .sentinel, .sentinel, .listed, .data, .pinned], laidTests := true, laidLooks := .later }
def PlacePlainCardSaid : Prop := Claim7.holds Tryz.pinned (.plain (OpenSpec.ofChange placePlainSpec)) placePlainCard

/-- THE SECOND FORM's CARD OF 'virgatelaw10.PlaceEffects'. -/
def placeEffectsUptoCard : Claim7 := { stood := { row := placeEffectsUptoRow, standIns := [], harness := (true, "55616b9a1244e9322ce4404abb4514f302dfdf850bd6953a1ed751d7c9715ba3"), looks := true }, kinds := [], alts := [], laidByText := true, laidKinds := [.data, .data, .data, .sentinel, .sentinel, .listed, .data], laidTests := true, laidLooks := .later }
def PlaceEffectsUptoCardSaid : Prop := Claim7.holds Tryz.pinned (.plain (OpenSpec.upto placeEffectsSpec)) placeEffectsUptoCard

/-- THE SECOND FORM's CARD OF 'virgatelaw10.PlaceOther'. -/
def placeOtherUptoCard : Claim7 := { stood := { row := placeOtherUptoRow, standIns := [], harness := (true, "55616b9a1244e9322ce4404abb4514f302dfdf850bd6953a1ed751d7c9715ba3"), looks := true }, kinds := [], alts := [], laidByText := true, laidKinds := [.data, .data, .data, .sentinel, .sentinel, .listed, .data], laidTests := true, laidLooks := .later }
def PlaceOtherUptoCardSaid : Prop := Claim7.holds Tryz.pinned (.plain (OpenSpec.upto placeOtherSpec)) placeOtherUptoCard

/-- THE SECOND FORM's CARD OF 'virgatelaw10.PlaceReads'. -/
def placeReadsUptoCard : Claim7 := { stood := { row := placeReadsUptoRow, standIns := [], harness := (true, "55616b9a1244e9322ce4404abb4514f302dfdf850bd6953a1ed751d7c9715ba3"), looks := true }, kinds := [], alts := [], laidByText := true, laidKinds := [.data, .data, .data, .data, .sentinel, .sentinel, .listed, .data, .pinned], laidTests := true, laidLooks := .later }
def PlaceReadsUptoCardSaid : Prop := Claim7.holds Tryz.pinned (.plain (OpenSpec.upto placeReadsSpec)) placeReadsUptoCard

/-- THE SECOND FORM's CARD OF 'virgatelaw10.PlaceBack'. -/
def placeBackUptoCard : Claim7 := { stood := { row := placeBackUptoRow, standIns := [], harness := (true, "55616b9a1244e9322ce4404abb4514f302dfdf850bd6953a1ed751d7c9715ba3"), looks := true }, kinds := [], alts := [], laidByText := true, laidKinds := [.data, .data, .data, .data, .sentinel, .sentinel, .listed, .data, .pinned], laidTests := true, laidLooks := .later }
def PlaceBackUptoCardSaid : Prop := Claim7.holds Tryz.pinned (.plain (OpenSpec.upto placeBackSpec)) placeBackUptoCard

/-- THE SECOND FORM's CARD OF 'virgatelaw10.PlacePlain'. -/
def placePlainUptoCard : Claim7 := { stood := { row := placePlainUptoRow, standIns := [], harness := (true, "55616b9a1244e9322ce4404abb4514f302dfdf850bd6953a1ed751d7c9715ba3"), looks := true }, kinds := [], alts := [], laidByText := true, laidKinds := [.data, .data, .data, .data, .sentinel, .sentinel, .listed, .data, .pinned], laidTests := true, laidLooks := .later }
def PlacePlainUptoCardSaid : Prop := Claim7.holds Tryz.pinned (.plain (OpenSpec.upto placePlainSpec)) placePlainUptoCard
end Rows
end Go.Proofs.YtcgcmehohibnoaaGreatDoor
