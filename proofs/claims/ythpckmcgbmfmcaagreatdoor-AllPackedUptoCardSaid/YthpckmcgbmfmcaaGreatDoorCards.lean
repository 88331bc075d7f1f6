/-
  DERIVED. GIVEN WITH THE SEED: THE CARDS: each row of YthpckmcgbmfmcaaGreatDoorRows.lean that lists a variable, with what it lists TIED to the program's text (the seventh form; the later family's looks); each row that meets fmt, with fmt's text TOLD by the authors' own Lean function (tested against real Go, not proved from fmt's source: count such statements apart). THE CARD IS WHAT COUNTS. Prove the row's statement (the work); the ties are given (YthpckmcgbmfmcaaGreatDoorTie.lean); close each card by the builder's one call (the guide's Derived/Test/ToyasCard.lean, 'card_holds'). Laid BY PROGRAM, IN A SANDBOX (cutbox-door.mjs). By AI agents, Wed Nov 11 2026. No macro, syntax, notation, axiom, sorry.
-/
import Derived.Test.YthpckmcgbmfmcaaGreatDoorRows
import GoSem.ClaimSeven
namespace Go.Proofs.YthpckmcgbmfmcaaGreatDoor
namespace Rows

/-- THE TIED CARD OF 'darkroomtop.AllPacked'. -/
def allPackedCard : Claim7 := { stood := { row := allPackedRow, standIns := [], harness := (true, "e24b62170560629f8136c5947d49fce6371f91a98a6a83e7a88468b6fdc679d9"), looks := true }, kinds := [], alts := [], laidByText := true, laidKinds := [.data, .data, .data, .data, .sentinel, .sentinel, .sentinel, .pinned], laidTests := true, laidLooks := .later }
def AllPackedCardSaid : Prop := Claim7.holds Tryz.pinned (.plain (OpenSpec.ofChange allPackedSpec)) allPackedCard

/-- THE SECOND FORM's CARD OF 'darkroomtop.AllPacked'. -/
def allPackedUptoCard : Claim7 := { stood := { row := allPackedUptoRow, standIns := [], harness := (true, "e24b62170560629f8136c5947d49fce6371f91a98a6a83e7a88468b6fdc679d9"), looks := true }, kinds := [], alts := [], laidByText := true, laidKinds := [.data, .data, .data, .data, .sentinel, .sentinel, .sentinel, .pinned], laidTests := true, laidLooks := .later }
def AllPackedUptoCardSaid : Prop := Claim7.holds Tryz.pinned (.plain (OpenSpec.upto allPackedSpec)) allPackedUptoCard
end Rows
end Go.Proofs.YthpckmcgbmfmcaaGreatDoor
