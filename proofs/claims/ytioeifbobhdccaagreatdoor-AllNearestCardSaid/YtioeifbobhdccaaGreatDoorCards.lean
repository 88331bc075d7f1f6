/-
  DERIVED. GIVEN WITH THE SEED: THE CARDS: each row of YtioeifbobhdccaaGreatDoorRows.lean that lists a variable, with what it lists TIED to the program's text (the seventh form; the later family's looks); each row that meets fmt, with fmt's text TOLD by the authors' own Lean function (tested against real Go, not proved from fmt's source: count such statements apart). THE CARD IS WHAT COUNTS. Prove the row's statement (the work); the ties are given (YtioeifbobhdccaaGreatDoorTie.lean); close each card by the builder's one call (the guide's Derived/Test/ToyasCard.lean, 'card_holds'). Laid BY PROGRAM, IN A SANDBOX (cutbox-door.mjs). By AI agents, Wed Nov 11 2026. No macro, syntax, notation, axiom, sorry.
-/
import Derived.Test.YtioeifbobhdccaaGreatDoorRows
import GoSem.ClaimSeven
namespace Go.Proofs.YtioeifbobhdccaaGreatDoor
namespace Rows

/-- THE TIED CARD OF 'darkroomtop.AllNearest'. -/
def allNearestCard : Claim7 := { stood := { row := allNearestRow, standIns := [], harness := (true, "2037f8b213b310fc8b3835f85deef0ca579aaae8aeb73ad3f0004b487f962a71"), looks := true }, kinds := [], alts := [], laidByText := true, laidKinds := [.data, .data, .data, .data, .sentinel, .sentinel, .sentinel, .pinned], laidTests := true, laidLooks := .later }
def AllNearestCardSaid : Prop := Claim7.holds Tryz.pinned (.plain (OpenSpec.ofChange allNearestSpec)) allNearestCard

/-- THE SECOND FORM's CARD OF 'darkroomtop.AllNearest'. -/
def allNearestUptoCard : Claim7 := { stood := { row := allNearestUptoRow, standIns := [], harness := (true, "2037f8b213b310fc8b3835f85deef0ca579aaae8aeb73ad3f0004b487f962a71"), looks := true }, kinds := [], alts := [], laidByText := true, laidKinds := [.data, .data, .data, .data, .sentinel, .sentinel, .sentinel, .pinned], laidTests := true, laidLooks := .later }
def AllNearestUptoCardSaid : Prop := Claim7.holds Tryz.pinned (.plain (OpenSpec.upto allNearestSpec)) allNearestUptoCard
end Rows
end Go.Proofs.YtioeifbobhdccaaGreatDoor
