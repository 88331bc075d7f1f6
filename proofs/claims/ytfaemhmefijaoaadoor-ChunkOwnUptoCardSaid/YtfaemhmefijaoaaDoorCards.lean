/-
  DERIVED. GIVEN WITH THE SEED: THE CARDS: each row of YtfaemhmefijaoaaDoorRows.lean that lists a variable, with what it lists TIED to the program's text (the seventh form; the later family's looks); each row that meets fmt, with fmt's text TOLD by the authors' own Lean function (tested against real Go, not proved from fmt's source: count such statements apart). THE CARD IS WHAT COUNTS. Prove the row's statement (the work); the ties are given (YtfaemhmefijaoaaDoorTie.lean); close each card by the builder's one call (the guide's Derived/Test/ToyasCard.lean, 'card_holds'). Laid BY PROGRAM, IN A SANDBOX (cutbox-door.mjs). By AI agents, Wed Nov 11 2026. No macro, syntax, notation, axiom, sorry.
-/
import Derived.Test.YtfaemhmefijaoaaDoorRows
import GoSem.ClaimSeven
namespace Go.Proofs.YtfaemhmefijaoaaDoor
namespace Rows

/-- THE TIED CARD OF 'darkroomlaw12.ChunkSplits'. -/
def chunkSplitsCard : Claim7 := { stood := { row := chunkSplitsRow, standIns := [], harness := (true, "5783ed8265e7345a360896cff179a940bf6af924d6ea77de093863326776bd0b"), looks := false }, kinds := [], alts := [], laidByText := true, laidKinds := [.data, .pinned], laidTests := true, laidLooks := .later }
def ChunkSplitsCardSaid : Prop := Claim7.holds Tryd.pinned (.plain (OpenSpec.ofChange chunkSplitsSpec)) chunkSplitsCard

/-- THE TIED CARD OF 'darkroomlaw12.ChunkJoins'. -/
def chunkJoinsCard : Claim7 := { stood := { row := chunkJoinsRow, standIns := [], harness := (true, "5783ed8265e7345a360896cff179a940bf6af924d6ea77de093863326776bd0b"), looks := false }, kinds := [], alts := [], laidByText := true, laidKinds := [.data, .pinned], laidTests := true, laidLooks := .later }
def ChunkJoinsCardSaid : Prop := Claim7.holds Tryd.pinned (.plain (OpenSpec.ofChange chunkJoinsSpec)) chunkJoinsCard

/-- THE TIED CARD OF 'darkroomlaw12.ChunkTold'. -/
def chunkToldCard : Claim7 := { stood := { row := chunkToldRow, standIns := [], harness := (true, "5783ed8265e7345a360896cff179a940bf6af924d6ea77de093863326776bd0b"), looks := false }, kinds := [], alts := [], laidByText := true, laidKinds := [.data, .pinned], laidTests := true, laidLooks := .later }
def ChunkToldCardSaid : Prop := Claim7.holds Tryd.pinned (.plain (OpenSpec.ofChange chunkToldSpec)) chunkToldCard

/-- THE TIED CARD OF 'darkroomlaw12.ChunkFilters'. -/
def chunkFiltersCard : Claim7 := { stood := { row := chunkFiltersRow, standIns := [], harness := (true, "5783ed8265e7345a360896cff179a940bf6af924d6ea77de093863326776bd0b"), looks := false }, kinds := [], alts := [], laidByText := true, laidKinds := [.data, .pinned], laidTests := true, laidLooks := .later }
def ChunkFiltersCardSaid : Prop := Claim7.holds Tryd.pinned (.plain (OpenSpec.ofChange chunkFiltersSpec)) chunkFiltersCard

/-- THE TIED CARD OF 'darkroomlaw12.ChunkRows'. -/
def chunkRowsCard : Claim7 := { stood := { row := chunkRowsRow, standIns := [], harness := (true, "5783ed8265e7345a360896cff179a940bf6af924d6ea77de093863326776bd0b"), looks := false }, kinds := [], alts := [], laidByText := true, laidKinds := [.data, .pinned], laidTests := true, laidLooks := .later }
def ChunkRowsCardSaid : Prop := Claim7.holds Tryd.pinned (.plain (OpenSpec.ofChange chunkRowsSpec)) chunkRowsCard

/-- THE TIED CARD OF 'darkroomlaw12.ChunkPasses'. -/
def chunkPassesCard : Claim7 := { stood := { row := chunkPassesRow, standIns := [], harness := (true, "5783ed8265e7345a360896cff179a940bf6af924d6ea77de093863326776bd0b"), looks := false }, kinds := [], alts := [], laidByText := true, laidKinds := [.data, .pinned], laidTests := true, laidLooks := .later }
def ChunkPassesCardSaid : Prop := Claim7.holds Tryd.pinned (.plain (OpenSpec.ofChange chunkPassesSpec)) chunkPassesCard

/-- THE TIED CARD OF 'darkroomlaw12.ChunkOwn'. -/
def chunkOwnCard : Claim7 := { stood := { row := chunkOwnRow, standIns := [], harness := (true, "5783ed8265e7345a360896cff179a940bf6af924d6ea77de093863326776bd0b"), looks := false }, kinds := [], alts := [], laidByText := true, laidKinds := [.data, .pinned], laidTests := true, laidLooks := .later }
def ChunkOwnCardSaid : Prop := Claim7.holds Tryd.pinned (.plain (OpenSpec.ofChange chunkOwnSpec)) chunkOwnCard

/-- THE SECOND FORM's CARD OF 'darkroomlaw12.ChunkSplits'. -/
def chunkSplitsUptoCard : Claim7 := { stood := { row := chunkSplitsUptoRow, standIns := [], harness := (true, "5783ed8265e7345a360896cff179a940bf6af924d6ea77de093863326776bd0b"), looks := false }, kinds := [], alts := [], laidByText := true, laidKinds := [.data, .pinned], laidTests := true, laidLooks := .later }
def ChunkSplitsUptoCardSaid : Prop := Claim7.holds Tryd.pinned (.plain (OpenSpec.upto chunkSplitsSpec)) chunkSplitsUptoCard

/-- THE SECOND FORM's CARD OF 'darkroomlaw12.ChunkJoins'. -/
def chunkJoinsUptoCard : Claim7 := { stood := { row := chunkJoinsUptoRow, standIns := [], harness := (true, "5783ed8265e7345a360896cff179a940bf6af924d6ea77de093863326776bd0b"), looks := false }, kinds := [], alts := [], laidByText := true, laidKinds := [.data, .pinned], laidTests := true, laidLooks := .later }
def ChunkJoinsUptoCardSaid : Prop := Claim7.holds Tryd.pinned (.plain (OpenSpec.upto chunkJoinsSpec)) chunkJoinsUptoCard

/-- THE SECOND FORM's CARD OF 'darkroomlaw12.ChunkTold'. -/
def chunkToldUptoCard : Claim7 := { stood := { row := chunkToldUptoRow, standIns := [], harness := (true, "5783ed8265e7345a360896cff179a940bf6af924d6ea77de093863326776bd0b"), looks := false }, kinds := [], alts := [], laidByText := true, laidKinds := [.data, .pinned], laidTests := true, laidLooks := .later }
def ChunkToldUptoCardSaid : Prop := Claim7.holds Tryd.pinned (.plain (OpenSpec.upto chunkToldSpec)) chunkToldUptoCard

/-- THE SECOND FORM's CARD OF 'darkroomlaw12.ChunkFilters'. -/
def chunkFiltersUptoCard : Claim7 := { stood := { row := chunkFiltersUptoRow, standIns := [], harness := (true, "5783ed8265e7345a360896cff179a940bf6af924d6ea77de093863326776bd0b"), looks := false }, kinds := [], alts := [], laidByText := true, laidKinds := [.data, .pinned], laidTests := true, laidLooks := .later }
def ChunkFiltersUptoCardSaid : Prop := Claim7.holds Tryd.pinned (.plain (OpenSpec.upto chunkFiltersSpec)) chunkFiltersUptoCard

/-- THE SECOND FORM's CARD OF 'darkroomlaw12.ChunkRows'. -/
def chunkRowsUptoCard : Claim7 := { stood := { row := chunkRowsUptoRow, standIns := [], harness := (true, "5783ed8265e7345a360896cff179a940bf6af924d6ea77de093863326776bd0b"), looks := false }, kinds := [], alts := [], laidByText := true, laidKinds := [.data, .pinned], laidTests := true, laidLooks := .later }
def ChunkRowsUptoCardSaid : Prop := Claim7.holds Tryd.pinned (.plain (OpenSpec.upto chunkRowsSpec)) chunkRowsUptoCard

/-- THE SECOND FORM's CARD OF 'darkroomlaw12.ChunkPasses'. -/
def chunkPassesUptoCard : Claim7 := { stood := { row := chunkPassesUptoRow, standIns := [], harness := (true, "5783ed8265e7345a360896cff179a940bf6af924d6ea77de093863326776bd0b"), looks := false }, kinds := [], alts := [], laidByText := true, laidKinds := [.data, .pinned], laidTests := true, laidLooks := .later }
def ChunkPassesUptoCardSaid : Prop := Claim7.holds Tryd.pinned (.plain (OpenSpec.upto chunkPassesSpec)) chunkPassesUptoCard

/-- THE SECOND FORM's CARD OF 'darkroomlaw12.ChunkOwn'. -/
def chunkOwnUptoCard : Claim7 := { stood := { row := chunkOwnUptoRow, standIns := [], harness := (true, "5783ed8265e7345a360896cff179a940bf6af924d6ea77de093863326776bd0b"), looks := false }, kinds := [], alts := [], laidByText := true, laidKinds := [.data, .pinned], laidTests := true, laidLooks := .later }
def ChunkOwnUptoCardSaid : Prop := Claim7.holds Tryd.pinned (.plain (OpenSpec.upto chunkOwnSpec)) chunkOwnUptoCard
end Rows
end Go.Proofs.YtfaemhmefijaoaaDoor
