/- A world for the witness: both tables laid. -/
import Derived.Test.YtfaemhmefijaoaaDoorCards
import Derived.Test.YtfaemhmefijaoaaDoorTie
import Derived.Test.YtfaemhmefijaoaaDoorFrame
import Derived.Deep.DeepHandedRow
import Derived.Lib.LaidTab
namespace Go.Proofs.YtfaemhmefijaoaaDoor
open Go.ChangeShapes Go.WideShapes Go.ChangeAt Go.RowKit
def acceptCells : Array Value := #[.int .u8 128, .int .u8 191, .int .u8 160, .int .u8 191, .int .u8 128, .int .u8 159, .int .u8 144, .int .u8 191, .int .u8 128, .int .u8 143, .int .u8 0, .int .u8 0, .int .u8 0, .int .u8 0, .int .u8 0, .int .u8 0, .int .u8 0, .int .u8 0, .int .u8 0, .int .u8 0, .int .u8 0, .int .u8 0, .int .u8 0, .int .u8 0, .int .u8 0, .int .u8 0, .int .u8 0, .int .u8 0, .int .u8 0, .int .u8 0, .int .u8 0, .int .u8 0]
def firstCells : Array Value := (Go.Pinned.utf8FirstZ.map fun n => Value.int .u8 (n : Nat)).toArray
def layAs (cs : Array Value) : Obj → Obj
  | .cells _ t frozen => .cells cs t frozen
  | o => o
/-- the settled world, the two tables (blocks 0, 1) holding what their initialisers lay -/
noncomputable def laidWorld (os : Os) : World :=
  { World.holding Tryd.prog os ⟨#[], #[], []⟩ with heap := ((World.holding Tryd.prog os ⟨#[], #[], []⟩).heap.modify 0 (layAs firstCells)).modify 1 (layAs acceptCells) }
end Go.Proofs.YtfaemhmefijaoaaDoor
