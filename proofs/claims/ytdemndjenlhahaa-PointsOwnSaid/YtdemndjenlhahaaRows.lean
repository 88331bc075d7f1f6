/-
  No cell of these rows narrows 'for every input' (looked for: loops, veiled, ifaces, maps, wideKeys, modest, calm, conditions, laid).
  DERIVED. THE GIVEN ROWS OF THIS SEAT. 5 by the template 'for every input the law returns true; each argument reads behind the call as it read before'; 0 by the template 'total and deterministic' (their statements: YtdemndjenlhahaaTotals.lean).
  GIVEN WITH THE SEED: the statements are not yours to turn. If you find one false, say at which input.
  Laid BY PROGRAM, IN A SANDBOX (cutbox-rows.mjs): the forced cells as the released guide's own fill.sh prints them over the translation 762e4a71b437e5a7… (all of the seat's roots in one cut). By AI agents, Wed Nov 11 2026. No macro, syntax, notation, axiom, sorry.
-/
import Derived.Test.YtdemndjenlhahaaChecked
import GoSem.Claim
import GoSem.ClaimJoined
import GoSem.ClaimMapViews
import Derived.JoinedTies
import Derived.KernelRfl
namespace Go.Proofs.Ytdemndjenlhahaa
/- THE CELL 'sum', in the pinned program and in every row, IS THE sha256 OF THE DUMP (.gsa) THAT YtdemndjenlhahaaProg.lean LOADS. Nothing in Lean hashes anything: it is a label: what it is worth is what the hold of that sum in a sandbox is worth. -/
noncomputable def Try.pinned : Pinned := { name := "ytdemndjenlhahaa", sum := "762e4a71b437e5a79ca75d79964a20374d5f2ad418b9b59130959c4b544f2ff2", checked := Try.checked }
namespace Rows
def none {H : Type} : Left H := { results := [], args := [] }

/-- 'darkroomlaw20.PointsChecks': WHATEVER THE INPUT: true; the input reads as it did. -/
def pointsChecksSpec : ChangeSpec := { name := "pointsChecks", fn := fun _ => fun
  | [d1, d2] => { results := [.lit (.bool true)], args := [d1, d2] }
  | _ => none }
def pointsChecksRow : OpenClaim := { program := "ytdemndjenlhahaa", sum := "762e4a71b437e5a79ca75d79964a20374d5f2ad418b9b59130959c4b544f2ff2", func := "darkroom/darkroomlaw20.PointsChecks", spec := "pointsChecks", unfollowed := true, recurses := true, apart := false }
def PointsChecksSaid : Prop := pointsChecksRow.holds Try.pinned (OpenSpec.ofChange pointsChecksSpec)

/-- ITS FALSE NEIGHBOUR: 'it returns false'. Refute it at one input. -/
def pointsChecksWrong : ChangeSpec := { name := "pointsChecks", fn := fun _ => fun
  | [d1, d2] => { results := [.lit (.bool false)], args := [d1, d2] }
  | _ => none }
def PointsChecksWrongFalsely : Prop := pointsChecksRow.holds Try.pinned (OpenSpec.ofChange pointsChecksWrong)

/-- 'darkroomlaw20.PointsPlaces': WHATEVER THE INPUT: true; the input reads as it did. -/
def pointsPlacesSpec : ChangeSpec := { name := "pointsPlaces", fn := fun _ => fun
  | [d1, d2, d3] => { results := [.lit (.bool true)], args := [d1, d2, d3] }
  | _ => none }
def pointsPlacesRow : OpenClaim := { program := "ytdemndjenlhahaa", sum := "762e4a71b437e5a79ca75d79964a20374d5f2ad418b9b59130959c4b544f2ff2", func := "darkroom/darkroomlaw20.PointsPlaces", spec := "pointsPlaces", unfollowed := true, recurses := true, apart := false }
def PointsPlacesSaid : Prop := pointsPlacesRow.holds Try.pinned (OpenSpec.ofChange pointsPlacesSpec)

/-- ITS FALSE NEIGHBOUR: 'it returns false'. Refute it at one input. -/
def pointsPlacesWrong : ChangeSpec := { name := "pointsPlaces", fn := fun _ => fun
  | [d1, d2, d3] => { results := [.lit (.bool false)], args := [d1, d2, d3] }
  | _ => none }
def PointsPlacesWrongFalsely : Prop := pointsPlacesRow.holds Try.pinned (OpenSpec.ofChange pointsPlacesWrong)

/-- 'darkroomlaw20.PointsApplies': WHATEVER THE INPUT: true; the input reads as it did. -/
def pointsAppliesSpec : ChangeSpec := { name := "pointsApplies", fn := fun _ => fun
  | [d1, d2, d3] => { results := [.lit (.bool true)], args := [d1, d2, d3] }
  | _ => none }
def pointsAppliesRow : OpenClaim := { program := "ytdemndjenlhahaa", sum := "762e4a71b437e5a79ca75d79964a20374d5f2ad418b9b59130959c4b544f2ff2", func := "darkroom/darkroomlaw20.PointsApplies", spec := "pointsApplies", unfollowed := true, recurses := true, apart := false }
def PointsAppliesSaid : Prop := pointsAppliesRow.holds Try.pinned (OpenSpec.ofChange pointsAppliesSpec)

/-- ITS FALSE NEIGHBOUR: 'it returns false'. Refute it at one input. -/
def pointsAppliesWrong : ChangeSpec := { name := "pointsApplies", fn := fun _ => fun
  | [d1, d2, d3] => { results := [.lit (.bool false)], args := [d1, d2, d3] }
  | _ => none }
def PointsAppliesWrongFalsely : Prop := pointsAppliesRow.holds Try.pinned (OpenSpec.ofChange pointsAppliesWrong)

/-- 'darkroomlaw20.PointsTwice': WHATEVER THE INPUT: true; the input reads as it did. -/
def pointsTwiceSpec : ChangeSpec := { name := "pointsTwice", fn := fun _ => fun
  | [d1, d2] => { results := [.lit (.bool true)], args := [d1, d2] }
  | _ => none }
def pointsTwiceRow : OpenClaim := { program := "ytdemndjenlhahaa", sum := "762e4a71b437e5a79ca75d79964a20374d5f2ad418b9b59130959c4b544f2ff2", func := "darkroom/darkroomlaw20.PointsTwice", spec := "pointsTwice", unfollowed := true, recurses := true, apart := false }
def PointsTwiceSaid : Prop := pointsTwiceRow.holds Try.pinned (OpenSpec.ofChange pointsTwiceSpec)

/-- ITS FALSE NEIGHBOUR: 'it returns false'. Refute it at one input. -/
def pointsTwiceWrong : ChangeSpec := { name := "pointsTwice", fn := fun _ => fun
  | [d1, d2] => { results := [.lit (.bool false)], args := [d1, d2] }
  | _ => none }
def PointsTwiceWrongFalsely : Prop := pointsTwiceRow.holds Try.pinned (OpenSpec.ofChange pointsTwiceWrong)

/-- 'darkroomlaw20.PointsOwn': WHATEVER THE INPUT: true; the input reads as it did. -/
def pointsOwnSpec : ChangeSpec := { name := "pointsOwn", fn := fun _ => fun
  | [d1, d2, d3] => { results := [.lit (.bool true)], args := [d1, d2, d3] }
  | _ => none }
def pointsOwnRow : OpenClaim := { program := "ytdemndjenlhahaa", sum := "762e4a71b437e5a79ca75d79964a20374d5f2ad418b9b59130959c4b544f2ff2", func := "darkroom/darkroomlaw20.PointsOwn", spec := "pointsOwn", unfollowed := true, recurses := true, apart := false }
def PointsOwnSaid : Prop := pointsOwnRow.holds Try.pinned (OpenSpec.ofChange pointsOwnSpec)

/-- ITS FALSE NEIGHBOUR: 'it returns false'. Refute it at one input. -/
def pointsOwnWrong : ChangeSpec := { name := "pointsOwn", fn := fun _ => fun
  | [d1, d2, d3] => { results := [.lit (.bool false)], args := [d1, d2, d3] }
  | _ => none }
def PointsOwnWrongFalsely : Prop := pointsOwnRow.holds Try.pinned (OpenSpec.ofChange pointsOwnWrong)

/- THE SECOND FORM. 'bulk': how many values and letters a reading holds, each counted each time it is reached (what is shared counts as often as it is met; a slice's spare places count too). A statement '..UptoSaid' is the law's where the arguments, and the package variables that the reading takes, are together of bulk at most 1048576: NARROWER than '..Said'. Prove '..Said' where nothing that the law and all that it calls make is longer than what came in: it says more and counts as full. Else prove '..UptoSaid'. A law counts once. -/
mutual
def uptoBulk {H : Type} : DataW H → Nat
  | .lit (.string bytes) => bytes.length + 1
  | .lit _ => 1
  | .nil => 1
  | .ptr d => uptoBulk d + 1
  | .slice elems spare => uptoBulkAll elems + uptoBulkAll spare + 1
  | .agg parts => uptoBulkAll parts + 1
  | .iface _ d => uptoBulk d + 1
  | .map entries => uptoBulkEntries entries + 1
  | .held _ => 1
def uptoBulkAll {H : Type} : List (DataW H) → Nat
  | [] => 0
  | d :: r => uptoBulk d + uptoBulkAll r
def uptoBulkEntries {H : Type} : List (Lit × DataW H) → Nat
  | [] => 0
  | x :: r => uptoBulkEntry x + uptoBulkEntries r
def uptoBulkEntry {H : Type} : Lit × DataW H → Nat
  | (.string bytes, d) => bytes.length + uptoBulk d + 1
  | (_, d) => uptoBulk d + 1
 end
def uptoSmall : (H : Type) → List (DataW H) → Bool := fun _ ds => decide (uptoBulkAll ds ≤ 1048576)
def OpenSpec.upto (s : _root_.Go.ChangeSpec) : _root_.Go.OpenSpec := { _root_.Go.OpenSpec.ofChange s with cond := some uptoSmall }

/-- 'darkroomlaw20.PointsChecks', WHERE WHAT IT READS IS OF BULK AT MOST 1048576: true; the input reads as it did. -/
def pointsChecksUptoRow : OpenClaim := { program := "ytdemndjenlhahaa", sum := "762e4a71b437e5a79ca75d79964a20374d5f2ad418b9b59130959c4b544f2ff2", func := "darkroom/darkroomlaw20.PointsChecks", spec := "pointsChecks", unfollowed := true, recurses := true, apart := false, narrowed := true }
def PointsChecksUptoSaid : Prop := pointsChecksUptoRow.holds Try.pinned (OpenSpec.upto pointsChecksSpec)

/-- 'darkroomlaw20.PointsPlaces', WHERE WHAT IT READS IS OF BULK AT MOST 1048576: true; the input reads as it did. -/
def pointsPlacesUptoRow : OpenClaim := { program := "ytdemndjenlhahaa", sum := "762e4a71b437e5a79ca75d79964a20374d5f2ad418b9b59130959c4b544f2ff2", func := "darkroom/darkroomlaw20.PointsPlaces", spec := "pointsPlaces", unfollowed := true, recurses := true, apart := false, narrowed := true }
def PointsPlacesUptoSaid : Prop := pointsPlacesUptoRow.holds Try.pinned (OpenSpec.upto pointsPlacesSpec)

/-- 'darkroomlaw20.PointsApplies', WHERE WHAT IT READS IS OF BULK AT MOST 1048576: true; the input reads as it did. -/
def pointsAppliesUptoRow : OpenClaim := { program := "ytdemndjenlhahaa", sum := "762e4a71b437e5a79ca75d79964a20374d5f2ad418b9b59130959c4b544f2ff2", func := "darkroom/darkroomlaw20.PointsApplies", spec := "pointsApplies", unfollowed := true, recurses := true, apart := false, narrowed := true }
def PointsAppliesUptoSaid : Prop := pointsAppliesUptoRow.holds Try.pinned (OpenSpec.upto pointsAppliesSpec)

/-- 'darkroomlaw20.PointsTwice', WHERE WHAT IT READS IS OF BULK AT MOST 1048576: true; the input reads as it did. -/
def pointsTwiceUptoRow : OpenClaim := { program := "ytdemndjenlhahaa", sum := "762e4a71b437e5a79ca75d79964a20374d5f2ad418b9b59130959c4b544f2ff2", func := "darkroom/darkroomlaw20.PointsTwice", spec := "pointsTwice", unfollowed := true, recurses := true, apart := false, narrowed := true }
def PointsTwiceUptoSaid : Prop := pointsTwiceUptoRow.holds Try.pinned (OpenSpec.upto pointsTwiceSpec)

/-- 'darkroomlaw20.PointsOwn', WHERE WHAT IT READS IS OF BULK AT MOST 1048576: true; the input reads as it did. -/
def pointsOwnUptoRow : OpenClaim := { program := "ytdemndjenlhahaa", sum := "762e4a71b437e5a79ca75d79964a20374d5f2ad418b9b59130959c4b544f2ff2", func := "darkroom/darkroomlaw20.PointsOwn", spec := "pointsOwn", unfollowed := true, recurses := true, apart := false, narrowed := true }
def PointsOwnUptoSaid : Prop := pointsOwnUptoRow.holds Try.pinned (OpenSpec.upto pointsOwnSpec)

end Rows
end Go.Proofs.Ytdemndjenlhahaa
