/-
  No cell of these rows narrows 'for every input' (looked for: loops, veiled, ifaces, maps, wideKeys, modest, calm, conditions, laid).
  DERIVED. THE GIVEN ROWS OF THIS SEAT. 6 by the template 'for every input the law returns true; each argument reads behind the call as it read before'; 0 by the template 'total and deterministic' (their statements: YtdpccgnmlfakfaaTotals.lean).
  GIVEN WITH THE SEED: the statements are not yours to turn. If you find one false, say at which input.
  Laid BY PROGRAM, IN A SANDBOX (cutbox-rows.mjs): the forced cells as the released guide's own fill.sh prints them over the translation 429c5c8a0d049b1d… (all of the seat's roots in one cut). By AI agents, Wed Nov 11 2026. No macro, syntax, notation, axiom, sorry.
-/
import Derived.Test.YtdpccgnmlfakfaaChecked
import GoSem.Claim
import GoSem.ClaimJoined
import GoSem.ClaimMapViews
import Derived.JoinedTies
import Derived.KernelRfl
namespace Go.Proofs.Ytdpccgnmlfakfaa
/- THE CELL 'sum', in the pinned program and in every row, IS THE sha256 OF THE DUMP (.gsa) THAT YtdpccgnmlfakfaaProg.lean LOADS. Nothing in Lean hashes anything: it is a label: what it is worth is what the hold of that sum in a sandbox is worth. -/
noncomputable def Try.pinned : Pinned := { name := "ytdpccgnmlfakfaa", sum := "429c5c8a0d049b1d862c394020c69c428f9011cc303bf17c5091bbac418ed890", checked := Try.checked }
namespace Rows
def none {H : Type} : Left H := { results := [], args := [] }

/-- 'darkroomlaw17.DctTurns': WHATEVER THE INPUT: true; the input reads as it did. -/
def dctTurnsSpec : ChangeSpec := { name := "dctTurns", fn := fun _ => fun
  | [d] => { results := [.lit (.bool true)], args := [d] }
  | _ => none }
def dctTurnsRow : OpenClaim := { program := "ytdpccgnmlfakfaa", sum := "429c5c8a0d049b1d862c394020c69c428f9011cc303bf17c5091bbac418ed890", func := "darkroom/darkroomlaw17.DctTurns", spec := "dctTurns", unfollowed := true, recurses := true, apart := false }
def DctTurnsSaid : Prop := dctTurnsRow.holds Try.pinned (OpenSpec.ofChange dctTurnsSpec)

/-- ITS FALSE NEIGHBOUR: 'it returns false'. Refute it at one input. -/
def dctTurnsWrong : ChangeSpec := { name := "dctTurns", fn := fun _ => fun
  | [d] => { results := [.lit (.bool false)], args := [d] }
  | _ => none }
def DctTurnsWrongFalsely : Prop := dctTurnsRow.holds Try.pinned (OpenSpec.ofChange dctTurnsWrong)

/-- 'darkroomlaw17.DctBack': WHATEVER THE INPUT: true; the input reads as it did. -/
def dctBackSpec : ChangeSpec := { name := "dctBack", fn := fun _ => fun
  | [d] => { results := [.lit (.bool true)], args := [d] }
  | _ => none }
def dctBackRow : OpenClaim := { program := "ytdpccgnmlfakfaa", sum := "429c5c8a0d049b1d862c394020c69c428f9011cc303bf17c5091bbac418ed890", func := "darkroom/darkroomlaw17.DctBack", spec := "dctBack", unfollowed := true, recurses := true, apart := false }
def DctBackSaid : Prop := dctBackRow.holds Try.pinned (OpenSpec.ofChange dctBackSpec)

/-- ITS FALSE NEIGHBOUR: 'it returns false'. Refute it at one input. -/
def dctBackWrong : ChangeSpec := { name := "dctBack", fn := fun _ => fun
  | [d] => { results := [.lit (.bool false)], args := [d] }
  | _ => none }
def DctBackWrongFalsely : Prop := dctBackRow.holds Try.pinned (OpenSpec.ofChange dctBackWrong)

/-- 'darkroomlaw17.DctSum': WHATEVER THE INPUT: true; the input reads as it did. -/
def dctSumSpec : ChangeSpec := { name := "dctSum", fn := fun _ => fun
  | [d1, d2] => { results := [.lit (.bool true)], args := [d1, d2] }
  | _ => none }
def dctSumRow : OpenClaim := { program := "ytdpccgnmlfakfaa", sum := "429c5c8a0d049b1d862c394020c69c428f9011cc303bf17c5091bbac418ed890", func := "darkroom/darkroomlaw17.DctSum", spec := "dctSum", unfollowed := true, recurses := true, apart := false }
def DctSumSaid : Prop := dctSumRow.holds Try.pinned (OpenSpec.ofChange dctSumSpec)

/-- ITS FALSE NEIGHBOUR: 'it returns false'. Refute it at one input. -/
def dctSumWrong : ChangeSpec := { name := "dctSum", fn := fun _ => fun
  | [d1, d2] => { results := [.lit (.bool false)], args := [d1, d2] }
  | _ => none }
def DctSumWrongFalsely : Prop := dctSumRow.holds Try.pinned (OpenSpec.ofChange dctSumWrong)

/-- 'darkroomlaw17.DctOrders': WHATEVER THE INPUT: true; the input reads as it did. -/
def dctOrdersSpec : ChangeSpec := { name := "dctOrders", fn := fun _ => fun
  | [d1, d2] => { results := [.lit (.bool true)], args := [d1, d2] }
  | _ => none }
def dctOrdersRow : OpenClaim := { program := "ytdpccgnmlfakfaa", sum := "429c5c8a0d049b1d862c394020c69c428f9011cc303bf17c5091bbac418ed890", func := "darkroom/darkroomlaw17.DctOrders", spec := "dctOrders", unfollowed := true, recurses := true, apart := false }
def DctOrdersSaid : Prop := dctOrdersRow.holds Try.pinned (OpenSpec.ofChange dctOrdersSpec)

/-- ITS FALSE NEIGHBOUR: 'it returns false'. Refute it at one input. -/
def dctOrdersWrong : ChangeSpec := { name := "dctOrders", fn := fun _ => fun
  | [d1, d2] => { results := [.lit (.bool false)], args := [d1, d2] }
  | _ => none }
def DctOrdersWrongFalsely : Prop := dctOrdersRow.holds Try.pinned (OpenSpec.ofChange dctOrdersWrong)

/-- 'darkroomlaw17.DctDivides': WHATEVER THE INPUT: true; the input reads as it did. -/
def dctDividesSpec : ChangeSpec := { name := "dctDivides", fn := fun _ => fun
  | [d1, d2] => { results := [.lit (.bool true)], args := [d1, d2] }
  | _ => none }
def dctDividesRow : OpenClaim := { program := "ytdpccgnmlfakfaa", sum := "429c5c8a0d049b1d862c394020c69c428f9011cc303bf17c5091bbac418ed890", func := "darkroom/darkroomlaw17.DctDivides", spec := "dctDivides", unfollowed := true, recurses := true, apart := false }
def DctDividesSaid : Prop := dctDividesRow.holds Try.pinned (OpenSpec.ofChange dctDividesSpec)

/-- ITS FALSE NEIGHBOUR: 'it returns false'. Refute it at one input. -/
def dctDividesWrong : ChangeSpec := { name := "dctDivides", fn := fun _ => fun
  | [d1, d2] => { results := [.lit (.bool false)], args := [d1, d2] }
  | _ => none }
def DctDividesWrongFalsely : Prop := dctDividesRow.holds Try.pinned (OpenSpec.ofChange dctDividesWrong)

/-- 'darkroomlaw17.DctOwn': WHATEVER THE INPUT: true; the input reads as it did. -/
def dctOwnSpec : ChangeSpec := { name := "dctOwn", fn := fun _ => fun
  | [d1, d2] => { results := [.lit (.bool true)], args := [d1, d2] }
  | _ => none }
def dctOwnRow : OpenClaim := { program := "ytdpccgnmlfakfaa", sum := "429c5c8a0d049b1d862c394020c69c428f9011cc303bf17c5091bbac418ed890", func := "darkroom/darkroomlaw17.DctOwn", spec := "dctOwn", unfollowed := true, recurses := true, apart := false }
def DctOwnSaid : Prop := dctOwnRow.holds Try.pinned (OpenSpec.ofChange dctOwnSpec)

/-- ITS FALSE NEIGHBOUR: 'it returns false'. Refute it at one input. -/
def dctOwnWrong : ChangeSpec := { name := "dctOwn", fn := fun _ => fun
  | [d1, d2] => { results := [.lit (.bool false)], args := [d1, d2] }
  | _ => none }
def DctOwnWrongFalsely : Prop := dctOwnRow.holds Try.pinned (OpenSpec.ofChange dctOwnWrong)

/- THE SECOND FORM. 'bulk': how many values and letters a reading holds, each counted each time it is reached (what is shared counts as often as it is met; a slice's spare places count too). A statement '..UptoSaid' is the law's where the arguments, and the package variables that the reading takes, are together of bulk at most 1048576: NARROWER than '..Said'. Prove '..Said' where nothing that the law and all that it calls make is longer than what came in: it says more and counts as full. Else prove '..UptoSaid'. A law counts once. -/
mutual
def uptoBulk {H : Type} : DataW H → Nat
  | .lit (.string bytes) => bytes.length + 1
  | .lit _ => 1
  | .nil => 1
  | .ptr d => uptoBulk d + 1
  | .slice elems spare => uptoBulkAll elems + uptoBulkAll spare + 1
  | .agg parts => uptoBulkAll parts + 1
  | .iface _ d => uptoBulk d + 1
  | .map entries => uptoBulkEntries entries + 1
  | .held _ => 1
def uptoBulkAll {H : Type} : List (DataW H) → Nat
  | [] => 0
  | d :: r => uptoBulk d + uptoBulkAll r
def uptoBulkEntries {H : Type} : List (Lit × DataW H) → Nat
  | [] => 0
  | x :: r => uptoBulkEntry x + uptoBulkEntries r
def uptoBulkEntry {H : Type} : Lit × DataW H → Nat
  | (.string bytes, d) => bytes.length + uptoBulk d + 1
  | (_, d) => uptoBulk d + 1
 end
def uptoSmall : (H : Type) → List (DataW H) → Bool := fun _ ds => decide (uptoBulkAll ds ≤ 1048576)
def OpenSpec.upto (s : _root_.Go.ChangeSpec) : _root_.Go.OpenSpec := { _root_.Go.OpenSpec.ofChange s with cond := some uptoSmall }

/-- 'darkroomlaw17.DctTurns', WHERE WHAT IT READS IS OF BULK AT MOST 1048576: true; the input reads as it did. -/
def dctTurnsUptoRow : OpenClaim := { program := "ytdpccgnmlfakfaa", sum := "429c5c8a0d049b1d862c394020c69c428f9011cc303bf17c5091bbac418ed890", func := "darkroom/darkroomlaw17.DctTurns", spec := "dctTurns", unfollowed := true, recurses := true, apart := false, narrowed := true }
def DctTurnsUptoSaid : Prop := dctTurnsUptoRow.holds Try.pinned (OpenSpec.upto dctTurnsSpec)

/-- 'darkroomlaw17.DctBack', WHERE WHAT IT READS IS OF BULK AT MOST 1048576: true; the input reads as it did. -/
def dctBackUptoRow : OpenClaim := { program := "ytdpccgnmlfakfaa", sum := "429c5c8a0d049b1d862c394020c69c428f9011cc303bf17c5091bbac418ed890", func := "darkroom/darkroomlaw17.DctBack", spec := "dctBack", unfollowed := true, recurses := true, apart := false, narrowed := true }
def DctBackUptoSaid : Prop := dctBackUptoRow.holds Try.pinned (OpenSpec.upto dctBackSpec)

/-- 'darkroomlaw17.DctSum', WHERE WHAT IT READS IS OF BULK AT MOST 1048576: true; the input reads as it did. -/
def dctSumUptoRow : OpenClaim := { program := "ytdpccgnmlfakfaa", sum := "429c5c8a0d049b1d862c394020c69c428f9011cc303bf17c5091bbac418ed890", func := "darkroom/darkroomlaw17.DctSum", spec := "dctSum", unfollowed := true, recurses := true, apart := false, narrowed := true }
def DctSumUptoSaid : Prop := dctSumUptoRow.holds Try.pinned (OpenSpec.upto dctSumSpec)

/-- 'darkroomlaw17.DctOrders', WHERE WHAT IT READS IS OF BULK AT MOST 1048576: true; the input reads as it did. -/
def dctOrdersUptoRow : OpenClaim := { program := "ytdpccgnmlfakfaa", sum := "429c5c8a0d049b1d862c394020c69c428f9011cc303bf17c5091bbac418ed890", func := "darkroom/darkroomlaw17.DctOrders", spec := "dctOrders", unfollowed := true, recurses := true, apart := false, narrowed := true }
def DctOrdersUptoSaid : Prop := dctOrdersUptoRow.holds Try.pinned (OpenSpec.upto dctOrdersSpec)

/-- 'darkroomlaw17.DctDivides', WHERE WHAT IT READS IS OF BULK AT MOST 1048576: true; the input reads as it did. -/
def dctDividesUptoRow : OpenClaim := { program := "ytdpccgnmlfakfaa", sum := "429c5c8a0d049b1d862c394020c69c428f9011cc303bf17c5091bbac418ed890", func := "darkroom/darkroomlaw17.DctDivides", spec := "dctDivides", unfollowed := true, recurses := true, apart := false, narrowed := true }
def DctDividesUptoSaid : Prop := dctDividesUptoRow.holds Try.pinned (OpenSpec.upto dctDividesSpec)

/-- 'darkroomlaw17.DctOwn', WHERE WHAT IT READS IS OF BULK AT MOST 1048576: true; the input reads as it did. -/
def dctOwnUptoRow : OpenClaim := { program := "ytdpccgnmlfakfaa", sum := "429c5c8a0d049b1d862c394020c69c428f9011cc303bf17c5091bbac418ed890", func := "darkroom/darkroomlaw17.DctOwn", spec := "dctOwn", unfollowed := true, recurses := true, apart := false, narrowed := true }
def DctOwnUptoSaid : Prop := dctOwnUptoRow.holds Try.pinned (OpenSpec.upto dctOwnSpec)

end Rows
end Go.Proofs.Ytdpccgnmlfakfaa
