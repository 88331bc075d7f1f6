/-
  NARROWER THAN 'FOR EVERY INPUT', by the rows' own cells (each row's printed sentence says how): ChunkSplits: laid · ChunkJoins: laid · ChunkTold: laid · ChunkFilters: laid · ChunkRows: laid · ChunkPasses: laid · ChunkOwn: laid.
  DERIVED. THE GIVEN ROWS OF THIS SEAT. 7 by the template 'for every input the law returns true; each argument reads behind the call as it read before'; 0 by the template 'total and deterministic' (their statements: YtfaemhmefijaoaaDoorTotals.lean).
  GIVEN WITH THE SEED: the statements are not yours to turn. If you find one false, say at which input.
  Laid BY PROGRAM, IN A SANDBOX (cutbox-rows.mjs): the forced cells as the released guide's own fill.sh prints them over the translation 79a8f1839157dbad… (all of the seat's roots in one cut). By AI agents, Wed Nov 11 2026. No macro, syntax, notation, axiom, sorry.
-/
import Derived.Test.YtfaemhmefijaoaaDoorChecked
import GoSem.PinnedTables
import GoSem.Claim
import GoSem.ClaimJoined
import GoSem.ClaimMapViews
import Derived.JoinedTies
import Derived.KernelRfl
namespace Go.Proofs.YtfaemhmefijaoaaDoor
/- THE CELL 'sum', in the pinned program and in every row, IS THE sha256 OF THE DUMP (.gsa) THAT YtfaemhmefijaoaaDoorProg.lean LOADS. Nothing in Lean hashes anything: it is a label: what it is worth is what the hold of that sum in a sandbox is worth. -/
noncomputable def Tryd.pinned : Pinned := { name := "ytfaemhmefijaoaadoor", sum := "79a8f1839157dbade50fe652268da30f139536bf07bd4e15d425cd49f6cb9595", checked := Tryd.checked }
namespace Rows
def none {H : Type} : Left H := { results := [], args := [] }

/- WHAT THE LISTED PACKAGE-LEVEL VARIABLES READ AS WHEN THE CALL BEGINS. Each datum BY PROGRAM (the guide's laid-datum.mjs) off the statement by which the dump's own 'gosem.cut.vars' lays the variable. In a bare row this is a premise. The card (YtfaemhmefijaoaaDoorCards.lean) ties it to the program's text. -/
def laid_unicode_utf8_acceptRanges {H : Type} : DataW H := .agg [.agg [.lit (.int .u8 128), .lit (.int .u8 191)], .agg [.lit (.int .u8 160), .lit (.int .u8 191)], .agg [.lit (.int .u8 128), .lit (.int .u8 159)], .agg [.lit (.int .u8 144), .lit (.int .u8 191)], .agg [.lit (.int .u8 128), .lit (.int .u8 143)], .agg [.lit (.int .u8 0), .lit (.int .u8 0)], .agg [.lit (.int .u8 0), .lit (.int .u8 0)], .agg [.lit (.int .u8 0), .lit (.int .u8 0)], .agg [.lit (.int .u8 0), .lit (.int .u8 0)], .agg [.lit (.int .u8 0), .lit (.int .u8 0)], .agg [.lit (.int .u8 0), .lit (.int .u8 0)], .agg [.lit (.int .u8 0), .lit (.int .u8 0)], .agg [.lit (.int .u8 0), .lit (.int .u8 0)], .agg [.lit (.int .u8 0), .lit (.int .u8 0)], .agg [.lit (.int .u8 0), .lit (.int .u8 0)], .agg [.lit (.int .u8 0), .lit (.int .u8 0)]]
/-- One of Go's own tables, pinned by name: the form's constant. -/
def laid_unicode_utf8_first : DataW Unit := Go.Pinned.utf8First

/-- 'darkroomlaw12.ChunkSplits': WHATEVER THE INPUT: true; the input reads as it did. -/
def chunkSplitsSpec : ChangeSpec := { name := "chunkSplits", fn := fun _ => fun
  | [d] => { results := [.lit (.bool true)], args := [d] }
  | _ => none }
def chunkSplitsRow : OpenClaim := { program := "ytfaemhmefijaoaadoor", sum := "79a8f1839157dbade50fe652268da30f139536bf07bd4e15d425cd49f6cb9595", func := "darkroom/darkroomlaw12.ChunkSplits", spec := "chunkSplits", inPlace := ["internal/bytealg.IndexByteString", "internal/bytealg.IndexString"], unfollowed := true, recurses := true, named := ["unicode/utf8.first", "unicode/utf8.acceptRanges", "internal/bytealg.MaxLen"], apart := false, laid := [("unicode/utf8.acceptRanges", laid_unicode_utf8_acceptRanges), ("unicode/utf8.first", laid_unicode_utf8_first)] }
def ChunkSplitsSaid : Prop := chunkSplitsRow.holds Tryd.pinned (OpenSpec.ofChange chunkSplitsSpec)

/-- ITS FALSE NEIGHBOUR: 'it returns false'. Refute it at one input. -/
def chunkSplitsWrong : ChangeSpec := { name := "chunkSplits", fn := fun _ => fun
  | [d] => { results := [.lit (.bool false)], args := [d] }
  | _ => none }
def ChunkSplitsWrongFalsely : Prop := chunkSplitsRow.holds Tryd.pinned (OpenSpec.ofChange chunkSplitsWrong)

/-- 'darkroomlaw12.ChunkJoins': WHATEVER THE INPUT: true; the input reads as it did. -/
def chunkJoinsSpec : ChangeSpec := { name := "chunkJoins", fn := fun _ => fun
  | [d1, d2] => { results := [.lit (.bool true)], args := [d1, d2] }
  | _ => none }
def chunkJoinsRow : OpenClaim := { program := "ytfaemhmefijaoaadoor", sum := "79a8f1839157dbade50fe652268da30f139536bf07bd4e15d425cd49f6cb9595", func := "darkroom/darkroomlaw12.ChunkJoins", spec := "chunkJoins", inPlace := ["internal/bytealg.IndexByteString", "internal/bytealg.IndexString"], unfollowed := true, recurses := true, named := ["unicode/utf8.first", "unicode/utf8.acceptRanges", "internal/bytealg.MaxLen"], apart := false, laid := [("unicode/utf8.acceptRanges", laid_unicode_utf8_acceptRanges), ("unicode/utf8.first", laid_unicode_utf8_first)] }
def ChunkJoinsSaid : Prop := chunkJoinsRow.holds Tryd.pinned (OpenSpec.ofChange chunkJoinsSpec)

/-- ITS FALSE NEIGHBOUR: 'it returns false'. Refute it at one input. -/
def chunkJoinsWrong : ChangeSpec := { name := "chunkJoins", fn := fun _ => fun
  | [d1, d2] => { results := [.lit (.bool false)], args := [d1, d2] }
  | _ => none }
def ChunkJoinsWrongFalsely : Prop := chunkJoinsRow.holds Tryd.pinned (OpenSpec.ofChange chunkJoinsWrong)

/-- 'darkroomlaw12.ChunkTold': WHATEVER THE INPUT: true; the input reads as it did. -/
def chunkToldSpec : ChangeSpec := { name := "chunkTold", fn := fun _ => fun
  | [d1, d2, d3] => { results := [.lit (.bool true)], args := [d1, d2, d3] }
  | _ => none }
def chunkToldRow : OpenClaim := { program := "ytfaemhmefijaoaadoor", sum := "79a8f1839157dbade50fe652268da30f139536bf07bd4e15d425cd49f6cb9595", func := "darkroom/darkroomlaw12.ChunkTold", spec := "chunkTold", inPlace := ["internal/bytealg.IndexByteString", "internal/bytealg.IndexString"], unfollowed := true, recurses := true, named := ["unicode/utf8.first", "unicode/utf8.acceptRanges", "internal/bytealg.MaxLen"], apart := false, laid := [("unicode/utf8.acceptRanges", laid_unicode_utf8_acceptRanges), ("unicode/utf8.first", laid_unicode_utf8_first)] }
def ChunkToldSaid : Prop := chunkToldRow.holds Tryd.pinned (OpenSpec.ofChange chunkToldSpec)

/-- ITS FALSE NEIGHBOUR: 'it returns false'. Refute it at one input. -/
def chunkToldWrong : ChangeSpec := { name := "chunkTold", fn := fun _ => fun
  | [d1, d2, d3] => { results := [.lit (.bool false)], args := [d1, d2, d3] }
  | _ => none }
def ChunkToldWrongFalsely : Prop := chunkToldRow.holds Tryd.pinned (OpenSpec.ofChange chunkToldWrong)

/-- 'darkroomlaw12.ChunkFilters': WHATEVER THE INPUT: true; the input reads as it did. -/
def chunkFiltersSpec : ChangeSpec := { name := "chunkFilters", fn := fun _ => fun
  | [d1, d2] => { results := [.lit (.bool true)], args := [d1, d2] }
  | _ => none }
def chunkFiltersRow : OpenClaim := { program := "ytfaemhmefijaoaadoor", sum := "79a8f1839157dbade50fe652268da30f139536bf07bd4e15d425cd49f6cb9595", func := "darkroom/darkroomlaw12.ChunkFilters", spec := "chunkFilters", inPlace := ["internal/bytealg.IndexByteString", "internal/bytealg.IndexString"], unfollowed := true, recurses := true, named := ["unicode/utf8.first", "unicode/utf8.acceptRanges", "internal/bytealg.MaxLen"], apart := false, laid := [("unicode/utf8.acceptRanges", laid_unicode_utf8_acceptRanges), ("unicode/utf8.first", laid_unicode_utf8_first)] }
def ChunkFiltersSaid : Prop := chunkFiltersRow.holds Tryd.pinned (OpenSpec.ofChange chunkFiltersSpec)

/-- ITS FALSE NEIGHBOUR: 'it returns false'. Refute it at one input. -/
def chunkFiltersWrong : ChangeSpec := { name := "chunkFilters", fn := fun _ => fun
  | [d1, d2] => { results := [.lit (.bool false)], args := [d1, d2] }
  | _ => none }
def ChunkFiltersWrongFalsely : Prop := chunkFiltersRow.holds Tryd.pinned (OpenSpec.ofChange chunkFiltersWrong)

/-- 'darkroomlaw12.ChunkRows': WHATEVER THE INPUT: true; the input reads as it did. -/
def chunkRowsSpec : ChangeSpec := { name := "chunkRows", fn := fun _ => fun
  | [d1, d2, d3] => { results := [.lit (.bool true)], args := [d1, d2, d3] }
  | _ => none }
def chunkRowsRow : OpenClaim := { program := "ytfaemhmefijaoaadoor", sum := "79a8f1839157dbade50fe652268da30f139536bf07bd4e15d425cd49f6cb9595", func := "darkroom/darkroomlaw12.ChunkRows", spec := "chunkRows", inPlace := ["internal/bytealg.IndexByteString", "internal/bytealg.IndexString"], unfollowed := true, recurses := true, named := ["unicode/utf8.first", "unicode/utf8.acceptRanges", "internal/bytealg.MaxLen"], apart := false, laid := [("unicode/utf8.acceptRanges", laid_unicode_utf8_acceptRanges), ("unicode/utf8.first", laid_unicode_utf8_first)] }
def ChunkRowsSaid : Prop := chunkRowsRow.holds Tryd.pinned (OpenSpec.ofChange chunkRowsSpec)

/-- ITS FALSE NEIGHBOUR: 'it returns false'. Refute it at one input. -/
def chunkRowsWrong : ChangeSpec := { name := "chunkRows", fn := fun _ => fun
  | [d1, d2, d3] => { results := [.lit (.bool false)], args := [d1, d2, d3] }
  | _ => none }
def ChunkRowsWrongFalsely : Prop := chunkRowsRow.holds Tryd.pinned (OpenSpec.ofChange chunkRowsWrong)

/-- 'darkroomlaw12.ChunkPasses': WHATEVER THE INPUT: true; the input reads as it did. -/
def chunkPassesSpec : ChangeSpec := { name := "chunkPasses", fn := fun _ => fun
  | [d1, d2, d3] => { results := [.lit (.bool true)], args := [d1, d2, d3] }
  | _ => none }
def chunkPassesRow : OpenClaim := { program := "ytfaemhmefijaoaadoor", sum := "79a8f1839157dbade50fe652268da30f139536bf07bd4e15d425cd49f6cb9595", func := "darkroom/darkroomlaw12.ChunkPasses", spec := "chunkPasses", inPlace := ["internal/bytealg.IndexByteString", "internal/bytealg.IndexString"], unfollowed := true, recurses := true, named := ["unicode/utf8.first", "unicode/utf8.acceptRanges", "internal/bytealg.MaxLen"], apart := false, laid := [("unicode/utf8.acceptRanges", laid_unicode_utf8_acceptRanges), ("unicode/utf8.first", laid_unicode_utf8_first)] }
def ChunkPassesSaid : Prop := chunkPassesRow.holds Tryd.pinned (OpenSpec.ofChange chunkPassesSpec)

/-- ITS FALSE NEIGHBOUR: 'it returns false'. Refute it at one input. -/
def chunkPassesWrong : ChangeSpec := { name := "chunkPasses", fn := fun _ => fun
  | [d1, d2, d3] => { results := [.lit (.bool false)], args := [d1, d2, d3] }
  | _ => none }
def ChunkPassesWrongFalsely : Prop := chunkPassesRow.holds Tryd.pinned (OpenSpec.ofChange chunkPassesWrong)

/-- 'darkroomlaw12.ChunkOwn': WHATEVER THE INPUT: true; the input reads as it did. -/
def chunkOwnSpec : ChangeSpec := { name := "chunkOwn", fn := fun _ => fun
  | [d1, d2] => { results := [.lit (.bool true)], args := [d1, d2] }
  | _ => none }
def chunkOwnRow : OpenClaim := { program := "ytfaemhmefijaoaadoor", sum := "79a8f1839157dbade50fe652268da30f139536bf07bd4e15d425cd49f6cb9595", func := "darkroom/darkroomlaw12.ChunkOwn", spec := "chunkOwn", inPlace := ["internal/bytealg.IndexByteString", "internal/bytealg.IndexString"], unfollowed := true, recurses := true, named := ["unicode/utf8.first", "unicode/utf8.acceptRanges", "internal/bytealg.MaxLen"], apart := false, laid := [("unicode/utf8.acceptRanges", laid_unicode_utf8_acceptRanges), ("unicode/utf8.first", laid_unicode_utf8_first)] }
def ChunkOwnSaid : Prop := chunkOwnRow.holds Tryd.pinned (OpenSpec.ofChange chunkOwnSpec)

/-- ITS FALSE NEIGHBOUR: 'it returns false'. Refute it at one input. -/
def chunkOwnWrong : ChangeSpec := { name := "chunkOwn", fn := fun _ => fun
  | [d1, d2] => { results := [.lit (.bool false)], args := [d1, d2] }
  | _ => none }
def ChunkOwnWrongFalsely : Prop := chunkOwnRow.holds Tryd.pinned (OpenSpec.ofChange chunkOwnWrong)

/- THE SECOND FORM. 'bulk': how many values and letters a reading holds, each counted each time it is reached (what is shared counts as often as it is met; a slice's spare places count too). A statement '..UptoSaid' is the law's where the arguments, and the package variables that the reading takes, are together of bulk at most 1048576: NARROWER than '..Said'. Prove '..Said' where nothing that the law and all that it calls make is longer than what came in: it says more and counts as full. Else prove '..UptoSaid'. A law counts once. -/
mutual
def uptoBulk {H : Type} : DataW H → Nat
  | .lit (.string bytes) => bytes.length + 1
  | .lit _ => 1
  | .nil => 1
  | .ptr d => uptoBulk d + 1
  | .slice elems spare => uptoBulkAll elems + uptoBulkAll spare + 1
  | .agg parts => uptoBulkAll parts + 1
  | .iface _ d => uptoBulk d + 1
  | .map entries => uptoBulkEntries entries + 1
  | .held _ => 1
def uptoBulkAll {H : Type} : List (DataW H) → Nat
  | [] => 0
  | d :: r => uptoBulk d + uptoBulkAll r
def uptoBulkEntries {H : Type} : List (Lit × DataW H) → Nat
  | [] => 0
  | x :: r => uptoBulkEntry x + uptoBulkEntries r
def uptoBulkEntry {H : Type} : Lit × DataW H → Nat
  | (.string bytes, d) => bytes.length + uptoBulk d + 1
  | (_, d) => uptoBulk d + 1
 end
def uptoSmall : (H : Type) → List (DataW H) → Bool := fun _ ds => decide (uptoBulkAll ds ≤ 1048576)
def OpenSpec.upto (s : _root_.Go.ChangeSpec) : _root_.Go.OpenSpec := { _root_.Go.OpenSpec.ofChange s with cond := some uptoSmall }

/-- 'darkroomlaw12.ChunkSplits', WHERE WHAT IT READS IS OF BULK AT MOST 1048576: true; the input reads as it did. -/
def chunkSplitsUptoRow : OpenClaim := { program := "ytfaemhmefijaoaadoor", sum := "79a8f1839157dbade50fe652268da30f139536bf07bd4e15d425cd49f6cb9595", func := "darkroom/darkroomlaw12.ChunkSplits", spec := "chunkSplits", inPlace := ["internal/bytealg.IndexByteString", "internal/bytealg.IndexString"], unfollowed := true, recurses := true, named := ["unicode/utf8.first", "unicode/utf8.acceptRanges", "internal/bytealg.MaxLen"], apart := false, laid := [("unicode/utf8.acceptRanges", laid_unicode_utf8_acceptRanges), ("unicode/utf8.first", laid_unicode_utf8_first)], narrowed := true }
def ChunkSplitsUptoSaid : Prop := chunkSplitsUptoRow.holds Tryd.pinned (OpenSpec.upto chunkSplitsSpec)

/-- 'darkroomlaw12.ChunkJoins', WHERE WHAT IT READS IS OF BULK AT MOST 1048576: true; the input reads as it did. -/
def chunkJoinsUptoRow : OpenClaim := { program := "ytfaemhmefijaoaadoor", sum := "79a8f1839157dbade50fe652268da30f139536bf07bd4e15d425cd49f6cb9595", func := "darkroom/darkroomlaw12.ChunkJoins", spec := "chunkJoins", inPlace := ["internal/bytealg.IndexByteString", "internal/bytealg.IndexString"], unfollowed := true, recurses := true, named := ["unicode/utf8.first", "unicode/utf8.acceptRanges", "internal/bytealg.MaxLen"], apart := false, laid := [("unicode/utf8.acceptRanges", laid_unicode_utf8_acceptRanges), ("unicode/utf8.first", laid_unicode_utf8_first)], narrowed := true }
def ChunkJoinsUptoSaid : Prop := chunkJoinsUptoRow.holds Tryd.pinned (OpenSpec.upto chunkJoinsSpec)

/-- 'darkroomlaw12.ChunkTold', WHERE WHAT IT READS IS OF BULK AT MOST 1048576: true; the input reads as it did. -/
def chunkToldUptoRow : OpenClaim := { program := "ytfaemhmefijaoaadoor", sum := "79a8f1839157dbade50fe652268da30f139536bf07bd4e15d425cd49f6cb9595", func := "darkroom/darkroomlaw12.ChunkTold", spec := "chunkTold", inPlace := ["internal/bytealg.IndexByteString", "internal/bytealg.IndexString"], unfollowed := true, recurses := true, named := ["unicode/utf8.first", "unicode/utf8.acceptRanges", "internal/bytealg.MaxLen"], apart := false, laid := [("unicode/utf8.acceptRanges", laid_unicode_utf8_acceptRanges), ("unicode/utf8.first", laid_unicode_utf8_first)], narrowed := true }
def ChunkToldUptoSaid : Prop := chunkToldUptoRow.holds Tryd.pinned (OpenSpec.upto chunkToldSpec)

/-- 'darkroomlaw12.ChunkFilters', WHERE WHAT IT READS IS OF BULK AT MOST 1048576: true; the input reads as it did. -/
def chunkFiltersUptoRow : OpenClaim := { program := "ytfaemhmefijaoaadoor", sum := "79a8f1839157dbade50fe652268da30f139536bf07bd4e15d425cd49f6cb9595", func := "darkroom/darkroomlaw12.ChunkFilters", spec := "chunkFilters", inPlace := ["internal/bytealg.IndexByteString", "internal/bytealg.IndexString"], unfollowed := true, recurses := true, named := ["unicode/utf8.first", "unicode/utf8.acceptRanges", "internal/bytealg.MaxLen"], apart := false, laid := [("unicode/utf8.acceptRanges", laid_unicode_utf8_acceptRanges), ("unicode/utf8.first", laid_unicode_utf8_first)], narrowed := true }
def ChunkFiltersUptoSaid : Prop := chunkFiltersUptoRow.holds Tryd.pinned (OpenSpec.upto chunkFiltersSpec)

/-- 'darkroomlaw12.ChunkRows', WHERE WHAT IT READS IS OF BULK AT MOST 1048576: true; the input reads as it did. -/
def chunkRowsUptoRow : OpenClaim := { program := "ytfaemhmefijaoaadoor", sum := "79a8f1839157dbade50fe652268da30f139536bf07bd4e15d425cd49f6cb9595", func := "darkroom/darkroomlaw12.ChunkRows", spec := "chunkRows", inPlace := ["internal/bytealg.IndexByteString", "internal/bytealg.IndexString"], unfollowed := true, recurses := true, named := ["unicode/utf8.first", "unicode/utf8.acceptRanges", "internal/bytealg.MaxLen"], apart := false, laid := [("unicode/utf8.acceptRanges", laid_unicode_utf8_acceptRanges), ("unicode/utf8.first", laid_unicode_utf8_first)], narrowed := true }
def ChunkRowsUptoSaid : Prop := chunkRowsUptoRow.holds Tryd.pinned (OpenSpec.upto chunkRowsSpec)

/-- 'darkroomlaw12.ChunkPasses', WHERE WHAT IT READS IS OF BULK AT MOST 1048576: true; the input reads as it did. -/
def chunkPassesUptoRow : OpenClaim := { program := "ytfaemhmefijaoaadoor", sum := "79a8f1839157dbade50fe652268da30f139536bf07bd4e15d425cd49f6cb9595", func := "darkroom/darkroomlaw12.ChunkPasses", spec := "chunkPasses", inPlace := ["internal/bytealg.IndexByteString", "internal/bytealg.IndexString"], unfollowed := true, recurses := true, named := ["unicode/utf8.first", "unicode/utf8.acceptRanges", "internal/bytealg.MaxLen"], apart := false, laid := [("unicode/utf8.acceptRanges", laid_unicode_utf8_acceptRanges), ("unicode/utf8.first", laid_unicode_utf8_first)], narrowed := true }
def ChunkPassesUptoSaid : Prop := chunkPassesUptoRow.holds Tryd.pinned (OpenSpec.upto chunkPassesSpec)

/-- 'darkroomlaw12.ChunkOwn', WHERE WHAT IT READS IS OF BULK AT MOST 1048576: true; the input reads as it did. -/
def chunkOwnUptoRow : OpenClaim := { program := "ytfaemhmefijaoaadoor", sum := "79a8f1839157dbade50fe652268da30f139536bf07bd4e15d425cd49f6cb9595", func := "darkroom/darkroomlaw12.ChunkOwn", spec := "chunkOwn", inPlace := ["internal/bytealg.IndexByteString", "internal/bytealg.IndexString"], unfollowed := true, recurses := true, named := ["unicode/utf8.first", "unicode/utf8.acceptRanges", "internal/bytealg.MaxLen"], apart := false, laid := [("unicode/utf8.acceptRanges", laid_unicode_utf8_acceptRanges), ("unicode/utf8.first", laid_unicode_utf8_first)], narrowed := true }
def ChunkOwnUptoSaid : Prop := chunkOwnUptoRow.holds Tryd.pinned (OpenSpec.upto chunkOwnSpec)

end Rows
end Go.Proofs.YtfaemhmefijaoaaDoor
