/-
  No cell of these rows narrows 'for every input' (looked for: loops, veiled, ifaces, maps, wideKeys, modest, calm, conditions, laid).
  DERIVED. THE GIVEN ROWS OF THIS SEAT. 11 by the template 'for every input the law returns true; each argument reads behind the call as it read before'; 0 by the template 'total and deterministic' (their statements: YthipmbmjodhiiaaGreatTotals.lean).
  GIVEN WITH THE SEED: the statements are not yours to turn. If you find one false, say at which input.
  Laid BY PROGRAM, IN A SANDBOX (cutbox-rows.mjs): the forced cells as the released guide's own fill.sh prints them over the translation 04c9cf292f634627… (all of the seat's roots in one cut). By AI agents, Wed Nov 11 2026. No macro, syntax, notation, axiom, sorry.
-/
import Derived.Test.YthipmbmjodhiiaaGreatChecked
import GoSem.Claim
import GoSem.ClaimJoined
import GoSem.ClaimMapViews
import Derived.JoinedTies
import Derived.KernelRfl
namespace Go.Proofs.YthipmbmjodhiiaaGreat
/- THE CELL 'sum', in the pinned program and in every row, IS THE sha256 OF THE DUMP (.gsa) THAT YthipmbmjodhiiaaGreatProg.lean LOADS. Nothing in Lean hashes anything: it is a label: what it is worth is what the hold of that sum in a sandbox is worth. -/
noncomputable def Tryz.pinned : Pinned := { name := "ythipmbmjodhiiaagreat", sum := "04c9cf292f634627d898274042168ad20f2f70bbd3fca4904d72c1c61e332528", checked := Tryz.checked }
namespace Rows
def none {H : Type} : Left H := { results := [], args := [] }

/-- 'robuststatslaw25.HalfspaceMoves': WHATEVER THE INPUT: true; the input reads as it did. -/
def halfspaceMovesSpec : ChangeSpec := { name := "halfspaceMoves", fn := fun _ => fun
  | [d] => { results := [.lit (.bool true)], args := [d] }
  | _ => none }
def halfspaceMovesRow : OpenClaim := { program := "ythipmbmjodhiiaagreat", sum := "04c9cf292f634627d898274042168ad20f2f70bbd3fca4904d72c1c61e332528", func := "robuststats/robuststatslaw25.HalfspaceMoves", spec := "halfspaceMoves", unfollowed := true, recurses := true, named := ["math/bits.overflowError"], apart := false }
def HalfspaceMovesSaid : Prop := halfspaceMovesRow.holds Tryz.pinned (OpenSpec.ofChange halfspaceMovesSpec)

/-- ITS FALSE NEIGHBOUR: 'it returns false'. Refute it at one input. -/
def halfspaceMovesWrong : ChangeSpec := { name := "halfspaceMoves", fn := fun _ => fun
  | [d] => { results := [.lit (.bool false)], args := [d] }
  | _ => none }
def HalfspaceMovesWrongFalsely : Prop := halfspaceMovesRow.holds Tryz.pinned (OpenSpec.ofChange halfspaceMovesWrong)

/-- 'robuststatslaw25.HalfspaceAll': WHATEVER THE INPUT: true; the input reads as it did. -/
def halfspaceAllSpec : ChangeSpec := { name := "halfspaceAll", fn := fun _ => fun
  | [d] => { results := [.lit (.bool true)], args := [d] }
  | _ => none }
def halfspaceAllRow : OpenClaim := { program := "ythipmbmjodhiiaagreat", sum := "04c9cf292f634627d898274042168ad20f2f70bbd3fca4904d72c1c61e332528", func := "robuststats/robuststatslaw25.HalfspaceAll", spec := "halfspaceAll", unfollowed := true, recurses := true, named := ["math/bits.overflowError"], apart := false }
def HalfspaceAllSaid : Prop := halfspaceAllRow.holds Tryz.pinned (OpenSpec.ofChange halfspaceAllSpec)

/-- ITS FALSE NEIGHBOUR: 'it returns false'. Refute it at one input. -/
def halfspaceAllWrong : ChangeSpec := { name := "halfspaceAll", fn := fun _ => fun
  | [d] => { results := [.lit (.bool false)], args := [d] }
  | _ => none }
def HalfspaceAllWrongFalsely : Prop := halfspaceAllRow.holds Tryz.pinned (OpenSpec.ofChange halfspaceAllWrong)

/-- 'robuststatslaw25.HalfspaceWitnesses': WHATEVER THE INPUT: true; the input reads as it did. -/
def halfspaceWitnessesSpec : ChangeSpec := { name := "halfspaceWitnesses", fn := fun _ => fun
  | [d] => { results := [.lit (.bool true)], args := [d] }
  | _ => none }
def halfspaceWitnessesRow : OpenClaim := { program := "ythipmbmjodhiiaagreat", sum := "04c9cf292f634627d898274042168ad20f2f70bbd3fca4904d72c1c61e332528", func := "robuststats/robuststatslaw25.HalfspaceWitnesses", spec := "halfspaceWitnesses", unfollowed := true, recurses := true, named := ["math/bits.overflowError"], apart := false }
def HalfspaceWitnessesSaid : Prop := halfspaceWitnessesRow.holds Tryz.pinned (OpenSpec.ofChange halfspaceWitnessesSpec)

/-- ITS FALSE NEIGHBOUR: 'it returns false'. Refute it at one input. -/
def halfspaceWitnessesWrong : ChangeSpec := { name := "halfspaceWitnesses", fn := fun _ => fun
  | [d] => { results := [.lit (.bool false)], args := [d] }
  | _ => none }
def HalfspaceWitnessesWrongFalsely : Prop := halfspaceWitnessesRow.holds Tryz.pinned (OpenSpec.ofChange halfspaceWitnessesWrong)

/-- 'robuststatslaw25.HalfspaceOutside': WHATEVER THE INPUT: true; the input reads as it did. -/
def halfspaceOutsideSpec : ChangeSpec := { name := "halfspaceOutside", fn := fun _ => fun
  | [d] => { results := [.lit (.bool true)], args := [d] }
  | _ => none }
def halfspaceOutsideRow : OpenClaim := { program := "ythipmbmjodhiiaagreat", sum := "04c9cf292f634627d898274042168ad20f2f70bbd3fca4904d72c1c61e332528", func := "robuststats/robuststatslaw25.HalfspaceOutside", spec := "halfspaceOutside", unfollowed := true, recurses := true, named := ["math/bits.overflowError"], apart := false }
def HalfspaceOutsideSaid : Prop := halfspaceOutsideRow.holds Tryz.pinned (OpenSpec.ofChange halfspaceOutsideSpec)

/-- ITS FALSE NEIGHBOUR: 'it returns false'. Refute it at one input. -/
def halfspaceOutsideWrong : ChangeSpec := { name := "halfspaceOutside", fn := fun _ => fun
  | [d] => { results := [.lit (.bool false)], args := [d] }
  | _ => none }
def HalfspaceOutsideWrongFalsely : Prop := halfspaceOutsideRow.holds Tryz.pinned (OpenSpec.ofChange halfspaceOutsideWrong)

/-- 'robuststatslaw25.HalfspaceCounts': WHATEVER THE INPUT: true; the input reads as it did. -/
def halfspaceCountsSpec : ChangeSpec := { name := "halfspaceCounts", fn := fun _ => fun
  | [d1, d2, d3, d4] => { results := [.lit (.bool true)], args := [d1, d2, d3, d4] }
  | _ => none }
def halfspaceCountsRow : OpenClaim := { program := "ythipmbmjodhiiaagreat", sum := "04c9cf292f634627d898274042168ad20f2f70bbd3fca4904d72c1c61e332528", func := "robuststats/robuststatslaw25.HalfspaceCounts", spec := "halfspaceCounts", unfollowed := true, recurses := true, named := ["math/bits.overflowError"], apart := false }
def HalfspaceCountsSaid : Prop := halfspaceCountsRow.holds Tryz.pinned (OpenSpec.ofChange halfspaceCountsSpec)

/-- ITS FALSE NEIGHBOUR: 'it returns false'. Refute it at one input. -/
def halfspaceCountsWrong : ChangeSpec := { name := "halfspaceCounts", fn := fun _ => fun
  | [d1, d2, d3, d4] => { results := [.lit (.bool false)], args := [d1, d2, d3, d4] }
  | _ => none }
def HalfspaceCountsWrongFalsely : Prop := halfspaceCountsRow.holds Tryz.pinned (OpenSpec.ofChange halfspaceCountsWrong)

/-- 'robuststatslaw25.HalfspaceLeast': WHATEVER THE INPUT: true; the input reads as it did. -/
def halfspaceLeastSpec : ChangeSpec := { name := "halfspaceLeast", fn := fun _ => fun
  | [d] => { results := [.lit (.bool true)], args := [d] }
  | _ => none }
def halfspaceLeastRow : OpenClaim := { program := "ythipmbmjodhiiaagreat", sum := "04c9cf292f634627d898274042168ad20f2f70bbd3fca4904d72c1c61e332528", func := "robuststats/robuststatslaw25.HalfspaceLeast", spec := "halfspaceLeast", unfollowed := true, recurses := true, named := ["math/bits.overflowError"], apart := false }
def HalfspaceLeastSaid : Prop := halfspaceLeastRow.holds Tryz.pinned (OpenSpec.ofChange halfspaceLeastSpec)

/-- ITS FALSE NEIGHBOUR: 'it returns false'. Refute it at one input. -/
def halfspaceLeastWrong : ChangeSpec := { name := "halfspaceLeast", fn := fun _ => fun
  | [d] => { results := [.lit (.bool false)], args := [d] }
  | _ => none }
def HalfspaceLeastWrongFalsely : Prop := halfspaceLeastRow.holds Tryz.pinned (OpenSpec.ofChange halfspaceLeastWrong)

/-- 'robuststatslaw26.SimplicialDepths': WHATEVER THE INPUT: true; the input reads as it did. -/
def simplicialDepthsSpec : ChangeSpec := { name := "simplicialDepths", fn := fun _ => fun
  | [d1, d2, d3] => { results := [.lit (.bool true)], args := [d1, d2, d3] }
  | _ => none }
def simplicialDepthsRow : OpenClaim := { program := "ythipmbmjodhiiaagreat", sum := "04c9cf292f634627d898274042168ad20f2f70bbd3fca4904d72c1c61e332528", func := "robuststats/robuststatslaw26.SimplicialDepths", spec := "simplicialDepths", unfollowed := true, recurses := true, named := ["math/bits.overflowError"], apart := false }
def SimplicialDepthsSaid : Prop := simplicialDepthsRow.holds Tryz.pinned (OpenSpec.ofChange simplicialDepthsSpec)

/-- ITS FALSE NEIGHBOUR: 'it returns false'. Refute it at one input. -/
def simplicialDepthsWrong : ChangeSpec := { name := "simplicialDepths", fn := fun _ => fun
  | [d1, d2, d3] => { results := [.lit (.bool false)], args := [d1, d2, d3] }
  | _ => none }
def SimplicialDepthsWrongFalsely : Prop := simplicialDepthsRow.holds Tryz.pinned (OpenSpec.ofChange simplicialDepthsWrong)

/-- 'robuststatslaw26.SimplicialOutside': WHATEVER THE INPUT: true; the input reads as it did. -/
def simplicialOutsideSpec : ChangeSpec := { name := "simplicialOutside", fn := fun _ => fun
  | [d] => { results := [.lit (.bool true)], args := [d] }
  | _ => none }
def simplicialOutsideRow : OpenClaim := { program := "ythipmbmjodhiiaagreat", sum := "04c9cf292f634627d898274042168ad20f2f70bbd3fca4904d72c1c61e332528", func := "robuststats/robuststatslaw26.SimplicialOutside", spec := "simplicialOutside", unfollowed := true, recurses := true, named := ["math/bits.overflowError"], apart := false }
def SimplicialOutsideSaid : Prop := simplicialOutsideRow.holds Tryz.pinned (OpenSpec.ofChange simplicialOutsideSpec)

/-- ITS FALSE NEIGHBOUR: 'it returns false'. Refute it at one input. -/
def simplicialOutsideWrong : ChangeSpec := { name := "simplicialOutside", fn := fun _ => fun
  | [d] => { results := [.lit (.bool false)], args := [d] }
  | _ => none }
def SimplicialOutsideWrongFalsely : Prop := simplicialOutsideRow.holds Tryz.pinned (OpenSpec.ofChange simplicialOutsideWrong)

/-- 'robuststatslaw26.SimplicialContains': WHATEVER THE INPUT: true; the input reads as it did. -/
def simplicialContainsSpec : ChangeSpec := { name := "simplicialContains", fn := fun _ => fun
  | [d1, d2, d3] => { results := [.lit (.bool true)], args := [d1, d2, d3] }
  | _ => none }
def simplicialContainsRow : OpenClaim := { program := "ythipmbmjodhiiaagreat", sum := "04c9cf292f634627d898274042168ad20f2f70bbd3fca4904d72c1c61e332528", func := "robuststats/robuststatslaw26.SimplicialContains", spec := "simplicialContains", unfollowed := true, recurses := true, named := ["math/bits.overflowError"], apart := false }
def SimplicialContainsSaid : Prop := simplicialContainsRow.holds Tryz.pinned (OpenSpec.ofChange simplicialContainsSpec)

/-- ITS FALSE NEIGHBOUR: 'it returns false'. Refute it at one input. -/
def simplicialContainsWrong : ChangeSpec := { name := "simplicialContains", fn := fun _ => fun
  | [d1, d2, d3] => { results := [.lit (.bool false)], args := [d1, d2, d3] }
  | _ => none }
def SimplicialContainsWrongFalsely : Prop := simplicialContainsRow.holds Tryz.pinned (OpenSpec.ofChange simplicialContainsWrong)

/-- 'robuststatslaw26.SimplicialMedians': WHATEVER THE INPUT: true; the input reads as it did. -/
def simplicialMediansSpec : ChangeSpec := { name := "simplicialMedians", fn := fun _ => fun
  | [d] => { results := [.lit (.bool true)], args := [d] }
  | _ => none }
def simplicialMediansRow : OpenClaim := { program := "ythipmbmjodhiiaagreat", sum := "04c9cf292f634627d898274042168ad20f2f70bbd3fca4904d72c1c61e332528", func := "robuststats/robuststatslaw26.SimplicialMedians", spec := "simplicialMedians", unfollowed := true, recurses := true, named := ["math/bits.overflowError"], apart := false }
def SimplicialMediansSaid : Prop := simplicialMediansRow.holds Tryz.pinned (OpenSpec.ofChange simplicialMediansSpec)

/-- ITS FALSE NEIGHBOUR: 'it returns false'. Refute it at one input. -/
def simplicialMediansWrong : ChangeSpec := { name := "simplicialMedians", fn := fun _ => fun
  | [d] => { results := [.lit (.bool false)], args := [d] }
  | _ => none }
def SimplicialMediansWrongFalsely : Prop := simplicialMediansRow.holds Tryz.pinned (OpenSpec.ofChange simplicialMediansWrong)

/-- 'robuststatslaw26.SimplicialLimits': WHATEVER THE INPUT: true; the input reads as it did. -/
def simplicialLimitsSpec : ChangeSpec := { name := "simplicialLimits", fn := fun _ => fun
  | [d] => { results := [.lit (.bool true)], args := [d] }
  | _ => none }
def simplicialLimitsRow : OpenClaim := { program := "ythipmbmjodhiiaagreat", sum := "04c9cf292f634627d898274042168ad20f2f70bbd3fca4904d72c1c61e332528", func := "robuststats/robuststatslaw26.SimplicialLimits", spec := "simplicialLimits", unfollowed := true, recurses := true, named := ["math/bits.overflowError"], apart := false }
def SimplicialLimitsSaid : Prop := simplicialLimitsRow.holds Tryz.pinned (OpenSpec.ofChange simplicialLimitsSpec)

/-- ITS FALSE NEIGHBOUR: 'it returns false'. Refute it at one input. -/
def simplicialLimitsWrong : ChangeSpec := { name := "simplicialLimits", fn := fun _ => fun
  | [d] => { results := [.lit (.bool false)], args := [d] }
  | _ => none }
def SimplicialLimitsWrongFalsely : Prop := simplicialLimitsRow.holds Tryz.pinned (OpenSpec.ofChange simplicialLimitsWrong)

/- THE SECOND FORM. 'bulk': how many values and letters a reading holds, each counted each time it is reached (what is shared counts as often as it is met; a slice's spare places count too). A statement '..UptoSaid' is the law's where the arguments, and the package variables that the reading takes, are together of bulk at most 1048576: NARROWER than '..Said'. Prove '..Said' where nothing that the law and all that it calls make is longer than what came in: it says more and counts as full. Else prove '..UptoSaid'. A law counts once. -/
mutual
def uptoBulk {H : Type} : DataW H → Nat
  | .lit (.string bytes) => bytes.length + 1
  | .lit _ => 1
  | .nil => 1
  | .ptr d => uptoBulk d + 1
  | .slice elems spare => uptoBulkAll elems + uptoBulkAll spare + 1
  | .agg parts => uptoBulkAll parts + 1
  | .iface _ d => uptoBulk d + 1
  | .map entries => uptoBulkEntries entries + 1
  | .held _ => 1
def uptoBulkAll {H : Type} : List (DataW H) → Nat
  | [] => 0
  | d :: r => uptoBulk d + uptoBulkAll r
def uptoBulkEntries {H : Type} : List (Lit × DataW H) → Nat
  | [] => 0
  | x :: r => uptoBulkEntry x + uptoBulkEntries r
def uptoBulkEntry {H : Type} : Lit × DataW H → Nat
  | (.string bytes, d) => bytes.length + uptoBulk d + 1
  | (_, d) => uptoBulk d + 1
 end
def uptoSmall : (H : Type) → List (DataW H) → Bool := fun _ ds => decide (uptoBulkAll ds ≤ 1048576)
def OpenSpec.upto (s : _root_.Go.ChangeSpec) : _root_.Go.OpenSpec := { _root_.Go.OpenSpec.ofChange s with cond := some uptoSmall }

/-- 'robuststatslaw25.HalfspaceMoves', WHERE WHAT IT READS IS OF BULK AT MOST 1048576: true; the input reads as it did. -/
def halfspaceMovesUptoRow : OpenClaim := { program := "ythipmbmjodhiiaagreat", sum := "04c9cf292f634627d898274042168ad20f2f70bbd3fca4904d72c1c61e332528", func := "robuststats/robuststatslaw25.HalfspaceMoves", spec := "halfspaceMoves", unfollowed := true, recurses := true, named := ["math/bits.overflowError"], apart := false, narrowed := true }
def HalfspaceMovesUptoSaid : Prop := halfspaceMovesUptoRow.holds Tryz.pinned (OpenSpec.upto halfspaceMovesSpec)

/-- 'robuststatslaw25.HalfspaceAll', WHERE WHAT IT READS IS OF BULK AT MOST 1048576: true; the input reads as it did. -/
def halfspaceAllUptoRow : OpenClaim := { program := "ythipmbmjodhiiaagreat", sum := "04c9cf292f634627d898274042168ad20f2f70bbd3fca4904d72c1c61e332528", func := "robuststats/robuststatslaw25.HalfspaceAll", spec := "halfspaceAll", unfollowed := true, recurses := true, named := ["math/bits.overflowError"], apart := false, narrowed := true }
def HalfspaceAllUptoSaid : Prop := halfspaceAllUptoRow.holds Tryz.pinned (OpenSpec.upto halfspaceAllSpec)

/-- 'robuststatslaw25.HalfspaceWitnesses', WHERE WHAT IT READS IS OF BULK AT MOST 1048576: true; the input reads as it did. -/
def halfspaceWitnessesUptoRow : OpenClaim := { program := "ythipmbmjodhiiaagreat", sum := "04c9cf292f634627d898274042168ad20f2f70bbd3fca4904d72c1c61e332528", func := "robuststats/robuststatslaw25.HalfspaceWitnesses", spec := "halfspaceWitnesses", unfollowed := true, recurses := true, named := ["math/bits.overflowError"], apart := false, narrowed := true }
def HalfspaceWitnessesUptoSaid : Prop := halfspaceWitnessesUptoRow.holds Tryz.pinned (OpenSpec.upto halfspaceWitnessesSpec)

/-- 'robuststatslaw25.HalfspaceOutside', WHERE WHAT IT READS IS OF BULK AT MOST 1048576: true; the input reads as it did. -/
def halfspaceOutsideUptoRow : OpenClaim := { program := "ythipmbmjodhiiaagreat", sum := "04c9cf292f634627d898274042168ad20f2f70bbd3fca4904d72c1c61e332528", func := "robuststats/robuststatslaw25.HalfspaceOutside", spec := "halfspaceOutside", unfollowed := true, recurses := true, named := ["math/bits.overflowError"], apart := false, narrowed := true }
def HalfspaceOutsideUptoSaid : Prop := halfspaceOutsideUptoRow.holds Tryz.pinned (OpenSpec.upto halfspaceOutsideSpec)

/-- 'robuststatslaw25.HalfspaceCounts', WHERE WHAT IT READS IS OF BULK AT MOST 1048576: true; the input reads as it did. -/
def halfspaceCountsUptoRow : OpenClaim := { program := "ythipmbmjodhiiaagreat", sum := "04c9cf292f634627d898274042168ad20f2f70bbd3fca4904d72c1c61e332528", func := "robuststats/robuststatslaw25.HalfspaceCounts", spec := "halfspaceCounts", unfollowed := true, recurses := true, named := ["math/bits.overflowError"], apart := false, narrowed := true }
def HalfspaceCountsUptoSaid : Prop := halfspaceCountsUptoRow.holds Tryz.pinned (OpenSpec.upto halfspaceCountsSpec)

/-- 'robuststatslaw25.HalfspaceLeast', WHERE WHAT IT READS IS OF BULK AT MOST 1048576: true; the input reads as it did. -/
def halfspaceLeastUptoRow : OpenClaim := { program := "ythipmbmjodhiiaagreat", sum := "04c9cf292f634627d898274042168ad20f2f70bbd3fca4904d72c1c61e332528", func := "robuststats/robuststatslaw25.HalfspaceLeast", spec := "halfspaceLeast", unfollowed := true, recurses := true, named := ["math/bits.overflowError"], apart := false, narrowed := true }
def HalfspaceLeastUptoSaid : Prop := halfspaceLeastUptoRow.holds Tryz.pinned (OpenSpec.upto halfspaceLeastSpec)

/-- 'robuststatslaw26.SimplicialDepths', WHERE WHAT IT READS IS OF BULK AT MOST 1048576: true; the input reads as it did. -/
def simplicialDepthsUptoRow : OpenClaim := { program := "ythipmbmjodhiiaagreat", sum := "04c9cf292f634627d898274042168ad20f2f70bbd3fca4904d72c1c61e332528", func := "robuststats/robuststatslaw26.SimplicialDepths", spec := "simplicialDepths", unfollowed := true, recurses := true, named := ["math/bits.overflowError"], apart := false, narrowed := true }
def SimplicialDepthsUptoSaid : Prop := simplicialDepthsUptoRow.holds Tryz.pinned (OpenSpec.upto simplicialDepthsSpec)

/-- 'robuststatslaw26.SimplicialOutside', WHERE WHAT IT READS IS OF BULK AT MOST 1048576: true; the input reads as it did. -/
def simplicialOutsideUptoRow : OpenClaim := { program := "ythipmbmjodhiiaagreat", sum := "04c9cf292f634627d898274042168ad20f2f70bbd3fca4904d72c1c61e332528", func := "robuststats/robuststatslaw26.SimplicialOutside", spec := "simplicialOutside", unfollowed := true, recurses := true, named := ["math/bits.overflowError"], apart := false, narrowed := true }
def SimplicialOutsideUptoSaid : Prop := simplicialOutsideUptoRow.holds Tryz.pinned (OpenSpec.upto simplicialOutsideSpec)

/-- 'robuststatslaw26.SimplicialContains', WHERE WHAT IT READS IS OF BULK AT MOST 1048576: true; the input reads as it did. -/
def simplicialContainsUptoRow : OpenClaim := { program := "ythipmbmjodhiiaagreat", sum := "04c9cf292f634627d898274042168ad20f2f70bbd3fca4904d72c1c61e332528", func := "robuststats/robuststatslaw26.SimplicialContains", spec := "simplicialContains", unfollowed := true, recurses := true, named := ["math/bits.overflowError"], apart := false, narrowed := true }
def SimplicialContainsUptoSaid : Prop := simplicialContainsUptoRow.holds Tryz.pinned (OpenSpec.upto simplicialContainsSpec)

/-- 'robuststatslaw26.SimplicialMedians', WHERE WHAT IT READS IS OF BULK AT MOST 1048576: true; the input reads as it did. -/
def simplicialMediansUptoRow : OpenClaim := { program := "ythipmbmjodhiiaagreat", sum := "04c9cf292f634627d898274042168ad20f2f70bbd3fca4904d72c1c61e332528", func := "robuststats/robuststatslaw26.SimplicialMedians", spec := "simplicialMedians", unfollowed := true, recurses := true, named := ["math/bits.overflowError"], apart := false, narrowed := true }
def SimplicialMediansUptoSaid : Prop := simplicialMediansUptoRow.holds Tryz.pinned (OpenSpec.upto simplicialMediansSpec)

/-- 'robuststatslaw26.SimplicialLimits', WHERE WHAT IT READS IS OF BULK AT MOST 1048576: true; the input reads as it did. -/
def simplicialLimitsUptoRow : OpenClaim := { program := "ythipmbmjodhiiaagreat", sum := "04c9cf292f634627d898274042168ad20f2f70bbd3fca4904d72c1c61e332528", func := "robuststats/robuststatslaw26.SimplicialLimits", spec := "simplicialLimits", unfollowed := true, recurses := true, named := ["math/bits.overflowError"], apart := false, narrowed := true }
def SimplicialLimitsUptoSaid : Prop := simplicialLimitsUptoRow.holds Tryz.pinned (OpenSpec.upto simplicialLimitsSpec)

end Rows
end Go.Proofs.YthipmbmjodhiiaaGreat
