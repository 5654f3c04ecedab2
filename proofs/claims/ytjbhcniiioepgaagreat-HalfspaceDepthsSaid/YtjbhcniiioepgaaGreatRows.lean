/-
  No cell of these rows narrows 'for every input' (looked for: loops, veiled, ifaces, maps, wideKeys, modest, calm, conditions, laid).
  DERIVED. THE GIVEN ROWS OF THIS SEAT. 11 by the template 'for every input the law returns true; each argument reads behind the call as it read before'; 0 by the template 'total and deterministic' (their statements: YtjbhcniiioepgaaGreatTotals.lean).
  GIVEN WITH THE SEED: the statements are not yours to turn. If you find one false, say at which input.
  Laid BY PROGRAM, IN A SANDBOX (cutbox-rows.mjs): the forced cells as the released guide's own fill.sh prints them over the translation 56b968bc65e117cf… (all of the seat's roots in one cut). By AI agents, Wed Nov 11 2026. No macro, syntax, notation, axiom, sorry.
-/
import Derived.Test.YtjbhcniiioepgaaGreatChecked
import GoSem.Claim
import GoSem.ClaimJoined
import GoSem.ClaimMapViews
import Derived.JoinedTies
import Derived.KernelRfl
namespace Go.Proofs.YtjbhcniiioepgaaGreat
/- THE CELL 'sum', in the pinned program and in every row, IS THE sha256 OF THE DUMP (.gsa) THAT YtjbhcniiioepgaaGreatProg.lean LOADS. Nothing in Lean hashes anything: it is a label: what it is worth is what the hold of that sum in a sandbox is worth. -/
noncomputable def Tryz.pinned : Pinned := { name := "ytjbhcniiioepgaagreat", sum := "56b968bc65e117cfb37df8bb9a6adee0bc0d5a46e54ad5cfa5adaedc53bd8657", checked := Tryz.checked }
namespace Rows
def none {H : Type} : Left H := { results := [], args := [] }

/-- 'robuststatslaw06.MatrixReducedFormIsUnique': WHATEVER THE INPUT: true; the input reads as it did. -/
def matrixReducedFormIsUniqueSpec : ChangeSpec := { name := "matrixReducedFormIsUnique", fn := fun _ => fun
  | [d1, d2, d3, d4, d5, d6] => { results := [.lit (.bool true)], args := [d1, d2, d3, d4, d5, d6] }
  | _ => none }
def matrixReducedFormIsUniqueRow : OpenClaim := { program := "ytjbhcniiioepgaagreat", sum := "56b968bc65e117cfb37df8bb9a6adee0bc0d5a46e54ad5cfa5adaedc53bd8657", func := "robuststats/robuststatslaw06.MatrixReducedFormIsUnique", spec := "matrixReducedFormIsUnique", unfollowed := true, recurses := true, named := ["math/bits.overflowError"], apart := false }
def MatrixReducedFormIsUniqueSaid : Prop := matrixReducedFormIsUniqueRow.holds Tryz.pinned (OpenSpec.ofChange matrixReducedFormIsUniqueSpec)

/-- ITS FALSE NEIGHBOUR: 'it returns false'. Refute it at one input. -/
def matrixReducedFormIsUniqueWrong : ChangeSpec := { name := "matrixReducedFormIsUnique", fn := fun _ => fun
  | [d1, d2, d3, d4, d5, d6] => { results := [.lit (.bool false)], args := [d1, d2, d3, d4, d5, d6] }
  | _ => none }
def MatrixReducedFormIsUniqueWrongFalsely : Prop := matrixReducedFormIsUniqueRow.holds Tryz.pinned (OpenSpec.ofChange matrixReducedFormIsUniqueWrong)

/-- 'robuststatslaw42.CertifyDepths': WHATEVER THE INPUT: true; the input reads as it did. -/
def certifyDepthsSpec : ChangeSpec := { name := "certifyDepths", fn := fun _ => fun
  | [d1, d2] => { results := [.lit (.bool true)], args := [d1, d2] }
  | _ => none }
def certifyDepthsRow : OpenClaim := { program := "ytjbhcniiioepgaagreat", sum := "56b968bc65e117cfb37df8bb9a6adee0bc0d5a46e54ad5cfa5adaedc53bd8657", func := "robuststats/robuststatslaw42.CertifyDepths", spec := "certifyDepths", named := ["math/bits.overflowError"], apart := false }
def CertifyDepthsSaid : Prop := certifyDepthsRow.holds Tryz.pinned (OpenSpec.ofChange certifyDepthsSpec)

/-- ITS FALSE NEIGHBOUR: 'it returns false'. Refute it at one input. -/
def certifyDepthsWrong : ChangeSpec := { name := "certifyDepths", fn := fun _ => fun
  | [d1, d2] => { results := [.lit (.bool false)], args := [d1, d2] }
  | _ => none }
def CertifyDepthsWrongFalsely : Prop := certifyDepthsRow.holds Tryz.pinned (OpenSpec.ofChange certifyDepthsWrong)

/-- 'robuststatslaw06.MatrixReduces': WHATEVER THE INPUT: true; the input reads as it did. -/
def matrixReducesSpec : ChangeSpec := { name := "matrixReduces", fn := fun _ => fun
  | [d] => { results := [.lit (.bool true)], args := [d] }
  | _ => none }
def matrixReducesRow : OpenClaim := { program := "ytjbhcniiioepgaagreat", sum := "56b968bc65e117cfb37df8bb9a6adee0bc0d5a46e54ad5cfa5adaedc53bd8657", func := "robuststats/robuststatslaw06.MatrixReduces", spec := "matrixReduces", unfollowed := true, recurses := true, named := ["math/bits.overflowError"], apart := false }
def MatrixReducesSaid : Prop := matrixReducesRow.holds Tryz.pinned (OpenSpec.ofChange matrixReducesSpec)

/-- ITS FALSE NEIGHBOUR: 'it returns false'. Refute it at one input. -/
def matrixReducesWrong : ChangeSpec := { name := "matrixReduces", fn := fun _ => fun
  | [d] => { results := [.lit (.bool false)], args := [d] }
  | _ => none }
def MatrixReducesWrongFalsely : Prop := matrixReducesRow.holds Tryz.pinned (OpenSpec.ofChange matrixReducesWrong)

/-- 'robuststatslaw06.MatrixMultiplies': WHATEVER THE INPUT: true; the input reads as it did. -/
def matrixMultipliesSpec : ChangeSpec := { name := "matrixMultiplies", fn := fun _ => fun
  | [d1, d2, d3] => { results := [.lit (.bool true)], args := [d1, d2, d3] }
  | _ => none }
def matrixMultipliesRow : OpenClaim := { program := "ytjbhcniiioepgaagreat", sum := "56b968bc65e117cfb37df8bb9a6adee0bc0d5a46e54ad5cfa5adaedc53bd8657", func := "robuststats/robuststatslaw06.MatrixMultiplies", spec := "matrixMultiplies", unfollowed := true, recurses := true, named := ["math/bits.overflowError"], apart := false }
def MatrixMultipliesSaid : Prop := matrixMultipliesRow.holds Tryz.pinned (OpenSpec.ofChange matrixMultipliesSpec)

/-- ITS FALSE NEIGHBOUR: 'it returns false'. Refute it at one input. -/
def matrixMultipliesWrong : ChangeSpec := { name := "matrixMultiplies", fn := fun _ => fun
  | [d1, d2, d3] => { results := [.lit (.bool false)], args := [d1, d2, d3] }
  | _ => none }
def MatrixMultipliesWrongFalsely : Prop := matrixMultipliesRow.holds Tryz.pinned (OpenSpec.ofChange matrixMultipliesWrong)

/-- 'robuststatslaw06.MatrixSolves': WHATEVER THE INPUT: true; the input reads as it did. -/
def matrixSolvesSpec : ChangeSpec := { name := "matrixSolves", fn := fun _ => fun
  | [d1, d2] => { results := [.lit (.bool true)], args := [d1, d2] }
  | _ => none }
def matrixSolvesRow : OpenClaim := { program := "ytjbhcniiioepgaagreat", sum := "56b968bc65e117cfb37df8bb9a6adee0bc0d5a46e54ad5cfa5adaedc53bd8657", func := "robuststats/robuststatslaw06.MatrixSolves", spec := "matrixSolves", unfollowed := true, recurses := true, named := ["math/bits.overflowError"], apart := false }
def MatrixSolvesSaid : Prop := matrixSolvesRow.holds Tryz.pinned (OpenSpec.ofChange matrixSolvesSpec)

/-- ITS FALSE NEIGHBOUR: 'it returns false'. Refute it at one input. -/
def matrixSolvesWrong : ChangeSpec := { name := "matrixSolves", fn := fun _ => fun
  | [d1, d2] => { results := [.lit (.bool false)], args := [d1, d2] }
  | _ => none }
def MatrixSolvesWrongFalsely : Prop := matrixSolvesRow.holds Tryz.pinned (OpenSpec.ofChange matrixSolvesWrong)

/-- 'robuststatslaw06.MatrixProductHasTheDeterminant': WHATEVER THE INPUT: true; the input reads as it did. -/
def matrixProductHasTheDeterminantSpec : ChangeSpec := { name := "matrixProductHasTheDeterminant", fn := fun _ => fun
  | [d1, d2, d3] => { results := [.lit (.bool true)], args := [d1, d2, d3] }
  | _ => none }
def matrixProductHasTheDeterminantRow : OpenClaim := { program := "ytjbhcniiioepgaagreat", sum := "56b968bc65e117cfb37df8bb9a6adee0bc0d5a46e54ad5cfa5adaedc53bd8657", func := "robuststats/robuststatslaw06.MatrixProductHasTheDeterminant", spec := "matrixProductHasTheDeterminant", unfollowed := true, recurses := true, named := ["math/bits.overflowError"], apart := false }
def MatrixProductHasTheDeterminantSaid : Prop := matrixProductHasTheDeterminantRow.holds Tryz.pinned (OpenSpec.ofChange matrixProductHasTheDeterminantSpec)

/-- ITS FALSE NEIGHBOUR: 'it returns false'. Refute it at one input. -/
def matrixProductHasTheDeterminantWrong : ChangeSpec := { name := "matrixProductHasTheDeterminant", fn := fun _ => fun
  | [d1, d2, d3] => { results := [.lit (.bool false)], args := [d1, d2, d3] }
  | _ => none }
def MatrixProductHasTheDeterminantWrongFalsely : Prop := matrixProductHasTheDeterminantRow.holds Tryz.pinned (OpenSpec.ofChange matrixProductHasTheDeterminantWrong)

/-- 'robuststatslaw06.MatrixSolutionSolves': WHATEVER THE INPUT: true; the input reads as it did. -/
def matrixSolutionSolvesSpec : ChangeSpec := { name := "matrixSolutionSolves", fn := fun _ => fun
  | [d1, d2, d3, d4, d5] => { results := [.lit (.bool true)], args := [d1, d2, d3, d4, d5] }
  | _ => none }
def matrixSolutionSolvesRow : OpenClaim := { program := "ytjbhcniiioepgaagreat", sum := "56b968bc65e117cfb37df8bb9a6adee0bc0d5a46e54ad5cfa5adaedc53bd8657", func := "robuststats/robuststatslaw06.MatrixSolutionSolves", spec := "matrixSolutionSolves", unfollowed := true, recurses := true, named := ["math/bits.overflowError"], apart := false }
def MatrixSolutionSolvesSaid : Prop := matrixSolutionSolvesRow.holds Tryz.pinned (OpenSpec.ofChange matrixSolutionSolvesSpec)

/-- ITS FALSE NEIGHBOUR: 'it returns false'. Refute it at one input. -/
def matrixSolutionSolvesWrong : ChangeSpec := { name := "matrixSolutionSolves", fn := fun _ => fun
  | [d1, d2, d3, d4, d5] => { results := [.lit (.bool false)], args := [d1, d2, d3, d4, d5] }
  | _ => none }
def MatrixSolutionSolvesWrongFalsely : Prop := matrixSolutionSolvesRow.holds Tryz.pinned (OpenSpec.ofChange matrixSolutionSolvesWrong)

/-- 'robuststatslaw06.MatrixInverseIsTwoSided': WHATEVER THE INPUT: true; the input reads as it did. -/
def matrixInverseIsTwoSidedSpec : ChangeSpec := { name := "matrixInverseIsTwoSided", fn := fun _ => fun
  | [d1, d2] => { results := [.lit (.bool true)], args := [d1, d2] }
  | _ => none }
def matrixInverseIsTwoSidedRow : OpenClaim := { program := "ytjbhcniiioepgaagreat", sum := "56b968bc65e117cfb37df8bb9a6adee0bc0d5a46e54ad5cfa5adaedc53bd8657", func := "robuststats/robuststatslaw06.MatrixInverseIsTwoSided", spec := "matrixInverseIsTwoSided", unfollowed := true, recurses := true, named := ["math/bits.overflowError"], apart := false }
def MatrixInverseIsTwoSidedSaid : Prop := matrixInverseIsTwoSidedRow.holds Tryz.pinned (OpenSpec.ofChange matrixInverseIsTwoSidedSpec)

/-- ITS FALSE NEIGHBOUR: 'it returns false'. Refute it at one input. -/
def matrixInverseIsTwoSidedWrong : ChangeSpec := { name := "matrixInverseIsTwoSided", fn := fun _ => fun
  | [d1, d2] => { results := [.lit (.bool false)], args := [d1, d2] }
  | _ => none }
def MatrixInverseIsTwoSidedWrongFalsely : Prop := matrixInverseIsTwoSidedRow.holds Tryz.pinned (OpenSpec.ofChange matrixInverseIsTwoSidedWrong)

/-- 'robuststatslaw42.CertifyMcds': WHATEVER THE INPUT: true; the input reads as it did. -/
def certifyMcdsSpec : ChangeSpec := { name := "certifyMcds", fn := fun _ => fun
  | [d] => { results := [.lit (.bool true)], args := [d] }
  | _ => none }
def certifyMcdsRow : OpenClaim := { program := "ytjbhcniiioepgaagreat", sum := "56b968bc65e117cfb37df8bb9a6adee0bc0d5a46e54ad5cfa5adaedc53bd8657", func := "robuststats/robuststatslaw42.CertifyMcds", spec := "certifyMcds", unfollowed := true, recurses := true, named := ["math/bits.overflowError"], apart := false }
def CertifyMcdsSaid : Prop := certifyMcdsRow.holds Tryz.pinned (OpenSpec.ofChange certifyMcdsSpec)

/-- ITS FALSE NEIGHBOUR: 'it returns false'. Refute it at one input. -/
def certifyMcdsWrong : ChangeSpec := { name := "certifyMcds", fn := fun _ => fun
  | [d] => { results := [.lit (.bool false)], args := [d] }
  | _ => none }
def CertifyMcdsWrongFalsely : Prop := certifyMcdsRow.holds Tryz.pinned (OpenSpec.ofChange certifyMcdsWrong)

/-- 'robuststatslaw25.HalfspaceDepths': WHATEVER THE INPUT: true; the input reads as it did. -/
def halfspaceDepthsSpec : ChangeSpec := { name := "halfspaceDepths", fn := fun _ => fun
  | [d1, d2, d3] => { results := [.lit (.bool true)], args := [d1, d2, d3] }
  | _ => none }
def halfspaceDepthsRow : OpenClaim := { program := "ytjbhcniiioepgaagreat", sum := "56b968bc65e117cfb37df8bb9a6adee0bc0d5a46e54ad5cfa5adaedc53bd8657", func := "robuststats/robuststatslaw25.HalfspaceDepths", spec := "halfspaceDepths", unfollowed := true, recurses := true, named := ["math/bits.overflowError"], apart := false }
def HalfspaceDepthsSaid : Prop := halfspaceDepthsRow.holds Tryz.pinned (OpenSpec.ofChange halfspaceDepthsSpec)

/-- ITS FALSE NEIGHBOUR: 'it returns false'. Refute it at one input. -/
def halfspaceDepthsWrong : ChangeSpec := { name := "halfspaceDepths", fn := fun _ => fun
  | [d1, d2, d3] => { results := [.lit (.bool false)], args := [d1, d2, d3] }
  | _ => none }
def HalfspaceDepthsWrongFalsely : Prop := halfspaceDepthsRow.holds Tryz.pinned (OpenSpec.ofChange halfspaceDepthsWrong)

/-- 'robuststatslaw25.HalfspaceMoves': WHATEVER THE INPUT: true; the input reads as it did. -/
def halfspaceMovesSpec : ChangeSpec := { name := "halfspaceMoves", fn := fun _ => fun
  | [d] => { results := [.lit (.bool true)], args := [d] }
  | _ => none }
def halfspaceMovesRow : OpenClaim := { program := "ytjbhcniiioepgaagreat", sum := "56b968bc65e117cfb37df8bb9a6adee0bc0d5a46e54ad5cfa5adaedc53bd8657", func := "robuststats/robuststatslaw25.HalfspaceMoves", spec := "halfspaceMoves", unfollowed := true, recurses := true, named := ["math/bits.overflowError"], apart := false }
def HalfspaceMovesSaid : Prop := halfspaceMovesRow.holds Tryz.pinned (OpenSpec.ofChange halfspaceMovesSpec)

/-- ITS FALSE NEIGHBOUR: 'it returns false'. Refute it at one input. -/
def halfspaceMovesWrong : ChangeSpec := { name := "halfspaceMoves", fn := fun _ => fun
  | [d] => { results := [.lit (.bool false)], args := [d] }
  | _ => none }
def HalfspaceMovesWrongFalsely : Prop := halfspaceMovesRow.holds Tryz.pinned (OpenSpec.ofChange halfspaceMovesWrong)

/- THE SECOND FORM. 'bulk': how many values and letters a reading holds, each counted each time it is reached (what is shared counts as often as it is met; a slice's spare places count too). A statement '..UptoSaid' is the law's where the arguments, and the package variables that the reading takes, are together of bulk at most 1048576: NARROWER than '..Said'. Prove '..Said' where nothing that the law and all that it calls make is longer than what came in: it says more and counts as full. Else prove '..UptoSaid'. A law counts once. -/
mutual
def uptoBulk {H : Type} : DataW H → Nat
  | .lit (.string bytes) => bytes.length + 1
  | .lit _ => 1
  | .nil => 1
  | .ptr d => uptoBulk d + 1
  | .slice elems spare => uptoBulkAll elems + uptoBulkAll spare + 1
  | .agg parts => uptoBulkAll parts + 1
  | .iface _ d => uptoBulk d + 1
  | .map entries => uptoBulkEntries entries + 1
  | .held _ => 1
def uptoBulkAll {H : Type} : List (DataW H) → Nat
  | [] => 0
  | d :: r => uptoBulk d + uptoBulkAll r
def uptoBulkEntries {H : Type} : List (Lit × DataW H) → Nat
  | [] => 0
  | x :: r => uptoBulkEntry x + uptoBulkEntries r
def uptoBulkEntry {H : Type} : Lit × DataW H → Nat
  | (.string bytes, d) => bytes.length + uptoBulk d + 1
  | (_, d) => uptoBulk d + 1
 end
def uptoSmall : (H : Type) → List (DataW H) → Bool := fun _ ds => decide (uptoBulkAll ds ≤ 1048576)
def OpenSpec.upto (s : _root_.Go.ChangeSpec) : _root_.Go.OpenSpec := { _root_.Go.OpenSpec.ofChange s with cond := some uptoSmall }

/-- 'robuststatslaw06.MatrixReducedFormIsUnique', WHERE WHAT IT READS IS OF BULK AT MOST 1048576: true; the input reads as it did. -/
def matrixReducedFormIsUniqueUptoRow : OpenClaim := { program := "ytjbhcniiioepgaagreat", sum := "56b968bc65e117cfb37df8bb9a6adee0bc0d5a46e54ad5cfa5adaedc53bd8657", func := "robuststats/robuststatslaw06.MatrixReducedFormIsUnique", spec := "matrixReducedFormIsUnique", unfollowed := true, recurses := true, named := ["math/bits.overflowError"], apart := false, narrowed := true }
def MatrixReducedFormIsUniqueUptoSaid : Prop := matrixReducedFormIsUniqueUptoRow.holds Tryz.pinned (OpenSpec.upto matrixReducedFormIsUniqueSpec)

/-- 'robuststatslaw42.CertifyDepths', WHERE WHAT IT READS IS OF BULK AT MOST 1048576: true; the input reads as it did. -/
def certifyDepthsUptoRow : OpenClaim := { program := "ytjbhcniiioepgaagreat", sum := "56b968bc65e117cfb37df8bb9a6adee0bc0d5a46e54ad5cfa5adaedc53bd8657", func := "robuststats/robuststatslaw42.CertifyDepths", spec := "certifyDepths", named := ["math/bits.overflowError"], apart := false, narrowed := true }
def CertifyDepthsUptoSaid : Prop := certifyDepthsUptoRow.holds Tryz.pinned (OpenSpec.upto certifyDepthsSpec)

/-- 'robuststatslaw06.MatrixReduces', WHERE WHAT IT READS IS OF BULK AT MOST 1048576: true; the input reads as it did. -/
def matrixReducesUptoRow : OpenClaim := { program := "ytjbhcniiioepgaagreat", sum := "56b968bc65e117cfb37df8bb9a6adee0bc0d5a46e54ad5cfa5adaedc53bd8657", func := "robuststats/robuststatslaw06.MatrixReduces", spec := "matrixReduces", unfollowed := true, recurses := true, named := ["math/bits.overflowError"], apart := false, narrowed := true }
def MatrixReducesUptoSaid : Prop := matrixReducesUptoRow.holds Tryz.pinned (OpenSpec.upto matrixReducesSpec)

/-- 'robuststatslaw06.MatrixMultiplies', WHERE WHAT IT READS IS OF BULK AT MOST 1048576: true; the input reads as it did. -/
def matrixMultipliesUptoRow : OpenClaim := { program := "ytjbhcniiioepgaagreat", sum := "56b968bc65e117cfb37df8bb9a6adee0bc0d5a46e54ad5cfa5adaedc53bd8657", func := "robuststats/robuststatslaw06.MatrixMultiplies", spec := "matrixMultiplies", unfollowed := true, recurses := true, named := ["math/bits.overflowError"], apart := false, narrowed := true }
def MatrixMultipliesUptoSaid : Prop := matrixMultipliesUptoRow.holds Tryz.pinned (OpenSpec.upto matrixMultipliesSpec)

/-- 'robuststatslaw06.MatrixSolves', WHERE WHAT IT READS IS OF BULK AT MOST 1048576: true; the input reads as it did. -/
def matrixSolvesUptoRow : OpenClaim := { program := "ytjbhcniiioepgaagreat", sum := "56b968bc65e117cfb37df8bb9a6adee0bc0d5a46e54ad5cfa5adaedc53bd8657", func := "robuststats/robuststatslaw06.MatrixSolves", spec := "matrixSolves", unfollowed := true, recurses := true, named := ["math/bits.overflowError"], apart := false, narrowed := true }
def MatrixSolvesUptoSaid : Prop := matrixSolvesUptoRow.holds Tryz.pinned (OpenSpec.upto matrixSolvesSpec)

/-- 'robuststatslaw06.MatrixProductHasTheDeterminant', WHERE WHAT IT READS IS OF BULK AT MOST 1048576: true; the input reads as it did. -/
def matrixProductHasTheDeterminantUptoRow : OpenClaim := { program := "ytjbhcniiioepgaagreat", sum := "56b968bc65e117cfb37df8bb9a6adee0bc0d5a46e54ad5cfa5adaedc53bd8657", func := "robuststats/robuststatslaw06.MatrixProductHasTheDeterminant", spec := "matrixProductHasTheDeterminant", unfollowed := true, recurses := true, named := ["math/bits.overflowError"], apart := false, narrowed := true }
def MatrixProductHasTheDeterminantUptoSaid : Prop := matrixProductHasTheDeterminantUptoRow.holds Tryz.pinned (OpenSpec.upto matrixProductHasTheDeterminantSpec)

/-- 'robuststatslaw06.MatrixSolutionSolves', WHERE WHAT IT READS IS OF BULK AT MOST 1048576: true; the input reads as it did. -/
def matrixSolutionSolvesUptoRow : OpenClaim := { program := "ytjbhcniiioepgaagreat", sum := "56b968bc65e117cfb37df8bb9a6adee0bc0d5a46e54ad5cfa5adaedc53bd8657", func := "robuststats/robuststatslaw06.MatrixSolutionSolves", spec := "matrixSolutionSolves", unfollowed := true, recurses := true, named := ["math/bits.overflowError"], apart := false, narrowed := true }
def MatrixSolutionSolvesUptoSaid : Prop := matrixSolutionSolvesUptoRow.holds Tryz.pinned (OpenSpec.upto matrixSolutionSolvesSpec)

/-- 'robuststatslaw06.MatrixInverseIsTwoSided', WHERE WHAT IT READS IS OF BULK AT MOST 1048576: true; the input reads as it did. -/
def matrixInverseIsTwoSidedUptoRow : OpenClaim := { program := "ytjbhcniiioepgaagreat", sum := "56b968bc65e117cfb37df8bb9a6adee0bc0d5a46e54ad5cfa5adaedc53bd8657", func := "robuststats/robuststatslaw06.MatrixInverseIsTwoSided", spec := "matrixInverseIsTwoSided", unfollowed := true, recurses := true, named := ["math/bits.overflowError"], apart := false, narrowed := true }
def MatrixInverseIsTwoSidedUptoSaid : Prop := matrixInverseIsTwoSidedUptoRow.holds Tryz.pinned (OpenSpec.upto matrixInverseIsTwoSidedSpec)

/-- 'robuststatslaw42.CertifyMcds', WHERE WHAT IT READS IS OF BULK AT MOST 1048576: true; the input reads as it did. -/
def certifyMcdsUptoRow : OpenClaim := { program := "ytjbhcniiioepgaagreat", sum := "56b968bc65e117cfb37df8bb9a6adee0bc0d5a46e54ad5cfa5adaedc53bd8657", func := "robuststats/robuststatslaw42.CertifyMcds", spec := "certifyMcds", unfollowed := true, recurses := true, named := ["math/bits.overflowError"], apart := false, narrowed := true }
def CertifyMcdsUptoSaid : Prop := certifyMcdsUptoRow.holds Tryz.pinned (OpenSpec.upto certifyMcdsSpec)

/-- 'robuststatslaw25.HalfspaceDepths', WHERE WHAT IT READS IS OF BULK AT MOST 1048576: true; the input reads as it did. -/
def halfspaceDepthsUptoRow : OpenClaim := { program := "ytjbhcniiioepgaagreat", sum := "56b968bc65e117cfb37df8bb9a6adee0bc0d5a46e54ad5cfa5adaedc53bd8657", func := "robuststats/robuststatslaw25.HalfspaceDepths", spec := "halfspaceDepths", unfollowed := true, recurses := true, named := ["math/bits.overflowError"], apart := false, narrowed := true }
def HalfspaceDepthsUptoSaid : Prop := halfspaceDepthsUptoRow.holds Tryz.pinned (OpenSpec.upto halfspaceDepthsSpec)

/-- 'robuststatslaw25.HalfspaceMoves', WHERE WHAT IT READS IS OF BULK AT MOST 1048576: true; the input reads as it did. -/
def halfspaceMovesUptoRow : OpenClaim := { program := "ytjbhcniiioepgaagreat", sum := "56b968bc65e117cfb37df8bb9a6adee0bc0d5a46e54ad5cfa5adaedc53bd8657", func := "robuststats/robuststatslaw25.HalfspaceMoves", spec := "halfspaceMoves", unfollowed := true, recurses := true, named := ["math/bits.overflowError"], apart := false, narrowed := true }
def HalfspaceMovesUptoSaid : Prop := halfspaceMovesUptoRow.holds Tryz.pinned (OpenSpec.upto halfspaceMovesSpec)

end Rows
end Go.Proofs.YtjbhcniiioepgaaGreat
