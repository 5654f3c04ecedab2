/-
  No cell of these rows narrows 'for every input' (looked for: loops, veiled, ifaces, maps, wideKeys, modest, calm, conditions, laid).
  DERIVED. THE GIVEN ROWS OF THIS SEAT. 3 by the template 'for every input the law returns true; each argument reads behind the call as it read before'; 0 by the template 'total and deterministic' (their statements: YtblifbnbjffgkaaTotals.lean).
  GIVEN WITH THE SEED: the statements are not yours to turn. If you find one false, say at which input.
  Laid BY PROGRAM, IN A SANDBOX (cutbox-rows.mjs): the forced cells as the released guide's own fill.sh prints them over the translation a27a398de3e2392d… (all of the seat's roots in one cut). By AI agents, Wed Nov 11 2026. No macro, syntax, notation, axiom, sorry.
-/
import Derived.Test.YtblifbnbjffgkaaChecked
import GoSem.Claim
import GoSem.ClaimJoined
import GoSem.ClaimMapViews
import Derived.JoinedTies
import Derived.KernelRfl
namespace Go.Proofs.Ytblifbnbjffgkaa
/- THE CELL 'sum', in the pinned program and in every row, IS THE sha256 OF THE DUMP (.gsa) THAT YtblifbnbjffgkaaProg.lean LOADS. Nothing in Lean hashes anything: it is a label: what it is worth is what the hold of that sum in a sandbox is worth. -/
noncomputable def Try.pinned : Pinned := { name := "ytblifbnbjffgkaa", sum := "a27a398de3e2392d9616e3873d2b46641f22c9a8dbc0940851f4b26c50e48d09", checked := Try.checked }
namespace Rows
def none {H : Type} : Left H := { results := [], args := [] }

/-- 'robuststatslaw42.CertifyCovers': WHATEVER THE INPUT: true; the input reads as it did. -/
def certifyCoversSpec : ChangeSpec := { name := "certifyCovers", fn := fun _ => fun
  | [d1, d2, d3, d4] => { results := [.lit (.bool true)], args := [d1, d2, d3, d4] }
  | _ => none }
def certifyCoversRow : OpenClaim := { program := "ytblifbnbjffgkaa", sum := "a27a398de3e2392d9616e3873d2b46641f22c9a8dbc0940851f4b26c50e48d09", func := "robuststats/robuststatslaw42.CertifyCovers", spec := "certifyCovers", recurses := true, named := ["math/bits.overflowError"], apart := false }
def CertifyCoversSaid : Prop := certifyCoversRow.holds Try.pinned (OpenSpec.ofChange certifyCoversSpec)

/-- ITS FALSE NEIGHBOUR: 'it returns false'. Refute it at one input. -/
def certifyCoversWrong : ChangeSpec := { name := "certifyCovers", fn := fun _ => fun
  | [d1, d2, d3, d4] => { results := [.lit (.bool false)], args := [d1, d2, d3, d4] }
  | _ => none }
def CertifyCoversWrongFalsely : Prop := certifyCoversRow.holds Try.pinned (OpenSpec.ofChange certifyCoversWrong)

/-- 'robuststatslaw42.CertifyParts': WHATEVER THE INPUT: true; the input reads as it did. -/
def certifyPartsSpec : ChangeSpec := { name := "certifyParts", fn := fun _ => fun
  | [d] => { results := [.lit (.bool true)], args := [d] }
  | _ => none }
def certifyPartsRow : OpenClaim := { program := "ytblifbnbjffgkaa", sum := "a27a398de3e2392d9616e3873d2b46641f22c9a8dbc0940851f4b26c50e48d09", func := "robuststats/robuststatslaw42.CertifyParts", spec := "certifyParts", recurses := true, named := ["math/bits.overflowError"], apart := false }
def CertifyPartsSaid : Prop := certifyPartsRow.holds Try.pinned (OpenSpec.ofChange certifyPartsSpec)

/-- ITS FALSE NEIGHBOUR: 'it returns false'. Refute it at one input. -/
def certifyPartsWrong : ChangeSpec := { name := "certifyParts", fn := fun _ => fun
  | [d] => { results := [.lit (.bool false)], args := [d] }
  | _ => none }
def CertifyPartsWrongFalsely : Prop := certifyPartsRow.holds Try.pinned (OpenSpec.ofChange certifyPartsWrong)

/-- 'robuststatslaw42.CertifySubsets': WHATEVER THE INPUT: true; the input reads as it did. -/
def certifySubsetsSpec : ChangeSpec := { name := "certifySubsets", fn := fun _ => fun
  | [d1, d2, d3] => { results := [.lit (.bool true)], args := [d1, d2, d3] }
  | _ => none }
def certifySubsetsRow : OpenClaim := { program := "ytblifbnbjffgkaa", sum := "a27a398de3e2392d9616e3873d2b46641f22c9a8dbc0940851f4b26c50e48d09", func := "robuststats/robuststatslaw42.CertifySubsets", spec := "certifySubsets", unfollowed := true, recurses := true, named := ["math/bits.overflowError"], apart := false }
def CertifySubsetsSaid : Prop := certifySubsetsRow.holds Try.pinned (OpenSpec.ofChange certifySubsetsSpec)

/-- ITS FALSE NEIGHBOUR: 'it returns false'. Refute it at one input. -/
def certifySubsetsWrong : ChangeSpec := { name := "certifySubsets", fn := fun _ => fun
  | [d1, d2, d3] => { results := [.lit (.bool false)], args := [d1, d2, d3] }
  | _ => none }
def CertifySubsetsWrongFalsely : Prop := certifySubsetsRow.holds Try.pinned (OpenSpec.ofChange certifySubsetsWrong)

/- THE SECOND FORM. 'bulk': how many values and letters a reading holds, each counted each time it is reached (what is shared counts as often as it is met; a slice's spare places count too). A statement '..UptoSaid' is the law's where the arguments, and the package variables that the reading takes, are together of bulk at most 1048576: NARROWER than '..Said'. Prove '..Said' where nothing that the law and all that it calls make is longer than what came in: it says more and counts as full. Else prove '..UptoSaid'. A law counts once. -/
mutual
def uptoBulk {H : Type} : DataW H → Nat
  | .lit (.string bytes) => bytes.length + 1
  | .lit _ => 1
  | .nil => 1
  | .ptr d => uptoBulk d + 1
  | .slice elems spare => uptoBulkAll elems + uptoBulkAll spare + 1
  | .agg parts => uptoBulkAll parts + 1
  | .iface _ d => uptoBulk d + 1
  | .map entries => uptoBulkEntries entries + 1
  | .held _ => 1
def uptoBulkAll {H : Type} : List (DataW H) → Nat
  | [] => 0
  | d :: r => uptoBulk d + uptoBulkAll r
def uptoBulkEntries {H : Type} : List (Lit × DataW H) → Nat
  | [] => 0
  | x :: r => uptoBulkEntry x + uptoBulkEntries r
def uptoBulkEntry {H : Type} : Lit × DataW H → Nat
  | (.string bytes, d) => bytes.length + uptoBulk d + 1
  | (_, d) => uptoBulk d + 1
 end
def uptoSmall : (H : Type) → List (DataW H) → Bool := fun _ ds => decide (uptoBulkAll ds ≤ 1048576)
def OpenSpec.upto (s : _root_.Go.ChangeSpec) : _root_.Go.OpenSpec := { _root_.Go.OpenSpec.ofChange s with cond := some uptoSmall }

/-- 'robuststatslaw42.CertifyCovers', WHERE WHAT IT READS IS OF BULK AT MOST 1048576: true; the input reads as it did. -/
def certifyCoversUptoRow : OpenClaim := { program := "ytblifbnbjffgkaa", sum := "a27a398de3e2392d9616e3873d2b46641f22c9a8dbc0940851f4b26c50e48d09", func := "robuststats/robuststatslaw42.CertifyCovers", spec := "certifyCovers", recurses := true, named := ["math/bits.overflowError"], apart := false, narrowed := true }
def CertifyCoversUptoSaid : Prop := certifyCoversUptoRow.holds Try.pinned (OpenSpec.upto certifyCoversSpec)

/-- 'robuststatslaw42.CertifyParts', WHERE WHAT IT READS IS OF BULK AT MOST 1048576: true; the input reads as it did. -/
def certifyPartsUptoRow : OpenClaim := { program := "ytblifbnbjffgkaa", sum := "a27a398de3e2392d9616e3873d2b46641f22c9a8dbc0940851f4b26c50e48d09", func := "robuststats/robuststatslaw42.CertifyParts", spec := "certifyParts", recurses := true, named := ["math/bits.overflowError"], apart := false, narrowed := true }
def CertifyPartsUptoSaid : Prop := certifyPartsUptoRow.holds Try.pinned (OpenSpec.upto certifyPartsSpec)

/-- 'robuststatslaw42.CertifySubsets', WHERE WHAT IT READS IS OF BULK AT MOST 1048576: true; the input reads as it did. -/
def certifySubsetsUptoRow : OpenClaim := { program := "ytblifbnbjffgkaa", sum := "a27a398de3e2392d9616e3873d2b46641f22c9a8dbc0940851f4b26c50e48d09", func := "robuststats/robuststatslaw42.CertifySubsets", spec := "certifySubsets", unfollowed := true, recurses := true, named := ["math/bits.overflowError"], apart := false, narrowed := true }
def CertifySubsetsUptoSaid : Prop := certifySubsetsUptoRow.holds Try.pinned (OpenSpec.upto certifySubsetsSpec)

end Rows
end Go.Proofs.Ytblifbnbjffgkaa
