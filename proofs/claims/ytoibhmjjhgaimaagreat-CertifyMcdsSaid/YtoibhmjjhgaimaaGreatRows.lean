/-
  No cell of these rows narrows 'for every input' (looked for: loops, veiled, ifaces, maps, wideKeys, modest, calm, conditions, laid).
  DERIVED. THE GIVEN ROWS OF THIS SEAT. 10 by the template 'for every input the law returns true; each argument reads behind the call as it read before'; 0 by the template 'total and deterministic' (their statements: YtoibhmjjhgaimaaGreatTotals.lean).
  GIVEN WITH THE SEED: the statements are not yours to turn. If you find one false, say at which input.
  Laid BY PROGRAM, IN A SANDBOX (cutbox-rows.mjs): the forced cells as the released guide's own fill.sh prints them over the translation 4dcc368c391da43c… (all of the seat's roots in one cut). By AI agents, Wed Nov 11 2026. No macro, syntax, notation, axiom, sorry.
-/
import Derived.Test.YtoibhmjjhgaimaaGreatChecked
import GoSem.Claim
import GoSem.ClaimJoined
import GoSem.ClaimMapViews
import Derived.JoinedTies
import Derived.KernelRfl
namespace Go.Proofs.YtoibhmjjhgaimaaGreat
/- THE CELL 'sum', in the pinned program and in every row, IS THE sha256 OF THE DUMP (.gsa) THAT YtoibhmjjhgaimaaGreatProg.lean LOADS. Nothing in Lean hashes anything: it is a label: what it is worth is what the hold of that sum in a sandbox is worth. -/
noncomputable def Tryz.pinned : Pinned := { name := "ytoibhmjjhgaimaagreat", sum := "4dcc368c391da43c87c3a36d7ab627480ded470418dad6bc02eb863bbfd19441", checked := Tryz.checked }
namespace Rows
def none {H : Type} : Left H := { results := [], args := [] }

/-- 'robuststatslaw42.CertifyMcds': WHATEVER THE INPUT: true; the input reads as it did. -/
def certifyMcdsSpec : ChangeSpec := { name := "certifyMcds", fn := fun _ => fun
  | [d] => { results := [.lit (.bool true)], args := [d] }
  | _ => none }
def certifyMcdsRow : OpenClaim := { program := "ytoibhmjjhgaimaagreat", sum := "4dcc368c391da43c87c3a36d7ab627480ded470418dad6bc02eb863bbfd19441", func := "robuststats/robuststatslaw42.CertifyMcds", spec := "certifyMcds", unfollowed := true, recurses := true, named := ["math/bits.overflowError"], apart := false }
def CertifyMcdsSaid : Prop := certifyMcdsRow.holds Tryz.pinned (OpenSpec.ofChange certifyMcdsSpec)

/-- ITS FALSE NEIGHBOUR: 'it returns false'. Refute it at one input. -/
def certifyMcdsWrong : ChangeSpec := { name := "certifyMcds", fn := fun _ => fun
  | [d] => { results := [.lit (.bool false)], args := [d] }
  | _ => none }
def CertifyMcdsWrongFalsely : Prop := certifyMcdsRow.holds Tryz.pinned (OpenSpec.ofChange certifyMcdsWrong)

/-- 'robuststatslaw38.SelectionBest': WHATEVER THE INPUT: true; the input reads as it did. -/
def selectionBestSpec : ChangeSpec := { name := "selectionBest", fn := fun _ => fun
  | [d1, d2, d3, d4] => { results := [.lit (.bool true)], args := [d1, d2, d3, d4] }
  | _ => none }
def selectionBestRow : OpenClaim := { program := "ytoibhmjjhgaimaagreat", sum := "4dcc368c391da43c87c3a36d7ab627480ded470418dad6bc02eb863bbfd19441", func := "robuststats/robuststatslaw38.SelectionBest", spec := "selectionBest", unfollowed := true, recurses := true, named := ["math/bits.overflowError"], apart := false }
def SelectionBestSaid : Prop := selectionBestRow.holds Tryz.pinned (OpenSpec.ofChange selectionBestSpec)

/-- ITS FALSE NEIGHBOUR: 'it returns false'. Refute it at one input. -/
def selectionBestWrong : ChangeSpec := { name := "selectionBest", fn := fun _ => fun
  | [d1, d2, d3, d4] => { results := [.lit (.bool false)], args := [d1, d2, d3, d4] }
  | _ => none }
def SelectionBestWrongFalsely : Prop := selectionBestRow.holds Tryz.pinned (OpenSpec.ofChange selectionBestWrong)

/-- 'robuststatslaw38.SelectionFalls': WHATEVER THE INPUT: true; the input reads as it did. -/
def selectionFallsSpec : ChangeSpec := { name := "selectionFalls", fn := fun _ => fun
  | [d] => { results := [.lit (.bool true)], args := [d] }
  | _ => none }
def selectionFallsRow : OpenClaim := { program := "ytoibhmjjhgaimaagreat", sum := "4dcc368c391da43c87c3a36d7ab627480ded470418dad6bc02eb863bbfd19441", func := "robuststats/robuststatslaw38.SelectionFalls", spec := "selectionFalls", unfollowed := true, recurses := true, named := ["math/bits.overflowError"], apart := false }
def SelectionFallsSaid : Prop := selectionFallsRow.holds Tryz.pinned (OpenSpec.ofChange selectionFallsSpec)

/-- ITS FALSE NEIGHBOUR: 'it returns false'. Refute it at one input. -/
def selectionFallsWrong : ChangeSpec := { name := "selectionFalls", fn := fun _ => fun
  | [d] => { results := [.lit (.bool false)], args := [d] }
  | _ => none }
def SelectionFallsWrongFalsely : Prop := selectionFallsRow.holds Tryz.pinned (OpenSpec.ofChange selectionFallsWrong)

/-- 'robuststatslaw26.SimplicialDepths': WHATEVER THE INPUT: true; the input reads as it did. -/
def simplicialDepthsSpec : ChangeSpec := { name := "simplicialDepths", fn := fun _ => fun
  | [d1, d2, d3] => { results := [.lit (.bool true)], args := [d1, d2, d3] }
  | _ => none }
def simplicialDepthsRow : OpenClaim := { program := "ytoibhmjjhgaimaagreat", sum := "4dcc368c391da43c87c3a36d7ab627480ded470418dad6bc02eb863bbfd19441", func := "robuststats/robuststatslaw26.SimplicialDepths", spec := "simplicialDepths", unfollowed := true, recurses := true, named := ["math/bits.overflowError"], apart := false }
def SimplicialDepthsSaid : Prop := simplicialDepthsRow.holds Tryz.pinned (OpenSpec.ofChange simplicialDepthsSpec)

/-- ITS FALSE NEIGHBOUR: 'it returns false'. Refute it at one input. -/
def simplicialDepthsWrong : ChangeSpec := { name := "simplicialDepths", fn := fun _ => fun
  | [d1, d2, d3] => { results := [.lit (.bool false)], args := [d1, d2, d3] }
  | _ => none }
def SimplicialDepthsWrongFalsely : Prop := simplicialDepthsRow.holds Tryz.pinned (OpenSpec.ofChange simplicialDepthsWrong)

/-- 'robuststatslaw26.SimplicialOutside': WHATEVER THE INPUT: true; the input reads as it did. -/
def simplicialOutsideSpec : ChangeSpec := { name := "simplicialOutside", fn := fun _ => fun
  | [d] => { results := [.lit (.bool true)], args := [d] }
  | _ => none }
def simplicialOutsideRow : OpenClaim := { program := "ytoibhmjjhgaimaagreat", sum := "4dcc368c391da43c87c3a36d7ab627480ded470418dad6bc02eb863bbfd19441", func := "robuststats/robuststatslaw26.SimplicialOutside", spec := "simplicialOutside", unfollowed := true, recurses := true, named := ["math/bits.overflowError"], apart := false }
def SimplicialOutsideSaid : Prop := simplicialOutsideRow.holds Tryz.pinned (OpenSpec.ofChange simplicialOutsideSpec)

/-- ITS FALSE NEIGHBOUR: 'it returns false'. Refute it at one input. -/
def simplicialOutsideWrong : ChangeSpec := { name := "simplicialOutside", fn := fun _ => fun
  | [d] => { results := [.lit (.bool false)], args := [d] }
  | _ => none }
def SimplicialOutsideWrongFalsely : Prop := simplicialOutsideRow.holds Tryz.pinned (OpenSpec.ofChange simplicialOutsideWrong)

/-- 'robuststatslaw26.SimplicialContains': WHATEVER THE INPUT: true; the input reads as it did. -/
def simplicialContainsSpec : ChangeSpec := { name := "simplicialContains", fn := fun _ => fun
  | [d1, d2, d3] => { results := [.lit (.bool true)], args := [d1, d2, d3] }
  | _ => none }
def simplicialContainsRow : OpenClaim := { program := "ytoibhmjjhgaimaagreat", sum := "4dcc368c391da43c87c3a36d7ab627480ded470418dad6bc02eb863bbfd19441", func := "robuststats/robuststatslaw26.SimplicialContains", spec := "simplicialContains", unfollowed := true, recurses := true, named := ["math/bits.overflowError"], apart := false }
def SimplicialContainsSaid : Prop := simplicialContainsRow.holds Tryz.pinned (OpenSpec.ofChange simplicialContainsSpec)

/-- ITS FALSE NEIGHBOUR: 'it returns false'. Refute it at one input. -/
def simplicialContainsWrong : ChangeSpec := { name := "simplicialContains", fn := fun _ => fun
  | [d1, d2, d3] => { results := [.lit (.bool false)], args := [d1, d2, d3] }
  | _ => none }
def SimplicialContainsWrongFalsely : Prop := simplicialContainsRow.holds Tryz.pinned (OpenSpec.ofChange simplicialContainsWrong)

/-- 'robuststatslaw34.InfluenceBounded': WHATEVER THE INPUT: true; the input reads as it did. -/
def influenceBoundedSpec : ChangeSpec := { name := "influenceBounded", fn := fun _ => fun
  | [d] => { results := [.lit (.bool true)], args := [d] }
  | _ => none }
def influenceBoundedRow : OpenClaim := { program := "ytoibhmjjhgaimaagreat", sum := "4dcc368c391da43c87c3a36d7ab627480ded470418dad6bc02eb863bbfd19441", func := "robuststats/robuststatslaw34.InfluenceBounded", spec := "influenceBounded", inPlace := ["internal/reflectlite.ValueOf", "internal/reflectlite.Swapper", "(internal/reflectlite.Value).Len"], unfollowed := true, recurses := true, named := ["math/bits.overflowError"], apart := false }
def InfluenceBoundedSaid : Prop := influenceBoundedRow.holds Tryz.pinned (OpenSpec.ofChange influenceBoundedSpec)

/-- ITS FALSE NEIGHBOUR: 'it returns false'. Refute it at one input. -/
def influenceBoundedWrong : ChangeSpec := { name := "influenceBounded", fn := fun _ => fun
  | [d] => { results := [.lit (.bool false)], args := [d] }
  | _ => none }
def InfluenceBoundedWrongFalsely : Prop := influenceBoundedRow.holds Tryz.pinned (OpenSpec.ofChange influenceBoundedWrong)

/-- 'robuststatslaw34.InfluenceJoins': WHATEVER THE INPUT: true; the input reads as it did. -/
def influenceJoinsSpec : ChangeSpec := { name := "influenceJoins", fn := fun _ => fun
  | [d] => { results := [.lit (.bool true)], args := [d] }
  | _ => none }
def influenceJoinsRow : OpenClaim := { program := "ytoibhmjjhgaimaagreat", sum := "4dcc368c391da43c87c3a36d7ab627480ded470418dad6bc02eb863bbfd19441", func := "robuststats/robuststatslaw34.InfluenceJoins", spec := "influenceJoins", inPlace := ["internal/reflectlite.ValueOf", "internal/reflectlite.Swapper", "(internal/reflectlite.Value).Len"], unfollowed := true, recurses := true, named := ["math/bits.overflowError"], apart := false }
def InfluenceJoinsSaid : Prop := influenceJoinsRow.holds Tryz.pinned (OpenSpec.ofChange influenceJoinsSpec)

/-- ITS FALSE NEIGHBOUR: 'it returns false'. Refute it at one input. -/
def influenceJoinsWrong : ChangeSpec := { name := "influenceJoins", fn := fun _ => fun
  | [d] => { results := [.lit (.bool false)], args := [d] }
  | _ => none }
def InfluenceJoinsWrongFalsely : Prop := influenceJoinsRow.holds Tryz.pinned (OpenSpec.ofChange influenceJoinsWrong)

/-- 'robuststatslaw26.SimplicialMedians': WHATEVER THE INPUT: true; the input reads as it did. -/
def simplicialMediansSpec : ChangeSpec := { name := "simplicialMedians", fn := fun _ => fun
  | [d] => { results := [.lit (.bool true)], args := [d] }
  | _ => none }
def simplicialMediansRow : OpenClaim := { program := "ytoibhmjjhgaimaagreat", sum := "4dcc368c391da43c87c3a36d7ab627480ded470418dad6bc02eb863bbfd19441", func := "robuststats/robuststatslaw26.SimplicialMedians", spec := "simplicialMedians", unfollowed := true, recurses := true, named := ["math/bits.overflowError"], apart := false }
def SimplicialMediansSaid : Prop := simplicialMediansRow.holds Tryz.pinned (OpenSpec.ofChange simplicialMediansSpec)

/-- ITS FALSE NEIGHBOUR: 'it returns false'. Refute it at one input. -/
def simplicialMediansWrong : ChangeSpec := { name := "simplicialMedians", fn := fun _ => fun
  | [d] => { results := [.lit (.bool false)], args := [d] }
  | _ => none }
def SimplicialMediansWrongFalsely : Prop := simplicialMediansRow.holds Tryz.pinned (OpenSpec.ofChange simplicialMediansWrong)

/-- 'robuststatslaw26.SimplicialLimits': WHATEVER THE INPUT: true; the input reads as it did. -/
def simplicialLimitsSpec : ChangeSpec := { name := "simplicialLimits", fn := fun _ => fun
  | [d] => { results := [.lit (.bool true)], args := [d] }
  | _ => none }
def simplicialLimitsRow : OpenClaim := { program := "ytoibhmjjhgaimaagreat", sum := "4dcc368c391da43c87c3a36d7ab627480ded470418dad6bc02eb863bbfd19441", func := "robuststats/robuststatslaw26.SimplicialLimits", spec := "simplicialLimits", unfollowed := true, recurses := true, named := ["math/bits.overflowError"], apart := false }
def SimplicialLimitsSaid : Prop := simplicialLimitsRow.holds Tryz.pinned (OpenSpec.ofChange simplicialLimitsSpec)

/-- ITS FALSE NEIGHBOUR: 'it returns false'. Refute it at one input. -/
def simplicialLimitsWrong : ChangeSpec := { name := "simplicialLimits", fn := fun _ => fun
  | [d] => { results := [.lit (.bool false)], args := [d] }
  | _ => none }
def SimplicialLimitsWrongFalsely : Prop := simplicialLimitsRow.holds Tryz.pinned (OpenSpec.ofChange simplicialLimitsWrong)

/- THE SECOND FORM. 'bulk': how many values and letters a reading holds, each counted each time it is reached (what is shared counts as often as it is met; a slice's spare places count too). A statement '..UptoSaid' is the law's where the arguments, and the package variables that the reading takes, are together of bulk at most 1048576: NARROWER than '..Said'. Prove '..Said' where nothing that the law and all that it calls make is longer than what came in: it says more and counts as full. Else prove '..UptoSaid'. A law counts once. -/
mutual
def uptoBulk {H : Type} : DataW H → Nat
  | .lit (.string bytes) => bytes.length + 1
  | .lit _ => 1
  | .nil => 1
  | .ptr d => uptoBulk d + 1
  | .slice elems spare => uptoBulkAll elems + uptoBulkAll spare + 1
  | .agg parts => uptoBulkAll parts + 1
  | .iface _ d => uptoBulk d + 1
  | .map entries => uptoBulkEntries entries + 1
  | .held _ => 1
def uptoBulkAll {H : Type} : List (DataW H) → Nat
  | [] => 0
  | d :: r => uptoBulk d + uptoBulkAll r
def uptoBulkEntries {H : Type} : List (Lit × DataW H) → Nat
  | [] => 0
  | x :: r => uptoBulkEntry x + uptoBulkEntries r
def uptoBulkEntry {H : Type} : Lit × DataW H → Nat
  | (.string bytes, d) => bytes.length + uptoBulk d + 1
  | (_, d) => uptoBulk d + 1
 end
def uptoSmall : (H : Type) → List (DataW H) → Bool := fun _ ds => decide (uptoBulkAll ds ≤ 1048576)
def OpenSpec.upto (s : _root_.Go.ChangeSpec) : _root_.Go.OpenSpec := { _root_.Go.OpenSpec.ofChange s with cond := some uptoSmall }

/-- 'robuststatslaw42.CertifyMcds', WHERE WHAT IT READS IS OF BULK AT MOST 1048576: true; the input reads as it did. -/
def certifyMcdsUptoRow : OpenClaim := { program := "ytoibhmjjhgaimaagreat", sum := "4dcc368c391da43c87c3a36d7ab627480ded470418dad6bc02eb863bbfd19441", func := "robuststats/robuststatslaw42.CertifyMcds", spec := "certifyMcds", unfollowed := true, recurses := true, named := ["math/bits.overflowError"], apart := false, narrowed := true }
def CertifyMcdsUptoSaid : Prop := certifyMcdsUptoRow.holds Tryz.pinned (OpenSpec.upto certifyMcdsSpec)

/-- 'robuststatslaw38.SelectionBest', WHERE WHAT IT READS IS OF BULK AT MOST 1048576: true; the input reads as it did. -/
def selectionBestUptoRow : OpenClaim := { program := "ytoibhmjjhgaimaagreat", sum := "4dcc368c391da43c87c3a36d7ab627480ded470418dad6bc02eb863bbfd19441", func := "robuststats/robuststatslaw38.SelectionBest", spec := "selectionBest", unfollowed := true, recurses := true, named := ["math/bits.overflowError"], apart := false, narrowed := true }
def SelectionBestUptoSaid : Prop := selectionBestUptoRow.holds Tryz.pinned (OpenSpec.upto selectionBestSpec)

/-- 'robuststatslaw38.SelectionFalls', WHERE WHAT IT READS IS OF BULK AT MOST 1048576: true; the input reads as it did. -/
def selectionFallsUptoRow : OpenClaim := { program := "ytoibhmjjhgaimaagreat", sum := "4dcc368c391da43c87c3a36d7ab627480ded470418dad6bc02eb863bbfd19441", func := "robuststats/robuststatslaw38.SelectionFalls", spec := "selectionFalls", unfollowed := true, recurses := true, named := ["math/bits.overflowError"], apart := false, narrowed := true }
def SelectionFallsUptoSaid : Prop := selectionFallsUptoRow.holds Tryz.pinned (OpenSpec.upto selectionFallsSpec)

/-- 'robuststatslaw26.SimplicialDepths', WHERE WHAT IT READS IS OF BULK AT MOST 1048576: true; the input reads as it did. -/
def simplicialDepthsUptoRow : OpenClaim := { program := "ytoibhmjjhgaimaagreat", sum := "4dcc368c391da43c87c3a36d7ab627480ded470418dad6bc02eb863bbfd19441", func := "robuststats/robuststatslaw26.SimplicialDepths", spec := "simplicialDepths", unfollowed := true, recurses := true, named := ["math/bits.overflowError"], apart := false, narrowed := true }
def SimplicialDepthsUptoSaid : Prop := simplicialDepthsUptoRow.holds Tryz.pinned (OpenSpec.upto simplicialDepthsSpec)

/-- 'robuststatslaw26.SimplicialOutside', WHERE WHAT IT READS IS OF BULK AT MOST 1048576: true; the input reads as it did. -/
def simplicialOutsideUptoRow : OpenClaim := { program := "ytoibhmjjhgaimaagreat", sum := "4dcc368c391da43c87c3a36d7ab627480ded470418dad6bc02eb863bbfd19441", func := "robuststats/robuststatslaw26.SimplicialOutside", spec := "simplicialOutside", unfollowed := true, recurses := true, named := ["math/bits.overflowError"], apart := false, narrowed := true }
def SimplicialOutsideUptoSaid : Prop := simplicialOutsideUptoRow.holds Tryz.pinned (OpenSpec.upto simplicialOutsideSpec)

/-- 'robuststatslaw26.SimplicialContains', WHERE WHAT IT READS IS OF BULK AT MOST 1048576: true; the input reads as it did. -/
def simplicialContainsUptoRow : OpenClaim := { program := "ytoibhmjjhgaimaagreat", sum := "4dcc368c391da43c87c3a36d7ab627480ded470418dad6bc02eb863bbfd19441", func := "robuststats/robuststatslaw26.SimplicialContains", spec := "simplicialContains", unfollowed := true, recurses := true, named := ["math/bits.overflowError"], apart := false, narrowed := true }
def SimplicialContainsUptoSaid : Prop := simplicialContainsUptoRow.holds Tryz.pinned (OpenSpec.upto simplicialContainsSpec)

/-- 'robuststatslaw34.InfluenceBounded', WHERE WHAT IT READS IS OF BULK AT MOST 1048576: true; the input reads as it did. -/
def influenceBoundedUptoRow : OpenClaim := { program := "ytoibhmjjhgaimaagreat", sum := "4dcc368c391da43c87c3a36d7ab627480ded470418dad6bc02eb863bbfd19441", func := "robuststats/robuststatslaw34.InfluenceBounded", spec := "influenceBounded", inPlace := ["internal/reflectlite.ValueOf", "internal/reflectlite.Swapper", "(internal/reflectlite.Value).Len"], unfollowed := true, recurses := true, named := ["math/bits.overflowError"], apart := false, narrowed := true }
def InfluenceBoundedUptoSaid : Prop := influenceBoundedUptoRow.holds Tryz.pinned (OpenSpec.upto influenceBoundedSpec)

/-- 'robuststatslaw34.InfluenceJoins', WHERE WHAT IT READS IS OF BULK AT MOST 1048576: true; the input reads as it did. -/
def influenceJoinsUptoRow : OpenClaim := { program := "ytoibhmjjhgaimaagreat", sum := "4dcc368c391da43c87c3a36d7ab627480ded470418dad6bc02eb863bbfd19441", func := "robuststats/robuststatslaw34.InfluenceJoins", spec := "influenceJoins", inPlace := ["internal/reflectlite.ValueOf", "internal/reflectlite.Swapper", "(internal/reflectlite.Value).Len"], unfollowed := true, recurses := true, named := ["math/bits.overflowError"], apart := false, narrowed := true }
def InfluenceJoinsUptoSaid : Prop := influenceJoinsUptoRow.holds Tryz.pinned (OpenSpec.upto influenceJoinsSpec)

/-- 'robuststatslaw26.SimplicialMedians', WHERE WHAT IT READS IS OF BULK AT MOST 1048576: true; the input reads as it did. -/
def simplicialMediansUptoRow : OpenClaim := { program := "ytoibhmjjhgaimaagreat", sum := "4dcc368c391da43c87c3a36d7ab627480ded470418dad6bc02eb863bbfd19441", func := "robuststats/robuststatslaw26.SimplicialMedians", spec := "simplicialMedians", unfollowed := true, recurses := true, named := ["math/bits.overflowError"], apart := false, narrowed := true }
def SimplicialMediansUptoSaid : Prop := simplicialMediansUptoRow.holds Tryz.pinned (OpenSpec.upto simplicialMediansSpec)

/-- 'robuststatslaw26.SimplicialLimits', WHERE WHAT IT READS IS OF BULK AT MOST 1048576: true; the input reads as it did. -/
def simplicialLimitsUptoRow : OpenClaim := { program := "ytoibhmjjhgaimaagreat", sum := "4dcc368c391da43c87c3a36d7ab627480ded470418dad6bc02eb863bbfd19441", func := "robuststats/robuststatslaw26.SimplicialLimits", spec := "simplicialLimits", unfollowed := true, recurses := true, named := ["math/bits.overflowError"], apart := false, narrowed := true }
def SimplicialLimitsUptoSaid : Prop := simplicialLimitsUptoRow.holds Tryz.pinned (OpenSpec.upto simplicialLimitsSpec)

end Rows
end Go.Proofs.YtoibhmjjhgaimaaGreat
