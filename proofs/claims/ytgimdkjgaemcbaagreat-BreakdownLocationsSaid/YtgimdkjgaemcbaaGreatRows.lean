/-
  No cell of these rows narrows 'for every input' (looked for: loops, veiled, ifaces, maps, wideKeys, modest, calm, conditions, laid).
  DERIVED. THE GIVEN ROWS OF THIS SEAT. 11 by the template 'for every input the law returns true; each argument reads behind the call as it read before'; 0 by the template 'total and deterministic' (their statements: YtgimdkjgaemcbaaGreatTotals.lean).
  GIVEN WITH THE SEED: the statements are not yours to turn. If you find one false, say at which input.
  Laid BY PROGRAM, IN A SANDBOX (cutbox-rows.mjs): the forced cells as the released guide's own fill.sh prints them over the translation fce9185ef80fb50b… (all of the seat's roots in one cut). By AI agents, Wed Nov 11 2026. No macro, syntax, notation, axiom, sorry.
-/
import Derived.Test.YtgimdkjgaemcbaaGreatChecked
import GoSem.Claim
import GoSem.ClaimJoined
import GoSem.ClaimMapViews
import Derived.JoinedTies
import Derived.KernelRfl
namespace Go.Proofs.YtgimdkjgaemcbaaGreat
/- THE CELL 'sum', in the pinned program and in every row, IS THE sha256 OF THE DUMP (.gsa) THAT YtgimdkjgaemcbaaGreatProg.lean LOADS. Nothing in Lean hashes anything: it is a label: what it is worth is what the hold of that sum in a sandbox is worth. -/
noncomputable def Tryz.pinned : Pinned := { name := "ytgimdkjgaemcbaagreat", sum := "fce9185ef80fb50bdc205f6b56e10999bdecb7e5c3adf6e538814c6b1336a98f", checked := Tryz.checked }
namespace Rows
def none {H : Type} : Left H := { results := [], args := [] }

/-- 'robuststatslaw34.InfluenceBounded': WHATEVER THE INPUT: true; the input reads as it did. -/
def influenceBoundedSpec : ChangeSpec := { name := "influenceBounded", fn := fun _ => fun
  | [d] => { results := [.lit (.bool true)], args := [d] }
  | _ => none }
def influenceBoundedRow : OpenClaim := { program := "ytgimdkjgaemcbaagreat", sum := "fce9185ef80fb50bdc205f6b56e10999bdecb7e5c3adf6e538814c6b1336a98f", func := "robuststats/robuststatslaw34.InfluenceBounded", spec := "influenceBounded", inPlace := ["internal/reflectlite.ValueOf", "internal/reflectlite.Swapper", "(internal/reflectlite.Value).Len"], unfollowed := true, recurses := true, named := ["math/bits.overflowError"], apart := false }
def InfluenceBoundedSaid : Prop := influenceBoundedRow.holds Tryz.pinned (OpenSpec.ofChange influenceBoundedSpec)

/-- ITS FALSE NEIGHBOUR: 'it returns false'. Refute it at one input. -/
def influenceBoundedWrong : ChangeSpec := { name := "influenceBounded", fn := fun _ => fun
  | [d] => { results := [.lit (.bool false)], args := [d] }
  | _ => none }
def InfluenceBoundedWrongFalsely : Prop := influenceBoundedRow.holds Tryz.pinned (OpenSpec.ofChange influenceBoundedWrong)

/-- 'robuststatslaw34.InfluenceJoins': WHATEVER THE INPUT: true; the input reads as it did. -/
def influenceJoinsSpec : ChangeSpec := { name := "influenceJoins", fn := fun _ => fun
  | [d] => { results := [.lit (.bool true)], args := [d] }
  | _ => none }
def influenceJoinsRow : OpenClaim := { program := "ytgimdkjgaemcbaagreat", sum := "fce9185ef80fb50bdc205f6b56e10999bdecb7e5c3adf6e538814c6b1336a98f", func := "robuststats/robuststatslaw34.InfluenceJoins", spec := "influenceJoins", inPlace := ["internal/reflectlite.ValueOf", "internal/reflectlite.Swapper", "(internal/reflectlite.Value).Len"], unfollowed := true, recurses := true, named := ["math/bits.overflowError"], apart := false }
def InfluenceJoinsSaid : Prop := influenceJoinsRow.holds Tryz.pinned (OpenSpec.ofChange influenceJoinsSpec)

/-- ITS FALSE NEIGHBOUR: 'it returns false'. Refute it at one input. -/
def influenceJoinsWrong : ChangeSpec := { name := "influenceJoins", fn := fun _ => fun
  | [d] => { results := [.lit (.bool false)], args := [d] }
  | _ => none }
def InfluenceJoinsWrongFalsely : Prop := influenceJoinsRow.holds Tryz.pinned (OpenSpec.ofChange influenceJoinsWrong)

/-- 'robuststatslaw34.InfluenceValues': WHATEVER THE INPUT: true; the input reads as it did. -/
def influenceValuesSpec : ChangeSpec := { name := "influenceValues", fn := fun _ => fun
  | [d1, d2, d3] => { results := [.lit (.bool true)], args := [d1, d2, d3] }
  | _ => none }
def influenceValuesRow : OpenClaim := { program := "ytgimdkjgaemcbaagreat", sum := "fce9185ef80fb50bdc205f6b56e10999bdecb7e5c3adf6e538814c6b1336a98f", func := "robuststats/robuststatslaw34.InfluenceValues", spec := "influenceValues", inPlace := ["internal/reflectlite.ValueOf", "internal/reflectlite.Swapper", "(internal/reflectlite.Value).Len"], unfollowed := true, recurses := true, named := ["math/bits.overflowError"], apart := false }
def InfluenceValuesSaid : Prop := influenceValuesRow.holds Tryz.pinned (OpenSpec.ofChange influenceValuesSpec)

/-- ITS FALSE NEIGHBOUR: 'it returns false'. Refute it at one input. -/
def influenceValuesWrong : ChangeSpec := { name := "influenceValues", fn := fun _ => fun
  | [d1, d2, d3] => { results := [.lit (.bool false)], args := [d1, d2, d3] }
  | _ => none }
def InfluenceValuesWrongFalsely : Prop := influenceValuesRow.holds Tryz.pinned (OpenSpec.ofChange influenceValuesWrong)

/-- 'robuststatslaw35.BreakdownLocations': WHATEVER THE INPUT: true; the input reads as it did. -/
def breakdownLocationsSpec : ChangeSpec := { name := "breakdownLocations", fn := fun _ => fun
  | [d1, d2, d3] => { results := [.lit (.bool true)], args := [d1, d2, d3] }
  | _ => none }
def breakdownLocationsRow : OpenClaim := { program := "ytgimdkjgaemcbaagreat", sum := "fce9185ef80fb50bdc205f6b56e10999bdecb7e5c3adf6e538814c6b1336a98f", func := "robuststats/robuststatslaw35.BreakdownLocations", spec := "breakdownLocations", inPlace := ["internal/reflectlite.ValueOf", "internal/reflectlite.Swapper", "(internal/reflectlite.Value).Len"], unfollowed := true, recurses := true, named := ["math/bits.overflowError"], apart := false }
def BreakdownLocationsSaid : Prop := breakdownLocationsRow.holds Tryz.pinned (OpenSpec.ofChange breakdownLocationsSpec)

/-- ITS FALSE NEIGHBOUR: 'it returns false'. Refute it at one input. -/
def breakdownLocationsWrong : ChangeSpec := { name := "breakdownLocations", fn := fun _ => fun
  | [d1, d2, d3] => { results := [.lit (.bool false)], args := [d1, d2, d3] }
  | _ => none }
def BreakdownLocationsWrongFalsely : Prop := breakdownLocationsRow.holds Tryz.pinned (OpenSpec.ofChange breakdownLocationsWrong)

/-- 'robuststatslaw35.BreakdownShares': WHATEVER THE INPUT: true; the input reads as it did. -/
def breakdownSharesSpec : ChangeSpec := { name := "breakdownShares", fn := fun _ => fun
  | [d1, d2, d3] => { results := [.lit (.bool true)], args := [d1, d2, d3] }
  | _ => none }
def breakdownSharesRow : OpenClaim := { program := "ytgimdkjgaemcbaagreat", sum := "fce9185ef80fb50bdc205f6b56e10999bdecb7e5c3adf6e538814c6b1336a98f", func := "robuststats/robuststatslaw35.BreakdownShares", spec := "breakdownShares", inPlace := ["internal/reflectlite.ValueOf", "internal/reflectlite.Swapper", "(internal/reflectlite.Value).Len"], unfollowed := true, recurses := true, named := ["math/bits.overflowError"], apart := false }
def BreakdownSharesSaid : Prop := breakdownSharesRow.holds Tryz.pinned (OpenSpec.ofChange breakdownSharesSpec)

/-- ITS FALSE NEIGHBOUR: 'it returns false'. Refute it at one input. -/
def breakdownSharesWrong : ChangeSpec := { name := "breakdownShares", fn := fun _ => fun
  | [d1, d2, d3] => { results := [.lit (.bool false)], args := [d1, d2, d3] }
  | _ => none }
def BreakdownSharesWrongFalsely : Prop := breakdownSharesRow.holds Tryz.pinned (OpenSpec.ofChange breakdownSharesWrong)

/-- 'robuststatslaw35.BreakdownGreatest': WHATEVER THE INPUT: true; the input reads as it did. -/
def breakdownGreatestSpec : ChangeSpec := { name := "breakdownGreatest", fn := fun _ => fun
  | [d] => { results := [.lit (.bool true)], args := [d] }
  | _ => none }
def breakdownGreatestRow : OpenClaim := { program := "ytgimdkjgaemcbaagreat", sum := "fce9185ef80fb50bdc205f6b56e10999bdecb7e5c3adf6e538814c6b1336a98f", func := "robuststats/robuststatslaw35.BreakdownGreatest", spec := "breakdownGreatest", inPlace := ["internal/reflectlite.ValueOf", "internal/reflectlite.Swapper", "(internal/reflectlite.Value).Len"], unfollowed := true, recurses := true, named := ["math/bits.overflowError"], apart := false }
def BreakdownGreatestSaid : Prop := breakdownGreatestRow.holds Tryz.pinned (OpenSpec.ofChange breakdownGreatestSpec)

/-- ITS FALSE NEIGHBOUR: 'it returns false'. Refute it at one input. -/
def breakdownGreatestWrong : ChangeSpec := { name := "breakdownGreatest", fn := fun _ => fun
  | [d] => { results := [.lit (.bool false)], args := [d] }
  | _ => none }
def BreakdownGreatestWrongFalsely : Prop := breakdownGreatestRow.holds Tryz.pinned (OpenSpec.ofChange breakdownGreatestWrong)

/-- 'robuststatslaw35.BreakdownFlat': WHATEVER THE INPUT: true; the input reads as it did. -/
def breakdownFlatSpec : ChangeSpec := { name := "breakdownFlat", fn := fun _ => fun
  | [d] => { results := [.lit (.bool true)], args := [d] }
  | _ => none }
def breakdownFlatRow : OpenClaim := { program := "ytgimdkjgaemcbaagreat", sum := "fce9185ef80fb50bdc205f6b56e10999bdecb7e5c3adf6e538814c6b1336a98f", func := "robuststats/robuststatslaw35.BreakdownFlat", spec := "breakdownFlat", inPlace := ["internal/reflectlite.ValueOf", "internal/reflectlite.Swapper", "(internal/reflectlite.Value).Len"], unfollowed := true, recurses := true, named := ["math/bits.overflowError"], apart := false }
def BreakdownFlatSaid : Prop := breakdownFlatRow.holds Tryz.pinned (OpenSpec.ofChange breakdownFlatSpec)

/-- ITS FALSE NEIGHBOUR: 'it returns false'. Refute it at one input. -/
def breakdownFlatWrong : ChangeSpec := { name := "breakdownFlat", fn := fun _ => fun
  | [d] => { results := [.lit (.bool false)], args := [d] }
  | _ => none }
def BreakdownFlatWrongFalsely : Prop := breakdownFlatRow.holds Tryz.pinned (OpenSpec.ofChange breakdownFlatWrong)

/-- 'robuststatslaw35.BreakdownCarries': WHATEVER THE INPUT: true; the input reads as it did. -/
def breakdownCarriesSpec : ChangeSpec := { name := "breakdownCarries", fn := fun _ => fun
  | [d] => { results := [.lit (.bool true)], args := [d] }
  | _ => none }
def breakdownCarriesRow : OpenClaim := { program := "ytgimdkjgaemcbaagreat", sum := "fce9185ef80fb50bdc205f6b56e10999bdecb7e5c3adf6e538814c6b1336a98f", func := "robuststats/robuststatslaw35.BreakdownCarries", spec := "breakdownCarries", inPlace := ["internal/reflectlite.ValueOf", "internal/reflectlite.Swapper", "(internal/reflectlite.Value).Len"], unfollowed := true, recurses := true, named := ["math/bits.overflowError"], apart := false }
def BreakdownCarriesSaid : Prop := breakdownCarriesRow.holds Tryz.pinned (OpenSpec.ofChange breakdownCarriesSpec)

/-- ITS FALSE NEIGHBOUR: 'it returns false'. Refute it at one input. -/
def breakdownCarriesWrong : ChangeSpec := { name := "breakdownCarries", fn := fun _ => fun
  | [d] => { results := [.lit (.bool false)], args := [d] }
  | _ => none }
def BreakdownCarriesWrongFalsely : Prop := breakdownCarriesRow.holds Tryz.pinned (OpenSpec.ofChange breakdownCarriesWrong)

/-- 'robuststatslaw35.BreakdownPlanes': WHATEVER THE INPUT: true; the input reads as it did. -/
def breakdownPlanesSpec : ChangeSpec := { name := "breakdownPlanes", fn := fun _ => fun
  | [d1, d2, d3] => { results := [.lit (.bool true)], args := [d1, d2, d3] }
  | _ => none }
def breakdownPlanesRow : OpenClaim := { program := "ytgimdkjgaemcbaagreat", sum := "fce9185ef80fb50bdc205f6b56e10999bdecb7e5c3adf6e538814c6b1336a98f", func := "robuststats/robuststatslaw35.BreakdownPlanes", spec := "breakdownPlanes", inPlace := ["internal/reflectlite.ValueOf", "internal/reflectlite.Swapper", "(internal/reflectlite.Value).Len"], unfollowed := true, recurses := true, named := ["math/bits.overflowError"], apart := false }
def BreakdownPlanesSaid : Prop := breakdownPlanesRow.holds Tryz.pinned (OpenSpec.ofChange breakdownPlanesSpec)

/-- ITS FALSE NEIGHBOUR: 'it returns false'. Refute it at one input. -/
def breakdownPlanesWrong : ChangeSpec := { name := "breakdownPlanes", fn := fun _ => fun
  | [d1, d2, d3] => { results := [.lit (.bool false)], args := [d1, d2, d3] }
  | _ => none }
def BreakdownPlanesWrongFalsely : Prop := breakdownPlanesRow.holds Tryz.pinned (OpenSpec.ofChange breakdownPlanesWrong)

/-- 'robuststatslaw34.InfluenceRows': WHATEVER THE INPUT: true; the input reads as it did. -/
def influenceRowsSpec : ChangeSpec := { name := "influenceRows", fn := fun _ => fun
  | [d1, d2, d3] => { results := [.lit (.bool true)], args := [d1, d2, d3] }
  | _ => none }
def influenceRowsRow : OpenClaim := { program := "ytgimdkjgaemcbaagreat", sum := "fce9185ef80fb50bdc205f6b56e10999bdecb7e5c3adf6e538814c6b1336a98f", func := "robuststats/robuststatslaw34.InfluenceRows", spec := "influenceRows", inPlace := ["internal/reflectlite.ValueOf", "internal/reflectlite.Swapper", "(internal/reflectlite.Value).Len"], unfollowed := true, recurses := true, named := ["math/bits.overflowError"], apart := false }
def InfluenceRowsSaid : Prop := influenceRowsRow.holds Tryz.pinned (OpenSpec.ofChange influenceRowsSpec)

/-- ITS FALSE NEIGHBOUR: 'it returns false'. Refute it at one input. -/
def influenceRowsWrong : ChangeSpec := { name := "influenceRows", fn := fun _ => fun
  | [d1, d2, d3] => { results := [.lit (.bool false)], args := [d1, d2, d3] }
  | _ => none }
def InfluenceRowsWrongFalsely : Prop := influenceRowsRow.holds Tryz.pinned (OpenSpec.ofChange influenceRowsWrong)

/-- 'robuststatslaw34.InfluenceShifts': WHATEVER THE INPUT: true; the input reads as it did. -/
def influenceShiftsSpec : ChangeSpec := { name := "influenceShifts", fn := fun _ => fun
  | [d] => { results := [.lit (.bool true)], args := [d] }
  | _ => none }
def influenceShiftsRow : OpenClaim := { program := "ytgimdkjgaemcbaagreat", sum := "fce9185ef80fb50bdc205f6b56e10999bdecb7e5c3adf6e538814c6b1336a98f", func := "robuststats/robuststatslaw34.InfluenceShifts", spec := "influenceShifts", inPlace := ["internal/reflectlite.ValueOf", "internal/reflectlite.Swapper", "(internal/reflectlite.Value).Len"], unfollowed := true, recurses := true, named := ["math/bits.overflowError"], apart := false }
def InfluenceShiftsSaid : Prop := influenceShiftsRow.holds Tryz.pinned (OpenSpec.ofChange influenceShiftsSpec)

/-- ITS FALSE NEIGHBOUR: 'it returns false'. Refute it at one input. -/
def influenceShiftsWrong : ChangeSpec := { name := "influenceShifts", fn := fun _ => fun
  | [d] => { results := [.lit (.bool false)], args := [d] }
  | _ => none }
def InfluenceShiftsWrongFalsely : Prop := influenceShiftsRow.holds Tryz.pinned (OpenSpec.ofChange influenceShiftsWrong)

/- THE SECOND FORM. 'bulk': how many values and letters a reading holds, each counted each time it is reached (what is shared counts as often as it is met; a slice's spare places count too). A statement '..UptoSaid' is the law's where the arguments, and the package variables that the reading takes, are together of bulk at most 1048576: NARROWER than '..Said'. Prove '..Said' where nothing that the law and all that it calls make is longer than what came in: it says more and counts as full. Else prove '..UptoSaid'. A law counts once. -/
mutual
def uptoBulk {H : Type} : DataW H → Nat
  | .lit (.string bytes) => bytes.length + 1
  | .lit _ => 1
  | .nil => 1
  | .ptr d => uptoBulk d + 1
  | .slice elems spare => uptoBulkAll elems + uptoBulkAll spare + 1
  | .agg parts => uptoBulkAll parts + 1
  | .iface _ d => uptoBulk d + 1
  | .map entries => uptoBulkEntries entries + 1
  | .held _ => 1
def uptoBulkAll {H : Type} : List (DataW H) → Nat
  | [] => 0
  | d :: r => uptoBulk d + uptoBulkAll r
def uptoBulkEntries {H : Type} : List (Lit × DataW H) → Nat
  | [] => 0
  | x :: r => uptoBulkEntry x + uptoBulkEntries r
def uptoBulkEntry {H : Type} : Lit × DataW H → Nat
  | (.string bytes, d) => bytes.length + uptoBulk d + 1
  | (_, d) => uptoBulk d + 1
 end
def uptoSmall : (H : Type) → List (DataW H) → Bool := fun _ ds => decide (uptoBulkAll ds ≤ 1048576)
def OpenSpec.upto (s : _root_.Go.ChangeSpec) : _root_.Go.OpenSpec := { _root_.Go.OpenSpec.ofChange s with cond := some uptoSmall }

/-- 'robuststatslaw34.InfluenceBounded', WHERE WHAT IT READS IS OF BULK AT MOST 1048576: true; the input reads as it did. -/
def influenceBoundedUptoRow : OpenClaim := { program := "ytgimdkjgaemcbaagreat", sum := "fce9185ef80fb50bdc205f6b56e10999bdecb7e5c3adf6e538814c6b1336a98f", func := "robuststats/robuststatslaw34.InfluenceBounded", spec := "influenceBounded", inPlace := ["internal/reflectlite.ValueOf", "internal/reflectlite.Swapper", "(internal/reflectlite.Value).Len"], unfollowed := true, recurses := true, named := ["math/bits.overflowError"], apart := false, narrowed := true }
def InfluenceBoundedUptoSaid : Prop := influenceBoundedUptoRow.holds Tryz.pinned (OpenSpec.upto influenceBoundedSpec)

/-- 'robuststatslaw34.InfluenceJoins', WHERE WHAT IT READS IS OF BULK AT MOST 1048576: true; the input reads as it did. -/
def influenceJoinsUptoRow : OpenClaim := { program := "ytgimdkjgaemcbaagreat", sum := "fce9185ef80fb50bdc205f6b56e10999bdecb7e5c3adf6e538814c6b1336a98f", func := "robuststats/robuststatslaw34.InfluenceJoins", spec := "influenceJoins", inPlace := ["internal/reflectlite.ValueOf", "internal/reflectlite.Swapper", "(internal/reflectlite.Value).Len"], unfollowed := true, recurses := true, named := ["math/bits.overflowError"], apart := false, narrowed := true }
def InfluenceJoinsUptoSaid : Prop := influenceJoinsUptoRow.holds Tryz.pinned (OpenSpec.upto influenceJoinsSpec)

/-- 'robuststatslaw34.InfluenceValues', WHERE WHAT IT READS IS OF BULK AT MOST 1048576: true; the input reads as it did. -/
def influenceValuesUptoRow : OpenClaim := { program := "ytgimdkjgaemcbaagreat", sum := "fce9185ef80fb50bdc205f6b56e10999bdecb7e5c3adf6e538814c6b1336a98f", func := "robuststats/robuststatslaw34.InfluenceValues", spec := "influenceValues", inPlace := ["internal/reflectlite.ValueOf", "internal/reflectlite.Swapper", "(internal/reflectlite.Value).Len"], unfollowed := true, recurses := true, named := ["math/bits.overflowError"], apart := false, narrowed := true }
def InfluenceValuesUptoSaid : Prop := influenceValuesUptoRow.holds Tryz.pinned (OpenSpec.upto influenceValuesSpec)

/-- 'robuststatslaw35.BreakdownLocations', WHERE WHAT IT READS IS OF BULK AT MOST 1048576: true; the input reads as it did. -/
def breakdownLocationsUptoRow : OpenClaim := { program := "ytgimdkjgaemcbaagreat", sum := "fce9185ef80fb50bdc205f6b56e10999bdecb7e5c3adf6e538814c6b1336a98f", func := "robuststats/robuststatslaw35.BreakdownLocations", spec := "breakdownLocations", inPlace := ["internal/reflectlite.ValueOf", "internal/reflectlite.Swapper", "(internal/reflectlite.Value).Len"], unfollowed := true, recurses := true, named := ["math/bits.overflowError"], apart := false, narrowed := true }
def BreakdownLocationsUptoSaid : Prop := breakdownLocationsUptoRow.holds Tryz.pinned (OpenSpec.upto breakdownLocationsSpec)

/-- 'robuststatslaw35.BreakdownShares', WHERE WHAT IT READS IS OF BULK AT MOST 1048576: true; the input reads as it did. -/
def breakdownSharesUptoRow : OpenClaim := { program := "ytgimdkjgaemcbaagreat", sum := "fce9185ef80fb50bdc205f6b56e10999bdecb7e5c3adf6e538814c6b1336a98f", func := "robuststats/robuststatslaw35.BreakdownShares", spec := "breakdownShares", inPlace := ["internal/reflectlite.ValueOf", "internal/reflectlite.Swapper", "(internal/reflectlite.Value).Len"], unfollowed := true, recurses := true, named := ["math/bits.overflowError"], apart := false, narrowed := true }
def BreakdownSharesUptoSaid : Prop := breakdownSharesUptoRow.holds Tryz.pinned (OpenSpec.upto breakdownSharesSpec)

/-- 'robuststatslaw35.BreakdownGreatest', WHERE WHAT IT READS IS OF BULK AT MOST 1048576: true; the input reads as it did. -/
def breakdownGreatestUptoRow : OpenClaim := { program := "ytgimdkjgaemcbaagreat", sum := "fce9185ef80fb50bdc205f6b56e10999bdecb7e5c3adf6e538814c6b1336a98f", func := "robuststats/robuststatslaw35.BreakdownGreatest", spec := "breakdownGreatest", inPlace := ["internal/reflectlite.ValueOf", "internal/reflectlite.Swapper", "(internal/reflectlite.Value).Len"], unfollowed := true, recurses := true, named := ["math/bits.overflowError"], apart := false, narrowed := true }
def BreakdownGreatestUptoSaid : Prop := breakdownGreatestUptoRow.holds Tryz.pinned (OpenSpec.upto breakdownGreatestSpec)

/-- 'robuststatslaw35.BreakdownFlat', WHERE WHAT IT READS IS OF BULK AT MOST 1048576: true; the input reads as it did. -/
def breakdownFlatUptoRow : OpenClaim := { program := "ytgimdkjgaemcbaagreat", sum := "fce9185ef80fb50bdc205f6b56e10999bdecb7e5c3adf6e538814c6b1336a98f", func := "robuststats/robuststatslaw35.BreakdownFlat", spec := "breakdownFlat", inPlace := ["internal/reflectlite.ValueOf", "internal/reflectlite.Swapper", "(internal/reflectlite.Value).Len"], unfollowed := true, recurses := true, named := ["math/bits.overflowError"], apart := false, narrowed := true }
def BreakdownFlatUptoSaid : Prop := breakdownFlatUptoRow.holds Tryz.pinned (OpenSpec.upto breakdownFlatSpec)

/-- 'robuststatslaw35.BreakdownCarries', WHERE WHAT IT READS IS OF BULK AT MOST 1048576: true; the input reads as it did. -/
def breakdownCarriesUptoRow : OpenClaim := { program := "ytgimdkjgaemcbaagreat", sum := "fce9185ef80fb50bdc205f6b56e10999bdecb7e5c3adf6e538814c6b1336a98f", func := "robuststats/robuststatslaw35.BreakdownCarries", spec := "breakdownCarries", inPlace := ["internal/reflectlite.ValueOf", "internal/reflectlite.Swapper", "(internal/reflectlite.Value).Len"], unfollowed := true, recurses := true, named := ["math/bits.overflowError"], apart := false, narrowed := true }
def BreakdownCarriesUptoSaid : Prop := breakdownCarriesUptoRow.holds Tryz.pinned (OpenSpec.upto breakdownCarriesSpec)

/-- 'robuststatslaw35.BreakdownPlanes', WHERE WHAT IT READS IS OF BULK AT MOST 1048576: true; the input reads as it did. -/
def breakdownPlanesUptoRow : OpenClaim := { program := "ytgimdkjgaemcbaagreat", sum := "fce9185ef80fb50bdc205f6b56e10999bdecb7e5c3adf6e538814c6b1336a98f", func := "robuststats/robuststatslaw35.BreakdownPlanes", spec := "breakdownPlanes", inPlace := ["internal/reflectlite.ValueOf", "internal/reflectlite.Swapper", "(internal/reflectlite.Value).Len"], unfollowed := true, recurses := true, named := ["math/bits.overflowError"], apart := false, narrowed := true }
def BreakdownPlanesUptoSaid : Prop := breakdownPlanesUptoRow.holds Tryz.pinned (OpenSpec.upto breakdownPlanesSpec)

/-- 'robuststatslaw34.InfluenceRows', WHERE WHAT IT READS IS OF BULK AT MOST 1048576: true; the input reads as it did. -/
def influenceRowsUptoRow : OpenClaim := { program := "ytgimdkjgaemcbaagreat", sum := "fce9185ef80fb50bdc205f6b56e10999bdecb7e5c3adf6e538814c6b1336a98f", func := "robuststats/robuststatslaw34.InfluenceRows", spec := "influenceRows", inPlace := ["internal/reflectlite.ValueOf", "internal/reflectlite.Swapper", "(internal/reflectlite.Value).Len"], unfollowed := true, recurses := true, named := ["math/bits.overflowError"], apart := false, narrowed := true }
def InfluenceRowsUptoSaid : Prop := influenceRowsUptoRow.holds Tryz.pinned (OpenSpec.upto influenceRowsSpec)

/-- 'robuststatslaw34.InfluenceShifts', WHERE WHAT IT READS IS OF BULK AT MOST 1048576: true; the input reads as it did. -/
def influenceShiftsUptoRow : OpenClaim := { program := "ytgimdkjgaemcbaagreat", sum := "fce9185ef80fb50bdc205f6b56e10999bdecb7e5c3adf6e538814c6b1336a98f", func := "robuststats/robuststatslaw34.InfluenceShifts", spec := "influenceShifts", inPlace := ["internal/reflectlite.ValueOf", "internal/reflectlite.Swapper", "(internal/reflectlite.Value).Len"], unfollowed := true, recurses := true, named := ["math/bits.overflowError"], apart := false, narrowed := true }
def InfluenceShiftsUptoSaid : Prop := influenceShiftsUptoRow.holds Tryz.pinned (OpenSpec.upto influenceShiftsSpec)

end Rows
end Go.Proofs.YtgimdkjgaemcbaaGreat
