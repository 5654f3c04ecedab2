/-
  No cell of these rows narrows 'for every input' (looked for: loops, veiled, ifaces, maps, wideKeys, modest, calm, conditions, laid).
  DERIVED. THE GIVEN ROWS OF THIS SEAT. 9 by the template 'for every input the law returns true; each argument reads behind the call as it read before'; 0 by the template 'total and deterministic' (their statements: YtgbbpgflopajaaaGreatTotals.lean).
  GIVEN WITH THE SEED: the statements are not yours to turn. If you find one false, say at which input.
  Laid BY PROGRAM, IN A SANDBOX (cutbox-rows.mjs): the forced cells as the released guide's own fill.sh prints them over the translation d5589103042b6a53… (all of the seat's roots in one cut). By AI agents, Wed Nov 11 2026. No macro, syntax, notation, axiom, sorry.
-/
import Derived.Test.YtgbbpgflopajaaaGreatChecked
import GoSem.Claim
import GoSem.ClaimJoined
import GoSem.ClaimMapViews
import Derived.JoinedTies
import Derived.KernelRfl
namespace Go.Proofs.YtgbbpgflopajaaaGreat
/- THE CELL 'sum', in the pinned program and in every row, IS THE sha256 OF THE DUMP (.gsa) THAT YtgbbpgflopajaaaGreatProg.lean LOADS. Nothing in Lean hashes anything: it is a label: what it is worth is what the hold of that sum in a sandbox is worth. -/
noncomputable def Tryz.pinned : Pinned := { name := "ytgbbpgflopajaaagreat", sum := "d5589103042b6a53046ee3f689ec733ea0115b97f32c3167ba719d8c4f340f27", checked := Tryz.checked }
namespace Rows
def none {H : Type} : Left H := { results := [], args := [] }

/-- 'robuststatslaw34.InfluenceBounded': WHATEVER THE INPUT: true; the input reads as it did. -/
def influenceBoundedSpec : ChangeSpec := { name := "influenceBounded", fn := fun _ => fun
  | [d] => { results := [.lit (.bool true)], args := [d] }
  | _ => none }
def influenceBoundedRow : OpenClaim := { program := "ytgbbpgflopajaaagreat", sum := "d5589103042b6a53046ee3f689ec733ea0115b97f32c3167ba719d8c4f340f27", func := "robuststats/robuststatslaw34.InfluenceBounded", spec := "influenceBounded", inPlace := ["internal/reflectlite.ValueOf", "internal/reflectlite.Swapper", "(internal/reflectlite.Value).Len"], unfollowed := true, recurses := true, named := ["math/bits.overflowError"], apart := false }
def InfluenceBoundedSaid : Prop := influenceBoundedRow.holds Tryz.pinned (OpenSpec.ofChange influenceBoundedSpec)

/-- ITS FALSE NEIGHBOUR: 'it returns false'. Refute it at one input. -/
def influenceBoundedWrong : ChangeSpec := { name := "influenceBounded", fn := fun _ => fun
  | [d] => { results := [.lit (.bool false)], args := [d] }
  | _ => none }
def InfluenceBoundedWrongFalsely : Prop := influenceBoundedRow.holds Tryz.pinned (OpenSpec.ofChange influenceBoundedWrong)

/-- 'robuststatslaw34.InfluenceJoins': WHATEVER THE INPUT: true; the input reads as it did. -/
def influenceJoinsSpec : ChangeSpec := { name := "influenceJoins", fn := fun _ => fun
  | [d] => { results := [.lit (.bool true)], args := [d] }
  | _ => none }
def influenceJoinsRow : OpenClaim := { program := "ytgbbpgflopajaaagreat", sum := "d5589103042b6a53046ee3f689ec733ea0115b97f32c3167ba719d8c4f340f27", func := "robuststats/robuststatslaw34.InfluenceJoins", spec := "influenceJoins", inPlace := ["internal/reflectlite.ValueOf", "internal/reflectlite.Swapper", "(internal/reflectlite.Value).Len"], unfollowed := true, recurses := true, named := ["math/bits.overflowError"], apart := false }
def InfluenceJoinsSaid : Prop := influenceJoinsRow.holds Tryz.pinned (OpenSpec.ofChange influenceJoinsSpec)

/-- ITS FALSE NEIGHBOUR: 'it returns false'. Refute it at one input. -/
def influenceJoinsWrong : ChangeSpec := { name := "influenceJoins", fn := fun _ => fun
  | [d] => { results := [.lit (.bool false)], args := [d] }
  | _ => none }
def InfluenceJoinsWrongFalsely : Prop := influenceJoinsRow.holds Tryz.pinned (OpenSpec.ofChange influenceJoinsWrong)

/-- 'robuststatslaw34.InfluenceValues': WHATEVER THE INPUT: true; the input reads as it did. -/
def influenceValuesSpec : ChangeSpec := { name := "influenceValues", fn := fun _ => fun
  | [d1, d2, d3] => { results := [.lit (.bool true)], args := [d1, d2, d3] }
  | _ => none }
def influenceValuesRow : OpenClaim := { program := "ytgbbpgflopajaaagreat", sum := "d5589103042b6a53046ee3f689ec733ea0115b97f32c3167ba719d8c4f340f27", func := "robuststats/robuststatslaw34.InfluenceValues", spec := "influenceValues", inPlace := ["internal/reflectlite.ValueOf", "internal/reflectlite.Swapper", "(internal/reflectlite.Value).Len"], unfollowed := true, recurses := true, named := ["math/bits.overflowError"], apart := false }
def InfluenceValuesSaid : Prop := influenceValuesRow.holds Tryz.pinned (OpenSpec.ofChange influenceValuesSpec)

/-- ITS FALSE NEIGHBOUR: 'it returns false'. Refute it at one input. -/
def influenceValuesWrong : ChangeSpec := { name := "influenceValues", fn := fun _ => fun
  | [d1, d2, d3] => { results := [.lit (.bool false)], args := [d1, d2, d3] }
  | _ => none }
def InfluenceValuesWrongFalsely : Prop := influenceValuesRow.holds Tryz.pinned (OpenSpec.ofChange influenceValuesWrong)

/-- 'robuststatslaw42.CertifyFits': WHATEVER THE INPUT: true; the input reads as it did. -/
def certifyFitsSpec : ChangeSpec := { name := "certifyFits", fn := fun _ => fun
  | [d] => { results := [.lit (.bool true)], args := [d] }
  | _ => none }
def certifyFitsRow : OpenClaim := { program := "ytgbbpgflopajaaagreat", sum := "d5589103042b6a53046ee3f689ec733ea0115b97f32c3167ba719d8c4f340f27", func := "robuststats/robuststatslaw42.CertifyFits", spec := "certifyFits", unfollowed := true, recurses := true, named := ["math/bits.overflowError"], apart := false }
def CertifyFitsSaid : Prop := certifyFitsRow.holds Tryz.pinned (OpenSpec.ofChange certifyFitsSpec)

/-- ITS FALSE NEIGHBOUR: 'it returns false'. Refute it at one input. -/
def certifyFitsWrong : ChangeSpec := { name := "certifyFits", fn := fun _ => fun
  | [d] => { results := [.lit (.bool false)], args := [d] }
  | _ => none }
def CertifyFitsWrongFalsely : Prop := certifyFitsRow.holds Tryz.pinned (OpenSpec.ofChange certifyFitsWrong)

/-- 'robuststatslaw38.SelectionPress': WHATEVER THE INPUT: true; the input reads as it did. -/
def selectionPressSpec : ChangeSpec := { name := "selectionPress", fn := fun _ => fun
  | [d] => { results := [.lit (.bool true)], args := [d] }
  | _ => none }
def selectionPressRow : OpenClaim := { program := "ytgbbpgflopajaaagreat", sum := "d5589103042b6a53046ee3f689ec733ea0115b97f32c3167ba719d8c4f340f27", func := "robuststats/robuststatslaw38.SelectionPress", spec := "selectionPress", unfollowed := true, recurses := true, named := ["math/bits.overflowError"], apart := false }
def SelectionPressSaid : Prop := selectionPressRow.holds Tryz.pinned (OpenSpec.ofChange selectionPressSpec)

/-- ITS FALSE NEIGHBOUR: 'it returns false'. Refute it at one input. -/
def selectionPressWrong : ChangeSpec := { name := "selectionPress", fn := fun _ => fun
  | [d] => { results := [.lit (.bool false)], args := [d] }
  | _ => none }
def SelectionPressWrongFalsely : Prop := selectionPressRow.holds Tryz.pinned (OpenSpec.ofChange selectionPressWrong)

/-- 'robuststatslaw42.CertifyProves': WHATEVER THE INPUT: true; the input reads as it did. -/
def certifyProvesSpec : ChangeSpec := { name := "certifyProves", fn := fun _ => fun
  | [d] => { results := [.lit (.bool true)], args := [d] }
  | _ => none }
def certifyProvesRow : OpenClaim := { program := "ytgbbpgflopajaaagreat", sum := "d5589103042b6a53046ee3f689ec733ea0115b97f32c3167ba719d8c4f340f27", func := "robuststats/robuststatslaw42.CertifyProves", spec := "certifyProves", unfollowed := true, recurses := true, named := ["math/bits.overflowError"], apart := false }
def CertifyProvesSaid : Prop := certifyProvesRow.holds Tryz.pinned (OpenSpec.ofChange certifyProvesSpec)

/-- ITS FALSE NEIGHBOUR: 'it returns false'. Refute it at one input. -/
def certifyProvesWrong : ChangeSpec := { name := "certifyProves", fn := fun _ => fun
  | [d] => { results := [.lit (.bool false)], args := [d] }
  | _ => none }
def CertifyProvesWrongFalsely : Prop := certifyProvesRow.holds Tryz.pinned (OpenSpec.ofChange certifyProvesWrong)

/-- 'robuststatslaw42.CertifyLists': WHATEVER THE INPUT: true; the input reads as it did. -/
def certifyListsSpec : ChangeSpec := { name := "certifyLists", fn := fun _ => fun
  | [d] => { results := [.lit (.bool true)], args := [d] }
  | _ => none }
def certifyListsRow : OpenClaim := { program := "ytgbbpgflopajaaagreat", sum := "d5589103042b6a53046ee3f689ec733ea0115b97f32c3167ba719d8c4f340f27", func := "robuststats/robuststatslaw42.CertifyLists", spec := "certifyLists", unfollowed := true, recurses := true, named := ["math/bits.overflowError"], apart := false }
def CertifyListsSaid : Prop := certifyListsRow.holds Tryz.pinned (OpenSpec.ofChange certifyListsSpec)

/-- ITS FALSE NEIGHBOUR: 'it returns false'. Refute it at one input. -/
def certifyListsWrong : ChangeSpec := { name := "certifyLists", fn := fun _ => fun
  | [d] => { results := [.lit (.bool false)], args := [d] }
  | _ => none }
def CertifyListsWrongFalsely : Prop := certifyListsRow.holds Tryz.pinned (OpenSpec.ofChange certifyListsWrong)

/-- 'robuststatslaw34.InfluenceRows': WHATEVER THE INPUT: true; the input reads as it did. -/
def influenceRowsSpec : ChangeSpec := { name := "influenceRows", fn := fun _ => fun
  | [d1, d2, d3] => { results := [.lit (.bool true)], args := [d1, d2, d3] }
  | _ => none }
def influenceRowsRow : OpenClaim := { program := "ytgbbpgflopajaaagreat", sum := "d5589103042b6a53046ee3f689ec733ea0115b97f32c3167ba719d8c4f340f27", func := "robuststats/robuststatslaw34.InfluenceRows", spec := "influenceRows", inPlace := ["internal/reflectlite.ValueOf", "internal/reflectlite.Swapper", "(internal/reflectlite.Value).Len"], unfollowed := true, recurses := true, named := ["math/bits.overflowError"], apart := false }
def InfluenceRowsSaid : Prop := influenceRowsRow.holds Tryz.pinned (OpenSpec.ofChange influenceRowsSpec)

/-- ITS FALSE NEIGHBOUR: 'it returns false'. Refute it at one input. -/
def influenceRowsWrong : ChangeSpec := { name := "influenceRows", fn := fun _ => fun
  | [d1, d2, d3] => { results := [.lit (.bool false)], args := [d1, d2, d3] }
  | _ => none }
def InfluenceRowsWrongFalsely : Prop := influenceRowsRow.holds Tryz.pinned (OpenSpec.ofChange influenceRowsWrong)

/-- 'robuststatslaw34.InfluenceShifts': WHATEVER THE INPUT: true; the input reads as it did. -/
def influenceShiftsSpec : ChangeSpec := { name := "influenceShifts", fn := fun _ => fun
  | [d] => { results := [.lit (.bool true)], args := [d] }
  | _ => none }
def influenceShiftsRow : OpenClaim := { program := "ytgbbpgflopajaaagreat", sum := "d5589103042b6a53046ee3f689ec733ea0115b97f32c3167ba719d8c4f340f27", func := "robuststats/robuststatslaw34.InfluenceShifts", spec := "influenceShifts", inPlace := ["internal/reflectlite.ValueOf", "internal/reflectlite.Swapper", "(internal/reflectlite.Value).Len"], unfollowed := true, recurses := true, named := ["math/bits.overflowError"], apart := false }
def InfluenceShiftsSaid : Prop := influenceShiftsRow.holds Tryz.pinned (OpenSpec.ofChange influenceShiftsSpec)

/-- ITS FALSE NEIGHBOUR: 'it returns false'. Refute it at one input. -/
def influenceShiftsWrong : ChangeSpec := { name := "influenceShifts", fn := fun _ => fun
  | [d] => { results := [.lit (.bool false)], args := [d] }
  | _ => none }
def InfluenceShiftsWrongFalsely : Prop := influenceShiftsRow.holds Tryz.pinned (OpenSpec.ofChange influenceShiftsWrong)

/- THE SECOND FORM. 'bulk': how many values and letters a reading holds, each counted each time it is reached (what is shared counts as often as it is met; a slice's spare places count too). A statement '..UptoSaid' is the law's where the arguments, and the package variables that the reading takes, are together of bulk at most 1048576: NARROWER than '..Said'. Prove '..Said' where nothing that the law and all that it calls make is longer than what came in: it says more and counts as full. Else prove '..UptoSaid'. A law counts once. -/
mutual
def uptoBulk {H : Type} : DataW H → Nat
  | .lit (.string bytes) => bytes.length + 1
  | .lit _ => 1
  | .nil => 1
  | .ptr d => uptoBulk d + 1
  | .slice elems spare => uptoBulkAll elems + uptoBulkAll spare + 1
  | .agg parts => uptoBulkAll parts + 1
  | .iface _ d => uptoBulk d + 1
  | .map entries => uptoBulkEntries entries + 1
  | .held _ => 1
def uptoBulkAll {H : Type} : List (DataW H) → Nat
  | [] => 0
  | d :: r => uptoBulk d + uptoBulkAll r
def uptoBulkEntries {H : Type} : List (Lit × DataW H) → Nat
  | [] => 0
  | x :: r => uptoBulkEntry x + uptoBulkEntries r
def uptoBulkEntry {H : Type} : Lit × DataW H → Nat
  | (.string bytes, d) => bytes.length + uptoBulk d + 1
  | (_, d) => uptoBulk d + 1
 end
def uptoSmall : (H : Type) → List (DataW H) → Bool := fun _ ds => decide (uptoBulkAll ds ≤ 1048576)
def OpenSpec.upto (s : _root_.Go.ChangeSpec) : _root_.Go.OpenSpec := { _root_.Go.OpenSpec.ofChange s with cond := some uptoSmall }

/-- 'robuststatslaw34.InfluenceBounded', WHERE WHAT IT READS IS OF BULK AT MOST 1048576: true; the input reads as it did. -/
def influenceBoundedUptoRow : OpenClaim := { program := "ytgbbpgflopajaaagreat", sum := "d5589103042b6a53046ee3f689ec733ea0115b97f32c3167ba719d8c4f340f27", func := "robuststats/robuststatslaw34.InfluenceBounded", spec := "influenceBounded", inPlace := ["internal/reflectlite.ValueOf", "internal/reflectlite.Swapper", "(internal/reflectlite.Value).Len"], unfollowed := true, recurses := true, named := ["math/bits.overflowError"], apart := false, narrowed := true }
def InfluenceBoundedUptoSaid : Prop := influenceBoundedUptoRow.holds Tryz.pinned (OpenSpec.upto influenceBoundedSpec)

/-- 'robuststatslaw34.InfluenceJoins', WHERE WHAT IT READS IS OF BULK AT MOST 1048576: true; the input reads as it did. -/
def influenceJoinsUptoRow : OpenClaim := { program := "ytgbbpgflopajaaagreat", sum := "d5589103042b6a53046ee3f689ec733ea0115b97f32c3167ba719d8c4f340f27", func := "robuststats/robuststatslaw34.InfluenceJoins", spec := "influenceJoins", inPlace := ["internal/reflectlite.ValueOf", "internal/reflectlite.Swapper", "(internal/reflectlite.Value).Len"], unfollowed := true, recurses := true, named := ["math/bits.overflowError"], apart := false, narrowed := true }
def InfluenceJoinsUptoSaid : Prop := influenceJoinsUptoRow.holds Tryz.pinned (OpenSpec.upto influenceJoinsSpec)

/-- 'robuststatslaw34.InfluenceValues', WHERE WHAT IT READS IS OF BULK AT MOST 1048576: true; the input reads as it did. -/
def influenceValuesUptoRow : OpenClaim := { program := "ytgbbpgflopajaaagreat", sum := "d5589103042b6a53046ee3f689ec733ea0115b97f32c3167ba719d8c4f340f27", func := "robuststats/robuststatslaw34.InfluenceValues", spec := "influenceValues", inPlace := ["internal/reflectlite.ValueOf", "internal/reflectlite.Swapper", "(internal/reflectlite.Value).Len"], unfollowed := true, recurses := true, named := ["math/bits.overflowError"], apart := false, narrowed := true }
def InfluenceValuesUptoSaid : Prop := influenceValuesUptoRow.holds Tryz.pinned (OpenSpec.upto influenceValuesSpec)

/-- 'robuststatslaw42.CertifyFits', WHERE WHAT IT READS IS OF BULK AT MOST 1048576: true; the input reads as it did. -/
def certifyFitsUptoRow : OpenClaim := { program := "ytgbbpgflopajaaagreat", sum := "d5589103042b6a53046ee3f689ec733ea0115b97f32c3167ba719d8c4f340f27", func := "robuststats/robuststatslaw42.CertifyFits", spec := "certifyFits", unfollowed := true, recurses := true, named := ["math/bits.overflowError"], apart := false, narrowed := true }
def CertifyFitsUptoSaid : Prop := certifyFitsUptoRow.holds Tryz.pinned (OpenSpec.upto certifyFitsSpec)

/-- 'robuststatslaw38.SelectionPress', WHERE WHAT IT READS IS OF BULK AT MOST 1048576: true; the input reads as it did. -/
def selectionPressUptoRow : OpenClaim := { program := "ytgbbpgflopajaaagreat", sum := "d5589103042b6a53046ee3f689ec733ea0115b97f32c3167ba719d8c4f340f27", func := "robuststats/robuststatslaw38.SelectionPress", spec := "selectionPress", unfollowed := true, recurses := true, named := ["math/bits.overflowError"], apart := false, narrowed := true }
def SelectionPressUptoSaid : Prop := selectionPressUptoRow.holds Tryz.pinned (OpenSpec.upto selectionPressSpec)

/-- 'robuststatslaw42.CertifyProves', WHERE WHAT IT READS IS OF BULK AT MOST 1048576: true; the input reads as it did. -/
def certifyProvesUptoRow : OpenClaim := { program := "ytgbbpgflopajaaagreat", sum := "d5589103042b6a53046ee3f689ec733ea0115b97f32c3167ba719d8c4f340f27", func := "robuststats/robuststatslaw42.CertifyProves", spec := "certifyProves", unfollowed := true, recurses := true, named := ["math/bits.overflowError"], apart := false, narrowed := true }
def CertifyProvesUptoSaid : Prop := certifyProvesUptoRow.holds Tryz.pinned (OpenSpec.upto certifyProvesSpec)

/-- 'robuststatslaw42.CertifyLists', WHERE WHAT IT READS IS OF BULK AT MOST 1048576: true; the input reads as it did. -/
def certifyListsUptoRow : OpenClaim := { program := "ytgbbpgflopajaaagreat", sum := "d5589103042b6a53046ee3f689ec733ea0115b97f32c3167ba719d8c4f340f27", func := "robuststats/robuststatslaw42.CertifyLists", spec := "certifyLists", unfollowed := true, recurses := true, named := ["math/bits.overflowError"], apart := false, narrowed := true }
def CertifyListsUptoSaid : Prop := certifyListsUptoRow.holds Tryz.pinned (OpenSpec.upto certifyListsSpec)

/-- 'robuststatslaw34.InfluenceRows', WHERE WHAT IT READS IS OF BULK AT MOST 1048576: true; the input reads as it did. -/
def influenceRowsUptoRow : OpenClaim := { program := "ytgbbpgflopajaaagreat", sum := "d5589103042b6a53046ee3f689ec733ea0115b97f32c3167ba719d8c4f340f27", func := "robuststats/robuststatslaw34.InfluenceRows", spec := "influenceRows", inPlace := ["internal/reflectlite.ValueOf", "internal/reflectlite.Swapper", "(internal/reflectlite.Value).Len"], unfollowed := true, recurses := true, named := ["math/bits.overflowError"], apart := false, narrowed := true }
def InfluenceRowsUptoSaid : Prop := influenceRowsUptoRow.holds Tryz.pinned (OpenSpec.upto influenceRowsSpec)

/-- 'robuststatslaw34.InfluenceShifts', WHERE WHAT IT READS IS OF BULK AT MOST 1048576: true; the input reads as it did. -/
def influenceShiftsUptoRow : OpenClaim := { program := "ytgbbpgflopajaaagreat", sum := "d5589103042b6a53046ee3f689ec733ea0115b97f32c3167ba719d8c4f340f27", func := "robuststats/robuststatslaw34.InfluenceShifts", spec := "influenceShifts", inPlace := ["internal/reflectlite.ValueOf", "internal/reflectlite.Swapper", "(internal/reflectlite.Value).Len"], unfollowed := true, recurses := true, named := ["math/bits.overflowError"], apart := false, narrowed := true }
def InfluenceShiftsUptoSaid : Prop := influenceShiftsUptoRow.holds Tryz.pinned (OpenSpec.upto influenceShiftsSpec)

end Rows
end Go.Proofs.YtgbbpgflopajaaaGreat
