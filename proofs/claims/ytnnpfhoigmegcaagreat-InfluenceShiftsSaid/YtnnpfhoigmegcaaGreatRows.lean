/-
  No cell of these rows narrows 'for every input' (looked for: loops, veiled, ifaces, maps, wideKeys, modest, calm, conditions, laid).
  DERIVED. THE GIVEN ROWS OF THIS SEAT. 11 by the template 'for every input the law returns true; each argument reads behind the call as it read before'; 0 by the template 'total and deterministic' (their statements: YtnnpfhoigmegcaaGreatTotals.lean).
  GIVEN WITH THE SEED: the statements are not yours to turn. If you find one false, say at which input.
  Laid BY PROGRAM, IN A SANDBOX (cutbox-rows.mjs): the forced cells as the released guide's own fill.sh prints them over the translation 2a168d48dd1f8c68… (all of the seat's roots in one cut). By AI agents, Wed Nov 11 2026. No macro, syntax, notation, axiom, sorry.
-/
import Derived.Test.YtnnpfhoigmegcaaGreatChecked
import GoSem.Claim
import GoSem.ClaimJoined
import GoSem.ClaimMapViews
import Derived.JoinedTies
import Derived.KernelRfl
namespace Go.Proofs.YtnnpfhoigmegcaaGreat
/- THE CELL 'sum', in the pinned program and in every row, IS THE sha256 OF THE DUMP (.gsa) THAT YtnnpfhoigmegcaaGreatProg.lean LOADS. Nothing in Lean hashes anything: it is a label: what it is worth is what the hold of that sum in a sandbox is worth. -/
noncomputable def Tryz.pinned : Pinned := { name := "ytnnpfhoigmegcaagreat", sum := "2a168d48dd1f8c682a0f024f1115c227474a6b99ee09f8639b27dc7e1c208685", checked := Tryz.checked }
namespace Rows
def none {H : Type} : Left H := { results := [], args := [] }

/-- 'robuststatslaw42.CertifyFits': WHATEVER THE INPUT: true; the input reads as it did. -/
def certifyFitsSpec : ChangeSpec := { name := "certifyFits", fn := fun _ => fun
  | [d] => { results := [.lit (.bool true)], args := [d] }
  | _ => none }
def certifyFitsRow : OpenClaim := { program := "ytnnpfhoigmegcaagreat", sum := "2a168d48dd1f8c682a0f024f1115c227474a6b99ee09f8639b27dc7e1c208685", func := "robuststats/robuststatslaw42.CertifyFits", spec := "certifyFits", unfollowed := true, recurses := true, named := ["math/bits.overflowError"], apart := false }
def CertifyFitsSaid : Prop := certifyFitsRow.holds Tryz.pinned (OpenSpec.ofChange certifyFitsSpec)

/-- ITS FALSE NEIGHBOUR: 'it returns false'. Refute it at one input. -/
def certifyFitsWrong : ChangeSpec := { name := "certifyFits", fn := fun _ => fun
  | [d] => { results := [.lit (.bool false)], args := [d] }
  | _ => none }
def CertifyFitsWrongFalsely : Prop := certifyFitsRow.holds Tryz.pinned (OpenSpec.ofChange certifyFitsWrong)

/-- 'robuststatslaw35.BreakdownLocations': WHATEVER THE INPUT: true; the input reads as it did. -/
def breakdownLocationsSpec : ChangeSpec := { name := "breakdownLocations", fn := fun _ => fun
  | [d1, d2, d3] => { results := [.lit (.bool true)], args := [d1, d2, d3] }
  | _ => none }
def breakdownLocationsRow : OpenClaim := { program := "ytnnpfhoigmegcaagreat", sum := "2a168d48dd1f8c682a0f024f1115c227474a6b99ee09f8639b27dc7e1c208685", func := "robuststats/robuststatslaw35.BreakdownLocations", spec := "breakdownLocations", inPlace := ["internal/reflectlite.ValueOf", "internal/reflectlite.Swapper", "(internal/reflectlite.Value).Len"], unfollowed := true, recurses := true, named := ["math/bits.overflowError"], apart := false }
def BreakdownLocationsSaid : Prop := breakdownLocationsRow.holds Tryz.pinned (OpenSpec.ofChange breakdownLocationsSpec)

/-- ITS FALSE NEIGHBOUR: 'it returns false'. Refute it at one input. -/
def breakdownLocationsWrong : ChangeSpec := { name := "breakdownLocations", fn := fun _ => fun
  | [d1, d2, d3] => { results := [.lit (.bool false)], args := [d1, d2, d3] }
  | _ => none }
def BreakdownLocationsWrongFalsely : Prop := breakdownLocationsRow.holds Tryz.pinned (OpenSpec.ofChange breakdownLocationsWrong)

/-- 'robuststatslaw35.BreakdownShares': WHATEVER THE INPUT: true; the input reads as it did. -/
def breakdownSharesSpec : ChangeSpec := { name := "breakdownShares", fn := fun _ => fun
  | [d1, d2, d3] => { results := [.lit (.bool true)], args := [d1, d2, d3] }
  | _ => none }
def breakdownSharesRow : OpenClaim := { program := "ytnnpfhoigmegcaagreat", sum := "2a168d48dd1f8c682a0f024f1115c227474a6b99ee09f8639b27dc7e1c208685", func := "robuststats/robuststatslaw35.BreakdownShares", spec := "breakdownShares", inPlace := ["internal/reflectlite.ValueOf", "internal/reflectlite.Swapper", "(internal/reflectlite.Value).Len"], unfollowed := true, recurses := true, named := ["math/bits.overflowError"], apart := false }
def BreakdownSharesSaid : Prop := breakdownSharesRow.holds Tryz.pinned (OpenSpec.ofChange breakdownSharesSpec)

/-- ITS FALSE NEIGHBOUR: 'it returns false'. Refute it at one input. -/
def breakdownSharesWrong : ChangeSpec := { name := "breakdownShares", fn := fun _ => fun
  | [d1, d2, d3] => { results := [.lit (.bool false)], args := [d1, d2, d3] }
  | _ => none }
def BreakdownSharesWrongFalsely : Prop := breakdownSharesRow.holds Tryz.pinned (OpenSpec.ofChange breakdownSharesWrong)

/-- 'robuststatslaw35.BreakdownGreatest': WHATEVER THE INPUT: true; the input reads as it did. -/
def breakdownGreatestSpec : ChangeSpec := { name := "breakdownGreatest", fn := fun _ => fun
  | [d] => { results := [.lit (.bool true)], args := [d] }
  | _ => none }
def breakdownGreatestRow : OpenClaim := { program := "ytnnpfhoigmegcaagreat", sum := "2a168d48dd1f8c682a0f024f1115c227474a6b99ee09f8639b27dc7e1c208685", func := "robuststats/robuststatslaw35.BreakdownGreatest", spec := "breakdownGreatest", inPlace := ["internal/reflectlite.ValueOf", "internal/reflectlite.Swapper", "(internal/reflectlite.Value).Len"], unfollowed := true, recurses := true, named := ["math/bits.overflowError"], apart := false }
def BreakdownGreatestSaid : Prop := breakdownGreatestRow.holds Tryz.pinned (OpenSpec.ofChange breakdownGreatestSpec)

/-- ITS FALSE NEIGHBOUR: 'it returns false'. Refute it at one input. -/
def breakdownGreatestWrong : ChangeSpec := { name := "breakdownGreatest", fn := fun _ => fun
  | [d] => { results := [.lit (.bool false)], args := [d] }
  | _ => none }
def BreakdownGreatestWrongFalsely : Prop := breakdownGreatestRow.holds Tryz.pinned (OpenSpec.ofChange breakdownGreatestWrong)

/-- 'robuststatslaw35.BreakdownFlat': WHATEVER THE INPUT: true; the input reads as it did. -/
def breakdownFlatSpec : ChangeSpec := { name := "breakdownFlat", fn := fun _ => fun
  | [d] => { results := [.lit (.bool true)], args := [d] }
  | _ => none }
def breakdownFlatRow : OpenClaim := { program := "ytnnpfhoigmegcaagreat", sum := "2a168d48dd1f8c682a0f024f1115c227474a6b99ee09f8639b27dc7e1c208685", func := "robuststats/robuststatslaw35.BreakdownFlat", spec := "breakdownFlat", inPlace := ["internal/reflectlite.ValueOf", "internal/reflectlite.Swapper", "(internal/reflectlite.Value).Len"], unfollowed := true, recurses := true, named := ["math/bits.overflowError"], apart := false }
def BreakdownFlatSaid : Prop := breakdownFlatRow.holds Tryz.pinned (OpenSpec.ofChange breakdownFlatSpec)

/-- ITS FALSE NEIGHBOUR: 'it returns false'. Refute it at one input. -/
def breakdownFlatWrong : ChangeSpec := { name := "breakdownFlat", fn := fun _ => fun
  | [d] => { results := [.lit (.bool false)], args := [d] }
  | _ => none }
def BreakdownFlatWrongFalsely : Prop := breakdownFlatRow.holds Tryz.pinned (OpenSpec.ofChange breakdownFlatWrong)

/-- 'robuststatslaw35.BreakdownCarries': WHATEVER THE INPUT: true; the input reads as it did. -/
def breakdownCarriesSpec : ChangeSpec := { name := "breakdownCarries", fn := fun _ => fun
  | [d] => { results := [.lit (.bool true)], args := [d] }
  | _ => none }
def breakdownCarriesRow : OpenClaim := { program := "ytnnpfhoigmegcaagreat", sum := "2a168d48dd1f8c682a0f024f1115c227474a6b99ee09f8639b27dc7e1c208685", func := "robuststats/robuststatslaw35.BreakdownCarries", spec := "breakdownCarries", inPlace := ["internal/reflectlite.ValueOf", "internal/reflectlite.Swapper", "(internal/reflectlite.Value).Len"], unfollowed := true, recurses := true, named := ["math/bits.overflowError"], apart := false }
def BreakdownCarriesSaid : Prop := breakdownCarriesRow.holds Tryz.pinned (OpenSpec.ofChange breakdownCarriesSpec)

/-- ITS FALSE NEIGHBOUR: 'it returns false'. Refute it at one input. -/
def breakdownCarriesWrong : ChangeSpec := { name := "breakdownCarries", fn := fun _ => fun
  | [d] => { results := [.lit (.bool false)], args := [d] }
  | _ => none }
def BreakdownCarriesWrongFalsely : Prop := breakdownCarriesRow.holds Tryz.pinned (OpenSpec.ofChange breakdownCarriesWrong)

/-- 'robuststatslaw35.BreakdownPlanes': WHATEVER THE INPUT: true; the input reads as it did. -/
def breakdownPlanesSpec : ChangeSpec := { name := "breakdownPlanes", fn := fun _ => fun
  | [d1, d2, d3] => { results := [.lit (.bool true)], args := [d1, d2, d3] }
  | _ => none }
def breakdownPlanesRow : OpenClaim := { program := "ytnnpfhoigmegcaagreat", sum := "2a168d48dd1f8c682a0f024f1115c227474a6b99ee09f8639b27dc7e1c208685", func := "robuststats/robuststatslaw35.BreakdownPlanes", spec := "breakdownPlanes", inPlace := ["internal/reflectlite.ValueOf", "internal/reflectlite.Swapper", "(internal/reflectlite.Value).Len"], unfollowed := true, recurses := true, named := ["math/bits.overflowError"], apart := false }
def BreakdownPlanesSaid : Prop := breakdownPlanesRow.holds Tryz.pinned (OpenSpec.ofChange breakdownPlanesSpec)

/-- ITS FALSE NEIGHBOUR: 'it returns false'. Refute it at one input. -/
def breakdownPlanesWrong : ChangeSpec := { name := "breakdownPlanes", fn := fun _ => fun
  | [d1, d2, d3] => { results := [.lit (.bool false)], args := [d1, d2, d3] }
  | _ => none }
def BreakdownPlanesWrongFalsely : Prop := breakdownPlanesRow.holds Tryz.pinned (OpenSpec.ofChange breakdownPlanesWrong)

/-- 'robuststatslaw42.CertifyProves': WHATEVER THE INPUT: true; the input reads as it did. -/
def certifyProvesSpec : ChangeSpec := { name := "certifyProves", fn := fun _ => fun
  | [d] => { results := [.lit (.bool true)], args := [d] }
  | _ => none }
def certifyProvesRow : OpenClaim := { program := "ytnnpfhoigmegcaagreat", sum := "2a168d48dd1f8c682a0f024f1115c227474a6b99ee09f8639b27dc7e1c208685", func := "robuststats/robuststatslaw42.CertifyProves", spec := "certifyProves", unfollowed := true, recurses := true, named := ["math/bits.overflowError"], apart := false }
def CertifyProvesSaid : Prop := certifyProvesRow.holds Tryz.pinned (OpenSpec.ofChange certifyProvesSpec)

/-- ITS FALSE NEIGHBOUR: 'it returns false'. Refute it at one input. -/
def certifyProvesWrong : ChangeSpec := { name := "certifyProves", fn := fun _ => fun
  | [d] => { results := [.lit (.bool false)], args := [d] }
  | _ => none }
def CertifyProvesWrongFalsely : Prop := certifyProvesRow.holds Tryz.pinned (OpenSpec.ofChange certifyProvesWrong)

/-- 'robuststatslaw42.CertifyLists': WHATEVER THE INPUT: true; the input reads as it did. -/
def certifyListsSpec : ChangeSpec := { name := "certifyLists", fn := fun _ => fun
  | [d] => { results := [.lit (.bool true)], args := [d] }
  | _ => none }
def certifyListsRow : OpenClaim := { program := "ytnnpfhoigmegcaagreat", sum := "2a168d48dd1f8c682a0f024f1115c227474a6b99ee09f8639b27dc7e1c208685", func := "robuststats/robuststatslaw42.CertifyLists", spec := "certifyLists", unfollowed := true, recurses := true, named := ["math/bits.overflowError"], apart := false }
def CertifyListsSaid : Prop := certifyListsRow.holds Tryz.pinned (OpenSpec.ofChange certifyListsSpec)

/-- ITS FALSE NEIGHBOUR: 'it returns false'. Refute it at one input. -/
def certifyListsWrong : ChangeSpec := { name := "certifyLists", fn := fun _ => fun
  | [d] => { results := [.lit (.bool false)], args := [d] }
  | _ => none }
def CertifyListsWrongFalsely : Prop := certifyListsRow.holds Tryz.pinned (OpenSpec.ofChange certifyListsWrong)

/-- 'robuststatslaw34.InfluenceRows': WHATEVER THE INPUT: true; the input reads as it did. -/
def influenceRowsSpec : ChangeSpec := { name := "influenceRows", fn := fun _ => fun
  | [d1, d2, d3] => { results := [.lit (.bool true)], args := [d1, d2, d3] }
  | _ => none }
def influenceRowsRow : OpenClaim := { program := "ytnnpfhoigmegcaagreat", sum := "2a168d48dd1f8c682a0f024f1115c227474a6b99ee09f8639b27dc7e1c208685", func := "robuststats/robuststatslaw34.InfluenceRows", spec := "influenceRows", inPlace := ["internal/reflectlite.ValueOf", "internal/reflectlite.Swapper", "(internal/reflectlite.Value).Len"], unfollowed := true, recurses := true, named := ["math/bits.overflowError"], apart := false }
def InfluenceRowsSaid : Prop := influenceRowsRow.holds Tryz.pinned (OpenSpec.ofChange influenceRowsSpec)

/-- ITS FALSE NEIGHBOUR: 'it returns false'. Refute it at one input. -/
def influenceRowsWrong : ChangeSpec := { name := "influenceRows", fn := fun _ => fun
  | [d1, d2, d3] => { results := [.lit (.bool false)], args := [d1, d2, d3] }
  | _ => none }
def InfluenceRowsWrongFalsely : Prop := influenceRowsRow.holds Tryz.pinned (OpenSpec.ofChange influenceRowsWrong)

/-- 'robuststatslaw34.InfluenceShifts': WHATEVER THE INPUT: true; the input reads as it did. -/
def influenceShiftsSpec : ChangeSpec := { name := "influenceShifts", fn := fun _ => fun
  | [d] => { results := [.lit (.bool true)], args := [d] }
  | _ => none }
def influenceShiftsRow : OpenClaim := { program := "ytnnpfhoigmegcaagreat", sum := "2a168d48dd1f8c682a0f024f1115c227474a6b99ee09f8639b27dc7e1c208685", func := "robuststats/robuststatslaw34.InfluenceShifts", spec := "influenceShifts", inPlace := ["internal/reflectlite.ValueOf", "internal/reflectlite.Swapper", "(internal/reflectlite.Value).Len"], unfollowed := true, recurses := true, named := ["math/bits.overflowError"], apart := false }
def InfluenceShiftsSaid : Prop := influenceShiftsRow.holds Tryz.pinned (OpenSpec.ofChange influenceShiftsSpec)

/-- ITS FALSE NEIGHBOUR: 'it returns false'. Refute it at one input. -/
def influenceShiftsWrong : ChangeSpec := { name := "influenceShifts", fn := fun _ => fun
  | [d] => { results := [.lit (.bool false)], args := [d] }
  | _ => none }
def InfluenceShiftsWrongFalsely : Prop := influenceShiftsRow.holds Tryz.pinned (OpenSpec.ofChange influenceShiftsWrong)

/- THE SECOND FORM. 'bulk': how many values and letters a reading holds, each counted each time it is reached (what is shared counts as often as it is met; a slice's spare places count too). A statement '..UptoSaid' is the law's where the arguments, and the package variables that the reading takes, are together of bulk at most 1048576: NARROWER than '..Said'. Prove '..Said' where nothing that the law and all that it calls make is longer than what came in: it says more and counts as full. Else prove '..UptoSaid'. A law counts once. -/
mutual
def uptoBulk {H : Type} : DataW H → Nat
  | .lit (.string bytes) => bytes.length + 1
  | .lit _ => 1
  | .nil => 1
  | .ptr d => uptoBulk d + 1
  | .slice elems spare => uptoBulkAll elems + uptoBulkAll spare + 1
  | .agg parts => uptoBulkAll parts + 1
  | .iface _ d => uptoBulk d + 1
  | .map entries => uptoBulkEntries entries + 1
  | .held _ => 1
def uptoBulkAll {H : Type} : List (DataW H) → Nat
  | [] => 0
  | d :: r => uptoBulk d + uptoBulkAll r
def uptoBulkEntries {H : Type} : List (Lit × DataW H) → Nat
  | [] => 0
  | x :: r => uptoBulkEntry x + uptoBulkEntries r
def uptoBulkEntry {H : Type} : Lit × DataW H → Nat
  | (.string bytes, d) => bytes.length + uptoBulk d + 1
  | (_, d) => uptoBulk d + 1
 end
def uptoSmall : (H : Type) → List (DataW H) → Bool := fun _ ds => decide (uptoBulkAll ds ≤ 1048576)
def OpenSpec.upto (s : _root_.Go.ChangeSpec) : _root_.Go.OpenSpec := { _root_.Go.OpenSpec.ofChange s with cond := some uptoSmall }

/-- 'robuststatslaw42.CertifyFits', WHERE WHAT IT READS IS OF BULK AT MOST 1048576: true; the input reads as it did. -/
def certifyFitsUptoRow : OpenClaim := { program := "ytnnpfhoigmegcaagreat", sum := "2a168d48dd1f8c682a0f024f1115c227474a6b99ee09f8639b27dc7e1c208685", func := "robuststats/robuststatslaw42.CertifyFits", spec := "certifyFits", unfollowed := true, recurses := true, named := ["math/bits.overflowError"], apart := false, narrowed := true }
def CertifyFitsUptoSaid : Prop := certifyFitsUptoRow.holds Tryz.pinned (OpenSpec.upto certifyFitsSpec)

/-- 'robuststatslaw35.BreakdownLocations', WHERE WHAT IT READS IS OF BULK AT MOST 1048576: true; the input reads as it did. -/
def breakdownLocationsUptoRow : OpenClaim := { program := "ytnnpfhoigmegcaagreat", sum := "2a168d48dd1f8c682a0f024f1115c227474a6b99ee09f8639b27dc7e1c208685", func := "robuststats/robuststatslaw35.BreakdownLocations", spec := "breakdownLocations", inPlace := ["internal/reflectlite.ValueOf", "internal/reflectlite.Swapper", "(internal/reflectlite.Value).Len"], unfollowed := true, recurses := true, named := ["math/bits.overflowError"], apart := false, narrowed := true }
def BreakdownLocationsUptoSaid : Prop := breakdownLocationsUptoRow.holds Tryz.pinned (OpenSpec.upto breakdownLocationsSpec)

/-- 'robuststatslaw35.BreakdownShares', WHERE WHAT IT READS IS OF BULK AT MOST 1048576: true; the input reads as it did. -/
def breakdownSharesUptoRow : OpenClaim := { program := "ytnnpfhoigmegcaagreat", sum := "2a168d48dd1f8c682a0f024f1115c227474a6b99ee09f8639b27dc7e1c208685", func := "robuststats/robuststatslaw35.BreakdownShares", spec := "breakdownShares", inPlace := ["internal/reflectlite.ValueOf", "internal/reflectlite.Swapper", "(internal/reflectlite.Value).Len"], unfollowed := true, recurses := true, named := ["math/bits.overflowError"], apart := false, narrowed := true }
def BreakdownSharesUptoSaid : Prop := breakdownSharesUptoRow.holds Tryz.pinned (OpenSpec.upto breakdownSharesSpec)

/-- 'robuststatslaw35.BreakdownGreatest', WHERE WHAT IT READS IS OF BULK AT MOST 1048576: true; the input reads as it did. -/
def breakdownGreatestUptoRow : OpenClaim := { program := "ytnnpfhoigmegcaagreat", sum := "2a168d48dd1f8c682a0f024f1115c227474a6b99ee09f8639b27dc7e1c208685", func := "robuststats/robuststatslaw35.BreakdownGreatest", spec := "breakdownGreatest", inPlace := ["internal/reflectlite.ValueOf", "internal/reflectlite.Swapper", "(internal/reflectlite.Value).Len"], unfollowed := true, recurses := true, named := ["math/bits.overflowError"], apart := false, narrowed := true }
def BreakdownGreatestUptoSaid : Prop := breakdownGreatestUptoRow.holds Tryz.pinned (OpenSpec.upto breakdownGreatestSpec)

/-- 'robuststatslaw35.BreakdownFlat', WHERE WHAT IT READS IS OF BULK AT MOST 1048576: true; the input reads as it did. -/
def breakdownFlatUptoRow : OpenClaim := { program := "ytnnpfhoigmegcaagreat", sum := "2a168d48dd1f8c682a0f024f1115c227474a6b99ee09f8639b27dc7e1c208685", func := "robuststats/robuststatslaw35.BreakdownFlat", spec := "breakdownFlat", inPlace := ["internal/reflectlite.ValueOf", "internal/reflectlite.Swapper", "(internal/reflectlite.Value).Len"], unfollowed := true, recurses := true, named := ["math/bits.overflowError"], apart := false, narrowed := true }
def BreakdownFlatUptoSaid : Prop := breakdownFlatUptoRow.holds Tryz.pinned (OpenSpec.upto breakdownFlatSpec)

/-- 'robuststatslaw35.BreakdownCarries', WHERE WHAT IT READS IS OF BULK AT MOST 1048576: true; the input reads as it did. -/
def breakdownCarriesUptoRow : OpenClaim := { program := "ytnnpfhoigmegcaagreat", sum := "2a168d48dd1f8c682a0f024f1115c227474a6b99ee09f8639b27dc7e1c208685", func := "robuststats/robuststatslaw35.BreakdownCarries", spec := "breakdownCarries", inPlace := ["internal/reflectlite.ValueOf", "internal/reflectlite.Swapper", "(internal/reflectlite.Value).Len"], unfollowed := true, recurses := true, named := ["math/bits.overflowError"], apart := false, narrowed := true }
def BreakdownCarriesUptoSaid : Prop := breakdownCarriesUptoRow.holds Tryz.pinned (OpenSpec.upto breakdownCarriesSpec)

/-- 'robuststatslaw35.BreakdownPlanes', WHERE WHAT IT READS IS OF BULK AT MOST 1048576: true; the input reads as it did. -/
def breakdownPlanesUptoRow : OpenClaim := { program := "ytnnpfhoigmegcaagreat", sum := "2a168d48dd1f8c682a0f024f1115c227474a6b99ee09f8639b27dc7e1c208685", func := "robuststats/robuststatslaw35.BreakdownPlanes", spec := "breakdownPlanes", inPlace := ["internal/reflectlite.ValueOf", "internal/reflectlite.Swapper", "(internal/reflectlite.Value).Len"], unfollowed := true, recurses := true, named := ["math/bits.overflowError"], apart := false, narrowed := true }
def BreakdownPlanesUptoSaid : Prop := breakdownPlanesUptoRow.holds Tryz.pinned (OpenSpec.upto breakdownPlanesSpec)

/-- 'robuststatslaw42.CertifyProves', WHERE WHAT IT READS IS OF BULK AT MOST 1048576: true; the input reads as it did. -/
def certifyProvesUptoRow : OpenClaim := { program := "ytnnpfhoigmegcaagreat", sum := "2a168d48dd1f8c682a0f024f1115c227474a6b99ee09f8639b27dc7e1c208685", func := "robuststats/robuststatslaw42.CertifyProves", spec := "certifyProves", unfollowed := true, recurses := true, named := ["math/bits.overflowError"], apart := false, narrowed := true }
def CertifyProvesUptoSaid : Prop := certifyProvesUptoRow.holds Tryz.pinned (OpenSpec.upto certifyProvesSpec)

/-- 'robuststatslaw42.CertifyLists', WHERE WHAT IT READS IS OF BULK AT MOST 1048576: true; the input reads as it did. -/
def certifyListsUptoRow : OpenClaim := { program := "ytnnpfhoigmegcaagreat", sum := "2a168d48dd1f8c682a0f024f1115c227474a6b99ee09f8639b27dc7e1c208685", func := "robuststats/robuststatslaw42.CertifyLists", spec := "certifyLists", unfollowed := true, recurses := true, named := ["math/bits.overflowError"], apart := false, narrowed := true }
def CertifyListsUptoSaid : Prop := certifyListsUptoRow.holds Tryz.pinned (OpenSpec.upto certifyListsSpec)

/-- 'robuststatslaw34.InfluenceRows', WHERE WHAT IT READS IS OF BULK AT MOST 1048576: true; the input reads as it did. -/
def influenceRowsUptoRow : OpenClaim := { program := "ytnnpfhoigmegcaagreat", sum := "2a168d48dd1f8c682a0f024f1115c227474a6b99ee09f8639b27dc7e1c208685", func := "robuststats/robuststatslaw34.InfluenceRows", spec := "influenceRows", inPlace := ["internal/reflectlite.ValueOf", "internal/reflectlite.Swapper", "(internal/reflectlite.Value).Len"], unfollowed := true, recurses := true, named := ["math/bits.overflowError"], apart := false, narrowed := true }
def InfluenceRowsUptoSaid : Prop := influenceRowsUptoRow.holds Tryz.pinned (OpenSpec.upto influenceRowsSpec)

/-- 'robuststatslaw34.InfluenceShifts', WHERE WHAT IT READS IS OF BULK AT MOST 1048576: true; the input reads as it did. -/
def influenceShiftsUptoRow : OpenClaim := { program := "ytnnpfhoigmegcaagreat", sum := "2a168d48dd1f8c682a0f024f1115c227474a6b99ee09f8639b27dc7e1c208685", func := "robuststats/robuststatslaw34.InfluenceShifts", spec := "influenceShifts", inPlace := ["internal/reflectlite.ValueOf", "internal/reflectlite.Swapper", "(internal/reflectlite.Value).Len"], unfollowed := true, recurses := true, named := ["math/bits.overflowError"], apart := false, narrowed := true }
def InfluenceShiftsUptoSaid : Prop := influenceShiftsUptoRow.holds Tryz.pinned (OpenSpec.upto influenceShiftsSpec)

end Rows
end Go.Proofs.YtnnpfhoigmegcaaGreat
