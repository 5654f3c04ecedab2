/-
  No cell of these rows narrows 'for every input' (looked for: loops, veiled, ifaces, maps, wideKeys, modest, calm, conditions, laid).
  DERIVED. THE GIVEN ROWS OF THIS SEAT. 12 by the template 'for every input the law returns true; each argument reads behind the call as it read before'; 0 by the template 'total and deterministic' (their statements: YtkddecjkfdogiaaGreatTotals.lean).
  GIVEN WITH THE SEED: the statements are not yours to turn. If you find one false, say at which input.
  Laid BY PROGRAM, IN A SANDBOX (cutbox-rows.mjs): the forced cells as the released guide's own fill.sh prints them over the translation 5652115f915d9ffc… (all of the seat's roots in one cut). By AI agents, Wed Nov 11 2026. No macro, syntax, notation, axiom, sorry.
-/
import Derived.Test.YtkddecjkfdogiaaGreatChecked
import GoSem.Claim
import GoSem.ClaimJoined
import GoSem.ClaimMapViews
import Derived.JoinedTies
import Derived.KernelRfl
namespace Go.Proofs.YtkddecjkfdogiaaGreat
/- THE CELL 'sum', in the pinned program and in every row, IS THE sha256 OF THE DUMP (.gsa) THAT YtkddecjkfdogiaaGreatProg.lean LOADS. Nothing in Lean hashes anything: it is a label: what it is worth is what the hold of that sum in a sandbox is worth. -/
noncomputable def Tryz.pinned : Pinned := { name := "ytkddecjkfdogiaagreat", sum := "5652115f915d9ffca5cfdeb7e1644abc62a948430beadcabb97a55dcf2c37b7f", checked := Tryz.checked }
namespace Rows
def none {H : Type} : Left H := { results := [], args := [] }

/-- 'robuststatslaw42.CertifyMcds': WHATEVER THE INPUT: true; the input reads as it did. -/
def certifyMcdsSpec : ChangeSpec := { name := "certifyMcds", fn := fun _ => fun
  | [d] => { results := [.lit (.bool true)], args := [d] }
  | _ => none }
def certifyMcdsRow : OpenClaim := { program := "ytkddecjkfdogiaagreat", sum := "5652115f915d9ffca5cfdeb7e1644abc62a948430beadcabb97a55dcf2c37b7f", func := "robuststats/robuststatslaw42.CertifyMcds", spec := "certifyMcds", unfollowed := true, recurses := true, named := ["math/bits.overflowError"], apart := false }
def CertifyMcdsSaid : Prop := certifyMcdsRow.holds Tryz.pinned (OpenSpec.ofChange certifyMcdsSpec)

/-- ITS FALSE NEIGHBOUR: 'it returns false'. Refute it at one input. -/
def certifyMcdsWrong : ChangeSpec := { name := "certifyMcds", fn := fun _ => fun
  | [d] => { results := [.lit (.bool false)], args := [d] }
  | _ => none }
def CertifyMcdsWrongFalsely : Prop := certifyMcdsRow.holds Tryz.pinned (OpenSpec.ofChange certifyMcdsWrong)

/-- 'robuststatslaw38.SelectionBest': WHATEVER THE INPUT: true; the input reads as it did. -/
def selectionBestSpec : ChangeSpec := { name := "selectionBest", fn := fun _ => fun
  | [d1, d2, d3, d4] => { results := [.lit (.bool true)], args := [d1, d2, d3, d4] }
  | _ => none }
def selectionBestRow : OpenClaim := { program := "ytkddecjkfdogiaagreat", sum := "5652115f915d9ffca5cfdeb7e1644abc62a948430beadcabb97a55dcf2c37b7f", func := "robuststats/robuststatslaw38.SelectionBest", spec := "selectionBest", unfollowed := true, recurses := true, named := ["math/bits.overflowError"], apart := false }
def SelectionBestSaid : Prop := selectionBestRow.holds Tryz.pinned (OpenSpec.ofChange selectionBestSpec)

/-- ITS FALSE NEIGHBOUR: 'it returns false'. Refute it at one input. -/
def selectionBestWrong : ChangeSpec := { name := "selectionBest", fn := fun _ => fun
  | [d1, d2, d3, d4] => { results := [.lit (.bool false)], args := [d1, d2, d3, d4] }
  | _ => none }
def SelectionBestWrongFalsely : Prop := selectionBestRow.holds Tryz.pinned (OpenSpec.ofChange selectionBestWrong)

/-- 'robuststatslaw38.SelectionFalls': WHATEVER THE INPUT: true; the input reads as it did. -/
def selectionFallsSpec : ChangeSpec := { name := "selectionFalls", fn := fun _ => fun
  | [d] => { results := [.lit (.bool true)], args := [d] }
  | _ => none }
def selectionFallsRow : OpenClaim := { program := "ytkddecjkfdogiaagreat", sum := "5652115f915d9ffca5cfdeb7e1644abc62a948430beadcabb97a55dcf2c37b7f", func := "robuststats/robuststatslaw38.SelectionFalls", spec := "selectionFalls", unfollowed := true, recurses := true, named := ["math/bits.overflowError"], apart := false }
def SelectionFallsSaid : Prop := selectionFallsRow.holds Tryz.pinned (OpenSpec.ofChange selectionFallsSpec)

/-- ITS FALSE NEIGHBOUR: 'it returns false'. Refute it at one input. -/
def selectionFallsWrong : ChangeSpec := { name := "selectionFalls", fn := fun _ => fun
  | [d] => { results := [.lit (.bool false)], args := [d] }
  | _ => none }
def SelectionFallsWrongFalsely : Prop := selectionFallsRow.holds Tryz.pinned (OpenSpec.ofChange selectionFallsWrong)

/-- 'robuststatslaw13.LeastsqIsOrthogonal': WHATEVER THE INPUT: true; the input reads as it did. -/
def leastsqIsOrthogonalSpec : ChangeSpec := { name := "leastsqIsOrthogonal", fn := fun _ => fun
  | [d] => { results := [.lit (.bool true)], args := [d] }
  | _ => none }
def leastsqIsOrthogonalRow : OpenClaim := { program := "ytkddecjkfdogiaagreat", sum := "5652115f915d9ffca5cfdeb7e1644abc62a948430beadcabb97a55dcf2c37b7f", func := "robuststats/robuststatslaw13.LeastsqIsOrthogonal", spec := "leastsqIsOrthogonal", unfollowed := true, recurses := true, named := ["math/bits.overflowError"], apart := false }
def LeastsqIsOrthogonalSaid : Prop := leastsqIsOrthogonalRow.holds Tryz.pinned (OpenSpec.ofChange leastsqIsOrthogonalSpec)

/-- ITS FALSE NEIGHBOUR: 'it returns false'. Refute it at one input. -/
def leastsqIsOrthogonalWrong : ChangeSpec := { name := "leastsqIsOrthogonal", fn := fun _ => fun
  | [d] => { results := [.lit (.bool false)], args := [d] }
  | _ => none }
def LeastsqIsOrthogonalWrongFalsely : Prop := leastsqIsOrthogonalRow.holds Tryz.pinned (OpenSpec.ofChange leastsqIsOrthogonalWrong)

/-- 'robuststatslaw13.LeastsqLeversAddUp': WHATEVER THE INPUT: true; the input reads as it did. -/
def leastsqLeversAddUpSpec : ChangeSpec := { name := "leastsqLeversAddUp", fn := fun _ => fun
  | [d] => { results := [.lit (.bool true)], args := [d] }
  | _ => none }
def leastsqLeversAddUpRow : OpenClaim := { program := "ytkddecjkfdogiaagreat", sum := "5652115f915d9ffca5cfdeb7e1644abc62a948430beadcabb97a55dcf2c37b7f", func := "robuststats/robuststatslaw13.LeastsqLeversAddUp", spec := "leastsqLeversAddUp", unfollowed := true, recurses := true, named := ["math/bits.overflowError"], apart := false }
def LeastsqLeversAddUpSaid : Prop := leastsqLeversAddUpRow.holds Tryz.pinned (OpenSpec.ofChange leastsqLeversAddUpSpec)

/-- ITS FALSE NEIGHBOUR: 'it returns false'. Refute it at one input. -/
def leastsqLeversAddUpWrong : ChangeSpec := { name := "leastsqLeversAddUp", fn := fun _ => fun
  | [d] => { results := [.lit (.bool false)], args := [d] }
  | _ => none }
def LeastsqLeversAddUpWrongFalsely : Prop := leastsqLeversAddUpRow.holds Tryz.pinned (OpenSpec.ofChange leastsqLeversAddUpWrong)

/-- 'robuststatslaw13.LeastsqFollowsMoments': WHATEVER THE INPUT: true; the input reads as it did. -/
def leastsqFollowsMomentsSpec : ChangeSpec := { name := "leastsqFollowsMoments", fn := fun _ => fun
  | [d1, d2] => { results := [.lit (.bool true)], args := [d1, d2] }
  | _ => none }
def leastsqFollowsMomentsRow : OpenClaim := { program := "ytkddecjkfdogiaagreat", sum := "5652115f915d9ffca5cfdeb7e1644abc62a948430beadcabb97a55dcf2c37b7f", func := "robuststats/robuststatslaw13.LeastsqFollowsMoments", spec := "leastsqFollowsMoments", unfollowed := true, recurses := true, named := ["math/bits.overflowError"], apart := false }
def LeastsqFollowsMomentsSaid : Prop := leastsqFollowsMomentsRow.holds Tryz.pinned (OpenSpec.ofChange leastsqFollowsMomentsSpec)

/-- ITS FALSE NEIGHBOUR: 'it returns false'. Refute it at one input. -/
def leastsqFollowsMomentsWrong : ChangeSpec := { name := "leastsqFollowsMoments", fn := fun _ => fun
  | [d1, d2] => { results := [.lit (.bool false)], args := [d1, d2] }
  | _ => none }
def LeastsqFollowsMomentsWrongFalsely : Prop := leastsqFollowsMomentsRow.holds Tryz.pinned (OpenSpec.ofChange leastsqFollowsMomentsWrong)

/-- 'robuststatslaw13.LeastsqIsEquivariant': WHATEVER THE INPUT: true; the input reads as it did. -/
def leastsqIsEquivariantSpec : ChangeSpec := { name := "leastsqIsEquivariant", fn := fun _ => fun
  | [d1, d2, d3] => { results := [.lit (.bool true)], args := [d1, d2, d3] }
  | _ => none }
def leastsqIsEquivariantRow : OpenClaim := { program := "ytkddecjkfdogiaagreat", sum := "5652115f915d9ffca5cfdeb7e1644abc62a948430beadcabb97a55dcf2c37b7f", func := "robuststats/robuststatslaw13.LeastsqIsEquivariant", spec := "leastsqIsEquivariant", unfollowed := true, recurses := true, named := ["math/bits.overflowError"], apart := false }
def LeastsqIsEquivariantSaid : Prop := leastsqIsEquivariantRow.holds Tryz.pinned (OpenSpec.ofChange leastsqIsEquivariantSpec)

/-- ITS FALSE NEIGHBOUR: 'it returns false'. Refute it at one input. -/
def leastsqIsEquivariantWrong : ChangeSpec := { name := "leastsqIsEquivariant", fn := fun _ => fun
  | [d1, d2, d3] => { results := [.lit (.bool false)], args := [d1, d2, d3] }
  | _ => none }
def LeastsqIsEquivariantWrongFalsely : Prop := leastsqIsEquivariantRow.holds Tryz.pinned (OpenSpec.ofChange leastsqIsEquivariantWrong)

/-- 'robuststatslaw13.LeastsqFits': WHATEVER THE INPUT: true; the input reads as it did. -/
def leastsqFitsSpec : ChangeSpec := { name := "leastsqFits", fn := fun _ => fun
  | [d1, d2, d3] => { results := [.lit (.bool true)], args := [d1, d2, d3] }
  | _ => none }
def leastsqFitsRow : OpenClaim := { program := "ytkddecjkfdogiaagreat", sum := "5652115f915d9ffca5cfdeb7e1644abc62a948430beadcabb97a55dcf2c37b7f", func := "robuststats/robuststatslaw13.LeastsqFits", spec := "leastsqFits", unfollowed := true, recurses := true, named := ["math/bits.overflowError"], apart := false }
def LeastsqFitsSaid : Prop := leastsqFitsRow.holds Tryz.pinned (OpenSpec.ofChange leastsqFitsSpec)

/-- ITS FALSE NEIGHBOUR: 'it returns false'. Refute it at one input. -/
def leastsqFitsWrong : ChangeSpec := { name := "leastsqFits", fn := fun _ => fun
  | [d1, d2, d3] => { results := [.lit (.bool false)], args := [d1, d2, d3] }
  | _ => none }
def LeastsqFitsWrongFalsely : Prop := leastsqFitsRow.holds Tryz.pinned (OpenSpec.ofChange leastsqFitsWrong)

/-- 'robuststatslaw13.LeastsqIsLeast': WHATEVER THE INPUT: true; the input reads as it did. -/
def leastsqIsLeastSpec : ChangeSpec := { name := "leastsqIsLeast", fn := fun _ => fun
  | [d1, d2] => { results := [.lit (.bool true)], args := [d1, d2] }
  | _ => none }
def leastsqIsLeastRow : OpenClaim := { program := "ytkddecjkfdogiaagreat", sum := "5652115f915d9ffca5cfdeb7e1644abc62a948430beadcabb97a55dcf2c37b7f", func := "robuststats/robuststatslaw13.LeastsqIsLeast", spec := "leastsqIsLeast", unfollowed := true, recurses := true, named := ["math/bits.overflowError"], apart := false }
def LeastsqIsLeastSaid : Prop := leastsqIsLeastRow.holds Tryz.pinned (OpenSpec.ofChange leastsqIsLeastSpec)

/-- ITS FALSE NEIGHBOUR: 'it returns false'. Refute it at one input. -/
def leastsqIsLeastWrong : ChangeSpec := { name := "leastsqIsLeast", fn := fun _ => fun
  | [d1, d2] => { results := [.lit (.bool false)], args := [d1, d2] }
  | _ => none }
def LeastsqIsLeastWrongFalsely : Prop := leastsqIsLeastRow.holds Tryz.pinned (OpenSpec.ofChange leastsqIsLeastWrong)

/-- 'robuststatslaw13.LeastsqGathers': WHATEVER THE INPUT: true; the input reads as it did. -/
def leastsqGathersSpec : ChangeSpec := { name := "leastsqGathers", fn := fun _ => fun
  | [d1, d2, d3, d4, d5, d6] => { results := [.lit (.bool true)], args := [d1, d2, d3, d4, d5, d6] }
  | _ => none }
def leastsqGathersRow : OpenClaim := { program := "ytkddecjkfdogiaagreat", sum := "5652115f915d9ffca5cfdeb7e1644abc62a948430beadcabb97a55dcf2c37b7f", func := "robuststats/robuststatslaw13.LeastsqGathers", spec := "leastsqGathers", unfollowed := true, recurses := true, named := ["math/bits.overflowError"], apart := false }
def LeastsqGathersSaid : Prop := leastsqGathersRow.holds Tryz.pinned (OpenSpec.ofChange leastsqGathersSpec)

/-- ITS FALSE NEIGHBOUR: 'it returns false'. Refute it at one input. -/
def leastsqGathersWrong : ChangeSpec := { name := "leastsqGathers", fn := fun _ => fun
  | [d1, d2, d3, d4, d5, d6] => { results := [.lit (.bool false)], args := [d1, d2, d3, d4, d5, d6] }
  | _ => none }
def LeastsqGathersWrongFalsely : Prop := leastsqGathersRow.holds Tryz.pinned (OpenSpec.ofChange leastsqGathersWrong)

/-- 'robuststatslaw13.LeastsqShiftsBack': WHATEVER THE INPUT: true; the input reads as it did. -/
def leastsqShiftsBackSpec : ChangeSpec := { name := "leastsqShiftsBack", fn := fun _ => fun
  | [d1, d2, d3] => { results := [.lit (.bool true)], args := [d1, d2, d3] }
  | _ => none }
def leastsqShiftsBackRow : OpenClaim := { program := "ytkddecjkfdogiaagreat", sum := "5652115f915d9ffca5cfdeb7e1644abc62a948430beadcabb97a55dcf2c37b7f", func := "robuststats/robuststatslaw13.LeastsqShiftsBack", spec := "leastsqShiftsBack", unfollowed := true, recurses := true, named := ["math/bits.overflowError"], apart := false }
def LeastsqShiftsBackSaid : Prop := leastsqShiftsBackRow.holds Tryz.pinned (OpenSpec.ofChange leastsqShiftsBackSpec)

/-- ITS FALSE NEIGHBOUR: 'it returns false'. Refute it at one input. -/
def leastsqShiftsBackWrong : ChangeSpec := { name := "leastsqShiftsBack", fn := fun _ => fun
  | [d1, d2, d3] => { results := [.lit (.bool false)], args := [d1, d2, d3] }
  | _ => none }
def LeastsqShiftsBackWrongFalsely : Prop := leastsqShiftsBackRow.holds Tryz.pinned (OpenSpec.ofChange leastsqShiftsBackWrong)

/-- 'robuststatslaw38.SelectionPress': WHATEVER THE INPUT: true; the input reads as it did. -/
def selectionPressSpec : ChangeSpec := { name := "selectionPress", fn := fun _ => fun
  | [d] => { results := [.lit (.bool true)], args := [d] }
  | _ => none }
def selectionPressRow : OpenClaim := { program := "ytkddecjkfdogiaagreat", sum := "5652115f915d9ffca5cfdeb7e1644abc62a948430beadcabb97a55dcf2c37b7f", func := "robuststats/robuststatslaw38.SelectionPress", spec := "selectionPress", unfollowed := true, recurses := true, named := ["math/bits.overflowError"], apart := false }
def SelectionPressSaid : Prop := selectionPressRow.holds Tryz.pinned (OpenSpec.ofChange selectionPressSpec)

/-- ITS FALSE NEIGHBOUR: 'it returns false'. Refute it at one input. -/
def selectionPressWrong : ChangeSpec := { name := "selectionPress", fn := fun _ => fun
  | [d] => { results := [.lit (.bool false)], args := [d] }
  | _ => none }
def SelectionPressWrongFalsely : Prop := selectionPressRow.holds Tryz.pinned (OpenSpec.ofChange selectionPressWrong)

/- THE SECOND FORM. 'bulk': how many values and letters a reading holds, each counted each time it is reached (what is shared counts as often as it is met; a slice's spare places count too). A statement '..UptoSaid' is the law's where the arguments, and the package variables that the reading takes, are together of bulk at most 1048576: NARROWER than '..Said'. Prove '..Said' where nothing that the law and all that it calls make is longer than what came in: it says more and counts as full. Else prove '..UptoSaid'. A law counts once. -/
mutual
def uptoBulk {H : Type} : DataW H → Nat
  | .lit (.string bytes) => bytes.length + 1
  | .lit _ => 1
  | .nil => 1
  | .ptr d => uptoBulk d + 1
  | .slice elems spare => uptoBulkAll elems + uptoBulkAll spare + 1
  | .agg parts => uptoBulkAll parts + 1
  | .iface _ d => uptoBulk d + 1
  | .map entries => uptoBulkEntries entries + 1
  | .held _ => 1
def uptoBulkAll {H : Type} : List (DataW H) → Nat
  | [] => 0
  | d :: r => uptoBulk d + uptoBulkAll r
def uptoBulkEntries {H : Type} : List (Lit × DataW H) → Nat
  | [] => 0
  | x :: r => uptoBulkEntry x + uptoBulkEntries r
def uptoBulkEntry {H : Type} : Lit × DataW H → Nat
  | (.string bytes, d) => bytes.length + uptoBulk d + 1
  | (_, d) => uptoBulk d + 1
 end
def uptoSmall : (H : Type) → List (DataW H) → Bool := fun _ ds => decide (uptoBulkAll ds ≤ 1048576)
def OpenSpec.upto (s : _root_.Go.ChangeSpec) : _root_.Go.OpenSpec := { _root_.Go.OpenSpec.ofChange s with cond := some uptoSmall }

/-- 'robuststatslaw42.CertifyMcds', WHERE WHAT IT READS IS OF BULK AT MOST 1048576: true; the input reads as it did. -/
def certifyMcdsUptoRow : OpenClaim := { program := "ytkddecjkfdogiaagreat", sum := "5652115f915d9ffca5cfdeb7e1644abc62a948430beadcabb97a55dcf2c37b7f", func := "robuststats/robuststatslaw42.CertifyMcds", spec := "certifyMcds", unfollowed := true, recurses := true, named := ["math/bits.overflowError"], apart := false, narrowed := true }
def CertifyMcdsUptoSaid : Prop := certifyMcdsUptoRow.holds Tryz.pinned (OpenSpec.upto certifyMcdsSpec)

/-- 'robuststatslaw38.SelectionBest', WHERE WHAT IT READS IS OF BULK AT MOST 1048576: true; the input reads as it did. -/
def selectionBestUptoRow : OpenClaim := { program := "ytkddecjkfdogiaagreat", sum := "5652115f915d9ffca5cfdeb7e1644abc62a948430beadcabb97a55dcf2c37b7f", func := "robuststats/robuststatslaw38.SelectionBest", spec := "selectionBest", unfollowed := true, recurses := true, named := ["math/bits.overflowError"], apart := false, narrowed := true }
def SelectionBestUptoSaid : Prop := selectionBestUptoRow.holds Tryz.pinned (OpenSpec.upto selectionBestSpec)

/-- 'robuststatslaw38.SelectionFalls', WHERE WHAT IT READS IS OF BULK AT MOST 1048576: true; the input reads as it did. -/
def selectionFallsUptoRow : OpenClaim := { program := "ytkddecjkfdogiaagreat", sum := "5652115f915d9ffca5cfdeb7e1644abc62a948430beadcabb97a55dcf2c37b7f", func := "robuststats/robuststatslaw38.SelectionFalls", spec := "selectionFalls", unfollowed := true, recurses := true, named := ["math/bits.overflowError"], apart := false, narrowed := true }
def SelectionFallsUptoSaid : Prop := selectionFallsUptoRow.holds Tryz.pinned (OpenSpec.upto selectionFallsSpec)

/-- 'robuststatslaw13.LeastsqIsOrthogonal', WHERE WHAT IT READS IS OF BULK AT MOST 1048576: true; the input reads as it did. -/
def leastsqIsOrthogonalUptoRow : OpenClaim := { program := "ytkddecjkfdogiaagreat", sum := "5652115f915d9ffca5cfdeb7e1644abc62a948430beadcabb97a55dcf2c37b7f", func := "robuststats/robuststatslaw13.LeastsqIsOrthogonal", spec := "leastsqIsOrthogonal", unfollowed := true, recurses := true, named := ["math/bits.overflowError"], apart := false, narrowed := true }
def LeastsqIsOrthogonalUptoSaid : Prop := leastsqIsOrthogonalUptoRow.holds Tryz.pinned (OpenSpec.upto leastsqIsOrthogonalSpec)

/-- 'robuststatslaw13.LeastsqLeversAddUp', WHERE WHAT IT READS IS OF BULK AT MOST 1048576: true; the input reads as it did. -/
def leastsqLeversAddUpUptoRow : OpenClaim := { program := "ytkddecjkfdogiaagreat", sum := "5652115f915d9ffca5cfdeb7e1644abc62a948430beadcabb97a55dcf2c37b7f", func := "robuststats/robuststatslaw13.LeastsqLeversAddUp", spec := "leastsqLeversAddUp", unfollowed := true, recurses := true, named := ["math/bits.overflowError"], apart := false, narrowed := true }
def LeastsqLeversAddUpUptoSaid : Prop := leastsqLeversAddUpUptoRow.holds Tryz.pinned (OpenSpec.upto leastsqLeversAddUpSpec)

/-- 'robuststatslaw13.LeastsqFollowsMoments', WHERE WHAT IT READS IS OF BULK AT MOST 1048576: true; the input reads as it did. -/
def leastsqFollowsMomentsUptoRow : OpenClaim := { program := "ytkddecjkfdogiaagreat", sum := "5652115f915d9ffca5cfdeb7e1644abc62a948430beadcabb97a55dcf2c37b7f", func := "robuststats/robuststatslaw13.LeastsqFollowsMoments", spec := "leastsqFollowsMoments", unfollowed := true, recurses := true, named := ["math/bits.overflowError"], apart := false, narrowed := true }
def LeastsqFollowsMomentsUptoSaid : Prop := leastsqFollowsMomentsUptoRow.holds Tryz.pinned (OpenSpec.upto leastsqFollowsMomentsSpec)

/-- 'robuststatslaw13.LeastsqIsEquivariant', WHERE WHAT IT READS IS OF BULK AT MOST 1048576: true; the input reads as it did. -/
def leastsqIsEquivariantUptoRow : OpenClaim := { program := "ytkddecjkfdogiaagreat", sum := "5652115f915d9ffca5cfdeb7e1644abc62a948430beadcabb97a55dcf2c37b7f", func := "robuststats/robuststatslaw13.LeastsqIsEquivariant", spec := "leastsqIsEquivariant", unfollowed := true, recurses := true, named := ["math/bits.overflowError"], apart := false, narrowed := true }
def LeastsqIsEquivariantUptoSaid : Prop := leastsqIsEquivariantUptoRow.holds Tryz.pinned (OpenSpec.upto leastsqIsEquivariantSpec)

/-- 'robuststatslaw13.LeastsqFits', WHERE WHAT IT READS IS OF BULK AT MOST 1048576: true; the input reads as it did. -/
def leastsqFitsUptoRow : OpenClaim := { program := "ytkddecjkfdogiaagreat", sum := "5652115f915d9ffca5cfdeb7e1644abc62a948430beadcabb97a55dcf2c37b7f", func := "robuststats/robuststatslaw13.LeastsqFits", spec := "leastsqFits", unfollowed := true, recurses := true, named := ["math/bits.overflowError"], apart := false, narrowed := true }
def LeastsqFitsUptoSaid : Prop := leastsqFitsUptoRow.holds Tryz.pinned (OpenSpec.upto leastsqFitsSpec)

/-- 'robuststatslaw13.LeastsqIsLeast', WHERE WHAT IT READS IS OF BULK AT MOST 1048576: true; the input reads as it did. -/
def leastsqIsLeastUptoRow : OpenClaim := { program := "ytkddecjkfdogiaagreat", sum := "5652115f915d9ffca5cfdeb7e1644abc62a948430beadcabb97a55dcf2c37b7f", func := "robuststats/robuststatslaw13.LeastsqIsLeast", spec := "leastsqIsLeast", unfollowed := true, recurses := true, named := ["math/bits.overflowError"], apart := false, narrowed := true }
def LeastsqIsLeastUptoSaid : Prop := leastsqIsLeastUptoRow.holds Tryz.pinned (OpenSpec.upto leastsqIsLeastSpec)

/-- 'robuststatslaw13.LeastsqGathers', WHERE WHAT IT READS IS OF BULK AT MOST 1048576: true; the input reads as it did. -/
def leastsqGathersUptoRow : OpenClaim := { program := "ytkddecjkfdogiaagreat", sum := "5652115f915d9ffca5cfdeb7e1644abc62a948430beadcabb97a55dcf2c37b7f", func := "robuststats/robuststatslaw13.LeastsqGathers", spec := "leastsqGathers", unfollowed := true, recurses := true, named := ["math/bits.overflowError"], apart := false, narrowed := true }
def LeastsqGathersUptoSaid : Prop := leastsqGathersUptoRow.holds Tryz.pinned (OpenSpec.upto leastsqGathersSpec)

/-- 'robuststatslaw13.LeastsqShiftsBack', WHERE WHAT IT READS IS OF BULK AT MOST 1048576: true; the input reads as it did. -/
def leastsqShiftsBackUptoRow : OpenClaim := { program := "ytkddecjkfdogiaagreat", sum := "5652115f915d9ffca5cfdeb7e1644abc62a948430beadcabb97a55dcf2c37b7f", func := "robuststats/robuststatslaw13.LeastsqShiftsBack", spec := "leastsqShiftsBack", unfollowed := true, recurses := true, named := ["math/bits.overflowError"], apart := false, narrowed := true }
def LeastsqShiftsBackUptoSaid : Prop := leastsqShiftsBackUptoRow.holds Tryz.pinned (OpenSpec.upto leastsqShiftsBackSpec)

/-- 'robuststatslaw38.SelectionPress', WHERE WHAT IT READS IS OF BULK AT MOST 1048576: true; the input reads as it did. -/
def selectionPressUptoRow : OpenClaim := { program := "ytkddecjkfdogiaagreat", sum := "5652115f915d9ffca5cfdeb7e1644abc62a948430beadcabb97a55dcf2c37b7f", func := "robuststats/robuststatslaw38.SelectionPress", spec := "selectionPress", unfollowed := true, recurses := true, named := ["math/bits.overflowError"], apart := false, narrowed := true }
def SelectionPressUptoSaid : Prop := selectionPressUptoRow.holds Tryz.pinned (OpenSpec.upto selectionPressSpec)

end Rows
end Go.Proofs.YtkddecjkfdogiaaGreat
