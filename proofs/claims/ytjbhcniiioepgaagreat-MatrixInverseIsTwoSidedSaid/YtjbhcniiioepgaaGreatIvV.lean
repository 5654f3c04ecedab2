/- Facts of the whole program that each row asks for. Conditions: none. -/
import Derived.Test.YtjbhcniiioepgaaGreatRows
import Derived.WalkKit
import Derived.JoinedOf
namespace Go.Proofs.YtjbhcniiioepgaaGreat.seat
open Go.RowKit
theorem and_t {a b : Bool} (h1 : a = true) (h2 : b = true) : (a && b) = true := by rw [h1, h2]; rfl
theorem laid : laidOutB Tryz.pinned.checked.prog = true := by kernel_rfl
theorem maps : mapsRowed Tryz.pinned.checked.prog = true := by kernel_rfl
theorem stops : (Program.stops Tryz.pinned.checked.prog == []) = true := by kernel_rfl
theorem knobs : (Program.stopKnobs Tryz.pinned.checked.prog == []) = true := by kernel_rfl
theorem heard : Program.stopsHeard Tryz.pinned.checked.prog = true := by kernel_rfl
theorem enter : Program.mayEnter Tryz.pinned.checked.prog = true := by kernel_rfl
theorem lifts : (Rows.matrixReducedFormIsUniqueRow.lifted == Program.liftsFinal Tryz.pinned.checked.prog) = true := by kernel_rfl
theorem make : (Program.make Tryz.pinned.checked.prog == some Rows.matrixReducedFormIsUniqueRow.make) = true := by kernel_rfl
theorem plain : (Rows.matrixReducedFormIsUniqueRow.plainKeys == Program.plainKeys Tryz.pinned.checked.prog) = true := by kernel_rfl
end Go.Proofs.YtjbhcniiioepgaaGreat.seat
