/- Facts of the whole program that each row asks for. Conditions: none. -/
import Derived.Test.YtjmnhbebpffoaaaGreatRows
import Derived.WalkKit
import Derived.JoinedOf
namespace Go.Proofs.YtjmnhbebpffoaaaGreat
open Go.RowKit
namespace seat
open Go.RowKit
theorem and_t{a b:Bool}(c:a=true)(d:b=true):(a&&b)=true:=by rw[c,d];rfl
theorem laid:laidOutB Tryz.pinned.checked.prog=true:=by kernel_rfl
theorem maps:mapsRowed Tryz.pinned.checked.prog=true:=by kernel_rfl
theorem stops:(Program.stops Tryz.pinned.checked.prog==[])=true:=by kernel_rfl
theorem knobs:(Program.stopKnobs Tryz.pinned.checked.prog==[])=true:=by kernel_rfl
theorem heard:Program.stopsHeard Tryz.pinned.checked.prog=true:=by kernel_rfl
theorem enter:Program.mayEnter Tryz.pinned.checked.prog=true:=by kernel_rfl
theorem lifts:(Rows.influenceRowsRow.lifted==Program.liftsFinal Tryz.pinned.checked.prog)=true:=by kernel_rfl
theorem make:(Program.make Tryz.pinned.checked.prog==some Rows.influenceRowsRow.make)=true:=by kernel_rfl
theorem plain:(Rows.influenceRowsRow.plainKeys==Program.plainKeys Tryz.pinned.checked.prog)=true:=by kernel_rfl
end seat
end Go.Proofs.YtjmnhbebpffoaaaGreat
