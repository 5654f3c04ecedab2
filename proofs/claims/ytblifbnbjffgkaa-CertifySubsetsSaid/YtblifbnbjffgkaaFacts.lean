/- Closed facts on the program's types. Conditions: none. -/
import Derived.Test.YtblifbnbjffgkaaRows
import Derived.Test.YtblifbnbjffgkaaSteps
namespace Go.Proofs.Ytblifbnbjffgkaa
open Go.RowKit Go.Rep
theorem slU32 : SliceT Try.prog 50 64 1 4 (.int .u32 0) := ⟨Try.underlying50, by kernel_rfl⟩
theorem slInt : SliceT Try.prog 22 3 1 8 (.int .i64 0) := ⟨Try.underlying22, by kernel_rfl⟩
theorem infU32 : (Try.prog.info? 64).map (fun i => (i.zero, i.size, i.bytes)) = some (some (.int .u32 0), 1, 4) := by kernel_rfl
theorem infInt : (Try.prog.info? 3).map (fun i => (i.zero, i.size, i.bytes)) = some (some (.int .i64 0), 1, 8) := by kernel_rfl
theorem tyU32 : TyI Try.prog 64 1 := let ⟨i, h, _, h2, _⟩ := info_parts infU32; ⟨i, h, h2⟩
theorem tyInt : TyI Try.prog 3 1 := let ⟨i, h, _, h2, _⟩ := info_parts infInt; ⟨i, h, h2⟩
theorem slU32s : SliceT Try.prog 79 50 1 24 (.slice none 0 0) := ⟨Try.underlying79, by kernel_rfl⟩
theorem infU32s : (Try.prog.info? 50).map (fun i => (i.zero, i.size, i.bytes)) = some (some (.slice none 0 0), 1, 24) := by kernel_rfl
theorem tyU32s : TyI Try.prog 50 1 := let ⟨i, h, _, h2, _⟩ := info_parts infU32s; ⟨i, h, h2⟩
end Go.Proofs.Ytblifbnbjffgkaa
