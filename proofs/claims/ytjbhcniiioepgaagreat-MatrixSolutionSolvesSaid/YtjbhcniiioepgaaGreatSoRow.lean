/- The row of MatrixSolutionSolves. -/
import Derived.Test.YtjbhcniiioepgaaGreatSoV
namespace Go.Proofs.YtjbhcniiioepgaaGreat.sol
open Go.ChangeShapes Go.WideShapes Go.ChangeAt Go.RowKit Go.Rep Go.Lim

theorem j_wf : Rows.matrixSolutionSolvesRow.wf (OpenSpec.ofChange Rows.matrixSolutionSolvesSpec) = true := by kernel_rfl
theorem j_params : Tryz.f9.params.all (fun t => Program.readableRec Tryz.pinned.checked.prog t) = true := by kernel_rfl
theorem j_tie : namedTie Tryz.pinned.checked.prog Rows.matrixSolutionSolvesRow.named Rows.matrixSolutionSolvesSpec.vars = true := by kernel_rfl
theorem j_inPlace : (Rows.matrixSolutionSolvesRow.inPlace == Program.inPlace Tryz.pinned.checked.prog 9) = true := by kernel_rfl
theorem j_unf : (Rows.matrixSolutionSolvesRow.unfollowed == Program.unfollowed Tryz.pinned.checked.prog 9) = true := by kernel_rfl
theorem j_rec : (Rows.matrixSolutionSolvesRow.recurses == Program.recurses Tryz.pinned.checked.prog 9) = true := by kernel_rfl
theorem j_named : (Rows.matrixSolutionSolvesRow.named == Program.varsNamed Tryz.pinned.checked.prog 9) = true := by kernel_rfl
set_option maxRecDepth 100000 in
theorem closed : joinedFacts Tryz.pinned.checked.prog 9 Tryz.f9 Rows.matrixSolutionSolvesSpec Rows.matrixSolutionSolvesRow = true := by
  unfold joinedFacts
  iterate 4 refine seat.and_t ?_ (by kernel_rfl)
  refine seat.and_t ?_ seat.make
  refine seat.and_t ?_ seat.lifts
  refine seat.and_t ?_ seat.enter
  refine seat.and_t ?_ seat.heard
  refine seat.and_t ?_ (by kernel_rfl)
  refine seat.and_t ?_ seat.plain
  iterate 9 refine seat.and_t ?_ (by kernel_rfl)
  refine seat.and_t ?_ j_named
  refine seat.and_t ?_ j_rec
  refine seat.and_t ?_ j_unf
  refine seat.and_t ?_ j_inPlace
  refine seat.and_t ?_ seat.knobs
  refine seat.and_t ?_ (by kernel_rfl)
  refine seat.and_t ?_ seat.stops
  refine seat.and_t ?_ (by kernel_rfl)
  refine seat.and_t ?_ j_tie
  refine seat.and_t ?_ j_params
  refine seat.and_t ?_ seat.maps
  exact seat.and_t j_wf seat.laid

theorem own_knob : ownKnob Tryz.prog.godebug = none := by kernel_rfl
theorem laid_out : laidOutB Tryz.prog = true := by kernel_rfl

set_option maxRecDepth 100000 in
theorem lifted (os : Os) (started : os.Started) (H : Type) (enc : TypeId × Value → H) :
    ReturnsInHanded {} Tryz.checked os 9 .any (Rows.matrixSolutionSolvesSpec.pre6 enc Tryz.prog Tryz.f9 Rows.matrixSolutionSolvesRow.domain false) (Rows.matrixSolutionSolvesSpec.post enc Tryz.prog Tryz.f9 false true false false) := by
  refine returnsInHanded_of_change (C := Tryz.checked) own_knob started (by kernel_rfl) Tryz.func9
    (ChangeSpec.witness6 (enc := enc) (C := Tryz.checked) false ⟨#[], #[.int .u8 0, .int .u8 0, .slice none 0 0, .slice none 0 0, .slice none 0 0], []⟩ 8 (by kernel_rfl) (by kernel_rfl) (by kernel_rfl) (by kernel_rfl)) ?_
  intro W base args ds gs before hval0 hW hcnd _
  have hval : ∀ (j : Nat) t v, Tryz.f9.params[j]? = some t → args[j]? = some v → Value.okWide Tryz.prog W .any base t v := hval0
  have hW' := hW
  obtain ⟨p, q, hA0, hV, rfl, hfz, hnd⟩ := hW
  have hA : DataW.TrodAll enc Tryz.prog W 0 (fun _ => true) true Tryz.f9.params.toList args.toList ds p := hA0
  rw [Tryz.params9] at hA hval
  obtain ⟨v0, v1, v2, v3, v4, d0, d1, d2, d3, d4, p0, p1, p2, p3, p4, rfl, rfl, rfl, h0, h1, h2, h3, h4⟩ := trodAll_five' hA
  obtain ⟨rfl, rfl⟩ := trodVars_none hV
  have k2 := h2
  have k3 := h3
  have k4 := h4
  have lt2 : ∀ x ∈ p2, x.block < W.heap.size := by obtain ⟨m, hm⟩ := k2; exact DataW.trod_lt m _ _ _ hm
  have lt3 : ∀ x ∈ p3, x.block < W.heap.size := by obtain ⟨m, hm⟩ := k3; exact DataW.trod_lt m _ _ _ hm
  have lt4 : ∀ x ∈ p4, x.block < W.heap.size := by obtain ⟨m, hm⟩ := k4; exact DataW.trod_lt m _ _ _ hm
  obtain ⟨n0, rfl, rfl, rfl, w0⟩ := open_int Tryz.underlying5 (hval 0 5 v0 rfl rfl) h0
  obtain ⟨n1, rfl, rfl, rfl, w1⟩ := open_int Tryz.underlying5 (hval 1 5 v1 rfl rfl) h1
  obtain ⟨ao, len, cap, rfl⟩ := okWide_slice Tryz.underlying22 (hval 2 22 v2 rfl rfl)
  obtain ⟨bo, lenb, capb, rfl⟩ := okWide_slice Tryz.underlying22 (hval 3 22 v3 rfl rfl)
  obtain ⟨co, lenc, capc, rfl⟩ := okWide_slice Tryz.underlying22 (hval 4 22 v4 rfl rfl)
  obtain ⟨f2, g2⟩ := h2
  obtain ⟨f3, g3⟩ := h3
  obtain ⟨f4, g4⟩ := h4
  obtain ⟨a, la, cla, e2, hcla, hlba, hsla, hwfa⟩ := ints_wf g2
  obtain ⟨b, lb, clb, e3, hclb, hlbb, hslb, hwfb⟩ := ints_wf g3
  obtain ⟨c, lc, clc, e4, hclc, hlbc, hslc, hwfc⟩ := ints_wf g4
  simp only [Value.slice.injEq] at e2 e3 e4
  obtain ⟨rfl, rfl, rfl⟩ := e2
  obtain ⟨rfl, rfl, rfl⟩ := e3
  obtain ⟨rfl, rfl, rfl⟩ := e4
  clear hA0 hval0
  have r0 := rng_u8 w0
  have r1 := rng_u8 w1
  refine (sol_any W n0 n1 ao bo co la lb lc cap capb capc r0.1 r0.2 r1.1 r1.2 hsla hwfa hslb hwfb hslc hwfc).mono fun e W' ⟨hE, he⟩ => ?_
  subst he
  have bel : Below W.heap.size W W' := hE.below
  exact ⟨_, rfl, _, _, _, [], _, [], hW', trodAll_mk1 (shut_bool Tryz.underlying4 _),
    (trodAll_cons_mk (shut_int Tryz.underlying5 w0) (trodAll_cons_mk (shut_int Tryz.underlying5 w1) (trodAll_cons_mk (Below.trod laid_out (by kernel_rfl) (of_decide_eq_true (by kernel_rfl)) k2 bel lt2)
      (trodAll_cons_mk (Below.trod laid_out (by kernel_rfl) (of_decide_eq_true (by kernel_rfl)) k3 bel lt3) (trodAll_cons_mk (Below.trod laid_out (by kernel_rfl) (of_decide_eq_true (by kernel_rfl)) k4 bel lt4) trodAll_mk0))))), rfl, bel.frame _, fun h => by cases h⟩

theorem holds : Rows.MatrixSolutionSolvesSaid :=
  OpenClaim.holds_of_wide 9 Tryz.f9 rfl rfl rfl rfl rfl rfl rfl ⟨rfl, rfl, rfl, rfl, rfl⟩ rfl rfl rfl rfl rfl (by kernel_rfl) Tryz.func9 closed
    (of_decide_eq_true (by kernel_rfl)) (by unfold Func.isWrapper; rw [if_neg (of_decide_eq_false (by kernel_rfl))]; exact ⟨rfl, rfl⟩)
    (fun os started H enc _ => lifted os started H enc)
#print axioms holds
end Go.Proofs.YtjbhcniiioepgaaGreat.sol
