/- The row of MatrixInverseIsTwoSided. -/
import Derived.Test.YtjbhcniiioepgaaGreatIvU
import Derived.Test.YtjbhcniiioepgaaGreatIvV
namespace Go.Proofs.YtjbhcniiioepgaaGreat.inv
open Go.ChangeShapes Go.WideShapes Go.ChangeAt Go.RowKit Go.Rep Go.Lim

theorem j_wf : Rows.matrixInverseIsTwoSidedRow.wf (OpenSpec.ofChange Rows.matrixInverseIsTwoSidedSpec) = true := by kernel_rfl
theorem j_params : Tryz.f10.params.all (fun t => Program.readableRec Tryz.pinned.checked.prog t) = true := by kernel_rfl
theorem j_tie : namedTie Tryz.pinned.checked.prog Rows.matrixInverseIsTwoSidedRow.named Rows.matrixInverseIsTwoSidedSpec.vars = true := by kernel_rfl
theorem j_inPlace : (Rows.matrixInverseIsTwoSidedRow.inPlace == Program.inPlace Tryz.pinned.checked.prog 10) = true := by kernel_rfl
theorem j_unf : (Rows.matrixInverseIsTwoSidedRow.unfollowed == Program.unfollowed Tryz.pinned.checked.prog 10) = true := by kernel_rfl
theorem j_rec : (Rows.matrixInverseIsTwoSidedRow.recurses == Program.recurses Tryz.pinned.checked.prog 10) = true := by kernel_rfl
theorem j_named : (Rows.matrixInverseIsTwoSidedRow.named == Program.varsNamed Tryz.pinned.checked.prog 10) = true := by kernel_rfl
set_option maxRecDepth 100000 in
theorem closed : joinedFacts Tryz.pinned.checked.prog 10 Tryz.f10 Rows.matrixInverseIsTwoSidedSpec Rows.matrixInverseIsTwoSidedRow = true := by
  unfold joinedFacts
  iterate 4 refine seat.and_t ?_ (by kernel_rfl)
  refine seat.and_t ?_ seat.make
  refine seat.and_t ?_ seat.lifts
  refine seat.and_t ?_ seat.enter
  refine seat.and_t ?_ seat.heard
  refine seat.and_t ?_ (by kernel_rfl)
  refine seat.and_t ?_ seat.plain
  iterate 9 refine seat.and_t ?_ (by kernel_rfl)
  refine seat.and_t ?_ j_named
  refine seat.and_t ?_ j_rec
  refine seat.and_t ?_ j_unf
  refine seat.and_t ?_ j_inPlace
  refine seat.and_t ?_ seat.knobs
  refine seat.and_t ?_ (by kernel_rfl)
  refine seat.and_t ?_ seat.stops
  refine seat.and_t ?_ (by kernel_rfl)
  refine seat.and_t ?_ j_tie
  refine seat.and_t ?_ j_params
  refine seat.and_t ?_ seat.maps
  exact seat.and_t j_wf seat.laid

theorem own_knob : ownKnob Tryz.prog.godebug = none := by kernel_rfl
theorem laid_out : laidOutB Tryz.prog = true := by kernel_rfl

set_option maxRecDepth 100000 in
theorem lifted (os : Os) (started : os.Started) (H : Type) (enc : TypeId × Value → H) :
    ReturnsInHanded {} Tryz.checked os 10 .any (Rows.matrixInverseIsTwoSidedSpec.pre6 enc Tryz.prog Tryz.f10 Rows.matrixInverseIsTwoSidedRow.domain false) (Rows.matrixInverseIsTwoSidedSpec.post enc Tryz.prog Tryz.f10 false true false false) := by
  refine returnsInHanded_of_change (C := Tryz.checked) own_knob started (by kernel_rfl) Tryz.func10
    (ChangeSpec.witness6 (enc := enc) (C := Tryz.checked) false ⟨#[], #[.int .u8 0, .slice none 0 0], []⟩ 8 (by kernel_rfl) (by kernel_rfl) (by kernel_rfl) (by kernel_rfl)) ?_
  intro W base args ds gs before hval0 hW hcnd _
  have hval : ∀ (j : Nat) t v, Tryz.f10.params[j]? = some t → args[j]? = some v → Value.okWide Tryz.prog W .any base t v := hval0
  have hW' := hW
  obtain ⟨p, q, hA0, hV, rfl, hfz, hnd⟩ := hW
  have hA : DataW.TrodAll enc Tryz.prog W 0 (fun _ => true) true Tryz.f10.params.toList args.toList ds p := hA0
  rw [Tryz.params10] at hA hval
  obtain ⟨v0, v1, d0, d1, p0, p1, rfl, rfl, rfl, h0, h1⟩ := trodAll_two' hA
  obtain ⟨rfl, rfl⟩ := trodVars_none hV
  have k1 := h1
  have lt1 : ∀ x ∈ p1, x.block < W.heap.size := by obtain ⟨m, hm⟩ := k1; exact DataW.trod_lt m _ _ _ hm
  obtain ⟨n0, rfl, rfl, rfl, w0⟩ := open_int Tryz.underlying5 (hval 0 5 v0 rfl rfl) h0
  obtain ⟨ao, len, cap, rfl⟩ := okWide_slice Tryz.underlying22 (hval 1 22 v1 rfl rfl)
  obtain ⟨f1, g1⟩ := h1
  obtain ⟨a, l, cl, e1, hcl, hlb, hsl, hwf⟩ := ints_wf g1
  simp only [Value.slice.injEq] at e1
  obtain ⟨rfl, rfl, rfl⟩ := e1
  clear hA0 hval0
  have r0 := rng_u8 w0
  refine (inv_any W n0 ao l cap r0.1 r0.2 hsl hwf).mono fun e W' ⟨hE, he⟩ => ?_
  subst he
  have bel : Below W.heap.size W W' := hE.below
  exact ⟨_, rfl, _, _, _, [], _, [], hW', trodAll_mk1 (shut_bool Tryz.underlying4 _),
    (trodAll_cons_mk (shut_int Tryz.underlying5 w0) (trodAll_cons_mk (Below.trod laid_out (by kernel_rfl) (of_decide_eq_true (by kernel_rfl)) k1 bel lt1) trodAll_mk0)), rfl, bel.frame _, fun h => by cases h⟩

theorem holds : Rows.MatrixInverseIsTwoSidedSaid :=
  OpenClaim.holds_of_wide 10 Tryz.f10 rfl rfl rfl rfl rfl rfl rfl ⟨rfl, rfl, rfl, rfl, rfl⟩ rfl rfl rfl rfl rfl (by kernel_rfl) Tryz.func10 closed
    (of_decide_eq_true (by kernel_rfl)) (by unfold Func.isWrapper; rw [if_neg (of_decide_eq_false (by kernel_rfl))]; exact ⟨rfl, rfl⟩)
    (fun os started H enc _ => lifted os started H enc)
#print axioms holds
end Go.Proofs.YtjbhcniiioepgaaGreat.inv
