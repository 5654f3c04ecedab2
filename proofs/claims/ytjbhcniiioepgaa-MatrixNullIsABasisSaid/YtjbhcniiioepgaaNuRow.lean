/- The row of MatrixNullIsABasis. -/
import Derived.Test.YtjbhcniiioepgaaNuR
namespace Go.Proofs.Ytjbhcniiioepgaa.basis
open Go.ChangeShapes Go.WideShapes Go.ChangeAt Go.RowKit Go.Rep Go.Lim

theorem j_wf : Rows.matrixNullIsABasisRow.wf (OpenSpec.ofChange Rows.matrixNullIsABasisSpec) = true := by kernel_rfl
theorem j_params : Try.f3.params.all (fun t => Program.readableRec Try.pinned.checked.prog t) = true := by kernel_rfl
theorem j_tie : namedTie Try.pinned.checked.prog Rows.matrixNullIsABasisRow.named Rows.matrixNullIsABasisSpec.vars = true := by kernel_rfl
theorem j_inPlace : (Rows.matrixNullIsABasisRow.inPlace == Program.inPlace Try.pinned.checked.prog 3) = true := by kernel_rfl
theorem j_unf : (Rows.matrixNullIsABasisRow.unfollowed == Program.unfollowed Try.pinned.checked.prog 3) = true := by kernel_rfl
theorem j_rec : (Rows.matrixNullIsABasisRow.recurses == Program.recurses Try.pinned.checked.prog 3) = true := by kernel_rfl
theorem j_named : (Rows.matrixNullIsABasisRow.named == Program.varsNamed Try.pinned.checked.prog 3) = true := by kernel_rfl
set_option maxRecDepth 100000 in
theorem closed : joinedFacts Try.pinned.checked.prog 3 Try.f3 Rows.matrixNullIsABasisSpec Rows.matrixNullIsABasisRow = true := by
  unfold joinedFacts
  iterate 4 refine seat.and_t ?_ (by kernel_rfl)
  refine seat.and_t ?_ seat.make
  refine seat.and_t ?_ seat.lifts
  refine seat.and_t ?_ seat.enter
  refine seat.and_t ?_ seat.heard
  refine seat.and_t ?_ (by kernel_rfl)
  refine seat.and_t ?_ seat.plain
  iterate 9 refine seat.and_t ?_ (by kernel_rfl)
  refine seat.and_t ?_ j_named
  refine seat.and_t ?_ j_rec
  refine seat.and_t ?_ j_unf
  refine seat.and_t ?_ j_inPlace
  refine seat.and_t ?_ seat.knobs
  refine seat.and_t ?_ (by kernel_rfl)
  refine seat.and_t ?_ seat.stops
  refine seat.and_t ?_ (by kernel_rfl)
  refine seat.and_t ?_ j_tie
  refine seat.and_t ?_ j_params
  refine seat.and_t ?_ seat.maps
  exact seat.and_t j_wf seat.laid

theorem own_knob : ownKnob Try.prog.godebug = none := by kernel_rfl
theorem laid_out : laidOutB Try.prog = true := by kernel_rfl

set_option maxRecDepth 100000 in
theorem lifted (os : Os) (started : os.Started) (H : Type) (enc : TypeId × Value → H) :
    ReturnsInHanded {} Try.checked os 3 .any (Rows.matrixNullIsABasisSpec.pre6 enc Try.prog Try.f3 Rows.matrixNullIsABasisRow.domain false) (Rows.matrixNullIsABasisSpec.post enc Try.prog Try.f3 false true false false) := by
  refine returnsInHanded_of_change (C := Try.checked) own_knob started (by kernel_rfl) Try.func3
    (ChangeSpec.witness6 (enc := enc) (C := Try.checked) false ⟨#[], #[.int .u8 0, .int .u8 0, .slice none 0 0], []⟩ 8 (by kernel_rfl) (by kernel_rfl) (by kernel_rfl) (by kernel_rfl)) ?_
  intro W base args ds gs before hval0 hW hcnd _
  have hval : ∀ (j : Nat) t v, Try.f3.params[j]? = some t → args[j]? = some v → Value.okWide Try.prog W .any base t v := hval0
  have hW' := hW
  obtain ⟨p, q, hA0, hV, rfl, hfz, hnd⟩ := hW
  have hA : DataW.TrodAll enc Try.prog W 0 (fun _ => true) true Try.f3.params.toList args.toList ds p := hA0
  rw [Try.params3] at hA hval
  obtain ⟨v0, v1, v2, d0, d1, d2, p0, p1, p2, rfl, rfl, rfl, h0, h1, h2⟩ := trodAll_three' hA
  obtain ⟨rfl, rfl⟩ := trodVars_none hV
  have k2 := h2
  have lt2 : ∀ x ∈ p2, x.block < W.heap.size := by obtain ⟨m, hm⟩ := k2; exact DataW.trod_lt m _ _ _ hm
  obtain ⟨n0, rfl, rfl, rfl, w0⟩ := open_int Try.underlying5 (hval 0 5 v0 rfl rfl) h0
  obtain ⟨n1, rfl, rfl, rfl, w1⟩ := open_int Try.underlying5 (hval 1 5 v1 rfl rfl) h1
  obtain ⟨ao, len, cap, rfl⟩ := okWide_slice Try.underlying22 (hval 2 22 v2 rfl rfl)
  obtain ⟨f2, g2⟩ := h2
  obtain ⟨a, la, cla, e2, hcla, hlba, hsla, hwfa⟩ := ints_wf g2
  simp only [Value.slice.injEq] at e2
  obtain ⟨rfl, rfl, rfl⟩ := e2
  clear hA0 hval0
  have r0 := rng_u8 w0
  have r1 := rng_u8 w1
  refine (basis_any W n0 n1 ao la cap r0.1 r0.2 r1.1 r1.2 hsla hwfa).mono fun e W' ⟨hE, he⟩ => ?_
  subst he
  have bel : Below W.heap.size W W' := hE.below
  exact ⟨_, rfl, _, _, _, [], _, [], hW', trodAll_mk1 (shut_bool Try.underlying4 _),
    (trodAll_cons_mk (shut_int Try.underlying5 w0) (trodAll_cons_mk (shut_int Try.underlying5 w1) (trodAll_cons_mk (Below.trod laid_out (by kernel_rfl) (of_decide_eq_true (by kernel_rfl)) k2 bel lt2) trodAll_mk0))), rfl, bel.frame _, fun h => by cases h⟩

theorem holds : Rows.MatrixNullIsABasisSaid :=
  OpenClaim.holds_of_wide 3 Try.f3 rfl rfl rfl rfl rfl rfl rfl ⟨rfl, rfl, rfl, rfl, rfl⟩ rfl rfl rfl rfl rfl (by kernel_rfl) Try.func3 closed
    (of_decide_eq_true (by kernel_rfl)) (by unfold Func.isWrapper; rw [if_neg (of_decide_eq_false (by kernel_rfl))]; exact ⟨rfl, rfl⟩)
    (fun os started H enc _ => lifted os started H enc)
#print axioms holds
end Go.Proofs.Ytjbhcniiioepgaa.basis
