/- The row of BreakdownGreatest. -/
import Derived.Test.YtnnpfhoigmegcaaGreatFlBGrtRowxA
namespace Go.Proofs.YtnnpfhoigmegcaaGreat.bgrt
open Go.ChangeShapes Go.WideShapes Go.ChangeAt Go.RowKit Go.Rep Go.Lim
theorem j_wf : Rows.breakdownGreatestRow.wf (OpenSpec.ofChange Rows.breakdownGreatestSpec) = true := by kernel_rfl
theorem j_params : Tryz.f6.params.all (fun t => Program.readableRec Tryz.pinned.checked.prog t) = true := by kernel_rfl
theorem j_tie : namedTie Tryz.pinned.checked.prog Rows.breakdownGreatestRow.named Rows.breakdownGreatestSpec.vars = true := by kernel_rfl
theorem j_inPlace : (Rows.breakdownGreatestRow.inPlace == Program.inPlace Tryz.pinned.checked.prog 6) = true := by kernel_rfl
theorem j_unf : (Rows.breakdownGreatestRow.unfollowed == Program.unfollowed Tryz.pinned.checked.prog 6) = true := by kernel_rfl
theorem j_rec : (Rows.breakdownGreatestRow.recurses == Program.recurses Tryz.pinned.checked.prog 6) = true := by kernel_rfl
theorem j_named : (Rows.breakdownGreatestRow.named == Program.varsNamed Tryz.pinned.checked.prog 6) = true := by kernel_rfl
set_option maxRecDepth 100000 in
theorem closed : joinedFacts Tryz.pinned.checked.prog 6 Tryz.f6 Rows.breakdownGreatestSpec Rows.breakdownGreatestRow = true := by
  unfold joinedFacts
  iterate 4 refine seat.and_t ?_ (by kernel_rfl)
  refine seat.and_t ?_ seat.make
  refine seat.and_t ?_ seat.lifts
  refine seat.and_t ?_ seat.enter
  refine seat.and_t ?_ seat.heard
  refine seat.and_t ?_ (by kernel_rfl)
  refine seat.and_t ?_ seat.plain
  iterate 9 refine seat.and_t ?_ (by kernel_rfl)
  refine seat.and_t ?_ j_named
  refine seat.and_t ?_ j_rec
  refine seat.and_t ?_ j_unf
  refine seat.and_t ?_ j_inPlace
  refine seat.and_t ?_ seat.knobs
  refine seat.and_t ?_ (by kernel_rfl)
  refine seat.and_t ?_ seat.stops
  refine seat.and_t ?_ (by kernel_rfl)
  refine seat.and_t ?_ j_tie
  refine seat.and_t ?_ j_params
  refine seat.and_t ?_ seat.maps
  exact seat.and_t j_wf seat.laid
theorem own_knob : ownKnob Tryz.prog.godebug = none := by kernel_rfl
theorem laid_out : laidOutB Tryz.prog = true := by kernel_rfl
set_option maxRecDepth 100000 in
set_option maxHeartbeats 1600000 in
theorem lifted (os : Os) (started : os.Started) (H : Type) (enc : TypeId × Value -> H) :
    ReturnsInHanded {} Tryz.checked os 6 .any (Rows.breakdownGreatestSpec.pre6 enc Tryz.prog Tryz.f6 Rows.breakdownGreatestRow.domain false) (Rows.breakdownGreatestSpec.post enc Tryz.prog Tryz.f6 false true false false) := by
  refine returnsInHanded_of_change (C := Tryz.checked) own_knob started (by kernel_rfl) Tryz.func6
    (ChangeSpec.witness6 (enc := enc) (C := Tryz.checked) false ⟨#[], #[.slice none 0 0], []⟩ 8 (by kernel_rfl) (by kernel_rfl) (by kernel_rfl) (by kernel_rfl)) ?_
  intro W base args ds gs before hval0 hW hcnd _
  have hval : ∀ (j : Nat) t v, Tryz.f6.params[j]? = some t -> args[j]? = some v -> Value.okWide Tryz.prog W .any base t v := hval0
  have hW' := hW
  obtain ⟨p, q, hA0, hV, rfl, hfz, hnd⟩ := hW
  have hA : DataW.TrodAll enc Tryz.prog W 0 (fun _ => true) true Tryz.f6.params.toList args.toList ds p := hA0
  rw [Tryz.params6] at hA hval
  obtain ⟨v0, vs0, d0, ds0, p0, q0, hargs, rfl, rfl, h0, r0⟩ := trodAll_cons hA
  obtain ⟨rfl, rfl, rfl⟩ := trodAll_nil r0
  obtain rfl : args = #[v0] := by cases args; simp_all
  obtain ⟨rfl, rfl⟩ := trodVars_none hV
  have k0 := h0
  have lt0 : ∀ x ∈ p0, x.block < W.heap.size := by obtain ⟨m, hm⟩ := k0; exact DataW.trod_lt m _ _ _ hm
  obtain ⟨f0, g0⟩ := h0
  obtain ⟨ao_0, len0, cap_0, rfl⟩ := okWide_slice Tryz.underlying22 (hval 0 22 v0 rfl rfl)
  obtain ⟨a0, L_0, c0, e0, hc_0, hb_0, hs_0, hw_0⟩ := ints_wf g0
  simp only [Value.slice.injEq] at e0
  obtain ⟨rfl, rfl, rfl⟩ := e0
  clear hA0 hval0
  refine ((grt_any ao_0 L_0 cap_0 W hs_0 hc_0 hb_0)).mono fun e W' ⟨hE, he⟩ => ?_
  subst he
  have bel : Below W.heap.size W W' := hE.below
  exact ⟨_, rfl, _, _, _, [], _, [], hW', trodAll_mk1 (shut_bool Tryz.underlying4 _),
    (trodAll_cons_mk (Below.trod laid_out (by kernel_rfl) (of_decide_eq_true (by kernel_rfl)) k0 bel lt0) trodAll_mk0), rfl, bel.frame _, fun h => by cases h⟩
theorem holds : Rows.BreakdownGreatestSaid :=
  OpenClaim.holds_of_wide 6 Tryz.f6 rfl rfl rfl rfl rfl rfl rfl ⟨rfl, rfl, rfl, rfl, rfl⟩ rfl rfl rfl rfl rfl (by kernel_rfl) Tryz.func6 closed
    (of_decide_eq_true (by kernel_rfl)) (by unfold Func.isWrapper; rw [if_neg (of_decide_eq_false (by kernel_rfl))]; exact ⟨rfl, rfl⟩)
    (fun os started H enc _ => lifted os started H enc)
#print axioms holds
end Go.Proofs.YtnnpfhoigmegcaaGreat.bgrt
