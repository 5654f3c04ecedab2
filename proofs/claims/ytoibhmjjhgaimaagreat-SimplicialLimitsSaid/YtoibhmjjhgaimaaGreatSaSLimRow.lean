/- The row of SimplicialLimits. -/
import Derived.Test.YtoibhmjjhgaimaaGreatSaSLimRowxA
import Derived.Test.YtoibhmjjhgaimaaGreatSaP
namespace Go.Proofs.YtoibhmjjhgaimaaGreat.slim
open Go.ChangeShapes Go.WideShapes Go.ChangeAt Go.RowKit Go.Rep Go.Lim
theorem b6P:Rows.simplicialLimitsRow.wf (OpenSpec.ofChange Rows.simplicialLimitsSpec)=true:=by kernel_rfl
theorem a2E:Tryz.f12.params.all (fun t=>Program.readableRec Tryz.pinned.checked.prog t)=true:=by kernel_rfl
theorem a8F:namedTie Tryz.pinned.checked.prog Rows.simplicialLimitsRow.named Rows.simplicialLimitsSpec.vars=true:=by kernel_rfl
theorem a2j:(Rows.simplicialLimitsRow.inPlace==Program.inPlace Tryz.pinned.checked.prog 12)=true:=by kernel_rfl
theorem a8G:(Rows.simplicialLimitsRow.unfollowed==Program.unfollowed Tryz.pinned.checked.prog 12)=true:=by kernel_rfl
theorem a8H:(Rows.simplicialLimitsRow.recurses==Program.recurses Tryz.pinned.checked.prog 12)=true:=by kernel_rfl
theorem a3y:(Rows.simplicialLimitsRow.named==Program.varsNamed Tryz.pinned.checked.prog 12)=true:=by kernel_rfl
set_option maxRecDepth 100000 in
theorem closed:joinedFacts Tryz.pinned.checked.prog 12 Tryz.f12 Rows.simplicialLimitsSpec Rows.simplicialLimitsRow=true:=by
 unfold joinedFacts
 iterate 4 refine seat.and_t ?_ (by kernel_rfl)
 refine seat.and_t ?_ seat.make;refine seat.and_t ?_ seat.lifts;refine seat.and_t ?_ seat.enter;refine seat.and_t ?_ seat.heard;refine seat.and_t ?_ (by kernel_rfl);refine seat.and_t ?_ seat.plain
 iterate 9 refine seat.and_t ?_ (by kernel_rfl)
 refine seat.and_t ?_ a3y;refine seat.and_t ?_ a8H;refine seat.and_t ?_ a8G;refine seat.and_t ?_ a2j;refine seat.and_t ?_ seat.knobs;refine seat.and_t ?_ (by kernel_rfl);refine seat.and_t ?_ seat.stops;refine seat.and_t ?_ (by kernel_rfl);refine seat.and_t ?_ a8F;refine seat.and_t ?_ a2E;refine seat.and_t ?_ seat.maps;exact seat.and_t b6P seat.laid
theorem own_knob:ownKnob Tryz.prog.godebug=none:=by kernel_rfl
theorem laid_out:laidOutB Tryz.prog=true:=by kernel_rfl
set_option maxRecDepth 100000 in
set_option maxHeartbeats 1600000 in
theorem lifted (os:Os) (started:os.Started) (H:Type) (enc:TypeId×Value->H):
  ReturnsInHanded {} Tryz.checked os 12 .any (Rows.simplicialLimitsSpec.pre6 enc Tryz.prog Tryz.f12 Rows.simplicialLimitsRow.domain false) (Rows.simplicialLimitsSpec.post enc Tryz.prog Tryz.f12 false true false false):=by
 refine returnsInHanded_of_change (C:=Tryz.checked) own_knob started (by kernel_rfl) Tryz.func12
  (ChangeSpec.witness6 (enc:=enc) (C:=Tryz.checked) false ⟨#[],#[.int .u8 0],[]⟩ 8 (by kernel_rfl) (by kernel_rfl) (by kernel_rfl) (by kernel_rfl)) ?_
 intro W base args ds gs before hval0 hW hcnd _;have hval:∀(j:Nat) t v,Tryz.f12.params[j]? =some t->args[j]? =some v->Value.okWide Tryz.prog W .any base t v:=hval0;have hW':=hW;obtain⟨p,q,hA0,hV,rfl,hfz,hnd⟩:=hW;have hA:DataW.TrodAll enc Tryz.prog W 0 (fun _=>true) true Tryz.f12.params.toList args.toList ds p:=hA0;rw[Tryz.params12]at hA hval;obtain⟨v0,vs0,d0,ds0,p0,q0,hargs,rfl,rfl,h0,r0⟩:=trodAll_cons hA;obtain⟨rfl,rfl,rfl⟩:=trodAll_nil r0;obtain rfl:args=#[v0]:=by cases args;simp_all
 obtain⟨rfl,rfl⟩:=trodVars_none hV;obtain⟨n_0,rfl,rfl,rfl,w0⟩:=open_int Tryz.underlying5 (hval 0 5 v0 rfl rfl) h0;have r_0:=c0H w0;clear hA0 hval0;refine(b4T n_0 W r_0.1 r_0.2).mono fun e W' ⟨hE,he⟩=>?_;subst he;have bel:Below W.heap.size W W':=hE.below;exact⟨_,rfl,_,_,_,[],_,[],hW',trodAll_mk1 (shut_bool Tryz.underlying4 _),
  (trodAll_cons_mk (shut_int Tryz.underlying5 w0) trodAll_mk0),rfl,bel.frame _,fun h=>by cases h⟩
theorem holds:Rows.SimplicialLimitsSaid:=
 OpenClaim.holds_of_wide 12 Tryz.f12 rfl rfl rfl rfl rfl rfl rfl ⟨rfl,rfl,rfl,rfl,rfl⟩ rfl rfl rfl rfl rfl (by kernel_rfl) Tryz.func12 closed
  (of_decide_eq_true (by kernel_rfl)) (by unfold Func.isWrapper;rw[if_neg (of_decide_eq_false (by kernel_rfl))];exact⟨rfl,rfl⟩)
  (fun os started H enc _=>lifted os started H enc)
#print axioms holds
end Go.Proofs.YtoibhmjjhgaimaaGreat.slim
