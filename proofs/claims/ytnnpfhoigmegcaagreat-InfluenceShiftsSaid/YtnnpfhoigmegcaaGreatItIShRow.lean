/- The row of InfluenceShifts. -/
import Derived.Test.YtnnpfhoigmegcaaGreatItQ
set_option maxRecDepth 100000
set_option maxHeartbeats 1600000
namespace Go.Proofs.YtnnpfhoigmegcaaGreat.ishi
open Go.ChangeShapes Go.WideShapes Go.ChangeAt Go.RowKit Go.Rep Go.Lim
theorem c1y:Rows.influenceShiftsRow.wf (OpenSpec.ofChange Rows.influenceShiftsSpec)=true:=by kernel_rfl
theorem b6a:Tryz.f13.params.all (fun t=>Program.readableRec Tryz.pinned.checked.prog t)=true:=by kernel_rfl
theorem c0Z:namedTie Tryz.pinned.checked.prog Rows.influenceShiftsRow.named Rows.influenceShiftsSpec.vars=true:=by kernel_rfl
theorem b4e:(Rows.influenceShiftsRow.inPlace==Program.inPlace Tryz.pinned.checked.prog 13)=true:=by kernel_rfl
theorem c1a:(Rows.influenceShiftsRow.unfollowed==Program.unfollowed Tryz.pinned.checked.prog 13)=true:=by kernel_rfl
theorem c1b:(Rows.influenceShiftsRow.recurses==Program.recurses Tryz.pinned.checked.prog 13)=true:=by kernel_rfl
theorem b8x:(Rows.influenceShiftsRow.named==Program.varsNamed Tryz.pinned.checked.prog 13)=true:=by kernel_rfl
theorem closed:joinedFacts Tryz.pinned.checked.prog 13 Tryz.f13 Rows.influenceShiftsSpec Rows.influenceShiftsRow=true:=by
 unfold joinedFacts
 iterate 4 refine seat.and_t ?_ (by kernel_rfl)
 refine seat.and_t ?_ seat.make;refine seat.and_t ?_ seat.lifts;refine seat.and_t ?_ seat.enter;refine seat.and_t ?_ seat.heard;refine seat.and_t ?_ (by kernel_rfl);refine seat.and_t ?_ seat.plain
 iterate 9 refine seat.and_t ?_ (by kernel_rfl)
 refine seat.and_t ?_ b8x;refine seat.and_t ?_ c1b;refine seat.and_t ?_ c1a;refine seat.and_t ?_ b4e;refine seat.and_t ?_ seat.knobs;refine seat.and_t ?_ (by kernel_rfl);refine seat.and_t ?_ seat.stops;refine seat.and_t ?_ (by kernel_rfl);refine seat.and_t ?_ c0Z;refine seat.and_t ?_ b6a;refine seat.and_t ?_ seat.maps;exact seat.and_t c1y seat.laid
theorem own_knob:ownKnob Tryz.prog.godebug=none:=by kernel_rfl
theorem laid_out:laidOutB Tryz.prog=true:=by kernel_rfl
theorem lifted(G:Os)(b:G.Started)(H:Type)(enc:TypeId×Value->H):ReturnsInHanded {} Tryz.checked G 13 .any (Rows.influenceShiftsSpec.pre6 enc Tryz.prog Tryz.f13 Rows.influenceShiftsRow.domain false) (Rows.influenceShiftsSpec.post enc Tryz.prog Tryz.f13 false true false false):=by
 refine returnsInHanded_of_change (C:=Tryz.checked) own_knob b (by kernel_rfl) Tryz.func13
  (ChangeSpec.witness6 (enc:=enc) (C:=Tryz.checked) false ⟨#[],#[.slice none 0 0],[]⟩ 8 (by kernel_rfl) (by kernel_rfl) (by kernel_rfl) (by kernel_rfl)) ?_
 intro W base args I Z o a B D _;have c:∀(j:Nat) t v,Tryz.f13.params[j]? =some t->args[j]? =some v->Value.okWide Tryz.prog W .any base t v:=a;have s:=B;obtain⟨p,q,i,M,rfl,O,Q⟩:=B;have A:DataW.TrodAll enc Tryz.prog W 0 (fun _=>true) true Tryz.f13.params.toList args.toList I p:=i;rw[Tryz.params13]at A c;obtain⟨v0,T,X,J,R,q0,u,rfl,rfl,z,S⟩:=trodAll_cons A;obtain⟨rfl,rfl,rfl⟩:=trodAll_nil S;obtain rfl:args=#[v0]:=by cases args;simp_all
 obtain⟨rfl,rfl⟩:=trodVars_none M;have F:=z;have w:∀x∈R,x.block<W.heap.size:=by obtain⟨m,P⟩:=F;exact DataW.trod_lt m _ _ _ P
 obtain⟨Y,K⟩:=z;obtain⟨f,len0,d,rfl⟩:=okWide_slice Tryz.underlying22 (c 0 22 v0 rfl rfl);obtain⟨U,r,V,y,l,k,n,E⟩:=b8w K;simp only[Value.slice.injEq]at y;obtain⟨rfl,rfl,rfl⟩:=y;clear i a;refine((b2d f r d W n l k)).mono fun e W' ⟨L,N⟩=>?_;subst N;have g:Below W.heap.size W W':=L.below;exact⟨_,rfl,_,_,_,[],_,[],s,trodAll_mk1 (shut_bool Tryz.underlying4 _),
  (trodAll_cons_mk (Below.trod laid_out (by kernel_rfl) (of_decide_eq_true (by kernel_rfl)) F g w) trodAll_mk0),rfl,g.frame _,fun h=>by cases h⟩
theorem holds:Rows.InfluenceShiftsSaid:=
 OpenClaim.holds_of_wide 13 Tryz.f13 rfl rfl rfl rfl rfl rfl rfl ⟨rfl,rfl,rfl,rfl,rfl⟩ rfl rfl rfl rfl rfl (by kernel_rfl) Tryz.func13 closed
  (of_decide_eq_true (by kernel_rfl)) (by unfold Func.isWrapper;rw[if_neg (of_decide_eq_false (by kernel_rfl))];exact⟨rfl,rfl⟩)
  (fun b a H enc _=>lifted b a H enc)
#print axioms holds
end Go.Proofs.YtnnpfhoigmegcaaGreat.ishi
