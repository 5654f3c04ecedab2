/- The row of BreakdownCarries. -/
import Derived.Test.YtnnpfhoigmegcaaGreatBcL
set_option maxRecDepth 100000
set_option maxHeartbeats 1600000
namespace Go.Proofs.YtnnpfhoigmegcaaGreat.bcar
open Go.ChangeShapes Go.WideShapes Go.ChangeAt Go.RowKit Go.Rep Go.Lim
theorem b7N:Rows.breakdownCarriesRow.wf (OpenSpec.ofChange Rows.breakdownCarriesSpec)=true:=by kernel_rfl
theorem b1Q:Tryz.f8.params.all (fun t=>Program.readableRec Tryz.pinned.checked.prog t)=true:=by kernel_rfl
theorem b6P:namedTie Tryz.pinned.checked.prog Rows.breakdownCarriesRow.named Rows.breakdownCarriesSpec.vars=true:=by kernel_rfl
theorem a9T:(Rows.breakdownCarriesRow.inPlace==Program.inPlace Tryz.pinned.checked.prog 8)=true:=by kernel_rfl
theorem b6Q:(Rows.breakdownCarriesRow.unfollowed==Program.unfollowed Tryz.pinned.checked.prog 8)=true:=by kernel_rfl
theorem b6R:(Rows.breakdownCarriesRow.recurses==Program.recurses Tryz.pinned.checked.prog 8)=true:=by kernel_rfl
theorem b4c:(Rows.breakdownCarriesRow.named==Program.varsNamed Tryz.pinned.checked.prog 8)=true:=by kernel_rfl
theorem closed:joinedFacts Tryz.pinned.checked.prog 8 Tryz.f8 Rows.breakdownCarriesSpec Rows.breakdownCarriesRow=true:=by
 unfold joinedFacts
 iterate 4 refine seat.and_t ?_ (by kernel_rfl)
 refine seat.and_t ?_ seat.make;refine seat.and_t ?_ seat.lifts;refine seat.and_t ?_ seat.enter;refine seat.and_t ?_ seat.heard;refine seat.and_t ?_ (by kernel_rfl);refine seat.and_t ?_ seat.plain
 iterate 9 refine seat.and_t ?_ (by kernel_rfl)
 refine seat.and_t ?_ b4c;refine seat.and_t ?_ b6R;refine seat.and_t ?_ b6Q;refine seat.and_t ?_ a9T;refine seat.and_t ?_ seat.knobs;refine seat.and_t ?_ (by kernel_rfl);refine seat.and_t ?_ seat.stops;refine seat.and_t ?_ (by kernel_rfl);refine seat.and_t ?_ b6P;refine seat.and_t ?_ b1Q;refine seat.and_t ?_ seat.maps;exact seat.and_t b7N seat.laid
theorem own_knob:ownKnob Tryz.prog.godebug=none:=by kernel_rfl
theorem laid_out:laidOutB Tryz.prog=true:=by kernel_rfl
theorem lifted(I:Os)(b:I.Started)(H:Type)(enc:TypeId×Value->H):ReturnsInHanded {} Tryz.checked I 8 .any (Rows.breakdownCarriesSpec.pre6 enc Tryz.prog Tryz.f8 Rows.breakdownCarriesRow.domain false) (Rows.breakdownCarriesSpec.post enc Tryz.prog Tryz.f8 false true false false):=by
 refine returnsInHanded_of_change (C:=Tryz.checked) own_knob b (by kernel_rfl) Tryz.func8
  (ChangeSpec.witness6 (enc:=enc) (C:=Tryz.checked) false ⟨#[],#[.slice none 0 0],[]⟩ 8 (by kernel_rfl) (by kernel_rfl) (by kernel_rfl) (by kernel_rfl)) ?_
 intro W g args J gs r a D E _;have c:∀(j:Nat) t v,Tryz.f8.params[j]? =some t->args[j]? =some v->Value.okWide Tryz.prog W .any g t v:=a;have u:=D;obtain⟨p,q,k,N,rfl,P,R⟩:=D;have B:DataW.TrodAll enc Tryz.prog W 0 (fun _=>true) true Tryz.f8.params.toList args.toList J p:=k;rw[Tryz.params8]at B c;obtain⟨v0,U,Y,K,S,q0,w,rfl,rfl,A,T⟩:=trodAll_cons B;obtain⟨rfl,rfl,rfl⟩:=trodAll_nil T;obtain rfl:args=#[v0]:=by cases args;simp_all
 obtain⟨rfl,rfl⟩:=trodVars_none N;have G:=A;have y:∀x∈S,x.block<W.heap.size:=by obtain⟨m,Q⟩:=G;exact DataW.trod_lt m _ _ _ Q
 obtain⟨Z,L⟩:=A;obtain⟨f,len0,d,rfl⟩:=okWide_slice Tryz.underlying22 (c 0 22 v0 rfl rfl);obtain⟨V,s,X,z,n,l,o,F⟩:=b5z L;simp only[Value.slice.injEq]at z;obtain⟨rfl,rfl,rfl⟩:=z;clear k a;refine((a8k f s d W o n l)).mono fun e W' ⟨M,O⟩=>?_;subst O;have i:Below W.heap.size W W':=M.below;exact⟨_,rfl,_,_,_,[],_,[],u,trodAll_mk1 (shut_bool Tryz.underlying4 _),
  (trodAll_cons_mk (Below.trod laid_out (by kernel_rfl) (of_decide_eq_true (by kernel_rfl)) G i y) trodAll_mk0),rfl,i.frame _,fun h=>by cases h⟩
theorem holds:Rows.BreakdownCarriesSaid:=
 OpenClaim.holds_of_wide 8 Tryz.f8 rfl rfl rfl rfl rfl rfl rfl ⟨rfl,rfl,rfl,rfl,rfl⟩ rfl rfl rfl rfl rfl (by kernel_rfl) Tryz.func8 closed
  (of_decide_eq_true (by kernel_rfl)) (by unfold Func.isWrapper;rw[if_neg (of_decide_eq_false (by kernel_rfl))];exact⟨rfl,rfl⟩)
  (fun b a H enc _=>lifted b a H enc)
#print axioms holds
end Go.Proofs.YtnnpfhoigmegcaaGreat.bcar
