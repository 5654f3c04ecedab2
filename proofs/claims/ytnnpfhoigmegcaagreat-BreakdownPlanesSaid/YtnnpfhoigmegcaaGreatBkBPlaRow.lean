/- The row of BreakdownPlanes. -/
import Derived.Test.YtnnpfhoigmegcaaGreatBkN
set_option maxRecDepth 100000
set_option maxHeartbeats 1600000
namespace Go.Proofs.YtnnpfhoigmegcaaGreat.bpla
open Go.ChangeShapes Go.WideShapes Go.ChangeAt Go.RowKit Go.Rep Go.Lim
theorem b8g:Rows.breakdownPlanesRow.wf (OpenSpec.ofChange Rows.breakdownPlanesSpec)=true:=by kernel_rfl
theorem a7d:Tryz.f9.params.all (fun t=>Program.readableRec Tryz.pinned.checked.prog t)=true:=by kernel_rfl
theorem b5y:namedTie Tryz.pinned.checked.prog Rows.breakdownPlanesRow.named Rows.breakdownPlanesSpec.vars=true:=by kernel_rfl
theorem a5P:(Rows.breakdownPlanesRow.inPlace==Program.inPlace Tryz.pinned.checked.prog 9)=true:=by kernel_rfl
theorem b5z:(Rows.breakdownPlanesRow.unfollowed==Program.unfollowed Tryz.pinned.checked.prog 9)=true:=by kernel_rfl
theorem b5A:(Rows.breakdownPlanesRow.recurses==Program.recurses Tryz.pinned.checked.prog 9)=true:=by kernel_rfl
theorem a8y:(Rows.breakdownPlanesRow.named==Program.varsNamed Tryz.pinned.checked.prog 9)=true:=by kernel_rfl
theorem closed:joinedFacts Tryz.pinned.checked.prog 9 Tryz.f9 Rows.breakdownPlanesSpec Rows.breakdownPlanesRow=true:=by
 unfold joinedFacts
 iterate 4 refine seat.and_t ?_ (by kernel_rfl)
 refine seat.and_t ?_ seat.make;refine seat.and_t ?_ seat.lifts;refine seat.and_t ?_ seat.enter;refine seat.and_t ?_ seat.heard;refine seat.and_t ?_ (by kernel_rfl);refine seat.and_t ?_ seat.plain
 iterate 9 refine seat.and_t ?_ (by kernel_rfl)
 refine seat.and_t ?_ a8y;refine seat.and_t ?_ b5A;refine seat.and_t ?_ b5z;refine seat.and_t ?_ a5P;refine seat.and_t ?_ seat.knobs;refine seat.and_t ?_ (by kernel_rfl);refine seat.and_t ?_ seat.stops;refine seat.and_t ?_ (by kernel_rfl);refine seat.and_t ?_ b5y;refine seat.and_t ?_ a7d;refine seat.and_t ?_ seat.maps;exact seat.and_t b8g seat.laid
theorem own_knob:ownKnob Tryz.prog.godebug=none:=by kernel_rfl
theorem laid_out:laidOutB Tryz.prog=true:=by kernel_rfl
theorem lifted(X:Os)(d:X.Started)(H:Type)(enc:TypeId×Value->H):ReturnsInHanded {} Tryz.checked X 9 .any (Rows.breakdownPlanesSpec.pre6 enc Tryz.prog Tryz.f9 Rows.breakdownPlanesRow.domain false) (Rows.breakdownPlanesSpec.post enc Tryz.prog Tryz.f9 false true false false):=by
 refine returnsInHanded_of_change (C:=Tryz.checked) own_knob d (by kernel_rfl) Tryz.func9
  (ChangeSpec.witness6 (enc:=enc) (C:=Tryz.checked) false ⟨#[],#[.slice none 0 0, .slice none 0 0, .int .i64 0],[]⟩ 8 (by kernel_rfl) (by kernel_rfl) (by kernel_rfl) (by kernel_rfl)) ?_
 intro W n args Z gs A c P Q _;have a:∀(j:Nat) t v,Tryz.f9.params[j]? =some t->args[j]? =some v->Value.okWide Tryz.prog W .any n t v:=c;have D:=P;obtain⟨p,q,o,hV,rfl,a5,a6⟩:=P;have O:DataW.TrodAll enc Tryz.prog W 0 (fun _=>true) true Tryz.f9.params.toList args.toList Z p:=o;rw[Tryz.params9]at O a;obtain⟨v0,a7,d0,a2,p0,q0,E,rfl,rfl,M,r0⟩:=trodAll_cons O;obtain⟨v1,a8,d1,a3,p1,q1,rfl,rfl,rfl,N,r1⟩:=trodAll_cons r0;obtain⟨v2,a9,d2,a4,p2,q2,rfl,rfl,rfl,h2,r2⟩:=trodAll_cons r1;obtain⟨rfl,rfl,rfl⟩:=trodAll_nil r2;obtain rfl:args=#[v0,v1,v2]:=by cases args;simp_all
 obtain⟨rfl,rfl⟩:=trodVars_none hV;have T:=M;have G:∀x∈p0,x.block<W.heap.size:=by obtain⟨m,F⟩:=T;exact DataW.trod_lt m _ _ _ F
 have U:=N;have lt1:∀x∈p1,x.block<W.heap.size:=by obtain⟨m,F⟩:=U;exact DataW.trod_lt m _ _ _ F
 obtain⟨f0,g0⟩:=M;obtain⟨l,len0,k,rfl⟩:=okWide_slice Tryz.underlying22 (a 0 22 v0 rfl rfl);obtain⟨a0,B,c0,K,s,r,w,S⟩:=b2L g0;simp only[Value.slice.injEq]at K;obtain⟨rfl,rfl,rfl⟩:=K;obtain⟨f1,g1⟩:=N;obtain⟨f,V,b,rfl⟩:=okWide_slice Tryz.underlying25 (a 1 25 v1 rfl rfl);obtain⟨a1,g,c1,L,u,R,y⟩:=b0i g1;simp only[Value.slice.injEq]at L;obtain⟨rfl,rfl,rfl⟩:=L;have I:MR (mk noY W) (.slice f g.length b) g:=⟨f,b,rfl,u,by rw[a3k];exact y⟩;obtain⟨J,rfl,rfl,rfl,Y⟩:=open_int Tryz.underlying3 (a 2 3 v2 rfl rfl) h2;have z:=a9l Y;clear o c;refine((b0H l B k _ g J W w s r I z.1 z.2)).mono fun e W' ⟨hE,he⟩=>?_;subst he;have i:Below W.heap.size W W':=hE.below;exact⟨_,rfl,_,_,_,[],_,[],D,trodAll_mk1 (shut_bool Tryz.underlying4 _),
  (trodAll_cons_mk (Below.trod laid_out (by kernel_rfl) (of_decide_eq_true (by kernel_rfl)) T i G) (trodAll_cons_mk (Below.trod laid_out (by kernel_rfl) (of_decide_eq_true (by kernel_rfl)) U i lt1) (trodAll_cons_mk (shut_int Tryz.underlying3 Y) trodAll_mk0))),rfl,i.frame _,fun h=>by cases h⟩
theorem holds:Rows.BreakdownPlanesSaid:=
 OpenClaim.holds_of_wide 9 Tryz.f9 rfl rfl rfl rfl rfl rfl rfl ⟨rfl,rfl,rfl,rfl,rfl⟩ rfl rfl rfl rfl rfl (by kernel_rfl) Tryz.func9 closed
  (of_decide_eq_true (by kernel_rfl)) (by unfold Func.isWrapper;rw[if_neg (of_decide_eq_false (by kernel_rfl))];exact⟨rfl,rfl⟩)
  (fun b a H enc _=>lifted b a H enc)
#print axioms holds
end Go.Proofs.YtnnpfhoigmegcaaGreat.bpla
