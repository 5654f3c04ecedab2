/- The row of SelectionBest. -/
import Derived.Test.YtidbbddagfnfbaaGreatSgP
namespace Go.Proofs.YtidbbddagfnfbaaGreat.sbest
open Go.ChangeShapes Go.WideShapes Go.ChangeAt Go.RowKit Go.Rep Go.Lim
theorem c2D:Rows.selectionBestRow.wf (OpenSpec.ofChange Rows.selectionBestSpec)=true:=by kernel_rfl
theorem b6Z:Tryz.f3.params.all (fun t=>Program.readableRec Tryz.pinned.checked.prog t)=true:=by kernel_rfl
theorem c1U:namedTie Tryz.pinned.checked.prog Rows.selectionBestRow.named Rows.selectionBestSpec.vars=true:=by kernel_rfl
theorem b4H:(Rows.selectionBestRow.inPlace==Program.inPlace Tryz.pinned.checked.prog 3)=true:=by kernel_rfl
theorem c1V:(Rows.selectionBestRow.unfollowed==Program.unfollowed Tryz.pinned.checked.prog 3)=true:=by kernel_rfl
theorem c1W:(Rows.selectionBestRow.recurses==Program.recurses Tryz.pinned.checked.prog 3)=true:=by kernel_rfl
theorem b9G:(Rows.selectionBestRow.named==Program.varsNamed Tryz.pinned.checked.prog 3)=true:=by kernel_rfl
set_option maxRecDepth 100000 in
theorem closed:joinedFacts Tryz.pinned.checked.prog 3 Tryz.f3 Rows.selectionBestSpec Rows.selectionBestRow=true:=by
 unfold joinedFacts
 iterate 4 refine seat.and_t ?_ (by kernel_rfl)
 refine seat.and_t ?_ seat.make;refine seat.and_t ?_ seat.lifts;refine seat.and_t ?_ seat.enter;refine seat.and_t ?_ seat.heard;refine seat.and_t ?_ (by kernel_rfl);refine seat.and_t ?_ seat.plain
 iterate 9 refine seat.and_t ?_ (by kernel_rfl)
 refine seat.and_t ?_ b9G;refine seat.and_t ?_ c1W;refine seat.and_t ?_ c1V;refine seat.and_t ?_ b4H;refine seat.and_t ?_ seat.knobs;refine seat.and_t ?_ (by kernel_rfl);refine seat.and_t ?_ seat.stops;refine seat.and_t ?_ (by kernel_rfl);refine seat.and_t ?_ c1U;refine seat.and_t ?_ b6Z;refine seat.and_t ?_ seat.maps;exact seat.and_t c2D seat.laid
theorem own_knob:ownKnob Tryz.prog.godebug=none:=by kernel_rfl
theorem laid_out:laidOutB Tryz.prog=true:=by kernel_rfl
set_option maxRecDepth 100000 in
set_option maxHeartbeats 1600000 in
theorem lifted (os:Os) (f:os.Started) (H:Type) (enc:TypeId×Value->H):
  ReturnsInHanded {} Tryz.checked os 3 .any (Rows.selectionBestSpec.pre6 enc Tryz.prog Tryz.f3 Rows.selectionBestRow.domain false) (Rows.selectionBestSpec.post enc Tryz.prog Tryz.f3 false true false false):=by
 refine returnsInHanded_of_change (C:=Tryz.checked) own_knob f (by kernel_rfl) Tryz.func3
  (ChangeSpec.witness6 (enc:=enc) (C:=Tryz.checked) false ⟨#[],#[.slice none 0 0, .slice none 0 0, .slice none 0 0, .int .i64 0],[]⟩ 8 (by kernel_rfl) (by kernel_rfl) (by kernel_rfl) (by kernel_rfl)) ?_
 intro W base args ds gs F c hW V _;have a:∀(j:Nat) t v,Tryz.f3.params[j]? =some t->args[j]? =some v->Value.okWide Tryz.prog W .any base t v:=c;have L:=hW;obtain⟨p,q,z,hV,rfl,a7,a3⟩:=hW;have hA:DataW.TrodAll enc Tryz.prog W 0 (fun _=>true) true Tryz.f3.params.toList args.toList ds p:=z;rw[Tryz.params3]at hA a;obtain⟨v0,a9,d0,b2,p0,q0,N,rfl,rfl,X,r0⟩:=trodAll_cons hA;obtain⟨v1,a8,d1,a4,p1,q1,rfl,rfl,rfl,h1,r1⟩:=trodAll_cons r0;obtain⟨v2,a6,d2,b3,p2,q2,rfl,rfl,rfl,Y,r2⟩:=trodAll_cons r1;obtain⟨v3,b1,d3,a5,p3,q3,rfl,rfl,rfl,h3,r3⟩:=trodAll_cons r2;obtain⟨rfl,rfl,rfl⟩:=trodAll_nil r3;obtain rfl:args=#[v0,v1,v2,v3]:=by cases args;simp_all
 obtain⟨rfl,rfl⟩:=trodVars_none hV;have k0:=X;have G:∀x∈p0,x.block<W.heap.size:=by obtain⟨m,B⟩:=k0;exact DataW.trod_lt m _ _ _ B
 have k1:=h1;have lt1:∀x∈p1,x.block<W.heap.size:=by obtain⟨m,B⟩:=k1;exact DataW.trod_lt m _ _ _ B
 have k2:=Y;have lt2:∀x∈p2,x.block<W.heap.size:=by obtain⟨m,B⟩:=k2;exact DataW.trod_lt m _ _ _ B
 obtain⟨f0,g0⟩:=X;obtain⟨E,len0,n,rfl⟩:=okWide_slice Tryz.underlying22 (a 0 22 v0 rfl rfl);obtain⟨a0,M,c0,P,y,u,D,U⟩:=b9F g0;simp only[Value.slice.injEq]at P;obtain⟨rfl,rfl,rfl⟩:=P;obtain⟨f1,g1⟩:=h1;obtain⟨k,Q,d,rfl⟩:=okWide_slice Tryz.underlying23 (a 1 23 v1 rfl rfl);obtain⟨a1,o,c1,e1,A,S,r⟩:=b6V g1;simp only[Value.slice.injEq]at e1;obtain⟨rfl,rfl,rfl⟩:=e1;have I:MR (mk noY W) (.slice k o.length d) o:=⟨k,d,rfl,A,by rw[a1U];exact r⟩;obtain⟨f2,g2⟩:=Y;obtain⟨i,Z,b,rfl⟩:=okWide_slice Tryz.underlying24 (a 2 24 v2 rfl rfl);obtain⟨a2,l,c2,T,s,O,w⟩:=b4F g2;simp only[Value.slice.injEq]at T;obtain⟨rfl,rfl,rfl⟩:=T;have K:RR (mk noY W) (.slice i l.length b) l:=⟨i,b,rfl,s,by rw[a1U];exact w⟩;obtain⟨J,rfl,rfl,rfl,R⟩:=open_int Tryz.underlying3 (a 3 3 v3 rfl rfl) h3;have b0:=b4G R;clear z c;refine(b2j E M n _ _ o l J W D y u I K).mono fun e W' ⟨hE,he⟩=>?_;subst he;have g:Below W.heap.size W W':=hE.below;exact⟨_,rfl,_,_,_,[],_,[],L,trodAll_mk1 (shut_bool Tryz.underlying4 _),
  (trodAll_cons_mk (Below.trod laid_out (by kernel_rfl) (of_decide_eq_true (by kernel_rfl)) k0 g G) (trodAll_cons_mk (Below.trod laid_out (by kernel_rfl) (of_decide_eq_true (by kernel_rfl)) k1 g lt1) (trodAll_cons_mk (Below.trod laid_out (by kernel_rfl) (of_decide_eq_true (by kernel_rfl)) k2 g lt2) (trodAll_cons_mk (shut_int Tryz.underlying3 R) trodAll_mk0)))),rfl,g.frame _,fun h=>by cases h⟩
theorem holds:Rows.SelectionBestSaid:=
 OpenClaim.holds_of_wide 3 Tryz.f3 rfl rfl rfl rfl rfl rfl rfl ⟨rfl,rfl,rfl,rfl,rfl⟩ rfl rfl rfl rfl rfl (by kernel_rfl) Tryz.func3 closed
  (of_decide_eq_true (by kernel_rfl)) (by unfold Func.isWrapper;rw[if_neg (of_decide_eq_false (by kernel_rfl))];exact⟨rfl,rfl⟩)
  (fun b a H enc _=>lifted b a H enc)
#print axioms holds
end Go.Proofs.YtidbbddagfnfbaaGreat.sbest
