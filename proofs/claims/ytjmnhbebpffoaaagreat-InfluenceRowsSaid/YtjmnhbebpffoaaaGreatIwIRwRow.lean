/- The row of InfluenceRows. -/
import Derived.Test.YtjmnhbebpffoaaaGreatIwQ
import Derived.Test.YtjmnhbebpffoaaaGreatIwR
set_option maxRecDepth 100000
set_option maxHeartbeats 1600000
namespace Go.Proofs.YtjmnhbebpffoaaaGreat
open Go.RowKit
namespace irow
open Go.ChangeShapes Go.WideShapes Go.ChangeAt Go.RowKit
theorem c1z:Rows.influenceRowsRow.wf (OpenSpec.ofChange Rows.influenceRowsSpec)=true:=by kernel_rfl
theorem b6e:Tryz.f3.params.all (fun t=>Program.readableRec Tryz.pinned.checked.prog t)=true:=by kernel_rfl
theorem c0Z:namedTie Tryz.pinned.checked.prog Rows.influenceRowsRow.named Rows.influenceRowsSpec.vars=true:=by kernel_rfl
theorem b4m:(Rows.influenceRowsRow.inPlace==Program.inPlace Tryz.pinned.checked.prog 3)=true:=by kernel_rfl
theorem c1a:(Rows.influenceRowsRow.unfollowed==Program.unfollowed Tryz.pinned.checked.prog 3)=true:=by kernel_rfl
theorem c1b:(Rows.influenceRowsRow.recurses==Program.recurses Tryz.pinned.checked.prog 3)=true:=by kernel_rfl
theorem b8z:(Rows.influenceRowsRow.named==Program.varsNamed Tryz.pinned.checked.prog 3)=true:=by kernel_rfl
theorem closed:joinedFacts Tryz.pinned.checked.prog 3 Tryz.f3 Rows.influenceRowsSpec Rows.influenceRowsRow=true:=by
 unfold joinedFacts
 iterate 4 refine seat.and_t ?_ (by kernel_rfl)
 refine seat.and_t ?_ seat.make;refine seat.and_t ?_ seat.lifts;refine seat.and_t ?_ seat.enter;refine seat.and_t ?_ seat.heard;refine seat.and_t ?_ (by kernel_rfl);refine seat.and_t ?_ seat.plain
 iterate 9 refine seat.and_t ?_ (by kernel_rfl)
 refine seat.and_t ?_ b8z;refine seat.and_t ?_ c1b;refine seat.and_t ?_ c1a;refine seat.and_t ?_ b4m;refine seat.and_t ?_ seat.knobs;refine seat.and_t ?_ (by kernel_rfl);refine seat.and_t ?_ seat.stops;refine seat.and_t ?_ (by kernel_rfl);refine seat.and_t ?_ c0Z;refine seat.and_t ?_ b6e;refine seat.and_t ?_ seat.maps;exact seat.and_t c1z seat.laid
theorem own_knob:ownKnob Tryz.prog.godebug=none:=by kernel_rfl
theorem laid_out:laidOutB Tryz.prog=true:=by kernel_rfl
theorem lifted(os:Os)(f:os.Started)(H:Type)(enc:TypeId×Value->H):ReturnsInHanded {} Tryz.checked os 3 .any (Rows.influenceRowsSpec.pre6 enc Tryz.prog Tryz.f3 Rows.influenceRowsRow.domain false) (Rows.influenceRowsSpec.post enc Tryz.prog Tryz.f3 false true false false):=by
 refine returnsInHanded_of_change (C:=Tryz.checked) own_knob f (by kernel_rfl) Tryz.func3
  (ChangeSpec.witness6 (enc:=enc) (C:=Tryz.checked) false ⟨#[],#[.slice none 0 0,.slice none 0 0,.slice none 0 0],[]⟩ 8 (by kernel_rfl) (by kernel_rfl) (by kernel_rfl) (by kernel_rfl)) ?_
 intro W base args ds gs F d U V _;have a:∀(j:Nat) t v,Tryz.f3.params[j]? =some t->args[j]? =some v->Value.okWide Tryz.prog W .any base t v:=d;have I:=U;obtain⟨p,q,s,hV,rfl,a8,a9⟩:=U;have T:DataW.TrodAll enc Tryz.prog W 0 (fun _=>true) true Tryz.f3.params.toList args.toList ds p:=s;rw[Tryz.params3]at T a;obtain⟨v0,b0,d0,a5,p0,q0,J,rfl,rfl,Q,r0⟩:=trodAll_cons T;obtain⟨v1,b1,d1,a6,p1,q1,rfl,rfl,rfl,R,r1⟩:=trodAll_cons r0;obtain⟨v2,b2,d2,a7,p2,q2,rfl,rfl,rfl,S,r2⟩:=trodAll_cons r1;obtain⟨rfl,rfl,rfl⟩:=trodAll_nil r2;obtain rfl:args=#[v0,v1,v2]:=by cases args;simp_all
 obtain⟨rfl,rfl⟩:=trodVars_none hV;have k0:=Q;have K:∀x∈p0,x.block<W.heap.size:=by obtain⟨m,A⟩:=k0;exact DataW.trod_lt m _ _ _ A
 have k1:=R;have lt1:∀x∈p1,x.block<W.heap.size:=by obtain⟨m,A⟩:=k1;exact DataW.trod_lt m _ _ _ A
 have k2:=S;have lt2:∀x∈p2,x.block<W.heap.size:=by obtain⟨m,A⟩:=k2;exact DataW.trod_lt m _ _ _ A
 obtain⟨f0,g0⟩:=Q;obtain⟨r,len0,o,rfl⟩:=okWide_slice Tryz.underlying22 (a 0 22 v0 rfl rfl);obtain⟨a0,G,c0,N,w,u,B,Z⟩:=b8y g0;simp only[Value.slice.injEq]at N;obtain⟨rfl,rfl,rfl⟩:=N;obtain⟨f1,g1⟩:=R;obtain⟨i,a3,b,rfl⟩:=okWide_slice Tryz.underlying23 (a 1 23 v1 rfl rfl);obtain⟨a1,l,c1,O,y,X,D⟩:=b5U g1;simp only[Value.slice.injEq]at O;obtain⟨rfl,rfl,rfl⟩:=O;have L:MR (mk noY W) (.slice i l.length b) l:=⟨i,b,rfl,y,by rw[a4U];exact D⟩;obtain⟨f2,g2⟩:=S;obtain⟨k,a4,c,rfl⟩:=okWide_slice Tryz.underlying24 (a 2 24 v2 rfl rfl);obtain⟨a2,n,c2,P,z,Y,E⟩:=b4f g2;simp only[Value.slice.injEq]at P;obtain⟨rfl,rfl,rfl⟩:=P;have M:RR (mk noY W) (.slice k n.length c) n:=⟨k,c,rfl,z,by rw[a4U];exact E⟩;clear s d;refine(b6d r G o _ _ l n W B w u L M).mono fun e W' ⟨hE,he⟩=>?_;subst he;have g:Below W.heap.size W W':=hE.below;exact⟨_,rfl,_,_,_,[],_,[],I,trodAll_mk1 (shut_bool Tryz.underlying4 _),
  (trodAll_cons_mk (Below.trod laid_out (by kernel_rfl) (of_decide_eq_true (by kernel_rfl)) k0 g K) (trodAll_cons_mk (Below.trod laid_out (by kernel_rfl) (of_decide_eq_true (by kernel_rfl)) k1 g lt1) (trodAll_cons_mk (Below.trod laid_out (by kernel_rfl) (of_decide_eq_true (by kernel_rfl)) k2 g lt2) trodAll_mk0))),rfl,g.frame _,fun h=>by cases h⟩
theorem holds:Rows.InfluenceRowsSaid:=
 OpenClaim.holds_of_wide 3 Tryz.f3 rfl rfl rfl rfl rfl rfl rfl ⟨rfl,rfl,rfl,rfl,rfl⟩ rfl rfl rfl rfl rfl (by kernel_rfl) Tryz.func3 closed
  (of_decide_eq_true (by kernel_rfl)) (by unfold Func.isWrapper;rw[if_neg (of_decide_eq_false (by kernel_rfl))];exact⟨rfl,rfl⟩)
  (fun b a H enc _=>lifted b a H enc)
#print axioms holds
end irow
end Go.Proofs.YtjmnhbebpffoaaaGreat
