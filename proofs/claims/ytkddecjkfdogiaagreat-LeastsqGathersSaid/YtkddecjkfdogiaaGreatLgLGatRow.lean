/- The row of LeastsqGathers. -/
import Derived.Test.YtkddecjkfdogiaaGreatLgLGatRowxA
namespace Go.Proofs.YtkddecjkfdogiaaGreat.lgats
open Go.ChangeShapes Go.WideShapes Go.ChangeAt Go.RowKit Go.Rep Go.Lim
theorem b6S:Rows.leastsqGathersRow.wf (OpenSpec.ofChange Rows.leastsqGathersSpec)=true:=by kernel_rfl
theorem b2L:Tryz.f12.params.all (fun t=>Program.readableRec Tryz.pinned.checked.prog t)=true:=by kernel_rfl
theorem b6u:namedTie Tryz.pinned.checked.prog Rows.leastsqGathersRow.named Rows.leastsqGathersSpec.vars=true:=by kernel_rfl
theorem b1o:(Rows.leastsqGathersRow.inPlace==Program.inPlace Tryz.pinned.checked.prog 12)=true:=by kernel_rfl
theorem b6v:(Rows.leastsqGathersRow.unfollowed==Program.unfollowed Tryz.pinned.checked.prog 12)=true:=by kernel_rfl
theorem b6w:(Rows.leastsqGathersRow.recurses==Program.recurses Tryz.pinned.checked.prog 12)=true:=by kernel_rfl
theorem b4I:(Rows.leastsqGathersRow.named==Program.varsNamed Tryz.pinned.checked.prog 12)=true:=by kernel_rfl
set_option maxRecDepth 100000 in
theorem closed:joinedFacts Tryz.pinned.checked.prog 12 Tryz.f12 Rows.leastsqGathersSpec Rows.leastsqGathersRow=true:=by
 unfold joinedFacts
 iterate 4 refine seat.and_t ?_ (by kernel_rfl)
 refine seat.and_t ?_ seat.make;refine seat.and_t ?_ seat.lifts;refine seat.and_t ?_ seat.enter;refine seat.and_t ?_ seat.heard;refine seat.and_t ?_ (by kernel_rfl);refine seat.and_t ?_ seat.plain
 iterate 9 refine seat.and_t ?_ (by kernel_rfl)
 refine seat.and_t ?_ b4I;refine seat.and_t ?_ b6w;refine seat.and_t ?_ b6v;refine seat.and_t ?_ b1o;refine seat.and_t ?_ seat.knobs;refine seat.and_t ?_ (by kernel_rfl);refine seat.and_t ?_ seat.stops;refine seat.and_t ?_ (by kernel_rfl);refine seat.and_t ?_ b6u;refine seat.and_t ?_ b2L;refine seat.and_t ?_ seat.maps;exact seat.and_t b6S seat.laid
theorem own_knob:ownKnob Tryz.prog.godebug=none:=by kernel_rfl
theorem laid_out:laidOutB Tryz.prog=true:=by kernel_rfl
set_option maxRecDepth 100000 in
set_option maxHeartbeats 1600000 in
theorem lifted (os:Os) (started:os.Started) (H:Type) (enc:TypeId×Value->H):
  ReturnsInHanded {} Tryz.checked os 12 .any (Rows.leastsqGathersSpec.pre6 enc Tryz.prog Tryz.f12 Rows.leastsqGathersRow.domain false) (Rows.leastsqGathersSpec.post enc Tryz.prog Tryz.f12 false true false false):=by
 refine returnsInHanded_of_change (C:=Tryz.checked) own_knob started (by kernel_rfl) Tryz.func12
  (ChangeSpec.witness6 (enc:=enc) (C:=Tryz.checked) false ⟨#[],#[.slice none 0 0, .slice none 0 0, .agg #[.int .i64 0, .slice none 0 0, .slice none 0 0, .bool false, .slice none 0 0, .slice none 0 0], .slice none 0 0, .agg #[.bool false, .slice none 0 0, .slice none 0 0], .bool false],[]⟩ 8 (by kernel_rfl) (by kernel_rfl) (by kernel_rfl) (by kernel_rfl)) ?_
 intro W base args ds gs before hval0 hW hcnd _;have hval:∀(j:Nat) t v,Tryz.f12.params[j]? =some t->args[j]? =some v->Value.okWide Tryz.prog W .any base t v:=hval0;have hW':=hW;obtain⟨p,q,hA0,hV,rfl,hfz,hnd⟩:=hW;have hA:DataW.TrodAll enc Tryz.prog W 0 (fun _=>true) true Tryz.f12.params.toList args.toList ds p:=hA0;rw[Tryz.params12]at hA hval;obtain⟨v0,vs0,d0,ds0,p0,q0,hargs,rfl,rfl,h0,r0⟩:=trodAll_cons hA;obtain⟨v1,vs1,d1,ds1,p1,q1,rfl,rfl,rfl,h1,r1⟩:=trodAll_cons r0;obtain⟨v2,vs2,d2,ds2,p2,q2,rfl,rfl,rfl,h2,r2⟩:=trodAll_cons r1;obtain⟨v3,vs3,d3,ds3,p3,q3,rfl,rfl,rfl,h3,r3⟩:=trodAll_cons r2;obtain⟨v4,vs4,d4,ds4,p4,q4,rfl,rfl,rfl,h4,r4⟩:=trodAll_cons r3;obtain⟨v5,vs5,d5,ds5,p5,q5,rfl,rfl,rfl,h5,r5⟩:=trodAll_cons r4;obtain⟨rfl,rfl,rfl⟩:=trodAll_nil r5;obtain rfl:args=#[v0,v1,v2,v3,v4,v5]:=by cases args;simp_all
 obtain⟨rfl,rfl⟩:=trodVars_none hV;have k0:=h0;have lt0:∀x∈p0,x.block<W.heap.size:=by obtain⟨m,hm⟩:=k0;exact DataW.trod_lt m _ _ _ hm
 have k1:=h1;have lt1:∀x∈p1,x.block<W.heap.size:=by obtain⟨m,hm⟩:=k1;exact DataW.trod_lt m _ _ _ hm
 have k2:=h2;have lt2:∀x∈p2,x.block<W.heap.size:=by obtain⟨m,hm⟩:=k2;exact DataW.trod_lt m _ _ _ hm
 have k3:=h3;have lt3:∀x∈p3,x.block<W.heap.size:=by obtain⟨m,hm⟩:=k3;exact DataW.trod_lt m _ _ _ hm
 have k4:=h4;have lt4:∀x∈p4,x.block<W.heap.size:=by obtain⟨m,hm⟩:=k4;exact DataW.trod_lt m _ _ _ hm
 have k5:=h5;have lt5:∀x∈p5,x.block<W.heap.size:=by obtain⟨m,hm⟩:=k5;exact DataW.trod_lt m _ _ _ hm
 obtain⟨f0,g0⟩:=h0;obtain⟨ao_0,len0,cap_0,rfl⟩:=okWide_slice Tryz.underlying25 (hval 0 25 v0 rfl rfl);obtain⟨a0,L_0,c0,e0,hc_0,hm_0,hs_0⟩:=a9q g0;simp only[Value.slice.injEq]at e0;obtain⟨rfl,rfl,rfl⟩:=e0;have m_0:MR (mk noY W) (.slice ao_0 L_0.length cap_0) L_0:=⟨ao_0,cap_0,rfl,hc_0,by rw[a3u];exact hs_0⟩;obtain⟨f1,g1⟩:=h1;obtain⟨ao_1,len1,cap_1,rfl⟩:=okWide_slice Tryz.underlying45 (hval 1 45 v1 rfl rfl);obtain⟨a1,L_1,c1,e1,hc_1,hm_1,hs_1⟩:=a7d g1;simp only[Value.slice.injEq]at e1;obtain⟨rfl,rfl,rfl⟩:=e1;have m_1:RR (mk noY W) (.slice ao_1 L_1.length cap_1) L_1:=⟨ao_1,cap_1,rfl,hc_1,by rw[a3u];exact hs_1⟩;obtain⟨N_2,X_2,Y_2,q_2,m_2⟩:=b5R (hval 2 83 v2 rfl rfl) h2;obtain⟨f3,g3⟩:=h3;obtain⟨ao_3,len3,cap_3,rfl⟩:=okWide_slice Tryz.underlying45 (hval 3 45 v3 rfl rfl);obtain⟨a3,L_3,c3,e3,hc_3,hm_3,hs_3⟩:=a7d g3;simp only[Value.slice.injEq]at e3;obtain⟨rfl,rfl,rfl⟩:=e3;have m_3:RR (mk noY W) (.slice ao_3 L_3.length cap_3) L_3:=⟨ao_3,cap_3,rfl,hc_3,by rw[a3u];exact hs_3⟩;obtain⟨q_4,m_4⟩:=b5P (hval 4 32 v4 rfl rfl) h4;obtain⟨n_5,rfl⟩:=okWide_bool Tryz.underlying4 (hval 5 4 v5 rfl rfl);clear hA0 hval0;refine(a8y W _ _ _ _ _ _ _ _ _ _ _ _ _ _ m_0 m_1 m_2 m_3 m_4).mono fun e W' ⟨hE,he⟩=>?_;subst he;have bel:Below W.heap.size W W':=hE.below;exact⟨_,rfl,_,_,_,[],_,[],hW',trodAll_mk1 (shut_bool Tryz.underlying4 _),
  (trodAll_cons_mk (Below.trod laid_out (by kernel_rfl) (of_decide_eq_true (by kernel_rfl)) k0 bel lt0) (trodAll_cons_mk (Below.trod laid_out (by kernel_rfl) (of_decide_eq_true (by kernel_rfl)) k1 bel lt1) (trodAll_cons_mk (Below.trod laid_out (by kernel_rfl) (of_decide_eq_true (by kernel_rfl)) k2 bel lt2) (trodAll_cons_mk (Below.trod laid_out (by kernel_rfl) (of_decide_eq_true (by kernel_rfl)) k3 bel lt3) (trodAll_cons_mk (Below.trod laid_out (by kernel_rfl) (of_decide_eq_true (by kernel_rfl)) k4 bel lt4) (trodAll_cons_mk (Below.trod laid_out (by kernel_rfl) (of_decide_eq_true (by kernel_rfl)) k5 bel lt5) trodAll_mk0)))))),rfl,bel.frame _,fun h=>by cases h⟩
theorem holds:Rows.LeastsqGathersSaid:=
 OpenClaim.holds_of_wide 12 Tryz.f12 rfl rfl rfl rfl rfl rfl rfl ⟨rfl,rfl,rfl,rfl,rfl⟩ rfl rfl rfl rfl rfl (by kernel_rfl) Tryz.func12 closed
  (of_decide_eq_true (by kernel_rfl)) (by unfold Func.isWrapper;rw[if_neg (of_decide_eq_false (by kernel_rfl))];exact⟨rfl,rfl⟩)
  (fun os started H enc _=>lifted os started H enc)
#print axioms holds
end Go.Proofs.YtkddecjkfdogiaaGreat.lgats
