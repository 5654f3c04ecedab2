/- The row of SimplicialDepths. -/
import Derived.Test.YtoibhmjjhgaimaaGreatSaSDepRowxA
namespace Go.Proofs.YtoibhmjjhgaimaaGreat.sdep
open Go.ChangeShapes Go.WideShapes Go.ChangeAt Go.RowKit Go.Rep Go.Lim
theorem b6P:Rows.simplicialDepthsRow.wf (OpenSpec.ofChange Rows.simplicialDepthsSpec)=true:=by kernel_rfl
theorem a2E:Tryz.f6.params.all (fun t=>Program.readableRec Tryz.pinned.checked.prog t)=true:=by kernel_rfl
theorem a8F:namedTie Tryz.pinned.checked.prog Rows.simplicialDepthsRow.named Rows.simplicialDepthsSpec.vars=true:=by kernel_rfl
theorem a2j:(Rows.simplicialDepthsRow.inPlace==Program.inPlace Tryz.pinned.checked.prog 6)=true:=by kernel_rfl
theorem a8G:(Rows.simplicialDepthsRow.unfollowed==Program.unfollowed Tryz.pinned.checked.prog 6)=true:=by kernel_rfl
theorem a8H:(Rows.simplicialDepthsRow.recurses==Program.recurses Tryz.pinned.checked.prog 6)=true:=by kernel_rfl
theorem a3y:(Rows.simplicialDepthsRow.named==Program.varsNamed Tryz.pinned.checked.prog 6)=true:=by kernel_rfl
set_option maxRecDepth 100000 in
theorem closed:joinedFacts Tryz.pinned.checked.prog 6 Tryz.f6 Rows.simplicialDepthsSpec Rows.simplicialDepthsRow=true:=by
 unfold joinedFacts
 iterate 4 refine seat.and_t ?_ (by kernel_rfl)
 refine seat.and_t ?_ seat.make;refine seat.and_t ?_ seat.lifts;refine seat.and_t ?_ seat.enter;refine seat.and_t ?_ seat.heard;refine seat.and_t ?_ (by kernel_rfl);refine seat.and_t ?_ seat.plain
 iterate 9 refine seat.and_t ?_ (by kernel_rfl)
 refine seat.and_t ?_ a3y;refine seat.and_t ?_ a8H;refine seat.and_t ?_ a8G;refine seat.and_t ?_ a2j;refine seat.and_t ?_ seat.knobs;refine seat.and_t ?_ (by kernel_rfl);refine seat.and_t ?_ seat.stops;refine seat.and_t ?_ (by kernel_rfl);refine seat.and_t ?_ a8F;refine seat.and_t ?_ a2E;refine seat.and_t ?_ seat.maps;exact seat.and_t b6P seat.laid
theorem own_knob:ownKnob Tryz.prog.godebug=none:=by kernel_rfl
theorem laid_out:laidOutB Tryz.prog=true:=by kernel_rfl
set_option maxRecDepth 100000 in
set_option maxHeartbeats 1600000 in
theorem lifted (os:Os) (started:os.Started) (H:Type) (enc:TypeId×Value->H):
  ReturnsInHanded {} Tryz.checked os 6 .any (Rows.simplicialDepthsSpec.pre6 enc Tryz.prog Tryz.f6 Rows.simplicialDepthsRow.domain false) (Rows.simplicialDepthsSpec.post enc Tryz.prog Tryz.f6 false true false false):=by
 refine returnsInHanded_of_change (C:=Tryz.checked) own_knob started (by kernel_rfl) Tryz.func6
  (ChangeSpec.witness6 (enc:=enc) (C:=Tryz.checked) false ⟨#[],#[.slice none 0 0, .slice none 0 0, .slice none 0 0],[]⟩ 8 (by kernel_rfl) (by kernel_rfl) (by kernel_rfl) (by kernel_rfl)) ?_
 intro W base args ds gs before hval0 hW hcnd _;have hval:∀(j:Nat) t v,Tryz.f6.params[j]? =some t->args[j]? =some v->Value.okWide Tryz.prog W .any base t v:=hval0;have hW':=hW;obtain⟨p,q,hA0,hV,rfl,hfz,hnd⟩:=hW;have hA:DataW.TrodAll enc Tryz.prog W 0 (fun _=>true) true Tryz.f6.params.toList args.toList ds p:=hA0;rw[Tryz.params6]at hA hval;obtain⟨v0,vs0,d0,ds0,p0,q0,hargs,rfl,rfl,h0,r0⟩:=trodAll_cons hA;obtain⟨v1,vs1,d1,ds1,p1,q1,rfl,rfl,rfl,h1,r1⟩:=trodAll_cons r0;obtain⟨v2,vs2,d2,ds2,p2,q2,rfl,rfl,rfl,h2,r2⟩:=trodAll_cons r1;obtain⟨rfl,rfl,rfl⟩:=trodAll_nil r2;obtain rfl:args=#[v0,v1,v2]:=by cases args;simp_all
 obtain⟨rfl,rfl⟩:=trodVars_none hV;have k0:=h0;have lt0:∀x∈p0,x.block<W.heap.size:=by obtain⟨m,hm⟩:=k0;exact DataW.trod_lt m _ _ _ hm
 have k1:=h1;have lt1:∀x∈p1,x.block<W.heap.size:=by obtain⟨m,hm⟩:=k1;exact DataW.trod_lt m _ _ _ hm
 have k2:=h2;have lt2:∀x∈p2,x.block<W.heap.size:=by obtain⟨m,hm⟩:=k2;exact DataW.trod_lt m _ _ _ hm
 obtain⟨f0,g0⟩:=h0;obtain⟨ao_0,len0,cap_0,rfl⟩:=okWide_slice Tryz.underlying22 (hval 0 22 v0 rfl rfl);obtain⟨a0,L_0,c0,e0,hc_0,hb_0,hs_0,hw_0⟩:=a8E g0;simp only[Value.slice.injEq]at e0;obtain⟨rfl,rfl,rfl⟩:=e0;obtain⟨f1,g1⟩:=h1;obtain⟨ao_1,len1,cap_1,rfl⟩:=okWide_slice Tryz.underlying25 (hval 1 25 v1 rfl rfl);obtain⟨a1,L_1,c1,e1,hc_1,hm_1,hs_1⟩:=b1J g1;simp only[Value.slice.injEq]at e1;obtain⟨rfl,rfl,rfl⟩:=e1;have m_1:MR (mk noY W) (.slice ao_1 L_1.length cap_1) L_1:=⟨ao_1,cap_1,rfl,hc_1,by rw[a2T];exact hs_1⟩;obtain⟨f2,g2⟩:=h2;obtain⟨ao_2,len2,cap_2,rfl⟩:=okWide_slice Tryz.underlying45 (hval 2 45 v2 rfl rfl);obtain⟨a2,L_2,c2,e2,hc_2,hm_2,hs_2⟩:=b0l g2;simp only[Value.slice.injEq]at e2;obtain⟨rfl,rfl,rfl⟩:=e2;have m_2:RR (mk noY W) (.slice ao_2 L_2.length cap_2) L_2:=⟨ao_2,cap_2,rfl,hc_2,by rw[a2T];exact hs_2⟩;clear hA0 hval0;refine(b4Q ao_0 L_0 cap_0 _ _ L_1 L_2 W hs_0 hc_0 hb_0 m_1 m_2).mono fun e W' ⟨hE,he⟩=>?_;subst he;have bel:Below W.heap.size W W':=hE.below;exact⟨_,rfl,_,_,_,[],_,[],hW',trodAll_mk1 (shut_bool Tryz.underlying4 _),
  (trodAll_cons_mk (Below.trod laid_out (by kernel_rfl) (of_decide_eq_true (by kernel_rfl)) k0 bel lt0) (trodAll_cons_mk (Below.trod laid_out (by kernel_rfl) (of_decide_eq_true (by kernel_rfl)) k1 bel lt1) (trodAll_cons_mk (Below.trod laid_out (by kernel_rfl) (of_decide_eq_true (by kernel_rfl)) k2 bel lt2) trodAll_mk0))),rfl,bel.frame _,fun h=>by cases h⟩
theorem holds:Rows.SimplicialDepthsSaid:=
 OpenClaim.holds_of_wide 6 Tryz.f6 rfl rfl rfl rfl rfl rfl rfl ⟨rfl,rfl,rfl,rfl,rfl⟩ rfl rfl rfl rfl rfl (by kernel_rfl) Tryz.func6 closed
  (of_decide_eq_true (by kernel_rfl)) (by unfold Func.isWrapper;rw[if_neg (of_decide_eq_false (by kernel_rfl))];exact⟨rfl,rfl⟩)
  (fun os started H enc _=>lifted os started H enc)
#print axioms holds
end Go.Proofs.YtoibhmjjhgaimaaGreat.sdep
