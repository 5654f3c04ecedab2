/- The row of LeastsqShiftsBack. -/
import Derived.Test.YtkddecjkfdogiaaGreatLkLBackRowxA
namespace Go.Proofs.YtkddecjkfdogiaaGreat.lback
open Go.ChangeShapes Go.WideShapes Go.ChangeAt Go.RowKit Go.Rep Go.Lim
theorem b6E:Rows.leastsqShiftsBackRow.wf (OpenSpec.ofChange Rows.leastsqShiftsBackSpec)=true:=by kernel_rfl
theorem b2b:Tryz.f13.params.all (fun t=>Program.readableRec Tryz.pinned.checked.prog t)=true:=by kernel_rfl
theorem b6h:namedTie Tryz.pinned.checked.prog Rows.leastsqShiftsBackRow.named Rows.leastsqShiftsBackSpec.vars=true:=by kernel_rfl
theorem b0D:(Rows.leastsqShiftsBackRow.inPlace==Program.inPlace Tryz.pinned.checked.prog 13)=true:=by kernel_rfl
theorem b6i:(Rows.leastsqShiftsBackRow.unfollowed==Program.unfollowed Tryz.pinned.checked.prog 13)=true:=by kernel_rfl
theorem b6j:(Rows.leastsqShiftsBackRow.recurses==Program.recurses Tryz.pinned.checked.prog 13)=true:=by kernel_rfl
theorem b3Y:(Rows.leastsqShiftsBackRow.named==Program.varsNamed Tryz.pinned.checked.prog 13)=true:=by kernel_rfl
set_option maxRecDepth 100000 in
theorem closed:joinedFacts Tryz.pinned.checked.prog 13 Tryz.f13 Rows.leastsqShiftsBackSpec Rows.leastsqShiftsBackRow=true:=by
 unfold joinedFacts
 iterate 4 refine seat.and_t ?_ (by kernel_rfl)
 refine seat.and_t ?_ seat.make;refine seat.and_t ?_ seat.lifts;refine seat.and_t ?_ seat.enter;refine seat.and_t ?_ seat.heard;refine seat.and_t ?_ (by kernel_rfl);refine seat.and_t ?_ seat.plain
 iterate 9 refine seat.and_t ?_ (by kernel_rfl)
 refine seat.and_t ?_ b3Y;refine seat.and_t ?_ b6j;refine seat.and_t ?_ b6i;refine seat.and_t ?_ b0D;refine seat.and_t ?_ seat.knobs;refine seat.and_t ?_ (by kernel_rfl);refine seat.and_t ?_ seat.stops;refine seat.and_t ?_ (by kernel_rfl);refine seat.and_t ?_ b6h;refine seat.and_t ?_ b2b;refine seat.and_t ?_ seat.maps;exact seat.and_t b6E seat.laid
theorem own_knob:ownKnob Tryz.prog.godebug=none:=by kernel_rfl
theorem laid_out:laidOutB Tryz.prog=true:=by kernel_rfl
set_option maxRecDepth 100000 in
set_option maxHeartbeats 1600000 in
theorem lifted (os:Os) (started:os.Started) (H:Type) (enc:TypeId×Value->H):
  ReturnsInHanded {} Tryz.checked os 13 .any (Rows.leastsqShiftsBackSpec.pre6 enc Tryz.prog Tryz.f13 Rows.leastsqShiftsBackRow.domain false) (Rows.leastsqShiftsBackSpec.post enc Tryz.prog Tryz.f13 false true false false):=by
 refine returnsInHanded_of_change (C:=Tryz.checked) own_knob started (by kernel_rfl) Tryz.func13
  (ChangeSpec.witness6 (enc:=enc) (C:=Tryz.checked) false ⟨#[],#[.agg #[.int .i64 0, .int .i64 0, .bool false, .slice none 0 0], .slice none 0 0, .int .i64 0],[]⟩ 8 (by kernel_rfl) (by kernel_rfl) (by kernel_rfl) (by kernel_rfl)) ?_
 intro W base args ds gs before hval0 hW hcnd _;have hval:∀(j:Nat) t v,Tryz.f13.params[j]? =some t->args[j]? =some v->Value.okWide Tryz.prog W .any base t v:=hval0;have hW':=hW;obtain⟨p,q,hA0,hV,rfl,hfz,hnd⟩:=hW;have hA:DataW.TrodAll enc Tryz.prog W 0 (fun _=>true) true Tryz.f13.params.toList args.toList ds p:=hA0;rw[Tryz.params13]at hA hval;obtain⟨v0,vs0,d0,ds0,p0,q0,hargs,rfl,rfl,h0,r0⟩:=trodAll_cons hA;obtain⟨v1,vs1,d1,ds1,p1,q1,rfl,rfl,rfl,h1,r1⟩:=trodAll_cons r0;obtain⟨v2,vs2,d2,ds2,p2,q2,rfl,rfl,rfl,h2,r2⟩:=trodAll_cons r1;obtain⟨rfl,rfl,rfl⟩:=trodAll_nil r2;obtain rfl:args=#[v0,v1,v2]:=by cases args;simp_all
 obtain⟨rfl,rfl⟩:=trodVars_none hV;have k0:=h0;have lt0:∀x∈p0,x.block<W.heap.size:=by obtain⟨m,hm⟩:=k0;exact DataW.trod_lt m _ _ _ hm
 have k1:=h1;have lt1:∀x∈p1,x.block<W.heap.size:=by obtain⟨m,hm⟩:=k1;exact DataW.trod_lt m _ _ _ hm
 obtain⟨N_0,K_0,B_0,ao_0,L_0,cap_0,rfl,hc_0,hs_0,hw_0⟩:=b4o (hval 0 69 v0 rfl rfl) h0;obtain⟨f1,g1⟩:=h1;obtain⟨ao_1,len1,cap_1,rfl⟩:=okWide_slice Tryz.underlying22 (hval 1 22 v1 rfl rfl);obtain⟨a1,L_1,c1,e1,hc_1,hb_1,hs_1,hw_1⟩:=b0T g1;simp only[Value.slice.injEq]at e1;obtain⟨rfl,rfl,rfl⟩:=e1;obtain⟨n_2,rfl,rfl,rfl,w2⟩:=open_int Tryz.underlying3 (hval 2 3 v2 rfl rfl) h2;have r_2:=b0S w2;clear hA0 hval0;refine(b2c W N_0 K_0 B_0 ao_0 L_0 cap_0 ao_1 L_1 cap_1 n_2 hs_0 hw_0 (by first|exact hs_1|(rw[a5u];exact hs_1)) hw_1 r_2.1 r_2.2).mono fun e W' ⟨hE,he⟩=>?_;subst he;have bel:Below W.heap.size W W':=hE.below;exact⟨_,rfl,_,_,_,[],_,[],hW',trodAll_mk1 (shut_bool Tryz.underlying4 _),
  (trodAll_cons_mk (Below.trod laid_out (by kernel_rfl) (of_decide_eq_true (by kernel_rfl)) k0 bel lt0) (trodAll_cons_mk (Below.trod laid_out (by kernel_rfl) (of_decide_eq_true (by kernel_rfl)) k1 bel lt1) (trodAll_cons_mk (shut_int Tryz.underlying3 w2) trodAll_mk0))),rfl,bel.frame _,fun h=>by cases h⟩
theorem holds:Rows.LeastsqShiftsBackSaid:=
 OpenClaim.holds_of_wide 13 Tryz.f13 rfl rfl rfl rfl rfl rfl rfl ⟨rfl,rfl,rfl,rfl,rfl⟩ rfl rfl rfl rfl rfl (by kernel_rfl) Tryz.func13 closed
  (of_decide_eq_true (by kernel_rfl)) (by unfold Func.isWrapper;rw[if_neg (of_decide_eq_false (by kernel_rfl))];exact⟨rfl,rfl⟩)
  (fun os started H enc _=>lifted os started H enc)
#print axioms holds
end Go.Proofs.YtkddecjkfdogiaaGreat.lback
