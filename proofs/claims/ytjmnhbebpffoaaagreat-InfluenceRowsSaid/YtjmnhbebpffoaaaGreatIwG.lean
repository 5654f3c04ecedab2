/- Parts of a proof: each theorem states what it proves, and its conditions. -/
import Derived.Test.YtjmnhbebpffoaaaGreatIwF
import Derived.BigRegion
set_option maxRecDepth 100000
set_option maxHeartbeats 1600000
namespace Go.Proofs.YtjmnhbebpffoaaaGreat
open Go.RowKit
theorem b7E(X:Nat->Bool)(w:World)(u v:Value)(x y:Rat)(hX:HX X w)(hu:QV (mk X w) u x)(hv:QV (mk X w) v y):Calls Tryz.prog 83 #[u,v] w (a2b X w QC (x+y)):=by
 have e:=hid hu.hq;have f:=hid hv.hq;obtain⟨s1,a1,n1,c1,d1,k1,e1,rfl⟩:=hu.shape;obtain⟨s2,a2,n2,c2,d2,k2,e2,rfl⟩:=hv.shape;obtain⟨W,hW,hE,j,k,S,hz⟩:=a2r w #[.bool s1,.slice a1 n1 c1,.slice d1 k1 e1] #[.bool s2,.slice a2 n2 c2,.slice d2 k2 e2] #[.bool false,.slice none 0 0,.slice none 0 0] 47 47 47;have c7:HX (a0f X w.heap.size 3) W:=hX.boxes hz;have M:=QV.mono _ _ _ _ (a0i (nb:=3) hE) hu;have N:=QV.mono _ _ _ _ (a0i (nb:=3) hE) hv;obtain⟨b,hb⟩:=c1F w.heap.size;have k0:w.heap.size<=b:=by omega
 rw[hb]at j k S hz c7 M N;have c:=c1L W;have d:HX (a0f X b 3) W.drew:=c7;have e7:QV (mk (a0f X b 3) W.drew) (.agg #[.bool s1,.slice a1 n1 c1,.slice d1 k1 e1]) x:=M;have e8:QV (mk (a0f X b 3) W.drew) (.agg #[.bool s2,.slice a2 n2 c2,.slice d2 k2 e2]) y:=N;have t:=j.cell 0 rfl;have z:=j.cell 1 rfl;have A:=j.cell 2 rfl;have B:=k.cell 0 rfl;have C:=k.cell 1 rfl;have D:=k.cell 2 rfl;clear hu hv;go_enter Tryz.func83,Tryz.ntmps83
 go_upto_region 1 with(fail)
 go_cut []from 5 to 8 (fun wx=>∃Q H O J T Z V R I P K U k4 Y,Bx wx b #[.bool Q,.slice H O J,.slice T Z V] 47/\Bx wx (b+1) #[.bool R,.slice I P K,.slice U k4 Y] 47/\Bx wx (b+1+1) #[.bool false,.slice none 0 0,.slice none 0 0] 47/\QC (mk (a0f X b 3) wx) (.agg #[.bool Q,.slice H O J,.slice T Z V]) x/\QC (mk (a0f X b 3) wx) (.agg #[.bool R,.slice I P K,.slice U k4 Y]) y/\Ext w wx)
 case first=>
  go_region_with (first|(go_at_call 55;(with_reducible refine(a3M (a0f X b 3) W.drew _ x d e7).mono ?_);rintro o w5 ⟨l,u5,rfl,d0⟩;obtain⟨s5,a5,n5,c5,d5,k5,e5,rfl⟩:=d0.shape;have g3:=j.ext0 (c.trans l);have q:=k.ext0 (c.trans l);have h5:=q.cell 0 rfl;have h6:=q.cell 1 rfl;have h8:=q.cell 2 rfl)|(go_at_call 55;(with_reducible refine(a3M (a0f X b 3) w5 _ y (HX.ext d l) (mkx QV.mono e8 l)).mono ?_);rintro o w6 ⟨i,u6,rfl,d7⟩;obtain⟨s6,a6,n6,c6,d6,k6,e6,rfl⟩:=d7.shape;have a:=g3.ext0 i;have g:=q.ext0 i;have i6:=a.cell 0 rfl;have i7:=a.cell 1 rfl;have i8:=a.cell 2 rfl;have i9:=g.cell 0 rfl;have j0:=g.cell 1 rfl;have j1:=g.cell 2 rfl;have i0:=a.frozen 0;have i1:=a.frozen 1;have i4:=a.frozen 2;have i2:=g.frozen 0;have i3:=g.frozen 1;have i5:=g.frozen 2))
  all_goals
   obtain⟨wf,e9,q0,q1,q2,q3,q4⟩:=a2n (X:=X) (nb:=3) a g (hE.trans ((c.trans l).trans i)) k0 (by omega) (.bool s5) (.slice a5 n5 c5) (.slice d5 k5 e5) (.bool s6) (.slice a6 n6 c6) (.slice d6 k6 e6);rw[e9];have k7:QC (mk (a0f X b 3) wf) (.agg #[.bool s5,.slice a5 n5 c5,.slice d5 k5 e5]) x:=QC.mono _ _ _ _ q4 (mkx QC.mono d0 i);have k8:QC (mk (a0f X b 3) wf) (.agg #[.bool s6,.slice a6 n6 c6,.slice d6 k6 e6]) y:=QC.mono _ _ _ _ q4 d7;have q5:=q2 (b+1+1) _ _ (by omega) (by omega) ((S.ext0 (c.trans l)).ext0 i);clear h5 h6 h8 i6 i7 i8 i9 j0 j1 i0 i1 i2 i3 i4 i5 t z A B C D e9;go_wp2_with fail
   go_meet
   exact⟨_,_,_,_,_,_,_,_,_,_,_,_,_,_,q0,q1,q5,k7,k8,q3⟩
 case rest=>
  clear t z A B C D j k S M N e7 e8 d c hW;obtain⟨Q,H,O,J,T,Z,V,R,I,P,K,U,k4,Y,j,k,S,hx,hy,b4⟩:=hcut;have f8:w.heap.size+3<=wc.heap.size:=by have:=S.lt;omega
  obtain⟨l7,n7,m8⟩:=hx.num;obtain⟨l9,n8,m9⟩:=hy.num;have j9:HX (a0f X b 3) wc:=hX.boxes' b4 (by have:=f8;omega) f8;have t:=j.cell 0 rfl;have z:=j.cell 1 rfl;have A:=j.cell 2 rfl;have B:=k.cell 0 rfl;have C:=k.cell 1 rfl;have D:=k.cell 2 rfl;have c:=c1L wc;have d:HX (a0f X b 3) wc.drew:=j9;have f3:QC (mk (a0f X b 3) wc.drew) (.agg #[.bool Q,.slice H O J,.slice T Z V]) x:=hx;have f6:QC (mk (a0f X b 3) wc.drew) (.agg #[.bool R,.slice I P K,.slice U k4 Y]) y:=hy;have f4:ZC (mk (a0f X b 3) wc.drew) (.agg #[.bool Q,.slice H O J]) x.num:=l7;have f7:ZC (mk (a0f X b 3) wc.drew) (.agg #[.bool R,.slice I P K]) y.num:=l9;have g5:lg (x.num*(y.den:Int)).natAbs<=274877906944:=by rw[Int.natAbs_mul,Int.natAbs_natCast];have:=a0Z x.num.natAbs y.den;have:=a0G x;have:=a0K y;have:=e.out;have:=f.out;omega
  have g6:lg (y.num*(x.den:Int)).natAbs<=274877906944:=by rw[Int.natAbs_mul,Int.natAbs_natCast];have:=a0Z y.num.natAbs x.den;have:=a0G y;have:=a0K x;have:=e.out;have:=f.out;omega
  have g4:lg (x.den*y.den)<=274877906944:=by have:=a0Z x.den y.den;have:=a0K x;have:=a0K y;have:=e.out;have:=f.out;omega
  have n0:lg (x.num*y.num).natAbs<=274877906944:=by rw[Int.natAbs_mul];have:=a0Z x.num.natAbs y.num.natAbs;have:=a0G x;have:=a0G y;have:=e.out;have:=f.out;omega
  have L:=hid (And.intro j k);have p:Hid (∀W',Ext wc.drew W'->W'.cell? ⟨b,0,none⟩=some (.bool Q)/\W'.cell? ⟨b,1,none⟩=some (.slice H O J)/\W'.cell? ⟨b,2,none⟩=some (.slice T Z V)/\W'.cell? ⟨b+1,0,none⟩=some (.bool R)/\W'.cell? ⟨b+1,1,none⟩=some (.slice I P K)/\W'.cell? ⟨b+1,2,none⟩=some (.slice U k4 Y)):=
   hid fun W' h=>⟨(j.ext0 (c.trans h)).cell 0 rfl,(j.ext0 (c.trans h)).cell 1 rfl,(j.ext0 (c.trans h)).cell 2 rfl,(k.ext0 (c.trans h)).cell 0 rfl,(k.ext0 (c.trans h)).cell 1 rfl,(k.ext0 (c.trans h)).cell 2 rfl⟩
  have a0:hq x<=549755813888:=c1A e.out (by decide);have a7:hq y<=549755813888:=c1A f.out (by decide);have a9:lg x.num.natAbs<=274877906944:=c1A (c1A (a0G x) e.out) (by omega);have b3:lg y.num.natAbs<=274877906944:=c1A (c1A (a0G y) f.out) (by omega);have r:lg (x.den:Int).natAbs<=274877906944:=c1A (c1A (a0K x) e.out) (by omega);have s:lg (y.den:Int).natAbs<=274877906944:=c1A (c1A (a0K y) f.out) (by omega);have g9:lg ((x.den:Int)*(y.den:Int)).natAbs<=274877906944:=by rw[<-Int.natCast_mul,Int.natAbs_natCast];exact g4
  have g8:(x.den:Int)*(y.den:Int)≠0:=Int.mul_ne_zero (by have:=x.den_nz;omega) (by have:=y.den_nz;omega);have a8:lg (x.num*(y.den:Int)+y.num*(x.den:Int)).natAbs<=274877906944:=by
   have h1:=a1l (Int.natAbs_add_le (x.num*(y.den:Int)) (y.num*(x.den:Int)));have h2:=b0v (x.num*(y.den:Int)).natAbs (y.num*(x.den:Int)).natAbs;have h3:lg (x.num*(y.den:Int)).natAbs<=137438953472:=by rw[Int.natAbs_mul,Int.natAbs_natCast];have:=a0Z x.num.natAbs y.den;have:=a0G x;have:=a0K y;have:=e.out;have:=f.out;omega
   have h4:lg (y.num*(x.den:Int)).natAbs<=137438953472:=by rw[Int.natAbs_mul,Int.natAbs_natCast];have:=a0Z y.num.natAbs x.den;have:=a0G y;have:=a0K x;have:=e.out;have:=f.out;omega
   omega
  have c8:Hid (((x.num*(y.den:Int)+y.num*(x.den:Int):Int):Rat)/(((x.den:Int)*(y.den:Int):Int):Rat)=x+y):=hid (by
   rw[<-Int.natCast_mul,Rat.intCast_natCast,<-Rat.mkRat_eq_div];exact(Rat.add_def' x y).symm)
  go_wp2_with fail
  go_region_held3 (fun w'=>w'.cell? ⟨b,0,none⟩=some (.bool Q)/\w'.cell? ⟨b,1,none⟩=some (.slice H O J)/\w'.cell? ⟨b,2,none⟩=some (.slice T Z V)/\w'.cell? ⟨b+1,0,none⟩=some (.bool R)/\w'.cell? ⟨b+1,1,none⟩=some (.slice I P K)/\w'.cell? ⟨b+1,2,none⟩=some (.slice U k4 Y))
   (first|exact p.out _ t1|exact p.out _ t2|exact p.out _ t3|exact p.out _ t4|exact p.out _ t5|exact p.out _ t6|exact p.out _ t7|exact p.out _ t8|exact p.out _ E|exact⟨((L.out.1.ext0 (c.trans E)).ext (a.set3 _ _ _).2 (a0b (by omega))).cell 0 rfl,((L.out.1.ext0 (c.trans E)).ext (a.set3 _ _ _).2 (a0b (by omega))).cell 1 rfl,((L.out.1.ext0 (c.trans E)).ext (a.set3 _ _ _).2 (a0b (by omega))).cell 2 rfl,((L.out.2.ext0 (c.trans E)).ext (a.set3 _ _ _).2 (a0b (by omega))).cell 0 rfl,((L.out.2.ext0 (c.trans E)).ext (a.set3 _ _ _).2 (a0b (by omega))).cell 1 rfl,((L.out.2.ext0 (c.trans E)).ext (a.set3 _ _ _).2 (a0b (by omega))).cell 2 rfl⟩|go_keep)
   (first|(go_at_call 58;(with_reducible refine(a8H (a0f X b 3) wc.drew _ y d f6 a7).mono ?_);rintro o w5 ⟨t1,u5,rfl,k9⟩;have j4:=HX.ext d t1;have l4:=mkx ZC.mono f4 t1)|(go_at_call 57;(with_reducible refine(a9C (a0f X b 3) w5 _ _ x.num (y.den:Int) j4 (l4.zv (c1A a9 (by decide))) (k9.zv (c1A s (by decide))) a9 s).mono ?_);rintro o w6 ⟨i,u6,rfl,l0⟩;have t2:=t1.trans i;have j5:=HX.ext d t2;have l5:=mkx QC.mono f3 t2)|(go_at_call 58;(with_reducible refine(a8H (a0f X b 3) w6 _ x j5 l5 a0).mono ?_);rintro o w7 ⟨b6,u7,rfl,l1⟩;have t3:=t2.trans b6;have j6:=HX.ext d t3;have l8:=mkx ZC.mono f7 t3)|(go_at_call 57;(with_reducible refine(a9C (a0f X b 3) w7 _ _ y.num (x.den:Int) j6 (l8.zv (c1A b3 (by decide))) (l1.zv (c1A r (by decide))) b3 r).mono ?_);rintro o w8 ⟨b7,u8,rfl,l2⟩;have t4:=t3.trans b7;have j7:=HX.ext d t4;have m0:=mkx ZC.mono l0 (b6.trans b7))|(go_at_call 135;(with_reducible refine(c0s (a0f X b 3) w8 _ _ _ _ j7 (m0.zv (c1A g5 (by decide))) (l2.zv (c1A g6 (by decide)))).mono ?_);rintro o w9 ⟨j2,u9,rfl,l3⟩;have t5:=t4.trans j2;have j8:=HX.ext d t5;have l6:=mkx QC.mono f3 t5)|(go_at_call 58;(with_reducible refine(a8H (a0f X b 3) w9 _ x j8 l6 a0).mono ?_);rintro o m5 ⟨F,n9,rfl,d8⟩;have t6:=t5.trans F;have b8:=HX.ext d t6;have f5:=mkx QC.mono f6 t6)|(go_at_call 58;(with_reducible refine(a8H (a0f X b 3) m5 _ y b8 f5 a7).mono ?_);rintro o m6 ⟨m,o0,rfl,d9⟩;have t7:=t6.trans m;have b9:=HX.ext d t7;have c9:=mkx ZC.mono d8 m)|(go_at_call 57;(with_reducible refine(a9C (a0f X b 3) m6 _ _ (x.den:Int) (y.den:Int) b9 (c9.zv (c1A r (by decide))) (d9.zv (c1A s (by decide))) r s).mono ?_);rintro o m7 ⟨G,o1,rfl,e0⟩;have t8:=t7.trans G;have c0:=HX.ext d t8;have m1:=mkx ZC.mono l3 (F.trans (m.trans G)))|(go_at_call 56;(with_reducible refine(b0K (a0f X b 3) m7 _ _ _ _ c0 m1 e0 a8 g9 g8).mono ?_);rintro o o3 ⟨b5,o2,rfl,n⟩;have E:=t8.trans b5;obtain⟨m4,f9,m3,g7,h0,m2,h9,rfl⟩:=n.shape;have a:=S.ext0 (c.trans E);have g0:=a.cell 0 rfl;have g1:=a.cell 1 rfl;have g2:=a.cell 2 rfl;have f0:=a.frozen 0;have f1:=a.frozen 1;have f2:=a.frozen 2))
  rw[c8.out]at n;obtain⟨r1,r2⟩:=a.set3 (.bool m4) (.slice f9 m3 g7) (.slice h0 m2 h9);have h7:=QC.mono _ _ _ _ a0l (QC.mono _ _ _ _ (a0h r2 (by omega) (by omega)) n);have j3:Ext w _:=ExtX.box (b4.trans (c.trans E)) r2 (by omega);clear g0 g1 g2 f0 f1 f2 t z A B C D p L;go_wp2_with fail
  exact bodyPost_ret (a0d rfl rfl a0p r1 rfl) rfl ⟨j3,_,rfl,h7⟩
theorem a7Z(X:Nat->Bool)(w:World)(u v:Value)(x y:Rat)(hX:HX X w)(hu:QV (mk X w) u x)(hv:QV (mk X w) v y):Calls Tryz.prog 25 #[u,v] w (a2b X w QC (x*y)):=by
 have g:=hid hu.hq;have i:=hid hv.hq;obtain⟨s1,a1,n1,c1,d1,k1,e1,rfl⟩:=hu.shape;obtain⟨s2,a2,n2,c2,d2,k2,e2,rfl⟩:=hv.shape;obtain⟨W,hW,hE,j,k,M,hz⟩:=a2r w #[.bool s1,.slice a1 n1 c1,.slice d1 k1 e1] #[.bool s2,.slice a2 n2 c2,.slice d2 k2 e2] #[.bool false,.slice none 0 0,.slice none 0 0] 47 47 47;have b3:HX (a0f X w.heap.size 3) W:=hX.boxes hz;have F:=QV.mono _ _ _ _ (a0i (nb:=3) hE) hu;have H:=QV.mono _ _ _ _ (a0i (nb:=3) hE) hv;obtain⟨b,hb⟩:=c1F w.heap.size;have i1:w.heap.size<=b:=by omega
 rw[hb]at j k M hz b3 F H;have c:=c1L W;have d:HX (a0f X b 3) W.drew:=b3;have b7:QV (mk (a0f X b 3) W.drew) (.agg #[.bool s1,.slice a1 n1 c1,.slice d1 k1 e1]) x:=F;have b8:QV (mk (a0f X b 3) W.drew) (.agg #[.bool s2,.slice a2 n2 c2,.slice d2 k2 e2]) y:=H;have n:=j.cell 0 rfl;have o:=j.cell 1 rfl;have p:=j.cell 2 rfl;have q:=k.cell 0 rfl;have r:=k.cell 1 rfl;have s:=k.cell 2 rfl;clear hu hv;go_enter Tryz.func25,Tryz.ntmps25
 go_upto_region 1 with(fail)
 go_cut []from 5 to 8 (fun V=>∃K z I B N T P L A J C O U Q,Bx V b #[.bool K,.slice z I B,.slice N T P] 47/\Bx V (b+1) #[.bool L,.slice A J C,.slice O U Q] 47/\Bx V (b+1+1) #[.bool false,.slice none 0 0,.slice none 0 0] 47/\QC (mk (a0f X b 3) V) (.agg #[.bool K,.slice z I B,.slice N T P]) x/\QC (mk (a0f X b 3) V) (.agg #[.bool L,.slice A J C,.slice O U Q]) y/\Ext w V)
 case first=>
  go_region_with (first|(go_at_call 55;(with_reducible refine(a3M (a0f X b 3) W.drew _ x d b7).mono ?_);rintro R w5 ⟨l,u5,rfl,b5⟩;obtain⟨s5,a5,n5,c5,d5,k5,e5,rfl⟩:=b5.shape;have d0:=j.ext0 (c.trans l);have m:=k.ext0 (c.trans l);have f4:=m.cell 0 rfl;have f5:=m.cell 1 rfl;have f6:=m.cell 2 rfl)|(go_at_call 55;(with_reducible refine(a3M (a0f X b 3) w5 _ y (HX.ext d l) (mkx QV.mono b8 l)).mono ?_);rintro R w6 ⟨e,u6,rfl,b6⟩;obtain⟨s6,a6,n6,c6,d6,k6,e6,rfl⟩:=b6.shape;have a:=d0.ext0 e;have f:=m.ext0 e;have g7:=a.cell 0 rfl;have g8:=a.cell 1 rfl;have g9:=a.cell 2 rfl;have h0:=f.cell 0 rfl;have h1:=f.cell 1 rfl;have h2:=f.cell 2 rfl;have f8:=a.frozen 0;have f9:=a.frozen 1;have g5:=a.frozen 2;have g3:=f.frozen 0;have g4:=f.frozen 1;have g6:=f.frozen 2))
  all_goals
   obtain⟨wf,b9,q0,q1,q2,q3,q4⟩:=a2n (X:=X) (nb:=3) a f (hE.trans ((c.trans l).trans e)) i1 (by omega) (.bool s5) (.slice a5 n5 c5) (.slice d5 k5 e5) (.bool s6) (.slice a6 n6 c6) (.slice d6 k6 e6);rw[b9];have i2:QC (mk (a0f X b 3) wf) (.agg #[.bool s5,.slice a5 n5 c5,.slice d5 k5 e5]) x:=QC.mono _ _ _ _ q4 (mkx QC.mono b5 e);have i3:QC (mk (a0f X b 3) wf) (.agg #[.bool s6,.slice a6 n6 c6,.slice d6 k6 e6]) y:=QC.mono _ _ _ _ q4 b6;have q5:=q2 (b+1+1) _ _ (by omega) (by omega) ((M.ext0 (c.trans l)).ext0 e);clear f4 f5 f6 g7 g8 g9 h0 h1 h2 f8 f9 g3 g4 g5 g6 n o p q r s b9;go_wp2_with fail
   go_meet
   exact⟨_,_,_,_,_,_,_,_,_,_,_,_,_,_,q0,q1,q5,i2,i3,q3⟩
 case rest=>
  clear n o p q r s j k M F H b7 b8 d c hW;obtain⟨K,z,I,B,N,T,P,L,A,J,C,O,U,Q,j,k,M,hx,hy,a8⟩:=hcut;have c8:w.heap.size+3<=wc.heap.size:=by have:=M.lt;omega
  obtain⟨j1,k9,j9⟩:=hx.num;obtain⟨j4,l0,k0⟩:=hy.num;have i0:HX (a0f X b 3) wc:=hX.boxes' a8 (by have:=c8;omega) c8;have n:=j.cell 0 rfl;have o:=j.cell 1 rfl;have p:=j.cell 2 rfl;have q:=k.cell 0 rfl;have r:=k.cell 1 rfl;have s:=k.cell 2 rfl;have c:=c1L wc;have d:HX (a0f X b 3) wc.drew:=i0;have j0:QC (mk (a0f X b 3) wc.drew) (.agg #[.bool K,.slice z I B,.slice N T P]) x:=hx;have j3:QC (mk (a0f X b 3) wc.drew) (.agg #[.bool L,.slice A J C,.slice O U Q]) y:=hy;have c0:ZC (mk (a0f X b 3) wc.drew) (.agg #[.bool K,.slice z I B]) x.num:=j1;have c7:ZC (mk (a0f X b 3) wc.drew) (.agg #[.bool L,.slice A J C]) y.num:=j4;have k7:lg (x.num*(y.den:Int)).natAbs<=274877906944:=by rw[Int.natAbs_mul,Int.natAbs_natCast];have:=a0Z x.num.natAbs y.den;have:=a0G x;have:=a0K y;have:=g.out;have:=i.out;omega
  have k8:lg (y.num*(x.den:Int)).natAbs<=274877906944:=by rw[Int.natAbs_mul,Int.natAbs_natCast];have:=a0Z y.num.natAbs x.den;have:=a0G y;have:=a0K x;have:=g.out;have:=i.out;omega
  have d7:lg (x.den*y.den)<=274877906944:=by have:=a0Z x.den y.den;have:=a0K x;have:=a0K y;have:=g.out;have:=i.out;omega
  have d8:lg (x.num*y.num).natAbs<=274877906944:=by rw[Int.natAbs_mul];have:=a0Z x.num.natAbs y.num.natAbs;have:=a0G x;have:=a0G y;have:=g.out;have:=i.out;omega
  have D:=hid (And.intro j k);have S:Hid (∀W',Ext wc.drew W'->W'.cell? ⟨b,0,none⟩=some (.bool K)/\W'.cell? ⟨b,1,none⟩=some (.slice z I B)/\W'.cell? ⟨b,2,none⟩=some (.slice N T P)/\W'.cell? ⟨b+1,0,none⟩=some (.bool L)/\W'.cell? ⟨b+1,1,none⟩=some (.slice A J C)/\W'.cell? ⟨b+1,2,none⟩=some (.slice O U Q)):=
   hid fun W' h=>⟨(j.ext0 (c.trans h)).cell 0 rfl,(j.ext0 (c.trans h)).cell 1 rfl,(j.ext0 (c.trans h)).cell 2 rfl,(k.ext0 (c.trans h)).cell 0 rfl,(k.ext0 (c.trans h)).cell 1 rfl,(k.ext0 (c.trans h)).cell 2 rfl⟩
  have d9:hq x<=549755813888:=c1A g.out (by decide);have e0:hq y<=549755813888:=c1A i.out (by decide);have Z:lg x.num.natAbs<=274877906944:=c1A (c1A (a0G x) g.out) (by omega);have a7:lg y.num.natAbs<=274877906944:=c1A (c1A (a0G y) i.out) (by omega);have Y:lg (x.den:Int).natAbs<=274877906944:=c1A (c1A (a0K x) g.out) (by omega);have a0:lg (y.den:Int).natAbs<=274877906944:=c1A (c1A (a0K y) i.out) (by omega);have e9:lg ((x.den:Int)*(y.den:Int)).natAbs<=274877906944:=by rw[<-Int.natCast_mul,Int.natAbs_natCast];exact d7
  have e8:(x.den:Int)*(y.den:Int)≠0:=Int.mul_ne_zero (by have:=x.den_nz;omega) (by have:=y.den_nz;omega);have b4:Hid (((x.num*y.num:Int):Rat)/(((x.den:Int)*(y.den:Int):Int):Rat)=x*y):=hid (by
   rw[<-Int.natCast_mul,Rat.intCast_natCast,<-Rat.mkRat_eq_div];exact(Rat.mul_def' x y).symm)
  go_wp2_with fail
  go_region_held3 (fun w'=>w'.cell? ⟨b,0,none⟩=some (.bool K)/\w'.cell? ⟨b,1,none⟩=some (.slice z I B)/\w'.cell? ⟨b,2,none⟩=some (.slice N T P)/\w'.cell? ⟨b+1,0,none⟩=some (.bool L)/\w'.cell? ⟨b+1,1,none⟩=some (.slice A J C)/\w'.cell? ⟨b+1,2,none⟩=some (.slice O U Q))
   (first|exact S.out _ t1|exact S.out _ t2|exact S.out _ t3|exact S.out _ t4|exact S.out _ t|exact⟨((D.out.1.ext0 (c.trans t)).ext (a.set3 _ _ _).2 (a0b (by omega))).cell 0 rfl,((D.out.1.ext0 (c.trans t)).ext (a.set3 _ _ _).2 (a0b (by omega))).cell 1 rfl,((D.out.1.ext0 (c.trans t)).ext (a.set3 _ _ _).2 (a0b (by omega))).cell 2 rfl,((D.out.2.ext0 (c.trans t)).ext (a.set3 _ _ _).2 (a0b (by omega))).cell 0 rfl,((D.out.2.ext0 (c.trans t)).ext (a.set3 _ _ _).2 (a0b (by omega))).cell 1 rfl,((D.out.2.ext0 (c.trans t)).ext (a.set3 _ _ _).2 (a0b (by omega))).cell 2 rfl⟩|go_keep)
   (first|(go_at_call 57;(with_reducible refine(a9C (a0f X b 3) wc.drew _ _ x.num y.num d (c0.zv (c1A Z (by decide))) (c7.zv (c1A a7 (by decide))) Z a7).mono ?_);rintro R w5 ⟨t1,u5,rfl,i5⟩;have h5:=HX.ext d t1;have i9:=mkx QC.mono j0 t1)|(go_at_call 58;(with_reducible refine(a8H (a0f X b 3) w5 _ x h5 i9 d9).mono ?_);rintro R w6 ⟨e,u6,rfl,i6⟩;have t2:=t1.trans e;have h6:=HX.ext d t2;have j2:=mkx QC.mono j3 t2)|(go_at_call 58;(with_reducible refine(a8H (a0f X b 3) w6 _ y h6 j2 e0).mono ?_);rintro R w7 ⟨E,u7,rfl,i7⟩;have t3:=t2.trans E;have h8:=HX.ext d t3;have i4:=mkx ZC.mono i6 E)|(go_at_call 57;(with_reducible refine(a9C (a0f X b 3) w7 _ _ (x.den:Int) (y.den:Int) h8 (i4.zv (c1A Y (by decide))) (i7.zv (c1A a0 (by decide))) Y a0).mono ?_);rintro R w8 ⟨a9,u8,rfl,i8⟩;have t4:=t3.trans a9;have h9:=HX.ext d t4;have j5:=mkx ZC.mono i5 (e.trans (E.trans a9)))|(go_at_call 56;(with_reducible refine(b0K (a0f X b 3) w8 _ _ _ _ h9 j5 i8 d8 e9 e8).mono ?_);rintro R w9 ⟨h3,u9,rfl,G⟩;have t:=t4.trans h3;obtain⟨j8,c9,j7,e7,f3,j6,f7,rfl⟩:=G.shape;have a:=M.ext0 (c.trans t);have g0:=a.cell 0 rfl;have g1:=a.cell 1 rfl;have g2:=a.cell 2 rfl;have f0:=a.frozen 0;have f1:=a.frozen 1;have f2:=a.frozen 2))
  rw[b4.out]at G;obtain⟨r1,r2⟩:=a.set3 (.bool j8) (.slice c9 j7 e7) (.slice f3 j6 f7);have h7:=QC.mono _ _ _ _ a0l (QC.mono _ _ _ _ (a0h r2 (by omega) (by omega)) G);have h4:Ext w _:=ExtX.box (a8.trans (c.trans t)) r2 (by omega);clear g0 g1 g2 f0 f1 f2 n o p q r s S D;go_wp2_with fail
  exact bodyPost_ret (a0d rfl rfl a0p r1 rfl) rfl ⟨h4,_,rfl,h7⟩
theorem b9k(X:Nat->Bool)(w:World)(u v:Value)(x y:Rat)(hX:HX X w)(hu:QV (mk X w) u x)(hv:QV (mk X w) v y)(j3:y≠0):Calls Tryz.prog 134 #[u,v] w (a2b X w QC (x/y)):=by
 have g:=hid hu.hq;have i:=hid hv.hq;obtain⟨s1,a1,n1,c1,d1,k1,e1,rfl⟩:=hu.shape;obtain⟨s2,a2,n2,c2,d2,k2,e2,rfl⟩:=hv.shape;obtain⟨W,hW,hE,j,k,L,hz⟩:=a2r w #[.bool s1,.slice a1 n1 c1,.slice d1 k1 e1] #[.bool s2,.slice a2 n2 c2,.slice d2 k2 e2] #[.bool false,.slice none 0 0,.slice none 0 0] 47 47 47;have b3:HX (a0f X w.heap.size 3) W:=hX.boxes hz;have E:=QV.mono _ _ _ _ (a0i (nb:=3) hE) hu;have G:=QV.mono _ _ _ _ (a0i (nb:=3) hE) hv;obtain⟨b,hb⟩:=c1F w.heap.size;have i2:w.heap.size<=b:=by omega
 rw[hb]at j k L hz b3 E G;have c:=c1L W;have d:HX (a0f X b 3) W.drew:=b3;have b7:QV (mk (a0f X b 3) W.drew) (.agg #[.bool s1,.slice a1 n1 c1,.slice d1 k1 e1]) x:=E;have b8:QV (mk (a0f X b 3) W.drew) (.agg #[.bool s2,.slice a2 n2 c2,.slice d2 k2 e2]) y:=G;have n:=j.cell 0 rfl;have o:=j.cell 1 rfl;have p:=j.cell 2 rfl;have q:=k.cell 0 rfl;have r:=k.cell 1 rfl;have s:=k.cell 2 rfl;clear hu hv;go_enter Tryz.func134,Tryz.ntmps134
 go_upto_region 1 with(fail)
 go_cut []from 5 to 8 (fun U=>∃J z H B M S O K A I C N T P,Bx U b #[.bool J,.slice z H B,.slice M S O] 47/\Bx U (b+1) #[.bool K,.slice A I C,.slice N T P] 47/\Bx U (b+1+1) #[.bool false,.slice none 0 0,.slice none 0 0] 47/\QC (mk (a0f X b 3) U) (.agg #[.bool J,.slice z H B,.slice M S O]) x/\QC (mk (a0f X b 3) U) (.agg #[.bool K,.slice A I C,.slice N T P]) y/\Ext w U)
 case first=>
  go_region_with (first|(go_at_call 55;(with_reducible refine(a3M (a0f X b 3) W.drew _ x d b7).mono ?_);rintro Q w5 ⟨l,u5,rfl,b5⟩;obtain⟨s5,a5,n5,c5,d5,k5,e5,rfl⟩:=b5.shape;have d0:=j.ext0 (c.trans l);have m:=k.ext0 (c.trans l);have f5:=m.cell 0 rfl;have f6:=m.cell 1 rfl;have f7:=m.cell 2 rfl)|(go_at_call 55;(with_reducible refine(a3M (a0f X b 3) w5 _ y (HX.ext d l) (mkx QV.mono b8 l)).mono ?_);rintro Q w6 ⟨f,u6,rfl,b6⟩;obtain⟨s6,a6,n6,c6,d6,k6,e6,rfl⟩:=b6.shape;have a:=d0.ext0 f;have e:=m.ext0 f;have g8:=a.cell 0 rfl;have g9:=a.cell 1 rfl;have h0:=a.cell 2 rfl;have h1:=e.cell 0 rfl;have h2:=e.cell 1 rfl;have h3:=e.cell 2 rfl;have f9:=a.frozen 0;have g3:=a.frozen 1;have g6:=a.frozen 2;have g4:=e.frozen 0;have g5:=e.frozen 1;have g7:=e.frozen 2))
  all_goals
   obtain⟨wf,b9,q0,q1,q2,q3,q4⟩:=a2n (X:=X) (nb:=3) a e (hE.trans ((c.trans l).trans f)) i2 (by omega) (.bool s5) (.slice a5 n5 c5) (.slice d5 k5 e5) (.bool s6) (.slice a6 n6 c6) (.slice d6 k6 e6);rw[b9];have i3:QC (mk (a0f X b 3) wf) (.agg #[.bool s5,.slice a5 n5 c5,.slice d5 k5 e5]) x:=QC.mono _ _ _ _ q4 (mkx QC.mono b5 f);have i4:QC (mk (a0f X b 3) wf) (.agg #[.bool s6,.slice a6 n6 c6,.slice d6 k6 e6]) y:=QC.mono _ _ _ _ q4 b6;have q5:=q2 (b+1+1) _ _ (by omega) (by omega) ((L.ext0 (c.trans l)).ext0 f);clear f5 f6 f7 g8 g9 h0 h1 h2 h3 f9 g3 g4 g5 g6 g7 n o p q r s b9;go_wp2_with fail
   go_meet
   exact⟨_,_,_,_,_,_,_,_,_,_,_,_,_,_,q0,q1,q5,i3,i4,q3⟩
 case rest=>
  clear n o p q r s j k L E G b7 b8 d c hW;obtain⟨J,z,H,B,M,S,O,K,A,I,C,N,T,P,j,k,L,hx,hy,a7⟩:=hcut;have c8:w.heap.size+3<=wc.heap.size:=by have:=L.lt;omega
  obtain⟨j2,l1,k7⟩:=hx.num;obtain⟨j6,l2,k8⟩:=hy.num;have i1:HX (a0f X b 3) wc:=hX.boxes' a7 (by have:=c8;omega) c8;have n:=j.cell 0 rfl;have o:=j.cell 1 rfl;have p:=j.cell 2 rfl;have q:=k.cell 0 rfl;have r:=k.cell 1 rfl;have s:=k.cell 2 rfl;have c:=c1L wc;have d:HX (a0f X b 3) wc.drew:=i1;have j1:QC (mk (a0f X b 3) wc.drew) (.agg #[.bool J,.slice z H B,.slice M S O]) x:=hx;have j5:QC (mk (a0f X b 3) wc.drew) (.agg #[.bool K,.slice A I C,.slice N T P]) y:=hy;have c0:ZC (mk (a0f X b 3) wc.drew) (.agg #[.bool J,.slice z H B]) x.num:=j2;have c7:ZC (mk (a0f X b 3) wc.drew) (.agg #[.bool K,.slice A I C]) y.num:=j6;have d8:lg (x.num*(y.den:Int)).natAbs<=274877906944:=by rw[Int.natAbs_mul,Int.natAbs_natCast];have:=a0Z x.num.natAbs y.den;have:=a0G x;have:=a0K y;have:=g.out;have:=i.out;omega
  have d9:lg (y.num*(x.den:Int)).natAbs<=274877906944:=by rw[Int.natAbs_mul,Int.natAbs_natCast];have:=a0Z y.num.natAbs x.den;have:=a0G y;have:=a0K x;have:=g.out;have:=i.out;omega
  have d7:lg (x.den*y.den)<=274877906944:=by have:=a0Z x.den y.den;have:=a0K x;have:=a0K y;have:=g.out;have:=i.out;omega
  have k9:lg (x.num*y.num).natAbs<=274877906944:=by rw[Int.natAbs_mul];have:=a0Z x.num.natAbs y.num.natAbs;have:=a0G x;have:=a0G y;have:=g.out;have:=i.out;omega
  have D:=hid (And.intro j k);have R:Hid (∀W',Ext wc.drew W'->W'.cell? ⟨b,0,none⟩=some (.bool J)/\W'.cell? ⟨b,1,none⟩=some (.slice z H B)/\W'.cell? ⟨b,2,none⟩=some (.slice M S O)/\W'.cell? ⟨b+1,0,none⟩=some (.bool K)/\W'.cell? ⟨b+1,1,none⟩=some (.slice A I C)/\W'.cell? ⟨b+1,2,none⟩=some (.slice N T P)):=
   hid fun W' h=>⟨(j.ext0 (c.trans h)).cell 0 rfl,(j.ext0 (c.trans h)).cell 1 rfl,(j.ext0 (c.trans h)).cell 2 rfl,(k.ext0 (c.trans h)).cell 0 rfl,(k.ext0 (c.trans h)).cell 1 rfl,(k.ext0 (c.trans h)).cell 2 rfl⟩
  have e0:hq x<=549755813888:=c1A g.out (by decide);have e7:hq y<=549755813888:=c1A i.out (by decide);have Y:lg x.num.natAbs<=274877906944:=c1A (c1A (a0G x) g.out) (by omega);have a0:lg y.num.natAbs<=274877906944:=c1A (c1A (a0G y) i.out) (by omega);have V:lg (x.den:Int).natAbs<=274877906944:=c1A (c1A (a0K x) g.out) (by omega);have Z:lg (y.den:Int).natAbs<=274877906944:=c1A (c1A (a0K y) i.out) (by omega);have l0:lg ((x.den:Int)*(y.den:Int)).natAbs<=274877906944:=by rw[<-Int.natCast_mul,Int.natAbs_natCast];exact d7
  have e9:lg ((x.den:Int)*y.num).natAbs<=274877906944:=by rw[Int.mul_comm];exact d9
  have f3:(x.den:Int)*y.num≠0:=Int.mul_ne_zero (by have:=x.den_nz;omega) (fun h=>j3 (Rat.num_eq_zero.1 h));have b4:Hid (((x.num*(y.den:Int):Int):Rat)/(((x.den:Int)*y.num:Int):Rat)=x/y):=hid (by rw[Int.mul_comm (x.den:Int)];exact b6z x y);go_wp2_with fail
  go_region_held3 (fun w'=>w'.cell? ⟨b,0,none⟩=some (.bool J)/\w'.cell? ⟨b,1,none⟩=some (.slice z H B)/\w'.cell? ⟨b,2,none⟩=some (.slice M S O)/\w'.cell? ⟨b+1,0,none⟩=some (.bool K)/\w'.cell? ⟨b+1,1,none⟩=some (.slice A I C)/\w'.cell? ⟨b+1,2,none⟩=some (.slice N T P))
   (first|exact R.out _ t1|exact R.out _ t2|exact R.out _ t3|exact R.out _ t4|exact R.out _ t|exact⟨((D.out.1.ext0 (c.trans t)).ext (a.set3 _ _ _).2 (a0b (by omega))).cell 0 rfl,((D.out.1.ext0 (c.trans t)).ext (a.set3 _ _ _).2 (a0b (by omega))).cell 1 rfl,((D.out.1.ext0 (c.trans t)).ext (a.set3 _ _ _).2 (a0b (by omega))).cell 2 rfl,((D.out.2.ext0 (c.trans t)).ext (a.set3 _ _ _).2 (a0b (by omega))).cell 0 rfl,((D.out.2.ext0 (c.trans t)).ext (a.set3 _ _ _).2 (a0b (by omega))).cell 1 rfl,((D.out.2.ext0 (c.trans t)).ext (a.set3 _ _ _).2 (a0b (by omega))).cell 2 rfl⟩|go_keep)
   (first|(go_at_call 58;(with_reducible refine(a8H (a0f X b 3) wc.drew _ y d j5 e7).mono ?_);rintro Q w5 ⟨t1,u5,rfl,i5⟩;have h6:=HX.ext d t1;have i9:=mkx ZC.mono c0 t1)|(go_at_call 57;(with_reducible refine(a9C (a0f X b 3) w5 _ _ x.num (y.den:Int) h6 (i9.zv (c1A Y (by decide))) (i5.zv (c1A Z (by decide))) Y Z).mono ?_);rintro Q w6 ⟨f,u6,rfl,i6⟩;have t2:=t1.trans f;have h8:=HX.ext d t2;have j0:=mkx QC.mono j1 t2)|(go_at_call 58;(with_reducible refine(a8H (a0f X b 3) w6 _ x h8 j0 e0).mono ?_);rintro Q w7 ⟨a8,u7,rfl,i7⟩;have t3:=t2.trans a8;have h9:=HX.ext d t3;have j4:=mkx ZC.mono c7 t3)|(go_at_call 57;(with_reducible refine(a9C (a0f X b 3) w7 _ _ (x.den:Int) y.num h9 (i7.zv (c1A V (by decide))) (j4.zv (c1A a0 (by decide))) V a0).mono ?_);rintro Q w8 ⟨a9,u8,rfl,i8⟩;have t4:=t3.trans a9;have i0:=HX.ext d t4;have j7:=mkx ZC.mono i6 (a8.trans a9))|(go_at_call 56;(with_reducible refine(b0K (a0f X b 3) w8 _ _ _ _ i0 j7 i8 d8 e9 f3).mono ?_);rintro Q w9 ⟨h4,u9,rfl,F⟩;have t:=t4.trans h4;obtain⟨k0,c9,j9,e8,f4,j8,f8,rfl⟩:=F.shape;have a:=L.ext0 (c.trans t);have g0:=a.cell 0 rfl;have g1:=a.cell 1 rfl;have g2:=a.cell 2 rfl;have f0:=a.frozen 0;have f1:=a.frozen 1;have f2:=a.frozen 2))
  rw[b4.out]at F;obtain⟨r1,r2⟩:=a.set3 (.bool k0) (.slice c9 j9 e8) (.slice f4 j8 f8);have h7:=QC.mono _ _ _ _ a0l (QC.mono _ _ _ _ (a0h r2 (by omega) (by omega)) F);have h5:Ext w _:=ExtX.box (a7.trans (c.trans t)) r2 (by omega);clear g0 g1 g2 f0 f1 f2 n o p q r s R D;go_wp2_with fail
  exact bodyPost_ret (a0d rfl rfl a0p r1 rfl) rfl ⟨h5,_,rfl,h7⟩
theorem b6A(X:Nat->Bool)(w:World)(u v:Value)(l:List Rat)(c:Rat)(hX:HX X w)(hu:RV (mk X w) u l)(hv:QV (mk X w) v c)(hl:l.length<=1000000):Calls Tryz.prog 162 #[u,v] w (a2b X w RC (l.map (· *c))):=by
 obtain⟨ao,ca,rfl,d5,d⟩:=hu;have b2:=d.hd;obtain⟨O,F,N,G,I,M,e2,rfl⟩:=hv.shape;obtain⟨W,hW,e,b0,hz⟩:=a0Y w #[.bool O,.slice F N G,.slice I M e2] 47;have a5:HX X W:=hX.ext e;have b6:=d.mono QV.mono (a0k e);have b8:=mkx QV.mono hv e;obtain⟨b,hb⟩:=c1F w.heap.size;rw[hb]at b0 hz;obtain⟨L,J⟩:=c1F (l.map (· *c));have a0:L.length=l.length:=by rw[<-J];simp
 have Z:=hid (show∀i (hi:i<l.length) (b3:i<L.length),L[i]=l[i]*c from fun i hi b3=>by subst J;simp);rw[J];clear J d hv;go_enter Tryz.func162,Tryz.ntmps162
 go_wp2_with fail
 go_loopw [5,6] (fun o S wr=>∃(i:Nat) (oo:Option Addr) (H:Nat),S=.int .i64 i/\o=.slice oo i H/\i<=l.length/\OL QC 3 X W.heap.size 47 wr oo H (L.take i)/\Ext W wr) (fun _ S _=>l.length - (intOf S).toNat)
 case atStart=>exact⟨0,none,0,rfl,rfl,Nat.zero_le _,OL.nil _ _ _ _ _ _,ExtX.refl _⟩
 case round=>
  obtain⟨i,oo,H,rfl,rfl,hi,g,m⟩:=hrel;have t:HX X wr:=a5.ext m;have a8:HX (un X oo) wr:=g.unX t;have a9:=m.size;by_cases z:i<l.length
  ·have b7:Sl QV 3 (mk (un X oo) wr) ao l:=b6.old QV.mono m (fun j hj=>g.ob_lt hj)
   have k:i<L.length:=by omega
   have D:=hid (a0I L i k);have b5:=hid (a0O (l:=L) (i:=i) (by omega));obtain⟨f,n,s1,P,n1,R,U,k1,e1,y,a3,x,C⟩:=b7.rat QV.shaped i z;have A:=(a0V a3).2;have B:ob oo b=false:=g.ob_lt (by omega);have i1:∀W,(Instr.indexAt 24 (.slice ao l.length ca) (.int .i64 (i:Int))).run Tryz.prog W=.ok (.pointer (some ⟨f,n,none⟩)) W:=by rw[<-y];exact a0e a0x ao l.length ca .i64 i b2 (by omega)
   have a:=c1L wr;have K:Hid (∀Y W',ExtX Y wr.drew W'->Y f=false->Y b=false->W'.cell? ⟨f,n,none⟩=some (.bool s1)/\W'.cell? ⟨f,n+1,none⟩=some (.slice P n1 R)/\W'.cell? ⟨f,n+2,none⟩=some (.slice U k1 e1)/\W'.cell? ⟨b,0,none⟩=some (.bool O)/\W'.cell? ⟨b,1,none⟩=some (.slice F N G)/\W'.cell? ⟨b,2,none⟩=some (.slice I M e2)):=hid fun Y W' h hg hb=>by
    have p1:=x.out Y W' ((ExtX.of a).trans h) hg;have Q:=(b0.ext0 (m.trans a)).ext h hb;exact⟨p1.1,p1.2.1,p1.2.2,Q.cell 0 rfl,Q.cell 1 rfl,Q.cell 2 rfl⟩
   obtain⟨c4,c5,c7,c8,c9,d0⟩:=K.out noY wr.drew (ExtX.refl _) rfl rfl;have c0:QV (mk (un X oo) wr.drew) (.agg #[.bool s1,.slice P n1 R,.slice U k1 e1]) l[i]:=C;have b9:QV (mk (un X oo) wr.drew) (.agg #[.bool O,.slice F N G,.slice I M e2]) c:=a2j QV.mono b8 (m.trans a) (fun j hj=>g.ob_lt hj);have a7:HX (un X oo) wr.drew:=a8;have c3:=Z.out i z k;rw[c3]at D;clear x y C;go_wp2_with fail
   go_region_held3 (fun w'=>w'.cell? ⟨f,n,none⟩=some (.bool s1)/\w'.cell? ⟨f,n+1,none⟩=some (.slice P n1 R)/\w'.cell? ⟨f,n+2,none⟩=some (.slice U k1 e1)/\w'.cell? ⟨b,0,none⟩=some (.bool O)/\w'.cell? ⟨b,1,none⟩=some (.slice F N G)/\w'.cell? ⟨b,2,none⟩=some (.slice I M e2))
    (first|exact K.out noY _ p rfl rfl|exact K.out noY _ (ExtX.alloc p _) rfl rfl|exact K.out (ob oo) _ ((ExtX.of p).trans q) A B|go_keep)
    (first|(go_at_call 25;(with_reducible refine(a7Z (un X oo) wr.drew _ _ _ c a7 c0 b9).mono ?_);rintro ee w6 ⟨p,u6,rfl,E⟩;obtain⟨s6,a6,n6,c6,d6,k6,e6,rfl⟩:=E.shape;have r:=g.ext0 QC.elem (a.trans p);have d4:=(a.trans p).size;have a4:=t.ext (a.trans p))|(refine a1p (l:=L.take i) rfl (by rfl) a0x rfl QC.elem (by omega) a4 i b5.out rfl rfl r (.agg #[.bool s6,.slice a6 n6 c6,.slice d6 k6 e6]) (l[i]*c) rfl E (by omega) (by omega) ?_;intro d3 T w7 s q d7))
   have V:=(m.trans (a.trans p)).own r (c1B _) q;rw[D.out]at s;clear c4 c5 c7 c8 c9 d0;go_wp2_with fail
   go_roundw
   case rel=>exact⟨i+1,d3,T,by go_num,by go_num,by omega,s,V⟩
   case measure=>simp[intOf];omega
  ·have b4:i=l.length:=by omega
   subst b4;rw[c1D (by omega)]at g;have hc:=g.lenCap;have hs:=g.sl QC.elem;go_wp2_with fail
   go_ret
   exact⟨e.trans m,_,rfl,oo,H,by rw[a0];rfl,hc,hs⟩
theorem c0w(X:Nat->Bool)(w:World)(u v:Value)(l m:List Rat)(hX:HX X w)(hu:RV (mk X w) u l)(hv:RV (mk X w) v m)(hl:l.length<=1000000)(b7:m.length=l.length):Calls Tryz.prog 163 #[u,v] w (a2b X w RC (List.zipWith (· + ·) l m)):=by
 obtain⟨ao,ca,rfl,e0,J⟩:=hu;have b2:=J.hd;obtain⟨U,cb,rfl,e3,K⟩:=hv;have b3:=K.hd;have d7:m.length<=l.length:=by omega
 have d8:l.length<=m.length:=by omega
 obtain⟨L,Q⟩:=c1F (List.zipWith (· + ·) l m);have r:L.length=l.length:=by rw[<-Q];simp;omega
 have a4:=hid (show∀i (hi:i<l.length) (D:i<m.length) (b4:i<L.length),L[i]=l[i]+m[i]from fun i hi D b4=>by subst Q;simp);rw[Q];have d4:L.length<=l.length:=by omega
 have d5:l.length<=L.length:=by omega
 have s:=hid r;clear Q b7 r;go_enter Tryz.func163,Tryz.ntmps163
 go_wp2_with fail
 go_loopw [5,6] (fun o cc wr=>∃(i:Nat) (oo:Option Addr) (P:Nat),cc=.int .i64 i/\o=.slice oo i P/\i<=l.length/\OL QC 3 X w.heap.size 47 wr oo P (L.take i)/\Ext w wr) (fun _ cc _=>l.length - (intOf cc).toNat)
 case atStart=>exact⟨0,none,0,rfl,rfl,Nat.zero_le _,OL.nil _ _ _ _ _ _,ExtX.refl _⟩
 case round=>
  obtain⟨i,oo,P,rfl,rfl,hi,f,p⟩:=hrel;have y:HX X wr:=hX.ext p;have b0:HX (un X oo) wr:=f.unX y;have b1:=p.size;by_cases E:i<l.length
  ·have b8:Sl QV 3 (mk (un X oo) wr) ao l:=J.old QV.mono p (fun j D=>f.ob_lt D)
   have d:i<L.length:=by omega
   have N:=hid (a0I L i d);have b6:=hid (a0O (l:=L) (i:=i) (by omega));have e:i<m.length:=by omega
   have M:Sl QV 3 (mk (un X oo) wr) U m:=K.old QV.mono p (fun j D=>f.ob_lt D);obtain⟨c,k,s2,T,n2,Z,d2,k2,e2,C,a7,A,I⟩:=M.rat QV.shaped i e;obtain⟨b,g,s1,S,n1,V,d1,k1,e1,B,a5,z,H⟩:=b8.rat QV.shaped i E;have F:=(a0V a5).2;have G:=(a0V a7).2;have i2:∀W,(Instr.indexAt 24 (.slice U m.length cb) (.int .i64 (i:Int))).run Tryz.prog W=.ok (.pointer (some ⟨c,k,none⟩)) W:=by rw[<-C];exact a0e a0x U m.length cb .i64 i b3 (by omega)
   have i1:∀W,(Instr.indexAt 24 (.slice ao l.length ca) (.int .i64 (i:Int))).run Tryz.prog W=.ok (.pointer (some ⟨b,g,none⟩)) W:=by rw[<-B];exact a0e a0x ao l.length ca .i64 i b2 (by omega)
   have a:=c1L wr;have R:Hid (∀Y W',ExtX Y wr.drew W'->Y b=false->Y c=false->W'.cell? ⟨b,g,none⟩=some (.bool s1)/\W'.cell? ⟨b,g+1,none⟩=some (.slice S n1 V)/\W'.cell? ⟨b,g+2,none⟩=some (.slice d1 k1 e1)/\W'.cell? ⟨c,k,none⟩=some (.bool s2)/\W'.cell? ⟨c,k+1,none⟩=some (.slice T n2 Z)/\W'.cell? ⟨c,k+2,none⟩=some (.slice d2 k2 e2)):=hid fun Y W' h hg hb=>by
    have p1:=z.out Y W' ((ExtX.of a).trans h) hg;have p2:=A.out Y W' ((ExtX.of a).trans h) hb;exact⟨p1.1,p1.2.1,p1.2.2,p2.1,p2.2.1,p2.2.2⟩
   obtain⟨c4,c5,c7,c8,c9,d0⟩:=R.out noY wr.drew (ExtX.refl _) rfl rfl;have c0:QV (mk (un X oo) wr.drew) (.agg #[.bool s1,.slice S n1 V,.slice d1 k1 e1]) l[i]:=H;have b9:QV (mk (un X oo) wr.drew) (.agg #[.bool s2,.slice T n2 Z,.slice d2 k2 e2]) m[i]:=I;have a9:HX (un X oo) wr.drew:=b0;have c3:=a4.out i E e d;rw[c3]at N;clear z B H A C I;go_wp2_with fail
   go_region_held3 (fun w'=>w'.cell? ⟨b,g,none⟩=some (.bool s1)/\w'.cell? ⟨b,g+1,none⟩=some (.slice S n1 V)/\w'.cell? ⟨b,g+2,none⟩=some (.slice d1 k1 e1)/\w'.cell? ⟨c,k,none⟩=some (.bool s2)/\w'.cell? ⟨c,k+1,none⟩=some (.slice T n2 Z)/\w'.cell? ⟨c,k+2,none⟩=some (.slice d2 k2 e2))
    (first|exact R.out noY _ n rfl rfl|exact R.out noY _ (ExtX.alloc n _) rfl rfl|exact R.out (ob oo) _ ((ExtX.of n).trans q) F G|go_keep)
    (first|(go_at_call 83;(with_reducible refine(b7E (un X oo) wr.drew _ _ _ _ a9 c0 b9).mono ?_);rintro ee w6 ⟨n,u6,rfl,O⟩;obtain⟨s6,a6,n6,c6,d6,k6,e6,rfl⟩:=O.shape;have t:=f.ext0 QC.elem (a.trans n);have d9:=(a.trans n).size;have a8:=y.ext (a.trans n))|(refine a1p (l:=L.take i) rfl (by rfl) a0x rfl QC.elem (by omega) a8 i b6.out rfl rfl t (.agg #[.bool s6,.slice a6 n6 c6,.slice d6 k6 e6]) (l[i]+m[i]) rfl O (by omega) (by omega) ?_;intro d3 a0 w7 x q e4))
   have a3:=(p.trans (a.trans n)).own t (c1B _) q;rw[N.out]at x;clear c4 c5 c7 c8 c9 d0;go_wp2_with fail
   go_roundw
   case rel=>exact⟨i+1,d3,a0,by go_num,by go_num,by omega,x,a3⟩
   case measure=>simp[intOf];omega
  ·have b5:i=l.length:=by omega
   subst b5;rw[c1D (by omega)]at f;have hc:=f.lenCap;have hs:=f.sl QC.elem;go_wp2_with fail
   go_ret
   exact⟨p,_,rfl,oo,P,by rw[s.out];rfl,hc,hs⟩
theorem b9l(X:Nat->Bool)(w:World)(u v:Value)(x y:Rat)(hX:HX X w)(O:QV (mk X w) u x)(z:QV (mk X w) v y):Calls Tryz.prog 41 #[u,v] w (a2b X w QC (x - y)):=by
 have M:=hid z.hq;obtain⟨E,o,C,q,s,A,e1,rfl⟩:=O.shape;obtain⟨F,p,D,r,t,B,e2,rfl⟩:=z.shape;obtain⟨W,hW,H,e,f,b2,hz⟩:=a2r w #[.bool E,.slice o C q,.slice s A e1] #[.bool F,.slice p D r,.slice t B e2] #[.bool false,.slice none 0 0,.slice none 0 0] 47 47 47;have j:HX (a0f X w.heap.size 3) W:=hX.boxes hz;have m:=QV.mono _ _ _ _ (a0i (nb:=3) H) O;have n:=QV.mono _ _ _ _ (a0i (nb:=3) H) z;obtain⟨b,hb⟩:=c1F w.heap.size;rw[hb]at e f b2 hz j m n;have a:=c1L W;have k:HX (a0f X b 3) W.drew:=j;have Q:QV (mk (a0f X b 3) W.drew) (.agg #[.bool E,.slice o C q,.slice s A e1]) x:=m;have R:QV (mk (a0f X b 3) W.drew) (.agg #[.bool F,.slice p D r,.slice t B e2]) y:=n;have T:=e.cell 0 rfl;have U:=e.cell 1 rfl;have V:=e.cell 2 rfl;have Y:=f.cell 0 rfl;have Z:=f.cell 1 rfl;have a0:=f.cell 2 rfl;clear O z;have g:=hid (And.intro e f);have K:Hid (∀W',Ext W.drew W'->W'.cell? ⟨b,0,none⟩=some (.bool E)/\W'.cell? ⟨b,1,none⟩=some (.slice o C q)/\W'.cell? ⟨b,2,none⟩=some (.slice s A e1)/\W'.cell? ⟨b+1,0,none⟩=some (.bool F)/\W'.cell? ⟨b+1,1,none⟩=some (.slice p D r)/\W'.cell? ⟨b+1,2,none⟩=some (.slice t B e2)):=
  hid fun W' h=>⟨(e.ext0 (a.trans h)).cell 0 rfl,(e.ext0 (a.trans h)).cell 1 rfl,(e.ext0 (a.trans h)).cell 2 rfl,(f.ext0 (a.trans h)).cell 0 rfl,(f.ext0 (a.trans h)).cell 1 rfl,(f.ext0 (a.trans h)).cell 2 rfl⟩
 have N:=hid (show hq (-y)<=68719476736 by rw[a5R];exact M.out);have l:Hid (x+ -y=x - y):=hid (Rat.sub_eq_add_neg x y).symm;go_enter Tryz.func41,Tryz.ntmps41
 go_upto_region 1 with(fail)
 go_region_held3 (fun w'=>w'.cell? ⟨b,0,none⟩=some (.bool E)/\w'.cell? ⟨b,1,none⟩=some (.slice o C q)/\w'.cell? ⟨b,2,none⟩=some (.slice s A e1)/\w'.cell? ⟨b+1,0,none⟩=some (.bool F)/\w'.cell? ⟨b+1,1,none⟩=some (.slice p D r)/\w'.cell? ⟨b+1,2,none⟩=some (.slice t B e2))
  (first|exact K.out _ G|exact K.out _ d|exact⟨((g.out.1.ext0 (a.trans d)).ext (c.set3 _ _ _).2 (a0b (by omega))).cell 0 rfl,((g.out.1.ext0 (a.trans d)).ext (c.set3 _ _ _).2 (a0b (by omega))).cell 1 rfl,((g.out.1.ext0 (a.trans d)).ext (c.set3 _ _ _).2 (a0b (by omega))).cell 2 rfl,((g.out.2.ext0 (a.trans d)).ext (c.set3 _ _ _).2 (a0b (by omega))).cell 0 rfl,((g.out.2.ext0 (a.trans d)).ext (c.set3 _ _ _).2 (a0b (by omega))).cell 1 rfl,((g.out.2.ext0 (a.trans d)).ext (c.set3 _ _ _).2 (a0b (by omega))).cell 2 rfl⟩|go_keep)
  (first|(go_at_call 84;(with_reducible refine(b7D (a0f X b 3) W.drew _ y k R).mono ?_);rintro ee w5 ⟨G,u5,rfl,P⟩;have L:=HX.ext k G;have S:=mkx QV.mono Q G)|(go_at_call 83;(with_reducible refine(b7E (a0f X b 3) w5 _ _ x (-y) L S (P.qv N.out)).mono ?_);rintro ee w6 ⟨I,u6,rfl,i⟩;obtain⟨s6,a6,n6,c6,d6,k6,e6,rfl⟩:=i.shape;have d:=G.trans I;have c:=b2.ext0 (a.trans d);have g0:=c.cell 0 rfl;have g1:=c.cell 1 rfl;have g2:=c.cell 2 rfl;have f0:=c.frozen 0;have f1:=c.frozen 1;have f2:=c.frozen 2))
 rw[l.out]at i;obtain⟨q1,q2⟩:=c.set3 (.bool s6) (.slice a6 n6 c6) (.slice d6 k6 e6);have h7:=QC.mono _ _ _ _ a0l (QC.mono _ _ _ _ (a0h q2 (by omega) (by omega)) i);have J:Ext w _:=ExtX.box (H.trans (a.trans d)) q2 (by omega);clear g0 g1 g2 f0 f1 f2 T U V Y Z a0 K g;go_wp2_with fail
 exact bodyPost_ret (a0d rfl rfl a0p q1 rfl) rfl ⟨J,_,rfl,h7⟩
theorem a7t(X:Nat->Bool)(w:World)(a k:Int)(z:HX X w)(o: -9223372036854775808<=a)(p:a<=9223372036854775807)(q: -9223372036854775808<=k)(r:k<=9223372036854775807)(t:k≠0)(s:lg a.natAbs<=274877906944)(i:lg k.natAbs<=274877906944):Calls Tryz.prog 98 #[.int .i64 a,.int .i64 k] w (a2b X w QC ((a:Rat)/(k:Rat))):=by
 obtain⟨W,J,y,n,hz⟩:=a0Y w #[.bool false,.slice none 0 0,.slice none 0 0] 47;have f:HX (a0f X w.heap.size 1) W:=z.boxes hz;obtain⟨b,A⟩:=c1F w.heap.size;have B:w.heap.size<=b:=by omega
 rw[A]at n hz f;have e:=hid (And.intro (And.intro o p) (And.intro (And.intro q r) (And.intro t (And.intro s i))));clear o p q r t s i;go_enter Tryz.func98,Tryz.ntmps98
 go_wp2_with fail
 refine(b2Q (a0f X b 1) W a f e.out.1.1 e.out.1.2).mono ?_;rintro e1 D ⟨d,N,rfl,l⟩;have h:=f.ext d;go_wp2_with fail
 refine(b2Q (a0f X b 1) D k h e.out.2.1.1 e.out.2.1.2).mono ?_;rintro e2 E ⟨c,O,rfl,m⟩;go_wp2_with fail
 refine(b0K (a0f X b 1) E _ _ a k (h.ext c) (mkx ZC.mono l c) m e.out.2.2.2.1 e.out.2.2.2.2 e.out.2.2.1).mono ?_;rintro I Q ⟨g,P,rfl,j⟩;obtain⟨M,F,L,G,H,K,e5,rfl⟩:=j.shape;have v:=((n.ext0 d).ext0 c).ext0 g;go_wp2_with ((with_reducible refine c1J ?_);refine a0a a0p rfl rfl v rfl rfl a1s ?_;intro R C u)
 have x:=QC.mono _ _ _ _ a0l (QC.mono _ _ _ _ (a0h u (by omega) (by omega)) j);exact bodyPost_ret (a0d rfl rfl a0p C rfl) rfl ⟨ExtX.box (y.trans (d.trans (c.trans g))) u (by omega),_,rfl,x⟩
def c0x(X:Nat->Bool)(w:World)(l:List (List Rat))(e:Ending)(w':World):Prop:=Ext w w'/\∃oo co,e=.returned (.slice oo l.length co)/\OL RC 1 X w.heap.size 24 w' oo co l
theorem b7F(X:Nat->Bool)(w:World)(u:Value)(l:List (List Rat))(Q:HX X w)(Z:MV (mk X w) u l)(hl:l.length<=1000000)(p:∀r∈l,r.length<=1000000):Calls Tryz.prog 161 #[u] w (c0x X w l):=by
 obtain⟨ao,ca,rfl,T,s⟩:=Z;have U:=s.hd;have q:=hid p;clear p;go_enter Tryz.func161,Tryz.ntmps161
 go_wp2_with fail
 go_loopw [3,4] (fun o c wr=>∃(i:Nat) (oo:Option Addr) (t:Nat),c=.int .i64 i/\o=.slice oo i t/\i<=l.length/\OL RC 1 X w.heap.size 24 wr oo t (l.take i)/\Ext w wr) (fun _ c _=>l.length - (intOf c).toNat)
 case atStart=>exact⟨0,none,0,rfl,rfl,Nat.zero_le _,OL.nil _ _ _ _ _ _,ExtX.refl _⟩
 case round=>
  obtain⟨i,oo,t,rfl,rfl,V,d,b⟩:=hrel;have h:HX X wr:=Q.ext b;have z:HX (un X oo) wr:=d.unX h;have A:=b.size;by_cases n:i<l.length
  ·have H:Sl RV 1 (mk (un X oo) wr) ao l:=s.old RV.mono b (fun j W=>d.ob_lt W)
   have I:=hid (a0I l i n);have D:=hid (a0O V);obtain⟨O,P,R,B,k,F⟩:=H.row i n;have K:=B.out noY wr (ExtX.refl _) rfl;have E:=hid (q.out l[i] (c1E _));go_wp2_with (with_reducible refine a0v a0o ?_)
   refine(b1z (un X oo) wr _ l[i] z ⟨O,P,rfl,k,F⟩ E.out).mono ?_;rintro e w6 ⟨a,u6,rfl,J⟩;obtain⟨M,N,rfl,m,G⟩:=J;have f:=d.ext0 RC.elem a;have S:=a.size;clear K;go_wp2_with (at_builtin;refine a0t (l:=l.take i) a0o rfl RC.elem (by omega) (h.ext a) i D.out rfl rfl f (.slice M l[i].length N) l[i] rfl ⟨M,N,rfl,m,G⟩ (by omega) (by omega) ?_;intro L v w7 g x Y)
   have y:=(b.trans a).own f (c1B _) x;rw[I.out]at g;go_roundw
   case rel=>exact⟨i+1,L,v,by go_num,by go_num,by omega,g,y⟩
   case measure=>simp[intOf];omega
  ·have C:i=l.length:=by omega
   subst C;rw[List.take_length]at d;go_wp2_with fail
   go_ret
   exact⟨b,oo,t,rfl,d⟩
def a0A{α:Type}(m:List (List α)):Bool:=decide (m.length<=96)&&m.all fun r=>decide (1<=r.length/\r.length<=96/\r.length=(m.getD 0 []).length)
def colsL{α:Type}(m:List (List α)):Nat:=(m.getD 0 []).length
theorem a1O{α:Type}{m:List (List α)}:a0A m=true↔m.length<=96/\∀i (a:i<m.length),1<=m[i].length/\m[i].length<=96/\m[i].length=colsL m:=by
 unfold a0A colsL;rw[Bool.and_eq_true,decide_eq_true_eq,List.all_eq_true];constructor
 ·rintro ⟨b,c⟩
  exact⟨b,fun i a=>by simpa using c _ (c1E a)⟩
 ·rintro ⟨b,c⟩
  refine⟨b,fun r d=>?_⟩;obtain⟨i,a,rfl⟩:=List.getElem_of_mem d;simpa using c i a
theorem a5e{α:Type}{m:List (List α)}(i:Nat)(b:i<m.length)(h:¬(1<=m[i].length/\m[i].length<=96/\m[i].length=colsL m)):false=a0A m:=by
 symm;cases a:a0A m
 ·rfl
 ·exact absurd ((a1O.1 a).2 i b) h
theorem a1i{α:Type}{m:List (List α)}(h:0<m.length):colsL m=m[0].length:=by simp[colsL,List.getD_eq_getElem?_getD,h]
theorem a0w{m:List (List Rat)}(h:a0A m=true):Shp m.length (colsL m) m/\m.length<=96/\colsL m<=96/\(0<m.length->1<=colsL m)/\(m.length=0->colsL m=0):=by
 have b:=a1O.1 h;refine⟨⟨rfl,fun r d=>?_⟩,b.1,?_,fun a=>?_,fun a=>?_⟩
 ·obtain⟨i,c,rfl⟩:=List.getElem_of_mem d
  exact(b.2 i c).2.2
 ·by_cases a:0<m.length
  ·have:=b.2 0 a;omega
  ·have:m= []:=List.eq_nil_of_length_eq_zero (by omega)
   subst this;simp[colsL]
 ·have:=b.2 0 a;omega
 ·have:m= []:=List.eq_nil_of_length_eq_zero a
  subst this;rfl
theorem a2o{R:Mem->Value->Rat->Prop}(X:Nat->Bool)(w:World)(u:Value)(m:List (List Rat))(l:SlV (SlV R 3) 1 (mk X w) u m):Calls Tryz.prog 193 #[u] w (fun e w'=>w'=w/\e=.returned (.int .i64 (colsL m:Int))):=by
 obtain⟨ao,q,rfl,i,a⟩:=l;have j:=a.hd;by_cases h:0<m.length
 ·obtain⟨o,p,g,c,d,k⟩:=a.row 0 h
  have n:=c.out noY w (ExtX.refl _) rfl;have b:=hid (a1i h);have f:((m.length:Int)==0)=false:=a2C (by omega);go_enter Tryz.func193,Tryz.ntmps193
  go_wp2_with (with_reducible refine a0v a0o ?_)
  go_ret
  exact⟨rfl,a0N (by rw[b.out])⟩
 ·have b:Hid (colsL m=0):=hid (by
   have:m= []:=List.eq_nil_of_length_eq_zero (by omega);subst this;rfl)
  have f:((m.length:Int)==0)=true:=a6u (by omega);go_enter Tryz.func193,Tryz.ntmps193
  go_wp2_with (with_reducible refine a0v a0o ?_)
  go_ret
  exact⟨rfl,a0N (by rw[b.out];rfl)⟩
theorem a2s{R:Mem->Value->Rat->Prop}(X:Nat->Bool)(w:World)(u:Value)(m:List (List Rat))(P:SlV (SlV R 3) 1 (mk X w) u m)(Z:m.length<=1099511627776):Calls Tryz.prog 189 #[u] w (fun e w'=>w'=w/\e=.returned (.bool (a0A m))):=by
 obtain⟨ao,W,rfl,M,g⟩:=P;have O:=g.hd;by_cases I:96<m.length
 ·have b:Hid (false=a0A m):=hid (by
   symm;cases N:a0A m
   ·rfl
   ·have:=(a1O.1 N).1;omega)
  have J:(96:Int)<(m.length:Int):=by omega
  go_enter Tryz.func189,Tryz.ntmps189
  go_wp2_with fail
  go_ret
  exact⟨rfl,a0m b.out⟩
 ·have J:¬(96:Int)<(m.length:Int):=by omega
  go_enter Tryz.func189,Tryz.ntmps189
  go_wp2_with fail
  go_loop [10] (fun c=>∃(i:Nat),c=.int .i64 i/\i<=m.length/\Hid (∀q,q<i->∀hq:q<m.length,1<=m[q].length/\m[q].length<=96/\m[q].length=colsL m)) (fun c=>m.length - (intOf c).toNat)
  case atStart=>exact⟨0,rfl,Nat.zero_le _,fun q hq=>by omega⟩
  case round=>
   obtain⟨i,rfl,Y,r⟩:=hrel;by_cases p:i<m.length
   ·have E:0<m.length:=by omega
    obtain⟨S,U,K,k,n,v⟩:=g.row i p;obtain⟨T,V,L,l,o,z⟩:=g.row 0 E;have D:=k.out noY w (ExtX.refl _) rfl;have t:=l.out noY w (ExtX.refl _) rfl;have f:=a1i E;have a:=hid (a5e i p);rw[<-f]at t;obtain⟨x,B⟩:=c1F (m[i].length);obtain⟨y,C⟩:=c1F (colsL m);rw[B]at D a;rw[C]at t a;have A:Hid (1<=x/\x<=96/\x=y->∀hq:i<m.length,1<=m[i].length/\m[i].length<=96/\m[i].length=colsL m):=hid fun h hq=>by rw[B,C];exact h
    clear B C f k l v z n o;by_cases d:x=0
    ·have F:((x:Int)==0)=true:=a6u (by omega)
     have b:=hid (a.out (by omega));clear d;go_wp2_with (with_reducible refine a0v a0o ?_)
     go_ret
     exact⟨rfl,a0m b.out⟩
    ·have F:((x:Int)==0)=false:=a2C (by omega)
     by_cases Q:96<x
     ·have G:(96:Int)<(x:Int):=by omega
      have b:=hid (a.out (by omega));clear d;go_wp2_with (with_reducible refine a0v a0o ?_)
      go_ret
      exact⟨rfl,a0m b.out⟩
     ·have G:¬(96:Int)<(x:Int):=by omega
      by_cases j:x=y
      ·have H:((x:Int) !=(y:Int))=false:=b0B (by omega)
       have s:=hid (A.out ⟨by omega,by omega,j⟩);clear d j;go_wp2_with (with_reducible refine a0v a0o ?_)
       go_round
       case rel=>exact⟨i+1,by go_num,by omega,a5b r.out s.out⟩
       case measure=>simp[intOf];omega
      ·have H:((x:Int) !=(y:Int))=true:=a7c (by omega)
       have b:=hid (a.out (by omega));clear d j;go_wp2_with (with_reducible refine a0v a0o ?_)
       go_ret
       exact⟨rfl,a0m b.out⟩
   ·have b:Hid (true=a0A m):=hid (by
     symm;exact a1O.2 ⟨by omega,fun q hq=>r.out q (by omega) hq⟩)
    go_wp2_with fail
    go_ret
    exact⟨rfl,a0m b.out⟩
abbrev Hdr:=Option Addr×Nat×Nat
def HdR:Mem->Value->Hdr->Prop:=fun _ u x=>u=.slice x.1 x.2.1 x.2.2
theorem HdR.elem:Elem HdR 1:=⟨fun _ _ _ _ _ h=>h,by rintro h u x rfl;rfl,by
 rintro h u x rfl c a;simp[a0g,Value.cells]at a;subst a;rfl,Nat.one_pos⟩
theorem HdR.one:a3T HdR:=by rintro h u x rfl;rfl
theorem HdR.pure:∀h a u x,HdR h u x->HdR a u x:=fun _ _ _ _ h=>h
theorem OL.frame{α:Type}{R:Mem->Value->α->Prop}{sz:Nat}{X:Nat->Bool}{base:Nat}{e:TypeId}{w w':World}{ao:Option Addr}{cap:Nat}{l:List α}(f:∀h o u x,R h u x->R o u x){Y Z:Nat->Bool}(h:OL R sz X base e w ao cap l)(z:ExtX Y w w')(A:∀k,ob ao k=true->Y k=false)(B:∀k,ob ao k=true->Z k=false):OL R sz Z base e w' ao cap l:=by
 have C:=fun k (a:ob ao k=true)=>h.block a;obtain⟨F,E,p,q,d,n,s⟩:=h;refine⟨B,E,p,q,d,?_,fun i D j=>f _ _ _ _ (s i D j)⟩;refine⟨n.1,?_⟩;rcases n.2 with r|⟨g,c,b,m,t,v,y⟩
 ·exact .inl r
 ·refine .inr ⟨g,c,b,m,t,?_,y⟩
  simp at m;obtain⟨rfl,rfl⟩:=m;have a:ob (some ⟨g,0,none⟩) g=true:=by simp[ob]
  rw[z.block g (C g a).2 (A g a),v]
def cut(Z:Nat->Bool)(ao:Option Addr):Nat->Bool:=fun k=>Z k&& !ob ao k
theorem a4D{Z:Nat->Bool}{ao:Option Addr}(h:∀k,ob ao k=true->Z k=true):un (cut Z ao) ao=Z:=by
 funext k
 have:=h k;unfold un cut;cases a:ob ao k<;>cases hz:Z k<;>simp_all
theorem b0L{Z:Nat->Bool}{ao:Option Addr}{k:Nat}(h:cut Z ao k=true):Z k=true/\ob ao k=false:=by simpa[cut]using h
theorem a5f{Z:Nat->Bool}{ao:Option Addr}{k:Nat}(h:Z k=true)(a:ob ao k=false):cut Z ao k=true:=by simp[cut,h,a]
def obs(hs:List Hdr):Nat->Bool:=fun k=>hs.any fun h=>ob h.1 k
theorem a1R{hs:List Hdr}{i:Nat}(a:i<hs.length){k:Nat}(h:ob hs[i].1 k=true):obs hs k=true:=by
 unfold obs;rw[List.any_eq_true];exact⟨_,c1E a,h⟩
theorem a5g{hs:List Hdr}{k:Nat}(h:obs hs k=true):∃i,∃a:i<hs.length,ob hs[i].1 k=true:=by
 unfold obs at h;rw[List.any_eq_true]at h;obtain⟨x,c,b⟩:=h;obtain⟨i,a,rfl⟩:=List.getElem_of_mem c;exact⟨i,a,b⟩
def mz(X:Nat->Bool)(ao:Option Addr)(hs:List Hdr):Nat->Bool:=fun k=>X k||ob ao k||obs hs k
def mb(ao:Option Addr)(hs:List Hdr):Nat->Bool:=fun k=>ob ao k||obs hs k
theorem a2h{X:Nat->Bool}{ao:Option Addr}{hs:List Hdr}{k:Nat}:mz X ao hs k=true↔X k=true\/ob ao k=true\/obs hs k=true:=by simp[mz,or_assoc]
theorem a2D{ao:Option Addr}{hs:List Hdr}{k:Nat}:mb ao hs k=true↔ob ao k=true\/obs hs k=true:=by simp[mb]
structure MO (X:Nat->Bool) (base:Nat) (e1 e2:TypeId) (w:World) (ao:Option Addr) (cap:Nat) (hs:List Hdr) (m:List (List Rat)):Prop where
 outer:OL HdR 1 X base e1 w ao cap hs
 len:hs.length=m.length
 rlen:∀i (hi:i<hs.length) (hi':i<m.length),hs[i].2.1=m[i].length
 row:∀i (hi:i<hs.length) (hi':i<m.length),OL QC 3 (cut (mz X ao hs) hs[i].1) base e2 w hs[i].1 hs[i].2.2 m[i]
 sep:∀i (hi:i<hs.length) k,ob hs[i].1 k=true->X k=false/\ob ao k=false
 dis:∀i j (hi:i<hs.length) (hj:j<hs.length),i≠j->∀k,ob hs[i].1 k=true->ob hs[j].1 k=false
section
variable {X:Nat->Bool} {base:Nat} {e1 e2:TypeId} {w w':World} {ao:Option Addr} {cap:Nat} {hs:List Hdr} {m:List (List Rat)}
theorem MO.out_sep(h:MO X base e1 e2 w ao cap hs m){k:Nat}(a:ob ao k=true):X k=false/\obs hs k=false:=by
 refine⟨h.outer.1 k a,?_⟩;cases d:obs hs k
 ·rfl
 ·obtain⟨i,c,b⟩:=a5g d
  have:=(h.sep i c k b).2;rw[a]at this;simp at this
theorem MO.obs_sep(h:MO X base e1 e2 w ao cap hs m){k:Nat}(c:obs hs k=true):X k=false/\ob ao k=false:=by
 obtain⟨i,b,a⟩:=a5g c;exact h.sep i b k a
theorem MO.mb_X(h:MO X base e1 e2 w ao cap hs m){k:Nat}(b:mb ao hs k=true):X k=false:=by
 rcases a2D.1 b with a|a
 ·exact(h.out_sep a).1
 ·exact(h.obs_sep a).1
theorem MO.mb_block(h:MO X base e1 e2 w ao cap hs m){k:Nat}(d:mb ao hs k=true):base<=k/\k<w.heap.size:=by
 rcases a2D.1 d with a|a
 ·exact h.outer.block a
 ·obtain⟨i,c,b⟩:=a5g a
  exact(h.row i c (by have:=h.len;omega)).block b
theorem MO.mz_sub(_:MO X base e1 e2 w ao cap hs m){i:Nat}(a:i<hs.length)(k:Nat)(b:ob hs[i].1 k=true):mz X ao hs k=true:=a2h.2 (.inr (.inr (a1R a b)))
theorem MO.hz(h:MO X base e1 e2 w ao cap hs m)(b:HX X w):HX (mz X ao hs) w:=fun k c=>by
 rcases a2h.1 c with a|a
 ·exact b k a
 ·exact(h.mb_block (a2D.2 a)).2
theorem MO.ext(h:MO X base e1 e2 w ao cap hs m){Y X':Nat->Bool}(o:ExtX Y w w')(f:∀k,k<w.heap.size->Y k=true->X k=true)(j:∀k,k<w.heap.size->X' k=true->X k=true):MO X' base e1 e2 w' ao cap hs m:=by
 have e:∀k,mb ao hs k=true->X' k=false:=fun k b=>by
  cases l:X' k
  ·rfl
  ·have:=j k (h.mb_block b).2 l;rw[h.mb_X b]at this;simp at this
 have g:∀k,mb ao hs k=true->Y k=false:=fun k b=>by
  cases l:Y k
  ·rfl
  ·have:=f k (h.mb_block b).2 l;rw[h.mb_X b]at this;simp at this
 refine⟨h.outer.ext HdR.elem o f j,h.len,h.rlen,fun i c n=>?_,fun i c k b=>⟨e k (a2D.2 (.inr (a1R c b))),(h.sep i c k b).2⟩,h.dis⟩;refine(h.row i c n).ext QC.elem o (fun k b d=>a5f (a2h.2 (.inl (f k b d))) ?_) (fun k b d=>?_)
 ·cases r:ob hs[i].1 k
  ·rfl
  ·have:=g k (a2D.2 (.inr (a1R c r)));rw[d]at this;simp at this
 ·obtain⟨p,q⟩:=b0L d
  refine a5f (a2h.2 ?_) q;rcases a2h.1 p with a|a
  ·exact .inl (j k b a)
  ·exact .inr a
theorem MO.ext0(h:MO X base e1 e2 w ao cap hs m)(a:Ext w w'):MO X base e1 e2 w' ao cap hs m:=
 h.ext a (fun k _ b=>by simp[noY]at b) (fun _ _ h=>h)
theorem MO.upd(h:MO X base e1 e2 w ao cap hs m){i:Nat}(d:i<hs.length){l:List Rat}(f:ExtX (ob hs[i].1) w w')(o:∀n:i<m.length,l.length=m[i].length)(p:OL QC 3 (cut (mz X ao hs) hs[i].1) base e2 w' hs[i].1 hs[i].2.2 l):MO X base e1 e2 w' ao cap hs (m.set i l):=by
 refine⟨h.outer.frame HdR.pure f (fun k b=>?_) h.outer.1,by rw[List.length_set];exact h.len,fun j c a=>?_,fun j c a=>?_,h.sep,h.dis⟩
 ·cases g:ob hs[i].1 k
  ·rfl
  ·have:=(h.sep i d k g).2;rw[b]at this;simp at this
 ·rw[List.getElem_set]
  split
  ·subst_vars;rw[o (by have:=h.len;omega)];exact h.rlen _ c (by have:=h.len;omega)
  ·exact h.rlen j c (by simpa using a)
 ·rw[List.getElem_set]
  split
  ·subst_vars;exact p
  ·rename_i e
   exact(h.row j c (by simpa using a)).ext QC.elem f (fun k _ b=>a5f (h.mz_sub d k b) (h.dis i j d c e k b)) (fun _ _ b=>b)
theorem MO.perm(h:MO X base e1 e2 w ao cap hs m){b:List Hdr}{t:List (List Rat)}(f:Nat->Nat)(o:∀i,i<hs.length->f i<hs.length)(q:∀i j,i<hs.length->j<hs.length->f i=f j->i=j)(n:∀i,i<hs.length->∃j,j<hs.length/\f j=i)(D:b.length=hs.length)(B:t.length=m.length)(l:∀i (c:i<b.length) (g:f i<hs.length),b[i]=hs[f i])(y:∀i (c:i<t.length) (g:f i<m.length),t[i]=m[f i])(z:ExtX (ob ao) w w')(C:OL HdR 1 X base e1 w' ao cap b):MO X base e1 e2 w' ao cap b t:=by
 have x:=h.len;have r:∀k,obs b k=true↔obs hs k=true:=fun k=>by
  constructor
  ·intro d
   obtain⟨i,c,s⟩:=a5g d;have a:=o i (by omega);rw[l i c a]at s;exact a1R a s
  ·intro d
   obtain⟨i,c,s⟩:=a5g d;obtain⟨j,v,rfl⟩:=n i c;refine a1R (i:=j) (by omega) ?_;rw[l j (by omega) c];exact s
 have hz:mz X ao b=mz X ao hs:=by
  funext k
  rw[Bool.eq_iff_iff,a2h,a2h,r]
 refine⟨C,by omega,fun i c g=>?_,fun i c g=>?_,fun i c k d=>?_,fun i j c v u k d=>?_⟩
 ·have a:=o i (by omega)
  rw[l i c a,y i g (by omega)];exact h.rlen _ a (by omega)
 ·have a:=o i (by omega)
  rw[hz,l i c a,y i g (by omega)];exact(h.row _ a (by omega)).ext QC.elem z (fun k _ d=>a5f (a2h.2 (.inr (.inl d))) (by
   cases A:ob hs[f i].1 k
   ·rfl
   ·have:=(h.sep _ a k A).2;rw[d]at this;simp at this)) (fun _ _ d=>d)
 ·have a:=o i (by omega)
  rw[l i c a]at d;exact h.sep _ a k d
 ·have a:=o i (by omega)
  have p:=o j (by omega);rw[l i c a]at d;rw[l j v p];exact h.dis _ _ a p (fun e=>u (q i j (by omega) (by omega) e)) k d
theorem MO.put(h:MO X base e1 e2 w ao cap hs m){i:Nat}(H:i<hs.length)(I:hs[i].1=none){a:Option Addr}{c:Nat}{l:List Rat}{E:World}(B:Ext w E)(n:∀k,ob a k=true->w.heap.size<=k)(K:OL QC 3 (mz X ao hs) base e2 E a c l)(G:HX X w)(F:ExtX (ob ao) E w')(J:OL HdR 1 X base e1 w' ao cap (hs.set i (a,l.length,c))):MO X base e1 e2 w' ao cap (hs.set i (a,l.length,c)) (m.set i l):=by
 have u:=h.len;have A:ExtX (ob ao) w w':=(ExtX.of B).trans F;have x:∀k,obs (hs.set i (a,l.length,c)) k=true↔obs hs k=true\/ob a k=true:=fun k=>by
  constructor
  ·intro b
   obtain⟨j,f,d⟩:=a5g b;rw[List.getElem_set]at d;split at d
   ·exact .inr d
   ·exact .inl (a1R (by simpa using f) d)
  ·rintro (b|b)
   ·obtain⟨j,f,d⟩:=a5g b
    refine a1R (i:=j) (by simpa using f) ?_;rw[List.getElem_set];split
    ·subst_vars;rw[I]at d;simp[ob]at d
    ·exact d
   ·refine a1R (i:=i) (by simpa using H) ?_
    rw[List.getElem_set];simpa using b
 have v:∀k,mz X ao (hs.set i (a,l.length,c)) k=true↔mz X ao hs k=true\/ob a k=true:=fun k=>by
  rw[a2h,a2h,x];constructor
  ·rintro (h|h|h|h)
   ·exact .inl (.inl h)
   ·exact .inl (.inr (.inl h))
   ·exact .inl (.inr (.inr h))
   ·exact .inr h
  ·rintro ((h|h|h)|h)
   ·exact .inl h
   ·exact .inr (.inl h)
   ·exact .inr (.inr (.inl h))
   ·exact .inr (.inr (.inr h))
 have o:∀k,mb ao hs k=true->ob a k=false:=fun k b=>by
  cases p:ob a k
  ·rfl
  ·have:=n k p;have:=(h.mb_block b).2;omega
 have t:∀k,ob a k=true->ob ao k=false:=fun k b=>by
  cases p:ob ao k
  ·rfl
  ·have:=o k (a2D.2 (.inl p));rw[b]at this;simp at this
 refine⟨J,by simp[u],fun j f s=>?_,fun j f s=>?_,fun j f k b=>?_,fun j q f hq D k b=>?_⟩
 ·rw[List.getElem_set,List.getElem_set]
  split
  ·rfl
  ·exact h.rlen j (by simpa using f) (by simpa using s)
 ·have g:j<hs.length:=by simpa using f
  have C:j<m.length:=by simpa using s
  by_cases e:i=j
  ·subst e
   simp only[List.getElem_set_self];refine K.ext QC.elem F (fun k _ b=>a2h.2 (.inr (.inl b))) (fun k b hz=>?_);obtain⟨z,d⟩:=b0L hz;rcases(v k).1 z with r|r
   ·exact r
   ·rw[d]at r;simp at r
  ·simp only[List.getElem_set_ne e]
   refine(h.row j g C).ext QC.elem A (fun k _ b=>a5f (a2h.2 (.inr (.inl b))) ?_) (fun k b hz=>?_)
   ·cases p:ob hs[j].1 k
    ·rfl
    ·have:=(h.sep j g k p).2;rw[b]at this;simp at this
   ·obtain⟨z,d⟩:=b0L hz
    rcases(v k).1 z with r|r
    ·exact a5f r d
    ·have:=n k r;omega
 ·rw[List.getElem_set]at b
  split at b
  ·exact⟨by
    cases p:X k
    ·rfl
    ·have:=G k p;have:=n k b;omega,t k b⟩
  ·exact h.sep j (by simpa using f) k b
 ·have g:j<hs.length:=by simpa using f
  have y:q<hs.length:=by simpa using hq
  rw[List.getElem_set]at b |-;split at b
  ·rw[if_neg (by omega)]
   cases p:ob hs[q].1 k
   ·rfl
   ·have:=o k (a2D.2 (.inr (a1R y p)));dsimp only at b;rw[b]at this;simp at this
  ·split
   ·exact o k (a2D.2 (.inr (a1R g b)))
   ·exact h.dis j q g y D k b
theorem MO.hdr(h:MO X base e1 e2 w ao cap hs m)(i:Nat)(c:i<hs.length):w.cell? (adr ao i)=some (.slice hs[i].1 hs[i].2.1 hs[i].2.2)/\w.frozen? (adr ao i)=false:=by
 obtain⟨u,a,b,rfl⟩:=h.outer.cell HdR.one i c;exact⟨a,b⟩
theorem MO.rowS(h:MO X base e1 e2 w ao cap hs m){i:Nat}(b:i<hs.length)(a:i<m.length):Sl QC 3 (YtjmnhbebpffoaaaGreat.mk (cut (mz X ao hs) hs[i].1) w) hs[i].1 m[i]:=(h.row i b a).sl QC.elem
theorem MO.rowX(h:MO X base e1 e2 w ao cap hs m){i:Nat}(b:i<hs.length)(a:i<m.length):Sl QC 3 (YtjmnhbebpffoaaaGreat.mk X w) hs[i].1 m[i]:=(h.rowS b a).mono QC.mono (a1a fun k _ c=>a5f (a2h.2 (.inl c)) (by
 cases d:ob hs[i].1 k
 ·rfl
 ·have:=(h.sep i b k d).1;rw[c]at this;simp at this))
theorem MO.capLen(h:MO X base e1 e2 w ao cap hs m):m.length<=cap:=by rw[<-h.len];exact h.outer.lenCap
theorem MO.mc(h:MO X base e1 e2 w ao cap hs m):MC (YtjmnhbebpffoaaaGreat.mk X w) (.slice ao m.length cap) m:=by
 have g:=h.len;refine⟨ao,cap,rfl,h.capLen,fun k=>?_,fun i a=>?_⟩
 ·have:=h.outer.hd;rw[g]at this;exact this k
 ·obtain⟨d,_⟩:=h.hdr i (by omega)
  have l:=h.rowX (i:=i) (by omega) a;refine⟨.slice hs[i].1 hs[i].2.1 hs[i].2.2,rfl,fun j f=>?_,?_⟩
  ·have c:j=0:=by simp[Value.cells]at f;omega
   subst c;unfold YtjmnhbebpffoaaaGreat.mk;have e:X (adr ao (i*1+0)).block=false:=by
    obtain⟨b,n,rfl⟩:=h.outer.hd (by omega);exact h.outer.1 _ (by simp[ob,adr])
   rw[e];simpa[Value.cells]using d
  ·rw[h.rlen i (by omega) a]
   exact⟨_,_,rfl,by have:=(h.row i (by omega) a).lenCap;exact this,l⟩
theorem MO.start{n:Nat}(e:OL HdR 1 X base e1 w ao cap (List.replicate n (none,0,0)))(e2:TypeId):MO X base e1 e2 w ao cap (List.replicate n (none,0,0)) (List.replicate n []):=by
 refine⟨e,by simp,fun i a b=>by simp,fun i a b=>?_,fun i a k c=>?_,fun i j a f d k c=>?_⟩
 ·simp only[List.getElem_replicate];exact OL.nil _ _ _ _ _ _
 ·simp[ob]at c
 ·simp[ob]at c
end
section
variable {P:Program} {α:Type} {R:Mem->Value->α->Prop} {X:Nat->Bool} {base:Nat} {e:TypeId} {w:World} {ao:Option Addr} {cap:Nat} {l:List α}
theorem OL.cell3(h:OL R 3 X base e w ao cap l)(i:Nat)(hi:i<l.length){g o:Nat}(hg:adr ao (i*3)=⟨g,o,none⟩):∃u v0 v1 v2,a0g u= [v0,v1,v2]/\(w.cell? ⟨g,o,none⟩=some v0/\w.frozen? ⟨g,o,none⟩=false)/\(w.cell? ⟨g,o+1,none⟩=some v1/\w.frozen? ⟨g,o+1,none⟩=false)/\(w.cell? ⟨g,o+2,none⟩=some v2/\w.frozen? ⟨g,o+2,none⟩=false)/\R (mk (un X ao) w) u l[i]:=by
 obtain⟨us,h1,h2,_,h3,h5⟩:=h.cells;have hi':i<us.length:=by omega
 have hsz:us[i].cells.size=3:=h2 _ (c1E _);have hlen:(a0g us[i]).length=3:=by simp[a0g,hsz]
 obtain⟨v0,v1,v2,hv⟩:∃v0 v1 v2,a0g us[i]= [v0,v1,v2]:=by
  match hc:a0g us[i],hlen with
  | [a,b,c],_=>exact⟨a,b,c,rfl⟩
 have ha:∀j,adr ao (i*3+j)=⟨g,o+j,none⟩:=fun j=>by rw[<-a3y,hg,Addr.add_lit]
 have key:∀j v,j<3->(a0g us[i])[j]? =some v->w.cell? ⟨g,o+j,none⟩=some v/\w.frozen? ⟨g,o+j,none⟩=false:=fun j v hj hjv=>by
  have hget:=a3b us i j hi' h2 hj;rw[hjv]at hget;have:=h3 _ _ hget;rwa[ha]at this
 exact⟨us[i],v0,v1,v2,hv,key 0 v0 (by omega) (by rw[hv];rfl),key 1 v1 (by omega) (by rw[hv];rfl),key 2 v2 (by omega) (by rw[hv];rfl),h5 i hi' hi⟩
theorem a5G{P:Program}{w:World}{a:Addr}{u v:Value}(b:v.oneCell'=true)(c:w.cell? a=some u)(d:w.frozen? a=false):(store a v).run P w=.ok () (w.setCell a v):=by
 rw[run_store P w a v _ b,c];simp[d]
theorem OL.set3{t:TypeId}(F:TyI P t 3)(d:Elem R 3)(h:OL R 3 X base e w ao cap l)(i:Nat)(j:i<l.length){g o:Nat}(f:adr ao (i*3)=⟨g,o,none⟩){v0 v1 v2:Value}{x:α}(m:R (mk (un X ao) w) (.agg #[v0,v1,v2]) x):OL R 3 X base e (((w.setCell ⟨g,o,none⟩ v0).setCell ⟨g,o+1,none⟩ v1).setCell ⟨g,o+2,none⟩ v2) ao cap (l.set i x)/\ExtX (ob ao) w (((w.setCell ⟨g,o,none⟩ v0).setCell ⟨g,o+1,none⟩ v1).setCell ⟨g,o+2,none⟩ v2):=by
 obtain⟨ti,k,b⟩:=F;obtain⟨_,N,s,u,_,⟨A,v⟩,⟨B,y⟩,⟨C,z⟩,_⟩:=h.cell3 i j f;obtain⟨w',c,D,E⟩:=h.run_store (P:=P) k b d i j _ x m;have a:=d.one _ _ _ m;rw[f]at c;have H:v0.oneCell'=true:=a v0 (by simp[a0g,Value.cells]);have I:v1.oneCell'=true:=a v1 (by simp[a0g,Value.cells]);have J:v2.oneCell'=true:=a v2 (by simp[a0g,Value.cells]);have n:(w.setCell ⟨g,o,none⟩ v0).cell? ⟨g,o+1,none⟩=some s:=by rw[World.cell?_setCell_other (h:=by simp)];exact B
 have p:((w.setCell ⟨g,o,none⟩ v0).setCell ⟨g,o+1,none⟩ v1).cell? ⟨g,o+2,none⟩=some u:=by rw[World.cell?_setCell_other (h:=by simp),World.cell?_setCell_other (h:=by simp)];exact C
 have q:(w.setCell ⟨g,o,none⟩ v0).frozen? ⟨g,o+1,none⟩=false:=by rw[World.frozen?_setCell];exact y
 have r:((w.setCell ⟨g,o,none⟩ v0).setCell ⟨g,o+1,none⟩ v1).frozen? ⟨g,o+2,none⟩=false:=by rw[World.frozen?_setCell,World.frozen?_setCell];exact z
 have G:w'=((w.setCell ⟨g,o,none⟩ v0).setCell ⟨g,o+1,none⟩ v1).setCell ⟨g,o+2,none⟩ v2:=by
  have K:=a5G (P:=P) H A v;have L:=a5G (P:=P) I n q;have M:=a5G (P:=P) J p r;simp[storeVar,sizeOf,typeInfo,k,b,Value.cells,storeCells,Addr.add_lit,K,L,M]at c;exact c.symm
 subst G;exact⟨D,E⟩
end
section
variable {X:Nat->Bool} {base:Nat} {e1 e2:TypeId} {w w':World} {ao:Option Addr} {cap:Nat} {hs:List Hdr} {m:List (List Rat)}
theorem MO.old{α:Type}{R:Mem->Value->α->Prop}(f:a3K R){u:Value}{x:α}{d:Nat->Bool}{b:World}(h:MO X base e1 e2 w ao cap hs m)(i:R (YtjmnhbebpffoaaaGreat.mk d b) u x)(e:Ext b w)(j:b.heap.size<=base)(g:∀k,k<b.heap.size->X k=true->d k=true):R (YtjmnhbebpffoaaaGreat.mk (mz X ao hs) w) u x:=
 f _ _ _ _ (a1g e (fun k _ c=>by simp[noY]at c) fun k c hz=>by
  rcases a2h.1 hz with a|a
  ·exact g k c a
  ·have:=(h.mb_block (a2D.2 a)).1;omega) i
theorem MO.ext_from{b:World}(h:MO X base e1 e2 w ao cap hs m)(c:Ext b w)(e:b.heap.size<=base)(a:ExtX (mb ao hs) w w'):Ext b w':=
 c.then_ a fun i f _=>by
  cases d:mb ao hs i
  ·rfl
  ·have:=(h.mb_block d).1;omega
theorem b9m{ao:Option Addr}{hs:List Hdr}{k:Nat}(h:mb ao hs k=false):ob ao k=false/\∀i (b:i<hs.length),ob hs[i].1 k=false:=by
 refine⟨?_,fun i b=>?_⟩
 ·cases a:ob ao k
  ·rfl
  ·rw[a2D.2 (.inl a)]at h;simp at h
 ·cases a:ob hs[i].1 k
  ·rfl
  ·rw[a2D.2 (.inr (a1R b a))]at h;simp at h
theorem ExtX.row{i:Nat}(a:i<hs.length)(h:ExtX (ob hs[i].1) w w'):ExtX (mb ao hs) w w':=h.weaken fun _ _ b=>(b9m b).2 i a
theorem b2W{hs a:List Hdr}(h:∀k,obs hs k=obs a k):mb ao hs=mb ao a/\mz X ao hs=mz X ao a:=by
 constructor<;>(funext k;simp[mb,mz,h])
def c1j(X:Nat->Bool)(e1 e2:TypeId)(w:World)(m:List (List Rat))(e:Ending)(w':World):Prop:=Ext w w'/\∃ao cap hs,e=.returned (.slice ao m.length cap)/\MO X w.heap.size e1 e2 w' ao cap hs m
end
theorem b0M{α:Type}(r i:Nat)(z:α)(x:α)(d:i<r):((List.range r).map fun q=>if q<i then z else x).set i z=(List.range r).map fun q=>if q<i+1 then z else x:=by
 refine List.ext_getElem (by simp) fun q b c=>?_;simp at b;rw[List.getElem_set];simp only[List.getElem_map,List.getElem_range];split
 ·subst_vars;simp
 ·by_cases a:q<i
  ·simp[a,show q<i+1 by omega]
  ·simp[a,show¬q<i+1 by omega]
theorem a8I{α:Type}(r:Nat)(z x:α):((List.range r).map fun q=>if q<0 then z else x)=List.replicate r x:=by
 refine List.ext_getElem (by simp) fun q a b=>by simp
theorem a8J{α:Type}(r:Nat)(z x:α):((List.range r).map fun q=>if q<r then z else x)=List.replicate r z:=by
 refine List.ext_getElem (by simp) fun q a b=>?_;simp at a;simp[a]
theorem a5h(X:Nat->Bool)(w:World)(r c:Nat)(E:HX X w)(N:r<=1000)(L:c<=1000):Calls Tryz.prog 192 #[.int .i64 (r:Int),.int .i64 (c:Int)] w (c1j X 24 47 w (List.replicate r (List.replicate c 0))):=by
 go_enter Tryz.func192,Tryz.ntmps192
 go_wp2_with ((with_reducible show wpList _ _ _ (⟨_,.makeSlice _ _ _,_,_,_,_⟩::_) _ _);refine a2x (R:=HdR) a0o HdR.elem (none,0,0) (fun _=>rfl) X E w.heap.size (c1B _) r rfl rfl rfl (by omega) (by omega) ?_;intro ao O e v)
 have j:=MO.start e 47;have H:=e.hd;simp only[List.length_replicate]at H;have D:List.replicate r ([]:List Rat)=(List.range r).map fun q=>if q<0 then List.replicate c 0 else[]:=(a8I r _ _).symm
 rw[D]at j;clear e D;go_loopw [11] (fun k wr=>∃(i:Nat) (hs:List Hdr),k=.int .i64 i/\i<=r/\Hid (∀q (hq:q<hs.length),i<=q->hs[q].1=none)/\MO X w.heap.size 24 47 wr ao r hs ((List.range r).map fun q=>if q<i then List.replicate c 0 else[])/\Ext w wr) (fun k _=>r - (intOf k).toNat)
 case atStart=>exact⟨0,_,rfl,Nat.zero_le _,hid (fun q hq _=>by simp),j,v⟩
 case round=>
  obtain⟨i,hs,rfl,M,a,d,u⟩:=hrel;have o:HX X wr:=E.ext u;have z:=d.hz o;have p:=hid d.len;have B:Hid (((List.range r).map fun q=>if q<i then List.replicate c (0:Rat)else[]).length=r):=hid (by simp);by_cases s:i<r
  ·have f:i<hs.length:=by rw[p.out,B.out];exact s
   have C:=hid (b0M r i (List.replicate c (0:Rat)) [] s);have J:=a.out i f (c1B _);go_wp2_with (first|(with_reducible refine a0v a0o ?_)|((with_reducible show wpList _ _ _ (⟨_,.makeSlice _ _ _,_,_,_,_⟩::_) _ _);refine a2x (R:=QC) a0x QC.elem (0:Rat) (fun _=>QC.zero _) (mz X ao hs) z wr.heap.size (c1B _) c rfl rfl rfl (by omega) (by omega) ?_;intro t P n b)|((with_reducible refine c1J ?_);refine a2L a3L HdR.elem i rfl (by simp) (d.outer.ext0 HdR.elem b) f (.slice t c c) (t,c,c) rfl rfl ?_;intro K y h))
   have m:=d.put (l:=List.replicate c 0) f J b (fun k F=>(n.block F).1) (n.base_le u.size) o h (by simpa using y);rw[C.out]at m;have x:Ext w K:=(u.trans b).then_ h fun k F _=>by
    cases G:ob ao k
    ·rfl
    ·have:=(d.outer.block G).1;omega
   have g:Hid (∀q (hq:q<(hs.set i (t,(List.replicate c (0:Rat)).length,c)).length),i+1<=q->(hs.set i (t,(List.replicate c (0:Rat)).length,c))[q].1=none):=hid fun q hq I=>by
    rw[List.getElem_set_ne (by omega)];exact a.out q (by simpa using hq) (by omega)
   go_roundw
   case rel=>exact⟨i+1,_,by go_num,by omega,g,m,x⟩
   case measure=>simp[intOf];omega
  ·have A:i=r:=by omega
   subst A;rw[a8J]at d;go_wp2_with fail
   go_ret
   exact⟨u,ao,i,hs,by simp,d⟩
def mix{α:Type}(a b:List α)(i:Nat):List α:=a.take i++b.drop i
theorem a2p{α:Type}{a b:List α}(h:a.length=b.length)(i:Nat):(mix a b i).length=a.length:=by simp[mix];omega
theorem a3D{α:Type}(a b:List α):mix a b 0=b:=by simp[mix]
theorem a3E{α:Type}{a b:List α}{i:Nat}(c:a.length<=i)(d:b.length<=i):mix a b i=a:=by simp[mix,c1D c,List.drop_of_length_le d]
theorem a1S{α:Type}{a b:List α}(h:a.length=b.length)(i q:Nat)(hq:q<(mix a b i).length):(mix a b i)[q]=if q<i then a[q]'(by rw[a2p h]at hq;exact hq)else b[q]'(by rw[a2p h]at hq;omega):=by
 have c:=hq;rw[a2p h]at c;have d:q<(a.take i++b.drop i).length:=hq
 show(a.take i++b.drop i)[q]'d=_
 rw[List.getElem_append];by_cases e:q<i
 ·rw[dif_pos (by simp;omega),if_pos e,List.getElem_take]
 ·rw[dif_neg (by simp;omega),if_neg e,List.getElem_drop]
  congr 1
  simp;omega
theorem a4I{α:Type}{a b:List α}(h:a.length=b.length){i:Nat}(f:i<a.length):(mix a b i).set i a[i]=mix a b (i+1):=by
 refine List.ext_getElem (by simp[a2p h]) fun q d e=>?_;rw[List.getElem_set];split
 ·subst_vars;rw[a1S h,if_pos (by omega)]
 ·rw[a1S h,a1S h]
  by_cases c:q<i
  ·rw[if_pos c,if_pos (by omega)]
  ·rw[if_neg c,if_neg (by omega)]
theorem b9n{α:Type}{a b:List α}(h:a.length=b.length){i:Nat}(e:i<b.length):(mix a b i).set i b[i]=mix a b i:=by
 refine List.ext_getElem (by simp) fun q c d=>?_;rw[List.getElem_set];split
 ·subst_vars;rw[a1S h,if_neg (by omega)]
 ·rfl
theorem a3o(X:Nat->Bool)(w:World)(u:Value)(m:List (List Rat))(n c:Nat)(hX:HX X w)(hu:MV (mk X w) u m)(V:Shp n c m)(hc:colsL m=c)(hn:n<=1000)(e8:c<=1000):Calls Tryz.prog 190 #[u] w (c1j X 24 47 w m):=by
 have t:=a2o X w u m hu;obtain⟨h2,ca,rfl,e7,c2⟩:=hu;have f3:=c2.hd;rw[hc]at t;have H:=hid V.1;have g3:=hid V.2;rw[H.out]at e7 f3 t |-;obtain⟨A,hA⟩:=c1F (List.replicate n (List.replicate c (0:Rat)));have p:Hid (A.length=n):=hid (by rw[<-hA];simp);have a4:Hid (∀i (hi:i<A.length),A[i]=List.replicate c (0:Rat)):=hid fun i hi=>by subst hA;simp
 have U:Hid (m.length=A.length):=hid (by rw[H.out,p.out]);have a2:=a5h X w n c hX hn e8;rw[hA]at a2;clear hA V hc;go_enter Tryz.func190,Tryz.ntmps190
 go_wp2_with fail
 refine t.mono ?_;rintro e w1 ⟨rfl,rfl⟩;go_wp2_with fail
 refine a2.mono ?_;rintro e w2 ⟨d4,ao,cap,hs,rfl,D⟩;rw[p.out];have G:=hid (D.len.trans p.out);have h0:n<=cap:=by have:=D.capLen;rw[p.out]at this;exact this
 have b6:Hd ao n:=by have:=D.outer.hd;rw[G.out]at this;exact this
 have b9:Hid (∀i (hi:i<hs.length),hs[i].2.1=c):=hid fun i hi=>by
  have h1:i<A.length:=by rw[p.out,<-G.out];exact hi
  rw[D.rlen i hi h1,a4.out i h1];simp
 clear t a2;go_wp2_with fail
 go_loopw [15] (fun k wr=>∃(i:Nat),k=.int .i64 i/\i<=n/\MO X w1.heap.size 24 47 wr ao cap hs (mix m A i)/\Ext w1 wr) (fun k _=>n - (intOf k).toNat)
 case atStart=>exact⟨0,rfl,Nat.zero_le _,by rw[a3D];exact D,d4⟩
 case round=>
  obtain⟨i,rfl,hi,r,L⟩:=hrel;by_cases T:i<n
  ·have Q:i<m.length:=by rw[H.out];exact T
   have b7:i<A.length:=by rw[p.out];exact T
   have s:i<hs.length:=by rw[G.out];exact T
   obtain⟨a1,c1,h4,b3,F,J⟩:=c2.row i Q;have a3:=b3.out noY wr L rfl;obtain⟨x,hx⟩:=c1F (m[i]);obtain⟨z,hz⟩:=c1F (A[i]);rw[hx]at a3 F J;have f:Hid (x.length=c):=hid (by rw[<-hx];exact g3.out _ (c1E _));have c8:Hid (z.length=c):=hid (by rw[<-hz,a4.out i b7];simp);have K:Hid (x.length=z.length):=hid (by rw[f.out,c8.out]);rw[f.out]at a3 F;have g4:Hid ((mix m A i).set i z=mix m A i):=hid (by rw[<-hz];exact b9n U.out b7);have b5:Hid ((mix m A i).set i x=mix m A (i+1)):=hid (by rw[<-hx];exact a4I U.out Q);have f7:Hid (i<(mix m A i).length):=hid (by rw[a2p U.out];exact Q);have h5:Hd a1 c:=by have:=J.hd;rw[f.out]at this;exact this
   have c0:RV (mk X w1) (.slice a1 c c1) x:=⟨a1,c1,by rw[f.out],by rw[f.out];exact F,J⟩;obtain⟨a,C,cr,P⟩:∃a C cr,hs[i]=(a,C,cr):=⟨_,_,_,rfl⟩;have f9:C=c:=by have:=b9.out i s;rw[P]at this;exact this
   subst f9;have d:=hid P;rw[<-g4.out]at r;have d8:MO X w1.heap.size 24 47 wr ao cap hs ((mix m A i).set i (mix x z 0)):=by rw[a3D];exact r
   clear hx hz b3 J P r;obtain⟨wo,g5⟩:∃wo,wo=wr:=⟨_,rfl⟩;subst g5;go_wp2_with (with_reducible refine a0v a0o ?_)
   go_loopw [22] (fun k wr=>∃(j:Nat),k=.int .i64 j/\j<=C/\MO X w1.heap.size 24 47 wr ao cap hs ((mix m A i).set i (mix x z j))/\Ext w1 wr) (fun k _=>C - (intOf k).toNat)
   case atStart=>exact⟨0,rfl,Nat.zero_le _,d8,L⟩
   case round=>
    obtain⟨j,rfl,hj,r,L⟩:=hrel;by_cases S:j<C
    ·have b8:j<x.length:=by rw[f.out];exact S
     have e2:HX X wr:=hX.ext L;have b2:=r.hz e2;have c3:Sl QV 3 (mk (mz X ao hs) wr) a1 x:=by
      obtain⟨_,_,b4,_,h3⟩:=r.old RV.mono c0 L (c1B _) (fun _ _ h=>h);simp only[Value.slice.injEq]at b4;obtain⟨rfl,_,rfl⟩:=b4;exact h3
     have f8:Hid (i<((mix m A i).set i (mix x z j)).length):=hid (by rw[List.length_set];exact f7.out);have R:Hid ((mix x z j).length=C):=hid (by rw[a2p K.out,f.out]);have B:=r.row i s f8.out;rw[List.getElem_set_self]at B;simp only[d.out]at B;have e9:Hd a C:=by have:=B.hd;rw[R.out]at this;exact this
     have c7:Hid (un (cut (mz X ao hs) a) a=mz X ao hs):=hid (a4D fun k hk=>by have:=r.mz_sub s k;rw[d.out]at this;exact this hk);have O:Hid (ob a (adr ao i).block=false):=hid (by
      cases hb:ob a (adr ao i).block
      ·rfl
      ·have h1:=(r.sep i s (adr ao i).block (by rw[d.out];exact hb)).2
       obtain⟨b0,o0,rfl⟩:=b6 (by omega);simp[ob,adr]at h1)
     have E:Hid (ob a wr.heap.size=false):=hid (B.ob_ge (c1B _));obtain⟨g,o,hg⟩:∃g o,adr a (j*3)=⟨g,o,none⟩:=⟨_,_,rfl⟩;have i2:∀W,(Instr.indexAt 23 (.slice ao n cap) (.int .i64 (i:Int))).run Tryz.prog W=.ok (.pointer (some (adr ao i))) W:=a0y a0o ao n cap .i64 i b6 (by omega) rfl;have i3:∀W,(Instr.indexAt 24 (.slice a C cr) (.int .i64 (j:Int))).run Tryz.prog W=.ok (.pointer (some ⟨g,o,none⟩)) W:=by rw[<-hg];exact a0e a0x a C cr .i64 j e9 (by omega)
     have bx:=Bx.new wr #[.bool false,.slice none 0 0,.slice none 0 0] 47;obtain⟨Z,hZ⟩:=c1F (mz X ao hs);have e3:=hid hZ;rw[hZ]at b2 c3 B c7;have f6:Hid ((mix x z j).set j x[j]=mix x z (j+1)):=hid (a4I K.out b8);have N:Hid (x[j]+0=x[j]):=hid (Rat.add_zero _);have v:=(r.hdr i s).1;rw[d.out]at v
     dsimp only at v
     clear hZ a3;go_wp2_with (first|(with_reducible refine a1w a0x ?_)|((with_reducible refine c1K ?_);refine a0z a0p j c3 b8 rfl (by simp) QV.agg ?_;intro u5 c4;obtain⟨s5,a5,n5,c5,d5,k5,e5,rfl⟩:=c4.shape)|((with_reducible refine c1J ?_);refine a0a a0p rfl rfl bx rfl rfl a1s ?_;intro I r1 r2))
     have y:=c1M r2;have q:=c1L I;have d9:=r.ext0 y;have e0:=B.ext0 QC.elem y;have g6:QV (mk Z I.drew) (.agg #[.bool s5,.slice a5 n5 c5,.slice d5 k5 e5]) x[j]:=mkx QV.mono c4 (y.trans q);have d3:QV (mk Z I.drew) (.agg #[.bool false,.slice none 0 0,.slice none 0 0]) 0:=(QC.zero _).qv (by rw[a0U];decide);have e1:HX Z I.drew:=b2.ext (y.trans q);have hS:Hid (∀Y W',ExtX Y I.drew W'->Y (adr ao i).block=false->Y wr.heap.size=false->W'.cell? (adr ao i)=some (.slice a C cr)/\W'.cell? ⟨wr.heap.size,0,none⟩=some (.bool s5)/\W'.cell? ⟨wr.heap.size,1,none⟩=some (.slice a5 n5 c5)/\W'.cell? ⟨wr.heap.size,2,none⟩=some (.slice d5 k5 e5)):=hid fun Y W' h g7 g8=>by
      have b1:=(r1.ext0 q).ext h g8;exact⟨h.cellY ((y.trans q).cell v) g7,b1.cell 0 rfl,b1.cell 1 rfl,b1.cell 2 rfl⟩
     obtain⟨g9,c9,d0,d1⟩:=hS.out noY I.drew (ExtX.refl _) rfl rfl;obtain⟨bw,e4⟩:=c1F wr.heap.size;rw[e4]at hS c9 d0 d1 E |-;clear v r1 bx;go_wp2_with fail
     go_region_held3 (fun w'=>w'.cell? (adr ao i)=some (.slice a C cr)/\w'.cell? ⟨bw,0,none⟩=some (.bool s5)/\w'.cell? ⟨bw,1,none⟩=some (.slice a5 n5 c5)/\w'.cell? ⟨bw,2,none⟩=some (.slice d5 k5 e5))
      (first|exact hS.out noY _ t1 rfl rfl|exact hS.out (ob a) _ ((ExtX.of t1).trans M.2) O.out E.out|go_keep)
      ((go_at_call 46;(with_reducible refine(b2U Z I.drew _ _ _ 0 e1 g6 d3).mono ?_);rintro ee w6 ⟨t1,u6,rfl,a0⟩;obtain⟨s6,a6,n6,c6,d6,k6,e6,rfl⟩:=a0.shape;rw[N.out]at a0;have a9:=e0.ext0 QC.elem (q.trans t1);obtain⟨_,v0,v1,v2,_,⟨g0,f0⟩,⟨g1,f1⟩,⟨g2,f2⟩,_⟩:=a9.cell3 j (by rw[R.out];exact S) hg;have M:=a9.set3 a3C QC.elem j (by rw[R.out];exact S) hg (v0:= .bool s6) (v1:= .slice a6 n6 c6) (v2:= .slice d6 k6 e6) (x:=x[j]) (by rw[c7.out];exact a0)))
     obtain⟨q1,q2⟩:=M;rw[f6.out]at q1;have d2:ExtX (ob hs[i].1) w6 (((w6.setCell ⟨g,o,none⟩ (.bool s6)).setCell ⟨g,o+1,none⟩ (.slice a6 n6 c6)).setCell ⟨g,o+2,none⟩ (.slice d6 k6 e6)):=by rw[d.out];exact q2
     have a7:=d9.ext0 (q.trans t1);have a8:=a7.upd s (l:=mix x z (j+1)) d2 (fun h6=>by rw[List.getElem_set_self,a2p K.out,a2p K.out]) (by rw[e3.out,d.out];exact q1);rw[List.set_set]at a8;have d7:=a7.ext_from ((L.trans y).trans (q.trans t1)) (c1B _) (ExtX.row s d2);clear g9 c9 d0 d1 g0 g1 g2 f0 f1 f2 i2 i3;go_wp2_with fail
     go_roundw
     case rel=>exact⟨j+1,by go_num,by omega,a8,d7⟩
     case measure=>simp[intOf];omega
    ·have f5:j=C:=by omega
     subst f5;rw[a3E (a:=x) (b:=z) (by rw[f.out];exact c1B _) (by rw[c8.out];exact c1B _),b5.out]at r;go_wp2_with fail
     go_roundw
     case rel=>exact⟨i+1,by go_num,by omega,r,L⟩
     case measure=>simp[intOf];omega
  ·have f4:i=n:=by omega
   subst f4;rw[a3E (by rw[H.out];exact c1B _) (by rw[p.out];exact c1B _)]at r;go_wp2_with fail
   go_ret
   exact⟨L,ao,cap,hs,by rw[H.out];rfl,r⟩
section
variable {P:Program} {ops:Array Oper} {Q:Exit->Act->World->Prop} {rest:List Oper} {a:Act} {w:World}
variable {α:Type} {R:Mem->Value->α->Prop} {sz:Nat} {X:Nat->Bool} {base:Nat} {e:TypeId} {ao:Option Addr} {cap:Nat} {l:List α}
variable {d:Option Tmp} {ty:TypeId} {ps:String} {af:Array Edge}
theorem a5i{t:TypeId}{x:Operand}{k:Nat}(F:a1M P t sz)(i:Nat)(h:OL R sz X base e w ao cap l)(G:i<l.length)(I:a.eval x=.pointer (some (adr ao k)))(H:k=i*sz)(p:∀h u y,R h u y->∃f,u=.agg f)(K:∀u,R (mk (un X ao) w) u l[i]->wpList P ops Q rest (a.put d u) w):wpList P ops Q (⟨d,.load t x,ty,ps,af,none⟩::rest) a w:=by
 refine wpList_plain rfl fun M o=>?_;subst H;obtain⟨N,ti,C,D,E⟩:=F;obtain⟨s,O,B,_,J,L⟩:=h.cells;have g:i<s.length:=by omega
 have n:=L i g G;obtain⟨f,c⟩:=p _ _ _ n;have m:f.toList.length=sz:=by have:=B s[i] (c1E _);rw[c]at this;simpa[Value.cells]using this
 have A:=run_loadCells_list (P:=P) w (adr ao (i*sz)) f.toList (fun j v z=>by
  rw[a3y];have q:j<sz:=by rw[<-m];exact(List.getElem?_eq_some_iff.1 z).1
  have b:=a3b s i j g B q;rw[c]at b;have r:(a0g (.agg f))[j]? =some v:=by simpa[a0g,Value.cells]using z
  rw[r]at b;exact(J _ _ b).1)
 rw[m]at A;unfold Oper.wp;simp[execOp,I,Instr.loadAt,Instr.sureAddr,loadVar,isAgg,run_underlying C,sizeOf,typeInfo,D,E,A,Result.andThen];rw[c]at n;exact o _ _ (K _ n)
end
theorem OL.rat{R:Mem->Value->Rat->Prop}(x:b0G R){X:Nat->Bool}{base:Nat}{e:TypeId}{w:World}{ao:Option Addr}{cap:Nat}{l:List Rat}(h:OL R 3 X base e w ao cap l)(i:Nat)(y:i<l.length):∃g o sg a n c d k e,adr ao (i*3)=⟨g,o,none⟩/\ob ao g=true/\Hid (∀Y W',ExtX Y w W'->Y g=false->W'.cell? ⟨g,o,none⟩=some (.bool sg)/\W'.cell? ⟨g,o+1,none⟩=some (.slice a n c)/\W'.cell? ⟨g,o+2,none⟩=some (.slice d k e))/\R (mk (un X ao) w) (.agg #[.bool sg,.slice a n c,.slice d k e]) l[i]:=by
 obtain⟨r,z,b⟩:=h.hd (by omega);have p:adr ao (i*3)=⟨r,z+i*3,none⟩:=by rw[b];rfl
 obtain⟨u,v0,v1,v2,q,⟨s,_⟩,⟨t,_⟩,⟨v,_⟩,m⟩:=h.cell3 i y p;obtain⟨sg,a,n,c,d,k,e,rfl⟩:=x _ _ _ m;simp only[a0g,Value.cells,List.cons.injEq,and_true]at q;obtain⟨rfl,rfl,rfl⟩:=q;exact⟨_,_,sg,a,n,c,d,k,e,p,by rw[b];simp[ob],hid fun Y W' f j=>⟨f.cellY s j,f.cellY t j,f.cellY v j⟩,m⟩
def b5a(X:Nat->Bool)(w:World)(m:List (List Rat))(e:Ending)(w':World):Prop:=Ext w w'/\∃u,e=.returned (.tuple #[u,.int .i64 0])/\MC (mk X w') u m
theorem a5Y(X:Nat->Bool)(w:World)(u:Value)(m:List (List Rat))(d:MV (mk X w) u m)(c:m.length<=1099511627776)(b:a0A m=false):Calls Tryz.prog 153 #[u] w (fun e w'=>w'=w/\e=.returned (.tuple #[.slice none 0 0,.int .i64 6])):=by
 have a:=a2s X w u m d c;rw[b]at a;clear b;go_enter Tryz.func153,Tryz.ntmps153
 go_wp2_with fail
 refine a.mono ?_;rintro e f ⟨rfl,rfl⟩;go_wp2_with fail
 go_ret2
 exact⟨rfl,rfl⟩
theorem a2E(X:Nat->Bool)(w:World)(u:Value)(m:List (List Rat))(n c:Nat)(hX:HX X w)(Q:MV (mk X w) u m)(hf:a0A m=true)(y:m.length=n)(t:colsL m=c):Calls Tryz.prog 153 #[u] w (b5a X w (trL m n c)):=by
 obtain⟨P,d7,b2,_,_⟩:=a0w hf;rw[y,t]at P;rw[y]at d7;rw[t]at b2;have B:=a2s X w u m Q (by omega);rw[hf]at B;have q:=a2o X w u m Q;rw[t]at q;have J:=hid P;have z:=hid y;have b3:=hid t;obtain⟨ua,d6,rfl,K,c8⟩:=Q;have Q:MV (mk X w) (.slice ua m.length d6) m:=⟨ua,d6,rfl,K,c8⟩;rw[y]at B q Q |-;clear hf y t P K c8;go_enter Tryz.func153,Tryz.ntmps153
 go_wp2_with fail
 refine B.mono ?_;rintro e w1 ⟨rfl,rfl⟩;go_wp2_with fail
 refine q.mono ?_;rintro e w2 ⟨rfl,rfl⟩;go_wp2_with fail
 refine(a5h X w2 c n hX (by omega) (by omega)).mono ?_;rintro e w3 ⟨L,ao,cap,hs,rfl,f⟩;rw[List.length_replicate];have H:Hid (hs.length=c):=hid (by rw[f.len];simp);have b7:Hd ao c:=by have:=f.outer.hd;rw[H.out]at this;exact this
 have d9:=hX.ext L;have a9:=f.hz d9;have c6:=f.old MV.mono Q L (c1B _) (fun _ _ h=>h);rw[<-b4S m n c]at f;have b4:=a3o (mz X ao hs) w3 _ m n c a9 c6 J.out b3.out (by omega) (by omega);clear B q Q c6;go_wp2_with fail
 refine b4.mono ?_;rintro e w4 ⟨a0,bo,f8,g8,rfl,a3⟩;have I:=a3.mc;rw[z.out]at I |-;have a2:=f.ext0 a0;have V:=L.trans a0;obtain⟨ba,g4,b6,g3,b⟩:=I;simp only[Value.slice.injEq]at b6;obtain⟨rfl,f4,rfl⟩:=b6;clear f4;have e1:=b.hd;rw[z.out]at e1;obtain⟨Z,M⟩:=c1F (mz X ao hs);have a8:=hid M;rw[M]at b a9;clear b4 f a3 M;go_wp2_with fail
 go_loopw [20] (fun k wr=>∃(i:Nat),k=.int .i64 i/\i<=n/\MO X w2.heap.size 24 47 wr ao cap hs (trN m n c i 0)/\Sl RC 1 (mk Z wr) bo m/\Ext w2 wr) (fun k _=>n - (intOf k).toNat)
 case atStart=>exact⟨0,rfl,Nat.zero_le _,a2,b,V⟩
 case round=>
  obtain⟨i,rfl,hi,s,b,U⟩:=hrel;by_cases c2:i<n
  ·have b9:i<m.length:=by rw[z.out];exact c2
   obtain⟨a1,c1,g5,b1,F,r⟩:=b.row i b9;have S:=b1.out noY wr (ExtX.refl _) rfl;have C:Hid (m[i].length=c):=hid (J.out.2 _ (c1E _));have b5:Hid (∀j (hj:j<m[i].length),m[i][j]=ent m i j):=hid fun j hj=>by
    unfold ent;rw[show m.getD i []=m[i]by simp[List.getD_eq_getElem?_getD,b9],List.getD_eq_getElem?_getD,List.getElem?_eq_getElem hj];rfl
   obtain⟨x,hx⟩:=c1F (m[i]);rw[hx]at S F r C b5;rw[C.out]at S F;have g6:Hd a1 c:=by have:=r.hd;rw[C.out]at this;exact this
   clear b1 hx;obtain⟨wo,f3⟩:∃wo,wo=wr:=⟨_,rfl⟩;subst f3;go_wp2_with (with_reducible refine a0v a0o ?_)
   go_loopw [27] (fun k wr=>∃(j:Nat),k=.int .i64 j/\j<=c/\MO X w2.heap.size 24 47 wr ao cap hs (trN m n c i j)/\Sl QC 3 (mk Z wr) a1 x/\Sl RC 1 (mk Z wr) bo m/\Ext w2 wr) (fun k _=>c - (intOf k).toNat)
   case atStart=>exact⟨0,rfl,Nat.zero_le _,s,r,b,U⟩
   case round=>
    obtain⟨j,rfl,hj,s,r,b,U⟩:=hrel;by_cases O:j<c
    ·have c0:j<x.length:=by rw[C.out];exact O
     have p:j<hs.length:=by rw[H.out];exact O
     have N:j<(trN m n c i j).length:=by rw[b7z];exact O
     obtain⟨a,D,T,l⟩:∃a D T,hs[j]=(a,D,T):=⟨_,_,_,rfl⟩;have e4:D=n:=by
      have:=s.rlen j p N;rw[l,a7V]at this;exact this
     subst e4;have hR:=s.row j p N;simp only[l]at hR;have d1:=fun k (hk:ob a k=true)=>s.mz_sub p k (by rw[l];exact hk);have e8:=fun k (hk:ob a k=true)=>s.sep j p k (by rw[l];exact hk);have e9:Hid (un (cut (mz X ao hs) a) a=mz X ao hs):=hid (a4D d1);have b8:i<((trN m D c i j)[j]).length:=by rw[a7V];exact c2
     have e0:Hd a D:=by have:=hR.hd;rw[a7V]at this;exact this
     have c9:=hid (b5.out j c0);have A:=hid (b7A (m:=m) (n:=D) (c:=c) (i:=i) (j:=j) N);obtain⟨v,hv⟩:=c1F (ent m i j);rw[hv]at c9 A;have y1:wr.cell? (adr ao j)=some (.slice a D T):=by
      have:=(s.hdr j p).1;rw[l]at this;exact this
     have f9:Hid (ob a (adr ao j).block=false):=hid (by
      cases hb:ob a (adr ao j).block
      ·rfl
      ·have h1:=(e8 _ hb).2
       obtain⟨b0,o0,rfl⟩:=b7 (by omega);simp[ob,adr]at h1)
     have i1:∀W,(Instr.indexAt 23 (.slice ao c cap) (.int .i64 (j:Int))).run Tryz.prog W=.ok (.pointer (some (adr ao j))) W:=a0y a0o ao c cap .i64 j b7 (by omega) rfl;have bx:=Bx.new wr #[.bool false,.slice none 0 0,.slice none 0 0] 47;have G:=hid l;clear l hv S;go_wp2_with (first|(with_reducible refine a1w a0x ?_)|((with_reducible refine c1K (t:=47) ?_);refine a0z a0p j r c0 rfl (by simp) QC.agg ?_;intro u5 R;rw[c9.out]at R;obtain⟨s5,a5,n5,c5,d5,k5,e5,rfl⟩:=R.shape)|((with_reducible refine c1J ?_);refine a0a a0p rfl rfl bx rfl rfl a1s ?_;intro w5 r1 r2))
     have d:=c1M r2;obtain⟨g,o,hg⟩:∃g o,adr a (i*3)=⟨g,o,none⟩:=⟨_,_,rfl⟩;have i2:∀W,(Instr.indexAt 24 (.slice a D T) (.int .i64 (i:Int))).run Tryz.prog W=.ok (.pointer (some ⟨g,o,none⟩)) W:=by rw[<-hg];exact a0e a0x a D T .i64 i e0 (by omega)
     have a4:=s.ext0 d;have a7:=hR.ext0 QC.elem d;have c7:=mkx QC.mono R d;have z1:=d.cell y1;have f5:=r1.cell 0 rfl;have f6:=r1.cell 1 rfl;have f7:=r1.cell 2 rfl;obtain⟨_,v0,v1,v2,_,⟨g0,f0⟩,⟨g1,f1⟩,⟨g2,f2⟩,_⟩:=a7.cell3 i b8 hg;have c4:=a7.set3 a3C QC.elem i b8 hg (v0:= .bool s5) (v1:= .slice a5 n5 c5) (v2:= .slice d5 k5 e5) (x:=v) (by rw[e9.out,a8.out];exact c7);clear y1 bx r1;go_wp2_with fail
     go_region
     all_goals
      obtain⟨q1,q2⟩:=c4;have E:=q2.drew;have d3:=q1.ext0 QC.elem ((ExtX.refl (Y:=noY) _).drew);obtain⟨w8,d0⟩:=c1F ((((w5.setCell ⟨g,o,none⟩ (.bool s5)).setCell ⟨g,o+1,none⟩ (.slice a5 n5 c5)).setCell ⟨g,o+2,none⟩ (.slice d5 k5 e5)).drew);rw[d0]at d3 E |-;have d4:ExtX (ob hs[j].1) w5 w8:=by rw[G.out];exact E
      have a6:=a4.upd p d4 (fun g7=>List.length_set) (by rw[G.out];exact d3);rw[A.out]at a6;have d2:∀k,ob a k=true->Z k=true:=fun k hk=>by rw[<-a8.out];exact d1 k hk
      have e6:=(r.mono QC.mono (a0k d)).mono QC.mono (a0s E d2);have e7:=(b.mono RC.mono (a0k d)).mono RC.mono (a0s E d2);have d8:=a4.ext_from (U.trans d) (c1B _) (ExtX.row p d4);clear z1 f5 f6 f7 g0 g1 g2 f0 f1 f2 i1 i2 d0 q1 q2;go_wp2_with fail
      go_roundw
      case rel=>exact⟨j+1,by go_num,by omega,a6,e6,e7,d8⟩
      case measure=>simp[intOf];omega
    ·have e3:j=c:=by omega
     subst e3;rw[b4T]at s;go_wp2_with fail
     go_roundw
     case rel=>exact⟨i+1,by go_num,by omega,s,b,U⟩
     case measure=>simp[intOf];omega
  ·have e2:i=n:=by omega
   subst e2;rw[b4U]at s;have c3:=s.mc;go_wp2_with fail
   go_ret2
   exact⟨U,_,rfl,by rw[(a1B m i c).1]at c3;exact c3⟩
theorem b7G(X:Nat->Bool)(w:World)(u v:Value)(l m:List Rat)(hX:HX X w)(hu:RV (mk X w) u l)(hv:RV (mk X w) v m)(hn:l.length<=1000000)(q:m.length=l.length)(B:∀k,k<=l.length->hq (a4q l m k)<=68719476736)(C:∀k,k<l.length->hq (l.getD k 0*m.getD k 0)<=68719476736):Calls Tryz.prog 198 #[u,v] w (a2b X w QC (a2S l m)):=by
 obtain⟨ao,ca,rfl,c3,a4⟩:=hu;obtain⟨bo,cb,rfl,c4,a8⟩:=hv;have c8:=a4.hd;have V:=a8.hd;obtain⟨W,hW,hE,J,z,hz⟩:=a1K w #[.bool false,.slice none 0 0,.slice none 0 0] #[.bool false,.slice none 0 0,.slice none 0 0] 47 47;have N:HX (a0f X w.heap.size 2) W:=hX.boxes hz;have h0:QC (mk (a0f X w.heap.size 2) W) (.agg #[.bool false,.slice none 0 0,.slice none 0 0]) (a4q l m 0):=QC.zero _;obtain⟨n,p⟩:=c1F l.length;rw[p]at hn q B C c3 c8 |-;rw[q]at c4 V |-;have a1:=hid p;have a2:=hid q;have P:=hid B;have Q:=hid C;have T:Hid (a4q l m n=a2S l m):=hid (by unfold a2S;rw[p]);clear p q B C;go_enter Tryz.func198,Tryz.ntmps198
 go_wp2_with fail
 obtain⟨b,hb⟩:=c1F w.heap.size;have a0:Hid (∀wr,Ext w wr->Le (mk X w) (mk (a0f X b 2) wr)):=hid fun wr h=>by rw[<-hb];exact a0i h
 have F:w.heap.size<=b:=by omega
 rw[hb]at J z N h0 |-;clear hW;go_loopw [10] (fun k wr=>∃(i:Nat) (s:Bool) (a:Option Addr) (n' c':Nat) (d:Option Addr) (kk e:Nat),k=.int .i64 i/\i<=n/\Bx wr b #[.bool false,.slice none 0 0,.slice none 0 0] 47/\Bx wr (b+1) #[.bool s,.slice a n' c',.slice d kk e] 47/\QC (mk (a0f X b 2) wr) (.agg #[.bool s,.slice a n' c',.slice d kk e]) (a4q l m i)/\HX (a0f X b 2) wr/\Ext w wr) (fun k _=>n - (intOf k).toNat)
 case atStart=>exact⟨0,_,_,_,_,_,_,_,rfl,Nat.zero_le _,J,z,h0,N,hE⟩
 case round=>
  obtain⟨i,s,a,n',c',d,kk,e,rfl,hi,J,z,hq,c2,o⟩:=hrel;by_cases G:i<n
  ·have Y:i<l.length:=by rw[a1.out];exact G
   have Z:i<m.length:=by rw[a2.out];exact G
   have d4:=a4.mono QV.mono (a0.out wr o);have a9:=a8.mono QV.mono (a0.out wr o);obtain⟨g2,o2,s2,p2,n2,q2,d2,k2,e2,U,f4,S,a3⟩:=a9.rat QV.shaped i Z;have gl:Hid (l.getD i 0=l[i]):=hid (by simp[List.getD_eq_getElem?_getD,Y]);have gm:Hid (m.getD i 0=m[i]):=hid (by simp[List.getD_eq_getElem?_getD,Z]);have r:Hid (a4q l m i+l[i]*m[i]=a4q l m (i+1)):=hid (by rw[<-gl.out,<-gm.out];rfl);have R:=hid (P.out i hi);have E:=hid (Q.out i G);rw[gl.out,gm.out]at E;obtain⟨x,hx⟩:=c1F (l[i]);obtain⟨y,hy⟩:=c1F (m[i]);rw[hx,hy]at r E;rw[hy]at a3;have d8:=hid hx;have i2:∀W,(Instr.indexAt 24 (.slice bo n cb) (.int .i64 (i:Int))).run Tryz.prog W=.ok (.pointer (some ⟨g2,o2,none⟩)) W:=by rw[<-U];exact a0e a0x bo n cb .i64 i V (by omega)
   have bx:=Bx.new wr #[.bool false,.slice none 0 0,.slice none 0 0] 47;obtain⟨D,hD⟩:=c1F (a4q l m i);obtain⟨D2,A⟩:=c1F (a4q l m (i+1));rw[hD]at hq r R;rw[A]at r;have K:=hid A;clear hx hy U hD A;go_wp2_with (first|(with_reducible refine a1w a0x ?_)|((with_reducible refine c1K (t:=47) ?_);refine a0z a0p i d4 Y rfl (by simp) QV.agg ?_;intro u5 H;rw[d8.out]at H;obtain⟨s5,a5,n5,c5,d5,k5,e5,rfl⟩:=H.shape)|((with_reducible refine c1J ?_);refine a0a a0p rfl rfl bx rfl rfl a1s ?_;intro t r1 r2))
   have b9:=c1M r2;have L:=c1L t;have c:=b9.trans L;have b6:=J.ext0 c;have g:=z.ext0 c;have r5:=r1.ext0 L;obtain⟨bw,F⟩:=c1F wr.heap.size;rw[F]at r5;have b3:=g.cell 0 rfl;have b4:=g.cell 1 rfl;have b5:=g.cell 2 rfl;have e1:=r5.cell 0 rfl;have e3:=r5.cell 1 rfl;have e4:=r5.cell 2 rfl;obtain⟨e8,e9,f3⟩:=S.out noY t.drew c rfl;have O:=c2.ext c;have d9:QV (mk (a0f X b 2) t.drew) (.agg #[.bool s5,.slice a5 n5 c5,.slice d5 k5 e5]) x:=mkx QV.mono H c;have e0:QV (mk (a0f X b 2) t.drew) (.agg #[.bool s2,.slice p2 n2 q2,.slice d2 k2 e2]) y:=mkx QV.mono a3 c;have d1:QV (mk (a0f X b 2) t.drew) (.agg #[.bool s,.slice a n' c',.slice d kk e]) D:=(mkx QC.mono hq c).qv R.out;clear bx r1 S;rw[F];go_wp2_with fail
   go_region_with (first|(go_at_call 35;(with_reducible refine(a9E (a0f X b 2) t.drew _ _ _ _ O d9 e0).mono ?_);rintro ee w6 ⟨t1,u6,rfl,b2⟩;obtain⟨s6,a6,n6,c6,d6,k6,e6,rfl⟩:=b2.shape;have M:=O.ext t1;have d3:=mkx QV.mono d1 t1;have d0:=b2.qv E.out;have j:=g.ext0 t1;have m0:=j.cell 0 rfl;have m1:=j.cell 1 rfl;have m2:=j.cell 2 rfl)|(go_at_call 46;(with_reducible refine(b2U (a0f X b 2) w6 _ _ _ _ M d3 d0).mono ?_);rintro ee w7 ⟨t7,u7,rfl,I⟩;obtain⟨s7,a7,n7,c7,d7,k7,e7,rfl⟩:=I.shape;rw[r.out]at I;have f:=j.ext0 t7;have g0:=f.cell 0 rfl;have g1:=f.cell 1 rfl;have b8:=f.cell 2 rfl;have f0:=f.frozen 0;have f1:=f.frozen 1;have f2:=f.frozen 2))
   all_goals
    obtain⟨z1,z2⟩:=f.set3 (.bool s7) (.slice a7 n7 c7) (.slice d7 k7 e7);have h8:=QC.mono _ _ _ _ (a0h (lo:=b) (nb:=2) z2 (by omega) (by omega)) I;have b7:=((b6.ext0 t1).ext0 t7).ext z2 (a0b (by omega));have c0:Ext w _:=ExtX.box (o.trans (c.trans (t1.trans t7))) z2 (by omega);have c1:=(M.ext t7).ext z2;rw[<-K.out]at h8;clear b3 b4 b5 e1 e3 e4 e8 e9 f3 m0 m1 m2 g0 g1 b8 f0 f1 f2 i2;go_wp2_with fail
    go_roundw
    case rel=>exact⟨i+1,_,_,_,_,_,_,_,by go_num,by omega,b7,z1,h8,c1,c0⟩
    case measure=>simp[intOf];omega
  ·have c9:i=n:=by omega
   subst c9;rw[T.out]at hq;have b3:=z.cell 0 rfl;have b4:=z.cell 1 rfl;have b5:=z.cell 2 rfl;go_wp2_with ((with_reducible refine c1J ?_);refine a0a a0p rfl rfl J rfl rfl a1s ?_;intro w7 r1 r2)
   have h7:=QC.mono _ _ _ _ a0l (QC.mono _ _ _ _ (a0h r2 (by omega) (by omega)) hq);exact bodyPost_ret (a0d rfl rfl a0p r1 rfl) rfl ⟨ExtX.box o r2 (by omega),_,rfl,h7⟩
end Go.Proofs.YtjmnhbebpffoaaaGreat
