/- Parts of a proof: each theorem states what it proves, and its conditions. -/
import Derived.Test.YtjmnhbebpffoaaaGreatIwE
set_option maxRecDepth 100000
set_option maxHeartbeats 1600000
namespace Go.Proofs.YtjmnhbebpffoaaaGreat
open Go.RowKit
theorem b2U(X:Nat->Bool)(w:World)(u v:Value)(x y:Rat)(hX:HX X w)(hu:QV (mk X w) u x)(hv:QV (mk X w) v y):Calls Tryz.prog 46 #[u,v] w (a2b X w QC (x+y)):=by
 have s:=hid hu.hq;have t:=hid hv.hq;obtain⟨s1,a1,n1,c1,d1,k1,e1,rfl⟩:=hu.shape;obtain⟨s2,a2,n2,c2,d2,k2,e2,rfl⟩:=hv.shape;obtain⟨W,hW,hE,p,q,b2,hz⟩:=a2r w #[.bool s1,.slice a1 n1 c1,.slice d1 k1 e1] #[.bool s2,.slice a2 n2 c2,.slice d2 k2 e2] #[.bool false,.slice none 0 0,.slice none 0 0] 47 47 47;have i2:HX (a0f X w.heap.size 3) W:=hX.boxes hz;have e8:=QV.mono _ _ _ _ (a0i (nb:=3) hE) hu;have f7:=QV.mono _ _ _ _ (a0i (nb:=3) hE) hv;obtain⟨b,hb⟩:=c1F w.heap.size;have m3:w.heap.size<=b:=by omega
 rw[hb]at p q b2 hz i2 e8 f7;have c:=c1L W;have d:HX (a0f X b 3) W.drew:=i2;have i8:QV (mk (a0f X b 3) W.drew) (.agg #[.bool s1,.slice a1 n1 c1,.slice d1 k1 e1]) x:=e8;have i9:QV (mk (a0f X b 3) W.drew) (.agg #[.bool s2,.slice a2 n2 c2,.slice d2 k2 e2]) y:=f7;have z:=p.cell 0 rfl;have A:=p.cell 1 rfl;have B:=p.cell 2 rfl;have C:=q.cell 0 rfl;have D:=q.cell 1 rfl;have E:=q.cell 2 rfl;clear hu hv;go_enter Tryz.func46,Tryz.ntmps46
 go_upto_region 1 with(fail)
 go_cut []from 5 to 8 (fun wx=>∃s3 a3 n3 c3 d3 U e3 s4 a4 n4 c4 d4 V e4,Bx wx b #[.bool s3,.slice a3 n3 c3,.slice d3 U e3] 47/\Bx wx (b+1) #[.bool s4,.slice a4 n4 c4,.slice d4 V e4] 47/\Bx wx (b+1+1) #[.bool false,.slice none 0 0,.slice none 0 0] 47/\QC (mk (a0f X b 3) wx) (.agg #[.bool s3,.slice a3 n3 c3,.slice d3 U e3]) x/\QC (mk (a0f X b 3) wx) (.agg #[.bool s4,.slice a4 n4 c4,.slice d4 V e4]) y/\Ext w wx)
 case first=>
  go_region_with (first|(go_at_call 73;(with_reducible refine(a4C (a0f X b 3) W.drew _ x d i8).mono ?_);rintro f w5 ⟨i,u5,rfl,i5⟩;obtain⟨s5,a5,n5,c5,d5,k5,e5,rfl⟩:=i5.shape;have j7:=p.ext0 (c.trans i);have Y:=q.ext0 (c.trans i);have j8:=Y.cell 0 rfl;have j9:=Y.cell 1 rfl;have k0:=Y.cell 2 rfl)|(go_at_call 73;(with_reducible refine(a4C (a0f X b 3) w5 _ y (HX.ext d i) (mkx QV.mono i9 i)).mono ?_);rintro f w6 ⟨j,u6,rfl,i6⟩;obtain⟨s6,a6,n6,c6,d6,k6,e6,rfl⟩:=i6.shape;have a:=j7.ext0 j;have o:=Y.ext0 j;have l3:=a.cell 0 rfl;have l4:=a.cell 1 rfl;have l5:=a.cell 2 rfl;have l7:=o.cell 0 rfl;have l8:=o.cell 1 rfl;have l9:=o.cell 2 rfl;have k7:=a.frozen 0;have k8:=a.frozen 1;have l1:=a.frozen 2;have k9:=o.frozen 0;have l0:=o.frozen 1;have l2:=o.frozen 2))
  all_goals
   obtain⟨wf,j0,q0,q1,q2,q3,q4⟩:=a2n (X:=X) (nb:=3) a o (hE.trans ((c.trans i).trans j)) m3 (by omega) (.bool s5) (.slice a5 n5 c5) (.slice d5 k5 e5) (.bool s6) (.slice a6 n6 c6) (.slice d6 k6 e6);rw[j0];have m6:QC (mk (a0f X b 3) wf) (.agg #[.bool s5,.slice a5 n5 c5,.slice d5 k5 e5]) x:=QC.mono _ _ _ _ q4 (mkx QC.mono i5 j);have m7:QC (mk (a0f X b 3) wf) (.agg #[.bool s6,.slice a6 n6 c6,.slice d6 k6 e6]) y:=QC.mono _ _ _ _ q4 i6;have q5:=q2 (b+1+1) _ _ (by omega) (by omega) ((b2.ext0 (c.trans i)).ext0 j);clear j8 j9 k0 l3 l4 l5 l7 l8 l9 k7 k8 k9 l0 l1 l2 z A B C D E j0;go_wp2_with fail
   go_meet
   exact⟨_,_,_,_,_,_,_,_,_,_,_,_,_,_,q0,q1,q5,m6,m7,q3⟩
 case rest=>
  clear z A B C D E p q b2 e8 f7 i8 i9 d c hW;obtain⟨s3,a3,n3,c3,d3,U,e3,s4,a4,n4,c4,d4,V,e4,p,q,b2,hx,hy,a7⟩:=hcut;have j5:w.heap.size+3<=wc.heap.size:=by have:=b2.lt;omega
  obtain⟨j2,o2,j1⟩:=hx.num;obtain⟨j4,o3,j3⟩:=hy.num;have i3:HX (a0f X b 3) wc:=hX.boxes' a7 (by have:=j5;omega) j5;have z:=p.cell 0 rfl;have A:=p.cell 1 rfl;have B:=p.cell 2 rfl;have C:=q.cell 0 rfl;have D:=q.cell 1 rfl;have E:=q.cell 2 rfl;have c:=c1L wc;have d:HX (a0f X b 3) wc.drew:=i3;have a8:QC (mk (a0f X b 3) wc.drew) (.agg #[.bool s3,.slice a3 n3 c3,.slice d3 U e3]) x:=hx;have a9:QC (mk (a0f X b 3) wc.drew) (.agg #[.bool s4,.slice a4 n4 c4,.slice d4 V e4]) y:=hy;have b5:ZC (mk (a0f X b 3) wc.drew) (.agg #[.bool s3,.slice a3 n3 c3]) x.num:=j2;have b6:ZC (mk (a0f X b 3) wc.drew) (.agg #[.bool s4,.slice a4 n4 c4]) y.num:=j4;have b8:lg x.num.natAbs<=549755813888:=c1A (c1A (a0G x) s.out) (by omega);have b9:lg y.num.natAbs<=549755813888:=c1A (c1A (a0G y) t.out) (by omega);have Z:lg x.den<=549755813888:=c1A (c1A (a0K x) s.out) (by omega);have a0:lg y.den<=549755813888:=c1A (c1A (a0K y) t.out) (by omega);have i0:lg (x.num*(y.den:Int)).natAbs<=274877906944:=by rw[Int.natAbs_mul,Int.natAbs_natCast];have:=a0Z x.num.natAbs y.den;have:=a0G x;have:=a0K y;have:=s.out;have:=t.out;omega
  have i1:lg (y.num*(x.den:Int)).natAbs<=274877906944:=by rw[Int.natAbs_mul,Int.natAbs_natCast];have:=a0Z y.num.natAbs x.den;have:=a0G y;have:=a0K x;have:=s.out;have:=t.out;omega
  have h9:lg (x.den*y.den)<=274877906944:=by have:=a0Z x.den y.den;have:=a0K x;have:=a0K y;have:=s.out;have:=t.out;omega
  have o0:lg (x.num*y.num).natAbs<=274877906944:=by rw[Int.natAbs_mul];have:=a0Z x.num.natAbs y.num.natAbs;have:=a0G x;have:=a0G y;have:=s.out;have:=t.out;omega
  have h8:0<x.den*y.den:=Nat.mul_pos x.den_pos y.den_pos;have r:=hid (And.intro p q);have g:Hid (∀W',Ext wc.drew W'->W'.cell? ⟨b,0,none⟩=some (.bool s3)/\W'.cell? ⟨b,1,none⟩=some (.slice a3 n3 c3)/\W'.cell? ⟨b,2,none⟩=some (.slice d3 U e3)/\W'.cell? ⟨b+1,0,none⟩=some (.bool s4)/\W'.cell? ⟨b+1,1,none⟩=some (.slice a4 n4 c4)/\W'.cell? ⟨b+1,2,none⟩=some (.slice d4 V e4)):=
   hid fun W' h=>⟨(p.ext0 (c.trans h)).cell 0 rfl,(p.ext0 (c.trans h)).cell 1 rfl,(p.ext0 (c.trans h)).cell 2 rfl,(q.ext0 (c.trans h)).cell 0 rfl,(q.ext0 (c.trans h)).cell 1 rfl,(q.ext0 (c.trans h)).cell 2 rfl⟩
  have M:=j1.len0;have N:=j3.len0;rw[a4d]at M N;have b3:lg (x.num*(y.den:Int)+y.num*(x.den:Int)).natAbs<=549755813888:=by
   have h1:=a1l (Int.natAbs_add_le (x.num*(y.den:Int)) (y.num*(x.den:Int)));have h2:=b0v (x.num*(y.den:Int)).natAbs (y.num*(x.den:Int)).natAbs;omega
  have b4:Hid (mkRat (x.num*(y.den:Int)+y.num*(x.den:Int)) (x.den*y.den)=x+y):=hid (Rat.add_def' x y).symm;by_cases hk:U=0/\V=0
  ·have m4:=hid (M.1 hk.1)
   have m5:=hid (N.1 hk.2);obtain⟨rfl,rfl⟩:=hk;have i7:Hid (((x.num+y.num:Int):Rat)=x+y):=hid (by
    rw[Rat.intCast_add]
    conv=>rhs;rw[<-Rat.mkRat_self x,<-Rat.mkRat_self y]
    rw[m4.out,m5.out,<-Rat.mk_den_one,<-Rat.mk_den_one,Rat.mk_eq_mkRat,Rat.mk_eq_mkRat])
   clear M N;go_wp2_with fail
   refine(b9g (a0f X b 3) wc _ _ _ _ i3 (j2.zv b8) (j4.zv b9)).mono ?_;rintro f w5 ⟨i,u5,rfl,s6,a6,c6,l6,rfl,m0,m1,m2⟩;have j6:=b2.ext0 i;have i4:=a7b.ofInt m1;rw[i7.out]at i4;clear z A B C D E;go_wp2_with ((with_reducible refine c1J ?_);refine a0a a0p rfl rfl j6 rfl rfl a1s ?_;intro w7 r1 r2)
   have h7:=(m2.mono (a0c.mono _) (a0h r2 (by omega) (by omega))).mono (a0c.mono _) a0l;exact bodyPost_ret (a0d rfl rfl a0p r1 rfl) rfl ⟨ExtX.box (a7.trans i) r2 (by omega),_,rfl,s6,a6,c6,l6,none,0,[],rfl,m0,c1B _,i4,h7,Sl.nil _ _ _ _⟩
  ·have o1:Hid (¬(U=0/\V=0)):=hid hk
   rcases(by omega:¬U=0\/(U=0/\¬V=0))with h3|⟨h3,h4⟩
   ·have hI:((U:Int)==0)=false:=a2C (by omega)
    clear hk M N h3;go_wp2_with fail
    go_region_held3 (fun F=>F.cell? ⟨b,0,none⟩=some (.bool s3)/\F.cell? ⟨b,1,none⟩=some (.slice a3 n3 c3)/\F.cell? ⟨b,2,none⟩=some (.slice d3 U e3)/\F.cell? ⟨b+1,0,none⟩=some (.bool s4)/\F.cell? ⟨b+1,1,none⟩=some (.slice a4 n4 c4)/\F.cell? ⟨b+1,2,none⟩=some (.slice d4 V e4))
     (first|exact g.out _ t1|exact g.out _ t2|exact g.out _ t3|exact g.out _ t4|exact g.out _ t5|exact g.out _ t6|exact g.out _ t7|exact g.out _ t8|exact g.out _ k|exact⟨((r.out.1.ext0 (c.trans k)).ext (a.set3 _ _ _).2 (a0b (by omega))).cell 0 rfl,((r.out.1.ext0 (c.trans k)).ext (a.set3 _ _ _).2 (a0b (by omega))).cell 1 rfl,((r.out.1.ext0 (c.trans k)).ext (a.set3 _ _ _).2 (a0b (by omega))).cell 2 rfl,((r.out.2.ext0 (c.trans k)).ext (a.set3 _ _ _).2 (a0b (by omega))).cell 0 rfl,((r.out.2.ext0 (c.trans k)).ext (a.set3 _ _ _).2 (a0b (by omega))).cell 1 rfl,((r.out.2.ext0 (c.trans k)).ext (a.set3 _ _ _).2 (a0b (by omega))).cell 2 rfl⟩|go_keep)
     (first|(go_at_call 78;(with_reducible refine(a9p (a0f X b 3) wc.drew _ y d a9).mono ?_);rintro f w5 ⟨t1,u5,rfl,e9⟩;have d7:=HX.ext d t1;have f8:=mkx ZC.mono b5 t1)|(go_at_call 92;(with_reducible refine(a5W (a0f X b 3) w5 _ _ x.num y.den d7 f8 e9 b8 a0).mono ?_);rintro f w6 ⟨j,u6,rfl,f3⟩;have t2:=t1.trans j;have d8:=HX.ext d t2;have f9:=mkx QC.mono a8 t2)|(go_at_call 78;(with_reducible refine(a9p (a0f X b 3) w6 _ x d8 f9).mono ?_);rintro f w7 ⟨H,u7,rfl,f4⟩;have t3:=t2.trans H;have d9:=HX.ext d t3;have g4:=mkx ZC.mono b6 t3)|(go_at_call 92;(with_reducible refine(a5W (a0f X b 3) w7 _ _ y.num x.den d9 g4 f4 b9 Z).mono ?_);rintro f w8 ⟨I,u8,rfl,f5⟩;have t4:=t3.trans I;have e0:=HX.ext d t4;have g5:=(mkx ZC.mono f3 (H.trans I)).zv (c1A i0 (by decide));have g6:=f5.zv (c1A i1 (by decide)))|(go_at_call 91;(with_reducible refine(b9g (a0f X b 3) w8 _ _ _ _ e0 g5 g6).mono ?_);rintro f w9 ⟨c9,u9,rfl,f6⟩;have t5:=t4.trans c9;have e7:=HX.ext d t5;have g3:=mkx QC.mono a8 t5)|(go_at_call 78;(with_reducible refine(a9p (a0f X b 3) w9 _ x e7 g3).mono ?_);rintro f h5 ⟨l,m8,rfl,Q⟩;have t6:=t5.trans l;have J:=HX.ext d t6;have T:=mkx QC.mono a9 t6)|(go_at_call 78;(with_reducible refine(a9p (a0f X b 3) h5 _ y J T).mono ?_);rintro f n8 ⟨e,m9,rfl,R⟩;have t7:=t6.trans e;have K:=HX.ext d t7;have O:=(mkx NC.mono Q e).nv (c1A Z (by decide));have P:=R.nv (c1A a0 (by decide)))|(go_at_call 77;(with_reducible refine(b6o K O P).mono ?_);rintro f h6 ⟨m,n0,rfl,S⟩;have t8:=t7.trans m;have L:=HX.ext d t8;have g7:=mkx ZC.mono f6 (l.trans (e.trans m)))|(go_at_call 76;(with_reducible refine(a5F (a0f X b 3) h6 _ _ _ _ L g7 S b3 (c1A h9 (by decide)) h8).mono ?_);rintro f n9 ⟨G,n7,rfl,n⟩;obtain⟨h0,b7,g9,c0,c7,g8,c8,rfl⟩:=n.shape;have k:=t8.trans G;have a:=b2.ext0 (c.trans k);have g0:=a.cell 0 rfl;have g1:=a.cell 1 rfl;have g2:=a.cell 2 rfl;have f0:=a.frozen 0;have f1:=a.frozen 1;have f2:=a.frozen 2))
    obtain⟨r1,r2⟩:=a.set3 (.bool h0) (.slice b7 g9 c0) (.slice c7 g8 c8);have h7:=QC.mono _ _ _ _ a0l (QC.mono _ _ _ _ (a0h r2 (by omega) (by omega)) n);rw[b4.out]at h7;have d0:Ext w _:=ExtX.box (a7.trans (c.trans k)) r2 (by omega);clear g0 g1 g2 f0 f1 f2 z A B C D E g r;go_wp2_with fail
    exact bodyPost_ret (a0d rfl rfl a0p r1 rfl) rfl ⟨d0,_,rfl,h7⟩
   ·have hI:((V:Int)==0)=false:=a2C (by omega)
    subst h3;clear hk M N h4;go_wp2_with fail
    go_region_held3 (fun F=>F.cell? ⟨b,0,none⟩=some (.bool s3)/\F.cell? ⟨b,1,none⟩=some (.slice a3 n3 c3)/\F.cell? ⟨b,2,none⟩=some (.slice d3 0 e3)/\F.cell? ⟨b+1,0,none⟩=some (.bool s4)/\F.cell? ⟨b+1,1,none⟩=some (.slice a4 n4 c4)/\F.cell? ⟨b+1,2,none⟩=some (.slice d4 V e4))
     (first|exact g.out _ t1|exact g.out _ t2|exact g.out _ t3|exact g.out _ t4|exact g.out _ t5|exact g.out _ t6|exact g.out _ t7|exact g.out _ t8|exact g.out _ k|exact⟨((r.out.1.ext0 (c.trans k)).ext (a.set3 _ _ _).2 (a0b (by omega))).cell 0 rfl,((r.out.1.ext0 (c.trans k)).ext (a.set3 _ _ _).2 (a0b (by omega))).cell 1 rfl,((r.out.1.ext0 (c.trans k)).ext (a.set3 _ _ _).2 (a0b (by omega))).cell 2 rfl,((r.out.2.ext0 (c.trans k)).ext (a.set3 _ _ _).2 (a0b (by omega))).cell 0 rfl,((r.out.2.ext0 (c.trans k)).ext (a.set3 _ _ _).2 (a0b (by omega))).cell 1 rfl,((r.out.2.ext0 (c.trans k)).ext (a.set3 _ _ _).2 (a0b (by omega))).cell 2 rfl⟩|go_keep)
     (first|(go_at_call 78;(with_reducible refine(a9p (a0f X b 3) wc.drew _ y d a9).mono ?_);rintro f w5 ⟨t1,u5,rfl,e9⟩;have d7:=HX.ext d t1;have f8:=mkx ZC.mono b5 t1)|(go_at_call 92;(with_reducible refine(a5W (a0f X b 3) w5 _ _ x.num y.den d7 f8 e9 b8 a0).mono ?_);rintro f w6 ⟨j,u6,rfl,f3⟩;have t2:=t1.trans j;have d8:=HX.ext d t2;have f9:=mkx QC.mono a8 t2)|(go_at_call 78;(with_reducible refine(a9p (a0f X b 3) w6 _ x d8 f9).mono ?_);rintro f w7 ⟨H,u7,rfl,f4⟩;have t3:=t2.trans H;have d9:=HX.ext d t3;have g4:=mkx ZC.mono b6 t3)|(go_at_call 92;(with_reducible refine(a5W (a0f X b 3) w7 _ _ y.num x.den d9 g4 f4 b9 Z).mono ?_);rintro f w8 ⟨I,u8,rfl,f5⟩;have t4:=t3.trans I;have e0:=HX.ext d t4;have g5:=(mkx ZC.mono f3 (H.trans I)).zv (c1A i0 (by decide));have g6:=f5.zv (c1A i1 (by decide)))|(go_at_call 91;(with_reducible refine(b9g (a0f X b 3) w8 _ _ _ _ e0 g5 g6).mono ?_);rintro f w9 ⟨c9,u9,rfl,f6⟩;have t5:=t4.trans c9;have e7:=HX.ext d t5;have g3:=mkx QC.mono a8 t5)|(go_at_call 78;(with_reducible refine(a9p (a0f X b 3) w9 _ x e7 g3).mono ?_);rintro f h5 ⟨l,m8,rfl,Q⟩;have t6:=t5.trans l;have J:=HX.ext d t6;have T:=mkx QC.mono a9 t6)|(go_at_call 78;(with_reducible refine(a9p (a0f X b 3) h5 _ y J T).mono ?_);rintro f n8 ⟨e,m9,rfl,R⟩;have t7:=t6.trans e;have K:=HX.ext d t7;have O:=(mkx NC.mono Q e).nv (c1A Z (by decide));have P:=R.nv (c1A a0 (by decide)))|(go_at_call 77;(with_reducible refine(b6o K O P).mono ?_);rintro f h6 ⟨m,n0,rfl,S⟩;have t8:=t7.trans m;have L:=HX.ext d t8;have g7:=mkx ZC.mono f6 (l.trans (e.trans m)))|(go_at_call 76;(with_reducible refine(a5F (a0f X b 3) h6 _ _ _ _ L g7 S b3 (c1A h9 (by decide)) h8).mono ?_);rintro f n9 ⟨G,n7,rfl,n⟩;obtain⟨h0,b7,g9,c0,c7,g8,c8,rfl⟩:=n.shape;have k:=t8.trans G;have a:=b2.ext0 (c.trans k);have g0:=a.cell 0 rfl;have g1:=a.cell 1 rfl;have g2:=a.cell 2 rfl;have f0:=a.frozen 0;have f1:=a.frozen 1;have f2:=a.frozen 2))
    obtain⟨r1,r2⟩:=a.set3 (.bool h0) (.slice b7 g9 c0) (.slice c7 g8 c8);have h7:=QC.mono _ _ _ _ a0l (QC.mono _ _ _ _ (a0h r2 (by omega) (by omega)) n);rw[b4.out]at h7;have d0:Ext w _:=ExtX.box (a7.trans (c.trans k)) r2 (by omega);clear g0 g1 g2 f0 f1 f2 z A B C D E g r;go_wp2_with fail
    exact bodyPost_ret (a0d rfl rfl a0p r1 rfl) rfl ⟨d0,_,rfl,h7⟩
theorem a9E(X:Nat->Bool)(w:World)(u v:Value)(x y:Rat)(hX:HX X w)(hu:QV (mk X w) u x)(hv:QV (mk X w) v y):Calls Tryz.prog 35 #[u,v] w (a2b X w QC (x*y)):=by
 have o:=hid hu.hq;have p:=hid hv.hq;obtain⟨s1,a1,n1,c1,d1,k1,e1,rfl⟩:=hu.shape;obtain⟨s2,a2,n2,c2,d2,k2,e2,rfl⟩:=hv.shape;obtain⟨W,hW,hE,l,m,Q,hz⟩:=a2r w #[.bool s1,.slice a1 n1 c1,.slice d1 k1 e1] #[.bool s2,.slice a2 n2 c2,.slice d2 k2 e2] #[.bool false,.slice none 0 0,.slice none 0 0] 47 47 47;have g3:HX (a0f X w.heap.size 3) W:=hX.boxes hz;have c0:=QV.mono _ _ _ _ (a0i (nb:=3) hE) hu;have d7:=QV.mono _ _ _ _ (a0i (nb:=3) hE) hv;obtain⟨b,hb⟩:=c1F w.heap.size;have l2:w.heap.size<=b:=by omega
 rw[hb]at l m Q hz g3 c0 d7;have c:=c1L W;have d:HX (a0f X b 3) W.drew:=g3;have g9:QV (mk (a0f X b 3) W.drew) (.agg #[.bool s1,.slice a1 n1 c1,.slice d1 k1 e1]) x:=c0;have h0:QV (mk (a0f X b 3) W.drew) (.agg #[.bool s2,.slice a2 n2 c2,.slice d2 k2 e2]) y:=d7;have q:=l.cell 0 rfl;have r:=l.cell 1 rfl;have s:=l.cell 2 rfl;have t:=m.cell 0 rfl;have z:=m.cell 1 rfl;have A:=m.cell 2 rfl;clear hu hv;go_enter Tryz.func35,Tryz.ntmps35
 go_upto_region 1 with(fail)
 go_cut []from 5 to 8 (fun wx=>∃Z O U R d3 I e3 s4 P V S d4 J e4,Bx wx b #[.bool Z,.slice O U R,.slice d3 I e3] 47/\Bx wx (b+1) #[.bool s4,.slice P V S,.slice d4 J e4] 47/\Bx wx (b+1+1) #[.bool false,.slice none 0 0,.slice none 0 0] 47/\QC (mk (a0f X b 3) wx) (.agg #[.bool Z,.slice O U R,.slice d3 I e3]) x/\QC (mk (a0f X b 3) wx) (.agg #[.bool s4,.slice P V S,.slice d4 J e4]) y/\Ext w wx)
 case first=>
  go_region_with (first|(go_at_call 73;(with_reducible refine(a4C (a0f X b 3) W.drew _ x d g9).mono ?_);rintro C w5 ⟨f,u5,rfl,g6⟩;obtain⟨s5,a5,n5,c5,d5,k5,e5,rfl⟩:=g6.shape;have i7:=l.ext0 (c.trans f);have K:=m.ext0 (c.trans f);have i8:=K.cell 0 rfl;have i9:=K.cell 1 rfl;have j0:=K.cell 2 rfl)|(go_at_call 73;(with_reducible refine(a4C (a0f X b 3) w5 _ y (HX.ext d f) (mkx QV.mono h0 f)).mono ?_);rintro C w6 ⟨e,u6,rfl,g7⟩;obtain⟨s6,a6,n6,c6,d6,k6,e6,rfl⟩:=g7.shape;have a:=i7.ext0 e;have j:=K.ext0 e;have j7:=a.cell 0 rfl;have j8:=a.cell 1 rfl;have j9:=a.cell 2 rfl;have k0:=j.cell 0 rfl;have k7:=j.cell 1 rfl;have k8:=j.cell 2 rfl;have j1:=a.frozen 0;have j2:=a.frozen 1;have j5:=a.frozen 2;have j3:=j.frozen 0;have j4:=j.frozen 1;have j6:=j.frozen 2))
  all_goals
   obtain⟨wf,h1,q0,q1,q2,q3,q4⟩:=a2n (X:=X) (nb:=3) a j (hE.trans ((c.trans f).trans e)) l2 (by omega) (.bool s5) (.slice a5 n5 c5) (.slice d5 k5 e5) (.bool s6) (.slice a6 n6 c6) (.slice d6 k6 e6);rw[h1];have l5:QC (mk (a0f X b 3) wf) (.agg #[.bool s5,.slice a5 n5 c5,.slice d5 k5 e5]) x:=QC.mono _ _ _ _ q4 (mkx QC.mono g6 e);have l7:QC (mk (a0f X b 3) wf) (.agg #[.bool s6,.slice a6 n6 c6,.slice d6 k6 e6]) y:=QC.mono _ _ _ _ q4 g7;have q5:=q2 (b+1+1) _ _ (by omega) (by omega) ((Q.ext0 (c.trans f)).ext0 e);clear i8 i9 j0 j7 j8 j9 k0 k7 k8 j1 j2 j3 j4 j5 j6 q r s t z A h1;go_wp2_with fail
   go_meet
   exact⟨_,_,_,_,_,_,_,_,_,_,_,_,_,_,q0,q1,q5,l5,l7,q3⟩
 case rest=>
  clear q r s t z A l m Q c0 d7 g9 h0 d c hW;obtain⟨Z,O,U,R,d3,I,e3,s4,P,V,S,d4,J,e4,l,m,Q,hx,hy,L⟩:=hcut;have i5:w.heap.size+3<=wc.heap.size:=by have:=Q.lt;omega
  obtain⟨h8,m2,h5⟩:=hx.num;obtain⟨i3,m3,i1⟩:=hy.num;have g4:HX (a0f X b 3) wc:=hX.boxes' L (by have:=i5;omega) i5;have q:=l.cell 0 rfl;have r:=l.cell 1 rfl;have s:=l.cell 2 rfl;have t:=m.cell 0 rfl;have z:=m.cell 1 rfl;have A:=m.cell 2 rfl;have c:=c1L wc;have d:HX (a0f X b 3) wc.drew:=g4;have h2:QC (mk (a0f X b 3) wc.drew) (.agg #[.bool Z,.slice O U R,.slice d3 I e3]) x:=hx;have i0:QC (mk (a0f X b 3) wc.drew) (.agg #[.bool s4,.slice P V S,.slice d4 J e4]) y:=hy;have h9:ZC (mk (a0f X b 3) wc.drew) (.agg #[.bool Z,.slice O U R]) x.num:=h8;have i4:ZC (mk (a0f X b 3) wc.drew) (.agg #[.bool s4,.slice P V S]) y.num:=i3;have f7:lg x.num.natAbs<=549755813888:=c1A (c1A (a0G x) o.out) (by omega);have f9:lg y.num.natAbs<=549755813888:=c1A (c1A (a0G y) p.out) (by omega);have f6:lg x.den<=549755813888:=c1A (c1A (a0K x) o.out) (by omega);have f8:lg y.den<=549755813888:=c1A (c1A (a0K y) p.out) (by omega);have m0:lg (x.num*(y.den:Int)).natAbs<=274877906944:=by rw[Int.natAbs_mul,Int.natAbs_natCast];have:=a0Z x.num.natAbs y.den;have:=a0G x;have:=a0K y;have:=o.out;have:=p.out;omega
  have m1:lg (y.num*(x.den:Int)).natAbs<=274877906944:=by rw[Int.natAbs_mul,Int.natAbs_natCast];have:=a0Z y.num.natAbs x.den;have:=a0G y;have:=a0K x;have:=o.out;have:=p.out;omega
  have f4:lg (x.den*y.den)<=274877906944:=by have:=a0Z x.den y.den;have:=a0K x;have:=a0K y;have:=o.out;have:=p.out;omega
  have f5:lg (x.num*y.num).natAbs<=274877906944:=by rw[Int.natAbs_mul];have:=a0Z x.num.natAbs y.num.natAbs;have:=a0G x;have:=a0G y;have:=o.out;have:=p.out;omega
  have f3:0<x.den*y.den:=Nat.mul_pos x.den_pos y.den_pos;have n:=hid (And.intro l m);have D:Hid (∀W',Ext wc.drew W'->W'.cell? ⟨b,0,none⟩=some (.bool Z)/\W'.cell? ⟨b,1,none⟩=some (.slice O U R)/\W'.cell? ⟨b,2,none⟩=some (.slice d3 I e3)/\W'.cell? ⟨b+1,0,none⟩=some (.bool s4)/\W'.cell? ⟨b+1,1,none⟩=some (.slice P V S)/\W'.cell? ⟨b+1,2,none⟩=some (.slice d4 J e4)):=
   hid fun W' h=>⟨(l.ext0 (c.trans h)).cell 0 rfl,(l.ext0 (c.trans h)).cell 1 rfl,(l.ext0 (c.trans h)).cell 2 rfl,(m.ext0 (c.trans h)).cell 0 rfl,(m.ext0 (c.trans h)).cell 1 rfl,(m.ext0 (c.trans h)).cell 2 rfl⟩
  have G:=h5.len0;have H:=i1.len0;rw[a4d]at G H;have h6:=h9.zv f7;have i2:=i4.zv f9;have T:Hid (mkRat (x.num*y.num) (x.den*y.den)=x*y):=hid (Rat.mul_def' x y).symm;by_cases hk:I=0/\J=0
  ·have l3:=hid (G.1 hk.1)
   have l4:=hid (H.1 hk.2);obtain⟨rfl,rfl⟩:=hk;have g8:Hid (((x.num*y.num:Int):Rat)=x*y):=hid (by
    rw[Rat.intCast_mul]
    conv=>rhs;rw[<-Rat.mkRat_self x,<-Rat.mkRat_self y]
    rw[l3.out,l4.out,<-Rat.mk_den_one,<-Rat.mk_den_one,Rat.mk_eq_mkRat,Rat.mk_eq_mkRat])
   clear G H;go_wp2_with fail
   refine(c0j (a0f X b 3) wc _ _ _ _ g4 (h8.zv f7) (i3.zv f9)).mono ?_;rintro C w5 ⟨f,u5,rfl,s6,a6,c6,l6,rfl,k9,l0,l1⟩;have i6:=Q.ext0 f;have g5:=a7b.ofInt l0;rw[g8.out]at g5;clear q r s t z A;go_wp2_with ((with_reducible refine c1J ?_);refine a0a a0p rfl rfl i6 rfl rfl a1s ?_;intro w7 r1 Y)
   have h7:=(l1.mono (a0c.mono _) (a0h Y (by omega) (by omega))).mono (a0c.mono _) a0l;exact bodyPost_ret (a0d rfl rfl a0p r1 rfl) rfl ⟨ExtX.box (L.trans f) Y (by omega),_,rfl,s6,a6,c6,l6,none,0,[],rfl,k9,c1B _,g5,h7,Sl.nil _ _ _ _⟩
  ·rcases(by omega:¬I=0\/(I=0/\¬J=0))with h3|⟨h3,h4⟩
   ·have hI:((I:Int)==0)=false:=a2C (by omega)
    clear hk G H h3;go_wp2_with fail
    go_region_held3 (fun B=>B.cell? ⟨b,0,none⟩=some (.bool Z)/\B.cell? ⟨b,1,none⟩=some (.slice O U R)/\B.cell? ⟨b,2,none⟩=some (.slice d3 I e3)/\B.cell? ⟨b+1,0,none⟩=some (.bool s4)/\B.cell? ⟨b+1,1,none⟩=some (.slice P V S)/\B.cell? ⟨b+1,2,none⟩=some (.slice d4 J e4))
     (first|exact D.out _ M|exact D.out _ N|exact D.out _ t3|exact D.out _ t4|exact D.out _ g|exact⟨((n.out.1.ext0 (c.trans g)).ext (a.set3 _ _ _).2 (a0b (by omega))).cell 0 rfl,((n.out.1.ext0 (c.trans g)).ext (a.set3 _ _ _).2 (a0b (by omega))).cell 1 rfl,((n.out.1.ext0 (c.trans g)).ext (a.set3 _ _ _).2 (a0b (by omega))).cell 2 rfl,((n.out.2.ext0 (c.trans g)).ext (a.set3 _ _ _).2 (a0b (by omega))).cell 0 rfl,((n.out.2.ext0 (c.trans g)).ext (a.set3 _ _ _).2 (a0b (by omega))).cell 1 rfl,((n.out.2.ext0 (c.trans g)).ext (a.set3 _ _ _).2 (a0b (by omega))).cell 2 rfl⟩|go_keep)
     (first|(go_at_call 75;(with_reducible refine(c0j (a0f X b 3) wc.drew _ _ _ _ d h6 i2).mono ?_);rintro C w5 ⟨M,u5,rfl,c7⟩;have b4:=HX.ext d M;have d8:=mkx QC.mono h2 M)|(go_at_call 78;(with_reducible refine(a9p (a0f X b 3) w5 _ x b4 d8).mono ?_);rintro C w6 ⟨e,u6,rfl,c8⟩;have N:=M.trans e;have b5:=HX.ext d N;have d9:=mkx QC.mono i0 N)|(go_at_call 78;(with_reducible refine(a9p (a0f X b 3) w6 _ y b5 d9).mono ?_);rintro C w7 ⟨k,u7,rfl,c9⟩;have t3:=N.trans k;have b6:=HX.ext d t3;have b8:=(mkx NC.mono c8 k).nv (c1A f6 (by decide));have b9:=c9.nv (c1A f8 (by decide)))|(go_at_call 77;(with_reducible refine(b6o b6 b8 b9).mono ?_);rintro C w8 ⟨F,u8,rfl,d0⟩;have t4:=t3.trans F;have b7:=HX.ext d t4;have e0:=mkx ZC.mono c7 (e.trans (k.trans F)))|(go_at_call 76;(with_reducible refine(a5F (a0f X b 3) w8 _ _ _ _ b7 e0 d0 (c1A f5 (by decide)) (c1A f4 (by decide)) f3).mono ?_);rintro C l9 ⟨E,l8,rfl,i⟩;obtain⟨e9,a0,e8,a7,a8,e7,a9,rfl⟩:=i.shape;have g:=t4.trans E;have a:=Q.ext0 (c.trans g);have g0:=a.cell 0 rfl;have g1:=a.cell 1 rfl;have g2:=a.cell 2 rfl;have f0:=a.frozen 0;have f1:=a.frozen 1;have f2:=a.frozen 2))
    obtain⟨r1,Y⟩:=a.set3 (.bool e9) (.slice a0 e8 a7) (.slice a8 e7 a9);have h7:=QC.mono _ _ _ _ a0l (QC.mono _ _ _ _ (a0h Y (by omega) (by omega)) i);rw[T.out]at h7;have b3:Ext w _:=ExtX.box (L.trans (c.trans g)) Y (by omega);clear g0 g1 g2 f0 f1 f2 q r s t z A D n;go_wp2_with fail
    exact bodyPost_ret (a0d rfl rfl a0p r1 rfl) rfl ⟨b3,_,rfl,h7⟩
   ·have hI:((J:Int)==0)=false:=a2C (by omega)
    subst h3;clear hk G H h4;go_wp2_with fail
    go_region_held3 (fun B=>B.cell? ⟨b,0,none⟩=some (.bool Z)/\B.cell? ⟨b,1,none⟩=some (.slice O U R)/\B.cell? ⟨b,2,none⟩=some (.slice d3 0 e3)/\B.cell? ⟨b+1,0,none⟩=some (.bool s4)/\B.cell? ⟨b+1,1,none⟩=some (.slice P V S)/\B.cell? ⟨b+1,2,none⟩=some (.slice d4 J e4))
     (first|exact D.out _ M|exact D.out _ N|exact D.out _ t3|exact D.out _ t4|exact D.out _ g|exact⟨((n.out.1.ext0 (c.trans g)).ext (a.set3 _ _ _).2 (a0b (by omega))).cell 0 rfl,((n.out.1.ext0 (c.trans g)).ext (a.set3 _ _ _).2 (a0b (by omega))).cell 1 rfl,((n.out.1.ext0 (c.trans g)).ext (a.set3 _ _ _).2 (a0b (by omega))).cell 2 rfl,((n.out.2.ext0 (c.trans g)).ext (a.set3 _ _ _).2 (a0b (by omega))).cell 0 rfl,((n.out.2.ext0 (c.trans g)).ext (a.set3 _ _ _).2 (a0b (by omega))).cell 1 rfl,((n.out.2.ext0 (c.trans g)).ext (a.set3 _ _ _).2 (a0b (by omega))).cell 2 rfl⟩|go_keep)
     (first|(go_at_call 75;(with_reducible refine(c0j (a0f X b 3) wc.drew _ _ _ _ d h6 i2).mono ?_);rintro C w5 ⟨M,u5,rfl,c7⟩;have b4:=HX.ext d M;have d8:=mkx QC.mono h2 M)|(go_at_call 78;(with_reducible refine(a9p (a0f X b 3) w5 _ x b4 d8).mono ?_);rintro C w6 ⟨e,u6,rfl,c8⟩;have N:=M.trans e;have b5:=HX.ext d N;have d9:=mkx QC.mono i0 N)|(go_at_call 78;(with_reducible refine(a9p (a0f X b 3) w6 _ y b5 d9).mono ?_);rintro C w7 ⟨k,u7,rfl,c9⟩;have t3:=N.trans k;have b6:=HX.ext d t3;have b8:=(mkx NC.mono c8 k).nv (c1A f6 (by decide));have b9:=c9.nv (c1A f8 (by decide)))|(go_at_call 77;(with_reducible refine(b6o b6 b8 b9).mono ?_);rintro C w8 ⟨F,u8,rfl,d0⟩;have t4:=t3.trans F;have b7:=HX.ext d t4;have e0:=mkx ZC.mono c7 (e.trans (k.trans F)))|(go_at_call 76;(with_reducible refine(a5F (a0f X b 3) w8 _ _ _ _ b7 e0 d0 (c1A f5 (by decide)) (c1A f4 (by decide)) f3).mono ?_);rintro C l9 ⟨E,l8,rfl,i⟩;obtain⟨e9,a0,e8,a7,a8,e7,a9,rfl⟩:=i.shape;have g:=t4.trans E;have a:=Q.ext0 (c.trans g);have g0:=a.cell 0 rfl;have g1:=a.cell 1 rfl;have g2:=a.cell 2 rfl;have f0:=a.frozen 0;have f1:=a.frozen 1;have f2:=a.frozen 2))
    obtain⟨r1,Y⟩:=a.set3 (.bool e9) (.slice a0 e8 a7) (.slice a8 e7 a9);have h7:=QC.mono _ _ _ _ a0l (QC.mono _ _ _ _ (a0h Y (by omega) (by omega)) i);rw[T.out]at h7;have b3:Ext w _:=ExtX.box (L.trans (c.trans g)) Y (by omega);clear g0 g1 g2 f0 f1 f2 q r s t z A D n;go_wp2_with fail
    exact bodyPost_ret (a0d rfl rfl a0p r1 rfl) rfl ⟨b3,_,rfl,h7⟩
theorem a5X(s:Bool)(a d:Option Addr)(n c k e:Nat)(W:World):(Instr.field 47 (.agg #[.bool s,.slice a n c,.slice d k e]) 0).run Tryz.prog W=.ok (.agg #[.bool s,.slice a n c]) W:=by kernel_rfl
def b1x(x y:Rat):Int:=if x<y then -1 else if y<x then 1 else 0
theorem b7B(x y:Rat):b6v (x.num*(y.den:Int)) (y.num*(x.den:Int))=b1x x y:=by
 unfold b6v b1x;simp only[Rat.lt_iff]
theorem b0I(X:Nat->Bool)(w:World)(u v:Value)(x y:Rat)(hX:HX X w)(hu:QV (mk X w) u x)(hv:QV (mk X w) v y):Calls Tryz.prog 90 #[u,v] w (a4A w (b1x x y)):=by
 have j:=hid hu.hq;have k:=hid hv.hq;obtain⟨s1,a1,n1,c1,d1,k1,e1,rfl⟩:=hu.shape;obtain⟨s2,a2,n2,c2,d2,k2,e2,rfl⟩:=hv.shape;obtain⟨W,hW,hE,g,f,hz⟩:=a1K w #[.bool s1,.slice a1 n1 c1,.slice d1 k1 e1] #[.bool s2,.slice a2 n2 c2,.slice d2 k2 e2] 47 47;have U:HX (a0f X w.heap.size 2) W:=hX.boxes hz;have C:=QV.mono _ _ _ _ (a0i (nb:=2) hE) hu;have D:=QV.mono _ _ _ _ (a0i (nb:=2) hE) hv;obtain⟨b,hb⟩:=c1F w.heap.size;have g1:w.heap.size<=b:=by omega
 rw[hb]at g f hz U C D;have a:=c1L W;have c:HX (a0f X b 2) W.drew:=U;have a0:QV (mk (a0f X b 2) W.drew) (.agg #[.bool s1,.slice a1 n1 c1,.slice d1 k1 e1]) x:=C;have a7:QV (mk (a0f X b 2) W.drew) (.agg #[.bool s2,.slice a2 n2 c2,.slice d2 k2 e2]) y:=D;have n:=g.cell 0 rfl;have o:=g.cell 1 rfl;have p:=g.cell 2 rfl;have q:=f.cell 0 rfl;have r:=f.cell 1 rfl;have s:=f.cell 2 rfl;clear hu hv;go_enter Tryz.func90,Tryz.ntmps90
 go_upto_region 1 with(fail)
 go_cut []from 5 to 8 (fun wx=>∃G t E A I O K H z F B J P L,Bx wx b #[.bool G,.slice t E A,.slice I O K] 47/\Bx wx (b+1) #[.bool H,.slice z F B,.slice J P L] 47/\QC (mk (a0f X b 2) wx) (.agg #[.bool G,.slice t E A,.slice I O K]) x/\QC (mk (a0f X b 2) wx) (.agg #[.bool H,.slice z F B,.slice J P L]) y/\Ext w wx)
 case first=>
  go_region_with (first|(go_at_call 73;(with_reducible refine(a4C (a0f X b 2) W.drew _ x c a0).mono ?_);rintro M w5 ⟨l,u5,rfl,Y⟩;obtain⟨s5,a5,n5,c5,d5,k5,e5,rfl⟩:=Y.shape;have b4:=g.ext0 (a.trans l);have m:=f.ext0 (a.trans l);have c7:=m.cell 0 rfl;have c8:=m.cell 1 rfl;have c9:=m.cell 2 rfl)|(go_at_call 73;(with_reducible refine(a4C (a0f X b 2) w5 _ y (HX.ext c l) (mkx QV.mono a7 l)).mono ?_);rintro M w6 ⟨i,u6,rfl,Z⟩;obtain⟨s6,a6,n6,c6,d6,k6,e6,rfl⟩:=Z.shape;have d:=b4.ext0 i;have e:=m.ext0 i;have e8:=d.cell 0 rfl;have e9:=d.cell 1 rfl;have f0:=d.cell 2 rfl;have f1:=e.cell 0 rfl;have f2:=e.cell 1 rfl;have f3:=e.cell 2 rfl;have d0:=d.frozen 0;have d7:=d.frozen 1;have e0:=d.frozen 2;have d8:=e.frozen 0;have d9:=e.frozen 1;have e7:=e.frozen 2))
  all_goals
   obtain⟨wf,a8,q0,q1,q2,q3,q4⟩:=a2n (X:=X) (nb:=2) d e (hE.trans ((a.trans l).trans i)) g1 (by omega) (.bool s5) (.slice a5 n5 c5) (.slice d5 k5 e5) (.bool s6) (.slice a6 n6 c6) (.slice d6 k6 e6);rw[a8];have g2:QC (mk (a0f X b 2) wf) (.agg #[.bool s5,.slice a5 n5 c5,.slice d5 k5 e5]) x:=QC.mono _ _ _ _ q4 (mkx QC.mono Y i);have g3:QC (mk (a0f X b 2) wf) (.agg #[.bool s6,.slice a6 n6 c6,.slice d6 k6 e6]) y:=QC.mono _ _ _ _ q4 Z;clear c7 c8 c9 e8 e9 f0 f1 f2 f3 d0 d7 d8 d9 e0 e7 n o p q r s a8;go_wp2_with fail
   go_meet
   exact⟨_,_,_,_,_,_,_,_,_,_,_,_,_,_,q0,q1,g2,g3,q3⟩
 case rest=>
  clear n o p q r s g f C D a0 a7 c a hW;obtain⟨G,t,E,A,I,O,K,H,z,F,B,J,P,L,g,f,hx,hy,R⟩:=hcut;have b3:w.heap.size+2<=wc.heap.size:=by have:=f.lt;omega
  obtain⟨h1,i1,h7⟩:=hx.num;obtain⟨h4,i2,h8⟩:=hy.num;have g0:HX (a0f X b 2) wc:=hX.boxes' R (by have:=b3;omega) b3;have n:=g.cell 0 rfl;have o:=g.cell 1 rfl;have p:=g.cell 2 rfl;have q:=f.cell 0 rfl;have r:=f.cell 1 rfl;have s:=f.cell 2 rfl;have a:=c1L wc;have c:HX (a0f X b 2) wc.drew:=g0;have h0:QC (mk (a0f X b 2) wc.drew) (.agg #[.bool G,.slice t E A,.slice I O K]) x:=hx;have h3:QC (mk (a0f X b 2) wc.drew) (.agg #[.bool H,.slice z F B,.slice J P L]) y:=hy;have a9:ZC (mk (a0f X b 2) wc.drew) (.agg #[.bool G,.slice t E A]) x.num:=h1;have b2:ZC (mk (a0f X b 2) wc.drew) (.agg #[.bool H,.slice z F B]) y.num:=h4;have b8:lg x.num.natAbs<=549755813888:=c1A (c1A (a0G x) j.out) (by omega);have c0:lg y.num.natAbs<=549755813888:=c1A (c1A (a0G y) k.out) (by omega);have b7:lg x.den<=549755813888:=c1A (c1A (a0K x) j.out) (by omega);have b9:lg y.den<=549755813888:=c1A (c1A (a0K y) k.out) (by omega);have b5:lg (x.num*(y.den:Int)).natAbs<=274877906944:=by rw[Int.natAbs_mul,Int.natAbs_natCast];have:=a0Z x.num.natAbs y.den;have:=a0G x;have:=a0K y;have:=j.out;have:=k.out;omega
  have b6:lg (y.num*(x.den:Int)).natAbs<=274877906944:=by rw[Int.natAbs_mul,Int.natAbs_natCast];have:=a0Z y.num.natAbs x.den;have:=a0G y;have:=a0K x;have:=j.out;have:=k.out;omega
  have h9:lg (x.den*y.den)<=274877906944:=by have:=a0Z x.den y.den;have:=a0K x;have:=a0K y;have:=j.out;have:=k.out;omega
  have i0:lg (x.num*y.num).natAbs<=274877906944:=by rw[Int.natAbs_mul];have:=a0Z x.num.natAbs y.num.natAbs;have:=a0G x;have:=a0G y;have:=j.out;have:=k.out;omega
  have N:Hid (∀W',Ext wc.drew W'->W'.cell? ⟨b,0,none⟩=some (.bool G)/\W'.cell? ⟨b,1,none⟩=some (.slice t E A)/\W'.cell? ⟨b,2,none⟩=some (.slice I O K)/\W'.cell? ⟨b+1,0,none⟩=some (.bool H)/\W'.cell? ⟨b+1,1,none⟩=some (.slice z F B)/\W'.cell? ⟨b+1,2,none⟩=some (.slice J P L)):=
   hid fun W' h=>⟨(g.ext0 (a.trans h)).cell 0 rfl,(g.ext0 (a.trans h)).cell 1 rfl,(g.ext0 (a.trans h)).cell 2 rfl,(f.ext0 (a.trans h)).cell 0 rfl,(f.ext0 (a.trans h)).cell 1 rfl,(f.ext0 (a.trans h)).cell 2 rfl⟩
  have V:Hid (b6v (x.num*(y.den:Int)) (y.num*(x.den:Int))=b1x x y):=hid (b7B x y);go_wp2_with fail
  go_region_held3 (fun Q=>Q.cell? ⟨b,0,none⟩=some (.bool G)/\Q.cell? ⟨b,1,none⟩=some (.slice t E A)/\Q.cell? ⟨b,2,none⟩=some (.slice I O K)/\Q.cell? ⟨b+1,0,none⟩=some (.bool H)/\Q.cell? ⟨b+1,1,none⟩=some (.slice z F B)/\Q.cell? ⟨b+1,2,none⟩=some (.slice J P L))
   (first|exact N.out _ t1|exact N.out _ t2|exact N.out _ t3|exact N.out _ t4|exact N.out _ t5|go_keep)
   (first|(go_at_call 78;(with_reducible refine(a9p (a0f X b 2) wc.drew _ y c h3).mono ?_);rintro M w5 ⟨t1,u5,rfl,g4⟩;have f6:=HX.ext c t1;have g8:=mkx ZC.mono a9 t1)|(go_at_call 92;(with_reducible refine(a5W (a0f X b 2) w5 _ _ x.num y.den f6 g8 g4 b8 b9).mono ?_);rintro M w6 ⟨i,u6,rfl,g5⟩;have t2:=t1.trans i;have f7:=HX.ext c t2;have g9:=mkx QC.mono h0 t2)|(go_at_call 78;(with_reducible refine(a9p (a0f X b 2) w6 _ x f7 g9).mono ?_);rintro M w7 ⟨S,u7,rfl,g6⟩;have t3:=t2.trans S;have f8:=HX.ext c t3;have h2:=mkx ZC.mono b2 t3)|(go_at_call 92;(with_reducible refine(a5W (a0f X b 2) w7 _ _ y.num x.den f8 h2 g6 c0 b7).mono ?_);rintro M w8 ⟨T,u8,rfl,g7⟩;have t4:=t3.trans T;have f9:=HX.ext c t4;have h5:=(mkx ZC.mono g5 (S.trans T)).zv (c1A b5 (by decide));have h6:=g7.zv (c1A b6 (by decide)))|(go_at_call 140;(with_reducible refine(b4R (a0f X b 2) w8 _ _ _ _ f9 h5 h6).mono ?_);rintro M w9 ⟨f4,rfl⟩;have t5:=t4.trans f4))
  have f5:Ext w _:=R.trans (a.trans t5);clear n o p q r s N;go_wp2_with fail
  go_ret
  exact⟨f5,a0N V.out⟩
theorem b1y(X:Nat->Bool)(w:World)(u:Value)(x:Rat)(t:HX X w)(f:QV (mk X w) u x):Calls Tryz.prog 33 #[u] w (a4A w x.num.sign):=by
 have i:=hid f.hq;obtain⟨B,o,A,p,q,z,r,rfl⟩:=f.shape;obtain⟨W,G,g,e,hz⟩:=a0Y w #[.bool B,.slice o A p,.slice q z r] 47;have c:HX X W:=t.ext g;have j:=mkx QV.mono f g;obtain⟨b,v⟩:=c1F w.heap.size;rw[v]at e hz;have l:=e.cell 0 rfl;have m:=e.cell 1 rfl;have n:=e.cell 2 rfl;have y:=a5X;clear f;go_enter Tryz.func33,Tryz.ntmps33
 go_wp2_with fail
 refine(a4C X W _ x c j).mono ?_;rintro s C ⟨a,K,rfl,d⟩;obtain⟨J,D,I,E,F,H,e5,rfl⟩:=d.shape;have k:=d.num.1.zv (c1A (c1A (a0G x) i.out) (by omega));clear l m n;go_wp2_with fail
 refine(b1w X C _ _ (c.ext a) k).mono ?_;rintro s L ⟨h,rfl⟩;go_wp2_with fail
 go_ret
 exact⟨g.trans (a.trans h),rfl⟩
theorem b6x(x:Rat):dn (-x)=dn x:=by unfold dn;rw[Rat.neg_den]
theorem c1u(X:Nat->Bool)(w:World)(u:Value)(x:Rat)(hX:HX X w)(z:QV (mk X w) u x):Calls Tryz.prog 80 #[u] w (a2b X w QC (-x)):=by
 have q:=hid z.hq;obtain⟨s1,a1,n1,c1,d1,k1,e1,rfl⟩:=z.shape;obtain⟨W,hW,hE,n,b1,hz⟩:=a1K w #[.bool s1,.slice a1 n1 c1,.slice d1 k1 e1] #[.bool false,.slice none 0 0,.slice none 0 0] 47 47;have i:HX (a0f X w.heap.size 2) W:=hX.boxes hz;have s:=QV.mono _ _ _ _ (a0i (nb:=2) hE) z;obtain⟨b,hb⟩:=c1F w.heap.size;have b4:w.heap.size<=b:=by omega
 rw[hb]at n b1 hz i s;have j:=n.cell 0 rfl;have k:=n.cell 1 rfl;have l:=n.cell 2 rfl;clear z;go_enter Tryz.func80,Tryz.ntmps80
 go_wp2_with fail
 refine(a4C (a0f X b 2) W _ x i s).mono ?_;rintro e w5 ⟨d,u5,rfl,r⟩;obtain⟨s5,C,n5,K,N,k5,e5,rfl⟩:=r.shape;have Z:=i.ext d;have F:=n.ext0 d;have G:=b1.ext0 d;clear j k l;go_upto_region 2 with((with_reducible refine c1J ?_);refine a0a a0p rfl rfl F rfl rfl a1s ?_;intro g f A;have j:=f.cell 0 rfl;have k:=f.cell 1 rfl;have l:=f.cell 2 rfl)
 have a0:=Z.ext A;have H:=G.ext A (a0b (by omega));have a6:=QC.mono _ _ _ _ (a0h (X:=X) (lo:=b) (nb:=2) A (by omega) (by omega)) r;have U:Ext w g:=ExtX.box (hE.trans d) A (by omega);obtain⟨b2,b5,v⟩:=a6.num;have c:=c1L g;have p:HX (a0f X b 2) g.drew:=a0;have y:ZC (mk (a0f X b 2) g.drew) (.agg #[.bool s5,.slice C n5 K]) x.num:=b2;have t:NC (mk (a0f X b 2) g.drew) (.slice N k5 e5) (dn x):=v;have J:lg x.num.natAbs<=549755813888:=c1A (c1A (a0G x) q.out) (by omega);have I:lg (dn x)<=549755813888:=c1A (c1A (b2R x) q.out) (by omega);have a7:=y.zv J;have Y:Hid (∀W',Ext g.drew W'->W'.cell? ⟨b,0,none⟩=some (.bool s5)/\W'.cell? ⟨b,1,none⟩=some (.slice C n5 K)/\W'.cell? ⟨b,2,none⟩=some (.slice N k5 e5)):=
  hid fun W' h=>⟨(f.ext0 (c.trans h)).cell 0 rfl,(f.ext0 (c.trans h)).cell 1 rfl,(f.ext0 (c.trans h)).cell 2 rfl⟩
 go_region_held3 (fun w'=>w'.cell? ⟨b,0,none⟩=some (.bool s5)/\w'.cell? ⟨b,1,none⟩=some (.slice C n5 K)/\w'.cell? ⟨b,2,none⟩=some (.slice N k5 e5))
  (first|exact Y.out _ B|exact Y.out _ m|exact⟨((f.ext0 (c.trans m)).ext (a.set3 _ _ _).2 (a0b (by omega))).cell 0 rfl,((f.ext0 (c.trans m)).ext (a.set3 _ _ _).2 (a0b (by omega))).cell 1 rfl,((f.ext0 (c.trans m)).ext (a.set3 _ _ _).2 (a0b (by omega))).cell 2 rfl⟩|go_keep)
  (first|(go_at_call 132;(with_reducible refine(c1i (a0f X b 2) g.drew _ _ p a7).mono ?_);rintro ee w8 ⟨B,u8,rfl,s8,D,L,l8,rfl,O,P,Q⟩;have a2:=HX.ext p B;have a4:=(mkx NC.mono t B).nv (c1A I (by decide));have b3:=NC.nv (NC.zero (mk (a0f X b 2) w8)) (by decide))|(go_at_call 133;(with_reducible refine(c0r a2 a4 b3).mono ?_);rintro ee w9 ⟨o,u9,rfl,E,M,l9,rfl,R,S,T⟩;have m:=B.trans o;have a3:=Sl.mono (a0c.mono _) (a0k o) Q;have a:=H.ext0 (c.trans m);have g0:=a.cell 0 rfl;have g1:=a.cell 1 rfl;have g2:=a.cell 2 rfl;have f0:=a.frozen 0;have f1:=a.frozen 1;have f2:=a.frozen 2))
 obtain⟨q1,q2⟩:=a.set3 (.bool s8) (.slice D l8.length L) (.slice E l9.length M);have hz:ZC (mk (a0f X b 2) w9) (.agg #[.bool s8,.slice D l8.length L]) (-x).num:=⟨s8,D,L,l8,rfl,O,by rw[Rat.neg_num];exact P,a3⟩;have hd:NC (mk (a0f X b 2) w9) (.slice E l9.length M) (dn (-x)):=⟨E,M,l9,rfl,R,by rw[b6x];exact S,T⟩;have h7:=QC.mono _ _ _ _ a0l (QC.mono _ _ _ _ (a0h q2 (by omega) (by omega)) (QC.of hz hd));have V:Ext w _:=ExtX.box (U.trans (c.trans m)) q2 (by omega);clear g0 g1 g2 f0 f1 f2 j k l Y;go_wp2_with fail
 exact bodyPost_ret (a0d rfl rfl a0p q1 rfl) rfl ⟨V,_,rfl,h7⟩
theorem b4X(X:Nat->Bool)(w:World)(u v:Value)(x y:Rat)(hX:HX X w)(R:QV (mk X w) u x)(C:QV (mk X w) v y):Calls Tryz.prog 37 #[u,v] w (a2b X w QC (x - y)):=by
 have P:=hid C.hq;obtain⟨H,p,F,r,t,D,A,rfl⟩:=R.shape;obtain⟨I,q,G,s,z,E,B,rfl⟩:=C.shape;obtain⟨W,hW,K,e,f,b2,hz⟩:=a2r w #[.bool H,.slice p F r,.slice t D A] #[.bool I,.slice q G s,.slice z E B] #[.bool false,.slice none 0 0,.slice none 0 0] 47 47 47;have k:HX (a0f X w.heap.size 3) W:=hX.boxes hz;have n:=QV.mono _ _ _ _ (a0i (nb:=3) K) R;have o:=QV.mono _ _ _ _ (a0i (nb:=3) K) C;obtain⟨b,hb⟩:=c1F w.heap.size;rw[hb]at e f b2 hz k n o;have a:=c1L W;have l:HX (a0f X b 3) W.drew:=k;have T:QV (mk (a0f X b 3) W.drew) (.agg #[.bool H,.slice p F r,.slice t D A]) x:=n;have U:QV (mk (a0f X b 3) W.drew) (.agg #[.bool I,.slice q G s,.slice z E B]) y:=o;have Y:=e.cell 0 rfl;have Z:=e.cell 1 rfl;have a0:=e.cell 2 rfl;have a3:=f.cell 0 rfl;have a4:=f.cell 1 rfl;have a5:=f.cell 2 rfl;clear R C;have g:=hid (And.intro e f);have N:Hid (∀W',Ext W.drew W'->W'.cell? ⟨b,0,none⟩=some (.bool H)/\W'.cell? ⟨b,1,none⟩=some (.slice p F r)/\W'.cell? ⟨b,2,none⟩=some (.slice t D A)/\W'.cell? ⟨b+1,0,none⟩=some (.bool I)/\W'.cell? ⟨b+1,1,none⟩=some (.slice q G s)/\W'.cell? ⟨b+1,2,none⟩=some (.slice z E B)):=
  hid fun W' h=>⟨(e.ext0 (a.trans h)).cell 0 rfl,(e.ext0 (a.trans h)).cell 1 rfl,(e.ext0 (a.trans h)).cell 2 rfl,(f.ext0 (a.trans h)).cell 0 rfl,(f.ext0 (a.trans h)).cell 1 rfl,(f.ext0 (a.trans h)).cell 2 rfl⟩
 have Q:=hid (show hq (-y)<=68719476736 by rw[a5R];exact P.out);have m:Hid (x+ -y=x - y):=hid (Rat.sub_eq_add_neg x y).symm;go_enter Tryz.func37,Tryz.ntmps37
 go_upto_region 1 with(fail)
 go_region_held3 (fun j=>j.cell? ⟨b,0,none⟩=some (.bool H)/\j.cell? ⟨b,1,none⟩=some (.slice p F r)/\j.cell? ⟨b,2,none⟩=some (.slice t D A)/\j.cell? ⟨b+1,0,none⟩=some (.bool I)/\j.cell? ⟨b+1,1,none⟩=some (.slice q G s)/\j.cell? ⟨b+1,2,none⟩=some (.slice z E B))
  (first|exact N.out _ J|exact N.out _ d|exact⟨((g.out.1.ext0 (a.trans d)).ext (c.set3 _ _ _).2 (a0b (by omega))).cell 0 rfl,((g.out.1.ext0 (a.trans d)).ext (c.set3 _ _ _).2 (a0b (by omega))).cell 1 rfl,((g.out.1.ext0 (a.trans d)).ext (c.set3 _ _ _).2 (a0b (by omega))).cell 2 rfl,((g.out.2.ext0 (a.trans d)).ext (c.set3 _ _ _).2 (a0b (by omega))).cell 0 rfl,((g.out.2.ext0 (a.trans d)).ext (c.set3 _ _ _).2 (a0b (by omega))).cell 1 rfl,((g.out.2.ext0 (a.trans d)).ext (c.set3 _ _ _).2 (a0b (by omega))).cell 2 rfl⟩|go_keep)
  (first|(go_at_call 80;(with_reducible refine(c1u (a0f X b 3) W.drew _ y l U).mono ?_);rintro ee w5 ⟨J,u5,rfl,S⟩;have O:=HX.ext l J;have V:=mkx QV.mono T J)|(go_at_call 46;(with_reducible refine(b2U (a0f X b 3) w5 _ _ x (-y) O V (S.qv Q.out)).mono ?_);rintro ee w6 ⟨L,u6,rfl,i⟩;obtain⟨s6,a6,n6,c6,d6,k6,e6,rfl⟩:=i.shape;have d:=J.trans L;have c:=b2.ext0 (a.trans d);have g0:=c.cell 0 rfl;have g1:=c.cell 1 rfl;have g2:=c.cell 2 rfl;have f0:=c.frozen 0;have f1:=c.frozen 1;have f2:=c.frozen 2))
 rw[m.out]at i;obtain⟨q1,q2⟩:=c.set3 (.bool s6) (.slice a6 n6 c6) (.slice d6 k6 e6);have h7:=QC.mono _ _ _ _ a0l (QC.mono _ _ _ _ (a0h q2 (by omega) (by omega)) i);have M:Ext w _:=ExtX.box (K.trans (a.trans d)) q2 (by omega);clear g0 g1 g2 f0 f1 f2 Y Z a0 a3 a4 a5 N g;go_wp2_with fail
 exact bodyPost_ret (a0d rfl rfl a0p q1 rfl) rfl ⟨M,_,rfl,h7⟩
def e5(b:Bool):Int:=if b then 5 else 0
def b7C(X:Nat->Bool)(w:World)(q:Rat)(c:Int)(e:Ending)(w':World):Prop:=Ext w w'/\∃u,e=.returned (.tuple #[u,.int .i64 c])/\QC (mk X w') u q
theorem b6y(x y:Int)(h:0<y):mkRat x y.natAbs=(x:Rat)/(y:Rat):=by
 rw[Rat.mkRat_eq_div,<-Rat.intCast_natCast,Int.natAbs_of_nonneg (by omega)]
theorem b9j(x y:Int)(h:y<0):mkRat (-x) y.natAbs=(x:Rat)/(y:Rat):=by
 rw[Rat.mkRat_eq_div,<-Rat.intCast_natCast,Int.ofNat_natAbs_of_nonpos (by omega),Rat.intCast_neg,Rat.intCast_neg,Rat.div_def,Rat.div_def,show(-(y:Rat))⁻¹= -(y:Rat)⁻¹ by grind];grind
theorem ZC.mag{h:Mem}{s:Bool}{ao:Option Addr}{n c:Nat}{y:Int}(f:ZC h (.agg #[.bool s,.slice ao n c]) y):NC h (.slice ao n c) y.natAbs:=by
 obtain⟨_,_,_,l,a,b,d,e⟩:=f;simp only[Value.agg.injEq,Array.mk.injEq,List.cons.injEq,Value.bool.injEq,Value.slice.injEq,and_true]at a;obtain⟨rfl,rfl,rfl,rfl⟩:=a;exact⟨_,_,_,rfl,b,d.2,e⟩
theorem ZC.shape{h:Mem}{u:Value}{q:Int}(a:ZC h u q):∃s ao n c,u=.agg #[.bool s,.slice ao n c]:=by
 obtain⟨s,ao,c,m,rfl,_⟩:=a;exact⟨_,_,_,_,rfl⟩
theorem c0v(X:Nat->Bool)(w:World)(u v:Value)(x y:Int)(hX:HX X w)(hu:ZC (mk X w) u x)(hv:ZC (mk X w) v y)(hx:lg x.natAbs<=549755813888)(hy:lg y.natAbs<=549755813888):Calls Tryz.prog 131 #[u,v] w (b7C X w ((x:Rat)/(y:Rat)) (e5 (decide (y=0)))):=by
 have c4:=hid hx;have c5:=hid hy;obtain⟨s1,a1,n1,c1,rfl⟩:=hu.shape;obtain⟨s2,T,n2,V,rfl⟩:=hv.shape;obtain⟨W,hW,hE,b0,b1,b2,hz⟩:=a2r w #[.bool s1,.slice a1 n1 c1] #[.bool s2,.slice T n2 V] #[.bool false,.slice none 0 0,.slice none 0 0] 45 45 47;have N:HX (a0f X w.heap.size 3) W:=hX.boxes hz;have a8:=ZC.mono _ _ _ _ (a0i (nb:=3) hE) hu;have O:=ZC.mono _ _ _ _ (a0i (nb:=3) hE) hv;obtain⟨b,hb⟩:=c1F w.heap.size;have e2:w.heap.size<=b:=by omega
 rw[hb]at b0 b1 b2 hz N a8 O;have b3:=O.zv hy;have d8:=a8.zv hx;have r:=b0.cell 0 rfl;have s:=b0.cell 1 rfl;have t:=b1.cell 0 rfl;have A:=b1.cell 1 rfl;have n:y=0\/0<y\/y<0:=by omega
 obtain⟨ec,j⟩:∃ec:Int,e5 (decide (y=0))=ec:=⟨_,rfl⟩;obtain⟨q,o⟩:∃q:Rat,(x:Rat)/(y:Rat)=q:=⟨_,rfl⟩;rw[j,o];clear hu hv hx hy;go_enter Tryz.func131,Tryz.ntmps131
 go_wp2_with fail
 refine(b1w (a0f X b 3) W _ _ N b3).mono ?_;rintro e w5 ⟨i,rfl⟩;have b9:=b0.ext0 i;have M:=b1.ext0 i;have a:=b2.ext0 i;have d0:=M.cell 0 rfl;have d1:=M.cell 1 rfl;clear r s t A;rcases n with n|n|n
 ·have H:Hid ((5:Int)=ec):=hid (by rw[<-j,decide_eq_true n];rfl)
  have m:Hid ((0:Rat)=q):=hid (by rw[<-o,n,Rat.intCast_zero,Rat.div_def,Rat.inv_zero,Rat.mul_zero]);have hI:(y.sign==0)=true:=by rw[n];rfl
  generalize y.sign=d2 at*;clear n j o;go_wp2_with ((with_reducible refine c1J ?_);refine a0a a0p rfl rfl a rfl rfl a1s ?_;intro w7 r1 S)
  exact bodyPost_ret (a0C rfl rfl a0p r1 rfl) rfl ⟨ExtX.box (hE.trans i) S (by omega),_,by rw[<-H.out];rfl,by rw[<-m.out];exact QC.zero _⟩
 ·have H:Hid (ec=(0:Int)):=hid (by rw[<-j,decide_eq_false (by omega)];rfl)
  have m:Hid (mkRat x y.natAbs=q):=hid (by rw[<-o];exact b6y x y n);have hI:(y.sign==0)=false:=by rw[Int.sign_eq_one_of_pos n];rfl
  have d6:decide (y.sign<0)=false:=by rw[Int.sign_eq_one_of_pos n];rfl
  have b5:Hid (0<y.natAbs):=hid (by omega);have J:=mkx ZV.mono b3 i;have l:=N.ext i;clear n j o;go_wp2_with fail
  refine(b1w (a0f X b 3) w5 _ _ l J).mono ?_;rintro e k ⟨g,rfl⟩;generalize y.sign=d2 at*;have d:=b9.ext0 g;have f:=M.ext0 g;have C:=a.ext0 g;have a6:=l.ext g;have a4:=hE.trans (i.trans g);have b8:=mkx ZC.mono (mkx ZC.mono a8 i) g;have b7:=(mkx ZC.mono (mkx ZC.mono O i) g).mag;clear d0 d1;generalize e6:s1=sz at*;generalize e1:a1=U at*;generalize e4:n1=nz at*;generalize e3:c1=Y at*;generalize e0:x=z at*;have E:=c4;have b6:Hid (z+0=z):=hid (by omega);go_upto_region 5 with(fail)
  have c:=c1L k;have G:HX (a0f X b 3) k.drew:=a6;have K:ZC (mk (a0f X b 3) k.drew) (.agg #[.bool sz,.slice U nz Y]) z:=b8;have L:NC (mk (a0f X b 3) k.drew) (.slice T n2 V) y.natAbs:=b7;have b4:=K.zv E.out;have Z:=ZC.zv (ZC.zero (mk (a0f X b 3) k.drew)) (by decide);have F:=hid (And.intro d f);have hS:Hid (∀W',Ext k.drew W'->W'.cell? ⟨b,0,none⟩=some (.bool sz)/\W'.cell? ⟨b,1,none⟩=some (.slice U nz Y)/\W'.cell? ⟨b+1,0,none⟩=some (.bool s2)/\W'.cell? ⟨b+1,1,none⟩=some (.slice T n2 V)):=
   hid fun W' h=>⟨(d.ext0 (c.trans h)).cell 0 rfl,(d.ext0 (c.trans h)).cell 1 rfl,(f.ext0 (c.trans h)).cell 0 rfl,(f.ext0 (c.trans h)).cell 1 rfl⟩
  have r:=d.cell 0 rfl;have s:=d.cell 1 rfl;have t:=f.cell 0 rfl;have A:=f.cell 1 rfl;go_region_held3 (fun Q=>Q.cell? ⟨b,0,none⟩=some (.bool sz)/\Q.cell? ⟨b,1,none⟩=some (.slice U nz Y)/\Q.cell? ⟨b+1,0,none⟩=some (.bool s2)/\Q.cell? ⟨b+1,1,none⟩=some (.slice T n2 V))
   (first|exact hS.out _ P|exact hS.out _ B|exact⟨((F.out.1.ext0 (c.trans B)).ext (a.set3 _ _ _).2 (a0b (by omega))).cell 0 rfl,((F.out.1.ext0 (c.trans B)).ext (a.set3 _ _ _).2 (a0b (by omega))).cell 1 rfl,((F.out.2.ext0 (c.trans B)).ext (a.set3 _ _ _).2 (a0b (by omega))).cell 0 rfl,((F.out.2.ext0 (c.trans B)).ext (a.set3 _ _ _).2 (a0b (by omega))).cell 1 rfl⟩|go_keep)
   (first|(go_at_call 91;(with_reducible refine(b9g (a0f X b 3) k.drew _ _ _ _ G b4 Z).mono ?_);rintro ee w8 ⟨P,u8,rfl,I⟩;rw[b6.out]at I;have a5:=HX.ext G P;have a7:=mkx NC.mono L P)|(go_at_call 76;(with_reducible refine(a5F (a0f X b 3) w8 _ _ z y.natAbs a5 I a7 E.out c5.out b5.out).mono ?_);rintro ee w9 ⟨a0,u9,rfl,p⟩;obtain⟨s9,a9,n9,c9,d9,k9,e9,rfl⟩:=p.shape;have B:=P.trans a0;have a:=C.ext0 (c.trans B);have g0:=a.cell 0 rfl;have g1:=a.cell 1 rfl;have g2:=a.cell 2 rfl;have f0:=a.frozen 0;have f1:=a.frozen 1;have f2:=a.frozen 2))
  rw[m.out]at p;obtain⟨q1,q2⟩:=a.set3 (.bool s9) (.slice a9 n9 c9) (.slice d9 k9 e9);have h7:=QC.mono _ _ _ _ a0l (QC.mono _ _ _ _ (a0h q2 (by omega) (by omega)) p);have a3:Ext w _:=ExtX.box (a4.trans (c.trans B)) q2 (by omega);clear g0 g1 g2 f0 f1 f2 r s t A hS F;go_wp2_with fail
  exact bodyPost_ret (a0C rfl rfl a0p q1 rfl) rfl ⟨a3,_,by rw[H.out];rfl,h7⟩
 ·have H:Hid (ec=(0:Int)):=hid (by rw[<-j,decide_eq_false (by omega)];rfl)
  have m:Hid (mkRat (-x) y.natAbs=q):=hid (by rw[<-o];exact b9j x y n);have hI:(y.sign==0)=false:=by rw[Int.sign_eq_neg_one_of_neg n];rfl
  have d6:decide (y.sign<0)=true:=by rw[Int.sign_eq_neg_one_of_neg n];rfl
  have b5:Hid (0<y.natAbs):=hid (by omega);have J:=mkx ZV.mono b3 i;have l:=N.ext i;clear n j o;go_wp2_with fail
  refine(b1w (a0f X b 3) w5 _ _ l J).mono ?_;rintro e w6 ⟨g,rfl⟩;generalize y.sign=d2 at*;have d:=b9.ext0 g;have f:=M.ext0 g;have C:=a.ext0 g;have R:=l.ext g;have c8:=mkx ZV.mono (mkx ZV.mono d8 i) g;clear d0 d1;have r:=d.cell 0 rfl;have s:=d.cell 1 rfl;have t:=f.cell 0 rfl;have A:=f.cell 1 rfl;go_wp2_with fail
  refine(c1i (a0f X b 3) w6 _ _ R c8).mono ?_;rintro e w7 ⟨D,u7,rfl,c6⟩;obtain⟨sz,U,nz,Y,rfl⟩:=c6.shape;have d3:=d.ext0 D;have d4:=f.ext0 D;have d5:=C.ext0 D;have c3:=R.ext D;have c0:=hE.trans (i.trans (g.trans D));have c7:=(mkx ZC.mono (mkx ZC.mono (mkx ZC.mono O i) g) D).mag;have d7:Hid (lg (-x).natAbs<=549755813888):=hid (by rw[Int.natAbs_neg];exact c4.out);clear r s t A d f C;generalize e0: -x=z at*;go_upto_region 5 with((with_reducible refine c1J ?_);refine a0a a0H rfl rfl d3 rfl rfl a3a ?_;intro k d S)
  have f:=d4.ext S (a0b (by omega));have C:=d5.ext S (a0b (by omega));have a6:=c3.ext S;have b8:=ZC.mono _ _ _ _ (a0h (X:=X) (lo:=b) (nb:=3) S (by omega) (by omega)) c6;have b7:=NC.mono _ _ _ _ (a0h (X:=X) (lo:=b) (nb:=3) S (by omega) (by omega)) c7;have a4:Ext w k:=ExtX.box c0 S (by omega);have E:=d7;have b6:Hid (z+0=z):=hid (by omega);have c:=c1L k;have G:HX (a0f X b 3) k.drew:=a6;have K:ZC (mk (a0f X b 3) k.drew) (.agg #[.bool sz,.slice U nz Y]) z:=b8;have L:NC (mk (a0f X b 3) k.drew) (.slice T n2 V) y.natAbs:=b7;have b4:=K.zv E.out;have Z:=ZC.zv (ZC.zero (mk (a0f X b 3) k.drew)) (by decide);have F:=hid (And.intro d f);have hS:Hid (∀W',Ext k.drew W'->W'.cell? ⟨b,0,none⟩=some (.bool sz)/\W'.cell? ⟨b,1,none⟩=some (.slice U nz Y)/\W'.cell? ⟨b+1,0,none⟩=some (.bool s2)/\W'.cell? ⟨b+1,1,none⟩=some (.slice T n2 V)):=
   hid fun W' h=>⟨(d.ext0 (c.trans h)).cell 0 rfl,(d.ext0 (c.trans h)).cell 1 rfl,(f.ext0 (c.trans h)).cell 0 rfl,(f.ext0 (c.trans h)).cell 1 rfl⟩
  have r:=d.cell 0 rfl;have s:=d.cell 1 rfl;have t:=f.cell 0 rfl;have A:=f.cell 1 rfl;go_region_held3 (fun Q=>Q.cell? ⟨b,0,none⟩=some (.bool sz)/\Q.cell? ⟨b,1,none⟩=some (.slice U nz Y)/\Q.cell? ⟨b+1,0,none⟩=some (.bool s2)/\Q.cell? ⟨b+1,1,none⟩=some (.slice T n2 V))
   (first|exact hS.out _ P|exact hS.out _ B|exact⟨((F.out.1.ext0 (c.trans B)).ext (a.set3 _ _ _).2 (a0b (by omega))).cell 0 rfl,((F.out.1.ext0 (c.trans B)).ext (a.set3 _ _ _).2 (a0b (by omega))).cell 1 rfl,((F.out.2.ext0 (c.trans B)).ext (a.set3 _ _ _).2 (a0b (by omega))).cell 0 rfl,((F.out.2.ext0 (c.trans B)).ext (a.set3 _ _ _).2 (a0b (by omega))).cell 1 rfl⟩|go_keep)
   (first|(go_at_call 91;(with_reducible refine(b9g (a0f X b 3) k.drew _ _ _ _ G b4 Z).mono ?_);rintro ee w8 ⟨P,u8,rfl,I⟩;rw[b6.out]at I;have a5:=HX.ext G P;have a7:=mkx NC.mono L P)|(go_at_call 76;(with_reducible refine(a5F (a0f X b 3) w8 _ _ z y.natAbs a5 I a7 E.out c5.out b5.out).mono ?_);rintro ee w9 ⟨a0,u9,rfl,p⟩;obtain⟨s9,a9,n9,c9,d9,k9,e9,rfl⟩:=p.shape;have B:=P.trans a0;have a:=C.ext0 (c.trans B);have g0:=a.cell 0 rfl;have g1:=a.cell 1 rfl;have g2:=a.cell 2 rfl;have f0:=a.frozen 0;have f1:=a.frozen 1;have f2:=a.frozen 2))
  rw[m.out]at p;obtain⟨q1,q2⟩:=a.set3 (.bool s9) (.slice a9 n9 c9) (.slice d9 k9 e9);have h7:=QC.mono _ _ _ _ a0l (QC.mono _ _ _ _ (a0h q2 (by omega) (by omega)) p);have a3:Ext w _:=ExtX.box (a4.trans (c.trans B)) q2 (by omega);clear g0 g1 g2 f0 f1 f2 r s t A hS F;go_wp2_with fail
  exact bodyPost_ret (a0C rfl rfl a0p q1 rfl) rfl ⟨a3,_,by rw[H.out];rfl,h7⟩
theorem b6z(x y:Rat):((x.num*(y.den:Int):Int):Rat)/((y.num*(x.den:Int):Int):Rat)=x/y:=by
 have c:(x.num:Rat)/(x.den:Rat)=x:=by rw[<-Rat.mkRat_eq_div];exact Rat.mkRat_self x
 have a:(y.num:Rat)/(y.den:Rat)=y:=by rw[<-Rat.mkRat_eq_div];exact Rat.mkRat_self y
 rw[Rat.intCast_mul,Rat.intCast_mul,Rat.intCast_natCast,Rat.intCast_natCast];have d:(x.den:Rat)≠0:=by have:=x.den_nz;exact_mod_cast this
 have e:(y.den:Rat)≠0:=by have:=y.den_nz;exact_mod_cast this
 by_cases b:(y.num:Rat)=0
 ·rw[<-a,b];simp[Rat.div_def]
 ·conv=>rhs;rw[<-c,<-a]
  grind
theorem b4Y(y x:Rat):y.num*(x.den:Int)=0↔y=0:=by
 have a:(x.den:Int)≠0:=by have:=x.den_nz;omega
 rw[Int.mul_eq_zero,Rat.num_eq_zero];exact or_iff_left a
theorem c0l(X:Nat->Bool)(w:World)(u v:Value)(x y:Rat)(hX:HX X w)(hu:QV (mk X w) u x)(hv:QV (mk X w) v y):Calls Tryz.prog 79 #[u,v] w (b7C X w (x/y) (e5 (decide (y=0)))):=by
 have l:=hid hu.hq;have m:=hid hv.hq;obtain⟨s1,a1,n1,c1,d1,k1,e1,rfl⟩:=hu.shape;obtain⟨s2,a2,n2,c2,d2,k2,e2,rfl⟩:=hv.shape;obtain⟨W,hW,hE,g,i,M,hz⟩:=a2r w #[.bool s1,.slice a1 n1 c1,.slice d1 k1 e1] #[.bool s2,.slice a2 n2 c2,.slice d2 k2 e2] #[.bool false,.slice none 0 0,.slice none 0 0] 47 47 47;have a9:HX (a0f X w.heap.size 3) W:=hX.boxes hz;have G:=QV.mono _ _ _ _ (a0i (nb:=3) hE) hu;have H:=QV.mono _ _ _ _ (a0i (nb:=3) hE) hv;obtain⟨b,hb⟩:=c1F w.heap.size;have h9:w.heap.size<=b:=by omega
 rw[hb]at g i M hz a9 G H;have c:=c1L W;have d:HX (a0f X b 3) W.drew:=a9;have b6:QV (mk (a0f X b 3) W.drew) (.agg #[.bool s1,.slice a1 n1 c1,.slice d1 k1 e1]) x:=G;have b7:QV (mk (a0f X b 3) W.drew) (.agg #[.bool s2,.slice a2 n2 c2,.slice d2 k2 e2]) y:=H;have o:=g.cell 0 rfl;have p:=g.cell 1 rfl;have q:=g.cell 2 rfl;have r:=i.cell 0 rfl;have s:=i.cell 1 rfl;have t:=i.cell 2 rfl;clear hu hv;obtain⟨ec,j⟩:∃ec:Int,e5 (decide (y=0))=ec:=⟨_,rfl⟩;rw[j]
 replace j:=hid j
 go_enter Tryz.func79,Tryz.ntmps79
 go_upto_region 1 with(fail)
 go_cut []from 6 to 9 (fun Y=>∃K B I D N T P L C J E O U Q,Bx Y b #[.bool K,.slice B I D,.slice N T P] 47/\Bx Y (b+1) #[.bool L,.slice C J E,.slice O U Q] 47/\Bx Y (b+1+1) #[.bool false,.slice none 0 0,.slice none 0 0] 47/\QC (mk (a0f X b 3) Y) (.agg #[.bool K,.slice B I D,.slice N T P]) x/\QC (mk (a0f X b 3) Y) (.agg #[.bool L,.slice C J E,.slice O U Q]) y/\Ext w Y)
 case first=>
  go_region_with (first|(go_at_call 73;(with_reducible refine(a4C (a0f X b 3) W.drew _ x d b6).mono ?_);rintro R w5 ⟨k,u5,rfl,b4⟩;obtain⟨s5,a5,n5,c5,d5,k5,e5,rfl⟩:=b4.shape;have c9:=g.ext0 (c.trans k);have n:=i.ext0 (c.trans k);have f3:=n.cell 0 rfl;have f4:=n.cell 1 rfl;have f5:=n.cell 2 rfl)|(go_at_call 73;(with_reducible refine(a4C (a0f X b 3) w5 _ y (HX.ext d k) (mkx QV.mono b7 k)).mono ?_);rintro R w6 ⟨f,u6,rfl,b5⟩;obtain⟨s6,a6,n6,c6,d6,k6,e6,rfl⟩:=b5.shape;have a:=c9.ext0 f;have e:=n.ext0 f;have g6:=a.cell 0 rfl;have g7:=a.cell 1 rfl;have g8:=a.cell 2 rfl;have g9:=e.cell 0 rfl;have h0:=e.cell 1 rfl;have h1:=e.cell 2 rfl;have f7:=a.frozen 0;have f8:=a.frozen 1;have g4:=a.frozen 2;have f9:=e.frozen 0;have g3:=e.frozen 1;have g5:=e.frozen 2))
  all_goals
   obtain⟨wf,b8,q0,q1,q2,q3,q4⟩:=a2n (X:=X) (nb:=3) a e (hE.trans ((c.trans k).trans f)) h9 (by omega) (.bool s5) (.slice a5 n5 c5) (.slice d5 k5 e5) (.bool s6) (.slice a6 n6 c6) (.slice d6 k6 e6);rw[b8];have i1:QC (mk (a0f X b 3) wf) (.agg #[.bool s5,.slice a5 n5 c5,.slice d5 k5 e5]) x:=QC.mono _ _ _ _ q4 (mkx QC.mono b4 f);have i2:QC (mk (a0f X b 3) wf) (.agg #[.bool s6,.slice a6 n6 c6,.slice d6 k6 e6]) y:=QC.mono _ _ _ _ q4 b5;have q5:=q2 (b+1+1) _ _ (by omega) (by omega) ((M.ext0 (c.trans k)).ext0 f);clear f3 f4 f5 g6 g7 g8 g9 h0 h1 f7 f8 f9 g3 g4 g5 o p q r s t b8;go_wp2_with fail
   go_meet
   exact⟨_,_,_,_,_,_,_,_,_,_,_,_,_,_,q0,q1,q5,i1,i2,q3⟩
 case rest=>
  clear o p q r s t g i M G H b6 b7 d c hW;obtain⟨K,B,I,D,N,T,P,L,C,J,E,O,U,Q,g,i,M,hx,hy,Z⟩:=hcut;have c7:w.heap.size+3<=wc.heap.size:=by have:=M.lt;omega
  obtain⟨j0,k8,j8⟩:=hx.num;obtain⟨j3,k9,j9⟩:=hy.num;have h8:HX (a0f X b 3) wc:=hX.boxes' Z (by have:=c7;omega) c7;have o:=g.cell 0 rfl;have p:=g.cell 1 rfl;have q:=g.cell 2 rfl;have r:=i.cell 0 rfl;have s:=i.cell 1 rfl;have t:=i.cell 2 rfl;have c:=c1L wc;have d:HX (a0f X b 3) wc.drew:=h8;have i9:QC (mk (a0f X b 3) wc.drew) (.agg #[.bool K,.slice B I D,.slice N T P]) x:=hx;have j2:QC (mk (a0f X b 3) wc.drew) (.agg #[.bool L,.slice C J E,.slice O U Q]) y:=hy;have b9:ZC (mk (a0f X b 3) wc.drew) (.agg #[.bool K,.slice B I D]) x.num:=j0;have c0:ZC (mk (a0f X b 3) wc.drew) (.agg #[.bool L,.slice C J E]) y.num:=j3;have d9:lg x.num.natAbs<=549755813888:=c1A (c1A (a0G x) l.out) (by omega);have e7:lg y.num.natAbs<=549755813888:=c1A (c1A (a0G y) m.out) (by omega);have d8:lg x.den<=549755813888:=c1A (c1A (a0K x) l.out) (by omega);have e0:lg y.den<=549755813888:=c1A (c1A (a0K y) m.out) (by omega);have d0:lg (x.num*(y.den:Int)).natAbs<=274877906944:=by rw[Int.natAbs_mul,Int.natAbs_natCast];have:=a0Z x.num.natAbs y.den;have:=a0G x;have:=a0K y;have:=l.out;have:=m.out;omega
  have d7:lg (y.num*(x.den:Int)).natAbs<=274877906944:=by rw[Int.natAbs_mul,Int.natAbs_natCast];have:=a0Z y.num.natAbs x.den;have:=a0G y;have:=a0K x;have:=l.out;have:=m.out;omega
  have k0:lg (x.den*y.den)<=274877906944:=by have:=a0Z x.den y.den;have:=a0K x;have:=a0K y;have:=l.out;have:=m.out;omega
  have k7:lg (x.num*y.num).natAbs<=274877906944:=by rw[Int.natAbs_mul];have:=a0Z x.num.natAbs y.num.natAbs;have:=a0G x;have:=a0G y;have:=l.out;have:=m.out;omega
  have F:=hid (And.intro g i);have S:Hid (∀W',Ext wc.drew W'->W'.cell? ⟨b,0,none⟩=some (.bool K)/\W'.cell? ⟨b,1,none⟩=some (.slice B I D)/\W'.cell? ⟨b,2,none⟩=some (.slice N T P)/\W'.cell? ⟨b+1,0,none⟩=some (.bool L)/\W'.cell? ⟨b+1,1,none⟩=some (.slice C J E)/\W'.cell? ⟨b+1,2,none⟩=some (.slice O U Q)):=
   hid fun W' h=>⟨(g.ext0 (c.trans h)).cell 0 rfl,(g.ext0 (c.trans h)).cell 1 rfl,(g.ext0 (c.trans h)).cell 2 rfl,(i.ext0 (c.trans h)).cell 0 rfl,(i.ext0 (c.trans h)).cell 1 rfl,(i.ext0 (c.trans h)).cell 2 rfl⟩
  have b3:Hid (((x.num*(y.den:Int):Int):Rat)/((y.num*(x.den:Int):Int):Rat)=x/y):=hid (b6z x y);have i0:Hid (e5 (decide (y.num*(x.den:Int)=0))=ec):=hid (by rw[<-j.out];simp only[b4Y]);go_wp2_with fail
  go_region_held3 (fun V=>V.cell? ⟨b,0,none⟩=some (.bool K)/\V.cell? ⟨b,1,none⟩=some (.slice B I D)/\V.cell? ⟨b,2,none⟩=some (.slice N T P)/\V.cell? ⟨b+1,0,none⟩=some (.bool L)/\V.cell? ⟨b+1,1,none⟩=some (.slice C J E)/\V.cell? ⟨b+1,2,none⟩=some (.slice O U Q))
   (first|exact S.out _ t1|exact S.out _ t2|exact S.out _ t3|exact S.out _ t4|exact S.out _ z|exact⟨((F.out.1.ext0 (c.trans z)).ext (a.set3 _ _ _).2 (a0b (by omega))).cell 0 rfl,((F.out.1.ext0 (c.trans z)).ext (a.set3 _ _ _).2 (a0b (by omega))).cell 1 rfl,((F.out.1.ext0 (c.trans z)).ext (a.set3 _ _ _).2 (a0b (by omega))).cell 2 rfl,((F.out.2.ext0 (c.trans z)).ext (a.set3 _ _ _).2 (a0b (by omega))).cell 0 rfl,((F.out.2.ext0 (c.trans z)).ext (a.set3 _ _ _).2 (a0b (by omega))).cell 1 rfl,((F.out.2.ext0 (c.trans z)).ext (a.set3 _ _ _).2 (a0b (by omega))).cell 2 rfl⟩|go_keep)
   (first|(go_at_call 78;(with_reducible refine(a9p (a0f X b 3) wc.drew _ y d j2).mono ?_);rintro R w5 ⟨t1,u5,rfl,i3⟩;have h3:=HX.ext d t1;have i7:=mkx ZC.mono b9 t1)|(go_at_call 92;(with_reducible refine(a5W (a0f X b 3) w5 _ _ x.num y.den h3 i7 i3 d9 e0).mono ?_);rintro R w6 ⟨f,u6,rfl,i4⟩;have t2:=t1.trans f;have h4:=HX.ext d t2;have i8:=mkx QC.mono i9 t2)|(go_at_call 78;(with_reducible refine(a9p (a0f X b 3) w6 _ x h4 i8).mono ?_);rintro R w7 ⟨a7,u7,rfl,i5⟩;have t3:=t2.trans a7;have h5:=HX.ext d t3;have j1:=mkx ZC.mono c0 t3)|(go_at_call 92;(with_reducible refine(a5W (a0f X b 3) w7 _ _ y.num x.den h5 j1 i5 e7 d8).mono ?_);rintro R w8 ⟨a8,u8,rfl,i6⟩;have t4:=t3.trans a8;have h6:=HX.ext d t4;have j4:=mkx ZC.mono i4 (a7.trans a8))|(go_at_call 131;(with_reducible refine(c0v (a0f X b 3) w8 _ _ _ _ h6 j4 i6 (c1A d0 (by decide)) (c1A d7 (by decide))).mono ?_);rintro R l1 ⟨a0,l0,rfl,A⟩;obtain⟨j7,c8,j6,e8,e9,j5,f6,rfl⟩:=A.shape;have z:=t4.trans a0;have a:=M.ext0 (c.trans z);have g0:=a.cell 0 rfl;have g1:=a.cell 1 rfl;have g2:=a.cell 2 rfl;have f0:=a.frozen 0;have f1:=a.frozen 1;have f2:=a.frozen 2))
  obtain⟨r1,r2⟩:=a.set3 (.bool j7) (.slice c8 j6 e8) (.slice e9 j5 f6);have h7:=QC.mono _ _ _ _ a0l (QC.mono _ _ _ _ (a0h r2 (by omega) (by omega)) A);rw[b3.out]at h7;have h2:Ext w _:=ExtX.box (Z.trans (c.trans z)) r2 (by omega);clear g0 g1 g2 f0 f1 f2 o p q r s t S F;go_wp2_with fail
  exact bodyPost_ret (a0C rfl rfl a0p r1 rfl) rfl ⟨h2,_,by rw[<-i0.out];rfl,h7⟩
theorem b4Z(X:Nat->Bool)(w:World)(u:Value)(n:Nat)(hu:NC (mk X w) u n)(hn:lg n<=1099511627776):Calls Tryz.prog 106 #[u] w fun e w'=>w=w'/\e=.returned (.bool (decide (n=1))):=by
 obtain⟨ao,ca,a,rfl,hca,hcan,hsa⟩:=hu;have hal:=hcan.len;by_cases h1:a.length=1
 ·have hk:0<a.length:=by omega
  have hcell:=hsa.nat 0 hk;have hh:=hsa.hd;obtain⟨x,rfl⟩:∃x,a= [x]:=by
   match a,h1 with
   | [x],_=>exact⟨x,rfl⟩
  have hnx:n=x:=by have:=hcan.2.2;simp[nv]at this;omega
  obtain rfl:=hnx;simp only[List.length_singleton,List.getElem_cons_zero]at hcell hca hh hk |-;by_cases h2:n=1
  ·have hI:((n:Int)==1)=true:=by rw[h2];rfl
   have hf:Hid (decide (n=1)=true):=hid (decide_eq_true h2);clear h2 h1 hcan hsa hal;go_enter Tryz.func106,Tryz.ntmps106
   go_wp2_with (with_reducible refine a0v a0Q ?_)
   go_ret
   exact⟨rfl,a0m hf.out.symm⟩
  ·have hI:((n:Int)==1)=false:=a2C (by omega)
   have hf:Hid (decide (n=1)=false):=hid (decide_eq_false h2);clear h2 h1 hcan hsa hal;go_enter Tryz.func106,Tryz.ntmps106
   go_wp2_with (with_reducible refine a0v a0Q ?_)
   go_ret
   exact⟨rfl,a0m hf.out.symm⟩
 ·have hI:((a.length:Int)==1)=false:=a2C (by omega)
  have hf:Hid (decide (n=1)=false):=hid (decide_eq_false (by rintro rfl;rw[a3I]at hal;exact h1 hal));clear h1 hal hn;go_enter Tryz.func106,Tryz.ntmps106
  go_wp2_with (with_reducible refine a0v a0Q ?_)
  go_ret
  exact⟨rfl,a0m hf.out.symm⟩
theorem b2V(X:Nat->Bool)(w:World)(s:Bool)(ao A:Option Addr)(c e:Nat)(m d:List Nat)(hX:HX X w)(hm:Sl (a0c .u32) 1 (mk X w) ao m)(hd:Sl (a0c .u32) 1 (mk X w) A d)(a1:m.length<=68719476736)(a0:d.length<=68719476736)(U:Dig m)(P:Dig d)(T:m.length<=c)(O:d.length<=e):Calls Tryz.prog 100 #[.agg #[.bool s,.slice ao m.length c,.slice A d.length e]] w (a7U w (a1A s m d)):=by
 obtain⟨W,hW,n,z,hz⟩:=a0Y w #[.bool s,.slice ao m.length c,.slice A d.length e] 47;have M:HX X W:=hX.ext n;have p:=hm.mono (a0c.mono _) (a0k n);have D:=hd.mono (a0c.mono _) (a0k n);obtain⟨b,hb⟩:=c1F w.heap.size;rw[hb]at z hz;have x:=z.cell 0 rfl;have y:=z.cell 1 rfl;have f:Hid (a1A s m d=(a1v s m&&a1J d&&(decide (d.length=0)||(decide (0<m.length)&& !(nv d==1)&&(Nat.gcd (nv m) (nv d)==1))))):=hid rfl;clear hX hm hd hz;cases j:a1v s m
 ·have i:Hid (a1A s m d=false):=hid (by rw[f.out,j];rfl)
  have k:=hid j;clear j f;go_enter Tryz.func100,Tryz.ntmps100
  go_wp2_with fail
  refine(a6z X W s ao c m p (by omega)).mono ?_;rintro e H ⟨a,rfl⟩;rw[k.out];clear x y;go_wp2_with fail
  go_ret
  exact⟨n.trans a,a0m i.out.symm⟩
 ·cases t:a1J d
  ·have i:Hid (a1A s m d=false):=hid (by rw[f.out,j,t];rfl)
   have k:=hid j;have u:=hid t;clear j f t;go_enter Tryz.func100,Tryz.ntmps100
   go_wp2_with fail
   refine(a6z X W s ao c m p (by omega)).mono ?_;rintro e H ⟨a,rfl⟩;rw[k.out];have v:=(z.ext0 a).cell 2 rfl;have o:=D.mono (a0c.mono _) (a0k a);clear x y;go_wp2_with fail
   refine(a2q X _ _ _ _ o (by omega)).mono ?_;rintro e w2 ⟨rfl,rfl⟩;rw[u.out];clear v;go_wp2_with fail
   go_ret
   exact⟨n.trans a,a0m i.out.symm⟩
  ·have i:Hid (a1A s m d=(decide (d.length=0)||(decide (0<m.length)&& !(nv d==1)&&(Nat.gcd (nv m) (nv d)==1)))):=hid (by rw[f.out,j,t];rfl)
   have k:=hid j;have u:=hid t;have G:a1J m=true:=by unfold a1v at j;simp at j;exact j.1
   have C:=hid (show a0M m (nv m)from⟨U,G,rfl⟩);have B:=hid (show a0M d (nv d)from⟨P,t,rfl⟩);have h:=hid B.out.len;have r:=hid C.out.len;clear j f t G;go_enter Tryz.func100,Tryz.ntmps100
   go_wp2_with fail
   refine(a6z X W s ao c m p (by omega)).mono ?_;rintro I H ⟨a,rfl⟩;rw[k.out];have b1:=z.ext0 a;have v:=b1.cell 2 rfl;have Z:=b1.cell 1 rfl;have o:=D.mono (a0c.mono _) (a0k a);have R:=p.mono (a0c.mono _) (a0k a);have L:=M.ext a;have V:NC (mk X H) (.slice ao m.length c) (nv m):=⟨ao,c,m,rfl,T,C.out,R⟩;have E:NC (mk X H) (.slice A d.length e) (nv d):=⟨A,e,d,rfl,O,B.out,o⟩;clear x y;go_wp2_with fail
   refine(a2q X _ _ _ _ o (by omega)).mono ?_;rintro I w2 ⟨rfl,rfl⟩;rw[u.out];go_wp2_with fail
   refine(b4Z X _ _ _ E (by rw[<-h.out];omega)).mono ?_;rintro I w3 ⟨rfl,rfl⟩;by_cases l:nv d=1
   ·have g:Hid (a1A s m d=false):=hid (by
     have h5:d.length≠0:=by rw[h.out,l,a3I];decide
     rw[i.out,l,decide_eq_false h5];simp)
    rw[decide_eq_true l];clear l i;go_wp2_with fail
    go_ret
    exact⟨n.trans a,a0m g.out.symm⟩
   ·rw[decide_eq_false l]
    by_cases q:d.length=0
    ·have g:Hid (a1A s m d=true):=hid (by rw[i.out,decide_eq_true q];rfl)
     have N:((d.length:Int)==0)=true:=by rw[q];rfl
     clear q l i;go_wp2_with fail
     go_ret
     exact⟨n.trans a,a0m g.out.symm⟩
    ·have N:((d.length:Int)==0)=false:=a2C (by omega)
     by_cases F:m.length=0
     ·have g:Hid (a1A s m d=false):=hid (by rw[i.out,decide_eq_false q,decide_eq_false (by omega)];rfl)
      have S:¬((0:Int)<(m.length:Int)):=by omega
      clear q l i F;go_wp2_with fail
      go_ret
      exact⟨n.trans a,a0m g.out.symm⟩
     ·have S:(0:Int)<(m.length:Int):=by omega
      have g:Hid (a1A s m d=decide (Nat.gcd (nv m) (nv d)=1)):=hid (by
       rw[i.out,decide_eq_false q,decide_eq_true (by omega),Bool.eq_iff_iff];simp[l])
      have Q:Hid (lg (Nat.gcd (nv m) (nv d))<=1099511627776):=hid (by
       have h2:Nat.gcd (nv m) (nv d)<=nv d:=Nat.gcd_le_right _ (by
        rcases Nat.eq_zero_or_pos (nv d)with J|J
        ·exfalso;apply q;rw[h.out,J];rfl
        ·exact J)
       refine c1A (a1l h2) ?_;rw[<-h.out];omega)
      clear q l i F;go_wp2_with fail
      refine(b9f X _ _ _ _ _ L (V.nv (by rw[<-r.out];omega)) (E.nv (by rw[<-h.out];omega)) (by rw[<-r.out];omega) (by rw[<-h.out];omega)).mono ?_;rintro e7 w7 ⟨K,u7,rfl,Y⟩;clear Z v;go_wp2_with fail
      refine(b4Z X _ _ _ Y Q.out).mono ?_;rintro I w3 ⟨rfl,rfl⟩;rw[<-g.out];go_wp2_with fail
      go_ret
      exact⟨n.trans (a.trans K),rfl⟩
theorem NC.zc{h:Mem}{ao:Option Addr}{n c k:Nat}(f:NC h (.slice ao n c) k):ZC h (.agg #[.bool false,.slice ao n c]) (k:Int):=by
 obtain⟨_,_,l,a,b,d,e⟩:=f;simp only[Value.slice.injEq]at a;obtain⟨rfl,rfl,rfl⟩:=a;exact⟨_,_,_,l,rfl,b,⟨(decide_eq_false (by omega)).symm,by rw[Int.natAbs_natCast];exact d⟩,e⟩
theorem a3M(X:Nat->Bool)(w:World)(u:Value)(q:Rat)(hX:HX X w)(hu:QV (mk X w) u q):Calls Tryz.prog 55 #[u] w (a2b X w QC q):=by
 have k:=hid hu.hq;obtain⟨s,ao,c,m,i,e,d,rfl,P,Q,R,S,h5,h6,T,h8,rfl⟩:=hu;obtain⟨W,hW,E,x,I,hz⟩:=a1K w #[.bool s,.slice ao m.length c,.slice i d.length e] #[.bool false,.slice none 0 0,.slice none 0 0] 47 47;have j:HX (a0f X w.heap.size 2) W:=hX.boxes hz;have l:Sl (a0c .u32) 1 (mk (a0f X w.heap.size 2) W) ao m:=T.mono (a0c.mono _) (a0i E);have n:Sl (a0c .u32) 1 (mk (a0f X w.heap.size 2) W) i d:=h8.mono (a0c.mono _) (a0i E);obtain⟨b,hb⟩:=c1F w.heap.size;rw[hb]at x I hz l n j;have c0:=x.cell 0 rfl;have c1:=x.cell 1 rfl;have c2:=x.cell 2 rfl;cases t:a1A s m d
 ·have b7:=hid (a3S t)
  have r:=hid t;clear t k;go_enter Tryz.func55,Tryz.ntmps55
  go_wp2_with fail
  refine(b2V (a0f X b 2) W s ao i c e m d j l n h5 h6 R S P Q).mono ?_;rintro e1 w1 ⟨f,rfl⟩;rw[r.out];have J:=I.ext0 f;clear c0 c1 c2;go_wp2_with ((with_reducible refine c1J ?_);refine a0a a0p rfl rfl J rfl rfl a1s ?_;intro w2 b2 a2)
  exact bodyPost_ret (a0d rfl rfl a0p b2 rfl) rfl ⟨ExtX.box (E.trans f) a2 (by omega),_,rfl,by rw[b7.out];exact QC.zero _⟩
 ·have r:=hid t
  have A:=a7b.of_valid R S t;have hx:QC (mk (a0f X b 2) W) (.agg #[.bool s,.slice ao m.length c,.slice i d.length e]) (b2y s m d):=⟨s,ao,c,m,i,e,d,rfl,P,Q,A,l,n⟩;obtain⟨q,hq⟩:=c1F (b2y s m d);rw[hq]at hx k |-;clear t A hq;go_enter Tryz.func55,Tryz.ntmps55
  go_wp2_with fail
  refine(b2V (a0f X b 2) W s ao i c e m d j l n h5 h6 R S P Q).mono ?_;rintro e1 p ⟨f,rfl⟩;rw[r.out];have o:=x.ext0 f;have K:=I.ext0 f;have a3:=E.trans f;have b4:=mkx QC.mono hx f;have a5:=j.ext f;clear c0 c1 c2;obtain⟨b6,c4,C⟩:=b4.num;have g:=c1L p;have z:HX (a0f X b 2) p.drew:=a5;have D:ZC (mk (a0f X b 2) p.drew) (.agg #[.bool s,.slice ao m.length c]) q.num:=b6;have B:NC (mk (a0f X b 2) p.drew) (.slice i d.length e) (dn q):=C;have M:lg q.num.natAbs<=549755813888:=c1A (c1A (a0G q) k.out) (by omega);have L:lg (dn q)<=549755813888:=c1A (c1A (b2R q) k.out) (by omega);have b5:=D.zv M;have b8:=o.cell 0 rfl;have b9:=o.cell 1 rfl;have c3:=o.cell 2 rfl;have hS:Hid (∀W',Ext p.drew W'->W'.cell? ⟨b,0,none⟩=some (.bool s)/\W'.cell? ⟨b,1,none⟩=some (.slice ao m.length c)/\W'.cell? ⟨b,2,none⟩=some (.slice i d.length e)):=
   hid fun W' h=>⟨(o.ext0 (g.trans h)).cell 0 rfl,(o.ext0 (g.trans h)).cell 1 rfl,(o.ext0 (g.trans h)).cell 2 rfl⟩
  go_wp2_with fail
  go_region_held3 (fun w'=>w'.cell? ⟨b,0,none⟩=some (.bool s)/\w'.cell? ⟨b,1,none⟩=some (.slice ao m.length c)/\w'.cell? ⟨b,2,none⟩=some (.slice i d.length e))
   (first|exact hS.out _ F|exact hS.out _ v|exact⟨((o.ext0 (g.trans v)).ext (a.set3 _ _ _).2 (a0b (by omega))).cell 0 rfl,((o.ext0 (g.trans v)).ext (a.set3 _ _ _).2 (a0b (by omega))).cell 1 rfl,((o.ext0 (g.trans v)).ext (a.set3 _ _ _).2 (a0b (by omega))).cell 2 rfl⟩|go_keep)
   (first|(go_at_call 101;(with_reducible refine(a4c (a0f X b 2) p.drew _ _ z b5).mono ?_);rintro ee w8 ⟨F,u8,rfl,s8,G,N,l8,rfl,U,V,Y⟩;have a6:=HX.ext z F;have b3:=(mkx NC.mono B F).nv (c1A L (by decide)))|(go_at_call 102;(with_reducible refine(a4a a6 b3).mono ?_);rintro ee w9 ⟨y,u9,rfl,H,O,l9,rfl,Z,a0,a1⟩;have v:=F.trans y;have a7:=Sl.mono (a0c.mono _) (a0k y) Y;have a:=K.ext0 (g.trans v);have g0:=a.cell 0 rfl;have g1:=a.cell 1 rfl;have g2:=a.cell 2 rfl;have f0:=a.frozen 0;have f1:=a.frozen 1;have f2:=a.frozen 2))
  obtain⟨q1,q2⟩:=a.set3 (.bool s8) (.slice G l8.length N) (.slice H l9.length O);have hz:ZC (mk (a0f X b 2) w9) (.agg #[.bool s8,.slice G l8.length N]) q.num:=⟨s8,G,N,l8,rfl,U,V,a7⟩;have hd:NC (mk (a0f X b 2) w9) (.slice H l9.length O) (dn q):=⟨H,O,l9,rfl,Z,a0,a1⟩;have T:=QC.mono _ _ _ _ a0l (QC.mono _ _ _ _ (a0h q2 (by omega) (by omega)) (QC.of hz hd));have a4:Ext w _:=ExtX.box (a3.trans (g.trans v)) q2 (by omega);clear g0 g1 g2 f0 f1 f2 b8 b9 c3 hS;go_wp2_with fail
  exact bodyPost_ret (a0d rfl rfl a0p q1 rfl) rfl ⟨a4,_,rfl,T⟩
theorem a8H(X:Nat->Bool)(w:World)(u:Value)(q:Rat)(I:HX X w)(r:QC (mk X w) u q)(hq:hq q<=549755813888):Calls Tryz.prog 58 #[u] w (a2b X w ZC (q.den:Int)):=by
 obtain⟨s,ao,n,c,G,k,e,rfl⟩:=r.shape;obtain⟨W,O,A,E,t,hz⟩:=a1K w #[.bool s,.slice ao n c,.slice G k e] #[.bool false,.slice none 0 0] 47 45;have d:HX (a0f X w.heap.size 2) W:=I.boxes hz;have hd:=NC.mono _ _ _ _ (a0i (nb:=2) A) r.num.2.2;have j:=hd.len0;rw[a4d]at j;obtain⟨b,J⟩:=c1F w.heap.size;rw[J]at E t hz d hd;have C:=E.cell 2 rfl;have i:=hid (hd.nv (c1A (c1A (b2R q) hq) (by decide)));by_cases p:k=0
 ·have B:=hid (j.1 p)
  subst p;have f:Ext W (W.alloc (.cells #[.int .u32 ((1:Nat):Int)] 114)):=(ExtX.refl W).alloc _;have l:=NC.lit d 1 114 (by omega) (by omega);have a:=t.ext0 f;rw[show W.heap.size=b+2 by omega]at l;clear j hd i r;go_enter Tryz.func58,Tryz.ntmps58
  go_wp2_with ((with_reducible refine c1J ?_);refine a0a a0H rfl rfl a rfl rfl a3a ?_;intro L D o)
  have z:=NC.mono _ _ _ _ a0l (NC.mono _ _ _ _ (a0h o (by omega) (by omega)) l);exact bodyPost_ret (a0d rfl rfl a0H D rfl) rfl ⟨ExtX.box (A.trans f) o (by omega),_,rfl,by rw[B.out];exact NC.zc z⟩
 ·have B:Hid (dn q=q.den):=hid (by unfold dn;rw[if_neg (fun h=>p (j.2 h))])
  have N:((k:Int)==0)=false:=a2C (by omega);clear j p r hd;go_enter Tryz.func58,Tryz.ntmps58
  go_wp2_with fail
  refine(a4a d i.out).mono ?_;rintro M Q ⟨g,P,rfl,m⟩;rw[B.out]at m;obtain⟨F,H,K,rfl,v,x,y⟩:=m;have a:=t.ext0 g;clear C;go_wp2_with ((with_reducible refine c1J ?_);refine a0a a0H rfl rfl a rfl rfl a3a ?_;intro L D o)
  have z:=NC.mono _ _ _ _ a0l (NC.mono _ _ _ _ (a0h o (by omega) (by omega)) ⟨F,H,K,rfl,v,x,y⟩);exact bodyPost_ret (a0d rfl rfl a0H D rfl) rfl ⟨ExtX.box (A.trans g) o (by omega),_,rfl,NC.zc z⟩
theorem a0I{α:Type}(l:List α)(i:Nat)(h:i<l.length):l.take i++[l[i]]=l.take (i+1):=by
 rw[List.take_add_one,List.getElem?_eq_getElem h];rfl
theorem a0O{α:Type}{l:List α}{i:Nat}(h:i<=l.length):(l.take i).length=i:=by simp;omega
theorem c1K{P:Program}{ops:Array Oper}{Q:Exit->Act->World->Prop}{rest:List Oper}{a:Act}{w:World}{d:Option Tmp}{ty:TypeId}{ps:String}{af:Array Edge}{g}{t:TypeId}{x:Operand}(h:wpList P ops Q (⟨d,.load t x,ty,ps,af,g⟩::rest) a w):wpList P ops Q (⟨d,.load t x,ty,ps,af,g⟩::rest) a w:=h
theorem b1z(X:Nat->Bool)(w:World)(u:Value)(l:List Rat)(H:HX X w)(Q:RV (mk X w) u l)(Z:l.length<=1000000):Calls Tryz.prog 164 #[u] w (a2b X w RC l):=by
 obtain⟨ao,W,rfl,K,m⟩:=Q;have L:=m.hd;go_enter Tryz.func164,Tryz.ntmps164
 go_wp2_with fail
 go_loopw [3,4] (fun o c wr=>∃(i:Nat) (oo:Option Addr) (q:Nat),c=.int .i64 i/\o=.slice oo i q/\i<=l.length/\OL QC 3 X w.heap.size 47 wr oo q (l.take i)/\Ext w wr) (fun _ c _=>l.length - (intOf c).toNat)
 case atStart=>exact⟨0,none,0,rfl,rfl,Nat.zero_le _,OL.nil _ _ _ _ _ _,ExtX.refl _⟩
 case round=>
  obtain⟨i,oo,q,rfl,rfl,M,b,d⟩:=hrel;have h:HX X wr:=H.ext d;have v:HX (un X oo) wr:=b.unX h;have x:=d.size;by_cases k:i<l.length
  ·have A:Sl QV 3 (mk (un X oo) wr) ao l:=m.old QV.mono d (fun j N=>b.ob_lt N)
   have B:=hid (a0I l i k);have z:=hid (a0O M);go_wp2_with (first|(with_reducible refine a1w a0x ?_)|((with_reducible refine c1K ?_);refine a0z a0p i A k rfl (by simp) QV.agg ?_;intro u5 n;obtain⟨s5,U,n5,V,Y,k5,e5,rfl⟩:=n.shape))
   refine(a3M (un X oo) wr _ _ v n).mono ?_;rintro e w6 ⟨a,u6,rfl,p⟩;obtain⟨T,D,S,E,F,R,G,rfl⟩:=p.shape;have f:=b.ext0 QC.elem a;have I:=a.size;go_wp2_with (at_builtin;refine a0t (l:=l.take i) a0x rfl QC.elem (by omega) (h.ext a) i z.out rfl rfl f (.agg #[.bool T,.slice D S E,.slice F R G]) l[i] rfl p (by omega) (by omega) ?_;intro C r w7 g s O)
   have t:=(d.trans a).own f (c1B _) s;rw[B.out]at g;go_roundw
   case rel=>exact⟨i+1,C,r,by go_num,by go_num,by omega,g,t⟩
   case measure=>simp[intOf];omega
  ·have y:i=l.length:=by omega
   subst y;rw[List.take_length]at b;have J:=b.lenCap;have P:=b.sl QC.elem;go_wp2_with fail
   go_ret
   exact⟨d,_,rfl,oo,q,rfl,J,P⟩
theorem b0J(z k:Int)(b:0<k):((z:Rat)/(k:Rat)).num=z/(Nat.gcd z.natAbs k.natAbs:Nat)/\(((z:Rat)/(k:Rat)).den:Int)=k/(Nat.gcd z.natAbs k.natAbs:Nat):=by
 have h:=b6y z k b;have a:k.natAbs≠0:=by omega
 rw[<-h,Rat.num_mkRat,Rat.den_mkRat];rw[if_neg a,if_neg a,Nat.gcd_comm k.natAbs];refine⟨rfl,?_⟩;rw[Int.natCast_ediv]
 congr 1
 omega
theorem c1M{w v:World}{o}(y:ExtX (ob (some ⟨w.heap.size,0,none⟩)) (w.alloc o) v):Ext w v:=ExtX.box ((ExtX.refl w).alloc _) y (Nat.le_refl _)
theorem b0K(X:Nat->Bool)(w:World)(u v:Value)(x y:Int)(hX:HX X w)(hu:ZC (mk X w) u x)(hv:ZC (mk X w) v y)(hx:lg x.natAbs<=274877906944)(hy:lg y.natAbs<=274877906944)(g9:y≠0):Calls Tryz.prog 56 #[u,v] w (a2b X w QC ((x:Rat)/(y:Rat))):=by
 have i5:=hid hx;have i6:=hid hy;obtain⟨s1,a1,n1,c1,rfl⟩:=hu.shape;obtain⟨s2,a2,n2,c2,rfl⟩:=hv.shape;obtain⟨W,hW,hE,b0,b1,b2,hz⟩:=a2r w #[.bool s1,.slice a1 n1 c1] #[.bool s2,.slice a2 n2 c2] #[.bool false,.slice none 0 0,.slice none 0 0] 45 45 47;have f6:HX (a0f X w.heap.size 3) W:=hX.boxes hz;have g7:=ZC.mono _ _ _ _ (a0i (nb:=3) hE) hu;have g8:=ZC.mono _ _ _ _ (a0i (nb:=3) hE) hv;obtain⟨b,hb⟩:=c1F w.heap.size;have k7:w.heap.size<=b:=by omega
 rw[hb]at b0 b1 b2 hz f6 g7 g8;have i7:=g8.zv (c1A hy (by decide));have l8:=g7.zv (c1A hx (by decide));have s:=b0.cell 0 rfl;have t:=b0.cell 1 rfl;have A:=b1.cell 0 rfl;have B:=b1.cell 1 rfl;have h0:0<y\/y<0:=by omega
 obtain⟨q,d1⟩:∃q:Rat,(x:Rat)/(y:Rat)=q:=⟨_,rfl⟩;rw[d1];clear hu hv hx hy;go_enter Tryz.func56,Tryz.ntmps56
 go_wp2_with fail
 refine(b6t (a0f X b 3) W _ _ f6 i7).mono ?_;rintro e w5 ⟨p,rfl⟩;have f4:=b0.ext0 p;have f5:=b1.ext0 p;have h6:=b2.ext0 p;clear s t A B;rcases h0 with h0|h0
 ·have k4:decide (y.sign<0)=false:=by rw[Int.sign_eq_one_of_pos h0];rfl
  have hk:Hid (0<y):=hid h0;generalize y.sign=m7 at*;have d8:=mkx ZC.mono g7 p;have d6:=mkx ZC.mono g8 p;have b9:=f6.ext p;have a9:=hE.trans p;clear h0 g9;generalize l4:s1=sz at*;generalize k6:a1=az at*;generalize l2:n1=nz at*;generalize k9:c1=cz at*;generalize l3:s2=sk at*;generalize k5:a2=ak at*;generalize l1:n2=nk at*;generalize k8:c2=ck at*;generalize n0:w5=ws at*;generalize m0:x=z at*;generalize m3:y=k at*;have F:=f4;have G:=f5;have a8:=h6;have H:=i5;have l:=i6;have L:=hid d1;clear d1;have s:=F.cell 0 rfl;have t:=F.cell 1 rfl;have A:=G.cell 0 rfl;have B:=G.cell 1 rfl;have c4:=hid (Nat.gcd_pos_of_pos_right z.natAbs (show 0<k.natAbs by have:=hk.out;omega));have c7:=hid (show((Nat.gcd z.natAbs k.natAbs:Nat):Int)∣z from Int.ofNat_dvd_left.2 (Nat.gcd_dvd_left _ _));have c0:=hid (show((Nat.gcd z.natAbs k.natAbs:Nat):Int)∣k from Int.ofNat_dvd_left.2 (Nat.gcd_dvd_right _ _));have c3:=hid (show lg (Nat.gcd z.natAbs k.natAbs)<=274877906944 from c1A (a1l (Nat.gcd_le_right _ (by have:=hk.out;omega))) l.out);have j:=hid (b0J z k hk.out);obtain⟨g,hg⟩:=c1F (Nat.gcd z.natAbs k.natAbs);rw[hg]at c4 c7 c0 c3 j
  replace hg:=hid hg
  go_wp2_with fail
  refine(b9h (a0f X b 3) ws _ _ _ _ b9 (d8.zv (c1A H.out (by decide))) (d6.zv (c1A l.out (by decide))) H.out l.out).mono ?_;rintro e6 w6 ⟨n,ug,rfl,d2⟩;rw[hg.out]at d2;obtain⟨ag,cg,e2,rfl,g1,g2,g3⟩:=d2;have bg:=Bx.new w6 #[.bool false,.slice none 0 0] 45;have g4:=b9.ext n;clear s t A B;go_wp2_with ((with_reducible refine c1J ?_);refine a0a a0H rfl rfl bg rfl rfl a3a ?_;intro w7 r1 r2;have m:=c1M r2;have t7:=n.trans m;have s:=(F.ext0 t7).cell 0 rfl;have t:=(F.ext0 t7).cell 1 rfl;have Z:=r1.cell 0 rfl;have a0:=r1.cell 1 rfl)
  have b8:=(g4.ext m);have M:ZC (mk (a0f X b 3) w7) (.agg #[.bool false,.slice ag e2.length cg]) (g:Int):=NC.zc (NC.mono _ _ _ _ (a0k m) ⟨ag,cg,e2,rfl,g1,g2,g3⟩);have h3:=mkx ZC.mono d8 t7;have h:Hid (lg ((g:Int)).natAbs<=274877906944):=hid (by rw[Int.natAbs_natCast];exact c3.out);have K:Hid ((0:Int)<(g:Int)):=hid (by have:=c4.out;omega);refine(b4Q (a0f X b 3) w7 _ _ z g b8 (h3.zv (c1A H.out (by decide))) (M.zv (c1A h.out (by decide))) H.out h.out K.out c7.out).mono ?_;rintro e8 w8 ⟨I,up,sv,av,nv,cv,rfl,d3⟩;obtain⟨sp,ap,np,cp,rfl⟩:=d3.shape;obtain⟨W8,g0,b5,bp,br,m4⟩:=a1K w8 #[.bool false,.slice none 0 0] #[.bool false,.slice none 0 0] 45 45;subst g0;clear s t Z a0;go_wp2_with ((with_reducible refine c1J ?_);first|(refine a0a a0H rfl rfl bp rfl rfl a3a ?_;intro w9 p1 p2;have E:=br.ext p2 (a0b (by omega)))|(refine a0a a0H rfl rfl E rfl rfl a3a ?_;intro f2 p3 p4;have d:Ext w8 f2:=ExtX.box (ExtX.box b5 p2 (c1B _)) p4 (by omega);have C:=t7.trans (I.trans d);have A:=(G.ext0 C).cell 0 rfl;have B:=(G.ext0 C).cell 1 rfl;have e9:=r1.ext0 (I.trans d);have Z:=e9.cell 0 rfl;have a0:=e9.cell 1 rfl;have e3:=p1.ext p4 (a0b (by omega))))
  have r:=mkx ZC.mono d3 d;have b7:=(b8.ext I).ext d;have c8:=mkx ZC.mono d6 C;have T:=mkx ZC.mono (mkx ZC.mono M I) d;refine(b4Q (a0f X b 3) f2 _ _ k g b7 (c8.zv (c1A l.out (by decide))) (T.zv (c1A h.out (by decide))) l.out h.out K.out c0.out).mono ?_;rintro f8 D ⟨a,uq,m8,j2,m5,j3,rfl,d4⟩;obtain⟨sq,aq,nq,cq,rfl⟩:=d4.shape;obtain⟨j1,b6,N,bq,f7,i9⟩:=a1K D #[.bool false,.slice none 0 0] #[.bool false,.slice none 0 0] 45 45;subst b6;clear A B Z a0 E br;go_wp2_with ((with_reducible refine c1J ?_);first|(refine a0a a0H rfl rfl bq rfl rfl a3a ?_;intro m9 p5 p6;have E:=f7.ext p6 (a0b (by omega)))|(refine a0a a0H rfl rfl E rfl rfl a3a ?_;intro J p7 p8;have f:Ext D J:=ExtX.box (ExtX.box N p6 (c1B _)) p8 (by omega);have f0:=C.trans (a.trans f);have a3:=p5.ext p8 (a0b (by omega));have e1:=a3.cell 1 rfl;have f9:=a3.frozen 1;have e4:=e3.ext0 (a.trans f);have d9:=e4.cell 0 rfl;have e0:=e4.cell 1 rfl))
  have Y:=mkx ZC.mono d4 f;have U:=mkx ZC.mono (mkx ZC.mono r a) f;have d0:=Y.mag;have g5:Hid (lg (k/(g:Int)).natAbs<=1099511627776):=hid (by
   have h1:=j.out.2;have:(k/(g:Int)).natAbs<=k.natAbs:=by
    have:=Int.natAbs_ediv_le_natAbs k (g:Int);exact this
   exact c1A (a1l this) (c1A l.out (by decide)))
  have b3:=a8.ext0 f0;have P:=a9.trans f0;refine(b4Z _ _ _ _ d0 g5.out).mono ?_;rintro j5 c ⟨rfl,rfl⟩;have c9:Hid ((q.den:Int)=k/(g:Int)):=hid (by rw[<-L.out];exact j.out.2);have d7:Hid (q.num=z/(g:Int)):=hid (by rw[<-L.out];exact j.out.1);by_cases h1:(k/(g:Int)).natAbs=1
  ·have Q:Hid (dn q=0):=hid ((a4d q).2 (by have:=c9.out;have:=q.den_pos;omega))
   rw[decide_eq_true h1];clear h1;go_upto_region 8 with(fail)
   obtain⟨m1,m2⟩:=a0X a3 (.slice none 0 0) (i:=1) (by simp);obtain⟨c,d5⟩:=c1F (J.setCell ⟨D.heap.size,1,none⟩ (.slice none 0 0));rw[d5]at m1 m2 |-;have o:Ext D c:=ExtX.box f m2 (c1B _);have f1:=C.trans (a.trans o);have b4:=a8.ext0 f1;have e7:=e3.ext0 (a.trans o);clear d9 e0 e1 f9;have d9:c.cell? ⟨w8.heap.size,0,none⟩=some (.bool sp):=e7.cell 0 rfl;have e0:c.cell? ⟨w8.heap.size,1,none⟩=some (.slice ap np cp):=e7.cell 1 rfl;have e1:c.cell? ⟨D.heap.size,1,none⟩=some (.slice none 0 0):=m1.cell 1 rfl;have V:=mkx ZC.mono (mkx ZC.mono r a) o;go_wp2_with ((with_reducible refine c1J ?_);refine a0a a0p rfl rfl b4 rfl rfl a1s ?_;intro h4 r3 r4)
   have S:ZC (mk (a0f X b 3) c) (.agg #[.bool sp,.slice ap np cp]) q.num:=by rw[d7.out];exact V
   have R:NC (mk (a0f X b 3) c) (.slice none 0 0) (dn q):=by rw[Q.out];exact NC.zero _
   have h7:=QC.mono _ _ _ _ a0l (QC.mono _ _ _ _ (a0h r4 (by omega) (by omega)) (QC.of S R));exact bodyPost_ret (a0d rfl rfl a0p r3 rfl) rfl ⟨ExtX.box (a9.trans f1) r4 (by omega),_,rfl,h7⟩
  ·have Q:Hid (dn q=(k/(g:Int)).natAbs):=hid (by
    have h2:=c9.out;unfold dn;rw[if_neg (by omega)];omega)
   rw[decide_eq_false h1];clear h1;go_wp2_with ((with_reducible refine c1J ?_);refine a0a a0p rfl rfl b3 rfl rfl a1s ?_;intro h4 r3 r4)
   have S:ZC (mk (a0f X b 3) J) (.agg #[.bool sp,.slice ap np cp]) q.num:=by rw[d7.out];exact U
   have R:NC (mk (a0f X b 3) J) (.slice aq nq cq) (dn q):=by rw[Q.out];exact d0
   have h7:=QC.mono _ _ _ _ a0l (QC.mono _ _ _ _ (a0h r4 (by omega) (by omega)) (QC.of S R));exact bodyPost_ret (a0d rfl rfl a0p r3 rfl) rfl ⟨ExtX.box P r4 (by omega),_,rfl,h7⟩
 ·have k4:decide (y.sign<0)=true:=by rw[Int.sign_eq_neg_one_of_neg h0];rfl
  have l0:Hid (0< -y):=hid (by omega);generalize y.sign=m7 at*;have O:=c1L w5;have i4:HX (a0f X b 3) w5.drew:=HX.ext (HX.ext f6 p) O;have l7:ZV (mk (a0f X b 3) w5.drew) (.agg #[.bool s1,.slice a1 n1 c1]) x:=mkx ZV.mono l8 (p.trans O);have l9:ZV (mk (a0f X b 3) w5.drew) (.agg #[.bool s2,.slice a2 n2 c2]) y:=mkx ZV.mono i7 (p.trans O);have s:=f4.cell 0 rfl;have t:=f4.cell 1 rfl;have A:=f5.cell 0 rfl;have B:=f5.cell 1 rfl;have g6:Hid (((-x:Int):Rat)/((-y:Int):Rat)=q):=hid (by
   rw[<-d1,Rat.intCast_neg,Rat.intCast_neg];have:(y:Rat)≠0:=by exact_mod_cast g9
   grind)
  have H:Hid (lg (-x).natAbs<=274877906944):=hid (by rw[Int.natAbs_neg];exact i5.out);have l:Hid (lg (-y).natAbs<=274877906944):=hid (by rw[Int.natAbs_neg];exact i6.out);clear h0 g9 d1;go_upto_region 2 with(fail)
  go_region_with (first|(go_at_call 103;(with_reducible refine(b7v (a0f X b 3) w5.drew _ x i4 l7).mono ?_);rintro e w6 ⟨n,u6,rfl,s5,a5,c5,l5,rfl,h8,h9,i0⟩;have h5:=f4.ext0 (O.trans n);have f3:=f5.ext0 (O.trans n);have j4:=f3.cell 0 rfl;have f8:=f3.cell 1 rfl)|(go_at_call 103;(with_reducible refine(b7v (a0f X b 3) w6 _ y (HX.ext i4 n) (mkx ZV.mono l9 n)).mono ?_);rintro e w7 ⟨m,u7,rfl,s6,a6,c6,l6,rfl,i1,i2,i3⟩;have a4:=h5.ext0 m;have a7:=f3.ext0 m;have k0:=a4.cell 0 rfl;have k1:=a4.cell 1 rfl;have k2:=a7.cell 0 rfl;have k3:=a7.cell 1 rfl;have j6:=a4.frozen 0;have j7:=a4.frozen 1;have j8:=a7.frozen 0;have j9:=a7.frozen 1))
  all_goals
   obtain⟨ws,i8,F,G,m6,a9,q4⟩:=a2y (X:=X) (nb:=3) a4 a7 (hE.trans (p.trans ((O.trans n).trans m))) k7 (by omega) (.bool s5) (.slice a5 l5.length c5) (.bool s6) (.slice a6 l6.length c6);rw[i8];have d8:ZC (mk (a0f X b 3) ws) (.agg #[.bool s5,.slice a5 l5.length c5]) (-x):=⟨s5,a5,c5,l5,rfl,h8,h9,(i0.mono (a0c.mono _) (a0k m)).mono (a0c.mono _) q4⟩;have d6:ZC (mk (a0f X b 3) ws) (.agg #[.bool s6,.slice a6 l6.length c6]) (-y):=⟨s6,a6,c6,l6,rfl,i1,i2,i3.mono (a0c.mono _) q4⟩;have a8:=m6 (b+1+1) _ _ (by omega) (by omega) (((h6.ext0 O).ext0 n).ext0 m);have j0:w.heap.size+3<=ws.heap.size:=by have:=a8.lt;omega
   have b9:HX (a0f X b 3) ws:=hX.boxes' a9 (by have:=j0;omega) j0;clear j4 f8 k0 k1 k2 k3 j6 j7 j8 j9 s t A B i8 h5 f3 a4 a7 h8 h9 i0 i1 i2 i3;have L:=g6;have hk:=l0;generalize l4:s5=sz at*;generalize k6:a5=az at*;generalize l2:l5.length=nz at*;generalize k9:c5=cz at*;generalize l3:s6=sk at*;generalize k5:a6=ak at*;generalize l1:l6.length=nk at*;generalize k8:c6=ck at*;generalize m0: -x=z at*;generalize m3: -y=k at*;have s:=F.cell 0 rfl;have t:=F.cell 1 rfl;have A:=G.cell 0 rfl;have B:=G.cell 1 rfl;have c4:=hid (Nat.gcd_pos_of_pos_right z.natAbs (show 0<k.natAbs by have:=hk.out;omega));have c7:=hid (show((Nat.gcd z.natAbs k.natAbs:Nat):Int)∣z from Int.ofNat_dvd_left.2 (Nat.gcd_dvd_left _ _));have c0:=hid (show((Nat.gcd z.natAbs k.natAbs:Nat):Int)∣k from Int.ofNat_dvd_left.2 (Nat.gcd_dvd_right _ _));have c3:=hid (show lg (Nat.gcd z.natAbs k.natAbs)<=274877906944 from c1A (a1l (Nat.gcd_le_right _ (by have:=hk.out;omega))) l.out);have j:=hid (b0J z k hk.out);obtain⟨g,hg⟩:=c1F (Nat.gcd z.natAbs k.natAbs);rw[hg]at c4 c7 c0 c3 j
   replace hg:=hid hg
   go_wp2_with fail
   refine(b9h (a0f X b 3) ws _ _ _ _ b9 (d8.zv (c1A H.out (by decide))) (d6.zv (c1A l.out (by decide))) H.out l.out).mono ?_;rintro e6 w6 ⟨n,ug,rfl,d2⟩;rw[hg.out]at d2;obtain⟨ag,cg,e2,rfl,g1,g2,g3⟩:=d2;have bg:=Bx.new w6 #[.bool false,.slice none 0 0] 45;have g4:=b9.ext n;clear s t A B;go_wp2_with ((with_reducible refine c1J ?_);refine a0a a0H rfl rfl bg rfl rfl a3a ?_;intro w7 r1 r2;have m:=c1M r2;have t7:=n.trans m;have s:=(F.ext0 t7).cell 0 rfl;have t:=(F.ext0 t7).cell 1 rfl;have Z:=r1.cell 0 rfl;have a0:=r1.cell 1 rfl)
   have b8:=(g4.ext m);have M:ZC (mk (a0f X b 3) w7) (.agg #[.bool false,.slice ag e2.length cg]) (g:Int):=NC.zc (NC.mono _ _ _ _ (a0k m) ⟨ag,cg,e2,rfl,g1,g2,g3⟩);have h3:=mkx ZC.mono d8 t7;have h:Hid (lg ((g:Int)).natAbs<=274877906944):=hid (by rw[Int.natAbs_natCast];exact c3.out);have K:Hid ((0:Int)<(g:Int)):=hid (by have:=c4.out;omega);refine(b4Q (a0f X b 3) w7 _ _ z g b8 (h3.zv (c1A H.out (by decide))) (M.zv (c1A h.out (by decide))) H.out h.out K.out c7.out).mono ?_;rintro e8 w8 ⟨I,up,sv,av,nv,cv,rfl,d3⟩;obtain⟨sp,ap,np,cp,rfl⟩:=d3.shape;obtain⟨W8,g0,b5,bp,br,m4⟩:=a1K w8 #[.bool false,.slice none 0 0] #[.bool false,.slice none 0 0] 45 45;subst g0;clear s t Z a0;go_wp2_with ((with_reducible refine c1J ?_);first|(refine a0a a0H rfl rfl bp rfl rfl a3a ?_;intro w9 p1 p2;have E:=br.ext p2 (a0b (by omega)))|(refine a0a a0H rfl rfl E rfl rfl a3a ?_;intro f2 p3 p4;have d:Ext w8 f2:=ExtX.box (ExtX.box b5 p2 (c1B _)) p4 (by omega);have C:=t7.trans (I.trans d);have A:=(G.ext0 C).cell 0 rfl;have B:=(G.ext0 C).cell 1 rfl;have e9:=r1.ext0 (I.trans d);have Z:=e9.cell 0 rfl;have a0:=e9.cell 1 rfl;have e3:=p1.ext p4 (a0b (by omega))))
   have r:=mkx ZC.mono d3 d;have b7:=(b8.ext I).ext d;have c8:=mkx ZC.mono d6 C;have T:=mkx ZC.mono (mkx ZC.mono M I) d;refine(b4Q (a0f X b 3) f2 _ _ k g b7 (c8.zv (c1A l.out (by decide))) (T.zv (c1A h.out (by decide))) l.out h.out K.out c0.out).mono ?_;rintro f8 D ⟨a,uq,m8,j2,m5,j3,rfl,d4⟩;obtain⟨sq,aq,nq,cq,rfl⟩:=d4.shape;obtain⟨j1,b6,N,bq,f7,i9⟩:=a1K D #[.bool false,.slice none 0 0] #[.bool false,.slice none 0 0] 45 45;subst b6;clear A B Z a0 E br;go_wp2_with ((with_reducible refine c1J ?_);first|(refine a0a a0H rfl rfl bq rfl rfl a3a ?_;intro m9 p5 p6;have E:=f7.ext p6 (a0b (by omega)))|(refine a0a a0H rfl rfl E rfl rfl a3a ?_;intro J p7 p8;have f:Ext D J:=ExtX.box (ExtX.box N p6 (c1B _)) p8 (by omega);have f0:=C.trans (a.trans f);have a3:=p5.ext p8 (a0b (by omega));have e1:=a3.cell 1 rfl;have f9:=a3.frozen 1;have e4:=e3.ext0 (a.trans f);have d9:=e4.cell 0 rfl;have e0:=e4.cell 1 rfl))
   have Y:=mkx ZC.mono d4 f;have U:=mkx ZC.mono (mkx ZC.mono r a) f;have d0:=Y.mag;have g5:Hid (lg (k/(g:Int)).natAbs<=1099511627776):=hid (by
    have h1:=j.out.2;have:(k/(g:Int)).natAbs<=k.natAbs:=by
     have:=Int.natAbs_ediv_le_natAbs k (g:Int);exact this
    exact c1A (a1l this) (c1A l.out (by decide)))
   have b3:=a8.ext0 f0;have P:=a9.trans f0;refine(b4Z _ _ _ _ d0 g5.out).mono ?_;rintro j5 c ⟨rfl,rfl⟩;have c9:Hid ((q.den:Int)=k/(g:Int)):=hid (by rw[<-L.out];exact j.out.2);have d7:Hid (q.num=z/(g:Int)):=hid (by rw[<-L.out];exact j.out.1);by_cases h1:(k/(g:Int)).natAbs=1
   ·have Q:Hid (dn q=0):=hid ((a4d q).2 (by have:=c9.out;have:=q.den_pos;omega))
    rw[decide_eq_true h1];clear h1;go_upto_region 8 with(fail)
    obtain⟨m1,m2⟩:=a0X a3 (.slice none 0 0) (i:=1) (by simp);obtain⟨c,d5⟩:=c1F (J.setCell ⟨D.heap.size,1,none⟩ (.slice none 0 0));rw[d5]at m1 m2 |-;have o:Ext D c:=ExtX.box f m2 (c1B _);have f1:=C.trans (a.trans o);have b4:=a8.ext0 f1;have e7:=e3.ext0 (a.trans o);clear d9 e0 e1 f9;have d9:c.cell? ⟨w8.heap.size,0,none⟩=some (.bool sp):=e7.cell 0 rfl;have e0:c.cell? ⟨w8.heap.size,1,none⟩=some (.slice ap np cp):=e7.cell 1 rfl;have e1:c.cell? ⟨D.heap.size,1,none⟩=some (.slice none 0 0):=m1.cell 1 rfl;have V:=mkx ZC.mono (mkx ZC.mono r a) o;go_wp2_with ((with_reducible refine c1J ?_);refine a0a a0p rfl rfl b4 rfl rfl a1s ?_;intro h4 r3 r4)
    have S:ZC (mk (a0f X b 3) c) (.agg #[.bool sp,.slice ap np cp]) q.num:=by rw[d7.out];exact V
    have R:NC (mk (a0f X b 3) c) (.slice none 0 0) (dn q):=by rw[Q.out];exact NC.zero _
    have h7:=QC.mono _ _ _ _ a0l (QC.mono _ _ _ _ (a0h r4 (by omega) (by omega)) (QC.of S R));exact bodyPost_ret (a0d rfl rfl a0p r3 rfl) rfl ⟨ExtX.box (a9.trans f1) r4 (by omega),_,rfl,h7⟩
   ·have Q:Hid (dn q=(k/(g:Int)).natAbs):=hid (by
     have h2:=c9.out;unfold dn;rw[if_neg (by omega)];omega)
    rw[decide_eq_false h1];clear h1;go_wp2_with ((with_reducible refine c1J ?_);refine a0a a0p rfl rfl b3 rfl rfl a1s ?_;intro h4 r3 r4)
    have S:ZC (mk (a0f X b 3) J) (.agg #[.bool sp,.slice ap np cp]) q.num:=by rw[d7.out];exact U
    have R:NC (mk (a0f X b 3) J) (.slice aq nq cq) (dn q):=by rw[Q.out];exact d0
    have h7:=QC.mono _ _ _ _ a0l (QC.mono _ _ _ _ (a0h r4 (by omega) (by omega)) (QC.of S R));exact bodyPost_ret (a0d rfl rfl a0p r3 rfl) rfl ⟨ExtX.box P r4 (by omega),_,rfl,h7⟩
theorem a3n(X:Nat->Bool)(w:World)(v:Int)(s:HX X w)(l: -9223372036854775808<=v)(m:v<=9223372036854775807):Calls Tryz.prog 21 #[.int .i64 v] w (a2b X w QC v):=by
 obtain⟨W,B,r,k,hz⟩:=a0Y w #[.bool false,.slice none 0 0,.slice none 0 0] 47;have c:HX (a0f X w.heap.size 1) W:=s.boxes hz;obtain⟨b,t⟩:=c1F w.heap.size;have u:w.heap.size<=b:=by omega
 rw[t]at k hz c;have e:=hid l;have f:=hid m;clear l m;go_enter Tryz.func21,Tryz.ntmps21
 go_wp2_with fail
 refine(b2Q (a0f X b 1) W v c e.out f.out).mono ?_;rintro A D ⟨a,C,rfl,z,o,p,x,rfl,g,h,i⟩;have d:=k.ext0 a;have j:=a7b.ofInt h;go_wp2_with ((with_reducible refine c1J ?_);refine a0a a0p rfl rfl d rfl rfl a1s ?_;intro E y n)
 have q:=(i.mono (a0c.mono _) (a0h n (by omega) (by omega))).mono (a0c.mono _) a0l;exact bodyPost_ret (a0d rfl rfl a0p y rfl) rfl ⟨ExtX.box (r.trans a) n (by omega),_,rfl,z,o,p,x,none,0,[],rfl,g,c1B _,j,q,Sl.nil _ _ _ _⟩
theorem a6B(X:Nat->Bool)(w:World)(u:Value)(x:Rat)(t:HX X w)(f:QV (mk X w) u x):Calls Tryz.prog 38 #[u] w (a4A w x.num.sign):=by
 have i:=hid f.hq;obtain⟨B,o,A,p,q,z,r,rfl⟩:=f.shape;obtain⟨W,G,g,e,hz⟩:=a0Y w #[.bool B,.slice o A p,.slice q z r] 47;have c:HX X W:=t.ext g;have j:=mkx QV.mono f g;obtain⟨b,v⟩:=c1F w.heap.size;rw[v]at e hz;have l:=e.cell 0 rfl;have m:=e.cell 1 rfl;have n:=e.cell 2 rfl;have y:=a5X;clear f;go_enter Tryz.func38,Tryz.ntmps38
 go_wp2_with fail
 refine(a3M X W _ x c j).mono ?_;rintro s C ⟨a,K,rfl,d⟩;obtain⟨J,D,I,E,F,H,e5,rfl⟩:=d.shape;have k:=d.num.1.zv (c1A (c1A (a0G x) i.out) (by omega));clear l m n;go_wp2_with fail
 refine(b6t X C _ _ (c.ext a) k).mono ?_;rintro s L ⟨h,rfl⟩;go_wp2_with fail
 go_ret
 exact⟨g.trans (a.trans h),rfl⟩
theorem b7D(X:Nat->Bool)(w:World)(u:Value)(x:Rat)(hX:HX X w)(z:QV (mk X w) u x):Calls Tryz.prog 84 #[u] w (a2b X w QC (-x)):=by
 have p:=hid z.hq;obtain⟨s1,a1,n1,c1,d1,k1,e1,rfl⟩:=z.shape;obtain⟨W,hW,hE,n,b1,hz⟩:=a1K w #[.bool s1,.slice a1 n1 c1,.slice d1 k1 e1] #[.bool false,.slice none 0 0,.slice none 0 0] 47 47;have i:HX (a0f X w.heap.size 2) W:=hX.boxes hz;have r:=QV.mono _ _ _ _ (a0i (nb:=2) hE) z;obtain⟨b,hb⟩:=c1F w.heap.size;have a2:w.heap.size<=b:=by omega
 rw[hb]at n b1 hz i r;have j:=n.cell 0 rfl;have k:=n.cell 1 rfl;have l:=n.cell 2 rfl;clear z;go_enter Tryz.func84,Tryz.ntmps84
 go_wp2_with fail
 refine(a3M (a0f X b 2) W _ x i r).mono ?_;rintro e w5 ⟨d,u5,rfl,q⟩;obtain⟨s5,B,Z,H,o,y,e5,rfl⟩:=q.shape;have P:=i.ext d;have D:=n.ext0 d;have E:=b1.ext0 d;clear j k l;go_upto_region 2 with((with_reducible refine c1J ?_);refine a0a a0p rfl rfl D rfl rfl a1s ?_;intro g f A;have j:=f.cell 0 rfl;have k:=f.cell 1 rfl;have l:=f.cell 2 rfl)
 have Q:=P.ext A;have F:=E.ext A (a0b (by omega));have T:=QC.mono _ _ _ _ (a0h (X:=X) (lo:=b) (nb:=2) A (by omega) (by omega)) q;have M:Ext w g:=ExtX.box (hE.trans d) A (by omega);obtain⟨V,a3,t⟩:=T.num;have c:=c1L g;have R:HX (a0f X b 2) g.drew:=Q;have v:ZC (mk (a0f X b 2) g.drew) (.agg #[.bool s5,.slice B Z H]) x.num:=V;have s:NC (mk (a0f X b 2) g.drew) (.slice o y e5) (dn x):=t;have G:lg x.num.natAbs<=549755813888:=c1A (c1A (a0G x) p.out) (by omega);have a0:lg (dn x)<=549755813888:=c1A (c1A (b2R x) p.out) (by omega);have U:=v.zv G;have O:Hid (∀W',Ext g.drew W'->W'.cell? ⟨b,0,none⟩=some (.bool s5)/\W'.cell? ⟨b,1,none⟩=some (.slice B Z H)/\W'.cell? ⟨b,2,none⟩=some (.slice o y e5)):=
  hid fun W' h=>⟨(f.ext0 (c.trans h)).cell 0 rfl,(f.ext0 (c.trans h)).cell 1 rfl,(f.ext0 (c.trans h)).cell 2 rfl⟩
 go_region_held3 (fun w'=>w'.cell? ⟨b,0,none⟩=some (.bool s5)/\w'.cell? ⟨b,1,none⟩=some (.slice B Z H)/\w'.cell? ⟨b,2,none⟩=some (.slice o y e5))
  (first|exact O.out _ t1|exact O.out _ m|exact⟨((f.ext0 (c.trans m)).ext (a.set3 _ _ _).2 (a0b (by omega))).cell 0 rfl,((f.ext0 (c.trans m)).ext (a.set3 _ _ _).2 (a0b (by omega))).cell 1 rfl,((f.ext0 (c.trans m)).ext (a.set3 _ _ _).2 (a0b (by omega))).cell 2 rfl⟩|go_keep)
  (first|(go_at_call 103;(with_reducible refine(b7v (a0f X b 2) g.drew _ _ R U).mono ?_);rintro ee w8 ⟨t1,u8,rfl,s8,C,I,Y,rfl,J,K,L⟩;have m:=t1;have S:=mkx NC.mono s t1;have a:=F.ext0 (c.trans m);have g0:=a.cell 0 rfl;have g1:=a.cell 1 rfl;have g2:=a.cell 2 rfl;have f0:=a.frozen 0;have f1:=a.frozen 1;have f2:=a.frozen 2))
 obtain⟨q1,q2⟩:=a.set3 (.bool s8) (.slice C Y.length I) (.slice o y e5);have hz:ZC (mk (a0f X b 2) w8) (.agg #[.bool s8,.slice C Y.length I]) (-x).num:=⟨s8,C,I,Y,rfl,J,by rw[Rat.neg_num];exact K,L⟩;have hd:NC (mk (a0f X b 2) w8) (.slice o y e5) (dn (-x)):=by rw[b6x];exact S
 have h7:=QC.mono _ _ _ _ a0l (QC.mono _ _ _ _ (a0h q2 (by omega) (by omega)) (QC.of hz hd));have N:Ext w _:=ExtX.box (M.trans (c.trans m)) q2 (by omega);clear g0 g1 g2 f0 f1 f2 j k l O;go_wp2_with fail
 exact bodyPost_ret (a0d rfl rfl a0p q1 rfl) rfl ⟨N,_,rfl,h7⟩
end Go.Proofs.YtjmnhbebpffoaaaGreat
