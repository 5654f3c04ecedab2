/- Parts of a proof: each theorem states what it proves, and its conditions. -/
import Derived.Test.YtnnpfhoigmegcaaGreatItE
set_option maxRecDepth 100000
set_option maxHeartbeats 1600000
namespace Go.Proofs.YtnnpfhoigmegcaaGreat
open Go.RowKit Go.Rep Go.Lim
theorem b2R(X:Nat->Bool)(w:World)(u v:Value)(x y:Rat)(hX:HX X w)(hu:QV (mk X w) u x)(hv:QV (mk X w) v y):Calls Tryz.prog 182 #[u,v] w (a1S X w QC (x+y)):=by
 have s:=hid hu.hq;have t:=hid hv.hq;obtain⟨s1,a1,n1,c1,d1,k1,e1,rfl⟩:=hu.shape;obtain⟨s2,a2,n2,c2,d2,k2,e2,rfl⟩:=hv.shape;obtain⟨W,hW,hE,p,q,b2,hz⟩:=a2p w #[.bool s1,.slice a1 n1 c1,.slice d1 k1 e1] #[.bool s2,.slice a2 n2 c2,.slice d2 k2 e2] #[.bool false,.slice none 0 0,.slice none 0 0] 41 41 41;have i3:HX (a0f X w.heap.size 3) W:=hX.boxes hz;have e9:=QV.mono _ _ _ _ (a0j (nb:=3) hE) hu;have f8:=QV.mono _ _ _ _ (a0j (nb:=3) hE) hv;obtain⟨b,hb⟩:∃b,w.heap.size=b:=⟨_,rfl⟩;have m6:w.heap.size<=b:=by omega
 rw[hb]at p q b2 hz i3 e9 f8;have c:Ext W W.drew:=(ExtX.refl W).drew;have d:HX (a0f X b 3) W.drew:=i3;have i9:QV (mk (a0f X b 3) W.drew) (.agg #[.bool s1,.slice a1 n1 c1,.slice d1 k1 e1]) x:=e9;have j0:QV (mk (a0f X b 3) W.drew) (.agg #[.bool s2,.slice a2 n2 c2,.slice d2 k2 e2]) y:=f8;have z:=p.cell 0 rfl;have A:=p.cell 1 rfl;have B:=p.cell 2 rfl;have C:=q.cell 0 rfl;have D:=q.cell 1 rfl;have E:=q.cell 2 rfl;clear hu hv;go_enter Tryz.func182,Tryz.ntmps182
 go_upto_region 1 with(fail)
 go_cut []from 5 to 8 (fun wx=>∃s3 a3 n3 c3 d3 U e3 s4 a4 n4 c4 d4 V e4,Bx wx b #[.bool s3,.slice a3 n3 c3,.slice d3 U e3] 41/\Bx wx (b+1) #[.bool s4,.slice a4 n4 c4,.slice d4 V e4] 41/\Bx wx (b+1+1) #[.bool false,.slice none 0 0,.slice none 0 0] 41/\QC (mk (a0f X b 3) wx) (.agg #[.bool s3,.slice a3 n3 c3,.slice d3 U e3]) x/\QC (mk (a0f X b 3) wx) (.agg #[.bool s4,.slice a4 n4 c4,.slice d4 V e4]) y/\Ext w wx)
 case first=>
  go_region_with (first|(go_at_call 207;(with_reducible refine(a4w (a0f X b 3) W.drew _ x d i9).mono ?_);rintro f w5 ⟨i,u5,rfl,i6⟩;obtain⟨s5,a5,n5,c5,d5,k5,e5,rfl⟩:=i6.shape;have Y:=p.ext0 (c.trans i);have Z:=q.ext0 (c.trans i);have j8:=Y.cell 0 rfl;have j9:=Y.cell 1 rfl;have k0:=Y.cell 2 rfl;have k7:=Z.cell 0 rfl;have k8:=Z.cell 1 rfl;have k9:=Z.cell 2 rfl)|(go_at_call 207;(with_reducible refine(a4w (a0f X b 3) w5 _ y (HX.ext d i) (mkx QV.mono j0 i)).mono ?_);rintro f w6 ⟨j,u6,rfl,i7⟩;obtain⟨s6,a6,n6,c6,d6,k6,e6,rfl⟩:=i7.shape;have a:=Y.ext0 j;have o:=Z.ext0 j;have l7:=a.cell 0 rfl;have l8:=a.cell 1 rfl;have l9:=a.cell 2 rfl;have m0:=o.cell 0 rfl;have m1:=o.cell 1 rfl;have m2:=o.cell 2 rfl;have l0:=a.frozen 0;have l1:=a.frozen 1;have l4:=a.frozen 2;have l2:=o.frozen 0;have l3:=o.frozen 1;have l5:=o.frozen 2))
  all_goals
   obtain⟨wf,j1,q0,q1,q2,q3,q4⟩:=a2j (X:=X) (nb:=3) a o (hE.trans ((c.trans i).trans j)) m6 (by omega) (.bool s5) (.slice a5 n5 c5) (.slice d5 k5 e5) (.bool s6) (.slice a6 n6 c6) (.slice d6 k6 e6);rw[j1];have m9:QC (mk (a0f X b 3) wf) (.agg #[.bool s5,.slice a5 n5 c5,.slice d5 k5 e5]) x:=QC.mono _ _ _ _ q4 (mkx QC.mono i6 j);have n0:QC (mk (a0f X b 3) wf) (.agg #[.bool s6,.slice a6 n6 c6,.slice d6 k6 e6]) y:=QC.mono _ _ _ _ q4 i7;have q5:=q2 (b+1+1) _ _ (by omega) (by omega) ((b2.ext0 (c.trans i)).ext0 j);clear j8 j9 k0 k7 k8 k9 l7 l8 l9 m0 m1 m2 l0 l1 l2 l3 l4 l5 z A B C D E j1;go_wp2_with fail
   go_meet
   exact⟨_,_,_,_,_,_,_,_,_,_,_,_,_,_,q0,q1,q5,m9,n0,q3⟩
 case rest=>
  clear z A B C D E p q b2 e9 f8 i9 j0 d c hW;obtain⟨s3,a3,n3,c3,d3,U,e3,s4,a4,n4,c4,d4,V,e4,p,q,b2,hx,hy,a8⟩:=hcut;have j6:w.heap.size+3<=wc.heap.size:=by have:=b2.lt;omega
  obtain⟨j3,o5,j2⟩:=hx.num;obtain⟨j5,o6,j4⟩:=hy.num;have i4:HX (a0f X b 3) wc:=hX.boxes' a8 (by have:=j6;omega) j6;have z:=p.cell 0 rfl;have A:=p.cell 1 rfl;have B:=p.cell 2 rfl;have C:=q.cell 0 rfl;have D:=q.cell 1 rfl;have E:=q.cell 2 rfl;have c:Ext wc wc.drew:=(ExtX.refl wc).drew;have d:HX (a0f X b 3) wc.drew:=i4;have a9:QC (mk (a0f X b 3) wc.drew) (.agg #[.bool s3,.slice a3 n3 c3,.slice d3 U e3]) x:=hx;have b3:QC (mk (a0f X b 3) wc.drew) (.agg #[.bool s4,.slice a4 n4 c4,.slice d4 V e4]) y:=hy;have b6:ZC (mk (a0f X b 3) wc.drew) (.agg #[.bool s3,.slice a3 n3 c3]) x.num:=j3;have b7:ZC (mk (a0f X b 3) wc.drew) (.agg #[.bool s4,.slice a4 n4 c4]) y.num:=j5;have b9:lg x.num.natAbs<=549755813888:=c1A (c1A (a0C x) s.out) (by omega);have c0:lg y.num.natAbs<=549755813888:=c1A (c1A (a0C y) t.out) (by omega);have a0:lg x.den<=549755813888:=c1A (c1A (a0E x) s.out) (by omega);have a7:lg y.den<=549755813888:=c1A (c1A (a0E y) t.out) (by omega);have i1:lg (x.num*(y.den:Int)).natAbs<=274877906944:=by rw[Int.natAbs_mul,Int.natAbs_natCast];have:=a0Z x.num.natAbs y.den;have:=a0C x;have:=a0E y;have:=s.out;have:=t.out;omega
  have i2:lg (y.num*(x.den:Int)).natAbs<=274877906944:=by rw[Int.natAbs_mul,Int.natAbs_natCast];have:=a0Z y.num.natAbs x.den;have:=a0C y;have:=a0E x;have:=s.out;have:=t.out;omega
  have i0:lg (x.den*y.den)<=274877906944:=by have:=a0Z x.den y.den;have:=a0E x;have:=a0E y;have:=s.out;have:=t.out;omega
  have o3:lg (x.num*y.num).natAbs<=274877906944:=by rw[Int.natAbs_mul];have:=a0Z x.num.natAbs y.num.natAbs;have:=a0C x;have:=a0C y;have:=s.out;have:=t.out;omega
  have h9:0<x.den*y.den:=Nat.mul_pos x.den_pos y.den_pos;have r:=hid (And.intro p q);have g:Hid (∀W',Ext wc.drew W'->W'.cell? ⟨b,0,none⟩=some (.bool s3)/\W'.cell? ⟨b,1,none⟩=some (.slice a3 n3 c3)/\W'.cell? ⟨b,2,none⟩=some (.slice d3 U e3)/\W'.cell? ⟨b+1,0,none⟩=some (.bool s4)/\W'.cell? ⟨b+1,1,none⟩=some (.slice a4 n4 c4)/\W'.cell? ⟨b+1,2,none⟩=some (.slice d4 V e4)):=
   hid fun W' h=>⟨(p.ext0 (c.trans h)).cell 0 rfl,(p.ext0 (c.trans h)).cell 1 rfl,(p.ext0 (c.trans h)).cell 2 rfl,(q.ext0 (c.trans h)).cell 0 rfl,(q.ext0 (c.trans h)).cell 1 rfl,(q.ext0 (c.trans h)).cell 2 rfl⟩
  have M:=j2.len0;have N:=j4.len0;rw[a3Y]at M N;have b4:lg (x.num*(y.den:Int)+y.num*(x.den:Int)).natAbs<=549755813888:=by
   have h1:=a1j (Int.natAbs_add_le (x.num*(y.den:Int)) (y.num*(x.den:Int)));have h2:=b0p (x.num*(y.den:Int)).natAbs (y.num*(x.den:Int)).natAbs;omega
  have b5:Hid (mkRat (x.num*(y.den:Int)+y.num*(x.den:Int)) (x.den*y.den)=x+y):=hid (Rat.add_def' x y).symm;by_cases hk:U=0/\V=0
  ·have m7:=hid (M.1 hk.1)
   have m8:=hid (N.1 hk.2);obtain⟨rfl,rfl⟩:=hk;have i8:Hid (((x.num+y.num:Int):Rat)=x+y):=hid (by
    rw[Rat.intCast_add]
    conv=>rhs;rw[<-Rat.mkRat_self x,<-Rat.mkRat_self y]
    rw[m7.out,m8.out,<-Rat.mk_den_one,<-Rat.mk_den_one,Rat.mk_eq_mkRat,Rat.mk_eq_mkRat])
   clear M N;go_wp2_with fail
   refine(b9c (a0f X b 3) wc _ _ _ _ i4 (j3.zv b9) (j5.zv c0)).mono ?_;rintro f w5 ⟨i,u5,rfl,s6,a6,c6,l6,rfl,m3,m4,m5⟩;have j7:=b2.ext0 i;have i5:=a6Q.ofInt m4;rw[i8.out]at i5;clear z A B C D E;go_wp2_with ((with_reducible show wpList _ _ _ (⟨_,.store _ _ _,_,_,_,_⟩::_) _ _);refine a0a a0p rfl rfl j7 rfl rfl (a1z _ _ _ _ _ _ _) ?_;intro w7 r1 r2)
   have h7:=(m5.mono (a0c.mono _) (a0h r2 (by omega) (by omega))).mono (a0c.mono _) a0k;exact bodyPost_ret (a0e rfl rfl a0p r1 rfl) rfl ⟨ExtX.box (a8.trans i) r2 (by omega),_,rfl,s6,a6,c6,l6,none,0,[],rfl,m3,c1B _,i5,h7,Sl.nil _ _ _ _⟩
  ·have o4:Hid (¬(U=0/\V=0)):=hid hk
   rcases(by omega:¬U=0\/(U=0/\¬V=0))with h3|⟨h3,h4⟩
   ·have hI:((U:Int)==0)=false:=a2J (by omega)
    clear hk M N h3;go_wp2_with fail
    go_region_held3 (fun F=>F.cell? ⟨b,0,none⟩=some (.bool s3)/\F.cell? ⟨b,1,none⟩=some (.slice a3 n3 c3)/\F.cell? ⟨b,2,none⟩=some (.slice d3 U e3)/\F.cell? ⟨b+1,0,none⟩=some (.bool s4)/\F.cell? ⟨b+1,1,none⟩=some (.slice a4 n4 c4)/\F.cell? ⟨b+1,2,none⟩=some (.slice d4 V e4))
     (first|exact g.out _ t1|exact g.out _ t2|exact g.out _ t3|exact g.out _ t4|exact g.out _ t5|exact g.out _ t6|exact g.out _ t7|exact g.out _ t8|exact g.out _ k|exact⟨((r.out.1.ext0 (c.trans k)).ext (a.set3 _ _ _).2 (a0b (by omega))).cell 0 rfl,((r.out.1.ext0 (c.trans k)).ext (a.set3 _ _ _).2 (a0b (by omega))).cell 1 rfl,((r.out.1.ext0 (c.trans k)).ext (a.set3 _ _ _).2 (a0b (by omega))).cell 2 rfl,((r.out.2.ext0 (c.trans k)).ext (a.set3 _ _ _).2 (a0b (by omega))).cell 0 rfl,((r.out.2.ext0 (c.trans k)).ext (a.set3 _ _ _).2 (a0b (by omega))).cell 1 rfl,((r.out.2.ext0 (c.trans k)).ext (a.set3 _ _ _).2 (a0b (by omega))).cell 2 rfl⟩|go_keep)
     (first|(go_at_call 235;(with_reducible refine(a9h (a0f X b 3) wc.drew _ y d b3).mono ?_);rintro f w5 ⟨t1,u5,rfl,f3⟩;have d8:=HX.ext d t1;have f9:=mkx ZC.mono b6 t1)|(go_at_call 260;(with_reducible refine(a5R (a0f X b 3) w5 _ _ x.num y.den d8 f9 f3 b9 a7).mono ?_);rintro f w6 ⟨j,u6,rfl,f4⟩;have t2:=t1.trans j;have d9:=HX.ext d t2;have g3:=mkx QC.mono a9 t2)|(go_at_call 235;(with_reducible refine(a9h (a0f X b 3) w6 _ x d9 g3).mono ?_);rintro f w7 ⟨H,u7,rfl,f5⟩;have t3:=t2.trans H;have e0:=HX.ext d t3;have g5:=mkx ZC.mono b7 t3)|(go_at_call 260;(with_reducible refine(a5R (a0f X b 3) w7 _ _ y.num x.den e0 g5 f5 c0 a0).mono ?_);rintro f w8 ⟨I,u8,rfl,f6⟩;have t4:=t3.trans I;have e7:=HX.ext d t4;have g6:=(mkx ZC.mono f4 (H.trans I)).zv (c1A i1 (by decide));have g7:=f6.zv (c1A i2 (by decide)))|(go_at_call 264;(with_reducible refine(b9c (a0f X b 3) w8 _ _ _ _ e7 g6 g7).mono ?_);rintro f w9 ⟨d0,u9,rfl,f7⟩;have t5:=t4.trans d0;have e8:=HX.ext d t5;have g4:=mkx QC.mono a9 t5)|(go_at_call 235;(with_reducible refine(a9h (a0f X b 3) w9 _ x e8 g4).mono ?_);rintro f h6 ⟨l,n7,rfl,Q⟩;have t6:=t5.trans l;have J:=HX.ext d t6;have T:=mkx QC.mono b3 t6)|(go_at_call 235;(with_reducible refine(a9h (a0f X b 3) h6 _ y J T).mono ?_);rintro f o1 ⟨e,n8,rfl,R⟩;have t7:=t6.trans e;have K:=HX.ext d t7;have O:=(mkx NC.mono Q e).nv (c1A a0 (by decide));have P:=R.nv (c1A a7 (by decide)))|(go_at_call 234;(with_reducible refine(b6k K O P).mono ?_);rintro f h8 ⟨m,n9,rfl,S⟩;have t8:=t7.trans m;have L:=HX.ext d t8;have g8:=mkx ZC.mono f7 (l.trans (e.trans m)))|(go_at_call 233;(with_reducible refine(a5w (a0f X b 3) h8 _ _ _ _ L g8 S b4 (c1A i0 (by decide)) h9).mono ?_);rintro f o2 ⟨G,o0,rfl,n⟩;obtain⟨h5,b8,h0,c7,c8,g9,c9,rfl⟩:=n.shape;have k:=t8.trans G;have a:=b2.ext0 (c.trans k);have g0:=a.cell 0 rfl;have g1:=a.cell 1 rfl;have g2:=a.cell 2 rfl;have f0:=a.frozen 0;have f1:=a.frozen 1;have f2:=a.frozen 2))
    obtain⟨r1,r2⟩:=a.set3 (.bool h5) (.slice b8 h0 c7) (.slice c8 g9 c9);have h7:=QC.mono _ _ _ _ a0k (QC.mono _ _ _ _ (a0h r2 (by omega) (by omega)) n);rw[b5.out]at h7;have d7:Ext w _:=ExtX.box (a8.trans (c.trans k)) r2 (by omega);clear g0 g1 g2 f0 f1 f2 z A B C D E g r;go_wp2_with fail
    exact bodyPost_ret (a0e rfl rfl a0p r1 rfl) rfl ⟨d7,_,rfl,h7⟩
   ·have hI:((V:Int)==0)=false:=a2J (by omega)
    subst h3;clear hk M N h4;go_wp2_with fail
    go_region_held3 (fun F=>F.cell? ⟨b,0,none⟩=some (.bool s3)/\F.cell? ⟨b,1,none⟩=some (.slice a3 n3 c3)/\F.cell? ⟨b,2,none⟩=some (.slice d3 0 e3)/\F.cell? ⟨b+1,0,none⟩=some (.bool s4)/\F.cell? ⟨b+1,1,none⟩=some (.slice a4 n4 c4)/\F.cell? ⟨b+1,2,none⟩=some (.slice d4 V e4))
     (first|exact g.out _ t1|exact g.out _ t2|exact g.out _ t3|exact g.out _ t4|exact g.out _ t5|exact g.out _ t6|exact g.out _ t7|exact g.out _ t8|exact g.out _ k|exact⟨((r.out.1.ext0 (c.trans k)).ext (a.set3 _ _ _).2 (a0b (by omega))).cell 0 rfl,((r.out.1.ext0 (c.trans k)).ext (a.set3 _ _ _).2 (a0b (by omega))).cell 1 rfl,((r.out.1.ext0 (c.trans k)).ext (a.set3 _ _ _).2 (a0b (by omega))).cell 2 rfl,((r.out.2.ext0 (c.trans k)).ext (a.set3 _ _ _).2 (a0b (by omega))).cell 0 rfl,((r.out.2.ext0 (c.trans k)).ext (a.set3 _ _ _).2 (a0b (by omega))).cell 1 rfl,((r.out.2.ext0 (c.trans k)).ext (a.set3 _ _ _).2 (a0b (by omega))).cell 2 rfl⟩|go_keep)
     (first|(go_at_call 235;(with_reducible refine(a9h (a0f X b 3) wc.drew _ y d b3).mono ?_);rintro f w5 ⟨t1,u5,rfl,f3⟩;have d8:=HX.ext d t1;have f9:=mkx ZC.mono b6 t1)|(go_at_call 260;(with_reducible refine(a5R (a0f X b 3) w5 _ _ x.num y.den d8 f9 f3 b9 a7).mono ?_);rintro f w6 ⟨j,u6,rfl,f4⟩;have t2:=t1.trans j;have d9:=HX.ext d t2;have g3:=mkx QC.mono a9 t2)|(go_at_call 235;(with_reducible refine(a9h (a0f X b 3) w6 _ x d9 g3).mono ?_);rintro f w7 ⟨H,u7,rfl,f5⟩;have t3:=t2.trans H;have e0:=HX.ext d t3;have g5:=mkx ZC.mono b7 t3)|(go_at_call 260;(with_reducible refine(a5R (a0f X b 3) w7 _ _ y.num x.den e0 g5 f5 c0 a0).mono ?_);rintro f w8 ⟨I,u8,rfl,f6⟩;have t4:=t3.trans I;have e7:=HX.ext d t4;have g6:=(mkx ZC.mono f4 (H.trans I)).zv (c1A i1 (by decide));have g7:=f6.zv (c1A i2 (by decide)))|(go_at_call 264;(with_reducible refine(b9c (a0f X b 3) w8 _ _ _ _ e7 g6 g7).mono ?_);rintro f w9 ⟨d0,u9,rfl,f7⟩;have t5:=t4.trans d0;have e8:=HX.ext d t5;have g4:=mkx QC.mono a9 t5)|(go_at_call 235;(with_reducible refine(a9h (a0f X b 3) w9 _ x e8 g4).mono ?_);rintro f h6 ⟨l,n7,rfl,Q⟩;have t6:=t5.trans l;have J:=HX.ext d t6;have T:=mkx QC.mono b3 t6)|(go_at_call 235;(with_reducible refine(a9h (a0f X b 3) h6 _ y J T).mono ?_);rintro f o1 ⟨e,n8,rfl,R⟩;have t7:=t6.trans e;have K:=HX.ext d t7;have O:=(mkx NC.mono Q e).nv (c1A a0 (by decide));have P:=R.nv (c1A a7 (by decide)))|(go_at_call 234;(with_reducible refine(b6k K O P).mono ?_);rintro f h8 ⟨m,n9,rfl,S⟩;have t8:=t7.trans m;have L:=HX.ext d t8;have g8:=mkx ZC.mono f7 (l.trans (e.trans m)))|(go_at_call 233;(with_reducible refine(a5w (a0f X b 3) h8 _ _ _ _ L g8 S b4 (c1A i0 (by decide)) h9).mono ?_);rintro f o2 ⟨G,o0,rfl,n⟩;obtain⟨h5,b8,h0,c7,c8,g9,c9,rfl⟩:=n.shape;have k:=t8.trans G;have a:=b2.ext0 (c.trans k);have g0:=a.cell 0 rfl;have g1:=a.cell 1 rfl;have g2:=a.cell 2 rfl;have f0:=a.frozen 0;have f1:=a.frozen 1;have f2:=a.frozen 2))
    obtain⟨r1,r2⟩:=a.set3 (.bool h5) (.slice b8 h0 c7) (.slice c8 g9 c9);have h7:=QC.mono _ _ _ _ a0k (QC.mono _ _ _ _ (a0h r2 (by omega) (by omega)) n);rw[b5.out]at h7;have d7:Ext w _:=ExtX.box (a8.trans (c.trans k)) r2 (by omega);clear g0 g1 g2 f0 f1 f2 z A B C D E g r;go_wp2_with fail
    exact bodyPost_ret (a0e rfl rfl a0p r1 rfl) rfl ⟨d7,_,rfl,h7⟩
theorem a9w(X:Nat->Bool)(w:World)(u v:Value)(x y:Rat)(hX:HX X w)(hu:QV (mk X w) u x)(hv:QV (mk X w) v y):Calls Tryz.prog 151 #[u,v] w (a1S X w QC (x*y)):=by
 have o:=hid hu.hq;have p:=hid hv.hq;obtain⟨s1,a1,n1,c1,d1,k1,e1,rfl⟩:=hu.shape;obtain⟨s2,a2,n2,c2,d2,k2,e2,rfl⟩:=hv.shape;obtain⟨W,hW,hE,l,m,R,hz⟩:=a2p w #[.bool s1,.slice a1 n1 c1,.slice d1 k1 e1] #[.bool s2,.slice a2 n2 c2,.slice d2 k2 e2] #[.bool false,.slice none 0 0,.slice none 0 0] 41 41 41;have g3:HX (a0f X w.heap.size 3) W:=hX.boxes hz;have c0:=QV.mono _ _ _ _ (a0j (nb:=3) hE) hu;have d7:=QV.mono _ _ _ _ (a0j (nb:=3) hE) hv;obtain⟨b,hb⟩:∃b,w.heap.size=b:=⟨_,rfl⟩;have l4:w.heap.size<=b:=by omega
 rw[hb]at l m R hz g3 c0 d7;have c:Ext W W.drew:=(ExtX.refl W).drew;have d:HX (a0f X b 3) W.drew:=g3;have g9:QV (mk (a0f X b 3) W.drew) (.agg #[.bool s1,.slice a1 n1 c1,.slice d1 k1 e1]) x:=c0;have h0:QV (mk (a0f X b 3) W.drew) (.agg #[.bool s2,.slice a2 n2 c2,.slice d2 k2 e2]) y:=d7;have q:=l.cell 0 rfl;have r:=l.cell 1 rfl;have s:=l.cell 2 rfl;have t:=m.cell 0 rfl;have z:=m.cell 1 rfl;have A:=m.cell 2 rfl;clear hu hv;go_enter Tryz.func151,Tryz.ntmps151
 go_upto_region 1 with(fail)
 go_cut []from 5 to 8 (fun wx=>∃s3 P V S d3 I e3 s4 Q Y T d4 J e4,Bx wx b #[.bool s3,.slice P V S,.slice d3 I e3] 41/\Bx wx (b+1) #[.bool s4,.slice Q Y T,.slice d4 J e4] 41/\Bx wx (b+1+1) #[.bool false,.slice none 0 0,.slice none 0 0] 41/\QC (mk (a0f X b 3) wx) (.agg #[.bool s3,.slice P V S,.slice d3 I e3]) x/\QC (mk (a0f X b 3) wx) (.agg #[.bool s4,.slice Q Y T,.slice d4 J e4]) y/\Ext w wx)
 case first=>
  go_region_with (first|(go_at_call 207;(with_reducible refine(a4w (a0f X b 3) W.drew _ x d g9).mono ?_);rintro C w5 ⟨f,u5,rfl,g6⟩;obtain⟨s5,a5,n5,c5,d5,k5,e5,rfl⟩:=g6.shape;have K:=l.ext0 (c.trans f);have L:=m.ext0 (c.trans f);have i7:=K.cell 0 rfl;have i8:=K.cell 1 rfl;have i9:=K.cell 2 rfl;have j0:=L.cell 0 rfl;have j1:=L.cell 1 rfl;have j2:=L.cell 2 rfl)|(go_at_call 207;(with_reducible refine(a4w (a0f X b 3) w5 _ y (HX.ext d f) (mkx QV.mono h0 f)).mono ?_);rintro C w6 ⟨e,u6,rfl,g7⟩;obtain⟨s6,a6,n6,c6,d6,k6,e6,rfl⟩:=g7.shape;have a:=K.ext0 e;have j:=L.ext0 e;have j9:=a.cell 0 rfl;have k0:=a.cell 1 rfl;have k7:=a.cell 2 rfl;have k8:=j.cell 0 rfl;have k9:=j.cell 1 rfl;have l0:=j.cell 2 rfl;have j3:=a.frozen 0;have j4:=a.frozen 1;have j7:=a.frozen 2;have j5:=j.frozen 0;have j6:=j.frozen 1;have j8:=j.frozen 2))
  all_goals
   obtain⟨wf,h1,q0,q1,q2,q3,q4⟩:=a2j (X:=X) (nb:=3) a j (hE.trans ((c.trans f).trans e)) l4 (by omega) (.bool s5) (.slice a5 n5 c5) (.slice d5 k5 e5) (.bool s6) (.slice a6 n6 c6) (.slice d6 k6 e6);rw[h1];have l8:QC (mk (a0f X b 3) wf) (.agg #[.bool s5,.slice a5 n5 c5,.slice d5 k5 e5]) x:=QC.mono _ _ _ _ q4 (mkx QC.mono g6 e);have l9:QC (mk (a0f X b 3) wf) (.agg #[.bool s6,.slice a6 n6 c6,.slice d6 k6 e6]) y:=QC.mono _ _ _ _ q4 g7;have q5:=q2 (b+1+1) _ _ (by omega) (by omega) ((R.ext0 (c.trans f)).ext0 e);clear i7 i8 i9 j0 j1 j2 j9 k0 k7 k8 k9 l0 j3 j4 j5 j6 j7 j8 q r s t z A h1;go_wp2_with fail
   go_meet
   exact⟨_,_,_,_,_,_,_,_,_,_,_,_,_,_,q0,q1,q5,l8,l9,q3⟩
 case rest=>
  clear q r s t z A l m R c0 d7 g9 h0 d c hW;obtain⟨s3,P,V,S,d3,I,e3,s4,Q,Y,T,d4,J,e4,l,m,R,hx,hy,M⟩:=hcut;have i5:w.heap.size+3<=wc.heap.size:=by have:=R.lt;omega
  obtain⟨h8,m4,h5⟩:=hx.num;obtain⟨i3,m5,i1⟩:=hy.num;have g4:HX (a0f X b 3) wc:=hX.boxes' M (by have:=i5;omega) i5;have q:=l.cell 0 rfl;have r:=l.cell 1 rfl;have s:=l.cell 2 rfl;have t:=m.cell 0 rfl;have z:=m.cell 1 rfl;have A:=m.cell 2 rfl;have c:Ext wc wc.drew:=(ExtX.refl wc).drew;have d:HX (a0f X b 3) wc.drew:=g4;have h2:QC (mk (a0f X b 3) wc.drew) (.agg #[.bool s3,.slice P V S,.slice d3 I e3]) x:=hx;have i0:QC (mk (a0f X b 3) wc.drew) (.agg #[.bool s4,.slice Q Y T,.slice d4 J e4]) y:=hy;have h9:ZC (mk (a0f X b 3) wc.drew) (.agg #[.bool s3,.slice P V S]) x.num:=h8;have i4:ZC (mk (a0f X b 3) wc.drew) (.agg #[.bool s4,.slice Q Y T]) y.num:=i3;have f7:lg x.num.natAbs<=549755813888:=c1A (c1A (a0C x) o.out) (by omega);have f9:lg y.num.natAbs<=549755813888:=c1A (c1A (a0C y) p.out) (by omega);have f6:lg x.den<=549755813888:=c1A (c1A (a0E x) o.out) (by omega);have f8:lg y.den<=549755813888:=c1A (c1A (a0E y) p.out) (by omega);have m2:lg (x.num*(y.den:Int)).natAbs<=274877906944:=by rw[Int.natAbs_mul,Int.natAbs_natCast];have:=a0Z x.num.natAbs y.den;have:=a0C x;have:=a0E y;have:=o.out;have:=p.out;omega
  have m3:lg (y.num*(x.den:Int)).natAbs<=274877906944:=by rw[Int.natAbs_mul,Int.natAbs_natCast];have:=a0Z y.num.natAbs x.den;have:=a0C y;have:=a0E x;have:=o.out;have:=p.out;omega
  have f4:lg (x.den*y.den)<=274877906944:=by have:=a0Z x.den y.den;have:=a0E x;have:=a0E y;have:=o.out;have:=p.out;omega
  have f5:lg (x.num*y.num).natAbs<=274877906944:=by rw[Int.natAbs_mul];have:=a0Z x.num.natAbs y.num.natAbs;have:=a0C x;have:=a0C y;have:=o.out;have:=p.out;omega
  have f3:0<x.den*y.den:=Nat.mul_pos x.den_pos y.den_pos;have n:=hid (And.intro l m);have D:Hid (∀W',Ext wc.drew W'->W'.cell? ⟨b,0,none⟩=some (.bool s3)/\W'.cell? ⟨b,1,none⟩=some (.slice P V S)/\W'.cell? ⟨b,2,none⟩=some (.slice d3 I e3)/\W'.cell? ⟨b+1,0,none⟩=some (.bool s4)/\W'.cell? ⟨b+1,1,none⟩=some (.slice Q Y T)/\W'.cell? ⟨b+1,2,none⟩=some (.slice d4 J e4)):=
   hid fun W' h=>⟨(l.ext0 (c.trans h)).cell 0 rfl,(l.ext0 (c.trans h)).cell 1 rfl,(l.ext0 (c.trans h)).cell 2 rfl,(m.ext0 (c.trans h)).cell 0 rfl,(m.ext0 (c.trans h)).cell 1 rfl,(m.ext0 (c.trans h)).cell 2 rfl⟩
  have G:=h5.len0;have H:=i1.len0;rw[a3Y]at G H;have h6:=h9.zv f7;have i2:=i4.zv f9;have U:Hid (mkRat (x.num*y.num) (x.den*y.den)=x*y):=hid (Rat.mul_def' x y).symm;by_cases hk:I=0/\J=0
  ·have l5:=hid (G.1 hk.1)
   have l7:=hid (H.1 hk.2);obtain⟨rfl,rfl⟩:=hk;have g8:Hid (((x.num*y.num:Int):Rat)=x*y):=hid (by
    rw[Rat.intCast_mul]
    conv=>rhs;rw[<-Rat.mkRat_self x,<-Rat.mkRat_self y]
    rw[l5.out,l7.out,<-Rat.mk_den_one,<-Rat.mk_den_one,Rat.mk_eq_mkRat,Rat.mk_eq_mkRat])
   clear G H;go_wp2_with fail
   refine(c0j (a0f X b 3) wc _ _ _ _ g4 (h8.zv f7) (i3.zv f9)).mono ?_;rintro C w5 ⟨f,u5,rfl,s6,a6,c6,l6,rfl,l1,l2,l3⟩;have i6:=R.ext0 f;have g5:=a6Q.ofInt l2;rw[g8.out]at g5;clear q r s t z A;go_wp2_with ((with_reducible show wpList _ _ _ (⟨_,.store _ _ _,_,_,_,_⟩::_) _ _);refine a0a a0p rfl rfl i6 rfl rfl (a1z _ _ _ _ _ _ _) ?_;intro w7 r1 Z)
   have h7:=(l3.mono (a0c.mono _) (a0h Z (by omega) (by omega))).mono (a0c.mono _) a0k;exact bodyPost_ret (a0e rfl rfl a0p r1 rfl) rfl ⟨ExtX.box (M.trans f) Z (by omega),_,rfl,s6,a6,c6,l6,none,0,[],rfl,l1,c1B _,g5,h7,Sl.nil _ _ _ _⟩
  ·rcases(by omega:¬I=0\/(I=0/\¬J=0))with h3|⟨h3,h4⟩
   ·have hI:((I:Int)==0)=false:=a2J (by omega)
    clear hk G H h3;go_wp2_with fail
    go_region_held3 (fun B=>B.cell? ⟨b,0,none⟩=some (.bool s3)/\B.cell? ⟨b,1,none⟩=some (.slice P V S)/\B.cell? ⟨b,2,none⟩=some (.slice d3 I e3)/\B.cell? ⟨b+1,0,none⟩=some (.bool s4)/\B.cell? ⟨b+1,1,none⟩=some (.slice Q Y T)/\B.cell? ⟨b+1,2,none⟩=some (.slice d4 J e4))
     (first|exact D.out _ N|exact D.out _ O|exact D.out _ t3|exact D.out _ t4|exact D.out _ g|exact⟨((n.out.1.ext0 (c.trans g)).ext (a.set3 _ _ _).2 (a0b (by omega))).cell 0 rfl,((n.out.1.ext0 (c.trans g)).ext (a.set3 _ _ _).2 (a0b (by omega))).cell 1 rfl,((n.out.1.ext0 (c.trans g)).ext (a.set3 _ _ _).2 (a0b (by omega))).cell 2 rfl,((n.out.2.ext0 (c.trans g)).ext (a.set3 _ _ _).2 (a0b (by omega))).cell 0 rfl,((n.out.2.ext0 (c.trans g)).ext (a.set3 _ _ _).2 (a0b (by omega))).cell 1 rfl,((n.out.2.ext0 (c.trans g)).ext (a.set3 _ _ _).2 (a0b (by omega))).cell 2 rfl⟩|go_keep)
     (first|(go_at_call 232;(with_reducible refine(c0j (a0f X b 3) wc.drew _ _ _ _ d h6 i2).mono ?_);rintro C w5 ⟨N,u5,rfl,c7⟩;have b4:=HX.ext d N;have d8:=mkx QC.mono h2 N)|(go_at_call 235;(with_reducible refine(a9h (a0f X b 3) w5 _ x b4 d8).mono ?_);rintro C w6 ⟨e,u6,rfl,c8⟩;have O:=N.trans e;have b5:=HX.ext d O;have d9:=mkx QC.mono i0 O)|(go_at_call 235;(with_reducible refine(a9h (a0f X b 3) w6 _ y b5 d9).mono ?_);rintro C w7 ⟨k,u7,rfl,c9⟩;have t3:=O.trans k;have b6:=HX.ext d t3;have b8:=(mkx NC.mono c8 k).nv (c1A f6 (by decide));have b9:=c9.nv (c1A f8 (by decide)))|(go_at_call 234;(with_reducible refine(b6k b6 b8 b9).mono ?_);rintro C w8 ⟨F,u8,rfl,d0⟩;have t4:=t3.trans F;have b7:=HX.ext d t4;have e0:=mkx ZC.mono c7 (e.trans (k.trans F)))|(go_at_call 233;(with_reducible refine(a5w (a0f X b 3) w8 _ _ _ _ b7 e0 d0 (c1A f5 (by decide)) (c1A f4 (by decide)) f3).mono ?_);rintro C m1 ⟨E,m0,rfl,i⟩;obtain⟨e9,a0,e8,a7,a8,e7,a9,rfl⟩:=i.shape;have g:=t4.trans E;have a:=R.ext0 (c.trans g);have g0:=a.cell 0 rfl;have g1:=a.cell 1 rfl;have g2:=a.cell 2 rfl;have f0:=a.frozen 0;have f1:=a.frozen 1;have f2:=a.frozen 2))
    obtain⟨r1,Z⟩:=a.set3 (.bool e9) (.slice a0 e8 a7) (.slice a8 e7 a9);have h7:=QC.mono _ _ _ _ a0k (QC.mono _ _ _ _ (a0h Z (by omega) (by omega)) i);rw[U.out]at h7;have b3:Ext w _:=ExtX.box (M.trans (c.trans g)) Z (by omega);clear g0 g1 g2 f0 f1 f2 q r s t z A D n;go_wp2_with fail
    exact bodyPost_ret (a0e rfl rfl a0p r1 rfl) rfl ⟨b3,_,rfl,h7⟩
   ·have hI:((J:Int)==0)=false:=a2J (by omega)
    subst h3;clear hk G H h4;go_wp2_with fail
    go_region_held3 (fun B=>B.cell? ⟨b,0,none⟩=some (.bool s3)/\B.cell? ⟨b,1,none⟩=some (.slice P V S)/\B.cell? ⟨b,2,none⟩=some (.slice d3 0 e3)/\B.cell? ⟨b+1,0,none⟩=some (.bool s4)/\B.cell? ⟨b+1,1,none⟩=some (.slice Q Y T)/\B.cell? ⟨b+1,2,none⟩=some (.slice d4 J e4))
     (first|exact D.out _ N|exact D.out _ O|exact D.out _ t3|exact D.out _ t4|exact D.out _ g|exact⟨((n.out.1.ext0 (c.trans g)).ext (a.set3 _ _ _).2 (a0b (by omega))).cell 0 rfl,((n.out.1.ext0 (c.trans g)).ext (a.set3 _ _ _).2 (a0b (by omega))).cell 1 rfl,((n.out.1.ext0 (c.trans g)).ext (a.set3 _ _ _).2 (a0b (by omega))).cell 2 rfl,((n.out.2.ext0 (c.trans g)).ext (a.set3 _ _ _).2 (a0b (by omega))).cell 0 rfl,((n.out.2.ext0 (c.trans g)).ext (a.set3 _ _ _).2 (a0b (by omega))).cell 1 rfl,((n.out.2.ext0 (c.trans g)).ext (a.set3 _ _ _).2 (a0b (by omega))).cell 2 rfl⟩|go_keep)
     (first|(go_at_call 232;(with_reducible refine(c0j (a0f X b 3) wc.drew _ _ _ _ d h6 i2).mono ?_);rintro C w5 ⟨N,u5,rfl,c7⟩;have b4:=HX.ext d N;have d8:=mkx QC.mono h2 N)|(go_at_call 235;(with_reducible refine(a9h (a0f X b 3) w5 _ x b4 d8).mono ?_);rintro C w6 ⟨e,u6,rfl,c8⟩;have O:=N.trans e;have b5:=HX.ext d O;have d9:=mkx QC.mono i0 O)|(go_at_call 235;(with_reducible refine(a9h (a0f X b 3) w6 _ y b5 d9).mono ?_);rintro C w7 ⟨k,u7,rfl,c9⟩;have t3:=O.trans k;have b6:=HX.ext d t3;have b8:=(mkx NC.mono c8 k).nv (c1A f6 (by decide));have b9:=c9.nv (c1A f8 (by decide)))|(go_at_call 234;(with_reducible refine(b6k b6 b8 b9).mono ?_);rintro C w8 ⟨F,u8,rfl,d0⟩;have t4:=t3.trans F;have b7:=HX.ext d t4;have e0:=mkx ZC.mono c7 (e.trans (k.trans F)))|(go_at_call 233;(with_reducible refine(a5w (a0f X b 3) w8 _ _ _ _ b7 e0 d0 (c1A f5 (by decide)) (c1A f4 (by decide)) f3).mono ?_);rintro C m1 ⟨E,m0,rfl,i⟩;obtain⟨e9,a0,e8,a7,a8,e7,a9,rfl⟩:=i.shape;have g:=t4.trans E;have a:=R.ext0 (c.trans g);have g0:=a.cell 0 rfl;have g1:=a.cell 1 rfl;have g2:=a.cell 2 rfl;have f0:=a.frozen 0;have f1:=a.frozen 1;have f2:=a.frozen 2))
    obtain⟨r1,Z⟩:=a.set3 (.bool e9) (.slice a0 e8 a7) (.slice a8 e7 a9);have h7:=QC.mono _ _ _ _ a0k (QC.mono _ _ _ _ (a0h Z (by omega) (by omega)) i);rw[U.out]at h7;have b3:Ext w _:=ExtX.box (M.trans (c.trans g)) Z (by omega);clear g0 g1 g2 f0 f1 f2 q r s t z A D n;go_wp2_with fail
    exact bodyPost_ret (a0e rfl rfl a0p r1 rfl) rfl ⟨b3,_,rfl,h7⟩
theorem a5S(s:Bool)(a d:Option Addr)(n c k e:Nat)(W:World):(Instr.field 41 (.agg #[.bool s,.slice a n c,.slice d k e]) 0).run Tryz.prog W=.ok (.agg #[.bool s,.slice a n c]) W:=by kernel_rfl
def b1s(x y:Rat):Int:=if x<y then -1 else if y<x then 1 else 0
theorem b7y(x y:Rat):b6r (x.num*(y.den:Int)) (y.num*(x.den:Int))=b1s x y:=by
 unfold b6r b1s;simp only[Rat.lt_iff]
theorem b0E(X:Nat->Bool)(w:World)(u v:Value)(x y:Rat)(hX:HX X w)(hu:QV (mk X w) u x)(hv:QV (mk X w) v y):Calls Tryz.prog 180 #[u,v] w (a3R w (b1s x y)):=by
 have j:=hid hu.hq;have k:=hid hv.hq;obtain⟨s1,a1,n1,c1,d1,k1,e1,rfl⟩:=hu.shape;obtain⟨s2,a2,n2,c2,d2,k2,e2,rfl⟩:=hv.shape;obtain⟨W,hW,hE,g,d,hz⟩:=a1w w #[.bool s1,.slice a1 n1 c1,.slice d1 k1 e1] #[.bool s2,.slice a2 n2 c2,.slice d2 k2 e2] 41 41;have V:HX (a0f X w.heap.size 2) W:=hX.boxes hz;have D:=QV.mono _ _ _ _ (a0j (nb:=2) hE) hu;have E:=QV.mono _ _ _ _ (a0j (nb:=2) hE) hv;obtain⟨b,hb⟩:∃b,w.heap.size=b:=⟨_,rfl⟩;have g4:w.heap.size<=b:=by omega
 rw[hb]at g d hz V D E;have a:Ext W W.drew:=(ExtX.refl W).drew;have c:HX (a0f X b 2) W.drew:=V;have a7:QV (mk (a0f X b 2) W.drew) (.agg #[.bool s1,.slice a1 n1 c1,.slice d1 k1 e1]) x:=D;have a8:QV (mk (a0f X b 2) W.drew) (.agg #[.bool s2,.slice a2 n2 c2,.slice d2 k2 e2]) y:=E;have o:=g.cell 0 rfl;have p:=g.cell 1 rfl;have q:=g.cell 2 rfl;have r:=d.cell 0 rfl;have s:=d.cell 1 rfl;have t:=d.cell 2 rfl;clear hu hv;go_enter Tryz.func180,Tryz.ntmps180
 go_upto_region 1 with(fail)
 go_cut []from 5 to 8 (fun wx=>∃H z F B J P L I A G C K Q M,Bx wx b #[.bool H,.slice z F B,.slice J P L] 41/\Bx wx (b+1) #[.bool I,.slice A G C,.slice K Q M] 41/\QC (mk (a0f X b 2) wx) (.agg #[.bool H,.slice z F B,.slice J P L]) x/\QC (mk (a0f X b 2) wx) (.agg #[.bool I,.slice A G C,.slice K Q M]) y/\Ext w wx)
 case first=>
  go_region_with (first|(go_at_call 207;(with_reducible refine(a4w (a0f X b 2) W.drew _ x c a7).mono ?_);rintro N w5 ⟨l,u5,rfl,Z⟩;obtain⟨s5,a5,n5,c5,d5,k5,e5,rfl⟩:=Z.shape;have m:=g.ext0 (a.trans l);have n:=d.ext0 (a.trans l);have c7:=m.cell 0 rfl;have c8:=m.cell 1 rfl;have c9:=m.cell 2 rfl;have d0:=n.cell 0 rfl;have d7:=n.cell 1 rfl;have d8:=n.cell 2 rfl)|(go_at_call 207;(with_reducible refine(a4w (a0f X b 2) w5 _ y (HX.ext c l) (mkx QV.mono a8 l)).mono ?_);rintro N w6 ⟨i,u6,rfl,a0⟩;obtain⟨s6,a6,n6,c6,d6,k6,e6,rfl⟩:=a0.shape;have e:=m.ext0 i;have f:=n.ext0 i;have f1:=e.cell 0 rfl;have f2:=e.cell 1 rfl;have f3:=e.cell 2 rfl;have f4:=f.cell 0 rfl;have f5:=f.cell 1 rfl;have f6:=f.cell 2 rfl;have d9:=e.frozen 0;have e0:=e.frozen 1;have e9:=e.frozen 2;have e7:=f.frozen 0;have e8:=f.frozen 1;have f0:=f.frozen 2))
  all_goals
   obtain⟨wf,a9,q0,q1,q2,q3,q4⟩:=a2j (X:=X) (nb:=2) e f (hE.trans ((a.trans l).trans i)) g4 (by omega) (.bool s5) (.slice a5 n5 c5) (.slice d5 k5 e5) (.bool s6) (.slice a6 n6 c6) (.slice d6 k6 e6);rw[a9];have g5:QC (mk (a0f X b 2) wf) (.agg #[.bool s5,.slice a5 n5 c5,.slice d5 k5 e5]) x:=QC.mono _ _ _ _ q4 (mkx QC.mono Z i);have g6:QC (mk (a0f X b 2) wf) (.agg #[.bool s6,.slice a6 n6 c6,.slice d6 k6 e6]) y:=QC.mono _ _ _ _ q4 a0;clear c7 c8 c9 d0 d7 d8 f1 f2 f3 f4 f5 f6 d9 e0 e7 e8 e9 f0 o p q r s t a9;go_wp2_with fail
   go_meet
   exact⟨_,_,_,_,_,_,_,_,_,_,_,_,_,_,q0,q1,g5,g6,q3⟩
 case rest=>
  clear o p q r s t g d D E a7 a8 c a hW;obtain⟨H,z,F,B,J,P,L,I,A,G,C,K,Q,M,g,d,hx,hy,S⟩:=hcut;have b4:w.heap.size+2<=wc.heap.size:=by have:=d.lt;omega
  obtain⟨h4,i5,i0⟩:=hx.num;obtain⟨h7,i6,i1⟩:=hy.num;have g3:HX (a0f X b 2) wc:=hX.boxes' S (by have:=b4;omega) b4;have o:=g.cell 0 rfl;have p:=g.cell 1 rfl;have q:=g.cell 2 rfl;have r:=d.cell 0 rfl;have s:=d.cell 1 rfl;have t:=d.cell 2 rfl;have a:Ext wc wc.drew:=(ExtX.refl wc).drew;have c:HX (a0f X b 2) wc.drew:=g3;have h3:QC (mk (a0f X b 2) wc.drew) (.agg #[.bool H,.slice z F B,.slice J P L]) x:=hx;have h6:QC (mk (a0f X b 2) wc.drew) (.agg #[.bool I,.slice A G C,.slice K Q M]) y:=hy;have b2:ZC (mk (a0f X b 2) wc.drew) (.agg #[.bool H,.slice z F B]) x.num:=h4;have b3:ZC (mk (a0f X b 2) wc.drew) (.agg #[.bool I,.slice A G C]) y.num:=h7;have b8:lg x.num.natAbs<=549755813888:=c1A (c1A (a0C x) j.out) (by omega);have c0:lg y.num.natAbs<=549755813888:=c1A (c1A (a0C y) k.out) (by omega);have b7:lg x.den<=549755813888:=c1A (c1A (a0E x) j.out) (by omega);have b9:lg y.den<=549755813888:=c1A (c1A (a0E y) k.out) (by omega);have b5:lg (x.num*(y.den:Int)).natAbs<=274877906944:=by rw[Int.natAbs_mul,Int.natAbs_natCast];have:=a0Z x.num.natAbs y.den;have:=a0C x;have:=a0E y;have:=j.out;have:=k.out;omega
  have b6:lg (y.num*(x.den:Int)).natAbs<=274877906944:=by rw[Int.natAbs_mul,Int.natAbs_natCast];have:=a0Z y.num.natAbs x.den;have:=a0C y;have:=a0E x;have:=j.out;have:=k.out;omega
  have i3:lg (x.den*y.den)<=274877906944:=by have:=a0Z x.den y.den;have:=a0E x;have:=a0E y;have:=j.out;have:=k.out;omega
  have i4:lg (x.num*y.num).natAbs<=274877906944:=by rw[Int.natAbs_mul];have:=a0Z x.num.natAbs y.num.natAbs;have:=a0C x;have:=a0C y;have:=j.out;have:=k.out;omega
  have i2:0<x.den*y.den:=Nat.mul_pos x.den_pos y.den_pos;have hB:=hid (And.intro g d);have O:Hid (∀W',Ext wc.drew W'->W'.cell? ⟨b,0,none⟩=some (.bool H)/\W'.cell? ⟨b,1,none⟩=some (.slice z F B)/\W'.cell? ⟨b,2,none⟩=some (.slice J P L)/\W'.cell? ⟨b+1,0,none⟩=some (.bool I)/\W'.cell? ⟨b+1,1,none⟩=some (.slice A G C)/\W'.cell? ⟨b+1,2,none⟩=some (.slice K Q M)):=
   hid fun W' h=>⟨(g.ext0 (a.trans h)).cell 0 rfl,(g.ext0 (a.trans h)).cell 1 rfl,(g.ext0 (a.trans h)).cell 2 rfl,(d.ext0 (a.trans h)).cell 0 rfl,(d.ext0 (a.trans h)).cell 1 rfl,(d.ext0 (a.trans h)).cell 2 rfl⟩
  have Y:Hid (b6r (x.num*(y.den:Int)) (y.num*(x.den:Int))=b1s x y):=hid (b7y x y);go_wp2_with fail
  go_region_held3 (fun R=>R.cell? ⟨b,0,none⟩=some (.bool H)/\R.cell? ⟨b,1,none⟩=some (.slice z F B)/\R.cell? ⟨b,2,none⟩=some (.slice J P L)/\R.cell? ⟨b+1,0,none⟩=some (.bool I)/\R.cell? ⟨b+1,1,none⟩=some (.slice A G C)/\R.cell? ⟨b+1,2,none⟩=some (.slice K Q M))
   (first|exact O.out _ t1|exact O.out _ t2|exact O.out _ t3|exact O.out _ t4|exact O.out _ t5|go_keep)
   (first|(go_at_call 235;(with_reducible refine(a9h (a0f X b 2) wc.drew _ y c h6).mono ?_);rintro N w5 ⟨t1,u5,rfl,g7⟩;have f9:=HX.ext c t1;have h1:=mkx ZC.mono b2 t1)|(go_at_call 260;(with_reducible refine(a5R (a0f X b 2) w5 _ _ x.num y.den f9 h1 g7 b8 b9).mono ?_);rintro N w6 ⟨i,u6,rfl,g8⟩;have t2:=t1.trans i;have g0:=HX.ext c t2;have h2:=mkx QC.mono h3 t2)|(go_at_call 235;(with_reducible refine(a9h (a0f X b 2) w6 _ x g0 h2).mono ?_);rintro N w7 ⟨T,u7,rfl,g9⟩;have t3:=t2.trans T;have g1:=HX.ext c t3;have h5:=mkx ZC.mono b3 t3)|(go_at_call 260;(with_reducible refine(a5R (a0f X b 2) w7 _ _ y.num x.den g1 h5 g9 c0 b7).mono ?_);rintro N w8 ⟨U,u8,rfl,h0⟩;have t4:=t3.trans U;have g2:=HX.ext c t4;have h8:=(mkx ZC.mono g8 (T.trans U)).zv (c1A b5 (by decide));have h9:=h0.zv (c1A b6 (by decide)))|(go_at_call 259;(with_reducible refine(b4K (a0f X b 2) w8 _ _ _ _ g2 h8 h9).mono ?_);rintro N w9 ⟨f7,rfl⟩;have t5:=t4.trans f7))
  have f8:Ext w _:=S.trans (a.trans t5);clear o p q r s t O hB;go_wp2_with fail
  go_ret
  exact⟨f8,a0N Y.out⟩
theorem b1t(X:Nat->Bool)(w:World)(u:Value)(x:Rat)(t:HX X w)(f:QV (mk X w) u x):Calls Tryz.prog 125 #[u] w (a3R w x.num.sign):=by
 have i:=hid f.hq;obtain⟨B,o,A,p,q,z,r,rfl⟩:=f.shape;obtain⟨W,G,g,e,hz⟩:=a1e w #[.bool B,.slice o A p,.slice q z r] 41;have c:HX X W:=t.ext g;have j:=mkx QV.mono f g;obtain⟨b,v⟩:∃b,w.heap.size=b:=⟨_,rfl⟩;rw[v]at e hz;have l:=e.cell 0 rfl;have m:=e.cell 1 rfl;have n:=e.cell 2 rfl;have y:=a5S;clear f;go_enter Tryz.func125,Tryz.ntmps125
 go_wp2_with fail
 refine(a4w X W _ x c j).mono ?_;rintro s C ⟨a,K,rfl,d⟩;obtain⟨J,D,I,E,F,H,e5,rfl⟩:=d.shape;have k:=d.num.1.zv (c1A (c1A (a0C x) i.out) (by omega));clear l m n;go_wp2_with fail
 refine(b1r X C _ _ (c.ext a) k).mono ?_;rintro s L ⟨h,rfl⟩;go_wp2_with fail
 go_ret
 exact⟨g.trans (a.trans h),rfl⟩
theorem b6t(x:Rat):dn (-x)=dn x:=by unfold dn;rw[Rat.neg_den]
theorem c1u(X:Nat->Bool)(w:World)(u:Value)(x:Rat)(hX:HX X w)(z:QV (mk X w) u x):Calls Tryz.prog 237 #[u] w (a1S X w QC (-x)):=by
 have q:=hid z.hq;obtain⟨s1,a1,n1,c1,d1,k1,e1,rfl⟩:=z.shape;obtain⟨W,hW,hE,n,b1,hz⟩:=a1w w #[.bool s1,.slice a1 n1 c1,.slice d1 k1 e1] #[.bool false,.slice none 0 0,.slice none 0 0] 41 41;have i:HX (a0f X w.heap.size 2) W:=hX.boxes hz;have s:=QV.mono _ _ _ _ (a0j (nb:=2) hE) z;obtain⟨b,hb⟩:∃b,w.heap.size=b:=⟨_,rfl⟩;have b4:w.heap.size<=b:=by omega
 rw[hb]at n b1 hz i s;have j:=n.cell 0 rfl;have k:=n.cell 1 rfl;have l:=n.cell 2 rfl;clear z;go_enter Tryz.func237,Tryz.ntmps237
 go_wp2_with fail
 refine(a4w (a0f X b 2) W _ x i s).mono ?_;rintro e w5 ⟨d,u5,rfl,r⟩;obtain⟨s5,C,n5,K,N,k5,e5,rfl⟩:=r.shape;have Z:=i.ext d;have F:=n.ext0 d;have G:=b1.ext0 d;clear j k l;go_upto_region 2 with((with_reducible show wpList _ _ _ (⟨_,.store _ _ _,_,_,_,_⟩::_) _ _);refine a0a a0p rfl rfl F rfl rfl (a1z _ _ _ _ _ _ _) ?_;intro g f A;have j:=f.cell 0 rfl;have k:=f.cell 1 rfl;have l:=f.cell 2 rfl)
 have a0:=Z.ext A;have H:=G.ext A (a0b (by omega));have a6:=QC.mono _ _ _ _ (a0h (X:=X) (lo:=b) (nb:=2) A (by omega) (by omega)) r;have U:Ext w g:=ExtX.box (hE.trans d) A (by omega);obtain⟨b2,b5,v⟩:=a6.num;have c:Ext g g.drew:=(ExtX.refl g).drew;have p:HX (a0f X b 2) g.drew:=a0;have y:ZC (mk (a0f X b 2) g.drew) (.agg #[.bool s5,.slice C n5 K]) x.num:=b2;have t:NC (mk (a0f X b 2) g.drew) (.slice N k5 e5) (dn x):=v;have J:lg x.num.natAbs<=549755813888:=c1A (c1A (a0C x) q.out) (by omega);have I:lg (dn x)<=549755813888:=c1A (c1A (b2O x) q.out) (by omega);have a7:=y.zv J;have Y:Hid (∀W',Ext g.drew W'->W'.cell? ⟨b,0,none⟩=some (.bool s5)/\W'.cell? ⟨b,1,none⟩=some (.slice C n5 K)/\W'.cell? ⟨b,2,none⟩=some (.slice N k5 e5)):=
  hid fun W' h=>⟨(f.ext0 (c.trans h)).cell 0 rfl,(f.ext0 (c.trans h)).cell 1 rfl,(f.ext0 (c.trans h)).cell 2 rfl⟩
 go_region_held3 (fun w'=>w'.cell? ⟨b,0,none⟩=some (.bool s5)/\w'.cell? ⟨b,1,none⟩=some (.slice C n5 K)/\w'.cell? ⟨b,2,none⟩=some (.slice N k5 e5))
  (first|exact Y.out _ B|exact Y.out _ m|exact⟨((f.ext0 (c.trans m)).ext (a.set3 _ _ _).2 (a0b (by omega))).cell 0 rfl,((f.ext0 (c.trans m)).ext (a.set3 _ _ _).2 (a0b (by omega))).cell 1 rfl,((f.ext0 (c.trans m)).ext (a.set3 _ _ _).2 (a0b (by omega))).cell 2 rfl⟩|go_keep)
  (first|(go_at_call 296;(with_reducible refine(c1i (a0f X b 2) g.drew _ _ p a7).mono ?_);rintro ee w8 ⟨B,u8,rfl,s8,D,L,l8,rfl,O,P,Q⟩;have a2:=HX.ext p B;have a4:=(mkx NC.mono t B).nv (c1A I (by decide));have b3:=NC.nv (NC.zero (mk (a0f X b 2) w8)) (by decide))|(go_at_call 166;(with_reducible refine(c0r a2 a4 b3).mono ?_);rintro ee w9 ⟨o,u9,rfl,E,M,l9,rfl,R,S,T⟩;have m:=B.trans o;have a3:=Sl.mono (a0c.mono _) (a0l o) Q;have a:=H.ext0 (c.trans m);have g0:=a.cell 0 rfl;have g1:=a.cell 1 rfl;have g2:=a.cell 2 rfl;have f0:=a.frozen 0;have f1:=a.frozen 1;have f2:=a.frozen 2))
 obtain⟨q1,q2⟩:=a.set3 (.bool s8) (.slice D l8.length L) (.slice E l9.length M);have hz:ZC (mk (a0f X b 2) w9) (.agg #[.bool s8,.slice D l8.length L]) (-x).num:=⟨s8,D,L,l8,rfl,O,by rw[Rat.neg_num];exact P,a3⟩;have hd:NC (mk (a0f X b 2) w9) (.slice E l9.length M) (dn (-x)):=⟨E,M,l9,rfl,R,by rw[b6t];exact S,T⟩;have h7:=QC.mono _ _ _ _ a0k (QC.mono _ _ _ _ (a0h q2 (by omega) (by omega)) (QC.of hz hd));have V:Ext w _:=ExtX.box (U.trans (c.trans m)) q2 (by omega);clear g0 g1 g2 f0 f1 f2 j k l Y;go_wp2_with fail
 exact bodyPost_ret (a0e rfl rfl a0p q1 rfl) rfl ⟨V,_,rfl,h7⟩
theorem b4Q(X:Nat->Bool)(w:World)(u v:Value)(x y:Rat)(hX:HX X w)(C:QV (mk X w) u x)(D:QV (mk X w) v y):Calls Tryz.prog 153 #[u,v] w (a1S X w QC (x - y)):=by
 have a8:=hid C.hq;have Q:=hid D.hq;obtain⟨I,p,G,r,t,E,A,rfl⟩:=C.shape;obtain⟨J,q,H,s,z,F,B,rfl⟩:=D.shape;obtain⟨W,hW,L,e,f,b2,hz⟩:=a2p w #[.bool I,.slice p G r,.slice t E A] #[.bool J,.slice q H s,.slice z F B] #[.bool false,.slice none 0 0,.slice none 0 0] 41 41 41;have k:HX (a0f X w.heap.size 3) W:=hX.boxes hz;have n:=QV.mono _ _ _ _ (a0j (nb:=3) L) C;have o:=QV.mono _ _ _ _ (a0j (nb:=3) L) D;obtain⟨b,hb⟩:∃b,w.heap.size=b:=⟨_,rfl⟩;have a7:w.heap.size<=b:=by omega
 rw[hb]at e f b2 hz k n o;have a:Ext W W.drew:=(ExtX.refl W).drew;have l:HX (a0f X b 3) W.drew:=k;have T:QV (mk (a0f X b 3) W.drew) (.agg #[.bool I,.slice p G r,.slice t E A]) x:=n;have U:QV (mk (a0f X b 3) W.drew) (.agg #[.bool J,.slice q H s,.slice z F B]) y:=o;have Y:=e.cell 0 rfl;have Z:=e.cell 1 rfl;have a0:=e.cell 2 rfl;have a3:=f.cell 0 rfl;have a4:=f.cell 1 rfl;have a5:=f.cell 2 rfl;clear C D;have g:=hid (And.intro e f);have O:Hid (∀W',Ext W.drew W'->W'.cell? ⟨b,0,none⟩=some (.bool I)/\W'.cell? ⟨b,1,none⟩=some (.slice p G r)/\W'.cell? ⟨b,2,none⟩=some (.slice t E A)/\W'.cell? ⟨b+1,0,none⟩=some (.bool J)/\W'.cell? ⟨b+1,1,none⟩=some (.slice q H s)/\W'.cell? ⟨b+1,2,none⟩=some (.slice z F B)):=
  hid fun W' h=>⟨(e.ext0 (a.trans h)).cell 0 rfl,(e.ext0 (a.trans h)).cell 1 rfl,(e.ext0 (a.trans h)).cell 2 rfl,(f.ext0 (a.trans h)).cell 0 rfl,(f.ext0 (a.trans h)).cell 1 rfl,(f.ext0 (a.trans h)).cell 2 rfl⟩
 have R:=hid (show hq (-y)<=68719476736 by rw[a5M];exact Q.out);have m:Hid (x+ -y=x - y):=hid (Rat.sub_eq_add_neg x y).symm;go_enter Tryz.func153,Tryz.ntmps153
 go_upto_region 1 with(fail)
 go_region_held3 (fun j=>j.cell? ⟨b,0,none⟩=some (.bool I)/\j.cell? ⟨b,1,none⟩=some (.slice p G r)/\j.cell? ⟨b,2,none⟩=some (.slice t E A)/\j.cell? ⟨b+1,0,none⟩=some (.bool J)/\j.cell? ⟨b+1,1,none⟩=some (.slice q H s)/\j.cell? ⟨b+1,2,none⟩=some (.slice z F B))
  (first|exact O.out _ K|exact O.out _ d|exact⟨((g.out.1.ext0 (a.trans d)).ext (c.set3 _ _ _).2 (a0b (by omega))).cell 0 rfl,((g.out.1.ext0 (a.trans d)).ext (c.set3 _ _ _).2 (a0b (by omega))).cell 1 rfl,((g.out.1.ext0 (a.trans d)).ext (c.set3 _ _ _).2 (a0b (by omega))).cell 2 rfl,((g.out.2.ext0 (a.trans d)).ext (c.set3 _ _ _).2 (a0b (by omega))).cell 0 rfl,((g.out.2.ext0 (a.trans d)).ext (c.set3 _ _ _).2 (a0b (by omega))).cell 1 rfl,((g.out.2.ext0 (a.trans d)).ext (c.set3 _ _ _).2 (a0b (by omega))).cell 2 rfl⟩|go_keep)
  (first|(go_at_call 237;(with_reducible refine(c1u (a0f X b 3) W.drew _ y l U).mono ?_);rintro ee w5 ⟨K,u5,rfl,S⟩;have P:=HX.ext l K;have V:=mkx QV.mono T K)|(go_at_call 182;(with_reducible refine(b2R (a0f X b 3) w5 _ _ x (-y) P V (S.qv R.out)).mono ?_);rintro ee w6 ⟨M,u6,rfl,i⟩;obtain⟨s6,a6,n6,c6,d6,k6,e6,rfl⟩:=i.shape;have d:=K.trans M;have c:=b2.ext0 (a.trans d);have g0:=c.cell 0 rfl;have g1:=c.cell 1 rfl;have g2:=c.cell 2 rfl;have f0:=c.frozen 0;have f1:=c.frozen 1;have f2:=c.frozen 2))
 rw[m.out]at i;obtain⟨q1,q2⟩:=c.set3 (.bool s6) (.slice a6 n6 c6) (.slice d6 k6 e6);have h7:=QC.mono _ _ _ _ a0k (QC.mono _ _ _ _ (a0h q2 (by omega) (by omega)) i);have N:Ext w _:=ExtX.box (L.trans (a.trans d)) q2 (by omega);clear g0 g1 g2 f0 f1 f2 Y Z a0 a3 a4 a5 O g;go_wp2_with fail
 exact bodyPost_ret (a0e rfl rfl a0p q1 rfl) rfl ⟨N,_,rfl,h7⟩
def e5(b:Bool):Int:=if b then 5 else 0
def b7z(X:Nat->Bool)(w:World)(q:Rat)(c:Int)(e:Ending)(w':World):Prop:=Ext w w'/\∃u,e=.returned (.tuple #[u,.int .i64 c])/\QC (mk X w') u q
theorem b6u(x y:Int)(h:0<y):mkRat x y.natAbs=(x:Rat)/(y:Rat):=by
 rw[Rat.mkRat_eq_div,<-Rat.intCast_natCast,Int.natAbs_of_nonneg (by omega)]
theorem b9f(x y:Int)(h:y<0):mkRat (-x) y.natAbs=(x:Rat)/(y:Rat):=by
 rw[Rat.mkRat_eq_div,<-Rat.intCast_natCast,Int.ofNat_natAbs_of_nonpos (by omega),Rat.intCast_neg,Rat.intCast_neg,Rat.div_def,Rat.div_def,show(-(y:Rat))⁻¹= -(y:Rat)⁻¹ by grind];grind
theorem _root_.Go.Rep.ZC.mag{h:Mem}{s:Bool}{ao:Option Addr}{n c:Nat}{y:Int}(f:ZC h (.agg #[.bool s,.slice ao n c]) y):NC h (.slice ao n c) y.natAbs:=by
 obtain⟨_,_,_,l,a,b,d,e⟩:=f;simp only[Value.agg.injEq,Array.mk.injEq,List.cons.injEq,Value.bool.injEq,Value.slice.injEq,and_true]at a;obtain⟨rfl,rfl,rfl,rfl⟩:=a;exact⟨_,_,_,rfl,b,d.2,e⟩
theorem _root_.Go.Rep.ZC.shape{h:Mem}{u:Value}{q:Int}(a:ZC h u q):∃s ao n c,u=.agg #[.bool s,.slice ao n c]:=by
 obtain⟨s,ao,c,m,rfl,_⟩:=a;exact⟨_,_,_,_,rfl⟩
theorem c0v(X:Nat->Bool)(w:World)(u v:Value)(x y:Int)(hX:HX X w)(hu:ZC (mk X w) u x)(hv:ZC (mk X w) v y)(hx:lg x.natAbs<=549755813888)(hy:lg y.natAbs<=549755813888):Calls Tryz.prog 295 #[u,v] w (b7z X w ((x:Rat)/(y:Rat)) (e5 (decide (y=0)))):=by
 have c4:=hid hx;have c5:=hid hy;obtain⟨s1,a1,n1,c1,rfl⟩:=hu.shape;obtain⟨s2,U,n2,Y,rfl⟩:=hv.shape;obtain⟨W,hW,hE,b0,b1,b2,hz⟩:=a2p w #[.bool s1,.slice a1 n1 c1] #[.bool s2,.slice U n2 Y] #[.bool false,.slice none 0 0,.slice none 0 0] 39 39 41;have O:HX (a0f X w.heap.size 3) W:=hX.boxes hz;have b3:=ZC.mono _ _ _ _ (a0j (nb:=3) hE) hu;have P:=ZC.mono _ _ _ _ (a0j (nb:=3) hE) hv;obtain⟨b,hb⟩:∃b,w.heap.size=b:=⟨_,rfl⟩;have e4:w.heap.size<=b:=by omega
 rw[hb]at b0 b1 b2 hz O b3 P;have b4:=P.zv hy;have e1:=b3.zv hx;have r:=b0.cell 0 rfl;have s:=b0.cell 1 rfl;have t:=b1.cell 0 rfl;have A:=b1.cell 1 rfl;have n:y=0\/0<y\/y<0:=by omega
 obtain⟨ec,j⟩:∃ec:Int,e5 (decide (y=0))=ec:=⟨_,rfl⟩;obtain⟨q,o⟩:∃q:Rat,(x:Rat)/(y:Rat)=q:=⟨_,rfl⟩;rw[j,o];clear hu hv hx hy;go_enter Tryz.func295,Tryz.ntmps295
 go_wp2_with fail
 refine(b1r (a0f X b 3) W _ _ O b4).mono ?_;rintro e w5 ⟨i,rfl⟩;have M:=b0.ext0 i;have N:=b1.ext0 i;have a:=b2.ext0 i;have d0:=M.cell 0 rfl;have d1:=M.cell 1 rfl;have d2:=N.cell 0 rfl;have d3:=N.cell 1 rfl;clear r s t A;rcases n with n|n|n
 ·have H:Hid ((5:Int)=ec):=hid (by rw[<-j,decide_eq_true n];rfl)
  have m:Hid ((0:Rat)=q):=hid (by rw[<-o,n,Rat.intCast_zero,Rat.div_def,Rat.inv_zero,Rat.mul_zero]);have hI:(y.sign==0)=true:=by rw[n];rfl
  generalize y.sign=d4 at*;clear n j o;go_wp2_with ((with_reducible show wpList _ _ _ (⟨_,.store _ _ _,_,_,_,_⟩::_) _ _);refine a0a a0p rfl rfl a rfl rfl (a1z _ _ _ _ _ _ _) ?_;intro w7 r1 T)
  exact bodyPost_ret (a0J rfl rfl a0p r1 rfl) rfl ⟨ExtX.box (hE.trans i) T (by omega),_,by rw[<-H.out];rfl,by rw[<-m.out];exact QC.zero _⟩
 ·have H:Hid (ec=(0:Int)):=hid (by rw[<-j,decide_eq_false (by omega)];rfl)
  have m:Hid (mkRat x y.natAbs=q):=hid (by rw[<-o];exact b6u x y n);have hI:(y.sign==0)=false:=by rw[Int.sign_eq_one_of_pos n];rfl
  have d8:decide (y.sign<0)=false:=by rw[Int.sign_eq_one_of_pos n];rfl
  have b6:Hid (0<y.natAbs):=hid (by omega);have J:=mkx ZV.mono b4 i;have l:=O.ext i;clear n j o;go_wp2_with fail
  refine(b1r (a0f X b 3) w5 _ _ l J).mono ?_;rintro e k ⟨g,rfl⟩;generalize y.sign=d4 at*;have d:=M.ext0 g;have f:=N.ext0 g;have C:=a.ext0 g;have a7:=l.ext g;have a5:=hE.trans (i.trans g);have b9:=mkx ZC.mono (mkx ZC.mono b3 i) g;have b8:=(mkx ZC.mono (mkx ZC.mono P i) g).mag;clear d0 d1 d2 d3;generalize e8:s1=sz at*;generalize e3:a1=V at*;generalize e7:n1=nz at*;generalize e6:c1=Z at*;generalize e2:x=z at*;have E:=c4;have b7:Hid (z+0=z):=hid (by omega);go_upto_region 5 with(fail)
  have c:Ext k k.drew:=(ExtX.refl k).drew;have G:HX (a0f X b 3) k.drew:=a7;have K:ZC (mk (a0f X b 3) k.drew) (.agg #[.bool sz,.slice V nz Z]) z:=b9;have L:NC (mk (a0f X b 3) k.drew) (.slice U n2 Y) y.natAbs:=b8;have b5:=K.zv E.out;have a0:=ZC.zv (ZC.zero (mk (a0f X b 3) k.drew)) (by decide);have F:=hid (And.intro d f);have hS:Hid (∀W',Ext k.drew W'->W'.cell? ⟨b,0,none⟩=some (.bool sz)/\W'.cell? ⟨b,1,none⟩=some (.slice V nz Z)/\W'.cell? ⟨b+1,0,none⟩=some (.bool s2)/\W'.cell? ⟨b+1,1,none⟩=some (.slice U n2 Y)):=
   hid fun W' h=>⟨(d.ext0 (c.trans h)).cell 0 rfl,(d.ext0 (c.trans h)).cell 1 rfl,(f.ext0 (c.trans h)).cell 0 rfl,(f.ext0 (c.trans h)).cell 1 rfl⟩
  have r:=d.cell 0 rfl;have s:=d.cell 1 rfl;have t:=f.cell 0 rfl;have A:=f.cell 1 rfl;go_region_held3 (fun R=>R.cell? ⟨b,0,none⟩=some (.bool sz)/\R.cell? ⟨b,1,none⟩=some (.slice V nz Z)/\R.cell? ⟨b+1,0,none⟩=some (.bool s2)/\R.cell? ⟨b+1,1,none⟩=some (.slice U n2 Y))
   (first|exact hS.out _ Q|exact hS.out _ B|exact⟨((F.out.1.ext0 (c.trans B)).ext (a.set3 _ _ _).2 (a0b (by omega))).cell 0 rfl,((F.out.1.ext0 (c.trans B)).ext (a.set3 _ _ _).2 (a0b (by omega))).cell 1 rfl,((F.out.2.ext0 (c.trans B)).ext (a.set3 _ _ _).2 (a0b (by omega))).cell 0 rfl,((F.out.2.ext0 (c.trans B)).ext (a.set3 _ _ _).2 (a0b (by omega))).cell 1 rfl⟩|go_keep)
   (first|(go_at_call 264;(with_reducible refine(b9c (a0f X b 3) k.drew _ _ _ _ G b5 a0).mono ?_);rintro ee w8 ⟨Q,u8,rfl,I⟩;rw[b7.out]at I;have a6:=HX.ext G Q;have a8:=mkx NC.mono L Q)|(go_at_call 233;(with_reducible refine(a5w (a0f X b 3) w8 _ _ z y.natAbs a6 I a8 E.out c5.out b6.out).mono ?_);rintro ee w9 ⟨a3,u9,rfl,p⟩;obtain⟨s9,a9,n9,c9,d9,k9,e9,rfl⟩:=p.shape;have B:=Q.trans a3;have a:=C.ext0 (c.trans B);have g0:=a.cell 0 rfl;have g1:=a.cell 1 rfl;have g2:=a.cell 2 rfl;have f0:=a.frozen 0;have f1:=a.frozen 1;have f2:=a.frozen 2))
  rw[m.out]at p;obtain⟨q1,q2⟩:=a.set3 (.bool s9) (.slice a9 n9 c9) (.slice d9 k9 e9);have h7:=QC.mono _ _ _ _ a0k (QC.mono _ _ _ _ (a0h q2 (by omega) (by omega)) p);have a4:Ext w _:=ExtX.box (a5.trans (c.trans B)) q2 (by omega);clear g0 g1 g2 f0 f1 f2 r s t A hS F;go_wp2_with fail
  exact bodyPost_ret (a0J rfl rfl a0p q1 rfl) rfl ⟨a4,_,by rw[H.out];rfl,h7⟩
 ·have H:Hid (ec=(0:Int)):=hid (by rw[<-j,decide_eq_false (by omega)];rfl)
  have m:Hid (mkRat (-x) y.natAbs=q):=hid (by rw[<-o];exact b9f x y n);have hI:(y.sign==0)=false:=by rw[Int.sign_eq_neg_one_of_neg n];rfl
  have d8:decide (y.sign<0)=true:=by rw[Int.sign_eq_neg_one_of_neg n];rfl
  have b6:Hid (0<y.natAbs):=hid (by omega);have J:=mkx ZV.mono b4 i;have l:=O.ext i;clear n j o;go_wp2_with fail
  refine(b1r (a0f X b 3) w5 _ _ l J).mono ?_;rintro e w6 ⟨g,rfl⟩;generalize y.sign=d4 at*;have d:=M.ext0 g;have f:=N.ext0 g;have C:=a.ext0 g;have S:=l.ext g;have c8:=mkx ZV.mono (mkx ZV.mono e1 i) g;clear d0 d1 d2 d3;have r:=d.cell 0 rfl;have s:=d.cell 1 rfl;have t:=f.cell 0 rfl;have A:=f.cell 1 rfl;go_wp2_with fail
  refine(c1i (a0f X b 3) w6 _ _ S c8).mono ?_;rintro e w7 ⟨D,u7,rfl,c6⟩;obtain⟨sz,V,nz,Z,rfl⟩:=c6.shape;have d5:=d.ext0 D;have d6:=f.ext0 D;have d7:=C.ext0 D;have c3:=S.ext D;have c0:=hE.trans (i.trans (g.trans D));have c7:=(mkx ZC.mono (mkx ZC.mono (mkx ZC.mono P i) g) D).mag;have e0:Hid (lg (-x).natAbs<=549755813888):=hid (by rw[Int.natAbs_neg];exact c4.out);clear r s t A d f C;generalize e2: -x=z at*;go_upto_region 5 with((with_reducible show wpList _ _ _ (⟨_,.store _ _ _,_,_,_,_⟩::_) _ _);refine a0a a0I rfl rfl d5 rfl rfl (a2V _ _ _ _) ?_;intro k d T)
  have f:=d6.ext T (a0b (by omega));have C:=d7.ext T (a0b (by omega));have a7:=c3.ext T;have b9:=ZC.mono _ _ _ _ (a0h (X:=X) (lo:=b) (nb:=3) T (by omega) (by omega)) c6;have b8:=NC.mono _ _ _ _ (a0h (X:=X) (lo:=b) (nb:=3) T (by omega) (by omega)) c7;have a5:Ext w k:=ExtX.box c0 T (by omega);have E:=e0;have b7:Hid (z+0=z):=hid (by omega);have c:Ext k k.drew:=(ExtX.refl k).drew;have G:HX (a0f X b 3) k.drew:=a7;have K:ZC (mk (a0f X b 3) k.drew) (.agg #[.bool sz,.slice V nz Z]) z:=b9;have L:NC (mk (a0f X b 3) k.drew) (.slice U n2 Y) y.natAbs:=b8;have b5:=K.zv E.out;have a0:=ZC.zv (ZC.zero (mk (a0f X b 3) k.drew)) (by decide);have F:=hid (And.intro d f);have hS:Hid (∀W',Ext k.drew W'->W'.cell? ⟨b,0,none⟩=some (.bool sz)/\W'.cell? ⟨b,1,none⟩=some (.slice V nz Z)/\W'.cell? ⟨b+1,0,none⟩=some (.bool s2)/\W'.cell? ⟨b+1,1,none⟩=some (.slice U n2 Y)):=
   hid fun W' h=>⟨(d.ext0 (c.trans h)).cell 0 rfl,(d.ext0 (c.trans h)).cell 1 rfl,(f.ext0 (c.trans h)).cell 0 rfl,(f.ext0 (c.trans h)).cell 1 rfl⟩
  have r:=d.cell 0 rfl;have s:=d.cell 1 rfl;have t:=f.cell 0 rfl;have A:=f.cell 1 rfl;go_region_held3 (fun R=>R.cell? ⟨b,0,none⟩=some (.bool sz)/\R.cell? ⟨b,1,none⟩=some (.slice V nz Z)/\R.cell? ⟨b+1,0,none⟩=some (.bool s2)/\R.cell? ⟨b+1,1,none⟩=some (.slice U n2 Y))
   (first|exact hS.out _ Q|exact hS.out _ B|exact⟨((F.out.1.ext0 (c.trans B)).ext (a.set3 _ _ _).2 (a0b (by omega))).cell 0 rfl,((F.out.1.ext0 (c.trans B)).ext (a.set3 _ _ _).2 (a0b (by omega))).cell 1 rfl,((F.out.2.ext0 (c.trans B)).ext (a.set3 _ _ _).2 (a0b (by omega))).cell 0 rfl,((F.out.2.ext0 (c.trans B)).ext (a.set3 _ _ _).2 (a0b (by omega))).cell 1 rfl⟩|go_keep)
   (first|(go_at_call 264;(with_reducible refine(b9c (a0f X b 3) k.drew _ _ _ _ G b5 a0).mono ?_);rintro ee w8 ⟨Q,u8,rfl,I⟩;rw[b7.out]at I;have a6:=HX.ext G Q;have a8:=mkx NC.mono L Q)|(go_at_call 233;(with_reducible refine(a5w (a0f X b 3) w8 _ _ z y.natAbs a6 I a8 E.out c5.out b6.out).mono ?_);rintro ee w9 ⟨a3,u9,rfl,p⟩;obtain⟨s9,a9,n9,c9,d9,k9,e9,rfl⟩:=p.shape;have B:=Q.trans a3;have a:=C.ext0 (c.trans B);have g0:=a.cell 0 rfl;have g1:=a.cell 1 rfl;have g2:=a.cell 2 rfl;have f0:=a.frozen 0;have f1:=a.frozen 1;have f2:=a.frozen 2))
  rw[m.out]at p;obtain⟨q1,q2⟩:=a.set3 (.bool s9) (.slice a9 n9 c9) (.slice d9 k9 e9);have h7:=QC.mono _ _ _ _ a0k (QC.mono _ _ _ _ (a0h q2 (by omega) (by omega)) p);have a4:Ext w _:=ExtX.box (a5.trans (c.trans B)) q2 (by omega);clear g0 g1 g2 f0 f1 f2 r s t A hS F;go_wp2_with fail
  exact bodyPost_ret (a0J rfl rfl a0p q1 rfl) rfl ⟨a4,_,by rw[H.out];rfl,h7⟩
theorem b6v(x y:Rat):((x.num*(y.den:Int):Int):Rat)/((y.num*(x.den:Int):Int):Rat)=x/y:=by
 have c:(x.num:Rat)/(x.den:Rat)=x:=by rw[<-Rat.mkRat_eq_div];exact Rat.mkRat_self x
 have a:(y.num:Rat)/(y.den:Rat)=y:=by rw[<-Rat.mkRat_eq_div];exact Rat.mkRat_self y
 rw[Rat.intCast_mul,Rat.intCast_mul,Rat.intCast_natCast,Rat.intCast_natCast];have d:(x.den:Rat)≠0:=by have:=x.den_nz;exact_mod_cast this
 have e:(y.den:Rat)≠0:=by have:=y.den_nz;exact_mod_cast this
 by_cases b:(y.num:Rat)=0
 ·rw[<-a,b];simp[Rat.div_def]
 ·conv=>rhs;rw[<-c,<-a]
  grind
theorem b4R(y x:Rat):y.num*(x.den:Int)=0↔y=0:=by
 have a:(x.den:Int)≠0:=by have:=x.den_nz;omega
 rw[Int.mul_eq_zero,Rat.num_eq_zero];exact or_iff_left a
theorem c0l(X:Nat->Bool)(w:World)(u v:Value)(x y:Rat)(hX:HX X w)(hu:QV (mk X w) u x)(hv:QV (mk X w) v y):Calls Tryz.prog 236 #[u,v] w (b7z X w (x/y) (e5 (decide (y=0)))):=by
 have l:=hid hu.hq;have m:=hid hv.hq;obtain⟨s1,a1,n1,c1,d1,k1,e1,rfl⟩:=hu.shape;obtain⟨s2,a2,n2,c2,d2,k2,e2,rfl⟩:=hv.shape;obtain⟨W,hW,hE,g,i,N,hz⟩:=a2p w #[.bool s1,.slice a1 n1 c1,.slice d1 k1 e1] #[.bool s2,.slice a2 n2 c2,.slice d2 k2 e2] #[.bool false,.slice none 0 0,.slice none 0 0] 41 41 41;have b3:HX (a0f X w.heap.size 3) W:=hX.boxes hz;have H:=QV.mono _ _ _ _ (a0j (nb:=3) hE) hu;have I:=QV.mono _ _ _ _ (a0j (nb:=3) hE) hv;obtain⟨b,hb⟩:∃b,w.heap.size=b:=⟨_,rfl⟩;have i2:w.heap.size<=b:=by omega
 rw[hb]at g i N hz b3 H I;have c:Ext W W.drew:=(ExtX.refl W).drew;have d:HX (a0f X b 3) W.drew:=b3;have b7:QV (mk (a0f X b 3) W.drew) (.agg #[.bool s1,.slice a1 n1 c1,.slice d1 k1 e1]) x:=H;have b8:QV (mk (a0f X b 3) W.drew) (.agg #[.bool s2,.slice a2 n2 c2,.slice d2 k2 e2]) y:=I;have p:=g.cell 0 rfl;have q:=g.cell 1 rfl;have r:=g.cell 2 rfl;have s:=i.cell 0 rfl;have t:=i.cell 1 rfl;have z:=i.cell 2 rfl;clear hu hv;obtain⟨ec,j⟩:∃ec:Int,e5 (decide (y=0))=ec:=⟨_,rfl⟩;rw[j]
 replace j:=hid j
 go_enter Tryz.func236,Tryz.ntmps236
 go_upto_region 1 with(fail)
 go_cut []from 6 to 9 (fun Z=>∃L C J E O U Q M D K F P V R,Bx Z b #[.bool L,.slice C J E,.slice O U Q] 41/\Bx Z (b+1) #[.bool M,.slice D K F,.slice P V R] 41/\Bx Z (b+1+1) #[.bool false,.slice none 0 0,.slice none 0 0] 41/\QC (mk (a0f X b 3) Z) (.agg #[.bool L,.slice C J E,.slice O U Q]) x/\QC (mk (a0f X b 3) Z) (.agg #[.bool M,.slice D K F,.slice P V R]) y/\Ext w Z)
 case first=>
  go_region_with (first|(go_at_call 207;(with_reducible refine(a4w (a0f X b 3) W.drew _ x d b7).mono ?_);rintro S w5 ⟨k,u5,rfl,b5⟩;obtain⟨s5,a5,n5,c5,d5,k5,e5,rfl⟩:=b5.shape;have n:=g.ext0 (c.trans k);have o:=i.ext0 (c.trans k);have f3:=n.cell 0 rfl;have f4:=n.cell 1 rfl;have f5:=n.cell 2 rfl;have f6:=o.cell 0 rfl;have f7:=o.cell 1 rfl;have f8:=o.cell 2 rfl)|(go_at_call 207;(with_reducible refine(a4w (a0f X b 3) w5 _ y (HX.ext d k) (mkx QV.mono b8 k)).mono ?_);rintro S w6 ⟨f,u6,rfl,b6⟩;obtain⟨s6,a6,n6,c6,d6,k6,e6,rfl⟩:=b6.shape;have a:=n.ext0 f;have e:=o.ext0 f;have g9:=a.cell 0 rfl;have h0:=a.cell 1 rfl;have h1:=a.cell 2 rfl;have h2:=e.cell 0 rfl;have h3:=e.cell 1 rfl;have h4:=e.cell 2 rfl;have g3:=a.frozen 0;have g4:=a.frozen 1;have g7:=a.frozen 2;have g5:=e.frozen 0;have g6:=e.frozen 1;have g8:=e.frozen 2))
  all_goals
   obtain⟨wf,b9,q0,q1,q2,q3,q4⟩:=a2j (X:=X) (nb:=3) a e (hE.trans ((c.trans k).trans f)) i2 (by omega) (.bool s5) (.slice a5 n5 c5) (.slice d5 k5 e5) (.bool s6) (.slice a6 n6 c6) (.slice d6 k6 e6);rw[b9];have i4:QC (mk (a0f X b 3) wf) (.agg #[.bool s5,.slice a5 n5 c5,.slice d5 k5 e5]) x:=QC.mono _ _ _ _ q4 (mkx QC.mono b5 f);have i5:QC (mk (a0f X b 3) wf) (.agg #[.bool s6,.slice a6 n6 c6,.slice d6 k6 e6]) y:=QC.mono _ _ _ _ q4 b6;have q5:=q2 (b+1+1) _ _ (by omega) (by omega) ((N.ext0 (c.trans k)).ext0 f);clear f3 f4 f5 f6 f7 f8 g9 h0 h1 h2 h3 h4 g3 g4 g5 g6 g7 g8 p q r s t z b9;go_wp2_with fail
   go_meet
   exact⟨_,_,_,_,_,_,_,_,_,_,_,_,_,_,q0,q1,q5,i4,i5,q3⟩
 case rest=>
  clear p q r s t z g i N H I b7 b8 d c hW;obtain⟨L,C,J,E,O,U,Q,M,D,K,F,P,V,R,g,i,N,hx,hy,a0⟩:=hcut;have c8:w.heap.size+3<=wc.heap.size:=by have:=N.lt;omega
  obtain⟨j3,l2,k7⟩:=hx.num;obtain⟨j6,l3,k8⟩:=hy.num;have i1:HX (a0f X b 3) wc:=hX.boxes' a0 (by have:=c8;omega) c8;have p:=g.cell 0 rfl;have q:=g.cell 1 rfl;have r:=g.cell 2 rfl;have s:=i.cell 0 rfl;have t:=i.cell 1 rfl;have z:=i.cell 2 rfl;have c:Ext wc wc.drew:=(ExtX.refl wc).drew;have d:HX (a0f X b 3) wc.drew:=i1;have j2:QC (mk (a0f X b 3) wc.drew) (.agg #[.bool L,.slice C J E,.slice O U Q]) x:=hx;have j5:QC (mk (a0f X b 3) wc.drew) (.agg #[.bool M,.slice D K F,.slice P V R]) y:=hy;have c0:ZC (mk (a0f X b 3) wc.drew) (.agg #[.bool L,.slice C J E]) x.num:=j3;have c7:ZC (mk (a0f X b 3) wc.drew) (.agg #[.bool M,.slice D K F]) y.num:=j6;have d9:lg x.num.natAbs<=549755813888:=c1A (c1A (a0C x) l.out) (by omega);have e7:lg y.num.natAbs<=549755813888:=c1A (c1A (a0C y) m.out) (by omega);have d8:lg x.den<=549755813888:=c1A (c1A (a0E x) l.out) (by omega);have e0:lg y.den<=549755813888:=c1A (c1A (a0E y) m.out) (by omega);have d0:lg (x.num*(y.den:Int)).natAbs<=274877906944:=by rw[Int.natAbs_mul,Int.natAbs_natCast];have:=a0Z x.num.natAbs y.den;have:=a0C x;have:=a0E y;have:=l.out;have:=m.out;omega
  have d7:lg (y.num*(x.den:Int)).natAbs<=274877906944:=by rw[Int.natAbs_mul,Int.natAbs_natCast];have:=a0Z y.num.natAbs x.den;have:=a0C y;have:=a0E x;have:=l.out;have:=m.out;omega
  have l0:lg (x.den*y.den)<=274877906944:=by have:=a0Z x.den y.den;have:=a0E x;have:=a0E y;have:=l.out;have:=m.out;omega
  have l1:lg (x.num*y.num).natAbs<=274877906944:=by rw[Int.natAbs_mul];have:=a0Z x.num.natAbs y.num.natAbs;have:=a0C x;have:=a0C y;have:=l.out;have:=m.out;omega
  have k9:0<x.den*y.den:=Nat.mul_pos x.den_pos y.den_pos;have G:=hid (And.intro g i);have T:Hid (∀W',Ext wc.drew W'->W'.cell? ⟨b,0,none⟩=some (.bool L)/\W'.cell? ⟨b,1,none⟩=some (.slice C J E)/\W'.cell? ⟨b,2,none⟩=some (.slice O U Q)/\W'.cell? ⟨b+1,0,none⟩=some (.bool M)/\W'.cell? ⟨b+1,1,none⟩=some (.slice D K F)/\W'.cell? ⟨b+1,2,none⟩=some (.slice P V R)):=
   hid fun W' h=>⟨(g.ext0 (c.trans h)).cell 0 rfl,(g.ext0 (c.trans h)).cell 1 rfl,(g.ext0 (c.trans h)).cell 2 rfl,(i.ext0 (c.trans h)).cell 0 rfl,(i.ext0 (c.trans h)).cell 1 rfl,(i.ext0 (c.trans h)).cell 2 rfl⟩
  have b4:Hid (((x.num*(y.den:Int):Int):Rat)/((y.num*(x.den:Int):Int):Rat)=x/y):=hid (b6v x y);have i3:Hid (e5 (decide (y.num*(x.den:Int)=0))=ec):=hid (by rw[<-j.out];simp only[b4R]);go_wp2_with fail
  go_region_held3 (fun Y=>Y.cell? ⟨b,0,none⟩=some (.bool L)/\Y.cell? ⟨b,1,none⟩=some (.slice C J E)/\Y.cell? ⟨b,2,none⟩=some (.slice O U Q)/\Y.cell? ⟨b+1,0,none⟩=some (.bool M)/\Y.cell? ⟨b+1,1,none⟩=some (.slice D K F)/\Y.cell? ⟨b+1,2,none⟩=some (.slice P V R))
   (first|exact T.out _ t1|exact T.out _ t2|exact T.out _ t3|exact T.out _ t4|exact T.out _ A|exact⟨((G.out.1.ext0 (c.trans A)).ext (a.set3 _ _ _).2 (a0b (by omega))).cell 0 rfl,((G.out.1.ext0 (c.trans A)).ext (a.set3 _ _ _).2 (a0b (by omega))).cell 1 rfl,((G.out.1.ext0 (c.trans A)).ext (a.set3 _ _ _).2 (a0b (by omega))).cell 2 rfl,((G.out.2.ext0 (c.trans A)).ext (a.set3 _ _ _).2 (a0b (by omega))).cell 0 rfl,((G.out.2.ext0 (c.trans A)).ext (a.set3 _ _ _).2 (a0b (by omega))).cell 1 rfl,((G.out.2.ext0 (c.trans A)).ext (a.set3 _ _ _).2 (a0b (by omega))).cell 2 rfl⟩|go_keep)
   (first|(go_at_call 235;(with_reducible refine(a9h (a0f X b 3) wc.drew _ y d j5).mono ?_);rintro S w5 ⟨t1,u5,rfl,i6⟩;have h6:=HX.ext d t1;have j0:=mkx ZC.mono c0 t1)|(go_at_call 260;(with_reducible refine(a5R (a0f X b 3) w5 _ _ x.num y.den h6 j0 i6 d9 e0).mono ?_);rintro S w6 ⟨f,u6,rfl,i7⟩;have t2:=t1.trans f;have h8:=HX.ext d t2;have j1:=mkx QC.mono j2 t2)|(go_at_call 235;(with_reducible refine(a9h (a0f X b 3) w6 _ x h8 j1).mono ?_);rintro S w7 ⟨a8,u7,rfl,i8⟩;have t3:=t2.trans a8;have h9:=HX.ext d t3;have j4:=mkx ZC.mono c7 t3)|(go_at_call 260;(with_reducible refine(a5R (a0f X b 3) w7 _ _ y.num x.den h9 j4 i8 e7 d8).mono ?_);rintro S w8 ⟨a9,u8,rfl,i9⟩;have t4:=t3.trans a9;have i0:=HX.ext d t4;have j7:=mkx ZC.mono i7 (a8.trans a9))|(go_at_call 295;(with_reducible refine(c0v (a0f X b 3) w8 _ _ _ _ i0 j7 i9 (c1A d0 (by decide)) (c1A d7 (by decide))).mono ?_);rintro S l5 ⟨a7,l4,rfl,B⟩;obtain⟨k0,c9,j9,e8,e9,j8,f9,rfl⟩:=B.shape;have A:=t4.trans a7;have a:=N.ext0 (c.trans A);have g0:=a.cell 0 rfl;have g1:=a.cell 1 rfl;have g2:=a.cell 2 rfl;have f0:=a.frozen 0;have f1:=a.frozen 1;have f2:=a.frozen 2))
  obtain⟨r1,r2⟩:=a.set3 (.bool k0) (.slice c9 j9 e8) (.slice e9 j8 f9);have h7:=QC.mono _ _ _ _ a0k (QC.mono _ _ _ _ (a0h r2 (by omega) (by omega)) B);rw[b4.out]at h7;have h5:Ext w _:=ExtX.box (a0.trans (c.trans A)) r2 (by omega);clear g0 g1 g2 f0 f1 f2 p q r s t z T G;go_wp2_with fail
  exact bodyPost_ret (a0J rfl rfl a0p r1 rfl) rfl ⟨h5,_,by rw[<-i3.out];rfl,h7⟩
theorem b4S(X:Nat->Bool)(w:World)(u:Value)(n:Nat)(hu:NC (mk X w) u n)(hn:lg n<=1099511627776):Calls Tryz.prog 199 #[u] w fun e w'=>w=w'/\e=.returned (.bool (decide (n=1))):=by
 obtain⟨ao,ca,a,rfl,hca,hcan,hsa⟩:=hu;have hal:=hcan.len;by_cases h1:a.length=1
 ·have hk:0<a.length:=by omega
  have hcell:=hsa.nat 0 hk;have hh:=hsa.hd;obtain⟨x,rfl⟩:∃x,a= [x]:=by
   match a,h1 with
   | [x],_=>exact⟨x,rfl⟩
  have hnx:n=x:=by have:=hcan.2.2;simp[nv]at this;omega
  obtain rfl:=hnx;simp only[List.length_singleton,List.getElem_cons_zero]at hcell hca hh hk |-;by_cases h2:n=1
  ·have hI:((n:Int)==1)=true:=by rw[h2];rfl
   have hf:Hid (decide (n=1)=true):=hid (decide_eq_true h2);clear h2 h1 hcan hsa hal;go_enter Tryz.func199,Tryz.ntmps199
   go_wp2_with (with_reducible refine a0v a0S (by omega) (by assumption) ?_)
   go_ret
   exact⟨rfl,a0o hf.out.symm⟩
  ·have hI:((n:Int)==1)=false:=a2J (by omega)
   have hf:Hid (decide (n=1)=false):=hid (decide_eq_false h2);clear h2 h1 hcan hsa hal;go_enter Tryz.func199,Tryz.ntmps199
   go_wp2_with (with_reducible refine a0v a0S (by omega) (by assumption) ?_)
   go_ret
   exact⟨rfl,a0o hf.out.symm⟩
 ·have hI:((a.length:Int)==1)=false:=a2J (by omega)
  have hf:Hid (decide (n=1)=false):=hid (decide_eq_false (by rintro rfl;rw[a3F]at hal;exact h1 hal));have hal2:a.length<=1099511627776:=by omega
  clear h1 hal hn;go_enter Tryz.func199,Tryz.ntmps199
  go_wp2_with (with_reducible refine a0v a0S (by omega) (by assumption) ?_)
  go_ret
  exact⟨rfl,a0o hf.out.symm⟩
theorem b2S(X:Nat->Bool)(w:World)(s:Bool)(ao B:Option Addr)(c e:Nat)(m d:List Nat)(hX:HX X w)(hm:Sl (a0c .u32) 1 (mk X w) ao m)(hd:Sl (a0c .u32) 1 (mk X w) B d)(a2:m.length<=68719476736)(a1:d.length<=68719476736)(V:Dig m)(Q:Dig d)(U:m.length<=c)(P:d.length<=e):Calls Tryz.prog 195 #[.agg #[.bool s,.slice ao m.length c,.slice B d.length e]] w (b0B w (a1v s m d)):=by
 obtain⟨W,hW,n,A,hz⟩:=a1e w #[.bool s,.slice ao m.length c,.slice B d.length e] 41;have N:HX X W:=hX.ext n;have p:=hm.mono (a0c.mono _) (a0l n);have E:=hd.mono (a0c.mono _) (a0l n);obtain⟨b,hb⟩:∃b,w.heap.size=b:=⟨_,rfl⟩;rw[hb]at A hz;have x:=A.cell 0 rfl;have y:=A.cell 1 rfl;have z:=A.cell 2 rfl;have f:Hid (a1v s m d=(a1t s m&&a1H d&&(decide (d.length=0)||(decide (0<m.length)&& !(nv d==1)&&(Nat.gcd (nv m) (nv d)==1))))):=hid rfl;clear hX hm hd hz;cases j:a1t s m
 ·have i:Hid (a1v s m d=false):=hid (by rw[f.out,j];rfl)
  have k:=hid j;clear j f;go_enter Tryz.func195,Tryz.ntmps195
  go_wp2_with fail
  refine(a6w X W s ao c m p (by omega)).mono ?_;rintro e I ⟨a,rfl⟩;rw[k.out];clear x y z;go_wp2_with fail
  go_ret
  exact⟨n.trans a,a0o i.out.symm⟩
 ·cases t:a1H d
  ·have i:Hid (a1v s m d=false):=hid (by rw[f.out,j,t];rfl)
   have k:=hid j;have u:=hid t;clear j f t;go_enter Tryz.func195,Tryz.ntmps195
   go_wp2_with fail
   refine(a6w X W s ao c m p (by omega)).mono ?_;rintro e I ⟨a,rfl⟩;rw[k.out];have v:=(A.ext0 a).cell 2 rfl;have o:=E.mono (a0c.mono _) (a0l a);clear x y z;go_wp2_with fail
   refine(a2o X _ _ _ _ o (by omega)).mono ?_;rintro e w2 ⟨rfl,rfl⟩;rw[u.out];clear v;go_wp2_with fail
   go_ret
   exact⟨n.trans a,a0o i.out.symm⟩
  ·have i:Hid (a1v s m d=(decide (d.length=0)||(decide (0<m.length)&& !(nv d==1)&&(Nat.gcd (nv m) (nv d)==1)))):=hid (by rw[f.out,j,t];rfl)
   have k:=hid j;have u:=hid t;have H:a1H m=true:=by unfold a1t at j;simp at j;exact j.1
   have D:=hid (show a0M m (nv m)from⟨V,H,rfl⟩);have C:=hid (show a0M d (nv d)from⟨Q,t,rfl⟩);have h:=hid C.out.len;have r:=hid D.out.len;clear j f t H;go_enter Tryz.func195,Tryz.ntmps195
   go_wp2_with fail
   refine(a6w X W s ao c m p (by omega)).mono ?_;rintro J I ⟨a,rfl⟩;rw[k.out];have b1:=A.ext0 a;have v:=b1.cell 2 rfl;have a0:=b1.cell 1 rfl;have o:=E.mono (a0c.mono _) (a0l a);have S:=p.mono (a0c.mono _) (a0l a);have M:=N.ext a;have Y:NC (mk X I) (.slice ao m.length c) (nv m):=⟨ao,c,m,rfl,U,D.out,S⟩;have F:NC (mk X I) (.slice B d.length e) (nv d):=⟨B,e,d,rfl,P,C.out,o⟩;clear x y z;go_wp2_with fail
   refine(a2o X _ _ _ _ o (by omega)).mono ?_;rintro J w2 ⟨rfl,rfl⟩;rw[u.out];go_wp2_with fail
   refine(b4S X _ _ _ F (by rw[<-h.out];omega)).mono ?_;rintro J w3 ⟨rfl,rfl⟩;by_cases l:nv d=1
   ·have g:Hid (a1v s m d=false):=hid (by
     have h5:d.length≠0:=by rw[h.out,l,a3F];decide
     rw[i.out,l,decide_eq_false h5];simp)
    rw[decide_eq_true l];clear l i;go_wp2_with fail
    go_ret
    exact⟨n.trans a,a0o g.out.symm⟩
   ·rw[decide_eq_false l]
    by_cases q:d.length=0
    ·have g:Hid (a1v s m d=true):=hid (by rw[i.out,decide_eq_true q];rfl)
     have O:((d.length:Int)==0)=true:=by rw[q];rfl
     clear q l i;go_wp2_with fail
     go_ret
     exact⟨n.trans a,a0o g.out.symm⟩
    ·have O:((d.length:Int)==0)=false:=a2J (by omega)
     by_cases G:m.length=0
     ·have g:Hid (a1v s m d=false):=hid (by rw[i.out,decide_eq_false q,decide_eq_false (by omega)];rfl)
      have T:¬((0:Int)<(m.length:Int)):=by omega
      clear q l i G;go_wp2_with fail
      go_ret
      exact⟨n.trans a,a0o g.out.symm⟩
     ·have T:(0:Int)<(m.length:Int):=by omega
      have g:Hid (a1v s m d=decide (Nat.gcd (nv m) (nv d)=1)):=hid (by
       rw[i.out,decide_eq_false q,decide_eq_true (by omega),Bool.eq_iff_iff];simp[l])
      have R:Hid (lg (Nat.gcd (nv m) (nv d))<=1099511627776):=hid (by
       have h2:Nat.gcd (nv m) (nv d)<=nv d:=Nat.gcd_le_right _ (by
        rcases Nat.eq_zero_or_pos (nv d)with K|K
        ·exfalso;apply q;rw[h.out,K];rfl
        ·exact K)
       refine c1A (a1j h2) ?_;rw[<-h.out];omega)
      clear q l i G;go_wp2_with fail
      refine(b9b X _ _ _ _ _ M (Y.nv (by rw[<-r.out];omega)) (F.nv (by rw[<-h.out];omega)) (by rw[<-r.out];omega) (by rw[<-h.out];omega)).mono ?_;rintro e7 w7 ⟨L,u7,rfl,Z⟩;clear a0 v;go_wp2_with fail
      refine(b4S X _ _ _ Z R.out).mono ?_;rintro J w3 ⟨rfl,rfl⟩;rw[<-g.out];go_wp2_with fail
      go_ret
      exact⟨n.trans (a.trans L),rfl⟩
theorem _root_.Go.Rep.NC.zc{h:Mem}{ao:Option Addr}{n c k:Nat}(f:NC h (.slice ao n c) k):ZC h (.agg #[.bool false,.slice ao n c]) (k:Int):=by
 obtain⟨_,_,l,a,b,d,e⟩:=f;simp only[Value.slice.injEq]at a;obtain⟨rfl,rfl,rfl⟩:=a;exact⟨_,_,_,l,rfl,b,⟨(decide_eq_false (by omega)).symm,by rw[Int.natAbs_natCast];exact d⟩,e⟩
theorem a3G(X:Nat->Bool)(w:World)(u:Value)(q:Rat)(hX:HX X w)(hu:QV (mk X w) u q):Calls Tryz.prog 118 #[u] w (a1S X w QC q):=by
 have k:=hid hu.hq;obtain⟨s,ao,c,m,i,e,d,rfl,P,Q,R,S,h5,h6,T,h8,rfl⟩:=hu;obtain⟨W,hW,E,x,I,hz⟩:=a1w w #[.bool s,.slice ao m.length c,.slice i d.length e] #[.bool false,.slice none 0 0,.slice none 0 0] 41 41;have j:HX (a0f X w.heap.size 2) W:=hX.boxes hz;have l:Sl (a0c .u32) 1 (mk (a0f X w.heap.size 2) W) ao m:=T.mono (a0c.mono _) (a0j E);have n:Sl (a0c .u32) 1 (mk (a0f X w.heap.size 2) W) i d:=h8.mono (a0c.mono _) (a0j E);obtain⟨b,hb⟩:∃b,w.heap.size=b:=⟨_,rfl⟩;have c4:w.heap.size<=b:=by omega
 rw[hb]at x I hz l n j;have c0:=x.cell 0 rfl;have c1:=x.cell 1 rfl;have c2:=x.cell 2 rfl;cases t:a1v s m d
 ·have b7:=hid (a3M t)
  have r:=hid t;clear t k;go_enter Tryz.func118,Tryz.ntmps118
  go_wp2_with fail
  refine(b2S (a0f X b 2) W s ao i c e m d j l n h5 h6 R S P Q).mono ?_;rintro e1 w1 ⟨f,rfl⟩;rw[r.out];have J:=I.ext0 f;clear c0 c1 c2;go_wp2_with ((with_reducible show wpList _ _ _ (⟨_,.store _ _ _,_,_,_,_⟩::_) _ _);refine a0a a0p rfl rfl J rfl rfl (a1z _ _ _ _ _ _ _) ?_;intro w2 b2 a2)
  exact bodyPost_ret (a0e rfl rfl a0p b2 rfl) rfl ⟨ExtX.box (E.trans f) a2 (by omega),_,rfl,by rw[b7.out];exact QC.zero _⟩
 ·have r:=hid t
  have A:=a6Q.of_valid R S t;have hx:QC (mk (a0f X b 2) W) (.agg #[.bool s,.slice ao m.length c,.slice i d.length e]) (b4g s m d):=⟨s,ao,c,m,i,e,d,rfl,P,Q,A,l,n⟩;obtain⟨q,hq⟩:∃q,b4g s m d=q:=⟨_,rfl⟩;rw[hq]at hx k |-;clear t A hq;go_enter Tryz.func118,Tryz.ntmps118
  go_wp2_with fail
  refine(b2S (a0f X b 2) W s ao i c e m d j l n h5 h6 R S P Q).mono ?_;rintro e1 p ⟨f,rfl⟩;rw[r.out];have o:=x.ext0 f;have K:=I.ext0 f;have a3:=E.trans f;have b4:=mkx QC.mono hx f;have a5:=j.ext f;clear c0 c1 c2;obtain⟨b6,c5,C⟩:=b4.num;have g:Ext p p.drew:=(ExtX.refl p).drew;have z:HX (a0f X b 2) p.drew:=a5;have D:ZC (mk (a0f X b 2) p.drew) (.agg #[.bool s,.slice ao m.length c]) q.num:=b6;have B:NC (mk (a0f X b 2) p.drew) (.slice i d.length e) (dn q):=C;have M:lg q.num.natAbs<=549755813888:=c1A (c1A (a0C q) k.out) (by omega);have L:lg (dn q)<=549755813888:=c1A (c1A (b2O q) k.out) (by omega);have b5:=D.zv M;have b8:=o.cell 0 rfl;have b9:=o.cell 1 rfl;have c3:=o.cell 2 rfl;have hS:Hid (∀W',Ext p.drew W'->W'.cell? ⟨b,0,none⟩=some (.bool s)/\W'.cell? ⟨b,1,none⟩=some (.slice ao m.length c)/\W'.cell? ⟨b,2,none⟩=some (.slice i d.length e)):=
   hid fun W' h=>⟨(o.ext0 (g.trans h)).cell 0 rfl,(o.ext0 (g.trans h)).cell 1 rfl,(o.ext0 (g.trans h)).cell 2 rfl⟩
  go_wp2_with fail
  go_region_held3 (fun w'=>w'.cell? ⟨b,0,none⟩=some (.bool s)/\w'.cell? ⟨b,1,none⟩=some (.slice ao m.length c)/\w'.cell? ⟨b,2,none⟩=some (.slice i d.length e))
   (first|exact hS.out _ F|exact hS.out _ v|exact⟨((o.ext0 (g.trans v)).ext (a.set3 _ _ _).2 (a0b (by omega))).cell 0 rfl,((o.ext0 (g.trans v)).ext (a.set3 _ _ _).2 (a0b (by omega))).cell 1 rfl,((o.ext0 (g.trans v)).ext (a.set3 _ _ _).2 (a0b (by omega))).cell 2 rfl⟩|go_keep)
   (first|(go_at_call 194;(with_reducible refine(a3X (a0f X b 2) p.drew _ _ z b5).mono ?_);rintro ee w8 ⟨F,u8,rfl,s8,G,N,l8,rfl,U,V,Y⟩;have a6:=HX.ext z F;have b3:=(mkx NC.mono B F).nv (c1A L (by decide)))|(go_at_call 196;(with_reducible refine(a3V a6 b3).mono ?_);rintro ee w9 ⟨y,u9,rfl,H,O,l9,rfl,Z,a0,a1⟩;have v:=F.trans y;have a7:=Sl.mono (a0c.mono _) (a0l y) Y;have a:=K.ext0 (g.trans v);have g0:=a.cell 0 rfl;have g1:=a.cell 1 rfl;have g2:=a.cell 2 rfl;have f0:=a.frozen 0;have f1:=a.frozen 1;have f2:=a.frozen 2))
  obtain⟨q1,q2⟩:=a.set3 (.bool s8) (.slice G l8.length N) (.slice H l9.length O);have hz:ZC (mk (a0f X b 2) w9) (.agg #[.bool s8,.slice G l8.length N]) q.num:=⟨s8,G,N,l8,rfl,U,V,a7⟩;have hd:NC (mk (a0f X b 2) w9) (.slice H l9.length O) (dn q):=⟨H,O,l9,rfl,Z,a0,a1⟩;have T:=QC.mono _ _ _ _ a0k (QC.mono _ _ _ _ (a0h q2 (by omega) (by omega)) (QC.of hz hd));have a4:Ext w _:=ExtX.box (a3.trans (g.trans v)) q2 (by omega);clear g0 g1 g2 f0 f1 f2 b8 b9 c3 hS;go_wp2_with fail
  exact bodyPost_ret (a0e rfl rfl a0p q1 rfl) rfl ⟨a4,_,rfl,T⟩
theorem a8z(X:Nat->Bool)(w:World)(u:Value)(q:Rat)(I:HX X w)(r:QC (mk X w) u q)(hq:hq q<=549755813888):Calls Tryz.prog 122 #[u] w (a1S X w ZC (q.den:Int)):=by
 obtain⟨s,ao,n,c,G,k,e,rfl⟩:=r.shape;obtain⟨W,P,A,E,t,hz⟩:=a1w w #[.bool s,.slice ao n c,.slice G k e] #[.bool false,.slice none 0 0] 41 39;have d:HX (a0f X w.heap.size 2) W:=I.boxes hz;have hd:=NC.mono _ _ _ _ (a0j (nb:=2) A) r.num.2.2;have j:=hd.len0;rw[a3Y]at j;obtain⟨b,J⟩:∃b,w.heap.size=b:=⟨_,rfl⟩;have K:w.heap.size<=b:=by omega
 rw[J]at E t hz d hd;have C:=E.cell 2 rfl;have i:=hid (hd.nv (c1A (c1A (b2O q) hq) (by decide)));by_cases p:k=0
 ·have B:=hid (j.1 p)
  subst p;have f:Ext W (W.alloc (.cells #[.int .u32 ((1:Nat):Int)] 110)):=(ExtX.refl W).alloc _;have l:=NC.lit d 1 110 (by omega) (by omega);have a:=t.ext0 f;rw[show W.heap.size=b+2 by omega]at l;clear j hd i r;go_enter Tryz.func122,Tryz.ntmps122
  go_wp2_with ((with_reducible show wpList _ _ _ (⟨_,.store _ _ _,_,_,_,_⟩::_) _ _);refine a0a a0I rfl rfl a rfl rfl (a2V _ _ _ _) ?_;intro M D o)
  have z:=NC.mono _ _ _ _ a0k (NC.mono _ _ _ _ (a0h o (by omega) (by omega)) l);exact bodyPost_ret (a0e rfl rfl a0I D rfl) rfl ⟨ExtX.box (A.trans f) o (by omega),_,rfl,by rw[B.out];exact NC.zc z⟩
 ·have B:Hid (dn q=q.den):=hid (by unfold dn;rw[if_neg (fun h=>p (j.2 h))])
  have O:((k:Int)==0)=false:=a2J (by omega);clear j p r hd;go_enter Tryz.func122,Tryz.ntmps122
  go_wp2_with fail
  refine(a3V d i.out).mono ?_;rintro N R ⟨g,Q,rfl,m⟩;rw[B.out]at m;obtain⟨F,H,L,rfl,v,x,y⟩:=m;have a:=t.ext0 g;clear C;go_wp2_with ((with_reducible show wpList _ _ _ (⟨_,.store _ _ _,_,_,_,_⟩::_) _ _);refine a0a a0I rfl rfl a rfl rfl (a2V _ _ _ _) ?_;intro M D o)
  have z:=NC.mono _ _ _ _ a0k (NC.mono _ _ _ _ (a0h o (by omega) (by omega)) ⟨F,H,L,rfl,v,x,y⟩);exact bodyPost_ret (a0e rfl rfl a0I D rfl) rfl ⟨ExtX.box (A.trans g) o (by omega),_,rfl,NC.zc z⟩
theorem a0L{α:Type}(l:List α)(i:Nat)(h:i<l.length):l.take i++[l[i]]=l.take (i+1):=by
 rw[List.take_add_one,List.getElem?_eq_getElem h];rfl
theorem a0Q{α:Type}{l:List α}{i:Nat}(h:i<=l.length):(l.take i).length=i:=by simp;omega
theorem b1u(X:Nat->Bool)(w:World)(u:Value)(l:List Rat)(I:HX X w)(R:RV (mk X w) u l)(hl:l.length<=1000000):Calls Tryz.prog 246 #[u] w (a1S X w RC l):=by
 obtain⟨ao,Y,rfl,L,n⟩:=R;have M:=n.hd;go_enter Tryz.func246,Tryz.ntmps246
 go_wp2_with fail
 go_loopw [3,4] (fun o c wr=>∃(i:Nat) (b:Option Addr) (r:Nat),c=.int .i64 i/\o=.slice b i r/\i<=l.length/\OL QC 3 X w.heap.size 41 wr b r (l.take i)/\Ext w wr) (fun _ c _=>l.length - (intOf c).toNat)
 case atStart=>exact⟨0,none,0,rfl,rfl,Nat.zero_le _,OL.nil _ _ _ _ _ _,ExtX.refl _⟩
 case round=>
  obtain⟨i,b,r,rfl,rfl,N,d,f⟩:=hrel;have k:HX X wr:=I.ext f;have x:HX (un X b) wr:=d.unX k;have y:=f.size;by_cases m:i<l.length
  ·have B:Sl QV 3 (mk (un X b) wr) ao l:=n.old QV.mono f (fun j O=>d.ob_lt O)
   have C:=hid (a0L l i m);have A:=hid (a0Q N);go_wp2_with (first|(with_reducible refine a1I a0w (by omega) (by assumption) ?_)|((with_reducible show wpList _ _ _ (⟨_,.load _ _,_,_,_,_⟩::_) _ _);refine a0B a0p i B m rfl (by simp) QV.agg ?_;intro u5 p;obtain⟨s5,V,n5,W,Z,k5,e5,rfl⟩:=p.shape))
   refine(a3G (un X b) wr _ _ x p).mono ?_;rintro e w6 ⟨a,u6,rfl,q⟩;obtain⟨U,E,T,F,G,S,H,rfl⟩:=q.shape;have g:=d.ext0 QC.elem a;have J:=a.size;go_wp2_with (at_builtin;refine a0s (l:=l.take i) a0w rfl QC.elem (by omega) (k.ext a) i A.out rfl rfl g (.agg #[.bool U,.slice E T F,.slice G S H]) l[i] rfl q (by omega) (by omega) ?_;intro D s w7 h t P)
   have v:=(f.trans a).own g (c1B _) t;rw[C.out]at h;go_roundw
   case rel=>exact⟨i+1,D,s,by go_num,by go_num,by omega,h,v⟩
   case measure=>simp[intOf];omega
  ·have z:i=l.length:=by omega
   subst z;rw[List.take_length]at d;have K:=d.lenCap;have Q:=d.sl QC.elem;go_wp2_with fail
   go_ret
   exact⟨f,_,rfl,b,r,rfl,K,Q⟩
end Go.Proofs.YtnnpfhoigmegcaaGreat
namespace Go.Lin
open Go.Lim
end Go.Lin
namespace Go.Proofs.YtnnpfhoigmegcaaGreat
open Go.RowKit Go.Rep Go.Lim Go.Lin
end Go.Proofs.YtnnpfhoigmegcaaGreat
namespace Go.Lin
open Go.Lim
end Go.Lin
namespace Go.Proofs.YtnnpfhoigmegcaaGreat
open Go.RowKit Go.Rep Go.Lim
theorem b0F(z k:Int)(b:0<k):((z:Rat)/(k:Rat)).num=z/(Nat.gcd z.natAbs k.natAbs:Nat)/\(((z:Rat)/(k:Rat)).den:Int)=k/(Nat.gcd z.natAbs k.natAbs:Nat):=by
 have h:=b6u z k b;have a:k.natAbs≠0:=by omega
 rw[<-h,Rat.num_mkRat,Rat.den_mkRat];rw[if_neg a,if_neg a,Nat.gcd_comm k.natAbs];refine⟨rfl,?_⟩;rw[Int.natCast_ediv]
 congr 1
 omega
theorem b0G(X:Nat->Bool)(w:World)(u v:Value)(x y:Int)(hX:HX X w)(hu:ZC (mk X w) u x)(hv:ZC (mk X w) v y)(hx:lg x.natAbs<=274877906944)(hy:lg y.natAbs<=274877906944)(h4:y≠0):Calls Tryz.prog 119 #[u,v] w (a1S X w QC ((x:Rat)/(y:Rat))):=by
 have i7:=hid hx;have i8:=hid hy;obtain⟨s1,a1,n1,c1,rfl⟩:=hu.shape;obtain⟨s2,a2,n2,c2,rfl⟩:=hv.shape;obtain⟨W,hW,hE,b0,b1,b2,hz⟩:=a2p w #[.bool s1,.slice a1 n1 c1] #[.bool s2,.slice a2 n2 c2] #[.bool false,.slice none 0 0,.slice none 0 0] 39 39 41;have f7:HX (a0f X w.heap.size 3) W:=hX.boxes hz;have g9:=ZC.mono _ _ _ _ (a0j (nb:=3) hE) hu;have h3:=ZC.mono _ _ _ _ (a0j (nb:=3) hE) hv;obtain⟨b,hb⟩:∃b,w.heap.size=b:=⟨_,rfl⟩;have l1:w.heap.size<=b:=by omega
 rw[hb]at b0 b1 b2 hz f7 g9 h3;have i9:=h3.zv (c1A hy (by decide));have m4:=g9.zv (c1A hx (by decide));have s:=b0.cell 0 rfl;have t:=b0.cell 1 rfl;have A:=b1.cell 0 rfl;have B:=b1.cell 1 rfl;have h0:0<y\/y<0:=by omega
 obtain⟨q,d1⟩:∃q:Rat,(x:Rat)/(y:Rat)=q:=⟨_,rfl⟩;rw[d1];clear hu hv hx hy;go_enter Tryz.func119,Tryz.ntmps119
 go_wp2_with fail
 refine(b6p (a0f X b 3) W _ _ f7 i9).mono ?_;rintro e w5 ⟨p,rfl⟩;have f5:=b0.ext0 p;have f6:=b1.ext0 p;have h9:=b2.ext0 p;clear s t A B;rcases h0 with h0|h0
 ·have k8:decide (y.sign<0)=false:=by rw[Int.sign_eq_one_of_pos h0];rfl
  have hk:Hid (0<y):=hid h0;generalize y.sign=n3 at*;have d8:=mkx ZC.mono g9 p;have d6:=mkx ZC.mono h3 p;have b9:=f7.ext p;have a9:=hE.trans p;clear h0 h4;generalize m0:s1=sz at*;generalize l0:a1=az at*;generalize l8:n1=nz at*;generalize l3:c1=cz at*;generalize l9:s2=sk at*;generalize k9:a2=ak at*;generalize l7:n2=nk at*;generalize l2:c2=ck at*;generalize n6:w5=ws at*;generalize m6:x=z at*;generalize m7:y=k at*;have G:=f5;have H:=f6;have a8:=h9;have I:=i7;have l:=i8;have M:=hid d1;clear d1;have s:=G.cell 0 rfl;have t:=G.cell 1 rfl;have A:=H.cell 0 rfl;have B:=H.cell 1 rfl;have c4:=hid (Nat.gcd_pos_of_pos_right z.natAbs (show 0<k.natAbs by have:=hk.out;omega));have c7:=hid (show((Nat.gcd z.natAbs k.natAbs:Nat):Int)∣z from Int.ofNat_dvd_left.2 (Nat.gcd_dvd_left _ _));have c0:=hid (show((Nat.gcd z.natAbs k.natAbs:Nat):Int)∣k from Int.ofNat_dvd_left.2 (Nat.gcd_dvd_right _ _));have c3:=hid (show lg (Nat.gcd z.natAbs k.natAbs)<=274877906944 from c1A (a1j (Nat.gcd_le_right _ (by have:=hk.out;omega))) l.out);have j:=hid (b0F z k hk.out);obtain⟨g,hg⟩:∃g,Nat.gcd z.natAbs k.natAbs=g:=⟨_,rfl⟩;rw[hg]at c4 c7 c0 c3 j
  replace hg:=hid hg
  go_wp2_with fail
  refine(b9d (a0f X b 3) ws _ _ _ _ b9 (d8.zv (c1A I.out (by decide))) (d6.zv (c1A l.out (by decide))) I.out l.out).mono ?_;rintro e6 w6 ⟨n,ug,rfl,d2⟩;rw[hg.out]at d2;obtain⟨ag,cg,e2,rfl,g1,g2,g3⟩:=d2;have bg:=Bx.new w6 #[.bool false,.slice none 0 0] 39;have g6:=b9.ext n;clear s t A B;go_wp2_with ((with_reducible show wpList _ _ _ (⟨_,.store _ _ _,_,_,_,_⟩::_) _ _);refine a0a a0I rfl rfl bg rfl rfl (a2V _ _ _ _) ?_;intro w7 r1 r2;have m:Ext w6 w7:=ExtX.box ((ExtX.refl w6).alloc _) r2 (c1B _);have t7:=n.trans m;have s:=(G.ext0 t7).cell 0 rfl;have t:=(G.ext0 t7).cell 1 rfl;have a0:=r1.cell 0 rfl;have a3:=r1.cell 1 rfl)
  have b8:=(g6.ext m);have N:ZC (mk (a0f X b 3) w7) (.agg #[.bool false,.slice ag e2.length cg]) (g:Int):=NC.zc (NC.mono _ _ _ _ (a0l m) ⟨ag,cg,e2,rfl,g1,g2,g3⟩);have h5:=mkx ZC.mono d8 t7;have h:Hid (lg ((g:Int)).natAbs<=274877906944):=hid (by rw[Int.natAbs_natCast];exact c3.out);have L:Hid ((0:Int)<(g:Int)):=hid (by have:=c4.out;omega);refine(b4J (a0f X b 3) w7 _ _ z g b8 (h5.zv (c1A I.out (by decide))) (N.zv (c1A h.out (by decide))) I.out h.out L.out c7.out).mono ?_;rintro e8 w8 ⟨J,up,sv,av,nv,cv,rfl,d3⟩;obtain⟨sp,ap,np,cp,rfl⟩:=d3.shape;obtain⟨W8,g5,b5,bp,br,m8⟩:=a1w w8 #[.bool false,.slice none 0 0] #[.bool false,.slice none 0 0] 39 39;subst g5;clear s t a0 a3;go_wp2_with ((with_reducible show wpList _ _ _ (⟨_,.store _ _ _,_,_,_,_⟩::_) _ _);first|(refine a0a a0I rfl rfl bp rfl rfl (a2V _ _ _ _) ?_;intro w9 p1 p2;have F:=br.ext p2 (a0b (by omega)))|(refine a0a a0I rfl rfl F rfl rfl (a2V _ _ _ _) ?_;intro f2 p3 p4;have d:Ext w8 f2:=ExtX.box (ExtX.box b5 p2 (c1B _)) p4 (by omega);have D:=t7.trans (J.trans d);have A:=(H.ext0 D).cell 0 rfl;have B:=(H.ext0 D).cell 1 rfl;have e9:=r1.ext0 (J.trans d);have a0:=e9.cell 0 rfl;have a3:=e9.cell 1 rfl;have e3:=p1.ext p4 (a0b (by omega))))
  have r:=mkx ZC.mono d3 d;have b7:=(b8.ext J).ext d;have c8:=mkx ZC.mono d6 D;have U:=mkx ZC.mono (mkx ZC.mono N J) d;refine(b4J (a0f X b 3) f2 _ _ k g b7 (c8.zv (c1A l.out (by decide))) (U.zv (c1A h.out (by decide))) l.out h.out L.out c0.out).mono ?_;rintro f9 E ⟨a,uq,n4,j4,m9,j5,rfl,d4⟩;obtain⟨sq,aq,nq,cq,rfl⟩:=d4.shape;obtain⟨j3,b6,O,bq,f8,j1⟩:=a1w E #[.bool false,.slice none 0 0] #[.bool false,.slice none 0 0] 39 39;subst b6;clear A B a0 a3 F br;go_wp2_with ((with_reducible show wpList _ _ _ (⟨_,.store _ _ _,_,_,_,_⟩::_) _ _);first|(refine a0a a0I rfl rfl bq rfl rfl (a2V _ _ _ _) ?_;intro n5 p5 p6;have F:=f8.ext p6 (a0b (by omega)))|(refine a0a a0I rfl rfl F rfl rfl (a2V _ _ _ _) ?_;intro K p7 p8;have f:Ext E K:=ExtX.box (ExtX.box O p6 (c1B _)) p8 (by omega);have f0:=D.trans (a.trans f);have C:=p5.ext p8 (a0b (by omega));have h6:=C.cell 0 rfl;have e1:=C.cell 1 rfl;have g0:=C.frozen 0;have g4:=C.frozen 1;have e4:=e3.ext0 (a.trans f);have d9:=e4.cell 0 rfl;have e0:=e4.cell 1 rfl))
  have Z:=mkx ZC.mono d4 f;have V:=mkx ZC.mono (mkx ZC.mono r a) f;have d0:=Z.mag;have g7:Hid (lg (k/(g:Int)).natAbs<=1099511627776):=hid (by
   have h1:=j.out.2;have:(k/(g:Int)).natAbs<=k.natAbs:=by
    have:=Int.natAbs_ediv_le_natAbs k (g:Int);exact this
   exact c1A (a1j this) (c1A l.out (by decide)))
  have b3:=a8.ext0 f0;have Q:=a9.trans f0;refine(b4S _ _ _ _ d0 g7.out).mono ?_;rintro j9 c ⟨rfl,rfl⟩;have c9:Hid ((q.den:Int)=k/(g:Int)):=hid (by rw[<-M.out];exact j.out.2);have d7:Hid (q.num=z/(g:Int)):=hid (by rw[<-M.out];exact j.out.1);by_cases h1:(k/(g:Int)).natAbs=1
  ·have R:Hid (dn q=0):=hid ((a3Y q).2 (by have:=c9.out;have:=q.den_pos;omega))
   rw[decide_eq_true h1];clear h1;go_upto_region 8 with(fail)
   obtain⟨m1,m2⟩:=a1l C (.slice none 0 0) (i:=1) (by simp);obtain⟨c,d5⟩:∃c,K.setCell ⟨E.heap.size,1,none⟩ (.slice none 0 0)=c:=⟨_,rfl⟩;rw[d5]at m1 m2 |-;have o:Ext E c:=ExtX.box f m2 (c1B _);have f1:=D.trans (a.trans o);have b4:=a8.ext0 f1;have e7:=e3.ext0 (a.trans o);clear d9 e0 h6 e1 g0 g4;have d9:c.cell? ⟨w8.heap.size,0,none⟩=some (.bool sp):=e7.cell 0 rfl;have e0:c.cell? ⟨w8.heap.size,1,none⟩=some (.slice ap np cp):=e7.cell 1 rfl;have e1:c.cell? ⟨E.heap.size,1,none⟩=some (.slice none 0 0):=m1.cell 1 rfl;have Y:=mkx ZC.mono (mkx ZC.mono r a) o;go_wp2_with ((with_reducible show wpList _ _ _ (⟨_,.store _ _ _,_,_,_,_⟩::_) _ _);refine a0a a0p rfl rfl b4 rfl rfl (a1z _ _ _ _ _ _ _) ?_;intro h8 r3 r4)
   have T:ZC (mk (a0f X b 3) c) (.agg #[.bool sp,.slice ap np cp]) q.num:=by rw[d7.out];exact Y
   have S:NC (mk (a0f X b 3) c) (.slice none 0 0) (dn q):=by rw[R.out];exact NC.zero _
   have h7:=QC.mono _ _ _ _ a0k (QC.mono _ _ _ _ (a0h r4 (by omega) (by omega)) (QC.of T S));exact bodyPost_ret (a0e rfl rfl a0p r3 rfl) rfl ⟨ExtX.box (a9.trans f1) r4 (by omega),_,rfl,h7⟩
  ·have R:Hid (dn q=(k/(g:Int)).natAbs):=hid (by
    have h2:=c9.out;unfold dn;rw[if_neg (by omega)];omega)
   rw[decide_eq_false h1];clear h1;go_wp2_with ((with_reducible show wpList _ _ _ (⟨_,.store _ _ _,_,_,_,_⟩::_) _ _);refine a0a a0p rfl rfl b3 rfl rfl (a1z _ _ _ _ _ _ _) ?_;intro h8 r3 r4)
   have T:ZC (mk (a0f X b 3) K) (.agg #[.bool sp,.slice ap np cp]) q.num:=by rw[d7.out];exact V
   have S:NC (mk (a0f X b 3) K) (.slice aq nq cq) (dn q):=by rw[R.out];exact d0
   have h7:=QC.mono _ _ _ _ a0k (QC.mono _ _ _ _ (a0h r4 (by omega) (by omega)) (QC.of T S));exact bodyPost_ret (a0e rfl rfl a0p r3 rfl) rfl ⟨ExtX.box Q r4 (by omega),_,rfl,h7⟩
 ·have k8:decide (y.sign<0)=true:=by rw[Int.sign_eq_neg_one_of_neg h0];rfl
  have l4:Hid (0< -y):=hid (by omega);generalize y.sign=n3 at*;have P:Ext w5 w5.drew:=(ExtX.refl w5).drew;have i6:HX (a0f X b 3) w5.drew:=HX.ext (HX.ext f7 p) P;have m3:ZV (mk (a0f X b 3) w5.drew) (.agg #[.bool s1,.slice a1 n1 c1]) x:=mkx ZV.mono m4 (p.trans P);have m5:ZV (mk (a0f X b 3) w5.drew) (.agg #[.bool s2,.slice a2 n2 c2]) y:=mkx ZV.mono i9 (p.trans P);have s:=f5.cell 0 rfl;have t:=f5.cell 1 rfl;have A:=f6.cell 0 rfl;have B:=f6.cell 1 rfl;have g8:Hid (((-x:Int):Rat)/((-y:Int):Rat)=q):=hid (by
   rw[<-d1,Rat.intCast_neg,Rat.intCast_neg];have:(y:Rat)≠0:=by exact_mod_cast h4
   grind)
  have I:Hid (lg (-x).natAbs<=274877906944):=hid (by rw[Int.natAbs_neg];exact i7.out);have l:Hid (lg (-y).natAbs<=274877906944):=hid (by rw[Int.natAbs_neg];exact i8.out);clear h0 h4 d1;go_upto_region 2 with(fail)
  go_region_with (first|(go_at_call 129;(with_reducible refine(b7s (a0f X b 3) w5.drew _ x i6 m3).mono ?_);rintro e w6 ⟨n,u6,rfl,s5,a5,c5,l5,rfl,i0,i1,i2⟩;have f3:=f5.ext0 (P.trans n);have f4:=f6.ext0 (P.trans n);have j6:=f3.cell 0 rfl;have j7:=f3.cell 1 rfl;have j8:=f4.cell 0 rfl;have f9:=f4.cell 1 rfl)|(go_at_call 129;(with_reducible refine(b7s (a0f X b 3) w6 _ y (HX.ext i6 n) (mkx ZV.mono m5 n)).mono ?_);rintro e w7 ⟨m,u7,rfl,s6,a6,c6,l6,rfl,i3,i4,i5⟩;have a4:=f3.ext0 m;have a7:=f4.ext0 m;have k4:=a4.cell 0 rfl;have k5:=a4.cell 1 rfl;have k6:=a7.cell 0 rfl;have k7:=a7.cell 1 rfl;have k0:=a4.frozen 0;have k1:=a4.frozen 1;have k2:=a7.frozen 0;have k3:=a7.frozen 1))
  all_goals
   obtain⟨ws,j0,G,H,n0,a9,q4⟩:=a2x (X:=X) (nb:=3) a4 a7 (hE.trans (p.trans ((P.trans n).trans m))) l1 (by omega) (.bool s5) (.slice a5 l5.length c5) (.bool s6) (.slice a6 l6.length c6);rw[j0];have d8:ZC (mk (a0f X b 3) ws) (.agg #[.bool s5,.slice a5 l5.length c5]) (-x):=⟨s5,a5,c5,l5,rfl,i0,i1,(i2.mono (a0c.mono _) (a0l m)).mono (a0c.mono _) q4⟩;have d6:ZC (mk (a0f X b 3) ws) (.agg #[.bool s6,.slice a6 l6.length c6]) (-y):=⟨s6,a6,c6,l6,rfl,i3,i4,i5.mono (a0c.mono _) q4⟩;have a8:=n0 (b+1+1) _ _ (by omega) (by omega) (((h9.ext0 P).ext0 n).ext0 m);have j2:w.heap.size+3<=ws.heap.size:=by have:=a8.lt;omega
   have b9:HX (a0f X b 3) ws:=hX.boxes' a9 (by have:=j2;omega) j2;clear j6 j7 j8 f9 k4 k5 k6 k7 k0 k1 k2 k3 s t A B j0 f3 f4 a4 a7 i0 i1 i2 i3 i4 i5;have M:=g8;have hk:=l4;generalize m0:s5=sz at*;generalize l0:a5=az at*;generalize l8:l5.length=nz at*;generalize l3:c5=cz at*;generalize l9:s6=sk at*;generalize k9:a6=ak at*;generalize l7:l6.length=nk at*;generalize l2:c6=ck at*;generalize m6: -x=z at*;generalize m7: -y=k at*;have s:=G.cell 0 rfl;have t:=G.cell 1 rfl;have A:=H.cell 0 rfl;have B:=H.cell 1 rfl;have c4:=hid (Nat.gcd_pos_of_pos_right z.natAbs (show 0<k.natAbs by have:=hk.out;omega));have c7:=hid (show((Nat.gcd z.natAbs k.natAbs:Nat):Int)∣z from Int.ofNat_dvd_left.2 (Nat.gcd_dvd_left _ _));have c0:=hid (show((Nat.gcd z.natAbs k.natAbs:Nat):Int)∣k from Int.ofNat_dvd_left.2 (Nat.gcd_dvd_right _ _));have c3:=hid (show lg (Nat.gcd z.natAbs k.natAbs)<=274877906944 from c1A (a1j (Nat.gcd_le_right _ (by have:=hk.out;omega))) l.out);have j:=hid (b0F z k hk.out);obtain⟨g,hg⟩:∃g,Nat.gcd z.natAbs k.natAbs=g:=⟨_,rfl⟩;rw[hg]at c4 c7 c0 c3 j
   replace hg:=hid hg
   go_wp2_with fail
   refine(b9d (a0f X b 3) ws _ _ _ _ b9 (d8.zv (c1A I.out (by decide))) (d6.zv (c1A l.out (by decide))) I.out l.out).mono ?_;rintro e6 w6 ⟨n,ug,rfl,d2⟩;rw[hg.out]at d2;obtain⟨ag,cg,e2,rfl,g1,g2,g3⟩:=d2;have bg:=Bx.new w6 #[.bool false,.slice none 0 0] 39;have g6:=b9.ext n;clear s t A B;go_wp2_with ((with_reducible show wpList _ _ _ (⟨_,.store _ _ _,_,_,_,_⟩::_) _ _);refine a0a a0I rfl rfl bg rfl rfl (a2V _ _ _ _) ?_;intro w7 r1 r2;have m:Ext w6 w7:=ExtX.box ((ExtX.refl w6).alloc _) r2 (c1B _);have t7:=n.trans m;have s:=(G.ext0 t7).cell 0 rfl;have t:=(G.ext0 t7).cell 1 rfl;have a0:=r1.cell 0 rfl;have a3:=r1.cell 1 rfl)
   have b8:=(g6.ext m);have N:ZC (mk (a0f X b 3) w7) (.agg #[.bool false,.slice ag e2.length cg]) (g:Int):=NC.zc (NC.mono _ _ _ _ (a0l m) ⟨ag,cg,e2,rfl,g1,g2,g3⟩);have h5:=mkx ZC.mono d8 t7;have h:Hid (lg ((g:Int)).natAbs<=274877906944):=hid (by rw[Int.natAbs_natCast];exact c3.out);have L:Hid ((0:Int)<(g:Int)):=hid (by have:=c4.out;omega);refine(b4J (a0f X b 3) w7 _ _ z g b8 (h5.zv (c1A I.out (by decide))) (N.zv (c1A h.out (by decide))) I.out h.out L.out c7.out).mono ?_;rintro e8 w8 ⟨J,up,sv,av,nv,cv,rfl,d3⟩;obtain⟨sp,ap,np,cp,rfl⟩:=d3.shape;obtain⟨W8,g5,b5,bp,br,m8⟩:=a1w w8 #[.bool false,.slice none 0 0] #[.bool false,.slice none 0 0] 39 39;subst g5;clear s t a0 a3;go_wp2_with ((with_reducible show wpList _ _ _ (⟨_,.store _ _ _,_,_,_,_⟩::_) _ _);first|(refine a0a a0I rfl rfl bp rfl rfl (a2V _ _ _ _) ?_;intro w9 p1 p2;have F:=br.ext p2 (a0b (by omega)))|(refine a0a a0I rfl rfl F rfl rfl (a2V _ _ _ _) ?_;intro f2 p3 p4;have d:Ext w8 f2:=ExtX.box (ExtX.box b5 p2 (c1B _)) p4 (by omega);have D:=t7.trans (J.trans d);have A:=(H.ext0 D).cell 0 rfl;have B:=(H.ext0 D).cell 1 rfl;have e9:=r1.ext0 (J.trans d);have a0:=e9.cell 0 rfl;have a3:=e9.cell 1 rfl;have e3:=p1.ext p4 (a0b (by omega))))
   have r:=mkx ZC.mono d3 d;have b7:=(b8.ext J).ext d;have c8:=mkx ZC.mono d6 D;have U:=mkx ZC.mono (mkx ZC.mono N J) d;refine(b4J (a0f X b 3) f2 _ _ k g b7 (c8.zv (c1A l.out (by decide))) (U.zv (c1A h.out (by decide))) l.out h.out L.out c0.out).mono ?_;rintro f9 E ⟨a,uq,n4,j4,m9,j5,rfl,d4⟩;obtain⟨sq,aq,nq,cq,rfl⟩:=d4.shape;obtain⟨j3,b6,O,bq,f8,j1⟩:=a1w E #[.bool false,.slice none 0 0] #[.bool false,.slice none 0 0] 39 39;subst b6;clear A B a0 a3 F br;go_wp2_with ((with_reducible show wpList _ _ _ (⟨_,.store _ _ _,_,_,_,_⟩::_) _ _);first|(refine a0a a0I rfl rfl bq rfl rfl (a2V _ _ _ _) ?_;intro n5 p5 p6;have F:=f8.ext p6 (a0b (by omega)))|(refine a0a a0I rfl rfl F rfl rfl (a2V _ _ _ _) ?_;intro K p7 p8;have f:Ext E K:=ExtX.box (ExtX.box O p6 (c1B _)) p8 (by omega);have f0:=D.trans (a.trans f);have C:=p5.ext p8 (a0b (by omega));have h6:=C.cell 0 rfl;have e1:=C.cell 1 rfl;have g0:=C.frozen 0;have g4:=C.frozen 1;have e4:=e3.ext0 (a.trans f);have d9:=e4.cell 0 rfl;have e0:=e4.cell 1 rfl))
   have Z:=mkx ZC.mono d4 f;have V:=mkx ZC.mono (mkx ZC.mono r a) f;have d0:=Z.mag;have g7:Hid (lg (k/(g:Int)).natAbs<=1099511627776):=hid (by
    have h1:=j.out.2;have:(k/(g:Int)).natAbs<=k.natAbs:=by
     have:=Int.natAbs_ediv_le_natAbs k (g:Int);exact this
    exact c1A (a1j this) (c1A l.out (by decide)))
   have b3:=a8.ext0 f0;have Q:=a9.trans f0;refine(b4S _ _ _ _ d0 g7.out).mono ?_;rintro j9 c ⟨rfl,rfl⟩;have c9:Hid ((q.den:Int)=k/(g:Int)):=hid (by rw[<-M.out];exact j.out.2);have d7:Hid (q.num=z/(g:Int)):=hid (by rw[<-M.out];exact j.out.1);by_cases h1:(k/(g:Int)).natAbs=1
   ·have R:Hid (dn q=0):=hid ((a3Y q).2 (by have:=c9.out;have:=q.den_pos;omega))
    rw[decide_eq_true h1];clear h1;go_upto_region 8 with(fail)
    obtain⟨m1,m2⟩:=a1l C (.slice none 0 0) (i:=1) (by simp);obtain⟨c,d5⟩:∃c,K.setCell ⟨E.heap.size,1,none⟩ (.slice none 0 0)=c:=⟨_,rfl⟩;rw[d5]at m1 m2 |-;have o:Ext E c:=ExtX.box f m2 (c1B _);have f1:=D.trans (a.trans o);have b4:=a8.ext0 f1;have e7:=e3.ext0 (a.trans o);clear d9 e0 h6 e1 g0 g4;have d9:c.cell? ⟨w8.heap.size,0,none⟩=some (.bool sp):=e7.cell 0 rfl;have e0:c.cell? ⟨w8.heap.size,1,none⟩=some (.slice ap np cp):=e7.cell 1 rfl;have e1:c.cell? ⟨E.heap.size,1,none⟩=some (.slice none 0 0):=m1.cell 1 rfl;have Y:=mkx ZC.mono (mkx ZC.mono r a) o;go_wp2_with ((with_reducible show wpList _ _ _ (⟨_,.store _ _ _,_,_,_,_⟩::_) _ _);refine a0a a0p rfl rfl b4 rfl rfl (a1z _ _ _ _ _ _ _) ?_;intro h8 r3 r4)
    have T:ZC (mk (a0f X b 3) c) (.agg #[.bool sp,.slice ap np cp]) q.num:=by rw[d7.out];exact Y
    have S:NC (mk (a0f X b 3) c) (.slice none 0 0) (dn q):=by rw[R.out];exact NC.zero _
    have h7:=QC.mono _ _ _ _ a0k (QC.mono _ _ _ _ (a0h r4 (by omega) (by omega)) (QC.of T S));exact bodyPost_ret (a0e rfl rfl a0p r3 rfl) rfl ⟨ExtX.box (a9.trans f1) r4 (by omega),_,rfl,h7⟩
   ·have R:Hid (dn q=(k/(g:Int)).natAbs):=hid (by
     have h2:=c9.out;unfold dn;rw[if_neg (by omega)];omega)
    rw[decide_eq_false h1];clear h1;go_wp2_with ((with_reducible show wpList _ _ _ (⟨_,.store _ _ _,_,_,_,_⟩::_) _ _);refine a0a a0p rfl rfl b3 rfl rfl (a1z _ _ _ _ _ _ _) ?_;intro h8 r3 r4)
    have T:ZC (mk (a0f X b 3) K) (.agg #[.bool sp,.slice ap np cp]) q.num:=by rw[d7.out];exact V
    have S:NC (mk (a0f X b 3) K) (.slice aq nq cq) (dn q):=by rw[R.out];exact d0
    have h7:=QC.mono _ _ _ _ a0k (QC.mono _ _ _ _ (a0h r4 (by omega) (by omega)) (QC.of T S));exact bodyPost_ret (a0e rfl rfl a0p r3 rfl) rfl ⟨ExtX.box Q r4 (by omega),_,rfl,h7⟩
theorem a3m(X:Nat->Bool)(w:World)(v:Int)(s:HX X w)(l: -9223372036854775808<=v)(m:v<=9223372036854775807):Calls Tryz.prog 54 #[.int .i64 v] w (a1S X w QC v):=by
 obtain⟨W,B,r,k,hz⟩:=a1e w #[.bool false,.slice none 0 0,.slice none 0 0] 41;have c:HX (a0f X w.heap.size 1) W:=s.boxes hz;obtain⟨b,t⟩:∃b,w.heap.size=b:=⟨_,rfl⟩;have u:w.heap.size<=b:=by omega
 rw[t]at k hz c;have e:=hid l;have f:=hid m;clear l m;go_enter Tryz.func54,Tryz.ntmps54
 go_wp2_with fail
 refine(b2N (a0f X b 1) W v c e.out f.out).mono ?_;rintro A D ⟨a,C,rfl,z,o,p,x,rfl,g,h,i⟩;have d:=k.ext0 a;have j:=a6Q.ofInt h;go_wp2_with ((with_reducible show wpList _ _ _ (⟨_,.store _ _ _,_,_,_,_⟩::_) _ _);refine a0a a0p rfl rfl d rfl rfl (a1z _ _ _ _ _ _ _) ?_;intro E y n)
 have q:=(i.mono (a0c.mono _) (a0h n (by omega) (by omega))).mono (a0c.mono _) a0k;exact bodyPost_ret (a0e rfl rfl a0p y rfl) rfl ⟨ExtX.box (r.trans a) n (by omega),_,rfl,z,o,p,x,none,0,[],rfl,g,c1B _,j,q,Sl.nil _ _ _ _⟩
theorem a7i(X:Nat->Bool)(w:World)(u:Value)(x:Rat)(t:HX X w)(f:QV (mk X w) u x):Calls Tryz.prog 42 #[u] w (a3R w x.num.sign):=by
 have i:=hid f.hq;obtain⟨B,o,A,p,q,z,r,rfl⟩:=f.shape;obtain⟨W,G,g,e,hz⟩:=a1e w #[.bool B,.slice o A p,.slice q z r] 41;have c:HX X W:=t.ext g;have j:=mkx QV.mono f g;obtain⟨b,v⟩:∃b,w.heap.size=b:=⟨_,rfl⟩;rw[v]at e hz;have l:=e.cell 0 rfl;have m:=e.cell 1 rfl;have n:=e.cell 2 rfl;have y:=a5S;clear f;go_enter Tryz.func42,Tryz.ntmps42
 go_wp2_with fail
 refine(a3G X W _ x c j).mono ?_;rintro s C ⟨a,K,rfl,d⟩;obtain⟨J,D,I,E,F,H,e5,rfl⟩:=d.shape;have k:=d.num.1.zv (c1A (c1A (a0C x) i.out) (by omega));clear l m n;go_wp2_with fail
 refine(b6p X C _ _ (c.ext a) k).mono ?_;rintro s L ⟨h,rfl⟩;go_wp2_with fail
 go_ret
 exact⟨g.trans (a.trans h),rfl⟩
theorem b7A(X:Nat->Bool)(w:World)(u:Value)(x:Rat)(hX:HX X w)(A:QV (mk X w) u x):Calls Tryz.prog 56 #[u] w (a1S X w QC (-x)):=by
 have q:=hid A.hq;obtain⟨s1,a1,n1,c1,d1,k1,e1,rfl⟩:=A.shape;obtain⟨W,hW,hE,n,b1,hz⟩:=a1w w #[.bool s1,.slice a1 n1 c1,.slice d1 k1 e1] #[.bool false,.slice none 0 0,.slice none 0 0] 41 41;have i:HX (a0f X w.heap.size 2) W:=hX.boxes hz;have s:=QV.mono _ _ _ _ (a0j (nb:=2) hE) A;obtain⟨b,hb⟩:∃b,w.heap.size=b:=⟨_,rfl⟩;have a3:w.heap.size<=b:=by omega
 rw[hb]at n b1 hz i s;have j:=n.cell 0 rfl;have k:=n.cell 1 rfl;have l:=n.cell 2 rfl;clear A;go_enter Tryz.func56,Tryz.ntmps56
 go_wp2_with fail
 refine(a3G (a0f X b 2) W _ x i s).mono ?_;rintro e w5 ⟨d,u5,rfl,r⟩;obtain⟨s5,D,n5,J,o,z,e5,rfl⟩:=r.shape;have R:=i.ext d;have F:=n.ext0 d;have G:=b1.ext0 d;clear j k l;go_upto_region 2 with((with_reducible show wpList _ _ _ (⟨_,.store _ _ _,_,_,_,_⟩::_) _ _);refine a0a a0p rfl rfl F rfl rfl (a1z _ _ _ _ _ _ _) ?_;intro g f B;have j:=f.cell 0 rfl;have k:=f.cell 1 rfl;have l:=f.cell 2 rfl)
 have S:=R.ext B;have H:=G.ext B (a0b (by omega));have U:=QC.mono _ _ _ _ (a0h (X:=X) (lo:=b) (nb:=2) B (by omega) (by omega)) r;have O:Ext w g:=ExtX.box (hE.trans d) B (by omega);obtain⟨Y,a4,v⟩:=U.num;have c:Ext g g.drew:=(ExtX.refl g).drew;have p:HX (a0f X b 2) g.drew:=S;have y:ZC (mk (a0f X b 2) g.drew) (.agg #[.bool s5,.slice D n5 J]) x.num:=Y;have t:NC (mk (a0f X b 2) g.drew) (.slice o z e5) (dn x):=v;have I:lg x.num.natAbs<=549755813888:=c1A (c1A (a0C x) q.out) (by omega);have a0:lg (dn x)<=549755813888:=c1A (c1A (b2O x) q.out) (by omega);have V:=y.zv I;have Q:Hid (∀W',Ext g.drew W'->W'.cell? ⟨b,0,none⟩=some (.bool s5)/\W'.cell? ⟨b,1,none⟩=some (.slice D n5 J)/\W'.cell? ⟨b,2,none⟩=some (.slice o z e5)):=
  hid fun W' h=>⟨(f.ext0 (c.trans h)).cell 0 rfl,(f.ext0 (c.trans h)).cell 1 rfl,(f.ext0 (c.trans h)).cell 2 rfl⟩
 go_region_held3 (fun w'=>w'.cell? ⟨b,0,none⟩=some (.bool s5)/\w'.cell? ⟨b,1,none⟩=some (.slice D n5 J)/\w'.cell? ⟨b,2,none⟩=some (.slice o z e5))
  (first|exact Q.out _ C|exact Q.out _ m|exact⟨((f.ext0 (c.trans m)).ext (a.set3 _ _ _).2 (a0b (by omega))).cell 0 rfl,((f.ext0 (c.trans m)).ext (a.set3 _ _ _).2 (a0b (by omega))).cell 1 rfl,((f.ext0 (c.trans m)).ext (a.set3 _ _ _).2 (a0b (by omega))).cell 2 rfl⟩|go_keep)
  (first|(go_at_call 129;(with_reducible refine(b7s (a0f X b 2) g.drew _ _ p V).mono ?_);rintro ee w8 ⟨C,u8,rfl,s8,E,K,Z,rfl,L,M,N⟩;have a2:=HX.ext p C;have m:=C;have T:=mkx NC.mono t C;have a:=H.ext0 (c.trans m);have g0:=a.cell 0 rfl;have g1:=a.cell 1 rfl;have g2:=a.cell 2 rfl;have f0:=a.frozen 0;have f1:=a.frozen 1;have f2:=a.frozen 2))
 obtain⟨q1,q2⟩:=a.set3 (.bool s8) (.slice E Z.length K) (.slice o z e5);have hz:ZC (mk (a0f X b 2) w8) (.agg #[.bool s8,.slice E Z.length K]) (-x).num:=⟨s8,E,K,Z,rfl,L,by rw[Rat.neg_num];exact M,N⟩;have hd:NC (mk (a0f X b 2) w8) (.slice o z e5) (dn (-x)):=by rw[b6t];exact T
 have h7:=QC.mono _ _ _ _ a0k (QC.mono _ _ _ _ (a0h q2 (by omega) (by omega)) (QC.of hz hd));have P:Ext w _:=ExtX.box (O.trans (c.trans m)) q2 (by omega);clear g0 g1 g2 f0 f1 f2 j k l Q;go_wp2_with fail
 exact bodyPost_ret (a0e rfl rfl a0p q1 rfl) rfl ⟨P,_,rfl,h7⟩
end Go.Proofs.YtnnpfhoigmegcaaGreat
