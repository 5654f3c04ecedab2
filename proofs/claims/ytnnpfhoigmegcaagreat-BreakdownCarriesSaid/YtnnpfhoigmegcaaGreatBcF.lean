/- Parts of a proof: each theorem states what it proves, and its conditions. -/
import Derived.Test.YtnnpfhoigmegcaaGreatBcE
import Derived.Deep.RegionHeld3
set_option maxRecDepth 100000
set_option maxHeartbeats 1600000
namespace Go.Proofs.YtnnpfhoigmegcaaGreat
open Go.RowKit Go.Rep Go.Lim
theorem b4r(X:Nat->Bool)(w:World)(u v:Value)(x y:Rat)(hX:HX X w)(hu:QV (mk X w) u x)(hv:QV (mk X w) v y):Calls Tryz.prog 48 #[u,v] w (a1u X w QC (x+y)):=by
 have e:=hid hu.hq;have f:=hid hv.hq;obtain⟨s1,a1,n1,c1,d1,k1,e1,rfl⟩:=hu.shape;obtain⟨s2,a2,n2,c2,d2,k2,e2,rfl⟩:=hv.shape;obtain⟨W,hW,hE,j,k,T,hz⟩:=a1F w #[.bool s1, .slice a1 n1 c1, .slice d1 k1 e1] #[.bool s2, .slice a2 n2 c2, .slice d2 k2 e2] #[.bool false, .slice none 0 0, .slice none 0 0] 41 41 41;have c7:HX (a0e X w.heap.size 3) W:=hX.boxes hz;have N:=QV.mono _ _ _ _ (a0i (nb:=3) hE) hu;have O:=QV.mono _ _ _ _ (a0i (nb:=3) hE) hv;obtain⟨b,hb⟩:∃b,w.heap.size=b:=⟨_,rfl⟩;have k8:w.heap.size<=b:=by omega
 rw[hb]at j k T hz c7 N O;have c:Ext W W.drew:=(ExtX.refl W).drew;have d:HX (a0e X b 3) W.drew:=c7;have e7:QV (mk (a0e X b 3) W.drew) (.agg #[.bool s1, .slice a1 n1 c1, .slice d1 k1 e1]) x:=N;have e8:QV (mk (a0e X b 3) W.drew) (.agg #[.bool s2, .slice a2 n2 c2, .slice d2 k2 e2]) y:=O;have z:=j.cell 0 rfl;have A:=j.cell 1 rfl;have B:=j.cell 2 rfl;have C:=k.cell 0 rfl;have D:=k.cell 1 rfl;have E:=k.cell 2 rfl;clear hu hv;go_enter Tryz.func48,Tryz.ntmps48
 go_upto_region 1 with(fail)
 go_cut []from 5 to 8 (fun wx=>∃R I P K U k3 Y S J Q L V k4 Z,Bx wx b #[.bool R, .slice I P K, .slice U k3 Y] 41/\Bx wx (b+1) #[.bool S, .slice J Q L, .slice V k4 Z] 41/\Bx wx (b+1+1) #[.bool false, .slice none 0 0, .slice none 0 0] 41/\QC (mk (a0e X b 3) wx) (.agg #[.bool R, .slice I P K, .slice U k3 Y]) x/\QC (mk (a0e X b 3) wx) (.agg #[.bool S, .slice J Q L, .slice V k4 Z]) y/\Ext w wx)
 case first=>
  go_region_with (first|(go_at_call 118;(with_reducible refine(a4W (a0e X b 3) W.drew _ x d e7).mono ?_);rintro o w5 ⟨l,u5,rfl,d0⟩;obtain⟨s5,a5,n5,c5,d5,k5,e5,rfl⟩:=d0.shape;have q:=j.ext0 (c.trans l);have r:=k.ext0 (c.trans l);have h0:=q.cell 0 rfl;have h5:=q.cell 1 rfl;have h6:=q.cell 2 rfl;have h8:=r.cell 0 rfl;have h9:=r.cell 1 rfl;have i0:=r.cell 2 rfl)|(go_at_call 118;(with_reducible refine(a4W (a0e X b 3) w5 _ y (HX.ext d l) (mkx QV.mono e8 l)).mono ?_);rintro o w6 ⟨i,u6,rfl,d7⟩;obtain⟨s6,a6,n6,c6,d6,k6,e6,rfl⟩:=d7.shape;have a:=q.ext0 i;have g:=r.ext0 i;have i8:=a.cell 0 rfl;have i9:=a.cell 1 rfl;have j0:=a.cell 2 rfl;have j1:=g.cell 0 rfl;have j2:=g.cell 1 rfl;have j3:=g.cell 2 rfl;have i2:=a.frozen 0;have i3:=a.frozen 1;have i6:=a.frozen 2;have i4:=g.frozen 0;have i5:=g.frozen 1;have i7:=g.frozen 2))
  all_goals
   obtain⟨wf,e9,q0,q1,q2,q3,q4⟩:=a1L (X:=X) (nb:=3) a g (hE.trans ((c.trans l).trans i)) k8 (by omega) (.bool s5) (.slice a5 n5 c5) (.slice d5 k5 e5) (.bool s6) (.slice a6 n6 c6) (.slice d6 k6 e6);rw[e9];have k9:QC (mk (a0e X b 3) wf) (.agg #[.bool s5, .slice a5 n5 c5, .slice d5 k5 e5]) x:=QC.mono _ _ _ _ q4 (mkx QC.mono d0 i);have l0:QC (mk (a0e X b 3) wf) (.agg #[.bool s6, .slice a6 n6 c6, .slice d6 k6 e6]) y:=QC.mono _ _ _ _ q4 d7;have q5:=q2 (b+1+1) _ _ (by omega) (by omega) ((T.ext0 (c.trans l)).ext0 i);clear h0 h5 h6 h8 h9 i0 i8 i9 j0 j1 j2 j3 i2 i3 i4 i5 i6 i7 z A B C D E e9;go_wp2_with fail
   go_meet
   exact⟨_,_,_,_,_,_,_,_,_,_,_,_,_,_,q0,q1,q5,k9,l0,q3⟩
 case rest=>
  clear z A B C D E j k T N O e7 e8 d c hW;obtain⟨R,I,P,K,U,k3,Y,S,J,Q,L,V,k4,Z,j,k,T,hx,hy,b4⟩:=hcut;have f8:w.heap.size+3<=wc.heap.size:=by have:=T.lt;omega
  obtain⟨l9,o4,n0⟩:=hx.num;obtain⟨m1,o5,n7⟩:=hy.num;have k7:HX (a0e X b 3) wc:=hX.boxes' b4 (by have:=f8;omega) f8;have z:=j.cell 0 rfl;have A:=j.cell 1 rfl;have B:=j.cell 2 rfl;have C:=k.cell 0 rfl;have D:=k.cell 1 rfl;have E:=k.cell 2 rfl;have c:Ext wc wc.drew:=(ExtX.refl wc).drew;have d:HX (a0e X b 3) wc.drew:=k7;have f3:QC (mk (a0e X b 3) wc.drew) (.agg #[.bool R, .slice I P K, .slice U k3 Y]) x:=hx;have f6:QC (mk (a0e X b 3) wc.drew) (.agg #[.bool S, .slice J Q L, .slice V k4 Z]) y:=hy;have f4:ZC (mk (a0e X b 3) wc.drew) (.agg #[.bool R, .slice I P K]) x.num:=l9;have f7:ZC (mk (a0e X b 3) wc.drew) (.agg #[.bool S, .slice J Q L]) y.num:=m1;have o1:lg x.num.natAbs<=549755813888:=Nat.le_trans (Nat.le_trans (a0s x) e.out) (by omega);have o3:lg y.num.natAbs<=549755813888:=Nat.le_trans (Nat.le_trans (a0s y) f.out) (by omega);have o0:lg x.den<=549755813888:=Nat.le_trans (Nat.le_trans (a0t x) e.out) (by omega);have o2:lg y.den<=549755813888:=Nat.le_trans (Nat.le_trans (a0t y) f.out) (by omega);have g4:lg (x.num*(y.den:Int)).natAbs<=274877906944:=by rw[Int.natAbs_mul,Int.natAbs_natCast];have:=a0N x.num.natAbs y.den;have:=a0s x;have:=a0t y;have:=e.out;have:=f.out;omega
  have g5:lg (y.num*(x.den:Int)).natAbs<=274877906944:=by rw[Int.natAbs_mul,Int.natAbs_natCast];have:=a0N y.num.natAbs x.den;have:=a0s y;have:=a0t x;have:=e.out;have:=f.out;omega
  have g3:lg (x.den*y.den)<=274877906944:=by have:=a0N x.den y.den;have:=a0t x;have:=a0t y;have:=e.out;have:=f.out;omega
  have n9:lg (x.num*y.num).natAbs<=274877906944:=by rw[Int.natAbs_mul];have:=a0N x.num.natAbs y.num.natAbs;have:=a0s x;have:=a0s y;have:=e.out;have:=f.out;omega
  have n8:0<x.den*y.den:=Nat.mul_pos x.den_pos y.den_pos;have M:=hid (And.intro j k);have p:Hid (∀W',Ext wc.drew W'->W'.cell? ⟨b,0,none⟩=some (.bool R)/\W'.cell? ⟨b,1,none⟩=some (.slice I P K)/\W'.cell? ⟨b,2,none⟩=some (.slice U k3 Y)/\W'.cell? ⟨b+1,0,none⟩=some (.bool S)/\W'.cell? ⟨b+1,1,none⟩=some (.slice J Q L)/\W'.cell? ⟨b+1,2,none⟩=some (.slice V k4 Z)):=
   hid fun W' h=>⟨(j.ext0 (c.trans h)).cell 0 rfl,(j.ext0 (c.trans h)).cell 1 rfl,(j.ext0 (c.trans h)).cell 2 rfl,(k.ext0 (c.trans h)).cell 0 rfl,(k.ext0 (c.trans h)).cell 1 rfl,(k.ext0 (c.trans h)).cell 2 rfl⟩
  have a0:hq x<=549755813888:=Nat.le_trans e.out (by decide);have a7:hq y<=549755813888:=Nat.le_trans f.out (by decide);have a9:lg x.num.natAbs<=274877906944:=Nat.le_trans (Nat.le_trans (a0s x) e.out) (by omega);have b3:lg y.num.natAbs<=274877906944:=Nat.le_trans (Nat.le_trans (a0s y) f.out) (by omega);have s:lg (x.den:Int).natAbs<=274877906944:=Nat.le_trans (Nat.le_trans (a0t x) e.out) (by omega);have t:lg (y.den:Int).natAbs<=274877906944:=Nat.le_trans (Nat.le_trans (a0t y) f.out) (by omega);have g8:lg ((x.den:Int)*(y.den:Int)).natAbs<=274877906944:=by rw[<-Int.natCast_mul,Int.natAbs_natCast];exact g3
  have g7:(x.den:Int)*(y.den:Int)≠0:=Int.mul_ne_zero (by have:=x.den_nz;omega) (by have:=y.den_nz;omega);have a8:lg (x.num*(y.den:Int)+y.num*(x.den:Int)).natAbs<=274877906944:=by
   have h1:=a0P (Int.natAbs_add_le (x.num*(y.den:Int)) (y.num*(x.den:Int)));have h2:=a8o (x.num*(y.den:Int)).natAbs (y.num*(x.den:Int)).natAbs;have h3:lg (x.num*(y.den:Int)).natAbs<=137438953472:=by rw[Int.natAbs_mul,Int.natAbs_natCast];have:=a0N x.num.natAbs y.den;have:=a0s x;have:=a0t y;have:=e.out;have:=f.out;omega
   have h4:lg (y.num*(x.den:Int)).natAbs<=137438953472:=by rw[Int.natAbs_mul,Int.natAbs_natCast];have:=a0N y.num.natAbs x.den;have:=a0s y;have:=a0t x;have:=e.out;have:=f.out;omega
   omega
  have c8:Hid (((x.num*(y.den:Int)+y.num*(x.den:Int):Int):Rat)/(((x.den:Int)*(y.den:Int):Int):Rat)=x+y):=hid (by
   rw[<-Int.natCast_mul,Rat.intCast_natCast,<-Rat.mkRat_eq_div];exact(Rat.add_def' x y).symm)
  go_wp2_with fail
  go_region_held3 (fun w'=>w'.cell? ⟨b,0,none⟩=some (.bool R)/\w'.cell? ⟨b,1,none⟩=some (.slice I P K)/\w'.cell? ⟨b,2,none⟩=some (.slice U k3 Y)/\w'.cell? ⟨b+1,0,none⟩=some (.bool S)/\w'.cell? ⟨b+1,1,none⟩=some (.slice J Q L)/\w'.cell? ⟨b+1,2,none⟩=some (.slice V k4 Z))
   (first|exact p.out _ t1|exact p.out _ t2|exact p.out _ t3|exact p.out _ t4|exact p.out _ t5|exact p.out _ t6|exact p.out _ t7|exact p.out _ t8|exact p.out _ F|exact⟨((M.out.1.ext0 (c.trans F)).ext (a.set3 _ _ _).2 (a0b (by omega))).cell 0 rfl,((M.out.1.ext0 (c.trans F)).ext (a.set3 _ _ _).2 (a0b (by omega))).cell 1 rfl,((M.out.1.ext0 (c.trans F)).ext (a.set3 _ _ _).2 (a0b (by omega))).cell 2 rfl,((M.out.2.ext0 (c.trans F)).ext (a.set3 _ _ _).2 (a0b (by omega))).cell 0 rfl,((M.out.2.ext0 (c.trans F)).ext (a.set3 _ _ _).2 (a0b (by omega))).cell 1 rfl,((M.out.2.ext0 (c.trans F)).ext (a.set3 _ _ _).2 (a0b (by omega))).cell 2 rfl⟩|go_keep)
   (first|(go_at_call 122;(with_reducible refine(a9j (a0e X b 3) wc.drew _ y d f6 a7).mono ?_);rintro o w5 ⟨t1,u5,rfl,l1⟩;have j6:=HX.ext d t1;have l6:=mkx ZC.mono f4 t1)|(go_at_call 121;(with_reducible refine(b0d (a0e X b 3) w5 _ _ x.num (y.den:Int) j6 (l6.zv (Nat.le_trans a9 (by decide))) (l1.zv (Nat.le_trans t (by decide))) a9 t).mono ?_);rintro o w6 ⟨i,u6,rfl,l2⟩;have t2:=t1.trans i;have j7:=HX.ext d t2;have l7:=mkx QC.mono f3 t2)|(go_at_call 122;(with_reducible refine(a9j (a0e X b 3) w6 _ x j7 l7 a0).mono ?_);rintro o w7 ⟨b6,u7,rfl,l3⟩;have t3:=t2.trans b6;have j8:=HX.ext d t3;have m0:=mkx ZC.mono f7 t3)|(go_at_call 121;(with_reducible refine(b0d (a0e X b 3) w7 _ _ y.num (x.den:Int) j8 (m0.zv (Nat.le_trans b3 (by decide))) (l3.zv (Nat.le_trans s (by decide))) b3 s).mono ?_);rintro o w8 ⟨b7,u8,rfl,l4⟩;have t4:=t3.trans b7;have j9:=HX.ext d t4;have m2:=mkx ZC.mono l2 (b6.trans b7))|(go_at_call 120;(with_reducible refine(b6W (a0e X b 3) w8 _ _ _ _ j9 (m2.zv (Nat.le_trans g4 (by decide))) (l4.zv (Nat.le_trans g5 (by decide)))).mono ?_);rintro o w9 ⟨j4,u9,rfl,l5⟩;have t5:=t4.trans j4;have k0:=HX.ext d t5;have l8:=mkx QC.mono f3 t5)|(go_at_call 122;(with_reducible refine(a9j (a0e X b 3) w9 _ x k0 l8 a0).mono ?_);rintro o m7 ⟨G,o6,rfl,d8⟩;have t6:=t5.trans G;have b8:=HX.ext d t6;have f5:=mkx QC.mono f6 t6)|(go_at_call 122;(with_reducible refine(a9j (a0e X b 3) m7 _ y b8 f5 a7).mono ?_);rintro o m8 ⟨m,o7,rfl,d9⟩;have t7:=t6.trans m;have b9:=HX.ext d t7;have c9:=mkx ZC.mono d8 m)|(go_at_call 121;(with_reducible refine(b0d (a0e X b 3) m8 _ _ (x.den:Int) (y.den:Int) b9 (c9.zv (Nat.le_trans s (by decide))) (d9.zv (Nat.le_trans t (by decide))) s t).mono ?_);rintro o m9 ⟨H,o8,rfl,e0⟩;have t8:=t7.trans H;have c0:=HX.ext d t8;have m3:=mkx ZC.mono l5 (G.trans (m.trans H)))|(go_at_call 119;(with_reducible refine(b0i (a0e X b 3) m9 _ _ _ _ c0 m3 e0 a8 g8 g7).mono ?_);rintro o p0 ⟨b5,o9,rfl,n⟩;have F:=t8.trans b5;obtain⟨m6,f9,m5,g6,g9,m4,i1,rfl⟩:=n.shape;have a:=T.ext0 (c.trans F);have g0:=a.cell 0 rfl;have g1:=a.cell 1 rfl;have g2:=a.cell 2 rfl;have f0:=a.frozen 0;have f1:=a.frozen 1;have f2:=a.frozen 2))
  rw[c8.out]at n;obtain⟨r1,r2⟩:=a.set3 (.bool m6) (.slice f9 m5 g6) (.slice g9 m4 i1);have h7:=QC.mono _ _ _ _ a0h (QC.mono _ _ _ _ (a0f r2 (by omega) (by omega)) n);have j5:Ext w _:=ExtX.box (b4.trans (c.trans F)) r2 (by omega);clear g0 g1 g2 f0 f1 f2 z A B C D E p M;go_wp2_with fail
  exact bodyPost_ret (a0d rfl rfl a0j r1 rfl) rfl ⟨j5,_,rfl,h7⟩
theorem b7b(X:Nat->Bool)(w:World)(u v:Value)(x y:Rat)(hX:HX X w)(hu:QV (mk X w) u x)(hv:QV (mk X w) v y)(j7:y≠0):Calls Tryz.prog 240 #[u,v] w (a1u X w QC (x/y)):=by
 have e:=hid hu.hq;have f:=hid hv.hq;obtain⟨s1,a1,n1,c1,d1,k1,e1,rfl⟩:=hu.shape;obtain⟨s2,a2,n2,c2,d2,k2,e2,rfl⟩:=hv.shape;obtain⟨W,hW,hE,j,k,M,hz⟩:=a1F w #[.bool s1, .slice a1 n1 c1, .slice d1 k1 e1] #[.bool s2, .slice a2 n2 c2, .slice d2 k2 e2] #[.bool false, .slice none 0 0, .slice none 0 0] 41 41 41;have b5:HX (a0e X w.heap.size 3) W:=hX.boxes hz;have F:=QV.mono _ _ _ _ (a0i (nb:=3) hE) hu;have H:=QV.mono _ _ _ _ (a0i (nb:=3) hE) hv;obtain⟨b,hb⟩:∃b,w.heap.size=b:=⟨_,rfl⟩;have i6:w.heap.size<=b:=by omega
 rw[hb]at j k M hz b5 F H;have c:Ext W W.drew:=(ExtX.refl W).drew;have d:HX (a0e X b 3) W.drew:=b5;have b9:QV (mk (a0e X b 3) W.drew) (.agg #[.bool s1, .slice a1 n1 c1, .slice d1 k1 e1]) x:=F;have c0:QV (mk (a0e X b 3) W.drew) (.agg #[.bool s2, .slice a2 n2 c2, .slice d2 k2 e2]) y:=H;have o:=j.cell 0 rfl;have p:=j.cell 1 rfl;have q:=j.cell 2 rfl;have r:=k.cell 0 rfl;have s:=k.cell 1 rfl;have t:=k.cell 2 rfl;clear hu hv;go_enter Tryz.func240,Tryz.ntmps240
 go_upto_region 1 with(fail)
 go_cut []from 5 to 8 (fun Y=>∃K A I C N T P L B J D O U Q,Bx Y b #[.bool K, .slice A I C, .slice N T P] 41/\Bx Y (b+1) #[.bool L, .slice B J D, .slice O U Q] 41/\Bx Y (b+1+1) #[.bool false, .slice none 0 0, .slice none 0 0] 41/\QC (mk (a0e X b 3) Y) (.agg #[.bool K, .slice A I C, .slice N T P]) x/\QC (mk (a0e X b 3) Y) (.agg #[.bool L, .slice B J D, .slice O U Q]) y/\Ext w Y)
 case first=>
  go_region_with (first|(go_at_call 118;(with_reducible refine(a4W (a0e X b 3) W.drew _ x d b9).mono ?_);rintro R w5 ⟨l,u5,rfl,b7⟩;obtain⟨s5,a5,n5,c5,d5,k5,e5,rfl⟩:=b7.shape;have m:=j.ext0 (c.trans l);have n:=k.ext0 (c.trans l);have f6:=m.cell 0 rfl;have f7:=m.cell 1 rfl;have f8:=m.cell 2 rfl;have f9:=n.cell 0 rfl;have g3:=n.cell 1 rfl;have g4:=n.cell 2 rfl)|(go_at_call 118;(with_reducible refine(a4W (a0e X b 3) w5 _ y (HX.ext d l) (mkx QV.mono c0 l)).mono ?_);rintro R w6 ⟨i,u6,rfl,b8⟩;obtain⟨s6,a6,n6,c6,d6,k6,e6,rfl⟩:=b8.shape;have a:=m.ext0 i;have g:=n.ext0 i;have h2:=a.cell 0 rfl;have h3:=a.cell 1 rfl;have h4:=a.cell 2 rfl;have h5:=g.cell 0 rfl;have h6:=g.cell 1 rfl;have h8:=g.cell 2 rfl;have g6:=a.frozen 0;have g7:=a.frozen 1;have h0:=a.frozen 2;have g8:=g.frozen 0;have g9:=g.frozen 1;have h1:=g.frozen 2))
  all_goals
   obtain⟨wf,c7,q0,q1,q2,q3,q4⟩:=a1L (X:=X) (nb:=3) a g (hE.trans ((c.trans l).trans i)) i6 (by omega) (.bool s5) (.slice a5 n5 c5) (.slice d5 k5 e5) (.bool s6) (.slice a6 n6 c6) (.slice d6 k6 e6);rw[c7];have i7:QC (mk (a0e X b 3) wf) (.agg #[.bool s5, .slice a5 n5 c5, .slice d5 k5 e5]) x:=QC.mono _ _ _ _ q4 (mkx QC.mono b7 i);have i8:QC (mk (a0e X b 3) wf) (.agg #[.bool s6, .slice a6 n6 c6, .slice d6 k6 e6]) y:=QC.mono _ _ _ _ q4 b8;have q5:=q2 (b+1+1) _ _ (by omega) (by omega) ((M.ext0 (c.trans l)).ext0 i);clear f6 f7 f8 f9 g3 g4 h2 h3 h4 h5 h6 h8 g6 g7 g8 g9 h0 h1 o p q r s t c7;go_wp2_with fail
   go_meet
   exact⟨_,_,_,_,_,_,_,_,_,_,_,_,_,_,q0,q1,q5,i7,i8,q3⟩
 case rest=>
  clear o p q r s t j k M F H b9 c0 d c hW;obtain⟨K,A,I,C,N,T,P,L,B,J,D,O,U,Q,j,k,M,hx,hy,a9⟩:=hcut;have d0:w.heap.size+3<=wc.heap.size:=by have:=M.lt;omega
  obtain⟨j6,m1,l1⟩:=hx.num;obtain⟨k0,m2,l2⟩:=hy.num;have i5:HX (a0e X b 3) wc:=hX.boxes' a9 (by have:=d0;omega) d0;have o:=j.cell 0 rfl;have p:=j.cell 1 rfl;have q:=j.cell 2 rfl;have r:=k.cell 0 rfl;have s:=k.cell 1 rfl;have t:=k.cell 2 rfl;have c:Ext wc wc.drew:=(ExtX.refl wc).drew;have d:HX (a0e X b 3) wc.drew:=i5;have j5:QC (mk (a0e X b 3) wc.drew) (.agg #[.bool K, .slice A I C, .slice N T P]) x:=hx;have j9:QC (mk (a0e X b 3) wc.drew) (.agg #[.bool L, .slice B J D, .slice O U Q]) y:=hy;have c8:ZC (mk (a0e X b 3) wc.drew) (.agg #[.bool K, .slice A I C]) x.num:=j6;have c9:ZC (mk (a0e X b 3) wc.drew) (.agg #[.bool L, .slice B J D]) y.num:=k0;have l6:lg x.num.natAbs<=549755813888:=Nat.le_trans (Nat.le_trans (a0s x) e.out) (by omega);have l8:lg y.num.natAbs<=549755813888:=Nat.le_trans (Nat.le_trans (a0s y) f.out) (by omega);have l5:lg x.den<=549755813888:=Nat.le_trans (Nat.le_trans (a0t x) e.out) (by omega);have l7:lg y.den<=549755813888:=Nat.le_trans (Nat.le_trans (a0t y) f.out) (by omega);have d9:lg (x.num*(y.den:Int)).natAbs<=274877906944:=by rw[Int.natAbs_mul,Int.natAbs_natCast];have:=a0N x.num.natAbs y.den;have:=a0s x;have:=a0t y;have:=e.out;have:=f.out;omega
  have e0:lg (y.num*(x.den:Int)).natAbs<=274877906944:=by rw[Int.natAbs_mul,Int.natAbs_natCast];have:=a0N y.num.natAbs x.den;have:=a0s y;have:=a0t x;have:=e.out;have:=f.out;omega
  have d8:lg (x.den*y.den)<=274877906944:=by have:=a0N x.den y.den;have:=a0t x;have:=a0t y;have:=e.out;have:=f.out;omega
  have l4:lg (x.num*y.num).natAbs<=274877906944:=by rw[Int.natAbs_mul];have:=a0N x.num.natAbs y.num.natAbs;have:=a0s x;have:=a0s y;have:=e.out;have:=f.out;omega
  have l3:0<x.den*y.den:=Nat.mul_pos x.den_pos y.den_pos;have E:=hid (And.intro j k);have S:Hid (∀W',Ext wc.drew W'->W'.cell? ⟨b,0,none⟩=some (.bool K)/\W'.cell? ⟨b,1,none⟩=some (.slice A I C)/\W'.cell? ⟨b,2,none⟩=some (.slice N T P)/\W'.cell? ⟨b+1,0,none⟩=some (.bool L)/\W'.cell? ⟨b+1,1,none⟩=some (.slice B J D)/\W'.cell? ⟨b+1,2,none⟩=some (.slice O U Q)):=
   hid fun W' h=>⟨(j.ext0 (c.trans h)).cell 0 rfl,(j.ext0 (c.trans h)).cell 1 rfl,(j.ext0 (c.trans h)).cell 2 rfl,(k.ext0 (c.trans h)).cell 0 rfl,(k.ext0 (c.trans h)).cell 1 rfl,(k.ext0 (c.trans h)).cell 2 rfl⟩
  have e7:hq x<=549755813888:=Nat.le_trans e.out (by decide);have e8:hq y<=549755813888:=Nat.le_trans f.out (by decide);have a0:lg x.num.natAbs<=274877906944:=Nat.le_trans (Nat.le_trans (a0s x) e.out) (by omega);have a8:lg y.num.natAbs<=274877906944:=Nat.le_trans (Nat.le_trans (a0s y) f.out) (by omega);have Z:lg (x.den:Int).natAbs<=274877906944:=Nat.le_trans (Nat.le_trans (a0t x) e.out) (by omega);have a7:lg (y.den:Int).natAbs<=274877906944:=Nat.le_trans (Nat.le_trans (a0t y) f.out) (by omega);have m0:lg ((x.den:Int)*(y.den:Int)).natAbs<=274877906944:=by rw[<-Int.natCast_mul,Int.natAbs_natCast];exact d8
  have l9:(x.den:Int)*(y.den:Int)≠0:=Int.mul_ne_zero (by have:=x.den_nz;omega) (by have:=y.den_nz;omega);have f3:lg ((x.den:Int)*y.num).natAbs<=274877906944:=by rw[Int.mul_comm];exact e0
  have f4:(x.den:Int)*y.num≠0:=Int.mul_ne_zero (by have:=x.den_nz;omega) (fun h=>j7 (Rat.num_eq_zero.1 h));have b6:Hid (((x.num*(y.den:Int):Int):Rat)/(((x.den:Int)*y.num:Int):Rat)=x/y):=hid (by rw[Int.mul_comm (x.den:Int)];exact b3y x y);go_wp2_with fail
  go_region_held3 (fun V=>V.cell? ⟨b,0,none⟩=some (.bool K)/\V.cell? ⟨b,1,none⟩=some (.slice A I C)/\V.cell? ⟨b,2,none⟩=some (.slice N T P)/\V.cell? ⟨b+1,0,none⟩=some (.bool L)/\V.cell? ⟨b+1,1,none⟩=some (.slice B J D)/\V.cell? ⟨b+1,2,none⟩=some (.slice O U Q))
   (first|exact S.out _ t1|exact S.out _ t2|exact S.out _ t3|exact S.out _ t4|exact S.out _ z|exact⟨((E.out.1.ext0 (c.trans z)).ext (a.set3 _ _ _).2 (a0b (by omega))).cell 0 rfl,((E.out.1.ext0 (c.trans z)).ext (a.set3 _ _ _).2 (a0b (by omega))).cell 1 rfl,((E.out.1.ext0 (c.trans z)).ext (a.set3 _ _ _).2 (a0b (by omega))).cell 2 rfl,((E.out.2.ext0 (c.trans z)).ext (a.set3 _ _ _).2 (a0b (by omega))).cell 0 rfl,((E.out.2.ext0 (c.trans z)).ext (a.set3 _ _ _).2 (a0b (by omega))).cell 1 rfl,((E.out.2.ext0 (c.trans z)).ext (a.set3 _ _ _).2 (a0b (by omega))).cell 2 rfl⟩|go_keep)
   (first|(go_at_call 122;(with_reducible refine(a9j (a0e X b 3) wc.drew _ y d j9 e8).mono ?_);rintro R w5 ⟨t1,u5,rfl,i9⟩;have i1:=HX.ext d t1;have j3:=mkx ZC.mono c8 t1)|(go_at_call 121;(with_reducible refine(b0d (a0e X b 3) w5 _ _ x.num (y.den:Int) i1 (j3.zv (Nat.le_trans a0 (by decide))) (i9.zv (Nat.le_trans a7 (by decide))) a0 a7).mono ?_);rintro R w6 ⟨i,u6,rfl,j0⟩;have t2:=t1.trans i;have i2:=HX.ext d t2;have j4:=mkx QC.mono j5 t2)|(go_at_call 122;(with_reducible refine(a9j (a0e X b 3) w6 _ x i2 j4 e7).mono ?_);rintro R w7 ⟨b3,u7,rfl,j1⟩;have t3:=t2.trans b3;have i3:=HX.ext d t3;have j8:=mkx ZC.mono c9 t3)|(go_at_call 121;(with_reducible refine(b0d (a0e X b 3) w7 _ _ (x.den:Int) y.num i3 (j1.zv (Nat.le_trans Z (by decide))) (j8.zv (Nat.le_trans a8 (by decide))) Z a8).mono ?_);rintro R w8 ⟨b4,u8,rfl,j2⟩;have t4:=t3.trans b4;have i4:=HX.ext d t4;have k7:=mkx ZC.mono j0 (b3.trans b4))|(go_at_call 119;(with_reducible refine(b0i (a0e X b 3) w8 _ _ _ _ i4 k7 j2 d9 f3 f4).mono ?_);rintro R w9 ⟨h9,u9,rfl,G⟩;have z:=t4.trans h9;obtain⟨l0,d7,k9,e9,f5,k8,g5,rfl⟩:=G.shape;have a:=M.ext0 (c.trans z);have g0:=a.cell 0 rfl;have g1:=a.cell 1 rfl;have g2:=a.cell 2 rfl;have f0:=a.frozen 0;have f1:=a.frozen 1;have f2:=a.frozen 2))
  rw[b6.out]at G;obtain⟨r1,r2⟩:=a.set3 (.bool l0) (.slice d7 k9 e9) (.slice f5 k8 g5);have h7:=QC.mono _ _ _ _ a0h (QC.mono _ _ _ _ (a0f r2 (by omega) (by omega)) G);have i0:Ext w _:=ExtX.box (a9.trans (c.trans z)) r2 (by omega);clear g0 g1 g2 f0 f1 f2 o p q r s t S E;go_wp2_with fail
  exact bodyPost_ret (a0d rfl rfl a0j r1 rfl) rfl ⟨i0,_,rfl,h7⟩
theorem b7c(X:Nat->Bool)(w:World)(u v:Value)(x y:Rat)(hX:HX X w)(C:QV (mk X w) u x)(D:QV (mk X w) v y):Calls Tryz.prog 116 #[u,v] w (a1u X w QC (x - y)):=by
 have a8:=hid C.hq;have Q:=hid D.hq;obtain⟨I,p,G,r,t,E,A,rfl⟩:=C.shape;obtain⟨J,q,H,s,z,F,B,rfl⟩:=D.shape;obtain⟨W,hW,L,e,f,b2,hz⟩:=a1F w #[.bool I, .slice p G r, .slice t E A] #[.bool J, .slice q H s, .slice z F B] #[.bool false, .slice none 0 0, .slice none 0 0] 41 41 41;have k:HX (a0e X w.heap.size 3) W:=hX.boxes hz;have n:=QV.mono _ _ _ _ (a0i (nb:=3) L) C;have o:=QV.mono _ _ _ _ (a0i (nb:=3) L) D;obtain⟨b,hb⟩:∃b,w.heap.size=b:=⟨_,rfl⟩;have a7:w.heap.size<=b:=by omega
 rw[hb]at e f b2 hz k n o;have a:Ext W W.drew:=(ExtX.refl W).drew;have l:HX (a0e X b 3) W.drew:=k;have T:QV (mk (a0e X b 3) W.drew) (.agg #[.bool I, .slice p G r, .slice t E A]) x:=n;have U:QV (mk (a0e X b 3) W.drew) (.agg #[.bool J, .slice q H s, .slice z F B]) y:=o;have Y:=e.cell 0 rfl;have Z:=e.cell 1 rfl;have a0:=e.cell 2 rfl;have a3:=f.cell 0 rfl;have a4:=f.cell 1 rfl;have a5:=f.cell 2 rfl;clear C D;have g:=hid (And.intro e f);have O:Hid (∀W',Ext W.drew W'->W'.cell? ⟨b,0,none⟩=some (.bool I)/\W'.cell? ⟨b,1,none⟩=some (.slice p G r)/\W'.cell? ⟨b,2,none⟩=some (.slice t E A)/\W'.cell? ⟨b+1,0,none⟩=some (.bool J)/\W'.cell? ⟨b+1,1,none⟩=some (.slice q H s)/\W'.cell? ⟨b+1,2,none⟩=some (.slice z F B)):=
  hid fun W' h=>⟨(e.ext0 (a.trans h)).cell 0 rfl,(e.ext0 (a.trans h)).cell 1 rfl,(e.ext0 (a.trans h)).cell 2 rfl,(f.ext0 (a.trans h)).cell 0 rfl,(f.ext0 (a.trans h)).cell 1 rfl,(f.ext0 (a.trans h)).cell 2 rfl⟩
 have R:=hid (show hq (-y)<=68719476736 by rw[a3U];exact Q.out);have m:Hid (x+ -y=x - y):=hid (Rat.sub_eq_add_neg x y).symm;go_enter Tryz.func116,Tryz.ntmps116
 go_upto_region 1 with(fail)
 go_region_held3 (fun j=>j.cell? ⟨b,0,none⟩=some (.bool I)/\j.cell? ⟨b,1,none⟩=some (.slice p G r)/\j.cell? ⟨b,2,none⟩=some (.slice t E A)/\j.cell? ⟨b+1,0,none⟩=some (.bool J)/\j.cell? ⟨b+1,1,none⟩=some (.slice q H s)/\j.cell? ⟨b+1,2,none⟩=some (.slice z F B))
  (first|exact O.out _ K|exact O.out _ d|exact⟨((g.out.1.ext0 (a.trans d)).ext (c.set3 _ _ _).2 (a0b (by omega))).cell 0 rfl,((g.out.1.ext0 (a.trans d)).ext (c.set3 _ _ _).2 (a0b (by omega))).cell 1 rfl,((g.out.1.ext0 (a.trans d)).ext (c.set3 _ _ _).2 (a0b (by omega))).cell 2 rfl,((g.out.2.ext0 (a.trans d)).ext (c.set3 _ _ _).2 (a0b (by omega))).cell 0 rfl,((g.out.2.ext0 (a.trans d)).ext (c.set3 _ _ _).2 (a0b (by omega))).cell 1 rfl,((g.out.2.ext0 (a.trans d)).ext (c.set3 _ _ _).2 (a0b (by omega))).cell 2 rfl⟩|go_keep)
  (first|(go_at_call 56;(with_reducible refine(b2b (a0e X b 3) W.drew _ y l U).mono ?_);rintro ee w5 ⟨K,u5,rfl,S⟩;have P:=HX.ext l K;have V:=mkx QV.mono T K)|(go_at_call 48;(with_reducible refine(b4r (a0e X b 3) w5 _ _ x (-y) P V (S.qv R.out)).mono ?_);rintro ee w6 ⟨M,u6,rfl,i⟩;obtain⟨s6,a6,n6,c6,d6,k6,e6,rfl⟩:=i.shape;have d:=K.trans M;have c:=b2.ext0 (a.trans d);have g0:=c.cell 0 rfl;have g1:=c.cell 1 rfl;have g2:=c.cell 2 rfl;have f0:=c.frozen 0;have f1:=c.frozen 1;have f2:=c.frozen 2))
 rw[m.out]at i;obtain⟨q1,q2⟩:=c.set3 (.bool s6) (.slice a6 n6 c6) (.slice d6 k6 e6);have h7:=QC.mono _ _ _ _ a0h (QC.mono _ _ _ _ (a0f q2 (by omega) (by omega)) i);have N:Ext w _:=ExtX.box (L.trans (a.trans d)) q2 (by omega);clear g0 g1 g2 f0 f1 f2 Y Z a0 a3 a4 a5 O g;go_wp2_with fail
 exact bodyPost_ret (a0d rfl rfl a0j q1 rfl) rfl ⟨N,_,rfl,h7⟩
theorem a6R(X:Nat->Bool)(w:World)(u v:Value)(x y:Rat)(R:HX X w)(l:QV (mk X w) u x)(m:QV (mk X w) v y)(c:hq (x - y)<=68719476736):Calls Tryz.prog 41 #[u,v] w (a2L w (x - y).num.sign):=by
 have V:=hid l.hq;have Y:=hid m.hq;obtain⟨O,C,M,E,G,K,I,rfl⟩:=l.shape;obtain⟨P,D,N,F,H,L,J,rfl⟩:=m.shape;obtain⟨W,hW,n,j,k,hz⟩:=a0W w #[.bool O, .slice C M E, .slice G K I] #[.bool P, .slice D N F, .slice H L J] 41 41;have a:HX (a0e X w.heap.size 2) W:=R.boxes hz;have f:=QV.mono _ _ _ _ (a0i (nb:=2) n) l;have h:=QV.mono _ _ _ _ (a0i (nb:=2) n) m;obtain⟨b,T⟩:∃b,w.heap.size=b:=⟨_,rfl⟩;have U:w.heap.size<=b:=by omega
 rw[T]at j k hz a f h;have Q:Ext W W.drew:=(ExtX.refl W).drew;have S:HX (a0e X b 2) W.drew:=a;have Z:QV (mk (a0e X b 2) W.drew) (.agg #[.bool O, .slice C M E, .slice G K I]) x:=f;have a0:QV (mk (a0e X b 2) W.drew) (.agg #[.bool P, .slice D N F, .slice H L J]) y:=h;have r:=j.cell 0 rfl;have s:=j.cell 1 rfl;have t:=j.cell 2 rfl;have z:=k.cell 0 rfl;have A:=k.cell 1 rfl;have B:=k.cell 2 rfl;clear l m
 replace c:=hid c
 obtain⟨q,d⟩:∃q:Rat,x - y=q:=⟨_,rfl⟩;rw[d]at c |-;have p:=hid d;clear d;go_enter Tryz.func41,Tryz.ntmps41
 go_wp2_with fail
 refine(b7c (a0e X b 2) W _ _ x y a f h).mono ?_;rintro e w5 ⟨i,u5,rfl,g⟩;rw[p.out]at g;obtain⟨s5,a5,n5,c5,d5,k5,e5,rfl⟩:=g.shape;clear r s t z A B;go_wp2_with fail
 refine(b0j (a0e X b 2) w5 _ q (a.ext i) (g.qv c.out)).mono ?_;rintro e w6 ⟨o,rfl⟩;go_wp2_with fail
 go_ret
 exact⟨n.trans (i.trans o),rfl⟩
theorem a5N(X:Nat->Bool)(w:World)(a k:Int)(z:HX X w)(o: -9223372036854775808<=a)(p:a<=9223372036854775807)(q: -9223372036854775808<=k)(r:k<=9223372036854775807)(t:k≠0)(s:lg a.natAbs<=274877906944)(i:lg k.natAbs<=274877906944):Calls Tryz.prog 68 #[.int .i64 a, .int .i64 k] w (a1u X w QC ((a:Rat)/(k:Rat))):=by
 obtain⟨W,L,y,n,hz⟩:=a0J w #[.bool false, .slice none 0 0, .slice none 0 0] 41;have f:HX (a0e X w.heap.size 1) W:=z.boxes hz;obtain⟨b,A⟩:∃b,w.heap.size=b:=⟨_,rfl⟩;have B:w.heap.size<=b:=by omega
 rw[A]at n hz f;have e:=hid (And.intro (And.intro o p) (And.intro (And.intro q r) (And.intro t (And.intro s i))));clear o p q r t s i;go_enter Tryz.func68,Tryz.ntmps68
 go_wp2_with fail
 refine(b0e (a0e X b 1) W a f e.out.1.1 e.out.1.2).mono ?_;rintro I D ⟨d,P,rfl,l⟩;have h:=f.ext d;go_wp2_with fail
 refine(b0e (a0e X b 1) D k h e.out.2.1.1 e.out.2.1.2).mono ?_;rintro J E ⟨c,Q,rfl,m⟩;go_wp2_with fail
 refine(b0i (a0e X b 1) E _ _ a k (h.ext c) (mkx ZC.mono l c) m e.out.2.2.2.1 e.out.2.2.2.2 e.out.2.2.1).mono ?_;rintro K S ⟨g,R,rfl,j⟩;obtain⟨O,F,N,G,H,M,e5,rfl⟩:=j.shape;have v:=((n.ext0 d).ext0 c).ext0 g;go_wp2_with ((with_reducible show wpList _ _ _ (⟨_, .store _ _ _,_,_,_,_⟩::_) _ _);refine a0a a0j rfl rfl v rfl rfl (a1q _ _ _ _ _ _ _) ?_;intro T C u)
 have x:=QC.mono _ _ _ _ a0h (QC.mono _ _ _ _ (a0f u (by omega) (by omega)) j);exact bodyPost_ret (a0d rfl rfl a0j C rfl) rfl ⟨ExtX.box (y.trans (d.trans (c.trans g))) u (by omega),_,rfl,x⟩
theorem a0G.box{X:Nat->Bool}{b nb:Nat}{w W:World}(h:a0G X b w)(c:Ext w W):a0G (a0e X w.heap.size nb) b W:=by
 have a:=h.lt;obtain⟨i,lo,l,cap,at_,d,e,f,g⟩:=h;exact⟨b0b i,lo,l,cap,at_,by rw[c.block b a rfl];exact d,e,f,g.mono (a0M.mono _) (a0i c)⟩
theorem a0G.unbox{X:Nat->Bool}{a b nb:Nat}{w:World}(h:a0G (a0e X b nb) a w)(g:X a=true):a0G X a w:=by
 obtain⟨_,lo,l,cap,at_,c,d,e,f⟩:=h;exact⟨g,lo,l,cap,at_,c,d,e,f.mono (a0M.mono _) a0h⟩
theorem a0G.store{X:Nat->Bool}{a b nb:Nat}{w c:World}(h:a0G (a0e X b nb) a w)(d:ExtX (ob (some ⟨b,0,Option.none⟩)) w c)(g:0<nb)(f:a≠b):a0G (a0e X b nb) a c:=
 h.extY d (fun k e=>by
  have:k=b:=by
   have:=e;simp[ob]at this;omega
  subst this;simp[a0e];omega) (a0b f)
theorem _root_.Go.Rep.ExtX.tbox{a b:Nat}{w c d:World}(h:ExtX (tbm a) w c)(e:ExtX (ob (some ⟨b,0,none⟩)) c d)(f:w.heap.size<=b):ExtX (tbm a) w d:=h.then_ e (fun i hi _=>a0b (by omega))
theorem b6b{n:Nat}(h:n<4294967296):lg n<=1:=by
 by_cases a:n=0
 ·subst a;simp[a4N]
 ·rw[a1G (by omega) h];exact Nat.le_refl _
theorem lgI{a:Int}(b: -100000<=a)(c:a<=100000):lg a.natAbs<=1:=b6b (by omega)
theorem b4s{a k:Int}(b: -100000<=a)(c:a<=100000)(d: -100000<=k)(e:k<=100000):hq ((a:Rat)/(k:Rat))<=2:=by
 have:=hq_div (a:Rat) (k:Rat);have:=a4U a 1 (lgI b c) (by omega);have:=a4U k 1 (lgI d e) (by omega);omega
end Go.Proofs.YtnnpfhoigmegcaaGreat
namespace Go.Rep
open Go.RowKit Go.Lim
theorem QV.agg:∀h u y,QV h u y->∃a,u= .agg a:=by rintro h u x ⟨s,ao,c,m,b,e,d,rfl,_⟩;exact⟨_,rfl⟩
theorem QC.agg:∀h u y,QC h u y->∃a,u= .agg a:=by rintro h u x ⟨s,ao,c,m,b,e,d,rfl,_⟩;exact⟨_,rfl⟩
def a8v(R:Mem->Value->Rat->Prop):Prop:=∀h u q,R h u q->∃s ao n c bo k e,u= .agg #[.bool s, .slice ao n c, .slice bo k e]
theorem QC.shaped:a8v QC:=fun _ _ _ h=>h.shape
theorem QV.shaped:a8v QV:=fun _ _ _ h=>h.shape
theorem Sl.rat{R:Mem->Value->Rat->Prop}(t:a8v R){X:Nat->Bool}{w:World}{ao:Option Addr}{l:List Rat}(s:Sl R 3 (mk X w) ao l)(i:Nat)(hi:i<l.length):∃g o sg a n c d k e,adr ao (i*3)=⟨g,o,none⟩/\X g=false/\Hid (∀Y W',ExtX Y w W'->Y g=false->W'.cell? ⟨g,o,none⟩=some (.bool sg)/\W'.cell? ⟨g,o+1,none⟩=some (.slice a n c)/\W'.cell? ⟨g,o+2,none⟩=some (.slice d k e))/\R (mk X w) (.agg #[.bool sg, .slice a n c, .slice d k e]) l[i]:=by
 obtain⟨u,v,b,m⟩:=s.2 i hi;obtain⟨sg,a,n,c,d,k,e,rfl⟩:=t _ _ _ m;have j:=b 0 (by simp[Value.cells]);have p:=b 1 (by simp[Value.cells]);have q:=b 2 (by simp[Value.cells]);refine⟨(adr ao (i*3)).block,(adr ao (i*3)).off,sg,a,n,c,d,k,e,rfl,?_,hid fun Y W' f h=>⟨?_,?_,?_⟩,m⟩
 ·cases hx:X (adr ao (i*3)).block
  ·rfl
  ·have r:mk X w (adr ao (i*3))=some (.bool sg):=j
   simp[mk,hx]at r
 ·exact f.cellY (a1o j) h
 ·exact f.cellY (a1o p) h
 ·exact f.cellY (a1o q) h
abbrev RC:Mem->Value->List Rat->Prop:=SlV QC 3
abbrev RV:Mem->Value->List Rat->Prop:=SlV QV 3
abbrev MC:Mem->Value->List (List Rat)->Prop:=SlV RC 1
abbrev MV:Mem->Value->List (List Rat)->Prop:=SlV RV 1
theorem RC.mono:a2Q RC:=SlV.mono QC.mono 3
theorem RV.mono:a2Q RV:=SlV.mono QV.mono 3
theorem MC.mono:a2Q MC:=SlV.mono RC.mono 1
theorem MV.mono:a2Q MV:=SlV.mono RV.mono 1
theorem RC.elem:Elem RC 1:=SlV.elem QC.elem
theorem RV.elem:Elem RV 1:=SlV.elem QV.elem
def BR(B:Nat)(l:List Rat):Prop:=∀q∈l,hq q<=B
def BM(B:Nat)(m:List (List Rat)):Prop:=∀r∈m,BR B r
theorem Sl.qv{h:Mem}{ao:Option Addr}{l:List Rat}(s:Sl QC 3 h ao l)(d:BR 68719476736 l):Sl QV 3 h ao l:=
 ⟨s.1,fun i hi=>let ⟨u,a,b,c⟩:=s.2 i hi;⟨u,a,b,c.qv (d _ (List.getElem_mem _))⟩⟩
theorem RC.rv{h:Mem}{u:Value}{l:List Rat}(s:RC h u l)(d:BR 68719476736 l):RV h u l:=by
 obtain⟨ao,c,rfl,a,b⟩:=s;exact⟨ao,c,rfl,a,b.qv d⟩
theorem Sl.row{R:Mem->Value->Rat->Prop}{X:Nat->Bool}{w:World}{ao:Option Addr}{m:List (List Rat)}(s:Sl (SlV R 3) 1 (mk X w) ao m)(i:Nat)(hi:i<m.length):∃a c,X (adr ao i).block=false/\Hid (∀Y W',ExtX Y w W'->Y (adr ao i).block=false->W'.cell? (adr ao i)=some (.slice a m[i].length c))/\m[i].length<=c/\Sl R 3 (mk X w) a m[i]:=by
 obtain⟨u,b,a,c,rfl,d,e⟩:=s.cell SlV.one i hi;refine⟨a,c,?_,hid fun Y W' f g=>f.cellY (a1o b) g,d,e⟩;cases hx:X (adr ao i).block
 ·rfl
 ·simp[mk,hx]at b
end Go.Rep
namespace Go.Proofs.YtnnpfhoigmegcaaGreat
open Go.RowKit Go.Rep Go.Lim
theorem a1b:SliceT Tryz.prog 26 41 3 56 (.agg #[.bool false, .slice none 0 0, .slice none 0 0]):=⟨Tryz.underlying26,by kernel_rfl⟩
theorem a0L:SliceT Tryz.prog 25 26 1 24 (.slice none 0 0):=⟨Tryz.underlying25,by kernel_rfl⟩
theorem b4t:(Tryz.prog.info? 26).map (fun i=>(i.zero,i.size,i.bytes))=some (some (.slice none 0 0),1,24):=by kernel_rfl
theorem a8w:TyI Tryz.prog 26 1:=let ⟨i,h,_,a,_⟩:=info_parts b4t;⟨i,h,a⟩
theorem a6S:TyI Tryz.prog 41 3:=let ⟨_,ti,_,a,b⟩:=a0j;⟨ti,a,b⟩
end Go.Proofs.YtnnpfhoigmegcaaGreat
namespace Go.Rep
open Go.RowKit
theorem a8x{α:Type}{R:Mem->Value->α->Prop}(d:a2Q R){X:Nat->Bool}{w b:World}{oo:Option Addr}{u:Value}{x:α}(h:R (mk X w) u x)(c:Ext w b)(e:∀j,j<w.heap.size->ob oo j=false):R (mk (un X oo) b) u x:=
 d _ _ _ _ (a0Z c (fun k _ a=>by simp[noY]at a) fun j a hz=>by simpa[un,e j a]using hz) h
section
variable {P:Program} {ops:Array Oper} {Q:Exit->Act->World->Prop} {a:Act} {w:World}
variable {α:Type} {R:Mem->Value->α->Prop} {sz:Nat} {X:Nat->Bool} {base:Nat} {e:TypeId} {ao:Option Addr} {cap:Nat} {l:List α}
end
end Go.Rep
namespace Go.Proofs.YtnnpfhoigmegcaaGreat
open Go.RowKit Go.Rep Go.Lim
end Go.Proofs.YtnnpfhoigmegcaaGreat
namespace Go.Lin
def sm:Nat->(Nat->Rat)->Rat
 |0,_=>0
 |n+1,f=>sm n f+f n
theorem a0l{n:Nat}{f g:Nat->Rat}(h:∀i,i<n->f i=g i):sm n f=sm n g:=by
 induction n with
 |zero=>rfl
 |succ n ih=>unfold sm;rw[ih fun i hi=>h i (by omega),h n (by omega)]
theorem a3e{n:Nat}{f:Nat->Rat}(h:∀i,i<n->f i=0):sm n f=0:=by
 induction n with
 |zero=>rfl
 |succ n ih=>unfold sm;rw[ih fun i hi=>h i (by omega),h n (by omega)];grind
theorem a4E(n:Nat)(f g:Nat->Rat):sm n (fun i=>f i+g i)=sm n f+sm n g:=by
 induction n with
 |zero=>unfold sm;grind
 |succ n ih=>unfold sm;rw[ih];grind
theorem a2z(n:Nat)(a:Rat)(f:Nat->Rat):sm n (fun i=>a*f i)=a*sm n f:=by
 induction n with
 |zero=>unfold sm;grind
 |succ n ih=>unfold sm;rw[ih];grind
theorem b0k(n m:Nat)(f:Nat->Nat->Rat):sm n (fun i=>sm m (fun j=>f i j))=sm m (fun j=>sm n (fun i=>f i j)):=by
 induction n with
 |zero=>simp only[sm];rw[a3e];intros;rfl
 |succ n ih=>simp only[sm];rw[ih,a4E]
theorem a2r{n:Nat}{f:Nat->Rat}(k:Nat)(hk:k<n)(h:∀i,i<n->i≠k->f i=0):sm n f=f k:=by
 induction n with
 |zero=>omega
 |succ n ih=>
  unfold sm;by_cases e:k=n
  ·subst e;rw[a3e fun i hi=>h i (by omega) (by omega)];grind
  ·rw[ih (by omega) fun i hi hik=>h i (by omega) hik,h n (by omega) (by omega)];grind
theorem b3z(n:Nat)(f g:Nat->Rat):sm n (fun i=>f i - g i)=sm n f - sm n g:=by
 induction n with
 |zero=>unfold sm;grind
 |succ n ih=>unfold sm;rw[ih];grind
theorem b4u{n:Nat}{f g:Nat->Rat}(k:Nat)(b:k<n)(h:∀i,i<n->i≠k->f i=g i)(a:f k=g k):sm n f=sm n g:=
 a0l fun i hi=>by
             by_cases e:i=k
             ·subst e;exact a
             ·exact h i hi e
theorem b3A{n:Nat}{f g:Nat->Rat}(i k:Nat)(hi:i<n)(l:k<n)(d:i≠k)(h:∀r,r<n->r≠i->r≠k->f r=g r)(m:f i+f k=g i+g k):sm n f=sm n g:=by
 have e:sm n (fun r=>f r - g r)=0:=by
  have j:∀r,r<n->(fun r=>f r - g r) r=(fun r=>(if r=i then f i - g i else 0)+(if r=k then f k - g k else 0)) r:=by
   intro r c
   show f r - g r=_
   by_cases a:r=i
   ·subst a;simp[d];grind
   ·by_cases b:r=k
    ·subst b;simp[a];grind
    ·simp[a,b];rw[h r c a b];grind
  rw[a0l j,a4E,a2r i hi (fun r _ c=>by simp[c]),a2r k l (fun r _ c=>by simp[c])];simp;grind
 rw[b3z]at e;grind
abbrev F2:=Nat->Nat->Rat
def Eqm(n c:Nat)(f g:F2):Prop:=∀i,i<n->∀j,j<c->f i j=g i j
def Nul(n c:Nat)(f:F2)(x:Nat->Rat):Prop:=∀i,i<n->sm c (fun j=>f i j*x j)=0
inductive RE (n c:Nat):F2->F2->Rat->Prop
 |same {f g:F2} (h:Eqm n c f g):RE n c f g 1
 |swap {f g:F2} (i k:Nat) (hi:i<n) (hk:k<n) (hik:i≠k) (h1:∀j,j<c->g i j=f k j) (h2:∀j,j<c->g k j=f i j) (h3:∀r,r<n->r≠i->r≠k->∀j,j<c->g r j=f r j):RE n c f g (-1)
 |scale {f g:F2} (i:Nat) (a:Rat) (hi:i<n) (ha:a≠0) (h1:∀j,j<c->g i j=a*f i j) (h3:∀r,r<n->r≠i->∀j,j<c->g r j=f r j):RE n c f g a
 |add {f g:F2} (i k:Nat) (a:Rat) (hi:i<n) (hk:k<n) (hik:i≠k) (h1:∀j,j<c->g i j=f i j+a*f k j) (h3:∀r,r<n->r≠i->∀j,j<c->g r j=f r j):RE n c f g 1
 |trans {f g h:F2} {a b:Rat} (h1:RE n c f g a) (h2:RE n c g h b):RE n c f h (a*b)
theorem RE.nul{n c:Nat}{f g:F2}{d:Rat}(h:RE n c f g d)(x:Nat->Rat):Nul n c f x↔Nul n c g x:=by
 induction h with
 |same h=>
  constructor
  ·intro hn i hi;rw[<-hn i hi];exact a0l fun j hj=>by rw[h i hi j hj]
  ·intro hn i hi;rw[<-hn i hi];exact a0l fun j hj=>by rw[h i hi j hj]
 |swap i k hi hk hik h1 h2 h3=>
  constructor
  ·intro hn r hr
   by_cases a:r=i
   ·subst a;rw[<-hn k hk];exact a0l fun j hj=>by rw[h1 j hj]
   ·by_cases b:r=k
    ·subst b;rw[<-hn i hi];exact a0l fun j hj=>by rw[h2 j hj]
    ·rw[<-hn r hr];exact a0l fun j hj=>by rw[h3 r hr a b j hj]
  ·intro hn r hr
   by_cases a:r=i
   ·subst a;rw[<-hn k hk];exact a0l fun j hj=>by rw[h2 j hj]
   ·by_cases b:r=k
    ·subst b;rw[<-hn i hi];exact a0l fun j hj=>by rw[h1 j hj]
    ·rw[<-hn r hr];exact a0l fun j hj=>by rw[h3 r hr a b j hj]
 |@scale f g i a hi ha h1 h3=>
  have key:sm c (fun j=>g i j*x j)=a*sm c (fun j=>f i j*x j):=by
   rw[<-a2z];exact a0l fun j hj=>by rw[h1 j hj];grind
  constructor
  ·intro hn r hr
   by_cases e:r=i
   ·subst e;rw[key,hn r hr];grind
   ·rw[<-hn r hr];exact a0l fun j hj=>by rw[h3 r hr e j hj]
  ·intro hn r hr
   by_cases e:r=i
   ·subst e;have:=hn r hr;rw[key]at this;rcases Rat.mul_eq_zero.1 this with h|h
    ·contradiction
    ·exact h
   ·rw[<-hn r hr];exact a0l fun j hj=>by rw[h3 r hr e j hj]
 |@add f g i k a hi hk hik h1 h3=>
  have key:sm c (fun j=>g i j*x j)=sm c (fun j=>f i j*x j)+a*sm c (fun j=>f k j*x j):=by
   rw[<-a2z,<-a4E];exact a0l fun j hj=>by rw[h1 j hj];grind
  constructor
  ·intro hn r hr
   by_cases e:r=i
   ·subst e;rw[key,hn r hr,hn k hk];grind
   ·rw[<-hn r hr];exact a0l fun j hj=>by rw[h3 r hr e j hj]
  ·intro hn r hr
   by_cases e:r=i
   ·subst e
    have h4:=hn r hr;rw[key]at h4;have h5:=hn k hk;rw[show sm c (fun j=>g k j*x j)=sm c (fun j=>f k j*x j)from a0l fun j hj=>by rw[h3 k hk (by omega) j hj]]at h5;rw[h5]at h4;grind
   ·rw[<-hn r hr];exact a0l fun j hj=>by rw[h3 r hr e j hj]
 |trans _ _ ih1 ih2=>exact ih1.trans ih2
def cmb(n:Nat)(f:F2)(y:Nat->Rat)(j:Nat):Rat:=sm n fun i=>y i*f i j
def LI(n c:Nat)(f:F2):Prop:=∀y:Nat->Rat,(∀j,j<c->cmb n f y j=0)->∀i,i<n->y i=0
theorem RE.li{n c:Nat}{f g:F2}{d:Rat}(h:RE n c f g d)(hf:LI n c f):LI n c g:=by
 induction h with
 |same h=>
  intro y hy;exact hf y fun j hj=>by rw[<-hy j hj];exact a0l fun i hi=>by rw[h i hi j hj]
 |@swap f g i k hi hk hik h1 h2 h3=>
  intro y hy;have:=hf (fun r=>if r=i then y k else if r=k then y i else y r) fun j hj=>by
   rw[<-hy j hj];refine b3A i k hi hk hik (fun r hr a b=>?_) ?_
   ·simp[a,b,h3 r hr a b j hj]
   ·simp[hik.symm,h1 j hj,h2 j hj];grind
  intro r hr;by_cases a:r=i
  ·subst a;simpa[hik.symm]using this k hk
  ·by_cases b:r=k
   ·subst b;simpa using this i hi
   ·simpa[a,b]using this r hr
 |@scale f g i a hi ha h1 h3=>
  intro y hy;have:=hf (fun r=>if r=i then a*y i else y r) fun j hj=>by
   rw[<-hy j hj];refine b4u i hi (fun r hr e=>?_) ?_
   ·simp[e,h3 r hr e j hj]
   ·simp[h1 j hj];grind
  intro r hr;by_cases e:r=i
  ·subst e
   have h4:=this r hr;simp only[if_true]at h4;rcases Rat.mul_eq_zero.1 h4 with h4|h4
   ·contradiction
   ·exact h4
  ·simpa[e]using this r hr
 |@add f g i k a hi hk hik h1 h3=>
  intro y hy;have:=hf (fun r=>if r=k then y k+a*y i else y r) fun j hj=>by
   rw[<-hy j hj];refine b3A i k hi hk hik (fun r hr a b=>?_) ?_
   ·simp[b,h3 r hr a j hj]
   ·simp[hik,h1 j hj,h3 k hk hik.symm j hj];grind
  intro r hr;have hyi:y i=0:=by simpa[hik]using this i hi
  by_cases e:r=k
  ·subst e
   have h4:=this r hr;simp[hyi]at h4;grind
  ·simpa[e]using this r hr
 |trans _ _ ih1 ih2=>exact ih2 (ih1 hf)
structure Rref (n c:Nat) (f:F2) (p:List Nat):Prop where
 le:p.length<=n
 lt:∀i (hi:i<p.length),p[i]<c
 inc:∀i k (hik:i<k) (hk:k<p.length),p[i]<p[k]
 left:∀i (hi:i<p.length),∀j,j<p[i]->f i j=0
 one:∀i (hi:i<p.length),f i p[i]=1
 zero:∀k (hk:k<p.length),∀i,i<n->i≠k->f i p[k]=0
 below:∀i,p.length<=i->i<n->∀j,j<c->f i j=0
def nv(f:F2)(p:List Nat)(j:Nat):Nat->Rat:=fun x=>if x=j then 1 else match p.findIdx? (· ==x)with|some i=> - f i j|none=>0
theorem Rref.idx{n c:Nat}{f:F2}{p:List Nat}(h:Rref n c f p)(i:Nat)(hi:i<p.length):p.findIdx? (· ==p[i])=some i:=by
 rw[List.findIdx?_eq_some_iff_getElem];refine⟨hi,by simp,fun j a=>?_⟩;have:=h.inc j i a hi;simp;omega
theorem b2c{p:List Nat}{x:Nat}(h:x∉p):p.findIdx? (· ==x)=none:=by
 rw[List.findIdx?_eq_none_iff];intro y a;simp;rintro rfl;exact h a
theorem Rref.nv_piv{n c:Nat}{f:F2}{p:List Nat}(h:Rref n c f p){j:Nat}(a:j∉p)(i:Nat)(hi:i<p.length):nv f p j p[i]= - f i j:=by
 unfold nv;rw[if_neg (by rintro e;exact a (e▸List.getElem_mem _)),h.idx i hi]
theorem a4X{f:F2}{p:List Nat}(j:Nat):nv f p j j=1:=by simp[nv]
theorem a6u{f:F2}{p:List Nat}{j x:Nat}(hx:x∉p)(a:x≠j):nv f p j x=0:=by
 unfold nv;rw[if_neg a,b2c hx]
theorem Rref.row{n c:Nat}{f:F2}{p:List Nat}(h:Rref n c f p)(i:Nat)(hi:i<p.length)(x:Nat->Rat):sm c (fun j=>f i j*x j)=x p[i]+sm c (fun j=>if j∈p then 0 else f i j*x j):=by
 have e:sm c (fun j=>f i j*x j)=sm c (fun j=>(if j=p[i]then x p[i]else 0)+(if j∈p then 0 else f i j*x j)):=by
  refine a0l fun j l=>?_;by_cases g:j∈p
  ·obtain⟨k,m,rfl⟩:=List.getElem_of_mem g
   by_cases b:i=k
   ·subst b;simp[h.one i hi];grind
   ·have d:p[k]≠p[i]:=by
     rcases Nat.lt_or_gt_of_ne b with a|a
     ·have:=h.inc i k a m;omega
     ·have:=h.inc k i a hi;omega
    simp[d,h.zero k m i (Nat.lt_of_lt_of_le hi h.le) b];grind
  ·have d:j≠p[i]:=by rintro rfl;exact g (List.getElem_mem _)
   simp[g,d];grind
 rw[e,a4E,a2r p[i] (h.lt i hi) (fun j _ l=>by simp[l])];simp
theorem Rref.nv_nul{n c:Nat}{f:F2}{p:List Nat}(h:Rref n c f p){j:Nat}(g:j∉p)(b:j<c):Nul n c f (nv f p j):=by
 intro i hi;by_cases a:i<p.length
 ·rw[h.row i a,h.nv_piv g i a,a2r j b]
  ·simp[g,a4X];grind
  ·intro k _ d
   by_cases e:k∈p
   ·simp[e]
   ·simp[e,a6u e d]
 ·exact a3e fun k l=>by rw[h.below i (by omega) hi k l];grind
theorem Rref.nv_supp{n c:Nat}{f:F2}{p:List Nat}(h:Rref n c f p){j:Nat}(d:j∉p){x:Nat}(hx:j<x):nv f p j x=0:=by
 by_cases b:x∈p
 ·obtain⟨k,a,rfl⟩:=List.getElem_of_mem b
  rw[h.nv_piv d k a,h.left k a j hx];grind
 ·exact a6u b (by omega)
theorem Rref.sub{n c:Nat}{f g:F2}{p q:List Nat}(i:Rref n c f p)(b:Rref n c g q)(m:∀x,Nul n c f x->Nul n c g x)(j:Nat)(l:j∈q):j∈p:=by
 refine Classical.byContradiction fun d=>?_;obtain⟨k,e,rfl⟩:=List.getElem_of_mem l;have h:=m _ (i.nv_nul d (b.lt k e)) k (Nat.lt_of_lt_of_le e b.le);rw[a2r q[k] (b.lt k e)]at h
 ·rw[b.one k e,a4X]at h;grind
 ·intro x _ hx
  rcases Nat.lt_or_gt_of_ne hx with a|a
  ·rw[b.left k e x a];grind
  ·rw[i.nv_supp d a];grind
theorem b3B:∀(p q:List Nat),p.Pairwise (· < ·)->q.Pairwise (· < ·)->(∀x,x∈p↔x∈q)->p=q
 | [],[],_,_,_=>rfl
 | [],b::q,_,_,h=>by have:=(h b).2 (by simp);simp at this
 |a::p,[],_,_,h=>by have:=(h a).1 (by simp);simp at this
 |a::p,b::q,hp,hq,h=>by
  rw[List.pairwise_cons]at hp hq;have hab:a=b:=by
   have h1:=(h a).1 (by simp);have h2:=(h b).2 (by simp);simp at h1 h2;rcases h1 with h1|h1
   ·exact h1
   ·rcases h2 with h2|h2
    ·exact h2.symm
    ·have:=hq.1 a h1;have:=hp.1 b h2;omega
  subst hab;rw[b3B p q hp.2 hq.2];intro x;have h3:=h x;simp at h3;constructor
  ·intro hx
   have:=hp.1 x hx;rcases h3.1 (.inr hx)with e|e
   ·omega
   ·exact e
  ·intro hx
   have:=hq.1 x hx;rcases h3.2 (.inr hx)with e|e
   ·omega
   ·exact e
theorem Rref.pw{n c:Nat}{f:F2}{p:List Nat}(h:Rref n c f p):p.Pairwise (· < ·):=by
 rw[List.pairwise_iff_getElem];intro i j hi b a;exact h.inc i j a b
theorem RE.cast{n c:Nat}{f g:F2}{a b:Rat}(h:RE n c f g a)(e:a=b):RE n c f g b:=e▸h
theorem RE.then_{n c:Nat}{f g h:F2}{a b d:Rat}(i:RE n c f g a)(j:RE n c g h b)(e:a*b=d):RE n c f h d:=e▸i.trans j
theorem RE.addmany{n c:Nat}{f g:F2}(k:Nat)(hk:k<n)(a:Nat->Rat)(h1:∀i,i<n->i≠k->∀j,j<c->g i j=f i j+a i*f k j)(h2:∀j,j<c->g k j=f k j):RE n c f g 1:=by
 have key:∀t,t<=n->RE n c f (fun i j=>if i<t then g i j else f i j) 1:=by
  intro t
  induction t with
  |zero=>intro _;exact .same fun i _ j _=>by simp
  |succ t ih=>
   intro ht;refine(ih (by omega)).then_ (b:=1) ?_ (by grind);by_cases e:t=k
   ·subst e
    refine .same fun i hi j hj=>?_;by_cases a:i<t
    ·simp[a,show i<t+1 by omega]
    ·by_cases b:i=t
     ·subst b;simp[h2 j hj]
     ·simp[a,show¬i<t+1 by omega]
   ·refine .add t k (a t) (by omega) hk e (fun j hj=>?_) (fun r hr hrt j hj=>?_)
    ·have h3:=h1 t (by omega) e j hj
     by_cases b:k<t
     ·simp[b,h3,h2 j hj]
     ·simp[b,h3]
    ·by_cases a:r<t
     ·simp[a,show r<t+1 by omega]
     ·simp[a,show¬r<t+1 by omega]
 refine(key n (Nat.le_refl _)).then_ (.same fun i hi j hj=>?_) (by grind);simp[hi]
structure Ech (n k:Nat) (f:F2) (p:List Nat):Prop where
 le:p.length<=n
 lt:∀i (hi:i<p.length),p[i]<k
 inc:∀i k (hik:i<k) (hk:k<p.length),p[i]<p[k]
 left:∀i (hi:i<p.length),∀j,j<p[i]->f i j=0
 piv:∀i (hi:i<p.length),f i p[i]≠0
 below:∀i,p.length<=i->i<n->∀j,j<k->f i j=0
theorem Ech.nil(n:Nat)(f:F2):Ech n 0 f []:=⟨by simp,by simp,by simp,by simp,by simp,by intros;omega⟩
theorem Ech.skip{n k:Nat}{f:F2}{p:List Nat}(h:Ech n k f p)(hz:∀i,p.length<=i->i<n->f i k=0):Ech n (k+1) f p:=
 ⟨h.le,fun i hi=>Nat.lt_succ_of_lt (h.lt i hi),h.inc,h.left,h.piv,fun i hi a j b=>by
  by_cases e:j=k
  ·subst e;exact hz i hi a
  ·exact h.below i hi a j (by omega)⟩
theorem b0l{p:List Nat}{k:Nat}(h:∀i (hi:i<p.length),p[i]<k)(i:Nat)(hi:i<(p++[k]).length):(p++[k])[i]<k+1:=by
 rw[List.getElem_append];split
 ·have:=h i (by assumption);omega
 ·simp
theorem a8y{p:List Nat}{c:Nat}(h:∀i (hi:i<p.length),p[i]<c)(e:∀i k (b:i<k) (d:k<p.length),p[i]<p[k])(i k:Nat)(b:i<k)(d:k<(p++[c]).length):(p++[c])[i]<(p++[c])[k]:=by
 simp at d;rw[List.getElem_append,List.getElem_append];by_cases a:k<p.length
 ·simp[a,show i<p.length by omega];exact e i k b a
 ·simp[a,show i<p.length by omega];exact h i (by omega)
theorem Ech.push{n k:Nat}{f g:F2}{p:List Nat}(h:Ech n k f p)(o:p.length<n)(d:∀i,i<p.length->∀j,g i j=f i j)(hz:∀i,p.length<=i->i<n->∀j,j<k->g i j=0)(c:g p.length k≠0)(m:∀i,p.length<i->i<n->g i k=0):Ech n (k+1) g (p++[k]):=by
 refine⟨by simp;omega,b0l h.lt,a8y h.lt h.inc,fun i hi j b=>?_,fun i hi=>?_,fun i hi l j b=>?_⟩
 ·simp at hi
  rw[List.getElem_append]at b;by_cases a:i<p.length
  ·simp[a]at b;rw[d i a];exact h.left i a j b
  ·simp[a]at b;exact hz i (by omega) (by omega) j b
 ·simp at hi
  rw[List.getElem_append];by_cases a:i<p.length
  ·simp only[a,dite_true];rw[d i a];exact h.piv i a
  ·obtain rfl:i=p.length:=by omega
   simpa using c
 ·simp at hi
  by_cases e:j=k
  ·subst e;exact m i (by omega) l
  ·exact hz i (by omega) l j (by omega)
structure Red (n t:Nat) (f:F2) (p:List Nat):Prop where
 one:∀i (hi:i<p.length),i<t->f i p[i]=1
 zero:∀k (hk:k<p.length),k<t->∀i,i<n->i≠k->f i p[k]=0
theorem Ech.rref{n c:Nat}{f:F2}{p:List Nat}(h:Ech n c f p)(b:Red n p.length f p):Rref n c f p:=
 ⟨h.le,h.lt,h.inc,h.left,fun i hi=>b.one i hi hi,fun k a=>b.zero k a a,h.below⟩
theorem Ech.under{n c:Nat}{f:F2}{p:List Nat}(h:Ech n c f p)(k:Nat)(d:k<p.length)(i:Nat)(hi:i<n)(b:k<i):f i p[k]=0:=by
 by_cases a:i<p.length
 ·exact h.left i a _ (h.inc k i b a)
 ·exact h.below i (by omega) hi _ (h.lt k d)
theorem Red.step{n c t:Nat}{f g:F2}{p:List Nat}(h:Ech n c f p)(u:Red n t f p)(l:t<p.length)(v:∀j,g t j=f t j/f t p[t])(m:∀i,i<t->∀j,g i j=f i j - f i p[t]*g t j)(o:∀i,t<i->∀j,g i j=f i j):Ech n c g p/\Red n (t+1) g p:=by
 have z:=h.piv t l;have hz:∀j,j<p[t]->g t j=0:=fun j e=>by rw[v,h.left t l j e];grind
 have d:g t p[t]=1:=by rw[v];grind
 refine⟨⟨h.le,h.lt,h.inc,fun i hi j e=>?_,fun i hi=>?_,fun i hi y j e=>?_⟩,⟨fun i hi w=>?_,fun k s x i hi q=>?_⟩⟩
 ·rcases Nat.lt_trichotomy i t with a|a|a
  ·rw[m i a,h.left i hi j e,hz j (by have:=h.inc i t a l;omega)];grind
  ·subst a;exact hz j e
  ·rw[o i a];exact h.left i hi j e
 ·rcases Nat.lt_trichotomy i t with a|a|a
  ·rw[m i a,hz _ (h.inc i t a l)];have:=h.piv i hi;grind
  ·subst a;rw[d];grind
  ·rw[o i a];exact h.piv i hi
 ·rw[o i (by omega)];exact h.below i hi y j e
 ·rcases Nat.lt_trichotomy i t with a|a|a
  ·rw[m i a,hz _ (h.inc i t a l),u.one i hi a];grind
  ·subst a;exact d
  ·omega
 ·rcases Nat.lt_trichotomy k t with b|b|b
  ·have r:g t p[k]=0:=hz _ (h.inc k t b l)
   rcases Nat.lt_trichotomy i t with a|a|a
   ·rw[m i a,r,u.zero k s b i hi q];grind
   ·subst a;exact r
   ·rw[o i a];exact u.zero k s b i hi q
  ·subst b
   rcases Nat.lt_trichotomy i k with a|a|a
   ·rw[m i a,d];grind
   ·omega
   ·rw[o i a];exact h.under k s i hi a
  ·omega
theorem Rref.skip{n k:Nat}{f:F2}{p:List Nat}(h:Rref n k f p)(hz:∀i,p.length<=i->i<n->f i k=0):Rref n (k+1) f p:=
 ⟨h.le,fun i hi=>Nat.lt_succ_of_lt (h.lt i hi),h.inc,h.left,h.one,h.zero,fun i hi a j b=>by
  by_cases e:j=k
  ·subst e;exact hz i hi a
  ·exact h.below i hi a j (by omega)⟩
theorem Rref.nil(n:Nat)(f:F2):Rref n 0 f []:=⟨by simp,by simp,by simp,by simp,by simp,by simp,by intros;omega⟩
theorem Rref.push{n k:Nat}{f g:F2}{p:List Nat}(h:Rref n k f p)(t:p.length<n)(u:f p.length k≠0)(r:∀j,g p.length j=f p.length j*(1/f p.length k))(s:∀i,i<n->i≠p.length->∀j,g i j=f i j+g p.length j* - f i k):Rref n (k+1) g (p++[k]):=by
 have hz:∀j,j<k->g p.length j=0:=fun j b=>by rw[r,h.below _ (Nat.le_refl _) t j b];grind
 have c:g p.length k=1:=by rw[r];grind
 have l:∀i,i<n->i≠p.length->g i k=0:=fun i hi e=>by rw[s i hi e,c];grind
 have m:∀i,i<n->∀j,j<k->g i j=f i j:=fun i hi j b=>by
  by_cases e:i=p.length
  ·subst e;rw[hz j b,h.below _ (Nat.le_refl _) t j b]
  ·rw[s i hi e,hz j b];grind
 refine⟨by simp;omega,b0l h.lt,a8y h.lt h.inc,fun i hi j b=>?_,fun i hi=>?_,fun q hq i hi d=>?_,fun i hi o j b=>?_⟩
 ·simp at hi
  rw[List.getElem_append]at b;by_cases a:i<p.length
  ·simp[a]at b;rw[m i (by omega) j (by have:=h.lt i a;omega)];exact h.left i a j b
  ·simp[a]at b;obtain rfl:i=p.length:=by omega
   exact hz j b
 ·simp at hi
  rw[List.getElem_append];by_cases a:i<p.length
  ·simp only[a,dite_true];rw[m i (by omega) _ (h.lt i a)];exact h.one i a
  ·obtain rfl:i=p.length:=by omega
   simpa using c
 ·simp at hq
  rw[List.getElem_append];by_cases a:q<p.length
  ·simp only[a,dite_true];rw[m i hi _ (h.lt q a)];exact h.zero q a i hi d
  ·obtain rfl:q=p.length:=by omega
   simpa using l i hi d
 ·simp at hi
  by_cases e:j=k
  ·subst e;exact l i o (by omega)
  ·rw[m i o j (by omega)];exact h.below i (by omega) o j (by omega)
abbrev Mat:=List (List Rat)
def ent(m:Mat):F2:=fun i j=>(m.getD i []).getD j 0
def Shp(n c:Nat)(m:Mat):Prop:=m.length=n/\∀r∈m,r.length=c
theorem Shp.row{n c:Nat}{m:Mat}(h:Shp n c m){i:Nat}(hi:i<n):(m.getD i []).length=c:=by
 have:i<m.length:=by rw[h.1];exact hi
 simp[List.getD_eq_getElem?_getD,this,h.2]
theorem a4o{n c:Nat}{m:Mat}(h:Shp n c m){i j:Nat}(a:n<=i\/c<=j):ent m i j=0:=by
 unfold ent;by_cases hi:i<n
 ·have:=h.row hi
  rw[List.getD_eq_getElem?_getD,List.getElem?_eq_none (by omega)];rfl
 ·have:=h.1
  rw[List.getD_eq_getElem?_getD (l:=m),List.getElem?_eq_none (by omega)];simp
theorem Shp.ext{n c:Nat}{m e:Mat}(h:Shp n c m)(f:Shp n c e)(o:Eqm n c (ent m) (ent e)):m=e:=by
 refine List.ext_getElem (h.1.trans f.1.symm) fun i a g=>?_;have b:=h.2 _ (List.getElem_mem a);have d:=f.2 _ (List.getElem_mem g);refine List.ext_getElem (b.trans d.symm) fun j k l=>?_;have:=o i (by rw[<-h.1];exact a) j (by omega);simpa[ent,List.getD_eq_getElem?_getD,a,g,k,l]using this
theorem Shp.set{n c:Nat}{m:Mat}(h:Shp n c m)(i:Nat){r:List Rat}(b:r.length=c):Shp n c (m.set i r):=by
 refine⟨by simp[h.1],fun x hx=>?_⟩;rcases List.mem_or_eq_of_mem_set hx with a|a
 ·exact h.2 _ a
 ·rw[a];exact b
theorem a6v{m:Mat}{i:Nat}{r:List Rat}(hi:i<m.length)(k j:Nat):ent (m.set i r) k j=if k=i then r.getD j 0 else ent m k j:=by
 unfold ent;simp only[List.getD_eq_getElem?_getD,List.getElem?_set];by_cases e:k=i
 ·subst e;simp[hi]
 ·simp[e,Ne.symm e]
def rows(m:Mat)(f:Nat->List Rat->List Rat):Mat:=m.mapIdx f
theorem Shp.rows{n c:Nat}{m:Mat}(h:Shp n c m){f:Nat->List Rat->List Rat}(a:∀i,i<n->∀r:List Rat,r.length=c->(f i r).length=c):Shp n c (rows m f):=by
 refine⟨by simp[Lin.rows,h.1],fun x hx=>?_⟩;obtain⟨i,hi,rfl⟩:=List.getElem_of_mem hx;simp only[Lin.rows,List.length_mapIdx,List.getElem_mapIdx]at hi |-;exact a i (by rw[<-h.1];exact hi) _ (h.2 _ (List.getElem_mem _))
theorem a6w{m:Mat}{f:Nat->List Rat->List Rat}{i:Nat}(hi:i<m.length)(j:Nat):ent (rows m f) i j=(f i (m.getD i [])).getD j 0:=by
 simp[ent,rows,List.getD_eq_getElem?_getD,hi]
def a1a(m:Mat)(i k:Nat):Mat:=(m.set i (m.getD k [])).set k (m.getD i [])
theorem Shp.swap{n c:Nat}{m:Mat}(h:Shp n c m){i k:Nat}(hi:i<n)(a:k<n):Shp n c (a1a m i k):=(h.set i (h.row a)).set k (h.row hi)
theorem a3s{n c:Nat}{m:Mat}(h:Shp n c m){i k:Nat}(hi:i<n)(a:k<n)(r j:Nat):ent (a1a m i k) r j=if r=k then ent m i j else if r=i then ent m k j else ent m r j:=by
 unfold a1a;rw[a6v (by simp[h.1,a]),a6v (by simp[h.1,hi])];rfl
theorem a5O(m:Mat)(i:Nat)(hi:i<m.length):a1a m i i=m:=by
 unfold a1a;simp[List.getD_eq_getElem?_getD,hi]
theorem b0m{n c:Nat}{m:Mat}(h:Shp n c m){i k:Nat}(hi:i<n)(e:k<n)(d:i≠k):RE n c (ent m) (ent (a1a m i k)) (-1):=
 .swap i k hi e d (fun j _=>by rw[a3s h hi e];simp[d]) (fun j _=>by rw[a3s h hi e];simp) (fun r _ a b j _=>by rw[a3s h hi e];simp[a,b])
def a2A(row piv:List Rat)(col:Nat):List Rat:=List.zipWith (fun a x=>a - (row.getD col 0/piv.getD col 0)*x) row piv
theorem a3f(row a:List Rat)(b:Nat)(h:row.length=a.length):(a2A row a b).length=a.length:=by simp[a2A,h]
theorem a6T(row a:List Rat)(b j:Nat)(h:row.length=a.length):(a2A row a b).getD j 0=row.getD j 0 - (row.getD b 0/a.getD b 0)*a.getD j 0:=by
 unfold a2A;simp only[List.getD_eq_getElem?_getD,List.getElem?_zipWith];by_cases c:j<row.length
 ·simp[c,show j<a.length by omega]
 ·simp[show¬j<row.length by omega,show¬j<a.length by omega];grind
theorem a9k(row b:List Rat)(a:Nat)(h:row.length=b.length)(c:row.getD a 0/b.getD a 0=0):a2A row b a=row:=by
 refine List.ext_getElem (by simp[a2A,h]) fun i d e=>?_;simp only[a2A,List.getElem_zipWith,c];grind
abbrev St:=Mat×List Nat×Bool
def clear(m:Mat)(t col:Nat)(s:Nat):Mat:=rows m fun i r=>if t<i/\i<t+1+s then a2A r (m.getD t []) col else r
noncomputable def b4v(m:Mat)(t col:Nat):Option Nat:=(m.drop t).findIdx? fun r=>decide (r.getD col 0≠0)
noncomputable def a4p(s:St)(col:Nat):St:=
 if s.2.1.length=s.1.length then s else
 match b4v s.1 s.2.1.length col with
 |none=>s
 |some k=>(clear (a1a s.1 s.2.1.length (s.2.1.length+k)) s.2.1.length col s.1.length,s.2.1++[col],s.2.2 !=decide (k≠0))
noncomputable def eN(m:Mat):Nat->St
 |0=>(m,[],false)
 |k+1=>a4p (eN m k) k
theorem Shp.clear{n c:Nat}{m:Mat}(h:Shp n c m){t:Nat}(d:t<n)(a s:Nat):Shp n c (clear m t a s):=
 h.rows fun i hi r b=>by
  split
  ·rw[a3f _ _ _ (by rw[b,h.row d]),h.row d]
  ·exact b
theorem a3W{n c:Nat}{m:Mat}(h:Shp n c m){t:Nat}(e:t<n)(d s i j:Nat):ent (clear m t d s) i j=if t<i/\i<t+1+s/\i<n then ent m i j - (ent m i d/ent m t d)*ent m t j else ent m i j:=by
 by_cases hi:i<n
 ·unfold Lin.clear
  rw[a6w (by rw[h.1];exact hi)];by_cases a:t<i/\i<t+1+s
  ·simp only[a,and_self,if_true,hi]
   rw[a6T _ _ _ _ (by rw[h.row hi,h.row e])];rfl
  ·rw[if_neg a,if_neg (fun b=>a ⟨b.1,b.2.1⟩)];rfl
 ·rw[a4o (h.clear e d s) (.inl (by omega)),if_neg (by omega),a4o h (.inl (by omega))]
theorem b2d{n c:Nat}{m:Mat}(h:Shp n c m){t:Nat}(b:t<n)(a s:Nat):RE n c (ent m) (ent (clear m t a s)) 1:=
 .addmany t b (fun i=>if t<i/\i<t+1+s/\i<n then - (ent m i a/ent m t a)else 0)
  (fun i hi e j d=>by rw[a3W h b];split<;>grind) (fun j d=>by rw[a3W h b];simp)
theorem a6U{m:Mat}{t b:Nat}(h:b4v m t b=none)(i:Nat)(hi:t<=i):ent m i b=0:=by
 unfold b4v at h;rw[List.findIdx?_eq_none_iff]at h;by_cases a:i<m.length
 ·have:=h (m[i]) (by rw[List.mem_drop_iff_getElem];exact⟨i - t,by omega,by congr 1;omega⟩)
  unfold ent;simp only[List.getD_eq_getElem?_getD,a,getElem?_pos,Option.getD_some]at this |-;simpa using this
 ·unfold ent;rw[List.getD_eq_getElem?_getD (l:=m),List.getElem?_eq_none (by omega)];simp
theorem a3g{m:Mat}{t b k:Nat}(h:b4v m t b=some k):t+k<m.length/\ent m (t+k) b≠0:=by
 unfold b4v at h;rw[List.findIdx?_eq_some_iff_getElem]at h;obtain⟨d,c,_⟩:=h;simp at d;refine⟨by omega,?_⟩;unfold ent;simp only[List.getElem_drop]at c;have a:t+k<m.length:=by omega
 simp only[List.getD_eq_getElem?_getD,a,getElem?_pos,Option.getD_some]at c |-;simpa using c
structure EOk (n c k:Nat) (m:Mat) (s:St):Prop where
 shp:Shp n c s.1
 ech:Ech n k (ent s.1) s.2.1
 re:RE n c (ent m) (ent s.1) (if s.2.2 then -1 else 1)
theorem EOk.zero{n c:Nat}{m:Mat}(h:Shp n c m):EOk n c 0 m (m,[],false):=⟨h,Ech.nil _ _, .same fun _ _ _ _=>rfl⟩
theorem EOk.step{n c k:Nat}{m:Mat}{s:St}(h:EOk n c k m s):EOk n c (k+1) m (a4p s k):=by
 obtain⟨M,p,t⟩:=s;have u:Shp n c M:=h.shp;have g:Ech n k (ent M) p:=h.ech;have w:RE n c (ent m) (ent M) (if t then -1 else 1):=h.re;have B:=u.1;unfold a4p
 dsimp only
 split
 ·rename_i e
  exact⟨u,g.skip fun i hi o=>by omega,w⟩
 ·rename_i e
  split
  ·rename_i hz
   exact⟨u,g.skip fun i hi _=>a6U hz i hi,w⟩
  ·rename_i q hz
   obtain⟨A,z⟩:=a3g hz;have d:p.length<n:=by have:=g.le;omega
   have f:p.length+q<n:=by omega
   have r:=u.swap d f;have l:=fun i j=>a3s u d f i j;have a:=fun i j=>a3W r d k M.length i j;have v:ent (a1a M p.length (p.length+q)) p.length k≠0:=by
    rw[l];by_cases b:q=0
    ·subst b;simpa using z
    ·simp[b];exact z
   refine⟨r.clear d _ _,g.push d (fun i hi j=>?_) (fun i hi o j y=>?_) ?_ (fun i hi o=>?_),?_⟩
   ·rw[a,if_neg (by omega),l,if_neg (by omega),if_neg (by omega)]
   ·have hz:∀i,p.length<=i->i<n->ent (a1a M p.length (p.length+q)) i j=0:=fun i hi o=>by
     rw[l];split
     ·exact g.below _ (by omega) d j y
     ·split
      ·exact g.below _ (by omega) f j y
      ·exact g.below _ hi o j y
    rw[a];split
    ·rw[hz i hi o,hz p.length (Nat.le_refl _) d];grind
    ·exact hz i hi o
   ·rw[a,if_neg (by omega)];exact v
   ·rw[a,if_pos ⟨hi,by omega,o⟩];grind
   ·have x:=b2d r d k M.length
    by_cases b:q=0
    ·subst b
     rw[Nat.add_zero,a5O M _ (by omega)]at x |-;exact w.then_ x (by cases t<;>simp)
    ·exact w.then_ ((b0m u d f (by omega)).then_ x rfl) (by cases t<;>simp[b];grind)
theorem a6V{n c:Nat}{m:Mat}(h:Shp n c m)(k:Nat):EOk n c k m (eN m k):=by
 induction k with
 |zero=>exact EOk.zero h
 |succ k ih=>exact ih.step
theorem b4w(m:Mat)(k:Nat)(h:(eN m k).2.1.length=(eN m k).1.length)(k':Nat)(hk:k<=k'):eN m k'=eN m k:=by
 induction k' with
 |zero=>
      have:k=0:=by omega
      subst this;rfl
 |succ k' ih=>
  by_cases e:k=k'+1
  ·subst e;rfl
  ·have:=ih (by omega)
   show a4p (eN m k') k'=_
   rw[this];unfold a4p;rw[if_pos h]
def divL(m:Mat)(i col:Nat):Mat:=m.set i ((m.getD i []).map (· /ent m i col))
def above(m:Mat)(i col s:Nat):Mat:=rows m fun k r=>if k<i/\k<s then a2A r (m.getD i []) col else r
def dStep(m:Mat)(i col:Nat):Mat:=above (divL m i col) i col i
theorem a6W(r:List Rat)(a:Rat)(j:Nat):(r.map (· /a)).getD j 0=r.getD j 0/a:=by
 simp only[List.getD_eq_getElem?_getD,List.getElem?_map];cases r[j]? with
 |none=>simp;grind
 |some x=>simp
theorem Shp.divL{n c:Nat}{m:Mat}(h:Shp n c m){i:Nat}(hi:i<n)(a:Nat):Shp n c (divL m i a):=h.set i (by rw[List.length_map];exact h.row hi)
theorem a2H{n c:Nat}{m:Mat}(h:Shp n c m){i:Nat}(hi:i<n)(a k j:Nat):ent (divL m i a) k j=if k=i then ent m i j/ent m i a else ent m k j:=by
 unfold divL;rw[a6v (by rw[h.1];exact hi),a6W];rfl
theorem Shp.above{n c:Nat}{m:Mat}(h:Shp n c m){t:Nat}(d:t<n)(a s:Nat):Shp n c (above m t a s):=
 h.rows fun i hi r b=>by
  split
  ·rw[a3f _ _ _ (by rw[b,h.row d]),h.row d]
  ·exact b
theorem a3X{n c:Nat}{m:Mat}(h:Shp n c m){t:Nat}(d:t<n)(b s i j:Nat):ent (above m t b s) i j=if i<t/\i<s then ent m i j - (ent m i b/ent m t b)*ent m t j else ent m i j:=by
 by_cases hi:i<n
 ·unfold Lin.above
  rw[a6w (by rw[h.1];exact hi)];by_cases a:i<t/\i<s
  ·simp only[a,and_self,if_true]
   rw[a6T _ _ _ _ (by rw[h.row hi,h.row d])];rfl
  ·rw[if_neg a,if_neg a];rfl
 ·rw[a4o (h.above d b s) (.inl (by omega)),if_neg (by omega),a4o h (.inl (by omega))]
theorem b2e{n c:Nat}{m:Mat}(h:Shp n c m){t:Nat}(b:t<n)(a s:Nat):RE n c (ent m) (ent (above m t a s)) 1:=
 .addmany t b (fun i=>if i<t/\i<s then - (ent m i a/ent m t a)else 0)
  (fun i hi e j d=>by rw[a3X h b];split<;>grind) (fun j d=>by rw[a3X h b];simp)
theorem b4x{n c:Nat}{m:Mat}(h:Shp n c m){i:Nat}(hi:i<n)(a:Nat)(b:ent m i a≠0):RE n c (ent m) (ent (divL m i a)) (1/ent m i a):=
 .scale i _ hi (by intro e;grind) (fun j _=>by rw[a2H h hi];simp;grind) (fun r _ d j _=>by rw[a2H h hi,if_neg d])
noncomputable def dN(m:Mat)(p:List Nat):Nat->Mat
 |0=>m
 |t+1=>dStep (dN m p t) t (p.getD t 0)
structure DOk (n c t:Nat) (m:Mat) (p:List Nat) (s:Mat):Prop where
 shp:Shp n c s
 ech:Ech n c (ent s) p
 red:Red n t (ent s) p
 re:∃d,RE n c (ent m) (ent s) d
theorem DOk.step{n c t:Nat}{m:Mat}{p:List Nat}{s:Mat}(h:DOk n c t m p s)(l:t<p.length):DOk n c (t+1) m p (dStep s t (p.getD t 0)):=by
 have a:t<n:=Nat.lt_of_lt_of_le l h.ech.le;have u:p.getD t 0=p[t]:=by simp[List.getD_eq_getElem?_getD,l]
 rw[u];have hd:=h.shp.divL a p[t];have q:=h.ech.piv t l;have e:=fun k j=>a2H h.shp a p[t] k j;have o:=fun i j=>a3X hd a p[t] t i j;obtain⟨d,r⟩:=h.re;have f:ent (divL s t p[t]) t p[t]=1:=by rw[e];simp;grind
 have b:∀j,ent (dStep s t p[t]) t j=ent s t j/ent s t p[t]:=fun j=>by
  unfold dStep;rw[o,if_neg (by omega),e];simp
 have:=Red.step (g:=ent (dStep s t p[t])) h.ech h.red l b (fun i hi j=>by
   rw[b];unfold dStep;rw[o,if_pos ⟨hi,hi⟩,f,e,e,e,if_neg (by omega),if_neg (by omega),if_pos rfl];grind) (fun i hi j=>by
   unfold dStep;rw[o,if_neg (by omega),e,if_neg (by omega)])
 exact⟨hd.above a _ _,this.1,this.2,_,r.trans ((b4x h.shp a _ q).trans (b2e hd a _ _))⟩
theorem b4y{n c:Nat}{m:Mat}{p:List Nat}(h:Shp n c m)(he:Ech n c (ent m) p)(t:Nat)(ht:t<=p.length):DOk n c t m p (dN m p t):=by
 induction t with
 |zero=>exact⟨h,he,⟨by intros;omega,by intros;omega⟩,1, .same fun _ _ _ _=>rfl⟩
 |succ t ih=>exact(ih (by omega)).step (by omega)
noncomputable def a1P(m:Mat)(c:Nat):Mat×List Nat:=(dN (eN m c).1 (eN m c).2.1 (eN m c).2.1.length,(eN m c).2.1)
theorem a2x{n c:Nat}{m:Mat}(h:Shp n c m):Shp n c (a1P m c).1/\Rref n c (ent (a1P m c).1) (a1P m c).2/\∃d,RE n c (ent m) (ent (a1P m c).1) d:=by
 have b:=a6V h c;have a:=b4y b.shp b.ech _ (Nat.le_refl _);obtain⟨d,e⟩:=a.re;exact⟨a.shp,a.ech.rref a.red,_,b.re.trans e⟩
abbrev Sr:=Mat×List Nat×Rat
def pv(m:Mat)(t col:Nat):Mat:=m.set t ((m.getD t []).map (· *(1/ent m t col)))
def out(m:Mat)(t col:Nat)(s:Nat):Mat:=rows m fun i r=>if i≠t/\i<s then List.zipWith (· + ·) r ((m.getD t []).map (· * - r.getD col 0))else r
noncomputable def a6X(s:Sr)(col:Nat):Sr:=
 match b4v s.1 s.2.1.length col with
 |none=>s
 |some k=>(out (pv (a1a s.1 (s.2.1.length+k) s.2.1.length) s.2.1.length col) s.2.1.length col s.1.length,s.2.1++[col],(if k=0 then s.2.2 else - s.2.2)*ent (a1a s.1 (s.2.1.length+k) s.2.1.length) s.2.1.length col)
noncomputable def rN(m:Mat):Nat->Sr
 |0=>(m,[],1)
 |k+1=>a6X (rN m k) k
theorem a4F(r:List Rat)(a:Rat)(j:Nat):(r.map (· *a)).getD j 0=r.getD j 0*a:=by
 simp only[List.getD_eq_getElem?_getD,List.getElem?_map];cases r[j]? with
 |none=>simp
 |some x=>simp
theorem b4z(a b:List Rat)(h:a.length=b.length)(j:Nat):(List.zipWith (· + ·) a b).getD j 0=a.getD j 0+b.getD j 0:=by
 simp only[List.getD_eq_getElem?_getD,List.getElem?_zipWith];by_cases c:j<a.length
 ·simp[c,show j<b.length by omega]
 ·simp[show¬j<a.length by omega,show¬j<b.length by omega];grind
theorem Shp.pv{n c:Nat}{m:Mat}(h:Shp n c m){i:Nat}(hi:i<n)(a:Nat):Shp n c (pv m i a):=h.set i (by rw[List.length_map];exact h.row hi)
theorem b0n{n c:Nat}{m:Mat}(h:Shp n c m){i:Nat}(hi:i<n)(a k j:Nat):ent (pv m i a) k j=if k=i then ent m i j*(1/ent m i a)else ent m k j:=by
 unfold pv;rw[a6v (by rw[h.1];exact hi),a4F];rfl
theorem Shp.out{n c:Nat}{m:Mat}(h:Shp n c m){t:Nat}(d:t<n)(a s:Nat):Shp n c (out m t a s):=
 h.rows fun i hi r b=>by
  split
  ·rw[List.length_zipWith,List.length_map,b,h.row d];omega
  ·exact b
theorem a8z{n c:Nat}{m:Mat}(h:Shp n c m){t:Nat}(e:t<n)(d s i j:Nat):ent (out m t d s) i j=if i≠t/\i<s/\i<n then ent m i j+ent m t j* - ent m i d else ent m i j:=by
 by_cases hi:i<n
 ·unfold Lin.out
  rw[a6w (by rw[h.1];exact hi)];by_cases a:i≠t/\i<s
  ·rw[if_pos a,if_pos ⟨a.1,a.2,hi⟩,b4z _ _ (by rw[List.length_map,h.row hi,h.row e]),a4F];rfl
  ·rw[if_neg a,if_neg (fun b=>a ⟨b.1,b.2.1⟩)];rfl
 ·rw[a4o (h.out e d s) (.inl (by omega)),if_neg (by omega),a4o h (.inl (by omega))]
structure ROk (n c k:Nat) (m:Mat) (s:Sr):Prop where
 shp:Shp n c s.1
 ref:Rref n k (ent s.1) s.2.1
 re:∃d,RE n c (ent m) (ent s.1) d/\s.2.2*d=1
theorem ROk.step{n c k:Nat}{m:Mat}{s:Sr}(h:ROk n c k m s):ROk n c (k+1) m (a6X s k):=by
 obtain⟨M,p,I⟩:=s;have E:Shp n c M:=h.shp;have g:Rref n k (ent M) p:=h.ref;obtain⟨d,D,hd⟩:∃d,RE n c (ent m) (ent M) d/\I*d=1:=h.re;have Q:=E.1;unfold a6X
 dsimp only
 split
 ·rename_i hz
  exact⟨E,g.skip fun i hi _=>a6U hz i hi,d,D,hd⟩
 ·rename_i q hz
  obtain⟨P,N⟩:=a3g hz;have l:p.length<n:=by omega
  have w:p.length+q<n:=by omega
  have F:=E.swap w l;have z:=fun i j=>a3s E w l i j;have G:=F.pv l k;have f:=fun i j=>b0n F l k i j;have v:=fun i j=>a8z G l k M.length i j;have x:ent (a1a M (p.length+q) p.length) p.length k≠0:=by rw[z,if_pos rfl];exact N
  have K:Rref n k (ent (a1a M (p.length+q) p.length)) p:=by
   have C:∀i,i<p.length->∀j,ent (a1a M (p.length+q) p.length) i j=ent M i j:=fun i hi j=>by
    rw[z,if_neg (by omega),if_neg (by omega)]
   have H:∀i,p.length<=i->i<n->∀j,j<k->ent (a1a M (p.length+q) p.length) i j=0:=fun i hi O j A=>by
    rw[z];split
    ·exact g.below _ (by omega) w j A
    ·split
     ·exact g.below _ (by omega) l j A
     ·exact g.below _ hi O j A
   refine⟨g.le,g.lt,g.inc,fun i hi j A=>by rw[C i hi];exact g.left i hi j A,fun i hi=>by rw[C i hi];exact g.one i hi,fun t L i hi J=>?_,H⟩;by_cases a:i<p.length
   ·rw[C i a];exact g.zero t L i hi J
   ·exact H i (by omega) hi _ (g.lt t L)
  have y:∀j,ent (out (pv (a1a M (p.length+q) p.length) p.length k) p.length k M.length) p.length j=ent (a1a M (p.length+q) p.length) p.length j*(1/ent (a1a M (p.length+q) p.length) p.length k):=fun j=>by
   rw[v,if_neg (by omega),f,if_pos rfl]
  refine⟨G.out l _ _,K.push l x y (fun i hi B j=>?_),?_⟩
  ·rw[y,v,if_pos ⟨B,by omega,hi⟩,f,f,f,if_neg B,if_neg B,if_pos rfl]
  ·have o:RE n c (ent (a1a M (p.length+q) p.length)) (ent (pv (a1a M (p.length+q) p.length) p.length k)) (1/ent (a1a M (p.length+q) p.length) p.length k):=
    .scale p.length _ l (by intro e;grind) (fun j _=>by rw[f];simp;grind) (fun r _ D j _=>by rw[f,if_neg D])
   have u:RE n c (ent (pv (a1a M (p.length+q) p.length) p.length k)) (ent (out (pv (a1a M (p.length+q) p.length) p.length k) p.length k M.length)) 1:=
    .addmany p.length l (fun i=>if i≠p.length/\i<M.length/\i<n then - ent (pv (a1a M (p.length+q) p.length) p.length k) i k else 0)
     (fun i hi e j A=>by rw[v];split<;>grind) (fun j A=>by rw[v];simp)
   by_cases b:q=0
   ·subst b
    rw[Nat.add_zero,a5O M _ (by omega)]at o u x |-;exact⟨_,D.trans (o.trans u),by simp;grind⟩
   ·exact⟨_,D.trans ((b0m E w l (by omega)).trans (o.trans u)),by simp[b];grind⟩
theorem b7d{n c:Nat}{m:Mat}(h:Shp n c m)(k:Nat):ROk n c k m (rN m k):=by
 induction k with
 |zero=>exact⟨h,Rref.nil _ _,1, .same fun _ _ _ _=>rfl,by show(1:Rat)*1=1;grind⟩
 |succ k ih=>exact ih.step
theorem Ech.ge{n k:Nat}{f:F2}{p:List Nat}(h:Ech n k f p)(i:Nat)(hi:i<p.length):i<=p[i]:=by
 induction i with
 |zero=>omega
 |succ i ih=>have:=ih (by omega);have:=h.inc i (i+1) (by omega) hi;omega
theorem Rref.ge{n k:Nat}{f:F2}{p:List Nat}(h:Rref n k f p)(i:Nat)(hi:i<p.length):i<=p[i]:=by
 induction i with
 |zero=>omega
 |succ i ih=>have:=ih (by omega);have:=h.inc i (i+1) (by omega) hi;omega
theorem Rref.diag{n c:Nat}{f:F2}{p:List Nat}(h:Rref n c f p)(hp:p.length=n)(hc:∀i (hi:i<p.length),p[i]<n)(i:Nat)(hi:i<n):p[i]'(by omega)=i:=by
 have h1:∀q,q<n->∀hq:n - 1 - q<p.length,p[n - 1 - q]<=n - 1 - q:=by
  intro q
  induction q with
  |zero=>intro h0 hq;have:=hc _ hq;omega
  |succ q ih=>
   intro h0 hq;have h2:=ih (by omega) (by omega);have h3:=h.inc (n - 1 - (q+1)) (n - 1 - q) (by omega) (by omega);omega
 have h2:=h1 (n - 1 - i) (by omega) (by omega);have h3:=h.ge i (by omega);have e:n - 1 - (n - 1 - i)=i:=by omega
 simp only[e]at h2;omega
theorem Rref.unit{n c:Nat}{f:F2}{p:List Nat}(h:Rref n c f p)(d:p.length=n)(a:∀i (hi:i<p.length),p[i]<n):Eqm n n f fun i j=>if i=j then 1 else 0:=fun i hi j b=>by
 have hd:=h.diag d a j b;by_cases e:i=j
 ·subst e
  have:=h.one i (by omega);rw[hd]at this;simpa using this
 ·have:=h.zero j (by omega) i hi e;rw[hd]at this;simpa[e]using this
def mul(n:Nat)(f g:F2):F2:=fun i j=>sm n fun k=>f i k*g k j
def ofF(n c:Nat)(f:F2):Mat:=(List.range n).map fun i=>(List.range c).map (f i)
theorem b4A(n c:Nat)(f:F2):Shp n c (ofF n c f):=⟨by simp[ofF],fun r a=>by
 obtain⟨i,_,rfl⟩:=List.mem_map.1 a;simp⟩
theorem b4B(n c:Nat)(f:F2):Eqm n c (ent (ofF n c f)) f:=fun i hi j a=>by simp[ent,ofF,List.getD_eq_getElem?_getD,hi,a]
theorem RE.congr{n c:Nat}{f a g:F2}{d:Rat}(h:RE n c f g d)(e:Eqm n c a f):RE n c a g d:=(RE.same e).then_ h (by grind)
theorem a7E(n c:Nat)(f:F2):∃r p d,Rref n c r p/\RE n c f r d:=by
 obtain⟨_,a,d,b⟩:=a2x (b4A n c f);exact⟨_,_,d,a,b.congr fun i hi j e=>(b4B n c f i hi j e).symm⟩
theorem RE.factor{n c r:Nat}{f g:F2}{d:Rat}(h:RE n c f g d)(b:F2)(hf:∃a,Eqm n c f (mul r a b)):∃a,Eqm n c g (mul r a b):=by
 induction h with
 |same h=>obtain⟨a,ha⟩:=hf;exact⟨a,fun i hi j hj=>(h i hi j hj).symm.trans (ha i hi j hj)⟩
 |swap i k hi hk hik h1 h2 h3=>
  obtain⟨a,ha⟩:=hf;refine⟨fun q=>if q=i then a k else if q=k then a i else a q,fun q hq j hj=>?_⟩;by_cases e:q=i
  ·subst e;rw[h1 j hj,ha k hk j hj];simp[mul]
  ·by_cases e2:q=k
   ·subst e2;rw[h2 j hj,ha i hi j hj];simp[mul,e]
   ·rw[h3 q hq e e2 j hj,ha q hq j hj];simp[mul,e,e2]
 |scale i x hi hx h1 h3=>
  obtain⟨a,ha⟩:=hf;refine⟨fun q=>if q=i then fun k=>x*a i k else a q,fun q hq j hj=>?_⟩;by_cases e:q=i
  ·subst e;rw[h1 j hj,ha q hq j hj];simp only[mul,if_true];rw[<-a2z];exact a0l fun k _=>by grind
  ·rw[h3 q hq e j hj,ha q hq j hj];simp[mul,e]
 |add i k x hi hk hik h1 h3=>
  obtain⟨a,ha⟩:=hf;refine⟨fun q=>if q=i then fun y=>a i y+x*a k y else a q,fun q hq j hj=>?_⟩;by_cases e:q=i
  ·subst e;rw[h1 j hj,ha q hq j hj,ha k hk j hj];simp only[mul,if_true];rw[<-a2z,<-a4E];exact a0l fun k _=>by grind
  ·rw[h3 q hq e j hj,ha q hq j hj];simp[mul,e]
 |trans _ _ ih1 ih2=>exact ih2 (ih1 hf)
theorem b4C{n c r:Nat}{f g:F2}{p:List Nat}{d:Rat}(o:Rref n c g p)(h:RE n c f g d)(a b:F2)(E:Eqm n c f (mul r a b)):p.length<=r:=by
 refine Classical.byContradiction fun G=>?_;obtain⟨t,H⟩:=h.factor b ⟨a,E⟩;obtain⟨s,q,e,A,D⟩:=a7E r p.length (fun k i=>t i k);have hq:∃j,j<p.length/\j∉q:=by
  refine Classical.byContradiction fun y=>?_;have m:∀j,j<p.length->j∈q:=fun j l=>Classical.byContradiction fun h=>y ⟨j,l,h⟩;have u:(List.range p.length).length<=q.length:=(List.nodup_range).length_le_of_subset fun j l=>m j (List.mem_range.1 l);rw[List.length_range]at u;have:=A.le;omega
 obtain⟨j,l,w⟩:=hq;have u:=(D.nul _).2 (A.nv_nul w l);have C:∀x,x<c->sm p.length (fun i=>nv s q j i*g i x)=0:=fun x hx=>by
  have B:sm p.length (fun i=>nv s q j i*g i x)=sm p.length (fun i=>sm r fun k=>(t i k*nv s q j i)*b k x):=a0l fun i hi=>by
   have:=o.le;rw[H i (by omega) x hx];unfold mul;rw[<-a2z];exact a0l fun k _=>by grind
  rw[B,b0k];exact a3e fun k F=>by
   have:=u k F;rw[a0l (g:=fun i=>b k x*(t i k*nv s q j i)) fun i _=>by grind,a2z,this];grind
 have z:=C p[j] (o.lt j l);rw[a2r j l fun i hi v=>by rw[o.zero j l i (by have:=o.le;omega) v];grind]at z;rw[a4X,o.one j l]at z;grind
theorem LI.full{n c:Nat}{f r:F2}{p:List Nat}{d:Rat}(b:LI n c f)(a:Rref n c r p)(h:RE n c f r d):p.length=n:=by
 have g:=a.le;refine Classical.byContradiction fun k=>?_;have:=(h.li b) (fun i=>if i=p.length then 1 else 0) (fun j e=>by
  unfold cmb;rw[a2r p.length (by omega) fun i _ hi=>by simp[hi]];rw[a.below _ (Nat.le_refl _) (by omega) j e];grind) p.length (by omega)
 simp at this
def a2b(r:F2)(p:List Nat)(c:Nat):Mat:=((List.range c).filter (· ∉p)).map fun j=>(List.range c).map (nv r p j)
theorem b0o{r:F2}{p:List Nat}{c n:Nat}(h:Rref n c r p):(a2b r p c).length=c - p.length:=by
 have h1:((List.range c).filter (· ∉p)).length+((List.range c).filter (· ∈p)).length=c:=by
  have key:∀l:List Nat,(l.filter (· ∉p)).length+(l.filter (· ∈p)).length=l.length:=fun l=>by
   induction l with
   |nil=>rfl
   |cons a l ih=>by_cases ha:a∈p<;>simp[ha]at ih |- <;>omega
  have:=key (List.range c);simpa using this
 have h2:(List.range c).filter (· ∈p)=p:=by
  refine b3B _ _ ?_ h.pw fun x=>?_
  ·exact List.Pairwise.filter _ List.pairwise_lt_range
  ·simp only[List.mem_filter,List.mem_range,decide_eq_true_eq]
   constructor
   ·exact fun h=>h.2
   ·intro hx
    obtain⟨i,hi,rfl⟩:=List.getElem_of_mem hx;exact⟨h.lt i hi,hx⟩
 rw[h2]at h1;simp only[a2b,List.length_map];omega
theorem a8A(r:F2)(p:List Nat)(c:Nat):LI (a2b r p c).length c (ent (a2b r p c)):=by
 intro y s i hi;have d:i<((List.range c).filter (· ∉p)).length:=by simpa[a2b]using hi
 have b:=List.getElem_mem d;rw[List.mem_filter,List.mem_range]at b;have o:=s _ b.1;have n:((List.range c).filter (· ∉p))[i]∉p:=by simpa using b.2
 have q:∀k (h:k<((List.range c).filter (· ∉p)).length),ent (a2b r p c) k ((List.range c).filter (· ∉p))[i]=nv r p ((List.range c).filter (· ∉p))[k] ((List.range c).filter (· ∉p))[i]:=fun k h=>by
  unfold ent a2b;rw[List.getD_eq_getElem?_getD (l:=List.map _ _),List.getElem?_map,List.getElem?_eq_getElem h];simp only[Option.map_some,Option.getD_some];rw[List.getD_eq_getElem?_getD,List.getElem?_map,List.getElem?_range b.1];rfl
 unfold cmb at o;rw[a2r i hi fun k h j=>by
  have f:k<((List.range c).filter (· ∉p)).length:=by simpa[a2b]using h
  have m:((List.range c).filter (· ∉p))[i]≠((List.range c).filter (· ∉p))[k]:=fun e=>by
   have g:((List.range c).filter (· ∉p)).Pairwise (· < ·):=List.Pairwise.filter _ List.pairwise_lt_range;rw[List.pairwise_iff_getElem]at g;rcases Nat.lt_or_gt_of_ne j with a|a
   ·have:=g k i f d a;omega
   ·have:=g i k d f a;omega
  rw[q k f,a6u n m];grind,q i d,a4X]at o
 grind
abbrev Vec:=Nat->Rat
def dot(c:Nat)(u v:Vec):Rat:=sm c fun j=>u j*v j
def nz(c:Nat)(u:Vec):Prop:=∃j,j<c/\u j≠0
theorem a1d(c:Nat)(u v:Vec):dot c u v=dot c v u:=a0l fun j _=>by grind
theorem b4D(c:Nat)(u v x:Vec):dot c (fun j=>u j+v j) x=dot c u x+dot c v x:=by
 unfold dot;rw[<-a4E];exact a0l fun j _=>by grind
theorem b0p(c:Nat)(a:Rat)(u x:Vec):dot c (fun j=>a*u j) x=a*dot c u x:=by
 unfold dot;rw[<-a2z];exact a0l fun j _=>by grind
theorem a2y(c:Nat)(u v:Vec)(t:Rat)(x:Vec):dot c (fun j=>u j+t*v j) x=dot c u x+t*dot c v x:=by
 rw[b4D c u (fun j=>t*v j),b0p]
theorem a4Y{c:Nat}{u u' v:Vec}(h:∀j,j<c->u j=u' j):dot c u v=dot c u' v:=a0l fun j a=>by rw[h j a]
theorem a2I{c:Nat}{u v:Vec}(h:∀j,j<c->u j=0):dot c u v=0:=a3e fun j a=>by rw[h j a];grind
theorem b0q{n:Nat}{f:Nat->Rat}(h:∀i,i<n->0<=f i):0<=sm n f:=by
 induction n with
 |zero=>exact Rat.le_refl
 |succ n ih=>unfold sm;have:=ih fun i hi=>h i (by omega);have:=h n (by omega);grind
theorem a7F{n:Nat}{f:Nat->Rat}(h:∀i,i<n->0<=f i)(h0:sm n f=0):∀i,i<n->f i=0:=by
 induction n with
 |zero=>intro i hi;omega
 |succ n ih=>
  unfold sm at h0;have h1:=b0q (n:=n) fun i hi=>h i (by omega);have h2:=h n (by omega);have h3:sm n f=0:=by grind
  have h4:f n=0:=by grind
  intro i hi;by_cases e:i=n
  ·subst e;exact h4
  ·exact ih (fun i hi=>h i (by omega)) h3 i (by omega)
theorem a6Y(a:Rat):0<=a*a:=by
 rcases Rat.le_total (a:=0) (b:=a)with h|h
 ·exact Rat.mul_nonneg h h
 ·have:0<=(-a)*(-a):=Rat.mul_nonneg (by grind) (by grind)
  grind
theorem b2f{c:Nat}{u:Vec}(h:dot c u u=0):∀j,j<c->u j=0:=fun j a=>by
 have:=a7F (fun i _=>a6Y (u i)) h j a;rcases Rat.mul_eq_zero.1 this with e|e<;>exact e
theorem b2g{c:Nat}{u:Vec}(h:¬∀j,j<c->u j=0):nz c u:=by
 apply Classical.byContradiction;intro b;exact h fun j a=>Classical.byContradiction fun e=>b ⟨j,a,e⟩
theorem nz.not{c:Nat}{u:Vec}(h:nz c u):¬∀j,j<c->u j=0:=fun k=>let ⟨j,a,e⟩:=h;e (k j a)
theorem b3C{c:Nat}{u v:Vec}(h:dot c u v≠0):nz c u:=b2g fun k=>h (a2I k)
def a3F(c:Nat)(u:Vec)(z:List Vec):Nat:=z.countP fun v=>decide (0<=dot c u v)
def a7G(c:Nat)(u:Vec)(z:List Vec):Nat:=z.countP fun v=>decide (0<dot c u v)
def onL(c:Nat)(u:Vec)(z:List Vec):List Vec:=z.filter fun v=>decide (dot c u v=0)
def a2R(c:Nat)(z:List Vec)(k:Nat):Prop:=(∃u,nz c u/\a3F c u z=k)/\∀u,nz c u->k<=a3F c u z
theorem a2R.uniq{c:Nat}{z:List Vec}{k l:Nat}(h:a2R c z k)(d:a2R c z l):k=l:=by
 obtain⟨⟨u,e,i⟩,f⟩:=h;obtain⟨⟨v,a,g⟩,b⟩:=d;have:=f v a;have:=b u e;omega
theorem b2h{P:Nat->Prop}(n:Nat)(h:P n):∃k,P k/\∀m,P m->k<=m:=by
 induction n using Nat.strongRecOn with
 |_ n ih=>
  by_cases hs:∃m,m<n/\P m
  ·obtain⟨m,h1,h2⟩:=hs;exact ih m h1 h2
  ·exact⟨n,h,fun m hm=>by
    rcases Nat.lt_or_ge m n with h1|h1
    ·exact absurd ⟨m,h1,hm⟩ hs
    ·exact h1⟩
theorem b6c{c:Nat}(d:0<c)(z:List Vec):∃k,a2R c z k:=by
 obtain⟨k,a,b⟩:=b2h (P:=fun k=>∃u,nz c u/\a3F c u z=k) (a3F c (fun _=>1) z) ⟨fun _=>1,⟨0,d,by grind⟩,rfl⟩;exact⟨k,a,fun u e=>b _ ⟨u,e,rfl⟩⟩
theorem b2i(c:Nat)(u:Vec)(z:List Vec):a3F c u z<=z.length:=List.countP_le_length
theorem a2R.le{c:Nat}{z:List Vec}{k:Nat}(h:a2R c z k):k<=z.length:=by
 obtain⟨⟨u,_,a⟩,_⟩:=h;rw[<-a];exact b2i _ _ _
def b6J(c:Nat)(u y:Vec)(z:List Vec)(e:Rat):Prop:=∀v∈z,(0<dot c u v->∀t,0<t->t<=e->0<dot c u v+t*dot c y v)/\(dot c u v<0->∀t,0<t->t<=e->dot c u v+t*dot c y v<0)
theorem b6d(a b:Rat):∃e,0<e/\(0<a->∀t,0<t->t<=e->0<a+t*b):=by
 by_cases f:0<a
 ·by_cases j:0<=b
  ·exact⟨1,by decide,fun _ t d _=>by have:=Rat.mul_nonneg (a:=t) (b:=b) (by grind) j;grind⟩
  ·have c:0< -b:=by grind
   refine⟨a/(2* -b),?_,fun _ t d g=>?_⟩
   ·rw[Rat.div_def];exact Rat.mul_pos f (Rat.inv_pos.2 (by grind))
   ·have i:t*(2* -b)<=a/(2* -b)*(2* -b):=Rat.mul_le_mul_of_nonneg_right g (by grind)
    rw[Rat.div_mul_cancel (by grind)]at i;have k:=Rat.mul_pos d c;grind
 ·exact⟨1,by decide,fun h=>absurd h f⟩
theorem b6J.le{c:Nat}{u y:Vec}{z:List Vec}{e d:Rat}(h:b6J c u y z e)(hd:d<=e):b6J c u y z d:=fun v g=>
 ⟨fun a t b f=>(h v g).1 a t b (Rat.le_trans f hd),fun a t b f=>(h v g).2 a t b (Rat.le_trans f hd)⟩
theorem b4E(c:Nat)(u y:Vec)(z:List Vec):∃e,0<e/\b6J c u y z e:=by
 induction z with
 |nil=>exact⟨1,by decide,fun v hv=>by simp at hv⟩
 |cons v z ih=>
  obtain⟨e1,h1,h2⟩:=ih;obtain⟨e2,h3,h4⟩:=b6d (dot c u v) (dot c y v);obtain⟨e3,h5,h6⟩:=b6d (-dot c u v) (-dot c y v);obtain⟨e,he,l1,l2,l3⟩:∃e,0<e/\e<=e1/\e<=e2/\e<=e3:=by
   by_cases a:e1<=e2
   ·by_cases b:e1<=e3
    ·exact⟨e1,h1,Rat.le_refl,a,b⟩
    ·exact⟨e3,h5,by grind,by grind,Rat.le_refl⟩
   ·by_cases b:e2<=e3
    ·exact⟨e2,h3,by grind,Rat.le_refl,b⟩
    ·exact⟨e3,h5,by grind,by grind,Rat.le_refl⟩
  refine⟨e,he,fun w hw=>?_⟩;rcases List.mem_cons.1 hw with rfl|hw
  ·refine⟨fun g t g1 g2=>h4 g t g1 (Rat.le_trans g2 l2),fun g t g1 g2=>?_⟩
   have:=h6 (by grind) t g1 (Rat.le_trans g2 l3);grind
  ·exact(h2.le l1) w hw
theorem b0s(c:Nat)(u u' u2:Vec)(z:List Vec)(h:∀v∈z,(0<dot c u v->0<dot c u2 v)/\(dot c u v<0->dot c u2 v<0)/\(dot c u v=0->(0<=dot c u2 v↔0<=dot c u' v))):a3F c u2 z=a7G c u z+a3F c u' (onL c u z):=by
 induction z with
 |nil=>rfl
 |cons v z ih=>
  have ih:=ih fun w hw=>h w (List.mem_cons_of_mem _ hw);obtain⟨h1,h2,h3⟩:=h v List.mem_cons_self;unfold a3F a7G onL at*;rw[List.countP_cons,List.countP_cons,List.filter_cons,ih];by_cases a:0<dot c u v
  ·have b:=h1 a
   rw[if_pos (by simp;grind),if_pos (by simpa using a),if_neg (by simp;grind)];omega
  ·by_cases b:dot c u v=0
   ·have k:=h3 b
    rw[if_neg (c:=decide (0<dot c u v)=true) (by simpa using a),if_pos (c:=decide (dot c u v=0)=true) (by simpa using b),List.countP_cons];by_cases g:0<=dot c u2 v
    ·rw[if_pos (by simpa using g),if_pos (by simpa using k.1 g)];omega
    ·rw[if_neg (by simpa using g),if_neg (by simpa using fun x=>g (k.2 x))];omega
   ·have k:=h2 (by grind)
    rw[if_neg (by simp;grind),if_neg (by simpa using a),if_neg (by simpa using b)];omega
theorem b7U{c:Nat}{u u':Vec}(o:nz c u)(z:List Vec):∃l,nz c l/\a3F c l z=a7G c u z+a3F c u' (onL c u z):=by
 obtain⟨j,m,n⟩:=o;have b:dot c u (fun i=>if i=j then 1 else 0)=u j:=by
  unfold dot;rw[a2r j m (fun i _ h=>by simp[h])];simp
 obtain⟨e,a,d⟩:=b4E c u u' ((fun i=>if i=j then 1 else 0)::z);refine⟨fun i=>u i+e*u' i,?_,b0s c u u' _ z fun v k=>⟨fun h=>?_,fun h=>?_,fun h=>?_⟩⟩
 ·have f:=d _ List.mem_cons_self
  rw[b]at f;apply b3C (v:=fun i=>if i=j then 1 else 0);rw[a2y,b];by_cases h:0<u j
  ·have:=f.1 h e a Rat.le_refl;grind
  ·have:=f.2 (by grind) e a Rat.le_refl;grind
 ·rw[a2y];exact(d v (List.mem_cons_of_mem _ k)).1 h e a Rat.le_refl
 ·rw[a2y];exact(d v (List.mem_cons_of_mem _ k)).2 h e a Rat.le_refl
 ·rw[a2y,h]
  constructor
  ·intro g
   apply Classical.byContradiction;intro p;have:=Rat.mul_pos a (show 0< - dot c u' v by grind);grind
  ·intro g;have:=Rat.mul_nonneg (Rat.le_of_lt a) g;grind
theorem a2R.lower{c:Nat}{z:List Vec}{k l:Nat}(h:a2R c z k){u:Vec}(d:nz c u)(b:a2R c (onL c u z) l):k<=a7G c u z+l:=by
 obtain⟨⟨u',f,g⟩,_⟩:=b;obtain⟨e,a,i⟩:=b7U (u':=u') d z;have:=h.2 e a;omega
def Sgn(c:Nat)(z:List Vec)(u x:Vec):Prop:=∀v∈z,(0<dot c u v->0<=dot c x v)/\(dot c u v<0->dot c x v<=0)/\(dot c u v=0->dot c x v=0)
def b0t(c:Nat)(W:Vec->Prop)(z:List Vec)(x:Vec):Prop:=W x/\nz c x/\∀y,W y->(∀v∈onL c x z,dot c y v=0)->∃t:Rat,∀j,j<c->y j=t*x j
structure Dirs (c:Nat) (z:List Vec) (W:Vec->Prop):Prop where
 lin:∀u y t,W u->W y->W (fun j=>u j+t*y j)
 zero:∀y,W y->(∀v∈z,dot c y v=0)->∀j,j<c->y j=0
 all:∀u,∃x,W x/\∀v∈z,dot c x v=dot c u v
 some_:∃u,W u/\nz c u
theorem b3D{P:Vec->Prop}(f:Vec->Rat)(z:List Vec)(h:∃v∈z,P v):∃v∈z,P v/\∀w∈z,P w->f v<=f w:=by
 induction z with
 |nil=>obtain⟨v,hv,_⟩:=h;simp at hv
 |cons a z ih=>
  by_cases hz:∃v∈z,P v
  ·obtain⟨v,h1,h2,h3⟩:=ih hz
   by_cases ha:P a/\f a<=f v
   ·exact⟨a,List.mem_cons_self,ha.1,fun w hw hp=>by
     rcases List.mem_cons.1 hw with rfl|hw
     ·exact Rat.le_refl
     ·exact Rat.le_trans ha.2 (h3 w hw hp)⟩
   ·exact⟨v,List.mem_cons_of_mem _ h1,h2,fun w hw hp=>by
     rcases List.mem_cons.1 hw with rfl|hw
     ·have:¬f w<=f v:=fun h=>ha ⟨hp,h⟩
      grind
     ·exact h3 w hw hp⟩
  ·obtain⟨v,hv,hp⟩:=h
   rcases List.mem_cons.1 hv with rfl|hv
   ·exact⟨v,List.mem_cons_self,hp,fun w hw hq=>by
     rcases List.mem_cons.1 hw with rfl|hw
     ·exact Rat.le_refl
     ·exact absurd ⟨w,hw,hq⟩ hz⟩
   ·exact absurd ⟨v,hv,hp⟩ hz
theorem a6Z{α:Type}{p q:α->Bool}{l:List α}(h:∀x∈l,p x=true->q x=true){a:α}(ha:a∈l)(h1:p a=false)(h2:q a=true):l.countP p<l.countP q:=by
 induction l with
 |nil=>simp at ha
 |cons b l ih=>
  have hle:l.countP p<=l.countP q:=List.countP_mono_left fun x hx=>h x (List.mem_cons_of_mem _ hx);rw[List.countP_cons,List.countP_cons];rcases List.mem_cons.1 ha with rfl|ha
  ·rw[h1,h2];simp;omega
  ·have:=ih (fun x hx=>h x (List.mem_cons_of_mem _ hx)) ha
   have hb:=h b List.mem_cons_self;cases hp:p b<;>cases hq:q b<;>simp_all<;>omega
theorem a7a{c:Nat}{z:List Vec}{W:Vec->Prop}(hW:Dirs c z W):∀(n:Nat) (u:Vec),W u->nz c u->z.countP (fun v=>decide (dot c u v≠0))=n->∃x,b0t c W z x/\Sgn c z u x:=by
 intro n
 induction n using Nat.strongRecOn with
 |_ n ih=>
  intro u hu hn hc;by_cases hv:b0t c W z u
  ·exact⟨u,hv,fun v _=>⟨Rat.le_of_lt,Rat.le_of_lt,id⟩⟩
  ·obtain⟨y,hy,hy0,hyn⟩:∃y,W y/\(∀v∈onL c u z,dot c y v=0)/\∀t:Rat,¬∀j,j<c->y j=t*u j:=by
    apply Classical.byContradiction;intro h;refine hv ⟨hu,hn,fun y h1 h2=>Classical.byContradiction fun h3=>h ⟨y,h1,h2,fun t h4=>h3 ⟨t,h4⟩⟩⟩
   obtain⟨v0,hv0,hv1⟩:∃v∈z,dot c y v≠0:=by
    apply Classical.byContradiction;intro h;have:=hW.zero y hy fun v hv=>Classical.byContradiction fun e=>h ⟨v,hv,e⟩;exact hyn 0 fun j hj=>by rw[this j hj];grind
   have hu0:∀v∈z,dot c u v=0->dot c y v=0:=fun v hv h=>hy0 v (List.mem_filter.2 ⟨hv,by simpa using h⟩);obtain⟨y',hy',hy0',hyn',hneg⟩:∃y',W y'/\(∀v∈z,dot c u v=0->dot c y' v=0)/\(∀t:Rat,¬∀j,j<c->y' j=t*u j)/\∃v∈z,dot c y' v*dot c u v<0:=by
    have huv:dot c u v0≠0:=fun h=>hv1 (hu0 v0 hv0 h);by_cases hs:dot c y v0*dot c u v0<0
    ·exact⟨y,hy,hu0,hyn,v0,hv0,hs⟩
    ·have hne:dot c y v0*dot c u v0≠0:=fun h=>by rcases Rat.mul_eq_zero.1 h with e|e<;>contradiction
     have hd:∀v,dot c (fun j=>y j+ -2*y j) v= - dot c y v:=fun v=>by rw[a2y];grind
     refine⟨fun j=>y j+ -2*y j,hW.lin y y (-2) hy hy,fun v hv h=>by rw[hd,hu0 v hv h];grind,fun t h=>hyn (-t) fun j hj=>by have:=h j hj;grind,v0,hv0,?_⟩;rw[hd];grind
   obtain⟨w,hw,hwn,hmin⟩:=b3D (fun v=> - dot c u v/dot c y' v) z hneg;have hne:dot c y' w≠0:=fun h=>by rw[h]at hwn;grind
   have hnu:dot c u w≠0:=fun h=>by rw[h]at hwn;grind
   obtain⟨t,ht⟩:∃t,- dot c u w/dot c y' w=t:=⟨_,rfl⟩;have htw:t*dot c y' w= - dot c u w:=by rw[<-ht];exact Rat.div_mul_cancel hne
   have htp:0<t:=by
    apply Classical.byContradiction;intro h;have h1:=Rat.mul_nonneg (show 0<= -t by grind) (a6Y (dot c y' w));have h2:t*(dot c y' w*dot c y' w)= - dot c u w*dot c y' w:=by rw[<-htw];grind
    grind
   have hstep:∀v∈z,(0<dot c u v->0<=dot c u v+t*dot c y' v)/\(dot c u v<0->dot c u v+t*dot c y' v<=0):=fun v hv=>by
    by_cases hs:dot c y' v*dot c u v<0
    ·have h1:=hmin v hv hs
     rw[ht]at h1;have hne2:dot c y' v≠0:=fun h=>by rw[h]at hs;grind
     have h3: - dot c u v/dot c y' v*dot c y' v= - dot c u v:=Rat.div_mul_cancel hne2;constructor
     ·intro hp
      have hyneg:dot c y' v<0:=by
       apply Classical.byContradiction;intro h;have:=Rat.mul_nonneg (show 0<=dot c y' v by grind) (Rat.le_of_lt hp);grind
      have h4:=Rat.mul_le_mul_of_nonneg_right h1 (show 0<= - dot c y' v by grind);grind
     ·intro hp
      have hypos:0<dot c y' v:=by
       apply Classical.byContradiction;intro h;have:=Rat.mul_nonneg (show 0<= - dot c y' v by grind) (show 0<= - dot c u v by grind);grind
      have h4:=Rat.mul_le_mul_of_nonneg_right h1 (Rat.le_of_lt hypos);grind
    ·constructor
     ·intro hp
      have:0<=dot c y' v:=by
       apply Classical.byContradiction;intro h;have:=Rat.mul_pos (show 0< - dot c y' v by grind) hp;grind
      have:=Rat.mul_nonneg (Rat.le_of_lt htp) this;grind
     ·intro hp
      have:dot c y' v<=0:=by
       apply Classical.byContradiction;intro h;have:=Rat.mul_pos (show 0<dot c y' v by grind) (show 0< - dot c u v by grind);grind
      have:=Rat.mul_nonneg (Rat.le_of_lt htp) (show 0<= - dot c y' v by grind);grind
   have hz2:∀v∈z,dot c u v=0->dot c u v+t*dot c y' v=0:=fun v hv h=>by rw[h,hy0' v hv h];grind
   have hw0:dot c u w+t*dot c y' w=0:=by rw[htw];grind
   obtain⟨x,hx1,hx2⟩:=ih _ (by
    rw[<-hc];refine a6Z (p:=fun v=>decide (dot c (fun j=>u j+t*y' j) v≠0)) (fun v hv h=>?_) hw ?_ (by simpa using hnu)
    ·simp only[decide_eq_true_eq]at h |-
     intro e;rw[a2y]at h;exact h (hz2 v hv e)
    ·exact decide_eq_false fun h=>h (by rw[a2y];exact hw0)) (fun j=>u j+t*y' j) (hW.lin u y' t hu hy') (b2g fun h=>hyn' (-(1/t)) fun j hj=>by
      have h1:=h j hj;have h2:1/t*t=1:=Rat.div_mul_cancel (by grind);have h3:1/t*(u j+t*y' j)=0:=by rw[h1];grind
      have h4:1/t*(t*y' j)=y' j:=by rw[<-Rat.mul_assoc,h2];grind
      rw[Rat.mul_add,h4]at h3;grind) rfl
   refine⟨x,hx1,fun v hv=>?_⟩;obtain⟨g1,g2,g3⟩:=hx2 v hv;rw[a2y]at g1 g2 g3;obtain⟨s1,s2⟩:=hstep v hv;refine⟨fun h=>?_,fun h=>?_,fun h=>g3 (hz2 v hv h)⟩
   ·have:=s1 h
    by_cases e:dot c u v+t*dot c y' v=0
    ·rw[g3 e];exact Rat.le_refl
    ·exact g1 (by grind)
   ·have:=s2 h
    by_cases e:dot c u v+t*dot c y' v=0
    ·rw[g3 e];exact Rat.le_refl
    ·exact g2 (by grind)
def Ort(c:Nat)(M:List Vec)(y:Vec):Prop:=∀v∈M,dot c v y=0
theorem Ort.app{c:Nat}{M L:List Vec}{y:Vec}:Ort c (M++L) y↔Ort c M y/\Ort c L y:=by
 constructor
 ·exact fun h=>⟨fun v a=>h v (List.mem_append_left _ a),fun v a=>h v (List.mem_append_right _ a)⟩
 ·rintro ⟨b,d⟩ v a
  rcases List.mem_append.1 a with a|a
  ·exact b v a
  ·exact d v a
theorem a6x(c:Nat)(v u y:Vec)(t:Rat):dot c v (fun j=>u j+t*y j)=dot c v u+t*dot c v y:=by
 rw[a1d,a2y,a1d c u v,a1d c y v]
theorem Ort.lin{c:Nat}{M:List Vec}{u y:Vec}(t:Rat)(b:Ort c M u)(d:Ort c M y):Ort c M (fun j=>u j+t*y j):=fun v a=>by
 rw[a6x,b v a,d v a];grind
theorem Ort.congr{c:Nat}{M:List Vec}{u y:Vec}(h:∀j,j<c->u j=y j)(a:Ort c M u):Ort c M y:=fun v b=>by
 rw[a1d,<-a4Y h,a1d];exact a v b
theorem b4F(c k:Nat)(f:F2)(a:Vec)(v:Vec):dot c v (fun j=>cmb k f a j)=sm k fun i=>a i*dot c v (f i):=by
 unfold dot cmb;rw[a0l (g:=fun j=>sm k fun i=>v j*(a i*f i j)) fun j _=>(a2z k (v j) _).symm,b0k];exact a0l fun i _=>by rw[<-a2z];exact a0l fun j _=>by grind
structure Basis (c:Nat) (P:Vec->Prop) (k:Nat) (f:F2):Prop where
 mem:∀i,i<k->P (f i)
 li:LI k c f
 span:∀y,P y->∃a:Vec,∀j,j<c->y j=cmb k f a j
theorem b0u{k m c:Nat}{f g:F2}(o:LI k c f)(h:∀i,i<k->∃a:Vec,∀j,j<c->f i j=cmb m g a j):k<=m:=by
 obtain⟨r,p,d,l,b⟩:=a7E k c f;have s:=o.full l b;have e:∀i,∃a:Vec,i<k->∀j,j<c->f i j=cmb m g a j:=fun i=>by
  by_cases hi:i<k
  ·obtain⟨a,n⟩:=h i hi;exact⟨a,fun _=>n⟩
  ·exact⟨fun _=>0,fun h=>absurd h hi⟩
 have:=b4C l b (fun i=>(e i).choose) g fun i hi j q=>(e i).choose_spec hi j q;omega
theorem Basis.le{c:Nat}{P Q:Vec->Prop}{k m:Nat}{f g:F2}(h:Basis c P k f)(b:Basis c Q m g)(a:∀y,P y->Q y):k<=m:=
 b0u h.li fun i hi=>b.span _ (a _ (h.mem i hi))
theorem b2j{n c:Nat}{r:F2}{p:List Nat}(h:Rref n c r p){x:Vec}(hx:Nul n c r x)(j:Nat)(hj:j<c):x j=cmb (a2b r p c).length (ent (a2b r p c)) (fun i=>x (((List.range c).filter (· ∉p)).getD i 0)) j:=by
 obtain⟨F,hF⟩:∃F,(List.range c).filter (· ∉p)=F:=⟨_,rfl⟩;have hlen:(a2b r p c).length=F.length:=by rw[<-hF];simp[a2b]
 have he:∀i (hi:i<F.length),ent (a2b r p c) i j=nv r p F[i] j:=fun i hi=>by
  unfold ent a2b;rw[hF,List.getD_eq_getElem?_getD (l:=List.map _ _),List.getElem?_map,List.getElem?_eq_getElem hi];simp only[Option.map_some,Option.getD_some];rw[List.getD_eq_getElem?_getD,List.getElem?_map,List.getElem?_range hj];rfl
 have hFm:∀q,q∈F↔q<c/\q∉p:=fun q=>by rw[<-hF];simp
 have hnd:F.Pairwise (· < ·):=by rw[<-hF];exact List.Pairwise.filter _ List.pairwise_lt_range
 have hgd:∀i (hi:i<F.length),F.getD i 0=F[i]:=fun i hi=>by simp[List.getD_eq_getElem?_getD,hi]
 rw[hF,hlen];unfold cmb;rw[a0l (g:=fun i=>x (F.getD i 0)*nv r p (F.getD i 0) j) fun i hi=>by rw[he i hi];dsimp only;rw[hgd i hi]];by_cases hjp:j∈p
 ·obtain⟨i0,hi0,rfl⟩:=List.getElem_of_mem hjp
  have hn:∀q,q∉p->nv r p q p[i0]= - r i0 q:=fun q hq=>h.nv_piv hq i0 hi0;have hrow:=h.row i0 hi0 x;have h0:=hx i0 (by have:=h.le;omega);rw[hrow]at h0;have key:∀(g:Nat->Rat),sm F.length (fun i=>g (F.getD i 0))=sm c (fun q=>if q∈p then 0 else g q):=fun g=>by
   have gen:∀(k:Nat) (G:List Nat),G=(List.range k).filter (· ∉p)->sm G.length (fun i=>g (G.getD i 0))=sm k (fun q=>if q∈p then 0 else g q):=by
    intro k
    induction k with
    |zero=>intro G hG;subst hG;rfl
    |succ k ih=>
     intro G hG;rw[List.range_succ,List.filter_append]at hG;have ih:=ih _ rfl
     show _=sm k _+_
     by_cases hk:k∈p
     ·have:(List.filter (· ∉p) [k])= []:=by simp[hk]
      rw[this,List.append_nil]at hG;subst hG;rw[ih];simp[hk];grind
     ·have:(List.filter (· ∉p) [k])= [k]:=by simp[hk]
      rw[this]at hG;subst hG;obtain⟨H,hH⟩:∃H,List.filter (· ∉p) (List.range k)=H:=⟨_,rfl⟩;rw[hH]at ih |-;rw[List.length_append,<-ih]
      show sm H.length _+_=_
      congr 1
      ·exact a0l fun i hi=>by simp[List.getD_eq_getElem?_getD,List.getElem?_append_left hi]
      ·simp[hk,List.getD_eq_getElem?_getD]
   exact gen c F hF.symm
  have k1:=key (fun q=>x q* - r i0 q);have k2:sm c (fun q=>if q∈p then 0 else x q* - r i0 q)= - sm c (fun q=>if q∈p then 0 else r i0 q*x q):=by
   have:=a2z c (-1) (fun q=>if q∈p then 0 else r i0 q*x q);rw[show -sm c (fun q=>if q∈p then 0 else r i0 q*x q)= -1*sm c (fun q=>if q∈p then 0 else r i0 q*x q)by grind,<-this];exact a0l fun q _=>by split<;>grind
  have k3:sm F.length (fun i=>x (F.getD i 0)*nv r p (F.getD i 0) p[i0])=sm F.length (fun i=>x (F.getD i 0)* - r i0 (F.getD i 0)):=a0l fun i hi=>by
   rw[hgd i hi,hn _ ((hFm _).1 (List.getElem_mem hi)).2]
  rw[k3,k1,k2];grind
 ·obtain⟨i0,hi0,hij⟩:=List.getElem_of_mem ((hFm j).2 ⟨hj,hjp⟩)
  rw[a2r i0 hi0 fun i hi hne=>by
   rw[hgd i hi];have:F[i]≠j:=fun e=>by
    rw[List.pairwise_iff_getElem]at hnd;rcases Nat.lt_or_gt_of_ne hne with a|a
    ·have:=hnd i i0 hi hi0 a;omega
    ·have:=hnd i0 i hi0 hi a;omega
   rw[a6u hjp (Ne.symm this)];grind]
  rw[hgd i0 hi0,hij,a4X];grind
theorem a5P{n c:Nat}{f r:F2}{p:List Nat}{d:Rat}(k:Rref n c r p)(h:RE n c f r d):Basis c (Nul n c f) (a2b r p c).length (ent (a2b r p c)):=by
 refine⟨fun i hi=>?_,a8A r p c,fun y o=>⟨_,fun j b=>b2j k ((h.nul y).1 o) j b⟩⟩;have a:i<((List.range c).filter (· ∉p)).length:=by simpa[a2b]using hi
 have e:=List.getElem_mem a;rw[List.mem_filter,List.mem_range]at e;have g:((List.range c).filter (· ∉p))[i]∉p:=by simpa using e.2
 have m:=(h.nul _).2 (k.nv_nul g e.1);intro q hq;rw[<-m q hq];refine a0l fun j b=>?_
 congr 1
 unfold ent a2b;rw[List.getD_eq_getElem?_getD (l:=List.map _ _),List.getElem?_map,List.getElem?_eq_getElem a];simp only[Option.map_some,Option.getD_some];rw[List.getD_eq_getElem?_getD,List.getElem?_map,List.getElem?_range b];rfl
def fL(M:List Vec):F2:=fun i=>M.getD i fun _=>0
theorem b0v(c:Nat)(M:List Vec)(y:Vec):Ort c M y↔Nul M.length c (fL M) y:=by
 constructor
 ·intro h i hi
  have:=h M[i] (List.getElem_mem hi);unfold dot at this;rw[<-this];exact a0l fun j _=>by simp[fL,List.getD_eq_getElem?_getD,hi]
 ·intro h v a
  obtain⟨i,hi,rfl⟩:=List.getElem_of_mem a;have:=h i hi;unfold dot;rw[<-this];exact a0l fun j _=>by simp[fL,List.getD_eq_getElem?_getD,hi]
def Dim(c:Nat)(M:List Vec)(k:Nat):Prop:=∃f,Basis c (Ort c M) k f
theorem Basis.of_iff{c:Nat}{P Q:Vec->Prop}{k:Nat}{f:F2}(h:Basis c P k f)(a:∀y,P y↔Q y):Basis c Q k f:=
 ⟨fun i hi=>(a _).1 (h.mem i hi),h.li,fun y b=>h.span y ((a y).2 b)⟩
theorem a8B(c:Nat)(M:List Vec):∃k,Dim c M k:=by
 obtain⟨r,p,d,a,h⟩:=a7E M.length c (fL M);exact⟨_,_,(a5P a h).of_iff fun y=>(b0v c M y).symm⟩
theorem Dim.uniq{c:Nat}{M:List Vec}{k m:Nat}(h:Dim c M k)(d:Dim c M m):k=m:=by
 obtain⟨f,a⟩:=h;obtain⟨g,b⟩:=d;have:=a.le b fun _=>id;have:=b.le a fun _=>id;omega
theorem Dim.iff{c:Nat}{M L:List Vec}{k:Nat}(h:Dim c M k)(a:∀y,Ort c M y↔Ort c L y):Dim c L k:=let ⟨f,b⟩:=h;⟨f,b.of_iff a⟩
theorem Dim.more{c:Nat}{M:List Vec}{k:Nat}(h:Dim c M (k+1)){v y:Vec}(z:Ort c M y)(E:dot c v y≠0):Dim c (M++[v]) k:=by
 obtain⟨f,r⟩:=h;obtain⟨m,g,s⟩:=a8B c (M++[v]);have b:∀a j,cmb (m+1) (fun i=>if i<m then g i else y) a j=cmb m g a j+a m*y j:=fun a j=>by
  unfold cmb
  show sm m _+_=_
  congr 1
  ·exact a0l fun i hi=>by simp[hi]
  ·simp
 have p:∀i,i<m->Ort c M (g i)/\dot c v (g i)=0:=fun i hi=>by
  have:=Ort.app.1 (s.mem i hi);exact⟨this.1,this.2 v (by simp)⟩
 have G:m+1<=k+1:=by
  refine b0u (c:=c) (f:=fun i=>if i<m then g i else y) (g:=f) (fun a l=>?_) fun i hi=>?_
  ·have A:dot c v (fun j=>cmb m g a j+a m*y j)=0:=by
    rw[a1d];exact a2I fun j d=>by rw[<-b];exact l j d
   rw[a6x c v (fun j=>cmb m g a j) y (a m),b4F,a3e fun i hi=>by rw[(p i hi).2];grind]at A;have o:a m=0:=by
    have:a m*dot c v y=0:=by grind
    rcases Rat.mul_eq_zero.1 this with e|e
    ·exact e
    ·contradiction
   have x:=s.li a fun j d=>by have:=l j d;rw[b,o]at this;grind
   intro i hi;by_cases e:i=m
   ·subst e;exact o
   ·exact x i (by omega)
  ·by_cases n:i<m
   ·obtain⟨a,l⟩:=r.span _ (p i n).1
    exact⟨a,fun j d=>by simp only[n,if_true];exact l j d⟩
   ·obtain⟨a,l⟩:=r.span _ z
    exact⟨a,fun j d=>by simp only[n,if_false];exact l j d⟩
 have x:k+1<=m+1:=by
  refine b0u (c:=c) (f:=f) (g:=fun i=>if i<m then g i else y) r.li fun i hi=>?_;have u:=r.mem i hi;obtain⟨t,C⟩:∃t,dot c v (f i)/dot c v y=t:=⟨_,rfl⟩;have D:t*dot c v y=dot c v (f i):=by rw[<-C];exact Rat.div_mul_cancel E
  obtain⟨a,l⟩:=s.span (fun j=>f i j+ -t*y j) (Ort.app.2 ⟨u.lin (-t) z,fun w F=>by
   have:w=v:=by simpa using F
   subst this;rw[a6x];grind⟩)
  refine⟨fun q=>if q<m then a q else t,fun j d=>?_⟩;rw[b];have H:=l j d;have B:cmb m g (fun q=>if q<m then a q else t) j=cmb m g a j:=a0l fun q hq=>by simp[hq]
  simp only[Nat.lt_irrefl,if_false];rw[B];grind
 have:m=k:=by omega
 subst this;exact⟨g,s⟩
theorem Dim.one{c:Nat}{M:List Vec}(h:Dim c M 1){x:Vec}(hx:Ort c M x)(n:nz c x)(y:Vec)(o:Ort c M y):∃t:Rat,∀j,j<c->y j=t*x j:=by
 obtain⟨f,l⟩:=h;obtain⟨a,k⟩:=l.span x hx;obtain⟨b,m⟩:=l.span y o;have g:∀(a:Vec) j,cmb 1 f a j=a 0*f 0 j:=fun a j=>by unfold cmb sm sm;grind
 have i:a 0≠0:=fun e=>n.not fun j d=>by rw[k j d,g,e];grind
 refine⟨b 0/a 0,fun j d=>?_⟩;rw[m j d,k j d,g,g,<-Rat.mul_assoc,Rat.div_mul_cancel i]
theorem Dim.two{c k:Nat}{M:List Vec}(h:Dim c M (k+2))(x:Vec):∃y,Ort c M y/\∀t:Rat,¬∀j,j<c->y j=t*x j:=by
 apply Classical.byContradiction;intro n;have a:∀y,Ort c M y->∃t:Rat,∀j,j<c->y j=t*x j:=fun y o=>Classical.byContradiction fun e=>n ⟨y,o,fun t b=>e ⟨t,b⟩⟩;obtain⟨f,d⟩:=h;have:=b0u (m:=1) (g:=fun _=>x) d.li fun i hi=>by
  obtain⟨t,b⟩:=a _ (d.mem i hi);exact⟨fun _=>t,fun j l=>by rw[b j l];unfold cmb sm sm;grind⟩
 omega
end Go.Lin
