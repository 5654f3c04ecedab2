/- Parts of a proof: each theorem states what it proves, and its conditions. -/
import Derived.Test.YtnnpfhoigmegcaaGreatBkF
set_option maxRecDepth 100000
set_option maxHeartbeats 1600000
namespace Go.Proofs.YtnnpfhoigmegcaaGreat
open Go.RowKit Go.Rep Go.Lim
theorem a9E(z k:Int)(b:0<k):((z:Rat)/(k:Rat)).num=z/(Nat.gcd z.natAbs k.natAbs:Nat)/\(((z:Rat)/(k:Rat)).den:Int)=k/(Nat.gcd z.natAbs k.natAbs:Nat):=by
 have h:=b4P z k b;have a:k.natAbs≠0:=by omega
 rw[<-h,Rat.num_mkRat,Rat.den_mkRat];rw[if_neg a,if_neg a,Nat.gcd_comm k.natAbs];refine⟨rfl,?_⟩;rw[Int.natCast_ediv]
 congr 1
 omega
theorem a9F(X:Nat->Bool)(w:World)(u v:Value)(x y:Int)(hX:HX X w)(hu:ZC (mk X w) u x)(hv:ZC (mk X w) v y)(hx:lg x.natAbs<=274877906944)(hy:lg y.natAbs<=274877906944)(h4:y≠0):Calls Tryz.prog 119 #[u,v] w (a1F X w QC ((x:Rat)/(y:Rat))):=by
 have i7:=hid hx;have i8:=hid hy;obtain⟨s1,a1,n1,c1,rfl⟩:=hu.shape;obtain⟨s2,a2,n2,c2,rfl⟩:=hv.shape;obtain⟨W,hW,hE,b0,b1,b2,hz⟩:=a1P w #[.bool s1, .slice a1 n1 c1] #[.bool s2, .slice a2 n2 c2] #[.bool false, .slice none 0 0, .slice none 0 0] 39 39 41;have f7:HX (a0e X w.heap.size 3) W:=hX.boxes hz;have g9:=ZC.mono _ _ _ _ (a0i (nb:=3) hE) hu;have h3:=ZC.mono _ _ _ _ (a0i (nb:=3) hE) hv;obtain⟨b,hb⟩:∃b,w.heap.size=b:=⟨_,rfl⟩;have l1:w.heap.size<=b:=by omega
 rw[hb]at b0 b1 b2 hz f7 g9 h3;have i9:=h3.zv (Nat.le_trans hy (by decide));have m4:=g9.zv (Nat.le_trans hx (by decide));have s:=b0.cell 0 rfl;have t:=b0.cell 1 rfl;have A:=b1.cell 0 rfl;have B:=b1.cell 1 rfl;have h0:0<y\/y<0:=by omega
 obtain⟨q,d1⟩:∃q:Rat,(x:Rat)/(y:Rat)=q:=⟨_,rfl⟩;rw[d1];clear hu hv hx hy;go_enter Tryz.func119,Tryz.ntmps119
 go_wp2_with fail
 refine(b4K (a0e X b 3) W _ _ f7 i9).mono ?_;rintro e w5 ⟨p,rfl⟩;have f5:=b0.ext0 p;have f6:=b1.ext0 p;have h9:=b2.ext0 p;clear s t A B;rcases h0 with h0|h0
 ·have k8:decide (y.sign<0)=false:=by rw[Int.sign_eq_one_of_pos h0];rfl
  have hk:Hid (0<y):=hid h0;generalize y.sign=n3 at*;have d8:=mkx ZC.mono g9 p;have d6:=mkx ZC.mono h3 p;have b9:=f7.ext p;have a9:=hE.trans p;clear h0 h4;generalize m0:s1=sz at*;generalize l0:a1=az at*;generalize l8:n1=nz at*;generalize l3:c1=cz at*;generalize l9:s2=sk at*;generalize k9:a2=ak at*;generalize l7:n2=nk at*;generalize l2:c2=ck at*;generalize n6:w5=ws at*;generalize m6:x=z at*;generalize m7:y=k at*;have G:=f5;have H:=f6;have a8:=h9;have I:=i7;have l:=i8;have M:=hid d1;clear d1;have s:=G.cell 0 rfl;have t:=G.cell 1 rfl;have A:=H.cell 0 rfl;have B:=H.cell 1 rfl;have c4:=hid (Nat.gcd_pos_of_pos_right z.natAbs (show 0<k.natAbs by have:=hk.out;omega));have c7:=hid (show((Nat.gcd z.natAbs k.natAbs:Nat):Int)∣z from Int.ofNat_dvd_left.2 (Nat.gcd_dvd_left _ _));have c0:=hid (show((Nat.gcd z.natAbs k.natAbs:Nat):Int)∣k from Int.ofNat_dvd_left.2 (Nat.gcd_dvd_right _ _));have c3:=hid (show lg (Nat.gcd z.natAbs k.natAbs)<=274877906944 from Nat.le_trans (a0Y (Nat.gcd_le_right _ (by have:=hk.out;omega))) l.out);have j:=hid (a9E z k hk.out);obtain⟨g,hg⟩:∃g,Nat.gcd z.natAbs k.natAbs=g:=⟨_,rfl⟩;rw[hg]at c4 c7 c0 c3 j
  replace hg:=hid hg
  go_wp2_with fail
  refine(b7q (a0e X b 3) ws _ _ _ _ b9 (d8.zv (Nat.le_trans I.out (by decide))) (d6.zv (Nat.le_trans l.out (by decide))) I.out l.out).mono ?_;rintro e6 w6 ⟨n,ug,rfl,d2⟩;rw[hg.out]at d2;obtain⟨ag,cg,e2,rfl,g1,g2,g3⟩:=d2;have bg:=Bx.new w6 #[.bool false, .slice none 0 0] 39;have g6:=b9.ext n;clear s t A B;go_wp2_with ((with_reducible show wpList _ _ _ (⟨_, .store _ _ _,_,_,_,_⟩::_) _ _);refine a0a a0B rfl rfl bg rfl rfl (a2w _ _ _ _) ?_;intro w7 r1 r2;have m:Ext w6 w7:=ExtX.box ((ExtX.refl w6).alloc _) r2 (Nat.le_refl _);have t7:=n.trans m;have s:=(G.ext0 t7).cell 0 rfl;have t:=(G.ext0 t7).cell 1 rfl;have a0:=r1.cell 0 rfl;have a3:=r1.cell 1 rfl)
  have b8:=(g6.ext m);have N:ZC (mk (a0e X b 3) w7) (.agg #[.bool false, .slice ag e2.length cg]) (g:Int):=NC.zc (NC.mono _ _ _ _ (a0l m) ⟨ag,cg,e2,rfl,g1,g2,g3⟩);have h5:=mkx ZC.mono d8 t7;have h:Hid (lg ((g:Int)).natAbs<=274877906944):=hid (by rw[Int.natAbs_natCast];exact c3.out);have L:Hid ((0:Int)<(g:Int)):=hid (by have:=c4.out;omega);refine(b3u (a0e X b 3) w7 _ _ z g b8 (h5.zv (Nat.le_trans I.out (by decide))) (N.zv (Nat.le_trans h.out (by decide))) I.out h.out L.out c7.out).mono ?_;rintro e8 w8 ⟨J,up,sv,av,nv,cv,rfl,d3⟩;obtain⟨sp,ap,np,cp,rfl⟩:=d3.shape;obtain⟨W8,g5,b5,bp,br,m8⟩:=a1a w8 #[.bool false, .slice none 0 0] #[.bool false, .slice none 0 0] 39 39;subst g5;clear s t a0 a3;go_wp2_with ((with_reducible show wpList _ _ _ (⟨_, .store _ _ _,_,_,_,_⟩::_) _ _);first|(refine a0a a0B rfl rfl bp rfl rfl (a2w _ _ _ _) ?_;intro w9 p1 p2;have F:=br.ext p2 (a0c (by omega)))|(refine a0a a0B rfl rfl F rfl rfl (a2w _ _ _ _) ?_;intro f2 p3 p4;have d:Ext w8 f2:=ExtX.box (ExtX.box b5 p2 (Nat.le_refl _)) p4 (by omega);have D:=t7.trans (J.trans d);have A:=(H.ext0 D).cell 0 rfl;have B:=(H.ext0 D).cell 1 rfl;have e9:=r1.ext0 (J.trans d);have a0:=e9.cell 0 rfl;have a3:=e9.cell 1 rfl;have e3:=p1.ext p4 (a0c (by omega))))
  have r:=mkx ZC.mono d3 d;have b7:=(b8.ext J).ext d;have c8:=mkx ZC.mono d6 D;have U:=mkx ZC.mono (mkx ZC.mono N J) d;refine(b3u (a0e X b 3) f2 _ _ k g b7 (c8.zv (Nat.le_trans l.out (by decide))) (U.zv (Nat.le_trans h.out (by decide))) l.out h.out L.out c0.out).mono ?_;rintro f9 E ⟨a,uq,n4,j4,m9,j5,rfl,d4⟩;obtain⟨sq,aq,nq,cq,rfl⟩:=d4.shape;obtain⟨j3,b6,O,bq,f8,j1⟩:=a1a E #[.bool false, .slice none 0 0] #[.bool false, .slice none 0 0] 39 39;subst b6;clear A B a0 a3 F br;go_wp2_with ((with_reducible show wpList _ _ _ (⟨_, .store _ _ _,_,_,_,_⟩::_) _ _);first|(refine a0a a0B rfl rfl bq rfl rfl (a2w _ _ _ _) ?_;intro n5 p5 p6;have F:=f8.ext p6 (a0c (by omega)))|(refine a0a a0B rfl rfl F rfl rfl (a2w _ _ _ _) ?_;intro K p7 p8;have f:Ext E K:=ExtX.box (ExtX.box O p6 (Nat.le_refl _)) p8 (by omega);have f0:=D.trans (a.trans f);have C:=p5.ext p8 (a0c (by omega));have h6:=C.cell 0 rfl;have e1:=C.cell 1 rfl;have g0:=C.frozen 0;have g4:=C.frozen 1;have e4:=e3.ext0 (a.trans f);have d9:=e4.cell 0 rfl;have e0:=e4.cell 1 rfl))
  have Z:=mkx ZC.mono d4 f;have V:=mkx ZC.mono (mkx ZC.mono r a) f;have d0:=Z.mag;have g7:Hid (lg (k/(g:Int)).natAbs<=1099511627776):=hid (by
   have h1:=j.out.2;have:(k/(g:Int)).natAbs<=k.natAbs:=by
    have:=Int.natAbs_ediv_le_natAbs k (g:Int);exact this
   exact Nat.le_trans (a0Y this) (Nat.le_trans l.out (by decide)))
  have b3:=a8.ext0 f0;have Q:=a9.trans f0;refine(b3z _ _ _ _ d0 g7.out).mono ?_;rintro j9 c ⟨rfl,rfl⟩;have c9:Hid ((q.den:Int)=k/(g:Int)):=hid (by rw[<-M.out];exact j.out.2);have d7:Hid (q.num=z/(g:Int)):=hid (by rw[<-M.out];exact j.out.1);by_cases h1:(k/(g:Int)).natAbs=1
  ·have R:Hid (dn q=0):=hid ((a3F q).2 (by have:=c9.out;have:=q.den_pos;omega))
   rw[decide_eq_true h1];clear h1;go_upto_region 8 with(fail)
   obtain⟨m1,m2⟩:=a0G C (.slice none 0 0) (i:=1) (by simp);obtain⟨c,d5⟩:∃c,K.setCell ⟨E.heap.size,1,none⟩ (.slice none 0 0)=c:=⟨_,rfl⟩;rw[d5]at m1 m2 |-;have o:Ext E c:=ExtX.box f m2 (Nat.le_refl _);have f1:=D.trans (a.trans o);have b4:=a8.ext0 f1;have e7:=e3.ext0 (a.trans o);clear d9 e0 h6 e1 g0 g4;have d9:c.cell? ⟨w8.heap.size,0,none⟩=some (.bool sp):=e7.cell 0 rfl;have e0:c.cell? ⟨w8.heap.size,1,none⟩=some (.slice ap np cp):=e7.cell 1 rfl;have e1:c.cell? ⟨E.heap.size,1,none⟩=some (.slice none 0 0):=m1.cell 1 rfl;have Y:=mkx ZC.mono (mkx ZC.mono r a) o;go_wp2_with ((with_reducible show wpList _ _ _ (⟨_, .store _ _ _,_,_,_,_⟩::_) _ _);refine a0a a0k rfl rfl b4 rfl rfl (a1n _ _ _ _ _ _ _) ?_;intro h8 r3 r4)
   have T:ZC (mk (a0e X b 3) c) (.agg #[.bool sp, .slice ap np cp]) q.num:=by rw[d7.out];exact Y
   have S:NC (mk (a0e X b 3) c) (.slice none 0 0) (dn q):=by rw[R.out];exact NC.zero _
   have h7:=QC.mono _ _ _ _ a0h (QC.mono _ _ _ _ (a0f r4 (by omega) (by omega)) (QC.of T S));exact bodyPost_ret (a0d rfl rfl a0k r3 rfl) rfl ⟨ExtX.box (a9.trans f1) r4 (by omega),_,rfl,h7⟩
  ·have R:Hid (dn q=(k/(g:Int)).natAbs):=hid (by
    have h2:=c9.out;unfold dn;rw[if_neg (by omega)];omega)
   rw[decide_eq_false h1];clear h1;go_wp2_with ((with_reducible show wpList _ _ _ (⟨_, .store _ _ _,_,_,_,_⟩::_) _ _);refine a0a a0k rfl rfl b3 rfl rfl (a1n _ _ _ _ _ _ _) ?_;intro h8 r3 r4)
   have T:ZC (mk (a0e X b 3) K) (.agg #[.bool sp, .slice ap np cp]) q.num:=by rw[d7.out];exact V
   have S:NC (mk (a0e X b 3) K) (.slice aq nq cq) (dn q):=by rw[R.out];exact d0
   have h7:=QC.mono _ _ _ _ a0h (QC.mono _ _ _ _ (a0f r4 (by omega) (by omega)) (QC.of T S));exact bodyPost_ret (a0d rfl rfl a0k r3 rfl) rfl ⟨ExtX.box Q r4 (by omega),_,rfl,h7⟩
 ·have k8:decide (y.sign<0)=true:=by rw[Int.sign_eq_neg_one_of_neg h0];rfl
  have l4:Hid (0< -y):=hid (by omega);generalize y.sign=n3 at*;have P:Ext w5 w5.drew:=(ExtX.refl w5).drew;have i6:HX (a0e X b 3) w5.drew:=HX.ext (HX.ext f7 p) P;have m3:ZV (mk (a0e X b 3) w5.drew) (.agg #[.bool s1, .slice a1 n1 c1]) x:=mkx ZV.mono m4 (p.trans P);have m5:ZV (mk (a0e X b 3) w5.drew) (.agg #[.bool s2, .slice a2 n2 c2]) y:=mkx ZV.mono i9 (p.trans P);have s:=f5.cell 0 rfl;have t:=f5.cell 1 rfl;have A:=f6.cell 0 rfl;have B:=f6.cell 1 rfl;have g8:Hid (((-x:Int):Rat)/((-y:Int):Rat)=q):=hid (by
   rw[<-d1,Rat.intCast_neg,Rat.intCast_neg];have:(y:Rat)≠0:=by exact_mod_cast h4
   grind)
  have I:Hid (lg (-x).natAbs<=274877906944):=hid (by rw[Int.natAbs_neg];exact i7.out);have l:Hid (lg (-y).natAbs<=274877906944):=hid (by rw[Int.natAbs_neg];exact i8.out);clear h0 h4 d1;go_upto_region 2 with(fail)
  go_region_with (first|(go_at_call 129;(with_reducible refine(b5Q (a0e X b 3) w5.drew _ x i6 m3).mono ?_);rintro e w6 ⟨n,u6,rfl,s5,a5,c5,l5,rfl,i0,i1,i2⟩;have f3:=f5.ext0 (P.trans n);have f4:=f6.ext0 (P.trans n);have j6:=f3.cell 0 rfl;have j7:=f3.cell 1 rfl;have j8:=f4.cell 0 rfl;have f9:=f4.cell 1 rfl)|(go_at_call 129;(with_reducible refine(b5Q (a0e X b 3) w6 _ y (HX.ext i6 n) (mkx ZV.mono m5 n)).mono ?_);rintro e w7 ⟨m,u7,rfl,s6,a6,c6,l6,rfl,i3,i4,i5⟩;have a4:=f3.ext0 m;have a7:=f4.ext0 m;have k4:=a4.cell 0 rfl;have k5:=a4.cell 1 rfl;have k6:=a7.cell 0 rfl;have k7:=a7.cell 1 rfl;have k0:=a4.frozen 0;have k1:=a4.frozen 1;have k2:=a7.frozen 0;have k3:=a7.frozen 1))
  all_goals
   obtain⟨ws,j0,G,H,n0,a9,q4⟩:=a1U (X:=X) (nb:=3) a4 a7 (hE.trans (p.trans ((P.trans n).trans m))) l1 (by omega) (.bool s5) (.slice a5 l5.length c5) (.bool s6) (.slice a6 l6.length c6);rw[j0];have d8:ZC (mk (a0e X b 3) ws) (.agg #[.bool s5, .slice a5 l5.length c5]) (-x):=⟨s5,a5,c5,l5,rfl,i0,i1,(i2.mono (a0b.mono _) (a0l m)).mono (a0b.mono _) q4⟩;have d6:ZC (mk (a0e X b 3) ws) (.agg #[.bool s6, .slice a6 l6.length c6]) (-y):=⟨s6,a6,c6,l6,rfl,i3,i4,i5.mono (a0b.mono _) q4⟩;have a8:=n0 (b+1+1) _ _ (by omega) (by omega) (((h9.ext0 P).ext0 n).ext0 m);have j2:w.heap.size+3<=ws.heap.size:=by have:=a8.lt;omega
   have b9:HX (a0e X b 3) ws:=hX.boxes' a9 (by have:=j2;omega) j2;clear j6 j7 j8 f9 k4 k5 k6 k7 k0 k1 k2 k3 s t A B j0 f3 f4 a4 a7 i0 i1 i2 i3 i4 i5;have M:=g8;have hk:=l4;generalize m0:s5=sz at*;generalize l0:a5=az at*;generalize l8:l5.length=nz at*;generalize l3:c5=cz at*;generalize l9:s6=sk at*;generalize k9:a6=ak at*;generalize l7:l6.length=nk at*;generalize l2:c6=ck at*;generalize m6: -x=z at*;generalize m7: -y=k at*;have s:=G.cell 0 rfl;have t:=G.cell 1 rfl;have A:=H.cell 0 rfl;have B:=H.cell 1 rfl;have c4:=hid (Nat.gcd_pos_of_pos_right z.natAbs (show 0<k.natAbs by have:=hk.out;omega));have c7:=hid (show((Nat.gcd z.natAbs k.natAbs:Nat):Int)∣z from Int.ofNat_dvd_left.2 (Nat.gcd_dvd_left _ _));have c0:=hid (show((Nat.gcd z.natAbs k.natAbs:Nat):Int)∣k from Int.ofNat_dvd_left.2 (Nat.gcd_dvd_right _ _));have c3:=hid (show lg (Nat.gcd z.natAbs k.natAbs)<=274877906944 from Nat.le_trans (a0Y (Nat.gcd_le_right _ (by have:=hk.out;omega))) l.out);have j:=hid (a9E z k hk.out);obtain⟨g,hg⟩:∃g,Nat.gcd z.natAbs k.natAbs=g:=⟨_,rfl⟩;rw[hg]at c4 c7 c0 c3 j
   replace hg:=hid hg
   go_wp2_with fail
   refine(b7q (a0e X b 3) ws _ _ _ _ b9 (d8.zv (Nat.le_trans I.out (by decide))) (d6.zv (Nat.le_trans l.out (by decide))) I.out l.out).mono ?_;rintro e6 w6 ⟨n,ug,rfl,d2⟩;rw[hg.out]at d2;obtain⟨ag,cg,e2,rfl,g1,g2,g3⟩:=d2;have bg:=Bx.new w6 #[.bool false, .slice none 0 0] 39;have g6:=b9.ext n;clear s t A B;go_wp2_with ((with_reducible show wpList _ _ _ (⟨_, .store _ _ _,_,_,_,_⟩::_) _ _);refine a0a a0B rfl rfl bg rfl rfl (a2w _ _ _ _) ?_;intro w7 r1 r2;have m:Ext w6 w7:=ExtX.box ((ExtX.refl w6).alloc _) r2 (Nat.le_refl _);have t7:=n.trans m;have s:=(G.ext0 t7).cell 0 rfl;have t:=(G.ext0 t7).cell 1 rfl;have a0:=r1.cell 0 rfl;have a3:=r1.cell 1 rfl)
   have b8:=(g6.ext m);have N:ZC (mk (a0e X b 3) w7) (.agg #[.bool false, .slice ag e2.length cg]) (g:Int):=NC.zc (NC.mono _ _ _ _ (a0l m) ⟨ag,cg,e2,rfl,g1,g2,g3⟩);have h5:=mkx ZC.mono d8 t7;have h:Hid (lg ((g:Int)).natAbs<=274877906944):=hid (by rw[Int.natAbs_natCast];exact c3.out);have L:Hid ((0:Int)<(g:Int)):=hid (by have:=c4.out;omega);refine(b3u (a0e X b 3) w7 _ _ z g b8 (h5.zv (Nat.le_trans I.out (by decide))) (N.zv (Nat.le_trans h.out (by decide))) I.out h.out L.out c7.out).mono ?_;rintro e8 w8 ⟨J,up,sv,av,nv,cv,rfl,d3⟩;obtain⟨sp,ap,np,cp,rfl⟩:=d3.shape;obtain⟨W8,g5,b5,bp,br,m8⟩:=a1a w8 #[.bool false, .slice none 0 0] #[.bool false, .slice none 0 0] 39 39;subst g5;clear s t a0 a3;go_wp2_with ((with_reducible show wpList _ _ _ (⟨_, .store _ _ _,_,_,_,_⟩::_) _ _);first|(refine a0a a0B rfl rfl bp rfl rfl (a2w _ _ _ _) ?_;intro w9 p1 p2;have F:=br.ext p2 (a0c (by omega)))|(refine a0a a0B rfl rfl F rfl rfl (a2w _ _ _ _) ?_;intro f2 p3 p4;have d:Ext w8 f2:=ExtX.box (ExtX.box b5 p2 (Nat.le_refl _)) p4 (by omega);have D:=t7.trans (J.trans d);have A:=(H.ext0 D).cell 0 rfl;have B:=(H.ext0 D).cell 1 rfl;have e9:=r1.ext0 (J.trans d);have a0:=e9.cell 0 rfl;have a3:=e9.cell 1 rfl;have e3:=p1.ext p4 (a0c (by omega))))
   have r:=mkx ZC.mono d3 d;have b7:=(b8.ext J).ext d;have c8:=mkx ZC.mono d6 D;have U:=mkx ZC.mono (mkx ZC.mono N J) d;refine(b3u (a0e X b 3) f2 _ _ k g b7 (c8.zv (Nat.le_trans l.out (by decide))) (U.zv (Nat.le_trans h.out (by decide))) l.out h.out L.out c0.out).mono ?_;rintro f9 E ⟨a,uq,n4,j4,m9,j5,rfl,d4⟩;obtain⟨sq,aq,nq,cq,rfl⟩:=d4.shape;obtain⟨j3,b6,O,bq,f8,j1⟩:=a1a E #[.bool false, .slice none 0 0] #[.bool false, .slice none 0 0] 39 39;subst b6;clear A B a0 a3 F br;go_wp2_with ((with_reducible show wpList _ _ _ (⟨_, .store _ _ _,_,_,_,_⟩::_) _ _);first|(refine a0a a0B rfl rfl bq rfl rfl (a2w _ _ _ _) ?_;intro n5 p5 p6;have F:=f8.ext p6 (a0c (by omega)))|(refine a0a a0B rfl rfl F rfl rfl (a2w _ _ _ _) ?_;intro K p7 p8;have f:Ext E K:=ExtX.box (ExtX.box O p6 (Nat.le_refl _)) p8 (by omega);have f0:=D.trans (a.trans f);have C:=p5.ext p8 (a0c (by omega));have h6:=C.cell 0 rfl;have e1:=C.cell 1 rfl;have g0:=C.frozen 0;have g4:=C.frozen 1;have e4:=e3.ext0 (a.trans f);have d9:=e4.cell 0 rfl;have e0:=e4.cell 1 rfl))
   have Z:=mkx ZC.mono d4 f;have V:=mkx ZC.mono (mkx ZC.mono r a) f;have d0:=Z.mag;have g7:Hid (lg (k/(g:Int)).natAbs<=1099511627776):=hid (by
    have h1:=j.out.2;have:(k/(g:Int)).natAbs<=k.natAbs:=by
     have:=Int.natAbs_ediv_le_natAbs k (g:Int);exact this
    exact Nat.le_trans (a0Y this) (Nat.le_trans l.out (by decide)))
   have b3:=a8.ext0 f0;have Q:=a9.trans f0;refine(b3z _ _ _ _ d0 g7.out).mono ?_;rintro j9 c ⟨rfl,rfl⟩;have c9:Hid ((q.den:Int)=k/(g:Int)):=hid (by rw[<-M.out];exact j.out.2);have d7:Hid (q.num=z/(g:Int)):=hid (by rw[<-M.out];exact j.out.1);by_cases h1:(k/(g:Int)).natAbs=1
   ·have R:Hid (dn q=0):=hid ((a3F q).2 (by have:=c9.out;have:=q.den_pos;omega))
    rw[decide_eq_true h1];clear h1;go_upto_region 8 with(fail)
    obtain⟨m1,m2⟩:=a0G C (.slice none 0 0) (i:=1) (by simp);obtain⟨c,d5⟩:∃c,K.setCell ⟨E.heap.size,1,none⟩ (.slice none 0 0)=c:=⟨_,rfl⟩;rw[d5]at m1 m2 |-;have o:Ext E c:=ExtX.box f m2 (Nat.le_refl _);have f1:=D.trans (a.trans o);have b4:=a8.ext0 f1;have e7:=e3.ext0 (a.trans o);clear d9 e0 h6 e1 g0 g4;have d9:c.cell? ⟨w8.heap.size,0,none⟩=some (.bool sp):=e7.cell 0 rfl;have e0:c.cell? ⟨w8.heap.size,1,none⟩=some (.slice ap np cp):=e7.cell 1 rfl;have e1:c.cell? ⟨E.heap.size,1,none⟩=some (.slice none 0 0):=m1.cell 1 rfl;have Y:=mkx ZC.mono (mkx ZC.mono r a) o;go_wp2_with ((with_reducible show wpList _ _ _ (⟨_, .store _ _ _,_,_,_,_⟩::_) _ _);refine a0a a0k rfl rfl b4 rfl rfl (a1n _ _ _ _ _ _ _) ?_;intro h8 r3 r4)
    have T:ZC (mk (a0e X b 3) c) (.agg #[.bool sp, .slice ap np cp]) q.num:=by rw[d7.out];exact Y
    have S:NC (mk (a0e X b 3) c) (.slice none 0 0) (dn q):=by rw[R.out];exact NC.zero _
    have h7:=QC.mono _ _ _ _ a0h (QC.mono _ _ _ _ (a0f r4 (by omega) (by omega)) (QC.of T S));exact bodyPost_ret (a0d rfl rfl a0k r3 rfl) rfl ⟨ExtX.box (a9.trans f1) r4 (by omega),_,rfl,h7⟩
   ·have R:Hid (dn q=(k/(g:Int)).natAbs):=hid (by
     have h2:=c9.out;unfold dn;rw[if_neg (by omega)];omega)
    rw[decide_eq_false h1];clear h1;go_wp2_with ((with_reducible show wpList _ _ _ (⟨_, .store _ _ _,_,_,_,_⟩::_) _ _);refine a0a a0k rfl rfl b3 rfl rfl (a1n _ _ _ _ _ _ _) ?_;intro h8 r3 r4)
    have T:ZC (mk (a0e X b 3) K) (.agg #[.bool sp, .slice ap np cp]) q.num:=by rw[d7.out];exact V
    have S:NC (mk (a0e X b 3) K) (.slice aq nq cq) (dn q):=by rw[R.out];exact d0
    have h7:=QC.mono _ _ _ _ a0h (QC.mono _ _ _ _ (a0f r4 (by omega) (by omega)) (QC.of T S));exact bodyPost_ret (a0d rfl rfl a0k r3 rfl) rfl ⟨ExtX.box Q r4 (by omega),_,rfl,h7⟩
theorem a3W(X:Nat->Bool)(w:World)(v:Int)(s:HX X w)(l: -9223372036854775808<=v)(m:v<=9223372036854775807):Calls Tryz.prog 54 #[.int .i64 v] w (a1F X w QC v):=by
 obtain⟨W,A,r,k,hz⟩:=a0Q w #[.bool false, .slice none 0 0, .slice none 0 0] 41;have c:HX (a0e X w.heap.size 1) W:=s.boxes hz;obtain⟨b,t⟩:∃b,w.heap.size=b:=⟨_,rfl⟩;have u:w.heap.size<=b:=by omega
 rw[t]at k hz c;have e:=hid l;have f:=hid m;clear l m;go_enter Tryz.func54,Tryz.ntmps54
 go_wp2_with fail
 refine(b1w (a0e X b 1) W v c e.out f.out).mono ?_;rintro e1 w1 ⟨a,B,rfl,z,o,p,x,rfl,g,h,i⟩;have d:=k.ext0 a;have j:=a5z.ofInt h;go_wp2_with ((with_reducible show wpList _ _ _ (⟨_, .store _ _ _,_,_,_,_⟩::_) _ _);refine a0a a0k rfl rfl d rfl rfl (a1n _ _ _ _ _ _ _) ?_;intro C y n)
 have q:=(i.mono (a0b.mono _) (a0f n (by omega) (by omega))).mono (a0b.mono _) a0h;exact bodyPost_ret (a0d rfl rfl a0k y rfl) rfl ⟨ExtX.box (r.trans a) n (by omega),_,rfl,z,o,p,x,none,0,[],rfl,g,Nat.le_refl _,j,q,Sl.nil _ _ _ _⟩
theorem a5V(X:Nat->Bool)(w:World)(u:Value)(x:Rat)(s:HX X w)(f:QV (mk X w) u x):Calls Tryz.prog 42 #[u] w (a2y w x.num.sign):=by
 have i:=hid f.hq;obtain⟨A,o,z,p,q,y,e1,rfl⟩:=f.shape;obtain⟨W,F,g,e,hz⟩:=a0Q w #[.bool A, .slice o z p, .slice q y e1] 41;have c:HX X W:=s.ext g;have j:=mkx QV.mono f g;obtain⟨b,t⟩:∃b,w.heap.size=b:=⟨_,rfl⟩;rw[t]at e hz;have l:=e.cell 0 rfl;have m:=e.cell 1 rfl;have n:=e.cell 2 rfl;have v:=a5s;clear f;go_enter Tryz.func42,Tryz.ntmps42
 go_wp2_with fail
 refine(a3l X W _ x c j).mono ?_;rintro r B ⟨a,J,rfl,d⟩;obtain⟨I,C,H,D,E,G,e5,rfl⟩:=d.shape;have k:=d.num.1.zv (Nat.le_trans (Nat.le_trans (a0w x) i.out) (by omega));clear l m n;go_wp2_with fail
 refine(b4K X B _ _ (c.ext a) k).mono ?_;rintro r K ⟨h,rfl⟩;go_wp2_with fail
 go_ret
 exact⟨g.trans (a.trans h),rfl⟩
theorem b0u(X:Nat->Bool)(w:World)(u:Value)(x:Rat)(hX:HX X w)(A:QV (mk X w) u x):Calls Tryz.prog 56 #[u] w (a1F X w QC (-x)):=by
 have q:=hid A.hq;obtain⟨s1,a1,n1,c1,d1,k1,e1,rfl⟩:=A.shape;obtain⟨W,hW,hE,n,b1,hz⟩:=a1a w #[.bool s1, .slice a1 n1 c1, .slice d1 k1 e1] #[.bool false, .slice none 0 0, .slice none 0 0] 41 41;have i:HX (a0e X w.heap.size 2) W:=hX.boxes hz;have s:=QV.mono _ _ _ _ (a0i (nb:=2) hE) A;obtain⟨b,hb⟩:∃b,w.heap.size=b:=⟨_,rfl⟩;have a3:w.heap.size<=b:=by omega
 rw[hb]at n b1 hz i s;have j:=n.cell 0 rfl;have k:=n.cell 1 rfl;have l:=n.cell 2 rfl;clear A;go_enter Tryz.func56,Tryz.ntmps56
 go_wp2_with fail
 refine(a3l (a0e X b 2) W _ x i s).mono ?_;rintro e w5 ⟨d,u5,rfl,r⟩;obtain⟨s5,D,n5,J,o,z,e5,rfl⟩:=r.shape;have R:=i.ext d;have F:=n.ext0 d;have G:=b1.ext0 d;clear j k l;go_upto_region 2 with((with_reducible show wpList _ _ _ (⟨_, .store _ _ _,_,_,_,_⟩::_) _ _);refine a0a a0k rfl rfl F rfl rfl (a1n _ _ _ _ _ _ _) ?_;intro g f B;have j:=f.cell 0 rfl;have k:=f.cell 1 rfl;have l:=f.cell 2 rfl)
 have S:=R.ext B;have H:=G.ext B (a0c (by omega));have U:=QC.mono _ _ _ _ (a0f (X:=X) (lo:=b) (nb:=2) B (by omega) (by omega)) r;have O:Ext w g:=ExtX.box (hE.trans d) B (by omega);obtain⟨Y,a4,v⟩:=U.num;have c:Ext g g.drew:=(ExtX.refl g).drew;have p:HX (a0e X b 2) g.drew:=S;have y:ZC (mk (a0e X b 2) g.drew) (.agg #[.bool s5, .slice D n5 J]) x.num:=Y;have t:NC (mk (a0e X b 2) g.drew) (.slice o z e5) (dn x):=v;have I:lg x.num.natAbs<=549755813888:=Nat.le_trans (Nat.le_trans (a0w x) q.out) (by omega);have a0:lg (dn x)<=549755813888:=Nat.le_trans (Nat.le_trans (b1x x) q.out) (by omega);have V:=y.zv I;have Q:Hid (∀W',Ext g.drew W'->W'.cell? ⟨b,0,none⟩=some (.bool s5)/\W'.cell? ⟨b,1,none⟩=some (.slice D n5 J)/\W'.cell? ⟨b,2,none⟩=some (.slice o z e5)):=
  hid fun W' h=>⟨(f.ext0 (c.trans h)).cell 0 rfl,(f.ext0 (c.trans h)).cell 1 rfl,(f.ext0 (c.trans h)).cell 2 rfl⟩
 go_region_held3 (fun w'=>w'.cell? ⟨b,0,none⟩=some (.bool s5)/\w'.cell? ⟨b,1,none⟩=some (.slice D n5 J)/\w'.cell? ⟨b,2,none⟩=some (.slice o z e5))
  (first|exact Q.out _ C|exact Q.out _ m|exact⟨((f.ext0 (c.trans m)).ext (a.set3 _ _ _).2 (a0c (by omega))).cell 0 rfl,((f.ext0 (c.trans m)).ext (a.set3 _ _ _).2 (a0c (by omega))).cell 1 rfl,((f.ext0 (c.trans m)).ext (a.set3 _ _ _).2 (a0c (by omega))).cell 2 rfl⟩|go_keep)
  (first|(go_at_call 129;(with_reducible refine(b5Q (a0e X b 2) g.drew _ _ p V).mono ?_);rintro ee w8 ⟨C,u8,rfl,s8,E,K,Z,rfl,L,M,N⟩;have a2:=HX.ext p C;have m:=C;have T:=mkx NC.mono t C;have a:=H.ext0 (c.trans m);have g0:=a.cell 0 rfl;have g1:=a.cell 1 rfl;have g2:=a.cell 2 rfl;have f0:=a.frozen 0;have f1:=a.frozen 1;have f2:=a.frozen 2))
 obtain⟨q1,q2⟩:=a.set3 (.bool s8) (.slice E Z.length K) (.slice o z e5);have hz:ZC (mk (a0e X b 2) w8) (.agg #[.bool s8, .slice E Z.length K]) (-x).num:=⟨s8,E,K,Z,rfl,L,by rw[Rat.neg_num];exact M,N⟩;have hd:NC (mk (a0e X b 2) w8) (.slice o z e5) (dn (-x)):=by rw[b4O];exact T
 have h7:=QC.mono _ _ _ _ a0h (QC.mono _ _ _ _ (a0f q2 (by omega) (by omega)) (QC.of hz hd));have P:Ext w _:=ExtX.box (O.trans (c.trans m)) q2 (by omega);clear g0 g1 g2 f0 f1 f2 j k l Q;go_wp2_with fail
 exact bodyPost_ret (a0d rfl rfl a0k q1 rfl) rfl ⟨P,_,rfl,h7⟩
theorem b1C(X:Nat->Bool)(w:World)(u v:Value)(x y:Rat)(hX:HX X w)(hu:QV (mk X w) u x)(hv:QV (mk X w) v y):Calls Tryz.prog 48 #[u,v] w (a1F X w QC (x+y)):=by
 have e:=hid hu.hq;have f:=hid hv.hq;obtain⟨s1,a1,n1,c1,d1,k1,e1,rfl⟩:=hu.shape;obtain⟨s2,a2,n2,c2,d2,k2,e2,rfl⟩:=hv.shape;obtain⟨W,hW,hE,j,k,T,hz⟩:=a1P w #[.bool s1, .slice a1 n1 c1, .slice d1 k1 e1] #[.bool s2, .slice a2 n2 c2, .slice d2 k2 e2] #[.bool false, .slice none 0 0, .slice none 0 0] 41 41 41;have c7:HX (a0e X w.heap.size 3) W:=hX.boxes hz;have N:=QV.mono _ _ _ _ (a0i (nb:=3) hE) hu;have O:=QV.mono _ _ _ _ (a0i (nb:=3) hE) hv;obtain⟨b,hb⟩:∃b,w.heap.size=b:=⟨_,rfl⟩;have k8:w.heap.size<=b:=by omega
 rw[hb]at j k T hz c7 N O;have c:Ext W W.drew:=(ExtX.refl W).drew;have d:HX (a0e X b 3) W.drew:=c7;have e7:QV (mk (a0e X b 3) W.drew) (.agg #[.bool s1, .slice a1 n1 c1, .slice d1 k1 e1]) x:=N;have e8:QV (mk (a0e X b 3) W.drew) (.agg #[.bool s2, .slice a2 n2 c2, .slice d2 k2 e2]) y:=O;have z:=j.cell 0 rfl;have A:=j.cell 1 rfl;have B:=j.cell 2 rfl;have C:=k.cell 0 rfl;have D:=k.cell 1 rfl;have E:=k.cell 2 rfl;clear hu hv;go_enter Tryz.func48,Tryz.ntmps48
 go_upto_region 1 with(fail)
 go_cut []from 5 to 8 (fun wx=>∃R I P K U k3 Y S J Q L V k4 Z,Bx wx b #[.bool R, .slice I P K, .slice U k3 Y] 41/\Bx wx (b+1) #[.bool S, .slice J Q L, .slice V k4 Z] 41/\Bx wx (b+1+1) #[.bool false, .slice none 0 0, .slice none 0 0] 41/\QC (mk (a0e X b 3) wx) (.agg #[.bool R, .slice I P K, .slice U k3 Y]) x/\QC (mk (a0e X b 3) wx) (.agg #[.bool S, .slice J Q L, .slice V k4 Z]) y/\Ext w wx)
 case first=>
  go_region_with (first|(go_at_call 118;(with_reducible refine(a3l (a0e X b 3) W.drew _ x d e7).mono ?_);rintro o w5 ⟨l,u5,rfl,d0⟩;obtain⟨s5,a5,n5,c5,d5,k5,e5,rfl⟩:=d0.shape;have q:=j.ext0 (c.trans l);have r:=k.ext0 (c.trans l);have h0:=q.cell 0 rfl;have h5:=q.cell 1 rfl;have h6:=q.cell 2 rfl;have h8:=r.cell 0 rfl;have h9:=r.cell 1 rfl;have i0:=r.cell 2 rfl)|(go_at_call 118;(with_reducible refine(a3l (a0e X b 3) w5 _ y (HX.ext d l) (mkx QV.mono e8 l)).mono ?_);rintro o w6 ⟨i,u6,rfl,d7⟩;obtain⟨s6,a6,n6,c6,d6,k6,e6,rfl⟩:=d7.shape;have a:=q.ext0 i;have g:=r.ext0 i;have i8:=a.cell 0 rfl;have i9:=a.cell 1 rfl;have j0:=a.cell 2 rfl;have j1:=g.cell 0 rfl;have j2:=g.cell 1 rfl;have j3:=g.cell 2 rfl;have i2:=a.frozen 0;have i3:=a.frozen 1;have i6:=a.frozen 2;have i4:=g.frozen 0;have i5:=g.frozen 1;have i7:=g.frozen 2))
  all_goals
   obtain⟨wf,e9,q0,q1,q2,q3,q4⟩:=a1H (X:=X) (nb:=3) a g (hE.trans ((c.trans l).trans i)) k8 (by omega) (.bool s5) (.slice a5 n5 c5) (.slice d5 k5 e5) (.bool s6) (.slice a6 n6 c6) (.slice d6 k6 e6);rw[e9];have k9:QC (mk (a0e X b 3) wf) (.agg #[.bool s5, .slice a5 n5 c5, .slice d5 k5 e5]) x:=QC.mono _ _ _ _ q4 (mkx QC.mono d0 i);have l0:QC (mk (a0e X b 3) wf) (.agg #[.bool s6, .slice a6 n6 c6, .slice d6 k6 e6]) y:=QC.mono _ _ _ _ q4 d7;have q5:=q2 (b+1+1) _ _ (by omega) (by omega) ((T.ext0 (c.trans l)).ext0 i);clear h0 h5 h6 h8 h9 i0 i8 i9 j0 j1 j2 j3 i2 i3 i4 i5 i6 i7 z A B C D E e9;go_wp2_with fail
   go_meet
   exact⟨_,_,_,_,_,_,_,_,_,_,_,_,_,_,q0,q1,q5,k9,l0,q3⟩
 case rest=>
  clear z A B C D E j k T N O e7 e8 d c hW;obtain⟨R,I,P,K,U,k3,Y,S,J,Q,L,V,k4,Z,j,k,T,hx,hy,b4⟩:=hcut;have f8:w.heap.size+3<=wc.heap.size:=by have:=T.lt;omega
  obtain⟨l9,o4,n0⟩:=hx.num;obtain⟨m1,o5,n7⟩:=hy.num;have k7:HX (a0e X b 3) wc:=hX.boxes' b4 (by have:=f8;omega) f8;have z:=j.cell 0 rfl;have A:=j.cell 1 rfl;have B:=j.cell 2 rfl;have C:=k.cell 0 rfl;have D:=k.cell 1 rfl;have E:=k.cell 2 rfl;have c:Ext wc wc.drew:=(ExtX.refl wc).drew;have d:HX (a0e X b 3) wc.drew:=k7;have f3:QC (mk (a0e X b 3) wc.drew) (.agg #[.bool R, .slice I P K, .slice U k3 Y]) x:=hx;have f6:QC (mk (a0e X b 3) wc.drew) (.agg #[.bool S, .slice J Q L, .slice V k4 Z]) y:=hy;have f4:ZC (mk (a0e X b 3) wc.drew) (.agg #[.bool R, .slice I P K]) x.num:=l9;have f7:ZC (mk (a0e X b 3) wc.drew) (.agg #[.bool S, .slice J Q L]) y.num:=m1;have o1:lg x.num.natAbs<=549755813888:=Nat.le_trans (Nat.le_trans (a0w x) e.out) (by omega);have o3:lg y.num.natAbs<=549755813888:=Nat.le_trans (Nat.le_trans (a0w y) f.out) (by omega);have o0:lg x.den<=549755813888:=Nat.le_trans (Nat.le_trans (a0y x) e.out) (by omega);have o2:lg y.den<=549755813888:=Nat.le_trans (Nat.le_trans (a0y y) f.out) (by omega);have g4:lg (x.num*(y.den:Int)).natAbs<=274877906944:=by rw[Int.natAbs_mul,Int.natAbs_natCast];have:=a0P x.num.natAbs y.den;have:=a0w x;have:=a0y y;have:=e.out;have:=f.out;omega
  have g5:lg (y.num*(x.den:Int)).natAbs<=274877906944:=by rw[Int.natAbs_mul,Int.natAbs_natCast];have:=a0P y.num.natAbs x.den;have:=a0w y;have:=a0y x;have:=e.out;have:=f.out;omega
  have g3:lg (x.den*y.den)<=274877906944:=by have:=a0P x.den y.den;have:=a0y x;have:=a0y y;have:=e.out;have:=f.out;omega
  have n9:lg (x.num*y.num).natAbs<=274877906944:=by rw[Int.natAbs_mul];have:=a0P x.num.natAbs y.num.natAbs;have:=a0w x;have:=a0w y;have:=e.out;have:=f.out;omega
  have n8:0<x.den*y.den:=Nat.mul_pos x.den_pos y.den_pos;have M:=hid (And.intro j k);have p:Hid (∀W',Ext wc.drew W'->W'.cell? ⟨b,0,none⟩=some (.bool R)/\W'.cell? ⟨b,1,none⟩=some (.slice I P K)/\W'.cell? ⟨b,2,none⟩=some (.slice U k3 Y)/\W'.cell? ⟨b+1,0,none⟩=some (.bool S)/\W'.cell? ⟨b+1,1,none⟩=some (.slice J Q L)/\W'.cell? ⟨b+1,2,none⟩=some (.slice V k4 Z)):=
   hid fun W' h=>⟨(j.ext0 (c.trans h)).cell 0 rfl,(j.ext0 (c.trans h)).cell 1 rfl,(j.ext0 (c.trans h)).cell 2 rfl,(k.ext0 (c.trans h)).cell 0 rfl,(k.ext0 (c.trans h)).cell 1 rfl,(k.ext0 (c.trans h)).cell 2 rfl⟩
  have a0:hq x<=549755813888:=Nat.le_trans e.out (by decide);have a7:hq y<=549755813888:=Nat.le_trans f.out (by decide);have a9:lg x.num.natAbs<=274877906944:=Nat.le_trans (Nat.le_trans (a0w x) e.out) (by omega);have b3:lg y.num.natAbs<=274877906944:=Nat.le_trans (Nat.le_trans (a0w y) f.out) (by omega);have s:lg (x.den:Int).natAbs<=274877906944:=Nat.le_trans (Nat.le_trans (a0y x) e.out) (by omega);have t:lg (y.den:Int).natAbs<=274877906944:=Nat.le_trans (Nat.le_trans (a0y y) f.out) (by omega);have g8:lg ((x.den:Int)*(y.den:Int)).natAbs<=274877906944:=by rw[<-Int.natCast_mul,Int.natAbs_natCast];exact g3
  have g7:(x.den:Int)*(y.den:Int)≠0:=Int.mul_ne_zero (by have:=x.den_nz;omega) (by have:=y.den_nz;omega);have a8:lg (x.num*(y.den:Int)+y.num*(x.den:Int)).natAbs<=274877906944:=by
   have h1:=a0Y (Int.natAbs_add_le (x.num*(y.den:Int)) (y.num*(x.den:Int)));have h2:=a9t (x.num*(y.den:Int)).natAbs (y.num*(x.den:Int)).natAbs;have h3:lg (x.num*(y.den:Int)).natAbs<=137438953472:=by rw[Int.natAbs_mul,Int.natAbs_natCast];have:=a0P x.num.natAbs y.den;have:=a0w x;have:=a0y y;have:=e.out;have:=f.out;omega
   have h4:lg (y.num*(x.den:Int)).natAbs<=137438953472:=by rw[Int.natAbs_mul,Int.natAbs_natCast];have:=a0P y.num.natAbs x.den;have:=a0w y;have:=a0y x;have:=e.out;have:=f.out;omega
   omega
  have c8:Hid (((x.num*(y.den:Int)+y.num*(x.den:Int):Int):Rat)/(((x.den:Int)*(y.den:Int):Int):Rat)=x+y):=hid (by
   rw[<-Int.natCast_mul,Rat.intCast_natCast,<-Rat.mkRat_eq_div];exact(Rat.add_def' x y).symm)
  go_wp2_with fail
  go_region_held3 (fun w'=>w'.cell? ⟨b,0,none⟩=some (.bool R)/\w'.cell? ⟨b,1,none⟩=some (.slice I P K)/\w'.cell? ⟨b,2,none⟩=some (.slice U k3 Y)/\w'.cell? ⟨b+1,0,none⟩=some (.bool S)/\w'.cell? ⟨b+1,1,none⟩=some (.slice J Q L)/\w'.cell? ⟨b+1,2,none⟩=some (.slice V k4 Z))
   (first|exact p.out _ t1|exact p.out _ t2|exact p.out _ t3|exact p.out _ t4|exact p.out _ t5|exact p.out _ t6|exact p.out _ t7|exact p.out _ t8|exact p.out _ F|exact⟨((M.out.1.ext0 (c.trans F)).ext (a.set3 _ _ _).2 (a0c (by omega))).cell 0 rfl,((M.out.1.ext0 (c.trans F)).ext (a.set3 _ _ _).2 (a0c (by omega))).cell 1 rfl,((M.out.1.ext0 (c.trans F)).ext (a.set3 _ _ _).2 (a0c (by omega))).cell 2 rfl,((M.out.2.ext0 (c.trans F)).ext (a.set3 _ _ _).2 (a0c (by omega))).cell 0 rfl,((M.out.2.ext0 (c.trans F)).ext (a.set3 _ _ _).2 (a0c (by omega))).cell 1 rfl,((M.out.2.ext0 (c.trans F)).ext (a.set3 _ _ _).2 (a0c (by omega))).cell 2 rfl⟩|go_keep)
   (first|(go_at_call 122;(with_reducible refine(a7S (a0e X b 3) wc.drew _ y d f6 a7).mono ?_);rintro o w5 ⟨t1,u5,rfl,l1⟩;have j6:=HX.ext d t1;have l6:=mkx ZC.mono f4 t1)|(go_at_call 121;(with_reducible refine(a8F (a0e X b 3) w5 _ _ x.num (y.den:Int) j6 (l6.zv (Nat.le_trans a9 (by decide))) (l1.zv (Nat.le_trans t (by decide))) a9 t).mono ?_);rintro o w6 ⟨i,u6,rfl,l2⟩;have t2:=t1.trans i;have j7:=HX.ext d t2;have l7:=mkx QC.mono f3 t2)|(go_at_call 122;(with_reducible refine(a7S (a0e X b 3) w6 _ x j7 l7 a0).mono ?_);rintro o w7 ⟨b6,u7,rfl,l3⟩;have t3:=t2.trans b6;have j8:=HX.ext d t3;have m0:=mkx ZC.mono f7 t3)|(go_at_call 121;(with_reducible refine(a8F (a0e X b 3) w7 _ _ y.num (x.den:Int) j8 (m0.zv (Nat.le_trans b3 (by decide))) (l3.zv (Nat.le_trans s (by decide))) b3 s).mono ?_);rintro o w8 ⟨b7,u8,rfl,l4⟩;have t4:=t3.trans b7;have j9:=HX.ext d t4;have m2:=mkx ZC.mono l2 (b6.trans b7))|(go_at_call 120;(with_reducible refine(b8k (a0e X b 3) w8 _ _ _ _ j9 (m2.zv (Nat.le_trans g4 (by decide))) (l4.zv (Nat.le_trans g5 (by decide)))).mono ?_);rintro o w9 ⟨j4,u9,rfl,l5⟩;have t5:=t4.trans j4;have k0:=HX.ext d t5;have l8:=mkx QC.mono f3 t5)|(go_at_call 122;(with_reducible refine(a7S (a0e X b 3) w9 _ x k0 l8 a0).mono ?_);rintro o m7 ⟨G,o6,rfl,d8⟩;have t6:=t5.trans G;have b8:=HX.ext d t6;have f5:=mkx QC.mono f6 t6)|(go_at_call 122;(with_reducible refine(a7S (a0e X b 3) m7 _ y b8 f5 a7).mono ?_);rintro o m8 ⟨m,o7,rfl,d9⟩;have t7:=t6.trans m;have b9:=HX.ext d t7;have c9:=mkx ZC.mono d8 m)|(go_at_call 121;(with_reducible refine(a8F (a0e X b 3) m8 _ _ (x.den:Int) (y.den:Int) b9 (c9.zv (Nat.le_trans s (by decide))) (d9.zv (Nat.le_trans t (by decide))) s t).mono ?_);rintro o m9 ⟨H,o8,rfl,e0⟩;have t8:=t7.trans H;have c0:=HX.ext d t8;have m3:=mkx ZC.mono l5 (G.trans (m.trans H)))|(go_at_call 119;(with_reducible refine(a9F (a0e X b 3) m9 _ _ _ _ c0 m3 e0 a8 g8 g7).mono ?_);rintro o p0 ⟨b5,o9,rfl,n⟩;have F:=t8.trans b5;obtain⟨m6,f9,m5,g6,g9,m4,i1,rfl⟩:=n.shape;have a:=T.ext0 (c.trans F);have g0:=a.cell 0 rfl;have g1:=a.cell 1 rfl;have g2:=a.cell 2 rfl;have f0:=a.frozen 0;have f1:=a.frozen 1;have f2:=a.frozen 2))
  rw[c8.out]at n;obtain⟨r1,r2⟩:=a.set3 (.bool m6) (.slice f9 m5 g6) (.slice g9 m4 i1);have h7:=QC.mono _ _ _ _ a0h (QC.mono _ _ _ _ (a0f r2 (by omega) (by omega)) n);have j5:Ext w _:=ExtX.box (b4.trans (c.trans F)) r2 (by omega);clear g0 g1 g2 f0 f1 f2 z A B C D E p M;go_wp2_with fail
  exact bodyPost_ret (a0d rfl rfl a0k r1 rfl) rfl ⟨j5,_,rfl,h7⟩
theorem b3A(X:Nat->Bool)(w:World)(u v:Value)(x y:Rat)(hX:HX X w)(hu:QV (mk X w) u x)(hv:QV (mk X w) v y):Calls Tryz.prog 49 #[u,v] w (a1F X w QC (x*y)):=by
 have e:=hid hu.hq;have f:=hid hv.hq;obtain⟨s1,a1,n1,c1,d1,k1,e1,rfl⟩:=hu.shape;obtain⟨s2,a2,n2,c2,d2,k2,e2,rfl⟩:=hv.shape;obtain⟨W,hW,hE,j,k,N,hz⟩:=a1P w #[.bool s1, .slice a1 n1 c1, .slice d1 k1 e1] #[.bool s2, .slice a2 n2 c2, .slice d2 k2 e2] #[.bool false, .slice none 0 0, .slice none 0 0] 41 41 41;have b4:HX (a0e X w.heap.size 3) W:=hX.boxes hz;have G:=QV.mono _ _ _ _ (a0i (nb:=3) hE) hu;have I:=QV.mono _ _ _ _ (a0i (nb:=3) hE) hv;obtain⟨b,hb⟩:∃b,w.heap.size=b:=⟨_,rfl⟩;have i4:w.heap.size<=b:=by omega
 rw[hb]at j k N hz b4 G I;have c:Ext W W.drew:=(ExtX.refl W).drew;have d:HX (a0e X b 3) W.drew:=b4;have b8:QV (mk (a0e X b 3) W.drew) (.agg #[.bool s1, .slice a1 n1 c1, .slice d1 k1 e1]) x:=G;have b9:QV (mk (a0e X b 3) W.drew) (.agg #[.bool s2, .slice a2 n2 c2, .slice d2 k2 e2]) y:=I;have o:=j.cell 0 rfl;have p:=j.cell 1 rfl;have q:=j.cell 2 rfl;have r:=k.cell 0 rfl;have s:=k.cell 1 rfl;have t:=k.cell 2 rfl;clear hu hv;go_enter Tryz.func49,Tryz.ntmps49
 go_upto_region 1 with(fail)
 go_cut []from 5 to 8 (fun Y=>∃L A J C O U Q M B K D P V R,Bx Y b #[.bool L, .slice A J C, .slice O U Q] 41/\Bx Y (b+1) #[.bool M, .slice B K D, .slice P V R] 41/\Bx Y (b+1+1) #[.bool false, .slice none 0 0, .slice none 0 0] 41/\QC (mk (a0e X b 3) Y) (.agg #[.bool L, .slice A J C, .slice O U Q]) x/\QC (mk (a0e X b 3) Y) (.agg #[.bool M, .slice B K D, .slice P V R]) y/\Ext w Y)
 case first=>
  go_region_with (first|(go_at_call 118;(with_reducible refine(a3l (a0e X b 3) W.drew _ x d b8).mono ?_);rintro S w5 ⟨l,u5,rfl,b6⟩;obtain⟨s5,a5,n5,c5,d5,k5,e5,rfl⟩:=b6.shape;have m:=j.ext0 (c.trans l);have n:=k.ext0 (c.trans l);have f4:=m.cell 0 rfl;have f5:=m.cell 1 rfl;have f6:=m.cell 2 rfl;have f7:=n.cell 0 rfl;have f8:=n.cell 1 rfl;have f9:=n.cell 2 rfl)|(go_at_call 118;(with_reducible refine(a3l (a0e X b 3) w5 _ y (HX.ext d l) (mkx QV.mono b9 l)).mono ?_);rintro S w6 ⟨g,u6,rfl,b7⟩;obtain⟨s6,a6,n6,c6,d6,k6,e6,rfl⟩:=b7.shape;have a:=m.ext0 g;have i:=n.ext0 g;have h0:=a.cell 0 rfl;have h1:=a.cell 1 rfl;have h2:=a.cell 2 rfl;have h3:=i.cell 0 rfl;have h4:=i.cell 1 rfl;have h5:=i.cell 2 rfl;have g4:=a.frozen 0;have g5:=a.frozen 1;have g8:=a.frozen 2;have g6:=i.frozen 0;have g7:=i.frozen 1;have g9:=i.frozen 2))
  all_goals
   obtain⟨wf,c0,q0,q1,q2,q3,q4⟩:=a1H (X:=X) (nb:=3) a i (hE.trans ((c.trans l).trans g)) i4 (by omega) (.bool s5) (.slice a5 n5 c5) (.slice d5 k5 e5) (.bool s6) (.slice a6 n6 c6) (.slice d6 k6 e6);rw[c0];have i5:QC (mk (a0e X b 3) wf) (.agg #[.bool s5, .slice a5 n5 c5, .slice d5 k5 e5]) x:=QC.mono _ _ _ _ q4 (mkx QC.mono b6 g);have i6:QC (mk (a0e X b 3) wf) (.agg #[.bool s6, .slice a6 n6 c6, .slice d6 k6 e6]) y:=QC.mono _ _ _ _ q4 b7;have q5:=q2 (b+1+1) _ _ (by omega) (by omega) ((N.ext0 (c.trans l)).ext0 g);clear f4 f5 f6 f7 f8 f9 h0 h1 h2 h3 h4 h5 g4 g5 g6 g7 g8 g9 o p q r s t c0;go_wp2_with fail
   go_meet
   exact⟨_,_,_,_,_,_,_,_,_,_,_,_,_,_,q0,q1,q5,i5,i6,q3⟩
 case rest=>
  clear o p q r s t j k N G I b8 b9 d c hW;obtain⟨L,A,J,C,O,U,Q,M,B,K,D,P,V,R,j,k,N,hx,hy,a9⟩:=hcut;have c9:w.heap.size+3<=wc.heap.size:=by have:=N.lt;omega
  obtain⟨j4,l7,k8⟩:=hx.num;obtain⟨j7,l8,k9⟩:=hy.num;have i3:HX (a0e X b 3) wc:=hX.boxes' a9 (by have:=c9;omega) c9;have o:=j.cell 0 rfl;have p:=j.cell 1 rfl;have q:=j.cell 2 rfl;have r:=k.cell 0 rfl;have s:=k.cell 1 rfl;have t:=k.cell 2 rfl;have c:Ext wc wc.drew:=(ExtX.refl wc).drew;have d:HX (a0e X b 3) wc.drew:=i3;have j3:QC (mk (a0e X b 3) wc.drew) (.agg #[.bool L, .slice A J C, .slice O U Q]) x:=hx;have j6:QC (mk (a0e X b 3) wc.drew) (.agg #[.bool M, .slice B K D, .slice P V R]) y:=hy;have c7:ZC (mk (a0e X b 3) wc.drew) (.agg #[.bool L, .slice A J C]) x.num:=j4;have c8:ZC (mk (a0e X b 3) wc.drew) (.agg #[.bool M, .slice B K D]) y.num:=j7;have l4:lg x.num.natAbs<=549755813888:=Nat.le_trans (Nat.le_trans (a0w x) e.out) (by omega);have l6:lg y.num.natAbs<=549755813888:=Nat.le_trans (Nat.le_trans (a0w y) f.out) (by omega);have l3:lg x.den<=549755813888:=Nat.le_trans (Nat.le_trans (a0y x) e.out) (by omega);have l5:lg y.den<=549755813888:=Nat.le_trans (Nat.le_trans (a0y y) f.out) (by omega);have l1:lg (x.num*(y.den:Int)).natAbs<=274877906944:=by rw[Int.natAbs_mul,Int.natAbs_natCast];have:=a0P x.num.natAbs y.den;have:=a0w x;have:=a0y y;have:=e.out;have:=f.out;omega
  have l2:lg (y.num*(x.den:Int)).natAbs<=274877906944:=by rw[Int.natAbs_mul,Int.natAbs_natCast];have:=a0P y.num.natAbs x.den;have:=a0w y;have:=a0y x;have:=e.out;have:=f.out;omega
  have d7:lg (x.den*y.den)<=274877906944:=by have:=a0P x.den y.den;have:=a0y x;have:=a0y y;have:=e.out;have:=f.out;omega
  have d8:lg (x.num*y.num).natAbs<=274877906944:=by rw[Int.natAbs_mul];have:=a0P x.num.natAbs y.num.natAbs;have:=a0w x;have:=a0w y;have:=e.out;have:=f.out;omega
  have l0:0<x.den*y.den:=Nat.mul_pos x.den_pos y.den_pos;have E:=hid (And.intro j k);have T:Hid (∀W',Ext wc.drew W'->W'.cell? ⟨b,0,none⟩=some (.bool L)/\W'.cell? ⟨b,1,none⟩=some (.slice A J C)/\W'.cell? ⟨b,2,none⟩=some (.slice O U Q)/\W'.cell? ⟨b+1,0,none⟩=some (.bool M)/\W'.cell? ⟨b+1,1,none⟩=some (.slice B K D)/\W'.cell? ⟨b+1,2,none⟩=some (.slice P V R)):=
   hid fun W' h=>⟨(j.ext0 (c.trans h)).cell 0 rfl,(j.ext0 (c.trans h)).cell 1 rfl,(j.ext0 (c.trans h)).cell 2 rfl,(k.ext0 (c.trans h)).cell 0 rfl,(k.ext0 (c.trans h)).cell 1 rfl,(k.ext0 (c.trans h)).cell 2 rfl⟩
  have d9:hq x<=549755813888:=Nat.le_trans e.out (by decide);have e0:hq y<=549755813888:=Nat.le_trans f.out (by decide);have a0:lg x.num.natAbs<=274877906944:=Nat.le_trans (Nat.le_trans (a0w x) e.out) (by omega);have a8:lg y.num.natAbs<=274877906944:=Nat.le_trans (Nat.le_trans (a0w y) f.out) (by omega);have Z:lg (x.den:Int).natAbs<=274877906944:=Nat.le_trans (Nat.le_trans (a0y x) e.out) (by omega);have a7:lg (y.den:Int).natAbs<=274877906944:=Nat.le_trans (Nat.le_trans (a0y y) f.out) (by omega);have e9:lg ((x.den:Int)*(y.den:Int)).natAbs<=274877906944:=by rw[<-Int.natCast_mul,Int.natAbs_natCast];exact d7
  have e8:(x.den:Int)*(y.den:Int)≠0:=Int.mul_ne_zero (by have:=x.den_nz;omega) (by have:=y.den_nz;omega);have b5:Hid (((x.num*y.num:Int):Rat)/(((x.den:Int)*(y.den:Int):Int):Rat)=x*y):=hid (by
   rw[<-Int.natCast_mul,Rat.intCast_natCast,<-Rat.mkRat_eq_div];exact(Rat.mul_def' x y).symm)
  go_wp2_with fail
  go_region_held3 (fun w'=>w'.cell? ⟨b,0,none⟩=some (.bool L)/\w'.cell? ⟨b,1,none⟩=some (.slice A J C)/\w'.cell? ⟨b,2,none⟩=some (.slice O U Q)/\w'.cell? ⟨b+1,0,none⟩=some (.bool M)/\w'.cell? ⟨b+1,1,none⟩=some (.slice B K D)/\w'.cell? ⟨b+1,2,none⟩=some (.slice P V R))
   (first|exact T.out _ t1|exact T.out _ t2|exact T.out _ t3|exact T.out _ t4|exact T.out _ z|exact⟨((E.out.1.ext0 (c.trans z)).ext (a.set3 _ _ _).2 (a0c (by omega))).cell 0 rfl,((E.out.1.ext0 (c.trans z)).ext (a.set3 _ _ _).2 (a0c (by omega))).cell 1 rfl,((E.out.1.ext0 (c.trans z)).ext (a.set3 _ _ _).2 (a0c (by omega))).cell 2 rfl,((E.out.2.ext0 (c.trans z)).ext (a.set3 _ _ _).2 (a0c (by omega))).cell 0 rfl,((E.out.2.ext0 (c.trans z)).ext (a.set3 _ _ _).2 (a0c (by omega))).cell 1 rfl,((E.out.2.ext0 (c.trans z)).ext (a.set3 _ _ _).2 (a0c (by omega))).cell 2 rfl⟩|go_keep)
   (first|(go_at_call 121;(with_reducible refine(a8F (a0e X b 3) wc.drew _ _ x.num y.num d (c7.zv (Nat.le_trans a0 (by decide))) (c8.zv (Nat.le_trans a8 (by decide))) a0 a8).mono ?_);rintro S w5 ⟨t1,u5,rfl,i8⟩;have h9:=HX.ext d t1;have j2:=mkx QC.mono j3 t1)|(go_at_call 122;(with_reducible refine(a7S (a0e X b 3) w5 _ x h9 j2 d9).mono ?_);rintro S w6 ⟨g,u6,rfl,i9⟩;have t2:=t1.trans g;have i0:=HX.ext d t2;have j5:=mkx QC.mono j6 t2)|(go_at_call 122;(with_reducible refine(a7S (a0e X b 3) w6 _ y i0 j5 e0).mono ?_);rintro S w7 ⟨F,u7,rfl,j0⟩;have t3:=t2.trans F;have i1:=HX.ext d t3;have i7:=mkx ZC.mono i9 F)|(go_at_call 121;(with_reducible refine(a8F (a0e X b 3) w7 _ _ (x.den:Int) (y.den:Int) i1 (i7.zv (Nat.le_trans Z (by decide))) (j0.zv (Nat.le_trans a7 (by decide))) Z a7).mono ?_);rintro S w8 ⟨b3,u8,rfl,j1⟩;have t4:=t3.trans b3;have i2:=HX.ext d t4;have j8:=mkx ZC.mono i8 (g.trans (F.trans b3)))|(go_at_call 119;(with_reducible refine(a9F (a0e X b 3) w8 _ _ _ _ i2 j8 j1 d8 e9 e8).mono ?_);rintro S w9 ⟨h6,u9,rfl,H⟩;have z:=t4.trans h6;obtain⟨k7,d0,k0,e7,f3,j9,g3,rfl⟩:=H.shape;have a:=N.ext0 (c.trans z);have g0:=a.cell 0 rfl;have g1:=a.cell 1 rfl;have g2:=a.cell 2 rfl;have f0:=a.frozen 0;have f1:=a.frozen 1;have f2:=a.frozen 2))
  rw[b5.out]at H;obtain⟨r1,r2⟩:=a.set3 (.bool k7) (.slice d0 k0 e7) (.slice f3 j9 g3);have h7:=QC.mono _ _ _ _ a0h (QC.mono _ _ _ _ (a0f r2 (by omega) (by omega)) H);have h8:Ext w _:=ExtX.box (a9.trans (c.trans z)) r2 (by omega);clear g0 g1 g2 f0 f1 f2 o p q r s t T E;go_wp2_with fail
  exact bodyPost_ret (a0d rfl rfl a0k r1 rfl) rfl ⟨h8,_,rfl,h7⟩
theorem b7s(X:Nat->Bool)(w:World)(u v:Value)(x y:Rat)(hX:HX X w)(hu:QV (mk X w) u x)(hv:QV (mk X w) v y)(j6:y≠0):Calls Tryz.prog 240 #[u,v] w (a1F X w QC (x/y)):=by
 have e:=hid hu.hq;have f:=hid hv.hq;obtain⟨s1,a1,n1,c1,d1,k1,e1,rfl⟩:=hu.shape;obtain⟨s2,a2,n2,c2,d2,k2,e2,rfl⟩:=hv.shape;obtain⟨W,hW,hE,j,k,M,hz⟩:=a1P w #[.bool s1, .slice a1 n1 c1, .slice d1 k1 e1] #[.bool s2, .slice a2 n2 c2, .slice d2 k2 e2] #[.bool false, .slice none 0 0, .slice none 0 0] 41 41 41;have b4:HX (a0e X w.heap.size 3) W:=hX.boxes hz;have F:=QV.mono _ _ _ _ (a0i (nb:=3) hE) hu;have H:=QV.mono _ _ _ _ (a0i (nb:=3) hE) hv;obtain⟨b,hb⟩:∃b,w.heap.size=b:=⟨_,rfl⟩;have i5:w.heap.size<=b:=by omega
 rw[hb]at j k M hz b4 F H;have c:Ext W W.drew:=(ExtX.refl W).drew;have d:HX (a0e X b 3) W.drew:=b4;have b8:QV (mk (a0e X b 3) W.drew) (.agg #[.bool s1, .slice a1 n1 c1, .slice d1 k1 e1]) x:=F;have b9:QV (mk (a0e X b 3) W.drew) (.agg #[.bool s2, .slice a2 n2 c2, .slice d2 k2 e2]) y:=H;have o:=j.cell 0 rfl;have p:=j.cell 1 rfl;have q:=j.cell 2 rfl;have r:=k.cell 0 rfl;have s:=k.cell 1 rfl;have t:=k.cell 2 rfl;clear hu hv;go_enter Tryz.func240,Tryz.ntmps240
 go_upto_region 1 with(fail)
 go_cut []from 5 to 8 (fun V=>∃K A I C N T P L B J D O U Q,Bx V b #[.bool K, .slice A I C, .slice N T P] 41/\Bx V (b+1) #[.bool L, .slice B J D, .slice O U Q] 41/\Bx V (b+1+1) #[.bool false, .slice none 0 0, .slice none 0 0] 41/\QC (mk (a0e X b 3) V) (.agg #[.bool K, .slice A I C, .slice N T P]) x/\QC (mk (a0e X b 3) V) (.agg #[.bool L, .slice B J D, .slice O U Q]) y/\Ext w V)
 case first=>
  go_region_with (first|(go_at_call 118;(with_reducible refine(a3l (a0e X b 3) W.drew _ x d b8).mono ?_);rintro R w5 ⟨l,u5,rfl,b6⟩;obtain⟨s5,a5,n5,c5,d5,k5,e5,rfl⟩:=b6.shape;have m:=j.ext0 (c.trans l);have n:=k.ext0 (c.trans l);have f5:=m.cell 0 rfl;have f6:=m.cell 1 rfl;have f7:=m.cell 2 rfl;have f8:=n.cell 0 rfl;have f9:=n.cell 1 rfl;have g3:=n.cell 2 rfl)|(go_at_call 118;(with_reducible refine(a3l (a0e X b 3) w5 _ y (HX.ext d l) (mkx QV.mono b9 l)).mono ?_);rintro R w6 ⟨i,u6,rfl,b7⟩;obtain⟨s6,a6,n6,c6,d6,k6,e6,rfl⟩:=b7.shape;have a:=m.ext0 i;have g:=n.ext0 i;have h1:=a.cell 0 rfl;have h2:=a.cell 1 rfl;have h3:=a.cell 2 rfl;have h4:=g.cell 0 rfl;have h5:=g.cell 1 rfl;have h6:=g.cell 2 rfl;have g5:=a.frozen 0;have g6:=a.frozen 1;have g9:=a.frozen 2;have g7:=g.frozen 0;have g8:=g.frozen 1;have h0:=g.frozen 2))
  all_goals
   obtain⟨wf,c0,q0,q1,q2,q3,q4⟩:=a1H (X:=X) (nb:=3) a g (hE.trans ((c.trans l).trans i)) i5 (by omega) (.bool s5) (.slice a5 n5 c5) (.slice d5 k5 e5) (.bool s6) (.slice a6 n6 c6) (.slice d6 k6 e6);rw[c0];have i6:QC (mk (a0e X b 3) wf) (.agg #[.bool s5, .slice a5 n5 c5, .slice d5 k5 e5]) x:=QC.mono _ _ _ _ q4 (mkx QC.mono b6 i);have i7:QC (mk (a0e X b 3) wf) (.agg #[.bool s6, .slice a6 n6 c6, .slice d6 k6 e6]) y:=QC.mono _ _ _ _ q4 b7;have q5:=q2 (b+1+1) _ _ (by omega) (by omega) ((M.ext0 (c.trans l)).ext0 i);clear f5 f6 f7 f8 f9 g3 h1 h2 h3 h4 h5 h6 g5 g6 g7 g8 g9 h0 o p q r s t c0;go_wp2_with fail
   go_meet
   exact⟨_,_,_,_,_,_,_,_,_,_,_,_,_,_,q0,q1,q5,i6,i7,q3⟩
 case rest=>
  clear o p q r s t j k M F H b8 b9 d c hW;obtain⟨K,A,I,C,N,T,P,L,B,J,D,O,U,Q,j,k,M,hx,hy,a8⟩:=hcut;have c9:w.heap.size+3<=wc.heap.size:=by have:=M.lt;omega
  obtain⟨j5,m0,l0⟩:=hx.num;obtain⟨j9,m1,l1⟩:=hy.num;have i4:HX (a0e X b 3) wc:=hX.boxes' a8 (by have:=c9;omega) c9;have o:=j.cell 0 rfl;have p:=j.cell 1 rfl;have q:=j.cell 2 rfl;have r:=k.cell 0 rfl;have s:=k.cell 1 rfl;have t:=k.cell 2 rfl;have c:Ext wc wc.drew:=(ExtX.refl wc).drew;have d:HX (a0e X b 3) wc.drew:=i4;have j4:QC (mk (a0e X b 3) wc.drew) (.agg #[.bool K, .slice A I C, .slice N T P]) x:=hx;have j8:QC (mk (a0e X b 3) wc.drew) (.agg #[.bool L, .slice B J D, .slice O U Q]) y:=hy;have c7:ZC (mk (a0e X b 3) wc.drew) (.agg #[.bool K, .slice A I C]) x.num:=j5;have c8:ZC (mk (a0e X b 3) wc.drew) (.agg #[.bool L, .slice B J D]) y.num:=j9;have l5:lg x.num.natAbs<=549755813888:=Nat.le_trans (Nat.le_trans (a0w x) e.out) (by omega);have l7:lg y.num.natAbs<=549755813888:=Nat.le_trans (Nat.le_trans (a0w y) f.out) (by omega);have l4:lg x.den<=549755813888:=Nat.le_trans (Nat.le_trans (a0y x) e.out) (by omega);have l6:lg y.den<=549755813888:=Nat.le_trans (Nat.le_trans (a0y y) f.out) (by omega);have d8:lg (x.num*(y.den:Int)).natAbs<=274877906944:=by rw[Int.natAbs_mul,Int.natAbs_natCast];have:=a0P x.num.natAbs y.den;have:=a0w x;have:=a0y y;have:=e.out;have:=f.out;omega
  have d9:lg (y.num*(x.den:Int)).natAbs<=274877906944:=by rw[Int.natAbs_mul,Int.natAbs_natCast];have:=a0P y.num.natAbs x.den;have:=a0w y;have:=a0y x;have:=e.out;have:=f.out;omega
  have d7:lg (x.den*y.den)<=274877906944:=by have:=a0P x.den y.den;have:=a0y x;have:=a0y y;have:=e.out;have:=f.out;omega
  have l3:lg (x.num*y.num).natAbs<=274877906944:=by rw[Int.natAbs_mul];have:=a0P x.num.natAbs y.num.natAbs;have:=a0w x;have:=a0w y;have:=e.out;have:=f.out;omega
  have l2:0<x.den*y.den:=Nat.mul_pos x.den_pos y.den_pos;have E:=hid (And.intro j k);have S:Hid (∀W',Ext wc.drew W'->W'.cell? ⟨b,0,none⟩=some (.bool K)/\W'.cell? ⟨b,1,none⟩=some (.slice A I C)/\W'.cell? ⟨b,2,none⟩=some (.slice N T P)/\W'.cell? ⟨b+1,0,none⟩=some (.bool L)/\W'.cell? ⟨b+1,1,none⟩=some (.slice B J D)/\W'.cell? ⟨b+1,2,none⟩=some (.slice O U Q)):=
   hid fun W' h=>⟨(j.ext0 (c.trans h)).cell 0 rfl,(j.ext0 (c.trans h)).cell 1 rfl,(j.ext0 (c.trans h)).cell 2 rfl,(k.ext0 (c.trans h)).cell 0 rfl,(k.ext0 (c.trans h)).cell 1 rfl,(k.ext0 (c.trans h)).cell 2 rfl⟩
  have e0:hq x<=549755813888:=Nat.le_trans e.out (by decide);have e7:hq y<=549755813888:=Nat.le_trans f.out (by decide);have Z:lg x.num.natAbs<=274877906944:=Nat.le_trans (Nat.le_trans (a0w x) e.out) (by omega);have a7:lg y.num.natAbs<=274877906944:=Nat.le_trans (Nat.le_trans (a0w y) f.out) (by omega);have Y:lg (x.den:Int).natAbs<=274877906944:=Nat.le_trans (Nat.le_trans (a0y x) e.out) (by omega);have a0:lg (y.den:Int).natAbs<=274877906944:=Nat.le_trans (Nat.le_trans (a0y y) f.out) (by omega);have l9:lg ((x.den:Int)*(y.den:Int)).natAbs<=274877906944:=by rw[<-Int.natCast_mul,Int.natAbs_natCast];exact d7
  have l8:(x.den:Int)*(y.den:Int)≠0:=Int.mul_ne_zero (by have:=x.den_nz;omega) (by have:=y.den_nz;omega);have e9:lg ((x.den:Int)*y.num).natAbs<=274877906944:=by rw[Int.mul_comm];exact d9
  have f3:(x.den:Int)*y.num≠0:=Int.mul_ne_zero (by have:=x.den_nz;omega) (fun h=>j6 (Rat.num_eq_zero.1 h));have b5:Hid (((x.num*(y.den:Int):Int):Rat)/(((x.den:Int)*y.num:Int):Rat)=x/y):=hid (by rw[Int.mul_comm (x.den:Int)];exact b4Q x y);go_wp2_with fail
  go_region_held3 (fun w'=>w'.cell? ⟨b,0,none⟩=some (.bool K)/\w'.cell? ⟨b,1,none⟩=some (.slice A I C)/\w'.cell? ⟨b,2,none⟩=some (.slice N T P)/\w'.cell? ⟨b+1,0,none⟩=some (.bool L)/\w'.cell? ⟨b+1,1,none⟩=some (.slice B J D)/\w'.cell? ⟨b+1,2,none⟩=some (.slice O U Q))
   (first|exact S.out _ t1|exact S.out _ t2|exact S.out _ t3|exact S.out _ t4|exact S.out _ z|exact⟨((E.out.1.ext0 (c.trans z)).ext (a.set3 _ _ _).2 (a0c (by omega))).cell 0 rfl,((E.out.1.ext0 (c.trans z)).ext (a.set3 _ _ _).2 (a0c (by omega))).cell 1 rfl,((E.out.1.ext0 (c.trans z)).ext (a.set3 _ _ _).2 (a0c (by omega))).cell 2 rfl,((E.out.2.ext0 (c.trans z)).ext (a.set3 _ _ _).2 (a0c (by omega))).cell 0 rfl,((E.out.2.ext0 (c.trans z)).ext (a.set3 _ _ _).2 (a0c (by omega))).cell 1 rfl,((E.out.2.ext0 (c.trans z)).ext (a.set3 _ _ _).2 (a0c (by omega))).cell 2 rfl⟩|go_keep)
   (first|(go_at_call 122;(with_reducible refine(a7S (a0e X b 3) wc.drew _ y d j8 e7).mono ?_);rintro R w5 ⟨t1,u5,rfl,i8⟩;have i0:=HX.ext d t1;have j2:=mkx ZC.mono c7 t1)|(go_at_call 121;(with_reducible refine(a8F (a0e X b 3) w5 _ _ x.num (y.den:Int) i0 (j2.zv (Nat.le_trans Z (by decide))) (i8.zv (Nat.le_trans a0 (by decide))) Z a0).mono ?_);rintro R w6 ⟨i,u6,rfl,i9⟩;have t2:=t1.trans i;have i1:=HX.ext d t2;have j3:=mkx QC.mono j4 t2)|(go_at_call 122;(with_reducible refine(a7S (a0e X b 3) w6 _ x i1 j3 e0).mono ?_);rintro R w7 ⟨a9,u7,rfl,j0⟩;have t3:=t2.trans a9;have i2:=HX.ext d t3;have j7:=mkx ZC.mono c8 t3)|(go_at_call 121;(with_reducible refine(a8F (a0e X b 3) w7 _ _ (x.den:Int) y.num i2 (j0.zv (Nat.le_trans Y (by decide))) (j7.zv (Nat.le_trans a7 (by decide))) Y a7).mono ?_);rintro R w8 ⟨b3,u8,rfl,j1⟩;have t4:=t3.trans b3;have i3:=HX.ext d t4;have k0:=mkx ZC.mono i9 (a9.trans b3))|(go_at_call 119;(with_reducible refine(a9F (a0e X b 3) w8 _ _ _ _ i3 k0 j1 d8 e9 f3).mono ?_);rintro R w9 ⟨h8,u9,rfl,G⟩;have z:=t4.trans h8;obtain⟨k9,d0,k8,e8,f4,k7,g4,rfl⟩:=G.shape;have a:=M.ext0 (c.trans z);have g0:=a.cell 0 rfl;have g1:=a.cell 1 rfl;have g2:=a.cell 2 rfl;have f0:=a.frozen 0;have f1:=a.frozen 1;have f2:=a.frozen 2))
  rw[b5.out]at G;obtain⟨r1,r2⟩:=a.set3 (.bool k9) (.slice d0 k8 e8) (.slice f4 k7 g4);have h7:=QC.mono _ _ _ _ a0h (QC.mono _ _ _ _ (a0f r2 (by omega) (by omega)) G);have h9:Ext w _:=ExtX.box (a8.trans (c.trans z)) r2 (by omega);clear g0 g1 g2 f0 f1 f2 o p q r s t S E;go_wp2_with fail
  exact bodyPost_ret (a0d rfl rfl a0k r1 rfl) rfl ⟨h9,_,rfl,h7⟩
theorem b4R(X:Nat->Bool)(w:World)(u v:Value)(l:List Rat)(c:Rat)(hX:HX X w)(hu:RV (mk X w) u l)(hv:QV (mk X w) v c)(hl:l.length<=1000000):Calls Tryz.prog 285 #[u,v] w (a1F X w RC (l.map (· *c))):=by
 obtain⟨ao,ca,rfl,d5,d⟩:=hu;have b2:=d.hd;obtain⟨O,F,N,G,I,M,e2,rfl⟩:=hv.shape;obtain⟨W,hW,e,b0,hz⟩:=a0Q w #[.bool O, .slice F N G, .slice I M e2] 41;have a5:HX X W:=hX.ext e;have b6:=d.mono QV.mono (a0l e);have b8:=mkx QV.mono hv e;obtain⟨b,hb⟩:∃b,w.heap.size=b:=⟨_,rfl⟩;rw[hb]at b0 hz;obtain⟨L,J⟩:∃L,l.map (· *c)=L:=⟨_,rfl⟩;have a0:L.length=l.length:=by rw[<-J];simp
 have Z:=hid (show∀i (hi:i<l.length) (b3:i<L.length),L[i]=l[i]*c from fun i hi b3=>by subst J;simp);rw[J];clear J d hv;go_enter Tryz.func285,Tryz.ntmps285
 go_wp2_with fail
 go_loopw [5,6] (fun o S wr=>∃(i:Nat) (oo:Option Addr) (H:Nat),S= .int .i64 i/\o= .slice oo i H/\i<=l.length/\OL QC 3 X W.heap.size 41 wr oo H (L.take i)/\Ext W wr) (fun _ S _=>l.length - (intOf S).toNat)
 case atStart=>exact⟨0,none,0,rfl,rfl,Nat.zero_le _,OL.nil _ _ _ _ _ _,ExtX.refl _⟩
 case round=>
  obtain⟨i,oo,H,rfl,rfl,hi,g,m⟩:=hrel;have t:HX X wr:=a5.ext m;have a8:HX (un X oo) wr:=g.unX t;have a9:=m.size;by_cases z:i<l.length
  ·have b7:Sl QV 3 (mk (un X oo) wr) ao l:=b6.old QV.mono m (fun j hj=>g.ob_lt hj)
   have k:i<L.length:=by omega
   have D:=hid (a2L L i k);have b5:=hid (a3P (l:=L) (i:=i) (by omega));obtain⟨f,n,s1,P,n1,R,U,k1,e1,y,a3,x,C⟩:=b7.rat QV.shaped i z;have A:=(a1E a3).2;have B:ob oo b=false:=g.ob_lt (by omega);have i1:∀W,(Instr.indexAt 26 (.slice ao l.length ca) (.int .i64 (i:Int))).run Tryz.prog W= .ok (.pointer (some ⟨f,n,none⟩)) W:=by rw[<-y];exact a0j a0J ao l.length ca .i64 i b2 (by omega)
   have a:Ext wr wr.drew:=(ExtX.refl wr).drew;have K:Hid (∀Y W',ExtX Y wr.drew W'->Y f=false->Y b=false->W'.cell? ⟨f,n,none⟩=some (.bool s1)/\W'.cell? ⟨f,n+1,none⟩=some (.slice P n1 R)/\W'.cell? ⟨f,n+2,none⟩=some (.slice U k1 e1)/\W'.cell? ⟨b,0,none⟩=some (.bool O)/\W'.cell? ⟨b,1,none⟩=some (.slice F N G)/\W'.cell? ⟨b,2,none⟩=some (.slice I M e2)):=hid fun Y W' h hg hb=>by
    have p1:=x.out Y W' ((ExtX.of a).trans h) hg;have Q:=(b0.ext0 (m.trans a)).ext h hb;exact⟨p1.1,p1.2.1,p1.2.2,Q.cell 0 rfl,Q.cell 1 rfl,Q.cell 2 rfl⟩
   obtain⟨c4,c5,c7,c8,c9,d0⟩:=K.out noY wr.drew (ExtX.refl _) rfl rfl;have c0:QV (mk (un X oo) wr.drew) (.agg #[.bool s1, .slice P n1 R, .slice U k1 e1]) l[i]:=C;have b9:QV (mk (un X oo) wr.drew) (.agg #[.bool O, .slice F N G, .slice I M e2]) c:=a7R QV.mono b8 (m.trans a) (fun j hj=>g.ob_lt hj);have a7:HX (un X oo) wr.drew:=a8;have c3:=Z.out i z k;rw[c3]at D;clear x y C;go_wp2_with fail
   go_region_held3 (fun w'=>w'.cell? ⟨f,n,none⟩=some (.bool s1)/\w'.cell? ⟨f,n+1,none⟩=some (.slice P n1 R)/\w'.cell? ⟨f,n+2,none⟩=some (.slice U k1 e1)/\w'.cell? ⟨b,0,none⟩=some (.bool O)/\w'.cell? ⟨b,1,none⟩=some (.slice F N G)/\w'.cell? ⟨b,2,none⟩=some (.slice I M e2))
    (first|exact K.out noY _ p rfl rfl|exact K.out noY _ (ExtX.alloc p _) rfl rfl|exact K.out (ob oo) _ ((ExtX.of p).trans q) A B|go_keep)
    (first|(go_at_call 49;(with_reducible refine(b3A (un X oo) wr.drew _ _ _ c a7 c0 b9).mono ?_);rintro ee w6 ⟨p,u6,rfl,E⟩;obtain⟨s6,a6,n6,c6,d6,k6,e6,rfl⟩:=E.shape;have r:=g.ext0 QC.elem (a.trans p);have d4:=(a.trans p).size;have a4:=t.ext (a.trans p))|(refine a5q (l:=L.take i) rfl (by rfl) a0J rfl QC.elem (by omega) a4 i b5.out rfl rfl r (.agg #[.bool s6, .slice a6 n6 c6, .slice d6 k6 e6]) (l[i]*c) rfl E (by omega) (by omega) ?_;intro d3 T w7 s q d7))
   have V:=(m.trans (a.trans p)).own r (Nat.le_refl _) q;rw[D.out]at s;clear c4 c5 c7 c8 c9 d0;go_wp2_with fail
   go_roundw
   case rel=>exact⟨i+1,d3,T,by go_num,by go_num,by omega,s,V⟩
   case measure=>simp[intOf];omega
  ·have b4:i=l.length:=by omega
   subst b4;rw[List.take_of_length_le (by omega)]at g;have hc:=g.lenCap;have hs:=g.sl QC.elem;go_wp2_with fail
   go_ret
   exact⟨e.trans m,_,rfl,oo,H,by rw[a0];rfl,hc,hs⟩
theorem b8p(X:Nat->Bool)(w:World)(u v:Value)(l m:List Rat)(hX:HX X w)(hu:RV (mk X w) u l)(hv:RV (mk X w) v m)(hl:l.length<=1000000)(b7:m.length=l.length):Calls Tryz.prog 286 #[u,v] w (a1F X w RC (List.zipWith (· + ·) l m)):=by
 obtain⟨ao,ca,rfl,e0,J⟩:=hu;have b2:=J.hd;obtain⟨U,cb,rfl,e3,K⟩:=hv;have b3:=K.hd;have d7:m.length<=l.length:=by omega
 have d8:l.length<=m.length:=by omega
 obtain⟨L,Q⟩:∃L,List.zipWith (· + ·) l m=L:=⟨_,rfl⟩;have r:L.length=l.length:=by rw[<-Q];simp;omega
 have a4:=hid (show∀i (hi:i<l.length) (D:i<m.length) (b4:i<L.length),L[i]=l[i]+m[i]from fun i hi D b4=>by subst Q;simp);rw[Q];have d4:L.length<=l.length:=by omega
 have d5:l.length<=L.length:=by omega
 have s:=hid r;clear Q b7 r;go_enter Tryz.func286,Tryz.ntmps286
 go_wp2_with fail
 go_loopw [5,6] (fun o cc wr=>∃(i:Nat) (oo:Option Addr) (P:Nat),cc= .int .i64 i/\o= .slice oo i P/\i<=l.length/\OL QC 3 X w.heap.size 41 wr oo P (L.take i)/\Ext w wr) (fun _ cc _=>l.length - (intOf cc).toNat)
 case atStart=>exact⟨0,none,0,rfl,rfl,Nat.zero_le _,OL.nil _ _ _ _ _ _,ExtX.refl _⟩
 case round=>
  obtain⟨i,oo,P,rfl,rfl,hi,f,p⟩:=hrel;have y:HX X wr:=hX.ext p;have b0:HX (un X oo) wr:=f.unX y;have b1:=p.size;by_cases E:i<l.length
  ·have b8:Sl QV 3 (mk (un X oo) wr) ao l:=J.old QV.mono p (fun j D=>f.ob_lt D)
   have d:i<L.length:=by omega
   have N:=hid (a2L L i d);have b6:=hid (a3P (l:=L) (i:=i) (by omega));have e:i<m.length:=by omega
   have M:Sl QV 3 (mk (un X oo) wr) U m:=K.old QV.mono p (fun j D=>f.ob_lt D);obtain⟨c,k,s2,T,n2,Z,d2,k2,e2,C,a7,A,I⟩:=M.rat QV.shaped i e;obtain⟨b,g,s1,S,n1,V,d1,k1,e1,B,a5,z,H⟩:=b8.rat QV.shaped i E;have F:=(a1E a5).2;have G:=(a1E a7).2;have i2:∀W,(Instr.indexAt 26 (.slice U m.length cb) (.int .i64 (i:Int))).run Tryz.prog W= .ok (.pointer (some ⟨c,k,none⟩)) W:=by rw[<-C];exact a0j a0J U m.length cb .i64 i b3 (by omega)
   have i1:∀W,(Instr.indexAt 26 (.slice ao l.length ca) (.int .i64 (i:Int))).run Tryz.prog W= .ok (.pointer (some ⟨b,g,none⟩)) W:=by rw[<-B];exact a0j a0J ao l.length ca .i64 i b2 (by omega)
   have a:Ext wr wr.drew:=(ExtX.refl wr).drew;have R:Hid (∀Y W',ExtX Y wr.drew W'->Y b=false->Y c=false->W'.cell? ⟨b,g,none⟩=some (.bool s1)/\W'.cell? ⟨b,g+1,none⟩=some (.slice S n1 V)/\W'.cell? ⟨b,g+2,none⟩=some (.slice d1 k1 e1)/\W'.cell? ⟨c,k,none⟩=some (.bool s2)/\W'.cell? ⟨c,k+1,none⟩=some (.slice T n2 Z)/\W'.cell? ⟨c,k+2,none⟩=some (.slice d2 k2 e2)):=hid fun Y W' h hg hb=>by
    have p1:=z.out Y W' ((ExtX.of a).trans h) hg;have p2:=A.out Y W' ((ExtX.of a).trans h) hb;exact⟨p1.1,p1.2.1,p1.2.2,p2.1,p2.2.1,p2.2.2⟩
   obtain⟨c4,c5,c7,c8,c9,d0⟩:=R.out noY wr.drew (ExtX.refl _) rfl rfl;have c0:QV (mk (un X oo) wr.drew) (.agg #[.bool s1, .slice S n1 V, .slice d1 k1 e1]) l[i]:=H;have b9:QV (mk (un X oo) wr.drew) (.agg #[.bool s2, .slice T n2 Z, .slice d2 k2 e2]) m[i]:=I;have a9:HX (un X oo) wr.drew:=b0;have c3:=a4.out i E e d;rw[c3]at N;clear z B H A C I;go_wp2_with fail
   go_region_held3 (fun w'=>w'.cell? ⟨b,g,none⟩=some (.bool s1)/\w'.cell? ⟨b,g+1,none⟩=some (.slice S n1 V)/\w'.cell? ⟨b,g+2,none⟩=some (.slice d1 k1 e1)/\w'.cell? ⟨c,k,none⟩=some (.bool s2)/\w'.cell? ⟨c,k+1,none⟩=some (.slice T n2 Z)/\w'.cell? ⟨c,k+2,none⟩=some (.slice d2 k2 e2))
    (first|exact R.out noY _ n rfl rfl|exact R.out noY _ (ExtX.alloc n _) rfl rfl|exact R.out (ob oo) _ ((ExtX.of n).trans q) F G|go_keep)
    (first|(go_at_call 48;(with_reducible refine(b1C (un X oo) wr.drew _ _ _ _ a9 c0 b9).mono ?_);rintro ee w6 ⟨n,u6,rfl,O⟩;obtain⟨s6,a6,n6,c6,d6,k6,e6,rfl⟩:=O.shape;have t:=f.ext0 QC.elem (a.trans n);have d9:=(a.trans n).size;have a8:=y.ext (a.trans n))|(refine a5q (l:=L.take i) rfl (by rfl) a0J rfl QC.elem (by omega) a8 i b6.out rfl rfl t (.agg #[.bool s6, .slice a6 n6 c6, .slice d6 k6 e6]) (l[i]+m[i]) rfl O (by omega) (by omega) ?_;intro d3 a0 w7 x q e4))
   have a3:=(p.trans (a.trans n)).own t (Nat.le_refl _) q;rw[N.out]at x;clear c4 c5 c7 c8 c9 d0;go_wp2_with fail
   go_roundw
   case rel=>exact⟨i+1,d3,a0,by go_num,by go_num,by omega,x,a3⟩
   case measure=>simp[intOf];omega
  ·have b5:i=l.length:=by omega
   subst b5;rw[List.take_of_length_le (by omega)]at f;have hc:=f.lenCap;have hs:=f.sl QC.elem;go_wp2_with fail
   go_ret
   exact⟨p,_,rfl,oo,P,by rw[s.out];rfl,hc,hs⟩
theorem b8q(X:Nat->Bool)(w:World)(u v:Value)(x y:Rat)(hX:HX X w)(z:QV (mk X w) u x)(A:QV (mk X w) v y):Calls Tryz.prog 116 #[u,v] w (a1F X w QC (x - y)):=by
 have a4:=hid z.hq;have N:=hid A.hq;obtain⟨F,o,D,q,s,B,e1,rfl⟩:=z.shape;obtain⟨G,p,E,r,t,C,e2,rfl⟩:=A.shape;obtain⟨W,hW,I,e,f,b2,hz⟩:=a1P w #[.bool F, .slice o D q, .slice s B e1] #[.bool G, .slice p E r, .slice t C e2] #[.bool false, .slice none 0 0, .slice none 0 0] 41 41 41;have j:HX (a0e X w.heap.size 3) W:=hX.boxes hz;have m:=QV.mono _ _ _ _ (a0i (nb:=3) I) z;have n:=QV.mono _ _ _ _ (a0i (nb:=3) I) A;obtain⟨b,hb⟩:∃b,w.heap.size=b:=⟨_,rfl⟩;have a3:w.heap.size<=b:=by omega
 rw[hb]at e f b2 hz j m n;have a:Ext W W.drew:=(ExtX.refl W).drew;have k:HX (a0e X b 3) W.drew:=j;have Q:QV (mk (a0e X b 3) W.drew) (.agg #[.bool F, .slice o D q, .slice s B e1]) x:=m;have R:QV (mk (a0e X b 3) W.drew) (.agg #[.bool G, .slice p E r, .slice t C e2]) y:=n;have T:=e.cell 0 rfl;have U:=e.cell 1 rfl;have V:=e.cell 2 rfl;have Y:=f.cell 0 rfl;have Z:=f.cell 1 rfl;have a0:=f.cell 2 rfl;clear z A;have g:=hid (And.intro e f);have L:Hid (∀W',Ext W.drew W'->W'.cell? ⟨b,0,none⟩=some (.bool F)/\W'.cell? ⟨b,1,none⟩=some (.slice o D q)/\W'.cell? ⟨b,2,none⟩=some (.slice s B e1)/\W'.cell? ⟨b+1,0,none⟩=some (.bool G)/\W'.cell? ⟨b+1,1,none⟩=some (.slice p E r)/\W'.cell? ⟨b+1,2,none⟩=some (.slice t C e2)):=
  hid fun W' h=>⟨(e.ext0 (a.trans h)).cell 0 rfl,(e.ext0 (a.trans h)).cell 1 rfl,(e.ext0 (a.trans h)).cell 2 rfl,(f.ext0 (a.trans h)).cell 0 rfl,(f.ext0 (a.trans h)).cell 1 rfl,(f.ext0 (a.trans h)).cell 2 rfl⟩
 have O:=hid (show hq (-y)<=68719476736 by rw[a3j];exact N.out);have l:Hid (x+ -y=x - y):=hid (Rat.sub_eq_add_neg x y).symm;go_enter Tryz.func116,Tryz.ntmps116
 go_upto_region 1 with(fail)
 go_region_held3 (fun w'=>w'.cell? ⟨b,0,none⟩=some (.bool F)/\w'.cell? ⟨b,1,none⟩=some (.slice o D q)/\w'.cell? ⟨b,2,none⟩=some (.slice s B e1)/\w'.cell? ⟨b+1,0,none⟩=some (.bool G)/\w'.cell? ⟨b+1,1,none⟩=some (.slice p E r)/\w'.cell? ⟨b+1,2,none⟩=some (.slice t C e2))
  (first|exact L.out _ H|exact L.out _ d|exact⟨((g.out.1.ext0 (a.trans d)).ext (c.set3 _ _ _).2 (a0c (by omega))).cell 0 rfl,((g.out.1.ext0 (a.trans d)).ext (c.set3 _ _ _).2 (a0c (by omega))).cell 1 rfl,((g.out.1.ext0 (a.trans d)).ext (c.set3 _ _ _).2 (a0c (by omega))).cell 2 rfl,((g.out.2.ext0 (a.trans d)).ext (c.set3 _ _ _).2 (a0c (by omega))).cell 0 rfl,((g.out.2.ext0 (a.trans d)).ext (c.set3 _ _ _).2 (a0c (by omega))).cell 1 rfl,((g.out.2.ext0 (a.trans d)).ext (c.set3 _ _ _).2 (a0c (by omega))).cell 2 rfl⟩|go_keep)
  (first|(go_at_call 56;(with_reducible refine(b0u (a0e X b 3) W.drew _ y k R).mono ?_);rintro ee w5 ⟨H,u5,rfl,P⟩;have M:=HX.ext k H;have S:=mkx QV.mono Q H)|(go_at_call 48;(with_reducible refine(b1C (a0e X b 3) w5 _ _ x (-y) M S (P.qv O.out)).mono ?_);rintro ee w6 ⟨J,u6,rfl,i⟩;obtain⟨s6,a6,n6,c6,d6,k6,e6,rfl⟩:=i.shape;have d:=H.trans J;have c:=b2.ext0 (a.trans d);have g0:=c.cell 0 rfl;have g1:=c.cell 1 rfl;have g2:=c.cell 2 rfl;have f0:=c.frozen 0;have f1:=c.frozen 1;have f2:=c.frozen 2))
 rw[l.out]at i;obtain⟨q1,q2⟩:=c.set3 (.bool s6) (.slice a6 n6 c6) (.slice d6 k6 e6);have h7:=QC.mono _ _ _ _ a0h (QC.mono _ _ _ _ (a0f q2 (by omega) (by omega)) i);have K:Ext w _:=ExtX.box (I.trans (a.trans d)) q2 (by omega);clear g0 g1 g2 f0 f1 f2 T U V Y Z a0 L g;go_wp2_with fail
 exact bodyPost_ret (a0d rfl rfl a0k q1 rfl) rfl ⟨K,_,rfl,h7⟩
theorem a5W(X:Nat->Bool)(w:World)(u v:Value)(x y:Rat)(P:HX X w)(l:QV (mk X w) u x)(m:QV (mk X w) v y)(c:hq (x - y)<=68719476736):Calls Tryz.prog 41 #[u,v] w (a2y w (x - y).num.sign):=by
 have T:=hid l.hq;have U:=hid m.hq;obtain⟨M,C,K,E,G,I,e1,rfl⟩:=l.shape;obtain⟨N,D,L,F,H,J,e2,rfl⟩:=m.shape;obtain⟨W,hW,n,j,k,hz⟩:=a1a w #[.bool M, .slice C K E, .slice G I e1] #[.bool N, .slice D L F, .slice H J e2] 41 41;have a:HX (a0e X w.heap.size 2) W:=P.boxes hz;have f:=QV.mono _ _ _ _ (a0i (nb:=2) n) l;have h:=QV.mono _ _ _ _ (a0i (nb:=2) n) m;obtain⟨b,R⟩:∃b,w.heap.size=b:=⟨_,rfl⟩;have S:w.heap.size<=b:=by omega
 rw[R]at j k hz a f h;have O:Ext W W.drew:=(ExtX.refl W).drew;have Q:HX (a0e X b 2) W.drew:=a;have V:QV (mk (a0e X b 2) W.drew) (.agg #[.bool M, .slice C K E, .slice G I e1]) x:=f;have Y:QV (mk (a0e X b 2) W.drew) (.agg #[.bool N, .slice D L F, .slice H J e2]) y:=h;have r:=j.cell 0 rfl;have s:=j.cell 1 rfl;have t:=j.cell 2 rfl;have z:=k.cell 0 rfl;have A:=k.cell 1 rfl;have B:=k.cell 2 rfl;clear l m
 replace c:=hid c
 obtain⟨q,d⟩:∃q:Rat,x - y=q:=⟨_,rfl⟩;rw[d]at c |-;have p:=hid d;clear d;go_enter Tryz.func41,Tryz.ntmps41
 go_wp2_with fail
 refine(b8q (a0e X b 2) W _ _ x y a f h).mono ?_;rintro e Z ⟨i,u5,rfl,g⟩;rw[p.out]at g;obtain⟨s5,a5,n5,c5,d5,k5,e5,rfl⟩:=g.shape;clear r s t z A B;go_wp2_with fail
 refine(a5V (a0e X b 2) Z _ q (a.ext i) (g.qv c.out)).mono ?_;rintro e w6 ⟨o,rfl⟩;go_wp2_with fail
 go_ret
 exact⟨n.trans (i.trans o),rfl⟩
theorem a4X(X:Nat->Bool)(w:World)(a k:Int)(z:HX X w)(o: -9223372036854775808<=a)(p:a<=9223372036854775807)(q: -9223372036854775808<=k)(r:k<=9223372036854775807)(t:k≠0)(s:lg a.natAbs<=274877906944)(i:lg k.natAbs<=274877906944):Calls Tryz.prog 68 #[.int .i64 a, .int .i64 k] w (a1F X w QC ((a:Rat)/(k:Rat))):=by
 obtain⟨W,I,y,n,hz⟩:=a0Q w #[.bool false, .slice none 0 0, .slice none 0 0] 41;have f:HX (a0e X w.heap.size 1) W:=z.boxes hz;obtain⟨b,A⟩:∃b,w.heap.size=b:=⟨_,rfl⟩;have B:w.heap.size<=b:=by omega
 rw[A]at n hz f;have e:=hid (And.intro (And.intro o p) (And.intro (And.intro q r) (And.intro t (And.intro s i))));clear o p q r t s i;go_enter Tryz.func68,Tryz.ntmps68
 go_wp2_with fail
 refine(b1w (a0e X b 1) W a f e.out.1.1 e.out.1.2).mono ?_;rintro e1 w1 ⟨d,M,rfl,l⟩;have h:=f.ext d;go_wp2_with fail
 refine(b1w (a0e X b 1) w1 k h e.out.2.1.1 e.out.2.1.2).mono ?_;rintro e2 D ⟨c,N,rfl,m⟩;go_wp2_with fail
 refine(a9F (a0e X b 1) D _ _ a k (h.ext c) (mkx ZC.mono l c) m e.out.2.2.2.1 e.out.2.2.2.2 e.out.2.2.1).mono ?_;rintro H P ⟨g,O,rfl,j⟩;obtain⟨L,E,K,F,G,J,e5,rfl⟩:=j.shape;have v:=((n.ext0 d).ext0 c).ext0 g;go_wp2_with ((with_reducible show wpList _ _ _ (⟨_, .store _ _ _,_,_,_,_⟩::_) _ _);refine a0a a0k rfl rfl v rfl rfl (a1n _ _ _ _ _ _ _) ?_;intro Q C u)
 have x:=QC.mono _ _ _ _ a0h (QC.mono _ _ _ _ (a0f u (by omega) (by omega)) j);exact bodyPost_ret (a0d rfl rfl a0k C rfl) rfl ⟨ExtX.box (y.trans (d.trans (c.trans g))) u (by omega),_,rfl,x⟩
open Go.Lin
def b8r(X:Nat->Bool)(w:World)(l:List (List Rat))(e:Ending)(w':World):Prop:=Ext w w'/\∃oo co,e= .returned (.slice oo l.length co)/\OL RC 1 X w.heap.size 26 w' oo co l
theorem b5V(X:Nat->Bool)(w:World)(u:Value)(l:List (List Rat))(Q:HX X w)(Y:MV (mk X w) u l)(hl:l.length<=1000000)(p:∀r∈l,r.length<=1000000):Calls Tryz.prog 284 #[u] w (b8r X w l):=by
 obtain⟨ao,Z,rfl,T,s⟩:=Y;have U:=s.hd;have q:=hid p;clear p;go_enter Tryz.func284,Tryz.ntmps284
 go_wp2_with fail
 go_loopw [3,4] (fun o c wr=>∃(i:Nat) (oo:Option Addr) (t:Nat),c= .int .i64 i/\o= .slice oo i t/\i<=l.length/\OL RC 1 X w.heap.size 26 wr oo t (l.take i)/\Ext w wr) (fun _ c _=>l.length - (intOf c).toNat)
 case atStart=>exact⟨0,none,0,rfl,rfl,Nat.zero_le _,OL.nil _ _ _ _ _ _,ExtX.refl _⟩
 case round=>
  obtain⟨i,oo,t,rfl,rfl,hi,d,b⟩:=hrel;have h:HX X wr:=Q.ext b;have z:HX (un X oo) wr:=d.unX h;have A:=b.size;by_cases n:i<l.length
  ·have H:Sl RV 1 (mk (un X oo) wr) ao l:=s.old RV.mono b (fun j V=>d.ob_lt V)
   have I:=hid (a2L l i n);have D:=hid (a3P hi);obtain⟨O,P,R,B,k,F⟩:=H.row i n;have K:=B.out noY wr (ExtX.refl _) rfl;have E:=hid (q.out l[i] (List.getElem_mem _));go_wp2_with (with_reducible refine a0m a0q (by omega) (by assumption) ?_)
   refine(b0t (un X oo) wr _ l[i] z ⟨O,P,rfl,k,F⟩ E.out).mono ?_;rintro e w6 ⟨a,u6,rfl,J⟩;obtain⟨M,N,rfl,m,G⟩:=J;have f:=d.ext0 RC.elem a;have S:=a.size;clear K;go_wp2_with (at_builtin;refine a0H (l:=l.take i) a0q rfl RC.elem (by omega) (h.ext a) i D.out rfl rfl f (.slice M l[i].length N) l[i] rfl ⟨M,N,rfl,m,G⟩ (by omega) (by omega) ?_;intro L v w7 g x W)
   have y:=(b.trans a).own f (Nat.le_refl _) x;rw[I.out]at g;go_roundw
   case rel=>exact⟨i+1,L,v,by go_num,by go_num,by omega,g,y⟩
   case measure=>simp[intOf];omega
  ·have C:i=l.length:=by omega
   subst C;rw[List.take_length]at d;go_wp2_with fail
   go_ret
   exact⟨b,oo,t,rfl,d⟩
end Go.Proofs.YtnnpfhoigmegcaaGreat
namespace Go.Lin
def a1o{α:Type}(m:List (List α)):Bool:=decide (m.length<=96)&&m.all fun r=>decide (1<=r.length/\r.length<=96/\r.length=(m.getD 0 []).length)
def a0n{α:Type}(m:List (List α)):Nat:=(m.getD 0 []).length
theorem a1w{α:Type}{m:List (List α)}:a1o m=true↔m.length<=96/\∀i (hi:i<m.length),1<=m[i].length/\m[i].length<=96/\m[i].length=a0n m:=by
 unfold a1o a0n;rw[Bool.and_eq_true,decide_eq_true_eq,List.all_eq_true];constructor
 ·rintro ⟨a,b⟩
  exact⟨a,fun i hi=>by simpa using b _ (List.getElem_mem hi)⟩
 ·rintro ⟨a,b⟩
  refine⟨a,fun r c=>?_⟩;obtain⟨i,hi,rfl⟩:=List.getElem_of_mem c;simpa using b i hi
theorem a4D{α:Type}{m:List (List α)}(i:Nat)(hi:i<m.length)(h:¬(1<=m[i].length/\m[i].length<=96/\m[i].length=a0n m)):false=a1o m:=by
 symm;cases a:a1o m
 ·rfl
 ·exact absurd ((a1w.1 a).2 i hi) h
theorem a1x{α:Type}{m:List (List α)}(h:0<m.length):a0n m=m[0].length:=by simp[a0n,List.getD_eq_getElem?_getD,h]
theorem a1V{m:List (List Rat)}(h:a1o m=true):Shp m.length (a0n m) m/\m.length<=96/\a0n m<=96/\(0<m.length->1<=a0n m)/\(m.length=0->a0n m=0):=by
 have b:=a1w.1 h;refine⟨⟨rfl,fun r c=>?_⟩,b.1,?_,fun a=>?_,fun a=>?_⟩
 ·obtain⟨i,hi,rfl⟩:=List.getElem_of_mem c
  exact(b.2 i hi).2.2
 ·by_cases a:0<m.length
  ·have:=b.2 0 a;omega
  ·have:m= []:=List.eq_nil_of_length_eq_zero (by omega)
   subst this;simp[a0n]
 ·have:=b.2 0 a;omega
 ·have:m= []:=List.eq_nil_of_length_eq_zero a
  subst this;rfl
end Go.Lin
namespace Go.Proofs.YtnnpfhoigmegcaaGreat
open Go.RowKit Go.Rep Go.Lim Go.Lin
theorem a4f{R:Mem->Value->Rat->Prop}(X:Nat->Bool)(w:World)(u:Value)(m:List (List Rat))(l:SlV (SlV R 3) 1 (mk X w) u m):Calls Tryz.prog 281 #[u] w (fun e w'=>w'=w/\e= .returned (.int .i64 (a0n m:Int))):=by
 obtain⟨ao,q,rfl,i,a⟩:=l;have j:=a.hd;by_cases h:0<m.length
 ·obtain⟨o,p,g,c,d,k⟩:=a.row 0 h
  have n:=c.out noY w (ExtX.refl _) rfl;have b:=hid (a1x h);have f:((m.length:Int)==0)=false:=a2v (by omega);go_enter Tryz.func281,Tryz.ntmps281
  go_wp2_with (with_reducible refine a0m a0q (by omega) (by assumption) ?_)
  go_ret
  exact⟨rfl,a0I (by rw[b.out])⟩
 ·have b:Hid (a0n m=0):=hid (by
   have:m= []:=List.eq_nil_of_length_eq_zero (by omega);subst this;rfl)
  have f:((m.length:Int)==0)=true:=b3h (by omega);go_enter Tryz.func281,Tryz.ntmps281
  go_wp2_with (with_reducible refine a0m a0q (by omega) (by assumption) ?_)
  go_ret
  exact⟨rfl,a0I (by rw[b.out];rfl)⟩
theorem a6D{R:Mem->Value->Rat->Prop}(X:Nat->Bool)(w:World)(u:Value)(m:List (List Rat))(O:SlV (SlV R 3) 1 (mk X w) u m)(W:m.length<=1099511627776):Calls Tryz.prog 269 #[u] w (fun e w'=>w'=w/\e= .returned (.bool (a1o m))):=by
 obtain⟨ao,V,rfl,L,g⟩:=O;have N:=g.hd;by_cases H:96<m.length
 ·have b:Hid (false=a1o m):=hid (by
   symm;cases M:a1o m
   ·rfl
   ·have:=(a1w.1 M).1;omega)
  have I:(96:Int)<(m.length:Int):=by omega
  go_enter Tryz.func269,Tryz.ntmps269
  go_wp2_with fail
  go_ret
  exact⟨rfl,a0p b.out⟩
 ·have I:¬(96:Int)<(m.length:Int):=by omega
  go_enter Tryz.func269,Tryz.ntmps269
  go_wp2_with fail
  go_loop [10] (fun c=>∃(i:Nat),c= .int .i64 i/\i<=m.length/\Hid (∀q,q<i->∀hq:q<m.length,1<=m[q].length/\m[q].length<=96/\m[q].length=a0n m)) (fun c=>m.length - (intOf c).toNat)
  case atStart=>exact⟨0,rfl,Nat.zero_le _,fun q hq=>by omega⟩
  case round=>
   obtain⟨i,rfl,hi,r⟩:=hrel;by_cases p:i<m.length
   ·have D:0<m.length:=by omega
    obtain⟨Q,T,J,k,n,v⟩:=g.row i p;obtain⟨S,U,K,l,o,z⟩:=g.row 0 D;have C:=k.out noY w (ExtX.refl _) rfl;have t:=l.out noY w (ExtX.refl _) rfl;have f:=a1x D;have a:=hid (a4D i p);rw[<-f]at t;obtain⟨x,hx⟩:∃x,m[i].length=x:=⟨_,rfl⟩;obtain⟨y,B⟩:∃y,a0n m=y:=⟨_,rfl⟩;rw[hx]at C a;rw[B]at t a;have A:Hid (1<=x/\x<=96/\x=y->∀hq:i<m.length,1<=m[i].length/\m[i].length<=96/\m[i].length=a0n m):=hid fun h hq=>by rw[hx,B];exact h
    clear hx B f k l v z n o;by_cases d:x=0
    ·have E:((x:Int)==0)=true:=b3h (by omega)
     have b:=hid (a.out (by omega));clear d;go_wp2_with (with_reducible refine a0m a0q (by omega) (by assumption) ?_)
     go_ret
     exact⟨rfl,a0p b.out⟩
    ·have E:((x:Int)==0)=false:=a2v (by omega)
     by_cases P:96<x
     ·have F:(96:Int)<(x:Int):=by omega
      have b:=hid (a.out (by omega));clear d;go_wp2_with (with_reducible refine a0m a0q (by omega) (by assumption) ?_)
      go_ret
      exact⟨rfl,a0p b.out⟩
     ·have F:¬(96:Int)<(x:Int):=by omega
      by_cases j:x=y
      ·have G:((x:Int) !=(y:Int))=false:=b2N (by omega)
       have s:=hid (A.out ⟨by omega,by omega,j⟩);clear d j;go_wp2_with (with_reducible refine a0m a0q (by omega) (by assumption) ?_)
       go_round
       case rel=>exact⟨i+1,by go_num,by omega,a4r r.out s.out⟩
       case measure=>simp[intOf];omega
      ·have G:((x:Int) !=(y:Int))=true:=a7B (by omega)
       have b:=hid (a.out (by omega));clear d j;go_wp2_with (with_reducible refine a0m a0q (by omega) (by assumption) ?_)
       go_ret
       exact⟨rfl,a0p b.out⟩
   ·have b:Hid (true=a1o m):=hid (by
     symm;exact a1w.2 ⟨by omega,fun q hq=>r.out q (by omega) hq⟩)
    go_wp2_with fail
    go_ret
    exact⟨rfl,a0p b.out⟩
end Go.Proofs.YtnnpfhoigmegcaaGreat
namespace Go.Rep
open Go.RowKit Go.Lim
abbrev Hdr:=Option Addr×Nat×Nat
def HdR:Mem->Value->Hdr->Prop:=fun _ u x=>u= .slice x.1 x.2.1 x.2.2
theorem HdR.elem:Elem HdR 1:=⟨fun _ _ _ _ _ h=>h,by rintro h u x rfl;rfl,by
 rintro h u x rfl c a;simp[a0g,Value.cells]at a;subst a;rfl,Nat.one_pos⟩
theorem HdR.one:a2Y HdR:=by rintro h u x rfl;rfl
theorem HdR.pure:∀h a u x,HdR h u x->HdR a u x:=fun _ _ _ _ h=>h
theorem OL.frame{α:Type}{R:Mem->Value->α->Prop}{sz:Nat}{X:Nat->Bool}{base:Nat}{e:TypeId}{w w':World}{ao:Option Addr}{cap:Nat}{l:List α}(f:∀h o u x,R h u x->R o u x){Y Z:Nat->Bool}(h:OL R sz X base e w ao cap l)(z:ExtX Y w w')(A:∀k,ob ao k=true->Y k=false)(B:∀k,ob ao k=true->Z k=false):OL R sz Z base e w' ao cap l:=by
 have C:=fun k (a:ob ao k=true)=>h.block a;obtain⟨hx,us,p,q,d,n,s⟩:=h;refine⟨B,us,p,q,d,?_,fun i hi j=>f _ _ _ _ (s i hi j)⟩;refine⟨n.1,?_⟩;rcases n.2 with r|⟨g,c,b,m,t,v,y⟩
 ·exact .inl r
 ·refine .inr ⟨g,c,b,m,t,?_,y⟩
  simp at m;obtain⟨rfl,rfl⟩:=m;have a:ob (some ⟨g,0,none⟩) g=true:=by simp[ob]
  rw[z.block g (C g a).2 (A g a),v]
def cut(Z:Nat->Bool)(ao:Option Addr):Nat->Bool:=fun k=>Z k&& !ob ao k
theorem a9G{Z:Nat->Bool}{ao:Option Addr}(h:∀k,ob ao k=true->Z k=true):un (cut Z ao) ao=Z:=by
 funext k
 have:=h k;unfold un cut;cases a:ob ao k<;>cases hz:Z k<;>simp_all
theorem b1D{Z:Nat->Bool}{ao:Option Addr}{k:Nat}(h:cut Z ao k=true):Z k=true/\ob ao k=false:=by simpa[cut]using h
theorem a5t{Z:Nat->Bool}{ao:Option Addr}{k:Nat}(h:Z k=true)(a:ob ao k=false):cut Z ao k=true:=by simp[cut,h,a]
def obs(hs:List Hdr):Nat->Bool:=fun k=>hs.any fun h=>ob h.1 k
theorem a1s{hs:List Hdr}{i:Nat}(hi:i<hs.length){k:Nat}(h:ob hs[i].1 k=true):obs hs k=true:=by
 unfold obs;rw[List.any_eq_true];exact⟨_,List.getElem_mem hi,h⟩
theorem a4E{hs:List Hdr}{k:Nat}(h:obs hs k=true):∃i,∃hi:i<hs.length,ob hs[i].1 k=true:=by
 unfold obs at h;rw[List.any_eq_true]at h;obtain⟨x,hx,a⟩:=h;obtain⟨i,hi,rfl⟩:=List.getElem_of_mem hx;exact⟨i,hi,a⟩
def mz(X:Nat->Bool)(ao:Option Addr)(hs:List Hdr):Nat->Bool:=fun k=>X k||ob ao k||obs hs k
def mb(ao:Option Addr)(hs:List Hdr):Nat->Bool:=fun k=>ob ao k||obs hs k
theorem a2h{X:Nat->Bool}{ao:Option Addr}{hs:List Hdr}{k:Nat}:mz X ao hs k=true↔X k=true\/ob ao k=true\/obs hs k=true:=by simp[mz,or_assoc]
theorem a2M{ao:Option Addr}{hs:List Hdr}{k:Nat}:mb ao hs k=true↔ob ao k=true\/obs hs k=true:=by simp[mb]
structure MO (X:Nat->Bool) (base:Nat) (e1 e2:TypeId) (w:World) (ao:Option Addr) (cap:Nat) (hs:List Hdr) (m:List (List Rat)):Prop where
 outer:OL HdR 1 X base e1 w ao cap hs
 len:hs.length=m.length
 rlen:∀i (hi:i<hs.length) (hi':i<m.length),hs[i].2.1=m[i].length
 row:∀i (hi:i<hs.length) (hi':i<m.length),OL QC 3 (cut (mz X ao hs) hs[i].1) base e2 w hs[i].1 hs[i].2.2 m[i]
 sep:∀i (hi:i<hs.length) k,ob hs[i].1 k=true->X k=false/\ob ao k=false
 dis:∀i j (hi:i<hs.length) (hj:j<hs.length),i≠j->∀k,ob hs[i].1 k=true->ob hs[j].1 k=false
section
variable {X:Nat->Bool} {base:Nat} {e1 e2:TypeId} {w w':World} {ao:Option Addr} {cap:Nat} {hs:List Hdr} {m:List (List Rat)}
theorem MO.out_sep(h:MO X base e1 e2 w ao cap hs m){k:Nat}(a:ob ao k=true):X k=false/\obs hs k=false:=by
 refine⟨h.outer.1 k a,?_⟩;cases c:obs hs k
 ·rfl
 ·obtain⟨i,hi,b⟩:=a4E c
  have:=(h.sep i hi k b).2;rw[a]at this;simp at this
theorem MO.obs_sep(h:MO X base e1 e2 w ao cap hs m){k:Nat}(b:obs hs k=true):X k=false/\ob ao k=false:=by
 obtain⟨i,hi,a⟩:=a4E b;exact h.sep i hi k a
theorem MO.mb_X(h:MO X base e1 e2 w ao cap hs m){k:Nat}(b:mb ao hs k=true):X k=false:=by
 rcases a2M.1 b with a|a
 ·exact(h.out_sep a).1
 ·exact(h.obs_sep a).1
theorem MO.mb_block(h:MO X base e1 e2 w ao cap hs m){k:Nat}(c:mb ao hs k=true):base<=k/\k<w.heap.size:=by
 rcases a2M.1 c with a|a
 ·exact h.outer.block a
 ·obtain⟨i,hi,b⟩:=a4E a
  exact(h.row i hi (by have:=h.len;omega)).block b
theorem MO.mz_sub(_:MO X base e1 e2 w ao cap hs m){i:Nat}(hi:i<hs.length)(k:Nat)(a:ob hs[i].1 k=true):mz X ao hs k=true:=a2h.2 (.inr (.inr (a1s hi a)))
theorem MO.hz(h:MO X base e1 e2 w ao cap hs m)(b:HX X w):HX (mz X ao hs) w:=fun k c=>by
 rcases a2h.1 c with a|a
 ·exact b k a
 ·exact(h.mb_block (a2M.2 a)).2
theorem MO.ext(h:MO X base e1 e2 w ao cap hs m){Y X':Nat->Bool}(n:ExtX Y w w')(e:∀k,k<w.heap.size->Y k=true->X k=true)(g:∀k,k<w.heap.size->X' k=true->X k=true):MO X' base e1 e2 w' ao cap hs m:=by
 have d:∀k,mb ao hs k=true->X' k=false:=fun k b=>by
  cases j:X' k
  ·rfl
  ·have:=g k (h.mb_block b).2 j;rw[h.mb_X b]at this;simp at this
 have f:∀k,mb ao hs k=true->Y k=false:=fun k b=>by
  cases j:Y k
  ·rfl
  ·have:=e k (h.mb_block b).2 j;rw[h.mb_X b]at this;simp at this
 refine⟨h.outer.ext HdR.elem n e g,h.len,h.rlen,fun i hi l=>?_,fun i hi k b=>⟨d k (a2M.2 (.inr (a1s hi b))),(h.sep i hi k b).2⟩,h.dis⟩;refine(h.row i hi l).ext QC.elem n (fun k b c=>a5t (a2h.2 (.inl (e k b c))) ?_) (fun k b c=>?_)
 ·cases q:ob hs[i].1 k
  ·rfl
  ·have:=f k (a2M.2 (.inr (a1s hi q)));rw[c]at this;simp at this
 ·obtain⟨o,p⟩:=b1D c
  refine a5t (a2h.2 ?_) p;rcases a2h.1 o with a|a
  ·exact .inl (g k b a)
  ·exact .inr a
theorem MO.ext0(h:MO X base e1 e2 w ao cap hs m)(a:Ext w w'):MO X base e1 e2 w' ao cap hs m:=
 h.ext a (fun k _ b=>by simp[noY]at b) (fun _ _ h=>h)
theorem MO.upd(h:MO X base e1 e2 w ao cap hs m){i:Nat}(hi:i<hs.length){l:List Rat}(d:ExtX (ob hs[i].1) w w')(n:∀g:i<m.length,l.length=m[i].length)(o:OL QC 3 (cut (mz X ao hs) hs[i].1) base e2 w' hs[i].1 hs[i].2.2 l):MO X base e1 e2 w' ao cap hs (m.set i l):=by
 refine⟨h.outer.frame HdR.pure d (fun k b=>?_) h.outer.1,by rw[List.length_set];exact h.len,fun j c a=>?_,fun j c a=>?_,h.sep,h.dis⟩
 ·cases f:ob hs[i].1 k
  ·rfl
  ·have:=(h.sep i hi k f).2;rw[b]at this;simp at this
 ·rw[List.getElem_set]
  split
  ·subst_vars;rw[n (by have:=h.len;omega)];exact h.rlen _ c (by have:=h.len;omega)
  ·exact h.rlen j c (by simpa using a)
 ·rw[List.getElem_set]
  split
  ·subst_vars;exact o
  ·rename_i e
   exact(h.row j c (by simpa using a)).ext QC.elem d (fun k _ b=>a5t (h.mz_sub hi k b) (h.dis i j hi c e k b)) (fun _ _ b=>b)
theorem MO.perm(h:MO X base e1 e2 w ao cap hs m){b:List Hdr}{s:List (List Rat)}(f:Nat->Nat)(n:∀i,i<hs.length->f i<hs.length)(p:∀i j,i<hs.length->j<hs.length->f i=f j->i=j)(l:∀i,i<hs.length->∃j,j<hs.length/\f j=i)(C:b.length=hs.length)(A:s.length=m.length)(g:∀i (hi:i<b.length) (d:f i<hs.length),b[i]=hs[f i])(x:∀i (hi:i<s.length) (d:f i<m.length),s[i]=m[f i])(y:ExtX (ob ao) w w')(B:OL HdR 1 X base e1 w' ao cap b):MO X base e1 e2 w' ao cap b s:=by
 have v:=h.len;have q:∀k,obs b k=true↔obs hs k=true:=fun k=>by
  constructor
  ·intro c
   obtain⟨i,hi,r⟩:=a4E c;have a:=n i (by omega);rw[g i hi a]at r;exact a1s a r
  ·intro c
   obtain⟨i,hi,r⟩:=a4E c;obtain⟨j,u,rfl⟩:=l i hi;refine a1s (i:=j) (by omega) ?_;rw[g j (by omega) hi];exact r
 have hz:mz X ao b=mz X ao hs:=by
  funext k
  rw[Bool.eq_iff_iff,a2h,a2h,q]
 refine⟨B,by omega,fun i hi d=>?_,fun i hi d=>?_,fun i hi k c=>?_,fun i j hi u t k c=>?_⟩
 ·have a:=n i (by omega)
  rw[g i hi a,x i d (by omega)];exact h.rlen _ a (by omega)
 ·have a:=n i (by omega)
  rw[hz,g i hi a,x i d (by omega)];exact(h.row _ a (by omega)).ext QC.elem y (fun k _ c=>a5t (a2h.2 (.inr (.inl c))) (by
   cases z:ob hs[f i].1 k
   ·rfl
   ·have:=(h.sep _ a k z).2;rw[c]at this;simp at this)) (fun _ _ c=>c)
 ·have a:=n i (by omega)
  rw[g i hi a]at c;exact h.sep _ a k c
 ·have a:=n i (by omega)
  have o:=n j (by omega);rw[g i hi a]at c;rw[g j u o];exact h.dis _ _ a o (fun e=>t (p i j (by omega) (by omega) e)) k c
theorem MO.put(h:MO X base e1 e2 w ao cap hs m){i:Nat}(hi:i<hs.length)(G:hs[i].1=none){a:Option Addr}{c:Nat}{l:List Rat}{w1:World}(B:Ext w w1)(n:∀k,ob a k=true->w.heap.size<=k)(I:OL QC 3 (mz X ao hs) base e2 w1 a c l)(F:HX X w)(E:ExtX (ob ao) w1 w')(H:OL HdR 1 X base e1 w' ao cap (hs.set i (a,l.length,c))):MO X base e1 e2 w' ao cap (hs.set i (a,l.length,c)) (m.set i l):=by
 have u:=h.len;have A:ExtX (ob ao) w w':=(ExtX.of B).trans E;have x:∀k,obs (hs.set i (a,l.length,c)) k=true↔obs hs k=true\/ob a k=true:=fun k=>by
  constructor
  ·intro b
   obtain⟨j,f,d⟩:=a4E b;rw[List.getElem_set]at d;split at d
   ·exact .inr d
   ·exact .inl (a1s (by simpa using f) d)
  ·rintro (b|b)
   ·obtain⟨j,f,d⟩:=a4E b
    refine a1s (i:=j) (by simpa using f) ?_;rw[List.getElem_set];split
    ·subst_vars;rw[G]at d;simp[ob]at d
    ·exact d
   ·refine a1s (i:=i) (by simpa using hi) ?_
    rw[List.getElem_set];simpa using b
 have v:∀k,mz X ao (hs.set i (a,l.length,c)) k=true↔mz X ao hs k=true\/ob a k=true:=fun k=>by
  rw[a2h,a2h,x];constructor
  ·rintro (h|h|h|h)
   ·exact .inl (.inl h)
   ·exact .inl (.inr (.inl h))
   ·exact .inl (.inr (.inr h))
   ·exact .inr h
  ·rintro ((h|h|h)|h)
   ·exact .inl h
   ·exact .inr (.inl h)
   ·exact .inr (.inr (.inl h))
   ·exact .inr (.inr (.inr h))
 have o:∀k,mb ao hs k=true->ob a k=false:=fun k b=>by
  cases p:ob a k
  ·rfl
  ·have:=n k p;have:=(h.mb_block b).2;omega
 have t:∀k,ob a k=true->ob ao k=false:=fun k b=>by
  cases p:ob ao k
  ·rfl
  ·have:=o k (a2M.2 (.inl p));rw[b]at this;simp at this
 refine⟨H,by simp[u],fun j f s=>?_,fun j f s=>?_,fun j f k b=>?_,fun j q f hq D k b=>?_⟩
 ·rw[List.getElem_set,List.getElem_set]
  split
  ·rfl
  ·exact h.rlen j (by simpa using f) (by simpa using s)
 ·have g:j<hs.length:=by simpa using f
  have C:j<m.length:=by simpa using s
  by_cases e:i=j
  ·subst e
   simp only[List.getElem_set_self];refine I.ext QC.elem E (fun k _ b=>a2h.2 (.inr (.inl b))) (fun k b hz=>?_);obtain⟨z,d⟩:=b1D hz;rcases(v k).1 z with r|r
   ·exact r
   ·rw[d]at r;simp at r
  ·simp only[List.getElem_set_ne e]
   refine(h.row j g C).ext QC.elem A (fun k _ b=>a5t (a2h.2 (.inr (.inl b))) ?_) (fun k b hz=>?_)
   ·cases p:ob hs[j].1 k
    ·rfl
    ·have:=(h.sep j g k p).2;rw[b]at this;simp at this
   ·obtain⟨z,d⟩:=b1D hz
    rcases(v k).1 z with r|r
    ·exact a5t r d
    ·have:=n k r;omega
 ·rw[List.getElem_set]at b
  split at b
  ·exact⟨by
    cases p:X k
    ·rfl
    ·have:=F k p;have:=n k b;omega,t k b⟩
  ·exact h.sep j (by simpa using f) k b
 ·have g:j<hs.length:=by simpa using f
  have y:q<hs.length:=by simpa using hq
  rw[List.getElem_set]at b |-;split at b
  ·rw[if_neg (by omega)]
   cases p:ob hs[q].1 k
   ·rfl
   ·have:=o k (a2M.2 (.inr (a1s y p)));dsimp only at b;rw[b]at this;simp at this
  ·split
   ·exact o k (a2M.2 (.inr (a1s g b)))
   ·exact h.dis j q g y D k b
theorem MO.hdr(h:MO X base e1 e2 w ao cap hs m)(i:Nat)(hi:i<hs.length):w.cell? (adr ao i)=some (.slice hs[i].1 hs[i].2.1 hs[i].2.2)/\w.frozen? (adr ao i)=false:=by
 obtain⟨u,a,b,rfl⟩:=h.outer.cell HdR.one i hi;exact⟨a,b⟩
theorem MO.rowS(h:MO X base e1 e2 w ao cap hs m){i:Nat}(hi:i<hs.length)(a:i<m.length):Sl QC 3 (_root_.Go.Rep.mk (cut (mz X ao hs) hs[i].1) w) hs[i].1 m[i]:=(h.row i hi a).sl QC.elem
theorem MO.rowX(h:MO X base e1 e2 w ao cap hs m){i:Nat}(hi:i<hs.length)(a:i<m.length):Sl QC 3 (_root_.Go.Rep.mk X w) hs[i].1 m[i]:=(h.rowS hi a).mono QC.mono (a1N fun k _ b=>a5t (a2h.2 (.inl b)) (by
 cases c:ob hs[i].1 k
 ·rfl
 ·have:=(h.sep i hi k c).1;rw[b]at this;simp at this))
theorem MO.capLen(h:MO X base e1 e2 w ao cap hs m):m.length<=cap:=by rw[<-h.len];exact h.outer.lenCap
theorem MO.mc(h:MO X base e1 e2 w ao cap hs m):MC (_root_.Go.Rep.mk X w) (.slice ao m.length cap) m:=by
 have f:=h.len;refine⟨ao,cap,rfl,h.capLen,fun g=>?_,fun i hi=>?_⟩
 ·have:=h.outer.hd;rw[f]at this;exact this g
 ·obtain⟨c,_⟩:=h.hdr i (by omega)
  have k:=h.rowX (i:=i) (by omega) hi;refine⟨.slice hs[i].1 hs[i].2.1 hs[i].2.2,rfl,fun j e=>?_,?_⟩
  ·have a:j=0:=by simp[Value.cells]at e;omega
   subst a;unfold _root_.Go.Rep.mk;have d:X (adr ao (i*1+0)).block=false:=by
    obtain⟨b,l,rfl⟩:=h.outer.hd (by omega);exact h.outer.1 _ (by simp[ob,adr])
   rw[d];simpa[Value.cells]using c
  ·rw[h.rlen i (by omega) hi]
   exact⟨_,_,rfl,by have:=(h.row i (by omega) hi).lenCap;exact this,k⟩
theorem MO.start{n:Nat}(d:OL HdR 1 X base e1 w ao cap (List.replicate n (none,0,0)))(e2:TypeId):MO X base e1 e2 w ao cap (List.replicate n (none,0,0)) (List.replicate n []):=by
 refine⟨d,by simp,fun i hi a=>by simp,fun i hi a=>?_,fun i hi k b=>?_,fun i j hi e c k b=>?_⟩
 ·simp only[List.getElem_replicate];exact OL.nil _ _ _ _ _ _
 ·simp[ob]at b
 ·simp[ob]at b
end
end Go.Rep
namespace Go.Rep
open Go.RowKit Go.Lim
section
variable {P:Program} {α:Type} {R:Mem->Value->α->Prop} {X:Nat->Bool} {base:Nat} {e:TypeId} {w:World} {ao:Option Addr} {cap:Nat} {l:List α}
theorem OL.cell3(h:OL R 3 X base e w ao cap l)(i:Nat)(hi:i<l.length){g o:Nat}(hg:adr ao (i*3)=⟨g,o,none⟩):∃u v0 v1 v2,a0g u= [v0,v1,v2]/\(w.cell? ⟨g,o,none⟩=some v0/\w.frozen? ⟨g,o,none⟩=false)/\(w.cell? ⟨g,o+1,none⟩=some v1/\w.frozen? ⟨g,o+1,none⟩=false)/\(w.cell? ⟨g,o+2,none⟩=some v2/\w.frozen? ⟨g,o+2,none⟩=false)/\R (mk (un X ao) w) u l[i]:=by
 obtain⟨us,h1,h2,_,h3,h5⟩:=h.cells;have hi':i<us.length:=by omega
 have hsz:us[i].cells.size=3:=h2 _ (List.getElem_mem _);have hlen:(a0g us[i]).length=3:=by simp[a0g,hsz]
 obtain⟨v0,v1,v2,hv⟩:∃v0 v1 v2,a0g us[i]= [v0,v1,v2]:=by
  match hc:a0g us[i],hlen with
  | [a,b,c],_=>exact⟨a,b,c,rfl⟩
 have ha:∀j,adr ao (i*3+j)=⟨g,o+j,none⟩:=fun j=>by rw[<-a7c,hg,Addr.add_lit]
 have key:∀j v,j<3->(a0g us[i])[j]? =some v->w.cell? ⟨g,o+j,none⟩=some v/\w.frozen? ⟨g,o+j,none⟩=false:=fun j v hj hjv=>by
  have hget:=a2x us i j hi' h2 hj;rw[hjv]at hget;have:=h3 _ _ hget;rwa[ha]at this
 exact⟨us[i],v0,v1,v2,hv,key 0 v0 (by omega) (by rw[hv];rfl),key 1 v1 (by omega) (by rw[hv];rfl),key 2 v2 (by omega) (by rw[hv];rfl),h5 i hi' hi⟩
theorem a4Y{P:Program}{w:World}{a:Addr}{u v:Value}(b:v.oneCell'=true)(c:w.cell? a=some u)(d:w.frozen? a=false):(store a v).run P w= .ok () (w.setCell a v):=by
 rw[run_store P w a v _ b,c];simp[d]
theorem OL.set3{t:TypeId}(E:TyI P t 3)(d:Elem R 3)(h:OL R 3 X base e w ao cap l)(i:Nat)(hi:i<l.length){g o:Nat}(f:adr ao (i*3)=⟨g,o,none⟩){v0 v1 v2:Value}{x:α}(k:R (mk (un X ao) w) (.agg #[v0,v1,v2]) x):OL R 3 X base e (((w.setCell ⟨g,o,none⟩ v0).setCell ⟨g,o+1,none⟩ v1).setCell ⟨g,o+2,none⟩ v2) ao cap (l.set i x)/\ExtX (ob ao) w (((w.setCell ⟨g,o,none⟩ v0).setCell ⟨g,o+1,none⟩ v1).setCell ⟨g,o+2,none⟩ v2):=by
 obtain⟨ti,j,b⟩:=E;obtain⟨_,M,r,s,_,⟨z,u⟩,⟨A,v⟩,⟨B,y⟩,_⟩:=h.cell3 i hi f;obtain⟨w',c,C,D⟩:=h.run_store (P:=P) j b d i hi _ x k;have a:=d.one _ _ _ k;rw[f]at c;have G:v0.oneCell'=true:=a v0 (by simp[a0g,Value.cells]);have H:v1.oneCell'=true:=a v1 (by simp[a0g,Value.cells]);have I:v2.oneCell'=true:=a v2 (by simp[a0g,Value.cells]);have m:(w.setCell ⟨g,o,none⟩ v0).cell? ⟨g,o+1,none⟩=some r:=by rw[World.cell?_setCell_other (h:=by simp)];exact A
 have n:((w.setCell ⟨g,o,none⟩ v0).setCell ⟨g,o+1,none⟩ v1).cell? ⟨g,o+2,none⟩=some s:=by rw[World.cell?_setCell_other (h:=by simp),World.cell?_setCell_other (h:=by simp)];exact B
 have p:(w.setCell ⟨g,o,none⟩ v0).frozen? ⟨g,o+1,none⟩=false:=by rw[World.frozen?_setCell];exact v
 have q:((w.setCell ⟨g,o,none⟩ v0).setCell ⟨g,o+1,none⟩ v1).frozen? ⟨g,o+2,none⟩=false:=by rw[World.frozen?_setCell,World.frozen?_setCell];exact y
 have F:w'=((w.setCell ⟨g,o,none⟩ v0).setCell ⟨g,o+1,none⟩ v1).setCell ⟨g,o+2,none⟩ v2:=by
  have J:=a4Y (P:=P) G z u;have K:=a4Y (P:=P) H m p;have L:=a4Y (P:=P) I n q;simp[storeVar,sizeOf,typeInfo,j,b,Value.cells,storeCells,Addr.add_lit,J,K,L]at c;exact c.symm
 subst F;exact⟨C,D⟩
end
section
variable {X:Nat->Bool} {base:Nat} {e1 e2:TypeId} {w w':World} {ao:Option Addr} {cap:Nat} {hs:List Hdr} {m:List (List Rat)}
theorem MO.old{α:Type}{R:Mem->Value->α->Prop}(f:a2X R){u:Value}{x:α}{d:Nat->Bool}{b:World}(h:MO X base e1 e2 w ao cap hs m)(i:R (_root_.Go.Rep.mk d b) u x)(e:Ext b w)(j:b.heap.size<=base)(g:∀k,k<b.heap.size->X k=true->d k=true):R (_root_.Go.Rep.mk (mz X ao hs) w) u x:=
 f _ _ _ _ (a0T e (fun k _ c=>by simp[noY]at c) fun k c hz=>by
  rcases a2h.1 hz with a|a
  ·exact g k c a
  ·have:=(h.mb_block (a2M.2 a)).1;omega) i
theorem MO.less{α:Type}{R:Mem->Value->α->Prop}(a:a2X R){u:Value}{x:α}(_:MO X base e1 e2 w ao cap hs m)(c:R (_root_.Go.Rep.mk (mz X ao hs) w) u x):R (_root_.Go.Rep.mk X w) u x:=
 a _ _ _ _ (a1N fun _ _ b=>a2h.2 (.inl b)) c
theorem MO.ext_from{b:World}(h:MO X base e1 e2 w ao cap hs m)(c:Ext b w)(e:b.heap.size<=base)(a:ExtX (mb ao hs) w w'):Ext b w':=
 c.then_ a fun i hi _=>by
  cases d:mb ao hs i
  ·rfl
  ·have:=(h.mb_block d).1;omega
theorem b5W{ao:Option Addr}{hs:List Hdr}{k:Nat}(h:mb ao hs k=false):ob ao k=false/\∀i (hi:i<hs.length),ob hs[i].1 k=false:=by
 refine⟨?_,fun i hi=>?_⟩
 ·cases a:ob ao k
  ·rfl
  ·rw[a2M.2 (.inl a)]at h;simp at h
 ·cases a:ob hs[i].1 k
  ·rfl
  ·rw[a2M.2 (.inr (a1s hi a))]at h;simp at h
theorem ExtX.row{i:Nat}(hi:i<hs.length)(h:ExtX (ob hs[i].1) w w'):ExtX (mb ao hs) w w':=h.weaken fun _ _ a=>(b5W a).2 i hi
theorem ExtX.outer(h:ExtX (ob ao) w w'):ExtX (mb ao hs) w w':=h.weaken fun _ _ a=>(b5W a).1
theorem b1E{hs a:List Hdr}(h:∀k,obs hs k=obs a k):mb ao hs=mb ao a/\mz X ao hs=mz X ao a:=by
 constructor<;>(funext k;simp[mb,mz,h])
def b8S(X:Nat->Bool)(e1 e2:TypeId)(w:World)(m:List (List Rat))(e:Ending)(w':World):Prop:=Ext w w'/\∃ao cap hs,e= .returned (.slice ao m.length cap)/\MO X w.heap.size e1 e2 w' ao cap hs m
end
end Go.Rep
namespace Go.Proofs.YtnnpfhoigmegcaaGreat
open Go.RowKit Go.Rep Go.Lim Go.Lin
theorem b3B{α:Type}(r i:Nat)(z:α)(x:α)(hi:i<r):((List.range r).map fun q=>if q<i then z else x).set i z=(List.range r).map fun q=>if q<i+1 then z else x:=by
 refine List.ext_getElem (by simp) fun q b c=>?_;simp at b;rw[List.getElem_set];simp only[List.getElem_map,List.getElem_range];split
 ·subst_vars;simp
 ·by_cases a:q<i
  ·simp[a,show q<i+1 by omega]
  ·simp[a,show¬q<i+1 by omega]
theorem a4F{α:Type}(r:Nat)(z x:α):((List.range r).map fun q=>if q<0 then z else x)=List.replicate r x:=by
 refine List.ext_getElem (by simp) fun q a b=>by simp
theorem b1F{α:Type}(r:Nat)(z x:α):((List.range r).map fun q=>if q<r then z else x)=List.replicate r z:=by
 refine List.ext_getElem (by simp) fun q a b=>?_;simp at a;simp[a]
theorem b3C(X:Nat->Bool)(w:World)(r c:Nat)(E:HX X w)(M:r<=1000)(L:c<=1000):Calls Tryz.prog 302 #[.int .i64 (r:Int), .int .i64 (c:Int)] w (b8S X 26 41 w (List.replicate r (List.replicate c 0))):=by
 go_enter Tryz.func302,Tryz.ntmps302
 go_wp2_with ((with_reducible show wpList _ _ _ (⟨_, .makeSlice _ _ _,_,_,_,_⟩::_) _ _);refine a1G (R:=HdR) a0q HdR.elem (none,0,0) (fun _=>rfl) X E w.heap.size (Nat.le_refl _) r rfl rfl rfl (by omega) (by omega) ?_;intro ao w1 e v)
 have j:=MO.start e 41;have H:=e.hd;simp only[List.length_replicate]at H;have D:List.replicate r ([]:List Rat)=(List.range r).map fun q=>if q<0 then List.replicate c 0 else[]:=(a4F r _ _).symm
 rw[D]at j;clear e D;go_loopw [11] (fun k wr=>∃(i:Nat) (hs:List Hdr),k= .int .i64 i/\i<=r/\Hid (∀q (hq:q<hs.length),i<=q->hs[q].1=none)/\MO X w.heap.size 26 41 wr ao r hs ((List.range r).map fun q=>if q<i then List.replicate c 0 else[])/\Ext w wr) (fun k _=>r - (intOf k).toNat)
 case atStart=>exact⟨0,_,rfl,Nat.zero_le _,hid (fun q hq _=>by simp),j,v⟩
 case round=>
  obtain⟨i,hs,rfl,hi,a,d,u⟩:=hrel;have o:HX X wr:=E.ext u;have z:=d.hz o;have p:=hid d.len;have B:Hid (((List.range r).map fun q=>if q<i then List.replicate c (0:Rat)else[]).length=r):=hid (by simp);by_cases s:i<r
  ·have f:i<hs.length:=by rw[p.out,B.out];exact s
   have C:=hid (b3B r i (List.replicate c (0:Rat)) [] s);have J:=a.out i f (Nat.le_refl _);go_wp2_with (first|(with_reducible refine a0m a0q (by omega) (by assumption) ?_)|((with_reducible show wpList _ _ _ (⟨_, .makeSlice _ _ _,_,_,_,_⟩::_) _ _);refine a1G (R:=QC) a0J QC.elem (0:Rat) (fun _=>QC.zero _) (mz X ao hs) z wr.heap.size (Nat.le_refl _) c rfl rfl rfl (by omega) (by omega) ?_;intro t N n b)|((with_reducible show wpList _ _ _ (⟨_, .store _ _ _,_,_,_,_⟩::_) _ _);refine a1t a3G HdR.elem i rfl (by simp) (d.outer.ext0 HdR.elem b) f (.slice t c c) (t,c,c) rfl rfl ?_;intro K y h))
   have m:=d.put (l:=List.replicate c 0) f J b (fun k F=>(n.block F).1) (n.base_le u.size) o h (by simpa using y);rw[C.out]at m;have x:Ext w K:=(u.trans b).then_ h fun k F _=>by
    cases G:ob ao k
    ·rfl
    ·have:=(d.outer.block G).1;omega
   have g:Hid (∀q (hq:q<(hs.set i (t,(List.replicate c (0:Rat)).length,c)).length),i+1<=q->(hs.set i (t,(List.replicate c (0:Rat)).length,c))[q].1=none):=hid fun q hq I=>by
    rw[List.getElem_set_ne (by omega)];exact a.out q (by simpa using hq) (by omega)
   go_roundw
   case rel=>exact⟨i+1,_,by go_num,by omega,g,m,x⟩
   case measure=>simp[intOf];omega
  ·have A:i=r:=by omega
   subst A;rw[b1F]at d;go_wp2_with fail
   go_ret
   exact⟨u,ao,i,hs,by simp,d⟩
end Go.Proofs.YtnnpfhoigmegcaaGreat
