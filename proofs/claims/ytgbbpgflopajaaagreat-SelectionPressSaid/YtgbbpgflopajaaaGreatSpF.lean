/- Parts of a proof: each theorem states what it proves, and its conditions. -/
import Derived.Test.YtgbbpgflopajaaaGreatSpE
set_option maxRecDepth 100000
set_option maxHeartbeats 1600000
namespace Go.Proofs.YtgbbpgflopajaaaGreat
open Go.RowKit Go.Rep Go.Lim
theorem b0H(z k:Int)(b:0<k):((z:Rat)/(k:Rat)).num=z/(Nat.gcd z.natAbs k.natAbs:Nat)/\(((z:Rat)/(k:Rat)).den:Int)=k/(Nat.gcd z.natAbs k.natAbs:Nat):=by
 have h:=b6Y z k b;have a:k.natAbs≠0:=by omega
 rw[<-h,Rat.num_mkRat,Rat.den_mkRat];rw[if_neg a,if_neg a,Nat.gcd_comm k.natAbs];refine⟨rfl,?_⟩;rw[Int.natCast_ediv]
 congr 1
 omega
theorem b0I(X:Nat->Bool)(w:World)(u v:Value)(x y:Int)(hX:HX X w)(hu:ZC (mk X w) u x)(hv:ZC (mk X w) v y)(hx:lg x.natAbs<=274877906944)(hy:lg y.natAbs<=274877906944)(h4:y≠0):Calls Tryz.prog 81 #[u,v] w (a1Y X w QC ((x:Rat)/(y:Rat))):=by
 have i7:=hid hx;have i8:=hid hy;obtain⟨s1,a1,n1,c1,rfl⟩:=hu.shape;obtain⟨s2,a2,n2,c2,rfl⟩:=hv.shape;obtain⟨W,hW,hE,b0,b1,b2,hz⟩:=a2C w #[.bool s1, .slice a1 n1 c1] #[.bool s2, .slice a2 n2 c2] #[.bool false, .slice none 0 0, .slice none 0 0] 36 36 38;have f7:HX (a0e X w.heap.size 3) W:=hX.boxes hz;have g9:=ZC.mono _ _ _ _ (a0l (nb:=3) hE) hu;have h3:=ZC.mono _ _ _ _ (a0l (nb:=3) hE) hv;obtain⟨b,hb⟩:∃b,w.heap.size=b:=⟨_,rfl⟩;have l1:w.heap.size<=b:=by omega
 rw[hb]at b0 b1 b2 hz f7 g9 h3;have i9:=h3.zv (Nat.le_trans hy (by decide));have m4:=g9.zv (Nat.le_trans hx (by decide));have s:=b0.cell 0 rfl;have t:=b0.cell 1 rfl;have A:=b1.cell 0 rfl;have B:=b1.cell 1 rfl;have h0:0<y\/y<0:=by omega
 obtain⟨q,d1⟩:∃q:Rat,(x:Rat)/(y:Rat)=q:=⟨_,rfl⟩;rw[d1];clear hu hv hx hy;go_enter Tryz.func81,Tryz.ntmps81
 go_wp2_with fail
 refine(b6T (a0e X b 3) W _ _ f7 i9).mono ?_;rintro e w5 ⟨p,rfl⟩;have f5:=b0.ext0 p;have f6:=b1.ext0 p;have h9:=b2.ext0 p;clear s t A B;rcases h0 with h0|h0
 ·have k8:decide (y.sign<0)=false:=by rw[Int.sign_eq_one_of_pos h0];rfl
  have hk:Hid (0<y):=hid h0;generalize y.sign=n3 at*;have d8:=mkx ZC.mono g9 p;have d6:=mkx ZC.mono h3 p;have b9:=f7.ext p;have a9:=hE.trans p;clear h0 h4;generalize m0:s1=sz at*;generalize l0:a1=az at*;generalize l8:n1=nz at*;generalize l3:c1=cz at*;generalize l9:s2=sk at*;generalize k9:a2=ak at*;generalize l7:n2=nk at*;generalize l2:c2=ck at*;generalize n6:w5=ws at*;generalize m6:x=z at*;generalize m7:y=k at*;have G:=f5;have H:=f6;have a8:=h9;have I:=i7;have l:=i8;have M:=hid d1;clear d1;have s:=G.cell 0 rfl;have t:=G.cell 1 rfl;have A:=H.cell 0 rfl;have B:=H.cell 1 rfl;have c4:=hid (Nat.gcd_pos_of_pos_right z.natAbs (show 0<k.natAbs by have:=hk.out;omega));have c7:=hid (show((Nat.gcd z.natAbs k.natAbs:Nat):Int)∣z from Int.ofNat_dvd_left.2 (Nat.gcd_dvd_left _ _));have c0:=hid (show((Nat.gcd z.natAbs k.natAbs:Nat):Int)∣k from Int.ofNat_dvd_left.2 (Nat.gcd_dvd_right _ _));have c3:=hid (show lg (Nat.gcd z.natAbs k.natAbs)<=274877906944 from Nat.le_trans (a1n (Nat.gcd_le_right _ (by have:=hk.out;omega))) l.out);have j:=hid (b0H z k hk.out);obtain⟨g,hg⟩:∃g,Nat.gcd z.natAbs k.natAbs=g:=⟨_,rfl⟩;rw[hg]at c4 c7 c0 c3 j
  replace hg:=hid hg
  go_wp2_with fail
  refine(b9Q (a0e X b 3) ws _ _ _ _ b9 (d8.zv (Nat.le_trans I.out (by decide))) (d6.zv (Nat.le_trans l.out (by decide))) I.out l.out).mono ?_;rintro e6 w6 ⟨n,ug,rfl,d2⟩;rw[hg.out]at d2;obtain⟨ag,cg,e2,rfl,g1,g2,g3⟩:=d2;have bg:=Bx.new w6 #[.bool false, .slice none 0 0] 36;have g6:=b9.ext n;clear s t A B;go_wp2_with ((with_reducible show wpList _ _ _ (⟨_, .store _ _ _,_,_,_,_⟩::_) _ _);refine a0a a0H rfl rfl bg rfl rfl (a3c _ _ _ _) ?_;intro w7 r1 r2;have m:Ext w6 w7:=ExtX.box ((ExtX.refl w6).alloc _) r2 (Nat.le_refl _);have t7:=n.trans m;have s:=(G.ext0 t7).cell 0 rfl;have t:=(G.ext0 t7).cell 1 rfl;have a0:=r1.cell 0 rfl;have a3:=r1.cell 1 rfl)
  have b8:=(g6.ext m);have N:ZC (mk (a0e X b 3) w7) (.agg #[.bool false, .slice ag e2.length cg]) (g:Int):=NC.zc (NC.mono _ _ _ _ (a0m m) ⟨ag,cg,e2,rfl,g1,g2,g3⟩);have h5:=mkx ZC.mono d8 t7;have h:Hid (lg ((g:Int)).natAbs<=274877906944):=hid (by rw[Int.natAbs_natCast];exact c3.out);have L:Hid ((0:Int)<(g:Int)):=hid (by have:=c4.out;omega);refine(b4Z (a0e X b 3) w7 _ _ z g b8 (h5.zv (Nat.le_trans I.out (by decide))) (N.zv (Nat.le_trans h.out (by decide))) I.out h.out L.out c7.out).mono ?_;rintro e8 w8 ⟨J,up,sv,av,nv,cv,rfl,d3⟩;obtain⟨sp,ap,np,cp,rfl⟩:=d3.shape;obtain⟨W8,g5,b5,bp,br,m8⟩:=a1x w8 #[.bool false, .slice none 0 0] #[.bool false, .slice none 0 0] 36 36;subst g5;clear s t a0 a3;go_wp2_with ((with_reducible show wpList _ _ _ (⟨_, .store _ _ _,_,_,_,_⟩::_) _ _);first|(refine a0a a0H rfl rfl bp rfl rfl (a3c _ _ _ _) ?_;intro w9 p1 p2;have F:=br.ext p2 (a0b (by omega)))|(refine a0a a0H rfl rfl F rfl rfl (a3c _ _ _ _) ?_;intro f2 p3 p4;have d:Ext w8 f2:=ExtX.box (ExtX.box b5 p2 (Nat.le_refl _)) p4 (by omega);have D:=t7.trans (J.trans d);have A:=(H.ext0 D).cell 0 rfl;have B:=(H.ext0 D).cell 1 rfl;have e9:=r1.ext0 (J.trans d);have a0:=e9.cell 0 rfl;have a3:=e9.cell 1 rfl;have e3:=p1.ext p4 (a0b (by omega))))
  have r:=mkx ZC.mono d3 d;have b7:=(b8.ext J).ext d;have c8:=mkx ZC.mono d6 D;have U:=mkx ZC.mono (mkx ZC.mono N J) d;refine(b4Z (a0e X b 3) f2 _ _ k g b7 (c8.zv (Nat.le_trans l.out (by decide))) (U.zv (Nat.le_trans h.out (by decide))) l.out h.out L.out c0.out).mono ?_;rintro f9 E ⟨a,uq,n4,j4,m9,j5,rfl,d4⟩;obtain⟨sq,aq,nq,cq,rfl⟩:=d4.shape;obtain⟨j3,b6,O,bq,f8,j1⟩:=a1x E #[.bool false, .slice none 0 0] #[.bool false, .slice none 0 0] 36 36;subst b6;clear A B a0 a3 F br;go_wp2_with ((with_reducible show wpList _ _ _ (⟨_, .store _ _ _,_,_,_,_⟩::_) _ _);first|(refine a0a a0H rfl rfl bq rfl rfl (a3c _ _ _ _) ?_;intro n5 p5 p6;have F:=f8.ext p6 (a0b (by omega)))|(refine a0a a0H rfl rfl F rfl rfl (a3c _ _ _ _) ?_;intro K p7 p8;have f:Ext E K:=ExtX.box (ExtX.box O p6 (Nat.le_refl _)) p8 (by omega);have f0:=D.trans (a.trans f);have C:=p5.ext p8 (a0b (by omega));have h6:=C.cell 0 rfl;have e1:=C.cell 1 rfl;have g0:=C.frozen 0;have g4:=C.frozen 1;have e4:=e3.ext0 (a.trans f);have d9:=e4.cell 0 rfl;have e0:=e4.cell 1 rfl))
  have Z:=mkx ZC.mono d4 f;have V:=mkx ZC.mono (mkx ZC.mono r a) f;have d0:=Z.mag;have g7:Hid (lg (k/(g:Int)).natAbs<=1099511627776):=hid (by
   have h1:=j.out.2;have:(k/(g:Int)).natAbs<=k.natAbs:=by
    have:=Int.natAbs_ediv_le_natAbs k (g:Int);exact this
   exact Nat.le_trans (a1n this) (Nat.le_trans l.out (by decide)))
  have b3:=a8.ext0 f0;have Q:=a9.trans f0;refine(b5e _ _ _ _ d0 g7.out).mono ?_;rintro j9 c ⟨rfl,rfl⟩;have c9:Hid ((q.den:Int)=k/(g:Int)):=hid (by rw[<-M.out];exact j.out.2);have d7:Hid (q.num=z/(g:Int)):=hid (by rw[<-M.out];exact j.out.1);by_cases h1:(k/(g:Int)).natAbs=1
  ·have R:Hid (dn q=0):=hid ((a4e q).2 (by have:=c9.out;have:=q.den_pos;omega))
   rw[decide_eq_true h1];clear h1;go_upto_region 8 with(fail)
   obtain⟨m1,m2⟩:=a0P C (.slice none 0 0) (i:=1) (by simp);obtain⟨c,d5⟩:∃c,K.setCell ⟨E.heap.size,1,none⟩ (.slice none 0 0)=c:=⟨_,rfl⟩;rw[d5]at m1 m2 |-;have o:Ext E c:=ExtX.box f m2 (Nat.le_refl _);have f1:=D.trans (a.trans o);have b4:=a8.ext0 f1;have e7:=e3.ext0 (a.trans o);clear d9 e0 h6 e1 g0 g4;have d9:c.cell? ⟨w8.heap.size,0,none⟩=some (.bool sp):=e7.cell 0 rfl;have e0:c.cell? ⟨w8.heap.size,1,none⟩=some (.slice ap np cp):=e7.cell 1 rfl;have e1:c.cell? ⟨E.heap.size,1,none⟩=some (.slice none 0 0):=m1.cell 1 rfl;have Y:=mkx ZC.mono (mkx ZC.mono r a) o;go_wp2_with ((with_reducible show wpList _ _ _ (⟨_, .store _ _ _,_,_,_,_⟩::_) _ _);refine a0a a0o rfl rfl b4 rfl rfl (a1z _ _ _ _ _ _ _) ?_;intro h8 r3 r4)
   have T:ZC (mk (a0e X b 3) c) (.agg #[.bool sp, .slice ap np cp]) q.num:=by rw[d7.out];exact Y
   have S:NC (mk (a0e X b 3) c) (.slice none 0 0) (dn q):=by rw[R.out];exact NC.zero _
   have h7:=QC.mono _ _ _ _ a0k (QC.mono _ _ _ _ (a0g r4 (by omega) (by omega)) (QC.of T S));exact bodyPost_ret (a0d rfl rfl a0o r3 rfl) rfl ⟨ExtX.box (a9.trans f1) r4 (by omega),_,rfl,h7⟩
  ·have R:Hid (dn q=(k/(g:Int)).natAbs):=hid (by
    have h2:=c9.out;unfold dn;rw[if_neg (by omega)];omega)
   rw[decide_eq_false h1];clear h1;go_wp2_with ((with_reducible show wpList _ _ _ (⟨_, .store _ _ _,_,_,_,_⟩::_) _ _);refine a0a a0o rfl rfl b3 rfl rfl (a1z _ _ _ _ _ _ _) ?_;intro h8 r3 r4)
   have T:ZC (mk (a0e X b 3) K) (.agg #[.bool sp, .slice ap np cp]) q.num:=by rw[d7.out];exact V
   have S:NC (mk (a0e X b 3) K) (.slice aq nq cq) (dn q):=by rw[R.out];exact d0
   have h7:=QC.mono _ _ _ _ a0k (QC.mono _ _ _ _ (a0g r4 (by omega) (by omega)) (QC.of T S));exact bodyPost_ret (a0d rfl rfl a0o r3 rfl) rfl ⟨ExtX.box Q r4 (by omega),_,rfl,h7⟩
 ·have k8:decide (y.sign<0)=true:=by rw[Int.sign_eq_neg_one_of_neg h0];rfl
  have l4:Hid (0< -y):=hid (by omega);generalize y.sign=n3 at*;have P:Ext w5 w5.drew:=(ExtX.refl w5).drew;have i6:HX (a0e X b 3) w5.drew:=HX.ext (HX.ext f7 p) P;have m3:ZV (mk (a0e X b 3) w5.drew) (.agg #[.bool s1, .slice a1 n1 c1]) x:=mkx ZV.mono m4 (p.trans P);have m5:ZV (mk (a0e X b 3) w5.drew) (.agg #[.bool s2, .slice a2 n2 c2]) y:=mkx ZV.mono i9 (p.trans P);have s:=f5.cell 0 rfl;have t:=f5.cell 1 rfl;have A:=f6.cell 0 rfl;have B:=f6.cell 1 rfl;have g8:Hid (((-x:Int):Rat)/((-y:Int):Rat)=q):=hid (by
   rw[<-d1,Rat.intCast_neg,Rat.intCast_neg];have:(y:Rat)≠0:=by exact_mod_cast h4
   grind)
  have I:Hid (lg (-x).natAbs<=274877906944):=hid (by rw[Int.natAbs_neg];exact i7.out);have l:Hid (lg (-y).natAbs<=274877906944):=hid (by rw[Int.natAbs_neg];exact i8.out);clear h0 h4 d1;go_upto_region 2 with(fail)
  go_region_with (first|(go_at_call 168;(with_reducible refine(b7Z (a0e X b 3) w5.drew _ x i6 m3).mono ?_);rintro e w6 ⟨n,u6,rfl,s5,a5,c5,l5,rfl,i0,i1,i2⟩;have f3:=f5.ext0 (P.trans n);have f4:=f6.ext0 (P.trans n);have j6:=f3.cell 0 rfl;have j7:=f3.cell 1 rfl;have j8:=f4.cell 0 rfl;have f9:=f4.cell 1 rfl)|(go_at_call 168;(with_reducible refine(b7Z (a0e X b 3) w6 _ y (HX.ext i6 n) (mkx ZV.mono m5 n)).mono ?_);rintro e w7 ⟨m,u7,rfl,s6,a6,c6,l6,rfl,i3,i4,i5⟩;have a4:=f3.ext0 m;have a7:=f4.ext0 m;have k4:=a4.cell 0 rfl;have k5:=a4.cell 1 rfl;have k6:=a7.cell 0 rfl;have k7:=a7.cell 1 rfl;have k0:=a4.frozen 0;have k1:=a4.frozen 1;have k2:=a7.frozen 0;have k3:=a7.frozen 1))
  all_goals
   obtain⟨ws,j0,G,H,n0,a9,q4⟩:=a2v (X:=X) (nb:=3) a4 a7 (hE.trans (p.trans ((P.trans n).trans m))) l1 (by omega) (.bool s5) (.slice a5 l5.length c5) (.bool s6) (.slice a6 l6.length c6);rw[j0];have d8:ZC (mk (a0e X b 3) ws) (.agg #[.bool s5, .slice a5 l5.length c5]) (-x):=⟨s5,a5,c5,l5,rfl,i0,i1,(i2.mono (a0c.mono _) (a0m m)).mono (a0c.mono _) q4⟩;have d6:ZC (mk (a0e X b 3) ws) (.agg #[.bool s6, .slice a6 l6.length c6]) (-y):=⟨s6,a6,c6,l6,rfl,i3,i4,i5.mono (a0c.mono _) q4⟩;have a8:=n0 (b+1+1) _ _ (by omega) (by omega) (((h9.ext0 P).ext0 n).ext0 m);have j2:w.heap.size+3<=ws.heap.size:=by have:=a8.lt;omega
   have b9:HX (a0e X b 3) ws:=hX.boxes' a9 (by have:=j2;omega) j2;clear j6 j7 j8 f9 k4 k5 k6 k7 k0 k1 k2 k3 s t A B j0 f3 f4 a4 a7 i0 i1 i2 i3 i4 i5;have M:=g8;have hk:=l4;generalize m0:s5=sz at*;generalize l0:a5=az at*;generalize l8:l5.length=nz at*;generalize l3:c5=cz at*;generalize l9:s6=sk at*;generalize k9:a6=ak at*;generalize l7:l6.length=nk at*;generalize l2:c6=ck at*;generalize m6: -x=z at*;generalize m7: -y=k at*;have s:=G.cell 0 rfl;have t:=G.cell 1 rfl;have A:=H.cell 0 rfl;have B:=H.cell 1 rfl;have c4:=hid (Nat.gcd_pos_of_pos_right z.natAbs (show 0<k.natAbs by have:=hk.out;omega));have c7:=hid (show((Nat.gcd z.natAbs k.natAbs:Nat):Int)∣z from Int.ofNat_dvd_left.2 (Nat.gcd_dvd_left _ _));have c0:=hid (show((Nat.gcd z.natAbs k.natAbs:Nat):Int)∣k from Int.ofNat_dvd_left.2 (Nat.gcd_dvd_right _ _));have c3:=hid (show lg (Nat.gcd z.natAbs k.natAbs)<=274877906944 from Nat.le_trans (a1n (Nat.gcd_le_right _ (by have:=hk.out;omega))) l.out);have j:=hid (b0H z k hk.out);obtain⟨g,hg⟩:∃g,Nat.gcd z.natAbs k.natAbs=g:=⟨_,rfl⟩;rw[hg]at c4 c7 c0 c3 j
   replace hg:=hid hg
   go_wp2_with fail
   refine(b9Q (a0e X b 3) ws _ _ _ _ b9 (d8.zv (Nat.le_trans I.out (by decide))) (d6.zv (Nat.le_trans l.out (by decide))) I.out l.out).mono ?_;rintro e6 w6 ⟨n,ug,rfl,d2⟩;rw[hg.out]at d2;obtain⟨ag,cg,e2,rfl,g1,g2,g3⟩:=d2;have bg:=Bx.new w6 #[.bool false, .slice none 0 0] 36;have g6:=b9.ext n;clear s t A B;go_wp2_with ((with_reducible show wpList _ _ _ (⟨_, .store _ _ _,_,_,_,_⟩::_) _ _);refine a0a a0H rfl rfl bg rfl rfl (a3c _ _ _ _) ?_;intro w7 r1 r2;have m:Ext w6 w7:=ExtX.box ((ExtX.refl w6).alloc _) r2 (Nat.le_refl _);have t7:=n.trans m;have s:=(G.ext0 t7).cell 0 rfl;have t:=(G.ext0 t7).cell 1 rfl;have a0:=r1.cell 0 rfl;have a3:=r1.cell 1 rfl)
   have b8:=(g6.ext m);have N:ZC (mk (a0e X b 3) w7) (.agg #[.bool false, .slice ag e2.length cg]) (g:Int):=NC.zc (NC.mono _ _ _ _ (a0m m) ⟨ag,cg,e2,rfl,g1,g2,g3⟩);have h5:=mkx ZC.mono d8 t7;have h:Hid (lg ((g:Int)).natAbs<=274877906944):=hid (by rw[Int.natAbs_natCast];exact c3.out);have L:Hid ((0:Int)<(g:Int)):=hid (by have:=c4.out;omega);refine(b4Z (a0e X b 3) w7 _ _ z g b8 (h5.zv (Nat.le_trans I.out (by decide))) (N.zv (Nat.le_trans h.out (by decide))) I.out h.out L.out c7.out).mono ?_;rintro e8 w8 ⟨J,up,sv,av,nv,cv,rfl,d3⟩;obtain⟨sp,ap,np,cp,rfl⟩:=d3.shape;obtain⟨W8,g5,b5,bp,br,m8⟩:=a1x w8 #[.bool false, .slice none 0 0] #[.bool false, .slice none 0 0] 36 36;subst g5;clear s t a0 a3;go_wp2_with ((with_reducible show wpList _ _ _ (⟨_, .store _ _ _,_,_,_,_⟩::_) _ _);first|(refine a0a a0H rfl rfl bp rfl rfl (a3c _ _ _ _) ?_;intro w9 p1 p2;have F:=br.ext p2 (a0b (by omega)))|(refine a0a a0H rfl rfl F rfl rfl (a3c _ _ _ _) ?_;intro f2 p3 p4;have d:Ext w8 f2:=ExtX.box (ExtX.box b5 p2 (Nat.le_refl _)) p4 (by omega);have D:=t7.trans (J.trans d);have A:=(H.ext0 D).cell 0 rfl;have B:=(H.ext0 D).cell 1 rfl;have e9:=r1.ext0 (J.trans d);have a0:=e9.cell 0 rfl;have a3:=e9.cell 1 rfl;have e3:=p1.ext p4 (a0b (by omega))))
   have r:=mkx ZC.mono d3 d;have b7:=(b8.ext J).ext d;have c8:=mkx ZC.mono d6 D;have U:=mkx ZC.mono (mkx ZC.mono N J) d;refine(b4Z (a0e X b 3) f2 _ _ k g b7 (c8.zv (Nat.le_trans l.out (by decide))) (U.zv (Nat.le_trans h.out (by decide))) l.out h.out L.out c0.out).mono ?_;rintro f9 E ⟨a,uq,n4,j4,m9,j5,rfl,d4⟩;obtain⟨sq,aq,nq,cq,rfl⟩:=d4.shape;obtain⟨j3,b6,O,bq,f8,j1⟩:=a1x E #[.bool false, .slice none 0 0] #[.bool false, .slice none 0 0] 36 36;subst b6;clear A B a0 a3 F br;go_wp2_with ((with_reducible show wpList _ _ _ (⟨_, .store _ _ _,_,_,_,_⟩::_) _ _);first|(refine a0a a0H rfl rfl bq rfl rfl (a3c _ _ _ _) ?_;intro n5 p5 p6;have F:=f8.ext p6 (a0b (by omega)))|(refine a0a a0H rfl rfl F rfl rfl (a3c _ _ _ _) ?_;intro K p7 p8;have f:Ext E K:=ExtX.box (ExtX.box O p6 (Nat.le_refl _)) p8 (by omega);have f0:=D.trans (a.trans f);have C:=p5.ext p8 (a0b (by omega));have h6:=C.cell 0 rfl;have e1:=C.cell 1 rfl;have g0:=C.frozen 0;have g4:=C.frozen 1;have e4:=e3.ext0 (a.trans f);have d9:=e4.cell 0 rfl;have e0:=e4.cell 1 rfl))
   have Z:=mkx ZC.mono d4 f;have V:=mkx ZC.mono (mkx ZC.mono r a) f;have d0:=Z.mag;have g7:Hid (lg (k/(g:Int)).natAbs<=1099511627776):=hid (by
    have h1:=j.out.2;have:(k/(g:Int)).natAbs<=k.natAbs:=by
     have:=Int.natAbs_ediv_le_natAbs k (g:Int);exact this
    exact Nat.le_trans (a1n this) (Nat.le_trans l.out (by decide)))
   have b3:=a8.ext0 f0;have Q:=a9.trans f0;refine(b5e _ _ _ _ d0 g7.out).mono ?_;rintro j9 c ⟨rfl,rfl⟩;have c9:Hid ((q.den:Int)=k/(g:Int)):=hid (by rw[<-M.out];exact j.out.2);have d7:Hid (q.num=z/(g:Int)):=hid (by rw[<-M.out];exact j.out.1);by_cases h1:(k/(g:Int)).natAbs=1
   ·have R:Hid (dn q=0):=hid ((a4e q).2 (by have:=c9.out;have:=q.den_pos;omega))
    rw[decide_eq_true h1];clear h1;go_upto_region 8 with(fail)
    obtain⟨m1,m2⟩:=a0P C (.slice none 0 0) (i:=1) (by simp);obtain⟨c,d5⟩:∃c,K.setCell ⟨E.heap.size,1,none⟩ (.slice none 0 0)=c:=⟨_,rfl⟩;rw[d5]at m1 m2 |-;have o:Ext E c:=ExtX.box f m2 (Nat.le_refl _);have f1:=D.trans (a.trans o);have b4:=a8.ext0 f1;have e7:=e3.ext0 (a.trans o);clear d9 e0 h6 e1 g0 g4;have d9:c.cell? ⟨w8.heap.size,0,none⟩=some (.bool sp):=e7.cell 0 rfl;have e0:c.cell? ⟨w8.heap.size,1,none⟩=some (.slice ap np cp):=e7.cell 1 rfl;have e1:c.cell? ⟨E.heap.size,1,none⟩=some (.slice none 0 0):=m1.cell 1 rfl;have Y:=mkx ZC.mono (mkx ZC.mono r a) o;go_wp2_with ((with_reducible show wpList _ _ _ (⟨_, .store _ _ _,_,_,_,_⟩::_) _ _);refine a0a a0o rfl rfl b4 rfl rfl (a1z _ _ _ _ _ _ _) ?_;intro h8 r3 r4)
    have T:ZC (mk (a0e X b 3) c) (.agg #[.bool sp, .slice ap np cp]) q.num:=by rw[d7.out];exact Y
    have S:NC (mk (a0e X b 3) c) (.slice none 0 0) (dn q):=by rw[R.out];exact NC.zero _
    have h7:=QC.mono _ _ _ _ a0k (QC.mono _ _ _ _ (a0g r4 (by omega) (by omega)) (QC.of T S));exact bodyPost_ret (a0d rfl rfl a0o r3 rfl) rfl ⟨ExtX.box (a9.trans f1) r4 (by omega),_,rfl,h7⟩
   ·have R:Hid (dn q=(k/(g:Int)).natAbs):=hid (by
     have h2:=c9.out;unfold dn;rw[if_neg (by omega)];omega)
    rw[decide_eq_false h1];clear h1;go_wp2_with ((with_reducible show wpList _ _ _ (⟨_, .store _ _ _,_,_,_,_⟩::_) _ _);refine a0a a0o rfl rfl b3 rfl rfl (a1z _ _ _ _ _ _ _) ?_;intro h8 r3 r4)
    have T:ZC (mk (a0e X b 3) K) (.agg #[.bool sp, .slice ap np cp]) q.num:=by rw[d7.out];exact V
    have S:NC (mk (a0e X b 3) K) (.slice aq nq cq) (dn q):=by rw[R.out];exact d0
    have h7:=QC.mono _ _ _ _ a0k (QC.mono _ _ _ _ (a0g r4 (by omega) (by omega)) (QC.of T S));exact bodyPost_ret (a0d rfl rfl a0o r3 rfl) rfl ⟨ExtX.box Q r4 (by omega),_,rfl,h7⟩
theorem a4H(X:Nat->Bool)(w:World)(v:Int)(s:HX X w)(l: -9223372036854775808<=v)(m:v<=9223372036854775807):Calls Tryz.prog 53 #[.int .i64 v] w (a1Y X w QC v):=by
 obtain⟨W,B,r,k,hz⟩:=a0R w #[.bool false, .slice none 0 0, .slice none 0 0] 38;have c:HX (a0e X w.heap.size 1) W:=s.boxes hz;obtain⟨b,t⟩:∃b,w.heap.size=b:=⟨_,rfl⟩;have u:w.heap.size<=b:=by omega
 rw[t]at k hz c;have e:=hid l;have f:=hid m;clear l m;go_enter Tryz.func53,Tryz.ntmps53
 go_wp2_with fail
 refine(b2O (a0e X b 1) W v c e.out f.out).mono ?_;rintro A D ⟨a,C,rfl,z,o,p,x,rfl,g,h,i⟩;have d:=k.ext0 a;have j:=a6m.ofInt h;go_wp2_with ((with_reducible show wpList _ _ _ (⟨_, .store _ _ _,_,_,_,_⟩::_) _ _);refine a0a a0o rfl rfl d rfl rfl (a1z _ _ _ _ _ _ _) ?_;intro E y n)
 have q:=(i.mono (a0c.mono _) (a0g n (by omega) (by omega))).mono (a0c.mono _) a0k;exact bodyPost_ret (a0d rfl rfl a0o y rfl) rfl ⟨ExtX.box (r.trans a) n (by omega),_,rfl,z,o,p,x,none,0,[],rfl,g,Nat.le_refl _,j,q,Sl.nil _ _ _ _⟩
theorem a7z(X:Nat->Bool)(w:World)(u:Value)(x:Rat)(t:HX X w)(f:QV (mk X w) u x):Calls Tryz.prog 19 #[u] w (a4C w x.num.sign):=by
 have i:=hid f.hq;obtain⟨B,o,A,p,q,z,r,rfl⟩:=f.shape;obtain⟨W,G,g,e,hz⟩:=a0R w #[.bool B, .slice o A p, .slice q z r] 38;have c:HX X W:=t.ext g;have j:=mkx QV.mono f g;obtain⟨b,v⟩:∃b,w.heap.size=b:=⟨_,rfl⟩;rw[v]at e hz;have l:=e.cell 0 rfl;have m:=e.cell 1 rfl;have n:=e.cell 2 rfl;have y:=a6f;clear f;go_enter Tryz.func19,Tryz.ntmps19
 go_wp2_with fail
 refine(a3Q X W _ x c j).mono ?_;rintro s C ⟨a,K,rfl,d⟩;obtain⟨J,D,I,E,F,H,e5,rfl⟩:=d.shape;have k:=d.num.1.zv (Nat.le_trans (Nat.le_trans (a0B x) i.out) (by omega));clear l m n;go_wp2_with fail
 refine(b6T X C _ _ (c.ext a) k).mono ?_;rintro s L ⟨h,rfl⟩;go_wp2_with fail
 go_ret
 exact⟨g.trans (a.trans h),rfl⟩
theorem b8e(X:Nat->Bool)(w:World)(u:Value)(x:Rat)(hX:HX X w)(A:QV (mk X w) u x):Calls Tryz.prog 136 #[u] w (a1Y X w QC (-x)):=by
 have q:=hid A.hq;obtain⟨s1,a1,n1,c1,d1,k1,e1,rfl⟩:=A.shape;obtain⟨W,hW,hE,n,b1,hz⟩:=a1x w #[.bool s1, .slice a1 n1 c1, .slice d1 k1 e1] #[.bool false, .slice none 0 0, .slice none 0 0] 38 38;have i:HX (a0e X w.heap.size 2) W:=hX.boxes hz;have s:=QV.mono _ _ _ _ (a0l (nb:=2) hE) A;obtain⟨b,hb⟩:∃b,w.heap.size=b:=⟨_,rfl⟩;have a3:w.heap.size<=b:=by omega
 rw[hb]at n b1 hz i s;have j:=n.cell 0 rfl;have k:=n.cell 1 rfl;have l:=n.cell 2 rfl;clear A;go_enter Tryz.func136,Tryz.ntmps136
 go_wp2_with fail
 refine(a3Q (a0e X b 2) W _ x i s).mono ?_;rintro e w5 ⟨d,u5,rfl,r⟩;obtain⟨s5,D,n5,J,o,z,e5,rfl⟩:=r.shape;have R:=i.ext d;have F:=n.ext0 d;have G:=b1.ext0 d;clear j k l;go_upto_region 2 with((with_reducible show wpList _ _ _ (⟨_, .store _ _ _,_,_,_,_⟩::_) _ _);refine a0a a0o rfl rfl F rfl rfl (a1z _ _ _ _ _ _ _) ?_;intro g f B;have j:=f.cell 0 rfl;have k:=f.cell 1 rfl;have l:=f.cell 2 rfl)
 have S:=R.ext B;have H:=G.ext B (a0b (by omega));have U:=QC.mono _ _ _ _ (a0g (X:=X) (lo:=b) (nb:=2) B (by omega) (by omega)) r;have O:Ext w g:=ExtX.box (hE.trans d) B (by omega);obtain⟨Y,a4,v⟩:=U.num;have c:Ext g g.drew:=(ExtX.refl g).drew;have p:HX (a0e X b 2) g.drew:=S;have y:ZC (mk (a0e X b 2) g.drew) (.agg #[.bool s5, .slice D n5 J]) x.num:=Y;have t:NC (mk (a0e X b 2) g.drew) (.slice o z e5) (dn x):=v;have I:lg x.num.natAbs<=549755813888:=Nat.le_trans (Nat.le_trans (a0B x) q.out) (by omega);have a0:lg (dn x)<=549755813888:=Nat.le_trans (Nat.le_trans (b2P x) q.out) (by omega);have V:=y.zv I;have Q:Hid (∀W',Ext g.drew W'->W'.cell? ⟨b,0,none⟩=some (.bool s5)/\W'.cell? ⟨b,1,none⟩=some (.slice D n5 J)/\W'.cell? ⟨b,2,none⟩=some (.slice o z e5)):=
  hid fun W' h=>⟨(f.ext0 (c.trans h)).cell 0 rfl,(f.ext0 (c.trans h)).cell 1 rfl,(f.ext0 (c.trans h)).cell 2 rfl⟩
 go_region_held3 (fun w'=>w'.cell? ⟨b,0,none⟩=some (.bool s5)/\w'.cell? ⟨b,1,none⟩=some (.slice D n5 J)/\w'.cell? ⟨b,2,none⟩=some (.slice o z e5))
  (first|exact Q.out _ C|exact Q.out _ m|exact⟨((f.ext0 (c.trans m)).ext (a.set3 _ _ _).2 (a0b (by omega))).cell 0 rfl,((f.ext0 (c.trans m)).ext (a.set3 _ _ _).2 (a0b (by omega))).cell 1 rfl,((f.ext0 (c.trans m)).ext (a.set3 _ _ _).2 (a0b (by omega))).cell 2 rfl⟩|go_keep)
  (first|(go_at_call 168;(with_reducible refine(b7Z (a0e X b 2) g.drew _ _ p V).mono ?_);rintro ee w8 ⟨C,u8,rfl,s8,E,K,Z,rfl,L,M,N⟩;have a2:=HX.ext p C;have m:=C;have T:=mkx NC.mono t C;have a:=H.ext0 (c.trans m);have g0:=a.cell 0 rfl;have g1:=a.cell 1 rfl;have g2:=a.cell 2 rfl;have f0:=a.frozen 0;have f1:=a.frozen 1;have f2:=a.frozen 2))
 obtain⟨q1,q2⟩:=a.set3 (.bool s8) (.slice E Z.length K) (.slice o z e5);have hz:ZC (mk (a0e X b 2) w8) (.agg #[.bool s8, .slice E Z.length K]) (-x).num:=⟨s8,E,K,Z,rfl,L,by rw[Rat.neg_num];exact M,N⟩;have hd:NC (mk (a0e X b 2) w8) (.slice o z e5) (dn (-x)):=by rw[b6X];exact T
 have h7:=QC.mono _ _ _ _ a0k (QC.mono _ _ _ _ (a0g q2 (by omega) (by omega)) (QC.of hz hd));have P:Ext w _:=ExtX.box (O.trans (c.trans m)) q2 (by omega);clear g0 g1 g2 f0 f1 f2 j k l Q;go_wp2_with fail
 exact bodyPost_ret (a0d rfl rfl a0o q1 rfl) rfl ⟨P,_,rfl,h7⟩
theorem b2R(X:Nat->Bool)(w:World)(u v:Value)(x y:Rat)(hX:HX X w)(hu:QV (mk X w) u x)(hv:QV (mk X w) v y):Calls Tryz.prog 51 #[u,v] w (a1Y X w QC (x+y)):=by
 have e:=hid hu.hq;have f:=hid hv.hq;obtain⟨s1,a1,n1,c1,d1,k1,e1,rfl⟩:=hu.shape;obtain⟨s2,a2,n2,c2,d2,k2,e2,rfl⟩:=hv.shape;obtain⟨W,hW,hE,j,k,T,hz⟩:=a2C w #[.bool s1, .slice a1 n1 c1, .slice d1 k1 e1] #[.bool s2, .slice a2 n2 c2, .slice d2 k2 e2] #[.bool false, .slice none 0 0, .slice none 0 0] 38 38 38;have c7:HX (a0e X w.heap.size 3) W:=hX.boxes hz;have N:=QV.mono _ _ _ _ (a0l (nb:=3) hE) hu;have O:=QV.mono _ _ _ _ (a0l (nb:=3) hE) hv;obtain⟨b,hb⟩:∃b,w.heap.size=b:=⟨_,rfl⟩;have k8:w.heap.size<=b:=by omega
 rw[hb]at j k T hz c7 N O;have c:Ext W W.drew:=(ExtX.refl W).drew;have d:HX (a0e X b 3) W.drew:=c7;have e7:QV (mk (a0e X b 3) W.drew) (.agg #[.bool s1, .slice a1 n1 c1, .slice d1 k1 e1]) x:=N;have e8:QV (mk (a0e X b 3) W.drew) (.agg #[.bool s2, .slice a2 n2 c2, .slice d2 k2 e2]) y:=O;have z:=j.cell 0 rfl;have A:=j.cell 1 rfl;have B:=j.cell 2 rfl;have C:=k.cell 0 rfl;have D:=k.cell 1 rfl;have E:=k.cell 2 rfl;clear hu hv;go_enter Tryz.func51,Tryz.ntmps51
 go_upto_region 1 with(fail)
 go_cut []from 5 to 8 (fun wx=>∃R I P K U k3 Y S J Q L V k4 Z,Bx wx b #[.bool R, .slice I P K, .slice U k3 Y] 38/\Bx wx (b+1) #[.bool S, .slice J Q L, .slice V k4 Z] 38/\Bx wx (b+1+1) #[.bool false, .slice none 0 0, .slice none 0 0] 38/\QC (mk (a0e X b 3) wx) (.agg #[.bool R, .slice I P K, .slice U k3 Y]) x/\QC (mk (a0e X b 3) wx) (.agg #[.bool S, .slice J Q L, .slice V k4 Z]) y/\Ext w wx)
 case first=>
  go_region_with (first|(go_at_call 86;(with_reducible refine(a3Q (a0e X b 3) W.drew _ x d e7).mono ?_);rintro o w5 ⟨l,u5,rfl,d0⟩;obtain⟨s5,a5,n5,c5,d5,k5,e5,rfl⟩:=d0.shape;have q:=j.ext0 (c.trans l);have r:=k.ext0 (c.trans l);have h0:=q.cell 0 rfl;have h5:=q.cell 1 rfl;have h6:=q.cell 2 rfl;have h8:=r.cell 0 rfl;have h9:=r.cell 1 rfl;have i0:=r.cell 2 rfl)|(go_at_call 86;(with_reducible refine(a3Q (a0e X b 3) w5 _ y (HX.ext d l) (mkx QV.mono e8 l)).mono ?_);rintro o w6 ⟨i,u6,rfl,d7⟩;obtain⟨s6,a6,n6,c6,d6,k6,e6,rfl⟩:=d7.shape;have a:=q.ext0 i;have g:=r.ext0 i;have i8:=a.cell 0 rfl;have i9:=a.cell 1 rfl;have j0:=a.cell 2 rfl;have j1:=g.cell 0 rfl;have j2:=g.cell 1 rfl;have j3:=g.cell 2 rfl;have i2:=a.frozen 0;have i3:=a.frozen 1;have i6:=a.frozen 2;have i4:=g.frozen 0;have i5:=g.frozen 1;have i7:=g.frozen 2))
  all_goals
   obtain⟨wf,e9,q0,q1,q2,q3,q4⟩:=a2h (X:=X) (nb:=3) a g (hE.trans ((c.trans l).trans i)) k8 (by omega) (.bool s5) (.slice a5 n5 c5) (.slice d5 k5 e5) (.bool s6) (.slice a6 n6 c6) (.slice d6 k6 e6);rw[e9];have k9:QC (mk (a0e X b 3) wf) (.agg #[.bool s5, .slice a5 n5 c5, .slice d5 k5 e5]) x:=QC.mono _ _ _ _ q4 (mkx QC.mono d0 i);have l0:QC (mk (a0e X b 3) wf) (.agg #[.bool s6, .slice a6 n6 c6, .slice d6 k6 e6]) y:=QC.mono _ _ _ _ q4 d7;have q5:=q2 (b+1+1) _ _ (by omega) (by omega) ((T.ext0 (c.trans l)).ext0 i);clear h0 h5 h6 h8 h9 i0 i8 i9 j0 j1 j2 j3 i2 i3 i4 i5 i6 i7 z A B C D E e9;go_wp2_with fail
   go_meet
   exact⟨_,_,_,_,_,_,_,_,_,_,_,_,_,_,q0,q1,q5,k9,l0,q3⟩
 case rest=>
  clear z A B C D E j k T N O e7 e8 d c hW;obtain⟨R,I,P,K,U,k3,Y,S,J,Q,L,V,k4,Z,j,k,T,hx,hy,b4⟩:=hcut;have f8:w.heap.size+3<=wc.heap.size:=by have:=T.lt;omega
  obtain⟨l9,o4,n0⟩:=hx.num;obtain⟨m1,o5,n7⟩:=hy.num;have k7:HX (a0e X b 3) wc:=hX.boxes' b4 (by have:=f8;omega) f8;have z:=j.cell 0 rfl;have A:=j.cell 1 rfl;have B:=j.cell 2 rfl;have C:=k.cell 0 rfl;have D:=k.cell 1 rfl;have E:=k.cell 2 rfl;have c:Ext wc wc.drew:=(ExtX.refl wc).drew;have d:HX (a0e X b 3) wc.drew:=k7;have f3:QC (mk (a0e X b 3) wc.drew) (.agg #[.bool R, .slice I P K, .slice U k3 Y]) x:=hx;have f6:QC (mk (a0e X b 3) wc.drew) (.agg #[.bool S, .slice J Q L, .slice V k4 Z]) y:=hy;have f4:ZC (mk (a0e X b 3) wc.drew) (.agg #[.bool R, .slice I P K]) x.num:=l9;have f7:ZC (mk (a0e X b 3) wc.drew) (.agg #[.bool S, .slice J Q L]) y.num:=m1;have o1:lg x.num.natAbs<=549755813888:=Nat.le_trans (Nat.le_trans (a0B x) e.out) (by omega);have o3:lg y.num.natAbs<=549755813888:=Nat.le_trans (Nat.le_trans (a0B y) f.out) (by omega);have o0:lg x.den<=549755813888:=Nat.le_trans (Nat.le_trans (a0E x) e.out) (by omega);have o2:lg y.den<=549755813888:=Nat.le_trans (Nat.le_trans (a0E y) f.out) (by omega);have g4:lg (x.num*(y.den:Int)).natAbs<=274877906944:=by rw[Int.natAbs_mul,Int.natAbs_natCast];have:=a1c x.num.natAbs y.den;have:=a0B x;have:=a0E y;have:=e.out;have:=f.out;omega
  have g5:lg (y.num*(x.den:Int)).natAbs<=274877906944:=by rw[Int.natAbs_mul,Int.natAbs_natCast];have:=a1c y.num.natAbs x.den;have:=a0B y;have:=a0E x;have:=e.out;have:=f.out;omega
  have g3:lg (x.den*y.den)<=274877906944:=by have:=a1c x.den y.den;have:=a0E x;have:=a0E y;have:=e.out;have:=f.out;omega
  have n9:lg (x.num*y.num).natAbs<=274877906944:=by rw[Int.natAbs_mul];have:=a1c x.num.natAbs y.num.natAbs;have:=a0B x;have:=a0B y;have:=e.out;have:=f.out;omega
  have n8:0<x.den*y.den:=Nat.mul_pos x.den_pos y.den_pos;have M:=hid (And.intro j k);have p:Hid (∀W',Ext wc.drew W'->W'.cell? ⟨b,0,none⟩=some (.bool R)/\W'.cell? ⟨b,1,none⟩=some (.slice I P K)/\W'.cell? ⟨b,2,none⟩=some (.slice U k3 Y)/\W'.cell? ⟨b+1,0,none⟩=some (.bool S)/\W'.cell? ⟨b+1,1,none⟩=some (.slice J Q L)/\W'.cell? ⟨b+1,2,none⟩=some (.slice V k4 Z)):=
   hid fun W' h=>⟨(j.ext0 (c.trans h)).cell 0 rfl,(j.ext0 (c.trans h)).cell 1 rfl,(j.ext0 (c.trans h)).cell 2 rfl,(k.ext0 (c.trans h)).cell 0 rfl,(k.ext0 (c.trans h)).cell 1 rfl,(k.ext0 (c.trans h)).cell 2 rfl⟩
  have a0:hq x<=549755813888:=Nat.le_trans e.out (by decide);have a7:hq y<=549755813888:=Nat.le_trans f.out (by decide);have a9:lg x.num.natAbs<=274877906944:=Nat.le_trans (Nat.le_trans (a0B x) e.out) (by omega);have b3:lg y.num.natAbs<=274877906944:=Nat.le_trans (Nat.le_trans (a0B y) f.out) (by omega);have s:lg (x.den:Int).natAbs<=274877906944:=Nat.le_trans (Nat.le_trans (a0E x) e.out) (by omega);have t:lg (y.den:Int).natAbs<=274877906944:=Nat.le_trans (Nat.le_trans (a0E y) f.out) (by omega);have g8:lg ((x.den:Int)*(y.den:Int)).natAbs<=274877906944:=by rw[<-Int.natCast_mul,Int.natAbs_natCast];exact g3
  have g7:(x.den:Int)*(y.den:Int)≠0:=Int.mul_ne_zero (by have:=x.den_nz;omega) (by have:=y.den_nz;omega);have a8:lg (x.num*(y.den:Int)+y.num*(x.den:Int)).natAbs<=274877906944:=by
   have h1:=a1n (Int.natAbs_add_le (x.num*(y.den:Int)) (y.num*(x.den:Int)));have h2:=b0B (x.num*(y.den:Int)).natAbs (y.num*(x.den:Int)).natAbs;have h3:lg (x.num*(y.den:Int)).natAbs<=137438953472:=by rw[Int.natAbs_mul,Int.natAbs_natCast];have:=a1c x.num.natAbs y.den;have:=a0B x;have:=a0E y;have:=e.out;have:=f.out;omega
   have h4:lg (y.num*(x.den:Int)).natAbs<=137438953472:=by rw[Int.natAbs_mul,Int.natAbs_natCast];have:=a1c y.num.natAbs x.den;have:=a0B y;have:=a0E x;have:=e.out;have:=f.out;omega
   omega
  have c8:Hid (((x.num*(y.den:Int)+y.num*(x.den:Int):Int):Rat)/(((x.den:Int)*(y.den:Int):Int):Rat)=x+y):=hid (by
   rw[<-Int.natCast_mul,Rat.intCast_natCast,<-Rat.mkRat_eq_div];exact(Rat.add_def' x y).symm)
  go_wp2_with fail
  go_region_held3 (fun w'=>w'.cell? ⟨b,0,none⟩=some (.bool R)/\w'.cell? ⟨b,1,none⟩=some (.slice I P K)/\w'.cell? ⟨b,2,none⟩=some (.slice U k3 Y)/\w'.cell? ⟨b+1,0,none⟩=some (.bool S)/\w'.cell? ⟨b+1,1,none⟩=some (.slice J Q L)/\w'.cell? ⟨b+1,2,none⟩=some (.slice V k4 Z))
   (first|exact p.out _ t1|exact p.out _ t2|exact p.out _ t3|exact p.out _ t4|exact p.out _ t5|exact p.out _ t6|exact p.out _ t7|exact p.out _ t8|exact p.out _ F|exact⟨((M.out.1.ext0 (c.trans F)).ext (a.set3 _ _ _).2 (a0b (by omega))).cell 0 rfl,((M.out.1.ext0 (c.trans F)).ext (a.set3 _ _ _).2 (a0b (by omega))).cell 1 rfl,((M.out.1.ext0 (c.trans F)).ext (a.set3 _ _ _).2 (a0b (by omega))).cell 2 rfl,((M.out.2.ext0 (c.trans F)).ext (a.set3 _ _ _).2 (a0b (by omega))).cell 0 rfl,((M.out.2.ext0 (c.trans F)).ext (a.set3 _ _ _).2 (a0b (by omega))).cell 1 rfl,((M.out.2.ext0 (c.trans F)).ext (a.set3 _ _ _).2 (a0b (by omega))).cell 2 rfl⟩|go_keep)
   (first|(go_at_call 139;(with_reducible refine(a8I (a0e X b 3) wc.drew _ y d f6 a7).mono ?_);rintro o w5 ⟨t1,u5,rfl,l1⟩;have j6:=HX.ext d t1;have l6:=mkx ZC.mono f4 t1)|(go_at_call 138;(with_reducible refine(a9K (a0e X b 3) w5 _ _ x.num (y.den:Int) j6 (l6.zv (Nat.le_trans a9 (by decide))) (l1.zv (Nat.le_trans t (by decide))) a9 t).mono ?_);rintro o w6 ⟨i,u6,rfl,l2⟩;have t2:=t1.trans i;have j7:=HX.ext d t2;have l7:=mkx QC.mono f3 t2)|(go_at_call 139;(with_reducible refine(a8I (a0e X b 3) w6 _ x j7 l7 a0).mono ?_);rintro o w7 ⟨b6,u7,rfl,l3⟩;have t3:=t2.trans b6;have j8:=HX.ext d t3;have m0:=mkx ZC.mono f7 t3)|(go_at_call 138;(with_reducible refine(a9K (a0e X b 3) w7 _ _ y.num (x.den:Int) j8 (m0.zv (Nat.le_trans b3 (by decide))) (l3.zv (Nat.le_trans s (by decide))) b3 s).mono ?_);rintro o w8 ⟨b7,u8,rfl,l4⟩;have t4:=t3.trans b7;have j9:=HX.ext d t4;have m2:=mkx ZC.mono l2 (b6.trans b7))|(go_at_call 137;(with_reducible refine(c1e (a0e X b 3) w8 _ _ _ _ j9 (m2.zv (Nat.le_trans g4 (by decide))) (l4.zv (Nat.le_trans g5 (by decide)))).mono ?_);rintro o w9 ⟨j4,u9,rfl,l5⟩;have t5:=t4.trans j4;have k0:=HX.ext d t5;have l8:=mkx QC.mono f3 t5)|(go_at_call 139;(with_reducible refine(a8I (a0e X b 3) w9 _ x k0 l8 a0).mono ?_);rintro o m7 ⟨G,o6,rfl,d8⟩;have t6:=t5.trans G;have b8:=HX.ext d t6;have f5:=mkx QC.mono f6 t6)|(go_at_call 139;(with_reducible refine(a8I (a0e X b 3) m7 _ y b8 f5 a7).mono ?_);rintro o m8 ⟨m,o7,rfl,d9⟩;have t7:=t6.trans m;have b9:=HX.ext d t7;have c9:=mkx ZC.mono d8 m)|(go_at_call 138;(with_reducible refine(a9K (a0e X b 3) m8 _ _ (x.den:Int) (y.den:Int) b9 (c9.zv (Nat.le_trans s (by decide))) (d9.zv (Nat.le_trans t (by decide))) s t).mono ?_);rintro o m9 ⟨H,o8,rfl,e0⟩;have t8:=t7.trans H;have c0:=HX.ext d t8;have m3:=mkx ZC.mono l5 (G.trans (m.trans H)))|(go_at_call 81;(with_reducible refine(b0I (a0e X b 3) m9 _ _ _ _ c0 m3 e0 a8 g8 g7).mono ?_);rintro o p0 ⟨b5,o9,rfl,n⟩;have F:=t8.trans b5;obtain⟨m6,f9,m5,g6,g9,m4,i1,rfl⟩:=n.shape;have a:=T.ext0 (c.trans F);have g0:=a.cell 0 rfl;have g1:=a.cell 1 rfl;have g2:=a.cell 2 rfl;have f0:=a.frozen 0;have f1:=a.frozen 1;have f2:=a.frozen 2))
  rw[c8.out]at n;obtain⟨r1,r2⟩:=a.set3 (.bool m6) (.slice f9 m5 g6) (.slice g9 m4 i1);have h7:=QC.mono _ _ _ _ a0k (QC.mono _ _ _ _ (a0g r2 (by omega) (by omega)) n);have j5:Ext w _:=ExtX.box (b4.trans (c.trans F)) r2 (by omega);clear g0 g1 g2 f0 f1 f2 z A B C D E p M;go_wp2_with fail
  exact bodyPost_ret (a0d rfl rfl a0o r1 rfl) rfl ⟨j5,_,rfl,h7⟩
theorem b1I(X:Nat->Bool)(w:World)(u v:Value)(x y:Rat)(hX:HX X w)(hu:QV (mk X w) u x)(hv:QV (mk X w) v y):Calls Tryz.prog 52 #[u,v] w (a1Y X w QC (x*y)):=by
 have e:=hid hu.hq;have f:=hid hv.hq;obtain⟨s1,a1,n1,c1,d1,k1,e1,rfl⟩:=hu.shape;obtain⟨s2,a2,n2,c2,d2,k2,e2,rfl⟩:=hv.shape;obtain⟨W,hW,hE,j,k,N,hz⟩:=a2C w #[.bool s1, .slice a1 n1 c1, .slice d1 k1 e1] #[.bool s2, .slice a2 n2 c2, .slice d2 k2 e2] #[.bool false, .slice none 0 0, .slice none 0 0] 38 38 38;have b5:HX (a0e X w.heap.size 3) W:=hX.boxes hz;have G:=QV.mono _ _ _ _ (a0l (nb:=3) hE) hu;have I:=QV.mono _ _ _ _ (a0l (nb:=3) hE) hv;obtain⟨b,hb⟩:∃b,w.heap.size=b:=⟨_,rfl⟩;have i5:w.heap.size<=b:=by omega
 rw[hb]at j k N hz b5 G I;have c:Ext W W.drew:=(ExtX.refl W).drew;have d:HX (a0e X b 3) W.drew:=b5;have b9:QV (mk (a0e X b 3) W.drew) (.agg #[.bool s1, .slice a1 n1 c1, .slice d1 k1 e1]) x:=G;have c0:QV (mk (a0e X b 3) W.drew) (.agg #[.bool s2, .slice a2 n2 c2, .slice d2 k2 e2]) y:=I;have o:=j.cell 0 rfl;have p:=j.cell 1 rfl;have q:=j.cell 2 rfl;have r:=k.cell 0 rfl;have s:=k.cell 1 rfl;have t:=k.cell 2 rfl;clear hu hv;go_enter Tryz.func52,Tryz.ntmps52
 go_upto_region 1 with(fail)
 go_cut []from 5 to 8 (fun Z=>∃L A J C O U Q M B K D P V R,Bx Z b #[.bool L, .slice A J C, .slice O U Q] 38/\Bx Z (b+1) #[.bool M, .slice B K D, .slice P V R] 38/\Bx Z (b+1+1) #[.bool false, .slice none 0 0, .slice none 0 0] 38/\QC (mk (a0e X b 3) Z) (.agg #[.bool L, .slice A J C, .slice O U Q]) x/\QC (mk (a0e X b 3) Z) (.agg #[.bool M, .slice B K D, .slice P V R]) y/\Ext w Z)
 case first=>
  go_region_with (first|(go_at_call 86;(with_reducible refine(a3Q (a0e X b 3) W.drew _ x d b9).mono ?_);rintro S w5 ⟨l,u5,rfl,b7⟩;obtain⟨s5,a5,n5,c5,d5,k5,e5,rfl⟩:=b7.shape;have m:=j.ext0 (c.trans l);have n:=k.ext0 (c.trans l);have f5:=m.cell 0 rfl;have f6:=m.cell 1 rfl;have f7:=m.cell 2 rfl;have f8:=n.cell 0 rfl;have f9:=n.cell 1 rfl;have g3:=n.cell 2 rfl)|(go_at_call 86;(with_reducible refine(a3Q (a0e X b 3) w5 _ y (HX.ext d l) (mkx QV.mono c0 l)).mono ?_);rintro S w6 ⟨g,u6,rfl,b8⟩;obtain⟨s6,a6,n6,c6,d6,k6,e6,rfl⟩:=b8.shape;have a:=m.ext0 g;have i:=n.ext0 g;have h1:=a.cell 0 rfl;have h2:=a.cell 1 rfl;have h3:=a.cell 2 rfl;have h4:=i.cell 0 rfl;have h5:=i.cell 1 rfl;have h6:=i.cell 2 rfl;have g5:=a.frozen 0;have g6:=a.frozen 1;have g9:=a.frozen 2;have g7:=i.frozen 0;have g8:=i.frozen 1;have h0:=i.frozen 2))
  all_goals
   obtain⟨wf,c7,q0,q1,q2,q3,q4⟩:=a2h (X:=X) (nb:=3) a i (hE.trans ((c.trans l).trans g)) i5 (by omega) (.bool s5) (.slice a5 n5 c5) (.slice d5 k5 e5) (.bool s6) (.slice a6 n6 c6) (.slice d6 k6 e6);rw[c7];have i6:QC (mk (a0e X b 3) wf) (.agg #[.bool s5, .slice a5 n5 c5, .slice d5 k5 e5]) x:=QC.mono _ _ _ _ q4 (mkx QC.mono b7 g);have i7:QC (mk (a0e X b 3) wf) (.agg #[.bool s6, .slice a6 n6 c6, .slice d6 k6 e6]) y:=QC.mono _ _ _ _ q4 b8;have q5:=q2 (b+1+1) _ _ (by omega) (by omega) ((N.ext0 (c.trans l)).ext0 g);clear f5 f6 f7 f8 f9 g3 h1 h2 h3 h4 h5 h6 g5 g6 g7 g8 g9 h0 o p q r s t c7;go_wp2_with fail
   go_meet
   exact⟨_,_,_,_,_,_,_,_,_,_,_,_,_,_,q0,q1,q5,i6,i7,q3⟩
 case rest=>
  clear o p q r s t j k N G I b9 c0 d c hW;obtain⟨L,A,J,C,O,U,Q,M,B,K,D,P,V,R,j,k,N,hx,hy,b3⟩:=hcut;have d0:w.heap.size+3<=wc.heap.size:=by have:=N.lt;omega
  obtain⟨j5,l8,k9⟩:=hx.num;obtain⟨j8,l9,l0⟩:=hy.num;have i4:HX (a0e X b 3) wc:=hX.boxes' b3 (by have:=d0;omega) d0;have o:=j.cell 0 rfl;have p:=j.cell 1 rfl;have q:=j.cell 2 rfl;have r:=k.cell 0 rfl;have s:=k.cell 1 rfl;have t:=k.cell 2 rfl;have c:Ext wc wc.drew:=(ExtX.refl wc).drew;have d:HX (a0e X b 3) wc.drew:=i4;have j4:QC (mk (a0e X b 3) wc.drew) (.agg #[.bool L, .slice A J C, .slice O U Q]) x:=hx;have j7:QC (mk (a0e X b 3) wc.drew) (.agg #[.bool M, .slice B K D, .slice P V R]) y:=hy;have c8:ZC (mk (a0e X b 3) wc.drew) (.agg #[.bool L, .slice A J C]) x.num:=j5;have c9:ZC (mk (a0e X b 3) wc.drew) (.agg #[.bool M, .slice B K D]) y.num:=j8;have l5:lg x.num.natAbs<=549755813888:=Nat.le_trans (Nat.le_trans (a0B x) e.out) (by omega);have l7:lg y.num.natAbs<=549755813888:=Nat.le_trans (Nat.le_trans (a0B y) f.out) (by omega);have l4:lg x.den<=549755813888:=Nat.le_trans (Nat.le_trans (a0E x) e.out) (by omega);have l6:lg y.den<=549755813888:=Nat.le_trans (Nat.le_trans (a0E y) f.out) (by omega);have l2:lg (x.num*(y.den:Int)).natAbs<=274877906944:=by rw[Int.natAbs_mul,Int.natAbs_natCast];have:=a1c x.num.natAbs y.den;have:=a0B x;have:=a0E y;have:=e.out;have:=f.out;omega
  have l3:lg (y.num*(x.den:Int)).natAbs<=274877906944:=by rw[Int.natAbs_mul,Int.natAbs_natCast];have:=a1c y.num.natAbs x.den;have:=a0B y;have:=a0E x;have:=e.out;have:=f.out;omega
  have d8:lg (x.den*y.den)<=274877906944:=by have:=a1c x.den y.den;have:=a0E x;have:=a0E y;have:=e.out;have:=f.out;omega
  have d9:lg (x.num*y.num).natAbs<=274877906944:=by rw[Int.natAbs_mul];have:=a1c x.num.natAbs y.num.natAbs;have:=a0B x;have:=a0B y;have:=e.out;have:=f.out;omega
  have l1:0<x.den*y.den:=Nat.mul_pos x.den_pos y.den_pos;have E:=hid (And.intro j k);have T:Hid (∀W',Ext wc.drew W'->W'.cell? ⟨b,0,none⟩=some (.bool L)/\W'.cell? ⟨b,1,none⟩=some (.slice A J C)/\W'.cell? ⟨b,2,none⟩=some (.slice O U Q)/\W'.cell? ⟨b+1,0,none⟩=some (.bool M)/\W'.cell? ⟨b+1,1,none⟩=some (.slice B K D)/\W'.cell? ⟨b+1,2,none⟩=some (.slice P V R)):=
   hid fun W' h=>⟨(j.ext0 (c.trans h)).cell 0 rfl,(j.ext0 (c.trans h)).cell 1 rfl,(j.ext0 (c.trans h)).cell 2 rfl,(k.ext0 (c.trans h)).cell 0 rfl,(k.ext0 (c.trans h)).cell 1 rfl,(k.ext0 (c.trans h)).cell 2 rfl⟩
  have e0:hq x<=549755813888:=Nat.le_trans e.out (by decide);have e7:hq y<=549755813888:=Nat.le_trans f.out (by decide);have a7:lg x.num.natAbs<=274877906944:=Nat.le_trans (Nat.le_trans (a0B x) e.out) (by omega);have a9:lg y.num.natAbs<=274877906944:=Nat.le_trans (Nat.le_trans (a0B y) f.out) (by omega);have a0:lg (x.den:Int).natAbs<=274877906944:=Nat.le_trans (Nat.le_trans (a0E x) e.out) (by omega);have a8:lg (y.den:Int).natAbs<=274877906944:=Nat.le_trans (Nat.le_trans (a0E y) f.out) (by omega);have f3:lg ((x.den:Int)*(y.den:Int)).natAbs<=274877906944:=by rw[<-Int.natCast_mul,Int.natAbs_natCast];exact d8
  have e9:(x.den:Int)*(y.den:Int)≠0:=Int.mul_ne_zero (by have:=x.den_nz;omega) (by have:=y.den_nz;omega);have b6:Hid (((x.num*y.num:Int):Rat)/(((x.den:Int)*(y.den:Int):Int):Rat)=x*y):=hid (by
   rw[<-Int.natCast_mul,Rat.intCast_natCast,<-Rat.mkRat_eq_div];exact(Rat.mul_def' x y).symm)
  go_wp2_with fail
  go_region_held3 (fun Y=>Y.cell? ⟨b,0,none⟩=some (.bool L)/\Y.cell? ⟨b,1,none⟩=some (.slice A J C)/\Y.cell? ⟨b,2,none⟩=some (.slice O U Q)/\Y.cell? ⟨b+1,0,none⟩=some (.bool M)/\Y.cell? ⟨b+1,1,none⟩=some (.slice B K D)/\Y.cell? ⟨b+1,2,none⟩=some (.slice P V R))
   (first|exact T.out _ t1|exact T.out _ t2|exact T.out _ t3|exact T.out _ t4|exact T.out _ z|exact⟨((E.out.1.ext0 (c.trans z)).ext (a.set3 _ _ _).2 (a0b (by omega))).cell 0 rfl,((E.out.1.ext0 (c.trans z)).ext (a.set3 _ _ _).2 (a0b (by omega))).cell 1 rfl,((E.out.1.ext0 (c.trans z)).ext (a.set3 _ _ _).2 (a0b (by omega))).cell 2 rfl,((E.out.2.ext0 (c.trans z)).ext (a.set3 _ _ _).2 (a0b (by omega))).cell 0 rfl,((E.out.2.ext0 (c.trans z)).ext (a.set3 _ _ _).2 (a0b (by omega))).cell 1 rfl,((E.out.2.ext0 (c.trans z)).ext (a.set3 _ _ _).2 (a0b (by omega))).cell 2 rfl⟩|go_keep)
   (first|(go_at_call 138;(with_reducible refine(a9K (a0e X b 3) wc.drew _ _ x.num y.num d (c8.zv (Nat.le_trans a7 (by decide))) (c9.zv (Nat.le_trans a9 (by decide))) a7 a9).mono ?_);rintro S w5 ⟨t1,u5,rfl,i9⟩;have i0:=HX.ext d t1;have j3:=mkx QC.mono j4 t1)|(go_at_call 139;(with_reducible refine(a8I (a0e X b 3) w5 _ x i0 j3 e0).mono ?_);rintro S w6 ⟨g,u6,rfl,j0⟩;have t2:=t1.trans g;have i1:=HX.ext d t2;have j6:=mkx QC.mono j7 t2)|(go_at_call 139;(with_reducible refine(a8I (a0e X b 3) w6 _ y i1 j6 e7).mono ?_);rintro S w7 ⟨F,u7,rfl,j1⟩;have t3:=t2.trans F;have i2:=HX.ext d t3;have i8:=mkx ZC.mono j0 F)|(go_at_call 138;(with_reducible refine(a9K (a0e X b 3) w7 _ _ (x.den:Int) (y.den:Int) i2 (i8.zv (Nat.le_trans a0 (by decide))) (j1.zv (Nat.le_trans a8 (by decide))) a0 a8).mono ?_);rintro S w8 ⟨b4,u8,rfl,j2⟩;have t4:=t3.trans b4;have i3:=HX.ext d t4;have j9:=mkx ZC.mono i9 (g.trans (F.trans b4)))|(go_at_call 81;(with_reducible refine(b0I (a0e X b 3) w8 _ _ _ _ i3 j9 j2 d9 f3 e9).mono ?_);rintro S w9 ⟨h8,u9,rfl,H⟩;have z:=t4.trans h8;obtain⟨k8,d7,k7,e8,f4,k0,g4,rfl⟩:=H.shape;have a:=N.ext0 (c.trans z);have g0:=a.cell 0 rfl;have g1:=a.cell 1 rfl;have g2:=a.cell 2 rfl;have f0:=a.frozen 0;have f1:=a.frozen 1;have f2:=a.frozen 2))
  rw[b6.out]at H;obtain⟨r1,r2⟩:=a.set3 (.bool k8) (.slice d7 k7 e8) (.slice f4 k0 g4);have h7:=QC.mono _ _ _ _ a0k (QC.mono _ _ _ _ (a0g r2 (by omega) (by omega)) H);have h9:Ext w _:=ExtX.box (b3.trans (c.trans z)) r2 (by omega);clear g0 g1 g2 f0 f1 f2 o p q r s t T E;go_wp2_with fail
  exact bodyPost_ret (a0d rfl rfl a0o r1 rfl) rfl ⟨h9,_,rfl,h7⟩
theorem c1i(X:Nat->Bool)(w:World)(u v:Value)(x y:Rat)(hX:HX X w)(hu:QV (mk X w) u x)(hv:QV (mk X w) v y)(j7:y≠0):Calls Tryz.prog 227 #[u,v] w (a1Y X w QC (x/y)):=by
 have e:=hid hu.hq;have f:=hid hv.hq;obtain⟨s1,a1,n1,c1,d1,k1,e1,rfl⟩:=hu.shape;obtain⟨s2,a2,n2,c2,d2,k2,e2,rfl⟩:=hv.shape;obtain⟨W,hW,hE,j,k,M,hz⟩:=a2C w #[.bool s1, .slice a1 n1 c1, .slice d1 k1 e1] #[.bool s2, .slice a2 n2 c2, .slice d2 k2 e2] #[.bool false, .slice none 0 0, .slice none 0 0] 38 38 38;have b5:HX (a0e X w.heap.size 3) W:=hX.boxes hz;have F:=QV.mono _ _ _ _ (a0l (nb:=3) hE) hu;have H:=QV.mono _ _ _ _ (a0l (nb:=3) hE) hv;obtain⟨b,hb⟩:∃b,w.heap.size=b:=⟨_,rfl⟩;have i6:w.heap.size<=b:=by omega
 rw[hb]at j k M hz b5 F H;have c:Ext W W.drew:=(ExtX.refl W).drew;have d:HX (a0e X b 3) W.drew:=b5;have b9:QV (mk (a0e X b 3) W.drew) (.agg #[.bool s1, .slice a1 n1 c1, .slice d1 k1 e1]) x:=F;have c0:QV (mk (a0e X b 3) W.drew) (.agg #[.bool s2, .slice a2 n2 c2, .slice d2 k2 e2]) y:=H;have o:=j.cell 0 rfl;have p:=j.cell 1 rfl;have q:=j.cell 2 rfl;have r:=k.cell 0 rfl;have s:=k.cell 1 rfl;have t:=k.cell 2 rfl;clear hu hv;go_enter Tryz.func227,Tryz.ntmps227
 go_upto_region 1 with(fail)
 go_cut []from 5 to 8 (fun Y=>∃K A I C N T P L B J D O U Q,Bx Y b #[.bool K, .slice A I C, .slice N T P] 38/\Bx Y (b+1) #[.bool L, .slice B J D, .slice O U Q] 38/\Bx Y (b+1+1) #[.bool false, .slice none 0 0, .slice none 0 0] 38/\QC (mk (a0e X b 3) Y) (.agg #[.bool K, .slice A I C, .slice N T P]) x/\QC (mk (a0e X b 3) Y) (.agg #[.bool L, .slice B J D, .slice O U Q]) y/\Ext w Y)
 case first=>
  go_region_with (first|(go_at_call 86;(with_reducible refine(a3Q (a0e X b 3) W.drew _ x d b9).mono ?_);rintro R w5 ⟨l,u5,rfl,b7⟩;obtain⟨s5,a5,n5,c5,d5,k5,e5,rfl⟩:=b7.shape;have m:=j.ext0 (c.trans l);have n:=k.ext0 (c.trans l);have f6:=m.cell 0 rfl;have f7:=m.cell 1 rfl;have f8:=m.cell 2 rfl;have f9:=n.cell 0 rfl;have g3:=n.cell 1 rfl;have g4:=n.cell 2 rfl)|(go_at_call 86;(with_reducible refine(a3Q (a0e X b 3) w5 _ y (HX.ext d l) (mkx QV.mono c0 l)).mono ?_);rintro R w6 ⟨i,u6,rfl,b8⟩;obtain⟨s6,a6,n6,c6,d6,k6,e6,rfl⟩:=b8.shape;have a:=m.ext0 i;have g:=n.ext0 i;have h2:=a.cell 0 rfl;have h3:=a.cell 1 rfl;have h4:=a.cell 2 rfl;have h5:=g.cell 0 rfl;have h6:=g.cell 1 rfl;have h8:=g.cell 2 rfl;have g6:=a.frozen 0;have g7:=a.frozen 1;have h0:=a.frozen 2;have g8:=g.frozen 0;have g9:=g.frozen 1;have h1:=g.frozen 2))
  all_goals
   obtain⟨wf,c7,q0,q1,q2,q3,q4⟩:=a2h (X:=X) (nb:=3) a g (hE.trans ((c.trans l).trans i)) i6 (by omega) (.bool s5) (.slice a5 n5 c5) (.slice d5 k5 e5) (.bool s6) (.slice a6 n6 c6) (.slice d6 k6 e6);rw[c7];have i7:QC (mk (a0e X b 3) wf) (.agg #[.bool s5, .slice a5 n5 c5, .slice d5 k5 e5]) x:=QC.mono _ _ _ _ q4 (mkx QC.mono b7 i);have i8:QC (mk (a0e X b 3) wf) (.agg #[.bool s6, .slice a6 n6 c6, .slice d6 k6 e6]) y:=QC.mono _ _ _ _ q4 b8;have q5:=q2 (b+1+1) _ _ (by omega) (by omega) ((M.ext0 (c.trans l)).ext0 i);clear f6 f7 f8 f9 g3 g4 h2 h3 h4 h5 h6 h8 g6 g7 g8 g9 h0 h1 o p q r s t c7;go_wp2_with fail
   go_meet
   exact⟨_,_,_,_,_,_,_,_,_,_,_,_,_,_,q0,q1,q5,i7,i8,q3⟩
 case rest=>
  clear o p q r s t j k M F H b9 c0 d c hW;obtain⟨K,A,I,C,N,T,P,L,B,J,D,O,U,Q,j,k,M,hx,hy,a9⟩:=hcut;have d0:w.heap.size+3<=wc.heap.size:=by have:=M.lt;omega
  obtain⟨j6,m1,l1⟩:=hx.num;obtain⟨k0,m2,l2⟩:=hy.num;have i5:HX (a0e X b 3) wc:=hX.boxes' a9 (by have:=d0;omega) d0;have o:=j.cell 0 rfl;have p:=j.cell 1 rfl;have q:=j.cell 2 rfl;have r:=k.cell 0 rfl;have s:=k.cell 1 rfl;have t:=k.cell 2 rfl;have c:Ext wc wc.drew:=(ExtX.refl wc).drew;have d:HX (a0e X b 3) wc.drew:=i5;have j5:QC (mk (a0e X b 3) wc.drew) (.agg #[.bool K, .slice A I C, .slice N T P]) x:=hx;have j9:QC (mk (a0e X b 3) wc.drew) (.agg #[.bool L, .slice B J D, .slice O U Q]) y:=hy;have c8:ZC (mk (a0e X b 3) wc.drew) (.agg #[.bool K, .slice A I C]) x.num:=j6;have c9:ZC (mk (a0e X b 3) wc.drew) (.agg #[.bool L, .slice B J D]) y.num:=k0;have l6:lg x.num.natAbs<=549755813888:=Nat.le_trans (Nat.le_trans (a0B x) e.out) (by omega);have l8:lg y.num.natAbs<=549755813888:=Nat.le_trans (Nat.le_trans (a0B y) f.out) (by omega);have l5:lg x.den<=549755813888:=Nat.le_trans (Nat.le_trans (a0E x) e.out) (by omega);have l7:lg y.den<=549755813888:=Nat.le_trans (Nat.le_trans (a0E y) f.out) (by omega);have d9:lg (x.num*(y.den:Int)).natAbs<=274877906944:=by rw[Int.natAbs_mul,Int.natAbs_natCast];have:=a1c x.num.natAbs y.den;have:=a0B x;have:=a0E y;have:=e.out;have:=f.out;omega
  have e0:lg (y.num*(x.den:Int)).natAbs<=274877906944:=by rw[Int.natAbs_mul,Int.natAbs_natCast];have:=a1c y.num.natAbs x.den;have:=a0B y;have:=a0E x;have:=e.out;have:=f.out;omega
  have d8:lg (x.den*y.den)<=274877906944:=by have:=a1c x.den y.den;have:=a0E x;have:=a0E y;have:=e.out;have:=f.out;omega
  have l4:lg (x.num*y.num).natAbs<=274877906944:=by rw[Int.natAbs_mul];have:=a1c x.num.natAbs y.num.natAbs;have:=a0B x;have:=a0B y;have:=e.out;have:=f.out;omega
  have l3:0<x.den*y.den:=Nat.mul_pos x.den_pos y.den_pos;have E:=hid (And.intro j k);have S:Hid (∀W',Ext wc.drew W'->W'.cell? ⟨b,0,none⟩=some (.bool K)/\W'.cell? ⟨b,1,none⟩=some (.slice A I C)/\W'.cell? ⟨b,2,none⟩=some (.slice N T P)/\W'.cell? ⟨b+1,0,none⟩=some (.bool L)/\W'.cell? ⟨b+1,1,none⟩=some (.slice B J D)/\W'.cell? ⟨b+1,2,none⟩=some (.slice O U Q)):=
   hid fun W' h=>⟨(j.ext0 (c.trans h)).cell 0 rfl,(j.ext0 (c.trans h)).cell 1 rfl,(j.ext0 (c.trans h)).cell 2 rfl,(k.ext0 (c.trans h)).cell 0 rfl,(k.ext0 (c.trans h)).cell 1 rfl,(k.ext0 (c.trans h)).cell 2 rfl⟩
  have e7:hq x<=549755813888:=Nat.le_trans e.out (by decide);have e8:hq y<=549755813888:=Nat.le_trans f.out (by decide);have a0:lg x.num.natAbs<=274877906944:=Nat.le_trans (Nat.le_trans (a0B x) e.out) (by omega);have a8:lg y.num.natAbs<=274877906944:=Nat.le_trans (Nat.le_trans (a0B y) f.out) (by omega);have Z:lg (x.den:Int).natAbs<=274877906944:=Nat.le_trans (Nat.le_trans (a0E x) e.out) (by omega);have a7:lg (y.den:Int).natAbs<=274877906944:=Nat.le_trans (Nat.le_trans (a0E y) f.out) (by omega);have m0:lg ((x.den:Int)*(y.den:Int)).natAbs<=274877906944:=by rw[<-Int.natCast_mul,Int.natAbs_natCast];exact d8
  have l9:(x.den:Int)*(y.den:Int)≠0:=Int.mul_ne_zero (by have:=x.den_nz;omega) (by have:=y.den_nz;omega);have f3:lg ((x.den:Int)*y.num).natAbs<=274877906944:=by rw[Int.mul_comm];exact e0
  have f4:(x.den:Int)*y.num≠0:=Int.mul_ne_zero (by have:=x.den_nz;omega) (fun h=>j7 (Rat.num_eq_zero.1 h));have b6:Hid (((x.num*(y.den:Int):Int):Rat)/(((x.den:Int)*y.num:Int):Rat)=x/y):=hid (by rw[Int.mul_comm (x.den:Int)];exact b6Z x y);go_wp2_with fail
  go_region_held3 (fun V=>V.cell? ⟨b,0,none⟩=some (.bool K)/\V.cell? ⟨b,1,none⟩=some (.slice A I C)/\V.cell? ⟨b,2,none⟩=some (.slice N T P)/\V.cell? ⟨b+1,0,none⟩=some (.bool L)/\V.cell? ⟨b+1,1,none⟩=some (.slice B J D)/\V.cell? ⟨b+1,2,none⟩=some (.slice O U Q))
   (first|exact S.out _ t1|exact S.out _ t2|exact S.out _ t3|exact S.out _ t4|exact S.out _ z|exact⟨((E.out.1.ext0 (c.trans z)).ext (a.set3 _ _ _).2 (a0b (by omega))).cell 0 rfl,((E.out.1.ext0 (c.trans z)).ext (a.set3 _ _ _).2 (a0b (by omega))).cell 1 rfl,((E.out.1.ext0 (c.trans z)).ext (a.set3 _ _ _).2 (a0b (by omega))).cell 2 rfl,((E.out.2.ext0 (c.trans z)).ext (a.set3 _ _ _).2 (a0b (by omega))).cell 0 rfl,((E.out.2.ext0 (c.trans z)).ext (a.set3 _ _ _).2 (a0b (by omega))).cell 1 rfl,((E.out.2.ext0 (c.trans z)).ext (a.set3 _ _ _).2 (a0b (by omega))).cell 2 rfl⟩|go_keep)
   (first|(go_at_call 139;(with_reducible refine(a8I (a0e X b 3) wc.drew _ y d j9 e8).mono ?_);rintro R w5 ⟨t1,u5,rfl,i9⟩;have i1:=HX.ext d t1;have j3:=mkx ZC.mono c8 t1)|(go_at_call 138;(with_reducible refine(a9K (a0e X b 3) w5 _ _ x.num (y.den:Int) i1 (j3.zv (Nat.le_trans a0 (by decide))) (i9.zv (Nat.le_trans a7 (by decide))) a0 a7).mono ?_);rintro R w6 ⟨i,u6,rfl,j0⟩;have t2:=t1.trans i;have i2:=HX.ext d t2;have j4:=mkx QC.mono j5 t2)|(go_at_call 139;(with_reducible refine(a8I (a0e X b 3) w6 _ x i2 j4 e7).mono ?_);rintro R w7 ⟨b3,u7,rfl,j1⟩;have t3:=t2.trans b3;have i3:=HX.ext d t3;have j8:=mkx ZC.mono c9 t3)|(go_at_call 138;(with_reducible refine(a9K (a0e X b 3) w7 _ _ (x.den:Int) y.num i3 (j1.zv (Nat.le_trans Z (by decide))) (j8.zv (Nat.le_trans a8 (by decide))) Z a8).mono ?_);rintro R w8 ⟨b4,u8,rfl,j2⟩;have t4:=t3.trans b4;have i4:=HX.ext d t4;have k7:=mkx ZC.mono j0 (b3.trans b4))|(go_at_call 81;(with_reducible refine(b0I (a0e X b 3) w8 _ _ _ _ i4 k7 j2 d9 f3 f4).mono ?_);rintro R w9 ⟨h9,u9,rfl,G⟩;have z:=t4.trans h9;obtain⟨l0,d7,k9,e9,f5,k8,g5,rfl⟩:=G.shape;have a:=M.ext0 (c.trans z);have g0:=a.cell 0 rfl;have g1:=a.cell 1 rfl;have g2:=a.cell 2 rfl;have f0:=a.frozen 0;have f1:=a.frozen 1;have f2:=a.frozen 2))
  rw[b6.out]at G;obtain⟨r1,r2⟩:=a.set3 (.bool l0) (.slice d7 k9 e9) (.slice f5 k8 g5);have h7:=QC.mono _ _ _ _ a0k (QC.mono _ _ _ _ (a0g r2 (by omega) (by omega)) G);have i0:Ext w _:=ExtX.box (a9.trans (c.trans z)) r2 (by omega);clear g0 g1 g2 f0 f1 f2 o p q r s t S E;go_wp2_with fail
  exact bodyPost_ret (a0d rfl rfl a0o r1 rfl) rfl ⟨i0,_,rfl,h7⟩
theorem b7a(X:Nat->Bool)(w:World)(u v:Value)(l:List Rat)(c:Rat)(hX:HX X w)(hu:RV (mk X w) u l)(hv:QV (mk X w) v c)(hl:l.length<=1000000):Calls Tryz.prog 272 #[u,v] w (a1Y X w RC (l.map (· *c))):=by
 obtain⟨ao,ca,rfl,d8,e⟩:=hu;have b4:=e.hd;obtain⟨R,H,Q,I,K,P,M,rfl⟩:=hv.shape;obtain⟨W,hW,f,b0,hz⟩:=a0R w #[.bool R, .slice H Q I, .slice K P M] 38;have a8:HX X W:=hX.ext f;have b8:=e.mono QV.mono (a0m f);have c0:=mkx QV.mono hv f;obtain⟨b,hb⟩:∃b,w.heap.size=b:=⟨_,rfl⟩;rw[hb]at b0 hz;obtain⟨L,N⟩:∃L,l.map (· *c)=L:=⟨_,rfl⟩;have a4:L.length=l.length:=by rw[<-N];simp
 have a3:=hid (show∀i (hi:i<l.length) (b5:i<L.length),L[i]=l[i]*c from fun i hi b5=>by subst N;simp);rw[N];clear N e hv;go_enter Tryz.func272,Tryz.ntmps272
 go_wp2_with fail
 go_loopw [5,6] (fun o V wr=>∃(i:Nat) (d:Option Addr) (J:Nat),V= .int .i64 i/\o= .slice d i J/\i<=l.length/\OL QC 3 X W.heap.size 38 wr d J (L.take i)/\Ext W wr) (fun _ V _=>l.length - (intOf V).toNat)
 case atStart=>exact⟨0,none,0,rfl,rfl,Nat.zero_le _,OL.nil _ _ _ _ _ _,ExtX.refl _⟩
 case round=>
  obtain⟨i,d,J,rfl,rfl,hi,k,n⟩:=hrel;have y:HX X wr:=a8.ext n;have b2:HX (un X d) wr:=k.unX y;have b3:=n.size;by_cases B:i<l.length
  ·have b9:Sl QV 3 (mk (un X d) wr) ao l:=b8.old QV.mono n (fun j hj=>k.ob_lt hj)
   have m:i<L.length:=by omega
   have F:=hid (a0L L i m);have b7:=hid (a0V (l:=L) (i:=i) (by omega));obtain⟨g,p,s1,S,n1,U,d1,k1,e1,A,a5,z,E⟩:=b9.rat QV.shaped i B;have C:=(a1a a5).2;have D:ob d b=false:=k.ob_lt (by omega);have i1:∀W,(Instr.indexAt 25 (.slice ao l.length ca) (.int .i64 (i:Int))).run Tryz.prog W= .ok (.pointer (some ⟨g,p,none⟩)) W:=by rw[<-A];exact a0h a0w ao l.length ca .i64 i b4 (by omega)
   have a:Ext wr wr.drew:=(ExtX.refl wr).drew;have O:Hid (∀Y W',ExtX Y wr.drew W'->Y g=false->Y b=false->W'.cell? ⟨g,p,none⟩=some (.bool s1)/\W'.cell? ⟨g,p+1,none⟩=some (.slice S n1 U)/\W'.cell? ⟨g,p+2,none⟩=some (.slice d1 k1 e1)/\W'.cell? ⟨b,0,none⟩=some (.bool R)/\W'.cell? ⟨b,1,none⟩=some (.slice H Q I)/\W'.cell? ⟨b,2,none⟩=some (.slice K P M)):=hid fun Y W' h hg hb=>by
    have p1:=z.out Y W' ((ExtX.of a).trans h) hg;have T:=(b0.ext0 (n.trans a)).ext h hb;exact⟨p1.1,p1.2.1,p1.2.2,T.cell 0 rfl,T.cell 1 rfl,T.cell 2 rfl⟩
   obtain⟨c7,c8,c9,d0,d3,d4⟩:=O.out noY wr.drew (ExtX.refl _) rfl rfl;have c4:QV (mk (un X d) wr.drew) (.agg #[.bool s1, .slice S n1 U, .slice d1 k1 e1]) l[i]:=E;have c3:QV (mk (un X d) wr.drew) (.agg #[.bool R, .slice H Q I, .slice K P M]) c:=a4F QV.mono c0 (n.trans a) (fun j hj=>k.ob_lt hj);have a9:HX (un X d) wr.drew:=b2;have c5:=a3.out i B m;rw[c5]at F;clear z A E;go_wp2_with fail
   go_region_held3 (fun r=>r.cell? ⟨g,p,none⟩=some (.bool s1)/\r.cell? ⟨g,p+1,none⟩=some (.slice S n1 U)/\r.cell? ⟨g,p+2,none⟩=some (.slice d1 k1 e1)/\r.cell? ⟨b,0,none⟩=some (.bool R)/\r.cell? ⟨b,1,none⟩=some (.slice H Q I)/\r.cell? ⟨b,2,none⟩=some (.slice K P M))
    (first|exact O.out noY _ q rfl rfl|exact O.out noY _ (ExtX.alloc q _) rfl rfl|exact O.out (ob d) _ ((ExtX.of q).trans s) C D|go_keep)
    (first|(go_at_call 52;(with_reducible refine(b1I (un X d) wr.drew _ _ _ c a9 c4 c3).mono ?_);rintro ee w6 ⟨q,u6,rfl,G⟩;obtain⟨s6,a6,n6,c6,d6,k6,e6,rfl⟩:=G.shape;have t:=k.ext0 QC.elem (a.trans q);have d7:=(a.trans q).size;have a7:=y.ext (a.trans q))|(refine a1D (l:=L.take i) rfl (by rfl) a0w rfl QC.elem (by omega) a7 i b7.out rfl rfl t (.agg #[.bool s6, .slice a6 n6 c6, .slice d6 k6 e6]) (l[i]*c) rfl G (by omega) (by omega) ?_;intro d5 Z w7 x s d9))
   have a0:=(n.trans (a.trans q)).own t (Nat.le_refl _) s;rw[F.out]at x;clear c7 c8 c9 d0 d3 d4;go_wp2_with fail
   go_roundw
   case rel=>exact⟨i+1,d5,Z,by go_num,by go_num,by omega,x,a0⟩
   case measure=>simp[intOf];omega
  ·have b6:i=l.length:=by omega
   subst b6;rw[List.take_of_length_le (by omega)]at k;have hc:=k.lenCap;have hs:=k.sl QC.elem;go_wp2_with fail
   go_ret
   exact⟨f.trans n,_,rfl,d,J,by rw[a4];rfl,hc,hs⟩
theorem c1j(X:Nat->Bool)(w:World)(u v:Value)(l m:List Rat)(hX:HX X w)(hu:RV (mk X w) u l)(hv:RV (mk X w) v m)(hl:l.length<=1000000)(b7:m.length=l.length):Calls Tryz.prog 273 #[u,v] w (a1Y X w RC (List.zipWith (· + ·) l m)):=by
 obtain⟨ao,ca,rfl,e0,M⟩:=hu;have b2:=M.hd;obtain⟨Z,cb,rfl,e3,N⟩:=hv;have b3:=N.hd;have d7:m.length<=l.length:=by omega
 have d8:l.length<=m.length:=by omega
 obtain⟨L,S⟩:∃L,List.zipWith (· + ·) l m=L:=⟨_,rfl⟩;have t:L.length=l.length:=by rw[<-S];simp;omega
 have a4:=hid (show∀i (hi:i<l.length) (F:i<m.length) (b4:i<L.length),L[i]=l[i]+m[i]from fun i hi F b4=>by subst S;simp);rw[S];have d4:L.length<=l.length:=by omega
 have d5:l.length<=L.length:=by omega
 have x:=hid t;clear S b7 t;go_enter Tryz.func273,Tryz.ntmps273
 go_wp2_with fail
 go_loopw [5,6] (fun o cc wr=>∃(i:Nat) (b:Option Addr) (R:Nat),cc= .int .i64 i/\o= .slice b i R/\i<=l.length/\OL QC 3 X w.heap.size 38 wr b R (L.take i)/\Ext w wr) (fun _ cc _=>l.length - (intOf cc).toNat)
 case atStart=>exact⟨0,none,0,rfl,rfl,Nat.zero_le _,OL.nil _ _ _ _ _ _,ExtX.refl _⟩
 case round=>
  obtain⟨i,b,R,rfl,rfl,hi,g,q⟩:=hrel;have A:HX X wr:=hX.ext q;have b0:HX (un X b) wr:=g.unX A;have b1:=q.size;by_cases G:i<l.length
  ·have b8:Sl QV 3 (mk (un X b) wr) ao l:=M.old QV.mono q (fun j F=>g.ob_lt F)
   have e:i<L.length:=by omega
   have P:=hid (a0L L i e);have b6:=hid (a0V (l:=L) (i:=i) (by omega));have f:i<m.length:=by omega
   have O:Sl QV 3 (mk (un X b) wr) Z m:=N.old QV.mono q (fun j F=>g.ob_lt F);obtain⟨d,n,s2,V,n2,c2,d2,k2,e2,E,a7,C,K⟩:=O.rat QV.shaped i f;obtain⟨c,k,s1,U,n1,c1,d1,k1,e1,D,a5,B,J⟩:=b8.rat QV.shaped i G;have H:=(a1a a5).2;have I:=(a1a a7).2;have i2:∀W,(Instr.indexAt 25 (.slice Z m.length cb) (.int .i64 (i:Int))).run Tryz.prog W= .ok (.pointer (some ⟨d,n,none⟩)) W:=by rw[<-E];exact a0h a0w Z m.length cb .i64 i b3 (by omega)
   have i1:∀W,(Instr.indexAt 25 (.slice ao l.length ca) (.int .i64 (i:Int))).run Tryz.prog W= .ok (.pointer (some ⟨c,k,none⟩)) W:=by rw[<-D];exact a0h a0w ao l.length ca .i64 i b2 (by omega)
   have a:Ext wr wr.drew:=(ExtX.refl wr).drew;have T:Hid (∀Y W',ExtX Y wr.drew W'->Y c=false->Y d=false->W'.cell? ⟨c,k,none⟩=some (.bool s1)/\W'.cell? ⟨c,k+1,none⟩=some (.slice U n1 c1)/\W'.cell? ⟨c,k+2,none⟩=some (.slice d1 k1 e1)/\W'.cell? ⟨d,n,none⟩=some (.bool s2)/\W'.cell? ⟨d,n+1,none⟩=some (.slice V n2 c2)/\W'.cell? ⟨d,n+2,none⟩=some (.slice d2 k2 e2)):=hid fun Y W' h hg hb=>by
    have p1:=B.out Y W' ((ExtX.of a).trans h) hg;have p2:=C.out Y W' ((ExtX.of a).trans h) hb;exact⟨p1.1,p1.2.1,p1.2.2,p2.1,p2.2.1,p2.2.2⟩
   obtain⟨c4,c5,c7,c8,c9,d0⟩:=T.out noY wr.drew (ExtX.refl _) rfl rfl;have c0:QV (mk (un X b) wr.drew) (.agg #[.bool s1, .slice U n1 c1, .slice d1 k1 e1]) l[i]:=J;have b9:QV (mk (un X b) wr.drew) (.agg #[.bool s2, .slice V n2 c2, .slice d2 k2 e2]) m[i]:=K;have a9:HX (un X b) wr.drew:=b0;have c3:=a4.out i G f e;rw[c3]at P;clear B D J C E K;go_wp2_with fail
   go_region_held3 (fun r=>r.cell? ⟨c,k,none⟩=some (.bool s1)/\r.cell? ⟨c,k+1,none⟩=some (.slice U n1 c1)/\r.cell? ⟨c,k+2,none⟩=some (.slice d1 k1 e1)/\r.cell? ⟨d,n,none⟩=some (.bool s2)/\r.cell? ⟨d,n+1,none⟩=some (.slice V n2 c2)/\r.cell? ⟨d,n+2,none⟩=some (.slice d2 k2 e2))
    (first|exact T.out noY _ p rfl rfl|exact T.out noY _ (ExtX.alloc p _) rfl rfl|exact T.out (ob b) _ ((ExtX.of p).trans s) H I|go_keep)
    (first|(go_at_call 51;(with_reducible refine(b2R (un X b) wr.drew _ _ _ _ a9 c0 b9).mono ?_);rintro ee w6 ⟨p,u6,rfl,Q⟩;obtain⟨s6,a6,n6,c6,d6,k6,e6,rfl⟩:=Q.shape;have y:=g.ext0 QC.elem (a.trans p);have d9:=(a.trans p).size;have a8:=A.ext (a.trans p))|(refine a1D (l:=L.take i) rfl (by rfl) a0w rfl QC.elem (by omega) a8 i b6.out rfl rfl y (.agg #[.bool s6, .slice a6 n6 c6, .slice d6 k6 e6]) (l[i]+m[i]) rfl Q (by omega) (by omega) ?_;intro d3 a0 w7 z s e4))
   have a3:=(q.trans (a.trans p)).own y (Nat.le_refl _) s;rw[P.out]at z;clear c4 c5 c7 c8 c9 d0;go_wp2_with fail
   go_roundw
   case rel=>exact⟨i+1,d3,a0,by go_num,by go_num,by omega,z,a3⟩
   case measure=>simp[intOf];omega
  ·have b5:i=l.length:=by omega
   subst b5;rw[List.take_of_length_le (by omega)]at g;have hc:=g.lenCap;have hs:=g.sl QC.elem;go_wp2_with fail
   go_ret
   exact⟨q,_,rfl,b,R,by rw[x.out];rfl,hc,hs⟩
end Go.Proofs.YtgbbpgflopajaaaGreat
namespace Go.Lin
open Go.Lim
end Go.Lin
namespace Go.Proofs.YtgbbpgflopajaaaGreat
open Go.RowKit Go.Rep Go.Lim Go.Lin
theorem b2S(X:Nat->Bool)(w:World)(u v:Value)(x y:Rat)(hX:HX X w)(C:QV (mk X w) u x)(D:QV (mk X w) v y):Calls Tryz.prog 49 #[u,v] w (a1Y X w QC (x - y)):=by
 have a8:=hid C.hq;have Q:=hid D.hq;obtain⟨I,p,G,r,t,E,A,rfl⟩:=C.shape;obtain⟨J,q,H,s,z,F,B,rfl⟩:=D.shape;obtain⟨W,hW,L,e,f,b2,hz⟩:=a2C w #[.bool I, .slice p G r, .slice t E A] #[.bool J, .slice q H s, .slice z F B] #[.bool false, .slice none 0 0, .slice none 0 0] 38 38 38;have k:HX (a0e X w.heap.size 3) W:=hX.boxes hz;have n:=QV.mono _ _ _ _ (a0l (nb:=3) L) C;have o:=QV.mono _ _ _ _ (a0l (nb:=3) L) D;obtain⟨b,hb⟩:∃b,w.heap.size=b:=⟨_,rfl⟩;have a7:w.heap.size<=b:=by omega
 rw[hb]at e f b2 hz k n o;have a:Ext W W.drew:=(ExtX.refl W).drew;have l:HX (a0e X b 3) W.drew:=k;have T:QV (mk (a0e X b 3) W.drew) (.agg #[.bool I, .slice p G r, .slice t E A]) x:=n;have U:QV (mk (a0e X b 3) W.drew) (.agg #[.bool J, .slice q H s, .slice z F B]) y:=o;have Y:=e.cell 0 rfl;have Z:=e.cell 1 rfl;have a0:=e.cell 2 rfl;have a3:=f.cell 0 rfl;have a4:=f.cell 1 rfl;have a5:=f.cell 2 rfl;clear C D;have g:=hid (And.intro e f);have O:Hid (∀W',Ext W.drew W'->W'.cell? ⟨b,0,none⟩=some (.bool I)/\W'.cell? ⟨b,1,none⟩=some (.slice p G r)/\W'.cell? ⟨b,2,none⟩=some (.slice t E A)/\W'.cell? ⟨b+1,0,none⟩=some (.bool J)/\W'.cell? ⟨b+1,1,none⟩=some (.slice q H s)/\W'.cell? ⟨b+1,2,none⟩=some (.slice z F B)):=
  hid fun W' h=>⟨(e.ext0 (a.trans h)).cell 0 rfl,(e.ext0 (a.trans h)).cell 1 rfl,(e.ext0 (a.trans h)).cell 2 rfl,(f.ext0 (a.trans h)).cell 0 rfl,(f.ext0 (a.trans h)).cell 1 rfl,(f.ext0 (a.trans h)).cell 2 rfl⟩
 have R:=hid (show hq (-y)<=68719476736 by rw[a5Z];exact Q.out);have m:Hid (x+ -y=x - y):=hid (Rat.sub_eq_add_neg x y).symm;go_enter Tryz.func49,Tryz.ntmps49
 go_upto_region 1 with(fail)
 go_region_held3 (fun j=>j.cell? ⟨b,0,none⟩=some (.bool I)/\j.cell? ⟨b,1,none⟩=some (.slice p G r)/\j.cell? ⟨b,2,none⟩=some (.slice t E A)/\j.cell? ⟨b+1,0,none⟩=some (.bool J)/\j.cell? ⟨b+1,1,none⟩=some (.slice q H s)/\j.cell? ⟨b+1,2,none⟩=some (.slice z F B))
  (first|exact O.out _ K|exact O.out _ d|exact⟨((g.out.1.ext0 (a.trans d)).ext (c.set3 _ _ _).2 (a0b (by omega))).cell 0 rfl,((g.out.1.ext0 (a.trans d)).ext (c.set3 _ _ _).2 (a0b (by omega))).cell 1 rfl,((g.out.1.ext0 (a.trans d)).ext (c.set3 _ _ _).2 (a0b (by omega))).cell 2 rfl,((g.out.2.ext0 (a.trans d)).ext (c.set3 _ _ _).2 (a0b (by omega))).cell 0 rfl,((g.out.2.ext0 (a.trans d)).ext (c.set3 _ _ _).2 (a0b (by omega))).cell 1 rfl,((g.out.2.ext0 (a.trans d)).ext (c.set3 _ _ _).2 (a0b (by omega))).cell 2 rfl⟩|go_keep)
  (first|(go_at_call 136;(with_reducible refine(b8e (a0e X b 3) W.drew _ y l U).mono ?_);rintro ee w5 ⟨K,u5,rfl,S⟩;have P:=HX.ext l K;have V:=mkx QV.mono T K)|(go_at_call 51;(with_reducible refine(b2R (a0e X b 3) w5 _ _ x (-y) P V (S.qv R.out)).mono ?_);rintro ee w6 ⟨M,u6,rfl,i⟩;obtain⟨s6,a6,n6,c6,d6,k6,e6,rfl⟩:=i.shape;have d:=K.trans M;have c:=b2.ext0 (a.trans d);have g0:=c.cell 0 rfl;have g1:=c.cell 1 rfl;have g2:=c.cell 2 rfl;have f0:=c.frozen 0;have f1:=c.frozen 1;have f2:=c.frozen 2))
 rw[m.out]at i;obtain⟨q1,q2⟩:=c.set3 (.bool s6) (.slice a6 n6 c6) (.slice d6 k6 e6);have h7:=QC.mono _ _ _ _ a0k (QC.mono _ _ _ _ (a0g q2 (by omega) (by omega)) i);have N:Ext w _:=ExtX.box (L.trans (a.trans d)) q2 (by omega);clear g0 g1 g2 f0 f1 f2 Y Z a0 a3 a4 a5 O g;go_wp2_with fail
 exact bodyPost_ret (a0d rfl rfl a0o q1 rfl) rfl ⟨N,_,rfl,h7⟩
theorem b2T(X:Nat->Bool)(w:World)(u v:Value)(x y:Rat)(R:HX X w)(l:QV (mk X w) u x)(m:QV (mk X w) v y)(c:hq (x - y)<=68719476736):Calls Tryz.prog 23 #[u,v] w (a4C w (x - y).num.sign):=by
 have V:=hid l.hq;have Y:=hid m.hq;obtain⟨O,C,M,E,G,K,I,rfl⟩:=l.shape;obtain⟨P,D,N,F,H,L,J,rfl⟩:=m.shape;obtain⟨W,hW,n,j,k,hz⟩:=a1x w #[.bool O, .slice C M E, .slice G K I] #[.bool P, .slice D N F, .slice H L J] 38 38;have a:HX (a0e X w.heap.size 2) W:=R.boxes hz;have f:=QV.mono _ _ _ _ (a0l (nb:=2) n) l;have h:=QV.mono _ _ _ _ (a0l (nb:=2) n) m;obtain⟨b,T⟩:∃b,w.heap.size=b:=⟨_,rfl⟩;have U:w.heap.size<=b:=by omega
 rw[T]at j k hz a f h;have Q:Ext W W.drew:=(ExtX.refl W).drew;have S:HX (a0e X b 2) W.drew:=a;have Z:QV (mk (a0e X b 2) W.drew) (.agg #[.bool O, .slice C M E, .slice G K I]) x:=f;have a0:QV (mk (a0e X b 2) W.drew) (.agg #[.bool P, .slice D N F, .slice H L J]) y:=h;have r:=j.cell 0 rfl;have s:=j.cell 1 rfl;have t:=j.cell 2 rfl;have z:=k.cell 0 rfl;have A:=k.cell 1 rfl;have B:=k.cell 2 rfl;clear l m
 replace c:=hid c
 obtain⟨q,d⟩:∃q:Rat,x - y=q:=⟨_,rfl⟩;rw[d]at c |-;have p:=hid d;clear d;go_enter Tryz.func23,Tryz.ntmps23
 go_wp2_with fail
 refine(b2S (a0e X b 2) W _ _ x y a f h).mono ?_;rintro e w5 ⟨i,u5,rfl,g⟩;rw[p.out]at g;obtain⟨s5,a5,n5,c5,d5,k5,e5,rfl⟩:=g.shape;clear r s t z A B;go_wp2_with fail
 refine(a7z (a0e X b 2) w5 _ q (a.ext i) (g.qv c.out)).mono ?_;rintro e w6 ⟨o,rfl⟩;go_wp2_with fail
 go_ret
 exact⟨n.trans (i.trans o),rfl⟩
theorem a7A(X:Nat->Bool)(w:World)(a k:Int)(z:HX X w)(o: -9223372036854775808<=a)(p:a<=9223372036854775807)(q: -9223372036854775808<=k)(r:k<=9223372036854775807)(t:k≠0)(s:lg a.natAbs<=274877906944)(i:lg k.natAbs<=274877906944):Calls Tryz.prog 17 #[.int .i64 a, .int .i64 k] w (a1Y X w QC ((a:Rat)/(k:Rat))):=by
 obtain⟨W,L,y,n,hz⟩:=a0R w #[.bool false, .slice none 0 0, .slice none 0 0] 38;have f:HX (a0e X w.heap.size 1) W:=z.boxes hz;obtain⟨b,A⟩:∃b,w.heap.size=b:=⟨_,rfl⟩;have B:w.heap.size<=b:=by omega
 rw[A]at n hz f;have e:=hid (And.intro (And.intro o p) (And.intro (And.intro q r) (And.intro t (And.intro s i))));clear o p q r t s i;go_enter Tryz.func17,Tryz.ntmps17
 go_wp2_with fail
 refine(b2O (a0e X b 1) W a f e.out.1.1 e.out.1.2).mono ?_;rintro I D ⟨d,P,rfl,l⟩;have h:=f.ext d;go_wp2_with fail
 refine(b2O (a0e X b 1) D k h e.out.2.1.1 e.out.2.1.2).mono ?_;rintro J E ⟨c,Q,rfl,m⟩;go_wp2_with fail
 refine(b0I (a0e X b 1) E _ _ a k (h.ext c) (mkx ZC.mono l c) m e.out.2.2.2.1 e.out.2.2.2.2 e.out.2.2.1).mono ?_;rintro K S ⟨g,R,rfl,j⟩;obtain⟨O,F,N,G,H,M,e5,rfl⟩:=j.shape;have v:=((n.ext0 d).ext0 c).ext0 g;go_wp2_with ((with_reducible show wpList _ _ _ (⟨_, .store _ _ _,_,_,_,_⟩::_) _ _);refine a0a a0o rfl rfl v rfl rfl (a1z _ _ _ _ _ _ _) ?_;intro T C u)
 have x:=QC.mono _ _ _ _ a0k (QC.mono _ _ _ _ (a0g u (by omega) (by omega)) j);exact bodyPost_ret (a0d rfl rfl a0o C rfl) rfl ⟨ExtX.box (y.trans (d.trans (c.trans g))) u (by omega),_,rfl,x⟩
def c1k(X:Nat->Bool)(w:World)(l:List (List Rat))(e:Ending)(w':World):Prop:=Ext w w'/\∃oo co,e= .returned (.slice oo l.length co)/\OL RC 1 X w.heap.size 25 w' oo co l
theorem b8f(X:Nat->Bool)(w:World)(u:Value)(l:List (List Rat))(R:HX X w)(Z:MV (mk X w) u l)(hl:l.length<=1000000)(q:∀r∈l,r.length<=1000000):Calls Tryz.prog 271 #[u] w (c1k X w l):=by
 obtain⟨ao,ca,rfl,U,t⟩:=Z;have V:=t.hd;have s:=hid q;clear q;go_enter Tryz.func271,Tryz.ntmps271
 go_wp2_with fail
 go_loopw [3,4] (fun o c wr=>∃(i:Nat) (b:Option Addr) (v:Nat),c= .int .i64 i/\o= .slice b i v/\i<=l.length/\OL RC 1 X w.heap.size 25 wr b v (l.take i)/\Ext w wr) (fun _ c _=>l.length - (intOf c).toNat)
 case atStart=>exact⟨0,none,0,rfl,rfl,Nat.zero_le _,OL.nil _ _ _ _ _ _,ExtX.refl _⟩
 case round=>
  obtain⟨i,b,v,rfl,rfl,hi,f,d⟩:=hrel;have k:HX X wr:=R.ext d;have A:HX (un X b) wr:=f.unX k;have B:=d.size;by_cases p:i<l.length
  ·have I:Sl RV 1 (mk (un X b) wr) ao l:=t.old RV.mono d (fun j W=>f.ob_lt W)
   have J:=hid (a0L l i p);have E:=hid (a0V hi);obtain⟨P,Q,S,C,m,G⟩:=I.row i p;have L:=C.out noY wr (ExtX.refl _) rfl;have F:=hid (s.out l[i] (List.getElem_mem _));go_wp2_with (with_reducible refine a0s a0p (by omega) (by assumption) ?_)
   refine(b1H (un X b) wr _ l[i] A ⟨P,Q,rfl,m,G⟩ F.out).mono ?_;rintro e w6 ⟨a,u6,rfl,K⟩;obtain⟨N,O,rfl,n,H⟩:=K;have g:=f.ext0 RC.elem a;have T:=a.size;clear L;go_wp2_with (at_builtin;refine a0t (l:=l.take i) a0p rfl RC.elem (by omega) (k.ext a) i E.out rfl rfl g (.slice N l[i].length O) l[i] rfl ⟨N,O,rfl,n,H⟩ (by omega) (by omega) ?_;intro M x w7 h y Y)
   have z:=(d.trans a).own g (Nat.le_refl _) y;rw[J.out]at h;go_roundw
   case rel=>exact⟨i+1,M,x,by go_num,by go_num,by omega,h,z⟩
   case measure=>simp[intOf];omega
  ·have D:i=l.length:=by omega
   subst D;rw[List.take_length]at f;go_wp2_with fail
   go_ret
   exact⟨d,b,v,rfl,f⟩
end Go.Proofs.YtgbbpgflopajaaaGreat
namespace Go.Lin
def sm:Nat->(Nat->Rat)->Rat
 |0,_=>0
 |n+1,f=>sm n f+f n
theorem a0f{n:Nat}{f g:Nat->Rat}(h:∀i,i<n->f i=g i):sm n f=sm n g:=by
 induction n with
 |zero=>rfl
 |succ n ih=>unfold sm;rw[ih fun i hi=>h i (by omega),h n (by omega)]
theorem a2b{n:Nat}{f:Nat->Rat}(h:∀i,i<n->f i=0):sm n f=0:=by
 induction n with
 |zero=>rfl
 |succ n ih=>unfold sm;rw[ih fun i hi=>h i (by omega),h n (by omega)];grind
theorem a5j(n:Nat)(f g:Nat->Rat):sm n (fun i=>f i+g i)=sm n f+sm n g:=by
 induction n with
 |zero=>unfold sm;grind
 |succ n ih=>unfold sm;rw[ih];grind
theorem a1l(n:Nat)(a:Rat)(f:Nat->Rat):sm n (fun i=>a*f i)=a*sm n f:=by
 induction n with
 |zero=>unfold sm;grind
 |succ n ih=>unfold sm;rw[ih];grind
theorem a2w(n m:Nat)(f:Nat->Nat->Rat):sm n (fun i=>sm m (fun j=>f i j))=sm m (fun j=>sm n (fun i=>f i j)):=by
 induction n with
 |zero=>simp only[sm];rw[a2b];intros;rfl
 |succ n ih=>simp only[sm];rw[ih,a5j]
theorem a1E{n:Nat}{f:Nat->Rat}(k:Nat)(hk:k<n)(h:∀i,i<n->i≠k->f i=0):sm n f=f k:=by
 induction n with
 |zero=>omega
 |succ n ih=>
  unfold sm;by_cases e:k=n
  ·subst e;rw[a2b fun i hi=>h i (by omega) (by omega)];grind
  ·rw[ih (by omega) fun i hi hik=>h i (by omega) hik,h n (by omega) (by omega)];grind
theorem a6I(n:Nat)(f g:Nat->Rat):sm n (fun i=>f i - g i)=sm n f - sm n g:=by
 induction n with
 |zero=>unfold sm;grind
 |succ n ih=>unfold sm;rw[ih];grind
theorem b8g{n:Nat}{f g:Nat->Rat}(k:Nat)(b:k<n)(h:∀i,i<n->i≠k->f i=g i)(a:f k=g k):sm n f=sm n g:=
 a0f fun i hi=>by
             by_cases e:i=k
             ·subst e;exact a
             ·exact h i hi e
theorem b7b{n:Nat}{f g:Nat->Rat}(i k:Nat)(hi:i<n)(l:k<n)(d:i≠k)(h:∀r,r<n->r≠i->r≠k->f r=g r)(m:f i+f k=g i+g k):sm n f=sm n g:=by
 have e:sm n (fun r=>f r - g r)=0:=by
  have j:∀r,r<n->(fun r=>f r - g r) r=(fun r=>(if r=i then f i - g i else 0)+(if r=k then f k - g k else 0)) r:=by
   intro r c
   show f r - g r=_
   by_cases a:r=i
   ·subst a;simp[d];grind
   ·by_cases b:r=k
    ·subst b;simp[a];grind
    ·simp[a,b];rw[h r c a b];grind
  rw[a0f j,a5j,a1E i hi (fun r _ c=>by simp[c]),a1E k l (fun r _ c=>by simp[c])];simp;grind
 rw[a6I]at e;grind
abbrev F2:=Nat->Nat->Rat
def Eqm(n c:Nat)(f g:F2):Prop:=∀i,i<n->∀j,j<c->f i j=g i j
def Nul(n c:Nat)(f:F2)(x:Nat->Rat):Prop:=∀i,i<n->sm c (fun j=>f i j*x j)=0
inductive RE (n c:Nat):F2->F2->Rat->Prop
 |same {f g:F2} (h:Eqm n c f g):RE n c f g 1
 |swap {f g:F2} (i k:Nat) (hi:i<n) (hk:k<n) (hik:i≠k) (h1:∀j,j<c->g i j=f k j) (h2:∀j,j<c->g k j=f i j) (h3:∀r,r<n->r≠i->r≠k->∀j,j<c->g r j=f r j):RE n c f g (-1)
 |scale {f g:F2} (i:Nat) (a:Rat) (hi:i<n) (ha:a≠0) (h1:∀j,j<c->g i j=a*f i j) (h3:∀r,r<n->r≠i->∀j,j<c->g r j=f r j):RE n c f g a
 |add {f g:F2} (i k:Nat) (a:Rat) (hi:i<n) (hk:k<n) (hik:i≠k) (h1:∀j,j<c->g i j=f i j+a*f k j) (h3:∀r,r<n->r≠i->∀j,j<c->g r j=f r j):RE n c f g 1
 |trans {f g h:F2} {a b:Rat} (h1:RE n c f g a) (h2:RE n c g h b):RE n c f h (a*b)
theorem RE.ne{n c:Nat}{f g:F2}{d:Rat}(h:RE n c f g d):d≠0:=by
 induction h with
 |same=>grind
 |swap=>grind
 |scale=>assumption
 |add=>grind
 |trans _ _ ih1 ih2=>intro e;rcases Rat.mul_eq_zero.1 e with h|h<;>contradiction
theorem RE.nul{n c:Nat}{f g:F2}{d:Rat}(h:RE n c f g d)(x:Nat->Rat):Nul n c f x↔Nul n c g x:=by
 induction h with
 |same h=>
  constructor
  ·intro hn i hi;rw[<-hn i hi];exact a0f fun j hj=>by rw[h i hi j hj]
  ·intro hn i hi;rw[<-hn i hi];exact a0f fun j hj=>by rw[h i hi j hj]
 |swap i k hi hk hik h1 h2 h3=>
  constructor
  ·intro hn r hr
   by_cases a:r=i
   ·subst a;rw[<-hn k hk];exact a0f fun j hj=>by rw[h1 j hj]
   ·by_cases b:r=k
    ·subst b;rw[<-hn i hi];exact a0f fun j hj=>by rw[h2 j hj]
    ·rw[<-hn r hr];exact a0f fun j hj=>by rw[h3 r hr a b j hj]
  ·intro hn r hr
   by_cases a:r=i
   ·subst a;rw[<-hn k hk];exact a0f fun j hj=>by rw[h2 j hj]
   ·by_cases b:r=k
    ·subst b;rw[<-hn i hi];exact a0f fun j hj=>by rw[h1 j hj]
    ·rw[<-hn r hr];exact a0f fun j hj=>by rw[h3 r hr a b j hj]
 |@scale f g i a hi ha h1 h3=>
  have key:sm c (fun j=>g i j*x j)=a*sm c (fun j=>f i j*x j):=by
   rw[<-a1l];exact a0f fun j hj=>by rw[h1 j hj];grind
  constructor
  ·intro hn r hr
   by_cases e:r=i
   ·subst e;rw[key,hn r hr];grind
   ·rw[<-hn r hr];exact a0f fun j hj=>by rw[h3 r hr e j hj]
  ·intro hn r hr
   by_cases e:r=i
   ·subst e;have:=hn r hr;rw[key]at this;rcases Rat.mul_eq_zero.1 this with h|h
    ·contradiction
    ·exact h
   ·rw[<-hn r hr];exact a0f fun j hj=>by rw[h3 r hr e j hj]
 |@add f g i k a hi hk hik h1 h3=>
  have key:sm c (fun j=>g i j*x j)=sm c (fun j=>f i j*x j)+a*sm c (fun j=>f k j*x j):=by
   rw[<-a1l,<-a5j];exact a0f fun j hj=>by rw[h1 j hj];grind
  constructor
  ·intro hn r hr
   by_cases e:r=i
   ·subst e;rw[key,hn r hr,hn k hk];grind
   ·rw[<-hn r hr];exact a0f fun j hj=>by rw[h3 r hr e j hj]
  ·intro hn r hr
   by_cases e:r=i
   ·subst e
    have h4:=hn r hr;rw[key]at h4;have h5:=hn k hk;rw[show sm c (fun j=>g k j*x j)=sm c (fun j=>f k j*x j)from a0f fun j hj=>by rw[h3 k hk (by omega) j hj]]at h5;rw[h5]at h4;grind
   ·rw[<-hn r hr];exact a0f fun j hj=>by rw[h3 r hr e j hj]
 |trans _ _ ih1 ih2=>exact ih1.trans ih2
def cmb(n:Nat)(f:F2)(y:Nat->Rat)(j:Nat):Rat:=sm n fun i=>y i*f i j
def LI(n c:Nat)(f:F2):Prop:=∀y:Nat->Rat,(∀j,j<c->cmb n f y j=0)->∀i,i<n->y i=0
theorem RE.li{n c:Nat}{f g:F2}{d:Rat}(h:RE n c f g d)(hf:LI n c f):LI n c g:=by
 induction h with
 |same h=>
  intro y hy;exact hf y fun j hj=>by rw[<-hy j hj];exact a0f fun i hi=>by rw[h i hi j hj]
 |@swap f g i k hi hk hik h1 h2 h3=>
  intro y hy;have:=hf (fun r=>if r=i then y k else if r=k then y i else y r) fun j hj=>by
   rw[<-hy j hj];refine b7b i k hi hk hik (fun r hr a b=>?_) ?_
   ·simp[a,b,h3 r hr a b j hj]
   ·simp[hik.symm,h1 j hj,h2 j hj];grind
  intro r hr;by_cases a:r=i
  ·subst a;simpa[hik.symm]using this k hk
  ·by_cases b:r=k
   ·subst b;simpa using this i hi
   ·simpa[a,b]using this r hr
 |@scale f g i a hi ha h1 h3=>
  intro y hy;have:=hf (fun r=>if r=i then a*y i else y r) fun j hj=>by
   rw[<-hy j hj];refine b8g i hi (fun r hr e=>?_) ?_
   ·simp[e,h3 r hr e j hj]
   ·simp[h1 j hj];grind
  intro r hr;by_cases e:r=i
  ·subst e
   have h4:=this r hr;simp only[if_true]at h4;rcases Rat.mul_eq_zero.1 h4 with h4|h4
   ·contradiction
   ·exact h4
  ·simpa[e]using this r hr
 |@add f g i k a hi hk hik h1 h3=>
  intro y hy;have:=hf (fun r=>if r=k then y k+a*y i else y r) fun j hj=>by
   rw[<-hy j hj];refine b7b i k hi hk hik (fun r hr a b=>?_) ?_
   ·simp[b,h3 r hr a j hj]
   ·simp[hik,h1 j hj,h3 k hk hik.symm j hj];grind
  intro r hr;have hyi:y i=0:=by simpa[hik]using this i hi
  by_cases e:r=k
  ·subst e
   have h4:=this r hr;simp[hyi]at h4;grind
  ·simpa[e]using this r hr
 |trans _ _ ih1 ih2=>exact ih2 (ih1 hf)
structure Rref (n c:Nat) (f:F2) (p:List Nat):Prop where
 le:p.length<=n
 lt:∀i (hi:i<p.length),p[i]<c
 inc:∀i k (hik:i<k) (hk:k<p.length),p[i]<p[k]
 left:∀i (hi:i<p.length),∀j,j<p[i]->f i j=0
 one:∀i (hi:i<p.length),f i p[i]=1
 zero:∀k (hk:k<p.length),∀i,i<n->i≠k->f i p[k]=0
 below:∀i,p.length<=i->i<n->∀j,j<c->f i j=0
def nv(f:F2)(p:List Nat)(j:Nat):Nat->Rat:=fun x=>if x=j then 1 else match p.findIdx? (· ==x)with|some i=> - f i j|none=>0
theorem Rref.idx{n c:Nat}{f:F2}{p:List Nat}(h:Rref n c f p)(i:Nat)(hi:i<p.length):p.findIdx? (· ==p[i])=some i:=by
 rw[List.findIdx?_eq_some_iff_getElem];refine⟨hi,by simp,fun j a=>?_⟩;have:=h.inc j i a hi;simp;omega
theorem a6v{p:List Nat}{x:Nat}(h:x∉p):p.findIdx? (· ==x)=none:=by
 rw[List.findIdx?_eq_none_iff];intro y a;simp;rintro rfl;exact h a
theorem Rref.nv_piv{n c:Nat}{f:F2}{p:List Nat}(h:Rref n c f p){j:Nat}(a:j∉p)(i:Nat)(hi:i<p.length):nv f p j p[i]= - f i j:=by
 unfold nv;rw[if_neg (by rintro e;exact a (e▸List.getElem_mem _)),h.idx i hi]
theorem a4f{f:F2}{p:List Nat}(j:Nat):nv f p j j=1:=by simp[nv]
theorem a6J{f:F2}{p:List Nat}{j x:Nat}(hx:x∉p)(a:x≠j):nv f p j x=0:=by
 unfold nv;rw[if_neg a,a6v hx]
theorem Rref.row{n c:Nat}{f:F2}{p:List Nat}(h:Rref n c f p)(i:Nat)(hi:i<p.length)(x:Nat->Rat):sm c (fun j=>f i j*x j)=x p[i]+sm c (fun j=>if j∈p then 0 else f i j*x j):=by
 have e:sm c (fun j=>f i j*x j)=sm c (fun j=>(if j=p[i]then x p[i]else 0)+(if j∈p then 0 else f i j*x j)):=by
  refine a0f fun j l=>?_;by_cases g:j∈p
  ·obtain⟨k,m,rfl⟩:=List.getElem_of_mem g
   by_cases b:i=k
   ·subst b;simp[h.one i hi];grind
   ·have d:p[k]≠p[i]:=by
     rcases Nat.lt_or_gt_of_ne b with a|a
     ·have:=h.inc i k a m;omega
     ·have:=h.inc k i a hi;omega
    simp[d,h.zero k m i (Nat.lt_of_lt_of_le hi h.le) b];grind
  ·have d:j≠p[i]:=by rintro rfl;exact g (List.getElem_mem _)
   simp[g,d];grind
 rw[e,a5j,a1E p[i] (h.lt i hi) (fun j _ l=>by simp[l])];simp
theorem Rref.nv_nul{n c:Nat}{f:F2}{p:List Nat}(h:Rref n c f p){j:Nat}(g:j∉p)(b:j<c):Nul n c f (nv f p j):=by
 intro i hi;by_cases a:i<p.length
 ·rw[h.row i a,h.nv_piv g i a,a1E j b]
  ·simp[g,a4f];grind
  ·intro k _ d
   by_cases e:k∈p
   ·simp[e]
   ·simp[e,a6J e d]
 ·exact a2b fun k l=>by rw[h.below i (by omega) hi k l];grind
theorem Rref.nv_supp{n c:Nat}{f:F2}{p:List Nat}(h:Rref n c f p){j:Nat}(d:j∉p){x:Nat}(hx:j<x):nv f p j x=0:=by
 by_cases b:x∈p
 ·obtain⟨k,a,rfl⟩:=List.getElem_of_mem b
  rw[h.nv_piv d k a,h.left k a j hx];grind
 ·exact a6J b (by omega)
theorem Rref.sub{n c:Nat}{f g:F2}{p q:List Nat}(i:Rref n c f p)(b:Rref n c g q)(m:∀x,Nul n c f x->Nul n c g x)(j:Nat)(l:j∈q):j∈p:=by
 refine Classical.byContradiction fun d=>?_;obtain⟨k,e,rfl⟩:=List.getElem_of_mem l;have h:=m _ (i.nv_nul d (b.lt k e)) k (Nat.lt_of_lt_of_le e b.le);rw[a1E q[k] (b.lt k e)]at h
 ·rw[b.one k e,a4f]at h;grind
 ·intro x _ hx
  rcases Nat.lt_or_gt_of_ne hx with a|a
  ·rw[b.left k e x a];grind
  ·rw[i.nv_supp d a];grind
theorem b0J:∀(p q:List Nat),p.Pairwise (· < ·)->q.Pairwise (· < ·)->(∀x,x∈p↔x∈q)->p=q
 | [],[],_,_,_=>rfl
 | [],b::q,_,_,h=>by have:=(h b).2 (by simp);simp at this
 |a::p,[],_,_,h=>by have:=(h a).1 (by simp);simp at this
 |a::p,b::q,hp,hq,h=>by
  rw[List.pairwise_cons]at hp hq;have hab:a=b:=by
   have h1:=(h a).1 (by simp);have h2:=(h b).2 (by simp);simp at h1 h2;rcases h1 with h1|h1
   ·exact h1
   ·rcases h2 with h2|h2
    ·exact h2.symm
    ·have:=hq.1 a h1;have:=hp.1 b h2;omega
  subst hab;rw[b0J p q hp.2 hq.2];intro x;have h3:=h x;simp at h3;constructor
  ·intro hx
   have:=hp.1 x hx;rcases h3.1 (.inr hx)with e|e
   ·omega
   ·exact e
  ·intro hx
   have:=hq.1 x hx;rcases h3.2 (.inr hx)with e|e
   ·omega
   ·exact e
theorem Rref.pw{n c:Nat}{f:F2}{p:List Nat}(h:Rref n c f p):p.Pairwise (· < ·):=by
 rw[List.pairwise_iff_getElem];intro i j hi b a;exact h.inc i j a b
theorem Rref.unique{n c:Nat}{f g:F2}{p q:List Nat}(d:Rref n c f p)(l:Rref n c g q)(r:∀x,Nul n c f x↔Nul n c g x):p=q/\Eqm n c f g:=by
 have t:p=q:=b0J p q d.pw l.pw fun x=>⟨l.sub d (fun x h=>(r x).2 h) x,d.sub l (fun x h=>(r x).1 h) x⟩;subst t;refine⟨rfl,fun i hi j m=>?_⟩;by_cases a:i<p.length
 ·by_cases b:j∈p
  ·obtain⟨k,v,rfl⟩:=List.getElem_of_mem b
   by_cases e:i=k
   ·subst e;rw[d.one i a,l.one i a]
   ·rw[d.zero k v i hi e,l.zero k v i hi e]
  ·have u:=(r _).1 (d.nv_nul b m) i hi
   rw[l.row i a,d.nv_piv b i a,a1E j m]at u
   ·simp[b,a4f]at u;grind
   ·intro k _ o
    by_cases s:k∈p
    ·simp[s]
    ·simp[s,a6J s o]
 ·rw[d.below i (by omega) hi j m,l.below i (by omega) hi j m]
theorem RE.cast{n c:Nat}{f g:F2}{a b:Rat}(h:RE n c f g a)(e:a=b):RE n c f g b:=e▸h
theorem RE.then_{n c:Nat}{f g h:F2}{a b d:Rat}(i:RE n c f g a)(j:RE n c g h b)(e:a*b=d):RE n c f h d:=e▸i.trans j
theorem RE.addmany{n c:Nat}{f g:F2}(k:Nat)(hk:k<n)(a:Nat->Rat)(h1:∀i,i<n->i≠k->∀j,j<c->g i j=f i j+a i*f k j)(h2:∀j,j<c->g k j=f k j):RE n c f g 1:=by
 have key:∀t,t<=n->RE n c f (fun i j=>if i<t then g i j else f i j) 1:=by
  intro t
  induction t with
  |zero=>intro _;exact .same fun i _ j _=>by simp
  |succ t ih=>
   intro ht;refine(ih (by omega)).then_ (b:=1) ?_ (by grind);by_cases e:t=k
   ·subst e
    refine .same fun i hi j hj=>?_;by_cases a:i<t
    ·simp[a,show i<t+1 by omega]
    ·by_cases b:i=t
     ·subst b;simp[h2 j hj]
     ·simp[a,show¬i<t+1 by omega]
   ·refine .add t k (a t) (by omega) hk e (fun j hj=>?_) (fun r hr hrt j hj=>?_)
    ·have h3:=h1 t (by omega) e j hj
     by_cases b:k<t
     ·simp[b,h3,h2 j hj]
     ·simp[b,h3]
    ·by_cases a:r<t
     ·simp[a,show r<t+1 by omega]
     ·simp[a,show¬r<t+1 by omega]
 refine(key n (Nat.le_refl _)).then_ (.same fun i hi j hj=>?_) (by grind);simp[hi]
structure Ech (n k:Nat) (f:F2) (p:List Nat):Prop where
 le:p.length<=n
 lt:∀i (hi:i<p.length),p[i]<k
 inc:∀i k (hik:i<k) (hk:k<p.length),p[i]<p[k]
 left:∀i (hi:i<p.length),∀j,j<p[i]->f i j=0
 piv:∀i (hi:i<p.length),f i p[i]≠0
 below:∀i,p.length<=i->i<n->∀j,j<k->f i j=0
theorem Ech.nil(n:Nat)(f:F2):Ech n 0 f []:=⟨by simp,by simp,by simp,by simp,by simp,by intros;omega⟩
theorem Ech.skip{n k:Nat}{f:F2}{p:List Nat}(h:Ech n k f p)(hz:∀i,p.length<=i->i<n->f i k=0):Ech n (k+1) f p:=
 ⟨h.le,fun i hi=>Nat.lt_succ_of_lt (h.lt i hi),h.inc,h.left,h.piv,fun i hi a j b=>by
  by_cases e:j=k
  ·subst e;exact hz i hi a
  ·exact h.below i hi a j (by omega)⟩
theorem b2U{p:List Nat}{k:Nat}(h:∀i (hi:i<p.length),p[i]<k)(i:Nat)(hi:i<(p++[k]).length):(p++[k])[i]<k+1:=by
 rw[List.getElem_append];split
 ·have:=h i (by assumption);omega
 ·simp
theorem b0K{p:List Nat}{c:Nat}(h:∀i (hi:i<p.length),p[i]<c)(e:∀i k (b:i<k) (d:k<p.length),p[i]<p[k])(i k:Nat)(b:i<k)(d:k<(p++[c]).length):(p++[c])[i]<(p++[c])[k]:=by
 simp at d;rw[List.getElem_append,List.getElem_append];by_cases a:k<p.length
 ·simp[a,show i<p.length by omega];exact e i k b a
 ·simp[a,show i<p.length by omega];exact h i (by omega)
theorem Ech.push{n k:Nat}{f g:F2}{p:List Nat}(h:Ech n k f p)(o:p.length<n)(d:∀i,i<p.length->∀j,g i j=f i j)(hz:∀i,p.length<=i->i<n->∀j,j<k->g i j=0)(c:g p.length k≠0)(m:∀i,p.length<i->i<n->g i k=0):Ech n (k+1) g (p++[k]):=by
 refine⟨by simp;omega,b2U h.lt,b0K h.lt h.inc,fun i hi j b=>?_,fun i hi=>?_,fun i hi l j b=>?_⟩
 ·simp at hi
  rw[List.getElem_append]at b;by_cases a:i<p.length
  ·simp[a]at b;rw[d i a];exact h.left i a j b
  ·simp[a]at b;exact hz i (by omega) (by omega) j b
 ·simp at hi
  rw[List.getElem_append];by_cases a:i<p.length
  ·simp only[a,dite_true];rw[d i a];exact h.piv i a
  ·obtain rfl:i=p.length:=by omega
   simpa using c
 ·simp at hi
  by_cases e:j=k
  ·subst e;exact m i (by omega) l
  ·exact hz i (by omega) l j (by omega)
structure Red (n t:Nat) (f:F2) (p:List Nat):Prop where
 one:∀i (hi:i<p.length),i<t->f i p[i]=1
 zero:∀k (hk:k<p.length),k<t->∀i,i<n->i≠k->f i p[k]=0
theorem Ech.rref{n c:Nat}{f:F2}{p:List Nat}(h:Ech n c f p)(b:Red n p.length f p):Rref n c f p:=
 ⟨h.le,h.lt,h.inc,h.left,fun i hi=>b.one i hi hi,fun k a=>b.zero k a a,h.below⟩
theorem Ech.under{n c:Nat}{f:F2}{p:List Nat}(h:Ech n c f p)(k:Nat)(d:k<p.length)(i:Nat)(hi:i<n)(b:k<i):f i p[k]=0:=by
 by_cases a:i<p.length
 ·exact h.left i a _ (h.inc k i b a)
 ·exact h.below i (by omega) hi _ (h.lt k d)
theorem Red.step{n c t:Nat}{f g:F2}{p:List Nat}(h:Ech n c f p)(u:Red n t f p)(l:t<p.length)(v:∀j,g t j=f t j/f t p[t])(m:∀i,i<t->∀j,g i j=f i j - f i p[t]*g t j)(o:∀i,t<i->∀j,g i j=f i j):Ech n c g p/\Red n (t+1) g p:=by
 have z:=h.piv t l;have hz:∀j,j<p[t]->g t j=0:=fun j e=>by rw[v,h.left t l j e];grind
 have d:g t p[t]=1:=by rw[v];grind
 refine⟨⟨h.le,h.lt,h.inc,fun i hi j e=>?_,fun i hi=>?_,fun i hi y j e=>?_⟩,⟨fun i hi w=>?_,fun k s x i hi q=>?_⟩⟩
 ·rcases Nat.lt_trichotomy i t with a|a|a
  ·rw[m i a,h.left i hi j e,hz j (by have:=h.inc i t a l;omega)];grind
  ·subst a;exact hz j e
  ·rw[o i a];exact h.left i hi j e
 ·rcases Nat.lt_trichotomy i t with a|a|a
  ·rw[m i a,hz _ (h.inc i t a l)];have:=h.piv i hi;grind
  ·subst a;rw[d];grind
  ·rw[o i a];exact h.piv i hi
 ·rw[o i (by omega)];exact h.below i hi y j e
 ·rcases Nat.lt_trichotomy i t with a|a|a
  ·rw[m i a,hz _ (h.inc i t a l),u.one i hi a];grind
  ·subst a;exact d
  ·omega
 ·rcases Nat.lt_trichotomy k t with b|b|b
  ·have r:g t p[k]=0:=hz _ (h.inc k t b l)
   rcases Nat.lt_trichotomy i t with a|a|a
   ·rw[m i a,r,u.zero k s b i hi q];grind
   ·subst a;exact r
   ·rw[o i a];exact u.zero k s b i hi q
  ·subst b
   rcases Nat.lt_trichotomy i k with a|a|a
   ·rw[m i a,d];grind
   ·omega
   ·rw[o i a];exact h.under k s i hi a
  ·omega
theorem Rref.skip{n k:Nat}{f:F2}{p:List Nat}(h:Rref n k f p)(hz:∀i,p.length<=i->i<n->f i k=0):Rref n (k+1) f p:=
 ⟨h.le,fun i hi=>Nat.lt_succ_of_lt (h.lt i hi),h.inc,h.left,h.one,h.zero,fun i hi a j b=>by
  by_cases e:j=k
  ·subst e;exact hz i hi a
  ·exact h.below i hi a j (by omega)⟩
theorem Rref.nil(n:Nat)(f:F2):Rref n 0 f []:=⟨by simp,by simp,by simp,by simp,by simp,by simp,by intros;omega⟩
theorem Rref.push{n k:Nat}{f g:F2}{p:List Nat}(h:Rref n k f p)(t:p.length<n)(u:f p.length k≠0)(r:∀j,g p.length j=f p.length j*(1/f p.length k))(s:∀i,i<n->i≠p.length->∀j,g i j=f i j+g p.length j* - f i k):Rref n (k+1) g (p++[k]):=by
 have hz:∀j,j<k->g p.length j=0:=fun j b=>by rw[r,h.below _ (Nat.le_refl _) t j b];grind
 have c:g p.length k=1:=by rw[r];grind
 have l:∀i,i<n->i≠p.length->g i k=0:=fun i hi e=>by rw[s i hi e,c];grind
 have m:∀i,i<n->∀j,j<k->g i j=f i j:=fun i hi j b=>by
  by_cases e:i=p.length
  ·subst e;rw[hz j b,h.below _ (Nat.le_refl _) t j b]
  ·rw[s i hi e,hz j b];grind
 refine⟨by simp;omega,b2U h.lt,b0K h.lt h.inc,fun i hi j b=>?_,fun i hi=>?_,fun q hq i hi d=>?_,fun i hi o j b=>?_⟩
 ·simp at hi
  rw[List.getElem_append]at b;by_cases a:i<p.length
  ·simp[a]at b;rw[m i (by omega) j (by have:=h.lt i a;omega)];exact h.left i a j b
  ·simp[a]at b;obtain rfl:i=p.length:=by omega
   exact hz j b
 ·simp at hi
  rw[List.getElem_append];by_cases a:i<p.length
  ·simp only[a,dite_true];rw[m i (by omega) _ (h.lt i a)];exact h.one i a
  ·obtain rfl:i=p.length:=by omega
   simpa using c
 ·simp at hq
  rw[List.getElem_append];by_cases a:q<p.length
  ·simp only[a,dite_true];rw[m i hi _ (h.lt q a)];exact h.zero q a i hi d
  ·obtain rfl:q=p.length:=by omega
   simpa using l i hi d
 ·simp at hi
  by_cases e:j=k
  ·subst e;exact l i o (by omega)
  ·rw[m i o j (by omega)];exact h.below i (by omega) o j (by omega)
end Go.Lin
