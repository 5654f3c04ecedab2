/- Parts of a proof: each theorem states what it proves, and its conditions. -/
import Derived.Test.YtidbbddagfnfbaaGreatSgF
namespace Go.Proofs.YtidbbddagfnfbaaGreat
open Go.RowKit Go.Rep Go.Lim
theorem b0Q (z k:Int) (b:0<k):((z:Rat)/(k:Rat)).num=z/(Nat.gcd z.natAbs k.natAbs:Nat)/\(((z:Rat)/(k:Rat)).den:Int)=k/(Nat.gcd z.natAbs k.natAbs:Nat):=by
 have h:=b7r z k b;have a:k.natAbs≠0:=by omega
 rw[<-h,Rat.num_mkRat,Rat.den_mkRat];rw[if_neg a,if_neg a,Nat.gcd_comm k.natAbs];refine⟨rfl,?_⟩;rw[Int.natCast_ediv]
 congr 1
 omega
set_option maxRecDepth 100000 in
set_option maxHeartbeats 1600000 in
theorem b0R (X:Nat->Bool) (w:World) (u v:Value) (x y:Int) (hX:HX X w) (hu:ZC (mk X w) u x) (hv:ZC (mk X w) v y) (hx:lg x.natAbs<=274877906944) (hy:lg y.natAbs<=274877906944) (g0:y≠0):Calls Tryz.prog 102 #[u,v] w (a1Z X w QC ((x:Rat)/(y:Rat))):=by
 have i2:=hid hx;have i7:=hid hy;obtain⟨s1,a1,n1,c1,rfl⟩:=hu.shape;obtain⟨s2,a2,n2,c2,rfl⟩:=hv.shape;obtain⟨W,hW,hE,b0,b1,b2,hz⟩:=a2D w #[.bool s1, .slice a1 n1 c1] #[.bool s2, .slice a2 n2 c2] #[.bool false, .slice none 0 0, .slice none 0 0] 43 43 45;have f7:HX (a0e X w.heap.size 3) W:=hX.boxes hz;have h6:=ZC.mono _ _ _ _ (a0o (nb:=3) hE) hu;have f9:=ZC.mono _ _ _ _ (a0o (nb:=3) hE) hv;obtain⟨b,hb⟩:∃b,w.heap.size=b:=⟨_,rfl⟩;have n5:w.heap.size<=b:=by omega
 rw[hb]at b0 b1 b2 hz f7 h6 f9;have i5:=f9.zv (Nat.le_trans hy (by decide));have l7:=h6.zv (Nat.le_trans hx (by decide));have o:=b0.cell 0 rfl;have B:=b0.cell 1 rfl;have r:=b1.cell 0 rfl;have A:=b1.cell 1 rfl;have h0:0<y\/y<0:=by omega
 obtain⟨q,e4⟩:∃q:Rat,(x:Rat)/(y:Rat)=q:=⟨_,rfl⟩;rw[e4];clear hu hv hx hy;go_enter Tryz.func102,Tryz.ntmps102
 go_wp2_with fail
 refine(b7l (a0e X b 3) W _ _ f7 i5).mono ?_;rintro e w5 ⟨s,rfl⟩;have f4:=b0.ext0 s;have f5:=b1.ext0 s;have i8:=b2.ext0 s;clear o B r A;rcases h0 with h0|h0
 ·have j8:decide (y.sign<0)=false:=by rw[Int.sign_eq_one_of_pos h0];rfl
  have hk:Hid (0<y):=hid h0;generalize y.sign=l8 at*;have d7:=mkx ZC.mono h6 s;have e7:=mkx ZC.mono f9 s;have c8:=f7.ext s;have a4:=hE.trans s;clear h0 g0;generalize k8:s1=sz at*;generalize l4:a1=az at*;generalize j5:n1=nz at*;generalize j9:c1=cz at*;generalize l2:s2=sk at*;generalize m4:a2=ak at*;generalize j7:n2=nk at*;generalize l9:c2=ck at*;generalize n6:w5=ws at*;generalize k4:x=z at*;generalize j3:y=k at*;have G:=f4;have K:=f5;have a9:=i8;have F:=i2;have l:=i7;have N:=hid e4;clear e4;have o:=G.cell 0 rfl;have B:=G.cell 1 rfl;have r:=K.cell 0 rfl;have A:=K.cell 1 rfl;have d2:=hid (Nat.gcd_pos_of_pos_right z.natAbs (show 0<k.natAbs by have:=hk.out;omega));have d3:=hid (show((Nat.gcd z.natAbs k.natAbs:Nat):Int)∣z from Int.ofNat_dvd_left.2 (Nat.gcd_dvd_left _ _));have c0:=hid (show((Nat.gcd z.natAbs k.natAbs:Nat):Int)∣k from Int.ofNat_dvd_left.2 (Nat.gcd_dvd_right _ _));have f0:=hid (show lg (Nat.gcd z.natAbs k.natAbs)<=274877906944 from Nat.le_trans (a1i (Nat.gcd_le_right _ (by have:=hk.out;omega))) l.out);have j:=hid (b0Q z k hk.out);obtain⟨g,hg⟩:∃g,Nat.gcd z.natAbs k.natAbs=g:=⟨_,rfl⟩;rw[hg]at d2 d3 c0 f0 j
  replace hg:=hid hg
  go_wp2_with fail
  refine(c0k (a0e X b 3) ws _ _ _ _ c8 (d7.zv (Nat.le_trans F.out (by decide))) (e7.zv (Nat.le_trans l.out (by decide))) F.out l.out).mono ?_;rintro e6 w6 ⟨n,ug,rfl,e1⟩;rw[hg.out]at e1;obtain⟨ag,cg,b9,rfl,g1,g2,g3⟩:=e1;have bg:=Bx.new w6 #[.bool false, .slice none 0 0] 43;have g9:=c8.ext n;clear o B r A;go_wp2_with ((with_reducible show wpList _ _ _ (⟨_, .store _ _ _,_,_,_,_⟩::_) _ _);refine a0a a0I rfl rfl bg rfl rfl (a2U _ _ _ _) ?_;intro w7 r1 r2;have m:Ext w6 w7:=ExtX.box ((ExtX.refl w6).alloc _) r2 (Nat.le_refl _);have t7:=n.trans m;have o:=(G.ext0 t7).cell 0 rfl;have B:=(G.ext0 t7).cell 1 rfl;have Y:=r1.cell 0 rfl;have V:=r1.cell 1 rfl)
  have c4:=(g9.ext m);have M:ZC (mk (a0e X b 3) w7) (.agg #[.bool false, .slice ag b9.length cg]) (g:Int):=NC.zc (NC.mono _ _ _ _ (a0l m) ⟨ag,cg,b9,rfl,g1,g2,g3⟩);have h4:=mkx ZC.mono d7 t7;have h:Hid (lg ((g:Int)).natAbs<=274877906944):=hid (by rw[Int.natAbs_natCast];exact f0.out);have L:Hid ((0:Int)<(g:Int)):=hid (by have:=d2.out;omega);refine(b5B (a0e X b 3) w7 _ _ z g c4 (h4.zv (Nat.le_trans F.out (by decide))) (M.zv (Nat.le_trans h.out (by decide))) F.out h.out L.out d3.out).mono ?_;rintro e8 w8 ⟨H,up,sv,av,nv,cv,rfl,b6⟩;obtain⟨sp,ap,np,cp,rfl⟩:=b6.shape;obtain⟨W8,h8,c7,bp,br,m0⟩:=a1v w8 #[.bool false, .slice none 0 0] #[.bool false, .slice none 0 0] 43 43;subst h8;clear o B Y V;go_wp2_with ((with_reducible show wpList _ _ _ (⟨_, .store _ _ _,_,_,_,_⟩::_) _ _);first|(refine a0a a0I rfl rfl bp rfl rfl (a2U _ _ _ _) ?_;intro w9 p1 p2;have J:=br.ext p2 (a0b (by omega)))|(refine a0a a0I rfl rfl J rfl rfl (a2U _ _ _ _) ?_;intro d4 p3 p4;have d:Ext w8 d4:=ExtX.box (ExtX.box c7 p2 (Nat.le_refl _)) p4 (by omega);have p:=t7.trans (H.trans d);have r:=(K.ext0 p).cell 0 rfl;have A:=(K.ext0 p).cell 1 rfl;have e9:=r1.ext0 (H.trans d);have Y:=e9.cell 0 rfl;have V:=e9.cell 1 rfl;have d8:=p1.ext p4 (a0b (by omega))))
  have C:=mkx ZC.mono b6 d;have e0:=(c4.ext H).ext d;have b8:=mkx ZC.mono e7 p;have Z:=mkx ZC.mono (mkx ZC.mono M H) d;refine(b5B (a0e X b 3) d4 _ _ k g e0 (b8.zv (Nat.le_trans l.out (by decide))) (Z.zv (Nat.le_trans h.out (by decide))) l.out h.out L.out c0.out).mono ?_;rintro f8 E ⟨a,uq,k0,l0,l3,k1,rfl,b4⟩;obtain⟨sq,aq,nq,cq,rfl⟩:=b4.shape;obtain⟨k5,f2,a0,bq,g7,i6⟩:=a1v E #[.bool false, .slice none 0 0] #[.bool false, .slice none 0 0] 43 43;subst f2;clear r A Y V J br;go_wp2_with ((with_reducible show wpList _ _ _ (⟨_, .store _ _ _,_,_,_,_⟩::_) _ _);first|(refine a0a a0I rfl rfl bq rfl rfl (a2U _ _ _ _) ?_;intro k9 p5 p6;have J:=g7.ext p6 (a0b (by omega)))|(refine a0a a0I rfl rfl J rfl rfl (a2U _ _ _ _) ?_;intro I p7 p8;have f:Ext E I:=ExtX.box (ExtX.box a0 p6 (Nat.le_refl _)) p8 (by omega);have d0:=p.trans (a.trans f);have t:=p5.ext p8 (a0b (by omega));have g6:=t.cell 0 rfl;have b5:=t.cell 1 rfl;have g4:=t.frozen 0;have h5:=t.frozen 1;have c3:=d8.ext0 (a.trans f);have e3:=c3.cell 0 rfl;have e2:=c3.cell 1 rfl))
  have R:=mkx ZC.mono b4 f;have U:=mkx ZC.mono (mkx ZC.mono C a) f;have f1:=R.mag;have g8:Hid (lg (k/(g:Int)).natAbs<=1099511627776):=hid (by
   have h1:=j.out.2;have:(k/(g:Int)).natAbs<=k.natAbs:=by
    have:=Int.natAbs_ediv_le_natAbs k (g:Int);exact this
   exact Nat.le_trans (a1i this) (Nat.le_trans l.out (by decide)))
  have b7:=a9.ext0 d0;have T:=a4.trans d0;refine(b5H _ _ _ _ f1 g8.out).mono ?_;rintro k6 c ⟨rfl,rfl⟩;have b3:Hid ((q.den:Int)=k/(g:Int)):=hid (by rw[<-N.out];exact j.out.2);have d5:Hid (q.num=z/(g:Int)):=hid (by rw[<-N.out];exact j.out.1);by_cases h1:(k/(g:Int)).natAbs=1
  ·have a3:Hid (dn q=0):=hid ((a3X q).2 (by have:=b3.out;have:=q.den_pos;omega))
   rw[decide_eq_true h1];clear h1;go_upto_region 8 with(fail)
   obtain⟨m1,m2⟩:=a0J t (.slice none 0 0) (i:=1) (by simp);obtain⟨c,d1⟩:∃c,I.setCell ⟨E.heap.size,1,none⟩ (.slice none 0 0)=c:=⟨_,rfl⟩;rw[d1]at m1 m2 |-;have D:Ext E c:=ExtX.box f m2 (Nat.le_refl _);have c9:=p.trans (a.trans D);have d6:=a9.ext0 c9;have d9:=d8.ext0 (a.trans D);clear e3 e2 g6 b5 g4 h5;have e3:c.cell? ⟨w8.heap.size,0,none⟩=some (.bool sp):=d9.cell 0 rfl;have e2:c.cell? ⟨w8.heap.size,1,none⟩=some (.slice ap np cp):=d9.cell 1 rfl;have b5:c.cell? ⟨E.heap.size,1,none⟩=some (.slice none 0 0):=m1.cell 1 rfl;have O:=mkx ZC.mono (mkx ZC.mono C a) D;go_wp2_with ((with_reducible show wpList _ _ _ (⟨_, .store _ _ _,_,_,_,_⟩::_) _ _);refine a0a a0t rfl rfl d6 rfl rfl (a1Q _ _ _ _ _ _ _) ?_;intro h3 r3 r4)
   have P:ZC (mk (a0e X b 3) c) (.agg #[.bool sp, .slice ap np cp]) q.num:=by rw[d5.out];exact O
   have Q:NC (mk (a0e X b 3) c) (.slice none 0 0) (dn q):=by rw[a3.out];exact NC.zero _
   have h7:=QC.mono _ _ _ _ a0n (QC.mono _ _ _ _ (a0h r4 (by omega) (by omega)) (QC.of P Q));exact bodyPost_ret (a0d rfl rfl a0t r3 rfl) rfl ⟨ExtX.box (a4.trans c9) r4 (by omega),_,rfl,h7⟩
  ·have a3:Hid (dn q=(k/(g:Int)).natAbs):=hid (by
    have h2:=b3.out;unfold dn;rw[if_neg (by omega)];omega)
   rw[decide_eq_false h1];clear h1;go_wp2_with ((with_reducible show wpList _ _ _ (⟨_, .store _ _ _,_,_,_,_⟩::_) _ _);refine a0a a0t rfl rfl b7 rfl rfl (a1Q _ _ _ _ _ _ _) ?_;intro h3 r3 r4)
   have P:ZC (mk (a0e X b 3) I) (.agg #[.bool sp, .slice ap np cp]) q.num:=by rw[d5.out];exact U
   have Q:NC (mk (a0e X b 3) I) (.slice aq nq cq) (dn q):=by rw[a3.out];exact f1
   have h7:=QC.mono _ _ _ _ a0n (QC.mono _ _ _ _ (a0h r4 (by omega) (by omega)) (QC.of P Q));exact bodyPost_ret (a0d rfl rfl a0t r3 rfl) rfl ⟨ExtX.box T r4 (by omega),_,rfl,h7⟩
 ·have j8:decide (y.sign<0)=true:=by rw[Int.sign_eq_neg_one_of_neg h0];rfl
  have j4:Hid (0< -y):=hid (by omega);generalize y.sign=l8 at*;have S:Ext w5 w5.drew:=(ExtX.refl w5).drew;have j0:HX (a0e X b 3) w5.drew:=HX.ext (HX.ext f7 s) S;have k2:ZV (mk (a0e X b 3) w5.drew) (.agg #[.bool s1, .slice a1 n1 c1]) x:=mkx ZV.mono l7 (s.trans S);have m9:ZV (mk (a0e X b 3) w5.drew) (.agg #[.bool s2, .slice a2 n2 c2]) y:=mkx ZV.mono i5 (s.trans S);have o:=f4.cell 0 rfl;have B:=f4.cell 1 rfl;have r:=f5.cell 0 rfl;have A:=f5.cell 1 rfl;have g5:Hid (((-x:Int):Rat)/((-y:Int):Rat)=q):=hid (by
   rw[<-e4,Rat.intCast_neg,Rat.intCast_neg];have:(y:Rat)≠0:=by exact_mod_cast g0
   grind)
  have F:Hid (lg (-x).natAbs<=274877906944):=hid (by rw[Int.natAbs_neg];exact i2.out);have l:Hid (lg (-y).natAbs<=274877906944):=hid (by rw[Int.natAbs_neg];exact i7.out);clear h0 g0 e4;go_upto_region 2 with(fail)
  go_region_with (first|(go_at_call 180;(with_reducible refine(b8A (a0e X b 3) w5.drew _ x j0 k2).mono ?_);rintro e w6 ⟨n,u6,rfl,s5,a5,c5,l5,rfl,j2,i0,i1⟩;have f6:=f4.ext0 (S.trans n);have f3:=f5.ext0 (S.trans n);have m7:=f6.cell 0 rfl;have m3:=f6.cell 1 rfl;have k3:=f3.cell 0 rfl;have f8:=f3.cell 1 rfl)|(go_at_call 180;(with_reducible refine(b8A (a0e X b 3) w6 _ y (HX.ext j0 n) (mkx ZV.mono m9 n)).mono ?_);rintro e w7 ⟨m,u7,rfl,s6,a6,c6,l6,rfl,h9,j1,i9⟩;have a8:=f6.ext0 m;have a7:=f3.ext0 m;have n0:=a8.cell 0 rfl;have k7:=a8.cell 1 rfl;have m6:=a7.cell 0 rfl;have j6:=a7.cell 1 rfl;have l1:=a8.frozen 0;have m5:=a8.frozen 1;have n4:=a7.frozen 0;have n3:=a7.frozen 1))
  all_goals
   obtain⟨ws,i4,G,K,m8,a4,q4⟩:=a2q (X:=X) (nb:=3) a8 a7 (hE.trans (s.trans ((S.trans n).trans m))) n5 (by omega) (.bool s5) (.slice a5 l5.length c5) (.bool s6) (.slice a6 l6.length c6);rw[i4];have d7:ZC (mk (a0e X b 3) ws) (.agg #[.bool s5, .slice a5 l5.length c5]) (-x):=⟨s5,a5,c5,l5,rfl,j2,i0,(i1.mono (a0c.mono _) (a0l m)).mono (a0c.mono _) q4⟩;have e7:ZC (mk (a0e X b 3) ws) (.agg #[.bool s6, .slice a6 l6.length c6]) (-y):=⟨s6,a6,c6,l6,rfl,h9,j1,i9.mono (a0c.mono _) q4⟩;have a9:=m8 (b+1+1) _ _ (by omega) (by omega) (((i8.ext0 S).ext0 n).ext0 m);have i3:w.heap.size+3<=ws.heap.size:=by have:=a9.lt;omega
   have c8:HX (a0e X b 3) ws:=hX.boxes' a4 (by have:=i3;omega) i3;clear m7 m3 k3 f8 n0 k7 m6 j6 l1 m5 n4 n3 o B r A i4 f6 f3 a8 a7 j2 i0 i1 h9 j1 i9;have N:=g5;have hk:=j4;generalize k8:s5=sz at*;generalize l4:a5=az at*;generalize j5:l5.length=nz at*;generalize j9:c5=cz at*;generalize l2:s6=sk at*;generalize m4:a6=ak at*;generalize j7:l6.length=nk at*;generalize l9:c6=ck at*;generalize k4: -x=z at*;generalize j3: -y=k at*;have o:=G.cell 0 rfl;have B:=G.cell 1 rfl;have r:=K.cell 0 rfl;have A:=K.cell 1 rfl;have d2:=hid (Nat.gcd_pos_of_pos_right z.natAbs (show 0<k.natAbs by have:=hk.out;omega));have d3:=hid (show((Nat.gcd z.natAbs k.natAbs:Nat):Int)∣z from Int.ofNat_dvd_left.2 (Nat.gcd_dvd_left _ _));have c0:=hid (show((Nat.gcd z.natAbs k.natAbs:Nat):Int)∣k from Int.ofNat_dvd_left.2 (Nat.gcd_dvd_right _ _));have f0:=hid (show lg (Nat.gcd z.natAbs k.natAbs)<=274877906944 from Nat.le_trans (a1i (Nat.gcd_le_right _ (by have:=hk.out;omega))) l.out);have j:=hid (b0Q z k hk.out);obtain⟨g,hg⟩:∃g,Nat.gcd z.natAbs k.natAbs=g:=⟨_,rfl⟩;rw[hg]at d2 d3 c0 f0 j
   replace hg:=hid hg
   go_wp2_with fail
   refine(c0k (a0e X b 3) ws _ _ _ _ c8 (d7.zv (Nat.le_trans F.out (by decide))) (e7.zv (Nat.le_trans l.out (by decide))) F.out l.out).mono ?_;rintro e6 w6 ⟨n,ug,rfl,e1⟩;rw[hg.out]at e1;obtain⟨ag,cg,b9,rfl,g1,g2,g3⟩:=e1;have bg:=Bx.new w6 #[.bool false, .slice none 0 0] 43;have g9:=c8.ext n;clear o B r A;go_wp2_with ((with_reducible show wpList _ _ _ (⟨_, .store _ _ _,_,_,_,_⟩::_) _ _);refine a0a a0I rfl rfl bg rfl rfl (a2U _ _ _ _) ?_;intro w7 r1 r2;have m:Ext w6 w7:=ExtX.box ((ExtX.refl w6).alloc _) r2 (Nat.le_refl _);have t7:=n.trans m;have o:=(G.ext0 t7).cell 0 rfl;have B:=(G.ext0 t7).cell 1 rfl;have Y:=r1.cell 0 rfl;have V:=r1.cell 1 rfl)
   have c4:=(g9.ext m);have M:ZC (mk (a0e X b 3) w7) (.agg #[.bool false, .slice ag b9.length cg]) (g:Int):=NC.zc (NC.mono _ _ _ _ (a0l m) ⟨ag,cg,b9,rfl,g1,g2,g3⟩);have h4:=mkx ZC.mono d7 t7;have h:Hid (lg ((g:Int)).natAbs<=274877906944):=hid (by rw[Int.natAbs_natCast];exact f0.out);have L:Hid ((0:Int)<(g:Int)):=hid (by have:=d2.out;omega);refine(b5B (a0e X b 3) w7 _ _ z g c4 (h4.zv (Nat.le_trans F.out (by decide))) (M.zv (Nat.le_trans h.out (by decide))) F.out h.out L.out d3.out).mono ?_;rintro e8 w8 ⟨H,up,sv,av,nv,cv,rfl,b6⟩;obtain⟨sp,ap,np,cp,rfl⟩:=b6.shape;obtain⟨W8,h8,c7,bp,br,m0⟩:=a1v w8 #[.bool false, .slice none 0 0] #[.bool false, .slice none 0 0] 43 43;subst h8;clear o B Y V;go_wp2_with ((with_reducible show wpList _ _ _ (⟨_, .store _ _ _,_,_,_,_⟩::_) _ _);first|(refine a0a a0I rfl rfl bp rfl rfl (a2U _ _ _ _) ?_;intro w9 p1 p2;have J:=br.ext p2 (a0b (by omega)))|(refine a0a a0I rfl rfl J rfl rfl (a2U _ _ _ _) ?_;intro d4 p3 p4;have d:Ext w8 d4:=ExtX.box (ExtX.box c7 p2 (Nat.le_refl _)) p4 (by omega);have p:=t7.trans (H.trans d);have r:=(K.ext0 p).cell 0 rfl;have A:=(K.ext0 p).cell 1 rfl;have e9:=r1.ext0 (H.trans d);have Y:=e9.cell 0 rfl;have V:=e9.cell 1 rfl;have d8:=p1.ext p4 (a0b (by omega))))
   have C:=mkx ZC.mono b6 d;have e0:=(c4.ext H).ext d;have b8:=mkx ZC.mono e7 p;have Z:=mkx ZC.mono (mkx ZC.mono M H) d;refine(b5B (a0e X b 3) d4 _ _ k g e0 (b8.zv (Nat.le_trans l.out (by decide))) (Z.zv (Nat.le_trans h.out (by decide))) l.out h.out L.out c0.out).mono ?_;rintro f8 E ⟨a,uq,k0,l0,l3,k1,rfl,b4⟩;obtain⟨sq,aq,nq,cq,rfl⟩:=b4.shape;obtain⟨k5,f2,a0,bq,g7,i6⟩:=a1v E #[.bool false, .slice none 0 0] #[.bool false, .slice none 0 0] 43 43;subst f2;clear r A Y V J br;go_wp2_with ((with_reducible show wpList _ _ _ (⟨_, .store _ _ _,_,_,_,_⟩::_) _ _);first|(refine a0a a0I rfl rfl bq rfl rfl (a2U _ _ _ _) ?_;intro k9 p5 p6;have J:=g7.ext p6 (a0b (by omega)))|(refine a0a a0I rfl rfl J rfl rfl (a2U _ _ _ _) ?_;intro I p7 p8;have f:Ext E I:=ExtX.box (ExtX.box a0 p6 (Nat.le_refl _)) p8 (by omega);have d0:=p.trans (a.trans f);have t:=p5.ext p8 (a0b (by omega));have g6:=t.cell 0 rfl;have b5:=t.cell 1 rfl;have g4:=t.frozen 0;have h5:=t.frozen 1;have c3:=d8.ext0 (a.trans f);have e3:=c3.cell 0 rfl;have e2:=c3.cell 1 rfl))
   have R:=mkx ZC.mono b4 f;have U:=mkx ZC.mono (mkx ZC.mono C a) f;have f1:=R.mag;have g8:Hid (lg (k/(g:Int)).natAbs<=1099511627776):=hid (by
    have h1:=j.out.2;have:(k/(g:Int)).natAbs<=k.natAbs:=by
     have:=Int.natAbs_ediv_le_natAbs k (g:Int);exact this
    exact Nat.le_trans (a1i this) (Nat.le_trans l.out (by decide)))
   have b7:=a9.ext0 d0;have T:=a4.trans d0;refine(b5H _ _ _ _ f1 g8.out).mono ?_;rintro k6 c ⟨rfl,rfl⟩;have b3:Hid ((q.den:Int)=k/(g:Int)):=hid (by rw[<-N.out];exact j.out.2);have d5:Hid (q.num=z/(g:Int)):=hid (by rw[<-N.out];exact j.out.1);by_cases h1:(k/(g:Int)).natAbs=1
   ·have a3:Hid (dn q=0):=hid ((a3X q).2 (by have:=b3.out;have:=q.den_pos;omega))
    rw[decide_eq_true h1];clear h1;go_upto_region 8 with(fail)
    obtain⟨m1,m2⟩:=a0J t (.slice none 0 0) (i:=1) (by simp);obtain⟨c,d1⟩:∃c,I.setCell ⟨E.heap.size,1,none⟩ (.slice none 0 0)=c:=⟨_,rfl⟩;rw[d1]at m1 m2 |-;have D:Ext E c:=ExtX.box f m2 (Nat.le_refl _);have c9:=p.trans (a.trans D);have d6:=a9.ext0 c9;have d9:=d8.ext0 (a.trans D);clear e3 e2 g6 b5 g4 h5;have e3:c.cell? ⟨w8.heap.size,0,none⟩=some (.bool sp):=d9.cell 0 rfl;have e2:c.cell? ⟨w8.heap.size,1,none⟩=some (.slice ap np cp):=d9.cell 1 rfl;have b5:c.cell? ⟨E.heap.size,1,none⟩=some (.slice none 0 0):=m1.cell 1 rfl;have O:=mkx ZC.mono (mkx ZC.mono C a) D;go_wp2_with ((with_reducible show wpList _ _ _ (⟨_, .store _ _ _,_,_,_,_⟩::_) _ _);refine a0a a0t rfl rfl d6 rfl rfl (a1Q _ _ _ _ _ _ _) ?_;intro h3 r3 r4)
    have P:ZC (mk (a0e X b 3) c) (.agg #[.bool sp, .slice ap np cp]) q.num:=by rw[d5.out];exact O
    have Q:NC (mk (a0e X b 3) c) (.slice none 0 0) (dn q):=by rw[a3.out];exact NC.zero _
    have h7:=QC.mono _ _ _ _ a0n (QC.mono _ _ _ _ (a0h r4 (by omega) (by omega)) (QC.of P Q));exact bodyPost_ret (a0d rfl rfl a0t r3 rfl) rfl ⟨ExtX.box (a4.trans c9) r4 (by omega),_,rfl,h7⟩
   ·have a3:Hid (dn q=(k/(g:Int)).natAbs):=hid (by
     have h2:=b3.out;unfold dn;rw[if_neg (by omega)];omega)
    rw[decide_eq_false h1];clear h1;go_wp2_with ((with_reducible show wpList _ _ _ (⟨_, .store _ _ _,_,_,_,_⟩::_) _ _);refine a0a a0t rfl rfl b7 rfl rfl (a1Q _ _ _ _ _ _ _) ?_;intro h3 r3 r4)
    have P:ZC (mk (a0e X b 3) I) (.agg #[.bool sp, .slice ap np cp]) q.num:=by rw[d5.out];exact U
    have Q:NC (mk (a0e X b 3) I) (.slice aq nq cq) (dn q):=by rw[a3.out];exact f1
    have h7:=QC.mono _ _ _ _ a0n (QC.mono _ _ _ _ (a0h r4 (by omega) (by omega)) (QC.of P Q));exact bodyPost_ret (a0d rfl rfl a0t r3 rfl) rfl ⟨ExtX.box T r4 (by omega),_,rfl,h7⟩
theorem a4V (X:Nat->Bool) (w:World) (v:Int) (t:HX X w) (m: -9223372036854775808<=v) (n:v<=9223372036854775807):Calls Tryz.prog 53 #[.int .i64 v] w (a1Z X w QC v):=by
 obtain⟨W,E,p,l,hz⟩:=a1g w #[.bool false, .slice none 0 0, .slice none 0 0] 45;have a:HX (a0e X w.heap.size 1) W:=t.boxes hz;obtain⟨b,s⟩:∃b,w.heap.size=b:=⟨_,rfl⟩;have r:w.heap.size<=b:=by omega
 rw[s]at l hz a;have d:=hid m;have f:=hid n;clear m n;go_enter Tryz.func53,Tryz.ntmps53
 go_wp2_with fail
 refine(b2W (a0e X b 1) W v a d.out f.out).mono ?_;rintro A C ⟨c,B,rfl,u,x,z,q,rfl,h,j,g⟩;have i:=l.ext0 c;have e:=a6a.ofInt j;go_wp2_with ((with_reducible show wpList _ _ _ (⟨_, .store _ _ _,_,_,_,_⟩::_) _ _);refine a0a a0t rfl rfl i rfl rfl (a1Q _ _ _ _ _ _ _) ?_;intro D y k)
 have o:=(g.mono (a0c.mono _) (a0h k (by omega) (by omega))).mono (a0c.mono _) a0n;exact bodyPost_ret (a0d rfl rfl a0t y rfl) rfl ⟨ExtX.box (p.trans c) k (by omega),_,rfl,u,x,z,q,none,0,[],rfl,h,Nat.le_refl _,e,o,Sl.nil _ _ _ _⟩
set_option maxRecDepth 100000 in
theorem a7u (X:Nat->Bool) (w:World) (u:Value) (x:Rat) (s:HX X w) (f:QV (mk X w) u x):Calls Tryz.prog 31 #[u] w (a4v w x.num.sign):=by
 have l:=hid f.hq;obtain⟨v,o,q,z,B,t,y,rfl⟩:=f.shape;obtain⟨W,L,g,e,hz⟩:=a1g w #[.bool v, .slice o q z, .slice B t y] 45;have a:HX X W:=s.ext g;have k:=mkx QV.mono f g;obtain⟨b,A⟩:∃b,w.heap.size=b:=⟨_,rfl⟩;rw[A]at e hz;have j:=e.cell 0 rfl;have n:=e.cell 1 rfl;have m:=e.cell 2 rfl;have r:=a5S;clear f;go_enter Tryz.func31,Tryz.ntmps31
 go_wp2_with fail
 refine(a3F X W _ x a k).mono ?_;rintro p C ⟨c,J,rfl,d⟩;obtain⟨F,K,G,I,D,H,e5,rfl⟩:=d.shape;have h:=d.num.1.zv (Nat.le_trans (Nat.le_trans (a0D x) l.out) (by omega));clear j n m;go_wp2_with fail
 refine(b7l X C _ _ (a.ext c) h).mono ?_;rintro p E ⟨i,rfl⟩;go_wp2_with fail
 go_ret
 exact⟨g.trans (c.trans i),rfl⟩
set_option maxRecDepth 100000 in
theorem b8F (X:Nat->Bool) (w:World) (u:Value) (x:Rat) (hX:HX X w) (B:QV (mk X w) u x):Calls Tryz.prog 134 #[u] w (a1Z X w QC (-x)):=by
 have q:=hid B.hq;obtain⟨s1,a1,n1,c1,d1,k1,e1,rfl⟩:=B.shape;obtain⟨W,hW,hE,p,b1,hz⟩:=a1v w #[.bool s1, .slice a1 n1 c1, .slice d1 k1 e1] #[.bool false, .slice none 0 0, .slice none 0 0] 45 45;have l:HX (a0e X w.heap.size 2) W:=hX.boxes hz;have v:=QV.mono _ _ _ _ (a0o (nb:=2) hE) B;obtain⟨b,hb⟩:∃b,w.heap.size=b:=⟨_,rfl⟩;have a7:w.heap.size<=b:=by omega
 rw[hb]at p b1 hz l v;have i:=p.cell 0 rfl;have k:=p.cell 1 rfl;have j:=p.cell 2 rfl;clear B;go_enter Tryz.func134,Tryz.ntmps134
 go_wp2_with fail
 refine(a3F (a0e X b 2) W _ x l v).mono ?_;rintro e w5 ⟨f,u5,rfl,r⟩;obtain⟨M,a5,N,c5,n,y,e5,rfl⟩:=r.shape;have G:=l.ext f;have a0:=p.ext0 f;have E:=b1.ext0 f;clear i k j;go_upto_region 2 with((with_reducible show wpList _ _ _ (⟨_, .store _ _ _,_,_,_,_⟩::_) _ _);refine a0a a0t rfl rfl a0 rfl rfl (a1Q _ _ _ _ _ _ _) ?_;intro d g A;have i:=g.cell 0 rfl;have k:=g.cell 1 rfl;have j:=g.cell 2 rfl)
 have V:=G.ext A;have Z:=E.ext A (a0b (by omega));have J:=QC.mono _ _ _ _ (a0h (X:=X) (lo:=b) (nb:=2) A (by omega) (by omega)) r;have F:Ext w d:=ExtX.box (hE.trans f) A (by omega);obtain⟨Q,a3,z⟩:=J.num;have c:Ext d d.drew:=(ExtX.refl d).drew;have s:HX (a0e X b 2) d.drew:=V;have t:ZC (mk (a0e X b 2) d.drew) (.agg #[.bool M, .slice a5 N c5]) x.num:=Q;have o:NC (mk (a0e X b 2) d.drew) (.slice n y e5) (dn x):=z;have H:lg x.num.natAbs<=549755813888:=Nat.le_trans (Nat.le_trans (a0D x) q.out) (by omega);have a4:lg (dn x)<=549755813888:=Nat.le_trans (Nat.le_trans (b2X x) q.out) (by omega);have I:=t.zv H;have Y:Hid (∀W',Ext d.drew W'->W'.cell? ⟨b,0,none⟩=some (.bool M)/\W'.cell? ⟨b,1,none⟩=some (.slice a5 N c5)/\W'.cell? ⟨b,2,none⟩=some (.slice n y e5)):=
  hid fun W' h=>⟨(g.ext0 (c.trans h)).cell 0 rfl,(g.ext0 (c.trans h)).cell 1 rfl,(g.ext0 (c.trans h)).cell 2 rfl⟩
 go_region_held3 (fun R=>R.cell? ⟨b,0,none⟩=some (.bool M)/\R.cell? ⟨b,1,none⟩=some (.slice a5 N c5)/\R.cell? ⟨b,2,none⟩=some (.slice n y e5))
  (first|exact Y.out _ C|exact Y.out _ m|exact⟨((g.ext0 (c.trans m)).ext (a.set3 _ _ _).2 (a0b (by omega))).cell 0 rfl,((g.ext0 (c.trans m)).ext (a.set3 _ _ _).2 (a0b (by omega))).cell 1 rfl,((g.ext0 (c.trans m)).ext (a.set3 _ _ _).2 (a0b (by omega))).cell 2 rfl⟩|go_keep)
  (first|(go_at_call 180;(with_reducible refine(b8A (a0e X b 2) d.drew _ _ s I).mono ?_);rintro ee w8 ⟨C,u8,rfl,L,T,K,D,rfl,S,P,a2⟩;have a6:=HX.ext s C;have m:=C;have U:=mkx NC.mono o C;have a:=Z.ext0 (c.trans m);have g0:=a.cell 0 rfl;have g1:=a.cell 1 rfl;have g2:=a.cell 2 rfl;have f0:=a.frozen 0;have f1:=a.frozen 1;have f2:=a.frozen 2))
 obtain⟨q1,q2⟩:=a.set3 (.bool L) (.slice T D.length K) (.slice n y e5);have hz:ZC (mk (a0e X b 2) w8) (.agg #[.bool L, .slice T D.length K]) (-x).num:=⟨L,T,K,D,rfl,S,by rw[Rat.neg_num];exact P,a2⟩;have hd:NC (mk (a0e X b 2) w8) (.slice n y e5) (dn (-x)):=by rw[b7q];exact U
 have h7:=QC.mono _ _ _ _ a0n (QC.mono _ _ _ _ (a0h q2 (by omega) (by omega)) (QC.of hz hd));have O:Ext w _:=ExtX.box (F.trans (c.trans m)) q2 (by omega);clear g0 g1 g2 f0 f1 f2 i k j Y;go_wp2_with fail
 exact bodyPost_ret (a0d rfl rfl a0t q1 rfl) rfl ⟨O,_,rfl,h7⟩
set_option maxRecDepth 100000 in
set_option maxHeartbeats 1600000 in
theorem b2Z (X:Nat->Bool) (w:World) (u v:Value) (x y:Rat) (hX:HX X w) (hu:QV (mk X w) u x) (hv:QV (mk X w) v y):Calls Tryz.prog 51 #[u,v] w (a1Z X w QC (x+y)):=by
 have e:=hid hu.hq;have f:=hid hv.hq;obtain⟨s1,a1,n1,c1,d1,k1,e1,rfl⟩:=hu.shape;obtain⟨s2,a2,n2,c2,d2,k2,e2,rfl⟩:=hv.shape;obtain⟨W,hW,hE,j,k,b2,hz⟩:=a2D w #[.bool s1, .slice a1 n1 c1, .slice d1 k1 e1] #[.bool s2, .slice a2 n2 c2, .slice d2 k2 e2] #[.bool false, .slice none 0 0, .slice none 0 0] 45 45 45;have f8:HX (a0e X w.heap.size 3) W:=hX.boxes hz;have P:=QV.mono _ _ _ _ (a0o (nb:=3) hE) hu;have K:=QV.mono _ _ _ _ (a0o (nb:=3) hE) hv;obtain⟨b,hb⟩:∃b,w.heap.size=b:=⟨_,rfl⟩;have m8:w.heap.size<=b:=by omega
 rw[hb]at j k b2 hz f8 P K;have c:Ext W W.drew:=(ExtX.refl W).drew;have d:HX (a0e X b 3) W.drew:=f8;have b3:QV (mk (a0e X b 3) W.drew) (.agg #[.bool s1, .slice a1 n1 c1, .slice d1 k1 e1]) x:=P;have f4:QV (mk (a0e X b 3) W.drew) (.agg #[.bool s2, .slice a2 n2 c2, .slice d2 k2 e2]) y:=K;have q:=j.cell 0 rfl;have F:=j.cell 1 rfl;have s:=j.cell 2 rfl;have A:=k.cell 0 rfl;have E:=k.cell 1 rfl;have z:=k.cell 2 rfl;clear hu hv;go_enter Tryz.func51,Tryz.ntmps51
 go_upto_region 1 with(fail)
 go_cut []from 5 to 8 (fun V=>∃R S Q O Y Z e3 I L N M d4 T U,Bx V b #[.bool R, .slice S Q O, .slice Y Z e3] 45/\Bx V (b+1) #[.bool I, .slice L N M, .slice d4 T U] 45/\Bx V (b+1+1) #[.bool false, .slice none 0 0, .slice none 0 0] 45/\QC (mk (a0e X b 3) V) (.agg #[.bool R, .slice S Q O, .slice Y Z e3]) x/\QC (mk (a0e X b 3) V) (.agg #[.bool I, .slice L N M, .slice d4 T U]) y/\Ext w V)
 case first=>
  go_region_with (first|(go_at_call 107;(with_reducible refine(a3F (a0e X b 3) W.drew _ x d b3).mono ?_);rintro o w5 ⟨l,u5,rfl,e7⟩;obtain⟨s5,a5,n5,c5,d5,k5,e5,rfl⟩:=e7.shape;have B:=j.ext0 (c.trans l);have C:=k.ext0 (c.trans l);have m7:=B.cell 0 rfl;have k7:=B.cell 1 rfl;have l1:=B.cell 2 rfl;have h5:=C.cell 0 rfl;have g4:=C.cell 1 rfl;have l2:=C.cell 2 rfl)|(go_at_call 107;(with_reducible refine(a3F (a0e X b 3) w5 _ y (HX.ext d l) (mkx QV.mono f4 l)).mono ?_);rintro o w6 ⟨i,u6,rfl,f6⟩;obtain⟨s6,a6,n6,c6,d6,k6,e6,rfl⟩:=f6.shape;have a:=B.ext0 i;have g:=C.ext0 i;have l6:=a.cell 0 rfl;have i5:=a.cell 1 rfl;have k0:=a.cell 2 rfl;have l3:=g.cell 0 rfl;have h0:=g.cell 1 rfl;have m9:=g.cell 2 rfl;have j5:=a.frozen 0;have k8:=a.frozen 1;have l8:=a.frozen 2;have m1:=g.frozen 0;have l9:=g.frozen 1;have j7:=g.frozen 2))
  all_goals
   obtain⟨wf,b5,q0,q1,q2,q3,q4⟩:=a2c (X:=X) (nb:=3) a g (hE.trans ((c.trans l).trans i)) m8 (by omega) (.bool s5) (.slice a5 n5 c5) (.slice d5 k5 e5) (.bool s6) (.slice a6 n6 c6) (.slice d6 k6 e6);rw[b5];have i3:QC (mk (a0e X b 3) wf) (.agg #[.bool s5, .slice a5 n5 c5, .slice d5 k5 e5]) x:=QC.mono _ _ _ _ q4 (mkx QC.mono e7 i);have k9:QC (mk (a0e X b 3) wf) (.agg #[.bool s6, .slice a6 n6 c6, .slice d6 k6 e6]) y:=QC.mono _ _ _ _ q4 f6;have q5:=q2 (b+1+1) _ _ (by omega) (by omega) ((b2.ext0 (c.trans l)).ext0 i);clear m7 k7 l1 h5 g4 l2 l6 i5 k0 l3 h0 m9 j5 k8 m1 l9 l8 j7 q F s A E z b5;go_wp2_with fail
   go_meet
   exact⟨_,_,_,_,_,_,_,_,_,_,_,_,_,_,q0,q1,q5,i3,k9,q3⟩
 case rest=>
  clear q F s A E z j k b2 P K b3 f4 d c hW;obtain⟨R,S,Q,O,Y,Z,e3,I,L,N,M,d4,T,U,j,k,b2,hx,hy,e0⟩:=hcut;have b4:w.heap.size+3<=wc.heap.size:=by have:=b2.lt;omega
  obtain⟨h8,o1,n7⟩:=hx.num;obtain⟨g6,o8,n0⟩:=hy.num;have l7:HX (a0e X b 3) wc:=hX.boxes' e0 (by have:=b4;omega) b4;have q:=j.cell 0 rfl;have F:=j.cell 1 rfl;have s:=j.cell 2 rfl;have A:=k.cell 0 rfl;have E:=k.cell 1 rfl;have z:=k.cell 2 rfl;have c:Ext wc wc.drew:=(ExtX.refl wc).drew;have d:HX (a0e X b 3) wc.drew:=l7;have d8:QC (mk (a0e X b 3) wc.drew) (.agg #[.bool R, .slice S Q O, .slice Y Z e3]) x:=hx;have b8:QC (mk (a0e X b 3) wc.drew) (.agg #[.bool I, .slice L N M, .slice d4 T U]) y:=hy;have f3:ZC (mk (a0e X b 3) wc.drew) (.agg #[.bool R, .slice S Q O]) x.num:=h8;have b9:ZC (mk (a0e X b 3) wc.drew) (.agg #[.bool I, .slice L N M]) y.num:=g6;have n8:lg x.num.natAbs<=549755813888:=Nat.le_trans (Nat.le_trans (a0D x) e.out) (by omega);have o7:lg y.num.natAbs<=549755813888:=Nat.le_trans (Nat.le_trans (a0D y) f.out) (by omega);have o2:lg x.den<=549755813888:=Nat.le_trans (Nat.le_trans (a0E x) e.out) (by omega);have n9:lg y.den<=549755813888:=Nat.le_trans (Nat.le_trans (a0E y) f.out) (by omega);have g3:lg (x.num*(y.den:Int)).natAbs<=274877906944:=by rw[Int.natAbs_mul,Int.natAbs_natCast];have:=a1b x.num.natAbs y.den;have:=a0D x;have:=a0E y;have:=e.out;have:=f.out;omega
  have m2:lg (y.num*(x.den:Int)).natAbs<=274877906944:=by rw[Int.natAbs_mul,Int.natAbs_natCast];have:=a1b y.num.natAbs x.den;have:=a0D y;have:=a0E x;have:=e.out;have:=f.out;omega
  have h9:lg (x.den*y.den)<=274877906944:=by have:=a1b x.den y.den;have:=a0E x;have:=a0E y;have:=e.out;have:=f.out;omega
  have p0:lg (x.num*y.num).natAbs<=274877906944:=by rw[Int.natAbs_mul];have:=a1b x.num.natAbs y.num.natAbs;have:=a0D x;have:=a0D y;have:=e.out;have:=f.out;omega
  have o9:0<x.den*y.den:=Nat.mul_pos x.den_pos y.den_pos;have J:=hid (And.intro j k);have p:Hid (∀W',Ext wc.drew W'->W'.cell? ⟨b,0,none⟩=some (.bool R)/\W'.cell? ⟨b,1,none⟩=some (.slice S Q O)/\W'.cell? ⟨b,2,none⟩=some (.slice Y Z e3)/\W'.cell? ⟨b+1,0,none⟩=some (.bool I)/\W'.cell? ⟨b+1,1,none⟩=some (.slice L N M)/\W'.cell? ⟨b+1,2,none⟩=some (.slice d4 T U)):=
   hid fun W' h=>⟨(j.ext0 (c.trans h)).cell 0 rfl,(j.ext0 (c.trans h)).cell 1 rfl,(j.ext0 (c.trans h)).cell 2 rfl,(k.ext0 (c.trans h)).cell 0 rfl,(k.ext0 (c.trans h)).cell 1 rfl,(k.ext0 (c.trans h)).cell 2 rfl⟩
  have f7:hq x<=549755813888:=Nat.le_trans e.out (by decide);have a0:hq y<=549755813888:=Nat.le_trans f.out (by decide);have c0:lg x.num.natAbs<=274877906944:=Nat.le_trans (Nat.le_trans (a0D x) e.out) (by omega);have c9:lg y.num.natAbs<=274877906944:=Nat.le_trans (Nat.le_trans (a0D y) f.out) (by omega);have D:lg (x.den:Int).natAbs<=274877906944:=Nat.le_trans (Nat.le_trans (a0E x) e.out) (by omega);have r:lg (y.den:Int).natAbs<=274877906944:=Nat.le_trans (Nat.le_trans (a0E y) f.out) (by omega);have h6:lg ((x.den:Int)*(y.den:Int)).natAbs<=274877906944:=by rw[<-Int.natCast_mul,Int.natAbs_natCast];exact h9
  have g5:(x.den:Int)*(y.den:Int)≠0:=Int.mul_ne_zero (by have:=x.den_nz;omega) (by have:=y.den_nz;omega);have f5:lg (x.num*(y.den:Int)+y.num*(x.den:Int)).natAbs<=274877906944:=by
   have h1:=a1i (Int.natAbs_add_le (x.num*(y.den:Int)) (y.num*(x.den:Int)));have h2:=b0I (x.num*(y.den:Int)).natAbs (y.num*(x.den:Int)).natAbs;have h3:lg (x.num*(y.den:Int)).natAbs<=137438953472:=by rw[Int.natAbs_mul,Int.natAbs_natCast];have:=a1b x.num.natAbs y.den;have:=a0D x;have:=a0E y;have:=e.out;have:=f.out;omega
   have h4:lg (y.num*(x.den:Int)).natAbs<=137438953472:=by rw[Int.natAbs_mul,Int.natAbs_natCast];have:=a1b y.num.natAbs x.den;have:=a0D y;have:=a0E x;have:=e.out;have:=f.out;omega
   omega
  have a9:Hid (((x.num*(y.den:Int)+y.num*(x.den:Int):Int):Rat)/(((x.den:Int)*(y.den:Int):Int):Rat)=x+y):=hid (by
   rw[<-Int.natCast_mul,Rat.intCast_natCast,<-Rat.mkRat_eq_div];exact(Rat.add_def' x y).symm)
  go_wp2_with fail
  go_region_held3 (fun w'=>w'.cell? ⟨b,0,none⟩=some (.bool R)/\w'.cell? ⟨b,1,none⟩=some (.slice S Q O)/\w'.cell? ⟨b,2,none⟩=some (.slice Y Z e3)/\w'.cell? ⟨b+1,0,none⟩=some (.bool I)/\w'.cell? ⟨b+1,1,none⟩=some (.slice L N M)/\w'.cell? ⟨b+1,2,none⟩=some (.slice d4 T U))
   (first|exact p.out _ t1|exact p.out _ t2|exact p.out _ t3|exact p.out _ t4|exact p.out _ t5|exact p.out _ t6|exact p.out _ t7|exact p.out _ t8|exact p.out _ t|exact⟨((J.out.1.ext0 (c.trans t)).ext (a.set3 _ _ _).2 (a0b (by omega))).cell 0 rfl,((J.out.1.ext0 (c.trans t)).ext (a.set3 _ _ _).2 (a0b (by omega))).cell 1 rfl,((J.out.1.ext0 (c.trans t)).ext (a.set3 _ _ _).2 (a0b (by omega))).cell 2 rfl,((J.out.2.ext0 (c.trans t)).ext (a.set3 _ _ _).2 (a0b (by omega))).cell 0 rfl,((J.out.2.ext0 (c.trans t)).ext (a.set3 _ _ _).2 (a0b (by omega))).cell 1 rfl,((J.out.2.ext0 (c.trans t)).ext (a.set3 _ _ _).2 (a0b (by omega))).cell 2 rfl⟩|go_keep)
   (first|(go_at_call 137;(with_reducible refine(a8M (a0e X b 3) wc.drew _ y d b8 a0).mono ?_);rintro o w5 ⟨t1,u5,rfl,m4⟩;have g7:=HX.ext d t1;have j6:=mkx ZC.mono f3 t1)|(go_at_call 136;(with_reducible refine(a9P (a0e X b 3) w5 _ _ x.num (y.den:Int) g7 (j6.zv (Nat.le_trans c0 (by decide))) (m4.zv (Nat.le_trans r (by decide))) c0 r).mono ?_);rintro o w6 ⟨i,u6,rfl,m3⟩;have t2:=t1.trans i;have l4:=HX.ext d t2;have f9:=mkx QC.mono d8 t2)|(go_at_call 137;(with_reducible refine(a8M (a0e X b 3) w6 _ x l4 f9 f7).mono ?_);rintro o w7 ⟨d7,u7,rfl,g8⟩;have t3:=t2.trans d7;have i4:=HX.ext d t3;have j0:=mkx ZC.mono b9 t3)|(go_at_call 136;(with_reducible refine(a9P (a0e X b 3) w7 _ _ y.num (x.den:Int) i4 (j0.zv (Nat.le_trans c9 (by decide))) (g8.zv (Nat.le_trans D (by decide))) c9 D).mono ?_);rintro o w8 ⟨c8,u8,rfl,m0⟩;have t4:=t3.trans c8;have i8:=HX.ext d t4;have i9:=mkx ZC.mono m3 (d7.trans c8))|(go_at_call 135;(with_reducible refine(c1r (a0e X b 3) w8 _ _ _ _ i8 (i9.zv (Nat.le_trans g3 (by decide))) (m0.zv (Nat.le_trans m2 (by decide)))).mono ?_);rintro o w9 ⟨i6,u9,rfl,m6⟩;have t5:=t4.trans i6;have j2:=HX.ext d t5;have i1:=mkx QC.mono d8 t5)|(go_at_call 137;(with_reducible refine(a8M (a0e X b 3) w9 _ x j2 i1 f7).mono ?_);rintro o j4 ⟨G,o3,rfl,a7⟩;have t6:=t5.trans G;have e9:=HX.ext d t6;have c7:=mkx QC.mono b8 t6)|(go_at_call 137;(with_reducible refine(a8M (a0e X b 3) j4 _ y e9 c7 a0).mono ?_);rintro o l0 ⟨m,o6,rfl,e8⟩;have t7:=t6.trans m;have b7:=HX.ext d t7;have a8:=mkx ZC.mono a7 m)|(go_at_call 136;(with_reducible refine(a9P (a0e X b 3) l0 _ _ (x.den:Int) (y.den:Int) b7 (a8.zv (Nat.le_trans D (by decide))) (e8.zv (Nat.le_trans r (by decide))) D r).mono ?_);rintro o i7 ⟨H,o5,rfl,b6⟩;have t8:=t7.trans H;have d9:=HX.ext d t8;have i2:=mkx ZC.mono m6 (G.trans (m.trans H)))|(go_at_call 102;(with_reducible refine(b0R (a0e X b 3) i7 _ _ _ _ d9 i2 b6 f5 h6 g5).mono ?_);rintro o o4 ⟨d0,o0,rfl,n⟩;have t:=t8.trans d0;obtain⟨i0,j1,m5,j9,j3,g9,l5,rfl⟩:=n.shape;have a:=b2.ext0 (c.trans t);have g0:=a.cell 0 rfl;have g1:=a.cell 1 rfl;have g2:=a.cell 2 rfl;have f0:=a.frozen 0;have f1:=a.frozen 1;have f2:=a.frozen 2))
  rw[a9.out]at n;obtain⟨r1,r2⟩:=a.set3 (.bool i0) (.slice j1 m5 j9) (.slice j3 g9 l5);have h7:=QC.mono _ _ _ _ a0n (QC.mono _ _ _ _ (a0h r2 (by omega) (by omega)) n);have j8:Ext w _:=ExtX.box (e0.trans (c.trans t)) r2 (by omega);clear g0 g1 g2 f0 f1 f2 q F s A E z p J;go_wp2_with fail
  exact bodyPost_ret (a0d rfl rfl a0t r1 rfl) rfl ⟨j8,_,rfl,h7⟩
set_option maxRecDepth 100000 in
set_option maxHeartbeats 1600000 in
theorem b3a (X:Nat->Bool) (w:World) (u v:Value) (x y:Rat) (hX:HX X w) (hu:QV (mk X w) u x) (hv:QV (mk X w) v y):Calls Tryz.prog 52 #[u,v] w (a1Z X w QC (x*y)):=by
 have d:=hid hu.hq;have e:=hid hv.hq;obtain⟨s1,a1,n1,c1,d1,k1,e1,rfl⟩:=hu.shape;obtain⟨s2,a2,n2,c2,d2,k2,e2,rfl⟩:=hv.shape;obtain⟨W,hW,hE,j,k,U,hz⟩:=a2D w #[.bool s1, .slice a1 n1 c1, .slice d1 k1 e1] #[.bool s2, .slice a2 n2 c2, .slice d2 k2 e2] #[.bool false, .slice none 0 0, .slice none 0 0] 45 45 45;have d0:HX (a0e X w.heap.size 3) W:=hX.boxes hz;have I:=QV.mono _ _ _ _ (a0o (nb:=3) hE) hu;have C:=QV.mono _ _ _ _ (a0o (nb:=3) hE) hv;obtain⟨b,hb⟩:∃b,w.heap.size=b:=⟨_,rfl⟩;have k7:w.heap.size<=b:=by omega
 rw[hb]at j k U hz d0 I C;have c:Ext W W.drew:=(ExtX.refl W).drew;have f:HX (a0e X b 3) W.drew:=d0;have a8:QV (mk (a0e X b 3) W.drew) (.agg #[.bool s1, .slice a1 n1 c1, .slice d1 k1 e1]) x:=I;have c8:QV (mk (a0e X b 3) W.drew) (.agg #[.bool s2, .slice a2 n2 c2, .slice d2 k2 e2]) y:=C;have m:=j.cell 0 rfl;have z:=j.cell 1 rfl;have n:=j.cell 2 rfl;have p:=k.cell 0 rfl;have t:=k.cell 1 rfl;have o:=k.cell 2 rfl;clear hu hv;go_enter Tryz.func52,Tryz.ntmps52
 go_upto_region 1 with(fail)
 go_cut []from 5 to 8 (fun Q=>∃K M J H R S T A D F E V N P,Bx Q b #[.bool K, .slice M J H, .slice R S T] 45/\Bx Q (b+1) #[.bool A, .slice D F E, .slice V N P] 45/\Bx Q (b+1+1) #[.bool false, .slice none 0 0, .slice none 0 0] 45/\QC (mk (a0e X b 3) Q) (.agg #[.bool K, .slice M J H, .slice R S T]) x/\QC (mk (a0e X b 3) Q) (.agg #[.bool A, .slice D F E, .slice V N P]) y/\Ext w Q)
 case first=>
  go_region_with (first|(go_at_call 107;(with_reducible refine(a3F (a0e X b 3) W.drew _ x f a8).mono ?_);rintro O w5 ⟨l,u5,rfl,c0⟩;obtain⟨s5,a5,n5,c5,d5,k5,e5,rfl⟩:=c0.shape;have q:=j.ext0 (c.trans l);have s:=k.ext0 (c.trans l);have k0:=q.cell 0 rfl;have h9:=q.cell 1 rfl;have i2:=q.cell 2 rfl;have f5:=s.cell 0 rfl;have d8:=s.cell 1 rfl;have i3:=s.cell 2 rfl)|(go_at_call 107;(with_reducible refine(a3F (a0e X b 3) w5 _ y (HX.ext f l) (mkx QV.mono c8 l)).mono ?_);rintro O w6 ⟨g,u6,rfl,c9⟩;obtain⟨s6,a6,n6,c6,d6,k6,e6,rfl⟩:=c9.shape;have a:=q.ext0 g;have i:=s.ext0 g;have i8:=a.cell 0 rfl;have g6:=a.cell 1 rfl;have h8:=a.cell 2 rfl;have i4:=i.cell 0 rfl;have f4:=i.cell 1 rfl;have k8:=i.cell 2 rfl;have h1:=a.frozen 0;have i0:=a.frozen 1;have j0:=a.frozen 2;have j4:=i.frozen 0;have j1:=i.frozen 1;have h4:=i.frozen 2))
  all_goals
   obtain⟨wf,b3,q0,q1,q2,q3,q4⟩:=a2c (X:=X) (nb:=3) a i (hE.trans ((c.trans l).trans g)) k7 (by omega) (.bool s5) (.slice a5 n5 c5) (.slice d5 k5 e5) (.bool s6) (.slice a6 n6 c6) (.slice d6 k6 e6);rw[b3];have g4:QC (mk (a0e X b 3) wf) (.agg #[.bool s5, .slice a5 n5 c5, .slice d5 k5 e5]) x:=QC.mono _ _ _ _ q4 (mkx QC.mono c0 g);have i1:QC (mk (a0e X b 3) wf) (.agg #[.bool s6, .slice a6 n6 c6, .slice d6 k6 e6]) y:=QC.mono _ _ _ _ q4 c9;have q5:=q2 (b+1+1) _ _ (by omega) (by omega) ((U.ext0 (c.trans l)).ext0 g);clear k0 h9 i2 f5 d8 i3 i8 g6 h8 i4 f4 k8 h1 i0 j4 j1 j0 h4 m z n p t o b3;go_wp2_with fail
   go_meet
   exact⟨_,_,_,_,_,_,_,_,_,_,_,_,_,_,q0,q1,q5,g4,i1,q3⟩
 case rest=>
  clear m z n p t o j k U I C a8 c8 f c hW;obtain⟨K,M,J,H,R,S,T,A,D,F,E,V,N,P,j,k,U,hx,hy,b8⟩:=hcut;have a9:w.heap.size+3<=wc.heap.size:=by have:=U.lt;omega
  obtain⟨f7,l4,l0⟩:=hx.num;obtain⟨e0,l7,k9⟩:=hy.num;have i9:HX (a0e X b 3) wc:=hX.boxes' b8 (by have:=a9;omega) a9;have m:=j.cell 0 rfl;have z:=j.cell 1 rfl;have n:=j.cell 2 rfl;have p:=k.cell 0 rfl;have t:=k.cell 1 rfl;have o:=k.cell 2 rfl;have c:Ext wc wc.drew:=(ExtX.refl wc).drew;have f:HX (a0e X b 3) wc.drew:=i9;have h2:QC (mk (a0e X b 3) wc.drew) (.agg #[.bool K, .slice M J H, .slice R S T]) x:=hx;have g3:QC (mk (a0e X b 3) wc.drew) (.agg #[.bool A, .slice D F E, .slice V N P]) y:=hy;have c7:ZC (mk (a0e X b 3) wc.drew) (.agg #[.bool K, .slice M J H]) x.num:=f7;have b4:ZC (mk (a0e X b 3) wc.drew) (.agg #[.bool A, .slice D F E]) y.num:=e0;have l2:lg x.num.natAbs<=549755813888:=Nat.le_trans (Nat.le_trans (a0D x) d.out) (by omega);have l6:lg y.num.natAbs<=549755813888:=Nat.le_trans (Nat.le_trans (a0D y) e.out) (by omega);have l5:lg x.den<=549755813888:=Nat.le_trans (Nat.le_trans (a0E x) d.out) (by omega);have l3:lg y.den<=549755813888:=Nat.le_trans (Nat.le_trans (a0E y) e.out) (by omega);have l1:lg (x.num*(y.den:Int)).natAbs<=274877906944:=by rw[Int.natAbs_mul,Int.natAbs_natCast];have:=a1b x.num.natAbs y.den;have:=a0D x;have:=a0E y;have:=d.out;have:=e.out;omega
  have l9:lg (y.num*(x.den:Int)).natAbs<=274877906944:=by rw[Int.natAbs_mul,Int.natAbs_natCast];have:=a1b y.num.natAbs x.den;have:=a0D y;have:=a0E x;have:=d.out;have:=e.out;omega
  have f8:lg (x.den*y.den)<=274877906944:=by have:=a1b x.den y.den;have:=a0E x;have:=a0E y;have:=d.out;have:=e.out;omega
  have j8:lg (x.num*y.num).natAbs<=274877906944:=by rw[Int.natAbs_mul];have:=a1b x.num.natAbs y.num.natAbs;have:=a0D x;have:=a0D y;have:=d.out;have:=e.out;omega
  have l8:0<x.den*y.den:=Nat.mul_pos x.den_pos y.den_pos;have B:=hid (And.intro j k);have Z:Hid (∀W',Ext wc.drew W'->W'.cell? ⟨b,0,none⟩=some (.bool K)/\W'.cell? ⟨b,1,none⟩=some (.slice M J H)/\W'.cell? ⟨b,2,none⟩=some (.slice R S T)/\W'.cell? ⟨b+1,0,none⟩=some (.bool A)/\W'.cell? ⟨b+1,1,none⟩=some (.slice D F E)/\W'.cell? ⟨b+1,2,none⟩=some (.slice V N P)):=
   hid fun W' h=>⟨(j.ext0 (c.trans h)).cell 0 rfl,(j.ext0 (c.trans h)).cell 1 rfl,(j.ext0 (c.trans h)).cell 2 rfl,(k.ext0 (c.trans h)).cell 0 rfl,(k.ext0 (c.trans h)).cell 1 rfl,(k.ext0 (c.trans h)).cell 2 rfl⟩
  have j2:hq x<=549755813888:=Nat.le_trans d.out (by decide);have d7:hq y<=549755813888:=Nat.le_trans e.out (by decide);have b5:lg x.num.natAbs<=274877906944:=Nat.le_trans (Nat.le_trans (a0D x) d.out) (by omega);have b7:lg y.num.natAbs<=274877906944:=Nat.le_trans (Nat.le_trans (a0D y) e.out) (by omega);have b9:lg (x.den:Int).natAbs<=274877906944:=Nat.le_trans (Nat.le_trans (a0E x) d.out) (by omega);have a0:lg (y.den:Int).natAbs<=274877906944:=Nat.le_trans (Nat.le_trans (a0E y) e.out) (by omega);have f6:lg ((x.den:Int)*(y.den:Int)).natAbs<=274877906944:=by rw[<-Int.natCast_mul,Int.natAbs_natCast];exact f8
  have d9:(x.den:Int)*(y.den:Int)≠0:=Int.mul_ne_zero (by have:=x.den_nz;omega) (by have:=y.den_nz;omega);have a7:Hid (((x.num*y.num:Int):Rat)/(((x.den:Int)*(y.den:Int):Int):Rat)=x*y):=hid (by
   rw[<-Int.natCast_mul,Rat.intCast_natCast,<-Rat.mkRat_eq_div];exact(Rat.mul_def' x y).symm)
  go_wp2_with fail
  go_region_held3 (fun Y=>Y.cell? ⟨b,0,none⟩=some (.bool K)/\Y.cell? ⟨b,1,none⟩=some (.slice M J H)/\Y.cell? ⟨b,2,none⟩=some (.slice R S T)/\Y.cell? ⟨b+1,0,none⟩=some (.bool A)/\Y.cell? ⟨b+1,1,none⟩=some (.slice D F E)/\Y.cell? ⟨b+1,2,none⟩=some (.slice V N P))
   (first|exact Z.out _ t1|exact Z.out _ t2|exact Z.out _ t3|exact Z.out _ t4|exact Z.out _ r|exact⟨((B.out.1.ext0 (c.trans r)).ext (a.set3 _ _ _).2 (a0b (by omega))).cell 0 rfl,((B.out.1.ext0 (c.trans r)).ext (a.set3 _ _ _).2 (a0b (by omega))).cell 1 rfl,((B.out.1.ext0 (c.trans r)).ext (a.set3 _ _ _).2 (a0b (by omega))).cell 2 rfl,((B.out.2.ext0 (c.trans r)).ext (a.set3 _ _ _).2 (a0b (by omega))).cell 0 rfl,((B.out.2.ext0 (c.trans r)).ext (a.set3 _ _ _).2 (a0b (by omega))).cell 1 rfl,((B.out.2.ext0 (c.trans r)).ext (a.set3 _ _ _).2 (a0b (by omega))).cell 2 rfl⟩|go_keep)
   (first|(go_at_call 136;(with_reducible refine(a9P (a0e X b 3) wc.drew _ _ x.num y.num f (c7.zv (Nat.le_trans b5 (by decide))) (b4.zv (Nat.le_trans b7 (by decide))) b5 b7).mono ?_);rintro O w5 ⟨t1,u5,rfl,j6⟩;have e7:=HX.ext f t1;have h3:=mkx QC.mono h2 t1)|(go_at_call 137;(with_reducible refine(a8M (a0e X b 3) w5 _ x e7 h3 j2).mono ?_);rintro O w6 ⟨g,u6,rfl,j5⟩;have t2:=t1.trans g;have i6:=HX.ext f t2;have e9:=mkx QC.mono g3 t2)|(go_at_call 137;(with_reducible refine(a8M (a0e X b 3) w6 _ y i6 e9 d7).mono ?_);rintro O w7 ⟨G,u7,rfl,e8⟩;have t3:=t2.trans G;have g5:=HX.ext f t3;have j9:=mkx ZC.mono j5 G)|(go_at_call 136;(with_reducible refine(a9P (a0e X b 3) w7 _ _ (x.den:Int) (y.den:Int) g5 (j9.zv (Nat.le_trans b9 (by decide))) (e8.zv (Nat.le_trans a0 (by decide))) b9 a0).mono ?_);rintro O w8 ⟨b6,u8,rfl,j3⟩;have t4:=t3.trans b6;have g8:=HX.ext f t4;have i5:=mkx ZC.mono j6 (g.trans (G.trans b6)))|(go_at_call 102;(with_reducible refine(b0R (a0e X b 3) w8 _ _ _ _ g8 i5 j3 j8 f6 d9).mono ?_);rintro O w9 ⟨g7,u9,rfl,L⟩;have r:=t4.trans g7;obtain⟨f9,g9,j7,h6,h0,f3,i7,rfl⟩:=L.shape;have a:=U.ext0 (c.trans r);have g0:=a.cell 0 rfl;have g1:=a.cell 1 rfl;have g2:=a.cell 2 rfl;have f0:=a.frozen 0;have f1:=a.frozen 1;have f2:=a.frozen 2))
  rw[a7.out]at L;obtain⟨r1,r2⟩:=a.set3 (.bool f9) (.slice g9 j7 h6) (.slice h0 f3 i7);have h7:=QC.mono _ _ _ _ a0n (QC.mono _ _ _ _ (a0h r2 (by omega) (by omega)) L);have h5:Ext w _:=ExtX.box (b8.trans (c.trans r)) r2 (by omega);clear g0 g1 g2 f0 f1 f2 m z n p t o Z B;go_wp2_with fail
  exact bodyPost_ret (a0d rfl rfl a0t r1 rfl) rfl ⟨h5,_,rfl,h7⟩
set_option maxRecDepth 100000 in
set_option maxHeartbeats 1600000 in
theorem c1x (X:Nat->Bool) (w:World) (u v:Value) (x y:Rat) (hX:HX X w) (hu:QV (mk X w) u x) (hv:QV (mk X w) v y) (f6:y≠0):Calls Tryz.prog 221 #[u,v] w (a1Z X w QC (x/y)):=by
 have d:=hid hu.hq;have e:=hid hv.hq;obtain⟨s1,a1,n1,c1,d1,k1,e1,rfl⟩:=hu.shape;obtain⟨s2,a2,n2,c2,d2,k2,e2,rfl⟩:=hv.shape;obtain⟨W,hW,hE,j,k,T,hz⟩:=a2D w #[.bool s1, .slice a1 n1 c1, .slice d1 k1 e1] #[.bool s2, .slice a2 n2 c2, .slice d2 k2 e2] #[.bool false, .slice none 0 0, .slice none 0 0] 45 45 45;have d0:HX (a0e X w.heap.size 3) W:=hX.boxes hz;have H:=QV.mono _ _ _ _ (a0o (nb:=3) hE) hu;have C:=QV.mono _ _ _ _ (a0o (nb:=3) hE) hv;obtain⟨b,hb⟩:∃b,w.heap.size=b:=⟨_,rfl⟩;have k9:w.heap.size<=b:=by omega
 rw[hb]at j k T hz d0 H C;have c:Ext W W.drew:=(ExtX.refl W).drew;have f:HX (a0e X b 3) W.drew:=d0;have a7:QV (mk (a0e X b 3) W.drew) (.agg #[.bool s1, .slice a1 n1 c1, .slice d1 k1 e1]) x:=H;have c8:QV (mk (a0e X b 3) W.drew) (.agg #[.bool s2, .slice a2 n2 c2, .slice d2 k2 e2]) y:=C;have m:=j.cell 0 rfl;have z:=j.cell 1 rfl;have n:=j.cell 2 rfl;have p:=k.cell 0 rfl;have t:=k.cell 1 rfl;have o:=k.cell 2 rfl;clear hu hv;go_enter Tryz.func221,Tryz.ntmps221
 go_upto_region 1 with(fail)
 go_cut []from 5 to 8 (fun P=>∃J L I G Q R S A D F E U M O,Bx P b #[.bool J, .slice L I G, .slice Q R S] 45/\Bx P (b+1) #[.bool A, .slice D F E, .slice U M O] 45/\Bx P (b+1+1) #[.bool false, .slice none 0 0, .slice none 0 0] 45/\QC (mk (a0e X b 3) P) (.agg #[.bool J, .slice L I G, .slice Q R S]) x/\QC (mk (a0e X b 3) P) (.agg #[.bool A, .slice D F E, .slice U M O]) y/\Ext w P)
 case first=>
  go_region_with (first|(go_at_call 107;(with_reducible refine(a3F (a0e X b 3) W.drew _ x f a7).mono ?_);rintro N w5 ⟨l,u5,rfl,c0⟩;obtain⟨s5,a5,n5,c5,d5,k5,e5,rfl⟩:=c0.shape;have q:=j.ext0 (c.trans l);have s:=k.ext0 (c.trans l);have k8:=q.cell 0 rfl;have i3:=q.cell 1 rfl;have i6:=q.cell 2 rfl;have f7:=s.cell 0 rfl;have e7:=s.cell 1 rfl;have i7:=s.cell 2 rfl)|(go_at_call 107;(with_reducible refine(a3F (a0e X b 3) w5 _ y (HX.ext f l) (mkx QV.mono c8 l)).mono ?_);rintro N w6 ⟨i,u6,rfl,c9⟩;obtain⟨s6,a6,n6,c6,d6,k6,e6,rfl⟩:=c9.shape;have a:=q.ext0 i;have g:=s.ext0 i;have j1:=a.cell 0 rfl;have g7:=a.cell 1 rfl;have i2:=a.cell 2 rfl;have i8:=g.cell 0 rfl;have f5:=g.cell 1 rfl;have l0:=g.cell 2 rfl;have h5:=a.frozen 0;have i4:=a.frozen 1;have j3:=a.frozen 2;have j7:=g.frozen 0;have j4:=g.frozen 1;have h9:=g.frozen 2))
  all_goals
   obtain⟨wf,a9,q0,q1,q2,q3,q4⟩:=a2c (X:=X) (nb:=3) a g (hE.trans ((c.trans l).trans i)) k9 (by omega) (.bool s5) (.slice a5 n5 c5) (.slice d5 k5 e5) (.bool s6) (.slice a6 n6 c6) (.slice d6 k6 e6);rw[a9];have g5:QC (mk (a0e X b 3) wf) (.agg #[.bool s5, .slice a5 n5 c5, .slice d5 k5 e5]) x:=QC.mono _ _ _ _ q4 (mkx QC.mono c0 i);have i5:QC (mk (a0e X b 3) wf) (.agg #[.bool s6, .slice a6 n6 c6, .slice d6 k6 e6]) y:=QC.mono _ _ _ _ q4 c9;have q5:=q2 (b+1+1) _ _ (by omega) (by omega) ((T.ext0 (c.trans l)).ext0 i);clear k8 i3 i6 f7 e7 i7 j1 g7 i2 i8 f5 l0 h5 i4 j7 j4 j3 h9 m z n p t o a9;go_wp2_with fail
   go_meet
   exact⟨_,_,_,_,_,_,_,_,_,_,_,_,_,_,q0,q1,q5,g5,i5,q3⟩
 case rest=>
  clear m z n p t o j k T H C a7 c8 f c hW;obtain⟨J,L,I,G,Q,R,S,A,D,F,E,U,M,O,j,k,T,hx,hy,b8⟩:=hcut;have a8:w.heap.size+3<=wc.heap.size:=by have:=T.lt;omega
  obtain⟨f8,l6,l2⟩:=hx.num;obtain⟨e8,m0,l1⟩:=hy.num;have j2:HX (a0e X b 3) wc:=hX.boxes' b8 (by have:=a8;omega) a8;have m:=j.cell 0 rfl;have z:=j.cell 1 rfl;have n:=j.cell 2 rfl;have p:=k.cell 0 rfl;have t:=k.cell 1 rfl;have o:=k.cell 2 rfl;have c:Ext wc wc.drew:=(ExtX.refl wc).drew;have f:HX (a0e X b 3) wc.drew:=j2;have h6:QC (mk (a0e X b 3) wc.drew) (.agg #[.bool J, .slice L I G, .slice Q R S]) x:=hx;have g4:QC (mk (a0e X b 3) wc.drew) (.agg #[.bool A, .slice D F E, .slice U M O]) y:=hy;have c7:ZC (mk (a0e X b 3) wc.drew) (.agg #[.bool J, .slice L I G]) x.num:=f8;have b3:ZC (mk (a0e X b 3) wc.drew) (.agg #[.bool A, .slice D F E]) y.num:=e8;have l4:lg x.num.natAbs<=549755813888:=Nat.le_trans (Nat.le_trans (a0D x) d.out) (by omega);have l9:lg y.num.natAbs<=549755813888:=Nat.le_trans (Nat.le_trans (a0D y) e.out) (by omega);have l7:lg x.den<=549755813888:=Nat.le_trans (Nat.le_trans (a0E x) d.out) (by omega);have l5:lg y.den<=549755813888:=Nat.le_trans (Nat.le_trans (a0E y) e.out) (by omega);have e0:lg (x.num*(y.den:Int)).natAbs<=274877906944:=by rw[Int.natAbs_mul,Int.natAbs_natCast];have:=a1b x.num.natAbs y.den;have:=a0D x;have:=a0E y;have:=d.out;have:=e.out;omega
  have j8:lg (y.num*(x.den:Int)).natAbs<=274877906944:=by rw[Int.natAbs_mul,Int.natAbs_natCast];have:=a1b y.num.natAbs x.den;have:=a0D y;have:=a0E x;have:=d.out;have:=e.out;omega
  have f9:lg (x.den*y.den)<=274877906944:=by have:=a1b x.den y.den;have:=a0E x;have:=a0E y;have:=d.out;have:=e.out;omega
  have m2:lg (x.num*y.num).natAbs<=274877906944:=by rw[Int.natAbs_mul];have:=a1b x.num.natAbs y.num.natAbs;have:=a0D x;have:=a0D y;have:=d.out;have:=e.out;omega
  have m1:0<x.den*y.den:=Nat.mul_pos x.den_pos y.den_pos;have B:=hid (And.intro j k);have Y:Hid (∀W',Ext wc.drew W'->W'.cell? ⟨b,0,none⟩=some (.bool J)/\W'.cell? ⟨b,1,none⟩=some (.slice L I G)/\W'.cell? ⟨b,2,none⟩=some (.slice Q R S)/\W'.cell? ⟨b+1,0,none⟩=some (.bool A)/\W'.cell? ⟨b+1,1,none⟩=some (.slice D F E)/\W'.cell? ⟨b+1,2,none⟩=some (.slice U M O)):=
   hid fun W' h=>⟨(j.ext0 (c.trans h)).cell 0 rfl,(j.ext0 (c.trans h)).cell 1 rfl,(j.ext0 (c.trans h)).cell 2 rfl,(k.ext0 (c.trans h)).cell 0 rfl,(k.ext0 (c.trans h)).cell 1 rfl,(k.ext0 (c.trans h)).cell 2 rfl⟩
  have j5:hq x<=549755813888:=Nat.le_trans d.out (by decide);have d9:hq y<=549755813888:=Nat.le_trans e.out (by decide);have b4:lg x.num.natAbs<=274877906944:=Nat.le_trans (Nat.le_trans (a0D x) d.out) (by omega);have b6:lg y.num.natAbs<=274877906944:=Nat.le_trans (Nat.le_trans (a0D y) e.out) (by omega);have b9:lg (x.den:Int).natAbs<=274877906944:=Nat.le_trans (Nat.le_trans (a0E x) d.out) (by omega);have Z:lg (y.den:Int).natAbs<=274877906944:=Nat.le_trans (Nat.le_trans (a0E y) e.out) (by omega);have l8:lg ((x.den:Int)*(y.den:Int)).natAbs<=274877906944:=by rw[<-Int.natCast_mul,Int.natAbs_natCast];exact f9
  have l3:(x.den:Int)*(y.den:Int)≠0:=Int.mul_ne_zero (by have:=x.den_nz;omega) (by have:=y.den_nz;omega);have d7:lg ((x.den:Int)*y.num).natAbs<=274877906944:=by rw[Int.mul_comm];exact j8
  have g9:(x.den:Int)*y.num≠0:=Int.mul_ne_zero (by have:=x.den_nz;omega) (fun h=>f6 (Rat.num_eq_zero.1 h));have a0:Hid (((x.num*(y.den:Int):Int):Rat)/(((x.den:Int)*y.num:Int):Rat)=x/y):=hid (by rw[Int.mul_comm (x.den:Int)];exact b7s x y);go_wp2_with fail
  go_region_held3 (fun V=>V.cell? ⟨b,0,none⟩=some (.bool J)/\V.cell? ⟨b,1,none⟩=some (.slice L I G)/\V.cell? ⟨b,2,none⟩=some (.slice Q R S)/\V.cell? ⟨b+1,0,none⟩=some (.bool A)/\V.cell? ⟨b+1,1,none⟩=some (.slice D F E)/\V.cell? ⟨b+1,2,none⟩=some (.slice U M O))
   (first|exact Y.out _ t1|exact Y.out _ t2|exact Y.out _ t3|exact Y.out _ t4|exact Y.out _ r|exact⟨((B.out.1.ext0 (c.trans r)).ext (a.set3 _ _ _).2 (a0b (by omega))).cell 0 rfl,((B.out.1.ext0 (c.trans r)).ext (a.set3 _ _ _).2 (a0b (by omega))).cell 1 rfl,((B.out.1.ext0 (c.trans r)).ext (a.set3 _ _ _).2 (a0b (by omega))).cell 2 rfl,((B.out.2.ext0 (c.trans r)).ext (a.set3 _ _ _).2 (a0b (by omega))).cell 0 rfl,((B.out.2.ext0 (c.trans r)).ext (a.set3 _ _ _).2 (a0b (by omega))).cell 1 rfl,((B.out.2.ext0 (c.trans r)).ext (a.set3 _ _ _).2 (a0b (by omega))).cell 2 rfl⟩|go_keep)
   (first|(go_at_call 137;(with_reducible refine(a8M (a0e X b 3) wc.drew _ y f g4 d9).mono ?_);rintro N w5 ⟨t1,u5,rfl,k0⟩;have e9:=HX.ext f t1;have h8:=mkx ZC.mono c7 t1)|(go_at_call 136;(with_reducible refine(a9P (a0e X b 3) w5 _ _ x.num (y.den:Int) e9 (h8.zv (Nat.le_trans b4 (by decide))) (k0.zv (Nat.le_trans Z (by decide))) b4 Z).mono ?_);rintro N w6 ⟨i,u6,rfl,j9⟩;have t2:=t1.trans i;have i9:=HX.ext f t2;have d8:=mkx QC.mono h6 t2)|(go_at_call 137;(with_reducible refine(a8M (a0e X b 3) w6 _ x i9 d8 j5).mono ?_);rintro N w7 ⟨b7,u7,rfl,f3⟩;have t3:=t2.trans b7;have g6:=HX.ext f t3;have h2:=mkx ZC.mono b3 t3)|(go_at_call 136;(with_reducible refine(a9P (a0e X b 3) w7 _ _ (x.den:Int) y.num g6 (f3.zv (Nat.le_trans b9 (by decide))) (h2.zv (Nat.le_trans b6 (by decide))) b9 b6).mono ?_);rintro N w8 ⟨b5,u8,rfl,j6⟩;have t4:=t3.trans b5;have h0:=HX.ext f t4;have h1:=mkx ZC.mono j9 (b7.trans b5))|(go_at_call 102;(with_reducible refine(b0R (a0e X b 3) w8 _ _ _ _ h0 h1 j6 e0 d7 g9).mono ?_);rintro N w9 ⟨g8,u9,rfl,K⟩;have r:=t4.trans g8;obtain⟨g3,h3,k7,i1,h4,f4,j0,rfl⟩:=K.shape;have a:=T.ext0 (c.trans r);have g0:=a.cell 0 rfl;have g1:=a.cell 1 rfl;have g2:=a.cell 2 rfl;have f0:=a.frozen 0;have f1:=a.frozen 1;have f2:=a.frozen 2))
  rw[a0.out]at K;obtain⟨r1,r2⟩:=a.set3 (.bool g3) (.slice h3 k7 i1) (.slice h4 f4 j0);have h7:=QC.mono _ _ _ _ a0n (QC.mono _ _ _ _ (a0h r2 (by omega) (by omega)) K);have i0:Ext w _:=ExtX.box (b8.trans (c.trans r)) r2 (by omega);clear g0 g1 g2 f0 f1 f2 m z n p t o Y B;go_wp2_with fail
  exact bodyPost_ret (a0d rfl rfl a0t r1 rfl) rfl ⟨i0,_,rfl,h7⟩
set_option maxRecDepth 100000 in
theorem b7t (X:Nat->Bool) (w:World) (u v:Value) (l:List Rat) (c:Rat) (hX:HX X w) (hu:RV (mk X w) u l) (hv:QV (mk X w) v c) (hl:l.length<=1000000):Calls Tryz.prog 233 #[u,v] w (a1Z X w RC (l.map (· *c))):=by
 obtain⟨ao,ca,rfl,d3,d⟩:=hu;have a5:=d.hd;obtain⟨K,M,P,J,I,H,N,rfl⟩:=hv.shape;obtain⟨W,hW,e,b0,hz⟩:=a1g w #[.bool K, .slice M P J, .slice I H N] 45;have b9:HX X W:=hX.ext e;have a4:=d.mono QV.mono (a0l e);have c5:=mkx QV.mono hv e;obtain⟨b,hb⟩:∃b,w.heap.size=b:=⟨_,rfl⟩;rw[hb]at b0 hz;obtain⟨L,Q⟩:∃L,l.map (· *c)=L:=⟨_,rfl⟩;have c7:L.length=l.length:=by rw[<-Q];simp
 have b7:=hid (show∀i (hi:i<l.length) (U:i<L.length),L[i]=l[i]*c from fun i hi U=>by subst Q;simp);rw[Q];clear Q d hv;go_enter Tryz.func233,Tryz.ntmps233
 go_wp2_with fail
 go_loopw [5,6] (fun o cc wr=>∃(i:Nat) (oo:Option Addr) (G:Nat),cc= .int .i64 i/\o= .slice oo i G/\i<=l.length/\OL QC 3 X W.heap.size 45 wr oo G (L.take i)/\Ext W wr) (fun _ cc _=>l.length - (intOf cc).toNat)
 case atStart=>exact⟨0,none,0,rfl,rfl,Nat.zero_le _,OL.nil _ _ _ _ _ _,ExtX.refl _⟩
 case round=>
  obtain⟨i,oo,G,rfl,rfl,hi,k,m⟩:=hrel;have t:HX X wr:=b9.ext m;have a0:HX (un X oo) wr:=k.unX t;have b6:=m.size;by_cases y:i<l.length
  ·have c9:Sl QV 3 (mk (un X oo) wr) ao l:=a4.old QV.mono m (fun j R=>k.ob_lt R)
   have g:i<L.length:=by omega
   have x:=hid (a0L L i g);have T:=hid (a0W (l:=L) (i:=i) (by omega));obtain⟨f,n,s1,a1,n1,c1,d1,k1,e1,A,b3,C,r⟩:=c9.rat QV.shaped i y;have z:=(a1j b3).2;have B:ob oo b=false:=k.ob_lt (by omega);have i1:∀W,(Instr.indexAt 24 (.slice ao l.length ca) (.int .i64 (i:Int))).run Tryz.prog W= .ok (.pointer (some ⟨f,n,none⟩)) W:=by rw[<-A];exact a0m a0B ao l.length ca .i64 i a5 (by omega)
   have a:Ext wr wr.drew:=(ExtX.refl wr).drew;have O:Hid (∀Y W',ExtX Y wr.drew W'->Y f=false->Y b=false->W'.cell? ⟨f,n,none⟩=some (.bool s1)/\W'.cell? ⟨f,n+1,none⟩=some (.slice a1 n1 c1)/\W'.cell? ⟨f,n+2,none⟩=some (.slice d1 k1 e1)/\W'.cell? ⟨b,0,none⟩=some (.bool K)/\W'.cell? ⟨b,1,none⟩=some (.slice M P J)/\W'.cell? ⟨b,2,none⟩=some (.slice I H N)):=hid fun Y W' h hg hb=>by
    have p1:=C.out Y W' ((ExtX.of a).trans h) hg;have b1:=(b0.ext0 (m.trans a)).ext h hb;exact⟨p1.1,p1.2.1,p1.2.2,b1.cell 0 rfl,b1.cell 1 rfl,b1.cell 2 rfl⟩
   obtain⟨V,a8,a3,c0,a7,b8⟩:=O.out noY wr.drew (ExtX.refl _) rfl rfl;have Z:QV (mk (un X oo) wr.drew) (.agg #[.bool s1, .slice a1 n1 c1, .slice d1 k1 e1]) l[i]:=r;have b5:QV (mk (un X oo) wr.drew) (.agg #[.bool K, .slice M P J, .slice I H N]) c:=a5Q QV.mono c5 (m.trans a) (fun j R=>k.ob_lt R);have a9:HX (un X oo) wr.drew:=a0;have S:=b7.out i y g;rw[S]at x;clear C A r;go_wp2_with fail
   go_region_held3 (fun q=>q.cell? ⟨f,n,none⟩=some (.bool s1)/\q.cell? ⟨f,n+1,none⟩=some (.slice a1 n1 c1)/\q.cell? ⟨f,n+2,none⟩=some (.slice d1 k1 e1)/\q.cell? ⟨b,0,none⟩=some (.bool K)/\q.cell? ⟨b,1,none⟩=some (.slice M P J)/\q.cell? ⟨b,2,none⟩=some (.slice I H N))
    (first|exact O.out noY _ p rfl rfl|exact O.out noY _ (ExtX.alloc p _) rfl rfl|exact O.out (ob oo) _ ((ExtX.of p).trans s) z B|go_keep)
    (first|(go_at_call 52;(with_reducible refine(b3a (un X oo) wr.drew _ _ _ c a9 Z b5).mono ?_);rintro ee w6 ⟨p,u6,rfl,F⟩;obtain⟨s6,a6,n6,c6,d6,k6,e6,rfl⟩:=F.shape;have E:=k.ext0 QC.elem (a.trans p);have d0:=(a.trans p).size;have b4:=t.ext (a.trans p))|(refine a1R (l:=L.take i) rfl (by rfl) a0B rfl QC.elem (by omega) b4 i T.out rfl rfl E (.agg #[.bool s6, .slice a6 n6 c6, .slice d6 k6 e6]) (l[i]*c) rfl F (by omega) (by omega) ?_;intro c3 c8 w7 D s d4))
   have c4:=(m.trans (a.trans p)).own E (Nat.le_refl _) s;rw[x.out]at D;clear V a8 a3 c0 a7 b8;go_wp2_with fail
   go_roundw
   case rel=>exact⟨i+1,c3,c8,by go_num,by go_num,by omega,D,c4⟩
   case measure=>simp[intOf];omega
  ·have b2:i=l.length:=by omega
   subst b2;rw[List.take_of_length_le (by omega)]at k;have hc:=k.lenCap;have hs:=k.sl QC.elem;go_wp2_with fail
   go_ret
   exact⟨e.trans m,_,rfl,oo,G,by rw[c7];rfl,hc,hs⟩
set_option maxRecDepth 100000 in
theorem c1y (X:Nat->Bool) (w:World) (u v:Value) (l m:List Rat) (hX:HX X w) (hu:RV (mk X w) u l) (hv:RV (mk X w) v m) (hl:l.length<=1000000) (c5:m.length=l.length):Calls Tryz.prog 234 #[u,v] w (a1Z X w RC (List.zipWith (· + ·) l m)):=by
 obtain⟨ao,ca,rfl,d8,C⟩:=hu;have a8:=C.hd;obtain⟨T,cb,rfl,e0,J⟩:=hv;have b5:=J.hd;have d4:m.length<=l.length:=by omega
 have d0:l.length<=m.length:=by omega
 obtain⟨L,S⟩:∃L,List.zipWith (· + ·) l m=L:=⟨_,rfl⟩;have P:L.length=l.length:=by rw[<-S];simp;omega
 have b8:=hid (show∀i (hi:i<l.length) (r:i<m.length) (a0:i<L.length),L[i]=l[i]+m[i]from fun i hi r a0=>by subst S;simp);rw[S];have d5:L.length<=l.length:=by omega
 have d3:l.length<=L.length:=by omega
 have K:=hid P;clear S c5 P;go_enter Tryz.func234,Tryz.ntmps234
 go_wp2_with fail
 go_loopw [5,6] (fun o cc wr=>∃(i:Nat) (oo:Option Addr) (Q:Nat),cc= .int .i64 i/\o= .slice oo i Q/\i<=l.length/\OL QC 3 X w.heap.size 45 wr oo Q (L.take i)/\Ext w wr) (fun _ cc _=>l.length - (intOf cc).toNat)
 case atStart=>exact⟨0,none,0,rfl,rfl,Nat.zero_le _,OL.nil _ _ _ _ _ _,ExtX.refl _⟩
 case round=>
  obtain⟨i,oo,Q,rfl,rfl,hi,k,p⟩:=hrel;have z:HX X wr:=hX.ext p;have a5:HX (un X oo) wr:=k.unX z;have b7:=p.size;by_cases B:i<l.length
  ·have c9:Sl QV 3 (mk (un X oo) wr) ao l:=C.old QV.mono p (fun j r=>k.ob_lt r)
   have c:i<L.length:=by omega
   have A:=hid (a0L L i c);have V:=hid (a0W (l:=L) (i:=i) (by omega));have e:i<m.length:=by omega
   have s:Sl QV 3 (mk (un X oo) wr) T m:=J.old QV.mono p (fun j r=>k.ob_lt r);obtain⟨d,f,s2,a2,n2,c2,d2,Z,e2,M,c4,y,G⟩:=s.rat QV.shaped i e;obtain⟨b,g,s1,a1,n1,c1,d1,k1,e1,E,b3,H,t⟩:=c9.rat QV.shaped i B;have D:=(a1j b3).2;have F:=(a1j c4).2;have i2:∀W,(Instr.indexAt 24 (.slice T m.length cb) (.int .i64 (i:Int))).run Tryz.prog W= .ok (.pointer (some ⟨d,f,none⟩)) W:=by rw[<-M];exact a0m a0B T m.length cb .i64 i b5 (by omega)
   have i1:∀W,(Instr.indexAt 24 (.slice ao l.length ca) (.int .i64 (i:Int))).run Tryz.prog W= .ok (.pointer (some ⟨b,g,none⟩)) W:=by rw[<-E];exact a0m a0B ao l.length ca .i64 i a8 (by omega)
   have a:Ext wr wr.drew:=(ExtX.refl wr).drew;have R:Hid (∀Y W',ExtX Y wr.drew W'->Y b=false->Y d=false->W'.cell? ⟨b,g,none⟩=some (.bool s1)/\W'.cell? ⟨b,g+1,none⟩=some (.slice a1 n1 c1)/\W'.cell? ⟨b,g+2,none⟩=some (.slice d1 k1 e1)/\W'.cell? ⟨d,f,none⟩=some (.bool s2)/\W'.cell? ⟨d,f+1,none⟩=some (.slice a2 n2 c2)/\W'.cell? ⟨d,f+2,none⟩=some (.slice d2 Z e2)):=hid fun Y W' h hg hb=>by
    have p1:=H.out Y W' ((ExtX.of a).trans h) hg;have p2:=y.out Y W' ((ExtX.of a).trans h) hb;exact⟨p1.1,p1.2.1,p1.2.2,p2.1,p2.2.1,p2.2.2⟩
   obtain⟨a3,b0,a7,c0,a9,b9⟩:=R.out noY wr.drew (ExtX.refl _) rfl rfl;have a4:QV (mk (un X oo) wr.drew) (.agg #[.bool s1, .slice a1 n1 c1, .slice d1 k1 e1]) l[i]:=t;have b6:QV (mk (un X oo) wr.drew) (.agg #[.bool s2, .slice a2 n2 c2, .slice d2 Z e2]) m[i]:=G;have b1:HX (un X oo) wr.drew:=a5;have U:=b8.out i B e c;rw[U]at A;clear H E t y M G;go_wp2_with fail
   go_region_held3 (fun q=>q.cell? ⟨b,g,none⟩=some (.bool s1)/\q.cell? ⟨b,g+1,none⟩=some (.slice a1 n1 c1)/\q.cell? ⟨b,g+2,none⟩=some (.slice d1 k1 e1)/\q.cell? ⟨d,f,none⟩=some (.bool s2)/\q.cell? ⟨d,f+1,none⟩=some (.slice a2 n2 c2)/\q.cell? ⟨d,f+2,none⟩=some (.slice d2 Z e2))
    (first|exact R.out noY _ n rfl rfl|exact R.out noY _ (ExtX.alloc n _) rfl rfl|exact R.out (ob oo) _ ((ExtX.of n).trans x) D F|go_keep)
    (first|(go_at_call 51;(with_reducible refine(b2Z (un X oo) wr.drew _ _ _ _ b1 a4 b6).mono ?_);rintro ee w6 ⟨n,u6,rfl,O⟩;obtain⟨s6,a6,n6,c6,d6,k6,e6,rfl⟩:=O.shape;have N:=k.ext0 QC.elem (a.trans n);have d7:=(a.trans n).size;have b4:=z.ext (a.trans n))|(refine a1R (l:=L.take i) rfl (by rfl) a0B rfl QC.elem (by omega) b4 i V.out rfl rfl N (.agg #[.bool s6, .slice a6 n6 c6, .slice d6 k6 e6]) (l[i]+m[i]) rfl O (by omega) (by omega) ?_;intro c3 c8 w7 I x d9))
   have c7:=(p.trans (a.trans n)).own N (Nat.le_refl _) x;rw[A.out]at I;clear a3 b0 a7 c0 a9 b9;go_wp2_with fail
   go_roundw
   case rel=>exact⟨i+1,c3,c8,by go_num,by go_num,by omega,I,c7⟩
   case measure=>simp[intOf];omega
  ·have b2:i=l.length:=by omega
   subst b2;rw[List.take_of_length_le (by omega)]at k;have hc:=k.lenCap;have hs:=k.sl QC.elem;go_wp2_with fail
   go_ret
   exact⟨p,_,rfl,oo,Q,by rw[K.out];rfl,hc,hs⟩
end Go.Proofs.YtidbbddagfnfbaaGreat
namespace Go.Lin
open Go.Lim
end Go.Lin
namespace Go.Proofs.YtidbbddagfnfbaaGreat
open Go.RowKit Go.Rep Go.Lim Go.Lin
set_option maxRecDepth 100000 in
theorem c0n (X:Nat->Bool) (w:World) (u v:Value) (x y:Rat) (hX:HX X w) (G:QV (mk X w) u x) (I:QV (mk X w) v y):Calls Tryz.prog 50 #[u,v] w (a1Z X w QC (x - y)):=by
 have a5:=hid G.hq;have a3:=hid I.hq;obtain⟨B,r,s,D,K,A,C,rfl⟩:=G.shape;obtain⟨z,E,J,t,q,p,F,rfl⟩:=I.shape;obtain⟨W,hW,L,e,f,b2,hz⟩:=a2D w #[.bool B, .slice r s D, .slice K A C] #[.bool z, .slice E J t, .slice q p F] #[.bool false, .slice none 0 0, .slice none 0 0] 45 45 45;have n:HX (a0e X w.heap.size 3) W:=hX.boxes hz;have m:=QV.mono _ _ _ _ (a0o (nb:=3) L) G;have k:=QV.mono _ _ _ _ (a0o (nb:=3) L) I;obtain⟨b,hb⟩:∃b,w.heap.size=b:=⟨_,rfl⟩;have a7:w.heap.size<=b:=by omega
 rw[hb]at e f b2 hz n m k;have a:Ext W W.drew:=(ExtX.refl W).drew;have l:HX (a0e X b 3) W.drew:=n;have U:QV (mk (a0e X b 3) W.drew) (.agg #[.bool B, .slice r s D, .slice K A C]) x:=m;have Y:QV (mk (a0e X b 3) W.drew) (.agg #[.bool z, .slice E J t, .slice q p F]) y:=k;have N:=e.cell 0 rfl;have T:=e.cell 1 rfl;have P:=e.cell 2 rfl;have a0:=f.cell 0 rfl;have S:=f.cell 1 rfl;have Z:=f.cell 2 rfl;clear G I;have g:=hid (And.intro e f);have hS:Hid (∀W',Ext W.drew W'->W'.cell? ⟨b,0,none⟩=some (.bool B)/\W'.cell? ⟨b,1,none⟩=some (.slice r s D)/\W'.cell? ⟨b,2,none⟩=some (.slice K A C)/\W'.cell? ⟨b+1,0,none⟩=some (.bool z)/\W'.cell? ⟨b+1,1,none⟩=some (.slice E J t)/\W'.cell? ⟨b+1,2,none⟩=some (.slice q p F)):=
  hid fun W' h=>⟨(e.ext0 (a.trans h)).cell 0 rfl,(e.ext0 (a.trans h)).cell 1 rfl,(e.ext0 (a.trans h)).cell 2 rfl,(f.ext0 (a.trans h)).cell 0 rfl,(f.ext0 (a.trans h)).cell 1 rfl,(f.ext0 (a.trans h)).cell 2 rfl⟩
 have Q:=hid (show hq (-y)<=68719476736 by rw[a5M];exact a3.out);have o:Hid (x+ -y=x - y):=hid (Rat.sub_eq_add_neg x y).symm;go_enter Tryz.func50,Tryz.ntmps50
 go_upto_region 1 with(fail)
 go_region_held3 (fun j=>j.cell? ⟨b,0,none⟩=some (.bool B)/\j.cell? ⟨b,1,none⟩=some (.slice r s D)/\j.cell? ⟨b,2,none⟩=some (.slice K A C)/\j.cell? ⟨b+1,0,none⟩=some (.bool z)/\j.cell? ⟨b+1,1,none⟩=some (.slice E J t)/\j.cell? ⟨b+1,2,none⟩=some (.slice q p F))
  (first|exact hS.out _ H|exact hS.out _ d|exact⟨((g.out.1.ext0 (a.trans d)).ext (c.set3 _ _ _).2 (a0b (by omega))).cell 0 rfl,((g.out.1.ext0 (a.trans d)).ext (c.set3 _ _ _).2 (a0b (by omega))).cell 1 rfl,((g.out.1.ext0 (a.trans d)).ext (c.set3 _ _ _).2 (a0b (by omega))).cell 2 rfl,((g.out.2.ext0 (a.trans d)).ext (c.set3 _ _ _).2 (a0b (by omega))).cell 0 rfl,((g.out.2.ext0 (a.trans d)).ext (c.set3 _ _ _).2 (a0b (by omega))).cell 1 rfl,((g.out.2.ext0 (a.trans d)).ext (c.set3 _ _ _).2 (a0b (by omega))).cell 2 rfl⟩|go_keep)
  (first|(go_at_call 134;(with_reducible refine(b8F (a0e X b 3) W.drew _ y l Y).mono ?_);rintro ee w5 ⟨H,u5,rfl,a4⟩;have M:=HX.ext l H;have O:=mkx QV.mono U H)|(go_at_call 51;(with_reducible refine(b2Z (a0e X b 3) w5 _ _ x (-y) M O (a4.qv Q.out)).mono ?_);rintro ee w6 ⟨V,u6,rfl,i⟩;obtain⟨s6,a6,n6,c6,d6,k6,e6,rfl⟩:=i.shape;have d:=H.trans V;have c:=b2.ext0 (a.trans d);have g0:=c.cell 0 rfl;have g1:=c.cell 1 rfl;have g2:=c.cell 2 rfl;have f0:=c.frozen 0;have f1:=c.frozen 1;have f2:=c.frozen 2))
 rw[o.out]at i;obtain⟨q1,q2⟩:=c.set3 (.bool s6) (.slice a6 n6 c6) (.slice d6 k6 e6);have h7:=QC.mono _ _ _ _ a0n (QC.mono _ _ _ _ (a0h q2 (by omega) (by omega)) i);have R:Ext w _:=ExtX.box (L.trans (a.trans d)) q2 (by omega);clear g0 g1 g2 f0 f1 f2 N T P a0 S Z hS g;go_wp2_with fail
 exact bodyPost_ret (a0d rfl rfl a0t q1 rfl) rfl ⟨R,_,rfl,h7⟩
set_option maxRecDepth 100000 in
theorem a8N (X:Nat->Bool) (w:World) (u v:Value) (x y:Rat) (Q:HX X w) (k:QV (mk X w) u x) (l:QV (mk X w) v y) (c:hq (x - y)<=68719476736):Calls Tryz.prog 22 #[u,v] w (a4v w (x - y).num.sign):=by
 have T:=hid k.hq;have U:=hid l.hq;obtain⟨I,C,D,K,P,H,J,rfl⟩:=k.shape;obtain⟨G,L,N,E,O,F,M,rfl⟩:=l.shape;obtain⟨W,hW,o,j,m,hz⟩:=a1v w #[.bool I, .slice C D K, .slice P H J] #[.bool G, .slice L N E, .slice O F M] 45 45;have a:HX (a0e X w.heap.size 2) W:=Q.boxes hz;have d:=QV.mono _ _ _ _ (a0o (nb:=2) o) k;have g:=QV.mono _ _ _ _ (a0o (nb:=2) o) l;obtain⟨b,V⟩:∃b,w.heap.size=b:=⟨_,rfl⟩;have a0:w.heap.size<=b:=by omega
 rw[V]at j m hz a d g;have Z:Ext W W.drew:=(ExtX.refl W).drew;have Y:HX (a0e X b 2) W.drew:=a;have a3:QV (mk (a0e X b 2) W.drew) (.agg #[.bool I, .slice C D K, .slice P H J]) x:=d;have S:QV (mk (a0e X b 2) W.drew) (.agg #[.bool G, .slice L N E, .slice O F M]) y:=g;have r:=j.cell 0 rfl;have B:=j.cell 1 rfl;have z:=j.cell 2 rfl;have t:=m.cell 0 rfl;have A:=m.cell 1 rfl;have s:=m.cell 2 rfl;clear k l
 replace c:=hid c
 obtain⟨q,f⟩:∃q:Rat,x - y=q:=⟨_,rfl⟩;rw[f]at c |-;have n:=hid f;clear f;go_enter Tryz.func22,Tryz.ntmps22
 go_wp2_with fail
 refine(c0n (a0e X b 2) W _ _ x y a d g).mono ?_;rintro e R ⟨i,u5,rfl,h⟩;rw[n.out]at h;obtain⟨s5,a5,n5,c5,d5,k5,e5,rfl⟩:=h.shape;clear r B z t A s;go_wp2_with fail
 refine(a7u (a0e X b 2) R _ q (a.ext i) (h.qv c.out)).mono ?_;rintro e w6 ⟨p,rfl⟩;go_wp2_with fail
 go_ret
 exact⟨o.trans (i.trans p),rfl⟩
set_option maxRecDepth 100000 in
theorem a7v (X:Nat->Bool) (w:World) (a k:Int) (z:HX X w) (p: -9223372036854775808<=a) (t:a<=9223372036854775807) (r: -9223372036854775808<=k) (o:k<=9223372036854775807) (u:k≠0) (q:lg a.natAbs<=274877906944) (j:lg k.natAbs<=274877906944):Calls Tryz.prog 29 #[.int .i64 a, .int .i64 k] w (a1Z X w QC ((a:Rat)/(k:Rat))):=by
 obtain⟨W,T,x,s,hz⟩:=a1g w #[.bool false, .slice none 0 0, .slice none 0 0] 45;have e:HX (a0e X w.heap.size 1) W:=z.boxes hz;obtain⟨b,C⟩:∃b,w.heap.size=b:=⟨_,rfl⟩;have E:w.heap.size<=b:=by omega
 rw[C]at s hz e;have f:=hid (And.intro (And.intro p t) (And.intro (And.intro r o) (And.intro u (And.intro q j))));clear p t r o u q j;go_enter Tryz.func29,Tryz.ntmps29
 go_wp2_with fail
 refine(b2W (a0e X b 1) W a e f.out.1.1 f.out.1.2).mono ?_;rintro J y ⟨d,K,rfl,l⟩;have g:=e.ext d;go_wp2_with fail
 refine(b2W (a0e X b 1) y k g f.out.2.1.1 f.out.2.1.2).mono ?_;rintro N B ⟨c,F,rfl,m⟩;go_wp2_with fail
 refine(b0R (a0e X b 1) B _ _ a k (g.ext c) (mkx ZC.mono l c) m f.out.2.2.2.1 f.out.2.2.2.2 f.out.2.2.1).mono ?_;rintro L Q ⟨h,H,rfl,i⟩;obtain⟨M,S,O,R,G,P,e5,rfl⟩:=i.shape;have A:=((s.ext0 d).ext0 c).ext0 h;go_wp2_with ((with_reducible show wpList _ _ _ (⟨_, .store _ _ _,_,_,_,_⟩::_) _ _);refine a0a a0t rfl rfl A rfl rfl (a1Q _ _ _ _ _ _ _) ?_;intro I D n)
 have v:=QC.mono _ _ _ _ a0n (QC.mono _ _ _ _ (a0h n (by omega) (by omega)) i);exact bodyPost_ret (a0d rfl rfl a0t D rfl) rfl ⟨ExtX.box (x.trans (d.trans (c.trans h))) n (by omega),_,rfl,v⟩
def c1z (X:Nat->Bool) (w:World) (l:List (List Rat)) (e:Ending) (w':World):Prop:=Ext w w'/\∃oo co,e= .returned (.slice oo l.length co)/\OL RC 1 X w.heap.size 24 w' oo co l
set_option maxRecDepth 100000 in
theorem b8G (X:Nat->Bool) (w:World) (u:Value) (l:List (List Rat)) (S:HX X w) (V:MV (mk X w) u l) (hl:l.length<=1000000) (q:∀r∈l,r.length<=1000000):Calls Tryz.prog 232 #[u] w (c1z X w l):=by
 obtain⟨ao,ca,rfl,T,n⟩:=V;have W:=n.hd;have h:=hid q;clear q;go_enter Tryz.func232,Tryz.ntmps232
 go_wp2_with fail
 go_loopw [3,4] (fun o c wr=>∃(i:Nat) (oo:Option Addr) (t:Nat),c= .int .i64 i/\o= .slice oo i t/\i<=l.length/\OL RC 1 X w.heap.size 24 wr oo t (l.take i)/\Ext w wr) (fun _ c _=>l.length - (intOf c).toNat)
 case atStart=>exact⟨0,none,0,rfl,rfl,Nat.zero_le _,OL.nil _ _ _ _ _ _,ExtX.refl _⟩
 case round=>
  obtain⟨i,oo,t,rfl,rfl,hi,g,b⟩:=hrel;have d:HX X wr:=S.ext b;have G:HX (un X oo) wr:=g.unX d;have C:=b.size;by_cases k:i<l.length
  ·have L:Sl RV 1 (mk (un X oo) wr) ao l:=n.old RV.mono b (fun j Q=>g.ob_lt Q)
   have E:=hid (a0L l i k);have z:=hid (a0W hi);obtain⟨O,U,R,B,m,x⟩:=L.row i k;have D:=B.out noY wr (ExtX.refl _) rfl;have H:=hid (h.out l[i] (List.getElem_mem _));go_wp2_with (with_reducible refine a0q a0s (by omega) (by assumption) ?_)
   refine(b1K (un X oo) wr _ l[i] G ⟨O,U,rfl,m,x⟩ H.out).mono ?_;rintro e Z ⟨a,u6,rfl,J⟩;obtain⟨M,N,rfl,s,v⟩:=J;have p:=g.ext0 RC.elem a;have P:=a.size;clear D;go_wp2_with (at_builtin;refine a0u (l:=l.take i) a0s rfl RC.elem (by omega) (d.ext a) i z.out rfl rfl p (.slice M l[i].length N) l[i] rfl ⟨M,N,rfl,s,v⟩ (by omega) (by omega) ?_;intro F K w7 f A Y)
   have I:=(b.trans a).own p (Nat.le_refl _) A;rw[E.out]at f;go_roundw
   case rel=>exact⟨i+1,F,K,by go_num,by go_num,by omega,f,I⟩
   case measure=>simp[intOf];omega
  ·have y:i=l.length:=by omega
   subst y;rw[List.take_length]at g;go_wp2_with fail
   go_ret
   exact⟨b,oo,t,rfl,g⟩
end Go.Proofs.YtidbbddagfnfbaaGreat
namespace Go.Lin
def a0H {α:Type} (m:List (List α)):Bool:=decide (m.length<=96)&&m.all fun r=>decide (1<=r.length/\r.length<=96/\r.length=(m.getD 0 []).length)
def a0x {α:Type} (m:List (List α)):Nat:=(m.getD 0 []).length
theorem a1G {α:Type} {m:List (List α)}:a0H m=true↔m.length<=96/\∀i (hi:i<m.length),1<=m[i].length/\m[i].length<=96/\m[i].length=a0x m:=by
 unfold a0H a0x;rw[Bool.and_eq_true,decide_eq_true_eq,List.all_eq_true];constructor
 ·rintro ⟨b,a⟩
  exact⟨b,fun i hi=>by simpa using a _ (List.getElem_mem hi)⟩
 ·rintro ⟨b,a⟩
  refine⟨b,fun r c=>?_⟩;obtain⟨i,hi,rfl⟩:=List.getElem_of_mem c;simpa using a i hi
theorem a4W {α:Type} {m:List (List α)} (i:Nat) (hi:i<m.length) (h:¬(1<=m[i].length/\m[i].length<=96/\m[i].length=a0x m)):false=a0H m:=by
 symm;cases a:a0H m
 ·rfl
 ·exact absurd ((a1G.1 a).2 i hi) h
theorem a1J {α:Type} {m:List (List α)} (h:0<m.length):a0x m=m[0].length:=by simp[a0x,List.getD_eq_getElem?_getD,h]
theorem a0U {m:List (List Rat)} (h:a0H m=true):Shp m.length (a0x m) m/\m.length<=96/\a0x m<=96/\(0<m.length->1<=a0x m)/\(m.length=0->a0x m=0):=by
 have b:=a1G.1 h;refine⟨⟨rfl,fun r c=>?_⟩,b.1,?_,fun a=>?_,fun a=>?_⟩
 ·obtain⟨i,hi,rfl⟩:=List.getElem_of_mem c
  exact(b.2 i hi).2.2
 ·by_cases a:0<m.length
  ·have:=b.2 0 a;omega
  ·have:m= []:=List.eq_nil_of_length_eq_zero (by omega)
   subst this;simp[a0x]
 ·have:=b.2 0 a;omega
 ·have:m= []:=List.eq_nil_of_length_eq_zero a
  subst this;rfl
end Go.Lin
namespace Go.Proofs.YtidbbddagfnfbaaGreat
open Go.RowKit Go.Rep Go.Lim Go.Lin
theorem a3z {R:Mem->Value->Rat->Prop} (X:Nat->Bool) (w:World) (u:Value) (m:List (List Rat)) (g:SlV (SlV R 3) 1 (mk X w) u m):Calls Tryz.prog 273 #[u] w (fun e o=>o=w/\e= .returned (.int .i64 (a0x m:Int))):=by
 obtain⟨ao,r,rfl,l,a⟩:=g;have j:=a.hd;by_cases h:0<m.length
 ·obtain⟨p,q,i,c,d,f⟩:=a.row 0 h
  have n:=c.out noY w (ExtX.refl _) rfl;have b:=hid (a1J h);have k:((m.length:Int)==0)=false:=a2w (by omega);go_enter Tryz.func273,Tryz.ntmps273
  go_wp2_with (with_reducible refine a0q a0s (by omega) (by assumption) ?_)
  go_ret
  exact⟨rfl,a0P (by rw[b.out])⟩
 ·have b:Hid (a0x m=0):=hid (by
   have:m= []:=List.eq_nil_of_length_eq_zero (by omega);subst this;rfl)
  have k:((m.length:Int)==0)=true:=a7q (by omega);go_enter Tryz.func273,Tryz.ntmps273
  go_wp2_with (with_reducible refine a0q a0s (by omega) (by assumption) ?_)
  go_ret
  exact⟨rfl,a0P (by rw[b.out];rfl)⟩
set_option maxRecDepth 100000 in
theorem a4m {R:Mem->Value->Rat->Prop} (X:Nat->Bool) (w:World) (u:Value) (m:List (List Rat)) (L:SlV (SlV R 3) 1 (mk X w) u m) (U:m.length<=1099511627776):Calls Tryz.prog 272 #[u] w (fun e K=>K=w/\e= .returned (.bool (a0H m))):=by
 obtain⟨ao,W,rfl,I,g⟩:=L;have N:=g.hd;by_cases F:96<m.length
 ·have b:Hid (false=a0H m):=hid (by
   symm;cases Q:a0H m
   ·rfl
   ·have:=(a1G.1 Q).1;omega)
  have O:(96:Int)<(m.length:Int):=by omega
  go_enter Tryz.func272,Tryz.ntmps272
  go_wp2_with fail
  go_ret
  exact⟨rfl,a0j b.out⟩
 ·have O:¬(96:Int)<(m.length:Int):=by omega
  go_enter Tryz.func272,Tryz.ntmps272
  go_wp2_with fail
  go_loop [10] (fun c=>∃(i:Nat),c= .int .i64 i/\i<=m.length/\Hid (∀q,q<i->∀hq:q<m.length,1<=m[q].length/\m[q].length<=96/\m[q].length=a0x m)) (fun c=>m.length - (intOf c).toNat)
  case atStart=>exact⟨0,rfl,Nat.zero_le _,fun q hq=>by omega⟩
  case round=>
   obtain⟨i,rfl,hi,k⟩:=hrel;by_cases o:i<m.length
   ·have D:0<m.length:=by omega
    obtain⟨S,V,G,n,p,z⟩:=g.row i o;obtain⟨Y,T,M,l,s,v⟩:=g.row 0 D;have A:=n.out noY w (ExtX.refl _) rfl;have r:=l.out noY w (ExtX.refl _) rfl;have f:=a1J D;have a:=hid (a4W i o);rw[<-f]at r;obtain⟨x,hx⟩:∃x,m[i].length=x:=⟨_,rfl⟩;obtain⟨y,B⟩:∃y,a0x m=y:=⟨_,rfl⟩;rw[hx]at A a;rw[B]at r a;have C:Hid (1<=x/\x<=96/\x=y->∀hq:i<m.length,1<=m[i].length/\m[i].length<=96/\m[i].length=a0x m):=hid fun h hq=>by rw[hx,B];exact h
    clear hx B f n l z v p s;by_cases d:x=0
    ·have E:((x:Int)==0)=true:=a7q (by omega)
     have b:=hid (a.out (by omega));clear d;go_wp2_with (with_reducible refine a0q a0s (by omega) (by assumption) ?_)
     go_ret
     exact⟨rfl,a0j b.out⟩
    ·have E:((x:Int)==0)=false:=a2w (by omega)
     by_cases J:96<x
     ·have H:(96:Int)<(x:Int):=by omega
      have b:=hid (a.out (by omega));clear d;go_wp2_with (with_reducible refine a0q a0s (by omega) (by assumption) ?_)
      go_ret
      exact⟨rfl,a0j b.out⟩
     ·have H:¬(96:Int)<(x:Int):=by omega
      by_cases j:x=y
      ·have P:((x:Int) !=(y:Int))=false:=a6q (by omega)
       have t:=hid (C.out ⟨by omega,by omega,j⟩);clear d j;go_wp2_with (with_reducible refine a0q a0s (by omega) (by assumption) ?_)
       go_round
       case rel=>exact⟨i+1,by go_num,by omega,a2K k.out t.out⟩
       case measure=>simp[intOf];omega
      ·have P:((x:Int) !=(y:Int))=true:=a6X (by omega)
       have b:=hid (a.out (by omega));clear d j;go_wp2_with (with_reducible refine a0q a0s (by omega) (by assumption) ?_)
       go_ret
       exact⟨rfl,a0j b.out⟩
   ·have b:Hid (true=a0H m):=hid (by
     symm;exact a1G.2 ⟨by omega,fun q hq=>k.out q (by omega) hq⟩)
    go_wp2_with fail
    go_ret
    exact⟨rfl,a0j b.out⟩
end Go.Proofs.YtidbbddagfnfbaaGreat
namespace Go.Lin
open Go.Rep
def a6z {α:Type} (m:List (List α)) (lo hi:Nat):Bool:=decide (∀i (h:i<m.length),m[i].length=a0x m/\lo<=m[i].length/\m[i].length<=hi)
theorem a2f {α:Type} {m:List (List α)} {lo hi:Nat}:a6z m lo hi=true↔∀i (h:i<m.length),m[i].length=a0x m/\lo<=m[i].length/\m[i].length<=hi:=by unfold a6z;simp
theorem a9Q {α:Type} {m:List (List α)} {lo hi:Nat} (i:Nat) (h:i<m.length) (a:¬(m[i].length=a0x m/\lo<=m[i].length/\m[i].length<=hi)):false=a6z m lo hi:=by
 symm;cases hs:a6z m lo hi
 ·rfl
 ·exact absurd (a2f.1 hs i h) a
def c2f {α:Type} (m:List (List α)):Bool:=decide (1<=m.length)&&(decide (m.length<=64)&&a6z m 1 3)
end Go.Lin
namespace Go.Proofs.YtidbbddagfnfbaaGreat
open Go.RowKit Go.Rep Go.Lim Go.Lin
set_option maxRecDepth 100000 in
theorem b3b {R:Mem->Value->Rat->Prop} (X:Nat->Bool) (w:World) (u:Value) (m:List (List Rat)) (lo hi:Nat) (K:SlV (SlV R 3) 1 (mk X w) u m) (S:m.length<=1099511627776):Calls Tryz.prog 155 #[u, .int .i64 (lo:Int), .int .i64 (hi:Int)] w (fun e J=>J=w/\e= .returned (.bool (a6z m lo hi))):=by
 obtain⟨ao,U,rfl,H,f⟩:=K;have M:=f.hd;go_enter Tryz.func155,Tryz.ntmps155
 go_wp2_with fail
 go_loop [11] (fun c=>∃(i:Nat),c= .int .i64 i/\i<=m.length/\Hid (∀q,q<i->∀hq:q<m.length,m[q].length=a0x m/\lo<=m[q].length/\m[q].length<=hi)) (fun c=>m.length - (intOf c).toNat)
 case atStart=>exact⟨0,rfl,Nat.zero_le _,fun q hq=>by omega⟩
 case round=>
  obtain⟨i,rfl,G,j⟩:=hrel;by_cases n:i<m.length
  ·have C:0<m.length:=by omega
   obtain⟨P,T,E,l,o,v⟩:=f.row i n;obtain⟨V,Q,L,k,r,t⟩:=f.row 0 C;have z:=l.out noY w (ExtX.refl _) rfl;have p:=k.out noY w (ExtX.refl _) rfl;have d:=a1J C;have a:=hid (a9Q (lo:=lo) (hi:=hi) i n);rw[<-d]at p;obtain⟨x,hx⟩:∃x,m[i].length=x:=⟨_,rfl⟩;obtain⟨y,A⟩:∃y,a0x m=y:=⟨_,rfl⟩;rw[hx]at z a;rw[A]at p a;have B:Hid (x=y/\lo<=x/\x<=hi->∀hq:i<m.length,m[i].length=a0x m/\lo<=m[i].length/\m[i].length<=hi):=hid fun h hq=>by rw[hx,A];exact h
   clear hx A d l k v t o r;by_cases b:x=y
   ·have N:((x:Int) !=(y:Int))=false:=a6q (by omega)
    by_cases O:x<lo
    ·have D:(x:Int)<(lo:Int):=by omega
     have g:=hid (a.out (by omega));clear b;go_wp2_with (with_reducible refine a0q a0s (by omega) (by assumption) ?_)
     go_ret
     exact⟨rfl,a0j g.out⟩
    ·have D:¬(x:Int)<(lo:Int):=by omega
     by_cases I:hi<x
     ·have F:(hi:Int)<(x:Int):=by omega
      have g:=hid (a.out (by omega));clear b;go_wp2_with (with_reducible refine a0q a0s (by omega) (by assumption) ?_)
      go_ret
      exact⟨rfl,a0j g.out⟩
     ·have F:¬(hi:Int)<(x:Int):=by omega
      have s:=hid (B.out ⟨b,by omega,by omega⟩);clear b;go_wp2_with (with_reducible refine a0q a0s (by omega) (by assumption) ?_)
      go_round
      case rel=>exact⟨i+1,by go_num,by omega,a2K j.out s.out⟩
      case measure=>simp[intOf];omega
   ·have N:((x:Int) !=(y:Int))=true:=a6X (by omega)
    have g:=hid (a.out (by omega));clear b;go_wp2_with (with_reducible refine a0q a0s (by omega) (by assumption) ?_)
    go_ret
    exact⟨rfl,a0j g.out⟩
  ·have g:Hid (true=a6z m lo hi):=hid (by
    symm;exact a2f.2 fun q hq=>j.out q (by omega) hq)
   go_wp2_with fail
   go_ret
   exact⟨rfl,a0j g.out⟩
end Go.Proofs.YtidbbddagfnfbaaGreat
namespace Go.Lin
open Go.Lim
def a3Z (l m:List Rat):Nat->Rat
 |0=>0
 |k+1=>a3Z l m k+l.getD k 0*m.getD k 0
def a2l (l m:List Rat):Rat:=a3Z l m l.length
theorem a6A (l m:List Rat) (k:Nat):a3Z l m k=sm k fun q=>l.getD q 0*m.getD q 0:=by
 induction k with
 |zero=>rfl
 |succ k ih=>unfold a3Z sm;rw[ih]
theorem b3c (l m:List Rat) (k:Nat):a3Z l m k=a3Z m l k:=by
 rw[a6A,a6A];exact a0g fun q _=>by grind
theorem b8H {l m:List Rat} {B:Nat} (hl:Go.Rep.BR B l) (hm:Go.Rep.BR B m) (hB:1<=B) (k:Nat):hq (a3Z l m k)<=1+k*(2*B+1):=by
 have hg:∀(x:List Rat),Go.Rep.BR B x->∀q,hq (x.getD q 0)<=B:=fun x hx q=>by
  by_cases h:q<x.length
  ·rw[List.getD_eq_getElem?_getD,List.getElem?_eq_getElem h];exact hx _ (List.getElem_mem h)
  ·rw[List.getD_eq_getElem?_getD,List.getElem?_eq_none (by omega)]
   show hq 0<=B
   rw[a0Z];exact hB
 induction k with
 |zero=>show hq 0<=_;rw[a0Z];omega
 |succ k ih=>
  have h1:=hq_mul (l.getD k 0) (m.getD k 0);have h2:=b0L (a3Z l m k) (l.getD k 0*m.getD k 0);have h3:=hg l hl k;have h4:=hg m hm k
  show hq (a3Z l m k+l.getD k 0*m.getD k 0)<=_
  rw[Nat.add_mul,Nat.one_mul];omega
def trL (m:Mat) (n c:Nat):Mat:=(List.range c).map fun q=>(List.range n).map fun p=>ent m p q
def trN (m:Mat) (n c i j:Nat):Mat:=(List.range c).map fun q=>(List.range n).map fun p=>if p<i\/(p=i/\q<j)then ent m p q else 0
theorem b5I (m:Mat) (n c:Nat):trN m n c 0 0=List.replicate c (List.replicate n 0):=by
 refine List.ext_getElem (by simp[trN]) fun q e a=>List.ext_getElem (by simp[trN]) fun p d b=>by simp[trN]
theorem b5J (m:Mat) (n c i:Nat):trN m n c i c=trN m n c (i+1) 0:=by
 refine List.ext_getElem (by simp[trN]) fun q d e=>List.ext_getElem (by simp[trN]) fun p g f=>?_;simp[trN]at d;simp only[trN,List.getElem_map,List.getElem_range];by_cases a:p<i
 ·rw[if_pos (.inl a),if_pos (.inl (by omega))]
 ·by_cases b:p=i
  ·rw[if_pos (.inr ⟨b,by omega⟩),if_pos (.inl (by omega))]
  ·rw[if_neg (by omega),if_neg (by omega)]
theorem b5K (m:Mat) (n c:Nat):trN m n c n 0=trL m n c:=by
 refine List.ext_getElem (by simp[trN,trL]) fun q e b=>List.ext_getElem (by simp[trN,trL]) fun p a d=>?_;simp[trN]at a;simp only[trN,trL,List.getElem_map,List.getElem_range];rw[if_pos (.inl a)]
theorem b8I (m:Mat) (n c i j:Nat):(trN m n c i j).length=c:=by simp[trN]
theorem a8c (m:Mat) (n c i j q:Nat) (h:q<(trN m n c i j).length):(trN m n c i j)[q].length=n:=by simp[trN]
theorem b8J {m:Mat} {n c i j:Nat} (h:j<(trN m n c i j).length):(trN m n c i j).set j ((trN m n c i j)[j].set i (ent m i j))=trN m n c i (j+1):=by
 refine List.ext_getElem (by simp[trN]) fun q k e=>List.ext_getElem ?_ fun p g f=>?_
 ·rw[List.getElem_set];split<;>simp[trN]
 ·simp only[List.getElem_set]
  by_cases a:j=q
  ·subst a
   simp only[if_true,List.getElem_set];by_cases b:i=p
   ·subst b;simp[trN]
   ·rw[if_neg b]
    simp only[trN,List.getElem_map,List.getElem_range];by_cases d:p<i
    ·rw[if_pos (.inl d),if_pos (.inl d)]
    ·rw[if_neg (by omega),if_neg (by omega)]
  ·simp only[a,if_false]
   simp only[trN,List.getElem_map,List.getElem_range];by_cases d:p<i
   ·rw[if_pos (.inl d),if_pos (.inl d)]
   ·by_cases b:p=i/\q<j
    ·rw[if_pos (.inr b),if_pos (.inr (by omega))]
    ·rw[if_neg (by omega),if_neg (by omega)]
theorem a1Y (m:Mat) (n c:Nat):Shp c n (trL m n c):=⟨by simp[trL],fun r a=>by
 obtain⟨q,_,rfl⟩:=List.mem_map.1 a;simp⟩
theorem a8d (m:Mat) (n c:Nat):Eqm c n (ent (trL m n c)) fun i j=>ent m j i:=fun i hi j a=>by
 simp[ent,trL,List.getD_eq_getElem?_getD,hi,a]
theorem b7u {m:Mat} {n c B:Nat} (h:HB B m):HB B (trL m n c):=fun i j=>by
 by_cases hi:i<c
 ·by_cases a:j<n
  ·rw[a8d m n c i hi j a];exact h j i
  ·rw[a1O (a1Y m n c) (.inr (by omega)),a0Z];exact h.pos
 ·rw[a1O (a1Y m n c) (.inl (by omega)),a0Z];exact h.pos
def a3j (m:Mat) (v:List Rat):List Rat:=m.map fun r=>a2l r v
def b0S (a b:Mat) (n c:Nat):Mat:=a.map fun r=>a3j (trL b n c) r
theorem a4X (m:Mat) (v:List Rat):(a3j m v).length=m.length:=by simp[a3j]
theorem b5L {a b:Mat} {k n c:Nat} (e:a.length=k):Shp k c (b0S a b n c):=⟨by simp[b0S,e],fun r d=>by
 obtain⟨x,_,rfl⟩:=List.mem_map.1 d;simp[a3j,trL]⟩
theorem b5M {a b:Mat} {k n c:Nat} (h:Shp k n a):Eqm k c (ent (b0S a b n c)) (mul n (ent a) (ent b)):=fun i hi j e=>by
 have d:i<a.length:=by rw[h.1];exact hi
 have o:(a[i]).length=n:=h.2 _ (List.getElem_mem _);have m:ent (b0S a b n c) i j=a2l ((trL b n c).getD j []) (a[i]):=by
  unfold ent b0S;rw[List.getD_eq_getElem?_getD (l:=List.map _ _),List.getElem?_map,List.getElem?_eq_getElem d];have f:j<(trL b n c).length:=by simp[trL,e]
  simp[a3j,List.getD_eq_getElem?_getD,f]
 rw[m];unfold a2l;rw[(a1Y b n c).row e,a6A];unfold mul;refine a0g fun q hq=>?_;have g:=a8d b n c j e q hq;unfold ent at g |-;rw[g,show a.getD i []=a[i]by simp[List.getD_eq_getElem?_getD,d]];grind
theorem a9R {m:Mat} {v:List Rat} {n c:Nat} (hs:Shp n c m) (i:Nat) (hi:i<n):(a3j m v).getD i 0=sm c fun j=>ent m i j*v.getD j 0:=by
 have a:i<m.length:=by rw[hs.1];exact hi
 have b:(m[i]).length=c:=hs.2 _ (List.getElem_mem _);have e:(a3j m v).getD i 0=a2l m[i] v:=by simp[a3j,List.getD_eq_getElem?_getD,a]
 rw[e];unfold a2l;rw[b,a6A];unfold ent;rw[show m.getD i []=m[i]by simp[List.getD_eq_getElem?_getD,a]]
open Go.Rep
end Go.Lin
namespace Go.Lim
def a0C:Nat->Nat->Int->List (List Int)
 |_,0,_=>[[]]
 |0,_+1,_=>[]
 |m+1,h+1,lo=>(a0C m h (lo+1)).map (lo:: ·)++a0C m (h+1) (lo+1)
theorem a1H:∀(m h:Nat) (lo:Int),(a0C m h lo).length=ch m h
 |m,0,lo=>by rw[a3x];cases m<;>rfl
 |0,h+1,lo=>rfl
 |m+1,h+1,lo=>by rw[a0C,ch,List.length_append,List.length_map,a1H m h,a1H m (h+1)]
def up (lo:Int):Nat->List Int
 |0=>[]
 |k+1=>lo::up (lo+1) k
theorem a6B:∀(k:Nat) (lo:Int),(up lo k).length=k
 |0,_=>rfl
 |k+1,lo=>by rw[up,List.length_cons,a6B k]
theorem b3d:∀(k:Nat) (lo:Int) (i:Nat) (hi:i<(up lo k).length),(up lo k)[i]=lo+i
 |0,lo,i,hi=>by simp[up]at hi
 |k+1,lo,0,hi=>by simp[up]
 |k+1,lo,i+1,hi=>by
  simp only[up,List.getElem_cons_succ];rw[b3d k (lo+1) i];omega
theorem a2I (m:Nat) (lo:Int):a0C m 0 lo= [[]]:=by cases m<;>rfl
theorem a3A:∀(m h:Nat) (lo:Int),(a0C m h lo)[0]? =if h<=m then some (up lo h)else none
 |m,0,lo=>by rw[a2I];simp[up]
 |0,h+1,lo=>by simp[a0C]
 |m+1,h+1,lo=>by
  rw[a0C];have h1:=a3A m h (lo+1);by_cases hm:h<=m
  ·rw[if_pos hm]at h1
   obtain⟨hl,h2⟩:=List.getElem?_eq_some_iff.1 h1;rw[List.getElem?_append_left (by simpa using hl),List.getElem?_map,h1,if_pos (by omega)];rfl
  ·rw[if_neg hm]at h1
   have he:a0C m h (lo+1)= []:=by
    rw[List.getElem?_eq_none_iff]at h1;exact List.eq_nil_of_length_eq_zero (by omega)
   rw[he,List.map_nil,List.nil_append,a3A m (h+1),if_neg (by omega),if_neg (by omega)]
theorem a1K:∀(m h:Nat) (lo:Int) (l:List Int),l∈a0C m h lo->l.length=h/\(∀x∈l,lo<=x/\x<lo+m)/\l.Pairwise (· < ·)
 |m,0,lo,l,hl=>by
  rw[a2I,List.mem_singleton]at hl;subst hl;simp
 |0,h+1,lo,l,hl=>by simp[a0C]at hl
 |m+1,h+1,lo,l,hl=>by
  rw[a0C,List.mem_append,List.mem_map]at hl;rcases hl with⟨r,hr,rfl⟩|hl
  ·obtain⟨h1,h2,h3⟩:=a1K m h (lo+1) r hr
   refine⟨by simp[h1],fun x hx=>?_,List.pairwise_cons.2 ⟨fun x hx=>?_,h3⟩⟩
   ·rcases List.mem_cons.1 hx with rfl|hx
    ·omega
    ·have:=h2 x hx;omega
   ·have:=h2 x hx;omega
  ·obtain⟨h1,h2,h3⟩:=a1K m (h+1) (lo+1) l hl
   exact⟨h1,fun x hx=>by have:=h2 x hx;omega,h3⟩
def nxt (n:Int):List Int->Option (List Int)
 | []=>none
 |x::r=>match nxt n r with
  |some r'=>some (x::r')
  |none=>if x+r.length+1<n then some (up (x+1) (r.length+1))else none
theorem a4Y:∀(m h:Nat) (lo:Int) (k:Nat) (hk:k<(a0C m h lo).length),nxt (lo+m) (a0C m h lo)[k]=(a0C m h lo)[k+1]?
 |m,0,lo,k,hk=>by
  have:(a0C m 0 lo).length=1:=by rw[a2I];rfl
  have hk0:k=0:=by omega
  subst hk0;simp[a2I,nxt]
 |0,h+1,lo,k,hk=>by simp[a0C]at hk
 |m+1,h+1,lo,k,hk=>by
  have hA:(List.map (fun x=>lo::x) (a0C m h (lo+1))).length=(a0C m h (lo+1)).length:=List.length_map ..;have e1:lo+((m+1:Nat):Int)=lo+1+m:=by omega
  rw[e1];by_cases hlt:k<(a0C m h (lo+1)).length
  ·have h1:=a4Y m h (lo+1) k hlt
   have hlen:=(a1K m h (lo+1) _ (List.getElem_mem hlt)).1;simp only[a0C];rw[List.getElem_append_left (by rw[hA];exact hlt),List.getElem_map,nxt,h1];by_cases hlt2:k+1<(a0C m h (lo+1)).length
   ·rw[List.getElem?_append_left (by rw[hA];exact hlt2),List.getElem?_map,List.getElem?_eq_getElem hlt2]
    rfl
   ·rw[List.getElem?_eq_none (by omega)]
    rw[List.getElem?_append_right (by rw[hA];omega),show k+1 - (List.map (fun x=>lo::x) (a0C m h (lo+1))).length=0 by rw[hA];omega,a3A m (h+1)];simp only[hlen];by_cases hm:h+1<=m
    ·rw[if_pos hm,if_pos (by omega)]
    ·rw[if_neg hm,if_neg (by omega)]
  ·have hk':k - (a0C m h (lo+1)).length<(a0C m (h+1) (lo+1)).length:=by
    simp only[a0C,List.length_append,List.length_map]at hk;omega
   have h1:=a4Y m (h+1) (lo+1) _ hk';simp only[a0C];rw[List.getElem_append_right (by rw[hA];omega),List.getElem?_append_right (by rw[hA];omega)];simp only[hA];rw[h1,show k+1 - (a0C m h (lo+1)).length=k - (a0C m h (lo+1)).length+1 by omega]
theorem a8e (n:Int):∀(l:List Int),(∀q (hq:q<l.length),l[q]=n - l.length+q)->nxt n l=none
 | [],_=>rfl
 |x::r,h=>by
  have h0:=h 0 (by simp);have hr:=a8e n r (fun q hq=>by
   have:=h (q+1) (by simpa using hq);simp only[List.getElem_cons_succ,List.length_cons]at this;rw[this];omega)
  simp only[List.getElem_cons_zero,List.length_cons]at h0;rw[nxt,hr];simp only;rw[if_neg (by omega)]
theorem b0T (n:Int):∀(l:List Int) (p:Nat) (hp:p<l.length),l[p]<n - l.length+p->(∀q (hq:q<l.length),p<q->l[q]=n - l.length+q)->nxt n l=some (l.take p++up (l[p]+1) (l.length - p))
 | [],p,hp,_,_=>by simp at hp
 |x::r,0,hp,h0,h=>by
  have hr:=a8e n r (fun q hq=>by
   have:=h (q+1) (by simpa using hq) (by omega);simp only[List.getElem_cons_succ,List.length_cons]at this;rw[this];omega)
  simp only[List.getElem_cons_zero,List.length_cons]at h0;rw[nxt,hr];simp only;rw[if_pos (by omega)];simp
 |x::r,p+1,hp,h0,h=>by
  simp only[List.getElem_cons_succ,List.length_cons]at h0;have hr:=b0T n r p (by simpa using hp) (by omega) (fun q hq hpq=>by
   have:=h (q+1) (by simpa using hq) (by omega);simp only[List.getElem_cons_succ,List.length_cons]at this;rw[this];omega)
  rw[nxt,hr];simp
theorem b3e (m h:Nat) (lo:Int):∀l∈a0C m h lo,∀q (hq:q<l.length),l[q]<=lo+m - h+q:=by
 intro l hl q hq;obtain⟨h1,h2,h3⟩:=a1K m h lo l hl;have key:∀d,q+d<l.length->l[q]+d<=l[q+d]! :=by
  intro d
  induction d with
  |zero=>intro hd;simp[getElem!_pos,hq]
  |succ d ih=>
   intro hd;have e:=ih (by omega);have e2:=List.pairwise_iff_getElem.1 h3 (q+d) (q+d+1) (by omega) (by omega) (by omega);rw[getElem!_pos l (q+d) (by omega)]at e;rw[getElem!_pos l (q+(d+1)) (by omega)];have e3:l[q+(d+1)]'(by omega)=l[q+d+1]'(by omega):=rfl;rw[e3];omega
 have e:=key (l.length - 1 - q) (by omega);rw[getElem!_pos l _ (by omega)]at e;have e2:=(h2 _ (List.getElem_mem (show q+(l.length - 1 - q)<l.length by omega))).2;omega
end Go.Lim
namespace Go.Lin
open Go.Lim Go.Rep
end Go.Lin
namespace Go.Proofs.YtidbbddagfnfbaaGreat
open Go.RowKit Go.Rep Go.Lim Go.Lin
end Go.Proofs.YtidbbddagfnfbaaGreat
namespace Go.Lin
open Go.Lim Go.Rep
def a2V (z:Mat) (s:List Int):Mat:=s.map fun i=>z.getD i.toNat []
theorem a4Z (z:Mat) (s:List Int):(a2V z s).length=s.length:=by simp[a2V]
theorem b3f {z:Mat} {s:List Int} {j:Nat} (a:j<(a2V z s).length) (hs:j<s.length) {i:Nat} (hi:i<z.length) (h:s[j]=(i:Int)):(a2V z s)[j]=z[i]:=by
 simp[a2V,h,List.getD_eq_getElem?_getD,hi]
theorem b3g {z:Mat} {s:List Int} (c:∀x∈s,0<=x/\x<(z.length:Int)):∀r∈a2V z s,r∈z:=fun r a=>by
 unfold a2V at a;obtain⟨x,hx,rfl⟩:=List.mem_map.1 a;have:=c x hx;have b:x.toNat<z.length:=by omega
 rw[show z.getD x.toNat []=z[x.toNat]by simp[List.getD_eq_getElem?_getD,b]];exact List.getElem_mem _
end Go.Lin
namespace Go.Proofs.YtidbbddagfnfbaaGreat
open Go.RowKit Go.Rep Go.Lim Go.Lin
def b8K (X:Nat->Bool) (w:World) (m:Mat) (e:Ending) (w':World):Prop:=Ext w w'/\∃(ao:Option Addr) (cap:Nat),e= .returned (.slice ao m.length cap)/\OL RV 1 X w.heap.size 24 w' ao cap m
set_option maxRecDepth 100000 in
theorem b3h (X:Nat->Bool) (w:World) (u:Value) (z:Mat) (ro:Option Addr) (s:List Int) (rc:Nat) (hX:HX X w) (hu:MV (mk X w) u z) (hs:Sl (a0p .i64) 1 w.cell? ro s) (hb:∀x∈s,0<=x/\x<(z.length:Int)) (hl:s.length<=1000):Calls Tryz.prog 119 #[u, .slice ro s.length rc] w (b8K X w (a2V z s)):=by
 rw[<-a1U]at hs;obtain⟨ao,ca,rfl,hca,hsa⟩:=hu;have hha:=hsa.hd;have hhs:=hs.hd;obtain⟨M,hM⟩:∃M,a2V z s=M:=⟨_,rfl⟩;have hMl:M.length=s.length:=by rw[<-hM];exact a4Z z s
 have hMi:=hid (show∀j (h1:j<M.length) (h2:j<s.length) (i:Nat) (h3:i<z.length),s[j]=(i:Int)->M[j]=z[i]from fun j h1 h2 i h3 h=>by subst hM;exact b3f h1 h2 h3 h);rw[hM];have hb':=hid hb;obtain⟨n,hn⟩:∃n,z.length=n:=⟨_,rfl⟩;have hn':=hid hn;obtain⟨k,hk⟩:∃k,s.length=k:=⟨_,rfl⟩;have hk':=hid hk;rw[hk]at hhs hl hMl |-;rw[hn]at hha hca |-;have hMl':=hid hMl;have hMl1:M.length<=k:=by omega
 have hMl2:k<=M.length:=by omega
 clear hM hb hn hk hMl;go_enter Tryz.func119,Tryz.ntmps119
 go_wp2_with fail
 go_loopw [5,10] (fun o cc wr=>∃(i:Nat) (oo:Option Addr) (co:Nat),cc= .int .i64 i/\o= .slice oo i co/\i<=k/\OL RV 1 X w.heap.size 24 wr oo co (M.take i)/\Ext w wr) (fun _ cc _=>k - (intOf cc).toNat)
 case atStart=>exact⟨0,none,0,rfl,rfl,Nat.zero_le _,OL.nil _ _ _ _ _ _,ExtX.refl _⟩
 case round=>
  obtain⟨i,oo,co,rfl,rfl,hi,hO,hE⟩:=hrel;have hXr:HX X wr:=hX.ext hE;have hbase:=hE.size;by_cases hlt:i<k
  ·have his:i<s.length:=by rw[hk'.out];exact hlt
   have hiM:i<M.length:=by omega
   have htk:=hid (a0L M i hiM);have hln:=hid (a0W (l:=M) (i:=i) (by omega));have hc:=(hs.mono (a0p.mono _) (a0l hE)).int i his;obtain⟨h1,h2⟩:=hb'.out s[i] (List.getElem_mem _);obtain⟨q,hq⟩:=Int.eq_ofNat_of_zero_le h1;rw[hn'.out]at h2;have hqn:q<n:=by omega
   have hqz:q<z.length:=by rw[hn'.out];exact hqn
   have hMq:=hMi.out i hiM his q hqz hq;rw[hq]at hc;have hsr:Sl RV 1 (mk (un X oo) wr) ao z:=hsa.old RV.mono hE (fun j hj=>hO.ob_lt hj);obtain⟨a1,c1,hX1,hc1,hcl1,hq1⟩:=hsr.row q hqz;have k00:=hc1.out noY wr (ExtX.refl _) rfl;obtain⟨r,hr⟩:∃r,z[q]=r:=⟨_,rfl⟩;rw[hr]at k00 hcl1 hq1 hMq;rw[hMq]at htk;have hRV:RV (mk (un X oo) wr) (.slice a1 r.length c1) r:=⟨a1,c1,rfl,hcl1,hq1⟩;obtain⟨d,hd⟩:∃d,r.length=d:=⟨_,rfl⟩;rw[hd]at k00 hRV;clear hr hc1 hcl1 hq1 hMq hd h1 h2 hq;go_wp2_with (first
    |(with_reducible refine a0q a2h (by omega) (by assumption) ?_)
    |(with_reducible refine a0q a0s (by omega) (by assumption) ?_)
    |(at_builtin;refine a0u (l:=M.take i) a0s rfl RV.elem hbase hXr i hln.out rfl rfl hO (.slice a1 d c1) r rfl hRV (by omega) (by omega) ?_;intro oo2 co2 w7 hO7 hE7 hor))
   have hE8:=hE.own hO (Nat.le_refl _) hE7;rw[htk.out]at hO7;go_roundw
   case rel=>exact⟨i+1,oo2,co2,by go_num,by go_num,by omega,hO7,hE8⟩
   case measure=>simp[intOf];omega
  ·have hil:i=k:=by omega
   subst hil;rw[List.take_of_length_le (by omega)]at hO;go_wp2_with fail
   go_ret
   exact⟨hE,oo,co,by rw[hMl'.out];rfl,hO⟩
end Go.Proofs.YtidbbddagfnfbaaGreat
namespace Go.Lim
end Go.Lim
namespace Go.Lin
open Go.Lim Go.Rep
def Bd (c:Nat) (z:Mat) (cnt:Nat) (x:Vec):Prop:=∀l,a4q c (onL c x (a4J z)) l->cnt<=a9E c x (a4J z)+l
theorem Bd.le {c a n:Nat} {z:Mat} {x:Vec} (h:Bd c z a x) (d:n<=a):Bd c z n x:=fun l b=>Nat.le_trans d (h l b)
theorem Bd.congr {c a:Nat} {z:Mat} {x y:Vec} (h:Bd c z a x) (d:∀j,j<c->x j=y j):Bd c z a y:=fun l b=>by
 obtain⟨f,e,_⟩:=b2B d (a4J z);have:=h l (by rw[e];exact b);rwa[f]at this
section
variable {n c:Nat} {z:Mat} (hs:Shp n c z)
include hs
end
theorem b8b.le {c a:Nat} {z b:Mat} (h:b8b c z a b):a<=z.length+1:=by
 rcases h with⟨rfl,_⟩|h
 ·exact Nat.le_refl _
 ·have:a=b1F c (a4J b) (a4J z):=h.cnt.symm
  rw[this];have:=List.countP_le_length (p:=fun v=>a6l c (a4J b) v) (l:=a4J z);unfold b1F;simp[a4J]at this |-;omega
end Go.Lin
namespace Go.Lin
open Go.Lim Go.Rep
end Go.Lin
