/- law 13: LeastsqShiftsBack returns true. Conditions: none but Go's own. -/
import Derived.Test.YtkddecjkfdogiaaGreatLkS
namespace Go.Proofs.YtkddecjkfdogiaaGreat
open Go.RowKit Go.Rep Go.Lim Go.Lin
abbrev b5w:Array Value:=#[.int .i64 0, .slice none 0 0, .slice none 0 0, .bool false, .slice none 0 0, .slice none 0 0]
set_option maxRecDepth 100000 in
set_option maxHeartbeats 1600000 in
theorem b2c (w:World) (N K:Int) (ones:Bool) (ro:Option Addr) (raw:List Int) (rcap:Nat) (ro2:Option Addr) (raw2:List Int) (rcap2:Nat) (bz:Int) (hs:Sl (a1P .i64) 1 (mk noY w) ro raw) (hraw:∀x∈raw,-9223372036854775808<=x/\x<=9223372036854775807) (hs2:Sl (a1P .i64) 1 (mk noY w) ro2 raw2) (hraw2:∀x∈raw2,-9223372036854775808<=x/\x<=9223372036854775807) (hb1: -9223372036854775808<=bz) (hb2:bz<=9223372036854775807):
  Calls Tryz.prog 13 #[.agg #[.int .i64 N, .int .i64 K, .bool ones, .slice ro raw.length rcap], .slice ro2 raw2.length rcap2, .int .i64 bz] w (a9V w true):=by
 have hnoX:∀v:World,HX noY v:=fun v=>HX.none v;have m1:=Int.emod_nonneg (wrap64 (N - 1)) (show(6:Int)≠0 by omega);have m2:=Int.emod_lt_of_pos (wrap64 (N - 1)) (show(0:Int)<6 by omega);have m3:=Int.emod_nonneg (wrap64 (K - 1)) (show(4:Int)≠0 by omega);have m4:=Int.emod_lt_of_pos (wrap64 (K - 1)) (show(0:Int)<4 by omega);obtain⟨n,hn⟩:=Int.eq_ofNat_of_zero_le (show 0<=1+wrap64 (N - 1)%6 by omega);obtain⟨k,hk⟩:=Int.eq_ofNat_of_zero_le (show 0<=1+wrap64 (K - 1)%4 by omega);have hn16:1<=n/\n<=6:=by omega
 have hk14:1<=k/\k<=4:=by omega
 obtain⟨hsh,hcol,hxB,hyB,hyl,hfo,hok⟩:=b0R ones n k raw hn16.1 (by omega) hk14.1 hk14.2;obtain⟨W,hW,hE,b0,hz⟩:=a1L w #[.int .i64 N, .int .i64 K, .bool ones, .slice ro raw.length rcap] 69;have hTab:Calls Tryz.prog 38 #[.agg #[.int .i64 N, .int .i64 K, .bool ones, .slice ro raw.length rcap], .int .i64 6, .int .i64 4] W (b0O noY W (a9z ones n k raw) (b0X ones n k raw)):=b0P noY W N K ones ro raw rcap 6 4 n k (hnoX W) (hs.mono (a1P.mono _) (a0o hE)) hraw (by decide) (by decide) (by decide) (by decide) hn hk;obtain⟨b,hb⟩:∃b,w.heap.size=b:=⟨_,rfl⟩;rw[hb]at b0 hz;obtain⟨x,hx⟩:∃x,a9z ones n k raw=x:=⟨_,rfl⟩;obtain⟨y,hy⟩:∃y,b0X ones n k raw=y:=⟨_,rfl⟩;rw[hx]at hsh hcol hxB hfo hok hTab;rw[hy]at hyB hyl hok hTab;have p0:=b0.cell 0 rfl;have p1:=b0.cell 1 rfl;have p2:=b0.cell 2 rfl;have p3:=b0.cell 3 rfl;have hn1:=hn16.1;have hn6:=hn16.2;have hk1:=hk14.1;have hk4:=hk14.2;have hxl:Hid (x.length=n):=hid hsh.1;have hxB':=hid (show BM 68719476736 x from fun r hr q hq=>Nat.le_trans (hxB r hr q hq) (by decide));have hyB':=hid (show BR 68719476736 y from fun q hq=>Nat.le_trans (hyB q hq) (by decide));have hyl':=hid hyl;have hfit:=hid fun w' u v (hu:MC (mk noY w') u x) (hv:RC (mk noY w') v y)=>b0K noY w' u v x y n k 2 (hnoX w') (hu.mv hxB'.out) (hv.rv hyB'.out) hok hsh.1 hcol (by omega) hk4 hxB hyB (by decide) (by decide);clear m1 m2 m3 m4 hn hk hx hy hn16 hk14 hs hraw;have hvec:=hid fun w' (h:Ext w w')=>a9u noY w' k ro2 raw2 rcap2 (hnoX w') (hs2.mono (a1P.mono _) (a0o h)) (by omega) hraw2;have hvl:=b2m k raw2;have hvB:=b4k k raw2;have hnum:=hid fun w'=>a4r noY w' bz (hnoX w') hb1 hb2;have hcB:=a7C bz;obtain⟨V,hV⟩:∃V,b2T k raw2=V:=⟨_,rfl⟩;rw[hV]at hvec hvl hvB;obtain⟨C,hC⟩:∃C,a9c bz=C:=⟨_,rfl⟩;rw[hC]at hnum hcB;clear hV hC hs2 hraw2 hb1 hb2 hfit;obtain⟨M0,M1,e0,e1,hm0,hm1,c0,s0,c1,s1,hp0,hl0,hp1,hl1,hok1,hcol1,hXB,hYB⟩:=b2l (z:=C) hsh hyl hvl hn6 hk1 hk4 hxB hyB hvB hcB;have hbig:∀{B:Nat} {m:Mom},BMo B m->B<=68719476736->BMo 68719476736 m:=fun h hB=>⟨fun r hr q hq=>Nat.le_trans (h.1 r hr q hq) hB,fun q hq=>Nat.le_trans (h.2.1 q hq) hB,Nat.le_trans h.2.2 hB⟩;have hv0:=hbig hm0 (by decide);have hv1:=hbig hm1 (by decide);have hga:=hid fun w' u v (hu:MC (mk noY w') u x) (hv:RC (mk noY w') v y)=>a4x noY w' u v x y n k 2 (hnoX w') (hu.mv hxB'.out) (hv.rv hyB'.out) hok hsh.1 hcol (by omega) hk4 hxB hyB (by decide) (by decide);have hgb:=hid fun(X:Nat->Bool) w' u v (hX:HX X w') (hu:MC (mk X w') u (x++[V])) (hv:RC (mk X w') v (y++[C]))=>a4x X w' u v (x++[V]) (y++[C]) (n+1) k 2 hX (hu.mv fun r hr q hq=>Nat.le_trans (hXB r hr q hq) (by decide)) (hv.rv fun q hq=>Nat.le_trans (hYB q hq) (by decide)) hok1 (by rw[List.length_append,hsh.1];rfl) hcol1 (by omega) hk4 hXB hYB (by decide) (by decide);rw[e0]at hga;rw[e1]at hgb;have hsa:=hid fun w' u r t (h1:a2x (mk noY w') u M0) (h2:RC (mk noY w') r V) (h3:QC (mk noY w') t C)=>a8O noY w' u r t M0 V C true 5929 (hnoX w') (h1.mv hv0) (h2.rv fun q hq=>Nat.le_trans (hvB q hq) (by decide)) (h3.qv (Nat.le_trans hcB (by decide))) (by rw[hp0.1];omega) hm0 (fun q hq=>Nat.le_trans (hvB q hq) (by decide)) (Nat.le_trans hcB (by decide)) (by decide);have hsb:=hid fun w' u r t (h1:a2x (mk noY w') u M1) (h2:RC (mk noY w') r V) (h3:QC (mk noY w') t C)=>a8O noY w' u r t M1 V C false 5929 (hnoX w') (h1.mv hv1) (h2.rv fun q hq=>Nat.le_trans (hvB q hq) (by decide)) (h3.qv (Nat.le_trans hcB (by decide))) (by rw[hp1.1];omega) hm1 (fun q hq=>Nat.le_trans (hvB q hq) (by decide)) (Nat.le_trans hcB (by decide)) (by decide);unfold a4A at hsa hsb;rw[c0,s0]at hsa;rw[c1,s1]at hsb;have hq0:=hid fun w' u v (h1:a2x (mk noY w') u M0) (h2:a2x (mk noY w') v M0)=>a8Q noY w' u v M0 h1 h2 hv0 (by rw[hp0.1];omega) (fun r hr=>by rw[hp0.2 r hr];omega) (by rw[hl0];omega);have hq1:=hid fun w' u v (h1:a2x (mk noY w') u M1) (h2:a2x (mk noY w') v M1)=>a8Q noY w' u v M1 h1 h2 hv1 (by rw[hp1.1];omega) (fun r hr=>by rw[hp1.2 r hr];omega) (by rw[hl1];omega);have hk0:=hsh.2 (x[0]'(Nat.lt_of_lt_of_le hn1 (Nat.le_of_eq hxl.out.symm))) (List.getElem_mem _);clear hok hfo hxB hyB hcol hsh e0 e1 hm0 hm1 c0 s0 c1 s1 hp0 hl0 hp1 hl1 hok1 hcol1 hXB hYB hbig hv0 hv1 hvB hcB;have hvl':=hid hvl;clear hvl;go_enter Tryz.func13,Tryz.ntmps13
 go_wp2_with fail
 refine hTab.mono ?_;rintro ee w1 ⟨hE1,xv,yv,rfl,hxv,hyv⟩;clear p0 p1 p2 p3 hTab;have hxv':=hid hxv;have hyv':=hid hyv;obtain⟨xo,xc,rfl,hxc,hxs⟩:=hxv;obtain⟨yo,yc,rfl,hyc,hys⟩:=hyv;obtain⟨q1,q2,hX1,hc1,hcl1,hq1'⟩:=hxs.row 0 (by rw[hxl.out];omega);rw[hk0]at hc1 hcl1;have hhx:Hd xo n:=by have:=hxs.hd;rw[hxl.out]at this;exact this
 rw[hxl.out]at hxv' hxc |-;rw[hyl]at hyv' hyc |-;clear hq1' hk0 hys hxs;have hc1w:=hc1.out noY w1 (ExtX.refl _) rfl;go_wp2_with ((with_reducible refine a0t a0r (by omega) (by assumption) ?_))
 refine(hvec.out w1 (hE.trans hE1)).mono ?_;rintro ee w2 ⟨hE2,vv,rfl,hvv⟩;clear hc1w hc1 hvec;go_wp2_with fail
 refine(hnum.out w2).mono ?_;rintro ee w3 ⟨hE3,cu,rfl,hcu⟩;have hcu':=hid hcu;obtain⟨z0,za,zn,zc,zd,zk,ze,rfl⟩:=hcu.shape;have bc:=Bx.new w3 #[.bool false, .slice none 0 0, .slice none 0 0] 32;go_wp2_with (first|((with_reducible show wpList _ _ _ (⟨_, .store 32 _ _,_,_,_,_⟩::_) _ _);refine a0c a0w rfl rfl bc rfl rfl (a3n _ _ _ _ _ _ _) ?_;intro w4 v1 v2;have hE4:Ext w3 w4:=ExtX.box ((ExtX.refl w3).alloc _) v2 (Nat.le_refl _))|fail)
 obtain⟨g,hg⟩:∃g,w3.heap.size=g:=⟨_,rfl⟩;rw[hg]at v1 v2 |-;clear v2 hg bc hnum;have hE14:=hE2.trans (hE3.trans hE4);refine(hga.out w4 _ _ (mkx MC.mono hxv'.out hE14) (mkx RC.mono hyv'.out hE14)).mono ?_;rintro ee w5 ⟨hE5,m1,rfl,hm1⟩;have v5:=v1.ext0 hE5;clear hga v1;have hmA:=hid hm1;obtain⟨xoA,xlA,xcA,yoA,ylA,ycA,sA,aA,nA,cA,dA,kA,eA,rfl,_,_,_⟩:=hm1;have bmA:=Bx.new w5 #[.int .i64 0, .slice none 0 0, .slice none 0 0, .bool false, .slice none 0 0, .slice none 0 0] 83;go_wp2_with (first|((with_reducible show wpList _ _ _ (⟨_, .store 83 _ _,_,_,_,_⟩::_) _ _);refine a0c a1I rfl rfl bmA rfl rfl (by intro v hv;simp at hv;rcases hv with rfl|rfl|rfl|rfl|rfl|rfl<;>rfl) ?_;intro w6 xA yA;have FA:Ext w5 w6:=ExtX.box ((ExtX.refl w5).alloc _) yA (Nat.le_refl _);have v6:=v5.ext0 FA;have p0:=xA.cell 0 rfl;have p1:=xA.cell 1 rfl;have p2:=xA.cell 2 rfl;have p3:=xA.cell 3 rfl;have p4:=xA.cell 4 rfl;have p5:=xA.cell 5 rfl;have r0:=v6.cell 0 rfl;have r1:=v6.cell 1 rfl;have r2:=v6.cell 2 rfl)|fail)
 obtain⟨hA,hhA⟩:∃h,(w5).heap.size=h:=⟨_,rfl⟩;rw[hhA]at xA |-;clear yA bmA hhA;have hE56:=hE5.trans FA;have hE46:=hE4.trans hE56;refine(hsa.out w6 _ _ _ (mkx a2x.mono hmA.out FA) (mkx RC.mono hvv (hE3.trans hE46)) (mkx QC.mono hcu'.out hE46)).mono ?_;rintro ee w7 ⟨hE7,m2,rfl,hm2⟩;have xA':=xA.ext0 hE7;have v7:=v6.ext0 hE7;clear hsa p0 p1 p2 p3 p4 p5 r0 r1 r2 xA v5 v6;have hmB:=hid hm2;obtain⟨xoB,xlB,xcB,yoB,ylB,ycB,sB,aB,nB,cB,dB,kB,eB,rfl,_,_,_⟩:=hm2;have bmB:=Bx.new w7 #[.int .i64 0, .slice none 0 0, .slice none 0 0, .bool false, .slice none 0 0, .slice none 0 0] 83;go_wp2_with (first|((with_reducible show wpList _ _ _ (⟨_, .store 83 _ _,_,_,_,_⟩::_) _ _);refine a0c a1I rfl rfl bmB rfl rfl (by intro v hv;simp at hv;rcases hv with rfl|rfl|rfl|rfl|rfl|rfl<;>rfl) ?_;intro w8 xB yB;have FB:Ext w7 w8:=ExtX.box ((ExtX.refl w7).alloc _) yB (Nat.le_refl _);have v8:=v7.ext0 FB;have p0:=xB.cell 0 rfl;have p1:=xB.cell 1 rfl;have p2:=xB.cell 2 rfl;have p3:=xB.cell 3 rfl;have p4:=xB.cell 4 rfl;have p5:=xB.cell 5 rfl;have r0:=v8.cell 0 rfl;have r1:=v8.cell 1 rfl;have r2:=v8.cell 2 rfl)|fail)
 obtain⟨hB,hhB⟩:∃h,(w7).heap.size=h:=⟨_,rfl⟩;rw[hhB]at xB |-;clear yB bmB hhB;have hE48:=hE46.trans (hE7.trans FB);refine(hsb.out w8 _ _ _ (mkx a2x.mono hmB.out FB) (mkx RC.mono hvv (hE3.trans hE48)) (mkx QC.mono hcu'.out hE48)).mono ?_;rintro ee w9 ⟨hE9,m3,rfl,hm3⟩;have xA'':=xA'.ext0 (FB.trans hE9);have xB':=xB.ext0 hE9;have v9:=v8.ext0 hE9;clear hsb p0 p1 p2 p3 p4 p5 r0 r1 r2 xA' xB v7 v8;have hmC:=hid hm3;obtain⟨xoC,xlC,xcC,yoC,ylC,ycC,sC,aC,nC,cC,dC,kC,eC,rfl,_,_,_⟩:=hm3;have bmC:=Bx.new w9 #[.int .i64 0, .slice none 0 0, .slice none 0 0, .bool false, .slice none 0 0, .slice none 0 0] 83;go_wp2_with (first|((with_reducible show wpList _ _ _ (⟨_, .store 83 _ _,_,_,_,_⟩::_) _ _);refine a0c a1I rfl rfl bmC rfl rfl (by intro v hv;simp at hv;rcases hv with rfl|rfl|rfl|rfl|rfl|rfl<;>rfl) ?_;intro w10 xC yC;have FC:Ext w9 w10:=ExtX.box ((ExtX.refl w9).alloc _) yC (Nat.le_refl _);skip)|fail)
 obtain⟨hC,hhC⟩:∃h,(w9).heap.size=h:=⟨_,rfl⟩;rw[hhC]at xC |-;clear yC bmC hhC;have hE8a:=hE9.trans FC;have hE4a:=hE48.trans hE8a;have hEd:Ext w10 w10.drew:=(ExtX.refl w10).drew;have hE1a:=hE2.trans (hE3.trans hE4a);have hMx:=mkx MC.mono hxv'.out (hE1a.trans hEd);have hRy:=mkx RC.mono hyv'.out (hE1a.trans hEd);have hRv:=mkx RC.mono hvv ((hE3.trans hE4a).trans hEd);have hQz:=mkx QC.mono hcu'.out (hE4a.trans hEd);have zA:=xA''.ext0 (FC.trans hEd);have zB:=xB'.ext0 (FC.trans hEd);have zC:=xC.ext0 hEd;have zZ:=v9.ext0 (FC.trans hEd);have hmA':=hid (mkx a2x.mono hmA.out (FA.trans (hE7.trans (FB.trans (hE8a.trans hEd)))));have hmB':=hid (mkx a2x.mono hmB.out (FB.trans (hE8a.trans hEd)));have hmC':=hid (mkx a2x.mono hmC.out (FC.trans hEd));have hEf:Ext w w10.drew:=hE.trans (hE1.trans (hE1a.trans hEd));clear hcu hcu' hvv hmA hmB hmC v9 xA'' xB' xC hxv' hyv' hE2 hE3 hE4 hE5 FA hE7 FB hE9 FC hE56 hE46 hE48 hE8a hE4a hE1a hEd hE14;obtain⟨vo,vc,rfl,hvc,hvs⟩:=id hRv;rw[hvl'.out]at hRv hvc |-;have hS:Hid (∀w',Ext w10.drew w'->w'.cell? ⟨g,0,none⟩=some (.bool z0)/\w'.cell? ⟨g,0+1,none⟩=some (.slice za zn zc)/\w'.cell? ⟨g,0+2,none⟩=some (.slice zd zk ze)):=hid fun w' h=>by
  have h9:=zZ.ext0 h;exact⟨h9.cell 0 rfl,h9.cell 1 rfl,h9.cell 2 rfl⟩
 have hxs:=hid (show Sl RC 1 (mk noY w10.drew) xo x from by obtain⟨_,_,h1,_,h2⟩:=hMx;cases h1;exact h2);have hys:=hid (show Sl QC 3 (mk noY w10.drew) yo y from by obtain⟨_,_,h1,_,h2⟩:=hRy;cases h1;exact h2);refine a0L 16 (fun w'=>w'.cell? ⟨g,0,none⟩=some (.bool z0)/\w'.cell? ⟨g,0+1,none⟩=some (.slice za zn zc)/\w'.cell? ⟨g,0+2,none⟩=some (.slice zd zk ze)) (by kernel_rfl) (by kernel_rfl) (hS.out _ (ExtX.refl _)) (fun hHeld hOnce=>?_);obtain⟨W0,hW0⟩:∃W0,w10.drew=W0:=⟨_,rfl⟩;rw[hW0]at hMx hRy hRv hQz zA zB zC hmA' hmB' hmC' hEf hS hxs hys |-
 (try rw[hW0]at hHeld)
 clear hW0 zZ;refine a0a hOnce (i:=0) (oi:=⟨_,_,_,_,_,_⟩) (v:=?_) rfl (by kernel_rfl) (fun _ _ _ h=>h) (by assumption) (by rfl) (fun w hSw=>?_) ?_
 rotate_left
 ·(try dsimp only at hSw)
  go_simp
  all_goals with_reducible rfl
 (try simp only[Act.put,List.setIfInBounds_toArray,List.set_cons_zero,List.set_cons_succ])
 refine a0a hOnce (i:=2) (oi:=⟨_,_,_,_,_,_⟩) (v:=?_) rfl (by kernel_rfl) (fun _ _ _ h=>h) (by assumption) (by rfl) (fun w hSw=>?_) ?_
 rotate_left
 ·(try dsimp only at hSw)
  go_simp
  all_goals with_reducible rfl
 (try simp only[Act.put,List.setIfInBounds_toArray,List.set_cons_zero,List.set_cons_succ])
 refine a0a hOnce (i:=5) (oi:=⟨_,_,_,_,_,_⟩) (v:=?_) rfl (by kernel_rfl) (fun _ _ _ h=>h) (by assumption) (by rfl) (fun w hSw=>?_) ?_
 rotate_left
 ·(try dsimp only at hSw)
  go_simp
  all_goals with_reducible rfl
 (try simp only[Act.put,List.setIfInBounds_toArray,List.set_cons_zero,List.set_cons_succ])
 refine a0a hOnce (i:=7) (oi:=⟨_,_,_,_,_,_⟩) (v:=?_) rfl (by kernel_rfl) (fun _ _ _ h=>h) (by assumption) (by rfl) (fun w hSw=>?_) ?_
 rotate_left
 ·(try dsimp only at hSw)
  go_simp
  all_goals with_reducible rfl
 (try simp only[Act.put,List.setIfInBounds_toArray,List.set_cons_zero,List.set_cons_succ])
 refine b0U fun a0 ha0=>?_;refine a9w (I:=fun p b3 b8 b14 a w=>∃v1 v3 v4 v6 v8 v9 v14 ao X,a=a6w a0 v1 v3 v4 v6 v8 v9 v14/\Two4 W0 45 32 x V y C n p X ao v1 v4 v6 v9 w/\(p<=1->a7T W0 w ao b3 (fun A=> .slice (some A) 1 1) v3 #[.slice vo k vc] 45)/\(p<=3->a7T W0 w ao b8 (fun A=> .slice (some A) 1 1) v8 #[.bool z0, .slice za zn zc, .slice zd zk ze] 32)/\b0Y W0 w ao b14 v14 X b5w 83)
  (by kernel_rfl) ?h1 ?h3 ?h4 ?h6 ?h8 ?h9 (by kernel_rfl) ?h14 ?hx1 ?hx0 13 0 false false false a0 W0 (by omega) (by omega) (by omega) rfl ?hi
 case hi=>
  subst ha0;exact⟨undef,undef,undef,undef,undef,undef,undef,none,noY,by simp only[a6w,Act.put,List.setIfInBounds_toArray,List.set_cons_zero,List.set_cons_succ],⟨ExtX.refl _,fun _ _ h=>h,fun _ h=>(by cases h),fun _=>rfl,fun h=>(by omega),fun h=>(by omega)⟩,fun _=>a7T.no,fun _=>a7T.no,⟨fun _=>rfl,fun h=>(by cases h)⟩⟩
 case h1=>
  rintro b3 b8 b14 a w' ⟨v1,v3,v4,v6,v8,v9,v14,ao,X,rfl,hT,hL3,hL8,hB⟩;obtain rfl:=hT.c0 rfl;subst ha0;simp only[a6w,Act.put,List.setIfInBounds_toArray,List.set_cons_zero,List.set_cons_succ];refine a1O (o:=⟨_,_,_,_,_,_⟩) rfl (fun K hK=>?_);refine a3J (l:=([]:Mat)) (R:=RC) (X:=X) (base:=W0.heap.size) rfl rfl a0r rfl RC.elem hT.ext.size hT.hxw x 0 n rfl hxl.out rfl rfl (OL.nil _ _ _ _ _ _) (hxs.out.mono RC.mono hT.le0) (by omega) (by omega) ?_;intro ao' c' w9 ho hE2 hor;rw[Nat.zero_add];exact hK.out _ _ ⟨hS.out _ (a4T hT.ext hE2), .slice ao' n c',v3,v4,v6,v8,v9,v14,ao',X,by simp only[a6w,Act.put,List.setIfInBounds_toArray,List.set_cons_zero,List.set_cons_succ],hT.one ho hE2,fun h=>(hL3 (by omega)).ext hE2 hor,fun h=>(hL8 (by omega)).ext hE2 hor,hB.ext hE2 hor⟩
 case h3=>
  rintro p b8 b14 a w' hp ⟨v1,v3,v4,v6,v8,v9,v14,ao,X,rfl,hT,hL3,hL8,hB⟩;subst ha0;simp only[a6w,Act.put,List.setIfInBounds_toArray,List.set_cons_zero,List.set_cons_succ];refine a1O (o:=⟨_,_,_,_,_,_⟩) rfl (fun K hK=>?_);go_simp
  have E3:Ext w' (w'.alloc (.cells #[.slice vo k vc] 45)):=(ExtX.refl _).alloc _;refine hK.out _ _ ⟨hS.out _ (hT.ext.trans E3),v1, .slice (some ⟨w'.heap.size,0,none⟩) 1 1,v4,v6,v8,v9,v14,ao,X,by simp only[a6w,Act.put,List.setIfInBounds_toArray,List.set_cons_zero,List.set_cons_succ],hT.step E3,fun _ _=>⟨w'.heap.size,rfl,Bx.new w' _ _,hT.ext.size,hT.fresh⟩,fun h=>(hL8 h).ext0 E3,hB.ext0 E3⟩
 case h4=>
  rintro b8 b14 a w' ⟨v1,v3,v4,v6,v8,v9,v14,ao,X,rfl,hT,hL3,hL8,hB⟩;subst ha0;obtain⟨c9,rfl,ho⟩:=hT.c1 rfl;obtain⟨g3,rfl,hl3,_,_⟩:=hL3 (by omega) rfl;simp only[a6w,Act.put,List.setIfInBounds_toArray,List.set_cons_zero,List.set_cons_succ];refine a1O (o:=⟨_,_,_,_,_,_⟩) rfl (fun K hK=>?_);refine a0D (l:=x) (g:=g3) rfl rfl a0r rfl RC.elem hT.ext.size hT.hxw n hxl.out rfl rfl hl3 ho (.slice vo k vc) V rfl (RC.mono _ _ _ _ (hT.le1 (Nat.le_refl _) ho) hRv) (by omega) (by omega) ?_;intro ao' c' w9 h2 hE2 hor;have hT2:=hT.two hxl.out h2 hE2;exact hK.out _ _ ⟨hS.out _ hT2.ext, .slice ao n c9, .slice (some ⟨g3,0,none⟩) 1 1, .slice ao' (n+1) c',v6,v8,v9,v14,none,X,by simp only[a6w,Act.put,List.setIfInBounds_toArray,List.set_cons_zero,List.set_cons_succ],hT2,fun h=>absurd h (by omega),fun h=>((hL8 (by omega)).ext hE2 hor).none,(hB.ext hE2 hor).none⟩
 case h6=>
  rintro b8 b14 a w' ⟨v1,v3,v4,v6,v8,v9,v14,ao,X,rfl,hT,hL3,hL8,hB⟩;subst ha0;obtain⟨w4',hE4',hE5',hm4,hao,_,_⟩:=hT.c2 (by omega);obtain rfl:=hao rfl;simp only[a6w,Act.put,List.setIfInBounds_toArray,List.set_cons_zero,List.set_cons_succ];refine a1O (o:=⟨_,_,_,_,_,_⟩) rfl (fun K hK=>?_);refine a3J (l:=([]:List Rat)) (R:=QC) (X:=X) (base:=w4'.heap.size) rfl rfl a0E rfl QC.elem hE5'.size hT.hxw y 0 n rfl hyl'.out rfl rfl (OL.nil _ _ _ _ _ _) (hys.out.mono QC.mono hT.le0) (by omega) (by omega) ?_;intro ao' c' w9 ho hE2 hor;rw[Nat.zero_add];have hT2:=hT.three hE4' hE5' hm4 ho hE2;exact hK.out _ _ ⟨hS.out _ hT2.ext,v1,v3,v4, .slice ao' n c',v8,v9,v14,ao',X,by simp only[a6w,Act.put,List.setIfInBounds_toArray,List.set_cons_zero,List.set_cons_succ],hT2,fun h=>absurd h (by omega),fun h=>(hL8 (by omega)).ext hE2 hor,hB.ext hE2 hor⟩
 case h8=>
  rintro p b3 b14 a w' hp ⟨v1,v3,v4,v6,v8,v9,v14,ao,X,rfl,hT,hL3,hL8,hB⟩;subst ha0;simp only[a6w,Act.put,List.setIfInBounds_toArray,List.set_cons_zero,List.set_cons_succ];refine a1O (o:=⟨_,_,_,_,_,_⟩) rfl (fun K hK=>?_);go_simp
  have E3:Ext w' (w'.alloc (.cells #[.bool z0, .slice za zn zc, .slice zd zk ze] 32)):=(ExtX.refl _).alloc _;refine hK.out _ _ ⟨hS.out _ (hT.ext.trans E3),v1,v3,v4,v6, .slice (some ⟨w'.heap.size,0,none⟩) 1 1,v9,v14,ao,X,by simp only[a6w,Act.put,List.setIfInBounds_toArray,List.set_cons_zero,List.set_cons_succ],hT.step E3,fun h=>(hL3 h).ext0 E3,fun _ _=>⟨w'.heap.size,rfl,Bx.new w' _ _,hT.ext.size,hT.fresh⟩,hB.ext0 E3⟩
 case h9=>
  rintro b14 a w' ⟨v1,v3,v4,v6,v8,v9,v14,ao,X,rfl,hT,hL3,hL8,hB⟩;subst ha0;obtain⟨w4',hE4',hE5',hm4,_,hao,_⟩:=hT.c2 (by omega);obtain⟨c9,rfl,ho⟩:=hao rfl;obtain⟨g8,rfl,hl8,_,_⟩:=hL8 (by omega) rfl;simp only[a6w,Act.put,List.setIfInBounds_toArray,List.set_cons_zero,List.set_cons_succ];refine a1O (o:=⟨_,_,_,_,_,_⟩) rfl (fun K hK=>?_);refine a0D (l:=y) (g:=g8) rfl rfl a0E rfl QC.elem hE5'.size hT.hxw n hyl'.out rfl rfl hl8 ho (.agg #[.bool z0, .slice za zn zc, .slice zd zk ze]) C rfl (QC.mono _ _ _ _ (hT.le1 hE4'.size ho) hQz) (by omega) (by omega) ?_;intro ao' c' w9 h2 hE2 hor;have hT2:=hT.four hyl'.out hE4' hE5' hm4 ho h2 hE2;exact hK.out _ _ ⟨hS.out _ hT2.ext,v1,v3,v4, .slice ao n c9, .slice (some ⟨g8,0,none⟩) 1 1, .slice ao' (n+1) c',v14,none,X,by simp only[a6w,Act.put,List.setIfInBounds_toArray,List.set_cons_zero,List.set_cons_succ],hT2,fun h=>absurd h (by omega),fun h=>absurd h (by omega),(hB.ext hE2 hor).none⟩
 case h14=>
  rintro p b3 b8 a w' ⟨v1,v3,v4,v6,v8,v9,v14,ao,X,rfl,hT,hL3,hL8,hB⟩;subst ha0;obtain rfl:=hB.1 rfl;simp only[a6w,Act.put,List.setIfInBounds_toArray,List.set_cons_zero,List.set_cons_succ];refine a1O (o:=⟨_,_,_,_,_,_⟩) rfl (fun K hK=>?_);go_simp
  have E3:Ext w' (w'.alloc (.cells b5w 83)):=(ExtX.refl _).alloc _;have hs3:w'.heap.size<(w'.alloc (.cells b5w 83)).heap.size:=by simp
  refine hK.out _ _ ⟨hS.out _ (hT.ext.trans E3),v1,v3,v4,v6,v8,v9, .pointer (some ⟨w'.heap.size,0,none⟩),ao,_,by simp only[a6w,Act.put,List.setIfInBounds_toArray,List.set_cons_zero,List.set_cons_succ],hT.box E3 hs3,fun h=>(hL3 h).ext0 E3,fun h=>(hL8 h).ext0 E3,⟨fun h=>(by cases h),fun _=>⟨w'.heap.size,rfl,rfl,Bx.new w' _ _,hT.ext.size,hT.fresh⟩⟩⟩
 case' hx1=>
  rintro a w' ⟨v1,v3,v4,v6,v8,v9,v14,ao,X,rfl,hT,-,-,hB⟩;subst ha0;obtain⟨w4',hE4',hE5',hm4,_,_,h4⟩:=hT.c2 (by omega);obtain⟨rfl,hr9⟩:=h4 (by omega);obtain⟨hD,rfl,rfl,hbB,hgB,_⟩:=hB.2 rfl;simp only[a6w,Act.put,List.setIfInBounds_toArray,List.set_cons_zero,List.set_cons_succ];have hHeld:=hS.out _ hT.ext;have hXb:HX (un noY (some ⟨hD,0,none⟩)) w':=hT.hxw;refine a0d (i:=10) (o:=⟨_,_,_,_,_,_⟩) (by kernel_rfl) rfl (fun K hK=>?_);go_simp
  (go_at_call 51;(with_reducible refine(hgb.out (un noY (some ⟨hD,0,none⟩)) w' v4 v9 hXb (mkx MC.mono hm4 hE5') hr9).mono ?_);rintro ee w5' ⟨q5,u5,rfl,h5⟩)
  refine hK.out _ _ (hS.out _ (hT.ext.trans q5)) (fun hHeld=>?_);clear hK K
  (try simp only[Act.put,List.setIfInBounds_toArray,List.set_cons_zero,List.set_cons_succ])
  obtain⟨xoD,xlD,xcD,yoD,ylD,ycD,sD,aD,nD,cD,dD,kD,eD,rfl,_,_,_⟩:=id h5;refine a0a hOnce (i:=11) (oi:=⟨_,_,_,_,_,_⟩) (v:=?_) rfl (by kernel_rfl) (fun _ _ _ h=>h) (by assumption) (by rfl) (fun w hSw=>?_) ?_
  rotate_left
  ·(try dsimp only at hSw)
   go_simp
   all_goals with_reducible rfl
  (try simp only[Act.put,List.setIfInBounds_toArray,List.set_cons_zero,List.set_cons_succ])
  refine a0a hOnce (i:=12) (oi:=⟨_,_,_,_,_,_⟩) (v:=?_) rfl (by kernel_rfl) (fun _ _ _ h=>h) (by assumption) (by rfl) (fun w hSw=>?_) ?_
  rotate_left
  ·(try dsimp only at hSw)
   go_simp
   all_goals with_reducible rfl
  (try simp only[Act.put,List.setIfInBounds_toArray,List.set_cons_zero,List.set_cons_succ])
  refine a0a hOnce (i:=13) (oi:=⟨_,_,_,_,_,_⟩) (v:=?_) rfl (by kernel_rfl) (fun _ _ _ h=>h) (by assumption) (by rfl) (fun w hSw=>?_) ?_
  rotate_left
  ·(try dsimp only at hSw)
   go_simp
   all_goals with_reducible rfl
  (try simp only[Act.put,List.setIfInBounds_toArray,List.set_cons_zero,List.set_cons_succ])
  refine a0d (i:=15) (o:=⟨_,_,_,_,_,_⟩) (by kernel_rfl) rfl (fun K hK=>?_)
  (refine a0B rfl rfl a1I rfl rfl (hbB.ext0 q5) rfl rfl (by intro v hv;simp at hv;rcases hv with rfl|rfl|rfl|rfl|rfl|rfl<;>rfl) ?_;intro w11 xD y2)
  refine hK.out _ _ (hS.out _ (ExtX.box (hT.ext.trans q5) y2 hgB)) (fun hHeld=>?_);clear hK K
  (try simp only[Act.put,List.setIfInBounds_toArray,List.set_cons_zero,List.set_cons_succ])
  refine a0j (i:=16) (o:=⟨_,_,_,_,_,_⟩) (by kernel_rfl) rfl (by decide) (by kernel_rfl) (fun K hK=>?_);go_simp
  refine hK.out _ _ ?_;clear hK K;have hE0b:Ext W0 w11:=ExtX.box (hT.ext.trans q5) y2 hgB;have hmD:=hid (a2x.mono _ _ _ _ (a1m (X:=noY) (Z:=un noY (some ⟨hD,0,none⟩)) fun _ _ h=>by cases h) (a2x.mono _ _ _ _ (a0O y2 fun k hk=>a0q hk) h5));clear y2 h5 hbB hB hT hr9 hm4 h4 hHeld hOnce
 case' hx0=>
  rintro a w' ⟨v1,v3,v4,v6,v8,v9,v14,ao,X,rfl,hT,-,-,hB⟩;subst ha0;obtain⟨w4',hE4',hE5',hm4,_,_,h4⟩:=hT.c2 (by omega);obtain⟨rfl,hr9⟩:=h4 (by omega);obtain rfl:=hB.1 rfl;simp only[a6w,Act.put,List.setIfInBounds_toArray,List.set_cons_zero,List.set_cons_succ];refine a1O (o:=⟨_,_,_,_,_,_⟩) rfl (fun K hK=>?_);go_simp
  go_at_call 51
  (with_reducible refine(hgb.out noY w' v4 v9 (hnoX _) (mkx MC.mono hm4 hE5') hr9).mono ?_)
  rintro ee w5' ⟨q5,u5,rfl,h5⟩;obtain⟨xoD,xlD,xcD,yoD,ylD,ycD,sD,aD,nD,cD,dD,kD,eD,rfl,_,_,_⟩:=id h5;have hHeld:=hS.out _ (hT.ext.trans q5);refine hK.out _ _ ⟨hHeld,?_⟩;clear hK K
  (try simp only[Act.put,List.setIfInBounds_toArray,List.set_cons_zero,List.set_cons_succ])
  refine a0a hOnce (i:=11) (oi:=⟨_,_,_,_,_,_⟩) (v:=?_) rfl (by kernel_rfl) (fun _ _ _ h=>h) (by assumption) (by rfl) (fun w hSw=>?_) ?_
  rotate_left
  ·(try dsimp only at hSw)
   go_simp
   all_goals with_reducible rfl
  (try simp only[Act.put,List.setIfInBounds_toArray,List.set_cons_zero,List.set_cons_succ])
  refine a0a hOnce (i:=12) (oi:=⟨_,_,_,_,_,_⟩) (v:=?_) rfl (by kernel_rfl) (fun _ _ _ h=>h) (by assumption) (by rfl) (fun w hSw=>?_) ?_
  rotate_left
  ·(try dsimp only at hSw)
   go_simp
   all_goals with_reducible rfl
  (try simp only[Act.put,List.setIfInBounds_toArray,List.set_cons_zero,List.set_cons_succ])
  refine a0a hOnce (i:=13) (oi:=⟨_,_,_,_,_,_⟩) (v:=?_) rfl (by kernel_rfl) (fun _ _ _ h=>h) (by assumption) (by rfl) (fun w hSw=>?_) ?_
  rotate_left
  ·(try dsimp only at hSw)
   go_simp
   all_goals with_reducible rfl
  (try simp only[Act.put,List.setIfInBounds_toArray,List.set_cons_zero,List.set_cons_succ])
  have E3:Ext w5' (w5'.alloc (.cells b5w 83)):=(ExtX.refl _).alloc _;have hbB:=Bx.new w5' b5w 83;have hgB:W0.heap.size<=w5'.heap.size:=(hT.ext.trans q5).size;refine a0d (i:=14) (o:=⟨_,_,_,_,_,_⟩) (by kernel_rfl) rfl (fun K hK=>?_);go_simp
  skip
  refine hK.out _ _ (hS.out _ (hT.ext.trans (q5.trans E3))) (fun hHeld=>?_);clear hK K
  (try simp only[Act.put,List.setIfInBounds_toArray,List.set_cons_zero,List.set_cons_succ])
  refine a0d (i:=15) (o:=⟨_,_,_,_,_,_⟩) (by kernel_rfl) rfl (fun K hK=>?_)
  (refine a0B rfl rfl a1I rfl rfl hbB rfl rfl (by intro v hv;simp at hv;rcases hv with rfl|rfl|rfl|rfl|rfl|rfl<;>rfl) ?_;intro w11 xD y2)
  refine hK.out _ _ (hS.out _ (ExtX.box (hT.ext.trans (q5.trans E3)) y2 hgB)) (fun hHeld=>?_);clear hK K
  (try simp only[Act.put,List.setIfInBounds_toArray,List.set_cons_zero,List.set_cons_succ])
  refine a0j (i:=16) (o:=⟨_,_,_,_,_,_⟩) (by kernel_rfl) rfl (by decide) (by kernel_rfl) (fun K hK=>?_);go_simp
  refine hK.out _ _ ?_;clear hK K;have hE0b:Ext W0 w11:=ExtX.box (hT.ext.trans (q5.trans E3)) y2 hgB;have hmD:=hid (a2x.mono _ _ _ _ (a1m (X:=noY) (Z:=un noY (some ⟨w5'.heap.size,0,none⟩)) fun _ _ h=>by cases h) (a2x.mono _ _ _ _ (a0O y2 fun k hk=>a0q hk) (a2x.mono _ _ _ _ (a1w E3 (Nat.le_refl _)) h5)));obtain⟨hD,hhD⟩:∃h,w5'.heap.size=h:=⟨_,rfl⟩;rw[hhD]at xD |-;clear y2 h5 hbB hB hT hr9 hm4 h4 hHeld hOnce hhD E3 hgB
 all_goals
  go_wp2_with fail
  have hEh:Ext w w11:=hEf.trans hE0b;refine(a7P w11).mono ?_;rintro ee w12 ⟨hE12,rfl⟩;have k2:=hE0b.trans hE12;have yA:=zA.ext0 k2;have yB:=zB.ext0 k2;have yC:=zC.ext0 k2;have yD:=xD.ext0 hE12;have p0:=yA.cell 0 rfl;have p1:=yA.cell 1 rfl;have p2:=yA.cell 2 rfl;have p3:=yA.cell 3 rfl;have p4:=yA.cell 4 rfl;have p5:=yA.cell 5 rfl;have r0:=yC.cell 0 rfl;have r1:=yC.cell 1 rfl;have r2:=yC.cell 2 rfl;have r3:=yC.cell 3 rfl;have r4:=yC.cell 4 rfl;have r5:=yC.cell 5 rfl;have g1:=hq0.out w12 _ _ (mkx a2x.mono hmA'.out k2) (mkx a2x.mono hmC'.out k2);go_wp2_with fail
  refine g1.mono ?_;rintro ee w13 ⟨hE13,rfl⟩;clear p0 p1 p2 p3 p4 p5 r0 r1 r2 r3 r4 r5 g1 hq0;have yB:=yB.ext0 hE13;have yD:=yD.ext0 hE13;have p0:=yB.cell 0 rfl;have p1:=yB.cell 1 rfl;have p2:=yB.cell 2 rfl;have p3:=yB.cell 3 rfl;have p4:=yB.cell 4 rfl;have p5:=yB.cell 5 rfl;have r0:=yD.cell 0 rfl;have r1:=yD.cell 1 rfl;have r2:=yD.cell 2 rfl;have r3:=yD.cell 3 rfl;have r4:=yD.cell 4 rfl;have r5:=yD.cell 5 rfl;have g1:=hq1.out w13 _ _ (mkx a2x.mono hmB'.out (k2.trans hE13)) (mkx a2x.mono hmD.out (hE12.trans hE13));go_wp2_with fail
  refine g1.mono ?_;rintro ee w14 ⟨hE14,rfl⟩;clear p0 p1 p2 p3 p4 p5 r0 r1 r2 r3 r4 r5 g1 hq1;go_wp2_with fail
  go_ret
  exact⟨hEh.trans (hE12.trans (hE13.trans hE14)),rfl⟩
end Go.Proofs.YtkddecjkfdogiaaGreat
