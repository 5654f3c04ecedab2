/- law 13: LeastsqIsEquivariant returns true. Conditions: none but Go's own. -/
import Derived.Test.YtkddecjkfdogiaaGreatLbM
namespace Go.Lin
open Go.Lim Go.Rep
def a4B (x:Mat) (y v:List Rat):List Rat:=List.zipWith (· + ·) (a2m x v) (y.map (· *1))
theorem a7K (x:Mat) (v:List Rat):(a2m x v).length=x.length:=by simp[a2m]
theorem a5L {x:Mat} {y v:List Rat} (h:y.length=x.length):(a4B x y v).length=x.length:=by simp[a4B,a7K,h]
theorem b3f {x:Mat} {y v:List Rat} {n c:Nat} (hs:Shp n c x) (hy:y.length=n) (i:Nat) (hi:i<n):fn (a4B x y v) i=app c (ent x) (fn v) i+fn y i:=by
 have h1:i<x.length:=by rw[hs.1];exact hi
 rw[a6S (by rw[a5L (by rw[hy,hs.1])];exact h1),a6S (by omega:i<y.length)];have e:(a4B x y v)[i]'(by rw[a5L (by rw[hy,hs.1])];exact h1)=a2l x[i] v+y[i]'(by omega)*1:=by simp[a4B,a2m]
 rw[e];have e2:a2l x[i] v=app c (ent x) (fn v) i:=by
  rw[a5E (n:=c) (hs.2 _ (List.getElem_mem h1)),a6G h1];rfl
 rw[e2];grind
theorem b3g {x:Mat} {y v:List Rat} {n c:Nat} (hs:Shp n c x) (hx:BM 2 x) (hy:BR 2 y) (hv:BR 2 v) (hc:c<=4):BR 40 (a4B x y v):=fun q hq'=>by
 obtain⟨i,hi,rfl⟩:=List.getElem_of_mem hq';unfold a4B at hi |-;rw[List.getElem_zipWith];have ha:i<(a2m x v).length:=by simp at hi |-;omega
 have h1:=b1v hs hx hv (by decide) (by decide) _ (List.getElem_mem ha);have h2:i<y.length:=by simp at hi;omega
 have h3:=hy _ (List.getElem_mem h2);have h4:=hq_mul y[i] 1;have h5:hq (1:Rat)<=2:=by decide+kernel
 have h6:1+c*(2+2+1)<=21:=by omega
 have:=a7f (a2m x v)[i] (y[i]*1);rw[List.getElem_map];omega
def a3I (y:List Rat) (a:Rat):List Rat:=y.map (· *a)
theorem a6e (y:List Rat) (a:Rat):(a3I y a).length=y.length:=by simp[a3I]
theorem a7L {y:List Rat} {a:Rat} (i:Nat) (hi:i<y.length):fn (a3I y a) i=fn y i*a:=by
 rw[a6S (by rw[a6e];exact hi),a6S hi];simp[a3I]
theorem b1G {y:List Rat} {a:Rat} (hy:BR 2 y) (ha:hq a<=2):BR 40 (a3I y a):=fun q hq'=>by
 obtain⟨x,hx,rfl⟩:=List.mem_map.1 hq';have:=hq_mul x a;have:=hy x hx;omega
theorem a5m {h:Mem} {fv:Value} {x:Mat} {y:List Rat} {n k:Nat} (hs:Shp n k x) (hy:y.length=n) (hf:b6D h fv (b3d x y n k)):
  ∃uo uc co cc ro rc s a nn c d k' e lo lc,fv= .agg #[.int .i64 ((a1a x k).2.length:Int), .slice uo k uc, .slice co k cc, .slice ro n rc, .bool s, .slice a nn c, .slice d k' e, .slice lo n lc]/\k<=uc/\Sl BlR 1 h uo (usedL (a1a x k).2 k)/\RC h (.slice co k cc) (a0G x y n k)/\RC h (.slice ro n rc) (a2k x y (a0G x y n k))/\QC h (.agg #[.bool s, .slice a nn c, .slice d k' e]) (a2l (a2k x y (a0G x y n k)) (a2k x y (a0G x y n k)))/\RC h (.slice lo n lc) (a5b (pkL x (a1a x k).2) n (a1a x k).2.length):=by
 obtain⟨uo,uc,co,cl,cc,ro',rl,rc,s,a,nn,c,d,k',e,lo,ll,lc,rfl,huc,hus,hco,hro,hrs,hlv⟩:=hf;have f2:(b3d x y n k).used=usedL (a1a x k).2 k:=rfl;rw[f2,a2Z]at huc;have hcl:(a0G x y n k).length=cl:=by obtain⟨_,_,h,_⟩:=hco;simp at h;exact h.2.1.symm
 have hrl:(a2k x y (a0G x y n k)).length=rl:=by obtain⟨_,_,h,_⟩:=hro;simp at h;exact h.2.1.symm
 have hll:(a5b (pkL x (a1a x k).2) n (a1a x k).2.length).length=ll:=by obtain⟨_,_,h,_⟩:=hlv;simp at h;exact h.2.1.symm
 rw[a1O]at hcl;rw[a2o (by rw[hy,hs.1]),hs.1]at hrl;rw[a4x,a6I,hs.1]at hll;subst hcl hrl hll;exact⟨uo,uc,co,cc,ro',rc,s,a,nn,c,d,k',e,lo,lc,by rw[f2,a2Z];rfl,huc,hus,hco,hro,hrs,hlv⟩
end Go.Lin
namespace Go.Proofs.YtkddecjkfdogiaaGreat
open Go.RowKit Go.Rep Go.Lim Go.Lin
set_option maxRecDepth 100000 in
set_option maxHeartbeats 3200000 in
theorem b3h (w:World) (N K:Int) (ones:Bool) (ro:Option Addr) (raw:List Int) (rcap:Nat) (ro2:Option Addr) (raw2:List Int) (rcap2:Nat) (bz:Int) (hs:Sl (a1y .i64) 1 (mk noY w) ro raw) (hraw:∀x∈raw,-9223372036854775808<=x/\x<=9223372036854775807) (hs2:Sl (a1y .i64) 1 (mk noY w) ro2 raw2) (hraw2:∀x∈raw2,-9223372036854775808<=x/\x<=9223372036854775807) (hb1: -9223372036854775808<=bz) (hb2:bz<=9223372036854775807):
  Calls Tryz.prog 9 #[.agg #[.int .i64 N, .int .i64 K, .bool ones, .slice ro raw.length rcap], .slice ro2 raw2.length rcap2, .int .i64 bz] w (a8V w true):=by
 have hnoX:∀v:World,HX noY v:=fun v=>HX.none v;have m1:=Int.emod_nonneg (wrap64 (N - 1)) (show(6:Int)≠0 by omega);have m2:=Int.emod_lt_of_pos (wrap64 (N - 1)) (show(0:Int)<6 by omega);have m3:=Int.emod_nonneg (wrap64 (K - 1)) (show(4:Int)≠0 by omega);have m4:=Int.emod_lt_of_pos (wrap64 (K - 1)) (show(0:Int)<4 by omega);obtain⟨n,hn⟩:=Int.eq_ofNat_of_zero_le (show 0<=1+wrap64 (N - 1)%6 by omega);obtain⟨k,hk⟩:=Int.eq_ofNat_of_zero_le (show 0<=1+wrap64 (K - 1)%4 by omega);have hn16:1<=n/\n<=6:=by omega
 have hk14:1<=k/\k<=4:=by omega
 obtain⟨hsh,hcol,hxB,hyB,hyl,hfo,hok⟩:=a7N ones n k raw hn16.1 (by omega) hk14.1 hk14.2;obtain⟨W,hW,hE,b0,hz⟩:=a1w w #[.int .i64 N, .int .i64 K, .bool ones, .slice ro raw.length rcap] 69;have hTab:Calls Tryz.prog 38 #[.agg #[.int .i64 N, .int .i64 K, .bool ones, .slice ro raw.length rcap], .int .i64 6, .int .i64 4] W (a9v noY W (a9u ones n k raw) (b0k ones n k raw)):=a7M noY W N K ones ro raw rcap 6 4 n k (hnoX W) (hs.mono (a1y.mono _) (a0o hE)) hraw (by decide) (by decide) (by decide) (by decide) hn hk;obtain⟨b,hb⟩:∃b,w.heap.size=b:=⟨_,rfl⟩;rw[hb]at b0 hz;obtain⟨x,hx⟩:∃x,a9u ones n k raw=x:=⟨_,rfl⟩;obtain⟨y,hy⟩:∃y,b0k ones n k raw=y:=⟨_,rfl⟩;rw[hx]at hsh hcol hxB hfo hok hTab;rw[hy]at hyB hyl hok hTab;have p0:=b0.cell 0 rfl;have p1:=b0.cell 1 rfl;have p2:=b0.cell 2 rfl;have p3:=b0.cell 3 rfl;have hn1:=hn16.1;have hn6:=hn16.2;have hk1:=hk14.1;have hk4:=hk14.2;have hxl:Hid (x.length=n):=hid hsh.1;have hxB':=hid (show BM 68719476736 x from fun r hr q hq=>Nat.le_trans (hxB r hr q hq) (by decide));have hyB':=hid (show BR 68719476736 y from fun q hq=>Nat.le_trans (hyB q hq) (by decide));have hyl':=hid hyl;have hfit:=hid fun w' u v (hu:MC (mk noY w') u x) (hv:RC (mk noY w') v y)=>a5H noY w' u v x y n k 2 (hnoX w') (hu.mv hxB'.out) (hv.rv hyB'.out) hok hsh.1 hcol (by omega) hk4 hxB hyB (by decide) (by decide);clear m1 m2 m3 m4 hn hk hx hy hn16 hk14 hs hraw;have hvec:=hid fun w' (h:Ext w w')=>b0e noY w' k ro2 raw2 rcap2 (hnoX w') (hs2.mono (a1y.mono _) (a0o h)) (by omega) hraw2;have hvl:=b3k k raw2;have hvB:=b5m k raw2;have hnum:=hid fun w'=>a4G noY w' bz (hnoX w') hb1 hb2;have hcB:=a8c bz;obtain⟨V,hV⟩:∃V,b3U k raw2=V:=⟨_,rfl⟩;rw[hV]at hvec hvl hvB;obtain⟨C,hC⟩:∃C,a9I bz=C:=⟨_,rfl⟩;rw[hC]at hnum hcB;clear hV hC hs2 hraw2 hb1 hb2;have hap:=hid fun w' u v (h1:MC (mk noY w') u x) (h2:RC (mk noY w') v V)=>b1K noY w' u v x V 2 (hnoX w') (h1.mv hxB'.out) (h2.rv fun q hq=>Nat.le_trans (hvB q hq) (by decide)) hfo (by rw[hvl,hcol]) hxB hvB (by decide) (by decide);have hal:(a2m x V).length=n:=by rw[a7K,hsh.1]
 have haB:BR 68719476736 (a2m x V):=fun q hq=>Nat.le_trans (b1v hsh hxB hvB (by decide) (by decide) q hq) (by omega);have hsum:=hid fun w' u v t (h1:RC (mk noY w') u (a2m x V)) (h2:RC (mk noY w') v y) (h3:QC (mk noY w') t 1)=>b3m noY w' u v t (a2m x V) y 1 10 (hnoX w') (h1.rv haB) (h2.rv hyB'.out) (h3.qv (by decide+kernel)) (by rw[hal,hyl]) (by omega) (fun q hq=>Nat.le_trans (hyB q hq) (by decide)) (Nat.le_trans b3T (by decide)) (by decide);have hti:=hid fun w' u v (h1:RC (mk noY w') u y) (h2:QC (mk noY w') v C)=>b1c noY w' u v y C (hnoX w') (h1.rv hyB'.out) (h2.qv (Nat.le_trans hcB (by decide))) (by omega);have hlen2:(a4B x y V).length=n:=by rw[a5L (by rw[hyl,hsh.1]),hsh.1]
 have hlen3:(a3I y C).length=n:=by rw[a6e,hyl]
 have hB2:=b3g hsh hxB hyB hvB hk4;have hB3:=b1G hyB hcB;have hokL:∀z:List Rat,z.length=n->a7Q x z=true:=fun z hz=>by
  obtain⟨hf,h1,h64,h12,_⟩:=a2g.1 hok;exact a2g.2 ⟨hf,h1,h64,h12,by rw[hz,hsh.1]⟩
 have hfit2:=hid fun w' u v (hu:MC (mk noY w') u x) (hv:RC (mk noY w') v (a4B x y V))=>a5H noY w' u v x (a4B x y V) n k 40 (hnoX w') (hu.mv hxB'.out) (hv.rv fun q hq=>Nat.le_trans (hB2 q hq) (by decide)) (hokL _ hlen2) hsh.1 hcol (by omega) hk4 (fun r hr q hq=>Nat.le_trans (hxB r hr q hq) (by decide)) hB2 (by decide) (by decide);have hfit3:=hid fun w' u v (hu:MC (mk noY w') u x) (hv:RC (mk noY w') v (a3I y C))=>a5H noY w' u v x (a3I y C) n k 40 (hnoX w') (hu.mv hxB'.out) (hv.rv fun q hq=>Nat.le_trans (hB3 q hq) (by decide)) (hokL _ hlen3) hsh.1 hcol (by omega) hk4 (fun r hr q hq=>Nat.le_trans (hxB r hr q hq) (by decide)) hB3 (by decide) (by decide);have e1:a2k x (a4B x y V) (a0G x (a4B x y V) n k)=a2k x y (a0G x y n k):=b2R hsh hyl hlen2 (b3f hsh hyl);have e2:a0G x (a3I y C) n k=(a0G x y n k).map (· *C):=a6c C hsh fun i hi=>a7L i (by omega);have e3:=b1p (y:=y) C hsh hyl hlen3 fun i hi=>a7L i (by omega);have bnd1:=b6r (u:=pkL x (a1a x k).2) (n:=n) (m:=(a1a x k).2.length) (B:=2) (b1j hsh _) (b3P hxB (by decide)) (by omega) (Nat.le_trans (b3M hsh) hk4) (by decide) (by decide);have bnd2:=a8l (y:=y) (n:=n) (c:=k) (a6C hxB (by decide)) hyB (by omega) hk4 (by decide);have bnd3:=a8m hsh hxB hyB bnd2 (by decide) hk4 (by decide);have bnd4:=b3O bnd3 (by rw[a2o (by rw[hyl,hsh.1]),hsh.1];omega);have hk0:=hsh.2 (x[0]'(Nat.lt_of_lt_of_le hn1 (Nat.le_of_eq hxl.out.symm))) (List.getElem_mem _);have hsh':=hid hsh;have hlen2':=hid hlen2;have hlen3':=hid hlen3;clear hok hfo hxB hyB hvB hal haB hB2 hB3 hokL hsh hlen2 hlen3 hcol;have hsh:=hsh';have hpy:Hid (a4B x y V=List.zipWith (· + ·) (a2m x V) (y.map (· *1))):=hid rfl;have hty:Hid (a3I y C=y.map (· *C)):=hid rfl;rw[<-hpy.out]at hsum;rw[<-hty.out]at hti;have e1':=hid e1;have e2':=hid e2;have e3':=hid e3;clear e1 e2 e3 hpy hty;obtain⟨Y2,hY2⟩:∃Y2,a4B x y V=Y2:=⟨_,rfl⟩;rw[hY2]at hsum hfit2 e1' hlen2';obtain⟨Y3,hY3⟩:∃Y3,a3I y C=Y3:=⟨_,rfl⟩;rw[hY3]at hti hfit3 e2' e3' hlen3';obtain⟨AV,hAV⟩:∃AV,a2m x V=AV:=⟨_,rfl⟩;rw[hAV]at hap hsum;clear hY2 hY3 hAV hsh';go_enter Tryz.func9,Tryz.ntmps9
 go_wp2_with fail
 refine hTab.mono ?_;rintro ee w1 ⟨hE1,xv,yv,rfl,hxv,hyv⟩;clear p0 p1 p2 p3 hTab;have hxv':=hid hxv;have hyv':=hid hyv;obtain⟨xo,xc,rfl,hxc,hxs⟩:=hxv;obtain⟨q1,q2,hX1,hc1,hcl1,hq1⟩:=hxs.row 0 (by rw[hxl.out];omega);rw[hk0]at hc1 hcl1;have hhx:Hd xo n:=by have:=hxs.hd;rw[hxl.out]at this;exact this
 rw[hxl.out]at hxv' hxc |-;clear hxs hq1 hk0;go_wp2_with fail
 refine(hnum.out w1).mono ?_;rintro ee w2 ⟨hE2,cu,rfl,hcu⟩;obtain⟨s0,a0,n0,c0,d0,k0,e0,rfl⟩:=hcu.shape;have bc:=Bx.new w2 #[.bool false, .slice none 0 0, .slice none 0 0] 32;go_wp2_with (first|((with_reducible show wpList _ _ _ (⟨_, .store 32 _ _,_,_,_,_⟩::_) _ _);refine a0c a0v rfl rfl bc rfl rfl (a3f _ _ _ _ _ _ _) ?_;intro w3 v1 v2;have hE3:Ext w2 w3:=ExtX.box ((ExtX.refl w2).alloc _) v2 (Nat.le_refl _);have k00:=hc1.out noY w3 (hE2.trans hE3) rfl)|(with_reducible refine a0t a0r (by omega) (by assumption) ?_))
 obtain⟨g,hg⟩:∃g,w2.heap.size=g:=⟨_,rfl⟩;rw[hg]at v1 v2 |-;refine(hvec.out w3 (hE.trans (hE1.trans (hE2.trans hE3)))).mono ?_;rintro ee w4 ⟨hE4,vv,rfl,hvv⟩;clear k00 hc1 v2 hg bc hvec hnum;go_wp2_with fail
 have hE24:=hE2.trans (hE3.trans hE4);refine(hap.out w4 _ vv (mkx MC.mono hxv'.out hE24) hvv).mono ?_;rintro ee w5 ⟨hE5,av,rfl,hav⟩;go_wp2_with fail
 have hE25:=hE24.trans hE5;refine(hfit.out w5 _ _ (mkx MC.mono hxv'.out hE25) (mkx RC.mono hyv'.out hE25)).mono ?_;rintro ee w6 ⟨hE6,fv,rfl,hfv⟩;have v6:=v1.ext0 (hE4.trans (hE5.trans hE6));have hcu6:=mkx QC.mono hcu (hE3.trans (hE4.trans (hE5.trans hE6)));clear v1 hcu hfit hap hvv;obtain⟨uo1,uc1,co1,cc1,ro1,rc1,s1,a1,nn1,c1,d1,k1,e1,lo1,lc1,rfl,huc1,hus1,hco1,hro1,hrs1,hlv1⟩:=a5m hsh.out hyl'.out hfv;have bf1:=Bx.new w6 #[.int .i64 0, .slice none 0 0, .slice none 0 0, .slice none 0 0, .bool false, .slice none 0 0, .slice none 0 0, .slice none 0 0] 63;go_wp2_with (first|((with_reducible show wpList _ _ _ (⟨_, .store 63 _ _,_,_,_,_⟩::_) _ _);refine a0c a7C rfl rfl bf1 rfl rfl (by intro v hv;simp at hv;rcases hv with rfl|rfl|rfl|rfl|rfl|rfl|rfl|rfl<;>rfl) ?_;intro w7 x1 y1;have F1:Ext w6 w7:=ExtX.box ((ExtX.refl w6).alloc _) y1 (Nat.le_refl _);skip)|fail)
 obtain⟨h1,hh1⟩:∃h,(w6).heap.size=h:=⟨_,rfl⟩;rw[hh1]at x1 |-;clear y1 bf1 hh1;refine(a4Y noY w7 1 (hnoX w7) (by decide) (by decide)).mono ?_;rintro ee w8 ⟨hE8,ou,rfl,hou⟩;have e11:((1:Int):Rat)=1:=by decide+kernel
 rw[e11]at hou;clear e11;go_wp2_with fail
 have hE58:=hE6.trans (F1.trans hE8);refine(hsum.out w8 av _ ou (mkx RC.mono hav hE58) (mkx RC.mono hyv'.out (hE25.trans hE58)) hou).mono ?_;rintro ee w9 ⟨hE9,zv,rfl,hzv⟩;go_wp2_with fail
 have hE29:=hE25.trans (hE58.trans hE9);refine(hfit2.out w9 _ zv (mkx MC.mono hxv'.out hE29) hzv).mono ?_;rintro ee w10 ⟨hE10,fv2,rfl,hfv2⟩;have hE7a:=hE8.trans (hE9.trans hE10);have X1a:=x1.ext0 hE7a;have v10:=v6.ext0 (F1.trans hE7a);clear x1 hav hou hzv hsum hfit2;obtain⟨uo2,uc2,co2,cc2,ro2,rc2,s2,a2,nn2,c2,d2,k2,e2,lo2,lc2,rfl,huc2,hus2,hco2,hro2,hrs2,hlv2⟩:=a5m hsh.out hlen2'.out hfv2;have bf2:=Bx.new w10 #[.int .i64 0, .slice none 0 0, .slice none 0 0, .slice none 0 0, .bool false, .slice none 0 0, .slice none 0 0, .slice none 0 0] 63;go_wp2_with (first|((with_reducible show wpList _ _ _ (⟨_, .store 63 _ _,_,_,_,_⟩::_) _ _);refine a0c a7C rfl rfl bf2 rfl rfl (by intro v hv;simp at hv;rcases hv with rfl|rfl|rfl|rfl|rfl|rfl|rfl|rfl<;>rfl) ?_;intro w11 x2 y2;have F2:Ext w10 w11:=ExtX.box ((ExtX.refl w10).alloc _) y2 (Nat.le_refl _);have v11:=v10.ext0 F2;have p0:=v11.cell 0 rfl;have p1:=v11.cell 1 rfl;have p2:=v11.cell 2 rfl)|fail)
 obtain⟨h2,hh2⟩:∃h,(w10).heap.size=h:=⟨_,rfl⟩;rw[hh2]at x2 |-;clear y2 bf2 hh2;have hE7b:=hE7a.trans F2;have hE6b:=F1.trans hE7b;have hE2b:=hE25.trans (hE6.trans hE6b);have hcub:=mkx QC.mono hcu6 hE6b;refine(hti.out w11 _ _ (mkx RC.mono hyv'.out hE2b) hcub).mono ?_;rintro ee w12 ⟨hE12,zv,rfl,hzv⟩;clear p0 p1 p2;go_wp2_with fail
 have hE2c:=hE2b.trans hE12;refine(hfit3.out w12 _ zv (mkx MC.mono hxv'.out hE2c) hzv).mono ?_;rintro ee w13 ⟨hE13,fv3,rfl,hfv3⟩;have hEbd:=hE12.trans hE13;have X1b:=X1a.ext0 (F2.trans hEbd);have X2b:=x2.ext0 hEbd;have v13:=v11.ext0 hEbd;clear x2 X1a v10 v11 v6 hzv hti hfit3;obtain⟨uo3,uc3,co3,cc3,ro3,rc3,s3,a3,nn3,c3,d3,k3,e3,lo3,lc3,rfl,huc3,hus3,hco3,hro3,hrs3,hlv3⟩:=a5m hsh.out hlen3'.out hfv3;have bf3:=Bx.new w13 #[.int .i64 0, .slice none 0 0, .slice none 0 0, .slice none 0 0, .bool false, .slice none 0 0, .slice none 0 0, .slice none 0 0] 63;go_wp2_with (first|((with_reducible show wpList _ _ _ (⟨_, .store 63 _ _,_,_,_,_⟩::_) _ _);refine a0c a7C rfl rfl bf3 rfl rfl (by intro v hv;simp at hv;rcases hv with rfl|rfl|rfl|rfl|rfl|rfl|rfl|rfl<;>rfl) ?_;intro w14 x3 y3;have F3:Ext w13 w14:=ExtX.box ((ExtX.refl w13).alloc _) y3 (Nat.le_refl _);skip)|fail)
 obtain⟨h3,hh3⟩:∃h,(w13).heap.size=h:=⟨_,rfl⟩;rw[hh3]at x3 |-;clear y3 bf3 hh3;have hEbe:=hEbd.trans F3;have hEae:=F2.trans hEbe;have hE6e:=hE6b.trans hEbe;have hEw:Ext w w14:=hE.trans (hE1.trans ((hE2b.trans hEbe)));have hEd:Ext w14 w14.drew:=(ExtX.refl w14).drew;have Z1:=X1b.ext0 F3;have Z2:=X2b.ext0 F3;have Z0:=v13.ext0 F3;rw[e1'.out]at hro2 hrs2;rw[e2'.out]at hco3;have hrs3':=e3'.out;rw[hrs3']at hrs3;have A1:=mkx RC.mono hro1 (hE6e.trans hEd);have A2:=mkx QC.mono hrs1 (hE6e.trans hEd);have A3:=mkx RC.mono hlv1 (hE6e.trans hEd);have A4:=mkx RC.mono hco1 (hE6e.trans hEd);have B1:=mkx RC.mono hro2 (hEae.trans hEd);have B2:=mkx QC.mono hrs2 (hEae.trans hEd);have B3:=mkx RC.mono hlv2 (hEae.trans hEd);have C1:=mkx RC.mono hco3 (F3.trans hEd);have C2:=mkx QC.mono hrs3 (F3.trans hEd);have G1:=mkx QC.mono hcub (hEbe.trans hEd);have hRl:(a2k x y (a0G x y n k)).length=n:=by rw[a2o (by rw[hyl'.out,hsh.out.1]),hsh.out.1]
 have hLl:(a5b (pkL x (a1a x k).2) n (a1a x k).2.length).length=n:=by rw[a4x,a6I,hsh.out.1]
 have hCl:=a1O x y n k;obtain⟨L,hL⟩:∃L,a5b (pkL x (a1a x k).2) n (a1a x k).2.length=L:=⟨_,rfl⟩;rw[hL]at A3 B3 bnd1 hLl;obtain⟨pl,hpl⟩:∃pl,(a1a x k).2.length=pl:=⟨_,rfl⟩;rw[hpl];obtain⟨Cf,hCf⟩:∃Cf,a0G x y n k=Cf:=⟨_,rfl⟩;rw[hCf]at A1 A2 A4 B1 B2 C1 C2 bnd2 bnd3 bnd4 hRl hCl;obtain⟨R,hR⟩:∃R,a2k x y Cf=R:=⟨_,rfl⟩;rw[hR]at A1 A2 B1 B2 C2 bnd3 bnd4 hRl;obtain⟨D,hD⟩:∃D,a2l R R=D:=⟨_,rfl⟩;rw[hD]at A2 B2 C2 bnd4;have hC3:BR 68719476736 (Cf.map (· *C)):=fun q hq'=>by
  obtain⟨z,hz,rfl⟩:=List.mem_map.1 hq';have:=hq_mul z C;have:=bnd2 z hz;omega
 have hCC:=hq_mul C C;have hCD:=hq_mul (C*C) D;obtain⟨W0,hW0⟩:∃W0,w14.drew=W0:=⟨_,rfl⟩;have q1:=hid fun w' (h:Ext W0 w')=>a1Z noY w' _ _ R R (mkx RC.mono (hW0▸A1) h) (mkx RC.mono (hW0▸B1) h) (fun q hq=>Nat.le_trans (bnd3 q hq) (by decide)) (by omega);have q2:=hid fun w' (h:Ext W0 w')=>a5I noY w' _ _ D D (mkx QC.mono (hW0▸A2) h) (mkx QC.mono (hW0▸B2) h) (by omega);have q3:=hid fun w' (h:Ext W0 w')=>a1Z noY w' _ _ L L (mkx RC.mono (hW0▸A3) h) (mkx RC.mono (hW0▸B3) h) (fun q hq=>Nat.le_trans (bnd1 q hq) (by decide)) (by omega);have q4:=hid fun w' (h:Ext W0 w')=>b1c noY w' _ _ Cf C (hnoX w') ((mkx RC.mono (hW0▸A4) h).rv fun q hq=>Nat.le_trans (bnd2 q hq) (by decide)) ((mkx QC.mono (hW0▸G1) h).qv (by omega)) (by omega);have q5:=hid fun w' v (h:Ext W0 w') (h2:RC (mk noY w') v (Cf.map (· *C)))=>a1Z noY w' _ v _ _ (mkx RC.mono (hW0▸C1) h) h2 hC3 (by rw[List.length_map];omega);have q6:=hid fun w' (h:Ext W0 w')=>b2C noY w' _ _ C C (hnoX w') ((mkx QC.mono (hW0▸G1) h).qv (by omega)) ((mkx QC.mono (hW0▸G1) h).qv (by omega));have q7:=hid fun w' u (h:Ext W0 w') (h2:QC (mk noY w') u (C*C))=>b2C noY w' u _ (C*C) D (hnoX w') (h2.qv (by omega)) ((mkx QC.mono (hW0▸A2) h).qv (by omega));have q8:=hid fun w' u (h:Ext W0 w') (h2:QC (mk noY w') u (C*C*D))=>a5I noY w' _ u _ _ (mkx QC.mono (hW0▸C2) h) h2 (by omega);simp only[decide_true]at q1 q2 q3 q5 q8;have hS:Hid (∀w',Ext w14.drew w'->(w'.cell? ⟨h1,2,none⟩=some (.slice co1 k cc1)/\w'.cell? ⟨h1,3,none⟩=some (.slice ro1 n rc1)/\w'.cell? ⟨h1,4,none⟩=some (.bool s1)/\w'.cell? ⟨h1,4+1,none⟩=some (.slice a1 nn1 c1)/\w'.cell? ⟨h1,4+2,none⟩=some (.slice d1 k1 e1)/\w'.cell? ⟨h1,7,none⟩=some (.slice lo1 n lc1))/\(w'.cell? ⟨h2,3,none⟩=some (.slice ro2 n rc2)/\w'.cell? ⟨h2,4,none⟩=some (.bool s2)/\w'.cell? ⟨h2,4+1,none⟩=some (.slice a2 nn2 c2)/\w'.cell? ⟨h2,4+2,none⟩=some (.slice d2 k2 e2)/\w'.cell? ⟨h2,7,none⟩=some (.slice lo2 n lc2))/\(w'.cell? ⟨h3,2,none⟩=some (.slice co3 k cc3)/\w'.cell? ⟨h3,4,none⟩=some (.bool s3)/\w'.cell? ⟨h3,4+1,none⟩=some (.slice a3 nn3 c3)/\w'.cell? ⟨h3,4+2,none⟩=some (.slice d3 k3 e3))/\(w'.cell? ⟨g,0,none⟩=some (.bool s0)/\w'.cell? ⟨g,0+1,none⟩=some (.slice a0 n0 c0)/\w'.cell? ⟨g,0+2,none⟩=some (.slice d0 k0 e0))):=hid fun w' hw=>by
  have z1:=Z1.ext0 (hEd.trans hw);have z2:=Z2.ext0 (hEd.trans hw);have z3:=x3.ext0 (hEd.trans hw);have z0:=Z0.ext0 (hEd.trans hw);exact⟨⟨z1.cell 2 rfl,z1.cell 3 rfl,z1.cell 4 rfl,z1.cell 5 rfl,z1.cell 6 rfl,z1.cell 7 rfl⟩,⟨z2.cell 3 rfl,z2.cell 4 rfl,z2.cell 5 rfl,z2.cell 6 rfl,z2.cell 7 rfl⟩,⟨z3.cell 2 rfl,z3.cell 4 rfl,z3.cell 5 rfl,z3.cell 6 rfl⟩,⟨z0.cell 0 rfl,z0.cell 1 rfl,z0.cell 2 rfl⟩⟩
 have hEf:=hEw.trans hEd;clear hpl A1 A2 A3 A4 B1 B2 B3 C1 C2 G1 hD hR hCf hL hC3 hCC hCD bnd1 bnd2 bnd3 bnd4 hRl hLl hCl Z1 Z2 Z0 x3 X1b X2b v13 hus1 hus2 hus3 hco1 hro1 hrs1 hlv1 hco2 hro2 hrs2 hlv2 hco3 hro3 hrs3 hlv3 hrs3'
 (try simp only[Act.put])
 refine a0O 54 (fun w'=>(w'.cell? ⟨h1,2,none⟩=some (.slice co1 k cc1)/\w'.cell? ⟨h1,3,none⟩=some (.slice ro1 n rc1)/\w'.cell? ⟨h1,4,none⟩=some (.bool s1)/\w'.cell? ⟨h1,4+1,none⟩=some (.slice a1 nn1 c1)/\w'.cell? ⟨h1,4+2,none⟩=some (.slice d1 k1 e1)/\w'.cell? ⟨h1,7,none⟩=some (.slice lo1 n lc1))/\(w'.cell? ⟨h2,3,none⟩=some (.slice ro2 n rc2)/\w'.cell? ⟨h2,4,none⟩=some (.bool s2)/\w'.cell? ⟨h2,4+1,none⟩=some (.slice a2 nn2 c2)/\w'.cell? ⟨h2,4+2,none⟩=some (.slice d2 k2 e2)/\w'.cell? ⟨h2,7,none⟩=some (.slice lo2 n lc2))/\(w'.cell? ⟨h3,2,none⟩=some (.slice co3 k cc3)/\w'.cell? ⟨h3,4,none⟩=some (.bool s3)/\w'.cell? ⟨h3,4+1,none⟩=some (.slice a3 nn3 c3)/\w'.cell? ⟨h3,4+2,none⟩=some (.slice d3 k3 e3))/\(w'.cell? ⟨g,0,none⟩=some (.bool s0)/\w'.cell? ⟨g,0+1,none⟩=some (.slice a0 n0 c0)/\w'.cell? ⟨g,0+2,none⟩=some (.slice d0 k0 e0))) (by kernel_rfl) (by kernel_rfl) (hS.out _ (ExtX.refl _)) (fun hHeld hOnce=>?_);rw[hW0]at hS hEf |-
 (try rw[hW0]at hHeld)
 clear hW0 hEd;refine a0e (i:=0) (o:=⟨_,_,_,_,_,_⟩) (by kernel_rfl) rfl (fun K hK=>?_);go_simp
 (go_at_call 44;(with_reducible refine(a5J W0).mono ?_);rintro ee wa ⟨ga,rfl⟩)
 refine hK.out _ _ (hS.out _ ga) (fun hHeld=>?_);clear hK K
 (try simp only[Act.put,List.setIfInBounds_toArray,List.set_cons_zero,List.set_cons_succ])
 refine a0a hOnce (i:=1) (oi:=⟨_,_,_,_,_,_⟩) (v:=?_) rfl (by kernel_rfl) (fun _ _ _ h=>h) (by assumption) (by rfl) (fun w hSw=>?_) ?_
 rotate_left
 ·(try dsimp only at hSw)
  go_simp
  all_goals with_reducible rfl
 (try simp only[Act.put,List.setIfInBounds_toArray,List.set_cons_zero,List.set_cons_succ])
 refine a0a hOnce (i:=2) (oi:=⟨_,_,_,_,_,_⟩) (v:=?_) rfl (by kernel_rfl) (fun _ _ _ h=>h) (by assumption) (by rfl) (fun w hSw=>?_) ?_
 rotate_left
 ·(try dsimp only at hSw)
  go_simp
  all_goals with_reducible rfl
 (try simp only[Act.put,List.setIfInBounds_toArray,List.set_cons_zero,List.set_cons_succ])
 refine a0a hOnce (i:=3) (oi:=⟨_,_,_,_,_,_⟩) (v:=?_) rfl (by kernel_rfl) (fun _ _ _ h=>h) (by assumption) (by rfl) (fun w hSw=>?_) ?_
 rotate_left
 ·(try dsimp only at hSw)
  go_simp
  all_goals with_reducible rfl
 (try simp only[Act.put,List.setIfInBounds_toArray,List.set_cons_zero,List.set_cons_succ])
 refine a0a hOnce (i:=4) (oi:=⟨_,_,_,_,_,_⟩) (v:=?_) rfl (by kernel_rfl) (fun _ _ _ h=>h) (by assumption) (by rfl) (fun w hSw=>?_) ?_
 rotate_left
 ·(try dsimp only at hSw)
  go_simp
  all_goals with_reducible rfl
 (try simp only[Act.put,List.setIfInBounds_toArray,List.set_cons_zero,List.set_cons_succ])
 refine a0a hOnce (i:=5) (oi:=⟨_,_,_,_,_,_⟩) (v:=?_) rfl (by kernel_rfl) (fun _ _ _ h=>h) (by assumption) (by rfl) (fun w hSw=>?_) ?_
 rotate_left
 ·(try dsimp only at hSw)
  go_simp
  all_goals with_reducible rfl
 (try simp only[Act.put,List.setIfInBounds_toArray,List.set_cons_zero,List.set_cons_succ])
 refine a0a hOnce (i:=6) (oi:=⟨_,_,_,_,_,_⟩) (v:=?_) rfl (by kernel_rfl) (fun _ _ _ h=>h) (by assumption) (by rfl) (fun w hSw=>?_) ?_
 rotate_left
 ·(try dsimp only at hSw)
  go_simp
  all_goals with_reducible rfl
 (try simp only[Act.put,List.setIfInBounds_toArray,List.set_cons_zero,List.set_cons_succ])
 refine a0a hOnce (i:=7) (oi:=⟨_,_,_,_,_,_⟩) (v:=?_) rfl (by kernel_rfl) (fun _ _ _ h=>h) (by assumption) (by rfl) (fun w hSw=>?_) ?_
 rotate_left
 ·(try dsimp only at hSw)
  go_simp
  all_goals with_reducible rfl
 (try simp only[Act.put,List.setIfInBounds_toArray,List.set_cons_zero,List.set_cons_succ])
 refine a0a hOnce (i:=8) (oi:=⟨_,_,_,_,_,_⟩) (v:=?_) rfl (by kernel_rfl) (fun _ _ _ h=>h) (by assumption) (by rfl) (fun w hSw=>?_) ?_
 rotate_left
 ·(try dsimp only at hSw)
  go_simp
  all_goals with_reducible rfl
 (try simp only[Act.put,List.setIfInBounds_toArray,List.set_cons_zero,List.set_cons_succ])
 refine a0a hOnce (i:=9) (oi:=⟨_,_,_,_,_,_⟩) (v:=?_) rfl (by kernel_rfl) (fun _ _ _ h=>h) (by assumption) (by rfl) (fun w hSw=>?_) ?_
 rotate_left
 ·(try dsimp only at hSw)
  go_simp
  all_goals with_reducible rfl
 (try simp only[Act.put,List.setIfInBounds_toArray,List.set_cons_zero,List.set_cons_succ])
 refine a0a hOnce (i:=10) (oi:=⟨_,_,_,_,_,_⟩) (v:=?_) rfl (by kernel_rfl) (fun _ _ _ h=>h) (by assumption) (by rfl) (fun w hSw=>?_) ?_
 rotate_left
 ·(try dsimp only at hSw)
  go_simp
  all_goals with_reducible rfl
 (try simp only[Act.put,List.setIfInBounds_toArray,List.set_cons_zero,List.set_cons_succ])
 refine a0a hOnce (i:=11) (oi:=⟨_,_,_,_,_,_⟩) (v:=?_) rfl (by kernel_rfl) (fun _ _ _ h=>h) (by assumption) (by rfl) (fun w hSw=>?_) ?_
 rotate_left
 ·(try dsimp only at hSw)
  go_simp
  all_goals with_reducible rfl
 (try simp only[Act.put,List.setIfInBounds_toArray,List.set_cons_zero,List.set_cons_succ])
 refine a0a hOnce (i:=12) (oi:=⟨_,_,_,_,_,_⟩) (v:=?_) rfl (by kernel_rfl) (fun _ _ _ h=>h) (by assumption) (by rfl) (fun w hSw=>?_) ?_
 rotate_left
 ·(try dsimp only at hSw)
  go_simp
  all_goals with_reducible rfl
 (try simp only[Act.put,List.setIfInBounds_toArray,List.set_cons_zero,List.set_cons_succ])
 refine a0a hOnce (i:=13) (oi:=⟨_,_,_,_,_,_⟩) (v:=?_) rfl (by kernel_rfl) (fun _ _ _ h=>h) (by assumption) (by rfl) (fun w hSw=>?_) ?_
 rotate_left
 ·(try dsimp only at hSw)
  go_simp
  all_goals with_reducible rfl
 (try simp only[Act.put,List.setIfInBounds_toArray,List.set_cons_zero,List.set_cons_succ])
 refine a0a hOnce (i:=14) (oi:=⟨_,_,_,_,_,_⟩) (v:=?_) rfl (by kernel_rfl) (fun _ _ _ h=>h) (by assumption) (by rfl) (fun w hSw=>?_) ?_
 rotate_left
 ·(try dsimp only at hSw)
  go_simp
  all_goals with_reducible rfl
 (try simp only[Act.put,List.setIfInBounds_toArray,List.set_cons_zero,List.set_cons_succ])
 refine a0a hOnce (i:=15) (oi:=⟨_,_,_,_,_,_⟩) (v:=?_) rfl (by kernel_rfl) (fun _ _ _ h=>h) (by assumption) (by rfl) (fun w hSw=>?_) ?_
 rotate_left
 ·(try dsimp only at hSw)
  go_simp
  all_goals with_reducible rfl
 (try simp only[Act.put,List.setIfInBounds_toArray,List.set_cons_zero,List.set_cons_succ])
 refine a0a hOnce (i:=16) (oi:=⟨_,_,_,_,_,_⟩) (v:=?_) rfl (by kernel_rfl) (fun _ _ _ h=>h) (by assumption) (by rfl) (fun w hSw=>?_) ?_
 rotate_left
 ·(try dsimp only at hSw)
  go_simp
  all_goals with_reducible rfl
 (try simp only[Act.put,List.setIfInBounds_toArray,List.set_cons_zero,List.set_cons_succ])
 refine a0a hOnce (i:=17) (oi:=⟨_,_,_,_,_,_⟩) (v:=?_) rfl (by kernel_rfl) (fun _ _ _ h=>h) (by assumption) (by rfl) (fun w hSw=>?_) ?_
 rotate_left
 ·(try dsimp only at hSw)
  go_simp
  all_goals with_reducible rfl
 (try simp only[Act.put,List.setIfInBounds_toArray,List.set_cons_zero,List.set_cons_succ])
 refine a0e (i:=18) (o:=⟨_,_,_,_,_,_⟩) (by kernel_rfl) rfl (fun K hK=>?_);go_simp
 ((with_reducible refine(q1.out wa ga).mono ?_);rintro ee wb ⟨gb,rfl⟩)
 refine hK.out _ _ (hS.out _ (ga.trans gb)) (fun hHeld=>?_);clear hK K
 (try simp only[Act.put,List.setIfInBounds_toArray,List.set_cons_zero,List.set_cons_succ])
 have gab:=ga.trans gb;refine a0a hOnce (i:=19) (oi:=⟨_,_,_,_,_,_⟩) (v:=?_) rfl (by kernel_rfl) (fun _ _ _ h=>h) (by assumption) (by rfl) (fun w hSw=>?_) ?_
 rotate_left
 ·(try dsimp only at hSw)
  go_simp
  all_goals with_reducible rfl
 (try simp only[Act.put,List.setIfInBounds_toArray,List.set_cons_zero,List.set_cons_succ])
 refine a0a hOnce (i:=20) (oi:=⟨_,_,_,_,_,_⟩) (v:=?_) rfl (by kernel_rfl) (fun _ _ _ h=>h) (by assumption) (by rfl) (fun w hSw=>?_) ?_
 rotate_left
 ·(try dsimp only at hSw)
  go_simp
  all_goals with_reducible rfl
 (try simp only[Act.put,List.setIfInBounds_toArray,List.set_cons_zero,List.set_cons_succ])
 refine a0a hOnce (i:=21) (oi:=⟨_,_,_,_,_,_⟩) (v:=?_) rfl (by kernel_rfl) (fun _ _ _ h=>h) (by assumption) (by rfl) (fun w hSw=>?_) ?_
 rotate_left
 ·(try dsimp only at hSw)
  go_simp
  all_goals with_reducible rfl
 (try simp only[Act.put,List.setIfInBounds_toArray,List.set_cons_zero,List.set_cons_succ])
 refine a0a hOnce (i:=22) (oi:=⟨_,_,_,_,_,_⟩) (v:=?_) rfl (by kernel_rfl) (fun _ _ _ h=>h) (by assumption) (by rfl) (fun w hSw=>?_) ?_
 rotate_left
 ·(try dsimp only at hSw)
  go_simp
  all_goals with_reducible rfl
 (try simp only[Act.put,List.setIfInBounds_toArray,List.set_cons_zero,List.set_cons_succ])
 refine a0a hOnce (i:=23) (oi:=⟨_,_,_,_,_,_⟩) (v:=?_) rfl (by kernel_rfl) (fun _ _ _ h=>h) (by assumption) (by rfl) (fun w hSw=>?_) ?_
 rotate_left
 ·(try dsimp only at hSw)
  go_simp
  all_goals with_reducible rfl
 (try simp only[Act.put,List.setIfInBounds_toArray,List.set_cons_zero,List.set_cons_succ])
 refine a0a hOnce (i:=24) (oi:=⟨_,_,_,_,_,_⟩) (v:=?_) rfl (by kernel_rfl) (fun _ _ _ h=>h) (by assumption) (by rfl) (fun w hSw=>?_) ?_
 rotate_left
 ·(try dsimp only at hSw)
  go_simp
  all_goals with_reducible rfl
 (try simp only[Act.put,List.setIfInBounds_toArray,List.set_cons_zero,List.set_cons_succ])
 refine a0e (i:=25) (o:=⟨_,_,_,_,_,_⟩) (by kernel_rfl) rfl (fun K hK=>?_);go_simp
 ((with_reducible refine(q2.out wb gab).mono ?_);rintro ee wc ⟨gc,rfl⟩)
 refine hK.out _ _ (hS.out _ (gab.trans gc)) (fun hHeld=>?_);clear hK K
 (try simp only[Act.put,List.setIfInBounds_toArray,List.set_cons_zero,List.set_cons_succ])
 have gac:=gab.trans gc;refine a0a hOnce (i:=26) (oi:=⟨_,_,_,_,_,_⟩) (v:=?_) rfl (by kernel_rfl) (fun _ _ _ h=>h) (by assumption) (by rfl) (fun w hSw=>?_) ?_
 rotate_left
 ·(try dsimp only at hSw)
  go_simp
  all_goals with_reducible rfl
 (try simp only[Act.put,List.setIfInBounds_toArray,List.set_cons_zero,List.set_cons_succ])
 refine a0a hOnce (i:=27) (oi:=⟨_,_,_,_,_,_⟩) (v:=?_) rfl (by kernel_rfl) (fun _ _ _ h=>h) (by assumption) (by rfl) (fun w hSw=>?_) ?_
 rotate_left
 ·(try dsimp only at hSw)
  go_simp
  all_goals with_reducible rfl
 (try simp only[Act.put,List.setIfInBounds_toArray,List.set_cons_zero,List.set_cons_succ])
 refine a0a hOnce (i:=28) (oi:=⟨_,_,_,_,_,_⟩) (v:=?_) rfl (by kernel_rfl) (fun _ _ _ h=>h) (by assumption) (by rfl) (fun w hSw=>?_) ?_
 rotate_left
 ·(try dsimp only at hSw)
  go_simp
  all_goals with_reducible rfl
 (try simp only[Act.put,List.setIfInBounds_toArray,List.set_cons_zero,List.set_cons_succ])
 refine a0a hOnce (i:=29) (oi:=⟨_,_,_,_,_,_⟩) (v:=?_) rfl (by kernel_rfl) (fun _ _ _ h=>h) (by assumption) (by rfl) (fun w hSw=>?_) ?_
 rotate_left
 ·(try dsimp only at hSw)
  go_simp
  all_goals with_reducible rfl
 (try simp only[Act.put,List.setIfInBounds_toArray,List.set_cons_zero,List.set_cons_succ])
 refine a0a hOnce (i:=30) (oi:=⟨_,_,_,_,_,_⟩) (v:=?_) rfl (by kernel_rfl) (fun _ _ _ h=>h) (by assumption) (by rfl) (fun w hSw=>?_) ?_
 rotate_left
 ·(try dsimp only at hSw)
  go_simp
  all_goals with_reducible rfl
 (try simp only[Act.put,List.setIfInBounds_toArray,List.set_cons_zero,List.set_cons_succ])
 refine a0a hOnce (i:=31) (oi:=⟨_,_,_,_,_,_⟩) (v:=?_) rfl (by kernel_rfl) (fun _ _ _ h=>h) (by assumption) (by rfl) (fun w hSw=>?_) ?_
 rotate_left
 ·(try dsimp only at hSw)
  go_simp
  all_goals with_reducible rfl
 (try simp only[Act.put,List.setIfInBounds_toArray,List.set_cons_zero,List.set_cons_succ])
 refine a0e (i:=32) (o:=⟨_,_,_,_,_,_⟩) (by kernel_rfl) rfl (fun K hK=>?_);go_simp
 ((with_reducible refine(q3.out wc gac).mono ?_);rintro ee wd ⟨gd,rfl⟩)
 refine hK.out _ _ (hS.out _ (gac.trans gd)) (fun hHeld=>?_);clear hK K
 (try simp only[Act.put,List.setIfInBounds_toArray,List.set_cons_zero,List.set_cons_succ])
 have gad:=gac.trans gd;refine a0a hOnce (i:=33) (oi:=⟨_,_,_,_,_,_⟩) (v:=?_) rfl (by kernel_rfl) (fun _ _ _ h=>h) (by assumption) (by rfl) (fun w hSw=>?_) ?_
 rotate_left
 ·(try dsimp only at hSw)
  go_simp
  all_goals with_reducible rfl
 (try simp only[Act.put,List.setIfInBounds_toArray,List.set_cons_zero,List.set_cons_succ])
 refine a0a hOnce (i:=34) (oi:=⟨_,_,_,_,_,_⟩) (v:=?_) rfl (by kernel_rfl) (fun _ _ _ h=>h) (by assumption) (by rfl) (fun w hSw=>?_) ?_
 rotate_left
 ·(try dsimp only at hSw)
  go_simp
  all_goals with_reducible rfl
 (try simp only[Act.put,List.setIfInBounds_toArray,List.set_cons_zero,List.set_cons_succ])
 refine a0a hOnce (i:=35) (oi:=⟨_,_,_,_,_,_⟩) (v:=?_) rfl (by kernel_rfl) (fun _ _ _ h=>h) (by assumption) (by rfl) (fun w hSw=>?_) ?_
 rotate_left
 ·(try dsimp only at hSw)
  go_simp
  all_goals with_reducible rfl
 (try simp only[Act.put,List.setIfInBounds_toArray,List.set_cons_zero,List.set_cons_succ])
 refine a0a hOnce (i:=36) (oi:=⟨_,_,_,_,_,_⟩) (v:=?_) rfl (by kernel_rfl) (fun _ _ _ h=>h) (by assumption) (by rfl) (fun w hSw=>?_) ?_
 rotate_left
 ·(try dsimp only at hSw)
  go_simp
  all_goals with_reducible rfl
 (try simp only[Act.put,List.setIfInBounds_toArray,List.set_cons_zero,List.set_cons_succ])
 refine a0a hOnce (i:=37) (oi:=⟨_,_,_,_,_,_⟩) (v:=?_) rfl (by kernel_rfl) (fun _ _ _ h=>h) (by assumption) (by rfl) (fun w hSw=>?_) ?_
 rotate_left
 ·(try dsimp only at hSw)
  go_simp
  all_goals with_reducible rfl
 (try simp only[Act.put,List.setIfInBounds_toArray,List.set_cons_zero,List.set_cons_succ])
 refine a0a hOnce (i:=38) (oi:=⟨_,_,_,_,_,_⟩) (v:=?_) rfl (by kernel_rfl) (fun _ _ _ h=>h) (by assumption) (by rfl) (fun w hSw=>?_) ?_
 rotate_left
 ·(try dsimp only at hSw)
  go_simp
  all_goals with_reducible rfl
 (try simp only[Act.put,List.setIfInBounds_toArray,List.set_cons_zero,List.set_cons_succ])
 refine a0a hOnce (i:=39) (oi:=⟨_,_,_,_,_,_⟩) (v:=?_) rfl (by kernel_rfl) (fun _ _ _ h=>h) (by assumption) (by rfl) (fun w hSw=>?_) ?_
 rotate_left
 ·(try dsimp only at hSw)
  go_simp
  all_goals with_reducible rfl
 (try simp only[Act.put,List.setIfInBounds_toArray,List.set_cons_zero,List.set_cons_succ])
 refine a0e (i:=40) (o:=⟨_,_,_,_,_,_⟩) (by kernel_rfl) rfl (fun K hK=>?_);go_simp
 ((with_reducible refine(q4.out wd gad).mono ?_);rintro ee we ⟨ge,t1,rfl,ht1⟩)
 refine hK.out _ _ (hS.out _ (gad.trans ge)) (fun hHeld=>?_);clear hK K
 (try simp only[Act.put,List.setIfInBounds_toArray,List.set_cons_zero,List.set_cons_succ])
 have gae:=gad.trans ge;refine a0e (i:=41) (o:=⟨_,_,_,_,_,_⟩) (by kernel_rfl) rfl (fun K hK=>?_);go_simp
 ((with_reducible refine(q5.out we t1 gae ht1).mono ?_);rintro ee wf ⟨gf,rfl⟩)
 refine hK.out _ _ (hS.out _ (gae.trans gf)) (fun hHeld=>?_);clear hK K
 (try simp only[Act.put,List.setIfInBounds_toArray,List.set_cons_zero,List.set_cons_succ])
 have gaf:=gae.trans gf;refine a0a hOnce (i:=42) (oi:=⟨_,_,_,_,_,_⟩) (v:=?_) rfl (by kernel_rfl) (fun _ _ _ h=>h) (by assumption) (by rfl) (fun w hSw=>?_) ?_
 rotate_left
 ·(try dsimp only at hSw)
  go_simp
  all_goals with_reducible rfl
 (try simp only[Act.put,List.setIfInBounds_toArray,List.set_cons_zero,List.set_cons_succ])
 refine a0a hOnce (i:=43) (oi:=⟨_,_,_,_,_,_⟩) (v:=?_) rfl (by kernel_rfl) (fun _ _ _ h=>h) (by assumption) (by rfl) (fun w hSw=>?_) ?_
 rotate_left
 ·(try dsimp only at hSw)
  go_simp
  all_goals with_reducible rfl
 (try simp only[Act.put,List.setIfInBounds_toArray,List.set_cons_zero,List.set_cons_succ])
 refine a0a hOnce (i:=44) (oi:=⟨_,_,_,_,_,_⟩) (v:=?_) rfl (by kernel_rfl) (fun _ _ _ h=>h) (by assumption) (by rfl) (fun w hSw=>?_) ?_
 rotate_left
 ·(try dsimp only at hSw)
  go_simp
  all_goals with_reducible rfl
 (try simp only[Act.put,List.setIfInBounds_toArray,List.set_cons_zero,List.set_cons_succ])
 refine a0a hOnce (i:=45) (oi:=⟨_,_,_,_,_,_⟩) (v:=?_) rfl (by kernel_rfl) (fun _ _ _ h=>h) (by assumption) (by rfl) (fun w hSw=>?_) ?_
 rotate_left
 ·(try dsimp only at hSw)
  go_simp
  all_goals with_reducible rfl
 (try simp only[Act.put,List.setIfInBounds_toArray,List.set_cons_zero,List.set_cons_succ])
 refine a0a hOnce (i:=46) (oi:=⟨_,_,_,_,_,_⟩) (v:=?_) rfl (by kernel_rfl) (fun _ _ _ h=>h) (by assumption) (by rfl) (fun w hSw=>?_) ?_
 rotate_left
 ·(try dsimp only at hSw)
  go_simp
  all_goals with_reducible rfl
 (try simp only[Act.put,List.setIfInBounds_toArray,List.set_cons_zero,List.set_cons_succ])
 refine a0a hOnce (i:=47) (oi:=⟨_,_,_,_,_,_⟩) (v:=?_) rfl (by kernel_rfl) (fun _ _ _ h=>h) (by assumption) (by rfl) (fun w hSw=>?_) ?_
 rotate_left
 ·(try dsimp only at hSw)
  go_simp
  all_goals with_reducible rfl
 (try simp only[Act.put,List.setIfInBounds_toArray,List.set_cons_zero,List.set_cons_succ])
 refine a0a hOnce (i:=49) (oi:=⟨_,_,_,_,_,_⟩) (v:=?_) rfl (by kernel_rfl) (fun _ _ _ h=>h) (by assumption) (by rfl) (fun w hSw=>?_) ?_
 rotate_left
 ·(try dsimp only at hSw)
  go_simp
  all_goals with_reducible rfl
 (try simp only[Act.put,List.setIfInBounds_toArray,List.set_cons_zero,List.set_cons_succ])
 refine a0a hOnce (i:=50) (oi:=⟨_,_,_,_,_,_⟩) (v:=?_) rfl (by kernel_rfl) (fun _ _ _ h=>h) (by assumption) (by rfl) (fun w hSw=>?_) ?_
 rotate_left
 ·(try dsimp only at hSw)
  go_simp
  all_goals with_reducible rfl
 (try simp only[Act.put,List.setIfInBounds_toArray,List.set_cons_zero,List.set_cons_succ])
 refine a0e (i:=48) (o:=⟨_,_,_,_,_,_⟩) (by kernel_rfl) rfl (fun K hK=>?_);go_simp
 ((with_reducible refine(q6.out wf gaf).mono ?_);rintro ee wg ⟨gg,t2,rfl,ht2⟩)
 refine hK.out _ _ (hS.out _ (gaf.trans gg)) (fun hHeld=>?_);clear hK K
 (try simp only[Act.put,List.setIfInBounds_toArray,List.set_cons_zero,List.set_cons_succ])
 have gag:=gaf.trans gg;refine a0e (i:=51) (o:=⟨_,_,_,_,_,_⟩) (by kernel_rfl) rfl (fun K hK=>?_);go_simp
 ((with_reducible refine(q7.out wg t2 gag ht2).mono ?_);rintro ee wh ⟨gh,t3,rfl,ht3⟩)
 refine hK.out _ _ (hS.out _ (gag.trans gh)) (fun hHeld=>?_);clear hK K
 (try simp only[Act.put,List.setIfInBounds_toArray,List.set_cons_zero,List.set_cons_succ])
 have gah:=gag.trans gh;refine a0e (i:=52) (o:=⟨_,_,_,_,_,_⟩) (by kernel_rfl) rfl (fun K hK=>?_);go_simp
 ((with_reducible refine(q8.out wh t3 gah ht3).mono ?_);rintro ee wi ⟨gi,rfl⟩)
 refine hK.out _ _ (hS.out _ (gah.trans gi)) (fun hHeld=>?_);clear hK K
 (try simp only[Act.put,List.setIfInBounds_toArray,List.set_cons_zero,List.set_cons_succ])
 refine a0a hOnce (i:=53) (oi:=⟨_,_,_,_,_,_⟩) (v:=?_) rfl (by kernel_rfl) (fun _ _ _ h=>h) (by assumption) (by rfl) (fun w hSw=>?_) ?_
 rotate_left
 ·(try dsimp only at hSw)
  go_simp
  all_goals with_reducible rfl
 (try simp only[Act.put,List.setIfInBounds_toArray,List.set_cons_zero,List.set_cons_succ])
 refine a0n (i:=54) (o:=⟨_,_,_,_,_,_⟩) (by kernel_rfl) rfl (by decide) (by kernel_rfl) (fun K hK=>?_);go_simp
 refine hK.out _ _ ?_;clear hK K;go_wp2_with fail
 go_ret
 exact⟨hEf.trans (gah.trans gi),rfl⟩
end Go.Proofs.YtkddecjkfdogiaaGreat
