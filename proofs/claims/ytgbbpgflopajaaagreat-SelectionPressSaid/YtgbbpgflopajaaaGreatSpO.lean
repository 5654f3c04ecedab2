/- Parts of a proof: each theorem states what it proves, and its conditions. -/
import Derived.Test.YtgbbpgflopajaaaGreatSpN
import Derived.Deep.RegionHeld3
set_option maxRecDepth 100000
set_option maxHeartbeats 1600000
namespace Go.Proofs.YtgbbpgflopajaaaGreat
open Go.RowKit Go.Rep Go.Lim Go.Lin
theorem c0I{c:Nat}(h:c<=4):b7L (upL c) (c:Int)=true:=by
 have:c=0\/c=1\/c=2\/c=3\/c=4:=by omega
 rcases this with rfl|rfl|rfl|rfl|rfl<;>decide
theorem b9h(X:Nat->Bool)(w:World)(u v:Value)(x:Mat)(y:List Rat)(n c B:Nat)(so:Option Addr)(sc:Nat)(hX:HX X w)(hu:MV (mk X w) u x)(hv:RV (mk X w) v y)(hs:Sl (a0u .i64) 1 w.cell? so (upL c))(hok:b7f x y=true)(hsh:Shp n c x)(hn:n<=8)(hc1:1<=c)(hc:c<=4)(hxB:BM B x)(hyB:BR B y)(hB1:1<=B)(hB:B<=510/\n*(2*B+1)<=6540):Calls Tryz.prog 46 #[u,v, .slice so c sc] w (c0H X w x y n c):=by
 obtain⟨⟨h1,h64,hyx⟩,hsm⟩:=a7h.1 hok;have hls:=b4r.1 hok;have hy:y.length=n:=by rw[hyx,hsh.1]
 have hn1:1<=n:=by rw[<-hsh.1];exact h1
 have hcc:colsL x=c:=a8i hsh hn1;obtain⟨W,hW,hE,b0,hz⟩:=a0R w crZ 78;have hXW:HX (a0e X w.heap.size 1) W:=hX.boxes hz;have hu1:=MV.mono _ _ _ _ (a0l (nb:=1) hE) hu;have hv1:=RV.mono _ _ _ _ (a0l (nb:=1) hE) hv;rw[<-a2m]at hs;have hs1:=hs.mono (a0u.mono _) (a0m hE);obtain⟨b,hb⟩:∃b,w.heap.size=b:=⟨_,rfl⟩;have hbw:w.heap.size<=b:=by omega
 rw[hb]at b0 hz hXW hu1 hv1;obtain⟨Z,hZ⟩:∃Z,a0e X b 1=Z:=⟨_,rfl⟩;rw[hZ]at hXW hu1 hv1;have hde:=a6Z Z W u v x y hu1 hv1 (by omega) (by omega);rw[hok]at hde;have hs2:Hid (∀w',Ext W w'->Sl (a0u .i64) 1 w'.cell? so (upL c)):=hid fun w' h=>by rw[<-a2m];exact hs1.mono (a0u.mono _) (a0m h)
 have hasc:=hid fun w' (h:Ext W w')=>a8t noY so (upL c) sc c w' (hs1.mono (a0u.mono _) (a0m h)) (by rw[a2r];omega);rw[c0I hc,a2r]at hasc;have hcp:=hid fun w' (h:Ext W w')=>a4V noY so (upL c) sc w' (hs1.mono (a0u.mono _) (a0m h)) (by rw[a2r];omega) (HX.none w');rw[a2r]at hcp;have hdv:=hid fun w' (h:Ext W w')=>b6u Z w' v y n B (hXW.ext h) (mkx RV.mono hv1 h) hy (by omega) hyB (by omega);have hga:=hid fun w' (h:Ext W w')=>a7I Z w' u v x y n c B (hXW.ext h) (mkx MV.mono hu1 h) (mkx RV.mono hv1 h) hls hsh.1 hcc hn hc hxB hyB hB1 hB;have hal:=hid fun w' (h:Ext W w')=>b6s Z c w' (by omega) (hXW.ext h);have hrs:=hid fun w' um ro rc (h:Ext W w') (hm:a5G (mk Z w') um (gmM x y c n)) (hr:Sl (a0u .i64) 1 w'.cell? ro (upL c))=>b1v Z w' um x y n c B ro (upL c) rc (hXW.ext h) hm hr hsh hy hn hc hxB hyB hB1 hB (fun v hv=>a8u hv) (by rw[a2r];exact hc);have hft:=hid fun w' (h:Ext W w') (hr:Sl (a0u .i64) 1 w'.cell? so (upL c))=>b4g Z w' u v x y n c B so (upL c) sc (hXW.ext h) (mkx MV.mono hu1 h) (mkx RV.mono hv1 h) hr hsh hy hn1 hn hxB hyB hB1 hB (fun v hv=>a8u hv) (by rw[a2r];exact hc1) (by rw[a2r];exact hc);rw[b4h hsh,a2r]at hft;rw[a2r]at hrs;have hbd:=b4j hy (by omega) hyB (by omega);obtain⟨D,hD⟩:∃D,b4i y n=D:=⟨_,rfl⟩;obtain⟨R,hR⟩:∃R,a6j x y n (upL c)=R:=⟨_,rfl⟩;have hDb:Hid (hq D<=153700000):=hid (by rw[<-hD];exact hbd.2.2.2.2 n (Nat.le_refl _));have hRb:Hid (hq R<=600000000):=hid (by rw[<-hR];exact b0r hsh hy hn hxB hyB hB1 hB (fun v hv=>a8u hv) (by rw[a2r];exact hc));have hrk:Hid ((b0o x y n c).rank=(a0J x c).2.length/\(a0J x c).2.length<=c):=hid ⟨rfl,b1k hsh⟩;have hfc:Hid ((b0o x y n c).res=a2q x y (a0S x y n c)/\(b0o x y n c).rss=R/\((a0J x c).2.length=c->(b0o x y n c).lev=a3n x n c)/\(a2q x y (a0S x y n c)).length=n/\(a3n x n c).length=n/\BR 34100000 (a2q x y (a0S x y n c))/\BR 140000000 (a3n x n c)):=hid ⟨rfl,by rw[<-hR];unfold a6j;rw[b4h hsh,a2r];rfl,fun h=>by show a3n (pkL x (a0J x c).2) n (a0J x c).2.length=_;rw[b7n hsh h,h],by rw[a2P (by rw[hy,hsh.1]),hsh.1],by rw[a4s,hsh.1],a7b hsh hxB hyB (a5S (a5v hxB hB1) hyB hn hc hB) hB1 hc hB,b7h hsh hxB hn hc hB1 hB⟩;unfold c0H;rw[hD]at hdv |-;rw[hR]at hrs |-;obtain⟨ua,uc,rfl,huc,hus⟩:=hu1;obtain⟨va,vc,rfl,hvc,hvs⟩:=hv1;have hhu:=hus.hd;obtain⟨a0,c0,hX0,hc0,hcl0,hq0⟩:=hus.row 0 (by omega);rw[hsh.2 (x[0]'(by omega)) (List.getElem_mem _)]at hc0 hcl0;have hxl:=hsh.1;rw[hxl]at hde hga hft huc hhu h1 |-;rw[hy]at hde hdv hga hft hvc |-;have i0:∀W,(Instr.indexAt 53 (.slice ua n uc) (.int .i64 0)).run Tryz.prog W= .ok (.pointer (some (adr ua 0))) W:=a0x a0p ua n uc .i64 0 hhu (by omega) rfl;have k0:W.drew.cell? (adr ua 0)=some (.slice a0 c c0):=hc0.out noY _ (ExtX.refl W).drew rfl;clear hq0 hu hv hs hok hls hcc hsh hxB hyB hB hsm hyx hbd hD hR hy h64 hvs hus;go_enter Tryz.func46,Tryz.ntmps46
 go_wp2_with (first|(go_at_call 114;refine hde.mono ?_;rintro ee w1 ⟨rfl,rfl⟩))
 go_region
 have hE2:Ext w1 w1.drew:=(ExtX.refl w1).drew;have hX2:=hXW.ext hE2;have b2:=b0.ext0 hE2;obtain⟨w2,hw2⟩:∃w2,w1.drew=w2:=⟨_,rfl⟩;rw[hw2]at hE2 hX2 b2;rw[hw2];clear hw2 k0 i0 hc0 hde;go_upto_region 9 with(first
  |(go_at_call 115;refine(hasc.out w2 hE2).mono ?_;rintro ee w3 ⟨rfl,rfl⟩)
  |(go_at_call 116;(with_reducible refine(hdv.out w2 hE2).mono ?_);rintro ee w4 ⟨t4,u4,rfl,hu4⟩;obtain⟨s4,a4,n4,c4,d4,k4,e4,rfl⟩:=hu4.shape;have bx4:=Bx.new w4 #[.bool false, .slice none 0 0, .slice none 0 0] 38)
  |((with_reducible show wpList _ _ _ (⟨_, .store 38 _ _,_,_,_,_⟩::_) _ _);refine a0a a0o rfl rfl bx4 rfl rfl (a1z _ _ _ _ _ _ _) ?_;intro w5 x4 y4;have hE45:Ext w4 w5:=ExtX.box ((ExtX.refl w4).alloc _) y4 (Nat.le_refl _);have hE5:=hE2.trans (t4.trans hE45);clear bx4)
  |(go_at_call 117;(with_reducible refine(hga.out w5 hE5).mono ?_);rintro ee w6 ⟨t6,um,rfl,hum⟩;have hE6:=hE5.trans t6)
  |(go_at_call 119;(with_reducible refine(hal.out w6 hE6).mono ?_);rintro ee w7 ⟨t7,ro,rc,rfl,hrc,hO⟩;have hE7:=hE6.trans t7;have hr7:=(hrs.out w7 um ro rc hE7 (mkx a5G.mono hum t7) ((hO.sl (a0u.elem .i64)).mono (a0u.mono _) (b4I Z w7))))
  |(go_at_call 118;(with_reducible refine hr7.mono ?_);rintro ee w8 ⟨t8,u8,rfl,hu8⟩;obtain⟨s8,a8,n8,c8,d8,k8,e8,rfl⟩:=hu8.shape;have bx8:=Bx.new w8 #[.bool false, .slice none 0 0, .slice none 0 0] 38;clear hr7)
  |((with_reducible show wpList _ _ _ (⟨_, .store 38 _ _,_,_,_,_⟩::_) _ _);refine a0a a0o rfl rfl bx8 rfl rfl (a1z _ _ _ _ _ _ _) ?_;intro w9 x8 y8;have hE89:Ext w8 w9:=ExtX.box ((ExtX.refl w8).alloc _) y8 (Nat.le_refl _);have hE9:=hE7.trans (t8.trans hE89);clear bx8)
  |(go_at_call 120;(with_reducible refine(hft.out w9 hE9 (hs2.out w9 hE9)).mono ?_);rintro ee w10 ⟨t10,fv,rfl,hfv⟩;have hfv':=hfv;obtain⟨uo,uc',co',cl',cc',ro2,rl,rc2,s3,a3,n3,c3,d3,k3,e3,fo,ll,lc,rfl,hfv2⟩:=hfv;clear hfv2;have bxA:=Bx.new w10 #[.int .i64 0, .slice none 0 0, .slice none 0 0, .slice none 0 0, .bool false, .slice none 0 0, .slice none 0 0, .slice none 0 0] 83)
  |((with_reducible show wpList _ _ _ (⟨_, .store 83 _ _,_,_,_,_⟩::_) _ _);refine a0a a4n rfl rfl bxA rfl rfl (b6r _ _ _ _ _ _ _ _ _ _ _ _ _ _ _ _ _ _ _ _) ?_;intro w11 xA yA;have hEA:Ext w10 w11:=ExtX.box ((ExtX.refl w10).alloc _) yA (Nat.le_refl _);have hE11:=hE9.trans (t10.trans hEA);clear bxA))
 have hu4':=mkx QC.mono hu4 hE45;have hE5B:Ext w5 w11:=(t6.trans (t7.trans (t8.trans hE89))).trans (t10.trans hEA);have hE9B:Ext w9 w11:=t10.trans hEA;have qD:=(mkx QC.mono hu4' hE5B).qv (Nat.le_trans hDb.out (by decide));have qR:=mkx QC.mono hu8 (hE89.trans hE9B);have hfv9:=mkx b1W.mono hfv' hEA;have b11:=b2.ext0 (t4.trans (hE45.trans hE5B));have x411:=x4.ext0 hE5B;have x811:=x8.ext0 hE9B;have hX11:=hXW.ext hE11;obtain⟨g4,hg4⟩:∃g,w4.heap.size=g:=⟨_,rfl⟩;obtain⟨g8,hg8⟩:∃g,w8.heap.size=g:=⟨_,rfl⟩;obtain⟨g13,hg13⟩:∃g,w10.heap.size=g:=⟨_,rfl⟩;rw[hg4]at x411;rw[hg8]at x811;rw[hg13]at xA;rw[hg4,hg8,hg13];clear hg4 hg8 hg13 hrs hft hga hal hdv hasc hO hum hu4 hu4' hu8 hfv' x4 x8 y4 y8 yA t4 t6 t7 t8 t10 hE45 hE89 hEA hE5 hE6 hE7 hE9 hE5B hE9B b2 b0 hX2;obtain⟨rk,hrk2⟩:∃rk,(a0J x c).2.length=rk:=⟨_,rfl⟩;have hrk3:=hid hrk2;have qR':=qR.qv (Nat.le_trans hRb.out (by decide));have hrk4:=hrk.out;rw[hrk2]at hrk4;obtain⟨hrk5,hrkc⟩:=hrk4;rw[hrk5]at xA;have hEz:Ext w w11:=hE.trans hE11;have e0:=xA.cell 0 rfl;have e40:w11.cell? ⟨g4,0,none⟩=some (.bool s4):=x411.cell 0 rfl;have e41:w11.cell? ⟨g4,1,none⟩=some (.slice a4 n4 c4):=x411.cell 1 rfl;have e42:w11.cell? ⟨g4,2,none⟩=some (.slice d4 k4 e4):=x411.cell 2 rfl;have e80:w11.cell? ⟨g8,0,none⟩=some (.bool s8):=x811.cell 0 rfl;have e81:w11.cell? ⟨g8,1,none⟩=some (.slice a8 n8 c8):=x811.cell 1 rfl;have e82:w11.cell? ⟨g8,2,none⟩=some (.slice d8 k8 e8):=x811.cell 2 rfl;have e13:w11.cell? ⟨g13,0,none⟩=some (.int .i64 (rk:Int)):=xA.cell 0 rfl;clear hrk5 hrk2 hrk e0;by_cases hnc:n<=c
 ·go_wp2_with ((with_reducible show wpList _ _ _ (⟨_, .store 78 _ _,_,_,_,_⟩::_) _ _);refine a0a a2G rfl rfl b11 rfl rfl a5E ?_;intro wz r1 r2)
  exact bodyPost_ret (a0M rfl rfl a2G r1 rfl) rfl ⟨ExtX.box hEz r2 hbw,Or.inl ⟨_,rfl,a5E,rfl⟩⟩
 ·obtain⟨sg,hsg⟩:∃sg,D.num.sign=sg:=⟨_,rfl⟩
  obtain⟨sr,hsr⟩:∃sr,R.num.sign=sr:=⟨_,rfl⟩;have hsD:=hid (fun w' (h:Ext w11 w')=>a8H Z w' _ D (hX11.ext h) (mkx QV.mono qD h));have hsR:=hid (fun w' (h:Ext w11 w')=>a8H Z w' _ R (hX11.ext h) (mkx QV.mono qR' h));rw[hsg]at hsD;rw[hsr]at hsR;have hsg':=hid hsg;clear hsg hsr;by_cases hD0:sg=0
  ·subst hD0
   go_wp2_with (first|(go_at_call 121;(with_reducible refine(hsD.out w11 (ExtX.refl _)).mono ?_);rintro ee w12 ⟨t12,rfl⟩;have b12:=b11.ext0 t12)|((with_reducible show wpList _ _ _ (⟨_, .store 78 _ _,_,_,_,_⟩::_) _ _);refine a0a a2G rfl rfl b12 rfl rfl a5E ?_;intro wz r1 r2))
   exact bodyPost_ret (a0M rfl rfl a2G r1 rfl) rfl ⟨ExtX.box (hEz.trans t12) r2 hbw,Or.inl ⟨_,rfl,a5E,rfl⟩⟩
  ·have hsq0:(sg==(0:Int))=false:=a2H hD0
   by_cases hR0:sr=0
   ·subst hR0
    go_wp2_with (first|(go_at_call 121;(with_reducible refine(hsD.out w11 (ExtX.refl _)).mono ?_);rintro ee w12 ⟨t12,rfl⟩;have b12:=b11.ext0 t12;have m0:=t12.cell e80;have m1:=t12.cell e81;have m2:=t12.cell e82)|(go_at_call 121;(with_reducible refine(hsR.out w12 t12).mono ?_);rintro ee w13 ⟨t13,rfl⟩;have b13:=b12.ext0 t13)|((with_reducible show wpList _ _ _ (⟨_, .store 78 _ _,_,_,_,_⟩::_) _ _);refine a0a a2G rfl rfl b13 rfl rfl a5E ?_;intro wz r1 r2))
    exact bodyPost_ret (a0M rfl rfl a2G r1 rfl) rfl ⟨ExtX.box (hEz.trans (t12.trans t13)) r2 hbw,Or.inl ⟨_,rfl,a5E,rfl⟩⟩
   ·have hsr0:(sr==(0:Int))=false:=a2H hR0
    by_cases hrl:rk<c
    ·go_wp2_with (first|(go_at_call 121;(with_reducible refine(hsD.out w11 (ExtX.refl _)).mono ?_);rintro ee w12 ⟨t12,rfl⟩;have b12:=b11.ext0 t12;have m0:=t12.cell e80;have m1:=t12.cell e81;have m2:=t12.cell e82;have m3:=t12.cell e13)|(go_at_call 121;(with_reducible refine(hsR.out w12 t12).mono ?_);rintro ee w13 ⟨t13,rfl⟩;have b13:=b12.ext0 t13;have m4:=t13.cell m3)|((with_reducible show wpList _ _ _ (⟨_, .store 78 _ _,_,_,_,_⟩::_) _ _);refine a0a a2G rfl rfl b13 rfl rfl a5E ?_;intro wz r1 r2))
     exact bodyPost_ret (a0M rfl rfl a2G r1 rfl) rfl ⟨ExtX.box (hEz.trans (t12.trans t13)) r2 hbw,Or.inl ⟨_,rfl,a5E,rfl⟩⟩
    ·have hone:=a6H Z
     go_upto_region 12 with(first|(go_at_call 121;(with_reducible refine(hsD.out w11 (ExtX.refl _)).mono ?_);rintro ee w12 ⟨t12,rfl⟩;have b12:=b11.ext0 t12;have m0:=t12.cell e80;have m1:=t12.cell e81;have m2:=t12.cell e82;have m3:=t12.cell e13)|(go_at_call 121;(with_reducible refine(hsR.out w12 t12).mono ?_);rintro ee w13 ⟨t13,rfl⟩;have hE13:=t12.trans t13;have b13:=b11.ext0 hE13;have m4:=t13.cell m3;have hX13:=hX11.ext hE13)|(go_at_call 74;(with_reducible refine(a6H Z w13 1 hX13 (by omega) (by omega)).mono ?_);rintro ee w14 ⟨t14,u14,rfl,hu14⟩;obtain⟨s14,a14,n14,c14,d14,k14,e14,rfl⟩:=hu14.shape;have bx14:=Bx.new w14 #[.bool false, .slice none 0 0, .slice none 0 0] 38)|((with_reducible show wpList _ _ _ (⟨_, .store 38 _ _,_,_,_,_⟩::_) _ _);refine a0a a0o rfl rfl bx14 rfl rfl (a1z _ _ _ _ _ _ _) ?_;intro w15 x15 y15))
     have hE1415:Ext w14 w15:=ExtX.box ((ExtX.refl w14).alloc _) y15 (Nat.le_refl _);have hE15:Ext w11 w15:=hE13.trans (t14.trans hE1415);have one15:=mkx QC.mono hu14 hE1415;have x415:=x411.ext0 hE15;have x815:=x811.ext0 hE15;have xA15:=xA.ext0 hE15;have b15:=b11.ext0 hE15;have hX15:=hX11.ext hE15;have qD15:=mkx QV.mono qD hE15;have qR15:=mkx QV.mono qR' hE15;have hf15:=mkx b1W.mono hfv9 hE15;have hEw15:=hE11.trans hE15;obtain⟨g14,hg14⟩:∃g,w14.heap.size=g:=⟨_,rfl⟩;rw[hg14]at x15;rw[hg14];have hc15:=hid fun w' (h:Ext w15 w')=>hcp.out w' (hEw15.trans h);obtain⟨hfr,hfq,hfl⟩:=b1W.parts hf15;have hEz15:=hEz.trans hE15;have hrke:rk=c:=by omega
     obtain⟨f1,f2,f3,f4,f5,f6,f7⟩:=hfc.out;rw[f1]at hfr;rw[f2]at hfq;rw[f3 (hrk3.out.trans hrke)]at hfl;obtain⟨E,hE'⟩:∃E,a2q x y (a0S x y n c)=E:=⟨_,rfl⟩;obtain⟨L,hL'⟩:∃L,a3n x n c=L:=⟨_,rfl⟩;rw[hE']at hfr f4 f6;rw[hL']at hfl f5 f7;have hEL:=hid (And.intro hE' hL');obtain⟨_,_,heq,hrc2,hrs⟩:=hfr.rv (fun q hq=>Nat.le_trans (f6 q hq) (by decide));simp only[Value.slice.injEq]at heq;obtain⟨rfl,rfl,rfl⟩:=heq;obtain⟨_,_,heq,hlc2,hls⟩:=hfl.rv (fun q hq=>Nat.le_trans (f7 q hq) (by decide));simp only[Value.slice.injEq]at heq;obtain⟨rfl,rfl,rfl⟩:=heq;have hf6:=hid f6;have hf7:=hid f7;have hf4:=hid f4;have hf5:=hid f5;have hpb:=hid (b7t f4 f5 hn f6 f7);have hhr:=hrs.hd;have hhl:=hls.hd;rw[f4]at xA15 hhr hrc2;rw[f5]at xA15 hhl hlc2;have hrke':=hid hrke;clear hfr hfl f1 f2 f3 f4 f5 f6 f7 hE' hL' hrke;clear b12 b13 m0 m1 m2 m3 m4 e40 e41 e42 e80 e81 e82 e13 qD qR qR' hfv9 hf15 hu14 y15 hg14 hcp hsD hsR x411 x811 xA b11 hX11 hX13 hsq0 hsr0 t12 t13 t14 hE13 hE1415 hE15 hE2 hE11 hE hEw15 hEz hfc;refine a0z 6 (fun w'=>w'.cell? ⟨g13,4,none⟩=some (.bool s3)/\w'.cell? ⟨g13,5,none⟩=some (.slice a3 n3 c3)/\w'.cell? ⟨g13,6,none⟩=some (.slice d3 k3 e3)) (by kernel_rfl) (by kernel_rfl) ⟨xA15.cell 4 rfl,xA15.cell 5 rfl,xA15.cell 6 rfl⟩ (fun hHeld hOnce=>?_);obtain⟨W0,hW0⟩:∃W0,w15.drew=W0:=⟨_,rfl⟩;have hE0:Ext w15 W0:=by rw[<-hW0];exact(ExtX.refl w15).drew
     rw[hW0]at hHeld |-;clear hW0;refine kt 0 hOnce ?_;refine kt 2 hOnce ?_;refine kt 3 hOnce ?_;refine a0N (i:=1) (j:=5) (oi:=⟨_,_,_,_,_,_⟩) (oj:=⟨_,_,_,_,_,_⟩) (by kernel_rfl) rfl rfl (fun K hK=>?pa) (fun K hK=>?pb)
     case' pa=>
      go_simp
      (go_at_call 122;refine(hc15.out W0 hE0).mono ?_;rintro ee w16 ⟨hE16,bo,bc,rfl,hbc,-⟩)
      refine kcn hK ⟨hE16.cell hHeld.1,hE16.cell hHeld.2.1,hE16.cell hHeld.2.2⟩ (fun hHeld=>?_);clear hK K;refine kt 4 hOnce ?_;have bx:=Bx.new w16 crZ 78;refine ks 5 (fun K hK=>?_);go_simp
      skip
      refine kcn hK ⟨((ExtX.refl (Y:=noY) w16).alloc _).cell hHeld.1,((ExtX.refl (Y:=noY) w16).alloc _).cell hHeld.2.1,((ExtX.refl (Y:=noY) w16).alloc _).cell hHeld.2.2⟩ (fun hHeld=>?_);clear hK K;refine kl 6 (fun K hK=>?_)
      (refine a0q rfl rfl a2G rfl rfl bx rfl rfl a5E ?_;intro wz xz yz)
      refine hK.out _ _ ?_;clear hK K
      (try simp only[Act.put])
      have hEZ:Ext w15 wz:=hE0.trans (hE16.trans (ExtX.box ((ExtX.refl w16).alloc _) yz (Nat.le_refl _)));have hgl:w15.heap.size<=w16.heap.size:=(hE0.trans hE16).size;obtain⟨gz,hgz⟩:∃g,w16.heap.size=g:=⟨_,rfl⟩;rw[hgz]at xz hgl;rw[hgz];clear bx yz hgz hHeld hE16 hE0
     case' pb=>
      go_simp
      skip
      refine kcn hK ⟨((ExtX.refl (Y:=noY) W0).alloc _).cell hHeld.1,((ExtX.refl (Y:=noY) W0).alloc _).cell hHeld.2.1,((ExtX.refl (Y:=noY) W0).alloc _).cell hHeld.2.2⟩ (fun hHeld=>?_);clear hK K;have bx:=Bx.new W0 crZ 78;refine ks 1 (fun K hK=>?_);go_simp
      (go_at_call 122;refine(hc15.out _ (hE0.alloc _)).mono ?_;rintro ee w16 ⟨hE16,bo,bc,rfl,hbc,-⟩)
      refine kcn hK ⟨hE16.cell hHeld.1,hE16.cell hHeld.2.1,hE16.cell hHeld.2.2⟩ (fun hHeld=>?_);clear hK K;have bx':=bx.ext0 hE16;refine kt 4 hOnce ?_;refine kl 6 (fun K hK=>?_)
      (refine a0q rfl rfl a2G rfl rfl bx' rfl rfl a5E ?_;intro wz xz yz)
      refine hK.out _ _ ?_;clear hK K
      (try simp only[Act.put])
      have hEZ:Ext w15 wz:=hE0.trans (ExtX.box (((ExtX.refl W0).alloc _).trans hE16) yz (Nat.le_refl _));have hgl:w15.heap.size<=W0.heap.size:=hE0.size;obtain⟨gz,hgz⟩:∃g,W0.heap.size=g:=⟨_,rfl⟩;rw[hgz]at xz hgl;rw[hgz];clear bx bx' yz hgz hHeld hE16 hE0
     all_goals
      clear hc15;obtain⟨Zp,hZp⟩:∃Zp,un Z (some ⟨gz,0,none⟩)=Zp:=⟨_,rfl⟩;have hup:Hid (∀wr,Ext w15 wr->Le (mk Z w15) (mk Zp wr)):=hid fun wr h=>by rw[<-hZp];exact a0I h hgl
      have hgp:Hid (∀k,ob (some ⟨gz,0,none⟩) k=true->Zp k=true):=hid fun k hk=>by rw[<-hZp];exact a0r hk
      have hZZ:Hid (∀k,Z k=true->Zp k=true):=hid fun k hk=>by rw[<-hZp];exact a0i hk
      have hXz:HX Zp wz:=fun k hk=>by
       rw[<-hZp]at hk;simp only[un,Bool.or_eq_true]at hk;rcases hk with h|h
       ·exact(hX15.ext hEZ) k h
       ·have:gz=k:=by simpa[ob]using h
        rw[<-this];exact xz.lt
      have hq0:QC (mk Zp wz) (.agg #[.bool false, .slice none 0 0, .slice none 0 0]) (sm 0 fun i=>a2I E L i*a2I E L i):=QC.zero _;have hone:QC (mk Z w15) (.agg #[.bool s14, .slice a14 n14 c14, .slice d14 k14 e14]) 1:=one15;clear one15 hZp;have e7:wz.cell? ⟨g13,7,none⟩=some (.slice fo n lc):=(xA15.ext0 hEZ).cell 7 rfl;go_wp2_with fail
      go_loopw [81] (fun k wr=>∃(i:Nat) (s:Bool) (a:Option Addr) (n' c':Nat) (d:Option Addr) (kk e:Nat),k= .int .i64 i/\i<=n/\Bx wr gz #[.slice bo c bc, .bool s3, .slice a3 n3 c3, .slice d3 k3 e3, .bool false, .slice none 0 0, .slice none 0 0, .bool false, .slice none 0 0, .slice none 0 0, .bool s, .slice a n' c', .slice d kk e] 78/\QC (mk Zp wr) (.agg #[.bool s, .slice a n' c', .slice d kk e]) (sm i fun i=>a2I E L i*a2I E L i)/\HX Zp wr/\Ext w15 wr/\Hid (∀j,j<i->fn L j≠1)) (fun k _=>n - (intOf k).toNat)
      case atStart=>exact⟨0,_,_,_,_,_,_,_,rfl,Nat.zero_le _,xz,hq0,hXz,hEZ,hid fun j h=>by omega⟩
      case round=>
       obtain⟨i,s,a,n',c',d,kk,e,rfl,hi,bg,hqp,hXr,hEr,hne⟩:=hrel;by_cases hlt:i<n
       ·have hiL:i<L.length:=by rw[hf5.out];exact hlt
        have hiE:i<E.length:=by rw[hf4.out];exact hlt
        have hlr:=hls.mono QV.mono (hup.out wr hEr);have hrr:=hid (hrs.mono QV.mono (hup.out wr hEr));have hor:=(QC.mono _ _ _ _ (hup.out wr hEr) hone).qv (show hq (1:Rat)<=68719476736 by decide+kernel);have gl:Hid (fn L i=L[i]):=hid (by simp[fn,List.getD_eq_getElem?_getD,hiL]);have ge:Hid (fn E i=E[i]):=hid (by simp[fn,List.getD_eq_getElem?_getD,hiE]);have x14r:=x15.ext0 hEr;obtain⟨t,ht⟩:∃t,L[i]=t:=⟨_,rfl⟩;have ht':=hid ht;rw[ht]at gl;have bq:Hid (hq (1 - t)<=140000010):=hid (by
         have h1:=a6a 1 t;have h2:=hf7.out L[i] (List.getElem_mem _);rw[ht]at h2;have h3:hq (1:Rat)<=1:=by decide+kernel
         omega)
        clear ht;have bx:=Bx.new wr #[.bool false, .slice none 0 0, .slice none 0 0] 38;obtain⟨si,hsi⟩:∃si,(1 - t).num.sign=si:=⟨_,rfl⟩;have hsi':=hid hsi;by_cases hs0:si=0
        ·subst hs0
         go_wp2_with (first|(with_reducible refine a1I a0w (by omega) (by assumption) ?_)|((with_reducible show wpList _ _ _ (⟨_, .load 38 _,_,_,_,_⟩::_) _ _);refine a0C a0o i hlr hiL rfl (by simp) QV.agg ?_;intro u5 hu5;rw[ht'.out]at hu5;obtain⟨s5,a5,n5,c5,d5,k5,e5,rfl⟩:=hu5.shape)|((with_reducible show wpList _ _ _ (⟨_, .store 38 _ _,_,_,_,_⟩::_) _ _);refine a0a a0o rfl rfl bx rfl rfl (a1z _ _ _ _ _ _ _) ?_;intro wA r1 r2;have hEA:Ext wr wA:=ExtX.box ((ExtX.refl wr).alloc _) r2 (Nat.le_refl _);have b17:=x14r.ext0 hEA;have k00:wA.cell? ⟨g14,0,none⟩=some (.bool s14):=b17.cell 0 rfl;have k01:wA.cell? ⟨g14,1,none⟩=some (.slice a14 n14 c14):=b17.cell 1 rfl;have k02:wA.cell? ⟨g14,2,none⟩=some (.slice d14 k14 e14):=b17.cell 2 rfl;have k10:wA.cell? ⟨wr.heap.size,0,none⟩=some (.bool s5):=r1.cell 0 rfl;have k11:wA.cell? ⟨wr.heap.size,1,none⟩=some (.slice a5 n5 c5):=r1.cell 1 rfl;have k12:wA.cell? ⟨wr.heap.size,2,none⟩=some (.slice d5 k5 e5):=r1.cell 2 rfl;have hXA:=hXr.ext hEA;have hx5:=mkx QV.mono hu5 hEA;have ho5:=mkx QV.mono hor hEA;clear bx r1)|(go_at_call 76;(with_reducible refine(b8d Zp wA _ _ _ _ hXA ho5 hx5).mono ?_);rintro ee wB ⟨tB,uB,rfl,huB⟩;obtain⟨sB,aB,nB,cB,dB,kB,eB,rfl⟩:=huB.shape;have bxB:=Bx.new wB #[.bool false, .slice none 0 0, .slice none 0 0] 38;clear k00 k01 k02 k10 k11 k12)|((with_reducible show wpList _ _ _ (⟨_, .store 38 _ _,_,_,_,_⟩::_) _ _);refine a0a a0o rfl rfl bxB rfl rfl (a1z _ _ _ _ _ _ _) ?_;intro wC z1 z2;have hEBC:Ext wB wC:=ExtX.box ((ExtX.refl wB).alloc _) z2 (Nat.le_refl _);have hEC:=hEA.trans (tB.trans hEBC);have m0:wC.cell? ⟨wB.heap.size,0,none⟩=some (.bool sB):=z1.cell 0 rfl;have m1:wC.cell? ⟨wB.heap.size,1,none⟩=some (.slice aB nB cB):=z1.cell 1 rfl;have m2:wC.cell? ⟨wB.heap.size,2,none⟩=some (.slice dB kB eB):=z1.cell 2 rfl;have hXC:=hXr.ext hEC;have qC:=(mkx QC.mono huB hEBC).qv (Nat.le_trans bq.out (by decide));clear bxB)|(go_at_call 121;(with_reducible refine(a8H Zp wC _ _ hXC qC).mono ?_);rw[hsi];rintro ee wD ⟨tD,rfl⟩;have b15D:=b15.ext0 (hEr.trans (hEC.trans tD)))|((with_reducible show wpList _ _ _ (⟨_, .store 78 _ _,_,_,_,_⟩::_) _ _);refine a0a a2G rfl rfl b15D rfl rfl a5E ?_;intro wE v1 v2))
         exact bodyPost_ret (a0M rfl rfl a2G v1 rfl) rfl ⟨ExtX.box (hEz15.trans (hEr.trans (hEC.trans tD))) v2 hbw,Or.inl ⟨_,rfl,a5E,rfl⟩⟩
        ·have hs1:(si==(0:Int))=false:=a2H hs0
         go_upto_region 19 with(first|(with_reducible refine a1I a0w (by omega) (by assumption) ?_)|((with_reducible show wpList _ _ _ (⟨_, .load 38 _,_,_,_,_⟩::_) _ _);refine a0C a0o i hlr hiL rfl (by simp) QV.agg ?_;intro u5 hu5;rw[ht'.out]at hu5;obtain⟨s5,a5,n5,c5,d5,k5,e5,rfl⟩:=hu5.shape)|((with_reducible show wpList _ _ _ (⟨_, .store 38 _ _,_,_,_,_⟩::_) _ _);refine a0a a0o rfl rfl bx rfl rfl (a1z _ _ _ _ _ _ _) ?_;intro wA r1 r2;have hEA:Ext wr wA:=ExtX.box ((ExtX.refl wr).alloc _) r2 (Nat.le_refl _);have b17:=x14r.ext0 hEA;have k00:wA.cell? ⟨g14,0,none⟩=some (.bool s14):=b17.cell 0 rfl;have k01:wA.cell? ⟨g14,1,none⟩=some (.slice a14 n14 c14):=b17.cell 1 rfl;have k02:wA.cell? ⟨g14,2,none⟩=some (.slice d14 k14 e14):=b17.cell 2 rfl;have k10:wA.cell? ⟨wr.heap.size,0,none⟩=some (.bool s5):=r1.cell 0 rfl;have k11:wA.cell? ⟨wr.heap.size,1,none⟩=some (.slice a5 n5 c5):=r1.cell 1 rfl;have k12:wA.cell? ⟨wr.heap.size,2,none⟩=some (.slice d5 k5 e5):=r1.cell 2 rfl;have hXA:=hXr.ext hEA;have hx5:=mkx QV.mono hu5 hEA;have ho5:=mkx QV.mono hor hEA;clear bx r1)|(go_at_call 76;(with_reducible refine(b8d Zp wA _ _ _ _ hXA ho5 hx5).mono ?_);rintro ee wB ⟨tB,uB,rfl,huB⟩;obtain⟨sB,aB,nB,cB,dB,kB,eB,rfl⟩:=huB.shape;have bxB:=Bx.new wB #[.bool false, .slice none 0 0, .slice none 0 0] 38;clear k00 k01 k02 k10 k11 k12)|((with_reducible show wpList _ _ _ (⟨_, .store 38 _ _,_,_,_,_⟩::_) _ _);refine a0a a0o rfl rfl bxB rfl rfl (a1z _ _ _ _ _ _ _) ?_;intro wC z1 z2;have hEBC:Ext wB wC:=ExtX.box ((ExtX.refl wB).alloc _) z2 (Nat.le_refl _);have hEC:=hEA.trans (tB.trans hEBC);have m0:wC.cell? ⟨wB.heap.size,0,none⟩=some (.bool sB):=z1.cell 0 rfl;have m1:wC.cell? ⟨wB.heap.size,1,none⟩=some (.slice aB nB cB):=z1.cell 1 rfl;have m2:wC.cell? ⟨wB.heap.size,2,none⟩=some (.slice dB kB eB):=z1.cell 2 rfl;have hXC:=hXr.ext hEC;have qC:=(mkx QC.mono huB hEBC).qv (Nat.le_trans bq.out (by decide));clear bxB)|(go_at_call 121;(with_reducible refine(a8H Zp wC _ _ hXC qC).mono ?_);rw[hsi];rintro ee wD ⟨tD,rfl⟩))
         have hED:=hEC.trans tD;have hE15D:=hEr.trans hED;have hXD:=hXC.ext tD;have qD2:=mkx QV.mono qC tD;obtain⟨g2,o2,s2,p2,n2,q2,d2,k2,e2,hg2,hX2,hc2,hq2⟩:=hrr.out.rat QV.shaped i hiE;have hr2:=mkx QV.mono hq2 hED;have xAD:=xA15.ext0 hE15D;have y0:=tD.cell m0;have y1:=tD.cell m1;have y2:=tD.cell m2;obtain⟨y3,y4,y5⟩:=hc2.out noY wD hED rfl;have y6:wD.cell? ⟨g13,3,none⟩=some (.slice ro2 n rc2):=xAD.cell 3 rfl;obtain⟨gB,hgB⟩:∃g,wB.heap.size=g:=⟨_,rfl⟩;rw[hgB]at y0 y1 y2;rw[hgB];have bgD:=bg.ext0 hED;have hqD:=mkx QC.mono hqp hED;obtain⟨r,hr⟩:∃r,E[i]=r:=⟨_,rfl⟩;have br:Hid (hq r<=34100000):=hid (by rw[<-hr];exact hf6.out _ (List.getElem_mem _));have hpr:Hid (r/(1 - t)=a2I E L i):=hid (by unfold a2I;rw[ge.out,gl.out,hr]);rw[hr]at hr2;have i2:∀W,(Instr.indexAt 25 (.slice ro2 n rc2) (.int .i64 (i:Int))).run Tryz.prog W= .ok (.pointer (some ⟨g2,o2,none⟩)) W:=by rw[<-hg2];exact a0h a0w ro2 n rc2 .i64 i hhr (by omega)
         have ht1:Hid (fn L i≠1):=hid (by
          rw[gl.out];intro h;rw[h]at hsi';exact hs0 (by rw[<-hsi'.out];decide+kernel))
         have hwS:wD.drew.cell? ⟨g13,3,none⟩=some (.slice ro2 n rc2)/\(wD.drew.cell? ⟨g2,o2,none⟩=some (.bool s2)/\wD.drew.cell? ⟨g2,o2+1,none⟩=some (.slice p2 n2 q2)/\wD.drew.cell? ⟨g2,o2+2,none⟩=some (.slice d2 k2 e2))/\wD.drew.cell? ⟨gB,0,none⟩=some (.bool sB)/\wD.drew.cell? ⟨gB,1,none⟩=some (.slice aB nB cB)/\wD.drew.cell? ⟨gB,2,none⟩=some (.slice dB kB eB):=⟨y6,⟨y3,y4,y5⟩,y0,y1,y2⟩;clear y0 y1 y2 y3 y4 y5 y6 m0 m1 m2 huB z1 z2 hg2 hr hq2 hc2 tB tD hEBC hEA hXA hx5 ho5 qC hXC hEC hgB;refine a0z 8 (fun w'=>w'.cell? ⟨g13,3,none⟩=some (.slice ro2 n rc2)/\(w'.cell? ⟨g2,o2,none⟩=some (.bool s2)/\w'.cell? ⟨g2,o2+1,none⟩=some (.slice p2 n2 q2)/\w'.cell? ⟨g2,o2+2,none⟩=some (.slice d2 k2 e2))/\w'.cell? ⟨gB,0,none⟩=some (.bool sB)/\w'.cell? ⟨gB,1,none⟩=some (.slice aB nB cB)/\w'.cell? ⟨gB,2,none⟩=some (.slice dB kB eB)) (by kernel_rfl) (by kernel_rfl) hwS (fun hHeld hOnce=>?_);clear hwS;obtain⟨W1,hW1⟩:∃W1,wD.drew=W1:=⟨_,rfl⟩;have hE1:Ext wD W1:=by rw[<-hW1];exact(ExtX.refl wD).drew
         rw[hW1]at hHeld |-;clear hW1;have hX1:=hXD.ext hE1;have qr1:=mkx QV.mono hr2 hE1;have qt1:=mkx QV.mono qD2 hE1;refine kt 0 hOnce ?_;refine kt 1 hOnce ?_;refine kt 2 hOnce ?_;refine kt 3 hOnce ?_;refine kt 4 hOnce ?_;refine kt 5 hOnce ?_;refine a0N (i:=6) (j:=7) (oi:=⟨_,_,_,_,_,_⟩) (oj:=⟨_,_,_,_,_,_⟩) (by kernel_rfl) rfl rfl (fun K hK=>?_) (fun K hK=>?_)
         case' refine_1=>
          go_simp
          (go_at_call 123;(with_reducible refine(a6s Zp W1 _ _ _ _ hX1 qr1 qt1).mono ?_);rintro ee w20 ⟨t20,u20,rfl,hu20⟩;rw[hpr.out]at hu20;obtain⟨s20,a20,n20,c20,d20,k20,e20,rfl⟩:=hu20.shape)
          refine kcn hK ⟨t20.cell hHeld.1,⟨t20.cell hHeld.2.1.1,t20.cell hHeld.2.1.2.1,t20.cell hHeld.2.1.2.2⟩,t20.cell hHeld.2.2.1,t20.cell hHeld.2.2.2.1,t20.cell hHeld.2.2.2.2⟩ (fun hHeld=>?_);clear hK K;have bx:=Bx.new w20 #[.bool false, .slice none 0 0, .slice none 0 0] 38;have hal20:Ext w20 _:=(ExtX.refl w20).alloc (.cells #[.bool false, .slice none 0 0, .slice none 0 0] 38);refine ks 7 (fun K hK=>?_);go_simp
          skip
          refine kcn hK ⟨hal20.cell hHeld.1,⟨hal20.cell hHeld.2.1.1,hal20.cell hHeld.2.1.2.1,hal20.cell hHeld.2.1.2.2⟩,hal20.cell hHeld.2.2.1,hal20.cell hHeld.2.2.2.1,hal20.cell hHeld.2.2.2.2⟩ (fun hHeld=>?_);clear hK K;refine kl 8 (fun K hK=>?_)
          (refine a0q rfl rfl a0o rfl rfl bx rfl rfl (a1z _ _ _ _ _ _ _) ?_;intro wE xE yE)
          refine hK.out _ _ ?_;clear hK K
          (try simp only[Act.put])
          have hEE:Ext w20 wE:=ExtX.box hal20 yE (Nat.le_refl _);have hEDE:Ext wD wE:=hE1.trans (t20.trans hEE);have qE:=mkx QC.mono hu20 hEE;obtain⟨gE,hgE⟩:∃g,w20.heap.size=g:=⟨_,rfl⟩;rw[hgE]at xE;rw[hgE];clear bx hal20 yE hEE hu20 hgE t20 hHeld hE1
         case' refine_2=>
          have bx:=Bx.new W1 #[.bool false, .slice none 0 0, .slice none 0 0] 38;obtain⟨W2,hW2,hal2,-,hz2⟩:=a0R W1 #[.bool false, .slice none 0 0, .slice none 0 0] 38;go_simp
          skip
          refine kcn hK ⟨hal2.cell hHeld.1,⟨hal2.cell hHeld.2.1.1,hal2.cell hHeld.2.1.2.1,hal2.cell hHeld.2.1.2.2⟩,hal2.cell hHeld.2.2.1,hal2.cell hHeld.2.2.2.1,hal2.cell hHeld.2.2.2.2⟩ (fun hHeld=>?_);clear hK K;rw[hW2]at bx;have hXu:HX (un Zp (some ⟨W1.heap.size,0,none⟩)) W2:=fun k hk=>by
           simp only[un,Bool.or_eq_true]at hk;rcases hk with h|h
           ·exact(hX1.ext hal2) k h
           ·have:W1.heap.size=k:=by simpa[ob]using h
            rw[<-this];exact bx.lt
          have qr2:QV (mk (un Zp (some ⟨W1.heap.size,0,none⟩)) W2) _ r:=QV.mono _ _ _ _ (a0I hal2 (Nat.le_refl _)) qr1;have qt2:QV (mk (un Zp (some ⟨W1.heap.size,0,none⟩)) W2) _ (1 - t):=QV.mono _ _ _ _ (a0I hal2 (Nat.le_refl _)) qt1;refine ks 6 (fun K hK=>?_);go_simp
          (go_at_call 123;(with_reducible refine(a6s (un Zp (some ⟨W1.heap.size,0,none⟩)) W2 _ _ _ _ hXu qr2 qt2).mono ?_);rintro ee w20 ⟨t20,u20,rfl,hu20⟩;rw[hpr.out]at hu20;obtain⟨s20,a20,n20,c20,d20,k20,e20,rfl⟩:=hu20.shape)
          refine kcn hK ⟨t20.cell hHeld.1,⟨t20.cell hHeld.2.1.1,t20.cell hHeld.2.1.2.1,t20.cell hHeld.2.1.2.2⟩,t20.cell hHeld.2.2.1,t20.cell hHeld.2.2.2.1,t20.cell hHeld.2.2.2.2⟩ (fun hHeld=>?_);clear hK K;have bx':=bx.ext0 t20;refine kl 8 (fun K hK=>?_)
          (refine a0q rfl rfl a0o rfl rfl bx' rfl rfl (a1z _ _ _ _ _ _ _) ?_;intro wE xE yE)
          refine hK.out _ _ ?_;clear hK K
          (try simp only[Act.put])
          have hEDE:Ext wD wE:=hE1.trans (ExtX.box (hal2.trans t20) yE (Nat.le_refl _));have qE:=QC.mono _ _ _ _ (a2c yE (fun k hk=>a0r hk) (fun k hk=>a0i hk)) hu20;obtain⟨gE,hgE⟩:∃g,W1.heap.size=g:=⟨_,rfl⟩;rw[hgE]at xE;rw[hgE];clear bx bx' hal2 yE hu20 hgE t20 hHeld hE1 hXu hz2 hW2 qr2 qt2
         all_goals
          clear hX1 qr1 qt1 i2;have bgE:=bgD.ext0 hEDE;have hXE:=hXD.ext hEDE;have hqE:=(mkx QC.mono hqD hEDE).qv (Nat.le_trans (hpb.out.2 i hi) (by decide));have hpi:=hpb.out.1 i hlt;have hbk:Hid (hq (a2I E L i*a2I E L i)<=68719476736):=hid (Nat.le_trans hpi.2 (by decide));have qE2:=qE.qv (Nat.le_trans hpi.1 (by decide));have hst:Hid ((sm i fun i=>a2I E L i*a2I E L i)+a2I E L i*a2I E L i=sm (i+1) fun i=>a2I E L i*a2I E L i):=hid rfl;obtain⟨D1,hD1⟩:∃D1,(sm i fun i=>a2I E L i*a2I E L i)=D1:=⟨_,rfl⟩;obtain⟨D2,hD2⟩:∃D2,(sm (i+1) fun i=>a2I E L i*a2I E L i)=D2:=⟨_,rfl⟩;obtain⟨pz,hpz⟩:∃pz,a2I E L i=pz:=⟨_,rfl⟩;rw[hD1]at hqE;rw[hD1,hD2,hpz]at hst;rw[hpz]at qE2 hbk;have hD2':=hid hD2;have hEwE:Ext w15 wE:=hE15D.trans hEDE;have hEs:Ext wE wE.drew:=(ExtX.refl wE).drew;have hwS:wE.drew.cell? ⟨gz,10,none⟩=some (.bool s)/\wE.drew.cell? ⟨gz,11,none⟩=some (.slice a n' c')/\wE.drew.cell? ⟨gz,12,none⟩=some (.slice d kk e)/\wE.drew.cell? ⟨gE,0,none⟩=some (.bool s20)/\wE.drew.cell? ⟨gE,1,none⟩=some (.slice a20 n20 c20)/\wE.drew.cell? ⟨gE,2,none⟩=some (.slice d20 k20 e20):=⟨hEs.cell (bgE.cell 10 rfl),hEs.cell (bgE.cell 11 rfl),hEs.cell (bgE.cell 12 rfl),hEs.cell (xE.cell 0 rfl),hEs.cell (xE.cell 1 rfl),hEs.cell (xE.cell 2 rfl)⟩;clear hD1 hD2 hpz qE hpi hXD hqD bgD xE hqp bg;go_upto_region 20 with fail
          refine a0z 7 (fun w'=>w'.cell? ⟨gz,10,none⟩=some (.bool s)/\w'.cell? ⟨gz,11,none⟩=some (.slice a n' c')/\w'.cell? ⟨gz,12,none⟩=some (.slice d kk e)/\w'.cell? ⟨gE,0,none⟩=some (.bool s20)/\w'.cell? ⟨gE,1,none⟩=some (.slice a20 n20 c20)/\w'.cell? ⟨gE,2,none⟩=some (.slice d20 k20 e20)) (by kernel_rfl) (by kernel_rfl) hwS (fun hHeld hOnce=>?_);clear hwS;obtain⟨W3,hW3⟩:∃W3,wE.drew=W3:=⟨_,rfl⟩;rw[hW3]at hHeld hEs |-;clear hW3;have hX3:=hXE.ext hEs;have qz3:=mkx QV.mono qE2 hEs;have qs3:=mkx QV.mono hqE hEs;have bg3:=bgE.ext0 hEs;refine kt 0 hOnce ?_;refine kt 1 hOnce ?_;refine kt 2 hOnce ?_;refine kt 3 hOnce ?_;refine ks 4 (fun K hK=>?_);go_simp
          (go_at_call 124;(with_reducible refine(b4F Zp W3 _ _ _ _ hX3 qz3 qz3).mono ?_);rintro ee w21 ⟨t21,u21,rfl,hu21⟩;obtain⟨s21,a21,n21,c21,d21,k21,e21,rfl⟩:=hu21.shape)
          refine kcn hK ⟨t21.cell hHeld.1,t21.cell hHeld.2.1,t21.cell hHeld.2.2.1,t21.cell hHeld.2.2.2.1,t21.cell hHeld.2.2.2.2.1,t21.cell hHeld.2.2.2.2.2⟩ (fun hHeld=>?_);clear hK K;refine ks 5 (fun K hK=>?_);go_simp
          (go_at_call 77;(with_reducible refine(b1G Zp w21 _ _ _ _ (hX3.ext t21) (mkx QV.mono qs3 t21) (hu21.qv hbk.out)).mono ?_);rintro ee w22 ⟨t22,u22,rfl,hu22⟩;obtain⟨s22,a22,n22,c22,d22,k22,e22,rfl⟩:=hu22.shape;rw[hst.out]at hu22)
          refine kcn hK ⟨t22.cell hHeld.1,t22.cell hHeld.2.1,t22.cell hHeld.2.2.1,t22.cell hHeld.2.2.2.1,t22.cell hHeld.2.2.2.2.1,t22.cell hHeld.2.2.2.2.2⟩ (fun hHeld=>?_);clear hK K;refine kt 6 hOnce ?_;have bg5:=(bg3.ext0 t21).ext0 t22;refine kl 7 (fun K hK=>?_)
          (refine a2R rfl rfl a0o rfl rfl bg5 (by show 10+3<=13;omega) rfl (a1z _ _ _ _ _ _ _) ?_;intro wF xF yF)
          refine hK.out _ _ ?_;clear hK K
          (try simp only[Act.put])
          have xF':Bx wF gz #[.slice bo c bc, .bool s3, .slice a3 n3 c3, .slice d3 k3 e3, .bool false, .slice none 0 0, .slice none 0 0, .bool false, .slice none 0 0, .slice none 0 0, .bool s22, .slice a22 n22 c22, .slice d22 k22 e22] 78:=xF;have hqF:=QC.mono _ _ _ _ (a0v yF hgp.out) hu22;have hXF:=((hX3.ext t21).ext t22).ext yF;have hEF:Ext w15 wF:=ExtX.box (hEwE.trans (hEs.trans (t21.trans t22))) yF hgl;rw[<-hD2'.out]at hqF;have hneF:Hid (∀j,j<i+1->fn L j≠1):=hid fun j hj=>by
           by_cases hji:j=i
           ·rw[hji];exact ht1.out
           ·exact hne.out j (by omega)
          clear xF bg5 bg3 qz3 qs3 hHeld hu21 hu22;go_wp2_with fail
          go_roundw
          case rel=>exact⟨i+1,_,_,_,_,_,_,_,by go_num,by omega,xF',hqF,hXF,hEF,hneF⟩
          case measure=>simp[intOf];omega
       ·obtain rfl:n=i:=by omega
        have bgr:=bg;have hfr:=QC.mono _ _ _ _ (hup.out wr hEr) hfq;have hfv:=hfr.qv (Nat.le_trans hRb.out (by decide));have xAr:=xA15.ext0 hEr;have hw1:IntKind.i64.wrap ((n:Int) - (c:Int))=((n - c:Nat):Int):=by rw[IntWalk.i64_in _ (by omega)];omega
        have hk1:Hid (hq ((((n - c:Nat):Int)):Rat)<=1):=hid (by
         refine a4E _ 1 ?_ (Nat.le_refl _);rw[Int.natAbs_natCast,a1U (by omega) (by omega)];exact Nat.le_refl _)
        have hEd:Ext wr wr.drew:=(ExtX.refl wr).drew;have hXd:=hXr.ext hEd;have hfd:=mkx QV.mono hfv hEd;have hwS:wr.drew.cell? ⟨g13,4,none⟩=some (.bool s3)/\wr.drew.cell? ⟨g13,5,none⟩=some (.slice a3 n3 c3)/\wr.drew.cell? ⟨g13,6,none⟩=some (.slice d3 k3 e3):=⟨hEd.cell (xAr.cell 4 rfl),hEd.cell (xAr.cell 5 rfl),hEd.cell (xAr.cell 6 rfl)⟩;go_upto_region 22 with fail
        (try simp only[Act.put])
        go_cut [20]from 108 to 114 (fun bv wx=>∃(g:Nat) (s:Bool) (a:Option Addr) (n' c':Nat) (d:Option Addr) (kk e:Nat),bv= .pointer (some ⟨g,0,none⟩)/\Bx wx g #[.bool s, .slice a n' c', .slice d kk e] 38/\QC (mk Zp wx) (.agg #[.bool s, .slice a n' c', .slice d kk e]) (R/(((n - c:Nat):Int):Rat))/\Ext wr wx)
        case first=>
         refine a0z 8 (fun w'=>w'.cell? ⟨g13,4,none⟩=some (.bool s3)/\w'.cell? ⟨g13,5,none⟩=some (.slice a3 n3 c3)/\w'.cell? ⟨g13,6,none⟩=some (.slice d3 k3 e3)) (by kernel_rfl) (by kernel_rfl) hwS (fun hHeld hOnce=>?_);obtain⟨W3,hW3⟩:∃W3,wr.drew=W3:=⟨_,rfl⟩;rw[hW3]at hHeld hEd hXd hfd hwS |-;refine kt 0 hOnce ?_;refine kt 1 hOnce ?_;refine kt 2 hOnce ?_;refine kt 3 hOnce ?_;refine kt 4 hOnce ?_;refine a0N (i:=5) (j:=7) (oi:=⟨_,_,_,_,_,_⟩) (oj:=⟨_,_,_,_,_,_⟩) (by kernel_rfl) rfl rfl (fun K hK=>?_) (fun K hK=>?_)
         case' refine_1=>
          go_simp
          (go_at_call 74;(with_reducible refine(a6H Zp W3 ((n - c:Nat):Int) hXd (by omega) (by omega)).mono ?_);rintro ee w24 ⟨t24,u24,rfl,hu24⟩;obtain⟨s24,a24,n24,c24,d24,k24,e24,rfl⟩:=hu24.shape)
          refine kcn hK ⟨t24.cell hHeld.1,t24.cell hHeld.2.1,t24.cell hHeld.2.2⟩ (fun hHeld=>?_);clear hK K;have hX24:=hXd.ext t24;have qa24:=mkx QV.mono hfd t24;have qb24:=hu24.qv (Nat.le_trans hk1.out (by decide));refine a0N (i:=6) (j:=7) (oi:=⟨_,_,_,_,_,_⟩) (oj:=⟨_,_,_,_,_,_⟩) (by kernel_rfl) rfl rfl (fun K hK=>?_) (fun K hK=>?_)
          case' refine_1=>
           go_simp
           (go_at_call 123;(with_reducible refine(a6s Zp w24 _ _ _ _ hX24 qa24 qb24).mono ?_);rintro ee w25 ⟨t25,u25,rfl,hu25⟩;obtain⟨s25,a25,n25,c25,d25,k25,e25,rfl⟩:=hu25.shape)
           refine kcn hK ⟨t25.cell hHeld.1,t25.cell hHeld.2.1,t25.cell hHeld.2.2⟩ (fun hHeld=>?_);clear hK K;have bx:=Bx.new w25 #[.bool false, .slice none 0 0, .slice none 0 0] 38;have hal:Ext w25 _:=(ExtX.refl w25).alloc (.cells #[.bool false, .slice none 0 0, .slice none 0 0] 38);refine ks 7 (fun K hK=>?_);go_simp
           skip
           refine kcn hK ⟨hal.cell hHeld.1,hal.cell hHeld.2.1,hal.cell hHeld.2.2⟩ (fun hHeld=>?_);clear hK K;refine kl 8 (fun K hK=>?_)
           (refine a0q rfl rfl a0o rfl rfl bx rfl rfl (a1z _ _ _ _ _ _ _) ?_;intro wE xE yE)
           refine hK.out _ _ ?_;clear hK K
           (try simp only[Act.put])
           have hEE:Ext W3 wE:=(t24.trans t25).trans (ExtX.box hal yE (Nat.le_refl _));have qE:=mkx QC.mono hu25 (ExtX.box hal yE (Nat.le_refl _));go_wp2_with fail
           go_meet
           case rel=>exact⟨_,_,_,_,_,_,_,_,rfl,xE,qE,hEd.trans hEE⟩
          case' refine_2=>
           have bx:=Bx.new w24 #[.bool false, .slice none 0 0, .slice none 0 0] 38;obtain⟨W2,hW2,hal2,-,-⟩:=a0R w24 #[.bool false, .slice none 0 0, .slice none 0 0] 38;go_simp
           skip
           refine kcn hK ⟨hal2.cell hHeld.1,hal2.cell hHeld.2.1,hal2.cell hHeld.2.2⟩ (fun hHeld=>?_);clear hK K;rw[hW2]at bx;have hXu:=a7i hX24 hal2 bx.lt;have qa2:=QV.mono _ _ _ _ (a0I (X:=Zp) hal2 (Nat.le_refl _)) qa24;have qb2:=QV.mono _ _ _ _ (a0I (X:=Zp) hal2 (Nat.le_refl _)) qb24;refine ks 6 (fun K hK=>?_);go_simp
           (go_at_call 123;(with_reducible refine(a6s _ W2 _ _ _ _ hXu qa2 qb2).mono ?_);rintro ee w25 ⟨t25,u25,rfl,hu25⟩;obtain⟨s25,a25,n25,c25,d25,k25,e25,rfl⟩:=hu25.shape)
           refine kcn hK ⟨t25.cell hHeld.1,t25.cell hHeld.2.1,t25.cell hHeld.2.2⟩ (fun hHeld=>?_);clear hK K;have bx':=bx.ext0 t25;refine kl 8 (fun K hK=>?_)
           (refine a0q rfl rfl a0o rfl rfl bx' rfl rfl (a1z _ _ _ _ _ _ _) ?_;intro wE xE yE)
           refine hK.out _ _ ?_;clear hK K
           (try simp only[Act.put])
           have hEE:Ext W3 wE:=t24.trans (ExtX.box (hal2.trans t25) yE (Nat.le_refl _));have qE:=QC.mono _ _ _ _ (a2c yE (fun k hk=>a0r hk) (fun k hk=>a0i hk)) hu25;go_wp2_with fail
           go_meet
           case rel=>exact⟨_,_,_,_,_,_,_,_,rfl,xE,qE,hEd.trans hEE⟩
         case' refine_2=>
          have bx:=Bx.new W3 #[.bool false, .slice none 0 0, .slice none 0 0] 38;obtain⟨W2,hW2,hal2,-,-⟩:=a0R W3 #[.bool false, .slice none 0 0, .slice none 0 0] 38;go_simp
          skip
          refine kcn hK ⟨hal2.cell hHeld.1,hal2.cell hHeld.2.1,hal2.cell hHeld.2.2⟩ (fun hHeld=>?_);clear hK K;rw[hW2]at bx;have hXu:=a7i hXd hal2 bx.lt;have qa2:=QV.mono _ _ _ _ (a0I (X:=Zp) hal2 (Nat.le_refl _)) hfd;refine ks 5 (fun K hK=>?_);go_simp
          (go_at_call 74;(with_reducible refine(a6H _ W2 ((n - c:Nat):Int) hXu (by omega) (by omega)).mono ?_);rintro ee w24 ⟨t24,u24,rfl,hu24⟩;obtain⟨s24,a24,n24,c24,d24,k24,e24,rfl⟩:=hu24.shape)
          refine kcn hK ⟨t24.cell hHeld.1,t24.cell hHeld.2.1,t24.cell hHeld.2.2⟩ (fun hHeld=>?_);clear hK K;refine ks 6 (fun K hK=>?_);go_simp
          (go_at_call 123;(with_reducible refine(a6s _ w24 _ _ _ _ (hXu.ext t24) (mkx QV.mono qa2 t24) (hu24.qv (Nat.le_trans hk1.out (by decide)))).mono ?_);rintro ee w25 ⟨t25,u25,rfl,hu25⟩;obtain⟨s25,a25,n25,c25,d25,k25,e25,rfl⟩:=hu25.shape)
          refine kcn hK ⟨t25.cell hHeld.1,t25.cell hHeld.2.1,t25.cell hHeld.2.2⟩ (fun hHeld=>?_);clear hK K;have bx':=(bx.ext0 t24).ext0 t25;refine kl 8 (fun K hK=>?_)
          (refine a0q rfl rfl a0o rfl rfl bx' rfl rfl (a1z _ _ _ _ _ _ _) ?_;intro wE xE yE)
          refine hK.out _ _ ?_;clear hK K
          (try simp only[Act.put])
          have hEE:Ext W3 wE:=ExtX.box (hal2.trans (t24.trans t25)) yE (Nat.le_refl _);have qE:=QC.mono _ _ _ _ (a2c yE (fun k hk=>a0r hk) (fun k hk=>a0i hk)) hu25;go_wp2_with fail
          go_meet
          case rel=>exact⟨_,_,_,_,_,_,_,_,rfl,xE,qE,hEd.trans hEE⟩
        case rest=>
         obtain⟨gm,sm,am,nm,cm,dm,km,em,rfl,bm,qm,hEc⟩:=hcut;have hErc:=hEr.trans hEc;have hXc:=hXr.ext hEc;have bgc:=bgr.ext0 hEc;have hle:=hup.out wc hErc;have q1c:=(QC.mono _ _ _ _ hle hone).qv (show hq (1:Rat)<=68719476736 by decide+kernel);have qDc:=QV.mono _ _ _ _ hle qD15;have qRc:=QV.mono _ _ _ _ hle qR15;have x15c:=x15.ext0 hErc;have x4c:=x415.ext0 hErc;have x8c:=x815.ext0 hErc;have xAc:=xA15.ext0 hErc;have hw2:IntKind.i64.wrap ((n:Int) - 1)=((n - 1:Nat):Int):=by rw[IntWalk.i64_in _ (by omega)];omega
         have hk2:Hid (hq ((((n - 1:Nat):Int)):Rat)<=1):=hid (by
          refine a4E _ 1 ?_ (Nat.le_refl _);rw[Int.natAbs_natCast,a1U (by omega) (by omega)];exact Nat.le_refl _)
         obtain⟨V1,hV1⟩:∃V1,((((n - c:Nat):Int)):Rat)=V1:=⟨_,rfl⟩;obtain⟨V2,hV2⟩:∃V2,((((n - 1:Nat):Int)):Rat)=V2:=⟨_,rfl⟩;have hV1':=hid hV1;have hV2':=hid hV2;rw[hV1]at qm hk1;rw[hV2]at hk2;clear hV1 hV2;have hMb:Hid (hq (R/V1)<=700000000):=hid (by have h1:=hq_div R V1;have h2:=hRb.out;have h3:=hk1.out;omega);have hTb:Hid (hq (D/V2)<=200000000):=hid (by have h1:=hq_div D V2;have h2:=hDb.out;have h3:=hk2.out;omega);have hAb:Hid (hq (R/V1/(D/V2))<=1000000000):=hid (by have h1:=hq_div (R/V1) (D/V2);have h2:=hMb.out;have h3:=hTb.out;omega);have qmc:=qm.qv (Nat.le_trans hMb.out (by decide));obtain⟨M,hM⟩:∃M,R/V1=M:=⟨_,rfl⟩;obtain⟨T,hT⟩:∃T,D/V2=T:=⟨_,rfl⟩;have hM':=hid hM;have hT':=hid hT;rw[hM]at hMb hAb qmc;rw[hT]at hTb hAb;have hEd1:Ext wc wc.drew:=(ExtX.refl wc).drew;have hwS1:wc.drew.cell? ⟨g14,0,none⟩=some (.bool s14)/\wc.drew.cell? ⟨g14,1,none⟩=some (.slice a14 n14 c14)/\wc.drew.cell? ⟨g14,2,none⟩=some (.slice d14 k14 e14)/\wc.drew.cell? ⟨gm,0,none⟩=some (.bool sm)/\wc.drew.cell? ⟨gm,1,none⟩=some (.slice am nm cm)/\wc.drew.cell? ⟨gm,2,none⟩=some (.slice dm km em)/\wc.drew.cell? ⟨g4,0,none⟩=some (.bool s4)/\wc.drew.cell? ⟨g4,1,none⟩=some (.slice a4 n4 c4)/\wc.drew.cell? ⟨g4,2,none⟩=some (.slice d4 k4 e4):=⟨hEd1.cell (x15c.cell 0 rfl),hEd1.cell (x15c.cell 1 rfl),hEd1.cell (x15c.cell 2 rfl),hEd1.cell (bm.cell 0 rfl),hEd1.cell (bm.cell 1 rfl),hEd1.cell (bm.cell 2 rfl),hEd1.cell (x4c.cell 0 rfl),hEd1.cell (x4c.cell 1 rfl),hEd1.cell (x4c.cell 2 rfl)⟩;clear hM hT hwS qm hfr hfv xAr hEd hXd hfd;go_upto_region 23 with fail
         (try simp only[Act.put])
         refine a0z 10 (fun w'=>w'.cell? ⟨g14,0,none⟩=some (.bool s14)/\w'.cell? ⟨g14,1,none⟩=some (.slice a14 n14 c14)/\w'.cell? ⟨g14,2,none⟩=some (.slice d14 k14 e14)/\w'.cell? ⟨gm,0,none⟩=some (.bool sm)/\w'.cell? ⟨gm,1,none⟩=some (.slice am nm cm)/\w'.cell? ⟨gm,2,none⟩=some (.slice dm km em)/\w'.cell? ⟨g4,0,none⟩=some (.bool s4)/\w'.cell? ⟨g4,1,none⟩=some (.slice a4 n4 c4)/\w'.cell? ⟨g4,2,none⟩=some (.slice d4 k4 e4)) (by kernel_rfl) (by kernel_rfl) hwS1 (fun hHeld hOnce=>?_);clear hwS1;obtain⟨W4,hW4⟩:∃W4,wc.drew=W4:=⟨_,rfl⟩;rw[hW4]at hHeld hEd1 |-;clear hW4;have hX4:=hXc.ext hEd1;have q14:=mkx QV.mono q1c hEd1;have qm4:=mkx QV.mono qmc hEd1;have qD4:=mkx QV.mono qDc hEd1;have bg4:=bgc.ext0 hEd1;refine kt 0 hOnce ?_;refine kt 1 hOnce ?_;refine kt 2 hOnce ?_;refine kt 3 hOnce ?_;refine kt 4 hOnce ?_;refine ks 5 (fun K hK=>?_);go_simp
         (go_at_call 74;(with_reducible refine(a6H Zp W4 ((n - 1:Nat):Int) hX4 (by omega) (by omega)).mono ?_);rintro ee w31 ⟨t31,u31,rfl,hu31⟩;obtain⟨s31,a31,n31,c31,d31,k31,e31,rfl⟩:=hu31.shape;rw[hV2'.out]at hu31)
         refine kcn hK ⟨t31.cell hHeld.1,t31.cell hHeld.2.1,t31.cell hHeld.2.2.1,t31.cell hHeld.2.2.2.1,t31.cell hHeld.2.2.2.2.1,t31.cell hHeld.2.2.2.2.2.1,t31.cell hHeld.2.2.2.2.2.2.1,t31.cell hHeld.2.2.2.2.2.2.2.1,t31.cell hHeld.2.2.2.2.2.2.2.2⟩ (fun hHeld=>?_);clear hK K;refine ks 6 (fun K hK=>?_);go_simp
         (go_at_call 123;(with_reducible refine(a6s Zp w31 _ _ _ _ (hX4.ext t31) (mkx QV.mono qD4 t31) (hu31.qv (Nat.le_trans hk2.out (by decide)))).mono ?_);rintro ee w32 ⟨t32,u32,rfl,hu32⟩;obtain⟨s32,a32,n32,c32,d32,k32,e32,rfl⟩:=hu32.shape;rw[hT'.out]at hu32)
         refine kcn hK ⟨t32.cell hHeld.1,t32.cell hHeld.2.1,t32.cell hHeld.2.2.1,t32.cell hHeld.2.2.2.1,t32.cell hHeld.2.2.2.2.1,t32.cell hHeld.2.2.2.2.2.1,t32.cell hHeld.2.2.2.2.2.2.1,t32.cell hHeld.2.2.2.2.2.2.2.1,t32.cell hHeld.2.2.2.2.2.2.2.2⟩ (fun hHeld=>?_);clear hK K;have t312:=t31.trans t32;refine ks 7 (fun K hK=>?_);go_simp
         (go_at_call 123;(with_reducible refine(a6s Zp w32 _ _ _ _ (hX4.ext t312) (mkx QV.mono qm4 t312) (hu32.qv (Nat.le_trans hTb.out (by decide)))).mono ?_);rintro ee w33 ⟨t33,u33,rfl,hu33⟩;obtain⟨s33,a33,n33,c33,d33,k33,e33,rfl⟩:=hu33.shape)
         refine kcn hK ⟨t33.cell hHeld.1,t33.cell hHeld.2.1,t33.cell hHeld.2.2.1,t33.cell hHeld.2.2.2.1,t33.cell hHeld.2.2.2.2.1,t33.cell hHeld.2.2.2.2.2.1,t33.cell hHeld.2.2.2.2.2.2.1,t33.cell hHeld.2.2.2.2.2.2.2.1,t33.cell hHeld.2.2.2.2.2.2.2.2⟩ (fun hHeld=>?_);clear hK K;have t313:=t312.trans t33;refine ks 8 (fun K hK=>?_);go_simp
         (go_at_call 76;(with_reducible refine(b8d Zp w33 _ _ _ _ (hX4.ext t313) (mkx QV.mono q14 t313) (hu33.qv (Nat.le_trans hAb.out (by decide)))).mono ?_);rintro ee w34 ⟨t34,u34,rfl,hu34⟩;obtain⟨s34,a34,n34,c34,d34,k34,e34,rfl⟩:=hu34.shape)
         refine kcn hK ⟨t34.cell hHeld.1,t34.cell hHeld.2.1,t34.cell hHeld.2.2.1,t34.cell hHeld.2.2.2.1,t34.cell hHeld.2.2.2.2.1,t34.cell hHeld.2.2.2.2.2.1,t34.cell hHeld.2.2.2.2.2.2.1,t34.cell hHeld.2.2.2.2.2.2.2.1,t34.cell hHeld.2.2.2.2.2.2.2.2⟩ (fun hHeld=>?_);clear hK K;have t314:=t313.trans t34;refine kt 9 hOnce ?_;have bg5:=bg4.ext0 t314;refine kl 10 (fun K hK=>?_)
         (refine a2R rfl rfl a0o rfl rfl bg5 (by show 4+3<=13;omega) rfl (a1z _ _ _ _ _ _ _) ?_;intro wG xG yG)
         refine hK.out _ _ ?_;clear hK K
         (try simp only[Act.put])
         have xG':Bx wG gz #[.slice bo c bc, .bool s3, .slice a3 n3 c3, .slice d3 k3 e3, .bool s34, .slice a34 n34 c34, .slice d34 k34 e34, .bool false, .slice none 0 0, .slice none 0 0, .bool s, .slice a n' c', .slice d kk e] 78:=xG;have hqG:=QC.mono _ _ _ _ (a0v yG hgp.out) hu34;have hEG:Ext w15 wG:=ExtX.box (hErc.trans (hEd1.trans t314)) yG hgl;have hle2:=hup.out wG hEG;have hXG:HX Zp wG:=((hXc.ext hEd1).ext t314).ext yG;have hqP:QC (mk Zp wG) _ _:=QC.mono _ _ _ _ (a0v yG hgp.out) (mkx QC.mono (mkx QC.mono hqp hEc) (hEd1.trans t314));have qRG:=QV.mono _ _ _ _ hle2 qR15;have x8G:=x815.ext0 hEG;have xAG:=xA15.ext0 hEG;have qFG:=(QC.mono _ _ _ _ hle2 hfq).qv (Nat.le_trans hRb.out (by decide));clear xG bg5 bg4 hHeld hu31 hu32 hu33 hu34 q14 qm4 qD4 hX4 q1c qmc qDc qRc x15c x4c x8c xAc bgc bm hXc hqp t31 t32 t33 t34 t312 t313 t314 hEd1 hle hErc;have hEd:Ext wG wG.drew:=(ExtX.refl wG).drew;have hXd:=hXG.ext hEd;have hfd:=mkx QV.mono qRG hEd;have hwS:wG.drew.cell? ⟨g8,0,none⟩=some (.bool s8)/\wG.drew.cell? ⟨g8,1,none⟩=some (.slice a8 n8 c8)/\wG.drew.cell? ⟨g8,2,none⟩=some (.slice d8 k8 e8):=⟨hEd.cell (x8G.cell 0 rfl),hEd.cell (x8G.cell 1 rfl),hEd.cell (x8G.cell 2 rfl)⟩;go_upto_region 24 with fail
         (try simp only[Act.put])
         go_cut [21]from 125 to 130 (fun bv wx=>∃(g:Nat) (s:Bool) (a:Option Addr) (n' c':Nat) (d:Option Addr) (kk e:Nat),bv= .pointer (some ⟨g,0,none⟩)/\Bx wx g #[.bool s, .slice a n' c', .slice d kk e] 38/\QC (mk Zp wx) (.agg #[.bool s, .slice a n' c', .slice d kk e]) (R/(((n - c:Nat):Int):Rat))/\Ext wG wx)
         case first=>
          rw[<-hV1'.out]at hk1;refine a0z 7 (fun w'=>w'.cell? ⟨g8,0,none⟩=some (.bool s8)/\w'.cell? ⟨g8,1,none⟩=some (.slice a8 n8 c8)/\w'.cell? ⟨g8,2,none⟩=some (.slice d8 k8 e8)) (by kernel_rfl) (by kernel_rfl) hwS (fun hHeld hOnce=>?_);obtain⟨W3,hW3⟩:∃W3,wG.drew=W3:=⟨_,rfl⟩;rw[hW3]at hHeld hEd hXd hfd hwS |-;refine kt 0 hOnce ?_;refine kt 1 hOnce ?_;refine kt 2 hOnce ?_;refine kt 3 hOnce ?_;refine a0N (i:=4) (j:=6) (oi:=⟨_,_,_,_,_,_⟩) (oj:=⟨_,_,_,_,_,_⟩) (by kernel_rfl) rfl rfl (fun K hK=>?_) (fun K hK=>?_)
          case' refine_1=>
           go_simp
           (go_at_call 74;(with_reducible refine(a6H Zp W3 ((n - c:Nat):Int) hXd (by omega) (by omega)).mono ?_);rintro ee w24 ⟨t24,u24,rfl,hu24⟩;obtain⟨s24,a24,n24,c24,d24,k24,e24,rfl⟩:=hu24.shape)
           refine kcn hK ⟨t24.cell hHeld.1,t24.cell hHeld.2.1,t24.cell hHeld.2.2⟩ (fun hHeld=>?_);clear hK K;have hX24:=hXd.ext t24;have qa24:=mkx QV.mono hfd t24;have qb24:=hu24.qv (Nat.le_trans hk1.out (by decide));refine a0N (i:=5) (j:=6) (oi:=⟨_,_,_,_,_,_⟩) (oj:=⟨_,_,_,_,_,_⟩) (by kernel_rfl) rfl rfl (fun K hK=>?_) (fun K hK=>?_)
           case' refine_1=>
            go_simp
            (go_at_call 123;(with_reducible refine(a6s Zp w24 _ _ _ _ hX24 qa24 qb24).mono ?_);rintro ee w25 ⟨t25,u25,rfl,hu25⟩;obtain⟨s25,a25,n25,c25,d25,k25,e25,rfl⟩:=hu25.shape)
            refine kcn hK ⟨t25.cell hHeld.1,t25.cell hHeld.2.1,t25.cell hHeld.2.2⟩ (fun hHeld=>?_);clear hK K;have bx:=Bx.new w25 #[.bool false, .slice none 0 0, .slice none 0 0] 38;have hal:Ext w25 _:=(ExtX.refl w25).alloc (.cells #[.bool false, .slice none 0 0, .slice none 0 0] 38);refine ks 6 (fun K hK=>?_);go_simp
            skip
            refine kcn hK ⟨hal.cell hHeld.1,hal.cell hHeld.2.1,hal.cell hHeld.2.2⟩ (fun hHeld=>?_);clear hK K;refine kl 7 (fun K hK=>?_)
            (refine a0q rfl rfl a0o rfl rfl bx rfl rfl (a1z _ _ _ _ _ _ _) ?_;intro wE xE yE)
            refine hK.out _ _ ?_;clear hK K
            (try simp only[Act.put])
            have hEE:Ext W3 wE:=(t24.trans t25).trans (ExtX.box hal yE (Nat.le_refl _));have qE:=mkx QC.mono hu25 (ExtX.box hal yE (Nat.le_refl _));go_wp2_with fail
            go_meet
            case rel=>exact⟨_,_,_,_,_,_,_,_,rfl,xE,qE,hEd.trans hEE⟩
           case' refine_2=>
            have bx:=Bx.new w24 #[.bool false, .slice none 0 0, .slice none 0 0] 38;obtain⟨W2,hW2,hal2,-,-⟩:=a0R w24 #[.bool false, .slice none 0 0, .slice none 0 0] 38;go_simp
            skip
            refine kcn hK ⟨hal2.cell hHeld.1,hal2.cell hHeld.2.1,hal2.cell hHeld.2.2⟩ (fun hHeld=>?_);clear hK K;rw[hW2]at bx;have hXu:=a7i hX24 hal2 bx.lt;have qa2:=QV.mono _ _ _ _ (a0I (X:=Zp) hal2 (Nat.le_refl _)) qa24;have qb2:=QV.mono _ _ _ _ (a0I (X:=Zp) hal2 (Nat.le_refl _)) qb24;refine ks 5 (fun K hK=>?_);go_simp
            (go_at_call 123;(with_reducible refine(a6s _ W2 _ _ _ _ hXu qa2 qb2).mono ?_);rintro ee w25 ⟨t25,u25,rfl,hu25⟩;obtain⟨s25,a25,n25,c25,d25,k25,e25,rfl⟩:=hu25.shape)
            refine kcn hK ⟨t25.cell hHeld.1,t25.cell hHeld.2.1,t25.cell hHeld.2.2⟩ (fun hHeld=>?_);clear hK K;have bx':=bx.ext0 t25;refine kl 7 (fun K hK=>?_)
            (refine a0q rfl rfl a0o rfl rfl bx' rfl rfl (a1z _ _ _ _ _ _ _) ?_;intro wE xE yE)
            refine hK.out _ _ ?_;clear hK K
            (try simp only[Act.put])
            have hEE:Ext W3 wE:=t24.trans (ExtX.box (hal2.trans t25) yE (Nat.le_refl _));have qE:=QC.mono _ _ _ _ (a2c yE (fun k hk=>a0r hk) (fun k hk=>a0i hk)) hu25;go_wp2_with fail
            go_meet
            case rel=>exact⟨_,_,_,_,_,_,_,_,rfl,xE,qE,hEd.trans hEE⟩
          case' refine_2=>
           have bx:=Bx.new W3 #[.bool false, .slice none 0 0, .slice none 0 0] 38;obtain⟨W2,hW2,hal2,-,-⟩:=a0R W3 #[.bool false, .slice none 0 0, .slice none 0 0] 38;go_simp
           skip
           refine kcn hK ⟨hal2.cell hHeld.1,hal2.cell hHeld.2.1,hal2.cell hHeld.2.2⟩ (fun hHeld=>?_);clear hK K;rw[hW2]at bx;have hXu:=a7i hXd hal2 bx.lt;have qa2:=QV.mono _ _ _ _ (a0I (X:=Zp) hal2 (Nat.le_refl _)) hfd;refine ks 4 (fun K hK=>?_);go_simp
           (go_at_call 74;(with_reducible refine(a6H _ W2 ((n - c:Nat):Int) hXu (by omega) (by omega)).mono ?_);rintro ee w24 ⟨t24,u24,rfl,hu24⟩;obtain⟨s24,a24,n24,c24,d24,k24,e24,rfl⟩:=hu24.shape)
           refine kcn hK ⟨t24.cell hHeld.1,t24.cell hHeld.2.1,t24.cell hHeld.2.2⟩ (fun hHeld=>?_);clear hK K;refine ks 5 (fun K hK=>?_);go_simp
           (go_at_call 123;(with_reducible refine(a6s _ w24 _ _ _ _ (hXu.ext t24) (mkx QV.mono qa2 t24) (hu24.qv (Nat.le_trans hk1.out (by decide)))).mono ?_);rintro ee w25 ⟨t25,u25,rfl,hu25⟩;obtain⟨s25,a25,n25,c25,d25,k25,e25,rfl⟩:=hu25.shape)
           refine kcn hK ⟨t25.cell hHeld.1,t25.cell hHeld.2.1,t25.cell hHeld.2.2⟩ (fun hHeld=>?_);clear hK K;have bx':=(bx.ext0 t24).ext0 t25;refine kl 7 (fun K hK=>?_)
           (refine a0q rfl rfl a0o rfl rfl bx' rfl rfl (a1z _ _ _ _ _ _ _) ?_;intro wE xE yE)
           refine hK.out _ _ ?_;clear hK K
           (try simp only[Act.put])
           have hEE:Ext W3 wE:=ExtX.box (hal2.trans (t24.trans t25)) yE (Nat.le_refl _);have qE:=QC.mono _ _ _ _ (a2c yE (fun k hk=>a0r hk) (fun k hk=>a0i hk)) hu25;go_wp2_with fail
           go_meet
           case rel=>exact⟨_,_,_,_,_,_,_,_,rfl,xE,qE,hEd.trans hEE⟩
         case rest=>
          obtain⟨gs,sm,am,nm,cm,dm,km,em,rfl,bm,qm,hEc⟩:=hcut;rw[hV1'.out,hM'.out]at qm;have qmc:=qm.qv (Nat.le_trans hMb.out (by decide));have hXc:=hXG.ext hEc;have bgc:=xG'.ext0 hEc;have xAc:=xAG.ext0 hEc;have qFc:=mkx QV.mono qFG hEc;have hw4:IntKind.i64.wrap (2*(c:Int))=2*(c:Int):=IntWalk.i64_in _ (by omega);have hw5:IntKind.i64.wrap (2*(c:Int) - (n:Int))=2*(c:Int) - (n:Int):=IntWalk.i64_in _ (by omega);have hk5:Hid (hq ((2*(c:Int) - (n:Int):Int):Rat)<=1):=hid (by
           refine a4E _ 1 ?_ (Nat.le_refl _);rcases Nat.eq_zero_or_pos (2*(c:Int) - (n:Int)).natAbs with h0|h0
           ·rw[h0];decide
           ·rw[a1U (by omega) (by omega)];exact Nat.le_refl _)
          obtain⟨V5,hV5⟩:∃V5:Int,2*(c:Int) - (n:Int)=V5:=⟨_,rfl⟩;have hV5b: -9223372036854775808<=V5/\V5<=9223372036854775807:=by omega
          rw[hV5]at hw5 hk5;have hSb:Hid (hq (R/M)<=1500000000):=hid (by have h1:=hq_div R M;have h2:=hRb.out;have h3:=hMb.out;omega);clear hwS qm hEd hXd hfd hw1 hw2;have m0:wc.cell? ⟨g13,4,none⟩=some (.bool s3):=xAc.cell 4 rfl;have m1:wc.cell? ⟨g13,5,none⟩=some (.slice a3 n3 c3):=xAc.cell 5 rfl;have m2:wc.cell? ⟨g13,6,none⟩=some (.slice d3 k3 e3):=xAc.cell 6 rfl;have m3:wc.cell? ⟨gs,0,none⟩=some (.bool sm):=bm.cell 0 rfl;have m4:wc.cell? ⟨gs,1,none⟩=some (.slice am nm cm):=bm.cell 1 rfl;have m5:wc.cell? ⟨gs,2,none⟩=some (.slice dm km em):=bm.cell 2 rfl;have b15c:=b15.ext0 (hEG.trans hEc);go_wp2_with (first
           |(go_at_call 123;(with_reducible refine(a6s Zp wc _ _ _ _ hXc qFc qmc).mono ?_);rintro ee w31 ⟨t31,u31,rfl,hu31⟩;obtain⟨s31,a31,n31,c31,d31,k31,e31,rfl⟩:=hu31.shape;clear m0 m1 m2 m3 m4 m5)
           |(go_at_call 74;(with_reducible refine(a6H Zp w31 V5 (hXc.ext t31) hV5b.1 hV5b.2).mono ?_);rintro ee w32 ⟨t32,u32,rfl,hu32⟩;obtain⟨s32,a32,n32,c32,d32,k32,e32,rfl⟩:=hu32.shape;have t312:=t31.trans t32)
           |(go_at_call 77;(with_reducible refine(b1G Zp w32 _ _ _ _ (hXc.ext t312) ((mkx QC.mono hu31 t32).qv (Nat.le_trans hSb.out (by decide))) (hu32.qv (Nat.le_trans hk5.out (by decide)))).mono ?_);rintro ee w33 ⟨t33,u33,rfl,hu33⟩;obtain⟨s33,a33,n33,c33,d33,k33,e33,rfl⟩:=hu33.shape;have tcH:=t312.trans t33;have bg5:=bgc.ext0 tcH)
           |((with_reducible show wpList _ _ _ (⟨_, .store 38 _ _,_,_,_,_⟩::_) _ _);refine a3O a0o rfl rfl bg5 (by show 7+3<=13;omega) rfl (a1z _ _ _ _ _ _ _) ?_;intro wH xH yH;have xH':Bx wH gz #[.slice bo c bc, .bool s3, .slice a3 n3 c3, .slice d3 k3 e3, .bool s34, .slice a34 n34 c34, .slice d34 k34 e34, .bool s33, .slice a33 n33 c33, .slice d33 k33 e33, .bool s, .slice a n' c', .slice d kk e] 78:=xH;have hEH:Ext w15 wH:=ExtX.box (hEG.trans (hEc.trans tcH)) yH hgl;have b15H:=b15.ext0 hEH;clear xH bg5)
           |((with_reducible show wpList _ _ _ (⟨_, .load 78 _,_,_,_,_⟩::_) _ _);refine a2T a2G rfl xH' rfl ?_)
           |((with_reducible show wpList _ _ _ (⟨_, .store 78 _ _,_,_,_,_⟩::_) _ _);refine a0a a2G rfl rfl b15H rfl rfl a5E ?_;intro wI v1 v2))
          have hqA:=QC.mono _ _ _ _ (a0v yH hgp.out) (mkx QC.mono (mkx QC.mono hqG hEc) tcH);have hqQ:=QC.mono _ _ _ _ (a0v yH hgp.out) (mkx QC.mono (mkx QC.mono hqP hEc) tcH);have hle3:Le (mk Zp wH) (mk X wI):=(a0v v2 (fun k hk=>hZZ.out k (by
           have h1:b=k:=by simpa[ob]using hk
           rw[<-hZ,<-h1];simp[a0e]))).trans (a1v fun k _ hk=>hZZ.out k (by rw[<-hZ];simp[a0e,hk]))
          have hqA':=QC.mono _ _ _ _ hle3 hqA;have hqQ':=QC.mono _ _ _ _ hle3 hqQ;rw[<-hM'.out,<-hT'.out,<-hV1'.out,<-hV2'.out]at hqA';have hD1:D≠0:=fun h=>hD0 (by rw[<-hsg'.out,h];rfl);have hl1:∀i,i<n->fn (a3n x n c) i≠1:=by rw[hEL.out.2];exact hne.out
          have hqP':QC (mk X wI) (.agg #[.bool s, .slice a n' c', .slice d kk e]) (prS (a2q x y (a0S x y n c)) (a3n x n c) n):=by
           rw[hEL.out.1,hEL.out.2];exact hqQ'
          exact bodyPost_ret (a0M rfl rfl a2G v1 rfl) rfl ⟨ExtX.box (hEz15.trans hEH) v2 hbw,Or.inr ⟨by omega,hrk3.out.trans hrke'.out,hD1,hl1,_,_,_,_,_,_,_,_,_,_,_,_,_,_,_,_,_,_,_,_,_,_,_,_,_,_,_,_,_,_,_,rfl,hqA',hqP'⟩⟩
end Go.Proofs.YtgbbpgflopajaaaGreat
namespace Go.Lin
open Go.Lim Go.Rep
def X38:Mat:=[[1,2],[2,1],[2,2]]
def Y38:List Rat:=[1,2,2]
theorem b4t(x:Mat)(y:List Rat)(n:Nat)(s:List Int):0<=a6j x y n s:=by
 unfold a6j;rw[a4S rfl];exact b5E _ _
theorem b4u:Shp 3 2 X38:=⟨rfl,by intro r a;simp[X38]at a;rcases a with rfl|rfl|rfl<;>rfl⟩
theorem b7u:BM 2 X38:=by
 intro r a q hq;have:(X38.all fun r=>r.all fun q=>decide (Go.Lim.hq q<=2))=true:=by decide+kernel
 rw[List.all_eq_true]at this;have:=this r a;rw[List.all_eq_true]at this;simpa using this q hq
theorem b7v:BR 2 Y38:=by
 intro q hq;have:(Y38.all fun q=>decide (Go.Lim.hq q<=2))=true:=by decide+kernel
 rw[List.all_eq_true]at this;simpa using this q hq
theorem c0J:a6j X38 Y38 3 [0]=0:=by
 refine Rat.le_antisymm ?_ (b4t _ _ _ _);have h:=b3H (x:=a1f X38 [0]) (y:=Y38) (n:=3) (c:=1) (a3w b4u [0]) rfl [1];have e:a1Z (a2q (a1f X38 [0]) Y38 [1]) (a2q (a1f X38 [0]) Y38 [1])=0:=by decide+kernel
 rw[e]at h;exact h
theorem c1z{q:Rat}{n:Nat}{t:List (List Int)}(h:a8w (a6j X38 Y38 3) (a1P 2 1 0) q n t):q=0/\∃r,t= [0]::r:=by
 have g:a1P 2 1 0= [[0],[1]]:=by decide
 rw[g]at h;rcases h with⟨h,_⟩|⟨_,⟨s,_,hq⟩,f,_,b⟩
 ·cases h
 ·have c:=f [0] (by simp)
  rw[c0J]at c;have d:0<=q:=by rw[hq];exact b4t _ _ _ _
  have a:q=0:=Rat.le_antisymm c d;refine⟨a,?_⟩;rw[a]at b;have e:([[0],[1]]:List (List Int)).filter (fun s=>decide (a6j X38 Y38 3 s=0))= [0]::([[1]]:List (List Int)).filter (fun s=>decide (a6j X38 Y38 3 s=0)):=by
   rw[List.filter_cons,if_pos (by simp[c0J])]
  rw[e]at b;exact⟨_,by rw[b,List.take_succ_cons]⟩
end Go.Lin
namespace Go.Proofs.YtgbbpgflopajaaaGreat
open Go.RowKit Go.Rep Go.Lim
theorem a8y{a b:List Int}(c:a.length=b.length)(h:∀i (hi:i<a.length) (d:i<b.length),a[i]=b[i]):a=b:=List.ext_getElem c h
theorem b2m(X:Nat->Bool)(ao l:Option Addr)(a b:List Int)(z A:Nat)(w:World)(q:Sl (a0u .i64) 1 (mk X w) ao a)(r:Sl (a0u .i64) 1 (mk X w) l b)(M:a.length<=1099511627776):Calls Tryz.prog 126 #[.slice ao a.length z, .slice l b.length A] w fun e P=>e= .returned (.bool (a==b))/\∃m,P=w.drewN m:=by
 have B:=q.hd;have C:=r.hd;by_cases d:a.length=b.length
 ·have L:b.length<=a.length:=by omega
  have J:a.length<=b.length:=by omega
  have E:((a.length:Int) !=b.length)=false:=a8D (by omega);have k:=hid d;clear d;go_enter Tryz.func126,Tryz.ntmps126
  go_wp2_with fail
  go_loopw [13] (fun c wr=>∃i:Nat,c= .int .i64 i/\i<=a.length/\Hid (∀p,p<i->∀(v:p<a.length) (hq:p<b.length),a[p]=b[p])/\∃m,wr=w.drewN m) (fun c _=>a.length - (intOf c).toNat)
  case atStart=>exact⟨0,rfl,Nat.zero_le _,fun p v=>by omega,0,rfl⟩
  case round=>
   obtain⟨i,rfl,hi,o,j⟩:=hrel;have g:Hid (∃m,wr=w.drewN m):=hid j;have G:Ext w wr:=by
    obtain⟨m,N⟩:=j;rw[N];exact(ExtX.refl w).drewN m
   clear j;by_cases D:i<a.length
   ·have n:i<b.length:=by omega
    have H:=(q.mono (a0u.mono _) (a0m G)).int i D;have I:=(r.mono (a0u.mono _) (a0m G)).int i n;have Q:∀W,(Instr.indexAt 22 (.slice ao a.length z) (.int .i64 (i:Int))).run Tryz.prog W= .ok (.pointer (some (adr ao i))) W:=a0x a2J ao a.length z .i64 i B (by omega) rfl;have R:∀W,(Instr.indexAt 22 (.slice l b.length A) (.int .i64 (i:Int))).run Tryz.prog W= .ok (.pointer (some (adr l i))) W:=a0x a2J l b.length A .i64 i C (by omega) rfl;obtain⟨x,hx⟩:∃x,a[i]=x:=⟨_,rfl⟩;obtain⟨y,F⟩:∃y,b[i]=y:=⟨_,rfl⟩;rw[hx]at H;rw[F]at I;have t:=hid hx;have u:=hid F;clear hx F;by_cases f:x=y
    ·have O:Hid (∀(v:i<a.length) (hq:i<b.length),a[i]=b[i]):=hid fun _ _=>by rw[t.out,u.out,f]
     have K:(x !=y)=false:=a8D (by omega);clear f;go_wp2_with fail
     go_quiet (fail)
     go_wp2_with fail
     go_roundw
     case rel=>exact⟨i+1,by go_num,by omega,a3p o.out O.out,c0x g _⟩
     case measure=>simp[intOf];omega
    ·have s:Hid ((a==b)=false):=hid (by
      cases h:a==b
      ·rfl
      ·have:=eq_of_beq h;subst this;exact absurd (t.out.symm.trans u.out) f)
     have K:(x !=y)=true:=a8A (by omega);clear f;go_wp2_with fail
     go_quiet (fail)
     go_wp2_with fail
     go_ret
     exact⟨a0n s.out.symm,c0x g _⟩
   ·have s:Hid ((a==b)=true):=hid (by rw[a8y k.out fun p v hq=>o.out p (by omega) v hq];simp)
    go_wp2_with fail
    go_ret
    exact⟨a0n s.out.symm,g.out⟩
 ·have E:((a.length:Int) !=b.length)=true:=a8A (by omega)
  have s:Hid ((a==b)=false):=hid (by
   cases h:a==b
   ·rfl
   ·have:=eq_of_beq h;subst this;exact absurd rfl d)
  clear d;go_enter Tryz.func126,Tryz.ntmps126
  go_wp2_with fail
  go_ret
  exact⟨a0n s.out.symm,0,rfl⟩
end Go.Proofs.YtgbbpgflopajaaaGreat
namespace Go.Rep
open Go.RowKit Go.Lim Go.Lin
theorem Sl.size{X:Nat->Bool}{w:World}{ao:Option Addr}{l:List SizeT}(s:Sl a6t 10 (mk X w) ao l)(i:Nat)(hi:i<l.length):∃g o sg a n c d k e j h,adr ao (i*10)=⟨g,o,none⟩/\Hid (∀W',Ext w W'->W'.cell? ⟨g,o,none⟩=some (.int .i64 (l[i].p:Int))/\W'.cell? ⟨g,o+1,none⟩=some (.bool sg)/\W'.cell? ⟨g,o+1+1,none⟩=some (.slice a n c)/\W'.cell? ⟨g,o+1+2,none⟩=some (.slice d k e)/\W'.cell? ⟨g,o+7,none⟩=some (.slice j l[i].t.length h)/\W'.cell? ⟨g,o+8,none⟩=some (.int .i64 (l[i].cnt:Int)))/\ QC (mk X w) (.agg #[.bool sg, .slice a n c, .slice d k e]) l[i].q/\l[i].t.length<=h/\Sl (SlV (a0u .i64) 1) 1 (mk X w) j l[i].t:=by
 obtain⟨u,H,b,sg,a,n,c,d,k,e,L,D,K,E,F,J,G,j,h,rfl,m,I,r,v⟩:=s.2 i hi;have x:=b 0 (by show 0<10;omega);have y:=b 1 (by show 1<10;omega);have z:=b 2 (by show 2<10;omega);have A:=b 3 (by show 3<10;omega);have B:=b 7 (by show 7<10;omega);have C:=b 8 (by show 8<10;omega);exact⟨(adr ao (i*10)).block,(adr ao (i*10)).off,sg,a,n,c,d,k,e,j,h,rfl,hid fun W' f=>⟨f.cell (a1h x),f.cell (a1h y),f.cell (a1h z),f.cell (a1h A),f.cell (a1h B),f.cell (a1h C)⟩,m,r,v⟩
theorem b6A{X:Nat->Bool}{w:World}{e:TypeId}(hX:HX X w){u v t:Value}{x y z:List Rat}(hu:RC (mk X w) u x)(hv:RC (mk X w) v y)(ht:RC (mk X w) t z){arr:Array Value}(harr:arr=(a0j u++a0j v++a0j t).toArray):MC (mk X (w.alloc (.cells arr e))) (.slice (some ⟨w.heap.size,0,none⟩) 3 3) [x,y,z]:=by
 have:=OL.lit (w:=w) (base:=w.heap.size) (e:=e) RC.elem hX (Nat.le_refl _) [u,v,t] [x,y,z] arr (by rw[harr];simp) rfl (fun i hi hi'=>by
  match i,hi with
  |0,_=>exact hu
  |1,_=>exact hv
  |2,_=>exact ht) (by simp)
 exact⟨_,_,rfl,Nat.le_refl _,this.sl RC.elem⟩
theorem a8z{X:Nat->Bool}{w:World}{e:TypeId}(hX:HX X w){u v:Value}{x y:Rat}(hu:QC (mk X w) u x)(hv:QC (mk X w) v y){arr:Array Value}(harr:arr=(a0j u++a0j v).toArray):RC (mk X (w.alloc (.cells arr e))) (.slice (some ⟨w.heap.size,0,none⟩) 2 2) [x,y]:=by
 have:=OL.lit (w:=w) (base:=w.heap.size) (e:=e) QC.elem hX (Nat.le_refl _) [u,v] [x,y] arr (by rw[harr];simp) rfl (fun i hi hi'=>by
  match i,hi with
  |0,_=>exact hu
  |1,_=>exact hv) (by simp)
 exact⟨_,_,rfl,Nat.le_refl _,this.sl QC.elem⟩
theorem b6B{X:Nat->Bool}{w:World}{e:TypeId}(hX:HX X w){u v t:Value}{x y z:Rat}(hu:QC (mk X w) u x)(hv:QC (mk X w) v y)(ht:QC (mk X w) t z){arr:Array Value}(harr:arr=(a0j u++a0j v++a0j t).toArray):RC (mk X (w.alloc (.cells arr e))) (.slice (some ⟨w.heap.size,0,none⟩) 3 3) [x,y,z]:=by
 have:=OL.lit (w:=w) (base:=w.heap.size) (e:=e) QC.elem hX (Nat.le_refl _) [u,v,t] [x,y,z] arr (by rw[harr];simp) rfl (fun i hi hi'=>by
  match i,hi with
  |0,_=>exact hu
  |1,_=>exact hv
  |2,_=>exact ht) (by simp)
 exact⟨_,_,rfl,Nat.le_refl _,this.sl QC.elem⟩
end Go.Rep
namespace Go.Proofs.YtgbbpgflopajaaaGreat
open Go.RowKit Go.Rep Go.Lim Go.Lin
theorem c1A(w:World){o:Bool}{i:Option Addr}{n j:Nat}{k:Option Addr}{m l:Nat}{h:Bool}{a:Option Addr}{g b:Nat}{c:Option Addr}{f d:Nat}(v:QC (mk noY w) (.agg #[.bool o, .slice i n j, .slice k m l]) 1)(r:QC (mk noY w) (.agg #[.bool h, .slice a g b, .slice c f d]) 2):∃W,((((w.alloc (.cells #[.bool o, .slice i n j, .slice k m l, .bool h, .slice a g b, .slice c f d] 38)).alloc (.cells #[.bool h, .slice a g b, .slice c f d, .bool o, .slice i n j, .slice k m l] 38)).alloc (.cells #[.bool h, .slice a g b, .slice c f d, .bool h, .slice a g b, .slice c f d] 38)).alloc (.cells #[.slice (some ⟨w.heap.size,0,none⟩) 2 2, .slice (some ⟨w.heap.size+1,0,none⟩) 2 2, .slice (some ⟨w.heap.size+1+1,0,none⟩) 2 2] 25)).alloc (.cells #[.bool o, .slice i n j, .slice k m l, .bool h, .slice a g b, .slice c f d, .bool h, .slice a g b, .slice c f d] 38)=W/\ Ext w W/\MC (mk noY W) (.slice (some ⟨w.heap.size+1+1+1,0,none⟩) 3 3) X38/\RC (mk noY W) (.slice (some ⟨w.heap.size+1+1+1+1,0,none⟩) 3 3) Y38:=by
 have H:=a8z (e:=38) (arr:=#[.bool o, .slice i n j, .slice k m l, .bool h, .slice a g b, .slice c f d]) (b2r w) v r rfl;obtain⟨I,x,t,_,P⟩:=a0R w #[.bool o, .slice i n j, .slice k m l, .bool h, .slice a g b, .slice c f d] 38;rw[x]at H |-;have C:=a8z (e:=38) (arr:=#[.bool h, .slice a g b, .slice c f d, .bool o, .slice i n j, .slice k m l]) (b2r I) (mkx QC.mono r t) (mkx QC.mono v t) rfl;obtain⟨J,y,F,_,L⟩:=a0R I #[.bool h, .slice a g b, .slice c f d, .bool o, .slice i n j, .slice k m l] 38;rw[y]at C |-;have q:=t.trans F;have D:=a8z (e:=38) (arr:=#[.bool h, .slice a g b, .slice c f d, .bool h, .slice a g b, .slice c f d]) (b2r J) (mkx QC.mono r q) (mkx QC.mono r q) rfl;obtain⟨wc,z,u,_,zc⟩:=a0R J #[.bool h, .slice a g b, .slice c f d, .bool h, .slice a g b, .slice c f d] 38;rw[z]at D |-;rw[P]at C L;rw[L]at D zc;have B:=b6A (e:=25) (arr:=#[.slice (some ⟨w.heap.size,0,none⟩) 2 2, .slice (some ⟨w.heap.size+1,0,none⟩) 2 2, .slice (some ⟨w.heap.size+1+1,0,none⟩) 2 2]) (b2r wc) (mkx RC.mono H (F.trans u)) (mkx RC.mono C u) D rfl;obtain⟨K,A,N,_,M⟩:=a0R wc #[.slice (some ⟨w.heap.size,0,none⟩) 2 2, .slice (some ⟨w.heap.size+1,0,none⟩) 2 2, .slice (some ⟨w.heap.size+1+1,0,none⟩) 2 2] 25;rw[A]at B |-;have p:=(q.trans u).trans N;have E:=b6B (e:=38) (arr:=#[.bool o, .slice i n j, .slice k m l, .bool h, .slice a g b, .slice c f d, .bool h, .slice a g b, .slice c f d]) (b2r K) (mkx QC.mono v p) (mkx QC.mono r p) (mkx QC.mono r p) rfl;obtain⟨O,s,G,_,Q⟩:=a0R K #[.bool o, .slice i n j, .slice k m l, .bool h, .slice a g b, .slice c f d, .bool h, .slice a g b, .slice c f d] 38;rw[s]at E;rw[zc]at B M;rw[M]at E;exact⟨O,s,p.trans G,mkx MC.mono B G,E⟩
theorem a7j(w:World):Calls Tryz.prog 47 #[] w (b2N w true):=by
 go_enter Tryz.func47,Tryz.ntmps47
 go_wp2_with fail
 refine(a4H noY w 1 (b2r w) (by decide) (by decide)).mono ?_;rintro ee w1 ⟨a0,u1,rfl,S⟩;obtain⟨s1,a1,n1,c1,d1,k1,e1,rfl⟩:=S.shape;go_wp2_with fail
 refine(a4H noY w1 2 (b2r w1) (by decide) (by decide)).mono ?_;rintro ee v ⟨I,u2,rfl,T⟩;obtain⟨s2,a2,n2,c2,d2,k2,e2,rfl⟩:=T.shape;obtain⟨W,hW,hE,b0,b1,hz⟩:=a1x v #[.bool false, .slice none 0 0, .slice none 0 0] #[.bool false, .slice none 0 0, .slice none 0 0] 38 38;subst hW;have hz:=hid hz;go_wp2_with ((with_reducible show wpList _ _ _ (⟨_, .store 38 _ _,_,_,_,_⟩::_) _ _);first|(refine a0a a0o rfl rfl b0 rfl rfl (a1z _ _ _ _ _ _ _) ?_;intro w3 p1 p2;have F:=b1.ext p2 (a0b (by omega)))|(refine a0a a0o rfl rfl F rfl rfl (a1z _ _ _ _ _ _ _) ?_;intro E V p4;have X:=p1.ext p4 (a0b (by omega));have z0:=X.cell 0 rfl;have z1:=X.cell 1 rfl;have z2:=X.cell 2 rfl;have z3:=V.cell 0 rfl;have z4:=V.cell 1 rfl;have z5:=V.cell 2 rfl;have hz:=hid (fun p (h:Ext E p)=>(⟨h.cell z0,h.cell z1,h.cell z2,h.cell z3,h.cell z4,h.cell z5⟩:p.cell? ⟨v.heap.size,0,none⟩=some (.bool s1)/\p.cell? ⟨v.heap.size,1,none⟩=some (.slice a1 n1 c1)/\p.cell? ⟨v.heap.size,2,none⟩=some (.slice d1 k1 e1)/\p.cell? ⟨v.heap.size+1,0,none⟩=some (.bool s2)/\p.cell? ⟨v.heap.size+1,1,none⟩=some (.slice a2 n2 c2)/\p.cell? ⟨v.heap.size+1,2,none⟩=some (.slice d2 k2 e2)));have y1:=fun o=>hz.out (E.alloc o) ((ExtX.refl _).alloc _);have y2:=fun o o'=>hz.out ((E.alloc o).alloc o') (((ExtX.refl _).alloc _).alloc _);have y4:=fun o o' o3 o4=>hz.out ((((E.alloc o).alloc o').alloc o3).alloc o4) (((((ExtX.refl _).alloc _).alloc _).alloc _).alloc _)))
 have x:Ext v E:=ExtX.box (ExtX.box hE p2 (Nat.le_refl _)) p4 (by omega);obtain⟨w5,U,a3,K,M⟩:=c1A E (mkx QC.mono S (I.trans x)) (mkx QC.mono T x);rw[U];have hb:=b6z noY w5 _ _ X38 Y38 3 2 2 100 (b2r w5) (K.mv (fun r hr q hq=>Nat.le_trans (b7u r hr q hq) (by decide))) (M.rv (fun q hq=>Nat.le_trans (b7v q hq) (by decide))) (by decide+kernel) b4u (by decide) (by decide) b7u b7v (by decide) (by decide) (by decide) (by decide);have H:=a0.trans (I.trans (x.trans a3));clear y1 y2 y4 hz z0 z1 z2 z3 z4 z5 X p1 p2 V p4 b0 b1 F U;refine hb.mono ?_;rintro e Z ⟨a4,ao,G,L,rfl,b3,hL,y,P⟩;have O:1<L.length:=by omega
 obtain⟨g,o,sg,a,n,c,d,k,e,Y,sc,s,b,hq,b5,B⟩:=y.size 1 O;obtain⟨hp,hI,_⟩:=P 1 O;obtain⟨a6,r,ht⟩:=c1z hI;have hd:Hd ao 3:=by have:=y.hd;rw[hL]at this;exact this
 have i1:∀W,(Instr.indexAt 148 (.slice ao 3 G) (.int .i64 1)).run Tryz.prog W= .ok (.pointer (some ⟨g,o,none⟩)) W:=by rw[<-s];exact a0h b4s ao 3 G .i64 1 hd (by omega)
 rw[hp,ht]at b;rw[a6]at hq;rw[ht]at B;obtain⟨ta,tc,Q,a7,R⟩:=B.slice 0 (by simp);have C:=B.hd;have a8:Hid (([0]::r:List (List Int)).length=r.length+1):=hid rfl;rw[a8.out]at b C;obtain⟨D,u⟩:∃D,r.length+1=D:=⟨_,rfl⟩;rw[u]at b C;have a9:0<D:=by omega
 have b4:decide ((0:Int)<(D:Int))=true:=decide_eq_true (by omega);have A:=a7z noY Z _ 0 (b2r Z) (hq.qv (by rw[a0X];decide));rw[show((0:Rat).num.sign)=0 from rfl]at A;obtain⟨j0,j1,j2,j3,j7,_⟩:=b.out Z (ExtX.refl _);have b2:Z.cell? ⟨g,o,none⟩=some (.int .i64 1):=j0;clear P hI y hL hb K M hp ht s u j0;go_wp2_with fail
 refine A.mono ?_;rintro e f ⟨j,rfl⟩;obtain⟨_,_,_,_,y7,_⟩:=b.out f j;have yt:f.cell? (adr Y 0)=some (.slice ta 1 tc):=j.cell Q;have i2:∀W,(Instr.indexAt 73 (.slice Y D sc) (.int .i64 0)).run Tryz.prog W= .ok (.pointer (some (adr Y 0))) W:=a0x b7q Y D sc .i64 0 C a9 rfl;have t:Sl (a0u .i64) 1 (mk noY (f.alloc (.cells #[.int .i64 0] 3))) (some ⟨f.heap.size,0,none⟩) [0]:=(OL.lit (w:=f) (base:=f.heap.size) (e:=3) (l:=[0]) (a0u.elem .i64) (b2r f) (Nat.le_refl _) [.int .i64 0] #[.int .i64 0] rfl rfl (fun i hi _=>by
  have:i=0:=by simpa using hi
  subst this;rfl) (by simp)).sl (a0u.elem _)
 have J:Ext f (f.alloc (.cells #[.int .i64 0] 3)):=(ExtX.refl _).alloc _;have z:Calls Tryz.prog 126 #[.slice ta 1 tc, .slice (some ⟨f.heap.size,0,none⟩) 1 1] (f.alloc (.cells #[.int .i64 0] 3)) (fun e p=>e= .returned (.bool ([0]==([0]:List Int)))/\∃m,p=(f.alloc (.cells #[.int .i64 0] 3)).drewN m):=b2m noY ta (some ⟨f.heap.size,0,none⟩) [0] [0] tc 1 _ (R.mono (a0u.mono _) (a0m (j.trans J))) t (by decide);have N:(([0]:List Int)==[0])=true:=by decide
 rw[N]at z;clear A j1 j2 j3 j7 b2 t N Q a7 R hq;go_wp2_with fail
 refine z.mono ?_;rintro e w8 ⟨rfl,m,rfl⟩;have a5:=(H.trans (a4.trans (j.trans J))).drewN m;clear z;go_wp2_with fail
 go_ret
 exact⟨a5,rfl⟩
def c1B(X:Nat->Bool)(tb:Nat)(R:Mem->Value->Rat->Prop)(k:Nat)(w:World)(e:Ending)(w':World):Prop:=ExtX (tbm tb) w w'/\a0Z X tb w'/\∃u q,e= .returned u/\R (mk X w') u q/\hq q<=k
theorem a0Z.box{X:Nat->Bool}{c nb:Nat}{w W:World}(h:a0Z X c w)(d:Ext w W):a0Z (a0e X w.heap.size nb) c W:=by
 have b:=h.lt;obtain⟨j,lo,l,a,at_,e,f,g,i⟩:=h;exact⟨b2L j,lo,l,a,at_,by rw[d.block c b rfl];exact e,f,g,i.mono (a0u.mono _) (a0l d)⟩
theorem a0Z.unbox{X:Nat->Bool}{c b nb:Nat}{w:World}(h:a0Z (a0e X b nb) c w)(i:X c=true):a0Z X c w:=by
 obtain⟨_,lo,l,a,at_,d,e,f,g⟩:=h;exact⟨i,lo,l,a,at_,d,e,f,g.mono (a0u.mono _) a0k⟩
theorem a0Z.store{X:Nat->Bool}{a b nb:Nat}{w c:World}(h:a0Z (a0e X b nb) a w)(d:ExtX (ob (some ⟨b,0,Option.none⟩)) w c)(g:0<nb)(f:a≠b):a0Z (a0e X b nb) a c:=
 h.extY d (fun k e=>by
  have:k=b:=by
   have:=e;simp[ob]at this;omega
  subst this;simp[a0e];omega) (a0b f)
theorem _root_.Go.Rep.ExtX.tbox{a b:Nat}{w c d:World}(h:ExtX (tbm a) w c)(e:ExtX (ob (some ⟨b,0,none⟩)) c d)(f:w.heap.size<=b):ExtX (tbm a) w d:=h.then_ e (fun i hi _=>a0b (by omega))
theorem c0K{n:Nat}(h:n<4294967296):lg n<=1:=by
 by_cases a:n=0
 ·subst a;simp[a5H]
 ·rw[a1U (by omega) h];exact Nat.le_refl _
theorem lgI{a:Int}(b: -100000<=a)(c:a<=100000):lg a.natAbs<=1:=c0K (by omega)
theorem b4v{a k:Int}(b: -100000<=a)(c:a<=100000)(d: -100000<=k)(e:k<=100000):hq ((a:Rat)/(k:Rat))<=2:=by
 have:=hq_div (a:Rat) (k:Rat);have:=a4E a 1 (lgI b c) (by omega);have:=a4E k 1 (lgI d e) (by omega);omega
theorem b6C(X:Nat->Bool)(i:Nat)(w:World)(R:a0Z X i w)(hX:HX X w):Calls Tryz.prog 21 #[.pointer (some ⟨i,0,none⟩)] w (c1B X i QC 2 w):=by
 have a0:=R.lt;have D:=R.1;obtain⟨W,hW,P,M,hz⟩:=a0R w #[.bool false, .slice none 0 0, .slice none 0 0] 38;have y:HX (a0e X w.heap.size 1) W:=hX.boxes hz;have C:a0Z (a0e X w.heap.size 1) i W:=R.box P;obtain⟨b,hb⟩:∃b,w.heap.size=b:=⟨_,rfl⟩;have z:w.heap.size<=b:=by omega
 have o:i≠b:=by omega
 have h:b≠i:=by omega
 rw[hb]at M hz y C;have G:ExtX (tbm i) w W:=ExtX.of P;clear P;go_enter Tryz.func21,Tryz.ntmps21
 go_wp2_with fail
 refine(a2z (a0e X b 1) i 8 _ C (by omega)).mono ?_;rintro e w1 ⟨q,A,m,rfl,hm⟩;have N:=M.ext q (a6l h);have v:=y.ext q;have t:=G.trans q;clear M y C G q;by_cases h6:m=6
 ·subst h6
  go_wp2_with fail
  refine(a2z (a0e X b 1) i 13 _ A (by omega)).mono ?_;rintro e L ⟨a,l,J,rfl,H⟩;have r:J<13:=by omega
  have E:=N.ext a (a6l h);have g:=v.ext a;have j:=t.trans a;go_wp2_with fail
  refine(a2z (a0e X b 1) i 6 _ l (by omega)).mono ?_;rintro e S ⟨f,B,m3,rfl,Q⟩;have I:m3<6:=by omega
  have O:=E.ext f (a6l h);have x:=g.ext f;have u:=j.trans f;go_wp2_with fail
  refine(a7A (a0e X b 1) S _ _ x (by omega) (by omega) (by omega) (by omega) (by omega) (Nat.le_trans (lgI (by omega) (by omega)) (by omega)) (Nat.le_trans (lgI (by omega) (by omega)) (by omega))).mono ?_;rintro e w4 ⟨c,u4,rfl,d⟩;obtain⟨s6,T,n6,U,V,Z,Y,rfl⟩:=d.shape;have F:=O.ext0 c;have n:=B.ext c;have k:=u.trans (ExtX.of c);go_wp2_with ((with_reducible show wpList _ _ _ (⟨_, .store _ _ _,_,_,_,_⟩::_) _ _);refine a0a a0o rfl rfl F rfl rfl (a1z _ _ _ _ _ _ _) ?_;intro w7 K p)
  have s:=QC.mono _ _ _ _ a0k (QC.mono _ _ _ _ (a0g p (by omega) (by omega)) d);exact bodyPost_ret (a0d rfl rfl a0o K rfl) rfl ⟨k.tbox p z,(n.store p (by omega) o).unbox D,_,_,rfl,s,b4v (by omega) (by omega) (by omega) (by omega)⟩
 ·by_cases s:m=7
  ·subst s
   go_wp2_with fail
   refine(a2z (a0e X b 1) i 2001 _ A (by omega)).mono ?_;rintro e L ⟨a,l,J,rfl,H⟩;have r:J<2001:=by omega
   have E:=N.ext a (a6l h);have g:=v.ext a;have j:=t.trans a;go_wp2_with fail
   refine(b6m (a0e X b 1) i [1,1,7] _ _ _ L 1 7 l g rfl rfl (by simp) (by simp) (hid (by simp))).mono ?_;rintro e S ⟨f,B,m3,rfl,Q,I⟩;have O:=E.ext f (a6l h);have x:=g.ext f;have u:=j.trans f;go_wp2_with fail
   refine(a7A (a0e X b 1) S _ _ x (by omega) (by omega) (by omega) (by omega) (by omega) (Nat.le_trans (lgI (by omega) (by omega)) (by omega)) (Nat.le_trans (lgI (by omega) (by omega)) (by omega))).mono ?_;rintro e w4 ⟨c,u4,rfl,d⟩;obtain⟨s6,T,n6,U,V,Z,Y,rfl⟩:=d.shape;have F:=O.ext0 c;have n:=B.ext c;have k:=u.trans (ExtX.of c);go_wp2_with ((with_reducible show wpList _ _ _ (⟨_, .store _ _ _,_,_,_,_⟩::_) _ _);refine a0a a0o rfl rfl F rfl rfl (a1z _ _ _ _ _ _ _) ?_;intro w7 K p)
   have s:=QC.mono _ _ _ _ a0k (QC.mono _ _ _ _ (a0g p (by omega) (by omega)) d);exact bodyPost_ret (a0d rfl rfl a0o K rfl) rfl ⟨k.tbox p z,(n.store p (by omega) o).unbox D,_,_,rfl,s,b4v (by omega) (by omega) (by omega) (by omega)⟩
  ·have t6:((m:Int)==6)=false:=a2H (by omega)
   have t7:((m:Int)==7)=false:=a2H (by omega);go_wp2_with fail
   refine(a2z (a0e X b 1) i 9 _ A (by omega)).mono ?_;rintro e L ⟨a,l,J,rfl,H⟩;have r:J<9:=by omega
   have E:=N.ext a (a6l h);have g:=v.ext a;have j:=t.trans a;go_wp2_with fail
   refine(a4H (a0e X b 1) L _ g (by omega) (by omega)).mono ?_;rintro e w4 ⟨c,u4,rfl,d⟩;obtain⟨s6,T,n6,U,V,Z,Y,rfl⟩:=d.shape;have F:=E.ext0 c;have n:=l.ext c;have k:=j.trans (ExtX.of c);go_wp2_with ((with_reducible show wpList _ _ _ (⟨_, .store _ _ _,_,_,_,_⟩::_) _ _);refine a0a a0o rfl rfl F rfl rfl (a1z _ _ _ _ _ _ _) ?_;intro w7 K p)
   have s:=QC.mono _ _ _ _ a0k (QC.mono _ _ _ _ (a0g p (by omega) (by omega)) d);exact bodyPost_ret (a0d rfl rfl a0o K rfl) rfl ⟨k.tbox p z,(n.store p (by omega) o).unbox D,_,_,rfl,s,Nat.le_trans (a4E _ 1 (lgI (by omega) (by omega)) (by omega)) (by omega)⟩
def b9i(X:Nat->Bool)(tb:Nat)(R:Mem->Value->Rat->Prop)(k n:Nat)(w:World)(e:Ending)(w':World):Prop:=ExtX (tbm tb) w w'/\∃(ao:Option Addr) (l:List Rat) (cap:Nat),e= .returned (.slice ao n cap)/\l.length=n/\n<=cap/\BR k l/\a0Z (un X ao) tb w'/\OL R 3 X w.heap.size 38 w' ao cap l
theorem b1A(X:Nat->Bool)(m n:Nat)(w:World)(L:a0Z X m w)(V:HX X w)(hn:n<=1000):Calls Tryz.prog 57 #[.pointer (some ⟨m,0,none⟩), .int .i64 (n:Int)] w (b9i X m QC 2 n w):=by
 have v:=a7d L.1;go_enter Tryz.func57,Tryz.ntmps57
 go_wp2_with fail
 go_loopw [5,6] (fun s c wr=>∃(i:Nat) (j:Option Addr) (z:Nat) (l:List Rat),c= .int .i64 i/\s= .slice j i z/\l.length=i/\i<=n/\BR 2 l/\OL QC 3 X w.heap.size 38 wr j z l/\a0Z (un X j) m wr/\ExtX (tbm m) w wr) (fun _ c _=>n - (intOf c).toNat)
 case atStart=>exact⟨0,none,0,[],rfl,rfl,rfl,Nat.zero_le _,fun x hx=>by simp at hx,OL.nil _ _ _ _ _ _,L.none,ExtX.refl _⟩
 case round=>
  obtain⟨i,j,z,l,rfl,rfl,b,W,P,r,g,A⟩:=hrel;have f:HX X wr:=V.ext A;by_cases Z:i<n
  ·have t:HX (un X j) wr:=r.unX f
   have u:=hid b;clear b;go_wp2_with fail
   refine(b6C (un X j) m _ g t).mono ?_;rintro e w2 ⟨a,M,u6,q,rfl,y,K⟩;obtain⟨s6,R,n6,S,T,k6,U,rfl⟩:=y.shape;have d:=r.ext QC.elem a (fun k _ Y=>v k Y) (fun _ _ h=>h);have F:HX X w2:=f.ext a;have o:=A.trans a;have G:=o.size;clear r g A a f t;go_wp2_with (at_builtin;refine a0t (l:=l) a0w rfl QC.elem (by omega) F i u.out rfl rfl d (.agg #[.bool s6, .slice R n6 S, .slice T k6 U]) q rfl y (by omega) (by omega) ?_;intro O B w7 E p J)
   have D:=o.own d (Nat.le_refl _) p;have N:=M.unstep (d.not_ob L.1) p J;have C:BR 2 (l++[q]):=fun x hx=>by
    rcases List.mem_append.1 hx with h|h
    ·exact P x h
    ·rw[List.mem_singleton.1 h];exact K
   have I:(l++[q]).length=i+1:=by rw[List.length_append,u.out];rfl
   go_roundw
   case rel=>exact⟨i+1,O,B,_,by go_num,by go_num,I,by omega,C,E,N,D⟩
   case measure=>simp[intOf];omega
  ·have H:i=n:=by omega
   subst H;have Q:=r.lenCap;rw[b]at Q;go_wp2_with fail
   go_ret
   exact⟨A,j,l,z,rfl,b,Q,P,g,r⟩
end Go.Proofs.YtgbbpgflopajaaaGreat
namespace Go.Rep
open Go.RowKit Go.Lim
theorem b2n{P:Program}{m:Array Oper}{Q:Exit->Act->World->Prop}{f:List Oper}{a:Act}{w:World}{α:Type}{R:Mem->Value->α->Prop}{sz:Nat}{X:Nat->Bool}{e:TypeId}{d:Option Tmp}{G:TypeId}{ps:String}{v:Array Edge}{t i:Nat}{z:Value}{s x:Operand}{q:Option Addr}{y:Nat}(T:SliceT P t e sz i z)(u:z.cells.size=sz)(C:Elem R sz)(base:Nat)(g:base<=w.heap.size)(D:∀k,X k=true->k<w.heap.size)(p:List α)(n:Nat)(E:p.length=n)(F:a.eval s= .slice none 0 0)(hx:a.eval x= .slice q n y)(hxs:Sl R sz (mk X w) q p)(h:n*i<=140737488355328)(j:n<=9223372036854775807)(K:∀c b o,OL R sz X base e o c b p->n<=b->Ext w o->wpList P m Q f (a.put d (.slice c n b)) o):wpList P m Q (⟨d, .call {callee:= .builtin .append,args:=#[s,x],argTypes:=#[t,t]},G,ps,v,none⟩::f) a w:=by
 subst E;have A:Sl R sz (mk (un X none) w) q p:=by
  have:un X none=X:=by funext k;simp[un,ob]
  rw[this];exact hxs
 refine a4p (l:=[]) T u C g D p F hx (OL.nil _ _ _ _ _ _) A (by simpa using h) (by simpa using j) fun c b o r B _=>?_;rw[List.nil_append]at r |-;exact K c b o r r.lenCap (B.weaken fun _ _ _=>rfl)
theorem Sl.rowsF{R:Mem->Value->Rat->Prop}{h:Mem}{ao:Option Addr}{m:List (List Rat)}(s:Sl (SlV R 3) 1 h ao m):∃f:Nat->Option Addr×Nat,∀i (hi:i<m.length),h (adr ao i)=some (.slice (f i).1 m[i].length (f i).2)/\m[i].length<=(f i).2/\Sl R 3 h (f i).1 m[i]:=by
 have b:∀i,∃p:Option Addr×Nat,∀(hi:i<m.length),h (adr ao i)=some (.slice p.1 m[i].length p.2)/\m[i].length<=p.2/\Sl R 3 h p.1 m[i]:=fun i=>by
  by_cases hi:i<m.length
  ·obtain⟨u,d,a,c,rfl,e,g⟩:=s.cell SlV.one i hi
   exact⟨(a,c),fun _=>⟨d,e,g⟩⟩
  ·exact⟨(none,0),fun h=>absurd h hi⟩
 exact⟨fun i=>(b i).choose,fun i hi=>(b i).choose_spec hi⟩
theorem OL.rowsF{X:Nat->Bool}{base:Nat}{e:TypeId}{w:World}{ao:Option Addr}{d:Nat}{m:List (List Rat)}(s:OL RC 1 X base e w ao d m):∃f:Nat->Option Addr×Nat,∀i (hi:i<m.length),w.cell? (adr ao i)=some (.slice (f i).1 m[i].length (f i).2)/\m[i].length<=(f i).2/\Sl QC 3 (mk (un X ao) w) (f i).1 m[i]:=by
 have b:∀i,∃p:Option Addr×Nat,∀(hi:i<m.length),w.cell? (adr ao i)=some (.slice p.1 m[i].length p.2)/\m[i].length<=p.2/\Sl QC 3 (mk (un X ao) w) p.1 m[i]:=fun i=>by
  by_cases hi:i<m.length
  ·obtain⟨u,g,_,j⟩:=s.cell SlV.one i hi
   obtain⟨a,c,rfl,k,l⟩:=j;exact⟨(a,c),fun _=>⟨g,k,l⟩⟩
  ·exact⟨(none,0),fun h=>absurd h hi⟩
 exact⟨fun i=>(b i).choose,fun i hi=>(b i).choose_spec hi⟩
theorem c0L{ao:Option Addr}{n k:Nat}(hd:Hd ao n)(c:0<n){b:Nat}(a:ob ao b=false):(adr ao k).block≠b:=by
 obtain⟨g,o,rfl⟩:=hd c;intro h;have:g=b:=h;subst this;simp[ob]at a
end Go.Rep
namespace Go.Proofs.YtgbbpgflopajaaaGreat
open Go.RowKit Go.Rep Go.Lim
def pB(k:Nat):Nat:=2^(k+1) - 2
end Go.Proofs.YtgbbpgflopajaaaGreat
