/- law 13: LeastsqGathers returns true. Conditions: none but Go's own. -/
import Derived.Test.YtkddecjkfdogiaaGreatLgO
namespace Go.Proofs.YtkddecjkfdogiaaGreat
open Go.RowKit Go.Rep Go.Lim Go.Lin
theorem a5O {m:List (List a2M)} (h:a4i m=true):m.length<=6/\∀x∈m,x.length<=4/\∀q∈x,Few 2 q:=by
 obtain⟨h1,h2⟩:=of_decide_eq_true h;exact⟨h1,fun x hx=>of_decide_eq_true (h2 x hx)⟩
theorem a4h {l:List a2M} {k:Nat} (h:a1R l k=true):l.length<=k/\∀q∈l,Few 2 q:=of_decide_eq_true h
theorem a3i {k:Nat} {x:a2M} (h:Few k x) (hk:k<=68719476736):Few 68719476736 x:=⟨Nat.le_trans h.1 hk,Nat.le_trans h.2 hk⟩
theorem a7V {m:Mat} {k:Nat} (h:∀r∈m,r.length<=k):colsL m<=k:=by
 cases m with
 |nil=>simp[colsL]
 |cons a m=>exact h a (by simp)
theorem a9o {m:List (List a2M)} {k l:Nat} (h1:m.length<=k) (h2:∀x∈m,x.length<=l/\∀q∈x,Few 2 q):(a9Z m).length<=k/\∀r∈a9Z m,r.length<=l:=by
 refine⟨by rw[a9Z,List.length_map];exact h1,fun r hr=>?_⟩;obtain⟨r',h,rfl⟩:=List.mem_map.1 hr;rw[List.length_map];exact(h2 r' h).1
set_option maxRecDepth 100000 in
set_option maxHeartbeats 6400000 in
theorem a8y (w:World) (ux uy um ur uv:Value) (rx:List (List a2M)) (ry:List a2M) (N:Int) (rxx:List (List a2M)) (rxy:List a2M) (ryy:a2M) (rr:List a2M) (rv:a2M) (ad:Bool)
  (hux:MR (mk noY w) ux rx) (huy:RR (mk noY w) uy ry) (hum:b6y (mk noY w) um N rxx rxy ryy) (hur:RR (mk noY w) ur rr) (huv:QR (mk noY w) uv rv):
  Calls Tryz.prog 12 #[ux,uy,um,ur,uv, .bool ad] w (a6M w true):=by
 obtain⟨xo,xc,yo,yc,ao,c,bo,e,rfl,hxx,hxy,hyy⟩:=hum;obtain⟨ao2,c2,bo2,e2,rfl⟩:=huv.shape;have few6:Hid (ryy.2.1.length<=8/\ryy.2.2.length<=8->Few 8 ryy):=hid fun h=>h;have few8:Hid (rv.2.1.length<=8/\rv.2.2.length<=8->Few 8 rv):=hid fun h=>h;have l3:Hid (rxx.length<=5->rxx.length<=5):=hid fun h=>h;have l4:=hid fun w' (h:Ext w w')=>a5R noY w' _ rxx (mkx MR.mono hxx h);have l5:=hid fun w' (h:Ext w w')=>a3R noY w' _ rxy 5 (mkx RR.mono hxy h) (by omega);obtain⟨xl,hxl⟩:∃xl,rxx.length=xl:=⟨_,rfl⟩;obtain⟨yl,hyl⟩:∃yl,rxy.length=yl:=⟨_,rfl⟩;obtain⟨n,hn⟩:∃n,ryy.2.1.length=n:=⟨_,rfl⟩;obtain⟨k,hk⟩:∃k,ryy.2.2.length=k:=⟨_,rfl⟩;obtain⟨s,hs⟩:∃s,ryy.1=s:=⟨_,rfl⟩;obtain⟨n2,hn2⟩:∃n,rv.2.1.length=n:=⟨_,rfl⟩;obtain⟨k2,hk2⟩:∃k,rv.2.2.length=k:=⟨_,rfl⟩;obtain⟨s2,hs2⟩:∃s,rv.1=s:=⟨_,rfl⟩;rw[hxl]at hxx l4 |-;rw[hyl]at hxy l5 |-;rw[hxl]at l3;rw[hn,hk,hs]at hyy |-;rw[hn2,hk2,hs2]at huv |-;rw[hn,hk]at few6;rw[hn2,hk2]at few8;clear hxl hyl hn hk hs hn2 hk2 hs2;obtain⟨W,hW,hE,b0,b1,hz⟩:=a1t w #[.int .i64 N, .slice xo xl xc, .slice yo yl yc, .bool s, .slice ao n c, .slice bo k e] #[.bool s2, .slice ao2 n2 c2, .slice bo2 k2 e2] 83 32;obtain⟨b,hb⟩:∃b,w.heap.size=b:=⟨_,rfl⟩;rw[hb]at b0 b1;clear hz;have l1:=hid fun w' (h:Ext w w')=>a5R noY w' ux rx (mkx MR.mono hux h);have l2:=hid fun w' (h:Ext w w')=>a3R noY w' uy ry 7 (mkx RR.mono huy h) (by omega);have l6:=hid fun w' (_:Ext w w')=>a6p w' s ao bo n c k e;have l7:=hid fun w' (h:Ext w w')=>a3R noY w' ur rr 5 (mkx RR.mono hur h) (by omega);have l8:=hid fun w' (_:Ext w w')=>a6p w' s2 ao2 bo2 n2 c2 k2 e2;cases h1:a4i rx
 ·rw[h1]at l1
  clear h1 l3 l2 l4 l5 l6 l7 l8 few6 few8 hux huy hxx hxy hyy hur huv;go_enter Tryz.func12,Tryz.ntmps12
  have g:=l1.out W hE;clear l1;go_wp2_with fail
  refine g.mono ?_;rintro ee w1 ⟨hE1,rfl⟩;clear g;have Z1:=hE.trans hE1;go_wp2_with fail
  refine(a1w w1).mono ?_;rintro ee w9 ⟨hE9,rfl⟩;go_wp2_with fail
  go_ret
  exact⟨Z1.trans hE9,rfl⟩
 rw[h1]at l1;cases h2:a1R ry 7
 ·rw[h2]at l2
  clear h1 h2 l3 l4 l5 l6 l7 l8 few6 few8 hux huy hxx hxy hyy hur huv;go_enter Tryz.func12,Tryz.ntmps12
  have g:=l1.out W hE;clear l1;go_wp2_with fail
  refine g.mono ?_;rintro ee w1 ⟨hE1,rfl⟩;clear g;have Z1:=hE.trans hE1;have g:=l2.out w1 Z1;clear l2;go_wp2_with fail
  refine g.mono ?_;rintro ee w2 ⟨hE2,rfl⟩;clear g;have Z2:=Z1.trans hE2;go_wp2_with fail
  refine(a1w w2).mono ?_;rintro ee w9 ⟨hE9,rfl⟩;go_wp2_with fail
  go_ret
  exact⟨Z2.trans hE9,rfl⟩
 rw[h2]at l2;by_cases h3:xl<=5
 rotate_left
 ·have hd:(5:Int)<(xl:Int):=by omega
  have hd2:decide ((5:Int)<(xl:Int))=true:=decide_eq_true hd;clear h1 h2 h3 l3 l4 l5 l6 l7 l8 few6 few8 hux huy hxx hxy hyy hur huv;go_enter Tryz.func12,Tryz.ntmps12
  have g:=l1.out W hE;clear l1;go_wp2_with fail
  refine g.mono ?_;rintro ee w1 ⟨hE1,rfl⟩;clear g;have Z1:=hE.trans hE1;have g:=l2.out w1 Z1;clear l2;go_wp2_with fail
  refine g.mono ?_;rintro ee w2 ⟨hE2,rfl⟩;clear g;have Z2:=Z1.trans hE2;have q0:=b0.ext0 (hE1.trans hE2);have j1:=q0.cell 1 rfl;go_wp2_with fail
  refine(a1w w2).mono ?_;rintro ee w9 ⟨hE9,rfl⟩;go_wp2_with fail
  go_ret
  exact⟨Z2.trans hE9,rfl⟩
 have hd:¬(5:Int)<(xl:Int):=by omega
 have hd2:decide ((5:Int)<(xl:Int))=false:=decide_eq_false hd;cases h4:a4i rxx
 ·rw[h4]at l4
  clear h1 h2 h4 h3 l3 l5 l6 l7 l8 few6 few8 hux huy hxx hxy hyy hur huv;go_enter Tryz.func12,Tryz.ntmps12
  have g:=l1.out W hE;clear l1;go_wp2_with fail
  refine g.mono ?_;rintro ee w1 ⟨hE1,rfl⟩;clear g;have Z1:=hE.trans hE1;have g:=l2.out w1 Z1;clear l2;go_wp2_with fail
  refine g.mono ?_;rintro ee w2 ⟨hE2,rfl⟩;clear g;have Z2:=Z1.trans hE2;have q0:=b0.ext0 (hE1.trans hE2);have j1:=q0.cell 1 rfl;have g:=l4.out w2 Z2;clear l4;go_wp2_with fail
  refine g.mono ?_;rintro ee w4 ⟨hE4,rfl⟩;clear g;have Z4:=Z2.trans hE4;go_wp2_with fail
  refine(a1w w4).mono ?_;rintro ee w9 ⟨hE9,rfl⟩;go_wp2_with fail
  go_ret
  exact⟨Z4.trans hE9,rfl⟩
 rw[h4]at l4;cases h5:a1R rxy 5
 ·rw[h5]at l5
  clear h1 h2 h4 h5 h3 l3 l6 l7 l8 few6 few8 hux huy hxx hxy hyy hur huv;go_enter Tryz.func12,Tryz.ntmps12
  have g:=l1.out W hE;clear l1;go_wp2_with fail
  refine g.mono ?_;rintro ee w1 ⟨hE1,rfl⟩;clear g;have Z1:=hE.trans hE1;have g:=l2.out w1 Z1;clear l2;go_wp2_with fail
  refine g.mono ?_;rintro ee w2 ⟨hE2,rfl⟩;clear g;have Z2:=Z1.trans hE2;have q0:=b0.ext0 (hE1.trans hE2);have j1:=q0.cell 1 rfl;have g:=l4.out w2 Z2;clear l4;go_wp2_with fail
  refine g.mono ?_;rintro ee w4 ⟨hE4,rfl⟩;clear g;have Z4:=Z2.trans hE4;clear j1 q0;have q0:=b0.ext0 (hE1.trans (hE2.trans hE4));have j2:=q0.cell 2 rfl;have g:=l5.out w4 Z4;clear l5;go_wp2_with fail
  refine g.mono ?_;rintro ee w5 ⟨hE5,rfl⟩;clear g;have Z5:=Z4.trans hE5;go_wp2_with fail
  refine(a1w w5).mono ?_;rintro ee w9 ⟨hE9,rfl⟩;go_wp2_with fail
  go_ret
  exact⟨Z5.trans hE9,rfl⟩
 rw[h5]at l5;cases h6:(decide (n<=8)&&decide (k<=8))
 ·rw[h6]at l6
  clear h1 h2 h4 h5 h6 h3 l3 l7 l8 few6 few8 hux huy hxx hxy hyy hur huv;go_enter Tryz.func12,Tryz.ntmps12
  have g:=l1.out W hE;clear l1;go_wp2_with fail
  refine g.mono ?_;rintro ee w1 ⟨hE1,rfl⟩;clear g;have Z1:=hE.trans hE1;have g:=l2.out w1 Z1;clear l2;go_wp2_with fail
  refine g.mono ?_;rintro ee w2 ⟨hE2,rfl⟩;clear g;have Z2:=Z1.trans hE2;have q0:=b0.ext0 (hE1.trans hE2);have j1:=q0.cell 1 rfl;have g:=l4.out w2 Z2;clear l4;go_wp2_with fail
  refine g.mono ?_;rintro ee w4 ⟨hE4,rfl⟩;clear g;have Z4:=Z2.trans hE4;clear j1 q0;have q0:=b0.ext0 (hE1.trans (hE2.trans hE4));have j2:=q0.cell 2 rfl;have g:=l5.out w4 Z4;clear l5;go_wp2_with fail
  refine g.mono ?_;rintro ee w5 ⟨hE5,rfl⟩;clear g;have Z5:=Z4.trans hE5;clear j2 q0;have q0:=b0.ext0 (hE1.trans (hE2.trans (hE4.trans hE5)));have j3:=q0.cell 3 rfl;have j4:=q0.cell 4 rfl;have j5:=q0.cell 5 rfl;have g:=l6.out w5 Z5;clear l6;go_wp2_with fail
  refine g.mono ?_;rintro ee w6 ⟨hE6,rfl⟩;clear g;have Z6:=Z5.trans hE6;go_wp2_with fail
  refine(a1w w6).mono ?_;rintro ee w9 ⟨hE9,rfl⟩;go_wp2_with fail
  go_ret
  exact⟨Z6.trans hE9,rfl⟩
 rw[h6]at l6;cases h7:a1R rr 5
 ·rw[h7]at l7
  clear h1 h2 h4 h5 h6 h7 h3 l3 l8 few6 few8 hux huy hxx hxy hyy hur huv;go_enter Tryz.func12,Tryz.ntmps12
  have g:=l1.out W hE;clear l1;go_wp2_with fail
  refine g.mono ?_;rintro ee w1 ⟨hE1,rfl⟩;clear g;have Z1:=hE.trans hE1;have g:=l2.out w1 Z1;clear l2;go_wp2_with fail
  refine g.mono ?_;rintro ee w2 ⟨hE2,rfl⟩;clear g;have Z2:=Z1.trans hE2;have q0:=b0.ext0 (hE1.trans hE2);have j1:=q0.cell 1 rfl;have g:=l4.out w2 Z2;clear l4;go_wp2_with fail
  refine g.mono ?_;rintro ee w4 ⟨hE4,rfl⟩;clear g;have Z4:=Z2.trans hE4;clear j1 q0;have q0:=b0.ext0 (hE1.trans (hE2.trans hE4));have j2:=q0.cell 2 rfl;have g:=l5.out w4 Z4;clear l5;go_wp2_with fail
  refine g.mono ?_;rintro ee w5 ⟨hE5,rfl⟩;clear g;have Z5:=Z4.trans hE5;clear j2 q0;have q0:=b0.ext0 (hE1.trans (hE2.trans (hE4.trans hE5)));have j3:=q0.cell 3 rfl;have j4:=q0.cell 4 rfl;have j5:=q0.cell 5 rfl;have g:=l6.out w5 Z5;clear l6;go_wp2_with fail
  refine g.mono ?_;rintro ee w6 ⟨hE6,rfl⟩;clear g;have Z6:=Z5.trans hE6;clear j3 j4 j5 q0;have g:=l7.out w6 Z6;clear l7;go_wp2_with fail
  refine g.mono ?_;rintro ee w7 ⟨hE7,rfl⟩;clear g;have Z7:=Z6.trans hE7;go_wp2_with fail
  refine(a1w w7).mono ?_;rintro ee w9 ⟨hE9,rfl⟩;go_wp2_with fail
  go_ret
  exact⟨Z7.trans hE9,rfl⟩
 rw[h7]at l7;cases h8:(decide (n2<=8)&&decide (k2<=8))
 ·rw[h8]at l8
  clear h1 h2 h4 h5 h6 h7 h8 h3 l3 few6 few8 hux huy hxx hxy hyy hur huv;go_enter Tryz.func12,Tryz.ntmps12
  have g:=l1.out W hE;clear l1;go_wp2_with fail
  refine g.mono ?_;rintro ee w1 ⟨hE1,rfl⟩;clear g;have Z1:=hE.trans hE1;have g:=l2.out w1 Z1;clear l2;go_wp2_with fail
  refine g.mono ?_;rintro ee w2 ⟨hE2,rfl⟩;clear g;have Z2:=Z1.trans hE2;have q0:=b0.ext0 (hE1.trans hE2);have j1:=q0.cell 1 rfl;have g:=l4.out w2 Z2;clear l4;go_wp2_with fail
  refine g.mono ?_;rintro ee w4 ⟨hE4,rfl⟩;clear g;have Z4:=Z2.trans hE4;clear j1 q0;have q0:=b0.ext0 (hE1.trans (hE2.trans hE4));have j2:=q0.cell 2 rfl;have g:=l5.out w4 Z4;clear l5;go_wp2_with fail
  refine g.mono ?_;rintro ee w5 ⟨hE5,rfl⟩;clear g;have Z5:=Z4.trans hE5;clear j2 q0;have q0:=b0.ext0 (hE1.trans (hE2.trans (hE4.trans hE5)));have j3:=q0.cell 3 rfl;have j4:=q0.cell 4 rfl;have j5:=q0.cell 5 rfl;have g:=l6.out w5 Z5;clear l6;go_wp2_with fail
  refine g.mono ?_;rintro ee w6 ⟨hE6,rfl⟩;clear g;have Z6:=Z5.trans hE6;clear j3 j4 j5 q0;have g:=l7.out w6 Z6;clear l7;go_wp2_with fail
  refine g.mono ?_;rintro ee w7 ⟨hE7,rfl⟩;clear g;have Z7:=Z6.trans hE7;have q0:=b1.ext0 (hE1.trans (hE2.trans (hE4.trans (hE5.trans (hE6.trans hE7)))));have j0:=q0.cell 0 rfl;have j1:=q0.cell 1 rfl;have j2:=q0.cell 2 rfl;have g:=l8.out w7 Z7;clear l8;go_wp2_with fail
  refine g.mono ?_;rintro ee w8 ⟨hE8,rfl⟩;clear g;have Z8:=Z7.trans hE8;go_wp2_with fail
  refine(a1w w8).mono ?_;rintro ee w9 ⟨hE9,rfl⟩;go_wp2_with fail
  go_ret
  exact⟨Z8.trans hE9,rfl⟩
 rw[h8]at l8;have hF6:=few6.out (by simpa using h6);have hF8:=few8.out (by simpa using h8);obtain⟨hx6,hxf⟩:=a5O h1;obtain⟨hy7,hyf⟩:=a4h h2;obtain⟨hm6,hmf⟩:=a5O h4;obtain⟨hk5,hkf⟩:=a4h h5;obtain⟨hr5,hrf⟩:=a4h h7;have hxB:=hux.bm (fun r hr=>(hxf r hr).2) (by decide);have hyB:=huy.br hyf (by decide);have hxv:=hux.mv fun r hr q hq=>a3i ((hxf r hr).2 q hq) (by decide);have hyv:=huy.rv fun q hq=>a3i (hyf q hq) (by decide);have hmB:=hxx.bm (fun r hr=>(hmf r hr).2) (by decide);have hkB:=hxy.br hkf (by decide);have hmv:=hxx.mv fun r hr q hq=>a3i ((hmf r hr).2 q hq) (by decide);have hkv:=hxy.rv fun q hq=>a3i (hkf q hq) (by decide);have hqB:=hyy.hq hF6 (by decide);have hqv:=hyy.qv (a3i hF6 (by decide));have hrB:=hur.br hrf (by decide);have hrv:=hur.rv fun q hq=>a3i (hrf q hq) (by decide);have hvB:=huv.hq hF8 (by decide);have hvv:=huv.qv (a3i hF8 (by decide));obtain⟨hxl1,hxl2⟩:=a9o hx6 hxf;obtain⟨hml1,hml2⟩:=a9o hm6 hmf;have hrl:(rr.map a9Y).length<=5:=by rw[List.length_map];exact hr5
 obtain⟨M,hM⟩:∃M:Mom,M=⟨N,a9Z rxx,rxy.map a9Y,a9Y ryy⟩:=⟨_,rfl⟩;have hMB:BMo 8 M:=by rw[hM];exact⟨fun r hr q hq=>Nat.le_trans (hmB r hr q hq) (by decide),fun q hq=>Nat.le_trans (hkB q hq) (by decide),hqB⟩
 have hMl:M.xx.length<=1000000:=by rw[hM];show(a9Z rxx).length<=1000000;omega
 have hMc:a2e M=true->M.xx.length<=4:=fun h=>by
  obtain⟨_,_,hsq,_⟩:=a2C h;rw[hsq,hM];exact a7V hml2
 have hMv:Hid (∀w',Ext w w'->a5g (mk noY w') (.agg #[.int .i64 N, .slice xo xl xc, .slice yo yl yc, .bool s, .slice ao n c, .slice bo k e]) M):=hid fun w' h=>by
  rw[hM];exact⟨_,_,_,_,_,_,_,_,_,_,_,_,_,rfl,mkx MV.mono hmv h,mkx RV.mono hkv h,mkx QV.mono hqv h⟩
 clear hM;obtain⟨MG,cG,hBG,G1,G2⟩:=b2R (a9Z rx) (ry.map a9Y) hxl1 (a7V hxl2) hxB hyB;obtain⟨MS,cS,hBS,S1,S2⟩:=b2Q M (rr.map a9Y) (a9Y rv) ad hMB hrB hvB hrl hMl;obtain⟨fL,fQ,fK,fE,⟨hBL,hLl,hBQ⟩,F1,F2⟩:=b2P M hMB hMc hMl;have hg1:=hid fun w' (h:Ext w w')=>G1 w' ux uy (mkx MV.mono hxv h) (mkx RV.mono hyv h);have hg2:=hid fun w' (h:Ext w w')=>G2 w' ux uy (mkx MV.mono hxv h) (mkx RV.mono hyv h);have hs1:=hid fun w' (h:Ext w w')=>S1 w' _ ur _ (hMv.out w' h) (mkx RV.mono hrv h) (mkx QV.mono hvv h);have hs2:=hid fun w' (h:Ext w w')=>S2 w' _ ur _ (hMv.out w' h) (mkx RV.mono hrv h) (mkx QV.mono hvv h);have hf1:=hid fun w' (h:Ext w w')=>F1 w' _ (hMv.out w' h);have hf2:=hid fun w' (h:Ext w w')=>F2 w' _ (hMv.out w' h);have hsg:=hid fun w' u v (h1:a2y (mk noY w') u MG) (h2:a2y (mk noY w') v MG)=>a9r noY w' u v MG h1 h2 hBG.1 hBG.2.1 hBG.2.2.1 hBG.2.2.2;have hss:=hid fun w' u v (h1:a2y (mk noY w') u MS) (h2:a2y (mk noY w') v MS)=>a9r noY w' u v MS h1 h2 hBS.1 hBS.2.1 hBS.2.2.1 hBS.2.2.2;have hsl:=hid fun w' u v (h1:RC (mk noY w') u fL) (h2:RC (mk noY w') v fL)=>a2U noY w' u v fL fL h1 h2 hBL (by omega);have hsq:=hid fun w' u v (h1:QC (mk noY w') u fQ) (h2:QC (mk noY w') v fQ)=>a7U noY w' u v fQ fQ h1 h2 hBQ;simp only[decide_true]at hsl hsq;clear hF6 hF8 hx6 hxf hy7 hyf hm6 hmf hk5 hkf hr5 hrf hxB hyB hxv hyv hmB hkB hmv hkv hqB hqv hrB hrv hvB hvv hxl1 hxl2 hml1 hml2 hrl hMB hMl hMc hMv hBG hBS hBL hLl hBQ G1 G2 S1 S2 F1 F2 M h1 h2 h3 h4 h5 h6 h7 h8 few6 few8 l3 hux huy hxx hxy hyy hur huv;go_enter Tryz.func12,Tryz.ntmps12
 have g:=l1.out W hE;clear l1;go_wp2_with fail
 refine g.mono ?_;rintro ee w1 ⟨hE1,rfl⟩;clear g;have Z1:=hE.trans hE1;have g:=l2.out w1 Z1;clear l2;go_wp2_with fail
 refine g.mono ?_;rintro ee w2 ⟨hE2,rfl⟩;clear g;have Z2:=Z1.trans hE2;have q0:=b0.ext0 (hE1.trans hE2);have j1:=q0.cell 1 rfl;have g:=l4.out w2 Z2;clear l4;go_wp2_with fail
 refine g.mono ?_;rintro ee w4 ⟨hE4,rfl⟩;clear g;have Z4:=Z2.trans hE4;clear j1 q0;have q0:=b0.ext0 (hE1.trans (hE2.trans hE4));have j2:=q0.cell 2 rfl;have g:=l5.out w4 Z4;clear l5;go_wp2_with fail
 refine g.mono ?_;rintro ee w5 ⟨hE5,rfl⟩;clear g;have Z5:=Z4.trans hE5;clear j2 q0;have q0:=b0.ext0 (hE1.trans (hE2.trans (hE4.trans hE5)));have j3:=q0.cell 3 rfl;have j4:=q0.cell 4 rfl;have j5:=q0.cell 5 rfl;have g:=l6.out w5 Z5;clear l6;go_wp2_with fail
 refine g.mono ?_;rintro ee w6 ⟨hE6,rfl⟩;clear g;have Z6:=Z5.trans hE6;clear j3 j4 j5 q0;have g:=l7.out w6 Z6;clear l7;go_wp2_with fail
 refine g.mono ?_;rintro ee w7 ⟨hE7,rfl⟩;clear g;have Z7:=Z6.trans hE7;have q0:=b1.ext0 (hE1.trans (hE2.trans (hE4.trans (hE5.trans (hE6.trans hE7)))));have j0:=q0.cell 0 rfl;have j1:=q0.cell 1 rfl;have j2:=q0.cell 2 rfl;have g:=l8.out w7 Z7;clear l8;go_wp2_with fail
 refine g.mono ?_;rintro ee w8 ⟨hE8,rfl⟩;clear g;have Z8:=Z7.trans hE8;have g:=hg1.out w8 Z8;clear j0 j1 j2 q0 hg1;go_wp2_with fail
 refine g.mono ?_;rintro ee w9 ⟨hE9,m1,rfl,hm1⟩;clear g;have hmA:=hid hm1;obtain⟨xoA,xlA,xcA,yoA,ylA,ycA,sA,aA,nA,cA,dA,kA,eA,rfl,_,_,_⟩:=hm1;have bmA:=Bx.new w9 #[.int .i64 0, .slice none 0 0, .slice none 0 0, .bool false, .slice none 0 0, .slice none 0 0] 83;go_wp2_with (first|((with_reducible show wpList _ _ _ (⟨_, .store 83 _ _,_,_,_,_⟩::_) _ _);refine a0b a0O rfl rfl bmA rfl rfl (by intro v hv;simp at hv;rcases hv with rfl|rfl|rfl|rfl|rfl|rfl<;>rfl) ?_;intro w10 xA yA;have FA:Ext w9 w10:=ExtX.box ((ExtX.refl w9).alloc _) yA (Nat.le_refl _);skip)|fail)
 obtain⟨hA,hhA⟩:∃h,(w9).heap.size=h:=⟨_,rfl⟩;rw[hhA]at xA |-;clear yA bmA hhA;have Z10:=Z8.trans (hE9.trans FA);have g:=hg2.out w10 Z10;clear hg2;refine g.mono ?_;rintro ee w11 ⟨hE11,m2,rfl,hm2⟩;clear g;have Z11:=Z10.trans hE11;have xA:=xA.ext0 hE11;have hz0:Hid (Ext W w11):=hid (hE1.trans (hE2.trans (hE4.trans (hE5.trans (hE6.trans (hE7.trans (hE8.trans (hE9.trans (FA.trans hE11)))))))));have hmB:=hid hm2;obtain⟨xoB,xlB,xcB,yoB,ylB,ycB,sB,aB,nB,cB,dB,kB,eB,rfl,_,_,_⟩:=hm2;have bmB:=Bx.new w11 #[.int .i64 0, .slice none 0 0, .slice none 0 0, .bool false, .slice none 0 0, .slice none 0 0] 83;go_wp2_with (first|((with_reducible show wpList _ _ _ (⟨_, .store 83 _ _,_,_,_,_⟩::_) _ _);refine a0b a0O rfl rfl bmB rfl rfl (by intro v hv;simp at hv;rcases hv with rfl|rfl|rfl|rfl|rfl|rfl<;>rfl) ?_;intro w12 xB yB;have FB:Ext w11 w12:=ExtX.box ((ExtX.refl w11).alloc _) yB (Nat.le_refl _);have q0:=b0.ext0 (hz0.out.trans FB);have q1:=b1.ext0 (hz0.out.trans FB);have p0:=q0.cell 0 rfl;have p1:=q0.cell 1 rfl;have p2:=q0.cell 2 rfl;have p3:=q0.cell 3 rfl;have p4:=q0.cell 4 rfl;have p5:=q0.cell 5 rfl;have r0:=q1.cell 0 rfl;have r1:=q1.cell 1 rfl;have r2:=q1.cell 2 rfl)|fail)
 obtain⟨hB,hhB⟩:∃h,(w11).heap.size=h:=⟨_,rfl⟩;rw[hhB]at xB |-;clear yB bmB hhB;have Z12:=Z11.trans FB;have xA:=xA.ext0 FB;have g:=hs1.out w12 Z12;clear hs1;refine g.mono ?_;rintro ee w13 ⟨hE13,m3,rfl,hm3⟩;clear g;clear p0 p1 p2 p3 p4 p5 r0 r1 r2 q0 q1;have Z13:=Z12.trans hE13;have xA:=xA.ext0 hE13;have xB:=xB.ext0 hE13;have hz0:Hid (Ext W w13):=hid (hz0.out.trans (FB.trans hE13));have hmC:=hid hm3;obtain⟨xoC,xlC,xcC,yoC,ylC,ycC,sC,aC,nC,cC,dC,kC,eC,rfl,_,_,_⟩:=hm3;have bmC:=Bx.new w13 #[.int .i64 0, .slice none 0 0, .slice none 0 0, .bool false, .slice none 0 0, .slice none 0 0] 83;go_wp2_with (first|((with_reducible show wpList _ _ _ (⟨_, .store 83 _ _,_,_,_,_⟩::_) _ _);refine a0b a0O rfl rfl bmC rfl rfl (by intro v hv;simp at hv;rcases hv with rfl|rfl|rfl|rfl|rfl|rfl<;>rfl) ?_;intro w14 xC yC;have FC:Ext w13 w14:=ExtX.box ((ExtX.refl w13).alloc _) yC (Nat.le_refl _);have q0:=b0.ext0 (hz0.out.trans FC);have q1:=b1.ext0 (hz0.out.trans FC);have p0:=q0.cell 0 rfl;have p1:=q0.cell 1 rfl;have p2:=q0.cell 2 rfl;have p3:=q0.cell 3 rfl;have p4:=q0.cell 4 rfl;have p5:=q0.cell 5 rfl;have r0:=q1.cell 0 rfl;have r1:=q1.cell 1 rfl;have r2:=q1.cell 2 rfl)|fail)
 obtain⟨hC,hhC⟩:∃h,(w13).heap.size=h:=⟨_,rfl⟩;rw[hhC]at xC |-;clear yC bmC hhC;have Z14:=Z13.trans FC;have xA:=xA.ext0 FC;have xB:=xB.ext0 FC;have g:=hs2.out w14 Z14;clear hs2;refine g.mono ?_;rintro ee w15 ⟨hE15,m4,rfl,hm4⟩;clear g;clear p0 p1 p2 p3 p4 p5 r0 r1 r2 q0 q1;have Z15:=Z14.trans hE15;have xA:=xA.ext0 hE15;have xB:=xB.ext0 hE15;have xC:=xC.ext0 hE15;have hz0:Hid (Ext W w15):=hid (hz0.out.trans (FC.trans hE15));have hmD:=hid hm4;obtain⟨xoD,xlD,xcD,yoD,ylD,ycD,sD,aD,nD,cD,dD,kD,eD,rfl,_,_,_⟩:=hm4;have bmD:=Bx.new w15 #[.int .i64 0, .slice none 0 0, .slice none 0 0, .bool false, .slice none 0 0, .slice none 0 0] 83;go_wp2_with (first|((with_reducible show wpList _ _ _ (⟨_, .store 83 _ _,_,_,_,_⟩::_) _ _);refine a0b a0O rfl rfl bmD rfl rfl (by intro v hv;simp at hv;rcases hv with rfl|rfl|rfl|rfl|rfl|rfl<;>rfl) ?_;intro w16 xD yD;have FD:Ext w15 w16:=ExtX.box ((ExtX.refl w15).alloc _) yD (Nat.le_refl _);have q0:=b0.ext0 (hz0.out.trans FD);have p0:=q0.cell 0 rfl;have p1:=q0.cell 1 rfl;have p2:=q0.cell 2 rfl;have p3:=q0.cell 3 rfl;have p4:=q0.cell 4 rfl;have p5:=q0.cell 5 rfl)|fail)
 obtain⟨hD,hhD⟩:∃h,(w15).heap.size=h:=⟨_,rfl⟩;rw[hhD]at xD |-;clear yD bmD hhD;have Z16:=Z15.trans FD;have xA:=xA.ext0 FD;have xB:=xB.ext0 FD;have xC:=xC.ext0 FD;have g:=hf1.out w16 Z16;clear hf1;refine g.mono ?_;rintro ee w17 ⟨hE17,cv1,rv1,rfl,hcv1,hrv1⟩;clear g;clear p0 p1 p2 p3 p4 p5 q0;have Z17:=Z16.trans hE17;have hz0:Hid (Ext W w17):=hid (hz0.out.trans (FD.trans hE17));have xA:=xA.ext0 hE17;have xB:=xB.ext0 hE17;have xC:=xC.ext0 hE17;have xD:=xD.ext0 hE17;obtain⟨s5P,a5P,n5P,c5P,d5P,k5P,e5P,rfl⟩:=hrv1.shape;have bR:=Bx.new w17 #[.bool false, .slice none 0 0, .slice none 0 0] 32;go_wp2_with ((with_reducible show wpList _ _ _ (⟨_, .store 32 _ _,_,_,_,_⟩::_) _ _);refine a0b a0u rfl rfl bR rfl rfl (a2B _ _ _ _ _ _ _) ?_;intro w18 xP yR;have FP:Ext w17 w18:=ExtX.box ((ExtX.refl w17).alloc _) yR (Nat.le_refl _);have q0:=b0.ext0 (hz0.out.trans FP);have p0:=q0.cell 0 rfl;have p1:=q0.cell 1 rfl;have p2:=q0.cell 2 rfl;have p3:=q0.cell 3 rfl;have p4:=q0.cell 4 rfl;have p5:=q0.cell 5 rfl)
 obtain⟨hP,hR⟩:∃h,w17.heap.size=h:=⟨_,rfl⟩;rw[hR]at xP |-;clear yR bR hR;have Z18:=Z17.trans FP;have xA:=xA.ext0 FP;have xB:=xB.ext0 FP;have xC:=xC.ext0 FP;have xD:=xD.ext0 FP;have g:=hf2.out w18 Z18;clear hf2;refine g.mono ?_;rintro ee w19 ⟨hE19,cv2,rv2,rfl,hcv2,hrv2⟩;clear g;clear p0 p1 p2 p3 p4 p5 q0;have Z19:=Z18.trans hE19;have xA:=xA.ext0 hE19;have xB:=xB.ext0 hE19;have xC:=xC.ext0 hE19;have xD:=xD.ext0 hE19;have xP:=xP.ext0 hE19;obtain⟨s5Q,a5Q,n5Q,c5Q,d5Q,k5Q,e5Q,rfl⟩:=hrv2.shape;have bR:=Bx.new w19 #[.bool false, .slice none 0 0, .slice none 0 0] 32;go_wp2_with ((with_reducible show wpList _ _ _ (⟨_, .store 32 _ _,_,_,_,_⟩::_) _ _);refine a0b a0u rfl rfl bR rfl rfl (a2B _ _ _ _ _ _ _) ?_;intro w20 xQ yR;have FQ:Ext w19 w20:=ExtX.box ((ExtX.refl w19).alloc _) yR (Nat.le_refl _))
 obtain⟨hQ,hR⟩:∃h,w19.heap.size=h:=⟨_,rfl⟩;rw[hR]at xQ |-;clear yR bR hR;have Z20:=Z19.trans FQ;have xA:=xA.ext0 FQ;have xB:=xB.ext0 FQ;have xC:=xC.ext0 FQ;have xD:=xD.ext0 FQ;have xP:=xP.ext0 FQ;refine(a1w w20).mono ?_;rintro ee w21 ⟨hE21,rfl⟩;have Z21:=Z20.trans hE21;have xA:=xA.ext0 hE21;have xB:=xB.ext0 hE21;have xC:=xC.ext0 hE21;have xD:=xD.ext0 hE21;have xP:=xP.ext0 hE21;have xQ:=xQ.ext0 hE21;have U20:=FQ.trans hE21;have U18:=FP.trans (hE19.trans U20);have U16:=FD.trans (hE17.trans U18);have U14:=FC.trans (hE15.trans U16);have U12:=FB.trans (hE13.trans U14);have U10:=FA.trans (hE11.trans U12);have p0:=xA.cell 0 rfl;have p1:=xA.cell 1 rfl;have p2:=xA.cell 2 rfl;have p3:=xA.cell 3 rfl;have p4:=xA.cell 4 rfl;have p5:=xA.cell 5 rfl;have r0:=xB.cell 0 rfl;have r1:=xB.cell 1 rfl;have r2:=xB.cell 2 rfl;have r3:=xB.cell 3 rfl;have r4:=xB.cell 4 rfl;have r5:=xB.cell 5 rfl;have g:=hsg.out w21 _ _ (mkx a2y.mono hmA.out U10) (mkx a2y.mono hmB.out U12);clear hsg;go_wp2_with fail
 refine g.mono ?_;rintro ee w22 ⟨hE22,rfl⟩;clear g p0 p1 p2 p3 p4 p5 r0 r1 r2 r3 r4 r5 xA xB;have xC:=xC.ext0 hE22;have xD:=xD.ext0 hE22;have xP:=xP.ext0 hE22;have xQ:=xQ.ext0 hE22;have p0:=xC.cell 0 rfl;have p1:=xC.cell 1 rfl;have p2:=xC.cell 2 rfl;have p3:=xC.cell 3 rfl;have p4:=xC.cell 4 rfl;have p5:=xC.cell 5 rfl;have r0:=xD.cell 0 rfl;have r1:=xD.cell 1 rfl;have r2:=xD.cell 2 rfl;have r3:=xD.cell 3 rfl;have r4:=xD.cell 4 rfl;have r5:=xD.cell 5 rfl;have g:=hss.out w22 _ _ (mkx a2y.mono hmC.out (U14.trans hE22)) (mkx a2y.mono hmD.out (U16.trans hE22));clear hss;go_wp2_with fail
 refine g.mono ?_;rintro ee w23 ⟨hE23,rfl⟩;clear g p0 p1 p2 p3 p4 p5 r0 r1 r2 r3 r4 r5 xC xD;have xP:=xP.ext0 hE23;have xQ:=xQ.ext0 hE23;have U18b:=U18.trans (hE22.trans hE23);have U20b:=U20.trans (hE22.trans hE23);have g:=hsl.out w23 cv1 cv2 (mkx RC.mono hcv1 U18b) (mkx RC.mono hcv2 U20b);clear hsl;go_wp2_with fail
 refine g.mono ?_;rintro ee w24 ⟨hE24,rfl⟩;clear g;have xP:=xP.ext0 hE24;have xQ:=xQ.ext0 hE24;have p0:=xP.cell 0 rfl;have p1:=xP.cell 1 rfl;have p2:=xP.cell 2 rfl;have r0:=xQ.cell 0 rfl;have r1:=xQ.cell 1 rfl;have r2:=xQ.cell 2 rfl;have g:=hsq.out w24 _ _ (mkx QC.mono hrv1 (U18b.trans hE24)) (mkx QC.mono hrv2 (U20b.trans hE24));clear hsq;go_wp2_with fail
 refine g.mono ?_;rintro ee w25 ⟨hE25,rfl⟩;clear g p0 p1 p2 r0 r1 r2 xP xQ;go_wp2_with fail
 go_ret
 exact⟨Z21.trans (hE22.trans (hE23.trans (hE24.trans hE25))),rfl⟩
end Go.Proofs.YtkddecjkfdogiaaGreat
