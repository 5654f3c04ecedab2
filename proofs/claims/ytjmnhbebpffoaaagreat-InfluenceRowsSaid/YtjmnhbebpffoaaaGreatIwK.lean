/- Parts of a proof: each theorem states what it proves, and its conditions. -/
import Derived.Test.YtjmnhbebpffoaaaGreatIwJ
set_option maxRecDepth 100000
set_option maxHeartbeats 12800000
namespace Go.Proofs.YtjmnhbebpffoaaaGreat
open Go.RowKit
theorem b1O(X:Nat->Bool)(w:World)(u r t:Value)(m:Mom)(row:List Rat)(v:Rat)(sg:Int)(n B:Nat)(hX:HX X w)(hu:b7S (mk X w) u m)(hr:RV (mk X w) r row)(ht:QV (mk X w) t v)(hsx:Shp n n m.xx)(hsy:m.xy.length=n)(hrl:row.length=n)(hn:n<=12)(hN1: -1<=m.n)(hN2:m.n<=1099511627777)(hsg:sg=1\/sg= -1)(_hBm:BMo B m)(hBr:BR B row)(hBv:hq v<=B)(hB:B<=1000000):Calls Tryz.prog 151 #[u,r,t,.int .i64 sg] w (a2b X w a8V (shM m row v sg)):=by
 obtain⟨xo,xl,xc,yo,yl,yc,s,a,n0,c,d,k,e,rfl,hx,hy,hqq⟩:=hu;obtain⟨s2,a2,n2,c2,d2,k2,e2,rfl⟩:=ht.shape;obtain⟨W,hW,hE,b0,b1,b2,hz⟩:=a2r w #[.int .i64 m.n,.slice xo xl xc,.slice yo yl yc,.bool s,.slice a n0 c,.slice d k e] #[.bool s2,.slice a2 n2 c2,.slice d2 k2 e2] #[.int .i64 0,.slice none 0 0,.slice none 0 0,.bool false,.slice none 0 0,.slice none 0 0] 124 47 124;have hXW:HX (a0f X w.heap.size 3) W:=hX.boxes hz;have hle:Hid (∀w',Ext W w'->Le (mk X w) (mk (a0f X w.heap.size 3) w')):=hid fun w' h=>a0i (hE.trans h);obtain⟨b,hb⟩:=c1F w.heap.size;rw[hb]at b0 b1 b2 hz hXW hle;obtain⟨Z0,hZ0⟩:=c1F (a0f X b 3);rw[hZ0]at hXW hle;have hsgq:hq ((sg:Int):Rat)<=1:=by rcases hsg with rfl|rfl<;>decide+kernel
 have hB2:hq (v*v)<=2000000:=c1A (hq_mul _ _) (by omega);have hB3:hq ((sg:Rat)*(v*v))<=2000001:=c1A (hq_mul _ _) (by omega);have hwr:IntKind.i64.wrap (m.n+sg)=m.n+sg:=IntWalk.i64_in _ (by rcases hsg with rfl|rfl<;>omega);have hsg1: -9223372036854775808<=sg/\sg<=9223372036854775807:=by rcases hsg with rfl|rfl<;>omega
 obtain⟨N,hN⟩:=c1F m.n;rw[hN]at b0 hW hwr |-;obtain⟨N',hN'⟩:∃N',N+sg=N':=⟨_,rfl⟩;have hNs:=hid hN';have hNe:Hid (m.n+sg=N'):=hid (by rw[hN,hN']);clear hN1 hN2 hsg hN hN';have hf:=a8G Z0 W sg hXW hsg1.1 hsg1.2;clear hsg1;obtain⟨F,hF⟩:=c1F (a2b X w a8V (shM m row v sg));rw[hF];have hF':=hid hF;clear hF;go_enter Tryz.func151,Tryz.ntmps151
 go_wp2_with fail
 refine hf.mono ?_;rintro ee w2 ⟨hE2,u2,rfl,hu2⟩;obtain⟨s9,a9,n9,c9,d9,k9,e9,rfl⟩:=hu2.shape;have bf:=Bx.new w2 #[.bool false,.slice none 0 0,.slice none 0 0] 47;clear hf;go_upto_region 1 with((with_reducible refine c1J (t:=47) ?_);refine a0a a0p rfl rfl bf rfl rfl a1s ?_;intro w3 y1 y2)
 have hE23:=c1M y2;have hEW3:=hE2.trans hE23;have hs3:=mkx QC.mono hu2 hE23;have hX3:HX Z0 w3:=hXW.ext hEW3;have m3:=b0.ext0 hEW3;have v3:=b1.ext0 hEW3;have t3:=b2.ext0 hEW3;obtain⟨fb,hfb⟩:=c1F w2.heap.size;rw[hfb]at y1 |-;have hxv:=MV.mono _ _ _ _ (hle.out w3 hEW3) hx;have hyv:=RV.mono _ _ _ _ (hle.out w3 hEW3) hy;have hqv:=QV.mono _ _ _ _ (hle.out w3 hEW3) hqq;have htv:=QV.mono _ _ _ _ (hle.out w3 hEW3) ht;have hrv:=RV.mono _ _ _ _ (hle.out w3 hEW3) hr;have hsv:QV (mk Z0 w3) (.agg #[.bool s9,.slice a9 n9 c9,.slice d9 k9 e9]) (sg:Rat):=hs3.qv (by omega);have hE03:Ext w w3:=hE.trans hEW3;have hE0:=c1L w3;have hX0:HX Z0 w3.drew:=hX3.ext hE0;have hc0:=hid fun Z w' (hZ:HX Z w') (hl:Le (mk Z0 w3.drew) (mk Z w'))=>a9E Z w' _ _ v v hZ (QV.mono _ _ _ _ hl (mkx QV.mono htv hE0)) (QV.mono _ _ _ _ hl (mkx QV.mono htv hE0));have hc1:=hid fun Z w' (hZ:HX Z w') (hl:Le (mk Z0 w3.drew) (mk Z w')) (u:Value) (h:QC (mk Z w') u (v*v))=>a9E Z w' _ u _ _ hZ (QV.mono _ _ _ _ hl (mkx QV.mono hsv hE0)) (h.qv (c1A hB2 (by decide)));have hc2:=hid fun Z w' (hZ:HX Z w') (hl:Le (mk Z0 w3.drew) (mk Z w')) (u:Value) (h:QC (mk Z w') u ((sg:Rat)*(v*v)))=>b2U Z w' _ u _ _ hZ (QV.mono _ _ _ _ hl (mkx QV.mono hqv hE0)) (h.qv (c1A hB3 (by decide)));have hS:Hid (∀w',Ext w3.drew w'->w'.cell? ⟨b,0,none⟩=some (.int .i64 N)/\(w'.cell? ⟨b,3,none⟩=some (.bool s)/\w'.cell? ⟨b,3+1,none⟩=some (.slice a n0 c)/\w'.cell? ⟨b,3+2,none⟩=some (.slice d k e))/\(w'.cell? ⟨fb,0,none⟩=some (.bool s9)/\w'.cell? ⟨fb,0+1,none⟩=some (.slice a9 n9 c9)/\w'.cell? ⟨fb,0+2,none⟩=some (.slice d9 k9 e9))/\(w'.cell? ⟨b+1,0,none⟩=some (.bool s2)/\w'.cell? ⟨b+1,0+1,none⟩=some (.slice a2 n2 c2)/\w'.cell? ⟨b+1,0+2,none⟩=some (.slice d2 k2 e2))):=hid fun w' h=>by
  have q0:=m3.ext0 (hE0.trans h);have q1:=v3.ext0 (hE0.trans h);have q2:=y1.ext0 (hE0.trans h);exact⟨q0.cell 0 rfl,⟨q0.cell 3 rfl,q0.cell 4 rfl,q0.cell 5 rfl⟩,⟨q2.cell 0 rfl,q2.cell 1 rfl,q2.cell 2 rfl⟩,⟨q1.cell 0 rfl,q1.cell 1 rfl,q1.cell 2 rfl⟩⟩
 obtain⟨D,hD⟩:=c1F (m.yy+(sg:Rat)*(v*v));obtain⟨V1,hV1⟩:=c1F (v*v);rw[hV1]at hc0 hc1 hc2 hD;obtain⟨V2,hV2⟩:=c1F ((sg:Rat)*V1);rw[hV2]at hc1 hc2 hD;rw[hD]at hc2;have hDe:Hid (m.yy+(sg:Rat)*(v*v)=D):=hid (by rw[hV1,hV2,hD]);clear hV1 hV2 hD hu2 bf y2 hE2 hE23 b0 b1 b2 hqq ht hx hy hr
 (try simp only[Act.put])
 go_cut [10]from 19 to 31 (fun bv wx=>∃(g:Nat) (sd:Bool) (ad:Option Addr) (nd cd:Nat) (dd:Option Addr) (kd ed:Nat),bv=.pointer (some ⟨g,0,none⟩)/\Bx wx g #[.int .i64 N',.slice none 0 0,.slice none 0 0,.bool sd,.slice ad nd cd,.slice dd kd ed] 124/\QC (mk (un Z0 (some ⟨g,0,none⟩)) wx) (.agg #[.bool sd,.slice ad nd cd,.slice dd kd ed]) D/\w3.heap.size<=g/\g<wx.heap.size/\Ext w3 wx)
 case first=>
  refine a0n 14 (fun w'=>w'.cell? ⟨b,0,none⟩=some (.int .i64 N)/\(w'.cell? ⟨b,3,none⟩=some (.bool s)/\w'.cell? ⟨b,3+1,none⟩=some (.slice a n0 c)/\w'.cell? ⟨b,3+2,none⟩=some (.slice d k e))/\(w'.cell? ⟨fb,0,none⟩=some (.bool s9)/\w'.cell? ⟨fb,0+1,none⟩=some (.slice a9 n9 c9)/\w'.cell? ⟨fb,0+2,none⟩=some (.slice d9 k9 e9))/\(w'.cell? ⟨b+1,0,none⟩=some (.bool s2)/\w'.cell? ⟨b+1,0+1,none⟩=some (.slice a2 n2 c2)/\w'.cell? ⟨b+1,0+2,none⟩=some (.slice d2 k2 e2))) (by kernel_rfl) (by kernel_rfl) (hS.out _ (ExtX.refl _)) (fun hHeld hOnce=>?_);refine kt 0 hOnce ?_;refine kt 1 hOnce ?_;refine kt 2 hOnce ?_;refine kt 3 hOnce ?_;refine kt 4 hOnce ?_;refine kt 5 hOnce ?_;refine kt 6 hOnce ?_;refine kt 7 hOnce ?_;refine kt 8 hOnce ?_;refine a1E (i:=9) (j:=13) (oi:=⟨_,_,_,_,_,_⟩) (oj:=⟨_,_,_,_,_,_⟩) (by kernel_rfl) rfl rfl (fun K hK=>?_) (fun K hK=>?_)
  ·skip
   go_simp
   (go_at_call 35;(with_reducible refine(hc0.out Z0 w3.drew (hX0.ext (ExtX.refl (Y:=noY) w3.drew)) (a0k (ExtX.refl (Y:=noY) w3.drew))).mono ?_);rintro ee w40 ⟨r0,x0,rfl,g0⟩)
   refine kcn hK (hS.out w40 ((ExtX.refl (Y:=noY) w3.drew).trans r0)) (fun hHeld=>?_);clear hK K;have R0:Ext w3.drew w40:=(ExtX.refl (Y:=noY) w3.drew).trans r0;refine a1E (i:=10) (j:=13) (oi:=⟨_,_,_,_,_,_⟩) (oj:=⟨_,_,_,_,_,_⟩) (by kernel_rfl) rfl rfl (fun K hK=>?_) (fun K hK=>?_)
   ·skip
    go_simp
    (go_at_call 35;(with_reducible refine(hc1.out Z0 w40 (hX0.ext R0) (a0k R0) _ g0).mono ?_);rintro ee w41 ⟨r1,x1,rfl,g1⟩)
    refine kcn hK (hS.out w41 (R0.trans r1)) (fun hHeld=>?_);clear hK K;have R1:Ext w3.drew w41:=R0.trans r1;refine a1E (i:=11) (j:=13) (oi:=⟨_,_,_,_,_,_⟩) (oj:=⟨_,_,_,_,_,_⟩) (by kernel_rfl) rfl rfl (fun K hK=>?_) (fun K hK=>?_)
    ·skip
     go_simp
     (go_at_call 46;(with_reducible refine(hc2.out Z0 w41 (hX0.ext R1) (a0k R1) _ g1).mono ?_);rintro ee w42 ⟨r2,x2,rfl,g2⟩)
     refine kcn hK (hS.out w42 (R1.trans r2)) (fun hHeld=>?_);clear hK K;have R2:Ext w3.drew w42:=R1.trans r2;obtain⟨sd,ad,nd,cd,dd,kd,ed,rfl⟩:=g2.shape;refine kt 12 hOnce ?_;have EA:Ext w42 (w42.alloc (.cells #[.int .i64 0,.slice none 0 0,.slice none 0 0,.bool false,.slice none 0 0,.slice none 0 0] 124)):=(ExtX.refl _).alloc _;have bA:Bx (w42.alloc (.cells #[.int .i64 0,.slice none 0 0,.slice none 0 0,.bool false,.slice none 0 0,.slice none 0 0] 124)) w42.heap.size #[.int .i64 0,.slice none 0 0,.slice none 0 0,.bool false,.slice none 0 0,.slice none 0 0] 124:=Bx.new w42 _ _;have hAs:(w42.alloc (.cells #[.int .i64 0,.slice none 0 0,.slice none 0 0,.bool false,.slice none 0 0,.slice none 0 0] 124)).heap.size=w42.heap.size+1:=by simp
     refine ks 13 (fun K hK=>?_);go_simp
     skip
     refine kcn hK (hS.out _ (R2.trans EA)) (fun hHeld=>?_);clear hK K;have hdA:=QC.mono _ _ _ _ (a2g EA (c1B _)) g2;refine kl 14 (fun K hK=>?_)
     (refine a0r rfl rfl a3H rfl rfl bA rfl rfl (by intro v hv;simp at hv;rcases hv with rfl|rfl|rfl|rfl|rfl|rfl<;>rfl) ?_;intro w9 y1 y2)
     refine hK.out _ _ ?_;clear hK K
     (try simp only[Act.put])
     have hQ9:=QC.mono _ _ _ _ (a0s y2 fun k hk=>a0u hk) hdA;have hE9:Ext w3 w9:=ExtX.box (hE0.trans (R2.trans EA)) y2 R2.size;have hlt9:=c1C (show w42.heap.size<_ by rw[hAs];exact Nat.lt_succ_self _) y2.size;rw[hNs.out]at y1;go_wp2_with fail
     go_meet
     case rel=>exact⟨w42.heap.size,sd,ad,nd,cd,dd,kd,ed,rfl,y1,hQ9,R2.size,hlt9,hE9⟩
    ·skip
     have EA:Ext w41 (w41.alloc (.cells #[.int .i64 0,.slice none 0 0,.slice none 0 0,.bool false,.slice none 0 0,.slice none 0 0] 124)):=(ExtX.refl _).alloc _;have bA:Bx (w41.alloc (.cells #[.int .i64 0,.slice none 0 0,.slice none 0 0,.bool false,.slice none 0 0,.slice none 0 0] 124)) w41.heap.size #[.int .i64 0,.slice none 0 0,.slice none 0 0,.bool false,.slice none 0 0,.slice none 0 0] 124:=Bx.new w41 _ _;have hAs:(w41.alloc (.cells #[.int .i64 0,.slice none 0 0,.slice none 0 0,.bool false,.slice none 0 0,.slice none 0 0] 124)).heap.size=w41.heap.size+1:=by simp
     go_simp
     skip
     refine kcn hK (hS.out _ (R1.trans EA)) (fun hHeld=>?_);clear hK K;obtain⟨wA,hwA⟩:=c1F (w41.alloc (.cells #[.int .i64 0,.slice none 0 0,.slice none 0 0,.bool false,.slice none 0 0,.slice none 0 0] 124));have tA:Ext w3.drew wA:=by rw[<-hwA];exact R1.trans EA
     have prA:=QC.mono _ _ _ _ (a2g EA (c1B _)) g1;rw[hwA]at EA bA hAs prA |-;obtain⟨gA,hgA⟩:=c1F w41.heap.size;have hvg:w3.heap.size<=gA:=by rw[<-hgA];exact R1.size
     have hvgd:w3.drew.heap.size<=gA:=by have h9:w3.drew.heap.size=w3.heap.size:=rfl;rw[h9];exact hvg
     rw[hgA]at bA hAs prA |-;have glwA:gA<wA.heap.size:=by omega
     have xA2:=a1m (hX0.ext tA) glwA;refine ks 11 (fun K hK=>?_);go_simp
     (go_at_call 46;(with_reducible refine(hc2.out (un Z0 (some ⟨gA,0,none⟩)) wA xA2 (a2g tA hvgd) _ prA).mono ?_);rintro ee v2 ⟨q2,u2,rfl,h2⟩)
     refine kcn hK (hS.out v2 (tA.trans q2)) (fun hHeld=>?_);clear hK K;have T2:=tA.trans q2;have b2:=bA.ext0 q2;have glv2:gA<v2.heap.size:=c1C glwA q2.size;obtain⟨sd,ad,nd,cd,dd,kd,ed,rfl⟩:=h2.shape;refine kt 12 hOnce ?_;refine kl 14 (fun K hK=>?_)
     (refine a0r rfl rfl a3H rfl rfl b2 rfl rfl (by intro v hv;simp at hv;rcases hv with rfl|rfl|rfl|rfl|rfl|rfl<;>rfl) ?_;intro w9 y1 y2)
     refine hK.out _ _ ?_;clear hK K
     (try simp only[Act.put])
     have hQ9:=QC.mono _ _ _ _ (a0s y2 fun k hk=>a0u hk) h2;have hE9:Ext w3 w9:=ExtX.box (hE0.trans T2) y2 hvg;have hlt9:=c1C glv2 y2.size;rw[hNs.out]at y1;go_wp2_with fail
     go_meet
     case rel=>exact⟨gA,sd,ad,nd,cd,dd,kd,ed,rfl,y1,hQ9,hvg,hlt9,hE9⟩
   ·skip
    have EA:Ext w40 (w40.alloc (.cells #[.int .i64 0,.slice none 0 0,.slice none 0 0,.bool false,.slice none 0 0,.slice none 0 0] 124)):=(ExtX.refl _).alloc _;have bA:Bx (w40.alloc (.cells #[.int .i64 0,.slice none 0 0,.slice none 0 0,.bool false,.slice none 0 0,.slice none 0 0] 124)) w40.heap.size #[.int .i64 0,.slice none 0 0,.slice none 0 0,.bool false,.slice none 0 0,.slice none 0 0] 124:=Bx.new w40 _ _;have hAs:(w40.alloc (.cells #[.int .i64 0,.slice none 0 0,.slice none 0 0,.bool false,.slice none 0 0,.slice none 0 0] 124)).heap.size=w40.heap.size+1:=by simp
    go_simp
    skip
    refine kcn hK (hS.out _ (R0.trans EA)) (fun hHeld=>?_);clear hK K;obtain⟨wA,hwA⟩:=c1F (w40.alloc (.cells #[.int .i64 0,.slice none 0 0,.slice none 0 0,.bool false,.slice none 0 0,.slice none 0 0] 124));have tA:Ext w3.drew wA:=by rw[<-hwA];exact R0.trans EA
    have prA:=QC.mono _ _ _ _ (a2g EA (c1B _)) g0;rw[hwA]at EA bA hAs prA |-;obtain⟨gA,hgA⟩:=c1F w40.heap.size;have hvg:w3.heap.size<=gA:=by rw[<-hgA];exact R0.size
    have hvgd:w3.drew.heap.size<=gA:=by have h9:w3.drew.heap.size=w3.heap.size:=rfl;rw[h9];exact hvg
    rw[hgA]at bA hAs prA |-;have glwA:gA<wA.heap.size:=by omega
    have xA1:=a1m (hX0.ext tA) glwA;refine ks 10 (fun K hK=>?_);go_simp
    (go_at_call 35;(with_reducible refine(hc1.out (un Z0 (some ⟨gA,0,none⟩)) wA xA1 (a2g tA hvgd) _ prA).mono ?_);rintro ee v1 ⟨q1,u1,rfl,h1⟩)
    refine kcn hK (hS.out v1 (tA.trans q1)) (fun hHeld=>?_);clear hK K;have T1:=tA.trans q1;have b1:=bA.ext0 q1;have glv1:gA<v1.heap.size:=c1C glwA q1.size;have xA2:=a1m (hX0.ext T1) glv1;refine ks 11 (fun K hK=>?_);go_simp
    (go_at_call 46;(with_reducible refine(hc2.out (un Z0 (some ⟨gA,0,none⟩)) v1 xA2 (a2g T1 hvgd) _ h1).mono ?_);rintro ee v2 ⟨q2,u2,rfl,h2⟩)
    refine kcn hK (hS.out v2 (T1.trans q2)) (fun hHeld=>?_);clear hK K;have T2:=T1.trans q2;have b2:=b1.ext0 q2;have glv2:gA<v2.heap.size:=c1C glv1 q2.size;obtain⟨sd,ad,nd,cd,dd,kd,ed,rfl⟩:=h2.shape;refine kt 12 hOnce ?_;refine kl 14 (fun K hK=>?_)
    (refine a0r rfl rfl a3H rfl rfl b2 rfl rfl (by intro v hv;simp at hv;rcases hv with rfl|rfl|rfl|rfl|rfl|rfl<;>rfl) ?_;intro w9 y1 y2)
    refine hK.out _ _ ?_;clear hK K
    (try simp only[Act.put])
    have hQ9:=QC.mono _ _ _ _ (a0s y2 fun k hk=>a0u hk) h2;have hE9:Ext w3 w9:=ExtX.box (hE0.trans T2) y2 hvg;have hlt9:=c1C glv2 y2.size;rw[hNs.out]at y1;go_wp2_with fail
    go_meet
    case rel=>exact⟨gA,sd,ad,nd,cd,dd,kd,ed,rfl,y1,hQ9,hvg,hlt9,hE9⟩
  ·skip
   have EA:Ext w3.drew (w3.alloc (.cells #[.int .i64 0,.slice none 0 0,.slice none 0 0,.bool false,.slice none 0 0,.slice none 0 0] 124)).drew:=⟨rfl,rfl,rfl,((ExtX.refl (Y:=noY) w3).alloc _).size,((ExtX.refl (Y:=noY) w3).alloc _).block⟩;have bA:Bx (w3.alloc (.cells #[.int .i64 0,.slice none 0 0,.slice none 0 0,.bool false,.slice none 0 0,.slice none 0 0] 124)).drew w3.heap.size #[.int .i64 0,.slice none 0 0,.slice none 0 0,.bool false,.slice none 0 0,.slice none 0 0] 124:=Bx.new w3 _ _;have hAs:(w3.alloc (.cells #[.int .i64 0,.slice none 0 0,.slice none 0 0,.bool false,.slice none 0 0,.slice none 0 0] 124)).drew.heap.size=w3.heap.size+1:=by show(w3.alloc _).heap.size=_;simp
   go_simp
   skip
   refine kcn hK (hS.out _ ((ExtX.refl (Y:=noY) w3.drew).trans EA)) (fun hHeld=>?_);clear hK K;obtain⟨wA,hwA⟩:=c1F ((w3.alloc (.cells #[.int .i64 0,.slice none 0 0,.slice none 0 0,.bool false,.slice none 0 0,.slice none 0 0] 124)).drew);have tA:Ext w3.drew wA:=by rw[<-hwA];exact EA
   rw[hwA]at EA bA hAs |-;obtain⟨gA,hgA⟩:=c1F w3.heap.size;have hvg:w3.heap.size<=gA:=by rw[<-hgA];exact c1B _
   have hvgd:w3.drew.heap.size<=gA:=by have h9:w3.drew.heap.size=w3.heap.size:=rfl;rw[h9];exact hvg
   rw[hgA]at bA hAs |-;have glwA:gA<wA.heap.size:=by omega
   have xA0:=a1m (hX0.ext tA) glwA;refine ks 9 (fun K hK=>?_);go_simp
   (go_at_call 35;(with_reducible refine(hc0.out (un Z0 (some ⟨gA,0,none⟩)) wA xA0 (a2g tA hvgd)).mono ?_);rintro ee v0 ⟨q0,u0,rfl,h0⟩)
   refine kcn hK (hS.out v0 (tA.trans q0)) (fun hHeld=>?_);clear hK K;have T0:=tA.trans q0;have b0:=bA.ext0 q0;have glv0:gA<v0.heap.size:=c1C glwA q0.size;have xA1:=a1m (hX0.ext T0) glv0;refine ks 10 (fun K hK=>?_);go_simp
   (go_at_call 35;(with_reducible refine(hc1.out (un Z0 (some ⟨gA,0,none⟩)) v0 xA1 (a2g T0 hvgd) _ h0).mono ?_);rintro ee v1 ⟨q1,u1,rfl,h1⟩)
   refine kcn hK (hS.out v1 (T0.trans q1)) (fun hHeld=>?_);clear hK K;have T1:=T0.trans q1;have b1:=b0.ext0 q1;have glv1:gA<v1.heap.size:=c1C glv0 q1.size;have xA2:=a1m (hX0.ext T1) glv1;refine ks 11 (fun K hK=>?_);go_simp
   (go_at_call 46;(with_reducible refine(hc2.out (un Z0 (some ⟨gA,0,none⟩)) v1 xA2 (a2g T1 hvgd) _ h1).mono ?_);rintro ee v2 ⟨q2,u2,rfl,h2⟩)
   refine kcn hK (hS.out v2 (T1.trans q2)) (fun hHeld=>?_);clear hK K;have T2:=T1.trans q2;have b2:=b1.ext0 q2;have glv2:gA<v2.heap.size:=c1C glv1 q2.size;obtain⟨sd,ad,nd,cd,dd,kd,ed,rfl⟩:=h2.shape;refine kt 12 hOnce ?_;refine kl 14 (fun K hK=>?_)
   (refine a0r rfl rfl a3H rfl rfl b2 rfl rfl (by intro v hv;simp at hv;rcases hv with rfl|rfl|rfl|rfl|rfl|rfl<;>rfl) ?_;intro w9 y1 y2)
   refine hK.out _ _ ?_;clear hK K
   (try simp only[Act.put])
   have hQ9:=QC.mono _ _ _ _ (a0s y2 fun k hk=>a0u hk) h2;have hE9:Ext w3 w9:=ExtX.box (hE0.trans T2) y2 hvg;have hlt9:=c1C glv2 y2.size;rw[hNs.out]at y1;go_wp2_with fail
   go_meet
   case rel=>exact⟨gA,sd,ad,nd,cd,dd,kd,ed,rfl,y1,hQ9,hvg,hlt9,hE9⟩
 case rest=>
  obtain⟨g,sd,ad,nd,cd,dd,kd,ed,rfl,bg,hQ,hge,hglt,hEc⟩:=hcut;clear hc0 hc1 hc2 hS hwr hE0 hX0;obtain⟨Z1,hZ1⟩:=c1F (un Z0 (some ⟨g,0,none⟩));have hgZ:∀k,ob (some ⟨g,0,none⟩) k=true->Z1 k=true:=fun k hk=>by rw[<-hZ1];exact a0u hk
  have hgg:Z1 g=true:=hgZ g (by simp[ob]);have hZ10:Hid (∀k,k<w3.heap.size->Z1 k=true->Z0 k=true):=hid fun k hk h=>by
   rw[<-hZ1]at h;by_cases h0:Z0 k=true
   ·exact h0
   ·have:g=k:=by simpa[un,h0,ob]using h
    omega
  have hXZ:Hid (∀k,X k=true->Z1 k=true):=hid fun k hk=>by
   rw[<-hZ1,<-hZ0];exact a0j (by simp[a0f,hk])
  have hb3:Hid (∀k,ob (some ⟨b+1+1,0,none⟩) k=true->Z1 k=true):=hid fun k hk=>by
   have hk2:b+1+1=k:=by simpa[ob]using hk
   rw[<-hZ1,<-hZ0];exact a0j (a3B (by omega) (by omega))
  have hX1:HX Z1 wc:=fun k hk=>by
   rw[<-hZ1]at hk;by_cases h0:Z0 k=true
   ·exact hX3.ext hEc k h0
   ·have:g=k:=by simpa[un,h0,ob]using hk
    omega
  rw[hZ1]at hQ;obtain⟨ro,rc,rfl,hrc,hrs⟩:=hrv;obtain⟨xo',xc',he,hxc,hxs⟩:=hxv;simp only[Value.slice.injEq]at he;obtain⟨rfl,rfl,rfl⟩:=he;obtain⟨yo',yc',he,hyc,hys⟩:=hyv;simp only[Value.slice.injEq]at he;obtain⟨rfl,rfl,rfl⟩:=he;have hhr:=hrs.hd;have hhx:=hxs.hd;have hhy:=hys.hd;have hrl':=hid hrl;have hxl':=hid hsx.1;have hxr':=hid hsx.2;have hyl':=hid hsy;rw[hrl]at hhr hrc |-;rw[hsx.1]at hhx hxc m3 |-;rw[hsy]at hhy hyc m3 |-;obtain⟨XD,hXD⟩:=c1F ((shM m row v sg).xx);obtain⟨YD,hYD⟩:=c1F ((shM m row v sg).xy);have hXl:Hid (XD.length=n):=hid (by rw[<-hXD];show(ofF row.length row.length _).length=n;rw[hrl];exact(b2r _ _ _).1);have hYl:Hid (YD.length=n):=hid (by rw[<-hYD];simp[shM,hrl]);have hXr:Hid (∀j (h:j<XD.length),XD[j]=(List.range n).map fun k=>ent m.xx j k+(sg:Rat)*fn row j*fn row k):=hid fun j h=>by subst hXD;simp[shM,ofF,hrl]
  have hYi:Hid (∀j (h:j<YD.length),YD[j]=fn m.xy j+(sg:Rat)*fn row j*v):=hid fun j h=>by subst hYD;simp[shM]
  have hfin:Hid (∀w' (s0:Bool) (a0:Option Addr) (k0 c0:Nat) (d0:Option Addr) (p0 e0:Nat) xo2 xc2 yo2 yc2,Ext w w'->MC (mk X w') (.slice xo2 n xc2) XD->RC (mk X w') (.slice yo2 n yc2) YD->QC (mk X w') (.agg #[.bool s0,.slice a0 k0 c0,.slice d0 p0 e0]) D->F (.returned (.agg #[.int .i64 N',.slice xo2 n xc2,.slice yo2 n yc2,.bool s0,.slice a0 k0 c0,.slice d0 p0 e0])) w'):=hid fun w' s0 a0 k0 c0 d0 p0 e0 xo2 xc2 yo2 yc2 h1 h2 h3 h4=>by
   rw[<-hF'.out];refine⟨h1,_,rfl,xo2,n,xc2,yo2,n,yc2,s0,a0,k0,c0,d0,p0,e0,?_,by rw[hXD];exact h2,by rw[hYD];exact h3,?_⟩
   ·show _=Value.agg #[.int .i64 (m.n+sg),_,_,_,_,_]
    rw[hNe.out]
   ·show QC _ _ (m.yy+(sg:Rat)*(v*v))
    rw[hDe.out];exact h4
  have hent:Hid (∀j k (hj:j<m.xx.length) (hk:k<m.xx[j].length),ent m.xx j k=m.xx[j][k]):=hid fun j k hj hk=>(b0Z hj hk).symm;have hfr:Hid (∀j (h:j<row.length),fn row j=row[j]):=hid fun j h=>by simp[fn,List.getD_eq_getElem?_getD,h]
  have hfy:Hid (∀j (h:j<m.xy.length),fn m.xy j=m.xy[j]):=hid fun j h=>by simp[fn,List.getD_eq_getElem?_getD,h]
  have hbr:Hid (∀j (h:j<row.length),hq row[j]<=B):=hid fun j h=>hBr _ (c1E _);clear hXD hYD hF' hZ1 hsx hsy hrl _hBm hBr hDe hNe hZ0;have hrow0:∀Z wr,Ext w3 wr->(∀k,k<w3.heap.size->Z k=true->Z1 k=true)->Le (mk Z0 w3) (mk Z wr):=fun Z wr h h1=>b7T h fun k hk hz=>hZ10.out k hk (h1 k hk hz);have hrow:=hid hrow0;clear hrow0;go_wp2_with fail
  go_loopw [34] (fun q wr=>∃(j:Nat) (xo2:Option Addr) (xc2:Nat) (yo2:Option Addr) (yc2:Nat),q=.int .i64 j/\j<=n/\Bx wr g #[.int .i64 N',.slice xo2 j xc2,.slice yo2 j yc2,.bool sd,.slice ad nd cd,.slice dd kd ed] 124/\OL RC 1 (un Z1 yo2) w3.heap.size 24 wr xo2 xc2 (XD.take j)/\OL QC 3 (un Z1 xo2) w3.heap.size 47 wr yo2 yc2 (YD.take j)/\QC (mk (un (un Z1 xo2) yo2) wr) (.agg #[.bool sd,.slice ad nd cd,.slice dd kd ed]) D/\HX Z1 wr/\Ext w3 wr) (fun q _=>n - (intOf q).toNat)
  case atStart=>exact⟨0,none,0,none,0,rfl,Nat.zero_le _,bg,OL.nil _ _ _ _ _ _,OL.nil _ _ _ _ _ _,by rw[b3A,b3A];exact hQ,hX1,hEc⟩
  case round=>
   clear hQ hX1 bg hEc;obtain⟨j,xo2,xc2,yo2,yc2,rfl,hj,bg,hOX,hOY,hQ,hXr1,hEr⟩:=hrel;by_cases hlt:j<n
   ·have hjr:j<row.length:=by rw[hrl'.out];exact hlt
    have hjx:j<m.xx.length:=by rw[hxl'.out];exact hlt
    have hjy:j<m.xy.length:=by rw[hyl'.out];exact hlt
    have hjX:j<XD.length:=by rw[hXl.out];exact hlt
    have hjY:j<YD.length:=by rw[hYl.out];exact hlt
    have htX:=hid (a0I XD j hjX);have htY:=hid (a0I YD j hjY);have hlX:=hid (a0O (l:=XD) (i:=j) (by omega));have hlY:=hid (a0O (l:=YD) (i:=j) (by omega));have hXj:=hXr.out j hjX;have hYj:=hYi.out j hjY;rw[hfr.out j hjr]at hXj;rw[hfr.out j hjr,hfy.out j hjy]at hYj;have hobX:∀k,k<w3.heap.size->ob xo2 k=false:=fun k hk=>hOX.ob_lt hk;have hobY:∀k,k<w3.heap.size->ob yo2 k=false:=fun k hk=>hOY.ob_lt hk;obtain⟨ZJ,hZJ⟩:=c1F (un (un Z1 xo2) yo2);have hXJ:HX ZJ wr:=by rw[<-hZJ];exact a3i (a3i hXr1 fun k hk=>(hOX.block hk).2) fun k hk=>(hOY.block hk).2
    have hsub3:∀k,k<w3.heap.size->ZJ k=true->Z1 k=true:=fun k hk hz=>by
     rw[<-hZJ]at hz;have e1:=hobX k hk;have e2:=hobY k hk;cases h0:Z1 k
     ·simp[un,h0,e1,e2]at hz
     ·rfl
    have hl3:=hrow.out ZJ wr hEr hsub3;have hrsj:=hrs.mono QV.mono hl3;have hsJ:=QV.mono _ _ _ _ hl3 hsv;have bx:=Bx.new wr #[.bool false,.slice none 0 0,.slice none 0 0] 47;have hf3:=y1.ext0 hEr;have hrq:=hid (hbr.out j hjr);obtain⟨rj,hrj⟩:=c1F (row[j]);have hrj':=hid hrj;rw[hrj]at hXj hYj hrq;clear hrj;go_wp2_with (first|(with_reducible refine a1w a0x ?_)|((with_reducible refine c1K (t:=47) ?_);refine a0z a0p j hrsj hjr rfl (by simp) QV.agg ?_;intro u5 hu5;rw[hrj'.out]at hu5;obtain⟨s5,a5,n5,c5,d5,m5,e5,rfl⟩:=hu5.shape)|((with_reducible refine c1J (t:=47) ?_);refine a0a a0p rfl rfl bx rfl rfl a1s ?_;intro w5 z1 z2;have hE5:=c1M z2;have k10:=z1.cell 0 rfl;have k11:=z1.cell 1 rfl;have k12:=z1.cell 2 rfl;have hf5:=hf3.ext0 hE5;have k20:=hf5.cell 0 rfl;have k21:=hf5.cell 1 rfl;have k22:=hf5.cell 2 rfl;have hu6:=mkx QV.mono hu5 hE5;have hs6:=mkx QV.mono hsJ hE5))
    refine(a9E ZJ w5 _ _ _ _ (hXJ.ext hE5) hs6 hu6).mono ?_;rintro ee w6 ⟨hE6,u7,rfl,hu7⟩;obtain⟨s7,a7,n7,c7,d7,k7,e7,rfl⟩:=hu7.shape;have bx2:=Bx.new w6 #[.bool false,.slice none 0 0,.slice none 0 0] 47;clear k10 k11 k12 k20 k21 k22;go_wp2_with ((with_reducible refine c1J (t:=47) ?_);refine a0a a0p rfl rfl bx2 rfl rfl a1s ?_;intro wj x1 x2)
    have hE6j:=c1M x2;have hEj:Ext wr wj:=(hE5.trans hE6).trans hE6j;have hwv:=mkx QC.mono hu7 hE6j;have hXwj:HX ZJ wj:=hXJ.ext hEj;have hE3j:=hEr.trans hEj;have hwq:Hid (hq ((sg:Rat)*rj)<=1000001):=hid (c1A (hq_mul _ _) (by have:=hrq.out;omega));obtain⟨jb,hjb⟩:=c1F w6.heap.size;rw[hjb]at x1 |-;obtain⟨SW,hSW⟩:=c1F ((sg:Rat)*rj);rw[hSW]at hwv hwq hXj hYj;obtain⟨LJ,hLJ⟩:=c1F (XD[j]);rw[hLJ]at hXj htX;have hLl:Hid (LJ.length=n):=hid (by rw[hXj];simp);have hLi:Hid (∀k (h:k<LJ.length),LJ[k]=ent m.xx j k+SW*fn row k):=hid fun k h=>by subst hXj;simp
    obtain⟨rxo,rxc,_,hcx,hclx,hqx⟩:=hxs.row j hjx;have hxrl:=hid (hxr'.out m.xx[j] (c1E _));rw[hxrl.out]at hcx hclx;have hhrx:Hd rxo n:=by have:=hqx.hd;rw[hxrl.out]at this;exact this
    have hbg0:=bg.ext0 hEj;have hX0j:=hOX.ext0 RC.elem hEj;have hY0j:=hOY.ext0 QC.elem hEj;have hQj:=mkx QC.mono hQ hEj;have hX1j:HX Z1 wj:=hXr1.ext hEj;have hobj:ob xo2 jb=false:=by
     cases hc:ob xo2 jb
     ·rfl
     ·have:=(hOX.block hc).2;have:=(hE5.trans hE6).size;omega
    have hoyj:ob yo2 jb=false:=by
     cases hc:ob yo2 jb
     ·rfl
     ·have:=(hOY.block hc).2;have:=(hE5.trans hE6).size;omega
    have hgj:g≠jb:=by have h9:g<wr.heap.size:=a1Z (bg.cell 0 rfl);have:=(hE5.trans hE6).size;omega
    clear hXj hLJ hSW hjb hu7 bx bx2 x2 z1 z2 hf3 hf5 hs6 hu6 hu5 hE5 hE6 hE6j hrsj hsJ hl3 hOX hOY hQ bg;go_wp2_with fail
    go_loopw [14,44] (fun l q wr=>∃(k:Nat) (lo:Option Addr) (lc:Nat),q=.int .i64 k/\l=.slice lo k lc/\k<=n/\OL QC 3 ZJ wj.heap.size 47 wr lo lc (LJ.take k)/\Ext wj wr) (fun _ q _=>n - (intOf q).toNat)
    case atStart=>exact⟨0,none,0,rfl,rfl,Nat.zero_le _,OL.nil _ _ _ _ _ _,ExtX.refl _⟩
    case round=>
     obtain⟨k,lo,lc,rfl,rfl,hk,hL,hEk⟩:=hrel;have hXk:HX ZJ wr:=hXwj.ext hEk;have hbk:=hEk.size;by_cases hlk:k<n
     ·have hkr:k<row.length:=by rw[hrl'.out];exact hlk
      have hkx:k<m.xx[j].length:=by rw[hxrl.out];exact hlk
      have hkL:k<LJ.length:=by rw[hLl.out];exact hlk
      have htk:=hid (a0I LJ k hkL);have hlk2:=hid (a0O (l:=LJ) (i:=k) (by omega));have hLk:=hLi.out k hkL;rw[hfr.out k hkr,hent.out j k hjx hkx]at hLk;have hE3k:=hE3j.trans hEk;have hobL:∀q,q<wj.heap.size->ob lo q=false:=fun q hq=>hL.ob_lt hq;obtain⟨ZK,hZK⟩:=c1F (un ZJ lo);have hXK:HX ZK wr:=by rw[<-hZK];exact hL.unX hXk
      have hsubK:∀q,q<w3.heap.size->ZK q=true->Z1 q=true:=fun q hq hz=>by
       rw[<-hZK]at hz;have e1:=hobL q (c1C hq hE3j.size);refine hsub3 q hq ?_;cases h0:ZJ q
       ·simp[un,h0,e1]at hz
       ·rfl
      have hlK:=hrow.out ZK wr hE3k hsubK;have hrsk:=hrs.mono QV.mono hlK;have hwk:QC (mk ZK wr) (.agg #[.bool s7,.slice a7 n7 c7,.slice d7 k7 e7]) SW:=by rw[<-hZK];exact a2j (w:=wj) QC.mono hwv hEk hobL
      have hqk:=hqx.mono QV.mono hlK;obtain⟨gx,ox,sx,px,nx,qx,dx,kx,ex,hgx,hXx,hcxx,hqxx⟩:=hqk.rat QV.shaped k hkx;have bx:=Bx.new wr #[.bool false,.slice none 0 0,.slice none 0 0] 47;have hrqk:=hid (hbr.out k hkr);obtain⟨rk,hrk⟩:=c1F (row[k]);obtain⟨xk,hxk⟩:=c1F (m.xx[j][k]);obtain⟨lk,hlk3⟩:=c1F (LJ[k]);have hrk':=hid hrk;rw[hrk]at hLk hrqk;rw[hxk]at hLk hqxx;rw[hlk3]at hLk htk;have hLk':=hid hLk;have hx1:=x1.ext0 hEk;have hm3:=m3.ext0 hE3k;have hwrk:Hid (hq (SW*rk)<=68719476736):=hid (c1A (hq_mul _ _) (by have:=hwq.out;have:=hrqk.out;omega));clear hrk hxk hlk3 hLk;go_wp2_with (first|(with_reducible refine a1w a0x ?_)|((with_reducible refine c1K (t:=47) ?_);refine a0z a0p k hrsk hkr rfl (by simp) QV.agg ?_;intro u5 hu5;rw[hrk'.out]at hu5;obtain⟨s5,a5,n5,c5,d5,m5,e5,rfl⟩:=hu5.shape)|((with_reducible refine c1J (t:=47) ?_);refine a0a a0p rfl rfl bx rfl rfl a1s ?_;intro w5 z1 z2;have hE5:=c1M z2))
      have hEd:Ext wr w5.drew:=hE5.drew;have hXd:HX ZK w5.drew:=hXK.ext hEd;have hwd:=(mkx QC.mono hwk hEd).qv (c1A hwq.out (by decide));have hud:=mkx QV.mono hu5 hEd;have hxd:=mkx QV.mono hqxx hEd;have hLd:=hL.ext0 QC.elem hEd;have hXJd:HX ZJ w5.drew:=hXk.ext hEd;obtain⟨b16,hb16⟩:=c1F wr.heap.size;rw[hb16]at z1 |-;have o1:ob lo (adr xo j).block=false:=hobL _ (c1C (a1Z (hcx.out noY w3 (ExtX.refl _) rfl)) hE3j.size);have o2:ob lo gx=false:=by rw[<-hZK]at hXx;exact(a0V hXx).2
      have o3:ob lo jb=false:=hobL _ (a1Z (x1.cell 0 rfl));have o4:ob lo b16=false:=by
       cases hc:ob lo b16
       ·rfl
       ·have:=(hL.block hc).2;omega
      have o5:ob lo b=false:=hobL _ (c1C (a1Z (m3.cell 0 rfl)) hE3j.size);have hS:Hid (∀Y W',ExtX Y w5.drew W'->Y b=false->Y (adr xo j).block=false->Y gx=false->Y jb=false->Y b16=false->W'.cell? ⟨b,1,none⟩=some (.slice xo n xc)/\W'.cell? (adr xo j)=some (.slice rxo n rxc)/\(W'.cell? ⟨gx,ox,none⟩=some (.bool sx)/\W'.cell? ⟨gx,ox+1,none⟩=some (.slice px nx qx)/\W'.cell? ⟨gx,ox+2,none⟩=some (.slice dx kx ex))/\(W'.cell? ⟨jb,0,none⟩=some (.bool s7)/\W'.cell? ⟨jb,0+1,none⟩=some (.slice a7 n7 c7)/\W'.cell? ⟨jb,0+2,none⟩=some (.slice d7 k7 e7))/\(W'.cell? ⟨b16,0,none⟩=some (.bool s5)/\W'.cell? ⟨b16,0+1,none⟩=some (.slice a5 n5 c5)/\W'.cell? ⟨b16,0+2,none⟩=some (.slice d5 m5 e5))):=hid fun Y W' h h1 h2 h3 h4 h5=>by
       have q1:=(hm3.ext0 hEd).ext h h1;have q3:=(hx1.ext0 hEd).ext h h4;have q4:=(z1.ext0 (ExtX.refl w5).drew).ext h h5;exact⟨q1.cell 1 rfl,hcx.out Y W' ((ExtX.of (hE3k.trans hEd)).trans h) h2,hcxx.out Y W' ((ExtX.of hEd).trans h) h3,⟨q3.cell 0 rfl,q3.cell 1 rfl,q3.cell 2 rfl⟩,⟨q4.cell 0 rfl,q4.cell 1 rfl,q4.cell 2 rfl⟩⟩
      obtain⟨f00,f01,⟨f02,f03,f04⟩,⟨f05,f06,f07⟩,⟨f08,f09,f10⟩⟩:=hS.out noY w5.drew (ExtX.refl _) rfl rfl rfl rfl rfl;have i1:∀W,(Instr.indexAt 23 (.slice xo n xc) (.int .i64 (j:Int))).run Tryz.prog W=.ok (.pointer (some (adr xo j))) W:=a0y a0o xo n xc .i64 j hhx (by omega) rfl;have i2:∀W,(Instr.indexAt 24 (.slice rxo n rxc) (.int .i64 (k:Int))).run Tryz.prog W=.ok (.pointer (some ⟨gx,ox,none⟩)) W:=by rw[<-hgx];exact a0e a0x rxo n rxc .i64 k hhrx (by omega)
      clear hgx hu5 z2 hwk hqxx hqk hrsk bx;go_region_held3 (fun w'=>w'.cell? ⟨b,1,none⟩=some (.slice xo n xc)/\w'.cell? (adr xo j)=some (.slice rxo n rxc)/\(w'.cell? ⟨gx,ox,none⟩=some (.bool sx)/\w'.cell? ⟨gx,ox+1,none⟩=some (.slice px nx qx)/\w'.cell? ⟨gx,ox+2,none⟩=some (.slice dx kx ex))/\(w'.cell? ⟨jb,0,none⟩=some (.bool s7)/\w'.cell? ⟨jb,0+1,none⟩=some (.slice a7 n7 c7)/\w'.cell? ⟨jb,0+2,none⟩=some (.slice d7 k7 e7))/\(w'.cell? ⟨b16,0,none⟩=some (.bool s5)/\w'.cell? ⟨b16,0+1,none⟩=some (.slice a5 n5 c5)/\w'.cell? ⟨b16,0+2,none⟩=some (.slice d5 m5 e5)))
       (first|exact hS.out noY _ t1 rfl rfl rfl rfl rfl|exact hS.out noY _ t2 rfl rfl rfl rfl rfl|exact hS.out noY _ (ExtX.alloc t2 _) rfl rfl rfl rfl rfl|exact hS.out (ob lo) _ ((ExtX.of t2).trans hE7) o5 o1 o2 o3 o4|go_keep)
       (first|(go_at_call 35;(with_reducible refine(a9E ZK w5.drew _ _ _ _ hXd hwd hud).mono ?_);rintro ee w6 ⟨t1,u6,rfl,hu6⟩;have hX6:=HX.ext hXd t1;have hx6:=mkx QV.mono hxd t1;have hu6v:=hu6.qv hwrk.out)|(go_at_call 46;(with_reducible refine(b2U ZK w6 _ _ _ _ hX6 hx6 hu6v).mono ?_);rintro ee w8 ⟨t7,u8,rfl,hu8⟩;have t2:=t1.trans t7;obtain⟨s8,a8,n8,c8,d8,k8,e8,rfl⟩:=hu8.shape;rw[<-hLk'.out,<-hZK]at hu8;have hL8:=hLd.ext0 QC.elem t2;have hb8:=(hEk.trans (hEd.trans t2)).size;have hX8:=HX.ext hXJd t2)|(refine a1p (l:=LJ.take k) rfl (by rfl) a0x rfl QC.elem hb8 hX8 k hlk2.out rfl rfl hL8 (.agg #[.bool s8,.slice a8 n8 c8,.slice d8 k8 e8]) lk rfl hu8 (by omega) (by omega) ?_;intro lo2 lc2 w7 hL7 hE7 hor))
      have hE8:=(hEk.trans (hEd.trans t2)).own hL8 (c1B _) hE7;rw[htk.out]at hL7;clear f00 f01 f02 f03 f04 f05 f06 f07 f08 f09 f10 i1 i2;go_wp2_with fail
      go_roundw
      case rel=>exact⟨k+1,lo2,lc2,by go_num,by go_num,by omega,hL7,hE8⟩
      case measure=>simp[intOf];omega
     ·have hkn:n=k:=by omega
      subst hkn;rw[c1D (by rw[hLl.out];exact c1B _)]at hL;have hLs:=hL.sl QC.elem;have hLc:=hL.lenCap;rw[hLl.out]at hLc;have hbg1:=hbg0.ext0 hEk;have hX1':=hX0j.ext0 RC.elem hEk;have hY1':=hY0j.ext0 QC.elem hEk;have hQ1:=mkx QC.mono hQj hEk;have hw1:=mkx QC.mono hwv hEk;have hX1k:HX (un Z1 yo2) wr:=a3i (hX1j.ext hEk) fun q hq=>(hY1'.block hq).2;have hE3k:=hE3j.trans hEk;have hRC:RC (mk (un (un Z1 yo2) xo2) wr) (.slice lo n lc) LJ:=⟨lo,lc,by rw[hLl.out],by rw[hLl.out];exact hLc,hLs.mono QC.mono (a1a fun q _ hq=>by rw[<-hZJ,a0T];exact hq)⟩;have hogx:ob xo2 g=false:=by
       cases hc:ob xo2 g
       ·rfl
       ·have:=(a0V (hX1'.1 g hc)).1;rw[hgg]at this;cases this
      have q1:=hbg1.cell 1 rfl;have hj1:=x1.ext0 hEk;clear hX0j hY0j hQj hwv hbg0 hL hLs;go_wp2_with (first
       |(at_builtin;refine a0t (l:=XD.take j) a0o rfl RC.elem hE3k.size hX1k j hlX.out rfl rfl hX1' (.slice lo n lc) LJ rfl hRC (by omega) (by omega) ?_;intro xo7 xc7 w7 hX7 hE7 hor7;have bg7:=hbg1.ext hE7 hogx)
       |(refine a1G (v:= .slice xo7 (j+1) xc7) b9D rfl rfl rfl rfl bg7 (by simp) ?_;intro w8 bg8 hE8))
      have bg8':Bx w8 g #[.int .i64 N',.slice xo7 (j+1) xc7,.slice yo2 j yc2,.bool sd,.slice ad nd cd,.slice dd kd ed] 124:=by simpa using bg8
      have hE37:=hE3k.own hX1' (c1B _) hE7;have hE38:Ext w3 w8:=ExtX.box hE37 hE8 hge;rw[htX.out]at hX7;have hX8:=hX7.ext RC.elem (Z:=un Z1 yo2) hE8 (fun q _ hq=>a0j (hgZ q hq)) (fun _ _ h=>h);have hY7:=hY1'.ext QC.elem (Z:=un Z1 xo7) hE7 (fun q _ hq=>a0u hq) (b1M hor7);have hY8:=hY7.ext QC.elem (Z:=un Z1 xo7) hE8 (fun q _ hq=>a0j (hgZ q hq)) (fun _ _ h=>h);obtain⟨Z8,hZ8⟩:=c1F (un (un Z1 xo7) yo2);have hle8:Le (mk ZJ wr) (mk Z8 w8):=fun A U h=>by
       have h1:=a1g (Z:=Z8) hE7 (fun q _ hq=>by rw[<-hZJ];exact a0j (a0u hq)) (fun q hq hz=>by
        rw[<-hZ8,a0T]at hz;rw[<-hZJ,a0T];exact b1M (X:=un Z1 yo2) hor7 q hq hz) A U h
       exact a1g hE8 (fun q _ hq=>by rw[<-hZ8];exact a0j (a0j (hgZ q hq))) (fun _ _ h=>h) A U h1
      have hQ8:=QC.mono _ _ _ _ hle8 (by rw[<-hZJ];exact hQ1);have hw8:=QC.mono _ _ _ _ hle8 hw1;have hj8:=(hj1.ext hE7 hobj).ext hE8 (a0b hgj.symm);have hm8:=m3.ext0 hE38;have hv8:=v3.ext0 hE38;have hXZ1:HX Z1 w8:=fun q hq=>c1C (hX1j q hq) (c1A hbk (c1A hE7.size hE8.size));have hXZ8:HX Z8 w8:=by rw[<-hZ8];exact a3i (a3i hXZ1 fun q hq=>(hX8.block hq).2) fun q hq=>(hY8.block hq).2
      have hob78:∀q,q<w3.heap.size->Z8 q=true->Z1 q=true:=fun q hq hz=>by
       rw[<-hZ8]at hz;have e1:ob xo7 q=false:=hX8.ob_lt hq;have e2:ob yo2 q=false:=hY8.ob_lt hq;cases h0:Z1 q
       ·simp[un,h0,e1,e2]at hz
       ·rfl
      have hl38:=hrow.out Z8 w8 hE38 hob78;have hys8:=hys.mono QV.mono hl38;have htv8:=QV.mono _ _ _ _ hl38 htv;obtain⟨gy,oy,sy,py,ny,qy,dy,ky,ey,hgy,hXy,hcy,hqy⟩:=hys8.rat QV.shaped j hjy;obtain⟨yj,hyj⟩:=c1F (m.xy[j]);obtain⟨YJ,hYJ⟩:=c1F (YD[j]);rw[hyj]at hqy hYj;rw[hYJ]at hYj htY;have hYj':=hid hYj;have hEd:=c1L w8;have hwv:Hid (hq (SW*v)<=68719476736):=hid (c1A (hq_mul _ _) (by have:=hwq.out;omega));have hwd:=(mkx QC.mono hw8 hEd).qv (c1A hwq.out (by decide));have htd:=mkx QV.mono htv8 hEd;have hyd:=mkx QV.mono hqy hEd;have hYd:=hY8.ext0 QC.elem hEd;have hXd:HX Z8 w8.drew:=hXZ8.ext hEd;have hXu7:HX (un Z1 xo7) w8.drew:=a3i (hXZ1.ext hEd) fun q hq=>(hX8.block hq).2;have ogy:ob yo2 g=false:=by
       cases hc:ob yo2 g
       ·rfl
       ·have:=(a0V (hY8.1 g hc)).1;rw[hgg]at this;cases this
      have o1:ob yo2 b=false:=hY8.ob_lt (a1Z (m3.cell 0 rfl));have o2:ob yo2 (b+1)=false:=hY8.ob_lt (a1Z (v3.cell 0 rfl));have o3:ob yo2 gy=false:=by rw[<-hZ8]at hXy;exact(a0V hXy).2
      have hS:Hid (∀Y W',ExtX Y w8.drew W'->Y g=false->Y b=false->Y gy=false->Y jb=false->Y (b+1)=false->W'.cell? ⟨g,2,none⟩=some (.slice yo2 j yc2)/\W'.cell? ⟨b,2,none⟩=some (.slice yo n yc)/\(W'.cell? ⟨gy,oy,none⟩=some (.bool sy)/\W'.cell? ⟨gy,oy+1,none⟩=some (.slice py ny qy)/\W'.cell? ⟨gy,oy+2,none⟩=some (.slice dy ky ey))/\(W'.cell? ⟨jb,0,none⟩=some (.bool s7)/\W'.cell? ⟨jb,0+1,none⟩=some (.slice a7 n7 c7)/\W'.cell? ⟨jb,0+2,none⟩=some (.slice d7 k7 e7))/\(W'.cell? ⟨b+1,0,none⟩=some (.bool s2)/\W'.cell? ⟨b+1,0+1,none⟩=some (.slice a2 n2 c2)/\W'.cell? ⟨b+1,0+2,none⟩=some (.slice d2 k2 e2))):=hid fun Y W' h h1 h2 h3 h4 h5=>by
       have p1:=(bg8'.ext0 hEd).ext h h1;have p2:=(hm8.ext0 hEd).ext h h2;have p3:=(hj8.ext0 hEd).ext h h4;have p4:=(hv8.ext0 hEd).ext h h5;exact⟨p1.cell 2 rfl,p2.cell 2 rfl,hcy.out Y W' ((ExtX.of hEd).trans h) h3,⟨p3.cell 0 rfl,p3.cell 1 rfl,p3.cell 2 rfl⟩,⟨p4.cell 0 rfl,p4.cell 1 rfl,p4.cell 2 rfl⟩⟩
      have iy:∀W,(Instr.indexAt 24 (.slice yo n yc) (.int .i64 (j:Int))).run Tryz.prog W=.ok (.pointer (some ⟨gy,oy,none⟩)) W:=by rw[<-hgy];exact a0e a0x yo n yc .i64 j hhy (by omega)
      have hbY:w3.heap.size<=w8.drew.heap.size:=(hE38.trans hEd).size;clear q1 hgy hqy hys8 hcy hm8 hv8 hj8 hj1 hRC bg8 bg7 hY7 hX1' hY1' hQ1 hw1 hYj;refine a0n 14 (fun W'=>W'.cell? ⟨g,2,none⟩=some (.slice yo2 j yc2)/\W'.cell? ⟨b,2,none⟩=some (.slice yo n yc)/\(W'.cell? ⟨gy,oy,none⟩=some (.bool sy)/\W'.cell? ⟨gy,oy+1,none⟩=some (.slice py ny qy)/\W'.cell? ⟨gy,oy+2,none⟩=some (.slice dy ky ey))/\(W'.cell? ⟨jb,0,none⟩=some (.bool s7)/\W'.cell? ⟨jb,0+1,none⟩=some (.slice a7 n7 c7)/\W'.cell? ⟨jb,0+2,none⟩=some (.slice d7 k7 e7))/\(W'.cell? ⟨b+1,0,none⟩=some (.bool s2)/\W'.cell? ⟨b+1,0+1,none⟩=some (.slice a2 n2 c2)/\W'.cell? ⟨b+1,0+2,none⟩=some (.slice d2 k2 e2))) (by kernel_rfl) (by kernel_rfl) (hS.out noY _ (ExtX.refl _) rfl rfl rfl rfl rfl) (fun hHeld hOnce=>?_);refine kt 0 hOnce ?_;refine kt 1 hOnce ?_;refine kt 2 hOnce ?_;refine kt 3 hOnce ?_;refine kt 4 hOnce ?_;refine kt 5 hOnce ?_;refine kt 6 hOnce ?_;refine kt 7 hOnce ?_;refine kt 8 hOnce ?_;refine ks 9 (fun K hK=>?_);go_simp
      (go_at_call 35;(with_reducible refine(a9E Z8 w8.drew _ _ _ _ hXd hwd htd).mono ?_);rintro ee w10 ⟨t1,u10,rfl,hu10⟩)
      refine kcn hK (hS.out noY w10 t1 rfl rfl rfl rfl rfl) (fun hHeld=>?_);clear hK K;have hX10:=HX.ext hXd t1;have hy10:=mkx QV.mono hyd t1;have hu10v:=hu10.qv hwv.out;refine ks 10 (fun K hK=>?_);go_simp
      (go_at_call 46;(with_reducible refine(b2U Z8 w10 _ _ _ _ hX10 hy10 hu10v).mono ?_);rintro ee w11 ⟨t2,u11,rfl,hu11⟩)
      refine kcn hK (hS.out noY w11 (t1.trans t2) rfl rfl rfl rfl rfl) (fun hHeld=>?_);clear hK K;have t12:=t1.trans t2;obtain⟨s11,a11,n11,c11,d11,k11,e11,rfl⟩:=hu11.shape;rw[<-hYj'.out,<-hZ8]at hu11;have hY11:=hYd.ext0 QC.elem t12;have hX11:=hXu7.ext t12;have hb11:=c1A hbY t12.size;refine ks 11 (fun K hK=>?_);go_simp
      skip
      refine kcn hK (hS.out noY _ (t12.alloc _) rfl rfl rfl rfl rfl) (fun hHeld=>?_);clear hK K;refine ks 12 (fun K hK=>?_)
      (refine a1p (l:=YD.take j) rfl (by rfl) a0x rfl QC.elem hb11 hX11 j hlY.out rfl rfl hY11 (.agg #[.bool s11,.slice a11 n11 c11,.slice d11 k11 e11]) YJ rfl hu11 (by omega) (by omega) ?_;intro yo9 yc9 w12 hY12 hE12 hor12)
      refine kcn hK (hS.out (ob yo2) w12 ((ExtX.of t12).trans hE12) ogy o1 o3 hoyj o2) (fun hHeld=>?_);clear hK K;have bg12:=(bg8'.ext0 (hEd.trans t12)).ext hE12 ogy;refine kt 13 hOnce ?_;refine kl 14 (fun K hK=>?_)
      (refine a4E (v:= .slice yo9 (j+1) yc9) rfl rfl a8W rfl rfl rfl rfl bg12 (by simp) ?_;intro w13 bg13 hE13)
      refine hK.out _ _ ?_;clear hK K
      (try simp only[Act.put])
      have bg13':Bx w13 g #[.int .i64 N',.slice xo7 (j+1) xc7,.slice yo9 (j+1) yc9,.bool sd,.slice ad nd cd,.slice dd kd ed] 124:=by simpa using bg13
      rw[htY.out]at hY12;have hE8t:=hEd.trans t12;have hX13:=((hX8.ext0 RC.elem hE8t).ext RC.elem (Z:=un Z1 yo9) hE12 (fun q _ hq=>a0u hq) (b1M hor12)).ext RC.elem (Z:=un Z1 yo9) hE13 (fun q _ hq=>a0j (hgZ q hq)) (fun _ _ h=>h);have hY13:=hY12.ext QC.elem (Z:=un Z1 xo7) hE13 (fun q _ hq=>a0j (hgZ q hq)) (fun _ _ h=>h);have hQ13:QC (mk (un (un Z1 xo7) yo9) w13) (.agg #[.bool sd,.slice ad nd cd,.slice dd kd ed]) D:=QC.mono _ _ _ _ (a1g hE13 (fun q _ hq=>a0j (a0j (hgZ q hq))) (fun _ _ h=>h)) (QC.mono _ _ _ _ (a1g (Z:=un (un Z1 xo7) yo9) hE12 (fun q _ hq=>by rw[<-hZ8];exact a0u hq) (fun q hq hz=>by rw[<-hZ8];exact b1M (X:=un Z1 xo7) hor12 q hq hz)) (mkx QC.mono hQ8 hE8t));have hE3z:Ext w3 w13:=ExtX.box ((hE38.trans hE8t).own hY11 (c1B _) hE12) hE13 hge;have hXz:HX Z1 w13:=fun q hq=>c1C (hXZ1 q hq) (c1A hE8t.size (c1A hE12.size hE13.size));go_wp2_with fail
      go_roundw
      case rel=>exact⟨j+1,xo7,xc7,yo9,yc9,by go_num,by omega,bg13',hX13,hY13,hQ13,hXz,hE3z⟩
      case measure=>simp[intOf];omega
   ·have hjn:j=n:=by omega
    subst hjn;rw[c1D (by rw[hXl.out];exact c1B _)]at hOX;rw[c1D (by rw[hYl.out];exact c1B _)]at hOY;have hXs:=hOX.sl RC.elem;have hXc:=hOX.lenCap;have hYs:=hOY.sl QC.elem;have hYc:=hOY.lenCap;rw[hXl.out]at hXc;rw[hYl.out]at hYc;have q0:=bg.cell 0 rfl;have q1:=bg.cell 1 rfl;have q2:=bg.cell 2 rfl;have q3:=bg.cell 3 rfl;have q4:=bg.cell 4 rfl;have q5:=bg.cell 5 rfl;have tr:=t3.ext0 hEr;clear bg;go_wp2_with (refine a0a a3H rfl rfl tr rfl rfl (by intro v hv;simp at hv;rcases hv with rfl|rfl|rfl|rfl|rfl|rfl<;>rfl) ?_;intro w7 r1 r2)
    have hE7:Ext w w7:=ExtX.box (hE03.trans hEr) r2 (by omega);have hl7:Le (mk (un Z1 yo2) wr) (mk X w7):=a4k r2 (fun k hk=>a0j (hb3.out k hk)) (fun k hk=>a0j (hXZ.out k hk));have hl8:Le (mk (un Z1 xo2) wr) (mk X w7):=a4k r2 (fun k hk=>a0j (hb3.out k hk)) (fun k hk=>a0j (hXZ.out k hk));have hl9:Le (mk (un (un Z1 xo2) yo2) wr) (mk X w7):=a4k r2 (fun k hk=>a0j (a0j (hb3.out k hk))) (fun k hk=>a0j (a0j (hXZ.out k hk)));refine bodyPost_ret (a0d rfl rfl a3H r1 rfl) rfl (hfin.out w7 _ _ _ _ _ _ _ _ _ _ _ hE7 ⟨_,_,by rw[hXl.out],by rw[hXl.out];exact hXc,hXs.mono RC.mono hl7⟩ ⟨_,_,by rw[hYl.out],by rw[hYl.out];exact hYc,hYs.mono QC.mono hl8⟩ (QC.mono _ _ _ _ hl9 hQ))
end Go.Proofs.YtjmnhbebpffoaaaGreat
namespace Go
section
variable {P:Program} {ops:Array Oper} {Q:Exit->Act->World->Prop} {md:Region.Mode} {S:World->Prop} {n:Nat}
theorem a6b{i j l:Nat}{oi oj ol:Oper}{d:Nat}{b:Array Bool}{a:Act}{w:World}(o:Region.ready md ops b= [i,j,l])(s:ops[i]? =some oi)(t:ops[j]? =some oj)(u:ops[l]? =some ol)(p:∀c:Act->World->Prop,Shut (∀a w,S w->(S w->a1q P md ops Q S n d (b.setIfInBounds i true) a w)->c a w)->if Region.wanted oi (yielded ops a.tmps)=true then Oper.wp P oi a w c Q else c (a.put oi.dst undef) w)(q:∀c:Act->World->Prop,Shut (∀a w,S w->(S w->a1q P md ops Q S n d (b.setIfInBounds j true) a w)->c a w)->if Region.wanted oj (yielded ops a.tmps)=true then Oper.wp P oj a w c Q else c (a.put oj.dst undef) w)(r:∀c:Act->World->Prop,Shut (∀a w,S w->(S w->a1q P md ops Q S n d (b.setIfInBounds l true) a w)->c a w)->if Region.wanted ol (yielded ops a.tmps)=true then Oper.wp P ol a w c Q else c (a.put ol.dst undef) w):a1q P md ops Q S n (d+1) b a w:=by
 refine⟨fun m=>(by rw[o]at m;cases m),fun k f=>?_⟩;rw[o]at f;rcases List.mem_cons.1 f with rfl|f
 ·exact wpOp_step s (fun c g=>p c (fun a w e h=>g a w ⟨fun _=>e,h e⟩))
 ·rcases List.mem_cons.1 f with rfl|f
  ·exact wpOp_step t (fun c g=>q c (fun a w e h=>g a w ⟨fun _=>e,h e⟩))
  ·obtain rfl:k=l:=by simpa using f
   exact wpOp_step u (fun c g=>r c (fun a w e h=>g a w ⟨fun _=>e,h e⟩))
end
end Go
namespace Go.Proofs.YtjmnhbebpffoaaaGreat
open Go.RowKit
section
variable {α:Type} {R:Mem->Value->α->Prop} {sz e:Nat}
variable {P:Program} {ops:Array Oper} {Q:Exit->Act->World->Prop} {a:Act} {w:World}
theorem a0P{o:Oper}{K:Act->World->Prop}{E:Prop}{t d:Nat}{z:Value}{x y:Operand}{kl l:IntKind}{m:Int}(A:o.guard=none)(i:o.op=.makeSlice t x y)(T:SliceT P t e sz d z)(s:Elem R sz)(j:α)(hz:∀h,R h z j)(X:Nat->Bool)(u:∀k,X k=true->k<w.heap.size)(base:Nat)(b:base<=w.heap.size)(n:Nat)(B:a.eval x=.int kl m)(v:a.eval y=.int l m)(C:m=(n:Int))(c:d*n<=281474976710656)(f:n<=9223372036854775807)(r:∀ao g,OL R sz X base e g ao n (List.replicate n j)->Ext w g->K (a.put o.dst (.slice ao n n)) g):if Region.wanted o (yielded ops a.tmps)=true then Oper.wp P o a w K Q else E:=by
 have F:Region.wanted o (yielded ops a.tmps)=true:=by simp[Region.wanted,A]
 rw[if_pos F];subst C;obtain⟨ao,g,D,p,q⟩:=OL.run_make (P:=P) T s j hz u b kl l n c f;unfold Oper.wp execOp;rw[i];simp[B,v,D,Result.andThen];exact r ao g p q
end
def a2Y(x:Mat)(y:List Rat):Bool:=a0A x&&decide (1<=x.length/\x.length<=64/\colsL x<=12/\y.length=x.length)
theorem a1k{x:Mat}{y:List Rat}:a2Y x y=true↔a0A x=true/\1<=x.length/\x.length<=64/\colsL x<=12/\y.length=x.length:=by
 unfold a2Y;rw[Bool.and_eq_true,decide_eq_true_eq]
theorem b3I{x:Mat}{y:List Rat}(h:¬(1<=x.length/\x.length<=64/\colsL x<=12/\y.length=x.length)):false=a2Y x y:=by
 cases a:a2Y x y
 ·rfl
 ·exact absurd (a1k.1 a).2 h
theorem a6L(X:Nat->Bool)(w:World)(u v:Value)(x:Mat)(y:List Rat)(U:HX X w)(N:MV (mk X w) u x)(W:RV (mk X w) v y)(T:x.length<=1099511627776):Calls Tryz.prog 150 #[u,v] w (a7U w (a2Y x y)):=by
 cases p:a0A x
 ·have f:=a5Y X w u x N T p
  have g:Hid (false=a2Y x y):=hid (by unfold a2Y;rw[p];rfl);clear p;go_enter Tryz.func150,Tryz.ntmps150
  go_wp2_with fail
  refine f.mono ?_;rintro e m ⟨rfl,rfl⟩;clear f;go_wp2_with fail
  go_ret
  exact⟨ExtX.refl _,a0m g.out⟩
 ·have d:=a2E X w u x x.length (colsL x) U N p rfl rfl
  have i:Hid (1<=x.length/\x.length<=64/\colsL x<=12/\y.length=x.length->true=a2Y x y):=hid fun h=>(a1k.2 ⟨p,h⟩).symm;have f:Hid (¬(1<=x.length/\x.length<=64/\colsL x<=12/\y.length=x.length)->false=a2Y x y):=hid b3I;have l:Hid (∀h:0<x.length,x[0].length=colsL x):=hid fun h=>(a1i h).symm;obtain⟨ua,uc,rfl,O,z⟩:=N;obtain⟨va,vc,rfl,P,Q⟩:=W;have J:=z.hd;obtain⟨b,S⟩:=c1F (a2Y x y);rw[S]at i f |-;obtain⟨n,t⟩:=c1F x.length;obtain⟨c,C⟩:=c1F (colsL x);obtain⟨k,K⟩:=c1F y.length;have L:=hid t;rw[C]at l;rw[t,C,K]at i f;rw[t,C]at d;rw[t]at J T |-;rw[K]at |-;clear p S t C K Q O P;by_cases E:1<=n
  ·have F:(1:Int)<=(n:Int):=by omega
   by_cases o:n<=64
   ·have G:(n:Int)<=64:=by omega
    have R:0<x.length:=by rw[L.out];omega
    obtain⟨Y,Z,V,j,s,M⟩:=z.row 0 R;have r:=l.out R;rw[r]at j;clear r M s;by_cases q:c<=12
    ·have H:(c:Int)<=12:=by omega
     by_cases B:k=n
     ·have I:((k:Int)==(n:Int))=true:=a6u (by omega)
      have g:=hid (i.out ⟨E,o,q,B⟩);clear o q B;go_enter Tryz.func150,Tryz.ntmps150
      go_wp2_with fail
      refine d.mono ?_;rintro e m ⟨a,D,rfl,_⟩;clear d;have A:=j.out noY m a rfl;go_wp2_with (with_reducible refine a0v a0o ?_)
      go_ret
      exact⟨a,a0m g.out⟩
     ·have I:((k:Int)==(n:Int))=false:=a2C (by omega)
      have g:=hid (f.out fun h=>B h.2.2.2);clear o q B;go_enter Tryz.func150,Tryz.ntmps150
      go_wp2_with fail
      refine d.mono ?_;rintro e m ⟨a,D,rfl,_⟩;clear d;have A:=j.out noY m a rfl;go_wp2_with (with_reducible refine a0v a0o ?_)
      go_ret
      exact⟨a,a0m g.out⟩
    ·have H:¬(c:Int)<=12:=by omega
     have g:=hid (f.out fun h=>q h.2.2.1);clear o q;go_enter Tryz.func150,Tryz.ntmps150
     go_wp2_with fail
     refine d.mono ?_;rintro e m ⟨a,D,rfl,_⟩;clear d;have A:=j.out noY m a rfl;go_wp2_with (with_reducible refine a0v a0o ?_)
     go_ret
     exact⟨a,a0m g.out⟩
   ·have G:¬(n:Int)<=64:=by omega
    have g:=hid (f.out fun h=>o h.2.1);clear o;go_enter Tryz.func150,Tryz.ntmps150
    go_wp2_with fail
    refine d.mono ?_;rintro e m ⟨a,D,rfl,_⟩;clear d;go_wp2_with fail
    go_ret
    exact⟨a,a0m g.out⟩
  ·have F:¬(1:Int)<=(n:Int):=by omega
   have g:=hid (f.out fun h=>E h.1);clear E;go_enter Tryz.func150,Tryz.ntmps150
   go_wp2_with fail
   refine d.mono ?_;rintro e m ⟨a,D,rfl,_⟩;clear d;go_wp2_with fail
   go_ret
   exact⟨a,a0m g.out⟩
theorem a6M(X:Nat->Bool)(w:World)(u v:Value)(x:Mat)(y:List Rat)(_:HX X w)(N:MV (mk X w) u x)(U:RV (mk X w) v y)(K:x.length<=1099511627776):Calls Tryz.prog 63 #[u,v] w (a7U w (a2Y x y)):=by
 cases p:a0A x
 ·have f:=a4l QV.mono X w u x N K
  rw[p]at f;have g:Hid (false=a2Y x y):=hid (by unfold a2Y;rw[p];rfl);clear p;go_enter Tryz.func63,Tryz.ntmps63
  go_wp2_with fail
  refine f.mono ?_;rintro e m ⟨a,rfl⟩;clear f;go_wp2_with fail
  go_ret
  exact⟨a,a0m g.out⟩
 ·have d:=a4l QV.mono X w u x N K
  rw[p]at d;have i:Hid (1<=x.length/\x.length<=64/\colsL x<=12/\y.length=x.length->true=a2Y x y):=hid fun h=>(a1k.2 ⟨p,h⟩).symm;have f:Hid (¬(1<=x.length/\x.length<=64/\colsL x<=12/\y.length=x.length)->false=a2Y x y):=hid b3I;have l:Hid (∀h:0<x.length,x[0].length=colsL x):=hid fun h=>(a1i h).symm;obtain⟨Y,Z,rfl,O,t⟩:=N;obtain⟨va,vc,rfl,P,Q⟩:=U;have I:=t.hd;obtain⟨b,S⟩:=c1F (a2Y x y);rw[S]at i f |-;obtain⟨n,B⟩:=c1F x.length;obtain⟨c,H⟩:=c1F (colsL x);obtain⟨k,J⟩:=c1F y.length;have L:=hid B;rw[H]at l;rw[B,H,J]at i f;rw[B]at d I K |-;rw[J]at |-;clear p S B H J Q O P;by_cases C:1<=n
  ·have D:(1:Int)<=(n:Int):=by omega
   by_cases o:n<=64
   ·have E:(n:Int)<=64:=by omega
    have R:0<x.length:=by rw[L.out];omega
    obtain⟨V,W,T,j,s,M⟩:=t.row 0 R;have r:=l.out R;rw[r]at j;clear r M s;by_cases q:c<=12
    ·have F:(c:Int)<=12:=by omega
     by_cases A:k=n
     ·have G:((k:Int)==(n:Int))=true:=a6u (by omega)
      have g:=hid (i.out ⟨C,o,q,A⟩);clear o q A;go_enter Tryz.func63,Tryz.ntmps63
      go_wp2_with fail
      refine d.mono ?_;rintro e m ⟨a,rfl⟩;clear d;have z:=j.out noY m a rfl;go_wp2_with (with_reducible refine a0v a0o ?_)
      go_ret
      exact⟨a,a0m g.out⟩
     ·have G:((k:Int)==(n:Int))=false:=a2C (by omega)
      have g:=hid (f.out fun h=>A h.2.2.2);clear o q A;go_enter Tryz.func63,Tryz.ntmps63
      go_wp2_with fail
      refine d.mono ?_;rintro e m ⟨a,rfl⟩;clear d;have z:=j.out noY m a rfl;go_wp2_with (with_reducible refine a0v a0o ?_)
      go_ret
      exact⟨a,a0m g.out⟩
    ·have F:¬(c:Int)<=12:=by omega
     have g:=hid (f.out fun h=>q h.2.2.1);clear o q;go_enter Tryz.func63,Tryz.ntmps63
     go_wp2_with fail
     refine d.mono ?_;rintro e m ⟨a,rfl⟩;clear d;have z:=j.out noY m a rfl;go_wp2_with (with_reducible refine a0v a0o ?_)
     go_ret
     exact⟨a,a0m g.out⟩
   ·have E:¬(n:Int)<=64:=by omega
    have g:=hid (f.out fun h=>o h.2.1);clear o;go_enter Tryz.func63,Tryz.ntmps63
    go_wp2_with fail
    refine d.mono ?_;rintro e m ⟨a,rfl⟩;clear d;go_wp2_with fail
    go_ret
    exact⟨a,a0m g.out⟩
  ·have D:¬(1:Int)<=(n:Int):=by omega
   have g:=hid (f.out fun h=>C h.1);clear C;go_enter Tryz.func63,Tryz.ntmps63
   go_wp2_with fail
   refine d.mono ?_;rintro e m ⟨a,rfl⟩;clear d;go_wp2_with fail
   go_ret
   exact⟨a,a0m g.out⟩
theorem a0S{α:Type}{R:Mem->Value->α->Prop}{sz base:Nat}{e:TypeId}{Z:Nat->Bool}{w f:World}{ao g:Option Addr}{a:Nat}{l:List α}(j:Elem R sz)(h:OL R sz Z base e w ao a l)(i:Ext w f)(hz:∀k,ob g k=true->w.heap.size<=k):OL R sz (un Z g) base e f ao a l:=
 h.ext j i (fun k _ d=>by simp[noY]at d) fun k d b=>by
  by_cases c:Z k=true
  ·exact c
  ·have:=hz k (by simpa[un,c]using b)
   omega
def b9H(X:Nat->Bool)(w:World)(m:Mom)(e:Ending)(w':World):Prop:=Ext w w'/\∃u,e=.returned (.tuple #[u,.int .i64 0])/\a8V (mk X w') u m
theorem b1P(X:Nat->Bool)(w:World)(u t:Value)(x:Mat)(y:List Rat)(n c B:Nat)(hX:HX X w)(hu:MV (mk X w) u x)(ht:RV (mk X w) t y)(f6:a2Y x y=true)(e0:x.length=n)(b6:colsL x=c)(hn:n<=8)(hc:c<=4)(k1:BM B x)(f9:BR B y)(g3:1<=B)(J:B<=510/\n*(2*B+1)<=6540):Calls Tryz.prog 108 #[u,t] w (b9H X w (gmM x y c n)):=by
 obtain⟨W,hW,hE,b0,hz⟩:=a0Y w #[.int .i64 0,.slice none 0 0,.slice none 0 0,.bool false,.slice none 0 0,.slice none 0 0] 124;have d7:HX (a0f X w.heap.size 1) W:=hX.boxes hz;have c8:Hid (∀M,Ext W M->Le (mk X w) (mk (a0f X w.heap.size 1) M)):=hid fun M h=>a0i (hE.trans h);obtain⟨b,hb⟩:=c1F w.heap.size;rw[hb]at b0 hz d7 c8;have o4:w.heap.size<=b:=by omega
 obtain⟨I,d8⟩:=c1F (a0f X b 1);rw[d8]at d7 c8;obtain⟨hf,h1,k7,k5,e1⟩:=a1k.1 f6;obtain⟨b7,_,_,e7,_⟩:=a0w hf;rw[e0,b6]at b7;rw[e0]at h1 e1;have l7:=e7 (by omega);rw[b6]at l7;have c9:=a6L I W u t x y d7 (MV.mono _ _ _ _ (c8.out W (ExtX.refl _)) hu) (RV.mono _ _ _ _ (c8.out W (ExtX.refl _)) ht) (by omega);rw[f6]at c9;obtain⟨ua,uc,rfl,n2,f8⟩:=hu;obtain⟨ta,tc,rfl,n0,j8⟩:=ht;have l8:=f8.hd;have i6:=j8.hd;obtain⟨a0,c0,o1,h9,i0,m9⟩:=f8.row 0 (by omega);rw[b7.2 x[0] (c1E _)]at h9;have d1:=hid b7;have k2:=hid e1;rw[e0]at c9 l8 n2 |-;rw[e1]at c9 i6 n0 |-;clear hf k7 k5 e7 m9 i0 f6 e0 b6 e1 b7;have hI:(0:Int)<=0/\(0:Int)<(n:Int):=by omega
 obtain⟨F,hF⟩:=c1F (b9H X w (gmM x y c n));rw[hF];have g9:=hid hF;clear hF;go_enter Tryz.func108,Tryz.ntmps108
 go_wp2_with fail
 refine c9.mono ?_;rintro ee f ⟨c1,rfl⟩;have g0:=h9.out noY f (hE.trans c1) rfl;have h5:HX I f:=d7.ext c1;clear c9;go_upto_region 4 with((with_reducible refine a0v a0o ?_))
 have b4:=c1L f;have b1:HX I f.drew:=h5.ext b4;clear g0
 (try simp only[Act.put])
 go_cut [7]from 20 to 24 (fun bv wx=>∃(g:Nat) (E G:Option Addr),bv=.pointer (some ⟨g,0,none⟩)/\Bx wx g #[.int .i64 0,.slice E c c,.slice G c c,.bool false,.slice none 0 0,.slice none 0 0] 124/\OL HdR 1 (un (un I (some ⟨g,0,none⟩)) G) f.drew.heap.size 24 wx E c (List.replicate c (none,0,0))/\OL QC 3 (un (un I (some ⟨g,0,none⟩)) E) f.drew.heap.size 47 wx G c (List.replicate c 0)/\f.heap.size<=g/\g<wx.heap.size/\Ext f wx)
 case first=>
  refine a0n 6 (fun _=>True) (by kernel_rfl) (by kernel_rfl) trivial (fun p m=>?_);refine kt 0 m ?_;refine kt 2 m ?_;refine a6b (i:=1) (j:=3) (l:=5) (oi:=⟨_,_,_,_,_,_⟩) (oj:=⟨_,_,_,_,_,_⟩) (ol:=⟨_,_,_,_,_,_⟩) (by kernel_rfl) rfl rfl rfl (fun K C=>?_) (fun K C=>?_) (fun K C=>?_)
  ·skip
   (refine a0P (R:=HdR) rfl rfl a0o HdR.elem (none,0,0) (fun _=>rfl) I (b1.ext (ExtX.refl (Y:=noY) f.drew)) f.drew.heap.size (c1B _) c rfl rfl rfl (by omega) (by omega) ?_;intro E P H eA)
   refine kcn C trivial (fun p=>?_);clear C K;have nA:∀q,ob E q=true->f.drew.heap.size<=q:=fun q hq=>(H.block hq).1;have H:=H.base_le (b':=f.drew.heap.size) ((ExtX.refl (Y:=noY) f.drew)).size;have EA:Ext f.drew P:=(ExtX.refl (Y:=noY) f.drew).trans eA;refine a1E (i:=3) (j:=5) (oi:=⟨_,_,_,_,_,_⟩) (oj:=⟨_,_,_,_,_,_⟩) (by kernel_rfl) rfl rfl (fun K C=>?_) (fun K C=>?_)
   ·skip
    (refine a0P (R:=QC) rfl rfl a0x QC.elem (0:Rat) (fun _=>QC.zero _) (un I E) (a3i (b1.ext EA) fun q hq=>(H.block hq).2) P.heap.size (c1B _) c rfl rfl rfl (by omega) (by omega) ?_;intro G Q J eB)
    refine kcn C trivial (fun p=>?_);clear C K;have nB:∀q,ob G q=true->P.heap.size<=q:=fun q hq=>(J.block hq).1;have J:=J.base_le (b':=f.drew.heap.size) (EA).size;have H:=a0S HdR.elem H eB nB;have EB:Ext f.drew Q:=EA.trans eB;refine kt 4 m ?_;refine a1d (i:=5) (o:=⟨_,_,_,_,_,_⟩) (by kernel_rfl) rfl (fun K C=>?_);go_simp
    skip
    refine kcn C trivial (fun p=>?_);clear C K;have eG:Ext Q (Q.alloc (.cells #[.int .i64 0,.slice none 0 0,.slice none 0 0,.bool false,.slice none 0 0,.slice none 0 0] 124)):=(ExtX.refl _).alloc _;have T:Bx (Q.alloc (.cells #[.int .i64 0,.slice none 0 0,.slice none 0 0,.bool false,.slice none 0 0,.slice none 0 0] 124)) Q.heap.size #[.int .i64 0,.slice none 0 0,.slice none 0 0,.bool false,.slice none 0 0,.slice none 0 0] 124:=Bx.new Q _ _;have zG:(Q.alloc (.cells #[.int .i64 0,.slice none 0 0,.slice none 0 0,.bool false,.slice none 0 0,.slice none 0 0] 124)).heap.size=Q.heap.size+1:=by simp
    obtain⟨V,b3⟩:=c1F (Q.alloc (.cells #[.int .i64 0,.slice none 0 0,.slice none 0 0,.bool false,.slice none 0 0,.slice none 0 0] 124));rw[b3]at eG T zG |-;obtain⟨z,a3⟩:=c1F Q.heap.size;have a4:Q.heap.size<=z:=by rw[<-a3];exact c1B _
    rw[a3]at T zG |-;have D:z<V.heap.size:=by omega
    have nG:∀q,ob (some ⟨z,0,none⟩) q=true->Q.heap.size<=q:=fun q hq=>(by simpa[ob]using hq:z=q)▸a4;have L:f.heap.size<=z:=c1A (EB).size a4;have H:=a0S HdR.elem H eG nG;have J:=a0S QC.elem J eG nG;have EG:Ext f.drew V:=EB.trans eG;refine kl 6 (fun K C=>?_)
    (refine a0r rfl rfl a3H rfl rfl T rfl rfl (by intro v hv;simp at hv;rcases hv with rfl|rfl|rfl|rfl|rfl|rfl<;>rfl) ?_;intro w9 y1 S)
    refine C.out _ _ ?_;clear C K
    (try simp only[Act.put])
    have a8:OL HdR 1 (un (un I (some ⟨z,0,none⟩)) G) f.drew.heap.size 24 w9 E c (List.replicate c (none,0,0)):=by
     have h:=H.ext HdR.elem (Z:=un (un I G) (some ⟨z,0,none⟩)) S (fun q _ hq=>by simp[un,hq]) (fun _ _ h=>h)
     first|exact h|(rw[a0T]at h;exact h)
    have a9:OL QC 3 (un (un I (some ⟨z,0,none⟩)) E) f.drew.heap.size 47 w9 G c (List.replicate c 0):=by
     have h:=J.ext QC.elem (Z:=un (un I E) (some ⟨z,0,none⟩)) S (fun q _ hq=>by simp[un,hq]) (fun _ _ h=>h)
     first|exact h|(rw[a0T]at h;exact h)
    have a5:Ext f w9:=ExtX.box (b4.trans EG) S L;have O:=c1C D S.size;go_wp2_with fail
    go_meet
    case rel=>exact⟨z,E,G,rfl,y1,a8,a9,L,O,a5⟩
   ·skip
    go_simp
    skip
    refine kcn C trivial (fun p=>?_);clear C K;have eG:Ext P (P.alloc (.cells #[.int .i64 0,.slice none 0 0,.slice none 0 0,.bool false,.slice none 0 0,.slice none 0 0] 124)):=(ExtX.refl _).alloc _;have T:Bx (P.alloc (.cells #[.int .i64 0,.slice none 0 0,.slice none 0 0,.bool false,.slice none 0 0,.slice none 0 0] 124)) P.heap.size #[.int .i64 0,.slice none 0 0,.slice none 0 0,.bool false,.slice none 0 0,.slice none 0 0] 124:=Bx.new P _ _;have zG:(P.alloc (.cells #[.int .i64 0,.slice none 0 0,.slice none 0 0,.bool false,.slice none 0 0,.slice none 0 0] 124)).heap.size=P.heap.size+1:=by simp
    obtain⟨V,b3⟩:=c1F (P.alloc (.cells #[.int .i64 0,.slice none 0 0,.slice none 0 0,.bool false,.slice none 0 0,.slice none 0 0] 124));rw[b3]at eG T zG |-;obtain⟨z,a3⟩:=c1F P.heap.size;have a4:P.heap.size<=z:=by rw[<-a3];exact c1B _
    rw[a3]at T zG |-;have D:z<V.heap.size:=by omega
    have nG:∀q,ob (some ⟨z,0,none⟩) q=true->P.heap.size<=q:=fun q hq=>(by simpa[ob]using hq:z=q)▸a4;have L:f.heap.size<=z:=c1A (EA).size a4;have H:=a0S HdR.elem H eG nG;have EG:Ext f.drew V:=EA.trans eG;refine a1d (i:=3) (o:=⟨_,_,_,_,_,_⟩) (by kernel_rfl) rfl (fun K C=>?_)
    (refine a0P (R:=QC) rfl rfl a0x QC.elem (0:Rat) (fun _=>QC.zero _) (un (un I E) (some ⟨z,0,none⟩)) (a1m (a3i (b1.ext EG) fun q hq=>(H.block hq).2) D) V.heap.size (c1B _) c rfl rfl rfl (by omega) (by omega) ?_;intro G Q J eB)
    refine kcn C trivial (fun p=>?_);clear C K;have nB:∀q,ob G q=true->V.heap.size<=q:=fun q hq=>(J.block hq).1;have J:=J.base_le (b':=f.drew.heap.size) (EG).size;have H:=a0S HdR.elem H eB nB;have T:=T.ext0 eB;have D:=c1C D eB.size;have EB:Ext f.drew Q:=EG.trans eB;refine kt 4 m ?_;refine kl 6 (fun K C=>?_)
    (refine a0r rfl rfl a3H rfl rfl T rfl rfl (by intro v hv;simp at hv;rcases hv with rfl|rfl|rfl|rfl|rfl|rfl<;>rfl) ?_;intro w9 y1 S)
    refine C.out _ _ ?_;clear C K
    (try simp only[Act.put])
    have a8:OL HdR 1 (un (un I (some ⟨z,0,none⟩)) G) f.drew.heap.size 24 w9 E c (List.replicate c (none,0,0)):=by
     have h:=H.ext HdR.elem (Z:=un (un I (some ⟨z,0,none⟩)) G) S (fun q _ hq=>by simp[un,hq]) (fun _ _ h=>h)
     first|exact h|(rw[a0T]at h;exact h)
    have a9:OL QC 3 (un (un I (some ⟨z,0,none⟩)) E) f.drew.heap.size 47 w9 G c (List.replicate c 0):=by
     have h:=J.ext QC.elem (Z:=un (un I E) (some ⟨z,0,none⟩)) S (fun q _ hq=>by simp[un,hq]) (fun _ _ h=>h)
     first|exact h|(rw[a0T]at h;exact h)
    have a5:Ext f w9:=ExtX.box (b4.trans EB) S L;have O:=c1C D S.size;go_wp2_with fail
    go_meet
    case rel=>exact⟨z,E,G,rfl,y1,a8,a9,L,O,a5⟩
  ·skip
   (refine a0P (R:=QC) rfl rfl a0x QC.elem (0:Rat) (fun _=>QC.zero _) I (b1.ext (ExtX.refl (Y:=noY) f.drew)) f.drew.heap.size (c1B _) c rfl rfl rfl (by omega) (by omega) ?_;intro G Q J eB)
   refine kcn C trivial (fun p=>?_);clear C K;have nB:∀q,ob G q=true->f.drew.heap.size<=q:=fun q hq=>(J.block hq).1;have J:=J.base_le (b':=f.drew.heap.size) ((ExtX.refl (Y:=noY) f.drew)).size;have EB:Ext f.drew Q:=(ExtX.refl (Y:=noY) f.drew).trans eB;refine a1E (i:=1) (j:=5) (oi:=⟨_,_,_,_,_,_⟩) (oj:=⟨_,_,_,_,_,_⟩) (by kernel_rfl) rfl rfl (fun K C=>?_) (fun K C=>?_)
   ·skip
    (refine a0P (R:=HdR) rfl rfl a0o HdR.elem (none,0,0) (fun _=>rfl) (un I G) (a3i (b1.ext EB) fun q hq=>(J.block hq).2) Q.heap.size (c1B _) c rfl rfl rfl (by omega) (by omega) ?_;intro E P H eA)
    refine kcn C trivial (fun p=>?_);clear C K;have nA:∀q,ob E q=true->Q.heap.size<=q:=fun q hq=>(H.block hq).1;have H:=H.base_le (b':=f.drew.heap.size) (EB).size;have J:=a0S QC.elem J eA nA;have EA:Ext f.drew P:=EB.trans eA;refine kt 4 m ?_;refine a1d (i:=5) (o:=⟨_,_,_,_,_,_⟩) (by kernel_rfl) rfl (fun K C=>?_);go_simp
    skip
    refine kcn C trivial (fun p=>?_);clear C K;have eG:Ext P (P.alloc (.cells #[.int .i64 0,.slice none 0 0,.slice none 0 0,.bool false,.slice none 0 0,.slice none 0 0] 124)):=(ExtX.refl _).alloc _;have T:Bx (P.alloc (.cells #[.int .i64 0,.slice none 0 0,.slice none 0 0,.bool false,.slice none 0 0,.slice none 0 0] 124)) P.heap.size #[.int .i64 0,.slice none 0 0,.slice none 0 0,.bool false,.slice none 0 0,.slice none 0 0] 124:=Bx.new P _ _;have zG:(P.alloc (.cells #[.int .i64 0,.slice none 0 0,.slice none 0 0,.bool false,.slice none 0 0,.slice none 0 0] 124)).heap.size=P.heap.size+1:=by simp
    obtain⟨V,b3⟩:=c1F (P.alloc (.cells #[.int .i64 0,.slice none 0 0,.slice none 0 0,.bool false,.slice none 0 0,.slice none 0 0] 124));rw[b3]at eG T zG |-;obtain⟨z,a3⟩:=c1F P.heap.size;have a4:P.heap.size<=z:=by rw[<-a3];exact c1B _
    rw[a3]at T zG |-;have D:z<V.heap.size:=by omega
    have nG:∀q,ob (some ⟨z,0,none⟩) q=true->P.heap.size<=q:=fun q hq=>(by simpa[ob]using hq:z=q)▸a4;have L:f.heap.size<=z:=c1A (EA).size a4;have J:=a0S QC.elem J eG nG;have H:=a0S HdR.elem H eG nG;have EG:Ext f.drew V:=EA.trans eG;refine kl 6 (fun K C=>?_)
    (refine a0r rfl rfl a3H rfl rfl T rfl rfl (by intro v hv;simp at hv;rcases hv with rfl|rfl|rfl|rfl|rfl|rfl<;>rfl) ?_;intro w9 y1 S)
    refine C.out _ _ ?_;clear C K
    (try simp only[Act.put])
    have a8:OL HdR 1 (un (un I (some ⟨z,0,none⟩)) G) f.drew.heap.size 24 w9 E c (List.replicate c (none,0,0)):=by
     have h:=H.ext HdR.elem (Z:=un (un I G) (some ⟨z,0,none⟩)) S (fun q _ hq=>by simp[un,hq]) (fun _ _ h=>h)
     first|exact h|(rw[a0T]at h;exact h)
    have a9:OL QC 3 (un (un I (some ⟨z,0,none⟩)) E) f.drew.heap.size 47 w9 G c (List.replicate c 0):=by
     have h:=J.ext QC.elem (Z:=un (un I E) (some ⟨z,0,none⟩)) S (fun q _ hq=>by simp[un,hq]) (fun _ _ h=>h)
     first|exact h|(rw[a0T]at h;exact h)
    have a5:Ext f w9:=ExtX.box (b4.trans EG) S L;have O:=c1C D S.size;go_wp2_with fail
    go_meet
    case rel=>exact⟨z,E,G,rfl,y1,a8,a9,L,O,a5⟩
   ·skip
    go_simp
    skip
    refine kcn C trivial (fun p=>?_);clear C K;have eG:Ext Q (Q.alloc (.cells #[.int .i64 0,.slice none 0 0,.slice none 0 0,.bool false,.slice none 0 0,.slice none 0 0] 124)):=(ExtX.refl _).alloc _;have T:Bx (Q.alloc (.cells #[.int .i64 0,.slice none 0 0,.slice none 0 0,.bool false,.slice none 0 0,.slice none 0 0] 124)) Q.heap.size #[.int .i64 0,.slice none 0 0,.slice none 0 0,.bool false,.slice none 0 0,.slice none 0 0] 124:=Bx.new Q _ _;have zG:(Q.alloc (.cells #[.int .i64 0,.slice none 0 0,.slice none 0 0,.bool false,.slice none 0 0,.slice none 0 0] 124)).heap.size=Q.heap.size+1:=by simp
    obtain⟨V,b3⟩:=c1F (Q.alloc (.cells #[.int .i64 0,.slice none 0 0,.slice none 0 0,.bool false,.slice none 0 0,.slice none 0 0] 124));rw[b3]at eG T zG |-;obtain⟨z,a3⟩:=c1F Q.heap.size;have a4:Q.heap.size<=z:=by rw[<-a3];exact c1B _
    rw[a3]at T zG |-;have D:z<V.heap.size:=by omega
    have nG:∀q,ob (some ⟨z,0,none⟩) q=true->Q.heap.size<=q:=fun q hq=>(by simpa[ob]using hq:z=q)▸a4;have L:f.heap.size<=z:=c1A (EB).size a4;have J:=a0S QC.elem J eG nG;have EG:Ext f.drew V:=EB.trans eG;refine a1d (i:=1) (o:=⟨_,_,_,_,_,_⟩) (by kernel_rfl) rfl (fun K C=>?_)
    (refine a0P (R:=HdR) rfl rfl a0o HdR.elem (none,0,0) (fun _=>rfl) (un (un I G) (some ⟨z,0,none⟩)) (a1m (a3i (b1.ext EG) fun q hq=>(J.block hq).2) D) V.heap.size (c1B _) c rfl rfl rfl (by omega) (by omega) ?_;intro E P H eA)
    refine kcn C trivial (fun p=>?_);clear C K;have nA:∀q,ob E q=true->V.heap.size<=q:=fun q hq=>(H.block hq).1;have H:=H.base_le (b':=f.drew.heap.size) (EG).size;have J:=a0S QC.elem J eA nA;have T:=T.ext0 eA;have D:=c1C D eA.size;have EA:Ext f.drew P:=EG.trans eA;refine kt 4 m ?_;refine kl 6 (fun K C=>?_)
    (refine a0r rfl rfl a3H rfl rfl T rfl rfl (by intro v hv;simp at hv;rcases hv with rfl|rfl|rfl|rfl|rfl|rfl<;>rfl) ?_;intro w9 y1 S)
    refine C.out _ _ ?_;clear C K
    (try simp only[Act.put])
    have a8:OL HdR 1 (un (un I (some ⟨z,0,none⟩)) G) f.drew.heap.size 24 w9 E c (List.replicate c (none,0,0)):=by
     have h:=H.ext HdR.elem (Z:=un (un I G) (some ⟨z,0,none⟩)) S (fun q _ hq=>by simp[un,hq]) (fun _ _ h=>h)
     first|exact h|(rw[a0T]at h;exact h)
    have a9:OL QC 3 (un (un I (some ⟨z,0,none⟩)) E) f.drew.heap.size 47 w9 G c (List.replicate c 0):=by
     have h:=J.ext QC.elem (Z:=un (un I (some ⟨z,0,none⟩)) E) S (fun q _ hq=>by simp[un,hq]) (fun _ _ h=>h)
     first|exact h|(rw[a0T]at h;exact h)
    have a5:Ext f w9:=ExtX.box (b4.trans EA) S L;have O:=c1C D S.size;go_wp2_with fail
    go_meet
    case rel=>exact⟨z,E,G,rfl,y1,a8,a9,L,O,a5⟩
  ·skip
   go_simp
   skip
   refine kcn C trivial (fun p=>?_);clear C K;have eG:Ext f.drew (f.alloc (.cells #[.int .i64 0,.slice none 0 0,.slice none 0 0,.bool false,.slice none 0 0,.slice none 0 0] 124)).drew:=⟨rfl,rfl,rfl,((ExtX.refl (Y:=noY) f).alloc _).size,((ExtX.refl (Y:=noY) f).alloc _).block⟩;have T:Bx (f.alloc (.cells #[.int .i64 0,.slice none 0 0,.slice none 0 0,.bool false,.slice none 0 0,.slice none 0 0] 124)).drew f.heap.size #[.int .i64 0,.slice none 0 0,.slice none 0 0,.bool false,.slice none 0 0,.slice none 0 0] 124:=Bx.new f _ _;have zG:(f.alloc (.cells #[.int .i64 0,.slice none 0 0,.slice none 0 0,.bool false,.slice none 0 0,.slice none 0 0] 124)).drew.heap.size=f.heap.size+1:=by show(f.alloc _).heap.size=_;simp
   obtain⟨V,b3⟩:=c1F ((f.alloc (.cells #[.int .i64 0,.slice none 0 0,.slice none 0 0,.bool false,.slice none 0 0,.slice none 0 0] 124)).drew);rw[b3]at eG T zG |-;obtain⟨z,a3⟩:=c1F f.heap.size;have a4:f.drew.heap.size<=z:=by rw[<-a3];exact c1B _
   rw[a3]at T zG |-;have D:z<V.heap.size:=by omega
   have nG:∀q,ob (some ⟨z,0,none⟩) q=true->f.drew.heap.size<=q:=fun q hq=>(by simpa[ob]using hq:z=q)▸a4;have L:f.heap.size<=z:=c1A ((ExtX.refl (Y:=noY) f.drew)).size a4;have EG:Ext f.drew V:=(ExtX.refl (Y:=noY) f.drew).trans eG;refine a1E (i:=1) (j:=3) (oi:=⟨_,_,_,_,_,_⟩) (oj:=⟨_,_,_,_,_,_⟩) (by kernel_rfl) rfl rfl (fun K C=>?_) (fun K C=>?_)
   ·skip
    (refine a0P (R:=HdR) rfl rfl a0o HdR.elem (none,0,0) (fun _=>rfl) (un I (some ⟨z,0,none⟩)) (a1m (b1.ext EG) D) V.heap.size (c1B _) c rfl rfl rfl (by omega) (by omega) ?_;intro E P H eA)
    refine kcn C trivial (fun p=>?_);clear C K;have nA:∀q,ob E q=true->V.heap.size<=q:=fun q hq=>(H.block hq).1;have H:=H.base_le (b':=f.drew.heap.size) (EG).size;have T:=T.ext0 eA;have D:=c1C D eA.size;have EA:Ext f.drew P:=EG.trans eA;refine a1d (i:=3) (o:=⟨_,_,_,_,_,_⟩) (by kernel_rfl) rfl (fun K C=>?_)
    (refine a0P (R:=QC) rfl rfl a0x QC.elem (0:Rat) (fun _=>QC.zero _) (un (un I (some ⟨z,0,none⟩)) E) (a3i (a1m (b1.ext EA) D) fun q hq=>(H.block hq).2) P.heap.size (c1B _) c rfl rfl rfl (by omega) (by omega) ?_;intro G Q J eB)
    refine kcn C trivial (fun p=>?_);clear C K;have nB:∀q,ob G q=true->P.heap.size<=q:=fun q hq=>(J.block hq).1;have J:=J.base_le (b':=f.drew.heap.size) (EA).size;have T:=T.ext0 eB;have D:=c1C D eB.size;have H:=a0S HdR.elem H eB nB;have EB:Ext f.drew Q:=EA.trans eB;refine kt 4 m ?_;refine kl 6 (fun K C=>?_)
    (refine a0r rfl rfl a3H rfl rfl T rfl rfl (by intro v hv;simp at hv;rcases hv with rfl|rfl|rfl|rfl|rfl|rfl<;>rfl) ?_;intro w9 y1 S)
    refine C.out _ _ ?_;clear C K
    (try simp only[Act.put])
    have a8:OL HdR 1 (un (un I (some ⟨z,0,none⟩)) G) f.drew.heap.size 24 w9 E c (List.replicate c (none,0,0)):=by
     have h:=H.ext HdR.elem (Z:=un (un I (some ⟨z,0,none⟩)) G) S (fun q _ hq=>by simp[un,hq]) (fun _ _ h=>h)
     first|exact h|(rw[a0T]at h;exact h)
    have a9:OL QC 3 (un (un I (some ⟨z,0,none⟩)) E) f.drew.heap.size 47 w9 G c (List.replicate c 0):=by
     have h:=J.ext QC.elem (Z:=un (un I (some ⟨z,0,none⟩)) E) S (fun q _ hq=>by simp[un,hq]) (fun _ _ h=>h)
     first|exact h|(rw[a0T]at h;exact h)
    have a5:Ext f w9:=ExtX.box (b4.trans EB) S L;have O:=c1C D S.size;go_wp2_with fail
    go_meet
    case rel=>exact⟨z,E,G,rfl,y1,a8,a9,L,O,a5⟩
   ·skip
    (refine a0P (R:=QC) rfl rfl a0x QC.elem (0:Rat) (fun _=>QC.zero _) (un I (some ⟨z,0,none⟩)) (a1m (b1.ext EG) D) V.heap.size (c1B _) c rfl rfl rfl (by omega) (by omega) ?_;intro G Q J eB)
    refine kcn C trivial (fun p=>?_);clear C K;have nB:∀q,ob G q=true->V.heap.size<=q:=fun q hq=>(J.block hq).1;have J:=J.base_le (b':=f.drew.heap.size) (EG).size;have T:=T.ext0 eB;have D:=c1C D eB.size;have EB:Ext f.drew Q:=EG.trans eB;refine a1d (i:=1) (o:=⟨_,_,_,_,_,_⟩) (by kernel_rfl) rfl (fun K C=>?_)
    (refine a0P (R:=HdR) rfl rfl a0o HdR.elem (none,0,0) (fun _=>rfl) (un (un I (some ⟨z,0,none⟩)) G) (a3i (a1m (b1.ext EB) D) fun q hq=>(J.block hq).2) Q.heap.size (c1B _) c rfl rfl rfl (by omega) (by omega) ?_;intro E P H eA)
    refine kcn C trivial (fun p=>?_);clear C K;have nA:∀q,ob E q=true->Q.heap.size<=q:=fun q hq=>(H.block hq).1;have H:=H.base_le (b':=f.drew.heap.size) (EB).size;have T:=T.ext0 eA;have D:=c1C D eA.size;have J:=a0S QC.elem J eA nA;have EA:Ext f.drew P:=EB.trans eA;refine kt 4 m ?_;refine kl 6 (fun K C=>?_)
    (refine a0r rfl rfl a3H rfl rfl T rfl rfl (by intro v hv;simp at hv;rcases hv with rfl|rfl|rfl|rfl|rfl|rfl<;>rfl) ?_;intro w9 y1 S)
    refine C.out _ _ ?_;clear C K
    (try simp only[Act.put])
    have a8:OL HdR 1 (un (un I (some ⟨z,0,none⟩)) G) f.drew.heap.size 24 w9 E c (List.replicate c (none,0,0)):=by
     have h:=H.ext HdR.elem (Z:=un (un I (some ⟨z,0,none⟩)) G) S (fun q _ hq=>by simp[un,hq]) (fun _ _ h=>h)
     first|exact h|(rw[a0T]at h;exact h)
    have a9:OL QC 3 (un (un I (some ⟨z,0,none⟩)) E) f.drew.heap.size 47 w9 G c (List.replicate c 0):=by
     have h:=J.ext QC.elem (Z:=un (un I (some ⟨z,0,none⟩)) E) S (fun q _ hq=>by simp[un,hq]) (fun _ _ h=>h)
     first|exact h|(rw[a0T]at h;exact h)
    have a5:Ext f w9:=ExtX.box (b4.trans EA) S L;have O:=c1C D S.size;go_wp2_with fail
    go_meet
    case rel=>exact⟨z,E,G,rfl,y1,a8,a9,L,O,a5⟩
 case rest=>
  obtain⟨g,E,G,rfl,bg,H,b8,L,o3,g7⟩:=hcut;obtain⟨Z1,b5⟩:=c1F (un I (some ⟨g,0,none⟩));rw[b5]at H b8;have i3:∀k,ob (some ⟨g,0,none⟩) k=true->Z1 k=true:=fun k hk=>by rw[<-b5];exact a0u hk
  have i4:Z1 g=true:=i3 g (by simp[ob]);have h8:Hid (∀k,k<f.heap.size->Z1 k=true->I k=true):=hid fun k hk h=>by
   rw[<-b5]at h;by_cases h0:I k=true
   ·exact h0
   ·have:g=k:=by simpa[un,h0,ob]using h
    omega
  have l2:Hid (∀k,X k=true->Z1 k=true):=hid fun k hk=>by
   rw[<-b5,<-d8];exact a0j (by simp[a0f,hk])
  have l6:Hid (∀k,ob (some ⟨b,0,none⟩) k=true->Z1 k=true):=hid fun k hk=>by
   have o6:b=k:=by simpa[ob]using hk
   rw[<-b5,<-d8];exact a0j (a3B (by omega) (by omega))
  have e2:HX Z1 wc:=fun k hk=>by
   rw[<-b5]at hk;by_cases h0:I k=true
   ·exact h5.ext g7 k h0
   ·have:g=k:=by simpa[un,h0,ob]using hk
    omega
  have d5:=MO.start H 47;have l9:Hd E c:=by have:=H.hd;rwa[List.length_replicate]at this
  have h0:List.replicate c ([]:List Rat)=(List.range c).map fun q=>if q<0 then List.replicate c 0 else[]:=(a8I c _ _).symm
  rw[h0]at d5;have n3:ob E g=false:=by
   cases hq:ob E g
   ·rfl
   ·have:=(a0V (H.1 g hq)).1;rw[i4]at this;cases this
  have o7:ob G g=false:=by
   cases hq:ob G g
   ·rfl
   ·have:=(a0V (b8.1 g hq)).1;rw[i4]at this;cases this
  have l4:HX (un Z1 G) wc:=a3i e2 fun q hq=>(b8.block hq).2;have i2:Hid (∀M cs,Ext w M->a8V (mk X M) (.agg cs) (gmM x y c n)->F (.returned (.tuple #[.agg cs,.int .i64 0])) M):=hid fun M cs h1 h2=>by
   rw[<-g9.out];exact⟨h1,_,rfl,h2⟩
  have g6:Ext w f:=hE.trans c1;have c5:f.drew.heap.size=f.heap.size:=rfl;rw[c5]at d5 b8 H;have j2:Hid (∀wr,Ext f wr->Le (mk X w) (mk Z1 wr)):=hid fun wr h=>by
   have h2:=b7T (Z:=Z1) (h) (X:=I) fun k hk hz=>h8.out k hk hz;exact fun A U hh=>h2 A U (c8.out f c1 A U hh)
  clear h0 H g9 b5 d8 b1 b4 c5;have g1:=bg.cell 1 rfl;go_wp2_with fail
  go_loopw [28] (fun k wr=>∃(i:Nat) (hs:List Hdr),k=.int .i64 i/\i<=c/\Hid (∀q (hq:q<hs.length),i<=q->hs[q].1=none)/\MO (un Z1 G) f.heap.size 24 47 wr E c hs ((List.range c).map fun q=>if q<i then List.replicate c 0 else[])/\ExtX (ob E) wc wr/\Ext f wr) (fun k _=>c - (intOf k).toNat)
  case atStart=>exact⟨0,_,rfl,Nat.zero_le _,hid (fun q hq _=>by simp),d5,ExtX.refl _,g7⟩
  case round=>
   clear g1;obtain⟨i,hs,rfl,hi,e4,hM,b9,b2⟩:=hrel;have l3:HX (un Z1 G) wr:=l4.ext b9;have j0:=hid hM.len;have m6:Hid (((List.range c).map fun q=>if q<i then List.replicate c (0:Rat)else[]).length=c):=hid (by simp);have a7:=bg.ext b9 n3;by_cases j1:i<c
   ·have d9:i<hs.length:=by rw[j0.out,m6.out];exact j1
    have m8:=hid (b0M c i (List.replicate c (0:Rat)) [] j1);have m7:=e4.out i d9 (c1B _);have a2:Ext wr wr.drew:=(ExtX.refl _).drew;have f2:=hM.ext0 a2;have h7:=l3.ext a2;have l5:=f2.hz h7;have d4:=a7.ext0 a2;have hS:Hid (∀M,Ext wr.drew M->M.cell? ⟨g,1,none⟩=some (.slice E c c)):=hid fun M h=>(d4.ext0 h).cell 1 rfl;have ix:∀W,(Instr.indexAt 23 (.slice E c c) (.int .i64 (i:Int))).run Tryz.prog W=.ok (.pointer (some (adr E i))) W:=a0y a0o E c c .i64 i l9 (by omega) rfl;go_wp2_with fail
    refine a0n 6 (fun M=>M.cell? ⟨g,1,none⟩=some (.slice E c c)) (by kernel_rfl) (by kernel_rfl) (hS.out _ (ExtX.refl _)) (fun p m=>?_);refine kt 0 m ?_;refine kt 1 m ?_;refine kt 2 m ?_;refine kt 3 m ?_;refine ks 4 (fun K C=>?_)
    (refine a0P (R:=QC) rfl rfl a0x QC.elem (0:Rat) (fun _=>QC.zero _) (mz (un Z1 G) E hs) l5 wr.drew.heap.size (c1B _) c rfl rfl rfl (by omega) (by omega) ?_;intro a1 w2 h4 c2)
    refine kcn C (hS.out _ c2) (fun p=>?_);clear C K;refine kt 5 m ?_;have c3:=f2.outer.ext0 HdR.elem c2;obtain⟨_,p0,f0,_⟩:=c3.cell HdR.one i d9;refine kl 6 (fun K C=>?_);go_simp
    refine C.out _ _ ?_;clear C K;obtain⟨l0,e9⟩:=c3.set1 a3L HdR.elem HdR.one i d9 (.slice a1 c c) (a1,c,c) rfl;have h3:=f2.put (l:=List.replicate c 0) d9 m7 c2 (fun k hk=>(h4.block hk).1) (h4.base_le (b2.trans a2).size) h7 e9 (by simpa using l0);rw[m8.out]at h3;have k8:Ext f _:=((b2.trans a2).trans c2).own c3 (c1B _) e9;have g8:=(b9.trans (ExtX.of (a2.trans c2))).trans e9;have f5:Hid (∀q (hq:q<(hs.set i (a1,(List.replicate c (0:Rat)).length,c)).length),i+1<=q->(hs.set i (a1,(List.replicate c (0:Rat)).length,c))[q].1=none):=hid fun q hq o5=>by
     rw[List.getElem_set_ne (by omega)];exact e4.out q (by simpa using hq) (by omega)
    clear p0 f0;go_wp2_with fail
    go_roundw
    case rel=>exact⟨i+1,_,by go_num,by omega,f5,h3,g8,k8⟩
    case measure=>simp[intOf];omega
   ·have m0:i=c:=by omega
    subst m0;rw[a8J]at hM;have f1:=hM.mc;rw[List.length_replicate]at f1;have g5:=b8.ext QC.elem (Z:=un Z1 E) b9 (fun q _ hq=>a0u hq) (fun _ _ h=>h);have g4:=g5.sl QC.elem;have g2:a8V (mk Z1 wr) (.agg #[.int .i64 0,.slice E i i,.slice G i i,.bool false,.slice none 0 0,.slice none 0 0]) (gmM x y i 0):=by
     rw[b5v];exact⟨_,_,_,_,_,_,_,_,_,_,_,_,_,rfl,MC.mono _ _ _ _ (a1a fun k _ hk=>a0j hk) f1,⟨G,i,by simp,by simp,g4.mono QC.mono (a1a fun k _ hk=>a0j hk)⟩,QC.zero _⟩
    have c4:HX Z1 wr:=e2.ext b9;clear hM f1 g5 g4 b9;go_wp2_with fail
    go_loopw [40] (fun k wr=>∃(j:Nat) (N:Int) (d2:Option Addr) (xl xc:Nat) (d3:Option Addr) (yl yc:Nat) (s:Bool) (a:Option Addr) (n' c':Nat) (d:Option Addr) (k' e:Nat),k=.int .i64 j/\j<=n/\Bx wr g #[.int .i64 N,.slice d2 xl xc,.slice d3 yl yc,.bool s,.slice a n' c',.slice d k' e] 124/\a8V (mk Z1 wr) (.agg #[.int .i64 N,.slice d2 xl xc,.slice d3 yl yc,.bool s,.slice a n' c',.slice d k' e]) (gmM x y i j)/\HX Z1 wr/\Ext f wr) (fun k _=>n - (intOf k).toNat)
    case atStart=>exact⟨0,_,_,_,_,_,_,_,_,_,_,_,_,_,_,rfl,Nat.zero_le _,a7,g2,c4,b2⟩
    case round=>
     clear g2 c4 a7 b2 b8 d5;obtain⟨j,N,d2,xl,xc,d3,yl,yc,s,a,n',c',d,k',e,rfl,hj,a7,hm,c4,b2⟩:=hrel;have i9:=j2.out wr b2;by_cases f4:j<n
     ·have i7:j<x.length:=by rw[d1.out.1];exact f4
      have i8:j<y.length:=by rw[k2.out];exact f4
      have k0:=f8.mono RV.mono i9;have j9:=j8.mono QV.mono i9;obtain⟨rx,k3,_,b6,e3,j5⟩:=k0.row j i7;have d0:=d1.out.2 x[j] (c1E _);rw[d0]at b6 e3;obtain⟨gy,oy,sy,py,ny,qy,dy,ky,ey,i5,o2,i1,j6⟩:=j9.rat QV.shaped j i8;have f7:=hid (b5w (y:=y) d1.out f4);rw[<-b3g i7,show y.getD j 0=y[j]by simp[List.getD_eq_getElem?_getD,i8]]at f7;have f3:=a6C k1 g3;have e8:=b7M (j:=j) J (by omega);have c7:BMo 6541 (gmM x y i j):=⟨a5H (b3q f3 (by omega) e8),b3r f3 f9 (by omega) e8,c1A (b1E (B:=2*B) fun r _=>c1A (hq_mul _ _) (by have:=b3p f9 g3 r;omega)) (a5m (by omega) e8)⟩;have a2:Ext wr wr.drew:=(ExtX.refl _).drew;have h6:=c4.ext a2;have j7:RV (mk Z1 wr.drew) (.slice rx i k3) x[j]:=mkx RV.mono ⟨rx,k3,by rw[d0],by rw[d0];exact e3,j5⟩ a2;have j4:=mkx QV.mono j6 a2;have j3:=(mkx a8V.mono hm a2).mv ⟨fun r hr q hq=>c1A (c7.1 r hr q hq) (by decide),fun q hq=>c1A (c7.2.1 q hq) (by decide),c1A c7.2.2 (by decide)⟩;have b7:=b1O Z1 wr.drew _ _ _ (gmM x y i j) x[j] y[j] 1 i 6541 h6 j3 j7 j4 (a3h x j i) (b3d x y j i) d0 (by omega) (by show(-1:Int)<=(j:Int);omega) (by show(j:Int)<=1099511627777;omega) (.inl rfl) c7 (fun q hq=>c1A (k1 _ (c1E _) q hq) (by omega)) (c1A (f9 _ (c1E _)) (by omega)) (by decide);rw[f7.out]at b7;have d4:=a7.ext0 a2;have g0:=b6.out noY wr (ExtX.refl _) rfl;have hS:Hid (∀M,Ext wr.drew M->M.cell? ⟨g,0,none⟩=some (.int .i64 N)/\M.cell? ⟨g,1,none⟩=some (.slice d2 xl xc)/\M.cell? ⟨g,2,none⟩=some (.slice d3 yl yc)/\M.cell? ⟨g,3,none⟩=some (.bool s)/\M.cell? ⟨g,4,none⟩=some (.slice a n' c')/\M.cell? ⟨g,5,none⟩=some (.slice d k' e)/\(M.cell? ⟨gy,oy,none⟩=some (.bool sy)/\M.cell? ⟨gy,oy+1,none⟩=some (.slice py ny qy)/\M.cell? ⟨gy,oy+2,none⟩=some (.slice dy ky ey))):=hid fun M h=>by
       have p1:=d4.ext0 h;exact⟨p1.cell 0 rfl,p1.cell 1 rfl,p1.cell 2 rfl,p1.cell 3 rfl,p1.cell 4 rfl,p1.cell 5 rfl,i1.out noY M (a2.trans h) rfl⟩
      have iy:∀W,(Instr.indexAt 24 (.slice ta n tc) (.int .i64 (j:Int))).run Tryz.prog W=.ok (.pointer (some ⟨gy,oy,none⟩)) W:=by rw[<-i5];exact a0e a0x ta n tc .i64 j i6 (by omega)
      clear b6 j5 d0 i5 i1 j6 f7 f3 c7 j7 j4 j3 hm;go_wp2_with (with_reducible refine a0v a0o ?_)
      refine a0n 7 (fun M=>M.cell? ⟨g,0,none⟩=some (.int .i64 N)/\M.cell? ⟨g,1,none⟩=some (.slice d2 xl xc)/\M.cell? ⟨g,2,none⟩=some (.slice d3 yl yc)/\M.cell? ⟨g,3,none⟩=some (.bool s)/\M.cell? ⟨g,4,none⟩=some (.slice a n' c')/\M.cell? ⟨g,5,none⟩=some (.slice d k' e)/\(M.cell? ⟨gy,oy,none⟩=some (.bool sy)/\M.cell? ⟨gy,oy+1,none⟩=some (.slice py ny qy)/\M.cell? ⟨gy,oy+2,none⟩=some (.slice dy ky ey))) (by kernel_rfl) (by kernel_rfl) (hS.out _ (ExtX.refl _)) (fun p m=>?_);refine kt 0 m ?_;refine kt 1 m ?_;refine kt 2 m ?_;refine kt 3 m ?_;refine kt 4 m ?_;refine kt 5 m ?_;refine ks 6 (fun K C=>?_);go_simp
      (go_at_call 151;(with_reducible refine b7.mono ?_);rintro ee w6 ⟨t1,u6,rfl,n1⟩)
      refine kcn C (hS.out w6 t1) (fun p=>?_);clear C K;obtain⟨n7,n5,n4,o0,n9,n8,s6,a6,n6,c6,d6,k6,e6,rfl,m2,m3,m4⟩:=n1;have k4:=d4.ext0 t1;refine kl 7 (fun K C=>?_)
      (refine a0r rfl rfl a3H rfl rfl k4 rfl rfl (by intro v hv;simp at hv;rcases hv with rfl|rfl|rfl|rfl|rfl|rfl<;>rfl) ?_;intro w9 y1 S)
      refine C.out _ _ ?_;clear C K
      (try simp only[Act.put])
      have m5:a8V (mk Z1 w9) _ (gmM x y i (j+1)):=a8V.mono _ _ _ _ (a0s S i3) ⟨n7,n5,n4,o0,n9,n8,s6,a6,n6,c6,d6,k6,e6,rfl,m2,m3,m4⟩;have a5:Ext f w9:=ExtX.box (b2.trans (a2.trans t1)) S L;have l1:HX Z1 w9:=fun q hq=>c1C (c4 q hq) (c1A (a2.trans t1).size S.size);clear g0 iy;go_wp2_with fail
      go_roundw
      case rel=>exact⟨j+1,_,_,_,_,_,_,_,_,_,_,_,_,_,_,by go_num,by omega,y1,m5,l1,a5⟩
      case measure=>simp[intOf];omega
     ·have m1:n=j:=by omega
      subst m1;have q0:=a7.cell 0 rfl;have q1:=a7.cell 1 rfl;have q2:=a7.cell 2 rfl;have q3:=a7.cell 3 rfl;have q4:=a7.cell 4 rfl;have q5:=a7.cell 5 rfl;have br:=b0.ext0 (c1.trans b2);clear a7;go_wp2_with ((with_reducible refine c1J (t:=124) ?_);refine a0a a3H rfl rfl br rfl rfl (by intro v hv;simp at hv;rcases hv with rfl|rfl|rfl|rfl|rfl|rfl<;>rfl) ?_;intro w7 r1 r2)
      have k9:Ext w w7:=ExtX.box (g6.trans b2) r2 (by omega);exact bodyPost_ret (a0C rfl rfl a3H r1 rfl) rfl (i2.out w7 _ k9 (a8V.mono _ _ _ _ (a4k r2 l6.out l2.out) hm))
def a6N(m:Mom):Bool:=decide (0<=m.n/\m.n<=1099511627776)&&(a0A m.xx&&decide (m.xx.length=colsL m.xx/\m.xx.length=m.xy.length/\m.xy.length<=12))
def a8Z(l:Mat)(k:Nat):Bool:=l.any fun r=>decide (r.length≠k)
theorem b1Q{l:Mat}(h:a0A l=true):a8Z l l.length=false↔l.length=colsL l:=by
 obtain⟨c,_,_,_,hz⟩:=a0w h;unfold a8Z;rw[List.any_eq_false];constructor
 ·intro a
  by_cases b:l.length=0
  ·rw[b,hz b]
  ·have:=a l[0] (c1E (by omega))
   rw[c.2 _ (c1E _)]at this;have d:colsL l=l.length:=by simpa using this
   exact d.symm
 ·intro a r e
  rw[c.2 r e];simp[a.symm]
def IxF(l:Mat)(k:Nat)(r:Int):Prop:=decide ((0:Int)<=r)=a8Z l k
theorem b5E(w:World)(a:Option Addr)(n c k b:Nat)(j:Option Addr)(i:Nat)(l:w.cell? ⟨b,1,none⟩=some (.slice j k i)):Calls Tryz.prog 196 #[.slice a n c,.pointer (some ⟨b,0,none⟩)] w (fun e g=>g=w/\e=.returned (.bool (decide (n≠k)))):=by
 by_cases h:n=k
 ·have hd:((n:Int) !=(k:Int))=false:=b0B (by omega)
  have d:=hid (decide_eq_false (fun f=>f h):decide (n≠k)=false);rw[d.out];clear h;go_enter Tryz.func196,Tryz.ntmps196
  go_wp2_with fail
  go_ret
  exact⟨rfl,rfl⟩
 ·have hd:((n:Int) !=(k:Int))=true:=a7c (by omega)
  have d:=hid (decide_eq_true h:decide (n≠k)=true);rw[d.out];clear h;go_enter Tryz.func196,Tryz.ntmps196
  go_wp2_with fail
  go_ret
  exact⟨rfl,rfl⟩
theorem b1R{R:Mem->Value->Rat->Prop}(X:Nat->Bool)(w:World)(a:Option Addr)(l:List (List Rat))(n c k b:Nat)(D:Option Addr)(C:Nat)(B:Sl (SlV R 3) 1 (mk X w) a l)(z:l.length=n)(O:n<=1000000)(H:w.cell? ⟨b,1,none⟩=some (.slice D k C)):Calls Tryz.prog 207 #[.slice a n c,.func (.func 196) #[] #[.pointer (some ⟨b,0,none⟩)]] w (fun e K=>K=w/\∃r:Int,e=.returned (.int .i64 r)/\IxF l k r):=by
 have M:Hd a n:=by have:=B.hd;rw[z]at this;exact this
 have o:=hid z;clear z;go_enter Tryz.func207,Tryz.ntmps207
 go_wp2_with fail
 go_loopw [8] (fun q wr=>∃(i:Nat),q=.int .i64 i/\i<=n/\Hid (∀q (hq:q<l.length),q<i->l[q].length=k)/\wr=w) (fun q _=>n - (intOf q).toNat)
 case atStart=>exact⟨0,rfl,Nat.zero_le _,hid (fun q hq h=>by omega),rfl⟩
 case round=>
  obtain⟨i,rfl,N,p,rfl⟩:=hrel;by_cases A:i<n
  ·have x:i<l.length:=by rw[o.out];exact A
   obtain⟨E,F,G,j,g,t⟩:=B.row i x;have f:=j.out noY wr (ExtX.refl _) rfl;have d:=b5E wr E l[i].length F k b D C H;by_cases m:l[i].length=k
   ·have hd:Hid (decide (l[i].length≠k)=false):=hid (decide_eq_false (fun h=>h m))
    rw[hd.out]at d;have s:Hid (∀q (hq:q<l.length),q<i+1->l[q].length=k):=hid fun q hq I=>by
     by_cases e:q=i
     ·subst e;exact m
     ·exact p.out q hq (by omega)
    obtain⟨y,u⟩:=c1F (l[i].length);rw[u]at f d;clear m j t g u;go_wp2_with (with_reducible refine a0v a0o ?_)
    refine d.mono ?_;rintro e L ⟨rfl,rfl⟩;clear f;go_wp2_with fail
    go_roundw
    case rel=>exact⟨i+1,by go_num,by omega,s,trivial⟩
    case measure=>simp[intOf];omega
   ·have hd:Hid (decide (l[i].length≠k)=true):=hid (decide_eq_true m)
    rw[hd.out]at d;have v:IxF l k (i:Int):=by
     unfold IxF a8Z;rw[decide_eq_true (by omega)];symm;rw[List.any_eq_true];exact⟨l[i],c1E _,by simpa using m⟩
    obtain⟨y,u⟩:=c1F (l[i].length);rw[u]at f d;clear m j t g u;go_wp2_with (with_reducible refine a0v a0o ?_)
    refine d.mono ?_;rintro e L ⟨rfl,rfl⟩;clear f;go_wp2_with fail
    go_ret
    exact⟨rfl,_,rfl,v⟩
  ·have v:IxF l k (-1):=by
    unfold IxF a8Z;rw[decide_eq_false (by omega)];symm;rw[List.any_eq_false];intro r J;obtain⟨q,hq,rfl⟩:=List.getElem_of_mem J;simp[p.out q hq (by rw[o.out]at hq;omega)]
   go_wp2_with fail
   go_ret
   exact⟨rfl,_,rfl,v⟩
theorem a8j{R:Mem->Value->Rat->Prop}(X:Nat->Bool)(w:World)(a:Option Addr)(l:List (List Rat))(n c k b:Nat)(h:Option Addr)(g:Nat)(p:Sl (SlV R 3) 1 (mk X w) a l)(j:l.length=n)(m:n<=1000000)(i:w.cell? ⟨b,1,none⟩=some (.slice h k g)):Calls Tryz.prog 195 #[.slice a n c,.func (.func 196) #[] #[.pointer (some ⟨b,0,none⟩)]] w (fun e s=>s=w/\e=.returned (.bool (a8Z l k))):=by
 have f:=b1R X w a l n c k b h g p j m i;unfold IxF at f;obtain⟨q,hq⟩:=c1F (a8Z l k);rw[hq]at f |-;clear hq;go_enter Tryz.func195,Tryz.ntmps195
 go_wp2_with fail
 refine f.mono ?_;rintro e t ⟨rfl,r,rfl,d⟩;have o:=hid d.symm;clear f d;go_wp2_with fail
 go_ret
 exact⟨rfl,a0m o.out.symm⟩
theorem a9Z(X:Nat->Bool)(w:World)(u:Value)(m:Mom)(hX:HX X w)(hu:b7S (mk X w) u m)(hl:m.xx.length<=1000000):Calls Tryz.prog 155 #[u] w (a7U w (a6N m)):=by
 obtain⟨xo,xl,xc,yo,yl,yc,s,a,n,c,d,k,e,rfl,hx,hy,hq⟩:=hu;obtain⟨W,hW,G,A,hz⟩:=a0Y w #[.int .i64 m.n,.slice xo xl xc,.slice yo yl yc,.bool s,.slice a n c,.slice d k e] 124;have a4:HX X W:=hX.ext G;have J:=mkx MV.mono hx G;have g:Hid (∀b,b=(decide (0<=m.n/\m.n<=1099511627776)&&(a0A m.xx&&decide (m.xx.length=colsL m.xx/\m.xx.length=m.xy.length/\m.xy.length<=12)))->b=a6N m):=hid fun b h=>h;obtain⟨a8,a7,he,a1,T⟩:=J;simp only[Value.slice.injEq]at he;obtain⟨rfl,rfl,rfl⟩:=he;obtain⟨b2,a9,he,a5,a6⟩:=hy;simp only[Value.slice.injEq]at he;obtain⟨rfl,rfl,rfl⟩:=he;have J:MV (mk X W) (.slice xo m.xx.length xc) m.xx:=⟨xo,xc,rfl,a1,T⟩;obtain⟨b,hb⟩:=c1F w.heap.size;rw[hb]at A hz;obtain⟨N,hN⟩:=c1F m.n;obtain⟨M,hM⟩:=c1F (a6N m);rw[hN]at A g hW |-;rw[hM]at g |-;obtain⟨x,a2⟩:=c1F m.xx;rw[a2]at A g hW J T hl |-;obtain⟨L,hL⟩:=c1F m.xy.length;rw[hL]at A g hW |-;obtain⟨q,S⟩:=c1F x.length;have y:=hid fun w' (h:Ext W w')=>a8j (R:=QV) X w' xo x q xc q b xo xc (T.mono RV.mono (a0k h)) S (by omega) ((A.ext0 h).cell 1 (by rw[S];rfl));have Q:=a2E X W (.slice xo x.length xc) x q (colsL x) a4 J;have t:=a5Y X W (.slice xo x.length xc) x J (by omega);have H:=hid fun(h:a0A x=true)=>b1Q h;rw[S]at A g hW Q t hl H |-;obtain⟨B,hB⟩:=c1F (a8Z x q);rw[hB]at y H;obtain⟨C,hC⟩:=c1F (colsL x);rw[hC]at Q g H;clear hx hN hM a2 hL S hB hC T J a6 a5 a1 hq;have k0:=A.cell 0 rfl;have k1:=A.cell 1 rfl;have k2:=A.cell 2 rfl;cases z:a0A x
 ·have P:=t z
  clear Q t y H;by_cases K:0<=N
  ·by_cases O:N<=1099511627776
   ·have v:=hid (g.out false (by rw[z,Bool.false_and,Bool.and_false]))
    clear g z;go_enter Tryz.func155,Tryz.ntmps155
    go_wp2_with fail
    refine P.mono ?_;rintro e p ⟨rfl,rfl⟩;have i:Ext w p:=G;go_wp2_with fail
    go_ret
    exact⟨i,a0m v.out⟩
   ·have v:=hid (g.out false (by rw[z,Bool.false_and,Bool.and_false]))
    clear g z;go_enter Tryz.func155,Tryz.ntmps155
    go_wp2_with fail
    refine P.mono ?_;rintro e p ⟨rfl,rfl⟩;have i:Ext w p:=G;go_wp2_with fail
    go_ret
    exact⟨i,a0m v.out⟩
  ·have v:=hid (g.out false (by rw[z,Bool.false_and,Bool.and_false]))
   clear g z;go_enter Tryz.func155,Tryz.ntmps155
   go_wp2_with fail
   refine P.mono ?_;rintro e p ⟨rfl,rfl⟩;have i:Ext w p:=G;go_wp2_with fail
   go_ret
   exact⟨i,a0m v.out⟩
 ·have o:=Q z rfl rfl
  have E:=H.out z;clear Q H;by_cases j:q=L
  ·cases B
   ·have F:=E.1 rfl
    clear E;by_cases K:0<=N
    ·by_cases O:N<=1099511627776
     ·by_cases a0:L<=12
      ·have v:=hid (g.out true (by rw[z,decide_eq_true ⟨K,O⟩,decide_eq_true ⟨F,j,a0⟩];rfl))
       have D:((q:Int)==(L:Int))=true:=a6u (by omega);have a3:(L:Int)<=12:=by omega
       clear g z t j F;go_enter Tryz.func155,Tryz.ntmps155
       go_wp2_with fail
       refine o.mono ?_;rintro e p ⟨f,Z,rfl,_⟩;have i:Ext w p:=G.trans f;have l:=A.ext0 f;have U:=l.cell 0 rfl;have V:=l.cell 1 rfl;have Y:=l.cell 2 rfl;have r:=y.out p f;go_wp2_with fail
       refine r.mono ?_;rintro e w2 ⟨rfl,rfl⟩;go_wp2_with fail
       go_ret
       exact⟨i,a0m v.out⟩
      ·have v:=hid (g.out false (by rw[show decide (q=C/\q=L/\L<=12)=false from decide_eq_false (fun h=>a0 h.2.2),Bool.and_false,Bool.and_false]))
       have D:((q:Int)==(L:Int))=true:=a6u (by omega);have a3:¬(L:Int)<=12:=by omega
       clear g z t j F;go_enter Tryz.func155,Tryz.ntmps155
       go_wp2_with fail
       refine o.mono ?_;rintro e p ⟨f,Z,rfl,_⟩;have i:Ext w p:=G.trans f;have l:=A.ext0 f;have U:=l.cell 0 rfl;have V:=l.cell 1 rfl;have Y:=l.cell 2 rfl;have r:=y.out p f;go_wp2_with fail
       refine r.mono ?_;rintro e w2 ⟨rfl,rfl⟩;go_wp2_with fail
       go_ret
       exact⟨i,a0m (by rw[decide_eq_false (by omega)];exact v.out)⟩
     ·have v:=hid (g.out false (by rw[decide_eq_false (fun h=>O h.2),Bool.false_and]))
      have D:((q:Int)==(L:Int))=true:=a6u (by omega);clear g z t j F;go_enter Tryz.func155,Tryz.ntmps155
      go_wp2_with fail
      refine o.mono ?_;rintro e p ⟨f,Z,rfl,_⟩;have i:Ext w p:=G.trans f;have l:=A.ext0 f;have U:=l.cell 0 rfl;have V:=l.cell 1 rfl;have Y:=l.cell 2 rfl;have r:=y.out p f;go_wp2_with fail
      refine r.mono ?_;rintro e w2 ⟨rfl,rfl⟩;go_wp2_with fail
      go_ret
      exact⟨i,a0m v.out⟩
    ·have v:=hid (g.out false (by rw[decide_eq_false (fun h=>K h.1),Bool.false_and]))
     have D:((q:Int)==(L:Int))=true:=a6u (by omega);clear g z t j F;go_enter Tryz.func155,Tryz.ntmps155
     go_wp2_with fail
     refine o.mono ?_;rintro e p ⟨f,Z,rfl,_⟩;have i:Ext w p:=G.trans f;have l:=A.ext0 f;have U:=l.cell 0 rfl;have V:=l.cell 1 rfl;have Y:=l.cell 2 rfl;have r:=y.out p f;go_wp2_with fail
     refine r.mono ?_;rintro e w2 ⟨rfl,rfl⟩;go_wp2_with fail
     go_ret
     exact⟨i,a0m v.out⟩
   ·have I:¬q=C:=fun h=>by have:=E.2 h;cases this
    clear E;by_cases K:0<=N
    ·by_cases O:N<=1099511627776
     ·have v:=hid (g.out false (by rw[show decide (q=C/\q=L/\L<=12)=false from decide_eq_false (fun h=>I h.1),Bool.and_false,Bool.and_false]))
      have D:((q:Int)==(L:Int))=true:=a6u (by omega);clear g z t j I;go_enter Tryz.func155,Tryz.ntmps155
      go_wp2_with fail
      refine o.mono ?_;rintro e p ⟨f,Z,rfl,_⟩;have i:Ext w p:=G.trans f;have l:=A.ext0 f;have U:=l.cell 0 rfl;have V:=l.cell 1 rfl;have Y:=l.cell 2 rfl;have r:=y.out p f;go_wp2_with fail
      refine r.mono ?_;rintro e w2 ⟨rfl,rfl⟩;go_wp2_with fail
      go_ret
      exact⟨i,a0m v.out⟩
     ·have v:=hid (g.out false (by rw[show decide (q=C/\q=L/\L<=12)=false from decide_eq_false (fun h=>I h.1),Bool.and_false,Bool.and_false]))
      have D:((q:Int)==(L:Int))=true:=a6u (by omega);clear g z t j I;go_enter Tryz.func155,Tryz.ntmps155
      go_wp2_with fail
      refine o.mono ?_;rintro e p ⟨f,Z,rfl,_⟩;have i:Ext w p:=G.trans f;have l:=A.ext0 f;have U:=l.cell 0 rfl;have V:=l.cell 1 rfl;have Y:=l.cell 2 rfl;have r:=y.out p f;go_wp2_with fail
      refine r.mono ?_;rintro e w2 ⟨rfl,rfl⟩;go_wp2_with fail
      go_ret
      exact⟨i,a0m v.out⟩
    ·have v:=hid (g.out false (by rw[show decide (q=C/\q=L/\L<=12)=false from decide_eq_false (fun h=>I h.1),Bool.and_false,Bool.and_false]))
     have D:((q:Int)==(L:Int))=true:=a6u (by omega);clear g z t j I;go_enter Tryz.func155,Tryz.ntmps155
     go_wp2_with fail
     refine o.mono ?_;rintro e p ⟨f,Z,rfl,_⟩;have i:Ext w p:=G.trans f;have l:=A.ext0 f;have U:=l.cell 0 rfl;have V:=l.cell 1 rfl;have Y:=l.cell 2 rfl;have r:=y.out p f;go_wp2_with fail
     refine r.mono ?_;rintro e w2 ⟨rfl,rfl⟩;go_wp2_with fail
     go_ret
     exact⟨i,a0m v.out⟩
  ·clear y E
   by_cases K:0<=N
   ·by_cases O:N<=1099511627776
    ·have v:=hid (g.out false (by rw[show decide (q=C/\q=L/\L<=12)=false from decide_eq_false (fun h=>j h.2.1),Bool.and_false,Bool.and_false]))
     have D:((q:Int)==(L:Int))=false:=a2C (by omega);clear g z t j;go_enter Tryz.func155,Tryz.ntmps155
     go_wp2_with fail
     refine o.mono ?_;rintro e p ⟨f,Z,rfl,_⟩;have i:Ext w p:=G.trans f;have l:=A.ext0 f;have U:=l.cell 0 rfl;have V:=l.cell 1 rfl;have Y:=l.cell 2 rfl;go_wp2_with fail
     go_ret
     exact⟨i,a0m v.out⟩
    ·have v:=hid (g.out false (by rw[show decide (q=C/\q=L/\L<=12)=false from decide_eq_false (fun h=>j h.2.1),Bool.and_false,Bool.and_false]))
     have D:((q:Int)==(L:Int))=false:=a2C (by omega);clear g z t j;go_enter Tryz.func155,Tryz.ntmps155
     go_wp2_with fail
     refine o.mono ?_;rintro e p ⟨f,Z,rfl,_⟩;have i:Ext w p:=G.trans f;have l:=A.ext0 f;have U:=l.cell 0 rfl;have V:=l.cell 1 rfl;have Y:=l.cell 2 rfl;go_wp2_with fail
     go_ret
     exact⟨i,a0m v.out⟩
   ·have v:=hid (g.out false (by rw[show decide (q=C/\q=L/\L<=12)=false from decide_eq_false (fun h=>j h.2.1),Bool.and_false,Bool.and_false]))
    have D:((q:Int)==(L:Int))=false:=a2C (by omega);clear g z t j;go_enter Tryz.func155,Tryz.ntmps155
    go_wp2_with fail
    refine o.mono ?_;rintro e p ⟨f,Z,rfl,_⟩;have i:Ext w p:=G.trans f;have l:=A.ext0 f;have U:=l.cell 0 rfl;have V:=l.cell 1 rfl;have Y:=l.cell 2 rfl;go_wp2_with fail
    go_ret
    exact⟨i,a0m v.out⟩
end Go.Proofs.YtjmnhbebpffoaaaGreat
