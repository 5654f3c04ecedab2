/- leastsq: shift. Conditions: at most 12 columns, numbers of few digits. A drawn region: one of three may come up; a make as one operation alone. Conditions: none. leastsq: Proper; reference 13: Proper. Conditions: lengths far below any machine's. leastsq: Gather. Conditions: at most 8 rows and 4 columns, numbers of few digits. -/
import Derived.Test.YtidbbddagfnfbaaGreatSfJ
namespace Go.Proofs.YtidbbddagfnfbaaGreat
open Go.RowKit Go.Rep Go.Lim Go.Lin
set_option maxRecDepth 100000 in
set_option maxHeartbeats 12800000 in
theorem b0T (X:Nat->Bool) (w:World) (u r t:Value) (m:Mom) (row:List Rat) (v:Rat) (sg:Int) (n B:Nat) (hX:HX X w) (hu:b2B (mk X w) u m) (hr:RV (mk X w) r row) (ht:QV (mk X w) t v)
  (hsx:Shp n n m.xx) (hsy:m.xy.length=n) (hrl:row.length=n) (hn:n<=12) (hN1: -1<=m.n) (hN2:m.n<=1099511627777) (hsg:sg=1\/sg= -1) (_hBm:BMo B m) (hBr:BR B row) (hBv:hq v<=B) (hB:B<=1000000):
  Calls Tryz.prog 225 #[u,r,t, .int .i64 sg] w (a1Z X w a6v (shM m row v sg)):=by
 obtain⟨xo,xl,xc,yo,yl,yc,s,a,n0,c,d,k,e,rfl,hx,hy,hqq⟩:=hu;obtain⟨s2,a2,n2,c2,d2,k2,e2,rfl⟩:=ht.shape;obtain⟨W,hW,hE,b0,b1,b2,hz⟩:=a2x w #[.int .i64 m.n, .slice xo xl xc, .slice yo yl yc, .bool s, .slice a n0 c, .slice d k e] #[.bool s2, .slice a2 n2 c2, .slice d2 k2 e2] #[.int .i64 0, .slice none 0 0, .slice none 0 0, .bool false, .slice none 0 0, .slice none 0 0] 173 45 173;have hXW:HX (a0f X w.heap.size 3) W:=hX.boxes hz;have hle:Hid (∀w',Ext W w'->Le (mk X w) (mk (a0f X w.heap.size 3) w')):=hid fun w' h=>a0o (hE.trans h);have hun:Hid (∀w',Le (mk (a0f X w.heap.size 3) w') (mk X w')):=hid fun w'=>a0l;obtain⟨b,hb⟩:∃b,w.heap.size=b:=⟨_,rfl⟩;rw[hb]at b0 b1 b2 hz hXW hle hun;have hbw:w.heap.size<=b:=by omega
 obtain⟨Z0,hZ0⟩:∃Z0,a0f X b 3=Z0:=⟨_,rfl⟩;rw[hZ0]at hXW hle hun;have hsgq:hq ((sg:Int):Rat)<=1:=by rcases hsg with rfl|rfl<;>decide+kernel
 have hB2:hq (v*v)<=2000000:=Nat.le_trans (hq_mul _ _) (by omega);have hB3:hq ((sg:Rat)*(v*v))<=2000001:=Nat.le_trans (hq_mul _ _) (by omega);have hwr:IntKind.i64.wrap (m.n+sg)=m.n+sg:=IntWalk.i64_in _ (by rcases hsg with rfl|rfl<;>omega);have hsg1: -9223372036854775808<=sg/\sg<=9223372036854775807:=by rcases hsg with rfl|rfl<;>omega
 obtain⟨N,hN⟩:∃N,m.n=N:=⟨_,rfl⟩;rw[hN]at b0 hW hwr |-;obtain⟨N',hN'⟩:∃N',N+sg=N':=⟨_,rfl⟩;have hNs:=hid hN';have hNe:Hid (m.n+sg=N'):=hid (by rw[hN,hN']);clear hN1 hN2 hsg hN hN';have hf:=b9Y Z0 W sg hXW hsg1.1 hsg1.2;clear hsg1;obtain⟨F,hF⟩:∃F,a1Z X w a6v (shM m row v sg)=F:=⟨_,rfl⟩;rw[hF];have hF':=hid hF;clear hF;go_enter Tryz.func225,Tryz.ntmps225
 go_wp2_with fail
 refine hf.mono ?_;rintro ee w2 ⟨hE2,u2,rfl,hu2⟩;obtain⟨s9,a9,n9,c9,d9,k9,e9,rfl⟩:=hu2.shape;have bf:=Bx.new w2 #[.bool false, .slice none 0 0, .slice none 0 0] 45;clear hf;go_upto_region 1 with((with_reducible show wpList _ _ _ (⟨_, .store 45 _ _,_,_,_,_⟩::_) _ _);refine a0c a0u rfl rfl bf rfl rfl (a2g _ _ _ _ _ _ _) ?_;intro w3 y1 y2)
 have hE23:Ext w2 w3:=ExtX.box ((ExtX.refl w2).alloc _) y2 (Nat.le_refl _);have hEW3:=hE2.trans hE23;have hs3:=mkx QC.mono hu2 hE23;have hX3:HX Z0 w3:=hXW.ext hEW3;have m3:=b0.ext0 hEW3;have v3:=b1.ext0 hEW3;have t3:=b2.ext0 hEW3;obtain⟨fb,hfb⟩:∃fb,w2.heap.size=fb:=⟨_,rfl⟩;rw[hfb]at y1 |-;have hxv:=MV.mono _ _ _ _ (hle.out w3 hEW3) hx;have hyv:=RV.mono _ _ _ _ (hle.out w3 hEW3) hy;have hqv:=QV.mono _ _ _ _ (hle.out w3 hEW3) hqq;have htv:=QV.mono _ _ _ _ (hle.out w3 hEW3) ht;have hrv:=RV.mono _ _ _ _ (hle.out w3 hEW3) hr;have hsv:QV (mk Z0 w3) (.agg #[.bool s9, .slice a9 n9 c9, .slice d9 k9 e9]) (sg:Rat):=hs3.qv (by omega);have hE03:Ext w w3:=hE.trans hEW3;have hE0:Ext w3 w3.drew:=(ExtX.refl w3).drew;have hX0:HX Z0 w3.drew:=hX3.ext hE0;have hc0:=hid fun Z w' (hZ:HX Z w') (hl:Le (mk Z0 w3.drew) (mk Z w'))=>b6M Z w' _ _ v v hZ (QV.mono _ _ _ _ hl (mkx QV.mono htv hE0)) (QV.mono _ _ _ _ hl (mkx QV.mono htv hE0));have hc1:=hid fun Z w' (hZ:HX Z w') (hl:Le (mk Z0 w3.drew) (mk Z w')) (u:Value) (h:QC (mk Z w') u (v*v))=>b6M Z w' _ u _ _ hZ (QV.mono _ _ _ _ hl (mkx QV.mono hsv hE0)) (h.qv (Nat.le_trans hB2 (by decide)));have hc2:=hid fun Z w' (hZ:HX Z w') (hl:Le (mk Z0 w3.drew) (mk Z w')) (u:Value) (h:QC (mk Z w') u ((sg:Rat)*(v*v)))=>b5L Z w' _ u _ _ hZ (QV.mono _ _ _ _ hl (mkx QV.mono hqv hE0)) (h.qv (Nat.le_trans hB3 (by decide)));have hS:Hid (∀w',Ext w3.drew w'->w'.cell? ⟨b,0,none⟩=some (.int .i64 N)/\(w'.cell? ⟨b,3,none⟩=some (.bool s)/\w'.cell? ⟨b,3+1,none⟩=some (.slice a n0 c)/\w'.cell? ⟨b,3+2,none⟩=some (.slice d k e))/\(w'.cell? ⟨fb,0,none⟩=some (.bool s9)/\w'.cell? ⟨fb,0+1,none⟩=some (.slice a9 n9 c9)/\w'.cell? ⟨fb,0+2,none⟩=some (.slice d9 k9 e9))/\(w'.cell? ⟨b+1,0,none⟩=some (.bool s2)/\w'.cell? ⟨b+1,0+1,none⟩=some (.slice a2 n2 c2)/\w'.cell? ⟨b+1,0+2,none⟩=some (.slice d2 k2 e2))):=hid fun w' h=>by
  have q0:=m3.ext0 (hE0.trans h);have q1:=v3.ext0 (hE0.trans h);have q2:=y1.ext0 (hE0.trans h);exact⟨q0.cell 0 rfl,⟨q0.cell 3 rfl,q0.cell 4 rfl,q0.cell 5 rfl⟩,⟨q2.cell 0 rfl,q2.cell 1 rfl,q2.cell 2 rfl⟩,⟨q1.cell 0 rfl,q1.cell 1 rfl,q1.cell 2 rfl⟩⟩
 obtain⟨D,hD⟩:∃D,m.yy+(sg:Rat)*(v*v)=D:=⟨_,rfl⟩;obtain⟨V1,hV1⟩:∃V1,v*v=V1:=⟨_,rfl⟩;rw[hV1]at hc0 hc1 hc2 hD;obtain⟨V2,hV2⟩:∃V2,(sg:Rat)*V1=V2:=⟨_,rfl⟩;rw[hV2]at hc1 hc2 hD;rw[hD]at hc2;have hDe:Hid (m.yy+(sg:Rat)*(v*v)=D):=hid (by rw[hV1,hV2,hD]);clear hV1 hV2 hD hu2 bf y2 hE2 hE23 b0 b1 b2 hqq ht hx hy hr
 (try simp only[Act.put])
 go_cut [10]from 19 to 31 (fun bv wx=>∃(g:Nat) (sd:Bool) (ad:Option Addr) (nd cd:Nat) (dd:Option Addr) (kd ed:Nat),bv= .pointer (some ⟨g,0,none⟩)/\Bx wx g #[.int .i64 N', .slice none 0 0, .slice none 0 0, .bool sd, .slice ad nd cd, .slice dd kd ed] 173/\QC (mk (un Z0 (some ⟨g,0,none⟩)) wx) (.agg #[.bool sd, .slice ad nd cd, .slice dd kd ed]) D/\w3.heap.size<=g/\g<wx.heap.size/\Ext w3 wx)
 case first=>
  refine a0M 14 (fun w'=>w'.cell? ⟨b,0,none⟩=some (.int .i64 N)/\(w'.cell? ⟨b,3,none⟩=some (.bool s)/\w'.cell? ⟨b,3+1,none⟩=some (.slice a n0 c)/\w'.cell? ⟨b,3+2,none⟩=some (.slice d k e))/\(w'.cell? ⟨fb,0,none⟩=some (.bool s9)/\w'.cell? ⟨fb,0+1,none⟩=some (.slice a9 n9 c9)/\w'.cell? ⟨fb,0+2,none⟩=some (.slice d9 k9 e9))/\(w'.cell? ⟨b+1,0,none⟩=some (.bool s2)/\w'.cell? ⟨b+1,0+1,none⟩=some (.slice a2 n2 c2)/\w'.cell? ⟨b+1,0+2,none⟩=some (.slice d2 k2 e2))) (by kernel_rfl) (by kernel_rfl) (hS.out _ (ExtX.refl _)) (fun hHeld hOnce=>?_);refine a0a hOnce (i:=0) (oi:=⟨_,_,_,_,_,_⟩) (v:=?_) rfl (by kernel_rfl) (fun _ _ _ h=>h) (by assumption) (by rfl) (fun w hSw=>?_) ?_
  rotate_left
  ·(try dsimp only at hSw)
   go_simp
   all_goals with_reducible rfl
  (try simp only[Act.put,List.setIfInBounds_toArray,List.set_cons_zero,List.set_cons_succ])
  refine a0a hOnce (i:=1) (oi:=⟨_,_,_,_,_,_⟩) (v:=?_) rfl (by kernel_rfl) (fun _ _ _ h=>h) (by assumption) (by rfl) (fun w hSw=>?_) ?_
  rotate_left
  ·(try dsimp only at hSw)
   go_simp
   all_goals with_reducible rfl
  (try simp only[Act.put,List.setIfInBounds_toArray,List.set_cons_zero,List.set_cons_succ])
  refine a0a hOnce (i:=2) (oi:=⟨_,_,_,_,_,_⟩) (v:=?_) rfl (by kernel_rfl) (fun _ _ _ h=>h) (by assumption) (by rfl) (fun w hSw=>?_) ?_
  rotate_left
  ·(try dsimp only at hSw)
   go_simp
   all_goals with_reducible rfl
  (try simp only[Act.put,List.setIfInBounds_toArray,List.set_cons_zero,List.set_cons_succ])
  refine a0a hOnce (i:=3) (oi:=⟨_,_,_,_,_,_⟩) (v:=?_) rfl (by kernel_rfl) (fun _ _ _ h=>h) (by assumption) (by rfl) (fun w hSw=>?_) ?_
  rotate_left
  ·(try dsimp only at hSw)
   go_simp
   all_goals with_reducible rfl
  (try simp only[Act.put,List.setIfInBounds_toArray,List.set_cons_zero,List.set_cons_succ])
  refine a0a hOnce (i:=4) (oi:=⟨_,_,_,_,_,_⟩) (v:=?_) rfl (by kernel_rfl) (fun _ _ _ h=>h) (by assumption) (by rfl) (fun w hSw=>?_) ?_
  rotate_left
  ·(try dsimp only at hSw)
   go_simp
   all_goals with_reducible rfl
  (try simp only[Act.put,List.setIfInBounds_toArray,List.set_cons_zero,List.set_cons_succ])
  refine a0a hOnce (i:=5) (oi:=⟨_,_,_,_,_,_⟩) (v:=?_) rfl (by kernel_rfl) (fun _ _ _ h=>h) (by assumption) (by rfl) (fun w hSw=>?_) ?_
  rotate_left
  ·(try dsimp only at hSw)
   go_simp
   all_goals with_reducible rfl
  (try simp only[Act.put,List.setIfInBounds_toArray,List.set_cons_zero,List.set_cons_succ])
  refine a0a hOnce (i:=6) (oi:=⟨_,_,_,_,_,_⟩) (v:=?_) rfl (by kernel_rfl) (fun _ _ _ h=>h) (by assumption) (by rfl) (fun w hSw=>?_) ?_
  rotate_left
  ·(try dsimp only at hSw)
   go_simp
   all_goals with_reducible rfl
  (try simp only[Act.put,List.setIfInBounds_toArray,List.set_cons_zero,List.set_cons_succ])
  refine a0a hOnce (i:=7) (oi:=⟨_,_,_,_,_,_⟩) (v:=?_) rfl (by kernel_rfl) (fun _ _ _ h=>h) (by assumption) (by rfl) (fun w hSw=>?_) ?_
  rotate_left
  ·(try dsimp only at hSw)
   go_simp
   all_goals with_reducible rfl
  (try simp only[Act.put,List.setIfInBounds_toArray,List.set_cons_zero,List.set_cons_succ])
  refine a0a hOnce (i:=8) (oi:=⟨_,_,_,_,_,_⟩) (v:=?_) rfl (by kernel_rfl) (fun _ _ _ h=>h) (by assumption) (by rfl) (fun w hSw=>?_) ?_
  rotate_left
  ·(try dsimp only at hSw)
   go_simp
   all_goals with_reducible rfl
  (try simp only[Act.put,List.setIfInBounds_toArray,List.set_cons_zero,List.set_cons_succ])
  refine a1D (i:=9) (j:=13) (oi:=⟨_,_,_,_,_,_⟩) (oj:=⟨_,_,_,_,_,_⟩) (by kernel_rfl) rfl rfl (fun K hK=>?_) (fun K hK=>?_)
  ·skip
   go_simp
   (go_at_call 133;(with_reducible refine(hc0.out Z0 w3.drew (hX0.ext (ExtX.refl (Y:=noY) w3.drew)) (a0p (ExtX.refl (Y:=noY) w3.drew))).mono ?_);rintro ee w40 ⟨r0,x0,rfl,g0⟩)
   refine hK.out _ _ (hS.out w40 ((ExtX.refl (Y:=noY) w3.drew).trans r0)) (fun hHeld=>?_);clear hK K
   (try simp only[Act.put,List.setIfInBounds_toArray,List.set_cons_zero,List.set_cons_succ])
   have R0:Ext w3.drew w40:=(ExtX.refl (Y:=noY) w3.drew).trans r0;refine a1D (i:=10) (j:=13) (oi:=⟨_,_,_,_,_,_⟩) (oj:=⟨_,_,_,_,_,_⟩) (by kernel_rfl) rfl rfl (fun K hK=>?_) (fun K hK=>?_)
   ·skip
    go_simp
    (go_at_call 133;(with_reducible refine(hc1.out Z0 w40 (hX0.ext R0) (a0p R0) _ g0).mono ?_);rintro ee w41 ⟨r1,x1,rfl,g1⟩)
    refine hK.out _ _ (hS.out w41 (R0.trans r1)) (fun hHeld=>?_);clear hK K
    (try simp only[Act.put,List.setIfInBounds_toArray,List.set_cons_zero,List.set_cons_succ])
    have R1:Ext w3.drew w41:=R0.trans r1;refine a1D (i:=11) (j:=13) (oi:=⟨_,_,_,_,_,_⟩) (oj:=⟨_,_,_,_,_,_⟩) (by kernel_rfl) rfl rfl (fun K hK=>?_) (fun K hK=>?_)
    ·skip
     go_simp
     (go_at_call 101;(with_reducible refine(hc2.out Z0 w41 (hX0.ext R1) (a0p R1) _ g1).mono ?_);rintro ee w42 ⟨r2,x2,rfl,g2⟩)
     refine hK.out _ _ (hS.out w42 (R1.trans r2)) (fun hHeld=>?_);clear hK K
     (try simp only[Act.put,List.setIfInBounds_toArray,List.set_cons_zero,List.set_cons_succ])
     have R2:Ext w3.drew w42:=R1.trans r2;obtain⟨sd,ad,nd,cd,dd,kd,ed,rfl⟩:=g2.shape;refine a0a hOnce (i:=12) (oi:=⟨_,_,_,_,_,_⟩) (v:=?_) rfl (by kernel_rfl) (fun _ _ _ h=>h) (by assumption) (by rfl) (fun w hSw=>?_) ?_
     rotate_left
     ·(try dsimp only at hSw)
      go_simp
      all_goals with_reducible rfl
     (try simp only[Act.put,List.setIfInBounds_toArray,List.set_cons_zero,List.set_cons_succ])
     have EA:Ext w42 (w42.alloc (.cells #[.int .i64 0, .slice none 0 0, .slice none 0 0, .bool false, .slice none 0 0, .slice none 0 0] 173)):=(ExtX.refl _).alloc _;have bA:Bx (w42.alloc (.cells #[.int .i64 0, .slice none 0 0, .slice none 0 0, .bool false, .slice none 0 0, .slice none 0 0] 173)) w42.heap.size #[.int .i64 0, .slice none 0 0, .slice none 0 0, .bool false, .slice none 0 0, .slice none 0 0] 173:=Bx.new w42 _ _;have hAs:(w42.alloc (.cells #[.int .i64 0, .slice none 0 0, .slice none 0 0, .bool false, .slice none 0 0, .slice none 0 0] 173)).heap.size=w42.heap.size+1:=by simp
     refine a0m (i:=13) (o:=⟨_,_,_,_,_,_⟩) (by kernel_rfl) rfl (fun K hK=>?_);go_simp
     skip
     refine hK.out _ _ (hS.out _ (R2.trans EA)) (fun hHeld=>?_);clear hK K
     (try simp only[Act.put,List.setIfInBounds_toArray,List.set_cons_zero,List.set_cons_succ])
     have hdA:=QC.mono _ _ _ _ (a2f EA (Nat.le_refl _)) g2;refine a0s (i:=14) (o:=⟨_,_,_,_,_,_⟩) (by kernel_rfl) rfl (by decide) (by kernel_rfl) (fun K hK=>?_)
     (refine a0z rfl rfl a3u rfl rfl bA rfl rfl (by intro v hv;simp at hv;rcases hv with rfl|rfl|rfl|rfl|rfl|rfl<;>rfl) ?_;intro w9 y1 y2)
     refine hK.out _ _ ?_;clear hK K
     (try simp only[Act.put])
     have hQ9:=QC.mono _ _ _ _ (a0x y2 fun k hk=>a0q hk) hdA;have hE9:Ext w3 w9:=ExtX.box (hE0.trans (R2.trans EA)) y2 R2.size;have hlt9:=Nat.lt_of_lt_of_le (show w42.heap.size<_ by rw[hAs];exact Nat.lt_succ_self _) y2.size;rw[hNs.out]at y1;go_wp2_with fail
     go_meet
     case rel=>exact⟨w42.heap.size,sd,ad,nd,cd,dd,kd,ed,rfl,y1,hQ9,R2.size,hlt9,hE9⟩
    ·skip
     have EA:Ext w41 (w41.alloc (.cells #[.int .i64 0, .slice none 0 0, .slice none 0 0, .bool false, .slice none 0 0, .slice none 0 0] 173)):=(ExtX.refl _).alloc _;have bA:Bx (w41.alloc (.cells #[.int .i64 0, .slice none 0 0, .slice none 0 0, .bool false, .slice none 0 0, .slice none 0 0] 173)) w41.heap.size #[.int .i64 0, .slice none 0 0, .slice none 0 0, .bool false, .slice none 0 0, .slice none 0 0] 173:=Bx.new w41 _ _;have hAs:(w41.alloc (.cells #[.int .i64 0, .slice none 0 0, .slice none 0 0, .bool false, .slice none 0 0, .slice none 0 0] 173)).heap.size=w41.heap.size+1:=by simp
     go_simp
     skip
     refine hK.out _ _ (hS.out _ (R1.trans EA)) (fun hHeld=>?_);clear hK K
     (try simp only[Act.put,List.setIfInBounds_toArray,List.set_cons_zero,List.set_cons_succ])
     obtain⟨wA,hwA⟩:∃wA,w41.alloc (.cells #[.int .i64 0, .slice none 0 0, .slice none 0 0, .bool false, .slice none 0 0, .slice none 0 0] 173)=wA:=⟨_,rfl⟩;have tA:Ext w3.drew wA:=by rw[<-hwA];exact R1.trans EA
     have prA:=QC.mono _ _ _ _ (a2f EA (Nat.le_refl _)) g1;rw[hwA]at EA bA hAs prA |-;obtain⟨gA,hgA⟩:∃gA,w41.heap.size=gA:=⟨_,rfl⟩;have hvg:w3.heap.size<=gA:=by rw[<-hgA];exact R1.size
     have hvgd:w3.drew.heap.size<=gA:=by have h9:w3.drew.heap.size=w3.heap.size:=rfl;rw[h9];exact hvg
     rw[hgA]at bA hAs prA |-;have glwA:gA<wA.heap.size:=by omega
     have xA2:=a1c (hX0.ext tA) glwA;refine a0m (i:=11) (o:=⟨_,_,_,_,_,_⟩) (by kernel_rfl) rfl (fun K hK=>?_);go_simp
     (go_at_call 101;(with_reducible refine(hc2.out (un Z0 (some ⟨gA,0,none⟩)) wA xA2 (a2f tA hvgd) _ prA).mono ?_);rintro ee v2 ⟨q2,u2,rfl,h2⟩)
     refine hK.out _ _ (hS.out v2 (tA.trans q2)) (fun hHeld=>?_);clear hK K
     (try simp only[Act.put,List.setIfInBounds_toArray,List.set_cons_zero,List.set_cons_succ])
     have T2:=tA.trans q2;have b2:=bA.ext0 q2;have glv2:gA<v2.heap.size:=Nat.lt_of_lt_of_le glwA q2.size;obtain⟨sd,ad,nd,cd,dd,kd,ed,rfl⟩:=h2.shape;refine a0a hOnce (i:=12) (oi:=⟨_,_,_,_,_,_⟩) (v:=?_) rfl (by kernel_rfl) (fun _ _ _ h=>h) (by assumption) (by rfl) (fun w hSw=>?_) ?_
     rotate_left
     ·(try dsimp only at hSw)
      go_simp
      all_goals with_reducible rfl
     (try simp only[Act.put,List.setIfInBounds_toArray,List.set_cons_zero,List.set_cons_succ])
     refine a0s (i:=14) (o:=⟨_,_,_,_,_,_⟩) (by kernel_rfl) rfl (by decide) (by kernel_rfl) (fun K hK=>?_)
     (refine a0z rfl rfl a3u rfl rfl b2 rfl rfl (by intro v hv;simp at hv;rcases hv with rfl|rfl|rfl|rfl|rfl|rfl<;>rfl) ?_;intro w9 y1 y2)
     refine hK.out _ _ ?_;clear hK K
     (try simp only[Act.put])
     have hQ9:=QC.mono _ _ _ _ (a0x y2 fun k hk=>a0q hk) h2;have hE9:Ext w3 w9:=ExtX.box (hE0.trans T2) y2 hvg;have hlt9:=Nat.lt_of_lt_of_le glv2 y2.size;rw[hNs.out]at y1;go_wp2_with fail
     go_meet
     case rel=>exact⟨gA,sd,ad,nd,cd,dd,kd,ed,rfl,y1,hQ9,hvg,hlt9,hE9⟩
   ·skip
    have EA:Ext w40 (w40.alloc (.cells #[.int .i64 0, .slice none 0 0, .slice none 0 0, .bool false, .slice none 0 0, .slice none 0 0] 173)):=(ExtX.refl _).alloc _;have bA:Bx (w40.alloc (.cells #[.int .i64 0, .slice none 0 0, .slice none 0 0, .bool false, .slice none 0 0, .slice none 0 0] 173)) w40.heap.size #[.int .i64 0, .slice none 0 0, .slice none 0 0, .bool false, .slice none 0 0, .slice none 0 0] 173:=Bx.new w40 _ _;have hAs:(w40.alloc (.cells #[.int .i64 0, .slice none 0 0, .slice none 0 0, .bool false, .slice none 0 0, .slice none 0 0] 173)).heap.size=w40.heap.size+1:=by simp
    go_simp
    skip
    refine hK.out _ _ (hS.out _ (R0.trans EA)) (fun hHeld=>?_);clear hK K
    (try simp only[Act.put,List.setIfInBounds_toArray,List.set_cons_zero,List.set_cons_succ])
    obtain⟨wA,hwA⟩:∃wA,w40.alloc (.cells #[.int .i64 0, .slice none 0 0, .slice none 0 0, .bool false, .slice none 0 0, .slice none 0 0] 173)=wA:=⟨_,rfl⟩;have tA:Ext w3.drew wA:=by rw[<-hwA];exact R0.trans EA
    have prA:=QC.mono _ _ _ _ (a2f EA (Nat.le_refl _)) g0;rw[hwA]at EA bA hAs prA |-;obtain⟨gA,hgA⟩:∃gA,w40.heap.size=gA:=⟨_,rfl⟩;have hvg:w3.heap.size<=gA:=by rw[<-hgA];exact R0.size
    have hvgd:w3.drew.heap.size<=gA:=by have h9:w3.drew.heap.size=w3.heap.size:=rfl;rw[h9];exact hvg
    rw[hgA]at bA hAs prA |-;have glwA:gA<wA.heap.size:=by omega
    have xA1:=a1c (hX0.ext tA) glwA;refine a0m (i:=10) (o:=⟨_,_,_,_,_,_⟩) (by kernel_rfl) rfl (fun K hK=>?_);go_simp
    (go_at_call 133;(with_reducible refine(hc1.out (un Z0 (some ⟨gA,0,none⟩)) wA xA1 (a2f tA hvgd) _ prA).mono ?_);rintro ee v1 ⟨q1,u1,rfl,h1⟩)
    refine hK.out _ _ (hS.out v1 (tA.trans q1)) (fun hHeld=>?_);clear hK K
    (try simp only[Act.put,List.setIfInBounds_toArray,List.set_cons_zero,List.set_cons_succ])
    have T1:=tA.trans q1;have b1:=bA.ext0 q1;have glv1:gA<v1.heap.size:=Nat.lt_of_lt_of_le glwA q1.size;have xA2:=a1c (hX0.ext T1) glv1;refine a0m (i:=11) (o:=⟨_,_,_,_,_,_⟩) (by kernel_rfl) rfl (fun K hK=>?_);go_simp
    (go_at_call 101;(with_reducible refine(hc2.out (un Z0 (some ⟨gA,0,none⟩)) v1 xA2 (a2f T1 hvgd) _ h1).mono ?_);rintro ee v2 ⟨q2,u2,rfl,h2⟩)
    refine hK.out _ _ (hS.out v2 (T1.trans q2)) (fun hHeld=>?_);clear hK K
    (try simp only[Act.put,List.setIfInBounds_toArray,List.set_cons_zero,List.set_cons_succ])
    have T2:=T1.trans q2;have b2:=b1.ext0 q2;have glv2:gA<v2.heap.size:=Nat.lt_of_lt_of_le glv1 q2.size;obtain⟨sd,ad,nd,cd,dd,kd,ed,rfl⟩:=h2.shape;refine a0a hOnce (i:=12) (oi:=⟨_,_,_,_,_,_⟩) (v:=?_) rfl (by kernel_rfl) (fun _ _ _ h=>h) (by assumption) (by rfl) (fun w hSw=>?_) ?_
    rotate_left
    ·(try dsimp only at hSw)
     go_simp
     all_goals with_reducible rfl
    (try simp only[Act.put,List.setIfInBounds_toArray,List.set_cons_zero,List.set_cons_succ])
    refine a0s (i:=14) (o:=⟨_,_,_,_,_,_⟩) (by kernel_rfl) rfl (by decide) (by kernel_rfl) (fun K hK=>?_)
    (refine a0z rfl rfl a3u rfl rfl b2 rfl rfl (by intro v hv;simp at hv;rcases hv with rfl|rfl|rfl|rfl|rfl|rfl<;>rfl) ?_;intro w9 y1 y2)
    refine hK.out _ _ ?_;clear hK K
    (try simp only[Act.put])
    have hQ9:=QC.mono _ _ _ _ (a0x y2 fun k hk=>a0q hk) h2;have hE9:Ext w3 w9:=ExtX.box (hE0.trans T2) y2 hvg;have hlt9:=Nat.lt_of_lt_of_le glv2 y2.size;rw[hNs.out]at y1;go_wp2_with fail
    go_meet
    case rel=>exact⟨gA,sd,ad,nd,cd,dd,kd,ed,rfl,y1,hQ9,hvg,hlt9,hE9⟩
  ·skip
   have EA:Ext w3.drew (w3.alloc (.cells #[.int .i64 0, .slice none 0 0, .slice none 0 0, .bool false, .slice none 0 0, .slice none 0 0] 173)).drew:=⟨rfl,rfl,rfl,((ExtX.refl (Y:=noY) w3).alloc _).size,((ExtX.refl (Y:=noY) w3).alloc _).block⟩;have bA:Bx (w3.alloc (.cells #[.int .i64 0, .slice none 0 0, .slice none 0 0, .bool false, .slice none 0 0, .slice none 0 0] 173)).drew w3.heap.size #[.int .i64 0, .slice none 0 0, .slice none 0 0, .bool false, .slice none 0 0, .slice none 0 0] 173:=Bx.new w3 _ _;have hAs:(w3.alloc (.cells #[.int .i64 0, .slice none 0 0, .slice none 0 0, .bool false, .slice none 0 0, .slice none 0 0] 173)).drew.heap.size=w3.heap.size+1:=by show(w3.alloc _).heap.size=_;simp
   go_simp
   skip
   refine hK.out _ _ (hS.out _ ((ExtX.refl (Y:=noY) w3.drew).trans EA)) (fun hHeld=>?_);clear hK K
   (try simp only[Act.put,List.setIfInBounds_toArray,List.set_cons_zero,List.set_cons_succ])
   obtain⟨wA,hwA⟩:∃wA,(w3.alloc (.cells #[.int .i64 0, .slice none 0 0, .slice none 0 0, .bool false, .slice none 0 0, .slice none 0 0] 173)).drew=wA:=⟨_,rfl⟩;have tA:Ext w3.drew wA:=by rw[<-hwA];exact EA
   rw[hwA]at EA bA hAs |-;obtain⟨gA,hgA⟩:∃gA,w3.heap.size=gA:=⟨_,rfl⟩;have hvg:w3.heap.size<=gA:=by rw[<-hgA];exact Nat.le_refl _
   have hvgd:w3.drew.heap.size<=gA:=by have h9:w3.drew.heap.size=w3.heap.size:=rfl;rw[h9];exact hvg
   rw[hgA]at bA hAs |-;have glwA:gA<wA.heap.size:=by omega
   have xA0:=a1c (hX0.ext tA) glwA;refine a0m (i:=9) (o:=⟨_,_,_,_,_,_⟩) (by kernel_rfl) rfl (fun K hK=>?_);go_simp
   (go_at_call 133;(with_reducible refine(hc0.out (un Z0 (some ⟨gA,0,none⟩)) wA xA0 (a2f tA hvgd)).mono ?_);rintro ee v0 ⟨q0,u0,rfl,h0⟩)
   refine hK.out _ _ (hS.out v0 (tA.trans q0)) (fun hHeld=>?_);clear hK K
   (try simp only[Act.put,List.setIfInBounds_toArray,List.set_cons_zero,List.set_cons_succ])
   have T0:=tA.trans q0;have b0:=bA.ext0 q0;have glv0:gA<v0.heap.size:=Nat.lt_of_lt_of_le glwA q0.size;have xA1:=a1c (hX0.ext T0) glv0;refine a0m (i:=10) (o:=⟨_,_,_,_,_,_⟩) (by kernel_rfl) rfl (fun K hK=>?_);go_simp
   (go_at_call 133;(with_reducible refine(hc1.out (un Z0 (some ⟨gA,0,none⟩)) v0 xA1 (a2f T0 hvgd) _ h0).mono ?_);rintro ee v1 ⟨q1,u1,rfl,h1⟩)
   refine hK.out _ _ (hS.out v1 (T0.trans q1)) (fun hHeld=>?_);clear hK K
   (try simp only[Act.put,List.setIfInBounds_toArray,List.set_cons_zero,List.set_cons_succ])
   have T1:=T0.trans q1;have b1:=b0.ext0 q1;have glv1:gA<v1.heap.size:=Nat.lt_of_lt_of_le glv0 q1.size;have xA2:=a1c (hX0.ext T1) glv1;refine a0m (i:=11) (o:=⟨_,_,_,_,_,_⟩) (by kernel_rfl) rfl (fun K hK=>?_);go_simp
   (go_at_call 101;(with_reducible refine(hc2.out (un Z0 (some ⟨gA,0,none⟩)) v1 xA2 (a2f T1 hvgd) _ h1).mono ?_);rintro ee v2 ⟨q2,u2,rfl,h2⟩)
   refine hK.out _ _ (hS.out v2 (T1.trans q2)) (fun hHeld=>?_);clear hK K
   (try simp only[Act.put,List.setIfInBounds_toArray,List.set_cons_zero,List.set_cons_succ])
   have T2:=T1.trans q2;have b2:=b1.ext0 q2;have glv2:gA<v2.heap.size:=Nat.lt_of_lt_of_le glv1 q2.size;obtain⟨sd,ad,nd,cd,dd,kd,ed,rfl⟩:=h2.shape;refine a0a hOnce (i:=12) (oi:=⟨_,_,_,_,_,_⟩) (v:=?_) rfl (by kernel_rfl) (fun _ _ _ h=>h) (by assumption) (by rfl) (fun w hSw=>?_) ?_
   rotate_left
   ·(try dsimp only at hSw)
    go_simp
    all_goals with_reducible rfl
   (try simp only[Act.put,List.setIfInBounds_toArray,List.set_cons_zero,List.set_cons_succ])
   refine a0s (i:=14) (o:=⟨_,_,_,_,_,_⟩) (by kernel_rfl) rfl (by decide) (by kernel_rfl) (fun K hK=>?_)
   (refine a0z rfl rfl a3u rfl rfl b2 rfl rfl (by intro v hv;simp at hv;rcases hv with rfl|rfl|rfl|rfl|rfl|rfl<;>rfl) ?_;intro w9 y1 y2)
   refine hK.out _ _ ?_;clear hK K
   (try simp only[Act.put])
   have hQ9:=QC.mono _ _ _ _ (a0x y2 fun k hk=>a0q hk) h2;have hE9:Ext w3 w9:=ExtX.box (hE0.trans T2) y2 hvg;have hlt9:=Nat.lt_of_lt_of_le glv2 y2.size;rw[hNs.out]at y1;go_wp2_with fail
   go_meet
   case rel=>exact⟨gA,sd,ad,nd,cd,dd,kd,ed,rfl,y1,hQ9,hvg,hlt9,hE9⟩
 case rest=>
  obtain⟨g,sd,ad,nd,cd,dd,kd,ed,rfl,bg,hQ,hge,hglt,hEc⟩:=hcut;clear hc0 hc1 hc2 hS hwr hE0 hX0;obtain⟨Z1,hZ1⟩:∃Z1,un Z0 (some ⟨g,0,none⟩)=Z1:=⟨_,rfl⟩;have hgZ:∀k,ob (some ⟨g,0,none⟩) k=true->Z1 k=true:=fun k hk=>by rw[<-hZ1];exact a0q hk
  have hgg:Z1 g=true:=hgZ g (by simp[ob]);have hZ10:Hid (∀k,k<w3.heap.size->Z1 k=true->Z0 k=true):=hid fun k hk h=>by
   rw[<-hZ1]at h;by_cases h0:Z0 k=true
   ·exact h0
   ·have:g=k:=by simpa[un,h0,ob]using h
    omega
  have hXZ:Hid (∀k,X k=true->Z1 k=true):=hid fun k hk=>by
   rw[<-hZ1,<-hZ0];exact a0k (by simp[a0f,hk])
  have hb3:Hid (∀k,ob (some ⟨b+1+1,0,none⟩) k=true->Z1 k=true):=hid fun k hk=>by
   have hk2:b+1+1=k:=by simpa[ob]using hk
   rw[<-hZ1,<-hZ0];exact a0k (a5j (by omega) (by omega))
  have hX1:HX Z1 wc:=fun k hk=>by
   rw[<-hZ1]at hk;by_cases h0:Z0 k=true
   ·exact hX3.ext hEc k h0
   ·have:g=k:=by simpa[un,h0,ob]using hk
    omega
  rw[hZ1]at hQ;obtain⟨ro,rc,rfl,hrc,hrs⟩:=hrv;obtain⟨xo',xc',he,hxc,hxs⟩:=hxv;simp only[Value.slice.injEq]at he;obtain⟨rfl,rfl,rfl⟩:=he;obtain⟨yo',yc',he,hyc,hys⟩:=hyv;simp only[Value.slice.injEq]at he;obtain⟨rfl,rfl,rfl⟩:=he;have hhr:=hrs.hd;have hhx:=hxs.hd;have hhy:=hys.hd;have hrl':=hid hrl;have hxl':=hid hsx.1;have hxr':=hid hsx.2;have hyl':=hid hsy;rw[hrl]at hhr hrc |-;rw[hsx.1]at hhx hxc m3 |-;rw[hsy]at hhy hyc m3 |-;obtain⟨XD,hXD⟩:∃XD,(shM m row v sg).xx=XD:=⟨_,rfl⟩;obtain⟨YD,hYD⟩:∃YD,(shM m row v sg).xy=YD:=⟨_,rfl⟩;have hXl:Hid (XD.length=n):=hid (by rw[<-hXD];show(ofF row.length row.length _).length=n;rw[hrl];exact(a8W _ _ _).1);have hYl:Hid (YD.length=n):=hid (by rw[<-hYD];simp[shM,hrl]);have hXr:Hid (∀j (h:j<XD.length),XD[j]=(List.range n).map fun k=>ent m.xx j k+(sg:Rat)*fn row j*fn row k):=hid fun j h=>by subst hXD;simp[shM,ofF,hrl]
  have hYi:Hid (∀j (h:j<YD.length),YD[j]=fn m.xy j+(sg:Rat)*fn row j*v):=hid fun j h=>by subst hYD;simp[shM]
  have hfin:Hid (∀w' (s0:Bool) (a0:Option Addr) (k0 c0:Nat) (d0:Option Addr) (p0 e0:Nat) xo2 xc2 yo2 yc2,Ext w w'->MC (mk X w') (.slice xo2 n xc2) XD->RC (mk X w') (.slice yo2 n yc2) YD->QC (mk X w') (.agg #[.bool s0, .slice a0 k0 c0, .slice d0 p0 e0]) D->F (.returned (.agg #[.int .i64 N', .slice xo2 n xc2, .slice yo2 n yc2, .bool s0, .slice a0 k0 c0, .slice d0 p0 e0])) w'):=hid fun w' s0 a0 k0 c0 d0 p0 e0 xo2 xc2 yo2 yc2 h1 h2 h3 h4=>by
   rw[<-hF'.out];refine⟨h1,_,rfl,xo2,n,xc2,yo2,n,yc2,s0,a0,k0,c0,d0,p0,e0,?_,by rw[hXD];exact h2,by rw[hYD];exact h3,?_⟩
   ·show _=Value.agg #[.int .i64 (m.n+sg),_,_,_,_,_]
    rw[hNe.out]
   ·show QC _ _ (m.yy+(sg:Rat)*(v*v))
    rw[hDe.out];exact h4
  have hent:Hid (∀j k (hj:j<m.xx.length) (hk:k<m.xx[j].length),ent m.xx j k=m.xx[j][k]):=hid fun j k hj hk=>(b0q hj hk).symm;have hfr:Hid (∀j (h:j<row.length),fn row j=row[j]):=hid fun j h=>by simp[fn,List.getD_eq_getElem?_getD,h]
  have hfy:Hid (∀j (h:j<m.xy.length),fn m.xy j=m.xy[j]):=hid fun j h=>by simp[fn,List.getD_eq_getElem?_getD,h]
  have hbr:Hid (∀j (h:j<row.length),hq row[j]<=B):=hid fun j h=>hBr _ (List.getElem_mem _);clear hXD hYD hF' hZ1 hsx hsy hrl _hBm hBr hDe hNe hZ0;have hrow0:∀Z wr,Ext w3 wr->(∀k,k<w3.heap.size->Z k=true->Z1 k=true)->Le (mk Z0 w3) (mk Z wr):=fun Z wr h h1=>b4N h fun k hk hz=>hZ10.out k hk (h1 k hk hz);have hrow:=hid hrow0;clear hrow0;go_wp2_with fail
  go_loopw [34] (fun q wr=>∃(j:Nat) (xo2:Option Addr) (xc2:Nat) (yo2:Option Addr) (yc2:Nat),q= .int .i64 j/\j<=n/\Bx wr g #[.int .i64 N', .slice xo2 j xc2, .slice yo2 j yc2, .bool sd, .slice ad nd cd, .slice dd kd ed] 173/\OL RC 1 (un Z1 yo2) w3.heap.size 24 wr xo2 xc2 (XD.take j)/\OL QC 3 (un Z1 xo2) w3.heap.size 45 wr yo2 yc2 (YD.take j)/\QC (mk (un (un Z1 xo2) yo2) wr) (.agg #[.bool sd, .slice ad nd cd, .slice dd kd ed]) D/\HX Z1 wr/\Ext w3 wr) (fun q _=>n - (intOf q).toNat)
  case atStart=>exact⟨0,none,0,none,0,rfl,Nat.zero_le _,bg,OL.nil _ _ _ _ _ _,OL.nil _ _ _ _ _ _,by rw[a7J,a7J];exact hQ,hX1,hEc⟩
  case round=>
   clear hQ hX1 bg hEc;obtain⟨j,xo2,xc2,yo2,yc2,rfl,hj,bg,hOX,hOY,hQ,hXr1,hEr⟩:=hrel;by_cases hlt:j<n
   ·have hjr:j<row.length:=by rw[hrl'.out];exact hlt
    have hjx:j<m.xx.length:=by rw[hxl'.out];exact hlt
    have hjy:j<m.xy.length:=by rw[hyl'.out];exact hlt
    have hjX:j<XD.length:=by rw[hXl.out];exact hlt
    have hjY:j<YD.length:=by rw[hYl.out];exact hlt
    have htX:=hid (a0N XD j hjX);have htY:=hid (a0N YD j hjY);have hlX:=hid (a1a (l:=XD) (i:=j) (by omega));have hlY:=hid (a1a (l:=YD) (i:=j) (by omega));have hXj:=hXr.out j hjX;have hYj:=hYi.out j hjY;rw[hfr.out j hjr]at hXj;rw[hfr.out j hjr,hfy.out j hjy]at hYj;have hobX:∀k,k<w3.heap.size->ob xo2 k=false:=fun k hk=>hOX.ob_lt hk;have hobY:∀k,k<w3.heap.size->ob yo2 k=false:=fun k hk=>hOY.ob_lt hk;obtain⟨ZJ,hZJ⟩:∃ZJ,un (un Z1 xo2) yo2=ZJ:=⟨_,rfl⟩;have hXJ:HX ZJ wr:=by rw[<-hZJ];exact a2O (a2O hXr1 fun k hk=>(hOX.block hk).2) fun k hk=>(hOY.block hk).2
    have hsub3:∀k,k<w3.heap.size->ZJ k=true->Z1 k=true:=fun k hk hz=>by
     rw[<-hZJ]at hz;have e1:=hobX k hk;have e2:=hobY k hk;cases h0:Z1 k
     ·simp[un,h0,e1,e2]at hz
     ·rfl
    have hl3:=hrow.out ZJ wr hEr hsub3;have hrsj:=hrs.mono QV.mono hl3;have hsJ:=QV.mono _ _ _ _ hl3 hsv;have bx:=Bx.new wr #[.bool false, .slice none 0 0, .slice none 0 0] 45;have hf3:=y1.ext0 hEr;have hrq:=hid (hbr.out j hjr);obtain⟨rj,hrj⟩:∃rj,row[j]=rj:=⟨_,rfl⟩;have hrj':=hid hrj;rw[hrj]at hXj hYj hrq;clear hrj;go_wp2_with (first|(with_reducible refine a2a a0D (by omega) (by assumption) ?_)|((with_reducible show wpList _ _ _ (⟨_, .load 45 _,_,_,_,_⟩::_) _ _);refine a0P a0u j hrsj hjr rfl (by simp) QV.agg ?_;intro u5 hu5;rw[hrj'.out]at hu5;obtain⟨s5,a5,n5,c5,d5,m5,e5,rfl⟩:=hu5.shape)|((with_reducible show wpList _ _ _ (⟨_, .store 45 _ _,_,_,_,_⟩::_) _ _);refine a0c a0u rfl rfl bx rfl rfl (a2g _ _ _ _ _ _ _) ?_;intro w5 z1 z2;have hE5:Ext wr w5:=ExtX.box ((ExtX.refl wr).alloc _) z2 (Nat.le_refl _);have k10:=z1.cell 0 rfl;have k11:=z1.cell 1 rfl;have k12:=z1.cell 2 rfl;have hf5:=hf3.ext0 hE5;have k20:=hf5.cell 0 rfl;have k21:=hf5.cell 1 rfl;have k22:=hf5.cell 2 rfl;have hu6:=mkx QV.mono hu5 hE5;have hs6:=mkx QV.mono hsJ hE5))
    refine(b6M ZJ w5 _ _ _ _ (hXJ.ext hE5) hs6 hu6).mono ?_;rintro ee w6 ⟨hE6,u7,rfl,hu7⟩;obtain⟨s7,a7,n7,c7,d7,k7,e7,rfl⟩:=hu7.shape;have bx2:=Bx.new w6 #[.bool false, .slice none 0 0, .slice none 0 0] 45;clear k10 k11 k12 k20 k21 k22;go_wp2_with ((with_reducible show wpList _ _ _ (⟨_, .store 45 _ _,_,_,_,_⟩::_) _ _);refine a0c a0u rfl rfl bx2 rfl rfl (a2g _ _ _ _ _ _ _) ?_;intro wj x1 x2)
    have hE6j:Ext w6 wj:=ExtX.box ((ExtX.refl w6).alloc _) x2 (Nat.le_refl _);have hEj:Ext wr wj:=(hE5.trans hE6).trans hE6j;have hwv:=mkx QC.mono hu7 hE6j;have hXwj:HX ZJ wj:=hXJ.ext hEj;have hE3j:=hEr.trans hEj;have hwq:Hid (hq ((sg:Rat)*rj)<=1000001):=hid (Nat.le_trans (hq_mul _ _) (by have:=hrq.out;omega));obtain⟨jb,hjb⟩:∃jb,w6.heap.size=jb:=⟨_,rfl⟩;rw[hjb]at x1 |-;obtain⟨SW,hSW⟩:∃SW,(sg:Rat)*rj=SW:=⟨_,rfl⟩;rw[hSW]at hwv hwq hXj hYj;obtain⟨LJ,hLJ⟩:∃LJ,XD[j]=LJ:=⟨_,rfl⟩;rw[hLJ]at hXj htX;have hLl:Hid (LJ.length=n):=hid (by rw[hXj];simp);have hLi:Hid (∀k (h:k<LJ.length),LJ[k]=ent m.xx j k+SW*fn row k):=hid fun k h=>by subst hXj;simp
    obtain⟨rxo,rxc,_,hcx,hclx,hqx⟩:=hxs.row j hjx;have hxrl:=hid (hxr'.out m.xx[j] (List.getElem_mem _));rw[hxrl.out]at hcx hclx;have hhrx:Hd rxo n:=by have:=hqx.hd;rw[hxrl.out]at this;exact this
    have hbg0:=bg.ext0 hEj;have hX0j:=hOX.ext0 RC.elem hEj;have hY0j:=hOY.ext0 QC.elem hEj;have hQj:=mkx QC.mono hQ hEj;have hX1j:HX Z1 wj:=hXr1.ext hEj;have hobj:ob xo2 jb=false:=by
     cases hc:ob xo2 jb
     ·rfl
     ·have:=(hOX.block hc).2;have:=(hE5.trans hE6).size;omega
    have hoyj:ob yo2 jb=false:=by
     cases hc:ob yo2 jb
     ·rfl
     ·have:=(hOY.block hc).2;have:=(hE5.trans hE6).size;omega
    have hgj:g≠jb:=by have h9:g<wr.heap.size:=a2h (bg.cell 0 rfl);have:=(hE5.trans hE6).size;omega
    clear hXj hLJ hSW hjb hu7 bx bx2 x2 z1 z2 hf3 hf5 hs6 hu6 hu5 hE5 hE6 hE6j hrsj hsJ hl3 hOX hOY hQ bg;go_wp2_with fail
    go_loopw [14,44] (fun l q wr=>∃(k:Nat) (lo:Option Addr) (lc:Nat),q= .int .i64 k/\l= .slice lo k lc/\k<=n/\OL QC 3 ZJ wj.heap.size 45 wr lo lc (LJ.take k)/\Ext wj wr) (fun _ q _=>n - (intOf q).toNat)
    case atStart=>exact⟨0,none,0,rfl,rfl,Nat.zero_le _,OL.nil _ _ _ _ _ _,ExtX.refl _⟩
    case round=>
     obtain⟨k,lo,lc,rfl,rfl,hk,hL,hEk⟩:=hrel;have hXk:HX ZJ wr:=hXwj.ext hEk;have hbk:=hEk.size;by_cases hlk:k<n
     ·have hkr:k<row.length:=by rw[hrl'.out];exact hlk
      have hkx:k<m.xx[j].length:=by rw[hxrl.out];exact hlk
      have hkL:k<LJ.length:=by rw[hLl.out];exact hlk
      have htk:=hid (a0N LJ k hkL);have hlk2:=hid (a1a (l:=LJ) (i:=k) (by omega));have hLk:=hLi.out k hkL;rw[hfr.out k hkr,hent.out j k hjx hkx]at hLk;have hE3k:=hE3j.trans hEk;have hobL:∀q,q<wj.heap.size->ob lo q=false:=fun q hq=>hL.ob_lt hq;obtain⟨ZK,hZK⟩:∃ZK,un ZJ lo=ZK:=⟨_,rfl⟩;have hXK:HX ZK wr:=by rw[<-hZK];exact hL.unX hXk
      have hsubK:∀q,q<w3.heap.size->ZK q=true->Z1 q=true:=fun q hq hz=>by
       rw[<-hZK]at hz;have e1:=hobL q (Nat.lt_of_lt_of_le hq hE3j.size);refine hsub3 q hq ?_;cases h0:ZJ q
       ·simp[un,h0,e1]at hz
       ·rfl
      have hlK:=hrow.out ZK wr hE3k hsubK;have hrsk:=hrs.mono QV.mono hlK;have hwk:QC (mk ZK wr) (.agg #[.bool s7, .slice a7 n7 c7, .slice d7 k7 e7]) SW:=by rw[<-hZK];exact a6b (w:=wj) QC.mono hwv hEk hobL
      have hqk:=hqx.mono QV.mono hlK;obtain⟨gx,ox,sx,px,nx,qx,dx,kx,ex,hgx,hXx,hcxx,hqxx⟩:=hqk.rat QV.shaped k hkx;have bx:=Bx.new wr #[.bool false, .slice none 0 0, .slice none 0 0] 45;have hrqk:=hid (hbr.out k hkr);obtain⟨rk,hrk⟩:∃rk,row[k]=rk:=⟨_,rfl⟩;obtain⟨xk,hxk⟩:∃xk,m.xx[j][k]=xk:=⟨_,rfl⟩;obtain⟨lk,hlk3⟩:∃lk,LJ[k]=lk:=⟨_,rfl⟩;have hrk':=hid hrk;rw[hrk]at hLk hrqk;rw[hxk]at hLk hqxx;rw[hlk3]at hLk htk;have hLk':=hid hLk;have hx1:=x1.ext0 hEk;have hm3:=m3.ext0 hE3k;have hcell:=hcx.out noY wr hE3k rfl;have hwrk:Hid (hq (SW*rk)<=68719476736):=hid (Nat.le_trans (hq_mul _ _) (by have:=hwq.out;have:=hrqk.out;omega));clear hrk hxk hlk3 hLk;go_wp2_with (first|(with_reducible refine a2a a0D (by omega) (by assumption) ?_)|((with_reducible show wpList _ _ _ (⟨_, .load 45 _,_,_,_,_⟩::_) _ _);refine a0P a0u k hrsk hkr rfl (by simp) QV.agg ?_;intro u5 hu5;rw[hrk'.out]at hu5;obtain⟨s5,a5,n5,c5,d5,m5,e5,rfl⟩:=hu5.shape)|((with_reducible show wpList _ _ _ (⟨_, .store 45 _ _,_,_,_,_⟩::_) _ _);refine a0c a0u rfl rfl bx rfl rfl (a2g _ _ _ _ _ _ _) ?_;intro w5 z1 z2;have hE5:Ext wr w5:=ExtX.box ((ExtX.refl wr).alloc _) z2 (Nat.le_refl _)))
      have hEd:Ext wr w5.drew:=hE5.drew;have hXd:HX ZK w5.drew:=hXK.ext hEd;have hwd:=(mkx QC.mono hwk hEd).qv (Nat.le_trans hwq.out (by decide));have hud:=mkx QV.mono hu5 hEd;have hxd:=mkx QV.mono hqxx hEd;have hLd:=hL.ext0 QC.elem hEd;have hXJd:HX ZJ w5.drew:=hXk.ext hEd;obtain⟨b16,hb16⟩:∃b16,wr.heap.size=b16:=⟨_,rfl⟩;rw[hb16]at z1 |-;have o1:ob lo (adr xo j).block=false:=hobL _ (Nat.lt_of_lt_of_le (a2h (hcx.out noY w3 (ExtX.refl _) rfl)) hE3j.size);have o2:ob lo gx=false:=by rw[<-hZK]at hXx;exact(a1q hXx).2
      have o3:ob lo jb=false:=hobL _ (a2h (x1.cell 0 rfl));have o4:ob lo b16=false:=by
       cases hc:ob lo b16
       ·rfl
       ·have:=(hL.block hc).2;omega
      have o5:ob lo b=false:=hobL _ (Nat.lt_of_lt_of_le (a2h (m3.cell 0 rfl)) hE3j.size);have hS:Hid (∀Y W',ExtX Y w5.drew W'->Y b=false->Y (adr xo j).block=false->Y gx=false->Y jb=false->Y b16=false->W'.cell? ⟨b,1,none⟩=some (.slice xo n xc)/\W'.cell? (adr xo j)=some (.slice rxo n rxc)/\(W'.cell? ⟨gx,ox,none⟩=some (.bool sx)/\W'.cell? ⟨gx,ox+1,none⟩=some (.slice px nx qx)/\W'.cell? ⟨gx,ox+2,none⟩=some (.slice dx kx ex))/\(W'.cell? ⟨jb,0,none⟩=some (.bool s7)/\W'.cell? ⟨jb,0+1,none⟩=some (.slice a7 n7 c7)/\W'.cell? ⟨jb,0+2,none⟩=some (.slice d7 k7 e7))/\(W'.cell? ⟨b16,0,none⟩=some (.bool s5)/\W'.cell? ⟨b16,0+1,none⟩=some (.slice a5 n5 c5)/\W'.cell? ⟨b16,0+2,none⟩=some (.slice d5 m5 e5))):=hid fun Y W' h h1 h2 h3 h4 h5=>by
       have q1:=(hm3.ext0 hEd).ext h h1;have q3:=(hx1.ext0 hEd).ext h h4;have q4:=(z1.ext0 (ExtX.refl w5).drew).ext h h5;exact⟨q1.cell 1 rfl,hcx.out Y W' ((ExtX.of (hE3k.trans hEd)).trans h) h2,hcxx.out Y W' ((ExtX.of hEd).trans h) h3,⟨q3.cell 0 rfl,q3.cell 1 rfl,q3.cell 2 rfl⟩,⟨q4.cell 0 rfl,q4.cell 1 rfl,q4.cell 2 rfl⟩⟩
      obtain⟨f00,f01,⟨f02,f03,f04⟩,⟨f05,f06,f07⟩,⟨f08,f09,f10⟩⟩:=hS.out noY w5.drew (ExtX.refl _) rfl rfl rfl rfl rfl;have i1:∀W,(Instr.indexAt 23 (.slice xo n xc) (.int .i64 (j:Int))).run Tryz.prog W= .ok (.pointer (some (adr xo j))) W:=a0C a0r xo n xc .i64 j hhx (by omega) rfl;have i2:∀W,(Instr.indexAt 24 (.slice rxo n rxc) (.int .i64 (k:Int))).run Tryz.prog W= .ok (.pointer (some ⟨gx,ox,none⟩)) W:=by rw[<-hgx];exact a0h a0D rxo n rxc .i64 k hhrx (by omega)
      clear hcell hgx hu5 z2 hwk hqxx hqk hrsk bx;go_region_held3 (fun w'=>w'.cell? ⟨b,1,none⟩=some (.slice xo n xc)/\w'.cell? (adr xo j)=some (.slice rxo n rxc)/\(w'.cell? ⟨gx,ox,none⟩=some (.bool sx)/\w'.cell? ⟨gx,ox+1,none⟩=some (.slice px nx qx)/\w'.cell? ⟨gx,ox+2,none⟩=some (.slice dx kx ex))/\(w'.cell? ⟨jb,0,none⟩=some (.bool s7)/\w'.cell? ⟨jb,0+1,none⟩=some (.slice a7 n7 c7)/\w'.cell? ⟨jb,0+2,none⟩=some (.slice d7 k7 e7))/\(w'.cell? ⟨b16,0,none⟩=some (.bool s5)/\w'.cell? ⟨b16,0+1,none⟩=some (.slice a5 n5 c5)/\w'.cell? ⟨b16,0+2,none⟩=some (.slice d5 m5 e5)))
       (first|exact hS.out noY _ t1 rfl rfl rfl rfl rfl|exact hS.out noY _ t2 rfl rfl rfl rfl rfl|exact hS.out noY _ (ExtX.alloc t2 _) rfl rfl rfl rfl rfl|exact hS.out (ob lo) _ ((ExtX.of t2).trans hE7) o5 o1 o2 o3 o4|go_keep)
       (first|(go_at_call 133;(with_reducible refine(b6M ZK w5.drew _ _ _ _ hXd hwd hud).mono ?_);rintro ee w6 ⟨t1,u6,rfl,hu6⟩;have hX6:=HX.ext hXd t1;have hx6:=mkx QV.mono hxd t1;have hu6v:=hu6.qv hwrk.out)|(go_at_call 101;(with_reducible refine(b5L ZK w6 _ _ _ _ hX6 hx6 hu6v).mono ?_);rintro ee w8 ⟨t7,u8,rfl,hu8⟩;have t2:=t1.trans t7;obtain⟨s8,a8,n8,c8,d8,k8,e8,rfl⟩:=hu8.shape;rw[<-hLk'.out,<-hZK]at hu8;have hL8:=hLd.ext0 QC.elem t2;have hb8:=(hEk.trans (hEd.trans t2)).size;have hX8:=HX.ext hXJd t2)|(refine a1K (l:=LJ.take k) rfl (by rfl) a0D rfl QC.elem hb8 hX8 k hlk2.out rfl rfl hL8 (.agg #[.bool s8, .slice a8 n8 c8, .slice d8 k8 e8]) lk rfl hu8 (by omega) (by omega) ?_;intro lo2 lc2 w7 hL7 hE7 hor))
      have hE8:=(hEk.trans (hEd.trans t2)).own hL8 (Nat.le_refl _) hE7;rw[htk.out]at hL7;clear f00 f01 f02 f03 f04 f05 f06 f07 f08 f09 f10 i1 i2;go_wp2_with fail
      go_roundw
      case rel=>exact⟨k+1,lo2,lc2,by go_num,by go_num,by omega,hL7,hE8⟩
      case measure=>simp[intOf];omega
     ·have hkn:n=k:=by omega
      subst hkn;rw[List.take_of_length_le (by rw[hLl.out];exact Nat.le_refl _)]at hL;have hLs:=hL.sl QC.elem;have hLc:=hL.lenCap;rw[hLl.out]at hLc;have hbg1:=hbg0.ext0 hEk;have hX1':=hX0j.ext0 RC.elem hEk;have hY1':=hY0j.ext0 QC.elem hEk;have hQ1:=mkx QC.mono hQj hEk;have hw1:=mkx QC.mono hwv hEk;have hX1k:HX (un Z1 yo2) wr:=a2O (hX1j.ext hEk) fun q hq=>(hY1'.block hq).2;have hE3k:=hE3j.trans hEk;have hRC:RC (mk (un (un Z1 yo2) xo2) wr) (.slice lo n lc) LJ:=⟨lo,lc,by rw[hLl.out],by rw[hLl.out];exact hLc,hLs.mono QC.mono (a1E fun q _ hq=>by rw[<-hZJ,a0U];exact hq)⟩;have hogx:ob xo2 g=false:=by
       cases hc:ob xo2 g
       ·rfl
       ·have:=(a1q (hX1'.1 g hc)).1;rw[hgg]at this;cases this
      have q1:=hbg1.cell 1 rfl;have hj1:=x1.ext0 hEk;clear hX0j hY0j hQj hwv hbg0 hL hLs;go_wp2_with (first
       |(at_builtin;refine a0v (l:=XD.take j) a0r rfl RC.elem hE3k.size hX1k j hlX.out rfl rfl hX1' (.slice lo n lc) LJ rfl hRC (by omega) (by omega) ?_;intro xo7 xc7 w7 hX7 hE7 hor7;have bg7:=hbg1.ext hE7 hogx)
       |(refine a3R (v:= .slice xo7 (j+1) xc7) b9i rfl rfl rfl rfl bg7 (by simp) ?_;intro w8 bg8 hE8))
      have bg8':Bx w8 g #[.int .i64 N', .slice xo7 (j+1) xc7, .slice yo2 j yc2, .bool sd, .slice ad nd cd, .slice dd kd ed] 173:=by simpa using bg8
      have hE37:=hE3k.own hX1' (Nat.le_refl _) hE7;have hE38:Ext w3 w8:=ExtX.box hE37 hE8 hge;rw[htX.out]at hX7;have hX8:=hX7.ext RC.elem (Z:=un Z1 yo2) hE8 (fun q _ hq=>a0k (hgZ q hq)) (fun _ _ h=>h);have hY7:=hY1'.ext QC.elem (Z:=un Z1 xo7) hE7 (fun q _ hq=>a0q hq) (b2U hor7);have hY8:=hY7.ext QC.elem (Z:=un Z1 xo7) hE8 (fun q _ hq=>a0k (hgZ q hq)) (fun _ _ h=>h);obtain⟨Z8,hZ8⟩:∃Z8,un (un Z1 xo7) yo2=Z8:=⟨_,rfl⟩;have hle8:Le (mk ZJ wr) (mk Z8 w8):=fun A U h=>by
       have h1:=a1f (Z:=Z8) hE7 (fun q _ hq=>by rw[<-hZJ];exact a0k (a0q hq)) (fun q hq hz=>by
        rw[<-hZ8,a0U]at hz;rw[<-hZJ,a0U];exact b2U (X:=un Z1 yo2) hor7 q hq hz) A U h
       exact a1f hE8 (fun q _ hq=>by rw[<-hZ8];exact a0k (a0k (hgZ q hq))) (fun _ _ h=>h) A U h1
      have hQ8:=QC.mono _ _ _ _ hle8 (by rw[<-hZJ];exact hQ1);have hw8:=QC.mono _ _ _ _ hle8 hw1;have hj8:=(hj1.ext hE7 hobj).ext hE8 (a0b hgj.symm);have hm8:=m3.ext0 hE38;have hv8:=v3.ext0 hE38;have hXZ1:HX Z1 w8:=fun q hq=>Nat.lt_of_lt_of_le (hX1j q hq) (Nat.le_trans hbk (Nat.le_trans hE7.size hE8.size));have hXZ8:HX Z8 w8:=by rw[<-hZ8];exact a2O (a2O hXZ1 fun q hq=>(hX8.block hq).2) fun q hq=>(hY8.block hq).2
      have hob78:∀q,q<w3.heap.size->Z8 q=true->Z1 q=true:=fun q hq hz=>by
       rw[<-hZ8]at hz;have e1:ob xo7 q=false:=hX8.ob_lt hq;have e2:ob yo2 q=false:=hY8.ob_lt hq;cases h0:Z1 q
       ·simp[un,h0,e1,e2]at hz
       ·rfl
      have hl38:=hrow.out Z8 w8 hE38 hob78;have hys8:=hys.mono QV.mono hl38;have htv8:=QV.mono _ _ _ _ hl38 htv;obtain⟨gy,oy,sy,py,ny,qy,dy,ky,ey,hgy,hXy,hcy,hqy⟩:=hys8.rat QV.shaped j hjy;obtain⟨yj,hyj⟩:∃yj,m.xy[j]=yj:=⟨_,rfl⟩;obtain⟨YJ,hYJ⟩:∃YJ,YD[j]=YJ:=⟨_,rfl⟩;rw[hyj]at hqy hYj;rw[hYJ]at hYj htY;have hYj':=hid hYj;have hEd:Ext w8 w8.drew:=(ExtX.refl w8).drew;have hwv:Hid (hq (SW*v)<=68719476736):=hid (Nat.le_trans (hq_mul _ _) (by have:=hwq.out;omega));have hwd:=(mkx QC.mono hw8 hEd).qv (Nat.le_trans hwq.out (by decide));have htd:=mkx QV.mono htv8 hEd;have hyd:=mkx QV.mono hqy hEd;have hYd:=hY8.ext0 QC.elem hEd;have hXd:HX Z8 w8.drew:=hXZ8.ext hEd;have hXu7:HX (un Z1 xo7) w8.drew:=a2O (hXZ1.ext hEd) fun q hq=>(hX8.block hq).2;have ogy:ob yo2 g=false:=by
       cases hc:ob yo2 g
       ·rfl
       ·have:=(a1q (hY8.1 g hc)).1;rw[hgg]at this;cases this
      have o1:ob yo2 b=false:=hY8.ob_lt (a2h (m3.cell 0 rfl));have o2:ob yo2 (b+1)=false:=hY8.ob_lt (a2h (v3.cell 0 rfl));have o3:ob yo2 gy=false:=by rw[<-hZ8]at hXy;exact(a1q hXy).2
      have hS:Hid (∀Y W',ExtX Y w8.drew W'->Y g=false->Y b=false->Y gy=false->Y jb=false->Y (b+1)=false->W'.cell? ⟨g,2,none⟩=some (.slice yo2 j yc2)/\W'.cell? ⟨b,2,none⟩=some (.slice yo n yc)/\(W'.cell? ⟨gy,oy,none⟩=some (.bool sy)/\W'.cell? ⟨gy,oy+1,none⟩=some (.slice py ny qy)/\W'.cell? ⟨gy,oy+2,none⟩=some (.slice dy ky ey))/\(W'.cell? ⟨jb,0,none⟩=some (.bool s7)/\W'.cell? ⟨jb,0+1,none⟩=some (.slice a7 n7 c7)/\W'.cell? ⟨jb,0+2,none⟩=some (.slice d7 k7 e7))/\(W'.cell? ⟨b+1,0,none⟩=some (.bool s2)/\W'.cell? ⟨b+1,0+1,none⟩=some (.slice a2 n2 c2)/\W'.cell? ⟨b+1,0+2,none⟩=some (.slice d2 k2 e2))):=hid fun Y W' h h1 h2 h3 h4 h5=>by
       have p1:=(bg8'.ext0 hEd).ext h h1;have p2:=(hm8.ext0 hEd).ext h h2;have p3:=(hj8.ext0 hEd).ext h h4;have p4:=(hv8.ext0 hEd).ext h h5;exact⟨p1.cell 2 rfl,p2.cell 2 rfl,hcy.out Y W' ((ExtX.of hEd).trans h) h3,⟨p3.cell 0 rfl,p3.cell 1 rfl,p3.cell 2 rfl⟩,⟨p4.cell 0 rfl,p4.cell 1 rfl,p4.cell 2 rfl⟩⟩
      have iy:∀W,(Instr.indexAt 24 (.slice yo n yc) (.int .i64 (j:Int))).run Tryz.prog W= .ok (.pointer (some ⟨gy,oy,none⟩)) W:=by rw[<-hgy];exact a0h a0D yo n yc .i64 j hhy (by omega)
      have hbY:w3.heap.size<=w8.drew.heap.size:=(hE38.trans hEd).size;clear q1 hgy hqy hys8 hcy hm8 hv8 hj8 hj1 hRC bg8 bg7 hY7 hX1' hY1' hQ1 hw1 hYj;refine a0M 14 (fun W'=>W'.cell? ⟨g,2,none⟩=some (.slice yo2 j yc2)/\W'.cell? ⟨b,2,none⟩=some (.slice yo n yc)/\(W'.cell? ⟨gy,oy,none⟩=some (.bool sy)/\W'.cell? ⟨gy,oy+1,none⟩=some (.slice py ny qy)/\W'.cell? ⟨gy,oy+2,none⟩=some (.slice dy ky ey))/\(W'.cell? ⟨jb,0,none⟩=some (.bool s7)/\W'.cell? ⟨jb,0+1,none⟩=some (.slice a7 n7 c7)/\W'.cell? ⟨jb,0+2,none⟩=some (.slice d7 k7 e7))/\(W'.cell? ⟨b+1,0,none⟩=some (.bool s2)/\W'.cell? ⟨b+1,0+1,none⟩=some (.slice a2 n2 c2)/\W'.cell? ⟨b+1,0+2,none⟩=some (.slice d2 k2 e2))) (by kernel_rfl) (by kernel_rfl) (hS.out noY _ (ExtX.refl _) rfl rfl rfl rfl rfl) (fun hHeld hOnce=>?_);refine a0a hOnce (i:=0) (oi:=⟨_,_,_,_,_,_⟩) (v:=?_) rfl (by kernel_rfl) (fun _ _ _ h=>h) (by assumption) (by rfl) (fun w hSw=>?_) ?_
      rotate_left
      ·(try dsimp only at hSw)
       go_simp
       all_goals with_reducible rfl
      (try simp only[Act.put,List.setIfInBounds_toArray,List.set_cons_zero,List.set_cons_succ])
      refine a0a hOnce (i:=1) (oi:=⟨_,_,_,_,_,_⟩) (v:=?_) rfl (by kernel_rfl) (fun _ _ _ h=>h) (by assumption) (by rfl) (fun w hSw=>?_) ?_
      rotate_left
      ·(try dsimp only at hSw)
       go_simp
       all_goals with_reducible rfl
      (try simp only[Act.put,List.setIfInBounds_toArray,List.set_cons_zero,List.set_cons_succ])
      refine a0a hOnce (i:=2) (oi:=⟨_,_,_,_,_,_⟩) (v:=?_) rfl (by kernel_rfl) (fun _ _ _ h=>h) (by assumption) (by rfl) (fun w hSw=>?_) ?_
      rotate_left
      ·(try dsimp only at hSw)
       go_simp
       all_goals with_reducible rfl
      (try simp only[Act.put,List.setIfInBounds_toArray,List.set_cons_zero,List.set_cons_succ])
      refine a0a hOnce (i:=3) (oi:=⟨_,_,_,_,_,_⟩) (v:=?_) rfl (by kernel_rfl) (fun _ _ _ h=>h) (by assumption) (by rfl) (fun w hSw=>?_) ?_
      rotate_left
      ·(try dsimp only at hSw)
       go_simp
       all_goals with_reducible rfl
      (try simp only[Act.put,List.setIfInBounds_toArray,List.set_cons_zero,List.set_cons_succ])
      refine a0a hOnce (i:=4) (oi:=⟨_,_,_,_,_,_⟩) (v:=?_) rfl (by kernel_rfl) (fun _ _ _ h=>h) (by assumption) (by rfl) (fun w hSw=>?_) ?_
      rotate_left
      ·(try dsimp only at hSw)
       go_simp
       all_goals with_reducible rfl
      (try simp only[Act.put,List.setIfInBounds_toArray,List.set_cons_zero,List.set_cons_succ])
      refine a0a hOnce (i:=5) (oi:=⟨_,_,_,_,_,_⟩) (v:=?_) rfl (by kernel_rfl) (fun _ _ _ h=>h) (by assumption) (by rfl) (fun w hSw=>?_) ?_
      rotate_left
      ·(try dsimp only at hSw)
       go_simp
       all_goals with_reducible rfl
      (try simp only[Act.put,List.setIfInBounds_toArray,List.set_cons_zero,List.set_cons_succ])
      refine a0a hOnce (i:=6) (oi:=⟨_,_,_,_,_,_⟩) (v:=?_) rfl (by kernel_rfl) (fun _ _ _ h=>h) (by assumption) (by rfl) (fun w hSw=>?_) ?_
      rotate_left
      ·(try dsimp only at hSw)
       go_simp
       all_goals with_reducible rfl
      (try simp only[Act.put,List.setIfInBounds_toArray,List.set_cons_zero,List.set_cons_succ])
      refine a0a hOnce (i:=7) (oi:=⟨_,_,_,_,_,_⟩) (v:=?_) rfl (by kernel_rfl) (fun _ _ _ h=>h) (by assumption) (by rfl) (fun w hSw=>?_) ?_
      rotate_left
      ·(try dsimp only at hSw)
       go_simp
       all_goals with_reducible rfl
      (try simp only[Act.put,List.setIfInBounds_toArray,List.set_cons_zero,List.set_cons_succ])
      refine a0a hOnce (i:=8) (oi:=⟨_,_,_,_,_,_⟩) (v:=?_) rfl (by kernel_rfl) (fun _ _ _ h=>h) (by assumption) (by rfl) (fun w hSw=>?_) ?_
      rotate_left
      ·(try dsimp only at hSw)
       go_simp
       all_goals with_reducible rfl
      (try simp only[Act.put,List.setIfInBounds_toArray,List.set_cons_zero,List.set_cons_succ])
      refine a0m (i:=9) (o:=⟨_,_,_,_,_,_⟩) (by kernel_rfl) rfl (fun K hK=>?_);go_simp
      (go_at_call 133;(with_reducible refine(b6M Z8 w8.drew _ _ _ _ hXd hwd htd).mono ?_);rintro ee w10 ⟨t1,u10,rfl,hu10⟩)
      refine hK.out _ _ (hS.out noY w10 t1 rfl rfl rfl rfl rfl) (fun hHeld=>?_);clear hK K
      (try simp only[Act.put,List.setIfInBounds_toArray,List.set_cons_zero,List.set_cons_succ])
      have hX10:=HX.ext hXd t1;have hy10:=mkx QV.mono hyd t1;have hu10v:=hu10.qv hwv.out;refine a0m (i:=10) (o:=⟨_,_,_,_,_,_⟩) (by kernel_rfl) rfl (fun K hK=>?_);go_simp
      (go_at_call 101;(with_reducible refine(b5L Z8 w10 _ _ _ _ hX10 hy10 hu10v).mono ?_);rintro ee w11 ⟨t2,u11,rfl,hu11⟩)
      refine hK.out _ _ (hS.out noY w11 (t1.trans t2) rfl rfl rfl rfl rfl) (fun hHeld=>?_);clear hK K
      (try simp only[Act.put,List.setIfInBounds_toArray,List.set_cons_zero,List.set_cons_succ])
      have t12:=t1.trans t2;obtain⟨s11,a11,n11,c11,d11,k11,e11,rfl⟩:=hu11.shape;rw[<-hYj'.out,<-hZ8]at hu11;have hY11:=hYd.ext0 QC.elem t12;have hX11:=hXu7.ext t12;have hb11:=Nat.le_trans hbY t12.size;refine a0m (i:=11) (o:=⟨_,_,_,_,_,_⟩) (by kernel_rfl) rfl (fun K hK=>?_);go_simp
      skip
      refine hK.out _ _ (hS.out noY _ (t12.alloc _) rfl rfl rfl rfl rfl) (fun hHeld=>?_);clear hK K
      (try simp only[Act.put,List.setIfInBounds_toArray,List.set_cons_zero,List.set_cons_succ])
      refine a0m (i:=12) (o:=⟨_,_,_,_,_,_⟩) (by kernel_rfl) rfl (fun K hK=>?_)
      (refine a1K (l:=YD.take j) rfl (by rfl) a0D rfl QC.elem hb11 hX11 j hlY.out rfl rfl hY11 (.agg #[.bool s11, .slice a11 n11 c11, .slice d11 k11 e11]) YJ rfl hu11 (by omega) (by omega) ?_;intro yo9 yc9 w12 hY12 hE12 hor12)
      refine hK.out _ _ (hS.out (ob yo2) w12 ((ExtX.of t12).trans hE12) ogy o1 o3 hoyj o2) (fun hHeld=>?_);clear hK K
      (try simp only[Act.put,List.setIfInBounds_toArray,List.set_cons_zero,List.set_cons_succ])
      have bg12:=(bg8'.ext0 (hEd.trans t12)).ext hE12 ogy;refine a0a hOnce (i:=13) (oi:=⟨_,_,_,_,_,_⟩) (v:=?_) rfl (by kernel_rfl) (fun _ _ _ h=>h) (by assumption) (by rfl) (fun w hSw=>?_) ?_
      rotate_left
      ·(try dsimp only at hSw)
       go_simp
       all_goals with_reducible rfl
      (try simp only[Act.put,List.setIfInBounds_toArray,List.set_cons_zero,List.set_cons_succ])
      refine a0s (i:=14) (o:=⟨_,_,_,_,_,_⟩) (by kernel_rfl) rfl (by decide) (by kernel_rfl) (fun K hK=>?_)
      (refine a1j (v:= .slice yo9 (j+1) yc9) rfl rfl b5X rfl rfl rfl rfl bg12 (by simp) ?_;intro w13 bg13 hE13)
      refine hK.out _ _ ?_;clear hK K
      (try simp only[Act.put])
      have bg13':Bx w13 g #[.int .i64 N', .slice xo7 (j+1) xc7, .slice yo9 (j+1) yc9, .bool sd, .slice ad nd cd, .slice dd kd ed] 173:=by simpa using bg13
      rw[htY.out]at hY12;have hE8t:=hEd.trans t12;have hX13:=((hX8.ext0 RC.elem hE8t).ext RC.elem (Z:=un Z1 yo9) hE12 (fun q _ hq=>a0q hq) (b2U hor12)).ext RC.elem (Z:=un Z1 yo9) hE13 (fun q _ hq=>a0k (hgZ q hq)) (fun _ _ h=>h);have hY13:=hY12.ext QC.elem (Z:=un Z1 xo7) hE13 (fun q _ hq=>a0k (hgZ q hq)) (fun _ _ h=>h);have hQ13:QC (mk (un (un Z1 xo7) yo9) w13) (.agg #[.bool sd, .slice ad nd cd, .slice dd kd ed]) D:=QC.mono _ _ _ _ (a1f hE13 (fun q _ hq=>a0k (a0k (hgZ q hq))) (fun _ _ h=>h)) (QC.mono _ _ _ _ (a1f (Z:=un (un Z1 xo7) yo9) hE12 (fun q _ hq=>by rw[<-hZ8];exact a0q hq) (fun q hq hz=>by rw[<-hZ8];exact b2U (X:=un Z1 xo7) hor12 q hq hz)) (mkx QC.mono hQ8 hE8t));have hE3z:Ext w3 w13:=ExtX.box ((hE38.trans hE8t).own hY11 (Nat.le_refl _) hE12) hE13 hge;have hXz:HX Z1 w13:=fun q hq=>Nat.lt_of_lt_of_le (hXZ1 q hq) (Nat.le_trans hE8t.size (Nat.le_trans hE12.size hE13.size));go_wp2_with fail
      go_roundw
      case rel=>exact⟨j+1,xo7,xc7,yo9,yc9,by go_num,by omega,bg13',hX13,hY13,hQ13,hXz,hE3z⟩
      case measure=>simp[intOf];omega
   ·have hjn:j=n:=by omega
    subst hjn;rw[List.take_of_length_le (by rw[hXl.out];exact Nat.le_refl _)]at hOX;rw[List.take_of_length_le (by rw[hYl.out];exact Nat.le_refl _)]at hOY;have hXs:=hOX.sl RC.elem;have hXc:=hOX.lenCap;have hYs:=hOY.sl QC.elem;have hYc:=hOY.lenCap;rw[hXl.out]at hXc;rw[hYl.out]at hYc;have q0:=bg.cell 0 rfl;have q1:=bg.cell 1 rfl;have q2:=bg.cell 2 rfl;have q3:=bg.cell 3 rfl;have q4:=bg.cell 4 rfl;have q5:=bg.cell 5 rfl;have tr:=t3.ext0 hEr;clear bg;go_wp2_with (refine a0c a3u rfl rfl tr rfl rfl (by intro v hv;simp at hv;rcases hv with rfl|rfl|rfl|rfl|rfl|rfl<;>rfl) ?_;intro w7 r1 r2)
    have hE7:Ext w w7:=ExtX.box (hE03.trans hEr) r2 (by omega);have hl7:Le (mk (un Z1 yo2) wr) (mk X w7):=a4s r2 (fun k hk=>a0k (hb3.out k hk)) (fun k hk=>a0k (hXZ.out k hk));have hl8:Le (mk (un Z1 xo2) wr) (mk X w7):=a4s r2 (fun k hk=>a0k (hb3.out k hk)) (fun k hk=>a0k (hXZ.out k hk));have hl9:Le (mk (un (un Z1 xo2) yo2) wr) (mk X w7):=a4s r2 (fun k hk=>a0k (a0k (hb3.out k hk))) (fun k hk=>a0k (a0k (hXZ.out k hk)));refine bodyPost_ret (a0e rfl rfl a3u r1 rfl) rfl (hfin.out w7 _ _ _ _ _ _ _ _ _ _ _ hE7 ⟨_,_,by rw[hXl.out],by rw[hXl.out];exact hXc,hXs.mono RC.mono hl7⟩ ⟨_,_,by rw[hYl.out],by rw[hYl.out];exact hYc,hYs.mono QC.mono hl8⟩ (QC.mono _ _ _ _ hl9 hQ))
end Go.Proofs.YtidbbddagfnfbaaGreat
namespace Go
section
variable {P:Program} {ops:Array Oper} {Q:Exit->Act->World->Prop} {md:Region.Mode} {S:World->Prop} {n:Nat}
theorem a5I {i j l:Nat} {oi oj ol:Oper} {fuel:Nat} {listed:Array Bool} {a:Act} {w:World} (hr:Region.ready md ops listed= [i,j,l]) (hi:ops[i]? =some oi) (hj:ops[j]? =some oj) (hl:ops[l]? =some ol)
  (h1:∀K':Act->World->Prop,Shut (∀a w,S w->(S w->a1O P md ops Q S n fuel (listed.setIfInBounds i true) a w)->K' a w)->if Region.wanted oi (yielded ops a.tmps)=true then Oper.wp P oi a w K' Q else K' (a.put oi.dst undef) w)
  (h2:∀K':Act->World->Prop,Shut (∀a w,S w->(S w->a1O P md ops Q S n fuel (listed.setIfInBounds j true) a w)->K' a w)->if Region.wanted oj (yielded ops a.tmps)=true then Oper.wp P oj a w K' Q else K' (a.put oj.dst undef) w)
  (h3:∀K':Act->World->Prop,Shut (∀a w,S w->(S w->a1O P md ops Q S n fuel (listed.setIfInBounds l true) a w)->K' a w)->if Region.wanted ol (yielded ops a.tmps)=true then Oper.wp P ol a w K' Q else K' (a.put ol.dst undef) w):a1O P md ops Q S n (fuel+1) listed a w:=by
 refine⟨fun h0=>(by rw[hr]at h0;cases h0),fun k hk=>?_⟩;rw[hr]at hk;rcases List.mem_cons.1 hk with rfl|hk
 ·exact wpOp_step hi (fun K' hK=>h1 K' (fun a w hS hW=>hK a w ⟨fun _=>hS,hW hS⟩))
 ·rcases List.mem_cons.1 hk with rfl|hk
  ·exact wpOp_step hj (fun K' hK=>h2 K' (fun a w hS hW=>hK a w ⟨fun _=>hS,hW hS⟩))
  ·obtain rfl:k=l:=by simpa using hk
   exact wpOp_step hl (fun K' hK=>h3 K' (fun a w hS hW=>hK a w ⟨fun _=>hS,hW hS⟩))
end
end Go
namespace Go.Rep
open Go.RowKit Go.Lim
section
variable {α:Type} {R:Mem->Value->α->Prop} {sz e:Nat}
variable {P:Program} {ops:Array Oper} {Q:Exit->Act->World->Prop} {a:Act} {w:World}
theorem a0O {o:Oper} {K:Act->World->Prop} {E:Prop} {t by_:Nat} {z:Value} {x y:Operand} {kl kc:IntKind} {m:Int} (hg:o.guard=none) (hop:o.op= .makeSlice t x y) (T:SliceT P t e sz by_ z) (hR:Elem R sz) (x0:α) (hz:∀h,R h z x0) (X:Nat->Bool) (hX:∀k,X k=true->k<w.heap.size) (base:Nat) (hbase:base<=w.heap.size)
  (n:Nat) (hl:a.eval x= .int kl m) (hc:a.eval y= .int kc m) (hm:m=(n:Int)) (hroom:by_*n<=281474976710656) (hmax:n<=9223372036854775807)
  (hK:∀ao w',OL R sz X base e w' ao n (List.replicate n x0)->Ext w w'->K (a.put o.dst (.slice ao n n)) w'):
  if Region.wanted o (yielded ops a.tmps)=true then Oper.wp P o a w K Q else E:=by
 have hw:Region.wanted o (yielded ops a.tmps)=true:=by simp[Region.wanted,hg]
 rw[if_pos hw];subst hm;obtain⟨ao,w',hr,h2,h3⟩:=OL.run_make (P:=P) T hR x0 hz hX hbase kl kc n hroom hmax;unfold Oper.wp execOp;rw[hop];simp[hl,hc,hr,Result.andThen];exact hK ao w' h2 h3
end
end Go.Rep
namespace Go.Lin
def a6I (x:Mat) (y:List Rat):Bool:=a0G x&&decide (1<=x.length/\x.length<=64/\a0B x<=12/\y.length=x.length)
theorem a2H {x:Mat} {y:List Rat}:a6I x y=true↔a0G x=true/\1<=x.length/\x.length<=64/\a0B x<=12/\y.length=x.length:=by
 unfold a6I;rw[Bool.and_eq_true,decide_eq_true_eq]
theorem b2V {x:Mat} {y:List Rat} (h:¬(1<=x.length/\x.length<=64/\a0B x<=12/\y.length=x.length)):false=a6I x y:=by
 cases hc:a6I x y
 ·rfl
 ·exact absurd (a2H.1 hc).2 h
end Go.Lin
namespace Go.Proofs.YtidbbddagfnfbaaGreat
open Go.RowKit Go.Rep Go.Lim Go.Lin
set_option maxRecDepth 100000 in
set_option maxHeartbeats 3200000 in
theorem a9q (X:Nat->Bool) (w:World) (u v:Value) (x:Mat) (y:List Rat) (hX:HX X w) (hu:MV (mk X w) u x) (hv:RV (mk X w) v y) (hl:x.length<=1099511627776):Calls Tryz.prog 224 #[u,v] w (b1A w (a6I x y)):=by
 cases hf:a0G x
 ·have hno:=a5F X w u x hu hl hf
  have hr:Hid (false=a6I x y):=hid (by unfold a6I;rw[hf];rfl);clear hf;go_enter Tryz.func224,Tryz.ntmps224
  go_wp2_with fail
  refine hno.mono ?_;rintro e w1 ⟨rfl,rfl⟩;clear hno;go_wp2_with fail
  go_ret
  exact⟨ExtX.refl _,a0n hr.out⟩
 ·have hok:=a5G X w u x x.length (a0B x) hX hu hf rfl rfl
  have hyes:Hid (1<=x.length/\x.length<=64/\a0B x<=12/\y.length=x.length->true=a6I x y):=hid fun h=>(a2H.2 ⟨hf,h⟩).symm;have hno:Hid (¬(1<=x.length/\x.length<=64/\a0B x<=12/\y.length=x.length)->false=a6I x y):=hid b2V;have hcol:Hid (∀h:0<x.length,x[0].length=a0B x):=hid fun h=>(a1S h).symm;obtain⟨ua,uc,rfl,huc,hus⟩:=hu;obtain⟨va,vc,rfl,hvc,hvs⟩:=hv;have hhu:=hus.hd;obtain⟨b,hb⟩:∃b,a6I x y=b:=⟨_,rfl⟩;rw[hb]at hyes hno |-;obtain⟨n,hn⟩:∃n,x.length=n:=⟨_,rfl⟩;obtain⟨c,hc⟩:∃c,a0B x=c:=⟨_,rfl⟩;obtain⟨k,hk⟩:∃k,y.length=k:=⟨_,rfl⟩;have hn':=hid hn;rw[hc]at hcol;rw[hn,hc,hk]at hyes hno;rw[hn,hc]at hok;rw[hn]at hhu hl |-;rw[hk]at |-;clear hf hb hn hc hk hvs huc hvc;by_cases h1:1<=n
  ·have h1':(1:Int)<=(n:Int):=by omega
   by_cases h2:n<=64
   ·have h2':(n:Int)<=64:=by omega
    have h0:0<x.length:=by rw[hn'.out];omega
    obtain⟨a1,c1,hX1,hc1,hcl1,hq1⟩:=hus.row 0 h0;have hc0:=hcol.out h0;rw[hc0]at hc1;clear hc0 hq1 hcl1;by_cases h3:c<=12
    ·have h3':(c:Int)<=12:=by omega
     by_cases h4:k=n
     ·have h4':((k:Int)==(n:Int))=true:=a7e (by omega)
      have hr:=hid (hyes.out ⟨h1,h2,h3,h4⟩);clear h2 h3 h4;go_enter Tryz.func224,Tryz.ntmps224
      go_wp2_with fail
      refine hok.mono ?_;rintro e w1 ⟨hE1,tu,rfl,_⟩;clear hok;have k00:=hc1.out noY w1 hE1 rfl;go_wp2_with (with_reducible refine a0t a0r (by omega) (by assumption) ?_)
      go_ret
      exact⟨hE1,a0n hr.out⟩
     ·have h4':((k:Int)==(n:Int))=false:=a2I (by omega)
      have hr:=hid (hno.out fun h=>h4 h.2.2.2);clear h2 h3 h4;go_enter Tryz.func224,Tryz.ntmps224
      go_wp2_with fail
      refine hok.mono ?_;rintro e w1 ⟨hE1,tu,rfl,_⟩;clear hok;have k00:=hc1.out noY w1 hE1 rfl;go_wp2_with (with_reducible refine a0t a0r (by omega) (by assumption) ?_)
      go_ret
      exact⟨hE1,a0n hr.out⟩
    ·have h3':¬(c:Int)<=12:=by omega
     have hr:=hid (hno.out fun h=>h3 h.2.2.1);clear h2 h3;go_enter Tryz.func224,Tryz.ntmps224
     go_wp2_with fail
     refine hok.mono ?_;rintro e w1 ⟨hE1,tu,rfl,_⟩;clear hok;have k00:=hc1.out noY w1 hE1 rfl;go_wp2_with (with_reducible refine a0t a0r (by omega) (by assumption) ?_)
     go_ret
     exact⟨hE1,a0n hr.out⟩
   ·have h2':¬(n:Int)<=64:=by omega
    have hr:=hid (hno.out fun h=>h2 h.2.1);clear h2;go_enter Tryz.func224,Tryz.ntmps224
    go_wp2_with fail
    refine hok.mono ?_;rintro e w1 ⟨hE1,tu,rfl,_⟩;clear hok;go_wp2_with fail
    go_ret
    exact⟨hE1,a0n hr.out⟩
  ·have h1':¬(1:Int)<=(n:Int):=by omega
   have hr:=hid (hno.out fun h=>h1 h.1);clear h1;go_enter Tryz.func224,Tryz.ntmps224
   go_wp2_with fail
   refine hok.mono ?_;rintro e w1 ⟨hE1,tu,rfl,_⟩;clear hok;go_wp2_with fail
   go_ret
   exact⟨hE1,a0n hr.out⟩
set_option maxRecDepth 100000 in
set_option maxHeartbeats 3200000 in
theorem a9r (X:Nat->Bool) (w:World) (u v:Value) (x:Mat) (y:List Rat) (_hX:HX X w) (hu:MV (mk X w) u x) (hv:RV (mk X w) v y) (hl:x.length<=1099511627776):Calls Tryz.prog 84 #[u,v] w (b1A w (a6I x y)):=by
 cases hf:a0G x
 ·have hno:=a3S QV.mono X w u x hu hl
  rw[hf]at hno;have hr:Hid (false=a6I x y):=hid (by unfold a6I;rw[hf];rfl);clear hf;go_enter Tryz.func84,Tryz.ntmps84
  go_wp2_with fail
  refine hno.mono ?_;rintro e w1 ⟨hE1,rfl⟩;clear hno;go_wp2_with fail
  go_ret
  exact⟨hE1,a0n hr.out⟩
 ·have hok:=a3S QV.mono X w u x hu hl
  rw[hf]at hok;have hyes:Hid (1<=x.length/\x.length<=64/\a0B x<=12/\y.length=x.length->true=a6I x y):=hid fun h=>(a2H.2 ⟨hf,h⟩).symm;have hno:Hid (¬(1<=x.length/\x.length<=64/\a0B x<=12/\y.length=x.length)->false=a6I x y):=hid b2V;have hcol:Hid (∀h:0<x.length,x[0].length=a0B x):=hid fun h=>(a1S h).symm;obtain⟨ua,uc,rfl,huc,hus⟩:=hu;obtain⟨va,vc,rfl,hvc,hvs⟩:=hv;have hhu:=hus.hd;obtain⟨b,hb⟩:∃b,a6I x y=b:=⟨_,rfl⟩;rw[hb]at hyes hno |-;obtain⟨n,hn⟩:∃n,x.length=n:=⟨_,rfl⟩;obtain⟨c,hc⟩:∃c,a0B x=c:=⟨_,rfl⟩;obtain⟨k,hk⟩:∃k,y.length=k:=⟨_,rfl⟩;have hn':=hid hn;rw[hc]at hcol;rw[hn,hc,hk]at hyes hno;rw[hn]at hok hhu hl |-;rw[hk]at |-;clear hf hb hn hc hk hvs huc hvc;by_cases h1:1<=n
  ·have h1':(1:Int)<=(n:Int):=by omega
   by_cases h2:n<=64
   ·have h2':(n:Int)<=64:=by omega
    have h0:0<x.length:=by rw[hn'.out];omega
    obtain⟨a1,c1,hX1,hc1,hcl1,hq1⟩:=hus.row 0 h0;have hc0:=hcol.out h0;rw[hc0]at hc1;clear hc0 hq1 hcl1;by_cases h3:c<=12
    ·have h3':(c:Int)<=12:=by omega
     by_cases h4:k=n
     ·have h4':((k:Int)==(n:Int))=true:=a7e (by omega)
      have hr:=hid (hyes.out ⟨h1,h2,h3,h4⟩);clear h2 h3 h4;go_enter Tryz.func84,Tryz.ntmps84
      go_wp2_with fail
      refine hok.mono ?_;rintro e w1 ⟨hE1,rfl⟩;clear hok;have k00:=hc1.out noY w1 hE1 rfl;go_wp2_with (with_reducible refine a0t a0r (by omega) (by assumption) ?_)
      go_ret
      exact⟨hE1,a0n hr.out⟩
     ·have h4':((k:Int)==(n:Int))=false:=a2I (by omega)
      have hr:=hid (hno.out fun h=>h4 h.2.2.2);clear h2 h3 h4;go_enter Tryz.func84,Tryz.ntmps84
      go_wp2_with fail
      refine hok.mono ?_;rintro e w1 ⟨hE1,rfl⟩;clear hok;have k00:=hc1.out noY w1 hE1 rfl;go_wp2_with (with_reducible refine a0t a0r (by omega) (by assumption) ?_)
      go_ret
      exact⟨hE1,a0n hr.out⟩
    ·have h3':¬(c:Int)<=12:=by omega
     have hr:=hid (hno.out fun h=>h3 h.2.2.1);clear h2 h3;go_enter Tryz.func84,Tryz.ntmps84
     go_wp2_with fail
     refine hok.mono ?_;rintro e w1 ⟨hE1,rfl⟩;clear hok;have k00:=hc1.out noY w1 hE1 rfl;go_wp2_with (with_reducible refine a0t a0r (by omega) (by assumption) ?_)
     go_ret
     exact⟨hE1,a0n hr.out⟩
   ·have h2':¬(n:Int)<=64:=by omega
    have hr:=hid (hno.out fun h=>h2 h.2.1);clear h2;go_enter Tryz.func84,Tryz.ntmps84
    go_wp2_with fail
    refine hok.mono ?_;rintro e w1 ⟨hE1,rfl⟩;clear hok;go_wp2_with fail
    go_ret
    exact⟨hE1,a0n hr.out⟩
  ·have h1':¬(1:Int)<=(n:Int):=by omega
   have hr:=hid (hno.out fun h=>h1 h.1);clear h1;go_enter Tryz.func84,Tryz.ntmps84
   go_wp2_with fail
   refine hok.mono ?_;rintro e w1 ⟨hE1,rfl⟩;clear hok;go_wp2_with fail
   go_ret
   exact⟨hE1,a0n hr.out⟩
end Go.Proofs.YtidbbddagfnfbaaGreat
namespace Go.Rep
open Go.RowKit Go.Lim
theorem a0T {α:Type} {R:Mem->Value->α->Prop} {sz base:Nat} {e:TypeId} {Z:Nat->Bool} {w w':World} {ao zo:Option Addr} {cap:Nat} {l:List α} (hR:Elem R sz) (h:OL R sz Z base e w ao cap l) (hE:Ext w w') (hz:∀k,ob zo k=true->w.heap.size<=k):OL R sz (un Z zo) base e w' ao cap l:=
 h.ext hR hE (fun k _ hk=>by simp[noY]at hk) fun k hk hk2=>by
  by_cases h0:Z k=true
  ·exact h0
  ·have:=hz k (by simpa[un,h0]using hk2)
   omega
end Go.Rep
namespace Go.Proofs.YtidbbddagfnfbaaGreat
open Go.RowKit Go.Rep Go.Lim Go.Lin
def b9t (X:Nat->Bool) (w:World) (m:Mom) (e:Ending) (w':World):Prop:=Ext w w'/\∃u,e= .returned (.tuple #[u, .int .i64 0])/\a6v (mk X w') u m
set_option maxRecDepth 100000 in
set_option maxHeartbeats 12800000 in
theorem b0U (X:Nat->Bool) (w:World) (u t:Value) (x:Mat) (y:List Rat) (n c B:Nat) (hX:HX X w) (hu:MV (mk X w) u x) (ht:RV (mk X w) t y) (hok:a6I x y=true) (hnx:x.length=n) (hcx:a0B x=c) (hn:n<=8) (hc:c<=4) (hxB:BM B x) (hyB:BR B y) (hB1:1<=B) (hB:B<=370):
  Calls Tryz.prog 156 #[u,t] w (b9t X w (gmM x y c n)):=by
 obtain⟨W,hW,hE,b0,hz⟩:=a1t w #[.int .i64 0, .slice none 0 0, .slice none 0 0, .bool false, .slice none 0 0, .slice none 0 0] 173;have hXW:HX (a0f X w.heap.size 1) W:=hX.boxes hz;have hle:Hid (∀w',Ext W w'->Le (mk X w) (mk (a0f X w.heap.size 1) w')):=hid fun w' h=>a0o (hE.trans h);obtain⟨b,hb⟩:∃b,w.heap.size=b:=⟨_,rfl⟩;rw[hb]at b0 hz hXW hle;have hbw:w.heap.size<=b:=by omega
 obtain⟨Z0,hZ0⟩:∃Z0,a0f X b 1=Z0:=⟨_,rfl⟩;rw[hZ0]at hXW hle;obtain⟨hf,h1,h64,h12,hyl⟩:=a2H.1 hok;obtain⟨hsh,_,_,hpos,_⟩:=a0Q hf;rw[hnx,hcx]at hsh;rw[hnx]at h1 hyl;have hc1:=hpos (by omega);rw[hcx]at hc1;have hpr:=a9q Z0 W u t x y hXW (MV.mono _ _ _ _ (hle.out W (ExtX.refl _)) hu) (RV.mono _ _ _ _ (hle.out W (ExtX.refl _)) ht) (by omega);rw[hok]at hpr;obtain⟨ua,uc,rfl,huc,hus⟩:=hu;obtain⟨ta,tc,rfl,htc,hts⟩:=ht;have hhu:=hus.hd;have hht:=hts.hd;obtain⟨a0,c0,hX0',hc0,hcl0,hq0⟩:=hus.row 0 (by omega);rw[hsh.2 x[0] (List.getElem_mem _)]at hc0;have hshh:=hid hsh;have hyl':=hid hyl;rw[hnx]at hpr hhu huc |-;rw[hyl]at hpr hht htc |-;clear hf h64 h12 hpos hq0 hcl0 hok hnx hcx hyl hsh;have hI:(0:Int)<=0/\(0:Int)<(n:Int):=by omega
 obtain⟨F,hF⟩:∃F,b9t X w (gmM x y c n)=F:=⟨_,rfl⟩;rw[hF];have hF':=hid hF;clear hF;go_enter Tryz.func156,Tryz.ntmps156
 go_wp2_with fail
 refine hpr.mono ?_;rintro ee w1 ⟨hE1,rfl⟩;have k00:=hc0.out noY w1 (hE.trans hE1) rfl;have hX1:HX Z0 w1:=hXW.ext hE1;clear hpr;go_upto_region 4 with((with_reducible refine a0t a0r (by omega) (by assumption) ?_))
 have hE0:Ext w1 w1.drew:=(ExtX.refl w1).drew;have hX0:HX Z0 w1.drew:=hX1.ext hE0;clear k00
 (try simp only[Act.put])
 go_cut [7]from 20 to 24 (fun bv wx=>∃(g:Nat) (xo yo:Option Addr),bv= .pointer (some ⟨g,0,none⟩)/\Bx wx g #[.int .i64 0, .slice xo c c, .slice yo c c, .bool false, .slice none 0 0, .slice none 0 0] 173/\OL HdR 1 (un (un Z0 (some ⟨g,0,none⟩)) yo) w1.drew.heap.size 24 wx xo c (List.replicate c (none,0,0))/\OL QC 3 (un (un Z0 (some ⟨g,0,none⟩)) xo) w1.drew.heap.size 45 wx yo c (List.replicate c 0)/\w1.heap.size<=g/\g<wx.heap.size/\Ext w1 wx)
 case first=>
  refine a0M 6 (fun _=>True) (by kernel_rfl) (by kernel_rfl) trivial (fun hHeld hOnce=>?_);refine a0a hOnce (i:=0) (oi:=⟨_,_,_,_,_,_⟩) (v:=?_) rfl (by kernel_rfl) (fun _ _ _ h=>h) (by assumption) (by rfl) (fun w hSw=>?_) ?_
  rotate_left
  ·(try dsimp only at hSw)
   go_simp
   all_goals with_reducible rfl
  (try simp only[Act.put,List.setIfInBounds_toArray,List.set_cons_zero,List.set_cons_succ])
  refine a0a hOnce (i:=2) (oi:=⟨_,_,_,_,_,_⟩) (v:=?_) rfl (by kernel_rfl) (fun _ _ _ h=>h) (by assumption) (by rfl) (fun w hSw=>?_) ?_
  rotate_left
  ·(try dsimp only at hSw)
   go_simp
   all_goals with_reducible rfl
  (try simp only[Act.put,List.setIfInBounds_toArray,List.set_cons_zero,List.set_cons_succ])
  refine a5I (i:=1) (j:=3) (l:=5) (oi:=⟨_,_,_,_,_,_⟩) (oj:=⟨_,_,_,_,_,_⟩) (ol:=⟨_,_,_,_,_,_⟩) (by kernel_rfl) rfl rfl rfl (fun K hK=>?_) (fun K hK=>?_) (fun K hK=>?_)
  ·skip
   (refine a0O (R:=HdR) rfl rfl a0r HdR.elem (none,0,0) (fun _=>rfl) Z0 (hX0.ext (ExtX.refl (Y:=noY) w1.drew)) w1.drew.heap.size (Nat.le_refl _) c rfl rfl rfl (by omega) (by omega) ?_;intro xo vA hA eA)
   refine hK.out _ _ trivial (fun hHeld=>?_);clear hK K
   (try simp only[Act.put,List.setIfInBounds_toArray,List.set_cons_zero,List.set_cons_succ])
   have nA:∀q,ob xo q=true->w1.drew.heap.size<=q:=fun q hq=>(hA.block hq).1;have hA:=hA.base_le (b':=w1.drew.heap.size) ((ExtX.refl (Y:=noY) w1.drew)).size;have EA:Ext w1.drew vA:=(ExtX.refl (Y:=noY) w1.drew).trans eA;refine a1D (i:=3) (j:=5) (oi:=⟨_,_,_,_,_,_⟩) (oj:=⟨_,_,_,_,_,_⟩) (by kernel_rfl) rfl rfl (fun K hK=>?_) (fun K hK=>?_)
   ·skip
    (refine a0O (R:=QC) rfl rfl a0D QC.elem (0:Rat) (fun _=>QC.zero _) (un Z0 xo) (a2O (hX0.ext EA) fun q hq=>(hA.block hq).2) vA.heap.size (Nat.le_refl _) c rfl rfl rfl (by omega) (by omega) ?_;intro yo vB hB eB)
    refine hK.out _ _ trivial (fun hHeld=>?_);clear hK K
    (try simp only[Act.put,List.setIfInBounds_toArray,List.set_cons_zero,List.set_cons_succ])
    have nB:∀q,ob yo q=true->vA.heap.size<=q:=fun q hq=>(hB.block hq).1;have hB:=hB.base_le (b':=w1.drew.heap.size) (EA).size;have hA:=a0T HdR.elem hA eB nB;have EB:Ext w1.drew vB:=EA.trans eB;refine a0a hOnce (i:=4) (oi:=⟨_,_,_,_,_,_⟩) (v:=?_) rfl (by kernel_rfl) (fun _ _ _ h=>h) (by assumption) (by rfl) (fun w hSw=>?_) ?_
    rotate_left
    ·(try dsimp only at hSw)
     go_simp
     all_goals with_reducible rfl
    (try simp only[Act.put,List.setIfInBounds_toArray,List.set_cons_zero,List.set_cons_succ])
    refine a0m (i:=5) (o:=⟨_,_,_,_,_,_⟩) (by kernel_rfl) rfl (fun K hK=>?_);go_simp
    skip
    refine hK.out _ _ trivial (fun hHeld=>?_);clear hK K
    (try simp only[Act.put,List.setIfInBounds_toArray,List.set_cons_zero,List.set_cons_succ])
    have eG:Ext vB (vB.alloc (.cells #[.int .i64 0, .slice none 0 0, .slice none 0 0, .bool false, .slice none 0 0, .slice none 0 0] 173)):=(ExtX.refl _).alloc _;have bG:Bx (vB.alloc (.cells #[.int .i64 0, .slice none 0 0, .slice none 0 0, .bool false, .slice none 0 0, .slice none 0 0] 173)) vB.heap.size #[.int .i64 0, .slice none 0 0, .slice none 0 0, .bool false, .slice none 0 0, .slice none 0 0] 173:=Bx.new vB _ _;have zG:(vB.alloc (.cells #[.int .i64 0, .slice none 0 0, .slice none 0 0, .bool false, .slice none 0 0, .slice none 0 0] 173)).heap.size=vB.heap.size+1:=by simp
    obtain⟨vG,hvG⟩:∃vG,vB.alloc (.cells #[.int .i64 0, .slice none 0 0, .slice none 0 0, .bool false, .slice none 0 0, .slice none 0 0] 173)=vG:=⟨_,rfl⟩;rw[hvG]at eG bG zG |-;obtain⟨gA,hgA⟩:∃gA,vB.heap.size=gA:=⟨_,rfl⟩;have hgu:vB.heap.size<=gA:=by rw[<-hgA];exact Nat.le_refl _
    rw[hgA]at bG zG |-;have glA:gA<vG.heap.size:=by omega
    have nG:∀q,ob (some ⟨gA,0,none⟩) q=true->vB.heap.size<=q:=fun q hq=>(by simpa[ob]using hq:gA=q)▸hgu;have hgw:w1.heap.size<=gA:=Nat.le_trans (EB).size hgu;have hA:=a0T HdR.elem hA eG nG;have hB:=a0T QC.elem hB eG nG;have EG:Ext w1.drew vG:=EB.trans eG;refine a0s (i:=6) (o:=⟨_,_,_,_,_,_⟩) (by kernel_rfl) rfl (by decide) (by kernel_rfl) (fun K hK=>?_)
    (refine a0z rfl rfl a3u rfl rfl bG rfl rfl (by intro v hv;simp at hv;rcases hv with rfl|rfl|rfl|rfl|rfl|rfl<;>rfl) ?_;intro w9 y1 y2)
    refine hK.out _ _ ?_;clear hK K
    (try simp only[Act.put])
    have hA9:OL HdR 1 (un (un Z0 (some ⟨gA,0,none⟩)) yo) w1.drew.heap.size 24 w9 xo c (List.replicate c (none,0,0)):=by
     have h:=hA.ext HdR.elem (Z:=un (un Z0 yo) (some ⟨gA,0,none⟩)) y2 (fun q _ hq=>by simp[un,hq]) (fun _ _ h=>h)
     first|exact h|(rw[a0U]at h;exact h)
    have hB9:OL QC 3 (un (un Z0 (some ⟨gA,0,none⟩)) xo) w1.drew.heap.size 45 w9 yo c (List.replicate c 0):=by
     have h:=hB.ext QC.elem (Z:=un (un Z0 xo) (some ⟨gA,0,none⟩)) y2 (fun q _ hq=>by simp[un,hq]) (fun _ _ h=>h)
     first|exact h|(rw[a0U]at h;exact h)
    have hE9:Ext w1 w9:=ExtX.box (hE0.trans EG) y2 hgw;have hlt9:=Nat.lt_of_lt_of_le glA y2.size;go_wp2_with fail
    go_meet
    case rel=>exact⟨gA,xo,yo,rfl,y1,hA9,hB9,hgw,hlt9,hE9⟩
   ·skip
    go_simp
    skip
    refine hK.out _ _ trivial (fun hHeld=>?_);clear hK K
    (try simp only[Act.put,List.setIfInBounds_toArray,List.set_cons_zero,List.set_cons_succ])
    have eG:Ext vA (vA.alloc (.cells #[.int .i64 0, .slice none 0 0, .slice none 0 0, .bool false, .slice none 0 0, .slice none 0 0] 173)):=(ExtX.refl _).alloc _;have bG:Bx (vA.alloc (.cells #[.int .i64 0, .slice none 0 0, .slice none 0 0, .bool false, .slice none 0 0, .slice none 0 0] 173)) vA.heap.size #[.int .i64 0, .slice none 0 0, .slice none 0 0, .bool false, .slice none 0 0, .slice none 0 0] 173:=Bx.new vA _ _;have zG:(vA.alloc (.cells #[.int .i64 0, .slice none 0 0, .slice none 0 0, .bool false, .slice none 0 0, .slice none 0 0] 173)).heap.size=vA.heap.size+1:=by simp
    obtain⟨vG,hvG⟩:∃vG,vA.alloc (.cells #[.int .i64 0, .slice none 0 0, .slice none 0 0, .bool false, .slice none 0 0, .slice none 0 0] 173)=vG:=⟨_,rfl⟩;rw[hvG]at eG bG zG |-;obtain⟨gA,hgA⟩:∃gA,vA.heap.size=gA:=⟨_,rfl⟩;have hgu:vA.heap.size<=gA:=by rw[<-hgA];exact Nat.le_refl _
    rw[hgA]at bG zG |-;have glA:gA<vG.heap.size:=by omega
    have nG:∀q,ob (some ⟨gA,0,none⟩) q=true->vA.heap.size<=q:=fun q hq=>(by simpa[ob]using hq:gA=q)▸hgu;have hgw:w1.heap.size<=gA:=Nat.le_trans (EA).size hgu;have hA:=a0T HdR.elem hA eG nG;have EG:Ext w1.drew vG:=EA.trans eG;refine a0m (i:=3) (o:=⟨_,_,_,_,_,_⟩) (by kernel_rfl) rfl (fun K hK=>?_)
    (refine a0O (R:=QC) rfl rfl a0D QC.elem (0:Rat) (fun _=>QC.zero _) (un (un Z0 xo) (some ⟨gA,0,none⟩)) (a1c (a2O (hX0.ext EG) fun q hq=>(hA.block hq).2) glA) vG.heap.size (Nat.le_refl _) c rfl rfl rfl (by omega) (by omega) ?_;intro yo vB hB eB)
    refine hK.out _ _ trivial (fun hHeld=>?_);clear hK K
    (try simp only[Act.put,List.setIfInBounds_toArray,List.set_cons_zero,List.set_cons_succ])
    have nB:∀q,ob yo q=true->vG.heap.size<=q:=fun q hq=>(hB.block hq).1;have hB:=hB.base_le (b':=w1.drew.heap.size) (EG).size;have hA:=a0T HdR.elem hA eB nB;have bG:=bG.ext0 eB;have glA:=Nat.lt_of_lt_of_le glA eB.size;have EB:Ext w1.drew vB:=EG.trans eB;refine a0a hOnce (i:=4) (oi:=⟨_,_,_,_,_,_⟩) (v:=?_) rfl (by kernel_rfl) (fun _ _ _ h=>h) (by assumption) (by rfl) (fun w hSw=>?_) ?_
    rotate_left
    ·(try dsimp only at hSw)
     go_simp
     all_goals with_reducible rfl
    (try simp only[Act.put,List.setIfInBounds_toArray,List.set_cons_zero,List.set_cons_succ])
    refine a0s (i:=6) (o:=⟨_,_,_,_,_,_⟩) (by kernel_rfl) rfl (by decide) (by kernel_rfl) (fun K hK=>?_)
    (refine a0z rfl rfl a3u rfl rfl bG rfl rfl (by intro v hv;simp at hv;rcases hv with rfl|rfl|rfl|rfl|rfl|rfl<;>rfl) ?_;intro w9 y1 y2)
    refine hK.out _ _ ?_;clear hK K
    (try simp only[Act.put])
    have hA9:OL HdR 1 (un (un Z0 (some ⟨gA,0,none⟩)) yo) w1.drew.heap.size 24 w9 xo c (List.replicate c (none,0,0)):=by
     have h:=hA.ext HdR.elem (Z:=un (un Z0 (some ⟨gA,0,none⟩)) yo) y2 (fun q _ hq=>by simp[un,hq]) (fun _ _ h=>h)
     first|exact h|(rw[a0U]at h;exact h)
    have hB9:OL QC 3 (un (un Z0 (some ⟨gA,0,none⟩)) xo) w1.drew.heap.size 45 w9 yo c (List.replicate c 0):=by
     have h:=hB.ext QC.elem (Z:=un (un Z0 xo) (some ⟨gA,0,none⟩)) y2 (fun q _ hq=>by simp[un,hq]) (fun _ _ h=>h)
     first|exact h|(rw[a0U]at h;exact h)
    have hE9:Ext w1 w9:=ExtX.box (hE0.trans EB) y2 hgw;have hlt9:=Nat.lt_of_lt_of_le glA y2.size;go_wp2_with fail
    go_meet
    case rel=>exact⟨gA,xo,yo,rfl,y1,hA9,hB9,hgw,hlt9,hE9⟩
  ·skip
   (refine a0O (R:=QC) rfl rfl a0D QC.elem (0:Rat) (fun _=>QC.zero _) Z0 (hX0.ext (ExtX.refl (Y:=noY) w1.drew)) w1.drew.heap.size (Nat.le_refl _) c rfl rfl rfl (by omega) (by omega) ?_;intro yo vB hB eB)
   refine hK.out _ _ trivial (fun hHeld=>?_);clear hK K
   (try simp only[Act.put,List.setIfInBounds_toArray,List.set_cons_zero,List.set_cons_succ])
   have nB:∀q,ob yo q=true->w1.drew.heap.size<=q:=fun q hq=>(hB.block hq).1;have hB:=hB.base_le (b':=w1.drew.heap.size) ((ExtX.refl (Y:=noY) w1.drew)).size;have EB:Ext w1.drew vB:=(ExtX.refl (Y:=noY) w1.drew).trans eB;refine a1D (i:=1) (j:=5) (oi:=⟨_,_,_,_,_,_⟩) (oj:=⟨_,_,_,_,_,_⟩) (by kernel_rfl) rfl rfl (fun K hK=>?_) (fun K hK=>?_)
   ·skip
    (refine a0O (R:=HdR) rfl rfl a0r HdR.elem (none,0,0) (fun _=>rfl) (un Z0 yo) (a2O (hX0.ext EB) fun q hq=>(hB.block hq).2) vB.heap.size (Nat.le_refl _) c rfl rfl rfl (by omega) (by omega) ?_;intro xo vA hA eA)
    refine hK.out _ _ trivial (fun hHeld=>?_);clear hK K
    (try simp only[Act.put,List.setIfInBounds_toArray,List.set_cons_zero,List.set_cons_succ])
    have nA:∀q,ob xo q=true->vB.heap.size<=q:=fun q hq=>(hA.block hq).1;have hA:=hA.base_le (b':=w1.drew.heap.size) (EB).size;have hB:=a0T QC.elem hB eA nA;have EA:Ext w1.drew vA:=EB.trans eA;refine a0a hOnce (i:=4) (oi:=⟨_,_,_,_,_,_⟩) (v:=?_) rfl (by kernel_rfl) (fun _ _ _ h=>h) (by assumption) (by rfl) (fun w hSw=>?_) ?_
    rotate_left
    ·(try dsimp only at hSw)
     go_simp
     all_goals with_reducible rfl
    (try simp only[Act.put,List.setIfInBounds_toArray,List.set_cons_zero,List.set_cons_succ])
    refine a0m (i:=5) (o:=⟨_,_,_,_,_,_⟩) (by kernel_rfl) rfl (fun K hK=>?_);go_simp
    skip
    refine hK.out _ _ trivial (fun hHeld=>?_);clear hK K
    (try simp only[Act.put,List.setIfInBounds_toArray,List.set_cons_zero,List.set_cons_succ])
    have eG:Ext vA (vA.alloc (.cells #[.int .i64 0, .slice none 0 0, .slice none 0 0, .bool false, .slice none 0 0, .slice none 0 0] 173)):=(ExtX.refl _).alloc _;have bG:Bx (vA.alloc (.cells #[.int .i64 0, .slice none 0 0, .slice none 0 0, .bool false, .slice none 0 0, .slice none 0 0] 173)) vA.heap.size #[.int .i64 0, .slice none 0 0, .slice none 0 0, .bool false, .slice none 0 0, .slice none 0 0] 173:=Bx.new vA _ _;have zG:(vA.alloc (.cells #[.int .i64 0, .slice none 0 0, .slice none 0 0, .bool false, .slice none 0 0, .slice none 0 0] 173)).heap.size=vA.heap.size+1:=by simp
    obtain⟨vG,hvG⟩:∃vG,vA.alloc (.cells #[.int .i64 0, .slice none 0 0, .slice none 0 0, .bool false, .slice none 0 0, .slice none 0 0] 173)=vG:=⟨_,rfl⟩;rw[hvG]at eG bG zG |-;obtain⟨gA,hgA⟩:∃gA,vA.heap.size=gA:=⟨_,rfl⟩;have hgu:vA.heap.size<=gA:=by rw[<-hgA];exact Nat.le_refl _
    rw[hgA]at bG zG |-;have glA:gA<vG.heap.size:=by omega
    have nG:∀q,ob (some ⟨gA,0,none⟩) q=true->vA.heap.size<=q:=fun q hq=>(by simpa[ob]using hq:gA=q)▸hgu;have hgw:w1.heap.size<=gA:=Nat.le_trans (EA).size hgu;have hB:=a0T QC.elem hB eG nG;have hA:=a0T HdR.elem hA eG nG;have EG:Ext w1.drew vG:=EA.trans eG;refine a0s (i:=6) (o:=⟨_,_,_,_,_,_⟩) (by kernel_rfl) rfl (by decide) (by kernel_rfl) (fun K hK=>?_)
    (refine a0z rfl rfl a3u rfl rfl bG rfl rfl (by intro v hv;simp at hv;rcases hv with rfl|rfl|rfl|rfl|rfl|rfl<;>rfl) ?_;intro w9 y1 y2)
    refine hK.out _ _ ?_;clear hK K
    (try simp only[Act.put])
    have hA9:OL HdR 1 (un (un Z0 (some ⟨gA,0,none⟩)) yo) w1.drew.heap.size 24 w9 xo c (List.replicate c (none,0,0)):=by
     have h:=hA.ext HdR.elem (Z:=un (un Z0 yo) (some ⟨gA,0,none⟩)) y2 (fun q _ hq=>by simp[un,hq]) (fun _ _ h=>h)
     first|exact h|(rw[a0U]at h;exact h)
    have hB9:OL QC 3 (un (un Z0 (some ⟨gA,0,none⟩)) xo) w1.drew.heap.size 45 w9 yo c (List.replicate c 0):=by
     have h:=hB.ext QC.elem (Z:=un (un Z0 xo) (some ⟨gA,0,none⟩)) y2 (fun q _ hq=>by simp[un,hq]) (fun _ _ h=>h)
     first|exact h|(rw[a0U]at h;exact h)
    have hE9:Ext w1 w9:=ExtX.box (hE0.trans EG) y2 hgw;have hlt9:=Nat.lt_of_lt_of_le glA y2.size;go_wp2_with fail
    go_meet
    case rel=>exact⟨gA,xo,yo,rfl,y1,hA9,hB9,hgw,hlt9,hE9⟩
   ·skip
    go_simp
    skip
    refine hK.out _ _ trivial (fun hHeld=>?_);clear hK K
    (try simp only[Act.put,List.setIfInBounds_toArray,List.set_cons_zero,List.set_cons_succ])
    have eG:Ext vB (vB.alloc (.cells #[.int .i64 0, .slice none 0 0, .slice none 0 0, .bool false, .slice none 0 0, .slice none 0 0] 173)):=(ExtX.refl _).alloc _;have bG:Bx (vB.alloc (.cells #[.int .i64 0, .slice none 0 0, .slice none 0 0, .bool false, .slice none 0 0, .slice none 0 0] 173)) vB.heap.size #[.int .i64 0, .slice none 0 0, .slice none 0 0, .bool false, .slice none 0 0, .slice none 0 0] 173:=Bx.new vB _ _;have zG:(vB.alloc (.cells #[.int .i64 0, .slice none 0 0, .slice none 0 0, .bool false, .slice none 0 0, .slice none 0 0] 173)).heap.size=vB.heap.size+1:=by simp
    obtain⟨vG,hvG⟩:∃vG,vB.alloc (.cells #[.int .i64 0, .slice none 0 0, .slice none 0 0, .bool false, .slice none 0 0, .slice none 0 0] 173)=vG:=⟨_,rfl⟩;rw[hvG]at eG bG zG |-;obtain⟨gA,hgA⟩:∃gA,vB.heap.size=gA:=⟨_,rfl⟩;have hgu:vB.heap.size<=gA:=by rw[<-hgA];exact Nat.le_refl _
    rw[hgA]at bG zG |-;have glA:gA<vG.heap.size:=by omega
    have nG:∀q,ob (some ⟨gA,0,none⟩) q=true->vB.heap.size<=q:=fun q hq=>(by simpa[ob]using hq:gA=q)▸hgu;have hgw:w1.heap.size<=gA:=Nat.le_trans (EB).size hgu;have hB:=a0T QC.elem hB eG nG;have EG:Ext w1.drew vG:=EB.trans eG;refine a0m (i:=1) (o:=⟨_,_,_,_,_,_⟩) (by kernel_rfl) rfl (fun K hK=>?_)
    (refine a0O (R:=HdR) rfl rfl a0r HdR.elem (none,0,0) (fun _=>rfl) (un (un Z0 yo) (some ⟨gA,0,none⟩)) (a1c (a2O (hX0.ext EG) fun q hq=>(hB.block hq).2) glA) vG.heap.size (Nat.le_refl _) c rfl rfl rfl (by omega) (by omega) ?_;intro xo vA hA eA)
    refine hK.out _ _ trivial (fun hHeld=>?_);clear hK K
    (try simp only[Act.put,List.setIfInBounds_toArray,List.set_cons_zero,List.set_cons_succ])
    have nA:∀q,ob xo q=true->vG.heap.size<=q:=fun q hq=>(hA.block hq).1;have hA:=hA.base_le (b':=w1.drew.heap.size) (EG).size;have hB:=a0T QC.elem hB eA nA;have bG:=bG.ext0 eA;have glA:=Nat.lt_of_lt_of_le glA eA.size;have EA:Ext w1.drew vA:=EG.trans eA;refine a0a hOnce (i:=4) (oi:=⟨_,_,_,_,_,_⟩) (v:=?_) rfl (by kernel_rfl) (fun _ _ _ h=>h) (by assumption) (by rfl) (fun w hSw=>?_) ?_
    rotate_left
    ·(try dsimp only at hSw)
     go_simp
     all_goals with_reducible rfl
    (try simp only[Act.put,List.setIfInBounds_toArray,List.set_cons_zero,List.set_cons_succ])
    refine a0s (i:=6) (o:=⟨_,_,_,_,_,_⟩) (by kernel_rfl) rfl (by decide) (by kernel_rfl) (fun K hK=>?_)
    (refine a0z rfl rfl a3u rfl rfl bG rfl rfl (by intro v hv;simp at hv;rcases hv with rfl|rfl|rfl|rfl|rfl|rfl<;>rfl) ?_;intro w9 y1 y2)
    refine hK.out _ _ ?_;clear hK K
    (try simp only[Act.put])
    have hA9:OL HdR 1 (un (un Z0 (some ⟨gA,0,none⟩)) yo) w1.drew.heap.size 24 w9 xo c (List.replicate c (none,0,0)):=by
     have h:=hA.ext HdR.elem (Z:=un (un Z0 yo) (some ⟨gA,0,none⟩)) y2 (fun q _ hq=>by simp[un,hq]) (fun _ _ h=>h)
     first|exact h|(rw[a0U]at h;exact h)
    have hB9:OL QC 3 (un (un Z0 (some ⟨gA,0,none⟩)) xo) w1.drew.heap.size 45 w9 yo c (List.replicate c 0):=by
     have h:=hB.ext QC.elem (Z:=un (un Z0 (some ⟨gA,0,none⟩)) xo) y2 (fun q _ hq=>by simp[un,hq]) (fun _ _ h=>h)
     first|exact h|(rw[a0U]at h;exact h)
    have hE9:Ext w1 w9:=ExtX.box (hE0.trans EA) y2 hgw;have hlt9:=Nat.lt_of_lt_of_le glA y2.size;go_wp2_with fail
    go_meet
    case rel=>exact⟨gA,xo,yo,rfl,y1,hA9,hB9,hgw,hlt9,hE9⟩
  ·skip
   go_simp
   skip
   refine hK.out _ _ trivial (fun hHeld=>?_);clear hK K
   (try simp only[Act.put,List.setIfInBounds_toArray,List.set_cons_zero,List.set_cons_succ])
   have eG:Ext w1.drew (w1.alloc (.cells #[.int .i64 0, .slice none 0 0, .slice none 0 0, .bool false, .slice none 0 0, .slice none 0 0] 173)).drew:=⟨rfl,rfl,rfl,((ExtX.refl (Y:=noY) w1).alloc _).size,((ExtX.refl (Y:=noY) w1).alloc _).block⟩;have bG:Bx (w1.alloc (.cells #[.int .i64 0, .slice none 0 0, .slice none 0 0, .bool false, .slice none 0 0, .slice none 0 0] 173)).drew w1.heap.size #[.int .i64 0, .slice none 0 0, .slice none 0 0, .bool false, .slice none 0 0, .slice none 0 0] 173:=Bx.new w1 _ _;have zG:(w1.alloc (.cells #[.int .i64 0, .slice none 0 0, .slice none 0 0, .bool false, .slice none 0 0, .slice none 0 0] 173)).drew.heap.size=w1.heap.size+1:=by show(w1.alloc _).heap.size=_;simp
   obtain⟨vG,hvG⟩:∃vG,(w1.alloc (.cells #[.int .i64 0, .slice none 0 0, .slice none 0 0, .bool false, .slice none 0 0, .slice none 0 0] 173)).drew=vG:=⟨_,rfl⟩;rw[hvG]at eG bG zG |-;obtain⟨gA,hgA⟩:∃gA,w1.heap.size=gA:=⟨_,rfl⟩;have hgu:w1.drew.heap.size<=gA:=by rw[<-hgA];exact Nat.le_refl _
   rw[hgA]at bG zG |-;have glA:gA<vG.heap.size:=by omega
   have nG:∀q,ob (some ⟨gA,0,none⟩) q=true->w1.drew.heap.size<=q:=fun q hq=>(by simpa[ob]using hq:gA=q)▸hgu;have hgw:w1.heap.size<=gA:=Nat.le_trans ((ExtX.refl (Y:=noY) w1.drew)).size hgu;have EG:Ext w1.drew vG:=(ExtX.refl (Y:=noY) w1.drew).trans eG;refine a1D (i:=1) (j:=3) (oi:=⟨_,_,_,_,_,_⟩) (oj:=⟨_,_,_,_,_,_⟩) (by kernel_rfl) rfl rfl (fun K hK=>?_) (fun K hK=>?_)
   ·skip
    (refine a0O (R:=HdR) rfl rfl a0r HdR.elem (none,0,0) (fun _=>rfl) (un Z0 (some ⟨gA,0,none⟩)) (a1c (hX0.ext EG) glA) vG.heap.size (Nat.le_refl _) c rfl rfl rfl (by omega) (by omega) ?_;intro xo vA hA eA)
    refine hK.out _ _ trivial (fun hHeld=>?_);clear hK K
    (try simp only[Act.put,List.setIfInBounds_toArray,List.set_cons_zero,List.set_cons_succ])
    have nA:∀q,ob xo q=true->vG.heap.size<=q:=fun q hq=>(hA.block hq).1;have hA:=hA.base_le (b':=w1.drew.heap.size) (EG).size;have bG:=bG.ext0 eA;have glA:=Nat.lt_of_lt_of_le glA eA.size;have EA:Ext w1.drew vA:=EG.trans eA;refine a0m (i:=3) (o:=⟨_,_,_,_,_,_⟩) (by kernel_rfl) rfl (fun K hK=>?_)
    (refine a0O (R:=QC) rfl rfl a0D QC.elem (0:Rat) (fun _=>QC.zero _) (un (un Z0 (some ⟨gA,0,none⟩)) xo) (a2O (a1c (hX0.ext EA) glA) fun q hq=>(hA.block hq).2) vA.heap.size (Nat.le_refl _) c rfl rfl rfl (by omega) (by omega) ?_;intro yo vB hB eB)
    refine hK.out _ _ trivial (fun hHeld=>?_);clear hK K
    (try simp only[Act.put,List.setIfInBounds_toArray,List.set_cons_zero,List.set_cons_succ])
    have nB:∀q,ob yo q=true->vA.heap.size<=q:=fun q hq=>(hB.block hq).1;have hB:=hB.base_le (b':=w1.drew.heap.size) (EA).size;have bG:=bG.ext0 eB;have glA:=Nat.lt_of_lt_of_le glA eB.size;have hA:=a0T HdR.elem hA eB nB;have EB:Ext w1.drew vB:=EA.trans eB;refine a0a hOnce (i:=4) (oi:=⟨_,_,_,_,_,_⟩) (v:=?_) rfl (by kernel_rfl) (fun _ _ _ h=>h) (by assumption) (by rfl) (fun w hSw=>?_) ?_
    rotate_left
    ·(try dsimp only at hSw)
     go_simp
     all_goals with_reducible rfl
    (try simp only[Act.put,List.setIfInBounds_toArray,List.set_cons_zero,List.set_cons_succ])
    refine a0s (i:=6) (o:=⟨_,_,_,_,_,_⟩) (by kernel_rfl) rfl (by decide) (by kernel_rfl) (fun K hK=>?_)
    (refine a0z rfl rfl a3u rfl rfl bG rfl rfl (by intro v hv;simp at hv;rcases hv with rfl|rfl|rfl|rfl|rfl|rfl<;>rfl) ?_;intro w9 y1 y2)
    refine hK.out _ _ ?_;clear hK K
    (try simp only[Act.put])
    have hA9:OL HdR 1 (un (un Z0 (some ⟨gA,0,none⟩)) yo) w1.drew.heap.size 24 w9 xo c (List.replicate c (none,0,0)):=by
     have h:=hA.ext HdR.elem (Z:=un (un Z0 (some ⟨gA,0,none⟩)) yo) y2 (fun q _ hq=>by simp[un,hq]) (fun _ _ h=>h)
     first|exact h|(rw[a0U]at h;exact h)
    have hB9:OL QC 3 (un (un Z0 (some ⟨gA,0,none⟩)) xo) w1.drew.heap.size 45 w9 yo c (List.replicate c 0):=by
     have h:=hB.ext QC.elem (Z:=un (un Z0 (some ⟨gA,0,none⟩)) xo) y2 (fun q _ hq=>by simp[un,hq]) (fun _ _ h=>h)
     first|exact h|(rw[a0U]at h;exact h)
    have hE9:Ext w1 w9:=ExtX.box (hE0.trans EB) y2 hgw;have hlt9:=Nat.lt_of_lt_of_le glA y2.size;go_wp2_with fail
    go_meet
    case rel=>exact⟨gA,xo,yo,rfl,y1,hA9,hB9,hgw,hlt9,hE9⟩
   ·skip
    (refine a0O (R:=QC) rfl rfl a0D QC.elem (0:Rat) (fun _=>QC.zero _) (un Z0 (some ⟨gA,0,none⟩)) (a1c (hX0.ext EG) glA) vG.heap.size (Nat.le_refl _) c rfl rfl rfl (by omega) (by omega) ?_;intro yo vB hB eB)
    refine hK.out _ _ trivial (fun hHeld=>?_);clear hK K
    (try simp only[Act.put,List.setIfInBounds_toArray,List.set_cons_zero,List.set_cons_succ])
    have nB:∀q,ob yo q=true->vG.heap.size<=q:=fun q hq=>(hB.block hq).1;have hB:=hB.base_le (b':=w1.drew.heap.size) (EG).size;have bG:=bG.ext0 eB;have glA:=Nat.lt_of_lt_of_le glA eB.size;have EB:Ext w1.drew vB:=EG.trans eB;refine a0m (i:=1) (o:=⟨_,_,_,_,_,_⟩) (by kernel_rfl) rfl (fun K hK=>?_)
    (refine a0O (R:=HdR) rfl rfl a0r HdR.elem (none,0,0) (fun _=>rfl) (un (un Z0 (some ⟨gA,0,none⟩)) yo) (a2O (a1c (hX0.ext EB) glA) fun q hq=>(hB.block hq).2) vB.heap.size (Nat.le_refl _) c rfl rfl rfl (by omega) (by omega) ?_;intro xo vA hA eA)
    refine hK.out _ _ trivial (fun hHeld=>?_);clear hK K
    (try simp only[Act.put,List.setIfInBounds_toArray,List.set_cons_zero,List.set_cons_succ])
    have nA:∀q,ob xo q=true->vB.heap.size<=q:=fun q hq=>(hA.block hq).1;have hA:=hA.base_le (b':=w1.drew.heap.size) (EB).size;have bG:=bG.ext0 eA;have glA:=Nat.lt_of_lt_of_le glA eA.size;have hB:=a0T QC.elem hB eA nA;have EA:Ext w1.drew vA:=EB.trans eA;refine a0a hOnce (i:=4) (oi:=⟨_,_,_,_,_,_⟩) (v:=?_) rfl (by kernel_rfl) (fun _ _ _ h=>h) (by assumption) (by rfl) (fun w hSw=>?_) ?_
    rotate_left
    ·(try dsimp only at hSw)
     go_simp
     all_goals with_reducible rfl
    (try simp only[Act.put,List.setIfInBounds_toArray,List.set_cons_zero,List.set_cons_succ])
    refine a0s (i:=6) (o:=⟨_,_,_,_,_,_⟩) (by kernel_rfl) rfl (by decide) (by kernel_rfl) (fun K hK=>?_)
    (refine a0z rfl rfl a3u rfl rfl bG rfl rfl (by intro v hv;simp at hv;rcases hv with rfl|rfl|rfl|rfl|rfl|rfl<;>rfl) ?_;intro w9 y1 y2)
    refine hK.out _ _ ?_;clear hK K
    (try simp only[Act.put])
    have hA9:OL HdR 1 (un (un Z0 (some ⟨gA,0,none⟩)) yo) w1.drew.heap.size 24 w9 xo c (List.replicate c (none,0,0)):=by
     have h:=hA.ext HdR.elem (Z:=un (un Z0 (some ⟨gA,0,none⟩)) yo) y2 (fun q _ hq=>by simp[un,hq]) (fun _ _ h=>h)
     first|exact h|(rw[a0U]at h;exact h)
    have hB9:OL QC 3 (un (un Z0 (some ⟨gA,0,none⟩)) xo) w1.drew.heap.size 45 w9 yo c (List.replicate c 0):=by
     have h:=hB.ext QC.elem (Z:=un (un Z0 (some ⟨gA,0,none⟩)) xo) y2 (fun q _ hq=>by simp[un,hq]) (fun _ _ h=>h)
     first|exact h|(rw[a0U]at h;exact h)
    have hE9:Ext w1 w9:=ExtX.box (hE0.trans EA) y2 hgw;have hlt9:=Nat.lt_of_lt_of_le glA y2.size;go_wp2_with fail
    go_meet
    case rel=>exact⟨gA,xo,yo,rfl,y1,hA9,hB9,hgw,hlt9,hE9⟩
 case rest=>
  obtain⟨g,xo,yo,rfl,bg,hA,hB2,hgw,hglt,hEc⟩:=hcut;obtain⟨Z1,hZ1⟩:∃Z1,un Z0 (some ⟨g,0,none⟩)=Z1:=⟨_,rfl⟩;rw[hZ1]at hA hB2;have hgZ:∀k,ob (some ⟨g,0,none⟩) k=true->Z1 k=true:=fun k hk=>by rw[<-hZ1];exact a0q hk
  have hgg:Z1 g=true:=hgZ g (by simp[ob]);have hZ10:Hid (∀k,k<w1.heap.size->Z1 k=true->Z0 k=true):=hid fun k hk h=>by
   rw[<-hZ1]at h;by_cases h0:Z0 k=true
   ·exact h0
   ·have:g=k:=by simpa[un,h0,ob]using h
    omega
  have hXZ:Hid (∀k,X k=true->Z1 k=true):=hid fun k hk=>by
   rw[<-hZ1,<-hZ0];exact a0k (by simp[a0f,hk])
  have hb3:Hid (∀k,ob (some ⟨b,0,none⟩) k=true->Z1 k=true):=hid fun k hk=>by
   have hk2:b=k:=by simpa[ob]using hk
   rw[<-hZ1,<-hZ0];exact a0k (a5j (by omega) (by omega))
  have hX1c:HX Z1 wc:=fun k hk=>by
   rw[<-hZ1]at hk;by_cases h0:Z0 k=true
   ·exact hX1.ext hEc k h0
   ·have:g=k:=by simpa[un,h0,ob]using hk
    omega
  have hM1:=MO.start hA 45;have hhx:Hd xo c:=by have:=hA.hd;rwa[List.length_replicate]at this
  have h0:List.replicate c ([]:List Rat)=(List.range c).map fun q=>if q<0 then List.replicate c 0 else[]:=(a8o c _ _).symm
  rw[h0]at hM1;have oxg:ob xo g=false:=by
   cases hq:ob xo g
   ·rfl
   ·have:=(a1q (hA.1 g hq)).1;rw[hgg]at this;cases this
  have oyg:ob yo g=false:=by
   cases hq:ob yo g
   ·rfl
   ·have:=(a1q (hB2.1 g hq)).1;rw[hgg]at this;cases this
  have hXy:HX (un Z1 yo) wc:=a2O hX1c fun q hq=>(hB2.block hq).2;have hfin:Hid (∀w' cs,Ext w w'->a6v (mk X w') (.agg cs) (gmM x y c n)->F (.returned (.tuple #[.agg cs, .int .i64 0])) w'):=hid fun w' cs h1 h2=>by
   rw[<-hF'.out];exact⟨h1,_,rfl,h2⟩
  have hE03:Ext w w1:=hE.trans hE1;have hbase:w1.drew.heap.size=w1.heap.size:=rfl;rw[hbase]at hM1 hB2 hA;have hlxy:Hid (∀wr,Ext w1 wr->Le (mk X w) (mk Z1 wr)):=hid fun wr h=>by
   have h2:=b4N (Z:=Z1) (h) (X:=Z0) fun k hk hz=>hZ10.out k hk hz;exact fun A U hh=>h2 A U (hle.out w1 hE1 A U hh)
  clear h0 hA hF' hZ1 hZ0 hX0 hE0 hbase;have g1:=bg.cell 1 rfl;go_wp2_with fail
  go_loopw [28] (fun k wr=>∃(i:Nat) (hs:List Hdr),k= .int .i64 i/\i<=c/\Hid (∀q (hq:q<hs.length),i<=q->hs[q].1=none)/\MO (un Z1 yo) w1.heap.size 24 45 wr xo c hs ((List.range c).map fun q=>if q<i then List.replicate c 0 else[])/\ExtX (ob xo) wc wr/\Ext w1 wr) (fun k _=>c - (intOf k).toNat)
  case atStart=>exact⟨0,_,rfl,Nat.zero_le _,hid (fun q hq _=>by simp),hM1,ExtX.refl _,hEc⟩
  case round=>
   clear g1;obtain⟨i,hs,rfl,hi,hnil,hM,hEx,hEr⟩:=hrel;have hXr:HX (un Z1 yo) wr:=hXy.ext hEx;have hlen:=hid hM.len;have hml:Hid (((List.range c).map fun q=>if q<i then List.replicate c (0:Rat)else[]).length=c):=hid (by simp);have bgr:=bg.ext hEx oxg;by_cases hlt:i<c
   ·have hih:i<hs.length:=by rw[hlen.out,hml.out];exact hlt
    have hps:=hid (b0g c i (List.replicate c (0:Rat)) [] hlt);have hn0:=hnil.out i hih (Nat.le_refl _);have hEd:Ext wr wr.drew:=(ExtX.refl _).drew;have hMd:=hM.ext0 hEd;have hXd:=hXr.ext hEd;have hXz:=hMd.hz hXd;have bgd:=bgr.ext0 hEd;have hS:Hid (∀w',Ext wr.drew w'->w'.cell? ⟨g,1,none⟩=some (.slice xo c c)):=hid fun w' h=>(bgd.ext0 h).cell 1 rfl;have ix:∀W,(Instr.indexAt 23 (.slice xo c c) (.int .i64 (i:Int))).run Tryz.prog W= .ok (.pointer (some (adr xo i))) W:=a0C a0r xo c c .i64 i hhx (by omega) rfl;go_wp2_with fail
    refine a0M 6 (fun w'=>w'.cell? ⟨g,1,none⟩=some (.slice xo c c)) (by kernel_rfl) (by kernel_rfl) (hS.out _ (ExtX.refl _)) (fun hHeld hOnce=>?_);refine a0a hOnce (i:=0) (oi:=⟨_,_,_,_,_,_⟩) (v:=?_) rfl (by kernel_rfl) (fun _ _ _ h=>h) (by assumption) (by rfl) (fun w hSw=>?_) ?_
    rotate_left
    ·(try dsimp only at hSw)
     go_simp
     all_goals with_reducible rfl
    (try simp only[Act.put,List.setIfInBounds_toArray,List.set_cons_zero,List.set_cons_succ])
    refine a0a hOnce (i:=1) (oi:=⟨_,_,_,_,_,_⟩) (v:=?_) rfl (by kernel_rfl) (fun _ _ _ h=>h) (by assumption) (by rfl) (fun w hSw=>?_) ?_
    rotate_left
    ·(try dsimp only at hSw)
     go_simp
     all_goals with_reducible rfl
    (try simp only[Act.put,List.setIfInBounds_toArray,List.set_cons_zero,List.set_cons_succ])
    refine a0a hOnce (i:=2) (oi:=⟨_,_,_,_,_,_⟩) (v:=?_) rfl (by kernel_rfl) (fun _ _ _ h=>h) (by assumption) (by rfl) (fun w hSw=>?_) ?_
    rotate_left
    ·(try dsimp only at hSw)
     go_simp
     all_goals with_reducible rfl
    (try simp only[Act.put,List.setIfInBounds_toArray,List.set_cons_zero,List.set_cons_succ])
    refine a0a hOnce (i:=3) (oi:=⟨_,_,_,_,_,_⟩) (v:=?_) rfl (by kernel_rfl) (fun _ _ _ h=>h) (by assumption) (by rfl) (fun w hSw=>?_) ?_
    rotate_left
    ·(try dsimp only at hSw)
     go_simp
     all_goals with_reducible rfl
    (try simp only[Act.put,List.setIfInBounds_toArray,List.set_cons_zero,List.set_cons_succ])
    refine a0m (i:=4) (o:=⟨_,_,_,_,_,_⟩) (by kernel_rfl) rfl (fun K hK=>?_)
    (refine a0O (R:=QC) rfl rfl a0D QC.elem (0:Rat) (fun _=>QC.zero _) (mz (un Z1 yo) xo hs) hXz wr.drew.heap.size (Nat.le_refl _) c rfl rfl rfl (by omega) (by omega) ?_;intro a1 w2 hO2 hE2)
    refine hK.out _ _ (hS.out _ hE2) (fun hHeld=>?_);clear hK K
    (try simp only[Act.put,List.setIfInBounds_toArray,List.set_cons_zero,List.set_cons_succ])
    refine a0a hOnce (i:=5) (oi:=⟨_,_,_,_,_,_⟩) (v:=?_) rfl (by kernel_rfl) (fun _ _ _ h=>h) (by assumption) (by rfl) (fun w hSw=>?_) ?_
    rotate_left
    ·(try dsimp only at hSw)
     go_simp
     all_goals with_reducible rfl
    (try simp only[Act.put,List.setIfInBounds_toArray,List.set_cons_zero,List.set_cons_succ])
    have hO2':=hMd.outer.ext0 HdR.elem hE2;obtain⟨_,p0,f0,_⟩:=hO2'.cell HdR.one i hih;refine a0s (i:=6) (o:=⟨_,_,_,_,_,_⟩) (by kernel_rfl) rfl (by decide) (by kernel_rfl) (fun K hK=>?_);go_simp
    refine hK.out _ _ ?_;clear hK K;obtain⟨hO3,hE3⟩:=hO2'.set1 a5z HdR.elem HdR.one i hih (.slice a1 c c) (a1,c,c) rfl;have hM3:=hMd.put (l:=List.replicate c 0) hih hn0 hE2 (fun k hk=>(hO2.block hk).1) (hO2.base_le (hEr.trans hEd).size) hXd hE3 (by simpa using hO3);rw[hps.out]at hM3;have hE4:Ext w1 _:=((hEr.trans hEd).trans hE2).own hO2' (Nat.le_refl _) hE3;have hEx4:=(hEx.trans (ExtX.of (hEd.trans hE2))).trans hE3;have hnil2:Hid (∀q (hq:q<(hs.set i (a1,(List.replicate c (0:Rat)).length,c)).length),i+1<=q->(hs.set i (a1,(List.replicate c (0:Rat)).length,c))[q].1=none):=hid fun q hq hiq=>by
     rw[List.getElem_set_ne (by omega)];exact hnil.out q (by simpa using hq) (by omega)
    clear p0 f0;go_wp2_with fail
    go_roundw
    case rel=>exact⟨i+1,_,by go_num,by omega,hnil2,hM3,hEx4,hE4⟩
    case measure=>simp[intOf];omega
   ·have hir:i=c:=by omega
    subst hir;rw[a8p]at hM;have hMC:=hM.mc;rw[List.length_replicate]at hMC;have hBy:=hB2.ext QC.elem (Z:=un Z1 xo) hEx (fun q _ hq=>a0q hq) (fun _ _ h=>h);have hBs:=hBy.sl QC.elem;have h00:a6v (mk Z1 wr) (.agg #[.int .i64 0, .slice xo i i, .slice yo i i, .bool false, .slice none 0 0, .slice none 0 0]) (gmM x y i 0):=by
     rw[b4J];exact⟨_,_,_,_,_,_,_,_,_,_,_,_,_,rfl,MC.mono _ _ _ _ (a1E fun k _ hk=>a0k hk) hMC,⟨yo,i,by simp,by simp,hBs.mono QC.mono (a1E fun k _ hk=>a0k hk)⟩,QC.zero _⟩
    have hX2:HX Z1 wr:=hX1c.ext hEx;clear hM hMC hBy hBs hEx;go_wp2_with fail
    go_loopw [40] (fun k wr=>∃(j:Nat) (N:Int) (xo2:Option Addr) (xl xc:Nat) (yo2:Option Addr) (yl yc:Nat) (s:Bool) (a:Option Addr) (n' c':Nat) (d:Option Addr) (k' e:Nat),k= .int .i64 j/\j<=n/\Bx wr g #[.int .i64 N, .slice xo2 xl xc, .slice yo2 yl yc, .bool s, .slice a n' c', .slice d k' e] 173/\a6v (mk Z1 wr) (.agg #[.int .i64 N, .slice xo2 xl xc, .slice yo2 yl yc, .bool s, .slice a n' c', .slice d k' e]) (gmM x y i j)/\HX Z1 wr/\Ext w1 wr) (fun k _=>n - (intOf k).toNat)
    case atStart=>exact⟨0,_,_,_,_,_,_,_,_,_,_,_,_,_,_,rfl,Nat.zero_le _,bgr,h00,hX2,hEr⟩
    case round=>
     clear h00 hX2 bgr hEr hB2 hM1;obtain⟨j,N,xo2,xl,xc,yo2,yl,yc,s,a,n',c',d,k',e,rfl,hj,bgr,hm,hX2,hEr⟩:=hrel;have hl1:=hlxy.out wr hEr;by_cases hlj:j<n
     ·have hjx:j<x.length:=by rw[hshh.out.1];exact hlj
      have hjy:j<y.length:=by rw[hyl'.out];exact hlj
      have hus1:=hus.mono RV.mono hl1;have hts1:=hts.mono QV.mono hl1;obtain⟨rx,rcx,_,hcx,hclx,hqx⟩:=hus1.row j hjx;have hrl:=hshh.out.2 x[j] (List.getElem_mem _);rw[hrl]at hcx hclx;obtain⟨gy,oy,sy,py,ny,qy,dy,ky,ey,hgy,hXy2,hcy,hqy⟩:=hts1.rat QV.shaped j hjy;have hsu:=hid (b4K (y:=y) hshh.out hlj);rw[<-a9k hjx,show y.getD j 0=y[j]by simp[List.getD_eq_getElem?_getD,hjy]]at hsu;have hhb:=a8q hxB hB1;have hbm:BMo 5929 (gmM x y i j):=⟨a7D (b2K hhb (by omega) hB),b2L hhb hyB (by omega) hB,Nat.le_trans (b2I (B:=2*B) fun r _=>Nat.le_trans (hq_mul _ _) (by have:=b7F hyB hB1 r;omega)) (a5a (by omega) hB)⟩;have hEd:Ext wr wr.drew:=(ExtX.refl _).drew;have hX2d:=hX2.ext hEd;have hrV:RV (mk Z1 wr.drew) (.slice rx i rcx) x[j]:=mkx RV.mono ⟨rx,rcx,by rw[hrl],by rw[hrl];exact hclx,hqx⟩ hEd;have hqd:=mkx QV.mono hqy hEd;have hmd:=(mkx a6v.mono hm hEd).mv ⟨fun r hr q hq=>Nat.le_trans (hbm.1 r hr q hq) (by decide),fun q hq=>Nat.le_trans (hbm.2.1 q hq) (by decide),Nat.le_trans hbm.2.2 (by decide)⟩;have hsh:=b0T Z1 wr.drew _ _ _ (gmM x y i j) x[j] y[j] 1 i 5929 hX2d hmd hrV hqd (a2F x j i) (a9j x y j i) hrl (by omega) (by show(-1:Int)<=(j:Int);omega) (by show(j:Int)<=1099511627777;omega) (.inl rfl) hbm (fun q hq=>Nat.le_trans (hxB _ (List.getElem_mem _) q hq) (by omega)) (Nat.le_trans (hyB _ (List.getElem_mem _)) (by omega)) (by decide);rw[hsu.out]at hsh;have bgd:=bgr.ext0 hEd;have k00:=hcx.out noY wr (ExtX.refl _) rfl;have hS:Hid (∀w',Ext wr.drew w'->w'.cell? ⟨g,0,none⟩=some (.int .i64 N)/\w'.cell? ⟨g,1,none⟩=some (.slice xo2 xl xc)/\w'.cell? ⟨g,2,none⟩=some (.slice yo2 yl yc)/\w'.cell? ⟨g,3,none⟩=some (.bool s)/\w'.cell? ⟨g,4,none⟩=some (.slice a n' c')/\w'.cell? ⟨g,5,none⟩=some (.slice d k' e)/\(w'.cell? ⟨gy,oy,none⟩=some (.bool sy)/\w'.cell? ⟨gy,oy+1,none⟩=some (.slice py ny qy)/\w'.cell? ⟨gy,oy+2,none⟩=some (.slice dy ky ey))):=hid fun w' h=>by
       have p1:=bgd.ext0 h;exact⟨p1.cell 0 rfl,p1.cell 1 rfl,p1.cell 2 rfl,p1.cell 3 rfl,p1.cell 4 rfl,p1.cell 5 rfl,hcy.out noY w' (hEd.trans h) rfl⟩
      have iy:∀W,(Instr.indexAt 24 (.slice ta n tc) (.int .i64 (j:Int))).run Tryz.prog W= .ok (.pointer (some ⟨gy,oy,none⟩)) W:=by rw[<-hgy];exact a0h a0D ta n tc .i64 j hht (by omega)
      clear hcx hqx hrl hgy hcy hqy hsu hhb hbm hrV hqd hmd hm;go_wp2_with (with_reducible refine a0t a0r (by omega) (by assumption) ?_)
      refine a0M 7 (fun w'=>w'.cell? ⟨g,0,none⟩=some (.int .i64 N)/\w'.cell? ⟨g,1,none⟩=some (.slice xo2 xl xc)/\w'.cell? ⟨g,2,none⟩=some (.slice yo2 yl yc)/\w'.cell? ⟨g,3,none⟩=some (.bool s)/\w'.cell? ⟨g,4,none⟩=some (.slice a n' c')/\w'.cell? ⟨g,5,none⟩=some (.slice d k' e)/\(w'.cell? ⟨gy,oy,none⟩=some (.bool sy)/\w'.cell? ⟨gy,oy+1,none⟩=some (.slice py ny qy)/\w'.cell? ⟨gy,oy+2,none⟩=some (.slice dy ky ey))) (by kernel_rfl) (by kernel_rfl) (hS.out _ (ExtX.refl _)) (fun hHeld hOnce=>?_);refine a0a hOnce (i:=0) (oi:=⟨_,_,_,_,_,_⟩) (v:=?_) rfl (by kernel_rfl) (fun _ _ _ h=>h) (by assumption) (by rfl) (fun w hSw=>?_) ?_
      rotate_left
      ·(try dsimp only at hSw)
       go_simp
       all_goals with_reducible rfl
      (try simp only[Act.put,List.setIfInBounds_toArray,List.set_cons_zero,List.set_cons_succ])
      refine a0a hOnce (i:=1) (oi:=⟨_,_,_,_,_,_⟩) (v:=?_) rfl (by kernel_rfl) (fun _ _ _ h=>h) (by assumption) (by rfl) (fun w hSw=>?_) ?_
      rotate_left
      ·(try dsimp only at hSw)
       go_simp
       all_goals with_reducible rfl
      (try simp only[Act.put,List.setIfInBounds_toArray,List.set_cons_zero,List.set_cons_succ])
      refine a0a hOnce (i:=2) (oi:=⟨_,_,_,_,_,_⟩) (v:=?_) rfl (by kernel_rfl) (fun _ _ _ h=>h) (by assumption) (by rfl) (fun w hSw=>?_) ?_
      rotate_left
      ·(try dsimp only at hSw)
       go_simp
       all_goals with_reducible rfl
      (try simp only[Act.put,List.setIfInBounds_toArray,List.set_cons_zero,List.set_cons_succ])
      refine a0a hOnce (i:=3) (oi:=⟨_,_,_,_,_,_⟩) (v:=?_) rfl (by kernel_rfl) (fun _ _ _ h=>h) (by assumption) (by rfl) (fun w hSw=>?_) ?_
      rotate_left
      ·(try dsimp only at hSw)
       go_simp
       all_goals with_reducible rfl
      (try simp only[Act.put,List.setIfInBounds_toArray,List.set_cons_zero,List.set_cons_succ])
      refine a0a hOnce (i:=4) (oi:=⟨_,_,_,_,_,_⟩) (v:=?_) rfl (by kernel_rfl) (fun _ _ _ h=>h) (by assumption) (by rfl) (fun w hSw=>?_) ?_
      rotate_left
      ·(try dsimp only at hSw)
       go_simp
       all_goals with_reducible rfl
      (try simp only[Act.put,List.setIfInBounds_toArray,List.set_cons_zero,List.set_cons_succ])
      refine a0a hOnce (i:=5) (oi:=⟨_,_,_,_,_,_⟩) (v:=?_) rfl (by kernel_rfl) (fun _ _ _ h=>h) (by assumption) (by rfl) (fun w hSw=>?_) ?_
      rotate_left
      ·(try dsimp only at hSw)
       go_simp
       all_goals with_reducible rfl
      (try simp only[Act.put,List.setIfInBounds_toArray,List.set_cons_zero,List.set_cons_succ])
      refine a0m (i:=6) (o:=⟨_,_,_,_,_,_⟩) (by kernel_rfl) rfl (fun K hK=>?_);go_simp
      (go_at_call 225;(with_reducible refine hsh.mono ?_);rintro ee w6 ⟨t1,u6,rfl,hu6⟩)
      refine hK.out _ _ (hS.out w6 t1) (fun hHeld=>?_);clear hK K
      (try simp only[Act.put,List.setIfInBounds_toArray,List.set_cons_zero,List.set_cons_succ])
      obtain⟨xo6,xl6,xc6,yo6,yl6,yc6,s6,a6,n6,c6,d6,k6,e6,rfl,hm1,hm2,hm3⟩:=hu6;have bg6:=bgd.ext0 t1;refine a0s (i:=7) (o:=⟨_,_,_,_,_,_⟩) (by kernel_rfl) rfl (by decide) (by kernel_rfl) (fun K hK=>?_)
      (refine a0z rfl rfl a3u rfl rfl bg6 rfl rfl (by intro v hv;simp at hv;rcases hv with rfl|rfl|rfl|rfl|rfl|rfl<;>rfl) ?_;intro w9 y1 y2)
      refine hK.out _ _ ?_;clear hK K
      (try simp only[Act.put])
      have hm9:a6v (mk Z1 w9) _ (gmM x y i (j+1)):=a6v.mono _ _ _ _ (a0x y2 hgZ) ⟨xo6,xl6,xc6,yo6,yl6,yc6,s6,a6,n6,c6,d6,k6,e6,rfl,hm1,hm2,hm3⟩;have hE9:Ext w1 w9:=ExtX.box (hEr.trans (hEd.trans t1)) y2 hgw;have hX9:HX Z1 w9:=fun q hq=>Nat.lt_of_lt_of_le (hX2 q hq) (Nat.le_trans (hEd.trans t1).size y2.size);clear k00 iy;go_wp2_with fail
      go_roundw
      case rel=>exact⟨j+1,_,_,_,_,_,_,_,_,_,_,_,_,_,_,by go_num,by omega,y1,hm9,hX9,hE9⟩
      case measure=>simp[intOf];omega
     ·have hjn:n=j:=by omega
      subst hjn;have q0:=bgr.cell 0 rfl;have q1:=bgr.cell 1 rfl;have q2:=bgr.cell 2 rfl;have q3:=bgr.cell 3 rfl;have q4:=bgr.cell 4 rfl;have q5:=bgr.cell 5 rfl;have br:=b0.ext0 (hE1.trans hEr);clear bgr;go_wp2_with ((with_reducible show wpList _ _ _ (⟨_, .store 173 _ _,_,_,_,_⟩::_) _ _);refine a0c a3u rfl rfl br rfl rfl (by intro v hv;simp at hv;rcases hv with rfl|rfl|rfl|rfl|rfl|rfl<;>rfl) ?_;intro w7 r1 r2)
      have hE7:Ext w w7:=ExtX.box (hE03.trans hEr) r2 (by omega);exact bodyPost_ret (a1F rfl rfl a3u r1 rfl) rfl (hfin.out w7 _ hE7 (a6v.mono _ _ _ _ (a4s r2 hb3.out hXZ.out) hm))
end Go.Proofs.YtidbbddagfnfbaaGreat
