/- leastsq: shift. Conditions: at most 12 columns, numbers of few digits. A drawn region: one of three may come up; a make as one operation alone. Conditions: none. leastsq: Proper; reference 13: Proper. Conditions: lengths far below any machine's. -/
import Derived.Test.YtkddecjkfdogiaaGreatLkK
namespace Go.Proofs.YtkddecjkfdogiaaGreat
open Go.RowKit Go.Rep Go.Lim Go.Lin
set_option maxRecDepth 100000 in
set_option maxHeartbeats 12800000 in
theorem a5J (X:Nat->Bool) (w:World) (u r t:Value) (m:Mom) (row:List Rat) (v:Rat) (sg:Int) (n B:Nat) (hX:HX X w) (hu:b0W (mk X w) u m) (hr:RV (mk X w) r row) (ht:QV (mk X w) t v)
  (hsx:Shp n n m.xx) (hsy:m.xy.length=n) (hrl:row.length=n) (hn:n<=12) (hN1: -1<=m.n) (hN2:m.n<=1099511627777) (hsg:sg=1\/sg= -1) (_hBm:BMo B m) (hBr:BR B row) (hBv:hq v<=B) (hB:B<=1000000):
  Calls Tryz.prog 128 #[u,r,t, .int .i64 sg] w (a2w X w a2x (shM m row v sg)):=by
 obtain⟨xo,xl,xc,yo,yl,yc,s,a,n0,c,d,k,e,rfl,hx,hy,hqq⟩:=hu;obtain⟨s2,a2,n2,c2,d2,k2,e2,rfl⟩:=ht.shape;obtain⟨W,hW,hE,b0,b1,b2,hz⟩:=a3m w #[.int .i64 m.n, .slice xo xl xc, .slice yo yl yc, .bool s, .slice a n0 c, .slice d k e] #[.bool s2, .slice a2 n2 c2, .slice d2 k2 e2] #[.int .i64 0, .slice none 0 0, .slice none 0 0, .bool false, .slice none 0 0, .slice none 0 0] 83 32 83;have hXW:HX (a0i X w.heap.size 3) W:=hX.boxes hz;have hle:Hid (∀w',Ext W w'->Le (mk X w) (mk (a0i X w.heap.size 3) w')):=hid fun w' h=>a0s (hE.trans h);have hun:Hid (∀w',Le (mk (a0i X w.heap.size 3) w') (mk X w')):=hid fun w'=>a0m;obtain⟨b,hb⟩:∃b,w.heap.size=b:=⟨_,rfl⟩;rw[hb]at b0 b1 b2 hz hXW hle hun;have hbw:w.heap.size<=b:=by omega
 obtain⟨Z0,hZ0⟩:∃Z0,a0i X b 3=Z0:=⟨_,rfl⟩;rw[hZ0]at hXW hle hun;have hsgq:hq ((sg:Int):Rat)<=1:=by rcases hsg with rfl|rfl<;>decide+kernel
 have hB2:hq (v*v)<=2000000:=Nat.le_trans (hq_mul _ _) (by omega);have hB3:hq ((sg:Rat)*(v*v))<=2000001:=Nat.le_trans (hq_mul _ _) (by omega);have hwr:IntKind.i64.wrap (m.n+sg)=m.n+sg:=IntWalk.i64_in _ (by rcases hsg with rfl|rfl<;>omega);have hsg1: -9223372036854775808<=sg/\sg<=9223372036854775807:=by rcases hsg with rfl|rfl<;>omega
 obtain⟨N,hN⟩:∃N,m.n=N:=⟨_,rfl⟩;rw[hN]at b0 hW hwr |-;obtain⟨N',hN'⟩:∃N',N+sg=N':=⟨_,rfl⟩;have hNs:=hid hN';have hNe:Hid (m.n+sg=N'):=hid (by rw[hN,hN']);clear hN1 hN2 hsg hN hN';have hf:=b4Z Z0 W sg hXW hsg1.1 hsg1.2;clear hsg1;obtain⟨F,hF⟩:∃F,a2w X w a2x (shM m row v sg)=F:=⟨_,rfl⟩;rw[hF];have hF':=hid hF;clear hF;go_enter Tryz.func128,Tryz.ntmps128
 go_wp2_with fail
 refine hf.mono ?_;rintro ee w2 ⟨hE2,u2,rfl,hu2⟩;obtain⟨s9,a9,n9,c9,d9,k9,e9,rfl⟩:=hu2.shape;have bf:=Bx.new w2 #[.bool false, .slice none 0 0, .slice none 0 0] 32;clear hf;go_upto_region 1 with((with_reducible show wpList _ _ _ (⟨_, .store 32 _ _,_,_,_,_⟩::_) _ _);refine a0c a0w rfl rfl bf rfl rfl (a3n _ _ _ _ _ _ _) ?_;intro w3 y1 y2)
 have hE23:Ext w2 w3:=ExtX.box ((ExtX.refl w2).alloc _) y2 (Nat.le_refl _);have hEW3:=hE2.trans hE23;have hs3:=mkx QC.mono hu2 hE23;have hX3:HX Z0 w3:=hXW.ext hEW3;have m3:=b0.ext0 hEW3;have v3:=b1.ext0 hEW3;have t3:=b2.ext0 hEW3;obtain⟨fb,hfb⟩:∃fb,w2.heap.size=fb:=⟨_,rfl⟩;rw[hfb]at y1 |-;have hxv:=MV.mono _ _ _ _ (hle.out w3 hEW3) hx;have hyv:=RV.mono _ _ _ _ (hle.out w3 hEW3) hy;have hqv:=QV.mono _ _ _ _ (hle.out w3 hEW3) hqq;have htv:=QV.mono _ _ _ _ (hle.out w3 hEW3) ht;have hrv:=RV.mono _ _ _ _ (hle.out w3 hEW3) hr;have hsv:QV (mk Z0 w3) (.agg #[.bool s9, .slice a9 n9 c9, .slice d9 k9 e9]) (sg:Rat):=hs3.qv (by omega);have hE03:Ext w w3:=hE.trans hEW3;have hE0:Ext w3 w3.drew:=(ExtX.refl w3).drew;have hX0:HX Z0 w3.drew:=hX3.ext hE0;have hc0:=hid fun Z w' (hZ:HX Z w') (hl:Le (mk Z0 w3.drew) (mk Z w'))=>b2I Z w' _ _ v v hZ (QV.mono _ _ _ _ hl (mkx QV.mono htv hE0)) (QV.mono _ _ _ _ hl (mkx QV.mono htv hE0));have hc1:=hid fun Z w' (hZ:HX Z w') (hl:Le (mk Z0 w3.drew) (mk Z w')) (u:Value) (h:QC (mk Z w') u (v*v))=>b2I Z w' _ u _ _ hZ (QV.mono _ _ _ _ hl (mkx QV.mono hsv hE0)) (h.qv (Nat.le_trans hB2 (by decide)));have hc2:=hid fun Z w' (hZ:HX Z w') (hl:Le (mk Z0 w3.drew) (mk Z w')) (u:Value) (h:QC (mk Z w') u ((sg:Rat)*(v*v)))=>b2H Z w' _ u _ _ hZ (QV.mono _ _ _ _ hl (mkx QV.mono hqv hE0)) (h.qv (Nat.le_trans hB3 (by decide)));have hS:Hid (∀w',Ext w3.drew w'->w'.cell? ⟨b,0,none⟩=some (.int .i64 N)/\(w'.cell? ⟨b,3,none⟩=some (.bool s)/\w'.cell? ⟨b,3+1,none⟩=some (.slice a n0 c)/\w'.cell? ⟨b,3+2,none⟩=some (.slice d k e))/\(w'.cell? ⟨fb,0,none⟩=some (.bool s9)/\w'.cell? ⟨fb,0+1,none⟩=some (.slice a9 n9 c9)/\w'.cell? ⟨fb,0+2,none⟩=some (.slice d9 k9 e9))/\(w'.cell? ⟨b+1,0,none⟩=some (.bool s2)/\w'.cell? ⟨b+1,0+1,none⟩=some (.slice a2 n2 c2)/\w'.cell? ⟨b+1,0+2,none⟩=some (.slice d2 k2 e2))):=hid fun w' h=>by
  have q0:=m3.ext0 (hE0.trans h);have q1:=v3.ext0 (hE0.trans h);have q2:=y1.ext0 (hE0.trans h);exact⟨q0.cell 0 rfl,⟨q0.cell 3 rfl,q0.cell 4 rfl,q0.cell 5 rfl⟩,⟨q2.cell 0 rfl,q2.cell 1 rfl,q2.cell 2 rfl⟩,⟨q1.cell 0 rfl,q1.cell 1 rfl,q1.cell 2 rfl⟩⟩
 obtain⟨D,hD⟩:∃D,m.yy+(sg:Rat)*(v*v)=D:=⟨_,rfl⟩;obtain⟨V1,hV1⟩:∃V1,v*v=V1:=⟨_,rfl⟩;rw[hV1]at hc0 hc1 hc2 hD;obtain⟨V2,hV2⟩:∃V2,(sg:Rat)*V1=V2:=⟨_,rfl⟩;rw[hV2]at hc1 hc2 hD;rw[hD]at hc2;have hDe:Hid (m.yy+(sg:Rat)*(v*v)=D):=hid (by rw[hV1,hV2,hD]);clear hV1 hV2 hD hu2 bf y2 hE2 hE23 b0 b1 b2 hqq ht hx hy hr
 (try simp only[Act.put])
 go_cut [10]from 19 to 31 (fun bv wx=>∃(g:Nat) (sd:Bool) (ad:Option Addr) (nd cd:Nat) (dd:Option Addr) (kd ed:Nat),bv= .pointer (some ⟨g,0,none⟩)/\Bx wx g #[.int .i64 N', .slice none 0 0, .slice none 0 0, .bool sd, .slice ad nd cd, .slice dd kd ed] 83/\QC (mk (un Z0 (some ⟨g,0,none⟩)) wx) (.agg #[.bool sd, .slice ad nd cd, .slice dd kd ed]) D/\w3.heap.size<=g/\g<wx.heap.size/\Ext w3 wx)
 case first=>
  refine a0L 14 (fun w'=>w'.cell? ⟨b,0,none⟩=some (.int .i64 N)/\(w'.cell? ⟨b,3,none⟩=some (.bool s)/\w'.cell? ⟨b,3+1,none⟩=some (.slice a n0 c)/\w'.cell? ⟨b,3+2,none⟩=some (.slice d k e))/\(w'.cell? ⟨fb,0,none⟩=some (.bool s9)/\w'.cell? ⟨fb,0+1,none⟩=some (.slice a9 n9 c9)/\w'.cell? ⟨fb,0+2,none⟩=some (.slice d9 k9 e9))/\(w'.cell? ⟨b+1,0,none⟩=some (.bool s2)/\w'.cell? ⟨b+1,0+1,none⟩=some (.slice a2 n2 c2)/\w'.cell? ⟨b+1,0+2,none⟩=some (.slice d2 k2 e2))) (by kernel_rfl) (by kernel_rfl) (hS.out _ (ExtX.refl _)) (fun hHeld hOnce=>?_);refine a0a hOnce (i:=0) (oi:=⟨_,_,_,_,_,_⟩) (v:=?_) rfl (by kernel_rfl) (fun _ _ _ h=>h) (by assumption) (by rfl) (fun w hSw=>?_) ?_
  rotate_left
  ·(try dsimp only at hSw)
   go_simp
   all_goals with_reducible rfl
  (try simp only[Act.put,List.setIfInBounds_toArray,List.set_cons_zero,List.set_cons_succ])
  refine a0a hOnce (i:=1) (oi:=⟨_,_,_,_,_,_⟩) (v:=?_) rfl (by kernel_rfl) (fun _ _ _ h=>h) (by assumption) (by rfl) (fun w hSw=>?_) ?_
  rotate_left
  ·(try dsimp only at hSw)
   go_simp
   all_goals with_reducible rfl
  (try simp only[Act.put,List.setIfInBounds_toArray,List.set_cons_zero,List.set_cons_succ])
  refine a0a hOnce (i:=2) (oi:=⟨_,_,_,_,_,_⟩) (v:=?_) rfl (by kernel_rfl) (fun _ _ _ h=>h) (by assumption) (by rfl) (fun w hSw=>?_) ?_
  rotate_left
  ·(try dsimp only at hSw)
   go_simp
   all_goals with_reducible rfl
  (try simp only[Act.put,List.setIfInBounds_toArray,List.set_cons_zero,List.set_cons_succ])
  refine a0a hOnce (i:=3) (oi:=⟨_,_,_,_,_,_⟩) (v:=?_) rfl (by kernel_rfl) (fun _ _ _ h=>h) (by assumption) (by rfl) (fun w hSw=>?_) ?_
  rotate_left
  ·(try dsimp only at hSw)
   go_simp
   all_goals with_reducible rfl
  (try simp only[Act.put,List.setIfInBounds_toArray,List.set_cons_zero,List.set_cons_succ])
  refine a0a hOnce (i:=4) (oi:=⟨_,_,_,_,_,_⟩) (v:=?_) rfl (by kernel_rfl) (fun _ _ _ h=>h) (by assumption) (by rfl) (fun w hSw=>?_) ?_
  rotate_left
  ·(try dsimp only at hSw)
   go_simp
   all_goals with_reducible rfl
  (try simp only[Act.put,List.setIfInBounds_toArray,List.set_cons_zero,List.set_cons_succ])
  refine a0a hOnce (i:=5) (oi:=⟨_,_,_,_,_,_⟩) (v:=?_) rfl (by kernel_rfl) (fun _ _ _ h=>h) (by assumption) (by rfl) (fun w hSw=>?_) ?_
  rotate_left
  ·(try dsimp only at hSw)
   go_simp
   all_goals with_reducible rfl
  (try simp only[Act.put,List.setIfInBounds_toArray,List.set_cons_zero,List.set_cons_succ])
  refine a0a hOnce (i:=6) (oi:=⟨_,_,_,_,_,_⟩) (v:=?_) rfl (by kernel_rfl) (fun _ _ _ h=>h) (by assumption) (by rfl) (fun w hSw=>?_) ?_
  rotate_left
  ·(try dsimp only at hSw)
   go_simp
   all_goals with_reducible rfl
  (try simp only[Act.put,List.setIfInBounds_toArray,List.set_cons_zero,List.set_cons_succ])
  refine a0a hOnce (i:=7) (oi:=⟨_,_,_,_,_,_⟩) (v:=?_) rfl (by kernel_rfl) (fun _ _ _ h=>h) (by assumption) (by rfl) (fun w hSw=>?_) ?_
  rotate_left
  ·(try dsimp only at hSw)
   go_simp
   all_goals with_reducible rfl
  (try simp only[Act.put,List.setIfInBounds_toArray,List.set_cons_zero,List.set_cons_succ])
  refine a0a hOnce (i:=8) (oi:=⟨_,_,_,_,_,_⟩) (v:=?_) rfl (by kernel_rfl) (fun _ _ _ h=>h) (by assumption) (by rfl) (fun w hSw=>?_) ?_
  rotate_left
  ·(try dsimp only at hSw)
   go_simp
   all_goals with_reducible rfl
  (try simp only[Act.put,List.setIfInBounds_toArray,List.set_cons_zero,List.set_cons_succ])
  refine a0F (i:=9) (j:=13) (oi:=⟨_,_,_,_,_,_⟩) (oj:=⟨_,_,_,_,_,_⟩) (by kernel_rfl) rfl rfl (fun K hK=>?_) (fun K hK=>?_)
  ·skip
   go_simp
   (go_at_call 147;(with_reducible refine(hc0.out Z0 w3.drew (hX0.ext (ExtX.refl (Y:=noY) w3.drew)) (a0o (ExtX.refl (Y:=noY) w3.drew))).mono ?_);rintro ee w40 ⟨r0,x0,rfl,g0⟩)
   refine hK.out _ _ (hS.out w40 ((ExtX.refl (Y:=noY) w3.drew).trans r0)) (fun hHeld=>?_);clear hK K
   (try simp only[Act.put,List.setIfInBounds_toArray,List.set_cons_zero,List.set_cons_succ])
   have R0:Ext w3.drew w40:=(ExtX.refl (Y:=noY) w3.drew).trans r0;refine a0F (i:=10) (j:=13) (oi:=⟨_,_,_,_,_,_⟩) (oj:=⟨_,_,_,_,_,_⟩) (by kernel_rfl) rfl rfl (fun K hK=>?_) (fun K hK=>?_)
   ·skip
    go_simp
    (go_at_call 147;(with_reducible refine(hc1.out Z0 w40 (hX0.ext R0) (a0o R0) _ g0).mono ?_);rintro ee w41 ⟨r1,x1,rfl,g1⟩)
    refine hK.out _ _ (hS.out w41 (R0.trans r1)) (fun hHeld=>?_);clear hK K
    (try simp only[Act.put,List.setIfInBounds_toArray,List.set_cons_zero,List.set_cons_succ])
    have R1:Ext w3.drew w41:=R0.trans r1;refine a0F (i:=11) (j:=13) (oi:=⟨_,_,_,_,_,_⟩) (oj:=⟨_,_,_,_,_,_⟩) (by kernel_rfl) rfl rfl (fun K hK=>?_) (fun K hK=>?_)
    ·skip
     go_simp
     (go_at_call 146;(with_reducible refine(hc2.out Z0 w41 (hX0.ext R1) (a0o R1) _ g1).mono ?_);rintro ee w42 ⟨r2,x2,rfl,g2⟩)
     refine hK.out _ _ (hS.out w42 (R1.trans r2)) (fun hHeld=>?_);clear hK K
     (try simp only[Act.put,List.setIfInBounds_toArray,List.set_cons_zero,List.set_cons_succ])
     have R2:Ext w3.drew w42:=R1.trans r2;obtain⟨sd,ad,nd,cd,dd,kd,ed,rfl⟩:=g2.shape;refine a0a hOnce (i:=12) (oi:=⟨_,_,_,_,_,_⟩) (v:=?_) rfl (by kernel_rfl) (fun _ _ _ h=>h) (by assumption) (by rfl) (fun w hSw=>?_) ?_
     rotate_left
     ·(try dsimp only at hSw)
      go_simp
      all_goals with_reducible rfl
     (try simp only[Act.put,List.setIfInBounds_toArray,List.set_cons_zero,List.set_cons_succ])
     have EA:Ext w42 (w42.alloc (.cells #[.int .i64 0, .slice none 0 0, .slice none 0 0, .bool false, .slice none 0 0, .slice none 0 0] 83)):=(ExtX.refl _).alloc _;have bA:Bx (w42.alloc (.cells #[.int .i64 0, .slice none 0 0, .slice none 0 0, .bool false, .slice none 0 0, .slice none 0 0] 83)) w42.heap.size #[.int .i64 0, .slice none 0 0, .slice none 0 0, .bool false, .slice none 0 0, .slice none 0 0] 83:=Bx.new w42 _ _;have hAs:(w42.alloc (.cells #[.int .i64 0, .slice none 0 0, .slice none 0 0, .bool false, .slice none 0 0, .slice none 0 0] 83)).heap.size=w42.heap.size+1:=by simp
     refine a0d (i:=13) (o:=⟨_,_,_,_,_,_⟩) (by kernel_rfl) rfl (fun K hK=>?_);go_simp
     skip
     refine hK.out _ _ (hS.out _ (R2.trans EA)) (fun hHeld=>?_);clear hK K
     (try simp only[Act.put,List.setIfInBounds_toArray,List.set_cons_zero,List.set_cons_succ])
     have hdA:=QC.mono _ _ _ _ (a1w EA (Nat.le_refl _)) g2;refine a0j (i:=14) (o:=⟨_,_,_,_,_,_⟩) (by kernel_rfl) rfl (by decide) (by kernel_rfl) (fun K hK=>?_)
     (refine a0B rfl rfl a1I rfl rfl bA rfl rfl (by intro v hv;simp at hv;rcases hv with rfl|rfl|rfl|rfl|rfl|rfl<;>rfl) ?_;intro w9 y1 y2)
     refine hK.out _ _ ?_;clear hK K
     (try simp only[Act.put])
     have hQ9:=QC.mono _ _ _ _ (a0O y2 fun k hk=>a0q hk) hdA;have hE9:Ext w3 w9:=ExtX.box (hE0.trans (R2.trans EA)) y2 R2.size;have hlt9:=Nat.lt_of_lt_of_le (show w42.heap.size<_ by rw[hAs];exact Nat.lt_succ_self _) y2.size;rw[hNs.out]at y1;go_wp2_with fail
     go_meet
     case rel=>exact⟨w42.heap.size,sd,ad,nd,cd,dd,kd,ed,rfl,y1,hQ9,R2.size,hlt9,hE9⟩
    ·skip
     have EA:Ext w41 (w41.alloc (.cells #[.int .i64 0, .slice none 0 0, .slice none 0 0, .bool false, .slice none 0 0, .slice none 0 0] 83)):=(ExtX.refl _).alloc _;have bA:Bx (w41.alloc (.cells #[.int .i64 0, .slice none 0 0, .slice none 0 0, .bool false, .slice none 0 0, .slice none 0 0] 83)) w41.heap.size #[.int .i64 0, .slice none 0 0, .slice none 0 0, .bool false, .slice none 0 0, .slice none 0 0] 83:=Bx.new w41 _ _;have hAs:(w41.alloc (.cells #[.int .i64 0, .slice none 0 0, .slice none 0 0, .bool false, .slice none 0 0, .slice none 0 0] 83)).heap.size=w41.heap.size+1:=by simp
     go_simp
     skip
     refine hK.out _ _ (hS.out _ (R1.trans EA)) (fun hHeld=>?_);clear hK K
     (try simp only[Act.put,List.setIfInBounds_toArray,List.set_cons_zero,List.set_cons_succ])
     obtain⟨wA,hwA⟩:∃wA,w41.alloc (.cells #[.int .i64 0, .slice none 0 0, .slice none 0 0, .bool false, .slice none 0 0, .slice none 0 0] 83)=wA:=⟨_,rfl⟩;have tA:Ext w3.drew wA:=by rw[<-hwA];exact R1.trans EA
     have prA:=QC.mono _ _ _ _ (a1w EA (Nat.le_refl _)) g1;rw[hwA]at EA bA hAs prA |-;obtain⟨gA,hgA⟩:∃gA,w41.heap.size=gA:=⟨_,rfl⟩;have hvg:w3.heap.size<=gA:=by rw[<-hgA];exact R1.size
     have hvgd:w3.drew.heap.size<=gA:=by have h9:w3.drew.heap.size=w3.heap.size:=rfl;rw[h9];exact hvg
     rw[hgA]at bA hAs prA |-;have glwA:gA<wA.heap.size:=by omega
     have xA2:=a1x (hX0.ext tA) glwA;refine a0d (i:=11) (o:=⟨_,_,_,_,_,_⟩) (by kernel_rfl) rfl (fun K hK=>?_);go_simp
     (go_at_call 146;(with_reducible refine(hc2.out (un Z0 (some ⟨gA,0,none⟩)) wA xA2 (a1w tA hvgd) _ prA).mono ?_);rintro ee v2 ⟨q2,u2,rfl,h2⟩)
     refine hK.out _ _ (hS.out v2 (tA.trans q2)) (fun hHeld=>?_);clear hK K
     (try simp only[Act.put,List.setIfInBounds_toArray,List.set_cons_zero,List.set_cons_succ])
     have T2:=tA.trans q2;have b2:=bA.ext0 q2;have glv2:gA<v2.heap.size:=Nat.lt_of_lt_of_le glwA q2.size;obtain⟨sd,ad,nd,cd,dd,kd,ed,rfl⟩:=h2.shape;refine a0a hOnce (i:=12) (oi:=⟨_,_,_,_,_,_⟩) (v:=?_) rfl (by kernel_rfl) (fun _ _ _ h=>h) (by assumption) (by rfl) (fun w hSw=>?_) ?_
     rotate_left
     ·(try dsimp only at hSw)
      go_simp
      all_goals with_reducible rfl
     (try simp only[Act.put,List.setIfInBounds_toArray,List.set_cons_zero,List.set_cons_succ])
     refine a0j (i:=14) (o:=⟨_,_,_,_,_,_⟩) (by kernel_rfl) rfl (by decide) (by kernel_rfl) (fun K hK=>?_)
     (refine a0B rfl rfl a1I rfl rfl b2 rfl rfl (by intro v hv;simp at hv;rcases hv with rfl|rfl|rfl|rfl|rfl|rfl<;>rfl) ?_;intro w9 y1 y2)
     refine hK.out _ _ ?_;clear hK K
     (try simp only[Act.put])
     have hQ9:=QC.mono _ _ _ _ (a0O y2 fun k hk=>a0q hk) h2;have hE9:Ext w3 w9:=ExtX.box (hE0.trans T2) y2 hvg;have hlt9:=Nat.lt_of_lt_of_le glv2 y2.size;rw[hNs.out]at y1;go_wp2_with fail
     go_meet
     case rel=>exact⟨gA,sd,ad,nd,cd,dd,kd,ed,rfl,y1,hQ9,hvg,hlt9,hE9⟩
   ·skip
    have EA:Ext w40 (w40.alloc (.cells #[.int .i64 0, .slice none 0 0, .slice none 0 0, .bool false, .slice none 0 0, .slice none 0 0] 83)):=(ExtX.refl _).alloc _;have bA:Bx (w40.alloc (.cells #[.int .i64 0, .slice none 0 0, .slice none 0 0, .bool false, .slice none 0 0, .slice none 0 0] 83)) w40.heap.size #[.int .i64 0, .slice none 0 0, .slice none 0 0, .bool false, .slice none 0 0, .slice none 0 0] 83:=Bx.new w40 _ _;have hAs:(w40.alloc (.cells #[.int .i64 0, .slice none 0 0, .slice none 0 0, .bool false, .slice none 0 0, .slice none 0 0] 83)).heap.size=w40.heap.size+1:=by simp
    go_simp
    skip
    refine hK.out _ _ (hS.out _ (R0.trans EA)) (fun hHeld=>?_);clear hK K
    (try simp only[Act.put,List.setIfInBounds_toArray,List.set_cons_zero,List.set_cons_succ])
    obtain⟨wA,hwA⟩:∃wA,w40.alloc (.cells #[.int .i64 0, .slice none 0 0, .slice none 0 0, .bool false, .slice none 0 0, .slice none 0 0] 83)=wA:=⟨_,rfl⟩;have tA:Ext w3.drew wA:=by rw[<-hwA];exact R0.trans EA
    have prA:=QC.mono _ _ _ _ (a1w EA (Nat.le_refl _)) g0;rw[hwA]at EA bA hAs prA |-;obtain⟨gA,hgA⟩:∃gA,w40.heap.size=gA:=⟨_,rfl⟩;have hvg:w3.heap.size<=gA:=by rw[<-hgA];exact R0.size
    have hvgd:w3.drew.heap.size<=gA:=by have h9:w3.drew.heap.size=w3.heap.size:=rfl;rw[h9];exact hvg
    rw[hgA]at bA hAs prA |-;have glwA:gA<wA.heap.size:=by omega
    have xA1:=a1x (hX0.ext tA) glwA;refine a0d (i:=10) (o:=⟨_,_,_,_,_,_⟩) (by kernel_rfl) rfl (fun K hK=>?_);go_simp
    (go_at_call 147;(with_reducible refine(hc1.out (un Z0 (some ⟨gA,0,none⟩)) wA xA1 (a1w tA hvgd) _ prA).mono ?_);rintro ee v1 ⟨q1,u1,rfl,h1⟩)
    refine hK.out _ _ (hS.out v1 (tA.trans q1)) (fun hHeld=>?_);clear hK K
    (try simp only[Act.put,List.setIfInBounds_toArray,List.set_cons_zero,List.set_cons_succ])
    have T1:=tA.trans q1;have b1:=bA.ext0 q1;have glv1:gA<v1.heap.size:=Nat.lt_of_lt_of_le glwA q1.size;have xA2:=a1x (hX0.ext T1) glv1;refine a0d (i:=11) (o:=⟨_,_,_,_,_,_⟩) (by kernel_rfl) rfl (fun K hK=>?_);go_simp
    (go_at_call 146;(with_reducible refine(hc2.out (un Z0 (some ⟨gA,0,none⟩)) v1 xA2 (a1w T1 hvgd) _ h1).mono ?_);rintro ee v2 ⟨q2,u2,rfl,h2⟩)
    refine hK.out _ _ (hS.out v2 (T1.trans q2)) (fun hHeld=>?_);clear hK K
    (try simp only[Act.put,List.setIfInBounds_toArray,List.set_cons_zero,List.set_cons_succ])
    have T2:=T1.trans q2;have b2:=b1.ext0 q2;have glv2:gA<v2.heap.size:=Nat.lt_of_lt_of_le glv1 q2.size;obtain⟨sd,ad,nd,cd,dd,kd,ed,rfl⟩:=h2.shape;refine a0a hOnce (i:=12) (oi:=⟨_,_,_,_,_,_⟩) (v:=?_) rfl (by kernel_rfl) (fun _ _ _ h=>h) (by assumption) (by rfl) (fun w hSw=>?_) ?_
    rotate_left
    ·(try dsimp only at hSw)
     go_simp
     all_goals with_reducible rfl
    (try simp only[Act.put,List.setIfInBounds_toArray,List.set_cons_zero,List.set_cons_succ])
    refine a0j (i:=14) (o:=⟨_,_,_,_,_,_⟩) (by kernel_rfl) rfl (by decide) (by kernel_rfl) (fun K hK=>?_)
    (refine a0B rfl rfl a1I rfl rfl b2 rfl rfl (by intro v hv;simp at hv;rcases hv with rfl|rfl|rfl|rfl|rfl|rfl<;>rfl) ?_;intro w9 y1 y2)
    refine hK.out _ _ ?_;clear hK K
    (try simp only[Act.put])
    have hQ9:=QC.mono _ _ _ _ (a0O y2 fun k hk=>a0q hk) h2;have hE9:Ext w3 w9:=ExtX.box (hE0.trans T2) y2 hvg;have hlt9:=Nat.lt_of_lt_of_le glv2 y2.size;rw[hNs.out]at y1;go_wp2_with fail
    go_meet
    case rel=>exact⟨gA,sd,ad,nd,cd,dd,kd,ed,rfl,y1,hQ9,hvg,hlt9,hE9⟩
  ·skip
   have EA:Ext w3.drew (w3.alloc (.cells #[.int .i64 0, .slice none 0 0, .slice none 0 0, .bool false, .slice none 0 0, .slice none 0 0] 83)).drew:=⟨rfl,rfl,rfl,((ExtX.refl (Y:=noY) w3).alloc _).size,((ExtX.refl (Y:=noY) w3).alloc _).block⟩;have bA:Bx (w3.alloc (.cells #[.int .i64 0, .slice none 0 0, .slice none 0 0, .bool false, .slice none 0 0, .slice none 0 0] 83)).drew w3.heap.size #[.int .i64 0, .slice none 0 0, .slice none 0 0, .bool false, .slice none 0 0, .slice none 0 0] 83:=Bx.new w3 _ _;have hAs:(w3.alloc (.cells #[.int .i64 0, .slice none 0 0, .slice none 0 0, .bool false, .slice none 0 0, .slice none 0 0] 83)).drew.heap.size=w3.heap.size+1:=by show(w3.alloc _).heap.size=_;simp
   go_simp
   skip
   refine hK.out _ _ (hS.out _ ((ExtX.refl (Y:=noY) w3.drew).trans EA)) (fun hHeld=>?_);clear hK K
   (try simp only[Act.put,List.setIfInBounds_toArray,List.set_cons_zero,List.set_cons_succ])
   obtain⟨wA,hwA⟩:∃wA,(w3.alloc (.cells #[.int .i64 0, .slice none 0 0, .slice none 0 0, .bool false, .slice none 0 0, .slice none 0 0] 83)).drew=wA:=⟨_,rfl⟩;have tA:Ext w3.drew wA:=by rw[<-hwA];exact EA
   rw[hwA]at EA bA hAs |-;obtain⟨gA,hgA⟩:∃gA,w3.heap.size=gA:=⟨_,rfl⟩;have hvg:w3.heap.size<=gA:=by rw[<-hgA];exact Nat.le_refl _
   have hvgd:w3.drew.heap.size<=gA:=by have h9:w3.drew.heap.size=w3.heap.size:=rfl;rw[h9];exact hvg
   rw[hgA]at bA hAs |-;have glwA:gA<wA.heap.size:=by omega
   have xA0:=a1x (hX0.ext tA) glwA;refine a0d (i:=9) (o:=⟨_,_,_,_,_,_⟩) (by kernel_rfl) rfl (fun K hK=>?_);go_simp
   (go_at_call 147;(with_reducible refine(hc0.out (un Z0 (some ⟨gA,0,none⟩)) wA xA0 (a1w tA hvgd)).mono ?_);rintro ee v0 ⟨q0,u0,rfl,h0⟩)
   refine hK.out _ _ (hS.out v0 (tA.trans q0)) (fun hHeld=>?_);clear hK K
   (try simp only[Act.put,List.setIfInBounds_toArray,List.set_cons_zero,List.set_cons_succ])
   have T0:=tA.trans q0;have b0:=bA.ext0 q0;have glv0:gA<v0.heap.size:=Nat.lt_of_lt_of_le glwA q0.size;have xA1:=a1x (hX0.ext T0) glv0;refine a0d (i:=10) (o:=⟨_,_,_,_,_,_⟩) (by kernel_rfl) rfl (fun K hK=>?_);go_simp
   (go_at_call 147;(with_reducible refine(hc1.out (un Z0 (some ⟨gA,0,none⟩)) v0 xA1 (a1w T0 hvgd) _ h0).mono ?_);rintro ee v1 ⟨q1,u1,rfl,h1⟩)
   refine hK.out _ _ (hS.out v1 (T0.trans q1)) (fun hHeld=>?_);clear hK K
   (try simp only[Act.put,List.setIfInBounds_toArray,List.set_cons_zero,List.set_cons_succ])
   have T1:=T0.trans q1;have b1:=b0.ext0 q1;have glv1:gA<v1.heap.size:=Nat.lt_of_lt_of_le glv0 q1.size;have xA2:=a1x (hX0.ext T1) glv1;refine a0d (i:=11) (o:=⟨_,_,_,_,_,_⟩) (by kernel_rfl) rfl (fun K hK=>?_);go_simp
   (go_at_call 146;(with_reducible refine(hc2.out (un Z0 (some ⟨gA,0,none⟩)) v1 xA2 (a1w T1 hvgd) _ h1).mono ?_);rintro ee v2 ⟨q2,u2,rfl,h2⟩)
   refine hK.out _ _ (hS.out v2 (T1.trans q2)) (fun hHeld=>?_);clear hK K
   (try simp only[Act.put,List.setIfInBounds_toArray,List.set_cons_zero,List.set_cons_succ])
   have T2:=T1.trans q2;have b2:=b1.ext0 q2;have glv2:gA<v2.heap.size:=Nat.lt_of_lt_of_le glv1 q2.size;obtain⟨sd,ad,nd,cd,dd,kd,ed,rfl⟩:=h2.shape;refine a0a hOnce (i:=12) (oi:=⟨_,_,_,_,_,_⟩) (v:=?_) rfl (by kernel_rfl) (fun _ _ _ h=>h) (by assumption) (by rfl) (fun w hSw=>?_) ?_
   rotate_left
   ·(try dsimp only at hSw)
    go_simp
    all_goals with_reducible rfl
   (try simp only[Act.put,List.setIfInBounds_toArray,List.set_cons_zero,List.set_cons_succ])
   refine a0j (i:=14) (o:=⟨_,_,_,_,_,_⟩) (by kernel_rfl) rfl (by decide) (by kernel_rfl) (fun K hK=>?_)
   (refine a0B rfl rfl a1I rfl rfl b2 rfl rfl (by intro v hv;simp at hv;rcases hv with rfl|rfl|rfl|rfl|rfl|rfl<;>rfl) ?_;intro w9 y1 y2)
   refine hK.out _ _ ?_;clear hK K
   (try simp only[Act.put])
   have hQ9:=QC.mono _ _ _ _ (a0O y2 fun k hk=>a0q hk) h2;have hE9:Ext w3 w9:=ExtX.box (hE0.trans T2) y2 hvg;have hlt9:=Nat.lt_of_lt_of_le glv2 y2.size;rw[hNs.out]at y1;go_wp2_with fail
   go_meet
   case rel=>exact⟨gA,sd,ad,nd,cd,dd,kd,ed,rfl,y1,hQ9,hvg,hlt9,hE9⟩
 case rest=>
  obtain⟨g,sd,ad,nd,cd,dd,kd,ed,rfl,bg,hQ,hge,hglt,hEc⟩:=hcut;clear hc0 hc1 hc2 hS hwr hE0 hX0;obtain⟨Z1,hZ1⟩:∃Z1,un Z0 (some ⟨g,0,none⟩)=Z1:=⟨_,rfl⟩;have hgZ:∀k,ob (some ⟨g,0,none⟩) k=true->Z1 k=true:=fun k hk=>by rw[<-hZ1];exact a0q hk
  have hgg:Z1 g=true:=hgZ g (by simp[ob]);have hZ10:Hid (∀k,k<w3.heap.size->Z1 k=true->Z0 k=true):=hid fun k hk h=>by
   rw[<-hZ1]at h;by_cases h0:Z0 k=true
   ·exact h0
   ·have:g=k:=by simpa[un,h0,ob]using h
    omega
  have hXZ:Hid (∀k,X k=true->Z1 k=true):=hid fun k hk=>by
   rw[<-hZ1,<-hZ0];exact a0p (by simp[a0i,hk])
  have hb3:Hid (∀k,ob (some ⟨b+1+1,0,none⟩) k=true->Z1 k=true):=hid fun k hk=>by
   have hk2:b+1+1=k:=by simpa[ob]using hk
   rw[<-hZ1,<-hZ0];exact a0p (a6b (by omega) (by omega))
  have hX1:HX Z1 wc:=fun k hk=>by
   rw[<-hZ1]at hk;by_cases h0:Z0 k=true
   ·exact hX3.ext hEc k h0
   ·have:g=k:=by simpa[un,h0,ob]using hk
    omega
  rw[hZ1]at hQ;obtain⟨ro,rc,rfl,hrc,hrs⟩:=hrv;obtain⟨xo',xc',he,hxc,hxs⟩:=hxv;simp only[Value.slice.injEq]at he;obtain⟨rfl,rfl,rfl⟩:=he;obtain⟨yo',yc',he,hyc,hys⟩:=hyv;simp only[Value.slice.injEq]at he;obtain⟨rfl,rfl,rfl⟩:=he;have hhr:=hrs.hd;have hhx:=hxs.hd;have hhy:=hys.hd;have hrl':=hid hrl;have hxl':=hid hsx.1;have hxr':=hid hsx.2;have hyl':=hid hsy;rw[hrl]at hhr hrc |-;rw[hsx.1]at hhx hxc m3 |-;rw[hsy]at hhy hyc m3 |-;obtain⟨XD,hXD⟩:∃XD,(shM m row v sg).xx=XD:=⟨_,rfl⟩;obtain⟨YD,hYD⟩:∃YD,(shM m row v sg).xy=YD:=⟨_,rfl⟩;have hXl:Hid (XD.length=n):=hid (by rw[<-hXD];show(ofF row.length row.length _).length=n;rw[hrl];exact(a7y _ _ _).1);have hYl:Hid (YD.length=n):=hid (by rw[<-hYD];simp[shM,hrl]);have hXr:Hid (∀j (h:j<XD.length),XD[j]=(List.range n).map fun k=>ent m.xx j k+(sg:Rat)*fn row j*fn row k):=hid fun j h=>by subst hXD;simp[shM,ofF,hrl]
  have hYi:Hid (∀j (h:j<YD.length),YD[j]=fn m.xy j+(sg:Rat)*fn row j*v):=hid fun j h=>by subst hYD;simp[shM]
  have hfin:Hid (∀w' (s0:Bool) (a0:Option Addr) (k0 c0:Nat) (d0:Option Addr) (p0 e0:Nat) xo2 xc2 yo2 yc2,Ext w w'->MC (mk X w') (.slice xo2 n xc2) XD->RC (mk X w') (.slice yo2 n yc2) YD->QC (mk X w') (.agg #[.bool s0, .slice a0 k0 c0, .slice d0 p0 e0]) D->F (.returned (.agg #[.int .i64 N', .slice xo2 n xc2, .slice yo2 n yc2, .bool s0, .slice a0 k0 c0, .slice d0 p0 e0])) w'):=hid fun w' s0 a0 k0 c0 d0 p0 e0 xo2 xc2 yo2 yc2 h1 h2 h3 h4=>by
   rw[<-hF'.out];refine⟨h1,_,rfl,xo2,n,xc2,yo2,n,yc2,s0,a0,k0,c0,d0,p0,e0,?_,by rw[hXD];exact h2,by rw[hYD];exact h3,?_⟩
   ·show _=Value.agg #[.int .i64 (m.n+sg),_,_,_,_,_]
    rw[hNe.out]
   ·show QC _ _ (m.yy+(sg:Rat)*(v*v))
    rw[hDe.out];exact h4
  have hent:Hid (∀j k (hj:j<m.xx.length) (hk:k<m.xx[j].length),ent m.xx j k=m.xx[j][k]):=hid fun j k hj hk=>(b5u hj hk).symm;have hfr:Hid (∀j (h:j<row.length),fn row j=row[j]):=hid fun j h=>by simp[fn,List.getD_eq_getElem?_getD,h]
  have hfy:Hid (∀j (h:j<m.xy.length),fn m.xy j=m.xy[j]):=hid fun j h=>by simp[fn,List.getD_eq_getElem?_getD,h]
  have hbr:Hid (∀j (h:j<row.length),hq row[j]<=B):=hid fun j h=>hBr _ (List.getElem_mem _);clear hXD hYD hF' hZ1 hsx hsy hrl _hBm hBr hDe hNe hZ0;have hrow0:∀Z wr,Ext w3 wr->(∀k,k<w3.heap.size->Z k=true->Z1 k=true)->Le (mk Z0 w3) (mk Z wr):=fun Z wr h h1=>b5n h fun k hk hz=>hZ10.out k hk (h1 k hk hz);have hrow:=hid hrow0;clear hrow0;go_wp2_with fail
  go_loopw [34] (fun q wr=>∃(j:Nat) (xo2:Option Addr) (xc2:Nat) (yo2:Option Addr) (yc2:Nat),q= .int .i64 j/\j<=n/\Bx wr g #[.int .i64 N', .slice xo2 j xc2, .slice yo2 j yc2, .bool sd, .slice ad nd cd, .slice dd kd ed] 83/\OL RC 1 (un Z1 yo2) w3.heap.size 45 wr xo2 xc2 (XD.take j)/\OL QC 3 (un Z1 xo2) w3.heap.size 32 wr yo2 yc2 (YD.take j)/\QC (mk (un (un Z1 xo2) yo2) wr) (.agg #[.bool sd, .slice ad nd cd, .slice dd kd ed]) D/\HX Z1 wr/\Ext w3 wr) (fun q _=>n - (intOf q).toNat)
  case atStart=>exact⟨0,none,0,none,0,rfl,Nat.zero_le _,bg,OL.nil _ _ _ _ _ _,OL.nil _ _ _ _ _ _,by rw[a6n,a6n];exact hQ,hX1,hEc⟩
  case round=>
   clear hQ hX1 bg hEc;obtain⟨j,xo2,xc2,yo2,yc2,rfl,hj,bg,hOX,hOY,hQ,hXr1,hEr⟩:=hrel;by_cases hlt:j<n
   ·have hjr:j<row.length:=by rw[hrl'.out];exact hlt
    have hjx:j<m.xx.length:=by rw[hxl'.out];exact hlt
    have hjy:j<m.xy.length:=by rw[hyl'.out];exact hlt
    have hjX:j<XD.length:=by rw[hXl.out];exact hlt
    have hjY:j<YD.length:=by rw[hYl.out];exact hlt
    have htX:=hid (a1C XD j hjX);have htY:=hid (a1C YD j hjY);have hlX:=hid (a2b (l:=XD) (i:=j) (by omega));have hlY:=hid (a2b (l:=YD) (i:=j) (by omega));have hXj:=hXr.out j hjX;have hYj:=hYi.out j hjY;rw[hfr.out j hjr]at hXj;rw[hfr.out j hjr,hfy.out j hjy]at hYj;have hobX:∀k,k<w3.heap.size->ob xo2 k=false:=fun k hk=>hOX.ob_lt hk;have hobY:∀k,k<w3.heap.size->ob yo2 k=false:=fun k hk=>hOY.ob_lt hk;obtain⟨ZJ,hZJ⟩:∃ZJ,un (un Z1 xo2) yo2=ZJ:=⟨_,rfl⟩;have hXJ:HX ZJ wr:=by rw[<-hZJ];exact a2a (a2a hXr1 fun k hk=>(hOX.block hk).2) fun k hk=>(hOY.block hk).2
    have hsub3:∀k,k<w3.heap.size->ZJ k=true->Z1 k=true:=fun k hk hz=>by
     rw[<-hZJ]at hz;have e1:=hobX k hk;have e2:=hobY k hk;cases h0:Z1 k
     ·simp[un,h0,e1,e2]at hz
     ·rfl
    have hl3:=hrow.out ZJ wr hEr hsub3;have hrsj:=hrs.mono QV.mono hl3;have hsJ:=QV.mono _ _ _ _ hl3 hsv;have bx:=Bx.new wr #[.bool false, .slice none 0 0, .slice none 0 0] 32;have hf3:=y1.ext0 hEr;have hrq:=hid (hbr.out j hjr);obtain⟨rj,hrj⟩:∃rj,row[j]=rj:=⟨_,rfl⟩;have hrj':=hid hrj;rw[hrj]at hXj hYj hrq;clear hrj;go_wp2_with (first|(with_reducible refine a2r a0E (by omega) (by assumption) ?_)|((with_reducible show wpList _ _ _ (⟨_, .load 32 _,_,_,_,_⟩::_) _ _);refine a1d a0w j hrsj hjr rfl (by simp) QV.agg ?_;intro u5 hu5;rw[hrj'.out]at hu5;obtain⟨s5,a5,n5,c5,d5,m5,e5,rfl⟩:=hu5.shape)|((with_reducible show wpList _ _ _ (⟨_, .store 32 _ _,_,_,_,_⟩::_) _ _);refine a0c a0w rfl rfl bx rfl rfl (a3n _ _ _ _ _ _ _) ?_;intro w5 z1 z2;have hE5:Ext wr w5:=ExtX.box ((ExtX.refl wr).alloc _) z2 (Nat.le_refl _);have k10:=z1.cell 0 rfl;have k11:=z1.cell 1 rfl;have k12:=z1.cell 2 rfl;have hf5:=hf3.ext0 hE5;have k20:=hf5.cell 0 rfl;have k21:=hf5.cell 1 rfl;have k22:=hf5.cell 2 rfl;have hu6:=mkx QV.mono hu5 hE5;have hs6:=mkx QV.mono hsJ hE5))
    refine(b2I ZJ w5 _ _ _ _ (hXJ.ext hE5) hs6 hu6).mono ?_;rintro ee w6 ⟨hE6,u7,rfl,hu7⟩;obtain⟨s7,a7,n7,c7,d7,k7,e7,rfl⟩:=hu7.shape;have bx2:=Bx.new w6 #[.bool false, .slice none 0 0, .slice none 0 0] 32;clear k10 k11 k12 k20 k21 k22;go_wp2_with ((with_reducible show wpList _ _ _ (⟨_, .store 32 _ _,_,_,_,_⟩::_) _ _);refine a0c a0w rfl rfl bx2 rfl rfl (a3n _ _ _ _ _ _ _) ?_;intro wj x1 x2)
    have hE6j:Ext w6 wj:=ExtX.box ((ExtX.refl w6).alloc _) x2 (Nat.le_refl _);have hEj:Ext wr wj:=(hE5.trans hE6).trans hE6j;have hwv:=mkx QC.mono hu7 hE6j;have hXwj:HX ZJ wj:=hXJ.ext hEj;have hE3j:=hEr.trans hEj;have hwq:Hid (hq ((sg:Rat)*rj)<=1000001):=hid (Nat.le_trans (hq_mul _ _) (by have:=hrq.out;omega));obtain⟨jb,hjb⟩:∃jb,w6.heap.size=jb:=⟨_,rfl⟩;rw[hjb]at x1 |-;obtain⟨SW,hSW⟩:∃SW,(sg:Rat)*rj=SW:=⟨_,rfl⟩;rw[hSW]at hwv hwq hXj hYj;obtain⟨LJ,hLJ⟩:∃LJ,XD[j]=LJ:=⟨_,rfl⟩;rw[hLJ]at hXj htX;have hLl:Hid (LJ.length=n):=hid (by rw[hXj];simp);have hLi:Hid (∀k (h:k<LJ.length),LJ[k]=ent m.xx j k+SW*fn row k):=hid fun k h=>by subst hXj;simp
    obtain⟨rxo,rxc,_,hcx,hclx,hqx⟩:=hxs.row j hjx;have hxrl:=hid (hxr'.out m.xx[j] (List.getElem_mem _));rw[hxrl.out]at hcx hclx;have hhrx:Hd rxo n:=by have:=hqx.hd;rw[hxrl.out]at this;exact this
    have hbg0:=bg.ext0 hEj;have hX0j:=hOX.ext0 RC.elem hEj;have hY0j:=hOY.ext0 QC.elem hEj;have hQj:=mkx QC.mono hQ hEj;have hX1j:HX Z1 wj:=hXr1.ext hEj;have hobj:ob xo2 jb=false:=by
     cases hc:ob xo2 jb
     ·rfl
     ·have:=(hOX.block hc).2;have:=(hE5.trans hE6).size;omega
    have hoyj:ob yo2 jb=false:=by
     cases hc:ob yo2 jb
     ·rfl
     ·have:=(hOY.block hc).2;have:=(hE5.trans hE6).size;omega
    have hgj:g≠jb:=by have h9:g<wr.heap.size:=a2g (bg.cell 0 rfl);have:=(hE5.trans hE6).size;omega
    clear hXj hLJ hSW hjb hu7 bx bx2 x2 z1 z2 hf3 hf5 hs6 hu6 hu5 hE5 hE6 hE6j hrsj hsJ hl3 hOX hOY hQ bg;go_wp2_with fail
    go_loopw [14,44] (fun l q wr=>∃(k:Nat) (lo:Option Addr) (lc:Nat),q= .int .i64 k/\l= .slice lo k lc/\k<=n/\OL QC 3 ZJ wj.heap.size 32 wr lo lc (LJ.take k)/\Ext wj wr) (fun _ q _=>n - (intOf q).toNat)
    case atStart=>exact⟨0,none,0,rfl,rfl,Nat.zero_le _,OL.nil _ _ _ _ _ _,ExtX.refl _⟩
    case round=>
     obtain⟨k,lo,lc,rfl,rfl,hk,hL,hEk⟩:=hrel;have hXk:HX ZJ wr:=hXwj.ext hEk;have hbk:=hEk.size;by_cases hlk:k<n
     ·have hkr:k<row.length:=by rw[hrl'.out];exact hlk
      have hkx:k<m.xx[j].length:=by rw[hxrl.out];exact hlk
      have hkL:k<LJ.length:=by rw[hLl.out];exact hlk
      have htk:=hid (a1C LJ k hkL);have hlk2:=hid (a2b (l:=LJ) (i:=k) (by omega));have hLk:=hLi.out k hkL;rw[hfr.out k hkr,hent.out j k hjx hkx]at hLk;have hE3k:=hE3j.trans hEk;have hobL:∀q,q<wj.heap.size->ob lo q=false:=fun q hq=>hL.ob_lt hq;obtain⟨ZK,hZK⟩:∃ZK,un ZJ lo=ZK:=⟨_,rfl⟩;have hXK:HX ZK wr:=by rw[<-hZK];exact hL.unX hXk
      have hsubK:∀q,q<w3.heap.size->ZK q=true->Z1 q=true:=fun q hq hz=>by
       rw[<-hZK]at hz;have e1:=hobL q (Nat.lt_of_lt_of_le hq hE3j.size);refine hsub3 q hq ?_;cases h0:ZJ q
       ·simp[un,h0,e1]at hz
       ·rfl
      have hlK:=hrow.out ZK wr hE3k hsubK;have hrsk:=hrs.mono QV.mono hlK;have hwk:QC (mk ZK wr) (.agg #[.bool s7, .slice a7 n7 c7, .slice d7 k7 e7]) SW:=by rw[<-hZK];exact a5E (w:=wj) QC.mono hwv hEk hobL
      have hqk:=hqx.mono QV.mono hlK;obtain⟨gx,ox,sx,px,nx,qx,dx,kx,ex,hgx,hXx,hcxx,hqxx⟩:=hqk.rat QV.shaped k hkx;have bx:=Bx.new wr #[.bool false, .slice none 0 0, .slice none 0 0] 32;have hrqk:=hid (hbr.out k hkr);obtain⟨rk,hrk⟩:∃rk,row[k]=rk:=⟨_,rfl⟩;obtain⟨xk,hxk⟩:∃xk,m.xx[j][k]=xk:=⟨_,rfl⟩;obtain⟨lk,hlk3⟩:∃lk,LJ[k]=lk:=⟨_,rfl⟩;have hrk':=hid hrk;rw[hrk]at hLk hrqk;rw[hxk]at hLk hqxx;rw[hlk3]at hLk htk;have hLk':=hid hLk;have hx1:=x1.ext0 hEk;have hm3:=m3.ext0 hE3k;have hcell:=hcx.out noY wr hE3k rfl;have hwrk:Hid (hq (SW*rk)<=68719476736):=hid (Nat.le_trans (hq_mul _ _) (by have:=hwq.out;have:=hrqk.out;omega));clear hrk hxk hlk3 hLk;go_wp2_with (first|(with_reducible refine a2r a0E (by omega) (by assumption) ?_)|((with_reducible show wpList _ _ _ (⟨_, .load 32 _,_,_,_,_⟩::_) _ _);refine a1d a0w k hrsk hkr rfl (by simp) QV.agg ?_;intro u5 hu5;rw[hrk'.out]at hu5;obtain⟨s5,a5,n5,c5,d5,m5,e5,rfl⟩:=hu5.shape)|((with_reducible show wpList _ _ _ (⟨_, .store 32 _ _,_,_,_,_⟩::_) _ _);refine a0c a0w rfl rfl bx rfl rfl (a3n _ _ _ _ _ _ _) ?_;intro w5 z1 z2;have hE5:Ext wr w5:=ExtX.box ((ExtX.refl wr).alloc _) z2 (Nat.le_refl _)))
      have hEd:Ext wr w5.drew:=hE5.drew;have hXd:HX ZK w5.drew:=hXK.ext hEd;have hwd:=(mkx QC.mono hwk hEd).qv (Nat.le_trans hwq.out (by decide));have hud:=mkx QV.mono hu5 hEd;have hxd:=mkx QV.mono hqxx hEd;have hLd:=hL.ext0 QC.elem hEd;have hXJd:HX ZJ w5.drew:=hXk.ext hEd;obtain⟨b16,hb16⟩:∃b16,wr.heap.size=b16:=⟨_,rfl⟩;rw[hb16]at z1 |-;have o1:ob lo (adr xo j).block=false:=hobL _ (Nat.lt_of_lt_of_le (a2g (hcx.out noY w3 (ExtX.refl _) rfl)) hE3j.size);have o2:ob lo gx=false:=by rw[<-hZK]at hXx;exact(a1v hXx).2
      have o3:ob lo jb=false:=hobL _ (a2g (x1.cell 0 rfl));have o4:ob lo b16=false:=by
       cases hc:ob lo b16
       ·rfl
       ·have:=(hL.block hc).2;omega
      have o5:ob lo b=false:=hobL _ (Nat.lt_of_lt_of_le (a2g (m3.cell 0 rfl)) hE3j.size);have hS:Hid (∀Y W',ExtX Y w5.drew W'->Y b=false->Y (adr xo j).block=false->Y gx=false->Y jb=false->Y b16=false->W'.cell? ⟨b,1,none⟩=some (.slice xo n xc)/\W'.cell? (adr xo j)=some (.slice rxo n rxc)/\(W'.cell? ⟨gx,ox,none⟩=some (.bool sx)/\W'.cell? ⟨gx,ox+1,none⟩=some (.slice px nx qx)/\W'.cell? ⟨gx,ox+2,none⟩=some (.slice dx kx ex))/\(W'.cell? ⟨jb,0,none⟩=some (.bool s7)/\W'.cell? ⟨jb,0+1,none⟩=some (.slice a7 n7 c7)/\W'.cell? ⟨jb,0+2,none⟩=some (.slice d7 k7 e7))/\(W'.cell? ⟨b16,0,none⟩=some (.bool s5)/\W'.cell? ⟨b16,0+1,none⟩=some (.slice a5 n5 c5)/\W'.cell? ⟨b16,0+2,none⟩=some (.slice d5 m5 e5))):=hid fun Y W' h h1 h2 h3 h4 h5=>by
       have q1:=(hm3.ext0 hEd).ext h h1;have q3:=(hx1.ext0 hEd).ext h h4;have q4:=(z1.ext0 (ExtX.refl w5).drew).ext h h5;exact⟨q1.cell 1 rfl,hcx.out Y W' ((ExtX.of (hE3k.trans hEd)).trans h) h2,hcxx.out Y W' ((ExtX.of hEd).trans h) h3,⟨q3.cell 0 rfl,q3.cell 1 rfl,q3.cell 2 rfl⟩,⟨q4.cell 0 rfl,q4.cell 1 rfl,q4.cell 2 rfl⟩⟩
      obtain⟨f00,f01,⟨f02,f03,f04⟩,⟨f05,f06,f07⟩,⟨f08,f09,f10⟩⟩:=hS.out noY w5.drew (ExtX.refl _) rfl rfl rfl rfl rfl;have i1:∀W,(Instr.indexAt 25 (.slice xo n xc) (.int .i64 (j:Int))).run Tryz.prog W= .ok (.pointer (some (adr xo j))) W:=a0z a0r xo n xc .i64 j hhx (by omega) rfl;have i2:∀W,(Instr.indexAt 45 (.slice rxo n rxc) (.int .i64 (k:Int))).run Tryz.prog W= .ok (.pointer (some ⟨gx,ox,none⟩)) W:=by rw[<-hgx];exact a0n a0E rxo n rxc .i64 k hhrx (by omega)
      clear hcell hgx hu5 z2 hwk hqxx hqk hrsk bx;go_region_held3 (fun w'=>w'.cell? ⟨b,1,none⟩=some (.slice xo n xc)/\w'.cell? (adr xo j)=some (.slice rxo n rxc)/\(w'.cell? ⟨gx,ox,none⟩=some (.bool sx)/\w'.cell? ⟨gx,ox+1,none⟩=some (.slice px nx qx)/\w'.cell? ⟨gx,ox+2,none⟩=some (.slice dx kx ex))/\(w'.cell? ⟨jb,0,none⟩=some (.bool s7)/\w'.cell? ⟨jb,0+1,none⟩=some (.slice a7 n7 c7)/\w'.cell? ⟨jb,0+2,none⟩=some (.slice d7 k7 e7))/\(w'.cell? ⟨b16,0,none⟩=some (.bool s5)/\w'.cell? ⟨b16,0+1,none⟩=some (.slice a5 n5 c5)/\w'.cell? ⟨b16,0+2,none⟩=some (.slice d5 m5 e5)))
       (first|exact hS.out noY _ t1 rfl rfl rfl rfl rfl|exact hS.out noY _ t2 rfl rfl rfl rfl rfl|exact hS.out noY _ (ExtX.alloc t2 _) rfl rfl rfl rfl rfl|exact hS.out (ob lo) _ ((ExtX.of t2).trans hE7) o5 o1 o2 o3 o4|go_keep)
       (first|(go_at_call 147;(with_reducible refine(b2I ZK w5.drew _ _ _ _ hXd hwd hud).mono ?_);rintro ee w6 ⟨t1,u6,rfl,hu6⟩;have hX6:=HX.ext hXd t1;have hx6:=mkx QV.mono hxd t1;have hu6v:=hu6.qv hwrk.out)|(go_at_call 146;(with_reducible refine(b2H ZK w6 _ _ _ _ hX6 hx6 hu6v).mono ?_);rintro ee w8 ⟨t7,u8,rfl,hu8⟩;have t2:=t1.trans t7;obtain⟨s8,a8,n8,c8,d8,k8,e8,rfl⟩:=hu8.shape;rw[<-hLk'.out,<-hZK]at hu8;have hL8:=hLd.ext0 QC.elem t2;have hb8:=(hEk.trans (hEd.trans t2)).size;have hX8:=HX.ext hXJd t2)|(refine a2A (l:=LJ.take k) rfl (by rfl) a0E rfl QC.elem hb8 hX8 k hlk2.out rfl rfl hL8 (.agg #[.bool s8, .slice a8 n8 c8, .slice d8 k8 e8]) lk rfl hu8 (by omega) (by omega) ?_;intro lo2 lc2 w7 hL7 hE7 hor))
      have hE8:=(hEk.trans (hEd.trans t2)).own hL8 (Nat.le_refl _) hE7;rw[htk.out]at hL7;clear f00 f01 f02 f03 f04 f05 f06 f07 f08 f09 f10 i1 i2;go_wp2_with fail
      go_roundw
      case rel=>exact⟨k+1,lo2,lc2,by go_num,by go_num,by omega,hL7,hE8⟩
      case measure=>simp[intOf];omega
     ·have hkn:n=k:=by omega
      subst hkn;rw[List.take_of_length_le (by rw[hLl.out];exact Nat.le_refl _)]at hL;have hLs:=hL.sl QC.elem;have hLc:=hL.lenCap;rw[hLl.out]at hLc;have hbg1:=hbg0.ext0 hEk;have hX1':=hX0j.ext0 RC.elem hEk;have hY1':=hY0j.ext0 QC.elem hEk;have hQ1:=mkx QC.mono hQj hEk;have hw1:=mkx QC.mono hwv hEk;have hX1k:HX (un Z1 yo2) wr:=a2a (hX1j.ext hEk) fun q hq=>(hY1'.block hq).2;have hE3k:=hE3j.trans hEk;have hRC:RC (mk (un (un Z1 yo2) xo2) wr) (.slice lo n lc) LJ:=⟨lo,lc,by rw[hLl.out],by rw[hLl.out];exact hLc,hLs.mono QC.mono (a1m fun q _ hq=>by rw[<-hZJ,a1H];exact hq)⟩;have hogx:ob xo2 g=false:=by
       cases hc:ob xo2 g
       ·rfl
       ·have:=(a1v (hX1'.1 g hc)).1;rw[hgg]at this;cases this
      have q1:=hbg1.cell 1 rfl;have hj1:=x1.ext0 hEk;clear hX0j hY0j hQj hwv hbg0 hL hLs;go_wp2_with (first
       |(at_builtin;refine a1e (l:=XD.take j) a0r rfl RC.elem hE3k.size hX1k j hlX.out rfl rfl hX1' (.slice lo n lc) LJ rfl hRC (by omega) (by omega) ?_;intro xo7 xc7 w7 hX7 hE7 hor7;have bg7:=hbg1.ext hE7 hogx)
       |(refine a1N (v:= .slice xo7 (j+1) xc7) b5o rfl rfl rfl rfl bg7 (by simp) ?_;intro w8 bg8 hE8))
      have bg8':Bx w8 g #[.int .i64 N', .slice xo7 (j+1) xc7, .slice yo2 j yc2, .bool sd, .slice ad nd cd, .slice dd kd ed] 83:=by simpa using bg8
      have hE37:=hE3k.own hX1' (Nat.le_refl _) hE7;have hE38:Ext w3 w8:=ExtX.box hE37 hE8 hge;rw[htX.out]at hX7;have hX8:=hX7.ext RC.elem (Z:=un Z1 yo2) hE8 (fun q _ hq=>a0p (hgZ q hq)) (fun _ _ h=>h);have hY7:=hY1'.ext QC.elem (Z:=un Z1 xo7) hE7 (fun q _ hq=>a0q hq) (un_or hor7);have hY8:=hY7.ext QC.elem (Z:=un Z1 xo7) hE8 (fun q _ hq=>a0p (hgZ q hq)) (fun _ _ h=>h);obtain⟨Z8,hZ8⟩:∃Z8,un (un Z1 xo7) yo2=Z8:=⟨_,rfl⟩;have hle8:Le (mk ZJ wr) (mk Z8 w8):=fun A U h=>by
       have h1:=a0R (Z:=Z8) hE7 (fun q _ hq=>by rw[<-hZJ];exact a0p (a0q hq)) (fun q hq hz=>by
        rw[<-hZ8,a1H]at hz;rw[<-hZJ,a1H];exact un_or (X:=un Z1 yo2) hor7 q hq hz) A U h
       exact a0R hE8 (fun q _ hq=>by rw[<-hZ8];exact a0p (a0p (hgZ q hq))) (fun _ _ h=>h) A U h1
      have hQ8:=QC.mono _ _ _ _ hle8 (by rw[<-hZJ];exact hQ1);have hw8:=QC.mono _ _ _ _ hle8 hw1;have hj8:=(hj1.ext hE7 hobj).ext hE8 (a0e hgj.symm);have hm8:=m3.ext0 hE38;have hv8:=v3.ext0 hE38;have hXZ1:HX Z1 w8:=fun q hq=>Nat.lt_of_lt_of_le (hX1j q hq) (Nat.le_trans hbk (Nat.le_trans hE7.size hE8.size));have hXZ8:HX Z8 w8:=by rw[<-hZ8];exact a2a (a2a hXZ1 fun q hq=>(hX8.block hq).2) fun q hq=>(hY8.block hq).2
      have hob78:∀q,q<w3.heap.size->Z8 q=true->Z1 q=true:=fun q hq hz=>by
       rw[<-hZ8]at hz;have e1:ob xo7 q=false:=hX8.ob_lt hq;have e2:ob yo2 q=false:=hY8.ob_lt hq;cases h0:Z1 q
       ·simp[un,h0,e1,e2]at hz
       ·rfl
      have hl38:=hrow.out Z8 w8 hE38 hob78;have hys8:=hys.mono QV.mono hl38;have htv8:=QV.mono _ _ _ _ hl38 htv;obtain⟨gy,oy,sy,py,ny,qy,dy,ky,ey,hgy,hXy,hcy,hqy⟩:=hys8.rat QV.shaped j hjy;obtain⟨yj,hyj⟩:∃yj,m.xy[j]=yj:=⟨_,rfl⟩;obtain⟨YJ,hYJ⟩:∃YJ,YD[j]=YJ:=⟨_,rfl⟩;rw[hyj]at hqy hYj;rw[hYJ]at hYj htY;have hYj':=hid hYj;have hEd:Ext w8 w8.drew:=(ExtX.refl w8).drew;have hwv:Hid (hq (SW*v)<=68719476736):=hid (Nat.le_trans (hq_mul _ _) (by have:=hwq.out;omega));have hwd:=(mkx QC.mono hw8 hEd).qv (Nat.le_trans hwq.out (by decide));have htd:=mkx QV.mono htv8 hEd;have hyd:=mkx QV.mono hqy hEd;have hYd:=hY8.ext0 QC.elem hEd;have hXd:HX Z8 w8.drew:=hXZ8.ext hEd;have hXu7:HX (un Z1 xo7) w8.drew:=a2a (hXZ1.ext hEd) fun q hq=>(hX8.block hq).2;have ogy:ob yo2 g=false:=by
       cases hc:ob yo2 g
       ·rfl
       ·have:=(a1v (hY8.1 g hc)).1;rw[hgg]at this;cases this
      have o1:ob yo2 b=false:=hY8.ob_lt (a2g (m3.cell 0 rfl));have o2:ob yo2 (b+1)=false:=hY8.ob_lt (a2g (v3.cell 0 rfl));have o3:ob yo2 gy=false:=by rw[<-hZ8]at hXy;exact(a1v hXy).2
      have hS:Hid (∀Y W',ExtX Y w8.drew W'->Y g=false->Y b=false->Y gy=false->Y jb=false->Y (b+1)=false->W'.cell? ⟨g,2,none⟩=some (.slice yo2 j yc2)/\W'.cell? ⟨b,2,none⟩=some (.slice yo n yc)/\(W'.cell? ⟨gy,oy,none⟩=some (.bool sy)/\W'.cell? ⟨gy,oy+1,none⟩=some (.slice py ny qy)/\W'.cell? ⟨gy,oy+2,none⟩=some (.slice dy ky ey))/\(W'.cell? ⟨jb,0,none⟩=some (.bool s7)/\W'.cell? ⟨jb,0+1,none⟩=some (.slice a7 n7 c7)/\W'.cell? ⟨jb,0+2,none⟩=some (.slice d7 k7 e7))/\(W'.cell? ⟨b+1,0,none⟩=some (.bool s2)/\W'.cell? ⟨b+1,0+1,none⟩=some (.slice a2 n2 c2)/\W'.cell? ⟨b+1,0+2,none⟩=some (.slice d2 k2 e2))):=hid fun Y W' h h1 h2 h3 h4 h5=>by
       have p1:=(bg8'.ext0 hEd).ext h h1;have p2:=(hm8.ext0 hEd).ext h h2;have p3:=(hj8.ext0 hEd).ext h h4;have p4:=(hv8.ext0 hEd).ext h h5;exact⟨p1.cell 2 rfl,p2.cell 2 rfl,hcy.out Y W' ((ExtX.of hEd).trans h) h3,⟨p3.cell 0 rfl,p3.cell 1 rfl,p3.cell 2 rfl⟩,⟨p4.cell 0 rfl,p4.cell 1 rfl,p4.cell 2 rfl⟩⟩
      have iy:∀W,(Instr.indexAt 45 (.slice yo n yc) (.int .i64 (j:Int))).run Tryz.prog W= .ok (.pointer (some ⟨gy,oy,none⟩)) W:=by rw[<-hgy];exact a0n a0E yo n yc .i64 j hhy (by omega)
      have hbY:w3.heap.size<=w8.drew.heap.size:=(hE38.trans hEd).size;clear q1 hgy hqy hys8 hcy hm8 hv8 hj8 hj1 hRC bg8 bg7 hY7 hX1' hY1' hQ1 hw1 hYj;refine a0L 14 (fun W'=>W'.cell? ⟨g,2,none⟩=some (.slice yo2 j yc2)/\W'.cell? ⟨b,2,none⟩=some (.slice yo n yc)/\(W'.cell? ⟨gy,oy,none⟩=some (.bool sy)/\W'.cell? ⟨gy,oy+1,none⟩=some (.slice py ny qy)/\W'.cell? ⟨gy,oy+2,none⟩=some (.slice dy ky ey))/\(W'.cell? ⟨jb,0,none⟩=some (.bool s7)/\W'.cell? ⟨jb,0+1,none⟩=some (.slice a7 n7 c7)/\W'.cell? ⟨jb,0+2,none⟩=some (.slice d7 k7 e7))/\(W'.cell? ⟨b+1,0,none⟩=some (.bool s2)/\W'.cell? ⟨b+1,0+1,none⟩=some (.slice a2 n2 c2)/\W'.cell? ⟨b+1,0+2,none⟩=some (.slice d2 k2 e2))) (by kernel_rfl) (by kernel_rfl) (hS.out noY _ (ExtX.refl _) rfl rfl rfl rfl rfl) (fun hHeld hOnce=>?_);refine a0a hOnce (i:=0) (oi:=⟨_,_,_,_,_,_⟩) (v:=?_) rfl (by kernel_rfl) (fun _ _ _ h=>h) (by assumption) (by rfl) (fun w hSw=>?_) ?_
      rotate_left
      ·(try dsimp only at hSw)
       go_simp
       all_goals with_reducible rfl
      (try simp only[Act.put,List.setIfInBounds_toArray,List.set_cons_zero,List.set_cons_succ])
      refine a0a hOnce (i:=1) (oi:=⟨_,_,_,_,_,_⟩) (v:=?_) rfl (by kernel_rfl) (fun _ _ _ h=>h) (by assumption) (by rfl) (fun w hSw=>?_) ?_
      rotate_left
      ·(try dsimp only at hSw)
       go_simp
       all_goals with_reducible rfl
      (try simp only[Act.put,List.setIfInBounds_toArray,List.set_cons_zero,List.set_cons_succ])
      refine a0a hOnce (i:=2) (oi:=⟨_,_,_,_,_,_⟩) (v:=?_) rfl (by kernel_rfl) (fun _ _ _ h=>h) (by assumption) (by rfl) (fun w hSw=>?_) ?_
      rotate_left
      ·(try dsimp only at hSw)
       go_simp
       all_goals with_reducible rfl
      (try simp only[Act.put,List.setIfInBounds_toArray,List.set_cons_zero,List.set_cons_succ])
      refine a0a hOnce (i:=3) (oi:=⟨_,_,_,_,_,_⟩) (v:=?_) rfl (by kernel_rfl) (fun _ _ _ h=>h) (by assumption) (by rfl) (fun w hSw=>?_) ?_
      rotate_left
      ·(try dsimp only at hSw)
       go_simp
       all_goals with_reducible rfl
      (try simp only[Act.put,List.setIfInBounds_toArray,List.set_cons_zero,List.set_cons_succ])
      refine a0a hOnce (i:=4) (oi:=⟨_,_,_,_,_,_⟩) (v:=?_) rfl (by kernel_rfl) (fun _ _ _ h=>h) (by assumption) (by rfl) (fun w hSw=>?_) ?_
      rotate_left
      ·(try dsimp only at hSw)
       go_simp
       all_goals with_reducible rfl
      (try simp only[Act.put,List.setIfInBounds_toArray,List.set_cons_zero,List.set_cons_succ])
      refine a0a hOnce (i:=5) (oi:=⟨_,_,_,_,_,_⟩) (v:=?_) rfl (by kernel_rfl) (fun _ _ _ h=>h) (by assumption) (by rfl) (fun w hSw=>?_) ?_
      rotate_left
      ·(try dsimp only at hSw)
       go_simp
       all_goals with_reducible rfl
      (try simp only[Act.put,List.setIfInBounds_toArray,List.set_cons_zero,List.set_cons_succ])
      refine a0a hOnce (i:=6) (oi:=⟨_,_,_,_,_,_⟩) (v:=?_) rfl (by kernel_rfl) (fun _ _ _ h=>h) (by assumption) (by rfl) (fun w hSw=>?_) ?_
      rotate_left
      ·(try dsimp only at hSw)
       go_simp
       all_goals with_reducible rfl
      (try simp only[Act.put,List.setIfInBounds_toArray,List.set_cons_zero,List.set_cons_succ])
      refine a0a hOnce (i:=7) (oi:=⟨_,_,_,_,_,_⟩) (v:=?_) rfl (by kernel_rfl) (fun _ _ _ h=>h) (by assumption) (by rfl) (fun w hSw=>?_) ?_
      rotate_left
      ·(try dsimp only at hSw)
       go_simp
       all_goals with_reducible rfl
      (try simp only[Act.put,List.setIfInBounds_toArray,List.set_cons_zero,List.set_cons_succ])
      refine a0a hOnce (i:=8) (oi:=⟨_,_,_,_,_,_⟩) (v:=?_) rfl (by kernel_rfl) (fun _ _ _ h=>h) (by assumption) (by rfl) (fun w hSw=>?_) ?_
      rotate_left
      ·(try dsimp only at hSw)
       go_simp
       all_goals with_reducible rfl
      (try simp only[Act.put,List.setIfInBounds_toArray,List.set_cons_zero,List.set_cons_succ])
      refine a0d (i:=9) (o:=⟨_,_,_,_,_,_⟩) (by kernel_rfl) rfl (fun K hK=>?_);go_simp
      (go_at_call 147;(with_reducible refine(b2I Z8 w8.drew _ _ _ _ hXd hwd htd).mono ?_);rintro ee w10 ⟨t1,u10,rfl,hu10⟩)
      refine hK.out _ _ (hS.out noY w10 t1 rfl rfl rfl rfl rfl) (fun hHeld=>?_);clear hK K
      (try simp only[Act.put,List.setIfInBounds_toArray,List.set_cons_zero,List.set_cons_succ])
      have hX10:=HX.ext hXd t1;have hy10:=mkx QV.mono hyd t1;have hu10v:=hu10.qv hwv.out;refine a0d (i:=10) (o:=⟨_,_,_,_,_,_⟩) (by kernel_rfl) rfl (fun K hK=>?_);go_simp
      (go_at_call 146;(with_reducible refine(b2H Z8 w10 _ _ _ _ hX10 hy10 hu10v).mono ?_);rintro ee w11 ⟨t2,u11,rfl,hu11⟩)
      refine hK.out _ _ (hS.out noY w11 (t1.trans t2) rfl rfl rfl rfl rfl) (fun hHeld=>?_);clear hK K
      (try simp only[Act.put,List.setIfInBounds_toArray,List.set_cons_zero,List.set_cons_succ])
      have t12:=t1.trans t2;obtain⟨s11,a11,n11,c11,d11,k11,e11,rfl⟩:=hu11.shape;rw[<-hYj'.out,<-hZ8]at hu11;have hY11:=hYd.ext0 QC.elem t12;have hX11:=hXu7.ext t12;have hb11:=Nat.le_trans hbY t12.size;refine a0d (i:=11) (o:=⟨_,_,_,_,_,_⟩) (by kernel_rfl) rfl (fun K hK=>?_);go_simp
      skip
      refine hK.out _ _ (hS.out noY _ (t12.alloc _) rfl rfl rfl rfl rfl) (fun hHeld=>?_);clear hK K
      (try simp only[Act.put,List.setIfInBounds_toArray,List.set_cons_zero,List.set_cons_succ])
      refine a0d (i:=12) (o:=⟨_,_,_,_,_,_⟩) (by kernel_rfl) rfl (fun K hK=>?_)
      (refine a2A (l:=YD.take j) rfl (by rfl) a0E rfl QC.elem hb11 hX11 j hlY.out rfl rfl hY11 (.agg #[.bool s11, .slice a11 n11 c11, .slice d11 k11 e11]) YJ rfl hu11 (by omega) (by omega) ?_;intro yo9 yc9 w12 hY12 hE12 hor12)
      refine hK.out _ _ (hS.out (ob yo2) w12 ((ExtX.of t12).trans hE12) ogy o1 o3 hoyj o2) (fun hHeld=>?_);clear hK K
      (try simp only[Act.put,List.setIfInBounds_toArray,List.set_cons_zero,List.set_cons_succ])
      have bg12:=(bg8'.ext0 (hEd.trans t12)).ext hE12 ogy;refine a0a hOnce (i:=13) (oi:=⟨_,_,_,_,_,_⟩) (v:=?_) rfl (by kernel_rfl) (fun _ _ _ h=>h) (by assumption) (by rfl) (fun w hSw=>?_) ?_
      rotate_left
      ·(try dsimp only at hSw)
       go_simp
       all_goals with_reducible rfl
      (try simp only[Act.put,List.setIfInBounds_toArray,List.set_cons_zero,List.set_cons_succ])
      refine a0j (i:=14) (o:=⟨_,_,_,_,_,_⟩) (by kernel_rfl) rfl (by decide) (by kernel_rfl) (fun K hK=>?_)
      (refine a5q (v:= .slice yo9 (j+1) yc9) rfl rfl a8H rfl rfl rfl rfl bg12 (by simp) ?_;intro w13 bg13 hE13)
      refine hK.out _ _ ?_;clear hK K
      (try simp only[Act.put])
      have bg13':Bx w13 g #[.int .i64 N', .slice xo7 (j+1) xc7, .slice yo9 (j+1) yc9, .bool sd, .slice ad nd cd, .slice dd kd ed] 83:=by simpa using bg13
      rw[htY.out]at hY12;have hE8t:=hEd.trans t12;have hX13:=((hX8.ext0 RC.elem hE8t).ext RC.elem (Z:=un Z1 yo9) hE12 (fun q _ hq=>a0q hq) (un_or hor12)).ext RC.elem (Z:=un Z1 yo9) hE13 (fun q _ hq=>a0p (hgZ q hq)) (fun _ _ h=>h);have hY13:=hY12.ext QC.elem (Z:=un Z1 xo7) hE13 (fun q _ hq=>a0p (hgZ q hq)) (fun _ _ h=>h);have hQ13:QC (mk (un (un Z1 xo7) yo9) w13) (.agg #[.bool sd, .slice ad nd cd, .slice dd kd ed]) D:=QC.mono _ _ _ _ (a0R hE13 (fun q _ hq=>a0p (a0p (hgZ q hq))) (fun _ _ h=>h)) (QC.mono _ _ _ _ (a0R (Z:=un (un Z1 xo7) yo9) hE12 (fun q _ hq=>by rw[<-hZ8];exact a0q hq) (fun q hq hz=>by rw[<-hZ8];exact un_or (X:=un Z1 xo7) hor12 q hq hz)) (mkx QC.mono hQ8 hE8t));have hE3z:Ext w3 w13:=ExtX.box ((hE38.trans hE8t).own hY11 (Nat.le_refl _) hE12) hE13 hge;have hXz:HX Z1 w13:=fun q hq=>Nat.lt_of_lt_of_le (hXZ1 q hq) (Nat.le_trans hE8t.size (Nat.le_trans hE12.size hE13.size));go_wp2_with fail
      go_roundw
      case rel=>exact⟨j+1,xo7,xc7,yo9,yc9,by go_num,by omega,bg13',hX13,hY13,hQ13,hXz,hE3z⟩
      case measure=>simp[intOf];omega
   ·have hjn:j=n:=by omega
    subst hjn;rw[List.take_of_length_le (by rw[hXl.out];exact Nat.le_refl _)]at hOX;rw[List.take_of_length_le (by rw[hYl.out];exact Nat.le_refl _)]at hOY;have hXs:=hOX.sl RC.elem;have hXc:=hOX.lenCap;have hYs:=hOY.sl QC.elem;have hYc:=hOY.lenCap;rw[hXl.out]at hXc;rw[hYl.out]at hYc;have q0:=bg.cell 0 rfl;have q1:=bg.cell 1 rfl;have q2:=bg.cell 2 rfl;have q3:=bg.cell 3 rfl;have q4:=bg.cell 4 rfl;have q5:=bg.cell 5 rfl;have tr:=t3.ext0 hEr;clear bg;go_wp2_with (refine a0c a1I rfl rfl tr rfl rfl (by intro v hv;simp at hv;rcases hv with rfl|rfl|rfl|rfl|rfl|rfl<;>rfl) ?_;intro w7 r1 r2)
    have hE7:Ext w w7:=ExtX.box (hE03.trans hEr) r2 (by omega);have hl7:Le (mk (un Z1 yo2) wr) (mk X w7):=a4v r2 (fun k hk=>a0p (hb3.out k hk)) (fun k hk=>a0p (hXZ.out k hk));have hl8:Le (mk (un Z1 xo2) wr) (mk X w7):=a4v r2 (fun k hk=>a0p (hb3.out k hk)) (fun k hk=>a0p (hXZ.out k hk));have hl9:Le (mk (un (un Z1 xo2) yo2) wr) (mk X w7):=a4v r2 (fun k hk=>a0p (a0p (hb3.out k hk))) (fun k hk=>a0p (a0p (hXZ.out k hk)));refine bodyPost_ret (a0f rfl rfl a1I r1 rfl) rfl (hfin.out w7 _ _ _ _ _ _ _ _ _ _ _ hE7 ⟨_,_,by rw[hXl.out],by rw[hXl.out];exact hXc,hXs.mono RC.mono hl7⟩ ⟨_,_,by rw[hYl.out],by rw[hYl.out];exact hYc,hYs.mono QC.mono hl8⟩ (QC.mono _ _ _ _ hl9 hQ))
end Go.Proofs.YtkddecjkfdogiaaGreat
namespace Go
section
variable {P:Program} {ops:Array Oper} {Q:Exit->Act->World->Prop} {md:Region.Mode} {S:World->Prop} {n:Nat}
theorem a3v {i j l:Nat} {oi oj ol:Oper} {fuel:Nat} {listed:Array Bool} {a:Act} {w:World} (hr:Region.ready md ops listed= [i,j,l]) (hi:ops[i]? =some oi) (hj:ops[j]? =some oj) (hl:ops[l]? =some ol)
  (h1:∀K':Act->World->Prop,Shut (∀a w,S w->(S w->a1y P md ops Q S n fuel (listed.setIfInBounds i true) a w)->K' a w)->if Region.wanted oi (yielded ops a.tmps)=true then Oper.wp P oi a w K' Q else K' (a.put oi.dst undef) w)
  (h2:∀K':Act->World->Prop,Shut (∀a w,S w->(S w->a1y P md ops Q S n fuel (listed.setIfInBounds j true) a w)->K' a w)->if Region.wanted oj (yielded ops a.tmps)=true then Oper.wp P oj a w K' Q else K' (a.put oj.dst undef) w)
  (h3:∀K':Act->World->Prop,Shut (∀a w,S w->(S w->a1y P md ops Q S n fuel (listed.setIfInBounds l true) a w)->K' a w)->if Region.wanted ol (yielded ops a.tmps)=true then Oper.wp P ol a w K' Q else K' (a.put ol.dst undef) w):a1y P md ops Q S n (fuel+1) listed a w:=by
 refine⟨fun h0=>(by rw[hr]at h0;cases h0),fun k hk=>?_⟩;rw[hr]at hk;rcases List.mem_cons.1 hk with rfl|hk
 ·exact wpOp_step hi (fun K' hK=>h1 K' (fun a w hS hW=>hK a w ⟨fun _=>hS,hW hS⟩))
 ·rcases List.mem_cons.1 hk with rfl|hk
  ·exact wpOp_step hj (fun K' hK=>h2 K' (fun a w hS hW=>hK a w ⟨fun _=>hS,hW hS⟩))
  ·obtain rfl:k=l:=by simpa using hk
   exact wpOp_step hl (fun K' hK=>h3 K' (fun a w hS hW=>hK a w ⟨fun _=>hS,hW hS⟩))
end
end Go
namespace Go.Rep
open Go.RowKit Go.Lim
section
variable {α:Type} {R:Mem->Value->α->Prop} {sz e:Nat}
variable {P:Program} {ops:Array Oper} {Q:Exit->Act->World->Prop} {a:Act} {w:World}
theorem a1u {o:Oper} {K:Act->World->Prop} {E:Prop} {t by_:Nat} {z:Value} {x y:Operand} {kl kc:IntKind} {m:Int} (hg:o.guard=none) (hop:o.op= .makeSlice t x y) (T:SliceT P t e sz by_ z) (hR:Elem R sz) (x0:α) (hz:∀h,R h z x0) (X:Nat->Bool) (hX:∀k,X k=true->k<w.heap.size) (base:Nat) (hbase:base<=w.heap.size)
  (n:Nat) (hl:a.eval x= .int kl m) (hc:a.eval y= .int kc m) (hm:m=(n:Int)) (hroom:by_*n<=281474976710656) (hmax:n<=9223372036854775807)
  (hK:∀ao w',OL R sz X base e w' ao n (List.replicate n x0)->Ext w w'->K (a.put o.dst (.slice ao n n)) w'):
  if Region.wanted o (yielded ops a.tmps)=true then Oper.wp P o a w K Q else E:=by
 have hw:Region.wanted o (yielded ops a.tmps)=true:=by simp[Region.wanted,hg]
 rw[if_pos hw];subst hm;obtain⟨ao,w',hr,h2,h3⟩:=OL.run_make (P:=P) T hR x0 hz hX hbase kl kc n hroom hmax;unfold Oper.wp execOp;rw[hop];simp[hl,hc,hr,Result.andThen];exact hK ao w' h2 h3
end
end Go.Rep
namespace Go.Lin
def a7I (x:Mat) (y:List Rat):Bool:=a0x x&&decide (1<=x.length/\x.length<=64/\colsL x<=12/\y.length=x.length)
theorem a2N {x:Mat} {y:List Rat}:a7I x y=true↔a0x x=true/\1<=x.length/\x.length<=64/\colsL x<=12/\y.length=x.length:=by
 unfold a7I;rw[Bool.and_eq_true,decide_eq_true_eq]
theorem b3X {x:Mat} {y:List Rat} (h:¬(1<=x.length/\x.length<=64/\colsL x<=12/\y.length=x.length)):false=a7I x y:=by
 cases hc:a7I x y
 ·rfl
 ·exact absurd (a2N.1 hc).2 h
end Go.Lin
namespace Go.Proofs.YtkddecjkfdogiaaGreat
open Go.RowKit Go.Rep Go.Lim Go.Lin
set_option maxRecDepth 100000 in
set_option maxHeartbeats 3200000 in
theorem a7J (X:Nat->Bool) (w:World) (u v:Value) (x:Mat) (y:List Rat) (hX:HX X w) (hu:MV (mk X w) u x) (hv:RV (mk X w) v y) (hl:x.length<=1099511627776):Calls Tryz.prog 127 #[u,v] w (a9V w (a7I x y)):=by
 cases hf:a0x x
 ·have hno:=a4J X w u x hu hl hf
  have hr:Hid (false=a7I x y):=hid (by unfold a7I;rw[hf];rfl);clear hf;go_enter Tryz.func127,Tryz.ntmps127
  go_wp2_with fail
  refine hno.mono ?_;rintro e w1 ⟨rfl,rfl⟩;clear hno;go_wp2_with fail
  go_ret
  exact⟨ExtX.refl _,a0l hr.out⟩
 ·have hok:=a2e X w u x x.length (colsL x) hX hu hf rfl rfl
  have hyes:Hid (1<=x.length/\x.length<=64/\colsL x<=12/\y.length=x.length->true=a7I x y):=hid fun h=>(a2N.2 ⟨hf,h⟩).symm;have hno:Hid (¬(1<=x.length/\x.length<=64/\colsL x<=12/\y.length=x.length)->false=a7I x y):=hid b3X;have hcol:Hid (∀h:0<x.length,x[0].length=colsL x):=hid fun h=>(a4f h).symm;obtain⟨ua,uc,rfl,huc,hus⟩:=hu;obtain⟨va,vc,rfl,hvc,hvs⟩:=hv;have hhu:=hus.hd;obtain⟨b,hb⟩:∃b,a7I x y=b:=⟨_,rfl⟩;rw[hb]at hyes hno |-;obtain⟨n,hn⟩:∃n,x.length=n:=⟨_,rfl⟩;obtain⟨c,hc⟩:∃c,colsL x=c:=⟨_,rfl⟩;obtain⟨k,hk⟩:∃k,y.length=k:=⟨_,rfl⟩;have hn':=hid hn;rw[hc]at hcol;rw[hn,hc,hk]at hyes hno;rw[hn,hc]at hok;rw[hn]at hhu hl |-;rw[hk]at |-;clear hf hb hn hc hk hvs huc hvc;by_cases h1:1<=n
  ·have h1':(1:Int)<=(n:Int):=by omega
   by_cases h2:n<=64
   ·have h2':(n:Int)<=64:=by omega
    have h0:0<x.length:=by rw[hn'.out];omega
    obtain⟨a1,c1,hX1,hc1,hcl1,hq1⟩:=hus.row 0 h0;have hc0:=hcol.out h0;rw[hc0]at hc1;clear hc0 hq1 hcl1;by_cases h3:c<=12
    ·have h3':(c:Int)<=12:=by omega
     by_cases h4:k=n
     ·have h4':((k:Int)==(n:Int))=true:=a7n (by omega)
      have hr:=hid (hyes.out ⟨h1,h2,h3,h4⟩);clear h2 h3 h4;go_enter Tryz.func127,Tryz.ntmps127
      go_wp2_with fail
      refine hok.mono ?_;rintro e w1 ⟨hE1,tu,rfl,_⟩;clear hok;have k00:=hc1.out noY w1 hE1 rfl;go_wp2_with (with_reducible refine a0t a0r (by omega) (by assumption) ?_)
      go_ret
      exact⟨hE1,a0l hr.out⟩
     ·have h4':((k:Int)==(n:Int))=false:=a3E (by omega)
      have hr:=hid (hno.out fun h=>h4 h.2.2.2);clear h2 h3 h4;go_enter Tryz.func127,Tryz.ntmps127
      go_wp2_with fail
      refine hok.mono ?_;rintro e w1 ⟨hE1,tu,rfl,_⟩;clear hok;have k00:=hc1.out noY w1 hE1 rfl;go_wp2_with (with_reducible refine a0t a0r (by omega) (by assumption) ?_)
      go_ret
      exact⟨hE1,a0l hr.out⟩
    ·have h3':¬(c:Int)<=12:=by omega
     have hr:=hid (hno.out fun h=>h3 h.2.2.1);clear h2 h3;go_enter Tryz.func127,Tryz.ntmps127
     go_wp2_with fail
     refine hok.mono ?_;rintro e w1 ⟨hE1,tu,rfl,_⟩;clear hok;have k00:=hc1.out noY w1 hE1 rfl;go_wp2_with (with_reducible refine a0t a0r (by omega) (by assumption) ?_)
     go_ret
     exact⟨hE1,a0l hr.out⟩
   ·have h2':¬(n:Int)<=64:=by omega
    have hr:=hid (hno.out fun h=>h2 h.2.1);clear h2;go_enter Tryz.func127,Tryz.ntmps127
    go_wp2_with fail
    refine hok.mono ?_;rintro e w1 ⟨hE1,tu,rfl,_⟩;clear hok;go_wp2_with fail
    go_ret
    exact⟨hE1,a0l hr.out⟩
  ·have h1':¬(1:Int)<=(n:Int):=by omega
   have hr:=hid (hno.out fun h=>h1 h.1);clear h1;go_enter Tryz.func127,Tryz.ntmps127
   go_wp2_with fail
   refine hok.mono ?_;rintro e w1 ⟨hE1,tu,rfl,_⟩;clear hok;go_wp2_with fail
   go_ret
   exact⟨hE1,a0l hr.out⟩
end Go.Proofs.YtkddecjkfdogiaaGreat
