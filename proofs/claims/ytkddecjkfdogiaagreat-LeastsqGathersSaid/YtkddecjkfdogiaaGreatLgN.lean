/- reference 13: shift. Conditions: at most 12 columns, numbers of few digits. reference 13: Shift. Conditions: numbers of few digits. reference 13: none, Gather. Conditions: at most 8 rows and 4 columns, numbers of few digits. reference 13: Gather. Conditions: at most 8 rows and 4 columns, numbers of few digits. reference 03: TakeList, with the slice owned; reference 06: beside, Inverse. Conditions: few rows and columns, numbers of few digits. reference 06: Solve. Conditions: few rows and columns, numbers of few digits. reference 13: FromMoments. Conditions: at most 4 columns, numbers of few digits. -/
import Derived.Test.YtkddecjkfdogiaaGreatLgM
namespace Go.Proofs.YtkddecjkfdogiaaGreat
open Go.RowKit Go.Rep Go.Lim Go.Lin
set_option maxRecDepth 100000 in
set_option maxHeartbeats 12800000 in
theorem a6o (X:Nat->Bool) (w:World) (u r t:Value) (m:Mom) (row:List Rat) (v:Rat) (sg:Int) (n B:Nat) (hX:HX X w) (hu:a5g (mk X w) u m) (hr:RV (mk X w) r row) (ht:QV (mk X w) t v)
  (hsx:Shp n n m.xx) (hsy:m.xy.length=n) (hrl:row.length=n) (hn:n<=12) (hN1: -1<=m.n) (hN2:m.n<=1099511627777) (hsg:sg=1\/sg= -1) (_hBm:BMo B m) (hBr:BR B row) (hBv:hq v<=B) (hB:B<=1000000):
  Calls Tryz.prog 136 #[u,r,t, .int .i64 sg] w (a1X X w a2y (shM m row v sg)):=by
 obtain⟨xo,xl,xc,yo,yl,yc,s,a,n0,c,d,k,e,rfl,hx,hy,hqq⟩:=hu;obtain⟨s2,a2,n2,c2,d2,k2,e2,rfl⟩:=ht.shape;obtain⟨W,hW,hE,b0,b1,b2,hz⟩:=a2c w #[.int .i64 m.n, .slice xo xl xc, .slice yo yl yc, .bool s, .slice a n0 c, .slice d k e] #[.bool s2, .slice a2 n2 c2, .slice d2 k2 e2] #[.int .i64 0, .slice none 0 0, .slice none 0 0, .bool false, .slice none 0 0, .slice none 0 0] 83 32 83;have hXW:HX (a0g X w.heap.size 3) W:=hX.boxes hz;have hle:Hid (∀w',Ext W w'->Le (mk X w) (mk (a0g X w.heap.size 3) w')):=hid fun w' h=>a0n (hE.trans h);have hun:Hid (∀w',Le (mk (a0g X w.heap.size 3) w') (mk X w')):=hid fun w'=>a0k;obtain⟨b,hb⟩:∃b,w.heap.size=b:=⟨_,rfl⟩;rw[hb]at b0 b1 b2 hz hXW hle hun;have hbw:w.heap.size<=b:=by omega
 obtain⟨Z0,hZ0⟩:∃Z0,a0g X b 3=Z0:=⟨_,rfl⟩;rw[hZ0]at hXW hle hun;have hsgq:hq ((sg:Int):Rat)<=1:=by rcases hsg with rfl|rfl<;>decide+kernel
 have hB2:hq (v*v)<=2000000:=Nat.le_trans (hq_mul _ _) (by omega);have hB3:hq ((sg:Rat)*(v*v))<=2000001:=Nat.le_trans (hq_mul _ _) (by omega);have hwr:IntKind.i64.wrap (m.n+sg)=m.n+sg:=IntWalk.i64_in _ (by rcases hsg with rfl|rfl<;>omega);have hsg1: -9223372036854775808<=sg/\sg<=9223372036854775807:=by rcases hsg with rfl|rfl<;>omega
 obtain⟨N,hN⟩:∃N,m.n=N:=⟨_,rfl⟩;rw[hN]at b0 hW hwr |-;obtain⟨N',hN'⟩:∃N',N+sg=N':=⟨_,rfl⟩;have hNs:=hid hN';have hNe:Hid (m.n+sg=N'):=hid (by rw[hN,hN']);clear hN1 hN2 hsg hN hN';have hf:=a4A Z0 W sg hXW hsg1.1 hsg1.2;clear hsg1;obtain⟨F,hF⟩:∃F,a1X X w a2y (shM m row v sg)=F:=⟨_,rfl⟩;rw[hF];have hF':=hid hF;clear hF;go_enter Tryz.func136,Tryz.ntmps136
 go_wp2_with fail
 refine hf.mono ?_;rintro ee w2 ⟨hE2,u2,rfl,hu2⟩;obtain⟨s9,a9,n9,c9,d9,k9,e9,rfl⟩:=hu2.shape;have bf:=Bx.new w2 #[.bool false, .slice none 0 0, .slice none 0 0] 32;clear hf;go_upto_region 2 with((with_reducible show wpList _ _ _ (⟨_, .store 32 _ _,_,_,_,_⟩::_) _ _);refine a0b a0u rfl rfl bf rfl rfl (a2B _ _ _ _ _ _ _) ?_;intro w3 y1 y2)
 have hE23:Ext w2 w3:=ExtX.box ((ExtX.refl w2).alloc _) y2 (Nat.le_refl _);have hEW3:=hE2.trans hE23;have hs3:=mkx QC.mono hu2 hE23;have hX3:HX Z0 w3:=hXW.ext hEW3;have m3:=b0.ext0 hEW3;have v3:=b1.ext0 hEW3;have t3:=b2.ext0 hEW3;obtain⟨fb,hfb⟩:∃fb,w2.heap.size=fb:=⟨_,rfl⟩;rw[hfb]at y1 |-;have hxv:=MV.mono _ _ _ _ (hle.out w3 hEW3) hx;have hyv:=RV.mono _ _ _ _ (hle.out w3 hEW3) hy;have hqv:=QV.mono _ _ _ _ (hle.out w3 hEW3) hqq;have htv:=QV.mono _ _ _ _ (hle.out w3 hEW3) ht;have hrv:=RV.mono _ _ _ _ (hle.out w3 hEW3) hr;have hsv:QV (mk Z0 w3) (.agg #[.bool s9, .slice a9 n9 c9, .slice d9 k9 e9]) (sg:Rat):=hs3.qv (by omega);have hE03:Ext w w3:=hE.trans hEW3;have hE0:Ext w3 w3.drew:=(ExtX.refl w3).drew;have hX0:HX Z0 w3.drew:=hX3.ext hE0;have hc0:=hid fun Z w' (hZ:HX Z w') (hl:Le (mk Z0 w3.drew) (mk Z w'))=>a9C Z w' _ _ v v hZ (QV.mono _ _ _ _ hl (mkx QV.mono htv hE0)) (QV.mono _ _ _ _ hl (mkx QV.mono htv hE0));have hc1:=hid fun Z w' (hZ:HX Z w') (hl:Le (mk Z0 w3.drew) (mk Z w')) (u:Value) (h:QC (mk Z w') u (v*v))=>a9C Z w' _ u _ _ hZ (QV.mono _ _ _ _ hl (mkx QV.mono hsv hE0)) (h.qv (Nat.le_trans hB2 (by decide)));have hc2:=hid fun Z w' (hZ:HX Z w') (hl:Le (mk Z0 w3.drew) (mk Z w')) (u:Value) (h:QC (mk Z w') u ((sg:Rat)*(v*v)))=>b2k Z w' _ u _ _ hZ (QV.mono _ _ _ _ hl (mkx QV.mono hqv hE0)) (h.qv (Nat.le_trans hB3 (by decide)));have hS:Hid (∀w',Ext w3.drew w'->w'.cell? ⟨b,0,none⟩=some (.int .i64 N)/\(w'.cell? ⟨b,3,none⟩=some (.bool s)/\w'.cell? ⟨b,3+1,none⟩=some (.slice a n0 c)/\w'.cell? ⟨b,3+2,none⟩=some (.slice d k e))/\(w'.cell? ⟨fb,0,none⟩=some (.bool s9)/\w'.cell? ⟨fb,0+1,none⟩=some (.slice a9 n9 c9)/\w'.cell? ⟨fb,0+2,none⟩=some (.slice d9 k9 e9))/\(w'.cell? ⟨b+1,0,none⟩=some (.bool s2)/\w'.cell? ⟨b+1,0+1,none⟩=some (.slice a2 n2 c2)/\w'.cell? ⟨b+1,0+2,none⟩=some (.slice d2 k2 e2))):=hid fun w' h=>by
  have q0:=m3.ext0 (hE0.trans h);have q1:=v3.ext0 (hE0.trans h);have q2:=y1.ext0 (hE0.trans h);exact⟨q0.cell 0 rfl,⟨q0.cell 3 rfl,q0.cell 4 rfl,q0.cell 5 rfl⟩,⟨q2.cell 0 rfl,q2.cell 1 rfl,q2.cell 2 rfl⟩,⟨q1.cell 0 rfl,q1.cell 1 rfl,q1.cell 2 rfl⟩⟩
 obtain⟨D,hD⟩:∃D,m.yy+(sg:Rat)*(v*v)=D:=⟨_,rfl⟩;obtain⟨V1,hV1⟩:∃V1,v*v=V1:=⟨_,rfl⟩;rw[hV1]at hc0 hc1 hc2 hD;obtain⟨V2,hV2⟩:∃V2,(sg:Rat)*V1=V2:=⟨_,rfl⟩;rw[hV2]at hc1 hc2 hD;rw[hD]at hc2;have hDe:Hid (m.yy+(sg:Rat)*(v*v)=D):=hid (by rw[hV1,hV2,hD]);clear hV1 hV2 hD hu2 bf y2 hE2 hE23 b0 b1 b2 hqq ht hx hy hr
 (try simp only[Act.put])
 go_cut [10]from 14 to 26 (fun bv wx=>∃(g:Nat) (sd:Bool) (ad:Option Addr) (nd cd:Nat) (dd:Option Addr) (kd ed:Nat),bv= .pointer (some ⟨g,0,none⟩)/\Bx wx g #[.int .i64 N', .slice none 0 0, .slice none 0 0, .bool sd, .slice ad nd cd, .slice dd kd ed] 83/\QC (mk (un Z0 (some ⟨g,0,none⟩)) wx) (.agg #[.bool sd, .slice ad nd cd, .slice dd kd ed]) D/\w3.heap.size<=g/\g<wx.heap.size/\Ext w3 wx)
 case first=>
  refine a0y 14 (fun w'=>w'.cell? ⟨b,0,none⟩=some (.int .i64 N)/\(w'.cell? ⟨b,3,none⟩=some (.bool s)/\w'.cell? ⟨b,3+1,none⟩=some (.slice a n0 c)/\w'.cell? ⟨b,3+2,none⟩=some (.slice d k e))/\(w'.cell? ⟨fb,0,none⟩=some (.bool s9)/\w'.cell? ⟨fb,0+1,none⟩=some (.slice a9 n9 c9)/\w'.cell? ⟨fb,0+2,none⟩=some (.slice d9 k9 e9))/\(w'.cell? ⟨b+1,0,none⟩=some (.bool s2)/\w'.cell? ⟨b+1,0+1,none⟩=some (.slice a2 n2 c2)/\w'.cell? ⟨b+1,0+2,none⟩=some (.slice d2 k2 e2))) (by kernel_rfl) (by kernel_rfl) (hS.out _ (ExtX.refl _)) (fun hHeld hOnce=>?_);refine a0a hOnce (i:=0) (oi:=⟨_,_,_,_,_,_⟩) (v:=?_) rfl (by kernel_rfl) (fun _ _ _ h=>h) (by assumption) (by rfl) (fun w hSw=>?_) ?_
  rotate_left
  ·(try dsimp only at hSw)
   go_simp
   all_goals with_reducible rfl
  (try simp only[Act.put,List.setIfInBounds_toArray,List.set_cons_zero,List.set_cons_succ])
  refine a0a hOnce (i:=1) (oi:=⟨_,_,_,_,_,_⟩) (v:=?_) rfl (by kernel_rfl) (fun _ _ _ h=>h) (by assumption) (by rfl) (fun w hSw=>?_) ?_
  rotate_left
  ·(try dsimp only at hSw)
   go_simp
   all_goals with_reducible rfl
  (try simp only[Act.put,List.setIfInBounds_toArray,List.set_cons_zero,List.set_cons_succ])
  refine a0a hOnce (i:=2) (oi:=⟨_,_,_,_,_,_⟩) (v:=?_) rfl (by kernel_rfl) (fun _ _ _ h=>h) (by assumption) (by rfl) (fun w hSw=>?_) ?_
  rotate_left
  ·(try dsimp only at hSw)
   go_simp
   all_goals with_reducible rfl
  (try simp only[Act.put,List.setIfInBounds_toArray,List.set_cons_zero,List.set_cons_succ])
  refine a0a hOnce (i:=3) (oi:=⟨_,_,_,_,_,_⟩) (v:=?_) rfl (by kernel_rfl) (fun _ _ _ h=>h) (by assumption) (by rfl) (fun w hSw=>?_) ?_
  rotate_left
  ·(try dsimp only at hSw)
   go_simp
   all_goals with_reducible rfl
  (try simp only[Act.put,List.setIfInBounds_toArray,List.set_cons_zero,List.set_cons_succ])
  refine a0a hOnce (i:=4) (oi:=⟨_,_,_,_,_,_⟩) (v:=?_) rfl (by kernel_rfl) (fun _ _ _ h=>h) (by assumption) (by rfl) (fun w hSw=>?_) ?_
  rotate_left
  ·(try dsimp only at hSw)
   go_simp
   all_goals with_reducible rfl
  (try simp only[Act.put,List.setIfInBounds_toArray,List.set_cons_zero,List.set_cons_succ])
  refine a0a hOnce (i:=5) (oi:=⟨_,_,_,_,_,_⟩) (v:=?_) rfl (by kernel_rfl) (fun _ _ _ h=>h) (by assumption) (by rfl) (fun w hSw=>?_) ?_
  rotate_left
  ·(try dsimp only at hSw)
   go_simp
   all_goals with_reducible rfl
  (try simp only[Act.put,List.setIfInBounds_toArray,List.set_cons_zero,List.set_cons_succ])
  refine a0a hOnce (i:=6) (oi:=⟨_,_,_,_,_,_⟩) (v:=?_) rfl (by kernel_rfl) (fun _ _ _ h=>h) (by assumption) (by rfl) (fun w hSw=>?_) ?_
  rotate_left
  ·(try dsimp only at hSw)
   go_simp
   all_goals with_reducible rfl
  (try simp only[Act.put,List.setIfInBounds_toArray,List.set_cons_zero,List.set_cons_succ])
  refine a0a hOnce (i:=7) (oi:=⟨_,_,_,_,_,_⟩) (v:=?_) rfl (by kernel_rfl) (fun _ _ _ h=>h) (by assumption) (by rfl) (fun w hSw=>?_) ?_
  rotate_left
  ·(try dsimp only at hSw)
   go_simp
   all_goals with_reducible rfl
  (try simp only[Act.put,List.setIfInBounds_toArray,List.set_cons_zero,List.set_cons_succ])
  refine a0a hOnce (i:=8) (oi:=⟨_,_,_,_,_,_⟩) (v:=?_) rfl (by kernel_rfl) (fun _ _ _ h=>h) (by assumption) (by rfl) (fun w hSw=>?_) ?_
  rotate_left
  ·(try dsimp only at hSw)
   go_simp
   all_goals with_reducible rfl
  (try simp only[Act.put,List.setIfInBounds_toArray,List.set_cons_zero,List.set_cons_succ])
  refine a0N (i:=9) (j:=13) (oi:=⟨_,_,_,_,_,_⟩) (oj:=⟨_,_,_,_,_,_⟩) (by kernel_rfl) rfl rfl (fun K hK=>?_) (fun K hK=>?_)
  ·skip
   go_simp
   (go_at_call 59;(with_reducible refine(hc0.out Z0 w3.drew (hX0.ext (ExtX.refl (Y:=noY) w3.drew)) (a0p (ExtX.refl (Y:=noY) w3.drew))).mono ?_);rintro ee w40 ⟨r0,x0,rfl,g0⟩)
   refine hK.out _ _ (hS.out w40 ((ExtX.refl (Y:=noY) w3.drew).trans r0)) (fun hHeld=>?_);clear hK K
   (try simp only[Act.put,List.setIfInBounds_toArray,List.set_cons_zero,List.set_cons_succ])
   have R0:Ext w3.drew w40:=(ExtX.refl (Y:=noY) w3.drew).trans r0;refine a0N (i:=10) (j:=13) (oi:=⟨_,_,_,_,_,_⟩) (oj:=⟨_,_,_,_,_,_⟩) (by kernel_rfl) rfl rfl (fun K hK=>?_) (fun K hK=>?_)
   ·skip
    go_simp
    (go_at_call 59;(with_reducible refine(hc1.out Z0 w40 (hX0.ext R0) (a0p R0) _ g0).mono ?_);rintro ee w41 ⟨r1,x1,rfl,g1⟩)
    refine hK.out _ _ (hS.out w41 (R0.trans r1)) (fun hHeld=>?_);clear hK K
    (try simp only[Act.put,List.setIfInBounds_toArray,List.set_cons_zero,List.set_cons_succ])
    have R1:Ext w3.drew w41:=R0.trans r1;refine a0N (i:=11) (j:=13) (oi:=⟨_,_,_,_,_,_⟩) (oj:=⟨_,_,_,_,_,_⟩) (by kernel_rfl) rfl rfl (fun K hK=>?_) (fun K hK=>?_)
    ·skip
     go_simp
     (go_at_call 49;(with_reducible refine(hc2.out Z0 w41 (hX0.ext R1) (a0p R1) _ g1).mono ?_);rintro ee w42 ⟨r2,x2,rfl,g2⟩)
     refine hK.out _ _ (hS.out w42 (R1.trans r2)) (fun hHeld=>?_);clear hK K
     (try simp only[Act.put,List.setIfInBounds_toArray,List.set_cons_zero,List.set_cons_succ])
     have R2:Ext w3.drew w42:=R1.trans r2;obtain⟨sd,ad,nd,cd,dd,kd,ed,rfl⟩:=g2.shape;refine a0a hOnce (i:=12) (oi:=⟨_,_,_,_,_,_⟩) (v:=?_) rfl (by kernel_rfl) (fun _ _ _ h=>h) (by assumption) (by rfl) (fun w hSw=>?_) ?_
     rotate_left
     ·(try dsimp only at hSw)
      go_simp
      all_goals with_reducible rfl
     (try simp only[Act.put,List.setIfInBounds_toArray,List.set_cons_zero,List.set_cons_succ])
     have EA:Ext w42 (w42.alloc (.cells #[.int .i64 0, .slice none 0 0, .slice none 0 0, .bool false, .slice none 0 0, .slice none 0 0] 83)):=(ExtX.refl _).alloc _;have bA:Bx (w42.alloc (.cells #[.int .i64 0, .slice none 0 0, .slice none 0 0, .bool false, .slice none 0 0, .slice none 0 0] 83)) w42.heap.size #[.int .i64 0, .slice none 0 0, .slice none 0 0, .bool false, .slice none 0 0, .slice none 0 0] 83:=Bx.new w42 _ _;have hAs:(w42.alloc (.cells #[.int .i64 0, .slice none 0 0, .slice none 0 0, .bool false, .slice none 0 0, .slice none 0 0] 83)).heap.size=w42.heap.size+1:=by simp
     refine a0e (i:=13) (o:=⟨_,_,_,_,_,_⟩) (by kernel_rfl) rfl (fun K hK=>?_);go_simp
     skip
     refine hK.out _ _ (hS.out _ (R2.trans EA)) (fun hHeld=>?_);clear hK K
     (try simp only[Act.put,List.setIfInBounds_toArray,List.set_cons_zero,List.set_cons_succ])
     have hdA:=QC.mono _ _ _ _ (a0J EA (Nat.le_refl _)) g2;refine a0l (i:=14) (o:=⟨_,_,_,_,_,_⟩) (by kernel_rfl) rfl (by decide) (by kernel_rfl) (fun K hK=>?_)
     (refine a0C rfl rfl a0O rfl rfl bA rfl rfl (by intro v hv;simp at hv;rcases hv with rfl|rfl|rfl|rfl|rfl|rfl<;>rfl) ?_;intro w9 y1 y2)
     refine hK.out _ _ ?_;clear hK K
     (try simp only[Act.put])
     have hQ9:=QC.mono _ _ _ _ (a0E y2 fun k hk=>a0r hk) hdA;have hE9:Ext w3 w9:=ExtX.box (hE0.trans (R2.trans EA)) y2 R2.size;have hlt9:=Nat.lt_of_lt_of_le (show w42.heap.size<_ by rw[hAs];exact Nat.lt_succ_self _) y2.size;rw[hNs.out]at y1;go_wp2_with fail
     go_meet
     case rel=>exact⟨w42.heap.size,sd,ad,nd,cd,dd,kd,ed,rfl,y1,hQ9,R2.size,hlt9,hE9⟩
    ·skip
     have EA:Ext w41 (w41.alloc (.cells #[.int .i64 0, .slice none 0 0, .slice none 0 0, .bool false, .slice none 0 0, .slice none 0 0] 83)):=(ExtX.refl _).alloc _;have bA:Bx (w41.alloc (.cells #[.int .i64 0, .slice none 0 0, .slice none 0 0, .bool false, .slice none 0 0, .slice none 0 0] 83)) w41.heap.size #[.int .i64 0, .slice none 0 0, .slice none 0 0, .bool false, .slice none 0 0, .slice none 0 0] 83:=Bx.new w41 _ _;have hAs:(w41.alloc (.cells #[.int .i64 0, .slice none 0 0, .slice none 0 0, .bool false, .slice none 0 0, .slice none 0 0] 83)).heap.size=w41.heap.size+1:=by simp
     go_simp
     skip
     refine hK.out _ _ (hS.out _ (R1.trans EA)) (fun hHeld=>?_);clear hK K
     (try simp only[Act.put,List.setIfInBounds_toArray,List.set_cons_zero,List.set_cons_succ])
     obtain⟨wA,hwA⟩:∃wA,w41.alloc (.cells #[.int .i64 0, .slice none 0 0, .slice none 0 0, .bool false, .slice none 0 0, .slice none 0 0] 83)=wA:=⟨_,rfl⟩;have tA:Ext w3.drew wA:=by rw[<-hwA];exact R1.trans EA
     have prA:=QC.mono _ _ _ _ (a0J EA (Nat.le_refl _)) g1;rw[hwA]at EA bA hAs prA |-;obtain⟨gA,hgA⟩:∃gA,w41.heap.size=gA:=⟨_,rfl⟩;have hvg:w3.heap.size<=gA:=by rw[<-hgA];exact R1.size
     have hvgd:w3.drew.heap.size<=gA:=by have h9:w3.drew.heap.size=w3.heap.size:=rfl;rw[h9];exact hvg
     rw[hgA]at bA hAs prA |-;have glwA:gA<wA.heap.size:=by omega
     have xA2:=a0Z (hX0.ext tA) glwA;refine a0e (i:=11) (o:=⟨_,_,_,_,_,_⟩) (by kernel_rfl) rfl (fun K hK=>?_);go_simp
     (go_at_call 49;(with_reducible refine(hc2.out (un Z0 (some ⟨gA,0,none⟩)) wA xA2 (a0J tA hvgd) _ prA).mono ?_);rintro ee v2 ⟨q2,u2,rfl,h2⟩)
     refine hK.out _ _ (hS.out v2 (tA.trans q2)) (fun hHeld=>?_);clear hK K
     (try simp only[Act.put,List.setIfInBounds_toArray,List.set_cons_zero,List.set_cons_succ])
     have T2:=tA.trans q2;have b2:=bA.ext0 q2;have glv2:gA<v2.heap.size:=Nat.lt_of_lt_of_le glwA q2.size;obtain⟨sd,ad,nd,cd,dd,kd,ed,rfl⟩:=h2.shape;refine a0a hOnce (i:=12) (oi:=⟨_,_,_,_,_,_⟩) (v:=?_) rfl (by kernel_rfl) (fun _ _ _ h=>h) (by assumption) (by rfl) (fun w hSw=>?_) ?_
     rotate_left
     ·(try dsimp only at hSw)
      go_simp
      all_goals with_reducible rfl
     (try simp only[Act.put,List.setIfInBounds_toArray,List.set_cons_zero,List.set_cons_succ])
     refine a0l (i:=14) (o:=⟨_,_,_,_,_,_⟩) (by kernel_rfl) rfl (by decide) (by kernel_rfl) (fun K hK=>?_)
     (refine a0C rfl rfl a0O rfl rfl b2 rfl rfl (by intro v hv;simp at hv;rcases hv with rfl|rfl|rfl|rfl|rfl|rfl<;>rfl) ?_;intro w9 y1 y2)
     refine hK.out _ _ ?_;clear hK K
     (try simp only[Act.put])
     have hQ9:=QC.mono _ _ _ _ (a0E y2 fun k hk=>a0r hk) h2;have hE9:Ext w3 w9:=ExtX.box (hE0.trans T2) y2 hvg;have hlt9:=Nat.lt_of_lt_of_le glv2 y2.size;rw[hNs.out]at y1;go_wp2_with fail
     go_meet
     case rel=>exact⟨gA,sd,ad,nd,cd,dd,kd,ed,rfl,y1,hQ9,hvg,hlt9,hE9⟩
   ·skip
    have EA:Ext w40 (w40.alloc (.cells #[.int .i64 0, .slice none 0 0, .slice none 0 0, .bool false, .slice none 0 0, .slice none 0 0] 83)):=(ExtX.refl _).alloc _;have bA:Bx (w40.alloc (.cells #[.int .i64 0, .slice none 0 0, .slice none 0 0, .bool false, .slice none 0 0, .slice none 0 0] 83)) w40.heap.size #[.int .i64 0, .slice none 0 0, .slice none 0 0, .bool false, .slice none 0 0, .slice none 0 0] 83:=Bx.new w40 _ _;have hAs:(w40.alloc (.cells #[.int .i64 0, .slice none 0 0, .slice none 0 0, .bool false, .slice none 0 0, .slice none 0 0] 83)).heap.size=w40.heap.size+1:=by simp
    go_simp
    skip
    refine hK.out _ _ (hS.out _ (R0.trans EA)) (fun hHeld=>?_);clear hK K
    (try simp only[Act.put,List.setIfInBounds_toArray,List.set_cons_zero,List.set_cons_succ])
    obtain⟨wA,hwA⟩:∃wA,w40.alloc (.cells #[.int .i64 0, .slice none 0 0, .slice none 0 0, .bool false, .slice none 0 0, .slice none 0 0] 83)=wA:=⟨_,rfl⟩;have tA:Ext w3.drew wA:=by rw[<-hwA];exact R0.trans EA
    have prA:=QC.mono _ _ _ _ (a0J EA (Nat.le_refl _)) g0;rw[hwA]at EA bA hAs prA |-;obtain⟨gA,hgA⟩:∃gA,w40.heap.size=gA:=⟨_,rfl⟩;have hvg:w3.heap.size<=gA:=by rw[<-hgA];exact R0.size
    have hvgd:w3.drew.heap.size<=gA:=by have h9:w3.drew.heap.size=w3.heap.size:=rfl;rw[h9];exact hvg
    rw[hgA]at bA hAs prA |-;have glwA:gA<wA.heap.size:=by omega
    have xA1:=a0Z (hX0.ext tA) glwA;refine a0e (i:=10) (o:=⟨_,_,_,_,_,_⟩) (by kernel_rfl) rfl (fun K hK=>?_);go_simp
    (go_at_call 59;(with_reducible refine(hc1.out (un Z0 (some ⟨gA,0,none⟩)) wA xA1 (a0J tA hvgd) _ prA).mono ?_);rintro ee v1 ⟨q1,u1,rfl,h1⟩)
    refine hK.out _ _ (hS.out v1 (tA.trans q1)) (fun hHeld=>?_);clear hK K
    (try simp only[Act.put,List.setIfInBounds_toArray,List.set_cons_zero,List.set_cons_succ])
    have T1:=tA.trans q1;have b1:=bA.ext0 q1;have glv1:gA<v1.heap.size:=Nat.lt_of_lt_of_le glwA q1.size;have xA2:=a0Z (hX0.ext T1) glv1;refine a0e (i:=11) (o:=⟨_,_,_,_,_,_⟩) (by kernel_rfl) rfl (fun K hK=>?_);go_simp
    (go_at_call 49;(with_reducible refine(hc2.out (un Z0 (some ⟨gA,0,none⟩)) v1 xA2 (a0J T1 hvgd) _ h1).mono ?_);rintro ee v2 ⟨q2,u2,rfl,h2⟩)
    refine hK.out _ _ (hS.out v2 (T1.trans q2)) (fun hHeld=>?_);clear hK K
    (try simp only[Act.put,List.setIfInBounds_toArray,List.set_cons_zero,List.set_cons_succ])
    have T2:=T1.trans q2;have b2:=b1.ext0 q2;have glv2:gA<v2.heap.size:=Nat.lt_of_lt_of_le glv1 q2.size;obtain⟨sd,ad,nd,cd,dd,kd,ed,rfl⟩:=h2.shape;refine a0a hOnce (i:=12) (oi:=⟨_,_,_,_,_,_⟩) (v:=?_) rfl (by kernel_rfl) (fun _ _ _ h=>h) (by assumption) (by rfl) (fun w hSw=>?_) ?_
    rotate_left
    ·(try dsimp only at hSw)
     go_simp
     all_goals with_reducible rfl
    (try simp only[Act.put,List.setIfInBounds_toArray,List.set_cons_zero,List.set_cons_succ])
    refine a0l (i:=14) (o:=⟨_,_,_,_,_,_⟩) (by kernel_rfl) rfl (by decide) (by kernel_rfl) (fun K hK=>?_)
    (refine a0C rfl rfl a0O rfl rfl b2 rfl rfl (by intro v hv;simp at hv;rcases hv with rfl|rfl|rfl|rfl|rfl|rfl<;>rfl) ?_;intro w9 y1 y2)
    refine hK.out _ _ ?_;clear hK K
    (try simp only[Act.put])
    have hQ9:=QC.mono _ _ _ _ (a0E y2 fun k hk=>a0r hk) h2;have hE9:Ext w3 w9:=ExtX.box (hE0.trans T2) y2 hvg;have hlt9:=Nat.lt_of_lt_of_le glv2 y2.size;rw[hNs.out]at y1;go_wp2_with fail
    go_meet
    case rel=>exact⟨gA,sd,ad,nd,cd,dd,kd,ed,rfl,y1,hQ9,hvg,hlt9,hE9⟩
  ·skip
   have EA:Ext w3.drew (w3.alloc (.cells #[.int .i64 0, .slice none 0 0, .slice none 0 0, .bool false, .slice none 0 0, .slice none 0 0] 83)).drew:=⟨rfl,rfl,rfl,((ExtX.refl (Y:=noY) w3).alloc _).size,((ExtX.refl (Y:=noY) w3).alloc _).block⟩;have bA:Bx (w3.alloc (.cells #[.int .i64 0, .slice none 0 0, .slice none 0 0, .bool false, .slice none 0 0, .slice none 0 0] 83)).drew w3.heap.size #[.int .i64 0, .slice none 0 0, .slice none 0 0, .bool false, .slice none 0 0, .slice none 0 0] 83:=Bx.new w3 _ _;have hAs:(w3.alloc (.cells #[.int .i64 0, .slice none 0 0, .slice none 0 0, .bool false, .slice none 0 0, .slice none 0 0] 83)).drew.heap.size=w3.heap.size+1:=by show(w3.alloc _).heap.size=_;simp
   go_simp
   skip
   refine hK.out _ _ (hS.out _ ((ExtX.refl (Y:=noY) w3.drew).trans EA)) (fun hHeld=>?_);clear hK K
   (try simp only[Act.put,List.setIfInBounds_toArray,List.set_cons_zero,List.set_cons_succ])
   obtain⟨wA,hwA⟩:∃wA,(w3.alloc (.cells #[.int .i64 0, .slice none 0 0, .slice none 0 0, .bool false, .slice none 0 0, .slice none 0 0] 83)).drew=wA:=⟨_,rfl⟩;have tA:Ext w3.drew wA:=by rw[<-hwA];exact EA
   rw[hwA]at EA bA hAs |-;obtain⟨gA,hgA⟩:∃gA,w3.heap.size=gA:=⟨_,rfl⟩;have hvg:w3.heap.size<=gA:=by rw[<-hgA];exact Nat.le_refl _
   have hvgd:w3.drew.heap.size<=gA:=by have h9:w3.drew.heap.size=w3.heap.size:=rfl;rw[h9];exact hvg
   rw[hgA]at bA hAs |-;have glwA:gA<wA.heap.size:=by omega
   have xA0:=a0Z (hX0.ext tA) glwA;refine a0e (i:=9) (o:=⟨_,_,_,_,_,_⟩) (by kernel_rfl) rfl (fun K hK=>?_);go_simp
   (go_at_call 59;(with_reducible refine(hc0.out (un Z0 (some ⟨gA,0,none⟩)) wA xA0 (a0J tA hvgd)).mono ?_);rintro ee v0 ⟨q0,u0,rfl,h0⟩)
   refine hK.out _ _ (hS.out v0 (tA.trans q0)) (fun hHeld=>?_);clear hK K
   (try simp only[Act.put,List.setIfInBounds_toArray,List.set_cons_zero,List.set_cons_succ])
   have T0:=tA.trans q0;have b0:=bA.ext0 q0;have glv0:gA<v0.heap.size:=Nat.lt_of_lt_of_le glwA q0.size;have xA1:=a0Z (hX0.ext T0) glv0;refine a0e (i:=10) (o:=⟨_,_,_,_,_,_⟩) (by kernel_rfl) rfl (fun K hK=>?_);go_simp
   (go_at_call 59;(with_reducible refine(hc1.out (un Z0 (some ⟨gA,0,none⟩)) v0 xA1 (a0J T0 hvgd) _ h0).mono ?_);rintro ee v1 ⟨q1,u1,rfl,h1⟩)
   refine hK.out _ _ (hS.out v1 (T0.trans q1)) (fun hHeld=>?_);clear hK K
   (try simp only[Act.put,List.setIfInBounds_toArray,List.set_cons_zero,List.set_cons_succ])
   have T1:=T0.trans q1;have b1:=b0.ext0 q1;have glv1:gA<v1.heap.size:=Nat.lt_of_lt_of_le glv0 q1.size;have xA2:=a0Z (hX0.ext T1) glv1;refine a0e (i:=11) (o:=⟨_,_,_,_,_,_⟩) (by kernel_rfl) rfl (fun K hK=>?_);go_simp
   (go_at_call 49;(with_reducible refine(hc2.out (un Z0 (some ⟨gA,0,none⟩)) v1 xA2 (a0J T1 hvgd) _ h1).mono ?_);rintro ee v2 ⟨q2,u2,rfl,h2⟩)
   refine hK.out _ _ (hS.out v2 (T1.trans q2)) (fun hHeld=>?_);clear hK K
   (try simp only[Act.put,List.setIfInBounds_toArray,List.set_cons_zero,List.set_cons_succ])
   have T2:=T1.trans q2;have b2:=b1.ext0 q2;have glv2:gA<v2.heap.size:=Nat.lt_of_lt_of_le glv1 q2.size;obtain⟨sd,ad,nd,cd,dd,kd,ed,rfl⟩:=h2.shape;refine a0a hOnce (i:=12) (oi:=⟨_,_,_,_,_,_⟩) (v:=?_) rfl (by kernel_rfl) (fun _ _ _ h=>h) (by assumption) (by rfl) (fun w hSw=>?_) ?_
   rotate_left
   ·(try dsimp only at hSw)
    go_simp
    all_goals with_reducible rfl
   (try simp only[Act.put,List.setIfInBounds_toArray,List.set_cons_zero,List.set_cons_succ])
   refine a0l (i:=14) (o:=⟨_,_,_,_,_,_⟩) (by kernel_rfl) rfl (by decide) (by kernel_rfl) (fun K hK=>?_)
   (refine a0C rfl rfl a0O rfl rfl b2 rfl rfl (by intro v hv;simp at hv;rcases hv with rfl|rfl|rfl|rfl|rfl|rfl<;>rfl) ?_;intro w9 y1 y2)
   refine hK.out _ _ ?_;clear hK K
   (try simp only[Act.put])
   have hQ9:=QC.mono _ _ _ _ (a0E y2 fun k hk=>a0r hk) h2;have hE9:Ext w3 w9:=ExtX.box (hE0.trans T2) y2 hvg;have hlt9:=Nat.lt_of_lt_of_le glv2 y2.size;rw[hNs.out]at y1;go_wp2_with fail
   go_meet
   case rel=>exact⟨gA,sd,ad,nd,cd,dd,kd,ed,rfl,y1,hQ9,hvg,hlt9,hE9⟩
 case rest=>
  obtain⟨g,sd,ad,nd,cd,dd,kd,ed,rfl,bg,hQ,hge,hglt,hEc⟩:=hcut;clear hc0 hc1 hc2 hS hwr hE0 hX0;obtain⟨Z1,hZ1⟩:∃Z1,un Z0 (some ⟨g,0,none⟩)=Z1:=⟨_,rfl⟩;have hgZ:∀k,ob (some ⟨g,0,none⟩) k=true->Z1 k=true:=fun k hk=>by rw[<-hZ1];exact a0r hk
  have hgg:Z1 g=true:=hgZ g (by simp[ob]);have hZ10:Hid (∀k,k<w3.heap.size->Z1 k=true->Z0 k=true):=hid fun k hk h=>by
   rw[<-hZ1]at h;by_cases h0:Z0 k=true
   ·exact h0
   ·have:g=k:=by simpa[un,h0,ob]using h
    omega
  have hXZ:Hid (∀k,X k=true->Z1 k=true):=hid fun k hk=>by
   rw[<-hZ1,<-hZ0];exact a0o (by simp[a0g,hk])
  have hb3:Hid (∀k,ob (some ⟨b+1+1,0,none⟩) k=true->Z1 k=true):=hid fun k hk=>by
   have hk2:b+1+1=k:=by simpa[ob]using hk
   rw[<-hZ1,<-hZ0];exact a0o (a3C (by omega) (by omega))
  have hX1:HX Z1 wc:=fun k hk=>by
   rw[<-hZ1]at hk;by_cases h0:Z0 k=true
   ·exact hX3.ext hEc k h0
   ·have:g=k:=by simpa[un,h0,ob]using hk
    omega
  rw[hZ1]at hQ;have hrV:=hid fun v Z (hl:Le (mk Z0 w3) (mk Z v))=>RV.mono _ _ _ _ hl hrv;have hyV:=hid fun v Z (hl:Le (mk Z0 w3) (mk Z v))=>RV.mono _ _ _ _ hl hyv;have htV:=hid fun v Z (hl:Le (mk Z0 w3) (mk Z v))=>QV.mono _ _ _ _ hl htv;have hsV:=hid fun v Z (hl:Le (mk Z0 w3) (mk Z v))=>QV.mono _ _ _ _ hl hsv;obtain⟨ro,rc,rfl,hrc,hrs⟩:=hrv;obtain⟨xo',xc',he,hxc,hxs⟩:=hxv;simp only[Value.slice.injEq]at he;obtain⟨rfl,rfl,rfl⟩:=he;have hyl0:m.xy.length=yl:=by obtain⟨_,_,h,_⟩:=hyv;simp at h;exact h.2.1.symm
  have hhr:=hrs.hd;have hhx:=hxs.hd;have hrl':=hid hrl;have hxl':=hid hsx.1;have hxr':=hid hsx.2;rw[hrl]at hhr hrc hrV |-;rw[hsx.1]at hhx hxc m3 |-;obtain⟨XD,hXD⟩:∃XD,(shM m row v sg).xx=XD:=⟨_,rfl⟩;obtain⟨YD,hYD⟩:∃YD,(shM m row v sg).xy=YD:=⟨_,rfl⟩;have hXl:Hid (XD.length=n):=hid (by rw[<-hXD];show(ofF row.length row.length _).length=n;rw[hrl];exact(a6s _ _ _).1);have hXj:Hid (∀j (h:j<XD.length) (h1:j<m.xx.length) (h2:j<row.length),List.zipWith (· + ·) m.xx[j] (row.map (· *((sg:Rat)*row[j])))=XD[j]):=hid fun j h h1 h2=>by
   subst hXD;have hml:m.xx[j].length=n:=hsx.2 _ (List.getElem_mem h1);refine List.ext_getElem (by simp[shM,ofF,hml,hrl]) fun q q1 q2=>?_;have hq:q<n:=by simp[hml,hrl]at q1;exact q1
   have e1:ent m.xx j q=m.xx[j][q]'(by rw[hml];exact hq):=(a7O h1 (by rw[hml];exact hq)).symm;simp only[List.getElem_zipWith,List.getElem_map];have e2:((shM m row v sg).xx[j]'h)[q]'q2=ent m.xx j q+(sg:Rat)*fn row j*fn row q:=by simp[shM,ofF]
   rw[e2,e1];have e3:fn row j=row[j]:=by simp[fn,List.getD_eq_getElem?_getD,h2]
   have e4:fn row q=row[q]'(by omega):=by simp[fn,List.getD_eq_getElem?_getD,show q<row.length by omega]
   rw[e3,e4];grind
  have hYj:Hid (List.zipWith (· + ·) m.xy (row.map (· *((sg:Rat)*v)))=YD):=hid (by
   subst hYD;refine List.ext_getElem (by simp[shM,hrl,hsy]) fun q q1 q2=>?_;have hq:q<n:=by simp[hrl,hsy]at q1;exact q1
   simp only[List.getElem_zipWith,List.getElem_map];have e2:(shM m row v sg).xy[q]'q2=fn m.xy q+(sg:Rat)*fn row q*v:=by simp[shM]
   have e3:fn m.xy q=m.xy[q]'(by omega):=by simp[fn,List.getD_eq_getElem?_getD,show q<m.xy.length by omega]
   have e4:fn row q=row[q]'(by omega):=by simp[fn,List.getD_eq_getElem?_getD,show q<row.length by omega]
   rw[e2,e3,e4];grind)
  have hYl:Hid (YD.length=n):=hid (by rw[<-hYD];simp[shM,hrl]);have hfin:Hid (∀w' (s0:Bool) (a0:Option Addr) (k0 c0:Nat) (d0:Option Addr) (p0 e0:Nat) xo2 xc2 yo2 yc2,Ext w w'->MC (mk X w') (.slice xo2 n xc2) XD->RC (mk X w') (.slice yo2 n yc2) YD->QC (mk X w') (.agg #[.bool s0, .slice a0 k0 c0, .slice d0 p0 e0]) D->F (.returned (.agg #[.int .i64 N', .slice xo2 n xc2, .slice yo2 n yc2, .bool s0, .slice a0 k0 c0, .slice d0 p0 e0])) w'):=hid fun w' s0 a0 k0 c0 d0 p0 e0 xo2 xc2 yo2 yc2 h1 h2 h3 h4=>by
   rw[<-hF'.out];refine⟨h1,_,rfl,xo2,n,xc2,yo2,n,yc2,s0,a0,k0,c0,d0,p0,e0,?_,by rw[hXD];exact h2,by rw[hYD];exact h3,?_⟩
   ·show _=Value.agg #[.int .i64 (m.n+sg),_,_,_,_,_]
    rw[hNe.out]
   ·show QC _ _ (m.yy+(sg:Rat)*(v*v))
    rw[hDe.out];exact h4
  have hbr:Hid (∀j (h:j<row.length),hq row[j]<=B):=hid fun j h=>hBr _ (List.getElem_mem _);have hsvq:hq ((sg:Rat)*v)<=68719476736:=Nat.le_trans (hq_mul _ _) (by omega);have hrow:=hid fun Z wr (h:Ext w3 wr) (h1:∀k,k<w3.heap.size->Z k=true->Z1 k=true)=>(b4n h fun k hk hz=>hZ10.out k hk (h1 k hk hz):Le (mk Z0 w3) (mk Z wr));have hmul:=hid fun Z w' (hZ:HX Z w') (hl:Le (mk Z0 w3) (mk Z w')) (u:Value) (r:Rat) (h:QV (mk Z w') u r)=>a9C Z w' _ u _ r hZ (hsV.out w' Z hl) h;have htim:=hid fun Z w' (hZ:HX Z w') (hl:Le (mk Z0 w3) (mk Z w')) (u:Value) (r:Rat) (h:QC (mk Z w') u r) (hr:hq r<=68719476736)=>b0J Z w' _ u row r hZ (hrV.out w' Z hl) (h.qv hr) (by omega);have htb:=hid fun(r:Rat) (hr:hq r<=2000001)=>(fun q hq'=>by
   obtain⟨x,hx,rfl⟩:=List.mem_map.1 hq';have:=hq_mul x r;have:=hBr x hx;omega:BR 68719476736 (row.map (· *r)))
  have hply:=hid fun Z w' (hZ:HX Z w') (hl:Le (mk Z0 w3) (mk Z w')) (u:Value) (h:RC (mk Z w') u (row.map (· *((sg:Rat)*v))))=>b4d Z w' _ u m.xy _ hZ (hyV.out w' Z hl) (h.rv (htb.out _ (Nat.le_trans (hq_mul _ _) (by omega)))) (by omega) (by rw[List.length_map];omega);rw[hYj.out]at hply;have hpl:=hid fun Z w' (hZ:HX Z w') (u u2:Value) (xs:List Rat) (r:Rat) (hr:hq r<=2000001) (hxl:xs.length=n) (hx:RV (mk Z w') u xs) (h:RC (mk Z w') u2 (row.map (· *r)))=>b4d Z w' u u2 xs _ hZ hx (h.rv (htb.out r hr)) (by omega) (by rw[List.length_map];omega);rw[hsy]at hyl0;subst hyl0;clear hXD hYD hF' hZ1 hsx hsy hrl _hBm hBr hDe hNe hZ0 hyv htv hsv;go_wp2_with fail
  go_loopw [11] (fun q wr=>∃(j:Nat) (xo2:Option Addr) (xc2:Nat),q= .int .i64 j/\j<=n/\Bx wr g #[.int .i64 N', .slice xo2 j xc2, .slice none 0 0, .bool sd, .slice ad nd cd, .slice dd kd ed] 83/\OL RC 1 Z1 w3.heap.size 45 wr xo2 xc2 (XD.take j)/\QC (mk (un Z1 xo2) wr) (.agg #[.bool sd, .slice ad nd cd, .slice dd kd ed]) D/\HX Z1 wr/\Ext w3 wr) (fun q _=>n - (intOf q).toNat)
  case atStart=>exact⟨0,none,0,rfl,Nat.zero_le _,bg,OL.nil _ _ _ _ _ _,by rw[a8n];exact hQ,hX1,hEc⟩
  case round=>
   clear hQ hX1 bg hEc;obtain⟨j,xo2,xc2,rfl,hj,bg,hOX,hQ,hXr1,hEr⟩:=hrel;by_cases hlt:j<n
   ·have hjr:j<row.length:=by rw[hrl'.out];exact hlt
    have hjx:j<m.xx.length:=by rw[hxl'.out];exact hlt
    have hjX:j<XD.length:=by rw[hXl.out];exact hlt
    have htX:=hid (a1r XD j hjX);have hlX:=hid (a1H (l:=XD) (i:=j) (by omega));have hXe:=hXj.out j hjX hjx hjr;have hobX:∀k,k<w3.heap.size->ob xo2 k=false:=fun k hk=>hOX.ob_lt hk;obtain⟨ZJ,hZJ⟩:∃ZJ,un Z1 xo2=ZJ:=⟨_,rfl⟩;have hXJ:HX ZJ wr:=by rw[<-hZJ];exact a3h hXr1 fun k hk=>(hOX.block hk).2
    have hsub3:∀k,k<w3.heap.size->ZJ k=true->Z1 k=true:=fun k hk hz=>by
     rw[<-hZJ]at hz;have e1:=hobX k hk;cases h0:Z1 k
     ·simp[un,h0,e1]at hz
     ·rfl
    have hEd:Ext wr wr.drew:=(ExtX.refl wr).drew;have hE3d:=hEr.trans hEd;have hl3:=hid fun v (h:Ext wr.drew v)=>hrow.out ZJ v (hE3d.trans h) hsub3;have hrsj:=hrs.mono QV.mono (hl3.out wr.drew (ExtX.refl _));obtain⟨ge,oe,se,pe,ne,qe,de,ke,ee2,hgx,hXx,hcxx,hqxx⟩:=hrsj.rat QV.shaped j hjr;obtain⟨rxo,rxc,_,hcx,hclx,hqx⟩:=hxs.row j hjx;have hxrl:=hid (hxr'.out m.xx[j] (List.getElem_mem _));have hxj:=hid fun v (h:Ext wr.drew v)=>(⟨rxo,rxc,rfl,hclx,hqx.mono QV.mono (hl3.out v h)⟩:RV (mk ZJ v) (.slice rxo m.xx[j].length rxc) m.xx[j]);have hrq:=hid (hbr.out j hjr);rw[hxrl.out]at hcx;obtain⟨rj,hrj⟩:∃rj,row[j]=rj:=⟨_,rfl⟩;obtain⟨xj,hxje⟩:∃xj,m.xx[j]=xj:=⟨_,rfl⟩;have hxjv:Hid (∀v,Ext wr.drew v->RV (mk ZJ v) (.slice rxo n rxc) xj):=hid fun v h=>by rw[<-hxje,<-hxrl.out];exact hxj.out v h
    rw[hrj]at hXe hrq hqxx;rw[hxje]at hXe hxrl;have hXe':=hid hXe;have hwq:hq ((sg:Rat)*rj)<=2000001:=Nat.le_trans (hq_mul _ _) (by have:=hrq.out;omega);obtain⟨LJ,hLJ⟩:∃LJ,XD[j]=LJ:=⟨_,rfl⟩;rw[hLJ]at hXe' htX;have og:ob xo2 g=false:=by
     cases hc:ob xo2 g
     ·rfl
     ·have:=(hOX.1 g hc);rw[hgg]at this;cases this
    have o1:ob xo2 b=false:=hobX _ (a1B (m3.cell 0 rfl));have o2:ob xo2 (adr xo j).block=false:=hobX _ (a1B (hcx.out noY w3 (ExtX.refl _) rfl));have o3:ob xo2 fb=false:=hobX _ (a1B (y1.cell 0 rfl));have o4:ob xo2 ge=false:=by rw[<-hZJ]at hXx;exact(a0X hXx).2
    have bgd:=bg.ext0 hEd;have hm3:=m3.ext0 hE3d;have hf3:=y1.ext0 hE3d;have hOd:=hOX.ext0 RC.elem hEd;have hS:Hid (∀Y W',ExtX Y wr.drew W'->Y g=false->Y b=false->Y (adr xo j).block=false->Y fb=false->Y ge=false->W'.cell? ⟨g,1,none⟩=some (.slice xo2 j xc2)/\W'.cell? ⟨b,1,none⟩=some (.slice xo n xc)/\W'.cell? (adr xo j)=some (.slice rxo n rxc)/\(W'.cell? ⟨fb,0,none⟩=some (.bool s9)/\W'.cell? ⟨fb,0+1,none⟩=some (.slice a9 n9 c9)/\W'.cell? ⟨fb,0+2,none⟩=some (.slice d9 k9 e9))/\(W'.cell? ⟨ge,oe,none⟩=some (.bool se)/\W'.cell? ⟨ge,oe+1,none⟩=some (.slice pe ne qe)/\W'.cell? ⟨ge,oe+2,none⟩=some (.slice de ke ee2))):=hid fun Y W' h h1 h2 h3 h4 h5=>by
     have p1:=bgd.ext h h1;have p2:=hm3.ext h h2;have p3:=hf3.ext h h4;exact⟨p1.cell 1 rfl,p2.cell 1 rfl,hcx.out Y W' ((ExtX.of hE3d).trans h) h3,⟨p3.cell 0 rfl,p3.cell 1 rfl,p3.cell 2 rfl⟩,hcxx.out Y W' h h5⟩
    have i1:∀W,(Instr.indexAt 25 (.slice xo n xc) (.int .i64 (j:Int))).run Tryz.prog W= .ok (.pointer (some (adr xo j))) W:=a0w a0s xo n xc .i64 j hhx (by omega) rfl;have i2:∀W,(Instr.indexAt 45 (.slice ro n rc) (.int .i64 (j:Int))).run Tryz.prog W= .ok (.pointer (some ⟨ge,oe,none⟩)) W:=by rw[<-hgx];exact a0j a0H ro n rc .i64 j hhr (by omega)
    have hXd:HX ZJ wr.drew:=hXJ.ext hEd;have hX1d:HX Z1 wr.drew:=hXr1.ext hEd;have hbX:w3.heap.size<=wr.drew.heap.size:=hE3d.size;have hQd:=mkx QC.mono hQ hEd;clear hrj hxje hLJ hXe hrsj hgx hxj bg hOX hQ hqx hcx hcxx;go_wp2_with fail
    (try simp only[Act.put])
    refine a0y 19 (fun W'=>W'.cell? ⟨g,1,none⟩=some (.slice xo2 j xc2)/\W'.cell? ⟨b,1,none⟩=some (.slice xo n xc)/\W'.cell? (adr xo j)=some (.slice rxo n rxc)/\(W'.cell? ⟨fb,0,none⟩=some (.bool s9)/\W'.cell? ⟨fb,0+1,none⟩=some (.slice a9 n9 c9)/\W'.cell? ⟨fb,0+2,none⟩=some (.slice d9 k9 e9))/\(W'.cell? ⟨ge,oe,none⟩=some (.bool se)/\W'.cell? ⟨ge,oe+1,none⟩=some (.slice pe ne qe)/\W'.cell? ⟨ge,oe+2,none⟩=some (.slice de ke ee2))) (by kernel_rfl) (by kernel_rfl) (hS.out noY _ (ExtX.refl _) rfl rfl rfl rfl rfl) (fun hHeld hOnce=>?_);refine kt 0 hOnce ?_;refine kt 1 hOnce ?_;refine kt 2 hOnce ?_;refine kt 3 hOnce ?_;refine kt 4 hOnce ?_;refine kt 5 hOnce ?_;refine kt 6 hOnce ?_;refine kt 7 hOnce ?_;refine kt 8 hOnce ?_;refine kt 9 hOnce ?_;refine kt 10 hOnce ?_;refine kt 11 hOnce ?_;refine kt 12 hOnce ?_;refine a0e (i:=13) (o:=⟨_,_,_,_,_,_⟩) (by kernel_rfl) rfl (fun K hK=>?_);go_simp
    ((with_reducible refine(hmul.out ZJ wr.drew hXd (hl3.out _ (ExtX.refl _)) _ rj hqxx).mono ?_);rintro ee w5 ⟨t1,u5,rfl,hu5⟩)
    refine hK.out _ _ (hS.out noY w5 t1 rfl rfl rfl rfl rfl) (fun hHeld=>?_);clear hK K
    (try simp only[Act.put,List.setIfInBounds_toArray,List.set_cons_zero,List.set_cons_succ])
    refine a0e (i:=14) (o:=⟨_,_,_,_,_,_⟩) (by kernel_rfl) rfl (fun K hK=>?_);go_simp
    ((with_reducible refine(htim.out ZJ w5 (hXd.ext t1) (hl3.out _ t1) u5 _ hu5 (by omega)).mono ?_);rintro ee w6 ⟨t2,u6,rfl,hu6⟩)
    refine hK.out _ _ (hS.out noY w6 (t1.trans t2) rfl rfl rfl rfl rfl) (fun hHeld=>?_);clear hK K
    (try simp only[Act.put,List.setIfInBounds_toArray,List.set_cons_zero,List.set_cons_succ])
    have t12:=t1.trans t2;refine a0e (i:=15) (o:=⟨_,_,_,_,_,_⟩) (by kernel_rfl) rfl (fun K hK=>?_);go_simp
    ((with_reducible refine(hpl.out ZJ w6 (hXd.ext t12) _ u6 xj _ hwq hxrl.out (hxjv.out w6 t12) hu6).mono ?_);rintro ee w7 ⟨t3,u7,rfl,hu7⟩)
    refine hK.out _ _ (hS.out noY w7 (t12.trans t3) rfl rfl rfl rfl rfl) (fun hHeld=>?_);clear hK K
    (try simp only[Act.put,List.setIfInBounds_toArray,List.set_cons_zero,List.set_cons_succ])
    have t13:=t12.trans t3;rw[hXe'.out,<-hZJ]at hu7;have hu7':=hid hu7;obtain⟨uo7,uc7,rfl,huc7,hus7⟩:=hu7;have hO7:=hOd.ext0 RC.elem t13;have hX7:=hX1d.ext t13;have hb7:=Nat.le_trans hbX t13.size;refine a0e (i:=16) (o:=⟨_,_,_,_,_,_⟩) (by kernel_rfl) rfl (fun K hK=>?_);go_simp
    skip
    refine hK.out _ _ (hS.out noY _ (t13.alloc _) rfl rfl rfl rfl rfl) (fun hHeld=>?_);clear hK K
    (try simp only[Act.put,List.setIfInBounds_toArray,List.set_cons_zero,List.set_cons_succ])
    refine a0e (i:=17) (o:=⟨_,_,_,_,_,_⟩) (by kernel_rfl) rfl (fun K hK=>?_)
    (refine a1b (l:=XD.take j) rfl (by rfl) a0s rfl RC.elem hb7 hX7 j hlX.out rfl rfl hO7 (.slice uo7 LJ.length uc7) LJ rfl hu7'.out (by omega) (by omega) ?_;intro xo9 xc9 w8 hO8 hE8 hor8)
    refine hK.out _ _ (hS.out (ob xo2) w8 ((ExtX.of t13).trans hE8) og o1 o2 o3 o4) (fun hHeld=>?_);clear hK K
    (try simp only[Act.put,List.setIfInBounds_toArray,List.set_cons_zero,List.set_cons_succ])
    have bg8:=(bgd.ext0 t13).ext hE8 og;refine kt 18 hOnce ?_;refine a0l (i:=19) (o:=⟨_,_,_,_,_,_⟩) (by kernel_rfl) rfl (by decide) (by kernel_rfl) (fun K hK=>?_)
    (refine a2j (v:= .slice xo9 (j+1) xc9) rfl rfl b0Y rfl rfl rfl rfl bg8 (by simp) ?_;intro w9 bg9 hE9)
    refine hK.out _ _ ?_;clear hK K
    (try simp only[Act.put])
    have bg9':Bx w9 g #[.int .i64 N', .slice xo9 (j+1) xc9, .slice none 0 0, .bool sd, .slice ad nd cd, .slice dd kd ed] 83:=by simpa using bg9
    rw[htX.out]at hO8;have hEt:=hEd.trans t13;have hO9:=hO8.ext RC.elem (Z:=Z1) hE9 (fun q _ hq=>hgZ q hq) (fun _ _ h=>h);have hQ9:QC (mk (un Z1 xo9) w9) (.agg #[.bool sd, .slice ad nd cd, .slice dd kd ed]) D:=QC.mono _ _ _ _ (a1g hE9 (fun q _ hq=>a0o (hgZ q hq)) (fun _ _ h=>h)) (QC.mono _ _ _ _ (a1g (Z:=un Z1 xo9) hE8 (fun q _ hq=>a0r hq) (fun q hq hz=>un_or (X:=Z1) hor8 q hq hz)) (mkx QC.mono hQd t13));have hE39:Ext w3 w9:=ExtX.box ((hE3d.trans t13).own hO7 (Nat.le_refl _) hE8) hE9 hge;have hX9:HX Z1 w9:=fun q hq=>Nat.lt_of_lt_of_le (hX7 q hq) (Nat.le_trans hE8.size hE9.size);clear hHeld hOnce hS i1 i2;go_wp2_with fail
    go_roundw
    case rel=>exact⟨j+1,xo9,xc9,by go_num,by omega,bg9',hO9,hQ9,hX9,hE39⟩
    case measure=>simp[intOf];omega
   ·have hjn:j=n:=by omega
    subst hjn;rw[List.take_of_length_le (by rw[hXl.out];exact Nat.le_refl _)]at hOX;obtain⟨ZJ,hZJ⟩:∃ZJ,un Z1 xo2=ZJ:=⟨_,rfl⟩;have hXJ:HX ZJ wr:=by rw[<-hZJ];exact a3h hXr1 fun k hk=>(hOX.block hk).2
    have hsub3:∀k,k<w3.heap.size->ZJ k=true->Z1 k=true:=fun k hk hz=>by
     rw[<-hZJ]at hz;have e1:ob xo2 k=false:=hOX.ob_lt hk;cases h0:Z1 k
     ·simp[un,h0,e1]at hz
     ·rfl
    have hgJ:∀k,ob (some ⟨g,0,none⟩) k=true->ZJ k=true:=fun k hk=>by rw[<-hZJ];exact a0o (hgZ k hk)
    have hEd:Ext wr wr.drew:=(ExtX.refl wr).drew;have hE3d:=hEr.trans hEd;have hl3:=hid fun v (h:Ext wr.drew v)=>hrow.out ZJ v (hE3d.trans h) hsub3;have bgd:=bg.ext0 hEd;have hm3:=m3.ext0 hE3d;have hf3:=y1.ext0 hE3d;have hv3:=v3.ext0 hE3d;have trb:=t3;have hS:Hid (∀W',Ext wr.drew W'->W'.cell? ⟨b,2,none⟩=some (.slice yo j yc)/\(W'.cell? ⟨fb,0,none⟩=some (.bool s9)/\W'.cell? ⟨fb,0+1,none⟩=some (.slice a9 n9 c9)/\W'.cell? ⟨fb,0+2,none⟩=some (.slice d9 k9 e9))/\(W'.cell? ⟨b+1,0,none⟩=some (.bool s2)/\W'.cell? ⟨b+1,0+1,none⟩=some (.slice a2 n2 c2)/\W'.cell? ⟨b+1,0+2,none⟩=some (.slice d2 k2 e2))):=hid fun W' h=>by
     have p2:=hm3.ext0 h;have p3:=hf3.ext0 h;have p4:=hv3.ext0 h;exact⟨p2.cell 2 rfl,⟨p3.cell 0 rfl,p3.cell 1 rfl,p3.cell 2 rfl⟩,⟨p4.cell 0 rfl,p4.cell 1 rfl,p4.cell 2 rfl⟩⟩
    have hXd:HX ZJ wr.drew:=hXJ.ext hEd;have hOd:=hOX.ext0 RC.elem hEd;have hQd:=mkx QC.mono hQ hEd;rw[hZJ]at hQd;clear bg hOX hQ;go_wp2_with fail
    (try simp only[Act.put])
    refine a0y 9 (fun W'=>W'.cell? ⟨b,2,none⟩=some (.slice yo j yc)/\(W'.cell? ⟨fb,0,none⟩=some (.bool s9)/\W'.cell? ⟨fb,0+1,none⟩=some (.slice a9 n9 c9)/\W'.cell? ⟨fb,0+2,none⟩=some (.slice d9 k9 e9))/\(W'.cell? ⟨b+1,0,none⟩=some (.bool s2)/\W'.cell? ⟨b+1,0+1,none⟩=some (.slice a2 n2 c2)/\W'.cell? ⟨b+1,0+2,none⟩=some (.slice d2 k2 e2))) (by kernel_rfl) (by kernel_rfl) (hS.out _ (ExtX.refl _)) (fun hHeld hOnce=>?_);refine kt 0 hOnce ?_;refine kt 1 hOnce ?_;refine kt 2 hOnce ?_;refine kt 3 hOnce ?_;refine kt 4 hOnce ?_;refine a0e (i:=5) (o:=⟨_,_,_,_,_,_⟩) (by kernel_rfl) rfl (fun K hK=>?_);go_simp
    ((with_reducible refine(hmul.out ZJ wr.drew hXd (hl3.out _ (ExtX.refl _)) _ v (htV.out _ ZJ (hl3.out _ (ExtX.refl _)))).mono ?_);rintro ee w5 ⟨t1,u5,rfl,hu5⟩)
    refine hK.out _ _ (hS.out w5 t1) (fun hHeld=>?_);clear hK K
    (try simp only[Act.put,List.setIfInBounds_toArray,List.set_cons_zero,List.set_cons_succ])
    refine a0e (i:=6) (o:=⟨_,_,_,_,_,_⟩) (by kernel_rfl) rfl (fun K hK=>?_);go_simp
    ((with_reducible refine(htim.out ZJ w5 (hXd.ext t1) (hl3.out _ t1) u5 _ hu5 hsvq).mono ?_);rintro ee w6 ⟨t2,u6,rfl,hu6⟩)
    refine hK.out _ _ (hS.out w6 (t1.trans t2)) (fun hHeld=>?_);clear hK K
    (try simp only[Act.put,List.setIfInBounds_toArray,List.set_cons_zero,List.set_cons_succ])
    have t12:=t1.trans t2;refine a0e (i:=7) (o:=⟨_,_,_,_,_,_⟩) (by kernel_rfl) rfl (fun K hK=>?_);go_simp
    ((with_reducible refine(hply.out ZJ w6 (hXd.ext t12) (hl3.out _ t12) u6 hu6).mono ?_);rintro ee w7 ⟨t3,u7,rfl,hu7⟩)
    refine hK.out _ _ (hS.out w7 (t12.trans t3)) (fun hHeld=>?_);clear hK K
    (try simp only[Act.put,List.setIfInBounds_toArray,List.set_cons_zero,List.set_cons_succ])
    have t13:=t12.trans t3;have hu7':=hid hu7;obtain⟨uo7,uc7,rfl,huc7,hus7⟩:=hu7;rw[hYl.out]at hu7' |-;have bg7:=bgd.ext0 t13;have hO7:=hOd.ext0 RC.elem t13;have hQ7:=mkx QC.mono hQd t13;refine kt 8 hOnce ?_;refine a0l (i:=9) (o:=⟨_,_,_,_,_,_⟩) (by kernel_rfl) rfl (by decide) (by kernel_rfl) (fun K hK=>?_)
    (refine a2j (v:= .slice uo7 j uc7) rfl rfl a7J rfl rfl rfl rfl bg7 (by simp) ?_;intro w8 bg8 hE8)
    refine hK.out _ _ ?_;clear hK K
    (try simp only[Act.put])
    have hE37:=hE3d.trans t13;have hE38:Ext w3 w8:=ExtX.box hE37 hE8 hge;have hO8:=hO7.ext RC.elem (Z:=Z1) hE8 (fun q _ hq=>hgZ q hq) (fun _ _ h=>h);have hXs:=hO8.sl RC.elem;have hXc:=hO8.lenCap;rw[hXl.out]at hXc;have hu8:=RC.mono _ _ _ _ (a0E hE8 hgJ) hu7'.out;have hQ8:=QC.mono _ _ _ _ (a0E hE8 hgJ) hQ7;have tr:=trb.ext0 hE38;have q0:=bg8.cell 0 rfl;have q1:=bg8.cell 1 rfl;have q2:=bg8.cell 2 rfl;have q3:=bg8.cell 3 rfl;have q4:=bg8.cell 4 rfl;have q5:=bg8.cell 5 rfl;clear hHeld hOnce hS bg7;go_wp2_with ((with_reducible show wpList _ _ _ (⟨_, .store 83 _ _,_,_,_,_⟩::_) _ _);refine a0b a0O rfl rfl tr rfl rfl (by intro v hv;simp at hv;rcases hv with rfl|rfl|rfl|rfl|rfl|rfl<;>rfl) ?_;intro w9 r1 r2)
    have hE9:Ext w w9:=ExtX.box (hE03.trans hE38) r2 (by omega);have hl7:Le (mk Z1 w8) (mk X w9):=a2G r2 (fun k hk=>hb3.out k hk) (fun k hk=>hXZ.out k hk);have hl8:Le (mk ZJ w8) (mk X w9):=by rw[<-hZJ];exact a2G r2 (fun k hk=>a0o (hb3.out k hk)) (fun k hk=>a0o (hXZ.out k hk))
    refine bodyPost_ret (a0f rfl rfl a0O r1 rfl) rfl (hfin.out w9 _ _ _ _ _ _ _ _ _ _ _ hE9 ⟨_,_,by rw[hXl.out],by rw[hXl.out];exact hXc,hXs.mono RC.mono hl7⟩ (RC.mono _ _ _ _ hl8 hu8) (QC.mono _ _ _ _ hl8 hQ8))
set_option maxRecDepth 100000 in
set_option maxHeartbeats 3200000 in
theorem b2N (X:Nat->Bool) (w:World) (u r t:Value) (m:Mom) (row:List Rat) (v:Rat) (ad:Bool) (B:Nat) (hX:HX X w) (hu:a5g (mk X w) u m) (hr:RV (mk X w) r row) (ht:QV (mk X w) t v)
  (hl:m.xx.length<=1000000) (hBm:BMo B m) (hBr:BR B row) (hBv:hq v<=B) (hB:B<=1000000):
  Calls Tryz.prog 67 #[u,r,t, .bool ad] w (a2z X w m row v ad):=by
 obtain⟨xo,xl,xc,yo,yl,yc,s,a,n,c,d,k,e,rfl,hx,hy,hqq⟩:=id hu;obtain⟨s2,a2,n2,c2,d2,k2,e2,rfl⟩:=ht.shape;have hxyl:m.xy.length=yl:=by obtain⟨_,_,h,_⟩:=hy;simp at h;exact h.2.1.symm
 obtain⟨W,hW,hE,b0,b1,b2,hz⟩:=a2c w #[.int .i64 m.n, .slice xo xl xc, .slice yo yl yc, .bool s, .slice a n c, .slice d k e] #[.bool s2, .slice a2 n2 c2, .slice d2 k2 e2] #[.int .i64 0, .slice none 0 0, .slice none 0 0, .bool false, .slice none 0 0, .slice none 0 0] 83 32 83;have hXW:HX (a0g X w.heap.size 3) W:=hX.boxes hz;have hle:Hid (∀w',Ext W w'->Le (mk X w) (mk (a0g X w.heap.size 3) w')):=hid fun w' h=>a0n (hE.trans h);obtain⟨b,hb⟩:∃b,w.heap.size=b:=⟨_,rfl⟩;have hbw:w.heap.size<=b:=by omega
 rw[hb]at b0 b1 b2 hz hXW hle;have hfo:=hid fun w' (h:Ext W w')=>a3j (a0g X b 3) w' _ m (a5g.mono _ _ _ _ (hle.out w' h) hu) hl;obtain⟨N,hN⟩:∃N,m.n=N:=⟨_,rfl⟩;rw[hN]at b0 hW hfo |-;have k0:=b0.cell 0 rfl;have k1:=b0.cell 1 rfl;have k2':=b0.cell 2 rfl;have k3:=b0.cell 3 rfl;have k4:=b0.cell 4 rfl;have k5:=b0.cell 5 rfl;have hf1:=hfo.out W (ExtX.refl _);cases hok:a2e m
 ·rw[hok]at hf1
  have hC:shC m row ad=4:=by unfold shC;rw[if_pos hok]
  have hV:shV m row v ad=⟨0,[],[],0⟩:=by unfold shV;rw[hC];rfl
  have hfin:Hid (∀w',Ext w w'->a2z X w m row v ad (.returned (.tuple #[.agg #[.int .i64 0, .slice none 0 0, .slice none 0 0, .bool false, .slice none 0 0, .slice none 0 0], .int .i64 4])) w'):=hid fun w' h=>⟨h,_,by rw[hC],by rw[hV];exact a2q _⟩;obtain⟨F,hF⟩:∃F,a2z X w m row v ad=F:=⟨_,rfl⟩;rw[hF]at hfin |-;clear hok hC hV hF hfo hu hx hy hqq hr ht hBm hBr hBv hl hN hxyl;go_enter Tryz.func67,Tryz.ntmps67
  go_wp2_with fail
  refine hf1.mono ?_;rintro ee w1 ⟨hE1,rfl⟩;have b21:=b2.ext0 hE1;clear hf1 k0 k1 k2' k3 k4 k5;go_wp2_with ((show wpList _ _ _ (⟨_, .store _ _ _,_,_,_,_⟩::_) _ _);refine a0b a0O rfl rfl b21 rfl rfl a9U ?_;intro w7 r1 r2)
  exact bodyPost_ret (a0z rfl rfl a0O r1 rfl) rfl (hfin.out w7 (ExtX.box (hE.trans hE1) r2 (by omega)))
 ·rw[hok]at hf1
  obtain⟨hNr,hf,hsq,hxy,h12⟩:=a2C hok;obtain⟨hsh,_,_,_,_⟩:=a0A hf;rw[<-hsq,hxy]at hsh;obtain⟨ro,rc,rfl,hrc,hrs⟩:=id hr;by_cases hlen:row.length=m.xy.length
  ·have hcall:=hid fun w' (sg:Int) (h:Ext W w') (hsg:sg=1\/sg= -1)=>a6o (a0g X b 3) w' _ _ _ m row v sg m.xy.length B (hXW.ext h) (a5g.mono _ _ _ _ (hle.out w' h) hu) (RV.mono _ _ _ _ (hle.out w' h) hr) (QV.mono _ _ _ _ (hle.out w' h) ht) hsh rfl hlen h12 (by omega) (by omega) hsg hBm hBr hBv hB
   rw[hN]at hcall;have hg0:shC m row ad=0->shV m row v ad=shM m row v (if ad then 1 else -1):=fun h=>by unfold shV;rw[if_pos h]
   have hfin:Hid (∀w' z,Ext w w'->shC m row ad=0->a2y (mk X w') z (shM m row v (if ad then 1 else -1))->a2z X w m row v ad (.returned (.tuple #[z, .int .i64 0])) w'):=hid fun w' z h hc hz=>⟨h,z,by rw[hc],by rw[hg0 hc];exact hz⟩;cases ad
   ·by_cases hN0:N=0
    ·have hC:shC m row false=1:=by unfold shC;rw[if_neg (by rw[hok];decide),if_neg (by omega),if_pos ⟨rfl,by omega⟩]
     have hV:shV m row v false=⟨0,[],[],0⟩:=by unfold shV;rw[hC];rfl
     have hfin:Hid (∀w',Ext w w'->a2z X w m row v false (.returned (.tuple #[.agg #[.int .i64 0, .slice none 0 0, .slice none 0 0, .bool false, .slice none 0 0, .slice none 0 0], .int .i64 1])) w'):=hid fun w' h=>⟨h,_,by rw[hC],by rw[hV];exact a2q _⟩;obtain⟨F,hF⟩:∃F,a2z X w m row v false=F:=⟨_,rfl⟩;rw[hF]at hfin |-;have hd:((row.length:Int) !=(yl:Int))=false:=a6d (by omega);obtain⟨rl,hrl⟩:∃rl,row.length=rl:=⟨_,rfl⟩;rw[hrl]at hd |-;subst hN0;clear hok hC hV hF hfo hu hx hy hqq hr ht hBm hBr hBv hl hN hxyl hcall hg0 hlen hNr hf hsq hxy h12 hsh hrs hrc hrl;go_enter Tryz.func67,Tryz.ntmps67
     go_wp2_with fail
     refine hf1.mono ?_;rintro ee w1 ⟨hE1,rfl⟩;have b21:=b2.ext0 hE1;have b01:=b0.ext0 hE1;have j0:=b01.cell 0 rfl;have j2:=b01.cell 2 rfl;clear hf1 k0 k1 k2' k3 k4 k5;go_wp2_with ((show wpList _ _ _ (⟨_, .store _ _ _,_,_,_,_⟩::_) _ _);refine a0b a0O rfl rfl b21 rfl rfl a9U ?_;intro w7 r1 r2)
     exact bodyPost_ret (a0z rfl rfl a0O r1 rfl) rfl (hfin.out w7 (ExtX.box (hE.trans hE1) r2 (by omega)))
    ·have hC:shC m row false=0:=by unfold shC;rw[if_neg (by rw[hok];decide),if_neg (by omega),if_neg (by rintro ⟨_,h⟩;omega)]
     have hfin:Hid (∀w' z,Ext w w'->a2y (mk X w') z (shM m row v (-1))->a2z X w m row v false (.returned (.tuple #[z, .int .i64 0])) w'):=hid fun w' z h hz=>hfin.out w' z h hC hz;have hcall:=hid fun w' h=>hcall.out w' (-1) h (.inr rfl);obtain⟨F,hF⟩:∃F,a2z X w m row v false=F:=⟨_,rfl⟩;rw[hF]at hfin |-;have hd:((row.length:Int) !=(yl:Int))=false:=a6d (by omega);have hd2:((N:Int)==0)=false:=a2V hN0;obtain⟨rl,hrl⟩:∃rl,row.length=rl:=⟨_,rfl⟩;rw[hrl]at hd hcall |-;obtain⟨M,hM⟩:∃M,shM m row v (-1)=M:=⟨_,rfl⟩;rw[hM]at hcall hfin;clear hok hC hF hfo hu hx hy hqq hr ht hBm hBr hBv hl hN hxyl hg0 hlen hNr hf hsq hxy h12 hsh hrs hrc hrl hM hN0;go_enter Tryz.func67,Tryz.ntmps67
     go_wp2_with fail
     refine hf1.mono ?_;rintro ee w1 ⟨hE1,rfl⟩;have b21:=b2.ext0 hE1;have b01:=b0.ext0 hE1;have b11:=b1.ext0 hE1;have j0:=b01.cell 0 rfl;have j1:=b01.cell 1 rfl;have j2:=b01.cell 2 rfl;have j3:=b01.cell 3 rfl;have j4:=b01.cell 4 rfl;have j5:=b01.cell 5 rfl;have i0:=b11.cell 0 rfl;have i1:=b11.cell 1 rfl;have i2:=b11.cell 2 rfl;clear hf1 k0 k1 k2' k3 k4 k5;have hc1:=hcall.out w1 hE1;clear hcall;go_wp2_with fail
     refine hc1.mono ?_;rintro ee w2 ⟨hE2,z,rfl,hz2⟩;obtain⟨xo3,xl3,xc3,yo3,yl3,yc3,s3,a3,n3,c3,d3,k3',e3,rfl,z1,z2,z3⟩:=id hz2;have b22:=b21.ext0 hE2;clear j0 j1 j2 j3 j4 j5 i0 i1 i2 hc1 z1 z2 z3;go_wp2_with ((show wpList _ _ _ (⟨_, .store _ _ _,_,_,_,_⟩::_) _ _);refine a0b a0O rfl rfl b22 rfl rfl (b2v _ _ _ _ _ _ _ _ _ _ _ _ _ _) ?_;intro w7 r1 r2)
     exact bodyPost_ret (a0z rfl rfl a0O r1 rfl) rfl (hfin.out w7 _ (ExtX.box (hE.trans (hE1.trans hE2)) r2 (by omega)) (a2y.mono _ _ _ _ ((a0i r2 (by omega) (by omega)).trans a0k) hz2))
   ·have hC:shC m row true=0:=by unfold shC;rw[if_neg (by rw[hok];decide),if_neg (by omega),if_neg (by rintro ⟨h,_⟩;cases h)]
    have hfin2:Hid (∀w' z,Ext w w'->a2y (mk X w') z (shM m row v 1)->a2z X w m row v true (.returned (.tuple #[z, .int .i64 0])) w'):=hid fun w' z h hz=>hfin.out w' z h hC hz;have hcall:=hid fun w' h=>hcall.out w' 1 h (.inl rfl);obtain⟨F,hF⟩:∃F,a2z X w m row v true=F:=⟨_,rfl⟩;rw[hF]at hfin2 |-;have hd:((row.length:Int) !=(yl:Int))=false:=a6d (by omega);obtain⟨rl,hrl⟩:∃rl,row.length=rl:=⟨_,rfl⟩;rw[hrl]at hd hcall |-;obtain⟨M,hM⟩:∃M,shM m row v 1=M:=⟨_,rfl⟩;rw[hM]at hcall hfin2;clear hok hC hF hfo hu hx hy hqq hr ht hBm hBr hBv hl hN hxyl hg0 hlen hNr hf hsq hxy h12 hsh hrs hrc hrl hM;go_enter Tryz.func67,Tryz.ntmps67
    go_wp2_with fail
    refine hf1.mono ?_;rintro ee w1 ⟨hE1,rfl⟩;have b21:=b2.ext0 hE1;have b01:=b0.ext0 hE1;have b11:=b1.ext0 hE1;have j0:=b01.cell 0 rfl;have j1:=b01.cell 1 rfl;have j2:=b01.cell 2 rfl;have j3:=b01.cell 3 rfl;have j4:=b01.cell 4 rfl;have j5:=b01.cell 5 rfl;have i0:=b11.cell 0 rfl;have i1:=b11.cell 1 rfl;have i2:=b11.cell 2 rfl;clear hf1 k0 k1 k2' k3 k4 k5;have hc1:=hcall.out w1 hE1;clear hcall;go_wp2_with fail
    refine hc1.mono ?_;rintro ee w2 ⟨hE2,z,rfl,hz2⟩;obtain⟨xo3,xl3,xc3,yo3,yl3,yc3,s3,a3,n3,c3,d3,k3',e3,rfl,z1,z2,z3⟩:=id hz2;have b22:=b21.ext0 hE2;clear j0 j1 j2 j3 j4 j5 i0 i1 i2 hc1 z1 z2 z3;go_wp2_with ((show wpList _ _ _ (⟨_, .store _ _ _,_,_,_,_⟩::_) _ _);refine a0b a0O rfl rfl b22 rfl rfl (b2v _ _ _ _ _ _ _ _ _ _ _ _ _ _) ?_;intro w7 r1 r2)
    exact bodyPost_ret (a0z rfl rfl a0O r1 rfl) rfl (hfin2.out w7 _ (ExtX.box (hE.trans (hE1.trans hE2)) r2 (by omega)) (a2y.mono _ _ _ _ ((a0i r2 (by omega) (by omega)).trans a0k) hz2))
  ·have hC:shC m row ad=6:=by unfold shC;rw[if_neg (by rw[hok];decide),if_pos hlen]
   have hV:shV m row v ad=⟨0,[],[],0⟩:=by unfold shV;rw[hC];rfl
   have hfin:Hid (∀w',Ext w w'->a2z X w m row v ad (.returned (.tuple #[.agg #[.int .i64 0, .slice none 0 0, .slice none 0 0, .bool false, .slice none 0 0, .slice none 0 0], .int .i64 6])) w'):=hid fun w' h=>⟨h,_,by rw[hC],by rw[hV];exact a2q _⟩;obtain⟨F,hF⟩:∃F,a2z X w m row v ad=F:=⟨_,rfl⟩;rw[hF]at hfin |-;have hd:((row.length:Int) !=(yl:Int))=true:=a6y (by omega);obtain⟨rl,hrl⟩:∃rl,row.length=rl:=⟨_,rfl⟩;rw[hrl]at hd |-;clear hok hC hV hF hfo hu hx hy hqq hr ht hBm hBr hBv hl hN hxyl hlen hNr hf hsq hxy h12 hsh hrs hrc hrl;go_enter Tryz.func67,Tryz.ntmps67
   go_wp2_with fail
   refine hf1.mono ?_;rintro ee w1 ⟨hE1,rfl⟩;have b21:=b2.ext0 hE1;have b01:=b0.ext0 hE1;have j2:=b01.cell 2 rfl;clear hf1 k0 k1 k2' k3 k4 k5;go_wp2_with ((show wpList _ _ _ (⟨_, .store _ _ _,_,_,_,_⟩::_) _ _);refine a0b a0O rfl rfl b21 rfl rfl a9U ?_;intro w7 r1 r2)
   exact bodyPost_ret (a0z rfl rfl a0O r1 rfl) rfl (hfin.out w7 (ExtX.box (hE.trans hE1) r2 (by omega)))
set_option maxRecDepth 100000 in
set_option maxHeartbeats 3200000 in
theorem b1p (X:Nat->Bool) (w:World) (k:Nat) (hX:HX X w) (hk:k<=12):
  Calls Tryz.prog 135 #[.int .i64 (k:Int)] w (a1X X w a2y ⟨0,List.replicate k (List.replicate k 0),List.replicate k 0,0⟩):=by
 obtain⟨W,hW,hE,b0,hz⟩:=a1q w #[.int .i64 0, .slice none 0 0, .slice none 0 0, .bool false, .slice none 0 0, .slice none 0 0] 83;have hXW:HX (a0g X w.heap.size 1) W:=hX.boxes hz;obtain⟨b,hb⟩:∃b,w.heap.size=b:=⟨_,rfl⟩;rw[hb]at b0 hz hXW;have hbw:w.heap.size<=b:=by omega
 obtain⟨Z0,hZ0⟩:∃Z0,a0g X b 1=Z0:=⟨_,rfl⟩;rw[hZ0]at hXW;have hXZ0:∀q,X q=true->Z0 q=true:=fun q hq=>by rw[<-hZ0];simp[a0g,hq]
 have hb0:∀q,ob (some ⟨b,0,none⟩) q=true->Z0 q=true:=fun q hq=>by
  have hk2:b=q:=by simpa[ob]using hq
  rw[<-hZ0];exact a3C (by omega) (by omega)
 have hrep:=hid fun j=>(by rw[List.replicate_succ']:List.replicate (j+1) (List.replicate k (0:Rat))=List.replicate j (List.replicate k (0:Rat))++[List.replicate k (0:Rat)]);have hrl:=hid (List.length_replicate (n:=k) (a:=(0:Rat)));obtain⟨L,hL⟩:∃L,List.replicate k (0:Rat)=L:=⟨_,rfl⟩;rw[hL]at hrep hrl;rw[hL];have hL':=hid hL;have hlen:=hid fun j=>List.length_replicate (n:=j) (a:=L);clear hZ0 hL;go_enter Tryz.func135,Tryz.ntmps135
 go_wp2_with (first|((with_reducible show wpList _ _ _ (⟨_, .makeSlice _ _ _,_,_,_,_⟩::_) _ _);refine a1N (R:=QC) a0H QC.elem (0:Rat) (fun _=>QC.zero _) Z0 hXW W.heap.size (Nat.le_refl _) k rfl rfl rfl (by omega) (by omega) ?_;intro yo w1 hY1 hE1;have bg:=Bx.new w1 #[.int .i64 0, .slice none 0 0, .slice none 0 0, .bool false, .slice none 0 0, .slice none 0 0] 83)|((show wpList _ _ _ (⟨_, .store _ _ _,_,_,_,_⟩::_) _ _);refine a0b a0O rfl rfl bg rfl rfl (b2v _ _ _ _ _ _ _ _ _ _ _ _ _ _) ?_;intro w2 x2 y2))
 rw[hL'.out]at hY1;have hE2:Ext w1 w2:=ExtX.box ((ExtX.refl w1).alloc _) y2 (Nat.le_refl _);obtain⟨g,hg⟩:∃g,w1.heap.size=g:=⟨_,rfl⟩;rw[hg]at x2 y2 |-;have hWg:W.heap.size<=g:=by rw[<-hg];exact hE1.size
 have hY2:=hY1.ext0 QC.elem hE2;have hgl:g<w2.heap.size:=a1B (x2.cell 0 rfl);have hyg:ob yo g=false:=by
  cases hq:ob yo g
  ·rfl
  ·have:=(hY1.block hq).2;omega
 obtain⟨Z1,hZ1⟩:∃Z1,un (un Z0 yo) (some ⟨g,0,none⟩)=Z1:=⟨_,rfl⟩;have hX1:HX Z1 w2:=by
  rw[<-hZ1];exact a3h (a3h (hXW.ext (hE1.trans hE2)) fun q hq=>(hY2.block hq).2) fun q hq=>by
   have:g=q:=by simpa[ob]using hq
   omega
 have hgZ:∀q,ob (some ⟨g,0,none⟩) q=true->Z1 q=true:=fun q hq=>by rw[<-hZ1];exact a0r hq
 have hgg:Z1 g=true:=hgZ g (by simp[ob]);have hE02:=hE1.trans hE2;have hY2s:Sl QC 3 (mk Z0 w2) yo L:=hY2.sl QC.elem;have hyc:=hY2.lenCap;rw[hrl.out]at hyc;have hYr:RC (mk (un Z0 (some ⟨g,0,none⟩)) w2) (.slice yo k k) L:=by
  have h0:RC (mk Z0 w1) (.slice yo k k) L:=⟨yo,k,by rw[hrl.out],by rw[hrl.out];exact hyc,hY1.sl QC.elem⟩;exact RC.mono _ _ _ _ (a0J hE2 (by rw[<-hg];exact Nat.le_refl _)) h0
 clear hY1 hg bg hY2s hyc hY2 hyg;go_wp2_with fail
 go_loopw [4] (fun jv wr=>∃(j:Nat) (xo:Option Addr) (xc:Nat),jv= .int .i64 j/\j<=k/\Bx wr g #[.int .i64 0, .slice xo j xc, .slice yo k k, .bool false, .slice none 0 0, .slice none 0 0] 83/\OL RC 1 Z1 w2.heap.size 45 wr xo xc (List.replicate j L)/\HX Z1 wr/\ExtX (ob (some ⟨g,0,none⟩)) w2 wr) (fun jv _=>k - (intOf jv).toNat)
 case atStart=>exact⟨0,none,0,rfl,Nat.zero_le _,x2,OL.nil _ _ _ _ _ _,hX1,ExtX.refl _⟩
 case round=>
  obtain⟨j,xo,xc,rfl,hj,bx,hO,hXr,hEr⟩:=hrel;have hsz:=hEr.size;by_cases hlt:j<k
  ·have hEd:Ext wr wr.drew:=(ExtX.refl wr).drew
   have bxd:=bx.ext0 hEd;have hOd:=hO.ext0 RC.elem hEd;have hXd:HX Z1 wr.drew:=hXr.ext hEd;have hXu:HX (un Z1 xo) wr.drew:=a3h hXd fun q hq=>(hOd.block hq).2;have og:ob xo g=false:=by
    cases hc:ob xo g
    ·rfl
    ·have:=(hO.1 g hc);rw[hgg]at this;cases this
   have hS:Hid (∀Y W',ExtX Y wr.drew W'->Y g=false->W'.cell? ⟨g,1,none⟩=some (.slice xo j xc)):=hid fun Y W' h h1=>(bxd.ext h h1).cell 1 rfl;have hjl:=hid (hlen.out j);go_wp2_with fail
   (try simp only[Act.put])
   refine a0y 7 (fun w'=>w'.cell? ⟨g,1,none⟩=some (.slice xo j xc)) (by kernel_rfl) (by kernel_rfl) (hS.out noY _ (ExtX.refl _) rfl) (fun hHeld hOnce=>?_);refine kt 0 hOnce ?_;refine kt 1 hOnce ?_;refine kt 2 hOnce ?_;refine a0e (i:=3) (o:=⟨_,_,_,_,_,_⟩) (by kernel_rfl) rfl (fun K hK=>?_)
   (refine a1y (R:=QC) rfl rfl a0H QC.elem (0:Rat) (fun _=>QC.zero _) (un Z1 xo) hXu wr.drew.heap.size (Nat.le_refl _) k rfl rfl rfl (by omega) (by omega) ?_;intro po w5 hP hE5)
   refine hK.out _ _ (hS.out noY w5 hE5 rfl) (fun hHeld=>?_);clear hK K
   (try simp only[Act.put,List.setIfInBounds_toArray,List.set_cons_zero,List.set_cons_succ])
   rw[hL'.out]at hP;have hPs:=hP.sl QC.elem;have hPc:=hP.lenCap;rw[hrl.out]at hPc;have hrow:RC (mk (un Z1 xo) w5) (.slice po k k) L:=⟨po,k,by rw[hrl.out],by rw[hrl.out];exact hPc,hPs⟩;have hO5:=hOd.ext0 RC.elem hE5;have hX5:=hXd.ext hE5;have hb5:w2.heap.size<=w5.heap.size:=Nat.le_trans hsz hE5.size;refine a0e (i:=4) (o:=⟨_,_,_,_,_,_⟩) (by kernel_rfl) rfl (fun K hK=>?_);go_simp
   skip
   refine hK.out _ _ (hS.out noY _ (hE5.alloc _) rfl) (fun hHeld=>?_);clear hK K
   (try simp only[Act.put,List.setIfInBounds_toArray,List.set_cons_zero,List.set_cons_succ])
   refine a0e (i:=5) (o:=⟨_,_,_,_,_,_⟩) (by kernel_rfl) rfl (fun K hK=>?_)
   (refine a1b (l:=List.replicate j L) rfl (by rfl) a0s rfl RC.elem hb5 hX5 j hjl.out rfl rfl hO5 (.slice po k k) L rfl hrow (by omega) (by omega) ?_;intro xo9 xc9 w6 hO6 hE6 hor)
   refine hK.out _ _ (hS.out (ob xo) w6 ((ExtX.of hE5).trans hE6) og) (fun hHeld=>?_);clear hK K
   (try simp only[Act.put,List.setIfInBounds_toArray,List.set_cons_zero,List.set_cons_succ])
   have bg6:=(bxd.ext0 hE5).ext hE6 og;refine kt 6 hOnce ?_;refine a0l (i:=7) (o:=⟨_,_,_,_,_,_⟩) (by kernel_rfl) rfl (by decide) (by kernel_rfl) (fun K hK=>?_)
   (refine a2j (v:= .slice xo9 (j+1) xc9) rfl rfl b0Y rfl rfl rfl rfl bg6 (by simp) ?_;intro w7 bg7 hE7)
   refine hK.out _ _ ?_;clear hK K
   (try simp only[Act.put])
   have bg7':Bx w7 g #[.int .i64 0, .slice xo9 (j+1) xc9, .slice yo k k, .bool false, .slice none 0 0, .slice none 0 0] 83:=by simpa using bg7
   rw[<-hrep.out j]at hO6;have hO7:=hO6.ext RC.elem (Z:=Z1) hE7 (fun q _ hq=>hgZ q hq) (fun _ _ h=>h);have hX7:HX Z1 w7:=fun q hq=>Nat.lt_of_lt_of_le (hX5 q hq) (Nat.le_trans hE6.size hE7.size);have hE27:=((hEr.trans (ExtX.of (hEd.trans hE5))).then_ hE6 fun q hq _=>hO5.ob_lt hq).trans hE7;clear hHeld hOnce hS;go_wp2_with fail
   go_roundw
   case rel=>exact⟨j+1,xo9,xc9,by go_num,by omega,bg7',hO7,hX7,hE27⟩
   case measure=>simp[intOf];omega
  ·have hjk:j=k:=by omega
   subst hjk;have hE0r:Ext W wr:=ExtX.box hE02 hEr hWg;have br:=b0.ext0 hE0r;have hYf:=RC.mono _ _ _ _ (a0E hEr fun q hq=>a0r hq) hYr;have hOs:=hO.sl RC.elem;have hOc:=hO.lenCap;rw[hlen.out j]at hOc;have q0:=bx.cell 0 rfl;have q1:=bx.cell 1 rfl;have q2:=bx.cell 2 rfl;have q3:=bx.cell 3 rfl;have q4:=bx.cell 4 rfl;have q5:=bx.cell 5 rfl;clear bx hO;go_wp2_with ((show wpList _ _ _ (⟨_, .store _ _ _,_,_,_,_⟩::_) _ _);refine a0b a0O rfl rfl br rfl rfl (b2v _ _ _ _ _ _ _ _ _ _ _ _ _ _) ?_;intro w9 r1 r2)
   have hE9:Ext w w9:=ExtX.box (hE.trans hE0r) r2 hbw;have hl1:Le (mk Z1 wr) (mk X w9):=by rw[<-hZ1];exact a2G r2 (fun q hq=>a0o (a0o (hb0 q hq))) (fun q hq=>a0o (a0o (hXZ0 q hq)))
   have hl2:Le (mk (un Z0 (some ⟨g,0,none⟩)) wr) (mk X w9):=a2G r2 (fun q hq=>a0o (hb0 q hq)) (fun q hq=>a0o (hXZ0 q hq));have hlj:=hlen.out j;refine bodyPost_ret (a0f rfl rfl a0O r1 rfl) rfl ⟨hE9,_,rfl,xo,j,xc,yo,j,j,false,none,0,0,none,0,0,rfl,⟨xo,xc,by rw[hlj],by rw[hlj];exact hOc,hOs.mono RC.mono hl1⟩,RC.mono _ _ _ _ hl2 hYf,QC.zero _⟩
set_option maxRecDepth 100000 in
set_option maxHeartbeats 800000 in
theorem a9V (X:Nat->Bool) (w:World) (u t:Value) (x:Mat) (y:List Rat) (hX:HX X w) (hu:MV (mk X w) u x) (ht:RV (mk X w) t y) (hok:a5L x y=false) (hl:x.length<=1000000):
  Calls Tryz.prog 65 #[u,t] w (b5K w (.agg #[.int .i64 0, .slice none 0 0, .slice none 0 0, .bool false, .slice none 0 0, .slice none 0 0])):=by
 obtain⟨W,hW,hE,b0,hz⟩:=a1q w #[.int .i64 0, .slice none 0 0, .slice none 0 0, .bool false, .slice none 0 0, .slice none 0 0] 83;have hpr:=a5N X W u t x y (hX.ext hE) (mkx MV.mono hu hE) (mkx RV.mono ht hE) (by omega);rw[hok]at hpr;obtain⟨ua,uc,rfl,huc,hus⟩:=hu;obtain⟨ta,tc,rfl,htc,hts⟩:=ht;obtain⟨b,hb⟩:∃b,w.heap.size=b:=⟨_,rfl⟩;have hbw:w.heap.size<=b:=by omega
 rw[hb]at b0 hz;obtain⟨n,hn⟩:∃n,x.length=n:=⟨_,rfl⟩;obtain⟨q,hq⟩:∃q,y.length=q:=⟨_,rfl⟩;rw[hn,hq]at hpr;rw[hn,hq];clear hok hn hq hus hts huc htc hl;go_enter Tryz.func65,Tryz.ntmps65
 go_wp2_with fail
 refine hpr.mono ?_;rintro ee w1 ⟨hE1,rfl⟩;have b1:=b0.ext0 hE1;clear hpr;go_wp2_with ((show wpList _ _ _ (⟨_, .store _ _ _,_,_,_,_⟩::_) _ _);refine a0b a0O rfl rfl b1 rfl rfl b5J ?_;intro w7 r1 r2)
 exact bodyPost_ret (a0z rfl rfl a0O r1 rfl) rfl ⟨ExtX.box (hE.trans hE1) r2 hbw,rfl⟩
set_option maxRecDepth 100000 in
set_option maxHeartbeats 3200000 in
theorem a9W (X:Nat->Bool) (w:World) (u t:Value) (x:Mat) (y:List Rat) (n c B:Nat) (hX:HX X w) (hu:MV (mk X w) u x) (ht:RV (mk X w) t y) (hok:a5L x y=true) (hnx:x.length=n) (hcx:colsL x=c) (hn:n<=8) (hc:c<=4) (hxB:BM B x) (hyB:BR B y) (hB1:1<=B) (hB:B<=370):
  Calls Tryz.prog 65 #[u,t] w (b4z X w (gmM x y c n)):=by
 obtain⟨W,hW,hE,b0,hz⟩:=a1q w #[.int .i64 0, .slice none 0 0, .slice none 0 0, .bool false, .slice none 0 0, .slice none 0 0] 83;have hXW:HX (a0g X w.heap.size 1) W:=hX.boxes hz;have hle:Hid (∀w',Ext W w'->Le (mk X w) (mk (a0g X w.heap.size 1) w')):=hid fun w' h=>a0n (hE.trans h);obtain⟨b,hb⟩:∃b,w.heap.size=b:=⟨_,rfl⟩;rw[hb]at b0 hz hXW hle;have hbw:w.heap.size<=b:=by omega
 obtain⟨Z0,hZ0⟩:∃Z0,a0g X b 1=Z0:=⟨_,rfl⟩;rw[hZ0]at hXW hle;have hXZ0:∀q,X q=true->Z0 q=true:=fun q hq=>by rw[<-hZ0];simp[a0g,hq]
 have hb0:∀q,ob (some ⟨b,0,none⟩) q=true->Z0 q=true:=fun q hq=>by
  have hk2:b=q:=by simpa[ob]using hq
  rw[<-hZ0];exact a3C (by omega) (by omega)
 obtain⟨hf,h1,h64,h12,hyl⟩:=a2T.1 hok;obtain⟨hsh,_,_,hpos,_⟩:=a0A hf;rw[hnx,hcx]at hsh;rw[hnx]at h1 hyl;have hpr:=a5N Z0 W u t x y hXW (MV.mono _ _ _ _ (hle.out W (ExtX.refl _)) hu) (RV.mono _ _ _ _ (hle.out W (ExtX.refl _)) ht) (by omega);rw[hok]at hpr;have hhb:=a5F hxB hB1;have hxv:=hid fun w' (h:Ext W w')=>MV.mono _ _ _ _ (hle.out w' h) hu;have hyv:=hid fun w' (h:Ext W w')=>RV.mono _ _ _ _ (hle.out w' h) ht;obtain⟨ua,uc,rfl,huc,hus⟩:=hu;obtain⟨ta,tc,rfl,htc,hts⟩:=ht;have hhu:=hus.hd;have hht:=hts.hd;obtain⟨a0,c0,hX0',hc0,hcl0,hq0⟩:=hus.row 0 (by omega);rw[hsh.2 x[0] (List.getElem_mem _)]at hc0;rw[hnx]at hpr hhu hxv |-;rw[hyl]at hpr hht hyv |-;have hxr:=hid hsh.2;have hxl:=hid hsh.1;have hyl':=hid hyl;have hI:(0:Int)<(n:Int):=by omega
 have hbnd:=hid fun i (hi:i<=n)=>(⟨a5k (a7K hhb (by omega) hB),a7L hhb hyB (by omega) hB,Nat.le_trans (a8r (B:=2*B) fun r _=>Nat.le_trans (hq_mul _ _) (by have:=a8s hyB hB1 r;omega)) (a3Q (by omega) hB)⟩:BMo 5929 (gmM x y c i));have hsucc:=hid fun i (hi:i<n) (h1:i<x.length) (h2:i<y.length)=>(by
  have h:=a9k (y:=y) hsh hi;rwa[show x.getD i []=x[i]by simp[List.getD_eq_getElem?_getD,h1],show y.getD i 0=y[i]by simp[List.getD_eq_getElem?_getD,h2]]at h:shM (gmM x y c i) x[i] y[i] 1=gmM x y c (i+1))
 have hgs:=hid fun i=>(⟨a2u x i c,a6T x y i c⟩:Shp c c (gmM x y c i).xx/\(gmM x y c i).xy.length=c);have hg0:=hid (a9j x y c);have hrB:=hid fun i (h1:i<x.length)=>(fun q hq=>Nat.le_trans (hxB x[i] (List.getElem_mem h1) q hq) (by omega):BR 5929 x[i]);have hyBi:=hid fun i (h1:i<y.length)=>(Nat.le_trans (hyB y[i] (List.getElem_mem h1)) (by omega):hq y[i]<=5929);have hsh':=hid fun(Z:Nat->Bool) (v:World) (m r t:Value) i (hi:i<n) (h1:i<x.length) (h2:i<y.length) (hZ:HX Z v) (hm:a2y (mk Z v) m (gmM x y c i)) (hr:RV (mk Z v) r x[i]) (ht:QV (mk Z v) t y[i])=>a6o Z v m r t (gmM x y c i) x[i] y[i] 1 c 5929 hZ (hm.mv ⟨fun r hr q hq=>Nat.le_trans ((hbnd.out i (by omega)).1 r hr q hq) (by decide),fun q hq=>Nat.le_trans ((hbnd.out i (by omega)).2.1 q hq) (by decide),Nat.le_trans (hbnd.out i (by omega)).2.2 (by decide)⟩) hr ht (hgs.out i).1 (hgs.out i).2 (hsh.2 _ (List.getElem_mem h1)) (by omega) (by show -1<=(i:Int);omega) (by show(i:Int)<=1099511627777;omega) (.inl rfl) (hbnd.out i (by omega)) (hrB.out i h1) (hyBi.out i h2) (by decide);clear hf h64 h12 hpos hq0 hcl0 hok hnx hcx hyl hsh hhb hxB hyB huc hus htc hts hbnd hgs hrB hyBi hZ0;go_enter Tryz.func65,Tryz.ntmps65
 go_wp2_with fail
 refine hpr.mono ?_;rintro ee w1 ⟨hE1,rfl⟩;have k00:=hc0.out noY w1 (hE.trans hE1) rfl;have hX1:HX Z0 w1:=hXW.ext hE1;clear hpr;go_wp2_with (with_reducible refine a0t a0s (by omega) (by assumption) ?_)
 refine(b1p Z0 w1 c hX1 (by omega)).mono ?_;rintro ee w2 ⟨hE2,mv,rfl,hmv⟩;rw[<-hg0.out]at hmv;have hmv':=hid hmv;obtain⟨xo,xl,xc,yo,yl,yc,s,a,n',c',d,k,e,rfl,_,_,_⟩:=hmv;have bm:=Bx.new w2 #[.int .i64 0, .slice none 0 0, .slice none 0 0, .bool false, .slice none 0 0, .slice none 0 0] 83;clear k00;go_wp2_with ((show wpList _ _ _ (⟨_, .store _ _ _,_,_,_,_⟩::_) _ _);refine a0b a0O rfl rfl bm rfl rfl (b2v _ _ _ _ _ _ _ _ _ _ _ _ _ _) ?_;intro w3 x3 y3)
 have hE3:Ext w2 w3:=ExtX.box ((ExtX.refl w2).alloc _) y3 (Nat.le_refl _);obtain⟨g,hg⟩:∃g,w2.heap.size=g:=⟨_,rfl⟩;have hWg:W.heap.size<=g:=by rw[<-hg];exact(hE1.trans hE2).size
 have hmv3:=a2y.mono _ _ _ _ (a0J hE3 (Nat.le_refl _)) hmv'.out;rw[hg]at x3 hmv3 |-;have hE03:=hE1.trans (hE2.trans hE3);have hgl:g<w3.heap.size:=a1B (x3.cell 0 rfl);have hxv3:=MV.mono _ _ _ _ (a0J (hE2.trans hE3) (by rw[<-hg];exact hE2.size:w1.heap.size<=g)) (hxv.out w1 hE1);have hyv3:=RV.mono _ _ _ _ (a0J (hE2.trans hE3) (by rw[<-hg];exact hE2.size:w1.heap.size<=g)) (hyv.out w1 hE1);obtain⟨Z1,hZ1⟩:∃Z1,un Z0 (some ⟨g,0,none⟩)=Z1:=⟨_,rfl⟩;rw[hZ1]at hmv3 hxv3 hyv3;have hX3:HX Z1 w3:=by
  rw[<-hZ1];exact a3h (hX1.ext (hE2.trans hE3)) fun q hq=>by
   have:g=q:=by simpa[ob]using hq
   omega
 have hgZ:∀q,ob (some ⟨g,0,none⟩) q=true->Z1 q=true:=fun q hq=>by rw[<-hZ1];exact a0r hq
 clear hmv' bm y3 hg hxv hyv hg0 hE1 hE2 hX1;go_wp2_with fail
 go_loopw [7] (fun kv wr=>∃(i:Nat) (xo:Option Addr) (xl xc:Nat) (yo:Option Addr) (yl yc:Nat) (s:Bool) (a:Option Addr) (n' c':Nat) (d:Option Addr) (k e:Nat),kv= .int .i64 i/\i<=n/\Bx wr g #[.int .i64 (i:Int), .slice xo xl xc, .slice yo yl yc, .bool s, .slice a n' c', .slice d k e] 83/\a2y (mk Z1 wr) (.agg #[.int .i64 (i:Int), .slice xo xl xc, .slice yo yl yc, .bool s, .slice a n' c', .slice d k e]) (gmM x y c i)/\HX Z1 wr/\ExtX (ob (some ⟨g,0,none⟩)) w3 wr) (fun kv _=>n - (intOf kv).toNat)
 case atStart=>exact⟨0,xo,xl,xc,yo,yl,yc,s,a,n',c',d,k,e,rfl,Nat.zero_le _,x3,hmv3,hX3,ExtX.refl _⟩
 case round=>
  clear x3 hmv3 hX3;obtain⟨i,xo,xl,xc,yo,yl,yc,s,a,n',c',d,k,e,rfl,hi,bx,hm,hXr,hEr⟩:=hrel;by_cases hlt:i<n
  ·have hix:i<x.length:=by rw[hxl.out];exact hlt
   have hiy:i<y.length:=by rw[hyl'.out];exact hlt
   have hEd:Ext wr wr.drew:=(ExtX.refl wr).drew;have hErd:=hEr.trans (ExtX.of hEd);have hml:=a0E hErd hgZ;have hxw:=MV.mono _ _ _ _ hml hxv3;have hyw:=RV.mono _ _ _ _ hml hyv3;obtain⟨xo2,xc2,heq,hxc2,hxs⟩:=hxw;simp only[Value.slice.injEq]at heq;obtain⟨rfl,-,rfl⟩:=heq;obtain⟨yo2,yc2,heq,hyc2,hys⟩:=hyw;simp only[Value.slice.injEq]at heq;obtain⟨rfl,-,rfl⟩:=heq;obtain⟨ra,rc,hXb,hct,hclt,hqt⟩:=hxs.row i hix;obtain⟨ge,oe,s1,a1,n1,c9,d1,k9,e1,hadr,hXe,hce,hqe⟩:=hys.rat QV.shaped i hiy;have hrow:RV (mk Z1 wr.drew) (.slice ra x[i].length rc) x[i]:=⟨ra,rc,rfl,hclt,hqt⟩;have hrl:=hxr.out x[i] (List.getElem_mem hix);rw[hrl]at hct hrow;have bxd:=bx.ext0 hEd;have hS:Hid (∀w',Ext wr.drew w'->(w'.cell? ⟨g,0,none⟩=some (.int .i64 (i:Int))/\w'.cell? ⟨g,0+1,none⟩=some (.slice xo xl xc)/\w'.cell? ⟨g,0+2,none⟩=some (.slice yo yl yc)/\w'.cell? ⟨g,0+3,none⟩=some (.bool s)/\w'.cell? ⟨g,0+4,none⟩=some (.slice a n' c')/\w'.cell? ⟨g,0+5,none⟩=some (.slice d k e))/\w'.cell? (adr ua i)=some (.slice ra c rc)/\(w'.cell? ⟨ge,oe,none⟩=some (.bool s1)/\w'.cell? ⟨ge,oe+1,none⟩=some (.slice a1 n1 c9)/\w'.cell? ⟨ge,oe+2,none⟩=some (.slice d1 k9 e1))):=hid fun w' h=>by
    have b9:=bxd.ext0 h;exact⟨⟨b9.cell 0 rfl,b9.cell 1 rfl,b9.cell 2 rfl,b9.cell 3 rfl,b9.cell 4 rfl,b9.cell 5 rfl⟩,hct.out noY w' h rfl,hce.out noY w' h rfl⟩
   have i1:∀w',(Instr.indexAt 25 (.slice ua n uc) (.int .i64 (i:Int))).run Tryz.prog w'= .ok (.pointer (some (adr ua i))) w':=a0w a0s ua n uc .i64 i hhu hlt rfl;have i2:∀w',(Instr.indexAt 45 (.slice ta n tc) (.int .i64 (i:Int))).run Tryz.prog w'= .ok (.pointer (some ⟨ge,oe,none⟩)) w':=by rw[<-hadr];exact a0j a0H ta n tc .i64 i hht hlt
   have hXd:HX Z1 wr.drew:=hXr.ext hEd;have hcall:=hsh'.out Z1 wr.drew _ _ _ i hlt hix hiy hXd (mkx a2y.mono hm hEd) hrow hqe;rw[hsucc.out i hlt hix hiy]at hcall;clear hxs hys hqt hct hce hqe hadr hrl hrow hxc2 hyc2 hm;go_wp2_with fail
   (try simp only[Act.put])
   refine a0y 10 (fun w'=>(w'.cell? ⟨g,0,none⟩=some (.int .i64 (i:Int))/\w'.cell? ⟨g,0+1,none⟩=some (.slice xo xl xc)/\w'.cell? ⟨g,0+2,none⟩=some (.slice yo yl yc)/\w'.cell? ⟨g,0+3,none⟩=some (.bool s)/\w'.cell? ⟨g,0+4,none⟩=some (.slice a n' c')/\w'.cell? ⟨g,0+5,none⟩=some (.slice d k e))/\w'.cell? (adr ua i)=some (.slice ra c rc)/\(w'.cell? ⟨ge,oe,none⟩=some (.bool s1)/\w'.cell? ⟨ge,oe+1,none⟩=some (.slice a1 n1 c9)/\w'.cell? ⟨ge,oe+2,none⟩=some (.slice d1 k9 e1))) (by kernel_rfl) (by kernel_rfl) (hS.out _ (ExtX.refl _)) (fun hHeld hOnce=>?_);refine kt 0 hOnce ?_;refine kt 1 hOnce ?_;refine kt 2 hOnce ?_;refine kt 3 hOnce ?_;refine kt 4 hOnce ?_;refine kt 5 hOnce ?_;refine kt 6 hOnce ?_;refine kt 7 hOnce ?_;refine kt 8 hOnce ?_;refine a0e (i:=9) (o:=⟨_,_,_,_,_,_⟩) (by kernel_rfl) rfl (fun K hK=>?_);go_simp
   ((with_reducible refine hcall.mono ?_);rintro ee w5 ⟨t1,u5,rfl,hu5⟩)
   refine hK.out _ _ (hS.out w5 t1) (fun hHeld=>?_);clear hK K
   (try simp only[Act.put,List.setIfInBounds_toArray,List.set_cons_zero,List.set_cons_succ])
   have hu5':=hid hu5;obtain⟨xo5,xl5,xc5,yo5,yl5,yc5,s5,a5,n5,c5,d5,k5,e5,rfl,_,_,_⟩:=hu5;have bg5:=bxd.ext0 t1;have hgn:(gmM x y c (i+1)).n=((i+1:Nat):Int):=rfl;rw[hgn]at hu5' |-;refine a0l (i:=10) (o:=⟨_,_,_,_,_,_⟩) (by kernel_rfl) rfl (by decide) (by kernel_rfl) (fun K hK=>?_)
   (refine a0C rfl rfl a0O rfl rfl bg5 rfl rfl (b2v _ _ _ _ _ _ _ _ _ _ _ _ _ _) ?_;intro w6 bg6 hE6)
   refine hK.out _ _ ?_;clear hK K
   (try simp only[Act.put])
   have hm6:=a2y.mono _ _ _ _ (a0E hE6 hgZ) hu5'.out;have hE36:=(hErd.trans (ExtX.of t1)).trans hE6;have hX6:HX Z1 w6:=fun q hq=>Nat.lt_of_lt_of_le (hXd q hq) (Nat.le_trans t1.size hE6.size);clear hHeld hOnce hS i1 i2 hcall;go_wp2_with fail
   go_roundw
   case rel=>exact⟨i+1,_,_,_,_,_,_,_,_,_,_,_,_,_,by go_num,by omega,bg6,hm6,hX6,hE36⟩
   case measure=>simp[intOf];omega
  ·have hin:i=n:=by omega
   subst hin;have hE0r:Ext W wr:=ExtX.box hE03 hEr hWg;have br:=b0.ext0 hE0r;have q0:=bx.cell 0 rfl;have q1:=bx.cell 1 rfl;have q2:=bx.cell 2 rfl;have q3:=bx.cell 3 rfl;have q4:=bx.cell 4 rfl;have q5:=bx.cell 5 rfl;clear bx;go_wp2_with ((show wpList _ _ _ (⟨_, .store _ _ _,_,_,_,_⟩::_) _ _);refine a0b a0O rfl rfl br rfl rfl (b2v _ _ _ _ _ _ _ _ _ _ _ _ _ _) ?_;intro w9 r1 r2)
   have hE9:Ext w w9:=ExtX.box (hE.trans hE0r) r2 hbw;have hl1:Le (mk Z1 wr) (mk X w9):=by rw[<-hZ1];exact a2G r2 (fun q hq=>a0o (hb0 q hq)) (fun q hq=>a0o (hXZ0 q hq))
   exact bodyPost_ret (a0z rfl rfl a0O r1 rfl) rfl ⟨hE9,_,rfl,a2y.mono _ _ _ _ hl1 hm⟩
end Go.Proofs.YtkddecjkfdogiaaGreat
namespace Go.Lin
open Go.Lim
end Go.Lin
namespace Go.Proofs.YtkddecjkfdogiaaGreat
open Go.RowKit Go.Rep Go.Lim Go.Lin
def b6x (X:Nat->Bool) (w:World) (l:List Rat) (e:Ending) (w':World):Prop:=Ext w w'/\∃oo co,e= .returned (.slice oo l.length co)/\OL QC 3 X w.heap.size 32 w' oo co l
set_option maxRecDepth 100000 in
theorem a8A (X:Nat->Bool) (w:World) (u:Value) (l:List Rat) (hX:HX X w) (hu:RV (mk X w) u l) (hl:l.length<=1000000):Calls Tryz.prog 203 #[u] w (b6x X w l):=by
 obtain⟨ao,ca,rfl,hca,hsa⟩:=hu;have hha:=hsa.hd;go_enter Tryz.func203,Tryz.ntmps203
 go_wp2_with fail
 go_loopw [3,4] (fun o c wr=>∃(i:Nat) (oo:Option Addr) (co:Nat),c= .int .i64 i/\o= .slice oo i co/\i<=l.length/\OL QC 3 X w.heap.size 32 wr oo co (l.take i)/\Ext w wr) (fun _ c _=>l.length - (intOf c).toNat)
 case atStart=>exact⟨0,none,0,rfl,rfl,Nat.zero_le _,OL.nil _ _ _ _ _ _,ExtX.refl _⟩
 case round=>
  obtain⟨i,oo,co,rfl,rfl,hi,hO,hE⟩:=hrel;have hXr:HX X wr:=hX.ext hE;have hXu:HX (un X oo) wr:=hO.unX hXr;have hbase:=hE.size;by_cases hlt:i<l.length
  ·have hsr:Sl QV 3 (mk (un X oo) wr) ao l:=hsa.old QV.mono hE (fun j hj=>hO.ob_lt hj)
   have htk:=hid (a1r l i hlt);have hln:=hid (a1H hi);go_wp2_with (first|(with_reducible refine a2l a0H (by omega) (by assumption) ?_)|((with_reducible show wpList _ _ _ (⟨_, .load _ _,_,_,_,_⟩::_) _ _);refine a0U a0u i hsr hlt rfl (by simp) QV.agg ?_;intro u5 hu5;obtain⟨s5,a5,n5,c5,d5,k5,e5,rfl⟩:=hu5.shape))
   refine(a3F (un X oo) wr _ _ hXu hu5).mono ?_;rintro e w6 ⟨hE6,u6,rfl,hu6⟩;obtain⟨s6,a6,n6,c6,d6,k6,e6,rfl⟩:=hu6.shape;have hO6:=hO.ext0 QC.elem hE6;have hb6:=hE6.size;go_wp2_with (at_builtin;refine a1n (l:=l.take i) a0H rfl QC.elem (by omega) (hXr.ext hE6) i hln.out rfl rfl hO6 (.agg #[.bool s6, .slice a6 n6 c6, .slice d6 k6 e6]) l[i] rfl hu6 (by omega) (by omega) ?_;intro oo2 co2 w7 hO7 hE7 hor)
   have hE8:=(hE.trans hE6).own hO6 (Nat.le_refl _) hE7;rw[htk.out]at hO7;go_roundw
   case rel=>exact⟨i+1,oo2,co2,by go_num,by go_num,by omega,hO7,hE8⟩
   case measure=>simp[intOf];omega
  ·have hil:i=l.length:=by omega
   subst hil;rw[List.take_length]at hO;go_wp2_with fail
   go_ret
   exact⟨hE,oo,co,rfl,hO⟩
end Go.Proofs.YtkddecjkfdogiaaGreat
namespace Go.Lin
open Go.Lim
theorem a5V.le {m:Mat} {c c':Nat} (h:a5V m c) (hc:c'<=c):a5V m c':=let ⟨B,h1,h2⟩:=h;⟨B,h1,fun j hj=>h2 j (Nat.le_trans hj hc)⟩
end Go.Lin
namespace Go.Proofs.YtkddecjkfdogiaaGreat
open Go.RowKit Go.Rep Go.Lim Go.Lin
set_option maxRecDepth 100000 in
set_option maxHeartbeats 1600000 in
theorem b1q (X:Nat->Bool) (w:World) (u v:Value) (m:List (List Rat)) (b:List Rat) (n c:Nat) (hX:HX X w) (hu:MV (mk X w) u m) (hv:RV (mk X w) v b) (hf:a0x m=true) (hnn:m.length=n) (hcc:colsL m=c) (hbl:b.length=n) (hT:a5V (a1M m b n) (c+1)) (hB:BM 68719476736 (a1M m b n)):Calls Tryz.prog 138 #[u,v] w (a6n X w (a1o (a1M m b n) (c+1)) c):=by
 obtain⟨hsh,h96,hc96,hpos,_⟩:=a0A hf;rw[hnn,hcc]at hsh;rw[hnn]at h96 hpos;rw[hcc]at hc96 hpos;have hfo:=a5I QV.mono X w u m hu (by omega);rw[hf]at hfo;have hcol:=hid (fun w' (h:Ext w w')=>a6W X w' u m (mkx MV.mono hu h));rw[hcc]at hcol;have hsh':=hid hsh;have hnn':=hid hnn;have hbl':=hid hbl;have hWs:=hid (a1x (b:=b) hsh);have hwg:Hid (∀i (h:i<(a1M m b n).length) (hi:i<m.length) (hb:i<b.length),(a1M m b n)[i]=m[i]++[b[i]]):=hid fun i h hi hb=>a7o h hi hb;have hWc:0<n->colsL (a1M m b n)=c+1:=fun h=>b0L (a1x (b:=b) hsh) h;obtain⟨W,hW⟩:∃W,a1M m b n=W:=⟨_,rfl⟩;rw[hW]at hWs hT hwg hWc hB |-;have hWcl:colsL W<=c+1:=by
  by_cases h0:0<n
  ·rw[hWc h0];exact Nat.le_refl _
  ·have:W= []:=List.eq_nil_of_length_eq_zero (by rw[hWs.out.1];omega)
   subst this;exact Nat.zero_le _
 have hRc:=hid (a7q hWs.out (colsL W) hWc);have hWcs:Shp n (colsL W) W:=⟨hWs.out.1,fun r hr=>by
  have:=List.length_pos_of_mem hr;rw[hWc (by rw[<-hWs.out.1];exact this)];exact hWs.out.2 r hr⟩
 have hred:=hid (a8F hWcs);have hre:=hid (fun w' (h:Ext w w') (v:Value) (hv:MC (mk X w') v W)=>a5J X w' v W n (colsL W) (hX.ext h) (hv.mv hB) hWcs rfl (by omega) (by omega) (hT.le hWcl));have hok:=a0V hWs.out;obtain⟨⟨R,p⟩,hRp⟩:∃S,a1o W (c+1)=S:=⟨_,rfl⟩;rw[hRp]at hok hRc;rw[hRc.out]at hred;have hRp':=hid hRp
 dsimp only at hok
 have hRs:=hid hok.1;have hRr:=hid hok.2.1;obtain⟨⟨R',p',f⟩,hS⟩:∃S,rN W (colsL W)=S:=⟨_,rfl⟩;rw[hS]at hre hred
 dsimp only at hred
 obtain⟨rfl,rfl⟩:R'=R/\p'=p:=⟨hred.out.1.symm,hred.out.2.symm⟩;have hRl:Hid (R'.length=n):=hid hRs.out.1;obtain⟨ua,uca,rfl,huca,hua⟩:=hu;obtain⟨va,vca,rfl,hvca,hva⟩:=hv;have hhu:=hua.hd;have hhv:=hva.hd;rw[hnn]at hfo hcol huca hhu |-;rw[hbl]at hvca hhv |-;have hneq:((n:Int) !=(n:Int))=false:=a6d rfl;have hWl:Hid (W.length=n):=hid hWs.out.1;have hWl2:W.length<=n:=by rw[hWl.out];exact Nat.le_refl _
 have hWl3:n<=W.length:=by rw[hWl.out];exact Nat.le_refl _
 have hpn:p'.length<=n:=hok.2.1.le;rw[hRp];clear hf hnn hcc hsh hW hT hWc hbl hok hRp hS hWcs hWcl hB hred hRc;go_enter Tryz.func138,Tryz.ntmps138
 go_wp2_with fail
 refine hfo.mono ?_;rintro e w1 ⟨hE1,rfl⟩;have h1:=hcol.out w1 hE1;clear hfo;go_wp2_with fail
 refine h1.mono ?_;rintro e w2 ⟨rfl,rfl⟩;clear h1;go_wp2_with fail
 go_loopw [7,8] (fun o cc wr=>∃(i:Nat) (oo:Option Addr) (co:Nat),cc= .int .i64 i/\o= .slice oo i co/\i<=n/\OL RC 1 X w.heap.size 45 wr oo co (W.take i)/\Ext w wr) (fun _ cc _=>n - (intOf cc).toNat)
 case atStart=>exact⟨0,none,0,rfl,rfl,Nat.zero_le _,OL.nil _ _ _ _ _ _,hE1⟩
 case round=>
  obtain⟨i,oo,co,rfl,rfl,hi,hO,hE⟩:=hrel;have hXr:HX X wr:=hX.ext hE;have hXu:HX (un X oo) wr:=hO.unX hXr;have hbase:=hE.size;by_cases hlt:i<n
  ·have him:i<m.length:=by rw[hnn'.out];exact hlt
   have hib:i<b.length:=by rw[hbl'.out];exact hlt
   have hltW:i<W.length:=by omega
   have htk:=hid (a1r W i hltW);have hln:=hid (a1H (l:=W) (i:=i) (by omega));have hge:=hwg.out i hltW him hib;rw[hge]at htk;have hsr:Sl RV 1 (mk (un X oo) wr) ua m:=hua.old RV.mono hE (fun j hj=>hO.ob_lt hj);have hsb:Sl QV 3 (mk (un X oo) wr) va b:=hva.old QV.mono hE (fun j hj=>hO.ob_lt hj);obtain⟨a1,c1,hX1,hc1,hcl1,hq1⟩:=hsr.row i him;obtain⟨g4,o4,s4,a4,n4,c4,d4,k4,e4,hg4,hX4,hc4,hq4⟩:=hsb.rat QV.shaped i hib;have hrl:Hid (m[i].length=c):=hid (hsh'.out.2 m[i] (List.getElem_mem _));have hEd:Ext wr wr.drew:=(ExtX.refl wr).drew;have htl:=a8A (un X oo) wr.drew (.slice a1 m[i].length c1) m[i] hXu ⟨a1,c1,rfl,hcl1,hq1⟩ (by rw[hrl.out];omega);obtain⟨x,hx⟩:∃x,m[i]=x:=⟨_,rfl⟩;obtain⟨v,hv⟩:∃v,b[i]=v:=⟨_,rfl⟩;rw[hx,hv]at htk;rw[hx]at hrl htl hc1;rw[hv]at hq4;have hxl:=hrl.out;have hxc:x.length<=96:=by omega
   have hob1:ob oo (adr ua i).block=false:=(a0X hX1).2;have hob2:ob oo g4=false:=(a0X hX4).2;have hS:Hid (∀Y W',ExtX Y wr.drew W'->Y (adr ua i).block=false->Y g4=false->W'.cell? (adr ua i)=some (.slice a1 x.length c1)/\W'.cell? ⟨g4,o4,none⟩=some (.bool s4)/\W'.cell? ⟨g4,o4+1,none⟩=some (.slice a4 n4 c4)/\W'.cell? ⟨g4,o4+2,none⟩=some (.slice d4 k4 e4)):=hid fun Y W' h hg hb=>by
    have p4:=hc4.out Y W' ((ExtX.of hEd).trans h) hb;exact⟨hc1.out Y W' ((ExtX.of hEd).trans h) hg,p4.1,p4.2.1,p4.2.2⟩
   obtain⟨k00,k10,k11,k12⟩:=hS.out noY wr.drew (ExtX.refl _) rfl rfl;have i1:∀W,(Instr.indexAt 25 (.slice ua n uca) (.int .i64 (i:Int))).run Tryz.prog W= .ok (.pointer (some (adr ua i))) W:=a0w a0s ua n uca .i64 i hhu (by omega) rfl;have i2:∀W,(Instr.indexAt 45 (.slice va n vca) (.int .i64 (i:Int))).run Tryz.prog W= .ok (.pointer (some ⟨g4,o4,none⟩)) W:=by rw[<-hg4];exact a0j a0H va n vca .i64 i hhv (by omega)
   have hqd:QV (mk (un X oo) wr.drew) (.agg #[.bool s4, .slice a4 n4 c4, .slice d4 k4 e4]) v:=hq4;clear hc1 hc4 hx hv hge hq1 hg4 hrl hxl hcl1;go_wp2_with fail
   go_region_held3 (fun w'=>w'.cell? (adr ua i)=some (.slice a1 x.length c1)/\w'.cell? ⟨g4,o4,none⟩=some (.bool s4)/\w'.cell? ⟨g4,o4+1,none⟩=some (.slice a4 n4 c4)/\w'.cell? ⟨g4,o4+2,none⟩=some (.slice d4 k4 e4))
    (first|exact hS.out (ob oo) _ ((ExtX.of tE8).trans hE9) hob1 hob2|exact hS.out noY _ (ExtX.alloc tE8 _) rfl rfl|exact hS.out noY _ tE8 rfl rfl|exact hS.out noY _ (ExtX.alloc t12 _) rfl rfl|exact hS.out noY _ t12 rfl rfl|exact hS.out noY _ t1 rfl rfl|go_keep)
    (first|(go_at_call 203;(with_reducible refine htl.mono ?_);rintro ee w6 ⟨t1,ro,cr,rfl,hO6⟩;have hX6:=hXu.ext (hEd.trans t1);have hXX6:HX (un (un X oo) ro) w6:=hO6.unX hX6;have hq6:=a5c QV.mono hqd t1 (fun j hj=>hO6.ob_lt hj))|(go_at_call 117;(with_reducible refine(a3F (un (un X oo) ro) w6 _ v hXX6 hq6).mono ?_);rintro ee w7 ⟨t2,u7,rfl,hu7⟩;obtain⟨s7,a7,n7,c7,d7,k7,e7,rfl⟩:=hu7.shape;have t12:=t1.trans t2;have hO7:=hO6.ext0 QC.elem t2;have hX7:=hX6.ext t2;have hb7:=t12.size)|(refine a1b (l:=x) rfl (by rfl) a0H rfl QC.elem hb7 hX7 x.length rfl rfl rfl hO7 (.agg #[.bool s7, .slice a7 n7 c7, .slice d7 k7 e7]) v rfl hu7 (by omega) (by omega) ?_;intro ro2 cr2 w8 hO8 hE8 hor8;have tE8:Ext wr.drew w8:=t12.own hO7 (Nat.le_refl _) hE8;have hOo8:=hO.ext0 RC.elem (hEd.trans tE8);have hRC8:RC (mk (un X oo) w8) (.slice ro2 (x.length+1) cr2) (x++[v]):=⟨ro2,cr2,by rw[List.length_append];rfl,hO8.lenCap,hO8.sl QC.elem⟩;have hX8:=hXr.ext (hEd.trans tE8);have hb8:=(hEd.trans tE8).size)|(refine a1b (l:=W.take i) rfl (by rfl) a0s rfl RC.elem (Nat.le_trans hbase hb8) hX8 i hln.out rfl rfl hOo8 (.slice ro2 (x.length+1) cr2) (x++[v]) rfl hRC8 (by omega) (by omega) ?_;intro oo2 co2 w9 hO9 hE9 hor9))
   have hE10:=(hE.trans (hEd.trans tE8)).own hOo8 (Nat.le_refl _) hE9;rw[htk.out]at hO9;clear k00 k10 k11 k12 i1 i2;go_wp2_with fail
   go_roundw
   case rel=>exact⟨i+1,oo2,co2,by go_num,by go_num,by omega,hO9,hE10⟩
   case measure=>simp[intOf];omega
  ·have hil:i=n:=by omega
   subst hil;rw[List.take_of_length_le (by omega)]at hO;have hc:=hO.lenCap;have hMC:MC (mk X wr) (.slice oo i co) W:=⟨oo,co,by rw[hWl.out],hc,hO.sl RC.elem⟩;have h5:=hre.out wr hE _ hMC;clear hO hMC;go_wp2_with fail
   refine h5.mono ?_;rintro e w6 ⟨hE6,ro,rco,po,pc,uf,rfl,hrco,hpc,hso,hsp,huf⟩
   dsimp only at hrco hso hpc hsp |-
   obtain⟨s2,a2,n2,c2,d2,k2,e2,rfl⟩:=huf.shape;have bx2:=Bx.new w6 #[.bool false, .slice none 0 0, .slice none 0 0] 32;have hhr:=hso.hd;have hhp:=hsp.hd;obtain⟨pl,hpl⟩:∃pl,p'.length=pl:=⟨_,rfl⟩;have hpl':=hid hpl;rw[hRl.out]at hrco hhr |-;rw[hpl]at hpc hhp hpn |-;clear h5 huf hpl;go_wp2_with (first|((with_reducible show wpList _ _ _ (⟨_, .store _ _ _,_,_,_,_⟩::_) _ _);refine a0b a0u rfl rfl bx2 rfl rfl (a2B _ _ _ _ _ _ _) ?_;intro w7 r3 r4;have hE7:Ext w6 w7:=ExtX.box ((ExtX.refl w6).alloc _) r4 (Nat.le_refl _);have hE07:=hE.trans (hE6.trans hE7);have hX7:=hX.ext hE07)|((with_reducible show wpList _ _ _ (⟨_, .makeSlice _ _ _,_,_,_,_⟩::_) _ _);refine a1N (R:=QC) a0H QC.elem (0:Rat) (fun _=>QC.zero _) X hX7 w7.heap.size (Nat.le_refl _) c rfl rfl rfl (by omega) (by omega) ?_;intro xo w8 hO8 hE8))
   have hE08:=hE07.trans hE8;have hso7:=hso.mono RC.mono (a0p hE7);have hsp7:=hsp.mono (a0c.mono _) (a0p hE7);have hdO:Hd xo c:=by have:=hO8.hd;rw[List.length_replicate]at this;exact this
   clear hso hsp bx2 r3;go_loopw [13] (fun cc wr=>∃(j:Nat),cc= .int .i64 j/\j<=pl/\OL QC 3 X w7.heap.size 32 wr xo c (sN R' p' c j)/\Hid (∀k (hk:k<p'.length),k<j->p'[k]≠c)/\Ext w7 wr) (fun cc _=>pl - (intOf cc).toNat)
   case atStart=>exact⟨0,rfl,Nat.zero_le _,hO8,hid (fun k _ h=>by omega),hE8⟩
   case round=>
    clear hO8 hE8;obtain⟨j,rfl,hj,hO,hne,hE⟩:=hrel;have hXr:HX X wr:=hX7.ext hE;by_cases hlj:j<pl
    ·have hjp:j<p'.length:=by rw[hpl'.out];exact hlj
     have hjR:j<R'.length:=by rw[hRl.out];omega
     have hsr:Sl RC 1 (mk (un X xo) wr) ro R':=hso7.old RC.mono hE (fun j hj=>hO.ob_lt hj);have hspr:Sl (a0c .i64) 1 (mk (un X xo) wr) po p':=hsp7.old (a0c.mono _) hE (fun j hj=>hO.ob_lt hj);have hcl:=hspr.nat j hjp;have hpc1:Hid (p'[j]<c+1):=hid (hRr.out.lt j hjp);have hgd:Hid (p'.getD j 0=p'[j]):=hid (by simp[List.getD_eq_getElem?_getD,hjp]);have hmem:Hid (p'[j]∈p'):=hid (List.getElem_mem _);obtain⟨q,hq⟩:∃q,p'[j]=q:=⟨_,rfl⟩;rw[hq]at hcl hpc1 hgd hmem;have hq':=hid hq;have i1:∀W,(Instr.indexAt 22 (.slice po pl pc) (.int .i64 (j:Int))).run Tryz.prog W= .ok (.pointer (some (adr po j))) W:=a0w a6z po pl pc .i64 j hhp (by omega) rfl;clear hq;by_cases hqc:q=c
     ·have hb:((q:Int)==(c:Int))=true:=a6e (by omega)
      have hmem2:Hid (c∈p'):=hid (hqc▸hmem.out);clear hqc;go_wp2_with fail
      go_ret2
      exact⟨hE07.trans hE, .inl ⟨hmem2.out,rfl⟩⟩
     ·have hb:((q:Int)==(c:Int))=false:=a2V (by omega)
      have hqc1:q<c:=by have:=hpc1.out;omega
      have hne2:Hid (∀k (hk:k<p'.length),k<j+1->p'[k]≠c):=hid fun k hk hkj=>by
       by_cases h:k=j
       ·subst h;rw[hq'.out];exact hqc
       ·exact hne.out k hk (by omega)
      obtain⟨a1,c1,hX1,hc1,hcl1,hq1⟩:=hsr.row j hjR;have hrl:=hid (hRs.out.2 R'[j] (List.getElem_mem _));have hcR:c<R'[j].length:=by rw[hrl.out];omega
      have hev:Hid (R'[j][c]=ent R' j c):=hid (a7O hjR hcR);obtain⟨g4,o4,s4,a4,n4,c4,d4,k4,e4,hg4,hX4,hc4,hq4⟩:=hq1.rat QC.shaped c hcR;rw[hev.out]at hq4;have hh1:Hd a1 (c+1):=by have:=hq1.hd;rw[hrl.out]at this;exact this
      have k00:=hc1.out noY wr (ExtX.refl _) rfl;rw[hrl.out]at k00;obtain⟨k10,k11,k12⟩:=hc4.out noY wr (ExtX.refl _) rfl;have hqO:q<(sN R' p' c j).length:=by rw[a6b];exact hqc1
      have hsn:Hid ((sN R' p' c j).set q (ent R' j c)=sN R' p' c (j+1)):=hid (by rw[<-hgd.out];rfl);obtain⟨v,hv⟩:∃v,ent R' j c=v:=⟨_,rfl⟩;rw[hv]at hq4 hsn;obtain⟨g,o,hg⟩:∃g o,adr xo (q*3)=⟨g,o,none⟩:=⟨_,_,rfl⟩;have i2:∀W,(Instr.indexAt 25 (.slice ro i rco) (.int .i64 (j:Int))).run Tryz.prog W= .ok (.pointer (some (adr ro j))) W:=a0w a0s ro i rco .i64 j hhr (by omega) rfl;have i3:∀W,(Instr.indexAt 45 (.slice a1 (c+1) c1) (.int .i64 (c:Int))).run Tryz.prog W= .ok (.pointer (some ⟨g4,o4,none⟩)) W:=by rw[<-hg4];exact a0j a0H a1 (c+1) c1 .i64 c hh1 (by omega)
      have i4:∀W,(Instr.indexAt 45 (.slice xo c c) (.int .i64 (q:Int))).run Tryz.prog W= .ok (.pointer (some ⟨g,o,none⟩)) W:=by rw[<-hg];exact a0j a0H xo c c .i64 q hdO (by omega)
      obtain⟨_,v0,v1,v2,_,⟨g0,f0⟩,⟨g1,f1⟩,⟨g2,f2⟩,_⟩:=hO.cell3 q hqO hg;have hset:=hO.set3 a6N QC.elem q hqO hg (v0:= .bool s4) (v1:= .slice a4 n4 c4) (v2:= .slice d4 k4 e4) (x:=v) hq4;have hO':=hid hO;clear hO hqc hv hc1 hc4 hg hg4 hq1 hq4 hcl1 hev;go_wp2_with fail
      go_region
      all_goals
       obtain⟨q1,q2⟩:=hset;rw[hsn.out]at q1;have q1d:=q1.ext0 QC.elem ((ExtX.refl (Y:=noY) _).drew);have hE9:=hE.own hO'.out (Nat.le_refl _) q2.drew;clear k00 k10 k11 k12 g0 g1 g2 f0 f1 f2 i1 i2 i3 i4 hcl q1 q2;go_wp2_with fail
       go_roundw
       case rel=>exact⟨j+1,by go_num,by omega,q1d,hne2,hE9⟩
       case measure=>simp[intOf];omega
    ·have hjl:j=pl:=by omega
     subst hjl;have hnp:c∉p':=fun hm=>by
      obtain⟨k,hk,hkc⟩:=List.getElem_of_mem hm;exact hne.out k hk (by rw[<-hpl'.out];exact hk) hkc
     have hs:=hO.sl QC.elem;have hlc:=hO.lenCap;go_wp2_with fail
     go_ret2
     rw[<-hpl'.out]at hs hlc;exact⟨hE07.trans hE, .inr ⟨hnp, .slice xo c c,rfl,xo,c,by show Value.slice xo c c=Value.slice xo (sN R' p' c p'.length).length c;rw[a6b],hlc,hs⟩⟩
set_option maxRecDepth 100000 in
set_option maxHeartbeats 3200000 in
theorem b2O (X:Nat->Bool) (w:World) (u:Value) (m:Mom) (hX:HX X w) (hu:a5g (mk X w) u m) (hl:m.xx.length<=1000000) (hok:a2e m=false):
  Calls Tryz.prog 52 #[u] w (a5l X w m):=by
 have hfo:=hid fun w' (h:Ext w w')=>a4g X w' u m (hX.ext h) (mkx a5g.mono hu h) (by omega);obtain⟨xo,xl,xc,yo,yl,yc,s,a,n,c,d,k,e,rfl,hx,hy,hqq⟩:=hu;obtain⟨W,hW,hE,b0,b1,hz⟩:=a1t w #[.int .i64 m.n, .slice xo xl xc, .slice yo yl yc, .bool s, .slice a n c, .slice d k e] #[.bool false, .slice none 0 0, .slice none 0 0] 83 32;have hXW:HX (a0g X w.heap.size 2) W:=hX.boxes hz;have hle:Hid (∀w',Ext W w'->Le (mk X w) (mk (a0g X w.heap.size 2) w')):=hid fun w' h=>a0n (hE.trans h);obtain⟨b,hb⟩:∃b,w.heap.size=b:=⟨_,rfl⟩;have hbw:w.heap.size<=b:=by omega
 rw[hb]at b0 b1 hz hXW hle;obtain⟨N,hN⟩:∃N,m.n=N:=⟨_,rfl⟩;rw[hN]at b0 hW hfo |-;have k0:=b0.cell 0 rfl;have k1:=b0.cell 1 rfl;have k2:=b0.cell 2 rfl;have k3:=b0.cell 3 rfl;have k4:=b0.cell 4 rfl;have k5:=b0.cell 5 rfl;have h0:QC (mk X W) (.agg #[.bool false, .slice none 0 0, .slice none 0 0]) 0:=QC.zero _;have hf1:=hfo.out W hE;rw[hok]at hf1;have hok':=hid hok;clear hfo hok hN;go_enter Tryz.func52,Tryz.ntmps52
 go_wp2_with fail
 refine hf1.mono ?_;rintro ee w1 ⟨hE1,rfl⟩;have b11:=b1.ext0 hE1;clear hf1 k0 k1 k2 k3 k4 k5;go_wp2_with ((with_reducible show wpList _ _ _ (⟨_, .store 32 _ _,_,_,_,_⟩::_) _ _);refine a0b a0u rfl rfl b11 rfl rfl (a2B _ _ _ _ _ _ _) ?_;intro w7 r1 r2)
 have hE7:Ext w w7:=ExtX.box (hE.trans hE1) r2 (by omega);exact bodyPost_ret (a1W rfl rfl a0u r1 rfl) rfl ⟨hE7,_,_,_,_,rfl, .inl ⟨hok'.out,rfl,rfl,SlV.zero _ _ _,QC.zero _⟩⟩
set_option maxRecDepth 100000 in
set_option maxHeartbeats 3200000 in
theorem a9X (X:Nat->Bool) (w:World) (u:Value) (m:Mom) (hX:HX X w) (hu:a5g (mk X w) u m) (hl:m.xx.length<=1000000) (hok:a2e m=false):
  Calls Tryz.prog 68 #[u] w (a5l X w m):=by
 have hfo:=hid fun w' (h:Ext w w')=>a3j X w' u m (mkx a5g.mono hu h) (by omega);obtain⟨xo,xl,xc,yo,yl,yc,s,a,n,c,d,k,e,rfl,hx,hy,hqq⟩:=hu;obtain⟨W,hW,hE,b0,b1,hz⟩:=a1t w #[.int .i64 m.n, .slice xo xl xc, .slice yo yl yc, .bool s, .slice a n c, .slice d k e] #[.bool false, .slice none 0 0, .slice none 0 0] 83 32;have hXW:HX (a0g X w.heap.size 2) W:=hX.boxes hz;have hle:Hid (∀w',Ext W w'->Le (mk X w) (mk (a0g X w.heap.size 2) w')):=hid fun w' h=>a0n (hE.trans h);obtain⟨b,hb⟩:∃b,w.heap.size=b:=⟨_,rfl⟩;have hbw:w.heap.size<=b:=by omega
 rw[hb]at b0 b1 hz hXW hle;obtain⟨N,hN⟩:∃N,m.n=N:=⟨_,rfl⟩;rw[hN]at b0 hW hfo |-;have k0:=b0.cell 0 rfl;have k1:=b0.cell 1 rfl;have k2:=b0.cell 2 rfl;have k3:=b0.cell 3 rfl;have k4:=b0.cell 4 rfl;have k5:=b0.cell 5 rfl;have h0:QC (mk X W) (.agg #[.bool false, .slice none 0 0, .slice none 0 0]) 0:=QC.zero _;have hf1:=hfo.out W hE;rw[hok]at hf1;have hok':=hid hok;clear hfo hok hN;go_enter Tryz.func68,Tryz.ntmps68
 go_wp2_with fail
 refine hf1.mono ?_;rintro ee w1 ⟨hE1,rfl⟩;have b11:=b1.ext0 hE1;clear hf1 k0 k1 k2 k3 k4 k5;go_wp2_with ((with_reducible show wpList _ _ _ (⟨_, .store 32 _ _,_,_,_,_⟩::_) _ _);refine a0b a0u rfl rfl b11 rfl rfl (a2B _ _ _ _ _ _ _) ?_;intro w7 r1 r2)
 have hE7:Ext w w7:=ExtX.box (hE.trans hE1) r2 (by omega);exact bodyPost_ret (a1W rfl rfl a0u r1 rfl) rfl ⟨hE7,_,_,_,_,rfl, .inl ⟨hok'.out,rfl,rfl,SlV.zero _ _ _,QC.zero _⟩⟩
set_option maxRecDepth 100000 in
set_option maxHeartbeats 3200000 in
theorem a8B (X:Nat->Bool) (w:World) (u:Value) (m:Mom) (hX:HX X w) (hu:a5g (mk X w) u m) (hl:m.xx.length<=4) (hB:BMo 5929 m):
  Calls Tryz.prog 68 #[u] w (a5l X w m):=by
 have hfo:=hid fun w' (h:Ext w w')=>a3j X w' u m (mkx a5g.mono hu h) (by omega);obtain⟨xo,xl,xc,yo,yl,yc,s,a,n,c,d,k,e,rfl,hx,hy,hqq⟩:=hu;obtain⟨W,hW,hE,b0,b1,hz⟩:=a1t w #[.int .i64 m.n, .slice xo xl xc, .slice yo yl yc, .bool s, .slice a n c, .slice d k e] #[.bool false, .slice none 0 0, .slice none 0 0] 83 32;have hXW:HX (a0g X w.heap.size 2) W:=hX.boxes hz;have hle:Hid (∀w',Ext W w'->Le (mk X w) (mk (a0g X w.heap.size 2) w')):=hid fun w' h=>a0n (hE.trans h);obtain⟨b,hb⟩:∃b,w.heap.size=b:=⟨_,rfl⟩;have hbw:w.heap.size<=b:=by omega
 rw[hb]at b0 b1 hz hXW hle;obtain⟨N,hN⟩:∃N,m.n=N:=⟨_,rfl⟩;rw[hN]at b0 hW hfo |-;have k0:=b0.cell 0 rfl;have k1:=b0.cell 1 rfl;have k2:=b0.cell 2 rfl;have k3:=b0.cell 3 rfl;have k4:=b0.cell 4 rfl;have k5:=b0.cell 5 rfl;have h0:QC (mk X W) (.agg #[.bool false, .slice none 0 0, .slice none 0 0]) 0:=QC.zero _;cases hok:a2e m
 ·have hf1:=hfo.out W hE
  rw[hok]at hf1;have hok':=hid hok;clear hfo hok hN;go_enter Tryz.func68,Tryz.ntmps68
  go_wp2_with fail
  refine hf1.mono ?_;rintro ee w1 ⟨hE1,rfl⟩;have b11:=b1.ext0 hE1;clear hf1 k0 k1 k2 k3 k4 k5;go_wp2_with ((with_reducible show wpList _ _ _ (⟨_, .store 32 _ _,_,_,_,_⟩::_) _ _);refine a0b a0u rfl rfl b11 rfl rfl (a2B _ _ _ _ _ _ _) ?_;intro w7 r1 r2)
  have hE7:Ext w w7:=ExtX.box (hE.trans hE1) r2 (by omega);exact bodyPost_ret (a1W rfl rfl a0u r1 rfl) rfl ⟨hE7,_,_,_,_,rfl, .inl ⟨hok'.out,rfl,rfl,SlV.zero _ _ _,QC.zero _⟩⟩
 ·obtain⟨_,hf,hsq,hxy,_⟩:=a2C hok
  obtain⟨B1,B2,B3⟩:=hB;obtain⟨hsh,_,_,_,_⟩:=a0A hf;rw[<-hsq]at hsh;have hhb:=a5F B1 (by decide);have hTw:=(a2S (a1x (b:=m.xy) hsh) (a5o hsh hhb B2) hl (by decide)).2;have hWb:BM 68719476736 (a1M m.xx m.xy m.xx.length):=fun r hr q hq=>Nat.le_trans (a5k (a5o hsh hhb B2) r hr q hq) (by decide);have hTe:=(a2S hsh hhb hl (by decide)).2;have hcb:BR 8000000 (fmC m):=fun q hq=>Nat.le_trans (a6V hsh hhb B2 hl q hq) (by decide);have hcl:=a7b m;have hdb:=a2h (l:=fmC m) (m:=m.xy) hcb (fun q hq=>Nat.le_trans (B2 q hq) (by decide)) (by decide) (by omega) (by decide);have hdq:Hid (hq (a2L (fmC m) m.xy)<=68719476736):=hid (hdb.1 _ (Nat.le_refl _));have hsol:=hid fun w' (h:Ext W w') (u v:Value) (h1:MV (mk (a0g X b 2) w') u m.xx) (h2:RV (mk (a0g X b 2) w') v m.xy)=>b1q (a0g X b 2) w' u v m.xx m.xy m.xx.length m.xx.length (hXW.ext h) h1 h2 hf rfl hsq.symm hxy.symm hTw hWb;have hrk:=hid fun w' (h:Ext W w') (u:Value) (h1:MV (mk (a0g X b 2) w') u m.xx)=>b2B (a0g X b 2) w' u m.xx m.xx.length m.xx.length (hXW.ext h) h1 hf rfl hsq.symm hTe;have hdo:=hid fun w' (u v:Value) (hX':HX (a0g X b 2) w') (h1:RV (mk (a0g X b 2) w') u (fmC m)) (h2:RV (mk (a0g X b 2) w') v m.xy)=>b2G (a0g X b 2) w' u v (fmC m) m.xy hX' h1 h2 (by omega) (by omega) hdb.1 hdb.2;have hxv:=hid fun w' (h:Ext W w')=>MV.mono _ _ _ _ (hle.out w' h) hx;have hyv:=hid fun w' (h:Ext W w')=>RV.mono _ _ _ _ (hle.out w' h) hy;have hqv:=hid fun w' (h:Ext W w')=>QV.mono _ _ _ _ (hle.out w' h) hqq;have hin:Hid (m.xx.length∈(fmS m).2->∀(w':World) z u,Ext w w'->RC (mk X w') z []->QC (mk X w') u 0->a5l X w m (.returned (.tuple #[z,u, .int .i64 0, .int .i64 11])) w'):=hid fun h1 w' z u hE hz hu=>⟨hE,z,u,_,_,rfl, .inr (.inl ⟨hok,h1,rfl,rfl,hz,hu⟩)⟩;have hout:Hid (m.xx.length∉(fmS m).2->∀(w':World) z u,Ext w w'->RC (mk X w') z (fmC m)->QC (mk X w') u (m.yy - a2L (fmC m) m.xy)->a5l X w m (.returned (.tuple #[z,u, .int .i64 (a4N m.xx m.xx.length:Int), .int .i64 0])) w'):=hid fun h1 w' z u hE hz hu=>⟨hE,z,u,_,_,rfl, .inr (.inr ⟨hok,h1,rfl,rfl,hz,hu⟩)⟩;have hf1:=hfo.out W hE;rw[hok]at hf1;unfold a6n at hsol;obtain⟨D,hD⟩:∃D,a2L (fmC m) m.xy=D:=⟨_,rfl⟩;rw[hD]at hdq hdo hout;obtain⟨F,hF⟩:∃F,a5l X w m=F:=⟨_,rfl⟩;rw[hF]at hin hout |-;obtain⟨rk,hrk2⟩:∃rk,a4N m.xx m.xx.length=rk:=⟨_,rfl⟩;rw[hrk2]at hrk hout;have hSe:a1o (a1M m.xx m.xy m.xx.length) (m.xx.length+1)=fmS m:=rfl;rw[hSe]at hsol;have hCe:b1M (fmS m).1 (fmS m).2 m.xx.length=fmC m:=rfl;rw[hCe]at hsol;obtain⟨C,hC⟩:∃C,fmC m=C:=⟨_,rfl⟩;rw[hC]at hsol hdo hout hcl hcb;obtain⟨S,hS2⟩:∃S,fmS m=S:=⟨_,rfl⟩;rw[hS2]at hsol hin hout;obtain⟨q,hqe⟩:∃q,m.xx.length=q:=⟨_,rfl⟩;rw[hqe]at hsol hin hout hcl;have hCb:Hid (BR 68719476736 C):=hid fun x hx=>Nat.le_trans (hcb x hx) (by decide);have hCl:=hid hcl;clear hfo hok hN hf hsq hxy hsh hhb hTw hTe hcb hdb hx hy hqq hD hF hrk2 hSe hCe hC hS2 hqe B1 B2 B3 hl hcl;go_enter Tryz.func68,Tryz.ntmps68
  go_wp2_with fail
  refine hf1.mono ?_;rintro ee w1 ⟨hE1,rfl⟩;have b01:=b0.ext0 hE1;have b11:=b1.ext0 hE1;have j1:=b01.cell 1 rfl;have j2:=b01.cell 2 rfl;have hs1:=hsol.out w1 hE1 _ _ (hxv.out w1 hE1) (hyv.out w1 hE1);clear hf1 k0 k1 k2 k3 k4 k5 hsol;go_wp2_with fail
  refine hs1.mono ?_;rintro ee w2 ⟨hE2,hor⟩;have hE12:=hE1.trans hE2;rcases hor with⟨hmem,rfl⟩|⟨hmem,cv,rfl,hcv⟩
  ·have b12:=b1.ext0 hE12
   have hfin:=hid (hin.out hmem);clear hs1 hmem j1 j2 hin hout;go_wp2_with ((with_reducible show wpList _ _ _ (⟨_, .store 32 _ _,_,_,_,_⟩::_) _ _);refine a0b a0u rfl rfl b12 rfl rfl (a2B _ _ _ _ _ _ _) ?_;intro w7 r1 r2)
   have hE7:Ext w w7:=ExtX.box (hE.trans hE12) r2 (by omega);exact bodyPost_ret (a1W rfl rfl a0u r1 rfl) rfl (hfin.out w7 _ _ hE7 (SlV.zero _ _ _) (QC.zero _))
  ·have hfin:=hid (hout.out hmem)
   have b02:=b0.ext0 hE12;have i1:=b02.cell 1 rfl;have hr2:=hrk.out w2 hE12 _ (hxv.out w2 hE12);have hcv':=hid hcv;obtain⟨co,cc,rfl,_,_⟩:=hcv;rw[hCl.out]at hcv' |-;clear hs1 hmem j1 j2 hin hout hrk;go_wp2_with fail
   refine hr2.mono ?_;rintro ee w3 ⟨hE3,rfl⟩;have hE13:=hE12.trans hE3;have hEd:Ext w3 w3.drew:=(ExtX.refl _).drew;have hE1d:=hE13.trans hEd;have hS:Hid (∀w',Ext w3.drew w'->w'.cell? ⟨b,3,none⟩=some (.bool s)/\w'.cell? ⟨b,3+1,none⟩=some (.slice a n c)/\w'.cell? ⟨b,3+2,none⟩=some (.slice d k e)/\w'.cell? ⟨b,2,none⟩=some (.slice yo yl yc)):=hid fun w' h=>by
    have b9:=b0.ext0 (hE1d.trans h);exact⟨b9.cell 3 rfl,b9.cell 4 rfl,b9.cell 5 rfl,b9.cell 2 rfl⟩
   obtain⟨g0,g1,g2,g3⟩:=hS.out _ (ExtX.refl _);have hXd:HX (a0g X b 2) w3.drew:=hXW.ext hE1d;have hd3:=hdo.out w3.drew _ _ hXd ((mkx RC.mono hcv'.out (hE3.trans hEd)).rv hCb.out) (hyv.out _ hE1d);have hqd:=hqv.out w3.drew hE1d;clear hr2 i1 hdo;go_wp2_with fail
   go_region_held3 (fun w'=>w'.cell? ⟨b,3,none⟩=some (.bool s)/\w'.cell? ⟨b,3+1,none⟩=some (.slice a n c)/\w'.cell? ⟨b,3+2,none⟩=some (.slice d k e)/\w'.cell? ⟨b,2,none⟩=some (.slice yo yl yc))
    (first|exact hS.out _ t1|exact hS.out _ t2|exact⟨((b0.ext0 (hE1d.trans t2)).ext (bb2.set3 _ _ _).2 (a0d (by omega))).cell 3 rfl,((b0.ext0 (hE1d.trans t2)).ext (bb2.set3 _ _ _).2 (a0d (by omega))).cell 4 rfl,((b0.ext0 (hE1d.trans t2)).ext (bb2.set3 _ _ _).2 (a0d (by omega))).cell 5 rfl,((b0.ext0 (hE1d.trans t2)).ext (bb2.set3 _ _ _).2 (a0d (by omega))).cell 2 rfl⟩|go_keep)
    (first|(go_at_call 42;(with_reducible refine hd3.mono ?_);rintro ee w5 ⟨t1,u5,rfl,hu5⟩;have hX5:=HX.ext hXd t1;have hq5:=mkx QV.mono hqd t1;have hu5v:=hu5.qv hdq.out)|(go_at_call 70;(with_reducible refine(b6j (a0g X b 2) w5 _ _ _ _ hX5 hq5 hu5v).mono ?_);rintro ee w6 ⟨hE6,u6,rfl,hu6⟩;have t2:=t1.trans hE6;obtain⟨s6,a6,n6,c6,d6,k6,e6,rfl⟩:=hu6.shape;have bb2:=b1.ext0 (hE1d.trans t2);have f0:=bb2.cell 0 rfl;have f1:=bb2.cell 1 rfl;have f2:=bb2.cell 2 rfl;have f3:=bb2.frozen 0;have f4:=bb2.frozen 1;have f5:=bb2.frozen 2))
   all_goals
    obtain⟨r1,r2⟩:=bb2.set3 (.bool s6) (.slice a6 n6 c6) (.slice d6 k6 e6);have h7:=QC.mono _ _ _ _ a0k (QC.mono _ _ _ _ (a0i r2 (by omega) (by omega)) hu6);have hc7:=RC.mono _ _ _ _ a0k (RC.mono _ _ _ _ (a0i r2 (by omega) (by omega)) (mkx RC.mono hcv'.out (hE3.trans (hEd.trans t2))));have hEf:Ext w _:=ExtX.box (hE.trans (hE1d.trans t2)) r2 (by omega);clear g0 g1 g2 g3 f0 f1 f2 f3 f4 f5 hS;go_wp2_with fail
    exact bodyPost_ret (a1W rfl rfl a0u r1 rfl) rfl (hfin.out _ _ _ hEf hc7 h7)
end Go.Proofs.YtkddecjkfdogiaaGreat
