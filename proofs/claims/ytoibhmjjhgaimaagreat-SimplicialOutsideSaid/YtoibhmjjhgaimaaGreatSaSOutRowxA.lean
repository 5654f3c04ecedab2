/- exact: Clean, List, Matrix; halfspace: Witness. Conditions: numbers of few digits. reference 25: Count. Conditions: numbers of at most 10^10 digits. law 25: what a witness proves (plain). Conditions: none. law 25: HalfspaceOutside. Conditions: none. law 26: SimplicialOutside. Conditions: none. -/
import Derived.Test.YtoibhmjjhgaimaaGreatSaSLimRowxA
namespace Go.Proofs.YtoibhmjjhgaimaaGreat
open Go.RowKit Go.Rep Go.Lim Go.Lin
set_option maxRecDepth 100000 in
theorem c0I (X:Nat->Bool) (w:World) (u:Value) (x:Rat) (hX:HX X w) (hu:QV (mk X w) u x):Calls Tryz.prog 85 #[u] w (a1Z X w QC x):=by
 obtain⟨s1,a1,n1,c1,d1,k1,e1,rfl⟩:=hu.shape;obtain⟨W,hW,hE,b0,b1,hz⟩:=a2a w #[.bool s1, .slice a1 n1 c1, .slice d1 k1 e1] #[.bool false, .slice none 0 0, .slice none 0 0] 32 32;have hXW:HX (a0e X w.heap.size 2) W:=hX.boxes hz;have hu1:=QV.mono _ _ _ _ (a0q (nb:=2) hE) hu;obtain⟨b,hb⟩:∃b,w.heap.size=b:=⟨_,rfl⟩;have hbw:w.heap.size<=b:=by omega
 rw[hb]at b0 b1 hz hXW hu1;have k00:=b0.cell 0 rfl;have k01:=b0.cell 1 rfl;have k02:=b0.cell 2 rfl;have h0:QV (mk (a0e X b 2) W) (.agg #[.bool false, .slice none 0 0, .slice none 0 0]) 0:=(QC.zero _).qv (by decide+kernel);have hx0:x+0=x:=by grind
 clear hu;go_enter Tryz.func85,Tryz.ntmps85
 go_wp2_with fail
 refine(b9Z (a0e X b 2) W _ _ x 0 hXW hu1 h0).mono ?_;rintro ee w5 ⟨hE5,u5,rfl,hq5⟩;rw[hx0]at hq5;obtain⟨s5,a5,n5,c5,d5,k5,e5,rfl⟩:=hq5.shape;have b1':=b1.ext0 hE5;clear k00 k01 k02;go_wp2_with ((with_reducible show wpList _ _ _ (⟨_, .store 32 _ _,_,_,_,_⟩::_) _ _);refine a0c a0w rfl rfl b1' rfl rfl (a2C _ _ _ _ _ _ _) ?_;intro w7 r1 r2)
 have h7:=QC.mono _ _ _ _ a0k (QC.mono _ _ _ _ (a0i r2 (by omega) (by omega)) hq5);exact bodyPost_ret (a0d rfl rfl a0w r1 rfl) rfl ⟨ExtX.box (hE.trans hE5) r2 (by omega),_,rfl,h7⟩
set_option maxRecDepth 100000 in
set_option maxHeartbeats 800000 in
theorem c1v (X:Nat->Bool) (w:World) (u:Value) (l:List Rat) (hX:HX X w) (hu:RV (mk X w) u l) (hl:l.length<=1000):Calls Tryz.prog 163 #[u] w (a1Z X w RC l):=by
 obtain⟨ao,ca,rfl,hca,hsa⟩:=hu;have hha:=hsa.hd;obtain⟨n,hn⟩:∃n,l.length=n:=⟨_,rfl⟩;have hn':=hid hn;rw[hn]at hl hca hha |-;clear hn;go_enter Tryz.func163,Tryz.ntmps163
 go_wp2_with fail
 go_loopw [3,8] (fun o cc wr=>∃(i:Nat) (oo:Option Addr) (co:Nat),cc= .int .i64 i/\o= .slice oo i co/\i<=n/\OL QC 3 X w.heap.size 32 wr oo co (l.take i)/\Ext w wr) (fun _ cc _=>n - (intOf cc).toNat)
 case atStart=>exact⟨0,none,0,rfl,rfl,Nat.zero_le _,OL.nil _ _ _ _ _ _,ExtX.refl _⟩
 case round=>
  obtain⟨i,oo,co,rfl,rfl,hi,hO,hE⟩:=hrel;have hXr:HX X wr:=hX.ext hE;have hXu:HX (un X oo) wr:=hO.unX hXr;have hbase:=hE.size;by_cases hlt:i<n
  ·have hil:i<l.length:=by rw[hn'.out];exact hlt
   have htk:=hid (a0S l i hil);have hln:=hid (a1e (l:=l) (i:=i) (Nat.le_of_lt hil));have hq2:Sl QV 3 (mk (un X oo) wr) ao l:=hsa.old QV.mono hE (fun j hj=>hO.ob_lt hj);have bx:=Bx.new wr #[.bool false, .slice none 0 0, .slice none 0 0] 32;obtain⟨v,hv⟩:∃v,l[i]=v:=⟨_,rfl⟩;rw[hv]at htk;have hv':=hid hv;clear hv;go_wp2_with (first|(with_reducible refine a1E a0J (by omega) (by assumption) ?_)|((with_reducible show wpList _ _ _ (⟨_, .load 32 _,_,_,_,_⟩::_) _ _);refine a0W a0w i hq2 hil rfl (by simp) QV.agg ?_;intro u5 hu5;rw[hv'.out]at hu5;obtain⟨s5,a5,n5,c5,d5,m5,e5,rfl⟩:=hu5.shape)|((with_reducible show wpList _ _ _ (⟨_, .store 32 _ _,_,_,_,_⟩::_) _ _);refine a0c a0w rfl rfl bx rfl rfl (a2C _ _ _ _ _ _ _) ?_;intro w5 r1 r2;have hE5:Ext wr w5:=ExtX.box ((ExtX.refl wr).alloc _) r2 (Nat.le_refl _);have k10:=r1.cell 0 rfl;have k11:=r1.cell 1 rfl;have k12:=r1.cell 2 rfl;have hX5:=hXu.ext hE5;have hu6:=mkx QV.mono hu5 hE5))
   refine(c0I (un X oo) _ _ _ hX5 hu6).mono ?_;rintro e w7 ⟨hE7,u7,rfl,hu7⟩;obtain⟨s7,a7,n7,c7,d7,m7,e7,rfl⟩:=hu7.shape;have hE57:=hE5.trans hE7;have hO7:=hO.ext0 QC.elem hE57;have hb7:=(hE.trans hE57).size;have hX7:HX X w7:=hXr.ext hE57;clear k10 k11 k12;go_wp2_with (at_builtin;refine a0r (l:=l.take i) a0J rfl QC.elem hb7 hX7 i hln.out rfl rfl hO7 (.agg #[.bool s7, .slice a7 n7 c7, .slice d7 m7 e7]) v rfl hu7 (by omega) (by omega) ?_;intro oo2 co2 w9 hO9 hE9 hor)
   have hE10:=(hE.trans hE57).own hO7 (Nat.le_refl _) hE9;rw[htk.out]at hO9;go_roundw
   case rel=>exact⟨i+1,oo2,co2,by go_num,by go_num,by omega,hO9,hE10⟩
   case measure=>simp[intOf];omega
  ·have hin:i=n:=by omega
   rw[List.take_of_length_le (by rw[hn'.out];omega)]at hO;subst hin;have hc:=hO.lenCap;have hs:=hO.sl QC.elem;go_wp2_with fail
   go_ret
   exact⟨hE,_,rfl,oo,co,by rw[hn'.out];rfl,hc,hs⟩
set_option maxRecDepth 100000 in
set_option maxHeartbeats 800000 in
theorem c1w (X:Nat->Bool) (w:World) (u:Value) (m:List (List Rat)) (hX:HX X w) (hu:MV (mk X w) u m) (hl:m.length<=1000) (hr:∀r∈m,r.length<=1000):Calls Tryz.prog 127 #[u] w (a1Z X w MC m):=by
 obtain⟨ao,ca,rfl,hca,hsa⟩:=hu;have hha:=hsa.hd;obtain⟨n,hn⟩:∃n,m.length=n:=⟨_,rfl⟩;have hn':=hid hn;have hr':=hid hr;rw[hn]at hl hca hha |-;clear hn hr;go_enter Tryz.func127,Tryz.ntmps127
 go_wp2_with fail
 go_loopw [3,8] (fun o cc wr=>∃(i:Nat) (oo:Option Addr) (co:Nat),cc= .int .i64 i/\o= .slice oo i co/\i<=n/\OL RC 1 X w.heap.size 45 wr oo co (m.take i)/\Ext w wr) (fun _ cc _=>n - (intOf cc).toNat)
 case atStart=>exact⟨0,none,0,rfl,rfl,Nat.zero_le _,OL.nil _ _ _ _ _ _,ExtX.refl _⟩
 case round=>
  obtain⟨i,oo,co,rfl,rfl,hi,hO,hE⟩:=hrel;have hXr:HX X wr:=hX.ext hE;have hXu:HX (un X oo) wr:=hO.unX hXr;have hbase:=hE.size;by_cases hlt:i<n
  ·have hil:i<m.length:=by rw[hn'.out];exact hlt
   have htk:=hid (a0S m i hil);have hln:=hid (a1e (l:=m) (i:=i) (Nat.le_of_lt hil));have hq2:Sl RV 1 (mk (un X oo) wr) ao m:=hsa.old RV.mono hE (fun j hj=>hO.ob_lt hj);obtain⟨a1,c1,hX1,hc1,hcl1,hq1⟩:=hq2.row i hil;have k00:=hc1.out noY wr (ExtX.refl _) rfl;have hls:=c1v (un X oo) wr (.slice a1 m[i].length c1) m[i] hXu ⟨a1,c1,rfl,hcl1,hq1⟩ (hr'.out _ (List.getElem_mem _));obtain⟨v,hv⟩:∃v,m[i]=v:=⟨_,rfl⟩;rw[hv]at htk hls k00;obtain⟨vl,hvl⟩:∃vl,v.length=vl:=⟨_,rfl⟩;have hvl':=hid hvl;rw[hvl]at hls k00;clear hc1 hcl1 hq1 hv hvl;go_wp2_with (with_reducible refine a0n a0o (by omega) (by assumption) ?_)
   refine hls.mono ?_;rintro e w7 ⟨hE7,u7,rfl,ro,cr,rfl,hcr,hsr⟩;have hRC:RC (mk (un X oo) w7) (.slice ro v.length cr) v:=⟨ro,cr,rfl,hcr,hsr⟩;rw[hvl'.out]at hRC |-;have hO7:=hO.ext0 RC.elem hE7;have hb7:=(hE.trans hE7).size;have hX7:HX X w7:=hXr.ext hE7;clear k00 hls;go_wp2_with (at_builtin;refine a0r (l:=m.take i) a0o rfl RC.elem hb7 hX7 i hln.out rfl rfl hO7 (.slice ro vl cr) v rfl hRC (by omega) (by omega) ?_;intro oo2 co2 w9 hO9 hE9 hor)
   have hE10:=(hE.trans hE7).own hO7 (Nat.le_refl _) hE9;rw[htk.out]at hO9;go_roundw
   case rel=>exact⟨i+1,oo2,co2,by go_num,by go_num,by omega,hO9,hE10⟩
   case measure=>simp[intOf];omega
  ·have hin:i=n:=by omega
   rw[List.take_of_length_le (by rw[hn'.out];omega)]at hO;subst hin;have hc:=hO.lenCap;have hs:=hO.sl RC.elem;go_wp2_with fail
   go_ret
   exact⟨hE,_,rfl,oo,co,by rw[hn'.out];rfl,hc,hs⟩
def c1O (X:Nat->Bool) (w:World) (p:Mat) (y:List Rat) (e:Ending) (w':World):Prop:=Ext w w'/\∃(v:Value) (us:List (List Rat)),e= .returned (.tuple #[v, .int .i64 (okE (a2z p y))])/\MV (mk X w') v us/\BM uB us/\(a2z p y=false->us= [])/\
 (a2z p y=true->(∀r∈us,r.length=a0l p)/\Wit (a0l p) (a0t (a1a (a0l p) p y)) (a6g p y) (a0t us)/\1<=us.length/\us.length<=a0l p)
end Go.Proofs.YtoibhmjjhgaimaaGreat
namespace Go.Lin
open Go.Lim Go.Rep Go.Proofs.YtoibhmjjhgaimaaGreat
theorem c1x {p us:Mat} {y:List Rat} (h:a2z p y=true) (hl:∀r∈us,r.length=a0l p) (hw:Wit (a0l p) (a0t (a1a (a0l p) p y)) (a6g p y) (a0t us)):
  b5X p y us=true/\c1K p y us=a6g p y/\∀(h0:0<us.length),a5e us[0]=false:=by
 have hc:=b9p h (us:=us) hl;refine⟨hc,?_,fun h0=>?_⟩
 ·unfold c1K
  rw[hc,if_pos rfl];exact hw.cnt
 ·obtain⟨u,t,he,hz⟩:=hw.head
  have h1:vec us[0]=u:=by
   have:(a0t us)[0]? =some u:=by rw[he];rfl
   unfold a0t at this;rw[List.getElem?_map,List.getElem?_eq_getElem h0]at this;simpa using this
  rw[<-h1]at hz;exact(b2X (hl _ (List.getElem_mem _))).1 hz
theorem c1y {p:Mat} {y:List Rat} {d:Nat} (h:a2k p=true/\a0l p=d) (hy:y.length=d):a2z p y=true:=by
 unfold a2z;rw[h.1,h.2,decide_eq_true hy];rfl
def b4V (p:Mat) (y:List Rat):Nat:=p.countP fun r=>decide (r=y)
theorem b9x {p:Mat} {y:List Rat} {j:Nat} (h:j<p.length):b4V (p.take (j+1)) y=b4V (p.take j) y+(if p[j]=y then 1 else 0):=by
 unfold b4V;rw[<-List.take_append_getElem h,List.countP_append];simp
theorem c0O (p:Mat) (y:List Rat):b4V p y<=p.length:=List.countP_le_length
theorem c0P {p:Mat} {y:List Rat} (h:a2z p y=true):b4V p y<=a6g p y:=by
 obtain⟨_,_,h1,_⟩:=a0L.1 (a3u h).1;obtain⟨k,hk⟩:=a7l (c:=a0l p) (by omega) (a0t (a1a (a0l p) p y));rw[a4w h hk];exact b3c hk
end Go.Lin
namespace Go.Proofs.YtoibhmjjhgaimaaGreat
open Go.RowKit Go.Rep Go.Lim Go.Lin
end Go.Proofs.YtoibhmjjhgaimaaGreat
namespace Go.Lin
open Go.Lim Go.Rep Go.Proofs.YtoibhmjjhgaimaaGreat
theorem b7x {p:Mat} {x:List Rat} {d:Nat} (h:a2k p=true/\a0l p=d) (hx:x.length=d) (hn:p.length<=24):sdE p x=0/\sdL p x=a0s p.length (d+1) 0:=by
 have e:sdE p x=0:=by
  unfold sdE b7r;rw[h.1,h.2,decide_eq_true hx,if_pos (by rfl),if_neg (by omega)]
 exact⟨e,by unfold sdL;rw[e,if_pos rfl,hx]⟩
end Go.Lin
namespace Go.Proofs.YtoibhmjjhgaimaaGreat
open Go.RowKit Go.Rep Go.Lim Go.Lin
set_option maxRecDepth 100000 in
set_option maxHeartbeats 6400000 in
theorem b4W (lo:Option Addr) (l:List Int) (cl:Nat) (w:World) (hl:Sl (a0x .i64) 1 w.cell? lo l) (hcl:l.length<=cl) (hlb:l.length<=9223372036854775807):
  Calls Tryz.prog 7 #[.slice lo l.length cl] w (a7A w true):=by
 go_enter Tryz.func7,Tryz.ntmps7
 go_wp2_with fail
 refine(a6r lo l cl w hl hcl hlb).mono ?_;rintro e w1 ⟨rfl,hE1,ht1,hsz1⟩;obtain⟨tb,htb⟩:∃tb,w.heap.size=tb:=⟨_,rfl⟩;have hX1:HX (tbm tb) w1:=fun k hk=>by
  have:k=tb:=by simpa[tbm]using hk
  omega
 have hfin:=hid (fun w2 (h:ExtX (tbm tb) w1 w2)=>b1H htb hE1 h);rw[htb]at ht1 |-;obtain⟨X,hX⟩:∃X,tbm tb=X:=⟨_,rfl⟩;have hsub:∀k,tbm tb k=true->X k=true:=fun k hk=>by rw[<-hX];exact hk
 rw[hX]at ht1 hX1;have htX:=ht1.1;clear hE1 hsz1 htb hl hX;go_wp2_with fail
 refine(a0T X tb 2 w1 ht1 (by omega)).mono ?_;rintro e w2 ⟨hE2,ht2,d0,rfl,hd0⟩;have hX2:=hX1.ext hE2;have hd1:(1+(d0:Int))=((d0+1:Nat):Int):=by omega
 have hd2:d0+1<=2:=by omega
 obtain⟨d,hd⟩:∃d,d0+1=d:=⟨_,rfl⟩;have hdp:1<=d:=by omega
 rw[hd]at hd2 hd1;clear hd hd0;go_wp2_with fail
 refine(a7e X tb 7 d w2 ht2 hX2 (by decide) (by decide) (by omega)).mono ?_;rintro e w3 ⟨hE3,po,p,pc,rfl,hpc,hp1,hp8,hpr,hpB,ht3,hO3⟩;have hX3:=hX2.ext hE3;have hF3:=hE2.trans hE3;have hpS:=(hO3.toRV (hpB.le (by decide))).sl RV.elem;have ht3:=ht3.unX htX;have hpr':=hid hpr;have hpts:Hid (a2k p=true/\a0l p=d):=hid (c0F hp1 (by omega) hdp (by omega) hpr);obtain⟨n,hn⟩:∃n,p.length=n:=⟨_,rfl⟩;have hn':=hid hn;rw[hn]at hpc hp1 hp8 |-;have hpV:MV (mk X w3) (.slice po n pc) p:=⟨po,pc,by rw[hn],by rw[hn];exact hpc,hpS⟩;have hhp:Hd po n:=by have:=hpS.hd;rw[hn]at this;exact this
 clear hO3 hE2 hE3 ht1 ht2 hX1 hX2 hn hd1 hpr;go_wp2_with fail
 refine(a4x X tb d w3 ht3 hX3 (by omega)).mono ?_;rintro e v1 ⟨hG1,a1,x,c1,rfl,hx1,hc1,hB1,hs1,hO1⟩;have x1:=hX3.ext hG1;have R1:RV (mk X v1) (.slice a1 d c1) x:=⟨a1,c1,by rw[hx1],by rw[hx1];exact hc1,(hO1.sl QC.elem).qv fun q hq=>Nat.le_trans (hB1 q hq) (by decide)⟩;have P1:=MV.mono _ _ _ _ (a0u hG1 hsub) hpV;have P1s:=hpS.mono RV.mono (a0u hG1 hsub);have hF1:=hF3.trans hG1;have ht5:=hs1.unX htX;have hp65:p.length<=1000:=by rw[hn'.out];omega
 have hxB:BR 510 x:=fun q hq=>Nat.le_trans (hB1 q hq) (by decide);obtain⟨e1,e2⟩:=b7x hpts.out hx1 (by rw[hn'.out];omega);have D1:=a2V X v1 (.slice po n pc) (.slice a1 d c1) p x 510 x1 P1 R1 hp65 hpB hxB (by decide) (by decide);unfold a3v at D1;rw[e1,e2,hn'.out]at D1;have D2:=hid (fun w' (h:Ext v1 w')=>b2t X w' (.slice po n pc) (.slice a1 d c1) p x 510 (x1.ext h) (mkx MV.mono P1 h) (mkx RV.mono R1 h) hp65 hpB hxB (by decide) (by decide));rw[c1y hpts.out hx1,show okE true=0 from rfl]at D2;have hch:ch n (d+1)<=1000000:=Nat.le_trans (a7c _ _) (Nat.le_trans (Nat.pow_le_pow_left (show n<=7 by omega) _) (Nat.le_trans (Nat.pow_le_pow_right (by decide) (show d+1<=3 by omega)) (by decide)));have hch2:ch (n - 1) d<=1000000:=Nat.le_trans (a7c _ _) (Nat.le_trans (Nat.pow_le_pow_left (show n - 1<=7 by omega) _) (Nat.le_trans (Nat.pow_le_pow_right (by decide) (show d<=3 by omega)) (by decide)));have hcl:=hid (a0Y n (d+1) 0);have hST:=a7b p x (a0s n (d+1) 0);have hpos:=hid (fun(h:d+1<=n)=>(by
  have:=b8S hpts.out.1 (x:=x) (by rw[hpts.out.2];exact hx1) (by rw[hpts.out.2,hn'.out];exact h);rw[hpts.out.2,hn'.out]at this;exact this:0<a4i p x (a0s n (d+1) 0)↔0<a6g p x))
 have C1:=hid (fun w' (h:Ext v1 w')=>a5X X n (d+1) w' (by omega) (by omega) hch (x1.ext h));have C2:=hid (fun w' (h:HX X w')=>a5X X (n - 1) d w' (by omega) (by omega) hch2 h);have hself:=hid (fun i (hi:i<p.length)=>(by
  have:=b6v hpts.out.1 i hi rfl;rw[hpts.out.2,hn'.out]at this;exact this:(a0s (n - 1) d 0).length<=a4i p p[i] (a0s n (d+1) 0)))
 unfold a4l at C1 C2;rw[show((d+1:Nat):Int)=(d:Int)+1 by omega]at C1;rw[show((n - 1:Nat):Int)=(n:Int) - 1 by omega]at C2;obtain⟨T,hT⟩:∃T,(a0s n (d+1) 0).length=T:=⟨_,rfl⟩;obtain⟨T2,hT2⟩:∃T,(a0s (n - 1) d 0).length=T:=⟨_,rfl⟩;obtain⟨S,hS⟩:∃S,a4i p x (a0s n (d+1) 0)=S:=⟨_,rfl⟩;obtain⟨V,hV⟩:∃V,a6g p x=V:=⟨_,rfl⟩;rw[hT]at D1 hST C1 hcl;rw[hT2]at C2 hself;rw[hS]at D1 hST hpos;rw[hV]at D2 hpos;have hT16:T<=1000000:=by have:=hcl.out;omega
 clear hT hT2 hS hV e1 e2 hO1 hs1 R1 hc1 hB1 hx1 hG1 hcl hxB;go_wp2_with fail
 refine D1.mono ?_;rintro e v2 ⟨hG2,rfl⟩;have D22:=D2.out v2 hG2;clear D1 D2;go_wp2_with fail
 refine D22.mono ?_;rintro e v3 ⟨hG3,rfl⟩;have hG13:=hG2.trans hG3;have C11:=C1.out v3 hG13;clear D22 C1;have z0:(0:Int)<=(S:Int):=by omega
 have z1:(S:Int)<=(T:Int):=by omega
 go_wp2_with fail
 refine C11.mono ?_;rintro e v4 ⟨hG4,co,cc,rfl,hcc,_⟩;have hG14:=hG13.trans hG4;have zT:((T:Int) !=(T:Int))=false:=a6k rfl;clear C11;have hcs:n<=d\/(d<n/\0<S/\0<V)\/(d<n/\S=0/\V=0):=by
  rcases Nat.lt_or_ge d n with h|h
  ·have h1:=hpos.out h
   by_cases h2:0<S
   ·exact .inr (.inl ⟨h,h2,h1.1 h2⟩)
   ·have h3:¬0<V:=fun h3=>h2 (h1.2 h3)
    exact .inr (.inr ⟨h,by omega,by omega⟩)
  ·exact .inl h
 have ht14:=ht5.ext hG14;have hX14:=x1.ext hG14;have hF14:=hF1.then_ hG14 (fun _ _ _=>rfl);have P14:=mkx MV.mono P1 hG14;have P14s:=P1s.mono RV.mono (a0m hG14);clear hpos P1 P1s ht5 hF1 hG13 hG2 hG3 hG4;obtain⟨wo,hwo⟩:∃wo,wo=v4:=⟨_,rfl⟩;subst hwo;rcases hcs with h1|⟨h1,h2,h3⟩|⟨h1,rfl,rfl⟩
 all_goals
  go_wp2_with fail
  refine(a0T X tb (n:Int) wo ht14 (by omega)).mono ?_;rintro e w4 ⟨hE4,ht4,i,rfl,hi⟩;have hin:i<n:=by omega
  have hip:i<p.length:=by rw[hn'.out];exact hin
  have hF4:=hF14.trans hE4;have hX4:=hX14.ext hE4;have P4:=MV.mono _ _ _ _ (a0u hE4 hsub) P14;have P4s:=P14s.mono RV.mono (a0u hE4 hsub);obtain⟨ai,ci,_,hci,hcli,hqi⟩:=P4s.row i hip;have k00:=hci.out noY w4 (ExtX.refl _) rfl;have hyd:=hpr'.out p[i] (List.getElem_mem _);have hse:=hself.out i hip;obtain⟨y,hy⟩:∃y,p[i]=y:=⟨_,rfl⟩;have hyB:BR 510 y:=by rw[<-hy];exact hpB _ (List.getElem_mem _)
  rw[hy]at k00 hcli hqi hyd hse;rw[hyd]at k00 hcli;have hyV:RV (mk X w4) (.slice ai d ci) y:=⟨ai,ci,by rw[hyd],by rw[hyd];exact hcli,hqi⟩;have D3:=a2V X w4 (.slice po n pc) (.slice ai d ci) p y 510 hX4 P4 hyV hp65 hpB hyB (by decide) (by decide);obtain⟨e1,e2⟩:=b7x hpts.out hyd (by rw[hn'.out];omega);have hcl2:=a7b p y (a0s n (d+1) 0);unfold a3v at D3;rw[e1,e2,hn'.out]at D3;obtain⟨T3,hT3⟩:∃T,(a0s n (d+1) 0).length=T:=⟨_,rfl⟩;obtain⟨S3,hS3⟩:∃S,a4i p y (a0s n (d+1) 0)=S:=⟨_,rfl⟩;rw[hT3,hS3]at D3;rw[hS3]at hse;have hi':(0:Int)<=(i:Int)/\(i:Int)<(n:Int):=by omega
  clear hci hcli hqi hy hyd hyB hyV e1 e2 hT3 hS3 hi;go_wp2_with (with_reducible refine a0n a0o (by omega) (by assumption) ?_)
  refine D3.mono ?_;rintro e w5 ⟨hE5,rfl⟩;have hF5:=hF4.then_ hE5 (fun _ _ _=>rfl);have C22:=C2.out w5 (hX4.ext hE5);have z5:(T2:Int)<=(S3:Int):=by omega
  clear D3 k00;go_wp2_with fail
  refine C22.mono ?_;rintro e w6 ⟨hE6,co6,cc6,rfl,hcc6,_⟩;clear C22;go_wp2_with fail
  refine(a0X w6).mono ?_;rintro e w7 ⟨hE7,rfl⟩;go_wp2_with fail
  go_ret
  exact⟨(hfin.out _ hF5).trans (hE6.trans hE7),rfl⟩
end Go.Proofs.YtoibhmjjhgaimaaGreat
