/- Parts of a proof: each theorem states what it proves, and its conditions. -/
import Derived.Test.YtidbbddagfnfbaaGreatSgJ
namespace Go.Rep
open Go.RowKit Go.Lim
end Go.Rep
namespace Go.Proofs.YtidbbddagfnfbaaGreat
open Go.RowKit Go.Rep Go.Lim Go.Lin
theorem b3Z:SliceT Tryz.prog 49 4 1 1 (.bool false):=⟨Tryz.underlying49,by kernel_rfl⟩
theorem b4a {X:Nat->Bool} {oo a:Option Addr} {w:World} (b:a=oo\/∃g,a=some ⟨g,0,none⟩/\w.heap.size<=g):∀k,k<w.heap.size->un X a k=true->un X oo k=true:=fun k d h=>by
 rcases b with rfl|⟨g,rfl,c⟩
 ·exact h
 ·by_cases hx:X k=true
  ·exact a0f hx
  ·exfalso
   have:g=k:=by simpa[un,hx,ob]using h
   omega
def c0N (X:Nat->Bool) (w:World) (p:List Nat) (c:Nat) (e:Ending) (w':World):Prop:=Ext w w'/\∃uo uc v,e= .returned (.tuple #[.slice uo c uc,v, .int .i64 0])/\c<=uc/\Sl BlR 1 (mk X w') uo (usedL p c)
theorem b0h {p:List Nat} {i j:Nat} (h:i<p.length):decide (j∈p.take (i+1))=(decide (j∈p.take i)||decide (p[i]=j)):=by
 have e:j∈p.take (i+1)↔(j∈p.take i\/p[i]=j):=by
  rw[<-List.take_append_getElem h,List.mem_append,List.mem_singleton];exact or_congr Iff.rfl eq_comm
 rw[<-Bool.decide_or];exact decide_eq_decide.2 e
set_option maxRecDepth 100000 in
set_option maxHeartbeats 1600000 in
theorem b1S (X:Nat->Bool) (w:World) (u:Value) (x:Mat) (n c:Nat) (hX:HX X w) (hu:MV (mk X w) u x) (hf:a0H x=true) (hnx:x.length=n) (hcx:a0x x=c) (hn1:1<=n) (hT:a7d x c):Calls Tryz.prog 85 #[u] w (c0N X w (a1d x c).2 c):=by
 obtain⟨hsh,h96,hc96,hpos,_⟩:=a0U hf;rw[hnx,hcx]at hsh;rw[hnx]at h96;rw[hcx]at hc96 hpos;have hc1:=hpos (by omega);have hre:=b6q X w u x n c hX hu hf hnx hcx hT;have hco:=hid fun w' (h:Ext w w')=>a4o X w' u x (mkx MV.mono hu h);rw[hcx]at hco;have hok:=a5Z hsh c;have hs2:=hok.shp;have hpl:=hok.ref.le;rw[(b2p hsh).2];obtain⟨R,hR⟩:∃R,(rN x c).1=R:=⟨_,rfl⟩;obtain⟨p,hp⟩:∃p,(rN x c).2.1=p:=⟨_,rfl⟩;rw[hR]at hs2;rw[hp]at hpl;rw[hR,hp]at hre;rw[hp];obtain⟨pl,hpl2⟩:∃pl,p.length=pl:=⟨_,rfl⟩;have hpl':=hid hpl2;rw[hpl2]at hpl;have hRs:=hid hs2;obtain⟨ua,uca,rfl,huca,hua⟩:=hu;clear hR hp hs2 hT hsh hnx hcx hpl2 hok hf huca hua;go_enter Tryz.func85,Tryz.ntmps85
 go_wp2_with fail
 refine hre.mono ?_;rintro e w1 ⟨hE1,ro,rc,po,pc,rfl,hrc,hpc,hrs,hps⟩;have hX1:=hX.ext hE1
 dsimp only at hrc hpc hrs hps |-
 rw[hpl'.out]at hpc |-;have hRl:=hid hRs.out.1;have hhr:=hrs.hd;have hhp:=hps.hd;rw[hRl.out]at hrc hhr |-;rw[hpl'.out]at hhp;clear hre;go_wp2_with fail
 go_loopw [8,9,10] (fun o b k wr=>∃(j:Nat) (oo:Option Addr) (co:Nat) (bo:Option Addr) (cb:Nat) (hs:List Hdr),k= .int .i64 j/\o= .slice oo j co/\b= .slice bo j cb/\j<=c/\OL BlR 1 X w1.heap.size 4 wr oo co (usedL p j)/\hs.length=j/\OL HdR 1 (un X oo) w1.heap.size 24 wr bo cb hs/\Ext w1 wr) (fun _ _ k _=>c - (intOf k).toNat)
 case atStart=>exact⟨0,none,0,none,0,[],rfl,rfl,rfl,Nat.zero_le _,OL.nil _ _ _ _ _ _,rfl,OL.nil _ _ _ _ _ _,ExtX.refl _⟩
 case round=>
  obtain⟨j,oo,co,bo,cb,hs,rfl,rfl,rfl,hj,hO,hhs,hB,hE⟩:=hrel;have hXr:HX X wr:=hX1.ext hE;have hbase:=hE.size;have hcr:=hco.out wr (hE1.trans hE);by_cases hlt:j<c
  ·have hus:=hid (b1Q p j)
   have hul:=hid (a3m p j);have hhs':=hid hhs;clear hhs;have hXu:HX (un X oo) wr:=hO.unX hXr;have hXb:HX (un (un X oo) bo) wr:=hB.unX hXu;go_wp2_with fail
   refine hcr.mono ?_;rintro e w5 ⟨rfl,rfl⟩;clear hcr;obtain⟨wo,hwo⟩:∃wo,wo=w5:=⟨_,rfl⟩;subst hwo;go_wp2_with fail
   go_loopw [11,12,13] (fun o l k wr=>∃(i:Nat) (bb:Bool) (lo:Option Addr) (lc:Nat) (L:List Rat),k= .int .i64 i/\o= .bool bb/\l= .slice lo i lc/\i<=pl/\Hid (bb=decide (j∈p.take i))/\L.length=i/\OL QC 3 (un (un X oo) bo) wo.heap.size 45 wr lo lc L/\Ext wo wr) (fun _ _ k _=>pl - (intOf k).toNat)
   case atStart=>exact⟨0,false,none,0,[],rfl,rfl,rfl,Nat.zero_le _,hid (by simp),rfl,OL.nil _ _ _ _ _ _,ExtX.refl _⟩
   case round=>
    obtain⟨i,bb,lo,lc,L,rfl,rfl,rfl,hi,hbb,hLl,hL,hEi⟩:=hrel;have hXi:HX (un (un X oo) bo) wr:=hXb.ext hEi;have hbi:=hEi.size;by_cases hli:i<pl
    ·have hip:i<p.length:=by rw[hpl'.out];exact hli
     have hiR:i<R.length:=by rw[hRl.out];omega
     have hLl':=hid hLl;have hrl:=hRs.out.2 R[i] (List.getElem_mem _);have hjr:j<R[i].length:=by rw[hrl];exact hlt
     have k00:=(hps.mono (a0c.mono _) (a0l (hE.trans hEi))).nat i hip;have hEl:Ext w1 wr:=hE.trans hEi;have hrs1:Sl RC 1 (mk (un (un (un X oo) bo) lo) wr) ro R:=hrs.mono RC.mono (a0T hEl (fun k _ hk=>by simp[noY]at hk) fun k hk hz=>by
      by_cases hx:X k=true
      ·exact hx
      ·exfalso
       have e1:ob oo k=false:=hO.ob_lt hk;have e2:ob bo k=false:=hB.ob_lt hk;have e3:ob lo k=false:=hL.ob_lt (Nat.lt_of_lt_of_le hk hE.size);simp[un,hx,e1,e2,e3]at hz)
     obtain⟨a1,c1,hX1',hc1',hcl1,hq1⟩:=hrs1.row i hiR;have k10:=hc1'.out noY wr (ExtX.refl _) rfl;rw[hrl]at k10;have hh1:Hd a1 c:=by have:=hq1.hd;rw[hrl]at this;exact this
     have hbn:=hid (b0h (j:=j) hip);obtain⟨y,hy⟩:∃y,p[i]=y:=⟨_,rfl⟩;rw[hy]at k00 hbn;have ip:∀W,(Instr.indexAt 22 (.slice po pl pc) (.int .i64 (i:Int))).run Tryz.prog W= .ok (.pointer (some (adr po i))) W:=a0z a2h po pl pc .i64 i hhp (by omega) rfl;have ir:∀W,(Instr.indexAt 23 (.slice ro n rc) (.int .i64 (i:Int))).run Tryz.prog W= .ok (.pointer (some (adr ro i))) W:=a0z a0s ro n rc .i64 i hhr (by omega) rfl;have hdl:∀b2,Hid (b2=decide (j∈p.take (i+1)))->∀{lo2:Option Addr} {lc2:Nat} {w9:World},OL QC 3 (un (un X oo) bo) wo.heap.size 45 w9 lo2 lc2 (L++[R[i][j]])->Ext wo w9->∃(i':Nat) (bb:Bool) (lo:Option Addr) (lc:Nat) (L:List Rat),Value.int IntKind.i64 ((i+1:Nat):Int)= .int .i64 i'/\Value.bool b2= .bool bb/\Value.slice lo2 (i+1) lc2= .slice lo i' lc/\i'<=pl/\Hid (bb=decide (j∈p.take i'))/\L.length=i'/\OL QC 3 (un (un X oo) bo) wo.heap.size 45 w9 lo lc L/\Ext wo w9:=fun b2 hb2 lo2 lc2 w9 h1 h2=>⟨i+1,b2,lo2,lc2,_,rfl,rfl,rfl,by omega,hb2,by rw[List.length_append,hLl'.out];rfl,h1,h2⟩;clear hc1' hrl hy hLl;cases bb
     ·by_cases hyj:y=j
      ·have hd:((y:Int)==(j:Int))=true:=a7q (by omega)
       have hb2:Hid (true=decide (j∈p.take (i+1))):=hid (by rw[hbn.out,decide_eq_true hyj,Bool.or_true]);clear hyj;go_wp2_with (first|(with_reducible refine a1M a0B (by omega) (by assumption) ?_)|((with_reducible show wpList _ _ _ (⟨_, .load 45 _,_,_,_,_⟩::_) _ _);refine a0G a0t j hq1 hjr rfl (by simp) QC.agg ?_;intro u5 hu5;obtain⟨s5,a5,n5,c5,d5,m5,e5,rfl⟩:=hu5.shape)|(at_builtin;refine a0u (l:=L) a0B rfl QC.elem hbi hXi i hLl'.out rfl rfl hL (.agg #[.bool s5, .slice a5 n5 c5, .slice d5 m5 e5]) R[i][j] rfl hu5 (by omega) (by omega) ?_;intro lo2 lc2 w7 hL7 hE7 hor))
       go_roundw
       case rel=>exact hdl true hb2 hL7 (hEi.own hL (Nat.le_refl _) hE7)
       case measure=>simp[intOf];omega
      ·have hd:((y:Int)==(j:Int))=false:=a2w (by omega)
       have hb2:Hid (false=decide (j∈p.take (i+1))):=hid (by rw[hbn.out,decide_eq_false hyj,<-hbb.out];rfl);clear hyj;go_wp2_with (first|(with_reducible refine a1M a0B (by omega) (by assumption) ?_)|((with_reducible show wpList _ _ _ (⟨_, .load 45 _,_,_,_,_⟩::_) _ _);refine a0G a0t j hq1 hjr rfl (by simp) QC.agg ?_;intro u5 hu5;obtain⟨s5,a5,n5,c5,d5,m5,e5,rfl⟩:=hu5.shape)|(at_builtin;refine a0u (l:=L) a0B rfl QC.elem hbi hXi i hLl'.out rfl rfl hL (.agg #[.bool s5, .slice a5 n5 c5, .slice d5 m5 e5]) R[i][j] rfl hu5 (by omega) (by omega) ?_;intro lo2 lc2 w7 hL7 hE7 hor))
       go_roundw
       case rel=>exact hdl false hb2 hL7 (hEi.own hL (Nat.le_refl _) hE7)
       case measure=>simp[intOf];omega
     ·have hb2:Hid (true=decide (j∈p.take (i+1))):=hid (by rw[hbn.out,<-hbb.out];rfl)
      go_wp2_with (first|(with_reducible refine a1M a0B (by omega) (by assumption) ?_)|((with_reducible show wpList _ _ _ (⟨_, .load 45 _,_,_,_,_⟩::_) _ _);refine a0G a0t j hq1 hjr rfl (by simp) QC.agg ?_;intro u5 hu5;obtain⟨s5,a5,n5,c5,d5,m5,e5,rfl⟩:=hu5.shape)|(at_builtin;refine a0u (l:=L) a0B rfl QC.elem hbi hXi i hLl'.out rfl rfl hL (.agg #[.bool s5, .slice a5 n5 c5, .slice d5 m5 e5]) R[i][j] rfl hu5 (by omega) (by omega) ?_;intro lo2 lc2 w7 hL7 hE7 hor))
      go_roundw
      case rel=>exact hdl true hb2 hL7 (hEi.own hL (Nat.le_refl _) hE7)
      case measure=>simp[intOf];omega
    ·have hip:i=pl:=by omega
     subst hip;have hbb2:=hid hbb.out;rw[List.take_of_length_le (by rw[hpl'.out];exact Nat.le_refl _)]at hbb2;have hO2:=hO.ext0 BlR.elem hEi;have hB2:=hB.ext0 HdR.elem hEi;have hE2:=hE.trans hEi;have hX2:=hX1.ext hE2;have hb2:=hE2.size;clear hL hbb;go_wp2_with (first
      |(at_builtin;refine a0u (l:=usedL p j) b3Z rfl BlR.elem hb2 hX2 j hul.out rfl rfl hO2 (.bool bb) bb rfl rfl (by omega) (by omega) ?_;intro oo2 co2 w7 hO7 hE7 hor;have hB7:=hB2.ext HdR.elem (Z:=un X oo2) hE7 (fun k _ hk=>a0r hk) (b4a hor);have hE27:=hE2.own hO2 (Nat.le_refl _) hE7;have hb7:=hE27.size;have hX7:=hO7.unX (hX1.ext hE27))
      |(at_builtin;refine a0u (l:=hs) a0s rfl HdR.elem hb7 hX7 j hhs'.out rfl rfl hB7 (.slice lo i lc) (lo,i,lc) rfl rfl (by omega) (by omega) ?_;intro bo2 cb2 w8 hB8 hE8 hor2))
     have hO8:=hO7.frame (fun _ _ _ _ h=>h) hE8 (fun k hk=>by
      cases hbk:ob bo k
      ·rfl
      ·have:=(a1j (hB7.1 k hbk)).2;rw[hk]at this;cases this) hO7.1
     have hE28:=hE27.own hB7 (Nat.le_refl _) hE8;rw[hbb2.out,<-hus.out]at hO8;have hl8:(hs++[(lo,i,lc)]).length=j+1:=by rw[List.length_append,hhs'.out];rfl
     go_roundw
     case rel=>exact⟨j+1,oo2,co2,bo2,cb2,_,by go_num,by go_num,by go_num,by omega,hO8,hl8,hB8,hE28⟩
     case measure=>simp[intOf];omega
  ·have hjc:j=c:=by omega
   subst hjc;have hc:=hO.lenCap;rw[a3m]at hc;have hs:=hO.sl BlR.elem;go_wp2_with fail
   refine hcr.mono ?_;rintro e w5 ⟨rfl,rfl⟩;go_wp2_with fail
   go_ret3
   exact⟨hE1.trans hE,_,_,_,rfl,hc,hs⟩
set_option maxRecDepth 100000 in
set_option maxHeartbeats 12800000 in
theorem b1T (X:Nat->Bool) (w:World) (u r t:Value) (m:Mom) (row:List Rat) (v:Rat) (sg:Int) (n B:Nat) (hX:HX X w) (hu:b3H (mk X w) u m) (hr:RV (mk X w) r row) (ht:QV (mk X w) t v)
  (hsx:Shp n n m.xx) (hsy:m.xy.length=n) (hrl:row.length=n) (hn:n<=12) (hN1: -1<=m.n) (hN2:m.n<=1099511627777) (hsg:sg=1\/sg= -1) (_hBm:BMo B m) (hBr:BR B row) (hBv:hq v<=B) (hB:B<=1000000):
  Calls Tryz.prog 225 #[u,r,t, .int .i64 sg] w (a1Z X w a6N (shM m row v sg)):=by
 obtain⟨xo,xl,xc,yo,yl,yc,s,a,n0,c,d,k,e,rfl,hx,hy,hqq⟩:=hu;obtain⟨s2,a2,n2,c2,d2,k2,e2,rfl⟩:=ht.shape;obtain⟨W,hW,hE,b0,b1,b2,hz⟩:=a2D w #[.int .i64 m.n, .slice xo xl xc, .slice yo yl yc, .bool s, .slice a n0 c, .slice d k e] #[.bool s2, .slice a2 n2 c2, .slice d2 k2 e2] #[.int .i64 0, .slice none 0 0, .slice none 0 0, .bool false, .slice none 0 0, .slice none 0 0] 173 45 173;have hXW:HX (a0e X w.heap.size 3) W:=hX.boxes hz;have hle:Hid (∀w',Ext W w'->Le (mk X w) (mk (a0e X w.heap.size 3) w')):=hid fun w' h=>a0o (hE.trans h);have hun:Hid (∀w',Le (mk (a0e X w.heap.size 3) w') (mk X w')):=hid fun w'=>a0n;obtain⟨b,hb⟩:∃b,w.heap.size=b:=⟨_,rfl⟩;rw[hb]at b0 b1 b2 hz hXW hle hun;have hbw:w.heap.size<=b:=by omega
 obtain⟨Z0,hZ0⟩:∃Z0,a0e X b 3=Z0:=⟨_,rfl⟩;rw[hZ0]at hXW hle hun;have hsgq:hq ((sg:Int):Rat)<=1:=by rcases hsg with rfl|rfl<;>decide+kernel
 have hB2:hq (v*v)<=2000000:=Nat.le_trans (hq_mul _ _) (by omega);have hB3:hq ((sg:Rat)*(v*v))<=2000001:=Nat.le_trans (hq_mul _ _) (by omega);have hwr:IntKind.i64.wrap (m.n+sg)=m.n+sg:=IntWalk.i64_in _ (by rcases hsg with rfl|rfl<;>omega);have hsg1: -9223372036854775808<=sg/\sg<=9223372036854775807:=by rcases hsg with rfl|rfl<;>omega
 obtain⟨N,hN⟩:∃N,m.n=N:=⟨_,rfl⟩;rw[hN]at b0 hW hwr |-;obtain⟨N',hN'⟩:∃N',N+sg=N':=⟨_,rfl⟩;have hNs:=hid hN';have hNe:Hid (m.n+sg=N'):=hid (by rw[hN,hN']);clear hN1 hN2 hsg hN hN';have hf:=c1u Z0 W sg hXW hsg1.1 hsg1.2;clear hsg1;obtain⟨F,hF⟩:∃F,a1Z X w a6N (shM m row v sg)=F:=⟨_,rfl⟩;rw[hF];have hF':=hid hF;clear hF;go_enter Tryz.func225,Tryz.ntmps225
 go_wp2_with fail
 refine hf.mono ?_;rintro ee w2 ⟨hE2,u2,rfl,hu2⟩;obtain⟨s9,a9,n9,c9,d9,k9,e9,rfl⟩:=hu2.shape;have bf:=Bx.new w2 #[.bool false, .slice none 0 0, .slice none 0 0] 45;clear hf;go_upto_region 1 with((with_reducible show wpList _ _ _ (⟨_, .store 45 _ _,_,_,_,_⟩::_) _ _);refine a0a a0t rfl rfl bf rfl rfl (a1Q _ _ _ _ _ _ _) ?_;intro w3 y1 y2)
 have hE23:Ext w2 w3:=ExtX.box ((ExtX.refl w2).alloc _) y2 (Nat.le_refl _);have hEW3:=hE2.trans hE23;have hs3:=mkx QC.mono hu2 hE23;have hX3:HX Z0 w3:=hXW.ext hEW3;have m3:=b0.ext0 hEW3;have v3:=b1.ext0 hEW3;have t3:=b2.ext0 hEW3;obtain⟨fb,hfb⟩:∃fb,w2.heap.size=fb:=⟨_,rfl⟩;rw[hfb]at y1 |-;have hxv:=MV.mono _ _ _ _ (hle.out w3 hEW3) hx;have hyv:=RV.mono _ _ _ _ (hle.out w3 hEW3) hy;have hqv:=QV.mono _ _ _ _ (hle.out w3 hEW3) hqq;have htv:=QV.mono _ _ _ _ (hle.out w3 hEW3) ht;have hrv:=RV.mono _ _ _ _ (hle.out w3 hEW3) hr;have hsv:QV (mk Z0 w3) (.agg #[.bool s9, .slice a9 n9 c9, .slice d9 k9 e9]) (sg:Rat):=hs3.qv (by omega);have hE03:Ext w w3:=hE.trans hEW3;have hE0:Ext w3 w3.drew:=(ExtX.refl w3).drew;have hX0:HX Z0 w3.drew:=hX3.ext hE0;have hc0:=hid fun Z w' (hZ:HX Z w') (hl:Le (mk Z0 w3.drew) (mk Z w'))=>b8D Z w' _ _ v v hZ (QV.mono _ _ _ _ hl (mkx QV.mono htv hE0)) (QV.mono _ _ _ _ hl (mkx QV.mono htv hE0));have hc1:=hid fun Z w' (hZ:HX Z w') (hl:Le (mk Z0 w3.drew) (mk Z w')) (u:Value) (h:QC (mk Z w') u (v*v))=>b8D Z w' _ u _ _ hZ (QV.mono _ _ _ _ hl (mkx QV.mono hsv hE0)) (h.qv (Nat.le_trans hB2 (by decide)));have hc2:=hid fun Z w' (hZ:HX Z w') (hl:Le (mk Z0 w3.drew) (mk Z w')) (u:Value) (h:QC (mk Z w') u ((sg:Rat)*(v*v)))=>b7p Z w' _ u _ _ hZ (QV.mono _ _ _ _ hl (mkx QV.mono hqv hE0)) (h.qv (Nat.le_trans hB3 (by decide)));have hS:Hid (∀w',Ext w3.drew w'->w'.cell? ⟨b,0,none⟩=some (.int .i64 N)/\(w'.cell? ⟨b,3,none⟩=some (.bool s)/\w'.cell? ⟨b,3+1,none⟩=some (.slice a n0 c)/\w'.cell? ⟨b,3+2,none⟩=some (.slice d k e))/\(w'.cell? ⟨fb,0,none⟩=some (.bool s9)/\w'.cell? ⟨fb,0+1,none⟩=some (.slice a9 n9 c9)/\w'.cell? ⟨fb,0+2,none⟩=some (.slice d9 k9 e9))/\(w'.cell? ⟨b+1,0,none⟩=some (.bool s2)/\w'.cell? ⟨b+1,0+1,none⟩=some (.slice a2 n2 c2)/\w'.cell? ⟨b+1,0+2,none⟩=some (.slice d2 k2 e2))):=hid fun w' h=>by
  have q0:=m3.ext0 (hE0.trans h);have q1:=v3.ext0 (hE0.trans h);have q2:=y1.ext0 (hE0.trans h);exact⟨q0.cell 0 rfl,⟨q0.cell 3 rfl,q0.cell 4 rfl,q0.cell 5 rfl⟩,⟨q2.cell 0 rfl,q2.cell 1 rfl,q2.cell 2 rfl⟩,⟨q1.cell 0 rfl,q1.cell 1 rfl,q1.cell 2 rfl⟩⟩
 obtain⟨D,hD⟩:∃D,m.yy+(sg:Rat)*(v*v)=D:=⟨_,rfl⟩;obtain⟨V1,hV1⟩:∃V1,v*v=V1:=⟨_,rfl⟩;rw[hV1]at hc0 hc1 hc2 hD;obtain⟨V2,hV2⟩:∃V2,(sg:Rat)*V1=V2:=⟨_,rfl⟩;rw[hV2]at hc1 hc2 hD;rw[hD]at hc2;have hDe:Hid (m.yy+(sg:Rat)*(v*v)=D):=hid (by rw[hV1,hV2,hD]);clear hV1 hV2 hD hu2 bf y2 hE2 hE23 b0 b1 b2 hqq ht hx hy hr
 (try simp only[Act.put])
 go_cut [10]from 19 to 31 (fun bv wx=>∃(g:Nat) (sd:Bool) (ad:Option Addr) (nd cd:Nat) (dd:Option Addr) (kd ed:Nat),bv= .pointer (some ⟨g,0,none⟩)/\Bx wx g #[.int .i64 N', .slice none 0 0, .slice none 0 0, .bool sd, .slice ad nd cd, .slice dd kd ed] 173/\QC (mk (un Z0 (some ⟨g,0,none⟩)) wx) (.agg #[.bool sd, .slice ad nd cd, .slice dd kd ed]) D/\w3.heap.size<=g/\g<wx.heap.size/\Ext w3 wx)
 case first=>
  refine a0O 14 (fun w'=>w'.cell? ⟨b,0,none⟩=some (.int .i64 N)/\(w'.cell? ⟨b,3,none⟩=some (.bool s)/\w'.cell? ⟨b,3+1,none⟩=some (.slice a n0 c)/\w'.cell? ⟨b,3+2,none⟩=some (.slice d k e))/\(w'.cell? ⟨fb,0,none⟩=some (.bool s9)/\w'.cell? ⟨fb,0+1,none⟩=some (.slice a9 n9 c9)/\w'.cell? ⟨fb,0+2,none⟩=some (.slice d9 k9 e9))/\(w'.cell? ⟨b+1,0,none⟩=some (.bool s2)/\w'.cell? ⟨b+1,0+1,none⟩=some (.slice a2 n2 c2)/\w'.cell? ⟨b+1,0+2,none⟩=some (.slice d2 k2 e2))) (by kernel_rfl) (by kernel_rfl) (hS.out _ (ExtX.refl _)) (fun hHeld hOnce=>?_);refine kt 0 hOnce ?_;refine kt 1 hOnce ?_;refine kt 2 hOnce ?_;refine kt 3 hOnce ?_;refine kt 4 hOnce ?_;refine kt 5 hOnce ?_;refine kt 6 hOnce ?_;refine kt 7 hOnce ?_;refine kt 8 hOnce ?_;refine a1m (i:=9) (j:=13) (oi:=⟨_,_,_,_,_,_⟩) (oj:=⟨_,_,_,_,_,_⟩) (by kernel_rfl) rfl rfl (fun K hK=>?_) (fun K hK=>?_)
  ·skip
   go_simp
   (go_at_call 133;(with_reducible refine(hc0.out Z0 w3.drew (hX0.ext (ExtX.refl (Y:=noY) w3.drew)) (a0l (ExtX.refl (Y:=noY) w3.drew))).mono ?_);rintro ee w40 ⟨r0,x0,rfl,g0⟩)
   refine hK.out _ _ (hS.out w40 ((ExtX.refl (Y:=noY) w3.drew).trans r0)) (fun hHeld=>?_);clear hK K
   (try simp only[Act.put,List.setIfInBounds_toArray,List.set_cons_zero,List.set_cons_succ])
   have R0:Ext w3.drew w40:=(ExtX.refl (Y:=noY) w3.drew).trans r0;refine a1m (i:=10) (j:=13) (oi:=⟨_,_,_,_,_,_⟩) (oj:=⟨_,_,_,_,_,_⟩) (by kernel_rfl) rfl rfl (fun K hK=>?_) (fun K hK=>?_)
   ·skip
    go_simp
    (go_at_call 133;(with_reducible refine(hc1.out Z0 w40 (hX0.ext R0) (a0l R0) _ g0).mono ?_);rintro ee w41 ⟨r1,x1,rfl,g1⟩)
    refine hK.out _ _ (hS.out w41 (R0.trans r1)) (fun hHeld=>?_);clear hK K
    (try simp only[Act.put,List.setIfInBounds_toArray,List.set_cons_zero,List.set_cons_succ])
    have R1:Ext w3.drew w41:=R0.trans r1;refine a1m (i:=11) (j:=13) (oi:=⟨_,_,_,_,_,_⟩) (oj:=⟨_,_,_,_,_,_⟩) (by kernel_rfl) rfl rfl (fun K hK=>?_) (fun K hK=>?_)
    ·skip
     go_simp
     (go_at_call 101;(with_reducible refine(hc2.out Z0 w41 (hX0.ext R1) (a0l R1) _ g1).mono ?_);rintro ee w42 ⟨r2,x2,rfl,g2⟩)
     refine hK.out _ _ (hS.out w42 (R1.trans r2)) (fun hHeld=>?_);clear hK K
     (try simp only[Act.put,List.setIfInBounds_toArray,List.set_cons_zero,List.set_cons_succ])
     have R2:Ext w3.drew w42:=R1.trans r2;obtain⟨sd,ad,nd,cd,dd,kd,ed,rfl⟩:=g2.shape;refine kt 12 hOnce ?_;have EA:Ext w42 (w42.alloc (.cells #[.int .i64 0, .slice none 0 0, .slice none 0 0, .bool false, .slice none 0 0, .slice none 0 0] 173)):=(ExtX.refl _).alloc _;have bA:Bx (w42.alloc (.cells #[.int .i64 0, .slice none 0 0, .slice none 0 0, .bool false, .slice none 0 0, .slice none 0 0] 173)) w42.heap.size #[.int .i64 0, .slice none 0 0, .slice none 0 0, .bool false, .slice none 0 0, .slice none 0 0] 173:=Bx.new w42 _ _;have hAs:(w42.alloc (.cells #[.int .i64 0, .slice none 0 0, .slice none 0 0, .bool false, .slice none 0 0, .slice none 0 0] 173)).heap.size=w42.heap.size+1:=by simp
     refine a0k (i:=13) (o:=⟨_,_,_,_,_,_⟩) (by kernel_rfl) rfl (fun K hK=>?_);go_simp
     skip
     refine hK.out _ _ (hS.out _ (R2.trans EA)) (fun hHeld=>?_);clear hK K
     (try simp only[Act.put,List.setIfInBounds_toArray,List.set_cons_zero,List.set_cons_succ])
     have hdA:=QC.mono _ _ _ _ (a2n EA (Nat.le_refl _)) g2;refine a0v (i:=14) (o:=⟨_,_,_,_,_,_⟩) (by kernel_rfl) rfl (by decide) (by kernel_rfl) (fun K hK=>?_)
     (refine a0A rfl rfl a3H rfl rfl bA rfl rfl (by intro v hv;simp at hv;rcases hv with rfl|rfl|rfl|rfl|rfl|rfl<;>rfl) ?_;intro w9 y1 y2)
     refine hK.out _ _ ?_;clear hK K
     (try simp only[Act.put])
     have hQ9:=QC.mono _ _ _ _ (a0w y2 fun k hk=>a0r hk) hdA;have hE9:Ext w3 w9:=ExtX.box (hE0.trans (R2.trans EA)) y2 R2.size;have hlt9:=Nat.lt_of_lt_of_le (show w42.heap.size<_ by rw[hAs];exact Nat.lt_succ_self _) y2.size;rw[hNs.out]at y1;go_wp2_with fail
     go_meet
     case rel=>exact⟨w42.heap.size,sd,ad,nd,cd,dd,kd,ed,rfl,y1,hQ9,R2.size,hlt9,hE9⟩
    ·skip
     have EA:Ext w41 (w41.alloc (.cells #[.int .i64 0, .slice none 0 0, .slice none 0 0, .bool false, .slice none 0 0, .slice none 0 0] 173)):=(ExtX.refl _).alloc _;have bA:Bx (w41.alloc (.cells #[.int .i64 0, .slice none 0 0, .slice none 0 0, .bool false, .slice none 0 0, .slice none 0 0] 173)) w41.heap.size #[.int .i64 0, .slice none 0 0, .slice none 0 0, .bool false, .slice none 0 0, .slice none 0 0] 173:=Bx.new w41 _ _;have hAs:(w41.alloc (.cells #[.int .i64 0, .slice none 0 0, .slice none 0 0, .bool false, .slice none 0 0, .slice none 0 0] 173)).heap.size=w41.heap.size+1:=by simp
     go_simp
     skip
     refine hK.out _ _ (hS.out _ (R1.trans EA)) (fun hHeld=>?_);clear hK K
     (try simp only[Act.put,List.setIfInBounds_toArray,List.set_cons_zero,List.set_cons_succ])
     obtain⟨wA,hwA⟩:∃wA,w41.alloc (.cells #[.int .i64 0, .slice none 0 0, .slice none 0 0, .bool false, .slice none 0 0, .slice none 0 0] 173)=wA:=⟨_,rfl⟩;have tA:Ext w3.drew wA:=by rw[<-hwA];exact R1.trans EA
     have prA:=QC.mono _ _ _ _ (a2n EA (Nat.le_refl _)) g1;rw[hwA]at EA bA hAs prA |-;obtain⟨gA,hgA⟩:∃gA,w41.heap.size=gA:=⟨_,rfl⟩;have hvg:w3.heap.size<=gA:=by rw[<-hgA];exact R1.size
     have hvgd:w3.drew.heap.size<=gA:=by have h9:w3.drew.heap.size=w3.heap.size:=rfl;rw[h9];exact hvg
     rw[hgA]at bA hAs prA |-;have glwA:gA<wA.heap.size:=by omega
     have xA2:=a1e (hX0.ext tA) glwA;refine a0k (i:=11) (o:=⟨_,_,_,_,_,_⟩) (by kernel_rfl) rfl (fun K hK=>?_);go_simp
     (go_at_call 101;(with_reducible refine(hc2.out (un Z0 (some ⟨gA,0,none⟩)) wA xA2 (a2n tA hvgd) _ prA).mono ?_);rintro ee v2 ⟨q2,u2,rfl,h2⟩)
     refine hK.out _ _ (hS.out v2 (tA.trans q2)) (fun hHeld=>?_);clear hK K
     (try simp only[Act.put,List.setIfInBounds_toArray,List.set_cons_zero,List.set_cons_succ])
     have T2:=tA.trans q2;have b2:=bA.ext0 q2;have glv2:gA<v2.heap.size:=Nat.lt_of_lt_of_le glwA q2.size;obtain⟨sd,ad,nd,cd,dd,kd,ed,rfl⟩:=h2.shape;refine kt 12 hOnce ?_;refine a0v (i:=14) (o:=⟨_,_,_,_,_,_⟩) (by kernel_rfl) rfl (by decide) (by kernel_rfl) (fun K hK=>?_)
     (refine a0A rfl rfl a3H rfl rfl b2 rfl rfl (by intro v hv;simp at hv;rcases hv with rfl|rfl|rfl|rfl|rfl|rfl<;>rfl) ?_;intro w9 y1 y2)
     refine hK.out _ _ ?_;clear hK K
     (try simp only[Act.put])
     have hQ9:=QC.mono _ _ _ _ (a0w y2 fun k hk=>a0r hk) h2;have hE9:Ext w3 w9:=ExtX.box (hE0.trans T2) y2 hvg;have hlt9:=Nat.lt_of_lt_of_le glv2 y2.size;rw[hNs.out]at y1;go_wp2_with fail
     go_meet
     case rel=>exact⟨gA,sd,ad,nd,cd,dd,kd,ed,rfl,y1,hQ9,hvg,hlt9,hE9⟩
   ·skip
    have EA:Ext w40 (w40.alloc (.cells #[.int .i64 0, .slice none 0 0, .slice none 0 0, .bool false, .slice none 0 0, .slice none 0 0] 173)):=(ExtX.refl _).alloc _;have bA:Bx (w40.alloc (.cells #[.int .i64 0, .slice none 0 0, .slice none 0 0, .bool false, .slice none 0 0, .slice none 0 0] 173)) w40.heap.size #[.int .i64 0, .slice none 0 0, .slice none 0 0, .bool false, .slice none 0 0, .slice none 0 0] 173:=Bx.new w40 _ _;have hAs:(w40.alloc (.cells #[.int .i64 0, .slice none 0 0, .slice none 0 0, .bool false, .slice none 0 0, .slice none 0 0] 173)).heap.size=w40.heap.size+1:=by simp
    go_simp
    skip
    refine hK.out _ _ (hS.out _ (R0.trans EA)) (fun hHeld=>?_);clear hK K
    (try simp only[Act.put,List.setIfInBounds_toArray,List.set_cons_zero,List.set_cons_succ])
    obtain⟨wA,hwA⟩:∃wA,w40.alloc (.cells #[.int .i64 0, .slice none 0 0, .slice none 0 0, .bool false, .slice none 0 0, .slice none 0 0] 173)=wA:=⟨_,rfl⟩;have tA:Ext w3.drew wA:=by rw[<-hwA];exact R0.trans EA
    have prA:=QC.mono _ _ _ _ (a2n EA (Nat.le_refl _)) g0;rw[hwA]at EA bA hAs prA |-;obtain⟨gA,hgA⟩:∃gA,w40.heap.size=gA:=⟨_,rfl⟩;have hvg:w3.heap.size<=gA:=by rw[<-hgA];exact R0.size
    have hvgd:w3.drew.heap.size<=gA:=by have h9:w3.drew.heap.size=w3.heap.size:=rfl;rw[h9];exact hvg
    rw[hgA]at bA hAs prA |-;have glwA:gA<wA.heap.size:=by omega
    have xA1:=a1e (hX0.ext tA) glwA;refine a0k (i:=10) (o:=⟨_,_,_,_,_,_⟩) (by kernel_rfl) rfl (fun K hK=>?_);go_simp
    (go_at_call 133;(with_reducible refine(hc1.out (un Z0 (some ⟨gA,0,none⟩)) wA xA1 (a2n tA hvgd) _ prA).mono ?_);rintro ee v1 ⟨q1,u1,rfl,h1⟩)
    refine hK.out _ _ (hS.out v1 (tA.trans q1)) (fun hHeld=>?_);clear hK K
    (try simp only[Act.put,List.setIfInBounds_toArray,List.set_cons_zero,List.set_cons_succ])
    have T1:=tA.trans q1;have b1:=bA.ext0 q1;have glv1:gA<v1.heap.size:=Nat.lt_of_lt_of_le glwA q1.size;have xA2:=a1e (hX0.ext T1) glv1;refine a0k (i:=11) (o:=⟨_,_,_,_,_,_⟩) (by kernel_rfl) rfl (fun K hK=>?_);go_simp
    (go_at_call 101;(with_reducible refine(hc2.out (un Z0 (some ⟨gA,0,none⟩)) v1 xA2 (a2n T1 hvgd) _ h1).mono ?_);rintro ee v2 ⟨q2,u2,rfl,h2⟩)
    refine hK.out _ _ (hS.out v2 (T1.trans q2)) (fun hHeld=>?_);clear hK K
    (try simp only[Act.put,List.setIfInBounds_toArray,List.set_cons_zero,List.set_cons_succ])
    have T2:=T1.trans q2;have b2:=b1.ext0 q2;have glv2:gA<v2.heap.size:=Nat.lt_of_lt_of_le glv1 q2.size;obtain⟨sd,ad,nd,cd,dd,kd,ed,rfl⟩:=h2.shape;refine kt 12 hOnce ?_;refine a0v (i:=14) (o:=⟨_,_,_,_,_,_⟩) (by kernel_rfl) rfl (by decide) (by kernel_rfl) (fun K hK=>?_)
    (refine a0A rfl rfl a3H rfl rfl b2 rfl rfl (by intro v hv;simp at hv;rcases hv with rfl|rfl|rfl|rfl|rfl|rfl<;>rfl) ?_;intro w9 y1 y2)
    refine hK.out _ _ ?_;clear hK K
    (try simp only[Act.put])
    have hQ9:=QC.mono _ _ _ _ (a0w y2 fun k hk=>a0r hk) h2;have hE9:Ext w3 w9:=ExtX.box (hE0.trans T2) y2 hvg;have hlt9:=Nat.lt_of_lt_of_le glv2 y2.size;rw[hNs.out]at y1;go_wp2_with fail
    go_meet
    case rel=>exact⟨gA,sd,ad,nd,cd,dd,kd,ed,rfl,y1,hQ9,hvg,hlt9,hE9⟩
  ·skip
   have EA:Ext w3.drew (w3.alloc (.cells #[.int .i64 0, .slice none 0 0, .slice none 0 0, .bool false, .slice none 0 0, .slice none 0 0] 173)).drew:=⟨rfl,rfl,rfl,((ExtX.refl (Y:=noY) w3).alloc _).size,((ExtX.refl (Y:=noY) w3).alloc _).block⟩;have bA:Bx (w3.alloc (.cells #[.int .i64 0, .slice none 0 0, .slice none 0 0, .bool false, .slice none 0 0, .slice none 0 0] 173)).drew w3.heap.size #[.int .i64 0, .slice none 0 0, .slice none 0 0, .bool false, .slice none 0 0, .slice none 0 0] 173:=Bx.new w3 _ _;have hAs:(w3.alloc (.cells #[.int .i64 0, .slice none 0 0, .slice none 0 0, .bool false, .slice none 0 0, .slice none 0 0] 173)).drew.heap.size=w3.heap.size+1:=by show(w3.alloc _).heap.size=_;simp
   go_simp
   skip
   refine hK.out _ _ (hS.out _ ((ExtX.refl (Y:=noY) w3.drew).trans EA)) (fun hHeld=>?_);clear hK K
   (try simp only[Act.put,List.setIfInBounds_toArray,List.set_cons_zero,List.set_cons_succ])
   obtain⟨wA,hwA⟩:∃wA,(w3.alloc (.cells #[.int .i64 0, .slice none 0 0, .slice none 0 0, .bool false, .slice none 0 0, .slice none 0 0] 173)).drew=wA:=⟨_,rfl⟩;have tA:Ext w3.drew wA:=by rw[<-hwA];exact EA
   rw[hwA]at EA bA hAs |-;obtain⟨gA,hgA⟩:∃gA,w3.heap.size=gA:=⟨_,rfl⟩;have hvg:w3.heap.size<=gA:=by rw[<-hgA];exact Nat.le_refl _
   have hvgd:w3.drew.heap.size<=gA:=by have h9:w3.drew.heap.size=w3.heap.size:=rfl;rw[h9];exact hvg
   rw[hgA]at bA hAs |-;have glwA:gA<wA.heap.size:=by omega
   have xA0:=a1e (hX0.ext tA) glwA;refine a0k (i:=9) (o:=⟨_,_,_,_,_,_⟩) (by kernel_rfl) rfl (fun K hK=>?_);go_simp
   (go_at_call 133;(with_reducible refine(hc0.out (un Z0 (some ⟨gA,0,none⟩)) wA xA0 (a2n tA hvgd)).mono ?_);rintro ee v0 ⟨q0,u0,rfl,h0⟩)
   refine hK.out _ _ (hS.out v0 (tA.trans q0)) (fun hHeld=>?_);clear hK K
   (try simp only[Act.put,List.setIfInBounds_toArray,List.set_cons_zero,List.set_cons_succ])
   have T0:=tA.trans q0;have b0:=bA.ext0 q0;have glv0:gA<v0.heap.size:=Nat.lt_of_lt_of_le glwA q0.size;have xA1:=a1e (hX0.ext T0) glv0;refine a0k (i:=10) (o:=⟨_,_,_,_,_,_⟩) (by kernel_rfl) rfl (fun K hK=>?_);go_simp
   (go_at_call 133;(with_reducible refine(hc1.out (un Z0 (some ⟨gA,0,none⟩)) v0 xA1 (a2n T0 hvgd) _ h0).mono ?_);rintro ee v1 ⟨q1,u1,rfl,h1⟩)
   refine hK.out _ _ (hS.out v1 (T0.trans q1)) (fun hHeld=>?_);clear hK K
   (try simp only[Act.put,List.setIfInBounds_toArray,List.set_cons_zero,List.set_cons_succ])
   have T1:=T0.trans q1;have b1:=b0.ext0 q1;have glv1:gA<v1.heap.size:=Nat.lt_of_lt_of_le glv0 q1.size;have xA2:=a1e (hX0.ext T1) glv1;refine a0k (i:=11) (o:=⟨_,_,_,_,_,_⟩) (by kernel_rfl) rfl (fun K hK=>?_);go_simp
   (go_at_call 101;(with_reducible refine(hc2.out (un Z0 (some ⟨gA,0,none⟩)) v1 xA2 (a2n T1 hvgd) _ h1).mono ?_);rintro ee v2 ⟨q2,u2,rfl,h2⟩)
   refine hK.out _ _ (hS.out v2 (T1.trans q2)) (fun hHeld=>?_);clear hK K
   (try simp only[Act.put,List.setIfInBounds_toArray,List.set_cons_zero,List.set_cons_succ])
   have T2:=T1.trans q2;have b2:=b1.ext0 q2;have glv2:gA<v2.heap.size:=Nat.lt_of_lt_of_le glv1 q2.size;obtain⟨sd,ad,nd,cd,dd,kd,ed,rfl⟩:=h2.shape;refine kt 12 hOnce ?_;refine a0v (i:=14) (o:=⟨_,_,_,_,_,_⟩) (by kernel_rfl) rfl (by decide) (by kernel_rfl) (fun K hK=>?_)
   (refine a0A rfl rfl a3H rfl rfl b2 rfl rfl (by intro v hv;simp at hv;rcases hv with rfl|rfl|rfl|rfl|rfl|rfl<;>rfl) ?_;intro w9 y1 y2)
   refine hK.out _ _ ?_;clear hK K
   (try simp only[Act.put])
   have hQ9:=QC.mono _ _ _ _ (a0w y2 fun k hk=>a0r hk) h2;have hE9:Ext w3 w9:=ExtX.box (hE0.trans T2) y2 hvg;have hlt9:=Nat.lt_of_lt_of_le glv2 y2.size;rw[hNs.out]at y1;go_wp2_with fail
   go_meet
   case rel=>exact⟨gA,sd,ad,nd,cd,dd,kd,ed,rfl,y1,hQ9,hvg,hlt9,hE9⟩
 case rest=>
  obtain⟨g,sd,ad,nd,cd,dd,kd,ed,rfl,bg,hQ,hge,hglt,hEc⟩:=hcut;clear hc0 hc1 hc2 hS hwr hE0 hX0;obtain⟨Z1,hZ1⟩:∃Z1,un Z0 (some ⟨g,0,none⟩)=Z1:=⟨_,rfl⟩;have hgZ:∀k,ob (some ⟨g,0,none⟩) k=true->Z1 k=true:=fun k hk=>by rw[<-hZ1];exact a0r hk
  have hgg:Z1 g=true:=hgZ g (by simp[ob]);have hZ10:Hid (∀k,k<w3.heap.size->Z1 k=true->Z0 k=true):=hid fun k hk h=>by
   rw[<-hZ1]at h;by_cases h0:Z0 k=true
   ·exact h0
   ·have:g=k:=by simpa[un,h0,ob]using h
    omega
  have hXZ:Hid (∀k,X k=true->Z1 k=true):=hid fun k hk=>by
   rw[<-hZ1,<-hZ0];exact a0f (by simp[a0e,hk])
  have hb3:Hid (∀k,ob (some ⟨b+1+1,0,none⟩) k=true->Z1 k=true):=hid fun k hk=>by
   have hk2:b+1+1=k:=by simpa[ob]using hk
   rw[<-hZ1,<-hZ0];exact a0f (a2L (by omega) (by omega))
  have hX1:HX Z1 wc:=fun k hk=>by
   rw[<-hZ1]at hk;by_cases h0:Z0 k=true
   ·exact hX3.ext hEc k h0
   ·have:g=k:=by simpa[un,h0,ob]using hk
    omega
  rw[hZ1]at hQ;obtain⟨ro,rc,rfl,hrc,hrs⟩:=hrv;obtain⟨xo',xc',he,hxc,hxs⟩:=hxv;simp only[Value.slice.injEq]at he;obtain⟨rfl,rfl,rfl⟩:=he;obtain⟨yo',yc',he,hyc,hys⟩:=hyv;simp only[Value.slice.injEq]at he;obtain⟨rfl,rfl,rfl⟩:=he;have hhr:=hrs.hd;have hhx:=hxs.hd;have hhy:=hys.hd;have hrl':=hid hrl;have hxl':=hid hsx.1;have hxr':=hid hsx.2;have hyl':=hid hsy;rw[hrl]at hhr hrc |-;rw[hsx.1]at hhx hxc m3 |-;rw[hsy]at hhy hyc m3 |-;obtain⟨XD,hXD⟩:∃XD,(shM m row v sg).xx=XD:=⟨_,rfl⟩;obtain⟨YD,hYD⟩:∃YD,(shM m row v sg).xy=YD:=⟨_,rfl⟩;have hXl:Hid (XD.length=n):=hid (by rw[<-hXD];show(ofF row.length row.length _).length=n;rw[hrl];exact(a9B _ _ _).1);have hYl:Hid (YD.length=n):=hid (by rw[<-hYD];simp[shM,hrl]);have hXr:Hid (∀j (h:j<XD.length),XD[j]=(List.range n).map fun k=>ent m.xx j k+(sg:Rat)*fn row j*fn row k):=hid fun j h=>by subst hXD;simp[shM,ofF,hrl]
  have hYi:Hid (∀j (h:j<YD.length),YD[j]=fn m.xy j+(sg:Rat)*fn row j*v):=hid fun j h=>by subst hYD;simp[shM]
  have hfin:Hid (∀w' (s0:Bool) (a0:Option Addr) (k0 c0:Nat) (d0:Option Addr) (p0 e0:Nat) xo2 xc2 yo2 yc2,Ext w w'->MC (mk X w') (.slice xo2 n xc2) XD->RC (mk X w') (.slice yo2 n yc2) YD->QC (mk X w') (.agg #[.bool s0, .slice a0 k0 c0, .slice d0 p0 e0]) D->F (.returned (.agg #[.int .i64 N', .slice xo2 n xc2, .slice yo2 n yc2, .bool s0, .slice a0 k0 c0, .slice d0 p0 e0])) w'):=hid fun w' s0 a0 k0 c0 d0 p0 e0 xo2 xc2 yo2 yc2 h1 h2 h3 h4=>by
   rw[<-hF'.out];refine⟨h1,_,rfl,xo2,n,xc2,yo2,n,yc2,s0,a0,k0,c0,d0,p0,e0,?_,by rw[hXD];exact h2,by rw[hYD];exact h3,?_⟩
   ·show _=Value.agg #[.int .i64 (m.n+sg),_,_,_,_,_]
    rw[hNe.out]
   ·show QC _ _ (m.yy+(sg:Rat)*(v*v))
    rw[hDe.out];exact h4
  have hent:Hid (∀j k (hj:j<m.xx.length) (hk:k<m.xx[j].length),ent m.xx j k=m.xx[j][k]):=hid fun j k hj hk=>(b1m hj hk).symm;have hfr:Hid (∀j (h:j<row.length),fn row j=row[j]):=hid fun j h=>by simp[fn,List.getD_eq_getElem?_getD,h]
  have hfy:Hid (∀j (h:j<m.xy.length),fn m.xy j=m.xy[j]):=hid fun j h=>by simp[fn,List.getD_eq_getElem?_getD,h]
  have hbr:Hid (∀j (h:j<row.length),hq row[j]<=B):=hid fun j h=>hBr _ (List.getElem_mem _);clear hXD hYD hF' hZ1 hsx hsy hrl _hBm hBr hDe hNe hZ0;have hrow0:∀Z wr,Ext w3 wr->(∀k,k<w3.heap.size->Z k=true->Z1 k=true)->Le (mk Z0 w3) (mk Z wr):=fun Z wr h h1=>b6l h fun k hk hz=>hZ10.out k hk (h1 k hk hz);have hrow:=hid hrow0;clear hrow0;go_wp2_with fail
  go_loopw [34] (fun q wr=>∃(j:Nat) (xo2:Option Addr) (xc2:Nat) (yo2:Option Addr) (yc2:Nat),q= .int .i64 j/\j<=n/\Bx wr g #[.int .i64 N', .slice xo2 j xc2, .slice yo2 j yc2, .bool sd, .slice ad nd cd, .slice dd kd ed] 173/\OL RC 1 (un Z1 yo2) w3.heap.size 24 wr xo2 xc2 (XD.take j)/\OL QC 3 (un Z1 xo2) w3.heap.size 45 wr yo2 yc2 (YD.take j)/\QC (mk (un (un Z1 xo2) yo2) wr) (.agg #[.bool sd, .slice ad nd cd, .slice dd kd ed]) D/\HX Z1 wr/\Ext w3 wr) (fun q _=>n - (intOf q).toNat)
  case atStart=>exact⟨0,none,0,none,0,rfl,Nat.zero_le _,bg,OL.nil _ _ _ _ _ _,OL.nil _ _ _ _ _ _,by rw[a6E,a6E];exact hQ,hX1,hEc⟩
  case round=>
   clear hQ hX1 bg hEc;obtain⟨j,xo2,xc2,yo2,yc2,rfl,hj,bg,hOX,hOY,hQ,hXr1,hEr⟩:=hrel;by_cases hlt:j<n
   ·have hjr:j<row.length:=by rw[hrl'.out];exact hlt
    have hjx:j<m.xx.length:=by rw[hxl'.out];exact hlt
    have hjy:j<m.xy.length:=by rw[hyl'.out];exact hlt
    have hjX:j<XD.length:=by rw[hXl.out];exact hlt
    have hjY:j<YD.length:=by rw[hYl.out];exact hlt
    have htX:=hid (a0L XD j hjX);have htY:=hid (a0L YD j hjY);have hlX:=hid (a0W (l:=XD) (i:=j) (by omega));have hlY:=hid (a0W (l:=YD) (i:=j) (by omega));have hXj:=hXr.out j hjX;have hYj:=hYi.out j hjY;rw[hfr.out j hjr]at hXj;rw[hfr.out j hjr,hfy.out j hjy]at hYj;have hobX:∀k,k<w3.heap.size->ob xo2 k=false:=fun k hk=>hOX.ob_lt hk;have hobY:∀k,k<w3.heap.size->ob yo2 k=false:=fun k hk=>hOY.ob_lt hk;obtain⟨ZJ,hZJ⟩:∃ZJ,un (un Z1 xo2) yo2=ZJ:=⟨_,rfl⟩;have hXJ:HX ZJ wr:=by rw[<-hZJ];exact a2X (a2X hXr1 fun k hk=>(hOX.block hk).2) fun k hk=>(hOY.block hk).2
    have hsub3:∀k,k<w3.heap.size->ZJ k=true->Z1 k=true:=fun k hk hz=>by
     rw[<-hZJ]at hz;have e1:=hobX k hk;have e2:=hobY k hk;cases h0:Z1 k
     ·simp[un,h0,e1,e2]at hz
     ·rfl
    have hl3:=hrow.out ZJ wr hEr hsub3;have hrsj:=hrs.mono QV.mono hl3;have hsJ:=QV.mono _ _ _ _ hl3 hsv;have bx:=Bx.new wr #[.bool false, .slice none 0 0, .slice none 0 0] 45;have hf3:=y1.ext0 hEr;have hrq:=hid (hbr.out j hjr);obtain⟨rj,hrj⟩:∃rj,row[j]=rj:=⟨_,rfl⟩;have hrj':=hid hrj;rw[hrj]at hXj hYj hrq;clear hrj;go_wp2_with (first|(with_reducible refine a1M a0B (by omega) (by assumption) ?_)|((with_reducible show wpList _ _ _ (⟨_, .load 45 _,_,_,_,_⟩::_) _ _);refine a0G a0t j hrsj hjr rfl (by simp) QV.agg ?_;intro u5 hu5;rw[hrj'.out]at hu5;obtain⟨s5,a5,n5,c5,d5,m5,e5,rfl⟩:=hu5.shape)|((with_reducible show wpList _ _ _ (⟨_, .store 45 _ _,_,_,_,_⟩::_) _ _);refine a0a a0t rfl rfl bx rfl rfl (a1Q _ _ _ _ _ _ _) ?_;intro w5 z1 z2;have hE5:Ext wr w5:=ExtX.box ((ExtX.refl wr).alloc _) z2 (Nat.le_refl _);have k10:=z1.cell 0 rfl;have k11:=z1.cell 1 rfl;have k12:=z1.cell 2 rfl;have hf5:=hf3.ext0 hE5;have k20:=hf5.cell 0 rfl;have k21:=hf5.cell 1 rfl;have k22:=hf5.cell 2 rfl;have hu6:=mkx QV.mono hu5 hE5;have hs6:=mkx QV.mono hsJ hE5))
    refine(b8D ZJ w5 _ _ _ _ (hXJ.ext hE5) hs6 hu6).mono ?_;rintro ee w6 ⟨hE6,u7,rfl,hu7⟩;obtain⟨s7,a7,n7,c7,d7,k7,e7,rfl⟩:=hu7.shape;have bx2:=Bx.new w6 #[.bool false, .slice none 0 0, .slice none 0 0] 45;clear k10 k11 k12 k20 k21 k22;go_wp2_with ((with_reducible show wpList _ _ _ (⟨_, .store 45 _ _,_,_,_,_⟩::_) _ _);refine a0a a0t rfl rfl bx2 rfl rfl (a1Q _ _ _ _ _ _ _) ?_;intro wj x1 x2)
    have hE6j:Ext w6 wj:=ExtX.box ((ExtX.refl w6).alloc _) x2 (Nat.le_refl _);have hEj:Ext wr wj:=(hE5.trans hE6).trans hE6j;have hwv:=mkx QC.mono hu7 hE6j;have hXwj:HX ZJ wj:=hXJ.ext hEj;have hE3j:=hEr.trans hEj;have hwq:Hid (hq ((sg:Rat)*rj)<=1000001):=hid (Nat.le_trans (hq_mul _ _) (by have:=hrq.out;omega));obtain⟨jb,hjb⟩:∃jb,w6.heap.size=jb:=⟨_,rfl⟩;rw[hjb]at x1 |-;obtain⟨SW,hSW⟩:∃SW,(sg:Rat)*rj=SW:=⟨_,rfl⟩;rw[hSW]at hwv hwq hXj hYj;obtain⟨LJ,hLJ⟩:∃LJ,XD[j]=LJ:=⟨_,rfl⟩;rw[hLJ]at hXj htX;have hLl:Hid (LJ.length=n):=hid (by rw[hXj];simp);have hLi:Hid (∀k (h:k<LJ.length),LJ[k]=ent m.xx j k+SW*fn row k):=hid fun k h=>by subst hXj;simp
    obtain⟨rxo,rxc,_,hcx,hclx,hqx⟩:=hxs.row j hjx;have hxrl:=hid (hxr'.out m.xx[j] (List.getElem_mem _));rw[hxrl.out]at hcx hclx;have hhrx:Hd rxo n:=by have:=hqx.hd;rw[hxrl.out]at this;exact this
    have hbg0:=bg.ext0 hEj;have hX0j:=hOX.ext0 RC.elem hEj;have hY0j:=hOY.ext0 QC.elem hEj;have hQj:=mkx QC.mono hQ hEj;have hX1j:HX Z1 wj:=hXr1.ext hEj;have hobj:ob xo2 jb=false:=by
     cases hc:ob xo2 jb
     ·rfl
     ·have:=(hOX.block hc).2;have:=(hE5.trans hE6).size;omega
    have hoyj:ob yo2 jb=false:=by
     cases hc:ob yo2 jb
     ·rfl
     ·have:=(hOY.block hc).2;have:=(hE5.trans hE6).size;omega
    have hgj:g≠jb:=by have h9:g<wr.heap.size:=a2p (bg.cell 0 rfl);have:=(hE5.trans hE6).size;omega
    clear hXj hLJ hSW hjb hu7 bx bx2 x2 z1 z2 hf3 hf5 hs6 hu6 hu5 hE5 hE6 hE6j hrsj hsJ hl3 hOX hOY hQ bg;go_wp2_with fail
    go_loopw [14,44] (fun l q wr=>∃(k:Nat) (lo:Option Addr) (lc:Nat),q= .int .i64 k/\l= .slice lo k lc/\k<=n/\OL QC 3 ZJ wj.heap.size 45 wr lo lc (LJ.take k)/\Ext wj wr) (fun _ q _=>n - (intOf q).toNat)
    case atStart=>exact⟨0,none,0,rfl,rfl,Nat.zero_le _,OL.nil _ _ _ _ _ _,ExtX.refl _⟩
    case round=>
     obtain⟨k,lo,lc,rfl,rfl,hk,hL,hEk⟩:=hrel;have hXk:HX ZJ wr:=hXwj.ext hEk;have hbk:=hEk.size;by_cases hlk:k<n
     ·have hkr:k<row.length:=by rw[hrl'.out];exact hlk
      have hkx:k<m.xx[j].length:=by rw[hxrl.out];exact hlk
      have hkL:k<LJ.length:=by rw[hLl.out];exact hlk
      have htk:=hid (a0L LJ k hkL);have hlk2:=hid (a0W (l:=LJ) (i:=k) (by omega));have hLk:=hLi.out k hkL;rw[hfr.out k hkr,hent.out j k hjx hkx]at hLk;have hE3k:=hE3j.trans hEk;have hobL:∀q,q<wj.heap.size->ob lo q=false:=fun q hq=>hL.ob_lt hq;obtain⟨ZK,hZK⟩:∃ZK,un ZJ lo=ZK:=⟨_,rfl⟩;have hXK:HX ZK wr:=by rw[<-hZK];exact hL.unX hXk
      have hsubK:∀q,q<w3.heap.size->ZK q=true->Z1 q=true:=fun q hq hz=>by
       rw[<-hZK]at hz;have e1:=hobL q (Nat.lt_of_lt_of_le hq hE3j.size);refine hsub3 q hq ?_;cases h0:ZJ q
       ·simp[un,h0,e1]at hz
       ·rfl
      have hlK:=hrow.out ZK wr hE3k hsubK;have hrsk:=hrs.mono QV.mono hlK;have hwk:QC (mk ZK wr) (.agg #[.bool s7, .slice a7 n7 c7, .slice d7 k7 e7]) SW:=by rw[<-hZK];exact a5Q (w:=wj) QC.mono hwv hEk hobL
      have hqk:=hqx.mono QV.mono hlK;obtain⟨gx,ox,sx,px,nx,qx,dx,kx,ex,hgx,hXx,hcxx,hqxx⟩:=hqk.rat QV.shaped k hkx;have bx:=Bx.new wr #[.bool false, .slice none 0 0, .slice none 0 0] 45;have hrqk:=hid (hbr.out k hkr);obtain⟨rk,hrk⟩:∃rk,row[k]=rk:=⟨_,rfl⟩;obtain⟨xk,hxk⟩:∃xk,m.xx[j][k]=xk:=⟨_,rfl⟩;obtain⟨lk,hlk3⟩:∃lk,LJ[k]=lk:=⟨_,rfl⟩;have hrk':=hid hrk;rw[hrk]at hLk hrqk;rw[hxk]at hLk hqxx;rw[hlk3]at hLk htk;have hLk':=hid hLk;have hx1:=x1.ext0 hEk;have hm3:=m3.ext0 hE3k;have hcell:=hcx.out noY wr hE3k rfl;have hwrk:Hid (hq (SW*rk)<=68719476736):=hid (Nat.le_trans (hq_mul _ _) (by have:=hwq.out;have:=hrqk.out;omega));clear hrk hxk hlk3 hLk;go_wp2_with (first|(with_reducible refine a1M a0B (by omega) (by assumption) ?_)|((with_reducible show wpList _ _ _ (⟨_, .load 45 _,_,_,_,_⟩::_) _ _);refine a0G a0t k hrsk hkr rfl (by simp) QV.agg ?_;intro u5 hu5;rw[hrk'.out]at hu5;obtain⟨s5,a5,n5,c5,d5,m5,e5,rfl⟩:=hu5.shape)|((with_reducible show wpList _ _ _ (⟨_, .store 45 _ _,_,_,_,_⟩::_) _ _);refine a0a a0t rfl rfl bx rfl rfl (a1Q _ _ _ _ _ _ _) ?_;intro w5 z1 z2;have hE5:Ext wr w5:=ExtX.box ((ExtX.refl wr).alloc _) z2 (Nat.le_refl _)))
      have hEd:Ext wr w5.drew:=hE5.drew;have hXd:HX ZK w5.drew:=hXK.ext hEd;have hwd:=(mkx QC.mono hwk hEd).qv (Nat.le_trans hwq.out (by decide));have hud:=mkx QV.mono hu5 hEd;have hxd:=mkx QV.mono hqxx hEd;have hLd:=hL.ext0 QC.elem hEd;have hXJd:HX ZJ w5.drew:=hXk.ext hEd;obtain⟨b16,hb16⟩:∃b16,wr.heap.size=b16:=⟨_,rfl⟩;rw[hb16]at z1 |-;have o1:ob lo (adr xo j).block=false:=hobL _ (Nat.lt_of_lt_of_le (a2p (hcx.out noY w3 (ExtX.refl _) rfl)) hE3j.size);have o2:ob lo gx=false:=by rw[<-hZK]at hXx;exact(a1j hXx).2
      have o3:ob lo jb=false:=hobL _ (a2p (x1.cell 0 rfl));have o4:ob lo b16=false:=by
       cases hc:ob lo b16
       ·rfl
       ·have:=(hL.block hc).2;omega
      have o5:ob lo b=false:=hobL _ (Nat.lt_of_lt_of_le (a2p (m3.cell 0 rfl)) hE3j.size);have hS:Hid (∀Y W',ExtX Y w5.drew W'->Y b=false->Y (adr xo j).block=false->Y gx=false->Y jb=false->Y b16=false->W'.cell? ⟨b,1,none⟩=some (.slice xo n xc)/\W'.cell? (adr xo j)=some (.slice rxo n rxc)/\(W'.cell? ⟨gx,ox,none⟩=some (.bool sx)/\W'.cell? ⟨gx,ox+1,none⟩=some (.slice px nx qx)/\W'.cell? ⟨gx,ox+2,none⟩=some (.slice dx kx ex))/\(W'.cell? ⟨jb,0,none⟩=some (.bool s7)/\W'.cell? ⟨jb,0+1,none⟩=some (.slice a7 n7 c7)/\W'.cell? ⟨jb,0+2,none⟩=some (.slice d7 k7 e7))/\(W'.cell? ⟨b16,0,none⟩=some (.bool s5)/\W'.cell? ⟨b16,0+1,none⟩=some (.slice a5 n5 c5)/\W'.cell? ⟨b16,0+2,none⟩=some (.slice d5 m5 e5))):=hid fun Y W' h h1 h2 h3 h4 h5=>by
       have q1:=(hm3.ext0 hEd).ext h h1;have q3:=(hx1.ext0 hEd).ext h h4;have q4:=(z1.ext0 (ExtX.refl w5).drew).ext h h5;exact⟨q1.cell 1 rfl,hcx.out Y W' ((ExtX.of (hE3k.trans hEd)).trans h) h2,hcxx.out Y W' ((ExtX.of hEd).trans h) h3,⟨q3.cell 0 rfl,q3.cell 1 rfl,q3.cell 2 rfl⟩,⟨q4.cell 0 rfl,q4.cell 1 rfl,q4.cell 2 rfl⟩⟩
      obtain⟨f00,f01,⟨f02,f03,f04⟩,⟨f05,f06,f07⟩,⟨f08,f09,f10⟩⟩:=hS.out noY w5.drew (ExtX.refl _) rfl rfl rfl rfl rfl;have i1:∀W,(Instr.indexAt 23 (.slice xo n xc) (.int .i64 (j:Int))).run Tryz.prog W= .ok (.pointer (some (adr xo j))) W:=a0z a0s xo n xc .i64 j hhx (by omega) rfl;have i2:∀W,(Instr.indexAt 24 (.slice rxo n rxc) (.int .i64 (k:Int))).run Tryz.prog W= .ok (.pointer (some ⟨gx,ox,none⟩)) W:=by rw[<-hgx];exact a0m a0B rxo n rxc .i64 k hhrx (by omega)
      clear hcell hgx hu5 z2 hwk hqxx hqk hrsk bx;go_region_held3 (fun w'=>w'.cell? ⟨b,1,none⟩=some (.slice xo n xc)/\w'.cell? (adr xo j)=some (.slice rxo n rxc)/\(w'.cell? ⟨gx,ox,none⟩=some (.bool sx)/\w'.cell? ⟨gx,ox+1,none⟩=some (.slice px nx qx)/\w'.cell? ⟨gx,ox+2,none⟩=some (.slice dx kx ex))/\(w'.cell? ⟨jb,0,none⟩=some (.bool s7)/\w'.cell? ⟨jb,0+1,none⟩=some (.slice a7 n7 c7)/\w'.cell? ⟨jb,0+2,none⟩=some (.slice d7 k7 e7))/\(w'.cell? ⟨b16,0,none⟩=some (.bool s5)/\w'.cell? ⟨b16,0+1,none⟩=some (.slice a5 n5 c5)/\w'.cell? ⟨b16,0+2,none⟩=some (.slice d5 m5 e5)))
       (first|exact hS.out noY _ t1 rfl rfl rfl rfl rfl|exact hS.out noY _ t2 rfl rfl rfl rfl rfl|exact hS.out noY _ (ExtX.alloc t2 _) rfl rfl rfl rfl rfl|exact hS.out (ob lo) _ ((ExtX.of t2).trans hE7) o5 o1 o2 o3 o4|go_keep)
       (first|(go_at_call 133;(with_reducible refine(b8D ZK w5.drew _ _ _ _ hXd hwd hud).mono ?_);rintro ee w6 ⟨t1,u6,rfl,hu6⟩;have hX6:=HX.ext hXd t1;have hx6:=mkx QV.mono hxd t1;have hu6v:=hu6.qv hwrk.out)|(go_at_call 101;(with_reducible refine(b7p ZK w6 _ _ _ _ hX6 hx6 hu6v).mono ?_);rintro ee w8 ⟨t7,u8,rfl,hu8⟩;have t2:=t1.trans t7;obtain⟨s8,a8,n8,c8,d8,k8,e8,rfl⟩:=hu8.shape;rw[<-hLk'.out,<-hZK]at hu8;have hL8:=hLd.ext0 QC.elem t2;have hb8:=(hEk.trans (hEd.trans t2)).size;have hX8:=HX.ext hXJd t2)|(refine a1R (l:=LJ.take k) rfl (by rfl) a0B rfl QC.elem hb8 hX8 k hlk2.out rfl rfl hL8 (.agg #[.bool s8, .slice a8 n8 c8, .slice d8 k8 e8]) lk rfl hu8 (by omega) (by omega) ?_;intro lo2 lc2 w7 hL7 hE7 hor))
      have hE8:=(hEk.trans (hEd.trans t2)).own hL8 (Nat.le_refl _) hE7;rw[htk.out]at hL7;clear f00 f01 f02 f03 f04 f05 f06 f07 f08 f09 f10 i1 i2;go_wp2_with fail
      go_roundw
      case rel=>exact⟨k+1,lo2,lc2,by go_num,by go_num,by omega,hL7,hE8⟩
      case measure=>simp[intOf];omega
     ·have hkn:n=k:=by omega
      subst hkn;rw[List.take_of_length_le (by rw[hLl.out];exact Nat.le_refl _)]at hL;have hLs:=hL.sl QC.elem;have hLc:=hL.lenCap;rw[hLl.out]at hLc;have hbg1:=hbg0.ext0 hEk;have hX1':=hX0j.ext0 RC.elem hEk;have hY1':=hY0j.ext0 QC.elem hEk;have hQ1:=mkx QC.mono hQj hEk;have hw1:=mkx QC.mono hwv hEk;have hX1k:HX (un Z1 yo2) wr:=a2X (hX1j.ext hEk) fun q hq=>(hY1'.block hq).2;have hE3k:=hE3j.trans hEk;have hRC:RC (mk (un (un Z1 yo2) xo2) wr) (.slice lo n lc) LJ:=⟨lo,lc,by rw[hLl.out],by rw[hLl.out];exact hLc,hLs.mono QC.mono (a1u fun q _ hq=>by rw[<-hZJ,a0Y];exact hq)⟩;have hogx:ob xo2 g=false:=by
       cases hc:ob xo2 g
       ·rfl
       ·have:=(a1j (hX1'.1 g hc)).1;rw[hgg]at this;cases this
      have q1:=hbg1.cell 1 rfl;have hj1:=x1.ext0 hEk;clear hX0j hY0j hQj hwv hbg0 hL hLs;go_wp2_with (first
       |(at_builtin;refine a0u (l:=XD.take j) a0s rfl RC.elem hE3k.size hX1k j hlX.out rfl rfl hX1' (.slice lo n lc) LJ rfl hRC (by omega) (by omega) ?_;intro xo7 xc7 w7 hX7 hE7 hor7;have bg7:=hbg1.ext hE7 hogx)
       |(refine a4h (v:= .slice xo7 (j+1) xc7) c0F rfl rfl rfl rfl bg7 (by simp) ?_;intro w8 bg8 hE8))
      have bg8':Bx w8 g #[.int .i64 N', .slice xo7 (j+1) xc7, .slice yo2 j yc2, .bool sd, .slice ad nd cd, .slice dd kd ed] 173:=by simpa using bg8
      have hE37:=hE3k.own hX1' (Nat.le_refl _) hE7;have hE38:Ext w3 w8:=ExtX.box hE37 hE8 hge;rw[htX.out]at hX7;have hX8:=hX7.ext RC.elem (Z:=un Z1 yo2) hE8 (fun q _ hq=>a0f (hgZ q hq)) (fun _ _ h=>h);have hY7:=hY1'.ext QC.elem (Z:=un Z1 xo7) hE7 (fun q _ hq=>a0r hq) (b4a hor7);have hY8:=hY7.ext QC.elem (Z:=un Z1 xo7) hE8 (fun q _ hq=>a0f (hgZ q hq)) (fun _ _ h=>h);obtain⟨Z8,hZ8⟩:∃Z8,un (un Z1 xo7) yo2=Z8:=⟨_,rfl⟩;have hle8:Le (mk ZJ wr) (mk Z8 w8):=fun A U h=>by
       have h1:=a0T (Z:=Z8) hE7 (fun q _ hq=>by rw[<-hZJ];exact a0f (a0r hq)) (fun q hq hz=>by
        rw[<-hZ8,a0Y]at hz;rw[<-hZJ,a0Y];exact b4a (X:=un Z1 yo2) hor7 q hq hz) A U h
       exact a0T hE8 (fun q _ hq=>by rw[<-hZ8];exact a0f (a0f (hgZ q hq))) (fun _ _ h=>h) A U h1
      have hQ8:=QC.mono _ _ _ _ hle8 (by rw[<-hZJ];exact hQ1);have hw8:=QC.mono _ _ _ _ hle8 hw1;have hj8:=(hj1.ext hE7 hobj).ext hE8 (a0b hgj.symm);have hm8:=m3.ext0 hE38;have hv8:=v3.ext0 hE38;have hXZ1:HX Z1 w8:=fun q hq=>Nat.lt_of_lt_of_le (hX1j q hq) (Nat.le_trans hbk (Nat.le_trans hE7.size hE8.size));have hXZ8:HX Z8 w8:=by rw[<-hZ8];exact a2X (a2X hXZ1 fun q hq=>(hX8.block hq).2) fun q hq=>(hY8.block hq).2
      have hob78:∀q,q<w3.heap.size->Z8 q=true->Z1 q=true:=fun q hq hz=>by
       rw[<-hZ8]at hz;have e1:ob xo7 q=false:=hX8.ob_lt hq;have e2:ob yo2 q=false:=hY8.ob_lt hq;cases h0:Z1 q
       ·simp[un,h0,e1,e2]at hz
       ·rfl
      have hl38:=hrow.out Z8 w8 hE38 hob78;have hys8:=hys.mono QV.mono hl38;have htv8:=QV.mono _ _ _ _ hl38 htv;obtain⟨gy,oy,sy,py,ny,qy,dy,ky,ey,hgy,hXy,hcy,hqy⟩:=hys8.rat QV.shaped j hjy;obtain⟨yj,hyj⟩:∃yj,m.xy[j]=yj:=⟨_,rfl⟩;obtain⟨YJ,hYJ⟩:∃YJ,YD[j]=YJ:=⟨_,rfl⟩;rw[hyj]at hqy hYj;rw[hYJ]at hYj htY;have hYj':=hid hYj;have hEd:Ext w8 w8.drew:=(ExtX.refl w8).drew;have hwv:Hid (hq (SW*v)<=68719476736):=hid (Nat.le_trans (hq_mul _ _) (by have:=hwq.out;omega));have hwd:=(mkx QC.mono hw8 hEd).qv (Nat.le_trans hwq.out (by decide));have htd:=mkx QV.mono htv8 hEd;have hyd:=mkx QV.mono hqy hEd;have hYd:=hY8.ext0 QC.elem hEd;have hXd:HX Z8 w8.drew:=hXZ8.ext hEd;have hXu7:HX (un Z1 xo7) w8.drew:=a2X (hXZ1.ext hEd) fun q hq=>(hX8.block hq).2;have ogy:ob yo2 g=false:=by
       cases hc:ob yo2 g
       ·rfl
       ·have:=(a1j (hY8.1 g hc)).1;rw[hgg]at this;cases this
      have o1:ob yo2 b=false:=hY8.ob_lt (a2p (m3.cell 0 rfl));have o2:ob yo2 (b+1)=false:=hY8.ob_lt (a2p (v3.cell 0 rfl));have o3:ob yo2 gy=false:=by rw[<-hZ8]at hXy;exact(a1j hXy).2
      have hS:Hid (∀Y W',ExtX Y w8.drew W'->Y g=false->Y b=false->Y gy=false->Y jb=false->Y (b+1)=false->W'.cell? ⟨g,2,none⟩=some (.slice yo2 j yc2)/\W'.cell? ⟨b,2,none⟩=some (.slice yo n yc)/\(W'.cell? ⟨gy,oy,none⟩=some (.bool sy)/\W'.cell? ⟨gy,oy+1,none⟩=some (.slice py ny qy)/\W'.cell? ⟨gy,oy+2,none⟩=some (.slice dy ky ey))/\(W'.cell? ⟨jb,0,none⟩=some (.bool s7)/\W'.cell? ⟨jb,0+1,none⟩=some (.slice a7 n7 c7)/\W'.cell? ⟨jb,0+2,none⟩=some (.slice d7 k7 e7))/\(W'.cell? ⟨b+1,0,none⟩=some (.bool s2)/\W'.cell? ⟨b+1,0+1,none⟩=some (.slice a2 n2 c2)/\W'.cell? ⟨b+1,0+2,none⟩=some (.slice d2 k2 e2))):=hid fun Y W' h h1 h2 h3 h4 h5=>by
       have p1:=(bg8'.ext0 hEd).ext h h1;have p2:=(hm8.ext0 hEd).ext h h2;have p3:=(hj8.ext0 hEd).ext h h4;have p4:=(hv8.ext0 hEd).ext h h5;exact⟨p1.cell 2 rfl,p2.cell 2 rfl,hcy.out Y W' ((ExtX.of hEd).trans h) h3,⟨p3.cell 0 rfl,p3.cell 1 rfl,p3.cell 2 rfl⟩,⟨p4.cell 0 rfl,p4.cell 1 rfl,p4.cell 2 rfl⟩⟩
      have iy:∀W,(Instr.indexAt 24 (.slice yo n yc) (.int .i64 (j:Int))).run Tryz.prog W= .ok (.pointer (some ⟨gy,oy,none⟩)) W:=by rw[<-hgy];exact a0m a0B yo n yc .i64 j hhy (by omega)
      have hbY:w3.heap.size<=w8.drew.heap.size:=(hE38.trans hEd).size;clear q1 hgy hqy hys8 hcy hm8 hv8 hj8 hj1 hRC bg8 bg7 hY7 hX1' hY1' hQ1 hw1 hYj;refine a0O 14 (fun W'=>W'.cell? ⟨g,2,none⟩=some (.slice yo2 j yc2)/\W'.cell? ⟨b,2,none⟩=some (.slice yo n yc)/\(W'.cell? ⟨gy,oy,none⟩=some (.bool sy)/\W'.cell? ⟨gy,oy+1,none⟩=some (.slice py ny qy)/\W'.cell? ⟨gy,oy+2,none⟩=some (.slice dy ky ey))/\(W'.cell? ⟨jb,0,none⟩=some (.bool s7)/\W'.cell? ⟨jb,0+1,none⟩=some (.slice a7 n7 c7)/\W'.cell? ⟨jb,0+2,none⟩=some (.slice d7 k7 e7))/\(W'.cell? ⟨b+1,0,none⟩=some (.bool s2)/\W'.cell? ⟨b+1,0+1,none⟩=some (.slice a2 n2 c2)/\W'.cell? ⟨b+1,0+2,none⟩=some (.slice d2 k2 e2))) (by kernel_rfl) (by kernel_rfl) (hS.out noY _ (ExtX.refl _) rfl rfl rfl rfl rfl) (fun hHeld hOnce=>?_);refine kt 0 hOnce ?_;refine kt 1 hOnce ?_;refine kt 2 hOnce ?_;refine kt 3 hOnce ?_;refine kt 4 hOnce ?_;refine kt 5 hOnce ?_;refine kt 6 hOnce ?_;refine kt 7 hOnce ?_;refine kt 8 hOnce ?_;refine a0k (i:=9) (o:=⟨_,_,_,_,_,_⟩) (by kernel_rfl) rfl (fun K hK=>?_);go_simp
      (go_at_call 133;(with_reducible refine(b8D Z8 w8.drew _ _ _ _ hXd hwd htd).mono ?_);rintro ee w10 ⟨t1,u10,rfl,hu10⟩)
      refine hK.out _ _ (hS.out noY w10 t1 rfl rfl rfl rfl rfl) (fun hHeld=>?_);clear hK K
      (try simp only[Act.put,List.setIfInBounds_toArray,List.set_cons_zero,List.set_cons_succ])
      have hX10:=HX.ext hXd t1;have hy10:=mkx QV.mono hyd t1;have hu10v:=hu10.qv hwv.out;refine a0k (i:=10) (o:=⟨_,_,_,_,_,_⟩) (by kernel_rfl) rfl (fun K hK=>?_);go_simp
      (go_at_call 101;(with_reducible refine(b7p Z8 w10 _ _ _ _ hX10 hy10 hu10v).mono ?_);rintro ee w11 ⟨t2,u11,rfl,hu11⟩)
      refine hK.out _ _ (hS.out noY w11 (t1.trans t2) rfl rfl rfl rfl rfl) (fun hHeld=>?_);clear hK K
      (try simp only[Act.put,List.setIfInBounds_toArray,List.set_cons_zero,List.set_cons_succ])
      have t12:=t1.trans t2;obtain⟨s11,a11,n11,c11,d11,k11,e11,rfl⟩:=hu11.shape;rw[<-hYj'.out,<-hZ8]at hu11;have hY11:=hYd.ext0 QC.elem t12;have hX11:=hXu7.ext t12;have hb11:=Nat.le_trans hbY t12.size;refine a0k (i:=11) (o:=⟨_,_,_,_,_,_⟩) (by kernel_rfl) rfl (fun K hK=>?_);go_simp
      skip
      refine hK.out _ _ (hS.out noY _ (t12.alloc _) rfl rfl rfl rfl rfl) (fun hHeld=>?_);clear hK K
      (try simp only[Act.put,List.setIfInBounds_toArray,List.set_cons_zero,List.set_cons_succ])
      refine a0k (i:=12) (o:=⟨_,_,_,_,_,_⟩) (by kernel_rfl) rfl (fun K hK=>?_)
      (refine a1R (l:=YD.take j) rfl (by rfl) a0B rfl QC.elem hb11 hX11 j hlY.out rfl rfl hY11 (.agg #[.bool s11, .slice a11 n11 c11, .slice d11 k11 e11]) YJ rfl hu11 (by omega) (by omega) ?_;intro yo9 yc9 w12 hY12 hE12 hor12)
      refine hK.out _ _ (hS.out (ob yo2) w12 ((ExtX.of t12).trans hE12) ogy o1 o3 hoyj o2) (fun hHeld=>?_);clear hK K
      (try simp only[Act.put,List.setIfInBounds_toArray,List.set_cons_zero,List.set_cons_succ])
      have bg12:=(bg8'.ext0 (hEd.trans t12)).ext hE12 ogy;refine kt 13 hOnce ?_;refine a0v (i:=14) (o:=⟨_,_,_,_,_,_⟩) (by kernel_rfl) rfl (by decide) (by kernel_rfl) (fun K hK=>?_)
      (refine a1l (v:= .slice yo9 (j+1) yc9) rfl rfl b7z rfl rfl rfl rfl bg12 (by simp) ?_;intro w13 bg13 hE13)
      refine hK.out _ _ ?_;clear hK K
      (try simp only[Act.put])
      have bg13':Bx w13 g #[.int .i64 N', .slice xo7 (j+1) xc7, .slice yo9 (j+1) yc9, .bool sd, .slice ad nd cd, .slice dd kd ed] 173:=by simpa using bg13
      rw[htY.out]at hY12;have hE8t:=hEd.trans t12;have hX13:=((hX8.ext0 RC.elem hE8t).ext RC.elem (Z:=un Z1 yo9) hE12 (fun q _ hq=>a0r hq) (b4a hor12)).ext RC.elem (Z:=un Z1 yo9) hE13 (fun q _ hq=>a0f (hgZ q hq)) (fun _ _ h=>h);have hY13:=hY12.ext QC.elem (Z:=un Z1 xo7) hE13 (fun q _ hq=>a0f (hgZ q hq)) (fun _ _ h=>h);have hQ13:QC (mk (un (un Z1 xo7) yo9) w13) (.agg #[.bool sd, .slice ad nd cd, .slice dd kd ed]) D:=QC.mono _ _ _ _ (a0T hE13 (fun q _ hq=>a0f (a0f (hgZ q hq))) (fun _ _ h=>h)) (QC.mono _ _ _ _ (a0T (Z:=un (un Z1 xo7) yo9) hE12 (fun q _ hq=>by rw[<-hZ8];exact a0r hq) (fun q hq hz=>by rw[<-hZ8];exact b4a (X:=un Z1 xo7) hor12 q hq hz)) (mkx QC.mono hQ8 hE8t));have hE3z:Ext w3 w13:=ExtX.box ((hE38.trans hE8t).own hY11 (Nat.le_refl _) hE12) hE13 hge;have hXz:HX Z1 w13:=fun q hq=>Nat.lt_of_lt_of_le (hXZ1 q hq) (Nat.le_trans hE8t.size (Nat.le_trans hE12.size hE13.size));go_wp2_with fail
      go_roundw
      case rel=>exact⟨j+1,xo7,xc7,yo9,yc9,by go_num,by omega,bg13',hX13,hY13,hQ13,hXz,hE3z⟩
      case measure=>simp[intOf];omega
   ·have hjn:j=n:=by omega
    subst hjn;rw[List.take_of_length_le (by rw[hXl.out];exact Nat.le_refl _)]at hOX;rw[List.take_of_length_le (by rw[hYl.out];exact Nat.le_refl _)]at hOY;have hXs:=hOX.sl RC.elem;have hXc:=hOX.lenCap;have hYs:=hOY.sl QC.elem;have hYc:=hOY.lenCap;rw[hXl.out]at hXc;rw[hYl.out]at hYc;have q0:=bg.cell 0 rfl;have q1:=bg.cell 1 rfl;have q2:=bg.cell 2 rfl;have q3:=bg.cell 3 rfl;have q4:=bg.cell 4 rfl;have q5:=bg.cell 5 rfl;have tr:=t3.ext0 hEr;clear bg;go_wp2_with (refine a0a a3H rfl rfl tr rfl rfl (by intro v hv;simp at hv;rcases hv with rfl|rfl|rfl|rfl|rfl|rfl<;>rfl) ?_;intro w7 r1 r2)
    have hE7:Ext w w7:=ExtX.box (hE03.trans hEr) r2 (by omega);have hl7:Le (mk (un Z1 yo2) wr) (mk X w7):=a4i r2 (fun k hk=>a0f (hb3.out k hk)) (fun k hk=>a0f (hXZ.out k hk));have hl8:Le (mk (un Z1 xo2) wr) (mk X w7):=a4i r2 (fun k hk=>a0f (hb3.out k hk)) (fun k hk=>a0f (hXZ.out k hk));have hl9:Le (mk (un (un Z1 xo2) yo2) wr) (mk X w7):=a4i r2 (fun k hk=>a0f (a0f (hb3.out k hk))) (fun k hk=>a0f (a0f (hXZ.out k hk)));refine bodyPost_ret (a0d rfl rfl a3H r1 rfl) rfl (hfin.out w7 _ _ _ _ _ _ _ _ _ _ _ hE7 ⟨_,_,by rw[hXl.out],by rw[hXl.out];exact hXc,hXs.mono RC.mono hl7⟩ ⟨_,_,by rw[hYl.out],by rw[hYl.out];exact hYc,hYs.mono QC.mono hl8⟩ (QC.mono _ _ _ _ hl9 hQ))
end Go.Proofs.YtidbbddagfnfbaaGreat
namespace Go
section
variable {P:Program} {ops:Array Oper} {Q:Exit->Act->World->Prop} {md:Region.Mode} {S:World->Prop} {n:Nat}
theorem a5X {i j l:Nat} {oi oj ol:Oper} {d:Nat} {b:Array Bool} {a:Act} {w:World} (m:Region.ready md ops b= [i,j,l]) (hi:ops[i]? =some oi) (q:ops[j]? =some oj) (t:ops[l]? =some ol)
  (p:∀c:Act->World->Prop,Shut (∀a w,S w->(S w->a1y P md ops Q S n d (b.setIfInBounds i true) a w)->c a w)->if Region.wanted oi (yielded ops a.tmps)=true then Oper.wp P oi a w c Q else c (a.put oi.dst undef) w)
  (r:∀c:Act->World->Prop,Shut (∀a w,S w->(S w->a1y P md ops Q S n d (b.setIfInBounds j true) a w)->c a w)->if Region.wanted oj (yielded ops a.tmps)=true then Oper.wp P oj a w c Q else c (a.put oj.dst undef) w)
  (s:∀c:Act->World->Prop,Shut (∀a w,S w->(S w->a1y P md ops Q S n d (b.setIfInBounds l true) a w)->c a w)->if Region.wanted ol (yielded ops a.tmps)=true then Oper.wp P ol a w c Q else c (a.put ol.dst undef) w):a1y P md ops Q S n (d+1) b a w:=by
 refine⟨fun o=>(by rw[m]at o;cases o),fun k f=>?_⟩;rw[m]at f;rcases List.mem_cons.1 f with rfl|f
 ·exact wpOp_step hi (fun c g=>p c (fun a w e h=>g a w ⟨fun _=>e,h e⟩))
 ·rcases List.mem_cons.1 f with rfl|f
  ·exact wpOp_step q (fun c g=>r c (fun a w e h=>g a w ⟨fun _=>e,h e⟩))
  ·obtain rfl:k=l:=by simpa using f
   exact wpOp_step t (fun c g=>s c (fun a w e h=>g a w ⟨fun _=>e,h e⟩))
end
end Go
namespace Go.Rep
open Go.RowKit Go.Lim
section
variable {α:Type} {R:Mem->Value->α->Prop} {sz e:Nat}
variable {P:Program} {ops:Array Oper} {Q:Exit->Act->World->Prop} {a:Act} {w:World}
theorem a0N {o:Oper} {K:Act->World->Prop} {E:Prop} {t d:Nat} {z:Value} {x y:Operand} {p l:IntKind} {m:Int} (C:o.guard=none) (j:o.op= .makeSlice t x y) (T:SliceT P t e sz d z) (v:Elem R sz) (i:α) (hz:∀h,R h z i) (X:Nat->Bool) (u:∀k,X k=true->k<w.heap.size) (base:Nat) (c:base<=w.heap.size)
  (n:Nat) (F:a.eval x= .int p m) (G:a.eval y= .int l m) (r:m=(n:Int)) (b:d*n<=281474976710656) (g:n<=9223372036854775807)
  (s:∀ao f,OL R sz X base e f ao n (List.replicate n i)->Ext w f->K (a.put o.dst (.slice ao n n)) f):
  if Region.wanted o (yielded ops a.tmps)=true then Oper.wp P o a w K Q else E:=by
 have q:Region.wanted o (yielded ops a.tmps)=true:=by simp[Region.wanted,C]
 rw[if_pos q];subst r;obtain⟨ao,f,A,B,D⟩:=OL.run_make (P:=P) T v i hz u c p l n b g;unfold Oper.wp execOp;rw[j];simp[F,G,A,Result.andThen];exact s ao f B D
end
end Go.Rep
namespace Go.Lin
def a7y (x:Mat) (y:List Rat):Bool:=a0H x&&decide (1<=x.length/\x.length<=64/\a0x x<=12/\y.length=x.length)
theorem a2R {x:Mat} {y:List Rat}:a7y x y=true↔a0H x=true/\1<=x.length/\x.length<=64/\a0x x<=12/\y.length=x.length:=by
 unfold a7y;rw[Bool.and_eq_true,decide_eq_true_eq]
theorem b4b {x:Mat} {y:List Rat} (h:¬(1<=x.length/\x.length<=64/\a0x x<=12/\y.length=x.length)):false=a7y x y:=by
 cases a:a7y x y
 ·rfl
 ·exact absurd (a2R.1 a).2 h
end Go.Lin
namespace Go.Proofs.YtidbbddagfnfbaaGreat
open Go.RowKit Go.Rep Go.Lim Go.Lin
set_option maxRecDepth 100000 in
set_option maxHeartbeats 3200000 in
theorem b0i (X:Nat->Bool) (w:World) (u v:Value) (x:Mat) (y:List Rat) (V:HX X w) (I:MV (mk X w) u x) (W:RV (mk X w) v y) (T:x.length<=1099511627776):Calls Tryz.prog 224 #[u,v] w (a8K w (a7y x y)):=by
 cases o:a0H x
 ·have f:=a5U X w u x I T o
  have i:Hid (false=a7y x y):=hid (by unfold a7y;rw[o];rfl);clear o;go_enter Tryz.func224,Tryz.ntmps224
  go_wp2_with fail
  refine f.mono ?_;rintro e m ⟨rfl,rfl⟩;clear f;go_wp2_with fail
  go_ret
  exact⟨ExtX.refl _,a0j i.out⟩
 ·have d:=a5V X w u x x.length (a0x x) V I o rfl rfl
  have g:Hid (1<=x.length/\x.length<=64/\a0x x<=12/\y.length=x.length->true=a7y x y):=hid fun h=>(a2R.2 ⟨o,h⟩).symm;have f:Hid (¬(1<=x.length/\x.length<=64/\a0x x<=12/\y.length=x.length)->false=a7y x y):=hid b4b;have l:Hid (∀h:0<x.length,x[0].length=a0x x):=hid fun h=>(a1J h).symm;obtain⟨Z,Y,rfl,N,t⟩:=I;obtain⟨va,vc,rfl,E,G⟩:=W;have F:=t.hd;obtain⟨b,R⟩:∃b,a7y x y=b:=⟨_,rfl⟩;rw[R]at g f |-;obtain⟨n,q⟩:∃n,x.length=n:=⟨_,rfl⟩;obtain⟨c,D⟩:∃c,a0x x=c:=⟨_,rfl⟩;obtain⟨k,P⟩:∃k,y.length=k:=⟨_,rfl⟩;have K:=hid q;rw[D]at l;rw[q,D,P]at g f;rw[q,D]at d;rw[q]at F T |-;rw[P]at |-;clear o R q D P G N E;by_cases Q:1<=n
  ·have M:(1:Int)<=(n:Int):=by omega
   by_cases p:n<=64
   ·have O:(n:Int)<=64:=by omega
    have S:0<x.length:=by rw[K.out];omega
    obtain⟨a1,c1,U,j,s,L⟩:=t.row 0 S;have r:=l.out S;rw[r]at j;clear r L s;by_cases z:c<=12
    ·have J:(c:Int)<=12:=by omega
     by_cases B:k=n
     ·have H:((k:Int)==(n:Int))=true:=a7q (by omega)
      have i:=hid (g.out ⟨Q,p,z,B⟩);clear p z B;go_enter Tryz.func224,Tryz.ntmps224
      go_wp2_with fail
      refine d.mono ?_;rintro e m ⟨a,C,rfl,_⟩;clear d;have A:=j.out noY m a rfl;go_wp2_with (with_reducible refine a0q a0s (by omega) (by assumption) ?_)
      go_ret
      exact⟨a,a0j i.out⟩
     ·have H:((k:Int)==(n:Int))=false:=a2w (by omega)
      have i:=hid (f.out fun h=>B h.2.2.2);clear p z B;go_enter Tryz.func224,Tryz.ntmps224
      go_wp2_with fail
      refine d.mono ?_;rintro e m ⟨a,C,rfl,_⟩;clear d;have A:=j.out noY m a rfl;go_wp2_with (with_reducible refine a0q a0s (by omega) (by assumption) ?_)
      go_ret
      exact⟨a,a0j i.out⟩
    ·have J:¬(c:Int)<=12:=by omega
     have i:=hid (f.out fun h=>z h.2.2.1);clear p z;go_enter Tryz.func224,Tryz.ntmps224
     go_wp2_with fail
     refine d.mono ?_;rintro e m ⟨a,C,rfl,_⟩;clear d;have A:=j.out noY m a rfl;go_wp2_with (with_reducible refine a0q a0s (by omega) (by assumption) ?_)
     go_ret
     exact⟨a,a0j i.out⟩
   ·have O:¬(n:Int)<=64:=by omega
    have i:=hid (f.out fun h=>p h.2.1);clear p;go_enter Tryz.func224,Tryz.ntmps224
    go_wp2_with fail
    refine d.mono ?_;rintro e m ⟨a,C,rfl,_⟩;clear d;go_wp2_with fail
    go_ret
    exact⟨a,a0j i.out⟩
  ·have M:¬(1:Int)<=(n:Int):=by omega
   have i:=hid (f.out fun h=>Q h.1);clear Q;go_enter Tryz.func224,Tryz.ntmps224
   go_wp2_with fail
   refine d.mono ?_;rintro e m ⟨a,C,rfl,_⟩;clear d;go_wp2_with fail
   go_ret
   exact⟨a,a0j i.out⟩
set_option maxRecDepth 100000 in
set_option maxHeartbeats 3200000 in
theorem b0j (X:Nat->Bool) (w:World) (u v:Value) (x:Mat) (y:List Rat) (_:HX X w) (G:MV (mk X w) u x) (U:RV (mk X w) v y) (N:x.length<=1099511627776):Calls Tryz.prog 84 #[u,v] w (a8K w (a7y x y)):=by
 cases o:a0H x
 ·have f:=a4j QV.mono X w u x G N
  rw[o]at f;have i:Hid (false=a7y x y):=hid (by unfold a7y;rw[o];rfl);clear o;go_enter Tryz.func84,Tryz.ntmps84
  go_wp2_with fail
  refine f.mono ?_;rintro e m ⟨a,rfl⟩;clear f;go_wp2_with fail
  go_ret
  exact⟨a,a0j i.out⟩
 ·have d:=a4j QV.mono X w u x G N
  rw[o]at d;have g:Hid (1<=x.length/\x.length<=64/\a0x x<=12/\y.length=x.length->true=a7y x y):=hid fun h=>(a2R.2 ⟨o,h⟩).symm;have f:Hid (¬(1<=x.length/\x.length<=64/\a0x x<=12/\y.length=x.length)->false=a7y x y):=hid b4b;have l:Hid (∀h:0<x.length,x[0].length=a0x x):=hid fun h=>(a1J h).symm;obtain⟨W,V,rfl,L,s⟩:=G;obtain⟨va,Z,rfl,C,D⟩:=U;have E:=s.hd;obtain⟨b,R⟩:∃b,a7y x y=b:=⟨_,rfl⟩;rw[R]at g f |-;obtain⟨n,A⟩:∃n,x.length=n:=⟨_,rfl⟩;obtain⟨c,P⟩:∃c,a0x x=c:=⟨_,rfl⟩;obtain⟨k,O⟩:∃k,y.length=k:=⟨_,rfl⟩;have I:=hid A;rw[P]at l;rw[A,P,O]at g f;rw[A]at d E N |-;rw[O]at |-;clear o R A P O D L C;by_cases Q:1<=n
  ·have K:(1:Int)<=(n:Int):=by omega
   by_cases p:n<=64
   ·have M:(n:Int)<=64:=by omega
    have S:0<x.length:=by rw[I.out];omega
    obtain⟨a1,Y,T,j,r,J⟩:=s.row 0 S;have q:=l.out S;rw[q]at j;clear q J r;by_cases t:c<=12
    ·have H:(c:Int)<=12:=by omega
     by_cases B:k=n
     ·have F:((k:Int)==(n:Int))=true:=a7q (by omega)
      have i:=hid (g.out ⟨Q,p,t,B⟩);clear p t B;go_enter Tryz.func84,Tryz.ntmps84
      go_wp2_with fail
      refine d.mono ?_;rintro e m ⟨a,rfl⟩;clear d;have z:=j.out noY m a rfl;go_wp2_with (with_reducible refine a0q a0s (by omega) (by assumption) ?_)
      go_ret
      exact⟨a,a0j i.out⟩
     ·have F:((k:Int)==(n:Int))=false:=a2w (by omega)
      have i:=hid (f.out fun h=>B h.2.2.2);clear p t B;go_enter Tryz.func84,Tryz.ntmps84
      go_wp2_with fail
      refine d.mono ?_;rintro e m ⟨a,rfl⟩;clear d;have z:=j.out noY m a rfl;go_wp2_with (with_reducible refine a0q a0s (by omega) (by assumption) ?_)
      go_ret
      exact⟨a,a0j i.out⟩
    ·have H:¬(c:Int)<=12:=by omega
     have i:=hid (f.out fun h=>t h.2.2.1);clear p t;go_enter Tryz.func84,Tryz.ntmps84
     go_wp2_with fail
     refine d.mono ?_;rintro e m ⟨a,rfl⟩;clear d;have z:=j.out noY m a rfl;go_wp2_with (with_reducible refine a0q a0s (by omega) (by assumption) ?_)
     go_ret
     exact⟨a,a0j i.out⟩
   ·have M:¬(n:Int)<=64:=by omega
    have i:=hid (f.out fun h=>p h.2.1);clear p;go_enter Tryz.func84,Tryz.ntmps84
    go_wp2_with fail
    refine d.mono ?_;rintro e m ⟨a,rfl⟩;clear d;go_wp2_with fail
    go_ret
    exact⟨a,a0j i.out⟩
  ·have K:¬(1:Int)<=(n:Int):=by omega
   have i:=hid (f.out fun h=>Q h.1);clear Q;go_enter Tryz.func84,Tryz.ntmps84
   go_wp2_with fail
   refine d.mono ?_;rintro e m ⟨a,rfl⟩;clear d;go_wp2_with fail
   go_ret
   exact⟨a,a0j i.out⟩
end Go.Proofs.YtidbbddagfnfbaaGreat
namespace Go.Rep
open Go.RowKit Go.Lim
theorem a0X {α:Type} {R:Mem->Value->α->Prop} {sz base:Nat} {e:TypeId} {Z:Nat->Bool} {w f:World} {ao c:Option Addr} {a:Nat} {l:List α} (j:Elem R sz) (h:OL R sz Z base e w ao a l) (i:Ext w f) (hz:∀k,ob c k=true->w.heap.size<=k):OL R sz (un Z c) base e f ao a l:=
 h.ext j i (fun k _ g=>by simp[noY]at g) fun k g b=>by
  by_cases d:Z k=true
  ·exact d
  ·have:=hz k (by simpa[un,d]using b)
   omega
end Go.Rep
namespace Go.Proofs.YtidbbddagfnfbaaGreat
open Go.RowKit Go.Rep Go.Lim Go.Lin
def c0O (X:Nat->Bool) (w:World) (m:Mom) (e:Ending) (w':World):Prop:=Ext w w'/\∃u,e= .returned (.tuple #[u, .int .i64 0])/\a6N (mk X w') u m
set_option maxRecDepth 100000 in
set_option maxHeartbeats 12800000 in
theorem b1U (X:Nat->Bool) (w:World) (u t:Value) (x:Mat) (y:List Rat) (n c B:Nat) (hX:HX X w) (hu:MV (mk X w) u x) (ht:RV (mk X w) t y) (f7:a7y x y=true) (d7:x.length=n) (b6:a0x x=c) (hn:n<=8) (hc:c<=4) (i6:BM B x) (e8:BR B y) (g9:1<=B) (J:B<=510/\n*(2*B+1)<=6540):
  Calls Tryz.prog 156 #[u,t] w (c0O X w (gmM x y c n)):=by
 obtain⟨W,hW,hE,b0,hz⟩:=a1g w #[.int .i64 0, .slice none 0 0, .slice none 0 0, .bool false, .slice none 0 0, .slice none 0 0] 173;have d8:HX (a0e X w.heap.size 1) W:=hX.boxes hz;have c5:Hid (∀L,Ext W L->Le (mk X w) (mk (a0e X w.heap.size 1) L)):=hid fun L h=>a0o (hE.trans h);obtain⟨b,hb⟩:∃b,w.heap.size=b:=⟨_,rfl⟩;rw[hb]at b0 hz d8 c5;have o7:w.heap.size<=b:=by omega
 obtain⟨I,d5⟩:∃I,a0e X b 1=I:=⟨_,rfl⟩;rw[d5]at d8 c5;obtain⟨hf,h1,k5,m2,d9⟩:=a2R.1 f7;obtain⟨b7,_,_,e3,_⟩:=a0U hf;rw[d7,b6]at b7;rw[d7]at h1 d9;have m5:=e3 (by omega);rw[b6]at m5;have c7:=b0i I W u t x y d8 (MV.mono _ _ _ _ (c5.out W (ExtX.refl _)) hu) (RV.mono _ _ _ _ (c5.out W (ExtX.refl _)) ht) (by omega);rw[f7]at c7;obtain⟨ua,uc,rfl,n0,f3⟩:=hu;obtain⟨ta,tc,rfl,l9,g7⟩:=ht;have l3:=f3.hd;have i5:=g7.hd;obtain⟨a0,c0,o1,h3,j1,n9⟩:=f3.row 0 (by omega);rw[b7.2 x[0] (List.getElem_mem _)]at h3;have c4:=hid b7;have h6:=hid d9;rw[d7]at c7 l3 n0 |-;rw[d9]at c7 i5 l9 |-;clear hf k5 m2 e3 n9 j1 f7 d7 b6 d9 b7;have hI:(0:Int)<=0/\(0:Int)<(n:Int):=by omega
 obtain⟨F,hF⟩:∃F,c0O X w (gmM x y c n)=F:=⟨_,rfl⟩;rw[hF];have j0:=hid hF;clear hF;go_enter Tryz.func156,Tryz.ntmps156
 go_wp2_with fail
 refine c7.mono ?_;rintro ee f ⟨d1,rfl⟩;have f9:=h3.out noY f (hE.trans d1) rfl;have i0:HX I f:=d8.ext d1;clear c7;go_upto_region 4 with((with_reducible refine a0q a0s (by omega) (by assumption) ?_))
 have b4:Ext f f.drew:=(ExtX.refl f).drew;have a8:HX I f.drew:=i0.ext b4;clear f9
 (try simp only[Act.put])
 go_cut [7]from 20 to 24 (fun bv wx=>∃(g:Nat) (E G:Option Addr),bv= .pointer (some ⟨g,0,none⟩)/\Bx wx g #[.int .i64 0, .slice E c c, .slice G c c, .bool false, .slice none 0 0, .slice none 0 0] 173/\OL HdR 1 (un (un I (some ⟨g,0,none⟩)) G) f.drew.heap.size 24 wx E c (List.replicate c (none,0,0))/\OL QC 3 (un (un I (some ⟨g,0,none⟩)) E) f.drew.heap.size 45 wx G c (List.replicate c 0)/\f.heap.size<=g/\g<wx.heap.size/\Ext f wx)
 case first=>
  refine a0O 6 (fun _=>True) (by kernel_rfl) (by kernel_rfl) trivial (fun p m=>?_);refine kt 0 m ?_;refine kt 2 m ?_;refine a5X (i:=1) (j:=3) (l:=5) (oi:=⟨_,_,_,_,_,_⟩) (oj:=⟨_,_,_,_,_,_⟩) (ol:=⟨_,_,_,_,_,_⟩) (by kernel_rfl) rfl rfl rfl (fun K C=>?_) (fun K C=>?_) (fun K C=>?_)
  ·skip
   (refine a0N (R:=HdR) rfl rfl a0s HdR.elem (none,0,0) (fun _=>rfl) I (a8.ext (ExtX.refl (Y:=noY) f.drew)) f.drew.heap.size (Nat.le_refl _) c rfl rfl rfl (by omega) (by omega) ?_;intro E Q H eA)
   refine C.out _ _ trivial (fun p=>?_);clear C K
   (try simp only[Act.put,List.setIfInBounds_toArray,List.set_cons_zero,List.set_cons_succ])
   have nA:∀q,ob E q=true->f.drew.heap.size<=q:=fun q hq=>(H.block hq).1;have H:=H.base_le (b':=f.drew.heap.size) ((ExtX.refl (Y:=noY) f.drew)).size;have EA:Ext f.drew Q:=(ExtX.refl (Y:=noY) f.drew).trans eA;refine a1m (i:=3) (j:=5) (oi:=⟨_,_,_,_,_,_⟩) (oj:=⟨_,_,_,_,_,_⟩) (by kernel_rfl) rfl rfl (fun K C=>?_) (fun K C=>?_)
   ·skip
    (refine a0N (R:=QC) rfl rfl a0B QC.elem (0:Rat) (fun _=>QC.zero _) (un I E) (a2X (a8.ext EA) fun q hq=>(H.block hq).2) Q.heap.size (Nat.le_refl _) c rfl rfl rfl (by omega) (by omega) ?_;intro G O J eB)
    refine C.out _ _ trivial (fun p=>?_);clear C K
    (try simp only[Act.put,List.setIfInBounds_toArray,List.set_cons_zero,List.set_cons_succ])
    have nB:∀q,ob G q=true->Q.heap.size<=q:=fun q hq=>(J.block hq).1;have J:=J.base_le (b':=f.drew.heap.size) (EA).size;have H:=a0X HdR.elem H eB nB;have EB:Ext f.drew O:=EA.trans eB;refine kt 4 m ?_;refine a0k (i:=5) (o:=⟨_,_,_,_,_,_⟩) (by kernel_rfl) rfl (fun K C=>?_);go_simp
    skip
    refine C.out _ _ trivial (fun p=>?_);clear C K
    (try simp only[Act.put,List.setIfInBounds_toArray,List.set_cons_zero,List.set_cons_succ])
    have eG:Ext O (O.alloc (.cells #[.int .i64 0, .slice none 0 0, .slice none 0 0, .bool false, .slice none 0 0, .slice none 0 0] 173)):=(ExtX.refl _).alloc _;have T:Bx (O.alloc (.cells #[.int .i64 0, .slice none 0 0, .slice none 0 0, .bool false, .slice none 0 0, .slice none 0 0] 173)) O.heap.size #[.int .i64 0, .slice none 0 0, .slice none 0 0, .bool false, .slice none 0 0, .slice none 0 0] 173:=Bx.new O _ _;have zG:(O.alloc (.cells #[.int .i64 0, .slice none 0 0, .slice none 0 0, .bool false, .slice none 0 0, .slice none 0 0] 173)).heap.size=O.heap.size+1:=by simp
    obtain⟨V,b2⟩:∃V,O.alloc (.cells #[.int .i64 0, .slice none 0 0, .slice none 0 0, .bool false, .slice none 0 0, .slice none 0 0] 173)=V:=⟨_,rfl⟩;rw[b2]at eG T zG |-;obtain⟨z,a4⟩:∃z,O.heap.size=z:=⟨_,rfl⟩;have a3:O.heap.size<=z:=by rw[<-a4];exact Nat.le_refl _
    rw[a4]at T zG |-;have D:z<V.heap.size:=by omega
    have nG:∀q,ob (some ⟨z,0,none⟩) q=true->O.heap.size<=q:=fun q hq=>(by simpa[ob]using hq:z=q)▸a3;have M:f.heap.size<=z:=Nat.le_trans (EB).size a3;have H:=a0X HdR.elem H eG nG;have J:=a0X QC.elem J eG nG;have EG:Ext f.drew V:=EB.trans eG;refine a0v (i:=6) (o:=⟨_,_,_,_,_,_⟩) (by kernel_rfl) rfl (by decide) (by kernel_rfl) (fun K C=>?_)
    (refine a0A rfl rfl a3H rfl rfl T rfl rfl (by intro v hv;simp at hv;rcases hv with rfl|rfl|rfl|rfl|rfl|rfl<;>rfl) ?_;intro w9 y1 S)
    refine C.out _ _ ?_;clear C K
    (try simp only[Act.put])
    have b1:OL HdR 1 (un (un I (some ⟨z,0,none⟩)) G) f.drew.heap.size 24 w9 E c (List.replicate c (none,0,0)):=by
     have h:=H.ext HdR.elem (Z:=un (un I G) (some ⟨z,0,none⟩)) S (fun q _ hq=>by simp[un,hq]) (fun _ _ h=>h)
     first|exact h|(rw[a0Y]at h;exact h)
    have a9:OL QC 3 (un (un I (some ⟨z,0,none⟩)) E) f.drew.heap.size 45 w9 G c (List.replicate c 0):=by
     have h:=J.ext QC.elem (Z:=un (un I E) (some ⟨z,0,none⟩)) S (fun q _ hq=>by simp[un,hq]) (fun _ _ h=>h)
     first|exact h|(rw[a0Y]at h;exact h)
    have a5:Ext f w9:=ExtX.box (b4.trans EG) S M;have P:=Nat.lt_of_lt_of_le D S.size;go_wp2_with fail
    go_meet
    case rel=>exact⟨z,E,G,rfl,y1,b1,a9,M,P,a5⟩
   ·skip
    go_simp
    skip
    refine C.out _ _ trivial (fun p=>?_);clear C K
    (try simp only[Act.put,List.setIfInBounds_toArray,List.set_cons_zero,List.set_cons_succ])
    have eG:Ext Q (Q.alloc (.cells #[.int .i64 0, .slice none 0 0, .slice none 0 0, .bool false, .slice none 0 0, .slice none 0 0] 173)):=(ExtX.refl _).alloc _;have T:Bx (Q.alloc (.cells #[.int .i64 0, .slice none 0 0, .slice none 0 0, .bool false, .slice none 0 0, .slice none 0 0] 173)) Q.heap.size #[.int .i64 0, .slice none 0 0, .slice none 0 0, .bool false, .slice none 0 0, .slice none 0 0] 173:=Bx.new Q _ _;have zG:(Q.alloc (.cells #[.int .i64 0, .slice none 0 0, .slice none 0 0, .bool false, .slice none 0 0, .slice none 0 0] 173)).heap.size=Q.heap.size+1:=by simp
    obtain⟨V,b2⟩:∃V,Q.alloc (.cells #[.int .i64 0, .slice none 0 0, .slice none 0 0, .bool false, .slice none 0 0, .slice none 0 0] 173)=V:=⟨_,rfl⟩;rw[b2]at eG T zG |-;obtain⟨z,a4⟩:∃z,Q.heap.size=z:=⟨_,rfl⟩;have a3:Q.heap.size<=z:=by rw[<-a4];exact Nat.le_refl _
    rw[a4]at T zG |-;have D:z<V.heap.size:=by omega
    have nG:∀q,ob (some ⟨z,0,none⟩) q=true->Q.heap.size<=q:=fun q hq=>(by simpa[ob]using hq:z=q)▸a3;have M:f.heap.size<=z:=Nat.le_trans (EA).size a3;have H:=a0X HdR.elem H eG nG;have EG:Ext f.drew V:=EA.trans eG;refine a0k (i:=3) (o:=⟨_,_,_,_,_,_⟩) (by kernel_rfl) rfl (fun K C=>?_)
    (refine a0N (R:=QC) rfl rfl a0B QC.elem (0:Rat) (fun _=>QC.zero _) (un (un I E) (some ⟨z,0,none⟩)) (a1e (a2X (a8.ext EG) fun q hq=>(H.block hq).2) D) V.heap.size (Nat.le_refl _) c rfl rfl rfl (by omega) (by omega) ?_;intro G O J eB)
    refine C.out _ _ trivial (fun p=>?_);clear C K
    (try simp only[Act.put,List.setIfInBounds_toArray,List.set_cons_zero,List.set_cons_succ])
    have nB:∀q,ob G q=true->V.heap.size<=q:=fun q hq=>(J.block hq).1;have J:=J.base_le (b':=f.drew.heap.size) (EG).size;have H:=a0X HdR.elem H eB nB;have T:=T.ext0 eB;have D:=Nat.lt_of_lt_of_le D eB.size;have EB:Ext f.drew O:=EG.trans eB;refine kt 4 m ?_;refine a0v (i:=6) (o:=⟨_,_,_,_,_,_⟩) (by kernel_rfl) rfl (by decide) (by kernel_rfl) (fun K C=>?_)
    (refine a0A rfl rfl a3H rfl rfl T rfl rfl (by intro v hv;simp at hv;rcases hv with rfl|rfl|rfl|rfl|rfl|rfl<;>rfl) ?_;intro w9 y1 S)
    refine C.out _ _ ?_;clear C K
    (try simp only[Act.put])
    have b1:OL HdR 1 (un (un I (some ⟨z,0,none⟩)) G) f.drew.heap.size 24 w9 E c (List.replicate c (none,0,0)):=by
     have h:=H.ext HdR.elem (Z:=un (un I (some ⟨z,0,none⟩)) G) S (fun q _ hq=>by simp[un,hq]) (fun _ _ h=>h)
     first|exact h|(rw[a0Y]at h;exact h)
    have a9:OL QC 3 (un (un I (some ⟨z,0,none⟩)) E) f.drew.heap.size 45 w9 G c (List.replicate c 0):=by
     have h:=J.ext QC.elem (Z:=un (un I E) (some ⟨z,0,none⟩)) S (fun q _ hq=>by simp[un,hq]) (fun _ _ h=>h)
     first|exact h|(rw[a0Y]at h;exact h)
    have a5:Ext f w9:=ExtX.box (b4.trans EB) S M;have P:=Nat.lt_of_lt_of_le D S.size;go_wp2_with fail
    go_meet
    case rel=>exact⟨z,E,G,rfl,y1,b1,a9,M,P,a5⟩
  ·skip
   (refine a0N (R:=QC) rfl rfl a0B QC.elem (0:Rat) (fun _=>QC.zero _) I (a8.ext (ExtX.refl (Y:=noY) f.drew)) f.drew.heap.size (Nat.le_refl _) c rfl rfl rfl (by omega) (by omega) ?_;intro G O J eB)
   refine C.out _ _ trivial (fun p=>?_);clear C K
   (try simp only[Act.put,List.setIfInBounds_toArray,List.set_cons_zero,List.set_cons_succ])
   have nB:∀q,ob G q=true->f.drew.heap.size<=q:=fun q hq=>(J.block hq).1;have J:=J.base_le (b':=f.drew.heap.size) ((ExtX.refl (Y:=noY) f.drew)).size;have EB:Ext f.drew O:=(ExtX.refl (Y:=noY) f.drew).trans eB;refine a1m (i:=1) (j:=5) (oi:=⟨_,_,_,_,_,_⟩) (oj:=⟨_,_,_,_,_,_⟩) (by kernel_rfl) rfl rfl (fun K C=>?_) (fun K C=>?_)
   ·skip
    (refine a0N (R:=HdR) rfl rfl a0s HdR.elem (none,0,0) (fun _=>rfl) (un I G) (a2X (a8.ext EB) fun q hq=>(J.block hq).2) O.heap.size (Nat.le_refl _) c rfl rfl rfl (by omega) (by omega) ?_;intro E Q H eA)
    refine C.out _ _ trivial (fun p=>?_);clear C K
    (try simp only[Act.put,List.setIfInBounds_toArray,List.set_cons_zero,List.set_cons_succ])
    have nA:∀q,ob E q=true->O.heap.size<=q:=fun q hq=>(H.block hq).1;have H:=H.base_le (b':=f.drew.heap.size) (EB).size;have J:=a0X QC.elem J eA nA;have EA:Ext f.drew Q:=EB.trans eA;refine kt 4 m ?_;refine a0k (i:=5) (o:=⟨_,_,_,_,_,_⟩) (by kernel_rfl) rfl (fun K C=>?_);go_simp
    skip
    refine C.out _ _ trivial (fun p=>?_);clear C K
    (try simp only[Act.put,List.setIfInBounds_toArray,List.set_cons_zero,List.set_cons_succ])
    have eG:Ext Q (Q.alloc (.cells #[.int .i64 0, .slice none 0 0, .slice none 0 0, .bool false, .slice none 0 0, .slice none 0 0] 173)):=(ExtX.refl _).alloc _;have T:Bx (Q.alloc (.cells #[.int .i64 0, .slice none 0 0, .slice none 0 0, .bool false, .slice none 0 0, .slice none 0 0] 173)) Q.heap.size #[.int .i64 0, .slice none 0 0, .slice none 0 0, .bool false, .slice none 0 0, .slice none 0 0] 173:=Bx.new Q _ _;have zG:(Q.alloc (.cells #[.int .i64 0, .slice none 0 0, .slice none 0 0, .bool false, .slice none 0 0, .slice none 0 0] 173)).heap.size=Q.heap.size+1:=by simp
    obtain⟨V,b2⟩:∃V,Q.alloc (.cells #[.int .i64 0, .slice none 0 0, .slice none 0 0, .bool false, .slice none 0 0, .slice none 0 0] 173)=V:=⟨_,rfl⟩;rw[b2]at eG T zG |-;obtain⟨z,a4⟩:∃z,Q.heap.size=z:=⟨_,rfl⟩;have a3:Q.heap.size<=z:=by rw[<-a4];exact Nat.le_refl _
    rw[a4]at T zG |-;have D:z<V.heap.size:=by omega
    have nG:∀q,ob (some ⟨z,0,none⟩) q=true->Q.heap.size<=q:=fun q hq=>(by simpa[ob]using hq:z=q)▸a3;have M:f.heap.size<=z:=Nat.le_trans (EA).size a3;have J:=a0X QC.elem J eG nG;have H:=a0X HdR.elem H eG nG;have EG:Ext f.drew V:=EA.trans eG;refine a0v (i:=6) (o:=⟨_,_,_,_,_,_⟩) (by kernel_rfl) rfl (by decide) (by kernel_rfl) (fun K C=>?_)
    (refine a0A rfl rfl a3H rfl rfl T rfl rfl (by intro v hv;simp at hv;rcases hv with rfl|rfl|rfl|rfl|rfl|rfl<;>rfl) ?_;intro w9 y1 S)
    refine C.out _ _ ?_;clear C K
    (try simp only[Act.put])
    have b1:OL HdR 1 (un (un I (some ⟨z,0,none⟩)) G) f.drew.heap.size 24 w9 E c (List.replicate c (none,0,0)):=by
     have h:=H.ext HdR.elem (Z:=un (un I G) (some ⟨z,0,none⟩)) S (fun q _ hq=>by simp[un,hq]) (fun _ _ h=>h)
     first|exact h|(rw[a0Y]at h;exact h)
    have a9:OL QC 3 (un (un I (some ⟨z,0,none⟩)) E) f.drew.heap.size 45 w9 G c (List.replicate c 0):=by
     have h:=J.ext QC.elem (Z:=un (un I E) (some ⟨z,0,none⟩)) S (fun q _ hq=>by simp[un,hq]) (fun _ _ h=>h)
     first|exact h|(rw[a0Y]at h;exact h)
    have a5:Ext f w9:=ExtX.box (b4.trans EG) S M;have P:=Nat.lt_of_lt_of_le D S.size;go_wp2_with fail
    go_meet
    case rel=>exact⟨z,E,G,rfl,y1,b1,a9,M,P,a5⟩
   ·skip
    go_simp
    skip
    refine C.out _ _ trivial (fun p=>?_);clear C K
    (try simp only[Act.put,List.setIfInBounds_toArray,List.set_cons_zero,List.set_cons_succ])
    have eG:Ext O (O.alloc (.cells #[.int .i64 0, .slice none 0 0, .slice none 0 0, .bool false, .slice none 0 0, .slice none 0 0] 173)):=(ExtX.refl _).alloc _;have T:Bx (O.alloc (.cells #[.int .i64 0, .slice none 0 0, .slice none 0 0, .bool false, .slice none 0 0, .slice none 0 0] 173)) O.heap.size #[.int .i64 0, .slice none 0 0, .slice none 0 0, .bool false, .slice none 0 0, .slice none 0 0] 173:=Bx.new O _ _;have zG:(O.alloc (.cells #[.int .i64 0, .slice none 0 0, .slice none 0 0, .bool false, .slice none 0 0, .slice none 0 0] 173)).heap.size=O.heap.size+1:=by simp
    obtain⟨V,b2⟩:∃V,O.alloc (.cells #[.int .i64 0, .slice none 0 0, .slice none 0 0, .bool false, .slice none 0 0, .slice none 0 0] 173)=V:=⟨_,rfl⟩;rw[b2]at eG T zG |-;obtain⟨z,a4⟩:∃z,O.heap.size=z:=⟨_,rfl⟩;have a3:O.heap.size<=z:=by rw[<-a4];exact Nat.le_refl _
    rw[a4]at T zG |-;have D:z<V.heap.size:=by omega
    have nG:∀q,ob (some ⟨z,0,none⟩) q=true->O.heap.size<=q:=fun q hq=>(by simpa[ob]using hq:z=q)▸a3;have M:f.heap.size<=z:=Nat.le_trans (EB).size a3;have J:=a0X QC.elem J eG nG;have EG:Ext f.drew V:=EB.trans eG;refine a0k (i:=1) (o:=⟨_,_,_,_,_,_⟩) (by kernel_rfl) rfl (fun K C=>?_)
    (refine a0N (R:=HdR) rfl rfl a0s HdR.elem (none,0,0) (fun _=>rfl) (un (un I G) (some ⟨z,0,none⟩)) (a1e (a2X (a8.ext EG) fun q hq=>(J.block hq).2) D) V.heap.size (Nat.le_refl _) c rfl rfl rfl (by omega) (by omega) ?_;intro E Q H eA)
    refine C.out _ _ trivial (fun p=>?_);clear C K
    (try simp only[Act.put,List.setIfInBounds_toArray,List.set_cons_zero,List.set_cons_succ])
    have nA:∀q,ob E q=true->V.heap.size<=q:=fun q hq=>(H.block hq).1;have H:=H.base_le (b':=f.drew.heap.size) (EG).size;have J:=a0X QC.elem J eA nA;have T:=T.ext0 eA;have D:=Nat.lt_of_lt_of_le D eA.size;have EA:Ext f.drew Q:=EG.trans eA;refine kt 4 m ?_;refine a0v (i:=6) (o:=⟨_,_,_,_,_,_⟩) (by kernel_rfl) rfl (by decide) (by kernel_rfl) (fun K C=>?_)
    (refine a0A rfl rfl a3H rfl rfl T rfl rfl (by intro v hv;simp at hv;rcases hv with rfl|rfl|rfl|rfl|rfl|rfl<;>rfl) ?_;intro w9 y1 S)
    refine C.out _ _ ?_;clear C K
    (try simp only[Act.put])
    have b1:OL HdR 1 (un (un I (some ⟨z,0,none⟩)) G) f.drew.heap.size 24 w9 E c (List.replicate c (none,0,0)):=by
     have h:=H.ext HdR.elem (Z:=un (un I G) (some ⟨z,0,none⟩)) S (fun q _ hq=>by simp[un,hq]) (fun _ _ h=>h)
     first|exact h|(rw[a0Y]at h;exact h)
    have a9:OL QC 3 (un (un I (some ⟨z,0,none⟩)) E) f.drew.heap.size 45 w9 G c (List.replicate c 0):=by
     have h:=J.ext QC.elem (Z:=un (un I (some ⟨z,0,none⟩)) E) S (fun q _ hq=>by simp[un,hq]) (fun _ _ h=>h)
     first|exact h|(rw[a0Y]at h;exact h)
    have a5:Ext f w9:=ExtX.box (b4.trans EA) S M;have P:=Nat.lt_of_lt_of_le D S.size;go_wp2_with fail
    go_meet
    case rel=>exact⟨z,E,G,rfl,y1,b1,a9,M,P,a5⟩
  ·skip
   go_simp
   skip
   refine C.out _ _ trivial (fun p=>?_);clear C K
   (try simp only[Act.put,List.setIfInBounds_toArray,List.set_cons_zero,List.set_cons_succ])
   have eG:Ext f.drew (f.alloc (.cells #[.int .i64 0, .slice none 0 0, .slice none 0 0, .bool false, .slice none 0 0, .slice none 0 0] 173)).drew:=⟨rfl,rfl,rfl,((ExtX.refl (Y:=noY) f).alloc _).size,((ExtX.refl (Y:=noY) f).alloc _).block⟩;have T:Bx (f.alloc (.cells #[.int .i64 0, .slice none 0 0, .slice none 0 0, .bool false, .slice none 0 0, .slice none 0 0] 173)).drew f.heap.size #[.int .i64 0, .slice none 0 0, .slice none 0 0, .bool false, .slice none 0 0, .slice none 0 0] 173:=Bx.new f _ _;have zG:(f.alloc (.cells #[.int .i64 0, .slice none 0 0, .slice none 0 0, .bool false, .slice none 0 0, .slice none 0 0] 173)).drew.heap.size=f.heap.size+1:=by show(f.alloc _).heap.size=_;simp
   obtain⟨V,b2⟩:∃V,(f.alloc (.cells #[.int .i64 0, .slice none 0 0, .slice none 0 0, .bool false, .slice none 0 0, .slice none 0 0] 173)).drew=V:=⟨_,rfl⟩;rw[b2]at eG T zG |-;obtain⟨z,a4⟩:∃z,f.heap.size=z:=⟨_,rfl⟩;have a3:f.drew.heap.size<=z:=by rw[<-a4];exact Nat.le_refl _
   rw[a4]at T zG |-;have D:z<V.heap.size:=by omega
   have nG:∀q,ob (some ⟨z,0,none⟩) q=true->f.drew.heap.size<=q:=fun q hq=>(by simpa[ob]using hq:z=q)▸a3;have M:f.heap.size<=z:=Nat.le_trans ((ExtX.refl (Y:=noY) f.drew)).size a3;have EG:Ext f.drew V:=(ExtX.refl (Y:=noY) f.drew).trans eG;refine a1m (i:=1) (j:=3) (oi:=⟨_,_,_,_,_,_⟩) (oj:=⟨_,_,_,_,_,_⟩) (by kernel_rfl) rfl rfl (fun K C=>?_) (fun K C=>?_)
   ·skip
    (refine a0N (R:=HdR) rfl rfl a0s HdR.elem (none,0,0) (fun _=>rfl) (un I (some ⟨z,0,none⟩)) (a1e (a8.ext EG) D) V.heap.size (Nat.le_refl _) c rfl rfl rfl (by omega) (by omega) ?_;intro E Q H eA)
    refine C.out _ _ trivial (fun p=>?_);clear C K
    (try simp only[Act.put,List.setIfInBounds_toArray,List.set_cons_zero,List.set_cons_succ])
    have nA:∀q,ob E q=true->V.heap.size<=q:=fun q hq=>(H.block hq).1;have H:=H.base_le (b':=f.drew.heap.size) (EG).size;have T:=T.ext0 eA;have D:=Nat.lt_of_lt_of_le D eA.size;have EA:Ext f.drew Q:=EG.trans eA;refine a0k (i:=3) (o:=⟨_,_,_,_,_,_⟩) (by kernel_rfl) rfl (fun K C=>?_)
    (refine a0N (R:=QC) rfl rfl a0B QC.elem (0:Rat) (fun _=>QC.zero _) (un (un I (some ⟨z,0,none⟩)) E) (a2X (a1e (a8.ext EA) D) fun q hq=>(H.block hq).2) Q.heap.size (Nat.le_refl _) c rfl rfl rfl (by omega) (by omega) ?_;intro G O J eB)
    refine C.out _ _ trivial (fun p=>?_);clear C K
    (try simp only[Act.put,List.setIfInBounds_toArray,List.set_cons_zero,List.set_cons_succ])
    have nB:∀q,ob G q=true->Q.heap.size<=q:=fun q hq=>(J.block hq).1;have J:=J.base_le (b':=f.drew.heap.size) (EA).size;have T:=T.ext0 eB;have D:=Nat.lt_of_lt_of_le D eB.size;have H:=a0X HdR.elem H eB nB;have EB:Ext f.drew O:=EA.trans eB;refine kt 4 m ?_;refine a0v (i:=6) (o:=⟨_,_,_,_,_,_⟩) (by kernel_rfl) rfl (by decide) (by kernel_rfl) (fun K C=>?_)
    (refine a0A rfl rfl a3H rfl rfl T rfl rfl (by intro v hv;simp at hv;rcases hv with rfl|rfl|rfl|rfl|rfl|rfl<;>rfl) ?_;intro w9 y1 S)
    refine C.out _ _ ?_;clear C K
    (try simp only[Act.put])
    have b1:OL HdR 1 (un (un I (some ⟨z,0,none⟩)) G) f.drew.heap.size 24 w9 E c (List.replicate c (none,0,0)):=by
     have h:=H.ext HdR.elem (Z:=un (un I (some ⟨z,0,none⟩)) G) S (fun q _ hq=>by simp[un,hq]) (fun _ _ h=>h)
     first|exact h|(rw[a0Y]at h;exact h)
    have a9:OL QC 3 (un (un I (some ⟨z,0,none⟩)) E) f.drew.heap.size 45 w9 G c (List.replicate c 0):=by
     have h:=J.ext QC.elem (Z:=un (un I (some ⟨z,0,none⟩)) E) S (fun q _ hq=>by simp[un,hq]) (fun _ _ h=>h)
     first|exact h|(rw[a0Y]at h;exact h)
    have a5:Ext f w9:=ExtX.box (b4.trans EB) S M;have P:=Nat.lt_of_lt_of_le D S.size;go_wp2_with fail
    go_meet
    case rel=>exact⟨z,E,G,rfl,y1,b1,a9,M,P,a5⟩
   ·skip
    (refine a0N (R:=QC) rfl rfl a0B QC.elem (0:Rat) (fun _=>QC.zero _) (un I (some ⟨z,0,none⟩)) (a1e (a8.ext EG) D) V.heap.size (Nat.le_refl _) c rfl rfl rfl (by omega) (by omega) ?_;intro G O J eB)
    refine C.out _ _ trivial (fun p=>?_);clear C K
    (try simp only[Act.put,List.setIfInBounds_toArray,List.set_cons_zero,List.set_cons_succ])
    have nB:∀q,ob G q=true->V.heap.size<=q:=fun q hq=>(J.block hq).1;have J:=J.base_le (b':=f.drew.heap.size) (EG).size;have T:=T.ext0 eB;have D:=Nat.lt_of_lt_of_le D eB.size;have EB:Ext f.drew O:=EG.trans eB;refine a0k (i:=1) (o:=⟨_,_,_,_,_,_⟩) (by kernel_rfl) rfl (fun K C=>?_)
    (refine a0N (R:=HdR) rfl rfl a0s HdR.elem (none,0,0) (fun _=>rfl) (un (un I (some ⟨z,0,none⟩)) G) (a2X (a1e (a8.ext EB) D) fun q hq=>(J.block hq).2) O.heap.size (Nat.le_refl _) c rfl rfl rfl (by omega) (by omega) ?_;intro E Q H eA)
    refine C.out _ _ trivial (fun p=>?_);clear C K
    (try simp only[Act.put,List.setIfInBounds_toArray,List.set_cons_zero,List.set_cons_succ])
    have nA:∀q,ob E q=true->O.heap.size<=q:=fun q hq=>(H.block hq).1;have H:=H.base_le (b':=f.drew.heap.size) (EB).size;have T:=T.ext0 eA;have D:=Nat.lt_of_lt_of_le D eA.size;have J:=a0X QC.elem J eA nA;have EA:Ext f.drew Q:=EB.trans eA;refine kt 4 m ?_;refine a0v (i:=6) (o:=⟨_,_,_,_,_,_⟩) (by kernel_rfl) rfl (by decide) (by kernel_rfl) (fun K C=>?_)
    (refine a0A rfl rfl a3H rfl rfl T rfl rfl (by intro v hv;simp at hv;rcases hv with rfl|rfl|rfl|rfl|rfl|rfl<;>rfl) ?_;intro w9 y1 S)
    refine C.out _ _ ?_;clear C K
    (try simp only[Act.put])
    have b1:OL HdR 1 (un (un I (some ⟨z,0,none⟩)) G) f.drew.heap.size 24 w9 E c (List.replicate c (none,0,0)):=by
     have h:=H.ext HdR.elem (Z:=un (un I (some ⟨z,0,none⟩)) G) S (fun q _ hq=>by simp[un,hq]) (fun _ _ h=>h)
     first|exact h|(rw[a0Y]at h;exact h)
    have a9:OL QC 3 (un (un I (some ⟨z,0,none⟩)) E) f.drew.heap.size 45 w9 G c (List.replicate c 0):=by
     have h:=J.ext QC.elem (Z:=un (un I (some ⟨z,0,none⟩)) E) S (fun q _ hq=>by simp[un,hq]) (fun _ _ h=>h)
     first|exact h|(rw[a0Y]at h;exact h)
    have a5:Ext f w9:=ExtX.box (b4.trans EA) S M;have P:=Nat.lt_of_lt_of_le D S.size;go_wp2_with fail
    go_meet
    case rel=>exact⟨z,E,G,rfl,y1,b1,a9,M,P,a5⟩
 case rest=>
  obtain⟨g,E,G,rfl,bg,H,b8,M,o3,g4⟩:=hcut;obtain⟨Z1,b5⟩:∃Z1,un I (some ⟨g,0,none⟩)=Z1:=⟨_,rfl⟩;rw[b5]at H b8;have g8:∀k,ob (some ⟨g,0,none⟩) k=true->Z1 k=true:=fun k hk=>by rw[<-b5];exact a0r hk
  have h8:Z1 g=true:=g8 g (by simp[ob]);have i9:Hid (∀k,k<f.heap.size->Z1 k=true->I k=true):=hid fun k hk h=>by
   rw[<-b5]at h;by_cases h0:I k=true
   ·exact h0
   ·have:g=k:=by simpa[un,h0,ob]using h
    omega
  have m1:Hid (∀k,X k=true->Z1 k=true):=hid fun k hk=>by
   rw[<-b5,<-d5];exact a0f (by simp[a0e,hk])
  have o0:Hid (∀k,ob (some ⟨b,0,none⟩) k=true->Z1 k=true):=hid fun k hk=>by
   have o4:b=k:=by simpa[ob]using hk
   rw[<-b5,<-d5];exact a0f (a2L (by omega) (by omega))
  have e4:HX Z1 wc:=fun k hk=>by
   rw[<-b5]at hk;by_cases h0:I k=true
   ·exact i0.ext g4 k h0
   ·have:g=k:=by simpa[un,h0,ob]using hk
    omega
  have d4:=MO.start H 45;have l4:Hd E c:=by have:=H.hd;rwa[List.length_replicate]at this
  have h0:List.replicate c ([]:List Rat)=(List.range c).map fun q=>if q<0 then List.replicate c 0 else[]:=(a8O c _ _).symm
  rw[h0]at d4;have l0:ob E g=false:=by
   cases hq:ob E g
   ·rfl
   ·have:=(a1j (H.1 g hq)).1;rw[h8]at this;cases this
  have o5:ob G g=false:=by
   cases hq:ob G g
   ·rfl
   ·have:=(a1j (b8.1 g hq)).1;rw[h8]at this;cases this
  have l1:HX (un Z1 G) wc:=a2X e4 fun q hq=>(b8.block hq).2;have j7:Hid (∀L cs,Ext w L->a6N (mk X L) (.agg cs) (gmM x y c n)->F (.returned (.tuple #[.agg cs, .int .i64 0])) L):=hid fun L cs h1 h2=>by
   rw[<-j0.out];exact⟨h1,_,rfl,h2⟩
  have i7:Ext w f:=hE.trans d1;have d0:f.drew.heap.size=f.heap.size:=rfl;rw[d0]at d4 b8 H;have g6:Hid (∀wr,Ext f wr->Le (mk X w) (mk Z1 wr)):=hid fun wr h=>by
   have h2:=b6l (Z:=Z1) (h) (X:=I) fun k hk hz=>i9.out k hk hz;exact fun A U hh=>h2 A U (c5.out f d1 A U hh)
  clear h0 H j0 b5 d5 a8 b4 d0;have g1:=bg.cell 1 rfl;go_wp2_with fail
  go_loopw [28] (fun k wr=>∃(i:Nat) (hs:List Hdr),k= .int .i64 i/\i<=c/\Hid (∀q (hq:q<hs.length),i<=q->hs[q].1=none)/\MO (un Z1 G) f.heap.size 24 45 wr E c hs ((List.range c).map fun q=>if q<i then List.replicate c 0 else[])/\ExtX (ob E) wc wr/\Ext f wr) (fun k _=>c - (intOf k).toNat)
  case atStart=>exact⟨0,_,rfl,Nat.zero_le _,hid (fun q hq _=>by simp),d4,ExtX.refl _,g4⟩
  case round=>
   clear g1;obtain⟨i,hs,rfl,hi,e7,hM,b9,b3⟩:=hrel;have n1:HX (un Z1 G) wr:=l1.ext b9;have h9:=hid hM.len;have l6:Hid (((List.range c).map fun q=>if q<i then List.replicate c (0:Rat)else[]).length=c):=hid (by simp);have a7:=bg.ext b9 l0;by_cases i4:i<c
   ·have e1:i<hs.length:=by rw[h9.out,l6.out];exact i4
    have n2:=hid (b0V c i (List.replicate c (0:Rat)) [] i4);have m8:=e7.out i e1 (Nat.le_refl _);have a2:Ext wr wr.drew:=(ExtX.refl _).drew;have f4:=hM.ext0 a2;have j5:=n1.ext a2;have m6:=f4.hz j5;have e0:=a7.ext0 a2;have hS:Hid (∀L,Ext wr.drew L->L.cell? ⟨g,1,none⟩=some (.slice E c c)):=hid fun L h=>(e0.ext0 h).cell 1 rfl;have ix:∀W,(Instr.indexAt 23 (.slice E c c) (.int .i64 (i:Int))).run Tryz.prog W= .ok (.pointer (some (adr E i))) W:=a0z a0s E c c .i64 i l4 (by omega) rfl;go_wp2_with fail
    refine a0O 6 (fun L=>L.cell? ⟨g,1,none⟩=some (.slice E c c)) (by kernel_rfl) (by kernel_rfl) (hS.out _ (ExtX.refl _)) (fun p m=>?_);refine kt 0 m ?_;refine kt 1 m ?_;refine kt 2 m ?_;refine kt 3 m ?_;refine a0k (i:=4) (o:=⟨_,_,_,_,_,_⟩) (by kernel_rfl) rfl (fun K C=>?_)
    (refine a0N (R:=QC) rfl rfl a0B QC.elem (0:Rat) (fun _=>QC.zero _) (mz (un Z1 G) E hs) m6 wr.drew.heap.size (Nat.le_refl _) c rfl rfl rfl (by omega) (by omega) ?_;intro a1 w2 i8 c3)
    refine C.out _ _ (hS.out _ c3) (fun p=>?_);clear C K
    (try simp only[Act.put,List.setIfInBounds_toArray,List.set_cons_zero,List.set_cons_succ])
    refine kt 5 m ?_;have c1:=f4.outer.ext0 HdR.elem c3;obtain⟨_,p0,f0,_⟩:=c1.cell HdR.one i e1;refine a0v (i:=6) (o:=⟨_,_,_,_,_,_⟩) (by kernel_rfl) rfl (by decide) (by kernel_rfl) (fun K C=>?_);go_simp
    refine C.out _ _ ?_;clear C K;obtain⟨k8,f8⟩:=c1.set1 a3Y HdR.elem HdR.one i e1 (.slice a1 c c) (a1,c,c) rfl;have k0:=f4.put (l:=List.replicate c 0) e1 m8 c3 (fun k hk=>(i8.block hk).1) (i8.base_le (b3.trans a2).size) j5 f8 (by simpa using k8);rw[n2.out]at k0;have k4:Ext f _:=((b3.trans a2).trans c3).own c1 (Nat.le_refl _) f8;have k3:=(b9.trans (ExtX.of (a2.trans c3))).trans f8;have f2:Hid (∀q (hq:q<(hs.set i (a1,(List.replicate c (0:Rat)).length,c)).length),i+1<=q->(hs.set i (a1,(List.replicate c (0:Rat)).length,c))[q].1=none):=hid fun q hq o6=>by
     rw[List.getElem_set_ne (by omega)];exact e7.out q (by simpa using hq) (by omega)
    clear p0 f0;go_wp2_with fail
    go_roundw
    case rel=>exact⟨i+1,_,by go_num,by omega,f2,k0,k3,k4⟩
    case measure=>simp[intOf];omega
   ·have k9:i=c:=by omega
    subst k9;rw[a8P]at hM;have f1:=hM.mc;rw[List.length_replicate]at f1;have j9:=b8.ext QC.elem (Z:=un Z1 E) b9 (fun q _ hq=>a0r hq) (fun _ _ h=>h);have k2:=j9.sl QC.elem;have g5:a6N (mk Z1 wr) (.agg #[.int .i64 0, .slice E i i, .slice G i i, .bool false, .slice none 0 0, .slice none 0 0]) (gmM x y i 0):=by
     rw[b6j];exact⟨_,_,_,_,_,_,_,_,_,_,_,_,_,rfl,MC.mono _ _ _ _ (a1u fun k _ hk=>a0f hk) f1,⟨G,i,by simp,by simp,k2.mono QC.mono (a1u fun k _ hk=>a0f hk)⟩,QC.zero _⟩
    have c9:HX Z1 wr:=e4.ext b9;clear hM f1 j9 k2 b9;go_wp2_with fail
    go_loopw [40] (fun k wr=>∃(j:Nat) (N:Int) (c2:Option Addr) (xl xc:Nat) (c8:Option Addr) (yl yc:Nat) (s:Bool) (a:Option Addr) (n' c':Nat) (d:Option Addr) (k' e:Nat),k= .int .i64 j/\j<=n/\Bx wr g #[.int .i64 N, .slice c2 xl xc, .slice c8 yl yc, .bool s, .slice a n' c', .slice d k' e] 173/\a6N (mk Z1 wr) (.agg #[.int .i64 N, .slice c2 xl xc, .slice c8 yl yc, .bool s, .slice a n' c', .slice d k' e]) (gmM x y i j)/\HX Z1 wr/\Ext f wr) (fun k _=>n - (intOf k).toNat)
    case atStart=>exact⟨0,_,_,_,_,_,_,_,_,_,_,_,_,_,_,rfl,Nat.zero_le _,a7,g5,c9,b3⟩
    case round=>
     clear g5 c9 a7 b3 b8 d4;obtain⟨j,N,c2,xl,xc,c8,yl,yc,s,a,n',c',d,k',e,rfl,hj,a7,hm,c9,b3⟩:=hrel;have i3:=g6.out wr b3;by_cases g0:j<n
     ·have j3:j<x.length:=by rw[c4.out.1];exact g0
      have j4:j<y.length:=by rw[h6.out];exact g0
      have h7:=f3.mono RV.mono i3;have j2:=g7.mono QV.mono i3;obtain⟨rx,g2,_,b6,e2,i2⟩:=h7.row j j3;have d3:=c4.out.2 x[j] (List.getElem_mem _);rw[d3]at b6 e2;obtain⟨gy,oy,sy,py,ny,qy,dy,ky,ey,h5,o2,g3,i1⟩:=j2.rat QV.shaped j j4;have e9:=hid (b6k (y:=y) c4.out g0);rw[<-b0d j3,show y.getD j 0=y[j]by simp[List.getD_eq_getElem?_getD,j4]]at e9;have f5:=a8S i6 g9;have f6:=b9g (j:=j) J (by omega);have d2:BMo 6541 (gmM x y i j):=⟨a8h (b3Q f5 (by omega) f6),b3R f5 e8 (by omega) f6,Nat.le_trans (b3O (B:=2*B) fun r _=>Nat.le_trans (hq_mul _ _) (by have:=b9f e8 g9 r;omega)) (a5k (by omega) f6)⟩;have a2:Ext wr wr.drew:=(ExtX.refl _).drew;have j6:=c9.ext a2;have k1:RV (mk Z1 wr.drew) (.slice rx i g2) x[j]:=mkx RV.mono ⟨rx,g2,by rw[d3],by rw[d3];exact e2,i2⟩ a2;have j8:=mkx QV.mono i1 a2;have h4:=(mkx a6N.mono hm a2).mv ⟨fun r hr q hq=>Nat.le_trans (d2.1 r hr q hq) (by decide),fun q hq=>Nat.le_trans (d2.2.1 q hq) (by decide),Nat.le_trans d2.2.2 (by decide)⟩;have b7:=b1T Z1 wr.drew _ _ _ (gmM x y i j) x[j] y[j] 1 i 6541 j6 h4 k1 j8 (a2P x j i) (b0c x y j i) d3 (by omega) (by show(-1:Int)<=(j:Int);omega) (by show(j:Int)<=1099511627777;omega) (.inl rfl) d2 (fun q hq=>Nat.le_trans (i6 _ (List.getElem_mem _) q hq) (by omega)) (Nat.le_trans (e8 _ (List.getElem_mem _)) (by omega)) (by decide);rw[e9.out]at b7;have e0:=a7.ext0 a2;have f9:=b6.out noY wr (ExtX.refl _) rfl;have hS:Hid (∀L,Ext wr.drew L->L.cell? ⟨g,0,none⟩=some (.int .i64 N)/\L.cell? ⟨g,1,none⟩=some (.slice c2 xl xc)/\L.cell? ⟨g,2,none⟩=some (.slice c8 yl yc)/\L.cell? ⟨g,3,none⟩=some (.bool s)/\L.cell? ⟨g,4,none⟩=some (.slice a n' c')/\L.cell? ⟨g,5,none⟩=some (.slice d k' e)/\(L.cell? ⟨gy,oy,none⟩=some (.bool sy)/\L.cell? ⟨gy,oy+1,none⟩=some (.slice py ny qy)/\L.cell? ⟨gy,oy+2,none⟩=some (.slice dy ky ey))):=hid fun L h=>by
       have p1:=e0.ext0 h;exact⟨p1.cell 0 rfl,p1.cell 1 rfl,p1.cell 2 rfl,p1.cell 3 rfl,p1.cell 4 rfl,p1.cell 5 rfl,g3.out noY L (a2.trans h) rfl⟩
      have iy:∀W,(Instr.indexAt 24 (.slice ta n tc) (.int .i64 (j:Int))).run Tryz.prog W= .ok (.pointer (some ⟨gy,oy,none⟩)) W:=by rw[<-h5];exact a0m a0B ta n tc .i64 j i5 (by omega)
      clear b6 i2 d3 h5 g3 i1 e9 f5 d2 k1 j8 h4 hm;go_wp2_with (with_reducible refine a0q a0s (by omega) (by assumption) ?_)
      refine a0O 7 (fun L=>L.cell? ⟨g,0,none⟩=some (.int .i64 N)/\L.cell? ⟨g,1,none⟩=some (.slice c2 xl xc)/\L.cell? ⟨g,2,none⟩=some (.slice c8 yl yc)/\L.cell? ⟨g,3,none⟩=some (.bool s)/\L.cell? ⟨g,4,none⟩=some (.slice a n' c')/\L.cell? ⟨g,5,none⟩=some (.slice d k' e)/\(L.cell? ⟨gy,oy,none⟩=some (.bool sy)/\L.cell? ⟨gy,oy+1,none⟩=some (.slice py ny qy)/\L.cell? ⟨gy,oy+2,none⟩=some (.slice dy ky ey))) (by kernel_rfl) (by kernel_rfl) (hS.out _ (ExtX.refl _)) (fun p m=>?_);refine kt 0 m ?_;refine kt 1 m ?_;refine kt 2 m ?_;refine kt 3 m ?_;refine kt 4 m ?_;refine kt 5 m ?_;refine a0k (i:=6) (o:=⟨_,_,_,_,_,_⟩) (by kernel_rfl) rfl (fun K C=>?_);go_simp
      (go_at_call 225;(with_reducible refine b7.mono ?_);rintro ee w6 ⟨t1,u6,rfl,m4⟩)
      refine C.out _ _ (hS.out w6 t1) (fun p=>?_);clear C K
      (try simp only[Act.put,List.setIfInBounds_toArray,List.set_cons_zero,List.set_cons_succ])
      obtain⟨k7,l5,n7,l2,l7,m9,s6,a6,n6,c6,d6,k6,e6,rfl,m7,n4,l8⟩:=m4;have m0:=e0.ext0 t1;refine a0v (i:=7) (o:=⟨_,_,_,_,_,_⟩) (by kernel_rfl) rfl (by decide) (by kernel_rfl) (fun K C=>?_)
      (refine a0A rfl rfl a3H rfl rfl m0 rfl rfl (by intro v hv;simp at hv;rcases hv with rfl|rfl|rfl|rfl|rfl|rfl<;>rfl) ?_;intro w9 y1 S)
      refine C.out _ _ ?_;clear C K
      (try simp only[Act.put])
      have n3:a6N (mk Z1 w9) _ (gmM x y i (j+1)):=a6N.mono _ _ _ _ (a0w S g8) ⟨k7,l5,n7,l2,l7,m9,s6,a6,n6,c6,d6,k6,e6,rfl,m7,n4,l8⟩;have a5:Ext f w9:=ExtX.box (b3.trans (a2.trans t1)) S M;have n5:HX Z1 w9:=fun q hq=>Nat.lt_of_lt_of_le (c9 q hq) (Nat.le_trans (a2.trans t1).size S.size);clear f9 iy;go_wp2_with fail
      go_roundw
      case rel=>exact⟨j+1,_,_,_,_,_,_,_,_,_,_,_,_,_,_,by go_num,by omega,y1,n3,n5,a5⟩
      case measure=>simp[intOf];omega
     ·have n8:n=j:=by omega
      subst n8;have q0:=a7.cell 0 rfl;have q1:=a7.cell 1 rfl;have q2:=a7.cell 2 rfl;have q3:=a7.cell 3 rfl;have q4:=a7.cell 4 rfl;have q5:=a7.cell 5 rfl;have br:=b0.ext0 (d1.trans b3);clear a7;go_wp2_with ((with_reducible show wpList _ _ _ (⟨_, .store 173 _ _,_,_,_,_⟩::_) _ _);refine a0a a3H rfl rfl br rfl rfl (by intro v hv;simp at hv;rcases hv with rfl|rfl|rfl|rfl|rfl|rfl<;>rfl) ?_;intro w7 r1 r2)
      have m3:Ext w w7:=ExtX.box (i7.trans b3) r2 (by omega);exact bodyPost_ret (a1x rfl rfl a3H r1 rfl) rfl (j7.out w7 _ m3 (a6N.mono _ _ _ _ (a4i r2 o0.out m1.out) hm))
end Go.Proofs.YtidbbddagfnfbaaGreat
