/- reference 06: reduce. Conditions: few rows and columns, numbers of few digits. reference 06: Reduce, Rank, Det. Conditions: few rows and columns, numbers of few digits. The determinant of a small matrix: the same of both texts. Conditions: at most 3 rows, numbers of few digits. reference 03: Div, Same. Conditions: at most 2^36 digits. Least squares: moments row by row, in any order; responses that are changed. Conditions: none. Readings for least squares: lists of booleans, moments, fits. Conditions: none. Structs of more cells in boxes; masks of a fresh box. Conditions: none. exact: Less, Quotient; reference 23: Ratio. Conditions: numbers of few digits. A drawn region by an invariant over what is listed: one proof per operation, for any number of orders. Conditions: none. append to a slice without room that is not the call's own: a new block. Conditions: none. append(nil, l...): a copy in a new block. Conditions: none. The ascending lists of h of the integers from lo to lo + m - 1, in lexicographic order. Plain mathematics. Conditions: none. exact.Copy of ints, exact.Choose, ref23.Choose. Conditions: small numbers. A drawn region: one of three may come up; a make as one operation alone. Conditions: none. exact: Minus. Conditions: at most 10^6 numbers of at most 2^36 digits. -/
import Derived.Test.YtoibhmjjhgaimaaGreatMzH
import Derived.Deep.DrawnRows
import Derived.Deep.LoopGhost
import Derived.ArgAppend
import Derived.IntWalk
import Derived.BigRegion
namespace Go.Proofs.YtoibhmjjhgaimaaGreat
open Go.RowKit Go.Rep Go.Lim Go.Lin
attribute [local go_sem↓] Go.wp_at_zero Go.wp_at_succ
def b4b (X:Nat->Bool) (w:World) (S:Sr) (e:Ending) (w':World):Prop:=Ext w w'/\∃oo co po pc uf,e= .returned (.tuple #[.slice oo S.1.length co, .slice po S.2.1.length pc,uf])/\S.1.length<=co/\S.2.1.length<=pc/\Sl RC 1 (mk X w') oo S.1/\Sl (a0b .i64) 1 (mk X w') po S.2.1/\QC (mk X w') uf S.2.2
set_option maxRecDepth 100000 in
set_option maxHeartbeats 1600000 in
theorem a8w (X:Nat->Bool) (w:World) (u:Value) (m:List (List Rat)) (n c:Nat) (hX:HX X w) (hu:MV (mk X w) u m) (hsh:Shp n c m) (hc:a0L m=c) (hn:n<=900) (hcc:c<=900) (hT:a8s m c):Calls Tryz.prog 151 #[u] w (b4b X w (rN m c)):=by
 obtain⟨W,hW,hEW,b0,hz⟩:=a1m w #[.bool false, .slice none 0 0, .slice none 0 0] 32;have hX1:HX (a0f X w.heap.size 1) W:=hX.boxes hz;have hu1:MV (mk (a0f X w.heap.size 1) W) u m:=MV.mono _ _ _ _ (a0m hEW) hu;have htk:=b4T (a0f X w.heap.size 1) W u m hX1 hu1 (by rw[hsh.1];omega) (fun r hr=>by rw[hsh.2 r hr];omega);have hml:=hid hsh.1;have hsh':=hid hsh;have hn0:Hid (n=0->c=0):=hid fun h=>by
  have:m= []:=List.eq_nil_of_length_eq_zero (by rw[hml.out];exact h);rw[<-hc,this];rfl
 obtain⟨B,hB6,hBj⟩:=hT;have hBj':=hid hBj;have hB6':=hid hB6;have hunb:Hid (∀w',Le (mk (a0f X w.heap.size 1) w') (mk X w')):=hid fun w'=>a0l;have hrb:Hid (a0f X w.heap.size 1 w.heap.size=true):=hid (a3v (Nat.le_refl _) (by omega));obtain⟨X1,hX1e⟩:∃X1,a0f X w.heap.size 1=X1:=⟨_,rfl⟩;obtain⟨b,hb⟩:∃b,w.heap.size=b:=⟨_,rfl⟩;rw[hX1e]at hX1 htk hunb hrb;rw[hb]at b0 hrb;have hbW:W.heap.size=b+1:=by rw[<-hb];exact hz
 have hbw':Hid (w.heap.size=b):=hid hb;clear hu hu1 hX1e hz hb hsh hBj hB6;go_enter Tryz.func151,Tryz.ntmps151
 go_wp2_with fail
 refine htk.mono ?_;rintro e w1 ⟨hE1,oo,co,rfl,hO1⟩;have hXu1:HX (un X1 oo) w1:=hO1.unX (hX1.ext hE1);clear hW;rw[hml.out];go_wp2_with fail
 refine(a7B (un X1 oo) w1 1 hXu1 (by decide) (by decide)).mono ?_;rintro e w2 ⟨hE2,u2,rfl,hu2⟩;obtain⟨s2,a2,n2,c2,d2,k2,e2,rfl⟩:=hu2.shape;have bf:=Bx.new w2 #[.bool false, .slice none 0 0, .slice none 0 0] 32;go_wp2_with ((with_reducible show wpList _ _ _ (⟨_, .store _ _ _,_,_,_,_⟩::_) _ _);refine a0d a0s rfl rfl bf rfl rfl (a2n _ _ _ _ _ _ _) ?_;intro w3 r1 r2)
 have hE3:Ext w2 w3:=ExtX.box ((ExtX.refl w2).alloc _) r2 (Nat.le_refl _);have hO2:=hO1.ext0 RC.elem hE2;have hob2:∀k,ob oo k=true->k<w2.heap.size:=fun k hk=>(hO2.block hk).2;obtain⟨fb,hfb⟩:∃fb,w2.heap.size=fb:=⟨_,rfl⟩;obtain⟨base,hbase⟩:∃base,W.heap.size=base:=⟨_,rfl⟩;have hs1:=hE1.size;have hs2:=hE2.size;have hR0:RS X1 w b fb base 45 32 3 w3 oo co none 0 m [] 1:=by
  subst hfb hbase;refine⟨hO2.ext RC.elem hE3 (fun k _ h=>by simp[noY]at h) (fun k hk hz=>?_),OL.nil _ _ _ _ _ _,⟨s2,a2,n2,c2,d2,k2,e2,r1,QC.mono _ _ _ _ (a0N hE3 (fun k _ h=>by simp[noY]at h) fun k hk hz=>?_) hu2⟩,hX1.ext (hE1.trans (hE2.trans hE3)),b0.ext0 (hE1.trans (hE2.trans hE3)),hrb.out,?_,hEW.trans (hE1.trans (hE2.trans hE3)),?_,?_⟩
  ·by_cases h:X1 k=true
   ·exact h
   ·have h':X1 k=false:=by simpa using h
    have:w2.heap.size=k:=by simpa[un,a8r,ob,h']using hz
    omega
  ·by_cases h:un X1 oo k=true
   ·exact h
   ·have h':un X1 oo k=false:=by simpa using h
    obtain⟨h1,h2⟩:=a1p h';have e1:ob (none:Option Addr) k=false:=rfl;have e2:ob (some ⟨w2.heap.size,0,none⟩) k=(w2.heap.size==k):=rfl;have:w2.heap.size=k:=by simpa[un,a5L,a8r,h1,h2,e1,e2]using hz
    omega
  ·omega
  ·have:=hEW.size;omega
  ·have:=hEW.size;omega
 have hcap:n<=co:=by have:=hO1.lenCap;rw[hml.out]at this;exact this
 have hhO:Hd oo n:=by have:=hO1.hd;rw[hml.out]at this;exact this
 rw[hfb,hbw'.out];clear hO1 hO2 hob2 hu2 bf r1 r2 hE1 hE2 hE3 hs1 hs2 htk b0 hX1 hXu1 hEW hfb hbase hbW;go_loopg [5,7] c (fun g p k wr=>∃(j:Nat) (po:Option Addr) (pc pl:Nat) (M:Mat) (P:List Nat) (f:Rat),k= .int .i64 j/\p= .slice po pl pc/\j+g=c/\Hid (P.length=pl)/\Hid (rN m j=(M,P,f))/\RS X1 w b fb base 45 32 3 wr oo co po pc M P f)
 case atStart=>exact⟨0,none,0,0,m,[],1,rfl,rfl,by omega,hid rfl,hid rfl,hR0⟩
 case round=>
  obtain⟨j,po,pc,pl,M,P,f,rfl,rfl,hj,hpl,hst,hR⟩:=hrel;have hok:=a7Y hsh'.out j;rw[hst.out]at hok;have hM:=hid hok.shp;have hMl:Hid (M.length=n):=hid hM.out.1;have hpn:pl<=n:=by have h1:P.length<=n:=hok.ref.le;rw[hpl.out]at h1;exact h1
  have hBM:=hid (hBj'.out j (by omega));rw[hst.out]at hBM;have hcolM:a0L M=c:=b1k hM.out hn0.out;have hco:=a9p (R:=QC) (un (a8r X1 fb) po) wr (.slice oo n co) M ⟨oo,co,by rw[hMl.out],by rw[hMl.out];exact hcap,hR.rows.sl RC.elem⟩;rw[hcolM]at hco;clear hok hcolM;by_cases hlj:j<c
  ·go_wp2_with fail
   refine hco.mono ?_;rintro e w2 ⟨rfl,rfl⟩;clear hco;go_wp2_with fail
   go_loopw [9] (fun a wx=>∃(t:Nat),a= .int .i64 t/\pl<=t/\t<=n/\Hid (∀i,pl<=i->i<t->ent M i j=0)/\RS X1 w b fb base 45 32 3 wx oo co po pc M P f) (fun a _=>n - (intOf a).toNat)
   case atStart=>exact⟨pl,rfl,Nat.le_refl _,hpn,hid (fun i h1 h2=>by omega),hR⟩
   case round=>
    clear hR;obtain⟨t,rfl,htl,htn,hzz,hR⟩:=hrel;by_cases htt:t<n
    ·have htM:t<M.length:=by rw[hMl.out];exact htt
     obtain⟨a1,c1,k00,f00,hcl1,hq1⟩:=hR.row t htM;have hrl:Hid (M[t].length=c):=hid (hM.out.2 _ (List.getElem_mem _));have hjr:j<M[t].length:=by rw[hrl.out];exact hlj
     have hei:=hid (a9o htM hjr);rw[hrl.out]at k00 hcl1;have hh1:Hd a1 c:=by have:=hq1.hd;rw[hrl.out]at this;exact this
     have hxB:=hid (hBM.out.1 t j);have hZr:=hR.hz;obtain⟨g9,o9,s5,a5,n5,c5,d5,k5,e5,hg9,hX9,hc9,hu5⟩:=hq1.rat QC.shaped j hjr;rw[hei.out]at hu5;obtain⟨x,hx⟩:∃x,ent M t j=x:=⟨_,rfl⟩;rw[hx]at hei hxB hu5;have hx':=hid hx;obtain⟨k10,k11,k12⟩:=hc9.out noY wr (ExtX.refl _) rfl;have i1:∀W,(Instr.indexAt 25 (.slice oo n co) (.int .i64 (t:Int))).run Tryz.prog W= .ok (.pointer (some (adr oo t))) W:=a0I a0A oo n co .i64 t hhO (by omega) rfl;have i2:∀W,(Instr.indexAt 45 (.slice a1 c c1) (.int .i64 (j:Int))).run Tryz.prog W= .ok (.pointer (some ⟨g9,o9,none⟩)) W:=by rw[<-hg9];exact a0k a1c a1 c c1 .i64 j hh1 (by omega)
     clear hx f00 hc9 hg9 hX9;by_cases h0:x=0
     ·have hs0:(x.num.sign==(0:Int))=true:=by rw[h0];rfl
      have hzz2:Hid (∀i,pl<=i->i<t+1->ent M i j=0):=hid fun i h1 h2=>by
       by_cases e:i=t
       ·subst e;rw[hx'.out];exact h0
       ·exact hzz.out i h1 (by omega)
      clear h0;go_wp2_with fail
      refine(a9k (a5L X1 fb po oo) wr _ x hZr (hu5.qv (by have:=hxB.out;have:=hB6'.out;omega))).mono ?_;rintro e w5 ⟨hE5,rfl⟩;have hR5:=hR.ext0 hE5;clear k00 k10 k11 k12 i1 i2;go_wp2_with fail
      go_roundw
      case rel=>exact⟨t+1,by go_num,by omega,by omega,hzz2,hR5⟩
      case measure=>simp[intOf];omega
     ·have hs0:(x.num.sign==(0:Int))=false:=a2f (by intro h;exact h0 (Rat.num_eq_zero.1 (Int.sign_eq_zero_iff_zero.1 h)))
      have hx0:=hid h0;have hne:((t:Int)==(n:Int))=false:=a2f (by omega);clear h0;go_wp2_with fail
      refine(a9k (a5L X1 fb po oo) wr _ x hZr (hu5.qv (by have:=hxB.out;have:=hB6'.out;omega))).mono ?_;rintro e w5 ⟨hE5,rfl⟩;have hR5:=hR.ext0 hE5;clear k00 k10 k11 k12 i1 i2 hR hE5 hZr hq1 hu5 hh1
      go_upto_if 46 with(fail)
      have hplM:pl<M.length:=by rw[hMl.out];omega
      have hpn2:pl<n:=by omega
      have hsw:=hid (b1h htM hplM);have hpiv:Hid (rN m (j+1)=(out (pv (a0W M t pl) pl j) pl j n,P++[j],(if t - pl=0 then f else - f)*ent (a0W M t pl) pl j)):=hid (by
       have e1:pl+(t - pl)=t:=by omega
       have:=b6o hsh'.out hst.out hpl.out (a:=t - pl) (by rw[e1];exact hzz.out) (by omega) (by rw[e1,hx'.out];exact hx0.out);rw[e1]at this;exact this)
      have hM1s:=hid (hM.out.swap htt hpn2);have hB1s:=hid (hBM.out.1.swap hM.out htt hpn2);have hp1:Hid (ent (a0W M t pl) pl j≠0):=hid (by rw[a2U hM.out htt hpn2,if_pos rfl,hx'.out];exact hx0.out);have hfB:=hid hBM.out.2;clear hs0 hne hxB hx0 hei hcl1;go_cut []from 14 to 122 (fun wx=>∃f1,Hid (f1=if t - pl=0 then f else - f)/\RS X1 w b fb base 45 32 3 wx oo co po pc (a0W M t pl) P f1)
      case first=>
       by_cases htp:t=pl
       ·have hne2:((t:Int) !=(pl:Int))=false:=b2t (by omega)
        have hRs:RS X1 w b fb base 45 32 3 w5 oo co po pc (a0W M t pl) P f:=by rw[htp,a4J M pl hplM];exact hR5
        have hff:Hid (f=if t - pl=0 then f else - f):=hid (if_pos (by omega)).symm;clear htp hR5;go_wp2_with fail
        go_meet
        case rel=>exact⟨f,hff,hRs⟩
       ·have hne2:((t:Int) !=(pl:Int))=true:=a7i (by omega)
        have hff:Hid (- f=if t - pl=0 then f else - f):=hid (if_neg (by omega)).symm;obtain⟨ap,cp,y1,fy1,hclp,hqp⟩:=hR5.row pl hplM;obtain⟨ax,cx,y2,fy2,hclx,hqx⟩:=hR5.row t htM;obtain⟨hO1,hE1⟩:=hR5.rows.set1 a3R RC.elem SlV.one t htM (.slice ap M[pl].length cp) M[pl] ⟨ap,cp,rfl,hclp,hqp⟩;obtain⟨u3,k3,f3,hu3⟩:=hO1.cell SlV.one pl (by simpa using hplM);obtain⟨hO2,hE2⟩:=hO1.set1 a3R RC.elem SlV.one pl (by simpa using hplM) (.slice ax M[t].length cx) M[t] ⟨ax,cx,rfl,hclx,hqx.mono QC.mono (a0w hE1 fun k hk=>a0q hk)⟩;have hE6:=(hE1.trans hE2).drew;have hO2:=hO2.ext0 RC.elem (ExtX.refl (Y:=noY) _).drew;rw[hsw.out]at hO2;have hR6:=hR5.setRows hE6 hO2;have i1:∀W,(Instr.indexAt 25 (.slice oo n co) (.int .i64 (t:Int))).run Tryz.prog W= .ok (.pointer (some (adr oo t))) W:=a0I a0A oo n co .i64 t hhO (by omega) rfl;have i2:∀W,(Instr.indexAt 25 (.slice oo n co) (.int .i64 (pl:Int))).run Tryz.prog W= .ok (.pointer (some (adr oo pl))) W:=a0I a0A oo n co .i64 pl hhO (by omega) rfl;clear htp hu3 hO1 hO2 hE1 hE2 hR5 hqp hqx;go_wp2_with fail
        go_region
        obtain⟨w6,hw6⟩:∃w6,((w5.setCell (adr oo t) (.slice ap M[pl].length cp)).setCell (adr oo pl) (.slice ax M[t].length cx)).drew=w6:=⟨_,rfl⟩;rw[hw6]at hR6 |-;obtain⟨sf,af,nf,cf,df,kf,ef,bF,hqF⟩:=hR6.fac;have z0:=bF.cell 0 rfl;have z1:=bF.cell 1 rfl;have z2:=bF.cell 2 rfl;have hZ6:=hR6.hz;clear y1 y2 fy1 fy2 k3 f3 i1 i2 hw6 hE6;go_wp2_with fail
        refine(b4R (a5L X1 fb po oo) w6 _ f hZ6 (hqF.qv (by have:=hfB.out;have:=hB6'.out;omega))).mono ?_;rintro e w7 ⟨hE7,u7,rfl,hu7⟩;obtain⟨s7,a7,n7,c7,d7,k7,e7,rfl⟩:=hu7.shape;have bF7:=bF.ext0 hE7;have hR7:=hR6.ext0 hE7;clear z0 z1 z2 bF;go_wp2_with ((with_reducible show wpList _ _ _ (⟨_, .store _ _ _,_,_,_,_⟩::_) _ _);refine a0d a0s rfl rfl bF7 rfl rfl (a2n _ _ _ _ _ _ _) ?_;intro w8 r1 r2)
        have hR8:=hR7.setFac r2 r1 (QC.mono _ _ _ _ (a0w r2 fun k hk=>a0p (a0p (a0q hk))) hu7)
        go_meet
        case rel=>exact⟨- f,hff,hR8⟩
      case rest=>
       obtain⟨f1,hf1,hR1⟩:=hcut;rw[<-hf1.out]at hpiv;have hf1B:Hid (hq f1<=B):=hid (by rw[hf1.out];split;exact hfB.out;rw[a3P];exact hfB.out);obtain⟨w6,hw6⟩:∃w6,w6=wc:=⟨_,rfl⟩;subst hw6;obtain⟨M1,hM1e⟩:∃M1,a0W M t pl=M1:=⟨_,rfl⟩;rw[hM1e]at hpiv hM1s hB1s hp1 hR1;have hM1l:Hid (M1.length=n):=hid hM1s.out.1;have hpM1:pl<M1.length:=by rw[hM1l.out];exact hpn2
       have hrl1:Hid (M1[pl].length=c):=hid (hM1s.out.2 _ (List.getElem_mem _));have hjp:j<M1[pl].length:=by rw[hrl1.out];exact hlj
       have hei:=hid (a9o hpM1 hjp);have hxB:=hid (hB1s.out pl j);have hpe:Hid (M1.getD pl []=M1[pl]):=hid (a3y hpM1);obtain⟨y,hy⟩:∃y,ent M1 pl j=y:=⟨_,rfl⟩;have hpvd:Hid (pv M1 pl j=M1.set pl (M1[pl].map (· *(((1:Int):Rat)/y)))):=hid (by unfold pv;rw[hpe.out,hy];rfl);rw[hy]at hei hxB hp1 hpiv;have hM2s:=hid (hM1s.out.pv hpn2 j);have hB2s:=hid (hB1s.out.pv hM1s.out hpn2 j);have hrowB:Hid (BR B M1[pl]):=hid (b2R hB1s.out _ (List.getElem_mem _));have i1:∀W,(Instr.indexAt 25 (.slice oo n co) (.int .i64 (pl:Int))).run Tryz.prog W= .ok (.pointer (some (adr oo pl))) W:=a0I a0A oo n co .i64 pl hhO (by omega) rfl;have hEd:Ext w6 w6.drew:=(ExtX.refl w6).drew;clear hR5 hM1e hy hx' hsw;go_upto_region 15 with(fail)
       go_cut []from 14 to 122 (fun wx=>RS X1 w b fb base 45 32 3 wx oo co po pc M1 P (f1*y))
       case first=>
        obtain⟨ap,cp,y1,fy1,hclp,hqp⟩:=hR1.row pl hpM1;obtain⟨g,o,s5,a5,n5,c5,d5,k5,e5,hg,hXg,hcg,hqg⟩:=hqp.rat QC.shaped j hjp;obtain⟨sf,af,nf,cf,df,kf,ef,bF,hqF⟩:=hR1.fac;rw[hei.out]at hqg;rw[hrl1.out]at y1 hclp;have hhp:Hd ap c:=by have:=hqp.hd;rw[hrl1.out]at this;exact this
        have i2:∀W,(Instr.indexAt 45 (.slice ap c cp) (.int .i64 (j:Int))).run Tryz.prog W= .ok (.pointer (some ⟨g,o,none⟩)) W:=by rw[<-hg];exact a0k a1c ap c cp .i64 j hhp (by omega)
        have bFd:=bF.ext0 hEd;have z0:=bFd.cell 0 rfl;have z1:=bFd.cell 1 rfl;have z2:=bFd.cell 2 rfl;obtain⟨k0,k1,k2⟩:=hcg.out noY w6.drew hEd rfl;have y1d:w6.drew.cell? (adr oo pl)=some (.slice ap c cp):=y1;have hRd:=hR1.ext0 hEd;have hZd:=hRd.hz;have hqFv:QV (mk (a5L X1 fb po oo) w6.drew) (.agg #[.bool sf, .slice af nf cf, .slice df kf ef]) f1:=hqF.qv (by have:=hf1B.out;have:=hB6'.out;omega);have hqgv:QV (mk (a5L X1 fb po oo) w6.drew) (.agg #[.bool s5, .slice a5 n5 c5, .slice d5 k5 e5]) y:=hqg.qv (by have:=hxB.out;have:=hB6'.out;omega);clear hqp hg hcg hR1 y1 fy1 bF;go_wp2_with fail
        go_region_with ((go_at_call 77;(with_reducible refine(b2O (a5L X1 fb po oo) w6.drew _ _ f1 y hZd hqFv hqgv).mono ?_);rintro ee w7 ⟨t1,u7,rfl,hu7⟩;obtain⟨s7,a7,n7,c7,d7,k7,e7,rfl⟩:=hu7.shape;have bF7:=bFd.ext0 t1;have g0:=bF7.cell 0 rfl;have g1:=bF7.cell 1 rfl;have g2:=bF7.cell 2 rfl;have h0:=bF7.frozen 0;have h1:=bF7.frozen 1;have h2:=bF7.frozen 2))
        all_goals
         obtain⟨q1,q2⟩:=bF7.set3 (.bool s7) (.slice a7 n7 c7) (.slice d7 k7 e7);have hR8:=(hRd.ext0 t1).setFac q2 q1 (QC.mono _ _ _ _ (a0w q2 fun k hk=>a0p (a0p (a0q hk))) hu7);clear z0 z1 z2 k0 k1 k2 y1d g0 g1 g2 h0 h1 h2 i2;go_wp2_with fail
         go_meet
         case rel=>exact hR8
       case rest=>
        have hf2B:Hid (hq (f1*y)<=2*B):=hid (by have:=hq_mul f1 y;have:=hf1B.out;have:=hxB.out;omega);obtain⟨f2,hf2⟩:∃f2,f1*y=f2:=⟨_,rfl⟩;rw[hf2]at hf2B hcut hpiv;clear hR1 hEd hf2;obtain⟨w7,hw7⟩:∃w7,w7=wc:=⟨_,rfl⟩;subst hw7;have hR2:=hcut;have hEd:Ext w7 w7.drew:=(ExtX.refl w7).drew;clear hcut;go_upto_region 16 with(fail)
        go_cut []from 14 to 122 (fun wx=>RS X1 w b fb base 45 32 3 wx oo co po pc (pv M1 pl j) P f2)
        case first=>
         obtain⟨ap,cp,y1,fy1,hclp,hqp⟩:=hR2.row pl hpM1;obtain⟨g,o,s5,a5,n5,c5,d5,k5,e5,hg,hXg,hcg,hqg⟩:=hqp.rat QC.shaped j hjp;rw[hei.out]at hqg;have hhp:Hd ap c:=by have:=hqp.hd;rw[hrl1.out]at this;exact this
         have i2:∀W,(Instr.indexAt 45 (.slice ap c cp) (.int .i64 (j:Int))).run Tryz.prog W= .ok (.pointer (some ⟨g,o,none⟩)) W:=by rw[<-hg];exact a0k a1c ap c cp .i64 j hhp (by omega)
         have hrp:RV (mk (a5L X1 fb po oo) w7.drew) (.slice ap c cp) M1[pl]:=by
          rw[<-hrl1.out];exact⟨ap,cp,rfl,hclp,hqp.qv fun q hq=>Nat.le_trans (hrowB.out q hq) (by have:=hB6'.out;omega)⟩
         rw[hrl1.out]at y1 hclp;have hS:Hid (∀W',Ext w7.drew W'->W'.cell? (adr oo pl)=some (.slice ap c cp)/\W'.cell? ⟨g,o,none⟩=some (.bool s5)/\W'.cell? ⟨g,o+1,none⟩=some (.slice a5 n5 c5)/\W'.cell? ⟨g,o+2,none⟩=some (.slice d5 k5 e5)):=hid fun W' h=>by
          obtain⟨k0,k1,k2⟩:=hcg.out noY W' (hEd.trans h) rfl;exact⟨(hEd.trans h).cell y1,k0,k1,k2⟩
         obtain⟨y1d,k0,k1,k2⟩:=hS.out w7.drew (ExtX.refl _);have hRd:=hR2.ext0 hEd;have hZd:=hRd.hz;have hqgv:QV (mk (a5L X1 fb po oo) w7.drew) (.agg #[.bool s5, .slice a5 n5 c5, .slice d5 k5 e5]) y:=hqg.qv (by have:=hxB.out;have:=hB6'.out;omega);have h1q:Hid (hq (((1:Int):Rat))<=68719476736):=hid (by decide+kernel);have hqb:Hid (hq (((1:Int):Rat)/y)<=68719476736):=hid (by have h3:=hq_div ((1:Int):Rat) y;have h4:hq (((1:Int):Rat))=1:=(by decide+kernel);have:=hxB.out;have:=hB6'.out;have:=a6h y;omega);have hrl3:Hid (M1[pl].length<=1000000):=hid (by rw[hrl1.out];omega);clear hqp hg hcg hR2 y1 fy1;go_wp2_with fail
         refine a0P 17 (fun w'=>w'.cell? (adr oo pl)=some (.slice ap c cp)/\w'.cell? ⟨g,o,none⟩=some (.bool s5)/\w'.cell? ⟨g,o+1,none⟩=some (.slice a5 n5 c5)/\w'.cell? ⟨g,o+2,none⟩=some (.slice d5 k5 e5)) (by kernel_rfl) (by kernel_rfl) (hS.out _ (ExtX.refl _)) (fun hHeld hOnce=>?_);clear y1d k0 k1 k2;refine a0a hOnce (i:=0) (oi:=⟨_,_,_,_,_,_⟩) (v:=?_) rfl (by kernel_rfl) (fun _ _ _ h=>h) (by assumption) (by rfl) (fun w hSw=>?_) ?_
         rotate_left
         ·(try dsimp only at hSw)
          go_simp
          all_goals with_reducible rfl
         (try simp only[Act.put,List.setIfInBounds_toArray,List.set_cons_zero,List.set_cons_succ])
         refine a0a hOnce (i:=1) (oi:=⟨_,_,_,_,_,_⟩) (v:=?_) rfl (by kernel_rfl) (fun _ _ _ h=>h) (by assumption) (by rfl) (fun w hSw=>?_) ?_
         rotate_left
         ·(try dsimp only at hSw)
          go_simp
          all_goals with_reducible rfl
         (try simp only[Act.put,List.setIfInBounds_toArray,List.set_cons_zero,List.set_cons_succ])
         refine a0a hOnce (i:=2) (oi:=⟨_,_,_,_,_,_⟩) (v:=?_) rfl (by kernel_rfl) (fun _ _ _ h=>h) (by assumption) (by rfl) (fun w hSw=>?_) ?_
         rotate_left
         ·(try dsimp only at hSw)
          go_simp
          all_goals with_reducible rfl
         (try simp only[Act.put,List.setIfInBounds_toArray,List.set_cons_zero,List.set_cons_succ])
         refine a0a hOnce (i:=3) (oi:=⟨_,_,_,_,_,_⟩) (v:=?_) rfl (by kernel_rfl) (fun _ _ _ h=>h) (by assumption) (by rfl) (fun w hSw=>?_) ?_
         rotate_left
         ·(try dsimp only at hSw)
          go_simp
          all_goals with_reducible rfl
         (try simp only[Act.put,List.setIfInBounds_toArray,List.set_cons_zero,List.set_cons_succ])
         refine a0a hOnce (i:=4) (oi:=⟨_,_,_,_,_,_⟩) (v:=?_) rfl (by kernel_rfl) (fun _ _ _ h=>h) (by assumption) (by rfl) (fun w hSw=>?_) ?_
         rotate_left
         ·(try dsimp only at hSw)
          go_simp
          all_goals with_reducible rfl
         (try simp only[Act.put,List.setIfInBounds_toArray,List.set_cons_zero,List.set_cons_succ])
         refine a0a hOnce (i:=5) (oi:=⟨_,_,_,_,_,_⟩) (v:=?_) rfl (by kernel_rfl) (fun _ _ _ h=>h) (by assumption) (by rfl) (fun w hSw=>?_) ?_
         rotate_left
         ·(try dsimp only at hSw)
          go_simp
          all_goals with_reducible rfl
         (try simp only[Act.put,List.setIfInBounds_toArray,List.set_cons_zero,List.set_cons_succ])
         refine a0a hOnce (i:=7) (oi:=⟨_,_,_,_,_,_⟩) (v:=?_) rfl (by kernel_rfl) (fun _ _ _ h=>h) (by assumption) (by rfl) (fun w hSw=>?_) ?_
         rotate_left
         ·(try dsimp only at hSw)
          go_simp
          all_goals with_reducible rfl
         (try simp only[Act.put,List.setIfInBounds_toArray,List.set_cons_zero,List.set_cons_succ])
         refine a0a hOnce (i:=8) (oi:=⟨_,_,_,_,_,_⟩) (v:=?_) rfl (by kernel_rfl) (fun _ _ _ h=>h) (by assumption) (by rfl) (fun w hSw=>?_) ?_
         rotate_left
         ·(try dsimp only at hSw)
          go_simp
          all_goals with_reducible rfl
         (try simp only[Act.put,List.setIfInBounds_toArray,List.set_cons_zero,List.set_cons_succ])
         refine a0a hOnce (i:=9) (oi:=⟨_,_,_,_,_,_⟩) (v:=?_) rfl (by kernel_rfl) (fun _ _ _ h=>h) (by assumption) (by rfl) (fun w hSw=>?_) ?_
         rotate_left
         ·(try dsimp only at hSw)
          go_simp
          all_goals with_reducible rfl
         (try simp only[Act.put,List.setIfInBounds_toArray,List.set_cons_zero,List.set_cons_succ])
         refine a0a hOnce (i:=10) (oi:=⟨_,_,_,_,_,_⟩) (v:=?_) rfl (by kernel_rfl) (fun _ _ _ h=>h) (by assumption) (by rfl) (fun w hSw=>?_) ?_
         rotate_left
         ·(try dsimp only at hSw)
          go_simp
          all_goals with_reducible rfl
         (try simp only[Act.put,List.setIfInBounds_toArray,List.set_cons_zero,List.set_cons_succ])
         refine a0a hOnce (i:=11) (oi:=⟨_,_,_,_,_,_⟩) (v:=?_) rfl (by kernel_rfl) (fun _ _ _ h=>h) (by assumption) (by rfl) (fun w hSw=>?_) ?_
         rotate_left
         ·(try dsimp only at hSw)
          go_simp
          all_goals with_reducible rfl
         (try simp only[Act.put,List.setIfInBounds_toArray,List.set_cons_zero,List.set_cons_succ])
         refine a0a hOnce (i:=12) (oi:=⟨_,_,_,_,_,_⟩) (v:=?_) rfl (by kernel_rfl) (fun _ _ _ h=>h) (by assumption) (by rfl) (fun w hSw=>?_) ?_
         rotate_left
         ·(try dsimp only at hSw)
          go_simp
          all_goals with_reducible rfl
         (try simp only[Act.put,List.setIfInBounds_toArray,List.set_cons_zero,List.set_cons_succ])
         refine a0a hOnce (i:=13) (oi:=⟨_,_,_,_,_,_⟩) (v:=?_) rfl (by kernel_rfl) (fun _ _ _ h=>h) (by assumption) (by rfl) (fun w hSw=>?_) ?_
         rotate_left
         ·(try dsimp only at hSw)
          go_simp
          all_goals with_reducible rfl
         (try simp only[Act.put,List.setIfInBounds_toArray,List.set_cons_zero,List.set_cons_succ])
         refine a0v (i:=6) (o:=⟨_,_,_,_,_,_⟩) (by kernel_rfl) rfl (fun K hK=>?_);go_simp
         (go_at_call 59;(with_reducible refine(a7B (a5L X1 fb po oo) w7.drew 1 hZd (by decide) (by decide)).mono ?_);rintro ee w8 ⟨t1,u8,rfl,hu8⟩)
         refine hK.out _ _ (hS.out w8 t1) (fun hHeld=>?_);clear hK K
         (try simp only[Act.put,List.setIfInBounds_toArray,List.set_cons_zero,List.set_cons_succ])
         obtain⟨s8,a8,n8,c8,d8,k8,e8,rfl⟩:=hu8.shape;have hX8:=hZd.ext t1;have hx8:=mkx QV.mono hqgv t1;have hu8v:=hu8.qv h1q.out;refine a0v (i:=14) (o:=⟨_,_,_,_,_,_⟩) (by kernel_rfl) rfl (fun K hK=>?_);go_simp
         (go_at_call 211;(with_reducible refine(b6k (a5L X1 fb po oo) w8 _ _ _ y hX8 hu8v hx8 hp1.out).mono ?_);rintro ee w9 ⟨t2,u9,rfl,hu9⟩)
         refine hK.out _ _ (hS.out w9 (t1.trans t2)) (fun hHeld=>?_);clear hK K
         (try simp only[Act.put,List.setIfInBounds_toArray,List.set_cons_zero,List.set_cons_succ])
         obtain⟨s9,a9,n9,c9,d9,k9,e9,rfl⟩:=hu9.shape;have t12:=t1.trans t2;have hX9:=hZd.ext t12;have hr9:=mkx RV.mono hrp t12;have hu9v:=hu9.qv hqb.out;refine a0v (i:=15) (o:=⟨_,_,_,_,_,_⟩) (by kernel_rfl) rfl (fun K hK=>?_);go_simp
         (go_at_call 210;(with_reducible refine(b4a (a5L X1 fb po oo) w9 _ _ _ _ hX9 hr9 hu9v hrl3.out).mono ?_);rintro ee w10 ⟨t3,u10,rfl,hu10⟩)
         refine hK.out _ _ (hS.out w10 (t12.trans t3)) (fun hHeld=>?_);clear hK K
         (try simp only[Act.put,List.setIfInBounds_toArray,List.set_cons_zero,List.set_cons_succ])
         obtain⟨a10,c10,rfl,hcl10,hs10⟩:=hu10;have t13:=t12.trans t3;have hR10:=hRd.ext0 t13;obtain⟨_,_,p0,fz,_,_⟩:=hR10.row pl hpM1;refine a0a hOnce (i:=16) (oi:=⟨_,_,_,_,_,_⟩) (v:=?_) rfl (by kernel_rfl) (fun _ _ _ h=>h) (by assumption) (by rfl) (fun w hSw=>?_) ?_
         rotate_left
         ·(try dsimp only at hSw)
          go_simp
          all_goals with_reducible rfl
         (try simp only[Act.put,List.setIfInBounds_toArray,List.set_cons_zero,List.set_cons_succ])
         refine a0O (i:=17) (o:=⟨_,_,_,_,_,_⟩) (by kernel_rfl) rfl (by decide) (by kernel_rfl) (fun K hK=>?_);go_simp
         refine hK.out _ _ ?_;clear hK K;obtain⟨hO11,hE11⟩:=hR10.rows.set1 a3R RC.elem SlV.one pl hpM1 (.slice a10 M1[pl].length c10) (M1[pl].map (· *(((1:Int):Rat)/y))) ⟨a10,c10,by rw[List.length_map],hcl10,hs10⟩;have hR11:=hR10.setRows hE11 hO11;have hR12:=hR11;rw[<-hpvd.out]at hR12;clear p0 fz i2 hO11 hE11 hR11 hHeld hOnce;go_wp2_with fail
         go_meet
         case rel=>exact hR12
        case rest=>
         have hR3:=hcut;clear hcut hR2 hEd i1;obtain⟨w8,hw8⟩:∃w8,w8=wc:=⟨_,rfl⟩;subst hw8;obtain⟨M2,hM2e⟩:∃M2,pv M1 pl j=M2:=⟨_,rfl⟩;rw[hM2e]at hR3 hpiv hM2s hB2s;have hM2l:Hid (M2.length=n):=hid hM2s.out.1;have hR4:RS X1 w b fb base 45 32 3 w8 oo co po pc (out M2 pl j 0) P f2:=by rw[b2W];exact hR3
         have hbm2:=hid (b2R hB2s.out);have hb0:Hid (∀wx,OL RC 1 (un (a8r X1 fb) po) base 45 wx oo co (out M2 pl j n)->base<=wx.heap.size):=hid fun wx h=>by
          obtain⟨b0,o0,hb0⟩:=hhO (by omega);have:=h.block (k:=b0) (by rw[hb0];simp[ob]);omega
         have i1:∀W,(Instr.indexAt 25 (.slice oo n co) (.int .i64 (pl:Int))).run Tryz.prog W= .ok (.pointer (some (adr oo pl))) W:=a0I a0A oo n co .i64 pl hhO (by omega) rfl;clear hM2e hR3 hjp hrl1 hei hxB hpvd hrowB hp1;go_wp2_with fail
         go_loopw [10] (fun a wx=>∃(i:Nat),a= .int .i64 i/\i<=n/\RS X1 w b fb base 45 32 3 wx oo co po pc (out M2 pl j i) P f2) (fun a _=>n - (intOf a).toNat)
         case atStart=>exact⟨0,rfl,Nat.zero_le _,hR4⟩
         case round=>
          clear hR4;obtain⟨i,rfl,hi,hR⟩:=hrel;by_cases hlt:i<n
          ·by_cases hip:i=pl
           ·have hne3:((i:Int) !=(pl:Int))=false:=b2t (by omega)
            have hRn:RS X1 w b fb base 45 32 3 wr oo co po pc (out M2 pl j (i+1)) P f2:=by subst hip;rw[<-b2X];exact hR
            clear hip hR;go_wp2_with fail
            go_roundw
            case rel=>exact⟨i+1,by go_num,by omega,hRn⟩
            case measure=>simp[intOf];omega
           ·have hne3:((i:Int) !=(pl:Int))=true:=a7i (by omega)
            have hiM:i<M2.length:=by rw[hM2l.out];exact hlt
            have hpM:pl<M2.length:=by rw[hM2l.out];exact hpn2
            have hiO:i<(out M2 pl j i).length:=by rw[a4b];exact hiM
            have hpO:pl<(out M2 pl j i).length:=by rw[a4b];exact hpM
            have hgi:(out M2 pl j i)[i]=M2[i]:=by rw[a4Q hiO hiM,if_neg (by omega)]
            have hgp:(out M2 pl j i)[pl]=M2[pl]:=by rw[a4Q hpO hpM,if_neg (by omega)]
            have hset:=hid (b5a (m:=M2) (t:=pl) (col:=j) hiM hip);rw[a3y hpM]at hset;obtain⟨ai,ci,y1,fy1,hcli,hqi⟩:=hR.row i hiO;obtain⟨ap,cp,y2,fy2,hclp,hqp⟩:=hR.row pl hpO;rw[hgi]at y1 hcli hqi;rw[hgp]at y2 hclp hqp;have hrli:Hid (M2[i].length=c):=hid (hM2s.out.2 _ (List.getElem_mem _));have hrlp:Hid (M2[pl].length=c):=hid (hM2s.out.2 _ (List.getElem_mem _));have hBi:=hid (hbm2.out M2[i] (List.getElem_mem _));have hBp:=hid (hbm2.out M2[pl] (List.getElem_mem _));have hji:j<M2[i].length:=by rw[hrli.out];exact hlj
            obtain⟨g,o,s5,a5,n5,c5,d5,k5,e5,hg,hXg,hcg,hqg⟩:=hqi.rat QC.shaped j hji;have hvv:M2[i].getD j 0=M2[i][j]:=by rw[List.getD_eq_getElem?_getD,List.getElem?_eq_getElem hji];rfl
            rw[hvv]at hset;have hvB:=hid (hBi.out M2[i][j] (List.getElem_mem _));obtain⟨v,hv⟩:∃v,M2[i][j]=v:=⟨_,rfl⟩;rw[hv]at hset hqg hvB;clear hv hvv hgi hgp;obtain⟨row,hrow⟩:∃row,M2[i]=row:=⟨_,rfl⟩;rw[hrow]at hset hqi y1 hcli hrli hBi;obtain⟨piv,hpv⟩:∃piv,M2[pl]=piv:=⟨_,rfl⟩;rw[hpv]at hset hqp y2 hclp hrlp hBp;have hhi:Hd ai c:=by have:=hqi.hd;rw[hrli.out]at this;exact this
            have hEd:Ext wr wr.drew:=(ExtX.refl wr).drew;have i2:∀W,(Instr.indexAt 45 (.slice ai c ci) (.int .i64 (j:Int))).run Tryz.prog W= .ok (.pointer (some ⟨g,o,none⟩)) W:=by rw[<-hg];exact a0k a1c ai c ci .i64 j hhi (by omega)
            have i3:∀W,(Instr.indexAt 25 (.slice oo n co) (.int .i64 (i:Int))).run Tryz.prog W= .ok (.pointer (some (adr oo i))) W:=a0I a0A oo n co .i64 i hhO (by omega) rfl;have hri:RV (mk (a5L X1 fb po oo) wr.drew) (.slice ai c ci) row:=by
             rw[<-hrli.out];exact⟨ai,ci,rfl,hcli,hqi.qv fun q hq=>Nat.le_trans (hBi.out q hq) (by have:=hB6'.out;omega)⟩
            have hrp:RV (mk (a5L X1 fb po oo) wr.drew) (.slice ap c cp) piv:=by
             rw[<-hrlp.out];exact⟨ap,cp,rfl,hclp,hqp.qv fun q hq=>Nat.le_trans (hBp.out q hq) (by have:=hB6'.out;omega)⟩
            rw[hrli.out]at y1;rw[hrlp.out]at y2;have hS:Hid (∀W',Ext wr.drew W'->W'.cell? (adr oo i)=some (.slice ai c ci)/\W'.cell? (adr oo pl)=some (.slice ap c cp)/\W'.cell? ⟨g,o,none⟩=some (.bool s5)/\W'.cell? ⟨g,o+1,none⟩=some (.slice a5 n5 c5)/\W'.cell? ⟨g,o+2,none⟩=some (.slice d5 k5 e5)):=hid fun W' h=>by
             obtain⟨k0,k1,k2⟩:=hcg.out noY W' (hEd.trans h) rfl;exact⟨(hEd.trans h).cell y1,(hEd.trans h).cell y2,k0,k1,k2⟩
            obtain⟨y1d,y2d,k0,k1,k2⟩:=hS.out wr.drew (ExtX.refl _);have hRd:=hR.ext0 hEd;have hZd:=hRd.hz;have hqgv:QV (mk (a5L X1 fb po oo) wr.drew) (.agg #[.bool s5, .slice a5 n5 c5, .slice d5 k5 e5]) v:=hqg.qv (by have:=hvB.out;have:=hB6'.out;omega);have hnb:Hid (hq (-v)<=68719476736):=hid (by rw[a3P];have:=hvB.out;have:=hB6'.out;omega);have hprod:Hid (BR 68719476736 (piv.map (· * -v))):=hid fun q hq=>by
             obtain⟨x,hx,rfl⟩:=List.mem_map.1 hq;have h1:=hBp.out x hx;have h2:=hq_mul x (-v);rw[a3P]at h2;have:=hvB.out;have:=hB6'.out;omega
            have hl1:Hid (piv.length<=1000000):=hid (by rw[hrlp.out];omega);have hl2:Hid (row.length<=1000000):=hid (by rw[hrli.out];omega);have hl3:Hid ((piv.map (· * -v)).length=row.length):=hid (by rw[List.length_map,hrlp.out,hrli.out]);have hiO':=hid hiO;obtain⟨PR,hPR⟩:∃PR,piv.map (· * -v)=PR:=⟨_,rfl⟩;have hPR':=hid hPR;rw[hPR]at hset hprod hl3;obtain⟨NR,hNR⟩:∃NR,List.zipWith (· + ·) row PR=NR:=⟨_,rfl⟩;have hNR':=hid hNR;rw[hNR]at hset;clear hqi hqp hg hcg hR y1 fy1 y2 fy2 hrow hpv hip hiM hpM hpO hqg hiO hji hcli hclp hPR hNR;go_wp2_with fail
            refine a0P 21 (fun w'=>w'.cell? (adr oo i)=some (.slice ai c ci)/\w'.cell? (adr oo pl)=some (.slice ap c cp)/\w'.cell? ⟨g,o,none⟩=some (.bool s5)/\w'.cell? ⟨g,o+1,none⟩=some (.slice a5 n5 c5)/\w'.cell? ⟨g,o+2,none⟩=some (.slice d5 k5 e5)) (by kernel_rfl) (by kernel_rfl) (hS.out _ (ExtX.refl _)) (fun hHeld hOnce=>?_);clear y1d y2d k0 k1 k2;refine a0a hOnce (i:=0) (oi:=⟨_,_,_,_,_,_⟩) (v:=?_) rfl (by kernel_rfl) (fun _ _ _ h=>h) (by assumption) (by rfl) (fun w hSw=>?_) ?_
            rotate_left
            ·(try dsimp only at hSw)
             go_simp
             all_goals with_reducible rfl
            (try simp only[Act.put,List.setIfInBounds_toArray,List.set_cons_zero,List.set_cons_succ])
            refine a0a hOnce (i:=1) (oi:=⟨_,_,_,_,_,_⟩) (v:=?_) rfl (by kernel_rfl) (fun _ _ _ h=>h) (by assumption) (by rfl) (fun w hSw=>?_) ?_
            rotate_left
            ·(try dsimp only at hSw)
             go_simp
             all_goals with_reducible rfl
            (try simp only[Act.put,List.setIfInBounds_toArray,List.set_cons_zero,List.set_cons_succ])
            refine a0a hOnce (i:=2) (oi:=⟨_,_,_,_,_,_⟩) (v:=?_) rfl (by kernel_rfl) (fun _ _ _ h=>h) (by assumption) (by rfl) (fun w hSw=>?_) ?_
            rotate_left
            ·(try dsimp only at hSw)
             go_simp
             all_goals with_reducible rfl
            (try simp only[Act.put,List.setIfInBounds_toArray,List.set_cons_zero,List.set_cons_succ])
            refine a0a hOnce (i:=3) (oi:=⟨_,_,_,_,_,_⟩) (v:=?_) rfl (by kernel_rfl) (fun _ _ _ h=>h) (by assumption) (by rfl) (fun w hSw=>?_) ?_
            rotate_left
            ·(try dsimp only at hSw)
             go_simp
             all_goals with_reducible rfl
            (try simp only[Act.put,List.setIfInBounds_toArray,List.set_cons_zero,List.set_cons_succ])
            refine a0a hOnce (i:=4) (oi:=⟨_,_,_,_,_,_⟩) (v:=?_) rfl (by kernel_rfl) (fun _ _ _ h=>h) (by assumption) (by rfl) (fun w hSw=>?_) ?_
            rotate_left
            ·(try dsimp only at hSw)
             go_simp
             all_goals with_reducible rfl
            (try simp only[Act.put,List.setIfInBounds_toArray,List.set_cons_zero,List.set_cons_succ])
            refine a0a hOnce (i:=5) (oi:=⟨_,_,_,_,_,_⟩) (v:=?_) rfl (by kernel_rfl) (fun _ _ _ h=>h) (by assumption) (by rfl) (fun w hSw=>?_) ?_
            rotate_left
            ·(try dsimp only at hSw)
             go_simp
             all_goals with_reducible rfl
            (try simp only[Act.put,List.setIfInBounds_toArray,List.set_cons_zero,List.set_cons_succ])
            refine a0a hOnce (i:=6) (oi:=⟨_,_,_,_,_,_⟩) (v:=?_) rfl (by kernel_rfl) (fun _ _ _ h=>h) (by assumption) (by rfl) (fun w hSw=>?_) ?_
            rotate_left
            ·(try dsimp only at hSw)
             go_simp
             all_goals with_reducible rfl
            (try simp only[Act.put,List.setIfInBounds_toArray,List.set_cons_zero,List.set_cons_succ])
            refine a0a hOnce (i:=7) (oi:=⟨_,_,_,_,_,_⟩) (v:=?_) rfl (by kernel_rfl) (fun _ _ _ h=>h) (by assumption) (by rfl) (fun w hSw=>?_) ?_
            rotate_left
            ·(try dsimp only at hSw)
             go_simp
             all_goals with_reducible rfl
            (try simp only[Act.put,List.setIfInBounds_toArray,List.set_cons_zero,List.set_cons_succ])
            refine a0a hOnce (i:=8) (oi:=⟨_,_,_,_,_,_⟩) (v:=?_) rfl (by kernel_rfl) (fun _ _ _ h=>h) (by assumption) (by rfl) (fun w hSw=>?_) ?_
            rotate_left
            ·(try dsimp only at hSw)
             go_simp
             all_goals with_reducible rfl
            (try simp only[Act.put,List.setIfInBounds_toArray,List.set_cons_zero,List.set_cons_succ])
            refine a0a hOnce (i:=9) (oi:=⟨_,_,_,_,_,_⟩) (v:=?_) rfl (by kernel_rfl) (fun _ _ _ h=>h) (by assumption) (by rfl) (fun w hSw=>?_) ?_
            rotate_left
            ·(try dsimp only at hSw)
             go_simp
             all_goals with_reducible rfl
            (try simp only[Act.put,List.setIfInBounds_toArray,List.set_cons_zero,List.set_cons_succ])
            refine a0a hOnce (i:=10) (oi:=⟨_,_,_,_,_,_⟩) (v:=?_) rfl (by kernel_rfl) (fun _ _ _ h=>h) (by assumption) (by rfl) (fun w hSw=>?_) ?_
            rotate_left
            ·(try dsimp only at hSw)
             go_simp
             all_goals with_reducible rfl
            (try simp only[Act.put,List.setIfInBounds_toArray,List.set_cons_zero,List.set_cons_succ])
            refine a0a hOnce (i:=11) (oi:=⟨_,_,_,_,_,_⟩) (v:=?_) rfl (by kernel_rfl) (fun _ _ _ h=>h) (by assumption) (by rfl) (fun w hSw=>?_) ?_
            rotate_left
            ·(try dsimp only at hSw)
             go_simp
             all_goals with_reducible rfl
            (try simp only[Act.put,List.setIfInBounds_toArray,List.set_cons_zero,List.set_cons_succ])
            refine a0a hOnce (i:=12) (oi:=⟨_,_,_,_,_,_⟩) (v:=?_) rfl (by kernel_rfl) (fun _ _ _ h=>h) (by assumption) (by rfl) (fun w hSw=>?_) ?_
            rotate_left
            ·(try dsimp only at hSw)
             go_simp
             all_goals with_reducible rfl
            (try simp only[Act.put,List.setIfInBounds_toArray,List.set_cons_zero,List.set_cons_succ])
            refine a0a hOnce (i:=13) (oi:=⟨_,_,_,_,_,_⟩) (v:=?_) rfl (by kernel_rfl) (fun _ _ _ h=>h) (by assumption) (by rfl) (fun w hSw=>?_) ?_
            rotate_left
            ·(try dsimp only at hSw)
             go_simp
             all_goals with_reducible rfl
            (try simp only[Act.put,List.setIfInBounds_toArray,List.set_cons_zero,List.set_cons_succ])
            refine a0a hOnce (i:=14) (oi:=⟨_,_,_,_,_,_⟩) (v:=?_) rfl (by kernel_rfl) (fun _ _ _ h=>h) (by assumption) (by rfl) (fun w hSw=>?_) ?_
            rotate_left
            ·(try dsimp only at hSw)
             go_simp
             all_goals with_reducible rfl
            (try simp only[Act.put,List.setIfInBounds_toArray,List.set_cons_zero,List.set_cons_succ])
            refine a0a hOnce (i:=15) (oi:=⟨_,_,_,_,_,_⟩) (v:=?_) rfl (by kernel_rfl) (fun _ _ _ h=>h) (by assumption) (by rfl) (fun w hSw=>?_) ?_
            rotate_left
            ·(try dsimp only at hSw)
             go_simp
             all_goals with_reducible rfl
            (try simp only[Act.put,List.setIfInBounds_toArray,List.set_cons_zero,List.set_cons_succ])
            refine a0a hOnce (i:=16) (oi:=⟨_,_,_,_,_,_⟩) (v:=?_) rfl (by kernel_rfl) (fun _ _ _ h=>h) (by assumption) (by rfl) (fun w hSw=>?_) ?_
            rotate_left
            ·(try dsimp only at hSw)
             go_simp
             all_goals with_reducible rfl
            (try simp only[Act.put,List.setIfInBounds_toArray,List.set_cons_zero,List.set_cons_succ])
            refine a0v (i:=17) (o:=⟨_,_,_,_,_,_⟩) (by kernel_rfl) rfl (fun K hK=>?_);go_simp
            (go_at_call 147;(with_reducible refine(b4R (a5L X1 fb po oo) wr.drew _ v hZd hqgv).mono ?_);rintro ee w9 ⟨t1,u9,rfl,hu9⟩)
            refine hK.out _ _ (hS.out w9 t1) (fun hHeld=>?_);clear hK K
            (try simp only[Act.put,List.setIfInBounds_toArray,List.set_cons_zero,List.set_cons_succ])
            obtain⟨s9,a9,n9,c9,d9,k9,e9,rfl⟩:=hu9.shape;have hX9:=hZd.ext t1;have hr9:=mkx RV.mono hrp t1;have hu9v:=hu9.qv hnb.out;refine a0v (i:=18) (o:=⟨_,_,_,_,_,_⟩) (by kernel_rfl) rfl (fun K hK=>?_);go_simp
            (go_at_call 210;(with_reducible refine(b4a (a5L X1 fb po oo) w9 _ _ piv (-v) hX9 hr9 hu9v hl1.out).mono ?_);rintro ee w10 ⟨t2,u10,rfl,hu10⟩)
            refine hK.out _ _ (hS.out w10 (t1.trans t2)) (fun hHeld=>?_);clear hK K
            (try simp only[Act.put,List.setIfInBounds_toArray,List.set_cons_zero,List.set_cons_succ])
            rw[hPR'.out]at hu10;have hu10v:=hu10.rv hprod.out;obtain⟨a10,c10,rfl,hcl10,hs10⟩:=hu10;have t12:=t1.trans t2;have hX10:=hZd.ext t12;have hr10:=mkx RV.mono hri t12;refine a0v (i:=19) (o:=⟨_,_,_,_,_,_⟩) (by kernel_rfl) rfl (fun K hK=>?_);go_simp
            (go_at_call 212;(with_reducible refine(b6Y (a5L X1 fb po oo) w10 _ _ row _ hX10 hr10 hu10v hl2.out hl3.out).mono ?_);rintro ee w11 ⟨t3,u11,rfl,hu11⟩)
            refine hK.out _ _ (hS.out w11 (t12.trans t3)) (fun hHeld=>?_);clear hK K
            (try simp only[Act.put,List.setIfInBounds_toArray,List.set_cons_zero,List.set_cons_succ])
            rw[hNR'.out]at hu11;obtain⟨a11,c11,rfl,hcl11,hs11⟩:=hu11;have hR11:=hRd.ext0 (t12.trans t3);obtain⟨_,_,p0,fz,_,_⟩:=hR11.row i hiO'.out;refine a0a hOnce (i:=20) (oi:=⟨_,_,_,_,_,_⟩) (v:=?_) rfl (by kernel_rfl) (fun _ _ _ h=>h) (by assumption) (by rfl) (fun w hSw=>?_) ?_
            rotate_left
            ·(try dsimp only at hSw)
             go_simp
             all_goals with_reducible rfl
            (try simp only[Act.put,List.setIfInBounds_toArray,List.set_cons_zero,List.set_cons_succ])
            refine a0O (i:=21) (o:=⟨_,_,_,_,_,_⟩) (by kernel_rfl) rfl (by decide) (by kernel_rfl) (fun K hK=>?_);go_simp
            refine hK.out _ _ ?_;clear hK K;obtain⟨hO12,hE12⟩:=hR11.rows.set1 a3R RC.elem SlV.one i hiO'.out (.slice a11 NR.length c11) NR ⟨a11,c11,rfl,hcl11,hs11⟩;have hR12:=hR11.setRows hE12 hO12;rw[hset.out]at hR12;clear p0 fz i2 i3 hO12 hE12 hR11 hHeld hOnce;go_wp2_with fail
            go_roundw
            case rel=>exact⟨i+1,by go_num,by omega,hR12⟩
            case measure=>simp[intOf];omega
          ·have hin:i=n:=by omega
           subst hin;have hbase:=hb0.out wr hR.rows;have hXz:∀k,un (a8r X1 fb) oo k=true->k<wr.heap.size:=fun k hk=>hR.hz k (by
            by_cases h:a8r X1 fb k=true
            ·exact a0p (a0p h)
            ·exact a0q (by simpa[un,h]using hk))
           have hP:=hR.piv;have hpl2:Hid ((P++[j]).length=pl+1):=hid (by rw[List.length_append,hpl.out];rfl);clear i1 hb0;go_wp2_with (at_builtin;refine a0H (l:=P) a0S rfl (a0b.elem .i64) hbase hXz pl hpl.out rfl rfl hP (.int .i64 (j:Int)) j rfl rfl (by omega) (by omega) ?_;intro po2 pc2 w10 hP6 hE7 hor)
           have hR9:=hR.push hE7 hP6 hor;go_roundg (c - (j+1))
           case measure=>omega
           case rel=>exact⟨j+1,po2,pc2,pl+1,_,_,_,by go_num,rfl,by omega,hpl2,hpiv,hR9⟩
    ·have hin:t=n:=by omega
     subst hin;have hne:((t:Int)==(t:Int))=true:=a8d rfl;have hst2:=hid (b5b hsh'.out hst.out hpl.out hzz.out);clear hzz;go_wp2_with fail
     go_roundg (c - (j+1))
     case measure=>omega
     case rel=>exact⟨j+1,po,pc,pl,M,P,f,by go_num,rfl,by omega,hpl,hst2,hR⟩
  ·have hjc:j=c:=by omega
   subst hjc;go_wp2_with fail
   refine hco.mono ?_;rintro e w2 ⟨rfl,rfl⟩;obtain⟨sf,af,nf,cf,df,kf,ef,bF,hqF⟩:=hR.fac;have hres:=hR.res;have z0:=bF.cell 0 rfl;have z1:=bF.cell 1 rfl;have z2:=bF.cell 2 rfl;have g0:=hres.cell 0 rfl;have g1:=hres.cell 1 rfl;have g2:=hres.cell 2 rfl;have h0:=hres.frozen 0;have h1:=hres.frozen 1;have h2:=hres.frozen 2;obtain⟨q1,q2⟩:=hres.set3 (.bool sf) (.slice af nf cf) (.slice df kf ef);have q1d:=q1.ext0 (ExtX.refl (Y:=noY) _).drew;have q2d:=q2.drew;have hqf:QC (mk X _) (.agg #[.bool sf, .slice af nf cf, .slice df kf ef]) f:=QC.mono _ _ _ _ (hunb.out _) (QC.mono _ _ _ _ (a0w q2d fun k hk=>b1i hrb.out hk) (QC.mono _ _ _ _ (a1N fun k _ hk=>a0p (a0p (a0p hk))) hqF));have hEf:Ext w _:=ExtX.box hR.ext q2d (by rw[hbw'.out];exact Nat.le_refl _);have hsr:Sl RC 1 (mk X _) oo M:=(((hR.rows.sl RC.elem).mono RC.mono (a1N fun k _ hk=>a0p (a0p hk))).mono RC.mono (a0w q2d fun k hk=>b1i hrb.out hk)).mono RC.mono (hunb.out _);have hsp:Sl (a0b .i64) 1 (mk X _) po P:=(((hR.piv.sl (a0b.elem _)).mono (a0b.mono _) (a1N fun k _ hk=>a0p (a0p hk))).mono (a0b.mono _) (a0w q2d fun k hk=>b1i hrb.out hk)).mono (a0b.mono _) (hunb.out _);have hpc:P.length<=pc:=hR.piv.lenCap;clear hres bF hR hqF q1 q2 q2d;go_wp2_with fail
   go_region
   go_wp2_with fail
   refine bodyPost_ret (a8u (P:=Tryz.prog) (c:=4) (d:=2) (e:=3) rfl rfl a0s q1d rfl) rfl ?_;have hRO:∀w9,Ext w w9->Sl RC 1 (mk X w9) oo M->Sl (a0b .i64) 1 (mk X w9) po P->QC (mk X w9) (.agg #[.bool sf, .slice af nf cf, .slice df kf ef]) f->b4b X w (rN m j) (.returned (.tuple #[.slice oo n co, .slice po pl pc, .agg #[.bool sf, .slice af nf cf, .slice df kf ef]])) w9:=fun w9 hEf hsr hsp hqf=>by
    rw[hst.out];exact⟨hEf,oo,co,po,pc,_,by rw[hMl.out,hpl.out],by rw[hMl.out];exact hcap,hpc,hsr,hsp,hqf⟩
   exact hRO _ hEf hsr hsp hqf
end Go.Proofs.YtoibhmjjhgaimaaGreat
namespace Go.Lin
open Go.Lim
noncomputable def b4c (m:Mat) (n:Nat):Rat:=if(rN m n).2.1.length<n then 0 else(rN m n).2.2
theorem b3a {n:Nat} {m:Mat} (hn:n<=4) (hs:Shp n n m):b4c m n=det n (ent m):=by
 have h:=a7Y hs n;obtain⟨d,h1,h2⟩:=h.re;have h3:=h1.det_same hn;have h4:=h.ref.det hn;unfold b4c;by_cases hp:(rN m n).2.1.length=n
 ·rw[if_pos hp]at h4
  rw[if_neg (by omega)];rw[h4]at h3;grind
 ·have:=h.ref.le
  rw[if_neg hp]at h4;rw[if_pos (by omega)];rw[h4]at h3;have:=h1.ne;grind
theorem b1m {n:Nat} {m:Mat} (hn:n<=4) (hs:Shp n n m):b4c m n=a9g m n:=by rw[b3a hn hs,b2I hn hs]
end Go.Lin
namespace Go.Proofs.YtoibhmjjhgaimaaGreat
open Go.RowKit Go.Rep Go.Lim Go.Lin
set_option maxRecDepth 100000 in
theorem b5f (X:Nat->Bool) (w:World) (u:Value) (m:List (List Rat)) (n:Nat) (hX:HX X w) (hu:MV (mk X w) u m) (hf:a1z m=true) (hnn:m.length=n) (hcc:a0L m=n) (hT:a8s m n):Calls Tryz.prog 133 #[u] w (fun e w'=>Ext w w'/\∃u,e= .returned (.tuple #[u, .int .i64 0])/\QC (mk X w') u (b4c m n)):=by
 obtain⟨hsh,h96,hc96,_,_⟩:=a5K hf;rw[hnn,hcc]at hsh;rw[hnn]at h96;obtain⟨W,hW,hEW,b0,hz⟩:=a1m w #[.bool false, .slice none 0 0, .slice none 0 0] 32;have hXW:HX (a0f X w.heap.size 1) W:=hX.boxes hz;have huW:MV (mk (a0f X w.heap.size 1) W) u m:=MV.mono _ _ _ _ (a0m hEW) hu;have hfo:=b5d QV.mono _ W u m huW (by omega);rw[hf]at hfo;have hcol:=hid (fun w' (h:Ext W w')=>a9p _ w' u m (mkx MV.mono huW h));rw[hcc]at hcol;have hre:=hid (fun w' (h:Ext W w')=>a8w _ w' u m n n (hXW.ext h) (mkx MV.mono huW h) hsh hcc (by omega) (by omega) hT);have hdr:Hid (b4c m n=if(rN m n).2.1.length<n then 0 else(rN m n).2.2):=hid rfl;have hlen:=hid ((a7Y hsh n).ref.le);obtain⟨S,hS⟩:∃S,rN m n=S:=⟨_,rfl⟩;rw[hS]at hre hdr hlen;obtain⟨M,P,f⟩:=S
 dsimp only at hdr hlen
 obtain⟨ua,uca,rfl,huca,hua⟩:=hu;rw[hnn]at hfo hcol hre |-;have hne:((n:Int) !=(n:Int))=false:=b2t rfl;clear hf hS hsh huW hua;go_enter Tryz.func133,Tryz.ntmps133
 go_wp2_with fail
 refine hfo.mono ?_;rintro e w1 ⟨hE1,rfl⟩;have h1:=hcol.out w1 hE1;clear hfo;go_wp2_with fail
 refine h1.mono ?_;rintro e w2 ⟨rfl,rfl⟩;have h2:=hre.out w2 hE1;clear h1;go_wp2_with fail
 refine h2.mono ?_;rintro e w3 ⟨hE3,oo,co,po,pc,uf,rfl,hco,hpc,hso,hsp,huf⟩
 dsimp only at hpc huf |-
 obtain⟨s2,a2,n2,c2,d2,k2,e2,rfl⟩:=huf.shape;have bx:=Bx.new w3 #[.bool false, .slice none 0 0, .slice none 0 0] 32;have b3:=b0.ext0 (hE1.trans hE3);obtain⟨pl,hpl⟩:∃pl,P.length=pl:=⟨_,rfl⟩;rw[hpl]at hdr hlen |-;clear h2 hso hsp hpc hpl;by_cases hlt:pl<n
 ·have hd0:Hid (b4c m n=0):=hid (by rw[hdr.out,if_pos hlt])
  go_wp2_with ((with_reducible show wpList _ _ _ (⟨_, .store _ _ _,_,_,_,_⟩::_) _ _);first|(refine a0d a0s rfl rfl bx rfl rfl (a2n _ _ _ _ _ _ _) ?_;intro w4 r1 r2;have b4:=b3.ext0 (ExtX.box ((ExtX.refl w3).alloc _) r2 (Nat.le_refl _)))|(refine a0d a0s rfl rfl b4 rfl rfl (a2n _ _ _ _ _ _ _) ?_;intro w5 r3 r4))
  have hE4:Ext w3 w4:=ExtX.box ((ExtX.refl w3).alloc _) r2 (Nat.le_refl _);exact bodyPost_ret (a0C rfl rfl a0s r3 rfl) rfl ⟨ExtX.box (hEW.trans (hE1.trans (hE3.trans hE4))) r4 (by omega),_,rfl,by rw[hd0.out];exact QC.zero _⟩
 ·have hd0:Hid (b4c m n=f):=hid (by rw[hdr.out,if_neg hlt])
  go_wp2_with ((with_reducible show wpList _ _ _ (⟨_, .store _ _ _,_,_,_,_⟩::_) _ _);first|(refine a0d a0s rfl rfl bx rfl rfl (a2n _ _ _ _ _ _ _) ?_;intro w4 r1 r2;have b4:=b3.ext0 (ExtX.box ((ExtX.refl w3).alloc _) r2 (Nat.le_refl _));have k0:=r1.cell 0 rfl;have k1:=r1.cell 1 rfl;have k2:=r1.cell 2 rfl)|(refine a0d a0s rfl rfl b4 rfl rfl (a2n _ _ _ _ _ _ _) ?_;intro w5 r3 r4))
  have hE4:Ext w3 w4:=ExtX.box ((ExtX.refl w3).alloc _) r2 (Nat.le_refl _);have h7:=QC.mono _ _ _ _ a0l (QC.mono _ _ _ _ (a0g r4 (Nat.le_refl _) (by omega)) (mkx QC.mono huf hE4));exact bodyPost_ret (a0C rfl rfl a0s r3 rfl) rfl ⟨ExtX.box (hEW.trans (hE1.trans (hE3.trans hE4))) r4 (by omega),_,rfl,by rw[hd0.out];exact h7⟩
end Go.Proofs.YtoibhmjjhgaimaaGreat
namespace Go.Lin
open Go.Lim Go.Rep
theorem a4z {m:Mat} {d:Nat} (hs:Shp d d m) (hd:d<=3) (hB:HB 60000 m):a8c m d/\a8s m d:=by
 have h5:5^d<=125:=Nat.le_trans (Nat.pow_le_pow_right (by omega) hd) (by decide);have h6:6^d<=216:=Nat.le_trans (Nat.pow_le_pow_right (by omega) hd) (by decide);exact⟨b2s hs hB (by omega),b2V hs hB (by omega)⟩
noncomputable def b5g (p:Mat) (rows:List Nat) (d:Nat):Rat:=a9g (a5l p rows d rows.length) d
end Go.Lin
namespace Go.Proofs.YtoibhmjjhgaimaaGreat
open Go.RowKit Go.Rep Go.Lim
set_option maxRecDepth 100000 in
theorem b7c (X:Nat->Bool) (w:World) (u v:Value) (x y:Rat) (hX:HX X w) (hu:QV (mk X w) u x) (hv:QV (mk X w) v y):Calls Tryz.prog 191 #[u,v] w (b4Q X w (x/y) (e5 (decide (y=0)))):=by
 have hlx:=hid hu.hq;have hly:=hid hv.hq;obtain⟨s1,a1,n1,c1,d1,k1,e1,rfl⟩:=hu.shape;obtain⟨s2,a2,n2,c2,d2,k2,e2,rfl⟩:=hv.shape;obtain⟨W,hW,hE,b0,b1,b2,hz⟩:=a1X w #[.bool s1, .slice a1 n1 c1, .slice d1 k1 e1] #[.bool s2, .slice a2 n2 c2, .slice d2 k2 e2] #[.bool false, .slice none 0 0, .slice none 0 0] 32 32 32;have hXW:HX (a0f X w.heap.size 3) W:=hX.boxes hz;have hu1:=QV.mono _ _ _ _ (a0m (nb:=3) hE) hu;have hv1:=QV.mono _ _ _ _ (a0m (nb:=3) hE) hv;obtain⟨b,hb⟩:∃b,w.heap.size=b:=⟨_,rfl⟩;have hbw:w.heap.size<=b:=by omega
 rw[hb]at b0 b1 b2 hz hXW hu1 hv1;have hEd:Ext W W.drew:=(ExtX.refl W).drew;have hXd:HX (a0f X b 3) W.drew:=hXW;have hud:QV (mk (a0f X b 3) W.drew) (.agg #[.bool s1, .slice a1 n1 c1, .slice d1 k1 e1]) x:=hu1;have hvd:QV (mk (a0f X b 3) W.drew) (.agg #[.bool s2, .slice a2 n2 c2, .slice d2 k2 e2]) y:=hv1;have k00:=b0.cell 0 rfl;have k01:=b0.cell 1 rfl;have k02:=b0.cell 2 rfl;have k10:=b1.cell 0 rfl;have k11:=b1.cell 1 rfl;have k12:=b1.cell 2 rfl;clear hu hv;obtain⟨ec,hec'⟩:∃ec:Int,e5 (decide (y=0))=ec:=⟨_,rfl⟩;obtain⟨q,hq'⟩:∃q:Rat,x/y=q:=⟨_,rfl⟩;rw[hec',hq'];clear hEd hXd hud hvd;go_enter Tryz.func191,Tryz.ntmps191
 go_wp2_with fail
 refine(a9k (a0f X b 3) W _ y hXW hv1).mono ?_;rintro e w5 ⟨hE5,rfl⟩;have bb0:=b0.ext0 hE5;have bb1:=b1.ext0 hE5;have bb2:=b2.ext0 hE5;clear k00 k01 k02 k10 k11 k12;by_cases h0:y=0
 ·have hec:Hid ((5:Int)=ec):=hid (by rw[<-hec',decide_eq_true h0];rfl)
  have hres:Hid ((0:Rat)=q):=hid (by rw[<-hq',h0,Rat.div_def,Rat.inv_zero,Rat.mul_zero]);have hI:(y.num.sign==0)=true:=by rw[h0];rfl
  generalize y.num.sign=sgy at*;clear h0 hec' hq';go_wp2_with ((with_reducible show wpList _ _ _ (⟨_, .store _ _ _,_,_,_,_⟩::_) _ _);refine a0d a0s rfl rfl bb2 rfl rfl (a2n _ _ _ _ _ _ _) ?_;intro w7 r1 r2)
  exact bodyPost_ret (a0C rfl rfl a0s r1 rfl) rfl ⟨ExtX.box (hE.trans hE5) r2 (by omega),_,by rw[<-hec.out];rfl,by rw[<-hres.out];exact QC.zero _⟩
 ·have hec:Hid ((0:Int)=ec):=hid (by rw[<-hec',decide_eq_false h0];rfl)
  have hI:(y.num.sign==0)=false:=by
   rw[beq_eq_false_iff_ne];intro h;exact h0 (Rat.num_eq_zero.1 (Int.sign_eq_zero_iff_zero.1 h))
  have hy0:=hid h0;have hqq:=hid hq';generalize y.num.sign=sgy at*;have k00:=bb0.cell 0 rfl;have k01:=bb0.cell 1 rfl;have k02:=bb0.cell 2 rfl;have k10:=bb1.cell 0 rfl;have k11:=bb1.cell 1 rfl;have k12:=bb1.cell 2 rfl;clear h0 hec' hq';go_wp2_with fail
  refine(b6k (a0f X b 3) w5 _ _ x y (hXW.ext hE5) (mkx QV.mono hu1 hE5) (mkx QV.mono hv1 hE5) hy0.out).mono ?_;rintro e w6 ⟨hE6,u6,rfl,hu6⟩;obtain⟨s5,a5,n5,c5,d5,k5,e5,rfl⟩:=hu6.shape;rw[hqq.out]at hu6;have bb3:=bb2.ext0 hE6;clear k00 k01 k02 k10 k11 k12;go_wp2_with ((with_reducible show wpList _ _ _ (⟨_, .store _ _ _,_,_,_,_⟩::_) _ _);refine a0d a0s rfl rfl bb3 rfl rfl (a2n _ _ _ _ _ _ _) ?_;intro w7 r1 r2)
  have h7:=QC.mono _ _ _ _ a0l (QC.mono _ _ _ _ (a0g r2 (by omega) (by omega)) hu6);exact bodyPost_ret (a0C rfl rfl a0s r1 rfl) rfl ⟨ExtX.box (hE.trans (hE5.trans hE6)) r2 (by omega),_,by rw[<-hec.out];rfl,h7⟩
end Go.Proofs.YtoibhmjjhgaimaaGreat
namespace Go.Lin
open Go.Lim
structure Mom where
 n:Int
 xx:Mat
 xy:List Rat
 yy:Rat
theorem a3A {α:Type} {c:Nat} {f g:Nat->α} (h:∀j,j<c->f j=g j):(List.range c).map f=(List.range c).map g:=
 List.map_congr_left fun j hj=>h j (List.mem_range.1 hj)
theorem a5M {n c:Nat} {f g:F2} (h:Eqm n c f g):ofF n c f=ofF n c g:=
 a3A fun i hi=>a3A fun j hj=>h i hi j hj
end Go.Lin
namespace Go.Rep
open Go.RowKit Go.Lim
def BlR:Mem->Value->Bool->Prop:=fun _ u b=>u= .bool b
theorem BlR.mono:a3i BlR:=fun _ _ _ _ _ h=>h
theorem BlR.elem:Elem BlR 1:=⟨fun _ _ _ _ _ h=>h,by rintro h u x rfl;rfl,by
 rintro h u x rfl c hc;simp[a0n,Value.cells]at hc;subst hc;rfl,Nat.one_pos⟩
theorem BlR.one:a2W BlR:=by rintro h u x rfl;rfl
theorem Sl.bl {h:Mem} {ao:Option Addr} {l:List Bool} (s:Sl BlR 1 h ao l) (i:Nat) (hi:i<l.length):h (adr ao i)=some (.bool l[i]):=by
 obtain⟨u,h1,rfl⟩:=s.cell BlR.one i hi;exact h1
def b5J (A:Mem->Value->List (List Rat)->Prop) (B:Mem->Value->List Rat->Prop) (C:Mem->Value->Rat->Prop) (h:Mem) (u:Value) (m:Go.Lin.Mom):Prop:=
 ∃xo xl xc yo yl yc s a n c d k e,u= .agg #[.int .i64 m.n, .slice xo xl xc, .slice yo yl yc, .bool s, .slice a n c, .slice d k e]/\A h (.slice xo xl xc) m.xx/\B h (.slice yo yl yc) m.xy/\C h (.agg #[.bool s, .slice a n c, .slice d k e]) m.yy
def b7d:=b5J MV RV QV
def b6L:=b5J MC RC QC
theorem b5J.mono {A:Mem->Value->List (List Rat)->Prop} {B:Mem->Value->List Rat->Prop} {C:Mem->Value->Rat->Prop} (hA:a3i A) (hB:a3i B) (hC:a3i C):a3i (b5J A B C):=by
 rintro h h' u m hl ⟨xo,xl,xc,yo,yl,yc,s,a,n,c,d,k,e,rfl,h1,h2,h3⟩;exact⟨xo,xl,xc,yo,yl,yc,s,a,n,c,d,k,e,rfl,hA _ _ _ _ hl h1,hB _ _ _ _ hl h2,hC _ _ _ _ hl h3⟩
theorem b7d.mono:a3i b7d:=b5J.mono MV.mono RV.mono QV.mono
theorem b6L.mono:a3i b6L:=b5J.mono MC.mono RC.mono QC.mono
def BMo (B:Nat) (m:Go.Lin.Mom):Prop:=BM B m.xx/\BR B m.xy/\hq m.yy<=B
theorem b6L.mv {h:Mem} {u:Value} {m:Go.Lin.Mom} (s:b6L h u m) (hb:BMo 68719476736 m):b7d h u m:=by
 obtain⟨xo,xl,xc,yo,yl,yc,s,a,n,c,d,k,e,rfl,h1,h2,h3⟩:=s;exact⟨xo,xl,xc,yo,yl,yc,s,a,n,c,d,k,e,rfl,h1.mv hb.1,h2.rv hb.2.1,h3.qv hb.2.2⟩
end Go.Rep
namespace Go.Lin
structure Fit where
 rank:Nat
 used:List Bool
 coef:List Rat
 res:List Rat
 rss:Rat
 lev:List Rat
end Go.Lin
namespace Go.Rep
def b7A (h:Mem) (v:Value) (f:Go.Lin.Fit):Prop:=
 ∃uo uc co cl cc ro rl rc s a n c d k e lo ll lc,v= .agg #[.int .i64 (f.rank:Int), .slice uo f.used.length uc, .slice co cl cc, .slice ro rl rc, .bool s, .slice a n c, .slice d k e, .slice lo ll lc]/\f.used.length<=uc/\Sl BlR 1 h uo f.used/\RC h (.slice co cl cc) f.coef/\RC h (.slice ro rl rc) f.res/\QC h (.agg #[.bool s, .slice a n c, .slice d k e]) f.rss/\RC h (.slice lo ll lc) f.lev
theorem b7A.mono:a3i b7A:=by
 rintro h h' u f hl ⟨uo,uc,co,cl,cc,ro,rl,rc,s,a,n,c,d,k,e,lo,ll,lc,rfl,h0,h1,h2,h3,h4,h5⟩;exact⟨uo,uc,co,cl,cc,ro,rl,rc,s,a,n,c,d,k,e,lo,ll,lc,rfl,h0,h1.mono BlR.mono hl,RC.mono _ _ _ _ hl h2,RC.mono _ _ _ _ hl h3,QC.mono _ _ _ _ hl h4,RC.mono _ _ _ _ hl h5⟩
open Go.RowKit Go.Lim
section
variable {P:Program} {ops:Array Oper} {Q:Exit->Act->World->Prop} {rest:List Oper} {a:Act} {w:World}
variable {d:Option Tmp} {ty:TypeId} {ps:String} {af:Array Edge}
theorem a3b {o:Oper} {K:Act->World->Prop} {E:Prop} {t:TypeId} {x y:Operand} {n b:Nat} {cs vs:Array Value} {T:TypeId} (hg:o.guard=none) (hop:o.op= .store t x y) (hT:a1L P t n) (hx:a.eval x= .pointer (some ⟨b,0,none⟩)) (hy:a.eval y= .agg vs) (hb:Bx w b cs T) (hcs:cs.size=n) (hvs:vs.size=n) (hone:∀v∈vs.toList,v.oneCell'=true)
  (hK:∀w',Bx w' b vs T->ExtX (ob (some ⟨b,0,none⟩)) w w'->K (a.put o.dst undef) w'):
  if Region.wanted o (yielded ops a.tmps)=true then Oper.wp P o a w K Q else E:=by
 have hw:Region.wanted o (yielded ops a.tmps)=true:=by simp[Region.wanted,hg]
 rw[if_pos hw];obtain⟨w',hr,h1,h2⟩:=a5f (P:=P) hT hb hcs hvs hone;unfold Oper.wp execOp;rw[hop];simp[hx,hy,Instr.storeAt,Instr.sureAddr,hr,Result.andThen];exact hK w' h1 h2
theorem a7G {t:TypeId} {x y:Operand} {b i:Nat} {cs:Array Value} {v:Value} {T:TypeId} (hT:TyI P t 1) (hx:a.eval x= .pointer (some ⟨b,i,none⟩)) (hy:a.eval y=v) (hv:v.cells=#[v]) (hone:v.oneCell'=true) (hb:Bx w b cs T) (hi:i<cs.size)
  (K:∀w',Bx w' b (cs.set i v) T->ExtX (ob (some ⟨b,0,none⟩)) w w'->wpList P ops Q rest (a.put d undef) w'):
  wpList P ops Q (⟨d, .store t x y,ty,ps,af,none⟩::rest) a w:=by
 refine wpList_plain rfl fun K' hK'=>?_;obtain⟨ti,ht,hts⟩:=hT;obtain⟨h1,h2⟩:=a0D hb v hi;have hc:=hb.cell i (u:=cs[i]) (by simp[hi]);have hf:=hb.frozen i;unfold Oper.wp;subst hy;have hr:=run_store P w ⟨b,i,none⟩ (a.eval y) .plain hone;rw[hc,hf]at hr;simp only[Bool.false_eq_true,if_false]at hr;simp[execOp,hx,Instr.storeAt,Instr.sureAddr,storeVar,sizeOf,typeInfo,ht,hts,hv,Result.andThen,storeCells,Addr.add_zero',hr];exact hK' _ _ (K _ h1 h2)
theorem a8x (X:Nat->Bool):un X none=X:=by funext k;simp[un,ob]
end
theorem b1Z (n:Int) (xo yo ao bo:Option Addr) (xl xc yl yc l c k e:Nat) (s:Bool):∀v∈(#[Value.int .i64 n, .slice xo xl xc, .slice yo yl yc, .bool s, .slice ao l c, .slice bo k e]:Array Value).toList,v.oneCell'=true:=by
 intro v hv;simp at hv;rcases hv with rfl|rfl|rfl|rfl|rfl|rfl<;>rfl
end Go.Rep
namespace Go.Proofs.YtoibhmjjhgaimaaGreat
open Go.RowKit Go.Rep
open Go.Lim
theorem b7e (X:Nat->Bool) (w:World) (u v:Value) (x y:Rat) (hX:HX X w) (hu:QV (mk X w) u x) (hv:QV (mk X w) v y):Calls Tryz.prog 64 #[u,v] w (b2F w (decide (b3W x y<0))):=by
 have hlx:=hid hu.hq;have hly:=hid hv.hq;obtain⟨s1,a1,n1,c1,d1,k1,e1,rfl⟩:=hu.shape;obtain⟨s2,a2,n2,c2,d2,k2,e2,rfl⟩:=hv.shape;obtain⟨W,hW,hE,b0,b1,hz⟩:=a1I w #[.bool s1, .slice a1 n1 c1, .slice d1 k1 e1] #[.bool s2, .slice a2 n2 c2, .slice d2 k2 e2] 32 32;have hXW:HX (a0f X w.heap.size 2) W:=hX.boxes hz;have hu1:=QV.mono _ _ _ _ (a0m (nb:=2) hE) hu;have hv1:=QV.mono _ _ _ _ (a0m (nb:=2) hE) hv;obtain⟨b,hb⟩:∃b,w.heap.size=b:=⟨_,rfl⟩;have hbw:w.heap.size<=b:=by omega
 rw[hb]at b0 b1 hz hXW hu1 hv1;have hEd:Ext W W.drew:=(ExtX.refl W).drew;have hXd:HX (a0f X b 2) W.drew:=hXW;have hud:QV (mk (a0f X b 2) W.drew) (.agg #[.bool s1, .slice a1 n1 c1, .slice d1 k1 e1]) x:=hu1;have hvd:QV (mk (a0f X b 2) W.drew) (.agg #[.bool s2, .slice a2 n2 c2, .slice d2 k2 e2]) y:=hv1;have k00:=b0.cell 0 rfl;have k01:=b0.cell 1 rfl;have k02:=b0.cell 2 rfl;have k10:=b1.cell 0 rfl;have k11:=b1.cell 1 rfl;have k12:=b1.cell 2 rfl;clear hu hv;obtain⟨c,hc⟩:∃c:Int,b3W x y=c:=⟨_,rfl⟩;have hq:=b2J (a0f X b 2) W _ _ x y hXW hu1 hv1;rw[hc]at hq |-;clear hEd hXd hud hvd hc;go_enter Tryz.func64,Tryz.ntmps64
 go_wp2_with fail
 refine hq.mono ?_;rintro e w5 ⟨hE5,rfl⟩;clear k00 k01 k02 k10 k11 k12 hq;go_wp2_with fail
 go_ret
 exact⟨hE.trans hE5,rfl⟩
set_option maxRecDepth 100000 in
theorem b7f (X:Nat->Bool) (w:World) (u v:Value) (x y:Rat) (hX:HX X w) (hu:QV (mk X w) u x) (hv:QV (mk X w) v y):Calls Tryz.prog 168 #[u,v] w (a1W X w QC (x/y)):=by
 have hlx:=hid hu.hq;have hly:=hid hv.hq;obtain⟨s1,a1,n1,c1,d1,k1,e1,rfl⟩:=hu.shape;obtain⟨s2,a2,n2,c2,d2,k2,e2,rfl⟩:=hv.shape;obtain⟨W,hW,hE,b0,b1,b2,hz⟩:=a1X w #[.bool s1, .slice a1 n1 c1, .slice d1 k1 e1] #[.bool s2, .slice a2 n2 c2, .slice d2 k2 e2] #[.bool false, .slice none 0 0, .slice none 0 0] 32 32 32;have hXW:HX (a0f X w.heap.size 3) W:=hX.boxes hz;have hu1:=QV.mono _ _ _ _ (a0m (nb:=3) hE) hu;have hv1:=QV.mono _ _ _ _ (a0m (nb:=3) hE) hv;obtain⟨b,hb⟩:∃b,w.heap.size=b:=⟨_,rfl⟩;have hbw:w.heap.size<=b:=by omega
 rw[hb]at b0 b1 b2 hz hXW hu1 hv1;have hEd:Ext W W.drew:=(ExtX.refl W).drew;have hXd:HX (a0f X b 3) W.drew:=hXW;have hud:QV (mk (a0f X b 3) W.drew) (.agg #[.bool s1, .slice a1 n1 c1, .slice d1 k1 e1]) x:=hu1;have hvd:QV (mk (a0f X b 3) W.drew) (.agg #[.bool s2, .slice a2 n2 c2, .slice d2 k2 e2]) y:=hv1;have k00:=b0.cell 0 rfl;have k01:=b0.cell 1 rfl;have k02:=b0.cell 2 rfl;have k10:=b1.cell 0 rfl;have k11:=b1.cell 1 rfl;have k12:=b1.cell 2 rfl;clear hu hv;obtain⟨ec,hec⟩:∃ec:Int,e5 (decide (y=0))=ec:=⟨_,rfl⟩;obtain⟨q,hq⟩:∃q:Rat,x/y=q:=⟨_,rfl⟩;have hd:=b6X (a0f X b 3) W _ _ x y hXW hu1 hv1;rw[hec,hq]at hd;rw[hq];clear hEd hXd hud hvd hec hq;go_enter Tryz.func168,Tryz.ntmps168
 go_wp2_with fail
 refine hd.mono ?_;rintro e w5 ⟨hE5,u5,rfl,hu5⟩;have hu5':=hid hu5;obtain⟨s5,a5,n5,c5,d5,k5,f5,rfl⟩:=hu5.shape;have b5:=b2.ext0 hE5;have FR:Ext w5 (w5.alloc (.cells #[.bool s5, .slice a5 n5 c5, .slice d5 k5 f5] 32)):=(ExtX.refl _).alloc _;have xR:=Bx.new w5 #[.bool s5, .slice a5 n5 c5, .slice d5 k5 f5] 32;have p0:=xR.cell 0 rfl;have p1:=xR.cell 1 rfl;have p2:=xR.cell 2 rfl;have b6:=b5.ext0 FR;clear k00 k01 k02 k10 k11 k12 hd;go_wp2_with ((with_reducible show wpList _ _ _ (⟨_, .store 32 _ _,_,_,_,_⟩::_) _ _);refine a0d a0s rfl rfl b6 rfl rfl (a2n _ _ _ _ _ _ _) ?_;intro w7 r1 r2)
 have h7:=QC.mono _ _ _ _ a0l (QC.mono _ _ _ _ (a0g r2 (by omega) (by omega)) (mkx QC.mono hu5'.out FR));exact bodyPost_ret (a0e rfl rfl a0s r1 rfl) rfl ⟨ExtX.box (hE.trans (hE5.trans FR)) r2 (by omega),_,rfl,h7⟩
set_option maxRecDepth 100000 in
theorem b3b (X:Nat->Bool) (w:World) (u v:Value) (x y:Rat) (hX:HX X w) (hu:QV (mk X w) u x) (hv:QV (mk X w) v y):Calls Tryz.prog 130 #[u,v] w (a1W X w QC (x/y)):=by
 have hlx:=hid hu.hq;have hly:=hid hv.hq;obtain⟨s1,a1,n1,c1,d1,k1,e1,rfl⟩:=hu.shape;obtain⟨s2,a2,n2,c2,d2,k2,e2,rfl⟩:=hv.shape;obtain⟨W,hW,hE,b0,b1,b2,hz⟩:=a1X w #[.bool s1, .slice a1 n1 c1, .slice d1 k1 e1] #[.bool s2, .slice a2 n2 c2, .slice d2 k2 e2] #[.bool false, .slice none 0 0, .slice none 0 0] 32 32 32;have hXW:HX (a0f X w.heap.size 3) W:=hX.boxes hz;have hu1:=QV.mono _ _ _ _ (a0m (nb:=3) hE) hu;have hv1:=QV.mono _ _ _ _ (a0m (nb:=3) hE) hv;obtain⟨b,hb⟩:∃b,w.heap.size=b:=⟨_,rfl⟩;have hbw:w.heap.size<=b:=by omega
 rw[hb]at b0 b1 b2 hz hXW hu1 hv1;have hEd:Ext W W.drew:=(ExtX.refl W).drew;have hXd:HX (a0f X b 3) W.drew:=hXW;have hud:QV (mk (a0f X b 3) W.drew) (.agg #[.bool s1, .slice a1 n1 c1, .slice d1 k1 e1]) x:=hu1;have hvd:QV (mk (a0f X b 3) W.drew) (.agg #[.bool s2, .slice a2 n2 c2, .slice d2 k2 e2]) y:=hv1;have k00:=b0.cell 0 rfl;have k01:=b0.cell 1 rfl;have k02:=b0.cell 2 rfl;have k10:=b1.cell 0 rfl;have k11:=b1.cell 1 rfl;have k12:=b1.cell 2 rfl;clear hu hv;obtain⟨ec,hec⟩:∃ec:Int,e5 (decide (y=0))=ec:=⟨_,rfl⟩;obtain⟨q,hq⟩:∃q:Rat,x/y=q:=⟨_,rfl⟩;have hd:=b7c (a0f X b 3) W _ _ x y hXW hu1 hv1;rw[hec,hq]at hd;rw[hq];clear hEd hXd hud hvd hec hq;go_enter Tryz.func130,Tryz.ntmps130
 go_wp2_with fail
 refine hd.mono ?_;rintro e w5 ⟨hE5,u5,rfl,hu5⟩;have hu5':=hid hu5;obtain⟨s5,a5,n5,c5,d5,k5,f5,rfl⟩:=hu5.shape;have b5:=b2.ext0 hE5;have FR:Ext w5 (w5.alloc (.cells #[.bool s5, .slice a5 n5 c5, .slice d5 k5 f5] 32)):=(ExtX.refl _).alloc _;have xR:=Bx.new w5 #[.bool s5, .slice a5 n5 c5, .slice d5 k5 f5] 32;have p0:=xR.cell 0 rfl;have p1:=xR.cell 1 rfl;have p2:=xR.cell 2 rfl;have b6:=b5.ext0 FR;clear k00 k01 k02 k10 k11 k12 hd;go_wp2_with ((with_reducible show wpList _ _ _ (⟨_, .store 32 _ _,_,_,_,_⟩::_) _ _);refine a0d a0s rfl rfl b6 rfl rfl (a2n _ _ _ _ _ _ _) ?_;intro w7 r1 r2)
 have h7:=QC.mono _ _ _ _ a0l (QC.mono _ _ _ _ (a0g r2 (by omega) (by omega)) (mkx QC.mono hu5'.out FR));exact bodyPost_ret (a0e rfl rfl a0s r1 rfl) rfl ⟨ExtX.box (hE.trans (hE5.trans FR)) r2 (by omega),_,rfl,h7⟩
end Go.Proofs.YtoibhmjjhgaimaaGreat
namespace Go
section
variable {P:Program} {ops:Array Oper} {Q:Exit->Act->World->Prop} {md:Region.Mode} {S:World->Prop} {n:Nat}
def b6M (l:Array Bool):Nat:=l.toList.count false
def b7N {T:Type} [DecidableEq T] (md:Region.Mode) (ops:Array Oper) (all:List T) (L:T->Array Bool) (next:T->Nat->Option T) (fin:T->Bool):Bool:=
 all.all fun s=>fin s||(!(Region.ready md ops (L s)).isEmpty&&(Region.ready md ops (L s)).all fun i=>match next s i with
  |some t=>decide (t∈all)&&decide (L t=(L s).setIfInBounds i true)&&decide (b6M (L t)+1=b6M (L s))
  |none=>false)
theorem a1C {i:Nat} {o:Oper} {K:Act->World->Prop} {a:Act} {w:World} (ho:ops[i]? =some o)
  (h:∀K':Act->World->Prop,Shut (∀a w,K a w->K' a w)->if Region.wanted o (yielded ops a.tmps)=true then Oper.wp P o a w K' Q else K' (a.put o.dst undef) w):wpOp P ops Q i K a w:=wpOp_step ho fun K' hK=>h K' hK
theorem a6u {T:Type} [DecidableEq T] {I:T->Act->World->Prop} (all:List T) (L:T->Array Bool) (next:T->Nat->Option T) (fin:T->Bool) (hc:b7N md ops all L next fin=true)
  (hstep:∀s i t a w,s∈all->next s i=some t->I s a w->wpOp P ops Q i (fun a' w'=>S w'/\I t a' w') a w)
  (hexit:∀s a w,s∈all->fin s=true->I s a w->a2q P md ops Q S n (b6M (L s)) (L s) a w):
  ∀(fuel:Nat) (s:T) (a:Act) (w:World),s∈all->b6M (L s)=fuel->I s a w->a2q P md ops Q S n fuel (L s) a w:=by
 intro fuel
 induction fuel with
 |zero=>
  intro s a w hs hf hI;have h:=List.all_eq_true.1 hc s hs;cases hfin:fin s
  ·rw[hfin,Bool.false_or]at h
   obtain⟨h1,h2⟩:=(Bool.and_eq_true _ _).mp h;cases hr:Region.ready md ops (L s)with
   |nil=>rw[hr]at h1;cases h1
   |cons i r=>
    have h3:=List.all_eq_true.1 h2 i (by rw[hr];exact List.mem_cons_self);cases hn:next s i with
    |none=>rw[hn]at h3;cases h3
    |some t=>
     rw[hn]at h3;obtain⟨_,h5⟩:=(Bool.and_eq_true _ _).mp h3;have:=of_decide_eq_true h5;omega
  ·have:=hexit s a w hs hfin hI
   rwa[hf]at this
 |succ fuel ih=>
  intro s a w hs hf hI;have h:=List.all_eq_true.1 hc s hs;cases hfin:fin s
  ·rw[hfin,Bool.false_or]at h
   obtain⟨h1,h2⟩:=(Bool.and_eq_true _ _).mp h;refine⟨fun h0=>(by rw[h0]at h1;cases h1),fun i hi=>?_⟩;have h3:=List.all_eq_true.1 h2 i hi;cases hn:next s i with
   |none=>rw[hn]at h3;cases h3
   |some t=>
    rw[hn]at h3;obtain⟨h4,h5⟩:=(Bool.and_eq_true _ _).mp h3;obtain⟨h6,h7⟩:=(Bool.and_eq_true _ _).mp h4;have e1:=of_decide_eq_true h5;have e2:=of_decide_eq_true h6;have e3:=of_decide_eq_true h7;refine wpOp_mono (fun a' w' h=>⟨fun _=>h.1,?_⟩) (hstep s i t a w hs hn hI);rw[<-e3];exact ih t a' w' e2 (by omega) h.2
  ·have:=hexit s a w hs hfin hI
   rwa[hf]at this
end
end Go
namespace Go.Rep
open Go.RowKit
section
variable {P:Program} {ops:Array Oper} {Q:Exit->Act->World->Prop} {rest:List Oper} {a:Act} {w:World}
variable {α:Type} {R:Mem->Value->α->Prop} {sz:Nat} {X:Nat->Bool} {base:Nat} {e:TypeId} {ao:Option Addr} {cap:Nat} {l:List α}
variable {d:Option Tmp} {ty:TypeId} {ps:String} {af:Array Edge}
theorem a4R {w':World} {g:Nat} (hE:Ext w w') (hg:w.heap.size<=g):Le (mk X w) (mk (un X (some ⟨g,0,none⟩)) w'):=
 a0N hE (fun k _ hk=>by simp[noY]at hk) fun k hk hz=>by
  by_cases hx:X k=true
  ·exact hx
  ·have:g=k:=by simpa[un,hx,ob]using hz
   omega
theorem a5N {w':World} (h:w.grownBy w' none):Ext w w':=⟨h.os,h.tape,h.output,h.size,fun k hk _=>h.block k hk (by simp)⟩
theorem a2d {t by_:Nat} {z:Value} {arr:Array Value} {s x:Operand} (T:SliceT P t e sz by_ z) (hzs:z.cells.size=sz) (hR:Elem R sz) (hX:∀k,X k=true->k<w.heap.size)
  (hs:a.eval s= .slice ao l.length cap) (hx:a.eval x= .slice (some ⟨w.heap.size,0,none⟩) 1 1) (hcap:cap<=l.length) (hnone:ao=none->l.length=0/\cap=0) (h:Sl R sz (mk X w) ao l)
  (u:Value) (y:α) (harr:arr=u.cells) (hu:R (mk X w) u y) (hroom:(l.length+1)*by_<=140737488355328) (hmax:l.length+1<=9223372036854775807)
  (K:∀ao' cap' w',OL R sz X w.heap.size e w' ao' cap' (l++[y])->Ext w w'->wpList P ops Q rest (a.put d (.slice ao' (l++[y]).length cap')) w'):
  wpList P ops Q (⟨d, .call {callee:= .builtin .append,args:=#[s,x],argTypes:=#[t,t]},ty,ps,af,none⟩::rest) a (w.alloc (.cells arr e)):=by
 have hE:Ext w (w.alloc (.cells arr e)):=(ExtX.refl w).alloc _;obtain⟨i,hi,hz,hsz,hby⟩:=info_parts T.info;obtain⟨us,h1,h2,h3⟩:=(h.mono hR.mono (a0h hE)).at_ hR;have hus:∀v∈us++[u],v.cells.size=sz:=by
  intro v hv;rcases List.mem_append.1 hv with hv|hv
  ·obtain⟨i,hi,rfl⟩:=List.getElem_of_mem hv
   exact hR.size _ _ _ (h3 i hi (by omega))
  ·rw[List.mem_singleton.1 hv];exact hR.size _ _ _ hu
 have hone:∀v∈us++[u],∀c∈a0n v,c.oneCell'=true:=by
  intro v hv;rcases List.mem_append.1 hv with hv|hv
  ·obtain⟨i,hi,rfl⟩:=List.getElem_of_mem hv
   exact hR.one _ _ _ (h3 i hi (by omega))
  ·rw[List.mem_singleton.1 hv];exact hR.one _ _ _ hu
 have hfl:(us.flatMap a0n).length=l.length*sz:=by rw[a0J us (fun v hv=>hus v (List.mem_append_left _ hv)),h1]
 have hnl:(a0n u).length=1*sz:=by simp[a0n,hR.size _ _ _ hu]
 refine wpList_append_grows _ rfl s x t rfl e i z sz by_ T.und hi hz hsz hby hzs hR.pos ao l.length cap (us.flatMap a0n) hs hnone hfl (fun b hb j v hj=>?_) ⟨w.heap.size,0,none⟩ 1 1 (a0n u) hx hnl (fun j v hj=>?_) (fun c hc=>hone u (by simp) c hc) (by omega) (by unfold maxLen;omega) hroom ?_
 ·have hlt:=(List.getElem?_eq_some_iff.1 hj).1
  have hpos:=hR.pos;have hl0:0<l.length:=by
   by_cases hl0:l.length=0
   ·rw[hfl,hl0]at hlt;omega
   ·omega
  obtain⟨g,off,hg⟩:=h.1 hl0;subst hb;have hb:b=⟨g,off,none⟩:=by simpa using hg
  subst hb;rw[<-a4k rfl];exact h2.2 j v hj
 ·have:=(b0C w arr e u harr).2 j v (by simpa using hj)
  rw[<-a4k rfl];exact this
 ·intro v' w' hown hgr
  obtain⟨q1,q2⟩:=hown;have hE2:Ext w w':=hE.trans (a5N hgr);rcases q2 with⟨rfl,hz0⟩|⟨g,c,cur,rfl,q3,q4,q5,q6,q7,q8⟩
  ·exact absurd hz0 (by omega)
  ·have hll:(l++[y]).length=l.length+1:=by simp
   have hOL:OL R sz X w.heap.size e w' (some ⟨g,0,none⟩) c (l++[y]):=by
    refine⟨fun k hk=>?_,us++[u],by simp[h1],hus,hone,?_,fun i hi hi'=>?_⟩
    ·have:g=k:=by simpa[ob]using hk
     cases hh:X k
     ·rfl
     ·have h5:=hX k hh
      simp at q3;omega
    ·rw[hll]
     refine⟨by rw[a0J _ hus];simp[h1], .inr ⟨g,c,cur,rfl,by simp at q3;omega,q4,q5,q6,q7,?_⟩⟩;rw[List.flatMap_append];simpa using q8
    ·have hle:Le (mk X w) (mk (un X (some ⟨g,0,none⟩)) w'):=a4R hE2 (by simp at q3;omega)
     by_cases hlt:i<us.length
     ·simp only[List.getElem_append_left hlt,List.getElem_append_left (show i<l.length by omega)]
      exact hR.mono _ _ _ _ (a4R (w:=w.alloc (.cells arr e)) (w':=w') (a5N hgr) q3) (h3 i hlt (by omega))
     ·have hi2:i=us.length:=by simp at hi;omega
      subst hi2;have:=hR.mono _ _ _ _ hle hu;simpa[List.getElem_append_right,h1]using this
   have:=K _ _ _ hOL hE2;rw[hll]at this;exact this
theorem a5O {t by_:Nat} {z:Value} {s x:Operand} {asl:Option Addr} {cs n m:Nat} (T:SliceT P t e sz by_ z) (hzs:z.cells.size=sz) (hR:Elem R sz) (hX:∀k,X k=true->k<w.heap.size)
  (xs:List α) (hs:a.eval s= .slice ao n cap) (hx:a.eval x= .slice asl m cs) (hn:n=l.length) (hm:m=xs.length) (hpos:0<xs.length) (hcap:cap<=l.length) (h:Sl R sz (mk X w) ao l) (hxs:Sl R sz (mk X w) asl xs)
  (hroom:(l.length+xs.length)*by_<=140737488355328) (hmax:l.length+xs.length<=9223372036854775807)
  (K:∀ao' cap' w',OL R sz X w.heap.size e w' ao' cap' (l++xs)->Ext w w'->wpList P ops Q rest (a.put d (.slice ao' (l++xs).length cap')) w'):
  wpList P ops Q (⟨d, .call {callee:= .builtin .append,args:=#[s,x],argTypes:=#[t,t]},ty,ps,af,none⟩::rest) a w:=by
 subst hn;subst hm;obtain⟨i,hi,hz,hsz,hby⟩:=info_parts T.info;obtain⟨us,h1,h2,h3⟩:=h.at_ hR;obtain⟨vs,g1,g2,g3⟩:=hxs.at_ hR;have hus:∀v∈us++vs,v.cells.size=sz:=by
  intro v hv;rcases List.mem_append.1 hv with hv|hv
  ·obtain⟨i,hi,rfl⟩:=List.getElem_of_mem hv
   exact hR.size _ _ _ (h3 i hi (by omega))
  ·obtain⟨i,hi,rfl⟩:=List.getElem_of_mem hv
   exact hR.size _ _ _ (g3 i hi (by omega))
 have hone:∀v∈us++vs,∀c∈a0n v,c.oneCell'=true:=by
  intro v hv;rcases List.mem_append.1 hv with hv|hv
  ·obtain⟨i,hi,rfl⟩:=List.getElem_of_mem hv
   exact hR.one _ _ _ (h3 i hi (by omega))
  ·obtain⟨i,hi,rfl⟩:=List.getElem_of_mem hv
   exact hR.one _ _ _ (g3 i hi (by omega))
 have hfl:(us.flatMap a0n).length=l.length*sz:=by rw[a0J us (fun v hv=>hus v (List.mem_append_left _ hv)),h1]
 have hnl:(vs.flatMap a0n).length=xs.length*sz:=by rw[a0J vs (fun v hv=>hus v (List.mem_append_right _ hv)),g1]
 obtain⟨sb,so,rfl⟩:=hxs.1 hpos;refine wpList_append_grows _ rfl s x t rfl e i z sz by_ T.und hi hz hsz hby hzs hR.pos ao l.length cap (us.flatMap a0n) hs (fun e=>by
  have:l.length=0:=by
   by_cases h0:0<l.length
   ·obtain⟨b,off,hb⟩:=h.1 h0
    rw[e]at hb;simp at hb
   ·omega
  exact⟨this,by omega⟩) hfl (fun b hb j v hj=>?_) ⟨sb,so,none⟩ xs.length cs (vs.flatMap a0n) hx hnl (fun j v hj=>?_) (fun c hc=>by
   obtain⟨v,hv,hcv⟩:=List.mem_flatMap.1 hc;exact hone v (List.mem_append_right _ hv) c hcv) (by omega) (by unfold maxLen;omega) hroom ?_
 ·have hlt:=(List.getElem?_eq_some_iff.1 hj).1
  have hpos:=hR.pos;have hl0:0<l.length:=by
   by_cases hl0:l.length=0
   ·rw[hfl,hl0]at hlt;omega
   ·omega
  obtain⟨g,off,hg⟩:=h.1 hl0;subst hb;have hb:b=⟨g,off,none⟩:=by simpa using hg
  subst hb;rw[<-a4k rfl];exact h2.2 j v hj
 ·rw[<-a4k rfl];exact g2.2 j v hj
 ·intro v' w' hown hgr
  obtain⟨q1,q2⟩:=hown;have hE2:Ext w w':=a5N hgr;rcases q2 with⟨rfl,hz0⟩|⟨g,c,cur,rfl,q3,q4,q5,q6,q7,q8⟩
  ·exact absurd hz0 (by omega)
  ·have hll:(l++xs).length=l.length+xs.length:=by simp
   have hOL:OL R sz X w.heap.size e w' (some ⟨g,0,none⟩) c (l++xs):=by
    refine⟨fun k hk=>?_,us++vs,by simp[h1,g1],hus,hone,?_,fun i hi hi'=>?_⟩
    ·have:g=k:=by simpa[ob]using hk
     cases hh:X k
     ·rfl
     ·have h5:=hX k hh
      omega
    ·rw[hll]
     refine⟨by rw[a0J _ hus];simp[h1,g1], .inr ⟨g,c,cur,rfl,q3,q4,q5,q6,q7,?_⟩⟩;rw[List.flatMap_append];simpa using q8
    ·have hle:Le (mk X w) (mk (un X (some ⟨g,0,none⟩)) w'):=a4R hE2 q3
     by_cases hlt:i<us.length
     ·simp only[List.getElem_append_left hlt,List.getElem_append_left (show i<l.length by omega)]
      exact hR.mono _ _ _ _ hle (h3 i hlt (by omega))
     ·have hb1:i - us.length<vs.length:=by simp at hi;omega
      have:=hR.mono _ _ _ _ hle (g3 (i - us.length) hb1 (by omega));simpa[List.getElem_append_right (show us.length<=i by omega),List.getElem_append_right (show l.length<=i by omega),h1]using this
   have:=K _ _ _ hOL hE2;rw[hll]at this;exact this
theorem a4S {t:TypeId} {e:TypeId} {s x:Operand} {asl:Option Addr} {cs n m:Nat} {ti:TypeInfo} (hund:P.underlying t=some (.slice e)) (hi:P.info? e=some ti) (hs:a.eval s= .slice ao n cap) (hx:a.eval x= .slice asl m cs) (hm:m=0) (hc:n<=cap)
  (K:wpList P ops Q rest (a.put d (.slice ao n cap)) w):
  wpList P ops Q (⟨d, .call {callee:= .builtin .append,args:=#[s,x],argTypes:=#[t,t]},ty,ps,af,none⟩::rest) a w:=by
 refine wpList_plain rfl fun K' hK'=>?_;subst hm;unfold Oper.wp execOp;simp only[resolve,invoke,builtin,Sem.run_bind,Sem.run_pure,Result.andThen_ok,List.map_toArray,List.map_cons,List.map_nil,hs,hx];have hr:(Builtin.append_ #[t,t] ty #[.slice ao n cap, .slice asl 0 cs]).run P w= .ok (.slice ao n cap) w:=by
  cases asl with
  |none=>cases ao<;>simp[Builtin.append_,run_underlying hund,sizeOf,typeInfo,hi,Builtin.lenOf,Builtin.firstCells,hc,storeCells]
  |some asl=>cases ao<;>simp[Builtin.append_,run_underlying hund,sizeOf,typeInfo,hi,Builtin.lenOf,Builtin.firstCells,loadCells,loadCellsFrom,hc,storeCells]
 rw[hr];exact hK' _ _ K
theorem OL.slR (_hR:Elem R sz) (h:OL R sz X base e w ao cap l):Sl (fun _ u x=>R (mk (un X ao) w) u x) sz (mk X w) ao l:=by
 refine⟨h.hd,fun i hi=>?_⟩;have hf:=h.form;have hx:=h.1;obtain⟨us,h1,h2,_,h3,h5⟩:=h.cells;have hi':i<us.length:=by omega
 refine⟨us[i],h2 _ (List.getElem_mem _),fun j hj=>?_,h5 i hi' hi⟩;have hsz:us[i].cells.size=sz:=h2 _ (List.getElem_mem _);have hget:=a2F us i j hi' h2 (by omega);have hc:(a0n us[i])[j]? =some us[i].cells[j]:=by simp[a0n,hj]
 rw[hc]at hget;have hg:=(h3 _ _ hget).1;unfold mk;have:X (adr ao (i*sz+j)).block=false:=by
  rcases hf with⟨_,_,rfl⟩|⟨g,cur,rfl,_⟩
  ·simp at hi
  ·exact hx _ (by simp[ob,adr])
 rw[this];simpa using hg
theorem OL.field (hR:Elem R sz) (h:OL R sz X base e w ao cap l) (i j:Nat) (hi:i<l.length) (hj:j<sz) (v:Value) (y:α)
  (hu:∀u,R (mk (un X ao) w) u l[i]->∃u',a0n u'=(a0n u).set j v/\R (mk (un X ao) w) u' y):
  (∃v0,w.cell? (adr ao (i*sz+j))=some v0)/\w.frozen? (adr ao (i*sz+j))=false/\Sl R sz (mk X (w.setCell (adr ao (i*sz+j)) v)) ao (l.set i y)/\ExtX (ob ao) w (w.setCell (adr ao (i*sz+j)) v):=by
 obtain⟨us,h1,h2,h22,h3,h5⟩:=h.cells;have hsub:(i+1)*sz<=us.length*sz:=Nat.mul_le_mul_right _ (by omega);rw[Nat.succ_mul]at hsub;have hcell:∀k (hk:k<us.length) q (hq:q<sz),w.cell? (adr ao (k*sz+q))=some (us[k].cells[q]'(by rw[h2 _ (List.getElem_mem _)];exact hq))/\w.frozen? (adr ao (k*sz+q))=false:=by
  intro k hk q hq;have hz:us[k].cells.size=sz:=h2 _ (List.getElem_mem _);have hg:=a2F us k q hk h2 hq;have hc:(a0n us[k])[q]? =some (us[k].cells[q]'(by rw[hz];exact hq)):=by simp[a0n,hz,hq]
  rw[hc]at hg;exact h3 _ _ hg
 have hE:ExtX (ob ao) w (w.setCell (adr ao (i*sz+j)) v):=
  ⟨rfl,rfl,rfl,by simp[World.setCell],fun k hk hy=>Below.heap_setCell _ _ _ _ (fun e=>by
   have hf:=h.form;rcases hf with⟨_,_,rfl⟩|⟨g,cur,rfl,_⟩
   ·simp at hi
   ·subst e;simp[ob]at hy)⟩
 have hX:∀q,X (adr ao q).block=false:=by
  intro q;have hf:=h.form;have hx:=h.1;rcases hf with⟨_,_,rfl⟩|⟨g,cur,rfl,_⟩
  ·simp at hi
  ·exact hx _ (by simp[ob,adr])
 have hi':i<us.length:=by omega
 refine⟨⟨_,(hcell i hi' j hj).1⟩,(hcell i hi' j hj).2,⟨by simpa using h.hd,fun k hk=>?_⟩,hE⟩;have hk':k<us.length:=by simpa[h1]using hk
 have hle:Le (mk (un X ao) w) (mk X (w.setCell (adr ao (i*sz+j)) v)):=a0N hE (fun k _ hk=>a0q hk) fun k _ hk=>a0p hk;by_cases hki:k=i
 ·subst hki
  obtain⟨u',hu1,hu2⟩:=hu us[k] (h5 k hk' (by omega));have hsz':=hR.size _ _ _ hu2;refine⟨u',hsz',fun q hq=>?_,by simpa using hR.mono _ _ _ _ hle hu2⟩;have hq':q<sz:=by omega
  have hget:(a0n u')[q]? =some u'.cells[q]:=by simp[a0n,hq]
  rw[hu1,List.getElem?_set]at hget;unfold mk;rw[hX];by_cases hqj:j=q
  ·subst hqj
   rw[if_pos rfl,if_pos (by simp[a0n,h2 _ (List.getElem_mem hk'),hj])]at hget;have:u'.cells[j]=v:=by simpa using hget.symm
   rw[this];exact World.cell?_setCell_same' w _ v (by rw[(hcell k hk' j hj).1];rfl)
  ·rw[if_neg hqj]at hget
   have hc:=(hcell k hk' q hq').1;have:us[k].cells[q]'(by rw[h2 _ (List.getElem_mem _)];exact hq')=u'.cells[q]:=by
    simpa[a0n]using(List.getElem?_eq_some_iff.1 hget).2
   rw[this]at hc;rw[<-hc];exact World.cell?_setCell_other w _ _ v (by simp[adr])
 ·have hz:us[k].cells.size=sz:=h2 _ (List.getElem_mem _)
  refine⟨us[k],hz,fun q hq=>?_,by simpa[List.getElem_set,Ne.symm hki]using hR.mono _ _ _ _ hle (h5 k hk' (by simpa using hk))⟩;have hc:=(hcell k hk' q (by omega)).1;unfold mk;rw[hX,<-hc];refine World.cell?_setCell_other w _ _ v ?_;have hne:k*sz+q≠i*sz+j:=by
   intro he;rcases Nat.lt_or_gt_of_ne hki with hlt|hlt
   ·have:=Nat.mul_le_mul_right sz (show k+1<=i by omega)
    rw[Nat.succ_mul]at this;omega
   ·have:=Nat.mul_le_mul_right sz (show i+1<=k by omega)
    rw[Nat.succ_mul]at this;omega
  simp[adr]
theorem a7b {t:TypeId} {x y:Operand} {A:Addr} {v v0:Value} (hT:TyI P t 1) (hx:a.eval x= .pointer (some A)) (hy:a.eval y=v) (hv:v.cells=#[v]) (hone:v.oneCell'=true) (hc:w.cell? A=some v0) (hf:w.frozen? A=false)
  (K:wpList P ops Q rest (a.put d undef) (w.setCell A v)):
  wpList P ops Q (⟨d, .store t x y,ty,ps,af,none⟩::rest) a w:=by
 refine wpList_plain rfl fun K' hK'=>?_;obtain⟨ti,ht,hts⟩:=hT;unfold Oper.wp;subst hy;have hr:=run_store P w A (a.eval y) .plain hone;rw[hc,hf]at hr;simp only[Bool.false_eq_true,if_false]at hr;simp[execOp,hx,Instr.storeAt,Instr.sureAddr,storeVar,sizeOf,typeInfo,ht,hts,hv,Result.andThen,storeCells,Addr.add_zero',hr];exact hK' _ _ K
theorem a3T {t by_:Nat} {z:Value} (T:SliceT P t e sz by_ z) (len cap i:Nat) (k1 k2:IntKind) (h:i<=cap) (w:World):
  (Instr.sliceAt t (.slice ao len cap) none (some (.int k1 (i:Int))) (some (.int k2 (i:Int)))).run P w= .ok (.slice ao i i) w:=by
 obtain⟨ti,hi,hz,hsz,hby⟩:=info_parts T.info;have h1':(i:Int)<=cap:=by omega
 simp[Instr.sliceAt,Instr.slice,run_underlying T.und,Instr.sliceBounds,run_sliceBound,h1',sizeOf,typeInfo,hi];cases ao<;>simp[Addr.add_zero']
theorem a5Z {t by_:Nat} {z:Value} (T:SliceT P t e sz by_ z) (len cap:Nat) (k1 k2:IntKind) (h:len<=cap) (w:World):
  (Instr.sliceAt t (.slice ao len cap) none (some (.int k1 (len:Int))) (some (.int k2 (len:Int)))).run P w= .ok (.slice ao len len) w:=by
 obtain⟨ti,hi,hz,hsz,hby⟩:=info_parts T.info;have h1':(len:Int)<=cap:=by omega
 simp[Instr.sliceAt,Instr.slice,run_underlying T.und,Instr.sliceBounds,run_sliceBound,h1',sizeOf,typeInfo,hi];cases ao<;>simp[Addr.add_zero']
theorem a7c {t by_:Nat} {z:Value} {x hi_ mx:Operand} {k1 k2:IntKind} {m n:Int} (T:SliceT P t e sz by_ z) (len:Nat) (hx:a.eval x= .slice ao len cap)
  (hhi:a.eval hi_= .int k1 m) (hm:m=(len:Int)) (hmx:a.eval mx= .int k2 n) (hn:n=(len:Int)) (hc:len<=cap)
  (K:wpList P ops Q rest (a.put d (.slice ao len len)) w):
  wpList P ops Q (⟨d, .slice t x none (some hi_) (some mx),ty,ps,af,none⟩::rest) a w:=by
 refine wpList_plain rfl fun K' hK'=>?_;subst hm;subst hn;have hr:=a5Z (P:=P) (ao:=ao) T len cap k1 k2 hc w;unfold Oper.wp;simp[execOp,hx,hhi,hmx,hr,Result.andThen];exact hK' _ _ K
end
end Go.Rep
namespace Go.Rep
open Go.RowKit
section
variable {P:Program} {ops:Array Oper} {Q:Exit->Act->World->Prop} {rest:List Oper} {a:Act} {w:World}
variable {α:Type} {R:Mem->Value->α->Prop} {sz:Nat} {X:Nat->Bool} {e:TypeId}
variable {d:Option Tmp} {ty:TypeId} {ps:String} {af:Array Edge}
theorem a8y {t by_:Nat} {z:Value} {s x:Operand} {asl:Option Addr} {cs m:Nat} (T:SliceT P t e sz by_ z) (hzs:z.cells.size=sz) (hR:Elem R sz) (hX:∀k,X k=true->k<w.heap.size)
  (xs:List α) (hs:a.eval s= .slice none 0 0) (hx:a.eval x= .slice asl m cs) (hm:m=xs.length)
  (hxs:Sl R sz (mk X w) asl xs) (hroom:m*by_<=140737488355328) (hmax:m<=9223372036854775807)
  (K:∀ao' cap' w',OL R sz X w.heap.size e w' ao' cap' xs->Ext w w'->wpList P ops Q rest (a.put d (.slice ao' m cap')) w'):
  wpList P ops Q (⟨d, .call {callee:= .builtin .append,args:=#[s,x],argTypes:=#[t,t]},ty,ps,af,none⟩::rest) a w:=by
 subst hm;have h0:OL R sz X w.heap.size e w none 0 []:=OL.nil _ _ _ _ _ _;have hun:un X none=X:=by funext k;simp[un,ob]
 refine a1P (l:=[]) T hzs hR (Nat.le_refl _) hX xs hs hx h0 (by rw[hun];exact hxs) (by simpa using hroom) (by simpa using hmax) ?_;intro ao' cap' w' h1 h2 h3;have hE:Ext w w':=h2.weaken fun k _ _=>by simp[ob]
 exact K ao' cap' w' h1 hE
theorem OL.rehide {base cap:Nat} {ao:Option Addr} {l:List α} (hR:Elem R sz) (hR0:∀h h' u x,R h u x->R h' u x) (h:OL R sz X base e w ao cap l) {Z:Nat->Bool} (hz:∀k,ob ao k=true->Z k=false):Sl R sz (mk Z w) ao l:=by
 have hf:=h.form;have hs:=h.sl hR;rcases hf with⟨rfl,_,rfl⟩|⟨g,cur,rfl,_⟩
 ·exact Sl.nil _ _ _ _
 ·refine⟨hs.1,fun i hi=>?_⟩
  obtain⟨u,h1,h2,h3⟩:=hs.2 i hi;refine⟨u,h1,fun j hj=>?_,hR0 _ _ _ _ h3⟩;have:=a1w (h2 j hj);unfold mk;rw[hz _ (by simp[ob,adr])];simpa using this
theorem OL.beside {base cap:Nat} {ao oo oo':Option Addr} {l:List α} {w':World} (hR:Elem R sz) (h:OL R sz (un X oo) base e w ao cap l) (hE:ExtX (ob oo) w w') (ho:oo'=oo\/∃g,oo'=some ⟨g,0,none⟩/\w.heap.size<=g):OL R sz (un X oo') base e w' ao cap l:=
 h.ext hR hE (fun k _ hk=>a0q hk) fun k hk hz=>by
  rcases ho with rfl|⟨g,rfl,hg⟩
  ·exact hz
  ·by_cases hx:X k=true
   ·exact a0p hx
   ·have:g=k:=by simpa[un,hx,ob]using hz
    omega
end
end Go.Rep
namespace Go.Lim
def a0Z:Nat->Nat->Int->List (List Int)
 |_,0,_=>[[]]
 |0,_+1,_=>[]
 |m+1,h+1,lo=>(a0Z m h (lo+1)).map (lo:: ·)++a0Z m (h+1) (lo+1)
theorem a2j:∀(m h:Nat) (lo:Int),(a0Z m h lo).length=ch m h
 |m,0,lo=>by rw[a2y];cases m<;>rfl
 |0,h+1,lo=>rfl
 |m+1,h+1,lo=>by rw[a0Z,ch,List.length_append,List.length_map,a2j m h,a2j m (h+1)]
def up (lo:Int):Nat->List Int
 |0=>[]
 |k+1=>lo::up (lo+1) k
theorem a5P:∀(k:Nat) (lo:Int),(up lo k).length=k
 |0,_=>rfl
 |k+1,lo=>by rw[up,List.length_cons,a5P k]
theorem b1n:∀(k:Nat) (lo:Int) (i:Nat) (hi:i<(up lo k).length),(up lo k)[i]=lo+i
 |0,lo,i,hi=>by simp[up]at hi
 |k+1,lo,0,hi=>by simp[up]
 |k+1,lo,i+1,hi=>by
  simp only[up,List.getElem_cons_succ];rw[b1n k (lo+1) i];omega
theorem a3G (m:Nat) (lo:Int):a0Z m 0 lo= [[]]:=by cases m<;>rfl
theorem a3c:∀(m h:Nat) (lo:Int),(a0Z m h lo)[0]? =if h<=m then some (up lo h)else none
 |m,0,lo=>by rw[a3G];simp[up]
 |0,h+1,lo=>by simp[a0Z]
 |m+1,h+1,lo=>by
  rw[a0Z];have h1:=a3c m h (lo+1);by_cases hm:h<=m
  ·rw[if_pos hm]at h1
   obtain⟨hl,h2⟩:=List.getElem?_eq_some_iff.1 h1;rw[List.getElem?_append_left (by simpa using hl),List.getElem?_map,h1,if_pos (by omega)];rfl
  ·rw[if_neg hm]at h1
   have he:a0Z m h (lo+1)= []:=by
    rw[List.getElem?_eq_none_iff]at h1;exact List.eq_nil_of_length_eq_zero (by omega)
   rw[he,List.map_nil,List.nil_append,a3c m (h+1),if_neg (by omega),if_neg (by omega)]
theorem a2R:∀(m h:Nat) (lo:Int) (l:List Int),l∈a0Z m h lo->l.length=h/\(∀x∈l,lo<=x/\x<lo+m)/\l.Pairwise (· < ·)
 |m,0,lo,l,hl=>by
  rw[a3G,List.mem_singleton]at hl;subst hl;simp
 |0,h+1,lo,l,hl=>by simp[a0Z]at hl
 |m+1,h+1,lo,l,hl=>by
  rw[a0Z,List.mem_append,List.mem_map]at hl;rcases hl with⟨r,hr,rfl⟩|hl
  ·obtain⟨h1,h2,h3⟩:=a2R m h (lo+1) r hr
   refine⟨by simp[h1],fun x hx=>?_,List.pairwise_cons.2 ⟨fun x hx=>?_,h3⟩⟩
   ·rcases List.mem_cons.1 hx with rfl|hx
    ·omega
    ·have:=h2 x hx;omega
   ·have:=h2 x hx;omega
  ·obtain⟨h1,h2,h3⟩:=a2R m (h+1) (lo+1) l hl
   exact⟨h1,fun x hx=>by have:=h2 x hx;omega,h3⟩
def nxt (n:Int):List Int->Option (List Int)
 | []=>none
 |x::r=>match nxt n r with
  |some r'=>some (x::r')
  |none=>if x+r.length+1<n then some (up (x+1) (r.length+1))else none
theorem a4A:∀(m h:Nat) (lo:Int) (k:Nat) (hk:k<(a0Z m h lo).length),nxt (lo+m) (a0Z m h lo)[k]=(a0Z m h lo)[k+1]?
 |m,0,lo,k,hk=>by
  have:(a0Z m 0 lo).length=1:=by rw[a3G];rfl
  have hk0:k=0:=by omega
  subst hk0;simp[a3G,nxt]
 |0,h+1,lo,k,hk=>by simp[a0Z]at hk
 |m+1,h+1,lo,k,hk=>by
  have hA:(List.map (fun x=>lo::x) (a0Z m h (lo+1))).length=(a0Z m h (lo+1)).length:=List.length_map ..;have e1:lo+((m+1:Nat):Int)=lo+1+m:=by omega
  rw[e1];by_cases hlt:k<(a0Z m h (lo+1)).length
  ·have h1:=a4A m h (lo+1) k hlt
   have hlen:=(a2R m h (lo+1) _ (List.getElem_mem hlt)).1;simp only[a0Z];rw[List.getElem_append_left (by rw[hA];exact hlt),List.getElem_map,nxt,h1];by_cases hlt2:k+1<(a0Z m h (lo+1)).length
   ·rw[List.getElem?_append_left (by rw[hA];exact hlt2),List.getElem?_map,List.getElem?_eq_getElem hlt2]
    rfl
   ·rw[List.getElem?_eq_none (by omega)]
    rw[List.getElem?_append_right (by rw[hA];omega),show k+1 - (List.map (fun x=>lo::x) (a0Z m h (lo+1))).length=0 by rw[hA];omega,a3c m (h+1)];simp only[hlen];by_cases hm:h+1<=m
    ·rw[if_pos hm,if_pos (by omega)]
    ·rw[if_neg hm,if_neg (by omega)]
  ·have hk':k - (a0Z m h (lo+1)).length<(a0Z m (h+1) (lo+1)).length:=by
    simp only[a0Z,List.length_append,List.length_map]at hk;omega
   have h1:=a4A m (h+1) (lo+1) _ hk';simp only[a0Z];rw[List.getElem_append_right (by rw[hA];omega),List.getElem?_append_right (by rw[hA];omega)];simp only[hA];rw[h1,show k+1 - (a0Z m h (lo+1)).length=k - (a0Z m h (lo+1)).length+1 by omega]
theorem a7d (n:Int):∀(l:List Int),(∀q (hq:q<l.length),l[q]=n - l.length+q)->nxt n l=none
 | [],_=>rfl
 |x::r,h=>by
  have h0:=h 0 (by simp);have hr:=a7d n r (fun q hq=>by
   have:=h (q+1) (by simpa using hq);simp only[List.getElem_cons_succ,List.length_cons]at this;rw[this];omega)
  simp only[List.getElem_cons_zero,List.length_cons]at h0;rw[nxt,hr];simp only;rw[if_neg (by omega)]
theorem a9q (n:Int):∀(l:List Int) (p:Nat) (hp:p<l.length),l[p]<n - l.length+p->(∀q (hq:q<l.length),p<q->l[q]=n - l.length+q)->nxt n l=some (l.take p++up (l[p]+1) (l.length - p))
 | [],p,hp,_,_=>by simp at hp
 |x::r,0,hp,h0,h=>by
  have hr:=a7d n r (fun q hq=>by
   have:=h (q+1) (by simpa using hq) (by omega);simp only[List.getElem_cons_succ,List.length_cons]at this;rw[this];omega)
  simp only[List.getElem_cons_zero,List.length_cons]at h0;rw[nxt,hr];simp only;rw[if_pos (by omega)];simp
 |x::r,p+1,hp,h0,h=>by
  simp only[List.getElem_cons_succ,List.length_cons]at h0;have hr:=a9q n r p (by simpa using hp) (by omega) (fun q hq hpq=>by
   have:=h (q+1) (by simpa using hq) (by omega);simp only[List.getElem_cons_succ,List.length_cons]at this;rw[this];omega)
  rw[nxt,hr];simp
theorem b1o (m h:Nat) (lo:Int):∀l∈a0Z m h lo,∀q (hq:q<l.length),l[q]<=lo+m - h+q:=by
 intro l hl q hq;obtain⟨h1,h2,h3⟩:=a2R m h lo l hl;have key:∀d,q+d<l.length->l[q]+d<=l[q+d]! :=by
  intro d
  induction d with
  |zero=>intro hd;simp[getElem!_pos,hq]
  |succ d ih=>
   intro hd;have e:=ih (by omega);have e2:=List.pairwise_iff_getElem.1 h3 (q+d) (q+d+1) (by omega) (by omega) (by omega);rw[getElem!_pos l (q+d) (by omega)]at e;rw[getElem!_pos l (q+(d+1)) (by omega)];have e3:l[q+(d+1)]'(by omega)=l[q+d+1]'(by omega):=rfl;rw[e3];omega
 have e:=key (l.length - 1 - q) (by omega);rw[getElem!_pos l _ (by omega)]at e;have e2:=(h2 _ (List.getElem_mem (show q+(l.length - 1 - q)<l.length by omega))).2;omega
end Go.Lim
namespace Go.Proofs.YtoibhmjjhgaimaaGreat
open Go.RowKit Go.Rep Go.Lim
theorem a8z (X:Nat->Bool) (ao:Option Addr) (l:List Int) (cap:Nat) (w:World) (hs:Sl (a0i .i64) 1 (mk X w) ao l) (hl:l.length<=1099511627776) (hX:∀k,X k=true->k<w.heap.size):
  Calls Tryz.prog 84 #[.slice ao l.length cap] w (fun e w'=>Ext w w'/\∃bo c,e= .returned (.slice bo l.length c)/\l.length<=c/\OL (a0i .i64) 1 X w.heap.size 3 w' bo c l):=by
 go_enter Tryz.func84,Tryz.ntmps84
 go_wp2_with (at_builtin;refine a8y a0S rfl (a0i.elem .i64) hX l rfl rfl rfl hs (by omega) (by omega) ?_;intro a2 c2 w2 hC hE2)
 have hcc:=hC.lenCap;go_ret
 exact⟨hE2,a2,c2,rfl,hcc,hC⟩
def b4d (r:List Nat) (k i j M:Nat):Prop:=r.length=k+1/\∀p (_:p<r.length),r[p]=min (if j<p then ch (i+1) p else ch i p) M
theorem b4d.start (k M:Nat) (hM:1<=M):b4d ((List.replicate (k+1) 0).set 0 1) k 0 k M:=by
 obtain⟨h1,h2⟩:=a2p.start k;refine⟨h1,fun p hp=>?_⟩;have:=h2 p hp;rw[this];have hle:(if k<p then ch (0+1) p else ch 0 p)<=1:=by
  rw[if_neg (by omega)];cases p with
  |zero=>simp[ch]
  |succ p=>simp[ch]
 omega
theorem b4d.step {r:List Nat} {k i j M:Nat} (h:b4d r k i j M) (h0:0<j) (hj:j<=k) {x y:Nat} (hx:r[j]'(by rw[h.1];omega)=x) (hy:r[j - 1]'(by rw[h.1];omega)=y):b4d (r.set j (min (x+y) M)) k i (j - 1) M:=by
 obtain⟨h1,h2⟩:=h;refine⟨by simpa using h1,fun p hp=>?_⟩;have e1:=h2 j (by omega);have e2:=h2 (j - 1) (by omega);rw[if_neg (by omega),hx]at e1;rw[if_neg (by omega),hy]at e2;rw[List.getElem_set];by_cases hp2:j=p
 ·subst hp2
  rw[if_pos rfl,if_pos (by omega)];have e3:ch (i+1) j=ch i (j - 1)+ch i j:=by
   obtain⟨j',rfl⟩:∃j',j=j'+1:=⟨j - 1,by omega⟩;rfl
  rw[e3];omega
 ·rw[if_neg hp2,h2 p (by simpa using hp)]
  by_cases h3:j<p
  ·rw[if_pos h3,if_pos (by omega)]
  ·rw[if_neg h3,if_neg (by omega)]
theorem b4d.next {r:List Nat} {k i M:Nat} (h:b4d r k i 0 M):b4d r k (i+1) k M:=by
 obtain⟨h1,h2⟩:=h;refine⟨h1,fun p hp=>?_⟩;rw[h2 p hp,if_neg (show¬k<p by omega)];by_cases h3:0<p
 ·rw[if_pos h3]
 ·obtain rfl:p=0:=by omega
  rw[if_neg (by omega),a2y,a2y]
end Go.Proofs.YtoibhmjjhgaimaaGreat
namespace Go
section
variable {P:Program} {ops:Array Oper} {Q:Exit->Act->World->Prop} {md:Region.Mode} {S:World->Prop} {n:Nat}
end
end Go
namespace Go.Rep
open Go.RowKit Go.Lim
section
variable {α:Type} {R:Mem->Value->α->Prop} {sz e:Nat}
variable {P:Program} {ops:Array Oper} {Q:Exit->Act->World->Prop} {a:Act} {w:World}
theorem a4B {o:Oper} {K:Act->World->Prop} {E:Prop} {t by_:Nat} {z:Value} {x y:Operand} {kl kc:IntKind} {m:Int} (hg:o.guard=none) (hop:o.op= .makeSlice t x y) (T:SliceT P t e sz by_ z) (hR:Elem R sz) (x0:α) (hz:∀h,R h z x0) (X:Nat->Bool) (hX:∀k,X k=true->k<w.heap.size) (base:Nat) (hbase:base<=w.heap.size)
  (n:Nat) (hl:a.eval x= .int kl m) (hc:a.eval y= .int kc m) (hm:m=(n:Int)) (hroom:by_*n<=281474976710656) (hmax:n<=9223372036854775807)
  (hK:∀ao w',OL R sz X base e w' ao n (List.replicate n x0)->Ext w w'->K (a.put o.dst (.slice ao n n)) w'):
  if Region.wanted o (yielded ops a.tmps)=true then Oper.wp P o a w K Q else E:=by
 have hw:Region.wanted o (yielded ops a.tmps)=true:=by simp[Region.wanted,hg]
 rw[if_pos hw];subst hm;obtain⟨ao,w',hr,h2,h3⟩:=OL.run_make (P:=P) T hR x0 hz hX hbase kl kc n hroom hmax;unfold Oper.wp execOp;rw[hop];simp[hl,hc,hr,Result.andThen];exact hK ao w' h2 h3
end
end Go.Rep
namespace Go.Proofs.YtoibhmjjhgaimaaGreat
open Go.RowKit Go.Rep Go.Lim
set_option maxRecDepth 100000 in
theorem b6r (X:Nat->Bool) (w:World) (u v:Value) (l m:List Rat) (hX:HX X w) (hu:RV (mk X w) u l) (hv:RV (mk X w) v m) (hl:l.length<=1000000) (hml:m.length=l.length):Calls Tryz.prog 157 #[u,v] w (a1W X w RC (List.zipWith (· - ·) l m)):=by
 obtain⟨ao,ca,rfl,hca,hsa⟩:=hu;have hha:=hsa.hd;obtain⟨bo,cb,rfl,hcb,hsb⟩:=hv;have hhb:=hsb.hd;have hml1:m.length<=l.length:=by omega
 have hml2:l.length<=m.length:=by omega
 obtain⟨L,hL⟩:∃L,List.zipWith (· - ·) l m=L:=⟨_,rfl⟩;have hLl:L.length=l.length:=by rw[<-hL];simp;omega
 have hLi:=hid (show∀i (hi:i<l.length) (hj:i<m.length) (hi':i<L.length),L[i]=l[i] - m[i]from fun i hi hj hi'=>by subst hL;simp);rw[hL];have hLl1:L.length<=l.length:=by omega
 have hLl2:l.length<=L.length:=by omega
 have hLl':=hid hLl;clear hL hml hLl;go_enter Tryz.func157,Tryz.ntmps157
 go_wp2_with fail
 go_loopw [5,9] (fun o cc wr=>∃(i:Nat) (oo:Option Addr) (co:Nat),cc= .int .i64 i/\o= .slice oo i co/\i<=l.length/\OL QC 3 X w.heap.size 32 wr oo co (L.take i)/\Ext w wr) (fun _ cc _=>l.length - (intOf cc).toNat)
 case atStart=>exact⟨0,none,0,rfl,rfl,Nat.zero_le _,OL.nil _ _ _ _ _ _,ExtX.refl _⟩
 case round=>
  obtain⟨i,oo,co,rfl,rfl,hi,hO,hE⟩:=hrel;have hXr:HX X wr:=hX.ext hE;have hXu:HX (un X oo) wr:=hO.unX hXr;have hbase:=hE.size;by_cases hlt:i<l.length
  ·have hsr:Sl QV 3 (mk (un X oo) wr) ao l:=hsa.old QV.mono hE (fun j hj=>hO.ob_lt hj)
   have hltL:i<L.length:=by omega
   have htk:=hid (a1V L i hltL);have hln:=hid (a2s (l:=L) (i:=i) (by omega));have hltm:i<m.length:=by omega
   have hsr2:Sl QV 3 (mk (un X oo) wr) bo m:=hsb.old QV.mono hE (fun j hj=>hO.ob_lt hj);obtain⟨g2,o2,s2,a2,n2,c2,d2,k2,e2,hg2,hX2,hc2,hq2⟩:=hsr2.rat QV.shaped i hltm;obtain⟨g1,o1,s1,a1,n1,c1,d1,k1,e1,hg1,hX1,hc1,hq1⟩:=hsr.rat QV.shaped i hlt;have hob1:=(a1p hX1).2;have hobb:=(a1p hX2).2;have i2:∀W,(Instr.indexAt 45 (.slice bo m.length cb) (.int .i64 (i:Int))).run Tryz.prog W= .ok (.pointer (some ⟨g2,o2,none⟩)) W:=by rw[<-hg2];exact a0k a1c bo m.length cb .i64 i hhb (by omega)
   have i1:∀W,(Instr.indexAt 45 (.slice ao l.length ca) (.int .i64 (i:Int))).run Tryz.prog W= .ok (.pointer (some ⟨g1,o1,none⟩)) W:=by rw[<-hg1];exact a0k a1c ao l.length ca .i64 i hha (by omega)
   have hEd:Ext wr wr.drew:=(ExtX.refl wr).drew;have hS:Hid (∀Y W',ExtX Y wr.drew W'->Y g1=false->Y g2=false->W'.cell? ⟨g1,o1,none⟩=some (.bool s1)/\W'.cell? ⟨g1,o1+1,none⟩=some (.slice a1 n1 c1)/\W'.cell? ⟨g1,o1+2,none⟩=some (.slice d1 k1 e1)/\W'.cell? ⟨g2,o2,none⟩=some (.bool s2)/\W'.cell? ⟨g2,o2+1,none⟩=some (.slice a2 n2 c2)/\W'.cell? ⟨g2,o2+2,none⟩=some (.slice d2 k2 e2)):=hid fun Y W' h hg hb=>by
    have p1:=hc1.out Y W' ((ExtX.of hEd).trans h) hg;have p2:=hc2.out Y W' ((ExtX.of hEd).trans h) hb;exact⟨p1.1,p1.2.1,p1.2.2,p2.1,p2.2.1,p2.2.2⟩
   obtain⟨k00,k01,k02,k10,k11,k12⟩:=hS.out noY wr.drew (ExtX.refl _) rfl rfl;have hxd:QV (mk (un X oo) wr.drew) (.agg #[.bool s1, .slice a1 n1 c1, .slice d1 k1 e1]) l[i]:=hq1;have hvd:QV (mk (un X oo) wr.drew) (.agg #[.bool s2, .slice a2 n2 c2, .slice d2 k2 e2]) m[i]:=hq2;have hXd:HX (un X oo) wr.drew:=hXu;have hyi:=hLi.out i hlt hltm hltL;rw[hyi]at htk;clear hc1 hg1 hq1 hc2 hg2 hq2;go_wp2_with fail
   go_region_held3 (fun w'=>w'.cell? ⟨g1,o1,none⟩=some (.bool s1)/\w'.cell? ⟨g1,o1+1,none⟩=some (.slice a1 n1 c1)/\w'.cell? ⟨g1,o1+2,none⟩=some (.slice d1 k1 e1)/\w'.cell? ⟨g2,o2,none⟩=some (.bool s2)/\w'.cell? ⟨g2,o2+1,none⟩=some (.slice a2 n2 c2)/\w'.cell? ⟨g2,o2+2,none⟩=some (.slice d2 k2 e2))
    (first|exact hS.out noY _ t1 rfl rfl|exact hS.out noY _ (ExtX.alloc t1 _) rfl rfl|exact hS.out (ob oo) _ ((ExtX.of t1).trans hE7) hob1 hobb|go_keep)
    (first|(go_at_call 111;(with_reducible refine(b7x (un X oo) wr.drew _ _ _ _ hXd hxd hvd).mono ?_);rintro ee w6 ⟨t1,u6,rfl,hu6⟩;obtain⟨s6,a6,n6,c6,d6,k6,e6,rfl⟩:=hu6.shape;have hO6:=hO.ext0 QC.elem (hEd.trans t1);have hb6:=(hEd.trans t1).size;have hX6:=hXr.ext (hEd.trans t1))|(refine a2K (l:=L.take i) rfl (by rfl) a1c rfl QC.elem (by omega) hX6 i hln.out rfl rfl hO6 (.agg #[.bool s6, .slice a6 n6 c6, .slice d6 k6 e6]) (l[i] - m[i]) rfl hu6 (by omega) (by omega) ?_;intro oo2 co2 w7 hO7 hE7 hor))
   have hE8:=(hE.trans (hEd.trans t1)).own hO6 (Nat.le_refl _) hE7;rw[htk.out]at hO7;clear k00 k01 k02 k10 k11 k12;go_wp2_with fail
   go_roundw
   case rel=>exact⟨i+1,oo2,co2,by go_num,by go_num,by omega,hO7,hE8⟩
   case measure=>simp[intOf];omega
  ·have hil:i=l.length:=by omega
   subst hil;rw[List.take_of_length_le (by omega)]at hO;have hc:=hO.lenCap;have hs:=hO.sl QC.elem;go_wp2_with fail
   go_ret
   exact⟨hE,_,rfl,oo,co,by rw[hLl'.out];rfl,hc,hs⟩
end Go.Proofs.YtoibhmjjhgaimaaGreat
