/- reference 06: reduce. Conditions: few rows and columns, numbers of few digits. reference 06: Reduce, Rank, Det. Conditions: few rows and columns, numbers of few digits. reference 03: TakeList, with the slice owned; reference 06: beside, Inverse. Conditions: few rows and columns, numbers of few digits. reference 06: Solve. Conditions: few rows and columns, numbers of few digits. reference 06: Null. Conditions: few rows and columns, numbers of few digits. ref23.Combos: all ascending lists, in order. Conditions: 0 <= h <= n <= 64, not too many. -/
import Derived.Test.YtoibhmjjhgaimaaGreatSaM
import Derived.Deep.DrawnRows
import Derived.Deep.LoopGhost
import Derived.IntWalk
namespace Go.Proofs.YtoibhmjjhgaimaaGreat
open Go.RowKit Go.Rep Go.Lim Go.Lin
attribute [local go_sem↓] Go.wp_at_zero Go.wp_at_succ
def b7v (X:Nat->Bool) (w:World) (S:Sr) (e:Ending) (w':World):Prop:=Ext w w'/\∃oo co po pc uf,e= .returned (.tuple #[.slice oo S.1.length co, .slice po S.2.1.length pc,uf])/\S.1.length<=co/\S.2.1.length<=pc/\Sl RC 1 (mk X w') oo S.1/\Sl (a0a .i64) 1 (mk X w') po S.2.1/\QC (mk X w') uf S.2.2
set_option maxRecDepth 100000 in
set_option maxHeartbeats 1600000 in
theorem b0i (X:Nat->Bool) (w:World) (u:Value) (m:List (List Rat)) (n c:Nat) (hX:HX X w) (hu:MV (mk X w) u m) (hsh:Shp n c m) (hc:a0l m=c) (hn:n<=900) (hcc:c<=900) (hT:a9w m c):Calls Tryz.prog 151 #[u] w (b7v X w (rN m c)):=by
 obtain⟨W,hW,hEW,b0,hz⟩:=a1I w #[.bool false, .slice none 0 0, .slice none 0 0] 32;have hX1:HX (a0e X w.heap.size 1) W:=hX.boxes hz;have hu1:MV (mk (a0e X w.heap.size 1) W) u m:=MV.mono _ _ _ _ (a0q hEW) hu;have htk:=b8r (a0e X w.heap.size 1) W u m hX1 hu1 (by rw[hsh.1];omega) (fun r hr=>by rw[hsh.2 r hr];omega);have hml:=hid hsh.1;have hsh':=hid hsh;have hn0:Hid (n=0->c=0):=hid fun h=>by
  have:m= []:=List.eq_nil_of_length_eq_zero (by rw[hml.out];exact h);rw[<-hc,this];rfl
 obtain⟨B,hB6,hBj⟩:=hT;have hBj':=hid hBj;have hB6':=hid hB6;have hunb:Hid (∀w',Le (mk (a0e X w.heap.size 1) w') (mk X w')):=hid fun w'=>a0k;have hrb:Hid (a0e X w.heap.size 1 w.heap.size=true):=hid (a8n (Nat.le_refl _) (by omega));obtain⟨X1,hX1e⟩:∃X1,a0e X w.heap.size 1=X1:=⟨_,rfl⟩;obtain⟨b,hb⟩:∃b,w.heap.size=b:=⟨_,rfl⟩;rw[hX1e]at hX1 htk hunb hrb;rw[hb]at b0 hrb;have hbW:W.heap.size=b+1:=by rw[<-hb];exact hz
 have hbw':Hid (w.heap.size=b):=hid hb;clear hu hu1 hX1e hz hb hsh hBj hB6;go_enter Tryz.func151,Tryz.ntmps151
 go_wp2_with fail
 refine htk.mono ?_;rintro e w1 ⟨hE1,oo,co,rfl,hO1⟩;have hXu1:HX (un X1 oo) w1:=hO1.unX (hX1.ext hE1);clear hW;rw[hml.out];go_wp2_with fail
 refine(a4b (un X1 oo) w1 1 hXu1 (by decide) (by decide)).mono ?_;rintro e w2 ⟨hE2,u2,rfl,hu2⟩;obtain⟨s2,a2,n2,c2,d2,k2,e2,rfl⟩:=hu2.shape;have bf:=Bx.new w2 #[.bool false, .slice none 0 0, .slice none 0 0] 32;go_wp2_with ((with_reducible show wpList _ _ _ (⟨_, .store _ _ _,_,_,_,_⟩::_) _ _);refine a0c a0w rfl rfl bf rfl rfl (a2C _ _ _ _ _ _ _) ?_;intro w3 r1 r2)
 have hE3:Ext w2 w3:=ExtX.box ((ExtX.refl w2).alloc _) r2 (Nat.le_refl _);have hO2:=hO1.ext0 RC.elem hE2;have hob2:∀k,ob oo k=true->k<w2.heap.size:=fun k hk=>(hO2.block hk).2;obtain⟨fb,hfb⟩:∃fb,w2.heap.size=fb:=⟨_,rfl⟩;obtain⟨base,hbase⟩:∃base,W.heap.size=base:=⟨_,rfl⟩;have hs1:=hE1.size;have hs2:=hE2.size;have hR0:RS X1 w b fb base 45 32 3 w3 oo co none 0 m [] 1:=by
  subst hfb hbase;refine⟨hO2.ext RC.elem hE3 (fun k _ h=>by simp[noY]at h) (fun k hk hz=>?_),OL.nil _ _ _ _ _ _,⟨s2,a2,n2,c2,d2,k2,e2,r1,QC.mono _ _ _ _ (a1g hE3 (fun k _ h=>by simp[noY]at h) fun k hk hz=>?_) hu2⟩,hX1.ext (hE1.trans (hE2.trans hE3)),b0.ext0 (hE1.trans (hE2.trans hE3)),hrb.out,?_,hEW.trans (hE1.trans (hE2.trans hE3)),?_,?_⟩
  ·by_cases h:X1 k=true
   ·exact h
   ·have h':X1 k=false:=by simpa using h
    have:w2.heap.size=k:=by simpa[un,b0f,ob,h']using hz
    omega
  ·by_cases h:un X1 oo k=true
   ·exact h
   ·have h':un X1 oo k=false:=by simpa using h
    obtain⟨h1,h2⟩:=a0P h';have e1:ob (none:Option Addr) k=false:=rfl;have e2:ob (some ⟨w2.heap.size,0,none⟩) k=(w2.heap.size==k):=rfl;have:w2.heap.size=k:=by simpa[un,a7f,b0f,h1,h2,e1,e2]using hz
    omega
  ·omega
  ·have:=hEW.size;omega
  ·have:=hEW.size;omega
 have hcap:n<=co:=by have:=hO1.lenCap;rw[hml.out]at this;exact this
 have hhO:Hd oo n:=by have:=hO1.hd;rw[hml.out]at this;exact this
 rw[hfb,hbw'.out];clear hO1 hO2 hob2 hu2 bf r1 r2 hE1 hE2 hE3 hs1 hs2 htk b0 hX1 hXu1 hEW hfb hbase hbW;go_loopg [5,7] c (fun g p k wr=>∃(j:Nat) (po:Option Addr) (pc pl:Nat) (M:Mat) (P:List Nat) (f:Rat),k= .int .i64 j/\p= .slice po pl pc/\j+g=c/\Hid (P.length=pl)/\Hid (rN m j=(M,P,f))/\RS X1 w b fb base 45 32 3 wr oo co po pc M P f)
 case atStart=>exact⟨0,none,0,0,m,[],1,rfl,rfl,by omega,hid rfl,hid rfl,hR0⟩
 case round=>
  obtain⟨j,po,pc,pl,M,P,f,rfl,rfl,hj,hpl,hst,hR⟩:=hrel;have hok:=b1Q hsh'.out j;rw[hst.out]at hok;have hM:=hid hok.shp;have hMl:Hid (M.length=n):=hid hM.out.1;have hpn:pl<=n:=by have h1:P.length<=n:=hok.ref.le;rw[hpl.out]at h1;exact h1
  have hBM:=hid (hBj'.out j (by omega));rw[hst.out]at hBM;have hcolM:a0l M=c:=b4r hM.out hn0.out;have hco:=b1w (R:=QC) (un (b0f X1 fb) po) wr (.slice oo n co) M ⟨oo,co,by rw[hMl.out],by rw[hMl.out];exact hcap,hR.rows.sl RC.elem⟩;rw[hcolM]at hco;clear hok hcolM;by_cases hlj:j<c
  ·go_wp2_with fail
   refine hco.mono ?_;rintro e w2 ⟨rfl,rfl⟩;clear hco;go_wp2_with fail
   go_loopw [9] (fun a wx=>∃(t:Nat),a= .int .i64 t/\pl<=t/\t<=n/\Hid (∀i,pl<=i->i<t->ent M i j=0)/\RS X1 w b fb base 45 32 3 wx oo co po pc M P f) (fun a _=>n - (intOf a).toNat)
   case atStart=>exact⟨pl,rfl,Nat.le_refl _,hpn,hid (fun i h1 h2=>by omega),hR⟩
   case round=>
    clear hR;obtain⟨t,rfl,htl,htn,hzz,hR⟩:=hrel;by_cases htt:t<n
    ·have htM:t<M.length:=by rw[hMl.out];exact htt
     obtain⟨a1,c1,k00,f00,hcl1,hq1⟩:=hR.row t htM;have hrl:Hid (M[t].length=c):=hid (hM.out.2 _ (List.getElem_mem _));have hjr:j<M[t].length:=by rw[hrl.out];exact hlj
     have hei:=hid (a7J htM hjr);rw[hrl.out]at k00 hcl1;have hh1:Hd a1 c:=by have:=hq1.hd;rw[hrl.out]at this;exact this
     have hxB:=hid (hBM.out.1 t j);have hZr:=hR.hz;obtain⟨g9,o9,s5,a5,n5,c5,d5,k5,e5,hg9,hX9,hc9,hu5⟩:=hq1.rat QC.shaped j hjr;rw[hei.out]at hu5;obtain⟨x,hx⟩:∃x,ent M t j=x:=⟨_,rfl⟩;rw[hx]at hei hxB hu5;have hx':=hid hx;obtain⟨k10,k11,k12⟩:=hc9.out noY wr (ExtX.refl _) rfl;have i1:∀W,(Instr.indexAt 25 (.slice oo n co) (.int .i64 (t:Int))).run Tryz.prog W= .ok (.pointer (some (adr oo t))) W:=a0A a0o oo n co .i64 t hhO (by omega) rfl;have i2:∀W,(Instr.indexAt 45 (.slice a1 c c1) (.int .i64 (j:Int))).run Tryz.prog W= .ok (.pointer (some ⟨g9,o9,none⟩)) W:=by rw[<-hg9];exact a0h a0J a1 c c1 .i64 j hh1 (by omega)
     clear hx f00 hc9 hg9 hX9;by_cases h0:x=0
     ·have hs0:(x.num.sign==(0:Int))=true:=by rw[h0];rfl
      have hzz2:Hid (∀i,pl<=i->i<t+1->ent M i j=0):=hid fun i h1 h2=>by
       by_cases e:i=t
       ·subst e;rw[hx'.out];exact h0
       ·exact hzz.out i h1 (by omega)
      clear h0;go_wp2_with fail
      refine(a6f (a7f X1 fb po oo) wr _ x hZr (hu5.qv (by have:=hxB.out;have:=hB6'.out;omega))).mono ?_;rintro e w5 ⟨hE5,rfl⟩;have hR5:=hR.ext0 hE5;clear k00 k10 k11 k12 i1 i2;go_wp2_with fail
      go_roundw
      case rel=>exact⟨t+1,by go_num,by omega,by omega,hzz2,hR5⟩
      case measure=>simp[intOf];omega
     ·have hs0:(x.num.sign==(0:Int))=false:=a1S (by intro h;exact h0 (Rat.num_eq_zero.1 (Int.sign_eq_zero_iff_zero.1 h)))
      have hx0:=hid h0;have hne:((t:Int)==(n:Int))=false:=a1S (by omega);clear h0;go_wp2_with fail
      refine(a6f (a7f X1 fb po oo) wr _ x hZr (hu5.qv (by have:=hxB.out;have:=hB6'.out;omega))).mono ?_;rintro e w5 ⟨hE5,rfl⟩;have hR5:=hR.ext0 hE5;clear k00 k10 k11 k12 i1 i2 hR hE5 hZr hq1 hu5 hh1
      go_upto_if 46 with(fail)
      have hplM:pl<M.length:=by rw[hMl.out];omega
      have hpn2:pl<n:=by omega
      have hsw:=hid (b4D htM hplM);have hpiv:Hid (rN m (j+1)=(out (pv (a1b M t pl) pl j) pl j n,P++[j],(if t - pl=0 then f else - f)*ent (a1b M t pl) pl j)):=hid (by
       have e1:pl+(t - pl)=t:=by omega
       have:=c0A hsh'.out hst.out hpl.out (a:=t - pl) (by rw[e1];exact hzz.out) (by omega) (by rw[e1,hx'.out];exact hx0.out);rw[e1]at this;exact this)
      have hM1s:=hid (hM.out.swap htt hpn2);have hB1s:=hid (hBM.out.1.swap hM.out htt hpn2);have hp1:Hid (ent (a1b M t pl) pl j≠0):=hid (by rw[a3h hM.out htt hpn2,if_pos rfl,hx'.out];exact hx0.out);have hfB:=hid hBM.out.2;clear hs0 hne hxB hx0 hei hcl1;go_cut []from 14 to 122 (fun wx=>∃f1,Hid (f1=if t - pl=0 then f else - f)/\RS X1 w b fb base 45 32 3 wx oo co po pc (a1b M t pl) P f1)
      case first=>
       by_cases htp:t=pl
       ·have hne2:((t:Int) !=(pl:Int))=false:=a6k (by omega)
        have hRs:RS X1 w b fb base 45 32 3 w5 oo co po pc (a1b M t pl) P f:=by rw[htp,a5D M pl hplM];exact hR5
        have hff:Hid (f=if t - pl=0 then f else - f):=hid (if_pos (by omega)).symm;clear htp hR5;go_wp2_with fail
        go_meet
        case rel=>exact⟨f,hff,hRs⟩
       ·have hne2:((t:Int) !=(pl:Int))=true:=a5C (by omega)
        have hff:Hid (- f=if t - pl=0 then f else - f):=hid (if_neg (by omega)).symm;obtain⟨ap,cp,y1,fy1,hclp,hqp⟩:=hR5.row pl hplM;obtain⟨ax,cx,y2,fy2,hclx,hqx⟩:=hR5.row t htM;obtain⟨hO1,hE1⟩:=hR5.rows.set1 a4H RC.elem SlV.one t htM (.slice ap M[pl].length cp) M[pl] ⟨ap,cp,rfl,hclp,hqp⟩;obtain⟨u3,k3,f3,hu3⟩:=hO1.cell SlV.one pl (by simpa using hplM);obtain⟨hO2,hE2⟩:=hO1.set1 a4H RC.elem SlV.one pl (by simpa using hplM) (.slice ax M[t].length cx) M[t] ⟨ax,cx,rfl,hclx,hqx.mono QC.mono (a0u hE1 fun k hk=>a0y hk)⟩;have hE6:=(hE1.trans hE2).drew;have hO2:=hO2.ext0 RC.elem (ExtX.refl (Y:=noY) _).drew;rw[hsw.out]at hO2;have hR6:=hR5.setRows hE6 hO2;have i1:∀W,(Instr.indexAt 25 (.slice oo n co) (.int .i64 (t:Int))).run Tryz.prog W= .ok (.pointer (some (adr oo t))) W:=a0A a0o oo n co .i64 t hhO (by omega) rfl;have i2:∀W,(Instr.indexAt 25 (.slice oo n co) (.int .i64 (pl:Int))).run Tryz.prog W= .ok (.pointer (some (adr oo pl))) W:=a0A a0o oo n co .i64 pl hhO (by omega) rfl;clear htp hu3 hO1 hO2 hE1 hE2 hR5 hqp hqx;go_wp2_with fail
        go_region
        obtain⟨w6,hw6⟩:∃w6,((w5.setCell (adr oo t) (.slice ap M[pl].length cp)).setCell (adr oo pl) (.slice ax M[t].length cx)).drew=w6:=⟨_,rfl⟩;rw[hw6]at hR6 |-;obtain⟨sf,af,nf,cf,df,kf,ef,bF,hqF⟩:=hR6.fac;have z0:=bF.cell 0 rfl;have z1:=bF.cell 1 rfl;have z2:=bF.cell 2 rfl;have hZ6:=hR6.hz;clear y1 y2 fy1 fy2 k3 f3 i1 i2 hw6 hE6;go_wp2_with fail
        refine(b3D (a7f X1 fb po oo) w6 _ f hZ6 (hqF.qv (by have:=hfB.out;have:=hB6'.out;omega))).mono ?_;rintro e w7 ⟨hE7,u7,rfl,hu7⟩;obtain⟨s7,a7,n7,c7,d7,k7,e7,rfl⟩:=hu7.shape;have bF7:=bF.ext0 hE7;have hR7:=hR6.ext0 hE7;clear z0 z1 z2 bF;go_wp2_with ((with_reducible show wpList _ _ _ (⟨_, .store _ _ _,_,_,_,_⟩::_) _ _);refine a0c a0w rfl rfl bF7 rfl rfl (a2C _ _ _ _ _ _ _) ?_;intro w8 r1 r2)
        have hR8:=hR7.setFac r2 r1 (QC.mono _ _ _ _ (a0u r2 fun k hk=>a0v (a0v (a0y hk))) hu7)
        go_meet
        case rel=>exact⟨- f,hff,hR8⟩
      case rest=>
       obtain⟨f1,hf1,hR1⟩:=hcut;rw[<-hf1.out]at hpiv;have hf1B:Hid (hq f1<=B):=hid (by rw[hf1.out];split;exact hfB.out;rw[a4D];exact hfB.out);obtain⟨w6,hw6⟩:∃w6,w6=wc:=⟨_,rfl⟩;subst hw6;obtain⟨M1,hM1e⟩:∃M1,a1b M t pl=M1:=⟨_,rfl⟩;rw[hM1e]at hpiv hM1s hB1s hp1 hR1;have hM1l:Hid (M1.length=n):=hid hM1s.out.1;have hpM1:pl<M1.length:=by rw[hM1l.out];exact hpn2
       have hrl1:Hid (M1[pl].length=c):=hid (hM1s.out.2 _ (List.getElem_mem _));have hjp:j<M1[pl].length:=by rw[hrl1.out];exact hlj
       have hei:=hid (a7J hpM1 hjp);have hxB:=hid (hB1s.out pl j);have hpe:Hid (M1.getD pl []=M1[pl]):=hid (a4k hpM1);obtain⟨y,hy⟩:∃y,ent M1 pl j=y:=⟨_,rfl⟩;have hpvd:Hid (pv M1 pl j=M1.set pl (M1[pl].map (· *(((1:Int):Rat)/y)))):=hid (by unfold pv;rw[hpe.out,hy];rfl);rw[hy]at hei hxB hp1 hpiv;have hM2s:=hid (hM1s.out.pv hpn2 j);have hB2s:=hid (hB1s.out.pv hM1s.out hpn2 j);have hrowB:Hid (BR B M1[pl]):=hid (b2g hB1s.out _ (List.getElem_mem _));have i1:∀W,(Instr.indexAt 25 (.slice oo n co) (.int .i64 (pl:Int))).run Tryz.prog W= .ok (.pointer (some (adr oo pl))) W:=a0A a0o oo n co .i64 pl hhO (by omega) rfl;have hEd:Ext w6 w6.drew:=(ExtX.refl w6).drew;clear hR5 hM1e hy hx' hsw;go_upto_region 15 with(fail)
       go_cut []from 14 to 122 (fun wx=>RS X1 w b fb base 45 32 3 wx oo co po pc M1 P (f1*y))
       case first=>
        obtain⟨ap,cp,y1,fy1,hclp,hqp⟩:=hR1.row pl hpM1;obtain⟨g,o,s5,a5,n5,c5,d5,k5,e5,hg,hXg,hcg,hqg⟩:=hqp.rat QC.shaped j hjp;obtain⟨sf,af,nf,cf,df,kf,ef,bF,hqF⟩:=hR1.fac;rw[hei.out]at hqg;rw[hrl1.out]at y1 hclp;have hhp:Hd ap c:=by have:=hqp.hd;rw[hrl1.out]at this;exact this
        have i2:∀W,(Instr.indexAt 45 (.slice ap c cp) (.int .i64 (j:Int))).run Tryz.prog W= .ok (.pointer (some ⟨g,o,none⟩)) W:=by rw[<-hg];exact a0h a0J ap c cp .i64 j hhp (by omega)
        have bFd:=bF.ext0 hEd;have z0:=bFd.cell 0 rfl;have z1:=bFd.cell 1 rfl;have z2:=bFd.cell 2 rfl;obtain⟨k0,k1,k2⟩:=hcg.out noY w6.drew hEd rfl;have y1d:w6.drew.cell? (adr oo pl)=some (.slice ap c cp):=y1;have hRd:=hR1.ext0 hEd;have hZd:=hRd.hz;have hqFv:QV (mk (a7f X1 fb po oo) w6.drew) (.agg #[.bool sf, .slice af nf cf, .slice df kf ef]) f1:=hqF.qv (by have:=hf1B.out;have:=hB6'.out;omega);have hqgv:QV (mk (a7f X1 fb po oo) w6.drew) (.agg #[.bool s5, .slice a5 n5 c5, .slice d5 k5 e5]) y:=hqg.qv (by have:=hxB.out;have:=hB6'.out;omega);clear hqp hg hcg hR1 y1 fy1 bF;go_wp2_with fail
        go_region_with ((go_at_call 77;(with_reducible refine(b3E (a7f X1 fb po oo) w6.drew _ _ f1 y hZd hqFv hqgv).mono ?_);rintro ee w7 ⟨t1,u7,rfl,hu7⟩;obtain⟨s7,a7,n7,c7,d7,k7,e7,rfl⟩:=hu7.shape;have bF7:=bFd.ext0 t1;have g0:=bF7.cell 0 rfl;have g1:=bF7.cell 1 rfl;have g2:=bF7.cell 2 rfl;have h0:=bF7.frozen 0;have h1:=bF7.frozen 1;have h2:=bF7.frozen 2))
        all_goals
         obtain⟨q1,q2⟩:=bF7.set3 (.bool s7) (.slice a7 n7 c7) (.slice d7 k7 e7);have hR8:=(hRd.ext0 t1).setFac q2 q1 (QC.mono _ _ _ _ (a0u q2 fun k hk=>a0v (a0v (a0y hk))) hu7);clear z0 z1 z2 k0 k1 k2 y1d g0 g1 g2 h0 h1 h2 i2;go_wp2_with fail
         go_meet
         case rel=>exact hR8
       case rest=>
        have hf2B:Hid (hq (f1*y)<=2*B):=hid (by have:=hq_mul f1 y;have:=hf1B.out;have:=hxB.out;omega);obtain⟨f2,hf2⟩:∃f2,f1*y=f2:=⟨_,rfl⟩;rw[hf2]at hf2B hcut hpiv;clear hR1 hEd hf2;obtain⟨w7,hw7⟩:∃w7,w7=wc:=⟨_,rfl⟩;subst hw7;have hR2:=hcut;have hEd:Ext w7 w7.drew:=(ExtX.refl w7).drew;clear hcut;go_upto_region 16 with(fail)
        go_cut []from 14 to 122 (fun wx=>RS X1 w b fb base 45 32 3 wx oo co po pc (pv M1 pl j) P f2)
        case first=>
         obtain⟨ap,cp,y1,fy1,hclp,hqp⟩:=hR2.row pl hpM1;obtain⟨g,o,s5,a5,n5,c5,d5,k5,e5,hg,hXg,hcg,hqg⟩:=hqp.rat QC.shaped j hjp;rw[hei.out]at hqg;have hhp:Hd ap c:=by have:=hqp.hd;rw[hrl1.out]at this;exact this
         have i2:∀W,(Instr.indexAt 45 (.slice ap c cp) (.int .i64 (j:Int))).run Tryz.prog W= .ok (.pointer (some ⟨g,o,none⟩)) W:=by rw[<-hg];exact a0h a0J ap c cp .i64 j hhp (by omega)
         have hrp:RV (mk (a7f X1 fb po oo) w7.drew) (.slice ap c cp) M1[pl]:=by
          rw[<-hrl1.out];exact⟨ap,cp,rfl,hclp,hqp.qv fun q hq=>Nat.le_trans (hrowB.out q hq) (by have:=hB6'.out;omega)⟩
         rw[hrl1.out]at y1 hclp;have hS:Hid (∀W',Ext w7.drew W'->W'.cell? (adr oo pl)=some (.slice ap c cp)/\W'.cell? ⟨g,o,none⟩=some (.bool s5)/\W'.cell? ⟨g,o+1,none⟩=some (.slice a5 n5 c5)/\W'.cell? ⟨g,o+2,none⟩=some (.slice d5 k5 e5)):=hid fun W' h=>by
          obtain⟨k0,k1,k2⟩:=hcg.out noY W' (hEd.trans h) rfl;exact⟨(hEd.trans h).cell y1,k0,k1,k2⟩
         obtain⟨y1d,k0,k1,k2⟩:=hS.out w7.drew (ExtX.refl _);have hRd:=hR2.ext0 hEd;have hZd:=hRd.hz;have hqgv:QV (mk (a7f X1 fb po oo) w7.drew) (.agg #[.bool s5, .slice a5 n5 c5, .slice d5 k5 e5]) y:=hqg.qv (by have:=hxB.out;have:=hB6'.out;omega);have h1q:Hid (hq (((1:Int):Rat))<=68719476736):=hid (by decide+kernel);have hqb:Hid (hq (((1:Int):Rat)/y)<=68719476736):=hid (by have h3:=hq_div ((1:Int):Rat) y;have h4:hq (((1:Int):Rat))=1:=(by decide+kernel);have:=hxB.out;have:=hB6'.out;have:=a7u y;omega);have hrl3:Hid (M1[pl].length<=1000000):=hid (by rw[hrl1.out];omega);clear hqp hg hcg hR2 y1 fy1;go_wp2_with fail
         refine a3s 17 (fun w'=>w'.cell? (adr oo pl)=some (.slice ap c cp)/\w'.cell? ⟨g,o,none⟩=some (.bool s5)/\w'.cell? ⟨g,o+1,none⟩=some (.slice a5 n5 c5)/\w'.cell? ⟨g,o+2,none⟩=some (.slice d5 k5 e5)) (by kernel_rfl) (by kernel_rfl) (hS.out _ (ExtX.refl _)) (fun hHeld hOnce=>?_);clear y1d k0 k1 k2;refine a0f hOnce (i:=0) (oi:=⟨_,_,_,_,_,_⟩) (v:=?_) rfl (by kernel_rfl) (fun _ _ _ h=>h) (by assumption) (by rfl) (fun w hSw=>?_) ?_
         rotate_left
         ·(try dsimp only at hSw)
          go_simp
          all_goals with_reducible rfl
         (try simp only[Act.put,List.setIfInBounds_toArray,List.set_cons_zero,List.set_cons_succ])
         refine a0f hOnce (i:=1) (oi:=⟨_,_,_,_,_,_⟩) (v:=?_) rfl (by kernel_rfl) (fun _ _ _ h=>h) (by assumption) (by rfl) (fun w hSw=>?_) ?_
         rotate_left
         ·(try dsimp only at hSw)
          go_simp
          all_goals with_reducible rfl
         (try simp only[Act.put,List.setIfInBounds_toArray,List.set_cons_zero,List.set_cons_succ])
         refine a0f hOnce (i:=2) (oi:=⟨_,_,_,_,_,_⟩) (v:=?_) rfl (by kernel_rfl) (fun _ _ _ h=>h) (by assumption) (by rfl) (fun w hSw=>?_) ?_
         rotate_left
         ·(try dsimp only at hSw)
          go_simp
          all_goals with_reducible rfl
         (try simp only[Act.put,List.setIfInBounds_toArray,List.set_cons_zero,List.set_cons_succ])
         refine a0f hOnce (i:=3) (oi:=⟨_,_,_,_,_,_⟩) (v:=?_) rfl (by kernel_rfl) (fun _ _ _ h=>h) (by assumption) (by rfl) (fun w hSw=>?_) ?_
         rotate_left
         ·(try dsimp only at hSw)
          go_simp
          all_goals with_reducible rfl
         (try simp only[Act.put,List.setIfInBounds_toArray,List.set_cons_zero,List.set_cons_succ])
         refine a0f hOnce (i:=4) (oi:=⟨_,_,_,_,_,_⟩) (v:=?_) rfl (by kernel_rfl) (fun _ _ _ h=>h) (by assumption) (by rfl) (fun w hSw=>?_) ?_
         rotate_left
         ·(try dsimp only at hSw)
          go_simp
          all_goals with_reducible rfl
         (try simp only[Act.put,List.setIfInBounds_toArray,List.set_cons_zero,List.set_cons_succ])
         refine a0f hOnce (i:=5) (oi:=⟨_,_,_,_,_,_⟩) (v:=?_) rfl (by kernel_rfl) (fun _ _ _ h=>h) (by assumption) (by rfl) (fun w hSw=>?_) ?_
         rotate_left
         ·(try dsimp only at hSw)
          go_simp
          all_goals with_reducible rfl
         (try simp only[Act.put,List.setIfInBounds_toArray,List.set_cons_zero,List.set_cons_succ])
         refine a0f hOnce (i:=7) (oi:=⟨_,_,_,_,_,_⟩) (v:=?_) rfl (by kernel_rfl) (fun _ _ _ h=>h) (by assumption) (by rfl) (fun w hSw=>?_) ?_
         rotate_left
         ·(try dsimp only at hSw)
          go_simp
          all_goals with_reducible rfl
         (try simp only[Act.put,List.setIfInBounds_toArray,List.set_cons_zero,List.set_cons_succ])
         refine a0f hOnce (i:=8) (oi:=⟨_,_,_,_,_,_⟩) (v:=?_) rfl (by kernel_rfl) (fun _ _ _ h=>h) (by assumption) (by rfl) (fun w hSw=>?_) ?_
         rotate_left
         ·(try dsimp only at hSw)
          go_simp
          all_goals with_reducible rfl
         (try simp only[Act.put,List.setIfInBounds_toArray,List.set_cons_zero,List.set_cons_succ])
         refine a0f hOnce (i:=9) (oi:=⟨_,_,_,_,_,_⟩) (v:=?_) rfl (by kernel_rfl) (fun _ _ _ h=>h) (by assumption) (by rfl) (fun w hSw=>?_) ?_
         rotate_left
         ·(try dsimp only at hSw)
          go_simp
          all_goals with_reducible rfl
         (try simp only[Act.put,List.setIfInBounds_toArray,List.set_cons_zero,List.set_cons_succ])
         refine a0f hOnce (i:=10) (oi:=⟨_,_,_,_,_,_⟩) (v:=?_) rfl (by kernel_rfl) (fun _ _ _ h=>h) (by assumption) (by rfl) (fun w hSw=>?_) ?_
         rotate_left
         ·(try dsimp only at hSw)
          go_simp
          all_goals with_reducible rfl
         (try simp only[Act.put,List.setIfInBounds_toArray,List.set_cons_zero,List.set_cons_succ])
         refine a0f hOnce (i:=11) (oi:=⟨_,_,_,_,_,_⟩) (v:=?_) rfl (by kernel_rfl) (fun _ _ _ h=>h) (by assumption) (by rfl) (fun w hSw=>?_) ?_
         rotate_left
         ·(try dsimp only at hSw)
          go_simp
          all_goals with_reducible rfl
         (try simp only[Act.put,List.setIfInBounds_toArray,List.set_cons_zero,List.set_cons_succ])
         refine a0f hOnce (i:=12) (oi:=⟨_,_,_,_,_,_⟩) (v:=?_) rfl (by kernel_rfl) (fun _ _ _ h=>h) (by assumption) (by rfl) (fun w hSw=>?_) ?_
         rotate_left
         ·(try dsimp only at hSw)
          go_simp
          all_goals with_reducible rfl
         (try simp only[Act.put,List.setIfInBounds_toArray,List.set_cons_zero,List.set_cons_succ])
         refine a0f hOnce (i:=13) (oi:=⟨_,_,_,_,_,_⟩) (v:=?_) rfl (by kernel_rfl) (fun _ _ _ h=>h) (by assumption) (by rfl) (fun w hSw=>?_) ?_
         rotate_left
         ·(try dsimp only at hSw)
          go_simp
          all_goals with_reducible rfl
         (try simp only[Act.put,List.setIfInBounds_toArray,List.set_cons_zero,List.set_cons_succ])
         refine a1s (i:=6) (o:=⟨_,_,_,_,_,_⟩) (by kernel_rfl) rfl (fun K hK=>?_);go_simp
         (go_at_call 59;(with_reducible refine(a4b (a7f X1 fb po oo) w7.drew 1 hZd (by decide) (by decide)).mono ?_);rintro ee w8 ⟨t1,u8,rfl,hu8⟩)
         refine hK.out _ _ (hS.out w8 t1) (fun hHeld=>?_);clear hK K
         (try simp only[Act.put,List.setIfInBounds_toArray,List.set_cons_zero,List.set_cons_succ])
         obtain⟨s8,a8,n8,c8,d8,k8,e8,rfl⟩:=hu8.shape;have hX8:=hZd.ext t1;have hx8:=mkx QV.mono hqgv t1;have hu8v:=hu8.qv h1q.out;refine a1s (i:=14) (o:=⟨_,_,_,_,_,_⟩) (by kernel_rfl) rfl (fun K hK=>?_);go_simp
         (go_at_call 211;(with_reducible refine(c0b (a7f X1 fb po oo) w8 _ _ _ y hX8 hu8v hx8 hp1.out).mono ?_);rintro ee w9 ⟨t2,u9,rfl,hu9⟩)
         refine hK.out _ _ (hS.out w9 (t1.trans t2)) (fun hHeld=>?_);clear hK K
         (try simp only[Act.put,List.setIfInBounds_toArray,List.set_cons_zero,List.set_cons_succ])
         obtain⟨s9,a9,n9,c9,d9,k9,e9,rfl⟩:=hu9.shape;have t12:=t1.trans t2;have hX9:=hZd.ext t12;have hr9:=mkx RV.mono hrp t12;have hu9v:=hu9.qv hqb.out;refine a1s (i:=15) (o:=⟨_,_,_,_,_,_⟩) (by kernel_rfl) rfl (fun K hK=>?_);go_simp
         (go_at_call 210;(with_reducible refine(b7m (a7f X1 fb po oo) w9 _ _ _ _ hX9 hr9 hu9v hrl3.out).mono ?_);rintro ee w10 ⟨t3,u10,rfl,hu10⟩)
         refine hK.out _ _ (hS.out w10 (t12.trans t3)) (fun hHeld=>?_);clear hK K
         (try simp only[Act.put,List.setIfInBounds_toArray,List.set_cons_zero,List.set_cons_succ])
         obtain⟨a10,c10,rfl,hcl10,hs10⟩:=hu10;have t13:=t12.trans t3;have hR10:=hRd.ext0 t13;obtain⟨_,_,p0,fz,_,_⟩:=hR10.row pl hpM1;refine a0f hOnce (i:=16) (oi:=⟨_,_,_,_,_,_⟩) (v:=?_) rfl (by kernel_rfl) (fun _ _ _ h=>h) (by assumption) (by rfl) (fun w hSw=>?_) ?_
         rotate_left
         ·(try dsimp only at hSw)
          go_simp
          all_goals with_reducible rfl
         (try simp only[Act.put,List.setIfInBounds_toArray,List.set_cons_zero,List.set_cons_succ])
         refine a3r (i:=17) (o:=⟨_,_,_,_,_,_⟩) (by kernel_rfl) rfl (by decide) (by kernel_rfl) (fun K hK=>?_);go_simp
         refine hK.out _ _ ?_;clear hK K;obtain⟨hO11,hE11⟩:=hR10.rows.set1 a4H RC.elem SlV.one pl hpM1 (.slice a10 M1[pl].length c10) (M1[pl].map (· *(((1:Int):Rat)/y))) ⟨a10,c10,by rw[List.length_map],hcl10,hs10⟩;have hR11:=hR10.setRows hE11 hO11;have hR12:=hR11;rw[<-hpvd.out]at hR12;clear p0 fz i2 hO11 hE11 hR11 hHeld hOnce;go_wp2_with fail
         go_meet
         case rel=>exact hR12
        case rest=>
         have hR3:=hcut;clear hcut hR2 hEd i1;obtain⟨w8,hw8⟩:∃w8,w8=wc:=⟨_,rfl⟩;subst hw8;obtain⟨M2,hM2e⟩:∃M2,pv M1 pl j=M2:=⟨_,rfl⟩;rw[hM2e]at hR3 hpiv hM2s hB2s;have hM2l:Hid (M2.length=n):=hid hM2s.out.1;have hR4:RS X1 w b fb base 45 32 3 w8 oo co po pc (out M2 pl j 0) P f2:=by rw[b6E];exact hR3
         have hbm2:=hid (b2g hB2s.out);have hb0:Hid (∀wx,OL RC 1 (un (b0f X1 fb) po) base 45 wx oo co (out M2 pl j n)->base<=wx.heap.size):=hid fun wx h=>by
          obtain⟨b0,o0,hb0⟩:=hhO (by omega);have:=h.block (k:=b0) (by rw[hb0];simp[ob]);omega
         have i1:∀W,(Instr.indexAt 25 (.slice oo n co) (.int .i64 (pl:Int))).run Tryz.prog W= .ok (.pointer (some (adr oo pl))) W:=a0A a0o oo n co .i64 pl hhO (by omega) rfl;clear hM2e hR3 hjp hrl1 hei hxB hpvd hrowB hp1;go_wp2_with fail
         go_loopw [10] (fun a wx=>∃(i:Nat),a= .int .i64 i/\i<=n/\RS X1 w b fb base 45 32 3 wx oo co po pc (out M2 pl j i) P f2) (fun a _=>n - (intOf a).toNat)
         case atStart=>exact⟨0,rfl,Nat.zero_le _,hR4⟩
         case round=>
          clear hR4;obtain⟨i,rfl,hi,hR⟩:=hrel;by_cases hlt:i<n
          ·by_cases hip:i=pl
           ·have hne3:((i:Int) !=(pl:Int))=false:=a6k (by omega)
            have hRn:RS X1 w b fb base 45 32 3 wr oo co po pc (out M2 pl j (i+1)) P f2:=by subst hip;rw[<-b6F];exact hR
            clear hip hR;go_wp2_with fail
            go_roundw
            case rel=>exact⟨i+1,by go_num,by omega,hRn⟩
            case measure=>simp[intOf];omega
           ·have hne3:((i:Int) !=(pl:Int))=true:=a5C (by omega)
            have hiM:i<M2.length:=by rw[hM2l.out];exact hlt
            have hpM:pl<M2.length:=by rw[hM2l.out];exact hpn2
            have hiO:i<(out M2 pl j i).length:=by rw[a4V];exact hiM
            have hpO:pl<(out M2 pl j i).length:=by rw[a4V];exact hpM
            have hgi:(out M2 pl j i)[i]=M2[i]:=by rw[a5U hiO hiM,if_neg (by omega)]
            have hgp:(out M2 pl j i)[pl]=M2[pl]:=by rw[a5U hpO hpM,if_neg (by omega)]
            have hset:=hid (b9k (m:=M2) (t:=pl) (col:=j) hiM hip);rw[a4k hpM]at hset;obtain⟨ai,ci,y1,fy1,hcli,hqi⟩:=hR.row i hiO;obtain⟨ap,cp,y2,fy2,hclp,hqp⟩:=hR.row pl hpO;rw[hgi]at y1 hcli hqi;rw[hgp]at y2 hclp hqp;have hrli:Hid (M2[i].length=c):=hid (hM2s.out.2 _ (List.getElem_mem _));have hrlp:Hid (M2[pl].length=c):=hid (hM2s.out.2 _ (List.getElem_mem _));have hBi:=hid (hbm2.out M2[i] (List.getElem_mem _));have hBp:=hid (hbm2.out M2[pl] (List.getElem_mem _));have hji:j<M2[i].length:=by rw[hrli.out];exact hlj
            obtain⟨g,o,s5,a5,n5,c5,d5,k5,e5,hg,hXg,hcg,hqg⟩:=hqi.rat QC.shaped j hji;have hvv:M2[i].getD j 0=M2[i][j]:=by rw[List.getD_eq_getElem?_getD,List.getElem?_eq_getElem hji];rfl
            rw[hvv]at hset;have hvB:=hid (hBi.out M2[i][j] (List.getElem_mem _));obtain⟨v,hv⟩:∃v,M2[i][j]=v:=⟨_,rfl⟩;rw[hv]at hset hqg hvB;clear hv hvv hgi hgp;obtain⟨row,hrow⟩:∃row,M2[i]=row:=⟨_,rfl⟩;rw[hrow]at hset hqi y1 hcli hrli hBi;obtain⟨piv,hpv⟩:∃piv,M2[pl]=piv:=⟨_,rfl⟩;rw[hpv]at hset hqp y2 hclp hrlp hBp;have hhi:Hd ai c:=by have:=hqi.hd;rw[hrli.out]at this;exact this
            have hEd:Ext wr wr.drew:=(ExtX.refl wr).drew;have i2:∀W,(Instr.indexAt 45 (.slice ai c ci) (.int .i64 (j:Int))).run Tryz.prog W= .ok (.pointer (some ⟨g,o,none⟩)) W:=by rw[<-hg];exact a0h a0J ai c ci .i64 j hhi (by omega)
            have i3:∀W,(Instr.indexAt 25 (.slice oo n co) (.int .i64 (i:Int))).run Tryz.prog W= .ok (.pointer (some (adr oo i))) W:=a0A a0o oo n co .i64 i hhO (by omega) rfl;have hri:RV (mk (a7f X1 fb po oo) wr.drew) (.slice ai c ci) row:=by
             rw[<-hrli.out];exact⟨ai,ci,rfl,hcli,hqi.qv fun q hq=>Nat.le_trans (hBi.out q hq) (by have:=hB6'.out;omega)⟩
            have hrp:RV (mk (a7f X1 fb po oo) wr.drew) (.slice ap c cp) piv:=by
             rw[<-hrlp.out];exact⟨ap,cp,rfl,hclp,hqp.qv fun q hq=>Nat.le_trans (hBp.out q hq) (by have:=hB6'.out;omega)⟩
            rw[hrli.out]at y1;rw[hrlp.out]at y2;have hS:Hid (∀W',Ext wr.drew W'->W'.cell? (adr oo i)=some (.slice ai c ci)/\W'.cell? (adr oo pl)=some (.slice ap c cp)/\W'.cell? ⟨g,o,none⟩=some (.bool s5)/\W'.cell? ⟨g,o+1,none⟩=some (.slice a5 n5 c5)/\W'.cell? ⟨g,o+2,none⟩=some (.slice d5 k5 e5)):=hid fun W' h=>by
             obtain⟨k0,k1,k2⟩:=hcg.out noY W' (hEd.trans h) rfl;exact⟨(hEd.trans h).cell y1,(hEd.trans h).cell y2,k0,k1,k2⟩
            obtain⟨y1d,y2d,k0,k1,k2⟩:=hS.out wr.drew (ExtX.refl _);have hRd:=hR.ext0 hEd;have hZd:=hRd.hz;have hqgv:QV (mk (a7f X1 fb po oo) wr.drew) (.agg #[.bool s5, .slice a5 n5 c5, .slice d5 k5 e5]) v:=hqg.qv (by have:=hvB.out;have:=hB6'.out;omega);have hnb:Hid (hq (-v)<=68719476736):=hid (by rw[a4D];have:=hvB.out;have:=hB6'.out;omega);have hprod:Hid (BR 68719476736 (piv.map (· * -v))):=hid fun q hq=>by
             obtain⟨x,hx,rfl⟩:=List.mem_map.1 hq;have h1:=hBp.out x hx;have h2:=hq_mul x (-v);rw[a4D]at h2;have:=hvB.out;have:=hB6'.out;omega
            have hl1:Hid (piv.length<=1000000):=hid (by rw[hrlp.out];omega);have hl2:Hid (row.length<=1000000):=hid (by rw[hrli.out];omega);have hl3:Hid ((piv.map (· * -v)).length=row.length):=hid (by rw[List.length_map,hrlp.out,hrli.out]);have hiO':=hid hiO;obtain⟨PR,hPR⟩:∃PR,piv.map (· * -v)=PR:=⟨_,rfl⟩;have hPR':=hid hPR;rw[hPR]at hset hprod hl3;obtain⟨NR,hNR⟩:∃NR,List.zipWith (· + ·) row PR=NR:=⟨_,rfl⟩;have hNR':=hid hNR;rw[hNR]at hset;clear hqi hqp hg hcg hR y1 fy1 y2 fy2 hrow hpv hip hiM hpM hpO hqg hiO hji hcli hclp hPR hNR;go_wp2_with fail
            refine a3s 21 (fun w'=>w'.cell? (adr oo i)=some (.slice ai c ci)/\w'.cell? (adr oo pl)=some (.slice ap c cp)/\w'.cell? ⟨g,o,none⟩=some (.bool s5)/\w'.cell? ⟨g,o+1,none⟩=some (.slice a5 n5 c5)/\w'.cell? ⟨g,o+2,none⟩=some (.slice d5 k5 e5)) (by kernel_rfl) (by kernel_rfl) (hS.out _ (ExtX.refl _)) (fun hHeld hOnce=>?_);clear y1d y2d k0 k1 k2;refine a0f hOnce (i:=0) (oi:=⟨_,_,_,_,_,_⟩) (v:=?_) rfl (by kernel_rfl) (fun _ _ _ h=>h) (by assumption) (by rfl) (fun w hSw=>?_) ?_
            rotate_left
            ·(try dsimp only at hSw)
             go_simp
             all_goals with_reducible rfl
            (try simp only[Act.put,List.setIfInBounds_toArray,List.set_cons_zero,List.set_cons_succ])
            refine a0f hOnce (i:=1) (oi:=⟨_,_,_,_,_,_⟩) (v:=?_) rfl (by kernel_rfl) (fun _ _ _ h=>h) (by assumption) (by rfl) (fun w hSw=>?_) ?_
            rotate_left
            ·(try dsimp only at hSw)
             go_simp
             all_goals with_reducible rfl
            (try simp only[Act.put,List.setIfInBounds_toArray,List.set_cons_zero,List.set_cons_succ])
            refine a0f hOnce (i:=2) (oi:=⟨_,_,_,_,_,_⟩) (v:=?_) rfl (by kernel_rfl) (fun _ _ _ h=>h) (by assumption) (by rfl) (fun w hSw=>?_) ?_
            rotate_left
            ·(try dsimp only at hSw)
             go_simp
             all_goals with_reducible rfl
            (try simp only[Act.put,List.setIfInBounds_toArray,List.set_cons_zero,List.set_cons_succ])
            refine a0f hOnce (i:=3) (oi:=⟨_,_,_,_,_,_⟩) (v:=?_) rfl (by kernel_rfl) (fun _ _ _ h=>h) (by assumption) (by rfl) (fun w hSw=>?_) ?_
            rotate_left
            ·(try dsimp only at hSw)
             go_simp
             all_goals with_reducible rfl
            (try simp only[Act.put,List.setIfInBounds_toArray,List.set_cons_zero,List.set_cons_succ])
            refine a0f hOnce (i:=4) (oi:=⟨_,_,_,_,_,_⟩) (v:=?_) rfl (by kernel_rfl) (fun _ _ _ h=>h) (by assumption) (by rfl) (fun w hSw=>?_) ?_
            rotate_left
            ·(try dsimp only at hSw)
             go_simp
             all_goals with_reducible rfl
            (try simp only[Act.put,List.setIfInBounds_toArray,List.set_cons_zero,List.set_cons_succ])
            refine a0f hOnce (i:=5) (oi:=⟨_,_,_,_,_,_⟩) (v:=?_) rfl (by kernel_rfl) (fun _ _ _ h=>h) (by assumption) (by rfl) (fun w hSw=>?_) ?_
            rotate_left
            ·(try dsimp only at hSw)
             go_simp
             all_goals with_reducible rfl
            (try simp only[Act.put,List.setIfInBounds_toArray,List.set_cons_zero,List.set_cons_succ])
            refine a0f hOnce (i:=6) (oi:=⟨_,_,_,_,_,_⟩) (v:=?_) rfl (by kernel_rfl) (fun _ _ _ h=>h) (by assumption) (by rfl) (fun w hSw=>?_) ?_
            rotate_left
            ·(try dsimp only at hSw)
             go_simp
             all_goals with_reducible rfl
            (try simp only[Act.put,List.setIfInBounds_toArray,List.set_cons_zero,List.set_cons_succ])
            refine a0f hOnce (i:=7) (oi:=⟨_,_,_,_,_,_⟩) (v:=?_) rfl (by kernel_rfl) (fun _ _ _ h=>h) (by assumption) (by rfl) (fun w hSw=>?_) ?_
            rotate_left
            ·(try dsimp only at hSw)
             go_simp
             all_goals with_reducible rfl
            (try simp only[Act.put,List.setIfInBounds_toArray,List.set_cons_zero,List.set_cons_succ])
            refine a0f hOnce (i:=8) (oi:=⟨_,_,_,_,_,_⟩) (v:=?_) rfl (by kernel_rfl) (fun _ _ _ h=>h) (by assumption) (by rfl) (fun w hSw=>?_) ?_
            rotate_left
            ·(try dsimp only at hSw)
             go_simp
             all_goals with_reducible rfl
            (try simp only[Act.put,List.setIfInBounds_toArray,List.set_cons_zero,List.set_cons_succ])
            refine a0f hOnce (i:=9) (oi:=⟨_,_,_,_,_,_⟩) (v:=?_) rfl (by kernel_rfl) (fun _ _ _ h=>h) (by assumption) (by rfl) (fun w hSw=>?_) ?_
            rotate_left
            ·(try dsimp only at hSw)
             go_simp
             all_goals with_reducible rfl
            (try simp only[Act.put,List.setIfInBounds_toArray,List.set_cons_zero,List.set_cons_succ])
            refine a0f hOnce (i:=10) (oi:=⟨_,_,_,_,_,_⟩) (v:=?_) rfl (by kernel_rfl) (fun _ _ _ h=>h) (by assumption) (by rfl) (fun w hSw=>?_) ?_
            rotate_left
            ·(try dsimp only at hSw)
             go_simp
             all_goals with_reducible rfl
            (try simp only[Act.put,List.setIfInBounds_toArray,List.set_cons_zero,List.set_cons_succ])
            refine a0f hOnce (i:=11) (oi:=⟨_,_,_,_,_,_⟩) (v:=?_) rfl (by kernel_rfl) (fun _ _ _ h=>h) (by assumption) (by rfl) (fun w hSw=>?_) ?_
            rotate_left
            ·(try dsimp only at hSw)
             go_simp
             all_goals with_reducible rfl
            (try simp only[Act.put,List.setIfInBounds_toArray,List.set_cons_zero,List.set_cons_succ])
            refine a0f hOnce (i:=12) (oi:=⟨_,_,_,_,_,_⟩) (v:=?_) rfl (by kernel_rfl) (fun _ _ _ h=>h) (by assumption) (by rfl) (fun w hSw=>?_) ?_
            rotate_left
            ·(try dsimp only at hSw)
             go_simp
             all_goals with_reducible rfl
            (try simp only[Act.put,List.setIfInBounds_toArray,List.set_cons_zero,List.set_cons_succ])
            refine a0f hOnce (i:=13) (oi:=⟨_,_,_,_,_,_⟩) (v:=?_) rfl (by kernel_rfl) (fun _ _ _ h=>h) (by assumption) (by rfl) (fun w hSw=>?_) ?_
            rotate_left
            ·(try dsimp only at hSw)
             go_simp
             all_goals with_reducible rfl
            (try simp only[Act.put,List.setIfInBounds_toArray,List.set_cons_zero,List.set_cons_succ])
            refine a0f hOnce (i:=14) (oi:=⟨_,_,_,_,_,_⟩) (v:=?_) rfl (by kernel_rfl) (fun _ _ _ h=>h) (by assumption) (by rfl) (fun w hSw=>?_) ?_
            rotate_left
            ·(try dsimp only at hSw)
             go_simp
             all_goals with_reducible rfl
            (try simp only[Act.put,List.setIfInBounds_toArray,List.set_cons_zero,List.set_cons_succ])
            refine a0f hOnce (i:=15) (oi:=⟨_,_,_,_,_,_⟩) (v:=?_) rfl (by kernel_rfl) (fun _ _ _ h=>h) (by assumption) (by rfl) (fun w hSw=>?_) ?_
            rotate_left
            ·(try dsimp only at hSw)
             go_simp
             all_goals with_reducible rfl
            (try simp only[Act.put,List.setIfInBounds_toArray,List.set_cons_zero,List.set_cons_succ])
            refine a0f hOnce (i:=16) (oi:=⟨_,_,_,_,_,_⟩) (v:=?_) rfl (by kernel_rfl) (fun _ _ _ h=>h) (by assumption) (by rfl) (fun w hSw=>?_) ?_
            rotate_left
            ·(try dsimp only at hSw)
             go_simp
             all_goals with_reducible rfl
            (try simp only[Act.put,List.setIfInBounds_toArray,List.set_cons_zero,List.set_cons_succ])
            refine a1s (i:=17) (o:=⟨_,_,_,_,_,_⟩) (by kernel_rfl) rfl (fun K hK=>?_);go_simp
            (go_at_call 147;(with_reducible refine(b3D (a7f X1 fb po oo) wr.drew _ v hZd hqgv).mono ?_);rintro ee w9 ⟨t1,u9,rfl,hu9⟩)
            refine hK.out _ _ (hS.out w9 t1) (fun hHeld=>?_);clear hK K
            (try simp only[Act.put,List.setIfInBounds_toArray,List.set_cons_zero,List.set_cons_succ])
            obtain⟨s9,a9,n9,c9,d9,k9,e9,rfl⟩:=hu9.shape;have hX9:=hZd.ext t1;have hr9:=mkx RV.mono hrp t1;have hu9v:=hu9.qv hnb.out;refine a1s (i:=18) (o:=⟨_,_,_,_,_,_⟩) (by kernel_rfl) rfl (fun K hK=>?_);go_simp
            (go_at_call 210;(with_reducible refine(b7m (a7f X1 fb po oo) w9 _ _ piv (-v) hX9 hr9 hu9v hl1.out).mono ?_);rintro ee w10 ⟨t2,u10,rfl,hu10⟩)
            refine hK.out _ _ (hS.out w10 (t1.trans t2)) (fun hHeld=>?_);clear hK K
            (try simp only[Act.put,List.setIfInBounds_toArray,List.set_cons_zero,List.set_cons_succ])
            rw[hPR'.out]at hu10;have hu10v:=hu10.rv hprod.out;obtain⟨a10,c10,rfl,hcl10,hs10⟩:=hu10;have t12:=t1.trans t2;have hX10:=hZd.ext t12;have hr10:=mkx RV.mono hri t12;refine a1s (i:=19) (o:=⟨_,_,_,_,_,_⟩) (by kernel_rfl) rfl (fun K hK=>?_);go_simp
            (go_at_call 212;(with_reducible refine(c1d (a7f X1 fb po oo) w10 _ _ row _ hX10 hr10 hu10v hl2.out hl3.out).mono ?_);rintro ee w11 ⟨t3,u11,rfl,hu11⟩)
            refine hK.out _ _ (hS.out w11 (t12.trans t3)) (fun hHeld=>?_);clear hK K
            (try simp only[Act.put,List.setIfInBounds_toArray,List.set_cons_zero,List.set_cons_succ])
            rw[hNR'.out]at hu11;obtain⟨a11,c11,rfl,hcl11,hs11⟩:=hu11;have hR11:=hRd.ext0 (t12.trans t3);obtain⟨_,_,p0,fz,_,_⟩:=hR11.row i hiO'.out;refine a0f hOnce (i:=20) (oi:=⟨_,_,_,_,_,_⟩) (v:=?_) rfl (by kernel_rfl) (fun _ _ _ h=>h) (by assumption) (by rfl) (fun w hSw=>?_) ?_
            rotate_left
            ·(try dsimp only at hSw)
             go_simp
             all_goals with_reducible rfl
            (try simp only[Act.put,List.setIfInBounds_toArray,List.set_cons_zero,List.set_cons_succ])
            refine a3r (i:=21) (o:=⟨_,_,_,_,_,_⟩) (by kernel_rfl) rfl (by decide) (by kernel_rfl) (fun K hK=>?_);go_simp
            refine hK.out _ _ ?_;clear hK K;obtain⟨hO12,hE12⟩:=hR11.rows.set1 a4H RC.elem SlV.one i hiO'.out (.slice a11 NR.length c11) NR ⟨a11,c11,rfl,hcl11,hs11⟩;have hR12:=hR11.setRows hE12 hO12;rw[hset.out]at hR12;clear p0 fz i2 i3 hO12 hE12 hR11 hHeld hOnce;go_wp2_with fail
            go_roundw
            case rel=>exact⟨i+1,by go_num,by omega,hR12⟩
            case measure=>simp[intOf];omega
          ·have hin:i=n:=by omega
           subst hin;have hbase:=hb0.out wr hR.rows;have hXz:∀k,un (b0f X1 fb) oo k=true->k<wr.heap.size:=fun k hk=>hR.hz k (by
            by_cases h:b0f X1 fb k=true
            ·exact a0v (a0v h)
            ·exact a0y (by simpa[un,h]using hk))
           have hP:=hR.piv;have hpl2:Hid ((P++[j]).length=pl+1):=hid (by rw[List.length_append,hpl.out];rfl);clear i1 hb0;go_wp2_with (at_builtin;refine a0r (l:=P) a1G rfl (a0a.elem .i64) hbase hXz pl hpl.out rfl rfl hP (.int .i64 (j:Int)) j rfl rfl (by omega) (by omega) ?_;intro po2 pc2 w10 hP6 hE7 hor)
           have hR9:=hR.push hE7 hP6 hor;go_roundg (c - (j+1))
           case measure=>omega
           case rel=>exact⟨j+1,po2,pc2,pl+1,_,_,_,by go_num,rfl,by omega,hpl2,hpiv,hR9⟩
    ·have hin:t=n:=by omega
     subst hin;have hne:((t:Int)==(t:Int))=true:=a7w rfl;have hst2:=hid (b9l hsh'.out hst.out hpl.out hzz.out);clear hzz;go_wp2_with fail
     go_roundg (c - (j+1))
     case measure=>omega
     case rel=>exact⟨j+1,po,pc,pl,M,P,f,by go_num,rfl,by omega,hpl,hst2,hR⟩
  ·have hjc:j=c:=by omega
   subst hjc;go_wp2_with fail
   refine hco.mono ?_;rintro e w2 ⟨rfl,rfl⟩;obtain⟨sf,af,nf,cf,df,kf,ef,bF,hqF⟩:=hR.fac;have hres:=hR.res;have z0:=bF.cell 0 rfl;have z1:=bF.cell 1 rfl;have z2:=bF.cell 2 rfl;have g0:=hres.cell 0 rfl;have g1:=hres.cell 1 rfl;have g2:=hres.cell 2 rfl;have h0:=hres.frozen 0;have h1:=hres.frozen 1;have h2:=hres.frozen 2;obtain⟨q1,q2⟩:=hres.set3 (.bool sf) (.slice af nf cf) (.slice df kf ef);have q1d:=q1.ext0 (ExtX.refl (Y:=noY) _).drew;have q2d:=q2.drew;have hqf:QC (mk X _) (.agg #[.bool sf, .slice af nf cf, .slice df kf ef]) f:=QC.mono _ _ _ _ (hunb.out _) (QC.mono _ _ _ _ (a0u q2d fun k hk=>b4E hrb.out hk) (QC.mono _ _ _ _ (a1U fun k _ hk=>a0v (a0v (a0v hk))) hqF));have hEf:Ext w _:=ExtX.box hR.ext q2d (by rw[hbw'.out];exact Nat.le_refl _);have hsr:Sl RC 1 (mk X _) oo M:=(((hR.rows.sl RC.elem).mono RC.mono (a1U fun k _ hk=>a0v (a0v hk))).mono RC.mono (a0u q2d fun k hk=>b4E hrb.out hk)).mono RC.mono (hunb.out _);have hsp:Sl (a0a .i64) 1 (mk X _) po P:=(((hR.piv.sl (a0a.elem _)).mono (a0a.mono _) (a1U fun k _ hk=>a0v (a0v hk))).mono (a0a.mono _) (a0u q2d fun k hk=>b4E hrb.out hk)).mono (a0a.mono _) (hunb.out _);have hpc:P.length<=pc:=hR.piv.lenCap;clear hres bF hR hqF q1 q2 q2d;go_wp2_with fail
   go_region
   go_wp2_with fail
   refine bodyPost_ret (b0h (P:=Tryz.prog) (c:=4) (d:=2) (e:=3) rfl rfl a0w q1d rfl) rfl ?_;have hRO:∀w9,Ext w w9->Sl RC 1 (mk X w9) oo M->Sl (a0a .i64) 1 (mk X w9) po P->QC (mk X w9) (.agg #[.bool sf, .slice af nf cf, .slice df kf ef]) f->b7v X w (rN m j) (.returned (.tuple #[.slice oo n co, .slice po pl pc, .agg #[.bool sf, .slice af nf cf, .slice df kf ef]])) w9:=fun w9 hEf hsr hsp hqf=>by
    rw[hst.out];exact⟨hEf,oo,co,po,pc,_,by rw[hMl.out,hpl.out],by rw[hMl.out];exact hcap,hpc,hsr,hsp,hqf⟩
   exact hRO _ hEf hsr hsp hqf
end Go.Proofs.YtoibhmjjhgaimaaGreat
namespace Go.Lin
open Go.Lim
end Go.Lin
namespace Go.Proofs.YtoibhmjjhgaimaaGreat
open Go.RowKit Go.Rep Go.Lim Go.Lin
def c0B (X:Nat->Bool) (w:World) (S:Mat×List Nat) (e:Ending) (w':World):Prop:=Ext w w'/\∃oo co po pc,e= .returned (.tuple #[.slice oo S.1.length co, .slice po S.2.length pc, .int .i64 0])/\S.1.length<=co/\S.2.length<=pc/\Sl RC 1 (mk X w') oo S.1/\Sl (a0a .i64) 1 (mk X w') po S.2
theorem a8B (X:Nat->Bool) (w:World) (u:Value) (m:List (List Rat)) (n c:Nat) (hX:HX X w) (hu:MV (mk X w) u m) (hf:a1h m=true) (hnn:m.length=n) (hcc:a0l m=c) (hT:a9w m c):Calls Tryz.prog 149 #[u] w (c0B X w ((rN m c).1,(rN m c).2.1)):=by
 obtain⟨hsh,h96,hc96,_,_⟩:=a1W hf;rw[hnn,hcc]at hsh;rw[hnn]at h96;rw[hcc]at hc96;have hfo:=b8U QV.mono X w u m hu (by omega);rw[hf]at hfo;have hre:=hid (fun w' (h:Ext w w')=>b0i X w' u m n c (hX.ext h) (mkx MV.mono hu h) hsh hcc (by omega) (by omega) hT);obtain⟨S,hS⟩:∃S,rN m c=S:=⟨_,rfl⟩;rw[hS]at hre |-;clear hf hS;go_enter Tryz.func149,Tryz.ntmps149
 go_wp2_with fail
 refine hfo.mono ?_;rintro e w1 ⟨hE1,rfl⟩;have h1:=hre.out w1 hE1;clear hfo;go_wp2_with fail
 refine h1.mono ?_;rintro e w2 ⟨hE2,oo,co,po,pc,uf,rfl,hco,hpc,hso,hsp,huf⟩;obtain⟨s2,a2,n2,c2,d2,k2,e2,rfl⟩:=huf.shape;have bx:=Bx.new w2 #[.bool false, .slice none 0 0, .slice none 0 0] 32;clear h1;go_wp2_with ((with_reducible show wpList _ _ _ (⟨_, .store _ _ _,_,_,_,_⟩::_) _ _);refine a0c a0w rfl rfl bx rfl rfl (a2C _ _ _ _ _ _ _) ?_;intro w3 r1 r2)
 have hE3:Ext w2 w3:=ExtX.box ((ExtX.refl w2).alloc _) r2 (Nat.le_refl _);go_ret3
 exact⟨hE1.trans (hE2.trans hE3),oo,co,po,pc,rfl,hco,hpc,hso.mono RC.mono (a0m hE3),hsp.mono (a0a.mono _) (a0m hE3)⟩
end Go.Proofs.YtoibhmjjhgaimaaGreat
namespace Go.Lin
open Go.Lim
end Go.Lin
namespace Go.Proofs.YtoibhmjjhgaimaaGreat
open Go.RowKit Go.Rep Go.Lim Go.Lin
end Go.Proofs.YtoibhmjjhgaimaaGreat
namespace Go.Lin
open Go.Lim
theorem a9w.le {m:Mat} {c c':Nat} (h:a9w m c) (hc:c'<=c):a9w m c':=let ⟨B,h1,h2⟩:=h;⟨B,h1,fun j hj=>h2 j (Nat.le_trans hj hc)⟩
end Go.Lin
namespace Go.Proofs.YtoibhmjjhgaimaaGreat
open Go.RowKit Go.Rep Go.Lim Go.Lin
end Go.Proofs.YtoibhmjjhgaimaaGreat
namespace Go.Lin
open Go.Lim
theorem c0C {n c:Nat} {f:F2} {p:List Nat} (hr:Rref n c f p) {a j:Nat} (ha:a<=p.length) (hb:∀k (hk:k<p.length),k<a->p[k]<j) (hc:∀k (hk:k<p.length),a<=k->j<=p[k]):(∀h:a<p.length,p[a]=j->j∈p)/\((∀h:a<p.length,p[a]≠j)->j∉p):=by
 refine⟨fun h e=>e▸List.getElem_mem h,fun h hm=>?_⟩;obtain⟨k,hk,hkj⟩:=List.getElem_of_mem hm;rcases Nat.lt_or_ge k a with h1|h1
 ·have:=hb k hk h1;omega
 ·rcases Nat.lt_or_ge a k with h2|h2
  ·have h3:=hc a (by omega) (Nat.le_refl _)
   have h4:=hr.inc a k h2 hk;omega
  ·have:k=a:=by omega
   subst this;exact h hk hkj
end Go.Lin
namespace Go.Proofs.YtoibhmjjhgaimaaGreat
open Go.RowKit Go.Rep Go.Lim Go.Lin
set_option maxRecDepth 100000 in
set_option maxHeartbeats 1600000 in
theorem b6G (X:Nat->Bool) (w:World) (u:Value) (m:List (List Rat)) (n c:Nat) (hX:HX X w) (hu:MV (mk X w) u m) (hf:a1h m=true) (hnn:m.length=n) (hcc:a0l m=c) (hT:a9w m c):Calls Tryz.prog 161 #[u] w (b8t X w (a2q (ent (a0N m c).1) (a0N m c).2 c)):=by
 obtain⟨hsh,h96,hc96,hpos,_⟩:=a1W hf;rw[hnn,hcc]at hsh;rw[hnn]at h96;rw[hcc]at hc96;have hcol:=hid (fun w' (h:Ext w w')=>b1w X w' u m (mkx MV.mono hu h));rw[hcc]at hcol;have hre:=a8B X w u m n c hX hu hf hnn hcc hT;have hok:=a0Z hsh;have hred:=b2F hsh;rw[<-hred.1,<-hred.2]at hre;obtain⟨B,hB6,hBj⟩:=hT;have hbm:=(hBj c (Nat.le_refl _)).1;rw[<-hred.1]at hbm;have hbm2:=hid (b2g hbm);have hB6':=hid hB6;obtain⟨⟨R,p⟩,hS⟩:∃S,a0N m c=S:=⟨_,rfl⟩;rw[hS]at hre hok hbm2 |-
 dsimp only at hok hbm2 |-
 have hRs:=hid hok.1;have hRr:=hid hok.2.1;have hRl:Hid (R.length=n):=hid hRs.out.1;have hpn:p.length<=n:=hok.2.1.le;have hfull:Hid (a3q (ent R) p c c=a2q (ent R) p c):=hid rfl;clear hf hnn hcc hsh hok hS hred hB6 hBj hbm hpos;go_enter Tryz.func161,Tryz.ntmps161
 go_wp2_with fail
 refine hre.mono ?_;rintro e w1 ⟨hE1,ro,rco,po,pc,rfl,hrco,hpc,hso,hsp⟩
 dsimp only at hrco hso hpc hsp |-
 have hhr:=hso.hd;have hhp:=hsp.hd;obtain⟨pl,hpl⟩:∃pl,p.length=pl:=⟨_,rfl⟩;have hpl':=hid hpl;rw[hRl.out]at hrco hhr |-;rw[hpl]at hpc hhp hpn |-;have hX1:=hX.ext hE1;clear hre hpl;go_wp2_with fail
 go_loopw [7,8,9] (fun o aa cc wr=>∃(k a q:Nat) (oo:Option Addr) (co:Nat),cc= .int .i64 k/\aa= .int .i64 a/\o= .slice oo q co/\k<=c/\q<=k/\a<=pl/\Hid ((a3q (ent R) p c k).length=q)/\Hid (∀i (hi:i<p.length),i<a->p[i]<k)/\Hid (∀i (hi:i<p.length),a<=i->k<=p[i])/\OL RC 1 X w1.heap.size 45 wr oo co (a3q (ent R) p c k)/\Ext w1 wr) (fun _ _ cc _=>c - (intOf cc).toNat)
 case atStart=>exact⟨0,0,0,none,0,rfl,rfl,rfl,Nat.zero_le _,Nat.le_refl _,Nat.zero_le _,hid rfl,hid (fun i _ h=>by omega),hid (fun i _ _=>Nat.zero_le _),OL.nil _ _ _ _ _ _,ExtX.refl _⟩
 case round=>
  obtain⟨k,a,q,oo,co,rfl,rfl,rfl,hk,hqk,ha,hlq,hlo,hhi,hO,hE⟩:=hrel;have hXr:HX X wr:=hX1.ext hE;have hXu:HX (un X oo) wr:=hO.unX hXr;have hbase:=hE.size;have hcr:=hcol.out wr (hE1.trans hE);by_cases hlt:k<c
  ·have hpa:=hid (c0C hRr.out (a:=a) (j:=k) (by rw[hpl'.out];exact ha) hlo.out hhi.out)
   by_cases hpv:∃h:a<p.length,p[a]=k
   ·obtain⟨hap,hpk⟩:=hpv
    have hmem:=hid (hpa.out.1 hap hpk);have hal:a<pl:=by rw[hpl'.out]at hap;exact hap
    have hcl:=(hsp.mono (a0a.mono _) (a0m hE)).nat a hap;rw[hpk]at hcl;have i1:∀W,(Instr.indexAt 22 (.slice po pl pc) (.int .i64 (a:Int))).run Tryz.prog W= .ok (.pointer (some (adr po a))) W:=a0A a1G po pl pc .i64 a hhp (by omega) rfl;have hkk:((k:Int)==(k:Int))=true:=a7w rfl;have hskip:=hid (a7F (ent R) c hmem.out);have hlo2:Hid (∀i (hi:i<p.length),i<a+1->p[i]<k+1):=hid fun i hi h=>by
     by_cases e:i=a
     ·subst e;omega
     ·have:=hlo.out i hi (by omega);omega
    have hhi2:Hid (∀i (hi:i<p.length),a+1<=i->k+1<=p[i]):=hid fun i hi h=>by
     have:=hRr.out.inc a i (by omega) hi;omega
    have hlq2:Hid ((a3q (ent R) p c (k+1)).length=q):=hid (by rw[hskip.out];exact hlq.out);rw[<-hskip.out]at hO;clear hap hpk;go_wp2_with fail
    refine hcr.mono ?_;rintro e w2 ⟨rfl,rfl⟩;clear hcr;go_wp2_with fail
    go_roundw
    case rel=>exact⟨k+1,a+1,q,oo,co,by go_num,by go_num,rfl,by omega,by omega,by omega,hlq2,hlo2,hhi2,hO,hE⟩
    case measure=>simp[intOf];omega
   ·have hnm:=hid (hpa.out.2 fun h e=>hpv ⟨h,e⟩)
    have hpush:=hid (a7G (ent R) c hnm.out);have hxf:=hid (b4e hRr.out hnm.out);have hlo2:Hid (∀i (hi:i<p.length),i<a->p[i]<k+1):=hid fun i hi h=>by have:=hlo.out i hi h;omega
    have hhi2:Hid (∀i (hi:i<p.length),a<=i->k+1<=p[i]):=hid fun i hi h=>by
     have h1:=hhi.out i hi h;have h2:p[i]≠k:=fun e=>hnm.out (e▸List.getElem_mem hi);omega
    have hne:Hid (∀h:a<p.length,p[a]≠k):=hid fun h e=>hpv ⟨h,e⟩;have hkr:k<(List.replicate c (0:Rat)).length:=by rw[List.length_replicate];exact hlt
    clear hpv hpa;by_cases hal:a<pl
    ·have hap:a<p.length:=by rw[hpl'.out];exact hal
     have hcl:=(hsp.mono (a0a.mono _) (a0m hE)).nat a hap;have hney:=hid (hne.out hap);obtain⟨y,hy⟩:∃y,p[a]=y:=⟨_,rfl⟩;rw[hy]at hcl hney;have i1:∀W,(Instr.indexAt 22 (.slice po pl pc) (.int .i64 (a:Int))).run Tryz.prog W= .ok (.pointer (some (adr po a))) W:=a0A a1G po pl pc .i64 a hhp (by omega) rfl;have hkk:((y:Int)==(k:Int))=false:=a1S (by have:=hney.out;omega);clear hy;go_wp2_with fail
     refine hcr.mono ?_;rintro e w2 ⟨rfl,rfl⟩;have hcr2:=hcol.out w2 (hE1.trans hE);clear hcr;go_wp2_with fail
     clear hcl i1;refine hcr2.mono ?_;rintro e w3 ⟨rfl,rfl⟩;clear hcr2;go_wp2_with ((with_reducible show wpList _ _ _ (⟨_, .makeSlice _ _ _,_,_,_,_⟩::_) _ _);refine a1F (R:=QC) a0J QC.elem (0:Rat) (fun _=>QC.zero _) (un X oo) hXu w3.heap.size (Nat.le_refl _) c rfl rfl rfl (by omega) (by omega) ?_;intro xo w5 hO5 hE5)
     have hxd:Hd xo c:=by have:=hO5.hd;rw[List.length_replicate]at this;exact this
     have hXu5:=hXu.ext hE5;have hZ5:=hO5.unX hXu5;have hv1:Hid ((((1:Int):Rat))=1):=hid rfl;refine(a4b (un (un X oo) xo) w5 1 hZ5 (by decide) (by decide)).mono ?_;rintro e w6 ⟨hE6,u6,rfl,hu6⟩;rw[hv1.out]at hu6;have hO6:=hO5.ext0 QC.elem hE6;go_wp2_with (first|(with_reducible refine a1E a0J (by omega) (by assumption) ?_)|((with_reducible show wpList _ _ _ (⟨_, .store 32 _ _,_,_,_,_⟩::_) _ _);refine a1O a5N QC.elem k rfl (by simp) hO6 hkr _ 1 rfl hu6 ?_;intro w7 hO7 hE7))
     have hE47:Ext w3 w7:=(hE5.trans hE6).own hO6 (Nat.le_refl _) hE7;clear hO5 hO6;go_loopw [11] (fun kk wi=>∃(j:Nat),kk= .int .i64 j/\j<=pl/\OL QC 3 (un X oo) w3.heap.size 32 wi xo c (xN R p c k j)/\Ext w3 wi) (fun kk _=>pl - (intOf kk).toNat)
     case atStart=>exact⟨0,rfl,Nat.zero_le _,hO7,hE47⟩
     case round=>
      clear hO7 hE47 hE7;obtain⟨j,rfl,hj,hOx,hEx⟩:=hrel;have hE2x:=hE.trans hEx;have hXux:=hXu.ext hEx;have hZr:=hOx.unX hXux;by_cases hlj:j<pl
      ·have hjp:j<p.length:=by rw[hpl'.out];exact hlj
       have hjR:j<R.length:=by rw[hRl.out];omega
       have hsr:Sl RC 1 (mk (un (un X oo) xo) wr) ro R:=(hso.old RC.mono hE (fun j hj=>hO.ob_lt hj)).old RC.mono hEx (fun j hj=>hOx.ob_lt hj);have hspr:Sl (a0a .i64) 1 (mk (un (un X oo) xo) wr) po p:=(hsp.old (a0a.mono _) hE (fun j hj=>hO.ob_lt hj)).old (a0a.mono _) hEx (fun j hj=>hOx.ob_lt hj);have hpcl:Hid (∀Y W',ExtX Y wr.drew W'->Y (adr po j).block=false->W'.cell? (adr po j)=some (.int .i64 (p[j]:Int))):=hid fun Y W' h hy=>((ExtX.of (ExtX.refl (Y:=noY) wr).drew).trans h).cellY (hspr.nat j hjp) hy;have hXp:(un (un X oo) xo) (adr po j).block=false:=by
        obtain⟨u,h1,_⟩:=hspr.cell (a0a.one _) j hjp;cases hx:(un (un X oo) xo) (adr po j).block
        ·rfl
        ·simp[mk,hx]at h1
       have hpc1:Hid (p[j]<c):=hid (hRr.out.lt j hjp);have hgd:Hid (p.getD j 0=p[j]):=hid (by simp[List.getD_eq_getElem?_getD,hjp]);obtain⟨y,hy⟩:∃y,p[j]=y:=⟨_,rfl⟩;rw[hy]at hpcl hpc1 hgd;have hyc:y<c:=hpc1.out;obtain⟨a1,c1,hX1',hc1,hcl1,hq1⟩:=hsr.row j hjR;have hrl:Hid (R[j].length=c):=hid (hRs.out.2 R[j] (List.getElem_mem _));have hkR:k<R[j].length:=by rw[hrl.out];exact hlt
       have hev:Hid (R[j][k]=ent R j k):=hid (a7J hjR hkR);have hbk:=hid (hbm2.out R[j] (List.getElem_mem _) R[j][k] (List.getElem_mem _));obtain⟨g4,o4,s4,a4,n4,c4,d4,k4,e4,hg4,hX4,hc4,hq4⟩:=hq1.rat QC.shaped k hkR;rw[hev.out]at hq4 hbk;have hh1:Hd a1 c:=by have:=hq1.hd;rw[hrl.out]at this;exact this
       have hyx:y<(xN R p c k j).length:=by rw[a7E];exact hyc
       have hst:Hid ((xN R p c k j).set y (- ent R j k)=xN R p c k (j+1)):=hid (by rw[<-hgd.out];rfl);obtain⟨v,hv⟩:∃v,ent R j k=v:=⟨_,rfl⟩;rw[hv]at hq4 hbk hst;have hEd:Ext wr wr.drew:=(ExtX.refl wr).drew;rw[hrl.out]at hc1;have hob1:ob xo (adr po j).block=false:=(a0P hXp).2;have hob2:ob xo (adr ro j).block=false:=(a0P hX1').2;have hob3:ob xo g4=false:=(a0P hX4).2;have hS:Hid (∀Y W',ExtX Y wr.drew W'->Y (adr po j).block=false->Y (adr ro j).block=false->Y g4=false->W'.cell? (adr po j)=some (.int .i64 (y:Int))/\W'.cell? (adr ro j)=some (.slice a1 c c1)/\W'.cell? ⟨g4,o4,none⟩=some (.bool s4)/\W'.cell? ⟨g4,o4+1,none⟩=some (.slice a4 n4 c4)/\W'.cell? ⟨g4,o4+2,none⟩=some (.slice d4 k4 e4)):=hid fun Y W' h y1 y2 y3=>by
        have p4:=hc4.out Y W' ((ExtX.of hEd).trans h) y3;exact⟨hpcl.out Y W' h y1,hc1.out Y W' ((ExtX.of hEd).trans h) y2,p4.1,p4.2.1,p4.2.2⟩
       obtain⟨k00,k01,k10,k11,k12⟩:=hS.out noY wr.drew (ExtX.refl _) rfl rfl rfl;have i1:∀W,(Instr.indexAt 22 (.slice po pl pc) (.int .i64 (j:Int))).run Tryz.prog W= .ok (.pointer (some (adr po j))) W:=a0A a1G po pl pc .i64 j hhp (by omega) rfl;have i2:∀W,(Instr.indexAt 25 (.slice ro n rco) (.int .i64 (j:Int))).run Tryz.prog W= .ok (.pointer (some (adr ro j))) W:=a0A a0o ro n rco .i64 j hhr (by omega) rfl;have i3:∀W,(Instr.indexAt 45 (.slice a1 c c1) (.int .i64 (k:Int))).run Tryz.prog W= .ok (.pointer (some ⟨g4,o4,none⟩)) W:=by rw[<-hg4];exact a0h a0J a1 c c1 .i64 k hh1 (by omega)
       obtain⟨g,o,hg⟩:∃g o,adr xo (y*3)=⟨g,o,none⟩:=⟨_,_,rfl⟩;have hg':=hid hg;have i4:∀W,(Instr.indexAt 45 (.slice xo c c) (.int .i64 (y:Int))).run Tryz.prog W= .ok (.pointer (some ⟨g,o,none⟩)) W:=by rw[<-hg];exact a0h a0J xo c c .i64 y hxd (by omega)
       have hqd:QV (mk (un (un X oo) xo) wr.drew) (.agg #[.bool s4, .slice a4 n4 c4, .slice d4 k4 e4]) v:=hq4.qv (by have:=hbk.out;have:=hB6'.out;omega);have hZd:HX (un (un X oo) xo) wr.drew:=hZr;have hOd:=hOx.ext0 QC.elem hEd;clear hy hv hc1 hc4 hg hg4 hq1 hq4 hpcl hrl hev;go_wp2_with fail
       go_region_held3 (fun w'=>w'.cell? (adr po j)=some (.int .i64 (y:Int))/\w'.cell? (adr ro j)=some (.slice a1 c c1)/\w'.cell? ⟨g4,o4,none⟩=some (.bool s4)/\w'.cell? ⟨g4,o4+1,none⟩=some (.slice a4 n4 c4)/\w'.cell? ⟨g4,o4+2,none⟩=some (.slice d4 k4 e4))
        (first|exact hS.out (ob xo) _ ((ExtX.of t1).trans hset.2) hob1 hob2 hob3|exact hS.out noY _ t1 rfl rfl rfl|go_keep)
        ((go_at_call 147;(with_reducible refine(b3D (un (un X oo) xo) wr.drew _ v hZd hqd).mono ?_);rintro ee w9 ⟨t1,u9,rfl,hu9⟩;obtain⟨s9,a9,n9,c9,d9,k9,e9,rfl⟩:=hu9.shape;have hO9:=hOd.ext0 QC.elem t1;obtain⟨_,v0,v1,v2,_,⟨g0,f0⟩,⟨g1,f1⟩,⟨g2,f2⟩,_⟩:=hO9.cell3 y hyx hg'.out;have hset:=hO9.set3 a5N QC.elem y hyx hg'.out (v0:= .bool s9) (v1:= .slice a9 n9 c9) (v2:= .slice d9 k9 e9) (x:= -v) hu9))
       obtain⟨q1,q2⟩:=hset;rw[hst.out]at q1;have hEx2:=(hEx.trans (hEd.trans t1)).own hO9 (Nat.le_refl _) q2;clear k00 k01 k10 k11 k12 i1 i2 i3 i4 g0 g1 g2 f0 f1 f2 q2;go_wp2_with fail
       go_roundw
       case rel=>exact⟨j+1,by go_num,by omega,q1,hEx2⟩
       case measure=>simp[intOf];omega
      ·have hjl:j=pl:=by omega
       have hxf2:Hid (xN R p c k j=(List.range c).map (nv (ent R) p k)):=hid (by rw[hjl,<-hpl'.out];exact hxf.out);rw[hxf2.out]at hOx;obtain⟨L,hL⟩:∃L,(List.range c).map (nv (ent R) p k)=L:=⟨_,rfl⟩;rw[hL]at hOx hpush;have hLl:Hid (L.length=c):=hid (by rw[<-hL];simp);have hsx:=hOx.sl QC.elem;have hlc:=hOx.lenCap;have hOw:=hO.ext0 RC.elem hEx;have hszx:=hEx.size;clear hL;go_wp2_with (at_builtin;refine a0r (l:=a3q (ent R) p c k) a0o rfl RC.elem (by omega) (hXr.ext hEx) q hlq.out rfl rfl hOw (.slice xo c c) L rfl ⟨xo,c,by rw[hLl.out],hlc,hsx⟩ (by omega) (by omega) ?_;intro oo2 co2 w11 hO11 hE11 hor)
       have hE12:=(hE.trans hEx).own hOw (Nat.le_refl _) hE11;rw[<-hpush.out]at hO11;have hlq2:Hid ((a3q (ent R) p c (k+1)).length=q+1):=hid (by rw[hpush.out,List.length_append,hlq.out];rfl);go_roundw
       case rel=>exact⟨k+1,a,q+1,oo2,co2,by go_num,rfl,by go_num,by omega,by omega,ha,hlq2,hlo2,hhi2,hO11,hE12⟩
       case measure=>simp[intOf];omega
    ·go_wp2_with fail
     refine hcr.mono ?_;rintro e w2 ⟨rfl,rfl⟩;have hcr2:=hcol.out w2 (hE1.trans hE);clear hcr;go_wp2_with fail
     refine hcr2.mono ?_;rintro e w3 ⟨rfl,rfl⟩;clear hcr2;go_wp2_with ((with_reducible show wpList _ _ _ (⟨_, .makeSlice _ _ _,_,_,_,_⟩::_) _ _);refine a1F (R:=QC) a0J QC.elem (0:Rat) (fun _=>QC.zero _) (un X oo) hXu w3.heap.size (Nat.le_refl _) c rfl rfl rfl (by omega) (by omega) ?_;intro xo w5 hO5 hE5)
     have hxd:Hd xo c:=by have:=hO5.hd;rw[List.length_replicate]at this;exact this
     have hXu5:=hXu.ext hE5;have hZ5:=hO5.unX hXu5;have hv1:Hid ((((1:Int):Rat))=1):=hid rfl;refine(a4b (un (un X oo) xo) w5 1 hZ5 (by decide) (by decide)).mono ?_;rintro e w6 ⟨hE6,u6,rfl,hu6⟩;rw[hv1.out]at hu6;have hO6:=hO5.ext0 QC.elem hE6;go_wp2_with (first|(with_reducible refine a1E a0J (by omega) (by assumption) ?_)|((with_reducible show wpList _ _ _ (⟨_, .store 32 _ _,_,_,_,_⟩::_) _ _);refine a1O a5N QC.elem k rfl (by simp) hO6 hkr _ 1 rfl hu6 ?_;intro w7 hO7 hE7))
     have hE47:Ext w3 w7:=(hE5.trans hE6).own hO6 (Nat.le_refl _) hE7;clear hO5 hO6;go_loopw [11] (fun kk wi=>∃(j:Nat),kk= .int .i64 j/\j<=pl/\OL QC 3 (un X oo) w3.heap.size 32 wi xo c (xN R p c k j)/\Ext w3 wi) (fun kk _=>pl - (intOf kk).toNat)
     case atStart=>exact⟨0,rfl,Nat.zero_le _,hO7,hE47⟩
     case round=>
      clear hO7 hE47 hE7;obtain⟨j,rfl,hj,hOx,hEx⟩:=hrel;have hE2x:=hE.trans hEx;have hXux:=hXu.ext hEx;have hZr:=hOx.unX hXux;by_cases hlj:j<pl
      ·have hjp:j<p.length:=by rw[hpl'.out];exact hlj
       have hjR:j<R.length:=by rw[hRl.out];omega
       have hsr:Sl RC 1 (mk (un (un X oo) xo) wr) ro R:=(hso.old RC.mono hE (fun j hj=>hO.ob_lt hj)).old RC.mono hEx (fun j hj=>hOx.ob_lt hj);have hspr:Sl (a0a .i64) 1 (mk (un (un X oo) xo) wr) po p:=(hsp.old (a0a.mono _) hE (fun j hj=>hO.ob_lt hj)).old (a0a.mono _) hEx (fun j hj=>hOx.ob_lt hj);have hpcl:Hid (∀Y W',ExtX Y wr.drew W'->Y (adr po j).block=false->W'.cell? (adr po j)=some (.int .i64 (p[j]:Int))):=hid fun Y W' h hy=>((ExtX.of (ExtX.refl (Y:=noY) wr).drew).trans h).cellY (hspr.nat j hjp) hy;have hXp:(un (un X oo) xo) (adr po j).block=false:=by
        obtain⟨u,h1,_⟩:=hspr.cell (a0a.one _) j hjp;cases hx:(un (un X oo) xo) (adr po j).block
        ·rfl
        ·simp[mk,hx]at h1
       have hpc1:Hid (p[j]<c):=hid (hRr.out.lt j hjp);have hgd:Hid (p.getD j 0=p[j]):=hid (by simp[List.getD_eq_getElem?_getD,hjp]);obtain⟨y,hy⟩:∃y,p[j]=y:=⟨_,rfl⟩;rw[hy]at hpcl hpc1 hgd;have hyc:y<c:=hpc1.out;obtain⟨a1,c1,hX1',hc1,hcl1,hq1⟩:=hsr.row j hjR;have hrl:Hid (R[j].length=c):=hid (hRs.out.2 R[j] (List.getElem_mem _));have hkR:k<R[j].length:=by rw[hrl.out];exact hlt
       have hev:Hid (R[j][k]=ent R j k):=hid (a7J hjR hkR);have hbk:=hid (hbm2.out R[j] (List.getElem_mem _) R[j][k] (List.getElem_mem _));obtain⟨g4,o4,s4,a4,n4,c4,d4,k4,e4,hg4,hX4,hc4,hq4⟩:=hq1.rat QC.shaped k hkR;rw[hev.out]at hq4 hbk;have hh1:Hd a1 c:=by have:=hq1.hd;rw[hrl.out]at this;exact this
       have hyx:y<(xN R p c k j).length:=by rw[a7E];exact hyc
       have hst:Hid ((xN R p c k j).set y (- ent R j k)=xN R p c k (j+1)):=hid (by rw[<-hgd.out];rfl);obtain⟨v,hv⟩:∃v,ent R j k=v:=⟨_,rfl⟩;rw[hv]at hq4 hbk hst;have hEd:Ext wr wr.drew:=(ExtX.refl wr).drew;rw[hrl.out]at hc1;have hob1:ob xo (adr po j).block=false:=(a0P hXp).2;have hob2:ob xo (adr ro j).block=false:=(a0P hX1').2;have hob3:ob xo g4=false:=(a0P hX4).2;have hS:Hid (∀Y W',ExtX Y wr.drew W'->Y (adr po j).block=false->Y (adr ro j).block=false->Y g4=false->W'.cell? (adr po j)=some (.int .i64 (y:Int))/\W'.cell? (adr ro j)=some (.slice a1 c c1)/\W'.cell? ⟨g4,o4,none⟩=some (.bool s4)/\W'.cell? ⟨g4,o4+1,none⟩=some (.slice a4 n4 c4)/\W'.cell? ⟨g4,o4+2,none⟩=some (.slice d4 k4 e4)):=hid fun Y W' h y1 y2 y3=>by
        have p4:=hc4.out Y W' ((ExtX.of hEd).trans h) y3;exact⟨hpcl.out Y W' h y1,hc1.out Y W' ((ExtX.of hEd).trans h) y2,p4.1,p4.2.1,p4.2.2⟩
       obtain⟨k00,k01,k10,k11,k12⟩:=hS.out noY wr.drew (ExtX.refl _) rfl rfl rfl;have i1:∀W,(Instr.indexAt 22 (.slice po pl pc) (.int .i64 (j:Int))).run Tryz.prog W= .ok (.pointer (some (adr po j))) W:=a0A a1G po pl pc .i64 j hhp (by omega) rfl;have i2:∀W,(Instr.indexAt 25 (.slice ro n rco) (.int .i64 (j:Int))).run Tryz.prog W= .ok (.pointer (some (adr ro j))) W:=a0A a0o ro n rco .i64 j hhr (by omega) rfl;have i3:∀W,(Instr.indexAt 45 (.slice a1 c c1) (.int .i64 (k:Int))).run Tryz.prog W= .ok (.pointer (some ⟨g4,o4,none⟩)) W:=by rw[<-hg4];exact a0h a0J a1 c c1 .i64 k hh1 (by omega)
       obtain⟨g,o,hg⟩:∃g o,adr xo (y*3)=⟨g,o,none⟩:=⟨_,_,rfl⟩;have hg':=hid hg;have i4:∀W,(Instr.indexAt 45 (.slice xo c c) (.int .i64 (y:Int))).run Tryz.prog W= .ok (.pointer (some ⟨g,o,none⟩)) W:=by rw[<-hg];exact a0h a0J xo c c .i64 y hxd (by omega)
       have hqd:QV (mk (un (un X oo) xo) wr.drew) (.agg #[.bool s4, .slice a4 n4 c4, .slice d4 k4 e4]) v:=hq4.qv (by have:=hbk.out;have:=hB6'.out;omega);have hZd:HX (un (un X oo) xo) wr.drew:=hZr;have hOd:=hOx.ext0 QC.elem hEd;clear hy hv hc1 hc4 hg hg4 hq1 hq4 hpcl hrl hev;go_wp2_with fail
       go_region_held3 (fun w'=>w'.cell? (adr po j)=some (.int .i64 (y:Int))/\w'.cell? (adr ro j)=some (.slice a1 c c1)/\w'.cell? ⟨g4,o4,none⟩=some (.bool s4)/\w'.cell? ⟨g4,o4+1,none⟩=some (.slice a4 n4 c4)/\w'.cell? ⟨g4,o4+2,none⟩=some (.slice d4 k4 e4))
        (first|exact hS.out (ob xo) _ ((ExtX.of t1).trans hset.2) hob1 hob2 hob3|exact hS.out noY _ t1 rfl rfl rfl|go_keep)
        ((go_at_call 147;(with_reducible refine(b3D (un (un X oo) xo) wr.drew _ v hZd hqd).mono ?_);rintro ee w9 ⟨t1,u9,rfl,hu9⟩;obtain⟨s9,a9,n9,c9,d9,k9,e9,rfl⟩:=hu9.shape;have hO9:=hOd.ext0 QC.elem t1;obtain⟨_,v0,v1,v2,_,⟨g0,f0⟩,⟨g1,f1⟩,⟨g2,f2⟩,_⟩:=hO9.cell3 y hyx hg'.out;have hset:=hO9.set3 a5N QC.elem y hyx hg'.out (v0:= .bool s9) (v1:= .slice a9 n9 c9) (v2:= .slice d9 k9 e9) (x:= -v) hu9))
       obtain⟨q1,q2⟩:=hset;rw[hst.out]at q1;have hEx2:=(hEx.trans (hEd.trans t1)).own hO9 (Nat.le_refl _) q2;clear k00 k01 k10 k11 k12 i1 i2 i3 i4 g0 g1 g2 f0 f1 f2 q2;go_wp2_with fail
       go_roundw
       case rel=>exact⟨j+1,by go_num,by omega,q1,hEx2⟩
       case measure=>simp[intOf];omega
      ·have hjl:j=pl:=by omega
       have hxf2:Hid (xN R p c k j=(List.range c).map (nv (ent R) p k)):=hid (by rw[hjl,<-hpl'.out];exact hxf.out);rw[hxf2.out]at hOx;obtain⟨L,hL⟩:∃L,(List.range c).map (nv (ent R) p k)=L:=⟨_,rfl⟩;rw[hL]at hOx hpush;have hLl:Hid (L.length=c):=hid (by rw[<-hL];simp);have hsx:=hOx.sl QC.elem;have hlc:=hOx.lenCap;have hOw:=hO.ext0 RC.elem hEx;have hszx:=hEx.size;clear hL;go_wp2_with (at_builtin;refine a0r (l:=a3q (ent R) p c k) a0o rfl RC.elem (by omega) (hXr.ext hEx) q hlq.out rfl rfl hOw (.slice xo c c) L rfl ⟨xo,c,by rw[hLl.out],hlc,hsx⟩ (by omega) (by omega) ?_;intro oo2 co2 w11 hO11 hE11 hor)
       have hE12:=(hE.trans hEx).own hOw (Nat.le_refl _) hE11;rw[<-hpush.out]at hO11;have hlq2:Hid ((a3q (ent R) p c (k+1)).length=q+1):=hid (by rw[hpush.out,List.length_append,hlq.out];rfl);go_roundw
       case rel=>exact⟨k+1,a,q+1,oo2,co2,by go_num,rfl,by go_num,by omega,by omega,ha,hlq2,hlo2,hhi2,hO11,hE12⟩
       case measure=>simp[intOf];omega
  ·have hkc:k=c:=by omega
   subst hkc;go_wp2_with fail
   refine hcr.mono ?_;rintro e w2 ⟨rfl,rfl⟩;rw[hfull.out]at hO hlq;have hc:=hO.lenCap;have hs:=hO.sl RC.elem;go_wp2_with fail
   go_ret2
   exact⟨hE1.trans hE, .slice oo q co,rfl,oo,co,by rw[hlq.out],hc,hs⟩
theorem b9m:SliceT Tryz.prog 41 22 1 24 (.slice none 0 0):=⟨Tryz.underlying41,by kernel_rfl⟩
def a4l (X:Nat->Bool) (w:World) (N H:Nat) (e:Ending) (w':World):Prop:=Ext w w'/\∃(oo:Option Addr) (co:Nat),e= .returned (.slice oo (a0s N H 0).length co)/\(a0s N H 0).length<=co/\OL (SlV (a0x .i64) 1) 1 X w.heap.size 22 w' oo co (a0s N H 0)
def mid (L:List Int) (H p j:Nat):List Int:=(List.range H).map fun q=>if q<p then L.getD q 0 else if q<j then L.getD p 0+1+((q:Int) - p)else L.getD q 0
theorem b6H {X:Nat->Bool} {lo oo a3:Option Addr} {n:Nat} (h1:∀k,ob a3 k=true->un X oo k=false) (h2:∀k,ob a3 k=true->n<=k) (h3:∀k,ob lo k=true->k<n):∀k,ob a3 k=true->un (un X lo) oo k=false:=fun k hk=>by
 obtain⟨h4,h5⟩:=a0P (h1 k hk);have h6:ob lo k=false:=by
  cases hh:ob lo k
  ·rfl
  ·have:=h2 k hk;have:=h3 k hh;omega
 simp[un,h4,h5,h6]
theorem a1Q (L:List Int) (H p j:Nat):(mid L H p j).length=H:=by simp[mid]
theorem a5V (L:List Int) (H p j q:Nat) (hq:q<(mid L H p j).length):(mid L H p j)[q]=if q<p then L.getD q 0 else if q<j then L.getD p 0+1+((q:Int) - p)else L.getD q 0:=by simp[mid]
theorem a5W {L:List Int} {q:Nat} {x:Int} (hq:q<L.length) (h:L[q]=x):L.getD q 0=x:=by simp[List.getD,hq,h]
theorem b4F {L:List Int} {H p:Nat} {x:Int} (hl:L.length=H) (hp:p<L.length) (hx:L[p]=x):L.set p (x+1)=mid L H p (p+1):=by
 apply List.ext_getElem
 ·rw[a1Q,List.length_set,hl]
 ·intro q h1 h2
  rw[a5V,List.getElem_set];have hq:q<L.length:=by simpa using h1
  by_cases h3:p=q
  ·subst h3;rw[if_pos rfl,if_neg (by omega),if_pos (by omega),a5W hp hx];omega
  ·rw[if_neg h3]
   by_cases h4:q<p
   ·rw[if_pos h4,a5W hq rfl]
   ·rw[if_neg h4,if_neg (by omega),a5W hq rfl]
theorem b6I {L:List Int} {H p j:Nat} {y:Int} (hpj:p<j) (hj:j<H) (hy:(mid L H p j)[j - 1]'(by rw[a1Q];omega)=y):(mid L H p j).set j (y+1)=mid L H p (j+1):=by
 apply List.ext_getElem
 ·rw[a1Q,List.length_set,a1Q]
 ·intro q h1 h2
  rw[a5V]at hy;rw[if_neg (by omega),if_pos (by omega)]at hy;rw[a5V,List.getElem_set];by_cases h3:j=q
  ·subst h3;rw[if_pos rfl,if_neg (by omega),if_pos (by omega),<-hy];omega
  ·rw[if_neg h3,a5V]
   by_cases h4:q<p
   ·rw[if_pos h4,if_pos h4]
   ·rw[if_neg h4,if_neg h4]
    by_cases h5:q<j
    ·rw[if_pos h5,if_pos (by omega)]
    ·rw[if_neg h5,if_neg (by omega)]
theorem b6J {L:List Int} {H p:Nat} (hl:L.length=H) (hp:p<L.length):mid L H p H=L.take p++up (L[p]+1) (L.length - p):=by
 apply List.ext_getElem
 ·rw[a1Q,List.length_append,List.length_take,a6S];omega
 ·intro q h1 h2
  rw[a1Q]at h1;rw[a5V,List.getElem_append];by_cases h4:q<p
  ·rw[if_pos h4,dif_pos (by simp;omega),List.getElem_take,a5W (by omega) rfl]
  ·rw[if_neg h4,if_pos h1,dif_neg (by simp;omega),b3M,a5W hp rfl]
   simp only[List.length_take];omega
theorem a7M (X:Nat->Bool) (N H:Nat) (w:World) (hN:N<=64) (hH:H<=N) (hch:ch N H<=1000000) (hX:∀k,X k=true->k<w.heap.size):
  Calls Tryz.prog 44 #[.int .i64 (N:Int), .int .i64 (H:Int)] w (a4l X w N H):=by
 have hfirst:=hid (a3p N H 0);go_enter Tryz.func44,Tryz.ntmps44
 go_wp2_with (at_make;refine a1F a1G (a0x.elem .i64) 0 (fun _=>rfl) X hX w.heap.size (Nat.le_refl _) H rfl rfl rfl (by omega) (by omega) ?_;intro lo w1 hL1 hE1)
 go_loopw [6,21] (fun s c wr=>∃(k:Nat) (L:List Int),c= .int .i64 k/\k<=H/\L.length=H/\Hid (∀q (hq:q<L.length),q<k->L[q]=q)/\OL (a0x .i64) 1 X w.heap.size 3 wr lo H L/\Ext w wr) (fun _ c _=>H - (intOf c).toNat)
 case atStart=>exact⟨0,List.replicate H 0,rfl,Nat.zero_le _,by simp,hid (fun q hq h0=>by omega),hL1,hE1⟩
 case round=>
  obtain⟨k,L,rfl,hk,hLl,hq,hL,hE⟩:=hrel;have hhl:Hd lo H:=hLl▸hL.hd;by_cases hlt:k<H
  ·go_wp2_with (first|(with_reducible refine a0n a1G (by omega) (by assumption) ?_)|((with_reducible show wpList _ _ _ (⟨_, .store _ _ _,_,_,_,_⟩::_) _ _);refine a4O a3R k (k:Int) rfl rfl hL (by omega) rfl rfl ?_;intro w2 hL2 hE2))
   have hE3:=hE.own hL (Nat.le_refl _) hE2;have hq2:Hid (∀q (hq:q<(L.set k (k:Int)).length),q<k+1->(L.set k (k:Int))[q]=q):=hid (fun q hq1 hqk=>by
    by_cases hqk':k=q
    ·subst hqk';simp
    ·rw[List.getElem_set_ne hqk'];exact hq.out q _ (by omega))
   go_roundw
   case rel=>exact⟨k+1,L.set k (k:Int),by go_num,by omega,by simpa using hLl,hq2,hL2,hE3⟩
   case measure=>simp[intOf];omega
  ·have hup:Hid ((a0s N H 0)[0]? =some L):=hid (by
    have hup:L=up 0 H:=by
     apply List.ext_getElem
     ·rw[a6S,hLl]
     ·intro i h1 h2
      rw[hq.out i h1 (by omega),b3M];omega
    rw[hup];have:=hfirst.out;rw[if_pos hH]at this;exact this)
   have hXr:∀k,X k=true->k<wr.heap.size:=fun k hk=>Nat.lt_of_lt_of_le (hX k hk) hE.size;have hXl:=hL.unX hXr;clear hq hfirst hE1 hL1;go_wp2_with (at_builtin;refine b4g a1G rfl (a0x.elem .i64) hXr L rfl rfl hLl.symm (hL.sl (a0x.elem .i64)) (by omega) (by omega) ?_;intro a2 c2 w2 hC hE2)
   have hC2:Sl (a0x .i64) 1 (mk (un X lo) w2) a2 L:=hC.rehide (a0x.elem .i64) (fun _ _ _ _ h=>h) (fun k hk=>by
    have h1:X k=false:=hC.1 k hk;have h2:=(hC.block hk).1;have h3:ob lo k=false:=hL.ob_ge h2;simp[un,h1,h3])
   have hXl2:∀k,un X lo k=true->k<w2.heap.size:=fun k hk=>Nat.lt_of_lt_of_le (hXl k hk) hE2.size;have hw2:w.heap.size<=w2.heap.size:=Nat.le_trans hE.size hE2.size;have hO:OL (SlV (a0x .i64) 1) 1 (un X lo) w.heap.size 22 (w2.alloc (.cells #[.slice a2 H c2] 22)) (some ⟨w2.heap.size,0,none⟩) 1 [L]:=
    OL.lit (SlV.elem (a0x.elem .i64)) hXl2 hw2 [.slice a2 H c2] [L] _ (by simp[a0g,Value.cells]) rfl
     (fun i hi _=>by
              match i,hi with
              |0,_=>exact⟨a2,c2,by rw[<-hLl];rfl,hC.lenCap,hC2⟩) (by simp)
   have hL2:OL (a0x .i64) 1 (un X (some ⟨w2.heap.size,0,none⟩)) w.heap.size 3 (w2.alloc (.cells #[.slice a2 H c2] 22)) lo H L:=
    (hL.ext0 (a0x.elem .i64) hE2).ext (a0x.elem .i64) (Y:=noY) ((ExtX.refl _).alloc _) (fun k _ hk=>by simp[noY]at hk) (fun k hk hz=>by
     by_cases hx:X k=true
     ·exact hx
     ·have:w2.heap.size=k:=by simpa[un,hx,ob]using hz
      omega)
   have hE4:Ext w (w2.alloc (.cells #[.slice a2 H c2] 22)):=(hE.trans hE2).alloc _;have hlen:=hid (a0Y N H 0);have hO':OL (SlV (a0x .i64) 1) 1 (un X lo) w.heap.size 22 (w2.alloc (.cells #[.slice a2 H c2] 22)) (some ⟨w2.heap.size,0,none⟩) 1 ((a0s N H 0).take 1):=by
    have h0:=hup.out;rw[List.getElem?_eq_some_iff]at h0;obtain⟨h1,h2⟩:=h0;rw[List.take_succ_eq_append_getElem h1,h2];exact hO
   clear hO hC hC2 hL hE hE2;go_loopw [7] (fun s wr=>∃(k:Nat) (L:List Int) (oo:Option Addr) (co:Nat),s= .slice oo (k+1) co/\L.length=H/\Hid ((a0s N H 0)[k]? =some L)/\OL (SlV (a0x .i64) 1) 1 (un X lo) w.heap.size 22 wr oo co ((a0s N H 0).take (k+1))/\OL (a0x .i64) 1 (un X oo) w.heap.size 3 wr lo H L/\Ext w wr) (fun s _=>(a0s N H 0).length - lenOf s)
   case atStart=>exact⟨0,L,_,_,rfl,hLl,hup,hO',hL2,hE4⟩
   case round=>
    obtain⟨k2,M,oo,co,rfl,hMl,hM,hOO,hMM,hEE⟩:=hrel;clear hO' hL2 hE4 hup hLl;clear L;have hhl:Hd lo H:=hMl▸hMM.hd;go_wp2_with fail
    go_loop [8] (fun c=>∃(i:Int),c= .int .i64 i/\ -1<=i/\i<H/\Hid (∀q (hq:q<M.length),i<q->M[q]=(N:Int) - H+q)) (fun c=>((intOf c)+1).toNat)
    case atStart=>exact⟨(H:Int) - 1,rfl,by omega,by omega,hid (fun q hq h0=>by omega)⟩
    case round=>
     obtain⟨i,rfl,hi1,hi2,hq⟩:=hrel;by_cases hi0:0<=i
     ·obtain⟨p,rfl⟩:=Int.eq_ofNat_of_zero_le hi0
      have hp:p<M.length:=by omega
      have c1:=hMM.sl (a0x.elem .i64)|>.int p hp;obtain⟨x,hx⟩:∃x,M[p]=x:=⟨_,rfl⟩;rw[hx]at c1;have hx':=hid hx;clear hx;by_cases hxe:x=(N:Int) - H+p
      ·have hq2:Hid (∀q (hq:q<M.length),(p:Int) - 1<q->M[q]=(N:Int) - H+q):=hid (fun q hq1 hqp=>by
        by_cases hqe:q=p
        ·subst hqe;rw[hx'.out];exact hxe
        ·exact hq.out q hq1 (by omega))
       go_wp2_with (with_reducible refine a0n a1G (by omega) (by assumption) ?_)
       go_round
       case rel=>exact⟨(p:Int) - 1,rfl,by omega,by omega,hq2⟩
       case measure=>simp[intOf]
      ·have hmem:M∈a0s N H 0:=by
        have:=hM.out;rw[List.getElem?_eq_some_iff]at this;obtain⟨h1,h2⟩:=this;rw[<-h2];exact List.getElem_mem h1
       have hxb:0<=x/\x<(N:Int) - H+p:=by
        have h1:=(a1w N H 0 M hmem).2.1 x (hx'.out▸List.getElem_mem hp);have h2:=b3N N H 0 M hmem p hp;rw[hx'.out]at h2;omega
       have hnx:Hid ((a0s N H 0)[k2+1]? =some (mid M H p H)):=hid (by
        have h0:=hM.out;rw[List.getElem?_eq_some_iff]at h0;obtain⟨h1,h2⟩:=h0;rw[<-a5y N H 0 k2 h1,h2,b6J hMl hp];have h3:=b1n (0+(N:Int)) M p hp (by rw[hx'.out,hMl];omega) (fun q hq1 hqp=>by rw[hq.out q hq1 (by omega),hMl];omega);exact h3)
       have hset:=hid (b4F hMl hp hx'.out);clear hmem hq;go_wp2_with (first|(with_reducible refine a0n a1G (by omega) (by assumption) ?_)|((with_reducible show wpList _ _ _ (⟨_, .store _ _ _,_,_,_,_⟩::_) _ _);refine a4O a3R p (x+1) rfl rfl hMM hp rfl rfl ?_;intro w3 hM3 hE3))
       have hO3:=hOO.ext (SlV.elem (a0x.elem .i64)) hE3 (fun k _ hk=>a0y hk) (fun _ _ h=>h);have hE4:=hEE.own hMM (Nat.le_refl _) hE3;rw[hset.out]at hM3;clear hOO hMM hEE hE3 c1;go_loopw [9] (fun c wr=>∃(j:Nat),c= .int .i64 j/\p<j/\j<=H/\OL (SlV (a0x .i64) 1) 1 (un X lo) w.heap.size 22 wr oo co ((a0s N H 0).take (k2+1))/\OL (a0x .i64) 1 (un X oo) w.heap.size 3 wr lo H (mid M H p j)/\Ext w wr) (fun c _=>H - (intOf c).toNat)
       case atStart=>exact⟨p+1,by go_num,by omega,by omega,hO3,hM3,hE4⟩
       case round=>
        obtain⟨j,rfl,hpj,hjH,hO5,hM5,hE5⟩:=hrel;clear hO3 hM3 hE4;by_cases hj:j<H
        ·have hj1:j - 1<(mid M H p j).length:=by rw[a1Q];omega
         have hj2:j<(mid M H p j).length:=by rw[a1Q];exact hj
         have c2:=hM5.sl (a0x.elem .i64)|>.int (j - 1) hj1;obtain⟨y,hy⟩:∃y,(mid M H p j)[j - 1]=y:=⟨_,rfl⟩;have hyb:0<=y/\y<=1000:=by
          rw[a5V,if_neg (by omega),if_pos (by omega),a5W hp hx'.out]at hy;omega
         rw[hy]at c2;have hnext:=hid (b6I hpj hj hy);clear hy;obtain⟨j',rfl⟩:∃j',j=j'+1:=⟨j - 1,by omega⟩;simp only[Nat.add_sub_cancel]at c2;go_wp2_with (first|(with_reducible refine a0n a1G (by omega) (by assumption) ?_)|((with_reducible show wpList _ _ _ (⟨_, .store _ _ _,_,_,_,_⟩::_) _ _);refine a4O a3R (j'+1) (y+1) rfl rfl hM5 hj2 rfl rfl ?_;intro w6 hM6 hE6))
         have hO6:=hO5.ext (SlV.elem (a0x.elem .i64)) hE6 (fun k _ hk=>a0y hk) (fun _ _ h=>h);have hE7:=hE5.own hM5 (Nat.le_refl _) hE6;rw[hnext.out]at hM6;go_roundw
         case rel=>exact⟨j'+1+1,by go_num,by omega,by omega,hO6,hM6,hE7⟩
         case measure=>simp[intOf];omega
        ·have hje:j=H:=by omega
         rw[hje]at hM5;obtain⟨T,hT⟩:∃T,mid M H p H=T:=⟨_,rfl⟩;have hTl:T.length=H:=by rw[<-hT,a1Q]
         rw[hT]at hM5 hnx;have hX5:∀k,X k=true->k<wr.heap.size:=fun k hk=>Nat.lt_of_lt_of_le (hX k hk) hE5.size;have hbl:∀k,ob lo k=true->w.heap.size<=k/\k<wr.heap.size:=fun k hk=>hM5.block hk;have hbo:∀k,ob oo k=true->w.heap.size<=k/\k<wr.heap.size:=fun k hk=>hO5.block hk;have hXo5:∀k,un X oo k=true->k<wr.heap.size:=fun k hk=>by
          by_cases hx:X k=true
          ·exact hX5 k hx
          ·exact(hbo k (by simpa[un,hx]using hk)).2
         have hXl5:∀k,un X lo k=true->k<wr.heap.size:=fun k hk=>by
          by_cases hx:X k=true
          ·exact hX5 k hx
          ·exact(hbl k (by simpa[un,hx]using hk)).2
         have hklen:k2+1<(a0s N H 0).length:=(List.getElem?_eq_some_iff.1 hnx.out).1;have hkch:k2+1<ch N H:=by rw[<-hlen.out];exact hklen
         have htake:((a0s N H 0).take (k2+1)).length=k2+1:=by simp;omega
         have htake2:Hid ((a0s N H 0).take (k2+1)++[T]=(a0s N H 0).take (k2+1+1)):=hid (by
          obtain⟨h1,h2⟩:=List.getElem?_eq_some_iff.1 hnx.out;rw[List.take_succ_eq_append_getElem h1,h2])
         have hklen':=hid hklen;have htake':=hid htake;clear hklen htake;clear hXl hXl2 hXr;clear hset hX5;go_wp2_with (first|(at_builtin;refine b4g a1G rfl (a0x.elem .i64) hXo5 T rfl rfl hTl.symm (hM5.sl (a0x.elem .i64)) (by omega) (by omega) ?_;intro a3 c3 w6 hC hE6;have hO6:=hO5.ext0 (SlV.elem (a0x.elem .i64)) hE6;have hXl6:∀k,un X lo k=true->k<w6.heap.size:=fun k hk=>Nat.lt_of_lt_of_le (hXl5 k hk) hE6.size;have hb6:w.heap.size<=w6.heap.size:=Nat.le_trans hE5.size hE6.size;have hC3:Sl (a0x .i64) 1 (mk (un (un X lo) oo) w6) a3 T:=hC.rehide (a0x.elem .i64) (fun _ _ _ _ h=>h) (b6H hC.1 (fun k hk=>(hC.block hk).1) (fun k hk=>(hbl k hk).2)))|(at_builtin;refine a0r b9m rfl (SlV.elem (a0x.elem .i64)) hb6 hXl6 (k2+1) htake'.out rfl rfl hO6 (.slice a3 H c3) T rfl ⟨a3,c3,by rw[hTl],hC.lenCap,hC3⟩ (by omega) (by omega) ?_;intro oo7 co7 w7 hO7 hE7 hor))
         have hM7:=(hM5.ext0 (a0x.elem .i64) hE6).beside (a0x.elem .i64) hE7 hor;have hE8:=(hE5.trans hE6).own hO6 (Nat.le_refl _) hE7;rw[htake2.out]at hO7;go_roundw
         case rel=>exact⟨k2+1,T,oo7,co7,rfl,hTl,hnx,hO7,hM7,hE8⟩
         case measure=>
          have:=hklen'.out;simp[lenOf];omega
     ·have hall:Hid ((a0s N H 0).length<=k2+1):=hid (by
       have h0:=hM.out;rw[List.getElem?_eq_some_iff]at h0;obtain⟨h1,h2⟩:=h0;have h3:=a5y N H 0 k2 h1;rw[h2,a8s (0+(N:Int)) M (fun q hq1=>by rw[hq.out q hq1 (by omega),hMl];omega)]at h3;exact List.getElem?_eq_none_iff.1 h3.symm)
      have hk3:(a0s N H 0).length=k2+1:=by
       have h1:=(List.getElem?_eq_some_iff.1 hM.out).1;have h2:=hall.out;omega
      have hO9:=hOO.ext (SlV.elem (a0x.elem .i64)) (ExtX.refl (Y:=noY) wr) (fun k _ hk=>by simp[noY]at hk) (Z:=X) (fun k _ hk=>a0v hk);rw[List.take_of_length_le hall.out]at hO9;have hk3':=hid hk3;clear hk3;have hcc:=hO9.lenCap;go_wp2_with fail
      go_ret
      exact⟨hEE,oo,co,a3N hk3'.out.symm,hcc,hO9⟩
end Go.Proofs.YtoibhmjjhgaimaaGreat
