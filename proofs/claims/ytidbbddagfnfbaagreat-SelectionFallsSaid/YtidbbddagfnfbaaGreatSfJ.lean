/- reference 06: reduce. Conditions: few rows and columns, numbers of few digits. reference 06: Reduce, Rank, Det. Conditions: few rows and columns, numbers of few digits. reference 06: SameInts. Conditions: lengths far below any machine's. slices.Index, slices.Contains of integers; design: Alias; reference 12: Alias. Conditions: numbers of few digits. -/
import Derived.Test.YtidbbddagfnfbaaGreatSfI
import Derived.Deep.DrawnRows
import Derived.Deep.LoopGhost
import Derived.BigQuiet
namespace Go.Proofs.YtidbbddagfnfbaaGreat
open Go.RowKit Go.Rep Go.Lim Go.Lin
attribute [local go_sem↓] Go.wp_at_zero Go.wp_at_succ
def b5Y (X:Nat->Bool) (w:World) (S:Sr) (e:Ending) (w':World):Prop:=Ext w w'/\∃oo co po pc uf,e= .returned (.tuple #[.slice oo S.1.length co, .slice po S.2.1.length pc,uf])/\S.1.length<=co/\S.2.1.length<=pc/\Sl RC 1 (mk X w') oo S.1/\Sl (a0d .i64) 1 (mk X w') po S.2.1/\QC (mk X w') uf S.2.2
set_option maxRecDepth 100000 in
set_option maxHeartbeats 1600000 in
theorem a4u (X:Nat->Bool) (w:World) (u:Value) (m:List (List Rat)) (n c:Nat) (hX:HX X w) (hu:MV (mk X w) u m) (hsh:Shp n c m) (hc:a0B m=c) (hn:n<=900) (hcc:c<=900) (hT:a6H m c):Calls Tryz.prog 168 #[u] w (b5Y X w (rN m c)):=by
 obtain⟨W,hW,hEW,b0,hz⟩:=a1t w #[.bool false, .slice none 0 0, .slice none 0 0] 45;have hX1:HX (a0f X w.heap.size 1) W:=hX.boxes hz;have hu1:MV (mk (a0f X w.heap.size 1) W) u m:=MV.mono _ _ _ _ (a0o hEW) hu;have htk:=b6P (a0f X w.heap.size 1) W u m hX1 hu1 (by rw[hsh.1];omega) (fun r hr=>by rw[hsh.2 r hr];omega);have hml:=hid hsh.1;have hsh':=hid hsh;have hn0:Hid (n=0->c=0):=hid fun h=>by
  have:m= []:=List.eq_nil_of_length_eq_zero (by rw[hml.out];exact h);rw[<-hc,this];rfl
 obtain⟨B,hB6,hBj⟩:=hT;have hBj':=hid hBj;have hB6':=hid hB6;have hunb:Hid (∀w',Le (mk (a0f X w.heap.size 1) w') (mk X w')):=hid fun w'=>a0l;have hrb:Hid (a0f X w.heap.size 1 w.heap.size=true):=hid (a5j (Nat.le_refl _) (by omega));obtain⟨X1,hX1e⟩:∃X1,a0f X w.heap.size 1=X1:=⟨_,rfl⟩;obtain⟨b,hb⟩:∃b,w.heap.size=b:=⟨_,rfl⟩;rw[hX1e]at hX1 htk hunb hrb;rw[hb]at b0 hrb;have hbW:W.heap.size=b+1:=by rw[<-hb];exact hz
 have hbw':Hid (w.heap.size=b):=hid hb;clear hu hu1 hX1e hz hb hsh hBj hB6;go_enter Tryz.func168,Tryz.ntmps168
 go_wp2_with fail
 refine htk.mono ?_;rintro e w1 ⟨hE1,oo,co,rfl,hO1⟩;have hXu1:HX (un X1 oo) w1:=hO1.unX (hX1.ext hE1);clear hW;rw[hml.out];go_wp2_with fail
 refine(a4I (un X1 oo) w1 1 hXu1 (by decide) (by decide)).mono ?_;rintro e w2 ⟨hE2,u2,rfl,hu2⟩;obtain⟨s2,a2,n2,c2,d2,k2,e2,rfl⟩:=hu2.shape;have bf:=Bx.new w2 #[.bool false, .slice none 0 0, .slice none 0 0] 45;go_wp2_with ((with_reducible show wpList _ _ _ (⟨_, .store _ _ _,_,_,_,_⟩::_) _ _);refine a0c a0u rfl rfl bf rfl rfl (a2g _ _ _ _ _ _ _) ?_;intro w3 r1 r2)
 have hE3:Ext w2 w3:=ExtX.box ((ExtX.refl w2).alloc _) r2 (Nat.le_refl _);have hO2:=hO1.ext0 RC.elem hE2;have hob2:∀k,ob oo k=true->k<w2.heap.size:=fun k hk=>(hO2.block hk).2;obtain⟨fb,hfb⟩:∃fb,w2.heap.size=fb:=⟨_,rfl⟩;obtain⟨base,hbase⟩:∃base,W.heap.size=base:=⟨_,rfl⟩;have hs1:=hE1.size;have hs2:=hE2.size;have hR0:RS X1 w b fb base 24 45 3 w3 oo co none 0 m [] 1:=by
  subst hfb hbase;refine⟨hO2.ext RC.elem hE3 (fun k _ h=>by simp[noY]at h) (fun k hk hz=>?_),OL.nil _ _ _ _ _ _,⟨s2,a2,n2,c2,d2,k2,e2,r1,QC.mono _ _ _ _ (a1f hE3 (fun k _ h=>by simp[noY]at h) fun k hk hz=>?_) hu2⟩,hX1.ext (hE1.trans (hE2.trans hE3)),b0.ext0 (hE1.trans (hE2.trans hE3)),hrb.out,?_,hEW.trans (hE1.trans (hE2.trans hE3)),?_,?_⟩
  ·by_cases h:X1 k=true
   ·exact h
   ·have h':X1 k=false:=by simpa using h
    have:w2.heap.size=k:=by simpa[un,a9m,ob,h']using hz
    omega
  ·by_cases h:un X1 oo k=true
   ·exact h
   ·have h':un X1 oo k=false:=by simpa using h
    obtain⟨h1,h2⟩:=a1q h';have e1:ob (none:Option Addr) k=false:=rfl;have e2:ob (some ⟨w2.heap.size,0,none⟩) k=(w2.heap.size==k):=rfl;have:w2.heap.size=k:=by simpa[un,a6w,a9m,h1,h2,e1,e2]using hz
    omega
  ·omega
  ·have:=hEW.size;omega
  ·have:=hEW.size;omega
 have hcap:n<=co:=by have:=hO1.lenCap;rw[hml.out]at this;exact this
 have hhO:Hd oo n:=by have:=hO1.hd;rw[hml.out]at this;exact this
 rw[hfb,hbw'.out];clear hO1 hO2 hob2 hu2 bf r1 r2 hE1 hE2 hE3 hs1 hs2 htk b0 hX1 hXu1 hEW hfb hbase hbW;go_loopg [5,7] c (fun g p k wr=>∃(j:Nat) (po:Option Addr) (pc pl:Nat) (M:Mat) (P:List Nat) (f:Rat),k= .int .i64 j/\p= .slice po pl pc/\j+g=c/\Hid (P.length=pl)/\Hid (rN m j=(M,P,f))/\RS X1 w b fb base 24 45 3 wr oo co po pc M P f)
 case atStart=>exact⟨0,none,0,0,m,[],1,rfl,rfl,by omega,hid rfl,hid rfl,hR0⟩
 case round=>
  obtain⟨j,po,pc,pl,M,P,f,rfl,rfl,hj,hpl,hst,hR⟩:=hrel;have hok:=a5M hsh'.out j;rw[hst.out]at hok;have hM:=hid hok.shp;have hMl:Hid (M.length=n):=hid hM.out.1;have hpn:pl<=n:=by have h1:P.length<=n:=hok.ref.le;rw[hpl.out]at h1;exact h1
  have hBM:=hid (hBj'.out j (by omega));rw[hst.out]at hBM;have hcolM:a0B M=c:=a8C hM.out hn0.out;have hco:=a4c (R:=QC) (un (a9m X1 fb) po) wr (.slice oo n co) M ⟨oo,co,by rw[hMl.out],by rw[hMl.out];exact hcap,hR.rows.sl RC.elem⟩;rw[hcolM]at hco;clear hok hcolM;by_cases hlj:j<c
  ·go_wp2_with fail
   refine hco.mono ?_;rintro e w2 ⟨rfl,rfl⟩;clear hco;go_wp2_with fail
   go_loopw [9] (fun a wx=>∃(t:Nat),a= .int .i64 t/\pl<=t/\t<=n/\Hid (∀i,pl<=i->i<t->ent M i j=0)/\RS X1 w b fb base 24 45 3 wx oo co po pc M P f) (fun a _=>n - (intOf a).toNat)
   case atStart=>exact⟨pl,rfl,Nat.le_refl _,hpn,hid (fun i h1 h2=>by omega),hR⟩
   case round=>
    clear hR;obtain⟨t,rfl,htl,htn,hzz,hR⟩:=hrel;by_cases htt:t<n
    ·have htM:t<M.length:=by rw[hMl.out];exact htt
     obtain⟨a1,c1,k00,f00,hcl1,hq1⟩:=hR.row t htM;have hrl:Hid (M[t].length=c):=hid (hM.out.2 _ (List.getElem_mem _));have hjr:j<M[t].length:=by rw[hrl.out];exact hlj
     have hei:=hid (b0q htM hjr);rw[hrl.out]at k00 hcl1;have hh1:Hd a1 c:=by have:=hq1.hd;rw[hrl.out]at this;exact this
     have hxB:=hid (hBM.out.1 t j);have hZr:=hR.hz;obtain⟨g9,o9,s5,a5,n5,c5,d5,k5,e5,hg9,hX9,hc9,hu5⟩:=hq1.rat QC.shaped j hjr;rw[hei.out]at hu5;obtain⟨x,hx⟩:∃x,ent M t j=x:=⟨_,rfl⟩;rw[hx]at hei hxB hu5;have hx':=hid hx;obtain⟨k10,k11,k12⟩:=hc9.out noY wr (ExtX.refl _) rfl;have i1:∀W,(Instr.indexAt 23 (.slice oo n co) (.int .i64 (t:Int))).run Tryz.prog W= .ok (.pointer (some (adr oo t))) W:=a0C a0r oo n co .i64 t hhO (by omega) rfl;have i2:∀W,(Instr.indexAt 24 (.slice a1 c c1) (.int .i64 (j:Int))).run Tryz.prog W= .ok (.pointer (some ⟨g9,o9,none⟩)) W:=by rw[<-hg9];exact a0h a0D a1 c c1 .i64 j hh1 (by omega)
     clear hx f00 hc9 hg9 hX9;by_cases h0:x=0
     ·have hs0:(x.num.sign==(0:Int))=true:=by rw[h0];rfl
      have hzz2:Hid (∀i,pl<=i->i<t+1->ent M i j=0):=hid fun i h1 h2=>by
       by_cases e:i=t
       ·subst e;rw[hx'.out];exact h0
       ·exact hzz.out i h1 (by omega)
      clear h0;go_wp2_with fail
      refine(a6T (a6w X1 fb po oo) wr _ x hZr (hu5.qv (by have:=hxB.out;have:=hB6'.out;omega))).mono ?_;rintro e w5 ⟨hE5,rfl⟩;have hR5:=hR.ext0 hE5;clear k00 k10 k11 k12 i1 i2;go_wp2_with fail
      go_roundw
      case rel=>exact⟨t+1,by go_num,by omega,by omega,hzz2,hR5⟩
      case measure=>simp[intOf];omega
     ·have hs0:(x.num.sign==(0:Int))=false:=a2I (by intro h;exact h0 (Rat.num_eq_zero.1 (Int.sign_eq_zero_iff_zero.1 h)))
      have hx0:=hid h0;have hne:((t:Int)==(n:Int))=false:=a2I (by omega);clear h0;go_wp2_with fail
      refine(a6T (a6w X1 fb po oo) wr _ x hZr (hu5.qv (by have:=hxB.out;have:=hB6'.out;omega))).mono ?_;rintro e w5 ⟨hE5,rfl⟩;have hR5:=hR.ext0 hE5;clear k00 k10 k11 k12 i1 i2 hR hE5 hZr hq1 hu5 hh1
      go_upto_if 46 with(fail)
      have hplM:pl<M.length:=by rw[hMl.out];omega
      have hpn2:pl<n:=by omega
      have hsw:=hid (b2E htM hplM);have hpiv:Hid (rN m (j+1)=(out (pv (a1d M t pl) pl j) pl j n,P++[j],(if t - pl=0 then f else - f)*ent (a1d M t pl) pl j)):=hid (by
       have e1:pl+(t - pl)=t:=by omega
       have:=b9j hsh'.out hst.out hpl.out (a:=t - pl) (by rw[e1];exact hzz.out) (by omega) (by rw[e1,hx'.out];exact hx0.out);rw[e1]at this;exact this)
      have hM1s:=hid (hM.out.swap htt hpn2);have hB1s:=hid (hBM.out.1.swap hM.out htt hpn2);have hp1:Hid (ent (a1d M t pl) pl j≠0):=hid (by rw[a3n hM.out htt hpn2,if_pos rfl,hx'.out];exact hx0.out);have hfB:=hid hBM.out.2;clear hs0 hne hxB hx0 hei hcl1;go_cut []from 14 to 122 (fun wx=>∃f1,Hid (f1=if t - pl=0 then f else - f)/\RS X1 w b fb base 24 45 3 wx oo co po pc (a1d M t pl) P f1)
      case first=>
       by_cases htp:t=pl
       ·have hne2:((t:Int) !=(pl:Int))=false:=a7U (by omega)
        have hRs:RS X1 w b fb base 24 45 3 w5 oo co po pc (a1d M t pl) P f:=by rw[htp,a5l M pl hplM];exact hR5
        have hff:Hid (f=if t - pl=0 then f else - f):=hid (if_pos (by omega)).symm;clear htp hR5;go_wp2_with fail
        go_meet
        case rel=>exact⟨f,hff,hRs⟩
       ·have hne2:((t:Int) !=(pl:Int))=true:=a7R (by omega)
        have hff:Hid (- f=if t - pl=0 then f else - f):=hid (if_neg (by omega)).symm;obtain⟨ap,cp,y1,fy1,hclp,hqp⟩:=hR5.row pl hplM;obtain⟨ax,cx,y2,fy2,hclx,hqx⟩:=hR5.row t htM;obtain⟨hO1,hE1⟩:=hR5.rows.set1 a5z RC.elem SlV.one t htM (.slice ap M[pl].length cp) M[pl] ⟨ap,cp,rfl,hclp,hqp⟩;obtain⟨u3,k3,f3,hu3⟩:=hO1.cell SlV.one pl (by simpa using hplM);obtain⟨hO2,hE2⟩:=hO1.set1 a5z RC.elem SlV.one pl (by simpa using hplM) (.slice ax M[t].length cx) M[t] ⟨ax,cx,rfl,hclx,hqx.mono QC.mono (a0x hE1 fun k hk=>a0q hk)⟩;have hE6:=(hE1.trans hE2).drew;have hO2:=hO2.ext0 RC.elem (ExtX.refl (Y:=noY) _).drew;rw[hsw.out]at hO2;have hR6:=hR5.setRows hE6 hO2;have i1:∀W,(Instr.indexAt 23 (.slice oo n co) (.int .i64 (t:Int))).run Tryz.prog W= .ok (.pointer (some (adr oo t))) W:=a0C a0r oo n co .i64 t hhO (by omega) rfl;have i2:∀W,(Instr.indexAt 23 (.slice oo n co) (.int .i64 (pl:Int))).run Tryz.prog W= .ok (.pointer (some (adr oo pl))) W:=a0C a0r oo n co .i64 pl hhO (by omega) rfl;clear htp hu3 hO1 hO2 hE1 hE2 hR5 hqp hqx;go_wp2_with fail
        go_region
        obtain⟨w6,hw6⟩:∃w6,((w5.setCell (adr oo t) (.slice ap M[pl].length cp)).setCell (adr oo pl) (.slice ax M[t].length cx)).drew=w6:=⟨_,rfl⟩;rw[hw6]at hR6 |-;obtain⟨sf,af,nf,cf,df,kf,ef,bF,hqF⟩:=hR6.fac;have z0:=bF.cell 0 rfl;have z1:=bF.cell 1 rfl;have z2:=bF.cell 2 rfl;have hZ6:=hR6.hz;clear y1 y2 fy1 fy2 k3 f3 i1 i2 hw6 hE6;go_wp2_with fail
        refine(b6O (a6w X1 fb po oo) w6 _ f hZ6 (hqF.qv (by have:=hfB.out;have:=hB6'.out;omega))).mono ?_;rintro e w7 ⟨hE7,u7,rfl,hu7⟩;obtain⟨s7,a7,n7,c7,d7,k7,e7,rfl⟩:=hu7.shape;have bF7:=bF.ext0 hE7;have hR7:=hR6.ext0 hE7;clear z0 z1 z2 bF;go_wp2_with ((with_reducible show wpList _ _ _ (⟨_, .store _ _ _,_,_,_,_⟩::_) _ _);refine a0c a0u rfl rfl bF7 rfl rfl (a2g _ _ _ _ _ _ _) ?_;intro w8 r1 r2)
        have hR8:=hR7.setFac r2 r1 (QC.mono _ _ _ _ (a0x r2 fun k hk=>a0k (a0k (a0q hk))) hu7)
        go_meet
        case rel=>exact⟨- f,hff,hR8⟩
      case rest=>
       obtain⟨f1,hf1,hR1⟩:=hcut;rw[<-hf1.out]at hpiv;have hf1B:Hid (hq f1<=B):=hid (by rw[hf1.out];split;exact hfB.out;rw[a5v];exact hfB.out);obtain⟨w6,hw6⟩:∃w6,w6=wc:=⟨_,rfl⟩;subst hw6;obtain⟨M1,hM1e⟩:∃M1,a1d M t pl=M1:=⟨_,rfl⟩;rw[hM1e]at hpiv hM1s hB1s hp1 hR1;have hM1l:Hid (M1.length=n):=hid hM1s.out.1;have hpM1:pl<M1.length:=by rw[hM1l.out];exact hpn2
       have hrl1:Hid (M1[pl].length=c):=hid (hM1s.out.2 _ (List.getElem_mem _));have hjp:j<M1[pl].length:=by rw[hrl1.out];exact hlj
       have hei:=hid (b0q hpM1 hjp);have hxB:=hid (hB1s.out pl j);have hpe:Hid (M1.getD pl []=M1[pl]):=hid (a3e hpM1);obtain⟨y,hy⟩:∃y,ent M1 pl j=y:=⟨_,rfl⟩;have hpvd:Hid (pv M1 pl j=M1.set pl (M1[pl].map (· *(((1:Int):Rat)/y)))):=hid (by unfold pv;rw[hpe.out,hy];rfl);rw[hy]at hei hxB hp1 hpiv;have hM2s:=hid (hM1s.out.pv hpn2 j);have hB2s:=hid (hB1s.out.pv hM1s.out hpn2 j);have hrowB:Hid (BR B M1[pl]):=hid (a7D hB1s.out _ (List.getElem_mem _));have i1:∀W,(Instr.indexAt 23 (.slice oo n co) (.int .i64 (pl:Int))).run Tryz.prog W= .ok (.pointer (some (adr oo pl))) W:=a0C a0r oo n co .i64 pl hhO (by omega) rfl;have hEd:Ext w6 w6.drew:=(ExtX.refl w6).drew;clear hR5 hM1e hy hx' hsw;go_upto_region 15 with(fail)
       go_cut []from 14 to 122 (fun wx=>RS X1 w b fb base 24 45 3 wx oo co po pc M1 P (f1*y))
       case first=>
        obtain⟨ap,cp,y1,fy1,hclp,hqp⟩:=hR1.row pl hpM1;obtain⟨g,o,s5,a5,n5,c5,d5,k5,e5,hg,hXg,hcg,hqg⟩:=hqp.rat QC.shaped j hjp;obtain⟨sf,af,nf,cf,df,kf,ef,bF,hqF⟩:=hR1.fac;rw[hei.out]at hqg;rw[hrl1.out]at y1 hclp;have hhp:Hd ap c:=by have:=hqp.hd;rw[hrl1.out]at this;exact this
        have i2:∀W,(Instr.indexAt 24 (.slice ap c cp) (.int .i64 (j:Int))).run Tryz.prog W= .ok (.pointer (some ⟨g,o,none⟩)) W:=by rw[<-hg];exact a0h a0D ap c cp .i64 j hhp (by omega)
        have bFd:=bF.ext0 hEd;have z0:=bFd.cell 0 rfl;have z1:=bFd.cell 1 rfl;have z2:=bFd.cell 2 rfl;obtain⟨k0,k1,k2⟩:=hcg.out noY w6.drew hEd rfl;have y1d:w6.drew.cell? (adr oo pl)=some (.slice ap c cp):=y1;have hRd:=hR1.ext0 hEd;have hZd:=hRd.hz;have hqFv:QV (mk (a6w X1 fb po oo) w6.drew) (.agg #[.bool sf, .slice af nf cf, .slice df kf ef]) f1:=hqF.qv (by have:=hf1B.out;have:=hB6'.out;omega);have hqgv:QV (mk (a6w X1 fb po oo) w6.drew) (.agg #[.bool s5, .slice a5 n5 c5, .slice d5 k5 e5]) y:=hqg.qv (by have:=hxB.out;have:=hB6'.out;omega);clear hqp hg hcg hR1 y1 fy1 bF;go_wp2_with fail
        go_region_with ((go_at_call 52;(with_reducible refine(b1E (a6w X1 fb po oo) w6.drew _ _ f1 y hZd hqFv hqgv).mono ?_);rintro ee w7 ⟨t1,u7,rfl,hu7⟩;obtain⟨s7,a7,n7,c7,d7,k7,e7,rfl⟩:=hu7.shape;have bF7:=bFd.ext0 t1;have g0:=bF7.cell 0 rfl;have g1:=bF7.cell 1 rfl;have g2:=bF7.cell 2 rfl;have h0:=bF7.frozen 0;have h1:=bF7.frozen 1;have h2:=bF7.frozen 2))
        all_goals
         obtain⟨q1,q2⟩:=bF7.set3 (.bool s7) (.slice a7 n7 c7) (.slice d7 k7 e7);have hR8:=(hRd.ext0 t1).setFac q2 q1 (QC.mono _ _ _ _ (a0x q2 fun k hk=>a0k (a0k (a0q hk))) hu7);clear z0 z1 z2 k0 k1 k2 y1d g0 g1 g2 h0 h1 h2 i2;go_wp2_with fail
         go_meet
         case rel=>exact hR8
       case rest=>
        have hf2B:Hid (hq (f1*y)<=2*B):=hid (by have:=hq_mul f1 y;have:=hf1B.out;have:=hxB.out;omega);obtain⟨f2,hf2⟩:∃f2,f1*y=f2:=⟨_,rfl⟩;rw[hf2]at hf2B hcut hpiv;clear hR1 hEd hf2;obtain⟨w7,hw7⟩:∃w7,w7=wc:=⟨_,rfl⟩;subst hw7;have hR2:=hcut;have hEd:Ext w7 w7.drew:=(ExtX.refl w7).drew;clear hcut;go_upto_region 16 with(fail)
        go_cut []from 14 to 122 (fun wx=>RS X1 w b fb base 24 45 3 wx oo co po pc (pv M1 pl j) P f2)
        case first=>
         obtain⟨ap,cp,y1,fy1,hclp,hqp⟩:=hR2.row pl hpM1;obtain⟨g,o,s5,a5,n5,c5,d5,k5,e5,hg,hXg,hcg,hqg⟩:=hqp.rat QC.shaped j hjp;rw[hei.out]at hqg;have hhp:Hd ap c:=by have:=hqp.hd;rw[hrl1.out]at this;exact this
         have i2:∀W,(Instr.indexAt 24 (.slice ap c cp) (.int .i64 (j:Int))).run Tryz.prog W= .ok (.pointer (some ⟨g,o,none⟩)) W:=by rw[<-hg];exact a0h a0D ap c cp .i64 j hhp (by omega)
         have hrp:RV (mk (a6w X1 fb po oo) w7.drew) (.slice ap c cp) M1[pl]:=by
          rw[<-hrl1.out];exact⟨ap,cp,rfl,hclp,hqp.qv fun q hq=>Nat.le_trans (hrowB.out q hq) (by have:=hB6'.out;omega)⟩
         rw[hrl1.out]at y1 hclp;have hS:Hid (∀W',Ext w7.drew W'->W'.cell? (adr oo pl)=some (.slice ap c cp)/\W'.cell? ⟨g,o,none⟩=some (.bool s5)/\W'.cell? ⟨g,o+1,none⟩=some (.slice a5 n5 c5)/\W'.cell? ⟨g,o+2,none⟩=some (.slice d5 k5 e5)):=hid fun W' h=>by
          obtain⟨k0,k1,k2⟩:=hcg.out noY W' (hEd.trans h) rfl;exact⟨(hEd.trans h).cell y1,k0,k1,k2⟩
         obtain⟨y1d,k0,k1,k2⟩:=hS.out w7.drew (ExtX.refl _);have hRd:=hR2.ext0 hEd;have hZd:=hRd.hz;have hqgv:QV (mk (a6w X1 fb po oo) w7.drew) (.agg #[.bool s5, .slice a5 n5 c5, .slice d5 k5 e5]) y:=hqg.qv (by have:=hxB.out;have:=hB6'.out;omega);have h1q:Hid (hq (((1:Int):Rat))<=68719476736):=hid (by decide+kernel);have hqb:Hid (hq (((1:Int):Rat)/y)<=68719476736):=hid (by have h3:=hq_div ((1:Int):Rat) y;have h4:hq (((1:Int):Rat))=1:=(by decide+kernel);have:=hxB.out;have:=hB6'.out;have:=a6P y;omega);have hrl3:Hid (M1[pl].length<=1000000):=hid (by rw[hrl1.out];omega);clear hqp hg hcg hR2 y1 fy1;go_wp2_with fail
         refine a0M 17 (fun w'=>w'.cell? (adr oo pl)=some (.slice ap c cp)/\w'.cell? ⟨g,o,none⟩=some (.bool s5)/\w'.cell? ⟨g,o+1,none⟩=some (.slice a5 n5 c5)/\w'.cell? ⟨g,o+2,none⟩=some (.slice d5 k5 e5)) (by kernel_rfl) (by kernel_rfl) (hS.out _ (ExtX.refl _)) (fun hHeld hOnce=>?_);clear y1d k0 k1 k2;refine a0a hOnce (i:=0) (oi:=⟨_,_,_,_,_,_⟩) (v:=?_) rfl (by kernel_rfl) (fun _ _ _ h=>h) (by assumption) (by rfl) (fun w hSw=>?_) ?_
         rotate_left
         ·(try dsimp only at hSw)
          go_simp
          all_goals with_reducible rfl
         (try simp only[Act.put,List.setIfInBounds_toArray,List.set_cons_zero,List.set_cons_succ])
         refine a0a hOnce (i:=1) (oi:=⟨_,_,_,_,_,_⟩) (v:=?_) rfl (by kernel_rfl) (fun _ _ _ h=>h) (by assumption) (by rfl) (fun w hSw=>?_) ?_
         rotate_left
         ·(try dsimp only at hSw)
          go_simp
          all_goals with_reducible rfl
         (try simp only[Act.put,List.setIfInBounds_toArray,List.set_cons_zero,List.set_cons_succ])
         refine a0a hOnce (i:=2) (oi:=⟨_,_,_,_,_,_⟩) (v:=?_) rfl (by kernel_rfl) (fun _ _ _ h=>h) (by assumption) (by rfl) (fun w hSw=>?_) ?_
         rotate_left
         ·(try dsimp only at hSw)
          go_simp
          all_goals with_reducible rfl
         (try simp only[Act.put,List.setIfInBounds_toArray,List.set_cons_zero,List.set_cons_succ])
         refine a0a hOnce (i:=3) (oi:=⟨_,_,_,_,_,_⟩) (v:=?_) rfl (by kernel_rfl) (fun _ _ _ h=>h) (by assumption) (by rfl) (fun w hSw=>?_) ?_
         rotate_left
         ·(try dsimp only at hSw)
          go_simp
          all_goals with_reducible rfl
         (try simp only[Act.put,List.setIfInBounds_toArray,List.set_cons_zero,List.set_cons_succ])
         refine a0a hOnce (i:=4) (oi:=⟨_,_,_,_,_,_⟩) (v:=?_) rfl (by kernel_rfl) (fun _ _ _ h=>h) (by assumption) (by rfl) (fun w hSw=>?_) ?_
         rotate_left
         ·(try dsimp only at hSw)
          go_simp
          all_goals with_reducible rfl
         (try simp only[Act.put,List.setIfInBounds_toArray,List.set_cons_zero,List.set_cons_succ])
         refine a0a hOnce (i:=5) (oi:=⟨_,_,_,_,_,_⟩) (v:=?_) rfl (by kernel_rfl) (fun _ _ _ h=>h) (by assumption) (by rfl) (fun w hSw=>?_) ?_
         rotate_left
         ·(try dsimp only at hSw)
          go_simp
          all_goals with_reducible rfl
         (try simp only[Act.put,List.setIfInBounds_toArray,List.set_cons_zero,List.set_cons_succ])
         refine a0a hOnce (i:=7) (oi:=⟨_,_,_,_,_,_⟩) (v:=?_) rfl (by kernel_rfl) (fun _ _ _ h=>h) (by assumption) (by rfl) (fun w hSw=>?_) ?_
         rotate_left
         ·(try dsimp only at hSw)
          go_simp
          all_goals with_reducible rfl
         (try simp only[Act.put,List.setIfInBounds_toArray,List.set_cons_zero,List.set_cons_succ])
         refine a0a hOnce (i:=8) (oi:=⟨_,_,_,_,_,_⟩) (v:=?_) rfl (by kernel_rfl) (fun _ _ _ h=>h) (by assumption) (by rfl) (fun w hSw=>?_) ?_
         rotate_left
         ·(try dsimp only at hSw)
          go_simp
          all_goals with_reducible rfl
         (try simp only[Act.put,List.setIfInBounds_toArray,List.set_cons_zero,List.set_cons_succ])
         refine a0a hOnce (i:=9) (oi:=⟨_,_,_,_,_,_⟩) (v:=?_) rfl (by kernel_rfl) (fun _ _ _ h=>h) (by assumption) (by rfl) (fun w hSw=>?_) ?_
         rotate_left
         ·(try dsimp only at hSw)
          go_simp
          all_goals with_reducible rfl
         (try simp only[Act.put,List.setIfInBounds_toArray,List.set_cons_zero,List.set_cons_succ])
         refine a0a hOnce (i:=10) (oi:=⟨_,_,_,_,_,_⟩) (v:=?_) rfl (by kernel_rfl) (fun _ _ _ h=>h) (by assumption) (by rfl) (fun w hSw=>?_) ?_
         rotate_left
         ·(try dsimp only at hSw)
          go_simp
          all_goals with_reducible rfl
         (try simp only[Act.put,List.setIfInBounds_toArray,List.set_cons_zero,List.set_cons_succ])
         refine a0a hOnce (i:=11) (oi:=⟨_,_,_,_,_,_⟩) (v:=?_) rfl (by kernel_rfl) (fun _ _ _ h=>h) (by assumption) (by rfl) (fun w hSw=>?_) ?_
         rotate_left
         ·(try dsimp only at hSw)
          go_simp
          all_goals with_reducible rfl
         (try simp only[Act.put,List.setIfInBounds_toArray,List.set_cons_zero,List.set_cons_succ])
         refine a0a hOnce (i:=12) (oi:=⟨_,_,_,_,_,_⟩) (v:=?_) rfl (by kernel_rfl) (fun _ _ _ h=>h) (by assumption) (by rfl) (fun w hSw=>?_) ?_
         rotate_left
         ·(try dsimp only at hSw)
          go_simp
          all_goals with_reducible rfl
         (try simp only[Act.put,List.setIfInBounds_toArray,List.set_cons_zero,List.set_cons_succ])
         refine a0a hOnce (i:=13) (oi:=⟨_,_,_,_,_,_⟩) (v:=?_) rfl (by kernel_rfl) (fun _ _ _ h=>h) (by assumption) (by rfl) (fun w hSw=>?_) ?_
         rotate_left
         ·(try dsimp only at hSw)
          go_simp
          all_goals with_reducible rfl
         (try simp only[Act.put,List.setIfInBounds_toArray,List.set_cons_zero,List.set_cons_succ])
         refine a0m (i:=6) (o:=⟨_,_,_,_,_,_⟩) (by kernel_rfl) rfl (fun K hK=>?_);go_simp
         (go_at_call 53;(with_reducible refine(a4I (a6w X1 fb po oo) w7.drew 1 hZd (by decide) (by decide)).mono ?_);rintro ee w8 ⟨t1,u8,rfl,hu8⟩)
         refine hK.out _ _ (hS.out w8 t1) (fun hHeld=>?_);clear hK K
         (try simp only[Act.put,List.setIfInBounds_toArray,List.set_cons_zero,List.set_cons_succ])
         obtain⟨s8,a8,n8,c8,d8,k8,e8,rfl⟩:=hu8.shape;have hX8:=hZd.ext t1;have hx8:=mkx QV.mono hqgv t1;have hu8v:=hu8.qv h1q.out;refine a0m (i:=14) (o:=⟨_,_,_,_,_,_⟩) (by kernel_rfl) rfl (fun K hK=>?_);go_simp
         (go_at_call 221;(with_reducible refine(c0b (a6w X1 fb po oo) w8 _ _ _ y hX8 hu8v hx8 hp1.out).mono ?_);rintro ee w9 ⟨t2,u9,rfl,hu9⟩)
         refine hK.out _ _ (hS.out w9 (t1.trans t2)) (fun hHeld=>?_);clear hK K
         (try simp only[Act.put,List.setIfInBounds_toArray,List.set_cons_zero,List.set_cons_succ])
         obtain⟨s9,a9,n9,c9,d9,k9,e9,rfl⟩:=hu9.shape;have t12:=t1.trans t2;have hX9:=hZd.ext t12;have hr9:=mkx RV.mono hrp t12;have hu9v:=hu9.qv hqb.out;refine a0m (i:=15) (o:=⟨_,_,_,_,_,_⟩) (by kernel_rfl) rfl (fun K hK=>?_);go_simp
         (go_at_call 233;(with_reducible refine(b5P (a6w X1 fb po oo) w9 _ _ _ _ hX9 hr9 hu9v hrl3.out).mono ?_);rintro ee w10 ⟨t3,u10,rfl,hu10⟩)
         refine hK.out _ _ (hS.out w10 (t12.trans t3)) (fun hHeld=>?_);clear hK K
         (try simp only[Act.put,List.setIfInBounds_toArray,List.set_cons_zero,List.set_cons_succ])
         obtain⟨a10,c10,rfl,hcl10,hs10⟩:=hu10;have t13:=t12.trans t3;have hR10:=hRd.ext0 t13;obtain⟨_,_,p0,fz,_,_⟩:=hR10.row pl hpM1;refine a0a hOnce (i:=16) (oi:=⟨_,_,_,_,_,_⟩) (v:=?_) rfl (by kernel_rfl) (fun _ _ _ h=>h) (by assumption) (by rfl) (fun w hSw=>?_) ?_
         rotate_left
         ·(try dsimp only at hSw)
          go_simp
          all_goals with_reducible rfl
         (try simp only[Act.put,List.setIfInBounds_toArray,List.set_cons_zero,List.set_cons_succ])
         refine a0s (i:=17) (o:=⟨_,_,_,_,_,_⟩) (by kernel_rfl) rfl (by decide) (by kernel_rfl) (fun K hK=>?_);go_simp
         refine hK.out _ _ ?_;clear hK K;obtain⟨hO11,hE11⟩:=hR10.rows.set1 a5z RC.elem SlV.one pl hpM1 (.slice a10 M1[pl].length c10) (M1[pl].map (· *(((1:Int):Rat)/y))) ⟨a10,c10,by rw[List.length_map],hcl10,hs10⟩;have hR11:=hR10.setRows hE11 hO11;have hR12:=hR11;rw[<-hpvd.out]at hR12;clear p0 fz i2 hO11 hE11 hR11 hHeld hOnce;go_wp2_with fail
         go_meet
         case rel=>exact hR12
        case rest=>
         have hR3:=hcut;clear hcut hR2 hEd i1;obtain⟨w8,hw8⟩:∃w8,w8=wc:=⟨_,rfl⟩;subst hw8;obtain⟨M2,hM2e⟩:∃M2,pv M1 pl j=M2:=⟨_,rfl⟩;rw[hM2e]at hR3 hpiv hM2s hB2s;have hM2l:Hid (M2.length=n):=hid hM2s.out.1;have hR4:RS X1 w b fb base 24 45 3 w8 oo co po pc (out M2 pl j 0) P f2:=by rw[b4P];exact hR3
         have hbm2:=hid (a7D hB2s.out);have hb0:Hid (∀wx,OL RC 1 (un (a9m X1 fb) po) base 24 wx oo co (out M2 pl j n)->base<=wx.heap.size):=hid fun wx h=>by
          obtain⟨b0,o0,hb0⟩:=hhO (by omega);have:=h.block (k:=b0) (by rw[hb0];simp[ob]);omega
         have i1:∀W,(Instr.indexAt 23 (.slice oo n co) (.int .i64 (pl:Int))).run Tryz.prog W= .ok (.pointer (some (adr oo pl))) W:=a0C a0r oo n co .i64 pl hhO (by omega) rfl;clear hM2e hR3 hjp hrl1 hei hxB hpvd hrowB hp1;go_wp2_with fail
         go_loopw [10] (fun a wx=>∃(i:Nat),a= .int .i64 i/\i<=n/\RS X1 w b fb base 24 45 3 wx oo co po pc (out M2 pl j i) P f2) (fun a _=>n - (intOf a).toNat)
         case atStart=>exact⟨0,rfl,Nat.zero_le _,hR4⟩
         case round=>
          clear hR4;obtain⟨i,rfl,hi,hR⟩:=hrel;by_cases hlt:i<n
          ·by_cases hip:i=pl
           ·have hne3:((i:Int) !=(pl:Int))=false:=a7U (by omega)
            have hRn:RS X1 w b fb base 24 45 3 wr oo co po pc (out M2 pl j (i+1)) P f2:=by subst hip;rw[<-b4Q];exact hR
            clear hip hR;go_wp2_with fail
            go_roundw
            case rel=>exact⟨i+1,by go_num,by omega,hRn⟩
            case measure=>simp[intOf];omega
           ·have hne3:((i:Int) !=(pl:Int))=true:=a7R (by omega)
            have hiM:i<M2.length:=by rw[hM2l.out];exact hlt
            have hpM:pl<M2.length:=by rw[hM2l.out];exact hpn2
            have hiO:i<(out M2 pl j i).length:=by rw[a4t];exact hiM
            have hpO:pl<(out M2 pl j i).length:=by rw[a4t];exact hpM
            have hgi:(out M2 pl j i)[i]=M2[i]:=by rw[a5p hiO hiM,if_neg (by omega)]
            have hgp:(out M2 pl j i)[pl]=M2[pl]:=by rw[a5p hpO hpM,if_neg (by omega)]
            have hset:=hid (b7D (m:=M2) (t:=pl) (col:=j) hiM hip);rw[a3e hpM]at hset;obtain⟨ai,ci,y1,fy1,hcli,hqi⟩:=hR.row i hiO;obtain⟨ap,cp,y2,fy2,hclp,hqp⟩:=hR.row pl hpO;rw[hgi]at y1 hcli hqi;rw[hgp]at y2 hclp hqp;have hrli:Hid (M2[i].length=c):=hid (hM2s.out.2 _ (List.getElem_mem _));have hrlp:Hid (M2[pl].length=c):=hid (hM2s.out.2 _ (List.getElem_mem _));have hBi:=hid (hbm2.out M2[i] (List.getElem_mem _));have hBp:=hid (hbm2.out M2[pl] (List.getElem_mem _));have hji:j<M2[i].length:=by rw[hrli.out];exact hlj
            obtain⟨g,o,s5,a5,n5,c5,d5,k5,e5,hg,hXg,hcg,hqg⟩:=hqi.rat QC.shaped j hji;have hvv:M2[i].getD j 0=M2[i][j]:=by rw[List.getD_eq_getElem?_getD,List.getElem?_eq_getElem hji];rfl
            rw[hvv]at hset;have hvB:=hid (hBi.out M2[i][j] (List.getElem_mem _));obtain⟨v,hv⟩:∃v,M2[i][j]=v:=⟨_,rfl⟩;rw[hv]at hset hqg hvB;clear hv hvv hgi hgp;obtain⟨row,hrow⟩:∃row,M2[i]=row:=⟨_,rfl⟩;rw[hrow]at hset hqi y1 hcli hrli hBi;obtain⟨piv,hpv⟩:∃piv,M2[pl]=piv:=⟨_,rfl⟩;rw[hpv]at hset hqp y2 hclp hrlp hBp;have hhi:Hd ai c:=by have:=hqi.hd;rw[hrli.out]at this;exact this
            have hEd:Ext wr wr.drew:=(ExtX.refl wr).drew;have i2:∀W,(Instr.indexAt 24 (.slice ai c ci) (.int .i64 (j:Int))).run Tryz.prog W= .ok (.pointer (some ⟨g,o,none⟩)) W:=by rw[<-hg];exact a0h a0D ai c ci .i64 j hhi (by omega)
            have i3:∀W,(Instr.indexAt 23 (.slice oo n co) (.int .i64 (i:Int))).run Tryz.prog W= .ok (.pointer (some (adr oo i))) W:=a0C a0r oo n co .i64 i hhO (by omega) rfl;have hri:RV (mk (a6w X1 fb po oo) wr.drew) (.slice ai c ci) row:=by
             rw[<-hrli.out];exact⟨ai,ci,rfl,hcli,hqi.qv fun q hq=>Nat.le_trans (hBi.out q hq) (by have:=hB6'.out;omega)⟩
            have hrp:RV (mk (a6w X1 fb po oo) wr.drew) (.slice ap c cp) piv:=by
             rw[<-hrlp.out];exact⟨ap,cp,rfl,hclp,hqp.qv fun q hq=>Nat.le_trans (hBp.out q hq) (by have:=hB6'.out;omega)⟩
            rw[hrli.out]at y1;rw[hrlp.out]at y2;have hS:Hid (∀W',Ext wr.drew W'->W'.cell? (adr oo i)=some (.slice ai c ci)/\W'.cell? (adr oo pl)=some (.slice ap c cp)/\W'.cell? ⟨g,o,none⟩=some (.bool s5)/\W'.cell? ⟨g,o+1,none⟩=some (.slice a5 n5 c5)/\W'.cell? ⟨g,o+2,none⟩=some (.slice d5 k5 e5)):=hid fun W' h=>by
             obtain⟨k0,k1,k2⟩:=hcg.out noY W' (hEd.trans h) rfl;exact⟨(hEd.trans h).cell y1,(hEd.trans h).cell y2,k0,k1,k2⟩
            obtain⟨y1d,y2d,k0,k1,k2⟩:=hS.out wr.drew (ExtX.refl _);have hRd:=hR.ext0 hEd;have hZd:=hRd.hz;have hqgv:QV (mk (a6w X1 fb po oo) wr.drew) (.agg #[.bool s5, .slice a5 n5 c5, .slice d5 k5 e5]) v:=hqg.qv (by have:=hvB.out;have:=hB6'.out;omega);have hnb:Hid (hq (-v)<=68719476736):=hid (by rw[a5v];have:=hvB.out;have:=hB6'.out;omega);have hprod:Hid (BR 68719476736 (piv.map (· * -v))):=hid fun q hq=>by
             obtain⟨x,hx,rfl⟩:=List.mem_map.1 hq;have h1:=hBp.out x hx;have h2:=hq_mul x (-v);rw[a5v]at h2;have:=hvB.out;have:=hB6'.out;omega
            have hl1:Hid (piv.length<=1000000):=hid (by rw[hrlp.out];omega);have hl2:Hid (row.length<=1000000):=hid (by rw[hrli.out];omega);have hl3:Hid ((piv.map (· * -v)).length=row.length):=hid (by rw[List.length_map,hrlp.out,hrli.out]);have hiO':=hid hiO;obtain⟨PR,hPR⟩:∃PR,piv.map (· * -v)=PR:=⟨_,rfl⟩;have hPR':=hid hPR;rw[hPR]at hset hprod hl3;obtain⟨NR,hNR⟩:∃NR,List.zipWith (· + ·) row PR=NR:=⟨_,rfl⟩;have hNR':=hid hNR;rw[hNR]at hset;clear hqi hqp hg hcg hR y1 fy1 y2 fy2 hrow hpv hip hiM hpM hpO hqg hiO hji hcli hclp hPR hNR;go_wp2_with fail
            refine a0M 21 (fun w'=>w'.cell? (adr oo i)=some (.slice ai c ci)/\w'.cell? (adr oo pl)=some (.slice ap c cp)/\w'.cell? ⟨g,o,none⟩=some (.bool s5)/\w'.cell? ⟨g,o+1,none⟩=some (.slice a5 n5 c5)/\w'.cell? ⟨g,o+2,none⟩=some (.slice d5 k5 e5)) (by kernel_rfl) (by kernel_rfl) (hS.out _ (ExtX.refl _)) (fun hHeld hOnce=>?_);clear y1d y2d k0 k1 k2;refine a0a hOnce (i:=0) (oi:=⟨_,_,_,_,_,_⟩) (v:=?_) rfl (by kernel_rfl) (fun _ _ _ h=>h) (by assumption) (by rfl) (fun w hSw=>?_) ?_
            rotate_left
            ·(try dsimp only at hSw)
             go_simp
             all_goals with_reducible rfl
            (try simp only[Act.put,List.setIfInBounds_toArray,List.set_cons_zero,List.set_cons_succ])
            refine a0a hOnce (i:=1) (oi:=⟨_,_,_,_,_,_⟩) (v:=?_) rfl (by kernel_rfl) (fun _ _ _ h=>h) (by assumption) (by rfl) (fun w hSw=>?_) ?_
            rotate_left
            ·(try dsimp only at hSw)
             go_simp
             all_goals with_reducible rfl
            (try simp only[Act.put,List.setIfInBounds_toArray,List.set_cons_zero,List.set_cons_succ])
            refine a0a hOnce (i:=2) (oi:=⟨_,_,_,_,_,_⟩) (v:=?_) rfl (by kernel_rfl) (fun _ _ _ h=>h) (by assumption) (by rfl) (fun w hSw=>?_) ?_
            rotate_left
            ·(try dsimp only at hSw)
             go_simp
             all_goals with_reducible rfl
            (try simp only[Act.put,List.setIfInBounds_toArray,List.set_cons_zero,List.set_cons_succ])
            refine a0a hOnce (i:=3) (oi:=⟨_,_,_,_,_,_⟩) (v:=?_) rfl (by kernel_rfl) (fun _ _ _ h=>h) (by assumption) (by rfl) (fun w hSw=>?_) ?_
            rotate_left
            ·(try dsimp only at hSw)
             go_simp
             all_goals with_reducible rfl
            (try simp only[Act.put,List.setIfInBounds_toArray,List.set_cons_zero,List.set_cons_succ])
            refine a0a hOnce (i:=4) (oi:=⟨_,_,_,_,_,_⟩) (v:=?_) rfl (by kernel_rfl) (fun _ _ _ h=>h) (by assumption) (by rfl) (fun w hSw=>?_) ?_
            rotate_left
            ·(try dsimp only at hSw)
             go_simp
             all_goals with_reducible rfl
            (try simp only[Act.put,List.setIfInBounds_toArray,List.set_cons_zero,List.set_cons_succ])
            refine a0a hOnce (i:=5) (oi:=⟨_,_,_,_,_,_⟩) (v:=?_) rfl (by kernel_rfl) (fun _ _ _ h=>h) (by assumption) (by rfl) (fun w hSw=>?_) ?_
            rotate_left
            ·(try dsimp only at hSw)
             go_simp
             all_goals with_reducible rfl
            (try simp only[Act.put,List.setIfInBounds_toArray,List.set_cons_zero,List.set_cons_succ])
            refine a0a hOnce (i:=6) (oi:=⟨_,_,_,_,_,_⟩) (v:=?_) rfl (by kernel_rfl) (fun _ _ _ h=>h) (by assumption) (by rfl) (fun w hSw=>?_) ?_
            rotate_left
            ·(try dsimp only at hSw)
             go_simp
             all_goals with_reducible rfl
            (try simp only[Act.put,List.setIfInBounds_toArray,List.set_cons_zero,List.set_cons_succ])
            refine a0a hOnce (i:=7) (oi:=⟨_,_,_,_,_,_⟩) (v:=?_) rfl (by kernel_rfl) (fun _ _ _ h=>h) (by assumption) (by rfl) (fun w hSw=>?_) ?_
            rotate_left
            ·(try dsimp only at hSw)
             go_simp
             all_goals with_reducible rfl
            (try simp only[Act.put,List.setIfInBounds_toArray,List.set_cons_zero,List.set_cons_succ])
            refine a0a hOnce (i:=8) (oi:=⟨_,_,_,_,_,_⟩) (v:=?_) rfl (by kernel_rfl) (fun _ _ _ h=>h) (by assumption) (by rfl) (fun w hSw=>?_) ?_
            rotate_left
            ·(try dsimp only at hSw)
             go_simp
             all_goals with_reducible rfl
            (try simp only[Act.put,List.setIfInBounds_toArray,List.set_cons_zero,List.set_cons_succ])
            refine a0a hOnce (i:=9) (oi:=⟨_,_,_,_,_,_⟩) (v:=?_) rfl (by kernel_rfl) (fun _ _ _ h=>h) (by assumption) (by rfl) (fun w hSw=>?_) ?_
            rotate_left
            ·(try dsimp only at hSw)
             go_simp
             all_goals with_reducible rfl
            (try simp only[Act.put,List.setIfInBounds_toArray,List.set_cons_zero,List.set_cons_succ])
            refine a0a hOnce (i:=10) (oi:=⟨_,_,_,_,_,_⟩) (v:=?_) rfl (by kernel_rfl) (fun _ _ _ h=>h) (by assumption) (by rfl) (fun w hSw=>?_) ?_
            rotate_left
            ·(try dsimp only at hSw)
             go_simp
             all_goals with_reducible rfl
            (try simp only[Act.put,List.setIfInBounds_toArray,List.set_cons_zero,List.set_cons_succ])
            refine a0a hOnce (i:=11) (oi:=⟨_,_,_,_,_,_⟩) (v:=?_) rfl (by kernel_rfl) (fun _ _ _ h=>h) (by assumption) (by rfl) (fun w hSw=>?_) ?_
            rotate_left
            ·(try dsimp only at hSw)
             go_simp
             all_goals with_reducible rfl
            (try simp only[Act.put,List.setIfInBounds_toArray,List.set_cons_zero,List.set_cons_succ])
            refine a0a hOnce (i:=12) (oi:=⟨_,_,_,_,_,_⟩) (v:=?_) rfl (by kernel_rfl) (fun _ _ _ h=>h) (by assumption) (by rfl) (fun w hSw=>?_) ?_
            rotate_left
            ·(try dsimp only at hSw)
             go_simp
             all_goals with_reducible rfl
            (try simp only[Act.put,List.setIfInBounds_toArray,List.set_cons_zero,List.set_cons_succ])
            refine a0a hOnce (i:=13) (oi:=⟨_,_,_,_,_,_⟩) (v:=?_) rfl (by kernel_rfl) (fun _ _ _ h=>h) (by assumption) (by rfl) (fun w hSw=>?_) ?_
            rotate_left
            ·(try dsimp only at hSw)
             go_simp
             all_goals with_reducible rfl
            (try simp only[Act.put,List.setIfInBounds_toArray,List.set_cons_zero,List.set_cons_succ])
            refine a0a hOnce (i:=14) (oi:=⟨_,_,_,_,_,_⟩) (v:=?_) rfl (by kernel_rfl) (fun _ _ _ h=>h) (by assumption) (by rfl) (fun w hSw=>?_) ?_
            rotate_left
            ·(try dsimp only at hSw)
             go_simp
             all_goals with_reducible rfl
            (try simp only[Act.put,List.setIfInBounds_toArray,List.set_cons_zero,List.set_cons_succ])
            refine a0a hOnce (i:=15) (oi:=⟨_,_,_,_,_,_⟩) (v:=?_) rfl (by kernel_rfl) (fun _ _ _ h=>h) (by assumption) (by rfl) (fun w hSw=>?_) ?_
            rotate_left
            ·(try dsimp only at hSw)
             go_simp
             all_goals with_reducible rfl
            (try simp only[Act.put,List.setIfInBounds_toArray,List.set_cons_zero,List.set_cons_succ])
            refine a0a hOnce (i:=16) (oi:=⟨_,_,_,_,_,_⟩) (v:=?_) rfl (by kernel_rfl) (fun _ _ _ h=>h) (by assumption) (by rfl) (fun w hSw=>?_) ?_
            rotate_left
            ·(try dsimp only at hSw)
             go_simp
             all_goals with_reducible rfl
            (try simp only[Act.put,List.setIfInBounds_toArray,List.set_cons_zero,List.set_cons_succ])
            refine a0m (i:=17) (o:=⟨_,_,_,_,_,_⟩) (by kernel_rfl) rfl (fun K hK=>?_);go_simp
            (go_at_call 134;(with_reducible refine(b6O (a6w X1 fb po oo) wr.drew _ v hZd hqgv).mono ?_);rintro ee w9 ⟨t1,u9,rfl,hu9⟩)
            refine hK.out _ _ (hS.out w9 t1) (fun hHeld=>?_);clear hK K
            (try simp only[Act.put,List.setIfInBounds_toArray,List.set_cons_zero,List.set_cons_succ])
            obtain⟨s9,a9,n9,c9,d9,k9,e9,rfl⟩:=hu9.shape;have hX9:=hZd.ext t1;have hr9:=mkx RV.mono hrp t1;have hu9v:=hu9.qv hnb.out;refine a0m (i:=18) (o:=⟨_,_,_,_,_,_⟩) (by kernel_rfl) rfl (fun K hK=>?_);go_simp
            (go_at_call 233;(with_reducible refine(b5P (a6w X1 fb po oo) w9 _ _ piv (-v) hX9 hr9 hu9v hl1.out).mono ?_);rintro ee w10 ⟨t2,u10,rfl,hu10⟩)
            refine hK.out _ _ (hS.out w10 (t1.trans t2)) (fun hHeld=>?_);clear hK K
            (try simp only[Act.put,List.setIfInBounds_toArray,List.set_cons_zero,List.set_cons_succ])
            rw[hPR'.out]at hu10;have hu10v:=hu10.rv hprod.out;obtain⟨a10,c10,rfl,hcl10,hs10⟩:=hu10;have t12:=t1.trans t2;have hX10:=hZd.ext t12;have hr10:=mkx RV.mono hri t12;refine a0m (i:=19) (o:=⟨_,_,_,_,_,_⟩) (by kernel_rfl) rfl (fun K hK=>?_);go_simp
            (go_at_call 234;(with_reducible refine(c0c (a6w X1 fb po oo) w10 _ _ row _ hX10 hr10 hu10v hl2.out hl3.out).mono ?_);rintro ee w11 ⟨t3,u11,rfl,hu11⟩)
            refine hK.out _ _ (hS.out w11 (t12.trans t3)) (fun hHeld=>?_);clear hK K
            (try simp only[Act.put,List.setIfInBounds_toArray,List.set_cons_zero,List.set_cons_succ])
            rw[hNR'.out]at hu11;obtain⟨a11,c11,rfl,hcl11,hs11⟩:=hu11;have hR11:=hRd.ext0 (t12.trans t3);obtain⟨_,_,p0,fz,_,_⟩:=hR11.row i hiO'.out;refine a0a hOnce (i:=20) (oi:=⟨_,_,_,_,_,_⟩) (v:=?_) rfl (by kernel_rfl) (fun _ _ _ h=>h) (by assumption) (by rfl) (fun w hSw=>?_) ?_
            rotate_left
            ·(try dsimp only at hSw)
             go_simp
             all_goals with_reducible rfl
            (try simp only[Act.put,List.setIfInBounds_toArray,List.set_cons_zero,List.set_cons_succ])
            refine a0s (i:=21) (o:=⟨_,_,_,_,_,_⟩) (by kernel_rfl) rfl (by decide) (by kernel_rfl) (fun K hK=>?_);go_simp
            refine hK.out _ _ ?_;clear hK K;obtain⟨hO12,hE12⟩:=hR11.rows.set1 a5z RC.elem SlV.one i hiO'.out (.slice a11 NR.length c11) NR ⟨a11,c11,rfl,hcl11,hs11⟩;have hR12:=hR11.setRows hE12 hO12;rw[hset.out]at hR12;clear p0 fz i2 i3 hO12 hE12 hR11 hHeld hOnce;go_wp2_with fail
            go_roundw
            case rel=>exact⟨i+1,by go_num,by omega,hR12⟩
            case measure=>simp[intOf];omega
          ·have hin:i=n:=by omega
           subst hin;have hbase:=hb0.out wr hR.rows;have hXz:∀k,un (a9m X1 fb) oo k=true->k<wr.heap.size:=fun k hk=>hR.hz k (by
            by_cases h:a9m X1 fb k=true
            ·exact a0k (a0k h)
            ·exact a0q (by simpa[un,h]using hk))
           have hP:=hR.piv;have hpl2:Hid ((P++[j]).length=pl+1):=hid (by rw[List.length_append,hpl.out];rfl);clear i1 hb0;go_wp2_with (at_builtin;refine a0v (l:=P) a4o rfl (a0d.elem .i64) hbase hXz pl hpl.out rfl rfl hP (.int .i64 (j:Int)) j rfl rfl (by omega) (by omega) ?_;intro po2 pc2 w10 hP6 hE7 hor)
           have hR9:=hR.push hE7 hP6 hor;go_roundg (c - (j+1))
           case measure=>omega
           case rel=>exact⟨j+1,po2,pc2,pl+1,_,_,_,by go_num,rfl,by omega,hpl2,hpiv,hR9⟩
    ·have hin:t=n:=by omega
     subst hin;have hne:((t:Int)==(t:Int))=true:=a7e rfl;have hst2:=hid (b7E hsh'.out hst.out hpl.out hzz.out);clear hzz;go_wp2_with fail
     go_roundg (c - (j+1))
     case measure=>omega
     case rel=>exact⟨j+1,po,pc,pl,M,P,f,by go_num,rfl,by omega,hpl,hst2,hR⟩
  ·have hjc:j=c:=by omega
   subst hjc;go_wp2_with fail
   refine hco.mono ?_;rintro e w2 ⟨rfl,rfl⟩;obtain⟨sf,af,nf,cf,df,kf,ef,bF,hqF⟩:=hR.fac;have hres:=hR.res;have z0:=bF.cell 0 rfl;have z1:=bF.cell 1 rfl;have z2:=bF.cell 2 rfl;have g0:=hres.cell 0 rfl;have g1:=hres.cell 1 rfl;have g2:=hres.cell 2 rfl;have h0:=hres.frozen 0;have h1:=hres.frozen 1;have h2:=hres.frozen 2;obtain⟨q1,q2⟩:=hres.set3 (.bool sf) (.slice af nf cf) (.slice df kf ef);have q1d:=q1.ext0 (ExtX.refl (Y:=noY) _).drew;have q2d:=q2.drew;have hqf:QC (mk X _) (.agg #[.bool sf, .slice af nf cf, .slice df kf ef]) f:=QC.mono _ _ _ _ (hunb.out _) (QC.mono _ _ _ _ (a0x q2d fun k hk=>b2F hrb.out hk) (QC.mono _ _ _ _ (a1E fun k _ hk=>a0k (a0k (a0k hk))) hqF));have hEf:Ext w _:=ExtX.box hR.ext q2d (by rw[hbw'.out];exact Nat.le_refl _);have hsr:Sl RC 1 (mk X _) oo M:=(((hR.rows.sl RC.elem).mono RC.mono (a1E fun k _ hk=>a0k (a0k hk))).mono RC.mono (a0x q2d fun k hk=>b2F hrb.out hk)).mono RC.mono (hunb.out _);have hsp:Sl (a0d .i64) 1 (mk X _) po P:=(((hR.piv.sl (a0d.elem _)).mono (a0d.mono _) (a1E fun k _ hk=>a0k (a0k hk))).mono (a0d.mono _) (a0x q2d fun k hk=>b2F hrb.out hk)).mono (a0d.mono _) (hunb.out _);have hpc:P.length<=pc:=hR.piv.lenCap;clear hres bF hR hqF q1 q2 q2d;go_wp2_with fail
   go_region
   go_wp2_with fail
   refine bodyPost_ret (a9o (P:=Tryz.prog) (c:=4) (d:=2) (e:=3) rfl rfl a0u q1d rfl) rfl ?_;have hRO:∀w9,Ext w w9->Sl RC 1 (mk X w9) oo M->Sl (a0d .i64) 1 (mk X w9) po P->QC (mk X w9) (.agg #[.bool sf, .slice af nf cf, .slice df kf ef]) f->b5Y X w (rN m j) (.returned (.tuple #[.slice oo n co, .slice po pl pc, .agg #[.bool sf, .slice af nf cf, .slice df kf ef]])) w9:=fun w9 hEf hsr hsp hqf=>by
    rw[hst.out];exact⟨hEf,oo,co,po,pc,_,by rw[hMl.out,hpl.out],by rw[hMl.out];exact hcap,hpc,hsr,hsp,hqf⟩
   exact hRO _ hEf hsr hsp hqf
end Go.Proofs.YtidbbddagfnfbaaGreat
namespace Go.Lin
open Go.Lim
noncomputable def a8M (m:Mat) (n:Nat):Rat:=if(rN m n).2.1.length<n then 0 else(rN m n).2.2
theorem b4S {n:Nat} {m:Mat} (hn:n<=4) (hs:Shp n n m):a8M m n=det n (ent m):=by
 have h:=a5M hs n;obtain⟨d,h1,h2⟩:=h.re;have h3:=h1.det_same hn;have h4:=h.ref.det hn;unfold a8M;by_cases hp:(rN m n).2.1.length=n
 ·rw[if_pos hp]at h4
  rw[if_neg (by omega)];rw[h4]at h3;grind
 ·have:=h.ref.le
  rw[if_neg hp]at h4;rw[if_pos (by omega)];rw[h4]at h3;have:=h1.ne;grind
theorem b2S {n:Nat} {m:Mat} (hn:n<=4) (hs:Shp n n m):a8M m n=b8m m n:=by rw[b4S hn hs,a7B hn hs]
end Go.Lin
namespace Go.Proofs.YtidbbddagfnfbaaGreat
open Go.RowKit Go.Rep Go.Lim Go.Lin
def b9q (X:Nat->Bool) (w:World) (S:Mat×List Nat) (e:Ending) (w':World):Prop:=Ext w w'/\∃oo co po pc,e= .returned (.tuple #[.slice oo S.1.length co, .slice po S.2.length pc, .int .i64 0])/\S.1.length<=co/\S.2.length<=pc/\Sl RC 1 (mk X w') oo S.1/\Sl (a0d .i64) 1 (mk X w') po S.2
theorem b4T (X:Nat->Bool) (w:World) (u:Value) (m:List (List Rat)) (n c:Nat) (hX:HX X w) (hu:MV (mk X w) u m) (hf:a0G m=true) (hnn:m.length=n) (hcc:a0B m=c) (hT:a6H m c):Calls Tryz.prog 165 #[u] w (b9q X w ((rN m c).1,(rN m c).2.1)):=by
 obtain⟨hsh,h96,hc96,_,_⟩:=a0Q hf;rw[hnn,hcc]at hsh;rw[hnn]at h96;rw[hcc]at hc96;have hfo:=a3S QV.mono X w u m hu (by omega);rw[hf]at hfo;have hre:=hid (fun w' (h:Ext w w')=>a4u X w' u m n c (hX.ext h) (mkx MV.mono hu h) hsh hcc (by omega) (by omega) hT);obtain⟨S,hS⟩:∃S,rN m c=S:=⟨_,rfl⟩;rw[hS]at hre |-;clear hf hS;go_enter Tryz.func165,Tryz.ntmps165
 go_wp2_with fail
 refine hfo.mono ?_;rintro e w1 ⟨hE1,rfl⟩;have h1:=hre.out w1 hE1;clear hfo;go_wp2_with fail
 refine h1.mono ?_;rintro e w2 ⟨hE2,oo,co,po,pc,uf,rfl,hco,hpc,hso,hsp,huf⟩;obtain⟨s2,a2,n2,c2,d2,k2,e2,rfl⟩:=huf.shape;have bx:=Bx.new w2 #[.bool false, .slice none 0 0, .slice none 0 0] 45;clear h1;go_wp2_with ((with_reducible show wpList _ _ _ (⟨_, .store _ _ _,_,_,_,_⟩::_) _ _);refine a0c a0u rfl rfl bx rfl rfl (a2g _ _ _ _ _ _ _) ?_;intro w3 r1 r2)
 have hE3:Ext w2 w3:=ExtX.box ((ExtX.refl w2).alloc _) r2 (Nat.le_refl _);go_ret3
 exact⟨hE1.trans (hE2.trans hE3),oo,co,po,pc,rfl,hco,hpc,hso.mono RC.mono (a0p hE3),hsp.mono (a0d.mono _) (a0p hE3)⟩
set_option maxRecDepth 100000 in
theorem b7J (X:Nat->Bool) (w:World) (u:Value) (m:List (List Rat)) (n:Nat) (hX:HX X w) (hu:MV (mk X w) u m) (hf:a0G m=true) (hnn:m.length=n) (hcc:a0B m=n) (hT:a6H m n):Calls Tryz.prog 167 #[u] w (fun e w'=>Ext w w'/\∃u,e= .returned (.tuple #[u, .int .i64 0])/\QC (mk X w') u (a8M m n)):=by
 obtain⟨hsh,h96,hc96,_,_⟩:=a0Q hf;rw[hnn,hcc]at hsh;rw[hnn]at h96;obtain⟨W,hW,hEW,b0,hz⟩:=a1t w #[.bool false, .slice none 0 0, .slice none 0 0] 45;have hXW:HX (a0f X w.heap.size 1) W:=hX.boxes hz;have huW:MV (mk (a0f X w.heap.size 1) W) u m:=MV.mono _ _ _ _ (a0o hEW) hu;have hfo:=a3S QV.mono _ W u m huW (by omega);rw[hf]at hfo;have hcol:=hid (fun w' (h:Ext W w')=>a4c _ w' u m (mkx MV.mono huW h));rw[hcc]at hcol;have hre:=hid (fun w' (h:Ext W w')=>a4u _ w' u m n n (hXW.ext h) (mkx MV.mono huW h) hsh hcc (by omega) (by omega) hT);have hdr:Hid (a8M m n=if(rN m n).2.1.length<n then 0 else(rN m n).2.2):=hid rfl;have hlen:=hid ((a5M hsh n).ref.le);obtain⟨S,hS⟩:∃S,rN m n=S:=⟨_,rfl⟩;rw[hS]at hre hdr hlen;obtain⟨M,P,f⟩:=S
 dsimp only at hdr hlen
 obtain⟨ua,uca,rfl,huca,hua⟩:=hu;rw[hnn]at hfo hcol hre |-;have hne:((n:Int) !=(n:Int))=false:=a7U rfl;clear hf hS hsh huW hua;go_enter Tryz.func167,Tryz.ntmps167
 go_wp2_with fail
 refine hfo.mono ?_;rintro e w1 ⟨hE1,rfl⟩;have h1:=hcol.out w1 hE1;clear hfo;go_wp2_with fail
 refine h1.mono ?_;rintro e w2 ⟨rfl,rfl⟩;have h2:=hre.out w2 hE1;clear h1;go_wp2_with fail
 refine h2.mono ?_;rintro e w3 ⟨hE3,oo,co,po,pc,uf,rfl,hco,hpc,hso,hsp,huf⟩
 dsimp only at hpc huf |-
 obtain⟨s2,a2,n2,c2,d2,k2,e2,rfl⟩:=huf.shape;have bx:=Bx.new w3 #[.bool false, .slice none 0 0, .slice none 0 0] 45;have b3:=b0.ext0 (hE1.trans hE3);obtain⟨pl,hpl⟩:∃pl,P.length=pl:=⟨_,rfl⟩;rw[hpl]at hdr hlen |-;clear h2 hso hsp hpc hpl;by_cases hlt:pl<n
 ·have hd0:Hid (a8M m n=0):=hid (by rw[hdr.out,if_pos hlt])
  go_wp2_with ((with_reducible show wpList _ _ _ (⟨_, .store _ _ _,_,_,_,_⟩::_) _ _);first|(refine a0c a0u rfl rfl bx rfl rfl (a2g _ _ _ _ _ _ _) ?_;intro w4 r1 r2;have b4:=b3.ext0 (ExtX.box ((ExtX.refl w3).alloc _) r2 (Nat.le_refl _)))|(refine a0c a0u rfl rfl b4 rfl rfl (a2g _ _ _ _ _ _ _) ?_;intro w5 r3 r4))
  have hE4:Ext w3 w4:=ExtX.box ((ExtX.refl w3).alloc _) r2 (Nat.le_refl _);exact bodyPost_ret (a1F rfl rfl a0u r3 rfl) rfl ⟨ExtX.box (hEW.trans (hE1.trans (hE3.trans hE4))) r4 (by omega),_,rfl,by rw[hd0.out];exact QC.zero _⟩
 ·have hd0:Hid (a8M m n=f):=hid (by rw[hdr.out,if_neg hlt])
  go_wp2_with ((with_reducible show wpList _ _ _ (⟨_, .store _ _ _,_,_,_,_⟩::_) _ _);first|(refine a0c a0u rfl rfl bx rfl rfl (a2g _ _ _ _ _ _ _) ?_;intro w4 r1 r2;have b4:=b3.ext0 (ExtX.box ((ExtX.refl w3).alloc _) r2 (Nat.le_refl _));have k0:=r1.cell 0 rfl;have k1:=r1.cell 1 rfl;have k2:=r1.cell 2 rfl)|(refine a0c a0u rfl rfl b4 rfl rfl (a2g _ _ _ _ _ _ _) ?_;intro w5 r3 r4))
  have hE4:Ext w3 w4:=ExtX.box ((ExtX.refl w3).alloc _) r2 (Nat.le_refl _);have h7:=QC.mono _ _ _ _ a0l (QC.mono _ _ _ _ (a0i r4 (Nat.le_refl _) (by omega)) (mkx QC.mono huf hE4));exact bodyPost_ret (a1F rfl rfl a0u r3 rfl) rfl ⟨ExtX.box (hEW.trans (hE1.trans (hE3.trans hE4))) r4 (by omega),_,rfl,by rw[hd0.out];exact h7⟩
theorem b9r {w wr:World} (h:Hid (∃m,wr=w.drewN m)) (n:Nat):∃m,wr.drewN n=w.drewN m:=by
 obtain⟨m,rfl⟩:=h;exact⟨_,World.drewN_drewN _ _ _⟩
end Go.Proofs.YtidbbddagfnfbaaGreat
namespace Go.Rep
open Go.RowKit Go.Lim
end Go.Rep
namespace Go.Proofs.YtidbbddagfnfbaaGreat
open Go.RowKit Go.Rep Go.Lim Go.Lin
theorem b2T:SliceT Tryz.prog 49 4 1 1 (.bool false):=⟨Tryz.underlying49,by kernel_rfl⟩
theorem b2U {X:Nat->Bool} {oo oo2:Option Addr} {w:World} (hor:oo2=oo\/∃g,oo2=some ⟨g,0,none⟩/\w.heap.size<=g):∀k,k<w.heap.size->un X oo2 k=true->un X oo k=true:=fun k hk h=>by
 rcases hor with rfl|⟨g,rfl,hg⟩
 ·exact h
 ·by_cases hx:X k=true
  ·exact a0k hx
  ·exfalso
   have:g=k:=by simpa[un,hx,ob]using h
   omega
def b9s (X:Nat->Bool) (w:World) (p:List Nat) (c:Nat) (e:Ending) (w':World):Prop:=Ext w w'/\∃uo uc v,e= .returned (.tuple #[.slice uo c uc,v, .int .i64 0])/\c<=uc/\Sl BlR 1 (mk X w') uo (usedL p c)
theorem a9p {p:List Nat} {i j:Nat} (h:i<p.length):decide (j∈p.take (i+1))=(decide (j∈p.take i)||decide (p[i]=j)):=by
 have e:j∈p.take (i+1)↔(j∈p.take i\/p[i]=j):=by
  rw[<-List.take_append_getElem h,List.mem_append,List.mem_singleton];exact or_congr Iff.rfl eq_comm
 rw[<-Bool.decide_or];exact decide_eq_decide.2 e
set_option maxRecDepth 100000 in
set_option maxHeartbeats 1600000 in
theorem b0S (X:Nat->Bool) (w:World) (u:Value) (x:Mat) (n c:Nat) (hX:HX X w) (hu:MV (mk X w) u x) (hf:a0G x=true) (hnx:x.length=n) (hcx:a0B x=c) (hn1:1<=n) (hT:a6H x c):Calls Tryz.prog 85 #[u] w (b9s X w (a1b x c).2 c):=by
 obtain⟨hsh,h96,hc96,hpos,_⟩:=a0Q hf;rw[hnx,hcx]at hsh;rw[hnx]at h96;rw[hcx]at hc96 hpos;have hc1:=hpos (by omega);have hre:=b4T X w u x n c hX hu hf hnx hcx hT;have hco:=hid fun w' (h:Ext w w')=>a4c X w' u x (mkx MV.mono hu h);rw[hcx]at hco;have hok:=a5M hsh c;have hs2:=hok.shp;have hpl:=hok.ref.le;rw[(b1K hsh).2];obtain⟨R,hR⟩:∃R,(rN x c).1=R:=⟨_,rfl⟩;obtain⟨p,hp⟩:∃p,(rN x c).2.1=p:=⟨_,rfl⟩;rw[hR]at hs2;rw[hp]at hpl;rw[hR,hp]at hre;rw[hp];obtain⟨pl,hpl2⟩:∃pl,p.length=pl:=⟨_,rfl⟩;have hpl':=hid hpl2;rw[hpl2]at hpl;have hRs:=hid hs2;obtain⟨ua,uca,rfl,huca,hua⟩:=hu;clear hR hp hs2 hT hsh hnx hcx hpl2 hok hf huca hua;go_enter Tryz.func85,Tryz.ntmps85
 go_wp2_with fail
 refine hre.mono ?_;rintro e w1 ⟨hE1,ro,rc,po,pc,rfl,hrc,hpc,hrs,hps⟩;have hX1:=hX.ext hE1
 dsimp only at hrc hpc hrs hps |-
 rw[hpl'.out]at hpc |-;have hRl:=hid hRs.out.1;have hhr:=hrs.hd;have hhp:=hps.hd;rw[hRl.out]at hrc hhr |-;rw[hpl'.out]at hhp;clear hre;go_wp2_with fail
 go_loopw [8,9,10] (fun o b k wr=>∃(j:Nat) (oo:Option Addr) (co:Nat) (bo:Option Addr) (cb:Nat) (hs:List Hdr),k= .int .i64 j/\o= .slice oo j co/\b= .slice bo j cb/\j<=c/\OL BlR 1 X w1.heap.size 4 wr oo co (usedL p j)/\hs.length=j/\OL HdR 1 (un X oo) w1.heap.size 24 wr bo cb hs/\Ext w1 wr) (fun _ _ k _=>c - (intOf k).toNat)
 case atStart=>exact⟨0,none,0,none,0,[],rfl,rfl,rfl,Nat.zero_le _,OL.nil _ _ _ _ _ _,rfl,OL.nil _ _ _ _ _ _,ExtX.refl _⟩
 case round=>
  obtain⟨j,oo,co,bo,cb,hs,rfl,rfl,rfl,hj,hO,hhs,hB,hE⟩:=hrel;have hXr:HX X wr:=hX1.ext hE;have hbase:=hE.size;have hcr:=hco.out wr (hE1.trans hE);by_cases hlt:j<c
  ·have hus:=hid (b0Q p j)
   have hul:=hid (a3d p j);have hhs':=hid hhs;clear hhs;have hXu:HX (un X oo) wr:=hO.unX hXr;have hXb:HX (un (un X oo) bo) wr:=hB.unX hXu;go_wp2_with fail
   refine hcr.mono ?_;rintro e w5 ⟨rfl,rfl⟩;clear hcr;obtain⟨wo,hwo⟩:∃wo,wo=w5:=⟨_,rfl⟩;subst hwo;go_wp2_with fail
   go_loopw [11,12,13] (fun o l k wr=>∃(i:Nat) (bb:Bool) (lo:Option Addr) (lc:Nat) (L:List Rat),k= .int .i64 i/\o= .bool bb/\l= .slice lo i lc/\i<=pl/\Hid (bb=decide (j∈p.take i))/\L.length=i/\OL QC 3 (un (un X oo) bo) wo.heap.size 45 wr lo lc L/\Ext wo wr) (fun _ _ k _=>pl - (intOf k).toNat)
   case atStart=>exact⟨0,false,none,0,[],rfl,rfl,rfl,Nat.zero_le _,hid (by simp),rfl,OL.nil _ _ _ _ _ _,ExtX.refl _⟩
   case round=>
    obtain⟨i,bb,lo,lc,L,rfl,rfl,rfl,hi,hbb,hLl,hL,hEi⟩:=hrel;have hXi:HX (un (un X oo) bo) wr:=hXb.ext hEi;have hbi:=hEi.size;by_cases hli:i<pl
    ·have hip:i<p.length:=by rw[hpl'.out];exact hli
     have hiR:i<R.length:=by rw[hRl.out];omega
     have hLl':=hid hLl;have hrl:=hRs.out.2 R[i] (List.getElem_mem _);have hjr:j<R[i].length:=by rw[hrl];exact hlt
     have k00:=(hps.mono (a0d.mono _) (a0p (hE.trans hEi))).nat i hip;have hEl:Ext w1 wr:=hE.trans hEi;have hrs1:Sl RC 1 (mk (un (un (un X oo) bo) lo) wr) ro R:=hrs.mono RC.mono (a1f hEl (fun k _ hk=>by simp[noY]at hk) fun k hk hz=>by
      by_cases hx:X k=true
      ·exact hx
      ·exfalso
       have e1:ob oo k=false:=hO.ob_lt hk;have e2:ob bo k=false:=hB.ob_lt hk;have e3:ob lo k=false:=hL.ob_lt (Nat.lt_of_lt_of_le hk hE.size);simp[un,hx,e1,e2,e3]at hz)
     obtain⟨a1,c1,hX1',hc1',hcl1,hq1⟩:=hrs1.row i hiR;have k10:=hc1'.out noY wr (ExtX.refl _) rfl;rw[hrl]at k10;have hh1:Hd a1 c:=by have:=hq1.hd;rw[hrl]at this;exact this
     have hbn:=hid (a9p (j:=j) hip);obtain⟨y,hy⟩:∃y,p[i]=y:=⟨_,rfl⟩;rw[hy]at k00 hbn;have ip:∀W,(Instr.indexAt 22 (.slice po pl pc) (.int .i64 (i:Int))).run Tryz.prog W= .ok (.pointer (some (adr po i))) W:=a0C a4o po pl pc .i64 i hhp (by omega) rfl;have ir:∀W,(Instr.indexAt 23 (.slice ro n rc) (.int .i64 (i:Int))).run Tryz.prog W= .ok (.pointer (some (adr ro i))) W:=a0C a0r ro n rc .i64 i hhr (by omega) rfl;have hdl:∀b2,Hid (b2=decide (j∈p.take (i+1)))->∀{lo2:Option Addr} {lc2:Nat} {w9:World},OL QC 3 (un (un X oo) bo) wo.heap.size 45 w9 lo2 lc2 (L++[R[i][j]])->Ext wo w9->∃(i':Nat) (bb:Bool) (lo:Option Addr) (lc:Nat) (L:List Rat),Value.int IntKind.i64 ((i+1:Nat):Int)= .int .i64 i'/\Value.bool b2= .bool bb/\Value.slice lo2 (i+1) lc2= .slice lo i' lc/\i'<=pl/\Hid (bb=decide (j∈p.take i'))/\L.length=i'/\OL QC 3 (un (un X oo) bo) wo.heap.size 45 w9 lo lc L/\Ext wo w9:=fun b2 hb2 lo2 lc2 w9 h1 h2=>⟨i+1,b2,lo2,lc2,_,rfl,rfl,rfl,by omega,hb2,by rw[List.length_append,hLl'.out];rfl,h1,h2⟩;clear hc1' hrl hy hLl;cases bb
     ·by_cases hyj:y=j
      ·have hd:((y:Int)==(j:Int))=true:=a7e (by omega)
       have hb2:Hid (true=decide (j∈p.take (i+1))):=hid (by rw[hbn.out,decide_eq_true hyj,Bool.or_true]);clear hyj;go_wp2_with (first|(with_reducible refine a2a a0D (by omega) (by assumption) ?_)|((with_reducible show wpList _ _ _ (⟨_, .load 45 _,_,_,_,_⟩::_) _ _);refine a0P a0u j hq1 hjr rfl (by simp) QC.agg ?_;intro u5 hu5;obtain⟨s5,a5,n5,c5,d5,m5,e5,rfl⟩:=hu5.shape)|(at_builtin;refine a0v (l:=L) a0D rfl QC.elem hbi hXi i hLl'.out rfl rfl hL (.agg #[.bool s5, .slice a5 n5 c5, .slice d5 m5 e5]) R[i][j] rfl hu5 (by omega) (by omega) ?_;intro lo2 lc2 w7 hL7 hE7 hor))
       go_roundw
       case rel=>exact hdl true hb2 hL7 (hEi.own hL (Nat.le_refl _) hE7)
       case measure=>simp[intOf];omega
      ·have hd:((y:Int)==(j:Int))=false:=a2I (by omega)
       have hb2:Hid (false=decide (j∈p.take (i+1))):=hid (by rw[hbn.out,decide_eq_false hyj,<-hbb.out];rfl);clear hyj;go_wp2_with (first|(with_reducible refine a2a a0D (by omega) (by assumption) ?_)|((with_reducible show wpList _ _ _ (⟨_, .load 45 _,_,_,_,_⟩::_) _ _);refine a0P a0u j hq1 hjr rfl (by simp) QC.agg ?_;intro u5 hu5;obtain⟨s5,a5,n5,c5,d5,m5,e5,rfl⟩:=hu5.shape)|(at_builtin;refine a0v (l:=L) a0D rfl QC.elem hbi hXi i hLl'.out rfl rfl hL (.agg #[.bool s5, .slice a5 n5 c5, .slice d5 m5 e5]) R[i][j] rfl hu5 (by omega) (by omega) ?_;intro lo2 lc2 w7 hL7 hE7 hor))
       go_roundw
       case rel=>exact hdl false hb2 hL7 (hEi.own hL (Nat.le_refl _) hE7)
       case measure=>simp[intOf];omega
     ·have hb2:Hid (true=decide (j∈p.take (i+1))):=hid (by rw[hbn.out,<-hbb.out];rfl)
      go_wp2_with (first|(with_reducible refine a2a a0D (by omega) (by assumption) ?_)|((with_reducible show wpList _ _ _ (⟨_, .load 45 _,_,_,_,_⟩::_) _ _);refine a0P a0u j hq1 hjr rfl (by simp) QC.agg ?_;intro u5 hu5;obtain⟨s5,a5,n5,c5,d5,m5,e5,rfl⟩:=hu5.shape)|(at_builtin;refine a0v (l:=L) a0D rfl QC.elem hbi hXi i hLl'.out rfl rfl hL (.agg #[.bool s5, .slice a5 n5 c5, .slice d5 m5 e5]) R[i][j] rfl hu5 (by omega) (by omega) ?_;intro lo2 lc2 w7 hL7 hE7 hor))
      go_roundw
      case rel=>exact hdl true hb2 hL7 (hEi.own hL (Nat.le_refl _) hE7)
      case measure=>simp[intOf];omega
    ·have hip:i=pl:=by omega
     subst hip;have hbb2:=hid hbb.out;rw[List.take_of_length_le (by rw[hpl'.out];exact Nat.le_refl _)]at hbb2;have hO2:=hO.ext0 BlR.elem hEi;have hB2:=hB.ext0 HdR.elem hEi;have hE2:=hE.trans hEi;have hX2:=hX1.ext hE2;have hb2:=hE2.size;clear hL hbb;go_wp2_with (first
      |(at_builtin;refine a0v (l:=usedL p j) b2T rfl BlR.elem hb2 hX2 j hul.out rfl rfl hO2 (.bool bb) bb rfl rfl (by omega) (by omega) ?_;intro oo2 co2 w7 hO7 hE7 hor;have hB7:=hB2.ext HdR.elem (Z:=un X oo2) hE7 (fun k _ hk=>a0q hk) (b2U hor);have hE27:=hE2.own hO2 (Nat.le_refl _) hE7;have hb7:=hE27.size;have hX7:=hO7.unX (hX1.ext hE27))
      |(at_builtin;refine a0v (l:=hs) a0r rfl HdR.elem hb7 hX7 j hhs'.out rfl rfl hB7 (.slice lo i lc) (lo,i,lc) rfl rfl (by omega) (by omega) ?_;intro bo2 cb2 w8 hB8 hE8 hor2))
     have hO8:=hO7.frame (fun _ _ _ _ h=>h) hE8 (fun k hk=>by
      cases hbk:ob bo k
      ·rfl
      ·have:=(a1q (hB7.1 k hbk)).2;rw[hk]at this;cases this) hO7.1
     have hE28:=hE27.own hB7 (Nat.le_refl _) hE8;rw[hbb2.out,<-hus.out]at hO8;have hl8:(hs++[(lo,i,lc)]).length=j+1:=by rw[List.length_append,hhs'.out];rfl
     go_roundw
     case rel=>exact⟨j+1,oo2,co2,bo2,cb2,_,by go_num,by go_num,by go_num,by omega,hO8,hl8,hB8,hE28⟩
     case measure=>simp[intOf];omega
  ·have hjc:j=c:=by omega
   subst hjc;have hc:=hO.lenCap;rw[a3d]at hc;have hs:=hO.sl BlR.elem;go_wp2_with fail
   refine hcr.mono ?_;rintro e w5 ⟨rfl,rfl⟩;go_wp2_with fail
   go_ret3
   exact⟨hE1.trans hE,_,_,_,rfl,hc,hs⟩
end Go.Proofs.YtidbbddagfnfbaaGreat
