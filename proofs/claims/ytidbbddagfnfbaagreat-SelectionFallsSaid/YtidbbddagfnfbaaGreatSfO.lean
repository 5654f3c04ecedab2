/- reference 06: Transpose, Apply, Mul. Conditions: few rows and columns, numbers of few digits. reference 06: Mul. Conditions: few rows and columns, numbers of few digits. reference 03: TakeList, with the slice owned; reference 06: beside, Inverse. Conditions: few rows and columns, numbers of few digits. reference 06: Inverse. Conditions: few rows and columns, numbers of few digits. -/
import Derived.Test.YtidbbddagfnfbaaGreatSfM
namespace Go.Lin
theorem b8c (m:Mat) (n c j:Nat) (_hj:j<c) (h:j<(trL m n c).length):(trL m n c)[j]=(List.range n).map fun p=>ent m p j:=by simp[trL]
end Go.Lin
namespace Go.Proofs.YtidbbddagfnfbaaGreat
open Go.RowKit Go.Rep Go.Lim Go.Lin
set_option maxRecDepth 100000 in
set_option maxHeartbeats 800000 in
theorem a5f (X:Nat->Bool) (w:World) (u:Value) (m:List (List Rat)) (n c:Nat) (hX:HX X w) (hu:MV (mk X w) u m) (hf:a0G m=true) (hnn:m.length=n) (hcc:a0B m=c):Calls Tryz.prog 87 #[u] w (b7o X w (trL m n c)):=by
 obtain⟨hsh,h96,hc96,_,_⟩:=a0Q hf;rw[hnn,hcc]at hsh;rw[hnn]at h96;rw[hcc]at hc96;have hfo:=a3S QV.mono X w u m hu (by omega);rw[hf]at hfo;have hcol:=hid (fun w' (h:Ext w w')=>a4c X w' u m (mkx MV.mono hu h));rw[hcc]at hcol;obtain⟨M,hM⟩:∃M,trL m n c=M:=⟨_,rfl⟩;have hMl:Hid (M.length=c):=hid (by rw[<-hM];exact(a1R m n c).1);have hMr:Hid (∀j (hj:j<c) (h:j<M.length),M[j]=(List.range n).map fun p=>ent m p j):=hid fun j hj h=>by subst hM;exact b8c m n c j hj h
 have hMl2:M.length<=c:=by rw[hMl.out];exact Nat.le_refl _
 have hMl3:c<=M.length:=by rw[hMl.out];exact Nat.le_refl _
 have hnn':=hid hnn;have hsh':=hid hsh;rw[hM];obtain⟨ua,uca,rfl,huca,hua⟩:=hu;have hhu:=hua.hd;rw[hnn]at hfo hcol huca hhu |-;clear hM hf hnn hcc hsh;go_enter Tryz.func87,Tryz.ntmps87
 go_wp2_with fail
 refine hfo.mono ?_;rintro e w1 ⟨hE1,rfl⟩;go_wp2_with fail
 go_loopw [4,5] (fun o cc wr=>∃(j:Nat) (oo:Option Addr) (co:Nat),cc= .int .i64 j/\o= .slice oo j co/\j<=c/\OL RC 1 X w.heap.size 24 wr oo co (M.take j)/\Ext w wr) (fun _ cc _=>c - (intOf cc).toNat)
 case atStart=>exact⟨0,none,0,rfl,rfl,Nat.zero_le _,OL.nil _ _ _ _ _ _,hE1⟩
 case round=>
  obtain⟨j,oo,co,rfl,rfl,hj,hO,hE⟩:=hrel;have hXr:HX X wr:=hX.ext hE;have hXu:HX (un X oo) wr:=hO.unX hXr;have hbase:=hE.size;have hcr:=hcol.out wr hE;by_cases hlt:j<c
  ·have hltM:j<M.length:=by omega
   have htk:=hid (a0N M j hltM);have hln:=hid (a1a (l:=M) (i:=j) (by omega));obtain⟨R,hR⟩:∃R,M[j]=R:=⟨_,rfl⟩;have hRd:=hMr.out j hlt hltM;rw[hR]at hRd htk;have hRl:Hid (R.length=n):=hid (by rw[hRd];simp);have hRi:Hid (∀i (hi:i<n) (h:i<R.length),R[i]=ent m i j):=hid fun i hi h=>by subst hRd;simp
   have hRl2:R.length<=n:=by rw[hRl.out];exact Nat.le_refl _
   have hRl3:n<=R.length:=by rw[hRl.out];exact Nat.le_refl _
   clear hRd hR;obtain⟨wo,hwo⟩:∃wo,wo=wr:=⟨_,rfl⟩;subst hwo;go_wp2_with fail
   refine hcr.mono ?_;rintro e w2 ⟨rfl,rfl⟩;go_wp2_with fail
   go_loopw [6,7] (fun o cc wx=>∃(i:Nat) (ro:Option Addr) (cr:Nat),cc= .int .i64 i/\o= .slice ro i cr/\i<=n/\OL QC 3 (un X oo) w2.heap.size 45 wx ro cr (R.take i)/\Ext w2 wx) (fun _ cc _=>n - (intOf cc).toNat)
   case atStart=>exact⟨0,none,0,rfl,rfl,Nat.zero_le _,OL.nil _ _ _ _ _ _,ExtX.refl _⟩
   case round=>
    obtain⟨i,ro,cr,rfl,rfl,hi,hOr,hEr⟩:=hrel;have hXx:HX (un X oo) wr:=hXu.ext hEr;have hXy:HX (un (un X oo) ro) wr:=hOr.unX hXx;have hbr:=hEr.size;by_cases hli:i<n
    ·have him:i<m.length:=by rw[hnn'.out];exact hli
     have hliR:i<R.length:=by omega
     have htj:=hid (a0N R i hliR);have hlnj:=hid (a1a (l:=R) (i:=i) (by omega));have hRj:=hRi.out i hli hliR;rw[hRj]at htj;have hsr0:Sl RV 1 (mk (un X oo) w2) ua m:=hua.old RV.mono hE (fun j hj=>hO.ob_lt hj);have hsr:Sl RV 1 (mk (un (un X oo) ro) wr) ua m:=hsr0.old RV.mono hEr (fun j hj=>hOr.ob_lt hj);obtain⟨a1,c1,hX1,hc1,hcl1,hq1⟩:=hsr.row i him;have k00:=hc1.out noY wr (ExtX.refl _) rfl;have hrl:Hid (m[i].length=c):=hid (hsh'.out.2 m[i] (List.getElem_mem _));have hjm:j<m[i].length:=by rw[hrl.out];exact hlt
     have hei:=hid (b0q him hjm);obtain⟨x,hx⟩:∃x,m[i]=x:=⟨_,rfl⟩;rw[hrl.out]at k00 hcl1;have hh1:Hd a1 c:=by have:=hq1.hd;rw[hrl.out]at this;exact this
     obtain⟨v,hv⟩:∃v,ent m i j=v:=⟨_,rfl⟩;rw[hv]at hei htj;clear hc1 hRj hv hx;go_wp2_with (first|(with_reducible refine a0t a0r (by omega) (by assumption) ?_)|(with_reducible refine a2a a0D (by omega) (by assumption) ?_)|((with_reducible show wpList _ _ _ (⟨_, .load 45 _,_,_,_,_⟩::_) _ _);refine a0P a0u j hq1 hjm rfl (by simp) QV.agg ?_;intro u5 hu5;rw[hei.out]at hu5;obtain⟨s5,a5,n5,c5,d5,k5,e5,rfl⟩:=hu5.shape))
     refine(a3t (un (un X oo) ro) wr _ _ hXy hu5).mono ?_;rintro e w6 ⟨hE6,u6,rfl,hu6⟩;obtain⟨s6,a6,n6,c6,d6,k6,e6,rfl⟩:=hu6.shape;have hO6:=hOr.ext0 QC.elem hE6;have hb6:=hE6.size;clear k00;go_wp2_with (at_builtin;refine a0v (l:=R.take i) a0D rfl QC.elem (by omega) (hXx.ext hE6) i hlnj.out rfl rfl hO6 (.agg #[.bool s6, .slice a6 n6 c6, .slice d6 k6 e6]) v rfl hu6 (by omega) (by omega) ?_;intro oo2 co2 w7 hO7 hE7 hor)
     have hE8:=(hEr.trans hE6).own hO6 (Nat.le_refl _) hE7;rw[htj.out]at hO7;go_roundw
     case rel=>exact⟨i+1,oo2,co2,by go_num,by go_num,by omega,hO7,hE8⟩
     case measure=>simp[intOf];omega
    ·have hin:i=n:=by omega
     subst hin;rw[List.take_of_length_le (by omega)]at hOr;have hcr:=hOr.lenCap;have hsR:=hOr.sl QC.elem;have hO6:=hO.ext0 RC.elem hEr;have hRC:RC (mk (un X oo) wr) (.slice ro i cr) R:=⟨ro,cr,by rw[hRl.out],hcr,hsR⟩;go_wp2_with (at_builtin;refine a0v (l:=M.take j) a0r rfl RC.elem (by omega) (hXr.ext hEr) j hln.out rfl rfl hO6 (.slice ro i cr) R rfl hRC (by omega) (by omega) ?_;intro oo2 co2 w7 hO7 hE7 hor)
     have hE8:=(hE.trans hEr).own hO6 (Nat.le_refl _) hE7;rw[htk.out]at hO7;go_roundw
     case rel=>exact⟨j+1,oo2,co2,by go_num,by go_num,by omega,hO7,hE8⟩
     case measure=>simp[intOf];omega
  ·have hil:j=c:=by omega
   subst hil;rw[List.take_of_length_le (by omega)]at hO;have hc:=hO.lenCap;have hs:=hO.sl RC.elem;go_wp2_with fail
   refine hcr.mono ?_;rintro e w2 ⟨rfl,rfl⟩;go_wp2_with fail
   go_ret2
   exact⟨hE,_,rfl,oo,co,by rw[hMl.out];rfl,hc,hs⟩
set_option maxRecDepth 100000 in
theorem a8K (X:Nat->Bool) (w:World) (u v:Value) (m:List (List Rat)) (x:List Rat) (B:Nat) (hX:HX X w) (hu:MV (mk X w) u m) (hv:RV (mk X w) v x) (hf:a0G m=true) (hc:x.length=a0B m) (hB:BM B m) (hB2:BR B x) (hB1:1<=B) (hBB:200*B<=68000000000):Calls Tryz.prog 90 #[u,v] w (c0g X w (a2Z m x)):=by
 obtain⟨hsh,h96,hc96,_,_⟩:=a0Q hf;have hfo:=a3S QV.mono X w u m hu (by omega);rw[hf]at hfo;have hcol:=hid (fun w' (h:Ext w w')=>a4c X w' u m (mkx MV.mono hu h));obtain⟨ua,uca,rfl,huca,hua⟩:=hu;obtain⟨va,vca,rfl,hvca,hva⟩:=hv;have hhu:=hua.hd;obtain⟨c,hce⟩:∃c,a0B m=c:=⟨_,rfl⟩;rw[hce]at hcol hc hc96 hsh;have hne:((x.length:Int) !=(c:Int))=false:=a7U (by omega);have hsh':=hid hsh;have hcc:=hid hc;have hB':=hid hB;have hB2':=hid hB2;obtain⟨n,hn⟩:∃n,m.length=n:=⟨_,rfl⟩;rw[hn]at hfo hcol huca hhu h96 |-;have hnn:=hid hn;have hal:Hid ((a2Z m x).length=n):=hid (by rw[a4O];exact hn);clear hf hsh hn hc hce hB hB2;go_enter Tryz.func90,Tryz.ntmps90
 go_wp2_with fail
 refine hfo.mono ?_;rintro e w1 ⟨hE1,rfl⟩;have hcr:=hcol.out w1 hE1;go_wp2_with fail
 refine hcr.mono ?_;rintro e w2 ⟨rfl,rfl⟩;go_wp2_with fail
 go_loopw [6,7] (fun o k wr=>∃(i:Nat) (oo:Option Addr) (co:Nat),k= .int .i64 i/\o= .slice oo i co/\i<=n/\OL QC 3 X w.heap.size 45 wr oo co ((a2Z m x).take i)/\Ext w wr) (fun _ k _=>n - (intOf k).toNat)
 case atStart=>exact⟨0,none,0,rfl,rfl,Nat.zero_le _,OL.nil _ _ _ _ _ _,hE1⟩
 case round=>
  obtain⟨i,oo,co,rfl,rfl,hi,hO,hE⟩:=hrel;have hXr:HX X wr:=hX.ext hE;have hXu:HX (un X oo) wr:=hO.unX hXr;have hbase:=hE.size;by_cases hlt:i<n
  ·have him:i<m.length:=by rw[hnn.out];exact hlt
   have hiA:i<(a2Z m x).length:=by rw[hal.out];exact hlt
   have hsr:Sl RV 1 (mk (un X oo) wr) ua m:=hua.old RV.mono hE (fun j hj=>hO.ob_lt hj);have hvr:RV (mk (un X oo) wr) (.slice va x.length vca) x:=a6b RV.mono ⟨va,vca,rfl,hvca,hva⟩ hE (fun j hj=>hO.ob_lt hj);have htk:=hid (a0N (a2Z m x) i hiA);have hln:=hid (a1a (l:=a2Z m x) (i:=i) (by omega));obtain⟨a1,c1,hX1,hc1,hcl1,hq1⟩:=hsr.row i him;have k00:=hc1.out noY wr (ExtX.refl _) rfl;have hrl:=hid (hsh'.out.2 m[i] (List.getElem_mem _));have hge:=hid (a5H (v:=x) him hiA);have hdb:=a1Y (hB'.out m[i] (List.getElem_mem _)) hB2'.out hB1 (by rw[hrl.out];exact hc96) hBB;have hdot:=a5b (un X oo) wr _ _ m[i] x hXu ⟨a1,c1,rfl,hcl1,hq1⟩ hvr (by rw[hrl.out];omega) (by rw[hrl.out,hcc.out]) hdb.1 hdb.2;rw[<-hge.out]at hdot;obtain⟨v,hv⟩:∃v,(a2Z m x)[i]=v:=⟨_,rfl⟩;rw[hv]at hdot htk;clear hv hc1 hdb;go_wp2_with (with_reducible refine a0t a0r (by omega) (by assumption) ?_)
   refine hdot.mono ?_;rintro e w6 ⟨hE6,u6,rfl,hu6⟩;obtain⟨s6,a6,n6,c6,d6,k6,e6,rfl⟩:=hu6.shape;have hO6:=hO.ext0 QC.elem hE6;have hb6:=hE6.size;clear k00;go_wp2_with (at_builtin;refine a0v (l:=(a2Z m x).take i) a0D rfl QC.elem (by omega) (hXr.ext hE6) i hln.out rfl rfl hO6 (.agg #[.bool s6, .slice a6 n6 c6, .slice d6 k6 e6]) v rfl hu6 (by omega) (by omega) ?_;intro oo2 co2 w7 hO7 hE7 hor)
   have hE8:=(hE.trans hE6).own hO6 (Nat.le_refl _) hE7;rw[htk.out]at hO7;go_roundw
   case rel=>exact⟨i+1,oo2,co2,by go_num,by go_num,by omega,hO7,hE8⟩
   case measure=>simp[intOf];omega
  ·have hil:i=n:=by omega
   subst hil;rw[List.take_of_length_le (by rw[hal.out];exact Nat.le_refl _)]at hO;have hc:=hO.lenCap;have hs:=hO.sl QC.elem;go_wp2_with fail
   go_ret2
   exact⟨hE,_,rfl,oo,co,by rw[hal.out];rfl,hc,hs⟩
end Go.Proofs.YtidbbddagfnfbaaGreat
namespace Go.Lin
theorem b8d {b:Mat} {n c j:Nat} {x:List Rat} (hx:x.length=n) (hT:j<(trL b n c).length) (h:j<(a2Z (trL b n c) x).length):(a2Z (trL b n c) x)[j]=a2d x (trL b n c)[j]:=by
 rw[a5H hT h];unfold a2d;rw[(a1R b n c).2 _ (List.getElem_mem _),hx,b1Z]
end Go.Lin
namespace Go.Proofs.YtidbbddagfnfbaaGreat
open Go.RowKit Go.Rep Go.Lim Go.Lin
set_option maxRecDepth 100000 in
set_option maxHeartbeats 800000 in
theorem b8e (X:Nat->Bool) (w:World) (u v:Value) (a b:List (List Rat)) (k n c B:Nat) (hX:HX X w) (hu:MV (mk X w) u a) (hv:MV (mk X w) v b) (hfa:a0G a=true) (hfb:a0G b=true) (ha:a.length=k) (hb:b.length=n) (hca:a0B a=n) (hcb:a0B b=c) (hB:BM B a) (hB2:BM B b) (hB1:1<=B) (hBB:200*B<=68000000000):Calls Tryz.prog 88 #[u,v] w (b7o X w (a9X a b n c)):=by
 obtain⟨hsa,ha96,hna96,hposa,hza⟩:=a0Q hfa;obtain⟨hsb,hb96,hcb96,hposb,hzb⟩:=a0Q hfb;rw[ha,hca]at hsa;rw[ha]at ha96;rw[hb]at hb96;rw[hca]at hna96;rw[hcb]at hcb96;have hfo:=a3S QV.mono X w u a hu (by omega);rw[hfa]at hfo;have hfo2:=hid (fun w' (h:Ext w w')=>a3S QV.mono X w' v b (mkx MV.mono hv h) (by omega));rw[hfb]at hfo2;have hcol:=hid (fun w' (h:Ext w w')=>a4c X w' u a (mkx MV.mono hu h));rw[hca]at hcol;have htr:=hid (fun w' (h:Ext w w')=>a5f X w' v b n c (hX.ext h) (mkx MV.mono hv h) hfb hb hcb);have htb:=hid (a7D (b5S (n:=n) (c:=c) (a8q hB2 hB1)));obtain⟨M,hM⟩:∃M,a9X a b n c=M:=⟨_,rfl⟩;have hMl:Hid (M.length=k):=hid (by rw[<-hM,b4y];exact ha);have hMr:Hid (∀i (hi:i<a.length) (h:i<M.length),M[i]=a2Z (trL b n c) a[i]):=hid fun i hi h=>by subst hM;exact a8r hi h
 rw[hM];obtain⟨T,hT⟩:∃T,trL b n c=T:=⟨_,rfl⟩;have hTl:Hid (T.length=c):=hid (by rw[<-hT];exact(a1R b n c).1);have hTr:Hid (∀j (hj:j<T.length),T[j].length=n):=hid fun j hj=>by subst hT;exact(a1R b n c).2 _ (List.getElem_mem _)
 have hRj:Hid (∀x:List Rat,x.length=n->∀j (hj:j<T.length) (h:j<(a2Z T x).length),(a2Z T x)[j]=a2d x T[j]):=hid fun x hx j hj h=>by subst hT;exact b8d hx hj h
 rw[hT]at htr htb hMr;obtain⟨ua,uca,rfl,huca,hua⟩:=hu;obtain⟨va,vca,rfl,hvca,hva⟩:=hv;have hhu:=hua.hd;have hsa':=hid hsa;have hB':=hid hB;have haa:=hid ha;rw[ha]at huca hhu hfo hcol |-;rw[hb]at htr hvca hfo2 |-;have hne:((n:Int) !=(n:Int))=false:=a7U rfl;have hMl2:M.length<=k:=by rw[hMl.out];exact Nat.le_refl _
 have hMl3:k<=M.length:=by rw[hMl.out];exact Nat.le_refl _
 clear hfa hfb ha hb hca hcb hsa hsb hza hzb hposa hposb hva hB hB2 hM hT;go_enter Tryz.func88,Tryz.ntmps88
 go_wp2_with fail
 refine hfo.mono ?_;rintro e w1 ⟨hE1,rfl⟩;have h2:=hfo2.out w1 hE1;go_wp2_with fail
 refine h2.mono ?_;rintro e w2 ⟨hE2,rfl⟩;have hE12:=hE1.trans hE2;have h3:=hcol.out w2 hE12;go_wp2_with fail
 refine h3.mono ?_;rintro e w3 ⟨rfl,rfl⟩;have h4:=htr.out w3 hE12;go_wp2_with fail
 refine h4.mono ?_;rintro e w4 ⟨hE4,ut,rfl,ta,tc,rfl,htc,hta⟩;have hE04:=hE12.trans hE4;have hX4:=hX.ext hE04;have hua4:=hua.mono RV.mono (a0p hE04);have hht:=hta.hd;rw[hTl.out]at htc hht |-;clear hfo h2 h3 h4;go_wp2_with fail
 go_loopw [8,9] (fun o kk wr=>∃(i:Nat) (oo:Option Addr) (co:Nat),kk= .int .i64 i/\o= .slice oo i co/\i<=k/\OL RC 1 X w4.heap.size 24 wr oo co (M.take i)/\Ext w4 wr) (fun _ kk _=>k - (intOf kk).toNat)
 case atStart=>exact⟨0,none,0,rfl,rfl,Nat.zero_le _,OL.nil _ _ _ _ _ _,ExtX.refl _⟩
 case round=>
  obtain⟨i,oo,co,rfl,rfl,hi,hO,hE⟩:=hrel;have hXr:HX X wr:=hX4.ext hE;have hXu:HX (un X oo) wr:=hO.unX hXr;have hbase:=hE.size;by_cases hlt:i<k
  ·have him:i<a.length:=by rw[haa.out];exact hlt
   have hltM:i<M.length:=by omega
   have htk:=hid (a0N M i hltM);have hln:=hid (a1a (l:=M) (i:=i) (by omega));have hrl:Hid (a[i].length=n):=hid (hsa'.out.2 a[i] (List.getElem_mem _));obtain⟨R,hR⟩:∃R,M[i]=R:=⟨_,rfl⟩;have hRd:=hMr.out i him hltM;rw[hR]at hRd htk;have hRl:Hid (R.length=c):=hid (by rw[hRd,a4O];exact hTl.out);have hRi:Hid (∀j (hj:j<T.length) (h:j<R.length),R[j]=a2d a[i] T[j]):=hid fun j hj h=>by subst hRd;exact hRj.out _ hrl.out j hj h
   have hRl2:R.length<=c:=by rw[hRl.out];exact Nat.le_refl _
   have hRl3:c<=R.length:=by rw[hRl.out];exact Nat.le_refl _
   clear hRd hR;obtain⟨wo,hwo⟩:∃wo,wo=wr:=⟨_,rfl⟩;subst hwo;go_wp2_with fail
   go_loopw [10,11] (fun o cc wx=>∃(j:Nat) (ro:Option Addr) (cr:Nat),cc= .int .i64 j/\o= .slice ro j cr/\j<=c/\OL QC 3 (un X oo) wo.heap.size 45 wx ro cr (R.take j)/\Ext wo wx) (fun _ cc _=>c - (intOf cc).toNat)
   case atStart=>exact⟨0,none,0,rfl,rfl,Nat.zero_le _,OL.nil _ _ _ _ _ _,ExtX.refl _⟩
   case round=>
    obtain⟨j,ro,cr,rfl,rfl,hj,hOr,hEr⟩:=hrel;have hXx:HX (un X oo) wr:=hXu.ext hEr;have hXy:HX (un (un X oo) ro) wr:=hOr.unX hXx;have hbr:=hEr.size;by_cases hlj:j<c
    ·have hjT:j<T.length:=by rw[hTl.out];exact hlj
     have hljR:j<R.length:=by omega
     have htj:=hid (a0N R j hljR);have hlnj:=hid (a1a (l:=R) (i:=j) (by omega));have hge:=hRi.out j hjT hljR;rw[hge]at htj;have hsr:Sl RV 1 (mk (un (un X oo) ro) wr) ua a:=(hua4.old RV.mono hE (fun j hj=>hO.ob_lt hj)).old RV.mono hEr (fun j hj=>hOr.ob_lt hj);have hst:Sl RC 1 (mk (un (un X oo) ro) wr) ta T:=(hta.old RC.mono hE (fun j hj=>hO.ob_lt hj)).old RC.mono hEr (fun j hj=>hOr.ob_lt hj);obtain⟨a1,c1,hX1,hc1,hcl1,hq1⟩:=hsr.row i him;obtain⟨a2,c2,hX2,hc2,hcl2,hq2⟩:=hst.row j hjT;have htl2:=hid (hTr.out j hjT);have hBi:=hB'.out a[i] (List.getElem_mem _);have hBt:=htb.out T[j] (List.getElem_mem _);have hdb:=a1Y hBi hBt hB1 (by rw[hrl.out];exact hna96) hBB;have hq2v:=hq2.qv (fun q hq=>Nat.le_trans (hBt q hq) (by omega));have hEd:Ext wr wr.drew:=(ExtX.refl wr).drew;have hdot:=a5b (un (un X oo) ro) wr.drew _ _ a[i] T[j] hXy ⟨a1,c1,rfl,hcl1,hq1⟩ ⟨a2,c2,rfl,hcl2,hq2v⟩ (by rw[hrl.out];omega) (by rw[hrl.out,htl2.out]) hdb.1 hdb.2;obtain⟨v,hv⟩:∃v,a2d a[i] T[j]=v:=⟨_,rfl⟩;rw[hv]at hdot htj;rw[hrl.out,htl2.out]at hdot;have hob1:ob ro (adr ua i).block=false:=(a1q hX1).2;have hob2:ob ro (adr ta j).block=false:=(a1q hX2).2;rw[hrl.out]at hc1;rw[htl2.out]at hc2;have hS:Hid (∀Y W',ExtX Y wr.drew W'->Y (adr ua i).block=false->Y (adr ta j).block=false->W'.cell? (adr ua i)=some (.slice a1 n c1)/\W'.cell? (adr ta j)=some (.slice a2 n c2)):=hid fun Y W' h hg hb=>⟨hc1.out Y W' ((ExtX.of hEd).trans h) hg,hc2.out Y W' ((ExtX.of hEd).trans h) hb⟩;obtain⟨k00,k10⟩:=hS.out noY wr.drew (ExtX.refl _) rfl rfl;have i1:∀W,(Instr.indexAt 23 (.slice ua k uca) (.int .i64 (i:Int))).run Tryz.prog W= .ok (.pointer (some (adr ua i))) W:=a0C a0r ua k uca .i64 i hhu (by omega) rfl;have i2:∀W,(Instr.indexAt 23 (.slice ta c tc) (.int .i64 (j:Int))).run Tryz.prog W= .ok (.pointer (some (adr ta j))) W:=a0C a0r ta c tc .i64 j hht (by omega) rfl;clear hv hc1 hc2 hge hdb hq1 hq2 hq2v;go_wp2_with fail
     go_region_held3 (fun w'=>w'.cell? (adr ua i)=some (.slice a1 n c1)/\w'.cell? (adr ta j)=some (.slice a2 n c2))
      (first|exact hS.out noY _ t1 rfl rfl|exact hS.out noY _ (ExtX.alloc t1 _) rfl rfl|exact hS.out (ob ro) _ ((ExtX.of t1).trans hE7) hob1 hob2|go_keep)
      (first|(go_at_call 91;(with_reducible refine hdot.mono ?_);rintro ee w6 ⟨t1,u6,rfl,hu6⟩;obtain⟨s6,a6,n6,c6,d6,k6,e6,rfl⟩:=hu6.shape;have hO6:=hOr.ext0 QC.elem (hEd.trans t1);have hb6:=(hEd.trans t1).size;have hX6:=hXx.ext (hEd.trans t1))|(refine a1K (l:=R.take j) rfl (by rfl) a0D rfl QC.elem (by omega) hX6 j hlnj.out rfl rfl hO6 (.agg #[.bool s6, .slice a6 n6 c6, .slice d6 k6 e6]) v rfl hu6 (by omega) (by omega) ?_;intro oo2 co2 w7 hO7 hE7 hor))
     have hE8:=(hEr.trans (hEd.trans t1)).own hO6 (Nat.le_refl _) hE7;rw[htj.out]at hO7;clear k00 k10 i1 i2;go_wp2_with fail
     go_roundw
     case rel=>exact⟨j+1,oo2,co2,by go_num,by go_num,by omega,hO7,hE8⟩
     case measure=>simp[intOf];omega
    ·have hjc:j=c:=by omega
     subst hjc;rw[List.take_of_length_le (by omega)]at hOr;have hcr:=hOr.lenCap;have hsR:=hOr.sl QC.elem;have hO6:=hO.ext0 RC.elem hEr;have hRC:RC (mk (un X oo) wr) (.slice ro j cr) R:=⟨ro,cr,by rw[hRl.out],hcr,hsR⟩;go_wp2_with (at_builtin;refine a0v (l:=M.take i) a0r rfl RC.elem (by omega) (hXr.ext hEr) i hln.out rfl rfl hO6 (.slice ro j cr) R rfl hRC (by omega) (by omega) ?_;intro oo2 co2 w7 hO7 hE7 hor)
     have hE8:=(hE.trans hEr).own hO6 (Nat.le_refl _) hE7;rw[htk.out]at hO7;go_roundw
     case rel=>exact⟨i+1,oo2,co2,by go_num,by go_num,by omega,hO7,hE8⟩
     case measure=>simp[intOf];omega
  ·have hil:i=k:=by omega
   subst hil;rw[List.take_of_length_le (by omega)]at hO;have hc:=hO.lenCap;have hs:=hO.sl RC.elem;go_wp2_with fail
   go_ret2
   exact⟨hE04.trans hE,_,rfl,oo,co,by rw[hMl.out];rfl,hc,hs⟩
end Go.Proofs.YtidbbddagfnfbaaGreat
namespace Go.Lin
open Go.Lim
theorem b3q {m:Mat} {n i:Nat} (h:i<(a1B m n).length) (hi:i<m.length):(a1B m n)[i]=m[i]++(List.range n).map fun j=>if i=j then 1 else 0:=by
 have hin:i<n:=by simpa[a1B]using h
 simp only[a1B,List.getElem_map,List.getElem_range];rw[a3e hi]
 congr 1
 refine List.ext_getElem (by simp) fun j h1 h2=>?_;rw[List.getElem_set,List.getElem_map,List.getElem_range,List.getElem_replicate]
theorem a9B {m:Mat} {n:Nat} (hs:Shp n n m):a0B (a1B m n)=2*n:=a8C (a1C hs) (by omega)
theorem c0x {m:Mat} {n:Nat} (hn:n<=4) (hs:Shp n n m):a6p m n↔a8M m n=0:=by rw[b2S hn hs];exact b0j hn hs
end Go.Lin
namespace Go.Proofs.YtidbbddagfnfbaaGreat
open Go.RowKit Go.Rep Go.Lim Go.Lin
def c0y (X:Nat->Bool) (w:World) (l:List Rat) (e:Ending) (w':World):Prop:=Ext w w'/\∃oo co,e= .returned (.slice oo l.length co)/\OL QC 3 X w.heap.size 45 w' oo co l
set_option maxRecDepth 100000 in
theorem a9C (X:Nat->Bool) (w:World) (u:Value) (l:List Rat) (hX:HX X w) (hu:RV (mk X w) u l) (hl:l.length<=1000000):Calls Tryz.prog 235 #[u] w (c0y X w l):=by
 obtain⟨ao,ca,rfl,hca,hsa⟩:=hu;have hha:=hsa.hd;go_enter Tryz.func235,Tryz.ntmps235
 go_wp2_with fail
 go_loopw [3,4] (fun o c wr=>∃(i:Nat) (oo:Option Addr) (co:Nat),c= .int .i64 i/\o= .slice oo i co/\i<=l.length/\OL QC 3 X w.heap.size 45 wr oo co (l.take i)/\Ext w wr) (fun _ c _=>l.length - (intOf c).toNat)
 case atStart=>exact⟨0,none,0,rfl,rfl,Nat.zero_le _,OL.nil _ _ _ _ _ _,ExtX.refl _⟩
 case round=>
  obtain⟨i,oo,co,rfl,rfl,hi,hO,hE⟩:=hrel;have hXr:HX X wr:=hX.ext hE;have hXu:HX (un X oo) wr:=hO.unX hXr;have hbase:=hE.size;by_cases hlt:i<l.length
  ·have hsr:Sl QV 3 (mk (un X oo) wr) ao l:=hsa.old QV.mono hE (fun j hj=>hO.ob_lt hj)
   have htk:=hid (a0N l i hlt);have hln:=hid (a1a hi);go_wp2_with (first|(with_reducible refine a2a a0D (by omega) (by assumption) ?_)|((with_reducible show wpList _ _ _ (⟨_, .load _ _,_,_,_,_⟩::_) _ _);refine a0P a0u i hsr hlt rfl (by simp) QV.agg ?_;intro u5 hu5;obtain⟨s5,a5,n5,c5,d5,k5,e5,rfl⟩:=hu5.shape))
   refine(a3t (un X oo) wr _ _ hXu hu5).mono ?_;rintro e w6 ⟨hE6,u6,rfl,hu6⟩;obtain⟨s6,a6,n6,c6,d6,k6,e6,rfl⟩:=hu6.shape;have hO6:=hO.ext0 QC.elem hE6;have hb6:=hE6.size;go_wp2_with (at_builtin;refine a0v (l:=l.take i) a0D rfl QC.elem (by omega) (hXr.ext hE6) i hln.out rfl rfl hO6 (.agg #[.bool s6, .slice a6 n6 c6, .slice d6 k6 e6]) l[i] rfl hu6 (by omega) (by omega) ?_;intro oo2 co2 w7 hO7 hE7 hor)
   have hE8:=(hE.trans hE6).own hO6 (Nat.le_refl _) hE7;rw[htk.out]at hO7;go_roundw
   case rel=>exact⟨i+1,oo2,co2,by go_num,by go_num,by omega,hO7,hE8⟩
   case measure=>simp[intOf];omega
  ·have hil:i=l.length:=by omega
   subst hil;rw[List.take_length]at hO;go_wp2_with fail
   go_ret
   exact⟨hE,oo,co,rfl,hO⟩
set_option maxRecDepth 100000 in
set_option maxHeartbeats 800000 in
theorem a9D (X:Nat->Bool) (w:World) (u:Value) (m:List (List Rat)) (n:Nat) (hX:HX X w) (hu:MV (mk X w) u m) (hsh:Shp n n m) (hn:n<=96):Calls Tryz.prog 169 #[u] w (a1Z X w MC (a1B m n)):=by
 obtain⟨M,hM⟩:∃M,a1B m n=M:=⟨_,rfl⟩;have hMl:Hid (M.length=n):=hid (by rw[<-hM];simp[a1B]);have hMr:Hid (∀i (hi:i<m.length) (h:i<M.length),M[i]=m[i]++(List.range n).map fun j=>if i=j then 1 else 0):=hid fun i hi h=>by subst hM;exact b3q h hi
 have hMl2:M.length<=n:=by rw[hMl.out];exact Nat.le_refl _
 have hMl3:n<=M.length:=by rw[hMl.out];exact Nat.le_refl _
 rw[hM];have hsh':=hid hsh;have hnn:=hid hsh.1;obtain⟨ua,uca,rfl,huca,hua⟩:=hu;have hhu:=hua.hd;rw[hnn.out]at huca hhu |-;clear hM hsh;go_enter Tryz.func169,Tryz.ntmps169
 go_wp2_with fail
 go_loopw [3,4] (fun o cc wr=>∃(i:Nat) (oo:Option Addr) (co:Nat),cc= .int .i64 i/\o= .slice oo i co/\i<=n/\OL RC 1 X w.heap.size 24 wr oo co (M.take i)/\Ext w wr) (fun _ cc _=>n - (intOf cc).toNat)
 case atStart=>exact⟨0,none,0,rfl,rfl,Nat.zero_le _,OL.nil _ _ _ _ _ _,ExtX.refl _⟩
 case round=>
  obtain⟨i,oo,co,rfl,rfl,hi,hO,hE⟩:=hrel;have hXr:HX X wr:=hX.ext hE;have hXu:HX (un X oo) wr:=hO.unX hXr;have hbase:=hE.size;by_cases hlt:i<n
  ·have him:i<m.length:=by rw[hnn.out];exact hlt
   have hltM:i<M.length:=by omega
   have htk:=hid (a0N M i hltM);have hln:=hid (a1a (l:=M) (i:=i) (by omega));have hrl:Hid (m[i].length=n):=hid (hsh'.out.2 m[i] (List.getElem_mem _));have hsr:Sl RV 1 (mk (un X oo) wr) ua m:=hua.old RV.mono hE (fun j hj=>hO.ob_lt hj);obtain⟨a1,c1,hX1,hc1,hcl1,hq1⟩:=hsr.row i him;have k00:=hc1.out noY wr (ExtX.refl _) rfl;have htl:=a9C (un X oo) wr (.slice a1 m[i].length c1) m[i] hXu ⟨a1,c1,rfl,hcl1,hq1⟩ (by rw[hrl.out];omega);obtain⟨R,hR⟩:∃R,M[i]=R:=⟨_,rfl⟩;have hRd:=hMr.out i him hltM;rw[hR]at hRd htk;obtain⟨x,hx⟩:∃x,m[i]=x:=⟨_,rfl⟩;rw[hx]at hrl htl hRd k00;have hRl:Hid (R.length=n+n):=hid (by rw[hRd,List.length_append,hrl.out];simp);have hRt:Hid (R.take n=x):=hid (by rw[hRd,List.take_append_of_le_length (by rw[hrl.out];exact Nat.le_refl _),List.take_of_length_le (by rw[hrl.out];exact Nat.le_refl _)]);have hRi:Hid (∀j (hj:j<n) (h:n+j<R.length),R[n+j]=if i=j then 1 else 0):=hid fun j hj h=>by
    subst hRd;rw[List.getElem_append_right (by rw[hrl.out];omega)];simp[hrl.out]
   have hRl2:R.length<=n+n:=by rw[hRl.out];exact Nat.le_refl _
   have hRl3:n+n<=R.length:=by rw[hRl.out];exact Nat.le_refl _
   rw[hrl.out]at k00 htl;clear hRd hR hx hc1 hq1 hcl1;obtain⟨wo,hwo⟩:∃wo,wo=wr:=⟨_,rfl⟩;subst hwo;go_wp2_with (with_reducible refine a0t a0r (by omega) (by assumption) ?_)
   refine htl.mono ?_;rintro e w5 ⟨hE5,ro0,cr0,rfl,hOr0⟩;rw[hrl.out];rw[<-hRt.out]at hOr0;have hOr1:OL QC 3 (un X oo) wo.heap.size 45 w5 ro0 cr0 (R.take (n+0)):=hOr0;clear k00 htl hOr0;go_wp2_with fail
   go_loopw [5,6] (fun o cc wx=>∃(j:Nat) (ro:Option Addr) (cr k:Nat),cc= .int .i64 j/\o= .slice ro k cr/\k=n+j/\j<=n/\OL QC 3 (un X oo) wo.heap.size 45 wx ro cr (R.take (n+j))/\Ext wo wx) (fun _ cc _=>n - (intOf cc).toNat)
   case atStart=>exact⟨0,ro0,cr0,n,rfl,rfl,rfl,Nat.zero_le _,hOr1,hE5⟩
   case round=>
    clear hOr1;obtain⟨j,ro,cr,k,rfl,rfl,hkj,hj,hOr,hEr⟩:=hrel;have hXx:HX (un X oo) wr:=hXu.ext hEr;have hXy:HX (un (un X oo) ro) wr:=hOr.unX hXx;have hbr:=hEr.size;by_cases hlj:j<n
    ·have hljR:n+j<R.length:=by omega
     have htj:=hid (a0N R (n+j) hljR);have hlnj:=hid (a1a (l:=R) (i:=n+j) (by omega));have hRj:=hRi.out j hlj hljR;rw[hRj]at htj;have hkj':=hid hkj;by_cases hij:i=j
     ·have hb:((i:Int)==(j:Int))=true:=a7e (by omega)
      have hv1:(((1:Int):Rat))=if i=j then 1 else 0:=by rw[if_pos hij];rfl
      rw[<-hv1]at htj;clear hRj hij hv1 hkj;go_wp2_with fail
      refine(a4I (un (un X oo) ro) wr 1 hXy (by decide) (by decide)).mono ?_;rintro e w6 ⟨hE6,u6,rfl,hu6⟩;obtain⟨s6,a6,n6,c6,d6,k6,e6,rfl⟩:=hu6.shape;have hO6:=hOr.ext0 QC.elem hE6;have hb6:=hE6.size;go_wp2_with (at_builtin;refine a0v (l:=R.take (n+j)) a0D rfl QC.elem (by omega) (hXx.ext hE6) k (by rw[hlnj.out,hkj'.out]) rfl rfl hO6 (.agg #[.bool s6, .slice a6 n6 c6, .slice d6 k6 e6]) _ rfl hu6 (by have:=hkj'.out;omega) (by have:=hkj'.out;omega) ?_;intro oo2 co2 w7 hO7 hE7 hor)
      have hE8:=(hEr.trans hE6).own hO6 (Nat.le_refl _) hE7;rw[htj.out]at hO7;go_roundw
      case rel=>exact⟨j+1,oo2,co2,k+1,by go_num,by go_num,by have:=hkj'.out;omega,by omega,hO7,hE8⟩
      case measure=>simp[intOf];omega
     ·have hb:((i:Int)==(j:Int))=false:=a2I (by omega)
      have hv1:(((0:Int):Rat))=if i=j then 1 else 0:=by rw[if_neg hij];rfl
      rw[<-hv1]at htj;clear hRj hij hv1 hkj;go_wp2_with fail
      refine(a4I (un (un X oo) ro) wr 0 hXy (by decide) (by decide)).mono ?_;rintro e w6 ⟨hE6,u6,rfl,hu6⟩;obtain⟨s6,a6,n6,c6,d6,k6,e6,rfl⟩:=hu6.shape;have hO6:=hOr.ext0 QC.elem hE6;have hb6:=hE6.size;go_wp2_with (at_builtin;refine a0v (l:=R.take (n+j)) a0D rfl QC.elem (by omega) (hXx.ext hE6) k (by rw[hlnj.out,hkj'.out]) rfl rfl hO6 (.agg #[.bool s6, .slice a6 n6 c6, .slice d6 k6 e6]) _ rfl hu6 (by have:=hkj'.out;omega) (by have:=hkj'.out;omega) ?_;intro oo2 co2 w7 hO7 hE7 hor)
      have hE8:=(hEr.trans hE6).own hO6 (Nat.le_refl _) hE7;rw[htj.out]at hO7;go_roundw
      case rel=>exact⟨j+1,oo2,co2,k+1,by go_num,by go_num,by have:=hkj'.out;omega,by omega,hO7,hE8⟩
      case measure=>simp[intOf];omega
    ·have hjc:j=n:=by omega
     subst hjc;rw[List.take_of_length_le (by omega)]at hOr;have hcr:=hOr.lenCap;have hsR:=hOr.sl QC.elem;have hO6:=hO.ext0 RC.elem hEr;have hkl:Hid (R.length=k):=hid (by rw[hRl.out,hkj]);have hRC:RC (mk (un X oo) wr) (.slice ro k cr) R:=⟨ro,cr,by rw[hkl.out],hcr,hsR⟩;clear hkj;go_wp2_with (at_builtin;refine a0v (l:=M.take i) a0r rfl RC.elem (by omega) (hXr.ext hEr) i hln.out rfl rfl hO6 (.slice ro k cr) R rfl hRC (by omega) (by omega) ?_;intro oo2 co2 w7 hO7 hE7 hor)
     have hE8:=(hE.trans hEr).own hO6 (Nat.le_refl _) hE7;rw[htk.out]at hO7;go_roundw
     case rel=>exact⟨i+1,oo2,co2,by go_num,by go_num,by omega,hO7,hE8⟩
     case measure=>simp[intOf];omega
  ·have hil:i=n:=by omega
   subst hil;rw[List.take_of_length_le (by omega)]at hO;have hc:=hO.lenCap;have hs:=hO.sl RC.elem;go_wp2_with fail
   go_ret
   exact⟨hE,_,rfl,oo,co,by rw[hMl.out];rfl,hc,hs⟩
end Go.Proofs.YtidbbddagfnfbaaGreat
namespace Go.Lin
open Go.Lim
theorem b8f {m:Mat} {n:Nat} (hT:a6H m n):hq (a8M m n)<=68719476736:=by
 obtain⟨B,h1,h2⟩:=hT;have h3:=(h2 n (Nat.le_refl _)).2;unfold a8M;split
 ·rw[a0Y];decide
 ·omega
theorem b5u (m:Mat) (n:Nat):(a2B m n).length=(a1b (a1B m n) (2*n)).1.length:=by simp[a2B]
theorem b5v (m:Mat) (n i:Nat) (h:i<(a2B m n).length) (hi:i<(a1b (a1B m n) (2*n)).1.length):(a2B m n)[i]=(a1b (a1B m n) (2*n)).1[i].drop n:=by simp[a2B]
end Go.Lin
namespace Go.Proofs.YtidbbddagfnfbaaGreat
open Go.RowKit Go.Rep Go.Lim Go.Lin
def b3r (X:Nat->Bool) (w:World) (m:List (List Rat)) (n:Nat) (e:Ending) (w':World):Prop:=Ext w w'/\((a8M m n=0/\e= .returned (.tuple #[.slice none 0 0, .int .i64 7]))\/(a8M m n≠0/\∃u,e= .returned (.tuple #[u, .int .i64 0])/\MC (mk X w') u (a2B m n)))
set_option maxRecDepth 100000 in
set_option maxHeartbeats 800000 in
theorem a9E (X:Nat->Bool) (w:World) (u:Value) (m:List (List Rat)) (n:Nat) (hX:HX X w) (hu:MV (mk X w) u m) (hf:a0G m=true) (hnn:m.length=n) (hcc:a0B m=n) (hTd:a6H m n) (hT:a6H (a1B m n) (2*n)) (hB:BM 68719476736 (a1B m n)):Calls Tryz.prog 89 #[u] w (b3r X w m n):=by
 obtain⟨hsh,h96,hc96,_,_⟩:=a0Q hf;rw[hnn,hcc]at hsh;rw[hnn]at h96;have hdet:=b7J X w u m n hX hu hf hnn hcc hTd;have hdq:=hid (b8f hTd);have hbe:=hid (fun w' (h:Ext w w')=>a9D X w' u m n (hX.ext h) (mkx MV.mono hu h) hsh h96);have hWs:=a1C hsh;have hWr:=hid (b1K hWs).1;have hIl:=hid (b5u m n);have hIr:=hid (b5v m n);have hre:=hid (fun w' (h:Ext w w') (v:Value) (hv:MC (mk X w') v (a1B m n))=>a4u X w' v (a1B m n) n (2*n) (hX.ext h) (hv.mv hB) hWs (a9B hsh) (by omega) (by omega) hT);have hRok:=hid (a5M hWs (2*n)).shp;rw[<-hWr.out]at hRok;obtain⟨D,hD⟩:∃D,a8M m n=D:=⟨_,rfl⟩;rw[hD]at hdet hdq;have hD':=hid hD;obtain⟨ua,uca,rfl,huca,hua⟩:=hu;rw[hnn]at hdet hbe |-;clear hf hnn hcc hsh hWs hD hua;by_cases h0:D=0
 ·have hs0:(D.num.sign==(0:Int))=true:=by rw[h0];rfl
  have hr:Hid (a8M m n=0):=hid (hD'.out.trans h0);clear h0;go_enter Tryz.func89,Tryz.ntmps89
  go_wp2_with fail
  refine hdet.mono ?_;rintro e w1 ⟨hE1,u1,rfl,hu1⟩;obtain⟨s1,a1,n1,c1,d1,k1,e1,rfl⟩:=hu1.shape;have bx:=Bx.new w1 #[.bool false, .slice none 0 0, .slice none 0 0] 45;go_wp2_with ((with_reducible show wpList _ _ _ (⟨_, .store _ _ _,_,_,_,_⟩::_) _ _);refine a0c a0u rfl rfl bx rfl rfl (a2g _ _ _ _ _ _ _) ?_;intro w3 r1 r2;have k0:=r1.cell 0 rfl;have k1':=r1.cell 1 rfl;have k2':=r1.cell 2 rfl)
  have hE3:Ext w1 w3:=ExtX.box ((ExtX.refl w1).alloc _) r2 (Nat.le_refl _);have hE03:=hE1.trans hE3;refine(a6T X w3 _ D (hX.ext hE03) ((mkx QC.mono hu1 hE3).qv hdq.out)).mono ?_;rintro e w4 ⟨hE4,rfl⟩;clear k0 k1' k2';go_wp2_with fail
  go_ret2
  exact⟨hE03.trans hE4, .inl ⟨hr.out,rfl⟩⟩
 ·have hs0:(D.num.sign==(0:Int))=false:=a2I (by intro h;exact h0 (Rat.num_eq_zero.1 (Int.sign_eq_zero_iff_zero.1 h)))
  have hr:Hid (a8M m n≠0):=hid (by rw[hD'.out];exact h0);clear h0;obtain⟨I,hI⟩:∃I,a2B m n=I:=⟨_,rfl⟩;rw[hI]at hIl hIr;have hI':=hid hI;obtain⟨S,hS⟩:∃S,rN (a1B m n) (2*n)=S:=⟨_,rfl⟩;rw[hS]at hre hWr;obtain⟨R,P,f⟩:=S
  dsimp only at hWr
  obtain⟨R9,hR9⟩:∃R9,(a1b (a1B m n) (2*n)).1=R9:=⟨_,rfl⟩;rw[hR9]at hIl hIr hRok hWr;obtain rfl:R9=R:=hWr.out;have hRl:Hid (R9.length=n):=hid hRok.out.1;have hIln:Hid (I.length=n):=hid (by rw[hIl.out];exact hRl.out);have hIl2:I.length<=n:=by rw[hIln.out];exact Nat.le_refl _
  have hIl3:n<=I.length:=by rw[hIln.out];exact Nat.le_refl _
  clear hI hS hR9 hIl;go_enter Tryz.func89,Tryz.ntmps89
  go_wp2_with fail
  refine hdet.mono ?_;rintro e w1 ⟨hE1,u1,rfl,hu1⟩;obtain⟨s1,a1,n1,c1,d1,k1,e1,rfl⟩:=hu1.shape;have bx:=Bx.new w1 #[.bool false, .slice none 0 0, .slice none 0 0] 45;go_wp2_with ((with_reducible show wpList _ _ _ (⟨_, .store _ _ _,_,_,_,_⟩::_) _ _);refine a0c a0u rfl rfl bx rfl rfl (a2g _ _ _ _ _ _ _) ?_;intro w3 r1 r2;have k0:=r1.cell 0 rfl;have k1':=r1.cell 1 rfl;have k2':=r1.cell 2 rfl)
  have hE3:Ext w1 w3:=ExtX.box ((ExtX.refl w1).alloc _) r2 (Nat.le_refl _);have hE03:=hE1.trans hE3;refine(a6T X w3 _ D (hX.ext hE03) ((mkx QC.mono hu1 hE3).qv hdq.out)).mono ?_;rintro e w4 ⟨hE4,rfl⟩;have hE04:=hE03.trans hE4;have h4:=hbe.out w4 hE04;clear k0 k1' k2' bx hdet hu1 r1;go_wp2_with fail
  refine h4.mono ?_;rintro e w5 ⟨hE5,ub,rfl,hub⟩;have hE05:=hE04.trans hE5;have h5:=hre.out w5 hE05 ub hub;clear h4;go_wp2_with fail
  refine h5.mono ?_;rintro e w6 ⟨hE6,ro,rco,po,pc,uf,rfl,hrco,hpc,hso,hsp,huf⟩
  dsimp only at hrco hso |-
  obtain⟨s2,a2,n2,c2,d2,k2,e2,rfl⟩:=huf.shape;have bx2:=Bx.new w6 #[.bool false, .slice none 0 0, .slice none 0 0] 45;have hhr:=hso.hd;rw[hRl.out]at hrco hhr |-;clear h5 hsp huf;go_wp2_with ((with_reducible show wpList _ _ _ (⟨_, .store _ _ _,_,_,_,_⟩::_) _ _);refine a0c a0u rfl rfl bx2 rfl rfl (a2g _ _ _ _ _ _ _) ?_;intro w7 r3 r4)
  have hE7:Ext w6 w7:=ExtX.box ((ExtX.refl w6).alloc _) r4 (Nat.le_refl _);have hE07:=hE05.trans (hE6.trans hE7);have hso7:=hso.mono RC.mono (a0p hE7);clear hso bx2 r3;go_loopw [9,10] (fun o cc wr=>∃(i:Nat) (oo:Option Addr) (co:Nat),cc= .int .i64 i/\o= .slice oo i co/\i<=n/\OL RC 1 X w7.heap.size 24 wr oo co (I.take i)/\Ext w7 wr) (fun _ cc _=>n - (intOf cc).toNat)
  case atStart=>exact⟨0,none,0,rfl,rfl,Nat.zero_le _,OL.nil _ _ _ _ _ _,ExtX.refl _⟩
  case round=>
   obtain⟨i,oo,co,rfl,rfl,hi,hO,hE⟩:=hrel;have hXr:HX X wr:=(hX.ext hE07).ext hE;have hbase:=hE.size;by_cases hlt:i<n
   ·have hiR:i<R9.length:=by rw[hRl.out];exact hlt
    have hiI:i<I.length:=by omega
    have htk:=hid (a0N I i hiI);have hln:=hid (a1a (l:=I) (i:=i) (by omega));have hsr:Sl RC 1 (mk (un X oo) wr) ro R9:=hso7.old RC.mono hE (fun j hj=>hO.ob_lt hj);obtain⟨a1,c1,hX1,hc1,hcl1,hq1⟩:=hsr.row i hiR;have k00:=hc1.out noY wr (ExtX.refl _) rfl;have hge:=hIr.out i hiI hiR;rw[hge]at htk;have hxl:Hid (n<=R9[i].length):=hid (by rw[hRok.out.2 _ (List.getElem_mem _)];omega);obtain⟨x,hx⟩:∃x,R9[i]=x:=⟨_,rfl⟩;rw[hx]at k00 hcl1 hq1 htk hxl;have hxl2:=hxl.out;clear hc1 hx hge;go_wp2_with (first|(with_reducible refine a0t a0r (by omega) (by assumption) ?_)|((with_reducible show wpList _ _ _ (⟨_, .slice _ _ _ _ _,_,_,_,_⟩::_) _ _);refine b6n a0D n rfl rfl rfl hq1 hxl2 hcl1 ?_;intro ao3 hs3;have hRC:RC (mk (un X oo) wr) (.slice ao3 (x.length - n) (c1 - n)) (x.drop n):=⟨ao3,c1 - n,by rw[List.length_drop],by rw[List.length_drop];omega,hs3⟩)|(at_builtin;refine a0v (l:=I.take i) a0r rfl RC.elem (by omega) hXr i hln.out rfl rfl hO (.slice ao3 (x.length - n) (c1 - n)) (x.drop n) rfl hRC (by omega) (by omega) ?_;intro oo2 co2 w8 hO8 hE8 hor))
    clear k00;have hE9:=hE.own hO (Nat.le_refl _) hE8;rw[htk.out]at hO8;go_roundw
    case rel=>exact⟨i+1,oo2,co2,by go_num,by go_num,by omega,hO8,hE9⟩
    case measure=>simp[intOf];omega
   ·have hil:i=n:=by omega
    subst hil;rw[List.take_of_length_le (by omega)]at hO;have hc:=hO.lenCap;have hs:=hO.sl RC.elem;go_wp2_with fail
    go_ret2
    exact⟨hE07.trans hE, .inr ⟨hr.out, .slice oo i co,rfl,by rw[hI'.out];exact⟨oo,co,by rw[hIln.out],hc,hs⟩⟩⟩
end Go.Proofs.YtidbbddagfnfbaaGreat
