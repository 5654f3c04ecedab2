/- law 13: list, light. Conditions: none. Arguments, opened: six of them; bounds of integers; []int with its numbers' bounds. Conditions: none. reference 13: pick. Conditions: few rows and columns. reference 06: Mul. Conditions: few rows and columns, numbers of few digits. reference 03: TakeList, with the slice owned; reference 06: beside, Inverse. Conditions: few rows and columns, numbers of few digits. reference 06: Inverse. Conditions: few rows and columns, numbers of few digits. -/
import Derived.Test.YtkddecjkfdogiaaGreatLdM
namespace Go.Proofs.YtkddecjkfdogiaaGreat
open Go.RowKit Go.Rep Go.Lim
def a2f (l:List a5d) (most:Nat):Bool:=decide (l.length<=most/\∀x∈l,Few 2 x)
def a5e (m:List (List a5d)):Bool:=decide (m.length<=6/\∀x∈m,a2f x 4=true)
set_option maxRecDepth 100000 in
set_option maxHeartbeats 800000 in
theorem a5f (X:Nat->Bool) (w:World) (u:Value) (r:List a5d) (most:Nat) (hu:RR (mk X w) u r) (hm:most<=1000):Calls Tryz.prog 61 #[u, .int .i64 (most:Int)] w (a7U w (a2f r most)):=by
 obtain⟨ao,ca,rfl,hca,hq1⟩:=hu;have hh1:=hq1.hd;have hno:Hid (¬(r.length<=most/\∀x∈r,Few 2 x)->false=a2f r most):=hid fun h=>(decide_eq_false h).symm;have hyes:Hid ((r.length<=most/\∀x∈r,Few 2 x)->true=a2f r most):=hid fun h=>(decide_eq_true h).symm;by_cases hl:r.length<=most
 ·obtain⟨c,hc⟩:∃c,r.length=c:=⟨_,rfl⟩
  have hc':=hid hc;rw[hc]at hl hh1 hca |-;have hng:¬(most:Int)<(c:Int):=by omega
  clear hc;go_enter Tryz.func61,Tryz.ntmps61
  go_wp2_with fail
  go_loopw [5] (fun cc wr=>∃j:Nat,cc= .int .i64 j/\j<=c/\Hid (∀p (hp:p<r.length),p<j->Few 2 r[p])/\w=wr) (fun cc _=>c - (intOf cc).toNat)
  case atStart=>exact⟨0,rfl,Nat.zero_le _,hid (fun p hp h=>by omega),rfl⟩
  case round=>
   obtain⟨j,rfl,hj,hokj,rfl⟩:=hrel;by_cases hlj:j<c
   ·have hjr:j<r.length:=by rw[hc'.out];exact hlj
    obtain⟨g,o,a2,c2,d2,e2,hg,hX2,hc2,hq2⟩:=hq1.raw j hjr;obtain⟨k10,k11,k12⟩:=hc2.out noY w (ExtX.refl _) rfl;have i2:∀W,(Instr.indexAt 45 (.slice ao c ca) (.int .i64 (j:Int))).run Tryz.prog W= .ok (.pointer (some ⟨g,o,none⟩)) W:=by rw[<-hg];exact a0i a0A ao c ca .i64 j hh1 (by omega)
    have hfew:Hid (Few 2 r[j]->∀p (hp:p<r.length),p<j+1->Few 2 r[p]):=hid fun h p hp hpi=>by
     by_cases e:p=j
     ·subst e;exact h
     ·exact hokj.out p hp (by omega)
    have hbad:Hid (¬Few 2 r[j]->false=a2f r most):=hid fun h=>hno.out fun h2=>h (h2.2 _ (List.getElem_mem _));obtain⟨n1,hn1⟩:∃n1,r[j].2.1.length=n1:=⟨_,rfl⟩;obtain⟨n2,hn2⟩:∃n2,r[j].2.2.length=n2:=⟨_,rfl⟩;have hfd:Hid (Few 2 r[j]↔n1<=2/\n2<=2):=hid (by rw[<-hn1,<-hn2]);rw[hn1]at k11;rw[hn2]at k12;clear hc2 hq2 hg hn1 hn2;by_cases h1:n1<=2
    ·have h1':¬(2:Int)<(n1:Int):=by omega
     by_cases h2:n2<=2
     ·have h2':¬(2:Int)<(n2:Int):=by omega
      have hnext:=hid (hfew.out (hfd.out.2 ⟨h1,h2⟩));clear h1 h2;go_wp2_with fail
      go_roundw
      case rel=>exact⟨j+1,by go_num,by omega,hnext,trivial⟩
      case measure=>simp[intOf];omega
     ·have h2':(2:Int)<(n2:Int):=by omega
      have hend:=hid (hbad.out fun h=>h2 (hfd.out.1 h).2);clear h1 h2;go_wp2_with fail
      go_ret
      exact⟨ExtX.refl _,a0j hend.out⟩
    ·have h1':(2:Int)<(n1:Int):=by omega
     have hend:=hid (hbad.out fun h=>h1 (hfd.out.1 h).1);clear h1;go_wp2_with fail
     go_ret
     exact⟨ExtX.refl _,a0j hend.out⟩
   ·have hjc:j=c:=by omega
    have hr:=hid (hyes.out ⟨by rw[hc'.out];exact hl,fun x hx=>by obtain⟨p,hp,rfl⟩:=List.getElem_of_mem hx;exact hokj.out p hp (by rw[hc'.out]at hp;omega)⟩);subst hjc;go_wp2_with fail
    go_ret
    exact⟨ExtX.refl _,a0j hr.out⟩
 ·have hg:(most:Int)<(r.length:Int):=by omega
  have hr:=hid (hno.out fun h=>hl h.1);clear hl;go_enter Tryz.func61,Tryz.ntmps61
  go_wp2_with fail
  go_ret
  exact⟨ExtX.refl _,a0j hr.out⟩
set_option maxRecDepth 100000 in
theorem a8z (X:Nat->Bool) (w:World) (u:Value) (m:List (List a5d)) (hu:MR (mk X w) u m):Calls Tryz.prog 60 #[u] w (a7U w (a5e m)):=by
 obtain⟨ao,ca,rfl,hca,hsa⟩:=hu;have hh:=hsa.hd;by_cases hl:m.length<=6
 ·have hng:¬(6:Int)<(m.length:Int):=by omega
  have hyes:Hid ((∀p (hp:p<m.length),a2f m[p] 4=true)->a5e m=true):=hid fun h=>decide_eq_true ⟨hl,fun x hx=>by obtain⟨p,hp,rfl⟩:=List.getElem_of_mem hx;exact h p hp⟩;have hno:Hid (∀p (hp:p<m.length),a2f m[p] 4=false->a5e m=false):=hid fun p hp h=>decide_eq_false fun h2=>by have:=h2.2 _ (List.getElem_mem hp);rw[h]at this;simp at this
  obtain⟨n,hn⟩:∃n,m.length=n:=⟨_,rfl⟩;have hn':=hid hn;have hn6:n<=6:=by omega
  rw[hn]at hh hng |-;clear hl hn hca;go_enter Tryz.func60,Tryz.ntmps60
  go_wp2_with fail
  go_loopw [3] (fun cc wr=>∃i:Nat,cc= .int .i64 i/\i<=n/\Hid (∀p (hp:p<m.length),p<i->a2f m[p] 4=true)/\Ext w wr) (fun cc _=>n - (intOf cc).toNat)
  case atStart=>exact⟨0,rfl,Nat.zero_le _,hid (fun p hp h=>by omega),ExtX.refl _⟩
  case round=>
   obtain⟨i,rfl,hi,hok,hE⟩:=hrel;by_cases hlt:i<n
   ·have hil:i<m.length:=by rw[hn'.out];exact hlt
    have hsr:=hsa.mono RR.mono (a0p hE);obtain⟨a1,c1,hX1,hc1,hcl1,hq1⟩:=hsr.rowR i hil;have k00:=hc1.out noY wr (ExtX.refl _) rfl;have hll:Calls Tryz.prog 61 #[.slice a1 m[i].length c1, .int .i64 4] wr (a7U wr (a2f m[i] 4)):=a5f X wr (.slice a1 m[i].length c1) m[i] 4 ⟨a1,c1,rfl,hcl1,hq1⟩ (by omega);clear hc1 hq1;cases hf:a2f m[i] 4
    ·rw[hf]at hll
     have hr:=hid (hno.out i hil hf).symm;clear hf;go_wp2_with (with_reducible refine a0t a0r (by omega) (by assumption) ?_)
     refine hll.mono ?_;rintro ee w5 ⟨hE5,rfl⟩;clear k00;go_wp2_with fail
     go_ret
     exact⟨hE.trans hE5,a0j hr.out⟩
    ·rw[hf]at hll
     have hok2:Hid (∀p (hp:p<m.length),p<i+1->a2f m[p] 4=true):=hid fun p hp hpi=>by
      by_cases h:p=i
      ·subst h;exact hf
      ·exact hok.out p hp (by omega)
     clear hf;go_wp2_with (with_reducible refine a0t a0r (by omega) (by assumption) ?_)
     refine hll.mono ?_;rintro ee w5 ⟨hE5,rfl⟩;clear k00;go_wp2_with fail
     go_roundw
     case rel=>exact⟨i+1,by go_num,by omega,hok2,hE.trans hE5⟩
     case measure=>simp[intOf];omega
   ·have hr:=hid (hyes.out fun p hp=>hok.out p hp (by rw[hn'.out]at hp;omega)).symm
    have hin:i=n:=by omega
    subst hin;go_wp2_with fail
    go_ret
    exact⟨hE,a0j hr.out⟩
 ·have hg:(6:Int)<(m.length:Int):=by omega
  have hr:Hid (false=a5e m):=hid (decide_eq_false fun h=>hl h.1).symm;clear hl;go_enter Tryz.func60,Tryz.ntmps60
  go_wp2_with fail
  go_ret
  exact⟨ExtX.refl _,a0j hr.out⟩
open Go.ChangeShapes Go.WideShapes Go.ChangeAt Go.Deep
section
variable {H:Type} {enc:TypeId×Value->H} {P:Program} {w:World} {base:Nat} {spare:Nat->Bool} {held:Bool}
end
end Go.Proofs.YtkddecjkfdogiaaGreat
namespace Go.Proofs.YtkddecjkfdogiaaGreat
open Go.RowKit Go.Rep Go.Lim Go.Lin
set_option maxRecDepth 100000 in
set_option maxHeartbeats 3200000 in
theorem b1L (X:Nat->Bool) (w:World) (u:Value) (uo:Option Addr) (uc:Nat) (x:Mat) (p:List Nat) (n c:Nat) (hX:HX X w) (hu:MV (mk X w) u x) (hus:Sl BlR 1 (mk X w) uo (usedL p c)) (hsh:Shp n c x) (hn:n<=96) (hc:c<=96) (hp:p.Pairwise (· < ·)) (hpc:∀j∈p,j<c):
  Calls Tryz.prog 102 #[u, .slice uo c uc] w (a1Z X w MC (pkL x p)):=by
 obtain⟨M,hM⟩:∃M,pkL x p=M:=⟨_,rfl⟩;have hMl:Hid (M.length=n):=hid (by rw[<-hM,a6Z];exact hsh.1);have hMi:Hid (∀i (h1:i<x.length) (h:i<M.length),pkR x[i] (usedL p c) c=M[i]):=hid fun i h1 h=>by subst hM;rw[b1E hp hpc];simp[pkL]
 obtain⟨us,hus2⟩:∃us,usedL p c=us:=⟨_,rfl⟩;have husl:Hid (us.length=c):=hid (by rw[<-hus2];exact a1K p c);obtain⟨ua,uca,rfl,huca,hua⟩:=hu;have hhu:=hua.hd;have hxl:=hid hsh.1;have hrw:=hid hsh.2;rw[hus2]at hMi hus;have hhs:=hus.hd;rw[husl.out]at hhs;rw[hsh.1]at hhu huca |-;rw[hM];clear hM hus2 hsh hp hpc;go_enter Tryz.func102,Tryz.ntmps102
 go_wp2_with fail
 go_loopw [5,6] (fun ov iv wr=>∃(i:Nat) (oo:Option Addr) (co:Nat),iv= .int .i64 i/\ov= .slice oo i co/\i<=n/\OL RC 1 X w.heap.size 45 wr oo co (M.take i)/\Ext w wr) (fun _ iv _=>n - (intOf iv).toNat)
 case atStart=>exact⟨0,none,0,rfl,rfl,Nat.zero_le _,OL.nil _ _ _ _ _ _,ExtX.refl _⟩
 case round=>
  obtain⟨i,oo,co,rfl,rfl,hi,hO,hE⟩:=hrel;have hXr:HX X wr:=hX.ext hE;have hXu:HX (un X oo) wr:=hO.unX hXr;have hbase:=hE.size;by_cases hlt:i<n
  ·have hix:i<x.length:=by rw[hxl.out];exact hlt
   have hiM:i<M.length:=by rw[hMl.out];exact hlt
   have htk:=hid (a0L M i hiM);have hln:=hid (a0Y (l:=M) (i:=i) (by omega));have hsr:Sl RV 1 (mk (un X oo) wr) ua x:=hua.old RV.mono hE (fun j hj=>hO.ob_lt hj);obtain⟨a1,c1,hX1',hc1,hcl1,hq1⟩:=hsr.row i hix;have husr:Sl BlR 1 (mk (un X oo) wr) uo us:=hus.old BlR.mono hE (fun j hj=>hO.ob_lt hj);have hrl:=hrw.out x[i] (List.getElem_mem _);have hMi2:=hMi.out i hix hiM;obtain⟨r,hr⟩:∃r,x[i]=r:=⟨_,rfl⟩;rw[hr]at hc1 hcl1 hq1 hrl hMi2;have hrl':=hid hrl;rw[hrl]at hc1 hcl1;have hh1:Hd a1 c:=by have:=hq1.hd;rw[hrl]at this;exact this
   obtain⟨Mi,hMi3⟩:∃Mi,M[i]=Mi:=⟨_,rfl⟩;rw[hMi3]at htk hMi2;have hMi':=hid hMi2;clear hrl hr hMi2 hMi3 hsr;obtain⟨wo,hwo⟩:∃wo,wo=wr:=⟨_,rfl⟩;subst hwo;go_wp2_with fail
   go_loopw [7,8] (fun rv jv wx=>∃(j:Nat) (ro:Option Addr) (cr q:Nat),jv= .int .i64 j/\rv= .slice ro q cr/\j<=c/\q<=j/\Hid ((pkR r us j).length=q)/\OL QC 3 (un X oo) wo.heap.size 32 wx ro cr (pkR r us j)/\Ext wo wx) (fun _ jv _=>c - (intOf jv).toNat)
   case atStart=>exact⟨0,none,0,0,rfl,rfl,Nat.zero_le _,Nat.le_refl _,hid rfl,OL.nil _ _ _ _ _ _,ExtX.refl _⟩
   case round=>
    obtain⟨j,ro,cr,q,rfl,rfl,hj,hqj,hql,hL,hEx⟩:=hrel;have hXx:HX (un X oo) wr:=hXu.ext hEx;have hXz:HX (un (un X oo) ro) wr:=hL.unX hXx;by_cases hlj:j<c
    ·have hjr:j<r.length:=by rw[hrl'.out];exact hlj
     have hju:j<us.length:=by rw[husl.out];exact hlj
     have hbx:=hEx.size;have hq2:Sl QV 3 (mk (un (un X oo) ro) wr) a1 r:=hq1.old QV.mono hEx (fun k hk=>hL.ob_lt hk);have kb:=a1d ((husr.mono BlR.mono (a0p hEx)).bl j hju);have k00:=hc1.out noY wr hEx rfl;have hgd:Hid (us.getD j false=us[j]):=hid (by simp[List.getD_eq_getElem?_getD,hju]);have hgr:Hid (r.getD j 0=r[j]):=hid (by simp[List.getD_eq_getElem?_getD,hjr]);obtain⟨b,hb⟩:∃b,us[j]=b:=⟨_,rfl⟩;rw[hb]at kb hgd;have iu:∀W,(Instr.indexAt 61 (.slice uo c uc) (.int .i64 (j:Int))).run Tryz.prog W= .ok (.pointer (some (adr uo j))) W:=a0z a5S uo c uc .i64 j hhs (by omega) rfl;clear hb;cases b
     ·have hno:Hid (pkR r us (j+1)=pkR r us j):=hid (b3H hgd.out)
      go_wp2_with fail
      rw[<-hno.out]at hL hql;go_roundw
      case rel=>exact⟨j+1,ro,cr,q,by go_num,rfl,by omega,by omega,hql,hL,hEx⟩
      case measure=>simp[intOf];omega
     ·have hyes:Hid (pkR r us (j+1)=pkR r us j++[r[j]]):=hid (by rw[<-hgr.out];exact b1D hgd.out)
      obtain⟨L,hLe⟩:∃L,pkR r us j=L:=⟨_,rfl⟩;rw[hLe]at hL hyes hql;obtain⟨v,hv⟩:∃v,r[j]=v:=⟨_,rfl⟩;have hv':=hid hv;rw[hv]at hyes;clear hLe hv;go_wp2_with (first|(with_reducible refine a0t a0r (by omega) (by assumption) ?_)|(with_reducible refine a1N a0A (by omega) (by assumption) ?_)|((with_reducible show wpList _ _ _ (⟨_, .load 32 _,_,_,_,_⟩::_) _ _);refine a0J a0u j hq2 hjr rfl (by simp) QV.agg ?_;intro u5 hu5;obtain⟨s5,a5,n5,c5,d5,m5,e5,rfl⟩:=hu5.shape))
      rw[hv'.out]at hu5;refine(a3k (un (un X oo) ro) wr _ v hXz hu5).mono ?_;rintro ee w6 ⟨hE6,u6,rfl,hu6⟩;obtain⟨s6,a6,n6,c6,d6,k6,e6,rfl⟩:=hu6.shape;have hL6:=hL.ext0 QC.elem hE6;have hb6:=(hEx.trans hE6).size;clear k00 kb iu hu5;go_wp2_with (at_builtin;refine a0x (l:=L) a0A rfl QC.elem hb6 (hXx.ext hE6) q hql.out rfl rfl hL6 (.agg #[.bool s6, .slice a6 n6 c6, .slice d6 k6 e6]) v rfl hu6 (by omega) (by omega) ?_;intro ro2 cr2 w7 hL7 hE7 hor)
      have hE8:=(hEx.trans hE6).own hL6 (Nat.le_refl _) hE7;rw[<-hyes.out]at hL7;have hql2:Hid ((pkR r us (j+1)).length=q+1):=hid (by rw[hyes.out,List.length_append,hql.out];rfl);go_roundw
      case rel=>exact⟨j+1,ro2,cr2,q+1,by go_num,by go_num,by omega,by omega,hql2,hL7,hE8⟩
      case measure=>simp[intOf];omega
    ·have hjc:j=c:=by omega
     subst hjc;rw[hMi'.out]at hL hql;have hO6:=hO.ext0 RC.elem hEx;have hb6:=(hE.trans hEx).size;have hLs:=hL.sl QC.elem;have hLc:=hL.lenCap;rw[hql.out]at hLc;have hrow:RC (mk (un X oo) wr) (.slice ro q cr) Mi:=⟨ro,cr,by rw[hql.out],by rw[hql.out];exact hLc,hLs⟩;clear hLs;go_wp2_with (at_builtin;refine a0x (l:=M.take i) a0r rfl RC.elem hb6 (hXr.ext hEx) i hln.out rfl rfl hO6 (.slice ro q cr) Mi rfl hrow (by omega) (by omega) ?_;intro oo2 co2 w7 hO7 hE7 hor)
     have hE8:=(hE.trans hEx).own hO6 (Nat.le_refl _) hE7;rw[htk.out]at hO7;go_roundw
     case rel=>exact⟨i+1,oo2,co2,by go_num,by go_num,by omega,hO7,hE8⟩
     case measure=>simp[intOf];omega
  ·have hil:i=n:=by omega
   subst hil;rw[List.take_of_length_le (by rw[hMl.out];exact Nat.le_refl _)]at hO;have hOs:=hO.sl RC.elem;have hOc:=hO.lenCap;go_wp2_with fail
   go_ret
   exact⟨hE,_,rfl,oo,co,by rw[hMl.out];rfl,hOc,hOs⟩
end Go.Proofs.YtkddecjkfdogiaaGreat
namespace Go.Lin
theorem b5a {b:Mat} {n c j:Nat} {x:List Rat} (hx:x.length=n) (hT:j<(trL b n c).length) (h:j<(a2g (trL b n c) x).length):(a2g (trL b n c) x)[j]=a2x x (trL b n c)[j]:=by
 rw[a3F hT h];unfold a2x;rw[(a1t b n c).2 _ (List.getElem_mem _),hx,b0R]
end Go.Lin
namespace Go.Proofs.YtkddecjkfdogiaaGreat
open Go.RowKit Go.Rep Go.Lim Go.Lin
set_option maxRecDepth 100000 in
set_option maxHeartbeats 800000 in
theorem b5b (X:Nat->Bool) (w:World) (u v:Value) (a b:List (List Rat)) (k n c B:Nat) (hX:HX X w) (hu:MV (mk X w) u a) (hv:MV (mk X w) v b) (hfa:a0v a=true) (hfb:a0v b=true) (ha:a.length=k) (hb:b.length=n) (hca:colsL a=n) (hcb:colsL b=c) (hB:BM B a) (hB2:BM B b) (hB1:1<=B) (hBB:200*B<=68000000000):Calls Tryz.prog 103 #[u,v] w (b2E X w (a5u a b n c)):=by
 obtain⟨hsa,ha96,hna96,hposa,hza⟩:=a0w hfa;obtain⟨hsb,hb96,hcb96,hposb,hzb⟩:=a0w hfb;rw[ha,hca]at hsa;rw[ha]at ha96;rw[hb]at hb96;rw[hca]at hna96;rw[hcb]at hcb96;have hfo:=a3K QV.mono X w u a hu (by omega);rw[hfa]at hfo;have hfo2:=hid (fun w' (h:Ext w w')=>a3K QV.mono X w' v b (mkx MV.mono hv h) (by omega));rw[hfb]at hfo2;have hcol:=hid (fun w' (h:Ext w w')=>a3Q X w' u a (mkx MV.mono hu h));rw[hca]at hcol;have htr:=hid (fun w' (h:Ext w w')=>a4M X w' v b n c (hX.ext h) (mkx MV.mono hv h) hfb hb hcb);have htb:=hid (a4W (a9b (n:=n) (c:=c) (a6b hB2 hB1)));obtain⟨M,hM⟩:∃M,a5u a b n c=M:=⟨_,rfl⟩;have hMl:Hid (M.length=k):=hid (by rw[<-hM,a9h];exact ha);have hMr:Hid (∀i (hi:i<a.length) (h:i<M.length),M[i]=a2g (trL b n c) a[i]):=hid fun i hi h=>by subst hM;exact a5q hi h
 rw[hM];obtain⟨T,hT⟩:∃T,trL b n c=T:=⟨_,rfl⟩;have hTl:Hid (T.length=c):=hid (by rw[<-hT];exact(a1t b n c).1);have hTr:Hid (∀j (hj:j<T.length),T[j].length=n):=hid fun j hj=>by subst hT;exact(a1t b n c).2 _ (List.getElem_mem _)
 have hRj:Hid (∀x:List Rat,x.length=n->∀j (hj:j<T.length) (h:j<(a2g T x).length),(a2g T x)[j]=a2x x T[j]):=hid fun x hx j hj h=>by subst hT;exact b5a hx hj h
 rw[hT]at htr htb hMr;obtain⟨ua,uca,rfl,huca,hua⟩:=hu;obtain⟨va,vca,rfl,hvca,hva⟩:=hv;have hhu:=hua.hd;have hsa':=hid hsa;have hB':=hid hB;have haa:=hid ha;rw[ha]at huca hhu hfo hcol |-;rw[hb]at htr hvca hfo2 |-;have hne:((n:Int) !=(n:Int))=false:=a7j rfl;have hMl2:M.length<=k:=by rw[hMl.out];exact Nat.le_refl _
 have hMl3:k<=M.length:=by rw[hMl.out];exact Nat.le_refl _
 clear hfa hfb ha hb hca hcb hsa hsb hza hzb hposa hposb hva hB hB2 hM hT;go_enter Tryz.func103,Tryz.ntmps103
 go_wp2_with fail
 refine hfo.mono ?_;rintro e w1 ⟨hE1,rfl⟩;have h2:=hfo2.out w1 hE1;go_wp2_with fail
 refine h2.mono ?_;rintro e w2 ⟨hE2,rfl⟩;have hE12:=hE1.trans hE2;have h3:=hcol.out w2 hE12;go_wp2_with fail
 refine h3.mono ?_;rintro e w3 ⟨rfl,rfl⟩;have h4:=htr.out w3 hE12;go_wp2_with fail
 refine h4.mono ?_;rintro e w4 ⟨hE4,ut,rfl,ta,tc,rfl,htc,hta⟩;have hE04:=hE12.trans hE4;have hX4:=hX.ext hE04;have hua4:=hua.mono RV.mono (a0p hE04);have hht:=hta.hd;rw[hTl.out]at htc hht |-;clear hfo h2 h3 h4;go_wp2_with fail
 go_loopw [8,9] (fun o kk wr=>∃(i:Nat) (oo:Option Addr) (co:Nat),kk= .int .i64 i/\o= .slice oo i co/\i<=k/\OL RC 1 X w4.heap.size 45 wr oo co (M.take i)/\Ext w4 wr) (fun _ kk _=>k - (intOf kk).toNat)
 case atStart=>exact⟨0,none,0,rfl,rfl,Nat.zero_le _,OL.nil _ _ _ _ _ _,ExtX.refl _⟩
 case round=>
  obtain⟨i,oo,co,rfl,rfl,hi,hO,hE⟩:=hrel;have hXr:HX X wr:=hX4.ext hE;have hXu:HX (un X oo) wr:=hO.unX hXr;have hbase:=hE.size;by_cases hlt:i<k
  ·have him:i<a.length:=by rw[haa.out];exact hlt
   have hltM:i<M.length:=by omega
   have htk:=hid (a0L M i hltM);have hln:=hid (a0Y (l:=M) (i:=i) (by omega));have hrl:Hid (a[i].length=n):=hid (hsa'.out.2 a[i] (List.getElem_mem _));obtain⟨R,hR⟩:∃R,M[i]=R:=⟨_,rfl⟩;have hRd:=hMr.out i him hltM;rw[hR]at hRd htk;have hRl:Hid (R.length=c):=hid (by rw[hRd,a2J];exact hTl.out);have hRi:Hid (∀j (hj:j<T.length) (h:j<R.length),R[j]=a2x a[i] T[j]):=hid fun j hj h=>by subst hRd;exact hRj.out _ hrl.out j hj h
   have hRl2:R.length<=c:=by rw[hRl.out];exact Nat.le_refl _
   have hRl3:c<=R.length:=by rw[hRl.out];exact Nat.le_refl _
   clear hRd hR;obtain⟨wo,hwo⟩:∃wo,wo=wr:=⟨_,rfl⟩;subst hwo;go_wp2_with fail
   go_loopw [10,11] (fun o cc wx=>∃(j:Nat) (ro:Option Addr) (cr:Nat),cc= .int .i64 j/\o= .slice ro j cr/\j<=c/\OL QC 3 (un X oo) wo.heap.size 32 wx ro cr (R.take j)/\Ext wo wx) (fun _ cc _=>c - (intOf cc).toNat)
   case atStart=>exact⟨0,none,0,rfl,rfl,Nat.zero_le _,OL.nil _ _ _ _ _ _,ExtX.refl _⟩
   case round=>
    obtain⟨j,ro,cr,rfl,rfl,hj,hOr,hEr⟩:=hrel;have hXx:HX (un X oo) wr:=hXu.ext hEr;have hXy:HX (un (un X oo) ro) wr:=hOr.unX hXx;have hbr:=hEr.size;by_cases hlj:j<c
    ·have hjT:j<T.length:=by rw[hTl.out];exact hlj
     have hljR:j<R.length:=by omega
     have htj:=hid (a0L R j hljR);have hlnj:=hid (a0Y (l:=R) (i:=j) (by omega));have hge:=hRi.out j hjT hljR;rw[hge]at htj;have hsr:Sl RV 1 (mk (un (un X oo) ro) wr) ua a:=(hua4.old RV.mono hE (fun j hj=>hO.ob_lt hj)).old RV.mono hEr (fun j hj=>hOr.ob_lt hj);have hst:Sl RC 1 (mk (un (un X oo) ro) wr) ta T:=(hta.old RC.mono hE (fun j hj=>hO.ob_lt hj)).old RC.mono hEr (fun j hj=>hOr.ob_lt hj);obtain⟨a1,c1,hX1,hc1,hcl1,hq1⟩:=hsr.row i him;obtain⟨a2,c2,hX2,hc2,hcl2,hq2⟩:=hst.row j hjT;have htl2:=hid (hTr.out j hjT);have hBi:=hB'.out a[i] (List.getElem_mem _);have hBt:=htb.out T[j] (List.getElem_mem _);have hdb:=a1w hBi hBt hB1 (by rw[hrl.out];exact hna96) hBB;have hq2v:=hq2.qv (fun q hq=>Nat.le_trans (hBt q hq) (by omega));have hEd:Ext wr wr.drew:=(ExtX.refl wr).drew;have hdot:=a4J (un (un X oo) ro) wr.drew _ _ a[i] T[j] hXy ⟨a1,c1,rfl,hcl1,hq1⟩ ⟨a2,c2,rfl,hcl2,hq2v⟩ (by rw[hrl.out];omega) (by rw[hrl.out,htl2.out]) hdb.1 hdb.2;obtain⟨v,hv⟩:∃v,a2x a[i] T[j]=v:=⟨_,rfl⟩;rw[hv]at hdot htj;rw[hrl.out,htl2.out]at hdot;have hob1:ob ro (adr ua i).block=false:=(a0S hX1).2;have hob2:ob ro (adr ta j).block=false:=(a0S hX2).2;rw[hrl.out]at hc1;rw[htl2.out]at hc2;have hS:Hid (∀Y W',ExtX Y wr.drew W'->Y (adr ua i).block=false->Y (adr ta j).block=false->W'.cell? (adr ua i)=some (.slice a1 n c1)/\W'.cell? (adr ta j)=some (.slice a2 n c2)):=hid fun Y W' h hg hb=>⟨hc1.out Y W' ((ExtX.of hEd).trans h) hg,hc2.out Y W' ((ExtX.of hEd).trans h) hb⟩;obtain⟨k00,k10⟩:=hS.out noY wr.drew (ExtX.refl _) rfl rfl;have i1:∀W,(Instr.indexAt 25 (.slice ua k uca) (.int .i64 (i:Int))).run Tryz.prog W= .ok (.pointer (some (adr ua i))) W:=a0z a0r ua k uca .i64 i hhu (by omega) rfl;have i2:∀W,(Instr.indexAt 25 (.slice ta c tc) (.int .i64 (j:Int))).run Tryz.prog W= .ok (.pointer (some (adr ta j))) W:=a0z a0r ta c tc .i64 j hht (by omega) rfl;clear hv hc1 hc2 hge hdb hq1 hq2 hq2v;go_wp2_with fail
     go_region_held3 (fun w'=>w'.cell? (adr ua i)=some (.slice a1 n c1)/\w'.cell? (adr ta j)=some (.slice a2 n c2))
      (first|exact hS.out noY _ t1 rfl rfl|exact hS.out noY _ (ExtX.alloc t1 _) rfl rfl|exact hS.out (ob ro) _ ((ExtX.of t1).trans hE7) hob1 hob2|go_keep)
      (first|(go_at_call 42;(with_reducible refine hdot.mono ?_);rintro ee w6 ⟨t1,u6,rfl,hu6⟩;obtain⟨s6,a6,n6,c6,d6,k6,e6,rfl⟩:=hu6.shape;have hO6:=hOr.ext0 QC.elem (hEd.trans t1);have hb6:=(hEd.trans t1).size;have hX6:=hXx.ext (hEd.trans t1))|(refine a1B (l:=R.take j) rfl (by rfl) a0A rfl QC.elem (by omega) hX6 j hlnj.out rfl rfl hO6 (.agg #[.bool s6, .slice a6 n6 c6, .slice d6 k6 e6]) v rfl hu6 (by omega) (by omega) ?_;intro oo2 co2 w7 hO7 hE7 hor))
     have hE8:=(hEr.trans (hEd.trans t1)).own hO6 (Nat.le_refl _) hE7;rw[htj.out]at hO7;clear k00 k10 i1 i2;go_wp2_with fail
     go_roundw
     case rel=>exact⟨j+1,oo2,co2,by go_num,by go_num,by omega,hO7,hE8⟩
     case measure=>simp[intOf];omega
    ·have hjc:j=c:=by omega
     subst hjc;rw[List.take_of_length_le (by omega)]at hOr;have hcr:=hOr.lenCap;have hsR:=hOr.sl QC.elem;have hO6:=hO.ext0 RC.elem hEr;have hRC:RC (mk (un X oo) wr) (.slice ro j cr) R:=⟨ro,cr,by rw[hRl.out],hcr,hsR⟩;go_wp2_with (at_builtin;refine a0x (l:=M.take i) a0r rfl RC.elem (by omega) (hXr.ext hEr) i hln.out rfl rfl hO6 (.slice ro j cr) R rfl hRC (by omega) (by omega) ?_;intro oo2 co2 w7 hO7 hE7 hor)
     have hE8:=(hE.trans hEr).own hO6 (Nat.le_refl _) hE7;rw[htk.out]at hO7;go_roundw
     case rel=>exact⟨i+1,oo2,co2,by go_num,by go_num,by omega,hO7,hE8⟩
     case measure=>simp[intOf];omega
  ·have hil:i=k:=by omega
   subst hil;rw[List.take_of_length_le (by omega)]at hO;have hc:=hO.lenCap;have hs:=hO.sl RC.elem;go_wp2_with fail
   go_ret2
   exact⟨hE04.trans hE,_,rfl,oo,co,by rw[hMl.out];rfl,hc,hs⟩
end Go.Proofs.YtkddecjkfdogiaaGreat
namespace Go.Lin
open Go.Lim
theorem b1M {m:Mat} {n i:Nat} (h:i<(a1e m n).length) (hi:i<m.length):(a1e m n)[i]=m[i]++(List.range n).map fun j=>if i=j then 1 else 0:=by
 have hin:i<n:=by simpa[a1e]using h
 simp only[a1e,List.getElem_map,List.getElem_range];rw[a2U hi]
 congr 1
 refine List.ext_getElem (by simp) fun j h1 h2=>?_;rw[List.getElem_set,List.getElem_map,List.getElem_range,List.getElem_replicate]
theorem a8A {m:Mat} {n:Nat} (hs:Shp n n m):colsL (a1e m n)=2*n:=a7O (a1g hs) (by omega)
theorem b6R {m:Mat} {n:Nat} (hn:n<=4) (hs:Shp n n m):a3R m n↔a7V m n=0:=by rw[b1w hn hs];exact a9l hn hs
end Go.Lin
namespace Go.Proofs.YtkddecjkfdogiaaGreat
open Go.RowKit Go.Rep Go.Lim Go.Lin
def b6S (X:Nat->Bool) (w:World) (l:List Rat) (e:Ending) (w':World):Prop:=Ext w w'/\∃oo co,e= .returned (.slice oo l.length co)/\OL QC 3 X w.heap.size 32 w' oo co l
set_option maxRecDepth 100000 in
theorem a8B (X:Nat->Bool) (w:World) (u:Value) (l:List Rat) (hX:HX X w) (hu:RV (mk X w) u l) (hl:l.length<=1000000):Calls Tryz.prog 203 #[u] w (b6S X w l):=by
 obtain⟨ao,ca,rfl,hca,hsa⟩:=hu;have hha:=hsa.hd;go_enter Tryz.func203,Tryz.ntmps203
 go_wp2_with fail
 go_loopw [3,4] (fun o c wr=>∃(i:Nat) (oo:Option Addr) (co:Nat),c= .int .i64 i/\o= .slice oo i co/\i<=l.length/\OL QC 3 X w.heap.size 32 wr oo co (l.take i)/\Ext w wr) (fun _ c _=>l.length - (intOf c).toNat)
 case atStart=>exact⟨0,none,0,rfl,rfl,Nat.zero_le _,OL.nil _ _ _ _ _ _,ExtX.refl _⟩
 case round=>
  obtain⟨i,oo,co,rfl,rfl,hi,hO,hE⟩:=hrel;have hXr:HX X wr:=hX.ext hE;have hXu:HX (un X oo) wr:=hO.unX hXr;have hbase:=hE.size;by_cases hlt:i<l.length
  ·have hsr:Sl QV 3 (mk (un X oo) wr) ao l:=hsa.old QV.mono hE (fun j hj=>hO.ob_lt hj)
   have htk:=hid (a0L l i hlt);have hln:=hid (a0Y hi);go_wp2_with (first|(with_reducible refine a1N a0A (by omega) (by assumption) ?_)|((with_reducible show wpList _ _ _ (⟨_, .load _ _,_,_,_,_⟩::_) _ _);refine a0J a0u i hsr hlt rfl (by simp) QV.agg ?_;intro u5 hu5;obtain⟨s5,a5,n5,c5,d5,k5,e5,rfl⟩:=hu5.shape))
   refine(a3k (un X oo) wr _ _ hXu hu5).mono ?_;rintro e w6 ⟨hE6,u6,rfl,hu6⟩;obtain⟨s6,a6,n6,c6,d6,k6,e6,rfl⟩:=hu6.shape;have hO6:=hO.ext0 QC.elem hE6;have hb6:=hE6.size;go_wp2_with (at_builtin;refine a0x (l:=l.take i) a0A rfl QC.elem (by omega) (hXr.ext hE6) i hln.out rfl rfl hO6 (.agg #[.bool s6, .slice a6 n6 c6, .slice d6 k6 e6]) l[i] rfl hu6 (by omega) (by omega) ?_;intro oo2 co2 w7 hO7 hE7 hor)
   have hE8:=(hE.trans hE6).own hO6 (Nat.le_refl _) hE7;rw[htk.out]at hO7;go_roundw
   case rel=>exact⟨i+1,oo2,co2,by go_num,by go_num,by omega,hO7,hE8⟩
   case measure=>simp[intOf];omega
  ·have hil:i=l.length:=by omega
   subst hil;rw[List.take_length]at hO;go_wp2_with fail
   go_ret
   exact⟨hE,oo,co,rfl,hO⟩
set_option maxRecDepth 100000 in
set_option maxHeartbeats 800000 in
theorem a8C (X:Nat->Bool) (w:World) (u:Value) (m:List (List Rat)) (n:Nat) (hX:HX X w) (hu:MV (mk X w) u m) (hsh:Shp n n m) (hn:n<=96):Calls Tryz.prog 175 #[u] w (a1Z X w MC (a1e m n)):=by
 obtain⟨M,hM⟩:∃M,a1e m n=M:=⟨_,rfl⟩;have hMl:Hid (M.length=n):=hid (by rw[<-hM];simp[a1e]);have hMr:Hid (∀i (hi:i<m.length) (h:i<M.length),M[i]=m[i]++(List.range n).map fun j=>if i=j then 1 else 0):=hid fun i hi h=>by subst hM;exact b1M h hi
 have hMl2:M.length<=n:=by rw[hMl.out];exact Nat.le_refl _
 have hMl3:n<=M.length:=by rw[hMl.out];exact Nat.le_refl _
 rw[hM];have hsh':=hid hsh;have hnn:=hid hsh.1;obtain⟨ua,uca,rfl,huca,hua⟩:=hu;have hhu:=hua.hd;rw[hnn.out]at huca hhu |-;clear hM hsh;go_enter Tryz.func175,Tryz.ntmps175
 go_wp2_with fail
 go_loopw [3,4] (fun o cc wr=>∃(i:Nat) (oo:Option Addr) (co:Nat),cc= .int .i64 i/\o= .slice oo i co/\i<=n/\OL RC 1 X w.heap.size 45 wr oo co (M.take i)/\Ext w wr) (fun _ cc _=>n - (intOf cc).toNat)
 case atStart=>exact⟨0,none,0,rfl,rfl,Nat.zero_le _,OL.nil _ _ _ _ _ _,ExtX.refl _⟩
 case round=>
  obtain⟨i,oo,co,rfl,rfl,hi,hO,hE⟩:=hrel;have hXr:HX X wr:=hX.ext hE;have hXu:HX (un X oo) wr:=hO.unX hXr;have hbase:=hE.size;by_cases hlt:i<n
  ·have him:i<m.length:=by rw[hnn.out];exact hlt
   have hltM:i<M.length:=by omega
   have htk:=hid (a0L M i hltM);have hln:=hid (a0Y (l:=M) (i:=i) (by omega));have hrl:Hid (m[i].length=n):=hid (hsh'.out.2 m[i] (List.getElem_mem _));have hsr:Sl RV 1 (mk (un X oo) wr) ua m:=hua.old RV.mono hE (fun j hj=>hO.ob_lt hj);obtain⟨a1,c1,hX1,hc1,hcl1,hq1⟩:=hsr.row i him;have k00:=hc1.out noY wr (ExtX.refl _) rfl;have htl:=a8B (un X oo) wr (.slice a1 m[i].length c1) m[i] hXu ⟨a1,c1,rfl,hcl1,hq1⟩ (by rw[hrl.out];omega);obtain⟨R,hR⟩:∃R,M[i]=R:=⟨_,rfl⟩;have hRd:=hMr.out i him hltM;rw[hR]at hRd htk;obtain⟨x,hx⟩:∃x,m[i]=x:=⟨_,rfl⟩;rw[hx]at hrl htl hRd k00;have hRl:Hid (R.length=n+n):=hid (by rw[hRd,List.length_append,hrl.out];simp);have hRt:Hid (R.take n=x):=hid (by rw[hRd,List.take_append_of_le_length (by rw[hrl.out];exact Nat.le_refl _),List.take_of_length_le (by rw[hrl.out];exact Nat.le_refl _)]);have hRi:Hid (∀j (hj:j<n) (h:n+j<R.length),R[n+j]=if i=j then 1 else 0):=hid fun j hj h=>by
    subst hRd;rw[List.getElem_append_right (by rw[hrl.out];omega)];simp[hrl.out]
   have hRl2:R.length<=n+n:=by rw[hRl.out];exact Nat.le_refl _
   have hRl3:n+n<=R.length:=by rw[hRl.out];exact Nat.le_refl _
   rw[hrl.out]at k00 htl;clear hRd hR hx hc1 hq1 hcl1;obtain⟨wo,hwo⟩:∃wo,wo=wr:=⟨_,rfl⟩;subst hwo;go_wp2_with (with_reducible refine a0t a0r (by omega) (by assumption) ?_)
   refine htl.mono ?_;rintro e w5 ⟨hE5,ro0,cr0,rfl,hOr0⟩;rw[hrl.out];rw[<-hRt.out]at hOr0;have hOr1:OL QC 3 (un X oo) wo.heap.size 32 w5 ro0 cr0 (R.take (n+0)):=hOr0;clear k00 htl hOr0;go_wp2_with fail
   go_loopw [5,6] (fun o cc wx=>∃(j:Nat) (ro:Option Addr) (cr k:Nat),cc= .int .i64 j/\o= .slice ro k cr/\k=n+j/\j<=n/\OL QC 3 (un X oo) wo.heap.size 32 wx ro cr (R.take (n+j))/\Ext wo wx) (fun _ cc _=>n - (intOf cc).toNat)
   case atStart=>exact⟨0,ro0,cr0,n,rfl,rfl,rfl,Nat.zero_le _,hOr1,hE5⟩
   case round=>
    clear hOr1;obtain⟨j,ro,cr,k,rfl,rfl,hkj,hj,hOr,hEr⟩:=hrel;have hXx:HX (un X oo) wr:=hXu.ext hEr;have hXy:HX (un (un X oo) ro) wr:=hOr.unX hXx;have hbr:=hEr.size;by_cases hlj:j<n
    ·have hljR:n+j<R.length:=by omega
     have htj:=hid (a0L R (n+j) hljR);have hlnj:=hid (a0Y (l:=R) (i:=n+j) (by omega));have hRj:=hRi.out j hlj hljR;rw[hRj]at htj;have hkj':=hid hkj;by_cases hij:i=j
     ·have hb:((i:Int)==(j:Int))=true:=a5Y (by omega)
      have hv1:(((1:Int):Rat))=if i=j then 1 else 0:=by rw[if_pos hij];rfl
      rw[<-hv1]at htj;clear hRj hij hv1 hkj;go_wp2_with fail
      refine(a3W (un (un X oo) ro) wr 1 hXy (by decide) (by decide)).mono ?_;rintro e w6 ⟨hE6,u6,rfl,hu6⟩;obtain⟨s6,a6,n6,c6,d6,k6,e6,rfl⟩:=hu6.shape;have hO6:=hOr.ext0 QC.elem hE6;have hb6:=hE6.size;go_wp2_with (at_builtin;refine a0x (l:=R.take (n+j)) a0A rfl QC.elem (by omega) (hXx.ext hE6) k (by rw[hlnj.out,hkj'.out]) rfl rfl hO6 (.agg #[.bool s6, .slice a6 n6 c6, .slice d6 k6 e6]) _ rfl hu6 (by have:=hkj'.out;omega) (by have:=hkj'.out;omega) ?_;intro oo2 co2 w7 hO7 hE7 hor)
      have hE8:=(hEr.trans hE6).own hO6 (Nat.le_refl _) hE7;rw[htj.out]at hO7;go_roundw
      case rel=>exact⟨j+1,oo2,co2,k+1,by go_num,by go_num,by have:=hkj'.out;omega,by omega,hO7,hE8⟩
      case measure=>simp[intOf];omega
     ·have hb:((i:Int)==(j:Int))=false:=a2X (by omega)
      have hv1:(((0:Int):Rat))=if i=j then 1 else 0:=by rw[if_neg hij];rfl
      rw[<-hv1]at htj;clear hRj hij hv1 hkj;go_wp2_with fail
      refine(a3W (un (un X oo) ro) wr 0 hXy (by decide) (by decide)).mono ?_;rintro e w6 ⟨hE6,u6,rfl,hu6⟩;obtain⟨s6,a6,n6,c6,d6,k6,e6,rfl⟩:=hu6.shape;have hO6:=hOr.ext0 QC.elem hE6;have hb6:=hE6.size;go_wp2_with (at_builtin;refine a0x (l:=R.take (n+j)) a0A rfl QC.elem (by omega) (hXx.ext hE6) k (by rw[hlnj.out,hkj'.out]) rfl rfl hO6 (.agg #[.bool s6, .slice a6 n6 c6, .slice d6 k6 e6]) _ rfl hu6 (by have:=hkj'.out;omega) (by have:=hkj'.out;omega) ?_;intro oo2 co2 w7 hO7 hE7 hor)
      have hE8:=(hEr.trans hE6).own hO6 (Nat.le_refl _) hE7;rw[htj.out]at hO7;go_roundw
      case rel=>exact⟨j+1,oo2,co2,k+1,by go_num,by go_num,by have:=hkj'.out;omega,by omega,hO7,hE8⟩
      case measure=>simp[intOf];omega
    ·have hjc:j=n:=by omega
     subst hjc;rw[List.take_of_length_le (by omega)]at hOr;have hcr:=hOr.lenCap;have hsR:=hOr.sl QC.elem;have hO6:=hO.ext0 RC.elem hEr;have hkl:Hid (R.length=k):=hid (by rw[hRl.out,hkj]);have hRC:RC (mk (un X oo) wr) (.slice ro k cr) R:=⟨ro,cr,by rw[hkl.out],hcr,hsR⟩;clear hkj;go_wp2_with (at_builtin;refine a0x (l:=M.take i) a0r rfl RC.elem (by omega) (hXr.ext hEr) i hln.out rfl rfl hO6 (.slice ro k cr) R rfl hRC (by omega) (by omega) ?_;intro oo2 co2 w7 hO7 hE7 hor)
     have hE8:=(hE.trans hEr).own hO6 (Nat.le_refl _) hE7;rw[htk.out]at hO7;go_roundw
     case rel=>exact⟨i+1,oo2,co2,by go_num,by go_num,by omega,hO7,hE8⟩
     case measure=>simp[intOf];omega
  ·have hil:i=n:=by omega
   subst hil;rw[List.take_of_length_le (by omega)]at hO;have hc:=hO.lenCap;have hs:=hO.sl RC.elem;go_wp2_with fail
   go_ret
   exact⟨hE,_,rfl,oo,co,by rw[hMl.out];rfl,hc,hs⟩
end Go.Proofs.YtkddecjkfdogiaaGreat
namespace Go.Lin
open Go.Lim
theorem b5c {m:Mat} {n:Nat} (hT:a6e m n):hq (a7V m n)<=68719476736:=by
 obtain⟨B,h1,h2⟩:=hT;have h3:=(h2 n (Nat.le_refl _)).2;unfold a7V;split
 ·rw[a0Z];decide
 ·omega
theorem b3f (m:Mat) (n:Nat):(a2l m n).length=(a0K (a1e m n) (2*n)).1.length:=by simp[a2l]
theorem b3g (m:Mat) (n i:Nat) (h:i<(a2l m n).length) (hi:i<(a0K (a1e m n) (2*n)).1.length):(a2l m n)[i]=(a0K (a1e m n) (2*n)).1[i].drop n:=by simp[a2l]
end Go.Lin
namespace Go.Proofs.YtkddecjkfdogiaaGreat
open Go.RowKit Go.Rep Go.Lim Go.Lin
def b1N (X:Nat->Bool) (w:World) (m:List (List Rat)) (n:Nat) (e:Ending) (w':World):Prop:=Ext w w'/\((a7V m n=0/\e= .returned (.tuple #[.slice none 0 0, .int .i64 7]))\/(a7V m n≠0/\∃u,e= .returned (.tuple #[u, .int .i64 0])/\MC (mk X w') u (a2l m n)))
set_option maxRecDepth 100000 in
set_option maxHeartbeats 800000 in
theorem a8D (X:Nat->Bool) (w:World) (u:Value) (m:List (List Rat)) (n:Nat) (hX:HX X w) (hu:MV (mk X w) u m) (hf:a0v m=true) (hnn:m.length=n) (hcc:colsL m=n) (hTd:a6e m n) (hT:a6e (a1e m n) (2*n)) (hB:BM 68719476736 (a1e m n)):Calls Tryz.prog 104 #[u] w (b1N X w m n):=by
 obtain⟨hsh,h96,hc96,_,_⟩:=a0w hf;rw[hnn,hcc]at hsh;rw[hnn]at h96;have hdet:=b4M X w u m n hX hu hf hnn hcc hTd;have hdq:=hid (b5c hTd);have hbe:=hid (fun w' (h:Ext w w')=>a8C X w' u m n (hX.ext h) (mkx MV.mono hu h) hsh h96);have hWs:=a1g hsh;have hWr:=hid (a8S hWs).1;have hIl:=hid (b3f m n);have hIr:=hid (b3g m n);have hre:=hid (fun w' (h:Ext w w') (v:Value) (hv:MC (mk X w') v (a1e m n))=>a4h X w' v (a1e m n) n (2*n) (hX.ext h) (hv.mv hB) hWs (a8A hsh) (by omega) (by omega) hT);have hRok:=hid (a5t hWs (2*n)).shp;rw[<-hWr.out]at hRok;obtain⟨D,hD⟩:∃D,a7V m n=D:=⟨_,rfl⟩;rw[hD]at hdet hdq;have hD':=hid hD;obtain⟨ua,uca,rfl,huca,hua⟩:=hu;rw[hnn]at hdet hbe |-;clear hf hnn hcc hsh hWs hD hua;by_cases h0:D=0
 ·have hs0:(D.num.sign==(0:Int))=true:=by rw[h0];rfl
  have hr:Hid (a7V m n=0):=hid (hD'.out.trans h0);clear h0;go_enter Tryz.func104,Tryz.ntmps104
  go_wp2_with fail
  refine hdet.mono ?_;rintro e w1 ⟨hE1,u1,rfl,hu1⟩;obtain⟨s1,a1,n1,c1,d1,k1,e1,rfl⟩:=hu1.shape;have bx:=Bx.new w1 #[.bool false, .slice none 0 0, .slice none 0 0] 32;go_wp2_with ((with_reducible show wpList _ _ _ (⟨_, .store _ _ _,_,_,_,_⟩::_) _ _);refine a0b a0u rfl rfl bx rfl rfl (a2B _ _ _ _ _ _ _) ?_;intro w3 r1 r2;have k0:=r1.cell 0 rfl;have k1':=r1.cell 1 rfl;have k2':=r1.cell 2 rfl)
  have hE3:Ext w1 w3:=ExtX.box ((ExtX.refl w1).alloc _) r2 (Nat.le_refl _);have hE03:=hE1.trans hE3;refine(a9e X w3 _ D (hX.ext hE03) ((mkx QC.mono hu1 hE3).qv hdq.out)).mono ?_;rintro e w4 ⟨hE4,rfl⟩;clear k0 k1' k2';go_wp2_with fail
  go_ret2
  exact⟨hE03.trans hE4, .inl ⟨hr.out,rfl⟩⟩
 ·have hs0:(D.num.sign==(0:Int))=false:=a2X (by intro h;exact h0 (Rat.num_eq_zero.1 (Int.sign_eq_zero_iff_zero.1 h)))
  have hr:Hid (a7V m n≠0):=hid (by rw[hD'.out];exact h0);clear h0;obtain⟨I,hI⟩:∃I,a2l m n=I:=⟨_,rfl⟩;rw[hI]at hIl hIr;have hI':=hid hI;obtain⟨S,hS⟩:∃S,rN (a1e m n) (2*n)=S:=⟨_,rfl⟩;rw[hS]at hre hWr;obtain⟨R,P,f⟩:=S
  dsimp only at hWr
  obtain⟨R9,hR9⟩:∃R9,(a0K (a1e m n) (2*n)).1=R9:=⟨_,rfl⟩;rw[hR9]at hIl hIr hRok hWr;obtain rfl:R9=R:=hWr.out;have hRl:Hid (R9.length=n):=hid hRok.out.1;have hIln:Hid (I.length=n):=hid (by rw[hIl.out];exact hRl.out);have hIl2:I.length<=n:=by rw[hIln.out];exact Nat.le_refl _
  have hIl3:n<=I.length:=by rw[hIln.out];exact Nat.le_refl _
  clear hI hS hR9 hIl;go_enter Tryz.func104,Tryz.ntmps104
  go_wp2_with fail
  refine hdet.mono ?_;rintro e w1 ⟨hE1,u1,rfl,hu1⟩;obtain⟨s1,a1,n1,c1,d1,k1,e1,rfl⟩:=hu1.shape;have bx:=Bx.new w1 #[.bool false, .slice none 0 0, .slice none 0 0] 32;go_wp2_with ((with_reducible show wpList _ _ _ (⟨_, .store _ _ _,_,_,_,_⟩::_) _ _);refine a0b a0u rfl rfl bx rfl rfl (a2B _ _ _ _ _ _ _) ?_;intro w3 r1 r2;have k0:=r1.cell 0 rfl;have k1':=r1.cell 1 rfl;have k2':=r1.cell 2 rfl)
  have hE3:Ext w1 w3:=ExtX.box ((ExtX.refl w1).alloc _) r2 (Nat.le_refl _);have hE03:=hE1.trans hE3;refine(a9e X w3 _ D (hX.ext hE03) ((mkx QC.mono hu1 hE3).qv hdq.out)).mono ?_;rintro e w4 ⟨hE4,rfl⟩;have hE04:=hE03.trans hE4;have h4:=hbe.out w4 hE04;clear k0 k1' k2' bx hdet hu1 r1;go_wp2_with fail
  refine h4.mono ?_;rintro e w5 ⟨hE5,ub,rfl,hub⟩;have hE05:=hE04.trans hE5;have h5:=hre.out w5 hE05 ub hub;clear h4;go_wp2_with fail
  refine h5.mono ?_;rintro e w6 ⟨hE6,ro,rco,po,pc,uf,rfl,hrco,hpc,hso,hsp,huf⟩
  dsimp only at hrco hso |-
  obtain⟨s2,a2,n2,c2,d2,k2,e2,rfl⟩:=huf.shape;have bx2:=Bx.new w6 #[.bool false, .slice none 0 0, .slice none 0 0] 32;have hhr:=hso.hd;rw[hRl.out]at hrco hhr |-;clear h5 hsp huf;go_wp2_with ((with_reducible show wpList _ _ _ (⟨_, .store _ _ _,_,_,_,_⟩::_) _ _);refine a0b a0u rfl rfl bx2 rfl rfl (a2B _ _ _ _ _ _ _) ?_;intro w7 r3 r4)
  have hE7:Ext w6 w7:=ExtX.box ((ExtX.refl w6).alloc _) r4 (Nat.le_refl _);have hE07:=hE05.trans (hE6.trans hE7);have hso7:=hso.mono RC.mono (a0p hE7);clear hso bx2 r3;go_loopw [9,10] (fun o cc wr=>∃(i:Nat) (oo:Option Addr) (co:Nat),cc= .int .i64 i/\o= .slice oo i co/\i<=n/\OL RC 1 X w7.heap.size 45 wr oo co (I.take i)/\Ext w7 wr) (fun _ cc _=>n - (intOf cc).toNat)
  case atStart=>exact⟨0,none,0,rfl,rfl,Nat.zero_le _,OL.nil _ _ _ _ _ _,ExtX.refl _⟩
  case round=>
   obtain⟨i,oo,co,rfl,rfl,hi,hO,hE⟩:=hrel;have hXr:HX X wr:=(hX.ext hE07).ext hE;have hbase:=hE.size;by_cases hlt:i<n
   ·have hiR:i<R9.length:=by rw[hRl.out];exact hlt
    have hiI:i<I.length:=by omega
    have htk:=hid (a0L I i hiI);have hln:=hid (a0Y (l:=I) (i:=i) (by omega));have hsr:Sl RC 1 (mk (un X oo) wr) ro R9:=hso7.old RC.mono hE (fun j hj=>hO.ob_lt hj);obtain⟨a1,c1,hX1,hc1,hcl1,hq1⟩:=hsr.row i hiR;have k00:=hc1.out noY wr (ExtX.refl _) rfl;have hge:=hIr.out i hiI hiR;rw[hge]at htk;have hxl:Hid (n<=R9[i].length):=hid (by rw[hRok.out.2 _ (List.getElem_mem _)];omega);obtain⟨x,hx⟩:∃x,R9[i]=x:=⟨_,rfl⟩;rw[hx]at k00 hcl1 hq1 htk hxl;have hxl2:=hxl.out;clear hc1 hx hge;go_wp2_with (first|(with_reducible refine a0t a0r (by omega) (by assumption) ?_)|((with_reducible show wpList _ _ _ (⟨_, .slice _ _ _ _ _,_,_,_,_⟩::_) _ _);refine b3L a0A n rfl rfl rfl hq1 hxl2 hcl1 ?_;intro ao3 hs3;have hRC:RC (mk (un X oo) wr) (.slice ao3 (x.length - n) (c1 - n)) (x.drop n):=⟨ao3,c1 - n,by rw[List.length_drop],by rw[List.length_drop];omega,hs3⟩)|(at_builtin;refine a0x (l:=I.take i) a0r rfl RC.elem (by omega) hXr i hln.out rfl rfl hO (.slice ao3 (x.length - n) (c1 - n)) (x.drop n) rfl hRC (by omega) (by omega) ?_;intro oo2 co2 w8 hO8 hE8 hor))
    clear k00;have hE9:=hE.own hO (Nat.le_refl _) hE8;rw[htk.out]at hO8;go_roundw
    case rel=>exact⟨i+1,oo2,co2,by go_num,by go_num,by omega,hO8,hE9⟩
    case measure=>simp[intOf];omega
   ·have hil:i=n:=by omega
    subst hil;rw[List.take_of_length_le (by omega)]at hO;have hc:=hO.lenCap;have hs:=hO.sl RC.elem;go_wp2_with fail
    go_ret2
    exact⟨hE07.trans hE, .inr ⟨hr.out, .slice oo i co,rfl,by rw[hI'.out];exact⟨oo,co,by rw[hIln.out],hc,hs⟩⟩⟩
end Go.Proofs.YtkddecjkfdogiaaGreat
