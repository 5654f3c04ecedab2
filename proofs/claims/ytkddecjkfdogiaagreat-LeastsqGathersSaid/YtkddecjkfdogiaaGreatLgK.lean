/- leastsq: formed, with its closure; reference 13: formed. Conditions: lengths far below any machine's. matrix: dot. Conditions: few numbers of at most 2^36 digits. matrix: Rank, Det. Conditions: few rows and columns, numbers of few digits. copy into a row that a call has made itself. Conditions: none. matrix: Inverse. Conditions: few rows, numbers of few digits. matrix: Solve. Conditions: few rows, numbers of few digits. leastsq: FromMoments. Conditions: at most four columns, numbers of few digits. reference 06: Dot. Conditions: few numbers of at most 2^36 digits. leastsq: residuals; reference 13: residuals. Conditions: few rows and columns, numbers of few digits. -/
import Derived.Test.YtkddecjkfdogiaaGreatLgJ
namespace Go.Lin
def a2e (m:Mom):Bool:=decide (0<=m.n/\m.n<=1099511627776)&&(a0x m.xx&&decide (m.xx.length=colsL m.xx/\m.xx.length=m.xy.length/\m.xy.length<=12))
def a7P (l:Mat) (k:Nat):Bool:=l.any fun r=>decide (r.length≠k)
theorem a9L {l:Mat} (h:a0x l=true):a7P l l.length=false↔l.length=colsL l:=by
 obtain⟨hs,_,_,_,hz⟩:=a0A h;unfold a7P;rw[List.any_eq_false];constructor
 ·intro h1
  by_cases h0:l.length=0
  ·rw[h0,hz h0]
  ·have:=h1 l[0] (List.getElem_mem (by omega))
   rw[hs.2 _ (List.getElem_mem _)]at this;have h2:colsL l=l.length:=by simpa using this
   exact h2.symm
 ·intro h1 r hr
  rw[hs.2 r hr];simp[h1.symm]
def IxF (l:Mat) (k:Nat) (r:Int):Prop:=decide ((0:Int)<=r)=a7P l k
end Go.Lin
namespace Go.Proofs.YtkddecjkfdogiaaGreat
open Go.RowKit Go.Rep Go.Lim Go.Lin
theorem b2C (w:World) (a:Option Addr) (n c k b:Nat) (xo:Option Addr) (xc:Nat) (hb:w.cell? ⟨b,1,none⟩=some (.slice xo k xc)):
  Calls Tryz.prog 195 #[.slice a n c, .pointer (some ⟨b,0,none⟩)] w (fun e w'=>w'=w/\e= .returned (.bool (decide (n≠k)))):=by
 by_cases h:n=k
 ·have hd:((n:Int) !=(k:Int))=false:=a6d (by omega)
  have hr:=hid (decide_eq_false (fun h2=>h2 h):decide (n≠k)=false);rw[hr.out];clear h;go_enter Tryz.func195,Tryz.ntmps195
  go_wp2_with fail
  go_ret
  exact⟨rfl,rfl⟩
 ·have hd:((n:Int) !=(k:Int))=true:=a6y (by omega)
  have hr:=hid (decide_eq_true h:decide (n≠k)=true);rw[hr.out];clear h;go_enter Tryz.func195,Tryz.ntmps195
  go_wp2_with fail
  go_ret
  exact⟨rfl,rfl⟩
set_option maxRecDepth 100000 in
theorem a9M {R:Mem->Value->Rat->Prop} (X:Nat->Bool) (w:World) (a:Option Addr) (l:List (List Rat)) (n c k b:Nat) (xo:Option Addr) (xc:Nat) (hs:Sl (SlV R 3) 1 (mk X w) a l) (hl:l.length=n) (hn:n<=1000000) (hb:w.cell? ⟨b,1,none⟩=some (.slice xo k xc)):
  Calls Tryz.prog 243 #[.slice a n c, .func (.func 195) #[] #[.pointer (some ⟨b,0,none⟩)]] w (fun e w'=>w'=w/\∃r:Int,e= .returned (.int .i64 r)/\IxF l k r):=by
 have hh:Hd a n:=by have:=hs.hd;rw[hl]at this;exact this
 have hl':=hid hl;clear hl;go_enter Tryz.func243,Tryz.ntmps243
 go_wp2_with fail
 go_loopw [8] (fun q wr=>∃(i:Nat),q= .int .i64 i/\i<=n/\Hid (∀q (hq:q<l.length),q<i->l[q].length=k)/\wr=w) (fun q _=>n - (intOf q).toNat)
 case atStart=>exact⟨0,rfl,Nat.zero_le _,hid (fun q hq h=>by omega),rfl⟩
 case round=>
  obtain⟨i,rfl,hi,hok,rfl⟩:=hrel;by_cases hlt:i<n
  ·have hil:i<l.length:=by rw[hl'.out];exact hlt
   obtain⟨a1,c1,hX1,hc1,hcl1,hq1⟩:=hs.row i hil;have k00:=hc1.out noY wr (ExtX.refl _) rfl;have hcall:=b2C wr a1 l[i].length c1 k b xo xc hb;by_cases h0:l[i].length=k
   ·have hd:Hid (decide (l[i].length≠k)=false):=hid (decide_eq_false (fun h=>h h0))
    rw[hd.out]at hcall;have hok2:Hid (∀q (hq:q<l.length),q<i+1->l[q].length=k):=hid fun q hq hqi=>by
     by_cases e:q=i
     ·subst e;exact h0
     ·exact hok.out q hq (by omega)
    obtain⟨y,hy⟩:∃y,l[i].length=y:=⟨_,rfl⟩;rw[hy]at k00 hcall;clear h0 hc1 hq1 hcl1 hy;go_wp2_with (with_reducible refine a0t a0s (by omega) (by assumption) ?_)
    refine hcall.mono ?_;rintro e w5 ⟨rfl,rfl⟩;clear k00;go_wp2_with fail
    go_roundw
    case rel=>exact⟨i+1,by go_num,by omega,hok2,trivial⟩
    case measure=>simp[intOf];omega
   ·have hd:Hid (decide (l[i].length≠k)=true):=hid (decide_eq_true h0)
    rw[hd.out]at hcall;have hf:IxF l k (i:Int):=by
     unfold IxF a7P;rw[decide_eq_true (by omega)];symm;rw[List.any_eq_true];exact⟨l[i],List.getElem_mem _,by simpa using h0⟩
    obtain⟨y,hy⟩:∃y,l[i].length=y:=⟨_,rfl⟩;rw[hy]at k00 hcall;clear h0 hc1 hq1 hcl1 hy;go_wp2_with (with_reducible refine a0t a0s (by omega) (by assumption) ?_)
    refine hcall.mono ?_;rintro e w5 ⟨rfl,rfl⟩;clear k00;go_wp2_with fail
    go_ret
    exact⟨rfl,_,rfl,hf⟩
  ·have hf:IxF l k (-1):=by
    unfold IxF a7P;rw[decide_eq_false (by omega)];symm;rw[List.any_eq_false];intro r hr;obtain⟨q,hq,rfl⟩:=List.getElem_of_mem hr;simp[hok.out q hq (by rw[hl'.out]at hq;omega)]
   go_wp2_with fail
   go_ret
   exact⟨rfl,_,rfl,hf⟩
set_option maxRecDepth 100000 in
theorem a6Y {R:Mem->Value->Rat->Prop} (X:Nat->Bool) (w:World) (a:Option Addr) (l:List (List Rat)) (n c k b:Nat) (xo:Option Addr) (xc:Nat) (hs:Sl (SlV R 3) 1 (mk X w) a l) (hl:l.length=n) (hn:n<=1000000) (hb:w.cell? ⟨b,1,none⟩=some (.slice xo k xc)):
  Calls Tryz.prog 194 #[.slice a n c, .func (.func 195) #[] #[.pointer (some ⟨b,0,none⟩)]] w (fun e w'=>w'=w/\e= .returned (.bool (a7P l k))):=by
 have h0:=a9M X w a l n c k b xo xc hs hl hn hb;unfold IxF at h0;obtain⟨q,hq⟩:∃q,a7P l k=q:=⟨_,rfl⟩;rw[hq]at h0 |-;clear hq;go_enter Tryz.func194,Tryz.ntmps194
 go_wp2_with fail
 refine h0.mono ?_;rintro e w1 ⟨rfl,r,rfl,hr0⟩;have hr:=hid hr0.symm;clear h0 hr0;go_wp2_with fail
 go_ret
 exact⟨rfl,a0h hr.out.symm⟩
set_option maxRecDepth 100000 in
set_option maxHeartbeats 1600000 in
theorem a4g (X:Nat->Bool) (w:World) (u:Value) (m:Mom) (hX:HX X w) (hu:a5g (mk X w) u m) (hl:m.xx.length<=1000000):
  Calls Tryz.prog 129 #[u] w (a6M w (a2e m)):=by
 obtain⟨xo,xl,xc,yo,yl,yc,s,a,n,c,d,k,e,rfl,hx,hy,hq⟩:=hu;obtain⟨W,hW,hE,b0,hz⟩:=a1q w #[.int .i64 m.n, .slice xo xl xc, .slice yo yl yc, .bool s, .slice a n c, .slice d k e] 83;have hXW:HX X W:=hX.ext hE;have hxW:=mkx MV.mono hx hE;have hval:Hid (∀b,b=(decide (0<=m.n/\m.n<=1099511627776)&&(a0x m.xx&&decide (m.xx.length=colsL m.xx/\m.xx.length=m.xy.length/\m.xy.length<=12)))->b=a2e m):=hid fun b h=>h;obtain⟨xo',xc',he,hxc,hxs⟩:=hxW;simp only[Value.slice.injEq]at he;obtain⟨rfl,rfl,rfl⟩:=he;obtain⟨yo',yc',he,hyc,hys⟩:=hy;simp only[Value.slice.injEq]at he;obtain⟨rfl,rfl,rfl⟩:=he;have hxW:MV (mk X W) (.slice xo m.xx.length xc) m.xx:=⟨xo,xc,rfl,hxc,hxs⟩;obtain⟨b,hb⟩:∃b,w.heap.size=b:=⟨_,rfl⟩;rw[hb]at b0 hz;obtain⟨N,hN⟩:∃N,m.n=N:=⟨_,rfl⟩;obtain⟨M,hM⟩:∃M,a2e m=M:=⟨_,rfl⟩;rw[hN]at b0 hval hW |-;rw[hM]at hval |-;obtain⟨x,hxe⟩:∃x,m.xx=x:=⟨_,rfl⟩;rw[hxe]at b0 hval hW hxW hxs hl |-;obtain⟨L,hL⟩:∃L,m.xy.length=L:=⟨_,rfl⟩;rw[hL]at b0 hval hW |-;obtain⟨q,hqe⟩:∃q,x.length=q:=⟨_,rfl⟩;have hq':=hid hqe;have hcn:=hid fun w' (h:Ext W w')=>a6Y (R:=QV) X w' xo x q xc q b xo xc (hxs.mono RV.mono (a0p h)) hqe (by omega) ((b0.ext0 h).cell 1 (by rw[hqe];rfl));have htr:=a2o X W (.slice xo x.length xc) x q (colsL x) hXW hxW;have htn:=a5f X W (.slice xo x.length xc) x hxW (by omega);have hac:=hid fun(h:a0x x=true)=>a9L h;rw[hqe]at b0 hval hW htr htn hl hac |-;obtain⟨B,hB⟩:∃B,a7P x q=B:=⟨_,rfl⟩;rw[hB]at hcn hac;obtain⟨C,hC⟩:∃C,colsL x=C:=⟨_,rfl⟩;rw[hC]at htr hval hac;clear hx hN hM hxe hL hqe hB hC hxs hxW hys hyc hxc hq;have k0:=b0.cell 0 rfl;have k1:=b0.cell 1 rfl;have k2:=b0.cell 2 rfl;cases hf:a0x x
 ·have htn2:=htn hf
  clear htr htn hcn hac;by_cases hn0:0<=N
  ·by_cases hn1:N<=1099511627776
   ·have hr:=hid (hval.out false (by rw[hf,Bool.false_and,Bool.and_false]))
    clear hval hf;go_enter Tryz.func129,Tryz.ntmps129
    go_wp2_with fail
    refine htn2.mono ?_;rintro e w1 ⟨rfl,rfl⟩;have hE1:Ext w w1:=hE;go_wp2_with fail
    go_ret
    exact⟨hE1,a0h hr.out⟩
   ·have hr:=hid (hval.out false (by rw[hf,Bool.false_and,Bool.and_false]))
    clear hval hf;go_enter Tryz.func129,Tryz.ntmps129
    go_wp2_with fail
    refine htn2.mono ?_;rintro e w1 ⟨rfl,rfl⟩;have hE1:Ext w w1:=hE;go_wp2_with fail
    go_ret
    exact⟨hE1,a0h hr.out⟩
  ·have hr:=hid (hval.out false (by rw[hf,Bool.false_and,Bool.and_false]))
   clear hval hf;go_enter Tryz.func129,Tryz.ntmps129
   go_wp2_with fail
   refine htn2.mono ?_;rintro e w1 ⟨rfl,rfl⟩;have hE1:Ext w w1:=hE;go_wp2_with fail
   go_ret
   exact⟨hE1,a0h hr.out⟩
 ·have htr2:=htr hf rfl rfl
  have hac2:=hac.out hf;clear htr hac;by_cases hlen:q=L
  ·cases B
   ·have hyes:=hac2.1 rfl
    clear hac2;by_cases hn0:0<=N
    ·by_cases hn1:N<=1099511627776
     ·by_cases hL12:L<=12
      ·have hr:=hid (hval.out true (by rw[hf,decide_eq_true ⟨hn0,hn1⟩,decide_eq_true ⟨hyes,hlen,hL12⟩];rfl))
       have hlt:((q:Int)==(L:Int))=true:=a6e (by omega);have hL2:(L:Int)<=12:=by omega
       clear hval hf htn hlen hyes;go_enter Tryz.func129,Tryz.ntmps129
       go_wp2_with fail
       refine htr2.mono ?_;rintro e w1 ⟨hE1',tv,rfl,_⟩;have hE1:Ext w w1:=hE.trans hE1';have b1:=b0.ext0 hE1';have j0:=b1.cell 0 rfl;have j1:=b1.cell 1 rfl;have j2:=b1.cell 2 rfl;have hc1:=hcn.out w1 hE1';go_wp2_with fail
       refine hc1.mono ?_;rintro e w2 ⟨rfl,rfl⟩;go_wp2_with fail
       go_ret
       exact⟨hE1,a0h hr.out⟩
      ·have hr:=hid (hval.out false (by rw[show decide (q=C/\q=L/\L<=12)=false from decide_eq_false (fun h=>hL12 h.2.2),Bool.and_false,Bool.and_false]))
       have hlt:((q:Int)==(L:Int))=true:=a6e (by omega);have hL2:¬(L:Int)<=12:=by omega
       clear hval hf htn hlen hyes;go_enter Tryz.func129,Tryz.ntmps129
       go_wp2_with fail
       refine htr2.mono ?_;rintro e w1 ⟨hE1',tv,rfl,_⟩;have hE1:Ext w w1:=hE.trans hE1';have b1:=b0.ext0 hE1';have j0:=b1.cell 0 rfl;have j1:=b1.cell 1 rfl;have j2:=b1.cell 2 rfl;have hc1:=hcn.out w1 hE1';go_wp2_with fail
       refine hc1.mono ?_;rintro e w2 ⟨rfl,rfl⟩;go_wp2_with fail
       go_ret
       exact⟨hE1,a0h (by rw[decide_eq_false (by omega)];exact hr.out)⟩
     ·have hr:=hid (hval.out false (by rw[decide_eq_false (fun h=>hn1 h.2),Bool.false_and]))
      have hlt:((q:Int)==(L:Int))=true:=a6e (by omega);clear hval hf htn hlen hyes;go_enter Tryz.func129,Tryz.ntmps129
      go_wp2_with fail
      refine htr2.mono ?_;rintro e w1 ⟨hE1',tv,rfl,_⟩;have hE1:Ext w w1:=hE.trans hE1';have b1:=b0.ext0 hE1';have j0:=b1.cell 0 rfl;have j1:=b1.cell 1 rfl;have j2:=b1.cell 2 rfl;have hc1:=hcn.out w1 hE1';go_wp2_with fail
      refine hc1.mono ?_;rintro e w2 ⟨rfl,rfl⟩;go_wp2_with fail
      go_ret
      exact⟨hE1,a0h hr.out⟩
    ·have hr:=hid (hval.out false (by rw[decide_eq_false (fun h=>hn0 h.1),Bool.false_and]))
     have hlt:((q:Int)==(L:Int))=true:=a6e (by omega);clear hval hf htn hlen hyes;go_enter Tryz.func129,Tryz.ntmps129
     go_wp2_with fail
     refine htr2.mono ?_;rintro e w1 ⟨hE1',tv,rfl,_⟩;have hE1:Ext w w1:=hE.trans hE1';have b1:=b0.ext0 hE1';have j0:=b1.cell 0 rfl;have j1:=b1.cell 1 rfl;have j2:=b1.cell 2 rfl;have hc1:=hcn.out w1 hE1';go_wp2_with fail
     refine hc1.mono ?_;rintro e w2 ⟨rfl,rfl⟩;go_wp2_with fail
     go_ret
     exact⟨hE1,a0h hr.out⟩
   ·have hno:¬q=C:=fun h=>by have:=hac2.2 h;cases this
    clear hac2;by_cases hn0:0<=N
    ·by_cases hn1:N<=1099511627776
     ·have hr:=hid (hval.out false (by rw[show decide (q=C/\q=L/\L<=12)=false from decide_eq_false (fun h=>hno h.1),Bool.and_false,Bool.and_false]))
      have hlt:((q:Int)==(L:Int))=true:=a6e (by omega);clear hval hf htn hlen hno;go_enter Tryz.func129,Tryz.ntmps129
      go_wp2_with fail
      refine htr2.mono ?_;rintro e w1 ⟨hE1',tv,rfl,_⟩;have hE1:Ext w w1:=hE.trans hE1';have b1:=b0.ext0 hE1';have j0:=b1.cell 0 rfl;have j1:=b1.cell 1 rfl;have j2:=b1.cell 2 rfl;have hc1:=hcn.out w1 hE1';go_wp2_with fail
      refine hc1.mono ?_;rintro e w2 ⟨rfl,rfl⟩;go_wp2_with fail
      go_ret
      exact⟨hE1,a0h hr.out⟩
     ·have hr:=hid (hval.out false (by rw[show decide (q=C/\q=L/\L<=12)=false from decide_eq_false (fun h=>hno h.1),Bool.and_false,Bool.and_false]))
      have hlt:((q:Int)==(L:Int))=true:=a6e (by omega);clear hval hf htn hlen hno;go_enter Tryz.func129,Tryz.ntmps129
      go_wp2_with fail
      refine htr2.mono ?_;rintro e w1 ⟨hE1',tv,rfl,_⟩;have hE1:Ext w w1:=hE.trans hE1';have b1:=b0.ext0 hE1';have j0:=b1.cell 0 rfl;have j1:=b1.cell 1 rfl;have j2:=b1.cell 2 rfl;have hc1:=hcn.out w1 hE1';go_wp2_with fail
      refine hc1.mono ?_;rintro e w2 ⟨rfl,rfl⟩;go_wp2_with fail
      go_ret
      exact⟨hE1,a0h hr.out⟩
    ·have hr:=hid (hval.out false (by rw[show decide (q=C/\q=L/\L<=12)=false from decide_eq_false (fun h=>hno h.1),Bool.and_false,Bool.and_false]))
     have hlt:((q:Int)==(L:Int))=true:=a6e (by omega);clear hval hf htn hlen hno;go_enter Tryz.func129,Tryz.ntmps129
     go_wp2_with fail
     refine htr2.mono ?_;rintro e w1 ⟨hE1',tv,rfl,_⟩;have hE1:Ext w w1:=hE.trans hE1';have b1:=b0.ext0 hE1';have j0:=b1.cell 0 rfl;have j1:=b1.cell 1 rfl;have j2:=b1.cell 2 rfl;have hc1:=hcn.out w1 hE1';go_wp2_with fail
     refine hc1.mono ?_;rintro e w2 ⟨rfl,rfl⟩;go_wp2_with fail
     go_ret
     exact⟨hE1,a0h hr.out⟩
  ·clear hcn hac2
   by_cases hn0:0<=N
   ·by_cases hn1:N<=1099511627776
    ·have hr:=hid (hval.out false (by rw[show decide (q=C/\q=L/\L<=12)=false from decide_eq_false (fun h=>hlen h.2.1),Bool.and_false,Bool.and_false]))
     have hlt:((q:Int)==(L:Int))=false:=a2V (by omega);clear hval hf htn hlen;go_enter Tryz.func129,Tryz.ntmps129
     go_wp2_with fail
     refine htr2.mono ?_;rintro e w1 ⟨hE1',tv,rfl,_⟩;have hE1:Ext w w1:=hE.trans hE1';have b1:=b0.ext0 hE1';have j0:=b1.cell 0 rfl;have j1:=b1.cell 1 rfl;have j2:=b1.cell 2 rfl;go_wp2_with fail
     go_ret
     exact⟨hE1,a0h hr.out⟩
    ·have hr:=hid (hval.out false (by rw[show decide (q=C/\q=L/\L<=12)=false from decide_eq_false (fun h=>hlen h.2.1),Bool.and_false,Bool.and_false]))
     have hlt:((q:Int)==(L:Int))=false:=a2V (by omega);clear hval hf htn hlen;go_enter Tryz.func129,Tryz.ntmps129
     go_wp2_with fail
     refine htr2.mono ?_;rintro e w1 ⟨hE1',tv,rfl,_⟩;have hE1:Ext w w1:=hE.trans hE1';have b1:=b0.ext0 hE1';have j0:=b1.cell 0 rfl;have j1:=b1.cell 1 rfl;have j2:=b1.cell 2 rfl;go_wp2_with fail
     go_ret
     exact⟨hE1,a0h hr.out⟩
   ·have hr:=hid (hval.out false (by rw[show decide (q=C/\q=L/\L<=12)=false from decide_eq_false (fun h=>hlen h.2.1),Bool.and_false,Bool.and_false]))
    have hlt:((q:Int)==(L:Int))=false:=a2V (by omega);clear hval hf htn hlen;go_enter Tryz.func129,Tryz.ntmps129
    go_wp2_with fail
    refine htr2.mono ?_;rintro e w1 ⟨hE1',tv,rfl,_⟩;have hE1:Ext w w1:=hE.trans hE1';have b1:=b0.ext0 hE1';have j0:=b1.cell 0 rfl;have j1:=b1.cell 1 rfl;have j2:=b1.cell 2 rfl;go_wp2_with fail
    go_ret
    exact⟨hE1,a0h hr.out⟩
set_option maxRecDepth 100000 in
set_option maxHeartbeats 1600000 in
theorem a5p (X:Nat->Bool) (w:World) (u v:Value) (l m:List Rat) (hX:HX X w) (hu:RV (mk X w) u l) (hv:RV (mk X w) v m) (hn:l.length<=1000000) (hml:m.length=l.length) (hb1:∀k,k<=l.length->hq (a3S l m k)<=68719476736) (hb2:∀k,k<l.length->hq (l.getD k 0*m.getD k 0)<=68719476736):
  Calls Tryz.prog 112 #[u,v] w (a1X X w QC (a2L l m)):=by
 obtain⟨ao,ca,rfl,hca,hsa⟩:=hu;obtain⟨bo,cb,rfl,hcb,hsb⟩:=hv;have hha:=hsa.hd;have hhb:=hsb.hd;obtain⟨W,hW,hE,b0,b1,hz⟩:=a1t w #[.bool false, .slice none 0 0, .slice none 0 0] #[.bool false, .slice none 0 0, .slice none 0 0] 32 32;have hXW:HX (a0g X w.heap.size 2) W:=hX.boxes hz;have h0:QC (mk (a0g X w.heap.size 2) W) (.agg #[.bool false, .slice none 0 0, .slice none 0 0]) (a3S l m 0):=QC.zero _;obtain⟨n,hln⟩:∃n,l.length=n:=⟨_,rfl⟩;rw[hln]at hn hml hb1 hb2 hca hha |-;rw[hml]at hcb hhb |-;have hln':=hid hln;have hml':=hid hml;have hb1':=hid hb1;have hb2':=hid hb2;have hdot:Hid (a3S l m n=a2L l m):=hid (by unfold a2L;rw[hln]);clear hln hml hb1 hb2;go_enter Tryz.func112,Tryz.ntmps112
 go_wp2_with fail
 obtain⟨b,hb⟩:∃b,w.heap.size=b:=⟨_,rfl⟩;have hle:Hid (∀wr,Ext w wr->Le (mk X w) (mk (a0g X b 2) wr)):=hid fun wr h=>by rw[<-hb];exact a0n h
 have hbw:w.heap.size<=b:=by omega
 rw[hb]at b0 b1 hXW h0 |-;clear hW;go_loopw [10] (fun k wr=>∃(i:Nat) (s:Bool) (a:Option Addr) (n' c':Nat) (d:Option Addr) (kk e:Nat),k= .int .i64 i/\i<=n/\Bx wr b #[.bool false, .slice none 0 0, .slice none 0 0] 32/\Bx wr (b+1) #[.bool s, .slice a n' c', .slice d kk e] 32/\QC (mk (a0g X b 2) wr) (.agg #[.bool s, .slice a n' c', .slice d kk e]) (a3S l m i)/\HX (a0g X b 2) wr/\Ext w wr) (fun k _=>n - (intOf k).toNat)
 case atStart=>exact⟨0,_,_,_,_,_,_,_,rfl,Nat.zero_le _,b0,b1,h0,hXW,hE⟩
 case round=>
  obtain⟨i,s,a,n',c',d,kk,e,rfl,hi,b0,b1,hq,hXr,hEr⟩:=hrel;by_cases hlt:i<n
  ·have hil:i<l.length:=by rw[hln'.out];exact hlt
   have him:i<m.length:=by rw[hml'.out];exact hlt
   have hsr:=hsa.mono QV.mono (hle.out wr hEr);have hsr2:=hsb.mono QV.mono (hle.out wr hEr);obtain⟨g2,o2,s2,p2,n2,q2,d2,k2,e2,hg2,hX2,hc2,hq2⟩:=hsr2.rat QV.shaped i him;have gl:Hid (l.getD i 0=l[i]):=hid (by simp[List.getD_eq_getElem?_getD,hil]);have gm:Hid (m.getD i 0=m[i]):=hid (by simp[List.getD_eq_getElem?_getD,him]);have hst:Hid (a3S l m i+l[i]*m[i]=a3S l m (i+1)):=hid (by rw[<-gl.out,<-gm.out];rfl);have hbo:=hid (hb1'.out i hi);have hbp:=hid (hb2'.out i hlt);rw[gl.out,gm.out]at hbp;obtain⟨x,hx⟩:∃x,l[i]=x:=⟨_,rfl⟩;obtain⟨y,hy⟩:∃y,m[i]=y:=⟨_,rfl⟩;rw[hx,hy]at hst hbp;rw[hy]at hq2;have hx':=hid hx;have i2:∀W,(Instr.indexAt 45 (.slice bo n cb) (.int .i64 (i:Int))).run Tryz.prog W= .ok (.pointer (some ⟨g2,o2,none⟩)) W:=by rw[<-hg2];exact a0j a0H bo n cb .i64 i hhb (by omega)
   have bx:=Bx.new wr #[.bool false, .slice none 0 0, .slice none 0 0] 32;obtain⟨D,hD⟩:∃D,a3S l m i=D:=⟨_,rfl⟩;obtain⟨D2,hD2⟩:∃D2,a3S l m (i+1)=D2:=⟨_,rfl⟩;rw[hD]at hq hst hbo;rw[hD2]at hst;have hD2':=hid hD2;clear hx hy hg2 hD hD2;go_wp2_with (first|(with_reducible refine a2l a0H (by omega) (by assumption) ?_)|((with_reducible show wpList _ _ _ (⟨_, .load 32 _,_,_,_,_⟩::_) _ _);refine a0U a0u i hsr hil rfl (by simp) QV.agg ?_;intro u5 hu5;rw[hx'.out]at hu5;obtain⟨s5,a5,n5,c5,d5,k5,e5,rfl⟩:=hu5.shape)|((with_reducible show wpList _ _ _ (⟨_, .store _ _ _,_,_,_,_⟩::_) _ _);refine a0b a0u rfl rfl bx rfl rfl (a2B _ _ _ _ _ _ _) ?_;intro w5 r1 r2))
   have hE5:Ext wr w5:=ExtX.box ((ExtX.refl wr).alloc _) r2 (Nat.le_refl _);have hEd:Ext w5 w5.drew:=(ExtX.refl w5).drew;have hE5d:=hE5.trans hEd;have b05:=b0.ext0 hE5d;have b15:=b1.ext0 hE5d;have r5:=r1.ext0 hEd;obtain⟨bw,hbw⟩:∃bw,wr.heap.size=bw:=⟨_,rfl⟩;rw[hbw]at r5;have k00:=b15.cell 0 rfl;have k01:=b15.cell 1 rfl;have k02:=b15.cell 2 rfl;have k10:=r5.cell 0 rfl;have k11:=r5.cell 1 rfl;have k12:=r5.cell 2 rfl;obtain⟨k20,k21,k22⟩:=hc2.out noY w5.drew hE5d rfl;have hXd:=hXr.ext hE5d;have hx5:QV (mk (a0g X b 2) w5.drew) (.agg #[.bool s5, .slice a5 n5 c5, .slice d5 k5 e5]) x:=mkx QV.mono hu5 hE5d;have hy5:QV (mk (a0g X b 2) w5.drew) (.agg #[.bool s2, .slice p2 n2 q2, .slice d2 k2 e2]) y:=mkx QV.mono hq2 hE5d;have hq5:QV (mk (a0g X b 2) w5.drew) (.agg #[.bool s, .slice a n' c', .slice d kk e]) D:=(mkx QC.mono hq hE5d).qv hbo.out;clear bx r1 hc2;rw[hbw];go_wp2_with fail
   go_region_with (first|(go_at_call 147;(with_reducible refine(b3k (a0g X b 2) w5.drew _ _ _ _ hXd hx5 hy5).mono ?_);rintro ee w6 ⟨t1,u6,rfl,hu6⟩;obtain⟨s6,a6,n6,c6,d6,k6,e6,rfl⟩:=hu6.shape;have hX6:=hXd.ext t1;have hq6:=mkx QV.mono hq5 t1;have hm6:=hu6.qv hbp.out;have b16:=b15.ext0 t1;have m0:=b16.cell 0 rfl;have m1:=b16.cell 1 rfl;have m2:=b16.cell 2 rfl)|(go_at_call 146;(with_reducible refine(b3j (a0g X b 2) w6 _ _ _ _ hX6 hq6 hm6).mono ?_);rintro ee w7 ⟨t7,u7,rfl,hu7⟩;obtain⟨s7,a7,n7,c7,d7,k7,e7,rfl⟩:=hu7.shape;rw[hst.out]at hu7;have b17:=b16.ext0 t7;have g0:=b17.cell 0 rfl;have g1:=b17.cell 1 rfl;have g2':=b17.cell 2 rfl;have f0:=b17.frozen 0;have f1:=b17.frozen 1;have f2:=b17.frozen 2))
   all_goals
    obtain⟨z1,z2⟩:=b17.set3 (.bool s7) (.slice a7 n7 c7) (.slice d7 k7 e7);have h8:=QC.mono _ _ _ _ (a0i (lo:=b) (nb:=2) z2 (by omega) (by omega)) hu7;have b08:=((b05.ext0 t1).ext0 t7).ext z2 (a0d (by omega));have hE8:Ext w _:=ExtX.box (hEr.trans (hE5d.trans (t1.trans t7))) z2 (by omega);have hX8:=(hX6.ext t7).ext z2;rw[<-hD2'.out]at h8;clear k00 k01 k02 k10 k11 k12 k20 k21 k22 m0 m1 m2 g0 g1 g2' f0 f1 f2 i2;go_wp2_with fail
    go_roundw
    case rel=>exact⟨i+1,_,_,_,_,_,_,_,by go_num,by omega,b08,z1,h8,hX8,hE8⟩
    case measure=>simp[intOf];omega
  ·have hin:i=n:=by omega
   subst hin;rw[hdot.out]at hq;have k00:=b1.cell 0 rfl;have k01:=b1.cell 1 rfl;have k02:=b1.cell 2 rfl;go_wp2_with ((with_reducible show wpList _ _ _ (⟨_, .store _ _ _,_,_,_,_⟩::_) _ _);refine a0b a0u rfl rfl b0 rfl rfl (a2B _ _ _ _ _ _ _) ?_;intro w7 r1 r2)
   have h7:=QC.mono _ _ _ _ a0k (QC.mono _ _ _ _ (a0i r2 (by omega) (by omega)) hq);exact bodyPost_ret (a0f rfl rfl a0u r1 rfl) rfl ⟨ExtX.box hEr r2 (by omega),_,rfl,h7⟩
theorem b4A (X:Nat->Bool) (w:World) (u:Value) (m:List (List Rat)) (hX:HX X w) (hu:MV (mk X w) u m) (hf:a0x m=true) (hT:b3E m (colsL m)):Calls Tryz.prog 131 #[u] w (fun e w'=>Ext w w'/\e= .returned (.tuple #[.int .i64 (a4N m (colsL m):Int), .int .i64 0])):=by
 obtain⟨hsh,h96,hc96,_,_⟩:=a0A hf;have hfo:=a1U X w u m hu (by omega);rw[hf]at hfo;have hco:=a2P X w u m m.length (colsL m) hX hu hsh rfl (by omega) (by omega);have hrv:Hid ((eN m (colsL m)).2.1.length=a4N m (colsL m)):=hid rfl;clear hf;go_enter Tryz.func131,Tryz.ntmps131
 go_wp2_with fail
 refine hfo.mono ?_;rintro e w1 ⟨rfl,rfl⟩;go_wp2_with fail
 refine hco.mono ?_;rintro e w2 ⟨hE2,ao,cap,hs,rfl,hM2⟩;go_wp2_with fail
 refine(a5G X _ w2 ao cap m.length (colsL m) hs m (hX.ext hE2) hM2 hsh rfl (by omega) (by omega) hT).mono ?_;rintro e w3 ⟨hE3,po,pc,hs',rfl,hmb,hM3,hP3⟩;have hEf:=hM2.ext_from hE2 (Nat.le_refl _) hE3;rw[hrv.out];go_wp2_with fail
 go_ret2
 exact⟨hEf,rfl⟩
end Go.Proofs.YtkddecjkfdogiaaGreat
namespace Go.Rep
open Go.RowKit Go.Lim
section
variable {P:Program} {ops:Array Oper} {Q:Exit->Act->World->Prop} {rest:List Oper} {a:Act} {w:World}
variable {α:Type} {R:Mem->Value->α->Prop} {sz:Nat} {X:Nat->Bool} {base:Nat} {e:TypeId} {ao:Option Addr} {cap:Nat} {l:List α}
variable {d:Option Tmp} {ty:TypeId} {ps:String} {af:Array Edge}
theorem OL.run_copy {t by_:Nat} {z:Value} (T:SliceT P t e sz by_ z) (hR:Elem R sz) (h:OL R sz X base e w ao cap l) (sa:Option Addr) (ca:Nat) (us':List Value) (xs:List α) (hat:At w sa us') (hlen:us'.length=xs.length)
  (hxs:∀i (hi:i<us'.length) (hi':i<xs.length),R (mk (un X ao) w) us'[i] xs[i]) (hk:xs.length<=l.length) (h0:0<xs.length) (ty:TypeId):
  ∃w',(Builtin.copy_ #[t,t] ty #[.slice ao l.length cap, .slice sa xs.length ca]).run P w= .ok (goInt xs.length) w'/\OL R sz X base e w' ao cap (xs++l.drop xs.length)/\ExtX (ob ao) w w':=by
 obtain⟨i,hi,hz,hsz,hby⟩:=info_parts T.info;have hus':∀u∈us',u.cells.size=sz:=by
  intro v hv;obtain⟨i,hi,rfl⟩:=List.getElem_of_mem hv;exact hR.size _ _ _ (hxs i hi (by omega))
 have hone':∀u∈us',∀c∈a0m u,c.oneCell'=true:=by
  intro v hv;obtain⟨i,hi,rfl⟩:=List.getElem_of_mem hv;exact hR.one _ _ _ (hxs i hi (by omega))
 have hone2:∀v∈us'.flatMap a0m,v.oneCell'=true:=by
  intro c hc;obtain⟨v,hv,hcv⟩:=List.mem_flatMap.1 hc;exact hone' v hv c hcv
 obtain⟨sb,so,rfl⟩:=hat.1 (by omega);have hnews:∀j u,(us'.flatMap a0m)[j]? =some u->w.cell? ((⟨sb,so,none⟩:Addr).add j)=some u:=by
  intro j u hj;rw[<-a8T rfl];exact hat.2 j u hj
 have hnl:(us'.flatMap a0m).length=xs.length*sz:=by rw[a0Q us' hus',hlen]
 have hform:=h.form;obtain⟨hx,us,h1,h2,h22,h3,h5⟩:=h;rcases hform with⟨rfl,rfl,rfl⟩|⟨g,cur,rfl,h6,h7,h8,h9,h10⟩
 ·simp at hk;subst hk;simp at h0
 have hfit:0+(us'.flatMap a0m).length<=cur.size:=by
  rw[Nat.zero_add,hnl,h10];exact Nat.mul_le_mul_right _ (by omega)
 have hld:=run_loadCells_list (P:=P) w ⟨sb,so,none⟩ (us'.flatMap a0m) hnews;have hst:=run_storeCells_at P g 0 e (us'.flatMap a0m) 0 cur w h7 (by simpa using hfit) hone2;have hE:ExtX (ob (some ⟨g,0,none⟩)) w (w.setRow g (cur.toList.take (0+0)++us'.flatMap a0m++cur.toList.drop (0+0+(us'.flatMap a0m).length)).toArray):=
  ⟨rfl,rfl,rfl,by simp,fun k _ hk=>setRow_other w g k _ (fun ek=>by subst ek;simp[ob]at hk)⟩
 have hmin:Nat.min xs.length l.length=xs.length:=Nat.min_eq_left hk;have hdl:∀u∈us'++us.drop xs.length,u.cells.size=sz:=by
  intro u hu;rcases List.mem_append.1 hu with hu|hu
  ·exact hus' u hu
  ·exact h2 u (List.mem_of_mem_drop hu)
 have hlen2:(us'++us.drop xs.length).length=(xs++l.drop xs.length).length:=by simp[hlen,h1]
 refine⟨_,?_,⟨hx,us'++us.drop xs.length,hlen2,hdl,?_,⟨?_, .inr ⟨g,cap,_,by simp,h6,setRow_heap w g cur _ e _ h7,by simp;omega,h9,?_,?_⟩⟩,?_⟩,hE⟩
 ·have hld2:(loadCells ⟨sb,so,none⟩ (xs.length*i.size)).run P w= .ok (us'.flatMap a0m).toArray w:=by rw[hsz,<-hnl];exact hld
  simp[Builtin.copy_,run_underlying T.und,Builtin.lenOf,Builtin.firstCells,sizeOf,typeInfo,hi,hmin,hld2,hst]
 ·intro u hu c hc
  rcases List.mem_append.1 hu with hu|hu
  ·exact hone' u hu c hc
  ·exact h22 u (List.mem_of_mem_drop hu) c hc
 ·rw[a0Q _ hdl,hlen2]
 ·simp only[List.size_toArray,List.length_append,List.length_take,List.length_drop,Array.length_toList,h10,Nat.add_zero,Nat.zero_add,hnl]
  have:=Nat.mul_le_mul_right sz (show xs.length<=cap by omega);omega
 ·rcases h3.2 with⟨hv,_⟩|⟨g',c',cur',hv,_,h7',_,_,_,h11⟩
  ·simp at hv
  simp at hv;obtain⟨rfl,rfl⟩:=hv;rw[h7]at h7';obtain rfl:cur=cur':=by simpa using h7'
  have hfu:us.flatMap a0m=(us.take xs.length).flatMap a0m++(us.drop xs.length).flatMap a0m:=by
   rw[<-List.flatMap_append,List.take_append_drop]
  have hft:((us.take xs.length).flatMap a0m).length=xs.length*sz:=by
   rw[a0Q _ (fun u hu=>h2 u (List.mem_of_mem_take hu))];simp[h1,Nat.min_eq_left hk]
  have hdr:(us.drop xs.length).flatMap a0m=(cur.toList.take (l.length*sz)).drop (xs.length*sz):=by
   rw[h11,hfu,<-hft,List.drop_left]
  rw[List.flatMap_append,hdr];simp only[Nat.zero_add,List.take_zero,List.nil_append,hnl,List.length_append,List.length_drop,Nat.add_sub_cancel' hk];rw[List.take_append,List.take_of_length_le (by rw[hnl];exact Nat.mul_le_mul_right _ hk),hnl,List.drop_take]
 ·intro j hj hj'
  have hle:Le (mk (un X (some ⟨g,0,none⟩)) w) (mk (un X (some ⟨g,0,none⟩)) _):=a4p hE (.inl rfl);by_cases hlt:j<us'.length
  ·simpa[List.getElem_append_left hlt,List.getElem_append_left (show j<xs.length by omega)]using hR.mono _ _ _ _ hle (hxs j hlt (by omega))
  ·have hj2:xs.length+(j - xs.length)<us.length:=by simp at hj;omega
   have:=hR.mono _ _ _ _ hle (h5 (xs.length+(j - xs.length)) hj2 (by omega));have e1:xs.length+(j - xs.length)=j:=by omega
   simpa[List.getElem_append_right (show us'.length<=j by omega),List.getElem_append_right (show xs.length<=j by omega),hlen,e1]using this
theorem a7Q {t by_:Nat} {z:Value} {s x:Operand} {sa:Option Addr} {ca n k:Nat} (T:SliceT P t e sz by_ z) (hR:Elem R sz) (xs:List α) (hs:a.eval s= .slice ao n cap) (hn:l.length=n) (hx:a.eval x= .slice sa k ca) (hkx:xs.length=k) (h:OL R sz X base e w ao cap l)
  (hxs:Sl R sz (mk (un X ao) w) sa xs) (hk:k<=n) (h0:0<k)
  (K:∀w',OL R sz X base e w' ao cap (xs++l.drop k)->ExtX (ob ao) w w'->wpList P ops Q rest (a.put d (.int .i64 (k:Int))) w'):
  wpList P ops Q (⟨d, .call {callee:= .builtin .copy,args:=#[s,x],argTypes:=#[t,t]},ty,ps,af,none⟩::rest) a w:=by
 refine wpList_plain rfl fun K' hK'=>?_;subst hn;subst hkx;obtain⟨us,h1,h2,h3⟩:=hxs.at_ hR;obtain⟨w',hr,h2,h3⟩:=h.run_copy (P:=P) T hR sa ca us xs h2 h1 h3 hk h0 ty;unfold Oper.wp execOp;simp only[resolve,invoke,builtin,Sem.run_bind,Sem.run_pure,Result.andThen_ok,List.map_toArray,List.map_cons,List.map_nil,hs,hx,hr];exact hK' _ _ (K w' h2 h3)
theorem a8t {o:Oper} {K:Act->World->Prop} {E:Prop} {t by_:Nat} {z:Value} {s x:Operand} {sa:Option Addr} {ca n k:Nat} (hg:o.guard=none) (hop:o.op=Op.call {callee:=Callee.builtin Builtin.copy,args:=#[s,x],argTypes:=#[t,t]}) (T:SliceT P t e sz by_ z) (hR:Elem R sz) (xs:List α) (hs:a.eval s= .slice ao n cap) (hn:l.length=n) (hx:a.eval x= .slice sa k ca) (hkx:xs.length=k) (h:OL R sz X base e w ao cap l)
  (hxs:Sl R sz (mk (un X ao) w) sa xs) (hk:k<=n) (h0:0<k)
  (hK:∀w',OL R sz X base e w' ao cap (xs++l.drop k)->ExtX (ob ao) w w'->K (a.put o.dst (.int .i64 (k:Int))) w'):
  if Region.wanted o (yielded ops a.tmps)=true then Oper.wp P o a w K Q else E:=by
 have hw:Region.wanted o (yielded ops a.tmps)=true:=by simp[Region.wanted,hg]
 rw[if_pos hw];subst hn;subst hkx;obtain⟨us,h1,h2,h3⟩:=hxs.at_ hR;obtain⟨w',hr,h2,h3⟩:=h.run_copy (P:=P) T hR sa ca us xs h2 h1 h3 hk h0 o.type;unfold Oper.wp execOp;rw[hop];simp only[resolve,invoke,builtin,Sem.run_bind,Sem.run_pure,Result.andThen_ok,List.map_toArray,List.map_cons,List.map_nil,hs,hx,hr];exact hK _ h2 h3
end
end Go.Rep
namespace Go.Lin
def b2D (r c:Nat):Mat:=List.replicate r (List.replicate c 0)
theorem a6Z (r c:Nat):(b2D r c).length=r:=List.length_replicate
theorem a7a {r c i:Nat} (h:i<(b2D r c).length):(b2D r c)[i]=List.replicate c 0:=List.getElem_replicate h
theorem a9N {x:List Rat} {n:Nat}:x++(List.replicate (2*n) (0:Rat)).drop n=x++List.replicate n 0:=by
 rw[List.drop_replicate,show 2*n - n=n by omega]
theorem b1j {x:List Rat} {n i:Nat} (h:x.length=n):(x++List.replicate n (0:Rat)).set (n+i) 1=x++(List.replicate n 0).set i 1:=by
 rw[List.set_append_right _ _ (by omega),h,show n+i - n=i by omega]
theorem b1k {m:Mat} {n i:Nat} (h:i<(a1K m n).length) (hi:i<m.length):(a1K m n)[i]=m[i]++(List.replicate n 0).set i 1:=by
 simp[a1K,hi,List.getD_eq_getElem?_getD]
theorem b2E {m:Mat} {n c:Nat} (h:Shp n c m) (hc:n=0->c=0):Go.Lin.colsL m=c:=by
 by_cases h0:n=0
 ·have:m= []:=List.eq_nil_of_length_eq_zero (by rw[h.1];exact h0)
  subst this;rw[hc h0];rfl
 ·exact b0L h (by omega)
end Go.Lin
namespace Go.Proofs.YtkddecjkfdogiaaGreat
open Go.RowKit Go.Rep Go.Lim Go.Lin
def b3r (X:Nat->Bool) (w:World) (m:List (List Rat)) (n:Nat) (e:Ending) (w':World):Prop:=Ext w w'/\((a4e m n/\e= .returned (.tuple #[.slice none 0 0, .int .i64 7]))\/(¬a4e m n/\∃u,e= .returned (.tuple #[u, .int .i64 0])/\MC (mk X w') u (a3I m n)))
set_option maxRecDepth 100000 in
set_option maxHeartbeats 1600000 in
theorem a9O (X:Nat->Bool) (w:World) (u:Value) (m:List (List Rat)) (n:Nat) (hX:HX X w) (hu:MV (mk X w) u m) (hf:a0x m=true) (hnn:m.length=n) (hcc:colsL m=n) (hT:b0a (a1K m n) (2*n)):Calls Tryz.prog 180 #[u] w (b3r X w m n):=by
 obtain⟨hsh,h96,hc96,_,_⟩:=a0A hf;rw[hnn,hcc]at hsh;rw[hnn]at h96;have hfo:=a1U X w u m hu (by omega);rw[hf]at hfo;have hcol:=a1O X w u m hu;rw[hcc]at hcol;have hsh':=hid hsh;have hnn':=hid hnn;have hcc':=hid hcc;have hWs:=hid (a1s hsh);have hTt:=hid hT;have hIs:=hid (a3f hsh);have hfull:=hid (a4R hsh);have hwg:Hid (∀i (h:i<(a1K m n).length) (hi:i<m.length),(a1K m n)[i]=m[i]++(List.replicate n 0).set i 1):=hid fun i h hi=>b1k h hi;have hWc:Hid (colsL (a1K m n)=2*n):=hid (b2E (a1s hsh) (by omega));have hsg:Hid (a4e m n↔0<n/\n<=(a1o (a1K m n) (2*n)).2.getD (n - 1) 0):=hid Iff.rfl;have hiv:Hid (a3I m n=(a1o (a1K m n) (2*n)).1.map (·.drop n)):=hid rfl;obtain⟨W,hW⟩:∃W,a1K m n=W:=⟨_,rfl⟩;rw[hW]at hWs hTt hfull hwg hWc hsg hiv;obtain⟨ua,uca,rfl,huca,hua⟩:=hu;have hu:MV (mk X w) (.slice ua m.length uca) m:=⟨ua,uca,rfl,huca,hua⟩;rw[hnn]at hfo hcol hu |-;have hw2:wrap64 (2*(n:Int))=((2*n:Nat):Int):=by rw[IntWalk.wrap64_in _ (by omega)];omega
 clear hf hnn hcc hsh huca hua hW hT;go_enter Tryz.func180,Tryz.ntmps180
 go_wp2_with fail
 refine hfo.mono ?_;rintro e w1 ⟨rfl,rfl⟩;go_wp2_with fail
 refine hcol.mono ?_;rintro e w2 ⟨rfl,rfl⟩;go_wp2_with fail
 refine(a4E X w2 n (2*n) hX (by omega) (by omega)).mono ?_;rintro e w3 ⟨hE3,ao,cap,hs,rfl,hM3⟩;rw[List.length_replicate];have hlen:Hid (hs.length=n):=hid (by rw[hM3.len];simp);have hhO:Hd ao n:=by have:=hM3.outer.hd;rw[hlen.out]at this;exact this
 have hX3:=hX.ext hE3;have hZ3:=hM3.hz hX3;have hu3:=hM3.old MV.mono hu hE3 (Nat.le_refl _) (fun _ _ h=>h);obtain⟨V,hV⟩:∃V,b2D n (2*n)=V:=⟨_,rfl⟩;have hVl:Hid (V.length=n):=hid (by rw[<-hV];exact a6Z _ _);have hVg:Hid (∀i (h:i<V.length),V[i]=List.replicate (2*n) 0):=hid fun i h=>by subst hV;exact a7a h
 have hWV:Hid (W.length=V.length):=hid (by rw[hVl.out];exact hWs.out.1)
 change MO X w2.heap.size _ _ w3 ao cap hs (b2D n (2*n))at hM3
 rw[hV,<-a3d W V]at hM3;have hco:=a2P (mz X ao hs) w3 _ m n n hZ3 hu3 hsh'.out hcc'.out (by omega) (by omega);clear hfo hcol hu hu3 hV;go_wp2_with fail
 refine hco.mono ?_;rintro e w4 ⟨hE4,bo,capb,hs4,rfl,hM4⟩;have hmc4:=hM4.mc;rw[hnn'.out]at hmc4 |-;have hM34:=hM3.ext0 hE4;have hE04:=hE3.trans hE4;obtain⟨ba,bca,heq,hbca,hsb⟩:=hmc4;simp only[Value.slice.injEq]at heq;obtain⟨rfl,hx9,rfl⟩:=heq;clear hx9;have hhb:=hsb.hd;rw[hnn'.out]at hhb;obtain⟨Z,hZe⟩:∃Z,mz X ao hs=Z:=⟨_,rfl⟩;have hZ':=hid hZe;rw[hZe]at hsb hZ3;clear hco hM3 hM4 hZe;go_wp2_with fail
 go_loopw [31] (fun k wr=>∃(i:Nat),k= .int .i64 i/\i<=n/\MO X w2.heap.size 45 32 wr ao cap hs (mix W V i)/\Sl RC 1 (mk Z wr) bo m/\Ext w2 wr) (fun k _=>n - (intOf k).toNat)
 case atStart=>exact⟨0,rfl,Nat.zero_le _,hM34,hsb,hE04⟩
 case round=>
  obtain⟨i,rfl,hi,hM,hsb,hE⟩:=hrel;by_cases hlt:i<n
  ·have him:i<m.length:=by rw[hnn'.out];exact hlt
   obtain⟨a1,c1,hX1,hc1,hcl1,hq1⟩:=hsb.row i him;have k00:=hc1.out noY wr (ExtX.refl _) rfl;have hxl:Hid (m[i].length=n):=hid (hsh'.out.2 _ (List.getElem_mem _));have hiV:i<V.length:=by rw[hVl.out];exact hlt
   have hiW:i<W.length:=by rw[hWV.out];exact hiV
   have hWi:=hid (hwg.out i hiW him);have hVi:=hid (hVg.out i hiV);obtain⟨x,hx⟩:∃x,m[i]=x:=⟨_,rfl⟩;rw[hx]at k00 hcl1 hq1 hxl hWi;rw[hxl.out]at k00 hcl1;have hh1:Hd a1 n:=by have:=hq1.hd;rw[hxl.out]at this;exact this
   have hih:i<hs.length:=by rw[hlen.out];exact hlt
   have hmi:i<(mix W V i).length:=by rw[a1P hWV.out];exact hiW
   have hmg:Hid ((mix W V i)[i]=List.replicate (2*n) 0):=hid (by rw[a1v hWV.out,if_neg (by omega)];exact hVi.out);have hms:Hid ((mix W V i).set i (x++(List.replicate n (0:Rat)).set i 1)=mix W V (i+1)):=hid (by rw[<-hWi.out];exact a4c hWV.out hiW);obtain⟨a,na,cr,hhd⟩:∃a na cr,hs[i]=(a,na,cr):=⟨_,_,_,rfl⟩;have hna:na=2*n:=by
    have:=hM.rlen i hih hmi;rw[hhd,hmg.out,List.length_replicate]at this;exact this
   have hR:=hM.row i hih hmi;rw[hmg.out]at hR;simp only[hhd]at hR;have hz1:=fun k (hk:ob a k=true)=>hM.mz_sub hih k (by rw[hhd];exact hk);have hsp:=fun k (hk:ob a k=true)=>hM.sep i hih k (by rw[hhd];exact hk);have hun:Hid (un (cut (mz X ao hs) a) a=Z):=hid (by rw[a3X hz1];exact hZ'.out);have hda:Hd a na:=by have:=hR.hd;rw[List.length_replicate,<-hna]at this;exact this
   have hna':=hid hna;have y1:wr.cell? (adr ao i)=some (.slice a na cr):=by
    have:=(hM.hdr i hih).1;rw[hhd]at this;exact this
   have haob:Hid (ob a (adr ao i).block=false):=hid (by
    cases hb:ob a (adr ao i).block
    ·rfl
    ·have h1:=(hsp _ hb).2
     obtain⟨b0,o0,rfl⟩:=hhO (by omega);simp[ob,adr]at h1)
   have hhd':=hid hhd;have hRl:Hid ((List.replicate (2*n) (0:Rat)).length=na):=hid (by rw[hna];exact List.length_replicate);have hqz:Sl QC 3 (mk (un (cut (mz X ao hs) a) a) wr) a1 x:=by rw[hun.out];exact hq1
   clear hc1 hx hhd hna;obtain⟨wo,hwo⟩:∃wo,wo=wr:=⟨_,rfl⟩;subst hwo;go_wp2_with (first|(with_reducible refine a0t a0s (by omega) (by assumption) ?_)|(refine a7Q a0H QC.elem x rfl hRl.out rfl hxl.out hR hqz (by rw[hna'.out];omega) (by omega) ?_;intro w5 hO5 hE5;have y5:=hE5.cellY y1 haob.out))
   have hxi:x++List.drop n (List.replicate (2*n) (0:Rat))=x++List.replicate n 0:=a9N;rw[hxi]at hO5;have hzz:∀k,ob a k=true->Z k=true:=fun k hk=>by rw[<-hZ'.out];exact hz1 k hk
   have hxr:Hid ((x++List.replicate n (0:Rat)).length=na):=hid (by rw[List.length_append,List.length_replicate,hxl.out,hna'.out];omega);have hM5:=hM.upd hih (l:=x++List.replicate n 0) (show ExtX (ob hs[i].1) wo w5 by rw[hhd'.out];exact hE5) (fun hi'=>by rw[hmg.out,List.length_replicate,hxr.out,hna'.out]) (by rw[hhd'.out];exact hO5);have hsb5:=hsb.mono RC.mono (a0E hE5 hzz);have hE05:=hM.ext_from hE (Nat.le_refl _) (ExtX.row hih (show ExtX (ob hs[i].1) wo w5 by rw[hhd'.out];exact hE5));have hput:Hid ((x++List.replicate n (0:Rat)).set (n+i) 1=x++(List.replicate n 0).set i 1):=hid (b1j hxl.out);have hni:n+i<(x++List.replicate n (0:Rat)).length:=by rw[hxr.out,hna'.out];omega
   have hZ5:HX Z w5:=by
    have h1:=hM5.hz (hX.ext hE05);rw[hZ'.out]at h1;exact h1
   have hEd:Ext w5 w5.drew:=(ExtX.refl w5).drew;obtain⟨L,hL⟩:∃L,x++List.replicate n (0:Rat)=L:=⟨_,rfl⟩;rw[hL]at hO5 hM5 hxr hput hni;obtain⟨L2,hL2⟩:∃L2,x++(List.replicate n (0:Rat)).set i 1=L2:=⟨_,rfl⟩;rw[hL2]at hput hms;have hL2l:Hid (L2.length=L.length):=hid (by rw[<-hput.out,List.length_set]);obtain⟨g,o,hg⟩:∃g o,adr a ((n+i)*3)=⟨g,o,none⟩:=⟨_,_,rfl⟩;have ew:IntKind.i64.wrap ((n:Int)+(i:Int))=(n:Int)+(i:Int):=IntWalk.i64_in _ (by omega);have i2:∀W,(Instr.indexAt 45 (.slice a na cr) (.int .i64 ((n:Int)+(i:Int)))).run Tryz.prog W= .ok (.pointer (some ⟨g,o,none⟩)) W:=by
    rw[<-hg,show(n:Int)+(i:Int)=((n+i:Nat):Int)by omega];exact a0j a0H a na cr .i64 (n+i) hda (by rw[hna'.out];omega)
   have i1:∀W,(Instr.indexAt 25 (.slice ao n cap) (.int .i64 (i:Int))).run Tryz.prog W= .ok (.pointer (some (adr ao i))) W:=a0w a0s ao n cap .i64 i hhO (by omega) rfl;have hg':=hid hg;have hS:Hid (∀Y W',ExtX Y w5.drew W'->Y (adr ao i).block=false->W'.cell? (adr ao i)=some (.slice a na cr)):=hid fun Y W' h hy1=>h.cellY (hEd.cell y5) hy1;have k20:=hS.out noY w5.drew (ExtX.refl _) rfl;have hO5d:=hO5.ext0 QC.elem hEd;have qf:=b5o Z w5.drew 1 (hZ5.ext hEd) (by omega) (by omega);have h1r:((1:Int):Rat)=1:=by decide+kernel
   rw[h1r]at qf;have hun':Hid (un (cut (mz X ao hs) a) a=Z):=hun;clear h1r hxi hL hL2 hg y1 y5 hR hqz hq1 k00 hM hsb;go_region_held3 (fun w'=>w'.cell? (adr ao i)=some (.slice a na cr))
    (first|exact hS.out noY _ t1 rfl|exact hS.out (ob a) _ ((ExtX.of t1).trans hset.2) haob.out|go_keep)
    ((go_at_call 144;(with_reducible refine qf.mono ?_);rintro ee w6 ⟨t1,u6,rfl,hu6⟩;obtain⟨s6,a6,n6,c6,d6,k6,e6,rfl⟩:=hu6.shape;have hO6:=hO5d.ext0 QC.elem t1;obtain⟨_,v0,v1,v2,_,⟨g0,f0⟩,⟨g1,f1⟩,⟨g2,f2⟩,_⟩:=hO6.cell3 (n+i) hni hg'.out;have hset:=hO6.set3 a6N QC.elem (n+i) hni hg'.out (v0:= .bool s6) (v1:= .slice a6 n6 c6) (v2:= .slice d6 k6 e6) (x:=1) (by rw[hun'.out];exact hu6)))
   obtain⟨q1,q2⟩:=hset;rw[hput.out]at q1;obtain⟨w8,hw8⟩:∃w8,((w6.setCell ⟨g,o,none⟩ (.bool s6)).setCell ⟨g,o+1,none⟩ (.slice a6 n6 c6)).setCell ⟨g,o+2,none⟩ (.slice d6 k6 e6)=w8:=⟨_,rfl⟩;rw[hw8]at q1 q2 |-;have q2':ExtX (ob hs[i].1) w6 w8:=by rw[hhd'.out];exact q2
   have hM6:=hM5.ext0 (hEd.trans t1);have hM7:=hM6.upd hih (l:=L2) q2' (fun hi'=>by rw[List.getElem_set_self];exact hL2l.out) (by rw[hhd'.out];exact q1);rw[List.set_set,hms.out]at hM7;have hs8:=(hsb5.mono RC.mono (a0p (hEd.trans t1))).mono RC.mono (a0E q2 hzz);have hE8:=hM6.ext_from (hE05.trans (hEd.trans t1)) (Nat.le_refl _) (ExtX.row hih q2');clear k20 g0 g1 g2 f0 f1 f2 i1 i2 hw8 ew;go_wp2_with fail
   go_roundw
   case rel=>exact⟨i+1,by go_num,by omega,hM7,hs8,hE8⟩
   case measure=>simp[intOf];omega
  ·have hin:i=n:=by omega
   subst hin;rw[a3e (by rw[hWs.out.1];exact Nat.le_refl _) (by rw[hVl.out];exact Nat.le_refl _)]at hM;go_wp2_with fail
   refine(a4d X w2.heap.size wr ao cap i (2*i) hs W (hX.ext hE) hM hWs.out hWc.out (by omega) (by omega) hTt.out).mono ?_;rintro ee w7 ⟨hE7,po,pc,hs',rfl,hmb,hM7,hP7⟩;rw[hfull.out];have hE07:=hM.ext_from hE (Nat.le_refl _) hE7;have hmc7:=MC.mono _ _ _ _ (a1S (X:=X) fun k _ hk=>a0o hk) hM7.mc;have hRs:=hid (a0V hWs.out).1;obtain⟨⟨R,p⟩,hRp⟩:∃S,a1o W (2*i)=S:=⟨_,rfl⟩;rw[hRp]at hfull hiv hsg hRs hmc7 hP7
   dsimp only at hfull hiv hsg hRs hmc7 hP7
   rw[hRs.out.1]at hmc7;have hX7:=hX.ext hE07;have hdP:Hd po i:=by have:=hP7.hd;rw[hfull.out]at this;exact this
   have hpe:Hid (∀h:i - 1<p.length,p.getD (i - 1) 0=p[i - 1]):=hid fun h=>by simp[List.getD_eq_getElem?_getD,h]
   have hps:∀h:i - 1<p.length,w7.cell? (adr po (i - 1))=some (.int .i64 (p[i - 1]:Int)):=fun h=>(hP7.sl (a0c.elem _)).nat (i - 1) h;have hps':=hid hps;obtain⟨w2,hw2'⟩:∃x,x=w2:=⟨_,rfl⟩;subst hw2';clear hps hM34 hsb hM hM7 hw2 hRp hP7;by_cases hsing:a4e m i
   ·obtain⟨h0,hge⟩:=hsg.out.1 hsing
    have hpl:i - 1<p.length:=by rw[hfull.out];omega
    rw[hpe.out hpl]at hge;have c9:=hps'.out hpl;have h0i:(0:Int)<(i:Int):=by omega
    have hgi:(i:Int)<=(p[i - 1]:Int):=by omega
    obtain⟨q,hq⟩:∃q,(p[i - 1]:Int)=q:=⟨_,rfl⟩;rw[hq]at c9 hgi;have ew:wrap64 ((i:Int) - 1)=(i:Int) - 1:=IntWalk.wrap64_in _ (by omega);have i3:∀W,(Instr.indexAt 22 (.slice po i pc) (.int .i64 ((i:Int) - 1))).run Tryz.prog W= .ok (.pointer (some (adr po (i - 1)))) W:=a0w a6z po i pc .i64 (i - 1) hdP (by omega) (by omega);clear hq hge h0 hE7;go_wp2_with fail
    go_ret2
    exact⟨hE07, .inl ⟨hsing,rfl⟩⟩
   ·have hcase:(¬(0:Int)<(i:Int))\/((0:Int)<(i:Int)/\∃q:Int,w7.cell? (adr po (i - 1))=some (.int .i64 q)/\¬(i:Int)<=q):=by
     by_cases h0:i=0
     ·exact .inl (by omega)
     ·have hpl:i - 1<p.length:=by rw[hfull.out];omega
      refine .inr ⟨by omega,_,hps'.out hpl,fun hle=>hsing (hsg.out.2 ⟨by omega,?_⟩)⟩;rw[hpe.out hpl];omega
    have hns:=hid hsing;have hz7:=a4E X w7 i i hX7 (by omega) (by omega);have ew:wrap64 ((i:Int) - 1)=(i:Int) - 1\/i=0:=by
     by_cases h0:i=0
     ·exact .inr h0
     ·exact .inl (IntWalk.wrap64_in _ (by omega))
    have i3':Hid (0<i->∀W,(Instr.indexAt 22 (.slice po i pc) (.int .i64 ((i:Int) - 1))).run Tryz.prog W= .ok (.pointer (some (adr po (i - 1)))) W):=hid fun h=>a0w a6z po i pc .i64 (i - 1) hdP (by omega) (by omega);clear hsing hE7;rcases hcase with h0|⟨h0,q,c9,hgi⟩
    case' inl=>clear ew
    case' inr=>
     have ew:wrap64 ((i:Int) - 1)=(i:Int) - 1:=ew.resolve_right (by omega);have i3:=i3'.out (by omega)
    all_goals
     go_wp2_with fail
     refine hz7.mono ?_;rintro ee w8 ⟨hE8,ao2,cap2,hs2,rfl,hM8⟩;rw[List.length_replicate];have hlen2:Hid (hs2.length=i):=hid (by rw[hM8.len];simp);have hhO2:Hd ao2 i:=by have:=hM8.outer.hd;rw[hlen2.out]at this;exact this
     have hmc8:=hM8.old MC.mono hmc7 hE8 (Nat.le_refl _) (fun _ _ h=>h);obtain⟨ra,rca,heq,hrca,hsr⟩:=hmc8;simp only[Value.slice.injEq]at heq;obtain⟨rfl,hx9,rfl⟩:=heq;clear hx9;obtain⟨D,hD⟩:∃D,a3I m i=D:=⟨_,rfl⟩;have hDs:=hid (hD▸hIs.out);have hiv2:=hid (hD▸hiv.out);have hD':=hid hD;obtain⟨U,hU⟩:∃U,b2D i i=U:=⟨_,rfl⟩;have hUl:Hid (U.length=i):=hid (by rw[<-hU];exact a6Z _ _);have hUg:Hid (∀k (h:k<U.length),U[k]=List.replicate i 0):=hid fun k h=>by subst hU;exact a7a h
     have hDU:Hid (D.length=U.length):=hid (by rw[hUl.out];exact hDs.out.1)
     change MO X w7.heap.size _ _ w8 ao2 cap2 hs2 (b2D i i)at hM8
     rw[hU,<-a3d D U]at hM8;have hE08:=hE07.trans hE8;obtain⟨Y,hYe⟩:∃Y,mz X ao2 hs2=Y:=⟨_,rfl⟩;have hY':=hid hYe;rw[hYe]at hsr;clear hU hYe hD hz7;go_wp2_with fail
     go_loopw [70] (fun k wr=>∃(j:Nat),k= .int .i64 j/\j<=i/\MO X w7.heap.size 45 32 wr ao2 cap2 hs2 (mix D U j)/\Sl RC 1 (mk Y wr) ao R/\Ext w2 wr) (fun k _=>i - (intOf k).toNat)
     case atStart=>exact⟨0,rfl,Nat.zero_le _,hM8,hsr,hE08⟩
     case round=>
      obtain⟨j,rfl,hj,hM,hsr,hE⟩:=hrel;by_cases hlj:j<i
      ·have hjR:j<R.length:=by rw[hRs.out.1];exact hlj
       obtain⟨a1,c1,hX1,hc1,hcl1,hq1⟩:=hsr.row j hjR;have k00:=hc1.out noY wr (ExtX.refl _) rfl;have hxl:Hid (R[j].length=2*i):=hid (hRs.out.2 _ (List.getElem_mem _));have hjU:j<U.length:=by rw[hUl.out];exact hlj
       have hjD:j<D.length:=by rw[hDU.out];exact hjU
       have hDj:Hid (D[j]=R[j].drop i):=hid (by simp[hiv2.out]);have hUj:=hid (hUg.out j hjU);obtain⟨x,hx⟩:∃x,R[j]=x:=⟨_,rfl⟩;rw[hx]at k00 hcl1 hq1 hxl hDj;rw[hxl.out]at k00 hcl1;obtain⟨n2,hn2⟩:∃n2,2*i=n2:=⟨_,rfl⟩;have hn2':=hid hn2;rw[hn2]at k00 hcl1;have hjh:j<hs2.length:=by rw[hlen2.out];exact hlj
       have hmj:j<(mix D U j).length:=by rw[a1P hDU.out];exact hjD
       have hmg:Hid ((mix D U j)[j]=List.replicate i 0):=hid (by rw[a1v hDU.out,if_neg (by omega)];exact hUj.out);have hms:Hid ((mix D U j).set j (x.drop i)=mix D U (j+1)):=hid (by rw[<-hDj.out];exact a4c hDU.out hjD);obtain⟨a,na,cr,hhd⟩:∃a na cr,hs2[j]=(a,na,cr):=⟨_,_,_,rfl⟩;have hna:na=i:=by
        have:=hM.rlen j hjh hmj;rw[hhd,hmg.out,List.length_replicate]at this;exact this
       have hR:=hM.row j hjh hmj;rw[hmg.out]at hR;simp only[hhd]at hR;have hz1:=fun k (hk:ob a k=true)=>hM.mz_sub hjh k (by rw[hhd];exact hk);have hsp:=fun k (hk:ob a k=true)=>hM.sep j hjh k (by rw[hhd];exact hk);have hun:Hid (un (cut (mz X ao2 hs2) a) a=Y):=hid (by rw[a3X hz1];exact hY'.out);have y1:wr.cell? (adr ao2 j)=some (.slice a na cr):=by
        have:=(hM.hdr j hjh).1;rw[hhd]at this;exact this
       have haob:Hid (ob a (adr ao2 j).block=false):=hid (by
        cases hb:ob a (adr ao2 j).block
        ·rfl
        ·have h1:=(hsp _ hb).2
         obtain⟨b0,o0,rfl⟩:=hhO2 (by omega);simp[ob,adr]at h1)
       have hhd':=hid hhd;have hna':=hid hna;have hRl:Hid ((List.replicate i (0:Rat)).length=na):=hid (by rw[hna];exact List.length_replicate);have hq2:=hq1.sub i n2 c1 (by omega) (by omega) (by rw[hxl.out];omega);rw[List.take_of_length_le (by rw[hxl.out];omega)]at hq2;have f1:∀W,(Instr.sliceAt 45 (.slice a1 n2 c1) (some (.int .i64 (i:Int))) none none).run Tryz.prog W= .ok (.slice (a2a a1 i c1 3) (n2 - i) (c1 - i)) W:=a5x a0H n2 c1 .i64 i (by omega) hcl1;rw[show n2 - i=i by omega]at f1;obtain⟨sa,hsa⟩:∃sa,a2a a1 i c1 3=sa:=⟨_,rfl⟩;rw[hsa]at f1 hq2;obtain⟨sc,hsc⟩:∃sc,c1 - i=sc:=⟨_,rfl⟩;rw[hsc]at f1;obtain⟨xd,hxd⟩:∃xd,x.drop i=xd:=⟨_,rfl⟩;rw[hxd]at hq2 hms;have hxdl:Hid (xd.length=i):=hid (by rw[<-hxd,List.length_drop,hxl.out];omega);have hqz:Sl QC 3 (mk (un (cut (mz X ao2 hs2) a) a) wr.drew) sa xd:=by rw[hun.out];exact hq2
       have i1:∀W,(Instr.indexAt 25 (.slice ao2 i cap2) (.int .i64 (j:Int))).run Tryz.prog W= .ok (.pointer (some (adr ao2 j))) W:=a0w a0s ao2 i cap2 .i64 j hhO2 (by omega) rfl;have hRd:=hR.ext0 QC.elem (ExtX.refl (Y:=noY) wr).drew;have hSa:Hid (∀Y2 W',ExtX Y2 wr.drew W'->Y2 (adr ao2 j).block=false->W'.cell? (adr ao2 j)=some (.slice a na cr)):=hid fun Y2 W' h hy1=>(((ExtX.refl wr).drew).trans h).cellY y1 hy1;have k20:=hSa.out noY wr.drew (ExtX.refl _) rfl;clear hx hc1 hhd hna hn2 hsa hsc hxd hR hq1 hq2;obtain⟨wo,hwo⟩:∃wo,wo=wr:=⟨_,rfl⟩;subst hwo;go_wp2_with (with_reducible refine a0t a0s (by omega) (by assumption) ?_)
       go_region_held3 (fun w'=>w'.cell? (adr ao2 j)=some (.slice a na cr))
        (first|exact hSa.out noY _ (ExtX.refl _) rfl|exact hSa.out (ob a) _ hE5 haob.out|go_keep)
        (first|(refine a8t rfl (by rfl) a0H QC.elem xd rfl hRl.out rfl hxdl.out hRd hqz (by rw[hna'.out];exact Nat.le_refl _) (by omega) ?_;intro w5 hO5 hE5))
       have hxi:xd++List.drop i (List.replicate i (0:Rat))=xd:=by rw[List.drop_replicate,Nat.sub_self,List.replicate_zero,List.append_nil]
       rw[hxi]at hO5;have hzz:∀k,ob a k=true->Y k=true:=fun k hk=>by rw[<-hY'.out];exact hz1 k hk
       have hEr:ExtX (ob hs2[j].1) wo w5:=by rw[hhd'.out];exact(ExtX.of (ExtX.refl wo).drew).trans hE5
       have hM5:=hM.upd hjh (l:=xd) hEr (fun hi'=>by rw[hmg.out,List.length_replicate,hxdl.out]) (by rw[hhd'.out];exact hO5);rw[hms.out]at hM5;have hs5:=(hsr.mono RC.mono (a0p (ExtX.refl wo).drew)).mono RC.mono (a0E hE5 hzz);have hE05:=hM.ext_from hE (by have:=hE07.size;omega) (ExtX.row hjh hEr);clear k00 k20 y1 f1 i1 hRd hqz;go_wp2_with fail
       go_roundw
       case rel=>exact⟨j+1,by go_num,by omega,hM5,hs5,hE05⟩
       case measure=>simp[intOf];omega
      ·have hji:j=i:=by omega
       subst hji;rw[a3e (by rw[hDs.out.1];exact Nat.le_refl _) (by rw[hUl.out];exact Nat.le_refl _)]at hM;have hmc:=hM.mc;rw[hDs.out.1,<-hD'.out]at hmc;go_wp2_with fail
       go_ret2
       exact⟨hE, .inr ⟨hns.out,_,rfl,hmc⟩⟩
def a6n (X:Nat->Bool) (w:World) (S:Mat×List Nat) (c:Nat) (e:Ending) (w':World):Prop:=Ext w w'/\((c∈S.2/\e= .returned (.tuple #[.slice none 0 0, .int .i64 11]))\/(c∉S.2/\∃u,e= .returned (.tuple #[u, .int .i64 0])/\RC (mk X w') u (b1M S.1 S.2 c)))
set_option maxRecDepth 100000 in
set_option maxHeartbeats 1600000 in
theorem b2F (X:Nat->Bool) (w:World) (u v:Value) (m:List (List Rat)) (b:List Rat) (n c:Nat) (hX:HX X w) (hu:MV (mk X w) u m) (hv:RV (mk X w) v b) (hf:a0x m=true) (hnn:m.length=n) (hcc:colsL m=c) (hbl:b.length=n) (hT:b0a (a1M m b n) (c+1)):Calls Tryz.prog 130 #[u,v] w (a6n X w (a1o (a1M m b n) (c+1)) c):=by
 obtain⟨hsh,h96,hc96,hpos,_⟩:=a0A hf;rw[hnn,hcc]at hsh;rw[hnn]at h96 hpos;rw[hcc]at hc96 hpos;have hfo:=a1U X w u m hu (by omega);rw[hf]at hfo;have hcol:=a1O X w u m hu;rw[hcc]at hcol;have hsh':=hid hsh;have hnn':=hid hnn;have hcc':=hid hcc;have hbl':=hid hbl;have hWs:=hid (a1x (b:=b) hsh);have hwg:Hid (∀i (h:i<(a1M m b n).length) (hi:i<m.length) (hb:i<b.length),(a1M m b n)[i]=m[i]++[b[i]]):=hid fun i h hi hb=>a7o h hi hb;have hWc:0<n->colsL (a1M m b n)=c+1:=fun h=>b0L (a1x (b:=b) hsh) h;obtain⟨W,hW⟩:∃W,a1M m b n=W:=⟨_,rfl⟩;rw[hW]at hWs hT hwg hWc |-;have hTt:=hid (b0q hWs.out (colsL W) hWc hT);have hRc:=hid (a7q hWs.out (colsL W) hWc);have hWcs:Hid (Shp n (colsL W) W):=hid ⟨hWs.out.1,fun r hr=>by
  have:=List.length_pos_of_mem hr;rw[hWc (by rw[<-hWs.out.1];exact this)];exact hWs.out.2 r hr⟩
 have hWc9:Hid (colsL W<=900):=hid (by
  by_cases h0:0<n
  ·rw[hWc h0];omega
  ·have:W= []:=List.eq_nil_of_length_eq_zero (by rw[hWs.out.1];omega)
   subst this;exact Nat.zero_le _)
 obtain⟨ua,uca,rfl,huca,hua⟩:=hu;have hu:MV (mk X w) (.slice ua m.length uca) m:=⟨ua,uca,rfl,huca,hua⟩;obtain⟨va,vca,rfl,hvca,hva⟩:=hv;have hhv:=hva.hd;rw[hnn]at hfo hcol hu |-;rw[hbl]at hvca hhv |-;have hw2:wrap64 ((c:Int)+1)=((c+1:Nat):Int):=by rw[IntWalk.wrap64_in _ (by omega)];omega
 have hneq:((n:Int) !=(n:Int))=false:=a6d rfl;clear hf hnn hcc hsh huca hua hW hT hWc hbl;go_enter Tryz.func130,Tryz.ntmps130
 go_wp2_with fail
 refine hfo.mono ?_;rintro e w1 ⟨rfl,rfl⟩;go_wp2_with fail
 refine hcol.mono ?_;rintro e w2 ⟨rfl,rfl⟩;go_wp2_with fail
 refine(a4E X w2 n (c+1) hX (by omega) (by omega)).mono ?_;rintro e w3 ⟨hE3,ao,cap,hs,rfl,hM3⟩;rw[List.length_replicate];have hlen:Hid (hs.length=n):=hid (by rw[hM3.len];simp);have hhO:Hd ao n:=by have:=hM3.outer.hd;rw[hlen.out]at this;exact this
 have hX3:=hX.ext hE3;have hZ3:=hM3.hz hX3;have hu3:=hM3.old MV.mono hu hE3 (Nat.le_refl _) (fun _ _ h=>h);have hv3:=hva.mono QV.mono (fun a v h=>((a1g (X:=X) (Z:=mz X ao hs) hE3 (fun k _ hk=>by simp[noY]at hk) fun k hk hz=>by
  rcases a1E.1 hz with a|a
  ·exact a
  ·have:=(hM3.mb_block (a2n.2 a)).1;omega) a v h))
 obtain⟨V,hV⟩:∃V,b2D n (c+1)=V:=⟨_,rfl⟩;have hVl:Hid (V.length=n):=hid (by rw[<-hV];exact a6Z _ _);have hVg:Hid (∀i (h:i<V.length),V[i]=List.replicate (c+1) 0):=hid fun i h=>by subst hV;exact a7a h
 have hWV:Hid (W.length=V.length):=hid (by rw[hVl.out];exact hWs.out.1)
 change MO X w2.heap.size _ _ w3 ao cap hs (b2D n (c+1))at hM3
 rw[hV,<-a3d W V]at hM3;have hco:=a2P (mz X ao hs) w3 _ m n c hZ3 hu3 hsh'.out hcc'.out (by omega) (by omega);clear hfo hcol hu hu3 hV;go_wp2_with fail
 refine hco.mono ?_;rintro e w4 ⟨hE4,bo,capb,hs4,rfl,hM4⟩;have hmc4:=hM4.mc;rw[hnn'.out]at hmc4 |-;have hM34:=hM3.ext0 hE4;have hE04:=hE3.trans hE4;obtain⟨ba,bca,heq,hbca,hsb⟩:=hmc4;simp only[Value.slice.injEq]at heq;obtain⟨rfl,hx9,rfl⟩:=heq;clear hx9;have hhb:=hsb.hd;rw[hnn'.out]at hhb;obtain⟨Z,hZe⟩:∃Z,mz X ao hs=Z:=⟨_,rfl⟩;have hZ':=hid hZe;rw[hZe]at hsb hZ3 hv3;have hv4:=hv3.mono QV.mono (a0p hE4);clear hv3;clear hco hM3 hM4 hZe;go_wp2_with fail
 go_loopw [33] (fun k wr=>∃(i:Nat),k= .int .i64 i/\i<=n/\MO X w2.heap.size 45 32 wr ao cap hs (mix W V i)/\Sl RC 1 (mk Z wr) bo m/\Sl QV 3 (mk Z wr) va b/\Ext w2 wr) (fun k _=>n - (intOf k).toNat)
 case atStart=>exact⟨0,rfl,Nat.zero_le _,hM34,hsb,hv4,hE04⟩
 case round=>
  obtain⟨i,rfl,hi,hM,hsb,hva,hE⟩:=hrel;by_cases hlt:i<n
  ·have him:i<m.length:=by rw[hnn'.out];exact hlt
   obtain⟨a1,c1,hX1,hc1,hcl1,hq1⟩:=hsb.row i him;have k00:=hc1.out noY wr (ExtX.refl _) rfl;have hxl:Hid (m[i].length=c):=hid (hsh'.out.2 _ (List.getElem_mem _));have hiV:i<V.length:=by rw[hVl.out];exact hlt
   have hiW:i<W.length:=by rw[hWV.out];exact hiV
   have hib:i<b.length:=by rw[hbl'.out];exact hlt
   have hWi:=hid (hwg.out i hiW him hib);have hVi:=hid (hVg.out i hiV);obtain⟨x,hx⟩:∃x,m[i]=x:=⟨_,rfl⟩;rw[hx]at k00 hcl1 hq1 hxl hWi;rw[hxl.out]at k00 hcl1;have hh1:Hd a1 c:=by have:=hq1.hd;rw[hxl.out]at this;exact this
   have hih:i<hs.length:=by rw[hlen.out];exact hlt
   have hmi:i<(mix W V i).length:=by rw[a1P hWV.out];exact hiW
   have hmg:Hid ((mix W V i)[i]=List.replicate (c+1) 0):=hid (by rw[a1v hWV.out,if_neg (by omega)];exact hVi.out);have hms:Hid ((mix W V i).set i (x++[b[i]])=mix W V (i+1)):=hid (by rw[<-hWi.out];exact a4c hWV.out hiW);obtain⟨a,na,cr,hhd⟩:∃a na cr,hs[i]=(a,na,cr):=⟨_,_,_,rfl⟩;have hna:na=c+1:=by
    have:=hM.rlen i hih hmi;rw[hhd,hmg.out,List.length_replicate]at this;exact this
   have hR:=hM.row i hih hmi;rw[hmg.out]at hR;simp only[hhd]at hR;have hz1:=fun k (hk:ob a k=true)=>hM.mz_sub hih k (by rw[hhd];exact hk);have hsp:=fun k (hk:ob a k=true)=>hM.sep i hih k (by rw[hhd];exact hk);have hun:Hid (un (cut (mz X ao hs) a) a=Z):=hid (by rw[a3X hz1];exact hZ'.out);have hda:Hd a na:=by have:=hR.hd;rw[List.length_replicate,<-hna]at this;exact this
   have hna':=hid hna;have y1:wr.cell? (adr ao i)=some (.slice a na cr):=by
    have:=(hM.hdr i hih).1;rw[hhd]at this;exact this
   have haob:Hid (ob a (adr ao i).block=false):=hid (by
    cases hb:ob a (adr ao i).block
    ·rfl
    ·have h1:=(hsp _ hb).2
     obtain⟨b0,o0,rfl⟩:=hhO (by omega);simp[ob,adr]at h1)
   have hhd':=hid hhd;have hRl:Hid ((List.replicate (c+1) (0:Rat)).length=na):=hid (by rw[hna];exact List.length_replicate);have hqz:Sl QC 3 (mk (un (cut (mz X ao hs) a) a) wr) a1 x:=by rw[hun.out];exact hq1
   clear hc1 hx hhd hna;obtain⟨wo,hwo⟩:∃wo,wo=wr:=⟨_,rfl⟩;subst hwo;go_wp2_with (first|(with_reducible refine a0t a0s (by omega) (by assumption) ?_)|(refine a7Q a0H QC.elem x rfl hRl.out rfl hxl.out hR hqz (by rw[hna'.out];omega) (by have:=hpos (by omega);omega) ?_;intro w5 hO5 hE5;have y5:=hE5.cellY y1 haob.out))
   have hxi:x++List.drop c (List.replicate (c+1) (0:Rat))=x++[0]:=by rw[List.drop_replicate,show c+1 - c=1 by omega];rfl
   rw[hxi]at hO5;have hzz:∀k,ob a k=true->Z k=true:=fun k hk=>by rw[<-hZ'.out];exact hz1 k hk
   have hxr:Hid ((x++[(0:Rat)]).length=na):=hid (by rw[List.length_append,hxl.out,hna'.out];rfl);have hM5:=hM.upd hih (l:=x++[(0:Rat)]) (show ExtX (ob hs[i].1) wo w5 by rw[hhd'.out];exact hE5) (fun hi'=>by rw[hmg.out,List.length_replicate,hxr.out,hna'.out]) (by rw[hhd'.out];exact hO5);have hsb5:=hsb.mono RC.mono (a0E hE5 hzz);have hE05:=hM.ext_from hE (Nat.le_refl _) (ExtX.row hih (show ExtX (ob hs[i].1) wo w5 by rw[hhd'.out];exact hE5));have hput:Hid ((x++[(0:Rat)]).set c b[i]=x++[b[i]]):=hid (by rw[List.set_append_right _ _ (by rw[hxl.out];exact Nat.le_refl _),hxl.out,Nat.sub_self];rfl);have hni:c<(x++[(0:Rat)]).length:=by rw[hxr.out,hna'.out];omega
   have hZ5:HX Z w5:=by
    have h1:=hM5.hz (hX.ext hE05);rw[hZ'.out]at h1;exact h1
   have hEd:Ext w5 w5.drew:=(ExtX.refl w5).drew;obtain⟨g4,o4,s4,a4,n4,c4,d4,k4,e4,hg4,hX4,hc4,hq4⟩:=hva.rat QV.shaped i hib;have hab4:Hid (ob a g4=false):=hid (by
    cases hb:ob a g4
    ·rfl
    ·have:=hzz g4 hb;rw[hX4]at this;simp at this)
   have hv5:=hva.mono QV.mono (a0E hE5 hzz);have hq5:QV (mk Z w5.drew) (.agg #[.bool s4, .slice a4 n4 c4, .slice d4 k4 e4]) b[i]:=mkx QV.mono (QV.mono _ _ _ _ (a0E hE5 hzz) hq4) hEd;obtain⟨v,hv⟩:∃v,b[i]=v:=⟨_,rfl⟩;rw[hv]at hput hq5 hms;obtain⟨L,hL⟩:∃L,x++[(0:Rat)]=L:=⟨_,rfl⟩;rw[hL]at hO5 hM5 hxr hput hni;obtain⟨L2,hL2⟩:∃L2,x++[v]=L2:=⟨_,rfl⟩;rw[hL2]at hput hms;have hL2l:Hid (L2.length=L.length):=hid (by rw[<-hput.out,List.length_set]);obtain⟨g,o,hg⟩:∃g o,adr a (c*3)=⟨g,o,none⟩:=⟨_,_,rfl⟩;have i2:∀W,(Instr.indexAt 45 (.slice a na cr) (.int .i64 (c:Int))).run Tryz.prog W= .ok (.pointer (some ⟨g,o,none⟩)) W:=by
    rw[<-hg];exact a0j a0H a na cr .i64 c hda (by rw[hna'.out];omega)
   have i3:∀W,(Instr.indexAt 45 (.slice va n vca) (.int .i64 (i:Int))).run Tryz.prog W= .ok (.pointer (some ⟨g4,o4,none⟩)) W:=by
    rw[<-hg4];exact a0j a0H va n vca .i64 i hhv (by omega)
   have i1:∀W,(Instr.indexAt 25 (.slice ao n cap) (.int .i64 (i:Int))).run Tryz.prog W= .ok (.pointer (some (adr ao i))) W:=a0w a0s ao n cap .i64 i hhO (by omega) rfl;have hg':=hid hg;have hS:Hid (∀Y W',ExtX Y w5.drew W'->Y (adr ao i).block=false->Y g4=false->W'.cell? (adr ao i)=some (.slice a na cr)/\W'.cell? ⟨g4,o4,none⟩=some (.bool s4)/\W'.cell? ⟨g4,o4+1,none⟩=some (.slice a4 n4 c4)/\W'.cell? ⟨g4,o4+2,none⟩=some (.slice d4 k4 e4)):=hid fun Y W' h hy1 hy2=>by
    have p:=hc4.out (ob a) w5.drew (hE5.trans (ExtX.of hEd)) hab4.out;exact⟨h.cellY (hEd.cell y5) hy1,h.cellY p.1 hy2,h.cellY p.2.1 hy2,h.cellY p.2.2 hy2⟩
   obtain⟨k20,k30,k31,k32⟩:=hS.out noY w5.drew (ExtX.refl _) rfl rfl;have hO5d:=hO5.ext0 QC.elem hEd;have h00:QV (mk Z w5.drew) (.agg #[.bool false, .slice none 0 0, .slice none 0 0]) 0:=(QC.zero _).qv (by rw[a0T];decide);have qf:=b3j Z w5.drew _ _ _ 0 (hZ5.ext hEd) hq5 h00;rw[Rat.add_zero]at qf;have hun':Hid (un (cut (mz X ao hs) a) a=Z):=hun;clear hxi hL hL2 hg hg4 hc4 hq4 hv y1 y5 hR hqz hq1 k00 hM hsb hva;go_region_held3 (fun w'=>w'.cell? (adr ao i)=some (.slice a na cr)/\w'.cell? ⟨g4,o4,none⟩=some (.bool s4)/\w'.cell? ⟨g4,o4+1,none⟩=some (.slice a4 n4 c4)/\w'.cell? ⟨g4,o4+2,none⟩=some (.slice d4 k4 e4))
    (first|exact hS.out noY _ t1 rfl rfl|exact hS.out (ob a) _ ((ExtX.of t1).trans hset.2) haob.out hab4.out|go_keep)
    ((go_at_call 146;(with_reducible refine qf.mono ?_);rintro ee w6 ⟨t1,u6,rfl,hu6⟩;obtain⟨s6,a6,n6,c6,d6,k6,e6,rfl⟩:=hu6.shape;have hO6:=hO5d.ext0 QC.elem t1;obtain⟨_,v0,v1,v2,_,⟨g0,f0⟩,⟨g1,f1⟩,⟨g2,f2⟩,_⟩:=hO6.cell3 c hni hg'.out;have hset:=hO6.set3 a6N QC.elem c hni hg'.out (v0:= .bool s6) (v1:= .slice a6 n6 c6) (v2:= .slice d6 k6 e6) (x:=v) (by rw[hun'.out];exact hu6)))
   obtain⟨q1,q2⟩:=hset;rw[hput.out]at q1;obtain⟨w8,hw8⟩:∃w8,((w6.setCell ⟨g,o,none⟩ (.bool s6)).setCell ⟨g,o+1,none⟩ (.slice a6 n6 c6)).setCell ⟨g,o+2,none⟩ (.slice d6 k6 e6)=w8:=⟨_,rfl⟩;rw[hw8]at q1 q2 |-;have q2':ExtX (ob hs[i].1) w6 w8:=by rw[hhd'.out];exact q2
   have hM6:=hM5.ext0 (hEd.trans t1);have hM7:=hM6.upd hih (l:=L2) q2' (fun hi'=>by rw[List.getElem_set_self];exact hL2l.out) (by rw[hhd'.out];exact q1);rw[List.set_set,hms.out]at hM7;have hs8:=(hsb5.mono RC.mono (a0p (hEd.trans t1))).mono RC.mono (a0E q2 hzz);have hv8:=(hv5.mono QV.mono (a0p (hEd.trans t1))).mono QV.mono (a0E q2 hzz);have hE8:=hM6.ext_from (hE05.trans (hEd.trans t1)) (Nat.le_refl _) (ExtX.row hih q2');clear k20 k30 k31 k32 g0 g1 g2 f0 f1 f2 i1 i2 i3 hw8;go_wp2_with fail
   go_roundw
   case rel=>exact⟨i+1,by go_num,by omega,hM7,hs8,hv8,hE8⟩
   case measure=>simp[intOf];omega
  ·have hin:i=n:=by omega
   subst hin;rw[a3e (by rw[hWs.out.1];exact Nat.le_refl _) (by rw[hVl.out];exact Nat.le_refl _)]at hM;have hXr:=hX.ext hE;have hZr:=hM.hz hXr;obtain⟨wo,hwo⟩:∃wo,wo=wr:=⟨_,rfl⟩;subst hwo;go_wp2_with ((with_reducible show wpList _ _ _ (⟨_, .makeSlice _ _ _,_,_,_,_⟩::_) _ _);refine a1N (R:=QC) a0H QC.elem (0:Rat) (fun _=>QC.zero _) (mz X ao hs) hZr wo.heap.size (Nat.le_refl _) c rfl rfl rfl (by omega) (by omega) ?_;intro oo w5 hO5 hE5)
   have hw2o:=hE.size;have hob:=fun k (hk:ob oo k=true)=>hO5.block hk;have hoX:∀k,ob oo k=true->X k=false:=fun k hk=>by
    cases hx:X k
    ·rfl
    ·have:=(hob k hk).1;have:=hXr k hx;omega
   have hM5:MO (un X oo) w2.heap.size 45 32 w5 ao cap hs W:=hM.ext hE5 (fun k _ hk=>by simp[noY]at hk) (fun k hk hx=>by
    cases hb:ob oo k
    ·simpa[un,hb]using hx
    ·have:=(hob k hb).1;omega)
   have hX5:HX (un X oo) w5:=fun k hk=>by
    by_cases hx:X k=true
    ·exact hXr.ext hE5 k hx
    ·exact(hob k (by simpa[un,hx]using hk)).2
   have hE05:=hE.trans hE5;have hmr:=a4d (un X oo) w2.heap.size w5 ao cap i (colsL W) hs W hX5 hM5 hWcs.out rfl (by omega) hWc9.out hTt.out;rw[hRc.out]at hmr;have hok:=a0V hWs.out;obtain⟨⟨R,p⟩,hRp⟩:∃S,a1o W (c+1)=S:=⟨_,rfl⟩;rw[hRp]at hmr hok;have hRp':=hid hRp
   dsimp only at hok
   have hRs:=hid hok.1;have hRr:=hid hok.2.1;have hob':=hid hob;have hoX':=hid hoX;have hXr':=hid hXr;obtain⟨pl,hpl⟩:∃pl,p.length=pl:=⟨_,rfl⟩;have hpl':=hid hpl;have hpn:pl<=i:=by have:=hok.2.1.le;omega
   clear hok hM hM34 hsb hva hRp hob hoX hXr hX5;refine hmr.mono ?_;rintro ee w7 ⟨hE7,po,pc,hs',rfl,hmb,hM7,hP7⟩
   dsimp only at hM7 hP7 |-
   rw[hpl];have hE07:=hM5.ext_from hE05 (Nat.le_refl _) hE7;have hlen2:=hid (hM7.len.trans hRs.out.1);have hdP:Hd po pl:=by have:=hP7.hd;rw[hpl]at this;exact this
   have hpb:=hid (fun k (hk:ob po k=true)=>hP7.block hk);have hdO:Hd oo c:=by have:=hO5.hd;rw[List.length_replicate]at this;exact this
   obtain⟨M,hMe⟩:∃M,mz (un (un X oo) po) ao hs'=M:=⟨_,rfl⟩;have hM':=hid hMe;have hO7:OL QC 3 (cut M oo) wo.heap.size 32 w7 oo c (sN R p c 0):=hO5.ext QC.elem hE7 (fun k _ hk=>a1E.2 (.inr (a2n.1 hk))) (fun k hk hz=>by
    obtain⟨h1,h2⟩:=a9b hz;rw[<-hMe]at h1;rcases a1E.1 h1 with h|h
    ·by_cases hx:X k=true
     ·exact a1E.2 (.inl hx)
     ·have:ob po k=true:=by simpa[un,hx,h2]using h
      have:=(hpb.out k this).1;omega
    ·have h3:mb ao hs' k=true:=a2n.2 h
     rw[hmb]at h3;exact a1E.2 (.inr (a2n.1 h3)))
   have hoM:Hid (∀k,ob oo k=true->M k=true):=hid fun k hk=>by rw[<-hMe];exact a1E.2 (.inl (a0o (a0r hk)))
   clear hmr hM5 hO5 hmb hMe hpl;go_wp2_with fail
   go_loopw [62] (fun k wr=>∃(j:Nat),k= .int .i64 j/\j<=pl/\MO (un (un X oo) po) w2.heap.size 45 32 wr ao cap hs' R/\OL QC 3 (cut M oo) wo.heap.size 32 wr oo c (sN R p c j)/\OL (a0c .i64) 1 (mz (un X oo) ao hs) w5.heap.size 3 wr po pc p/\Hid (∀k (hk:k<p.length),k<j->p[k]≠c)/\Ext w2 wr) (fun k _=>pl - (intOf k).toNat)
   case atStart=>exact⟨0,rfl,Nat.zero_le _,hM7,hO7,hP7,hid (fun k _ h=>by omega),hE07⟩
   case round=>
    obtain⟨j,rfl,hj,hM,hO,hP,hne,hE⟩:=hrel;by_cases hlj:j<pl
    ·have hjp:j<p.length:=by rw[hpl'.out];exact hlj
     have hcl:=(hP.sl (a0c.elem _)).nat j hjp;have hpc1:Hid (p[j]<c+1):=hid (hRr.out.lt j hjp);have hgd:Hid (p.getD j 0=p[j]):=hid (by simp[List.getD_eq_getElem?_getD,hjp]);have hmem:Hid (p[j]∈p):=hid (List.getElem_mem _);obtain⟨q,hq⟩:∃q,p[j]=q:=⟨_,rfl⟩;rw[hq]at hcl hpc1 hgd hmem;have hq':=hid hq;clear hq;by_cases hqc:q=c
     ·have hb:((q:Int)==(c:Int))=true:=a6e (by omega)
      have hmem2:Hid (c∈p):=hid (hqc▸hmem.out);clear hqc;go_wp2_with (with_reducible refine a0t a6z (by omega) (by assumption) ?_)
      go_ret2
      unfold a6n;rw[hRp'.out];exact⟨hE, .inl ⟨hmem2.out,rfl⟩⟩
     ·have hb:((q:Int)==(c:Int))=false:=a2V (by omega)
      have hqc1:q<c:=by have:=hpc1.out;omega
      have hne2:Hid (∀k (hk:k<p.length),k<j+1->p[k]≠c):=hid fun k hk hkj=>by
       by_cases h:k=j
       ·subst h;rw[hq'.out];exact hqc
       ·exact hne.out k hk (by omega)
      have hjh:j<hs'.length:=by rw[hlen2.out];omega
      have hjR:j<R.length:=by rw[hRs.out.1];omega
      have hrl:=hid (hRs.out.2 R[j] (List.getElem_mem _));obtain⟨a,na,cr,hhd⟩:∃a na cr,hs'[j]=(a,na,cr):=⟨_,_,_,rfl⟩;have hna:na=c+1:=by
       have:=hM.rlen j hjh hjR;rw[hhd,hrl.out]at this;exact this
      have hR:=hM.row j hjh hjR;simp only[hhd]at hR;have hz1:=fun k (hk:ob a k=true)=>hM.mz_sub hjh k (by rw[hhd];exact hk);have hun:Hid (un (cut (mz (un (un X oo) po) ao hs') a) a=M):=hid (by rw[a3X hz1];exact hM'.out);have hda:Hd a na:=by have:=hR.hd;rw[hrl.out,<-hna]at this;exact this
      have y1:wr.cell? (adr ao j)=some (.slice a na cr):=by
       have:=(hM.hdr j hjh).1;rw[hhd]at this;exact this
      have hcR:c<R[j].length:=by rw[hrl.out];omega
      have hev:Hid (R[j][c]=ent R j c):=hid (by unfold ent;rw[a2i hjR];simp[List.getD_eq_getElem?_getD,hcR]);have hunO:Hid (un (cut M oo) oo=M):=hid (a3X hoM.out);have hqO:q<(sN R p c j).length:=by rw[a6b];exact hqc1
      have hsn:Hid ((sN R p c j).set q (ent R j c)=sN R p c (j+1)):=hid (by rw[<-hgd.out];rfl);have hna':=hid hna;have hcna:c<na:=by omega
      clear hhd hna hqc;go_wp2_with (first|(with_reducible refine a0t a6z (by omega) (by assumption) ?_)|(with_reducible refine a0t a0s (by omega) (by assumption) ?_)|(with_reducible refine a2l a0H (by omega) (by assumption) ?_)|((with_reducible show wpList _ _ _ (⟨_, .load 32 _,_,_,_,_⟩::_) _ _);refine a4F a0u c hR hcR rfl (by simp) QC.agg ?_;intro u6 hu6;rw[hev.out,hun.out]at hu6;obtain⟨s6,a6,n6,c6,d6,k6,e6,rfl⟩:=hu6.shape)|((with_reducible show wpList _ _ _ (⟨_, .store 32 _ _,_,_,_,_⟩::_) _ _);refine a3a a6N QC.elem q rfl (by simp) hO hqO _ (ent R j c) rfl (by rw[hunO.out];exact hu6) ?_;intro w8 hO8 hE8))
      rw[hsn.out]at hO8;have hM8:=hM.ext (X':=un (un X oo) po) hE8 (fun k _ hk=>a0o (a0r hk)) (fun _ _ h=>h);have hP8:=hP.frame (a0c.pure _) hE8 (fun k hk=>by
       cases hb:ob oo k
       ·rfl
       ·have:=(hpb.out k hk).1;have:=(hob'.out k hb).2;omega) hP.1
      have hE9:=hE.then_ hE8 fun k hk _=>by
       cases hb:ob oo k
       ·rfl
       ·have:=(hob'.out k hb).1;omega
      clear y1 hcl;go_roundw
      case rel=>exact⟨j+1,by go_num,by omega,hM8,hO8,hP8,hne2,hE9⟩
      case measure=>simp[intOf];omega
    ·have hjl:j=pl:=by omega
     subst hjl;have hnp:c∉p:=fun hm=>by
      obtain⟨k,hk,hkc⟩:=List.getElem_of_mem hm;exact hne.out k hk (by rw[<-hpl'.out];exact hk) hkc
     have hs:=(hO.sl QC.elem).mono QC.mono (a1S (X:=X) fun k _ hk=>a4C (by rw[<-hM'.out];exact a1E.2 (.inl (a0o (a0o hk)))) (by
      cases hb:ob oo k
      ·rfl
      ·have:=hoX'.out k hb;rw[hk]at this;simp at this))
     have hlc:=hO.lenCap;go_wp2_with fail
     go_ret2
     rw[<-hpl'.out]at hs hlc;unfold a6n;rw[hRp'.out];exact⟨hE, .inr ⟨hnp, .slice oo c c,rfl,oo,c,by show Value.slice oo c c=Value.slice oo (sN R p c p.length).length c;rw[a6b],hlc,hs⟩⟩
end Go.Proofs.YtkddecjkfdogiaaGreat
namespace Go.Lin
noncomputable def fmS (m:Mom):Mat×List Nat:=a1o (a1M m.xx m.xy m.xx.length) (m.xx.length+1)
noncomputable def fmC (m:Mom):List Rat:=b1M (fmS m).1 (fmS m).2 m.xx.length
theorem a7b (m:Mom):(fmC m).length=m.xx.length:=a8l _ _ _
theorem a2C {m:Mom} (h:a2e m=true):(0<=m.n/\m.n<=1099511627776)/\a0x m.xx=true/\m.xx.length=colsL m.xx/\m.xx.length=m.xy.length/\m.xy.length<=12:=by
 unfold a2e at h;rw[Bool.and_eq_true,Bool.and_eq_true,decide_eq_true_eq,decide_eq_true_eq]at h;exact⟨h.1,h.2.1,h.2.2.1,h.2.2.2.1,h.2.2.2.2⟩
end Go.Lin
namespace Go.Proofs.YtkddecjkfdogiaaGreat
open Go.RowKit Go.Rep Go.Lim Go.Lin
theorem a1W {P:Program} {w:World} {fn:Func} {tmps:Array Value} {c0 c c2 c3:Tmp} {t:TypeId} {n b:Nat} {cs:Array Value} {T:TypeId} (h:fn.results=#[.tmp c0, .cell c t, .tmp c2, .tmp c3]) (hp:tmps.getD c undef= .pointer (some ⟨b,0,none⟩)) (hT:a1J P t n) (hb:Bx w b cs T) (hcs:cs.size=n):
  (results fn tmps).run P w= .ok (.tuple #[tmps.getD c0 undef, .agg cs,tmps.getD c2 undef,tmps.getD c3 undef]) w:=by
 have hl:=a2f (P:=P) hT hb hcs;rw[Array.getD_eq_getD_getElem?]at hp;simp[results,h,hp,asAddr,hl]
def a5l (X:Nat->Bool) (w:World) (m:Mom) (e:Ending) (w':World):Prop:=Ext w w'/\∃z u k c,e= .returned (.tuple #[z,u, .int .i64 k, .int .i64 c])/\
 ((a2e m=false/\c=4/\k=0/\RC (mk X w') z []/\QC (mk X w') u 0)\/(a2e m=true/\m.xx.length∈(fmS m).2/\c=11/\k=0/\RC (mk X w') z []/\QC (mk X w') u 0)\/(a2e m=true/\m.xx.length∉(fmS m).2/\c=0/\k=(a4N m.xx m.xx.length:Int)/\RC (mk X w') z (fmC m)/\QC (mk X w') u (m.yy - a2L (fmC m) m.xy)))
set_option maxRecDepth 100000 in
set_option maxHeartbeats 3200000 in
theorem a7R (X:Nat->Bool) (w:World) (u:Value) (m:Mom) (hX:HX X w) (hu:a5g (mk X w) u m) (hl:m.xx.length<=4) (hB:BMo 5929 m):
  Calls Tryz.prog 52 #[u] w (a5l X w m):=by
 have hfo:=hid fun w' (h:Ext w w')=>a4g X w' u m (hX.ext h) (mkx a5g.mono hu h) (by omega);obtain⟨xo,xl,xc,yo,yl,yc,s,a,n,c,d,k,e,rfl,hx,hy,hqq⟩:=hu;obtain⟨W,hW,hE,b0,b1,hz⟩:=a1t w #[.int .i64 m.n, .slice xo xl xc, .slice yo yl yc, .bool s, .slice a n c, .slice d k e] #[.bool false, .slice none 0 0, .slice none 0 0] 83 32;have hXW:HX (a0g X w.heap.size 2) W:=hX.boxes hz;have hle:Hid (∀w',Ext W w'->Le (mk X w) (mk (a0g X w.heap.size 2) w')):=hid fun w' h=>a0n (hE.trans h);obtain⟨b,hb⟩:∃b,w.heap.size=b:=⟨_,rfl⟩;have hbw:w.heap.size<=b:=by omega
 rw[hb]at b0 b1 hz hXW hle;obtain⟨N,hN⟩:∃N,m.n=N:=⟨_,rfl⟩;rw[hN]at b0 hW hfo |-;have k0:=b0.cell 0 rfl;have k1:=b0.cell 1 rfl;have k2:=b0.cell 2 rfl;have k3:=b0.cell 3 rfl;have k4:=b0.cell 4 rfl;have k5:=b0.cell 5 rfl;have h0:QC (mk X W) (.agg #[.bool false, .slice none 0 0, .slice none 0 0]) 0:=QC.zero _;cases hok:a2e m
 ·have hf1:=hfo.out W hE
  rw[hok]at hf1;have hok':=hid hok;clear hfo hok hN;go_enter Tryz.func52,Tryz.ntmps52
  go_wp2_with fail
  refine hf1.mono ?_;rintro ee w1 ⟨hE1,rfl⟩;have b11:=b1.ext0 hE1;clear hf1 k0 k1 k2 k3 k4 k5;go_wp2_with ((with_reducible show wpList _ _ _ (⟨_, .store 32 _ _,_,_,_,_⟩::_) _ _);refine a0b a0u rfl rfl b11 rfl rfl (a2B _ _ _ _ _ _ _) ?_;intro w7 r1 r2)
  have hE7:Ext w w7:=ExtX.box (hE.trans hE1) r2 (by omega);exact bodyPost_ret (a1W rfl rfl a0u r1 rfl) rfl ⟨hE7,_,_,_,_,rfl, .inl ⟨hok'.out,rfl,rfl,SlV.zero _ _ _,QC.zero _⟩⟩
 ·obtain⟨_,hf,hsq,hxy,_⟩:=a2C hok
  obtain⟨B1,B2,B3⟩:=hB;obtain⟨hsh,_,_,_,_⟩:=a0A hf;rw[<-hsq]at hsh;have hhb:=a5F B1 (by decide);have hTw:=(a2S (a1x (b:=m.xy) hsh) (a5o hsh hhb B2) hl (by decide)).1;have hTe:=(a2S hsh hhb hl (by decide)).1.e;have hcb:BR 8000000 (fmC m):=fun q hq=>Nat.le_trans (a6V hsh hhb B2 hl q hq) (by decide);have hcl:=a7b m;have hdb:=a2h (l:=fmC m) (m:=m.xy) hcb (fun q hq=>Nat.le_trans (B2 q hq) (by decide)) (by decide) (by omega) (by decide);have hdq:Hid (hq (a2L (fmC m) m.xy)<=68719476736):=hid (hdb.1 _ (Nat.le_refl _));have hsol:=hid fun w' (h:Ext W w') (u v:Value) (h1:MV (mk (a0g X b 2) w') u m.xx) (h2:RV (mk (a0g X b 2) w') v m.xy)=>b2F (a0g X b 2) w' u v m.xx m.xy m.xx.length m.xx.length (hXW.ext h) h1 h2 hf rfl hsq.symm hxy.symm hTw;have hrk:=hid fun w' (h:Ext W w') (u:Value) (h1:MV (mk (a0g X b 2) w') u m.xx)=>b4A (a0g X b 2) w' u m.xx (hXW.ext h) h1 hf (by rw[<-hsq];exact hTe);have hdo:=hid fun w' (u v:Value) (hX':HX (a0g X b 2) w') (h1:RV (mk (a0g X b 2) w') u (fmC m)) (h2:RV (mk (a0g X b 2) w') v m.xy)=>a5p (a0g X b 2) w' u v (fmC m) m.xy hX' h1 h2 (by omega) (by omega) hdb.1 hdb.2;have hxv:=hid fun w' (h:Ext W w')=>MV.mono _ _ _ _ (hle.out w' h) hx;have hyv:=hid fun w' (h:Ext W w')=>RV.mono _ _ _ _ (hle.out w' h) hy;have hqv:=hid fun w' (h:Ext W w')=>QV.mono _ _ _ _ (hle.out w' h) hqq;have hin:Hid (m.xx.length∈(fmS m).2->∀(w':World) z u,Ext w w'->RC (mk X w') z []->QC (mk X w') u 0->a5l X w m (.returned (.tuple #[z,u, .int .i64 0, .int .i64 11])) w'):=hid fun h1 w' z u hE hz hu=>⟨hE,z,u,_,_,rfl, .inr (.inl ⟨hok,h1,rfl,rfl,hz,hu⟩)⟩;have hout:Hid (m.xx.length∉(fmS m).2->∀(w':World) z u,Ext w w'->RC (mk X w') z (fmC m)->QC (mk X w') u (m.yy - a2L (fmC m) m.xy)->a5l X w m (.returned (.tuple #[z,u, .int .i64 (a4N m.xx m.xx.length:Int), .int .i64 0])) w'):=hid fun h1 w' z u hE hz hu=>⟨hE,z,u,_,_,rfl, .inr (.inr ⟨hok,h1,rfl,rfl,hz,hu⟩)⟩;have hf1:=hfo.out W hE;rw[hok]at hf1;rw[<-hsq]at hrk;unfold a6n at hsol;obtain⟨D,hD⟩:∃D,a2L (fmC m) m.xy=D:=⟨_,rfl⟩;rw[hD]at hdq hdo hout;obtain⟨F,hF⟩:∃F,a5l X w m=F:=⟨_,rfl⟩;rw[hF]at hin hout |-;obtain⟨rk,hrk2⟩:∃rk,a4N m.xx m.xx.length=rk:=⟨_,rfl⟩;rw[hrk2]at hrk hout;have hSe:a1o (a1M m.xx m.xy m.xx.length) (m.xx.length+1)=fmS m:=rfl;rw[hSe]at hsol;have hCe:b1M (fmS m).1 (fmS m).2 m.xx.length=fmC m:=rfl;rw[hCe]at hsol;obtain⟨C,hC⟩:∃C,fmC m=C:=⟨_,rfl⟩;rw[hC]at hsol hdo hout hcl hcb;obtain⟨S,hS2⟩:∃S,fmS m=S:=⟨_,rfl⟩;rw[hS2]at hsol hin hout;obtain⟨q,hqe⟩:∃q,m.xx.length=q:=⟨_,rfl⟩;rw[hqe]at hsol hin hout hcl;have hCb:Hid (BR 68719476736 C):=hid fun x hx=>Nat.le_trans (hcb x hx) (by decide);have hCl:=hid hcl;clear hfo hok hN hf hsq hxy hsh hhb hTw hTe hcb hdb hx hy hqq hD hF hrk2 hSe hCe hC hS2 hqe B1 B2 B3 hl hcl;go_enter Tryz.func52,Tryz.ntmps52
  go_wp2_with fail
  refine hf1.mono ?_;rintro ee w1 ⟨hE1,rfl⟩;have b01:=b0.ext0 hE1;have b11:=b1.ext0 hE1;have j1:=b01.cell 1 rfl;have j2:=b01.cell 2 rfl;have hs1:=hsol.out w1 hE1 _ _ (hxv.out w1 hE1) (hyv.out w1 hE1);clear hf1 k0 k1 k2 k3 k4 k5 hsol;go_wp2_with fail
  refine hs1.mono ?_;rintro ee w2 ⟨hE2,hor⟩;have hE12:=hE1.trans hE2;rcases hor with⟨hmem,rfl⟩|⟨hmem,cv,rfl,hcv⟩
  ·have b12:=b1.ext0 hE12
   have hfin:=hid (hin.out hmem);clear hs1 hmem j1 j2 hin hout;go_wp2_with ((with_reducible show wpList _ _ _ (⟨_, .store 32 _ _,_,_,_,_⟩::_) _ _);refine a0b a0u rfl rfl b12 rfl rfl (a2B _ _ _ _ _ _ _) ?_;intro w7 r1 r2)
   have hE7:Ext w w7:=ExtX.box (hE.trans hE12) r2 (by omega);exact bodyPost_ret (a1W rfl rfl a0u r1 rfl) rfl (hfin.out w7 _ _ hE7 (SlV.zero _ _ _) (QC.zero _))
  ·have hfin:=hid (hout.out hmem)
   have b02:=b0.ext0 hE12;have i1:=b02.cell 1 rfl;have hr2:=hrk.out w2 hE12 _ (hxv.out w2 hE12);have hcv':=hid hcv;obtain⟨co,cc,rfl,_,_⟩:=hcv;rw[hCl.out]at hcv' |-;clear hs1 hmem j1 j2 hin hout hrk;go_wp2_with fail
   refine hr2.mono ?_;rintro ee w3 ⟨hE3,rfl⟩;have hE13:=hE12.trans hE3;have hEd:Ext w3 w3.drew:=(ExtX.refl _).drew;have hE1d:=hE13.trans hEd;have hS:Hid (∀w',Ext w3.drew w'->w'.cell? ⟨b,3,none⟩=some (.bool s)/\w'.cell? ⟨b,3+1,none⟩=some (.slice a n c)/\w'.cell? ⟨b,3+2,none⟩=some (.slice d k e)/\w'.cell? ⟨b,2,none⟩=some (.slice yo yl yc)):=hid fun w' h=>by
    have b9:=b0.ext0 (hE1d.trans h);exact⟨b9.cell 3 rfl,b9.cell 4 rfl,b9.cell 5 rfl,b9.cell 2 rfl⟩
   obtain⟨g0,g1,g2,g3⟩:=hS.out _ (ExtX.refl _);have hXd:HX (a0g X b 2) w3.drew:=hXW.ext hE1d;have hd3:=hdo.out w3.drew _ _ hXd ((mkx RC.mono hcv'.out (hE3.trans hEd)).rv hCb.out) (hyv.out _ hE1d);have hqd:=hqv.out w3.drew hE1d;clear hr2 i1 hdo;go_wp2_with fail
   go_region_held3 (fun w'=>w'.cell? ⟨b,3,none⟩=some (.bool s)/\w'.cell? ⟨b,3+1,none⟩=some (.slice a n c)/\w'.cell? ⟨b,3+2,none⟩=some (.slice d k e)/\w'.cell? ⟨b,2,none⟩=some (.slice yo yl yc))
    (first|exact hS.out _ t1|exact hS.out _ t2|exact⟨((b0.ext0 (hE1d.trans t2)).ext (bb2.set3 _ _ _).2 (a0d (by omega))).cell 3 rfl,((b0.ext0 (hE1d.trans t2)).ext (bb2.set3 _ _ _).2 (a0d (by omega))).cell 4 rfl,((b0.ext0 (hE1d.trans t2)).ext (bb2.set3 _ _ _).2 (a0d (by omega))).cell 5 rfl,((b0.ext0 (hE1d.trans t2)).ext (bb2.set3 _ _ _).2 (a0d (by omega))).cell 2 rfl⟩|go_keep)
    (first|(go_at_call 112;(with_reducible refine hd3.mono ?_);rintro ee w5 ⟨t1,u5,rfl,hu5⟩;have hX5:=HX.ext hXd t1;have hq5:=mkx QV.mono hqd t1;have hu5v:=hu5.qv hdq.out)|(go_at_call 132;(with_reducible refine(b6f (a0g X b 2) w5 _ _ _ _ hX5 hq5 hu5v).mono ?_);rintro ee w6 ⟨hE6,u6,rfl,hu6⟩;have t2:=t1.trans hE6;obtain⟨s6,a6,n6,c6,d6,k6,e6,rfl⟩:=hu6.shape;have bb2:=b1.ext0 (hE1d.trans t2);have f0:=bb2.cell 0 rfl;have f1:=bb2.cell 1 rfl;have f2:=bb2.cell 2 rfl;have f3:=bb2.frozen 0;have f4:=bb2.frozen 1;have f5:=bb2.frozen 2))
   all_goals
    obtain⟨r1,r2⟩:=bb2.set3 (.bool s6) (.slice a6 n6 c6) (.slice d6 k6 e6);have h7:=QC.mono _ _ _ _ a0k (QC.mono _ _ _ _ (a0i r2 (by omega) (by omega)) hu6);have hc7:=RC.mono _ _ _ _ a0k (RC.mono _ _ _ _ (a0i r2 (by omega) (by omega)) (mkx RC.mono hcv'.out (hE3.trans (hEd.trans t2))));have hEf:Ext w _:=ExtX.box (hE.trans (hE1d.trans t2)) r2 (by omega);clear g0 g1 g2 g3 f0 f1 f2 f3 f4 f5 hS;go_wp2_with fail
    exact bodyPost_ret (a1W rfl rfl a0u r1 rfl) rfl (hfin.out _ _ _ hEf hc7 h7)
set_option maxRecDepth 100000 in
set_option maxHeartbeats 1600000 in
theorem b2G (X:Nat->Bool) (w:World) (u v:Value) (l m:List Rat) (hX:HX X w) (hu:RV (mk X w) u l) (hv:RV (mk X w) v m) (hn:l.length<=1000000) (hml:m.length=l.length) (hb1:∀k,k<=l.length->hq (a3S l m k)<=68719476736) (hb2:∀k,k<l.length->hq (l.getD k 0*m.getD k 0)<=68719476736):
  Calls Tryz.prog 42 #[u,v] w (a1X X w QC (a2L l m)):=by
 obtain⟨ao,ca,rfl,hca,hsa⟩:=hu;obtain⟨bo,cb,rfl,hcb,hsb⟩:=hv;have hha:=hsa.hd;have hhb:=hsb.hd;obtain⟨W,hW,hE,b0,b1,hz⟩:=a1t w #[.bool false, .slice none 0 0, .slice none 0 0] #[.bool false, .slice none 0 0, .slice none 0 0] 32 32;have hXW:HX (a0g X w.heap.size 2) W:=hX.boxes hz;have h0:QC (mk (a0g X w.heap.size 2) W) (.agg #[.bool false, .slice none 0 0, .slice none 0 0]) (a3S l m 0):=QC.zero _;obtain⟨n,hln⟩:∃n,l.length=n:=⟨_,rfl⟩;rw[hln]at hn hml hb1 hb2 hca hha |-;rw[hml]at hcb hhb |-;have hln':=hid hln;have hml':=hid hml;have hb1':=hid hb1;have hb2':=hid hb2;have hdot:Hid (a3S l m n=a2L l m):=hid (by unfold a2L;rw[hln]);clear hln hml hb1 hb2;go_enter Tryz.func42,Tryz.ntmps42
 go_wp2_with ((with_reducible show wpList _ _ _ (⟨_, .store _ _ _,_,_,_,_⟩::_) _ _);refine a0b a0u rfl rfl b1 rfl rfl (a2B _ _ _ _ _ _ _) ?_;intro W2 b1 r2)
 obtain⟨b,hb⟩:∃b,w.heap.size=b:=⟨_,rfl⟩;have hle:Hid (∀wr,Ext w wr->Le (mk X w) (mk (a0g X b 2) wr)):=hid fun wr h=>by rw[<-hb];exact a0n h
 have hbw:w.heap.size<=b:=by omega
 have hE2:Ext w W2:=ExtX.box hE r2 (by omega);have b02:=b0.ext r2 (a0d (by omega));have hXW2:=hXW.ext r2;have h02:QC (mk (a0g X w.heap.size 2) W2) (.agg #[.bool false, .slice none 0 0, .slice none 0 0]) (a3S l m 0):=QC.zero _;rw[hb]at b02 b1 hXW2 h02;rw[hb]at b0 hXW h0 |-;clear hW b0 hXW h0 hE;go_loopw [6] (fun k wr=>∃(i:Nat) (s:Bool) (a:Option Addr) (n' c':Nat) (d:Option Addr) (kk e:Nat),k= .int .i64 i/\i<=n/\Bx wr b #[.bool false, .slice none 0 0, .slice none 0 0] 32/\Bx wr (b+1) #[.bool s, .slice a n' c', .slice d kk e] 32/\QC (mk (a0g X b 2) wr) (.agg #[.bool s, .slice a n' c', .slice d kk e]) (a3S l m i)/\HX (a0g X b 2) wr/\Ext w wr) (fun k _=>n - (intOf k).toNat)
 case atStart=>exact⟨0,_,_,_,_,_,_,_,rfl,Nat.zero_le _,b02,b1,h02,hXW2,hE2⟩
 case round=>
  obtain⟨i,s,a,n',c',d,kk,e,rfl,hi,b0,b1,hq,hXr,hEr⟩:=hrel;by_cases hlt:i<n
  ·have hil:i<l.length:=by rw[hln'.out];exact hlt
   have him:i<m.length:=by rw[hml'.out];exact hlt
   have hsr:=hsa.mono QV.mono (hle.out wr hEr);have hsr2:=hsb.mono QV.mono (hle.out wr hEr);obtain⟨g1,o1,s1,p1,n1,q1,d1,k1,e1,hg1,hX1,hc1,hq1⟩:=hsr.rat QV.shaped i hil;obtain⟨g2,o2,s2,p2,n2,q2,d2,k2,e2,hg2,hX2,hc2,hq2⟩:=hsr2.rat QV.shaped i him;have gl:Hid (l.getD i 0=l[i]):=hid (by simp[List.getD_eq_getElem?_getD,hil]);have gm:Hid (m.getD i 0=m[i]):=hid (by simp[List.getD_eq_getElem?_getD,him]);have hst:Hid (a3S l m i+l[i]*m[i]=a3S l m (i+1)):=hid (by rw[<-gl.out,<-gm.out];rfl);have hbo:=hid (hb1'.out i hi);have hbp:=hid (hb2'.out i hlt);rw[gl.out,gm.out]at hbp;obtain⟨x,hx⟩:∃x,l[i]=x:=⟨_,rfl⟩;obtain⟨y,hy⟩:∃y,m[i]=y:=⟨_,rfl⟩;rw[hx,hy]at hst hbp;rw[hx]at hq1;rw[hy]at hq2;have i1:∀W,(Instr.indexAt 45 (.slice ao n ca) (.int .i64 (i:Int))).run Tryz.prog W= .ok (.pointer (some ⟨g1,o1,none⟩)) W:=by rw[<-hg1];exact a0j a0H ao n ca .i64 i hha (by omega)
   have i2:∀W,(Instr.indexAt 45 (.slice bo n cb) (.int .i64 (i:Int))).run Tryz.prog W= .ok (.pointer (some ⟨g2,o2,none⟩)) W:=by rw[<-hg2];exact a0j a0H bo n cb .i64 i hhb (by omega)
   obtain⟨D,hD⟩:∃D,a3S l m i=D:=⟨_,rfl⟩;obtain⟨D2,hD2⟩:∃D2,a3S l m (i+1)=D2:=⟨_,rfl⟩;rw[hD]at hq hst hbo;rw[hD2]at hst;have hD2':=hid hD2;clear hx hy hg1 hg2 hD hD2;have hE5d:Ext wr wr.drew:=(ExtX.refl wr).drew;have b05:=b0.ext0 hE5d;have b15:=b1.ext0 hE5d;have k00:=b15.cell 0 rfl;have k01:=b15.cell 1 rfl;have k02:=b15.cell 2 rfl;obtain⟨k10,k11,k12⟩:=hc1.out noY wr.drew hE5d rfl;obtain⟨k20,k21,k22⟩:=hc2.out noY wr.drew hE5d rfl;have hXd:=hXr.ext hE5d;have hx5:QV (mk (a0g X b 2) wr.drew) (.agg #[.bool s1, .slice p1 n1 q1, .slice d1 k1 e1]) x:=mkx QV.mono hq1 hE5d;have hy5:QV (mk (a0g X b 2) wr.drew) (.agg #[.bool s2, .slice p2 n2 q2, .slice d2 k2 e2]) y:=mkx QV.mono hq2 hE5d;have hq5:QV (mk (a0g X b 2) wr.drew) (.agg #[.bool s, .slice a n' c', .slice d kk e]) D:=(mkx QC.mono hq hE5d).qv hbo.out;clear hc1 hc2;go_wp2_with fail
   go_region_with (first|(go_at_call 59;(with_reducible refine(a9C (a0g X b 2) wr.drew _ _ _ _ hXd hx5 hy5).mono ?_);rintro ee w6 ⟨t1,u6,rfl,hu6⟩;obtain⟨s6,a6,n6,c6,d6,k6,e6,rfl⟩:=hu6.shape;have hX6:=hXd.ext t1;have hq6:=mkx QV.mono hq5 t1;have hm6:=hu6.qv hbp.out;have b16:=b15.ext0 t1;have m0:=b16.cell 0 rfl;have m1:=b16.cell 1 rfl;have m2:=b16.cell 2 rfl)|(go_at_call 49;(with_reducible refine(b2k (a0g X b 2) w6 _ _ _ _ hX6 hq6 hm6).mono ?_);rintro ee w7 ⟨t7,u7,rfl,hu7⟩;obtain⟨s7,a7,n7,c7,d7,k7,e7,rfl⟩:=hu7.shape;rw[hst.out]at hu7;have b17:=b16.ext0 t7;have g0:=b17.cell 0 rfl;have g1':=b17.cell 1 rfl;have g2':=b17.cell 2 rfl;have f0:=b17.frozen 0;have f1:=b17.frozen 1;have f2:=b17.frozen 2))
   all_goals
    obtain⟨z1,z2⟩:=b17.set3 (.bool s7) (.slice a7 n7 c7) (.slice d7 k7 e7);have h8:=QC.mono _ _ _ _ (a0i (lo:=b) (nb:=2) z2 (by omega) (by omega)) hu7;have b08:=((b05.ext0 t1).ext0 t7).ext z2 (a0d (by omega));have hE8:Ext w _:=ExtX.box (hEr.trans (hE5d.trans (t1.trans t7))) z2 (by omega);have hX8:=(hX6.ext t7).ext z2;rw[<-hD2'.out]at h8;clear k00 k01 k02 k10 k11 k12 k20 k21 k22 m0 m1 m2 g0 g1' g2' f0 f1 f2 i1 i2;go_wp2_with fail
    go_roundw
    case rel=>exact⟨i+1,_,_,_,_,_,_,_,by go_num,by omega,b08,z1,h8,hX8,hE8⟩
    case measure=>simp[intOf];omega
  ·have hin:i=n:=by omega
   subst hin;rw[hdot.out]at hq;have k00:=b1.cell 0 rfl;have k01:=b1.cell 1 rfl;have k02:=b1.cell 2 rfl;go_wp2_with ((with_reducible show wpList _ _ _ (⟨_, .store _ _ _,_,_,_,_⟩::_) _ _);refine a0b a0u rfl rfl b0 rfl rfl (a2B _ _ _ _ _ _ _) ?_;intro w7 r1 r2)
   have h7:=QC.mono _ _ _ _ a0k (QC.mono _ _ _ _ (a0i r2 (by omega) (by omega)) hq);exact bodyPost_ret (a0f rfl rfl a0u r1 rfl) rfl ⟨ExtX.box hEr r2 (by omega),_,rfl,h7⟩
set_option maxRecDepth 100000 in
set_option maxHeartbeats 1600000 in
theorem b2H (X:Nat->Bool) (w:World) (u v t:Value) (x:Mat) (y b:List Rat) (n c B:Nat) (hX:HX X w) (hu:MV (mk X w) u x) (hv:RV (mk X w) v y) (ht:RV (mk X w) t b) (hsh:Shp n c x) (hy:y.length=n) (hb:b.length=c) (hn:n<=96) (hc:c<=96) (hxB:BM B x) (hbB:BR B b) (hB1:1<=B) (hBB:200*B<=68000000000):
  Calls Tryz.prog 111 #[u,v,t] w (a1X X w RC (a4S x y b)):=by
 obtain⟨L,hL⟩:∃L,a4S x y b=L:=⟨_,rfl⟩;have hLl:Hid (L.length=n):=hid (by rw[<-hL,a9i (by rw[hy,hsh.1]),hsh.1]);have hLi:Hid (∀i (h1:i<x.length) (h2:i<y.length) (h:i<L.length),L[i]=y[i] - a2L x[i] b):=hid fun i h1 h2 h=>by subst hL;exact a7G h h1 h2
 have hLn:L.length<=n:=by rw[hLl.out];exact Nat.le_refl _
 have hnL:n<=L.length:=by rw[hLl.out];exact Nat.le_refl _
 obtain⟨ua,uc,rfl,huc,hus⟩:=hu;obtain⟨va,vc,rfl,hvc,hvs⟩:=hv;have hhu:=hus.hd;have hhv:=hvs.hd;have hxl:=hid hsh.1;have hyl:=hid hy;have hbl:=hid hb;have hrw:=hid hsh.2;have hxB':=hid hxB;have hbB':=hid hbB;rw[hsh.1]at hhu huc |-;rw[hy]at hhv hvc |-;rw[hL];clear hL hsh hy hb hxB hbB;go_enter Tryz.func111,Tryz.ntmps111
 go_wp2_with fail
 go_loopw [7,12] (fun o k wr=>∃(i:Nat) (oo:Option Addr) (co:Nat),k= .int .i64 i/\o= .slice oo i co/\i<=n/\OL QC 3 X w.heap.size 32 wr oo co (L.take i)/\Ext w wr) (fun _ k _=>n - (intOf k).toNat)
 case atStart=>exact⟨0,none,0,rfl,rfl,Nat.zero_le _,OL.nil _ _ _ _ _ _,ExtX.refl _⟩
 case round=>
  obtain⟨i,oo,co,rfl,rfl,hi,hO,hE⟩:=hrel;have hXr:HX X wr:=hX.ext hE;have hXu:HX (un X oo) wr:=hO.unX hXr;have hbase:=hE.size;by_cases hlt:i<n
  ·have hix:i<x.length:=by rw[hxl.out];exact hlt
   have hiy:i<y.length:=by rw[hyl.out];exact hlt
   have hiL:i<L.length:=by omega
   have hEd:Ext wr wr.drew:=(ExtX.refl wr).drew;have hsr:Sl RV 1 (mk (un X oo) wr) ua x:=hus.old RV.mono hE (fun j hj=>hO.ob_lt hj);have hyr:Sl QV 3 (mk (un X oo) wr) va y:=hvs.old QV.mono hE (fun j hj=>hO.ob_lt hj);have hbr:RV (mk (un X oo) wr) t b:=a5c RV.mono ht hE (fun j hj=>hO.ob_lt hj);have htk:=hid (a1r L i hiL);have hln:=hid (a1H (l:=L) (i:=i) (by omega));obtain⟨a1,c1,hX1,hc1,hcl1,hq1⟩:=hsr.row i hix;obtain⟨g2,o2,s2,a2,n2,c2,d2,k2,e2,hg2,hX2,hc2,hq2⟩:=hyr.rat QV.shaped i hiy;have hob1:=(a0X hX1).2;have hob2:=(a0X hX2).2;have hrl:=hrw.out x[i] (List.getElem_mem _);have hdb:=a2h (hxB'.out x[i] (List.getElem_mem _)) hbB'.out hB1 (by rw[hrl];exact hc) hBB;have hdq:Hid (hq (a2L x[i] b)<=68719476736):=hid (hdb.1 _ (Nat.le_refl _));have hdot:=a5p (un X oo) wr.drew (.slice a1 x[i].length c1) t x[i] b (hXu.ext hEd) (mkx RV.mono ⟨a1,c1,rfl,hcl1,hq1⟩ hEd) (mkx RV.mono hbr hEd) (by rw[hrl];omega) (by rw[hrl,hbl.out]) hdb.1 hdb.2;have hel:=hLi.out i hix hiy hiL;have hyd:=mkx QV.mono hq2 hEd;obtain⟨D,hD⟩:∃D,a2L x[i] b=D:=⟨_,rfl⟩;obtain⟨yi,hyi⟩:∃yi,y[i]=yi:=⟨_,rfl⟩;obtain⟨z,hz⟩:∃z,L[i]=z:=⟨_,rfl⟩;rw[hD]at hdq hdot hel;rw[hyi]at hyd hel;rw[hz]at hel htk;rw[hrl]at hc1 hdot;have hel':=hid hel;have hXd:HX (un X oo) wr.drew:=hXu;have i2:∀W,(Instr.indexAt 45 (.slice va n vc) (.int .i64 (i:Int))).run Tryz.prog W= .ok (.pointer (some ⟨g2,o2,none⟩)) W:=by rw[<-hg2];exact a0j a0H va n vc .i64 i hhv (by omega)
   have i1:∀W,(Instr.indexAt 25 (.slice ua n uc) (.int .i64 (i:Int))).run Tryz.prog W= .ok (.pointer (some (adr ua i))) W:=a0w a0s ua n uc .i64 i hhu (by omega) rfl;have hS:Hid (∀Y W',ExtX Y wr.drew W'->Y g2=false->Y (adr ua i).block=false->W'.cell? ⟨g2,o2,none⟩=some (.bool s2)/\W'.cell? ⟨g2,o2+1,none⟩=some (.slice a2 n2 c2)/\W'.cell? ⟨g2,o2+2,none⟩=some (.slice d2 k2 e2)/\W'.cell? (adr ua i)=some (.slice a1 c c1)):=hid fun Y W' h hg hg1=>by
    have p2:=hc2.out Y W' ((ExtX.of hEd).trans h) hg;exact⟨p2.1,p2.2.1,p2.2.2,hc1.out Y W' ((ExtX.of hEd).trans h) hg1⟩
   obtain⟨k00,k01,k02,k10⟩:=hS.out noY wr.drew (ExtX.refl _) rfl rfl;have k10w:=hc1.out noY wr (ExtX.refl _) rfl;clear hc1 hc2 hg2 hq1 hq2 hrl hcl1 hdb hel hD hyi hz;go_wp2_with fail
   go_region_held3 (fun w'=>w'.cell? ⟨g2,o2,none⟩=some (.bool s2)/\w'.cell? ⟨g2,o2+1,none⟩=some (.slice a2 n2 c2)/\w'.cell? ⟨g2,o2+2,none⟩=some (.slice d2 k2 e2))
    (first|exact(let p:=hS.out noY _ t1 rfl rfl;⟨p.1,p.2.1,p.2.2.1⟩)|exact(let p:=hS.out noY _ (t1.trans t7) rfl rfl;⟨p.1,p.2.1,p.2.2.1⟩)|exact(let p:=hS.out noY _ (ExtX.alloc (t1.trans t7) _) rfl rfl;⟨p.1,p.2.1,p.2.2.1⟩)|exact(let p:=hS.out (ob oo) _ ((ExtX.of (t1.trans t7)).trans hE7) hob2 hob1;⟨p.1,p.2.1,p.2.2.1⟩)|go_keep)
    (first|(go_at_call 112;(with_reducible refine hdot.mono ?_);rintro ee w6 ⟨t1,u6,rfl,hu6⟩;have hu6v:=hu6.qv hdq.out;have hyd6:=mkx QV.mono hyd t1;have hX6:=hXd.ext t1)|(go_at_call 132;(with_reducible refine(b6f (un X oo) w6 _ _ _ _ hX6 hyd6 hu6v).mono ?_);rintro ee w8 ⟨t7,u7,rfl,hu7⟩;obtain⟨s6,a6,n6,c6,d6,k6,e6,rfl⟩:=hu7.shape;rw[<-hel'.out]at hu7;have hO6:=hO.ext0 QC.elem (hEd.trans (t1.trans t7));have hb6:=(hEd.trans (t1.trans t7)).size;have hX8:=hXr.ext (hEd.trans (t1.trans t7)))|(refine a1b (l:=L.take i) rfl (by rfl) a0H rfl QC.elem (by omega) hX8 i hln.out rfl rfl hO6 (.agg #[.bool s6, .slice a6 n6 c6, .slice d6 k6 e6]) z rfl hu7 (by omega) (by omega) ?_;intro oo2 co2 w7 hO7 hE7 hor))
   have hE8:=(hE.trans (hEd.trans (t1.trans t7))).own hO6 (Nat.le_refl _) hE7;rw[htk.out]at hO7;clear k00 k01 k02 k10 k10w i1 i2;go_wp2_with fail
   go_roundw
   case rel=>exact⟨i+1,oo2,co2,by go_num,by go_num,by omega,hO7,hE8⟩
   case measure=>simp[intOf];omega
  ·have hil:i=n:=by omega
   subst hil;rw[List.take_of_length_le (by omega)]at hO;have hc:=hO.lenCap;have hs:=hO.sl QC.elem;go_wp2_with fail
   go_ret
   exact⟨hE,_,rfl,oo,co,by rw[hLl.out];rfl,hc,hs⟩
end Go.Proofs.YtkddecjkfdogiaaGreat
