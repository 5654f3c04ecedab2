/- leastsq: formed, with its closure; reference 13: formed. Conditions: lengths far below any machine's. matrix: dot. Conditions: few numbers of at most 2^36 digits. matrix: Rank, Det. Conditions: few rows and columns, numbers of few digits. copy into a row that a call has made itself. Conditions: none. matrix: Inverse. Conditions: few rows, numbers of few digits. matrix: Solve. Conditions: few rows, numbers of few digits. leastsq: FromMoments. Conditions: at most four columns, numbers of few digits. selection: gather. Conditions: at most 8 rows and 4 columns, numbers of few digits. The search for the depth, round by round: counts of prefixes, signs, one column; what one round of either text leaves. Conditions: none. exact: Minus. Conditions: at most 10^6 numbers of at most 2^36 digits. halfspace: centred. Conditions: at most 1000 rows and columns. exact: Dot. Conditions: few numbers of at most 2^36 digits. halfspace: Count. Conditions: numbers of at most 10^10 digits. append to a slice without room that is not the call's own: a new block. Conditions: none. append(nil, l...): a copy in a new block. Conditions: none. append where there is room; a list that is cut. Conditions: none. exact.Subsets, over whatever its callback keeps. Conditions: small numbers. halfspace: the search for the depth: what lies in its boxes, one choice of vectors. Conditions: at most 64 vectors of at most 3 numbers of few digits. Small matrices are formed; a literal of one number. Conditions: none. certify.choose. Conditions: k <= n <= 64. Lists of integers in slices: ascending, common elements, equality. Conditions: lengths far below any machine's. -/
import Derived.Test.YtidbbddagfnfbaaGreatSfK
import Derived.WalkMore
import Derived.ArgAppend
import Derived.WalkKit
import Derived.Deep.RegionHeld3
import Derived.Deep.RegionLaw
import Derived.Deep.AppendLies
namespace Go.Lin
def a5N (m:Mom):Bool:=decide (0<=m.n/\m.n<=1099511627776)&&(a0G m.xx&&decide (m.xx.length=a0B m.xx/\m.xx.length=m.xy.length/\m.xy.length<=12))
def a8D (l:Mat) (k:Nat):Bool:=l.any fun r=>decide (r.length≠k)
theorem b0V {l:Mat} (h:a0G l=true):a8D l l.length=false↔l.length=a0B l:=by
 obtain⟨hs,_,_,_,hz⟩:=a0Q h;unfold a8D;rw[List.any_eq_false];constructor
 ·intro h1
  by_cases h0:l.length=0
  ·rw[h0,hz h0]
  ·have:=h1 l[0] (List.getElem_mem (by omega))
   rw[hs.2 _ (List.getElem_mem _)]at this;have h2:a0B l=l.length:=by simpa using this
   exact h2.symm
 ·intro h1 r hr
  rw[hs.2 r hr];simp[h1.symm]
def IxF (l:Mat) (k:Nat) (r:Int):Prop:=decide ((0:Int)<=r)=a8D l k
end Go.Lin
namespace Go.Proofs.YtidbbddagfnfbaaGreat
open Go.RowKit Go.Rep Go.Lim Go.Lin
theorem b4U (w:World) (a:Option Addr) (n c k b:Nat) (xo:Option Addr) (xc:Nat) (hb:w.cell? ⟨b,1,none⟩=some (.slice xo k xc)):
  Calls Tryz.prog 271 #[.slice a n c, .pointer (some ⟨b,0,none⟩)] w (fun e w'=>w'=w/\e= .returned (.bool (decide (n≠k)))):=by
 by_cases h:n=k
 ·have hd:((n:Int) !=(k:Int))=false:=a7U (by omega)
  have hr:=hid (decide_eq_false (fun h2=>h2 h):decide (n≠k)=false);rw[hr.out];clear h;go_enter Tryz.func271,Tryz.ntmps271
  go_wp2_with fail
  go_ret
  exact⟨rfl,rfl⟩
 ·have hd:((n:Int) !=(k:Int))=true:=a7R (by omega)
  have hr:=hid (decide_eq_true h:decide (n≠k)=true);rw[hr.out];clear h;go_enter Tryz.func271,Tryz.ntmps271
  go_wp2_with fail
  go_ret
  exact⟨rfl,rfl⟩
set_option maxRecDepth 100000 in
theorem b0W {R:Mem->Value->Rat->Prop} (X:Nat->Bool) (w:World) (a:Option Addr) (l:List (List Rat)) (n c k b:Nat) (xo:Option Addr) (xc:Nat) (hs:Sl (SlV R 3) 1 (mk X w) a l) (hl:l.length=n) (hn:n<=1000000) (hb:w.cell? ⟨b,1,none⟩=some (.slice xo k xc)):
  Calls Tryz.prog 302 #[.slice a n c, .func (.func 271) #[] #[.pointer (some ⟨b,0,none⟩)]] w (fun e w'=>w'=w/\∃r:Int,e= .returned (.int .i64 r)/\IxF l k r):=by
 have hh:Hd a n:=by have:=hs.hd;rw[hl]at this;exact this
 have hl':=hid hl;clear hl;go_enter Tryz.func302,Tryz.ntmps302
 go_wp2_with fail
 go_loopw [8] (fun q wr=>∃(i:Nat),q= .int .i64 i/\i<=n/\Hid (∀q (hq:q<l.length),q<i->l[q].length=k)/\wr=w) (fun q _=>n - (intOf q).toNat)
 case atStart=>exact⟨0,rfl,Nat.zero_le _,hid (fun q hq h=>by omega),rfl⟩
 case round=>
  obtain⟨i,rfl,hi,hok,rfl⟩:=hrel;by_cases hlt:i<n
  ·have hil:i<l.length:=by rw[hl'.out];exact hlt
   obtain⟨a1,c1,hX1,hc1,hcl1,hq1⟩:=hs.row i hil;have k00:=hc1.out noY wr (ExtX.refl _) rfl;have hcall:=b4U wr a1 l[i].length c1 k b xo xc hb;by_cases h0:l[i].length=k
   ·have hd:Hid (decide (l[i].length≠k)=false):=hid (decide_eq_false (fun h=>h h0))
    rw[hd.out]at hcall;have hok2:Hid (∀q (hq:q<l.length),q<i+1->l[q].length=k):=hid fun q hq hqi=>by
     by_cases e:q=i
     ·subst e;exact h0
     ·exact hok.out q hq (by omega)
    obtain⟨y,hy⟩:∃y,l[i].length=y:=⟨_,rfl⟩;rw[hy]at k00 hcall;clear h0 hc1 hq1 hcl1 hy;go_wp2_with (with_reducible refine a0t a0r (by omega) (by assumption) ?_)
    refine hcall.mono ?_;rintro e w5 ⟨rfl,rfl⟩;clear k00;go_wp2_with fail
    go_roundw
    case rel=>exact⟨i+1,by go_num,by omega,hok2,trivial⟩
    case measure=>simp[intOf];omega
   ·have hd:Hid (decide (l[i].length≠k)=true):=hid (decide_eq_true h0)
    rw[hd.out]at hcall;have hf:IxF l k (i:Int):=by
     unfold IxF a8D;rw[decide_eq_true (by omega)];symm;rw[List.any_eq_true];exact⟨l[i],List.getElem_mem _,by simpa using h0⟩
    obtain⟨y,hy⟩:∃y,l[i].length=y:=⟨_,rfl⟩;rw[hy]at k00 hcall;clear h0 hc1 hq1 hcl1 hy;go_wp2_with (with_reducible refine a0t a0r (by omega) (by assumption) ?_)
    refine hcall.mono ?_;rintro e w5 ⟨rfl,rfl⟩;clear k00;go_wp2_with fail
    go_ret
    exact⟨rfl,_,rfl,hf⟩
  ·have hf:IxF l k (-1):=by
    unfold IxF a8D;rw[decide_eq_false (by omega)];symm;rw[List.any_eq_false];intro r hr;obtain⟨q,hq,rfl⟩:=List.getElem_of_mem hr;simp[hok.out q hq (by rw[hl'.out]at hq;omega)]
   go_wp2_with fail
   go_ret
   exact⟨rfl,_,rfl,hf⟩
set_option maxRecDepth 100000 in
theorem a7M {R:Mem->Value->Rat->Prop} (X:Nat->Bool) (w:World) (a:Option Addr) (l:List (List Rat)) (n c k b:Nat) (xo:Option Addr) (xc:Nat) (hs:Sl (SlV R 3) 1 (mk X w) a l) (hl:l.length=n) (hn:n<=1000000) (hb:w.cell? ⟨b,1,none⟩=some (.slice xo k xc)):
  Calls Tryz.prog 270 #[.slice a n c, .func (.func 271) #[] #[.pointer (some ⟨b,0,none⟩)]] w (fun e w'=>w'=w/\e= .returned (.bool (a8D l k))):=by
 have h0:=b0W X w a l n c k b xo xc hs hl hn hb;unfold IxF at h0;obtain⟨q,hq⟩:∃q,a8D l k=q:=⟨_,rfl⟩;rw[hq]at h0 |-;clear hq;go_enter Tryz.func270,Tryz.ntmps270
 go_wp2_with fail
 refine h0.mono ?_;rintro e w1 ⟨rfl,r,rfl,hr0⟩;have hr:=hid hr0.symm;clear h0 hr0;go_wp2_with fail
 go_ret
 exact⟨rfl,a0n hr.out.symm⟩
set_option maxRecDepth 100000 in
set_option maxHeartbeats 1600000 in
theorem a9s (X:Nat->Bool) (w:World) (u:Value) (m:Mom) (hX:HX X w) (hu:b2B (mk X w) u m) (hl:m.xx.length<=1000000):
  Calls Tryz.prog 226 #[u] w (b1A w (a5N m)):=by
 obtain⟨xo,xl,xc,yo,yl,yc,s,a,n,c,d,k,e,rfl,hx,hy,hq⟩:=hu;obtain⟨W,hW,hE,b0,hz⟩:=a1t w #[.int .i64 m.n, .slice xo xl xc, .slice yo yl yc, .bool s, .slice a n c, .slice d k e] 173;have hXW:HX X W:=hX.ext hE;have hxW:=mkx MV.mono hx hE;have hval:Hid (∀b,b=(decide (0<=m.n/\m.n<=1099511627776)&&(a0G m.xx&&decide (m.xx.length=a0B m.xx/\m.xx.length=m.xy.length/\m.xy.length<=12)))->b=a5N m):=hid fun b h=>h;obtain⟨xo',xc',he,hxc,hxs⟩:=hxW;simp only[Value.slice.injEq]at he;obtain⟨rfl,rfl,rfl⟩:=he;obtain⟨yo',yc',he,hyc,hys⟩:=hy;simp only[Value.slice.injEq]at he;obtain⟨rfl,rfl,rfl⟩:=he;have hxW:MV (mk X W) (.slice xo m.xx.length xc) m.xx:=⟨xo,xc,rfl,hxc,hxs⟩;obtain⟨b,hb⟩:∃b,w.heap.size=b:=⟨_,rfl⟩;rw[hb]at b0 hz;obtain⟨N,hN⟩:∃N,m.n=N:=⟨_,rfl⟩;obtain⟨M,hM⟩:∃M,a5N m=M:=⟨_,rfl⟩;rw[hN]at b0 hval hW |-;rw[hM]at hval |-;obtain⟨x,hxe⟩:∃x,m.xx=x:=⟨_,rfl⟩;rw[hxe]at b0 hval hW hxW hxs hl |-;obtain⟨L,hL⟩:∃L,m.xy.length=L:=⟨_,rfl⟩;rw[hL]at b0 hval hW |-;obtain⟨q,hqe⟩:∃q,x.length=q:=⟨_,rfl⟩;have hq':=hid hqe;have hcn:=hid fun w' (h:Ext W w')=>a7M (R:=QV) X w' xo x q xc q b xo xc (hxs.mono RV.mono (a0p h)) hqe (by omega) ((b0.ext0 h).cell 1 (by rw[hqe];rfl));have htr:=a5G X W (.slice xo x.length xc) x q (a0B x) hXW hxW;have htn:=a5F X W (.slice xo x.length xc) x hxW (by omega);have hac:=hid fun(h:a0G x=true)=>b0V h;rw[hqe]at b0 hval hW htr htn hl hac |-;obtain⟨B,hB⟩:∃B,a8D x q=B:=⟨_,rfl⟩;rw[hB]at hcn hac;obtain⟨C,hC⟩:∃C,a0B x=C:=⟨_,rfl⟩;rw[hC]at htr hval hac;clear hx hN hM hxe hL hqe hB hC hxs hxW hys hyc hxc hq;have k0:=b0.cell 0 rfl;have k1:=b0.cell 1 rfl;have k2:=b0.cell 2 rfl;cases hf:a0G x
 ·have htn2:=htn hf
  clear htr htn hcn hac;by_cases hn0:0<=N
  ·by_cases hn1:N<=1099511627776
   ·have hr:=hid (hval.out false (by rw[hf,Bool.false_and,Bool.and_false]))
    clear hval hf;go_enter Tryz.func226,Tryz.ntmps226
    go_wp2_with fail
    refine htn2.mono ?_;rintro e w1 ⟨rfl,rfl⟩;have hE1:Ext w w1:=hE;go_wp2_with fail
    go_ret
    exact⟨hE1,a0n hr.out⟩
   ·have hr:=hid (hval.out false (by rw[hf,Bool.false_and,Bool.and_false]))
    clear hval hf;go_enter Tryz.func226,Tryz.ntmps226
    go_wp2_with fail
    refine htn2.mono ?_;rintro e w1 ⟨rfl,rfl⟩;have hE1:Ext w w1:=hE;go_wp2_with fail
    go_ret
    exact⟨hE1,a0n hr.out⟩
  ·have hr:=hid (hval.out false (by rw[hf,Bool.false_and,Bool.and_false]))
   clear hval hf;go_enter Tryz.func226,Tryz.ntmps226
   go_wp2_with fail
   refine htn2.mono ?_;rintro e w1 ⟨rfl,rfl⟩;have hE1:Ext w w1:=hE;go_wp2_with fail
   go_ret
   exact⟨hE1,a0n hr.out⟩
 ·have htr2:=htr hf rfl rfl
  have hac2:=hac.out hf;clear htr hac;by_cases hlen:q=L
  ·cases B
   ·have hyes:=hac2.1 rfl
    clear hac2;by_cases hn0:0<=N
    ·by_cases hn1:N<=1099511627776
     ·by_cases hL12:L<=12
      ·have hr:=hid (hval.out true (by rw[hf,decide_eq_true ⟨hn0,hn1⟩,decide_eq_true ⟨hyes,hlen,hL12⟩];rfl))
       have hlt:((q:Int)==(L:Int))=true:=a7e (by omega);have hL2:(L:Int)<=12:=by omega
       clear hval hf htn hlen hyes;go_enter Tryz.func226,Tryz.ntmps226
       go_wp2_with fail
       refine htr2.mono ?_;rintro e w1 ⟨hE1',tv,rfl,_⟩;have hE1:Ext w w1:=hE.trans hE1';have b1:=b0.ext0 hE1';have j0:=b1.cell 0 rfl;have j1:=b1.cell 1 rfl;have j2:=b1.cell 2 rfl;have hc1:=hcn.out w1 hE1';go_wp2_with fail
       refine hc1.mono ?_;rintro e w2 ⟨rfl,rfl⟩;go_wp2_with fail
       go_ret
       exact⟨hE1,a0n hr.out⟩
      ·have hr:=hid (hval.out false (by rw[show decide (q=C/\q=L/\L<=12)=false from decide_eq_false (fun h=>hL12 h.2.2),Bool.and_false,Bool.and_false]))
       have hlt:((q:Int)==(L:Int))=true:=a7e (by omega);have hL2:¬(L:Int)<=12:=by omega
       clear hval hf htn hlen hyes;go_enter Tryz.func226,Tryz.ntmps226
       go_wp2_with fail
       refine htr2.mono ?_;rintro e w1 ⟨hE1',tv,rfl,_⟩;have hE1:Ext w w1:=hE.trans hE1';have b1:=b0.ext0 hE1';have j0:=b1.cell 0 rfl;have j1:=b1.cell 1 rfl;have j2:=b1.cell 2 rfl;have hc1:=hcn.out w1 hE1';go_wp2_with fail
       refine hc1.mono ?_;rintro e w2 ⟨rfl,rfl⟩;go_wp2_with fail
       go_ret
       exact⟨hE1,a0n (by rw[decide_eq_false (by omega)];exact hr.out)⟩
     ·have hr:=hid (hval.out false (by rw[decide_eq_false (fun h=>hn1 h.2),Bool.false_and]))
      have hlt:((q:Int)==(L:Int))=true:=a7e (by omega);clear hval hf htn hlen hyes;go_enter Tryz.func226,Tryz.ntmps226
      go_wp2_with fail
      refine htr2.mono ?_;rintro e w1 ⟨hE1',tv,rfl,_⟩;have hE1:Ext w w1:=hE.trans hE1';have b1:=b0.ext0 hE1';have j0:=b1.cell 0 rfl;have j1:=b1.cell 1 rfl;have j2:=b1.cell 2 rfl;have hc1:=hcn.out w1 hE1';go_wp2_with fail
      refine hc1.mono ?_;rintro e w2 ⟨rfl,rfl⟩;go_wp2_with fail
      go_ret
      exact⟨hE1,a0n hr.out⟩
    ·have hr:=hid (hval.out false (by rw[decide_eq_false (fun h=>hn0 h.1),Bool.false_and]))
     have hlt:((q:Int)==(L:Int))=true:=a7e (by omega);clear hval hf htn hlen hyes;go_enter Tryz.func226,Tryz.ntmps226
     go_wp2_with fail
     refine htr2.mono ?_;rintro e w1 ⟨hE1',tv,rfl,_⟩;have hE1:Ext w w1:=hE.trans hE1';have b1:=b0.ext0 hE1';have j0:=b1.cell 0 rfl;have j1:=b1.cell 1 rfl;have j2:=b1.cell 2 rfl;have hc1:=hcn.out w1 hE1';go_wp2_with fail
     refine hc1.mono ?_;rintro e w2 ⟨rfl,rfl⟩;go_wp2_with fail
     go_ret
     exact⟨hE1,a0n hr.out⟩
   ·have hno:¬q=C:=fun h=>by have:=hac2.2 h;cases this
    clear hac2;by_cases hn0:0<=N
    ·by_cases hn1:N<=1099511627776
     ·have hr:=hid (hval.out false (by rw[show decide (q=C/\q=L/\L<=12)=false from decide_eq_false (fun h=>hno h.1),Bool.and_false,Bool.and_false]))
      have hlt:((q:Int)==(L:Int))=true:=a7e (by omega);clear hval hf htn hlen hno;go_enter Tryz.func226,Tryz.ntmps226
      go_wp2_with fail
      refine htr2.mono ?_;rintro e w1 ⟨hE1',tv,rfl,_⟩;have hE1:Ext w w1:=hE.trans hE1';have b1:=b0.ext0 hE1';have j0:=b1.cell 0 rfl;have j1:=b1.cell 1 rfl;have j2:=b1.cell 2 rfl;have hc1:=hcn.out w1 hE1';go_wp2_with fail
      refine hc1.mono ?_;rintro e w2 ⟨rfl,rfl⟩;go_wp2_with fail
      go_ret
      exact⟨hE1,a0n hr.out⟩
     ·have hr:=hid (hval.out false (by rw[show decide (q=C/\q=L/\L<=12)=false from decide_eq_false (fun h=>hno h.1),Bool.and_false,Bool.and_false]))
      have hlt:((q:Int)==(L:Int))=true:=a7e (by omega);clear hval hf htn hlen hno;go_enter Tryz.func226,Tryz.ntmps226
      go_wp2_with fail
      refine htr2.mono ?_;rintro e w1 ⟨hE1',tv,rfl,_⟩;have hE1:Ext w w1:=hE.trans hE1';have b1:=b0.ext0 hE1';have j0:=b1.cell 0 rfl;have j1:=b1.cell 1 rfl;have j2:=b1.cell 2 rfl;have hc1:=hcn.out w1 hE1';go_wp2_with fail
      refine hc1.mono ?_;rintro e w2 ⟨rfl,rfl⟩;go_wp2_with fail
      go_ret
      exact⟨hE1,a0n hr.out⟩
    ·have hr:=hid (hval.out false (by rw[show decide (q=C/\q=L/\L<=12)=false from decide_eq_false (fun h=>hno h.1),Bool.and_false,Bool.and_false]))
     have hlt:((q:Int)==(L:Int))=true:=a7e (by omega);clear hval hf htn hlen hno;go_enter Tryz.func226,Tryz.ntmps226
     go_wp2_with fail
     refine htr2.mono ?_;rintro e w1 ⟨hE1',tv,rfl,_⟩;have hE1:Ext w w1:=hE.trans hE1';have b1:=b0.ext0 hE1';have j0:=b1.cell 0 rfl;have j1:=b1.cell 1 rfl;have j2:=b1.cell 2 rfl;have hc1:=hcn.out w1 hE1';go_wp2_with fail
     refine hc1.mono ?_;rintro e w2 ⟨rfl,rfl⟩;go_wp2_with fail
     go_ret
     exact⟨hE1,a0n hr.out⟩
  ·clear hcn hac2
   by_cases hn0:0<=N
   ·by_cases hn1:N<=1099511627776
    ·have hr:=hid (hval.out false (by rw[show decide (q=C/\q=L/\L<=12)=false from decide_eq_false (fun h=>hlen h.2.1),Bool.and_false,Bool.and_false]))
     have hlt:((q:Int)==(L:Int))=false:=a2I (by omega);clear hval hf htn hlen;go_enter Tryz.func226,Tryz.ntmps226
     go_wp2_with fail
     refine htr2.mono ?_;rintro e w1 ⟨hE1',tv,rfl,_⟩;have hE1:Ext w w1:=hE.trans hE1';have b1:=b0.ext0 hE1';have j0:=b1.cell 0 rfl;have j1:=b1.cell 1 rfl;have j2:=b1.cell 2 rfl;go_wp2_with fail
     go_ret
     exact⟨hE1,a0n hr.out⟩
    ·have hr:=hid (hval.out false (by rw[show decide (q=C/\q=L/\L<=12)=false from decide_eq_false (fun h=>hlen h.2.1),Bool.and_false,Bool.and_false]))
     have hlt:((q:Int)==(L:Int))=false:=a2I (by omega);clear hval hf htn hlen;go_enter Tryz.func226,Tryz.ntmps226
     go_wp2_with fail
     refine htr2.mono ?_;rintro e w1 ⟨hE1',tv,rfl,_⟩;have hE1:Ext w w1:=hE.trans hE1';have b1:=b0.ext0 hE1';have j0:=b1.cell 0 rfl;have j1:=b1.cell 1 rfl;have j2:=b1.cell 2 rfl;go_wp2_with fail
     go_ret
     exact⟨hE1,a0n hr.out⟩
   ·have hr:=hid (hval.out false (by rw[show decide (q=C/\q=L/\L<=12)=false from decide_eq_false (fun h=>hlen h.2.1),Bool.and_false,Bool.and_false]))
    have hlt:((q:Int)==(L:Int))=false:=a2I (by omega);clear hval hf htn hlen;go_enter Tryz.func226,Tryz.ntmps226
    go_wp2_with fail
    refine htr2.mono ?_;rintro e w1 ⟨hE1',tv,rfl,_⟩;have hE1:Ext w w1:=hE.trans hE1';have b1:=b0.ext0 hE1';have j0:=b1.cell 0 rfl;have j1:=b1.cell 1 rfl;have j2:=b1.cell 2 rfl;go_wp2_with fail
    go_ret
    exact⟨hE1,a0n hr.out⟩
set_option maxRecDepth 100000 in
set_option maxHeartbeats 1600000 in
theorem b4V (X:Nat->Bool) (w:World) (u v:Value) (l m:List Rat) (hX:HX X w) (hu:RV (mk X w) u l) (hv:RV (mk X w) v m) (hn:l.length<=1000000) (hml:m.length=l.length) (hb1:∀k,k<=l.length->hq (a3L l m k)<=68719476736) (hb2:∀k,k<l.length->hq (l.getD k 0*m.getD k 0)<=68719476736):
  Calls Tryz.prog 202 #[u,v] w (a1Z X w QC (a2d l m)):=by
 obtain⟨ao,ca,rfl,hca,hsa⟩:=hu;obtain⟨bo,cb,rfl,hcb,hsb⟩:=hv;have hha:=hsa.hd;have hhb:=hsb.hd;obtain⟨W,hW,hE,b0,b1,hz⟩:=a1v w #[.bool false, .slice none 0 0, .slice none 0 0] #[.bool false, .slice none 0 0, .slice none 0 0] 45 45;have hXW:HX (a0f X w.heap.size 2) W:=hX.boxes hz;have h0:QC (mk (a0f X w.heap.size 2) W) (.agg #[.bool false, .slice none 0 0, .slice none 0 0]) (a3L l m 0):=QC.zero _;obtain⟨n,hln⟩:∃n,l.length=n:=⟨_,rfl⟩;rw[hln]at hn hml hb1 hb2 hca hha |-;rw[hml]at hcb hhb |-;have hln':=hid hln;have hml':=hid hml;have hb1':=hid hb1;have hb2':=hid hb2;have hdot:Hid (a3L l m n=a2d l m):=hid (by unfold a2d;rw[hln]);clear hln hml hb1 hb2;go_enter Tryz.func202,Tryz.ntmps202
 go_wp2_with fail
 obtain⟨b,hb⟩:∃b,w.heap.size=b:=⟨_,rfl⟩;have hle:Hid (∀wr,Ext w wr->Le (mk X w) (mk (a0f X b 2) wr)):=hid fun wr h=>by rw[<-hb];exact a0o h
 have hbw:w.heap.size<=b:=by omega
 rw[hb]at b0 b1 hXW h0 |-;clear hW;go_loopw [10] (fun k wr=>∃(i:Nat) (s:Bool) (a:Option Addr) (n' c':Nat) (d:Option Addr) (kk e:Nat),k= .int .i64 i/\i<=n/\Bx wr b #[.bool false, .slice none 0 0, .slice none 0 0] 45/\Bx wr (b+1) #[.bool s, .slice a n' c', .slice d kk e] 45/\QC (mk (a0f X b 2) wr) (.agg #[.bool s, .slice a n' c', .slice d kk e]) (a3L l m i)/\HX (a0f X b 2) wr/\Ext w wr) (fun k _=>n - (intOf k).toNat)
 case atStart=>exact⟨0,_,_,_,_,_,_,_,rfl,Nat.zero_le _,b0,b1,h0,hXW,hE⟩
 case round=>
  obtain⟨i,s,a,n',c',d,kk,e,rfl,hi,b0,b1,hq,hXr,hEr⟩:=hrel;by_cases hlt:i<n
  ·have hil:i<l.length:=by rw[hln'.out];exact hlt
   have him:i<m.length:=by rw[hml'.out];exact hlt
   have hsr:=hsa.mono QV.mono (hle.out wr hEr);have hsr2:=hsb.mono QV.mono (hle.out wr hEr);obtain⟨g2,o2,s2,p2,n2,q2,d2,k2,e2,hg2,hX2,hc2,hq2⟩:=hsr2.rat QV.shaped i him;have gl:Hid (l.getD i 0=l[i]):=hid (by simp[List.getD_eq_getElem?_getD,hil]);have gm:Hid (m.getD i 0=m[i]):=hid (by simp[List.getD_eq_getElem?_getD,him]);have hst:Hid (a3L l m i+l[i]*m[i]=a3L l m (i+1)):=hid (by rw[<-gl.out,<-gm.out];rfl);have hbo:=hid (hb1'.out i hi);have hbp:=hid (hb2'.out i hlt);rw[gl.out,gm.out]at hbp;obtain⟨x,hx⟩:∃x,l[i]=x:=⟨_,rfl⟩;obtain⟨y,hy⟩:∃y,m[i]=y:=⟨_,rfl⟩;rw[hx,hy]at hst hbp;rw[hy]at hq2;have hx':=hid hx;have i2:∀W,(Instr.indexAt 24 (.slice bo n cb) (.int .i64 (i:Int))).run Tryz.prog W= .ok (.pointer (some ⟨g2,o2,none⟩)) W:=by rw[<-hg2];exact a0h a0D bo n cb .i64 i hhb (by omega)
   have bx:=Bx.new wr #[.bool false, .slice none 0 0, .slice none 0 0] 45;obtain⟨D,hD⟩:∃D,a3L l m i=D:=⟨_,rfl⟩;obtain⟨D2,hD2⟩:∃D2,a3L l m (i+1)=D2:=⟨_,rfl⟩;rw[hD]at hq hst hbo;rw[hD2]at hst;have hD2':=hid hD2;clear hx hy hg2 hD hD2;go_wp2_with (first|(with_reducible refine a2a a0D (by omega) (by assumption) ?_)|((with_reducible show wpList _ _ _ (⟨_, .load 45 _,_,_,_,_⟩::_) _ _);refine a0P a0u i hsr hil rfl (by simp) QV.agg ?_;intro u5 hu5;rw[hx'.out]at hu5;obtain⟨s5,a5,n5,c5,d5,k5,e5,rfl⟩:=hu5.shape)|((with_reducible show wpList _ _ _ (⟨_, .store _ _ _,_,_,_,_⟩::_) _ _);refine a0c a0u rfl rfl bx rfl rfl (a2g _ _ _ _ _ _ _) ?_;intro w5 r1 r2))
   have hE5:Ext wr w5:=ExtX.box ((ExtX.refl wr).alloc _) r2 (Nat.le_refl _);have hEd:Ext w5 w5.drew:=(ExtX.refl w5).drew;have hE5d:=hE5.trans hEd;have b05:=b0.ext0 hE5d;have b15:=b1.ext0 hE5d;have r5:=r1.ext0 hEd;obtain⟨bw,hbw⟩:∃bw,wr.heap.size=bw:=⟨_,rfl⟩;rw[hbw]at r5;have k00:=b15.cell 0 rfl;have k01:=b15.cell 1 rfl;have k02:=b15.cell 2 rfl;have k10:=r5.cell 0 rfl;have k11:=r5.cell 1 rfl;have k12:=r5.cell 2 rfl;obtain⟨k20,k21,k22⟩:=hc2.out noY w5.drew hE5d rfl;have hXd:=hXr.ext hE5d;have hx5:QV (mk (a0f X b 2) w5.drew) (.agg #[.bool s5, .slice a5 n5 c5, .slice d5 k5 e5]) x:=mkx QV.mono hu5 hE5d;have hy5:QV (mk (a0f X b 2) w5.drew) (.agg #[.bool s2, .slice p2 n2 q2, .slice d2 k2 e2]) y:=mkx QV.mono hq2 hE5d;have hq5:QV (mk (a0f X b 2) w5.drew) (.agg #[.bool s, .slice a n' c', .slice d kk e]) D:=(mkx QC.mono hq hE5d).qv hbo.out;clear bx r1 hc2;rw[hbw];go_wp2_with fail
   go_region_with (first|(go_at_call 133;(with_reducible refine(b6M (a0f X b 2) w5.drew _ _ _ _ hXd hx5 hy5).mono ?_);rintro ee w6 ⟨t1,u6,rfl,hu6⟩;obtain⟨s6,a6,n6,c6,d6,k6,e6,rfl⟩:=hu6.shape;have hX6:=hXd.ext t1;have hq6:=mkx QV.mono hq5 t1;have hm6:=hu6.qv hbp.out;have b16:=b15.ext0 t1;have m0:=b16.cell 0 rfl;have m1:=b16.cell 1 rfl;have m2:=b16.cell 2 rfl)|(go_at_call 101;(with_reducible refine(b5L (a0f X b 2) w6 _ _ _ _ hX6 hq6 hm6).mono ?_);rintro ee w7 ⟨t7,u7,rfl,hu7⟩;obtain⟨s7,a7,n7,c7,d7,k7,e7,rfl⟩:=hu7.shape;rw[hst.out]at hu7;have b17:=b16.ext0 t7;have g0:=b17.cell 0 rfl;have g1:=b17.cell 1 rfl;have g2':=b17.cell 2 rfl;have f0:=b17.frozen 0;have f1:=b17.frozen 1;have f2:=b17.frozen 2))
   all_goals
    obtain⟨z1,z2⟩:=b17.set3 (.bool s7) (.slice a7 n7 c7) (.slice d7 k7 e7);have h8:=QC.mono _ _ _ _ (a0i (lo:=b) (nb:=2) z2 (by omega) (by omega)) hu7;have b08:=((b05.ext0 t1).ext0 t7).ext z2 (a0b (by omega));have hE8:Ext w _:=ExtX.box (hEr.trans (hE5d.trans (t1.trans t7))) z2 (by omega);have hX8:=(hX6.ext t7).ext z2;rw[<-hD2'.out]at h8;clear k00 k01 k02 k10 k11 k12 k20 k21 k22 m0 m1 m2 g0 g1 g2' f0 f1 f2 i2;go_wp2_with fail
    go_roundw
    case rel=>exact⟨i+1,_,_,_,_,_,_,_,by go_num,by omega,b08,z1,h8,hX8,hE8⟩
    case measure=>simp[intOf];omega
  ·have hin:i=n:=by omega
   subst hin;rw[hdot.out]at hq;have k00:=b1.cell 0 rfl;have k01:=b1.cell 1 rfl;have k02:=b1.cell 2 rfl;go_wp2_with ((with_reducible show wpList _ _ _ (⟨_, .store _ _ _,_,_,_,_⟩::_) _ _);refine a0c a0u rfl rfl b0 rfl rfl (a2g _ _ _ _ _ _ _) ?_;intro w7 r1 r2)
   have h7:=QC.mono _ _ _ _ a0l (QC.mono _ _ _ _ (a0i r2 (by omega) (by omega)) hq);exact bodyPost_ret (a0e rfl rfl a0u r1 rfl) rfl ⟨ExtX.box hEr r2 (by omega),_,rfl,h7⟩
theorem b7K (X:Nat->Bool) (w:World) (u:Value) (m:List (List Rat)) (hX:HX X w) (hu:MV (mk X w) u m) (hf:a0G m=true) (hT:b7f m (a0B m)):Calls Tryz.prog 228 #[u] w (fun e w'=>Ext w w'/\e= .returned (.tuple #[.int .i64 (a8m m (a0B m):Int), .int .i64 0])):=by
 obtain⟨hsh,h96,hc96,_,_⟩:=a0Q hf;have hfo:=a3Y X w u m hu (by omega);rw[hf]at hfo;have hco:=a5o X w u m m.length (a0B m) hX hu hsh rfl (by omega) (by omega);have hrv:Hid ((eN m (a0B m)).2.1.length=a8m m (a0B m)):=hid rfl;clear hf;go_enter Tryz.func228,Tryz.ntmps228
 go_wp2_with fail
 refine hfo.mono ?_;rintro e w1 ⟨rfl,rfl⟩;go_wp2_with fail
 refine hco.mono ?_;rintro e w2 ⟨hE2,ao,cap,hs,rfl,hM2⟩;go_wp2_with fail
 refine(a6n X _ w2 ao cap m.length (a0B m) hs m (hX.ext hE2) hM2 hsh rfl (by omega) (by omega) hT).mono ?_;rintro e w3 ⟨hE3,po,pc,hs',rfl,hmb,hM3,hP3⟩;have hEf:=hM2.ext_from hE2 (Nat.le_refl _) hE3;rw[hrv.out];go_wp2_with fail
 go_ret2
 exact⟨hEf,rfl⟩
end Go.Proofs.YtidbbddagfnfbaaGreat
namespace Go.Rep
open Go.RowKit Go.Lim
section
variable {P:Program} {ops:Array Oper} {Q:Exit->Act->World->Prop} {rest:List Oper} {a:Act} {w:World}
variable {α:Type} {R:Mem->Value->α->Prop} {sz:Nat} {X:Nat->Bool} {base:Nat} {e:TypeId} {ao:Option Addr} {cap:Nat} {l:List α}
variable {d:Option Tmp} {ty:TypeId} {ps:String} {af:Array Edge}
theorem OL.run_copy {t by_:Nat} {z:Value} (T:SliceT P t e sz by_ z) (hR:Elem R sz) (h:OL R sz X base e w ao cap l) (sa:Option Addr) (ca:Nat) (us':List Value) (xs:List α) (hat:At w sa us') (hlen:us'.length=xs.length)
  (hxs:∀i (hi:i<us'.length) (hi':i<xs.length),R (mk (un X ao) w) us'[i] xs[i]) (hk:xs.length<=l.length) (h0:0<xs.length) (ty:TypeId):
  ∃w',(Builtin.copy_ #[t,t] ty #[.slice ao l.length cap, .slice sa xs.length ca]).run P w= .ok (goInt xs.length) w'/\OL R sz X base e w' ao cap (xs++l.drop xs.length)/\ExtX (ob ao) w w':=by
 obtain⟨i,hi,hz,hsz,hby⟩:=info_parts T.info;have hus':∀u∈us',u.cells.size=sz:=by
  intro v hv;obtain⟨i,hi,rfl⟩:=List.getElem_of_mem hv;exact hR.size _ _ _ (hxs i hi (by omega))
 have hone':∀u∈us',∀c∈a0j u,c.oneCell'=true:=by
  intro v hv;obtain⟨i,hi,rfl⟩:=List.getElem_of_mem hv;exact hR.one _ _ _ (hxs i hi (by omega))
 have hone2:∀v∈us'.flatMap a0j,v.oneCell'=true:=by
  intro c hc;obtain⟨v,hv,hcv⟩:=List.mem_flatMap.1 hc;exact hone' v hv c hcv
 obtain⟨sb,so,rfl⟩:=hat.1 (by omega);have hnews:∀j u,(us'.flatMap a0j)[j]? =some u->w.cell? ((⟨sb,so,none⟩:Addr).add j)=some u:=by
  intro j u hj;rw[<-a7f rfl];exact hat.2 j u hj
 have hnl:(us'.flatMap a0j).length=xs.length*sz:=by rw[a0L us' hus',hlen]
 have hform:=h.form;obtain⟨hx,us,h1,h2,h22,h3,h5⟩:=h;rcases hform with⟨rfl,rfl,rfl⟩|⟨g,cur,rfl,h6,h7,h8,h9,h10⟩
 ·simp at hk;subst hk;simp at h0
 have hfit:0+(us'.flatMap a0j).length<=cur.size:=by
  rw[Nat.zero_add,hnl,h10];exact Nat.mul_le_mul_right _ (by omega)
 have hld:=run_loadCells_list (P:=P) w ⟨sb,so,none⟩ (us'.flatMap a0j) hnews;have hst:=run_storeCells_at P g 0 e (us'.flatMap a0j) 0 cur w h7 (by simpa using hfit) hone2;have hE:ExtX (ob (some ⟨g,0,none⟩)) w (w.setRow g (cur.toList.take (0+0)++us'.flatMap a0j++cur.toList.drop (0+0+(us'.flatMap a0j).length)).toArray):=
  ⟨rfl,rfl,rfl,by simp,fun k _ hk=>setRow_other w g k _ (fun ek=>by subst ek;simp[ob]at hk)⟩
 have hmin:Nat.min xs.length l.length=xs.length:=Nat.min_eq_left hk;have hdl:∀u∈us'++us.drop xs.length,u.cells.size=sz:=by
  intro u hu;rcases List.mem_append.1 hu with hu|hu
  ·exact hus' u hu
  ·exact h2 u (List.mem_of_mem_drop hu)
 have hlen2:(us'++us.drop xs.length).length=(xs++l.drop xs.length).length:=by simp[hlen,h1]
 refine⟨_,?_,⟨hx,us'++us.drop xs.length,hlen2,hdl,?_,⟨?_, .inr ⟨g,cap,_,by simp,h6,setRow_heap w g cur _ e _ h7,by simp;omega,h9,?_,?_⟩⟩,?_⟩,hE⟩
 ·have hld2:(loadCells ⟨sb,so,none⟩ (xs.length*i.size)).run P w= .ok (us'.flatMap a0j).toArray w:=by rw[hsz,<-hnl];exact hld
  simp[Builtin.copy_,run_underlying T.und,Builtin.lenOf,Builtin.firstCells,sizeOf,typeInfo,hi,hmin,hld2,hst]
 ·intro u hu c hc
  rcases List.mem_append.1 hu with hu|hu
  ·exact hone' u hu c hc
  ·exact h22 u (List.mem_of_mem_drop hu) c hc
 ·rw[a0L _ hdl,hlen2]
 ·simp only[List.size_toArray,List.length_append,List.length_take,List.length_drop,Array.length_toList,h10,Nat.add_zero,Nat.zero_add,hnl]
  have:=Nat.mul_le_mul_right sz (show xs.length<=cap by omega);omega
 ·rcases h3.2 with⟨hv,_⟩|⟨g',c',cur',hv,_,h7',_,_,_,h11⟩
  ·simp at hv
  simp at hv;obtain⟨rfl,rfl⟩:=hv;rw[h7]at h7';obtain rfl:cur=cur':=by simpa using h7'
  have hfu:us.flatMap a0j=(us.take xs.length).flatMap a0j++(us.drop xs.length).flatMap a0j:=by
   rw[<-List.flatMap_append,List.take_append_drop]
  have hft:((us.take xs.length).flatMap a0j).length=xs.length*sz:=by
   rw[a0L _ (fun u hu=>h2 u (List.mem_of_mem_take hu))];simp[h1,Nat.min_eq_left hk]
  have hdr:(us.drop xs.length).flatMap a0j=(cur.toList.take (l.length*sz)).drop (xs.length*sz):=by
   rw[h11,hfu,<-hft,List.drop_left]
  rw[List.flatMap_append,hdr];simp only[Nat.zero_add,List.take_zero,List.nil_append,hnl,List.length_append,List.length_drop,Nat.add_sub_cancel' hk];rw[List.take_append,List.take_of_length_le (by rw[hnl];exact Nat.mul_le_mul_right _ hk),hnl,List.drop_take]
 ·intro j hj hj'
  have hle:Le (mk (un X (some ⟨g,0,none⟩)) w) (mk (un X (some ⟨g,0,none⟩)) _):=a2U hE (.inl rfl);by_cases hlt:j<us'.length
  ·simpa[List.getElem_append_left hlt,List.getElem_append_left (show j<xs.length by omega)]using hR.mono _ _ _ _ hle (hxs j hlt (by omega))
  ·have hj2:xs.length+(j - xs.length)<us.length:=by simp at hj;omega
   have:=hR.mono _ _ _ _ hle (h5 (xs.length+(j - xs.length)) hj2 (by omega));have e1:xs.length+(j - xs.length)=j:=by omega
   simpa[List.getElem_append_right (show us'.length<=j by omega),List.getElem_append_right (show xs.length<=j by omega),hlen,e1]using this
theorem b2W {t by_:Nat} {z:Value} {s x:Operand} {sa:Option Addr} {ca n k:Nat} (T:SliceT P t e sz by_ z) (hR:Elem R sz) (xs:List α) (hs:a.eval s= .slice ao n cap) (hn:l.length=n) (hx:a.eval x= .slice sa k ca) (hkx:xs.length=k) (h:OL R sz X base e w ao cap l)
  (hxs:Sl R sz (mk (un X ao) w) sa xs) (hk:k<=n) (h0:0<k)
  (K:∀w',OL R sz X base e w' ao cap (xs++l.drop k)->ExtX (ob ao) w w'->wpList P ops Q rest (a.put d (.int .i64 (k:Int))) w'):
  wpList P ops Q (⟨d, .call {callee:= .builtin .copy,args:=#[s,x],argTypes:=#[t,t]},ty,ps,af,none⟩::rest) a w:=by
 refine wpList_plain rfl fun K' hK'=>?_;subst hn;subst hkx;obtain⟨us,h1,h2,h3⟩:=hxs.at_ hR;obtain⟨w',hr,h2,h3⟩:=h.run_copy (P:=P) T hR sa ca us xs h2 h1 h3 hk h0 ty;unfold Oper.wp execOp;simp only[resolve,invoke,builtin,Sem.run_bind,Sem.run_pure,Result.andThen_ok,List.map_toArray,List.map_cons,List.map_nil,hs,hx,hr];exact hK' _ _ (K w' h2 h3)
end
end Go.Rep
namespace Go.Lin
def b9u (r c:Nat):Mat:=List.replicate r (List.replicate c 0)
theorem b4W (r c:Nat):(b9u r c).length=r:=List.length_replicate
theorem b4X {r c i:Nat} (h:i<(b9u r c).length):(b9u r c)[i]=List.replicate c 0:=List.getElem_replicate h
end Go.Lin
namespace Go.Proofs.YtidbbddagfnfbaaGreat
open Go.RowKit Go.Rep Go.Lim Go.Lin
def b0r (X:Nat->Bool) (w:World) (S:Mat×List Nat) (c:Nat) (e:Ending) (w':World):Prop:=Ext w w'/\((c∈S.2/\e= .returned (.tuple #[.slice none 0 0, .int .i64 11]))\/(c∉S.2/\∃u,e= .returned (.tuple #[u, .int .i64 0])/\RC (mk X w') u (b5U S.1 S.2 c)))
set_option maxRecDepth 100000 in
set_option maxHeartbeats 1600000 in
theorem b4Y (X:Nat->Bool) (w:World) (u v:Value) (m:List (List Rat)) (b:List Rat) (n c:Nat) (hX:HX X w) (hu:MV (mk X w) u m) (hv:RV (mk X w) v b) (hf:a0G m=true) (hnn:m.length=n) (hcc:a0B m=c) (hbl:b.length=n) (hT:b4q (a2N m b n) (c+1)):Calls Tryz.prog 227 #[u,v] w (b0r X w (a1b (a2N m b n) (c+1)) c):=by
 obtain⟨hsh,h96,hc96,hpos,_⟩:=a0Q hf;rw[hnn,hcc]at hsh;rw[hnn]at h96 hpos;rw[hcc]at hc96 hpos;have hfo:=a3Y X w u m hu (by omega);rw[hf]at hfo;have hcol:=a3p X w u m hu;rw[hcc]at hcol;have hsh':=hid hsh;have hnn':=hid hnn;have hcc':=hid hcc;have hbl':=hid hbl;have hWs:=hid (a2e (b:=b) hsh);have hwg:Hid (∀i (h:i<(a2N m b n).length) (hi:i<m.length) (hb:i<b.length),(a2N m b n)[i]=m[i]++[b[i]]):=hid fun i h hi hb=>b2g h hi hb;have hWc:0<n->a0B (a2N m b n)=c+1:=fun h=>b7p (a2e (b:=b) hsh) h;obtain⟨W,hW⟩:∃W,a2N m b n=W:=⟨_,rfl⟩;rw[hW]at hWs hT hwg hWc |-;have hTt:=hid (b2i hWs.out (a0B W) hWc hT);have hRc:=hid (b2h hWs.out (a0B W) hWc);have hWcs:Hid (Shp n (a0B W) W):=hid ⟨hWs.out.1,fun r hr=>by
  have:=List.length_pos_of_mem hr;rw[hWc (by rw[<-hWs.out.1];exact this)];exact hWs.out.2 r hr⟩
 have hWc9:Hid (a0B W<=900):=hid (by
  by_cases h0:0<n
  ·rw[hWc h0];omega
  ·have:W= []:=List.eq_nil_of_length_eq_zero (by rw[hWs.out.1];omega)
   subst this;exact Nat.zero_le _)
 obtain⟨ua,uca,rfl,huca,hua⟩:=hu;have hu:MV (mk X w) (.slice ua m.length uca) m:=⟨ua,uca,rfl,huca,hua⟩;obtain⟨va,vca,rfl,hvca,hva⟩:=hv;have hhv:=hva.hd;rw[hnn]at hfo hcol hu |-;rw[hbl]at hvca hhv |-;have hw2:wrap64 ((c:Int)+1)=((c+1:Nat):Int):=by rw[IntWalk.wrap64_in _ (by omega)];omega
 have hneq:((n:Int) !=(n:Int))=false:=a7U rfl;clear hf hnn hcc hsh huca hua hW hT hWc hbl;go_enter Tryz.func227,Tryz.ntmps227
 go_wp2_with fail
 refine hfo.mono ?_;rintro e w1 ⟨rfl,rfl⟩;go_wp2_with fail
 refine hcol.mono ?_;rintro e w2 ⟨rfl,rfl⟩;go_wp2_with fail
 refine(a7C X w2 n (c+1) hX (by omega) (by omega)).mono ?_;rintro e w3 ⟨hE3,ao,cap,hs,rfl,hM3⟩;rw[List.length_replicate];have hlen:Hid (hs.length=n):=hid (by rw[hM3.len];simp);have hhO:Hd ao n:=by have:=hM3.outer.hd;rw[hlen.out]at this;exact this
 have hX3:=hX.ext hE3;have hZ3:=hM3.hz hX3;have hu3:=hM3.old MV.mono hu hE3 (Nat.le_refl _) (fun _ _ h=>h);have hv3:=hva.mono QV.mono (fun a v h=>((a1f (X:=X) (Z:=mz X ao hs) hE3 (fun k _ hk=>by simp[noY]at hk) fun k hk hz=>by
  rcases a1N.1 hz with a|a
  ·exact a
  ·have:=(hM3.mb_block (a2n.2 a)).1;omega) a v h))
 obtain⟨V,hV⟩:∃V,b9u n (c+1)=V:=⟨_,rfl⟩;have hVl:Hid (V.length=n):=hid (by rw[<-hV];exact b4W _ _);have hVg:Hid (∀i (h:i<V.length),V[i]=List.replicate (c+1) 0):=hid fun i h=>by subst hV;exact b4X h
 have hWV:Hid (W.length=V.length):=hid (by rw[hVl.out];exact hWs.out.1)
 change MO X w2.heap.size _ _ w3 ao cap hs (b9u n (c+1))at hM3
 rw[hV,<-a4T W V]at hM3;have hco:=a5o (mz X ao hs) w3 _ m n c hZ3 hu3 hsh'.out hcc'.out (by omega) (by omega);clear hfo hcol hu hu3 hV;go_wp2_with fail
 refine hco.mono ?_;rintro e w4 ⟨hE4,bo,capb,hs4,rfl,hM4⟩;have hmc4:=hM4.mc;rw[hnn'.out]at hmc4 |-;have hM34:=hM3.ext0 hE4;have hE04:=hE3.trans hE4;obtain⟨ba,bca,heq,hbca,hsb⟩:=hmc4;simp only[Value.slice.injEq]at heq;obtain⟨rfl,hx9,rfl⟩:=heq;clear hx9;have hhb:=hsb.hd;rw[hnn'.out]at hhb;obtain⟨Z,hZe⟩:∃Z,mz X ao hs=Z:=⟨_,rfl⟩;have hZ':=hid hZe;rw[hZe]at hsb hZ3 hv3;have hv4:=hv3.mono QV.mono (a0p hE4);clear hv3;clear hco hM3 hM4 hZe;go_wp2_with fail
 go_loopw [33] (fun k wr=>∃(i:Nat),k= .int .i64 i/\i<=n/\MO X w2.heap.size 24 45 wr ao cap hs (mix W V i)/\Sl RC 1 (mk Z wr) bo m/\Sl QV 3 (mk Z wr) va b/\Ext w2 wr) (fun k _=>n - (intOf k).toNat)
 case atStart=>exact⟨0,rfl,Nat.zero_le _,hM34,hsb,hv4,hE04⟩
 case round=>
  obtain⟨i,rfl,hi,hM,hsb,hva,hE⟩:=hrel;by_cases hlt:i<n
  ·have him:i<m.length:=by rw[hnn'.out];exact hlt
   obtain⟨a1,c1,hX1,hc1,hcl1,hq1⟩:=hsb.row i him;have k00:=hc1.out noY wr (ExtX.refl _) rfl;have hxl:Hid (m[i].length=c):=hid (hsh'.out.2 _ (List.getElem_mem _));have hiV:i<V.length:=by rw[hVl.out];exact hlt
   have hiW:i<W.length:=by rw[hWV.out];exact hiV
   have hib:i<b.length:=by rw[hbl'.out];exact hlt
   have hWi:=hid (hwg.out i hiW him hib);have hVi:=hid (hVg.out i hiV);obtain⟨x,hx⟩:∃x,m[i]=x:=⟨_,rfl⟩;rw[hx]at k00 hcl1 hq1 hxl hWi;rw[hxl.out]at k00 hcl1;have hh1:Hd a1 c:=by have:=hq1.hd;rw[hxl.out]at this;exact this
   have hih:i<hs.length:=by rw[hlen.out];exact hlt
   have hmi:i<(mix W V i).length:=by rw[a2j hWV.out];exact hiW
   have hmg:Hid ((mix W V i)[i]=List.replicate (c+1) 0):=hid (by rw[a1W hWV.out,if_neg (by omega)];exact hVi.out);have hms:Hid ((mix W V i).set i (x++[b[i]])=mix W V (i+1)):=hid (by rw[<-hWi.out];exact a6m hWV.out hiW);obtain⟨a,na,cr,hhd⟩:∃a na cr,hs[i]=(a,na,cr):=⟨_,_,_,rfl⟩;have hna:na=c+1:=by
    have:=hM.rlen i hih hmi;rw[hhd,hmg.out,List.length_replicate]at this;exact this
   have hR:=hM.row i hih hmi;rw[hmg.out]at hR;simp only[hhd]at hR;have hz1:=fun k (hk:ob a k=true)=>hM.mz_sub hih k (by rw[hhd];exact hk);have hsp:=fun k (hk:ob a k=true)=>hM.sep i hih k (by rw[hhd];exact hk);have hun:Hid (un (cut (mz X ao hs) a) a=Z):=hid (by rw[a5E hz1];exact hZ'.out);have hda:Hd a na:=by have:=hR.hd;rw[List.length_replicate,<-hna]at this;exact this
   have hna':=hid hna;have y1:wr.cell? (adr ao i)=some (.slice a na cr):=by
    have:=(hM.hdr i hih).1;rw[hhd]at this;exact this
   have haob:Hid (ob a (adr ao i).block=false):=hid (by
    cases hb:ob a (adr ao i).block
    ·rfl
    ·have h1:=(hsp _ hb).2
     obtain⟨b0,o0,rfl⟩:=hhO (by omega);simp[ob,adr]at h1)
   have hhd':=hid hhd;have hRl:Hid ((List.replicate (c+1) (0:Rat)).length=na):=hid (by rw[hna];exact List.length_replicate);have hqz:Sl QC 3 (mk (un (cut (mz X ao hs) a) a) wr) a1 x:=by rw[hun.out];exact hq1
   clear hc1 hx hhd hna;obtain⟨wo,hwo⟩:∃wo,wo=wr:=⟨_,rfl⟩;subst hwo;go_wp2_with (first|(with_reducible refine a0t a0r (by omega) (by assumption) ?_)|(refine b2W a0D QC.elem x rfl hRl.out rfl hxl.out hR hqz (by rw[hna'.out];omega) (by have:=hpos (by omega);omega) ?_;intro w5 hO5 hE5;have y5:=hE5.cellY y1 haob.out))
   have hxi:x++List.drop c (List.replicate (c+1) (0:Rat))=x++[0]:=by rw[List.drop_replicate,show c+1 - c=1 by omega];rfl
   rw[hxi]at hO5;have hzz:∀k,ob a k=true->Z k=true:=fun k hk=>by rw[<-hZ'.out];exact hz1 k hk
   have hxr:Hid ((x++[(0:Rat)]).length=na):=hid (by rw[List.length_append,hxl.out,hna'.out];rfl);have hM5:=hM.upd hih (l:=x++[(0:Rat)]) (show ExtX (ob hs[i].1) wo w5 by rw[hhd'.out];exact hE5) (fun hi'=>by rw[hmg.out,List.length_replicate,hxr.out,hna'.out]) (by rw[hhd'.out];exact hO5);have hsb5:=hsb.mono RC.mono (a0x hE5 hzz);have hE05:=hM.ext_from hE (Nat.le_refl _) (ExtX.row hih (show ExtX (ob hs[i].1) wo w5 by rw[hhd'.out];exact hE5));have hput:Hid ((x++[(0:Rat)]).set c b[i]=x++[b[i]]):=hid (by rw[List.set_append_right _ _ (by rw[hxl.out];exact Nat.le_refl _),hxl.out,Nat.sub_self];rfl);have hni:c<(x++[(0:Rat)]).length:=by rw[hxr.out,hna'.out];omega
   have hZ5:HX Z w5:=by
    have h1:=hM5.hz (hX.ext hE05);rw[hZ'.out]at h1;exact h1
   have hEd:Ext w5 w5.drew:=(ExtX.refl w5).drew;obtain⟨g4,o4,s4,a4,n4,c4,d4,k4,e4,hg4,hX4,hc4,hq4⟩:=hva.rat QV.shaped i hib;have hab4:Hid (ob a g4=false):=hid (by
    cases hb:ob a g4
    ·rfl
    ·have:=hzz g4 hb;rw[hX4]at this;simp at this)
   have hv5:=hva.mono QV.mono (a0x hE5 hzz);have hq5:QV (mk Z w5.drew) (.agg #[.bool s4, .slice a4 n4 c4, .slice d4 k4 e4]) b[i]:=mkx QV.mono (QV.mono _ _ _ _ (a0x hE5 hzz) hq4) hEd;obtain⟨v,hv⟩:∃v,b[i]=v:=⟨_,rfl⟩;rw[hv]at hput hq5 hms;obtain⟨L,hL⟩:∃L,x++[(0:Rat)]=L:=⟨_,rfl⟩;rw[hL]at hO5 hM5 hxr hput hni;obtain⟨L2,hL2⟩:∃L2,x++[v]=L2:=⟨_,rfl⟩;rw[hL2]at hput hms;have hL2l:Hid (L2.length=L.length):=hid (by rw[<-hput.out,List.length_set]);obtain⟨g,o,hg⟩:∃g o,adr a (c*3)=⟨g,o,none⟩:=⟨_,_,rfl⟩;have i2:∀W,(Instr.indexAt 24 (.slice a na cr) (.int .i64 (c:Int))).run Tryz.prog W= .ok (.pointer (some ⟨g,o,none⟩)) W:=by
    rw[<-hg];exact a0h a0D a na cr .i64 c hda (by rw[hna'.out];omega)
   have i3:∀W,(Instr.indexAt 24 (.slice va n vca) (.int .i64 (i:Int))).run Tryz.prog W= .ok (.pointer (some ⟨g4,o4,none⟩)) W:=by
    rw[<-hg4];exact a0h a0D va n vca .i64 i hhv (by omega)
   have i1:∀W,(Instr.indexAt 23 (.slice ao n cap) (.int .i64 (i:Int))).run Tryz.prog W= .ok (.pointer (some (adr ao i))) W:=a0C a0r ao n cap .i64 i hhO (by omega) rfl;have hg':=hid hg;have hS:Hid (∀Y W',ExtX Y w5.drew W'->Y (adr ao i).block=false->Y g4=false->W'.cell? (adr ao i)=some (.slice a na cr)/\W'.cell? ⟨g4,o4,none⟩=some (.bool s4)/\W'.cell? ⟨g4,o4+1,none⟩=some (.slice a4 n4 c4)/\W'.cell? ⟨g4,o4+2,none⟩=some (.slice d4 k4 e4)):=hid fun Y W' h hy1 hy2=>by
    have p:=hc4.out (ob a) w5.drew (hE5.trans (ExtX.of hEd)) hab4.out;exact⟨h.cellY (hEd.cell y5) hy1,h.cellY p.1 hy2,h.cellY p.2.1 hy2,h.cellY p.2.2 hy2⟩
   obtain⟨k20,k30,k31,k32⟩:=hS.out noY w5.drew (ExtX.refl _) rfl rfl;have hO5d:=hO5.ext0 QC.elem hEd;have h00:QV (mk Z w5.drew) (.agg #[.bool false, .slice none 0 0, .slice none 0 0]) 0:=(QC.zero _).qv (by rw[a0Y];decide);have qf:=b5L Z w5.drew _ _ _ 0 (hZ5.ext hEd) hq5 h00;rw[Rat.add_zero]at qf;have hun':Hid (un (cut (mz X ao hs) a) a=Z):=hun;clear hxi hL hL2 hg hg4 hc4 hq4 hv y1 y5 hR hqz hq1 k00 hM hsb hva;go_region_held3 (fun w'=>w'.cell? (adr ao i)=some (.slice a na cr)/\w'.cell? ⟨g4,o4,none⟩=some (.bool s4)/\w'.cell? ⟨g4,o4+1,none⟩=some (.slice a4 n4 c4)/\w'.cell? ⟨g4,o4+2,none⟩=some (.slice d4 k4 e4))
    (first|exact hS.out noY _ t1 rfl rfl|exact hS.out (ob a) _ ((ExtX.of t1).trans hset.2) haob.out hab4.out|go_keep)
    ((go_at_call 101;(with_reducible refine qf.mono ?_);rintro ee w6 ⟨t1,u6,rfl,hu6⟩;obtain⟨s6,a6,n6,c6,d6,k6,e6,rfl⟩:=hu6.shape;have hO6:=hO5d.ext0 QC.elem t1;obtain⟨_,v0,v1,v2,_,⟨g0,f0⟩,⟨g1,f1⟩,⟨g2,f2⟩,_⟩:=hO6.cell3 c hni hg'.out;have hset:=hO6.set3 a6E QC.elem c hni hg'.out (v0:= .bool s6) (v1:= .slice a6 n6 c6) (v2:= .slice d6 k6 e6) (x:=v) (by rw[hun'.out];exact hu6)))
   obtain⟨q1,q2⟩:=hset;rw[hput.out]at q1;obtain⟨w8,hw8⟩:∃w8,((w6.setCell ⟨g,o,none⟩ (.bool s6)).setCell ⟨g,o+1,none⟩ (.slice a6 n6 c6)).setCell ⟨g,o+2,none⟩ (.slice d6 k6 e6)=w8:=⟨_,rfl⟩;rw[hw8]at q1 q2 |-;have q2':ExtX (ob hs[i].1) w6 w8:=by rw[hhd'.out];exact q2
   have hM6:=hM5.ext0 (hEd.trans t1);have hM7:=hM6.upd hih (l:=L2) q2' (fun hi'=>by rw[List.getElem_set_self];exact hL2l.out) (by rw[hhd'.out];exact q1);rw[List.set_set,hms.out]at hM7;have hs8:=(hsb5.mono RC.mono (a0p (hEd.trans t1))).mono RC.mono (a0x q2 hzz);have hv8:=(hv5.mono QV.mono (a0p (hEd.trans t1))).mono QV.mono (a0x q2 hzz);have hE8:=hM6.ext_from (hE05.trans (hEd.trans t1)) (Nat.le_refl _) (ExtX.row hih q2');clear k20 k30 k31 k32 g0 g1 g2 f0 f1 f2 i1 i2 i3 hw8;go_wp2_with fail
   go_roundw
   case rel=>exact⟨i+1,by go_num,by omega,hM7,hs8,hv8,hE8⟩
   case measure=>simp[intOf];omega
  ·have hin:i=n:=by omega
   subst hin;rw[a4U (by rw[hWs.out.1];exact Nat.le_refl _) (by rw[hVl.out];exact Nat.le_refl _)]at hM;have hXr:=hX.ext hE;have hZr:=hM.hz hXr;obtain⟨wo,hwo⟩:∃wo,wo=wr:=⟨_,rfl⟩;subst hwo;go_wp2_with ((with_reducible show wpList _ _ _ (⟨_, .makeSlice _ _ _,_,_,_,_⟩::_) _ _);refine a2C (R:=QC) a0D QC.elem (0:Rat) (fun _=>QC.zero _) (mz X ao hs) hZr wo.heap.size (Nat.le_refl _) c rfl rfl rfl (by omega) (by omega) ?_;intro oo w5 hO5 hE5)
   have hw2o:=hE.size;have hob:=fun k (hk:ob oo k=true)=>hO5.block hk;have hoX:∀k,ob oo k=true->X k=false:=fun k hk=>by
    cases hx:X k
    ·rfl
    ·have:=(hob k hk).1;have:=hXr k hx;omega
   have hM5:MO (un X oo) w2.heap.size 24 45 w5 ao cap hs W:=hM.ext hE5 (fun k _ hk=>by simp[noY]at hk) (fun k hk hx=>by
    cases hb:ob oo k
    ·simpa[un,hb]using hx
    ·have:=(hob k hb).1;omega)
   have hX5:HX (un X oo) w5:=fun k hk=>by
    by_cases hx:X k=true
    ·exact hXr.ext hE5 k hx
    ·exact(hob k (by simpa[un,hx]using hk)).2
   have hE05:=hE.trans hE5;have hmr:=a9g (un X oo) w2.heap.size w5 ao cap i (a0B W) hs W hX5 hM5 hWcs.out rfl (by omega) hWc9.out hTt.out;rw[hRc.out]at hmr;have hok:=a1o hWs.out;obtain⟨⟨R,p⟩,hRp⟩:∃S,a1b W (c+1)=S:=⟨_,rfl⟩;rw[hRp]at hmr hok;have hRp':=hid hRp
   dsimp only at hok
   have hRs:=hid hok.1;have hRr:=hid hok.2.1;have hob':=hid hob;have hoX':=hid hoX;have hXr':=hid hXr;obtain⟨pl,hpl⟩:∃pl,p.length=pl:=⟨_,rfl⟩;have hpl':=hid hpl;have hpn:pl<=i:=by have:=hok.2.1.le;omega
   clear hok hM hM34 hsb hva hRp hob hoX hXr hX5;refine hmr.mono ?_;rintro ee w7 ⟨hE7,po,pc,hs',rfl,hmb,hM7,hP7⟩
   dsimp only at hM7 hP7 |-
   rw[hpl];have hE07:=hM5.ext_from hE05 (Nat.le_refl _) hE7;have hlen2:=hid (hM7.len.trans hRs.out.1);have hdP:Hd po pl:=by have:=hP7.hd;rw[hpl]at this;exact this
   have hpb:=hid (fun k (hk:ob po k=true)=>hP7.block hk);have hdO:Hd oo c:=by have:=hO5.hd;rw[List.length_replicate]at this;exact this
   obtain⟨M,hMe⟩:∃M,mz (un (un X oo) po) ao hs'=M:=⟨_,rfl⟩;have hM':=hid hMe;have hO7:OL QC 3 (cut M oo) wo.heap.size 45 w7 oo c (sN R p c 0):=hO5.ext QC.elem hE7 (fun k _ hk=>a1N.2 (.inr (a2n.1 hk))) (fun k hk hz=>by
    obtain⟨h1,h2⟩:=b0f hz;rw[<-hMe]at h1;rcases a1N.1 h1 with h|h
    ·by_cases hx:X k=true
     ·exact a1N.2 (.inl hx)
     ·have:ob po k=true:=by simpa[un,hx,h2]using h
      have:=(hpb.out k this).1;omega
    ·have h3:mb ao hs' k=true:=a2n.2 h
     rw[hmb]at h3;exact a1N.2 (.inr (a2n.1 h3)))
   have hoM:Hid (∀k,ob oo k=true->M k=true):=hid fun k hk=>by rw[<-hMe];exact a1N.2 (.inl (a0k (a0q hk)))
   clear hmr hM5 hO5 hmb hMe hpl;go_wp2_with fail
   go_loopw [62] (fun k wr=>∃(j:Nat),k= .int .i64 j/\j<=pl/\MO (un (un X oo) po) w2.heap.size 24 45 wr ao cap hs' R/\OL QC 3 (cut M oo) wo.heap.size 45 wr oo c (sN R p c j)/\OL (a0d .i64) 1 (mz (un X oo) ao hs) w5.heap.size 3 wr po pc p/\Hid (∀k (hk:k<p.length),k<j->p[k]≠c)/\Ext w2 wr) (fun k _=>pl - (intOf k).toNat)
   case atStart=>exact⟨0,rfl,Nat.zero_le _,hM7,hO7,hP7,hid (fun k _ h=>by omega),hE07⟩
   case round=>
    obtain⟨j,rfl,hj,hM,hO,hP,hne,hE⟩:=hrel;by_cases hlj:j<pl
    ·have hjp:j<p.length:=by rw[hpl'.out];exact hlj
     have hcl:=(hP.sl (a0d.elem _)).nat j hjp;have hpc1:Hid (p[j]<c+1):=hid (hRr.out.lt j hjp);have hgd:Hid (p.getD j 0=p[j]):=hid (by simp[List.getD_eq_getElem?_getD,hjp]);have hmem:Hid (p[j]∈p):=hid (List.getElem_mem _);obtain⟨q,hq⟩:∃q,p[j]=q:=⟨_,rfl⟩;rw[hq]at hcl hpc1 hgd hmem;have hq':=hid hq;clear hq;by_cases hqc:q=c
     ·have hb:((q:Int)==(c:Int))=true:=a7e (by omega)
      have hmem2:Hid (c∈p):=hid (hqc▸hmem.out);clear hqc;go_wp2_with (with_reducible refine a0t a4o (by omega) (by assumption) ?_)
      go_ret2
      unfold b0r;rw[hRp'.out];exact⟨hE, .inl ⟨hmem2.out,rfl⟩⟩
     ·have hb:((q:Int)==(c:Int))=false:=a2I (by omega)
      have hqc1:q<c:=by have:=hpc1.out;omega
      have hne2:Hid (∀k (hk:k<p.length),k<j+1->p[k]≠c):=hid fun k hk hkj=>by
       by_cases h:k=j
       ·subst h;rw[hq'.out];exact hqc
       ·exact hne.out k hk (by omega)
      have hjh:j<hs'.length:=by rw[hlen2.out];omega
      have hjR:j<R.length:=by rw[hRs.out.1];omega
      have hrl:=hid (hRs.out.2 R[j] (List.getElem_mem _));obtain⟨a,na,cr,hhd⟩:∃a na cr,hs'[j]=(a,na,cr):=⟨_,_,_,rfl⟩;have hna:na=c+1:=by
       have:=hM.rlen j hjh hjR;rw[hhd,hrl.out]at this;exact this
      have hR:=hM.row j hjh hjR;simp only[hhd]at hR;have hz1:=fun k (hk:ob a k=true)=>hM.mz_sub hjh k (by rw[hhd];exact hk);have hun:Hid (un (cut (mz (un (un X oo) po) ao hs') a) a=M):=hid (by rw[a5E hz1];exact hM'.out);have hda:Hd a na:=by have:=hR.hd;rw[hrl.out,<-hna]at this;exact this
      have y1:wr.cell? (adr ao j)=some (.slice a na cr):=by
       have:=(hM.hdr j hjh).1;rw[hhd]at this;exact this
      have hcR:c<R[j].length:=by rw[hrl.out];omega
      have hev:Hid (R[j][c]=ent R j c):=hid (by unfold ent;rw[a2z hjR];simp[List.getD_eq_getElem?_getD,hcR]);have hunO:Hid (un (cut M oo) oo=M):=hid (a5E hoM.out);have hqO:q<(sN R p c j).length:=by rw[b0d];exact hqc1
      have hsn:Hid ((sN R p c j).set q (ent R j c)=sN R p c (j+1)):=hid (by rw[<-hgd.out];rfl);have hna':=hid hna;have hcna:c<na:=by omega
      clear hhd hna hqc;go_wp2_with (first|(with_reducible refine a0t a4o (by omega) (by assumption) ?_)|(with_reducible refine a0t a0r (by omega) (by assumption) ?_)|(with_reducible refine a2a a0D (by omega) (by assumption) ?_)|((with_reducible show wpList _ _ _ (⟨_, .load 45 _,_,_,_,_⟩::_) _ _);refine a4V a0u c hR hcR rfl (by simp) QC.agg ?_;intro u6 hu6;rw[hev.out,hun.out]at hu6;obtain⟨s6,a6,n6,c6,d6,k6,e6,rfl⟩:=hu6.shape)|((with_reducible show wpList _ _ _ (⟨_, .store 45 _ _,_,_,_,_⟩::_) _ _);refine a3V a6E QC.elem q rfl (by simp) hO hqO _ (ent R j c) rfl (by rw[hunO.out];exact hu6) ?_;intro w8 hO8 hE8))
      rw[hsn.out]at hO8;have hM8:=hM.ext (X':=un (un X oo) po) hE8 (fun k _ hk=>a0k (a0q hk)) (fun _ _ h=>h);have hP8:=hP.frame (a0d.pure _) hE8 (fun k hk=>by
       cases hb:ob oo k
       ·rfl
       ·have:=(hpb.out k hk).1;have:=(hob'.out k hb).2;omega) hP.1
      have hE9:=hE.then_ hE8 fun k hk _=>by
       cases hb:ob oo k
       ·rfl
       ·have:=(hob'.out k hb).1;omega
      clear y1 hcl;go_roundw
      case rel=>exact⟨j+1,by go_num,by omega,hM8,hO8,hP8,hne2,hE9⟩
      case measure=>simp[intOf];omega
    ·have hjl:j=pl:=by omega
     subst hjl;have hnp:c∉p:=fun hm=>by
      obtain⟨k,hk,hkc⟩:=List.getElem_of_mem hm;exact hne.out k hk (by rw[<-hpl'.out];exact hk) hkc
     have hs:=(hO.sl QC.elem).mono QC.mono (a1E (X:=X) fun k _ hk=>a4R (by rw[<-hM'.out];exact a1N.2 (.inl (a0k (a0k hk)))) (by
      cases hb:ob oo k
      ·rfl
      ·have:=hoX'.out k hb;rw[hk]at this;simp at this))
     have hlc:=hO.lenCap;go_wp2_with fail
     go_ret2
     rw[<-hpl'.out]at hs hlc;unfold b0r;rw[hRp'.out];exact⟨hE, .inr ⟨hnp, .slice oo c c,rfl,oo,c,by show Value.slice oo c c=Value.slice oo (sN R p c p.length).length c;rw[b0d],hlc,hs⟩⟩
end Go.Proofs.YtidbbddagfnfbaaGreat
namespace Go.Lin
noncomputable def fmS (m:Mom):Mat×List Nat:=a1b (a2N m.xx m.xy m.xx.length) (m.xx.length+1)
noncomputable def fmC (m:Mom):List Rat:=b5U (fmS m).1 (fmS m).2 m.xx.length
theorem b7L (m:Mom):(fmC m).length=m.xx.length:=a9h _ _ _
theorem b0X {m:Mom} (h:a5N m=true):(0<=m.n/\m.n<=1099511627776)/\a0G m.xx=true/\m.xx.length=a0B m.xx/\m.xx.length=m.xy.length/\m.xy.length<=12:=by
 unfold a5N at h;rw[Bool.and_eq_true,Bool.and_eq_true,decide_eq_true_eq,decide_eq_true_eq]at h;exact⟨h.1,h.2.1,h.2.2.1,h.2.2.2.1,h.2.2.2.2⟩
end Go.Lin
namespace Go.Proofs.YtidbbddagfnfbaaGreat
open Go.RowKit Go.Rep Go.Lim Go.Lin
theorem a5q {P:Program} {w:World} {fn:Func} {tmps:Array Value} {c0 c c2 c3:Tmp} {t:TypeId} {n b:Nat} {cs:Array Value} {T:TypeId} (h:fn.results=#[.tmp c0, .cell c t, .tmp c2, .tmp c3]) (hp:tmps.getD c undef= .pointer (some ⟨b,0,none⟩)) (hT:a1A P t n) (hb:Bx w b cs T) (hcs:cs.size=n):
  (results fn tmps).run P w= .ok (.tuple #[tmps.getD c0 undef, .agg cs,tmps.getD c2 undef,tmps.getD c3 undef]) w:=by
 have hl:=a1U (P:=P) hT hb hcs;rw[Array.getD_eq_getD_getElem?]at hp;simp[results,h,hp,asAddr,hl]
def b2X (X:Nat->Bool) (w:World) (m:Mom) (e:Ending) (w':World):Prop:=Ext w w'/\∃z u k c,e= .returned (.tuple #[z,u, .int .i64 k, .int .i64 c])/\
 ((a5N m=false/\c=4/\k=0/\RC (mk X w') z []/\QC (mk X w') u 0)\/(a5N m=true/\m.xx.length∈(fmS m).2/\c=11/\k=0/\RC (mk X w') z []/\QC (mk X w') u 0)\/(a5N m=true/\m.xx.length∉(fmS m).2/\c=0/\k=(a8m m.xx m.xx.length:Int)/\RC (mk X w') z (fmC m)/\QC (mk X w') u (m.yy - a2d (fmC m) m.xy)))
set_option maxRecDepth 100000 in
set_option maxHeartbeats 3200000 in
theorem b2Y (X:Nat->Bool) (w:World) (u:Value) (m:Mom) (hX:HX X w) (hu:b2B (mk X w) u m) (hl:m.xx.length<=4) (hB:BMo 5929 m):
  Calls Tryz.prog 159 #[u] w (b2X X w m):=by
 have hfo:=hid fun w' (h:Ext w w')=>a9s X w' u m (hX.ext h) (mkx b2B.mono hu h) (by omega);obtain⟨xo,xl,xc,yo,yl,yc,s,a,n,c,d,k,e,rfl,hx,hy,hqq⟩:=hu;obtain⟨W,hW,hE,b0,b1,hz⟩:=a1v w #[.int .i64 m.n, .slice xo xl xc, .slice yo yl yc, .bool s, .slice a n c, .slice d k e] #[.bool false, .slice none 0 0, .slice none 0 0] 173 45;have hXW:HX (a0f X w.heap.size 2) W:=hX.boxes hz;have hle:Hid (∀w',Ext W w'->Le (mk X w) (mk (a0f X w.heap.size 2) w')):=hid fun w' h=>a0o (hE.trans h);obtain⟨b,hb⟩:∃b,w.heap.size=b:=⟨_,rfl⟩;have hbw:w.heap.size<=b:=by omega
 rw[hb]at b0 b1 hz hXW hle;obtain⟨N,hN⟩:∃N,m.n=N:=⟨_,rfl⟩;rw[hN]at b0 hW hfo |-;have k0:=b0.cell 0 rfl;have k1:=b0.cell 1 rfl;have k2:=b0.cell 2 rfl;have k3:=b0.cell 3 rfl;have k4:=b0.cell 4 rfl;have k5:=b0.cell 5 rfl;have h0:QC (mk X W) (.agg #[.bool false, .slice none 0 0, .slice none 0 0]) 0:=QC.zero _;cases hok:a5N m
 ·have hf1:=hfo.out W hE
  rw[hok]at hf1;have hok':=hid hok;clear hfo hok hN;go_enter Tryz.func159,Tryz.ntmps159
  go_wp2_with fail
  refine hf1.mono ?_;rintro ee w1 ⟨hE1,rfl⟩;have b11:=b1.ext0 hE1;clear hf1 k0 k1 k2 k3 k4 k5;go_wp2_with ((with_reducible show wpList _ _ _ (⟨_, .store 45 _ _,_,_,_,_⟩::_) _ _);refine a0c a0u rfl rfl b11 rfl rfl (a2g _ _ _ _ _ _ _) ?_;intro w7 r1 r2)
  have hE7:Ext w w7:=ExtX.box (hE.trans hE1) r2 (by omega);exact bodyPost_ret (a5q rfl rfl a0u r1 rfl) rfl ⟨hE7,_,_,_,_,rfl, .inl ⟨hok'.out,rfl,rfl,SlV.zero _ _ _,QC.zero _⟩⟩
 ·obtain⟨_,hf,hsq,hxy,_⟩:=b0X hok
  obtain⟨B1,B2,B3⟩:=hB;obtain⟨hsh,_,_,_,_⟩:=a0Q hf;rw[<-hsq]at hsh;have hhb:=a8q B1 (by decide);have hTw:=(a4b (a2e (b:=m.xy) hsh) (b0h hsh hhb B2) hl (by decide)).1;have hTe:=(a4b hsh hhb hl (by decide)).1.e;have hcb:BR 8000000 (fmC m):=fun q hq=>Nat.le_trans (b2M hsh hhb B2 hl q hq) (by decide);have hcl:=b7L m;have hdb:=a1Y (l:=fmC m) (m:=m.xy) hcb (fun q hq=>Nat.le_trans (B2 q hq) (by decide)) (by decide) (by omega) (by decide);have hdq:Hid (hq (a2d (fmC m) m.xy)<=68719476736):=hid (hdb.1 _ (Nat.le_refl _));have hsol:=hid fun w' (h:Ext W w') (u v:Value) (h1:MV (mk (a0f X b 2) w') u m.xx) (h2:RV (mk (a0f X b 2) w') v m.xy)=>b4Y (a0f X b 2) w' u v m.xx m.xy m.xx.length m.xx.length (hXW.ext h) h1 h2 hf rfl hsq.symm hxy.symm hTw;have hrk:=hid fun w' (h:Ext W w') (u:Value) (h1:MV (mk (a0f X b 2) w') u m.xx)=>b7K (a0f X b 2) w' u m.xx (hXW.ext h) h1 hf (by rw[<-hsq];exact hTe);have hdo:=hid fun w' (u v:Value) (hX':HX (a0f X b 2) w') (h1:RV (mk (a0f X b 2) w') u (fmC m)) (h2:RV (mk (a0f X b 2) w') v m.xy)=>b4V (a0f X b 2) w' u v (fmC m) m.xy hX' h1 h2 (by omega) (by omega) hdb.1 hdb.2;have hxv:=hid fun w' (h:Ext W w')=>MV.mono _ _ _ _ (hle.out w' h) hx;have hyv:=hid fun w' (h:Ext W w')=>RV.mono _ _ _ _ (hle.out w' h) hy;have hqv:=hid fun w' (h:Ext W w')=>QV.mono _ _ _ _ (hle.out w' h) hqq;have hin:Hid (m.xx.length∈(fmS m).2->∀(w':World) z u,Ext w w'->RC (mk X w') z []->QC (mk X w') u 0->b2X X w m (.returned (.tuple #[z,u, .int .i64 0, .int .i64 11])) w'):=hid fun h1 w' z u hE hz hu=>⟨hE,z,u,_,_,rfl, .inr (.inl ⟨hok,h1,rfl,rfl,hz,hu⟩)⟩;have hout:Hid (m.xx.length∉(fmS m).2->∀(w':World) z u,Ext w w'->RC (mk X w') z (fmC m)->QC (mk X w') u (m.yy - a2d (fmC m) m.xy)->b2X X w m (.returned (.tuple #[z,u, .int .i64 (a8m m.xx m.xx.length:Int), .int .i64 0])) w'):=hid fun h1 w' z u hE hz hu=>⟨hE,z,u,_,_,rfl, .inr (.inr ⟨hok,h1,rfl,rfl,hz,hu⟩)⟩;have hf1:=hfo.out W hE;rw[hok]at hf1;rw[<-hsq]at hrk;unfold b0r at hsol;obtain⟨D,hD⟩:∃D,a2d (fmC m) m.xy=D:=⟨_,rfl⟩;rw[hD]at hdq hdo hout;obtain⟨F,hF⟩:∃F,b2X X w m=F:=⟨_,rfl⟩;rw[hF]at hin hout |-;obtain⟨rk,hrk2⟩:∃rk,a8m m.xx m.xx.length=rk:=⟨_,rfl⟩;rw[hrk2]at hrk hout;have hSe:a1b (a2N m.xx m.xy m.xx.length) (m.xx.length+1)=fmS m:=rfl;rw[hSe]at hsol;have hCe:b5U (fmS m).1 (fmS m).2 m.xx.length=fmC m:=rfl;rw[hCe]at hsol;obtain⟨C,hC⟩:∃C,fmC m=C:=⟨_,rfl⟩;rw[hC]at hsol hdo hout hcl hcb;obtain⟨S,hS2⟩:∃S,fmS m=S:=⟨_,rfl⟩;rw[hS2]at hsol hin hout;obtain⟨q,hqe⟩:∃q,m.xx.length=q:=⟨_,rfl⟩;rw[hqe]at hsol hin hout hcl;have hCb:Hid (BR 68719476736 C):=hid fun x hx=>Nat.le_trans (hcb x hx) (by decide);have hCl:=hid hcl;clear hfo hok hN hf hsq hxy hsh hhb hTw hTe hcb hdb hx hy hqq hD hF hrk2 hSe hCe hC hS2 hqe B1 B2 B3 hl hcl;go_enter Tryz.func159,Tryz.ntmps159
  go_wp2_with fail
  refine hf1.mono ?_;rintro ee w1 ⟨hE1,rfl⟩;have b01:=b0.ext0 hE1;have b11:=b1.ext0 hE1;have j1:=b01.cell 1 rfl;have j2:=b01.cell 2 rfl;have hs1:=hsol.out w1 hE1 _ _ (hxv.out w1 hE1) (hyv.out w1 hE1);clear hf1 k0 k1 k2 k3 k4 k5 hsol;go_wp2_with fail
  refine hs1.mono ?_;rintro ee w2 ⟨hE2,hor⟩;have hE12:=hE1.trans hE2;rcases hor with⟨hmem,rfl⟩|⟨hmem,cv,rfl,hcv⟩
  ·have b12:=b1.ext0 hE12
   have hfin:=hid (hin.out hmem);clear hs1 hmem j1 j2 hin hout;go_wp2_with ((with_reducible show wpList _ _ _ (⟨_, .store 45 _ _,_,_,_,_⟩::_) _ _);refine a0c a0u rfl rfl b12 rfl rfl (a2g _ _ _ _ _ _ _) ?_;intro w7 r1 r2)
   have hE7:Ext w w7:=ExtX.box (hE.trans hE12) r2 (by omega);exact bodyPost_ret (a5q rfl rfl a0u r1 rfl) rfl (hfin.out w7 _ _ hE7 (SlV.zero _ _ _) (QC.zero _))
  ·have hfin:=hid (hout.out hmem)
   have b02:=b0.ext0 hE12;have i1:=b02.cell 1 rfl;have hr2:=hrk.out w2 hE12 _ (hxv.out w2 hE12);have hcv':=hid hcv;obtain⟨co,cc,rfl,_,_⟩:=hcv;rw[hCl.out]at hcv' |-;clear hs1 hmem j1 j2 hin hout hrk;go_wp2_with fail
   refine hr2.mono ?_;rintro ee w3 ⟨hE3,rfl⟩;have hE13:=hE12.trans hE3;have hEd:Ext w3 w3.drew:=(ExtX.refl _).drew;have hE1d:=hE13.trans hEd;have hS:Hid (∀w',Ext w3.drew w'->w'.cell? ⟨b,3,none⟩=some (.bool s)/\w'.cell? ⟨b,3+1,none⟩=some (.slice a n c)/\w'.cell? ⟨b,3+2,none⟩=some (.slice d k e)/\w'.cell? ⟨b,2,none⟩=some (.slice yo yl yc)):=hid fun w' h=>by
    have b9:=b0.ext0 (hE1d.trans h);exact⟨b9.cell 3 rfl,b9.cell 4 rfl,b9.cell 5 rfl,b9.cell 2 rfl⟩
   obtain⟨g0,g1,g2,g3⟩:=hS.out _ (ExtX.refl _);have hXd:HX (a0f X b 2) w3.drew:=hXW.ext hE1d;have hd3:=hdo.out w3.drew _ _ hXd ((mkx RC.mono hcv'.out (hE3.trans hEd)).rv hCb.out) (hyv.out _ hE1d);have hqd:=hqv.out w3.drew hE1d;clear hr2 i1 hdo;go_wp2_with fail
   go_region_held3 (fun w'=>w'.cell? ⟨b,3,none⟩=some (.bool s)/\w'.cell? ⟨b,3+1,none⟩=some (.slice a n c)/\w'.cell? ⟨b,3+2,none⟩=some (.slice d k e)/\w'.cell? ⟨b,2,none⟩=some (.slice yo yl yc))
    (first|exact hS.out _ t1|exact hS.out _ t2|exact⟨((b0.ext0 (hE1d.trans t2)).ext (bb2.set3 _ _ _).2 (a0b (by omega))).cell 3 rfl,((b0.ext0 (hE1d.trans t2)).ext (bb2.set3 _ _ _).2 (a0b (by omega))).cell 4 rfl,((b0.ext0 (hE1d.trans t2)).ext (bb2.set3 _ _ _).2 (a0b (by omega))).cell 5 rfl,((b0.ext0 (hE1d.trans t2)).ext (bb2.set3 _ _ _).2 (a0b (by omega))).cell 2 rfl⟩|go_keep)
    (first|(go_at_call 202;(with_reducible refine hd3.mono ?_);rintro ee w5 ⟨t1,u5,rfl,hu5⟩;have hX5:=HX.ext hXd t1;have hq5:=mkx QV.mono hqd t1;have hu5v:=hu5.qv hdq.out)|(go_at_call 100;(with_reducible refine(c0J (a0f X b 2) w5 _ _ _ _ hX5 hq5 hu5v).mono ?_);rintro ee w6 ⟨hE6,u6,rfl,hu6⟩;have t2:=t1.trans hE6;obtain⟨s6,a6,n6,c6,d6,k6,e6,rfl⟩:=hu6.shape;have bb2:=b1.ext0 (hE1d.trans t2);have f0:=bb2.cell 0 rfl;have f1:=bb2.cell 1 rfl;have f2:=bb2.cell 2 rfl;have f3:=bb2.frozen 0;have f4:=bb2.frozen 1;have f5:=bb2.frozen 2))
   all_goals
    obtain⟨r1,r2⟩:=bb2.set3 (.bool s6) (.slice a6 n6 c6) (.slice d6 k6 e6);have h7:=QC.mono _ _ _ _ a0l (QC.mono _ _ _ _ (a0i r2 (by omega) (by omega)) hu6);have hc7:=RC.mono _ _ _ _ a0l (RC.mono _ _ _ _ (a0i r2 (by omega) (by omega)) (mkx RC.mono hcv'.out (hE3.trans (hEd.trans t2))));have hEf:Ext w _:=ExtX.box (hE.trans (hE1d.trans t2)) r2 (by omega);clear g0 g1 g2 g3 f0 f1 f2 f3 f4 f5 hS;go_wp2_with fail
    exact bodyPost_ret (a5q rfl rfl a0u r1 rfl) rfl (hfin.out _ _ _ hEf hc7 h7)
theorem b0s:a1A Tryz.prog 117 6:=by
 have h:(Tryz.prog.info? 117).map (fun i=>(i.zero,i.size,i.bytes))=some (some (.agg #[.int .i64 0, .slice none 0 0, .slice none 0 0, .bool false, .slice none 0 0, .slice none 0 0]),6,112):=by kernel_rfl
 obtain⟨ti,h1,_,h2,_⟩:=info_parts h;exact⟨_,ti,Tryz.underlying117,h1,h2⟩
set_option maxRecDepth 100000 in
theorem b0Y (X:Nat->Bool) (w:World) (u t:Value) (x:Mat) (y:List Rat) (n c B:Nat) (hX:HX X w) (hu:MV (mk X w) u x) (ht:RV (mk X w) t y) (hok:a6I x y=true) (hnx:x.length=n) (hcx:a0B x=c) (hn:n<=8) (hc:c<=4) (hxB:BM B x) (hyB:BR B y) (hB1:1<=B) (hB:B<=370):
  Calls Tryz.prog 77 #[u,t] w (fun e w'=>Ext w w'/\∃um,e= .returned um/\a6v (mk X w') um (gmM x y c n)):=by
 obtain⟨W,hW,hE,b0,hz⟩:=a1t w #[.int .i64 0, .slice none 0 0, .slice none 0 0, .bool false, .slice none 0 0, .slice none 0 0] 117;have hXW:HX (a0f X w.heap.size 1) W:=hX.boxes hz;have hle:Hid (∀w',Ext W w'->Le (mk X w) (mk (a0f X w.heap.size 1) w')):=hid fun w' h=>a0o (hE.trans h);obtain⟨b,hb⟩:∃b,w.heap.size=b:=⟨_,rfl⟩;have hbw:w.heap.size<=b:=by omega
 rw[hb]at b0 hz hXW hle;have hg:=b0U (a0f X b 1) W u t x y n c B hXW (MV.mono _ _ _ _ (hle.out W (ExtX.refl _)) hu) (RV.mono _ _ _ _ (hle.out W (ExtX.refl _)) ht) hok hnx hcx hn hc hxB hyB hB1 hB;obtain⟨M,hM⟩:∃M,gmM x y c n=M:=⟨_,rfl⟩;rw[hM]at hg |-;obtain⟨ua,uc,rfl,huc,hus⟩:=hu;obtain⟨ta,tc,rfl,htc,hts⟩:=ht;clear hM hle hok hnx hcx hxB hyB hus hts;go_enter Tryz.func77,Tryz.ntmps77
 go_wp2_with fail
 refine hg.mono ?_;rintro e w1 ⟨hE1,um,rfl,hm⟩;obtain⟨xo,xl,xc,yo,yl,yc,s,a,n0,c0,d,k,e0,rfl,h1,h2,h3⟩:=id hm;obtain⟨N,hN⟩:∃N,M.n=N:=⟨_,rfl⟩;rw[hN]at hm;have b1:=b0.ext0 hE1;clear hg;have hEa:Ext w1 (w1.alloc (.cells #[.int .i64 N, .slice xo xl xc, .slice yo yl yc, .bool s, .slice a n0 c0, .slice d k e0] 173)):=(ExtX.refl w1).alloc _;have bM:=Bx.new w1 #[.int .i64 N, .slice xo xl xc, .slice yo yl yc, .bool s, .slice a n0 c0, .slice d k e0] 173;have b1':=b1.ext0 hEa;have hm':=a6v.mono _ _ _ _ (a0p hEa) hm;rw[hN];go_wp2_with (first|((with_reducible show wpList _ _ _ (⟨_, .load 173 _,_,_,_,_⟩::_) _ _);refine a3X a3u rfl bM rfl ?_)|((with_reducible show wpList _ _ _ (⟨_, .store 117 _ _,_,_,_,_⟩::_) _ _);refine a0c b0s rfl rfl b1' rfl rfl (c0m _ _ _ _ _ _ _ _ _ _ _ _ _ _) ?_;intro w7 r1 r2))
 have h7:=a6v.mono _ _ _ _ a0l (a6v.mono _ _ _ _ (a0i r2 (by omega) (by omega)) hm');exact bodyPost_ret (a0e rfl rfl b0s r1 rfl) rfl ⟨ExtX.box (hE.trans (hE1.trans hEa)) r2 (by omega),_,rfl,h7⟩
end Go.Proofs.YtidbbddagfnfbaaGreat
namespace Go.Lin
open Go.Lim Go.Rep
end Go.Lin
namespace Go.Proofs.YtidbbddagfnfbaaGreat
open Go.RowKit Go.Rep Go.Lim
open Go.Lin
end Go.Proofs.YtidbbddagfnfbaaGreat
namespace Go.Rep
open Go.RowKit
section
variable {P:Program} {ops:Array Oper} {Q:Exit->Act->World->Prop} {rest:List Oper} {a:Act} {w:World}
variable {α:Type} {R:Mem->Value->α->Prop} {sz:Nat} {X:Nat->Bool} {base:Nat} {e:TypeId} {ao:Option Addr} {cap:Nat} {l:List α}
variable {d:Option Tmp} {ty:TypeId} {ps:String} {af:Array Edge}
theorem OL.field (hR:Elem R sz) (h:OL R sz X base e w ao cap l) (i j:Nat) (hi:i<l.length) (hj:j<sz) (v:Value) (y:α)
  (hu:∀u,R (mk (un X ao) w) u l[i]->∃u',a0j u'=(a0j u).set j v/\R (mk (un X ao) w) u' y):
  (∃v0,w.cell? (adr ao (i*sz+j))=some v0)/\w.frozen? (adr ao (i*sz+j))=false/\Sl R sz (mk X (w.setCell (adr ao (i*sz+j)) v)) ao (l.set i y)/\ExtX (ob ao) w (w.setCell (adr ao (i*sz+j)) v):=by
 obtain⟨us,h1,h2,h22,h3,h5⟩:=h.cells;have hsub:(i+1)*sz<=us.length*sz:=Nat.mul_le_mul_right _ (by omega);rw[Nat.succ_mul]at hsub;have hcell:∀k (hk:k<us.length) q (hq:q<sz),w.cell? (adr ao (k*sz+q))=some (us[k].cells[q]'(by rw[h2 _ (List.getElem_mem _)];exact hq))/\w.frozen? (adr ao (k*sz+q))=false:=by
  intro k hk q hq;have hz:us[k].cells.size=sz:=h2 _ (List.getElem_mem _);have hg:=a3i us k q hk h2 hq;have hc:(a0j us[k])[q]? =some (us[k].cells[q]'(by rw[hz];exact hq)):=by simp[a0j,hz,hq]
  rw[hc]at hg;exact h3 _ _ hg
 have hE:ExtX (ob ao) w (w.setCell (adr ao (i*sz+j)) v):=
  ⟨rfl,rfl,rfl,by simp[World.setCell],fun k hk hy=>Below.heap_setCell _ _ _ _ (fun e=>by
   have hf:=h.form;rcases hf with⟨_,_,rfl⟩|⟨g,cur,rfl,_⟩
   ·simp at hi
   ·subst e;simp[ob]at hy)⟩
 have hX:∀q,X (adr ao q).block=false:=by
  intro q;have hf:=h.form;have hx:=h.1;rcases hf with⟨_,_,rfl⟩|⟨g,cur,rfl,_⟩
  ·simp at hi
  ·exact hx _ (by simp[ob,adr])
 have hi':i<us.length:=by omega
 refine⟨⟨_,(hcell i hi' j hj).1⟩,(hcell i hi' j hj).2,⟨by simpa using h.hd,fun k hk=>?_⟩,hE⟩;have hk':k<us.length:=by simpa[h1]using hk
 have hle:Le (mk (un X ao) w) (mk X (w.setCell (adr ao (i*sz+j)) v)):=a1f hE (fun k _ hk=>a0q hk) fun k _ hk=>a0k hk;by_cases hki:k=i
 ·subst hki
  obtain⟨u',hu1,hu2⟩:=hu us[k] (h5 k hk' (by omega));have hsz':=hR.size _ _ _ hu2;refine⟨u',hsz',fun q hq=>?_,by simpa using hR.mono _ _ _ _ hle hu2⟩;have hq':q<sz:=by omega
  have hget:(a0j u')[q]? =some u'.cells[q]:=by simp[a0j,hq]
  rw[hu1,List.getElem?_set]at hget;unfold mk;rw[hX];by_cases hqj:j=q
  ·subst hqj
   rw[if_pos rfl,if_pos (by simp[a0j,h2 _ (List.getElem_mem hk'),hj])]at hget;have:u'.cells[j]=v:=by simpa using hget.symm
   rw[this];exact World.cell?_setCell_same' w _ v (by rw[(hcell k hk' j hj).1];rfl)
  ·rw[if_neg hqj]at hget
   have hc:=(hcell k hk' q hq').1;have:us[k].cells[q]'(by rw[h2 _ (List.getElem_mem _)];exact hq')=u'.cells[q]:=by
    simpa[a0j]using(List.getElem?_eq_some_iff.1 hget).2
   rw[this]at hc;rw[<-hc];exact World.cell?_setCell_other w _ _ v (by simp[adr])
 ·have hz:us[k].cells.size=sz:=h2 _ (List.getElem_mem _)
  refine⟨us[k],hz,fun q hq=>?_,by simpa[List.getElem_set,Ne.symm hki]using hR.mono _ _ _ _ hle (h5 k hk' (by simpa using hk))⟩;have hc:=(hcell k hk' q (by omega)).1;unfold mk;rw[hX,<-hc];refine World.cell?_setCell_other w _ _ v ?_;have hne:k*sz+q≠i*sz+j:=by
   intro he;rcases Nat.lt_or_gt_of_ne hki with hlt|hlt
   ·have:=Nat.mul_le_mul_right sz (show k+1<=i by omega)
    rw[Nat.succ_mul]at this;omega
   ·have:=Nat.mul_le_mul_right sz (show i+1<=k by omega)
    rw[Nat.succ_mul]at this;omega
  simp[adr]
theorem a9t {t:TypeId} {x y:Operand} {A:Addr} {v v0:Value} (hT:TyI P t 1) (hx:a.eval x= .pointer (some A)) (hy:a.eval y=v) (hv:v.cells=#[v]) (hone:v.oneCell'=true) (hc:w.cell? A=some v0) (hf:w.frozen? A=false)
  (K:wpList P ops Q rest (a.put d undef) (w.setCell A v)):
  wpList P ops Q (⟨d, .store t x y,ty,ps,af,none⟩::rest) a w:=by
 refine wpList_plain rfl fun K' hK'=>?_;obtain⟨ti,ht,hts⟩:=hT;unfold Oper.wp;subst hy;have hr:=run_store P w A (a.eval y) .plain hone;rw[hc,hf]at hr;simp only[Bool.false_eq_true,if_false]at hr;simp[execOp,hx,Instr.storeAt,Instr.sureAddr,storeVar,sizeOf,typeInfo,ht,hts,hv,Result.andThen,storeCells,Addr.add_zero',hr];exact hK' _ _ K
end
end Go.Rep
namespace Go.Rep
open Go.RowKit
section
variable {P:Program} {ops:Array Oper} {Q:Exit->Act->World->Prop} {rest:List Oper} {a:Act} {w:World}
variable {α:Type} {R:Mem->Value->α->Prop} {sz:Nat} {X:Nat->Bool} {e:TypeId}
variable {d:Option Tmp} {ty:TypeId} {ps:String} {af:Array Edge}
theorem b7M {t by_:Nat} {z:Value} {s x:Operand} {asl:Option Addr} {cs m:Nat} (T:SliceT P t e sz by_ z) (hzs:z.cells.size=sz) (hR:Elem R sz) (hX:∀k,X k=true->k<w.heap.size)
  (xs:List α) (hs:a.eval s= .slice none 0 0) (hx:a.eval x= .slice asl m cs) (hm:m=xs.length)
  (hxs:Sl R sz (mk X w) asl xs) (hroom:m*by_<=140737488355328) (hmax:m<=9223372036854775807)
  (K:∀ao' cap' w',OL R sz X w.heap.size e w' ao' cap' xs->Ext w w'->wpList P ops Q rest (a.put d (.slice ao' m cap')) w'):
  wpList P ops Q (⟨d, .call {callee:= .builtin .append,args:=#[s,x],argTypes:=#[t,t]},ty,ps,af,none⟩::rest) a w:=by
 subst hm;have h0:OL R sz X w.heap.size e w none 0 []:=OL.nil _ _ _ _ _ _;have hun:un X none=X:=by funext k;simp[un,ob]
 refine a3U (l:=[]) T hzs hR (Nat.le_refl _) hX xs hs hx h0 (by rw[hun];exact hxs) (by simpa using hroom) (by simpa using hmax) ?_;intro ao' cap' w' h1 h2 h3;have hE:Ext w w':=h2.weaken fun k _ _=>by simp[ob]
 exact K ao' cap' w' h1 hE
theorem OL.rehide {base cap:Nat} {ao:Option Addr} {l:List α} (hR:Elem R sz) (hR0:∀h h' u x,R h u x->R h' u x) (h:OL R sz X base e w ao cap l) {Z:Nat->Bool} (hz:∀k,ob ao k=true->Z k=false):Sl R sz (mk Z w) ao l:=by
 have hf:=h.form;have hs:=h.sl hR;rcases hf with⟨rfl,_,rfl⟩|⟨g,cur,rfl,_⟩
 ·exact Sl.nil _ _ _ _
 ·refine⟨hs.1,fun i hi=>?_⟩
  obtain⟨u,h1,h2,h3⟩:=hs.2 i hi;refine⟨u,h1,fun j hj=>?_,hR0 _ _ _ _ h3⟩;have:=a1e (h2 j hj);unfold mk;rw[hz _ (by simp[ob,adr])];simpa using this
theorem OL.beside {base cap:Nat} {ao oo oo':Option Addr} {l:List α} {w':World} (hR:Elem R sz) (h:OL R sz (un X oo) base e w ao cap l) (hE:ExtX (ob oo) w w') (ho:oo'=oo\/∃g,oo'=some ⟨g,0,none⟩/\w.heap.size<=g):OL R sz (un X oo') base e w' ao cap l:=
 h.ext hR hE (fun k _ hk=>a0q hk) fun k hk hz=>by
  rcases ho with rfl|⟨g,rfl,hg⟩
  ·exact hz
  ·by_cases hx:X k=true
   ·exact a0k hx
   ·have:g=k:=by simpa[un,hx,ob]using hz
    omega
end
end Go.Rep
namespace Go.Rep
open Go.RowKit
section
variable {P:Program} {ops:Array Oper} {Q:Exit->Act->World->Prop} {rest:List Oper} {a:Act} {w:World}
variable {α:Type} {R:Mem->Value->α->Prop} {sz:Nat} {X:Nat->Bool} {base:Nat} {e:TypeId} {ao:Option Addr} {cap:Nat} {l:List α}
variable {d:Option Tmp} {ty:TypeId} {ps:String} {af:Array Edge}
theorem OL.take (h:OL R sz X base e w ao cap l) (_hsz:∀m u x,R m u x->u.cells.size=sz) (n:Nat):OL R sz X base e w ao cap (l.take n):=by
 have hf:=h.form;obtain⟨hx,us,h1,h2,h22,⟨h3,h4⟩,h5⟩:=h;have hus:∀u∈us.take n,u.cells.size=sz:=fun u hu=>h2 u (List.mem_of_mem_take hu);refine⟨hx,us.take n,by simp[h1],hus,fun u hu=>h22 u (List.mem_of_mem_take hu),⟨by rw[a0L _ hus];simp[h1],?_⟩,fun i hi hi'=>?_⟩
 ·rcases h4 with⟨hv,hn⟩|⟨g,c,cur,hv,q1,q2,q3,q4,q5,q6⟩
  ·simp at hv
   obtain⟨rfl,h0,rfl⟩:=hv;refine .inl ⟨by simp[h0],by simp[h0]⟩
  ·simp at hv
   obtain⟨rfl,rfl⟩:=hv;refine .inr ⟨g,cap,cur,by simp,q1,q2,by simp;omega,q4,q5,?_⟩;have e1:(us.take n).flatMap a0j=(us.flatMap a0j).take ((l.take n).length*sz):=by
    have e2:us.flatMap a0j=(us.take n).flatMap a0j++(us.drop n).flatMap a0j:=by
     rw[<-List.flatMap_append,List.take_append_drop]
    rw[e2];have e3:(l.take n).length*sz=((us.take n).flatMap a0j).length:=by rw[a0L _ hus];simp[h1]
    rw[e3,List.take_left]
   rw[e1,<-q6,List.take_take]
   congr 1
   have:(l.take n).length<=l.length:=by simp;omega
   exact(Nat.min_eq_left (Nat.mul_le_mul_right _ this)).symm
 ·simp only[List.getElem_take]
  exact h5 i (by simp at hi;omega) (by simp at hi';omega)
theorem a6J {t by_:Nat} {z:Value} {arr:Array Value} {s x:Operand} {g n:Nat} (T:SliceT P t e sz by_ z) (hR:Elem R sz)
  (hs:a.eval s= .slice (some ⟨g,0,none⟩) n cap) (hn:l.length=n) (hx:a.eval x= .slice (some ⟨w.heap.size,0,none⟩) 1 1) (h:OL R sz X base e w (some ⟨g,0,none⟩) cap l)
  (u:Value) (y:α) (harr:arr=u.cells) (hu:R (mk (un X (some ⟨g,0,none⟩)) w) u y) (hroom:n+1<=cap)
  (K:∀w',OL R sz X base e w' (some ⟨g,0,none⟩) cap (l++[y])->ExtX (ob (some ⟨g,0,none⟩)) w w'->wpList P ops Q rest (a.put d (.slice (some ⟨g,0,none⟩) (n+1) cap)) w'):
  wpList P ops Q (⟨d, .call {callee:= .builtin .append,args:=#[s,x],argTypes:=#[t,t]},ty,ps,af,none⟩::rest) a (w.alloc (.cells arr e)):=by
 subst hn;refine wpList_plain rfl fun K' hK'=>?_;have hE:Ext w (w.alloc (.cells arr e)):=(ExtX.refl w).alloc _;have h':=h.ext0 hR hE;obtain⟨i,hi,hz,hsz,hby⟩:=info_parts T.info;have hat:=b1i w arr e u harr;have husz:=hR.size _ _ _ hu;have hu1:=hR.one _ _ _ hu;have hu2:R (mk (un X (some ⟨g,0,none⟩)) (w.alloc (.cells arr e))) u y:=hR.mono _ _ _ _ (a0p hE) hu;have hnl:(a0j u).length=1*i.size:=by simp[a0j,husz,hsz]
 have hnews:∀j v,(a0j u)[j]? =some v->(w.alloc (.cells arr e)).cell? ((⟨w.heap.size,0,none⟩:Addr).add j)=some v:=by
  intro j v hj;rw[<-a7f rfl];exact hat.2 j v (by simpa using hj)
 have hform:=h'.form;generalize hW:w.alloc (.cells arr e)=W at hE h' hu2 hnews hform;obtain⟨hx',us,h1,h2,h22,h3,h5⟩:=h';rcases hform with⟨hv,_⟩|⟨g',cur,hv,h6,h7,h8,h9,h10⟩
 ·simp at hv
 simp at hv;subst hv;have hul:(us.flatMap a0j).length=l.length*i.size:=by rw[a0L us h2,h1,hsz]
 have hfl:(us++[u]).flatMap a0j=us.flatMap a0j++a0j u:=by simp
 have hnew:∀v∈us++[u],v.cells.size=sz:=by
  intro v hv;rcases List.mem_append.1 hv with hv|hv
  ·exact h2 v hv
  ·rw[List.mem_singleton.1 hv];exact husz
 have hnew1:∀v∈us++[u],∀c∈a0j v,c.oneCell'=true:=by
  intro v hv c hc;rcases List.mem_append.1 hv with hv|hv
  ·exact h22 v hv c hc
  ·rw[List.mem_singleton.1 hv]at hc;exact hu1 c hc
 have hfit:l.length*i.size+(a0j u).length<=cur.size:=by rw[hnl,h10,<-hsz,<-Nat.add_mul];exact Nat.mul_le_mul_right _ hroom
 have hr:=run_append_room (P:=P) W t ty e i T.und hi g l.length cap cur h7 ⟨w.heap.size,0,none⟩ 1 1 (a0j u) hnl hnews hu1 hroom hfit;have hE2:ExtX (ob (some ⟨g,0,none⟩)) W (W.setRow g (cur.toList.take (l.length*i.size)++a0j u++cur.toList.drop (l.length*i.size+(a0j u).length)).toArray):=
  ⟨rfl,rfl,rfl,by simp,fun k _ hk=>setRow_other W g k _ (fun ek=>by subst ek;simp[ob]at hk)⟩
 have hll:(l++[y]).length=l.length+1:=by simp
 have hOL:OL R sz X base e (W.setRow g (cur.toList.take (l.length*i.size)++a0j u++cur.toList.drop (l.length*i.size+(a0j u).length)).toArray) (some ⟨g,0,none⟩) cap (l++[y]):=by
  refine⟨hx',us++[u],by simp[h1],hnew,hnew1,⟨by rw[hfl];simp[hul,hnl,hsz,Nat.add_mul], .inr ⟨g,cap,_,by rw[hll],h6,setRow_heap W g cur _ e _ h7,by rw[hll];exact hroom,h9,?_,?_⟩⟩,?_⟩
  ·simp only[List.size_toArray,List.length_append,List.length_take,List.length_drop,Array.length_toList];omega
  ·rw[hfl,hll]
   rcases h3.2 with⟨hv,_⟩|⟨g',c',cur',hv,_,h7',_,_,_,h11⟩
   ·simp at hv
   simp at hv;obtain⟨rfl,rfl⟩:=hv;rw[h7]at h7';obtain rfl:cur=cur':=by simpa using h7'
   have e1:cur.toList.take (l.length*i.size)=us.flatMap a0j:=by rw[hsz];exact h11
   rw[e1];have hll2:(l.length+1)*sz=(us.flatMap a0j++a0j u).length:=by simp only[List.length_append,hul,hnl,hsz,Nat.add_mul]
   rw[hll2];exact List.take_left
  ·intro k hk hk'
   have hle:Le (mk (un X (some ⟨g,0,none⟩)) W) (mk (un X (some ⟨g,0,none⟩)) _):=a2U hE2 (.inl rfl);by_cases hlt:k<us.length
   ·simpa[List.getElem_append_left hlt,List.getElem_append_left (show k<l.length by omega)]using hR.mono _ _ _ _ hle (h5 k hlt (by omega))
   ·have hke:k=us.length:=by simp at hk;omega
    subst hke;have:=hR.mono _ _ _ _ hle hu2;simpa[List.getElem_append_right,h1]using this
 unfold Oper.wp execOp;simp only[resolve,invoke,builtin,Sem.run_bind,Sem.run_pure,Result.andThen_ok,List.map_toArray,List.map_cons,List.map_nil,hs,hx];rw[hr];exact hK' _ _ (K _ hOL ((ExtX.of hE).trans hE2))
theorem b4Z {t by_:Nat} {z:Value} {x y:Operand} {kl kc:IntKind} {m m0:Int} (T:SliceT P t e sz by_ z) (_hzs:z.cells.size=sz) (X:Nat->Bool) (hX:∀k,X k=true->k<w.heap.size) (base:Nat) (hbase:base<=w.heap.size)
  (n:Nat) (hl:a.eval x= .int kl m0) (hm0:m0=0) (hc:a.eval y= .int kc m) (hm:m=(n:Int)) (hroom:by_*n<=281474976710656) (hmax:n<=9223372036854775807)
  (K:∀w',OL R sz X base e w' (some ⟨w.heap.size,0,none⟩) n []->Ext w w'->w'.heap.size=w.heap.size+1->wpList P ops Q rest (a.put d (.slice (some ⟨w.heap.size,0,none⟩) 0 n)) w'):
  wpList P ops Q (⟨d, .makeSlice t x y,ty,ps,af,none⟩::rest) a w:=by
 refine wpList_plain rfl fun K' hK'=>?_;subst hm;subst hm0;obtain⟨i,hi,hiz,hsz,hby⟩:=info_parts T.info;have hr:=Go.run_make (P:=P) w t e i z T.und hi hiz kl kc 0 n (by omega) (by omega) (by rw[hby,<-Int.natCast_mul];omega) (by omega);simp only[Int.toNat_natCast,Int.toNat_zero]at hr;unfold Oper.wp;simp[execOp,hl,hc,hr,Result.andThen];refine hK' _ _ (K _ ⟨fun k hk=>?_,[],rfl,by simp,by simp,⟨by simp, .inr ⟨w.heap.size,n,_,by simp,hbase,heap_alloc_new w _,by simp,by simpa[maxLen]using hmax,by rw[size_madeCells,hsz],by simp⟩⟩,fun i hi=>by simp at hi⟩ ((ExtX.refl w).alloc _) (by simp));have:w.heap.size=k:=by simpa[ob]using hk
 cases hh:X k
 ·rfl
 ·have:=hX k hh;omega
end
end Go.Rep
namespace Go.Rep
open Go.RowKit
theorem OL.hide0 {α:Type} {R:Mem->Value->α->Prop} {sz base cap:Nat} {X Z:Nat->Bool} {e:TypeId} {w:World} {ao:Option Addr} {l:List α} (h:OL R sz X base e w ao cap l) (hR0:∀h h' u x,R h u x->R h' u x) (hz:∀k,ob ao k=true->Z k=false):OL R sz Z base e w ao cap l:=by
 obtain⟨hx,us,h1,h2,h22,h3,h5⟩:=h;exact⟨hz,us,h1,h2,h22,h3,fun i hi hi'=>hR0 _ _ _ _ (h5 i hi hi')⟩
end Go.Rep
namespace Go.Lim
theorem b2Z {m h:Nat} {lo:Int} (hm:m<h):a1g m h lo= []:=List.eq_nil_of_length_eq_zero (by rw[a2p,b6w m h hm])
end Go.Lim
namespace Go.Proofs.YtidbbddagfnfbaaGreat
open Go.RowKit Go.Rep Go.Lim
def a4f (base:Nat):Nat->Bool:=fun k=>decide (base<=k)&&decide (k<base+6)
def hbB (W:World) (g:Nat):Nat->Bool:=fun k=>decide (k<W.heap.size)&& !(k==g)
structure FromSt (base n k:Nat) (fv:Value) (W:World) (Q:List Int):Prop where
 bn:W.heap[base]? =some (.cells #[.int .i64 (n:Int)] 3 (0,0))
 bk:W.heap[base+1]? =some (.cells #[.int .i64 (k:Int)] 3 (0,0))
 bf:W.heap[base+2]? =some (.cells #[fv] 122 (0,0))
 bl:W.heap[base+4]? =some (.cells #[.slice (some ⟨base+3,0,none⟩) Q.length k] 22 (0,0))
 br:W.heap[base+5]? =some (.cells #[.func (.func 157) #[] #[.pointer (some ⟨base+4,0,none⟩), .pointer (some ⟨base+1,0,none⟩), .pointer (some ⟨base+2,0,none⟩), .pointer (some ⟨base,0,none⟩), .pointer (some ⟨base+5,0,none⟩)]] 176 (0,0))
 ol:OL (a0w .i64) 1 (hbB W (base+3)) base 3 W (some ⟨base+3,0,none⟩) k Q
 sz:base+6<=W.heap.size
def b0t (base:Nat) (W W':World):Prop:=W.heap.size<=W'.heap.size/\∀k,a4f base k=true->W'.heap[k]? =W.heap[k]?
theorem ob3 {base k:Nat} (h:ob (some ⟨base,0,none⟩) k=true):base=k:=by simpa[ob]using h
theorem b7N {W:World} {base k:Nat} (h:ob (some ⟨base,0,none⟩) k=true):hbB W base k=false:=by
 have:=ob3 h;subst this;simp[hbB]
theorem b3a:∀(h h':Mem) (u:Value) (x:Int),a0w .i64 h u x->a0w .i64 h' u x:=fun _ _ _ _ h=>h
theorem FromSt.keep {base n k:Nat} {fv:Value} {W W':World} {Q:List Int} (h:FromSt base n k fv W Q) (hk:b0t base W W'):FromSt base n k fv W' Q:=by
 have hb:∀d,d<6->W'.heap[base+d]? =W.heap[base+d]?:=fun d hd=>hk.2 _ (by simp[a4f];omega);refine⟨by have:=hb 0 (by omega);simp only[Nat.add_zero]at this;rw[this];exact h.bn,by rw[hb 1 (by omega)];exact h.bk,by rw[hb 2 (by omega)];exact h.bf,by rw[hb 4 (by omega)];exact h.bl,by rw[hb 5 (by omega)];exact h.br,?_,Nat.le_trans h.sz hk.1⟩;have h0:=h.ol;obtain⟨hx,us,h1,h2,h22,⟨h3,h4⟩,h5⟩:=h0;refine⟨fun k hk=>b7N hk,us,h1,h2,h22,⟨h3,?_⟩,fun i hi hi'=>b3a _ _ _ _ (h5 i hi hi')⟩;rcases h4 with h4|⟨g,c,cur,hv,q1,q2,q3⟩
 ·exact .inl h4
 ·simp at hv
  obtain⟨rfl,rfl⟩:=hv;exact .inr ⟨base+3,k,cur,by simp,q1,by rw[hb 3 (by omega)];exact q2,q3⟩
theorem FromSt.set {base n k:Nat} {fv:Value} {W W1:World} {Q Q':List Int} (h:FromSt base n k fv W Q) (hE:ExtX (ob (some ⟨base+3,0,none⟩)) W W1) {X:Nat->Bool} (hO:OL (a0w .i64) 1 X base 3 W1 (some ⟨base+3,0,none⟩) k Q') (m:Nat) (hm:m=Q'.length):
  FromSt base n k fv (W1.setCell ⟨base+4,0,none⟩ (.slice (some ⟨base+3,0,none⟩) m k)) Q'/\ExtX (a4f base) W (W1.setCell ⟨base+4,0,none⟩ (.slice (some ⟨base+3,0,none⟩) m k))/\
   W1.cell? ⟨base+4,0,none⟩=some (.slice (some ⟨base+3,0,none⟩) Q.length k)/\W1.frozen? ⟨base+4,0,none⟩=false:=by
 subst hm;have hsz:=h.sz;have hE2:ExtX (fun j=>j==base+4) W1 (W1.setCell ⟨base+4,0,none⟩ (.slice (some ⟨base+3,0,none⟩) Q'.length k)):=
  ⟨rfl,rfl,rfl,by simp[World.setCell],fun j hj hy=>Below.heap_setCell _ _ _ _ (fun e=>by subst e;simp at hy)⟩
 have h1:∀j,j<W.heap.size->j≠base+3->W1.heap[j]? =W.heap[j]?:=fun j hj hn=>hE.block j hj (by
  cases hh:ob (some ⟨base+3,0,none⟩) j
  ·rfl
  ·exact absurd (ob3 hh).symm hn)
 have h2:∀j,j<W.heap.size->j≠base+3->j≠base+4->(W1.setCell ⟨base+4,0,none⟩ (.slice (some ⟨base+3,0,none⟩) Q'.length k)).heap[j]? =W.heap[j]?:=fun j hj hn hn2=>by
  rw[hE2.block j (Nat.lt_of_lt_of_le hj hE.size) (by simpa using hn2),h1 j hj hn]
 have hbl:=h1 (base+4) (by omega) (by omega);rw[h.bl]at hbl;have hnew:(W1.setCell ⟨base+4,0,none⟩ (.slice (some ⟨base+3,0,none⟩) Q'.length k)).heap[base+4]? =some (.cells #[.slice (some ⟨base+3,0,none⟩) Q'.length k] 22 (0,0)):=by
  simp only[World.setCell,Array.getElem?_modify,hbl];simp
 refine⟨⟨by rw[h2 base (by omega) (by omega) (by omega)];exact h.bn,by rw[h2 _ (by omega) (by omega) (by omega)];exact h.bk,by rw[h2 _ (by omega) (by omega) (by omega)];exact h.bf,hnew,by rw[h2 _ (by omega) (by omega) (by omega)];exact h.br,?_,by simp[World.setCell];have:=hE.size;omega⟩,?_,by simp[World.cell?,hbl],by simp[World.frozen?,hbl]⟩
 ·obtain⟨hx,us,g1,g2,g22,⟨g3,g4⟩,g5⟩:=hO
  refine⟨fun k hk=>b7N hk,us,g1,g2,g22,⟨g3,?_⟩,fun i hi hi'=>b3a _ _ _ _ (g5 i hi hi')⟩;rcases g4 with g4|⟨g,c,cur,hv,q1,q2,q3⟩
  ·exact .inl g4
  ·simp at hv
   obtain⟨rfl,rfl⟩:=hv;have hlt:base+3<W1.heap.size:=by have:=hE.size;omega
   exact .inr ⟨base+3,k,cur,by simp,q1,by rw[hE2.block _ hlt (by simp)];exact q2,q3⟩
 ·refine⟨hE2.os.trans hE.os,hE2.tape.trans hE.tape,hE2.output.trans hE.output,Nat.le_trans hE.size hE2.size,fun j hj hy=>h2 j hj ?_ ?_⟩
  ·intro e;subst e;simp[a4f]at hy
  ·intro e;subst e;simp[a4f]at hy
section
variable (cb base n k:Nat) (caps:Array Value) (Inv:List (List Int)->World->Prop)
set_option maxRecDepth 100000 in
theorem b5a (hcf:∀(args:Array Value) (W:World),Sem.run Tryz.prog (callFunc cb args) W= .ok (.enter cb args) W) (hn:n<=64) (hk:k<=64)
  (hInv:∀done W W',Inv done W->ExtX (a4f base) W W'->Inv done W')
  (hCB:∀(done:List (List Int)) (s:List Int) (W:World),Inv done W->(∃rest,done++[s]++rest=a1g n k 0)->Sl (a0w .i64) 1 W.cell? (some ⟨base+3,0,none⟩) s->base+6<=W.heap.size->
   Calls Tryz.prog cb (#[.slice (some ⟨base+3,0,none⟩) s.length k]++caps) W (fun e W'=>e= .returned (.tuple #[])/\Inv (done++[s]) W'/\b0t base W W')) (g:Nat):
  ∀(i:Nat) (Q:List Int) (done:List (List Int)) (W:World),Q.length+g=k->i<=n+1->FromSt base n k (.func (.func cb) #[] caps) W Q->Inv done W->Hid (∃rest,done++(a1g (n - i) g i).map (Q++ ·)++rest=a1g n k 0)->
  Calls Tryz.prog 157 #[.int .i64 (i:Int), .pointer (some ⟨base+4,0,none⟩), .pointer (some ⟨base+1,0,none⟩), .pointer (some ⟨base+2,0,none⟩), .pointer (some ⟨base,0,none⟩), .pointer (some ⟨base+5,0,none⟩)] W
   (fun e W'=>e= .returned (.tuple #[])/\FromSt base n k (.func (.func cb) #[] caps) W' Q/\Inv (done++(a1g (n - i) g i).map (Q++ ·)) W'):=by
 induction g with
 |zero=>
  intro i Q done W hQ hi hst hiv hpre;have cl:W.cell? ⟨base+4,0,none⟩=some (.slice (some ⟨base+3,0,none⟩) Q.length k):=by simp[World.cell?,hst.bl]
  have ck:W.cell? ⟨base+1,0,none⟩=some (.int .i64 (k:Int)):=by simp[World.cell?,hst.bk]
  have cf:W.cell? ⟨base+2,0,none⟩=some (.func (.func cb) #[] caps):=by simp[World.cell?,hst.bf]
  have hs:Sl (a0w .i64) 1 W.cell? (some ⟨base+3,0,none⟩) Q:=by
   have:=(hst.ol.hide0 b3a (Z:=noY) (fun k hk=>rfl)).sl (a0w.elem _);rw[a2v]at this;exact this
  have hQk:Q.length=k:=by omega
  go_enter Tryz.func157,Tryz.ntmps157
  go_wp2_with fail
  have hcb:=hCB done Q W hiv (by obtain⟨rest,hr⟩:=hpre.out;rw[a4a]at hr;exact⟨rest,by simpa using hr⟩) hs hst.sz;rw[hQk]at hcb;refine hcb.mono ?_;rintro e w1 ⟨rfl,hiv1,hkp⟩;have hst1:=hst.keep hkp;have hfin:Hid (done++(a1g (n - i) 0 i).map (Q++ ·)=done++[Q]):=hid (by rw[a4a];simp);clear hst hs cl ck cf hcb;go_wp2_with fail
  refine bodyPost_ret (results_none rfl _ _ _) rfl ?_;rw[hfin.out];exact⟨rfl,hst1,hiv1⟩
 |succ g ih=>
  intro i Q done W hQ hi hst hiv hpre;have cl:W.cell? ⟨base+4,0,none⟩=some (.slice (some ⟨base+3,0,none⟩) Q.length k):=by simp[World.cell?,hst.bl]
  have ck:W.cell? ⟨base+1,0,none⟩=some (.int .i64 (k:Int)):=by simp[World.cell?,hst.bk]
  have hQk:((Q.length:Int)==(k:Int))=false:=a2I (by omega);go_enter Tryz.func157,Tryz.ntmps157
  go_wp2_with fail
  go_loopw [0] (fun c wr=>∃(j:Nat) (D:List (List Int)),c= .int .i64 j/\j<=n+1/\FromSt base n k (.func (.func cb) #[] caps) wr Q/\Inv D wr/\Hid (D++(a1g (n - j) (g+1) j).map (Q++ ·)=done++(a1g (n - i) (g+1) i).map (Q++ ·))) (fun c _=>n+1 - (intOf c).toNat)
  case atStart=>exact⟨i,done,rfl,hi,hst,hiv,hid rfl⟩
  case round=>
   obtain⟨j,D,rfl,hj,hst1,hiv1,hDe⟩:=hrel;clear cl ck hst hiv;have cl:wr.cell? ⟨base+4,0,none⟩=some (.slice (some ⟨base+3,0,none⟩) Q.length k):=by simp[World.cell?,hst1.bl]
   have ck:wr.cell? ⟨base+1,0,none⟩=some (.int .i64 (k:Int)):=by simp[World.cell?,hst1.bk]
   have cn:wr.cell? ⟨base,0,none⟩=some (.int .i64 (n:Int)):=by simp[World.cell?,hst1.bn]
   by_cases hlt:j+g+1<=n
   ·obtain⟨m,hm⟩:∃m,n - j=m+1:=⟨n - j - 1,by omega⟩
    have hmn:n - (j+1)=m:=by omega
    go_wp2_with (at_builtin;refine a6J a4o (a0w.elem .i64) rfl rfl rfl hst1.ol (.int .i64 j) (j:Int) rfl rfl (by omega) ?_;intro w2 hO2 hE2;obtain⟨hst2,hE3,cl2,fl2⟩:=hst1.set hE2 hO2 (Q.length+1) (by simp);have cr:=cell_of_one hst2.br)
    have hiv2:=hInv _ _ _ hiv1 hE3;have hih:=ih (j+1) (Q++[(j:Int)]) D _ (by simp;omega) (by omega) hst2 hiv2 (hid (by
     obtain⟨rest,hr⟩:=hpre.out;refine⟨(a1g (n - (j+1)) (g+1) ((j+1:Nat):Int)).map (Q++ ·)++rest,?_⟩;rw[<-hr,<-hDe.out,hm,hmn,a1g,show((j+1:Nat):Int)=(j:Int)+1 by omega];have hmm:(a1g m g ((j:Int)+1)).map ((Q++[(j:Int)])++ ·)=((a1g m g ((j:Int)+1)).map ((j:Int):: ·)).map (Q++ ·):=by
      rw[List.map_map];apply List.map_congr_left;intro r _;simp
     rw[hmm,List.map_append];simp only[List.append_assoc]))
    rw[show((j+1:Nat):Int)=(j:Int)+1 by omega]at hih;refine hih.mono ?_;rintro e w4 ⟨rfl,hst4,hiv4⟩;clear hih;have cl4:=cell_of_one hst4.bl;rw[show(Q++[(j:Int)]).length=Q.length+1 by simp]at cl4;have htk:=hst4.ol.take (a0w.elem .i64).size Q.length;rw[List.take_left]at htk;obtain⟨hst5,hE5,_,fl4⟩:=hst4.set (ExtX.refl _) htk Q.length rfl;have hiv5:=hInv _ _ _ hiv4 hE5;have hDe2:Hid ((D++(a1g (n - (j+1)) g ((j:Int)+1)).map ((Q++[(j:Int)])++ ·))++(a1g (n - (j+1)) (g+1) ((j+1:Nat):Int)).map (Q++ ·)=done++(a1g (n - i) (g+1) i).map (Q++ ·)):=hid (by
     rw[<-hDe.out,hm,hmn,a1g,show((j+1:Nat):Int)=(j:Int)+1 by omega];have hmm:(a1g m g ((j:Int)+1)).map ((Q++[(j:Int)])++ ·)=((a1g m g ((j:Int)+1)).map ((j:Int):: ·)).map (Q++ ·):=by
      rw[List.map_map];apply List.map_congr_left;intro r _;simp
     rw[hmm,List.map_append,List.append_assoc])
    clear cl ck cn hst1 hiv1 hO2 hE2 hst2 hE3 cl2 fl2 cr hiv2 hm hmn;go_wp2_with fail
    go_roundw
    case rel=>exact⟨j+1,_,by go_num,by omega,hst5,hiv5,hDe2⟩
    case measure=>simp[intOf];omega
   ·have hnil:Hid (D=done++(a1g (n - i) (g+1) i).map (Q++ ·)):=hid (by
     have:=hDe.out;rw[b2Z (by omega)]at this;simpa using this)
    go_wp2_with fail
    go_end0
    rw[<-hnil.out];exact⟨rfl,hst1,hiv1⟩
end
theorem b7O (w:World) (u v:Value) (t1 t2:TypeId) (wd:World) (h:(w.alloc (.cells #[u] t1)).alloc (.cells #[v] t2)=wd):Ext w wd/\wd.heap[w.heap.size]? =some (.cells #[u] t1 (0,0))/\wd.heap[w.heap.size+1]? =some (.cells #[v] t2 (0,0))/\wd.heap.size=w.heap.size+2:=by
 subst h;refine⟨((ExtX.refl w).alloc _).alloc _,?_,?_,by simp⟩
 ·rw[Below.heap_alloc _ _ _ (by simp)];exact heap_alloc_new w _
 ·have:=heap_alloc_new (w.alloc (.cells #[u] t1)) (.cells #[v] t2 (0,0))
  simpa using this
theorem c0o:(Tryz.prog.info? 176).map (fun i=>(i.zero,i.size,i.bytes))=some (some .nilFunc,1,8):=by kernel_rfl
theorem c1a:TyI Tryz.prog 176 1:=let ⟨i,h,_,h2,_⟩:=info_parts c0o;⟨i,h,h2⟩
theorem b9v (W:World) (g:Nat):∀j,hbB W g j=true->j<W.heap.size:=fun j hj=>by
 have h:j<W.heap.size/\¬j=g:=by simpa[hbB]using hj
 exact h.1
theorem b0Z {w wb wc wd:World} {vk u v:Value} {t0 t1 t2:TypeId} (hzb:wb.heap.size=w.heap.size+3) (hEc:Ext wb wc) (hzc:wc.heap.size=wb.heap.size+1) (hwd:(wc.alloc (.cells #[u] t1)).alloc (.cells #[v] t2)=wd) (b1:wb.heap[w.heap.size+1]? =some (.cells #[vk] t0 (0,0))):
  Ext wc wd/\wd.cell? ⟨w.heap.size+3+1+1,0,none⟩=some v/\wd.frozen? ⟨w.heap.size+3+1+1,0,none⟩=false/\wd.cell? ⟨w.heap.size+1,0,none⟩=some vk/\
   wd.heap[w.heap.size+3+1]? =some (.cells #[u] t1 (0,0))/\wd.heap[w.heap.size+3+1+1]? =some (.cells #[v] t2 (0,0))/\wd.heap.size=w.heap.size+6:=by
 obtain⟨hEd,d4,d5,hzd⟩:=b7O wc _ _ _ _ wd hwd;have hz4:wc.heap.size=w.heap.size+3+1:=by omega
 rw[hz4]at d4 d5;have e1:=(hEc.trans hEd).block (w.heap.size+1) (by omega) rfl;rw[b1]at e1;exact⟨hEd,cell_of_one d5,free_of_one d5,cell_of_one e1,d4,d5,by omega⟩
theorem FromSt.start {w wb wc wd:World} {n k:Nat} {fv:Value} {X:Nat->Bool} (hEb:Ext w wb) (hzb:wb.heap.size=w.heap.size+3)
  (b0:wb.heap[w.heap.size]? =some (.cells #[.int .i64 (n:Int)] 3 (0,0))) (b1:wb.heap[w.heap.size+1]? =some (.cells #[.int .i64 (k:Int)] 3 (0,0))) (b2:wb.heap[w.heap.size+2]? =some (.cells #[fv] 122 (0,0)))
  (hEc:Ext wb wc) (hzc:wc.heap.size=wb.heap.size+1) (hOc:OL (a0w .i64) 1 X w.heap.size 3 wc (some ⟨wb.heap.size,0,none⟩) k []) (hEd:Ext wc wd)
  (d4:wd.heap[w.heap.size+3+1]? =some (.cells #[.slice (some ⟨w.heap.size+3,0,none⟩) 0 k] 22 (0,0))) (d5:wd.heap[w.heap.size+3+1+1]? =some (.cells #[.nilFunc] 176 (0,0))) (hzd:wd.heap.size=w.heap.size+6):
  FromSt w.heap.size n k fv (wd.setCell ⟨w.heap.size+3+1+1,0,none⟩ (.func (.func 157) #[] #[.pointer (some ⟨w.heap.size+3+1,0,none⟩), .pointer (some ⟨w.heap.size+1,0,none⟩), .pointer (some ⟨w.heap.size+1+1,0,none⟩), .pointer (some ⟨w.heap.size,0,none⟩), .pointer (some ⟨w.heap.size+3+1+1,0,none⟩)])) []/\
   ExtX (a4f w.heap.size) w (wd.setCell ⟨w.heap.size+3+1+1,0,none⟩ (.func (.func 157) #[] #[.pointer (some ⟨w.heap.size+3+1,0,none⟩), .pointer (some ⟨w.heap.size+1,0,none⟩), .pointer (some ⟨w.heap.size+1+1,0,none⟩), .pointer (some ⟨w.heap.size,0,none⟩), .pointer (some ⟨w.heap.size+3+1+1,0,none⟩)])):=by
 obtain⟨f,hf⟩:∃f,Value.func (.func 157) #[] #[.pointer (some ⟨w.heap.size+3+1,0,none⟩), .pointer (some ⟨w.heap.size+1,0,none⟩), .pointer (some ⟨w.heap.size+1+1,0,none⟩), .pointer (some ⟨w.heap.size,0,none⟩), .pointer (some ⟨w.heap.size+3+1+1,0,none⟩)]=f:=⟨_,rfl⟩;rw[hf];have hother:∀j,j≠w.heap.size+5->(wd.setCell ⟨w.heap.size+3+1+1,0,none⟩ f).heap[j]? =wd.heap[j]?:=fun j hj=>Below.heap_setCell _ _ _ _ (fun e=>hj e);have hE:Ext wb wd:=hEc.trans hEd;have hn5:(wd.setCell ⟨w.heap.size+3+1+1,0,none⟩ f).heap[w.heap.size+3+1+1]? =some (.cells #[f] 176 (0,0)):=by
  simp only[World.setCell,Array.getElem?_modify,d5];simp
 refine⟨⟨?_,?_,?_,?_,?_,?_,by simp[World.setCell,hzd]⟩,?_⟩
 ·rw[hother _ (by omega),hE.block _ (by omega) rfl];exact b0
 ·rw[hother _ (by omega),hE.block _ (by omega) rfl];exact b1
 ·rw[hother _ (by omega),hE.block _ (by omega) rfl];exact b2
 ·rw[hother _ (by omega)];exact d4
 ·rw[<-hf]at hn5 |-;exact hn5
 ·rw[hzb]at hOc
  obtain⟨hx,us,g1,g2,g22,⟨g3,g4⟩,g5⟩:=hOc;refine⟨fun k hk=>b7N hk,us,g1,g2,g22,⟨g3,?_⟩,fun i hi hi'=>b3a _ _ _ _ (g5 i hi hi')⟩;rcases g4 with g4|⟨g,c,cur,hv,q1,q2,q3⟩
  ·exact .inl g4
  ·simp at hv
   obtain⟨rfl,rfl⟩:=hv;exact .inr ⟨w.heap.size+3,k,cur,by simp,q1,by rw[hother _ (by omega),hEd.block _ (by omega) rfl];exact q2,q3⟩
 ·refine⟨hEd.os.trans (hEc.os.trans hEb.os),hEd.tape.trans (hEc.tape.trans hEb.tape),hEd.output.trans (hEc.output.trans hEb.output),by simp[World.setCell,hzd],fun j hj _=>?_⟩
  rw[hother _ (by omega),(hEb.trans hE).block j hj rfl]
set_option maxRecDepth 100000 in
theorem a9u (cb n k:Nat) (caps:Array Value) (Inv:List (List Int)->World->Prop) (w:World) (hcf:∀(args:Array Value) (W:World),Sem.run Tryz.prog (callFunc cb args) W= .ok (.enter cb args) W) (hn:n<=64) (hk:k<=64)
  (hInv:∀done W W',Inv done W->ExtX (a4f w.heap.size) W W'->Inv done W')
  (hCB:∀(done:List (List Int)) (s:List Int) (W:World),Inv done W->(∃rest,done++[s]++rest=a1g n k 0)->Sl (a0w .i64) 1 W.cell? (some ⟨w.heap.size+3,0,none⟩) s->w.heap.size+6<=W.heap.size->
   Calls Tryz.prog cb (#[.slice (some ⟨w.heap.size+3,0,none⟩) s.length k]++caps) W (fun e W'=>e= .returned (.tuple #[])/\Inv (done++[s]) W'/\b0t w.heap.size W W'))
  (h0:Inv [] w):
  Calls Tryz.prog 78 #[.int .i64 (n:Int), .int .i64 (k:Int), .func (.func cb) #[] caps] w (fun e W'=>e= .returned (.tuple #[])/\Inv (a1g n k 0) W'):=by
 have hmf:∀(fn:Fn) (first cap:Array Value) (w:World),(Instr.makeFunc fn first cap).run Tryz.prog w= .ok (.func fn first cap) w:=fun _ _ _ _=>rfl;obtain⟨wb,hwb⟩:∃wb,(((w.alloc (.cells #[.int .i64 (n:Int)] 3)).alloc (.cells #[.int .i64 (k:Int)] 3)).alloc (.cells #[.func (.func cb) #[] caps] 122))=wb:=⟨_,rfl⟩;have hEb:Ext w wb:=by rw[<-hwb];exact(((ExtX.refl w).alloc _).alloc _).alloc _
 have hzb:wb.heap.size=w.heap.size+3:=by rw[<-hwb];simp
 have b0:wb.heap[w.heap.size]? =some (.cells #[.int .i64 (n:Int)] 3 (0,0)):=by
  rw[<-hwb,Below.heap_alloc _ _ _ (by simp;omega),Below.heap_alloc _ _ _ (by simp)];exact heap_alloc_new w _
 have b1:wb.heap[w.heap.size+1]? =some (.cells #[.int .i64 (k:Int)] 3 (0,0)):=by
  rw[<-hwb,Below.heap_alloc _ _ _ (by simp)];have:=heap_alloc_new (w.alloc (.cells #[.int .i64 (n:Int)] 3)) (.cells #[.int .i64 (k:Int)] 3 (0,0));simpa using this
 have b2:wb.heap[w.heap.size+2]? =some (.cells #[.func (.func cb) #[] caps] 122 (0,0)):=by
  rw[<-hwb];have:=heap_alloc_new ((w.alloc (.cells #[.int .i64 (n:Int)] 3)).alloc (.cells #[.int .i64 (k:Int)] 3)) (.cells #[.func (.func cb) #[] caps] 122 (0,0));simpa using this
 have ck:=cell_of_one b1;go_enter Tryz.func78,Tryz.ntmps78
 go_wp2_with (first|((with_reducible show wpList _ _ _ (⟨_, .store _ _ _,_,_,_,_⟩::_) _ _);refine a9t c1a rfl rfl rfl rfl cd fd ?_)|(at_make;refine b4Z (R:=a0w .i64) a4o rfl (hbB wb (w.heap.size+3)) (b9v wb _) w.heap.size hEb.size k rfl rfl rfl rfl (by omega) (by omega) ?_;intro wc hOc hEc hzc;obtain⟨wd,hwd⟩:∃wd,(wc.alloc (.cells #[.slice (some ⟨w.heap.size+3,0,none⟩) 0 k] 22)).alloc (.cells #[.nilFunc] 176)=wd:=⟨_,rfl⟩;obtain⟨hEd,cd,fd,ck2,d4,d5,hzd⟩:=b0Z hzb hEc hzc hwd b1))
 obtain⟨hst0,hEf⟩:=FromSt.start (fv:= .func (.func cb) #[] caps) hEb hzb b0 b1 b2 hEc hzc hOc hEd d4 d5 hzd;have hpre:Hid (∃rest,([]:List (List Int))++(a1g (n - 0) k ((0:Nat):Int)).map (([]:List Int)++ ·)++rest=a1g n k 0):=hid ⟨[],by simp⟩;refine(b5a cb w.heap.size n k caps Inv hcf hn hk hInv hCB k 0 [] [] _ (by simp) (by omega) hst0 (hInv _ _ _ h0 hEf) hpre).mono ?_;rintro e w9 ⟨rfl,_,hiv⟩;have hfin:Hid (([]:List (List Int))++(a1g (n - 0) k ((0:Nat):Int)).map (([]:List Int)++ ·)=a1g n k 0):=hid (by simp);rw[hfin.out]at hiv;clear hst0 hEf cd fd ck2 d4 d5 hEd hOc hEc b0 b1 b2 hEb ck hwd hwb;go_wp2_with fail
 go_end0
 exact⟨rfl,hiv⟩
end Go.Proofs.YtidbbddagfnfbaaGreat
namespace Go.Rep
open Go.RowKit Go.Lim
section
variable {P:Program} {ops:Array Oper} {Q:Exit->Act->World->Prop} {a:Act} {w:World}
variable {α:Type} {R:Mem->Value->α->Prop} {sz:Nat} {X:Nat->Bool} {base:Nat} {e:TypeId} {ao:Option Addr} {cap:Nat} {l:List α}
end
end Go.Rep
namespace Go.Proofs.YtidbbddagfnfbaaGreat
open Go.RowKit Go.Rep Go.Lim Go.Lin
def uB:Nat:=10000000000
def a9v (bc bs:Nat):Nat->Bool:=fun k=>(k==bc)||(k==bs)
def b3x (X:Nat->Bool) (bc bs B0:Nat):Nat->Bool:=fun k=>X k||a9v bc bs k||a4f B0 k
structure Lay (lo bo bu bc bd bs B0:Nat):Prop where
 lo1:lo<=bo
 lo2:lo<=bu
 lo3:lo<=bc
 lo4:lo<=bd
 lo5:lo<=bs
 hi1:bo<B0
 hi2:bu<B0
 hi3:bc<B0
 hi4:bd<B0
 hi5:bs<B0
 ne1:bo≠bc
 ne2:bo≠bs
 ne3:bu≠bc
 ne4:bu≠bs
 ne5:bd≠bc
 ne6:bd≠bs
 ne7:bc≠bs
structure BSt (X:Nat->Bool) (w0:World) (bo bu bc bd bs B0 c:Nat) (oo:Option Addr) (n oc:Nat) (ov:Value) (z N:Mat) (cnt:Nat) (dv:Value) (us:Mat) (W:World):Prop where
 ext:Ext w0 W
 b1:Bx W bo #[.slice oo n oc] 23
 b2:Bx W bu #[ov] 23
 b3:Bx W bc #[.int .i64 (cnt:Int)] 3
 b4:Bx W bd #[.int .i64 (c:Int)] 3
 b5:Bx W bs #[dv] 23
 r1:MV (mk (b3x X bc bs B0) W) (.slice oo n oc) z
 r2:MV (mk (b3x X bc bs B0) W) ov N
 r3:MV (mk (b3x X bc bs B0) W) dv us
section
variable {X:Nat->Bool} {w0 W W':World} {bo bu bc bd bs B0 c:Nat} {oo:Option Addr} {n oc:Nat} {ov:Value} {z N:Mat} {cnt:Nat} {dv:Value} {us:Mat}
theorem BSt.hx (_h:BSt X w0 bo bu bc bd bs B0 c oo n oc ov z N cnt dv us W) (hX:HX X w0) (hl:Lay w0.heap.size bo bu bc bd bs B0) (hB:B0+6<=W.heap.size):HX (b3x X bc bs B0) W:=fun k hk=>by
 have h1:=hl.hi3;have h2:=hl.hi5;have h0:=hl.lo1;have h00:=hl.hi1;simp only[b3x,a9v,a4f,Bool.or_eq_true,Bool.and_eq_true,beq_iff_eq,decide_eq_true_eq]at hk;rcases hk with(h|h|h)|h
 ·have:=hX k h;omega
 ·omega
 ·omega
 ·omega
theorem BSt.hxs (h:BSt X w0 bo bu bc bd bs B0 c oo n oc ov z N cnt dv us W) (hX:HX X w0):HX (fun k=>X k||a9v bc bs k) W:=fun k hk=>by
 have h3:=h.b3.lt;have h5:=h.b5.lt;have h0:=h.ext.size;simp only[a9v,Bool.or_eq_true,beq_iff_eq]at hk;rcases hk with h|h|h
 ·have:=hX k h;omega
 ·omega
 ·omega
theorem BSt.step (h:BSt X w0 bo bu bc bd bs B0 c oo n oc ov z N cnt dv us W) (hE:Ext W W'):BSt X w0 bo bu bc bd bs B0 c oo n oc ov z N cnt dv us W':=
 ⟨h.ext.trans hE,h.b1.ext0 hE,h.b2.ext0 hE,h.b3.ext0 hE,h.b4.ext0 hE,h.b5.ext0 hE,mkx MV.mono h.r1 hE,mkx MV.mono h.r2 hE,mkx MV.mono h.r3 hE⟩
theorem BSt.own (h:BSt X w0 bo bu bc bd bs B0 c oo n oc ov z N cnt dv us W) (hl:Lay w0.heap.size bo bu bc bd bs B0) (hE:ExtX (a4f B0) W W'):BSt X w0 bo bu bc bd bs B0 c oo n oc ov z N cnt dv us W':=by
 have no:∀j,j<B0->a4f B0 j=false:=fun j hj=>by simp[a4f];omega
 have hm:=a0x (X:=b3x X bc bs B0) hE fun k hk=>by simp[b3x,hk]
 have:=hl.lo1;have:=hl.hi1;exact⟨h.ext.then_ hE fun i hi _=>no i (by omega),h.b1.ext hE (no _ hl.hi1),h.b2.ext hE (no _ hl.hi2),h.b3.ext hE (no _ hl.hi3),h.b4.ext hE (no _ hl.hi4),h.b5.ext hE (no _ hl.hi5),MV.mono _ _ _ _ hm h.r1,MV.mono _ _ _ _ hm h.r2,MV.mono _ _ _ _ hm h.r3⟩
theorem BSt.put (h:BSt X w0 bo bu bc bd bs B0 c oo n oc ov z N cnt dv us W) (hl:Lay w0.heap.size bo bu bc bd bs B0) (cnt':Nat) (dv':Value) (us':Mat) (hr:MV (_root_.Go.Rep.mk (b3x X bc bs B0) W) dv' us'):
  (W.setCell ⟨bc,0,none⟩ (.int .i64 (cnt':Int))).cell? ⟨bs,0,none⟩=some dv/\(W.setCell ⟨bc,0,none⟩ (.int .i64 (cnt':Int))).frozen? ⟨bs,0,none⟩=false/\
  BSt X w0 bo bu bc bd bs B0 c oo n oc ov z N cnt' dv' us' ((W.setCell ⟨bc,0,none⟩ (.int .i64 (cnt':Int))).setCell ⟨bs,0,none⟩ dv')/\ExtX (a9v bc bs) W ((W.setCell ⟨bc,0,none⟩ (.int .i64 (cnt':Int))).setCell ⟨bs,0,none⟩ dv'):=by
 obtain⟨p1,p2⟩:=a0K h.b3 (.int .i64 (cnt':Int)) (i:=0) (by simp);have p5:=h.b5.ext p2 (a0b hl.ne7.symm);obtain⟨q1,q2⟩:=a0K p5 dv' (i:=0) (by simp);have hE:ExtX (a9v bc bs) W ((W.setCell ⟨bc,0,none⟩ (.int .i64 (cnt':Int))).setCell ⟨bs,0,none⟩ dv'):=by
  refine(p2.weaken fun k _ hk=>?_).trans (q2.weaken fun k _ hk=>?_)
  ·refine a0b fun e=>?_
   subst e;simp[a9v]at hk
  ·refine a0b fun e=>?_
   subst e;simp[a9v]at hk
 have hm:=a0x (X:=b3x X bc bs B0) hE fun k hk=>by simp[b3x,hk]
 have n1:a9v bc bs bo=false:=by simp[a9v,hl.ne1,hl.ne2]
 have n2:a9v bc bs bu=false:=by simp[a9v,hl.ne3,hl.ne4]
 have n3:a9v bc bs bd=false:=by simp[a9v,hl.ne5,hl.ne6]
 have hlo3:=hl.lo3;have hlo5:=hl.lo5;refine⟨p5.cell 0 rfl,p5.frozen 0,⟨h.ext.then_ hE fun i hi _=>?_,h.b1.ext hE n1,h.b2.ext hE n2,?_,h.b4.ext hE n3,by simpa using q1,MV.mono _ _ _ _ hm h.r1,MV.mono _ _ _ _ hm h.r2,MV.mono _ _ _ _ hm hr⟩,hE⟩
 ·simp[a9v];omega
 ·have:=p1.ext q2 (a0b hl.ne7)
  simpa using this
end
def c0p (X:Nat->Bool) (w0:World) (bo bu bc bd bs B0 c:Nat) (oo:Option Addr) (n oc:Nat) (ov:Value) (z N:Mat) (done:List (List Int)) (W:World):Prop:=
 ∃(cnt:Nat) (dv:Value) (us:Mat),BSt X w0 bo bu bc bd bs B0 c oo n oc ov z N cnt dv us W/\b7d c z cnt us/\BM uB us/\(∀r∈us,r.length=c)/\∀s∈done,b4p c (a4N z) (a4N N) cnt (s.map Int.toNat)
theorem c0p.own {X:Nat->Bool} {w0 W W':World} {bo bu bc bd bs B0 c:Nat} {oo:Option Addr} {n oc:Nat} {ov:Value} {z N:Mat} {done:List (List Int)} (h:c0p X w0 bo bu bc bd bs B0 c oo n oc ov z N done W) (hl:Lay w0.heap.size bo bu bc bd bs B0) (hE:ExtX (a4f B0) W W'):c0p X w0 bo bu bc bd bs B0 c oo n oc ov z N done W':=by
 obtain⟨cnt,dv,us,h1,h2⟩:=h;exact⟨cnt,dv,us,h1.own hl hE,h2⟩
theorem a2Q {B0:Nat} {Y:Nat->Bool} {W W':World} (hE:ExtX Y W W') (hY:∀k,Y k=true->a4f B0 k=false) (hB:B0+6<=W.heap.size):b0t B0 W W':=⟨hE.size,fun k hk=>hE.block k (by simp[a4f]at hk;omega) (by
 cases h:Y k
 ·rfl
 ·rw[hY k h]at hk;simp at hk)⟩
theorem b0t.trans {B0:Nat} {A B C:World} (h:b0t B0 A B) (k:b0t B0 B C):b0t B0 A C:=⟨Nat.le_trans h.1 k.1,fun i hi=>(k.2 i hi).trans (h.2 i hi)⟩
end Go.Proofs.YtidbbddagfnfbaaGreat
namespace Go.Lin
open Go.Lim Go.Rep Go.Proofs.YtidbbddagfnfbaaGreat
end Go.Lin
namespace Go.Proofs.YtidbbddagfnfbaaGreat
open Go.RowKit Go.Rep Go.Lim Go.Lin
theorem BM.sub {B:Nat} {m l:List (List Rat)} (h:BM B m) (hs:∀r∈l,r∈m):BM B l:=fun r hr=>h r (hs r hr)
def b5b:Mem->Value->Nat->Prop:=fun h u n=>∃ao cap l,u= .slice ao l.length cap/\l.length<=cap/\a0I l n/\Sl (a0d .u32) 1 h ao l
theorem b5b.mono:a3v b5b:=by
 rintro h h' u x hl ⟨ao,cap,l,rfl,h1,h2,h3⟩;exact⟨ao,cap,l,rfl,h1,h2,h3.mono (a0d.mono _) hl⟩
theorem b5b.one:a3h b5b:=by rintro h u x ⟨ao,cap,l,rfl,_⟩;rfl
theorem b5b.elem:Elem b5b 1:=⟨b5b.mono,by rintro h u x ⟨ao,cap,l,rfl,_⟩;rfl,by rintro h u x ⟨ao,cap,l,rfl,_⟩ c hc;simp[a0j,Value.cells]at hc;subst hc;rfl,Nat.one_pos⟩
theorem b5b.zero (h:Mem):b5b h (.slice none 0 0) 0:=⟨none,0,[],rfl,by simp,a0I.nil,Sl.nil _ _ _ _⟩
end Go.Proofs.YtidbbddagfnfbaaGreat
