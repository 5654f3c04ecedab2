/- reference 23: Minus. Conditions: at most 10^6 numbers of at most 2^36 digits. reference 23: Shape. Conditions: lengths far below any machine's. reference 23: Dot. Conditions: few numbers of at most 2^36 digits. reference 06: Dot. Conditions: few numbers of at most 2^36 digits. reference 06: Transpose, Apply, Mul. Conditions: few rows and columns, numbers of few digits. reference 25: pick, count. Conditions: at most 1000 rows, numbers of at most 10^10 digits. copy into a row that a call has made itself. Conditions: none. matrix: Inverse. Conditions: few rows, numbers of few digits. reference 03: TakeList, with the slice owned; reference 06: beside, Inverse. Conditions: few rows and columns, numbers of few digits. matrix: Solve. Conditions: few rows, numbers of few digits. reference 06: Solve. Conditions: few rows and columns, numbers of few digits. reference 06: Null. Conditions: few rows and columns, numbers of few digits. ref23.Combos: all ascending lists, in order. Conditions: 0 <= h <= n <= 64, not too many. reference 25: Least. Conditions: at most 64 vectors of at most 3 numbers of few digits. reference 23: Scatter. Conditions: at most 6 rows and 3 columns, numbers of few digits. The reference's Cover. Conditions: lengths far below any machine's. -/
import Derived.Test.YtoibhmjjhgaimaaGreatMzK
import Derived.IntWalk
namespace Go.Proofs.YtoibhmjjhgaimaaGreat
open Go.RowKit Go.Rep Go.Lim
set_option maxRecDepth 100000 in
theorem b3p (X:Nat->Bool) (w:World) (u v:Value) (l m:List Rat) (hX:HX X w) (hu:RV (mk X w) u l) (hv:RV (mk X w) v m) (hl:l.length<=1000000) (hml:m.length=l.length):Calls Tryz.prog 132 #[u,v] w (a1W X w RC (List.zipWith (· - ·) l m)):=by
 obtain⟨ao,ca,rfl,hca,hsa⟩:=hu;have hha:=hsa.hd;obtain⟨bo,cb,rfl,hcb,hsb⟩:=hv;have hhb:=hsb.hd;have hml1:m.length<=l.length:=by omega
 have hml2:l.length<=m.length:=by omega
 obtain⟨L,hL⟩:∃L,List.zipWith (· - ·) l m=L:=⟨_,rfl⟩;have hLl:L.length=l.length:=by rw[<-hL];simp;omega
 have hLi:=hid (show∀i (hi:i<l.length) (hj:i<m.length) (hi':i<L.length),L[i]=l[i] - m[i]from fun i hi hj hi'=>by subst hL;simp);rw[hL];have hLl1:L.length<=l.length:=by omega
 have hLl2:l.length<=L.length:=by omega
 have hLl':=hid hLl;clear hL hml hLl;go_enter Tryz.func132,Tryz.ntmps132
 go_wp2_with fail
 go_loopw [5,9] (fun o cc wr=>∃(i:Nat) (oo:Option Addr) (co:Nat),cc= .int .i64 i/\o= .slice oo i co/\i<=l.length/\OL QC 3 X w.heap.size 32 wr oo co (L.take i)/\Ext w wr) (fun _ cc _=>l.length - (intOf cc).toNat)
 case atStart=>exact⟨0,none,0,rfl,rfl,Nat.zero_le _,OL.nil _ _ _ _ _ _,ExtX.refl _⟩
 case round=>
  obtain⟨i,oo,co,rfl,rfl,hi,hO,hE⟩:=hrel;have hXr:HX X wr:=hX.ext hE;have hXu:HX (un X oo) wr:=hO.unX hXr;have hbase:=hE.size;by_cases hlt:i<l.length
  ·have hsr:Sl QV 3 (mk (un X oo) wr) ao l:=hsa.old QV.mono hE (fun j hj=>hO.ob_lt hj)
   have hltL:i<L.length:=by omega
   have htk:=hid (a1V L i hltL);have hln:=hid (a2s (l:=L) (i:=i) (by omega));have hltm:i<m.length:=by omega
   have hsr2:Sl QV 3 (mk (un X oo) wr) bo m:=hsb.old QV.mono hE (fun j hj=>hO.ob_lt hj);obtain⟨g2,o2,s2,a2,n2,c2,d2,k2,e2,hg2,hX2,hc2,hq2⟩:=hsr2.rat QV.shaped i hltm;obtain⟨g1,o1,s1,a1,n1,c1,d1,k1,e1,hg1,hX1,hc1,hq1⟩:=hsr.rat QV.shaped i hlt;have hob1:=(a1p hX1).2;have hobb:=(a1p hX2).2;have i2:∀W,(Instr.indexAt 45 (.slice bo m.length cb) (.int .i64 (i:Int))).run Tryz.prog W= .ok (.pointer (some ⟨g2,o2,none⟩)) W:=by rw[<-hg2];exact a0k a1c bo m.length cb .i64 i hhb (by omega)
   have i1:∀W,(Instr.indexAt 45 (.slice ao l.length ca) (.int .i64 (i:Int))).run Tryz.prog W= .ok (.pointer (some ⟨g1,o1,none⟩)) W:=by rw[<-hg1];exact a0k a1c ao l.length ca .i64 i hha (by omega)
   have hEd:Ext wr wr.drew:=(ExtX.refl wr).drew;have hS:Hid (∀Y W',ExtX Y wr.drew W'->Y g1=false->Y g2=false->W'.cell? ⟨g1,o1,none⟩=some (.bool s1)/\W'.cell? ⟨g1,o1+1,none⟩=some (.slice a1 n1 c1)/\W'.cell? ⟨g1,o1+2,none⟩=some (.slice d1 k1 e1)/\W'.cell? ⟨g2,o2,none⟩=some (.bool s2)/\W'.cell? ⟨g2,o2+1,none⟩=some (.slice a2 n2 c2)/\W'.cell? ⟨g2,o2+2,none⟩=some (.slice d2 k2 e2)):=hid fun Y W' h hg hb=>by
    have p1:=hc1.out Y W' ((ExtX.of hEd).trans h) hg;have p2:=hc2.out Y W' ((ExtX.of hEd).trans h) hb;exact⟨p1.1,p1.2.1,p1.2.2,p2.1,p2.2.1,p2.2.2⟩
   obtain⟨k00,k01,k02,k10,k11,k12⟩:=hS.out noY wr.drew (ExtX.refl _) rfl rfl;have hxd:QV (mk (un X oo) wr.drew) (.agg #[.bool s1, .slice a1 n1 c1, .slice d1 k1 e1]) l[i]:=hq1;have hvd:QV (mk (un X oo) wr.drew) (.agg #[.bool s2, .slice a2 n2 c2, .slice d2 k2 e2]) m[i]:=hq2;have hXd:HX (un X oo) wr.drew:=hXu;have hyi:=hLi.out i hlt hltm hltL;rw[hyi]at htk;clear hc1 hg1 hq1 hc2 hg2 hq2;go_wp2_with fail
   go_region_held3 (fun w'=>w'.cell? ⟨g1,o1,none⟩=some (.bool s1)/\w'.cell? ⟨g1,o1+1,none⟩=some (.slice a1 n1 c1)/\w'.cell? ⟨g1,o1+2,none⟩=some (.slice d1 k1 e1)/\w'.cell? ⟨g2,o2,none⟩=some (.bool s2)/\w'.cell? ⟨g2,o2+1,none⟩=some (.slice a2 n2 c2)/\w'.cell? ⟨g2,o2+2,none⟩=some (.slice d2 k2 e2))
    (first|exact hS.out noY _ t1 rfl rfl|exact hS.out noY _ (ExtX.alloc t1 _) rfl rfl|exact hS.out (ob oo) _ ((ExtX.of t1).trans hE7) hob1 hobb|go_keep)
    (first|(go_at_call 86;(with_reducible refine(b4S (un X oo) wr.drew _ _ _ _ hXd hxd hvd).mono ?_);rintro ee w6 ⟨t1,u6,rfl,hu6⟩;obtain⟨s6,a6,n6,c6,d6,k6,e6,rfl⟩:=hu6.shape;have hO6:=hO.ext0 QC.elem (hEd.trans t1);have hb6:=(hEd.trans t1).size;have hX6:=hXr.ext (hEd.trans t1))|(refine a2K (l:=L.take i) rfl (by rfl) a1c rfl QC.elem (by omega) hX6 i hln.out rfl rfl hO6 (.agg #[.bool s6, .slice a6 n6 c6, .slice d6 k6 e6]) (l[i] - m[i]) rfl hu6 (by omega) (by omega) ?_;intro oo2 co2 w7 hO7 hE7 hor))
   have hE8:=(hE.trans (hEd.trans t1)).own hO6 (Nat.le_refl _) hE7;rw[htk.out]at hO7;clear k00 k01 k02 k10 k11 k12;go_wp2_with fail
   go_roundw
   case rel=>exact⟨i+1,oo2,co2,by go_num,by go_num,by omega,hO7,hE8⟩
   case measure=>simp[intOf];omega
  ·have hil:i=l.length:=by omega
   subst hil;rw[List.take_of_length_le (by omega)]at hO;have hc:=hO.lenCap;have hs:=hO.sl QC.elem;go_wp2_with fail
   go_ret
   exact⟨hE,_,rfl,oo,co,by rw[hLl'.out];rfl,hc,hs⟩
open Go.Lin
def b3q (w:World) (m:List (List Rat)) (e:Ending) (w':World):Prop:=Ext w w'/\∃a b:Nat,e= .returned (.tuple #[.int .i64 (a:Int), .int .i64 (b:Int), .bool (a3B m)])/\(a3B m=true->a=m.length/\b=a0L m)
theorem a9C {α:Type} {m:List (List α)} (h:m.length<1\/64<m.length):a3B m=false:=by
 cases hp:a3B m
 ·rfl
 ·have:=a1J.1 hp;omega
theorem b3r {α:Type} {m:List (List α)} (i:Nat) (hi:i<m.length) (h:m[i].length≠a0L m):a3B m=false:=by
 cases hp:a3B m
 ·rfl
 ·exact absurd ((a1J.1 hp).2.2.2.2 i hi) h
theorem b3s {α:Type} {m:List (List α)} (h:a0L m<1\/3<a0L m):a3B m=false:=by
 cases hp:a3B m
 ·rfl
 ·have:=a1J.1 hp;omega
set_option maxRecDepth 100000 in
theorem a4V {R:Mem->Value->Rat->Prop} (_hR:a3i R) (X:Nat->Bool) (w:World) (u:Value) (m:List (List Rat)) (hu:SlV (SlV R 3) 1 (mk X w) u m) (hl:m.length<=1099511627776):Calls Tryz.prog 20 #[u] w (b3q w m):=by
 obtain⟨ao,ca,rfl,hca,hsa⟩:=hu;have hha:=hsa.hd;by_cases h1:m.length<1
 ·have d1:(m.length:Int)<1:=by omega
  have hv:=hid (a9C (m:=m) (.inl h1));go_enter Tryz.func20,Tryz.ntmps20
  go_wp2_with fail
  go_ret3
  exact⟨ExtX.refl _,0,0,by rw[hv.out];rfl,fun h=>by rw[hv.out]at h;simp at h⟩
 by_cases h2:64<m.length
 ·have d1:¬(m.length:Int)<1:=by omega
  have d2:(64:Int)<(m.length:Int):=by omega
  have hv:=hid (a9C (m:=m) (.inr h2));go_enter Tryz.func20,Tryz.ntmps20
  go_wp2_with fail
  go_ret3
  exact⟨ExtX.refl _,0,0,by rw[hv.out];rfl,fun h=>by rw[hv.out]at h;simp at h⟩
 have d1:¬(m.length:Int)<1:=by omega
 have d2:¬(64:Int)<(m.length:Int):=by omega
 have h0:0<m.length:=by omega
 obtain⟨n,hn⟩:∃n,m.length=n:=⟨_,rfl⟩;have hn':=hid hn;obtain⟨a2,c2,hX2,hc2,hcl2,hq2⟩:=hsa.row 0 h0;have k10:=hc2.out noY w (ExtX.refl _) rfl;have hcol:=a2g h0;rw[<-hcol]at k10;have hno2:=hid (fun i hi h=>b3r (m:=m) i hi h);have hno3:=hid (fun h=>b3s (m:=m) h);have hyes:Hid ((∀q,q<n->∀hq:q<m.length,m[q].length=a0L m)->1<=a0L m->a0L m<=3->a3B m=true):=hid fun h3 h4 h5=>a1J.2 ⟨by omega,by omega,h4,h5,fun i hi=>h3 i (by omega) hi⟩;obtain⟨y,hy⟩:∃y,a0L m=y:=⟨_,rfl⟩;have hy':=hid hy;rw[hy]at k10 hno3 hyes;have hn64:n<=64:=by omega
 have hn1:1<=n:=by omega
 rw[hn]at d1 d2 hha |-;clear hcol hc2 hq2 hcl2 h1 h2 h0 hn hy hca;go_enter Tryz.func20,Tryz.ntmps20
 go_wp2_with (with_reducible refine a0o a0A (by omega) (by assumption) ?_)
 go_loop [22] (fun cc=>∃i:Nat,cc= .int .i64 i/\i<=n/\Hid (∀q,q<i->∀hq:q<m.length,m[q].length=a0L m)) (fun cc=>n - (intOf cc).toNat)
 case atStart=>exact⟨0,rfl,Nat.zero_le _,hid fun q hq=>by omega⟩
 case round=>
  obtain⟨i,rfl,hi,hok⟩:=hrel;by_cases hlt:i<n
  ·have hil:i<m.length:=by rw[hn'.out];exact hlt
   obtain⟨a1,c1,hX1,hc1,hcl1,hq1⟩:=hsa.row i hil;have k00:=hc1.out noY w (ExtX.refl _) rfl;have hn2:=hid (hno2.out i hil);obtain⟨x,hx⟩:∃x,m[i].length=x:=⟨_,rfl⟩;have hst:Hid (x=y->∀hq:i<m.length,m[i].length=a0L m):=hid fun h hq=>by rw[hx,hy'.out];exact h
   rw[hx,hy'.out]at hn2;rw[hx]at k00;clear hx hc1 hq1 hcl1;by_cases hxy:x=y
   ·have e1:((x:Int) !=(y:Int))=false:=b2t (by omega)
    have hst2:=hid (hst.out hxy);clear hxy;go_wp2_with (with_reducible refine a0o a0A (by omega) (by assumption) ?_)
    go_round
    case rel=>exact⟨i+1,by go_num,by omega,hid (a0Y hok.out hst2.out)⟩
    case measure=>simp[intOf];omega
   ·have e1:((x:Int) !=(y:Int))=true:=a7i (by omega)
    have hv:=hid (hn2.out hxy);clear hxy;go_wp2_with (with_reducible refine a0o a0A (by omega) (by assumption) ?_)
    go_ret3
    exact⟨ExtX.refl _,0,0,by rw[hv.out];rfl,fun h=>by rw[hv.out]at h;simp at h⟩
  ·have hin:i=n:=by omega
   subst hin;have hy2:=hid (hyes.out fun q h1 h2=>(hok.out q h1 h2).trans hy'.out);clear hlt k10;by_cases h1:1<=y
   ·have e1:(1:Int)<=(y:Int):=by omega
    by_cases h3:y<=3
    ·have e2:(y:Int)<=3:=by omega
     have hv:=hid (hy2.out h1 h3);go_wp2_with fail
     go_ret3
     exact⟨ExtX.refl _,i,y,by rw[hv.out];rfl,fun _=>⟨hn'.out.symm,hy'.out.symm⟩⟩
    ·have e2:¬(y:Int)<=3:=by omega
     have hv:=hid (hno3.out (.inr (by omega)));go_wp2_with fail
     go_ret3
     exact⟨ExtX.refl _,i,y,by rw[hv.out];rfl,fun _=>⟨hn'.out.symm,hy'.out.symm⟩⟩
   ·have e1:¬(1:Int)<=(y:Int):=by omega
    have hv:=hid (hno3.out (.inl (by omega)));go_wp2_with fail
    go_ret3
    exact⟨ExtX.refl _,i,y,by rw[hv.out];rfl,fun _=>⟨hn'.out.symm,hy'.out.symm⟩⟩
end Go.Proofs.YtoibhmjjhgaimaaGreat
namespace Go.Lin
end Go.Lin
namespace Go.Proofs.YtoibhmjjhgaimaaGreat
open Go.RowKit Go.Rep Go.Lim Go.Lin
end Go.Proofs.YtoibhmjjhgaimaaGreat
namespace Go.Lin
open Go.Lim Go.Rep
end Go.Lin
namespace Go.Proofs.YtoibhmjjhgaimaaGreat
open Go.RowKit Go.Rep Go.Lim Go.Lin
end Go.Proofs.YtoibhmjjhgaimaaGreat
namespace Go.Rep
open Go.RowKit Go.Lim
section
variable {P:Program} {ops:Array Oper} {Q:Exit->Act->World->Prop} {rest:List Oper} {a:Act} {w:World}
variable {α:Type} {R:Mem->Value->α->Prop} {sz:Nat} {X:Nat->Bool} {base:Nat} {e:TypeId} {ao:Option Addr} {cap:Nat} {l:List α}
variable {d:Option Tmp} {ty:TypeId} {ps:String} {af:Array Edge}
end
end Go.Rep
namespace Go.Lin
end Go.Lin
namespace Go.Proofs.YtoibhmjjhgaimaaGreat
open Go.RowKit Go.Rep Go.Lim Go.Lin
end Go.Proofs.YtoibhmjjhgaimaaGreat
namespace Go.Lin
open Go.Lim
end Go.Lin
namespace Go.Proofs.YtoibhmjjhgaimaaGreat
open Go.RowKit Go.Rep Go.Lim Go.Lin
end Go.Proofs.YtoibhmjjhgaimaaGreat
namespace Go.Lin
open Go.Lim
theorem a8s.le {m:Mat} {c c':Nat} (h:a8s m c) (hc:c'<=c):a8s m c':=let ⟨B,h1,h2⟩:=h;⟨B,h1,fun j hj=>h2 j (Nat.le_trans hj hc)⟩
end Go.Lin
namespace Go.Proofs.YtoibhmjjhgaimaaGreat
open Go.RowKit Go.Rep Go.Lim Go.Lin
end Go.Proofs.YtoibhmjjhgaimaaGreat
namespace Go.Lin
open Go.Lim
end Go.Lin
namespace Go.Proofs.YtoibhmjjhgaimaaGreat
open Go.RowKit Go.Rep Go.Lim Go.Lin
theorem b5w:SliceT Tryz.prog 41 22 1 24 (.slice none 0 0):=⟨Tryz.underlying41,by kernel_rfl⟩
def a5V (X:Nat->Bool) (w:World) (N H:Nat) (e:Ending) (w':World):Prop:=Ext w w'/\∃(oo:Option Addr) (co:Nat),e= .returned (.slice oo (a0Z N H 0).length co)/\(a0Z N H 0).length<=co/\OL (SlV (a0i .i64) 1) 1 X w.heap.size 22 w' oo co (a0Z N H 0)
def mid (L:List Int) (H p j:Nat):List Int:=(List.range H).map fun q=>if q<p then L.getD q 0 else if q<j then L.getD p 0+1+((q:Int) - p)else L.getD q 0
theorem b3t {X:Nat->Bool} {lo oo a3:Option Addr} {n:Nat} (h1:∀k,ob a3 k=true->un X oo k=false) (h2:∀k,ob a3 k=true->n<=k) (h3:∀k,ob lo k=true->k<n):∀k,ob a3 k=true->un (un X lo) oo k=false:=fun k hk=>by
 obtain⟨h4,h5⟩:=a1p (h1 k hk);have h6:ob lo k=false:=by
  cases hh:ob lo k
  ·rfl
  ·have:=h2 k hk;have:=h3 k hh;omega
 simp[un,h4,h5,h6]
theorem a1D (L:List Int) (H p j:Nat):(mid L H p j).length=H:=by simp[mid]
theorem a4W (L:List Int) (H p j q:Nat) (hq:q<(mid L H p j).length):(mid L H p j)[q]=if q<p then L.getD q 0 else if q<j then L.getD p 0+1+((q:Int) - p)else L.getD q 0:=by simp[mid]
theorem a4X {L:List Int} {q:Nat} {x:Int} (hq:q<L.length) (h:L[q]=x):L.getD q 0=x:=by simp[List.getD,hq,h]
theorem b1I {L:List Int} {H p:Nat} {x:Int} (hl:L.length=H) (hp:p<L.length) (hx:L[p]=x):L.set p (x+1)=mid L H p (p+1):=by
 apply List.ext_getElem
 ·rw[a1D,List.length_set,hl]
 ·intro q h1 h2
  rw[a4W,List.getElem_set];have hq:q<L.length:=by simpa using h1
  by_cases h3:p=q
  ·subst h3;rw[if_pos rfl,if_neg (by omega),if_pos (by omega),a4X hp hx];omega
  ·rw[if_neg h3]
   by_cases h4:q<p
   ·rw[if_pos h4,a4X hq rfl]
   ·rw[if_neg h4,if_neg (by omega),a4X hq rfl]
theorem b3u {L:List Int} {H p j:Nat} {y:Int} (hpj:p<j) (hj:j<H) (hy:(mid L H p j)[j - 1]'(by rw[a1D];omega)=y):(mid L H p j).set j (y+1)=mid L H p (j+1):=by
 apply List.ext_getElem
 ·rw[a1D,List.length_set,a1D]
 ·intro q h1 h2
  rw[a4W]at hy;rw[if_neg (by omega),if_pos (by omega)]at hy;rw[a4W,List.getElem_set];by_cases h3:j=q
  ·subst h3;rw[if_pos rfl,if_neg (by omega),if_pos (by omega),<-hy];omega
  ·rw[if_neg h3,a4W]
   by_cases h4:q<p
   ·rw[if_pos h4,if_pos h4]
   ·rw[if_neg h4,if_neg h4]
    by_cases h5:q<j
    ·rw[if_pos h5,if_pos (by omega)]
    ·rw[if_neg h5,if_neg (by omega)]
theorem b3v {L:List Int} {H p:Nat} (hl:L.length=H) (hp:p<L.length):mid L H p H=L.take p++up (L[p]+1) (L.length - p):=by
 apply List.ext_getElem
 ·rw[a1D,List.length_append,List.length_take,a5P];omega
 ·intro q h1 h2
  rw[a1D]at h1;rw[a4W,List.getElem_append];by_cases h4:q<p
  ·rw[if_pos h4,dif_pos (by simp;omega),List.getElem_take,a4X (by omega) rfl]
  ·rw[if_neg h4,if_pos h1,dif_neg (by simp;omega),b1n,a4X hp rfl]
   simp only[List.length_take];omega
theorem b0g (X:Nat->Bool) (N H:Nat) (w:World) (hN:N<=64) (hH:H<=N) (hch:ch N H<=1000000) (hX:∀k,X k=true->k<w.heap.size):
  Calls Tryz.prog 44 #[.int .i64 (N:Int), .int .i64 (H:Int)] w (a5V X w N H):=by
 have hfirst:=hid (a3c N H 0);go_enter Tryz.func44,Tryz.ntmps44
 go_wp2_with (at_make;refine a1S a0S (a0i.elem .i64) 0 (fun _=>rfl) X hX w.heap.size (Nat.le_refl _) H rfl rfl rfl (by omega) (by omega) ?_;intro lo w1 hL1 hE1)
 go_loopw [6,21] (fun s c wr=>∃(k:Nat) (L:List Int),c= .int .i64 k/\k<=H/\L.length=H/\Hid (∀q (hq:q<L.length),q<k->L[q]=q)/\OL (a0i .i64) 1 X w.heap.size 3 wr lo H L/\Ext w wr) (fun _ c _=>H - (intOf c).toNat)
 case atStart=>exact⟨0,List.replicate H 0,rfl,Nat.zero_le _,by simp,hid (fun q hq h0=>by omega),hL1,hE1⟩
 case round=>
  obtain⟨k,L,rfl,hk,hLl,hq,hL,hE⟩:=hrel;have hhl:Hd lo H:=hLl▸hL.hd;by_cases hlt:k<H
  ·go_wp2_with (first|(with_reducible refine a0o a0S (by omega) (by assumption) ?_)|((with_reducible show wpList _ _ _ (⟨_, .store _ _ _,_,_,_,_⟩::_) _ _);refine a2u a8f k (k:Int) rfl rfl hL (by omega) rfl rfl ?_;intro w2 hL2 hE2))
   have hE3:=hE.own hL (Nat.le_refl _) hE2;have hq2:Hid (∀q (hq:q<(L.set k (k:Int)).length),q<k+1->(L.set k (k:Int))[q]=q):=hid (fun q hq1 hqk=>by
    by_cases hqk':k=q
    ·subst hqk';simp
    ·rw[List.getElem_set_ne hqk'];exact hq.out q _ (by omega))
   go_roundw
   case rel=>exact⟨k+1,L.set k (k:Int),by go_num,by omega,by simpa using hLl,hq2,hL2,hE3⟩
   case measure=>simp[intOf];omega
  ·have hup:Hid ((a0Z N H 0)[0]? =some L):=hid (by
    have hup:L=up 0 H:=by
     apply List.ext_getElem
     ·rw[a5P,hLl]
     ·intro i h1 h2
      rw[hq.out i h1 (by omega),b1n];omega
    rw[hup];have:=hfirst.out;rw[if_pos hH]at this;exact this)
   have hXr:∀k,X k=true->k<wr.heap.size:=fun k hk=>Nat.lt_of_lt_of_le (hX k hk) hE.size;have hXl:=hL.unX hXr;clear hq hfirst hE1 hL1;go_wp2_with (at_builtin;refine a8y a0S rfl (a0i.elem .i64) hXr L rfl rfl hLl.symm (hL.sl (a0i.elem .i64)) (by omega) (by omega) ?_;intro a2 c2 w2 hC hE2)
   have hC2:Sl (a0i .i64) 1 (mk (un X lo) w2) a2 L:=hC.rehide (a0i.elem .i64) (fun _ _ _ _ h=>h) (fun k hk=>by
    have h1:X k=false:=hC.1 k hk;have h2:=(hC.block hk).1;have h3:ob lo k=false:=hL.ob_ge h2;simp[un,h1,h3])
   have hXl2:∀k,un X lo k=true->k<w2.heap.size:=fun k hk=>Nat.lt_of_lt_of_le (hXl k hk) hE2.size;have hw2:w.heap.size<=w2.heap.size:=Nat.le_trans hE.size hE2.size;have hO:OL (SlV (a0i .i64) 1) 1 (un X lo) w.heap.size 22 (w2.alloc (.cells #[.slice a2 H c2] 22)) (some ⟨w2.heap.size,0,none⟩) 1 [L]:=
    OL.lit (SlV.elem (a0i.elem .i64)) hXl2 hw2 [.slice a2 H c2] [L] _ (by simp[a0n,Value.cells]) rfl
     (fun i hi _=>by
              match i,hi with
              |0,_=>exact⟨a2,c2,by rw[<-hLl];rfl,hC.lenCap,hC2⟩) (by simp)
   have hL2:OL (a0i .i64) 1 (un X (some ⟨w2.heap.size,0,none⟩)) w.heap.size 3 (w2.alloc (.cells #[.slice a2 H c2] 22)) lo H L:=
    (hL.ext0 (a0i.elem .i64) hE2).ext (a0i.elem .i64) (Y:=noY) ((ExtX.refl _).alloc _) (fun k _ hk=>by simp[noY]at hk) (fun k hk hz=>by
     by_cases hx:X k=true
     ·exact hx
     ·have:w2.heap.size=k:=by simpa[un,hx,ob]using hz
      omega)
   have hE4:Ext w (w2.alloc (.cells #[.slice a2 H c2] 22)):=(hE.trans hE2).alloc _;have hlen:=hid (a2j N H 0);have hO':OL (SlV (a0i .i64) 1) 1 (un X lo) w.heap.size 22 (w2.alloc (.cells #[.slice a2 H c2] 22)) (some ⟨w2.heap.size,0,none⟩) 1 ((a0Z N H 0).take 1):=by
    have h0:=hup.out;rw[List.getElem?_eq_some_iff]at h0;obtain⟨h1,h2⟩:=h0;rw[List.take_succ_eq_append_getElem h1,h2];exact hO
   clear hO hC hC2 hL hE hE2;go_loopw [7] (fun s wr=>∃(k:Nat) (L:List Int) (oo:Option Addr) (co:Nat),s= .slice oo (k+1) co/\L.length=H/\Hid ((a0Z N H 0)[k]? =some L)/\OL (SlV (a0i .i64) 1) 1 (un X lo) w.heap.size 22 wr oo co ((a0Z N H 0).take (k+1))/\OL (a0i .i64) 1 (un X oo) w.heap.size 3 wr lo H L/\Ext w wr) (fun s _=>(a0Z N H 0).length - lenOf s)
   case atStart=>exact⟨0,L,_,_,rfl,hLl,hup,hO',hL2,hE4⟩
   case round=>
    obtain⟨k2,M,oo,co,rfl,hMl,hM,hOO,hMM,hEE⟩:=hrel;clear hO' hL2 hE4 hup hLl;clear L;have hhl:Hd lo H:=hMl▸hMM.hd;go_wp2_with fail
    go_loop [8] (fun c=>∃(i:Int),c= .int .i64 i/\ -1<=i/\i<H/\Hid (∀q (hq:q<M.length),i<q->M[q]=(N:Int) - H+q)) (fun c=>((intOf c)+1).toNat)
    case atStart=>exact⟨(H:Int) - 1,rfl,by omega,by omega,hid (fun q hq h0=>by omega)⟩
    case round=>
     obtain⟨i,rfl,hi1,hi2,hq⟩:=hrel;by_cases hi0:0<=i
     ·obtain⟨p,rfl⟩:=Int.eq_ofNat_of_zero_le hi0
      have hp:p<M.length:=by omega
      have c1:=hMM.sl (a0i.elem .i64)|>.int p hp;obtain⟨x,hx⟩:∃x,M[p]=x:=⟨_,rfl⟩;rw[hx]at c1;have hx':=hid hx;clear hx;by_cases hxe:x=(N:Int) - H+p
      ·have hq2:Hid (∀q (hq:q<M.length),(p:Int) - 1<q->M[q]=(N:Int) - H+q):=hid (fun q hq1 hqp=>by
        by_cases hqe:q=p
        ·subst hqe;rw[hx'.out];exact hxe
        ·exact hq.out q hq1 (by omega))
       go_wp2_with (with_reducible refine a0o a0S (by omega) (by assumption) ?_)
       go_round
       case rel=>exact⟨(p:Int) - 1,rfl,by omega,by omega,hq2⟩
       case measure=>simp[intOf]
      ·have hmem:M∈a0Z N H 0:=by
        have:=hM.out;rw[List.getElem?_eq_some_iff]at this;obtain⟨h1,h2⟩:=this;rw[<-h2];exact List.getElem_mem h1
       have hxb:0<=x/\x<(N:Int) - H+p:=by
        have h1:=(a2R N H 0 M hmem).2.1 x (hx'.out▸List.getElem_mem hp);have h2:=b1o N H 0 M hmem p hp;rw[hx'.out]at h2;omega
       have hnx:Hid ((a0Z N H 0)[k2+1]? =some (mid M H p H)):=hid (by
        have h0:=hM.out;rw[List.getElem?_eq_some_iff]at h0;obtain⟨h1,h2⟩:=h0;rw[<-a4A N H 0 k2 h1,h2,b3v hMl hp];have h3:=a9q (0+(N:Int)) M p hp (by rw[hx'.out,hMl];omega) (fun q hq1 hqp=>by rw[hq.out q hq1 (by omega),hMl];omega);exact h3)
       have hset:=hid (b1I hMl hp hx'.out);clear hmem hq;go_wp2_with (first|(with_reducible refine a0o a0S (by omega) (by assumption) ?_)|((with_reducible show wpList _ _ _ (⟨_, .store _ _ _,_,_,_,_⟩::_) _ _);refine a2u a8f p (x+1) rfl rfl hMM hp rfl rfl ?_;intro w3 hM3 hE3))
       have hO3:=hOO.ext (SlV.elem (a0i.elem .i64)) hE3 (fun k _ hk=>a0q hk) (fun _ _ h=>h);have hE4:=hEE.own hMM (Nat.le_refl _) hE3;rw[hset.out]at hM3;clear hOO hMM hEE hE3 c1;go_loopw [9] (fun c wr=>∃(j:Nat),c= .int .i64 j/\p<j/\j<=H/\OL (SlV (a0i .i64) 1) 1 (un X lo) w.heap.size 22 wr oo co ((a0Z N H 0).take (k2+1))/\OL (a0i .i64) 1 (un X oo) w.heap.size 3 wr lo H (mid M H p j)/\Ext w wr) (fun c _=>H - (intOf c).toNat)
       case atStart=>exact⟨p+1,by go_num,by omega,by omega,hO3,hM3,hE4⟩
       case round=>
        obtain⟨j,rfl,hpj,hjH,hO5,hM5,hE5⟩:=hrel;clear hO3 hM3 hE4;by_cases hj:j<H
        ·have hj1:j - 1<(mid M H p j).length:=by rw[a1D];omega
         have hj2:j<(mid M H p j).length:=by rw[a1D];exact hj
         have c2:=hM5.sl (a0i.elem .i64)|>.int (j - 1) hj1;obtain⟨y,hy⟩:∃y,(mid M H p j)[j - 1]=y:=⟨_,rfl⟩;have hyb:0<=y/\y<=1000:=by
          rw[a4W,if_neg (by omega),if_pos (by omega),a4X hp hx'.out]at hy;omega
         rw[hy]at c2;have hnext:=hid (b3u hpj hj hy);clear hy;obtain⟨j',rfl⟩:∃j',j=j'+1:=⟨j - 1,by omega⟩;simp only[Nat.add_sub_cancel]at c2;go_wp2_with (first|(with_reducible refine a0o a0S (by omega) (by assumption) ?_)|((with_reducible show wpList _ _ _ (⟨_, .store _ _ _,_,_,_,_⟩::_) _ _);refine a2u a8f (j'+1) (y+1) rfl rfl hM5 hj2 rfl rfl ?_;intro w6 hM6 hE6))
         have hO6:=hO5.ext (SlV.elem (a0i.elem .i64)) hE6 (fun k _ hk=>a0q hk) (fun _ _ h=>h);have hE7:=hE5.own hM5 (Nat.le_refl _) hE6;rw[hnext.out]at hM6;go_roundw
         case rel=>exact⟨j'+1+1,by go_num,by omega,by omega,hO6,hM6,hE7⟩
         case measure=>simp[intOf];omega
        ·have hje:j=H:=by omega
         rw[hje]at hM5;obtain⟨T,hT⟩:∃T,mid M H p H=T:=⟨_,rfl⟩;have hTl:T.length=H:=by rw[<-hT,a1D]
         rw[hT]at hM5 hnx;have hX5:∀k,X k=true->k<wr.heap.size:=fun k hk=>Nat.lt_of_lt_of_le (hX k hk) hE5.size;have hbl:∀k,ob lo k=true->w.heap.size<=k/\k<wr.heap.size:=fun k hk=>hM5.block hk;have hbo:∀k,ob oo k=true->w.heap.size<=k/\k<wr.heap.size:=fun k hk=>hO5.block hk;have hXo5:∀k,un X oo k=true->k<wr.heap.size:=fun k hk=>by
          by_cases hx:X k=true
          ·exact hX5 k hx
          ·exact(hbo k (by simpa[un,hx]using hk)).2
         have hXl5:∀k,un X lo k=true->k<wr.heap.size:=fun k hk=>by
          by_cases hx:X k=true
          ·exact hX5 k hx
          ·exact(hbl k (by simpa[un,hx]using hk)).2
         have hklen:k2+1<(a0Z N H 0).length:=(List.getElem?_eq_some_iff.1 hnx.out).1;have hkch:k2+1<ch N H:=by rw[<-hlen.out];exact hklen
         have htake:((a0Z N H 0).take (k2+1)).length=k2+1:=by simp;omega
         have htake2:Hid ((a0Z N H 0).take (k2+1)++[T]=(a0Z N H 0).take (k2+1+1)):=hid (by
          obtain⟨h1,h2⟩:=List.getElem?_eq_some_iff.1 hnx.out;rw[List.take_succ_eq_append_getElem h1,h2])
         have hklen':=hid hklen;have htake':=hid htake;clear hklen htake;clear hXl hXl2 hXr;clear hset hX5;go_wp2_with (first|(at_builtin;refine a8y a0S rfl (a0i.elem .i64) hXo5 T rfl rfl hTl.symm (hM5.sl (a0i.elem .i64)) (by omega) (by omega) ?_;intro a3 c3 w6 hC hE6;have hO6:=hO5.ext0 (SlV.elem (a0i.elem .i64)) hE6;have hXl6:∀k,un X lo k=true->k<w6.heap.size:=fun k hk=>Nat.lt_of_lt_of_le (hXl5 k hk) hE6.size;have hb6:w.heap.size<=w6.heap.size:=Nat.le_trans hE5.size hE6.size;have hC3:Sl (a0i .i64) 1 (mk (un (un X lo) oo) w6) a3 T:=hC.rehide (a0i.elem .i64) (fun _ _ _ _ h=>h) (b3t hC.1 (fun k hk=>(hC.block hk).1) (fun k hk=>(hbl k hk).2)))|(at_builtin;refine a0H b5w rfl (SlV.elem (a0i.elem .i64)) hb6 hXl6 (k2+1) htake'.out rfl rfl hO6 (.slice a3 H c3) T rfl ⟨a3,c3,by rw[hTl],hC.lenCap,hC3⟩ (by omega) (by omega) ?_;intro oo7 co7 w7 hO7 hE7 hor))
         have hM7:=(hM5.ext0 (a0i.elem .i64) hE6).beside (a0i.elem .i64) hE7 hor;have hE8:=(hE5.trans hE6).own hO6 (Nat.le_refl _) hE7;rw[htake2.out]at hO7;go_roundw
         case rel=>exact⟨k2+1,T,oo7,co7,rfl,hTl,hnx,hO7,hM7,hE8⟩
         case measure=>
          have:=hklen'.out;simp[lenOf];omega
     ·have hall:Hid ((a0Z N H 0).length<=k2+1):=hid (by
       have h0:=hM.out;rw[List.getElem?_eq_some_iff]at h0;obtain⟨h1,h2⟩:=h0;have h3:=a4A N H 0 k2 h1;rw[h2,a7d (0+(N:Int)) M (fun q hq1=>by rw[hq.out q hq1 (by omega),hMl];omega)]at h3;exact List.getElem?_eq_none_iff.1 h3.symm)
      have hk3:(a0Z N H 0).length=k2+1:=by
       have h1:=(List.getElem?_eq_some_iff.1 hM.out).1;have h2:=hall.out;omega
      have hO9:=hOO.ext (SlV.elem (a0i.elem .i64)) (ExtX.refl (Y:=noY) wr) (fun k _ hk=>by simp[noY]at hk) (Z:=X) (fun k _ hk=>a0p hk);rw[List.take_of_length_le hall.out]at hO9;have hk3':=hid hk3;clear hk3;have hcc:=hO9.lenCap;go_wp2_with fail
      go_ret
      exact⟨hEE,oo,co,a0X hk3'.out.symm,hcc,hO9⟩
end Go.Proofs.YtoibhmjjhgaimaaGreat
namespace Go.Lin
open Go.Lim Go.Rep
end Go.Lin
namespace Go.Lim
end Go.Lim
namespace Go.Proofs.YtoibhmjjhgaimaaGreat
open Go.RowKit Go.Rep Go.Lim Go.Lin
theorem a7g:SliceT Tryz.prog 41 22 1 24 (.slice none 0 0):=⟨Tryz.underlying41,by kernel_rfl⟩
theorem rof (X:Nat->Bool) (w:World) (v:Int) (hX:HX X w) (h1: -9223372036854775808<=v) (h2:v<=9223372036854775807):Calls Tryz.prog 131 #[.int .i64 v] w (a1W X w QC v):=by
 obtain⟨W,hW,hE,b0,hz⟩:=a1m w #[.bool false, .slice none 0 0, .slice none 0 0] 32;have hXW:HX (a0f X w.heap.size 1) W:=hX.boxes hz;obtain⟨b,hb⟩:∃b,w.heap.size=b:=⟨_,rfl⟩;have hbw:w.heap.size<=b:=by omega
 rw[hb]at b0 hz hXW;have h1':=hid h1;have h2':=hid h2;clear h1 h2;go_enter Tryz.func131,Tryz.ntmps131
 go_wp2_with fail
 refine(a7B (a0f X b 1) W v hXW h1'.out h2'.out).mono ?_;rintro e1 w1 ⟨hE1,u1,rfl,hu1⟩;obtain⟨s6,a6,n6,c6,d6,k6,e6,rfl⟩:=hu1.shape;have b1':=b0.ext0 hE1;go_wp2_with ((with_reducible show wpList _ _ _ (⟨_, .store _ _ _,_,_,_,_⟩::_) _ _);refine a0d a0s rfl rfl b1' rfl rfl (a2n _ _ _ _ _ _ _) ?_;intro w7 r1 r2)
 have h7:=QC.mono _ _ _ _ a0l (QC.mono _ _ _ _ (a0g r2 (by omega) (by omega)) hu1);exact bodyPost_ret (a0e rfl rfl a0s r1 rfl) rfl ⟨ExtX.box (hE.trans hE1) r2 (by omega),_,rfl,h7⟩
end Go.Proofs.YtoibhmjjhgaimaaGreat
namespace Go.Lin
open Go.Lim Go.Rep
def a9D (p:Mat) (R:List Nat) (d j t:Nat):List Rat:=(a7H p R d j).set j (a4d p R j t)
theorem b3w (p:Mat) (R:List Nat) (d j t:Nat):(a9D p R d j t).length=d:=by simp[a9D,a7H]
theorem b1J (p:Mat) (R:List Nat) (d j:Nat):a7H p R d j=a9D p R d j 0:=by
 unfold a9D;refine List.ext_getElem (by simp) fun i h1 h2=>?_;rw[List.getElem_set];split
 ·subst_vars
  simp[a7H,a4d,sm]
 ·rfl
theorem b3x (p:Mat) (R:List Nat) (d j t:Nat) (h:j<(a9D p R d j t).length):(a9D p R d j t)[j]=a4d p R j t:=by simp[a9D]
theorem b3y (p:Mat) (R:List Nat) (d j t:Nat) (x:Rat) (h:a4d p R j t+x=a4d p R j (t+1)):(a9D p R d j t).set j (a4d p R j t+x)=a9D p R d j (t+1):=by
 unfold a9D;rw[List.set_set,h]
theorem b1K (p:Mat) (R:List Nat) (d j t:Nat):(a9D p R d j t).set j (a4d p R j R.length/((R.length:Int):Rat))=a7H p R d (j+1):=by
 unfold a9D;rw[List.set_set,a9t]
def rwN (d:Nat) (F G:F2) (i k:Nat):List Rat:=(List.range d).map fun b=>F i b+if b<k then G i b else 0
theorem b5x (d:Nat) (F G:F2) (i k:Nat):(rwN d F G i k).length=d:=by simp[rwN]
theorem b5y (d:Nat) (F G:F2) (i k:Nat) (h:k<(rwN d F G i k).length):(rwN d F G i k)[k]=F i k:=by
 simp[rwN];grind
theorem b5z (d:Nat) (F G:F2) (i k:Nat):(rwN d F G i k).set k (F i k+G i k)=rwN d F G i (k+1):=by
 refine List.ext_getElem (by simp[rwN]) fun b h1 h2=>?_;rw[List.getElem_set];simp only[rwN,List.getElem_map,List.getElem_range];by_cases e:k=b
 ·subst e;rw[if_pos rfl,if_pos (by omega)]
 ·rw[if_neg e]
  congr 1
  exact a8A (by omega) _ _
theorem b1L (p:Mat) (R:List Nat) (d t i:Nat) (z:List Rat):rwN d (a9s p R d t) (a6v z) i 0=(List.range d).map (a9s p R d t i):=by
 unfold rwN;refine List.map_congr_left fun b _=>?_;rw[if_neg (by omega)];grind
theorem b5A (p:Mat) (R:List Nat) (d t i:Nat):rwN d (a9s p R d t) (a6v (a5p p (a4c p R d) (R.getD t 0))) i d=(List.range d).map (a9s p R d (t+1) i):=by
 unfold rwN;refine List.map_congr_left fun b hb=>?_;rw[if_pos (List.mem_range.1 hb)];rfl
theorem b3z (p:Mat) (R:List Nat) (d i:Nat):(List.range d).map (a9s p R d 0 i)=List.replicate d 0:=by
 refine List.ext_getElem (by simp) fun b h1 h2=>?_;simp only[List.getElem_map,List.getElem_replicate];rfl
theorem b3A (p:Mat) (R:List Nat) (d t i:Nat) (h:i<(a5l p R d t).length):(a5l p R d t)[i]=(List.range d).map (a9s p R d t i):=by
 simp only[a5l,ofF,List.getElem_map,List.getElem_range];rfl
end Go.Lin
namespace Go.Proofs.YtoibhmjjhgaimaaGreat
open Go.RowKit Go.Rep Go.Lim Go.Lin
abbrev TK:=Bool×Bool×Bool×Bool
def b7C:List TK:=[true,false].flatMap fun b7=>([true,false].flatMap fun b1=>[true,false].map fun b3=>(b1,b3,false,b7))++[(true,true,true,b7)]
def lK (s:TK):Array Bool:=#[true,s.1,true,s.2.1,s.2.2.1,s.2.2.2,false]
def b6D (s:TK) (i:Nat):Option TK:=
 if i=1/\s.1=false then some (true,s.2)else if i=3/\s.2.1=false then some (s.1,true,s.2.2)
 else if i=4/\s.2.2.1=false/\s.1=true/\s.2.1=true then some (s.1,s.2.1,true,s.2.2.2)else if i=5/\s.2.2.2=false then some (s.1,s.2.1,s.2.2.1,true)else none
def b7R (s:TK):Bool:=s.2.2.1&&s.2.2.2
def a8H (a:Act) (v1 v3 v6 v7:Value):Act:=(((a.put (some 34) v1).put (some 36) v3).put (some 37) v6).put (some 9) v7
theorem a9E:∀s∈b7C,s.2.2.1=true->s.1=true/\s.2.1=true:=by decide
set_option maxRecDepth 100000 in
set_option maxHeartbeats 3200000 in
theorem a7R (X:Nat->Bool) (w:World) (u:Value) (ro:Option Addr) (rows:List Int) (rc:Nat) (p:Mat) (B:Nat) (hX:HX X w) (hu:MV (mk X w) u p) (hr:Sl (a0i .i64) 1 (mk X w) ro rows) (hrl:rows.length<=1099511627776) (hp6:p.length<=6\/p.length=65) (hpB:BM B p) (hB1:1<=B) (hB:B<=510):
  Calls Tryz.prog 67 #[u, .slice ro rows.length rc] w (a2L X w p rows):=by
 obtain⟨W,hW,hE,b0,hz⟩:=a1m w b4e 105;obtain⟨b,hb⟩:∃b,w.heap.size=b:=⟨_,rfl⟩;have hXZ:HX (a0f X w.heap.size 1) W:=hX.boxes hz;have hle:Hid (∀w',Ext W w'->Le (mk X w) (mk (a0f X w.heap.size 1) w')):=hid fun w' h=>a0m (hE.trans h);rw[hb]at b0 hz hXZ hle;have hbw:w.heap.size<=b:=by omega
 have hsh0:=a4V QV.mono X W u p (mkx MV.mono hu hE) (by omega);unfold b3q at hsh0;cases hpts:a3B p
 ·have he:Hid (scE p rows=6):=hid (by unfold scE;rw[hpts];rfl)
  rw[hpts]at hsh0;clear hpts;go_enter Tryz.func67,Tryz.ntmps67
  go_wp2_with fail
  refine hsh0.mono ?_;rintro e w1 ⟨hE1,aa,bb,rfl,_⟩;have b1:=b0.ext0 hE1;clear hsh0;go_wp2_with ((with_reducible show wpList _ _ _ (⟨_, .store 105 _ _,_,_,_,_⟩::_) _ _);refine a0d a2S rfl rfl b1 rfl rfl (b1Z _ _ _ _ _ _ _ _ _ _ _ _ _ _ _ _) ?_;intro w7 r1 r2)
  exact bodyPost_ret (a0C rfl rfl a2S r1 rfl) rfl (a2L.no (ExtX.box (hE.trans hE1) r2 hbw) (by decide) he.out)
 rw[hpts]at hsh0;obtain⟨g1,g2,g3,g4,g5⟩:=a1J.1 hpts;have hn6:p.length<=6:=by omega
 have has:=hid (fun w' (h:Ext w w')=>a5U X ro rows rc (p.length:Int) w' (hr.mono (a0i.mono _) (a0h h)) hrl);cases hok:(a2N rows (p.length:Int)&&decide (0<rows.length))
 ·have he:Hid (scE p rows=1):=hid (by unfold scE;rw[hpts,if_pos rfl,hok];rfl)
  rw[hok]at has;obtain⟨ua,uc,rfl,huc,hua⟩:=id hu;obtain⟨n,hn⟩:∃n,p.length=n:=⟨_,rfl⟩;obtain⟨d,hd⟩:∃d,a0L p=d:=⟨_,rfl⟩;rw[hn,hd]at hsh0;rw[hn]at has |-;clear hpts hok hn hd g1 g2 g3 g4 g5;go_enter Tryz.func67,Tryz.ntmps67
  go_wp2_with fail
  refine hsh0.mono ?_;rintro e w1 ⟨hE1,aa,bb,rfl,hab⟩;obtain⟨rfl,rfl⟩:=hab trivial;have b1:=b0.ext0 hE1;have has1:=has.out w1 (hE.trans hE1);clear hsh0 has;go_wp2_with fail
  refine has1.mono ?_;rintro e w2 ⟨rfl,rfl⟩;clear has1;go_wp2_with ((with_reducible show wpList _ _ _ (⟨_, .store 105 _ _,_,_,_,_⟩::_) _ _);refine a0d a2S rfl rfl b1 rfl rfl (b1Z _ _ _ _ _ _ _ _ _ _ _ _ _ _ _ _) ?_;intro w7 r1 r2)
  exact bodyPost_ret (a0C rfl rfl a2S r1 rfl) rfl (a2L.no (ExtX.box (hE.trans hE1) r2 hbw) (by decide) he.out)
 have hok2:=hok;rw[Bool.and_eq_true,decide_eq_true_eq]at hok2;obtain⟨ha,hl0⟩:=hok2;have hlen:=a5q ha;rw[hok]at has;have he:scE p rows=0:=by unfold scE;rw[hpts,if_pos rfl,hok];rfl
 have hv:scV p rows=b5g p (rows.map Int.toNat) (a0L p):=by unfold scV;rw[he,if_pos rfl]
 have hfin:=hid (fun(e:Ending) (w':World) (hE:Ext w w') u (h:e= .returned (.tuple #[u, .int .i64 0])) (hs:b6B (mk X w') u (b5g p (rows.map Int.toNat) (a0L p)))=>show a2L X w p rows e w' from⟨hE,u,by rw[h,he],by rw[hv];exact hs⟩);have hsh:Shp p.length (a0L p) p:=a9v hpts;have hlt':=hid (fun r hr=>a5m ha (x:=r) hr);have hrl6:rows.length<=6:=by omega
 obtain⟨ua,uc,rfl,huc,hus⟩:=id hu;obtain⟨n,hn⟩:∃n,p.length=n:=⟨_,rfl⟩;obtain⟨d,hd⟩:∃d,a0L p=d:=⟨_,rfl⟩;have hhu:=hus.hd;rw[hn,hd]at hsh0;rw[hn]at has hlt' hn6 g1 hhu huc |-;rw[hd]at g3 g4;rw[hn,hd]at hsh;have hpB':=hpB;have hpH:=hid (b2Q hpB hB1);have hpl:=hid hsh.1;have hpr:=hid hsh.2;have hhr:Hd ro rows.length:=hr.hd;have hdd:=hid hd;have hrZ:=hid (fun w' (h:Ext W w')=>(hr.mono (a0i.mono _) (hle.out w' h):Sl (a0i .i64) 1 (mk (a0f X b 1) w') ro rows));obtain⟨Z0,hZ0⟩:∃Z0,a0f X b 1=Z0:=⟨_,rfl⟩;have hZb:Z0 b=true:=by rw[<-hZ0];exact a3v (Nat.le_refl _) (by omega)
 have hZX:=hid (fun k (h:X k=true)=>(by rw[<-hZ0];exact a5I h:Z0 k=true));rw[hZ0]at hXZ hle hrZ;clear hpts hok hn hd g2 g5 ha he hv hlen hZ0;go_enter Tryz.func67,Tryz.ntmps67
 go_wp2_with fail
 refine hsh0.mono ?_;rintro e w1 ⟨hE1,aa,bb,rfl,hab⟩;obtain⟨rfl,rfl⟩:=hab trivial;have has1:=has.out w1 (hE.trans hE1);clear hsh0 has hab;go_wp2_with fail
 refine has1.mono ?_;rintro e w2 ⟨rfl,rfl⟩;clear has1;go_upto_region 6 with fail
 refine a0P 6 (fun _=>True) (by kernel_rfl) (by kernel_rfl) trivial (fun hHeld hOnce=>?_);have hE0:Ext W w1.drew:=hE1.drew;have hX0:HX Z0 w1.drew:=hXZ.ext hE0;obtain⟨W0,hW0⟩:∃W0,w1.drew=W0:=⟨_,rfl⟩;rw[hW0]at hX0 hE0 |-;have hrr:=hid (fun w' (h:Ext W0 w')=>hrZ.out w' (hE0.trans h));refine a0a hOnce (i:=0) (oi:=⟨_,_,_,_,_,_⟩) (v:=?_) rfl (by kernel_rfl) (fun _ _ _ h=>h) (by assumption) (by rfl) (fun w hSw=>?_) ?_
 rotate_left
 ·(try dsimp only at hSw)
  go_simp
  all_goals with_reducible rfl
 (try simp only[Act.put,List.setIfInBounds_toArray,List.set_cons_zero,List.set_cons_succ])
 refine a0a hOnce (i:=2) (oi:=⟨_,_,_,_,_,_⟩) (v:=?_) rfl (by kernel_rfl) (fun _ _ _ h=>h) (by assumption) (by rfl) (fun w hSw=>?_) ?_
 rotate_left
 ·(try dsimp only at hSw)
  go_simp
  all_goals with_reducible rfl
 (try simp only[Act.put,List.setIfInBounds_toArray,List.set_cons_zero,List.set_cons_succ])
 refine a7L fun a0 ha0=>?_;refine a6u (I:=fun s a w'=>∃v1 v3 v6 v7 so rl sc co g,a=a8H a0 v1 v3 v6 v7/\Ext W0 w'/\(s.1=true->v1= .slice so rl sc)/\(s.2.1=true->v3= .slice co bb bb/\OL QC 3 Z0 W0.heap.size 32 w' co bb (List.replicate bb 0))/\(s.2.2.1=true->v6= .agg #[v1,v3, .slice none 0 0, .bool false, .slice none 0 0, .slice none 0 0])/\(s.2.2.2=true->v7= .pointer (some ⟨g,0,none⟩)/\Bx w' g b4e 105/\W0.heap.size<=g)/\(s.2.1=true->s.2.2.2=true->ob co g=false))
  b7C lK b6D b7R (by kernel_rfl) ?st ?ex 5 (false,false,false,false) a0 W0 (by decide) (by decide) ?hi
 case hi=>
  subst ha0;exact⟨undef,undef,undef,undef,none,0,0,none,0,by simp only[a8H,Act.put,List.setIfInBounds_toArray,List.set_cons_zero,List.set_cons_succ],ExtX.refl _,fun h=>(by cases h),fun h=>(by cases h),fun h=>(by cases h),fun h=>(by cases h),fun h=>(by cases h)⟩
 case st=>
  rintro ⟨b1,b3,b6,b7⟩ i t a w' hs ht ⟨v1,v3,v6,v7,so,rl,sc,co,g,rfl,hEx,f1,f3,f6,f7,d1⟩;have h6:=a9E _ hs
  dsimp only at f1 f3 f6 f7 d1 h6
  subst ha0;unfold b6D at ht
  dsimp only at ht
  split at ht
  ·rename_i hc
   obtain⟨rfl,rfl⟩:=hc;cases ht
   simp only[a8H,Act.put,List.setIfInBounds_toArray,List.set_cons_zero,List.set_cons_succ];refine a1C (o:=⟨_,_,_,_,_,_⟩) rfl (fun K hK=>?_);refine a7Q (l:=([]:List Int)) rfl (by rfl) a0S rfl (a0i.elem _) (Nat.le_refl _) (hX0.ext hEx) rows 0 rows.length rfl rfl rfl rfl (OL.nil _ _ Z0 w'.heap.size _ _) ((hrr.out w' hEx).mono (a0i.mono _) (a1N fun k _ hk=>by simpa[un,ob]using hk)) (by omega) (by omega) ?_;intro so2 sc2 w2 hO2 hE2n hor;have hE2:Ext w' w2:=hE2n.weaken fun k _ _=>rfl;refine hK.out _ _ ⟨trivial, .slice so2 (0+rows.length) sc2,v3,v6,v7,so2,0+rows.length,sc2,co,g,by simp only[Act.put,List.setIfInBounds_toArray,List.set_cons_zero,List.set_cons_succ],hEx.trans hE2,fun _=>rfl,fun h=>⟨(f3 h).1,(f3 h).2.ext0 QC.elem hE2⟩,fun h=>absurd (h6 h).1 (by decide),fun h=>⟨(f7 h).1,(f7 h).2.1.ext0 hE2,(f7 h).2.2⟩,d1⟩
  ·split at ht
   ·rename_i hc
    obtain⟨rfl,rfl⟩:=hc;cases ht
    simp only[a8H,Act.put,List.setIfInBounds_toArray,List.set_cons_zero,List.set_cons_succ];refine a1C (o:=⟨_,_,_,_,_,_⟩) rfl (fun K hK=>?_);refine a4B (R:=QC) rfl rfl a1c QC.elem (0:Rat) (fun _=>QC.zero _) Z0 (hX0.ext hEx) w'.heap.size (Nat.le_refl _) bb rfl rfl rfl (by omega) (by omega) ?_;intro co2 w2 hO2 hE2;have nw:∀k,ob co2 k=true->w'.heap.size<=k:=fun k hk=>(hO2.block hk).1;have hO3:=hO2.base_le (b':=W0.heap.size) hEx.size;refine hK.out _ _ ⟨trivial,v1, .slice co2 bb bb,v6,v7,so,rl,sc,co2,g,by simp only[Act.put,List.setIfInBounds_toArray,List.set_cons_zero,List.set_cons_succ],hEx.trans hE2,f1,fun _=>⟨rfl,hO3⟩,fun h=>absurd (h6 h).2 (by decide),fun h=>⟨(f7 h).1,(f7 h).2.1.ext0 hE2,(f7 h).2.2⟩,fun _ h=>?_⟩;cases hm:ob co2 g
    ·rfl
    ·have h1:=nw g hm;have h2:=(f7 h).2.1.lt;omega
   ·split at ht
    ·rename_i hc
     obtain⟨rfl,rfl,rfl,rfl⟩:=hc;cases ht
     obtain rfl:=f1 rfl;obtain⟨rfl,hO3⟩:=f3 rfl;simp only[a8H,Act.put,List.setIfInBounds_toArray,List.set_cons_zero,List.set_cons_succ];refine a1C (o:=⟨_,_,_,_,_,_⟩) rfl (fun K hK=>?_);go_simp
     refine hK.out _ _ ⟨trivial,_,_,_,v7,so,rl,sc,co,g,rfl,hEx,fun _=>rfl,fun _=>⟨rfl,hO3⟩,fun _=>rfl,f7,fun _ h=>d1 rfl h⟩
    ·split at ht
     ·rename_i hc
      obtain⟨rfl,rfl⟩:=hc;cases ht
      simp only[a8H,Act.put,List.setIfInBounds_toArray,List.set_cons_zero,List.set_cons_succ];refine a1C (o:=⟨_,_,_,_,_,_⟩) rfl (fun K hK=>?_);go_simp
      have hE2:Ext w' (w'.alloc (.cells b4e 105)):=(ExtX.refl _).alloc _;refine hK.out _ _ ⟨trivial,v1,v3,v6, .pointer (some ⟨w'.heap.size,0,none⟩),so,rl,sc,co,w'.heap.size,rfl,hEx.trans hE2,f1,fun h=>⟨(f3 h).1,(f3 h).2.ext0 QC.elem hE2⟩,f6,fun _=>⟨rfl,Bx.new w' _ _,hEx.size⟩,fun h _=>?_⟩;cases hm:ob co w'.heap.size
      ·rfl
      ·have h2:=((f3 h).2.block hm).2;omega
     ·cases ht
 case ex=>
  rintro ⟨b1,b3,b6,b7⟩ a w' hs hf ⟨v1,v3,v6,v7,so,rl,sc,co,g,rfl,hEx,f1,f3,f6,f7,d1⟩;obtain⟨rfl,rfl⟩:=(Bool.and_eq_true _ _).mp hf;obtain⟨h1,h3⟩:=a9E _ hs rfl
  dsimp only at f1 f3 f6 f7 d1 h1 h3
  subst h1 h3 ha0;obtain rfl:=f1 rfl;obtain⟨rfl,hO3⟩:=f3 rfl;obtain rfl:=f6 rfl;obtain⟨rfl,bg,hg⟩:=f7 rfl;have e2:=d1 rfl rfl;clear f1 f3 f6 f7 d1 hs hf
  show a2q _ _ _ _ _ _ 1 #[true,true,true,true,true,true,false] _ _
  simp only[a8H,Act.put,List.setIfInBounds_toArray,List.set_cons_zero,List.set_cons_succ];refine a0O (i:=6) (o:=⟨_,_,_,_,_,_⟩) (by kernel_rfl) rfl (by decide) (by kernel_rfl) (fun K hK=>?_)
  (refine a3b rfl rfl a2S rfl rfl bg rfl rfl (b1Z _ _ _ _ _ _ _ _ _ _ _ _ _ _ _ _) ?_;intro w9 y1 y2)
  refine hK.out _ _ ?_;clear hK K
  (try simp only[Act.put])
  have hE9:Ext W0 w9:=ExtX.box hEx y2 hg;obtain⟨Y,hY⟩:∃Y,un Z0 (some ⟨g,0,none⟩)=Y:=⟨_,rfl⟩;have hYof:=hid (fun k (hk:Y k=true)=>(by rw[<-hY]at hk;simp[un]at hk;exact hk:Z0 k=true\/ob (some ⟨g,0,none⟩) k=true));have hYZ:=hid (fun k (hk:Z0 k=true)=>(by rw[<-hY];exact a0p hk:Y k=true));have hYg:Y g=true:=by rw[<-hY];exact a0q (a5H g)
  have hC:OL QC 3 Y W0.heap.size 32 w9 co bb (List.replicate bb 0):=by
   have h:=(OL.remask (Z:=Y) (fun x hx h h' u hq=>by obtain rfl:=List.eq_of_mem_replicate hx;exact qc0 hq) hO3 (fun k hk=>by
    cases hh:Y k
    ·rfl
    ·rcases hYof.out k hh with h3|h3
     ·rw[hO3.1 k hk]at h3;cases h3
     ·have:g=k:=by simpa[ob]using h3
      subst this;rw[e2]at hk;cases hk))
   exact h.ext QC.elem y2 (fun q _ hq=>by rw[<-hY];exact a0q hq) (fun _ _ h=>h)
  have hgl:g<w9.heap.size:=Nat.lt_of_lt_of_le bg.lt y2.size;have hcz:=hid (a7I p (rows.map Int.toNat) bb);rw[<-hcz.out]at hC;obtain⟨R,hR⟩:∃R,rows.map Int.toNat=R:=⟨_,rfl⟩;have hRl:Hid (R.length=rows.length):=hid (by rw[<-hR];simp);have hRg:Hid (∀t (h:t<rows.length),R.getD t 0=rows[t].toNat):=hid fun t h=>by rw[<-hR];simp[List.getD_eq_getElem?_getD,h]
  have hRe:=hid hR;rw[hR]at hC;have hcl:=hid (fun j=>a9r p R bb j);have hhc:Hd co bb:=by have:=hC.hd;rw[hcl.out]at this;exact this
  have hEw:=hid (fun w' (h:Ext W0 w')=>(hE.trans (hE0.trans h):Ext w w'));have hcog:ob co g=false:=e2;clear hY hR hcz y2 bg e2 hO3;have k1:w9.cell? ⟨g,1,none⟩=some (.slice co bb bb):=y1.cell 1 rfl;go_wp2_with fail
  clear k1;go_loopw [41] (fun q wr=>∃j:Nat,q= .int .i64 j/\j<=bb/\Bx wr g #[.slice so rl sc, .slice co bb bb, .slice none 0 0, .bool false, .slice none 0 0, .slice none 0 0] 105/\OL QC 3 Y W0.heap.size 32 wr co bb (a7H p R bb j)/\Ext W0 wr) (fun q _=>bb - (intOf q).toNat)
  case atStart=>exact⟨0,rfl,Nat.zero_le _,y1,hC,hE9⟩
  case round=>
   clear y1 hC hE9;obtain⟨j,rfl,hj,yg,hC,hE⟩:=hrel;have hYX:HX Y wr:=fun k hk=>by
    rcases hYof.out k hk with h|h
    ·exact hX0.ext hE k h
    ·have:g=k:=by simpa[ob]using h
     rw[<-this];exact yg.lt
   by_cases hlj:j<bb
   ·obtain⟨wj,hwj⟩:∃wj,wj=wr:=⟨_,rfl⟩
    subst hwj;have hcoW:=hid (fun k (h:ob co k=true)=>(hC.block h:W0.heap.size<=k/\k<wj.heap.size));rw[b1J]at hC;go_wp2_with fail
    go_loopw [46] (fun q wx=>∃t:Nat,q= .int .i64 t/\t<=rows.length/\OL QC 3 Y W0.heap.size 32 wx co bb (a9D p R bb j t)/\ExtX (ob co) wj wx) (fun q _=>rows.length - (intOf q).toNat)
    case atStart=>exact⟨0,rfl,Nat.zero_le _,hC,ExtX.refl _⟩
    case round=>
     clear hC;obtain⟨t,rfl,ht,hC,hEr⟩:=hrel;have hE0r:Ext W0 wr:=hE.then_ hEr (fun i hi _=>by
      cases hh:ob co i
      ·rfl
      ·have:=(hcoW.out i hh).1;omega)
     have ygr:=yg.ext hEr hcog;have hXY:HX Y wr:=hYX.ext hEr;have hXM:HX (un Y co) wr:=hC.unX hXY;have hjC:j<(a9D p R bb j t).length:=by rw[b3w];exact hlj
     obtain⟨gc,oc,sv,av,nv,cv,dv,kv,ev,hgc,hobc,hcc,hqc⟩:=hC.rat QC.shaped j hjC;rw[b3x]at hqc;have hgc':=hid hgc;have hqv:=hqc.qv (Nat.le_trans (a8v hpH.out) (by
      have:=Nat.mul_le_mul (show t<=6 by omega) (show B+1<=511 by omega);omega))
     have hEd:Ext wr wr.drew:=(ExtX.refl wr).drew;have i6:∀W,(Instr.indexAt 45 (.slice co bb bb) (.int .i64 (j:Int))).run Tryz.prog W= .ok (.pointer (some ⟨gc,oc,none⟩)) W:=by rw[<-hgc];exact a0k a1c co bb bb .i64 j hhc (by omega)
     have hXd:HX (un Y co) wr.drew:=hXM.ext hEd;by_cases hlt2:t<rows.length
     ·have hri:=(hrr.out wr hE0r).int t hlt2
      obtain⟨h1,h2⟩:=hlt'.out rows[t] (List.getElem_mem _);obtain⟨r,hrr2⟩:=Int.eq_ofNat_of_zero_le h1;rw[hrr2]at hri h2;have hrn:r<aa:=by omega
      have hrp:r<p.length:=by rw[hpl.out];exact hrn
      have hRt:R.getD t 0=r:=by rw[hRg.out t hlt2,hrr2];rfl
      obtain⟨a1,c1,hX1,hc1,hcl1,hq1⟩:=hus.row r hrp;have hrl1:=hpr.out p[r] (List.getElem_mem _);have hj1:j<p[r].length:=by rw[hrl1];exact hlj
      have hh1:Hd a1 bb:=by have:=hq1.hd;rw[hrl1]at this;exact this
      rw[hrl1]at hc1;have hMle:Le (mk Z0 W0) (mk (un Y co) wr):=a0N hE0r (fun k _ hk=>by simp[noY]at hk) (fun k hk hz=>by
       by_cases hy:Y k=true
       ·rcases hYof.out k hy with h|h
        ·exact h
        ·have:g=k:=by simpa[ob]using h
         omega
       ·have:=(hcoW.out k (by simpa[un,hy]using hz)).1;omega)
      obtain⟨g1,o1,s1,p1,n1,q1,d1,m1,e1,hg1,hXg1,hcg1,hv1⟩:=((hq1.mono QV.mono (hle.out W0 hE0)).mono QV.mono hMle).rat QV.shaped j hj1;have hsum:a4d p R j t+p[r][j]=a4d p R j (t+1):=by
       show _=a4d p R j t+ent p (R.getD t 0) j
       rw[hRt,a9o hrp hj1]
      have hset:=hid (b3y p R bb j t _ hsum);obtain⟨S0,hS0⟩:∃S0,a4d p R j t=S0:=⟨_,rfl⟩;obtain⟨y,hy⟩:∃y,p[r][j]=y:=⟨_,rfl⟩;rw[hS0,hy]at hset;rw[hS0]at hqv;rw[hy]at hv1;have hS:Hid (∀w',Ext wr.drew w'->w'.cell? ⟨g,1,none⟩=some (.slice co bb bb)/\w'.cell? (adr ua r)=some (.slice a1 bb c1)/\(w'.cell? ⟨g1,o1,none⟩=some (.bool s1)/\w'.cell? ⟨g1,o1+1,none⟩=some (.slice p1 n1 q1)/\w'.cell? ⟨g1,o1+2,none⟩=some (.slice d1 m1 e1))/\w'.cell? ⟨gc,oc,none⟩=some (.bool sv)/\w'.cell? ⟨gc,oc+1,none⟩=some (.slice av nv cv)/\w'.cell? ⟨gc,oc+2,none⟩=some (.slice dv kv ev)):=hid fun w' h=>
       have h':=hEd.trans h
       ⟨(ygr.ext0 h').cell 1 rfl,hc1.out noY w' (hEw.out _ (hE0r.trans h')) rfl,hcg1.out noY w' h' rfl,hcc.out noY w' h' rfl⟩
      have i10:∀W,(Instr.indexAt 25 (.slice ua aa uc) (.int .i64 (r:Int))).run Tryz.prog W= .ok (.pointer (some (adr ua r))) W:=a0I a0A ua aa uc .i64 r hhu (by omega) rfl;have i13:∀W,(Instr.indexAt 45 (.slice a1 bb c1) (.int .i64 (j:Int))).run Tryz.prog W= .ok (.pointer (some ⟨g1,o1,none⟩)) W:=by rw[<-hg1];exact a0k a1c a1 bb c1 .i64 j hh1 (by omega)
      have hqd:=mkx QV.mono hqv hEd;have hvd:=mkx QV.mono hv1 hEd;clear hc1 hcg1 hcc hg1 hgc hq1 hrl1 hS0 hy hRt hrr2 hcl1 hj1 hv1 hqv hqc h1 h2 hMle hsum;go_wp2_with (with_reducible refine a0o a0S (by omega) (by assumption) ?_)
      refine a0P 17 (fun w'=>w'.cell? ⟨g,1,none⟩=some (.slice co bb bb)/\w'.cell? (adr ua r)=some (.slice a1 bb c1)/\(w'.cell? ⟨g1,o1,none⟩=some (.bool s1)/\w'.cell? ⟨g1,o1+1,none⟩=some (.slice p1 n1 q1)/\w'.cell? ⟨g1,o1+2,none⟩=some (.slice d1 m1 e1))/\w'.cell? ⟨gc,oc,none⟩=some (.bool sv)/\w'.cell? ⟨gc,oc+1,none⟩=some (.slice av nv cv)/\w'.cell? ⟨gc,oc+2,none⟩=some (.slice dv kv ev)) (by kernel_rfl) (by kernel_rfl) (hS.out _ (ExtX.refl _)) (fun hHeld hOnce=>?_);refine a0a hOnce (i:=0) (oi:=⟨_,_,_,_,_,_⟩) (v:=?_) rfl (by kernel_rfl) (fun _ _ _ h=>h) (by assumption) (by rfl) (fun w hSw=>?_) ?_
      rotate_left
      ·(try dsimp only at hSw)
       go_simp
       all_goals with_reducible rfl
      (try simp only[Act.put,List.setIfInBounds_toArray,List.set_cons_zero,List.set_cons_succ])
      refine a0a hOnce (i:=1) (oi:=⟨_,_,_,_,_,_⟩) (v:=?_) rfl (by kernel_rfl) (fun _ _ _ h=>h) (by assumption) (by rfl) (fun w hSw=>?_) ?_
      rotate_left
      ·(try dsimp only at hSw)
       go_simp
       all_goals with_reducible rfl
      (try simp only[Act.put,List.setIfInBounds_toArray,List.set_cons_zero,List.set_cons_succ])
      refine a0a hOnce (i:=2) (oi:=⟨_,_,_,_,_,_⟩) (v:=?_) rfl (by kernel_rfl) (fun _ _ _ h=>h) (by assumption) (by rfl) (fun w hSw=>?_) ?_
      rotate_left
      ·(try dsimp only at hSw)
       go_simp
       all_goals with_reducible rfl
      (try simp only[Act.put,List.setIfInBounds_toArray,List.set_cons_zero,List.set_cons_succ])
      refine a0a hOnce (i:=3) (oi:=⟨_,_,_,_,_,_⟩) (v:=?_) rfl (by kernel_rfl) (fun _ _ _ h=>h) (by assumption) (by rfl) (fun w hSw=>?_) ?_
      rotate_left
      ·(try dsimp only at hSw)
       go_simp
       all_goals with_reducible rfl
      (try simp only[Act.put,List.setIfInBounds_toArray,List.set_cons_zero,List.set_cons_succ])
      refine a0a hOnce (i:=4) (oi:=⟨_,_,_,_,_,_⟩) (v:=?_) rfl (by kernel_rfl) (fun _ _ _ h=>h) (by assumption) (by rfl) (fun w hSw=>?_) ?_
      rotate_left
      ·(try dsimp only at hSw)
       go_simp
       all_goals with_reducible rfl
      (try simp only[Act.put,List.setIfInBounds_toArray,List.set_cons_zero,List.set_cons_succ])
      refine a0a hOnce (i:=5) (oi:=⟨_,_,_,_,_,_⟩) (v:=?_) rfl (by kernel_rfl) (fun _ _ _ h=>h) (by assumption) (by rfl) (fun w hSw=>?_) ?_
      rotate_left
      ·(try dsimp only at hSw)
       go_simp
       all_goals with_reducible rfl
      (try simp only[Act.put,List.setIfInBounds_toArray,List.set_cons_zero,List.set_cons_succ])
      refine a0a hOnce (i:=6) (oi:=⟨_,_,_,_,_,_⟩) (v:=?_) rfl (by kernel_rfl) (fun _ _ _ h=>h) (by assumption) (by rfl) (fun w hSw=>?_) ?_
      rotate_left
      ·(try dsimp only at hSw)
       go_simp
       all_goals with_reducible rfl
      (try simp only[Act.put,List.setIfInBounds_toArray,List.set_cons_zero,List.set_cons_succ])
      refine a0a hOnce (i:=7) (oi:=⟨_,_,_,_,_,_⟩) (v:=?_) rfl (by kernel_rfl) (fun _ _ _ h=>h) (by assumption) (by rfl) (fun w hSw=>?_) ?_
      rotate_left
      ·(try dsimp only at hSw)
       go_simp
       all_goals with_reducible rfl
      (try simp only[Act.put,List.setIfInBounds_toArray,List.set_cons_zero,List.set_cons_succ])
      refine a0a hOnce (i:=8) (oi:=⟨_,_,_,_,_,_⟩) (v:=?_) rfl (by kernel_rfl) (fun _ _ _ h=>h) (by assumption) (by rfl) (fun w hSw=>?_) ?_
      rotate_left
      ·(try dsimp only at hSw)
       go_simp
       all_goals with_reducible rfl
      (try simp only[Act.put,List.setIfInBounds_toArray,List.set_cons_zero,List.set_cons_succ])
      refine a0a hOnce (i:=9) (oi:=⟨_,_,_,_,_,_⟩) (v:=?_) rfl (by kernel_rfl) (fun _ _ _ h=>h) (by assumption) (by rfl) (fun w hSw=>?_) ?_
      rotate_left
      ·(try dsimp only at hSw)
       go_simp
       all_goals with_reducible rfl
      (try simp only[Act.put,List.setIfInBounds_toArray,List.set_cons_zero,List.set_cons_succ])
      refine a0a hOnce (i:=10) (oi:=⟨_,_,_,_,_,_⟩) (v:=?_) rfl (by kernel_rfl) (fun _ _ _ h=>h) (by assumption) (by rfl) (fun w hSw=>?_) ?_
      rotate_left
      ·(try dsimp only at hSw)
       go_simp
       all_goals with_reducible rfl
      (try simp only[Act.put,List.setIfInBounds_toArray,List.set_cons_zero,List.set_cons_succ])
      refine a0a hOnce (i:=11) (oi:=⟨_,_,_,_,_,_⟩) (v:=?_) rfl (by kernel_rfl) (fun _ _ _ h=>h) (by assumption) (by rfl) (fun w hSw=>?_) ?_
      rotate_left
      ·(try dsimp only at hSw)
       go_simp
       all_goals with_reducible rfl
      (try simp only[Act.put,List.setIfInBounds_toArray,List.set_cons_zero,List.set_cons_succ])
      refine a0a hOnce (i:=12) (oi:=⟨_,_,_,_,_,_⟩) (v:=?_) rfl (by kernel_rfl) (fun _ _ _ h=>h) (by assumption) (by rfl) (fun w hSw=>?_) ?_
      rotate_left
      ·(try dsimp only at hSw)
       go_simp
       all_goals with_reducible rfl
      (try simp only[Act.put,List.setIfInBounds_toArray,List.set_cons_zero,List.set_cons_succ])
      refine a0a hOnce (i:=13) (oi:=⟨_,_,_,_,_,_⟩) (v:=?_) rfl (by kernel_rfl) (fun _ _ _ h=>h) (by assumption) (by rfl) (fun w hSw=>?_) ?_
      rotate_left
      ·(try dsimp only at hSw)
       go_simp
       all_goals with_reducible rfl
      (try simp only[Act.put,List.setIfInBounds_toArray,List.set_cons_zero,List.set_cons_succ])
      refine a0a hOnce (i:=14) (oi:=⟨_,_,_,_,_,_⟩) (v:=?_) rfl (by kernel_rfl) (fun _ _ _ h=>h) (by assumption) (by rfl) (fun w hSw=>?_) ?_
      rotate_left
      ·(try dsimp only at hSw)
       go_simp
       all_goals with_reducible rfl
      (try simp only[Act.put,List.setIfInBounds_toArray,List.set_cons_zero,List.set_cons_succ])
      refine a0v (i:=15) (o:=⟨_,_,_,_,_,_⟩) (by kernel_rfl) rfl (fun K hK=>?_);go_simp
      (go_at_call 98;(with_reducible refine(b2N (un Y co) wr.drew _ _ _ _ hXd hqd hvd).mono ?_);rintro ee w6 ⟨t1,u6,rfl,hu6⟩;obtain⟨s6,a6,n6,c6,d6,m6,e6,rfl⟩:=hu6.shape)
      refine hK.out _ _ (hS.out _ t1) (fun hHeld=>?_);clear hK K
      (try simp only[Act.put,List.setIfInBounds_toArray,List.set_cons_zero,List.set_cons_succ])
      have t12:=hEd.trans t1;have hC7:=hC.ext0 QC.elem t12;obtain⟨_,v0,v1,v2,_,⟨g0,f0⟩,⟨gg1,f1⟩,⟨gg2,f2⟩,_⟩:=hC7.cell3 j hjC hgc'.out;have hsw:=hC7.set3 (P:=Tryz.prog) a7z QC.elem j hjC hgc'.out (v0:= .bool s6) (v1:= .slice a6 n6 c6) (v2:= .slice d6 m6 e6) (x:=S0+y) hu6;refine a0a hOnce (i:=16) (oi:=⟨_,_,_,_,_,_⟩) (v:=?_) rfl (by kernel_rfl) (fun _ _ _ h=>h) (by assumption) (by rfl) (fun w hSw=>?_) ?_
      rotate_left
      ·(try dsimp only at hSw)
       go_simp
       all_goals with_reducible rfl
      (try simp only[Act.put,List.setIfInBounds_toArray,List.set_cons_zero,List.set_cons_succ])
      refine a0O (i:=17) (o:=⟨_,_,_,_,_,_⟩) (by kernel_rfl) rfl (by decide) (by kernel_rfl) (fun K hK=>?_);go_simp
      refine hK.out _ _ ?_;clear hK K;obtain⟨x1,x2⟩:=hsw;rw[hset.out]at x1;have hE9:=(hEr.then_ t12 (fun _ _ _=>rfl)).trans x2;clear i6 i10 i13 hri g0 gg1 gg2 f0 f1 f2;go_wp2_with fail
      go_roundw
      case rel=>exact⟨t+1,by go_num,by omega,x1,hE9⟩
      case measure=>simp[intOf];omega
     ·have hset:=hid (b1K p R bb j t)
      have hxe:Hid (a4d p R j t/((rows.length:Int):Rat)=a4d p R j R.length/((R.length:Int):Rat)):=hid (by rw[hRl.out,show t=rows.length by omega]);obtain⟨S0,hS0⟩:∃S0,a4d p R j t=S0:=⟨_,rfl⟩;obtain⟨S1,hS1⟩:∃S1,a4d p R j R.length/((R.length:Int):Rat)=S1:=⟨_,rfl⟩;rw[hS0,hS1]at hxe;rw[hS1]at hset;rw[hS0]at hqv;have hS:Hid (∀w',Ext wr.drew w'->w'.cell? ⟨g,1,none⟩=some (.slice co bb bb)/\w'.cell? ⟨gc,oc,none⟩=some (.bool sv)/\w'.cell? ⟨gc,oc+1,none⟩=some (.slice av nv cv)/\w'.cell? ⟨gc,oc+2,none⟩=some (.slice dv kv ev)):=hid fun w' h=>
       have h':=hEd.trans h
       ⟨(ygr.ext0 h').cell 1 rfl,hcc.out noY w' h' rfl⟩
      have hqd:=mkx QV.mono hqv hEd;have hiq:=hid (b1j (n:=rows.length) (by omega));clear hcc hgc hS0 hS1 hqv hqc;go_wp2_with fail
      refine a0P 13 (fun w'=>w'.cell? ⟨g,1,none⟩=some (.slice co bb bb)/\w'.cell? ⟨gc,oc,none⟩=some (.bool sv)/\w'.cell? ⟨gc,oc+1,none⟩=some (.slice av nv cv)/\w'.cell? ⟨gc,oc+2,none⟩=some (.slice dv kv ev)) (by kernel_rfl) (by kernel_rfl) (hS.out _ (ExtX.refl _)) (fun hHeld hOnce=>?_);refine a0a hOnce (i:=0) (oi:=⟨_,_,_,_,_,_⟩) (v:=?_) rfl (by kernel_rfl) (fun _ _ _ h=>h) (by assumption) (by rfl) (fun w hSw=>?_) ?_
      rotate_left
      ·(try dsimp only at hSw)
       go_simp
       all_goals with_reducible rfl
      (try simp only[Act.put,List.setIfInBounds_toArray,List.set_cons_zero,List.set_cons_succ])
      refine a0a hOnce (i:=1) (oi:=⟨_,_,_,_,_,_⟩) (v:=?_) rfl (by kernel_rfl) (fun _ _ _ h=>h) (by assumption) (by rfl) (fun w hSw=>?_) ?_
      rotate_left
      ·(try dsimp only at hSw)
       go_simp
       all_goals with_reducible rfl
      (try simp only[Act.put,List.setIfInBounds_toArray,List.set_cons_zero,List.set_cons_succ])
      refine a0a hOnce (i:=2) (oi:=⟨_,_,_,_,_,_⟩) (v:=?_) rfl (by kernel_rfl) (fun _ _ _ h=>h) (by assumption) (by rfl) (fun w hSw=>?_) ?_
      rotate_left
      ·(try dsimp only at hSw)
       go_simp
       all_goals with_reducible rfl
      (try simp only[Act.put,List.setIfInBounds_toArray,List.set_cons_zero,List.set_cons_succ])
      refine a0a hOnce (i:=3) (oi:=⟨_,_,_,_,_,_⟩) (v:=?_) rfl (by kernel_rfl) (fun _ _ _ h=>h) (by assumption) (by rfl) (fun w hSw=>?_) ?_
      rotate_left
      ·(try dsimp only at hSw)
       go_simp
       all_goals with_reducible rfl
      (try simp only[Act.put,List.setIfInBounds_toArray,List.set_cons_zero,List.set_cons_succ])
      refine a0a hOnce (i:=4) (oi:=⟨_,_,_,_,_,_⟩) (v:=?_) rfl (by kernel_rfl) (fun _ _ _ h=>h) (by assumption) (by rfl) (fun w hSw=>?_) ?_
      rotate_left
      ·(try dsimp only at hSw)
       go_simp
       all_goals with_reducible rfl
      (try simp only[Act.put,List.setIfInBounds_toArray,List.set_cons_zero,List.set_cons_succ])
      refine a0a hOnce (i:=5) (oi:=⟨_,_,_,_,_,_⟩) (v:=?_) rfl (by kernel_rfl) (fun _ _ _ h=>h) (by assumption) (by rfl) (fun w hSw=>?_) ?_
      rotate_left
      ·(try dsimp only at hSw)
       go_simp
       all_goals with_reducible rfl
      (try simp only[Act.put,List.setIfInBounds_toArray,List.set_cons_zero,List.set_cons_succ])
      refine a0a hOnce (i:=6) (oi:=⟨_,_,_,_,_,_⟩) (v:=?_) rfl (by kernel_rfl) (fun _ _ _ h=>h) (by assumption) (by rfl) (fun w hSw=>?_) ?_
      rotate_left
      ·(try dsimp only at hSw)
       go_simp
       all_goals with_reducible rfl
      (try simp only[Act.put,List.setIfInBounds_toArray,List.set_cons_zero,List.set_cons_succ])
      refine a0a hOnce (i:=7) (oi:=⟨_,_,_,_,_,_⟩) (v:=?_) rfl (by kernel_rfl) (fun _ _ _ h=>h) (by assumption) (by rfl) (fun w hSw=>?_) ?_
      rotate_left
      ·(try dsimp only at hSw)
       go_simp
       all_goals with_reducible rfl
      (try simp only[Act.put,List.setIfInBounds_toArray,List.set_cons_zero,List.set_cons_succ])
      refine a0a hOnce (i:=8) (oi:=⟨_,_,_,_,_,_⟩) (v:=?_) rfl (by kernel_rfl) (fun _ _ _ h=>h) (by assumption) (by rfl) (fun w hSw=>?_) ?_
      rotate_left
      ·(try dsimp only at hSw)
       go_simp
       all_goals with_reducible rfl
      (try simp only[Act.put,List.setIfInBounds_toArray,List.set_cons_zero,List.set_cons_succ])
      refine a0a hOnce (i:=9) (oi:=⟨_,_,_,_,_,_⟩) (v:=?_) rfl (by kernel_rfl) (fun _ _ _ h=>h) (by assumption) (by rfl) (fun w hSw=>?_) ?_
      rotate_left
      ·(try dsimp only at hSw)
       go_simp
       all_goals with_reducible rfl
      (try simp only[Act.put,List.setIfInBounds_toArray,List.set_cons_zero,List.set_cons_succ])
      refine a0v (i:=10) (o:=⟨_,_,_,_,_,_⟩) (by kernel_rfl) rfl (fun K hK=>?_);go_simp
      (go_at_call 131;(with_reducible refine(rof (un Y co) wr.drew (rows.length:Int) hXd (by omega) (by omega)).mono ?_);rintro ee w6 ⟨t1,u6,rfl,hu6⟩;obtain⟨s6,a6,n6,c6,d6,m6,e6,rfl⟩:=hu6.shape)
      refine hK.out _ _ (hS.out _ t1) (fun hHeld=>?_);clear hK K
      (try simp only[Act.put,List.setIfInBounds_toArray,List.set_cons_zero,List.set_cons_succ])
      have hqd6:=mkx QV.mono hqd t1;have hu6v:=hu6.qv (Nat.le_trans hiq.out (by decide));refine a0v (i:=11) (o:=⟨_,_,_,_,_,_⟩) (by kernel_rfl) rfl (fun K hK=>?_);go_simp
      (go_at_call 130;(with_reducible refine(b3b (un Y co) w6 _ _ _ _ (hXd.ext t1) hqd6 hu6v).mono ?_);rintro ee w7 ⟨t2,u7,rfl,hu7⟩;obtain⟨s7,a7,n7,c7,d7,m7,e7,rfl⟩:=hu7.shape)
      refine hK.out _ _ (hS.out _ (t1.trans t2)) (fun hHeld=>?_);clear hK K
      (try simp only[Act.put,List.setIfInBounds_toArray,List.set_cons_zero,List.set_cons_succ])
      have t12:=hEd.trans (t1.trans t2);rw[hxe.out]at hu7;have hC7:=hC.ext0 QC.elem t12;obtain⟨_,v0,v1,v2,_,⟨g0,f0⟩,⟨gg1,f1⟩,⟨gg2,f2⟩,_⟩:=hC7.cell3 j hjC hgc'.out;have hsw:=hC7.set3 (P:=Tryz.prog) a7z QC.elem j hjC hgc'.out (v0:= .bool s7) (v1:= .slice a7 n7 c7) (v2:= .slice d7 m7 e7) (x:=S1) hu7;refine a0a hOnce (i:=12) (oi:=⟨_,_,_,_,_,_⟩) (v:=?_) rfl (by kernel_rfl) (fun _ _ _ h=>h) (by assumption) (by rfl) (fun w hSw=>?_) ?_
      rotate_left
      ·(try dsimp only at hSw)
       go_simp
       all_goals with_reducible rfl
      (try simp only[Act.put,List.setIfInBounds_toArray,List.set_cons_zero,List.set_cons_succ])
      refine a0O (i:=13) (o:=⟨_,_,_,_,_,_⟩) (by kernel_rfl) rfl (by decide) (by kernel_rfl) (fun K hK=>?_);go_simp
      refine hK.out _ _ ?_;clear hK K;obtain⟨x1,x2⟩:=hsw;rw[hset.out]at x1;have yg9:=(ygr.ext0 t12).ext x2 hcog;have hE9:=(hE0r.trans t12).own hC7 (Nat.le_refl _) x2;clear i6 g0 gg1 gg2 f0 f1 f2;go_wp2_with fail
      go_roundw
      case rel=>exact⟨j+1,by go_num,by omega,yg9,x1,hE9⟩
      case measure=>simp[intOf];omega
   ·have hcf:=hid (a7J p R bb)
    rw[show j=bb by omega,hcf.out]at hC;have hCs:=hC.sl QC.elem;obtain⟨wc,hwc⟩:∃wc,wc=wr:=⟨_,rfl⟩;subst hwc;have hMl:Hid ((a5l p R bb R.length).length=bb):=hid (a3a p R bb R.length).1;have hMrow:=hid (fun i h=>b3A p R bb R.length i h);have hcenB:=hid (a6Z (rows:=R) (d:=bb) hpH.out (by rw[hRl.out];omega));have hcenl:=hid (a9n p R bb);obtain⟨M,hM⟩:∃M,a5l p R bb R.length=M:=⟨_,rfl⟩;have hM':=hid hM;rw[hM]at hMl hMrow;have hE0c:=hE;clear hC hM hE hj;go_wp2_with fail
    go_loopw [13] (fun q wr=>∃(i:Nat) (mo:Option Addr) (mc:Nat),q= .int .i64 i/\i<=bb/\Bx wr g #[.slice so rl sc, .slice co bb bb, .slice mo i mc, .bool false, .slice none 0 0, .slice none 0 0] 105/\OL RC 1 Y wc.heap.size 45 wr mo mc (M.take i)/\ExtX (ob (some ⟨g,0,none⟩)) wc wr) (fun q _=>bb - (intOf q).toNat)
    case atStart=>exact⟨0,none,0,rfl,Nat.zero_le _,yg,OL.nil _ _ _ _ _ _,ExtX.refl _⟩
    case round=>
     clear yg;obtain⟨i,mo,mc,rfl,hi,yg,hO,hE⟩:=hrel;have hE0r:Ext W0 wr:=ExtX.box hE0c hE hg;by_cases hli:i<bb
     ·have hXY:HX Y wr:=hYX.ext hE
      have hXum:HX (un Y mo) wr:=hO.unX hXY;have hgmo:ob mo g=false:=by
       cases hh:ob mo g
       ·rfl
       ·have:=hO.1 g hh;rw[hYg]at this;cases this
      have hmoW:=hid (fun k (h:ob mo k=true)=>(hO.block h:wc.heap.size<=k/\k<wr.heap.size));obtain⟨wi,hwi⟩:∃wi,wi=wr:=⟨_,rfl⟩;subst hwi;have hEi:ExtX (ob (some ⟨g,0,none⟩)) wc wi:=hE;have hE0i:=hE0r;have hwcs:=hE0c.size;have hwis:=hE.size;clear hE hE0r;go_wp2_with ((with_reducible show wpList _ _ _ (⟨_, .makeSlice _ _ _,_,_,_,_⟩::_) _ _);refine a1S (R:=QC) a1c QC.elem (0:Rat) (fun _=>QC.zero _) (un Y mo) hXum wi.heap.size (Nat.le_refl _) bb rfl rfl rfl (by omega) (by omega) ?_;intro ao w2 hR2 hE2)
      rw[<-b3z p R bb i]at hR2;have hao:Hd ao bb:=by have:=hR2.hd;rw[List.length_map,List.length_range]at this;exact this
      go_loopw [91] (fun q wx=>∃t:Nat,q= .int .i64 t/\t<=rows.length/\OL QC 3 (un Y mo) wi.heap.size 32 wx ao bb ((List.range bb).map (a9s p R bb t i))/\Ext wi wx) (fun q _=>rows.length - (intOf q).toNat)
      case atStart=>exact⟨0,rfl,Nat.zero_le _,hR2,hE2⟩
      case round=>
       clear hR2 hE2;obtain⟨t,rfl,ht,hR,hEx⟩:=hrel;have hE0x:=hE0i.trans hEx;have ygx:=yg.ext0 hEx;by_cases hlt2:t<rows.length
       ·have hNof:=hid (fun k (hk:un (un Y mo) ao k=true)=>(by
         simpa[un,or_assoc]using hk:Y k=true\/ob mo k=true\/ob ao k=true))
        have hXN:HX (un (un Y mo) ao) wr:=hR.unX (hXum.ext hEx);have hPN:Le (mk Z0 W0) (mk (un (un Y mo) ao) wr):=a0N hE0x (fun k _ hk=>by simp[noY]at hk) (fun k hk hz=>by
         rcases hNof.out k hz with h|h|h
         ·rcases hYof.out k h with h|h
          ·exact h
          ·have:g=k:=by simpa[ob]using h
           omega
         ·have:=(hmoW.out k h).1;omega
         ·have:=(hR.block h).1;omega)
        have hCN:Le (mk Y wc) (mk (un (un Y mo) ao) wr):=a0N (hEi.then_ hEx (fun _ _ _=>rfl)) (fun k _ hk=>by
         have:g=k:=by simpa[ob]using hk
         rw[<-this];exact hYg) (fun k hk hz=>by
         rcases hNof.out k hz with h|h|h
         ·exact h
         ·have:=(hmoW.out k h).1;omega
         ·have:=(hR.block h).1;omega)
        have hri:=(hrr.out wr hE0x).int t hlt2;obtain⟨h1,h2⟩:=hlt'.out rows[t] (List.getElem_mem _);obtain⟨r,hrr2⟩:=Int.eq_ofNat_of_zero_le h1;rw[hrr2]at hri h2;have hrn:r<aa:=by omega
        have hrp:r<p.length:=by rw[hpl.out];exact hrn
        have hRt:R.getD t 0=r:=by rw[hRg.out t hlt2,hrr2];rfl
        obtain⟨a1,c1,hX1,hc1,hcl1,hq1⟩:=hus.row r hrp;have hrl1:=hpr.out p[r] (List.getElem_mem _);have hpRV:RV (mk (un (un Y mo) ao) wr) (.slice a1 bb c1) p[r]:=⟨a1,c1,by rw[hrl1],hcl1,(hq1.mono QV.mono (hle.out W0 hE0)).mono QV.mono hPN⟩;have hcRV:RV (mk (un (un Y mo) ao) wr) (.slice co bb bb) (a4c p R bb):=⟨co,bb,by rw[hcenl.out],by rw[hcenl.out];exact Nat.le_refl _,(hCs.mono QC.mono hCN).qv fun q hq=>Nat.le_trans (hcenB.out q hq) (by
         rw[hRl.out];have:=Nat.mul_le_mul (show rows.length<=6 by omega) (show B+1<=511 by omega);omega)⟩
        have hdv:List.zipWith (· - ·) p[r] (a4c p R bb)=a5p p (a4c p R bb) (R.getD t 0):=by
         unfold a5p;rw[hRt];simp[List.getD_eq_getElem?_getD,hrp]
        have hst:=hid (b1L p R bb t i (a5p p (a4c p R bb) (R.getD t 0)));have hsp:=hid (b5A p R bb t i);have hZB:=hid (a3z (r:=R.getD t 0) hpB' hcenB.out);have hzl0:Hid ((a5p p (a4c p R bb) (R.getD t 0)).length=bb):=hid (by rw[<-hdv,List.length_zipWith,hrl1,hcenl.out,Nat.min_self]);have hFB:=hid (fun j k=>b1s (p:=p) (rows:=R) (d:=bb) (t:=t) (fun r=>a3z (r:=r) hpB' hcenB.out) (by omega) j k);have hEd:Ext wr wr.drew:=(ExtX.refl wr).drew;have hem:=b3p (un (un Y mo) ao) wr.drew (.slice a1 bb c1) (.slice co bb bb) p[r] (a4c p R bb) (hXN.ext hEd) (mkx RV.mono hpRV hEd) (mkx RV.mono hcRV hEd) (by rw[hrl1];omega) (by rw[hcenl.out,hrl1]);rw[hdv]at hem;rw[hrl1]at hc1;have hZ3:B+(2+R.length*(B+1))+1<=3579:=by
         rw[hRl.out];have:=Nat.mul_le_mul (show rows.length<=6 by omega) (show B+1<=511 by omega);omega
        have hZ2:=hid (fun q hq=>Nat.le_trans (hZB.out q hq) hZ3);have hF2:=hid (fun j k=>(Nat.le_trans (hFB.out j k) (by
         have:=Nat.mul_le_mul (show t<=6 by omega) (show 2*(B+(2+R.length*(B+1))+1)+1<=7159 by omega);omega):hq (a9s p R bb t j k)<=42955))
        obtain⟨z,hz⟩:∃z,a5p p (a4c p R bb) (R.getD t 0)=z:=⟨_,rfl⟩;obtain⟨F,hF⟩:∃F,a9s p R bb t=F:=⟨_,rfl⟩;rw[hz]at hem hst hsp hZ2 hzl0;rw[hF]at hst hsp hF2 hR;clear hZB hFB;have hS:Hid (∀w',Ext wr.drew w'->w'.cell? (adr ua r)=some (.slice a1 bb c1)/\w'.cell? ⟨g,1,none⟩=some (.slice co bb bb)):=hid fun w' h=>
         ⟨hc1.out noY w' (hEw.out _ (hE0x.trans (hEd.trans h))) rfl,(ygx.ext0 (hEd.trans h)).cell 1 rfl⟩
        have i2:∀W,(Instr.indexAt 25 (.slice ua aa uc) (.int .i64 (r:Int))).run Tryz.prog W= .ok (.pointer (some (adr ua r))) W:=a0I a0A ua aa uc .i64 r hhu (by omega) rfl;clear hc1 hcl1 hq1 hrl1 hpRV hcRV hdv hRt hrr2 h1 h2 hz hF hPN hCN;go_wp2_with (with_reducible refine a0o a0S (by omega) (by assumption) ?_)
        refine a0P 7 (fun w'=>w'.cell? (adr ua r)=some (.slice a1 bb c1)/\w'.cell? ⟨g,1,none⟩=some (.slice co bb bb)) (by kernel_rfl) (by kernel_rfl) (hS.out _ (ExtX.refl _)) (fun hHeld hOnce=>?_);refine a0a hOnce (i:=0) (oi:=⟨_,_,_,_,_,_⟩) (v:=?_) rfl (by kernel_rfl) (fun _ _ _ h=>h) (by assumption) (by rfl) (fun w hSw=>?_) ?_
        rotate_left
        ·(try dsimp only at hSw)
         go_simp
         all_goals with_reducible rfl
        (try simp only[Act.put,List.setIfInBounds_toArray,List.set_cons_zero,List.set_cons_succ])
        refine a0a hOnce (i:=1) (oi:=⟨_,_,_,_,_,_⟩) (v:=?_) rfl (by kernel_rfl) (fun _ _ _ h=>h) (by assumption) (by rfl) (fun w hSw=>?_) ?_
        rotate_left
        ·(try dsimp only at hSw)
         go_simp
         all_goals with_reducible rfl
        (try simp only[Act.put,List.setIfInBounds_toArray,List.set_cons_zero,List.set_cons_succ])
        refine a0a hOnce (i:=2) (oi:=⟨_,_,_,_,_,_⟩) (v:=?_) rfl (by kernel_rfl) (fun _ _ _ h=>h) (by assumption) (by rfl) (fun w hSw=>?_) ?_
        rotate_left
        ·(try dsimp only at hSw)
         go_simp
         all_goals with_reducible rfl
        (try simp only[Act.put,List.setIfInBounds_toArray,List.set_cons_zero,List.set_cons_succ])
        refine a0a hOnce (i:=3) (oi:=⟨_,_,_,_,_,_⟩) (v:=?_) rfl (by kernel_rfl) (fun _ _ _ h=>h) (by assumption) (by rfl) (fun w hSw=>?_) ?_
        rotate_left
        ·(try dsimp only at hSw)
         go_simp
         all_goals with_reducible rfl
        (try simp only[Act.put,List.setIfInBounds_toArray,List.set_cons_zero,List.set_cons_succ])
        refine a0a hOnce (i:=4) (oi:=⟨_,_,_,_,_,_⟩) (v:=?_) rfl (by kernel_rfl) (fun _ _ _ h=>h) (by assumption) (by rfl) (fun w hSw=>?_) ?_
        rotate_left
        ·(try dsimp only at hSw)
         go_simp
         all_goals with_reducible rfl
        (try simp only[Act.put,List.setIfInBounds_toArray,List.set_cons_zero,List.set_cons_succ])
        refine a0a hOnce (i:=5) (oi:=⟨_,_,_,_,_,_⟩) (v:=?_) rfl (by kernel_rfl) (fun _ _ _ h=>h) (by assumption) (by rfl) (fun w hSw=>?_) ?_
        rotate_left
        ·(try dsimp only at hSw)
         go_simp
         all_goals with_reducible rfl
        (try simp only[Act.put,List.setIfInBounds_toArray,List.set_cons_zero,List.set_cons_succ])
        refine a0v (i:=6) (o:=⟨_,_,_,_,_,_⟩) (by kernel_rfl) rfl (fun K hK=>?_);go_simp
        (go_at_call 132;(with_reducible refine hem.mono ?_);rintro ee w5 ⟨t1,u6,rfl,hu6⟩;obtain⟨zo,zc,rfl,hzc,hzs⟩:=hu6)
        refine hK.out _ _ (hS.out _ t1) (fun hHeld=>?_);clear hK K
        (try simp only[Act.put,List.setIfInBounds_toArray,List.set_cons_zero,List.set_cons_succ])
        refine a0O (i:=7) (o:=⟨_,_,_,_,_,_⟩) (by kernel_rfl) rfl (by decide) (by kernel_rfl) (fun K hK=>?_);go_simp
        refine hK.out _ _ ?_;clear hK K;rw[hzl0.out]at hzc |-;have hhz:Hd zo bb:=by have:=hzs.hd;rw[hzl0.out]at this;exact this
        have hE45:=hEd.trans t1;have hR5:=hR.ext0 QC.elem hE45;rw[<-hst.out]at hR5;have hX5:HX (un (un Y mo) ao) w5:=hXN.ext hE45;clear hem hri i2 hR;go_wp2_with fail
        go_loopw [104] (fun q wy=>∃k:Nat,q= .int .i64 k/\k<=bb/\OL QC 3 (un Y mo) wi.heap.size 32 wy ao bb (rwN bb F (a6v z) i k)/\ExtX (ob ao) w5 wy) (fun q _=>bb - (intOf q).toNat)
        case atStart=>exact⟨0,rfl,Nat.zero_le _,hR5,ExtX.refl _⟩
        case round=>
         clear hR5;obtain⟨k,rfl,hk,hR,hE5⟩:=hrel;by_cases hlk:k<bb
         ·have hkr:k<(rwN bb F (a6v z) i k).length:=by rw[b5x];exact hlk
          have hget:=b5y bb F (a6v z) i k hkr;have hset0:=b5z bb F (a6v z) i k;have hiz:i<z.length:=by rw[hzl0.out];exact hli
          have hkz:k<z.length:=by rw[hzl0.out];exact hlk
          have hpd:a6v z i k=z[i]*z[k]:=by unfold a6v fn;simp[List.getD_eq_getElem?_getD,hiz,hkz]
          rw[hpd]at hset0;have hset:=hid hset0;obtain⟨gr,o0,sr,ar,nr,cr2,dr,kr,er,hgr,hobr,hcr,hqr⟩:=hR.rat QC.shaped k hkr;rw[hget]at hqr;have hzk:=hzs.mono QC.mono (a0w hE5 (fun q hq=>a0q hq));obtain⟨g1,o1,s1,p1,n1,q1,d1,m1,e1,hg1,hXg1,hcg1,hv1⟩:=hzk.rat QC.shaped i hiz;obtain⟨g2,o2,s2,p2,n2,q2,d2,m2,e2,hg2,hXg2,hcg2,hv2⟩:=hzk.rat QC.shaped k hkz;have hqz1:=hZ2.out z[i] (List.getElem_mem _);have hqz2:=hZ2.out z[k] (List.getElem_mem _);have hqp:=Nat.le_trans (hq_mul z[i] z[k]) (show _<=68719476736 by omega);have hv1q:=hv1.qv (by omega);have hv2q:=hv2.qv (by omega);have hvrq:=hqr.qv (Nat.le_trans (hF2.out i k) (by decide));obtain⟨zi,hzi⟩:∃y,z[i]=y:=⟨_,rfl⟩;obtain⟨zk,hzk2⟩:∃y,z[k]=y:=⟨_,rfl⟩;obtain⟨xf,hxf⟩:∃y,F i k=y:=⟨_,rfl⟩;simp only[hzi,hzk2,hxf]at hset hv1q hv2q hvrq hqp;have hEd:Ext wr wr.drew:=(ExtX.refl wr).drew;have hgr':=hid hgr;have hS:Hid (∀w',Ext wr.drew w'->(w'.cell? ⟨gr,o0,none⟩=some (.bool sr)/\w'.cell? ⟨gr,o0+1,none⟩=some (.slice ar nr cr2)/\w'.cell? ⟨gr,o0+2,none⟩=some (.slice dr kr er))/\(w'.cell? ⟨g1,o1,none⟩=some (.bool s1)/\w'.cell? ⟨g1,o1+1,none⟩=some (.slice p1 n1 q1)/\w'.cell? ⟨g1,o1+2,none⟩=some (.slice d1 m1 e1))/\w'.cell? ⟨g2,o2,none⟩=some (.bool s2)/\w'.cell? ⟨g2,o2+1,none⟩=some (.slice p2 n2 q2)/\w'.cell? ⟨g2,o2+2,none⟩=some (.slice d2 m2 e2)):=hid fun w' h=>
           have h':=hEd.trans h
           ⟨hcr.out noY w' h' rfl,hcg1.out noY w' h' rfl,hcg2.out noY w' h' rfl⟩
          have i4:∀W,(Instr.indexAt 45 (.slice ao bb bb) (.int .i64 (k:Int))).run Tryz.prog W= .ok (.pointer (some ⟨gr,o0,none⟩)) W:=by rw[<-hgr];exact a0k a1c ao bb bb .i64 k hao (by omega)
          have i8:∀W,(Instr.indexAt 45 (.slice zo bb zc) (.int .i64 (i:Int))).run Tryz.prog W= .ok (.pointer (some ⟨g1,o1,none⟩)) W:=by rw[<-hg1];exact a0k a1c zo bb zc .i64 i hhz (by omega)
          have i12:∀W,(Instr.indexAt 45 (.slice zo bb zc) (.int .i64 (k:Int))).run Tryz.prog W= .ok (.pointer (some ⟨g2,o2,none⟩)) W:=by rw[<-hg2];exact a0k a1c zo bb zc .i64 k hhz (by omega)
          have hXx:HX (un (un Y mo) ao) wr:=hX5.ext hE5;have hXd:HX (un (un Y mo) ao) wr.drew:=hXx.ext hEd;have hv1d:=mkx QV.mono hv1q hEd;have hv2d:=mkx QV.mono hv2q hEd;have hvrd:=mkx QV.mono hvrq hEd;have hqp':=hid hqp;clear hcr hcg1 hcg2 hg1 hg2 hgr hqr hv1 hv2 hzi hzk2 hxf hget hset0 hpd hqz1 hqz2 hv1q hv2q hvrq hqp;go_wp2_with fail
          refine a0P 17 (fun w'=>(w'.cell? ⟨gr,o0,none⟩=some (.bool sr)/\w'.cell? ⟨gr,o0+1,none⟩=some (.slice ar nr cr2)/\w'.cell? ⟨gr,o0+2,none⟩=some (.slice dr kr er))/\(w'.cell? ⟨g1,o1,none⟩=some (.bool s1)/\w'.cell? ⟨g1,o1+1,none⟩=some (.slice p1 n1 q1)/\w'.cell? ⟨g1,o1+2,none⟩=some (.slice d1 m1 e1))/\w'.cell? ⟨g2,o2,none⟩=some (.bool s2)/\w'.cell? ⟨g2,o2+1,none⟩=some (.slice p2 n2 q2)/\w'.cell? ⟨g2,o2+2,none⟩=some (.slice d2 m2 e2)) (by kernel_rfl) (by kernel_rfl) (hS.out _ (ExtX.refl _)) (fun hHeld hOnce=>?_);refine a0a hOnce (i:=0) (oi:=⟨_,_,_,_,_,_⟩) (v:=?_) rfl (by kernel_rfl) (fun _ _ _ h=>h) (by assumption) (by rfl) (fun w hSw=>?_) ?_
          rotate_left
          ·(try dsimp only at hSw)
           go_simp
           all_goals with_reducible rfl
          (try simp only[Act.put,List.setIfInBounds_toArray,List.set_cons_zero,List.set_cons_succ])
          refine a0a hOnce (i:=1) (oi:=⟨_,_,_,_,_,_⟩) (v:=?_) rfl (by kernel_rfl) (fun _ _ _ h=>h) (by assumption) (by rfl) (fun w hSw=>?_) ?_
          rotate_left
          ·(try dsimp only at hSw)
           go_simp
           all_goals with_reducible rfl
          (try simp only[Act.put,List.setIfInBounds_toArray,List.set_cons_zero,List.set_cons_succ])
          refine a0a hOnce (i:=2) (oi:=⟨_,_,_,_,_,_⟩) (v:=?_) rfl (by kernel_rfl) (fun _ _ _ h=>h) (by assumption) (by rfl) (fun w hSw=>?_) ?_
          rotate_left
          ·(try dsimp only at hSw)
           go_simp
           all_goals with_reducible rfl
          (try simp only[Act.put,List.setIfInBounds_toArray,List.set_cons_zero,List.set_cons_succ])
          refine a0a hOnce (i:=3) (oi:=⟨_,_,_,_,_,_⟩) (v:=?_) rfl (by kernel_rfl) (fun _ _ _ h=>h) (by assumption) (by rfl) (fun w hSw=>?_) ?_
          rotate_left
          ·(try dsimp only at hSw)
           go_simp
           all_goals with_reducible rfl
          (try simp only[Act.put,List.setIfInBounds_toArray,List.set_cons_zero,List.set_cons_succ])
          refine a0a hOnce (i:=4) (oi:=⟨_,_,_,_,_,_⟩) (v:=?_) rfl (by kernel_rfl) (fun _ _ _ h=>h) (by assumption) (by rfl) (fun w hSw=>?_) ?_
          rotate_left
          ·(try dsimp only at hSw)
           go_simp
           all_goals with_reducible rfl
          (try simp only[Act.put,List.setIfInBounds_toArray,List.set_cons_zero,List.set_cons_succ])
          refine a0a hOnce (i:=5) (oi:=⟨_,_,_,_,_,_⟩) (v:=?_) rfl (by kernel_rfl) (fun _ _ _ h=>h) (by assumption) (by rfl) (fun w hSw=>?_) ?_
          rotate_left
          ·(try dsimp only at hSw)
           go_simp
           all_goals with_reducible rfl
          (try simp only[Act.put,List.setIfInBounds_toArray,List.set_cons_zero,List.set_cons_succ])
          refine a0a hOnce (i:=6) (oi:=⟨_,_,_,_,_,_⟩) (v:=?_) rfl (by kernel_rfl) (fun _ _ _ h=>h) (by assumption) (by rfl) (fun w hSw=>?_) ?_
          rotate_left
          ·(try dsimp only at hSw)
           go_simp
           all_goals with_reducible rfl
          (try simp only[Act.put,List.setIfInBounds_toArray,List.set_cons_zero,List.set_cons_succ])
          refine a0a hOnce (i:=7) (oi:=⟨_,_,_,_,_,_⟩) (v:=?_) rfl (by kernel_rfl) (fun _ _ _ h=>h) (by assumption) (by rfl) (fun w hSw=>?_) ?_
          rotate_left
          ·(try dsimp only at hSw)
           go_simp
           all_goals with_reducible rfl
          (try simp only[Act.put,List.setIfInBounds_toArray,List.set_cons_zero,List.set_cons_succ])
          refine a0a hOnce (i:=8) (oi:=⟨_,_,_,_,_,_⟩) (v:=?_) rfl (by kernel_rfl) (fun _ _ _ h=>h) (by assumption) (by rfl) (fun w hSw=>?_) ?_
          rotate_left
          ·(try dsimp only at hSw)
           go_simp
           all_goals with_reducible rfl
          (try simp only[Act.put,List.setIfInBounds_toArray,List.set_cons_zero,List.set_cons_succ])
          refine a0a hOnce (i:=9) (oi:=⟨_,_,_,_,_,_⟩) (v:=?_) rfl (by kernel_rfl) (fun _ _ _ h=>h) (by assumption) (by rfl) (fun w hSw=>?_) ?_
          rotate_left
          ·(try dsimp only at hSw)
           go_simp
           all_goals with_reducible rfl
          (try simp only[Act.put,List.setIfInBounds_toArray,List.set_cons_zero,List.set_cons_succ])
          refine a0a hOnce (i:=10) (oi:=⟨_,_,_,_,_,_⟩) (v:=?_) rfl (by kernel_rfl) (fun _ _ _ h=>h) (by assumption) (by rfl) (fun w hSw=>?_) ?_
          rotate_left
          ·(try dsimp only at hSw)
           go_simp
           all_goals with_reducible rfl
          (try simp only[Act.put,List.setIfInBounds_toArray,List.set_cons_zero,List.set_cons_succ])
          refine a0a hOnce (i:=11) (oi:=⟨_,_,_,_,_,_⟩) (v:=?_) rfl (by kernel_rfl) (fun _ _ _ h=>h) (by assumption) (by rfl) (fun w hSw=>?_) ?_
          rotate_left
          ·(try dsimp only at hSw)
           go_simp
           all_goals with_reducible rfl
          (try simp only[Act.put,List.setIfInBounds_toArray,List.set_cons_zero,List.set_cons_succ])
          refine a0a hOnce (i:=12) (oi:=⟨_,_,_,_,_,_⟩) (v:=?_) rfl (by kernel_rfl) (fun _ _ _ h=>h) (by assumption) (by rfl) (fun w hSw=>?_) ?_
          rotate_left
          ·(try dsimp only at hSw)
           go_simp
           all_goals with_reducible rfl
          (try simp only[Act.put,List.setIfInBounds_toArray,List.set_cons_zero,List.set_cons_succ])
          refine a0a hOnce (i:=13) (oi:=⟨_,_,_,_,_,_⟩) (v:=?_) rfl (by kernel_rfl) (fun _ _ _ h=>h) (by assumption) (by rfl) (fun w hSw=>?_) ?_
          rotate_left
          ·(try dsimp only at hSw)
           go_simp
           all_goals with_reducible rfl
          (try simp only[Act.put,List.setIfInBounds_toArray,List.set_cons_zero,List.set_cons_succ])
          refine a0v (i:=14) (o:=⟨_,_,_,_,_,_⟩) (by kernel_rfl) rfl (fun K hK=>?_);go_simp
          (go_at_call 77;(with_reducible refine(b2O (un (un Y mo) ao) wr.drew _ _ _ _ hXd hv1d hv2d).mono ?_);rintro ee w6 ⟨t1,u6,rfl,hu6⟩;obtain⟨s6,a6,n6,c6,d6,m6,e6,rfl⟩:=hu6.shape)
          refine hK.out _ _ (hS.out _ t1) (fun hHeld=>?_);clear hK K
          (try simp only[Act.put,List.setIfInBounds_toArray,List.set_cons_zero,List.set_cons_succ])
          refine a0v (i:=15) (o:=⟨_,_,_,_,_,_⟩) (by kernel_rfl) rfl (fun K hK=>?_);go_simp
          (go_at_call 98;(with_reducible refine(b2N (un (un Y mo) ao) w6 _ _ _ _ (hXd.ext t1) (mkx QV.mono hvrd t1) (hu6.qv hqp'.out)).mono ?_);rintro ee w7 ⟨t2,u7,rfl,hu7⟩;obtain⟨s7,a7,n7,c7,d7,m7,e7,rfl⟩:=hu7.shape)
          refine hK.out _ _ (hS.out _ (t1.trans t2)) (fun hHeld=>?_);clear hK K
          (try simp only[Act.put,List.setIfInBounds_toArray,List.set_cons_zero,List.set_cons_succ])
          have t12:=hEd.trans (t1.trans t2);have hR7:=hR.ext0 QC.elem t12;obtain⟨_,v0,v1,v2,_,⟨g0,f0⟩,⟨gg1,f1⟩,⟨gg2,f2⟩,_⟩:=hR7.cell3 k hkr hgr'.out;have hsw:=hR7.set3 (P:=Tryz.prog) a7z QC.elem k hkr hgr'.out (v0:= .bool s7) (v1:= .slice a7 n7 c7) (v2:= .slice d7 m7 e7) (x:=xf+zi*zk) hu7;refine a0a hOnce (i:=16) (oi:=⟨_,_,_,_,_,_⟩) (v:=?_) rfl (by kernel_rfl) (fun _ _ _ h=>h) (by assumption) (by rfl) (fun w hSw=>?_) ?_
          rotate_left
          ·(try dsimp only at hSw)
           go_simp
           all_goals with_reducible rfl
          (try simp only[Act.put,List.setIfInBounds_toArray,List.set_cons_zero,List.set_cons_succ])
          refine a0O (i:=17) (o:=⟨_,_,_,_,_,_⟩) (by kernel_rfl) rfl (by decide) (by kernel_rfl) (fun K hK=>?_);go_simp
          refine hK.out _ _ ?_;clear hK K;obtain⟨x1,x2⟩:=hsw;rw[hset.out]at x1;have hE9:=(hE5.then_ t12 (fun _ _ _=>rfl)).trans x2;clear i4 i8 i12 g0 gg1 gg2 f0 f1 f2;go_wp2_with fail
          go_roundw
          case rel=>exact⟨k+1,by go_num,by omega,x1,hE9⟩
          case measure=>simp[intOf];omega
         ·have hR2:=hR
          rw[show k=bb by omega,hsp.out]at hR2;have hE9:Ext wi wr:=(hEx.trans hE45).then_ hE5 (fun q hq _=>by
           cases hh:ob ao q
           ·rfl
           ·have:=(hR.block hh).1;omega)
          go_wp2_with fail
          go_roundw
          case rel=>exact⟨t+1,by go_num,by omega,hR2,hE9⟩
          case measure=>simp[intOf];omega
       ·have hiM:i<M.length:=by rw[hMl.out];exact hli
        have hrow:=hid (hMrow.out i hiM);rw[show t=R.length by rw[hRl.out];omega,<-hrow.out]at hR;have htk:=hid (a1V M i hiM);have hln:=hid (a2s (l:=M) (i:=i) (by omega));have hOx:=hO.ext0 RC.elem hEx;have hrl:M[i].length=bb:=by rw[hrow.out];simp
        have hRC:RC (mk (un Y mo) wr) (.slice ao bb bb) M[i]:=⟨ao,bb,by rw[hrl],by rw[hrl];exact Nat.le_refl _,hR.sl QC.elem⟩;obtain⟨row,hrw⟩:∃row,M[i]=row:=⟨_,rfl⟩;rw[hrw]at htk hRC;have k2:wr.cell? ⟨g,2,none⟩=some (.slice mo i mc):=ygx.cell 2 rfl;have hbw2:wc.heap.size<=wr.heap.size:=by have:=hEx.size;omega
        have hXYx:=hXY.ext hEx;clear hR hrw hrl hrow hO;go_wp2_with (first|(at_builtin;refine a0H (l:=M.take i) a0A rfl RC.elem hbw2 hXYx i hln.out rfl rfl hOx (.slice ao bb bb) row rfl hRC (by omega) (by omega) ?_;intro mo2 mc2 w8 hO8 hE8 hor;have bg8:=ygx.ext hE8 hgmo)|((with_reducible show wpList _ _ _ (⟨_, .store 25 _ _,_,_,_,_⟩::_) _ _);refine a7G (v:= .slice mo2 (i+1) mc2) b5s rfl rfl rfl rfl bg8 (by simp) ?_;intro w9 z1 z2))
        have z1':Bx w9 g #[.slice so rl sc, .slice co bb bb, .slice mo2 (i+1) mc2, .bool false, .slice none 0 0, .slice none 0 0] 105:=by simpa using z1
        have hO9:=hO8.ext RC.elem z2 (fun q _ hq=>(by
         have:g=q:=by simpa[ob]using hq
         rw[<-this];exact hYg)) (fun _ _ h=>h)
        rw[htk.out]at hO9;have hE9:=((hEi.then_ hEx (fun _ _ _=>rfl)).then_ hE8 (fun q hq _=>by
         cases hh:ob mo q
         ·rfl
         ·have:=(hmoW.out q hh).1;omega)).trans z2
        clear k2;go_roundw
        case rel=>exact⟨i+1,mo2,mc2,by go_num,by omega,z1',hO9,hE9⟩
        case measure=>simp[intOf];omega
     ·have hXY:HX Y wr:=hYX.ext hE
      have hib:i=bb:=by omega
      rw[hib,List.take_of_length_le (by rw[hMl.out];exact Nat.le_refl _)]at hO;rw[hib]at yg;have hcap:=hO.lenCap;have hmc:MC (mk Y wr) (.slice mo bb mc) M:=⟨mo,mc,by rw[hMl.out],hcap,hO.sl RC.elem⟩;have hml:=a3a p R bb R.length;rw[hM'.out]at hml;obtain⟨hMf,hMc⟩:=sqf hml (by omega);have hZ3:B+(2+R.length*(B+1))+1<=3579:=by
       rw[hRl.out];have:=Nat.mul_le_mul (show rows.length<=6 by omega) (show B+1<=511 by omega);omega
      have hHB:HB 60000 M:=by
       rw[<-hM'.out];exact fun i j=>Nat.le_trans (a7a (fun r=>a3z (r:=r) hpB' hcenB.out) (by omega) i j) (by
        have:=Nat.mul_le_mul (show R.length<=6 by rw[hRl.out];omega) (show 2*(B+(2+R.length*(B+1))+1)+1<=7159 by omega);omega)
      have hdet:=b5f Y wr (.slice mo bb mc) M bb hXY (hmc.mv (b2R (fun i j=>Nat.le_trans (hHB i j) (by decide)))) hMf hml.1 hMc (a4z hml g4 hHB).2;have hsd:b4c M bb=b5g p (rows.map Int.toNat) (a0L p):=by
       rw[b1m (by omega) hml,<-hM'.out,hRe.out,hdd.out];rfl
      rw[hsd]at hdet;have k2:wr.cell? ⟨g,2,none⟩=some (.slice mo bb mc):=yg.cell 2 rfl;clear hmc hMf hMc hHB hml hsd hib hO hcap;go_wp2_with fail
      refine hdet.mono ?_;rintro e w5 ⟨hE5,ud,rfl,hud⟩;obtain⟨s5,a5,n5,c5,d5,m5,e5,rfl⟩:=hud.shape;have yg5:=yg.ext0 hE5;have hE05:=hE0r.trans hE5;have k3:w5.cell? ⟨g,3,none⟩=some (.bool false):=yg5.cell 3 rfl;have k4:w5.cell? ⟨g,3+1,none⟩=some (.slice none 0 0):=yg5.cell 4 rfl;have k5:w5.cell? ⟨g,3+2,none⟩=some (.slice none 0 0):=yg5.cell 5 rfl;have f3:=yg5.frozen 3;have f4:w5.frozen? ⟨g,3+1,none⟩=false:=yg5.frozen 4;have f5:w5.frozen? ⟨g,3+2,none⟩=false:=yg5.frozen 5;clear hdet k2;go_upto_region 33 with fail
      obtain⟨x1,x2⟩:=yg5.set345 (.bool s5) (.slice a5 n5 c5) (.slice d5 m5 e5);obtain⟨w6,hw6⟩:∃w6,(((w5.setCell ⟨g,3,none⟩ (.bool s5)).setCell ⟨g,4,none⟩ (.slice a5 n5 c5)).setCell ⟨g,5,none⟩ (.slice d5 m5 e5))=w6:=⟨_,rfl⟩;rw[hw6]at x1 x2 |-;have hbg:b≠g:=by have:=hE0.size;have:=b0.lt;omega
      have b6:=(b0.ext0 (hE0.trans hE05)).ext x2 (a0c hbg);have hE06:Ext W0 w6:=ExtX.box hE05 x2 hg;clear k3 k4 k5 f3 f4 f5 hw6;go_wp2_with (first|((with_reducible show wpList _ _ _ (⟨_, .load 105 _,_,_,_,_⟩::_) _ _);refine a6p a2S rfl x1 rfl ?_)|((with_reducible show wpList _ _ _ (⟨_, .store 105 _ _,_,_,_,_⟩::_) _ _);refine a0d a2S rfl rfl b6 rfl rfl (b1Z _ _ _ _ _ _ _ _ _ _ _ _ _ _ _ _) ?_;intro w7 r1 r2))
      have hgo:∀q,ob (some ⟨g,0,none⟩) q=true->Y q=true:=fun q hq=>by
       have:g=q:=by simpa[ob]using hq
       rw[<-this];exact hYg
      have hbo:∀q,ob (some ⟨b,0,none⟩) q=true->Y q=true:=fun q hq=>by
       have:b=q:=by simpa[ob]using hq
       rw[<-this];exact hYZ.out b hZb
      have hud7:=QC.mono _ _ _ _ (a1N (X:=X) fun q _ hq=>hYZ.out q (hZX.out q hq)) (QC.mono _ _ _ _ (a0w (X:=Y) r2 hbo) (QC.mono _ _ _ _ (a0w (X:=Y) x2 hgo) hud));exact bodyPost_ret (a0C rfl rfl a2S r1 rfl) rfl (hfin.out _ _ (ExtX.box (hEw.out w6 hE06) r2 hbw) _ rfl ⟨_,_,_,_,_,_,_,_,_,_,_,_,_,_,_,_,rfl,hud7⟩)
theorem a8I (X:Nat->Bool) (m1 m2:Int) (n k:Nat) (w:World) (h1:m1=(n:Int)) (h2:m2=(k:Int)) (hk:k<=n) (hn:n<=64) (hX:∀k,X k=true->k<w.heap.size):
  Calls Tryz.prog 194 #[.int .i64 m1, .int .i64 m2] w (a2v X w (ch n k)):=by
 subst h1;subst h2;exact a5T X n k w hk hn hX
set_option maxRecDepth 100000 in
set_option maxHeartbeats 1600000 in
theorem b0h (X:Nat->Bool) (lo:Option Addr) (L:List a2X) (cl:Nat) (n h:Int) (w:World) (hs:Sl a0G 2 (mk X w) lo L) (hcl:L.length<=cl) (hL:L.length<=1099511627776) (hLl:Hid (∀x∈L,x.1.length<=1099511627776/\x.2.length<=1099511627776)) (hX:∀k,X k=true->k<w.heap.size):
  Calls Tryz.prog 134 #[.int .i64 n, .int .i64 h, .slice lo L.length cl] w (a8G w (a1l n h L)):=by
 have hhl:=hs.hd;have hdef:Hid (a1l n h L=(decide (1<=n)&&decide (n<=64)&&decide (0<=h)&&decide (h<=n)&&decide (L.length<=4096)&&(List.range L.length).all (a2z n h L)&&decide (a6l n.toNat h.toNat L=ch n.toNat h.toNat))):=hid rfl;by_cases hn1:n<1
 ·have hv:Hid (a1l n h L=false):=hid (by rw[hdef.out,decide_eq_false (by omega)];rfl)
  go_enter Tryz.func134,Tryz.ntmps134
  go_wp2_with fail
  go_ret
  exact⟨ExtX.refl _,a0j hv.out.symm⟩
 by_cases hn2:64<n
 ·have hv:Hid (a1l n h L=false):=hid (by rw[hdef.out,decide_eq_true (by omega),decide_eq_false (by omega)];rfl)
  go_enter Tryz.func134,Tryz.ntmps134
  go_wp2_with fail
  go_ret
  exact⟨ExtX.refl _,a0j hv.out.symm⟩
 by_cases hh1:h<0
 ·have hv:Hid (a1l n h L=false):=hid (by rw[hdef.out,decide_eq_false (show¬0<=h by omega)];simp)
  go_enter Tryz.func134,Tryz.ntmps134
  go_wp2_with fail
  go_ret
  exact⟨ExtX.refl _,a0j hv.out.symm⟩
 by_cases hh2:n<h
 ·have hv:Hid (a1l n h L=false):=hid (by rw[hdef.out,decide_eq_false (show¬h<=n by omega)];simp)
  go_enter Tryz.func134,Tryz.ntmps134
  go_wp2_with fail
  go_ret
  exact⟨ExtX.refl _,a0j hv.out.symm⟩
 by_cases hl4:4096<L.length
 ·have hv:Hid (a1l n h L=false):=hid (by rw[hdef.out,decide_eq_false (show¬L.length<=4096 by omega)];simp)
  go_enter Tryz.func134,Tryz.ntmps134
  go_wp2_with fail
  go_ret
  exact⟨ExtX.refl _,a0j hv.out.symm⟩
 obtain⟨N,rfl⟩:=Int.eq_ofNat_of_zero_le (show 0<=n by omega);obtain⟨H,rfl⟩:=Int.eq_ofNat_of_zero_le (show 0<=h by omega);have hN:N<=64:=by omega
 have hHN:H<=N:=by omega
 have hdef2:Hid (a1l N H L=((List.range L.length).all (a2z N H L)&&decide (a6l N H L=ch N H))):=hid (by
  rw[hdef.out,decide_eq_true (by omega),decide_eq_true (by omega),decide_eq_true (by omega),decide_eq_true (by omega),decide_eq_true (by omega)];rfl)
 clear hdef;go_enter Tryz.func134,Tryz.ntmps134
 go_wp2_with fail
 go_loopw [7,34] (fun s8 c wr=>∃(k:Nat) (so:Option Addr) (cs:Nat) (sl:List Nat),c= .int .i64 k/\s8= .slice so sl.length cs/\k<=L.length/\
   sl.length<=cs/\a0E sl (a6l N H (L.take k))/\Sl (a0b .u32) 1 (mk X wr) so sl/\Hid (∀j,j<k->a2z N H L j=true)/\Ext w wr) (fun _ c _=>L.length - (intOf c).toNat)
 case atStart=>exact⟨0,none,0,[],rfl,rfl,Nat.zero_le _,by simp,a0E.nil,Sl.nil _ _ _ _,fun j hj=>by omega,ExtX.refl _⟩
 case round=>
  obtain⟨k,so,cs,sl,rfl,rfl,hk,hsc,hcan,hss,hgood,hE⟩:=hrel;have hXr:∀k,X k=true->k<wr.heap.size:=fun k hk=>Nat.lt_of_lt_of_le (hX k hk) hE.size;by_cases hlt:k<L.length
  ·have hsL:=hs.mono a0G.mono (a0h hE)
   have hlen:=hLl.out L[k] (List.getElem_mem hlt);obtain⟨I,O,hx⟩:∃I O,L[k]=(I,O):=⟨_,_,rfl⟩;rw[hx]at hlen;obtain⟨hlI,hlO⟩:=hlen;simp only at hlI hlO;have hx':=hid hx;clear hx;have hlf:Hid (a1y N H (I,O)=((decide ((I.length:Int)<=H)&&a2N I N)&&(decide ((O.length:Int)<=N - H)&&a2N O N)&& !a2O I O)):=hid (by
    unfold a1y;cases a2N I N<;>cases a2N O N<;>cases decide ((I.length:Int)<=H)<;>cases decide ((O.length:Int)<=N - H)<;>rfl)
   have hbadv:Hid (a1y N H (I,O)=false->a1l N H L=false):=hid (fun h=>by rw[hdef2.out,a1h k hlt (a6m hlt hx'.out h)];rfl);cases hpI:(decide ((I.length:Int)<=H)&&a2N I N)
   ·have hv:=hid (hbadv.out (by rw[hlf.out,hpI];rfl))
    have hpI':=hid hpI;clear hpI;go_wp2_with (first|(first|(with_reducible refine a0o a0S (by omega) (by assumption) ?_)|(with_reducible refine a1E a1t (by omega) (by assumption) ?_)|(with_reducible refine a0o a3h (by omega) (by assumption) ?_))|((with_reducible show wpList _ _ _ (⟨_, .load _ _,_,_,_,_⟩::_) _ _);refine a0M a3D k hsL hlt rfl (by omega) a0G.agg ?_;rintro u hu;rw[hx'.out]at hu;obtain⟨a1,c1,a2,c2,rfl,hc1,hc2,hs2,hs3⟩:=hu))
    have hEn:Ext wr (wr.alloc (.cells #[.slice a1 I.length c1, .slice a2 O.length c2] 103)):=(ExtX.refl wr).alloc _;generalize wr.alloc (.cells #[.slice a1 I.length c1, .slice a2 O.length c2] 103)=W at hEn |-;refine(a2D X a1 I c1 N H W (hs2.mono (a0i.mono _) (a0h hEn)) hlI).mono ?_;rintro e w' ⟨rfl,rfl⟩;rw[hpI'.out];go_wp2_with fail
    go_ret
    exact⟨hE.trans hEn,a0j hv.out.symm⟩
   have hpI':=hid hpI;cases hpO:(decide ((O.length:Int)<=N - H)&&a2N O N)
   ·have hv:=hid (hbadv.out (by rw[hlf.out,hpI,hpO];rfl))
    have hpO':=hid hpO;clear hpI hpO;go_wp2_with (first|(first|(with_reducible refine a0o a0S (by omega) (by assumption) ?_)|(with_reducible refine a1E a1t (by omega) (by assumption) ?_)|(with_reducible refine a0o a3h (by omega) (by assumption) ?_))|((with_reducible show wpList _ _ _ (⟨_, .load _ _,_,_,_,_⟩::_) _ _);refine a0M a3D k hsL hlt rfl (by omega) a0G.agg ?_;rintro u hu;rw[hx'.out]at hu;obtain⟨a1,c1,a2,c2,rfl,hc1,hc2,hs2,hs3⟩:=hu))
    have hEn:Ext wr (wr.alloc (.cells #[.slice a1 I.length c1, .slice a2 O.length c2] 103)):=(ExtX.refl wr).alloc _;have k2:(wr.alloc (.cells #[.slice a1 I.length c1, .slice a2 O.length c2] 103)).cell? ⟨wr.heap.size,1,none⟩=some (.slice a2 O.length c2):=a1u 1 rfl;generalize wr.alloc (.cells #[.slice a1 I.length c1, .slice a2 O.length c2] 103)=W at hEn k2 |-;refine(a2D X a1 I c1 N H W (hs2.mono (a0i.mono _) (a0h hEn)) hlI).mono ?_;rintro e w' ⟨rfl,rfl⟩;rw[hpI'.out];go_wp2_with fail
    refine(a2D X a2 O c2 N (N - H) W (hs3.mono (a0i.mono _) (a0h hEn)) hlO).mono ?_;rintro e w' ⟨rfl,rfl⟩;rw[hpO'.out];go_wp2_with fail
    go_ret
    exact⟨hE.trans hEn,a0j hv.out.symm⟩
   have hpO':=hid hpO;rcases Bool.eq_false_or_eq_true (a2O I O)with hm|hm
   ·have hv:=hid (hbadv.out (by rw[hlf.out,hpI,hpO,hm];rfl))
    have hm':=hid hm;clear hpI hpO hm;go_wp2_with (first|(first|(with_reducible refine a0o a0S (by omega) (by assumption) ?_)|(with_reducible refine a1E a1t (by omega) (by assumption) ?_)|(with_reducible refine a0o a3h (by omega) (by assumption) ?_))|((with_reducible show wpList _ _ _ (⟨_, .load _ _,_,_,_,_⟩::_) _ _);refine a0M a3D k hsL hlt rfl (by omega) a0G.agg ?_;rintro u hu;rw[hx'.out]at hu;obtain⟨a1,c1,a2,c2,rfl,hc1,hc2,hs2,hs3⟩:=hu))
    have hEn:Ext wr (wr.alloc (.cells #[.slice a1 I.length c1, .slice a2 O.length c2] 103)):=(ExtX.refl wr).alloc _;have k1:(wr.alloc (.cells #[.slice a1 I.length c1, .slice a2 O.length c2] 103)).cell? ⟨wr.heap.size,0,none⟩=some (.slice a1 I.length c1):=a1u 0 rfl;have k2:(wr.alloc (.cells #[.slice a1 I.length c1, .slice a2 O.length c2] 103)).cell? ⟨wr.heap.size,1,none⟩=some (.slice a2 O.length c2):=a1u 1 rfl;generalize wr.alloc (.cells #[.slice a1 I.length c1, .slice a2 O.length c2] 103)=W at hEn k1 k2 |-;refine(a2D X a1 I c1 N H W (hs2.mono (a0i.mono _) (a0h hEn)) hlI).mono ?_;rintro e w' ⟨rfl,rfl⟩;rw[hpI'.out];go_wp2_with fail
    refine(a2D X a2 O c2 N (N - H) W (hs3.mono (a0i.mono _) (a0h hEn)) hlO).mono ?_;rintro e w' ⟨rfl,rfl⟩;rw[hpO'.out];go_wp2_with fail
    refine(a2c X a1 a2 I O c1 c2 W (hs2.mono (a0i.mono _) (a0h hEn)) (hs3.mono (a0i.mono _) (a0h hEn)) hlI hlO).mono ?_;rintro e w' ⟨rfl,rfl⟩;rw[hm'.out];go_wp2_with fail
    go_ret
    exact⟨hE.trans hEn,a0j hv.out.symm⟩
   have hokl':Hid (a1y N H (I,O)=true):=hid (by rw[hlf.out,hpI,hpO,hm];rfl);have hm':=hid hm;clear hpI hpO hm;go_wp2_with (first|(first|(with_reducible refine a0o a0S (by omega) (by assumption) ?_)|(with_reducible refine a1E a1t (by omega) (by assumption) ?_)|(with_reducible refine a0o a3h (by omega) (by assumption) ?_))|((with_reducible show wpList _ _ _ (⟨_, .load _ _,_,_,_,_⟩::_) _ _);refine a0M a3D k hsL hlt rfl (by omega) a0G.agg ?_;rintro u hu;rw[hx'.out]at hu;obtain⟨a1,c1,a2,c2,rfl,hc1,hc2,hs2,hs3⟩:=hu))
   have hEn:Ext wr (wr.alloc (.cells #[.slice a1 I.length c1, .slice a2 O.length c2] 103)):=(ExtX.refl wr).alloc _;have k1:(wr.alloc (.cells #[.slice a1 I.length c1, .slice a2 O.length c2] 103)).cell? ⟨wr.heap.size,0,none⟩=some (.slice a1 I.length c1):=a1u 0 rfl;have k2:(wr.alloc (.cells #[.slice a1 I.length c1, .slice a2 O.length c2] 103)).cell? ⟨wr.heap.size,1,none⟩=some (.slice a2 O.length c2):=a1u 1 rfl;generalize wr.alloc (.cells #[.slice a1 I.length c1, .slice a2 O.length c2] 103)=W at hEn k1 k2 |-;refine(a2D X a1 I c1 N H W (hs2.mono (a0i.mono _) (a0h hEn)) hlI).mono ?_;rintro e w' ⟨rfl,rfl⟩;rw[hpI'.out];go_wp2_with fail
   refine(a2D X a2 O c2 N (N - H) W (hs3.mono (a0i.mono _) (a0h hEn)) hlO).mono ?_;rintro e w' ⟨rfl,rfl⟩;rw[hpO'.out];go_wp2_with fail
   refine(a2c X a1 a2 I O c1 c2 W (hs2.mono (a0i.mono _) (a0h hEn)) (hs3.mono (a0i.mono _) (a0h hEn)) hlI hlO).mono ?_;rintro e w' ⟨rfl,rfl⟩;rw[hm'.out];have hEW:Ext w W:=hE.trans hEn;have hsW:=hss.mono (a0b.mono _) (a0h hEn);have hs2W:=hs2.mono (a0i.mono _) (a0h hEn);have hs3W:=hs3.mono (a0i.mono _) (a0h hEn);clear hE hEn hss hs2 hs3 hsL;go_wp2_with fail
   have hhk:Hd lo k:=fun h=>hhl (by omega);obtain⟨wo,rfl⟩:∃wo:World,wo=wr:=⟨_,rfl⟩;go_loopw [66] (fun c wr'=>∃j:Nat,c= .int .i64 j/\j<=k/\Hid (∀q,q<j->∀hq:q<L.length,a3r (I,O) L[q]=true)/\Ext W wr') (fun c _=>k - (intOf c).toNat)
   case atStart=>exact⟨0,rfl,Nat.zero_le _,fun q hq=>by omega,ExtX.refl _⟩
   case round=>
    obtain⟨j,rfl,hj,hap,hEj⟩:=hrel;have hXj:∀k,X k=true->k<wr.heap.size:=fun k hk=>Nat.lt_of_lt_of_le (hXr k hk) (by have h1:=hEj.size;have h2:=a3W k1;simp at h2;omega);have k1j:=hEj.cell k1;have k2j:=hEj.cell k2;by_cases hjk:j<k
    ·have hjL:j<L.length:=by omega
     have hsL:=hs.mono a0G.mono (a0h (hEW.trans hEj));have hlen:=hLl.out L[j] (List.getElem_mem hjL);obtain⟨I2,O2,hy⟩:∃I2 O2,L[j]=(I2,O2):=⟨_,_,rfl⟩;rw[hy]at hlen;obtain⟨hlI2,hlO2⟩:=hlen;simp only at hlI2 hlO2;have hy':=hid hy;clear hy;have hap2:Hid (a3r (I,O) (I2,O2)=(a2O I O2||a2O O I2)):=hid rfl;cases hm1:a2O I O2
     ·cases hm2:a2O O I2
      ·have hv:Hid (a1l N H L=false):=hid (by rw[hdef2.out,a1h k hlt (a6n hlt hx'.out hjk (by rw[hy'.out,hap2.out,hm1,hm2];rfl))];rfl)
       have hm1':=hid hm1;have hm2':=hid hm2;clear hm1 hm2;go_wp2_with (first|(first|(with_reducible refine a0o a0S (by omega) (by assumption) ?_)|(with_reducible refine a1E a1t (by omega) (by assumption) ?_)|(with_reducible refine a0o a3h (by omega) (by assumption) ?_))|((with_reducible show wpList _ _ _ (⟨_, .load _ _,_,_,_,_⟩::_) _ _);refine a0M a3D j hsL hjL rfl (by omega) a0G.agg ?_;rintro u hu;rw[hy'.out]at hu;obtain⟨b1,d1,b2,d2,rfl,hd1,hd2,hs4,hs5⟩:=hu;have hEo:Ext wr (wr.alloc (.cells #[.slice b1 I2.length d1, .slice b2 O2.length d2] 103)):=(ExtX.refl wr).alloc _;have k1o:=hEo.cell k1j;have k2o:=hEo.cell k2j))
       have l1:(wr.alloc (.cells #[.slice b1 I2.length d1, .slice b2 O2.length d2] 103)).cell? ⟨wr.heap.size,0,none⟩=some (.slice b1 I2.length d1):=a1u 0 rfl;generalize wr.alloc (.cells #[.slice b1 I2.length d1, .slice b2 O2.length d2] 103)=V at hEo k1o k2o l1 |-;refine(a2c X a1 b2 I O2 c1 d2 V (hs2W.mono (a0i.mono _) (a0h (hEj.trans hEo))) (hs5.mono (a0i.mono _) (a0h hEo)) hlI hlO2).mono ?_;rintro e w' ⟨rfl,rfl⟩;rw[hm1'.out];go_wp2_with fail
       refine(a2c X a2 b1 O I2 c2 d1 V (hs3W.mono (a0i.mono _) (a0h (hEj.trans hEo))) (hs4.mono (a0i.mono _) (a0h hEo)) hlO hlI2).mono ?_;rintro e w' ⟨rfl,rfl⟩;rw[hm2'.out];go_wp2_with fail
       go_ret
       exact⟨(hEW.trans hEj).trans hEo,a0j hv.out.symm⟩
      ·have hn:=hid (a0Y hap.out (fun hq=>show a3r (I,O) L[j]=true by rw[hy'.out,hap2.out,hm1,hm2];rfl))
       have hm1':=hid hm1;have hm2':=hid hm2;clear hm1 hm2;go_wp2_with (first|(first|(with_reducible refine a0o a0S (by omega) (by assumption) ?_)|(with_reducible refine a1E a1t (by omega) (by assumption) ?_)|(with_reducible refine a0o a3h (by omega) (by assumption) ?_))|((with_reducible show wpList _ _ _ (⟨_, .load _ _,_,_,_,_⟩::_) _ _);refine a0M a3D j hsL hjL rfl (by omega) a0G.agg ?_;rintro u hu;rw[hy'.out]at hu;obtain⟨b1,d1,b2,d2,rfl,hd1,hd2,hs4,hs5⟩:=hu;have hEo:Ext wr (wr.alloc (.cells #[.slice b1 I2.length d1, .slice b2 O2.length d2] 103)):=(ExtX.refl wr).alloc _;have k1o:=hEo.cell k1j;have k2o:=hEo.cell k2j))
       have l1:(wr.alloc (.cells #[.slice b1 I2.length d1, .slice b2 O2.length d2] 103)).cell? ⟨wr.heap.size,0,none⟩=some (.slice b1 I2.length d1):=a1u 0 rfl;generalize wr.alloc (.cells #[.slice b1 I2.length d1, .slice b2 O2.length d2] 103)=V at hEo k1o k2o l1 |-;refine(a2c X a1 b2 I O2 c1 d2 V (hs2W.mono (a0i.mono _) (a0h (hEj.trans hEo))) (hs5.mono (a0i.mono _) (a0h hEo)) hlI hlO2).mono ?_;rintro e w' ⟨rfl,rfl⟩;rw[hm1'.out];go_wp2_with fail
       refine(a2c X a2 b1 O I2 c2 d1 V (hs3W.mono (a0i.mono _) (a0h (hEj.trans hEo))) (hs4.mono (a0i.mono _) (a0h hEo)) hlO hlI2).mono ?_;rintro e w' ⟨rfl,rfl⟩;rw[hm2'.out];go_wp2_with fail
       go_roundw
       case rel=>exact⟨j+1,by go_num,by omega,hn.out,hEj.trans hEo⟩
       case measure=>simp[intOf];omega
     ·have hn:=hid (a0Y hap.out (fun hq=>show a3r (I,O) L[j]=true by rw[hy'.out,hap2.out,hm1];rfl))
      have hm1':=hid hm1;clear hm1;go_wp2_with (first|(first|(with_reducible refine a0o a0S (by omega) (by assumption) ?_)|(with_reducible refine a1E a1t (by omega) (by assumption) ?_)|(with_reducible refine a0o a3h (by omega) (by assumption) ?_))|((with_reducible show wpList _ _ _ (⟨_, .load _ _,_,_,_,_⟩::_) _ _);refine a0M a3D j hsL hjL rfl (by omega) a0G.agg ?_;rintro u hu;rw[hy'.out]at hu;obtain⟨b1,d1,b2,d2,rfl,hd1,hd2,hs4,hs5⟩:=hu;have hEo:Ext wr (wr.alloc (.cells #[.slice b1 I2.length d1, .slice b2 O2.length d2] 103)):=(ExtX.refl wr).alloc _;have k1o:=hEo.cell k1j;have k2o:=hEo.cell k2j))
      generalize wr.alloc (.cells #[.slice b1 I2.length d1, .slice b2 O2.length d2] 103)=V at hEo k1o k2o |-;refine(a2c X a1 b2 I O2 c1 d2 V (hs2W.mono (a0i.mono _) (a0h (hEj.trans hEo))) (hs5.mono (a0i.mono _) (a0h hEo)) hlI hlO2).mono ?_;rintro e w' ⟨rfl,rfl⟩;rw[hm1'.out];go_wp2_with fail
      go_roundw
      case rel=>exact⟨j+1,by go_num,by omega,hn.out,hEj.trans hEo⟩
      case measure=>simp[intOf];omega
    ·have hjk':j=k:=by omega
     subst hjk';have hgk:=hid (a6o (N:=(N:Int)) (H:=(H:Int)) hlt hx'.out hokl'.out fun q hq=>hap.out q hq (by omega));obtain⟨hI1,hO1,hI2,hO3,hmt⟩:=a5e hokl'.out;clear hI1 hO1 hmt;have hst2:=hid (a7w N H L j hlt);go_wp2_with fail
     refine(a8I X _ _ (N - I.length - O.length) (H - I.length) wr (by omega) (by omega) (by omega) (by omega) hXj).mono ?_;rintro e w5 ⟨hE5,a5,c5,l5,rfl,hc5,hcan5,hs5⟩;have hX5:∀k,X k=true->k<w5.heap.size:=fun k hk=>Nat.lt_of_lt_of_le (hXj k hk) hE5.size;have hss5:=hsW.mono (a0b.mono _) (a0h (hEj.trans hE5));have hls:=a6N (N:=N) (H:=H) hN (L.take j) (by simp;omega);have hlc:=a7t (n:=N - I.length - O.length) (k:=H - I.length) (by omega);rw[<-hcan.len]at hls;rw[<-hcan5.len]at hlc;go_wp2_with fail
     refine(a6T X so a5 sl l5 cs c5 w5 hss5 hs5 hcan.1 hcan5.1 (by omega) (by omega) hX5 _ _ hcan.val hcan5.val).mono ?_;rintro e w6 ⟨hE6,a6,c6,l6,rfl,hc6,hcan6,hs6⟩;have hL1:Hid (L[j].1=I/\L[j].2=O):=hid (by rw[hx'.out];exact⟨rfl,rfl⟩);have hcan6':a0E l6 (a6l N H (L.take (j+1))):=by
      rw[hst2.out,hL1.out.1,hL1.out.2];exact hcan6
     have hgood':=hid (a0Y hgood.out hgk.out);go_wp2_with fail
     go_roundw
     case rel=>exact⟨j+1,a6,c6,l6,by go_num,rfl,by omega,hc6,hcan6',hs6,hgood'.out,((hEW.trans hEj).trans hE5).trans hE6⟩
     case measure=>simp[intOf];omega
  ·have hke:k=L.length:=by omega
   subst hke;rw[List.take_length]at hcan;have hall:=hid (a1G hgood.out);have hls:=a6N (N:=N) (H:=H) hN L (by omega);rw[<-hcan.len]at hls;go_wp2_with fail
   refine(a5T X N H wr hHN hN hXr).mono ?_;rintro e w5 ⟨hE5,a5,c5,l5,rfl,hc5,hcan5,hs5⟩;have hX5:∀k,X k=true->k<w5.heap.size:=fun k hk=>Nat.lt_of_lt_of_le (hXr k hk) hE5.size;have hlc:=a7t (n:=N) (k:=H) (by omega);rw[<-hcan5.len]at hlc;go_wp2_with fail
   refine(a7x X so a5 sl l5 cs c5 w5 (hss.mono (a0b.mono _) (a0h hE5)) hs5 hcan.1 hcan5.1 (by omega) (by omega) hX5 _ _ hcan.val hcan5.val).mono ?_;rintro e w6 ⟨hE6,rfl⟩;have hv:Hid ((a2t (a6l N H L) (ch N H)==0)=a1l N H L):=hid (by
    rw[hdef2.out,hall.out,Bool.true_and,Bool.eq_iff_iff];simp[a8b])
   generalize a2t (a6l N H L) (ch N H)=c at hv |-;go_wp2_with fail
   go_ret
   exact⟨(hE.trans hE5).trans hE6,a0j hv.out⟩
end Go.Proofs.YtoibhmjjhgaimaaGreat
