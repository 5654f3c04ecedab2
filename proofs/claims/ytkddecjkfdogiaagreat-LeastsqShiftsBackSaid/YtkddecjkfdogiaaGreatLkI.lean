/- reference 06: Take; made: Matrix, Vector, Sum. Conditions: at most 2^20 rows and columns. matrix: formed, columns. Conditions: lengths far below any machine's. Matrices that a call has made itself, row by row, and writes into: what they are, and what each step leaves of them. Conditions: none. Stores into rows and matrices that a call has made itself, as the walk writes them; readings beside them. Conditions: none. matrix: zero. Conditions: few rows and columns. matrix: copied. Conditions: few rows and columns. Elements of rows that a call has made itself: loads. Conditions: none. matrix: Transpose. Conditions: few rows and columns, numbers of at most 2^36 digits. matrix: dot. Conditions: few numbers of at most 2^36 digits. matrix: Apply, Mul. Conditions: few rows and columns, numbers of few digits. Bounds of determinants and products, for law 06. Conditions: none. -/
import Derived.Test.YtkddecjkfdogiaaGreatLkH
import Derived.BigRegion
namespace Go.Proofs.YtkddecjkfdogiaaGreat
open Go.RowKit Go.Rep Go.Lim Go.Lin
theorem a8t {p j:Nat} (h:p+j<=1000000):wrap64 ((p:Int)+(j:Int))=((p+j:Nat):Int):=by
 rw[IntWalk.wrap64_in _ (by omega)];omega
theorem a8u {i c p:Nat} (hp:i*c=p) (h:p<=1000000):wrap64 ((i:Int)*(c:Int))=(p:Int):=by
 rw[<-Int.natCast_mul,hp];exact IntWalk.wrap64_in _ (by omega)
theorem a8v (r c:Nat) (raw:List Int):(a7o r c raw).length=r:=by simp[a7o]
theorem a8w (r c:Nat) (raw:List Int) (i:Nat) (_hi:i<r) (h:i<(a7o r c raw).length):(a7o r c raw)[i]=(List.range c).map fun j=>a9c (atL raw (i*c+j)):=by simp[a7o]
set_option maxRecDepth 100000 in
theorem a9d (X:Nat->Bool) (w:World) (r c:Nat) (ao:Option Addr) (raw:List Int) (cap:Nat) (hX:HX X w) (hs:Sl (a1P .i64) 1 (mk X w) ao raw) (hr:r<=900) (hc:c<=900) (hraw:∀x∈raw,-9223372036854775808<=x/\x<=9223372036854775807):Calls Tryz.prog 109 #[.int .i64 (r:Int), .int .i64 (c:Int), .slice ao raw.length cap] w (a2w X w MC (a7o r c raw)):=by
 obtain⟨M,hM⟩:∃M,a7o r c raw=M:=⟨_,rfl⟩;have hMl:Hid (M.length=r):=hid (by rw[<-hM,a8v]);have hMr:Hid (∀i (hi:i<r) (h:i<M.length),M[i]=(List.range c).map fun j=>a9c (atL raw (i*c+j))):=hid fun i hi h=>by subst hM;exact a8w r c raw i hi h
 have hat:Hid (∀i,-9223372036854775808<=atL raw i/\atL raw i<=9223372036854775807):=hid fun i=>by
  unfold atL;by_cases h:i<raw.length
  ·simp only[List.getD_eq_getElem?_getD,List.getElem?_eq_getElem h,Option.getD_some];exact hraw _ (List.getElem_mem h)
  ·simp only[List.getD_eq_getElem?_getD,List.getElem?_eq_none (Nat.le_of_not_lt h),Option.getD_none];omega
 have hMl2:M.length<=r:=by rw[hMl.out];exact Nat.le_refl _
 have hMl3:r<=M.length:=by rw[hMl.out];exact Nat.le_refl _
 rw[hM];clear hM hraw;go_enter Tryz.func109,Tryz.ntmps109
 go_wp2_with fail
 go_loopw [7,8] (fun o cc wr=>∃(i:Nat) (oo:Option Addr) (co:Nat),cc= .int .i64 i/\o= .slice oo i co/\i<=r/\OL RC 1 X w.heap.size 45 wr oo co (M.take i)/\Ext w wr) (fun _ cc _=>r - (intOf cc).toNat)
 case atStart=>exact⟨0,none,0,rfl,rfl,Nat.zero_le _,OL.nil _ _ _ _ _ _,ExtX.refl _⟩
 case round=>
  obtain⟨i,oo,co,rfl,rfl,hi,hO,hE⟩:=hrel;have hXr:HX X wr:=hX.ext hE;have hXu:HX (un X oo) wr:=hO.unX hXr;have hbase:=hE.size;by_cases hlt:i<r
  ·have hltM:i<M.length:=by omega
   have htk:=hid (a1C M i hltM);have hln:=hid (a2b (l:=M) (i:=i) (by omega));obtain⟨R,hR⟩:∃R,M[i]=R:=⟨_,rfl⟩;have hRd:=hMr.out i hlt hltM;rw[hR]at hRd htk;have hRl:Hid (R.length=c):=hid (by rw[hRd];simp);have hRi:Hid (∀j (hj:j<c) (h:j<R.length),R[j]=a9c (atL raw (i*c+j))):=hid fun j hj h=>by subst hRd;simp
   have hRl2:R.length<=c:=by rw[hRl.out];exact Nat.le_refl _
   have hRl3:c<=R.length:=by rw[hRl.out];exact Nat.le_refl _
   have hic:i*c<=810000:=Nat.le_trans (Nat.mul_le_mul (show i<=900 by omega) hc) (by decide);obtain⟨p,hp⟩:∃p,i*c=p:=⟨_,rfl⟩;rw[hp]at hRi hic;have hw1:wrap64 ((i:Int)*(c:Int))=(p:Int):=a8u hp (Nat.le_trans hic (by decide));clear hp hRd hR;obtain⟨wo,hwo⟩:∃wo,wo=wr:=⟨_,rfl⟩;subst hwo;go_wp2_with fail
   go_loopw [9,10] (fun o cc wx=>∃(j:Nat) (ro:Option Addr) (cr:Nat),cc= .int .i64 j/\o= .slice ro j cr/\j<=c/\OL QC 3 (un X oo) wo.heap.size 32 wx ro cr (R.take j)/\Ext wo wx) (fun _ cc _=>c - (intOf cc).toNat)
   case atStart=>exact⟨0,none,0,rfl,rfl,Nat.zero_le _,OL.nil _ _ _ _ _ _,ExtX.refl _⟩
   case round=>
    obtain⟨j,ro,cr,rfl,rfl,hj,hOr,hEr⟩:=hrel;have hXx:HX (un X oo) wr:=hXu.ext hEr;have hXy:HX (un (un X oo) ro) wr:=hOr.unX hXx;have hbr:=hEr.size;by_cases hlj:j<c
    ·have hljR:j<R.length:=by omega
     have htj:=hid (a1C R j hljR);have hlnj:=hid (a2b (l:=R) (i:=j) (by omega));have hRj:=hRi.out j hlj hljR;rw[hRj]at htj;have hv:=hat.out (p+j);have hpj:p+j<=1000000:=Nat.le_trans (Nat.add_le_add hic (Nat.le_of_lt (Nat.lt_of_lt_of_le hlj hc))) (by decide);have hw2:wrap64 ((p:Int)+(j:Int))=((p+j:Nat):Int):=a8t hpj;obtain⟨z,hz⟩:∃z,p+j=z:=⟨_,rfl⟩;have hzI:Hid ((p:Int)+(j:Int)=(z:Int)):=hid (by rw[<-hz,Int.natCast_add]);rw[hz]at hw2 hpj hv htj;obtain⟨y,hy⟩:∃y,atL raw z=y:=⟨_,rfl⟩;rw[hy]at hv htj;have hy':=hid hy;clear hy hRj hz;have hs2:=hs.mono (a1P.mono _) (a0o (hE.trans hEr));go_wp2_with fail
     rw[hzI.out];refine(b2K X wr ao raw cap z hs2 hpj).mono ?_;rintro e w5 ⟨rfl,rfl⟩;rw[hy'.out];go_wp2_with fail
     refine(a4r (un (un X oo) ro) w5 y hXy hv.1 hv.2).mono ?_;rintro e w6 ⟨hE6,u6,rfl,hu6⟩;obtain⟨s6,a6,n6,c6,d6,k6,e6,rfl⟩:=hu6.shape;have hO6:=hOr.ext0 QC.elem hE6;have hb6:=hE6.size;go_wp2_with (at_builtin;refine a1e (l:=R.take j) a0E rfl QC.elem (by omega) (hXx.ext hE6) j hlnj.out rfl rfl hO6 (.agg #[.bool s6, .slice a6 n6 c6, .slice d6 k6 e6]) (a9c y) rfl hu6 (by omega) (by omega) ?_;intro oo2 co2 w7 hO7 hE7 hor)
     have hE8:=(hEr.trans hE6).own hO6 (Nat.le_refl _) hE7;rw[htj.out]at hO7;go_roundw
     case rel=>exact⟨j+1,oo2,co2,by go_num,by go_num,by omega,hO7,hE8⟩
     case measure=>simp[intOf];omega
    ·have hjc:j=c:=by omega
     subst hjc;rw[List.take_of_length_le (by omega)]at hOr;have hcr:=hOr.lenCap;have hsR:=hOr.sl QC.elem;have hO6:=hO.ext0 RC.elem hEr;have hRC:RC (mk (un X oo) wr) (.slice ro j cr) R:=⟨ro,cr,by rw[hRl.out],hcr,hsR⟩;go_wp2_with (at_builtin;refine a1e (l:=M.take i) a0r rfl RC.elem (by omega) (hXr.ext hEr) i hln.out rfl rfl hO6 (.slice ro j cr) R rfl hRC (by omega) (by omega) ?_;intro oo2 co2 w7 hO7 hE7 hor)
     have hE8:=(hE.trans hEr).own hO6 (Nat.le_refl _) hE7;rw[htk.out]at hO7;go_roundw
     case rel=>exact⟨i+1,oo2,co2,by go_num,by go_num,by omega,hO7,hE8⟩
     case measure=>simp[intOf];omega
  ·have hil:i=r:=by omega
   subst hil;rw[List.take_of_length_le (by omega)]at hO;have hc:=hO.lenCap;have hs:=hO.sl RC.elem;go_wp2_with fail
   go_ret
   exact⟨hE,_,rfl,oo,co,by rw[hMl.out];rfl,hc,hs⟩
end Go.Proofs.YtkddecjkfdogiaaGreat
namespace Go.Lin
def a0x {α:Type} (m:List (List α)):Bool:=decide (m.length<=96)&&m.all fun r=>decide (1<=r.length/\r.length<=96/\r.length=(m.getD 0 []).length)
def colsL {α:Type} (m:List (List α)):Nat:=(m.getD 0 []).length
theorem a2d {α:Type} {m:List (List α)}:a0x m=true↔m.length<=96/\∀i (hi:i<m.length),1<=m[i].length/\m[i].length<=96/\m[i].length=colsL m:=by
 unfold a0x colsL;rw[Bool.and_eq_true,decide_eq_true_eq,List.all_eq_true];constructor
 ·rintro ⟨h1,h2⟩
  exact⟨h1,fun i hi=>by simpa using h2 _ (List.getElem_mem hi)⟩
 ·rintro ⟨h1,h2⟩
  refine⟨h1,fun r hr=>?_⟩;obtain⟨i,hi,rfl⟩:=List.getElem_of_mem hr;simpa using h2 i hi
theorem a6j {α:Type} {m:List (List α)} (i:Nat) (hi:i<m.length) (h:¬(1<=m[i].length/\m[i].length<=96/\m[i].length=colsL m)):false=a0x m:=by
 symm;cases hf:a0x m
 ·rfl
 ·exact absurd ((a2d.1 hf).2 i hi) h
theorem a4f {α:Type} {m:List (List α)} (h:0<m.length):colsL m=m[0].length:=by simp[colsL,List.getD_eq_getElem?_getD,h]
theorem a0K {m:List (List Rat)} (h:a0x m=true):Shp m.length (colsL m) m/\m.length<=96/\colsL m<=96/\(0<m.length->1<=colsL m)/\(m.length=0->colsL m=0):=by
 have h1:=a2d.1 h;refine⟨⟨rfl,fun r hr=>?_⟩,h1.1,?_,fun h0=>?_,fun h0=>?_⟩
 ·obtain⟨i,hi,rfl⟩:=List.getElem_of_mem hr
  exact(h1.2 i hi).2.2
 ·by_cases h0:0<m.length
  ·have:=h1.2 0 h0;omega
  ·have:m= []:=List.eq_nil_of_length_eq_zero (by omega)
   subst this;simp[colsL]
 ·have:=h1.2 0 h0;omega
 ·have:m= []:=List.eq_nil_of_length_eq_zero h0
  subst this;rfl
end Go.Lin
namespace Go.Proofs.YtkddecjkfdogiaaGreat
open Go.RowKit Go.Rep Go.Lim Go.Lin
theorem a1G {R:Mem->Value->Rat->Prop} (X:Nat->Bool) (w:World) (u:Value) (m:List (List Rat)) (hu:SlV (SlV R 3) 1 (mk X w) u m):Calls Tryz.prog 197 #[u] w (fun e w'=>w'=w/\e= .returned (.int .i64 (colsL m:Int))):=by
 obtain⟨ao,ca,rfl,hca,hsa⟩:=hu;have hha:=hsa.hd;by_cases h:0<m.length
 ·obtain⟨a1,c1,hX1,hc1,hcl1,hq1⟩:=hsa.row 0 h
  have k00:=hc1.out noY w (ExtX.refl _) rfl;have hc:=hid (a4f h);have hI:((m.length:Int)==0)=false:=a3E (by omega);go_enter Tryz.func197,Tryz.ntmps197
  go_wp2_with (with_reducible refine a0t a0r (by omega) (by assumption) ?_)
  go_ret
  exact⟨rfl,a0I (by rw[hc.out])⟩
 ·have hc:Hid (colsL m=0):=hid (by
   have:m= []:=List.eq_nil_of_length_eq_zero (by omega);subst this;rfl)
  have hI:((m.length:Int)==0)=true:=a7n (by omega);go_enter Tryz.func197,Tryz.ntmps197
  go_wp2_with (with_reducible refine a0t a0r (by omega) (by assumption) ?_)
  go_ret
  exact⟨rfl,a0I (by rw[hc.out];rfl)⟩
set_option maxRecDepth 100000 in
theorem a1M {R:Mem->Value->Rat->Prop} (X:Nat->Bool) (w:World) (u:Value) (m:List (List Rat)) (hu:SlV (SlV R 3) 1 (mk X w) u m) (hl:m.length<=1099511627776):Calls Tryz.prog 196 #[u] w (fun e w'=>w'=w/\e= .returned (.bool (a0x m))):=by
 obtain⟨ao,ca,rfl,hca,hsa⟩:=hu;have hha:=hsa.hd;by_cases h96:96<m.length
 ·have hv:Hid (false=a0x m):=hid (by
   symm;cases hf:a0x m
   ·rfl
   ·have:=(a2d.1 hf).1;omega)
  have hI:(96:Int)<(m.length:Int):=by omega
  go_enter Tryz.func196,Tryz.ntmps196
  go_wp2_with fail
  go_ret
  exact⟨rfl,a0l hv.out⟩
 ·have hI:¬(96:Int)<(m.length:Int):=by omega
  go_enter Tryz.func196,Tryz.ntmps196
  go_wp2_with fail
  go_loop [10] (fun c=>∃(i:Nat),c= .int .i64 i/\i<=m.length/\Hid (∀q,q<i->∀hq:q<m.length,1<=m[q].length/\m[q].length<=96/\m[q].length=colsL m)) (fun c=>m.length - (intOf c).toNat)
  case atStart=>exact⟨0,rfl,Nat.zero_le _,fun q hq=>by omega⟩
  case round=>
   obtain⟨i,rfl,hi,hok⟩:=hrel;by_cases hlt:i<m.length
   ·have h0:0<m.length:=by omega
    obtain⟨a1,c1,hX1,hc1,hcl1,hq1⟩:=hsa.row i hlt;obtain⟨a2,c2,hX2,hc2,hcl2,hq2⟩:=hsa.row 0 h0;have k00:=hc1.out noY w (ExtX.refl _) rfl;have k10:=hc2.out noY w (ExtX.refl _) rfl;have hcol:=a4f h0;have hno:=hid (a6j i hlt);rw[<-hcol]at k10;obtain⟨x,hx⟩:∃x,m[i].length=x:=⟨_,rfl⟩;obtain⟨y,hy⟩:∃y,colsL m=y:=⟨_,rfl⟩;rw[hx]at k00 hno;rw[hy]at k10 hno;have hst:Hid (1<=x/\x<=96/\x=y->∀hq:i<m.length,1<=m[i].length/\m[i].length<=96/\m[i].length=colsL m):=hid fun h hq=>by rw[hx,hy];exact h
    clear hx hy hcol hc1 hc2 hq1 hq2 hcl1 hcl2;by_cases hx0:x=0
    ·have d0:((x:Int)==0)=true:=a7n (by omega)
     have hv:=hid (hno.out (by omega));clear hx0;go_wp2_with (with_reducible refine a0t a0r (by omega) (by assumption) ?_)
     go_ret
     exact⟨rfl,a0l hv.out⟩
    ·have d0:((x:Int)==0)=false:=a3E (by omega)
     by_cases hx1:96<x
     ·have d1:(96:Int)<(x:Int):=by omega
      have hv:=hid (hno.out (by omega));clear hx0;go_wp2_with (with_reducible refine a0t a0r (by omega) (by assumption) ?_)
      go_ret
      exact⟨rfl,a0l hv.out⟩
     ·have d1:¬(96:Int)<(x:Int):=by omega
      by_cases hxy:x=y
      ·have d2:((x:Int) !=(y:Int))=false:=a8S (by omega)
       have hst2:=hid (hst.out ⟨by omega,by omega,hxy⟩);clear hx0 hxy;go_wp2_with (with_reducible refine a0t a0r (by omega) (by assumption) ?_)
       go_round
       case rel=>exact⟨i+1,by go_num,by omega,a4Z hok.out hst2.out⟩
       case measure=>simp[intOf];omega
      ·have d2:((x:Int) !=(y:Int))=true:=a7p (by omega)
       have hv:=hid (hno.out (by omega));clear hx0 hxy;go_wp2_with (with_reducible refine a0t a0r (by omega) (by assumption) ?_)
       go_ret
       exact⟨rfl,a0l hv.out⟩
   ·have hv:Hid (true=a0x m):=hid (by
     symm;exact a2d.2 ⟨by omega,fun q hq=>hok.out q (by omega) hq⟩)
    go_wp2_with fail
    go_ret
    exact⟨rfl,a0l hv.out⟩
end Go.Proofs.YtkddecjkfdogiaaGreat
namespace Go.Rep
open Go.RowKit Go.Lim
abbrev Hdr:=Option Addr×Nat×Nat
def HdR:Mem->Value->Hdr->Prop:=fun _ u x=>u= .slice x.1 x.2.1 x.2.2
theorem HdR.elem:Elem HdR 1:=⟨fun _ _ _ _ _ h=>h,by rintro h u x rfl;rfl,by
 rintro h u x rfl c hc;simp[a0g,Value.cells]at hc;subst hc;rfl,Nat.one_pos⟩
theorem HdR.one:a3d HdR:=by rintro h u x rfl;rfl
theorem HdR.pure:∀h h' u x,HdR h u x->HdR h' u x:=fun _ _ _ _ h=>h
theorem OL.frame {α:Type} {R:Mem->Value->α->Prop} {sz:Nat} {X:Nat->Bool} {base:Nat} {e:TypeId} {w w':World} {ao:Option Addr} {cap:Nat} {l:List α} (hR0:∀h h' u x,R h u x->R h' u x) {Y Z:Nat->Bool} (h:OL R sz X base e w ao cap l) (hE:ExtX Y w w') (hY:∀k,ob ao k=true->Y k=false) (hZ:∀k,ob ao k=true->Z k=false):OL R sz Z base e w' ao cap l:=by
 have hb:=fun k (hk:ob ao k=true)=>h.block hk;obtain⟨hx,us,h1,h2,h22,h3,h5⟩:=h;refine⟨hZ,us,h1,h2,h22,?_,fun i hi hi'=>hR0 _ _ _ _ (h5 i hi hi')⟩;refine⟨h3.1,?_⟩;rcases h3.2 with h4|⟨g,c,cur,hv,h6,h7,h8⟩
 ·exact .inl h4
 ·refine .inr ⟨g,c,cur,hv,h6,?_,h8⟩
  simp at hv;obtain⟨rfl,rfl⟩:=hv;have hk:ob (some ⟨g,0,none⟩) g=true:=by simp[ob]
  rw[hE.block g (hb g hk).2 (hY g hk),h7]
def cut (Z:Nat->Bool) (ao:Option Addr):Nat->Bool:=fun k=>Z k&& !ob ao k
theorem a2I {Z:Nat->Bool} {ao:Option Addr} (h:∀k,ob ao k=true->Z k=true):un (cut Z ao) ao=Z:=by
 funext k
 have:=h k;unfold un cut;cases hb:ob ao k<;>cases hz:Z k<;>simp_all
theorem a5H {Z:Nat->Bool} {ao:Option Addr} {k:Nat} (h:cut Z ao k=true):Z k=true/\ob ao k=false:=by simpa[cut]using h
theorem a2J {Z:Nat->Bool} {ao:Option Addr} {k:Nat} (h:Z k=true) (h2:ob ao k=false):cut Z ao k=true:=by simp[cut,h,h2]
def obs (hs:List Hdr):Nat->Bool:=fun k=>hs.any fun h=>ob h.1 k
theorem a0T {hs:List Hdr} {i:Nat} (hi:i<hs.length) {k:Nat} (h:ob hs[i].1 k=true):obs hs k=true:=by
 unfold obs;rw[List.any_eq_true];exact⟨_,List.getElem_mem hi,h⟩
theorem a4g {hs:List Hdr} {k:Nat} (h:obs hs k=true):∃i,∃hi:i<hs.length,ob hs[i].1 k=true:=by
 unfold obs at h;rw[List.any_eq_true]at h;obtain⟨x,hx,h2⟩:=h;obtain⟨i,hi,rfl⟩:=List.getElem_of_mem hx;exact⟨i,hi,h2⟩
def mz (X:Nat->Bool) (ao:Option Addr) (hs:List Hdr):Nat->Bool:=fun k=>X k||ob ao k||obs hs k
def mb (ao:Option Addr) (hs:List Hdr):Nat->Bool:=fun k=>ob ao k||obs hs k
theorem a0y {X:Nat->Bool} {ao:Option Addr} {hs:List Hdr} {k:Nat}:mz X ao hs k=true↔X k=true\/ob ao k=true\/obs hs k=true:=by simp[mz,or_assoc]
theorem a1t {ao:Option Addr} {hs:List Hdr} {k:Nat}:mb ao hs k=true↔ob ao k=true\/obs hs k=true:=by simp[mb]
structure MO (X:Nat->Bool) (base:Nat) (e1 e2:TypeId) (w:World) (ao:Option Addr) (cap:Nat) (hs:List Hdr) (m:List (List Rat)):Prop where
 outer:OL HdR 1 X base e1 w ao cap hs
 len:hs.length=m.length
 rlen:∀i (hi:i<hs.length) (hi':i<m.length),hs[i].2.1=m[i].length
 row:∀i (hi:i<hs.length) (hi':i<m.length),OL QC 3 (cut (mz X ao hs) hs[i].1) base e2 w hs[i].1 hs[i].2.2 m[i]
 sep:∀i (hi:i<hs.length) k,ob hs[i].1 k=true->X k=false/\ob ao k=false
 dis:∀i j (hi:i<hs.length) (hj:j<hs.length),i≠j->∀k,ob hs[i].1 k=true->ob hs[j].1 k=false
section
variable {X:Nat->Bool} {base:Nat} {e1 e2:TypeId} {w w':World} {ao:Option Addr} {cap:Nat} {hs:List Hdr} {m:List (List Rat)}
theorem MO.out_sep (h:MO X base e1 e2 w ao cap hs m) {k:Nat} (hk:ob ao k=true):X k=false/\obs hs k=false:=by
 refine⟨h.outer.1 k hk,?_⟩;cases ho:obs hs k
 ·rfl
 ·obtain⟨i,hi,h2⟩:=a4g ho
  have:=(h.sep i hi k h2).2;rw[hk]at this;simp at this
theorem MO.obs_sep (h:MO X base e1 e2 w ao cap hs m) {k:Nat} (hk:obs hs k=true):X k=false/\ob ao k=false:=by
 obtain⟨i,hi,h2⟩:=a4g hk;exact h.sep i hi k h2
theorem MO.mb_X (h:MO X base e1 e2 w ao cap hs m) {k:Nat} (hk:mb ao hs k=true):X k=false:=by
 rcases a1t.1 hk with a|a
 ·exact(h.out_sep a).1
 ·exact(h.obs_sep a).1
theorem MO.mb_block (h:MO X base e1 e2 w ao cap hs m) {k:Nat} (hk:mb ao hs k=true):base<=k/\k<w.heap.size:=by
 rcases a1t.1 hk with a|a
 ·exact h.outer.block a
 ·obtain⟨i,hi,h2⟩:=a4g a
  exact(h.row i hi (by have:=h.len;omega)).block h2
theorem MO.mz_sub (_h:MO X base e1 e2 w ao cap hs m) {i:Nat} (hi:i<hs.length) (k:Nat) (hk:ob hs[i].1 k=true):mz X ao hs k=true:=a0y.2 (.inr (.inr (a0T hi hk)))
theorem MO.hz (h:MO X base e1 e2 w ao cap hs m) (hX:HX X w):HX (mz X ao hs) w:=fun k hk=>by
 rcases a0y.1 hk with a|a
 ·exact hX k a
 ·exact(h.mb_block (a1t.2 a)).2
theorem MO.ext (h:MO X base e1 e2 w ao cap hs m) {Y X':Nat->Bool} (hE:ExtX Y w w') (hY:∀k,k<w.heap.size->Y k=true->X k=true) (hZ:∀k,k<w.heap.size->X' k=true->X k=true):MO X' base e1 e2 w' ao cap hs m:=by
 have hX':∀k,mb ao hs k=true->X' k=false:=fun k hk=>by
  cases hh:X' k
  ·rfl
  ·have:=hZ k (h.mb_block hk).2 hh;rw[h.mb_X hk]at this;simp at this
 have hYm:∀k,mb ao hs k=true->Y k=false:=fun k hk=>by
  cases hh:Y k
  ·rfl
  ·have:=hY k (h.mb_block hk).2 hh;rw[h.mb_X hk]at this;simp at this
 refine⟨h.outer.ext HdR.elem hE hY hZ,h.len,h.rlen,fun i hi hi'=>?_,fun i hi k hk=>⟨hX' k (a1t.2 (.inr (a0T hi hk))),(h.sep i hi k hk).2⟩,h.dis⟩;refine(h.row i hi hi').ext QC.elem hE (fun k hk hy=>a2J (a0y.2 (.inl (hY k hk hy))) ?_) (fun k hk hy=>?_)
 ·cases hb:ob hs[i].1 k
  ·rfl
  ·have:=hYm k (a1t.2 (.inr (a0T hi hb)));rw[hy]at this;simp at this
 ·obtain⟨h1,h2⟩:=a5H hy
  refine a2J (a0y.2 ?_) h2;rcases a0y.1 h1 with a|a
  ·exact .inl (hZ k hk a)
  ·exact .inr a
theorem MO.ext0 (h:MO X base e1 e2 w ao cap hs m) (hE:Ext w w'):MO X base e1 e2 w' ao cap hs m:=
 h.ext hE (fun k _ hk=>by simp[noY]at hk) (fun _ _ h=>h)
theorem MO.upd (h:MO X base e1 e2 w ao cap hs m) {i:Nat} (hi:i<hs.length) {l:List Rat} (hE:ExtX (ob hs[i].1) w w') (hl:∀hi':i<m.length,l.length=m[i].length) (hr:OL QC 3 (cut (mz X ao hs) hs[i].1) base e2 w' hs[i].1 hs[i].2.2 l):MO X base e1 e2 w' ao cap hs (m.set i l):=by
 refine⟨h.outer.frame HdR.pure hE (fun k hk=>?_) h.outer.1,by rw[List.length_set];exact h.len,fun j hj hj'=>?_,fun j hj hj'=>?_,h.sep,h.dis⟩
 ·cases hb:ob hs[i].1 k
  ·rfl
  ·have:=(h.sep i hi k hb).2;rw[hk]at this;simp at this
 ·rw[List.getElem_set]
  split
  ·subst_vars;rw[hl (by have:=h.len;omega)];exact h.rlen _ hj (by have:=h.len;omega)
  ·exact h.rlen j hj (by simpa using hj')
 ·rw[List.getElem_set]
  split
  ·subst_vars;exact hr
  ·rename_i e
   exact(h.row j hj (by simpa using hj')).ext QC.elem hE (fun k _ hk=>a2J (h.mz_sub hi k hk) (h.dis i j hi hj e k hk)) (fun _ _ hk=>hk)
theorem MO.perm (h:MO X base e1 e2 w ao cap hs m) {hs':List Hdr} {m':List (List Rat)} (f:Nat->Nat) (hf:∀i,i<hs.length->f i<hs.length) (hinj:∀i j,i<hs.length->j<hs.length->f i=f j->i=j) (hsurj:∀i,i<hs.length->∃j,j<hs.length/\f j=i)
  (hl:hs'.length=hs.length) (hlm:m'.length=m.length) (hh:∀i (hi:i<hs'.length) (hi':f i<hs.length),hs'[i]=hs[f i]) (hm:∀i (hi:i<m'.length) (hi':f i<m.length),m'[i]=m[f i])
  (hE:ExtX (ob ao) w w') (ho:OL HdR 1 X base e1 w' ao cap hs'):MO X base e1 e2 w' ao cap hs' m':=by
 have hlen:=h.len;have hobs:∀k,obs hs' k=true↔obs hs k=true:=fun k=>by
  constructor
  ·intro hk
   obtain⟨i,hi,h2⟩:=a4g hk;have hfi:=hf i (by omega);rw[hh i hi hfi]at h2;exact a0T hfi h2
  ·intro hk
   obtain⟨i,hi,h2⟩:=a4g hk;obtain⟨j,hj,rfl⟩:=hsurj i hi;refine a0T (i:=j) (by omega) ?_;rw[hh j (by omega) hi];exact h2
 have hz:mz X ao hs'=mz X ao hs:=by
  funext k
  rw[Bool.eq_iff_iff,a0y,a0y,hobs]
 refine⟨ho,by omega,fun i hi hi'=>?_,fun i hi hi'=>?_,fun i hi k hk=>?_,fun i j hi hj hij k hk=>?_⟩
 ·have hfi:=hf i (by omega)
  rw[hh i hi hfi,hm i hi' (by omega)];exact h.rlen _ hfi (by omega)
 ·have hfi:=hf i (by omega)
  rw[hz,hh i hi hfi,hm i hi' (by omega)];exact(h.row _ hfi (by omega)).ext QC.elem hE (fun k _ hk=>a2J (a0y.2 (.inr (.inl hk))) (by
   cases hb:ob hs[f i].1 k
   ·rfl
   ·have:=(h.sep _ hfi k hb).2;rw[hk]at this;simp at this)) (fun _ _ hk=>hk)
 ·have hfi:=hf i (by omega)
  rw[hh i hi hfi]at hk;exact h.sep _ hfi k hk
 ·have hfi:=hf i (by omega)
  have hfj:=hf j (by omega);rw[hh i hi hfi]at hk;rw[hh j hj hfj];exact h.dis _ _ hfi hfj (fun e=>hij (hinj i j (by omega) (by omega) e)) k hk
theorem MO.put (h:MO X base e1 e2 w ao cap hs m) {i:Nat} (hi:i<hs.length) (hn:hs[i].1=none) {a:Option Addr} {c:Nat} {l:List Rat} {w1:World}
  (hE1:Ext w w1) (hnew:∀k,ob a k=true->w.heap.size<=k) (hr:OL QC 3 (mz X ao hs) base e2 w1 a c l) (hX:HX X w)
  (hE:ExtX (ob ao) w1 w') (ho:OL HdR 1 X base e1 w' ao cap (hs.set i (a,l.length,c))):MO X base e1 e2 w' ao cap (hs.set i (a,l.length,c)) (m.set i l):=by
 have hlen:=h.len;have hE':ExtX (ob ao) w w':=(ExtX.of hE1).trans hE;have hobs:∀k,obs (hs.set i (a,l.length,c)) k=true↔obs hs k=true\/ob a k=true:=fun k=>by
  constructor
  ·intro hk
   obtain⟨j,hj,h2⟩:=a4g hk;rw[List.getElem_set]at h2;split at h2
   ·exact .inr h2
   ·exact .inl (a0T (by simpa using hj) h2)
  ·rintro (hk|hk)
   ·obtain⟨j,hj,h2⟩:=a4g hk
    refine a0T (i:=j) (by simpa using hj) ?_;rw[List.getElem_set];split
    ·subst_vars;rw[hn]at h2;simp[ob]at h2
    ·exact h2
   ·refine a0T (i:=i) (by simpa using hi) ?_
    rw[List.getElem_set];simpa using hk
 have hmz:∀k,mz X ao (hs.set i (a,l.length,c)) k=true↔mz X ao hs k=true\/ob a k=true:=fun k=>by
  rw[a0y,a0y,hobs];constructor
  ·rintro (h|h|h|h)
   ·exact .inl (.inl h)
   ·exact .inl (.inr (.inl h))
   ·exact .inl (.inr (.inr h))
   ·exact .inr h
  ·rintro ((h|h|h)|h)
   ·exact .inl h
   ·exact .inr (.inl h)
   ·exact .inr (.inr (.inl h))
   ·exact .inr (.inr (.inr h))
 have hold:∀k,mb ao hs k=true->ob a k=false:=fun k hk=>by
  cases hb:ob a k
  ·rfl
  ·have:=hnew k hb;have:=(h.mb_block hk).2;omega
 have hobao:∀k,ob a k=true->ob ao k=false:=fun k hk=>by
  cases hb:ob ao k
  ·rfl
  ·have:=hold k (a1t.2 (.inl hb));rw[hk]at this;simp at this
 refine⟨ho,by simp[hlen],fun j hj hj'=>?_,fun j hj hj'=>?_,fun j hj k hk=>?_,fun j q hj hq hjq k hk=>?_⟩
 ·rw[List.getElem_set,List.getElem_set]
  split
  ·rfl
  ·exact h.rlen j (by simpa using hj) (by simpa using hj')
 ·have hj0:j<hs.length:=by simpa using hj
  have hj1:j<m.length:=by simpa using hj'
  by_cases e:i=j
  ·subst e
   simp only[List.getElem_set_self];refine hr.ext QC.elem hE (fun k _ hk=>a0y.2 (.inr (.inl hk))) (fun k hk hz=>?_);obtain⟨h1,h2⟩:=a5H hz;rcases(hmz k).1 h1 with h3|h3
   ·exact h3
   ·rw[h2]at h3;simp at h3
  ·simp only[List.getElem_set_ne e]
   refine(h.row j hj0 hj1).ext QC.elem hE' (fun k _ hk=>a2J (a0y.2 (.inr (.inl hk))) ?_) (fun k hk hz=>?_)
   ·cases hb:ob hs[j].1 k
    ·rfl
    ·have:=(h.sep j hj0 k hb).2;rw[hk]at this;simp at this
   ·obtain⟨h1,h2⟩:=a5H hz
    rcases(hmz k).1 h1 with h3|h3
    ·exact a2J h3 h2
    ·have:=hnew k h3;omega
 ·rw[List.getElem_set]at hk
  split at hk
  ·exact⟨by
    cases hb:X k
    ·rfl
    ·have:=hX k hb;have:=hnew k hk;omega,hobao k hk⟩
  ·exact h.sep j (by simpa using hj) k hk
 ·have hj0:j<hs.length:=by simpa using hj
  have hq0:q<hs.length:=by simpa using hq
  rw[List.getElem_set]at hk |-;split at hk
  ·rw[if_neg (by omega)]
   cases hb:ob hs[q].1 k
   ·rfl
   ·have:=hold k (a1t.2 (.inr (a0T hq0 hb)));dsimp only at hk;rw[hk]at this;simp at this
  ·split
   ·exact hold k (a1t.2 (.inr (a0T hj0 hk)))
   ·exact h.dis j q hj0 hq0 hjq k hk
theorem MO.hdr (h:MO X base e1 e2 w ao cap hs m) (i:Nat) (hi:i<hs.length):w.cell? (adr ao i)=some (.slice hs[i].1 hs[i].2.1 hs[i].2.2)/\w.frozen? (adr ao i)=false:=by
 obtain⟨u,h1,h2,rfl⟩:=h.outer.cell HdR.one i hi;exact⟨h1,h2⟩
theorem MO.rowS (h:MO X base e1 e2 w ao cap hs m) {i:Nat} (hi:i<hs.length) (hi':i<m.length):Sl QC 3 (_root_.Go.Rep.mk (cut (mz X ao hs) hs[i].1) w) hs[i].1 m[i]:=(h.row i hi hi').sl QC.elem
theorem MO.rowX (h:MO X base e1 e2 w ao cap hs m) {i:Nat} (hi:i<hs.length) (hi':i<m.length):Sl QC 3 (_root_.Go.Rep.mk X w) hs[i].1 m[i]:=(h.rowS hi hi').mono QC.mono (a1m fun k _ hk=>a2J (a0y.2 (.inl hk)) (by
 cases hb:ob hs[i].1 k
 ·rfl
 ·have:=(h.sep i hi k hb).1;rw[hk]at this;simp at this))
theorem MO.capLen (h:MO X base e1 e2 w ao cap hs m):m.length<=cap:=by rw[<-h.len];exact h.outer.lenCap
theorem MO.mc (h:MO X base e1 e2 w ao cap hs m):MC (_root_.Go.Rep.mk X w) (.slice ao m.length cap) m:=by
 have hl:=h.len;refine⟨ao,cap,rfl,h.capLen,fun hp=>?_,fun i hi=>?_⟩
 ·have:=h.outer.hd;rw[hl]at this;exact this hp
 ·obtain⟨h1,_⟩:=h.hdr i (by omega)
  have hr:=h.rowX (i:=i) (by omega) hi;refine⟨.slice hs[i].1 hs[i].2.1 hs[i].2.2,rfl,fun j hj=>?_,?_⟩
  ·have hj0:j=0:=by simp[Value.cells]at hj;omega
   subst hj0;unfold _root_.Go.Rep.mk;have hX:X (adr ao (i*1+0)).block=false:=by
    obtain⟨b,off,rfl⟩:=h.outer.hd (by omega);exact h.outer.1 _ (by simp[ob,adr])
   rw[hX];simpa[Value.cells]using h1
  ·rw[h.rlen i (by omega) hi]
   exact⟨_,_,rfl,by have:=(h.row i (by omega) hi).lenCap;exact this,hr⟩
theorem MO.start {n:Nat} (ho:OL HdR 1 X base e1 w ao cap (List.replicate n (none,0,0))) (e2:TypeId):MO X base e1 e2 w ao cap (List.replicate n (none,0,0)) (List.replicate n []):=by
 refine⟨ho,by simp,fun i hi hi'=>by simp,fun i hi hi'=>?_,fun i hi k hk=>?_,fun i j hi hj hij k hk=>?_⟩
 ·simp only[List.getElem_replicate];exact OL.nil _ _ _ _ _ _
 ·simp[ob]at hk
 ·simp[ob]at hk
end
end Go.Rep
namespace Go.Rep
open Go.RowKit Go.Lim
section
variable {P:Program} {α:Type} {R:Mem->Value->α->Prop} {X:Nat->Bool} {base:Nat} {e:TypeId} {w:World} {ao:Option Addr} {cap:Nat} {l:List α}
theorem OL.cell3 (h:OL R 3 X base e w ao cap l) (i:Nat) (hi:i<l.length) {g o:Nat} (hg:adr ao (i*3)=⟨g,o,none⟩):
  ∃u v0 v1 v2,a0g u= [v0,v1,v2]/\(w.cell? ⟨g,o,none⟩=some v0/\w.frozen? ⟨g,o,none⟩=false)/\(w.cell? ⟨g,o+1,none⟩=some v1/\w.frozen? ⟨g,o+1,none⟩=false)/\(w.cell? ⟨g,o+2,none⟩=some v2/\w.frozen? ⟨g,o+2,none⟩=false)/\R (mk (un X ao) w) u l[i]:=by
 obtain⟨us,h1,h2,_,h3,h5⟩:=h.cells;have hi':i<us.length:=by omega
 have hsz:us[i].cells.size=3:=h2 _ (List.getElem_mem _);have hlen:(a0g us[i]).length=3:=by simp[a0g,hsz]
 obtain⟨v0,v1,v2,hv⟩:∃v0 v1 v2,a0g us[i]= [v0,v1,v2]:=by
  match hc:a0g us[i],hlen with
  | [a,b,c],_=>exact⟨a,b,c,rfl⟩
 have ha:∀j,adr ao (i*3+j)=⟨g,o+j,none⟩:=fun j=>by rw[<-a7q,hg,Addr.add_lit]
 have key:∀j v,j<3->(a0g us[i])[j]? =some v->w.cell? ⟨g,o+j,none⟩=some v/\w.frozen? ⟨g,o+j,none⟩=false:=fun j v hj hjv=>by
  have hget:=a3w us i j hi' h2 hj;rw[hjv]at hget;have:=h3 _ _ hget;rwa[ha]at this
 exact⟨us[i],v0,v1,v2,hv,key 0 v0 (by omega) (by rw[hv];rfl),key 1 v1 (by omega) (by rw[hv];rfl),key 2 v2 (by omega) (by rw[hv];rfl),h5 i hi' hi⟩
theorem a4s {P:Program} {w:World} {a:Addr} {u v:Value} (h1:v.oneCell'=true) (hc:w.cell? a=some u) (hf:w.frozen? a=false):(store a v).run P w= .ok () (w.setCell a v):=by
 rw[run_store P w a v _ h1,hc];simp[hf]
theorem OL.set3 {t:TypeId} (hT:TyI P t 3) (hR:Elem R 3) (h:OL R 3 X base e w ao cap l) (i:Nat) (hi:i<l.length) {g o:Nat} (hg:adr ao (i*3)=⟨g,o,none⟩) {v0 v1 v2:Value} {x:α} (hu:R (mk (un X ao) w) (.agg #[v0,v1,v2]) x):
  OL R 3 X base e (((w.setCell ⟨g,o,none⟩ v0).setCell ⟨g,o+1,none⟩ v1).setCell ⟨g,o+2,none⟩ v2) ao cap (l.set i x)/\ExtX (ob ao) w (((w.setCell ⟨g,o,none⟩ v0).setCell ⟨g,o+1,none⟩ v1).setCell ⟨g,o+2,none⟩ v2):=by
 obtain⟨ti,ht,hts⟩:=hT;obtain⟨_,c0,c1,c2,_,⟨h0,f0⟩,⟨h1,f1⟩,⟨h2,f2⟩,_⟩:=h.cell3 i hi hg;obtain⟨w',hr,h3,h4⟩:=h.run_store (P:=P) ht hts hR i hi _ x hu;have hone:=hR.one _ _ _ hu;rw[hg]at hr;have o0:v0.oneCell'=true:=hone v0 (by simp[a0g,Value.cells]);have o1:v1.oneCell'=true:=hone v1 (by simp[a0g,Value.cells]);have o2:v2.oneCell'=true:=hone v2 (by simp[a0g,Value.cells]);have a1:(w.setCell ⟨g,o,none⟩ v0).cell? ⟨g,o+1,none⟩=some c1:=by rw[World.cell?_setCell_other (h:=by simp)];exact h1
 have a2:((w.setCell ⟨g,o,none⟩ v0).setCell ⟨g,o+1,none⟩ v1).cell? ⟨g,o+2,none⟩=some c2:=by rw[World.cell?_setCell_other (h:=by simp),World.cell?_setCell_other (h:=by simp)];exact h2
 have b1:(w.setCell ⟨g,o,none⟩ v0).frozen? ⟨g,o+1,none⟩=false:=by rw[World.frozen?_setCell];exact f1
 have b2:((w.setCell ⟨g,o,none⟩ v0).setCell ⟨g,o+1,none⟩ v1).frozen? ⟨g,o+2,none⟩=false:=by rw[World.frozen?_setCell,World.frozen?_setCell];exact f2
 have hw:w'=((w.setCell ⟨g,o,none⟩ v0).setCell ⟨g,o+1,none⟩ v1).setCell ⟨g,o+2,none⟩ v2:=by
  have s0:=a4s (P:=P) o0 h0 f0;have s1:=a4s (P:=P) o1 a1 b1;have s2:=a4s (P:=P) o2 a2 b2;simp[storeVar,sizeOf,typeInfo,ht,hts,Value.cells,storeCells,Addr.add_lit,s0,s1,s2]at hr;exact hr.symm
 subst hw;exact⟨h3,h4⟩
end
section
variable {X:Nat->Bool} {base:Nat} {e1 e2:TypeId} {w w':World} {ao:Option Addr} {cap:Nat} {hs:List Hdr} {m:List (List Rat)}
theorem MO.old {α:Type} {R:Mem->Value->α->Prop} (hR:a3c R) {u:Value} {x:α} {X0:Nat->Bool} {w0:World} (h:MO X base e1 e2 w ao cap hs m) (hu:R (_root_.Go.Rep.mk X0 w0) u x) (hE:Ext w0 w) (hb:w0.heap.size<=base) (hX:∀k,k<w0.heap.size->X k=true->X0 k=true):R (_root_.Go.Rep.mk (mz X ao hs) w) u x:=
 hR _ _ _ _ (a0R hE (fun k _ hk=>by simp[noY]at hk) fun k hk hz=>by
  rcases a0y.1 hz with a|a
  ·exact hX k hk a
  ·have:=(h.mb_block (a1t.2 a)).1;omega) hu
theorem MO.less {α:Type} {R:Mem->Value->α->Prop} (hR:a3c R) {u:Value} {x:α} (_h:MO X base e1 e2 w ao cap hs m) (hu:R (_root_.Go.Rep.mk (mz X ao hs) w) u x):R (_root_.Go.Rep.mk X w) u x:=
 hR _ _ _ _ (a1m fun _ _ hk=>a0y.2 (.inl hk)) hu
theorem MO.ext_from {w0:World} (h:MO X base e1 e2 w ao cap hs m) (hE:Ext w0 w) (hb:w0.heap.size<=base) (hE2:ExtX (mb ao hs) w w'):Ext w0 w':=
 hE.then_ hE2 fun i hi _=>by
  cases hk:mb ao hs i
  ·rfl
  ·have:=(h.mb_block hk).1;omega
theorem b3I {ao:Option Addr} {hs:List Hdr} {k:Nat} (h:mb ao hs k=false):ob ao k=false/\∀i (hi:i<hs.length),ob hs[i].1 k=false:=by
 refine⟨?_,fun i hi=>?_⟩
 ·cases hb:ob ao k
  ·rfl
  ·rw[a1t.2 (.inl hb)]at h;simp at h
 ·cases hb:ob hs[i].1 k
  ·rfl
  ·rw[a1t.2 (.inr (a0T hi hb))]at h;simp at h
theorem ExtX.row {i:Nat} (hi:i<hs.length) (h:ExtX (ob hs[i].1) w w'):ExtX (mb ao hs) w w':=h.weaken fun _ _ hk=>(b3I hk).2 i hi
theorem ExtX.outer (h:ExtX (ob ao) w w'):ExtX (mb ao hs) w w':=h.weaken fun _ _ hk=>(b3I hk).1
theorem b0l {hs hs':List Hdr} (h:∀k,obs hs k=obs hs' k):mb ao hs=mb ao hs'/\mz X ao hs=mz X ao hs':=by
 constructor<;>(funext k;simp[mb,mz,h])
def b5X (X:Nat->Bool) (e1 e2:TypeId) (w:World) (m:List (List Rat)) (e:Ending) (w':World):Prop:=Ext w w'/\∃ao cap hs,e= .returned (.slice ao m.length cap)/\MO X w.heap.size e1 e2 w' ao cap hs m
end
end Go.Rep
namespace Go.Proofs.YtkddecjkfdogiaaGreat
open Go.RowKit Go.Rep Go.Lim Go.Lin
theorem a8x {α:Type} (r i:Nat) (z:α) (x:α) (hi:i<r):((List.range r).map fun q=>if q<i then z else x).set i z=(List.range r).map fun q=>if q<i+1 then z else x:=by
 refine List.ext_getElem (by simp) fun q h1 h2=>?_;simp at h1;rw[List.getElem_set];simp only[List.getElem_map,List.getElem_range];split
 ·subst_vars;simp
 ·by_cases a:q<i
  ·simp[a,show q<i+1 by omega]
  ·simp[a,show¬q<i+1 by omega]
theorem a6T {α:Type} (r:Nat) (z x:α):((List.range r).map fun q=>if q<0 then z else x)=List.replicate r x:=by
 refine List.ext_getElem (by simp) fun q h1 h2=>by simp
theorem a6U {α:Type} (r:Nat) (z x:α):((List.range r).map fun q=>if q<r then z else x)=List.replicate r z:=by
 refine List.ext_getElem (by simp) fun q h1 h2=>?_;simp at h1;simp[h1]
set_option maxRecDepth 100000 in
theorem a4h (X:Nat->Bool) (w:World) (r c:Nat) (hX:HX X w) (hr:r<=1000) (hc:c<=1000):Calls Tryz.prog 198 #[.int .i64 (r:Int), .int .i64 (c:Int)] w (b5X X 45 32 w (List.replicate r (List.replicate c 0))):=by
 go_enter Tryz.func198,Tryz.ntmps198
 go_wp2_with ((with_reducible show wpList _ _ _ (⟨_, .makeSlice _ _ _,_,_,_,_⟩::_) _ _);refine a1Z (R:=HdR) a0r HdR.elem (none,0,0) (fun _=>rfl) X hX w.heap.size (Nat.le_refl _) r rfl rfl rfl (by omega) (by omega) ?_;intro ao w1 hO1 hE1)
 have hM1:=MO.start hO1 32;have hh:=hO1.hd;simp only[List.length_replicate]at hh;have h0:List.replicate r ([]:List Rat)=(List.range r).map fun q=>if q<0 then List.replicate c 0 else[]:=(a6T r _ _).symm
 rw[h0]at hM1;clear hO1 h0;go_loopw [11] (fun k wr=>∃(i:Nat) (hs:List Hdr),k= .int .i64 i/\i<=r/\Hid (∀q (hq:q<hs.length),i<=q->hs[q].1=none)/\MO X w.heap.size 45 32 wr ao r hs ((List.range r).map fun q=>if q<i then List.replicate c 0 else[])/\Ext w wr) (fun k _=>r - (intOf k).toNat)
 case atStart=>exact⟨0,_,rfl,Nat.zero_le _,hid (fun q hq _=>by simp),hM1,hE1⟩
 case round=>
  obtain⟨i,hs,rfl,hi,hnil,hM,hE⟩:=hrel;have hXr:HX X wr:=hX.ext hE;have hXz:=hM.hz hXr;have hlen:=hid hM.len;have hml:Hid (((List.range r).map fun q=>if q<i then List.replicate c (0:Rat)else[]).length=r):=hid (by simp);by_cases hlt:i<r
  ·have hih:i<hs.length:=by rw[hlen.out,hml.out];exact hlt
   have hps:=hid (a8x r i (List.replicate c (0:Rat)) [] hlt);have hn:=hnil.out i hih (Nat.le_refl _);go_wp2_with (first|(with_reducible refine a0t a0r (by omega) (by assumption) ?_)|((with_reducible show wpList _ _ _ (⟨_, .makeSlice _ _ _,_,_,_,_⟩::_) _ _);refine a1Z (R:=QC) a0E QC.elem (0:Rat) (fun _=>QC.zero _) (mz X ao hs) hXz wr.heap.size (Nat.le_refl _) c rfl rfl rfl (by omega) (by omega) ?_;intro a1 w2 hO2 hE2)|((with_reducible show wpList _ _ _ (⟨_, .store _ _ _,_,_,_,_⟩::_) _ _);refine a2O a6E HdR.elem i rfl (by simp) (hM.outer.ext0 HdR.elem hE2) hih (.slice a1 c c) (a1,c,c) rfl rfl ?_;intro w3 hO3 hE3))
   have hM3:=hM.put (l:=List.replicate c 0) hih hn hE2 (fun k hk=>(hO2.block hk).1) (hO2.base_le hE.size) hXr hE3 (by simpa using hO3);rw[hps.out]at hM3;have hE4:Ext w w3:=(hE.trans hE2).then_ hE3 fun k hk _=>by
    cases hb:ob ao k
    ·rfl
    ·have:=(hM.outer.block hb).1;omega
   have hnil2:Hid (∀q (hq:q<(hs.set i (a1,(List.replicate c (0:Rat)).length,c)).length),i+1<=q->(hs.set i (a1,(List.replicate c (0:Rat)).length,c))[q].1=none):=hid fun q hq hiq=>by
    rw[List.getElem_set_ne (by omega)];exact hnil.out q (by simpa using hq) (by omega)
   go_roundw
   case rel=>exact⟨i+1,_,by go_num,by omega,hnil2,hM3,hE4⟩
   case measure=>simp[intOf];omega
  ·have hir:i=r:=by omega
   subst hir;rw[a6U]at hM;go_wp2_with fail
   go_ret
   exact⟨hE,ao,i,hs,by simp,hM⟩
end Go.Proofs.YtkddecjkfdogiaaGreat
namespace Go.Lin
def mix {α:Type} (a b:List α) (i:Nat):List α:=a.take i++b.drop i
theorem a1p {α:Type} {a b:List α} (h:a.length=b.length) (i:Nat):(mix a b i).length=a.length:=by simp[mix];omega
theorem a2B {α:Type} (a b:List α):mix a b 0=b:=by simp[mix]
theorem a2C {α:Type} {a b:List α} {i:Nat} (h1:a.length<=i) (h2:b.length<=i):mix a b i=a:=by simp[mix,List.take_of_length_le h1,List.drop_of_length_le h2]
theorem a0N {α:Type} {a b:List α} (h:a.length=b.length) (i q:Nat) (hq:q<(mix a b i).length):(mix a b i)[q]=if q<i then a[q]'(by rw[a1p h]at hq;exact hq)else b[q]'(by rw[a1p h]at hq;omega):=by
 have hq':=hq;rw[a1p h]at hq';have hq2:q<(a.take i++b.drop i).length:=hq
 show(a.take i++b.drop i)[q]'hq2=_
 rw[List.getElem_append];by_cases a1:q<i
 ·rw[dif_pos (by simp;omega),if_pos a1,List.getElem_take]
 ·rw[dif_neg (by simp;omega),if_neg a1,List.getElem_drop]
  congr 1
  simp;omega
theorem a3r {α:Type} {a b:List α} (h:a.length=b.length) {i:Nat} (hi:i<a.length):(mix a b i).set i a[i]=mix a b (i+1):=by
 refine List.ext_getElem (by simp[a1p h]) fun q h1 h2=>?_;rw[List.getElem_set];split
 ·subst_vars;rw[a0N h,if_pos (by omega)]
 ·rw[a0N h,a0N h]
  by_cases a1:q<i
  ·rw[if_pos a1,if_pos (by omega)]
  ·rw[if_neg a1,if_neg (by omega)]
theorem b2L {α:Type} {a b:List α} (h:a.length=b.length) {i:Nat} (hi:i<b.length):(mix a b i).set i b[i]=mix a b i:=by
 refine List.ext_getElem (by simp) fun q h1 h2=>?_;rw[List.getElem_set];split
 ·subst_vars;rw[a0N h,if_neg (by omega)]
 ·rfl
end Go.Lin
namespace Go.Proofs.YtkddecjkfdogiaaGreat
open Go.RowKit Go.Rep Go.Lim Go.Lin
set_option maxRecDepth 100000 in
set_option maxHeartbeats 800000 in
theorem a2K (X:Nat->Bool) (w:World) (u:Value) (m:List (List Rat)) (n c:Nat) (hX:HX X w) (hu:MV (mk X w) u m) (hsh:Shp n c m) (hc:colsL m=c) (hn:n<=1000) (hcc:c<=1000):Calls Tryz.prog 199 #[u] w (b5X X 45 32 w m):=by
 have hcol:=a1G X w u m hu;obtain⟨ao0,ca,rfl,hca,hsa⟩:=hu;have hha:=hsa.hd;rw[hc]at hcol;have hml:=hid hsh.1;have hrl:=hid hsh.2;rw[hml.out]at hca hha hcol |-;obtain⟨A,hA⟩:∃A,List.replicate n (List.replicate c (0:Rat))=A:=⟨_,rfl⟩;have hAl:Hid (A.length=n):=hid (by rw[<-hA];simp);have hAi:Hid (∀i (hi:i<A.length),A[i]=List.replicate c (0:Rat)):=hid fun i hi=>by subst hA;simp
 have hmA:Hid (m.length=A.length):=hid (by rw[hml.out,hAl.out]);have hz0:=a4h X w n c hX hn hcc;rw[hA]at hz0;clear hA hsh hc;go_enter Tryz.func199,Tryz.ntmps199
 go_wp2_with fail
 refine hcol.mono ?_;rintro e w1 ⟨rfl,rfl⟩;go_wp2_with fail
 refine hz0.mono ?_;rintro e w2 ⟨hE2,ao,cap,hs,rfl,hM2⟩;rw[hAl.out];have hlen:=hid (hM2.len.trans hAl.out);have hcap:n<=cap:=by have:=hM2.capLen;rw[hAl.out]at this;exact this
 have hhO:Hd ao n:=by have:=hM2.outer.hd;rw[hlen.out]at this;exact this
 have hrl2:Hid (∀i (hi:i<hs.length),hs[i].2.1=c):=hid fun i hi=>by
  have h1:i<A.length:=by rw[hAl.out,<-hlen.out];exact hi
  rw[hM2.rlen i hi h1,hAi.out i h1];simp
 clear hcol hz0;go_wp2_with fail
 go_loopw [15] (fun k wr=>∃(i:Nat),k= .int .i64 i/\i<=n/\MO X w1.heap.size 45 32 wr ao cap hs (mix m A i)/\Ext w1 wr) (fun k _=>n - (intOf k).toNat)
 case atStart=>exact⟨0,rfl,Nat.zero_le _,by rw[a2B];exact hM2,hE2⟩
 case round=>
  obtain⟨i,rfl,hi,hM,hE⟩:=hrel;by_cases hlt:i<n
  ·have him:i<m.length:=by rw[hml.out];exact hlt
   have hiA:i<A.length:=by rw[hAl.out];exact hlt
   have hih:i<hs.length:=by rw[hlen.out];exact hlt
   obtain⟨a1,c1,hX1,hc1,hcl1,hq1⟩:=hsa.row i him;have k00:=hc1.out noY wr hE rfl;obtain⟨x,hx⟩:∃x,m[i]=x:=⟨_,rfl⟩;obtain⟨z,hz⟩:∃z,A[i]=z:=⟨_,rfl⟩;rw[hx]at k00 hcl1 hq1;have hxl:Hid (x.length=c):=hid (by rw[<-hx];exact hrl.out _ (List.getElem_mem _));have hzl:Hid (z.length=c):=hid (by rw[<-hz,hAi.out i hiA];simp);have hxz:Hid (x.length=z.length):=hid (by rw[hxl.out,hzl.out]);rw[hxl.out]at k00 hcl1;have hst:Hid ((mix m A i).set i z=mix m A i):=hid (by rw[<-hz];exact b2L hmA.out hiA);have hfin:Hid ((mix m A i).set i x=mix m A (i+1)):=hid (by rw[<-hx];exact a3r hmA.out him);have hmi:Hid (i<(mix m A i).length):=hid (by rw[a1p hmA.out];exact him);have hh1:Hd a1 c:=by have:=hq1.hd;rw[hxl.out]at this;exact this
   have hrow:RV (mk X w1) (.slice a1 c c1) x:=⟨a1,c1,by rw[hxl.out],by rw[hxl.out];exact hcl1,hq1⟩;obtain⟨a,na,cr,hhd⟩:∃a na cr,hs[i]=(a,na,cr):=⟨_,_,_,rfl⟩;have hna:na=c:=by have:=hrl2.out i hih;rw[hhd]at this;exact this
   subst hna;have hhd':=hid hhd;rw[<-hst.out]at hM;have hM':MO X w1.heap.size 45 32 wr ao cap hs ((mix m A i).set i (mix x z 0)):=by rw[a2B];exact hM
   clear hx hz hc1 hq1 hhd hM;obtain⟨wo,hwo⟩:∃wo,wo=wr:=⟨_,rfl⟩;subst hwo;go_wp2_with (with_reducible refine a0t a0r (by omega) (by assumption) ?_)
   go_loopw [22] (fun k wr=>∃(j:Nat),k= .int .i64 j/\j<=na/\MO X w1.heap.size 45 32 wr ao cap hs ((mix m A i).set i (mix x z j))/\Ext w1 wr) (fun k _=>na - (intOf k).toNat)
   case atStart=>exact⟨0,rfl,Nat.zero_le _,hM',hE⟩
   case round=>
    obtain⟨j,rfl,hj,hM,hE⟩:=hrel;by_cases hlj:j<na
    ·have hjx:j<x.length:=by rw[hxl.out];exact hlj
     have hXr:HX X wr:=hX.ext hE;have hXz:=hM.hz hXr;have hsr:Sl QV 3 (mk (mz X ao hs) wr) a1 x:=by
      obtain⟨_,_,heq,_,h3⟩:=hM.old RV.mono hrow hE (Nat.le_refl _) (fun _ _ h=>h);simp only[Value.slice.injEq]at heq;obtain⟨rfl,_,rfl⟩:=heq;exact h3
     have hmx:Hid (i<((mix m A i).set i (mix x z j)).length):=hid (by rw[List.length_set];exact hmi.out);have hjl:Hid ((mix x z j).length=na):=hid (by rw[a1p hxz.out,hxl.out]);have hOr:=hM.row i hih hmx.out;rw[List.getElem_set_self]at hOr;simp only[hhd'.out]at hOr;have hda:Hd a na:=by have:=hOr.hd;rw[hjl.out]at this;exact this
     have hun:Hid (un (cut (mz X ao hs) a) a=mz X ao hs):=hid (a2I fun k hk=>by have:=hM.mz_sub hih k;rw[hhd'.out]at this;exact this hk);have hbsep:Hid (ob a (adr ao i).block=false):=hid (by
      cases hb:ob a (adr ao i).block
      ·rfl
      ·have h1:=(hM.sep i hih (adr ao i).block (by rw[hhd'.out];exact hb)).2
       obtain⟨b0,o0,rfl⟩:=hhO (by omega);simp[ob,adr]at h1)
     have hbnew:Hid (ob a wr.heap.size=false):=hid (hOr.ob_ge (Nat.le_refl _));obtain⟨g,o,hg⟩:∃g o,adr a (j*3)=⟨g,o,none⟩:=⟨_,_,rfl⟩;have i2:∀W,(Instr.indexAt 25 (.slice ao n cap) (.int .i64 (i:Int))).run Tryz.prog W= .ok (.pointer (some (adr ao i))) W:=a0z a0r ao n cap .i64 i hhO (by omega) rfl;have i3:∀W,(Instr.indexAt 45 (.slice a na cr) (.int .i64 (j:Int))).run Tryz.prog W= .ok (.pointer (some ⟨g,o,none⟩)) W:=by rw[<-hg];exact a0n a0E a na cr .i64 j hda (by omega)
     have bx:=Bx.new wr #[.bool false, .slice none 0 0, .slice none 0 0] 32;obtain⟨Z,hZ⟩:∃Z,mz X ao hs=Z:=⟨_,rfl⟩;have hZ':=hid hZ;rw[hZ]at hXz hsr hOr hun;have hjs:Hid ((mix x z j).set j x[j]=mix x z (j+1)):=hid (a3r hxz.out hjx);have hadd0:Hid (x[j]+0=x[j]):=hid (Rat.add_zero _);have hhdr:=(hM.hdr i hih).1;rw[hhd'.out]at hhdr
     dsimp only at hhdr
     clear hZ k00;go_wp2_with (first|(with_reducible refine a2r a0E (by omega) (by assumption) ?_)|((with_reducible show wpList _ _ _ (⟨_, .load _ _,_,_,_,_⟩::_) _ _);refine a1d a0w j hsr hjx rfl (by simp) QV.agg ?_;intro u5 hu5;obtain⟨s5,a5,n5,c5,d5,k5,e5,rfl⟩:=hu5.shape)|((with_reducible show wpList _ _ _ (⟨_, .store _ _ _,_,_,_,_⟩::_) _ _);refine a0c a0w rfl rfl bx rfl rfl (a3n _ _ _ _ _ _ _) ?_;intro w5 r1 r2))
     have hE5:Ext wr w5:=ExtX.box ((ExtX.refl wr).alloc _) r2 (Nat.le_refl _);have hEd:Ext w5 w5.drew:=(ExtX.refl w5).drew;have hM5:=hM.ext0 hE5;have hO5:=hOr.ext0 QC.elem hE5;have hx5:QV (mk Z w5.drew) (.agg #[.bool s5, .slice a5 n5 c5, .slice d5 k5 e5]) x[j]:=mkx QV.mono hu5 (hE5.trans hEd);have h00:QV (mk Z w5.drew) (.agg #[.bool false, .slice none 0 0, .slice none 0 0]) 0:=(QC.zero _).qv (by rw[a0Q];decide);have hXd:HX Z w5.drew:=hXz.ext (hE5.trans hEd);have hS:Hid (∀Y W',ExtX Y w5.drew W'->Y (adr ao i).block=false->Y wr.heap.size=false->W'.cell? (adr ao i)=some (.slice a na cr)/\W'.cell? ⟨wr.heap.size,0,none⟩=some (.bool s5)/\W'.cell? ⟨wr.heap.size,1,none⟩=some (.slice a5 n5 c5)/\W'.cell? ⟨wr.heap.size,2,none⟩=some (.slice d5 k5 e5)):=hid fun Y W' h hy1 hy2=>by
      have b1:=(r1.ext0 hEd).ext h hy2;exact⟨h.cellY ((hE5.trans hEd).cell hhdr) hy1,b1.cell 0 rfl,b1.cell 1 rfl,b1.cell 2 rfl⟩
     obtain⟨k20,k30,k31,k32⟩:=hS.out noY w5.drew (ExtX.refl _) rfl rfl;obtain⟨bw,hbw⟩:∃bw,wr.heap.size=bw:=⟨_,rfl⟩;rw[hbw]at hS k30 k31 k32 hbnew |-;clear hhdr r1 bx;go_wp2_with fail
     go_region_held3 (fun w'=>w'.cell? (adr ao i)=some (.slice a na cr)/\w'.cell? ⟨bw,0,none⟩=some (.bool s5)/\w'.cell? ⟨bw,1,none⟩=some (.slice a5 n5 c5)/\w'.cell? ⟨bw,2,none⟩=some (.slice d5 k5 e5))
      (first|exact hS.out noY _ t1 rfl rfl|exact hS.out (ob a) _ ((ExtX.of t1).trans hset.2) hbsep.out hbnew.out|go_keep)
      ((go_at_call 146;(with_reducible refine(b2H Z w5.drew _ _ _ 0 hXd hx5 h00).mono ?_);rintro ee w6 ⟨t1,u6,rfl,hu6⟩;obtain⟨s6,a6,n6,c6,d6,k6,e6,rfl⟩:=hu6.shape;rw[hadd0.out]at hu6;have hO6:=hO5.ext0 QC.elem (hEd.trans t1);obtain⟨_,v0,v1,v2,_,⟨g0,f0⟩,⟨g1,f1⟩,⟨g2,f2⟩,_⟩:=hO6.cell3 j (by rw[hjl.out];exact hlj) hg;have hset:=hO6.set3 a6c QC.elem j (by rw[hjl.out];exact hlj) hg (v0:= .bool s6) (v1:= .slice a6 n6 c6) (v2:= .slice d6 k6 e6) (x:=x[j]) (by rw[hun.out];exact hu6)))
     obtain⟨q1,q2⟩:=hset;rw[hjs.out]at q1;have q2':ExtX (ob hs[i].1) w6 (((w6.setCell ⟨g,o,none⟩ (.bool s6)).setCell ⟨g,o+1,none⟩ (.slice a6 n6 c6)).setCell ⟨g,o+2,none⟩ (.slice d6 k6 e6)):=by rw[hhd'.out];exact q2
     have hM6:=hM5.ext0 (hEd.trans t1);have hM7:=hM6.upd hih (l:=mix x z (j+1)) q2' (fun hi'=>by rw[List.getElem_set_self,a1p hxz.out,a1p hxz.out]) (by rw[hZ'.out,hhd'.out];exact q1);rw[List.set_set]at hM7;have hE7:=hM6.ext_from ((hE.trans hE5).trans (hEd.trans t1)) (Nat.le_refl _) (ExtX.row hih q2');clear k20 k30 k31 k32 g0 g1 g2 f0 f1 f2 i2 i3;go_wp2_with fail
     go_roundw
     case rel=>exact⟨j+1,by go_num,by omega,hM7,hE7⟩
     case measure=>simp[intOf];omega
    ·have hjn:j=na:=by omega
     subst hjn;rw[a2C (a:=x) (b:=z) (by rw[hxl.out];exact Nat.le_refl _) (by rw[hzl.out];exact Nat.le_refl _),hfin.out]at hM;go_wp2_with fail
     go_roundw
     case rel=>exact⟨i+1,by go_num,by omega,hM,hE⟩
     case measure=>simp[intOf];omega
  ·have hin:i=n:=by omega
   subst hin;rw[a2C (by rw[hml.out];exact Nat.le_refl _) (by rw[hAl.out];exact Nat.le_refl _)]at hM;go_wp2_with fail
   go_ret
   exact⟨hE,ao,cap,hs,by rw[hml.out];rfl,hM⟩
end Go.Proofs.YtkddecjkfdogiaaGreat
namespace Go.Rep
open Go.RowKit Go.Lim
section
variable {P:Program} {ops:Array Oper} {Q:Exit->Act->World->Prop} {rest:List Oper} {a:Act} {w:World}
variable {α:Type} {R:Mem->Value->α->Prop} {sz:Nat} {X:Nat->Bool} {base:Nat} {e:TypeId} {ao:Option Addr} {cap:Nat} {l:List α}
variable {d:Option Tmp} {ty:TypeId} {ps:String} {af:Array Edge}
theorem a4i {t:TypeId} {x:Operand} {k:Nat} (hT:a1F P t sz) (i:Nat) (h:OL R sz X base e w ao cap l) (hi:i<l.length) (hx:a.eval x= .pointer (some (adr ao k))) (hk:k=i*sz) (hag:∀h u y,R h u y->∃cs,u= .agg cs)
  (K:∀u,R (mk (un X ao) w) u l[i]->wpList P ops Q rest (a.put d u) w):
  wpList P ops Q (⟨d, .load t x,ty,ps,af,none⟩::rest) a w:=by
 refine wpList_plain rfl fun K' hK'=>?_;subst hk;obtain⟨fs,ti,h1,h2,h3⟩:=hT;obtain⟨us,p1,p2,_,p3,p5⟩:=h.cells;have hi':i<us.length:=by omega
 have h6:=p5 i hi' hi;obtain⟨cs,hcs⟩:=hag _ _ _ h6;have hsz:cs.toList.length=sz:=by have:=p2 us[i] (List.getElem_mem _);rw[hcs]at this;simpa[Value.cells]using this
 have hl:=run_loadCells_list (P:=P) w (adr ao (i*sz)) cs.toList (fun j v hj=>by
  rw[a7q];have hj1:j<sz:=by rw[<-hsz];exact(List.getElem?_eq_some_iff.1 hj).1
  have hget:=a3w us i j hi' p2 hj1;rw[hcs]at hget;have hj2:(a0g (.agg cs))[j]? =some v:=by simpa[a0g,Value.cells]using hj
  rw[hj2]at hget;exact(p3 _ _ hget).1)
 rw[hsz]at hl;unfold Oper.wp;simp[execOp,hx,Instr.loadAt,Instr.sureAddr,loadVar,isAgg,run_underlying h1,sizeOf,typeInfo,h2,h3,hl,Result.andThen];rw[hcs]at h6;exact hK' _ _ (K _ h6)
end
theorem OL.rat {R:Mem->Value->Rat->Prop} (hR:a8f R) {X:Nat->Bool} {base:Nat} {e:TypeId} {w:World} {ao:Option Addr} {cap:Nat} {l:List Rat} (h:OL R 3 X base e w ao cap l) (i:Nat) (hi:i<l.length):
  ∃g o sg a n c d k e,adr ao (i*3)=⟨g,o,none⟩/\ob ao g=true/\Hid (∀Y W',ExtX Y w W'->Y g=false->W'.cell? ⟨g,o,none⟩=some (.bool sg)/\W'.cell? ⟨g,o+1,none⟩=some (.slice a n c)/\W'.cell? ⟨g,o+2,none⟩=some (.slice d k e))/\R (mk (un X ao) w) (.agg #[.bool sg, .slice a n c, .slice d k e]) l[i]:=by
 obtain⟨b0,o0,hb0⟩:=h.hd (by omega);have hg:adr ao (i*3)=⟨b0,o0+i*3,none⟩:=by rw[hb0];rfl
 obtain⟨u,v0,v1,v2,hu,⟨h0,_⟩,⟨h1,_⟩,⟨h2,_⟩,h3⟩:=h.cell3 i hi hg;obtain⟨sg,a,n,c,d,k,e,rfl⟩:=hR _ _ _ h3;simp only[a0g,Value.cells,List.cons.injEq,and_true]at hu;obtain⟨rfl,rfl,rfl⟩:=hu;exact⟨_,_,sg,a,n,c,d,k,e,hg,by rw[hb0];simp[ob],hid fun Y W' hE hY=>⟨hE.cellY h0 hY,hE.cellY h1 hY,hE.cellY h2 hY⟩,h3⟩
end Go.Rep
namespace Go.Proofs.YtkddecjkfdogiaaGreat
open Go.RowKit Go.Rep Go.Lim Go.Lin
def b5g (X:Nat->Bool) (w:World) (m:List (List Rat)) (e:Ending) (w':World):Prop:=Ext w w'/\∃u,e= .returned (.tuple #[u, .int .i64 0])/\MC (mk X w') u m
theorem a4J (X:Nat->Bool) (w:World) (u:Value) (m:List (List Rat)) (hu:MV (mk X w) u m) (hl:m.length<=1099511627776) (hf:a0x m=false):Calls Tryz.prog 177 #[u] w (fun e w'=>w'=w/\e= .returned (.tuple #[.slice none 0 0, .int .i64 6])):=by
 have hfo:=a1M X w u m hu hl;rw[hf]at hfo;clear hf;go_enter Tryz.func177,Tryz.ntmps177
 go_wp2_with fail
 refine hfo.mono ?_;rintro e w1 ⟨rfl,rfl⟩;go_wp2_with fail
 go_ret2
 exact⟨rfl,rfl⟩
set_option maxRecDepth 100000 in
set_option maxHeartbeats 1600000 in
theorem a2e (X:Nat->Bool) (w:World) (u:Value) (m:List (List Rat)) (n c:Nat) (hX:HX X w) (hu:MV (mk X w) u m) (hf:a0x m=true) (hnn:m.length=n) (hcc:colsL m=c):Calls Tryz.prog 177 #[u] w (b5g X w (trL m n c)):=by
 obtain⟨hsh,h96,hc96,_,_⟩:=a0K hf;rw[hnn,hcc]at hsh;rw[hnn]at h96;rw[hcc]at hc96;have hfo:=a1M X w u m hu (by omega);rw[hf]at hfo;have hcol:=a1G X w u m hu;rw[hcc]at hcol;have hsh':=hid hsh;have hnn':=hid hnn;have hcc':=hid hcc;obtain⟨ua,uca,rfl,huca,hua⟩:=hu;have hu:MV (mk X w) (.slice ua m.length uca) m:=⟨ua,uca,rfl,huca,hua⟩;rw[hnn]at hfo hcol hu |-;clear hf hnn hcc hsh huca hua;go_enter Tryz.func177,Tryz.ntmps177
 go_wp2_with fail
 refine hfo.mono ?_;rintro e w1 ⟨rfl,rfl⟩;go_wp2_with fail
 refine hcol.mono ?_;rintro e w2 ⟨rfl,rfl⟩;go_wp2_with fail
 refine(a4h X w2 c n hX (by omega) (by omega)).mono ?_;rintro e w3 ⟨hE3,ao,cap,hs,rfl,hM3⟩;rw[List.length_replicate];have hlen:Hid (hs.length=c):=hid (by rw[hM3.len];simp);have hhO:Hd ao c:=by have:=hM3.outer.hd;rw[hlen.out]at this;exact this
 have hX3:=hX.ext hE3;have hZ3:=hM3.hz hX3;have hu3:=hM3.old MV.mono hu hE3 (Nat.le_refl _) (fun _ _ h=>h);rw[<-b1F m n c]at hM3;have hco:=a2K (mz X ao hs) w3 _ m n c hZ3 hu3 hsh'.out hcc'.out (by omega) (by omega);clear hfo hcol hu hu3;go_wp2_with fail
 refine hco.mono ?_;rintro e w4 ⟨hE4,bo,capb,hs4,rfl,hM4⟩;have hmc4:=hM4.mc;rw[hnn'.out]at hmc4 |-;have hM34:=hM3.ext0 hE4;have hE04:=hE3.trans hE4;obtain⟨ba,bca,heq,hbca,hsb⟩:=hmc4;simp only[Value.slice.injEq]at heq;obtain⟨rfl,hx9,rfl⟩:=heq;clear hx9;have hhb:=hsb.hd;rw[hnn'.out]at hhb;obtain⟨Z,hZe⟩:∃Z,mz X ao hs=Z:=⟨_,rfl⟩;have hZ':=hid hZe;rw[hZe]at hsb hZ3;clear hco hM3 hM4 hZe;go_wp2_with fail
 go_loopw [20] (fun k wr=>∃(i:Nat),k= .int .i64 i/\i<=n/\MO X w2.heap.size 45 32 wr ao cap hs (trN m n c i 0)/\Sl RC 1 (mk Z wr) bo m/\Ext w2 wr) (fun k _=>n - (intOf k).toNat)
 case atStart=>exact⟨0,rfl,Nat.zero_le _,hM34,hsb,hE04⟩
 case round=>
  obtain⟨i,rfl,hi,hM,hsb,hE⟩:=hrel;by_cases hlt:i<n
  ·have him:i<m.length:=by rw[hnn'.out];exact hlt
   obtain⟨a1,c1,hX1,hc1,hcl1,hq1⟩:=hsb.row i him;have k00:=hc1.out noY wr (ExtX.refl _) rfl;have hxl:Hid (m[i].length=c):=hid (hsh'.out.2 _ (List.getElem_mem _));have hei:Hid (∀j (hj:j<m[i].length),m[i][j]=ent m i j):=hid fun j hj=>by
    unfold ent;rw[show m.getD i []=m[i]by simp[List.getD_eq_getElem?_getD,him],List.getD_eq_getElem?_getD,List.getElem?_eq_getElem hj];rfl
   obtain⟨x,hx⟩:∃x,m[i]=x:=⟨_,rfl⟩;rw[hx]at k00 hcl1 hq1 hxl hei;rw[hxl.out]at k00 hcl1;have hh1:Hd a1 c:=by have:=hq1.hd;rw[hxl.out]at this;exact this
   clear hc1 hx;obtain⟨wo,hwo⟩:∃wo,wo=wr:=⟨_,rfl⟩;subst hwo;go_wp2_with (with_reducible refine a0t a0r (by omega) (by assumption) ?_)
   go_loopw [27] (fun k wr=>∃(j:Nat),k= .int .i64 j/\j<=c/\MO X w2.heap.size 45 32 wr ao cap hs (trN m n c i j)/\Sl QC 3 (mk Z wr) a1 x/\Sl RC 1 (mk Z wr) bo m/\Ext w2 wr) (fun k _=>c - (intOf k).toNat)
   case atStart=>exact⟨0,rfl,Nat.zero_le _,hM,hq1,hsb,hE⟩
   case round=>
    obtain⟨j,rfl,hj,hM,hq1,hsb,hE⟩:=hrel;by_cases hlj:j<c
    ·have hjx:j<x.length:=by rw[hxl.out];exact hlj
     have hjh:j<hs.length:=by rw[hlen.out];exact hlj
     have hjt:j<(trN m n c i j).length:=by rw[b3C];exact hlj
     obtain⟨a,na,cr,hhd⟩:∃a na cr,hs[j]=(a,na,cr):=⟨_,_,_,rfl⟩;have hna:na=n:=by
      have:=hM.rlen j hjh hjt;rw[hhd,a6f]at this;exact this
     subst hna;have hR:=hM.row j hjh hjt;simp only[hhd]at hR;have hz1:=fun k (hk:ob a k=true)=>hM.mz_sub hjh k (by rw[hhd];exact hk);have hsp:=fun k (hk:ob a k=true)=>hM.sep j hjh k (by rw[hhd];exact hk);have hun:Hid (un (cut (mz X ao hs) a) a=mz X ao hs):=hid (a2I hz1);have hil:i<((trN m na c i j)[j]).length:=by rw[a6f];exact hlt
     have hda:Hd a na:=by have:=hR.hd;rw[a6f]at this;exact this
     have hvj:=hid (hei.out j hjx);have hset9:=hid (b3D (m:=m) (n:=na) (c:=c) (i:=i) (j:=j) hjt);obtain⟨v,hv⟩:∃v,ent m i j=v:=⟨_,rfl⟩;rw[hv]at hvj hset9;have y1:wr.cell? (adr ao j)=some (.slice a na cr):=by
      have:=(hM.hdr j hjh).1;rw[hhd]at this;exact this
     have haob:Hid (ob a (adr ao j).block=false):=hid (by
      cases hb:ob a (adr ao j).block
      ·rfl
      ·have h1:=(hsp _ hb).2
       obtain⟨b0,o0,rfl⟩:=hhO (by omega);simp[ob,adr]at h1)
     have i1:∀W,(Instr.indexAt 25 (.slice ao c cap) (.int .i64 (j:Int))).run Tryz.prog W= .ok (.pointer (some (adr ao j))) W:=a0z a0r ao c cap .i64 j hhO (by omega) rfl;have bx:=Bx.new wr #[.bool false, .slice none 0 0, .slice none 0 0] 32;have hhd':=hid hhd;clear hhd hv k00;go_wp2_with (first|(with_reducible refine a2r a0E (by omega) (by assumption) ?_)|((with_reducible show wpList _ _ _ (⟨_, .load 32 _,_,_,_,_⟩::_) _ _);refine a1d a0w j hq1 hjx rfl (by simp) QC.agg ?_;intro u5 hu5;rw[hvj.out]at hu5;obtain⟨s5,a5,n5,c5,d5,k5,e5,rfl⟩:=hu5.shape)|((with_reducible show wpList _ _ _ (⟨_, .store _ _ _,_,_,_,_⟩::_) _ _);refine a0c a0w rfl rfl bx rfl rfl (a3n _ _ _ _ _ _ _) ?_;intro w5 r1 r2))
     have hE5:Ext wr w5:=ExtX.box ((ExtX.refl wr).alloc _) r2 (Nat.le_refl _);obtain⟨g,o,hg⟩:∃g o,adr a (i*3)=⟨g,o,none⟩:=⟨_,_,rfl⟩;have i2:∀W,(Instr.indexAt 45 (.slice a na cr) (.int .i64 (i:Int))).run Tryz.prog W= .ok (.pointer (some ⟨g,o,none⟩)) W:=by rw[<-hg];exact a0n a0E a na cr .i64 i hda (by omega)
     have hM5:=hM.ext0 hE5;have hR5:=hR.ext0 QC.elem hE5;have hu5':=mkx QC.mono hu5 hE5;have z1:=hE5.cell y1;have k30:=r1.cell 0 rfl;have k31:=r1.cell 1 rfl;have k32:=r1.cell 2 rfl;obtain⟨_,v0,v1,v2,_,⟨g0,f0⟩,⟨g1,f1⟩,⟨g2,f2⟩,_⟩:=hR5.cell3 i hil hg;have hset:=hR5.set3 a6c QC.elem i hil hg (v0:= .bool s5) (v1:= .slice a5 n5 c5) (v2:= .slice d5 k5 e5) (x:=v) (by rw[hun.out,hZ'.out];exact hu5');clear y1 bx r1;go_wp2_with fail
     go_region
     all_goals
      obtain⟨q1,q2⟩:=hset;have q2d:=q2.drew;have q1d:=q1.ext0 QC.elem ((ExtX.refl (Y:=noY) _).drew);obtain⟨w8,hw8⟩:∃w8,(((w5.setCell ⟨g,o,none⟩ (.bool s5)).setCell ⟨g,o+1,none⟩ (.slice a5 n5 c5)).setCell ⟨g,o+2,none⟩ (.slice d5 k5 e5)).drew=w8:=⟨_,rfl⟩;rw[hw8]at q1d q2d |-;have q2':ExtX (ob hs[j].1) w5 w8:=by rw[hhd'.out];exact q2d
      have hM7:=hM5.upd hjh q2' (fun hi'=>List.length_set) (by rw[hhd'.out];exact q1d);rw[hset9.out]at hM7;have hzz:∀k,ob a k=true->Z k=true:=fun k hk=>by rw[<-hZ'.out];exact hz1 k hk
      have hq8:=(hq1.mono QC.mono (a0o hE5)).mono QC.mono (a0O q2d hzz);have hs8:=(hsb.mono RC.mono (a0o hE5)).mono RC.mono (a0O q2d hzz);have hE8:=hM5.ext_from (hE.trans hE5) (Nat.le_refl _) (ExtX.row hjh q2');clear z1 k30 k31 k32 g0 g1 g2 f0 f1 f2 i1 i2 hw8 q1 q2;go_wp2_with fail
      go_roundw
      case rel=>exact⟨j+1,by go_num,by omega,hM7,hq8,hs8,hE8⟩
      case measure=>simp[intOf];omega
    ·have hjc:j=c:=by omega
     subst hjc;rw[b1G]at hM;go_wp2_with fail
     go_roundw
     case rel=>exact⟨i+1,by go_num,by omega,hM,hsb,hE⟩
     case measure=>simp[intOf];omega
  ·have hin:i=n:=by omega
   subst hin;rw[b1H]at hM;have hmc:=hM.mc;go_wp2_with fail
   go_ret2
   exact⟨hE,_,rfl,by rw[(a2j m i c).1]at hmc;exact hmc⟩
set_option maxRecDepth 100000 in
set_option maxHeartbeats 1600000 in
theorem b3J (X:Nat->Bool) (w:World) (u v:Value) (l m:List Rat) (hX:HX X w) (hu:RV (mk X w) u l) (hv:RV (mk X w) v m) (hn:l.length<=1000000) (hml:m.length=l.length) (hb1:∀k,k<=l.length->hq (a4P l m k)<=68719476736) (hb2:∀k,k<l.length->hq (l.getD k 0*m.getD k 0)<=68719476736):
  Calls Tryz.prog 234 #[u,v] w (a2w X w QC (a3q l m)):=by
 obtain⟨ao,ca,rfl,hca,hsa⟩:=hu;obtain⟨bo,cb,rfl,hcb,hsb⟩:=hv;have hha:=hsa.hd;have hhb:=hsb.hd;obtain⟨W,hW,hE,b0,b1,hz⟩:=a1Y w #[.bool false, .slice none 0 0, .slice none 0 0] #[.bool false, .slice none 0 0, .slice none 0 0] 32 32;have hXW:HX (a0i X w.heap.size 2) W:=hX.boxes hz;have h0:QC (mk (a0i X w.heap.size 2) W) (.agg #[.bool false, .slice none 0 0, .slice none 0 0]) (a4P l m 0):=QC.zero _;obtain⟨n,hln⟩:∃n,l.length=n:=⟨_,rfl⟩;rw[hln]at hn hml hb1 hb2 hca hha |-;rw[hml]at hcb hhb |-;have hln':=hid hln;have hml':=hid hml;have hb1':=hid hb1;have hb2':=hid hb2;have hdot:Hid (a4P l m n=a3q l m):=hid (by unfold a3q;rw[hln]);clear hln hml hb1 hb2;go_enter Tryz.func234,Tryz.ntmps234
 go_wp2_with fail
 obtain⟨b,hb⟩:∃b,w.heap.size=b:=⟨_,rfl⟩;have hle:Hid (∀wr,Ext w wr->Le (mk X w) (mk (a0i X b 2) wr)):=hid fun wr h=>by rw[<-hb];exact a0s h
 have hbw:w.heap.size<=b:=by omega
 rw[hb]at b0 b1 hXW h0 |-;clear hW;go_loopw [10] (fun k wr=>∃(i:Nat) (s:Bool) (a:Option Addr) (n' c':Nat) (d:Option Addr) (kk e:Nat),k= .int .i64 i/\i<=n/\Bx wr b #[.bool false, .slice none 0 0, .slice none 0 0] 32/\Bx wr (b+1) #[.bool s, .slice a n' c', .slice d kk e] 32/\QC (mk (a0i X b 2) wr) (.agg #[.bool s, .slice a n' c', .slice d kk e]) (a4P l m i)/\HX (a0i X b 2) wr/\Ext w wr) (fun k _=>n - (intOf k).toNat)
 case atStart=>exact⟨0,_,_,_,_,_,_,_,rfl,Nat.zero_le _,b0,b1,h0,hXW,hE⟩
 case round=>
  obtain⟨i,s,a,n',c',d,kk,e,rfl,hi,b0,b1,hq,hXr,hEr⟩:=hrel;by_cases hlt:i<n
  ·have hil:i<l.length:=by rw[hln'.out];exact hlt
   have him:i<m.length:=by rw[hml'.out];exact hlt
   have hsr:=hsa.mono QV.mono (hle.out wr hEr);have hsr2:=hsb.mono QV.mono (hle.out wr hEr);obtain⟨g2,o2,s2,p2,n2,q2,d2,k2,e2,hg2,hX2,hc2,hq2⟩:=hsr2.rat QV.shaped i him;have gl:Hid (l.getD i 0=l[i]):=hid (by simp[List.getD_eq_getElem?_getD,hil]);have gm:Hid (m.getD i 0=m[i]):=hid (by simp[List.getD_eq_getElem?_getD,him]);have hst:Hid (a4P l m i+l[i]*m[i]=a4P l m (i+1)):=hid (by rw[<-gl.out,<-gm.out];rfl);have hbo:=hid (hb1'.out i hi);have hbp:=hid (hb2'.out i hlt);rw[gl.out,gm.out]at hbp;obtain⟨x,hx⟩:∃x,l[i]=x:=⟨_,rfl⟩;obtain⟨y,hy⟩:∃y,m[i]=y:=⟨_,rfl⟩;rw[hx,hy]at hst hbp;rw[hy]at hq2;have hx':=hid hx;have i2:∀W,(Instr.indexAt 45 (.slice bo n cb) (.int .i64 (i:Int))).run Tryz.prog W= .ok (.pointer (some ⟨g2,o2,none⟩)) W:=by rw[<-hg2];exact a0n a0E bo n cb .i64 i hhb (by omega)
   have bx:=Bx.new wr #[.bool false, .slice none 0 0, .slice none 0 0] 32;obtain⟨D,hD⟩:∃D,a4P l m i=D:=⟨_,rfl⟩;obtain⟨D2,hD2⟩:∃D2,a4P l m (i+1)=D2:=⟨_,rfl⟩;rw[hD]at hq hst hbo;rw[hD2]at hst;have hD2':=hid hD2;clear hx hy hg2 hD hD2;go_wp2_with (first|(with_reducible refine a2r a0E (by omega) (by assumption) ?_)|((with_reducible show wpList _ _ _ (⟨_, .load 32 _,_,_,_,_⟩::_) _ _);refine a1d a0w i hsr hil rfl (by simp) QV.agg ?_;intro u5 hu5;rw[hx'.out]at hu5;obtain⟨s5,a5,n5,c5,d5,k5,e5,rfl⟩:=hu5.shape)|((with_reducible show wpList _ _ _ (⟨_, .store _ _ _,_,_,_,_⟩::_) _ _);refine a0c a0w rfl rfl bx rfl rfl (a3n _ _ _ _ _ _ _) ?_;intro w5 r1 r2))
   have hE5:Ext wr w5:=ExtX.box ((ExtX.refl wr).alloc _) r2 (Nat.le_refl _);have hEd:Ext w5 w5.drew:=(ExtX.refl w5).drew;have hE5d:=hE5.trans hEd;have b05:=b0.ext0 hE5d;have b15:=b1.ext0 hE5d;have r5:=r1.ext0 hEd;obtain⟨bw,hbw⟩:∃bw,wr.heap.size=bw:=⟨_,rfl⟩;rw[hbw]at r5;have k00:=b15.cell 0 rfl;have k01:=b15.cell 1 rfl;have k02:=b15.cell 2 rfl;have k10:=r5.cell 0 rfl;have k11:=r5.cell 1 rfl;have k12:=r5.cell 2 rfl;obtain⟨k20,k21,k22⟩:=hc2.out noY w5.drew hE5d rfl;have hXd:=hXr.ext hE5d;have hx5:QV (mk (a0i X b 2) w5.drew) (.agg #[.bool s5, .slice a5 n5 c5, .slice d5 k5 e5]) x:=mkx QV.mono hu5 hE5d;have hy5:QV (mk (a0i X b 2) w5.drew) (.agg #[.bool s2, .slice p2 n2 q2, .slice d2 k2 e2]) y:=mkx QV.mono hq2 hE5d;have hq5:QV (mk (a0i X b 2) w5.drew) (.agg #[.bool s, .slice a n' c', .slice d kk e]) D:=(mkx QC.mono hq hE5d).qv hbo.out;clear bx r1 hc2;rw[hbw];go_wp2_with fail
   go_region_with (first|(go_at_call 147;(with_reducible refine(b2I (a0i X b 2) w5.drew _ _ _ _ hXd hx5 hy5).mono ?_);rintro ee w6 ⟨t1,u6,rfl,hu6⟩;obtain⟨s6,a6,n6,c6,d6,k6,e6,rfl⟩:=hu6.shape;have hX6:=hXd.ext t1;have hq6:=mkx QV.mono hq5 t1;have hm6:=hu6.qv hbp.out;have b16:=b15.ext0 t1;have m0:=b16.cell 0 rfl;have m1:=b16.cell 1 rfl;have m2:=b16.cell 2 rfl)|(go_at_call 146;(with_reducible refine(b2H (a0i X b 2) w6 _ _ _ _ hX6 hq6 hm6).mono ?_);rintro ee w7 ⟨t7,u7,rfl,hu7⟩;obtain⟨s7,a7,n7,c7,d7,k7,e7,rfl⟩:=hu7.shape;rw[hst.out]at hu7;have b17:=b16.ext0 t7;have g0:=b17.cell 0 rfl;have g1:=b17.cell 1 rfl;have g2':=b17.cell 2 rfl;have f0:=b17.frozen 0;have f1:=b17.frozen 1;have f2:=b17.frozen 2))
   all_goals
    obtain⟨z1,z2⟩:=b17.set3 (.bool s7) (.slice a7 n7 c7) (.slice d7 k7 e7);have h8:=QC.mono _ _ _ _ (a0h (lo:=b) (nb:=2) z2 (by omega) (by omega)) hu7;have b08:=((b05.ext0 t1).ext0 t7).ext z2 (a0e (by omega));have hE8:Ext w _:=ExtX.box (hEr.trans (hE5d.trans (t1.trans t7))) z2 (by omega);have hX8:=(hX6.ext t7).ext z2;rw[<-hD2'.out]at h8;clear k00 k01 k02 k10 k11 k12 k20 k21 k22 m0 m1 m2 g0 g1 g2' f0 f1 f2 i2;go_wp2_with fail
    go_roundw
    case rel=>exact⟨i+1,_,_,_,_,_,_,_,by go_num,by omega,b08,z1,h8,hX8,hE8⟩
    case measure=>simp[intOf];omega
  ·have hin:i=n:=by omega
   subst hin;rw[hdot.out]at hq;have k00:=b1.cell 0 rfl;have k01:=b1.cell 1 rfl;have k02:=b1.cell 2 rfl;go_wp2_with ((with_reducible show wpList _ _ _ (⟨_, .store _ _ _,_,_,_,_⟩::_) _ _);refine a0c a0w rfl rfl b0 rfl rfl (a3n _ _ _ _ _ _ _) ?_;intro w7 r1 r2)
   have h7:=QC.mono _ _ _ _ a0m (QC.mono _ _ _ _ (a0h r2 (by omega) (by omega)) hq);exact bodyPost_ret (a0f rfl rfl a0w r1 rfl) rfl ⟨ExtX.box hEr r2 (by omega),_,rfl,h7⟩
end Go.Proofs.YtkddecjkfdogiaaGreat
namespace Go.Lin
open Go.Lim
theorem a8y {n c:Nat} {m:Mat} (h:Shp n c m) (hn:1<=n):colsL m=c:=by
 rw[a4f (by rw[h.1];exact hn)];exact h.2 _ (List.getElem_mem _)
theorem b0V {n c:Nat} {m:Mat} (h:Shp n c m) (hn:n<=96) (hc:1<=c) (hc2:c<=96):a0x m=true:=by
 refine a2d.2 ⟨by rw[h.1];exact hn,fun i hi=>?_⟩;have h1:=h.2 _ (List.getElem_mem hi);refine⟨by omega,by omega,?_⟩;rw[h1,a8y h (by have:=h.1;omega)]
theorem a7D {B:Nat} {m:Mat} (h:Go.Rep.BM B m) (hB:1<=B):HB B m:=fun i j=>by
 unfold ent;by_cases hi:i<m.length
 ·have e:m.getD i []=m[i]:=by simp[List.getD_eq_getElem?_getD,hi]
  rw[e];by_cases hj:j<(m[i]).length
  ·have:=h m[i] (List.getElem_mem _) (m[i])[j] (List.getElem_mem _)
   simpa[List.getD_eq_getElem?_getD,hj]using this
  ·rw[List.getD_eq_getElem?_getD,List.getElem?_eq_none (by omega)]
   show hq 0<=B
   rw[a0Q];exact hB
 ·rw[List.getD_eq_getElem?_getD (l:=m),List.getElem?_eq_none (by omega)]
  show hq 0<=B
  rw[a0Q];exact hB
theorem a6V {B:Nat} {m:Mat} (h:HB B m):Go.Rep.BM B m:=fun r hr q hq=>by
 obtain⟨i,hi,rfl⟩:=List.getElem_of_mem hr;obtain⟨j,hj,rfl⟩:=List.getElem_of_mem hq;have:=h i j;simpa[ent,List.getD_eq_getElem?_getD,hi,hj]using this
theorem a6W {m:Mat} {v:List Rat} {i:Nat} (hi:i<m.length) (h:i<(a3B m v).length):(a3B m v)[i]=a3q m[i] v:=by simp[a3B]
theorem a6X {a b:Mat} {n c i:Nat} (hi:i<a.length) (h:i<(a5n a b n c).length):(a5n a b n c)[i]=a3B (trL b n c) a[i]:=by simp[a5n]
theorem b1M (a b:Mat) (n c:Nat):(a5n a b n c).length=a.length:=by simp[a5n]
theorem b0m {B:Nat} {x:List Rat} (hx:Go.Rep.BR B x) (hB:1<=B) (q:Nat):hq (x.getD q 0)<=B:=by
 by_cases h:q<x.length
 ·rw[List.getD_eq_getElem?_getD,List.getElem?_eq_getElem h];exact hx _ (List.getElem_mem h)
 ·rw[List.getD_eq_getElem?_getD,List.getElem?_eq_none (by omega)]
  show hq 0<=B
  rw[a0Q];exact hB
theorem a2q {B:Nat} {l m:List Rat} (hl:Go.Rep.BR B l) (hm:Go.Rep.BR B m) (hB:1<=B) (hn:l.length<=96) (hBB:200*B<=68000000000):(∀k,k<=l.length->hq (a4P l m k)<=68719476736)/\∀k,k<l.length->hq (l.getD k 0*m.getD k 0)<=68719476736:=by
 refine⟨fun k hk=>?_,fun k hk=>?_⟩
 ·have h1:=b3B hl hm hB k
  have h2:k*(2*B+1)<=96*(2*B+1):=Nat.mul_le_mul_right _ (by omega);omega
 ·have h1:=hq_mul (l.getD k 0) (m.getD k 0)
  have h2:=b0m hl hB k;have h3:=b0m hm hB k;omega
end Go.Lin
namespace Go.Proofs.YtkddecjkfdogiaaGreat
open Go.RowKit Go.Rep Go.Lim Go.Lin
def b5Y (X:Nat->Bool) (w:World) (l:List Rat) (e:Ending) (w':World):Prop:=Ext w w'/\∃u,e= .returned (.tuple #[u, .int .i64 0])/\RC (mk X w') u l
set_option maxRecDepth 100000 in
theorem a8z (X:Nat->Bool) (w:World) (u v:Value) (m:List (List Rat)) (x:List Rat) (B:Nat) (hX:HX X w) (hu:MV (mk X w) u m) (hv:RV (mk X w) v x) (hf:a0x m=true) (hc:x.length=colsL m) (hB:BM B m) (hB2:BR B x) (hB1:1<=B) (hBB:200*B<=68000000000):Calls Tryz.prog 181 #[u,v] w (b5Y X w (a3B m x)):=by
 obtain⟨hsh,h96,hc96,_,_⟩:=a0K hf;have hfo:=a1M X w u m hu (by omega);rw[hf]at hfo;have hcol:=a1G X w u m hu;obtain⟨ua,uca,rfl,huca,hua⟩:=hu;obtain⟨va,vca,rfl,hvca,hva⟩:=hv;have hhu:=hua.hd;obtain⟨c,hce⟩:∃c,colsL m=c:=⟨_,rfl⟩;rw[hce]at hcol hc hc96 hsh;have hne:((x.length:Int) !=(c:Int))=false:=a8S (by omega);have hsh':=hid hsh;have hcc:=hid hc;have hB':=hid hB;have hB2':=hid hB2;obtain⟨n,hn⟩:∃n,m.length=n:=⟨_,rfl⟩;rw[hn]at hfo hcol huca hhu h96 |-;have hnn:=hid hn;have hal:Hid ((a3B m x).length=n):=hid (by rw[a6g];exact hn);clear hf hsh hn hc hce hB hB2;go_enter Tryz.func181,Tryz.ntmps181
 go_wp2_with fail
 refine hfo.mono ?_;rintro e w1 ⟨rfl,rfl⟩;go_wp2_with fail
 refine hcol.mono ?_;rintro e w2 ⟨rfl,rfl⟩;go_wp2_with fail
 go_loopw [6,21] (fun o k wr=>∃(i:Nat) (oo:Option Addr) (co:Nat),k= .int .i64 i/\o= .slice oo i co/\i<=n/\OL QC 3 X w2.heap.size 32 wr oo co ((a3B m x).take i)/\Ext w2 wr) (fun _ k _=>n - (intOf k).toNat)
 case atStart=>exact⟨0,none,0,rfl,rfl,Nat.zero_le _,OL.nil _ _ _ _ _ _,ExtX.refl _⟩
 case round=>
  obtain⟨i,oo,co,rfl,rfl,hi,hO,hE⟩:=hrel;have hXr:HX X wr:=hX.ext hE;have hXu:HX (un X oo) wr:=hO.unX hXr;have hbase:=hE.size;by_cases hlt:i<n
  ·have him:i<m.length:=by rw[hnn.out];exact hlt
   have hiA:i<(a3B m x).length:=by rw[hal.out];exact hlt
   have hsr:Sl RV 1 (mk (un X oo) wr) ua m:=hua.old RV.mono hE (fun j hj=>hO.ob_lt hj);have hvr:RV (mk (un X oo) wr) (.slice va x.length vca) x:=a5E RV.mono ⟨va,vca,rfl,hvca,hva⟩ hE (fun j hj=>hO.ob_lt hj);have htk:=hid (a1C (a3B m x) i hiA);have hln:=hid (a2b (l:=a3B m x) (i:=i) (by omega));obtain⟨a1,c1,hX1,hc1,hcl1,hq1⟩:=hsr.row i him;have k00:=hc1.out noY wr (ExtX.refl _) rfl;have hrl:=hid (hsh'.out.2 m[i] (List.getElem_mem _));have hge:=hid (a6W (v:=x) him hiA);have hdb:=a2q (hB'.out m[i] (List.getElem_mem _)) hB2'.out hB1 (by rw[hrl.out];exact hc96) hBB;have hdot:=b3J (un X oo) wr _ _ m[i] x hXu ⟨a1,c1,rfl,hcl1,hq1⟩ hvr (by rw[hrl.out];omega) (by rw[hrl.out,hcc.out]) hdb.1 hdb.2;rw[<-hge.out]at hdot;obtain⟨v,hv⟩:∃v,(a3B m x)[i]=v:=⟨_,rfl⟩;rw[hv]at hdot htk;clear hv hc1 hdb;go_wp2_with (with_reducible refine a0t a0r (by omega) (by assumption) ?_)
   refine hdot.mono ?_;rintro e w6 ⟨hE6,u6,rfl,hu6⟩;obtain⟨s6,a6,n6,c6,d6,k6,e6,rfl⟩:=hu6.shape;have hO6:=hO.ext0 QC.elem hE6;have hb6:=hE6.size;clear k00;go_wp2_with (at_builtin;refine a1e (l:=(a3B m x).take i) a0E rfl QC.elem (by omega) (hXr.ext hE6) i hln.out rfl rfl hO6 (.agg #[.bool s6, .slice a6 n6 c6, .slice d6 k6 e6]) v rfl hu6 (by omega) (by omega) ?_;intro oo2 co2 w7 hO7 hE7 hor)
   have hE8:=(hE.trans hE6).own hO6 (Nat.le_refl _) hE7;rw[htk.out]at hO7;go_roundw
   case rel=>exact⟨i+1,oo2,co2,by go_num,by go_num,by omega,hO7,hE8⟩
   case measure=>simp[intOf];omega
  ·have hil:i=n:=by omega
   subst hil;rw[List.take_of_length_le (by rw[hal.out];exact Nat.le_refl _)]at hO;have hc:=hO.lenCap;have hs:=hO.sl QC.elem;go_wp2_with fail
   go_ret2
   exact⟨hE,_,rfl,oo,co,by rw[hal.out];rfl,hc,hs⟩
set_option maxRecDepth 100000 in
theorem b5h (X:Nat->Bool) (w:World) (u v:Value) (a b:List (List Rat)) (k n c B:Nat) (hX:HX X w) (hu:MV (mk X w) u a) (hv:MV (mk X w) v b) (hfa:a0x a=true) (hfb:a0x b=true) (ha:a.length=k) (hb:b.length=n) (hca:colsL a=n) (hcb:colsL b=c) (hB:BM B a) (hB2:BM B b) (hB1:1<=B) (hBB:200*B<=68000000000):Calls Tryz.prog 179 #[u,v] w (b5g X w (a5n a b n c)):=by
 obtain⟨hsa,ha96,hna96,hposa,hza⟩:=a0K hfa;obtain⟨hsb,hb96,hcb96,hposb,hzb⟩:=a0K hfb;rw[ha,hca]at hsa;rw[hb,hcb]at hsb;rw[ha]at ha96 hposa hza;rw[hb]at hb96 hposb hzb;rw[hca]at hna96 hposa hza;rw[hcb]at hcb96 hposb hzb;have htr:=a2e X w v b n c hX hv hfb hb hcb;have htf:Hid (0<k->a0x (trL b n c)=true/\colsL (trL b n c)=n):=hid fun hk=>by
  have hn1:=hposa hk;by_cases hc0:0<c
  ·exact⟨b0V (a2j b n c) hcb96 hn1 hna96,a8y (a2j b n c) hc0⟩
  ·have:=hposb (by omega);omega
 have htb:=hid (a6V (b2F (n:=n) (c:=c) (a7D hB2 hB1)));have hfo:=fun w' (h:Ext w w')=>a1M X w' u a (mkx MV.mono hu h) (by omega);have hcol:=fun w' (h:Ext w w')=>a1G X w' u a (mkx MV.mono hu h);rw[hfa]at hfo;rw[hca]at hcol;have hfo':=hid hfo;have hcol':=hid hcol;obtain⟨ua,uca,rfl,huca,hua⟩:=hu;obtain⟨va,vca,rfl,hvca,hva⟩:=hv;have hhu:=hua.hd;have hml:Hid ((a5n a b n c).length=k):=hid (by rw[b1M];exact ha);have hsa':=hid hsa;have hB':=hid hB;have haa:=hid ha;rw[ha]at huca hhu hfo' hcol' |-;rw[hb]at htr hvca |-;clear hfo hcol hfa hfb ha hb hca hcb hsa hsb hza hzb hposa hposb hva hB hB2;go_enter Tryz.func179,Tryz.ntmps179
 go_wp2_with fail
 refine htr.mono ?_;rintro e w1 ⟨hE1,ut,rfl,hut⟩;go_wp2_with fail
 refine(hfo'.out w1 hE1).mono ?_;rintro e w2 ⟨rfl,rfl⟩;go_wp2_with fail
 refine(hcol'.out w2 hE1).mono ?_;rintro e w3 ⟨rfl,rfl⟩;have hX3:=hX.ext hE1;have hua3:=hua.mono RV.mono (a0o hE1);go_wp2_with fail
 go_loopw [8,34] (fun o kk wr=>∃(i:Nat) (oo:Option Addr) (co:Nat),kk= .int .i64 i/\o= .slice oo i co/\i<=k/\OL RC 1 X w3.heap.size 45 wr oo co ((a5n a b n c).take i)/\Ext w3 wr) (fun _ kk _=>k - (intOf kk).toNat)
 case atStart=>exact⟨0,none,0,rfl,rfl,Nat.zero_le _,OL.nil _ _ _ _ _ _,ExtX.refl _⟩
 case round=>
  obtain⟨i,oo,co,rfl,rfl,hi,hO,hE⟩:=hrel;have hXr:HX X wr:=hX3.ext hE;have hXu:HX (un X oo) wr:=hO.unX hXr;have hbase:=hE.size;by_cases hlt:i<k
  ·have him:i<a.length:=by rw[haa.out];exact hlt
   have hiM:i<(a5n a b n c).length:=by rw[hml.out];exact hlt
   have hsr:Sl RV 1 (mk (un X oo) wr) ua a:=hua3.old RV.mono hE (fun j hj=>hO.ob_lt hj);have htr:MC (mk (un X oo) wr) ut (trL b n c):=a5E MC.mono hut hE (fun j hj=>hO.ob_lt hj);have htk:=hid (a1C (a5n a b n c) i hiM);have hln:=hid (a2b (l:=a5n a b n c) (i:=i) (by omega));obtain⟨a1,c1,hX1,hc1,hcl1,hq1⟩:=hsr.row i him;have k00:=hc1.out noY wr (ExtX.refl _) rfl;have hrl:=hid (hsa'.out.2 a[i] (List.getElem_mem _));have hge:=hid (a6X (b:=b) (n:=n) (c:=c) him hiM);obtain⟨hf1,hf2⟩:=htf.out (by omega);have hap:=a8z (un X oo) wr ut _ (trL b n c) a[i] B hXu (htr.mv (fun r hr q hq=>Nat.le_trans (htb.out r hr q hq) (by omega))) ⟨a1,c1,rfl,hcl1,hq1⟩ hf1 (by rw[hf2];exact hrl.out) htb.out (hB'.out a[i] (List.getElem_mem _)) hB1 hBB;rw[<-hge.out]at hap;obtain⟨v,hv⟩:∃v,(a5n a b n c)[i]=v:=⟨_,rfl⟩;rw[hv]at hap htk;clear hv hc1 hf1 hf2;go_wp2_with (with_reducible refine a0t a0r (by omega) (by assumption) ?_)
   refine hap.mono ?_;rintro e w6 ⟨hE6,u6,rfl,hu6⟩;obtain⟨a6,c6,rfl,hcl6,hs6⟩:=hu6;have hO6:=hO.ext0 RC.elem hE6;have hb6:=hE6.size;clear k00;go_wp2_with (at_builtin;refine a1e (l:=(a5n a b n c).take i) a0r rfl RC.elem (by omega) (hXr.ext hE6) i hln.out rfl rfl hO6 (.slice a6 v.length c6) v rfl ⟨a6,c6,rfl,hcl6,hs6⟩ (by omega) (by omega) ?_;intro oo2 co2 w7 hO7 hE7 hor)
   have hE8:=(hE.trans hE6).own hO6 (Nat.le_refl _) hE7;rw[htk.out]at hO7;go_roundw
   case rel=>exact⟨i+1,oo2,co2,by go_num,by go_num,by omega,hO7,hE8⟩
   case measure=>simp[intOf];omega
  ·have hil:i=k:=by omega
   subst hil;rw[List.take_of_length_le (by rw[hml.out];exact Nat.le_refl _)]at hO;have hc:=hO.lenCap;have hs:=hO.sl RC.elem;go_wp2_with fail
   go_ret2
   exact⟨hE1.trans hE,_,rfl,oo,co,by rw[hml.out];rfl,hc,hs⟩
end Go.Proofs.YtkddecjkfdogiaaGreat
namespace Go.Lin
open Go.Lim
end Go.Lin
