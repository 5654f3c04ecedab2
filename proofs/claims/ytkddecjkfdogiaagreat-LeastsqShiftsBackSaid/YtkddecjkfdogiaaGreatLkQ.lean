/- Least squares: moments of rows with one row more. Conditions: numbers of few digits. made: Matrix, with what the call itself made. Conditions: few rows and columns. -/
import Derived.Test.YtkddecjkfdogiaaGreatLkP
namespace Go.Lin
open Go.Lim Go.Rep
theorem b0M {x:Mat} {row:List Rat} {n k:Nat} (hs:Shp n k x) (hr:row.length=k):Shp (n+1) k (x++[row]):=
 ⟨by rw[List.length_append,hs.1];rfl,fun r h=>by
  rcases List.mem_append.1 h with h|h
  ·exact hs.2 r h
  ·obtain rfl:=List.mem_singleton.1 h
   exact hr⟩
theorem b5A {x:Mat} {y:List Rat} {row:List Rat} {z:Rat} {n k:Nat} (hs:Shp n k x) (hy:y.length=n) (hr:row.length=k):gmM (x++[row]) (y++[z]) k (n+1)=shM (gmM x y k n) row z 1:=by
 have h:=a8G (y:=y++[z]) (b0M hs hr) (Nat.lt_succ_self n);have e1:(x++[row]).getD n []=row:=by rw[<-hs.1];simp[List.getD_eq_getElem?_getD]
 have e2:(y++[z]).getD n 0=z:=by rw[<-hy];simp[List.getD_eq_getElem?_getD]
 have g1:∀r,r<n->∀j,ent (x++[row]) r j=ent x r j:=fun r hr j=>by
  have:r<x.length:=by rw[hs.1];exact hr
  simp[ent,List.getD_eq_getElem?_getD,List.getElem?_append_left this]
 have g2:∀r,r<n->fn (y++[z]) r=fn y r:=fun r hr=>by
  have:r<y.length:=by omega
  simp[fn,List.getD_eq_getElem?_getD,List.getElem?_append_left this]
 have e3:gmM (x++[row]) (y++[z]) k n=gmM x y k n:=by
  unfold gmM
  congr 1
  ·exact a7i fun j hj l hl=>a0k fun r hr=>by rw[g1 r hr,g1 r hr]
  ·exact a1W fun j hj=>a0k fun r hr=>by rw[g1 r hr,g2 r hr]
  ·exact a0k fun r hr=>by rw[g2 r hr]
 rw[e1,e2,e3]at h;exact h.symm
theorem b5B {x:Mat} {y:List Rat} {n k:Nat} (hxB:BM 2 x) (hyB:BR 2 y) (hn:n<=8):BMo 5929 (gmM x y k n):=by
 have hhb:=a7D hxB (by decide);exact⟨a6V (a8I hhb hn (by decide)),a8J hhb hyB hn (by decide),Nat.le_trans (a9k (B:=4) fun r _=>Nat.le_trans (hq_mul _ _) (by have:=b2a hyB (by decide) r;omega)) (by omega)⟩
theorem b2R {x:Mat} {y:List Rat} {n k:Nat} (hn:n<=8) (hk:1<=k) (hk4:k<=4):a3b (gmM x y k n)=true:=by
 have h1:(gmM x y k n).xx.length=k:=(a1B x n k).1;unfold a3b;rw[h1,show colsL (gmM x y k n).xx=k from a8y (a1B x n k) hk,show a0x (gmM x y k n).xx=true from b0V (a1B x n k) (by omega) hk (by omega),show(gmM x y k n).xy.length=k from a5k x y n k];have h2:(gmM x y k n).n=(n:Int):=rfl;rw[h2];simp;omega
theorem b0N {m:Mom} {row:List Rat} {ad:Bool} (h:a3b m=true) (hr:row.length=m.xy.length) (hn:ad=true\/m.n≠0):shC m row ad=0:=by
 unfold shC;rw[if_neg (by rw[h];decide),if_neg (by omega),if_neg];rintro ⟨h1,h2⟩;rcases hn with h3|h3
 ·rw[h1]at h3;cases h3
 ·exact h3 h2
theorem b2l {x:Mat} {y:List Rat} {row:List Rat} {z:Rat} {n k:Nat} (hs:Shp n k x) (hy:y.length=n) (hr:row.length=k) (hn6:n<=6) (hk1:1<=k) (hk4:k<=4) (hxB:BM 2 x) (hyB:BR 2 y) (hrB:BR 2 row) (hz:hq z<=2):
  ∃M0 M1,gmM x y k n=M0/\gmM (x++[row]) (y++[z]) k (n+1)=M1/\BMo 5929 M0/\BMo 5929 M1/\shC M0 row true=0/\shV M0 row z true=M1/\shC M1 row false=0/\shV M1 row z false=M0/\Shp k k M0.xx/\M0.xy.length=k/\Shp k k M1.xx/\M1.xy.length=k/\a7I (x++[row]) (y++[z])=true/\colsL (x++[row])=k/\BM 2 (x++[row])/\BR 2 (y++[z]):=by
 have hsa:=b0M hs hr;have e:=b5A (z:=z) hs hy hr;have hXB:BM 2 (x++[row]):=fun r h=>by
  rcases List.mem_append.1 h with h|h
  ·exact hxB r h
  ·obtain rfl:=List.mem_singleton.1 h
   exact hrB
 have hYB:BR 2 (y++[z]):=fun q h=>by
  rcases List.mem_append.1 h with h|h
  ·exact hyB q h
  ·obtain rfl:=List.mem_singleton.1 h
   exact hz
 have hm0:a3b (gmM x y k n)=true:=b2R (by omega) hk1 hk4;have hm1:a3b (gmM (x++[row]) (y++[z]) k (n+1))=true:=b2R (by omega) hk1 hk4;have hl0:(gmM x y k n).xy.length=k:=a5k x y n k;have hl1:(gmM (x++[row]) (y++[z]) k (n+1)).xy.length=k:=a5k _ _ _ k;have hc0:shC (gmM x y k n) row true=0:=b0N hm0 (by rw[hl0,hr]) (.inl rfl);have hc1:shC (gmM (x++[row]) (y++[z]) k (n+1)) row false=0:=b0N hm1 (by rw[hl1,hr]) (.inr (by show((n+1:Nat):Int)≠0;omega));refine⟨_,_,rfl,rfl,b5B hxB hyB (by omega),b5B hXB hYB (by omega),hc0,?_,hc1,?_,a1B x n k,hl0,a1B _ _ k,hl1,?_,a8y hsa (by omega),hXB,hYB⟩
 ·unfold shV
  rw[if_pos hc0,e];rfl
 ·unfold shV
  rw[if_pos hc1,e];exact b1X (a1B x n k) hl0 hr
 ·exact a2N.2 ⟨b0V hsa (by omega) hk1 (by omega),by rw[hsa.1];omega,by rw[hsa.1];omega,by rw[a8y hsa (by omega)];omega,by rw[List.length_append,hsa.1,hy];rfl⟩
end Go.Lin
namespace Go.Rep
open Go.RowKit Go.Lim
theorem MO.empty (X:Nat->Bool) (base:Nat) (e1 e2:TypeId) (w:World):MO X base e1 e2 w none 0 [] []:=
 ⟨OL.nil _ _ _ _ _ _,rfl,fun _ h=>by simp at h,fun _ h=>by simp at h,fun _ h=>by simp at h,fun _ _ h=>by simp at h⟩
theorem MO.push {X:Nat->Bool} {base:Nat} {e1 e2:TypeId} {w w1 w':World} {ao oo2:Option Addr} {cap co2:Nat} {hs:List Hdr} {m:List (List Rat)} (h:MO X base e1 e2 w ao cap hs m) {a:Option Addr} {c:Nat} {l:List Rat}
  (hE1:Ext w w1) (hnew:∀k,ob a k=true->w.heap.size<=k) (hr:OL QC 3 (mz X ao hs) base e2 w1 a c l) (hX:HX X w)
  (hE:ExtX (ob ao) w1 w') (ho:OL HdR 1 X base e1 w' oo2 co2 (hs++[(a,l.length,c)])) (hor:oo2=ao\/∃g,oo2=some ⟨g,0,none⟩/\w1.heap.size<=g):MO X base e1 e2 w' oo2 co2 (hs++[(a,l.length,c)]) (m++[l]):=by
 have hlen:=h.len;have hE':ExtX (ob ao) w w':=(ExtX.of hE1).trans hE;have hs1:=hE1.size;have hobs:∀k,obs (hs++[(a,l.length,c)]) k=true↔obs hs k=true\/ob a k=true:=fun k=>by
  unfold obs;simp[List.any_append]
 have hold:∀k,mb ao hs k=true->ob a k=false:=fun k hk=>by
  cases hb:ob a k
  ·rfl
  ·have:=hnew k hb;have:=(h.mb_block hk).2;omega
 have hlt:∀k,k<w1.heap.size->ob oo2 k=true->ob ao k=true:=fun k hk h2=>by
  rcases hor with rfl|⟨g,rfl,hg⟩
  ·exact h2
  ·have:g=k:=by simpa[ob]using h2
   omega
 have hrow:∀i (hi:i<hs.length) k,ob hs[i].1 k=true->ob oo2 k=false:=fun i hi k hk=>by
  cases hb:ob oo2 k
  ·rfl
  ·have h1:=(h.mb_block (a1t.2 (.inr (a0T hi hk)))).2
   have h2:=hlt k (by omega) hb;have:=(h.sep i hi k hk).2;rw[h2]at this;simp at this
 have hral:∀k,ob a k=true->ob oo2 k=false:=fun k hk=>by
  cases hb:ob oo2 k
  ·rfl
  ·have h1:=(hr.block hk).2
   have h2:=hlt k h1 hb;have:=hold k (a1t.2 (.inl h2));rw[hk]at this;simp at this
 have hXa:∀k,ob a k=true->X k=false:=fun k hk=>by
  cases hb:X k
  ·rfl
  ·have:=hX k hb;have:=hnew k hk;omega
 refine⟨ho,by simp[hlen],fun j hj hj'=>?_,fun j hj hj'=>?_,fun j hj k hk=>?_,fun j q hj hq hjq k hk=>?_⟩
 ·rw[List.getElem_append,List.getElem_append]
  by_cases hjl:j<hs.length
  ·rw[dif_pos hjl,dif_pos (by omega)];exact h.rlen j hjl (by omega)
  ·rw[dif_neg hjl,dif_neg (by omega)];simp
 ·by_cases hjl:j<hs.length
  ·have e1:(hs++[(a,l.length,c)])[j]=hs[j]:=List.getElem_append_left hjl
   have e2:(m++[l])[j]=m[j]'(by omega):=List.getElem_append_left (by omega);rw[e1,e2];refine(h.row j hjl (by omega)).ext QC.elem hE' (fun k _ hk=>a2J (a0y.2 (.inr (.inl hk))) ?_) (fun k hk hz=>?_)
   ·cases hb:ob hs[j].1 k
    ·rfl
    ·have:=(h.sep j hjl k hb).2;rw[hk]at this;simp at this
   ·obtain⟨h1,h2⟩:=a5H hz
    rcases a0y.1 h1 with h3|h3|h3
    ·exact a2J (a0y.2 (.inl h3)) h2
    ·exact a2J (a0y.2 (.inr (.inl (hlt k (by omega) h3)))) h2
    ·rcases(hobs k).1 h3 with h4|h4
     ·exact a2J (a0y.2 (.inr (.inr h4))) h2
     ·have:=hnew k h4;omega
  ·have hje:j=hs.length:=by have:j<(hs++[(a,l.length,c)]).length:=hj;simp at this;omega
   subst hje;have e1:(hs++[(a,l.length,c)])[hs.length]=(a,l.length,c):=by simp
   have e2:(m++[l])[hs.length]'hj'=l:=by simp[hlen]
   rw[e1,e2];refine hr.ext QC.elem hE (fun k _ hk=>a0y.2 (.inr (.inl hk))) (fun k hk hz=>?_);obtain⟨h1,h2⟩:=a5H hz;rcases a0y.1 h1 with h3|h3|h3
   ·exact a0y.2 (.inl h3)
   ·exact a0y.2 (.inr (.inl (hlt k hk h3)))
   ·rcases(hobs k).1 h3 with h4|h4
    ·exact a0y.2 (.inr (.inr h4))
    ·dsimp only at h2;rw[h2]at h4;simp at h4
 ·rw[List.getElem_append]at hk
  split at hk
  ·rename_i hjl
   exact⟨(h.sep j hjl k hk).1,hrow j hjl k hk⟩
  ·have hk:ob a k=true:=by simpa using hk
   exact⟨hXa k hk,hral k hk⟩
 ·rw[List.getElem_append]at hk |-
  split at hk
  ·rename_i hjl
   split
   ·rename_i hql
    exact h.dis j q hjl hql hjq k hk
   ·simp only[List.getElem_singleton]
    exact hold k (a1t.2 (.inr (a0T hjl hk)))
  ·rename_i hjl
   have hk:ob a k=true:=by simpa using hk
   split
   ·rename_i hql
    cases hb:ob hs[q].1 k
    ·rfl
    ·have:=hold k (a1t.2 (.inr (a0T hql hb)));rw[hk]at this;simp at this
   ·have h1:j<(hs++[(a,l.length,c)]).length:=hj
    have h2:q<(hs++[(a,l.length,c)]).length:=hq;simp at h1 h2;omega
end Go.Rep
namespace Go.Proofs.YtkddecjkfdogiaaGreat
open Go.RowKit Go.Rep Go.Lim Go.Lin
set_option maxRecDepth 100000 in
theorem a7Q (X:Nat->Bool) (w:World) (r c:Nat) (ao:Option Addr) (raw:List Int) (cap:Nat) (hX:HX X w) (hs:Sl (a1P .i64) 1 (mk X w) ao raw) (hr:r<=900) (hc:c<=900) (hraw:∀x∈raw,-9223372036854775808<=x/\x<=9223372036854775807):Calls Tryz.prog 109 #[.int .i64 (r:Int), .int .i64 (c:Int), .slice ao raw.length cap] w (b5X X 45 32 w (a7o r c raw)):=by
 obtain⟨M,hM⟩:∃M,a7o r c raw=M:=⟨_,rfl⟩;have hMl:Hid (M.length=r):=hid (by rw[<-hM,a8v]);have hMr:Hid (∀i (hi:i<r) (h:i<M.length),M[i]=(List.range c).map fun j=>a9c (atL raw (i*c+j))):=hid fun i hi h=>by subst hM;exact a8w r c raw i hi h
 have hat:Hid (∀i,-9223372036854775808<=atL raw i/\atL raw i<=9223372036854775807):=hid fun i=>by
  unfold atL;by_cases h:i<raw.length
  ·simp only[List.getD_eq_getElem?_getD,List.getElem?_eq_getElem h,Option.getD_some];exact hraw _ (List.getElem_mem h)
  ·simp only[List.getD_eq_getElem?_getD,List.getElem?_eq_none (Nat.le_of_not_lt h),Option.getD_none];omega
 have hMl2:M.length<=r:=by rw[hMl.out];exact Nat.le_refl _
 have hMl3:r<=M.length:=by rw[hMl.out];exact Nat.le_refl _
 rw[hM];clear hM hraw;go_enter Tryz.func109,Tryz.ntmps109
 go_wp2_with fail
 go_loopw [7,8] (fun o cc wr=>∃(i:Nat) (oo:Option Addr) (co:Nat) (hds:List Hdr),cc= .int .i64 i/\o= .slice oo i co/\i<=r/\MO X w.heap.size 45 32 wr oo co hds (M.take i)/\Ext w wr) (fun _ cc _=>r - (intOf cc).toNat)
 case atStart=>exact⟨0,none,0,[],rfl,rfl,Nat.zero_le _,MO.empty _ _ _ _ _,ExtX.refl _⟩
 case round=>
  obtain⟨i,oo,co,hds,rfl,rfl,hi,hM,hE⟩:=hrel;have hXr:HX X wr:=hX.ext hE;have hXu:HX (mz X oo hds) wr:=hM.hz hXr;have hhl:Hid (hds.length=i):=hid (by rw[hM.len,List.length_take];omega);have hbase:=hE.size;by_cases hlt:i<r
  ·have hltM:i<M.length:=by omega
   have htk:=hid (a1C M i hltM);have hln:=hid (a2b (l:=M) (i:=i) (by omega));obtain⟨R,hR⟩:∃R,M[i]=R:=⟨_,rfl⟩;have hRd:=hMr.out i hlt hltM;rw[hR]at hRd htk;have hRl:Hid (R.length=c):=hid (by rw[hRd];simp);have hRi:Hid (∀j (hj:j<c) (h:j<R.length),R[j]=a9c (atL raw (i*c+j))):=hid fun j hj h=>by subst hRd;simp
   have hRl2:R.length<=c:=by rw[hRl.out];exact Nat.le_refl _
   have hRl3:c<=R.length:=by rw[hRl.out];exact Nat.le_refl _
   have hic:i*c<=810000:=Nat.le_trans (Nat.mul_le_mul (show i<=900 by omega) hc) (by decide);obtain⟨p,hp⟩:∃p,i*c=p:=⟨_,rfl⟩;rw[hp]at hRi hic;have hw1:wrap64 ((i:Int)*(c:Int))=(p:Int):=a8u hp (Nat.le_trans hic (by decide));clear hp hRd hR;obtain⟨wo,hwo⟩:∃wo,wo=wr:=⟨_,rfl⟩;subst hwo;go_wp2_with fail
   go_loopw [9,10] (fun o cc wx=>∃(j:Nat) (ro:Option Addr) (cr:Nat),cc= .int .i64 j/\o= .slice ro j cr/\j<=c/\OL QC 3 (mz X oo hds) wo.heap.size 32 wx ro cr (R.take j)/\Ext wo wx) (fun _ cc _=>c - (intOf cc).toNat)
   case atStart=>exact⟨0,none,0,rfl,rfl,Nat.zero_le _,OL.nil _ _ _ _ _ _,ExtX.refl _⟩
   case round=>
    obtain⟨j,ro,cr,rfl,rfl,hj,hOr,hEr⟩:=hrel;have hXx:HX (mz X oo hds) wr:=hXu.ext hEr;have hXy:HX (un (mz X oo hds) ro) wr:=hOr.unX hXx;have hbr:=hEr.size;by_cases hlj:j<c
    ·have hljR:j<R.length:=by omega
     have htj:=hid (a1C R j hljR);have hlnj:=hid (a2b (l:=R) (i:=j) (by omega));have hRj:=hRi.out j hlj hljR;rw[hRj]at htj;have hv:=hat.out (p+j);have hpj:p+j<=1000000:=Nat.le_trans (Nat.add_le_add hic (Nat.le_of_lt (Nat.lt_of_lt_of_le hlj hc))) (by decide);have hw2:wrap64 ((p:Int)+(j:Int))=((p+j:Nat):Int):=a8t hpj;obtain⟨z,hz⟩:∃z,p+j=z:=⟨_,rfl⟩;have hzI:Hid ((p:Int)+(j:Int)=(z:Int)):=hid (by rw[<-hz,Int.natCast_add]);rw[hz]at hw2 hpj hv htj;obtain⟨y,hy⟩:∃y,atL raw z=y:=⟨_,rfl⟩;rw[hy]at hv htj;have hy':=hid hy;clear hy hRj hz;have hs2:=hs.mono (a1P.mono _) (a0o (hE.trans hEr));go_wp2_with fail
     rw[hzI.out];refine(b2K X wr ao raw cap z hs2 hpj).mono ?_;rintro e w5 ⟨rfl,rfl⟩;rw[hy'.out];go_wp2_with fail
     refine(a4r (un (mz X oo hds) ro) w5 y hXy hv.1 hv.2).mono ?_;rintro e w6 ⟨hE6,u6,rfl,hu6⟩;obtain⟨s6,a6,n6,c6,d6,k6,e6,rfl⟩:=hu6.shape;have hO6:=hOr.ext0 QC.elem hE6;have hb6:=hE6.size;go_wp2_with (at_builtin;refine a1e (l:=R.take j) a0E rfl QC.elem (by omega) (hXx.ext hE6) j hlnj.out rfl rfl hO6 (.agg #[.bool s6, .slice a6 n6 c6, .slice d6 k6 e6]) (a9c y) rfl hu6 (by omega) (by omega) ?_;intro oo2 co2 w7 hO7 hE7 hor)
     have hE8:=(hEr.trans hE6).own hO6 (Nat.le_refl _) hE7;rw[htj.out]at hO7;go_roundw
     case rel=>exact⟨j+1,oo2,co2,by go_num,by go_num,by omega,hO7,hE8⟩
     case measure=>simp[intOf];omega
    ·have hjc:j=c:=by omega
     subst hjc;rw[List.take_of_length_le (by omega)]at hOr;have hnew:Hid (∀k,ob ro k=true->wo.heap.size<=k):=hid fun k hk=>(hOr.block hk).1;have hRC:HdR (mk (un X oo) wr) (.slice ro j cr) (ro,R.length,cr):=by rw[hRl.out];rfl
     have hMo:=hM.ext0 hEr;go_wp2_with (at_builtin;refine a1e (l:=hds) a0r rfl HdR.elem (by omega) (hXr.ext hEr) i hhl.out rfl rfl hMo.outer (.slice ro j cr) (ro,R.length,cr) rfl hRC (by omega) (by omega) ?_;intro oo2 co2 w7 hO7 hE7 hor)
     have hE8:=(hE.trans hEr).own hMo.outer (Nat.le_refl _) hE7;have hM7:=hM.push hEr hnew.out (hOr.base_le hbase) (hX.ext hE) hE7 hO7 hor;rw[htk.out]at hM7;go_roundw
     case rel=>exact⟨i+1,oo2,co2,_,by go_num,by go_num,by omega,hM7,hE8⟩
     case measure=>simp[intOf];omega
  ·have hil:i=r:=by omega
   subst hil;rw[List.take_of_length_le (by omega)]at hM;go_wp2_with fail
   go_ret
   exact⟨hE,oo,co,hds,by rw[hMl.out];rfl,hM⟩
end Go.Proofs.YtkddecjkfdogiaaGreat
