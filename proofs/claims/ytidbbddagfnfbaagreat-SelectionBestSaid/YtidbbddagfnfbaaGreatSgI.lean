/- Parts of a proof: each theorem states what it proves, and its conditions. -/
import Derived.Test.YtidbbddagfnfbaaGreatSgH
import Derived.BigRegion
import Derived.WalkMore
import Derived.ArgAppend
import Derived.WalkKit
import Derived.Deep.RegionHeld3
import Derived.Deep.RegionLaw
import Derived.Deep.AppendLies
namespace Go.Proofs.YtidbbddagfnfbaaGreat
open Go.RowKit Go.Rep Go.Lim Go.Lin
def b8N (X:Nat->Bool) (w:World) (m:List (List Rat)) (e:Ending) (w':World):Prop:=Ext w w'/\∃u,e= .returned (.tuple #[u, .int .i64 0])/\MC (mk X w') u m
theorem a5U (X:Nat->Bool) (w:World) (u:Value) (m:List (List Rat)) (c:MV (mk X w) u m) (f:m.length<=1099511627776) (b:a0H m=false):Calls Tryz.prog 256 #[u] w (fun e d=>d=w/\e= .returned (.tuple #[.slice none 0 0, .int .i64 6])):=by
 have a:=a4m X w u m c f;rw[b]at a;clear b;go_enter Tryz.func256,Tryz.ntmps256
 go_wp2_with fail
 refine a.mono ?_;rintro e g ⟨rfl,rfl⟩;go_wp2_with fail
 go_ret2
 exact⟨rfl,rfl⟩
set_option maxRecDepth 100000 in
set_option maxHeartbeats 1600000 in
theorem a5V (X:Nat->Bool) (w:World) (u:Value) (m:List (List Rat)) (n c:Nat) (hX:HX X w) (S:MV (mk X w) u m) (hf:a0H m=true) (t:m.length=n) (A:a0x m=c):Calls Tryz.prog 256 #[u] w (b8N X w (trL m n c)):=by
 obtain⟨R,f4,a6,_,_⟩:=a0U hf;rw[t,A]at R;rw[t]at f4;rw[A]at a6;have D:=a4m X w u m S (by omega);rw[hf]at D;have q:=a3z X w u m S;rw[A]at q;have G:=hid R;have y:=hid t;have a3:=hid A;obtain⟨ua,c6,rfl,I,a9⟩:=S;have S:MV (mk X w) (.slice ua m.length c6) m:=⟨ua,c6,rfl,I,a9⟩;rw[t]at D q S |-;clear hf t A R I a9;go_enter Tryz.func256,Tryz.ntmps256
 go_wp2_with fail
 refine D.mono ?_;rintro e w1 ⟨rfl,rfl⟩;go_wp2_with fail
 refine q.mono ?_;rintro e w2 ⟨rfl,rfl⟩;go_wp2_with fail
 refine(a8f X w2 c n hX (by omega) (by omega)).mono ?_;rintro e w3 ⟨N,ao,cap,B,rfl,l⟩;rw[List.length_replicate];have K:Hid (B.length=c):=hid (by rw[l.len];simp);have a0:Hd ao c:=by have:=l.outer.hd;rw[K.out]at this;exact this
 have f3:=hX.ext N;have b6:=l.hz f3;have b1:=l.old MV.mono S N (Nat.le_refl _) (fun _ _ h=>h);rw[<-b5I m n c]at l;have b8:=a5B (mz X ao B) w3 _ m n c b6 b1 G.out a3.out (by omega) (by omega);clear D q S b1;go_wp2_with fail
 refine b8.mono ?_;rintro e w4 ⟨U,bo,f7,g4,rfl,c2⟩;have H:=c2.mc;rw[y.out]at H |-;have c3:=l.ext0 U;have a7:=N.trans U;obtain⟨ba,g7,d1,f8,b⟩:=H;simp only[Value.slice.injEq]at d1;obtain⟨rfl,e0,rfl⟩:=d1;clear e0;have e9:=b.hd;rw[y.out]at e9;obtain⟨Z,Q⟩:∃Z,mz X ao B=Z:=⟨_,rfl⟩;have c7:=hid Q;rw[Q]at b b6;clear b8 l c2 Q;go_wp2_with fail
 go_loopw [20] (fun k wr=>∃(i:Nat),k= .int .i64 i/\i<=n/\MO X w2.heap.size 24 45 wr ao cap B (trN m n c i 0)/\Sl RC 1 (mk Z wr) bo m/\Ext w2 wr) (fun k _=>n - (intOf k).toNat)
 case atStart=>exact⟨0,rfl,Nat.zero_le _,c3,b,a7⟩
 case round=>
  obtain⟨i,rfl,hi,s,b,hE⟩:=hrel;by_cases d3:i<n
  ·have V:i<m.length:=by rw[y.out];exact d3
   obtain⟨a1,c1,g6,b2,L,r⟩:=b.row i V;have O:=b2.out noY wr (ExtX.refl _) rfl;have C:Hid (m[i].length=c):=hid (G.out.2 _ (List.getElem_mem _));have d2:Hid (∀j (hj:j<m[i].length),m[i][j]=ent m i j):=hid fun j hj=>by
    unfold ent;rw[show m.getD i []=m[i]by simp[List.getD_eq_getElem?_getD,V],List.getD_eq_getElem?_getD,List.getElem?_eq_getElem hj];rfl
   obtain⟨x,hx⟩:∃x,m[i]=x:=⟨_,rfl⟩;rw[hx]at O L r C d2;rw[C.out]at O L;have g3:Hd a1 c:=by have:=r.hd;rw[C.out]at this;exact this
   clear b2 hx;obtain⟨wo,e8⟩:∃wo,wo=wr:=⟨_,rfl⟩;subst e8;go_wp2_with (with_reducible refine a0q a0s (by omega) (by assumption) ?_)
   go_loopw [27] (fun k wr=>∃(j:Nat),k= .int .i64 j/\j<=c/\MO X w2.heap.size 24 45 wr ao cap B (trN m n c i j)/\Sl QC 3 (mk Z wr) a1 x/\Sl RC 1 (mk Z wr) bo m/\Ext w2 wr) (fun k _=>c - (intOf k).toNat)
   case atStart=>exact⟨0,rfl,Nat.zero_le _,s,r,b,hE⟩
   case round=>
    obtain⟨j,rfl,hj,s,r,b,hE⟩:=hrel;by_cases P:j<c
    ·have b9:j<x.length:=by rw[C.out];exact P
     have d:j<B.length:=by rw[K.out];exact P
     have T:j<(trN m n c i j).length:=by rw[b8I];exact P
     obtain⟨a,F,cr,p⟩:∃a F cr,B[j]=(a,F,cr):=⟨_,_,_,rfl⟩;have f6:F=n:=by
      have:=s.rlen j d T;rw[p,a8c]at this;exact this
     subst f6;have hR:=s.row j d T;simp only[p]at hR;have c8:=fun k (hk:ob a k=true)=>s.mz_sub d k (by rw[p];exact hk);have d9:=fun k (hk:ob a k=true)=>s.sep j d k (by rw[p];exact hk);have d6:Hid (un (cut (mz X ao B) a) a=mz X ao B):=hid (a5T c8);have c4:i<((trN m F c i j)[j]).length:=by rw[a8c];exact d3
     have e1:Hd a F:=by have:=hR.hd;rw[a8c]at this;exact this
     have b5:=hid (d2.out j b9);have z:=hid (b8J (m:=m) (n:=F) (c:=c) (i:=i) (j:=j) T);obtain⟨v,hv⟩:∃v,ent m i j=v:=⟨_,rfl⟩;rw[hv]at b5 z;have y1:wr.cell? (adr ao j)=some (.slice a F cr):=by
      have:=(s.hdr j d).1;rw[p]at this;exact this
     have f9:Hid (ob a (adr ao j).block=false):=hid (by
      cases hb:ob a (adr ao j).block
      ·rfl
      ·have h1:=(d9 _ hb).2
       obtain⟨b0,o0,rfl⟩:=a0 (by omega);simp[ob,adr]at h1)
     have i1:∀W,(Instr.indexAt 23 (.slice ao c cap) (.int .i64 (j:Int))).run Tryz.prog W= .ok (.pointer (some (adr ao j))) W:=a0z a0s ao c cap .i64 j a0 (by omega) rfl;have bx:=Bx.new wr #[.bool false, .slice none 0 0, .slice none 0 0] 45;have J:=hid p;clear p hv O;go_wp2_with (first|(with_reducible refine a1M a0B (by omega) (by assumption) ?_)|((with_reducible show wpList _ _ _ (⟨_, .load 45 _,_,_,_,_⟩::_) _ _);refine a0G a0t j r b9 rfl (by simp) QC.agg ?_;intro u5 M;rw[b5.out]at M;obtain⟨s5,a5,n5,c5,d5,k5,e5,rfl⟩:=M.shape)|((with_reducible show wpList _ _ _ (⟨_, .store _ _ _,_,_,_,_⟩::_) _ _);refine a0a a0t rfl rfl bx rfl rfl (a1Q _ _ _ _ _ _ _) ?_;intro w5 r1 r2))
     have f:Ext wr w5:=ExtX.box ((ExtX.refl wr).alloc _) r2 (Nat.le_refl _);obtain⟨g,o,hg⟩:∃g o,adr a (i*3)=⟨g,o,none⟩:=⟨_,_,rfl⟩;have i2:∀W,(Instr.indexAt 24 (.slice a F cr) (.int .i64 (i:Int))).run Tryz.prog W= .ok (.pointer (some ⟨g,o,none⟩)) W:=by rw[<-hg];exact a0m a0B a F cr .i64 i e1 (by omega)
     have d4:=s.ext0 f;have b7:=hR.ext0 QC.elem f;have a4:=mkx QC.mono M f;have z1:=f.cell y1;have e3:=r1.cell 0 rfl;have e6:=r1.cell 1 rfl;have d7:=r1.cell 2 rfl;obtain⟨_,v0,v1,v2,_,⟨g0,f0⟩,⟨g1,f1⟩,⟨g2,f2⟩,_⟩:=b7.cell3 i c4 hg;have c0:=b7.set3 a7a QC.elem i c4 hg (v0:= .bool s5) (v1:= .slice a5 n5 c5) (v2:= .slice d5 k5 e5) (x:=v) (by rw[d6.out,c7.out];exact a4);clear y1 bx r1;go_wp2_with fail
     go_region
     all_goals
      obtain⟨q1,q2⟩:=c0;have E:=q2.drew;have b3:=q1.ext0 QC.elem ((ExtX.refl (Y:=noY) _).drew);obtain⟨w8,d0⟩:∃w8,(((w5.setCell ⟨g,o,none⟩ (.bool s5)).setCell ⟨g,o+1,none⟩ (.slice a5 n5 c5)).setCell ⟨g,o+2,none⟩ (.slice d5 k5 e5)).drew=w8:=⟨_,rfl⟩;rw[d0]at b3 E |-;have c9:ExtX (ob B[j].1) w5 w8:=by rw[J.out];exact E
      have a8:=d4.upd d c9 (fun g5=>List.length_set) (by rw[J.out];exact b3);rw[z.out]at a8;have b4:∀k,ob a k=true->Z k=true:=fun k hk=>by rw[<-c7.out];exact c8 k hk
      have e2:=(r.mono QC.mono (a0l f)).mono QC.mono (a0w E b4);have d8:=(b.mono RC.mono (a0l f)).mono RC.mono (a0w E b4);have f5:=d4.ext_from (hE.trans f) (Nat.le_refl _) (ExtX.row d c9);clear z1 e3 e6 d7 g0 g1 g2 f0 f1 f2 i1 i2 d0 q1 q2;go_wp2_with fail
      go_roundw
      case rel=>exact⟨j+1,by go_num,by omega,a8,e2,d8,f5⟩
      case measure=>simp[intOf];omega
    ·have e4:j=c:=by omega
     subst e4;rw[b5J]at s;go_wp2_with fail
     go_roundw
     case rel=>exact⟨i+1,by go_num,by omega,s,b,hE⟩
     case measure=>simp[intOf];omega
  ·have e7:i=n:=by omega
   subst e7;rw[b5K]at s;have a2:=s.mc;go_wp2_with fail
   go_ret2
   exact⟨hE,_,rfl,by rw[(a1Y m i c).1]at a2;exact a2⟩
end Go.Proofs.YtidbbddagfnfbaaGreat
namespace Go.Lin
open Go.Lim
theorem b4I {n c:Nat} {m:Mat} (h:Shp n c m) (a:1<=n):a0x m=c:=by
 rw[a1J (by rw[h.1];exact a)];exact h.2 _ (List.getElem_mem _)
theorem b9H {n c:Nat} {m:Mat} (h:Shp n c m) (a:n<=96) (e:1<=c) (d:c<=96):a0H m=true:=by
 refine a1G.2 ⟨by rw[h.1];exact a,fun i hi=>?_⟩;have b:=h.2 _ (List.getElem_mem hi);refine⟨by omega,by omega,?_⟩;rw[b,b4I h (by have:=h.1;omega)]
theorem a8S {B:Nat} {m:Mat} (h:Go.Rep.BM B m) (a:1<=B):HB B m:=fun i j=>by
 unfold ent;by_cases hi:i<m.length
 ·have e:m.getD i []=m[i]:=by simp[List.getD_eq_getElem?_getD,hi]
  rw[e];by_cases b:j<(m[i]).length
  ·have:=h m[i] (List.getElem_mem _) (m[i])[j] (List.getElem_mem _)
   simpa[List.getD_eq_getElem?_getD,b]using this
  ·rw[List.getD_eq_getElem?_getD,List.getElem?_eq_none (by omega)]
   show hq 0<=B
   rw[a0Z];exact a
 ·rw[List.getD_eq_getElem?_getD (l:=m),List.getElem?_eq_none (by omega)]
  show hq 0<=B
  rw[a0Z];exact a
theorem a8h {B:Nat} {m:Mat} (h:HB B m):Go.Rep.BM B m:=fun r a q hq=>by
 obtain⟨i,hi,rfl⟩:=List.getElem_of_mem a;obtain⟨j,b,rfl⟩:=List.getElem_of_mem hq;have:=h i j;simpa[ent,List.getD_eq_getElem?_getD,hi,b]using this
theorem a5W {m:Mat} {v:List Rat} {i:Nat} (hi:i<m.length) (h:i<(a3j m v).length):(a3j m v)[i]=a2l m[i] v:=by simp[a3j]
theorem a8T {a b:Mat} {n c i:Nat} (hi:i<a.length) (h:i<(b0S a b n c).length):(b0S a b n c)[i]=a3j (trL b n c) a[i]:=by simp[b0S]
theorem b5Q (a b:Mat) (n c:Nat):(b0S a b n c).length=a.length:=by simp[b0S]
theorem b3n {B:Nat} {x:List Rat} (hx:Go.Rep.BR B x) (a:1<=B) (q:Nat):hq (x.getD q 0)<=B:=by
 by_cases h:q<x.length
 ·rw[List.getD_eq_getElem?_getD,List.getElem?_eq_getElem h];exact hx _ (List.getElem_mem h)
 ·rw[List.getD_eq_getElem?_getD,List.getElem?_eq_none (by omega)]
  show hq 0<=B
  rw[a0Z];exact a
theorem a2g {B:Nat} {l m:List Rat} (c:Go.Rep.BR B l) (b:Go.Rep.BR B m) (a:1<=B) (i:l.length<=96) (f:200*B<=68000000000):(∀k,k<=l.length->hq (a3Z l m k)<=68719476736)/\∀k,k<l.length->hq (l.getD k 0*m.getD k 0)<=68719476736:=by
 refine⟨fun k e=>?_,fun k e=>?_⟩
 ·have g:=b8H c b a k
  have d:k*(2*B+1)<=96*(2*B+1):=Nat.mul_le_mul_right _ (by omega);omega
 ·have g:=hq_mul (l.getD k 0) (m.getD k 0)
  have d:=b3n c a k;have h:=b3n b a k;omega
end Go.Lin
namespace Go.Proofs.YtidbbddagfnfbaaGreat
open Go.RowKit Go.Rep Go.Lim Go.Lin
def c1D (X:Nat->Bool) (w:World) (l:List Rat) (e:Ending) (w':World):Prop:=Ext w w'/\∃u,e= .returned (.tuple #[u, .int .i64 0])/\RC (mk X w') u l
end Go.Proofs.YtidbbddagfnfbaaGreat
namespace Go.Lin
open Go.Lim
def a2W (m:Mat) (b:List Rat) (n:Nat):Mat:=(List.range n).map fun i=>m.getD i []++[b.getD i 0]
theorem a2m {m:Mat} {b:List Rat} {n c:Nat} (a:Shp n c m):Shp n (c+1) (a2W m b n):=⟨by simp[a2W],fun r d=>by
 obtain⟨i,hi,rfl⟩:=List.mem_map.1 d;rw[List.length_append,a.row (List.mem_range.1 hi)];rfl⟩
theorem b3o {m:Mat} {b:List Rat} {n i:Nat} (h:i<(a2W m b n).length) (hi:i<m.length) (a:i<b.length):(a2W m b n)[i]=m[i]++[b[i]]:=by
 simp[a2W,hi,a,List.getD_eq_getElem?_getD]
theorem a8U {m:Mat} {b:List Rat} {n c:Nat} (a:Shp n c m):Eqm n (c+1) (ent (a2W m b n)) (a3d c (ent m) fun i=>b.getD i 0):=fun i hi j f=>by
 have d:=a.row hi;have e:(a2W m b n).getD i []=m.getD i []++[b.getD i 0]:=by simp[a2W,List.getD_eq_getElem?_getD,hi]
 show((a2W m b n).getD i []).getD j 0=_
 unfold a3d;rw[e,List.getD_eq_getElem?_getD];by_cases h:j=c
 ·rw[if_pos h,List.getElem?_append_right (by omega),d];subst h;simp
 ·rw[if_neg h,List.getElem?_append_left (by omega),<-List.getD_eq_getElem?_getD];rfl
theorem b0W (k:Nat):eN [] k=([],[],false):=by
 induction k with
 |zero=>rfl
 |succ k ih=>unfold eN;rw[ih];rfl
theorem b0X (k:Nat):a1d [] k=([],[]):=by unfold a1d;rw[b0W];rfl
theorem b3p {n c:Nat} {m:Mat} (b:Shp n c m) (a:Nat) (h:0<n->a=c):a1d m a=a1d m c:=by
 by_cases d:n=0
 ·have:m= []:=List.eq_nil_of_length_eq_zero (by rw[b.1];exact d)
  subst this;rw[b0X,b0X]
 ·rw[h (by omega)]
theorem b3q {n c:Nat} {m:Mat} (g:Shp n c m) (b:Nat) (h:0<n->b=c) (d:b5i m c):b5i m b:=by
 by_cases k:n=0
 ·have:m= []:=List.eq_nil_of_length_eq_zero (by rw[g.1];exact k)
  subst this;obtain⟨B,i,f,_⟩:=d;have a:=f 0 (Nat.zero_le _);rw[b0W]at a;refine⟨B,i,fun j _=>by rw[b0W];exact a,fun t e=>?_⟩;rw[b0W]at e |-;have:t=0:=by simpa using e
  subst this;exact a
 ·rw[h (by omega)];exact d
def sN (R:Mat) (p:List Nat) (c:Nat):Nat->List Rat
 |0=>List.replicate c 0
 |i+1=>(sN R p c i).set (p.getD i 0) (ent R i c)
theorem b0Y (R:Mat) (p:List Nat) (c i:Nat):(sN R p c i).length=c:=by
 induction i with
 |zero=>exact List.length_replicate
 |succ i ih=>show((sN R p c i).set _ _).length=c;rw[List.length_set,ih]
theorem c0q {n c:Nat} {R:Mat} {p:List Nat} (hr:Rref n (c+1) (ent R) p) (i:Nat) (hi:i<=p.length) (x:Nat) (hx:x<c):(sN R p c i).getD x 0=match p.findIdx? (· ==x)with|some k=>if k<i then ent R k c else 0|none=>0:=by
 induction i with
 |zero=>
  show(List.replicate c (0:Rat)).getD x 0=_
  have:(List.replicate c (0:Rat)).getD x 0=0:=by simp[List.getD_eq_getElem?_getD,hx]
  rw[this];cases p.findIdx? (· ==x)<;>simp
 |succ i ih=>
  have hip:i<p.length:=by omega
  have hpi:p.getD i 0=p[i]:=by simp[List.getD_eq_getElem?_getD,hip]
  show((sN R p c i).set (p.getD i 0) (ent R i c)).getD x 0=_
  rw[hpi,List.getD_eq_getElem?_getD,List.getElem?_set,b0Y];by_cases h:p[i]=x
  ·rw[if_pos h,if_pos (by omega),<-h,hr.idx i hip];simp
  ·rw[if_neg h,<-List.getD_eq_getElem?_getD,ih (by omega)]
   cases hf:p.findIdx? (· ==x)with
   |none=>rfl
   |some k=>
    have hk:=List.findIdx?_eq_some_iff_getElem.1 hf;obtain⟨hk1,hk2,_⟩:=hk;have hki:k≠i:=by rintro rfl;exact h (by simpa using hk2)
    dsimp only
    by_cases h2:k<i
    ·rw[if_pos h2,if_pos (by omega)]
    ·rw[if_neg h2,if_neg (by omega)]
def b7v (R:Mat) (p:List Nat) (c:Nat):List Rat:=sN R p c p.length
theorem b0Z {n c:Nat} {R:Mat} {p:List Nat} (hr:Rref n (c+1) (ent R) p) (x:Nat) (hx:x<c):(b7v R p c).getD x 0=b2v (ent R) p c x:=by
 unfold b7v b2v;rw[c0q hr _ (Nat.le_refl _) x hx];cases hf:p.findIdx? (· ==x)with
 |none=>rfl
 |some k=>
  obtain⟨hk1,_⟩:=List.findIdx?_eq_some_iff_getElem.1 hf
  dsimp only
  rw[if_pos hk1]
end Go.Lin
namespace Go.Proofs.YtidbbddagfnfbaaGreat
open Go.RowKit Go.Rep Go.Lim Go.Lin
end Go.Proofs.YtidbbddagfnfbaaGreat
namespace Go.Rep
open Go.RowKit
section
variable {P:Program} {ops:Array Oper} {Q:Exit->Act->World->Prop} {rest:List Oper} {a:Act} {w:World}
variable {α:Type} {R:Mem->Value->α->Prop} {sz:Nat} {X:Nat->Bool} {base:Nat} {e:TypeId} {ao:Option Addr} {cap:Nat} {l:List α}
variable {d:Option Tmp} {ty:TypeId} {ps:String} {af:Array Edge}
theorem OL.field (E:Elem R sz) (h:OL R sz X base e w ao cap l) (i j:Nat) (hi:i<l.length) (A:j<sz) (v:Value) (y:α)
  (K:∀u,R (mk (un X ao) w) u l[i]->∃u',a0i u'=(a0i u).set j v/\R (mk (un X ao) w) u' y):
  (∃v0,w.cell? (adr ao (i*sz+j))=some v0)/\w.frozen? (adr ao (i*sz+j))=false/\Sl R sz (mk X (w.setCell (adr ao (i*sz+j)) v)) ao (l.set i y)/\ExtX (ob ao) w (w.setCell (adr ao (i*sz+j)) v):=by
 obtain⟨us,P,m,O,M,H⟩:=h.cells;have t:(i+1)*sz<=us.length*sz:=Nat.mul_le_mul_right _ (by omega);rw[Nat.succ_mul]at t;have a:∀k (d:k<us.length) q (hq:q<sz),w.cell? (adr ao (k*sz+q))=some (us[k].cells[q]'(by rw[m _ (List.getElem_mem _)];exact hq))/\w.frozen? (adr ao (k*sz+q))=false:=by
  intro k d q hq;have hz:us[k].cells.size=sz:=m _ (List.getElem_mem _);have J:=a3v us k q d m hq;have n:(a0i us[k])[q]? =some (us[k].cells[q]'(by rw[hz];exact hq)):=by simp[a0i,hz,hq]
  rw[n]at J;exact M _ _ J
 have G:ExtX (ob ao) w (w.setCell (adr ao (i*sz+j)) v):=
  ⟨rfl,rfl,rfl,by simp[World.setCell],fun k d N=>Below.heap_setCell _ _ _ _ (fun e=>by
   have D:=h.form;rcases D with⟨_,_,rfl⟩|⟨g,B,rfl,_⟩
   ·simp at hi
   ·subst e;simp[ob]at N)⟩
 have I:∀q,X (adr ao q).block=false:=by
  intro q;have D:=h.form;have hx:=h.1;rcases D with⟨_,_,rfl⟩|⟨g,B,rfl,_⟩
  ·simp at hi
  ·exact hx _ (by simp[ob,adr])
 have p:i<us.length:=by omega
 refine⟨⟨_,(a i p j A).1⟩,(a i p j A).2,⟨by simpa using h.hd,fun k d=>?_⟩,G⟩;have c:k<us.length:=by simpa[P]using d
 have x:Le (mk (un X ao) w) (mk X (w.setCell (adr ao (i*sz+j)) v)):=a0T G (fun k _ d=>a0r d) fun k _ d=>a0f d;by_cases f:k=i
 ·subst f
  obtain⟨u',C,s⟩:=K us[k] (H k c (by omega));have r:=E.size _ _ _ s;refine⟨u',r,fun q hq=>?_,by simpa using E.mono _ _ _ _ x s⟩;have o:q<sz:=by omega
  have b:(a0i u')[q]? =some u'.cells[q]:=by simp[a0i,hq]
  rw[C,List.getElem?_set]at b;unfold mk;rw[I];by_cases z:j=q
  ·subst z
   rw[if_pos rfl,if_pos (by simp[a0i,m _ (List.getElem_mem c),A])]at b;have:u'.cells[j]=v:=by simpa using b.symm
   rw[this];exact World.cell?_setCell_same' w _ v (by rw[(a k c j A).1];rfl)
  ·rw[if_neg z]at b
   have n:=(a k c q o).1;have:us[k].cells[q]'(by rw[m _ (List.getElem_mem _)];exact o)=u'.cells[q]:=by
    simpa[a0i]using(List.getElem?_eq_some_iff.1 b).2
   rw[this]at n;rw[<-n];exact World.cell?_setCell_other w _ _ v (by simp[adr])
 ·have hz:us[k].cells.size=sz:=m _ (List.getElem_mem _)
  refine⟨us[k],hz,fun q hq=>?_,by simpa[List.getElem_set,Ne.symm f]using E.mono _ _ _ _ x (H k c (by simpa using d))⟩;have n:=(a k c q (by omega)).1;unfold mk;rw[I,<-n];refine World.cell?_setCell_other w _ _ v ?_;have L:k*sz+q≠i*sz+j:=by
   intro Q;rcases Nat.lt_or_gt_of_ne f with F|F
   ·have:=Nat.mul_le_mul_right sz (show k+1<=i by omega)
    rw[Nat.succ_mul]at this;omega
   ·have:=Nat.mul_le_mul_right sz (show i+1<=k by omega)
    rw[Nat.succ_mul]at this;omega
  simp[adr]
theorem a8i {t:TypeId} {x y:Operand} {A:Addr} {v v0:Value} (g:TyI P t 1) (hx:a.eval x= .pointer (some A)) (k:a.eval y=v) (i:v.cells=#[v]) (b:v.oneCell'=true) (l:w.cell? A=some v0) (h:w.frozen? A=false)
  (K:wpList P ops Q rest (a.put d undef) (w.setCell A v)):
  wpList P ops Q (⟨d, .store t x y,ty,ps,af,none⟩::rest) a w:=by
 refine wpList_plain rfl fun n c=>?_;obtain⟨m,j,e⟩:=g;unfold Oper.wp;subst k;have f:=run_store P w A (a.eval y) .plain b;rw[l,h]at f;simp only[Bool.false_eq_true,if_false]at f;simp[execOp,hx,Instr.storeAt,Instr.sureAddr,storeVar,sizeOf,typeInfo,j,e,i,Result.andThen,storeCells,Addr.add_zero',f];exact c _ _ K
end
end Go.Rep
namespace Go.Rep
open Go.RowKit
section
variable {P:Program} {ops:Array Oper} {Q:Exit->Act->World->Prop} {rest:List Oper} {a:Act} {w:World}
variable {α:Type} {R:Mem->Value->α->Prop} {sz:Nat} {X:Nat->Bool} {e:TypeId}
variable {d:Option Tmp} {ty:TypeId} {ps:String} {af:Array Edge}
theorem a8j {t j:Nat} {z:Value} {s x:Operand} {h:Option Addr} {A m:Nat} (T:SliceT P t e sz j z) (p:z.cells.size=sz) (y:Elem R sz) (v:∀k,X k=true->k<w.heap.size)
  (n:List α) (u:a.eval s= .slice none 0 0) (hx:a.eval x= .slice h m A) (r:m=n.length)
  (hxs:Sl R sz (mk X w) h n) (f:m*j<=140737488355328) (i:m<=9223372036854775807)
  (K:∀c b g,OL R sz X w.heap.size e g c b n->Ext w g->wpList P ops Q rest (a.put d (.slice c m b)) g):
  wpList P ops Q (⟨d, .call {callee:= .builtin .append,args:=#[s,x],argTypes:=#[t,t]},ty,ps,af,none⟩::rest) a w:=by
 subst r;have B:OL R sz X w.heap.size e w none 0 []:=OL.nil _ _ _ _ _ _;have o:un X none=X:=by funext k;simp[un,ob]
 refine a3g (l:=[]) T p y (Nat.le_refl _) v n u hx B (by rw[o];exact hxs) (by simpa using f) (by simpa using i) ?_;intro c b g D C E;have q:Ext w g:=C.weaken fun k _ _=>by simp[ob]
 exact K c b g D q
theorem OL.rehide {base cap:Nat} {ao:Option Addr} {l:List α} (d:Elem R sz) (a:∀h o u x,R h u x->R o u x) (h:OL R sz X base e w ao cap l) {Z:Nat->Bool} (hz:∀k,ob ao k=true->Z k=false):Sl R sz (mk Z w) ao l:=by
 have c:=h.form;have b:=h.sl d;rcases c with⟨rfl,_,rfl⟩|⟨g,p,rfl,_⟩
 ·exact Sl.nil _ _ _ _
 ·refine⟨b.1,fun i hi=>?_⟩
  obtain⟨u,q,m,n⟩:=b.2 i hi;refine⟨u,q,fun j f=>?_,a _ _ _ _ n⟩;have:=a0S (m j f);unfold mk;rw[hz _ (by simp[ob,adr])];simpa using this
theorem OL.beside {base cap:Nat} {ao oo a:Option Addr} {l:List α} {b:World} (f:Elem R sz) (h:OL R sz (un X oo) base e w ao cap l) (d:ExtX (ob oo) w b) (i:a=oo\/∃g,a=some ⟨g,0,none⟩/\w.heap.size<=g):OL R sz (un X a) base e b ao cap l:=
 h.ext f d (fun k _ c=>a0r c) fun k c hz=>by
  rcases i with rfl|⟨g,rfl,j⟩
  ·exact hz
  ·by_cases hx:X k=true
   ·exact a0f hx
   ·have:g=k:=by simpa[un,hx,ob]using hz
    omega
end
end Go.Rep
namespace Go.Rep
open Go.RowKit
section
variable {P:Program} {ops:Array Oper} {Q:Exit->Act->World->Prop} {rest:List Oper} {a:Act} {w:World}
variable {α:Type} {R:Mem->Value->α->Prop} {sz:Nat} {X:Nat->Bool} {base:Nat} {e:TypeId} {ao:Option Addr} {cap:Nat} {l:List α}
variable {d:Option Tmp} {ty:TypeId} {ps:String} {af:Array Edge}
theorem OL.take (h:OL R sz X base e w ao cap l) (_:∀m u x,R m u x->u.cells.size=sz) (n:Nat):OL R sz X base e w ao cap (l.take n):=by
 have G:=h.form;obtain⟨hx,us,o,D,k,⟨H,C⟩,A⟩:=h;have a:∀u∈us.take n,u.cells.size=sz:=fun u j=>D u (List.mem_of_mem_take j);refine⟨hx,us.take n,by simp[o],a,fun u j=>k u (List.mem_of_mem_take j),⟨by rw[a0Q _ a];simp[o],?_⟩,fun i hi d=>?_⟩
 ·rcases C with⟨b,E⟩|⟨g,c,f,b,t,r,F,v,B,q⟩
  ·simp at b
   obtain⟨rfl,p,rfl⟩:=b;refine .inl ⟨by simp[p],by simp[p]⟩
  ·simp at b
   obtain⟨rfl,rfl⟩:=b;refine .inr ⟨g,cap,f,by simp,t,r,by simp;omega,v,B,?_⟩;have s:(us.take n).flatMap a0i=(us.flatMap a0i).take ((l.take n).length*sz):=by
    have z:us.flatMap a0i=(us.take n).flatMap a0i++(us.drop n).flatMap a0i:=by
     rw[<-List.flatMap_append,List.take_append_drop]
    rw[z];have y:(l.take n).length*sz=((us.take n).flatMap a0i).length:=by rw[a0Q _ a];simp[o]
    rw[y,List.take_left]
   rw[s,<-q,List.take_take]
   congr 1
   have:(l.take n).length<=l.length:=by simp;omega
   exact(Nat.min_eq_left (Nat.mul_le_mul_right _ this)).symm
 ·simp only[List.getElem_take]
  exact A i (by simp at hi;omega) (by simp at d;omega)
theorem a7b {t a0:Nat} {z:Value} {arr:Array Value} {s x:Operand} {g n:Nat} (T:SliceT P t e sz a0 z) (D:Elem R sz)
  (hs:a.eval s= .slice (some ⟨g,0,none⟩) n cap) (hn:l.length=n) (hx:a.eval x= .slice (some ⟨w.heap.size,0,none⟩) 1 1) (h:OL R sz X base e w (some ⟨g,0,none⟩) cap l)
  (u:Value) (y:α) (I:arr=u.cells) (hu:R (mk (un X (some ⟨g,0,none⟩)) w) u y) (m:n+1<=cap)
  (K:∀w',OL R sz X base e w' (some ⟨g,0,none⟩) cap (l++[y])->ExtX (ob (some ⟨g,0,none⟩)) w w'->wpList P ops Q rest (a.put d (.slice (some ⟨g,0,none⟩) (n+1) cap)) w'):
  wpList P ops Q (⟨d, .call {callee:= .builtin .append,args:=#[s,x],argTypes:=#[t,t]},ty,ps,af,none⟩::rest) a (w.alloc (.cells arr e)):=by
 subst hn;refine wpList_plain rfl fun K' a1=>?_;have Y:Ext w (w.alloc (.cells arr e)):=(ExtX.refl w).alloc _;have h':=h.ext0 D Y;obtain⟨i,hi,hz,o,a8⟩:=info_parts T.info;have hat:=b2G w arr e u I;have A:=D.size _ _ _ hu;have O:=D.one _ _ _ hu;have G:R (mk (un X (some ⟨g,0,none⟩)) (w.alloc (.cells arr e))) u y:=D.mono _ _ _ _ (a0l Y) hu;have r:(a0i u).length=1*i.size:=by simp[a0i,A,o]
 have p:∀j v,(a0i u)[j]? =some v->(w.alloc (.cells arr e)).cell? ((⟨w.heap.size,0,none⟩:Addr).add j)=some v:=by
  intro j v hj;rw[<-a7M rfl];exact hat.2 j v (by simpa using hj)
 have q:=h'.form;generalize hW:w.alloc (.cells arr e)=W at Y h' G p q;obtain⟨a4,us,h1,h2,a3,h3,h5⟩:=h';rcases q with⟨b,_⟩|⟨g',f,b,h6,h7,h8,h9,a2⟩
 ·simp at b
 simp at b;subst b;have U:(us.flatMap a0i).length=l.length*i.size:=by rw[a0Q us h2,h1,o]
 have E:(us++[u]).flatMap a0i=us.flatMap a0i++a0i u:=by simp
 have L:∀v∈us++[u],v.cells.size=sz:=by
  intro v b;rcases List.mem_append.1 b with b|b
  ·exact h2 v b
  ·rw[List.mem_singleton.1 b];exact A
 have C:∀v∈us++[u],∀c∈a0i v,c.oneCell'=true:=by
  intro v b c hc;rcases List.mem_append.1 b with b|b
  ·exact a3 v b c hc
  ·rw[List.mem_singleton.1 b]at hc;exact O c hc
 have S:l.length*i.size+(a0i u).length<=f.size:=by rw[r,a2,<-o,<-Nat.add_mul];exact Nat.mul_le_mul_right _ m
 have hr:=run_append_room (P:=P) W t ty e i T.und hi g l.length cap f h7 ⟨w.heap.size,0,none⟩ 1 1 (a0i u) r p O m S;have J:ExtX (ob (some ⟨g,0,none⟩)) W (W.setRow g (f.toList.take (l.length*i.size)++a0i u++f.toList.drop (l.length*i.size+(a0i u).length)).toArray):=
  ⟨rfl,rfl,rfl,by simp,fun k _ hk=>setRow_other W g k _ (fun ek=>by subst ek;simp[ob]at hk)⟩
 have B:(l++[y]).length=l.length+1:=by simp
 have a5:OL R sz X base e (W.setRow g (f.toList.take (l.length*i.size)++a0i u++f.toList.drop (l.length*i.size+(a0i u).length)).toArray) (some ⟨g,0,none⟩) cap (l++[y]):=by
  refine⟨a4,us++[u],by simp[h1],L,C,⟨by rw[E];simp[U,r,o,Nat.add_mul], .inr ⟨g,cap,_,by rw[B],h6,setRow_heap W g f _ e _ h7,by rw[B];exact m,h9,?_,?_⟩⟩,?_⟩
  ·simp only[List.size_toArray,List.length_append,List.length_take,List.length_drop,Array.length_toList];omega
  ·rw[E,B]
   rcases h3.2 with⟨b,_⟩|⟨g',c',F,b,_,H,_,_,_,a6⟩
   ·simp at b
   simp at b;obtain⟨rfl,rfl⟩:=b;rw[h7]at H;obtain rfl:f=F:=by simpa using H
   have e1:f.toList.take (l.length*i.size)=us.flatMap a0i:=by rw[o];exact a6
   rw[e1];have N:(l.length+1)*sz=(us.flatMap a0i++a0i u).length:=by simp only[List.length_append,U,r,o,Nat.add_mul]
   rw[N];exact List.take_left
  ·intro k hk a7
   have M:Le (mk (un X (some ⟨g,0,none⟩)) W) (mk (un X (some ⟨g,0,none⟩)) _):=a2j J (.inl rfl);by_cases V:k<us.length
   ·simpa[List.getElem_append_left V,List.getElem_append_left (show k<l.length by omega)]using D.mono _ _ _ _ M (h5 k V (by omega))
   ·have Z:k=us.length:=by simp at hk;omega
    subst Z;have:=D.mono _ _ _ _ M G;simpa[List.getElem_append_right,h1]using this
 unfold Oper.wp execOp;simp only[resolve,invoke,builtin,Sem.run_bind,Sem.run_pure,Result.andThen_ok,List.map_toArray,List.map_cons,List.map_nil,hs,hx];rw[hr];exact a1 _ _ (K _ a5 ((ExtX.of Y).trans J))
theorem b5R {t c:Nat} {z:Value} {x y:Operand} {u r:IntKind} {m s:Int} (T:SliceT P t e sz c z) (_:z.cells.size=sz) (X:Nat->Bool) (C:∀k,X k=true->k<w.heap.size) (base:Nat) (b:base<=w.heap.size)
  (n:Nat) (D:a.eval x= .int u s) (j:s=0) (F:a.eval y= .int r m) (B:m=(n:Int)) (h:c*n<=281474976710656) (f:n<=9223372036854775807)
  (K:∀g,OL R sz X base e g (some ⟨w.heap.size,0,none⟩) n []->Ext w g->g.heap.size=w.heap.size+1->wpList P ops Q rest (a.put d (.slice (some ⟨w.heap.size,0,none⟩) 0 n)) g):
  wpList P ops Q (⟨d, .makeSlice t x y,ty,ps,af,none⟩::rest) a w:=by
 refine wpList_plain rfl fun G p=>?_;subst B;subst j;obtain⟨i,hi,l,o,q⟩:=info_parts T.info;have v:=Go.run_make (P:=P) w t e i z T.und hi l u r 0 n (by omega) (by omega) (by rw[q,<-Int.natCast_mul];omega) (by omega);simp only[Int.toNat_natCast,Int.toNat_zero]at v;unfold Oper.wp;simp[execOp,D,F,v,Result.andThen];refine p _ _ (K _ ⟨fun k E=>?_,[],rfl,by simp,by simp,⟨by simp, .inr ⟨w.heap.size,n,_,by simp,b,heap_alloc_new w _,by simp,by simpa[maxLen]using f,by rw[size_madeCells,o],by simp⟩⟩,fun i hi=>by simp at hi⟩ ((ExtX.refl w).alloc _) (by simp));have:w.heap.size=k:=by simpa[ob]using E
 cases A:X k
 ·rfl
 ·have:=C k A;omega
end
end Go.Rep
namespace Go.Rep
open Go.RowKit
theorem OL.hide0 {α:Type} {R:Mem->Value->α->Prop} {sz base cap:Nat} {X Z:Nat->Bool} {e:TypeId} {w:World} {ao:Option Addr} {l:List α} (h:OL R sz X base e w ao cap l) (a:∀h j u x,R h u x->R j u x) (hz:∀k,ob ao k=true->Z k=false):OL R sz Z base e w ao cap l:=by
 obtain⟨hx,us,m,f,c,g,d⟩:=h;exact⟨hz,us,m,f,c,g,fun i hi b=>a _ _ _ _ (d i hi b)⟩
end Go.Rep
namespace Go.Lim
theorem b3r {m h:Nat} {lo:Int} (a:m<h):a0C m h lo= []:=List.eq_nil_of_length_eq_zero (by rw[a1H,b5s m h a])
end Go.Lim
namespace Go.Proofs.YtidbbddagfnfbaaGreat
open Go.RowKit Go.Rep Go.Lim
def a4r (base:Nat):Nat->Bool:=fun k=>decide (base<=k)&&decide (k<base+6)
def hbB (W:World) (g:Nat):Nat->Bool:=fun k=>decide (k<W.heap.size)&& !(k==g)
structure FromSt (base n k:Nat) (fv:Value) (W:World) (Q:List Int):Prop where
 bn:W.heap[base]? =some (.cells #[.int .i64 (n:Int)] 3 (0,0))
 bk:W.heap[base+1]? =some (.cells #[.int .i64 (k:Int)] 3 (0,0))
 bf:W.heap[base+2]? =some (.cells #[fv] 122 (0,0))
 bl:W.heap[base+4]? =some (.cells #[.slice (some ⟨base+3,0,none⟩) Q.length k] 22 (0,0))
 br:W.heap[base+5]? =some (.cells #[.func (.func 157) #[] #[.pointer (some ⟨base+4,0,none⟩), .pointer (some ⟨base+1,0,none⟩), .pointer (some ⟨base+2,0,none⟩), .pointer (some ⟨base,0,none⟩), .pointer (some ⟨base+5,0,none⟩)]] 176 (0,0))
 ol:OL (a0p .i64) 1 (hbB W (base+3)) base 3 W (some ⟨base+3,0,none⟩) k Q
 sz:base+6<=W.heap.size
def b1a (base:Nat) (W W':World):Prop:=W.heap.size<=W'.heap.size/\∀k,a4r base k=true->W'.heap[k]? =W.heap[k]?
theorem ob3 {base k:Nat} (h:ob (some ⟨base,0,none⟩) k=true):base=k:=by simpa[ob]using h
theorem b8O {W:World} {base k:Nat} (h:ob (some ⟨base,0,none⟩) k=true):hbB W base k=false:=by
 have:=ob3 h;subst this;simp[hbB]
theorem b3s:∀(h a:Mem) (u:Value) (x:Int),a0p .i64 h u x->a0p .i64 a u x:=fun _ _ _ _ h=>h
theorem FromSt.keep {base n k:Nat} {fv:Value} {W W':World} {Q:List Int} (h:FromSt base n k fv W Q) (b:b1a base W W'):FromSt base n k fv W' Q:=by
 have a:∀d,d<6->W'.heap[base+d]? =W.heap[base+d]?:=fun d hd=>b.2 _ (by simp[a4r];omega);refine⟨by have:=a 0 (by omega);simp only[Nat.add_zero]at this;rw[this];exact h.bn,by rw[a 1 (by omega)];exact h.bk,by rw[a 2 (by omega)];exact h.bf,by rw[a 4 (by omega)];exact h.bl,by rw[a 5 (by omega)];exact h.br,?_,Nat.le_trans h.sz b.1⟩;have s:=h.ol;obtain⟨hx,us,v,t,j,⟨u,f⟩,r⟩:=s;refine⟨fun k b=>b8O b,us,v,t,j,⟨u,?_⟩,fun i hi e=>b3s _ _ _ _ (r i hi e)⟩;rcases f with f|⟨g,c,l,m,q,p,o⟩
 ·exact .inl f
 ·simp at m
  obtain⟨rfl,rfl⟩:=m;exact .inr ⟨base+3,k,l,by simp,q,by rw[a 3 (by omega)];exact p,o⟩
theorem FromSt.set {base n k:Nat} {fv:Value} {W b:World} {Q o:List Int} (h:FromSt base n k fv W Q) (f:ExtX (ob (some ⟨base+3,0,none⟩)) W b) {X:Nat->Bool} (H:OL (a0p .i64) 1 X base 3 b (some ⟨base+3,0,none⟩) k o) (m:Nat) (J:m=o.length):
  FromSt base n k fv (b.setCell ⟨base+4,0,none⟩ (.slice (some ⟨base+3,0,none⟩) m k)) o/\ExtX (a4r base) W (b.setCell ⟨base+4,0,none⟩ (.slice (some ⟨base+3,0,none⟩) m k))/\
   b.cell? ⟨base+4,0,none⟩=some (.slice (some ⟨base+3,0,none⟩) Q.length k)/\b.frozen? ⟨base+4,0,none⟩=false:=by
 subst J;have I:=h.sz;have a:ExtX (fun j=>j==base+4) b (b.setCell ⟨base+4,0,none⟩ (.slice (some ⟨base+3,0,none⟩) o.length k)):=
  ⟨rfl,rfl,rfl,by simp[World.setCell],fun j l r=>Below.heap_setCell _ _ _ _ (fun e=>by subst e;simp at r)⟩
 have A:∀j,j<W.heap.size->j≠base+3->b.heap[j]? =W.heap[j]?:=fun j l s=>f.block j l (by
  cases F:ob (some ⟨base+3,0,none⟩) j
  ·rfl
  ·exact absurd (ob3 F).symm s)
 have q:∀j,j<W.heap.size->j≠base+3->j≠base+4->(b.setCell ⟨base+4,0,none⟩ (.slice (some ⟨base+3,0,none⟩) o.length k)).heap[j]? =W.heap[j]?:=fun j l s u=>by
  rw[a.block j (Nat.lt_of_lt_of_le l f.size) (by simpa using u),A j l s]
 have d:=A (base+4) (by omega) (by omega);rw[h.bl]at d;have p:(b.setCell ⟨base+4,0,none⟩ (.slice (some ⟨base+3,0,none⟩) o.length k)).heap[base+4]? =some (.cells #[.slice (some ⟨base+3,0,none⟩) o.length k] 22 (0,0)):=by
  simp only[World.setCell,Array.getElem?_modify,d];simp
 refine⟨⟨by rw[q base (by omega) (by omega) (by omega)];exact h.bn,by rw[q _ (by omega) (by omega) (by omega)];exact h.bk,by rw[q _ (by omega) (by omega) (by omega)];exact h.bf,p,by rw[q _ (by omega) (by omega) (by omega)];exact h.br,?_,by simp[World.setCell];have:=f.size;omega⟩,?_,by simp[World.cell?,d],by simp[World.frozen?,d]⟩
 ·obtain⟨hx,us,E,G,w,⟨L,x⟩,D⟩:=H
  refine⟨fun k M=>b8O M,us,E,G,w,⟨L,?_⟩,fun i hi t=>b3s _ _ _ _ (D i hi t)⟩;rcases x with x|⟨g,c,v,z,C,B,K⟩
  ·exact .inl x
  ·simp at z
   obtain⟨rfl,rfl⟩:=z;have y:base+3<b.heap.size:=by have:=f.size;omega
   exact .inr ⟨base+3,k,v,by simp,C,by rw[a.block _ y (by simp)];exact B,K⟩
 ·refine⟨a.os.trans f.os,a.tape.trans f.tape,a.output.trans f.output,Nat.le_trans f.size a.size,fun j l r=>q j l ?_ ?_⟩
  ·intro e;subst e;simp[a4r]at r
  ·intro e;subst e;simp[a4r]at r
section
variable (cb base n k:Nat) (caps:Array Value) (Inv:List (List Int)->World->Prop)
set_option maxRecDepth 100000 in
theorem b5S (hcf:∀(args:Array Value) (W:World),Sem.run Tryz.prog (callFunc cb args) W= .ok (.enter cb args) W) (hn:n<=64) (hk:k<=64)
  (hInv:∀done W W',Inv done W->ExtX (a4r base) W W'->Inv done W')
  (hCB:∀(done:List (List Int)) (s:List Int) (W:World),Inv done W->(∃rest,done++[s]++rest=a0C n k 0)->Sl (a0p .i64) 1 W.cell? (some ⟨base+3,0,none⟩) s->base+6<=W.heap.size->
   Calls Tryz.prog cb (#[.slice (some ⟨base+3,0,none⟩) s.length k]++caps) W (fun e W'=>e= .returned (.tuple #[])/\Inv (done++[s]) W'/\b1a base W W')) (g:Nat):
  ∀(i:Nat) (Q:List Int) (done:List (List Int)) (W:World),Q.length+g=k->i<=n+1->FromSt base n k (.func (.func cb) #[] caps) W Q->Inv done W->Hid (∃rest,done++(a0C (n - i) g i).map (Q++ ·)++rest=a0C n k 0)->
  Calls Tryz.prog 157 #[.int .i64 (i:Int), .pointer (some ⟨base+4,0,none⟩), .pointer (some ⟨base+1,0,none⟩), .pointer (some ⟨base+2,0,none⟩), .pointer (some ⟨base,0,none⟩), .pointer (some ⟨base+5,0,none⟩)] W
   (fun e W'=>e= .returned (.tuple #[])/\FromSt base n k (.func (.func cb) #[] caps) W' Q/\Inv (done++(a0C (n - i) g i).map (Q++ ·)) W'):=by
 induction g with
 |zero=>
  intro i Q done W hQ hi hst hiv hpre;have cl:W.cell? ⟨base+4,0,none⟩=some (.slice (some ⟨base+3,0,none⟩) Q.length k):=by simp[World.cell?,hst.bl]
  have ck:W.cell? ⟨base+1,0,none⟩=some (.int .i64 (k:Int)):=by simp[World.cell?,hst.bk]
  have cf:W.cell? ⟨base+2,0,none⟩=some (.func (.func cb) #[] caps):=by simp[World.cell?,hst.bf]
  have hs:Sl (a0p .i64) 1 W.cell? (some ⟨base+3,0,none⟩) Q:=by
   have:=(hst.ol.hide0 b3s (Z:=noY) (fun k hk=>rfl)).sl (a0p.elem _);rw[a1U]at this;exact this
  have hQk:Q.length=k:=by omega
  go_enter Tryz.func157,Tryz.ntmps157
  go_wp2_with fail
  have hcb:=hCB done Q W hiv (by obtain⟨rest,hr⟩:=hpre.out;rw[a2I]at hr;exact⟨rest,by simpa using hr⟩) hs hst.sz;rw[hQk]at hcb;refine hcb.mono ?_;rintro e w1 ⟨rfl,hiv1,hkp⟩;have hst1:=hst.keep hkp;have hfin:Hid (done++(a0C (n - i) 0 i).map (Q++ ·)=done++[Q]):=hid (by rw[a2I];simp);clear hst hs cl ck cf hcb;go_wp2_with fail
  refine bodyPost_ret (results_none rfl _ _ _) rfl ?_;rw[hfin.out];exact⟨rfl,hst1,hiv1⟩
 |succ g ih=>
  intro i Q done W hQ hi hst hiv hpre;have cl:W.cell? ⟨base+4,0,none⟩=some (.slice (some ⟨base+3,0,none⟩) Q.length k):=by simp[World.cell?,hst.bl]
  have ck:W.cell? ⟨base+1,0,none⟩=some (.int .i64 (k:Int)):=by simp[World.cell?,hst.bk]
  have hQk:((Q.length:Int)==(k:Int))=false:=a2w (by omega);go_enter Tryz.func157,Tryz.ntmps157
  go_wp2_with fail
  go_loopw [0] (fun c wr=>∃(j:Nat) (D:List (List Int)),c= .int .i64 j/\j<=n+1/\FromSt base n k (.func (.func cb) #[] caps) wr Q/\Inv D wr/\Hid (D++(a0C (n - j) (g+1) j).map (Q++ ·)=done++(a0C (n - i) (g+1) i).map (Q++ ·))) (fun c _=>n+1 - (intOf c).toNat)
  case atStart=>exact⟨i,done,rfl,hi,hst,hiv,hid rfl⟩
  case round=>
   obtain⟨j,D,rfl,hj,hst1,hiv1,hDe⟩:=hrel;clear cl ck hst hiv;have cl:wr.cell? ⟨base+4,0,none⟩=some (.slice (some ⟨base+3,0,none⟩) Q.length k):=by simp[World.cell?,hst1.bl]
   have ck:wr.cell? ⟨base+1,0,none⟩=some (.int .i64 (k:Int)):=by simp[World.cell?,hst1.bk]
   have cn:wr.cell? ⟨base,0,none⟩=some (.int .i64 (n:Int)):=by simp[World.cell?,hst1.bn]
   by_cases hlt:j+g+1<=n
   ·obtain⟨m,hm⟩:∃m,n - j=m+1:=⟨n - j - 1,by omega⟩
    have hmn:n - (j+1)=m:=by omega
    go_wp2_with (at_builtin;refine a7b a2h (a0p.elem .i64) rfl rfl rfl hst1.ol (.int .i64 j) (j:Int) rfl rfl (by omega) ?_;intro w2 hO2 hE2;obtain⟨hst2,hE3,cl2,fl2⟩:=hst1.set hE2 hO2 (Q.length+1) (by simp);have cr:=cell_of_one hst2.br)
    have hiv2:=hInv _ _ _ hiv1 hE3;have hih:=ih (j+1) (Q++[(j:Int)]) D _ (by simp;omega) (by omega) hst2 hiv2 (hid (by
     obtain⟨rest,hr⟩:=hpre.out;refine⟨(a0C (n - (j+1)) (g+1) ((j+1:Nat):Int)).map (Q++ ·)++rest,?_⟩;rw[<-hr,<-hDe.out,hm,hmn,a0C,show((j+1:Nat):Int)=(j:Int)+1 by omega];have hmm:(a0C m g ((j:Int)+1)).map ((Q++[(j:Int)])++ ·)=((a0C m g ((j:Int)+1)).map ((j:Int):: ·)).map (Q++ ·):=by
      rw[List.map_map];apply List.map_congr_left;intro r _;simp
     rw[hmm,List.map_append];simp only[List.append_assoc]))
    rw[show((j+1:Nat):Int)=(j:Int)+1 by omega]at hih;refine hih.mono ?_;rintro e w4 ⟨rfl,hst4,hiv4⟩;clear hih;have cl4:=cell_of_one hst4.bl;rw[show(Q++[(j:Int)]).length=Q.length+1 by simp]at cl4;have htk:=hst4.ol.take (a0p.elem .i64).size Q.length;rw[List.take_left]at htk;obtain⟨hst5,hE5,_,fl4⟩:=hst4.set (ExtX.refl _) htk Q.length rfl;have hiv5:=hInv _ _ _ hiv4 hE5;have hDe2:Hid ((D++(a0C (n - (j+1)) g ((j:Int)+1)).map ((Q++[(j:Int)])++ ·))++(a0C (n - (j+1)) (g+1) ((j+1:Nat):Int)).map (Q++ ·)=done++(a0C (n - i) (g+1) i).map (Q++ ·)):=hid (by
     rw[<-hDe.out,hm,hmn,a0C,show((j+1:Nat):Int)=(j:Int)+1 by omega];have hmm:(a0C m g ((j:Int)+1)).map ((Q++[(j:Int)])++ ·)=((a0C m g ((j:Int)+1)).map ((j:Int):: ·)).map (Q++ ·):=by
      rw[List.map_map];apply List.map_congr_left;intro r _;simp
     rw[hmm,List.map_append,List.append_assoc])
    clear cl ck cn hst1 hiv1 hO2 hE2 hst2 hE3 cl2 fl2 cr hiv2 hm hmn;go_wp2_with fail
    go_roundw
    case rel=>exact⟨j+1,_,by go_num,by omega,hst5,hiv5,hDe2⟩
    case measure=>simp[intOf];omega
   ·have hnil:Hid (D=done++(a0C (n - i) (g+1) i).map (Q++ ·)):=hid (by
     have:=hDe.out;rw[b3r (by omega)]at this;simpa using this)
    go_wp2_with fail
    go_end0
    rw[<-hnil.out];exact⟨rfl,hst1,hiv1⟩
end
theorem b8P (w:World) (u v:Value) (b c:TypeId) (a:World) (h:(w.alloc (.cells #[u] b)).alloc (.cells #[v] c)=a):Ext w a/\a.heap[w.heap.size]? =some (.cells #[u] b (0,0))/\a.heap[w.heap.size+1]? =some (.cells #[v] c (0,0))/\a.heap.size=w.heap.size+2:=by
 subst h;refine⟨((ExtX.refl w).alloc _).alloc _,?_,?_,by simp⟩
 ·rw[Below.heap_alloc _ _ _ (by simp)];exact heap_alloc_new w _
 ·have:=heap_alloc_new (w.alloc (.cells #[u] b)) (.cells #[v] c (0,0))
  simpa using this
theorem c1E:(Tryz.prog.info? 176).map (fun i=>(i.zero,i.size,i.bytes))=some (some .nilFunc,1,8):=by kernel_rfl
theorem c2v:TyI Tryz.prog 176 1:=let ⟨i,h,_,a,_⟩:=info_parts c1E;⟨i,h,a⟩
theorem c0r (W:World) (g:Nat):∀j,hbB W g j=true->j<W.heap.size:=fun j a=>by
 have h:j<W.heap.size/\¬j=g:=by simpa[hbB]using a
 exact h.1
theorem b1O {w c wc a:World} {h u v:Value} {n j l:TypeId} (m:c.heap.size=w.heap.size+3) (g:Ext c wc) (o:wc.heap.size=c.heap.size+1) (e:(wc.alloc (.cells #[u] j)).alloc (.cells #[v] l)=a) (q:c.heap[w.heap.size+1]? =some (.cells #[h] n (0,0))):
  Ext wc a/\a.cell? ⟨w.heap.size+3+1+1,0,none⟩=some v/\a.frozen? ⟨w.heap.size+3+1+1,0,none⟩=false/\a.cell? ⟨w.heap.size+1,0,none⟩=some h/\
   a.heap[w.heap.size+3+1]? =some (.cells #[u] j (0,0))/\a.heap[w.heap.size+3+1+1]? =some (.cells #[v] l (0,0))/\a.heap.size=w.heap.size+6:=by
 obtain⟨b,k,d,p⟩:=b8P wc _ _ _ _ a e;have f:wc.heap.size=w.heap.size+3+1:=by omega
 rw[f]at k d;have i:=(g.trans b).block (w.heap.size+1) (by omega) rfl;rw[q]at i;exact⟨b,cell_of_one d,free_of_one d,cell_of_one i,k,d,by omega⟩
theorem FromSt.start {w l wc d:World} {n k:Nat} {fv:Value} {X:Nat->Bool} (m:Ext w l) (x:l.heap.size=w.heap.size+3)
  (O:l.heap[w.heap.size]? =some (.cells #[.int .i64 (n:Int)] 3 (0,0))) (I:l.heap[w.heap.size+1]? =some (.cells #[.int .i64 (k:Int)] 3 (0,0))) (H:l.heap[w.heap.size+2]? =some (.cells #[fv] 122 (0,0)))
  (h:Ext l wc) (L:wc.heap.size=l.heap.size+1) (o:OL (a0p .i64) 1 X w.heap.size 3 wc (some ⟨l.heap.size,0,none⟩) k []) (b:Ext wc d)
  (D:d.heap[w.heap.size+3+1]? =some (.cells #[.slice (some ⟨w.heap.size+3,0,none⟩) 0 k] 22 (0,0))) (N:d.heap[w.heap.size+3+1+1]? =some (.cells #[.nilFunc] 176 (0,0))) (q:d.heap.size=w.heap.size+6):
  FromSt w.heap.size n k fv (d.setCell ⟨w.heap.size+3+1+1,0,none⟩ (.func (.func 157) #[] #[.pointer (some ⟨w.heap.size+3+1,0,none⟩), .pointer (some ⟨w.heap.size+1,0,none⟩), .pointer (some ⟨w.heap.size+1+1,0,none⟩), .pointer (some ⟨w.heap.size,0,none⟩), .pointer (some ⟨w.heap.size+3+1+1,0,none⟩)])) []/\
   ExtX (a4r w.heap.size) w (d.setCell ⟨w.heap.size+3+1+1,0,none⟩ (.func (.func 157) #[] #[.pointer (some ⟨w.heap.size+3+1,0,none⟩), .pointer (some ⟨w.heap.size+1,0,none⟩), .pointer (some ⟨w.heap.size+1+1,0,none⟩), .pointer (some ⟨w.heap.size,0,none⟩), .pointer (some ⟨w.heap.size+3+1+1,0,none⟩)])):=by
 obtain⟨f,z⟩:∃f,Value.func (.func 157) #[] #[.pointer (some ⟨w.heap.size+3+1,0,none⟩), .pointer (some ⟨w.heap.size+1,0,none⟩), .pointer (some ⟨w.heap.size+1+1,0,none⟩), .pointer (some ⟨w.heap.size,0,none⟩), .pointer (some ⟨w.heap.size+3+1+1,0,none⟩)]=f:=⟨_,rfl⟩;rw[z];have a:∀j,j≠w.heap.size+5->(d.setCell ⟨w.heap.size+3+1+1,0,none⟩ f).heap[j]? =d.heap[j]?:=fun j t=>Below.heap_setCell _ _ _ _ (fun e=>t e);have r:Ext l d:=h.trans b;have p:(d.setCell ⟨w.heap.size+3+1+1,0,none⟩ f).heap[w.heap.size+3+1+1]? =some (.cells #[f] 176 (0,0)):=by
  simp only[World.setCell,Array.getElem?_modify,N];simp
 refine⟨⟨?_,?_,?_,?_,?_,?_,by simp[World.setCell,q]⟩,?_⟩
 ·rw[a _ (by omega),r.block _ (by omega) rfl];exact O
 ·rw[a _ (by omega),r.block _ (by omega) rfl];exact I
 ·rw[a _ (by omega),r.block _ (by omega) rfl];exact H
 ·rw[a _ (by omega)];exact D
 ·rw[<-z]at p |-;exact p
 ·rw[x]at o
  obtain⟨hx,us,F,G,v,⟨K,y⟩,E⟩:=o;refine⟨fun k M=>b8O M,us,F,G,v,⟨K,?_⟩,fun i hi s=>b3s _ _ _ _ (E i hi s)⟩;rcases y with y|⟨g,c,u,A,C,B,J⟩
  ·exact .inl y
  ·simp at A
   obtain⟨rfl,rfl⟩:=A;exact .inr ⟨w.heap.size+3,k,u,by simp,C,by rw[a _ (by omega),b.block _ (by omega) rfl];exact B,J⟩
 ·refine⟨b.os.trans (h.os.trans m.os),b.tape.trans (h.tape.trans m.tape),b.output.trans (h.output.trans m.output),by simp[World.setCell,q],fun j t _=>?_⟩
  rw[a _ (by omega),(m.trans r).block j t rfl]
set_option maxRecDepth 100000 in
theorem a9V (cb n k:Nat) (caps:Array Value) (Inv:List (List Int)->World->Prop) (w:World) (x:∀(args:Array Value) (W:World),Sem.run Tryz.prog (callFunc cb args) W= .ok (.enter cb args) W) (G:n<=64) (K:k<=64)
  (c:∀done W W',Inv done W->ExtX (a4r w.heap.size) W W'->Inv done W')
  (v:∀(done:List (List Int)) (s:List Int) (W:World),Inv done W->(∃rest,done++[s]++rest=a0C n k 0)->Sl (a0p .i64) 1 W.cell? (some ⟨w.heap.size+3,0,none⟩) s->w.heap.size+6<=W.heap.size->
   Calls Tryz.prog cb (#[.slice (some ⟨w.heap.size+3,0,none⟩) s.length k]++caps) W (fun e W'=>e= .returned (.tuple #[])/\Inv (done++[s]) W'/\b1a w.heap.size W W'))
  (I:Inv [] w):
  Calls Tryz.prog 78 #[.int .i64 (n:Int), .int .i64 (k:Int), .func (.func cb) #[] caps] w (fun e W'=>e= .returned (.tuple #[])/\Inv (a0C n k 0) W'):=by
 have J:∀(fn:Fn) (first cap:Array Value) (w:World),(Instr.makeFunc fn first cap).run Tryz.prog w= .ok (.func fn first cap) w:=fun _ _ _ _=>rfl;obtain⟨b,a⟩:∃b,(((w.alloc (.cells #[.int .i64 (n:Int)] 3)).alloc (.cells #[.int .i64 (k:Int)] 3)).alloc (.cells #[.func (.func cb) #[] caps] 122))=b:=⟨_,rfl⟩;have g:Ext w b:=by rw[<-a];exact(((ExtX.refl w).alloc _).alloc _).alloc _
 have o:b.heap.size=w.heap.size+3:=by rw[<-a];simp
 have F:b.heap[w.heap.size]? =some (.cells #[.int .i64 (n:Int)] 3 (0,0)):=by
  rw[<-a,Below.heap_alloc _ _ _ (by simp;omega),Below.heap_alloc _ _ _ (by simp)];exact heap_alloc_new w _
 have t:b.heap[w.heap.size+1]? =some (.cells #[.int .i64 (k:Int)] 3 (0,0)):=by
  rw[<-a,Below.heap_alloc _ _ _ (by simp)];have:=heap_alloc_new (w.alloc (.cells #[.int .i64 (n:Int)] 3)) (.cells #[.int .i64 (k:Int)] 3 (0,0));simpa using this
 have A:b.heap[w.heap.size+2]? =some (.cells #[.func (.func cb) #[] caps] 122 (0,0)):=by
  rw[<-a];have:=heap_alloc_new ((w.alloc (.cells #[.int .i64 (n:Int)] 3)).alloc (.cells #[.int .i64 (k:Int)] 3)) (.cells #[.func (.func cb) #[] caps] 122 (0,0));simpa using this
 have H:=cell_of_one t;go_enter Tryz.func78,Tryz.ntmps78
 go_wp2_with (first|((with_reducible show wpList _ _ _ (⟨_, .store _ _ _,_,_,_,_⟩::_) _ _);refine a8i c2v rfl rfl rfl rfl E C ?_)|(at_make;refine b5R (R:=a0p .i64) a2h rfl (hbB b (w.heap.size+3)) (c0r b _) w.heap.size g.size k rfl rfl rfl rfl (by omega) (by omega) ?_;intro wc j f p;obtain⟨B,m⟩:∃B,(wc.alloc (.cells #[.slice (some ⟨w.heap.size+3,0,none⟩) 0 k] 22)).alloc (.cells #[.nilFunc] 176)=B:=⟨_,rfl⟩;obtain⟨r,E,C,u,z,D,y⟩:=b1O o f p m t))
 obtain⟨d,q⟩:=FromSt.start (fv:= .func (.func cb) #[] caps) g o F t A f p j r z D y;have h:Hid (∃rest,([]:List (List Int))++(a0C (n - 0) k ((0:Nat):Int)).map (([]:List Int)++ ·)++rest=a0C n k 0):=hid ⟨[],by simp⟩;refine(b5S cb w.heap.size n k caps Inv x G K c v k 0 [] [] _ (by simp) (by omega) d (c _ _ _ I q) h).mono ?_;rintro e L ⟨rfl,_,i⟩;have l:Hid (([]:List (List Int))++(a0C (n - 0) k ((0:Nat):Int)).map (([]:List Int)++ ·)=a0C n k 0):=hid (by simp);rw[l.out]at i;clear d q E C u z D r j f F t A g H m a;go_wp2_with fail
 go_end0
 exact⟨rfl,i⟩
end Go.Proofs.YtidbbddagfnfbaaGreat
namespace Go.Rep
open Go.RowKit Go.Lim
section
variable {P:Program} {ops:Array Oper} {Q:Exit->Act->World->Prop} {a:Act} {w:World}
variable {α:Type} {R:Mem->Value->α->Prop} {sz:Nat} {X:Nat->Bool} {base:Nat} {e:TypeId} {ao:Option Addr} {cap:Nat} {l:List α}
end
end Go.Rep
namespace Go.Proofs.YtidbbddagfnfbaaGreat
open Go.RowKit Go.Rep Go.Lim Go.Lin
def uB:Nat:=10000000000
def a9W (bc bs:Nat):Nat->Bool:=fun k=>(k==bc)||(k==bs)
def b4J (X:Nat->Bool) (bc bs B0:Nat):Nat->Bool:=fun k=>X k||a9W bc bs k||a4r B0 k
structure Lay (lo bo bu bc bd bs B0:Nat):Prop where
 lo1:lo<=bo
 lo2:lo<=bu
 lo3:lo<=bc
 lo4:lo<=bd
 lo5:lo<=bs
 hi1:bo<B0
 hi2:bu<B0
 hi3:bc<B0
 hi4:bd<B0
 hi5:bs<B0
 ne1:bo≠bc
 ne2:bo≠bs
 ne3:bu≠bc
 ne4:bu≠bs
 ne5:bd≠bc
 ne6:bd≠bs
 ne7:bc≠bs
structure BSt (X:Nat->Bool) (w0:World) (bo bu bc bd bs B0 c:Nat) (oo:Option Addr) (n oc:Nat) (ov:Value) (z N:Mat) (cnt:Nat) (dv:Value) (us:Mat) (W:World):Prop where
 ext:Ext w0 W
 b1:Bx W bo #[.slice oo n oc] 23
 b2:Bx W bu #[ov] 23
 b3:Bx W bc #[.int .i64 (cnt:Int)] 3
 b4:Bx W bd #[.int .i64 (c:Int)] 3
 b5:Bx W bs #[dv] 23
 r1:MV (mk (b4J X bc bs B0) W) (.slice oo n oc) z
 r2:MV (mk (b4J X bc bs B0) W) ov N
 r3:MV (mk (b4J X bc bs B0) W) dv us
section
variable {X:Nat->Bool} {w0 W W':World} {bo bu bc bd bs B0 c:Nat} {oo:Option Addr} {n oc:Nat} {ov:Value} {z N:Mat} {cnt:Nat} {dv:Value} {us:Mat}
theorem BSt.hx (_:BSt X w0 bo bu bc bd bs B0 c oo n oc ov z N cnt dv us W) (e:HX X w0) (a:Lay w0.heap.size bo bu bc bd bs B0) (g:B0+6<=W.heap.size):HX (b4J X bc bs B0) W:=fun k b=>by
 have i:=a.hi3;have f:=a.hi5;have j:=a.lo1;have d:=a.hi1;simp only[b4J,a9W,a4r,Bool.or_eq_true,Bool.and_eq_true,beq_iff_eq,decide_eq_true_eq]at b;rcases b with(h|h|h)|h
 ·have:=e k h;omega
 ·omega
 ·omega
 ·omega
theorem BSt.hxs (h:BSt X w0 bo bu bc bd bs B0 c oo n oc ov z N cnt dv us W) (b:HX X w0):HX (fun k=>X k||a9W bc bs k) W:=fun k a=>by
 have d:=h.b3.lt;have e:=h.b5.lt;have f:=h.ext.size;simp only[a9W,Bool.or_eq_true,beq_iff_eq]at a;rcases a with h|h|h
 ·have:=b k h;omega
 ·omega
 ·omega
theorem BSt.step (h:BSt X w0 bo bu bc bd bs B0 c oo n oc ov z N cnt dv us W) (a:Ext W W'):BSt X w0 bo bu bc bd bs B0 c oo n oc ov z N cnt dv us W':=
 ⟨h.ext.trans a,h.b1.ext0 a,h.b2.ext0 a,h.b3.ext0 a,h.b4.ext0 a,h.b5.ext0 a,mkx MV.mono h.r1 a,mkx MV.mono h.r2 a,mkx MV.mono h.r3 a⟩
theorem BSt.own (h:BSt X w0 bo bu bc bd bs B0 c oo n oc ov z N cnt dv us W) (b:Lay w0.heap.size bo bu bc bd bs B0) (a:ExtX (a4r B0) W W'):BSt X w0 bo bu bc bd bs B0 c oo n oc ov z N cnt dv us W':=by
 have d:∀j,j<B0->a4r B0 j=false:=fun j g=>by simp[a4r];omega
 have e:=a0w (X:=b4J X bc bs B0) a fun k f=>by simp[b4J,f]
 have:=b.lo1;have:=b.hi1;exact⟨h.ext.then_ a fun i hi _=>d i (by omega),h.b1.ext a (d _ b.hi1),h.b2.ext a (d _ b.hi2),h.b3.ext a (d _ b.hi3),h.b4.ext a (d _ b.hi4),h.b5.ext a (d _ b.hi5),MV.mono _ _ _ _ e h.r1,MV.mono _ _ _ _ e h.r2,MV.mono _ _ _ _ e h.r3⟩
theorem BSt.put (h:BSt X w0 bo bu bc bd bs B0 c oo n oc ov z N cnt dv us W) (d:Lay w0.heap.size bo bu bc bd bs B0) (a:Nat) (b:Value) (j:Mat) (v:MV (_root_.Go.Rep.mk (b4J X bc bs B0) W) b j):
  (W.setCell ⟨bc,0,none⟩ (.int .i64 (a:Int))).cell? ⟨bs,0,none⟩=some dv/\(W.setCell ⟨bc,0,none⟩ (.int .i64 (a:Int))).frozen? ⟨bs,0,none⟩=false/\
  BSt X w0 bo bu bc bd bs B0 c oo n oc ov z N a b j ((W.setCell ⟨bc,0,none⟩ (.int .i64 (a:Int))).setCell ⟨bs,0,none⟩ b)/\ExtX (a9W bc bs) W ((W.setCell ⟨bc,0,none⟩ (.int .i64 (a:Int))).setCell ⟨bs,0,none⟩ b):=by
 obtain⟨x,r⟩:=a0J h.b3 (.int .i64 (a:Int)) (i:=0) (by simp);have m:=h.b5.ext r (a0b d.ne7.symm);obtain⟨t,o⟩:=a0J m b (i:=0) (by simp);have f:ExtX (a9W bc bs) W ((W.setCell ⟨bc,0,none⟩ (.int .i64 (a:Int))).setCell ⟨bs,0,none⟩ b):=by
  refine(r.weaken fun k _ g=>?_).trans (o.weaken fun k _ g=>?_)
  ·refine a0b fun e=>?_
   subst e;simp[a9W]at g
  ·refine a0b fun e=>?_
   subst e;simp[a9W]at g
 have l:=a0w (X:=b4J X bc bs B0) f fun k g=>by simp[b4J,g]
 have s:a9W bc bs bo=false:=by simp[a9W,d.ne1,d.ne2]
 have w:a9W bc bs bu=false:=by simp[a9W,d.ne3,d.ne4]
 have u:a9W bc bs bd=false:=by simp[a9W,d.ne5,d.ne6]
 have p:=d.lo3;have q:=d.lo5;refine⟨m.cell 0 rfl,m.frozen 0,⟨h.ext.then_ f fun i hi _=>?_,h.b1.ext f s,h.b2.ext f w,?_,h.b4.ext f u,by simpa using t,MV.mono _ _ _ _ l h.r1,MV.mono _ _ _ _ l h.r2,MV.mono _ _ _ _ l v⟩,f⟩
 ·simp[a9W];omega
 ·have:=x.ext o (a0b d.ne7)
  simpa using this
end
def c1F (X:Nat->Bool) (w0:World) (bo bu bc bd bs B0 c:Nat) (oo:Option Addr) (n oc:Nat) (ov:Value) (z N:Mat) (done:List (List Int)) (W:World):Prop:=
 ∃(cnt:Nat) (dv:Value) (us:Mat),BSt X w0 bo bu bc bd bs B0 c oo n oc ov z N cnt dv us W/\b8b c z cnt us/\BM uB us/\(∀r∈us,r.length=c)/\∀s∈done,b5e c (a4J z) (a4J N) cnt (s.map Int.toNat)
theorem c1F.own {X:Nat->Bool} {w0 W W':World} {bo bu bc bd bs B0 c:Nat} {oo:Option Addr} {n oc:Nat} {ov:Value} {z N:Mat} {done:List (List Int)} (h:c1F X w0 bo bu bc bd bs B0 c oo n oc ov z N done W) (d:Lay w0.heap.size bo bu bc bd bs B0) (a:ExtX (a4r B0) W W'):c1F X w0 bo bu bc bd bs B0 c oo n oc ov z N done W':=by
 obtain⟨cnt,dv,us,e,b⟩:=h;exact⟨cnt,dv,us,e.own d a,b⟩
theorem a2Z {B0:Nat} {Y:Nat->Bool} {W W':World} (b:ExtX Y W W') (c:∀k,Y k=true->a4r B0 k=false) (d:B0+6<=W.heap.size):b1a B0 W W':=⟨b.size,fun k a=>b.block k (by simp[a4r]at a;omega) (by
 cases h:Y k
 ·rfl
 ·rw[c k h]at a;simp at a)⟩
theorem b1a.trans {B0:Nat} {A B C:World} (h:b1a B0 A B) (k:b1a B0 B C):b1a B0 A C:=⟨Nat.le_trans h.1 k.1,fun i hi=>(k.2 i hi).trans (h.2 i hi)⟩
end Go.Proofs.YtidbbddagfnfbaaGreat
namespace Go.Lin
open Go.Lim Go.Rep Go.Proofs.YtidbbddagfnfbaaGreat
end Go.Lin
namespace Go.Proofs.YtidbbddagfnfbaaGreat
open Go.RowKit Go.Rep Go.Lim Go.Lin
theorem BM.sub {B:Nat} {m l:List (List Rat)} (h:BM B m) (a:∀r∈l,r∈m):BM B l:=fun r b=>h r (a r b)
def b5T:Mem->Value->Nat->Prop:=fun h u n=>∃ao cap l,u= .slice ao l.length cap/\l.length<=cap/\a0M l n/\Sl (a0c .u32) 1 h ao l
theorem b5T.mono:a3E b5T:=by
 rintro h e u x c ⟨ao,cap,l,rfl,d,a,b⟩;exact⟨ao,cap,l,rfl,d,a,b.mono (a0c.mono _) c⟩
theorem b5T.one:a3u b5T:=by rintro h u x ⟨ao,cap,l,rfl,_⟩;rfl
theorem b5T.elem:Elem b5T 1:=⟨b5T.mono,by rintro h u x ⟨ao,cap,l,rfl,_⟩;rfl,by rintro h u x ⟨ao,cap,l,rfl,_⟩ c a;simp[a0i,Value.cells]at a;subst a;rfl,Nat.one_pos⟩
theorem b5T.zero (h:Mem):b5T h (.slice none 0 0) 0:=⟨none,0,[],rfl,by simp,a0M.nil,Sl.nil _ _ _ _⟩
set_option maxHeartbeats 400000 in
theorem a9X (X:Nat->Bool) (ao:Option Addr) (l:List Int) (cap:Nat) (n:Int) (w:World) (q:Sl (a0p .i64) 1 (mk X w) ao l) (E:l.length<=1099511627776):
  Calls Tryz.prog 153 #[.slice ao l.length cap, .int .i64 n] w fun e v=>w=v/\e= .returned (.bool (b5q l n&&decide (0<l.length))):=by
 have B:=q.hd;go_enter Tryz.func153,Tryz.ntmps153
 go_wp2_with fail
 go_loop [9] (fun c=>∃i:Nat,c= .int .i64 i/\i<=l.length/\Hid (∀j,j<i->a7S l n j=true)) (fun c=>l.length - (intOf c).toNat)
 case atStart=>exact⟨0,rfl,Nat.zero_le _,fun j u=>by omega⟩
 case round=>
  obtain⟨i,rfl,hi,f⟩:=hrel;by_cases k:i<l.length
  ·have z:=q.int i k
   have s:=q.int (i - 1) (by omega);have p:=b2N k;have r:=b2N (l:=l) (i:=i - 1) (by omega);obtain⟨x,hx⟩:∃x,l[i]=x:=⟨_,rfl⟩;obtain⟨y,t⟩:∃y,l[i - 1]'(by omega)=y:=⟨_,rfl⟩;rw[hx]at z p;rw[t]at s r;have m:=hid (b5r (n:=n) p r);clear p r hx t;have g:Hid (a7S l n i=false->b5q l n=false):=hid fun h=>a6u i k h;by_cases F:x<0
   ·have b:b5q l n=false:=g.out (by rw[m.out];simp;omega)
    have a:=hid b;clear b;go_wp2_with (with_reducible refine a0q a2h (by omega) (by assumption) ?_)
    go_ret
    exact⟨rfl,a0j (by rw[a.out];rfl)⟩
   by_cases C:n<=x
   ·have b:b5q l n=false:=g.out (by rw[m.out];simp;omega)
    have a:=hid b;clear b;go_wp2_with (with_reducible refine a0q a2h (by omega) (by assumption) ?_)
    go_ret
    exact⟨rfl,a0j (by rw[a.out];rfl)⟩
   by_cases D:0<i
   ·by_cases A:x<=y
    ·have b:b5q l n=false:=g.out (by rw[m.out];simp;omega)
     have a:=hid b;clear b;go_wp2_with (with_reducible refine a0q a2h (by omega) (by assumption) ?_)
     go_ret
     exact⟨rfl,a0j (by rw[a.out];rfl)⟩
    ·have o:a7S l n i=true:=by rw[m.out];simp;omega
     have d:=hid o;clear o;go_wp2_with (with_reducible refine a0q a2h (by omega) (by assumption) ?_)
     go_round
     case rel=>exact⟨i+1,by go_num,by omega,a2K f.out d.out⟩
     case measure=>simp[intOf];omega
   ·have o:a7S l n i=true:=by rw[m.out];simp;omega
    have d:=hid o;clear o;go_wp2_with (with_reducible refine a0q a2h (by omega) (by assumption) ?_)
    go_round
    case rel=>exact⟨i+1,by go_num,by omega,a2K f.out d.out⟩
    case measure=>simp[intOf];omega
  ·have b:Hid (b5q l n=true):=hid (a6Z fun j u=>f.out j (by omega))
   go_wp2_with fail
   go_ret
   exact⟨rfl,a0j (by rw[b.out];simp)⟩
def tbm (tb:Nat):Nat->Bool:=fun k=>k==tb
theorem b5U (a:Nat):tbm a a=true:=by simp[tbm]
theorem a3k {a k:Nat} (h:k≠a):tbm a k=false:=by simpa[tbm]using h
def a0K (X:Nat->Bool) (tb:Nat) (w:World):Prop:=
 X tb=true/\∃(lo:Option Addr) (l:List Int) (cap at_:Nat),w.heap[tb]? =some (.cells #[.slice lo l.length cap, .int .i64 (at_:Int)] 112 (0,0))/\l.length<=400/\at_<=l.length/\Sl (a0p .i64) 1 (mk X w) lo l
theorem a3B {X:Nat->Bool} {a:Nat} (h:X a=true):∀k,tbm a k=true->X k=true:=fun k b=>by
 have:k=a:=by simpa[tbm]using b
 rw[this];exact h
theorem a0K.lt {X:Nat->Bool} {a:Nat} {w:World} (h:a0K X a w):a<w.heap.size:=by
 obtain⟨_,lo,l,cap,at_,b,_⟩:=h;by_cases c:a<w.heap.size
 ·exact c
 ·rw[Array.getElem?_eq_none (by omega)]at b;simp at b
theorem a0K.ext {X:Nat->Bool} {a:Nat} {w d:World} (h:a0K X a w) (c:Ext w d):a0K X a d:=by
 have b:=h.lt;obtain⟨g,lo,l,cap,at_,j,e,f,i⟩:=h;exact⟨g,lo,l,cap,at_,by rw[c.block a b rfl];exact j,e,f,i.mono (a0p.mono _) (a0l c)⟩
theorem a0K.extY {X Y:Nat->Bool} {a:Nat} {w d:World} (h:a0K X a w) (c:ExtX Y w d) (m:∀k,Y k=true->X k=true) (g:Y a=false):a0K X a d:=by
 have b:=h.lt;obtain⟨e,lo,l,cap,at_,n,i,j,f⟩:=h;exact⟨e,lo,l,cap,at_,by rw[c.block a b g];exact n,i,j,f.mono (a0p.mono _) (a0w c m)⟩
def b8Q (X:Nat->Bool) (tb:Nat) (w:World) (n:Int) (e:Ending) (w':World):Prop:=
 ExtX (tbm tb) w w'/\a0K X tb w'/\∃m:Nat,e= .returned (.int .i64 (m:Int))/\((m:Int)<n\/m=0)
theorem b5V (v n:Int) (w:World) (o:1<=n) (k:n<=1099511627776):
  Calls Tryz.prog 111 #[.int .i64 v, .int .i64 n] w (fun e i=>e= .returned (.int .i64 (v%n))/\i=w):=by
 have g:(n==0)=false:=a2w (by omega);have f: -n<v.tmod n:=Int.lt_tmod_of_pos v (by omega);have j:v.tmod n<n:=Int.tmod_lt_of_pos v (by omega);have d:(v.tmod n<0->v.tmod n+n=v%n)/\(0<=v.tmod n->v.tmod n=v%n):=by
  have h:=Int.tmod_eq_emod (a:=v) (b:=n);have l:=Int.emod_nonneg v (show n≠0 by omega);have m:=Int.emod_lt_of_pos v (show 0<n by omega);split at h<;>omega
 have c:=hid d;clear d;go_enter Tryz.func111,Tryz.ntmps111
 go_wp2_with fail
 ·go_ret
  exact⟨a0P (c.out.1 (by assumption)),rfl⟩
 ·go_ret
  exact⟨a0P (c.out.2 (by assumption)),rfl⟩
theorem a0K.cells {X:Nat->Bool} {b:Nat} {w:World} (h:a0K X b w):∃(lo:Option Addr) (l:List Int) (cap at_:Nat),w.cell? ⟨b,0,none⟩=some (.slice lo l.length cap)/\w.cell? ⟨b,1,none⟩=some (.int .i64 (at_:Int))/\w.frozen? ⟨b,1,none⟩=false/\l.length<=400/\at_<=l.length/\Sl (a0p .i64) 1 (mk X w) lo l/\
  ∀a:Nat,a<=l.length->a0K X b (w.setCell ⟨b,1,none⟩ (.int .i64 (a:Int)))/\ExtX (tbm b) w (w.setCell ⟨b,1,none⟩ (.int .i64 (a:Int)))/\
   (w.setCell ⟨b,1,none⟩ (.int .i64 (a:Int))).cell? ⟨b,0,none⟩=some (.slice lo l.length cap)/\(w.setCell ⟨b,1,none⟩ (.int .i64 (a:Int))).cell? ⟨b,1,none⟩=some (.int .i64 (a:Int)):=by
 have p:=h.lt;obtain⟨g,lo,l,cap,at_,c,j,o,i⟩:=h;refine⟨lo,l,cap,at_,by simp[World.cell?,c],by simp[World.cell?,c],by simp[World.frozen?,c],j,o,i,fun a m=>?_⟩;have f:ExtX (tbm b) w (w.setCell ⟨b,1,none⟩ (.int .i64 (a:Int))):=
  ⟨rfl,rfl,rfl,by simp[World.setCell],fun k q n=>Below.heap_setCell _ _ _ _ (fun e=>by subst e;simp[tbm]at n)⟩
 have d:(w.setCell ⟨b,1,none⟩ (.int .i64 (a:Int))).heap[b]? =some (.cells #[.slice lo l.length cap, .int .i64 (a:Int)] 112 (0,0)):=by
  simp only[World.setCell,Array.getElem?_modify,c];simp
 exact⟨⟨g,lo,l,cap,a,d,j,m,i.mono (a0p.mono _) (a0w f (a3B g))⟩,f,by unfold World.cell?;rw[d];rfl,by unfold World.cell?;rw[d];rfl⟩
theorem a0K.drewN {X:Nat->Bool} {a:Nat} {w:World} (h:a0K X a w) (n:Nat):a0K X a (w.drewN n):=h
set_option maxHeartbeats 800000 in
theorem a1C (X:Nat->Bool) (b:Nat) (n:Int) (w:World) (j:a0K X b w) (F:n<=1099511627776):
  Calls Tryz.prog 40 #[.pointer (some ⟨b,0,none⟩), .int .i64 n] w (b8Q X b w n):=by
 obtain⟨lo,l,cap,at_,I,J,K,L,hat,y,c⟩:=j.cells;have C:=y.hd;by_cases A:n<1
 ·have hd:decide (n<1)=true:=decide_eq_true A
  go_enter Tryz.func40,Tryz.ntmps40
  go_wp2_with fail
  go_quiet (fail)
  go_wp2_with fail
  go_ret
  exact⟨(ExtX.refl _).drewN _,j.drewN _,0,rfl, .inr rfl⟩
 have hd:decide (n<1)=false:=decide_eq_false A;by_cases z:at_<l.length
 ·obtain⟨e,a,r,t⟩:=c (at_+1) (by omega)
  have d:=(y.mono (a0p.mono _) (a0w a (a3B j.1))).int at_ z;obtain⟨x,hx⟩:∃x,l[at_]=x:=⟨_,rfl⟩;rw[hx]at d;clear hx c;have v:((at_+1:Nat):Int)=(at_:Int)+1:=by omega
  rw[v]at r t d e a;have B:∀N,((w.drewN N).setCell ⟨b,1,none⟩ (.int .i64 ((at_:Int)+1))).cell? ⟨b,0,none⟩=some (.slice lo l.length cap):=fun _=>r;have E:∀N,((w.drewN N).setCell ⟨b,1,none⟩ (.int .i64 ((at_:Int)+1))).cell? ⟨b,1,none⟩=some (.int .i64 ((at_:Int)+1)):=fun _=>t;have D:∀N,((w.drewN N).setCell ⟨b,1,none⟩ (.int .i64 ((at_:Int)+1))).cell? (adr lo at_)=some (.int .i64 x):=fun _=>d;have H:IntKind.i64.wrap ((at_:Int)+1 - 1)=(at_:Int):=by rw[IntWalk.i64_in _ (by omega)];omega
  have i:∀N,a0K X b ((w.drewN N).setCell ⟨b,1,none⟩ (.int .i64 ((at_:Int)+1))):=fun _=>e;have g:∀N,ExtX (tbm b) w ((w.drewN N).setCell ⟨b,1,none⟩ (.int .i64 ((at_:Int)+1))):=fun _=>⟨a.os,a.tape,a.output,a.size,a.block⟩;have s:=hid i;have k:=hid g;clear v e a r t i g;have u:decide ((l.length:Int)<=(at_:Int))=false:=decide_eq_false (by omega);have G:∀W,(Instr.indexAt 22 (.slice lo l.length cap) (.int .i64 (at_:Int))).run Tryz.prog W= .ok (.pointer (some (adr lo at_))) W:=a0z a2h lo l.length cap .i64 at_ C z rfl;go_enter Tryz.func40,Tryz.ntmps40
  go_wp2_with fail
  go_quiet (fail)
  go_wp2_with fail
  have f:=Int.emod_nonneg x (show n≠0 by omega);have h:=Int.emod_lt_of_pos x (show 0<n by omega);obtain⟨m,q⟩:=Int.eq_ofNat_of_zero_le f;have p:=hid q;have o:Hid ((m:Int)<n):=hid (by rw[<-q];exact h);clear q f h
  go_quiet ((go_at_call 111;exact Calls.quiet_of_same (b5V x n _ (by omega) (by omega))))
  go_wp2_with fail
  go_ret
  exact⟨(k.out _).drewN _,(s.out _).drewN _,m,a0P p.out, .inl o.out⟩
 ·have u:decide ((l.length:Int)<=(at_:Int))=true:=decide_eq_true (by omega)
  go_enter Tryz.func40,Tryz.ntmps40
  go_wp2_with fail
  go_quiet (fail)
  go_wp2_with fail
  go_ret
  exact⟨(ExtX.refl _).drewN _,j.drewN _,0,rfl, .inr rfl⟩
def b5W (X:Nat->Bool) (tb:Nat) (w:World) (e:Ending) (w':World):Prop:=ExtX (tbm tb) w w'/\a0K X tb w'/\∃b:Bool,e= .returned (.bool b)
def b3t (X:Nat->Bool) (tb:Nat) (w:World) (lo hi:Int) (e:Ending) (w':World):Prop:=ExtX (tbm tb) w w'/\a0K X tb w'/\∃m:Int,e= .returned (.int .i64 m)/\lo<=m/\m<=hi
theorem a5g (X:Nat->Bool) (a:Nat) (n:Int) (w:World) (f:a0K X a w) (h: -1000<=n) (d:n<=1099511627776):
  Calls Tryz.prog 35 #[.pointer (some ⟨a,0,none⟩), .int .i64 n] w (b5W X a w):=by
 go_enter Tryz.func35,Tryz.ntmps35
 go_wp2_with fail
 refine(a1C X a n _ f d).mono ?_;rintro e i ⟨c,b,m,rfl,g⟩;go_wp2_with fail
 go_ret
 exact⟨c,b,_,rfl⟩
theorem b5X (X:Nat->Bool) (d:Nat) (lo:Option Addr) (l:List Int) (cap:Nat) (w:World) (a b:Int) (k:a0K X d w) (j:Sl (a0p .i64) 1 (mk X w) lo l) (r:0<l.length) (s:l.length<=1000) (g:Hid (∀x∈l,a<=x/\x<=b)):
  Calls Tryz.prog 19 #[.pointer (some ⟨d,0,none⟩), .slice lo l.length cap] w (b3t X d w a b):=by
 have q:=j.hd;go_enter Tryz.func19,Tryz.ntmps19
 go_wp2_with fail
 refine(a1C X d _ _ k (by omega)).mono ?_;rintro e p ⟨i,h,m,rfl,o⟩;have c:m<l.length:=by omega
 have n:=(j.mono (a0p.mono _) (a0w i (a3B k.1))).int m c;have f:=g.out l[m] (List.getElem_mem c);obtain⟨x,hx⟩:∃x,l[m]=x:=⟨_,rfl⟩;rw[hx]at n f;clear hx;go_wp2_with (with_reducible refine a0q a2h (by omega) (by assumption) ?_)
 go_ret
 exact⟨i,h,x,rfl,f.1,f.2⟩
theorem b5Y (lo:Option Addr) (l:List Int) (cap:Nat) (w:World) (c:Sl (a0p .i64) 1 w.cell? lo l) (h:l.length<=cap) (j:l.length<=9223372036854775807):
  Calls Tryz.prog 16 #[.slice lo l.length cap] w (fun e f=>e= .returned (.pointer (some ⟨w.heap.size,0,none⟩))/\Ext w f/\a0K (tbm w.heap.size) w.heap.size f/\f.heap.size=w.heap.size+1):=by
 have a:∀(l:List Int),l.length<=400->Sl (a0p .i64) 1 w.cell? lo l->a0K (tbm w.heap.size) w.heap.size (w.alloc (.cells #[.slice lo l.length cap, .int .i64 0] 112)):=by
  intro l h c;refine⟨b5U _,lo,l,cap,0,heap_alloc_new w _,h,Nat.zero_le _,?_⟩;rw[<-a1U]at c;refine c.mono (a0p.mono _) (a0T ((ExtX.refl (Y:=noY) w).alloc _) (fun k _ i=>by simp[noY]at i) fun k i hz=>?_);have:k=w.heap.size:=by simpa[tbm]using hz
  omega
 have g:∀u v,Ext w (w.alloc (.cells #[u,v] 112)):=fun u v=>(ExtX.refl w).alloc _;by_cases m:400<l.length
 ·have d:=hid (a (l.take 400) (by simp;omega) (c.take 400))
  have b:(l.take 400).length=400:=by simp;omega
  rw[b]at d;clear a b;go_enter Tryz.func16,Tryz.ntmps16
  go_wp2_with fail
  go_ret
  exact⟨rfl,g _ _,d.out,by simp⟩
 ·have d:=hid (a l (by omega) c)
  clear a;go_enter Tryz.func16,Tryz.ntmps16
  go_wp2_with fail
  go_ret
  exact⟨rfl,g _ _,d.out,by simp⟩
theorem b3u (l:List Int):(l.map (Value.int .i64)).flatMap a0i=l.map (Value.int .i64):=by
 induction l with
 |nil=>rfl
 |cons x l ih=>simp only[List.map_cons,List.flatMap_cons,ih];rfl
theorem c0s (X:Nat->Bool) (w:World) (l:List Int) (e:TypeId) (arr:Array Value) (a:arr=(l.map (Value.int .i64)).toArray) (b:∀k,X k=true->k<w.heap.size) (d:l.length<=1000):
  OL (a0p .i64) 1 X w.heap.size e (w.alloc (.cells arr e)) (some ⟨w.heap.size,0,none⟩) l.length l:=by
 refine OL.lit (a0p.elem .i64) b (Nat.le_refl _) (l.map (Value.int .i64)) l arr ?_ (by simp) (fun i hi c=>by simp[a0p]) (by omega);rw[a,b3u]
theorem b1b (X:Nat->Bool) (f:Nat) (l:List Int) (arr:Array Value) (e:TypeId) (len:Nat) (w:World) (a b:Int) (o:a0K X f w) (n:∀k,X k=true->k<w.heap.size) (c:arr=(l.map (Value.int .i64)).toArray) (d:len=l.length) (p:0<l.length) (m:l.length<=1000) (i:Hid (∀x∈l,a<=x/\x<=b)):
  Calls Tryz.prog 19 #[.pointer (some ⟨f,0,none⟩), .slice (some ⟨w.heap.size,0,none⟩) len len] (w.alloc (.cells arr e)) (b3t X f w a b):=by
 subst d;have j:Ext w (w.alloc (.cells arr e)):=(ExtX.refl w).alloc _;refine(b5X X f _ l _ _ a b (o.ext j) (OL.sl (a0p.elem .i64) (c0s X w l e arr c n m)) p m i).mono ?_;rintro q s ⟨g,h,r⟩;exact⟨(ExtX.of j).trans g,h,r⟩
theorem a0K.unstep {X:Nat->Bool} {b:Nat} {w f:World} {oo a:Option Addr} (h:a0K (un X oo) b w) (e:ob oo b=false) (d:ExtX (ob oo) w f) (n:a=oo\/∃g,a=some ⟨g,0,none⟩/\w.heap.size<=g):a0K (un X a) b f:=by
 have c:=h.lt;obtain⟨i,lo,l,cap,at_,o,k,m,j⟩:=h;refine⟨?_,lo,l,cap,at_,by rw[d.block b c e];exact o,k,m,j.unstep (a0p.mono _) d n⟩;have:X b=true:=by simpa[un,e]using i
 exact a0f this
theorem a0K.unX {X:Nat->Bool} {a:Nat} {w:World} {oo:Option Addr} (h:a0K (un X oo) a w) (d:X a=true):a0K X a w:=by
 obtain⟨_,lo,l,cap,at_,f,b,c,e⟩:=h;exact⟨d,lo,l,cap,at_,f,b,c,e.unX (a0p.mono _)⟩
theorem a6E (X:Nat->Bool):un X none=X:=by funext k;simp[un,ob]
theorem a0K.none {X:Nat->Bool} {a:Nat} {w:World} (h:a0K X a w):a0K (un X none) a w:=by rw[a6E];exact h
theorem a0K.old {X:Nat->Bool} {a:Nat} {w d:World} {oo:Option Addr} (h:a0K X a w) (c:Ext w d) (f:∀j,j<w.heap.size->ob oo j=false):a0K (un X oo) a d:=by
 have b:=h.lt;obtain⟨e,lo,l,cap,at_,m,i,k,g⟩:=h;exact⟨a0f e,lo,l,cap,at_,by rw[c.block a b rfl];exact m,i,k,g.old (a0p.mono _) c f⟩
theorem _root_.Go.Rep.OL.not_ob {α:Type} {R:Mem->Value->α->Prop} {sz base cap:Nat} {e:TypeId} {ao:Option Addr} {l:List α} {X:Nat->Bool} {w:World} (c:OL R sz X base e w ao cap l) {k:Nat} (a:X k=true):ob ao k=false:=by
 have h:∀k,ob ao k=true->X k=false:=c.1;cases b:ob ao k
 ·rfl
 ·rw[h k b]at a;simp at a
end Go.Proofs.YtidbbddagfnfbaaGreat
namespace Go.Lin
open Go.Lim Go.Rep
end Go.Lin
namespace Go.Proofs.YtidbbddagfnfbaaGreat
open Go.RowKit Go.Rep Go.Lim Go.Lin
end Go.Proofs.YtidbbddagfnfbaaGreat
namespace Go.Lin
open Go.Lim
noncomputable def b9I (m:Mat) (n:Nat):Rat:=if(eN m n).2.2 then - pr n (fun i=>ent (eN m n).1 i i)else pr n (fun i=>ent (eN m n).1 i i)
theorem a8k {n:Nat} {m:Mat} (b:n<=4) (d:Shp n n m):b9I m n=det n (ent m):=by
 have a:=a5Y d n;have e:=a.ech.det b;have c:=a.re.det_same b;unfold b9I;rw[<-e,c];split<;>grind
noncomputable def a8V (m:Mat) (c:Nat):Nat:=(eN m c).2.1.length
theorem a8W (m:Mat) (c:Nat):a8V m c=(a1d m c).2.length:=rfl
theorem b3v {n:Nat} {m:Mat} (b:n<=4) (i:Shp n n m):a8V m n=n↔b9I m n≠0:=by
 rw[a8k b i,a8W];obtain⟨o,k,d,j⟩:=a1p i (c:=n);have f:=j.det_same b;have a:=k.det b;have l:=j.ne;by_cases e:(a1d m n).2.length=n
 ·rw[if_pos e]at a
  refine⟨fun _ h=>?_,fun _=>e⟩;rw[a,h]at f;grind
 ·rw[if_neg e]at a
  refine⟨fun h=>absurd h e,fun h=>?_⟩;rw[a]at f;rcases Rat.mul_eq_zero.1 f.symm with g|g
  ·exact absurd g l
  ·exact absurd g h
end Go.Lin
namespace Go.Proofs.YtidbbddagfnfbaaGreat
open Go.RowKit Go.Rep Go.Lim Go.Lin
theorem b8R (X:Nat->Bool) (w:World) (u:Value) (m:List (List Rat)) (l:HX X w) (k:MV (mk X w) u m) (g:a0H m=true) (r:b8h m (a0x m)):Calls Tryz.prog 228 #[u] w (fun e x=>Ext w x/\e= .returned (.tuple #[.int .i64 (a8V m (a0x m):Int), .int .i64 0])):=by
 obtain⟨c,p,n,_,_⟩:=a0U g;have a:=a4m X w u m k (by omega);rw[g]at a;have f:=a5B X w u m m.length (a0x m) l k c rfl (by omega) (by omega);have j:Hid ((eN m (a0x m)).2.1.length=a8V m (a0x m)):=hid rfl;clear g;go_enter Tryz.func228,Tryz.ntmps228
 go_wp2_with fail
 refine a.mono ?_;rintro e C ⟨rfl,rfl⟩;go_wp2_with fail
 refine f.mono ?_;rintro e v ⟨d,ao,cap,o,rfl,b⟩;go_wp2_with fail
 refine(a6D X _ v ao cap m.length (a0x m) o m (l.ext d) b c rfl (by omega) (by omega) r).mono ?_;rintro e z ⟨h,A,B,t,rfl,y,q,s⟩;have i:=b.ext_from d (Nat.le_refl _) h;rw[j.out];go_wp2_with fail
 go_ret2
 exact⟨i,rfl⟩
end Go.Proofs.YtidbbddagfnfbaaGreat
namespace Go.Rep
open Go.RowKit
end Go.Rep
namespace Go.Lin
open Go.Lim Go.Rep
end Go.Lin
namespace Go.Proofs.YtidbbddagfnfbaaGreat
open Go.RowKit Go.Rep Go.Lim Go.Lin
theorem Bx.store {w:World} {b:Nat} {v0:Value} {T:TypeId} (h:Bx w b #[v0] T) (v:Value):Bx (w.setCell ⟨b,0,none⟩ v) b #[v] T/\ExtX (ob (some ⟨b,0,none⟩)) w (w.setCell ⟨b,0,none⟩ v):=by
 obtain⟨c,a⟩:=a0J h v (i:=0) (by simp);exact⟨by simpa using c,a⟩
end Go.Proofs.YtidbbddagfnfbaaGreat
namespace Go.Lin
open Go.Lim Go.Rep
open Classical in
noncomputable def c2w (c:Nat) (z:List Vec):Nat:=if h:∃k,a4q c z k then h.choose else 0
def c1G (p:Mat) (y:List Rat):Bool:=c2f p&&decide (y.length=a0x p)
noncomputable def c2x (p:Mat) (y:List Rat):Nat:=if c1G p y then c2w (a0x p) (a4J (c1n (a0x p) p y))else 0
end Go.Lin
namespace Go.Proofs.YtidbbddagfnfbaaGreat
open Go.RowKit Go.Rep Go.Lim Go.Lin
set_option maxRecDepth 100000 in
theorem b7w (X:Nat->Bool) (w:World) (u:Value) (x:Rat) (v:HX X w) (h:QV (mk X w) u x):Calls Tryz.prog 83 #[u] w (a1Z X w QC x):=by
 obtain⟨s,D,q,t,z,B,p,rfl⟩:=h.shape;obtain⟨W,I,n,f,m,hz⟩:=a1v w #[.bool s, .slice D q t, .slice z B p] #[.bool false, .slice none 0 0, .slice none 0 0] 45 45;have e:HX (a0e X w.heap.size 2) W:=v.boxes hz;have c:=QV.mono _ _ _ _ (a0o (nb:=2) n) h;obtain⟨b,A⟩:∃b,w.heap.size=b:=⟨_,rfl⟩;have r:w.heap.size<=b:=by omega
 rw[A]at f m hz e c;have l:=f.cell 0 rfl;have j:=f.cell 1 rfl;have g:=f.cell 2 rfl;have C:QV (mk (a0e X b 2) W) (.agg #[.bool false, .slice none 0 0, .slice none 0 0]) 0:=(QC.zero _).qv (by decide+kernel);have i:x+0=x:=by grind
 clear h;go_enter Tryz.func83,Tryz.ntmps83
 go_wp2_with fail
 refine(b7p (a0e X b 2) W _ _ x 0 e c C).mono ?_;rintro J M ⟨d,H,rfl,a⟩;rw[i]at a;obtain⟨G,K,L,F,O,P,e5,rfl⟩:=a.shape;have k:=m.ext0 d;clear l j g;go_wp2_with ((with_reducible show wpList _ _ _ (⟨_, .store 45 _ _,_,_,_,_⟩::_) _ _);refine a0a a0t rfl rfl k rfl rfl (a1Q _ _ _ _ _ _ _) ?_;intro N E o)
 have y:=QC.mono _ _ _ _ a0n (QC.mono _ _ _ _ (a0h o (by omega) (by omega)) a);exact bodyPost_ret (a0d rfl rfl a0t E rfl) rfl ⟨ExtX.box (n.trans d) o (by omega),_,rfl,y⟩
set_option maxRecDepth 100000 in
theorem b5Z (X:Nat->Bool) (w:World) (u:Value) (x:Rat) (v:HX X w) (h:QV (mk X w) u x):Calls Tryz.prog 269 #[u] w (a1Z X w QC x):=by
 obtain⟨s,D,q,t,z,B,p,rfl⟩:=h.shape;obtain⟨W,I,n,f,m,hz⟩:=a1v w #[.bool s, .slice D q t, .slice z B p] #[.bool false, .slice none 0 0, .slice none 0 0] 45 45;have e:HX (a0e X w.heap.size 2) W:=v.boxes hz;have c:=QV.mono _ _ _ _ (a0o (nb:=2) n) h;obtain⟨b,A⟩:∃b,w.heap.size=b:=⟨_,rfl⟩;have r:w.heap.size<=b:=by omega
 rw[A]at f m hz e c;have l:=f.cell 0 rfl;have j:=f.cell 1 rfl;have g:=f.cell 2 rfl;have C:QV (mk (a0e X b 2) W) (.agg #[.bool false, .slice none 0 0, .slice none 0 0]) 0:=(QC.zero _).qv (by decide+kernel);have i:x+0=x:=by grind
 clear h;go_enter Tryz.func269,Tryz.ntmps269
 go_wp2_with fail
 refine(b2Z (a0e X b 2) W _ _ x 0 e c C).mono ?_;rintro J M ⟨d,H,rfl,a⟩;rw[i]at a;obtain⟨G,K,L,F,O,P,e5,rfl⟩:=a.shape;have k:=m.ext0 d;clear l j g;go_wp2_with ((with_reducible show wpList _ _ _ (⟨_, .store 45 _ _,_,_,_,_⟩::_) _ _);refine a0a a0t rfl rfl k rfl rfl (a1Q _ _ _ _ _ _ _) ?_;intro N E o)
 have y:=QC.mono _ _ _ _ a0n (QC.mono _ _ _ _ (a0h o (by omega) (by omega)) a);exact bodyPost_ret (a0d rfl rfl a0t E rfl) rfl ⟨ExtX.box (n.trans d) o (by omega),_,rfl,y⟩
set_option maxRecDepth 100000 in
set_option maxHeartbeats 800000 in
theorem a9Y (X:Nat->Bool) (w:World) (u:Value) (l:List Rat) (hX:HX X w) (hu:RV (mk X w) u l) (hl:l.length<=1000):Calls Tryz.prog 222 #[u] w (a1Z X w RC l):=by
 obtain⟨ao,ca,rfl,K,p⟩:=hu;have J:=p.hd;obtain⟨n,z⟩:∃n,l.length=n:=⟨_,rfl⟩;have c:=hid z;rw[z]at hl K J |-;clear z;go_enter Tryz.func222,Tryz.ntmps222
 go_wp2_with fail
 go_loopw [3,8] (fun o D wr=>∃(i:Nat) (oo:Option Addr) (x:Nat),D= .int .i64 i/\o= .slice oo i x/\i<=n/\OL QC 3 X w.heap.size 45 wr oo x (l.take i)/\Ext w wr) (fun _ D _=>n - (intOf D).toNat)
 case atStart=>exact⟨0,none,0,rfl,rfl,Nat.zero_le _,OL.nil _ _ _ _ _ _,ExtX.refl _⟩
 case round=>
  obtain⟨i,oo,x,rfl,rfl,hi,g,h⟩:=hrel;have q:HX X wr:=hX.ext h;have A:HX (un X oo) wr:=g.unX q;have M:=h.size;by_cases V:i<n
  ·have b:i<l.length:=by rw[c.out];exact V
   have t:=hid (a0L l i b);have O:=hid (a0W (l:=l) (i:=i) (Nat.le_of_lt b));have G:Sl QV 3 (mk (un X oo) wr) ao l:=p.old QV.mono h (fun j hj=>g.ob_lt hj);have bx:=Bx.new wr #[.bool false, .slice none 0 0, .slice none 0 0] 45;obtain⟨v,P⟩:∃v,l[i]=v:=⟨_,rfl⟩;rw[P]at t;have R:=hid P;clear P;go_wp2_with (first|(with_reducible refine a1M a0B (by omega) (by assumption) ?_)|((with_reducible show wpList _ _ _ (⟨_, .load 45 _,_,_,_,_⟩::_) _ _);refine a0G a0t i G b rfl (by simp) QV.agg ?_;intro u5 f;rw[R.out]at f;obtain⟨s5,a5,n5,c5,d5,m5,e5,rfl⟩:=f.shape)|((with_reducible show wpList _ _ _ (⟨_, .store 45 _ _,_,_,_,_⟩::_) _ _);refine a0a a0t rfl rfl bx rfl rfl (a1Q _ _ _ _ _ _ _) ?_;intro w5 S r2;have d:Ext wr w5:=ExtX.box ((ExtX.refl wr).alloc _) r2 (Nat.le_refl _);have H:=S.cell 0 rfl;have y:=S.cell 1 rfl;have N:=S.cell 2 rfl;have T:=A.ext d;have C:=mkx QV.mono f d))
   refine(b5Z (un X oo) _ _ _ T C).mono ?_;rintro e w7 ⟨B,u7,rfl,r⟩;obtain⟨Z,W,n7,c7,d7,m7,Y,rfl⟩:=r.shape;have a:=d.trans B;have m:=g.ext0 QC.elem a;have L:=(h.trans a).size;have Q:HX X w7:=q.ext a;clear H y N;go_wp2_with (at_builtin;refine a0u (l:=l.take i) a0B rfl QC.elem L Q i O.out rfl rfl m (.agg #[.bool Z, .slice W n7 c7, .slice d7 m7 Y]) v rfl r (by omega) (by omega) ?_;intro F U w9 k I a0)
   have s:=(h.trans a).own m (Nat.le_refl _) I;rw[t.out]at k;go_roundw
   case rel=>exact⟨i+1,F,U,by go_num,by go_num,by omega,k,s⟩
   case measure=>simp[intOf];omega
  ·have E:i=n:=by omega
   rw[List.take_of_length_le (by rw[c.out];omega)]at g;subst E;have hc:=g.lenCap;have hs:=g.sl QC.elem;go_wp2_with fail
   go_ret
   exact⟨h,_,rfl,oo,x,by rw[c.out];rfl,hc,hs⟩
end Go.Proofs.YtidbbddagfnfbaaGreat
namespace Go.Lin
open Go.Lim Go.Rep
def a2O (l:List Rat) (s:List Int):List Rat:=s.map fun i=>l.getD i.toNat 0
theorem a4c (l:List Rat) (s:List Int):(a2O l s).length=s.length:=by simp[a2O]
theorem a8X {l:List Rat} {s:List Int} {j:Nat} (b:j<(a2O l s).length) (a:j<s.length) {i:Nat} (hi:i<l.length) (h:s[j]=(i:Int)):(a2O l s)[j]=l[i]:=by
 simp[a2O,h,List.getD_eq_getElem?_getD,hi]
def a1c (m:Mat) (s:List Int):Mat:=m.map fun r=>a2O r s
theorem a4d (m:Mat) (s:List Int):(a1c m s).length=m.length:=by simp[a1c]
theorem a8Y (m:Mat) (s:List Int) (i:Nat) (h:i<(a1c m s).length) (a:i<m.length):(a1c m s)[i]=a2O m[i] s:=by simp[a1c]
end Go.Lin
namespace Go.Proofs.YtidbbddagfnfbaaGreat
open Go.RowKit Go.Rep Go.Lim Go.Lin
set_option maxRecDepth 100000 in
theorem a7w (X:Nat->Bool) (w:World) (u:Value) (z:List Rat) (ro:Option Addr) (s:List Int) (rc:Nat) (hX:HX X w) (hu:RV (mk X w) u z) (hs:Sl (a0p .i64) 1 (mk noY w) ro s) (hb:∀x∈s,0<=x/\x<(z.length:Int)) (hl:s.length<=1000):Calls Tryz.prog 120 #[u, .slice ro s.length rc] w (fun e w'=>Ext w w'/\∃(ao:Option Addr) (cap:Nat),e= .returned (.slice ao s.length cap)/\OL QV 3 X w.heap.size 45 w' ao cap (a2O z s)):=by
 obtain⟨ao,ca,rfl,hca,hsa⟩:=hu;have hha:=hsa.hd;have hhs:=hs.hd;obtain⟨M,hM⟩:∃M,a2O z s=M:=⟨_,rfl⟩;have hMl:M.length=s.length:=by rw[<-hM];exact a4c z s
 have hMi:=hid (show∀j (h1:j<M.length) (h2:j<s.length) (i:Nat) (h3:i<z.length),s[j]=(i:Int)->M[j]=z[i]from fun j h1 h2 i h3 h=>by subst hM;exact a8X h1 h2 h3 h);rw[hM];have hb':=hid hb;obtain⟨n,hn⟩:∃n,z.length=n:=⟨_,rfl⟩;have hn':=hid hn;obtain⟨k,hk⟩:∃k,s.length=k:=⟨_,rfl⟩;have hk':=hid hk;rw[hk]at hhs hl hMl |-;rw[hn]at hha hca |-;have hMl1:M.length<=k:=by omega
 have hMl2:k<=M.length:=by omega
 clear hM hb hn hk hMl;go_enter Tryz.func120,Tryz.ntmps120
 go_wp2_with fail
 go_loopw [5,10] (fun o cc wr=>∃(i:Nat) (oo:Option Addr) (co:Nat),cc= .int .i64 i/\o= .slice oo i co/\i<=k/\OL QV 3 X w.heap.size 45 wr oo co (M.take i)/\Ext w wr) (fun _ cc _=>k - (intOf cc).toNat)
 case atStart=>exact⟨0,none,0,rfl,rfl,Nat.zero_le _,OL.nil _ _ _ _ _ _,ExtX.refl _⟩
 case round=>
  obtain⟨i,oo,co,rfl,rfl,hi,hO,hE⟩:=hrel;have hXr:HX X wr:=hX.ext hE;have hbase:=hE.size;by_cases hlt:i<k
  ·have his:i<s.length:=by rw[hk'.out];exact hlt
   have hiM:i<M.length:=by omega
   have htk:=hid (a0L M i hiM);have hln:=hid (a0W (l:=M) (i:=i) (by omega));have hc:=(hs.mono (a0p.mono _) (a0l hE)).int i his;obtain⟨h1,h2⟩:=hb'.out s[i] (List.getElem_mem _);obtain⟨q,hq⟩:=Int.eq_ofNat_of_zero_le h1;rw[hn'.out]at h2;have hqn:q<n:=by omega
   have hqz:q<z.length:=by rw[hn'.out];exact hqn
   have hMq:=hid (hMi.out i hiM his q hqz hq);rw[hq]at hc;have hsr:Sl QV 3 (mk (un X oo) wr) ao z:=hsa.old QV.mono hE (fun j hj=>hO.ob_lt hj);clear h1 h2 hq;go_wp2_with (first
    |(with_reducible refine a0q a2h (by omega) (by assumption) ?_)
    |(with_reducible refine a1M a0B (by omega) (by assumption) ?_)
    |((with_reducible show wpList _ _ _ (⟨_, .load 45 _,_,_,_,_⟩::_) _ _);refine a0G a0t q hsr hqz rfl (by simp) QV.agg ?_;intro u5 hu5;rw[<-hMq.out]at hu5;obtain⟨s5,a5,n5,c5,d5,m5,e5,rfl⟩:=hu5.shape)
    |(at_builtin;refine a0u (l:=M.take i) a0B rfl QV.elem hbase hXr i hln.out rfl rfl hO (.agg #[.bool s5, .slice a5 n5 c5, .slice d5 m5 e5]) M[i] rfl hu5 (by omega) (by omega) ?_;intro oo2 co2 w7 hO7 hE7 hor))
   have hE8:=hE.own hO (Nat.le_refl _) hE7;rw[htk.out]at hO7;go_roundw
   case rel=>exact⟨i+1,oo2,co2,by go_num,by go_num,by omega,hO7,hE8⟩
   case measure=>simp[intOf];omega
  ·have hil:i=k:=by omega
   subst hil;rw[List.take_of_length_le (by omega)]at hO;go_wp2_with fail
   go_ret
   exact⟨hE,oo,co,rfl,hO⟩
set_option maxRecDepth 100000 in
theorem b3w (X:Nat->Bool) (w:World) (u:Value) (z:Mat) (R:Option Addr) (s:List Int) (rc:Nat) (hX:HX X w) (hu:MV (mk X w) u z) (hs:Sl (a0p .i64) 1 (mk noY w) R s) (hb:∀r∈z,∀x∈s,0<=x/\x<(r.length:Int)) (hl:s.length<=1000) (b0:z.length<=1000):Calls Tryz.prog 158 #[u, .slice R s.length rc] w (fun e m=>Ext w m/\∃(ao:Option Addr) (cap:Nat),e= .returned (.slice ao z.length cap)/\OL RV 1 X w.heap.size 24 m ao cap (a1c z s)):=by
 obtain⟨ao,ca,rfl,a3,D⟩:=hu;have a2:=D.hd;have f:=hid (fun(Y:Nat->Bool) (m:World) (v:Value) (r:List Rat) (hY:HX Y m) (N:RV (mk Y m) v r) (p:Ext w m) (L:r∈z)=>a7w Y m v r R s rc hY N (hs.mono (a0p.mono _) (a0l p)) (hb r L) hl);have A:=hid (fun r:List Rat=>a4c r s);obtain⟨M,K⟩:∃M,a1c z s=M:=⟨_,rfl⟩;have y:M.length=z.length:=by rw[<-K];exact a4d z s
 have Q:=hid (show∀j (h1:j<M.length) (h2:j<z.length),M[j]=a2O z[j] s from fun j h1 h2=>by subst K;exact a8Y z s j h1 h2);rw[K];obtain⟨n,O⟩:∃n,z.length=n:=⟨_,rfl⟩;have W:=hid O;obtain⟨k,hk⟩:∃k,s.length=k:=⟨_,rfl⟩;rw[hk]at hl f A |-;rw[O]at a2 a3 y b0 |-;have b4:M.length<=n:=by omega
 have b3:n<=M.length:=by omega
 clear K hb O hk y hs;go_enter Tryz.func158,Tryz.ntmps158
 go_wp2_with fail
 go_loopw [5,10] (fun o T wr=>∃(i:Nat) (oo:Option Addr) (J:Nat),T= .int .i64 i/\o= .slice oo i J/\i<=n/\OL RV 1 X w.heap.size 24 wr oo J (M.take i)/\Ext w wr) (fun _ T _=>n - (intOf T).toNat)
 case atStart=>exact⟨0,none,0,rfl,rfl,Nat.zero_le _,OL.nil _ _ _ _ _ _,ExtX.refl _⟩
 case round=>
  obtain⟨i,oo,J,rfl,rfl,hi,t,p⟩:=hrel;have Z:HX X wr:=hX.ext p;by_cases b2:i<n
  ·have C:i<z.length:=by rw[W.out];exact b2
   have G:i<M.length:=by omega
   have b1:=hid (a0L M i G);have a4:=hid (a0W (l:=M) (i:=i) (by omega));have h:=hid (Q.out i G C);have P:=t.unX Z;have a5:Sl RV 1 (mk (un X oo) wr) ao z:=D.old RV.mono p (fun j hj=>t.ob_lt hj);obtain⟨a1,c1,b5,H,g,E⟩:=a5.row i C;have q:=H.out noY wr (ExtX.refl _) rfl;have a:=hid (f.out (un X oo) wr (.slice a1 z[i].length c1) z[i] P ⟨a1,c1,rfl,g,E⟩ p (List.getElem_mem _));have b:=hid (A.out z[i]);obtain⟨r,L⟩:∃r,z[i]=r:=⟨_,rfl⟩;rw[L]at q a h b;obtain⟨d,hd⟩:∃d,r.length=d:=⟨_,rfl⟩;rw[hd]at q a;obtain⟨v,N⟩:∃v,a2O r s=v:=⟨_,rfl⟩;rw[N]at a h b;clear L H g E hd N;go_wp2_with (with_reducible refine a0q a0s (by omega) (by assumption) ?_)
   refine a.out.mono ?_;rintro e w5 ⟨F,bo,bc,rfl,hB⟩;have I:=t.ext0 RV.elem F;have c:=p.trans F;have a7:=hX.ext c;have a0:=c.size;have a9:RV (mk (un X oo) w5) (.slice bo k bc) M[i]:=by
    rw[h.out];have hc:=hB.lenCap;rw[b.out]at hc;exact⟨bo,bc,by rw[b.out],by rw[b.out];exact hc,hB.sl QV.elem⟩
   clear hB t q a;go_wp2_with (at_builtin;refine a0u (l:=M.take i) a0s rfl RV.elem a0 a7 i a4.out rfl rfl I (.slice bo k bc) M[i] rfl a9 (by omega) (by omega) ?_;intro U a8 w7 B S b6)
   have a6:=c.own I (Nat.le_refl _) S;rw[b1.out]at B;go_roundw
   case rel=>exact⟨i+1,U,a8,by go_num,by go_num,by omega,B,a6⟩
   case measure=>simp[intOf];omega
  ·have V:i=n:=by omega
   subst V;rw[List.take_of_length_le (by omega)]at t;go_wp2_with fail
   go_ret
   exact⟨p,oo,J,rfl,t⟩
end Go.Proofs.YtidbbddagfnfbaaGreat
namespace Go.Lin
theorem b7x (a:Rat):0<=a*a:=by
 rcases Rat.le_total (a:=0) (b:=a)with h|h
 ·exact Rat.mul_nonneg h h
 ·have c:0<= -a:=by grind
  have:=Rat.mul_nonneg c c;grind
theorem b8S (n:Nat) (f:Nat->Rat):0<=sm n fun i=>f i*f i:=by
 induction n with
 |zero=>unfold sm;grind
 |succ n ih=>unfold sm;have:=b7x (f n);grind
theorem b1P {n:Nat} {f:Nat->Rat} (h:sm n (fun i=>f i*f i)=0):∀i,i<n->f i=0:=by
 induction n with
 |zero=>intro i hi;omega
 |succ n ih=>
  unfold sm at h;have h1:=b8S n f;have h2:=b7x (f n);have h3:sm n (fun i=>f i*f i)=0:=by grind
  have h4:f n*f n=0:=by grind
  intro i hi;by_cases e:i=n
  ·subst e;rcases Rat.mul_eq_zero.1 h4 with h|h<;>exact h
  ·exact ih h3 i (by omega)
def app (c:Nat) (f:F2) (x:Nat->Rat) (i:Nat):Rat:=sm c fun j=>f i j*x j
def gr (n:Nat) (f:F2):F2:=fun i j=>sm n fun r=>f r i*f r j
def gy (n:Nat) (f:F2) (y:Nat->Rat):Nat->Rat:=fun i=>sm n fun r=>f r i*y r
theorem c0t (n:Nat) (f:F2) (i j:Nat):gr n f i j=gr n f j i:=a0g fun r _=>by grind
theorem b1c (n c:Nat) (f:F2) (x:Nat->Rat) (i:Nat):sm c (fun j=>gr n f i j*x j)=sm n fun r=>f r i*app c f x r:=by
 have e:∀j,j<c->gr n f i j*x j=sm n fun r=>f r i*(f r j*x j):=fun j _=>by
  have:gr n f i j*x j=x j*gr n f i j:=by grind
  rw[this];unfold gr;rw[<-a1z];exact a0g fun r _=>by grind
 rw[a0g e,a2x];exact a0g fun r _=>by rw[a1z];rfl
theorem a8Z {n c:Nat} {f:F2} {x:Nat->Rat}:Nul c c (gr n f) x↔Nul n c f x:=by
 constructor
 ·intro h
  have a:sm c (fun i=>x i*sm c (fun j=>gr n f i j*x j))=0:=a1W fun i hi=>by rw[h i hi];grind
  have b:sm c (fun i=>x i*sm c (fun j=>gr n f i j*x j))=sm n fun r=>app c f x r*app c f x r:=by
   rw[a0g (g:=fun i=>sm n fun r=>app c f x r*(f r i*x i)) fun i _=>by rw[b1c,<-a1z];exact a0g fun r _=>by grind];rw[a2x];exact a0g fun r _=>by rw[a1z];rfl
  rw[b]at a;exact fun i hi=>b1P a i hi
 ·intro h i _
  rw[b1c];exact a1W fun r d=>by rw[show app c f x r=0 from h r d];grind
def NS (n c:Nat) (f:F2) (y b:Nat->Rat):Prop:=∀i,i<c->sm c (fun j=>gr n f i j*b j)=gy n f y i
theorem a9Z {n c:Nat} {f:F2} {y b:Nat->Rat}:NS n c f y b↔∀i,i<c->sm n (fun r=>f r i*(y r - app c f b r))=0:=by
 have a:∀i,sm n (fun r=>f r i*(y r - app c f b r))=gy n f y i - sm c (fun j=>gr n f i j*b j):=fun i=>by
  rw[b1c];rw[a0g (g:=fun r=>f r i*y r - f r i*app c f b r) fun r _=>by grind,a7f];rfl
 constructor
 ·intro h i hi;rw[a,h i hi];grind
 ·intro h i hi;have:=h i hi;rw[a]at this;grind
theorem b8T (c:Nat) (f:F2) (x y:Nat->Rat) (i:Nat):app c f (fun j=>x j - y j) i=app c f x i - app c f y i:=by
 unfold app;rw[<-a7f];exact a0g fun j _=>by grind
theorem c0u {n c:Nat} {f:F2} {y b b':Nat->Rat} (h:NS n c f y b) (a:NS n c f y b'):Nul n c f (fun j=>b j - b' j):=a8Z.1 fun i hi=>by
 rw[a0g (g:=fun j=>gr n f i j*b j - gr n f i j*b' j) fun j _=>by grind,a7f,h i hi,a i hi];grind
theorem b1d {n c:Nat} {f g:F2} {p:List Nat} {d:Rat} (i:Rref n c g p) (m:RE n c f g d) {x:Nat->Rat} (hx:Nul n c f x) (h:∀j,j<c->j∉p->x j=0) (j:Nat) (b:j<c):x j=0:=by
 by_cases e:j∈p
 ·obtain⟨k,l,rfl⟩:=List.getElem_of_mem e
  have q:=(m.nul x).1 hx k (Nat.lt_of_lt_of_le l i.le);have o:sm c (fun j=>if j∈p then 0 else g k j*x j)=0:=a1W fun j b=>by
   by_cases a:j∈p
   ·simp[a]
   ·simp[a,h j b a]
  rw[i.row k l,o]at q;grind
 ·exact h j b e
theorem c0v {n c:Nat} {f g:F2} {p:List Nat} {d:Rat} (m:Rref n c g p) (k:RE n c f g d) {y b b':Nat->Rat} (h:NS n c f y b) (o:NS n c f y b') (l:∀j,j<c->j∉p->b j=0) (e:∀j,j<c->j∉p->b' j=0) (j:Nat) (a:j<c):b j=b' j:=by
 have:=b1d m k (c0u h o) (fun j a i=>by rw[l j a i,e j a i];grind) j a;grind
theorem Rref.sub2 {n m c:Nat} {f g:F2} {p q:List Nat} (h:Rref n c f p) (d:Rref m c g q) (l:∀x,Nul n c f x->Nul m c g x) (j:Nat) (o:j∈q):j∈p:=by
 refine Classical.byContradiction fun b=>?_;obtain⟨k,e,rfl⟩:=List.getElem_of_mem o;have i:=l _ (h.nv_nul b (d.lt k e)) k (Nat.lt_of_lt_of_le e d.le);rw[a1A q[k] (d.lt k e)]at i
 ·rw[d.one k e,a3I]at i;grind
 ·intro x _ hx
  rcases Nat.lt_or_gt_of_ne hx with a|a
  ·rw[d.left k e x a];grind
  ·rw[h.nv_supp b a];grind
theorem Rref.piv2 {n m c:Nat} {f g:F2} {p q:List Nat} (b:Rref n c f p) (a:Rref m c g q) (d:∀x,Nul n c f x↔Nul m c g x):p=q:=
 b0B p q b.pw a.pw fun x=>⟨a.sub2 b (fun x h=>(d x).2 h) x,b.sub2 a (fun x h=>(d x).1 h) x⟩
theorem Rref.drop {n c:Nat} {f:F2} {p:List Nat} (h:Rref n (c+1) f p) (d:c∉p):Rref n c f p:=
 ⟨h.le,fun i hi=>by
  have b:=h.lt i hi;have a:p[i]≠c:=by rintro rfl;exact d (List.getElem_mem _)
  omega,h.inc,h.left,h.one,h.zero,fun i b a j e=>h.below i b a j (by omega)⟩
theorem b6a {n c:Nat} {f:F2} {b:Nat->Rat} {r:F2} {d:Rat} (h:RE n (c+1) (a3d c f b) r d) (x:Nat->Rat):Nul n c f x↔Nul n c r x:=by
 have e:∀(g:F2),Nul n (c+1) g (fun j=>if j=c then 0 else x j)↔Nul n c g x:=fun g=>by
  constructor
  ·intro h i hi
   have a:=h i hi;unfold sm at a;rw[a0g (g:=fun j=>g i j*x j) fun j k=>by simp[show j≠c by omega]]at a;simp at a;grind
  ·intro h i hi
   unfold sm;rw[a0g (g:=fun j=>g i j*x j) fun j k=>by simp[show j≠c by omega],h i hi];simp;grind
 have l:Nul n (c+1) (a3d c f b) (fun j=>if j=c then 0 else x j)↔Nul n c f x:=by
  constructor
  ·intro h i hi
   have a:=h i hi;unfold sm at a;rw[a0g (g:=fun j=>f i j*x j) fun j k=>by simp[a3d,show j≠c by omega]]at a;simp at a;grind
  ·intro h i hi
   unfold sm;rw[a0g (g:=fun j=>f i j*x j) fun j k=>by simp[a3d,show j≠c by omega],h i hi];simp;grind
 rw[<-l,<-e r];exact h.nul _
theorem b3x {n c:Nat} {f r:F2} {y:Nat->Rat} {q:List Nat} {d:Rat} (e:Rref c (c+1) r q) (h:RE c (c+1) (a3d c (gr n f) (gy n f y)) r d):c∉q:=by
 intro hq;obtain⟨k,p,o⟩:=List.getElem_of_mem hq;have b:k<c:=Nat.lt_of_lt_of_le p e.le;obtain⟨a,s⟩:=h.factor (r:=c) (a3d c (gr n f) (gy n f y)) ⟨fun i j=>if i=j then 1 else 0,fun i hi j u=>by
  unfold mul;rw[a1A i hi fun x _ hx=>by simp[Ne.symm hx]];simp⟩
 have v:∀j,j<c->sm c (fun i=>gr n f j i*a k i)=0:=fun j u=>by
  have l:=s k b j (by omega);rw[e.left k p j (by omega)]at l;unfold mul at l;rw[l];exact a0g fun i _=>by simp[a3d,show j≠c by omega];rw[c0t];grind
 have l:=a8Z.1 (show Nul c c (gr n f) (a k)from v);have m:=s k b c (by omega);have t:=e.one k p;rw[o]at t;rw[t]at m;unfold mul at m;rw[a0g (g:=fun i=>sm n fun r=>y r*(f r i*a k i)) fun i _=>by
  simp only[a3d,if_true];unfold gy;rw[<-a1z];exact a0g fun r _=>by grind]at m
 rw[a2x,a1W fun r e=>by rw[a1z,l r e];grind]at m;grind
theorem b8U {n c:Nat} {f g r:F2} {y:Nat->Rat} {p q:List Nat} {d e:Rat} (l:Rref n c g p) (k:RE n c f g e) (b:Rref c (c+1) r q) (h:RE c (c+1) (a3d c (gr n f) (gy n f y)) r d):
  q=p/\NS n c f y (b2v r q c)/\∀j,j<c->j∉p->b2v r q c j=0:=by
 have i:=b3x b h;have hd:=b.drop i;have a:q=p:=hd.piv2 l fun x=>((b6a h x).symm.trans a8Z).trans (k.nul x);refine⟨a,b9K b h i,fun j _ m=>?_⟩;unfold b2v;rw[a6e (by rw[a];exact m)]
theorem b3y {n c:Nat} {f:F2} {y b:Nat->Rat} (h:NS n c f y b) (x:Nat->Rat):sm n (fun r=>(y r - app c f x r)*(y r - app c f x r))=sm n (fun r=>(y r - app c f b r)*(y r - app c f b r))+sm n (fun r=>app c f (fun j=>b j - x j) r*app c f (fun j=>b j - x j) r):=by
 have e:=a9Z.1 h;have a:sm n (fun r=>(y r - app c f b r)*app c f (fun j=>b j - x j) r)=0:=by
  rw[a0g (g:=fun r=>sm c fun j=>(b j - x j)*(f r j*(y r - app c f b r))) fun r _=>by
   unfold app;rw[<-a1z];exact a0g fun j _=>by grind]
  rw[a2x];exact a1W fun j d=>by rw[a1z,e j d];grind
 rw[a0g (g:=fun r=>(y r - app c f b r)*(y r - app c f b r)+(2*((y r - app c f b r)*app c f (fun j=>b j - x j) r)+app c f (fun j=>b j - x j) r*app c f (fun j=>b j - x j) r)) fun r _=>by rw[b8T];grind];rw[a5H,a5H,a1z,a];grind
theorem b6b {n c:Nat} {f:F2} {y b:Nat->Rat} (h:NS n c f y b) (x:Nat->Rat):sm n (fun r=>(y r - app c f b r)*(y r - app c f b r))<=sm n (fun r=>(y r - app c f x r)*(y r - app c f x r)):=by
 rw[b3y h x];have:=b8S n (app c f (fun j=>b j - x j));grind
theorem c0w {n c:Nat} {f:F2} {y b:Nat->Rat} (h:NS n c f y b):sm n (fun r=>(y r - app c f b r)*(y r - app c f b r))=sm n (fun r=>y r*y r) - sm c (fun j=>b j*gy n f y j):=by
 have a:=b3y h (fun _=>0);have e:∀r,app c f (fun _=>0) r=0:=fun r=>a1W fun j _=>by grind
 have i:∀r,app c f (fun j=>b j - 0) r=app c f b r:=fun r=>by
  have:(fun j=>b j - 0)=b:=funext fun j=>by grind
  rw[this]
 rw[a0g (g:=fun r=>y r*y r) fun r _=>by rw[e];grind]at a;rw[a0g (f:=fun r=>app c f (fun j=>b j - 0) r*app c f (fun j=>b j - 0) r) (g:=fun r=>app c f b r*app c f b r) fun r _=>by rw[i]]at a;have d:sm n (fun r=>app c f b r*app c f b r)=sm c (fun j=>b j*gy n f y j):=by
  rw[a0g (f:=fun j=>b j*gy n f y j) (g:=fun j=>b j*sm c (fun k=>gr n f j k*b k)) fun j l=>by rw[h j l]];rw[a0g (f:=fun j=>b j*sm c (fun k=>gr n f j k*b k)) (g:=fun j=>sm n fun r=>app c f b r*(f r j*b j)) fun j _=>by rw[b1c,<-a1z];exact a0g fun r _=>by grind];rw[a2x];exact a0g fun r _=>by rw[a1z];rfl
 rw[d]at a;grind
def usd (f:F2) (p:List Nat):F2:=fun r a=>f r (p.getD a 0)
def b4K (p:List Nat) (z:Nat->Rat):Nat->Rat:=fun j=>match p.findIdx? (· ==j)with|some a=>z a|none=>0
theorem a6F {n c:Nat} {g:F2} {p:List Nat} (d:Rref n c g p) (z:Nat->Rat) (a:Nat) (b:a<p.length):b4K p z p[a]=z a:=by
 unfold b4K;rw[d.idx a b]
theorem a5h {p:List Nat} (z:Nat->Rat) {j:Nat} (a:j∉p):b4K p z j=0:=by
 unfold b4K;rw[a6e a]
theorem c0x {n c:Nat} {g:F2} {p:List Nat} (l:Rref n c g p) (F:Nat->Rat) (q:∀j,j<c->j∉p->F j=0):sm c F=sm p.length fun a=>F (p.getD a 0):=by
 have m:∀k (b:k<p.length),p.getD k 0=p[k]:=fun k b=>by simp[List.getD_eq_getElem?_getD,b]
 have e:∀j,j<c->F j=sm p.length fun a=>if j=p.getD a 0 then F j else 0:=fun j h=>by
  by_cases d:j∈p
  ·obtain⟨k,b,rfl⟩:=List.getElem_of_mem d
   rw[a1A k b fun i hi f=>by
    rw[m i hi,if_neg];intro r;rcases Nat.lt_or_gt_of_ne f with a|a
    ·have:=l.inc i k a b;omega
    ·have:=l.inc k i a hi;omega]
   rw[m k b,if_pos rfl]
  ·rw[q j h d,a1W fun i hi=>by split<;>rfl]
 rw[a0g e,a2x];exact a0g fun a o=>by
  rw[m a o,a1A p[a] (l.lt a o) fun j _ h=>by rw[if_neg h],if_pos rfl]
theorem b1e {n c:Nat} {f g:F2} {p:List Nat} (d:Rref n c g p) (z:Nat->Rat) (r:Nat):app c f (b4K p z) r=app p.length (usd f p) z r:=by
 unfold app;rw[c0x d _ fun j _ h=>by rw[a5h z h];grind];exact a0g fun a b=>by
  have e:p.getD a 0=p[a]:=by simp[List.getD_eq_getElem?_getD,b]
  unfold usd;rw[e,a6F d z a b]
theorem c0y {n c:Nat} {f g:F2} {p:List Nat} {d:Rat} (b:Rref n c g p) (h:RE n c f g d) {z:Nat->Rat} (hz:Nul n p.length (usd f p) z) (a:Nat) (e:a<p.length):z a=0:=by
 have l:Nul n c f (b4K p z):=fun r i=>(b1e (f:=f) b z r).trans (hz r i);have:=b1d b h l (fun j _ k=>a5h z k) p[a] (b.lt a e);rwa[a6F b z a e]at this
theorem c0z {n c:Nat} {f g:F2} {p:List Nat} {d:Rat} (a:Rref n c g p) (b:RE n c f g d) {y z:Nat->Rat} (hz:NS n p.length (usd f p) y z):NS n c f y (b4K p z):=by
 refine a9Z.2 fun i hi=>?_;have j:=a9Z.1 hz;have e:=b1D a b;rw[a0g (g:=fun r=>sm p.length fun k=>g k i*(usd f p r k*(y r - app p.length (usd f p) z r))) fun r h=>by
  rw[b1e a,e r h i hi];unfold mul;have:∀(A B:Rat),A*B=B*A:=fun A B=>by grind
  rw[this,<-a1z];exact a0g fun k _=>by unfold usd;grind]
 rw[a2x];exact a1W fun k l=>by rw[a1z,j k l];grind
def Inv (m:Nat) (G v:F2):Prop:=(∀a,a<m->∀b,b<m->sm m (fun k=>G a k*v k b)=if a=b then 1 else 0)/\∀a,a<m->∀b,b<m->sm m (fun k=>v a k*G k b)=if a=b then 1 else 0
theorem c0A {n m:Nat} {u v:F2} (h:Inv m (gr n u) v) (y:Nat->Rat):NS n m u y fun a=>sm m fun b=>v a b*gy n u y b:=fun i hi=>by
 rw[a0g (g:=fun j=>sm m fun b=>gy n u y b*(gr n u i j*v j b)) fun j _=>by rw[<-a1z];exact a0g fun b _=>by grind];rw[a2x,a0g (g:=fun b=>gy n u y b*if i=b then 1 else 0) fun b c=>by rw[a1z,h.1 i hi b c]];rw[a1A i hi fun b _ c=>by simp[Ne.symm c]];simp
def hat (m:Nat) (u v:F2):F2:=fun i j=>sm m fun a=>u i a*sm m fun b=>v a b*u j b
open Go.Lim
theorem c1H {l:List Rat} {B:Nat} (h:∀x,x<l.length->hq (l.getD x 0)<=B):Go.Rep.BR B l:=fun q hq=>by
 obtain⟨x,hx,rfl⟩:=List.getElem_of_mem hq;have:=h x hx;rwa[List.getD_eq_getElem?_getD,List.getElem?_eq_getElem hx]at this
theorem a9a {l:List Rat} {B:Nat} (h:Go.Rep.BR B l) (a:1<=B) (x:Nat):hq (l.getD x 0)<=B:=by
 by_cases hx:x<l.length
 ·rw[List.getD_eq_getElem?_getD,List.getElem?_eq_getElem hx];exact h _ (List.getElem_mem _)
 ·rw[List.getD_eq_getElem?_getD,List.getElem?_eq_none (by omega)]
  show hq 0<=B
  rw[a0Z];exact a
theorem a6G {a b:List Rat} {n:Nat} (e:a.length=n) (f:b.length=n) (h:∀i,i<n->a.getD i 0=b.getD i 0):a=b:=by
 refine List.ext_getElem (by omega) fun i d c=>?_;have:=h i (by omega);rwa[List.getD_eq_getElem?_getD,List.getElem?_eq_getElem d,List.getD_eq_getElem?_getD,List.getElem?_eq_getElem c]at this
theorem c0B {k:Nat} (a:k<=4):35^k<=1500625:=Nat.le_trans (Nat.pow_le_pow_right (by omega) a) (by decide)
theorem b1f {m:Mat} {b:List Rat} {n c B:Nat} (a:Shp n c m) (e:HB B m) (f:Go.Rep.BR B b):HB B (a2W m b n):=fun i j=>by
 have d:=e.pos;by_cases hi:i<n
 ·by_cases g:j<c+1
  ·rw[a8U a i hi j g];unfold a3d
   split
   ·exact a9a f d i
   ·exact e i j
  ·rw[a1O (a2m a) (.inr (by omega)),a0Z];exact d
 ·rw[a1O (a2m (b:=b) a) (.inl (by omega)),a0Z];exact d
theorem b6c {m:Mat} {b:List Rat} {n c:Nat} (a:Shp n c m):∃d,RE n (c+1) (a3d c (ent m) fun i=>b.getD i 0) (ent (a1d (a2W m b n) (c+1)).1) d:=by
 obtain⟨_,_,d,e⟩:=a1p (a2m (b:=b) a);exact⟨d,e.congr fun i hi j f=>(a8U a i hi j f).symm⟩
theorem b0a (R:Mat) (p:List Nat) (c:Nat):(b7v R p c).length=c:=b0Y _ _ _ _
end Go.Lin
