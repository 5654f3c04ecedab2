/- Parts of a proof: each theorem states what it proves, and its conditions. -/
import Derived.Test.YtnnpfhoigmegcaaGreatBkG
import Derived.BigRegion
set_option maxRecDepth 100000
set_option maxHeartbeats 1600000
namespace Go.Lin
def mix{α:Type}(a b:List α)(i:Nat):List α:=a.take i++b.drop i
theorem a2f{α:Type}{a b:List α}(h:a.length=b.length)(i:Nat):(mix a b i).length=a.length:=by simp[mix];omega
theorem a5C{α:Type}(a b:List α):mix a b 0=b:=by simp[mix]
theorem a5D{α:Type}{a b:List α}{i:Nat}(c:a.length<=i)(d:b.length<=i):mix a b i=a:=by simp[mix,List.take_of_length_le c,List.drop_of_length_le d]
theorem a1W{α:Type}{a b:List α}(h:a.length=b.length)(i q:Nat)(hq:q<(mix a b i).length):(mix a b i)[q]=if q<i then a[q]'(by rw[a2f h]at hq;exact hq)else b[q]'(by rw[a2f h]at hq;omega):=by
 have c:=hq;rw[a2f h]at c;have d:q<(a.take i++b.drop i).length:=hq
 show(a.take i++b.drop i)[q]'d=_
 rw[List.getElem_append];by_cases e:q<i
 ·rw[dif_pos (by simp;omega),if_pos e,List.getElem_take]
 ·rw[dif_neg (by simp;omega),if_neg e,List.getElem_drop]
  congr 1
  simp;omega
theorem a7r{α:Type}{a b:List α}(h:a.length=b.length){i:Nat}(hi:i<a.length):(mix a b i).set i a[i]=mix a b (i+1):=by
 refine List.ext_getElem (by simp[a2f h]) fun q d e=>?_;rw[List.getElem_set];split
 ·subst_vars;rw[a1W h,if_pos (by omega)]
 ·rw[a1W h,a1W h]
  by_cases c:q<i
  ·rw[if_pos c,if_pos (by omega)]
  ·rw[if_neg c,if_neg (by omega)]
theorem b7t{α:Type}{a b:List α}(h:a.length=b.length){i:Nat}(hi:i<b.length):(mix a b i).set i b[i]=mix a b i:=by
 refine List.ext_getElem (by simp) fun q c d=>?_;rw[List.getElem_set];split
 ·subst_vars;rw[a1W h,if_neg (by omega)]
 ·rfl
end Go.Lin
namespace Go.Proofs.YtnnpfhoigmegcaaGreat
open Go.RowKit Go.Rep Go.Lim Go.Lin
theorem a6E(X:Nat->Bool)(w:World)(u:Value)(m:List (List Rat))(n c:Nat)(hX:HX X w)(hu:MV (mk X w) u m)(V:Shp n c m)(hc:a0n m=c)(hn:n<=1000)(e8:c<=1000):Calls Tryz.prog 271 #[u] w (b8S X 26 41 w m):=by
 have t:=a4f X w u m hu;obtain⟨h2,ca,rfl,e7,c2⟩:=hu;have f3:=c2.hd;rw[hc]at t;have H:=hid V.1;have g3:=hid V.2;rw[H.out]at e7 f3 t |-;obtain⟨A,hA⟩:∃A,List.replicate n (List.replicate c (0:Rat))=A:=⟨_,rfl⟩;have p:Hid (A.length=n):=hid (by rw[<-hA];simp);have a4:Hid (∀i (hi:i<A.length),A[i]=List.replicate c (0:Rat)):=hid fun i hi=>by subst hA;simp
 have U:Hid (m.length=A.length):=hid (by rw[H.out,p.out]);have a2:=b3C X w n c hX hn e8;rw[hA]at a2;clear hA V hc;go_enter Tryz.func271,Tryz.ntmps271
 go_wp2_with fail
 refine t.mono ?_;rintro e w1 ⟨rfl,rfl⟩;go_wp2_with fail
 refine a2.mono ?_;rintro e w2 ⟨d4,ao,cap,hs,rfl,D⟩;rw[p.out];have G:=hid (D.len.trans p.out);have h0:n<=cap:=by have:=D.capLen;rw[p.out]at this;exact this
 have b6:Hd ao n:=by have:=D.outer.hd;rw[G.out]at this;exact this
 have b9:Hid (∀i (hi:i<hs.length),hs[i].2.1=c):=hid fun i hi=>by
  have h1:i<A.length:=by rw[p.out,<-G.out];exact hi
  rw[D.rlen i hi h1,a4.out i h1];simp
 clear t a2;go_wp2_with fail
 go_loopw [15] (fun k wr=>∃(i:Nat),k= .int .i64 i/\i<=n/\MO X w1.heap.size 26 41 wr ao cap hs (mix m A i)/\Ext w1 wr) (fun k _=>n - (intOf k).toNat)
 case atStart=>exact⟨0,rfl,Nat.zero_le _,by rw[a5C];exact D,d4⟩
 case round=>
  obtain⟨i,rfl,hi,r,L⟩:=hrel;by_cases T:i<n
  ·have Q:i<m.length:=by rw[H.out];exact T
   have b7:i<A.length:=by rw[p.out];exact T
   have s:i<hs.length:=by rw[G.out];exact T
   obtain⟨a1,c1,h4,b3,F,J⟩:=c2.row i Q;have a3:=b3.out noY wr L rfl;obtain⟨x,hx⟩:∃x,m[i]=x:=⟨_,rfl⟩;obtain⟨z,hz⟩:∃z,A[i]=z:=⟨_,rfl⟩;rw[hx]at a3 F J;have f:Hid (x.length=c):=hid (by rw[<-hx];exact g3.out _ (List.getElem_mem _));have c8:Hid (z.length=c):=hid (by rw[<-hz,a4.out i b7];simp);have K:Hid (x.length=z.length):=hid (by rw[f.out,c8.out]);rw[f.out]at a3 F;have g4:Hid ((mix m A i).set i z=mix m A i):=hid (by rw[<-hz];exact b7t U.out b7);have b5:Hid ((mix m A i).set i x=mix m A (i+1)):=hid (by rw[<-hx];exact a7r U.out Q);have f7:Hid (i<(mix m A i).length):=hid (by rw[a2f U.out];exact Q);have h5:Hd a1 c:=by have:=J.hd;rw[f.out]at this;exact this
   have c0:RV (mk X w1) (.slice a1 c c1) x:=⟨a1,c1,by rw[f.out],by rw[f.out];exact F,J⟩;obtain⟨a,C,cr,P⟩:∃a C cr,hs[i]=(a,C,cr):=⟨_,_,_,rfl⟩;have f9:C=c:=by have:=b9.out i s;rw[P]at this;exact this
   subst f9;have d:=hid P;rw[<-g4.out]at r;have d8:MO X w1.heap.size 26 41 wr ao cap hs ((mix m A i).set i (mix x z 0)):=by rw[a5C];exact r
   clear hx hz b3 J P r;obtain⟨wo,g5⟩:∃wo,wo=wr:=⟨_,rfl⟩;subst g5;go_wp2_with (with_reducible refine a0m a0q (by omega) (by assumption) ?_)
   go_loopw [22] (fun k wr=>∃(j:Nat),k= .int .i64 j/\j<=C/\MO X w1.heap.size 26 41 wr ao cap hs ((mix m A i).set i (mix x z j))/\Ext w1 wr) (fun k _=>C - (intOf k).toNat)
   case atStart=>exact⟨0,rfl,Nat.zero_le _,d8,L⟩
   case round=>
    obtain⟨j,rfl,hj,r,L⟩:=hrel;by_cases S:j<C
    ·have b8:j<x.length:=by rw[f.out];exact S
     have e2:HX X wr:=hX.ext L;have b2:=r.hz e2;have c3:Sl QV 3 (mk (mz X ao hs) wr) a1 x:=by
      obtain⟨_,_,b4,_,h3⟩:=r.old RV.mono c0 L (Nat.le_refl _) (fun _ _ h=>h);simp only[Value.slice.injEq]at b4;obtain⟨rfl,_,rfl⟩:=b4;exact h3
     have f8:Hid (i<((mix m A i).set i (mix x z j)).length):=hid (by rw[List.length_set];exact f7.out);have R:Hid ((mix x z j).length=C):=hid (by rw[a2f K.out,f.out]);have B:=r.row i s f8.out;rw[List.getElem_set_self]at B;simp only[d.out]at B;have e9:Hd a C:=by have:=B.hd;rw[R.out]at this;exact this
     have c7:Hid (un (cut (mz X ao hs) a) a=mz X ao hs):=hid (a9G fun k hk=>by have:=r.mz_sub s k;rw[d.out]at this;exact this hk);have O:Hid (ob a (adr ao i).block=false):=hid (by
      cases hb:ob a (adr ao i).block
      ·rfl
      ·have h1:=(r.sep i s (adr ao i).block (by rw[d.out];exact hb)).2
       obtain⟨b0,o0,rfl⟩:=b6 (by omega);simp[ob,adr]at h1)
     have E:Hid (ob a wr.heap.size=false):=hid (B.ob_ge (Nat.le_refl _));obtain⟨g,o,hg⟩:∃g o,adr a (j*3)=⟨g,o,none⟩:=⟨_,_,rfl⟩;have i2:∀W,(Instr.indexAt 25 (.slice ao n cap) (.int .i64 (i:Int))).run Tryz.prog W= .ok (.pointer (some (adr ao i))) W:=a0E a0q ao n cap .i64 i b6 (by omega) rfl;have i3:∀W,(Instr.indexAt 26 (.slice a C cr) (.int .i64 (j:Int))).run Tryz.prog W= .ok (.pointer (some ⟨g,o,none⟩)) W:=by rw[<-hg];exact a0j a0J a C cr .i64 j e9 (by omega)
     have bx:=Bx.new wr #[.bool false, .slice none 0 0, .slice none 0 0] 41;obtain⟨Z,hZ⟩:∃Z,mz X ao hs=Z:=⟨_,rfl⟩;have e3:=hid hZ;rw[hZ]at b2 c3 B c7;have f6:Hid ((mix x z j).set j x[j]=mix x z (j+1)):=hid (a7r K.out b8);have N:Hid (x[j]+0=x[j]):=hid (Rat.add_zero _);have v:=(r.hdr i s).1;rw[d.out]at v
     dsimp only at v
     clear hZ a3;go_wp2_with (first|(with_reducible refine a1D a0J (by omega) (by assumption) ?_)|((with_reducible show wpList _ _ _ (⟨_, .load _ _,_,_,_,_⟩::_) _ _);refine a0W a0k j c3 b8 rfl (by simp) QV.agg ?_;intro u5 c4;obtain⟨s5,a5,n5,c5,d5,k5,e5,rfl⟩:=c4.shape)|((with_reducible show wpList _ _ _ (⟨_, .store _ _ _,_,_,_,_⟩::_) _ _);refine a0a a0k rfl rfl bx rfl rfl (a1n _ _ _ _ _ _ _) ?_;intro I r1 r2))
     have y:Ext wr I:=ExtX.box ((ExtX.refl wr).alloc _) r2 (Nat.le_refl _);have q:Ext I I.drew:=(ExtX.refl I).drew;have d9:=r.ext0 y;have e0:=B.ext0 QC.elem y;have g6:QV (mk Z I.drew) (.agg #[.bool s5, .slice a5 n5 c5, .slice d5 k5 e5]) x[j]:=mkx QV.mono c4 (y.trans q);have d3:QV (mk Z I.drew) (.agg #[.bool false, .slice none 0 0, .slice none 0 0]) 0:=(QC.zero _).qv (by rw[a1r];decide);have e1:HX Z I.drew:=b2.ext (y.trans q);have hS:Hid (∀Y W',ExtX Y I.drew W'->Y (adr ao i).block=false->Y wr.heap.size=false->W'.cell? (adr ao i)=some (.slice a C cr)/\W'.cell? ⟨wr.heap.size,0,none⟩=some (.bool s5)/\W'.cell? ⟨wr.heap.size,1,none⟩=some (.slice a5 n5 c5)/\W'.cell? ⟨wr.heap.size,2,none⟩=some (.slice d5 k5 e5)):=hid fun Y W' h g7 g8=>by
      have b1:=(r1.ext0 q).ext h g8;exact⟨h.cellY ((y.trans q).cell v) g7,b1.cell 0 rfl,b1.cell 1 rfl,b1.cell 2 rfl⟩
     obtain⟨g9,c9,d0,d1⟩:=hS.out noY I.drew (ExtX.refl _) rfl rfl;obtain⟨bw,e4⟩:∃bw,wr.heap.size=bw:=⟨_,rfl⟩;rw[e4]at hS c9 d0 d1 E |-;clear v r1 bx;go_wp2_with fail
     go_region_held3 (fun w'=>w'.cell? (adr ao i)=some (.slice a C cr)/\w'.cell? ⟨bw,0,none⟩=some (.bool s5)/\w'.cell? ⟨bw,1,none⟩=some (.slice a5 n5 c5)/\w'.cell? ⟨bw,2,none⟩=some (.slice d5 k5 e5))
      (first|exact hS.out noY _ t1 rfl rfl|exact hS.out (ob a) _ ((ExtX.of t1).trans M.2) O.out E.out|go_keep)
      ((go_at_call 182;(with_reducible refine(b6S Z I.drew _ _ _ 0 e1 g6 d3).mono ?_);rintro ee w6 ⟨t1,u6,rfl,a0⟩;obtain⟨s6,a6,n6,c6,d6,k6,e6,rfl⟩:=a0.shape;rw[N.out]at a0;have a9:=e0.ext0 QC.elem (q.trans t1);obtain⟨_,v0,v1,v2,_,⟨g0,f0⟩,⟨g1,f1⟩,⟨g2,f2⟩,_⟩:=a9.cell3 j (by rw[R.out];exact S) hg;have M:=a9.set3 a4V QC.elem j (by rw[R.out];exact S) hg (v0:= .bool s6) (v1:= .slice a6 n6 c6) (v2:= .slice d6 k6 e6) (x:=x[j]) (by rw[c7.out];exact a0)))
     obtain⟨q1,q2⟩:=M;rw[f6.out]at q1;have d2:ExtX (ob hs[i].1) w6 (((w6.setCell ⟨g,o,none⟩ (.bool s6)).setCell ⟨g,o+1,none⟩ (.slice a6 n6 c6)).setCell ⟨g,o+2,none⟩ (.slice d6 k6 e6)):=by rw[d.out];exact q2
     have a7:=d9.ext0 (q.trans t1);have a8:=a7.upd s (l:=mix x z (j+1)) d2 (fun h6=>by rw[List.getElem_set_self,a2f K.out,a2f K.out]) (by rw[e3.out,d.out];exact q1);rw[List.set_set]at a8;have d7:=a7.ext_from ((L.trans y).trans (q.trans t1)) (Nat.le_refl _) (ExtX.row s d2);clear g9 c9 d0 d1 g0 g1 g2 f0 f1 f2 i2 i3;go_wp2_with fail
     go_roundw
     case rel=>exact⟨j+1,by go_num,by omega,a8,d7⟩
     case measure=>simp[intOf];omega
    ·have f5:j=C:=by omega
     subst f5;rw[a5D (a:=x) (b:=z) (by rw[f.out];exact Nat.le_refl _) (by rw[c8.out];exact Nat.le_refl _),b5.out]at r;go_wp2_with fail
     go_roundw
     case rel=>exact⟨i+1,by go_num,by omega,r,L⟩
     case measure=>simp[intOf];omega
  ·have f4:i=n:=by omega
   subst f4;rw[a5D (by rw[H.out];exact Nat.le_refl _) (by rw[p.out];exact Nat.le_refl _)]at r;go_wp2_with fail
   go_ret
   exact⟨L,ao,cap,hs,by rw[H.out];rfl,r⟩
end Go.Proofs.YtnnpfhoigmegcaaGreat
namespace Go.Rep
open Go.RowKit Go.Lim
section
variable {P:Program} {ops:Array Oper} {Q:Exit->Act->World->Prop} {rest:List Oper} {a:Act} {w:World}
variable {α:Type} {R:Mem->Value->α->Prop} {sz:Nat} {X:Nat->Bool} {base:Nat} {e:TypeId} {ao:Option Addr} {cap:Nat} {l:List α}
variable {d:Option Tmp} {ty:TypeId} {ps:String} {af:Array Edge}
theorem a5X{t:TypeId}{x:Operand}{k:Nat}(E:a2e P t sz)(i:Nat)(h:OL R sz X base e w ao cap l)(hi:i<l.length)(hx:a.eval x= .pointer (some (adr ao k)))(F:k=i*sz)(p:∀h u y,R h u y->∃f,u= .agg f)(K:∀u,R (mk (un X ao) w) u l[i]->wpList P ops Q rest (a.put d u) w):wpList P ops Q (⟨d, .load t x,ty,ps,af,none⟩::rest) a w:=by
 refine wpList_plain rfl fun I o=>?_;subst F;obtain⟨J,ti,B,C,D⟩:=E;obtain⟨us,L,A,_,G,H⟩:=h.cells;have g:i<us.length:=by omega
 have n:=H i g hi;obtain⟨f,c⟩:=p _ _ _ n;have m:f.toList.length=sz:=by have:=A us[i] (List.getElem_mem _);rw[c]at this;simpa[Value.cells]using this
 have z:=run_loadCells_list (P:=P) w (adr ao (i*sz)) f.toList (fun j v s=>by
  rw[a7c];have q:j<sz:=by rw[<-m];exact(List.getElem?_eq_some_iff.1 s).1
  have b:=a2x us i j g A q;rw[c]at b;have r:(a0g (.agg f))[j]? =some v:=by simpa[a0g,Value.cells]using s
  rw[r]at b;exact(G _ _ b).1)
 rw[m]at z;unfold Oper.wp;simp[execOp,hx,Instr.loadAt,Instr.sureAddr,loadVar,isAgg,run_underlying B,sizeOf,typeInfo,C,D,z,Result.andThen];rw[c]at n;exact o _ _ (K _ n)
end
theorem OL.rat{R:Mem->Value->Rat->Prop}(x:a9D R){X:Nat->Bool}{base:Nat}{e:TypeId}{w:World}{ao:Option Addr}{cap:Nat}{l:List Rat}(h:OL R 3 X base e w ao cap l)(i:Nat)(hi:i<l.length):∃g o sg a n c d k e,adr ao (i*3)=⟨g,o,none⟩/\ob ao g=true/\Hid (∀Y W',ExtX Y w W'->Y g=false->W'.cell? ⟨g,o,none⟩=some (.bool sg)/\W'.cell? ⟨g,o+1,none⟩=some (.slice a n c)/\W'.cell? ⟨g,o+2,none⟩=some (.slice d k e))/\R (mk (un X ao) w) (.agg #[.bool sg, .slice a n c, .slice d k e]) l[i]:=by
 obtain⟨r,y,b⟩:=h.hd (by omega);have p:adr ao (i*3)=⟨r,y+i*3,none⟩:=by rw[b];rfl
 obtain⟨u,v0,v1,v2,q,⟨s,_⟩,⟨t,_⟩,⟨v,_⟩,m⟩:=h.cell3 i hi p;obtain⟨sg,a,n,c,d,k,e,rfl⟩:=x _ _ _ m;simp only[a0g,Value.cells,List.cons.injEq,and_true]at q;obtain⟨rfl,rfl,rfl⟩:=q;exact⟨_,_,sg,a,n,c,d,k,e,p,by rw[b];simp[ob],hid fun Y W' f j=>⟨f.cellY s j,f.cellY t j,f.cellY v j⟩,m⟩
end Go.Rep
namespace Go.Proofs.YtnnpfhoigmegcaaGreat
open Go.RowKit Go.Rep Go.Lim Go.Lin
def b5X(X:Nat->Bool)(w:World)(m:List (List Rat))(e:Ending)(w':World):Prop:=Ext w w'/\∃u,e= .returned (.tuple #[u, .int .i64 0])/\MC (mk X w') u m
end Go.Proofs.YtnnpfhoigmegcaaGreat
namespace Go.Lin
open Go.Lim
theorem a5Y{B:Nat}{m:Mat}(h:Go.Rep.BM B m)(a:1<=B):HB B m:=fun i j=>by
 unfold ent;by_cases hi:i<m.length
 ·have e:m.getD i []=m[i]:=by simp[List.getD_eq_getElem?_getD,hi]
  rw[e];by_cases b:j<(m[i]).length
  ·have:=h m[i] (List.getElem_mem _) (m[i])[j] (List.getElem_mem _)
   simpa[List.getD_eq_getElem?_getD,b]using this
  ·rw[List.getD_eq_getElem?_getD,List.getElem?_eq_none (by omega)]
   show hq 0<=B
   rw[a1r];exact a
 ·rw[List.getD_eq_getElem?_getD (l:=m),List.getElem?_eq_none (by omega)]
  show hq 0<=B
  rw[a1r];exact a
theorem b1G{B:Nat}{m:Mat}(h:HB B m):Go.Rep.BM B m:=fun r b q hq=>by
 obtain⟨i,hi,rfl⟩:=List.getElem_of_mem b;obtain⟨j,a,rfl⟩:=List.getElem_of_mem hq;have:=h i j;simpa[ent,List.getD_eq_getElem?_getD,hi,a]using this
end Go.Lin
namespace Go.Proofs.YtnnpfhoigmegcaaGreat
open Go.RowKit Go.Rep Go.Lim Go.Lin
end Go.Proofs.YtnnpfhoigmegcaaGreat
namespace Go.Lin
open Go.Lim
end Go.Lin
namespace Go.Proofs.YtnnpfhoigmegcaaGreat
open Go.RowKit Go.Rep Go.Lim Go.Lin
def b9f(Z:Nat->Bool)(base:Nat)(e:TypeId)(w:World)(a:Option Addr)(cap:Nat)(l:List Rat)(ee:Ending)(w':World):Prop:=ee= .returned (.tuple #[])/\ExtX (ob a) w w'/\OL QC 3 (cut Z a) base e w' a cap l
theorem a4G(Z:Nat->Bool)(base:Nat)(w:World)(l H:Option Addr)(c1 c2 n col:Nat)(row b:List Rat)(hX:HX Z w)(h1:OL QC 3 (cut Z l) base 41 w l c1 row)(h2:OL QC 3 (cut Z H) base 41 w H c2 b)(f4:∀k,ob l k=true->Z k=true)(n8:∀k,ob H k=true->Z k=true)(c3:∀k,ob l k=true->ob H k=false)(a4:row.length=n)(a8:b.length=n)(hn:n<=1000)(c0:col<n)(g7:BR 68719476736 row)(g8:BR 68719476736 b)(c8:hq (row.getD col 0/b.getD col 0)<=68719476736)(c9:∀x∈b,hq (row.getD col 0/b.getD col 0*x)<=68719476736):Calls Tryz.prog 321 #[.slice l n c1, .slice H n c2, .int .i64 (col:Int)] w (b9f Z base 41 w l c1 (a2H row b col)):=by
 have e3:=hid (a9G f4);have j5:=hid (a9G n8);have l6:∀k,ob H k=true->ob l k=false:=fun k B=>by
  cases hb:ob l k
  ·rfl
  ·rw[c3 k hb]at B;simp at B
 have h8:Hd l n:=by have:=h1.hd;rw[a4]at this;exact this
 have l5:Hd H n:=by have:=h2.hd;rw[a8]at this;exact this
 have b2:col<row.length:=by omega
 have b3:col<b.length:=by omega
 have g1:Hid (row.getD col 0=row[col]):=hid (by simp[List.getD_eq_getElem?_getD,b2]);have g2:Hid (b.getD col 0=b[col]):=hid (by simp[List.getD_eq_getElem?_getD,b3]);obtain⟨E,U⟩:∃E,a2H row b col=E:=⟨_,rfl⟩;have V:Hid (E.length=n):=hid (by rw[<-U,a3q _ _ _ (by omega)];exact a8);have f9:Hid (∀j (hj:j<row.length) (l8:j<b.length) (l9:j<E.length),E[j]=row[j] - (row.getD col 0/b.getD col 0)*b[j]):=hid fun j hj l8 l9=>by subst U;simp[a2H]
 have f7:Hid (row.getD col 0/b.getD col 0=0->E=row):=hid fun h=>by rw[<-U];exact b0m _ _ _ (by omega) h
 have e0:Hid (E.length=row.length):=hid (by rw[V.out,a4]);have c4:=hid a4;have i9:=hid a8;have b0:=hid g7;have b1:=hid g8;obtain⟨f,hf⟩:∃f,row.getD col 0/b.getD col 0=f:=⟨_,rfl⟩;rw[hf]at c8 f7 f9 c9;have g9:=hid c8;have h3:=hid c9;have i3:Hid (row[col]/b[col]=f):=hid (by rw[<-g1.out,<-g2.out];exact hf);rw[U];obtain⟨m,t,s1,p1,n1,q1,d1,k1,e1,i4,o4,b4,d8⟩:=h1.rat QC.shaped col b2;obtain⟨o,u,s2,p2,n2,q2,d2,k2,e2,i5,o5,b9,d9⟩:=h2.rat QC.shaped col b3;rw[e3.out]at d8;rw[j5.out]at d9;have i1:∀W,(Instr.indexAt 26 (.slice l n c1) (.int .i64 (col:Int))).run Tryz.prog W= .ok (.pointer (some ⟨m,t,none⟩)) W:=by rw[<-i4];exact a0j a0J l n c1 .i64 col h8 c0
 have i2:∀W,(Instr.indexAt 26 (.slice H n c2) (.int .i64 (col:Int))).run Tryz.prog W= .ok (.pointer (some ⟨o,u,none⟩)) W:=by rw[<-i5];exact a0j a0J H n c2 .i64 col l5 c0
 have p:Ext w w.drew:=(ExtX.refl w).drew;have L:Hid (∀Y W',ExtX Y w.drew W'->Y m=false->Y o=false->W'.cell? ⟨m,t,none⟩=some (.bool s1)/\W'.cell? ⟨m,t+1,none⟩=some (.slice p1 n1 q1)/\W'.cell? ⟨m,t+2,none⟩=some (.slice d1 k1 e1)/\W'.cell? ⟨o,u,none⟩=some (.bool s2)/\W'.cell? ⟨o,u+1,none⟩=some (.slice p2 n2 q2)/\W'.cell? ⟨o,u+2,none⟩=some (.slice d2 k2 e2)):=hid fun Y W' h e9 f3=>by
  have z1:=b4.out Y W' ((ExtX.of p).trans h) e9;have z2:=b9.out Y W' ((ExtX.of p).trans h) f3;exact⟨z1.1,z1.2.1,z1.2.2,z2.1,z2.2.1,z2.2.2⟩
 obtain⟨D,O,P,F,Q,R⟩:=L.out noY w.drew (ExtX.refl _) rfl rfl;have o2:m<w.heap.size:=a4R D;have o3:o<w.heap.size:=a4R F;have a0:HX Z w.drew:=hX;have j6:QV (mk Z w.drew) (.agg #[.bool s1, .slice p1 n1 q1, .slice d1 k1 e1]) row[col]:=d8.qv (b0.out _ (List.getElem_mem _));have j7:QV (mk Z w.drew) (.agg #[.bool s2, .slice p2 n2 q2, .slice d2 k2 e2]) b[col]:=d9.qv (b1.out _ (List.getElem_mem _));obtain⟨ec,d3⟩:∃ec,e5 (decide (b[col]=0))=ec:=⟨_,rfl⟩;have qd:=b8b Z w.drew _ _ _ _ a0 j6 j7;rw[d3,i3.out]at qd;have J:Ext w.drew (w.alloc (.cells #[.bool false, .slice none 0 0, .slice none 0 0] 41)).drew:=⟨rfl,rfl,rfl,((ExtX.refl (Y:=noY) w).alloc _).size,((ExtX.refl (Y:=noY) w).alloc _).block⟩;have bA:Bx (w.alloc (.cells #[.bool false, .slice none 0 0, .slice none 0 0] 41)).drew w.heap.size #[.bool false, .slice none 0 0, .slice none 0 0] 41:=Bx.new w _ _;have z:Ext w (w.alloc (.cells #[.bool false, .slice none 0 0, .slice none 0 0] 41)).drew:=p.trans J;have l2:HX (un Z (some ⟨w.heap.size,0,none⟩)) (w.alloc (.cells #[.bool false, .slice none 0 0, .slice none 0 0] 41)).drew:=fun k B=>by
  have h9:(w.alloc (.cells #[.bool false, .slice none 0 0, .slice none 0 0] 41)).drew.heap.size=w.heap.size+1:=by show(w.alloc _).heap.size=_;simp
  rw[h9];by_cases hz:Z k=true
  ·have:=hX k hz;omega
  ·have:w.heap.size=k:=by simpa[un,hz,ob]using B
   omega
 have M:∀j,j<w.heap.size->ob (some ⟨w.heap.size,0,none⟩) j=false:=fun j hj=>a0c (by omega);have f5:=b8b (un Z (some ⟨w.heap.size,0,none⟩)) (w.alloc (.cells #[.bool false, .slice none 0 0, .slice none 0 0] 41)).drew _ _ _ _ l2 (a7R (w:=w) QV.mono j6 z M) (a7R (w:=w) QV.mono j7 z M);rw[d3,i3.out]at f5;clear i4 i5 b4 b9 d8 d9 hf U a4 a8 g7 g8 c8 c9 d3;go_enter Tryz.func321,Tryz.ntmps321
 go_upto_region 0 with(fail)
 go_cut [6,7]from 10 to 21 (fun b6 _ wx=>∃I s a n' c d k e,b6= .pointer (some ⟨I,0,none⟩)/\Bx wx I #[.bool s, .slice a n' c, .slice d k e] 41/\w.heap.size<=I/\QC (mk Z wx) (.agg #[.bool s, .slice a n' c, .slice d k e]) f/\Ext w wx)
 case first=>
  go_region_held3 (fun w'=>w'.cell? ⟨m,t,none⟩=some (.bool s1)/\w'.cell? ⟨m,t+1,none⟩=some (.slice p1 n1 q1)/\w'.cell? ⟨m,t+2,none⟩=some (.slice d1 k1 e1)/\w'.cell? ⟨o,u,none⟩=some (.bool s2)/\w'.cell? ⟨o,u+1,none⟩=some (.slice p2 n2 q2)/\w'.cell? ⟨o,u+2,none⟩=some (.slice d2 k2 e2))
   (first|exact L.out noY _ G rfl rfl|exact L.out noY _ (ExtX.alloc G _) rfl rfl|exact L.out noY _ J rfl rfl|exact L.out noY _ (J.trans T) rfl rfl|exact L.out (ob (some ⟨w.heap.size,0,none⟩)) _ ((ExtX.of (J.trans T)).trans C.2) (a0c (by omega)) (a0c (by omega))|exact L.out (ob (some ⟨w6.heap.size,0,none⟩)) _ ((ExtX.of (G.alloc _)).trans C.2) (a0c (by have:=G.size;have h9:w.drew.heap.size=w.heap.size:=rfl;omega)) (a0c (by have:=G.size;have h9:w.drew.heap.size=w.heap.size:=rfl;omega))|go_keep)
   (first|(go_at_call 236;(with_reducible refine qd.mono ?_);rintro ee w6 ⟨G,u6,rfl,q⟩;obtain⟨s6,a6,n6,c6,d6,k6,e6,rfl⟩:=q.shape;have C:=(Bx.new w6 #[.bool false, .slice none 0 0, .slice none 0 0] 41).set3 (.bool s6) (.slice a6 n6 c6) (.slice d6 k6 e6))|(go_at_call 236;(with_reducible refine f5.mono ?_);rintro ee w6 ⟨T,u6,rfl,q⟩;obtain⟨s6,a6,n6,c6,d6,k6,e6,rfl⟩:=q.shape;have bb:=bA.ext0 T;have y0:=bb.cell 0 rfl;have y1:=bb.cell 1 rfl;have y2:=bb.cell 2 rfl;have z0:=bb.frozen 0;have z1:=bb.frozen 1;have z2:=bb.frozen 2;have C:=bb.set3 (.bool s6) (.slice a6 n6 c6) (.slice d6 k6 e6)))
  ·clear D O P F Q R
   go_wp2_with fail
   go_meet
   case rel=>exact⟨w6.heap.size,_,_,_,_,_,_,_,rfl,Bx.new w6 _ _,(p.trans G).size,QC.mono _ _ _ _ (a0l ((ExtX.refl w6).alloc _)) q,(p.trans G).alloc _⟩
  ·have m6:=QC.mono _ _ _ _ (a1N (X:=Z) fun k _ B=>a0o B) (QC.mono _ _ _ _ (a0r C.2 fun k B=>a0t B) q)
   have i:Ext w _:=ExtX.box (z.trans T) C.2 (Nat.le_refl _);clear D O P F Q R y0 y1 y2 z0 z1 z2;go_wp2_with fail
   go_meet
   case rel=>exact⟨w.heap.size,_,_,_,_,_,_,_,rfl,C.1,Nat.le_refl _,m6,i⟩
 case rest=>
  obtain⟨I,sf,af,nf,cf,df,kf,ef,rfl,b6,o8,m7,K⟩:=hcut;clear D O P F Q R i1 i2 qd f5 L bA J z;have g6:=hX.ext K;have f6:=h1.ext0 QC.elem K;have k0:=h2.ext0 QC.elem K;have f0:=b6.cell 0 rfl;have f1:=b6.cell 1 rfl;have f2:=b6.cell 2 rfl;have d4:=m7.qv g9.out;by_cases h0:f=0
  ·have hr:=hid (f7.out h0)
   have j3:Hid (f.num.sign=0):=hid (by rw[h0];rfl);clear h0;go_wp2_with fail
   refine(a8H Z wc _ f g6 d4).mono ?_;rintro e w7 ⟨i,rfl⟩;rw[j3.out];clear f0 f1 f2;go_wp2_with fail
   refine bodyPost_ret (results_none rfl _ _ _) rfl ?_;exact⟨rfl,ExtX.of (K.trans i),by rw[hr.out];exact f6.ext0 QC.elem i⟩
  ·have j3:((f.num.sign:Int)==0)=false:=a2v (by intro h;exact h0 (Rat.num_eq_zero.1 (Int.sign_eq_zero_iff_zero.1 h)))
   clear h0;go_wp2_with fail
   refine(a8H Z wc _ f g6 d4).mono ?_;rintro e w7 ⟨i,rfl⟩;have b7:=b6.ext0 i;have N:=mkx QV.mono d4 i;have f8:=K.trans i;have j8:=f6.ext0 QC.elem i;have j9:=k0.ext0 QC.elem i;clear f0 f1 f2 b6;go_wp2_with fail
   go_loopw [27] (fun k wr=>∃(j:Nat),k= .int .i64 j/\j<=n/\OL QC 3 (cut Z l) base 41 wr l c1 (mix E row j)/\OL QC 3 (cut Z H) base 41 wr H c2 b/\Bx wr I #[.bool sf, .slice af nf cf, .slice df kf ef] 41/\QV (mk Z wr) (.agg #[.bool sf, .slice af nf cf, .slice df kf ef]) f/\ExtX (ob l) w wr) (fun k _=>n - (intOf k).toNat)
   case atStart=>exact⟨0,rfl,Nat.zero_le _,by rw[a5C];exact j8,j9,b7,N,ExtX.of f8⟩
   case round=>
    obtain⟨j,rfl,hj,A,g4,b7,N,U⟩:=hrel;have l3:=hX.ext U;by_cases a9:j<n
    ·have m4:j<row.length:=by rw[c4.out];exact a9
     have i7:j<b.length:=by rw[i9.out];exact a9
     have i6:j<E.length:=by rw[V.out];exact a9
     have j1:Hid ((mix E row j).length=n):=hid (by rw[a2f e0.out,V.out]);have a3:j<(mix E row j).length:=by rw[j1.out];exact a9
     have j0:Hid ((mix E row j)[j]=row[j]):=hid (by rw[a1W e0.out,if_neg (by omega)]);have i8:Hid ((mix E row j).set j E[j]=mix E row (j+1)):=hid (a7r e0.out i6);have g3:Hid (row[j] - f*b[j]=E[j]):=hid (f9.out j m4 i7 i6).symm;have h5:=hid (b1.out b[j] (List.getElem_mem _));have h6:=hid (b0.out row[j] (List.getElem_mem _));have h4:=hid (h3.out b[j] (List.getElem_mem _));obtain⟨x,hx⟩:∃x,b[j]=x:=⟨_,rfl⟩;obtain⟨y,hy⟩:∃y,row[j]=y:=⟨_,rfl⟩;obtain⟨v,hv⟩:∃v,E[j]=v:=⟨_,rfl⟩;obtain⟨r,hr⟩:∃r,mix E row j=r:=⟨_,rfl⟩;obtain⟨gg,oo,sg,ap,np,cp,dp,kp,ep,hg,o9,h7,j2⟩:=A.rat QC.shaped j a3;rw[j0.out,hy,e3.out]at j2;rw[hx,hy,hv]at g3;rw[hx]at h5 h4;rw[hy]at h6;rw[hv,hr]at i8;rw[hr]at A a3 j1;have m9:=hid hx;have i1:∀W,(Instr.indexAt 26 (.slice l n c1) (.int .i64 (j:Int))).run Tryz.prog W= .ok (.pointer (some ⟨gg,oo,none⟩)) W:=by rw[<-hg];exact a0j a0J l n c1 .i64 j h8 (by omega)
     have bx:=Bx.new wr #[.bool false, .slice none 0 0, .slice none 0 0] 41;clear hx hy hv hr j0;go_wp2_with (first|(with_reducible refine a1D a0J (by omega) (by assumption) ?_)|((with_reducible show wpList _ _ _ (⟨_, .load _ _,_,_,_,_⟩::_) _ _);refine a5X a0k j g4 i7 rfl (by simp) QC.agg ?_;intro u5 e4;rw[m9.out,j5.out]at e4;obtain⟨s5,a5,n5,c5,d5,k5,e5,rfl⟩:=e4.shape)|((with_reducible show wpList _ _ _ (⟨_, .store _ _ _,_,_,_,_⟩::_) _ _);refine a0a a0k rfl rfl bx rfl rfl (a1n _ _ _ _ _ _ _) ?_;intro S r1 r2))
     have k3:Ext wr S:=ExtX.box ((ExtX.refl wr).alloc _) r2 (Nat.le_refl _);have p:Ext S S.drew:=(ExtX.refl S).drew;have g:=k3.trans p;have k8:=A.ext0 QC.elem g;have k9:=g4.ext0 QC.elem g;have b5:=b7.ext0 g;have m8:QV (mk Z S.drew) (.agg #[.bool s5, .slice a5 n5 c5, .slice d5 k5 e5]) x:=(mkx QC.mono e4 g).qv h5.out;have n3:QV (mk Z S.drew) (.agg #[.bool sg, .slice ap np cp, .slice dp kp ep]) y:=(mkx QC.mono j2 g).qv h6.out;have i0:QV (mk Z S.drew) (.agg #[.bool sf, .slice af nf cf, .slice df kf ef]) f:=mkx QV.mono N g;have a0:HX Z S.drew:=l3.ext g;obtain⟨bw,d0⟩:∃bw,wr.heap.size=bw:=⟨_,rfl⟩;have o7:Hid (ob l bw=false):=hid (by rw[<-d0];exact A.ob_ge (Nat.le_refl _));have l4:Hid (ob l I=false):=hid (by
      cases hb:ob l I
      ·rfl
      ·have:=(h1.block hb).2;omega)
     rw[d0]at r1;have L:Hid (∀Y W',ExtX Y S.drew W'->Y gg=false->Y I=false->Y bw=false->W'.cell? ⟨gg,oo,none⟩=some (.bool sg)/\W'.cell? ⟨gg,oo+1,none⟩=some (.slice ap np cp)/\W'.cell? ⟨gg,oo+2,none⟩=some (.slice dp kp ep)/\W'.cell? ⟨I,0,none⟩=some (.bool sf)/\W'.cell? ⟨I,1,none⟩=some (.slice af nf cf)/\W'.cell? ⟨I,2,none⟩=some (.slice df kf ef)/\W'.cell? ⟨bw,0,none⟩=some (.bool s5)/\W'.cell? ⟨bw,1,none⟩=some (.slice a5 n5 c5)/\W'.cell? ⟨bw,2,none⟩=some (.slice d5 k5 e5)):=hid fun Y W' h e9 f3 n0=>by
      have z1:=h7.out Y W' ((ExtX.of g).trans h) e9;have z2:=b5.ext h f3;have z3:=(r1.ext0 p).ext h n0;exact⟨z1.1,z1.2.1,z1.2.2,z2.cell 0 rfl,z2.cell 1 rfl,z2.cell 2 rfl,z3.cell 0 rfl,z3.cell 1 rfl,z3.cell 2 rfl⟩
     obtain⟨D,O,P,F,Q,R,n9,o0,o1⟩:=L.out noY S.drew (ExtX.refl _) rfl rfl rfl;have o6:=r1.ext0 p;clear r1 bx h7;rw[d0];go_wp2_with fail
     go_region_with (first|(go_at_call 151;(with_reducible refine(b8R Z S.drew _ _ _ _ a0 i0 m8).mono ?_);rintro ee w6 ⟨G,u6,rfl,q⟩;obtain⟨s6,a6,n6,c6,d6,k6,e6,rfl⟩:=q.shape;have l1:=a0.ext G;have n4:=mkx QV.mono n3 G;have m5:=q.qv h4.out;obtain⟨m0,m1,m2,_⟩:=L.out noY w6 G rfl rfl rfl)|(go_at_call 153;(with_reducible refine(b9e Z w6 _ _ _ _ l1 n4 m5).mono ?_);rintro ee w7 ⟨t7,u7,rfl,e8⟩;obtain⟨s7,a7,n7,c7,d7,k7,e7,rfl⟩:=e8.shape;rw[g3.out]at e8;have T:=G.trans t7;have g5:=k8.ext0 QC.elem T;obtain⟨_,v0,v1,v2,_,⟨g0,f0⟩,⟨g1,f1⟩,⟨g2,f2⟩,_⟩:=g5.cell3 j a3 hg;have j4:=g5.set3 a4V QC.elem j a3 hg (v0:= .bool s7) (v1:= .slice a7 n7 c7) (v2:= .slice d7 k7 e7) (x:=v) (by rw[e3.out];exact e8)))
     all_goals
      obtain⟨q1,q2⟩:=j4;rw[i8.out]at q1;have l0:=(k9.ext0 QC.elem T).ext QC.elem q2 (fun k _ B=>a5t (f4 k B) (c3 k B)) (fun _ _ B=>B);have b8:=(b5.ext0 T).ext q2 l4.out;have l7:QV (mk Z _) _ _:=QV.mono _ _ _ _ (a0r q2 f4) (mkx QV.mono i0 T);have k4:=(U.trans (ExtX.of (g.trans T))).trans q2;clear D O P F Q R n9 o0 o1 m0 m1 m2 g0 g1 g2 f0 f1 f2 i1;go_wp2_with fail
      go_roundw
      case rel=>exact⟨j+1,by go_num,by omega,q1,l0,b8,l7,k4⟩
      case measure=>simp[intOf];omega
    ·have m3:j=n:=by omega
     subst m3;rw[a5D (by rw[V.out];exact Nat.le_refl _) (by rw[c4.out];exact Nat.le_refl _)]at A;go_wp2_with fail
     go_end0
     exact⟨rfl,U,A⟩
end Go.Proofs.YtnnpfhoigmegcaaGreat
namespace Go.Lin
def b8s:Option Nat->Int
 |none=> -1
 |some k=>k
end Go.Lin
namespace Go.Proofs.YtnnpfhoigmegcaaGreat
open Go.RowKit Go.Rep Go.Lim Go.Lin
theorem a8I(X:Nat->Bool)(w:World)(a:Option Addr)(l:List Rat)(n c col b:Nat)(q:HX X w)(hs:Sl QC 3 (mk X w) a l)(s:l.length=n)(r:col<n)(p:BR 68719476736 l)(E:w.cell? ⟨b,0,none⟩=some (.int .i64 (col:Int))):Calls Tryz.prog 320 #[.slice a n c, .pointer (some ⟨b,0,none⟩)] w (a8n w (decide (l.getD col 0≠0))):=by
 have F:Hd a n:=by have:=hs.hd;rw[s]at this;exact this
 have g:col<l.length:=by omega
 have k:=hs.qv p;obtain⟨x,hx⟩:∃x,l[col]=x:=⟨_,rfl⟩;have y:Hid (l.getD col 0=x):=hid (by simp[List.getD_eq_getElem?_getD,g,hx]);have m:=hid hx;clear s p hx;rw[y.out];by_cases j:x=0
 ·have o:Hid (decide (x≠0)=false):=hid (by simp[j])
  have i:Hid (x.num.sign=0):=hid (by rw[j];rfl);rw[o.out];clear j;go_enter Tryz.func320,Tryz.ntmps320
  go_wp2_with (first|(with_reducible refine a1D a0J (by omega) (by assumption) ?_)|((with_reducible show wpList _ _ _ (⟨_, .load 41 _,_,_,_,_⟩::_) _ _);refine a0W a0k col k g rfl (by simp) QV.agg ?_;intro C d;rw[m.out]at d;obtain⟨B,t,A,u,v,z,e5,rfl⟩:=d.shape))
  refine(a8H X w _ x q d).mono ?_;rintro e D ⟨f,rfl⟩;rw[i.out];go_wp2_with fail
  go_ret
  exact⟨f,rfl⟩
 ·have o:Hid (decide (x≠0)=true):=hid (by simp[j])
  have i:((x.num.sign:Int) !=0)=true:=a7B (by intro h;exact j (Rat.num_eq_zero.1 (Int.sign_eq_zero_iff_zero.1 h)));rw[o.out];clear j;go_enter Tryz.func320,Tryz.ntmps320
  go_wp2_with (first|(with_reducible refine a1D a0J (by omega) (by assumption) ?_)|((with_reducible show wpList _ _ _ (⟨_, .load 41 _,_,_,_,_⟩::_) _ _);refine a0W a0k col k g rfl (by simp) QV.agg ?_;intro C d;rw[m.out]at d;obtain⟨B,t,A,u,v,z,e5,rfl⟩:=d.shape))
  refine(a8H X w _ x q d).mono ?_;rintro e D ⟨f,rfl⟩;generalize x.num.sign=sg at i;go_wp2_with fail
  go_ret
  exact⟨f,rfl⟩
theorem a7s(X:Nat->Bool)(w:World)(a:Option Addr)(l:List (List Rat))(n c M col b:Nat)(S:HX X w)(hs:Sl RC 1 (mk X w) a l)(J:l.length=n)(Y:n<=1000000)(D:∀r∈l,r.length=M)(x:col<M)(N:BM 68719476736 l)(U:w.cell? ⟨b,0,none⟩=some (.int .i64 (col:Int))):Calls Tryz.prog 319 #[.slice a n c, .func (.func 320) #[] #[.pointer (some ⟨b,0,none⟩)]] w (fun e w'=>Ext w w'/\e= .returned (.int .i64 (b8s (l.findIdx? fun r=>decide (r.getD col 0≠0))))):=by
 have W:Hd a n:=by have:=hs.hd;rw[J]at this;exact this
 have z:=hid J;have L:=hid D;have G:=hid N;have f:Hid (∀i (hi:i<l.length),(∀q (hq:q<l.length),q<i->l[q].getD col 0=0)->l[i].getD col 0≠0->l.findIdx? (fun r=>decide (r.getD col 0≠0))=some i):=hid fun i hi E R=>by
  rw[List.findIdx?_eq_some_iff_getElem];exact⟨hi,by simpa using R,fun q hq=>by simpa using E q (by omega) hq⟩
 have g:Hid ((∀q (hq:q<l.length),l[q].getD col 0=0)->l.findIdx? (fun r=>decide (r.getD col 0≠0))=none):=hid fun E=>by
  rw[List.findIdx?_eq_none_iff];intro r D;obtain⟨q,hq,rfl⟩:=List.getElem_of_mem D;simpa using E q hq
 obtain⟨F,hF⟩:∃F,l.findIdx? (fun r=>decide (r.getD col 0≠0))=F:=⟨_,rfl⟩;rw[hF]at f g |-;clear J D N hF;go_enter Tryz.func319,Tryz.ntmps319
 go_wp2_with fail
 go_loopw [8] (fun k wr=>∃(i:Nat),k= .int .i64 i/\i<=n/\Hid (∀q (hq:q<l.length),q<i->l[q].getD col 0=0)/\Ext w wr) (fun k _=>n - (intOf k).toNat)
 case atStart=>exact⟨0,rfl,Nat.zero_le _,hid (fun q hq h=>by omega),ExtX.refl _⟩
 case round=>
  obtain⟨i,rfl,hi,p,v⟩:=hrel;by_cases K:i<n
  ·have y:i<l.length:=by rw[z.out];exact K
   obtain⟨P,Q,T,m,O,s⟩:=(hs.mono RC.mono (a0l v)).row i y;have t:=m.out noY wr (ExtX.refl _) rfl;have C:=hid (L.out l[i] (List.getElem_mem _));have H:=hid (G.out l[i] (List.getElem_mem _));rw[C.out]at t;have o:=v.cell U;have d:=a8I X wr P l[i] M Q col b (S.ext v) s C.out x H.out o;by_cases u:l[i].getD col 0=0
   ·have hd:Hid (decide (l[i].getD col 0≠0)=false):=hid (decide_eq_false (fun h=>h u))
    rw[hd.out]at d;have A:Hid (∀q (hq:q<l.length),q<i+1->l[q].getD col 0=0):=hid fun q hq B=>by
     by_cases e:q=i
     ·subst e;exact u
     ·exact p.out q hq (by omega)
    clear u m s;go_wp2_with (with_reducible refine a0m a0q (by omega) (by assumption) ?_)
    refine d.mono ?_;rintro e V ⟨j,rfl⟩;clear t;go_wp2_with fail
    go_roundw
    case rel=>exact⟨i+1,by go_num,by omega,A,v.trans j⟩
    case measure=>simp[intOf];omega
   ·have hd:Hid (decide (l[i].getD col 0≠0)=true):=hid (decide_eq_true u)
    rw[hd.out]at d;have I:=hid (f.out i y (fun q hq B=>p.out q hq B) u);clear u m s;go_wp2_with (with_reducible refine a0m a0q (by omega) (by assumption) ?_)
    refine d.mono ?_;rintro e V ⟨j,rfl⟩;clear t;go_wp2_with fail
    go_ret
    exact⟨v.trans j,a0I (by rw[I.out];rfl)⟩
  ·have I:=hid (g.out fun q hq=>p.out q hq (by rw[z.out]at hq;omega))
   go_wp2_with fail
   go_ret
   exact⟨v,a0I (by rw[I.out];rfl)⟩
end Go.Proofs.YtnnpfhoigmegcaaGreat
namespace Go.Lin
theorem a2A{m:Mat}{i:Nat}(h:i<m.length):m.getD i []=m[i]:=by simp[List.getD_eq_getElem?_getD,h]
theorem b0v(m:Mat)(t col:Nat):clear m t col 0=m:=by
 unfold clear rows;refine List.ext_getElem (by simp) fun q a b=>?_;rw[List.getElem_mapIdx,if_neg (by omega)]
theorem a2q{m:Mat}{t col s i:Nat}(h:i<(clear m t col s).length)(a:i<m.length):(clear m t col s)[i]=if t<i/\i<t+1+s then a2H m[i] (m.getD t []) col else m[i]:=by
 show(m.mapIdx _)[i]'(by simpa using a)=_
 rw[List.getElem_mapIdx]
theorem a1Z(m:Mat)(t col s:Nat):(clear m t col s).length=m.length:=by simp[clear,rows]
theorem b1H{m:Mat}{t col s:Nat}(h:t+1+s<m.length):(clear m t col s).set (t+1+s) (a2H m[t+1+s] (m.getD t []) col)=clear m t col (s+1):=by
 refine List.ext_getElem (by simp[a1Z]) fun q c b=>?_;have hq:q<m.length:=by rw[a1Z]at b;exact b
 rw[List.getElem_set,a2q b hq];split
 ·subst_vars;rw[if_pos (by omega)]
 ·rw[a2q (by simpa[a1Z]using hq) hq]
  by_cases a:t<q/\q<t+1+s
  ·rw[if_pos a,if_pos (by omega)]
  ·rw[if_neg a,if_neg (by omega)]
theorem b0w{m:Mat}{t col s c:Nat}(h:m.length<=t+1+s)(e:m.length<=t+1+c):clear m t col s=clear m t col c:=by
 refine List.ext_getElem (by simp[a1Z]) fun q d b=>?_;have hq:q<m.length:=by rw[a1Z]at b;exact b
 rw[a2q d hq,a2q b hq];by_cases a:t<q
 ·rw[if_pos (by omega),if_pos (by omega)]
 ·rw[if_neg (by omega),if_neg (by omega)]
theorem b0x(m:Mat)(t col:Nat):above m t col 0=m:=by
 unfold above rows;refine List.ext_getElem (by simp) fun q a b=>?_;rw[List.getElem_mapIdx,if_neg (by omega)]
theorem a3H{m:Mat}{t col s i:Nat}(h:i<(above m t col s).length)(a:i<m.length):(above m t col s)[i]=if i<t/\i<s then a2H m[i] (m.getD t []) col else m[i]:=by
 show(m.mapIdx _)[i]'(by simpa using a)=_
 rw[List.getElem_mapIdx]
theorem a3I(m:Mat)(t col s:Nat):(above m t col s).length=m.length:=by simp[above,rows]
theorem b1I{m:Mat}{t col s:Nat}(h:s<m.length)(c:s<t):(above m t col s).set s (a2H m[s] (m.getD t []) col)=above m t col (s+1):=by
 refine List.ext_getElem (by simp[a3I]) fun q d b=>?_;have hq:q<m.length:=by rw[a3I]at b;exact b
 rw[List.getElem_set,a3H b hq];split
 ·subst_vars;rw[if_pos (by omega)]
 ·rw[a3H (by simpa[a3I]using hq) hq]
  by_cases a:q<t/\q<s
  ·rw[if_pos a,if_pos (by omega)]
  ·rw[if_neg a,if_neg (by omega)]
end Go.Lin
namespace Go.Rep
open Go.RowKit Go.Lim Go.Lin
theorem b3D{hs:List Hdr}{i k:Nat}(hi:i<hs.length)(d:k<hs.length):obs ((hs.set i hs[k]).set k hs[i])=obs hs:=by
 funext b
 rw[Bool.eq_iff_iff];constructor
 ·intro h
  obtain⟨q,hq,c⟩:=a4E h;simp only[List.length_set]at hq;rw[List.getElem_set]at c;split at c
  ·exact a1s hi c
  ·rw[List.getElem_set]at c
   split at c
   ·exact a1s d c
   ·exact a1s hq c
 ·intro h
  obtain⟨q,hq,c⟩:=a4E h;by_cases a:q=i
  ·subst a
   refine a1s (i:=k) (by simpa using d) ?_;rw[List.getElem_set_self];exact c
  ·by_cases e:q=k
   ·subst e
    refine a1s (i:=i) (by simpa using hi) ?_;rw[List.getElem_set_ne (by omega),List.getElem_set_self];exact c
   ·refine a1s (i:=q) (by simpa using hq) ?_
    rw[List.getElem_set_ne (by omega),List.getElem_set_ne (by omega)];exact c
section
variable {X:Nat->Bool} {base:Nat} {e1 e2:TypeId} {w w':World} {ao:Option Addr} {cap:Nat} {hs:List Hdr} {m:List (List Rat)}
theorem b1J{m:Mat}{i k q:Nat}(hi:i<m.length)(c:k<m.length)(hq:q<(a0S m i k).length):(a0S m i k)[q]=if q=k then m[i]else if q=i then m[k]else m[q]'(by simpa[a0S]using hq):=by
 simp only[a0S,a2A hi,a2A c];rw[List.getElem_set];by_cases a:k=q
 ·rw[if_pos a,if_pos a.symm]
 ·rw[if_neg a,if_neg (Ne.symm a),List.getElem_set]
  by_cases b:i=q
  ·rw[if_pos b,if_pos b.symm]
  ·rw[if_neg b,if_neg (Ne.symm b)]
theorem b3E{hs:List Hdr}{i k q:Nat}(hi:i<hs.length)(c:k<hs.length)(hq:q<((hs.set i hs[k]).set k hs[i]).length):((hs.set i hs[k]).set k hs[i])[q]=if q=k then hs[i]else if q=i then hs[k]else hs[q]'(by simpa using hq):=by
 rw[List.getElem_set];by_cases a:k=q
 ·rw[if_pos a,if_pos a.symm]
 ·rw[if_neg a,if_neg (Ne.symm a),List.getElem_set]
  by_cases b:i=q
  ·rw[if_pos b,if_pos b.symm]
  ·rw[if_neg b,if_neg (Ne.symm b)]
theorem MO.swap(h:MO X base e1 e2 w ao cap hs m){i k:Nat}(hi:i<hs.length)(e:k<hs.length)(g:ExtX (ob ao) w w')(j:OL HdR 1 X base e1 w' ao cap ((hs.set i hs[k]).set k hs[i])):MO X base e1 e2 w' ao cap ((hs.set i hs[k]).set k hs[i]) (a0S m i k):=by
 have o:=h.len;refine h.perm (fun q=>if q=k then i else if q=i then k else q) (fun q hq=>?_) (fun a b l n d=>?_) (fun q hq=>?_) (by simp) (by simp[a0S]) (fun q hq f=>?_) (fun q hq f=>?_) g j
 ·split
  ·exact hi
  ·split
   ·exact e
   ·exact hq
 ·split at d<;>split at d<;>(try split at d)<;>(try split at d)<;>omega
 ·by_cases a:q=i
  ·exact⟨k,e,by simp[a]⟩
  ·by_cases b:q=k
   ·refine⟨i,hi,?_⟩
    by_cases c:i=k
    ·omega
    ·simp[c,b]
   ·exact⟨q,hq,by simp[a,b]⟩
 ·rw[b3E hi e hq]
  by_cases a:q=k
  ·simp[a]
  ·by_cases b:q=i
   ·subst b;simp[a]
   ·simp[a,b]
 ·rw[b1J (by omega) (by omega) hq]
  by_cases a:q=k
  ·simp[a]
  ·by_cases b:q=i
   ·subst b;simp[a]
   ·simp[a,b]
end
section
variable {P:Program} {ops:Array Oper} {Q:Exit->Act->World->Prop} {rest:List Oper} {a:Act} {w:World}
variable {d:Option Tmp} {ty:TypeId} {ps:String} {af:Array Edge}
theorem b3F{t e h:Nat}{z:Value}{x lo:Operand}{o:IntKind}{m:Int}{ao:Option Addr}{cap:Nat}(T:SliceT P t e 1 h z)(n i:Nat)(hx:a.eval x= .slice ao n cap)(l:a.eval lo= .int o m)(f:m=(i:Int))(hd:Hd ao n)(hi:i<=n)(p:n<=cap)(K:∀c,(∀k,k<n - i->adr c k=adr ao (i+k))->Hd c (n - i)->wpList P ops Q rest (a.put d (.slice c (n - i) (cap - i))) w):wpList P ops Q (⟨d, .slice t x (some lo) none none,ty,ps,af,none⟩::rest) a w:=by
 refine wpList_plain rfl fun r j=>?_;subst f;have q:=a2Z (P:=P) (ao:=ao) T n cap o i hi p w;have:=K (a0L ao i cap 1) (fun k s=>by
  obtain⟨b,g,rfl⟩:=hd (by omega);have f:¬cap=i:=by omega
  simp[a0L,f,Addr.add_lit,adr,Nat.add_assoc]) (fun u=>by
  obtain⟨b,g,rfl⟩:=hd (by omega);have f:¬cap=i:=by omega
  exact⟨b,g+i*1,by simp[a0L,f,Addr.add_lit]⟩)
 unfold Oper.wp;simp[execOp,hx,l,q,Result.andThen];exact j _ _ this
end
end Go.Rep
namespace Go.Lin
theorem b1K(m:Mat)(k:Nat):eN m (k+1)=a4P (eN m k) k:=rfl
theorem a8J{n c B t i col:Nat}{m:Mat}(_:Shp n c m)(h:HB B m)(_:t<n)(_:i<n)(p:5*B<=68719476736):Go.Rep.BR 68719476736 (m.getD i [])/\Go.Rep.BR 68719476736 (m.getD t [])/\Go.Lim.hq ((m.getD i []).getD col 0/(m.getD t []).getD col 0)<=68719476736/\∀x∈m.getD t [],Go.Lim.hq ((m.getD i []).getD col 0/(m.getD t []).getD col 0*x)<=68719476736:=by
 have a:∀k,Go.Rep.BR B (m.getD k []):=fun k q hq=>by
  obtain⟨j,f,rfl⟩:=List.getElem_of_mem hq;have e:(m.getD k []).getD j 0=(m.getD k [])[j]:=by rw[List.getD_eq_getElem?_getD,List.getElem?_eq_getElem f];rfl
  rw[<-e];exact h k j
 have b:=h i col;have d:=h t col;unfold ent at b d;have g:=Go.Lim.hq_div ((m.getD i []).getD col 0) ((m.getD t []).getD col 0);refine⟨fun q hq=>Nat.le_trans (a i q hq) (by omega),fun q hq=>Nat.le_trans (a t q hq) (by omega),by omega,fun x hx=>?_⟩;have l:=a t x hx;have o:=Go.Lim.hq_mul ((m.getD i []).getD col 0/(m.getD t []).getD col 0) x;omega
theorem HB.bm{B:Nat}{m:Mat}(h:HB B m):Go.Rep.BM B m:=fun r b q hq=>by
 obtain⟨i,hi,rfl⟩:=List.getElem_of_mem b;obtain⟨j,a,rfl⟩:=List.getElem_of_mem hq;have:=h i j;simpa[ent,List.getD_eq_getElem?_getD,hi,a]using this
end Go.Lin
namespace Go.Rep
theorem Sl.fromA{α:Type}{R:Mem->Value->α->Prop}{h:Mem}{ao a:Option Addr}{l:List α}(s:Sl R 1 h ao l)(i:Nat)(g:∀k,k<l.length - i->adr a k=adr ao (i+k))(hd:Hd a (l.length - i)):Sl R 1 h a (l.drop i):=by
 refine⟨by rw[List.length_drop];exact hd,fun k c=>?_⟩;rw[List.length_drop]at c;obtain⟨u,d,e,f⟩:=s.2 (i+k) (by omega);refine⟨u,d,fun j m=>?_,by simpa using f⟩;have b:j=0:=by omega
 subst b;have:=e 0 m;simp only[Nat.mul_one,Nat.add_zero]at this |-;rw[g k c];exact this
theorem b5Y{ao:Option Addr}{n i:Nat}(hd:Hd ao n)(a:0<n)(k:Nat):adr (Option.map (fun x=>x.add i) ao) k=adr ao (i+k):=by
 obtain⟨b,c,rfl⟩:=hd a;simp[Addr.add_lit,adr,Nat.add_assoc]
theorem a0b.pure(k:IntKind):∀h a u x,a0b k h u x->a0b k a u x:=fun _ _ _ _ h=>h
theorem b7u{ao:Option Addr}{n i m:Nat}(hd:Hd ao n)(c:0<n):Hd (Option.map (fun x=>x.add i) ao) m:=fun _=>by
 obtain⟨b,a,rfl⟩:=hd c;exact⟨b,a+i,by simp[Addr.add_lit]⟩
end Go.Rep
namespace Go.Proofs.YtnnpfhoigmegcaaGreat
open Go.RowKit Go.Rep Go.Lim Go.Lin
def b8t(X:Nat->Bool)(base:Nat)(w:World)(ao:Option Addr)(cap:Nat)(hs:List Hdr)(s:St)(e:Ending)(w':World):Prop:=
 ExtX (mb ao hs) w w'/\∃po pc hs',e= .returned (.tuple #[.slice po s.2.1.length pc, .bool s.2.2])/\mb ao hs'=mb ao hs/\MO (un X po) base 26 41 w' ao cap hs' s.1/\OL (a0b .i64) 1 (mz X ao hs) w.heap.size 3 w' po pc s.2.1
theorem a5Z(X:Nat->Bool)(base:Nat)(w:World)(ao:Option Addr)(cap n c:Nat)(hs:List Hdr)(m:List (List Rat))(hX:HX X w)(hM:MO X base 26 41 w ao cap hs m)(hsh:Shp n c m)(hc:a0n m=c)(hn:n<=900)(hcc:c<=900)(hT:b5v m c):Calls Tryz.prog 270 #[.slice ao n cap] w (b8t X base w ao cap hs (eN m c)):=by
 have hml:=hid hsh.1;have hmc:MC (mk X w) (.slice ao n cap) m:=by have:=hM.mc;rw[hml.out]at this;exact this
 have hcol:=a4f X w _ m hmc;rw[hc]at hcol;have hlen:=hid (hM.len.trans hml.out);have hcap:n<=cap:=by have:=hM.capLen;rw[hml.out]at this;exact this
 have hhO:Hd ao n:=by have:=hM.outer.hd;rw[hlen.out]at this;exact this
 have hn0:Hid (n=0->c=0):=hid fun h=>by
  have:m= []:=List.eq_nil_of_length_eq_zero (by rw[hml.out];exact h);rw[<-hc,this];rfl
 have hsh':=hid hsh;obtain⟨B,hB7,hBj⟩:=hT;have hB':=hid hBj;have hBB':=hid hB7;have hund:un X none=X:=by funext k;simp[un,ob]
 have hMu:MO (un X none) base 26 41 w ao cap hs m:=by rw[hund];exact hM
 have hXz:=hM.hz hX;clear hsh hBj hB7 hc hmc;go_enter Tryz.func270,Tryz.ntmps270
 go_wp2_with fail
 refine hcol.mono ?_;rintro e w1 ⟨rfl,rfl⟩;clear hcol;go_wp2_with fail
 go_loopw [2,3,11] (fun p o k wr=>∃(j:Nat) (po:Option Addr) (pc pl:Nat) (hs':List Hdr) (M:Mat) (P:List Nat) (od:Bool),k= .int .i64 j/\p= .slice po pl pc/\o= .bool od/\j<=c/\Hid (P.length=pl)/\Hid (eN m j=(M,P,od))/\Hid (j<c->pl<n)/\MO (un X po) base 26 41 wr ao cap hs' M/\OL (a0b .i64) 1 (mz X ao hs) w1.heap.size 3 wr po pc P/\Hid (mb ao hs'=mb ao hs)/\ExtX (mb ao hs) w1 wr) (fun _ _ k _=>c - (intOf k).toNat)
 case atStart=>exact⟨0,none,0,0,hs,m,[],false,rfl,rfl,rfl,Nat.zero_le _,hid rfl,hid rfl,hid (fun h=>by have:=hn0.out;omega),hMu,OL.nil _ _ _ _ _ _,hid rfl,ExtX.refl _⟩
 case round=>
  obtain⟨j,po,pc,pl,hs',M,P,od,rfl,rfl,rfl,hj,hpl,hst,hpn,hM,hP,hmb,hE⟩:=hrel;by_cases hlj:j<c
  ·have hpn2:=hpn.out hlj
   have hok:=a5y hsh'.out j;rw[hst.out]at hok;have hshM:Shp n c M:=hok.shp;have hMl:=hid hshM.1;have hhl:=hid (hM.len.trans hMl.out);have hXr:HX X wr:=hX.ext hE;have hXu:HX (un X po) wr:=fun k hk=>by
    by_cases hx:X k=true
    ·exact hXr k hx
    ·exact(hP.block (by simpa[un,hx]using hk)).2
   have hBM:HB B M:=by have:=hB'.out j (by omega);rw[hst.out]at this;exact this
   have hb5':5*B<=68719476736:=by have:=hBB'.out;omega
   have hBM2:=hid (hBM.bm);have hEb:Ext wr (wr.alloc (.cells #[.int .i64 (j:Int)] 3)):=(ExtX.refl wr).alloc _;have hbx:(wr.alloc (.cells #[.int .i64 (j:Int)] 3)).cell? ⟨wr.heap.size,0,none⟩=some (.int .i64 (j:Int)):=a4t 0 rfl;have hM1:=hM.ext0 hEb;have hP1:=hP.ext0 (a0b.elem _) hEb;have hX1:=hXu.ext hEb;have hSl:Sl RC 1 (mk (un X po) (wr.alloc (.cells #[.int .i64 (j:Int)] 3))) ao M:=by
    obtain⟨_,_,heq,_,h3⟩:=hM1.mc;simp only[Value.slice.injEq]at heq;obtain⟨rfl,_,rfl⟩:=heq;exact h3
   obtain⟨bw,hbw⟩:∃bw,wr.heap.size=bw:=⟨_,rfl⟩;obtain⟨w2,hw2⟩:∃w2,wr.alloc (.cells #[.int .i64 (j:Int)] 3)=w2:=⟨_,rfl⟩;rw[hw2]at hEb hbx hM1 hP1 hX1 hSl;rw[hbw]at hbx;have hpbw:Hid (ob po bw=false):=hid (by rw[<-hbw];exact hP.ob_ge (Nat.le_refl _));have hobw:Hid (ob ao bw=false):=hid (by rw[<-hbw];exact hM.outer.ob_ge (Nat.le_refl _));have hw2':=hid hw2;have hbw':=hid hbw;have hn1:0<n:=by omega
   have hmd:Hid (n - pl=(M.drop pl).length):=hid (by rw[List.length_drop,hMl.out]);have hSd:Sl RC 1 (mk (un X po) w2) (Option.map (fun x=>x.add pl) ao) (M.drop pl):=hSl.fromA pl (fun k _=>b5Y hhO hn1 k) (b7u hhO hn1);have hrows:Hid (∀r∈M.drop pl,r.length=c):=hid fun r hr=>hshM.2 r (List.mem_of_mem_drop hr);have hbmd:Hid (BM 68719476736 (M.drop pl)):=hid fun r hr q hq=>Nat.le_trans (hBM2.out r (List.mem_of_mem_drop hr) q hq) (by omega);have hix:=a7s (un X po) w2 _ (M.drop pl) (n - pl) (cap - pl) c j bw hX1 hSd hmd.out.symm (by omega) hrows.out hlj hbmd.out hbx;obtain⟨F,hF⟩:∃F,(M.drop pl).findIdx? (fun r=>decide (r.getD j 0≠0))=F:=⟨_,rfl⟩;rw[hF]at hix;have hnz:Hid (b0P M P.length j=F):=hid (by rw[hpl.out];exact hF);clear hF hSd hSl;go_wp2_with fail
   refine hix.mono ?_;rintro e w3 ⟨hE3,rfl⟩;have hM3:=hM1.ext0 hE3;have hP3:=hP1.ext0 (a0b.elem _) hE3;have hb3:=hE3.cell hbx;have hE03:=hE.trans (ExtX.of (hEb.trans hE3));clear hM1 hP1 hix hbx hw2
   match F,hnz with
   |none,hnz=>
    have hst2:Hid (eN m (j+1)=(M,P,od)):=hid (by
     rw[b1K,hst.out];unfold a4P;dsimp only;split
     ·rfl
     ·rw[hnz.out])
    simp only[b8s];go_wp2_with fail
    go_roundw
    case rel=>exact⟨j+1,po,pc,pl,hs',M,P,od,by go_num,rfl,rfl,by omega,hpl,hst2,hid (fun _=>hpn2),hM3,hP3,hmb,hE03⟩
    case measure=>simp[intOf];omega
   |some q,hnz=>
    obtain⟨hq1,hq2⟩:=a3r hnz.out;rw[hpl.out,hMl.out]at hq1;have hq0:¬(q:Int)<0:=by omega
    simp only[b8s];clear hq2;have hr1:pl+q<hs'.length:=by rw[hhl.out];exact hq1
    have hr2:pl<hs'.length:=by rw[hhl.out];exact hpn2
    obtain⟨a1,n1,c1,hh1⟩:∃a n c,hs'[pl]=(a,n,c):=⟨_,_,_,rfl⟩;obtain⟨a2,n2,c2,hh2⟩:∃a n c,hs'[pl+q]=(a,n,c):=⟨_,_,_,rfl⟩;have hO0:=hM3.outer;obtain⟨z1,zf1⟩:=hM3.hdr pl hr2;obtain⟨z2,zf2⟩:=hM3.hdr (pl+q) hr1;rw[hh1]at z1;rw[hh2]at z2
    dsimp only at z1 z2
    have k1:w3.cell? (adr ao pl)=some (.slice a1 n1 c1):=z1;have k2:w3.cell? (adr ao (pl+q))=some (.slice a2 n2 c2):=z2;have f1:w3.frozen? (adr ao pl)=false:=zf1;have f2:w3.frozen? (adr ao (pl+q))=false:=zf2;obtain⟨hO1,hE4⟩:=hO0.set1 a3G HdR.elem HdR.one pl hr2 (.slice a2 n2 c2) (a2,n2,c2) rfl;obtain⟨u3,k3,f3,hu3⟩:=hO1.cell HdR.one (pl+q) (by simpa using hr1);have hu3':u3= .slice a2 n2 c2:=by
     have e:(hs'.set pl (a2,n2,c2))[pl+q]'(by simpa using hr1)=(a2,n2,c2):=by
      rw[List.getElem_set];split
      ·rfl
      ·exact hh2
     rw[e]at hu3;exact hu3
    rw[hu3']at k3;obtain⟨hO2,hE5⟩:=hO1.set1 a3G HdR.elem HdR.one (pl+q) (by simpa using hr1) (.slice a1 n1 c1) (a1,n1,c1) rfl;have hE6:=(hE4.trans hE5).drew;have hO2:=hO2.ext0 HdR.elem (ExtX.refl (Y:=noY) _).drew;rw[<-hh1,<-hh2]at hO2;have i1:∀W,(Instr.indexAt 25 (.slice ao n cap) (.int .i64 (pl:Int))).run Tryz.prog W= .ok (.pointer (some (adr ao pl))) W:=a0E a0q ao n cap .i64 pl hhO (by omega) rfl;have i2:∀W,(Instr.indexAt 25 (.slice ao n cap) (.int .i64 ((pl:Int)+(q:Int)))).run Tryz.prog W= .ok (.pointer (some (adr ao (pl+q)))) W:=a0E a0q ao n cap .i64 (pl+q) hhO (by omega) (by omega);have ew:IntKind.i64.wrap ((pl:Int)+(q:Int))=(pl:Int)+(q:Int):=IntWalk.i64_in _ (by omega);have hM5:=hM3.swap hr2 hr1 hE6 hO2;have hX5:=hX1.ext hE3;have hP5:OL (a0b .i64) 1 (mz X ao hs) w1.heap.size 3 _ po pc P:=hP3.frame (a0b.pure _) hE6 (fun k hk=>by
     cases hb:ob ao k
     ·rfl
     ·have:=(hM3.out_sep hb).1;rw[a0t hk]at this;simp at this) hP3.1
    have hb5:=hE6.cellY hb3 hobw.out;clear hu3 hu3' hO0 hO1 hO2 z1 z2 zf1 zf2 hh1 hh2 hE4 hE5;go_wp2_with fail
    go_region
    obtain⟨w5,hw5⟩:∃w5,((w3.setCell (adr ao pl) (.slice a2 n2 c2)).setCell (adr ao (pl+q)) (.slice a1 n1 c1)).drew=w5:=⟨_,rfl⟩;rw[hw5]at hM5 hP5 hb5 hE6 |-;have hE05:=hE03.trans (ExtX.weaken hE6 fun k _ hk=>(b5W hk).1);have hX5:=hX5.ext hE6;have hXz5:=hXz.ext hE05;have hbase5:=hE05.size;clear k1 k2 k3 f1 f2 f3 i1 i2 hw5 hb3;have hpl5:pl+1<=n:=hpn2;go_wp2_with (first|((with_reducible show wpList _ _ _ (⟨_, .slice _ _ _ _ _,_,_,_,_⟩::_) _ _);refine b3F a0q n (pl+1) rfl rfl (by omega) hhO hpl5 hcap ?_;intro ao3 ha3 hd3;replace ha3:=hid ha3)|(at_builtin;refine a0H (l:=P) a2b rfl (a0b.elem .i64) hbase5 hXz5 pl hpl.out rfl rfl hP5 (.int .i64 (j:Int)) j rfl rfl (by omega) (by omega) ?_;intro po2 pc2 w6 hP6 hE7 hor;have b6:=hE7.cellY hb5 hpbw.out))
    have hM6:MO (un X po2) base 26 41 w6 ao cap _ _:=hM5.ext (X':=un X po2) hE7 (fun k _ hk=>a0t hk) (fun k hk hz=>by
     by_cases hx:X k=true
     ·exact a0o hx
     ·have h2:ob po2 k=true:=by simpa[un,hx]using hz
      rcases hor with rfl|⟨g,rfl,hg⟩
      ·exact a0t h2
      ·have:g=k:=by simpa[ob]using h2
       omega)
    have hE06:ExtX (mb ao hs) w1 w6:=hE05.then_ hE7 fun k hk _=>hP5.ob_lt hk;have hmb2:Hid (mb ao ((hs'.set pl hs'[pl+q]).set (pl+q) hs'[pl])=mb ao hs):=hid (by rw[<-hmb.out];exact(b1E (X:=X) fun k=>by rw[b3D hr2 hr1]).1);have hh2l:Hid (((hs'.set pl hs'[pl+q]).set (pl+q) hs'[pl]).length=n):=hid (by simp[hhl.out]);have hsh2:Shp n c (a0S M pl (pl+q)):=hshM.swap hpn2 hq1;have hBM2':HB B (a0S M pl (pl+q)):=hBM.swap hshM hpn2 hq1;have hst2:Hid (eN m (j+1)=(clear (a0S M pl (pl+q)) pl j n,P++[j],od !=decide (q≠0))):=hid (by
     rw[b1K,hst.out];unfold a4P;dsimp only;rw[if_neg (by rw[hpl.out,hMl.out];omega),hnz.out]
     dsimp only
     rw[hpl.out,hMl.out])
    have hbnd:Hid (∀i,i<n->BR 68719476736 ((a0S M pl (pl+q)).getD i [])/\BR 68719476736 ((a0S M pl (pl+q)).getD pl [])/\hq (((a0S M pl (pl+q)).getD i []).getD j 0/((a0S M pl (pl+q)).getD pl []).getD j 0)<=68719476736/\∀x∈(a0S M pl (pl+q)).getD pl [],hq (((a0S M pl (pl+q)).getD i []).getD j 0/((a0S M pl (pl+q)).getD pl []).getD j 0*x)<=68719476736):=hid fun i hi=>a8J hsh2 hBM2' hpn2 hi hb5';have hmbw:Hid (mb ao hs bw=false):=hid (by
     rw[<-hmb.out];cases hb:mb ao hs' bw
     ·rfl
     ·have:=(hM.mb_block hb).2;omega)
    obtain⟨hs2,hhs2⟩:∃hs2,(hs'.set pl hs'[pl+q]).set (pl+q) hs'[pl]=hs2:=⟨_,rfl⟩;obtain⟨M2,hM2⟩:∃M2,a0S M pl (pl+q)=M2:=⟨_,rfl⟩;rw[hhs2]at hM6 hmb2 hh2l;rw[hM2]at hM6 hsh2 hBM2' hst2 hbnd;clear hhs2 hM2;have hM2l:=hid hsh2.1;have hX6:HX X w6:=hX.ext hE06;have hM6':MO (un X po2) base 26 41 w6 ao cap hs2 (clear M2 pl j 0):=by rw[b0v];exact hM6
    go_loopw [54] (fun k wx=>∃(s:Nat),k= .int .i64 s/\s<=n - (pl+1)/\MO (un X po2) base 26 41 wx ao cap hs2 (clear M2 pl j s)/\OL (a0b .i64) 1 (mz X ao hs) w1.heap.size 3 wx po2 pc2 (P++[j])/\ExtX (mb ao hs) w1 wx/\wx.cell? ⟨bw,0,none⟩=some (.int .i64 (j:Int))) (fun k _=>n - (pl+1) - (intOf k).toNat)
    case atStart=>exact⟨0,rfl,Nat.zero_le _,hM6',hP6,hE06,b6⟩
    case round=>
     obtain⟨s,rfl,hs9,hM8,hP8,hE8,b8⟩:=hrel;by_cases hls:s<n - (pl+1)
     ·obtain⟨t,ht⟩:∃t,pl+1+s=t:=⟨_,rfl⟩
      have htn:t<n:=by omega
      have hth:t<hs2.length:=by rw[hh2l.out];exact htn
      have hph:pl<hs2.length:=by rw[hh2l.out];exact hpn2
      have htm:t<M2.length:=by rw[hM2l.out];exact htn
      have hpm:pl<M2.length:=by rw[hM2l.out];exact hpn2
      have htc:t<(clear M2 pl j s).length:=by rw[a1Z];exact htm
      have hpc:pl<(clear M2 pl j s).length:=by rw[a1Z];exact hpm
      obtain⟨a1,n1,c1,hh1⟩:∃a n c,hs2[t]=(a,n,c):=⟨_,_,_,rfl⟩;obtain⟨a2,n2,c2,hh2⟩:∃a n c,hs2[pl]=(a,n,c):=⟨_,_,_,rfl⟩;have hg1:(clear M2 pl j s)[t]=M2[t]:=by rw[a2q htc htm,if_neg (by omega)]
      have hg2:(clear M2 pl j s)[pl]=M2[pl]:=by rw[a2q hpc hpm,if_neg (by omega)]
      have hn1':n1=c:=by
       have:=hM8.rlen t hth htc;rw[hh1,hg1,hsh2.2 _ (List.getElem_mem _)]at this;exact this
      have hn2':n2=c:=by
       have:=hM8.rlen pl hph hpc;rw[hh2,hg2,hsh2.2 _ (List.getElem_mem _)]at this;exact this
      subst hn1';subst hn2';have hR1:=hM8.row t hth htc;have hR2:=hM8.row pl hph hpc;rw[hg1]at hR1;rw[hg2]at hR2;simp only[hh1]at hR1;simp only[hh2]at hR2;have hz1:=fun k (hk:ob a1 k=true)=>hM8.mz_sub hth k (by rw[hh1];exact hk);have hz2:=fun k (hk:ob a2 k=true)=>hM8.mz_sub hph k (by rw[hh2];exact hk);have hds:∀k,ob a1 k=true->ob a2 k=false:=fun k hk=>by
       have:=hM8.dis t pl hth hph (by omega) k (by rw[hh1];exact hk);rw[hh2]at this;exact this
      have hsp:=fun k (hk:ob a1 k=true)=>hM8.sep t hth k (by rw[hh1];exact hk);have hBn:=hbnd.out t htn;rw[a2A htm]at hBn;have hcs:Hid ((clear M2 pl j s).set t (a2H M2[t] (M2.getD pl []) j)=clear M2 pl j (s+1)):=hid (by subst ht;exact b1H htm);have hpe:M2.getD pl []=M2[pl]:=a2A hpm;rw[<-hpe]at hR2;have hrl1:=hid (hsh2.2 M2[t] (List.getElem_mem _));have hrl2:=hid (show(M2.getD pl []).length=n2 by rw[hpe];exact hsh2.2 _ (List.getElem_mem _));obtain⟨row,hrow⟩:∃row,M2[t]=row:=⟨_,rfl⟩;obtain⟨piv,hpiv⟩:∃piv,M2.getD pl []=piv:=⟨_,rfl⟩;rw[hrow,hpiv]at hcs;rw[hrow]at hR1 hrl1;rw[hpiv]at hR2 hrl2;rw[hrow,hpiv]at hBn;have hX8:HX (un X po2) wr:=fun k hk=>by
       by_cases hx:X k=true
       ·exact hX.ext hE8 k hx
       ·exact(hP8.block (by simpa[un,hx]using hk)).2
      have hZ8:=hM8.hz hX8;have hEd:Ext wr wr.drew:=(ExtX.refl wr).drew;have hel:=a4G (mz (un X po2) ao hs2) base wr.drew a1 a2 c1 c2 n2 j row piv hZ8 (hR1.ext0 QC.elem hEd) (hR2.ext0 QC.elem hEd) hz1 hz2 hds hrl1.out hrl2.out (by omega) hlj hBn.1 hBn.2.1 hBn.2.2.1 hBn.2.2.2;have y1:wr.cell? (adr ao3 s)=some (.slice a1 n2 c1):=by
       have:=(hM8.hdr t hth).1;rw[hh1,<-ht]at this;rw[ha3.out s hls];exact this
      have y2:wr.drew.cell? (adr ao pl)=some (.slice a2 n2 c2):=by
       have:=(hM8.hdr pl hph).1;rw[hh2]at this;exact this
      have y3:wr.drew.cell? ⟨bw,0,none⟩=some (.int .i64 (j:Int)):=b8;have haob:Hid (ob a1 (adr ao pl).block=false):=hid (by
       cases hb:ob a1 (adr ao pl).block
       ·rfl
       ·have h1:=(hsp _ hb).2
        obtain⟨b0,o0,rfl⟩:=hhO (by omega);simp[ob,adr]at h1)
      have habw:Hid (ob a1 bw=false):=hid (by
       cases hb:ob a1 bw
       ·rfl
       ·have h5:mb ao hs2 bw=true:=a2M.2 (.inr (a1s hth (show ob hs2[t].1 bw=true by rw[hh1];exact hb)))
        rw[hmb2.out,hmbw.out]at h5;simp at h5)
      have i1:∀W,(Instr.indexAt 25 (.slice ao n cap) (.int .i64 (pl:Int))).run Tryz.prog W= .ok (.pointer (some (adr ao pl))) W:=a0E a0q ao n cap .i64 pl hhO (by omega) rfl;have hh1':=hid hh1
      replace ht:=hid ht
      clear hg1 hg2 hpe hrow hpiv hh1 hh2 hR1 hR2 hBn;go_wp2_with (with_reducible refine a0m a0q (by omega) (by assumption) ?_)
      go_region_held3 (fun w'=>w'.cell? (adr ao pl)=some (.slice a2 n2 c2)/\w'.cell? ⟨bw,0,none⟩=some (.int .i64 (j:Int)))
       (first|exact⟨t1.cellY y2 haob.out,t1.cellY y3 habw.out⟩|go_keep)
       ((go_at_call 321;(with_reducible refine hel.mono ?_);rintro ee w7 ⟨rfl,t1,hO7⟩))
      have b9:=t1.cellY y3 habw.out;have hEr:ExtX (ob hs2[t].1) wr.drew w7:=by rw[hh1'.out];exact t1
      have hM9:=(hM8.ext0 hEd).upd hth (l:=a2H row piv j) hEr (fun hi'=>by
       rw[a2q htc htm,if_neg (by have:=ht.out;omega),a3q _ _ _ (by rw[hrl1.out,hrl2.out]),hrl2.out];exact(hsh2.2 _ (List.getElem_mem _)).symm) (by rw[hh1'.out];exact hO7)
      rw[hcs.out]at hM9;have hP9:=(hP8.ext0 (a0b.elem _) hEd).frame (a0b.pure _) t1 (fun k hk=>by
       cases hb:ob a1 k
       ·rfl
       ·have:=(hsp k hb).1;rw[a0t hk]at this;simp at this) hP8.1
      have hE9:=(hE8.trans (ExtX.of hEd)).trans (by rw[<-hmb2.out];exact ExtX.row hth hEr);clear y1 y2 y3 i1;go_wp2_with fail
      go_roundw
      case rel=>exact⟨s+1,by go_num,by omega,hM9,hP9,hE9,b9⟩
      case measure=>simp[intOf];omega
     ·have hfin:Hid (clear M2 pl j s=clear M2 pl j n):=hid (b0w (by rw[hM2l.out];omega) (by rw[hM2l.out];omega))
      rw[hfin.out]at hM8;have hodd:Hid ((!(od==((q:Int) !=0)))=(od !=decide (q≠0))):=hid (by cases od<;>by_cases h:q=0<;>simp[h]);have hpl2:Hid ((P++[j]).length=pl+1):=hid (by simp[hpl.out]);by_cases hfull:pl+1=n
      ·have hne:(((pl+1:Nat):Int)==(n:Int))=true:=b3h (by omega)
       have hne2:(((pl:Int)+1)==(n:Int))=true:=b3h (by omega);have hstop:Hid (eN m c=(clear M2 pl j n,P++[j],od !=decide (q≠0))):=hid (by
        rw[b5d m (j+1) (by rw[hst2.out];dsimp only;rw[hpl2.out,a1Z,hM2l.out];exact hfull) c (by omega)];exact hst2.out)
       clear hfull;go_wp2_with fail
       go_ret2
       rw[hstop.out];exact⟨hE8,po2,pc2,hs2,by rw[hpl2.out,<-hodd.out];rfl,hmb2.out,hM8,hP8⟩
      ·have hne:(((pl+1:Nat):Int)==(n:Int))=false:=a2v (by omega)
       have hne2:(((pl:Int)+1)==(n:Int))=false:=a2v (by omega);have hpn3:Hid (j+1<c->pl+1<n):=hid fun _=>by omega
       clear hfull;go_wp2_with fail
       go_roundw
       case rel=>exact⟨j+1,po2,pc2,pl+1,hs2,_,_,_,by go_num,rfl,by rw[hodd.out],by omega,hpl2,hst2,hpn3,hM8,hP8,hmb2,hE8⟩
       case measure=>simp[intOf];omega
  ·have hjc:j=c:=by omega
   subst hjc;go_wp2_with fail
   go_ret2
   rw[hst.out];exact⟨hE,po,pc,hs',by rw[hpl.out];rfl,hmb.out,hM,hP⟩
end Go.Proofs.YtnnpfhoigmegcaaGreat
namespace Go.Lin
theorem a7T{n c B t i col:Nat}{m:Mat}(hs:Shp n c m)(h:HB B m)(f:t<n)(_:i<n)(b:i≠t)(u:7*B<=68719476736):Go.Rep.BR 68719476736 ((divL m t col).getD i [])/\Go.Rep.BR 68719476736 ((divL m t col).getD t [])/\Go.Lim.hq (((divL m t col).getD i []).getD col 0/((divL m t col).getD t []).getD col 0)<=68719476736/\∀x∈(divL m t col).getD t [],Go.Lim.hq (((divL m t col).getD i []).getD col 0/((divL m t col).getD t []).getD col 0*x)<=68719476736:=by
 have d:=h.divL hs f col;have a:∀k,Go.Rep.BR (2*B) ((divL m t col).getD k []):=fun k q hq=>by
  obtain⟨j,g,rfl⟩:=List.getElem_of_mem hq;have e:((divL m t col).getD k []).getD j 0=((divL m t col).getD k [])[j]:=by rw[List.getD_eq_getElem?_getD,List.getElem?_eq_getElem g];rfl
  rw[<-e];exact d k j
 have l:Go.Lim.hq (((divL m t col).getD i []).getD col 0)<=B:=by
  have:=a2T hs f col i col;rw[if_neg b]at this;unfold ent at this;rw[this];exact h i col
 have o:Go.Lim.hq (((divL m t col).getD t []).getD col 0)<=2*B:=d t col;have p:=Go.Lim.hq_div (((divL m t col).getD i []).getD col 0) (((divL m t col).getD t []).getD col 0);refine⟨fun q hq=>Nat.le_trans (a i q hq) (by omega),fun q hq=>Nat.le_trans (a t q hq) (by omega),by omega,fun x hx=>?_⟩;have r:=a t x hx;have s:=Go.Lim.hq_mul (((divL m t col).getD i []).getD col 0/((divL m t col).getD t []).getD col 0) x;omega
end Go.Lin
namespace Go.Rep
theorem a7U{P:Program}{t e sz a:Nat}{z:Value}{ao:Option Addr}(T:SliceT P t e sz a z)(len cap:Nat)(f:IntKind)(i:Nat)(g:i<=cap)(w:World):(Instr.sliceAt t (.slice ao len cap) none (some (.int f (i:Int))) none).run P w= .ok (.slice ao i cap) w:=by
 obtain⟨ti,hi,hz,d,c⟩:=info_parts T.info;have b:(i:Int)<=cap:=by omega
 cases ao<;>simp[Instr.sliceAt,Instr.slice,run_underlying T.und,Instr.sliceBounds,run_sliceBound,b,sizeOf,typeInfo,hi,Addr.add_zero']
end Go.Rep
namespace Go.Proofs.YtnnpfhoigmegcaaGreat
open Go.RowKit Go.Rep Go.Lim Go.Lin
def b8u(X:Nat->Bool)(base:Nat)(w:World)(ao:Option Addr)(cap:Nat)(hs:List Hdr)(s:Mat×List Nat)(e:Ending)(w':World):Prop:=
 ExtX (mb ao hs) w w'/\∃po pc hs',e= .returned (.slice po s.2.length pc)/\mb ao hs'=mb ao hs/\MO (un X po) base 26 41 w' ao cap hs' s.1/\OL (a0b .i64) 1 (mz X ao hs) w.heap.size 3 w' po pc s.2
theorem a8K(X:Nat->Bool)(base:Nat)(w:World)(ao:Option Addr)(cap n c:Nat)(hs:List Hdr)(m:List (List Rat))(hX:HX X w)(C:MO X base 26 41 w ao cap hs m)(c3:Shp n c m)(hc:a0n m=c)(hn:n<=900)(p8:c<=900)(hT:b2M m c):Calls Tryz.prog 301 #[.slice ao n cap] w (b8u X base w ao cap hs (a1C m c)):=by
 have b7:=a5Z X base w ao cap n c hs m hX C c3 hc hn p8 hT.e;obtain⟨B,a9,_,c8⟩:=hT;have d8:=a5y c3 c;have t6:n<=cap:=by have:=C.capLen;rw[c3.1]at this;exact this
 have g6:Hd ao n:=by have:=C.outer.hd;rw[C.len,c3.1]at this;exact this
 have c0:a1C m c=(dN (eN m c).1 (eN m c).2.1 (eN m c).2.1.length,(eN m c).2.1):=rfl;obtain⟨⟨E,p,od⟩,hS⟩:∃S,eN m c=S:=⟨_,rfl⟩;rw[hS]at b7 d8 c8 c0;rw[c0]
 dsimp only at c8 |-
 obtain⟨pl,d9⟩:∃pl,p.length=pl:=⟨_,rfl⟩;have j1:Shp n c E:=d8.shp;have d1:Ech n c (ent E) p:=d8.ech;have u1:pl<=n:=by have:=d1.le;omega
 have i7:=hid (b5f j1 d1);have n0:Hid (∀t,t<=p.length->HB B (dN E p t)):=hid c8;have n2:=hid a9;have l7:Hid (∀i (hi:i<p.length),p[i]<c):=hid d1.lt;have L:=hid d9;have l4:Hid (HX X w):=hid hX;clear c3 c8 a9 c0 hS d8 d1 hc;go_enter Tryz.func301,Tryz.ntmps301
 go_wp2_with fail
 refine b7.mono ?_;rintro e w1 ⟨n4,G,pc,d,rfl,l1,f7,f8⟩
 dsimp only at f7 f8 |-
 rw[d9];have K:=hid l1;have f4:=hid (f7.len.trans j1.1);have t9:Hd G pl:=by have:=f8.hd;rw[d9]at this;exact this
 clear b7 l1 d9 C;go_wp2_with fail
 go_loopw [19] (fun k wr=>∃(i:Nat),k= .int .i64 i/\i<=pl/\MO (un X G) base 26 41 wr ao cap d (dN E p i)/\OL (a0b .i64) 1 (mz X ao hs) w.heap.size 3 wr G pc p/\ExtX (mb ao hs) w wr) (fun k _=>pl - (intOf k).toNat)
 case atStart=>exact⟨0,rfl,Nat.zero_le _,f7,f8,n4⟩
 case round=>
  obtain⟨i,rfl,hi,C,hP,hE⟩:=hrel;by_cases r0:i<pl
  ·have g8:i<p.length:=by rw[L.out];exact r0
   have b9:i<n:=by omega
   have g3:=l7.out i g8;have o6:=(hP.sl (a0b.elem _)).nat i g8;have hD:=i7.out i (by rw[L.out];omega);have Z:=n0.out i (by rw[L.out];omega);have i5:=n2.out;have q5:Hid (p.getD i 0=p[i]):=hid (by simp[List.getD_eq_getElem?_getD,g8]);have g4:Hid (dN E p (i+1)=dStep (dN E p i) i p[i]):=hid (by rw[<-q5.out];rfl);obtain⟨D,i6⟩:∃D,dN E p i=D:=⟨_,rfl⟩;obtain⟨col,b6⟩:∃col,p[i]=col:=⟨_,rfl⟩;rw[i6]at C hD Z g4;rw[b6]at o6 g3 g4;have c9:Shp n c D:=hD.shp;have n3:=hid c9.1;have z:i<d.length:=by rw[f4.out];exact b9
   have b8:i<D.length:=by rw[n3.out];exact b9
   obtain⟨a,P,cr,U⟩:∃a P cr,d[i]=(a,P,cr):=⟨_,_,_,rfl⟩;obtain⟨row,F⟩:∃row,D[i]=row:=⟨_,rfl⟩;have V:Hid (row.length=c):=hid (by rw[<-F];exact c9.2 _ (List.getElem_mem _));have r6:P=c:=by
    have:=C.rlen i z b8;rw[U,F,V.out]at this;exact this
   subst r6;have hR:=C.row i z b8;rw[F]at hR;simp only[U]at hR;have m4:=fun k (H:ob a k=true)=>C.mz_sub z k (by rw[U];exact H);have h9:=fun k (H:ob a k=true)=>C.sep i z k (by rw[U];exact H);have p9:Hd a P:=by have:=hR.hd;rw[V.out]at this;exact this
   have i3:Hid (un (cut (mz (un X G) ao d) a) a=mz (un X G) ao d):=hid (a9G m4);have j6:Hid (ob a (adr ao i).block=false):=hid (by
    cases hb:ob a (adr ao i).block
    ·rfl
    ·have h1:=(h9 _ hb).2
     obtain⟨b0,o0,rfl⟩:=g6 (by omega);simp[ob,adr]at h1)
   have y1:wr.cell? (adr ao i)=some (.slice a P cr):=by
    have:=(C.hdr i z).1;rw[U]at this;exact this
   have k1:col<row.length:=by rw[V.out];exact g3
   have k0:Hid (row[col]=ent D i col):=hid (by
    unfold ent;rw[a2A b8];simp[F,List.getD_eq_getElem?_getD,k1])
   obtain⟨Q,a0⟩:∃b,ent D i col=b:=⟨_,rfl⟩;have p7:Hid (hq Q<=68719476736):=hid (by rw[<-a0];exact Nat.le_trans (Z i col) (by omega));have f6:Hid (BR 68719476736 row):=hid fun q hq=>by
    obtain⟨x,hx,rfl⟩:=List.getElem_of_mem hq;have:=Z.bm D[i] (List.getElem_mem _) row[x] (by rw[F];exact List.getElem_mem _);omega
   have e9:Hid (D.set i (row.map (· /Q))=divL D i col):=hid (by
    unfold divL;rw[a2A b8,F,a0])
   rw[a0]at k0;have bx:=Bx.new wr #[.bool false, .slice none 0 0, .slice none 0 0] 41;have y:=hid U;have h7:=hid F;clear U F i6 b6 a0;go_wp2_with (first|(with_reducible refine a0m a2b (by omega) (by assumption) ?_)|(with_reducible refine a0m a0q (by omega) (by assumption) ?_)|(with_reducible refine a1D a0J (by omega) (by assumption) ?_)|((with_reducible show wpList _ _ _ (⟨_, .load 41 _,_,_,_,_⟩::_) _ _);refine a5X a0k col hR k1 rfl (by simp) QC.agg ?_;intro u5 e1;rw[k0.out,i3.out]at e1;obtain⟨s5,a5,n5,c5,d5,k5,e5,rfl⟩:=e1.shape)|((with_reducible show wpList _ _ _ (⟨_, .store _ _ _,_,_,_,_⟩::_) _ _);refine a0a a0k rfl rfl bx rfl rfl (a1n _ _ _ _ _ _ _) ?_;intro w5 r1 r2;have y2:=(ExtX.box ((ExtX.refl wr).alloc _) r2 (Nat.le_refl _):Ext wr w5).cell y1))
   have d0:Ext wr w5:=ExtX.box ((ExtX.refl wr).alloc _) r2 (Nat.le_refl _);have j2:=C.ext0 d0;have o3:=hP.ext0 (a0b.elem _) d0;have r7:QV (mk (mz (un X G) ao d) w5) (.agg #[.bool s5, .slice a5 n5 c5, .slice d5 k5 e5]) Q:=(mkx QC.mono e1 d0).qv p7.out;have i8:=hE.trans (ExtX.of (Y:=mb ao hs) d0);obtain⟨O,p6⟩:∃O,wr.heap.size=O:=⟨_,rfl⟩;rw[p6]at r1 |-;have l2:Hid (mb ao hs O=false):=hid (by
    rw[<-K.out];cases hb:mb ao d O
    ·rfl
    ·have:=(C.mb_block hb).2;omega)
   obtain⟨R,d3⟩:∃R,row.map (· /Q)=R:=⟨_,rfl⟩;have d4:Hid (R.length=P):=hid (by rw[<-d3,List.length_map];exact V.out);have b5:Hid (R.length=row.length):=hid (by rw[d4.out,V.out]);have o8:Hid (∀j (h1:j<row.length) (h2:j<R.length),R[j]=row[j]/Q):=hid fun j h1 h2=>by subst d3;simp
   rw[d3]at e9;have j3:MO (un X G) base 26 41 w5 ao cap d (D.set i (mix R row 0)):=by
    rw[a5C,<-h7.out,List.set_getElem_self];exact j2
   clear hR d3 bx y1 y2 j2 e1 C hP;go_loopw [36] (fun k wx=>∃(j:Nat),k= .int .i64 j/\j<=P/\MO (un X G) base 26 41 wx ao cap d (D.set i (mix R row j))/\OL (a0b .i64) 1 (mz X ao hs) w.heap.size 3 wx G pc p/\Bx wx O #[.bool s5, .slice a5 n5 c5, .slice d5 k5 e5] 41/\QV (mk (mz (un X G) ao d) wx) (.agg #[.bool s5, .slice a5 n5 c5, .slice d5 k5 e5]) Q/\ExtX (mb ao hs) w wx) (fun k _=>P - (intOf k).toNat)
   case atStart=>exact⟨0,rfl,Nat.zero_le _,j3,o3,r1,r7,i8⟩
   case round=>
    obtain⟨j,rfl,hj,C,hP,a9,l8,hE⟩:=hrel;by_cases h3:j<P
    ·have q9:j<row.length:=by rw[V.out];exact h3
     have k8:j<R.length:=by rw[d4.out];exact h3
     have r5:Hid ((mix R row j).length=P):=hid (by rw[a2f b5.out,d4.out]);have g9:j<(mix R row j).length:=by rw[r5.out];exact h3
     have l3:Hid ((mix R row j)[j]=row[j]):=hid (by rw[a1W b5.out,if_neg (by omega)]);have k9:Hid ((mix R row j).set j R[j]=mix R row (j+1)):=hid (a7r b5.out k8);have b4:=hid (o8.out j q9 k8);have j9:=hid (f6.out row[j] (List.getElem_mem _));have h8:Hid (i<(D.set i (mix R row j)).length):=hid (by rw[List.length_set];exact b8);have hR:=C.row i z h8.out;rw[List.getElem_set_self]at hR;simp only[y.out]at hR;obtain⟨x,hx⟩:∃x,row[j]=x:=⟨_,rfl⟩;obtain⟨v,hv⟩:∃v,R[j]=v:=⟨_,rfl⟩;rw[hx]at l3 j9 b4;rw[hv]at k9 b4;have p1:HX X wr:=l4.out.ext hE;have p2:HX (un X G) wr:=fun k H=>by
      by_cases hx:X k=true
      ·exact p1 k hx
      ·exact(hP.block (by simpa[un,hx]using H)).2
     have p3:=C.hz p2;obtain⟨g,o,hg⟩:∃g o,adr a (j*3)=⟨g,o,none⟩:=⟨_,_,rfl⟩;have i1:∀W,(Instr.indexAt 25 (.slice ao n cap) (.int .i64 (i:Int))).run Tryz.prog W= .ok (.pointer (some (adr ao i))) W:=a0E a0q ao n cap .i64 i g6 (by omega) rfl;have bx:=Bx.new wr #[.bool false, .slice none 0 0, .slice none 0 0] 41;have y1:wr.cell? (adr ao i)=some (.slice a P cr):=by
      have:=(C.hdr i z).1;rw[y.out]at this;exact this
     have m0:=hid h9
     replace hg:=hid hg
     clear hx hv h9;go_wp2_with (first|(with_reducible refine a1D a0J (by omega) (by assumption) ?_)|((with_reducible show wpList _ _ _ (⟨_, .load 41 _,_,_,_,_⟩::_) _ _);refine a5X a0k j hR g9 rfl (by simp) QC.agg ?_;intro u6 i0;rw[l3.out,i3.out]at i0;obtain⟨s6,a6,n6,c6,d6,k6,e6,rfl⟩:=i0.shape)|((with_reducible show wpList _ _ _ (⟨_, .store _ _ _,_,_,_,_⟩::_) _ _);refine a0a a0k rfl rfl bx rfl rfl (a1n _ _ _ _ _ _ _) ?_;intro w6 r3 r4))
     have i2:∀W,(Instr.indexAt 26 (.slice a P cr) (.int .i64 (j:Int))).run Tryz.prog W= .ok (.pointer (some ⟨g,o,none⟩)) W:=by rw[<-hg.out];exact a0j a0J a P cr .i64 j p9 (by omega)
     have n8:Ext wr w6:=ExtX.box ((ExtX.refl wr).alloc _) r4 (Nat.le_refl _);have i9:Ext w6 w6.drew:=(ExtX.refl w6).drew;have r:=n8.trans i9;have o2:=C.ext0 r;have o4:=hP.ext0 (a0b.elem _) r;have o7:=hR.ext0 QC.elem r;have i4:=a9.ext0 r;have s0:QV (mk (mz (un X G) ao d) w6.drew) (.agg #[.bool s6, .slice a6 n6 c6, .slice d6 k6 e6]) x:=(mkx QC.mono i0 r).qv j9.out;have j7:QV (mk (mz (un X G) ao d) w6.drew) (.agg #[.bool s5, .slice a5 n5 c5, .slice d5 k5 e5]) Q:=mkx QV.mono l8 r;have p0:=p3.ext r;have m8:=r3.ext0 i9;obtain⟨bw,f9⟩:∃bw,wr.heap.size=bw:=⟨_,rfl⟩;rw[f9]at m8;have p5:Hid (ob a bw=false):=hid (by rw[<-f9];exact hR.ob_ge (Nat.le_refl _));have e8:Hid (ob a O=false):=hid (by
      cases hb:ob a O
      ·rfl
      ·have h5:mb ao d O=true:=a2M.2 (.inr (a1s z (show ob d[i].1 O=true by rw[y.out];exact hb)))
       rw[K.out,l2.out]at h5;simp at h5)
     have hS:Hid (∀Y W',ExtX Y w6.drew W'->Y (adr ao i).block=false->Y bw=false->Y O=false->W'.cell? (adr ao i)=some (.slice a P cr)/\W'.cell? ⟨bw,0,none⟩=some (.bool s6)/\W'.cell? ⟨bw,1,none⟩=some (.slice a6 n6 c6)/\W'.cell? ⟨bw,2,none⟩=some (.slice d6 k6 e6)/\W'.cell? ⟨O,0,none⟩=some (.bool s5)/\W'.cell? ⟨O,1,none⟩=some (.slice a5 n5 c5)/\W'.cell? ⟨O,2,none⟩=some (.slice d5 k5 e5)):=hid fun Y W' h s1 s2 s3=>by
      have z2:=m8.ext h s2;have z3:=i4.ext h s3;exact⟨h.cellY (r.cell y1) s1,z2.cell 0 rfl,z2.cell 1 rfl,z2.cell 2 rfl,z3.cell 0 rfl,z3.cell 1 rfl,z3.cell 2 rfl⟩
     obtain⟨s4,s8,s9,t0,t2,t3,t4⟩:=hS.out noY w6.drew (ExtX.refl _) rfl rfl rfl;have qd:=b8b (mz (un X G) ao d) w6.drew _ _ _ _ p0 s0 j7;rw[<-b4.out]at qd;have t5:Calls Tryz.prog 236 #[.agg #[.bool s6, .slice a6 n6 c6, .slice d6 k6 e6], .agg #[.bool s5, .slice a5 n5 c5, .slice d5 k5 e5]] w6.drew (fun e w'=>Ext w6.drew w'/\∃u ec,e= .returned (.tuple #[u, .int .i64 ec])/\QC (mk (mz (un X G) ao d) w') u v):=qd.mono fun e w' ⟨q1,u,q2,q3⟩=>⟨q1,u,_,q2,q3⟩;clear qd r3 bx y1;rw[f9];go_wp2_with fail
     go_region_held3 (fun w'=>w'.cell? (adr ao i)=some (.slice a P cr)/\w'.cell? ⟨bw,0,none⟩=some (.bool s6)/\w'.cell? ⟨bw,1,none⟩=some (.slice a6 n6 c6)/\w'.cell? ⟨bw,2,none⟩=some (.slice d6 k6 e6)/\w'.cell? ⟨O,0,none⟩=some (.bool s5)/\w'.cell? ⟨O,1,none⟩=some (.slice a5 n5 c5)/\w'.cell? ⟨O,2,none⟩=some (.slice d5 k5 e5))
      (first|exact hS.out noY _ t1 rfl rfl rfl|exact hS.out (ob a) _ ((ExtX.of t1).trans f5.2) j6.out p5.out e8.out|go_keep)
      ((go_at_call 236;(with_reducible refine t5.mono ?_);rintro ee w7 ⟨t1,u7,t8,rfl,m2⟩;obtain⟨s7,a7,n7,c7,d7,k7,e7,rfl⟩:=m2.shape;have d2:=o7.ext0 QC.elem t1;obtain⟨_,v0,v1,v2,_,⟨g0,f0⟩,⟨g1,f1⟩,⟨g2,f2⟩,_⟩:=d2.cell3 j g9 hg.out;have f5:=d2.set3 a4V QC.elem j g9 hg.out (v0:= .bool s7) (v1:= .slice a7 n7 c7) (v2:= .slice d7 k7 e7) (x:=v) (by rw[i3.out];exact m2)))
     obtain⟨q1,q2⟩:=f5;rw[k9.out]at q1;obtain⟨w8,m3⟩:∃w8,((w7.setCell ⟨g,o,none⟩ (.bool s7)).setCell ⟨g,o+1,none⟩ (.slice a7 n7 c7)).setCell ⟨g,o+2,none⟩ (.slice d7 k7 e7)=w8:=⟨_,rfl⟩;rw[m3]at q1 q2 |-;have m7:ExtX (ob d[i].1) w7 w8:=by rw[y.out];exact q2
     have j4:=(o2.ext0 t1).upd z (l:=mix R row (j+1)) m7 (fun q6=>by rw[List.getElem_set_self,a2f b5.out,a2f b5.out]) (by rw[y.out];exact q1);rw[List.set_set]at j4;have a4:=(o4.ext0 (a0b.elem _) t1).frame (a0b.pure _) q2 (fun k H=>by
      cases hb:ob a k
      ·rfl
      ·have:=(m0.out k hb).1;rw[a0t H]at this;simp at this) hP.1
     have m9:=(i4.ext0 t1).ext q2 e8.out;have r8:=QV.mono _ _ _ _ (a0r q2 m4) (mkx QV.mono j7 t1);have b2:=(hE.trans (ExtX.of (r.trans t1))).trans (show ExtX (mb ao hs) w7 w8 by rw[<-K.out];exact ExtX.row z m7);clear s4 s8 s9 t0 t2 t3 t4 g0 g1 g2 f0 f1 f2 i1 i2 m3;go_wp2_with fail
     go_roundw
     case rel=>exact⟨j+1,by go_num,by omega,j4,a4,m9,r8,b2⟩
     case measure=>simp[intOf];omega
    ·have q8:j=P:=by omega
     subst q8;rw[a5D (by rw[d4.out];exact Nat.le_refl _) (by rw[V.out];exact Nat.le_refl _),e9.out]at C;obtain⟨f,b1⟩:∃f,divL D i col=f:=⟨_,rfl⟩;have M:Shp n j f:=by rw[<-b1];exact c9.divL b9 col
     have j8:Hid (∀t,t<i->BR 68719476736 (f.getD t [])/\BR 68719476736 (f.getD i [])/\hq ((f.getD t []).getD col 0/(f.getD i []).getD col 0)<=68719476736/\∀x∈f.getD i [],hq ((f.getD t []).getD col 0/(f.getD i []).getD col 0*x)<=68719476736):=hid fun t ht=>by
      rw[<-b1];exact a7T c9 Z b9 (by omega) (by omega) i5
     have k3:Hid (above f i col i=dN E p (i+1)):=hid (by rw[g4.out];unfold dStep;rw[b1]);rw[b1]at C;have e4:=hid M.1;have o1:MO (un X G) base 26 41 wr ao cap d (above f i col 0):=by rw[b0x];exact C
     have g7:i<=cap:=by omega
     have f1:∀W,(Instr.sliceAt 25 (.slice ao n cap) none (some (.int .i64 (i:Int))) none).run Tryz.prog W= .ok (.slice ao i cap) W:=a7U a0q n cap .i64 i g7;have t7:Hd ao i:=fun h0=>g6 (by omega);clear C b1 a9 l8;go_wp2_with fail
     go_loopw [58] (fun k wx=>∃(s:Nat),k= .int .i64 s/\s<=i/\MO (un X G) base 26 41 wx ao cap d (above f i col s)/\OL (a0b .i64) 1 (mz X ao hs) w.heap.size 3 wx G pc p/\ExtX (mb ao hs) w wx) (fun k _=>i - (intOf k).toNat)
     case atStart=>exact⟨0,rfl,Nat.zero_le _,o1,hP,hE⟩
     case round=>
      obtain⟨s,rfl,u2,A,a4,b2⟩:=hrel;by_cases l0:s<i
      ·have m1:s<n:=by omega
       have N:s<d.length:=by rw[f4.out];exact m1
       have c4:s<f.length:=by rw[e4.out];exact m1
       have h6:i<f.length:=by rw[e4.out];exact b9
       have e0:s<(above f i col s).length:=by rw[a3I];exact c4
       have l6:i<(above f i col s).length:=by rw[a3I];exact h6
       obtain⟨a1,n1,c1,J⟩:∃a n c,d[s]=(a,n,c):=⟨_,_,_,rfl⟩;have g5:(above f i col s)[s]=f[s]:=by rw[a3H e0 c4,if_neg (by omega)]
       have k4:(above f i col s)[i]=f[i]:=by rw[a3H l6 h6,if_neg (by omega)]
       have l5:n1=j:=by
        have:=A.rlen s N e0;rw[J,g5,M.2 _ (List.getElem_mem _)]at this;exact this
       subst l5;have b3:=A.row s N e0;have a8:=A.row i z l6;rw[g5]at b3;rw[k4]at a8;simp only[J]at b3;simp only[y.out]at a8;have m5:=fun k (H:ob a1 k=true)=>A.mz_sub N k (by rw[J];exact H);have m6:=fun k (H:ob a k=true)=>A.mz_sub z k (by rw[y.out];exact H);have q0:∀k,ob a1 k=true->ob a k=false:=fun k H=>by
        have:=A.dis s i N z (by omega) k (by rw[J];exact H);rw[y.out]at this;exact this
       have l9:=fun k (H:ob a1 k=true)=>A.sep s N k (by rw[J];exact H);have T:=j8.out s l0;rw[a2A c4]at T;have k2:Hid ((above f i col s).set s (a2H f[s] (f.getD i []) col)=above f i col (s+1)):=hid (b1I c4 l0);have h4:f.getD i []=f[i]:=a2A h6;rw[<-h4]at a8;have c2:=hid (M.2 f[s] (List.getElem_mem _));have a3:=hid (show(f.getD i []).length=n1 by rw[h4];exact M.2 _ (List.getElem_mem _));obtain⟨e3,I⟩:∃e3,f[s]=e3:=⟨_,rfl⟩;obtain⟨e2,a2⟩:∃e2,f.getD i []=e2:=⟨_,rfl⟩;rw[I,a2]at k2;rw[I]at b3 c2;rw[a2]at a8 a3;rw[I,a2]at T;have o9:HX (un X G) wr:=fun k H=>by
        by_cases hx:X k=true
        ·exact l4.out.ext b2 k hx
        ·exact(a4.block (by simpa[un,hx]using H)).2
       have p4:=A.hz o9;have q4:=a4G (mz (un X G) ao d) base wr a1 a c1 cr n1 col e3 e2 p4 b3 a8 m5 m6 q0 c2.out a3.out (by omega) g3 T.1 T.2.1 T.2.2.1 T.2.2.2;have y1:wr.cell? (adr ao s)=some (.slice a1 n1 c1):=by
        have:=(A.hdr s N).1;rw[J]at this;exact this
       have y2:wr.cell? (adr ao i)=some (.slice a n1 cr):=by
        have:=(A.hdr i z).1;rw[y.out]at this;exact this
       have f3:=hid J;clear g5 k4 h4 I a2 J b3 a8 T f1;go_wp2_with (with_reducible refine a0m a0q (by omega) (by assumption) ?_)
       refine q4.mono ?_;rintro ee w7 ⟨rfl,t1,d2⟩;have j0:ExtX (ob d[s].1) wr w7:=by rw[f3.out];exact t1
       have j5:=A.upd N (l:=a2H e3 e2 col) j0 (fun q6=>by
        rw[a3H e0 c4,if_neg (by omega),a3q _ _ _ (by rw[c2.out,a3.out]),a3.out];exact(M.2 _ (List.getElem_mem _)).symm) (by rw[f3.out];exact d2)
       rw[k2.out]at j5;have o5:=a4.frame (a0b.pure _) t1 (fun k H=>by
        cases hb:ob a1 k
        ·rfl
        ·have:=(l9 k hb).1;rw[a0t H]at this;simp at this) a4.1
       have n9:=b2.trans (show ExtX (mb ao hs) wr w7 by rw[<-K.out];exact ExtX.row N j0);clear y1 y2;go_wp2_with fail
       go_roundw
       case rel=>exact⟨s+1,by go_num,by omega,j5,o5,n9⟩
       case measure=>simp[intOf];omega
      ·have r9:s=i:=by omega
       subst r9;rw[k3.out]at A;go_wp2_with fail
       go_roundw
       case rel=>exact⟨s+1,by go_num,by omega,A,a4,b2⟩
       case measure=>simp[intOf];omega
  ·have q7:i=pl:=by omega
   subst q7;rw[<-L.out]at C;go_wp2_with fail
   go_ret
   exact⟨hE,G,pc,d,by rw[L.out];rfl,K.out,C,hP⟩
def b8v(X:Nat->Bool)(w:World)(m:List (List Rat))(p:List Nat)(e:Ending)(w':World):Prop:=Ext w w'/\∃u v,e= .returned (.tuple #[u,v, .int .i64 0])/\MC (mk X w') u m/\SlV (a0b .i64) 1 (mk X w') v p
theorem b0y(X:Nat->Bool)(w:World)(u:Value)(m:List (List Rat))(r:HX X w)(t:MV (mk X w) u m)(n:a1o m=true)(z:b2M m (a0n m)):Calls Tryz.prog 251 #[u] w (b8v X w (a1C m (a0n m)).1 (a1C m (a0n m)).2):=by
 obtain⟨a,y,s,_,_⟩:=a1V n;have f:=a6D X w u m t (by omega);rw[n]at f;have l:=a6E X w u m m.length (a0n m) r t a rfl (by omega) (by omega);have q:=hid (a2a a).1;clear n;go_enter Tryz.func251,Tryz.ntmps251
 go_wp2_with fail
 refine f.mono ?_;rintro e w1 ⟨rfl,rfl⟩;go_wp2_with fail
 refine l.mono ?_;rintro e C ⟨b,ao,cap,hs,rfl,c⟩;go_wp2_with fail
 refine(a8K X _ C ao cap m.length (a0n m) hs m (r.ext b) c a rfl (by omega) (by omega) z).mono ?_;rintro e D ⟨h,x,v,B,rfl,A,j,d⟩;have i:=c.ext_from b (Nat.le_refl _) h;have g:=MC.mono _ _ _ _ (a1N (X:=X) fun k _ o=>a0o o) j.mc;have p:SlV (a0b .i64) 1 (mk X D) (.slice x (a1C m (a0n m)).2.length v) (a1C m (a0n m)).2:=⟨x,v,rfl,d.lenCap,(d.sl (a0b.elem _)).mono (a0b.mono _) (a1N fun k _ o=>a2h.2 (.inl o))⟩;rw[q.out.1]at g;go_wp2_with fail
 go_ret3
 exact⟨i,_,_,rfl,g,p⟩
end Go.Proofs.YtnnpfhoigmegcaaGreat
namespace Go.Lin
open Go.Lim
def xN(R:Mat)(p:List Nat)(c col:Nat):Nat->List Rat
 |0=>(List.replicate c 0).set col 1
 |i+1=>(xN R p c col i).set (p.getD i 0) (- ent R i col)
theorem a6F(R:Mat)(p:List Nat)(c col i:Nat):(xN R p c col i).length=c:=by
 induction i with
 |zero=>show((List.replicate c (0:Rat)).set col 1).length=c;rw[List.length_set,List.length_replicate]
 |succ i ih=>show((xN R p c col i).set _ _).length=c;rw[List.length_set,ih]
theorem b7v{n c col:Nat}{R:Mat}{p:List Nat}(hr:Rref n c (ent R) p)(hcp:col∉p)(i:Nat)(hi:i<=p.length)(x:Nat)(hx:x<c):(xN R p c col i).getD x 0=if x=col then 1 else match p.findIdx? (· ==x)with|some k=>if k<i then - ent R k col else 0|none=>0:=by
 induction i with
 |zero=>
  show((List.replicate c (0:Rat)).set col 1).getD x 0=_
  rw[List.getD_eq_getElem?_getD,List.getElem?_set,List.length_replicate];by_cases h:col=x
  ·subst h;rw[if_pos rfl,if_pos hx,if_pos rfl];rfl
  ·rw[if_neg h,if_neg (Ne.symm h)]
   have:((List.replicate c (0:Rat))[x]?).getD 0=0:=by simp[hx]
   rw[this];cases p.findIdx? (· ==x)<;>simp
 |succ i ih=>
  have hip:i<p.length:=by omega
  have hpi:p.getD i 0=p[i]:=by simp[List.getD_eq_getElem?_getD,hip]
  show((xN R p c col i).set (p.getD i 0) (- ent R i col)).getD x 0=_
  rw[hpi,List.getD_eq_getElem?_getD,List.getElem?_set,a6F];by_cases h:p[i]=x
  ·have hxc:x≠col:=by rintro rfl;exact hcp (h▸List.getElem_mem _)
   rw[if_pos h,if_pos (by omega),if_neg hxc,<-h,hr.idx i hip];simp
  ·rw[if_neg h,<-List.getD_eq_getElem?_getD,ih (by omega)]
   cases hf:p.findIdx? (· ==x)with
   |none=>rfl
   |some k=>
    obtain⟨hk1,hk2,_⟩:=List.findIdx?_eq_some_iff_getElem.1 hf;have hki:k≠i:=by rintro rfl;exact h (by simpa using hk2)
    dsimp only
    by_cases h2:k<i
    ·rw[if_pos h2,if_pos (show k<i+1 by omega)]
    ·rw[if_neg h2,if_neg (show¬k<i+1 by omega)]
theorem b1L{n c col:Nat}{R:Mat}{p:List Nat}(hr:Rref n c (ent R) p)(hcp:col∉p):xN R p c col p.length=(List.range c).map (nv (ent R) p col):=by
 refine List.ext_getElem (by rw[a6F];simp) fun x h1 h2=>?_;have hx:x<c:=by rw[a6F]at h1;exact h1
 have:=b7v hr hcp _ (Nat.le_refl _) x hx;rw[List.getD_eq_getElem?_getD,List.getElem?_eq_getElem h1]at this;rw[show(xN R p c col p.length)[x]=_ from this];simp only[List.getElem_map,List.getElem_range];unfold nv;by_cases h:x=col
 ·rw[if_pos h,if_pos h]
 ·rw[if_neg h,if_neg h]
  cases hf:p.findIdx? (· ==x)with
  |none=>rfl
  |some k=>
   obtain⟨hk1,_⟩:=List.findIdx?_eq_some_iff_getElem.1 hf
   dsimp only
   rw[if_pos hk1]
def a3c(r:F2)(p:List Nat)(c k:Nat):Mat:=((List.range k).filter (· ∉p)).map fun j=>(List.range c).map (nv r p j)
theorem a6G(r:F2){p:List Nat}(c:Nat){k:Nat}(h:k∈p):a3c r p c (k+1)=a3c r p c k:=by
 unfold a3c;rw[List.range_succ,List.filter_append];simp[h]
theorem a6H(r:F2){p:List Nat}(c:Nat){k:Nat}(h:k∉p):a3c r p c (k+1)=a3c r p c k++[(List.range c).map (nv r p k)]:=by
 unfold a3c;rw[List.range_succ,List.filter_append,List.map_append];simp[h]
theorem b5Z{m:Mat}{c:Nat}(h:b2M m c):Go.Rep.BM 9817068105 (a1C m c).1:=by
 obtain⟨B,d,_,a⟩:=h;have:=(a _ (Nat.le_refl _)).bm;exact fun r b q hq=>Nat.le_trans (this r b q hq) (by omega)
end Go.Lin
namespace Go.Proofs.YtnnpfhoigmegcaaGreat
open Go.RowKit Go.Rep Go.Lim Go.Lin
theorem a7V(X:Nat->Bool)(w:World)(ao:Option Addr)(l:List Nat)(n c x:Nat)(hs:Sl (a0b .i64) 1 (mk X w) ao l)(m:l.length=n)(z:n<=1000000):Calls Tryz.prog 303 #[.slice ao n c, .int .i64 (x:Int)] w (fun e w'=>w'=w/\∃k:Int,e= .returned (.int .i64 k)/\(0<=k↔x∈l)):=by
 have v:Hd ao n:=by have:=hs.hd;rw[m]at this;exact this
 have a:=hid m;clear m;go_enter Tryz.func303,Tryz.ntmps303
 go_wp2_with fail
 go_loopw [8] (fun k wr=>∃(i:Nat),k= .int .i64 i/\i<=n/\Hid (∀q (hq:q<l.length),q<i->l[q]≠x)/\wr=w) (fun k _=>n - (intOf k).toNat)
 case atStart=>exact⟨0,rfl,Nat.zero_le _,hid (fun q hq h=>by omega),rfl⟩
 case round=>
  obtain⟨i,rfl,hi,b,rfl⟩:=hrel;by_cases o:i<n
  ·have j:i<l.length:=by rw[a.out];exact o
   have t:=hs.nat i j;by_cases hx:l[i]=x
   ·have g:((x:Int)==(l[i]:Int))=true:=b3h (by omega)
    have p:Hid (x∈l):=hid (hx▸List.getElem_mem _);obtain⟨y,f⟩:∃y,(l[i]:Int)=y:=⟨_,rfl⟩;rw[f]at t g;clear hx f;go_wp2_with (with_reducible refine a0m a2b (by omega) (by assumption) ?_)
    go_ret
    exact⟨rfl,_,rfl,⟨fun _=>p.out,fun _=>by omega⟩⟩
   ·have g:((x:Int)==(l[i]:Int))=false:=a2v (by omega)
    have d:Hid (∀q (hq:q<l.length),q<i+1->l[q]≠x):=hid fun q hq u=>by
     by_cases h:q=i
     ·subst h;exact hx
     ·exact b.out q hq (by omega)
    obtain⟨y,f⟩:∃y,(l[i]:Int)=y:=⟨_,rfl⟩;rw[f]at t g;clear hx f;go_wp2_with (with_reducible refine a0m a2b (by omega) (by assumption) ?_)
    go_roundw
    case rel=>exact⟨i+1,by go_num,by omega,d,trivial⟩
    case measure=>simp[intOf];omega
  ·have r:Hid (x∉l):=hid fun p=>by
    obtain⟨q,hq,s⟩:=List.getElem_of_mem p;exact b.out q hq (by rw[a.out]at hq;omega) s
   go_wp2_with fail
   go_ret
   exact⟨rfl,_,rfl,⟨fun h=>by omega,fun h=>absurd h r.out⟩⟩
theorem a7W(X:Nat->Bool)(w:World)(ao:Option Addr)(l:List Nat)(n c x:Nat)(hs:Sl (a0b .i64) 1 (mk X w) ao l)(b:l.length=n)(d:n<=1000000):Calls Tryz.prog 253 #[.slice ao n c, .int .i64 (x:Int)] w (fun e w'=>w'=w/\e= .returned (.bool (decide (x∈l)))):=by
 have f:=a7V X w ao l n c x hs b d;clear hs b d;go_enter Tryz.func253,Tryz.ntmps253
 go_wp2_with fail
 refine f.mono ?_;rintro e w1 ⟨rfl,k,rfl,a⟩;have hd:Hid (decide (0<=k)=decide (x∈l)):=hid (decide_eq_decide.2 a);clear a;go_wp2_with fail
 go_ret
 exact⟨rfl,a0p hd.out⟩
theorem b6a(X:Nat->Bool)(w:World)(u:Value)(m:List (List Rat))(n c:Nat)(hX:HX X w)(hu:MV (mk X w) u m)(hf:a1o m=true)(Y:m.length=n)(i:a0n m=c)(hT:b2M m c):Calls Tryz.prog 205 #[u] w (b5X X w (a1Y (ent (a1C m c).1) (a1C m c).2 c)):=by
 obtain⟨a5,f1,d0,e1,_⟩:=a1V hf;rw[Y,i]at a5;rw[Y]at f1;rw[i]at d0;have A:=b0y X w u m hX hu hf (by rw[i];exact hT);rw[i]at A;have z:=hid (fun w' (h:Ext w w')=>a4f X w' u m (mkx MV.mono hu h));rw[i]at z;have s:=a2a a5;have T:=hid (b5Z hT);obtain⟨⟨R,p⟩,c2⟩:∃S,a1C m c=S:=⟨_,rfl⟩;rw[c2]at A s T |-
 dsimp only at A s T |-
 have C:=hid s.1;have c3:=hid s.2.1;obtain⟨F,e0⟩:∃F,p.length=F:=⟨_,rfl⟩;have b:=hid e0;have j1:F<=n:=by have:=s.2.1.le;omega
 have U:Hid (a3c (ent R) p c c=a1Y (ent R) p c):=hid rfl;obtain⟨ua,j5,rfl,e4,g9⟩:=hu;clear s hT a5 hf Y i c2 e4 g9 e1 e0;go_enter Tryz.func205,Tryz.ntmps205
 go_wp2_with fail
 refine A.mono ?_;rintro e w1 ⟨B,ur,uv,rfl,h0,h4⟩;obtain⟨ra,j4,rfl,i4,e2⟩:=h0;obtain⟨pa,i0,rfl,i3,a0⟩:=h4;have i9:Hd ra n:=by have:=e2.hd;rw[C.out.1]at this;exact this
 have i8:Hd pa F:=by have:=a0.hd;rw[b.out]at this;exact this
 have f5:=hX.ext B;rw[C.out.1,b.out];clear A;go_wp2_with fail
 refine(z.out w1 B).mono ?_;rintro e w2 ⟨rfl,rfl⟩;go_wp2_with fail
 go_loopw [7,23] (fun o kk wr=>∃(k q:Nat) (oo:Option Addr) (co:Nat),kk= .int .i64 k/\o= .slice oo q co/\k<=c/\q<=k/\Hid ((a3c (ent R) p c k).length=q)/\OL RC 1 X w2.heap.size 26 wr oo co (a3c (ent R) p c k)/\Ext w2 wr) (fun _ kk _=>c - (intOf kk).toNat)
 case atStart=>exact⟨0,0,none,0,rfl,rfl,Nat.zero_le _,Nat.le_refl _,hid rfl,OL.nil _ _ _ _ _ _,ExtX.refl _⟩
 case round=>
  obtain⟨k,q,oo,co,rfl,rfl,W,j2,r,I,G⟩:=hrel;by_cases d6:k<c
  ·have c4:HX X wr:=f5.ext G
   have P:HX (un X oo) wr:=I.unX c4;have a:=a7W X wr pa p F i0 k (a0.mono (a0b.mono _) (a0l G)) b.out (by omega);have i6:=G.size;by_cases f:k∈p
   ·rw[decide_eq_true f]at a
    have g5:=hid (a6G (ent R) c f);clear f;go_wp2_with fail
    refine a.mono ?_;rintro e w3 ⟨rfl,rfl⟩;rw[<-g5.out]at I r;go_wp2_with fail
    go_roundw
    case rel=>exact⟨k+1,q,oo,co,by go_num,rfl,by omega,by omega,r,I,G⟩
    case measure=>simp[intOf];omega
   ·rw[decide_eq_false f]at a
    have a2:=hid (a6H (ent R) c f);have e7:=hid (b1L c3.out f);rw[b.out]at e7;have d1:=z.out wr (B.trans G);clear f;obtain⟨wo,h6⟩:∃wo,wo=wr:=⟨_,rfl⟩;subst h6;go_wp2_with fail
    refine a.mono ?_;rintro e w3 ⟨rfl,rfl⟩;go_wp2_with fail
    refine d1.mono ?_;rintro e w4 ⟨rfl,rfl⟩;clear a d1;go_wp2_with ((with_reducible show wpList _ _ _ (⟨_, .makeSlice _ _ _,_,_,_,_⟩::_) _ _);refine a1G (R:=QC) a0J QC.elem (0:Rat) (fun _=>QC.zero _) (un X oo) P w4.heap.size (Nat.le_refl _) c rfl rfl rfl (by omega) (by omega) ?_;intro xo w5 t b5)
    have g3:=hid (fun k (W:ob xo k=true)=>t.block W);have j3:Hd xo c:=by have:=t.hd;rw[List.length_replicate]at this;exact this
    obtain⟨Z,Q⟩:∃Z,un (un X oo) xo=Z:=⟨_,rfl⟩;have D:=hid Q;have f6:HX Z w5:=by rw[<-Q];exact t.unX (P.ext b5)
    have d7:=hid (fun k (W:ob oo k=true)=>I.block W);have c5:=hid c4;have a7:Hid (∀k,k<w2.heap.size->Z k=true->X k=true):=hid fun k W hz=>by
     rw[<-D.out]at hz;by_cases h1:X k=true
     ·exact h1
     ·by_cases h2:ob oo k=true
      ·have:=(d7.out k h2).1;omega
      ·have h3:ob xo k=true:=by simpa[un,h1,h2]using hz
       have:=(g3.out k h3).1;omega
    have b0:((1:Int):Rat)=1:=by decide+kernel
    have a4:=b3w Z w5 1 f6 (by omega) (by omega);rw[b0]at a4;have g0:k<(List.replicate c (0:Rat)).length:=by rw[List.length_replicate];exact d6
    clear b0 Q;go_wp2_with fail
    refine a4.mono ?_;rintro e w6 ⟨b6,u6,rfl,g8⟩;have O:=t.ext0 QC.elem b6;go_wp2_with (first|(with_reducible refine a1D a0J (by omega) (by assumption) ?_)|((with_reducible show wpList _ _ _ (⟨_, .store 41 _ _,_,_,_,_⟩::_) _ _);refine a1t a4V QC.elem k rfl (by simp) O g0 _ 1 rfl (by rw[D.out];exact g8) ?_;intro w7 f4 f2))
    have b4:Ext w4 w7:=(b5.trans b6).own O (Nat.le_refl _) f2;clear a4 t O;go_loopw [38] (fun kk wi=>∃(j:Nat),kk= .int .i64 j/\j<=F/\OL QC 3 (un X oo) w4.heap.size 41 wi xo c (xN R p c k j)/\Ext w4 wi) (fun kk _=>F - (intOf kk).toNat)
    case atStart=>exact⟨0,rfl,Nat.zero_le _,f4,b4⟩
    case round=>
     obtain⟨j,rfl,hj,g,d⟩:=hrel;have H:=G.trans d;by_cases g2:j<F
     ·have V:j<p.length:=by rw[b.out];exact g2
      have d9:=(a0.mono (a0b.mono _) (a0l H)).nat j V;have N:Hid (p[j]<c):=hid (c3.out.lt j V);have d2:Hid (p.getD j 0=p[j]):=hid (by simp[List.getD_eq_getElem?_getD,V]);obtain⟨y,hy⟩:∃y,p[j]=y:=⟨_,rfl⟩;rw[hy]at d9 N d2;have h7:y<c:=N.out;have d3:j<R.length:=by rw[C.out.1];omega
      have g4:Sl RC 1 (mk Z wr) ra R:=e2.mono RC.mono (a0T H (fun k _ W=>by simp[noY]at W) a7.out);obtain⟨a1,c1,i2,c9,M,a3⟩:=g4.row j d3;have a9:=c9.out noY wr (ExtX.refl _) rfl;have E:Hid (R[j].length=c):=hid (C.out.2 _ (List.getElem_mem _));have e6:Hid (∀h:k<R[j].length,R[j][k]=ent R j k):=hid fun h=>by unfold ent;rw[show R.getD j []=R[j]by simp[List.getD_eq_getElem?_getD,d3]];simp[List.getD_eq_getElem?_getD,h]
      have c7:=hid (T.out R[j] (List.getElem_mem _));obtain⟨x,hx⟩:∃x,R[j]=x:=⟨_,rfl⟩;rw[hx]at a9 M a3 E e6 c7;rw[E.out]at a9 M;have i7:Hd a1 c:=by have:=a3.hd;rw[E.out]at this;exact this
      have d4:k<x.length:=by rw[E.out];exact d6
      have e9:=hid (e6.out d4);have c6:=hid (c7.out x[k] (List.getElem_mem _));have f7:HX Z wr:=by
       rw[<-D.out];exact g.unX (P.ext d)
      have h8:y<(xN R p c k j).length:=by rw[a6F];exact h7
      have g6:Hid ((xN R p c k j).set y (- ent R j k)=xN R p c k (j+1)):=hid (by rw[<-d2.out];rfl);obtain⟨v,hv⟩:∃v,x[k]=v:=⟨_,rfl⟩;rw[hv]at e9 c6;have h5:=hid hv;clear hx c9 hy hv;go_wp2_with (first|(with_reducible refine a0m a2b (by omega) (by assumption) ?_)|(with_reducible refine a0m a0q (by omega) (by assumption) ?_)|(with_reducible refine a1D a0J (by omega) (by assumption) ?_)|((with_reducible show wpList _ _ _ (⟨_, .load 41 _,_,_,_,_⟩::_) _ _);refine a0W a0k k a3 d4 rfl (by simp) QC.agg ?_;intro u8 a6;rw[h5.out]at a6;obtain⟨s8,a8,n8,c8,d8,k8,e8,rfl⟩:=a6.shape))
      refine(b8n Z wr _ v f7 (a6.qv (by have:=c6.out;omega))).mono ?_;rintro e w9 ⟨b7,u9,rfl,e3⟩;have b9:=g.ext0 QC.elem b7;rw[e9.out]at e3;clear a9 d9;go_wp2_with (first|(with_reducible refine a1D a0J (by omega) (by assumption) ?_)|((with_reducible show wpList _ _ _ (⟨_, .store 41 _ _,_,_,_,_⟩::_) _ _);refine a1t a4V QC.elem y rfl (by simp) b9 h8 _ (- ent R j k) rfl (by rw[D.out];exact e3) ?_;intro i1 J b1))
      rw[g6.out]at J;have b8:Ext w4 i1:=(d.trans b7).own b9 (Nat.le_refl _) b1;go_roundw
      case rel=>exact⟨j+1,by go_num,by omega,J,b8⟩
      case measure=>simp[intOf];omega
     ·have f8:j=F:=by omega
      subst f8;rw[e7.out]at g;obtain⟨L,hL⟩:∃L,(List.range c).map (nv (ent R) p k)=L:=⟨_,rfl⟩;rw[hL]at g a2;have f3:L.length=c:=by rw[<-hL];simp
      have g7:=g.sl QC.elem;have g1:=g.lenCap;have c0:=I.ext0 RC.elem d;have i5:=d.size;clear hL;go_wp2_with (at_builtin;refine a0H (l:=a3c (ent R) p c k) a0q rfl RC.elem (by omega) (c5.out.ext d) q r.out rfl rfl c0 (.slice xo c c) L rfl ⟨xo,c,by rw[f3],g1,g7⟩ (by omega) (by omega) ?_;intro h9 f0 j6 K b2 j0)
      have b3:=(G.trans d).own c0 (Nat.le_refl _) b2;rw[<-a2.out]at K;have d5:Hid ((a3c (ent R) p c (k+1)).length=q+1):=hid (by rw[a2.out,List.length_append,r.out];rfl);go_roundw
      case rel=>exact⟨k+1,q+1,h9,f0,by go_num,by go_num,by omega,by omega,d5,K,b3⟩
      case measure=>simp[intOf];omega
  ·have f9:k=c:=by omega
   subst f9;rw[U.out]at I r;have hc:=I.lenCap;have hs:=I.sl RC.elem;go_wp2_with fail
   go_ret2
   exact⟨B.trans G, .slice oo q co,rfl,oo,co,by rw[r.out],hc,hs⟩
end Go.Proofs.YtnnpfhoigmegcaaGreat
namespace Go.Lin
open Go.Lim
def fn(l:List Rat):Nat->Rat:=fun i=>l.getD i 0
theorem NS.congr{n c:Nat}{f d:F2}{y k b l:Nat->Rat}(h:NS n c f y b)(g:Eqm n c f d)(o:∀i,i<n->y i=k i)(m:∀j,j<c->b j=l j):NS n c d k l:=fun i hi=>by
 have e1:∀j,j<c->gr n f i j=gr n d i j:=fun j e=>a0s fun r a=>by rw[g r a i hi,g r a j e]
 have e2:gy n f y i=gy n d k i:=a0s fun r a=>by rw[g r a i hi,o r a]
 rw[<-e2,<-h i hi];exact a0s fun j e=>by rw[e1 j e,m j e]
theorem Nul.congr{n c:Nat}{f a:F2}{x:Nat->Rat}(h:Nul n c f x)(e:Eqm n c f a):Nul n c a x:=((RE.same e).nul x).1 h
def a1K(l:List Rat):Rat:=sm l.length (fn l)
theorem b1M:∀(n:Nat) (F:Nat->Rat),sm (n+1) F=F 0+sm n fun i=>F (i+1)
 |0,F=>by show(0:Rat)+F 0=F 0+0;grind
 |n+1,F=>by
  show sm (n+1) F+F (n+1)=_
  rw[b1M n F]
  show _=F 0+(sm n (fun i=>F (i+1))+F (n+1))
  grind
theorem a3d:a1K []=0:=rfl
theorem a0X(x:Rat)(l:List Rat):a1K (x::l)=x+a1K l:=by
 unfold a1K;rw[List.length_cons,b1M];rfl
theorem a9H(a b:List Rat):a1K (a++b)=a1K a+a1K b:=by
 induction a with
 |nil=>rw[a3d,List.nil_append];grind
 |cons x a ih=>rw[List.cons_append,a0X,a0X,ih];grind
theorem a3J{a b:List Rat}(h:a.Perm b):a1K a=a1K b:=by
 induction h with
 |nil=>rfl
 |cons x _ ih=>rw[a0X,a0X,ih]
 |swap x y l=>rw[a0X,a0X,a0X,a0X];grind
 |trans _ _ h1 h2=>exact h1.trans h2
def srt(l:List Rat):List Rat:=l.mergeSort fun a b=>decide (a<=b)
theorem a1Q(l:List Rat):(srt l).Perm l:=List.mergeSort_perm _ _
theorem a4Z(l:List Rat):(srt l).length=l.length:=(a1Q l).length_eq
theorem a9I(l:List Rat):(srt l).Pairwise (· <= ·):=by
 have:=List.pairwise_mergeSort (le:=fun(a b:Rat)=>decide (a<=b)) (fun a b c d e=>by simp only[decide_eq_true_eq]at*;exact Rat.le_trans d e) (fun a b=>by simp only[Bool.or_eq_true,decide_eq_true_eq];exact Rat.le_total) l;exact this.imp fun h=>by simpa using h
theorem a7t{s l:List Rat}(e:s.Perm l)(hs:s.Pairwise (· <= ·)):s=srt l:=
 List.Perm.eq_of_pairwise (le:=fun a b=>a<=b) (fun _ _ _ _ c d=>Rat.le_antisymm c d) hs (a9I l) (e.trans (a1Q l).symm)
def rkA(k t:Int)(n:Nat):Nat:=if k=1 then 0 else if k=2 then(n+1)/2 - 1 else if k=3 then n/2 else if k=4 then(n+1)/2 - 1 else t.toNat
def rkB(k t:Int)(n:Nat):Nat:=if k=1 then n else if k=2 then(n+1)/2 else if k=3 then n/2+1 else if k=4 then n/2+1 else n - t.toNat
def a9J(k t:Int):Prop:=1<=k/\k<=5/\0<=t/\(k=5\/t=0)
def b3G(k t:Int)(n:Nat):Prop:=1<=n/\(k≠5\/t<=((n - 1)/2:Nat))
theorem b8w{k t:Int}{n:Nat}(h:a9J k t)(a:b3G k t n):rkA k t n<rkB k t n/\rkB k t n<=n:=by
 obtain⟨d,e,f,g⟩:=h;obtain⟨b,c⟩:=a;unfold rkA rkB
 repeat' split
 all_goals omega
def Btw(s:List Rat)(c:Nat)(z:Rat):Prop:=(∀x∈s.take c,x<=z)/\(∀x∈s.drop c,z<=x)
theorem b6b{l:List Rat}{c:Nat}{z:Rat}(h:Btw (srt l) c z):srt (l++[z])=(srt l).take c++z::(srt l).drop c:=by
 refine(a7t ?_ ?_).symm
 ·refine List.perm_middle.trans ?_
  rw[List.take_append_drop];exact((a1Q l).cons z).trans (List.perm_append_singleton z l).symm
 ·have e:=a9I l
  rw[<-List.take_append_drop c (srt l),List.pairwise_append]at e;rw[List.pairwise_append];refine⟨e.1,List.pairwise_cons.2 ⟨h.2,e.2.1⟩,fun a f b d=>?_⟩;rcases List.mem_cons.1 d with rfl|d
  ·exact h.1 a f
  ·exact Rat.le_trans (h.1 a f) (h.2 _ (by
    have:b∈(srt l).drop c:=d;exact this)|>fun g=>g)
end Go.Lin
