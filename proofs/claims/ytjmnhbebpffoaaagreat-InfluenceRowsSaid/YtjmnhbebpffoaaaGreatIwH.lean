/- Parts of a proof: each theorem states what it proves, and its conditions. -/
import Derived.Test.YtjmnhbebpffoaaaGreatIwG
set_option maxRecDepth 100000
set_option maxHeartbeats 1600000
namespace Go.Proofs.YtjmnhbebpffoaaaGreat
open Go.RowKit
theorem a9F{n c:Nat}{m:Mat}(h:Shp n c m)(a:1<=n):colsL m=c:=by
 rw[a1i (by rw[h.1];exact a)];exact h.2 _ (c1E _)
theorem b2X{n c:Nat}{m:Mat}(h:Shp n c m)(e:n<=96)(f:1<=c)(b:c<=96):a0A m=true:=by
 refine a1O.2 ⟨by rw[h.1];exact e,fun i d=>?_⟩;have a:=h.2 _ (c1E d);refine⟨by omega,by omega,?_⟩;rw[a,a9F h (by have:=h.1;omega)]
theorem a6C{B:Nat}{m:Mat}(h:YtjmnhbebpffoaaaGreat.BM B m)(a:1<=B):HB B m:=fun i j=>by
 unfold ent;by_cases b:i<m.length
 ·have e:m.getD i []=m[i]:=by simp[List.getD_eq_getElem?_getD,b]
  rw[e];by_cases c:j<(m[i]).length
  ·have:=h m[i] (c1E _) (m[i])[j] (c1E _)
   simpa[List.getD_eq_getElem?_getD,c]using this
  ·rw[List.getD_eq_getElem?_getD,List.getElem?_eq_none (by omega)]
   show hq 0<=B
   rw[a0U];exact a
 ·rw[List.getD_eq_getElem?_getD (l:=m),List.getElem?_eq_none (by omega)]
  show hq 0<=B
  rw[a0U];exact a
theorem a5H{B:Nat}{m:Mat}(h:HB B m):YtjmnhbebpffoaaaGreat.BM B m:=fun r c q hq=>by
 obtain⟨i,a,rfl⟩:=List.getElem_of_mem c;obtain⟨j,b,rfl⟩:=List.getElem_of_mem hq;have:=h i j;simpa[ent,List.getD_eq_getElem?_getD,a,b]using this
theorem a4e{m:Mat}{v:List Rat}{i:Nat}(a:i<m.length)(h:i<(a2w m v).length):(a2w m v)[i]=a2S m[i] v:=by simp[a2w]
theorem a5Z{a b:Mat}{n c i:Nat}(d:i<a.length)(h:i<(a6f a b n c).length):(a6f a b n c)[i]=a2w (trL b n c) a[i]:=by simp[a6f]
theorem b0N(a b:Mat)(n c:Nat):(a6f a b n c).length=a.length:=by simp[a6f]
theorem b2Y{B:Nat}{x:List Rat}(b:YtjmnhbebpffoaaaGreat.BR B x)(a:1<=B)(q:Nat):hq (x.getD q 0)<=B:=by
 by_cases h:q<x.length
 ·rw[List.getD_eq_getElem?_getD,List.getElem?_eq_getElem h];exact b _ (c1E h)
 ·rw[List.getD_eq_getElem?_getD,List.getElem?_eq_none (by omega)]
  show hq 0<=B
  rw[a0U];exact a
theorem a1D{B:Nat}{l m:List Rat}(b:YtjmnhbebpffoaaaGreat.BR B l)(c:YtjmnhbebpffoaaaGreat.BR B m)(a:1<=B)(i:l.length<=96)(f:200*B<=68000000000):(∀k,k<=l.length->hq (a4q l m k)<=68719476736)/\∀k,k<l.length->hq (l.getD k 0*m.getD k 0)<=68719476736:=by
 refine⟨fun k g=>?_,fun k g=>?_⟩
 ·have d:=b7y b c a k
  have e:k*(2*B+1)<=96*(2*B+1):=Nat.mul_le_mul_right _ (by omega);omega
 ·have d:=hq_mul (l.getD k 0) (m.getD k 0)
  have e:=b2Y b a k;have h:=b2Y c a k;omega
def b9o(X:Nat->Bool)(w:World)(l:List Rat)(e:Ending)(w':World):Prop:=Ext w w'/\∃u,e=.returned (.tuple #[u,.int .i64 0])/\RC (mk X w') u l
theorem b0O(X:Nat->Bool)(w:World)(u v:Value)(m:List (List Rat))(x:List Rat)(B:Nat)(hX:HX X w)(hu:MV (mk X w) u m)(T:RV (mk X w) v x)(hf:a0A m=true)(E:x.length=colsL m)(hB:BM B m)(y:BR B x)(Y:1<=B)(Z:200*B<=68000000000):Calls Tryz.prog 160 #[u,v] w (b9o X w (a2w m x)):=by
 obtain⟨s,V,f,_,_⟩:=a0w hf;have q:=a2s X w u m hu (by omega);rw[hf]at q;have a:=a2o X w u m hu;obtain⟨ua,c3,rfl,P,O⟩:=hu;obtain⟨va,R,rfl,Q,b4⟩:=T;have a8:=O.hd;obtain⟨c,G⟩:=c1F (colsL m);rw[G]at a E f s;have c0:((x.length:Int) !=(c:Int))=false:=b0B (by omega);have L:=hid s;have a5:=hid E;have W:=hid hB;have z:=hid y;obtain⟨n,S⟩:=c1F m.length;rw[S]at q a P a8 V |-;have b1:=hid S;have h:Hid ((a2w m x).length=n):=hid (by rw[a3d];exact S);clear hf s S E G hB y;go_enter Tryz.func160,Tryz.ntmps160
 go_wp2_with fail
 refine q.mono ?_;rintro e w1 ⟨rfl,rfl⟩;go_wp2_with fail
 refine a.mono ?_;rintro e w2 ⟨rfl,rfl⟩;go_wp2_with fail
 go_loopw [6,21] (fun o k wr=>∃(i:Nat) (oo:Option Addr) (co:Nat),k=.int .i64 i/\o=.slice oo i co/\i<=n/\OL QC 3 X w2.heap.size 47 wr oo co ((a2w m x).take i)/\Ext w2 wr) (fun _ k _=>n - (intOf k).toNat)
 case atStart=>exact⟨0,none,0,rfl,rfl,Nat.zero_le _,OL.nil _ _ _ _ _ _,ExtX.refl _⟩
 case round=>
  obtain⟨i,oo,co,rfl,rfl,hi,g,t⟩:=hrel;have D:HX X wr:=hX.ext t;have a3:HX (un X oo) wr:=g.unX D;have a4:=t.size;by_cases K:i<n
  ·have J:i<m.length:=by rw[b1.out];exact K
   have I:i<(a2w m x).length:=by rw[h.out];exact K
   have b3:Sl RV 1 (mk (un X oo) wr) ua m:=O.old RV.mono t (fun j hj=>g.ob_lt hj);have b5:RV (mk (un X oo) wr) (.slice va x.length R) x:=a2j RV.mono ⟨va,R,rfl,Q,b4⟩ t (fun j hj=>g.ob_lt hj);have M:=hid (a0I (a2w m x) i I);have b0:=hid (a0O (l:=a2w m x) (i:=i) (by omega));obtain⟨a1,c1,b8,F,H,b2⟩:=b3.row i J;have b6:=F.out noY wr (ExtX.refl _) rfl;have r:=hid (L.out.2 m[i] (c1E _));have a7:=hid (a4e (v:=x) J I);have p:=a1D (W.out m[i] (c1E _)) z.out Y (by rw[r.out];exact f) Z;have b:=b7G (un X oo) wr _ _ m[i] x a3 ⟨a1,c1,rfl,H,b2⟩ b5 (by rw[r.out];omega) (by rw[r.out,a5.out]) p.1 p.2;rw[<-a7.out]at b;obtain⟨v,T⟩:=c1F ((a2w m x)[i]);rw[T]at b M;clear T F p;go_wp2_with (with_reducible refine a0v a0o ?_)
   refine b.mono ?_;rintro e w6 ⟨d,u6,rfl,N⟩;obtain⟨s6,a6,n6,c6,d6,k6,e6,rfl⟩:=N.shape;have A:=g.ext0 QC.elem d;have b9:=d.size;clear b6;go_wp2_with (at_builtin;refine a0t (l:=(a2w m x).take i) a0x rfl QC.elem (by omega) (D.ext d) i b0.out rfl rfl A (.agg #[.bool s6,.slice a6 n6 c6,.slice d6 k6 e6]) v rfl N (by omega) (by omega) ?_;intro b7 U w7 C a0 c2)
   have a2:=(t.trans d).own A (c1B _) a0;rw[M.out]at C;go_roundw
   case rel=>exact⟨i+1,b7,U,by go_num,by go_num,by omega,C,a2⟩
   case measure=>simp[intOf];omega
  ·have a9:i=n:=by omega
   subst a9;rw[c1D (by rw[h.out];exact c1B _)]at g;have E:=g.lenCap;have hs:=g.sl QC.elem;go_wp2_with fail
   go_ret2
   exact⟨t,_,rfl,oo,co,by rw[h.out];rfl,E,hs⟩
theorem b9p(X:Nat->Bool)(w:World)(u v:Value)(a b:List (List Rat))(k n c B:Nat)(hX:HX X w)(hu:MV (mk X w) u a)(hv:MV (mk X w) v b)(F:a0A a=true)(G:a0A b=true)(N:a.length=k)(U:b.length=n)(y:colsL a=n)(z:colsL b=c)(hB:BM B a)(P:BM B b)(O:1<=B)(b7:200*B<=68000000000):Calls Tryz.prog 158 #[u,v] w (b5a X w (a6f a b n c)):=by
 obtain⟨J,T,t,d,K⟩:=a0w F;obtain⟨a8,V,m,f,L⟩:=a0w G;rw[N,y]at J;rw[U,z]at a8;rw[N]at T d K;rw[U]at V f L;rw[y]at t d K;rw[z]at m f L;have A:=a2E X w v b n c hX hv G U z;have d6:Hid (0<k->a0A (trL b n c)=true/\colsL (trL b n c)=n):=hid fun hk=>by
  have d1:=d hk;by_cases c5:0<c
  ·exact⟨b2X (a1B b n c) m d1 t,a9F (a1B b n c) c5⟩
  ·have:=f (by omega);omega
 have a9:=hid (a5H (b0H (n:=n) (c:=c) (a6C P O)));have H:=fun w' (h:Ext w w')=>a2s X w' u a (mkx MV.mono hu h) (by omega);have p:=fun w' (h:Ext w w')=>a2o X w' u a (mkx MV.mono hu h);rw[F]at H;rw[y]at p;have C:=hid H;have s:=hid p;obtain⟨ua,e6,rfl,b3,b1⟩:=hu;obtain⟨va,e7,rfl,b4,d9⟩:=hv;have c8:=b1.hd;have I:Hid ((a6f a b n c).length=k):=hid (by rw[b0N];exact N);have a7:=hid J;have b6:=hid hB;have c3:=hid N;rw[N]at b3 c8 C s |-;rw[U]at A b4 |-;clear H p F G N U y z J a8 K L d f d9 hB P;go_enter Tryz.func158,Tryz.ntmps158
 go_wp2_with fail
 refine A.mono ?_;rintro e w1 ⟨g,ut,rfl,d8⟩;go_wp2_with fail
 refine(C.out w1 g).mono ?_;rintro e w2 ⟨rfl,rfl⟩;go_wp2_with fail
 refine(s.out w2 g).mono ?_;rintro e w3 ⟨rfl,rfl⟩;have c0:=hX.ext g;have b2:=b1.mono RV.mono (a0k g);go_wp2_with fail
 go_loopw [8,34] (fun o kk wr=>∃(i:Nat) (oo:Option Addr) (co:Nat),kk=.int .i64 i/\o=.slice oo i co/\i<=k/\OL RC 1 X w3.heap.size 24 wr oo co ((a6f a b n c).take i)/\Ext w3 wr) (fun _ kk _=>k - (intOf kk).toNat)
 case atStart=>exact⟨0,none,0,rfl,rfl,Nat.zero_le _,OL.nil _ _ _ _ _ _,ExtX.refl _⟩
 case round=>
  obtain⟨i,oo,co,rfl,rfl,hi,D,M⟩:=hrel;have S:HX X wr:=c0.ext M;have c2:HX (un X oo) wr:=D.unX S;have c4:=M.size;by_cases a5:i<k
  ·have a4:i<a.length:=by rw[c3.out];exact a5
   have a3:i<(a6f a b n c).length:=by rw[I.out];exact a5
   have d5:Sl RV 1 (mk (un X oo) wr) ua a:=b2.old RV.mono M (fun j hj=>D.ob_lt hj);have A:MC (mk (un X oo) wr) ut (trL b n c):=a2j MC.mono d8 M (fun j hj=>D.ob_lt hj);have b0:=hid (a0I (a6f a b n c) i a3);have d0:=hid (a0O (l:=a6f a b n c) (i:=i) (by omega));obtain⟨a1,c1,e2,W,Y,d2⟩:=d5.row i a4;have e0:=W.out noY wr (ExtX.refl _) rfl;have d3:=hid (a7.out.2 a[i] (c1E _));have c7:=hid (a5Z (b:=b) (n:=n) (c:=c) a4 a3);obtain⟨a0,a2⟩:=d6.out (by omega);have E:=b0O (un X oo) wr ut _ (trL b n c) a[i] B c2 (A.mv (fun r hr q hq=>c1A (a9.out r hr q hq) (by omega))) ⟨a1,c1,rfl,Y,d2⟩ a0 (by rw[a2];exact d3.out) a9.out (b6.out a[i] (c1E _)) O b7;rw[<-c7.out]at E;obtain⟨v,hv⟩:=c1F ((a6f a b n c)[i]);rw[hv]at E b0;clear hv W a0 a2;go_wp2_with (with_reducible refine a0v a0o ?_)
   refine E.mono ?_;rintro e w6 ⟨x,u6,rfl,d7⟩;obtain⟨a6,c6,rfl,Z,d4⟩:=d7;have Q:=D.ext0 RC.elem x;have e3:=x.size;clear e0;go_wp2_with (at_builtin;refine a0t (l:=(a6f a b n c).take i) a0o rfl RC.elem (by omega) (S.ext x) i d0.out rfl rfl Q (.slice a6 v.length c6) v rfl ⟨a6,c6,rfl,Z,d4⟩ (by omega) (by omega) ?_;intro e1 b5 w7 R b8 e4)
   have b9:=(M.trans x).own Q (c1B _) b8;rw[b0.out]at R;go_roundw
   case rel=>exact⟨i+1,e1,b5,by go_num,by go_num,by omega,R,b9⟩
   case measure=>simp[intOf];omega
  ·have c9:i=k:=by omega
   subst c9;rw[c1D (by rw[I.out];exact c1B _)]at D;have hc:=D.lenCap;have hs:=D.sl RC.elem;go_wp2_with fail
   go_ret2
   exact⟨g.trans M,_,rfl,oo,co,by rw[I.out];rfl,hc,hs⟩
def c1v(Z:Nat->Bool)(base:Nat)(e:TypeId)(w:World)(a:Option Addr)(cap:Nat)(l:List Rat)(ee:Ending)(w':World):Prop:=ee=.returned (.tuple #[])/\ExtX (ob a) w w'/\OL QC 3 (cut Z a) base e w' a cap l
theorem a5j(Z:Nat->Bool)(base:Nat)(w:World)(o G:Option Addr)(c1 c2 n col:Nat)(row b:List Rat)(hX:HX Z w)(h1:OL QC 3 (cut Z o) base 47 w o c1 row)(h2:OL QC 3 (cut Z G) base 47 w G c2 b)(f3:∀k,ob o k=true->Z k=true)(n8:∀k,ob G k=true->Z k=true)(c3:∀k,ob o k=true->ob G k=false)(a4:row.length=n)(a8:b.length=n)(hn:n<=1000)(c0:col<n)(g6:BR 68719476736 row)(g7:BR 68719476736 b)(c8:hq (row.getD col 0/b.getD col 0)<=68719476736)(c9:∀x∈b,hq (row.getD col 0/b.getD col 0*x)<=68719476736):Calls Tryz.prog 206 #[.slice o n c1,.slice G n c2,.int .i64 (col:Int)] w (c1v Z base 47 w o c1 (a3j row b col)):=by
 have e0:=hid (a4D f3);have j5:=hid (a4D n8);have l6:∀k,ob G k=true->ob o k=false:=fun k A=>by
  cases hb:ob o k
  ·rfl
  ·rw[c3 k hb]at A;simp at A
 have h8:Hd o n:=by have:=h1.hd;rw[a4]at this;exact this
 have l5:Hd G n:=by have:=h2.hd;rw[a8]at this;exact this
 have b2:col<row.length:=by omega
 have b3:col<b.length:=by omega
 have g1:Hid (row.getD col 0=row[col]):=hid (by simp[List.getD_eq_getElem?_getD,b2]);have g2:Hid (b.getD col 0=b[col]):=hid (by simp[List.getD_eq_getElem?_getD,b3]);obtain⟨E,U⟩:=c1F (a3j row b col);have V:Hid (E.length=n):=hid (by rw[<-U,a3O _ _ _ (by omega)];exact a8);have f8:Hid (∀j (hj:j<row.length) (l8:j<b.length) (l9:j<E.length),E[j]=row[j] - (row.getD col 0/b.getD col 0)*b[j]):=hid fun j hj l8 l9=>by subst U;simp[a3j]
 have f6:Hid (row.getD col 0/b.getD col 0=0->E=row):=hid fun h=>by rw[<-U];exact b1m _ _ _ (by omega) h
 have d9:Hid (E.length=row.length):=hid (by rw[V.out,a4]);have c4:=hid a4;have i9:=hid a8;have b0:=hid g6;have b1:=hid g7;obtain⟨f,hf⟩:=c1F (row.getD col 0/b.getD col 0);rw[hf]at c8 f6 f8 c9;have g8:=hid c8;have g9:=hid c9;have i3:Hid (row[col]/b[col]=f):=hid (by rw[<-g1.out,<-g2.out];exact hf);rw[U];obtain⟨l,t,s1,p1,n1,q1,d1,k1,e1,i4,o4,b4,d4⟩:=h1.rat QC.shaped col b2;obtain⟨m,u,s2,p2,n2,q2,d2,k2,e2,i5,o5,b9,d8⟩:=h2.rat QC.shaped col b3;rw[e0.out]at d4;rw[j5.out]at d8;have i1:∀W,(Instr.indexAt 24 (.slice o n c1) (.int .i64 (col:Int))).run Tryz.prog W=.ok (.pointer (some ⟨l,t,none⟩)) W:=by rw[<-i4];exact a0e a0x o n c1 .i64 col h8 c0
 have i2:∀W,(Instr.indexAt 24 (.slice G n c2) (.int .i64 (col:Int))).run Tryz.prog W=.ok (.pointer (some ⟨m,u,none⟩)) W:=by rw[<-i5];exact a0e a0x G n c2 .i64 col l5 c0
 have p:=c1L w;have L:Hid (∀Y W',ExtX Y w.drew W'->Y l=false->Y m=false->W'.cell? ⟨l,t,none⟩=some (.bool s1)/\W'.cell? ⟨l,t+1,none⟩=some (.slice p1 n1 q1)/\W'.cell? ⟨l,t+2,none⟩=some (.slice d1 k1 e1)/\W'.cell? ⟨m,u,none⟩=some (.bool s2)/\W'.cell? ⟨m,u+1,none⟩=some (.slice p2 n2 q2)/\W'.cell? ⟨m,u+2,none⟩=some (.slice d2 k2 e2)):=hid fun Y W' h e8 e9=>by
  have z1:=b4.out Y W' ((ExtX.of p).trans h) e8;have z2:=b9.out Y W' ((ExtX.of p).trans h) e9;exact⟨z1.1,z1.2.1,z1.2.2,z2.1,z2.2.1,z2.2.2⟩
 obtain⟨C,O,P,D,Q,R⟩:=L.out noY w.drew (ExtX.refl _) rfl rfl;have o2:l<w.heap.size:=a1Z C;have o3:m<w.heap.size:=a1Z D;have a0:HX Z w.drew:=hX;have j6:QV (mk Z w.drew) (.agg #[.bool s1,.slice p1 n1 q1,.slice d1 k1 e1]) row[col]:=d4.qv (b0.out _ (c1E _));have j7:QV (mk Z w.drew) (.agg #[.bool s2,.slice p2 n2 q2,.slice d2 k2 e2]) b[col]:=d8.qv (b1.out _ (c1E _));obtain⟨ec,d0⟩:=c1F (e5 (decide (b[col]=0)));have qd:=c0l Z w.drew _ _ _ _ a0 j6 j7;rw[d0,i3.out]at qd;have I:Ext w.drew (w.alloc (.cells #[.bool false,.slice none 0 0,.slice none 0 0] 47)).drew:=⟨rfl,rfl,rfl,((ExtX.refl (Y:=noY) w).alloc _).size,((ExtX.refl (Y:=noY) w).alloc _).block⟩;have bA:Bx (w.alloc (.cells #[.bool false,.slice none 0 0,.slice none 0 0] 47)).drew w.heap.size #[.bool false,.slice none 0 0,.slice none 0 0] 47:=Bx.new w _ _;have z:Ext w (w.alloc (.cells #[.bool false,.slice none 0 0,.slice none 0 0] 47)).drew:=p.trans I;have l2:HX (un Z (some ⟨w.heap.size,0,none⟩)) (w.alloc (.cells #[.bool false,.slice none 0 0,.slice none 0 0] 47)).drew:=fun k A=>by
  have h9:(w.alloc (.cells #[.bool false,.slice none 0 0,.slice none 0 0] 47)).drew.heap.size=w.heap.size+1:=by show(w.alloc _).heap.size=_;simp
  rw[h9];by_cases hz:Z k=true
  ·have:=hX k hz;omega
  ·have:w.heap.size=k:=by simpa[un,hz,ob]using A
   omega
 have M:∀j,j<w.heap.size->ob (some ⟨w.heap.size,0,none⟩) j=false:=fun j hj=>a0b (by omega);have f4:=c0l (un Z (some ⟨w.heap.size,0,none⟩)) (w.alloc (.cells #[.bool false,.slice none 0 0,.slice none 0 0] 47)).drew _ _ _ _ l2 (a2j (w:=w) QV.mono j6 z M) (a2j (w:=w) QV.mono j7 z M);rw[d0,i3.out]at f4;clear i4 i5 b4 b9 d4 d8 hf U a4 a8 g6 g7 c8 c9 d0;go_enter Tryz.func206,Tryz.ntmps206
 go_upto_region 0 with(fail)
 go_cut [6,7]from 10 to 21 (fun b6 _ wx=>∃H s a n' c d k e,b6=.pointer (some ⟨H,0,none⟩)/\Bx wx H #[.bool s,.slice a n' c,.slice d k e] 47/\w.heap.size<=H/\QC (mk Z wx) (.agg #[.bool s,.slice a n' c,.slice d k e]) f/\Ext w wx)
 case first=>
  go_region_held3 (fun w'=>w'.cell? ⟨l,t,none⟩=some (.bool s1)/\w'.cell? ⟨l,t+1,none⟩=some (.slice p1 n1 q1)/\w'.cell? ⟨l,t+2,none⟩=some (.slice d1 k1 e1)/\w'.cell? ⟨m,u,none⟩=some (.bool s2)/\w'.cell? ⟨m,u+1,none⟩=some (.slice p2 n2 q2)/\w'.cell? ⟨m,u+2,none⟩=some (.slice d2 k2 e2))
   (first|exact L.out noY _ F rfl rfl|exact L.out noY _ (ExtX.alloc F _) rfl rfl|exact L.out noY _ I rfl rfl|exact L.out noY _ (I.trans T) rfl rfl|exact L.out (ob (some ⟨w.heap.size,0,none⟩)) _ ((ExtX.of (I.trans T)).trans B.2) (a0b (by omega)) (a0b (by omega))|exact L.out (ob (some ⟨w6.heap.size,0,none⟩)) _ ((ExtX.of (F.alloc _)).trans B.2) (a0b (by have:=F.size;have h9:w.drew.heap.size=w.heap.size:=rfl;omega)) (a0b (by have:=F.size;have h9:w.drew.heap.size=w.heap.size:=rfl;omega))|go_keep)
   (first|(go_at_call 79;(with_reducible refine qd.mono ?_);rintro ee w6 ⟨F,u6,rfl,q⟩;obtain⟨s6,a6,n6,c6,d6,k6,e6,rfl⟩:=q.shape;have B:=(Bx.new w6 #[.bool false,.slice none 0 0,.slice none 0 0] 47).set3 (.bool s6) (.slice a6 n6 c6) (.slice d6 k6 e6))|(go_at_call 79;(with_reducible refine f4.mono ?_);rintro ee w6 ⟨T,u6,rfl,q⟩;obtain⟨s6,a6,n6,c6,d6,k6,e6,rfl⟩:=q.shape;have bb:=bA.ext0 T;have y0:=bb.cell 0 rfl;have y1:=bb.cell 1 rfl;have y2:=bb.cell 2 rfl;have z0:=bb.frozen 0;have z1:=bb.frozen 1;have z2:=bb.frozen 2;have B:=bb.set3 (.bool s6) (.slice a6 n6 c6) (.slice d6 k6 e6)))
  ·clear C O P D Q R
   go_wp2_with fail
   go_meet
   case rel=>exact⟨w6.heap.size,_,_,_,_,_,_,_,rfl,Bx.new w6 _ _,(p.trans F).size,QC.mono _ _ _ _ (a0k ((ExtX.refl w6).alloc _)) q,(p.trans F).alloc _⟩
  ·have m6:=QC.mono _ _ _ _ (a1a (X:=Z) fun k _ A=>a0j A) (QC.mono _ _ _ _ (a0s B.2 fun k A=>a0u A) q)
   have i:Ext w _:=ExtX.box (z.trans T) B.2 (c1B _);clear C O P D Q R y0 y1 y2 z0 z1 z2;go_wp2_with fail
   go_meet
   case rel=>exact⟨w.heap.size,_,_,_,_,_,_,_,rfl,B.1,c1B _,m6,i⟩
 case rest=>
  obtain⟨H,sf,af,nf,cf,df,kf,ef,rfl,b6,o6,m7,J⟩:=hcut;clear C O P D Q R i1 i2 qd f4 L bA I z;have g5:=hX.ext J;have f5:=h1.ext0 QC.elem J;have k0:=h2.ext0 QC.elem J;have f0:=b6.cell 0 rfl;have f1:=b6.cell 1 rfl;have f2:=b6.cell 2 rfl;have d3:=m7.qv g8.out;by_cases h0:f=0
  ·have hr:=hid (f6.out h0)
   have j3:Hid (f.num.sign=0):=hid (by rw[h0];rfl);clear h0;go_wp2_with fail
   refine(b1y Z wc _ f g5 d3).mono ?_;rintro e w7 ⟨i,rfl⟩;rw[j3.out];clear f0 f1 f2;go_wp2_with fail
   refine bodyPost_ret (results_none rfl _ _ _) rfl ?_;exact⟨rfl,ExtX.of (J.trans i),by rw[hr.out];exact f5.ext0 QC.elem i⟩
  ·have j3:((f.num.sign:Int)==0)=false:=a2C (by intro h;exact h0 (Rat.num_eq_zero.1 (Int.sign_eq_zero_iff_zero.1 h)))
   clear h0;go_wp2_with fail
   refine(b1y Z wc _ f g5 d3).mono ?_;rintro e w7 ⟨i,rfl⟩;have b7:=b6.ext0 i;have N:=mkx QV.mono d3 i;have f7:=J.trans i;have j8:=f5.ext0 QC.elem i;have j9:=k0.ext0 QC.elem i;clear f0 f1 f2 b6;go_wp2_with fail
   go_loopw [27] (fun k wr=>∃(j:Nat),k=.int .i64 j/\j<=n/\OL QC 3 (cut Z o) base 47 wr o c1 (mix E row j)/\OL QC 3 (cut Z G) base 47 wr G c2 b/\Bx wr H #[.bool sf,.slice af nf cf,.slice df kf ef] 47/\QV (mk Z wr) (.agg #[.bool sf,.slice af nf cf,.slice df kf ef]) f/\ExtX (ob o) w wr) (fun k _=>n - (intOf k).toNat)
   case atStart=>exact⟨0,rfl,Nat.zero_le _,by rw[a3D];exact j8,j9,b7,N,ExtX.of f7⟩
   case round=>
    obtain⟨j,rfl,hj,K,g3,b7,N,U⟩:=hrel;have l3:=hX.ext U;by_cases a9:j<n
    ·have m4:j<row.length:=by rw[c4.out];exact a9
     have i7:j<b.length:=by rw[i9.out];exact a9
     have i6:j<E.length:=by rw[V.out];exact a9
     have j1:Hid ((mix E row j).length=n):=hid (by rw[a2p d9.out,V.out]);have a3:j<(mix E row j).length:=by rw[j1.out];exact a9
     have j0:Hid ((mix E row j)[j]=row[j]):=hid (by rw[a1S d9.out,if_neg (by omega)]);have i8:Hid ((mix E row j).set j E[j]=mix E row (j+1)):=hid (a4I d9.out i6);have f9:Hid (row[j] - f*b[j]=E[j]):=hid (f8.out j m4 i7 i6).symm;have h4:=hid (b1.out b[j] (c1E _));have h5:=hid (b0.out row[j] (c1E _));have h3:=hid (g9.out b[j] (c1E _));obtain⟨x,hx⟩:=c1F (b[j]);obtain⟨y,hy⟩:=c1F (row[j]);obtain⟨v,hv⟩:=c1F (E[j]);obtain⟨r,hr⟩:=c1F (mix E row j);obtain⟨gg,oo,sg,ap,np,cp,dp,kp,ep,hg,o7,h7,j2⟩:=K.rat QC.shaped j a3;rw[j0.out,hy,e0.out]at j2;rw[hx,hy,hv]at f9;rw[hx]at h4 h3;rw[hy]at h5;rw[hv,hr]at i8;rw[hr]at K a3 j1;have m9:=hid hx;have i1:∀W,(Instr.indexAt 24 (.slice o n c1) (.int .i64 (j:Int))).run Tryz.prog W=.ok (.pointer (some ⟨gg,oo,none⟩)) W:=by rw[<-hg];exact a0e a0x o n c1 .i64 j h8 (by omega)
     have bx:=Bx.new wr #[.bool false,.slice none 0 0,.slice none 0 0] 47;clear hx hy hv hr j0;go_wp2_with (first|(with_reducible refine a1w a0x ?_)|((with_reducible refine c1K ?_);refine a5i a0p j g3 i7 rfl (by simp) QC.agg ?_;intro u5 e3;rw[m9.out,j5.out]at e3;obtain⟨s5,a5,n5,c5,d5,k5,e5,rfl⟩:=e3.shape)|((with_reducible refine c1J ?_);refine a0a a0p rfl rfl bx rfl rfl a1s ?_;intro S r1 r2))
     have k3:=c1M r2;have p:=c1L S;have g:=k3.trans p;have k8:=K.ext0 QC.elem g;have k9:=g3.ext0 QC.elem g;have b5:=b7.ext0 g;have m8:QV (mk Z S.drew) (.agg #[.bool s5,.slice a5 n5 c5,.slice d5 k5 e5]) x:=(mkx QC.mono e3 g).qv h4.out;have n3:QV (mk Z S.drew) (.agg #[.bool sg,.slice ap np cp,.slice dp kp ep]) y:=(mkx QC.mono j2 g).qv h5.out;have i0:QV (mk Z S.drew) (.agg #[.bool sf,.slice af nf cf,.slice df kf ef]) f:=mkx QV.mono N g;have a0:HX Z S.drew:=l3.ext g;obtain⟨bw,h6⟩:=c1F wr.heap.size;have l4:Hid (ob o H=false):=hid (by
      cases hb:ob o H
      ·rfl
      ·have:=(h1.block hb).2;omega)
     rw[h6]at r1;have L:Hid (∀Y W',ExtX Y S.drew W'->Y gg=false->Y H=false->Y bw=false->W'.cell? ⟨gg,oo,none⟩=some (.bool sg)/\W'.cell? ⟨gg,oo+1,none⟩=some (.slice ap np cp)/\W'.cell? ⟨gg,oo+2,none⟩=some (.slice dp kp ep)/\W'.cell? ⟨H,0,none⟩=some (.bool sf)/\W'.cell? ⟨H,1,none⟩=some (.slice af nf cf)/\W'.cell? ⟨H,2,none⟩=some (.slice df kf ef)/\W'.cell? ⟨bw,0,none⟩=some (.bool s5)/\W'.cell? ⟨bw,1,none⟩=some (.slice a5 n5 c5)/\W'.cell? ⟨bw,2,none⟩=some (.slice d5 k5 e5)):=hid fun Y W' h e8 e9 n0=>by
      have z1:=h7.out Y W' ((ExtX.of g).trans h) e8;have z2:=b5.ext h e9;have z3:=(r1.ext0 p).ext h n0;exact⟨z1.1,z1.2.1,z1.2.2,z2.cell 0 rfl,z2.cell 1 rfl,z2.cell 2 rfl,z3.cell 0 rfl,z3.cell 1 rfl,z3.cell 2 rfl⟩
     obtain⟨C,O,P,D,Q,R,n9,o0,o1⟩:=L.out noY S.drew (ExtX.refl _) rfl rfl rfl;clear r1 bx h7;rw[h6];go_wp2_with fail
     go_region_with (first|(go_at_call 35;(with_reducible refine(a9E Z S.drew _ _ _ _ a0 i0 m8).mono ?_);rintro ee w6 ⟨F,u6,rfl,q⟩;obtain⟨s6,a6,n6,c6,d6,k6,e6,rfl⟩:=q.shape;have l1:=a0.ext F;have n4:=mkx QV.mono n3 F;have m5:=q.qv h3.out;obtain⟨m0,m1,m2,_⟩:=L.out noY w6 F rfl rfl rfl)|(go_at_call 37;(with_reducible refine(b4X Z w6 _ _ _ _ l1 n4 m5).mono ?_);rintro ee w7 ⟨t7,u7,rfl,e4⟩;obtain⟨s7,a7,n7,c7,d7,k7,e7,rfl⟩:=e4.shape;rw[f9.out]at e4;have T:=F.trans t7;have g4:=k8.ext0 QC.elem T;obtain⟨_,v0,v1,v2,_,⟨g0,f0⟩,⟨g1,f1⟩,⟨g2,f2⟩,_⟩:=g4.cell3 j a3 hg;have j4:=g4.set3 a3C QC.elem j a3 hg (v0:= .bool s7) (v1:= .slice a7 n7 c7) (v2:= .slice d7 k7 e7) (x:=v) (by rw[e0.out];exact e4)))
     all_goals
      obtain⟨q1,q2⟩:=j4;rw[i8.out]at q1;have l0:=(k9.ext0 QC.elem T).ext QC.elem q2 (fun k _ A=>a5f (f3 k A) (c3 k A)) (fun _ _ A=>A);have b8:=(b5.ext0 T).ext q2 l4.out;have l7:QV (mk Z _) _ _:=QV.mono _ _ _ _ (a0s q2 f3) (mkx QV.mono i0 T);have k4:=(U.trans (ExtX.of (g.trans T))).trans q2;clear C O P D Q R n9 o0 o1 m0 m1 m2 g0 g1 g2 f0 f1 f2 i1;go_wp2_with fail
      go_roundw
      case rel=>exact⟨j+1,by go_num,by omega,q1,l0,b8,l7,k4⟩
      case measure=>simp[intOf];omega
    ·have m3:j=n:=by omega
     subst m3;rw[a3E (by rw[V.out];exact c1B _) (by rw[c4.out];exact c1B _)]at K;go_wp2_with fail
     go_end0
     exact⟨rfl,U,K⟩
def c0y:Option Nat->Int
 |none=> -1
 |some k=>k
theorem a9G(X:Nat->Bool)(w:World)(a:Option Addr)(l:List Rat)(n c col b:Nat)(r:HX X w)(hs:Sl QC 3 (mk X w) a l)(t:l.length=n)(s:col<n)(q:BR 68719476736 l)(F:w.cell? ⟨b,0,none⟩=some (.int .i64 (col:Int))):Calls Tryz.prog 208 #[.slice a n c,.pointer (some ⟨b,0,none⟩)] w (a7U w (decide (l.getD col 0≠0))):=by
 have G:Hd a n:=by have:=hs.hd;rw[t]at this;exact this
 have g:col<l.length:=by omega
 have k:=hs.qv q;obtain⟨x,p⟩:=c1F (l[col]);have z:Hid (l.getD col 0=x):=hid (by simp[List.getD_eq_getElem?_getD,g,p]);have m:=hid p;clear t q p;rw[z.out];by_cases j:x=0
 ·have o:Hid (decide (x≠0)=false):=hid (by simp[j])
  have i:Hid (x.num.sign=0):=hid (by rw[j];rfl);rw[o.out];clear j;go_enter Tryz.func208,Tryz.ntmps208
  go_wp2_with (first|(with_reducible refine a1w a0x ?_)|((with_reducible refine c1K (t:=47) ?_);refine a0z a0p col k g rfl (by simp) QV.agg ?_;intro D d;rw[m.out]at d;obtain⟨C,u,B,v,y,A,e5,rfl⟩:=d.shape))
  refine(b1y X w _ x r d).mono ?_;rintro e E ⟨f,rfl⟩;rw[i.out];go_wp2_with fail
  go_ret
  exact⟨f,rfl⟩
 ·have o:Hid (decide (x≠0)=true):=hid (by simp[j])
  have i:((x.num.sign:Int) !=0)=true:=a7c (by intro h;exact j (Rat.num_eq_zero.1 (Int.sign_eq_zero_iff_zero.1 h)));rw[o.out];clear j;go_enter Tryz.func208,Tryz.ntmps208
  go_wp2_with (first|(with_reducible refine a1w a0x ?_)|((with_reducible refine c1K (t:=47) ?_);refine a0z a0p col k g rfl (by simp) QV.agg ?_;intro D d;rw[m.out]at d;obtain⟨C,u,B,v,y,A,e5,rfl⟩:=d.shape))
  refine(b1y X w _ x r d).mono ?_;rintro e E ⟨f,rfl⟩;generalize x.num.sign=sg at i;go_wp2_with fail
  go_ret
  exact⟨f,rfl⟩
theorem a8a(X:Nat->Bool)(w:World)(a:Option Addr)(l:List (List Rat))(n c N col b:Nat)(T:HX X w)(hs:Sl RC 1 (mk X w) a l)(K:l.length=n)(Z:n<=1000000)(D:∀r∈l,r.length=N)(x:col<N)(O:BM 68719476736 l)(V:w.cell? ⟨b,0,none⟩=some (.int .i64 (col:Int))):Calls Tryz.prog 207 #[.slice a n c,.func (.func 208) #[] #[.pointer (some ⟨b,0,none⟩)]] w (fun e w'=>Ext w w'/\e=.returned (.int .i64 (c0y (l.findIdx? fun r=>decide (r.getD col 0≠0))))):=by
 have Y:Hd a n:=by have:=hs.hd;rw[K]at this;exact this
 have z:=hid K;have M:=hid D;have G:=hid O;have f:Hid (∀i (J:i<l.length),(∀q (hq:q<l.length),q<i->l[q].getD col 0=0)->l[i].getD col 0≠0->l.findIdx? (fun r=>decide (r.getD col 0≠0))=some i):=hid fun i J E S=>by
  rw[List.findIdx?_eq_some_iff_getElem];exact⟨J,by simpa using S,fun q hq=>by simpa using E q (by omega) hq⟩
 have g:Hid ((∀q (hq:q<l.length),l[q].getD col 0=0)->l.findIdx? (fun r=>decide (r.getD col 0≠0))=none):=hid fun E=>by
  rw[List.findIdx?_eq_none_iff];intro r D;obtain⟨q,hq,rfl⟩:=List.getElem_of_mem D;simpa using E q hq
 obtain⟨F,hF⟩:∃F,l.findIdx? (fun r=>decide (r.getD col 0≠0))=F:=⟨_,rfl⟩;rw[hF]at f g |-;clear K D O hF;go_enter Tryz.func207,Tryz.ntmps207
 go_wp2_with fail
 go_loopw [8] (fun k wr=>∃(i:Nat),k=.int .i64 i/\i<=n/\Hid (∀q (hq:q<l.length),q<i->l[q].getD col 0=0)/\Ext w wr) (fun k _=>n - (intOf k).toNat)
 case atStart=>exact⟨0,rfl,Nat.zero_le _,hid (fun q hq h=>by omega),ExtX.refl _⟩
 case round=>
  obtain⟨i,rfl,J,p,v⟩:=hrel;by_cases L:i<n
  ·have y:i<l.length:=by rw[z.out];exact L
   obtain⟨Q,R,U,m,P,s⟩:=(hs.mono RC.mono (a0k v)).row i y;have t:=m.out noY wr (ExtX.refl _) rfl;have C:=hid (M.out l[i] (c1E _));have H:=hid (G.out l[i] (c1E _));rw[C.out]at t;have o:=v.cell V;have d:=a9G X wr Q l[i] N R col b (T.ext v) s C.out x H.out o;by_cases u:l[i].getD col 0=0
   ·have hd:Hid (decide (l[i].getD col 0≠0)=false):=hid (decide_eq_false (fun h=>h u))
    rw[hd.out]at d;have A:Hid (∀q (hq:q<l.length),q<i+1->l[q].getD col 0=0):=hid fun q hq B=>by
     by_cases e:q=i
     ·subst e;exact u
     ·exact p.out q hq (by omega)
    clear u m s;go_wp2_with (with_reducible refine a0v a0o ?_)
    refine d.mono ?_;rintro e W ⟨j,rfl⟩;clear t;go_wp2_with fail
    go_roundw
    case rel=>exact⟨i+1,by go_num,by omega,A,v.trans j⟩
    case measure=>simp[intOf];omega
   ·have hd:Hid (decide (l[i].getD col 0≠0)=true):=hid (decide_eq_true u)
    rw[hd.out]at d;have I:=hid (f.out i y (fun q hq B=>p.out q hq B) u);clear u m s;go_wp2_with (with_reducible refine a0v a0o ?_)
    refine d.mono ?_;rintro e W ⟨j,rfl⟩;clear t;go_wp2_with fail
    go_ret
    exact⟨v.trans j,a0N (by rw[I.out];rfl)⟩
  ·have I:=hid (g.out fun q hq=>p.out q hq (by rw[z.out]at hq;omega))
   go_wp2_with fail
   go_ret
   exact⟨v,a0N (by rw[I.out];rfl)⟩
theorem a2M{m:Mat}{i:Nat}(h:i<m.length):m.getD i []=m[i]:=by simp[List.getD_eq_getElem?_getD,h]
theorem b1A(m:Mat)(t col:Nat):clear m t col 0=m:=by
 unfold clear rows;refine List.ext_getElem (by simp) fun q a b=>?_;rw[List.getElem_mapIdx,if_neg (by omega)]
theorem a2T{m:Mat}{t col s i:Nat}(h:i<(clear m t col s).length)(a:i<m.length):(clear m t col s)[i]=if t<i/\i<t+1+s then a3j m[i] (m.getD t []) col else m[i]:=by
 show(m.mapIdx _)[i]'(by simpa using a)=_
 rw[List.getElem_mapIdx]
theorem a2F(m:Mat)(t col s:Nat):(clear m t col s).length=m.length:=by simp[clear,rows]
theorem b2Z{m:Mat}{t col s:Nat}(h:t+1+s<m.length):(clear m t col s).set (t+1+s) (a3j m[t+1+s] (m.getD t []) col)=clear m t col (s+1):=by
 refine List.ext_getElem (by simp[a2F]) fun q c b=>?_;have hq:q<m.length:=by rw[a2F]at b;exact b
 rw[List.getElem_set,a2T b hq];split
 ·subst_vars;rw[if_pos (by omega)]
 ·rw[a2T (by simpa[a2F]using hq) hq]
  by_cases a:t<q/\q<t+1+s
  ·rw[if_pos a,if_pos (by omega)]
  ·rw[if_neg a,if_neg (by omega)]
theorem b1B{m:Mat}{t col s c:Nat}(h:m.length<=t+1+s)(e:m.length<=t+1+c):clear m t col s=clear m t col c:=by
 refine List.ext_getElem (by simp[a2F]) fun q d b=>?_;have hq:q<m.length:=by rw[a2F]at b;exact b
 rw[a2T d hq,a2T b hq];by_cases a:t<q
 ·rw[if_pos (by omega),if_pos (by omega)]
 ·rw[if_neg (by omega),if_neg (by omega)]
theorem b1C(m:Mat)(t col:Nat):above m t col 0=m:=by
 unfold above rows;refine List.ext_getElem (by simp) fun q a b=>?_;rw[List.getElem_mapIdx,if_neg (by omega)]
theorem a4f{m:Mat}{t col s i:Nat}(h:i<(above m t col s).length)(a:i<m.length):(above m t col s)[i]=if i<t/\i<s then a3j m[i] (m.getD t []) col else m[i]:=by
 show(m.mapIdx _)[i]'(by simpa using a)=_
 rw[List.getElem_mapIdx]
theorem a4g(m:Mat)(t col s:Nat):(above m t col s).length=m.length:=by simp[above,rows]
theorem b3a{m:Mat}{t col s:Nat}(h:s<m.length)(c:s<t):(above m t col s).set s (a3j m[s] (m.getD t []) col)=above m t col (s+1):=by
 refine List.ext_getElem (by simp[a4g]) fun q d b=>?_;have hq:q<m.length:=by rw[a4g]at b;exact b
 rw[List.getElem_set,a4f b hq];split
 ·subst_vars;rw[if_pos (by omega)]
 ·rw[a4f (by simpa[a4g]using hq) hq]
  by_cases a:q<t/\q<s
  ·rw[if_pos a,if_pos (by omega)]
  ·rw[if_neg a,if_neg (by omega)]
theorem b5b{hs:List Hdr}{i k:Nat}(d:i<hs.length)(e:k<hs.length):obs ((hs.set i hs[k]).set k hs[i])=obs hs:=by
 funext b
 rw[Bool.eq_iff_iff];constructor
 ·intro h
  obtain⟨q,hq,c⟩:=a5g h;simp only[List.length_set]at hq;rw[List.getElem_set]at c;split at c
  ·exact a1R d c
  ·rw[List.getElem_set]at c
   split at c
   ·exact a1R e c
   ·exact a1R hq c
 ·intro h
  obtain⟨q,hq,c⟩:=a5g h;by_cases a:q=i
  ·subst a
   refine a1R (i:=k) (by simpa using e) ?_;rw[List.getElem_set_self];exact c
  ·by_cases b':q=k
   ·subst b'
    refine a1R (i:=i) (by simpa using d) ?_;rw[List.getElem_set_ne (by omega),List.getElem_set_self];exact c
   ·refine a1R (i:=q) (by simpa using hq) ?_
    rw[List.getElem_set_ne (by omega),List.getElem_set_ne (by omega)];exact c
section
variable {X:Nat->Bool} {base:Nat} {e1 e2:TypeId} {w w':World} {ao:Option Addr} {cap:Nat} {hs:List Hdr} {m:List (List Rat)}
theorem b3b{m:Mat}{i k q:Nat}(c:i<m.length)(d:k<m.length)(hq:q<(a1e m i k).length):(a1e m i k)[q]=if q=k then m[i]else if q=i then m[k]else m[q]'(by simpa[a1e]using hq):=by
 simp only[a1e,a2M c,a2M d];rw[List.getElem_set];by_cases a:k=q
 ·rw[if_pos a,if_pos a.symm]
 ·rw[if_neg a,if_neg (Ne.symm a),List.getElem_set]
  by_cases b:i=q
  ·rw[if_pos b,if_pos b.symm]
  ·rw[if_neg b,if_neg (Ne.symm b)]
theorem b5c{hs:List Hdr}{i k q:Nat}(c:i<hs.length)(d:k<hs.length)(hq:q<((hs.set i hs[k]).set k hs[i]).length):((hs.set i hs[k]).set k hs[i])[q]=if q=k then hs[i]else if q=i then hs[k]else hs[q]'(by simpa using hq):=by
 rw[List.getElem_set];by_cases a:k=q
 ·rw[if_pos a,if_pos a.symm]
 ·rw[if_neg a,if_neg (Ne.symm a),List.getElem_set]
  by_cases b:i=q
  ·rw[if_pos b,if_pos b.symm]
  ·rw[if_neg b,if_neg (Ne.symm b)]
theorem MO.swap(h:MO X base e1 e2 w ao cap hs m){i k:Nat}(e:i<hs.length)(f:k<hs.length)(j:ExtX (ob ao) w w')(l:OL HdR 1 X base e1 w' ao cap ((hs.set i hs[k]).set k hs[i])):MO X base e1 e2 w' ao cap ((hs.set i hs[k]).set k hs[i]) (a1e m i k):=by
 have p:=h.len;refine h.perm (fun q=>if q=k then i else if q=i then k else q) (fun q hq=>?_) (fun a b n o d=>?_) (fun q hq=>?_) (by simp) (by simp[a1e]) (fun q hq g=>?_) (fun q hq g=>?_) j l
 ·split
  ·exact e
  ·split
   ·exact f
   ·exact hq
 ·split at d<;>split at d<;>(try split at d)<;>(try split at d)<;>omega
 ·by_cases a:q=i
  ·exact⟨k,f,by simp[a]⟩
  ·by_cases b:q=k
   ·refine⟨i,e,?_⟩
    by_cases c:i=k
    ·omega
    ·simp[c,b]
   ·exact⟨q,hq,by simp[a,b]⟩
 ·rw[b5c e f hq]
  by_cases a:q=k
  ·simp[a]
  ·by_cases b:q=i
   ·subst b;simp[a]
   ·simp[a,b]
 ·rw[b3b (by omega) (by omega) hq]
  by_cases a:q=k
  ·simp[a]
  ·by_cases b:q=i
   ·subst b;simp[a]
   ·simp[a,b]
end
section
variable {P:Program} {ops:Array Oper} {Q:Exit->Act->World->Prop} {rest:List Oper} {a:Act} {w:World}
variable {d:Option Tmp} {ty:TypeId} {ps:String} {af:Array Edge}
theorem b5d{t e h:Nat}{z:Value}{x lo:Operand}{o:IntKind}{m:Int}{ao:Option Addr}{cap:Nat}(T:SliceT P t e 1 h z)(n i:Nat)(s:a.eval x=.slice ao n cap)(l:a.eval lo=.int o m)(f:m=(i:Int))(hd:Hd ao n)(q:i<=n)(p:n<=cap)(K:∀c,(∀k,k<n - i->adr c k=adr ao (i+k))->Hd c (n - i)->wpList P ops Q rest (a.put d (.slice c (n - i) (cap - i))) w):wpList P ops Q (⟨d,.slice t x (some lo) none none,ty,ps,af,none⟩::rest) a w:=by
 refine wpList_plain rfl fun u j=>?_;subst f;have r:=a2l (P:=P) (ao:=ao) T n cap o i q p w;have:=K (a1b ao i cap 1) (fun k v=>by
  obtain⟨b,g,rfl⟩:=hd (by omega);have f:¬cap=i:=by omega
  simp[a1b,f,Addr.add_lit,adr,Nat.add_assoc]) (fun y=>by
  obtain⟨b,g,rfl⟩:=hd (by omega);have f:¬cap=i:=by omega
  exact⟨b,g+i*1,by simp[a1b,f,Addr.add_lit]⟩)
 unfold Oper.wp;simp[execOp,s,l,r,Result.andThen];exact j _ _ this
end
theorem b3c(m:Mat)(k:Nat):eN m (k+1)=a6p (eN m k) k:=rfl
theorem a9H{n c B t i col:Nat}{m:Mat}(_:Shp n c m)(h:HB B m)(_:t<n)(_:i<n)(r:5*B<=68719476736):YtjmnhbebpffoaaaGreat.BR 68719476736 (m.getD i [])/\YtjmnhbebpffoaaaGreat.BR 68719476736 (m.getD t [])/\YtjmnhbebpffoaaaGreat.hq ((m.getD i []).getD col 0/(m.getD t []).getD col 0)<=68719476736/\∀x∈m.getD t [],YtjmnhbebpffoaaaGreat.hq ((m.getD i []).getD col 0/(m.getD t []).getD col 0*x)<=68719476736:=by
 have a:∀k,YtjmnhbebpffoaaaGreat.BR B (m.getD k []):=fun k q hq=>by
  obtain⟨j,f,rfl⟩:=List.getElem_of_mem hq;have e:(m.getD k []).getD j 0=(m.getD k [])[j]:=by rw[List.getD_eq_getElem?_getD,List.getElem?_eq_getElem f];rfl
  rw[<-e];exact h k j
 have b:=h i col;have d:=h t col;unfold ent at b d;have l:=YtjmnhbebpffoaaaGreat.hq_div ((m.getD i []).getD col 0) ((m.getD t []).getD col 0);refine⟨fun q hq=>c1A (a i q hq) (by omega),fun q hq=>c1A (a t q hq) (by omega),by omega,fun x g=>?_⟩;have o:=a t x g;have p:=YtjmnhbebpffoaaaGreat.hq_mul ((m.getD i []).getD col 0/(m.getD t []).getD col 0) x;omega
theorem HB.bm{B:Nat}{m:Mat}(h:HB B m):YtjmnhbebpffoaaaGreat.BM B m:=fun r c q hq=>by
 obtain⟨i,a,rfl⟩:=List.getElem_of_mem c;obtain⟨j,b,rfl⟩:=List.getElem_of_mem hq;have:=h i j;simpa[ent,List.getD_eq_getElem?_getD,a,b]using this
theorem Sl.fromA{α:Type}{R:Mem->Value->α->Prop}{h:Mem}{ao a:Option Addr}{l:List α}(s:Sl R 1 h ao l)(i:Nat)(g:∀k,k<l.length - i->adr a k=adr ao (i+k))(hd:Hd a (l.length - i)):Sl R 1 h a (l.drop i):=by
 refine⟨by rw[List.length_drop];exact hd,fun k c=>?_⟩;rw[List.length_drop]at c;obtain⟨u,d,e,f⟩:=s.2 (i+k) (by omega);refine⟨u,d,fun j m=>?_,by simpa using f⟩;have b:j=0:=by omega
 subst b;have:=e 0 m;simp only[Nat.mul_one,Nat.add_zero]at this |-;rw[g k c];exact this
theorem b7H{ao:Option Addr}{n i:Nat}(hd:Hd ao n)(a:0<n)(k:Nat):adr (Option.map (fun x=>x.add i) ao) k=adr ao (i+k):=by
 obtain⟨b,c,rfl⟩:=hd a;simp[Addr.add_lit,adr,Nat.add_assoc]
theorem a0c.pure(k:IntKind):∀h a u x,a0c k h u x->a0c k a u x:=fun _ _ _ _ h=>h
theorem b9q{ao:Option Addr}{n i m:Nat}(hd:Hd ao n)(c:0<n):Hd (Option.map (fun x=>x.add i) ao) m:=fun _=>by
 obtain⟨b,a,rfl⟩:=hd c;exact⟨b,a+i,by simp[Addr.add_lit]⟩
def c0z(X:Nat->Bool)(base:Nat)(w:World)(ao:Option Addr)(cap:Nat)(hs:List Hdr)(s:St)(e:Ending)(w':World):Prop:=
 ExtX (mb ao hs) w w'/\∃po pc hs',e=.returned (.tuple #[.slice po s.2.1.length pc,.bool s.2.2])/\mb ao hs'=mb ao hs/\MO (un X po) base 24 47 w' ao cap hs' s.1/\OL (a0c .i64) 1 (mz X ao hs) w.heap.size 3 w' po pc s.2.1
theorem a6D(X:Nat->Bool)(base:Nat)(w:World)(ao:Option Addr)(cap n c:Nat)(hs:List Hdr)(m:List (List Rat))(hX:HX X w)(hM:MO X base 24 47 w ao cap hs m)(hsh:Shp n c m)(hc:colsL m=c)(hn:n<=900)(hcc:c<=900)(hT:b7d m c):Calls Tryz.prog 197 #[.slice ao n cap] w (c0z X base w ao cap hs (eN m c)):=by
 have hml:=hid hsh.1;have hmc:MC (mk X w) (.slice ao n cap) m:=by have:=hM.mc;rw[hml.out]at this;exact this
 have hcol:=a2o X w _ m hmc;rw[hc]at hcol;have hlen:=hid (hM.len.trans hml.out);have hcap:n<=cap:=by have:=hM.capLen;rw[hml.out]at this;exact this
 have hhO:Hd ao n:=by have:=hM.outer.hd;rw[hlen.out]at this;exact this
 have hn0:Hid (n=0->c=0):=hid fun h=>by
  have:m= []:=List.eq_nil_of_length_eq_zero (by rw[hml.out];exact h);rw[<-hc,this];rfl
 have hsh':=hid hsh;obtain⟨B,hB7,hBj⟩:=hT;have hB':=hid hBj;have hBB':=hid hB7;have hund:un X none=X:=by funext k;simp[un,ob]
 have hMu:MO (un X none) base 24 47 w ao cap hs m:=by rw[hund];exact hM
 have hXz:=hM.hz hX;clear hsh hBj hB7 hc hmc;go_enter Tryz.func197,Tryz.ntmps197
 go_wp2_with fail
 refine hcol.mono ?_;rintro e w1 ⟨rfl,rfl⟩;clear hcol;go_wp2_with fail
 go_loopw [2,3,11] (fun p o k wr=>∃(j:Nat) (po:Option Addr) (pc pl:Nat) (hs':List Hdr) (M:Mat) (P:List Nat) (od:Bool),k=.int .i64 j/\p=.slice po pl pc/\o=.bool od/\j<=c/\Hid (P.length=pl)/\Hid (eN m j=(M,P,od))/\Hid (j<c->pl<n)/\MO (un X po) base 24 47 wr ao cap hs' M/\OL (a0c .i64) 1 (mz X ao hs) w1.heap.size 3 wr po pc P/\Hid (mb ao hs'=mb ao hs)/\ExtX (mb ao hs) w1 wr) (fun _ _ k _=>c - (intOf k).toNat)
 case atStart=>exact⟨0,none,0,0,hs,m,[],false,rfl,rfl,rfl,Nat.zero_le _,hid rfl,hid rfl,hid (fun h=>by have:=hn0.out;omega),hMu,OL.nil _ _ _ _ _ _,hid rfl,ExtX.refl _⟩
 case round=>
  obtain⟨j,po,pc,pl,hs',M,P,od,rfl,rfl,rfl,hj,hpl,hst,hpn,hM,hP,hmb,hE⟩:=hrel;by_cases hlj:j<c
  ·have hpn2:=hpn.out hlj
   have hok:=a6c hsh'.out j;rw[hst.out]at hok;have hshM:Shp n c M:=hok.shp;have hMl:=hid hshM.1;have hhl:=hid (hM.len.trans hMl.out);have hXr:HX X wr:=hX.ext hE;have hXu:HX (un X po) wr:=fun k hk=>by
    by_cases hx:X k=true
    ·exact hXr k hx
    ·exact(hP.block (by simpa[un,hx]using hk)).2
   have hBM:HB B M:=by have:=hB'.out j (by omega);rw[hst.out]at this;exact this
   have hb5':5*B<=68719476736:=by have:=hBB'.out;omega
   have hBM2:=hid (hBM.bm);have hEb:Ext wr (wr.alloc (.cells #[.int .i64 (j:Int)] 3)):=(ExtX.refl wr).alloc _;have hbx:(wr.alloc (.cells #[.int .i64 (j:Int)] 3)).cell? ⟨wr.heap.size,0,none⟩=some (.int .i64 (j:Int)):=a4o 0 rfl;have hM1:=hM.ext0 hEb;have hP1:=hP.ext0 (a0c.elem _) hEb;have hX1:=hXu.ext hEb;have hSl:Sl RC 1 (mk (un X po) (wr.alloc (.cells #[.int .i64 (j:Int)] 3))) ao M:=by
    obtain⟨_,_,heq,_,h3⟩:=hM1.mc;simp only[Value.slice.injEq]at heq;obtain⟨rfl,_,rfl⟩:=heq;exact h3
   obtain⟨bw,hbw⟩:=c1F wr.heap.size;obtain⟨w2,hw2⟩:=c1F (wr.alloc (.cells #[.int .i64 (j:Int)] 3));rw[hw2]at hEb hbx hM1 hP1 hX1 hSl;rw[hbw]at hbx;have hpbw:Hid (ob po bw=false):=hid (by rw[<-hbw];exact hP.ob_ge (c1B _));have hobw:Hid (ob ao bw=false):=hid (by rw[<-hbw];exact hM.outer.ob_ge (c1B _));have hn1:0<n:=by omega
   have hmd:Hid (n - pl=(M.drop pl).length):=hid (by rw[List.length_drop,hMl.out]);have hSd:Sl RC 1 (mk (un X po) w2) (Option.map (fun x=>x.add pl) ao) (M.drop pl):=hSl.fromA pl (fun k _=>b7H hhO hn1 k) (b9q hhO hn1);have hrows:Hid (∀r∈M.drop pl,r.length=c):=hid fun r hr=>hshM.2 r (List.mem_of_mem_drop hr);have hbmd:Hid (BM 68719476736 (M.drop pl)):=hid fun r hr q hq=>c1A (hBM2.out r (List.mem_of_mem_drop hr) q hq) (by omega);have hix:=a8a (un X po) w2 _ (M.drop pl) (n - pl) (cap - pl) c j bw hX1 hSd hmd.out.symm (by omega) hrows.out hlj hbmd.out hbx;obtain⟨F,hF⟩:∃F,(M.drop pl).findIdx? (fun r=>decide (r.getD j 0≠0))=F:=⟨_,rfl⟩;rw[hF]at hix;have hnz:Hid (b2l M P.length j=F):=hid (by rw[hpl.out];exact hF);clear hF hSd hSl;go_wp2_with fail
   refine hix.mono ?_;rintro e w3 ⟨hE3,rfl⟩;have hM3:=hM1.ext0 hE3;have hP3:=hP1.ext0 (a0c.elem _) hE3;have hb3:=hE3.cell hbx;have hE03:=hE.trans (ExtX.of (hEb.trans hE3));clear hM1 hP1 hix hbx hw2
   match F,hnz with
   |none,hnz=>
    have hst2:Hid (eN m (j+1)=(M,P,od)):=hid (by
     rw[b3c,hst.out];unfold a6p;dsimp only;split
     ·rfl
     ·rw[hnz.out])
    simp only[c0y];go_wp2_with fail
    go_roundw
    case rel=>exact⟨j+1,po,pc,pl,hs',M,P,od,by go_num,rfl,rfl,by omega,hpl,hst2,hid (fun _=>hpn2),hM3,hP3,hmb,hE03⟩
    case measure=>simp[intOf];omega
   |some q,hnz=>
    obtain⟨hq1,hq2⟩:=a3P hnz.out;rw[hpl.out,hMl.out]at hq1;have hq0:¬(q:Int)<0:=by omega
    simp only[c0y];clear hq2;have hr1:pl+q<hs'.length:=by rw[hhl.out];exact hq1
    have hr2:pl<hs'.length:=by rw[hhl.out];exact hpn2
    obtain⟨a1,n1,c1,hh1⟩:∃a n c,hs'[pl]=(a,n,c):=⟨_,_,_,rfl⟩;obtain⟨a2,n2,c2,hh2⟩:∃a n c,hs'[pl+q]=(a,n,c):=⟨_,_,_,rfl⟩;have hO0:=hM3.outer;obtain⟨z1,zf1⟩:=hM3.hdr pl hr2;obtain⟨z2,zf2⟩:=hM3.hdr (pl+q) hr1;rw[hh1]at z1;rw[hh2]at z2
    dsimp only at z1 z2
    have k1:w3.cell? (adr ao pl)=some (.slice a1 n1 c1):=z1;have k2:w3.cell? (adr ao (pl+q))=some (.slice a2 n2 c2):=z2;have f1:w3.frozen? (adr ao pl)=false:=zf1;obtain⟨hO1,hE4⟩:=hO0.set1 a3L HdR.elem HdR.one pl hr2 (.slice a2 n2 c2) (a2,n2,c2) rfl;obtain⟨u3,k3,f3,hu3⟩:=hO1.cell HdR.one (pl+q) (by simpa using hr1);have hu3':u3=.slice a2 n2 c2:=by
     have e:(hs'.set pl (a2,n2,c2))[pl+q]'(by simpa using hr1)=(a2,n2,c2):=by
      rw[List.getElem_set];split
      ·rfl
      ·exact hh2
     rw[e]at hu3;exact hu3
    rw[hu3']at k3;obtain⟨hO2,hE5⟩:=hO1.set1 a3L HdR.elem HdR.one (pl+q) (by simpa using hr1) (.slice a1 n1 c1) (a1,n1,c1) rfl;have hE6:=(hE4.trans hE5).drew;have hO2:=hO2.ext0 HdR.elem (ExtX.refl (Y:=noY) _).drew;rw[<-hh1,<-hh2]at hO2;have i1:∀W,(Instr.indexAt 23 (.slice ao n cap) (.int .i64 (pl:Int))).run Tryz.prog W=.ok (.pointer (some (adr ao pl))) W:=a0y a0o ao n cap .i64 pl hhO (by omega) rfl;have i2:∀W,(Instr.indexAt 23 (.slice ao n cap) (.int .i64 ((pl:Int)+(q:Int)))).run Tryz.prog W=.ok (.pointer (some (adr ao (pl+q)))) W:=a0y a0o ao n cap .i64 (pl+q) hhO (by omega) (by omega);have ew:IntKind.i64.wrap ((pl:Int)+(q:Int))=(pl:Int)+(q:Int):=IntWalk.i64_in _ (by omega);have hM5:=hM3.swap hr2 hr1 hE6 hO2;have hX5:=hX1.ext hE3;have hP5:OL (a0c .i64) 1 (mz X ao hs) w1.heap.size 3 _ po pc P:=hP3.frame (a0c.pure _) hE6 (fun k hk=>by
     cases hb:ob ao k
     ·rfl
     ·have:=(hM3.out_sep hb).1;rw[a0u hk]at this;simp at this) hP3.1
    have hb5:=hE6.cellY hb3 hobw.out;clear hu3 hu3' hO0 hO1 hO2 z1 z2 zf1 zf2 hh1 hh2 hE4 hE5;go_wp2_with fail
    go_region
    obtain⟨w5,hw5⟩:=c1F (((w3.setCell (adr ao pl) (.slice a2 n2 c2)).setCell (adr ao (pl+q)) (.slice a1 n1 c1)).drew);rw[hw5]at hM5 hP5 hb5 hE6 |-;have hE05:=hE03.trans (ExtX.weaken hE6 fun k _ hk=>(b9m hk).1);have hX5:=hX5.ext hE6;have hXz5:=hXz.ext hE05;have hbase5:=hE05.size;clear k1 k2 k3 f1 f3 i1 i2 hw5 hb3;have hpl5:pl+1<=n:=hpn2;go_wp2_with (first|((with_reducible show wpList _ _ _ (⟨_,.slice _ _ _ _ _,_,_,_,_⟩::_) _ _);refine b5d a0o n (pl+1) rfl rfl (by omega) hhO hpl5 hcap ?_;intro ao3 ha3 hd3;replace ha3:=hid ha3)|(at_builtin;refine a0t (l:=P) a6e rfl (a0c.elem .i64) hbase5 hXz5 pl hpl.out rfl rfl hP5 (.int .i64 (j:Int)) j rfl rfl (by omega) (by omega) ?_;intro po2 pc2 w6 hP6 hE7 hor;have b6:=hE7.cellY hb5 hpbw.out))
    have hM6:MO (un X po2) base 24 47 w6 ao cap _ _:=hM5.ext (X':=un X po2) hE7 (fun k _ hk=>a0u hk) (fun k hk hz=>by
     by_cases hx:X k=true
     ·exact a0j hx
     ·have h2:ob po2 k=true:=by simpa[un,hx]using hz
      rcases hor with rfl|⟨g,rfl,hg⟩
      ·exact a0u h2
      ·have:g=k:=by simpa[ob]using h2
       omega)
    have hE06:ExtX (mb ao hs) w1 w6:=hE05.then_ hE7 fun k hk _=>hP5.ob_lt hk;have hmb2:Hid (mb ao ((hs'.set pl hs'[pl+q]).set (pl+q) hs'[pl])=mb ao hs):=hid (by rw[<-hmb.out];exact(b2W (X:=X) fun k=>by rw[b5b hr2 hr1]).1);have hh2l:Hid (((hs'.set pl hs'[pl+q]).set (pl+q) hs'[pl]).length=n):=hid (by simp[hhl.out]);have hsh2:Shp n c (a1e M pl (pl+q)):=hshM.swap hpn2 hq1;have hBM2':HB B (a1e M pl (pl+q)):=hBM.swap hshM hpn2 hq1;have hst2:Hid (eN m (j+1)=(clear (a1e M pl (pl+q)) pl j n,P++[j],od !=decide (q≠0))):=hid (by
     rw[b3c,hst.out];unfold a6p;dsimp only;rw[if_neg (by rw[hpl.out,hMl.out];omega),hnz.out]
     dsimp only
     rw[hpl.out,hMl.out])
    have hbnd:Hid (∀i,i<n->BR 68719476736 ((a1e M pl (pl+q)).getD i [])/\BR 68719476736 ((a1e M pl (pl+q)).getD pl [])/\hq (((a1e M pl (pl+q)).getD i []).getD j 0/((a1e M pl (pl+q)).getD pl []).getD j 0)<=68719476736/\∀x∈(a1e M pl (pl+q)).getD pl [],hq (((a1e M pl (pl+q)).getD i []).getD j 0/((a1e M pl (pl+q)).getD pl []).getD j 0*x)<=68719476736):=hid fun i hi=>a9H hsh2 hBM2' hpn2 hi hb5';have hmbw:Hid (mb ao hs bw=false):=hid (by
     rw[<-hmb.out];cases hb:mb ao hs' bw
     ·rfl
     ·have:=(hM.mb_block hb).2;omega)
    obtain⟨hs2,hhs2⟩:=c1F ((hs'.set pl hs'[pl+q]).set (pl+q) hs'[pl]);obtain⟨M2,hM2⟩:=c1F (a1e M pl (pl+q));rw[hhs2]at hM6 hmb2 hh2l;rw[hM2]at hM6 hsh2 hBM2' hst2 hbnd;clear hhs2 hM2;have hM2l:=hid hsh2.1;have hM6':MO (un X po2) base 24 47 w6 ao cap hs2 (clear M2 pl j 0):=by rw[b1A];exact hM6
    go_loopw [54] (fun k wx=>∃(s:Nat),k=.int .i64 s/\s<=n - (pl+1)/\MO (un X po2) base 24 47 wx ao cap hs2 (clear M2 pl j s)/\OL (a0c .i64) 1 (mz X ao hs) w1.heap.size 3 wx po2 pc2 (P++[j])/\ExtX (mb ao hs) w1 wx/\wx.cell? ⟨bw,0,none⟩=some (.int .i64 (j:Int))) (fun k _=>n - (pl+1) - (intOf k).toNat)
    case atStart=>exact⟨0,rfl,Nat.zero_le _,hM6',hP6,hE06,b6⟩
    case round=>
     obtain⟨s,rfl,hs9,hM8,hP8,hE8,b8⟩:=hrel;by_cases hls:s<n - (pl+1)
     ·obtain⟨t,ht⟩:=c1F (pl+1+s)
      have htn:t<n:=by omega
      have hth:t<hs2.length:=by rw[hh2l.out];exact htn
      have hph:pl<hs2.length:=by rw[hh2l.out];exact hpn2
      have htm:t<M2.length:=by rw[hM2l.out];exact htn
      have hpm:pl<M2.length:=by rw[hM2l.out];exact hpn2
      have htc:t<(clear M2 pl j s).length:=by rw[a2F];exact htm
      have hpc:pl<(clear M2 pl j s).length:=by rw[a2F];exact hpm
      obtain⟨a1,n1,c1,hh1⟩:∃a n c,hs2[t]=(a,n,c):=⟨_,_,_,rfl⟩;obtain⟨a2,n2,c2,hh2⟩:∃a n c,hs2[pl]=(a,n,c):=⟨_,_,_,rfl⟩;have hg1:(clear M2 pl j s)[t]=M2[t]:=by rw[a2T htc htm,if_neg (by omega)]
      have hg2:(clear M2 pl j s)[pl]=M2[pl]:=by rw[a2T hpc hpm,if_neg (by omega)]
      have hn1':n1=c:=by
       have:=hM8.rlen t hth htc;rw[hh1,hg1,hsh2.2 _ (c1E _)]at this;exact this
      have hn2':n2=c:=by
       have:=hM8.rlen pl hph hpc;rw[hh2,hg2,hsh2.2 _ (c1E _)]at this;exact this
      subst hn1';subst hn2';have hR1:=hM8.row t hth htc;have hR2:=hM8.row pl hph hpc;rw[hg1]at hR1;rw[hg2]at hR2;simp only[hh1]at hR1;simp only[hh2]at hR2;have hz1:=fun k (hk:ob a1 k=true)=>hM8.mz_sub hth k (by rw[hh1];exact hk);have hz2:=fun k (hk:ob a2 k=true)=>hM8.mz_sub hph k (by rw[hh2];exact hk);have hds:∀k,ob a1 k=true->ob a2 k=false:=fun k hk=>by
       have:=hM8.dis t pl hth hph (by omega) k (by rw[hh1];exact hk);rw[hh2]at this;exact this
      have hsp:=fun k (hk:ob a1 k=true)=>hM8.sep t hth k (by rw[hh1];exact hk);have hBn:=hbnd.out t htn;rw[a2M htm]at hBn;have hcs:Hid ((clear M2 pl j s).set t (a3j M2[t] (M2.getD pl []) j)=clear M2 pl j (s+1)):=hid (by subst ht;exact b2Z htm);have hpe:M2.getD pl []=M2[pl]:=a2M hpm;rw[<-hpe]at hR2;have hrl1:=hid (hsh2.2 M2[t] (c1E _));have hrl2:=hid (show(M2.getD pl []).length=n2 by rw[hpe];exact hsh2.2 _ (c1E _));obtain⟨row,hrow⟩:=c1F (M2[t]);obtain⟨piv,hpiv⟩:=c1F (M2.getD pl []);rw[hrow,hpiv]at hcs;rw[hrow]at hR1 hrl1;rw[hpiv]at hR2 hrl2;rw[hrow,hpiv]at hBn;have hX8:HX (un X po2) wr:=fun k hk=>by
       by_cases hx:X k=true
       ·exact hX.ext hE8 k hx
       ·exact(hP8.block (by simpa[un,hx]using hk)).2
      have hZ8:=hM8.hz hX8;have hEd:=c1L wr;have hel:=a5j (mz (un X po2) ao hs2) base wr.drew a1 a2 c1 c2 n2 j row piv hZ8 (hR1.ext0 QC.elem hEd) (hR2.ext0 QC.elem hEd) hz1 hz2 hds hrl1.out hrl2.out (by omega) hlj hBn.1 hBn.2.1 hBn.2.2.1 hBn.2.2.2;have y1:wr.cell? (adr ao3 s)=some (.slice a1 n2 c1):=by
       have:=(hM8.hdr t hth).1;rw[hh1,<-ht]at this;rw[ha3.out s hls];exact this
      have y2:wr.drew.cell? (adr ao pl)=some (.slice a2 n2 c2):=by
       have:=(hM8.hdr pl hph).1;rw[hh2]at this;exact this
      have y3:wr.drew.cell? ⟨bw,0,none⟩=some (.int .i64 (j:Int)):=b8;have haob:Hid (ob a1 (adr ao pl).block=false):=hid (by
       cases hb:ob a1 (adr ao pl).block
       ·rfl
       ·have h1:=(hsp _ hb).2
        obtain⟨b0,o0,rfl⟩:=hhO (by omega);simp[ob,adr]at h1)
      have habw:Hid (ob a1 bw=false):=hid (by
       cases hb:ob a1 bw
       ·rfl
       ·have h5:mb ao hs2 bw=true:=a2D.2 (.inr (a1R hth (show ob hs2[t].1 bw=true by rw[hh1];exact hb)))
        rw[hmb2.out,hmbw.out]at h5;simp at h5)
      have i1:∀W,(Instr.indexAt 23 (.slice ao n cap) (.int .i64 (pl:Int))).run Tryz.prog W=.ok (.pointer (some (adr ao pl))) W:=a0y a0o ao n cap .i64 pl hhO (by omega) rfl;have hh1':=hid hh1
      replace ht:=hid ht
      clear hg1 hg2 hpe hrow hpiv hh1 hh2 hR1 hR2 hBn;go_wp2_with (with_reducible refine a0v a0o ?_)
      go_region_held3 (fun w'=>w'.cell? (adr ao pl)=some (.slice a2 n2 c2)/\w'.cell? ⟨bw,0,none⟩=some (.int .i64 (j:Int)))
       (first|exact⟨t1.cellY y2 haob.out,t1.cellY y3 habw.out⟩|go_keep)
       ((go_at_call 206;(with_reducible refine hel.mono ?_);rintro ee w7 ⟨rfl,t1,hO7⟩))
      have b9:=t1.cellY y3 habw.out;have hEr:ExtX (ob hs2[t].1) wr.drew w7:=by rw[hh1'.out];exact t1
      have hM9:=(hM8.ext0 hEd).upd hth (l:=a3j row piv j) hEr (fun hi'=>by
       rw[a2T htc htm,if_neg (by have:=ht.out;omega),a3O _ _ _ (by rw[hrl1.out,hrl2.out]),hrl2.out];exact(hsh2.2 _ (c1E _)).symm) (by rw[hh1'.out];exact hO7)
      rw[hcs.out]at hM9;have hP9:=(hP8.ext0 (a0c.elem _) hEd).frame (a0c.pure _) t1 (fun k hk=>by
       cases hb:ob a1 k
       ·rfl
       ·have:=(hsp k hb).1;rw[a0u hk]at this;simp at this) hP8.1
      have hE9:=(hE8.trans (ExtX.of hEd)).trans (by rw[<-hmb2.out];exact ExtX.row hth hEr);clear y1 y2 y3 i1;go_wp2_with fail
      go_roundw
      case rel=>exact⟨s+1,by go_num,by omega,hM9,hP9,hE9,b9⟩
      case measure=>simp[intOf];omega
     ·have hfin:Hid (clear M2 pl j s=clear M2 pl j n):=hid (b1B (by rw[hM2l.out];omega) (by rw[hM2l.out];omega))
      rw[hfin.out]at hM8;have hodd:Hid ((!(od==((q:Int) !=0)))=(od !=decide (q≠0))):=hid (by cases od<;>by_cases h:q=0<;>simp[h]);have hpl2:Hid ((P++[j]).length=pl+1):=hid (by simp[hpl.out]);by_cases hfull:pl+1=n
      ·have hne:(((pl+1:Nat):Int)==(n:Int))=true:=a6u (by omega)
       have hne2:(((pl:Int)+1)==(n:Int))=true:=a6u (by omega);have hstop:Hid (eN m c=(clear M2 pl j n,P++[j],od !=decide (q≠0))):=hid (by
        rw[b6Q m (j+1) (by rw[hst2.out];dsimp only;rw[hpl2.out,a2F,hM2l.out];exact hfull) c (by omega)];exact hst2.out)
       clear hfull;go_wp2_with fail
       go_ret2
       rw[hstop.out];exact⟨hE8,po2,pc2,hs2,by rw[hpl2.out,<-hodd.out];rfl,hmb2.out,hM8,hP8⟩
      ·have hne:(((pl+1:Nat):Int)==(n:Int))=false:=a2C (by omega)
       have hne2:(((pl:Int)+1)==(n:Int))=false:=a2C (by omega);have hpn3:Hid (j+1<c->pl+1<n):=hid fun _=>by omega
       clear hfull;go_wp2_with fail
       go_roundw
       case rel=>exact⟨j+1,po2,pc2,pl+1,hs2,_,_,_,by go_num,rfl,by rw[hodd.out],by omega,hpl2,hst2,hpn3,hM8,hP8,hmb2,hE8⟩
       case measure=>simp[intOf];omega
  ·have hjc:j=c:=by omega
   subst hjc;go_wp2_with fail
   go_ret2
   rw[hst.out];exact⟨hE,po,pc,hs',by rw[hpl.out];rfl,hmb.out,hM,hP⟩
theorem a8K{n c B t i col:Nat}{m:Mat}(hs:Shp n c m)(h:HB B m)(f:t<n)(_:i<n)(b:i≠t)(v:7*B<=68719476736):YtjmnhbebpffoaaaGreat.BR 68719476736 ((divL m t col).getD i [])/\YtjmnhbebpffoaaaGreat.BR 68719476736 ((divL m t col).getD t [])/\YtjmnhbebpffoaaaGreat.hq (((divL m t col).getD i []).getD col 0/((divL m t col).getD t []).getD col 0)<=68719476736/\∀x∈(divL m t col).getD t [],YtjmnhbebpffoaaaGreat.hq (((divL m t col).getD i []).getD col 0/((divL m t col).getD t []).getD col 0*x)<=68719476736:=by
 have d:=h.divL hs f col;have a:∀k,YtjmnhbebpffoaaaGreat.BR (2*B) ((divL m t col).getD k []):=fun k q hq=>by
  obtain⟨j,g,rfl⟩:=List.getElem_of_mem hq;have e:((divL m t col).getD k []).getD j 0=((divL m t col).getD k [])[j]:=by rw[List.getD_eq_getElem?_getD,List.getElem?_eq_getElem g];rfl
  rw[<-e];exact d k j
 have o:YtjmnhbebpffoaaaGreat.hq (((divL m t col).getD i []).getD col 0)<=B:=by
  have:=a3w hs f col i col;rw[if_neg b]at this;unfold ent at this;rw[this];exact h i col
 have p:YtjmnhbebpffoaaaGreat.hq (((divL m t col).getD t []).getD col 0)<=2*B:=d t col;have r:=YtjmnhbebpffoaaaGreat.hq_div (((divL m t col).getD i []).getD col 0) (((divL m t col).getD t []).getD col 0);refine⟨fun q hq=>c1A (a i q hq) (by omega),fun q hq=>c1A (a t q hq) (by omega),by omega,fun x l=>?_⟩;have s:=a t x l;have u:=YtjmnhbebpffoaaaGreat.hq_mul (((divL m t col).getD i []).getD col 0/((divL m t col).getD t []).getD col 0) x;omega
theorem a2G{P:Program}{t e sz a:Nat}{z:Value}{ao:Option Addr}(T:SliceT P t e sz a z)(len cap:Nat)(g:IntKind)(i:Nat)(h:i<=cap)(w:World):(Instr.sliceAt t (.slice ao len cap) none (some (.int g (i:Int))) none).run P w=.ok (.slice ao i cap) w:=by
 obtain⟨ti,d,hz,f,c⟩:=info_parts T.info;have b:(i:Int)<=cap:=by omega
 cases ao<;>simp[Instr.sliceAt,Instr.slice,run_underlying T.und,Instr.sliceBounds,run_sliceBound,b,sizeOf,typeInfo,d,Addr.add_zero']
def c0A(X:Nat->Bool)(base:Nat)(w:World)(ao:Option Addr)(cap:Nat)(hs:List Hdr)(s:Mat×List Nat)(e:Ending)(w':World):Prop:=
 ExtX (mb ao hs) w w'/\∃po pc hs',e=.returned (.slice po s.2.length pc)/\mb ao hs'=mb ao hs/\MO (un X po) base 24 47 w' ao cap hs' s.1/\OL (a0c .i64) 1 (mz X ao hs) w.heap.size 3 w' po pc s.2
theorem a4J(X:Nat->Bool)(base:Nat)(w:World)(ao:Option Addr)(cap n c:Nat)(hs:List Hdr)(m:List (List Rat))(hX:HX X w)(C:MO X base 24 47 w ao cap hs m)(c2:Shp n c m)(hc:colsL m=c)(hn:n<=900)(p7:c<=900)(hT:b2h m c):Calls Tryz.prog 191 #[.slice ao n cap] w (c0A X base w ao cap hs (a0J m c)):=by
 have b6:=a6D X base w ao cap n c hs m hX C c2 hc hn p7 hT.e;obtain⟨B,a8,_,c4⟩:=hT;have d4:=a6c c2 c;have t5:n<=cap:=by have:=C.capLen;rw[c2.1]at this;exact this
 have g5:Hd ao n:=by have:=C.outer.hd;rw[C.len,c2.1]at this;exact this
 have b9:a0J m c=(dN (eN m c).1 (eN m c).2.1 (eN m c).2.1.length,(eN m c).2.1):=rfl;obtain⟨⟨E,p,od⟩,hS⟩:∃S,eN m c=S:=⟨_,rfl⟩;rw[hS]at b6 d4 c4 b9;rw[b9]
 dsimp only at c4 |-
 obtain⟨pl,d8⟩:=c1F p.length;have j0:Shp n c E:=d4.shp;have d0:Ech n c (ent E) p:=d4.ech;have t9:pl<=n:=by have:=d0.le;omega
 have i6:=hid (b6S j0 d0);have m9:Hid (∀t,t<=p.length->HB B (dN E p t)):=hid c4;have n0:=hid a8;have l6:Hid (∀i (hi:i<p.length),p[i]<c):=hid d0.lt;have K:=hid d8;have l3:Hid (HX X w):=hid hX;clear c2 c4 a8 b9 hS d4 d0 hc;go_enter Tryz.func191,Tryz.ntmps191
 go_wp2_with fail
 refine b6.mono ?_;rintro e w1 ⟨n3,po,pc,d,rfl,l0,f6,f7⟩
 dsimp only at f6 f7 |-
 rw[d8];have J:=hid l0;have f3:=hid (f6.len.trans j0.1);have t8:Hd po pl:=by have:=f7.hd;rw[d8]at this;exact this
 clear b6 l0 d8 C;go_wp2_with fail
 go_loopw [19] (fun k wr=>∃(i:Nat),k=.int .i64 i/\i<=pl/\MO (un X po) base 24 47 wr ao cap d (dN E p i)/\OL (a0c .i64) 1 (mz X ao hs) w.heap.size 3 wr po pc p/\ExtX (mb ao hs) w wr) (fun k _=>pl - (intOf k).toNat)
 case atStart=>exact⟨0,rfl,Nat.zero_le _,f6,f7,n3⟩
 case round=>
  obtain⟨i,rfl,hi,C,hP,hE⟩:=hrel;by_cases q9:i<pl
  ·have g7:i<p.length:=by rw[K.out];exact q9
   have b8:i<n:=by omega
   have f9:=l6.out i g7;have o5:=(hP.sl (a0c.elem _)).nat i g7;have hD:=i6.out i (by rw[K.out];omega);have V:=m9.out i (by rw[K.out];omega);have i4:=n0.out;have q4:Hid (p.getD i 0=p[i]):=hid (by simp[List.getD_eq_getElem?_getD,g7]);have g3:Hid (dN E p (i+1)=dStep (dN E p i) i p[i]):=hid (by rw[<-q4.out];rfl);obtain⟨D,i5⟩:=c1F (dN E p i);obtain⟨col,b5⟩:=c1F (p[i]);rw[i5]at C hD V g3;rw[b5]at o5 f9 g3;have c8:Shp n c D:=hD.shp;have n2:=hid c8.1;have z:i<d.length:=by rw[f3.out];exact b8
   have b7:i<D.length:=by rw[n2.out];exact b8
   obtain⟨a,O,cr,T⟩:∃a O cr,d[i]=(a,O,cr):=⟨_,_,_,rfl⟩;obtain⟨row,F⟩:=c1F (D[i]);have U:Hid (row.length=c):=hid (by rw[<-F];exact c8.2 _ (c1E _));have r5:O=c:=by
    have:=C.rlen i z b7;rw[T,F,U.out]at this;exact this
   subst r5;have hR:=C.row i z b7;rw[F]at hR;simp only[T]at hR;have m3:=fun k (G:ob a k=true)=>C.mz_sub z k (by rw[T];exact G);have h8:=fun k (G:ob a k=true)=>C.sep i z k (by rw[T];exact G);have p8:Hd a O:=by have:=hR.hd;rw[U.out]at this;exact this
   have i0:Hid (un (cut (mz (un X po) ao d) a) a=mz (un X po) ao d):=hid (a4D m3);have j5:Hid (ob a (adr ao i).block=false):=hid (by
    cases hb:ob a (adr ao i).block
    ·rfl
    ·have h1:=(h8 _ hb).2
     obtain⟨b0,o0,rfl⟩:=g5 (by omega);simp[ob,adr]at h1)
   have y1:wr.cell? (adr ao i)=some (.slice a O cr):=by
    have:=(C.hdr i z).1;rw[T]at this;exact this
   have k0:col<row.length:=by rw[U.out];exact f9
   have j9:Hid (row[col]=ent D i col):=hid (by
    unfold ent;rw[a2M b7];simp[F,List.getD_eq_getElem?_getD,k0])
   obtain⟨P,Z⟩:=c1F (ent D i col);have p6:Hid (hq P<=68719476736):=hid (by rw[<-Z];exact c1A (V i col) (by omega));have f5:Hid (BR 68719476736 row):=hid fun q hq=>by
    obtain⟨x,hx,rfl⟩:=List.getElem_of_mem hq;have:=V.bm D[i] (c1E _) row[x] (by rw[F];exact c1E _);omega
   have e8:Hid (D.set i (row.map (· /P))=divL D i col):=hid (by
    unfold divL;rw[a2M b7,F,Z])
   rw[Z]at j9;have bx:=Bx.new wr #[.bool false,.slice none 0 0,.slice none 0 0] 47;have y:=hid T;have h6:=hid F;clear T F i5 b5 Z;go_wp2_with (first|(with_reducible refine a0v a6e ?_)|(with_reducible refine a0v a0o ?_)|(with_reducible refine a1w a0x ?_)|((with_reducible refine c1K (t:=47) ?_);refine a5i a0p col hR k0 rfl (by simp) QC.agg ?_;intro u5 e0;rw[j9.out,i0.out]at e0;obtain⟨s5,a5,n5,c5,d5,k5,e5,rfl⟩:=e0.shape)|((with_reducible refine c1J ?_);refine a0a a0p rfl rfl bx rfl rfl a1s ?_;intro w5 r1 r2;have y2:=(ExtX.box ((ExtX.refl wr).alloc _) r2 (c1B _):Ext wr w5).cell y1))
   have c9:=c1M r2;have j1:=C.ext0 c9;have o2:=hP.ext0 (a0c.elem _) c9;have r6:QV (mk (mz (un X po) ao d) w5) (.agg #[.bool s5,.slice a5 n5 c5,.slice d5 k5 e5]) P:=(mkx QC.mono e0 c9).qv p6.out;have i7:=hE.trans (ExtX.of (Y:=mb ao hs) c9);obtain⟨N,p5⟩:=c1F wr.heap.size;rw[p5]at r1 |-;have l1:Hid (mb ao hs N=false):=hid (by
    rw[<-J.out];cases hb:mb ao d N
    ·rfl
    ·have:=(C.mb_block hb).2;omega)
   obtain⟨R,d2⟩:=c1F (row.map (· /P));have d3:Hid (R.length=O):=hid (by rw[<-d2,List.length_map];exact U.out);have b4:Hid (R.length=row.length):=hid (by rw[d3.out,U.out]);have o7:Hid (∀j (h1:j<row.length) (h2:j<R.length),R[j]=row[j]/P):=hid fun j h1 h2=>by subst d2;simp
   rw[d2]at e8;have j2:MO (un X po) base 24 47 w5 ao cap d (D.set i (mix R row 0)):=by
    rw[a3D,<-h6.out,List.set_getElem_self];exact j1
   clear hR d2 bx y1 y2 j1 e0 C hP;go_loopw [36] (fun k wx=>∃(j:Nat),k=.int .i64 j/\j<=O/\MO (un X po) base 24 47 wx ao cap d (D.set i (mix R row j))/\OL (a0c .i64) 1 (mz X ao hs) w.heap.size 3 wx po pc p/\Bx wx N #[.bool s5,.slice a5 n5 c5,.slice d5 k5 e5] 47/\QV (mk (mz (un X po) ao d) wx) (.agg #[.bool s5,.slice a5 n5 c5,.slice d5 k5 e5]) P/\ExtX (mb ao hs) w wx) (fun k _=>O - (intOf k).toNat)
   case atStart=>exact⟨0,rfl,Nat.zero_le _,j2,o2,r1,r6,i7⟩
   case round=>
    obtain⟨j,rfl,hj,C,hP,a8,l7,hE⟩:=hrel;by_cases g9:j<O
    ·have q8:j<row.length:=by rw[U.out];exact g9
     have k4:j<R.length:=by rw[d3.out];exact g9
     have r0:Hid ((mix R row j).length=O):=hid (by rw[a2p b4.out,d3.out]);have g8:j<(mix R row j).length:=by rw[r0.out];exact g9
     have l2:Hid ((mix R row j)[j]=row[j]):=hid (by rw[a1S b4.out,if_neg (by omega)]);have k8:Hid ((mix R row j).set j R[j]=mix R row (j+1)):=hid (a4I b4.out k4);have b3:=hid (o7.out j q8 k4);have j8:=hid (f5.out row[j] (c1E _));have h7:Hid (i<(D.set i (mix R row j)).length):=hid (by rw[List.length_set];exact b7);have hR:=C.row i z h7.out;rw[List.getElem_set_self]at hR;simp only[y.out]at hR;obtain⟨x,hx⟩:=c1F (row[j]);obtain⟨v,hv⟩:=c1F (R[j]);rw[hx]at l2 j8 b3;rw[hv]at k8 b3;have p0:HX X wr:=l3.out.ext hE;have p1:HX (un X po) wr:=fun k G=>by
      by_cases hx:X k=true
      ·exact p0 k hx
      ·exact(hP.block (by simpa[un,hx]using G)).2
     have p2:=C.hz p1;obtain⟨g,o,hg⟩:∃g o,adr a (j*3)=⟨g,o,none⟩:=⟨_,_,rfl⟩;have i1:∀W,(Instr.indexAt 23 (.slice ao n cap) (.int .i64 (i:Int))).run Tryz.prog W=.ok (.pointer (some (adr ao i))) W:=a0y a0o ao n cap .i64 i g5 (by omega) rfl;have bx:=Bx.new wr #[.bool false,.slice none 0 0,.slice none 0 0] 47;have y1:wr.cell? (adr ao i)=some (.slice a O cr):=by
      have:=(C.hdr i z).1;rw[y.out]at this;exact this
     have l9:=hid h8
     replace hg:=hid hg
     clear hx hv h8;go_wp2_with (first|(with_reducible refine a1w a0x ?_)|((with_reducible refine c1K (t:=47) ?_);refine a5i a0p j hR g8 rfl (by simp) QC.agg ?_;intro u6 h9;rw[l2.out,i0.out]at h9;obtain⟨s6,a6,n6,c6,d6,k6,e6,rfl⟩:=h9.shape)|((with_reducible refine c1J ?_);refine a0a a0p rfl rfl bx rfl rfl a1s ?_;intro w6 r3 r4))
     have i2:∀W,(Instr.indexAt 24 (.slice a O cr) (.int .i64 (j:Int))).run Tryz.prog W=.ok (.pointer (some ⟨g,o,none⟩)) W:=by rw[<-hg.out];exact a0e a0x a O cr .i64 j p8 (by omega)
     have n4:=c1M r4;have i8:=c1L w6;have r:=n4.trans i8;have o1:=C.ext0 r;have o3:=hP.ext0 (a0c.elem _) r;have o6:=hR.ext0 QC.elem r;have i3:=a8.ext0 r;have r9:QV (mk (mz (un X po) ao d) w6.drew) (.agg #[.bool s6,.slice a6 n6 c6,.slice d6 k6 e6]) x:=(mkx QC.mono h9 r).qv j8.out;have j6:QV (mk (mz (un X po) ao d) w6.drew) (.agg #[.bool s5,.slice a5 n5 c5,.slice d5 k5 e5]) P:=mkx QV.mono l7 r;have o9:=p2.ext r;have m7:=r3.ext0 i8;obtain⟨bw,f8⟩:=c1F wr.heap.size;rw[f8]at m7;have p4:Hid (ob a bw=false):=hid (by rw[<-f8];exact hR.ob_ge (c1B _));have e4:Hid (ob a N=false):=hid (by
      cases hb:ob a N
      ·rfl
      ·have h5:mb ao d N=true:=a2D.2 (.inr (a1R z (show ob d[i].1 N=true by rw[y.out];exact hb)))
       rw[J.out,l1.out]at h5;simp at h5)
     have hS:Hid (∀Y W',ExtX Y w6.drew W'->Y (adr ao i).block=false->Y bw=false->Y N=false->W'.cell? (adr ao i)=some (.slice a O cr)/\W'.cell? ⟨bw,0,none⟩=some (.bool s6)/\W'.cell? ⟨bw,1,none⟩=some (.slice a6 n6 c6)/\W'.cell? ⟨bw,2,none⟩=some (.slice d6 k6 e6)/\W'.cell? ⟨N,0,none⟩=some (.bool s5)/\W'.cell? ⟨N,1,none⟩=some (.slice a5 n5 c5)/\W'.cell? ⟨N,2,none⟩=some (.slice d5 k5 e5)):=hid fun Y W' h s0 s1 s2=>by
      have z2:=m7.ext h s1;have z3:=i3.ext h s2;exact⟨h.cellY (r.cell y1) s0,z2.cell 0 rfl,z2.cell 1 rfl,z2.cell 2 rfl,z3.cell 0 rfl,z3.cell 1 rfl,z3.cell 2 rfl⟩
     obtain⟨s3,s4,s8,s9,t0,t2,t3⟩:=hS.out noY w6.drew (ExtX.refl _) rfl rfl rfl;have qd:=c0l (mz (un X po) ao d) w6.drew _ _ _ _ o9 r9 j6;rw[<-b3.out]at qd;have t4:Calls Tryz.prog 79 #[.agg #[.bool s6,.slice a6 n6 c6,.slice d6 k6 e6],.agg #[.bool s5,.slice a5 n5 c5,.slice d5 k5 e5]] w6.drew (fun e w'=>Ext w6.drew w'/\∃u ec,e=.returned (.tuple #[u,.int .i64 ec])/\QC (mk (mz (un X po) ao d) w') u v):=qd.mono fun e w' ⟨q1,u,q2,q3⟩=>⟨q1,u,_,q2,q3⟩;clear qd r3 bx y1;rw[f8];go_wp2_with fail
     go_region_held3 (fun w'=>w'.cell? (adr ao i)=some (.slice a O cr)/\w'.cell? ⟨bw,0,none⟩=some (.bool s6)/\w'.cell? ⟨bw,1,none⟩=some (.slice a6 n6 c6)/\w'.cell? ⟨bw,2,none⟩=some (.slice d6 k6 e6)/\w'.cell? ⟨N,0,none⟩=some (.bool s5)/\w'.cell? ⟨N,1,none⟩=some (.slice a5 n5 c5)/\w'.cell? ⟨N,2,none⟩=some (.slice d5 k5 e5))
      (first|exact hS.out noY _ t1 rfl rfl rfl|exact hS.out (ob a) _ ((ExtX.of t1).trans f4.2) j5.out p4.out e4.out|go_keep)
      ((go_at_call 79;(with_reducible refine t4.mono ?_);rintro ee w7 ⟨t1,u7,t7,rfl,m1⟩;obtain⟨s7,a7,n7,c7,d7,k7,e7,rfl⟩:=m1.shape;have d1:=o6.ext0 QC.elem t1;obtain⟨_,v0,v1,v2,_,⟨g0,f0⟩,⟨g1,f1⟩,⟨g2,f2⟩,_⟩:=d1.cell3 j g8 hg.out;have f4:=d1.set3 a3C QC.elem j g8 hg.out (v0:= .bool s7) (v1:= .slice a7 n7 c7) (v2:= .slice d7 k7 e7) (x:=v) (by rw[i0.out];exact m1)))
     obtain⟨q1,q2⟩:=f4;rw[k8.out]at q1;obtain⟨w8,m2⟩:=c1F (((w7.setCell ⟨g,o,none⟩ (.bool s7)).setCell ⟨g,o+1,none⟩ (.slice a7 n7 c7)).setCell ⟨g,o+2,none⟩ (.slice d7 k7 e7));rw[m2]at q1 q2 |-;have m6:ExtX (ob d[i].1) w7 w8:=by rw[y.out];exact q2
     have j3:=(o1.ext0 t1).upd z (l:=mix R row (j+1)) m6 (fun q5=>by rw[List.getElem_set_self,a2p b4.out,a2p b4.out]) (by rw[y.out];exact q1);rw[List.set_set]at j3;have a3:=(o3.ext0 (a0c.elem _) t1).frame (a0c.pure _) q2 (fun k G=>by
      cases hb:ob a k
      ·rfl
      ·have:=(l9.out k hb).1;rw[a0u G]at this;simp at this) hP.1
     have m8:=(i3.ext0 t1).ext q2 e4.out;have r7:=QV.mono _ _ _ _ (a0s q2 m3) (mkx QV.mono j6 t1);have b1:=(hE.trans (ExtX.of (r.trans t1))).trans (show ExtX (mb ao hs) w7 w8 by rw[<-J.out];exact ExtX.row z m6);clear s3 s4 s8 s9 t0 t2 t3 g0 g1 g2 f0 f1 f2 i1 i2 m2;go_wp2_with fail
     go_roundw
     case rel=>exact⟨j+1,by go_num,by omega,j3,a3,m8,r7,b1⟩
     case measure=>simp[intOf];omega
    ·have q7:j=O:=by omega
     subst q7;rw[a3E (by rw[d3.out];exact c1B _) (by rw[U.out];exact c1B _),e8.out]at C;obtain⟨f,a9⟩:=c1F (divL D i col);have L:Shp n j f:=by rw[<-a9];exact c8.divL b8 col
     have j7:Hid (∀t,t<i->BR 68719476736 (f.getD t [])/\BR 68719476736 (f.getD i [])/\hq ((f.getD t []).getD col 0/(f.getD i []).getD col 0)<=68719476736/\∀x∈f.getD i [],hq ((f.getD t []).getD col 0/(f.getD i []).getD col 0*x)<=68719476736):=hid fun t ht=>by
      rw[<-a9];exact a8K c8 V b8 (by omega) (by omega) i4
     have k2:Hid (above f i col i=dN E p (i+1)):=hid (by rw[g3.out];unfold dStep;rw[a9]);rw[a9]at C;have e3:=hid L.1;have n9:MO (un X po) base 24 47 wr ao cap d (above f i col 0):=by rw[b1C];exact C
     have g6:i<=cap:=by omega
     have f1:∀W,(Instr.sliceAt 23 (.slice ao n cap) none (some (.int .i64 (i:Int))) none).run Tryz.prog W=.ok (.slice ao i cap) W:=a2G a0o n cap .i64 i g6;have t6:Hd ao i:=fun h0=>g5 (by omega);clear C a9 a8 l7;go_wp2_with fail
     go_loopw [58] (fun k wx=>∃(s:Nat),k=.int .i64 s/\s<=i/\MO (un X po) base 24 47 wx ao cap d (above f i col s)/\OL (a0c .i64) 1 (mz X ao hs) w.heap.size 3 wx po pc p/\ExtX (mb ao hs) w wx) (fun k _=>i - (intOf k).toNat)
     case atStart=>exact⟨0,rfl,Nat.zero_le _,n9,hP,hE⟩
     case round=>
      obtain⟨s,rfl,u1,A,a3,b1⟩:=hrel;by_cases k9:s<i
      ·have m0:s<n:=by omega
       have M:s<d.length:=by rw[f3.out];exact m0
       have c3:s<f.length:=by rw[e3.out];exact m0
       have h4:i<f.length:=by rw[e3.out];exact b8
       have d9:s<(above f i col s).length:=by rw[a4g];exact c3
       have l5:i<(above f i col s).length:=by rw[a4g];exact h4
       obtain⟨a1,n1,c1,I⟩:∃a n c,d[s]=(a,n,c):=⟨_,_,_,rfl⟩;have g4:(above f i col s)[s]=f[s]:=by rw[a4f d9 c3,if_neg (by omega)]
       have k3:(above f i col s)[i]=f[i]:=by rw[a4f l5 h4,if_neg (by omega)]
       have l4:n1=j:=by
        have:=A.rlen s M d9;rw[I,g4,L.2 _ (c1E _)]at this;exact this
       subst l4;have b2:=A.row s M d9;have a4:=A.row i z l5;rw[g4]at b2;rw[k3]at a4;simp only[I]at b2;simp only[y.out]at a4;have m4:=fun k (G:ob a1 k=true)=>A.mz_sub M k (by rw[I];exact G);have m5:=fun k (G:ob a k=true)=>A.mz_sub z k (by rw[y.out];exact G);have p9:∀k,ob a1 k=true->ob a k=false:=fun k G=>by
        have:=A.dis s i M z (by omega) k (by rw[I];exact G);rw[y.out]at this;exact this
       have l8:=fun k (G:ob a1 k=true)=>A.sep s M k (by rw[I];exact G);have Q:=j7.out s k9;rw[a2M c3]at Q;have k1:Hid ((above f i col s).set s (a3j f[s] (f.getD i []) col)=above f i col (s+1)):=hid (b3a c3 k9);have h3:f.getD i []=f[i]:=a2M h4;rw[<-h3]at a4;have c0:=hid (L.2 f[s] (c1E _));have a2:=hid (show(f.getD i []).length=n1 by rw[h3];exact L.2 _ (c1E _));obtain⟨e2,H⟩:=c1F (f[s]);obtain⟨e1,a0⟩:=c1F (f.getD i []);rw[H,a0]at k1;rw[H]at b2 c0;rw[a0]at a4 a2;rw[H,a0]at Q;have o8:HX (un X po) wr:=fun k G=>by
        by_cases hx:X k=true
        ·exact l3.out.ext b1 k hx
        ·exact(a3.block (by simpa[un,hx]using G)).2
       have p3:=A.hz o8;have q0:=a5j (mz (un X po) ao d) base wr a1 a c1 cr n1 col e2 e1 p3 b2 a4 m4 m5 p9 c0.out a2.out (by omega) f9 Q.1 Q.2.1 Q.2.2.1 Q.2.2.2;have y1:wr.cell? (adr ao s)=some (.slice a1 n1 c1):=by
        have:=(A.hdr s M).1;rw[I]at this;exact this
       have y2:wr.cell? (adr ao i)=some (.slice a n1 cr):=by
        have:=(A.hdr i z).1;rw[y.out]at this;exact this
       have e9:=hid I;clear g4 k3 h3 H a0 I b2 a4 Q f1;go_wp2_with (with_reducible refine a0v a0o ?_)
       refine q0.mono ?_;rintro ee w7 ⟨rfl,t1,d1⟩;have i9:ExtX (ob d[s].1) wr w7:=by rw[e9.out];exact t1
       have j4:=A.upd M (l:=a3j e2 e1 col) i9 (fun q5=>by
        rw[a4f d9 c3,if_neg (by omega),a3O _ _ _ (by rw[c0.out,a2.out]),a2.out];exact(L.2 _ (c1E _)).symm) (by rw[e9.out];exact d1)
       rw[k1.out]at j4;have o4:=a3.frame (a0c.pure _) t1 (fun k G=>by
        cases hb:ob a1 k
        ·rfl
        ·have:=(l8 k hb).1;rw[a0u G]at this;simp at this) a3.1
       have n8:=b1.trans (show ExtX (mb ao hs) wr w7 by rw[<-J.out];exact ExtX.row M i9);clear y1 y2;go_wp2_with fail
       go_roundw
       case rel=>exact⟨s+1,by go_num,by omega,j4,o4,n8⟩
       case measure=>simp[intOf];omega
      ·have r8:s=i:=by omega
       subst r8;rw[k2.out]at A;go_wp2_with fail
       go_roundw
       case rel=>exact⟨s+1,by go_num,by omega,A,a3,b1⟩
       case measure=>simp[intOf];omega
  ·have q6:i=pl:=by omega
   subst q6;rw[<-K.out]at C;go_wp2_with fail
   go_ret
   exact⟨hE,po,pc,d,by rw[K.out];rfl,J.out,C,hP⟩
def c0B(X:Nat->Bool)(w:World)(m:List (List Rat))(p:List Nat)(e:Ending)(w':World):Prop:=Ext w w'/\∃u v,e=.returned (.tuple #[u,v,.int .i64 0])/\MC (mk X w') u m/\SlV (a0c .i64) 1 (mk X w') v p
theorem b1D(X:Nat->Bool)(w:World)(u:Value)(m:List (List Rat))(r:HX X w)(t:MV (mk X w) u m)(n:a0A m=true)(x:b2h m (colsL m)):Calls Tryz.prog 152 #[u] w (c0B X w (a0J m (colsL m)).1 (a0J m (colsL m)).2):=by
 obtain⟨a,v,s,_,_⟩:=a0w n;have f:=a2s X w u m t (by omega);rw[n]at f;have l:=a3o X w u m m.length (colsL m) r t a rfl (by omega) (by omega);have q:=hid (a1f a).1;clear n;go_enter Tryz.func152,Tryz.ntmps152
 go_wp2_with fail
 refine f.mono ?_;rintro e C ⟨rfl,rfl⟩;go_wp2_with fail
 refine l.mono ?_;rintro e A ⟨b,ao,cap,hs,rfl,c⟩;go_wp2_with fail
 refine(a4J X _ A ao cap m.length (colsL m) hs m (r.ext b) c a rfl (by omega) (by omega) x).mono ?_;rintro e B ⟨h,po,pc,z,rfl,y,j,d⟩;have i:=c.ext_from b (c1B _) h;have g:=MC.mono _ _ _ _ (a1a (X:=X) fun k _ o=>a0j o) j.mc;have p:SlV (a0c .i64) 1 (mk X B) (.slice po (a0J m (colsL m)).2.length pc) (a0J m (colsL m)).2:=⟨po,pc,rfl,d.lenCap,(d.sl (a0c.elem _)).mono (a0c.mono _) (a1a fun k _ o=>a2h.2 (.inl o))⟩;rw[q.out.1]at g;go_wp2_with fail
 go_ret3
 exact⟨i,_,_,rfl,g,p⟩
theorem c0C{l:List Rat}{B:Nat}(h:∀x,x<l.length->hq (l.getD x 0)<=B):YtjmnhbebpffoaaaGreat.BR B l:=fun q hq=>by
 obtain⟨x,a,rfl⟩:=List.getElem_of_mem hq;have:=h x a;rwa[List.getD_eq_getElem?_getD,List.getElem?_eq_getElem a]at this
theorem a8L{l:List Rat}{B:Nat}(h:YtjmnhbebpffoaaaGreat.BR B l)(a:1<=B)(x:Nat):hq (l.getD x 0)<=B:=by
 by_cases b:x<l.length
 ·rw[List.getD_eq_getElem?_getD,List.getElem?_eq_getElem b];exact h _ (c1E _)
 ·rw[List.getD_eq_getElem?_getD,List.getElem?_eq_none (by omega)]
  show hq 0<=B
  rw[a0U];exact a
theorem a6E{a b:List Rat}{n:Nat}(e:a.length=n)(f:b.length=n)(h:∀i,i<n->a.getD i 0=b.getD i 0):a=b:=by
 refine List.ext_getElem (by omega) fun i c d=>?_;have:=h i (by omega);rwa[List.getD_eq_getElem?_getD,List.getElem?_eq_getElem c,List.getD_eq_getElem?_getD,List.getElem?_eq_getElem d]at this
theorem b9r{k:Nat}(a:k<=4):35^k<=1500625:=c1A (Nat.pow_le_pow_right (by omega) a) (by decide)
theorem b0P{m:Mat}{b:List Rat}{n c B:Nat}(hs:Shp n c m)(d:HB B m)(e:YtjmnhbebpffoaaaGreat.BR B b):HB B (a2Z m b n):=fun i j=>by
 have a:=d.pos;by_cases f:i<n
 ·by_cases g:j<c+1
  ·rw[a8A hs i f j g];unfold a3k
   split
   ·exact a8L e a i
   ·exact d i j
  ·rw[a1Y (a2u hs) (.inr (by omega)),a0U];exact a
 ·rw[a1Y (a2u (b:=b) hs) (.inl (by omega)),a0U];exact a
theorem b5e{m:Mat}{b:List Rat}{n c:Nat}(hs:Shp n c m):∃d,RE n (c+1) (a3k c (ent m) fun i=>b.getD i 0) (ent (a0J (a2Z m b n) (c+1)).1) d:=by
 obtain⟨_,_,d,a⟩:=a1f (a2u (b:=b) hs);exact⟨d,a.congr fun i e j f=>(a8A hs i e j f).symm⟩
theorem a9I(R:Mat)(p:List Nat)(c:Nat):(b6j R p c).length=c:=b0z _ _ _ _
def a1h(m:Mat)(n:Nat):Mat:=(List.range n).map fun i=>m.getD i []++(List.replicate n 0).set i 1
theorem a1j{m:Mat}{n:Nat}(hs:Shp n n m):Shp n (2*n) (a1h m n):=⟨by simp[a1h],fun r b=>by
 obtain⟨i,a,rfl⟩:=List.mem_map.1 b;rw[List.length_append,hs.row (List.mem_range.1 a),List.length_set,List.length_replicate];omega⟩
theorem a3p{m:Mat}{n:Nat}(hs:Shp n n m)(i:Nat)(a:i<n)(j:Nat)(d:j<2*n):ent (a1h m n) i j=if j<n then ent m i j else if j=n+i then 1 else 0:=by
 have c:=hs.row a;have e:(a1h m n).getD i []=m.getD i []++(List.replicate n 0).set i 1:=by simp[a1h,List.getD_eq_getElem?_getD,a]
 unfold ent;rw[e,List.getD_eq_getElem?_getD];by_cases h:j<n
 ·rw[if_pos h,List.getElem?_append_left (by omega),<-List.getD_eq_getElem?_getD]
 ·rw[if_neg h,List.getElem?_append_right (by omega),c,List.getElem?_set]
  by_cases b:i=j - n
  ·rw[if_pos b,if_pos (show j=n+i by omega)]
   simp[show i<n from a]
  ·rw[if_neg b,if_neg (show¬j=n+i by omega)]
   simp[show j - n<n by omega]
theorem b5f{m:Mat}{n:Nat}(hs:Shp n n m):LI n (2*n) (ent (a1h m n)):=fun y d i b=>by
 have a:=d (n+i) (by omega);unfold cmb at a;rw[a1X i b fun q hq c=>by
  rw[a3p hs q hq (n+i) (by omega),if_neg (by omega),if_neg (by omega)];grind]at a
 rw[a3p hs i b (n+i) (by omega),if_neg (by omega),if_pos rfl]at a;grind
theorem a5I{m:Mat}{n:Nat}(hs:Shp n n m):(a0J (a1h m n) (2*n)).2.length=n:=by
 obtain⟨c,a,d,b⟩:=a1f (a1j hs);exact(b5f hs).full a b
theorem RE.cols{n c c':Nat}{f g:F2}{d:Rat}(h:RE n c f g d)(hc:c'<=c):RE n c' f g d:=by
 induction h with
 |same h=>exact .same fun i hi j hj=>h i hi j (by omega)
 |swap i k hi hk hik h1 h2 h3=>exact .swap i k hi hk hik (fun j hj=>h1 j (by omega)) (fun j hj=>h2 j (by omega)) (fun r hr a b j hj=>h3 r hr a b j (by omega))
 |scale i a hi ha h1 h3=>exact .scale i a hi ha (fun j hj=>h1 j (by omega)) (fun r hr a j hj=>h3 r hr a j (by omega))
 |add i k a hi hk hik h1 h3=>exact .add i k a hi hk hik (fun j hj=>h1 j (by omega)) (fun r hr a j hj=>h3 r hr a j (by omega))
 |trans _ _ ih1 ih2=>exact(ih1).trans (ih2)
def a4u(m:Mat)(n:Nat):Prop:=0<n/\n<=(a0J (a1h m n) (2*n)).2.getD (n - 1) 0
theorem b0Q{m:Mat}{n:Nat}(hs:Shp n n m):∃d,RE n n (ent m) (ent (a0J (a1h m n) (2*n)).1) d:=by
 obtain⟨e,f,d,a⟩:=a1f (a1j hs);refine⟨d,(a.cols (show n<=2*n by omega)).congr fun i b j c=>?_⟩;rw[a3p hs i b j (by omega),if_pos c]
theorem b0R{m:Mat}{n:Nat}(f:n<=4)(hs:Shp n n m):a4u m n↔b9i m n=0:=by
 rw[a7X f hs];obtain⟨o,b,_,q⟩:=a1f (a1j hs);obtain⟨d,hd⟩:=b0Q hs;have a:=a5I hs;have c:=hd.det_same f;have s:=hd.ne;obtain⟨⟨R,p⟩,u⟩:∃S,a0J (a1h m n) (2*n)=S:=⟨_,rfl⟩;unfold a4u;rw[u]at o b q hd a c |-
 dsimp only at o b q hd a c |-
 by_cases r:n=0
 ·subst r
  constructor
  ·intro h;omega
  ·intro h;exfalso;rw[c0n]at h;grind
 ·have l:n - 1<p.length:=by omega
  have e:p.getD (n - 1) 0=p[n - 1]:=by simp[List.getD_eq_getElem?_getD,l]
  rw[e];constructor
  ·rintro ⟨_,w⟩
   have g:det n (ent R)=0:=b0q f _ (n - 1) (by omega) fun j z=>b.left (n - 1) l j (by omega);rw[g]at c;rcases Rat.mul_eq_zero.1 c.symm with k|k
   ·exact absurd k s
   ·exact k
  ·intro h
   refine⟨by omega,Classical.byContradiction fun y=>?_⟩;have v:∀i (x:i<p.length),p[i]<n:=fun i x=>by
    by_cases t:i=n - 1
    ·subst t;omega
    ·have:=b.inc i (n - 1) (by omega) l;omega
   have g:det n (ent R)=1:=by rw[a1u (b.unit a v),b0r f]
   rw[g,h]at c;grind
noncomputable def a2z(m:Mat)(n:Nat):Mat:=(a0J (a1h m n) (2*n)).1.map (·.drop n)
theorem a2f{m:Mat}{n:Nat}(hs:Shp n n m):Shp n n (a2z m n):=by
 obtain⟨a,_⟩:=a1f (a1j hs);refine⟨by simp[a2z,a.1],fun r b=>?_⟩;obtain⟨x,c,rfl⟩:=List.mem_map.1 b;rw[List.length_drop,a.2 x c];omega
theorem b0S{m:Mat}{n:Nat}(hs:Shp n n m)(i:Nat)(c:i<n)(j:Nat):ent (a2z m n) i j=ent (a0J (a1h m n) (2*n)).1 i (n+j):=by
 obtain⟨b,_⟩:=a1f (a1j hs);have a:i<(a0J (a1h m n) (2*n)).1.length:=by rw[b.1];exact c
 unfold ent a2z;simp[List.getD_eq_getElem?_getD,a]
def a3F:F2:=fun i j=>if i=j then 1 else 0
theorem a8M{m:Mat}{n:Nat}(hs:Shp n n m)(d:¬a4u m n):Eqm n n (ent (a0J (a1h m n) (2*n)).1) a3F:=by
 obtain⟨g,b,_,h⟩:=a1f (a1j hs);have a:=a5I hs;unfold a4u at d;refine b.unit a fun i j=>?_;have c:n - 1<(a0J (a1h m n) (2*n)).2.length:=by omega
 have e:(a0J (a1h m n) (2*n)).2.getD (n - 1) 0=(a0J (a1h m n) (2*n)).2[n - 1]:=by simp[List.getD_eq_getElem?_getD,c]
 rw[e]at d;by_cases f:i=n - 1
 ·subst f;omega
 ·have:=b.inc i (n - 1) (by omega) c;omega
theorem b0T(n:Nat)(f:Nat->Rat):sm (2*n) f=sm n f+sm n fun j=>f (n+j):=by
 have key:∀k,sm (n+k) f=sm n f+sm k fun j=>f (n+j):=fun k=>by
  induction k with
  |zero=>show sm n f=sm n f+0;grind
  |succ k ih=>show sm (n+k) f+f (n+k)=sm n f+(sm k _+f (n+k));rw[ih];grind
 rw[show 2*n=n+n by omega];exact key n
theorem b0U{m:Mat}{n:Nat}(hs:Shp n n m)(t:¬a4u m n):Eqm n n (mul n (ent m) (ent (a2z m n))) a3F:=by
 obtain⟨u,v,d,s⟩:=a1f (a1j hs);have p:=a8M hs t;intro i e j o;have f:Nul n (2*n) (ent (a0J (a1h m n) (2*n)).1) (fun q=>if q<n then ent (a2z m n) q j else if q=n+j then -1 else 0):=fun r a=>by
  rw[b0T];have b:sm n (fun q=>ent (a0J (a1h m n) (2*n)).1 r q*(if q<n then ent (a2z m n) q j else if q=n+j then -1 else 0))=ent (a2z m n) r j:=by
   rw[a1X r a fun q hq k=>by rw[p r a q hq];unfold a3F;rw[if_neg (Ne.symm k)];grind];rw[p r a r a,if_pos a];unfold a3F;simp
  have c:sm n (fun q=>ent (a0J (a1h m n) (2*n)).1 r (n+q)*(if n+q<n then ent (a2z m n) (n+q) j else if n+q=n+j then -1 else 0))= - ent (a2z m n) r j:=by
   rw[a1X j o fun q hq g=>by rw[if_neg (by omega),if_neg (by omega)];grind];rw[if_neg (by omega),if_pos rfl,b0S hs r a j];grind
  rw[b,c];grind
 have l:=(s.nul _).2 f i e;rw[b0T]at l;have b:sm n (fun q=>ent (a1h m n) i q*(if q<n then ent (a2z m n) q j else if q=n+j then -1 else 0))=mul n (ent m) (ent (a2z m n)) i j:=a0q fun q hq=>by
  rw[a3p hs i e q (by omega),if_pos hq,if_pos hq]
 have c:sm n (fun q=>ent (a1h m n) i (n+q)*(if n+q<n then ent (a2z m n) (n+q) j else if n+q=n+j then -1 else 0))= - a3F i j:=by
  rw[a1X j o fun q hq g=>by rw[if_neg (show¬n+q<n by omega),if_neg (show¬n+q=n+j by omega)];grind];rw[if_neg (show¬n+j<n by omega),if_pos rfl,a3p hs i e (n+j) (by omega),if_neg (by omega)];unfold a3F;by_cases h:i=j
  ·subst h;simp
  ·rw[if_neg h,if_neg (show¬n+j=n+i by omega)];grind
 rw[b,c]at l;grind
theorem a9J{m:Mat}{n:Nat}(hs:Shp n n m)(f:¬a4u m n)(z:Nat->Rat)(hz:Nul n n (ent m) z)(i:Nat)(a:i<n):z i=0:=by
 obtain⟨d,hd⟩:=b0Q hs;have b:=(hd.nul z).1 hz i a;have e:=a8M hs f;rw[a1X i a fun q hq c=>by rw[e i a q hq];unfold a3F;rw[if_neg (Ne.symm c)];grind]at b;rw[e i a i a]at b;unfold a3F at b;simpa using b
theorem a8N(n:Nat)(f g h:F2)(i j:Nat):mul n f (mul n g h) i j=mul n (mul n f g) h i j:=by
 unfold mul;have e1:sm n (fun k=>f i k*sm n fun q=>g k q*h q j)=sm n fun k=>sm n fun q=>f i k*g k q*h q j:=a0q fun k _=>by
  rw[<-a2A];exact a0q fun q _=>by grind
 have e2:sm n (fun q=>(sm n fun k=>f i k*g k q)*h q j)=sm n fun q=>sm n fun k=>f i k*g k q*h q j:=a0q fun q _=>by
  rw[show(sm n fun k=>f i k*g k q)*h q j=h q j*sm n fun k=>f i k*g k q by grind,<-a2A];exact a0q fun k _=>by grind
 rw[e1,e2,a3N]
theorem b5g{m:Mat}{n:Nat}(hs:Shp n n m)(c:¬a4u m n):Eqm n n (mul n (ent (a2z m n)) (ent m)) a3F:=by
 intro i k j l;have h:=b0U hs c;have o:=a9J hs c (fun q=>mul n (ent (a2z m n)) (ent m) q j - a3F q j) (fun r d=>by
  have e:sm n (fun q=>ent m r q*(mul n (ent (a2z m n)) (ent m) q j - a3F q j))=mul n (ent m) (mul n (ent (a2z m n)) (ent m)) r j - ent m r j:=by
   rw[a0q (g:=fun q=>ent m r q*mul n (ent (a2z m n)) (ent m) q j - ent m r q*a3F q j) fun q _=>by grind,a8r]
   congr 1
   rw[a1X j l fun q hq a=>by unfold a3F;rw[if_neg a];grind];unfold a3F;simp
  rw[e,a8N];have f:mul n (mul n (ent m) (ent (a2z m n))) (ent m) r j=ent m r j:=by
   show(sm n fun q=>mul n (ent m) (ent (a2z m n)) r q*ent m q j)=_
   rw[a0q (g:=fun q=>a3F r q*ent m q j) fun q hq=>by rw[h r d q hq]];rw[a1X r d fun q hq b=>by unfold a3F;rw[if_neg (Ne.symm b)];grind];unfold a3F;simp
  rw[f];grind) i k
 grind
def fn(l:List Rat):Nat->Rat:=fun i=>l.getD i 0
def gmL(x:Mat)(n c:Nat):Mat:=ofF c c (gr n (ent x))
def gyL(x:Mat)(y:List Rat)(n c:Nat):List Rat:=(List.range c).map (gy n (ent x) (fn y))
theorem a3h(x:Mat)(n c:Nat):Shp c c (gmL x n c):=b2r _ _ _
theorem a8b(x:Mat)(n c:Nat):Eqm c c (ent (gmL x n c)) (gr n (ent x)):=b6V c c _
theorem b3d(x:Mat)(y:List Rat)(n c:Nat):(gyL x y n c).length=c:=by simp[gyL]
theorem b3e(x:Mat)(y:List Rat)(n c:Nat){i:Nat}(a:i<c):(gyL x y n c).getD i 0=gy n (ent x) (fn y) i:=by
 simp[gyL,List.getD_eq_getElem?_getD,a]
noncomputable def lsS(x:Mat)(y:List Rat)(n c:Nat):Mat×List Nat:=a0J (a2Z (gmL x n c) (gyL x y n c) c) (c+1)
noncomputable def a1I(x:Mat)(y:List Rat)(n c:Nat):List Rat:=b6j (lsS x y n c).1 (lsS x y n c).2 c
theorem a4h(x:Mat)(y:List Rat)(n c:Nat):(a1I x y n c).length=c:=a9I _ _ _
theorem NS.congr{n c:Nat}{f f':F2}{y k b b':Nat->Rat}(h:NS n c f y b)(e:Eqm n c f f')(m:∀i,i<n->y i=k i)(l:∀j,j<c->b j=b' j):NS n c f' k b':=fun i g=>by
 have e1:∀j,j<c->gr n f i j=gr n f' i j:=fun j d=>a0q fun r a=>by rw[e r a i g,e r a j d]
 have e2:gy n f y i=gy n f' k i:=a0q fun r a=>by rw[e r a i g,m r a]
 rw[<-e2,<-h i g];exact a0q fun j d=>by rw[e1 j d,l j d]
theorem a9K{x:Mat}{y:List Rat}{n c:Nat}(hs:Shp n c x):c∉(lsS x y n c).2/\(lsS x y n c).2=(a0J x c).2/\NS n c (ent x) (fn y) (fn (a1I x y n c))/\∀j,j<c->j∉(a0J x c).2->fn (a1I x y n c) j=0:=by
 obtain⟨_,r,e,q⟩:=a1f hs;obtain⟨_,k,_⟩:=a1f (a2u (b:=gyL x y n c) (a3h x n c));obtain⟨d,hd⟩:=b5e (b:=gyL x y n c) (a3h x n c);have f:RE c (c+1) (a3k c (gr n (ent x)) (gy n (ent x) (fn y))) (ent (lsS x y n c).1) d:=hd.congr fun i l j a=>by
  unfold a3k;by_cases h:j=c
  ·rw[if_pos h,if_pos h];exact(b3e x y n c l).symm
  ·rw[if_neg h,if_neg h,a8b x n c i l j (by omega)]
 obtain⟨m,o,p⟩:=b6W r q k f;have g:∀j,j<c->fn (a1I x y n c) j=b2s (ent (lsS x y n c).1) (lsS x y n c).2 c j:=fun j a=>b0A k j a;refine⟨b2v k f,m,o.congr (fun _ _ _ _=>rfl) (fun _ _=>rfl) (fun j a=>(g j a).symm),fun j a s=>?_⟩;rw[g j a];exact p j a s
theorem b9s{x:Mat}{n c:Nat}(hs:Shp n c x):(a0J (gmL x n c) c).2=(a0J x c).2:=by
 obtain⟨_,b,e,a⟩:=a1f hs;obtain⟨_,f,d,hd⟩:=a1f (a3h x n c);refine f.piv2 b fun v=>?_;have e1:Nul c c (ent (gmL x n c)) v↔Nul c c (gr n (ent x)) v:=(RE.same (a8b x n c)).nul v;exact((hd.nul v).symm.trans e1).trans (a8z.trans (a.nul v))
theorem b3f{l m:List Rat}{c:Nat}(h:l.length=c):a2S l m=sm c fun q=>l.getD q 0*m.getD q 0:=by
 unfold a2S;rw[a6A,h]
theorem b3g{x:Mat}{i:Nat}(a:i<x.length):x[i]=x.getD i []:=by simp[List.getD_eq_getElem?_getD,a]
def a4r(x:Mat)(y b:List Rat):List Rat:=List.zipWith (fun r v=>v - a2S r b) x y
theorem a5k{x:Mat}{y b:List Rat}(h:y.length=x.length):(a4r x y b).length=x.length:=by simp[a4r,h]
theorem a6F{x:Mat}{y b:List Rat}{i:Nat}(h:i<(a4r x y b).length)(a:i<x.length)(c:i<y.length):(a4r x y b)[i]=y[i] - a2S x[i] b:=by simp[a4r]
def pkL(x:Mat)(p:List Nat):Mat:=x.map fun r=>p.map fun j=>r.getD j 0
theorem a8c(x:Mat)(p:List Nat):(pkL x p).length=x.length:=by simp[pkL]
theorem a9L{x:Mat}{n c:Nat}(hs:Shp n c x)(p:List Nat):Shp n p.length (pkL x p):=⟨by rw[a8c];exact hs.1,fun r a=>by
 obtain⟨s,_,rfl⟩:=List.mem_map.1 a;simp⟩
theorem b3h{x:Mat}{n c:Nat}(hs:Shp n c x)(p:List Nat):Eqm n p.length (ent (pkL x p)) (usd (ent x) p):=fun i e a d=>by
 have b:i<x.length:=by rw[hs.1];exact e
 simp[ent,pkL,usd,List.getD_eq_getElem?_getD,b,d]
def a1N(u:Mat)(n m:Nat):Mat:=a6f (trL u n m) u n m
theorem a0D(u:Mat)(n m:Nat):Shp m m (a1N u n m):=b4V (a1B u n m).1
theorem a8O(u:Mat)(n m:Nat):Eqm m m (ent (a1N u n m)) (gr n (ent u)):=fun i a j b=>by
 unfold a1N;rw[b4W (a1B u n m) i a j b];exact a0q fun k c=>by rw[a7W u n m i a k c]
theorem b5h{n c:Nat}{g:F2}{p:List Nat}(d:Rref n c g p)(h:∀z,Nul n c g z->∀a,a<c->z a=0):p.length=c:=by
 have f:∀j,j<c->j∈p:=fun j b=>Classical.byContradiction fun o=>by
  have:=h _ (d.nv_nul o b) j b;rw[a6o]at this;grind
 have i:(List.range c).length<=p.length:=(List.nodup_range).length_le_of_subset fun j b=>f j (List.mem_range.1 b);have e:p.Nodup:=d.pw.imp fun h=>Nat.ne_of_lt h;have l:p.length<=(List.range c).length:=e.length_le_of_subset fun j b=>by
  obtain⟨k,m,rfl⟩:=List.getElem_of_mem b;exact List.mem_range.2 (d.lt k m)
 rw[List.length_range]at i l;omega
theorem b9t{G:Mat}{H:F2}{m:Nat}(i:m<=4)(hs:Shp m m G)(g:Eqm m m (ent G) H)(j:∀z,Nul m m H z->∀a,a<m->z a=0):¬a4u G m/\Inv m H (ent (a2z G m)):=by
 have c:¬a4u G m:=by
  rw[b0R i hs];refine(b2T i hs).1 ?_;obtain⟨_,l,d,hd⟩:=a1f hs;exact b5h l fun z hz=>j z ((RE.same g).nul z|>.1 ((hd.nul z).2 hz))
 refine⟨c,fun a e b f=>?_,fun a e b f=>?_⟩
 ·have:=b0U hs c a e b f
  rw[show(if a=b then(1:Rat)else 0)=a3F a b from rfl,<-this];exact a0q fun k h=>by rw[g a e k h]
 ·have:=b5g hs c a e b f
  rw[show(if a=b then(1:Rat)else 0)=a3F a b from rfl,<-this];exact a0q fun k h=>by rw[g k h b f]
theorem Nul.congr{n c:Nat}{f f':F2}{x:Nat->Rat}(h:Nul n c f x)(e:Eqm n c f f'):Nul n c f' x:=((RE.same e).nul x).1 h
theorem a9M{x:Mat}{n c:Nat}(hs:Shp n c x)(g:(a0J x c).2.length<=4):¬a4u (a1N (pkL x (a0J x c).2) n (a0J x c).2.length) (a0J x c).2.length/\Inv (a0J x c).2.length (gr n (ent (pkL x (a0J x c).2))) (ent (a2z (a1N (pkL x (a0J x c).2) n (a0J x c).2.length) (a0J x c).2.length)):=by
 obtain⟨_,f,e,d⟩:=a1f hs;refine b9t g (a0D _ _ _) (a8O _ _ _) fun z hz a b=>?_;exact b8I f d ((a8z.1 hz).congr (b3h hs _)) a b
theorem a7u{x:Mat}{n c:Nat}(hs:Shp n c x):(a0J x c).2.length<=c:=by
 obtain⟨_,b,_⟩:=a1f hs;have a:(a0J x c).2.Nodup:=b.pw.imp fun h=>Nat.ne_of_lt h;have d:(a0J x c).2.length<=(List.range c).length:=a.length_le_of_subset fun j e=>by
  obtain⟨k,f,rfl⟩:=List.getElem_of_mem e;exact List.mem_range.2 (b.lt k f)
 rwa[List.length_range]at d
noncomputable def bU(u:Mat)(y:List Rat)(n m:Nat):List Rat:=a2w (a2z (a1N u n m) m) (a2w (trL u n m) y)
noncomputable def a7e(x:Mat)(y:List Rat)(n c:Nat):List Rat:=(List.range c).map (b4n (a0J x c).2 (fn (bU (pkL x (a0J x c).2) y n (a0J x c).2.length)))
theorem b3i{u:Mat}{y:List Rat}{n m:Nat}:(bU u y n m).length=m:=by
 unfold bU;rw[a3d];exact(a2f (a0D u n m)).1
theorem b9u{u:Mat}{y:List Rat}{n m:Nat}{a:Nat}(d:a<m):fn (bU u y n m) a=sm m fun b=>ent (a2z (a1N u n m) m) a b*gy n (ent u) (fn y) b:=by
 unfold bU fn;rw[a9D (a2f (a0D u n m)) a d];refine a0q fun b c=>?_;rw[a9D (a1B u n m) b c]
 congr 1
 exact a0q fun k e=>by rw[a7W u n m b c k e]
theorem b5i{x:Mat}{y:List Rat}{n c:Nat}(hs:Shp n c x)(o:c<=4):a7e x y n c=a1I x y n c:=by
 obtain⟨_,d,e,b⟩:=a1f hs;obtain⟨_,_,g,h⟩:=a9K (y:=y) hs;obtain⟨_,l⟩:=a9M hs (c1A (a7u hs) o);have i:=(b8K l (fn y)).congr (b3h hs _) (fun _ _=>rfl) (fun a m=>(b9u (u:=pkL x (a0J x c).2) (y:=y) (n:=n) m).symm);have k:=b8J d b i;refine a6E (n:=c) (by simp[a7e]) (a4h _ _ _ _) fun j f=>?_;have e1:(a7e x y n c).getD j 0=b4n (a0J x c).2 (fn (bU (pkL x (a0J x c).2) y n (a0J x c).2.length)) j:=by
  simp[a7e,List.getD_eq_getElem?_getD,f]
 rw[e1];exact b8G d b k g (fun j _ p=>a4P _ p) h j f
noncomputable def a5y(u:Mat)(n m:Nat):List Rat:=u.map fun r=>a2S r (a2w (a2z (a1N u n m) m) r)
theorem a5l(u:Mat)(n m:Nat):(a5y u n m).length=u.length:=by simp[a5y]
theorem a8P{u:Mat}{n m i:Nat}(a:i<u.length)(h:i<(a5y u n m).length):(a5y u n m)[i]=a2S u[i] (a2w (a2z (a1N u n m) m) u[i]):=by simp[a5y]
theorem b5j{u:Mat}{n m:Nat}(hs:Shp n m u){i:Nat}(e:i<n):fn (a5y u n m) i=hat m (ent u) (ent (a2z (a1N u n m) m)) i i:=by
 have b:i<u.length:=by rw[hs.1];exact e
 have c:i<(a5y u n m).length:=by rw[a5l];exact b
 have e1:fn (a5y u n m) i=(a5y u n m)[i]:=by simp[fn,List.getD_eq_getElem?_getD,c]
 rw[e1,a8P b c,b3f (hs.2 _ (c1E b)),b3g b];refine a0q fun a d=>?_;rw[a9D (a2f (a0D u n m)) a d];rfl
theorem a8Q{u:Mat}{n:Nat}(hs:Shp n 0 u):a5y u n 0=List.replicate n 0:=by
 refine a6E (n:=n) (by rw[a5l];exact hs.1) List.length_replicate fun i a=>?_;have:=b5j hs a;unfold fn at this;rw[this,List.getD_eq_getElem?_getD,List.getElem?_replicate,if_pos a];rfl
abbrev a9N(X:Nat->Bool)(fb:Nat):Nat->Bool:=un X (some ⟨fb,0,none⟩)
abbrev a6G(X:Nat->Bool)(fb:Nat)(po oo:Option Addr):Nat->Bool:=un (un (a9N X fb) po) oo
structure RS (X:Nat->Bool) (w0:World) (b fb base:Nat) (T1 T2 T3:TypeId) (w:World) (oo:Option Addr) (co:Nat) (po:Option Addr) (pc:Nat) (M:List (List Rat)) (p:List Nat) (f:Rat):Prop where
 rows:OL RC 1 (un (a9N X fb) po) base T1 w oo co M
 piv:OL (a0c .i64) 1 (un (a9N X fb) oo) base T3 w po pc p
 fac:∃s a n c d k e,Bx w fb #[.bool s,.slice a n c,.slice d k e] T2/\QC (mk (a6G X fb po oo) w) (.agg #[.bool s,.slice a n c,.slice d k e]) f
 hx:HX X w
 res:Bx w b #[.bool false,.slice none 0 0,.slice none 0 0] T2
 rb:X b=true
 fb0:fb≠b
 ext:Ext w0 w
 low:w0.heap.size<=base
 lowf:w0.heap.size<=fb
section
variable {X:Nat->Bool} {w0 w w':World} {b fb base:Nat} {T1 T2 T3:TypeId} {oo po:Option Addr} {co pc:Nat} {M M':List (List Rat)} {p:List Nat} {f f':Rat}
theorem RS.oF(h:RS X w0 b fb base T1 T2 T3 w oo co po pc M p f):ob oo fb=false:=by
 cases a:ob oo fb
 ·rfl
 ·have:=h.rows.1 fb a;rw[a0j (a0u (a9B fb))]at this;simp at this
theorem RS.pF(h:RS X w0 b fb base T1 T2 T3 w oo co po pc M p f):ob po fb=false:=by
 cases a:ob po fb
 ·rfl
 ·have:=h.piv.1 fb a;rw[a0j (a0u (a9B fb))]at this;simp at this
theorem RS.oB(h:RS X w0 b fb base T1 T2 T3 w oo co po pc M p f):ob oo b=false:=by
 cases a:ob oo b
 ·rfl
 ·have:=h.rows.1 b a;rw[a0j (a0j h.rb)]at this;simp at this
theorem RS.pB(h:RS X w0 b fb base T1 T2 T3 w oo co po pc M p f):ob po b=false:=by
 cases a:ob po b
 ·rfl
 ·have:=h.piv.1 b a;rw[a0j (a0j h.rb)]at this;simp at this
theorem RS.po_oo(h:RS X w0 b fb base T1 T2 T3 w oo co po pc M p f)(k:Nat)(a:ob po k=true):ob oo k=false:=(a0V (h.piv.1 k a)).2
theorem RS.flt(h:RS X w0 b fb base T1 T2 T3 w oo co po pc M p f):fb<w.heap.size:=by
 obtain⟨_,_,_,_,_,_,_,a,_⟩:=h.fac;exact a.lt
theorem RS.hz(h:RS X w0 b fb base T1 T2 T3 w oo co po pc M p f):HX (a6G X fb po oo) w:=fun k l=>by
 by_cases e:ob oo k=true
 ·exact(h.rows.block e).2
 ·by_cases g:ob po k=true
  ·exact(h.piv.block g).2
  ·by_cases i:X k=true
   ·exact h.hx k i
   ·have a:ob oo k=false:=by simpa using e
    have c:ob po k=false:=by simpa using g
    have d:X k=false:=by simpa using i
    have j:ob (some ⟨fb,0,none⟩) k=true:=by simpa[a6G,a9N,un,a,c,d]using l
    have:fb=k:=by simpa[ob]using j
    rw[<-this];exact h.flt
theorem RS.row(h:RS X w0 b fb base T1 T2 T3 w oo co po pc M p f)(i:Nat)(k:i<M.length):∃a c,w.cell? (adr oo i)=some (.slice a M[i].length c)/\w.frozen? (adr oo i)=false/\M[i].length<=c/\Sl QC 3 (YtjmnhbebpffoaaaGreat.mk (a6G X fb po oo) w) a M[i]:=by
 obtain⟨u,d,e,a,c,rfl,g,j⟩:=h.rows.cell SlV.one i k;exact⟨a,c,d,e,g,j⟩
theorem RS.ext0(h:RS X w0 b fb base T1 T2 T3 w oo co po pc M p f)(g:Ext w w'):RS X w0 b fb base T1 T2 T3 w' oo co po pc M p f:=by
 obtain⟨s,a,n,c,d,k,e,i,j⟩:=h.fac;exact⟨h.rows.ext0 RC.elem g,h.piv.ext0 (a0c.elem _) g,⟨s,a,n,c,d,k,e,i.ext0 g,mkx QC.mono j g⟩,h.hx.ext g,h.res.ext0 g,h.rb,h.fb0,h.ext.trans g,h.low,h.lowf⟩
theorem RS.setRows(h:RS X w0 b fb base T1 T2 T3 w oo co po pc M p f)(g:ExtX (ob oo) w w')(m:OL RC 1 (un (a9N X fb) po) base T1 w' oo co M'):RS X w0 b fb base T1 T2 T3 w' oo co po pc M' p f:=by
 obtain⟨s,a,n,c,d,k,e,j,l⟩:=h.fac;exact⟨m,h.piv.frame (a0c.pure _) g (fun k i=>h.po_oo k i) h.piv.1,⟨s,a,n,c,d,k,e,j.ext g h.oF,QC.mono _ _ _ _ (a0s g fun k i=>a0u i) l⟩,h.hx.ext g,h.res.ext g h.oB,h.rb,h.fb0,h.ext.own h.rows h.low g,h.low,h.lowf⟩
theorem RS.setFac(h:RS X w0 b fb base T1 T2 T3 w oo co po pc M p f)(i:ExtX (ob (some ⟨fb,0,none⟩)) w w'){s:Bool}{a:Option Addr}{n c:Nat}{d:Option Addr}{k e:Nat}(m:Bx w' fb #[.bool s,.slice a n c,.slice d k e] T2)(hq:QC (YtjmnhbebpffoaaaGreat.mk (a6G X fb po oo) w') (.agg #[.bool s,.slice a n c,.slice d k e]) f'):RS X w0 b fb base T1 T2 T3 w' oo co po pc M p f':=by
 have l:∀k,ob (some ⟨fb,0,none⟩) k=true->k=fb:=fun k g=>by
  have:fb=k:=by simpa[ob]using g
  exact this.symm
 refine⟨h.rows.ext RC.elem i (fun k _ g=>a0j (a0u g)) (fun _ _ h=>h),h.piv.frame (a0c.pure _) i (fun k g=>?_) h.piv.1,⟨s,a,n,c,d,k,e,m,hq⟩,h.hx.ext i,h.res.ext i (a0b (Ne.symm h.fb0)),h.rb,h.fb0,h.ext.then_ i fun k g _=>?_,h.low,h.lowf⟩
 ·cases j:ob (some ⟨fb,0,none⟩) k
  ·rfl
  ·have:=l k j;subst this;rw[h.pF]at g;simp at g
 ·cases j:ob (some ⟨fb,0,none⟩) k
  ·rfl
  ·have:=l k j;have:=h.lowf;omega
theorem RS.push(h:RS X w0 b fb base T1 T2 T3 w oo co po pc M p f){i:Option Addr}{q j:Nat}(m:ExtX (ob po) w w')(z:OL (a0c .i64) 1 (un (a9N X fb) oo) base T3 w' i q (p++[j]))(r:i=po\/∃g,i=some ⟨g,0,none⟩/\w.heap.size<=g):RS X w0 b fb base T1 T2 T3 w' oo co i q M (p++[j]) f:=by
 obtain⟨s,a,n,c,d,k,e,x,y⟩:=h.fac;have o:∀k,k<w.heap.size->ob i k=true->ob po k=true:=fun k l t=>by
  rcases r with rfl|⟨g,rfl,A⟩
  ·exact t
  ·have:g=k:=by simpa[ob]using t
   omega
 have hF:∀k,k<w.heap.size->un (a9N X fb) i k=true->un (a9N X fb) po k=true:=fun k l hz=>by
  by_cases v:a9N X fb k=true
  ·exact a0j v
  ·exact a0u (o k l (by simpa[un,v]using hz))
 refine⟨h.rows.ext RC.elem m (fun k _ l=>a0u l) hF,z,⟨s,a,n,c,d,k,e,x.ext m h.pF,QC.mono _ _ _ _ (a1g m (fun k _ l=>a0j (a0u l)) fun k l hz=>?_) y⟩,h.hx.ext m,h.res.ext m h.pB,h.rb,h.fb0,h.ext.own h.piv h.low m,h.low,h.lowf⟩;by_cases u:ob oo k=true
 ·exact a0u u
 ·exact a0j (hF k l (by simpa[un,u]using hz))
end
end Go.Proofs.YtjmnhbebpffoaaaGreat
