/- Parts of a proof: each theorem states what it proves, and its conditions. -/
import Derived.Test.YtjmnhbebpffoaaaGreatIwM
set_option maxRecDepth 100000
set_option maxHeartbeats 12800000
namespace Go.Proofs.YtjmnhbebpffoaaaGreat
open Go.RowKit
theorem b3U(X:Nat->Bool)(w:World)(u:Value)(R:Option Addr)(uc:Nat)(x:Mat)(p:List Nat)(n c:Nat)(hX:HX X w)(hu:MV (mk X w) u x)(Q:Sl BlR 1 (mk X w) R (usedL p c))(o:Shp n c x)(hn:n<=96)(hc:c<=96)(hp:p.Pairwise (· < ·))(b5:∀j∈p,j<c):Calls Tryz.prog 65 #[u,.slice R c uc] w (a2b X w MC (pkL x p)):=by
 obtain⟨M,hM⟩:=c1F (pkL x p);have I:Hid (M.length=n):=hid (by rw[<-hM,a8c];exact o.1);have Z:Hid (∀i (h1:i<x.length) (h:i<M.length),pkR x[i] (usedL p c) c=M[i]):=hid fun i h1 h=>by subst hM;rw[b3O hp b5];simp[pkL]
 obtain⟨e,s⟩:=c1F (usedL p c);have D:Hid (e.length=c):=hid (by rw[<-s];exact a2k p c);obtain⟨ua,f7,rfl,c4,c3⟩:=hu;have d8:=c3.hd;have f0:=hid o.1;have e7:=hid o.2;rw[s]at Z Q;have a8:=Q.hd;rw[D.out]at a8;rw[o.1]at d8 c4 |-;rw[hM];clear hM s o hp b5;go_enter Tryz.func65,Tryz.ntmps65
 go_wp2_with fail
 go_loopw [5,6] (fun ov iv wr=>∃(i:Nat) (oo:Option Addr) (co:Nat),iv=.int .i64 i/\ov=.slice oo i co/\i<=n/\OL RC 1 X w.heap.size 24 wr oo co (M.take i)/\Ext w wr) (fun _ iv _=>n - (intOf iv).toNat)
 case atStart=>exact⟨0,none,0,rfl,rfl,Nat.zero_le _,OL.nil _ _ _ _ _ _,ExtX.refl _⟩
 case round=>
  obtain⟨i,oo,co,rfl,rfl,hi,J,F⟩:=hrel;have a4:HX X wr:=hX.ext F;have d2:HX (un X oo) wr:=J.unX a4;have d4:=F.size;by_cases b4:i<n
  ·have b0:i<x.length:=by rw[f0.out];exact b4
   have a9:i<M.length:=by rw[I.out];exact b4
   have c0:=hid (a0I M i a9);have e1:=hid (a0O (l:=M) (i:=i) (by omega));have b9:Sl RV 1 (mk (un X oo) wr) ua x:=c3.old RV.mono F (fun j hj=>J.ob_lt hj);obtain⟨a1,c1,f4,N,C,P⟩:=b9.row i b0;have c7:Sl BlR 1 (mk (un X oo) wr) R e:=Q.old BlR.mono F (fun j hj=>J.ob_lt hj);have m:=e7.out x[i] (c1E _);have f:=Z.out i b0 a9;obtain⟨r,hr⟩:=c1F (x[i]);rw[hr]at N C P m f;have b7:=hid m;rw[m]at N C;have f5:Hd a1 c:=by have:=P.hd;rw[m]at this;exact this
   obtain⟨Mi,B⟩:=c1F (M[i]);rw[B]at c0 f;have a0:=hid f;clear m hr f B b9;obtain⟨wo,e9⟩:∃wo,wo=wr:=⟨_,rfl⟩;subst e9;go_wp2_with fail
   go_loopw [7,8] (fun rv jv wx=>∃(j:Nat) (t:Option Addr) (E q:Nat),jv=.int .i64 j/\rv=.slice t q E/\j<=c/\q<=j/\Hid ((pkR r e j).length=q)/\OL QC 3 (un X oo) wo.heap.size 47 wx t E (pkR r e j)/\Ext wo wx) (fun _ jv _=>c - (intOf jv).toNat)
   case atStart=>exact⟨0,none,0,0,rfl,rfl,Nat.zero_le _,c1B _,hid rfl,OL.nil _ _ _ _ _ _,ExtX.refl _⟩
   case round=>
    obtain⟨j,t,E,q,rfl,rfl,hj,f6,d,z,a⟩:=hrel;have a7:HX (un X oo) wr:=d2.ext a;have d3:HX (un (un X oo) t) wr:=z.unX a7;by_cases b3:j<c
    ·have b1:j<r.length:=by rw[b7.out];exact b3
     have b2:j<e.length:=by rw[D.out];exact b3
     have e4:Sl QV 3 (mk (un (un X oo) t) wr) a1 r:=P.old QV.mono a (fun k hk=>z.ob_lt hk);have kb:=a1H ((c7.mono BlR.mono (a0k a)).bl j b2);have f1:=N.out noY wr a rfl;have O:Hid (e.getD j false=e[j]):=hid (by simp[List.getD_eq_getElem?_getD,b2]);have d7:Hid (r.getD j 0=r[j]):=hid (by simp[List.getD_eq_getElem?_getD,b1]);obtain⟨b,hb⟩:=c1F (e[j]);rw[hb]at kb O;have iu:∀W,(Instr.indexAt 65 (.slice R c uc) (.int .i64 (j:Int))).run Tryz.prog W=.ok (.pointer (some (adr R j))) W:=a0y a8Y R c uc .i64 j a8 (by omega) rfl;clear hb;cases b
     ·have e2:Hid (pkR r e (j+1)=pkR r e j):=hid (b6E O.out)
      go_wp2_with fail
      rw[<-e2.out]at z d;go_roundw
      case rel=>exact⟨j+1,t,E,q,by go_num,rfl,by omega,by omega,d,z,a⟩
      case measure=>simp[intOf];omega
     ·have g:Hid (pkR r e (j+1)=pkR r e j++[r[j]]):=hid (by rw[<-d7.out];exact b3N O.out)
      obtain⟨L,V⟩:=c1F (pkR r e j);rw[V]at z g d;obtain⟨v,hv⟩:=c1F (r[j]);have e8:=hid hv;rw[hv]at g;clear V hv;go_wp2_with (first|(with_reducible refine a0v a0o ?_)|(with_reducible refine a1w a0x ?_)|((with_reducible refine c1K (t:=47) ?_);refine a0z a0p j e4 b1 rfl (by simp) QV.agg ?_;intro u5 A;obtain⟨s5,a5,n5,c5,d5,m5,e5,rfl⟩:=A.shape))
      rw[e8.out]at A;refine(a3M (un (un X oo) t) wr _ v d3 A).mono ?_;rintro ee w6 ⟨y,u6,rfl,c2⟩;obtain⟨s6,a6,n6,c6,d6,k6,e6,rfl⟩:=c2.shape;have S:=z.ext0 QC.elem y;have K:=(a.trans y).size;clear f1 kb iu A;go_wp2_with (at_builtin;refine a0t (l:=L) a0x rfl QC.elem K (a7.ext y) q d.out rfl rfl S (.agg #[.bool s6,.slice a6 n6 c6,.slice d6 k6 e6]) v rfl c2 (by omega) (by omega) ?_;intro f3 c9 w7 T G e3)
      have H:=(a.trans y).own S (c1B _) G;rw[<-g.out]at T;have b6:Hid ((pkR r e (j+1)).length=q+1):=hid (by rw[g.out,List.length_append,d.out];rfl);go_roundw
      case rel=>exact⟨j+1,f3,c9,q+1,by go_num,by go_num,by omega,by omega,b6,T,H⟩
      case measure=>simp[intOf];omega
    ·have e0:j=c:=by omega
     subst e0;rw[a0.out]at z d;have a2:=J.ext0 RC.elem a;have K:=(F.trans a).size;have Y:=z.sl QC.elem;have U:=z.lenCap;rw[d.out]at U;have b8:RC (mk (un X oo) wr) (.slice t q E) Mi:=⟨t,E,by rw[d.out],by rw[d.out];exact U,Y⟩;clear Y;go_wp2_with (at_builtin;refine a0t (l:=M.take i) a0o rfl RC.elem K (a4.ext a) i e1.out rfl rfl a2 (.slice t q E) Mi rfl b8 (by omega) (by omega) ?_;intro f2 c8 w7 a3 G e3)
     have H:=(F.trans a).own a2 (c1B _) G;rw[c0.out]at a3;go_roundw
     case rel=>exact⟨i+1,f2,c8,by go_num,by go_num,by omega,a3,H⟩
     case measure=>simp[intOf];omega
  ·have d9:i=n:=by omega
   subst d9;rw[c1D (by rw[I.out];exact c1B _)]at J;have d1:=J.sl RC.elem;have d0:=J.lenCap;go_wp2_with fail
   go_ret
   exact⟨F,_,rfl,oo,co,by rw[I.out];rfl,d0,d1⟩
theorem b8k(m:Mat)(n c j:Nat)(_:j<c)(h:j<(trL m n c).length):(trL m n c)[j]=(List.range n).map fun p=>ent m p j:=by simp[trL]
theorem a5u(X:Nat->Bool)(w:World)(u:Value)(m:List (List Rat))(n c:Nat)(hX:HX X w)(hu:MV (mk X w) u m)(hf:a0A m=true)(k:m.length=n)(s:colsL m=c):Calls Tryz.prog 66 #[u] w (b5a X w (trL m n c)):=by
 obtain⟨K,b8,Y,_,_⟩:=a0w hf;rw[k,s]at K;rw[k]at b8;rw[s]at Y;have H:=a4l QV.mono X w u m hu (by omega);rw[hf]at H;have g:=hid (fun w' (h:Ext w w')=>a4s X w' u m (mkx MV.mono hu h));rw[s]at g;obtain⟨M,hM⟩:=c1F (trL m n c);have F:Hid (M.length=c):=hid (by rw[<-hM];exact(a1B m n c).1);have c0:Hid (∀j (I:j<c) (h:j<M.length),M[j]=(List.range n).map fun p=>ent m p j):=hid fun j I h=>by subst hM;exact b8k m n c j I h
 have d9:M.length<=c:=by rw[F.out];exact c1B _
 have e0:c<=M.length:=by rw[F.out];exact c1B _
 have a9:=hid k;have b1:=hid K;rw[hM];obtain⟨ua,e9,rfl,b6,b5⟩:=hu;have c9:=b5.hd;rw[k]at H g b6 c9 |-;clear hM hf k s K;go_enter Tryz.func66,Tryz.ntmps66
 go_wp2_with fail
 refine H.mono ?_;rintro e w1 ⟨b9,rfl⟩;go_wp2_with fail
 go_loopw [4,5] (fun o B wr=>∃(j:Nat) (oo:Option Addr) (co:Nat),B=.int .i64 j/\o=.slice oo j co/\j<=c/\OL RC 1 X w.heap.size 24 wr oo co (M.take j)/\Ext w wr) (fun _ B _=>c - (intOf B).toNat)
 case atStart=>exact⟨0,none,0,rfl,rfl,Nat.zero_le _,OL.nil _ _ _ _ _ _,b9⟩
 case round=>
  obtain⟨j,oo,co,rfl,rfl,I,S,Q⟩:=hrel;have U:HX X wr:=hX.ext Q;have c4:HX (un X oo) wr:=S.unX U;have c8:=Q.size;have t:=g.out wr Q;by_cases a8:j<c
  ·have A:j<M.length:=by omega
   have b3:=hid (a0I M j A);have d2:=hid (a0O (l:=M) (i:=j) (by omega));obtain⟨R,hR⟩:=c1F (M[j]);have r:=c0.out j a8 A;rw[hR]at r b3;have G:Hid (R.length=n):=hid (by rw[r];simp);have c3:Hid (∀i (hi:i<n) (h:i<R.length),R[i]=ent m i j):=hid fun i hi h=>by subst r;simp
   have e1:R.length<=n:=by rw[G.out];exact c1B _
   have e2:n<=R.length:=by rw[G.out];exact c1B _
   clear r hR;obtain⟨wo,d8⟩:∃wo,wo=wr:=⟨_,rfl⟩;subst d8;go_wp2_with fail
   refine t.mono ?_;rintro e w2 ⟨rfl,rfl⟩;go_wp2_with fail
   go_loopw [6,7] (fun o B wx=>∃(i:Nat) (y:Option Addr) (P:Nat),B=.int .i64 i/\o=.slice y i P/\i<=n/\OL QC 3 (un X oo) w2.heap.size 47 wx y P (R.take i)/\Ext w2 wx) (fun _ B _=>n - (intOf B).toNat)
   case atStart=>exact⟨0,none,0,rfl,rfl,Nat.zero_le _,OL.nil _ _ _ _ _ _,ExtX.refl _⟩
   case round=>
    obtain⟨i,y,P,rfl,rfl,hi,b,a⟩:=hrel;have V:HX (un X oo) wr:=c4.ext a;have c7:HX (un (un X oo) y) wr:=b.unX V;have e7:=a.size;by_cases a4:i<n
    ·have a2:i<m.length:=by rw[a9.out];exact a4
     have z:i<R.length:=by omega
     have L:=hid (a0I R i z);have a7:=hid (a0O (l:=R) (i:=i) (by omega));have T:=c3.out i a4 z;rw[T]at L;have b2:Sl RV 1 (mk (un X oo) w2) ua m:=b5.old RV.mono Q (fun j I=>S.ob_lt I);have d7:Sl RV 1 (mk (un (un X oo) y) wr) ua m:=b2.old RV.mono a (fun j I=>b.ob_lt I);obtain⟨a1,c1,e3,W,Z,b0⟩:=d7.row i a2;have b7:=W.out noY wr (ExtX.refl _) rfl;have J:Hid (m[i].length=c):=hid (b1.out.2 m[i] (c1E _));have a3:j<m[i].length:=by rw[J.out];exact a8
     have a0:=hid (b0Z a2 a3);obtain⟨x,hx⟩:=c1F (m[i]);rw[J.out]at b7 Z;have e8:Hd a1 c:=by have:=b0.hd;rw[J.out]at this;exact this
     obtain⟨v,hv⟩:=c1F (ent m i j);rw[hv]at a0 L;clear W T hv hx;go_wp2_with (first|(with_reducible refine a0v a0o ?_)|(with_reducible refine a1w a0x ?_)|((with_reducible refine c1K (t:=47) ?_);refine a0z a0p j b0 a3 rfl (by simp) QV.agg ?_;intro u5 N;rw[a0.out]at N;obtain⟨s5,a5,n5,c5,d5,k5,e5,rfl⟩:=N.shape))
     refine(a3M (un (un X oo) y) wr _ _ c7 N).mono ?_;rintro e w6 ⟨q,u6,rfl,b4⟩;obtain⟨s6,a6,n6,c6,d6,k6,e6,rfl⟩:=b4.shape;have d:=b.ext0 QC.elem q;have e4:=q.size;clear b7;go_wp2_with (at_builtin;refine a0t (l:=R.take i) a0x rfl QC.elem (by omega) (V.ext q) i a7.out rfl rfl d (.agg #[.bool s6,.slice a6 n6 c6,.slice d6 k6 e6]) v rfl b4 (by omega) (by omega) ?_;intro O C w7 f D d3)
     have E:=(a.trans q).own d (c1B _) D;rw[L.out]at f;go_roundw
     case rel=>exact⟨i+1,O,C,by go_num,by go_num,by omega,f,E⟩
     case measure=>simp[intOf];omega
    ·have d1:i=n:=by omega
     subst d1;rw[c1D (by omega)]at b;have t:=b.lenCap;have d4:=b.sl QC.elem;have d:=S.ext0 RC.elem a;have c2:RC (mk (un X oo) wr) (.slice y i P) R:=⟨y,P,by rw[G.out],t,d4⟩;go_wp2_with (at_builtin;refine a0t (l:=M.take j) a0o rfl RC.elem (by omega) (U.ext a) j d2.out rfl rfl d (.slice y i P) R rfl c2 (by omega) (by omega) ?_;intro O C w7 f D d3)
     have E:=(Q.trans a).own d (c1B _) D;rw[b3.out]at f;go_roundw
     case rel=>exact⟨j+1,O,C,by go_num,by go_num,by omega,f,E⟩
     case measure=>simp[intOf];omega
  ·have d0:j=c:=by omega
   subst d0;rw[c1D (by omega)]at S;have hc:=S.lenCap;have hs:=S.sl RC.elem;go_wp2_with fail
   refine t.mono ?_;rintro e w2 ⟨rfl,rfl⟩;go_wp2_with fail
   go_ret2
   exact⟨Q,_,rfl,oo,co,by rw[F.out];rfl,hc,hs⟩
theorem a9e(X:Nat->Bool)(w:World)(u v:Value)(m:List (List Rat))(x:List Rat)(B:Nat)(hX:HX X w)(hu:MV (mk X w) u m)(W:RV (mk X w) v x)(hf:a0A m=true)(G:x.length=colsL m)(hB:BM B m)(z:BR B x)(a2:1<=B)(a3:200*B<=68000000000):Calls Tryz.prog 69 #[u,v] w (b9o X w (a2w m x)):=by
 obtain⟨t,Z,f,_,_⟩:=a0w hf;have r:=a4l QV.mono X w u m hu (by omega);rw[hf]at r;have a:=hid (fun w' (h:Ext w w')=>a4s X w' u m (mkx MV.mono hu h));obtain⟨ua,c8,rfl,R,Q⟩:=hu;obtain⟨va,T,rfl,S,b8⟩:=W;have b2:=Q.hd;obtain⟨c,I⟩:=c1F (colsL m);rw[I]at a G f t;have c5:((x.length:Int) !=(c:Int))=false:=b0B (by omega);have N:=hid t;have a9:=hid G;have a0:=hid hB;have A:=hid z;obtain⟨n,V⟩:=c1F m.length;rw[V]at r a R b2 Z |-;have b5:=hid V;have p:Hid ((a2w m x).length=n):=hid (by rw[a3d];exact V);clear hf t V G I hB z;go_enter Tryz.func69,Tryz.ntmps69
 go_wp2_with fail
 refine r.mono ?_;rintro e w1 ⟨C,rfl⟩;have b0:=a.out w1 C;go_wp2_with fail
 refine b0.mono ?_;rintro e w2 ⟨rfl,rfl⟩;go_wp2_with fail
 go_loopw [6,7] (fun o k wr=>∃(i:Nat) (oo:Option Addr) (U:Nat),k=.int .i64 i/\o=.slice oo i U/\i<=n/\OL QC 3 X w.heap.size 47 wr oo U ((a2w m x).take i)/\Ext w wr) (fun _ k _=>n - (intOf k).toNat)
 case atStart=>exact⟨0,none,0,rfl,rfl,Nat.zero_le _,OL.nil _ _ _ _ _ _,C⟩
 case round=>
  obtain⟨i,oo,U,rfl,rfl,hi,g,y⟩:=hrel;have F:HX X wr:=hX.ext y;have a7:HX (un X oo) wr:=g.unX F;have a8:=y.size;by_cases M:i<n
  ·have L:i<m.length:=by rw[b5.out];exact M
   have K:i<(a2w m x).length:=by rw[p.out];exact M
   have b7:Sl RV 1 (mk (un X oo) wr) ua m:=Q.old RV.mono y (fun j hj=>g.ob_lt hj);have b9:RV (mk (un X oo) wr) (.slice va x.length T) x:=a2j RV.mono ⟨va,T,rfl,S,b8⟩ y (fun j hj=>g.ob_lt hj);have O:=hid (a0I (a2w m x) i K);have b4:=hid (a0O (l:=a2w m x) (i:=i) (by omega));obtain⟨a1,c1,c3,H,J,b6⟩:=b7.row i L;have c0:=H.out noY wr (ExtX.refl _) rfl;have s:=hid (N.out.2 m[i] (c1E _));have b1:=hid (a4e (v:=x) L K);have q:=a1D (a0.out m[i] (c1E _)) A.out a2 (by rw[s.out];exact f) a3;have b:=a5r (un X oo) wr _ _ m[i] x a7 ⟨a1,c1,rfl,J,b6⟩ b9 (by rw[s.out];omega) (by rw[s.out,a9.out]) q.1 q.2;rw[<-b1.out]at b;obtain⟨v,W⟩:=c1F ((a2w m x)[i]);rw[W]at b O;clear W H q;go_wp2_with (with_reducible refine a0v a0o ?_)
   refine b.mono ?_;rintro e w6 ⟨d,u6,rfl,P⟩;obtain⟨s6,a6,n6,c6,d6,k6,e6,rfl⟩:=P.shape;have D:=g.ext0 QC.elem d;have c4:=d.size;clear c0;go_wp2_with (at_builtin;refine a0t (l:=(a2w m x).take i) a0x rfl QC.elem (by omega) (F.ext d) i b4.out rfl rfl D (.agg #[.bool s6,.slice a6 n6 c6,.slice d6 k6 e6]) v rfl P (by omega) (by omega) ?_;intro c2 Y w7 E a4 c7)
   have a5:=(y.trans d).own D (c1B _) a4;rw[O.out]at E;go_roundw
   case rel=>exact⟨i+1,c2,Y,by go_num,by go_num,by omega,E,a5⟩
   case measure=>simp[intOf];omega
  ·have b3:i=n:=by omega
   subst b3;rw[c1D (by rw[p.out];exact c1B _)]at g;have G:=g.lenCap;have hs:=g.sl QC.elem;go_wp2_with fail
   go_ret2
   exact⟨y,_,rfl,oo,U,by rw[p.out];rfl,G,hs⟩
theorem b8l{b:Mat}{n c j:Nat}{x:List Rat}(d:x.length=n)(a:j<(trL b n c).length)(h:j<(a2w (trL b n c) x).length):(a2w (trL b n c) x)[j]=a2S x (trL b n c)[j]:=by
 rw[a4e a h];unfold a2S;rw[(a1B b n c).2 _ (c1E _),d,b2S]
theorem b8m(X:Nat->Bool)(w:World)(u v:Value)(a b:List (List Rat))(k n c B:Nat)(hX:HX X w)(hu:MV (mk X w) u a)(hv:MV (mk X w) v b)(b0:a0A a=true)(K:a0A b=true)(ha:a.length=k)(hb:b.length=n)(J:colsL a=n)(a7:colsL b=c)(hB:BM B a)(b9:BM B b)(b8:1<=B)(f5:200*B<=68000000000):Calls Tryz.prog 67 #[u,v] w (b5a X w (a6f a b n c)):=by
 obtain⟨b4,c8,E,b2,j0⟩:=a0w b0;obtain⟨i4,c9,a8,b3,j1⟩:=a0w K;rw[ha,J]at b4;rw[ha]at c8;rw[hb]at c9;rw[J]at E;rw[a7]at a8;have L:=a4l QV.mono X w u a hu (by omega);rw[b0]at L;have D:=hid (fun G (h:Ext w G)=>a4l QV.mono X G v b (mkx MV.mono hv h) (by omega));rw[K]at D;have A:=hid (fun G (h:Ext w G)=>a4s X G u a (mkx MV.mono hu h));rw[J]at A;have b6:=hid (fun G (h:Ext w G)=>a5u X G v b n c (hX.ext h) (mkx MV.mono hv h) K hb a7);have e4:=hid (a5H (b0H (n:=n) (c:=c) (a6C b9 b8)));obtain⟨M,hM⟩:=c1F (a6f a b n c);have Z:Hid (M.length=k):=hid (by rw[<-hM,b0N];exact ha);have c4:Hid (∀i (hi:i<a.length) (h:i<M.length),M[i]=a2w (trL b n c) a[i]):=hid fun i hi h=>by subst hM;exact a5Z hi h
 rw[hM];obtain⟨T,hT⟩:=c1F (trL b n c);have a3:Hid (T.length=c):=hid (by rw[<-hT];exact(a1B b n c).1);have g2:Hid (∀j (f:j<T.length),T[j].length=n):=hid fun j f=>by subst hT;exact(a1B b n c).2 _ (c1E _)
 have g1:Hid (∀x:List Rat,x.length=n->∀j (f:j<T.length) (h:j<(a2w T x).length),(a2w T x)[j]=a2S x T[j]):=hid fun x hx j f h=>by subst hT;exact b8l hx f h
 rw[hT]at b6 e4 c4;obtain⟨S,f3,rfl,f1,e9⟩:=hu;obtain⟨va,k0,rfl,f2,i8⟩:=hv;have d4:=e9.hd;have e2:=hid b4;have f4:=hid hB;have g9:=hid ha;rw[ha]at f1 d4 L A |-;rw[hb]at b6 f2 D |-;have j4:M.length<=k:=by rw[Z.out];exact c1B _
 have j5:k<=M.length:=by rw[Z.out];exact c1B _
 clear b0 K ha hb J a7 b4 i4 j0 j1 b2 b3 i8 hB b9 hM hT;go_enter Tryz.func67,Tryz.ntmps67
 go_wp2_with fail
 refine L.mono ?_;rintro e w1 ⟨c3,rfl⟩;have h2:=D.out w1 c3;go_wp2_with fail
 refine h2.mono ?_;rintro e w2 ⟨f7,rfl⟩;have t:=c3.trans f7;have h3:=A.out w2 t;go_wp2_with fail
 refine h3.mono ?_;rintro e w3 ⟨rfl,rfl⟩;have h4:=b6.out w3 t;go_wp2_with fail
 refine h4.mono ?_;rintro e w4 ⟨f8,ut,rfl,Q,tc,rfl,i7,e3⟩;have s:=t.trans f8;have g5:=hX.ext s;have f0:=e9.mono RV.mono (a0k s);have d3:=e3.hd;rw[a3.out]at i7 d3 |-;clear L h2 h3 h4;go_wp2_with fail
 go_loopw [8,9] (fun o kk wr=>∃(i:Nat) (oo:Option Addr) (co:Nat),kk=.int .i64 i/\o=.slice oo i co/\i<=k/\OL RC 1 X w4.heap.size 24 wr oo co (M.take i)/\Ext w4 wr) (fun _ kk _=>k - (intOf kk).toNat)
 case atStart=>exact⟨0,none,0,rfl,rfl,Nat.zero_le _,OL.nil _ _ _ _ _ _,ExtX.refl _⟩
 case round=>
  obtain⟨i,oo,co,rfl,rfl,hi,hO,hE⟩:=hrel;have c5:HX X wr:=g5.ext hE;have g7:HX (un X oo) wr:=hO.unX c5;have h0:=hE.size;by_cases h9:i<k
  ·have d5:i<a.length:=by rw[g9.out];exact h9
   have O:i<M.length:=by omega
   have e7:=hid (a0I M i O);have h8:=hid (a0O (l:=M) (i:=i) (by omega));have p:Hid (a[i].length=n):=hid (e2.out.2 a[i] (c1E _));obtain⟨R,hR⟩:=c1F (M[i]);have I:=c4.out i d5 O;rw[hR]at I e7;have a0:Hid (R.length=c):=hid (by rw[I,a3d];exact a3.out);have g0:Hid (∀j (f:j<T.length) (h:j<R.length),R[j]=a2S a[i] T[j]):=hid fun j f h=>by subst I;exact g1.out _ p.out j f h
   have j6:R.length<=c:=by rw[a0.out];exact c1B _
   have j7:c<=R.length:=by rw[a0.out];exact c1B _
   clear I hR;obtain⟨wo,i9⟩:∃wo,wo=wr:=⟨_,rfl⟩;subst i9;go_wp2_with fail
   go_loopw [10,11] (fun o cc wx=>∃(j:Nat) (r:Option Addr) (cr:Nat),cc=.int .i64 j/\o=.slice r j cr/\j<=c/\OL QC 3 (un X oo) wo.heap.size 47 wx r cr (R.take j)/\Ext wo wx) (fun _ cc _=>c - (intOf cc).toNat)
   case atStart=>exact⟨0,none,0,rfl,rfl,Nat.zero_le _,OL.nil _ _ _ _ _ _,ExtX.refl _⟩
   case round=>
    obtain⟨j,r,cr,rfl,rfl,f,g,d⟩:=hrel;have c7:HX (un X oo) wr:=g7.ext d;have g8:HX (un (un X oo) r) wr:=g.unX c7;have j9:=d.size;by_cases h7:j<c
    ·have b1:j<T.length:=by rw[a3.out];exact h7
     have N:j<R.length:=by omega
     have b5:=hid (a0I R j N);have d7:=hid (a0O (l:=R) (i:=j) (by omega));have d2:=g0.out j b1 N;rw[d2]at b5;have i5:Sl RV 1 (mk (un (un X oo) r) wr) S a:=(f0.old RV.mono hE (fun j f=>hO.ob_lt f)).old RV.mono d (fun j f=>g.ob_lt f);have i6:Sl RC 1 (mk (un (un X oo) r) wr) Q T:=(e3.old RC.mono hE (fun j f=>hO.ob_lt f)).old RC.mono d (fun j f=>g.ob_lt f);obtain⟨a1,c1,g3,a4,d0,e0⟩:=i5.row i d5;obtain⟨a2,c2,g4,a5,d1,e1⟩:=i6.row j b1;have F:=hid (g2.out j b1);have f6:=f4.out a[i] (c1E _);have c0:=e4.out T[j] (c1E _);have a9:=a1D f6 c0 b8 (by rw[p.out];exact E) f5;have P:=e1.qv (fun q hq=>c1A (c0 q hq) (by omega));have m:=c1L wr;have C:=a5r (un (un X oo) r) wr.drew _ _ a[i] T[j] g8 ⟨a1,c1,rfl,d0,e0⟩ ⟨a2,c2,rfl,d1,P⟩ (by rw[p.out];omega) (by rw[p.out,F.out]) a9.1 a9.2;obtain⟨v,hv⟩:=c1F (a2S a[i] T[j]);rw[hv]at C b5;rw[p.out,F.out]at C;have d8:ob r (adr S i).block=false:=(a0V g3).2;have d9:ob r (adr Q j).block=false:=(a0V g4).2;rw[p.out]at a4;rw[F.out]at a5;have hS:Hid (∀Y W',ExtX Y wr.drew W'->Y (adr S i).block=false->Y (adr Q j).block=false->W'.cell? (adr S i)=some (.slice a1 n c1)/\W'.cell? (adr Q j)=some (.slice a2 n c2)):=hid fun Y W' h hg hb=>⟨a4.out Y W' ((ExtX.of m).trans h) hg,a5.out Y W' ((ExtX.of m).trans h) hb⟩;obtain⟨j2,j3⟩:=hS.out noY wr.drew (ExtX.refl _) rfl rfl;have i1:∀W,(Instr.indexAt 23 (.slice S k f3) (.int .i64 (i:Int))).run Tryz.prog W=.ok (.pointer (some (adr S i))) W:=a0y a0o S k f3 .i64 i d4 (by omega) rfl;have i2:∀W,(Instr.indexAt 23 (.slice Q c tc) (.int .i64 (j:Int))).run Tryz.prog W=.ok (.pointer (some (adr Q j))) W:=a0y a0o Q c tc .i64 j d3 (by omega) rfl;clear hv a4 a5 d2 a9 e0 e1 P;go_wp2_with fail
     go_region_held3 (fun G=>G.cell? (adr S i)=some (.slice a1 n c1)/\G.cell? (adr Q j)=some (.slice a2 n c2))
      (first|exact hS.out noY _ t1 rfl rfl|exact hS.out noY _ (ExtX.alloc t1 _) rfl rfl|exact hS.out (ob r) _ ((ExtX.of t1).trans H) d8 d9|go_keep)
      (first|(go_at_call 70;(with_reducible refine C.mono ?_);rintro ee w6 ⟨t1,u6,rfl,e8⟩;obtain⟨s6,a6,n6,c6,d6,k6,e6,rfl⟩:=e8.shape;have y:=g.ext0 QC.elem (m.trans t1);have j8:=(m.trans t1).size;have g6:=c7.ext (m.trans t1))|(refine a1p (l:=R.take j) rfl (by rfl) a0x rfl QC.elem (by omega) g6 j d7.out rfl rfl y (.agg #[.bool s6,.slice a6 n6 c6,.slice d6 k6 e6]) v rfl e8 (by omega) (by omega) ?_;intro b7 U w7 z H i0))
     have V:=(d.trans (m.trans t1)).own y (c1B _) H;rw[b5.out]at z;clear j2 j3 i1 i2;go_wp2_with fail
     go_roundw
     case rel=>exact⟨j+1,b7,U,by go_num,by go_num,by omega,z,V⟩
     case measure=>simp[intOf];omega
    ·have h6:j=c:=by omega
     subst h6;rw[c1D (by omega)]at g;have h1:=g.lenCap;have i3:=g.sl QC.elem;have y:=hO.ext0 RC.elem d;have f9:RC (mk (un X oo) wr) (.slice r j cr) R:=⟨r,cr,by rw[a0.out],h1,i3⟩;go_wp2_with (at_builtin;refine a0t (l:=M.take i) a0o rfl RC.elem (by omega) (c5.ext d) i h8.out rfl rfl y (.slice r j cr) R rfl f9 (by omega) (by omega) ?_;intro b7 U w7 z H i0)
     have V:=(hE.trans d).own y (c1B _) H;rw[e7.out]at z;go_roundw
     case rel=>exact⟨i+1,b7,U,by go_num,by go_num,by omega,z,V⟩
     case measure=>simp[intOf];omega
  ·have h5:i=k:=by omega
   subst h5;rw[c1D (by omega)]at hO;have hc:=hO.lenCap;have hs:=hO.sl RC.elem;go_wp2_with fail
   go_ret2
   exact⟨s.trans hE,_,rfl,oo,co,by rw[Z.out];rfl,hc,hs⟩
theorem b3V{m:Mat}{n i:Nat}(h:i<(a1h m n).length)(a:i<m.length):(a1h m n)[i]=m[i]++(List.range n).map fun j=>if i=j then 1 else 0:=by
 have b:i<n:=by simpa[a1h]using h
 simp only[a1h,List.getElem_map,List.getElem_range];rw[a3q a]
 congr 1
 refine List.ext_getElem (by simp) fun j c d=>?_;rw[List.getElem_set,List.getElem_map,List.getElem_range,List.getElem_replicate]
theorem b0c{m:Mat}{n:Nat}(a:Shp n n m):colsL (a1h m n)=2*n:=a8X (a1j a) (by omega)
theorem c0L{m:Mat}{n:Nat}(a:n<=4)(b:Shp n n m):a4u m n↔a9q m n=0:=by rw[b3G a b];exact b0R a b
def c0M(X:Nat->Bool)(w:World)(l:List Rat)(e:Ending)(w':World):Prop:=Ext w w'/\∃oo co,e=.returned (.slice oo l.length co)/\OL QC 3 X w.heap.size 47 w' oo co l
theorem b0d(X:Nat->Bool)(w:World)(u:Value)(l:List Rat)(H:HX X w)(O:RV (mk X w) u l)(W:l.length<=1000000):Calls Tryz.prog 164 #[u] w (c0M X w l):=by
 obtain⟨ao,U,rfl,J,m⟩:=O;have K:=m.hd;go_enter Tryz.func164,Tryz.ntmps164
 go_wp2_with fail
 go_loopw [3,4] (fun o c wr=>∃(i:Nat) (oo:Option Addr) (q:Nat),c=.int .i64 i/\o=.slice oo i q/\i<=l.length/\OL QC 3 X w.heap.size 47 wr oo q (l.take i)/\Ext w wr) (fun _ c _=>l.length - (intOf c).toNat)
 case atStart=>exact⟨0,none,0,rfl,rfl,Nat.zero_le _,OL.nil _ _ _ _ _ _,ExtX.refl _⟩
 case round=>
  obtain⟨i,oo,q,rfl,rfl,L,d,b⟩:=hrel;have h:HX X wr:=H.ext b;have v:HX (un X oo) wr:=d.unX h;have x:=b.size;by_cases k:i<l.length
  ·have A:Sl QV 3 (mk (un X oo) wr) ao l:=m.old QV.mono b (fun j M=>d.ob_lt M)
   have B:=hid (a0I l i k);have z:=hid (a0O L);go_wp2_with (first|(with_reducible refine a1w a0x ?_)|((with_reducible refine c1K ?_);refine a0z a0p i A k rfl (by simp) QV.agg ?_;intro u5 n;obtain⟨s5,S,Z,T,V,Y,e5,rfl⟩:=n.shape))
   refine(a3M (un X oo) wr _ _ v n).mono ?_;rintro e w6 ⟨a,u6,rfl,p⟩;obtain⟨R,D,Q,E,F,P,G,rfl⟩:=p.shape;have f:=d.ext0 QC.elem a;have I:=a.size;go_wp2_with (at_builtin;refine a0t (l:=l.take i) a0x rfl QC.elem (by omega) (h.ext a) i z.out rfl rfl f (.agg #[.bool R,.slice D Q E,.slice F P G]) l[i] rfl p (by omega) (by omega) ?_;intro C r w7 g s N)
   have t:=(b.trans a).own f (c1B _) s;rw[B.out]at g;go_roundw
   case rel=>exact⟨i+1,C,r,by go_num,by go_num,by omega,g,t⟩
   case measure=>simp[intOf];omega
  ·have y:i=l.length:=by omega
   subst y;rw[List.take_length]at d;go_wp2_with fail
   go_ret
   exact⟨b,oo,q,rfl,d⟩
theorem b0e(X:Nat->Bool)(w:World)(u:Value)(m:List (List Rat))(n:Nat)(hX:HX X w)(hu:MV (mk X w) u m)(S:Shp n n m)(hn:n<=96):Calls Tryz.prog 120 #[u] w (a2b X w MC (a1h m n)):=by
 obtain⟨M,hM⟩:=c1F (a1h m n);have N:Hid (M.length=n):=hid (by rw[<-hM];simp[a1h]);have b5:Hid (∀i (hi:i<m.length) (h:i<M.length),M[i]=m[i]++(List.range n).map fun j=>if i=j then 1 else 0):=hid fun i hi h=>by subst hM;exact b3V h hi
 have d4:M.length<=n:=by rw[N.out];exact c1B _
 have d5:n<=M.length:=by rw[N.out];exact c1B _
 rw[hM];have a9:=hid S;have a5:=hid S.1;obtain⟨ua,e1,rfl,b2,b1⟩:=hu;have c3:=b1.hd;rw[a5.out]at b2 c3 |-;clear hM S;go_enter Tryz.func120,Tryz.ntmps120
 go_wp2_with fail
 go_loopw [3,4] (fun o L wr=>∃(i:Nat) (oo:Option Addr) (co:Nat),L=.int .i64 i/\o=.slice oo i co/\i<=n/\OL RC 1 X w.heap.size 24 wr oo co (M.take i)/\Ext w wr) (fun _ L _=>n - (intOf L).toNat)
 case atStart=>exact⟨0,none,0,rfl,rfl,Nat.zero_le _,OL.nil _ _ _ _ _ _,ExtX.refl _⟩
 case round=>
  obtain⟨i,oo,co,rfl,rfl,hi,V,Y⟩:=hrel;have Z:HX X wr:=hX.ext Y;have a0:HX (un X oo) wr:=V.unX Z;have c0:=Y.size;by_cases d0:i<n
  ·have a4:i<m.length:=by rw[a5.out];exact d0
   have K:i<M.length:=by omega
   have b0:=hid (a0I M i K);have c9:=hid (a0O (l:=M) (i:=i) (by omega));have c:Hid (m[i].length=n):=hid (a9.out.2 m[i] (c1E _));have d2:Sl RV 1 (mk (un X oo) wr) ua m:=b1.old RV.mono Y (fun j hj=>V.ob_lt hj);obtain⟨a1,c1,d9,a3,H,a8⟩:=d2.row i a4;have T:=a3.out noY wr (ExtX.refl _) rfl;have E:=b0d (un X oo) wr (.slice a1 m[i].length c1) m[i] a0 ⟨a1,c1,rfl,H,a8⟩ (by rw[c.out];omega);obtain⟨R,hR⟩:=c1F (M[i]);have q:=b5.out i a4 K;rw[hR]at q b0;obtain⟨x,hx⟩:=c1F (m[i]);rw[hx]at c E q T;have P:Hid (R.length=n+n):=hid (by rw[q,List.length_append,c.out];simp);have b8:Hid (R.take n=x):=hid (by rw[q,List.take_append_of_le_length (by rw[c.out];exact c1B _),c1D (by rw[c.out];exact c1B _)]);have b7:Hid (∀j (hj:j<n) (h:n+j<R.length),R[n+j]=if i=j then 1 else 0):=hid fun j hj h=>by
    subst q;rw[List.getElem_append_right (by rw[c.out];omega)];simp[c.out]
   have d7:R.length<=n+n:=by rw[P.out];exact c1B _
   have d8:n+n<=R.length:=by rw[P.out];exact c1B _
   rw[c.out]at T E;clear q hR hx a3 a8 H;obtain⟨wo,d3⟩:∃wo,wo=wr:=⟨_,rfl⟩;subst d3;go_wp2_with (with_reducible refine a0v a0o ?_)
   refine E.mono ?_;rintro e w5 ⟨b4,b3,W,rfl,v⟩;rw[c.out];rw[<-b8.out]at v;have G:OL QC 3 (un X oo) wo.heap.size 47 w5 b3 W (R.take (n+0)):=v;clear T E v;go_wp2_with fail
   go_loopw [5,6] (fun o L wx=>∃(j:Nat) (F:Option Addr) (U k:Nat),L=.int .i64 j/\o=.slice F k U/\k=n+j/\j<=n/\OL QC 3 (un X oo) wo.heap.size 47 wx F U (R.take (n+j))/\Ext wo wx) (fun _ L _=>n - (intOf L).toNat)
   case atStart=>exact⟨0,b3,W,n,rfl,rfl,rfl,Nat.zero_le _,G,b4⟩
   case round=>
    clear G;obtain⟨j,F,U,k,rfl,rfl,y,hj,p,g⟩:=hrel;have Q:HX (un X oo) wr:=a0.ext g;have a2:HX (un (un X oo) F) wr:=p.unX Q;have e0:=g.size;by_cases c8:j<n
    ·have I:n+j<R.length:=by omega
     have z:=hid (a0I R (n+j) I);have J:=hid (a0O (l:=R) (i:=n+j) (by omega));have O:=b7.out j c8 I;rw[O]at z;have a:=hid y;by_cases D:i=j
     ·have hb:((i:Int)==(j:Int))=true:=a6u (by omega)
      have B:(((1:Int):Rat))=if i=j then 1 else 0:=by rw[if_pos D];rfl
      rw[<-B]at z;clear O D B y;go_wp2_with fail
      refine(a3n (un (un X oo) F) wr 1 a2 (by decide) (by decide)).mono ?_;rintro e w6 ⟨b,u6,rfl,A⟩;obtain⟨s6,a6,n6,c6,d6,k6,e6,rfl⟩:=A.shape;have d:=p.ext0 QC.elem b;have b9:=b.size;go_wp2_with (at_builtin;refine a0t (l:=R.take (n+j)) a0x rfl QC.elem (by omega) (Q.ext b) k (by rw[J.out,a.out]) rfl rfl d (.agg #[.bool s6,.slice a6 n6 c6,.slice d6 k6 e6]) _ rfl A (by have:=a.out;omega) (by have:=a.out;omega) ?_;intro C r w7 f s a7)
      have t:=(g.trans b).own d (c1B _) s;rw[z.out]at f;go_roundw
      case rel=>exact⟨j+1,C,r,k+1,by go_num,by go_num,by have:=a.out;omega,by omega,f,t⟩
      case measure=>simp[intOf];omega
     ·have hb:((i:Int)==(j:Int))=false:=a2C (by omega)
      have B:(((0:Int):Rat))=if i=j then 1 else 0:=by rw[if_neg D];rfl
      rw[<-B]at z;clear O D B y;go_wp2_with fail
      refine(a3n (un (un X oo) F) wr 0 a2 (by decide) (by decide)).mono ?_;rintro e w6 ⟨b,u6,rfl,A⟩;obtain⟨s6,a6,n6,c6,d6,k6,e6,rfl⟩:=A.shape;have d:=p.ext0 QC.elem b;have b9:=b.size;go_wp2_with (at_builtin;refine a0t (l:=R.take (n+j)) a0x rfl QC.elem (by omega) (Q.ext b) k (by rw[J.out,a.out]) rfl rfl d (.agg #[.bool s6,.slice a6 n6 c6,.slice d6 k6 e6]) _ rfl A (by have:=a.out;omega) (by have:=a.out;omega) ?_;intro C r w7 f s a7)
      have t:=(g.trans b).own d (c1B _) s;rw[z.out]at f;go_roundw
      case rel=>exact⟨j+1,C,r,k+1,by go_num,by go_num,by have:=a.out;omega,by omega,f,t⟩
      case measure=>simp[intOf];omega
    ·have c5:j=n:=by omega
     subst c5;rw[c1D (by omega)]at p;have c2:=p.lenCap;have d1:=p.sl QC.elem;have d:=V.ext0 RC.elem g;have c7:Hid (R.length=k):=hid (by rw[P.out,y]);have b6:RC (mk (un X oo) wr) (.slice F k U) R:=⟨F,U,by rw[c7.out],c2,d1⟩;clear y;go_wp2_with (at_builtin;refine a0t (l:=M.take i) a0o rfl RC.elem (by omega) (Z.ext g) i c9.out rfl rfl d (.slice F k U) R rfl b6 (by omega) (by omega) ?_;intro C r w7 f s a7)
     have t:=(Y.trans g).own d (c1B _) s;rw[b0.out]at f;go_roundw
     case rel=>exact⟨i+1,C,r,by go_num,by go_num,by omega,f,t⟩
     case measure=>simp[intOf];omega
  ·have c4:i=n:=by omega
   subst c4;rw[c1D (by omega)]at V;have hc:=V.lenCap;have hs:=V.sl RC.elem;go_wp2_with fail
   go_ret
   exact⟨Y,_,rfl,oo,co,by rw[N.out];rfl,hc,hs⟩
theorem b8n{m:Mat}{n:Nat}(b:a7f m n):hq (a9q m n)<=68719476736:=by
 obtain⟨B,c,a⟩:=b;have d:=(a n (c1B _)).2;unfold a9q;split
 ·rw[a0U];decide
 ·omega
theorem b5O(m:Mat)(n:Nat):(a2z m n).length=(a0J (a1h m n) (2*n)).1.length:=by simp[a2z]
theorem b5P(m:Mat)(n i:Nat)(h:i<(a2z m n).length)(a:i<(a0J (a1h m n) (2*n)).1.length):(a2z m n)[i]=(a0J (a1h m n) (2*n)).1[i].drop n:=by simp[a2z]
def b3W(X:Nat->Bool)(w:World)(m:List (List Rat))(n:Nat)(e:Ending)(w':World):Prop:=Ext w w'/\((a9q m n=0/\e=.returned (.tuple #[.slice none 0 0,.int .i64 7]))\/(a9q m n≠0/\∃u,e=.returned (.tuple #[u,.int .i64 0])/\MC (mk X w') u (a2z m n)))
theorem b0f(X:Nat->Bool)(w:World)(u:Value)(m:List (List Rat))(n:Nat)(Z:HX X w)(hu:MV (mk X w) u m)(hf:a0A m=true)(q:m.length=n)(N:colsL m=n)(a8:a7f m n)(hT:a7f (a1h m n) (2*n))(hB:BM 68719476736 (a1h m n)):Calls Tryz.prog 68 #[u] w (b3W X w m n):=by
 obtain⟨r,a3,f0,_,_⟩:=a0w hf;rw[q,N]at r;rw[q]at a3;have b:=b8b X w u m n Z hu hf q N a8;have O:=hid (b8n a8);have a9:=hid (fun w' (h:Ext w w')=>b0e X w' u m n (Z.ext h) (mkx MV.mono hu h) r a3);have t:=a1j r;have p:=hid (b0p t).1;have s:=hid (b5O m n);have L:=hid (b5P m n);have b5:=hid (fun w' (h:Ext w w') (v:Value) (hv:MC (mk X w') v (a1h m n))=>a4M X w' v (a1h m n) n (2*n) (Z.ext h) (hv.mv hB) t (b0c r) (by omega) (by omega) hT);have c:=hid (a6d t (2*n)).shp;rw[<-p.out]at c;obtain⟨D,hD⟩:=c1F (a9q m n);rw[hD]at b O;have a4:=hid hD;obtain⟨ua,f6,rfl,f1,e4⟩:=hu;rw[q]at b a9 |-;clear hf q N r t hD e4;by_cases W:D=0
 ·have d8:(D.num.sign==(0:Int))=true:=by rw[W];rfl
  have hr:Hid (a9q m n=0):=hid (a4.out.trans W);clear W;go_enter Tryz.func68,Tryz.ntmps68
  go_wp2_with fail
  refine b.mono ?_;rintro e V ⟨J,u1,rfl,d⟩;obtain⟨s1,a1,n1,c1,d1,k1,e1,rfl⟩:=d.shape;have bx:=Bx.new V #[.bool false,.slice none 0 0,.slice none 0 0] 47;go_wp2_with ((with_reducible refine c1J ?_);refine a0a a0p rfl rfl bx rfl rfl a1s ?_;intro w3 G r2;have k0:=G.cell 0 rfl;have T:=G.cell 1 rfl;have U:=G.cell 2 rfl)
  have g:=c1M r2;have a:=J.trans g;refine(a6B X w3 _ D (Z.ext a) ((mkx QC.mono d g).qv O.out)).mono ?_;rintro e w4 ⟨K,rfl⟩;clear k0 T U;go_wp2_with fail
  go_ret2
  exact⟨a.trans K,.inl ⟨hr.out,rfl⟩⟩
 ·have d8:(D.num.sign==(0:Int))=false:=a2C (by intro h;exact W (Rat.num_eq_zero.1 (Int.sign_eq_zero_iff_zero.1 h)))
  have hr:Hid (a9q m n≠0):=hid (by rw[a4.out];exact W);clear W;obtain⟨I,hI⟩:=c1F (a2z m n);rw[hI]at s L;have c8:=hid hI;obtain⟨S,hS⟩:=c1F (rN (a1h m n) (2*n));rw[hS]at b5 p;obtain⟨R,P,f⟩:=S
  dsimp only at p
  obtain⟨z,a7⟩:=c1F ((a0J (a1h m n) (2*n)).1);rw[a7]at s L c p;obtain rfl:z=R:=p.out;have M:Hid (z.length=n):=hid c.out.1;have k:Hid (I.length=n):=hid (by rw[s.out];exact M.out);have e8:I.length<=n:=by rw[k.out];exact c1B _
  have e9:n<=I.length:=by rw[k.out];exact c1B _
  clear hI hS a7 s;go_enter Tryz.func68,Tryz.ntmps68
  go_wp2_with fail
  refine b.mono ?_;rintro e V ⟨J,u1,rfl,d⟩;obtain⟨s1,a1,n1,c1,d1,k1,e1,rfl⟩:=d.shape;have bx:=Bx.new V #[.bool false,.slice none 0 0,.slice none 0 0] 47;go_wp2_with ((with_reducible refine c1J ?_);refine a0a a0p rfl rfl bx rfl rfl a1s ?_;intro w3 G r2;have k0:=G.cell 0 rfl;have T:=G.cell 1 rfl;have U:=G.cell 2 rfl)
  have g:=c1M r2;have a:=J.trans g;refine(a6B X w3 _ D (Z.ext a) ((mkx QC.mono d g).qv O.out)).mono ?_;rintro e w4 ⟨K,rfl⟩;have A:=a.trans K;have h4:=a9.out w4 A;clear k0 T U bx b d G;go_wp2_with fail
  refine h4.mono ?_;rintro e w5 ⟨c4,ub,rfl,e6⟩;have B:=A.trans c4;have h5:=b5.out w5 B ub e6;clear h4;go_wp2_with fail
  refine h5.mono ?_;rintro e w6 ⟨c5,ro,f5,po,pc,uf,rfl,F,f4,y,e0,b7⟩
  dsimp only at F y |-
  obtain⟨s2,a2,n2,c2,d2,k2,e2,rfl⟩:=b7.shape;have a0:=Bx.new w6 #[.bool false,.slice none 0 0,.slice none 0 0] 47;have d4:=y.hd;rw[M.out]at F d4 |-;clear h5 e0 b7;go_wp2_with ((with_reducible refine c1J ?_);refine a0a a0p rfl rfl a0 rfl rfl a1s ?_;intro w7 r3 r4)
  have a5:=c1M r4;have C:=B.trans (c5.trans a5);have b6:=y.mono RC.mono (a0k a5);clear y a0 r3;go_loopw [9,10] (fun o cc wr=>∃(i:Nat) (oo:Option Addr) (co:Nat),cc=.int .i64 i/\o=.slice oo i co/\i<=n/\OL RC 1 X w7.heap.size 24 wr oo co (I.take i)/\Ext w7 wr) (fun _ cc _=>n - (intOf cc).toNat)
  case atStart=>exact⟨0,none,0,rfl,rfl,Nat.zero_le _,OL.nil _ _ _ _ _ _,ExtX.refl _⟩
  case round=>
   obtain⟨i,oo,co,rfl,rfl,hi,Y,hE⟩:=hrel;have d0:HX X wr:=(Z.ext C).ext hE;have d3:=hE.size;by_cases d7:i<n
   ·have b3:i<z.length:=by rw[M.out];exact d7
    have b2:i<I.length:=by omega
    have Q:=hid (a0I I i b2);have d6:=hid (a0O (l:=I) (i:=i) (by omega));have e3:Sl RC 1 (mk (un X oo) wr) ro z:=b6.old RC.mono hE (fun j hj=>Y.ob_lt hj);obtain⟨a1,c1,f2,b0,E,b4⟩:=e3.row i b3;have c0:=b0.out noY wr (ExtX.refl _) rfl;have b1:=L.out i b2 b3;rw[b1]at Q;have b8:Hid (n<=z[i].length):=hid (by rw[c.out.2 _ (c1E _)];omega);obtain⟨x,hx⟩:=c1F (z[i]);rw[hx]at c0 E b4 Q b8;have b9:=b8.out;clear b0 hx b1;go_wp2_with (first|(with_reducible refine a0v a0o ?_)|((with_reducible show wpList _ _ _ (⟨_,.slice _ _ _ _ _,_,_,_,_⟩::_) _ _);refine b7e a0x n rfl rfl rfl b4 b9 E ?_;intro H d9;have c9:RC (mk (un X oo) wr) (.slice H (x.length - n) (c1 - n)) (x.drop n):=⟨H,c1 - n,by rw[List.length_drop],by rw[List.length_drop];omega,d9⟩)|(at_builtin;refine a0t (l:=I.take i) a0o rfl RC.elem (by omega) d0 i d6.out rfl rfl Y (.slice H (x.length - n) (c1 - n)) (x.drop n) rfl c9 (by omega) (by omega) ?_;intro e7 c3 w8 a6 c6 f3))
    clear c0;have c7:=hE.own Y (c1B _) c6;rw[Q.out]at a6;go_roundw
    case rel=>exact⟨i+1,e7,c3,by go_num,by go_num,by omega,a6,c7⟩
    case measure=>simp[intOf];omega
   ·have d5:i=n:=by omega
    subst d5;rw[c1D (by omega)]at Y;have hc:=Y.lenCap;have hs:=Y.sl RC.elem;go_wp2_with fail
    go_ret2
    exact⟨C.trans hE,.inr ⟨hr.out,.slice oo i co,rfl,by rw[c8.out];exact⟨oo,co,by rw[k.out],hc,hs⟩⟩⟩
def rkN(us:List Bool)(j:Nat):Nat:=((List.range j).filter fun i=>us.getD i false).length
theorem b3X{a:List Bool}{j:Nat}(h:a.getD j false=true):rkN a (j+1)=rkN a j+1:=by
 unfold rkN;rw[List.range_succ,List.filter_append,show List.filter (fun i=>a.getD i false) [j]= [j]from by simp only[List.filter,h],List.length_append];rfl
theorem b6G{a:List Bool}{j:Nat}(h:a.getD j false=false):rkN a (j+1)=rkN a j:=by
 unfold rkN;rw[List.range_succ,List.filter_append,show List.filter (fun i=>a.getD i false) [j]= []from by simp only[List.filter,h],List.append_nil]
theorem b6H(a:List Bool)(j:Nat):rkN a j<=j:=by
 unfold rkN;exact c1A (List.length_filter_le _ _) (by rw[List.length_range];exact c1B _)
theorem b1g{p:List Nat}{c:Nat}(d:p.Pairwise (· < ·))(b:∀j∈p,j<c):(List.range c).filter (fun i=>(YtjmnhbebpffoaaaGreat.usedL p c).getD i false)=p:=by
 rw[<-a6O d b];refine List.filter_congr fun j a=>?_;have a:=List.mem_range.1 a;simp[YtjmnhbebpffoaaaGreat.usedL,List.getD_eq_getElem?_getD,a]
theorem b8o{p:List Nat}{c:Nat}(b:p.Pairwise (· < ·))(a:∀j∈p,j<c):rkN (YtjmnhbebpffoaaaGreat.usedL p c) c=p.length:=by unfold rkN;rw[b1g b a]
theorem b9M{p:List Nat}{c j:Nat}(m:p.Pairwise (· < ·))(k:∀j∈p,j<c)(o:j<c)(b:j∈p):∃h:rkN (YtjmnhbebpffoaaaGreat.usedL p c) j<p.length,p[rkN (YtjmnhbebpffoaaaGreat.usedL p c) j]=j:=by
 have e:=b1g m k;obtain⟨d,rfl⟩:∃d,c=j+(d+1):=⟨c - j - 1,by omega⟩;rw[List.range_add,List.range_succ_eq_map,List.map_cons,List.filter_append]at e;have n:(YtjmnhbebpffoaaaGreat.usedL p (j+(d+1))).getD (j+0) false=true:=by
  simp[YtjmnhbebpffoaaaGreat.usedL,List.getD_eq_getElem?_getD,b]
 rw[List.filter_cons_of_pos (p:=fun i=>(YtjmnhbebpffoaaaGreat.usedL p (j+(d+1))).getD i false) n]at e;have a:=congrArg List.length e;simp only[List.length_append,List.length_cons]at a;refine⟨by unfold rkN;omega,?_⟩;have g:p[rkN (YtjmnhbebpffoaaaGreat.usedL p (j+(d+1))) j]? =some j:=by
  have f:=congrArg (fun l=>l[((List.range j).filter fun i=>(YtjmnhbebpffoaaaGreat.usedL p (j+(d+1))).getD i false).length]?) e;simp only[List.getElem?_append_right (c1B _),Nat.sub_self]at f;unfold rkN;rw[<-f];rfl
 exact(List.getElem?_eq_some_iff.1 g).2
theorem b2a{L:List Rat}{i:Nat}(h:i<L.length)(a:L[i]=0):a2N L (i+1)=a2N L i:=by
 unfold a2N;rw[List.take_succ_eq_append_getElem h,a,show L.length - i=(L.length - (i+1))+1 by omega,List.replicate_succ,List.append_assoc];rfl
theorem b5Q{x:Mat}{y:List Rat}{n c j:Nat}(o:Shp n c x)(b:j<c)(h:j<(a7e x y n c).length):((usedL (a0J x c).2 c).getD j false=true->∃a:rkN (usedL (a0J x c).2 c) j<(bU (pkL x (a0J x c).2) y n (a0J x c).2.length).length,(bU (pkL x (a0J x c).2) y n (a0J x c).2.length)[rkN (usedL (a0J x c).2 c) j]=(a7e x y n c)[j])/\((usedL (a0J x c).2 c).getD j false=false->(a7e x y n c)[j]=0):=by
 obtain⟨_,f,_⟩:=a1f o;have e:(a7e x y n c)[j]=b4n (a0J x c).2 (fn (bU (pkL x (a0J x c).2) y n (a0J x c).2.length)) j:=by simp[a7e]
 have p:(usedL (a0J x c).2 c).getD j false=decide (j∈(a0J x c).2):=by simp[usedL,List.getD_eq_getElem?_getD,b]
 have g:∀j∈(a0J x c).2,j<c:=fun j b=>by obtain⟨k,m,rfl⟩:=List.getElem_of_mem b;exact f.lt k m
 rw[e,p];constructor
 ·intro d
  obtain⟨a,l⟩:=b9M f.pw g b (of_decide_eq_true d);have i:=a6r f (fn (bU (pkL x (a0J x c).2) y n (a0J x c).2.length)) _ a;rw[l]at i;refine⟨by rw[b3i];exact a,?_⟩;rw[i];unfold fn;rw[List.getD_eq_getElem?_getD,List.getElem?_eq_getElem (by rw[b3i];exact a)];rfl
 ·intro d
  exact a4P _ (of_decide_eq_false d)
section
variable {P:Program} {ops:Array Oper} {Q:Exit->Act->World->Prop} {a:Act} {w:World}
theorem a4F{α:Type}{R:Mem->Value->α->Prop}{sz:Nat}{X:Nat->Bool}{base b:Nat}{e:TypeId}{ao:Option Addr}{l:List α}{o:Oper}{K:Act->World->Prop}{E:Prop}{t:TypeId}{x y:Operand}(r:o.guard=none)(d:o.op=.store t x y)(q:TyI P t sz)(p:Elem R sz)(i:Nat){A:Addr}(D:a.eval x=.pointer (some A))(m:adr ao (i*sz)=A)(h:OL R sz X base e w ao b l)(s:i<l.length)(u:Value)(v:α)(F:a.eval y=u)(B:R (mk (un X ao) w) u v)(n:∀c,OL R sz X base e c ao b (l.set i v)->ExtX (ob ao) w c->K (a.put o.dst undef) c):if Region.wanted o (yielded ops a.tmps)=true then Oper.wp P o a w K Q else E:=by
 have C:Region.wanted o (yielded ops a.tmps)=true:=by simp[Region.wanted,r]
 rw[if_pos C];obtain⟨ti,z,f⟩:=q;obtain⟨c,g,j,k⟩:=h.run_store (P:=P) z f p i s u v B;rw[m]at g;unfold Oper.wp execOp;rw[d];simp[D,F,Instr.storeAt,Instr.sureAddr,g,Result.andThen];exact n _ j k
end
def FS(Z:Nat->Bool)(base g:Nat)(uo:Option Addr)(uc c n:Nat)(co lo:Option Addr)(rk:Nat)(C L:List Rat)(w:World):Prop:=
 Bx w g #[.int .i64 (rk:Int),.slice uo c uc,.slice co c c,.slice none 0 0,.bool false,.slice none 0 0,.slice none 0 0,.slice lo n n] 67/\OL QC 3 (un Z lo) base 47 w co c C/\OL QC 3 (un Z co) base 47 w lo n L
theorem b3Y(X:Nat->Bool)(w:World)(u t:Value)(x:Mat)(y:List Rat)(n c B:Nat)(hX:HX X w)(hu:MV (mk X w) u x)(ht:RV (mk X w) t y)(u8:a2Y x y=true)(f4:x.length=n)(n7:colsL x=c)(hn:n<=8)(hc:c<=4)(p3:BM B x)(p4:BR B y)(d0:1<=B)(O:B<=510/\n*(2*B+1)<=6540):Calls Tryz.prog 31 #[u,t] w (a6R X w (a4m x y n c)):=by
 obtain⟨W,hW,hE,b0,hz⟩:=a0Y w #[.int .i64 0,.slice none 0 0,.slice none 0 0,.slice none 0 0,.bool false,.slice none 0 0,.slice none 0 0,.slice none 0 0] 67;have j9:HX (a0f X w.heap.size 1) W:=hX.boxes hz;have i7:Hid (∀D,Ext W D->Le (mk X w) (mk (a0f X w.heap.size 1) D)):=hid fun D h=>a0i (hE.trans h);obtain⟨b,hb⟩:=c1F w.heap.size;rw[hb]at b0 hz j9 i7;have I1:w.heap.size<=b:=by omega
 obtain⟨N,n3⟩:=c1F (a0f X b 1);rw[n3]at j9 i7;obtain⟨hf,h1,G5,G4,j1⟩:=a1k.1 u8;obtain⟨b5,G6,_,r4,_⟩:=a0w hf;rw[f4]at h1;have I2:=r4 (by omega);rw[n7]at I2;rw[f4,n7]at b5;rw[f4]at j1;have l4:=a6C p3 d0;have hT:=(a7v b5 l4 hc (by omega)).2;obtain⟨_,hg,_,_⟩:=a1f b5;have f3:=c1A (a7u b5) hc;have m0:∀j∈(a0J x c).2,j<c:=fun j hj=>by obtain⟨k,E,rfl⟩:=List.getElem_of_mem hj;exact hg.lt k E
 have m1:=a6M N W u t x y j9 (MV.mono _ _ _ _ (i7.out W (ExtX.refl _)) hu) (RV.mono _ _ _ _ (i7.out W (ExtX.refl _)) ht) (by omega);rw[u8]at m1;have k2:=hid fun D (hZ:HX N D) (h:MV (mk N D) u x)=>b1N N D u x n c hZ h hf f4 n7 h1 hT;have l8:=hid fun Z D (uo:Option Addr) (uc:Nat) (hZ:HX Z D) (h:MV (mk Z D) u x) (h2:Sl BlR 1 (mk Z D) uo (usedL (a0J x c).2 c))=>b3U Z D u uo uc x (a0J x c).2 n c hZ h h2 b5 (by omega) (by omega) hg.pw m0;have Q:=a9L b5 (a0J x c).2;have c5:=b3t p3 d0 (p:=(a0J x c).2);have d4:=hid fun(h:1<=(a0J x c).2.length)=>(a9M b5 f3).1;have k9:=b5i (y:=y) b5 hc;have a3:=hid fun j (hj:j<c) (h:j<(a7e x y n c).length)=>b5Q (y:=y) b5 hj h;have b8:=a4h x y n c;rw[k9]at a3;have l0:=hid fun(h:(a0J x c).2.length=0)=>(by
  have D5:(a0J x c).2= []:=List.eq_nil_of_length_eq_zero h;refine a6E (n:=c) b8 List.length_replicate fun j hj=>?_;have h0:=(a9K (y:=y) b5).2.2.2 j hj (by rw[D5];simp)
  show fn (a1I x y n c) j=_
  rw[h0];simp[List.getD_eq_getElem?_getD,hj]:a1I x y n c=List.replicate c 0)
 have i8:=hid fun(h:(a0J x c).2.length=0)=>(by
  have h2:=Q;rw[h]at h2 |-;exact a8Q h2:a5y (pkL x (a0J x c).2) n (a0J x c).2.length=List.replicate n 0)
 have g8:=hid (b8o hg.pw m0);have n5:=a8d (y:=y) (c:=c) l4 p4 hn hc O;have f5:=a9Q b5 p3 p4 n5 d0 hc O;have d3:(a4r x y (a1I x y n c)).length=n:=by rw[a5k (by rw[j1,f4])];exact f4
 have j0:=hid fun Z D (v:Value) (hZ:HX Z D) (h:MV (mk Z D) u x) (h2:RV (mk Z D) t y) (h3:RC (mk Z D) v (a1I x y n c))=>b5J Z D u t v x y (a1I x y n c) n c 8500000 hZ h h2 (h3.rv fun q hq=>c1A (n5 q hq) (by decide)) b5 j1 b8 (by omega) (by omega) (fun r hr q hq=>c1A (p3 r hr q hq) (by omega)) n5 (by decide) (by decide);have t9:=a1D (l:=a4r x y (a1I x y n c)) (m:=a4r x y (a1I x y n c)) f5 f5 (by decide) (by rw[d3];omega) (by decide);have u1:=hid fun Z D (v:Value) (hZ:HX Z D) (h:RC (mk Z D) v (a4r x y (a1I x y n c)))=>a5r Z D v v _ _ hZ (h.rv fun q hq=>c1A (f5 q hq) (by decide)) (h.rv fun q hq=>c1A (f5 q hq) (by decide)) (by rw[d3];omega) rfl t9.1 t9.2;have g2:=hid d3;have i6:=hid b8;have p2:=hid (a2k (a0J x c).2 c);have c9:=hid (b3i (u:=pkL x (a0J x c).2) (y:=y) (n:=n) (m:=(a0J x c).2.length));have b6:Hid (∀D uo uc co cc ro rc (s:Bool) a n' c' d k e lo lc,Ext w D->c<=uc->Sl BlR 1 (mk X D) uo (usedL (a0J x c).2 c)->RC (mk X D) (.slice co c cc) (a1I x y n c)->RC (mk X D) (.slice ro n rc) (a4r x y (a1I x y n c))->QC (mk X D) (.agg #[.bool s,.slice a n' c',.slice d k e]) (a2S (a4r x y (a1I x y n c)) (a4r x y (a1I x y n c)))->RC (mk X D) (.slice lo n lc) (a5y (pkL x (a0J x c).2) n (a0J x c).2.length)->a6R X w (a4m x y n c) (.returned (.tuple #[.agg #[.int .i64 ((a0J x c).2.length:Int),.slice uo c uc,.slice co c cc,.slice ro n rc,.bool s,.slice a n' c',.slice d k e,.slice lo n lc],.int .i64 0])) D):=hid fun D uo uc co cc ro rc s a n' c' d k e lo lc h0 h1 h2 h3 h4 h5 h6=>
  ⟨h0,_,rfl,uo,uc,co,c,cc,ro,n,rc,s,a,n',c',d,k,e,lo,n,lc,by rw[show(a4m x y n c).used=usedL (a0J x c).2 c from rfl,a2k];rfl,by rw[show(a4m x y n c).used=usedL (a0J x c).2 c from rfl,a2k];exact h1,h2,h3,h4,h5,h6⟩
 obtain⟨F,hF⟩:=c1F (a6R X w (a4m x y n c));rw[hF]at b6 |-;obtain⟨m,hm⟩:=c1F ((a0J x c).2.length);rw[hm]at f3 Q d4 a3 l0 i8 g8 c9 b6;obtain⟨U,hU⟩:=c1F (pkL x (a0J x c).2);rw[hU]at Q c5 a3 i8 c9 b6 l8 d4;have a4:=hid fun(h1:1<=m)=>(⟨b2X Q (by omega) h1 (by omega),a9F Q (by omega),b2X (a1B U n m) (by omega) (by omega) (by omega),a9F (a1B U n m) h1,b2X (a0D U n m) (by omega) h1 (by omega),a9F (a0D U n m) h1,b2X (a2f (a0D U n m)) (by omega) h1 (by omega),a9F (a2f (a0D U n m)) h1⟩:a0A U=true/\colsL U=m/\a0A (trL U n m)=true/\colsL (trL U n m)=n/\a0A (a1N U n m)=true/\colsL (a1N U n m)=m/\a0A (a2z (a1N U n m) m)=true/\colsL (a2z (a1N U n m) m)=m);have o1:=a6C c5 d0;have m5:BM B (trL U n m):=a5H (b0H o1);have l2:=a8e (m:=m) o1 hn O;have o2:=a9R (m:=m) o1 hn f3 O;have E7:=a3r (a1j (a0D U n m)) (a6k (a0D U n m) l2) f3 (by decide);have E6:=a3r (a0D U n m) l2 f3 (by decide);have F7:BM 68719476736 (a1h (a1N U n m) m):=fun r hr q hq=>c1A (a5H (a6k (a0D U n m) l2) r hr q hq) (by decide);have r7:=hid (show BM 68719476736 U from fun r hr q hq=>c1A (c5 r hr q hq) (by omega));have r5:=hid (show BM 68719476736 (trL U n m)from fun r hr q hq=>c1A (m5 r hr q hq) (by omega));have C1:=hid (show BM 68719476736 (a1N U n m)from fun r hr q hq=>c1A (a5H l2 r hr q hq) (by decide));have C7:=hid (show BM 68719476736 (a2z (a1N U n m) m)from fun r hr q hq=>c1A (o2 r hr q hq) (by decide));have m6:BR 6541 (a2w (trL U n m) y):=fun q hq=>c1A (b3u (a1B U n m) m5 p4 d0 d0 q hq) (by have h2:=O.2;rw[Nat.two_mul]at h2;omega);have s2:(a2w (trL U n m) y).length=m:=by rw[a3d];exact(a1B U n m).1
 have o9:=hid fun(h1:1<=m) Z D (v:Value) (hZ:HX Z D) (h:MC (mk Z D) v U)=>a5u Z D v U n m hZ (h.mv r7.out) (a4.out h1).1 Q.1 (a4.out h1).2.1;have i9:=hid fun(h1:1<=m) Z D (v u2:Value) (hZ:HX Z D) (ht:MC (mk Z D) v (trL U n m)) (h:MC (mk Z D) u2 U)=>b8m Z D v u2 (trL U n m) U m n m B hZ (ht.mv r5.out) (h.mv r7.out) (a4.out h1).2.2.1 (a4.out h1).1 (a1B U n m).1 Q.1 (a4.out h1).2.2.2.1 (a4.out h1).2.1 m5 c5 d0 (by omega);have f2:=hid fun(h1:1<=m) Z D (v:Value) (hZ:HX Z D) (ht:MC (mk Z D) v (a1N U n m))=>b0f Z D v (a1N U n m) m hZ (ht.mv C1.out) (a4.out h1).2.2.2.2.1 (a0D U n m).1 (a4.out h1).2.2.2.2.2.1 E6.2 E7.2 F7;have o5:=hid fun(h1:1<=m) (h0:a9q (a1N U n m) m=0)=>d4.out h1 ((c0L f3 (a0D U n m)).2 h0);have c7:=hid fun(h1:1<=m) Z D (v:Value) (hZ:HX Z D) (h:MC (mk Z D) v (trL U n m)) (h2:RV (mk Z D) t y)=>a9e Z D v t (trL U n m) y B hZ (h.mv r5.out) h2 (a4.out h1).2.2.1 (by rw[(a4.out h1).2.2.2.1];exact j1) m5 p4 d0 (by omega);have f1:=hid fun(h1:1<=m) Z D (v v2:Value) (r:List Rat) (hZ:HX Z D) (h:MC (mk Z D) v (a2z (a1N U n m) m)) (h2:RC (mk Z D) v2 r) (h3:r.length=m) (h4:BR 8500000 r)=>a9e Z D v v2 (a2z (a1N U n m) m) r 8500000 hZ (h.mv C7.out) (h2.rv fun q hq=>c1A (h4 q hq) (by decide)) (a4.out h1).2.2.2.2.2.2.1 (by rw[(a4.out h1).2.2.2.2.2.2.2];exact h3) o2 h4 (by decide) (by decide);have o3:=hid fun r (hr:r∈U)=>a9S (m:=m) c5 hn f3 d0 O hr;have y7:(a2z (a1N U n m) m).length=m:=(a2f (a0D U n m)).1;have g6:=hid fun Z D (v v2:Value) (r:List Rat) (hZ:HX Z D) (hr:r∈U) (h:RC (mk Z D) v r) (h2:RC (mk Z D) v2 (a2w (a2z (a1N U n m) m) r))=>a5r Z D v v2 r (a2w (a2z (a1N U n m) m) r) hZ (h.rv fun q hq=>c1A (c5 r hr q hq) (by omega)) (h2.rv fun q hq=>c1A (o3.out r hr q hq) (by decide)) (by rw[Q.2 r hr];omega) (by rw[a3d,y7,Q.2 r hr]) (a1D (B:=34100000) (fun q hq=>c1A (c5 r hr q hq) (by omega)) (o3.out r hr) (by decide) (by rw[Q.2 r hr];omega) (by decide)).1 (a1D (B:=34100000) (fun q hq=>c1A (c5 r hr q hq) (by omega)) (o3.out r hr) (by decide) (by rw[Q.2 r hr];omega) (by decide)).2;have m3:=hid fun r (hr:r∈U)=>(fun q hq=>c1A (c5 r hr q hq) (by omega):BR 8500000 r);have j6:=hid fun i (h1:i<U.length) (h:i<(a5y U n m).length)=>b1b h1 h;have i4:=hid (show(a5y U n m).length=n by rw[a5l];exact Q.1);have c8:bU U y n m=a2w (a2z (a1N U n m) m) (a2w (trL U n m) y):=rfl;have q8:BR 68719476736 (bU U y n m):=fun q hq=>c1A (b3u (a2f (a0D U n m)) o2 (fun q hq=>c1A (m6 q hq) (by decide)) (by decide) (C:=8500000) (by decide) q hq) (by have:=Nat.mul_le_mul f3 (show 8500000+8500000+1<=17000001 by omega);omega);have r0:a1N U n m=a6f (trL U n m) U n m:=rfl;rw[<-r0]at i9;have g4:=hid (show BR 8500000 (a2w (trL U n m) y)from fun q hq=>c1A (m6 q hq) (by decide));have g5:=hid s2;unfold b3W at f2;obtain⟨us,r9⟩:=c1F (usedL (a0J x c).2 c);unfold b5D at k2;rw[r9]at k2 l8 a3 g8 p2 b6;obtain⟨G,hG⟩:=c1F (a1N U n m);rw[hG]at i9 f2 o5 f1 g6 j6 c8;obtain⟨I,hI⟩:=c1F (a2z G m);rw[hI]at f2 f1 g6 j6 c8;obtain⟨T,z4⟩:=c1F (trL U n m);rw[z4]at o9 i9 c7 g4 g5 c8;obtain⟨V,z5⟩:=c1F (a2w T y);rw[z5]at c7 g4 g5 c8;have k7:=hid c8;obtain⟨bu,B0⟩:=c1F (bU U y n m);rw[B0]at a3 c9 q8 k7;obtain⟨L,hL⟩:=c1F (a5y U n m);rw[hL]at i8 j6 i4 b6;obtain⟨Cf,x2⟩:=c1F (a1I x y n c);rw[x2]at a3 l0 i6 j0 u1 g2 b6;obtain⟨Rs,z0⟩:=c1F (a4r x y Cf);rw[z0]at j0 u1 g2 b6;have t1:=hid Q.1;have H5:=hid Q.2;have v8:=hid fun D (h:Ext W D)=>MV.mono _ _ _ _ (i7.out D h) hu;have E4:=hid fun D (h:Ext W D)=>RV.mono _ _ _ _ (i7.out D h) ht;obtain⟨ua,K8,rfl,r8,K0⟩:=hu;obtain⟨ta,K7,rfl,r6,J8⟩:=ht;rw[f4]at m1 k2 l8 j0 v8 r8 |-;rw[j1]at m1 c7 j0 E4 r6 |-;have A0:Hid (∀k,X k=true->N k=true):=hid fun k E=>by rw[<-n3];simp[a0f,E]
 have H9:Hid (∀k,ob (some ⟨b,0,none⟩) k=true->N k=true):=hid fun k E=>by
  have K6:b=k:=by simpa[ob]using E
  rw[<-n3];exact a3B (by omega) (by omega)
 clear u8 hf G5 G4 r4 b5 l4 hT hg n5 f5 d3 t9 hF hm hU hG hI z4 z5 c8 B0 q8 hL x2 z0 r9 n3 f4 n7 j1 m6 s2 m5 l2 o2 E7 E6 F7 d4 m0 k9 b8 o1 c5 a4 r0 y7 G6 Q r6 r8 K0 J8;go_enter Tryz.func31,Tryz.ntmps31
 go_wp2_with fail
 refine m1.mono ?_;rintro ee wa ⟨s7,rfl⟩;clear m1;go_wp2_with fail
 refine(k2.out wa (j9.ext s7) (v8.out wa s7)).mono ?_;rintro ee z ⟨H1,uo,uc,uv,rfl,K1,Q⟩;have f9:=s7.trans H1;have z6:HX N z:=j9.ext f9;clear k2;go_upto_region 4 with fail
 have d9:=c1L z;have c2:HX N z.drew:=z6.ext d9
 (try simp only[Act.put])
 go_cut [9]from 38 to 46 (fun bv wx=>∃(g:Nat) (co lo:Option Addr),bv=.pointer (some ⟨g,0,none⟩)/\Bx wx g #[.int .i64 0,.slice uo c uc,.slice co c c,.slice none 0 0,.bool false,.slice none 0 0,.slice none 0 0,.slice lo n n] 67/\OL QC 3 (un (un N (some ⟨g,0,none⟩)) lo) z.drew.heap.size 47 wx co c (List.replicate c 0)/\OL QC 3 (un (un N (some ⟨g,0,none⟩)) co) z.drew.heap.size 47 wx lo n (List.replicate n 0)/\z.heap.size<=g/\g<wx.heap.size/\Ext z wx)
 case first=>
  refine a0n 9 (fun _=>True) (by kernel_rfl) (by kernel_rfl) trivial (fun A f=>?_);refine kt 0 f ?_;refine kt 1 f ?_;refine kt 2 f ?_;refine kt 4 f ?_;refine kt 5 f ?_;refine a6b (i:=3) (j:=6) (l:=8) (oi:=⟨_,_,_,_,_,_⟩) (oj:=⟨_,_,_,_,_,_⟩) (ol:=⟨_,_,_,_,_,_⟩) (by kernel_rfl) rfl rfl rfl (fun K J=>?_) (fun K J=>?_) (fun K J=>?_)
  ·skip
   (refine a0P (R:=QC) rfl rfl a0x QC.elem (0:Rat) (fun _=>QC.zero _) N (c2.ext (ExtX.refl (Y:=noY) z.drew)) z.drew.heap.size (c1B _) c rfl rfl rfl (by omega) (by omega) ?_;intro xo vA P eA)
   refine kcn J trivial (fun A=>?_);clear J K;have nA:∀q,ob xo q=true->z.drew.heap.size<=q:=fun q hq=>(P.block hq).1;have P:=P.base_le (b':=z.drew.heap.size) ((ExtX.refl (Y:=noY) z.drew)).size;have EA:Ext z.drew vA:=(ExtX.refl (Y:=noY) z.drew).trans eA;refine a1E (i:=6) (j:=8) (oi:=⟨_,_,_,_,_,_⟩) (oj:=⟨_,_,_,_,_,_⟩) (by kernel_rfl) rfl rfl (fun K J=>?_) (fun K J=>?_)
   ·skip
    (refine a0P (R:=QC) rfl rfl a0x QC.elem (0:Rat) (fun _=>QC.zero _) (un N xo) (a3i (c2.ext EA) fun q hq=>(P.block hq).2) vA.heap.size (c1B _) n rfl rfl rfl (by omega) (by omega) ?_;intro yo vB O eB)
    refine kcn J trivial (fun A=>?_);clear J K;have nB:∀q,ob yo q=true->vA.heap.size<=q:=fun q hq=>(O.block hq).1;have O:=O.base_le (b':=z.drew.heap.size) (EA).size;have P:=a0S QC.elem P eB nB;have EB:Ext z.drew vB:=EA.trans eB;refine kt 7 f ?_;refine a1d (i:=8) (o:=⟨_,_,_,_,_,_⟩) (by kernel_rfl) rfl (fun K J=>?_);go_simp
    skip
    refine kcn J trivial (fun A=>?_);clear J K;have eG:Ext vB (vB.alloc (.cells #[.int .i64 0,.slice none 0 0,.slice none 0 0,.slice none 0 0,.bool false,.slice none 0 0,.slice none 0 0,.slice none 0 0] 67)):=(ExtX.refl _).alloc _;have bG:Bx (vB.alloc (.cells #[.int .i64 0,.slice none 0 0,.slice none 0 0,.slice none 0 0,.bool false,.slice none 0 0,.slice none 0 0,.slice none 0 0] 67)) vB.heap.size #[.int .i64 0,.slice none 0 0,.slice none 0 0,.slice none 0 0,.bool false,.slice none 0 0,.slice none 0 0,.slice none 0 0] 67:=Bx.new vB _ _;have zG:(vB.alloc (.cells #[.int .i64 0,.slice none 0 0,.slice none 0 0,.slice none 0 0,.bool false,.slice none 0 0,.slice none 0 0,.slice none 0 0] 67)).heap.size=vB.heap.size+1:=by simp
    obtain⟨vG,d5⟩:=c1F (vB.alloc (.cells #[.int .i64 0,.slice none 0 0,.slice none 0 0,.slice none 0 0,.bool false,.slice none 0 0,.slice none 0 0,.slice none 0 0] 67));rw[d5]at eG bG zG |-;obtain⟨H,a5⟩:=c1F vB.heap.size;have a7:vB.heap.size<=H:=by rw[<-a5];exact c1B _
    rw[a5]at bG zG |-;have M:H<vG.heap.size:=by omega
    have nG:∀q,ob (some ⟨H,0,none⟩) q=true->vB.heap.size<=q:=fun q hq=>(by simpa[ob]using hq:H=q)▸a7;have S:z.heap.size<=H:=c1A (EB).size a7;have P:=a0S QC.elem P eG nG;have O:=a0S QC.elem O eG nG;have EG:Ext z.drew vG:=EB.trans eG;refine kl 9 (fun K J=>?_)
    (refine a0r rfl rfl a1n rfl rfl bG rfl rfl (by intro v hv;simp at hv;rcases hv with rfl|rfl|rfl|rfl|rfl|rfl|rfl|rfl<;>rfl) ?_;intro w9 y1 y2)
    refine J.out _ _ ?_;clear J K
    (try simp only[Act.put])
    have b9:OL QC 3 (un (un N (some ⟨H,0,none⟩)) yo) z.drew.heap.size 47 w9 xo c (List.replicate c 0):=by
     have h:=P.ext QC.elem (Z:=un (un N yo) (some ⟨H,0,none⟩)) y2 (fun q _ hq=>by simp[un,hq]) (fun _ _ h=>h)
     first|exact h|(rw[a0T]at h;exact h)
    have c0:OL QC 3 (un (un N (some ⟨H,0,none⟩)) xo) z.drew.heap.size 47 w9 yo n (List.replicate n 0):=by
     have h:=O.ext QC.elem (Z:=un (un N xo) (some ⟨H,0,none⟩)) y2 (fun q _ hq=>by simp[un,hq]) (fun _ _ h=>h)
     first|exact h|(rw[a0T]at h;exact h)
    have a8:Ext z w9:=ExtX.box (d9.trans EG) y2 S;have a0:=c1C M y2.size;go_wp2_with fail
    go_meet
    case rel=>exact⟨H,xo,yo,rfl,y1,b9,c0,S,a0,a8⟩
   ·skip
    go_simp
    skip
    refine kcn J trivial (fun A=>?_);clear J K;have eG:Ext vA (vA.alloc (.cells #[.int .i64 0,.slice none 0 0,.slice none 0 0,.slice none 0 0,.bool false,.slice none 0 0,.slice none 0 0,.slice none 0 0] 67)):=(ExtX.refl _).alloc _;have bG:Bx (vA.alloc (.cells #[.int .i64 0,.slice none 0 0,.slice none 0 0,.slice none 0 0,.bool false,.slice none 0 0,.slice none 0 0,.slice none 0 0] 67)) vA.heap.size #[.int .i64 0,.slice none 0 0,.slice none 0 0,.slice none 0 0,.bool false,.slice none 0 0,.slice none 0 0,.slice none 0 0] 67:=Bx.new vA _ _;have zG:(vA.alloc (.cells #[.int .i64 0,.slice none 0 0,.slice none 0 0,.slice none 0 0,.bool false,.slice none 0 0,.slice none 0 0,.slice none 0 0] 67)).heap.size=vA.heap.size+1:=by simp
    obtain⟨vG,d5⟩:=c1F (vA.alloc (.cells #[.int .i64 0,.slice none 0 0,.slice none 0 0,.slice none 0 0,.bool false,.slice none 0 0,.slice none 0 0,.slice none 0 0] 67));rw[d5]at eG bG zG |-;obtain⟨H,a5⟩:=c1F vA.heap.size;have a7:vA.heap.size<=H:=by rw[<-a5];exact c1B _
    rw[a5]at bG zG |-;have M:H<vG.heap.size:=by omega
    have nG:∀q,ob (some ⟨H,0,none⟩) q=true->vA.heap.size<=q:=fun q hq=>(by simpa[ob]using hq:H=q)▸a7;have S:z.heap.size<=H:=c1A (EA).size a7;have P:=a0S QC.elem P eG nG;have EG:Ext z.drew vG:=EA.trans eG;refine a1d (i:=6) (o:=⟨_,_,_,_,_,_⟩) (by kernel_rfl) rfl (fun K J=>?_)
    (refine a0P (R:=QC) rfl rfl a0x QC.elem (0:Rat) (fun _=>QC.zero _) (un (un N xo) (some ⟨H,0,none⟩)) (a1m (a3i (c2.ext EG) fun q hq=>(P.block hq).2) M) vG.heap.size (c1B _) n rfl rfl rfl (by omega) (by omega) ?_;intro yo vB O eB)
    refine kcn J trivial (fun A=>?_);clear J K;have nB:∀q,ob yo q=true->vG.heap.size<=q:=fun q hq=>(O.block hq).1;have O:=O.base_le (b':=z.drew.heap.size) (EG).size;have P:=a0S QC.elem P eB nB;have bG:=bG.ext0 eB;have M:=c1C M eB.size;have EB:Ext z.drew vB:=EG.trans eB;refine kt 7 f ?_;refine kl 9 (fun K J=>?_)
    (refine a0r rfl rfl a1n rfl rfl bG rfl rfl (by intro v hv;simp at hv;rcases hv with rfl|rfl|rfl|rfl|rfl|rfl|rfl|rfl<;>rfl) ?_;intro w9 y1 y2)
    refine J.out _ _ ?_;clear J K
    (try simp only[Act.put])
    have b9:OL QC 3 (un (un N (some ⟨H,0,none⟩)) yo) z.drew.heap.size 47 w9 xo c (List.replicate c 0):=by
     have h:=P.ext QC.elem (Z:=un (un N (some ⟨H,0,none⟩)) yo) y2 (fun q _ hq=>by simp[un,hq]) (fun _ _ h=>h)
     first|exact h|(rw[a0T]at h;exact h)
    have c0:OL QC 3 (un (un N (some ⟨H,0,none⟩)) xo) z.drew.heap.size 47 w9 yo n (List.replicate n 0):=by
     have h:=O.ext QC.elem (Z:=un (un N xo) (some ⟨H,0,none⟩)) y2 (fun q _ hq=>by simp[un,hq]) (fun _ _ h=>h)
     first|exact h|(rw[a0T]at h;exact h)
    have a8:Ext z w9:=ExtX.box (d9.trans EB) y2 S;have a0:=c1C M y2.size;go_wp2_with fail
    go_meet
    case rel=>exact⟨H,xo,yo,rfl,y1,b9,c0,S,a0,a8⟩
  ·skip
   (refine a0P (R:=QC) rfl rfl a0x QC.elem (0:Rat) (fun _=>QC.zero _) N (c2.ext (ExtX.refl (Y:=noY) z.drew)) z.drew.heap.size (c1B _) n rfl rfl rfl (by omega) (by omega) ?_;intro yo vB O eB)
   refine kcn J trivial (fun A=>?_);clear J K;have nB:∀q,ob yo q=true->z.drew.heap.size<=q:=fun q hq=>(O.block hq).1;have O:=O.base_le (b':=z.drew.heap.size) ((ExtX.refl (Y:=noY) z.drew)).size;have EB:Ext z.drew vB:=(ExtX.refl (Y:=noY) z.drew).trans eB;refine a1E (i:=3) (j:=8) (oi:=⟨_,_,_,_,_,_⟩) (oj:=⟨_,_,_,_,_,_⟩) (by kernel_rfl) rfl rfl (fun K J=>?_) (fun K J=>?_)
   ·skip
    (refine a0P (R:=QC) rfl rfl a0x QC.elem (0:Rat) (fun _=>QC.zero _) (un N yo) (a3i (c2.ext EB) fun q hq=>(O.block hq).2) vB.heap.size (c1B _) c rfl rfl rfl (by omega) (by omega) ?_;intro xo vA P eA)
    refine kcn J trivial (fun A=>?_);clear J K;have nA:∀q,ob xo q=true->vB.heap.size<=q:=fun q hq=>(P.block hq).1;have P:=P.base_le (b':=z.drew.heap.size) (EB).size;have O:=a0S QC.elem O eA nA;have EA:Ext z.drew vA:=EB.trans eA;refine kt 7 f ?_;refine a1d (i:=8) (o:=⟨_,_,_,_,_,_⟩) (by kernel_rfl) rfl (fun K J=>?_);go_simp
    skip
    refine kcn J trivial (fun A=>?_);clear J K;have eG:Ext vA (vA.alloc (.cells #[.int .i64 0,.slice none 0 0,.slice none 0 0,.slice none 0 0,.bool false,.slice none 0 0,.slice none 0 0,.slice none 0 0] 67)):=(ExtX.refl _).alloc _;have bG:Bx (vA.alloc (.cells #[.int .i64 0,.slice none 0 0,.slice none 0 0,.slice none 0 0,.bool false,.slice none 0 0,.slice none 0 0,.slice none 0 0] 67)) vA.heap.size #[.int .i64 0,.slice none 0 0,.slice none 0 0,.slice none 0 0,.bool false,.slice none 0 0,.slice none 0 0,.slice none 0 0] 67:=Bx.new vA _ _;have zG:(vA.alloc (.cells #[.int .i64 0,.slice none 0 0,.slice none 0 0,.slice none 0 0,.bool false,.slice none 0 0,.slice none 0 0,.slice none 0 0] 67)).heap.size=vA.heap.size+1:=by simp
    obtain⟨vG,d5⟩:=c1F (vA.alloc (.cells #[.int .i64 0,.slice none 0 0,.slice none 0 0,.slice none 0 0,.bool false,.slice none 0 0,.slice none 0 0,.slice none 0 0] 67));rw[d5]at eG bG zG |-;obtain⟨H,a5⟩:=c1F vA.heap.size;have a7:vA.heap.size<=H:=by rw[<-a5];exact c1B _
    rw[a5]at bG zG |-;have M:H<vG.heap.size:=by omega
    have nG:∀q,ob (some ⟨H,0,none⟩) q=true->vA.heap.size<=q:=fun q hq=>(by simpa[ob]using hq:H=q)▸a7;have S:z.heap.size<=H:=c1A (EA).size a7;have O:=a0S QC.elem O eG nG;have P:=a0S QC.elem P eG nG;have EG:Ext z.drew vG:=EA.trans eG;refine kl 9 (fun K J=>?_)
    (refine a0r rfl rfl a1n rfl rfl bG rfl rfl (by intro v hv;simp at hv;rcases hv with rfl|rfl|rfl|rfl|rfl|rfl|rfl|rfl<;>rfl) ?_;intro w9 y1 y2)
    refine J.out _ _ ?_;clear J K
    (try simp only[Act.put])
    have b9:OL QC 3 (un (un N (some ⟨H,0,none⟩)) yo) z.drew.heap.size 47 w9 xo c (List.replicate c 0):=by
     have h:=P.ext QC.elem (Z:=un (un N yo) (some ⟨H,0,none⟩)) y2 (fun q _ hq=>by simp[un,hq]) (fun _ _ h=>h)
     first|exact h|(rw[a0T]at h;exact h)
    have c0:OL QC 3 (un (un N (some ⟨H,0,none⟩)) xo) z.drew.heap.size 47 w9 yo n (List.replicate n 0):=by
     have h:=O.ext QC.elem (Z:=un (un N xo) (some ⟨H,0,none⟩)) y2 (fun q _ hq=>by simp[un,hq]) (fun _ _ h=>h)
     first|exact h|(rw[a0T]at h;exact h)
    have a8:Ext z w9:=ExtX.box (d9.trans EG) y2 S;have a0:=c1C M y2.size;go_wp2_with fail
    go_meet
    case rel=>exact⟨H,xo,yo,rfl,y1,b9,c0,S,a0,a8⟩
   ·skip
    go_simp
    skip
    refine kcn J trivial (fun A=>?_);clear J K;have eG:Ext vB (vB.alloc (.cells #[.int .i64 0,.slice none 0 0,.slice none 0 0,.slice none 0 0,.bool false,.slice none 0 0,.slice none 0 0,.slice none 0 0] 67)):=(ExtX.refl _).alloc _;have bG:Bx (vB.alloc (.cells #[.int .i64 0,.slice none 0 0,.slice none 0 0,.slice none 0 0,.bool false,.slice none 0 0,.slice none 0 0,.slice none 0 0] 67)) vB.heap.size #[.int .i64 0,.slice none 0 0,.slice none 0 0,.slice none 0 0,.bool false,.slice none 0 0,.slice none 0 0,.slice none 0 0] 67:=Bx.new vB _ _;have zG:(vB.alloc (.cells #[.int .i64 0,.slice none 0 0,.slice none 0 0,.slice none 0 0,.bool false,.slice none 0 0,.slice none 0 0,.slice none 0 0] 67)).heap.size=vB.heap.size+1:=by simp
    obtain⟨vG,d5⟩:=c1F (vB.alloc (.cells #[.int .i64 0,.slice none 0 0,.slice none 0 0,.slice none 0 0,.bool false,.slice none 0 0,.slice none 0 0,.slice none 0 0] 67));rw[d5]at eG bG zG |-;obtain⟨H,a5⟩:=c1F vB.heap.size;have a7:vB.heap.size<=H:=by rw[<-a5];exact c1B _
    rw[a5]at bG zG |-;have M:H<vG.heap.size:=by omega
    have nG:∀q,ob (some ⟨H,0,none⟩) q=true->vB.heap.size<=q:=fun q hq=>(by simpa[ob]using hq:H=q)▸a7;have S:z.heap.size<=H:=c1A (EB).size a7;have O:=a0S QC.elem O eG nG;have EG:Ext z.drew vG:=EB.trans eG;refine a1d (i:=3) (o:=⟨_,_,_,_,_,_⟩) (by kernel_rfl) rfl (fun K J=>?_)
    (refine a0P (R:=QC) rfl rfl a0x QC.elem (0:Rat) (fun _=>QC.zero _) (un (un N yo) (some ⟨H,0,none⟩)) (a1m (a3i (c2.ext EG) fun q hq=>(O.block hq).2) M) vG.heap.size (c1B _) c rfl rfl rfl (by omega) (by omega) ?_;intro xo vA P eA)
    refine kcn J trivial (fun A=>?_);clear J K;have nA:∀q,ob xo q=true->vG.heap.size<=q:=fun q hq=>(P.block hq).1;have P:=P.base_le (b':=z.drew.heap.size) (EG).size;have O:=a0S QC.elem O eA nA;have bG:=bG.ext0 eA;have M:=c1C M eA.size;have EA:Ext z.drew vA:=EG.trans eA;refine kt 7 f ?_;refine kl 9 (fun K J=>?_)
    (refine a0r rfl rfl a1n rfl rfl bG rfl rfl (by intro v hv;simp at hv;rcases hv with rfl|rfl|rfl|rfl|rfl|rfl|rfl|rfl<;>rfl) ?_;intro w9 y1 y2)
    refine J.out _ _ ?_;clear J K
    (try simp only[Act.put])
    have b9:OL QC 3 (un (un N (some ⟨H,0,none⟩)) yo) z.drew.heap.size 47 w9 xo c (List.replicate c 0):=by
     have h:=P.ext QC.elem (Z:=un (un N yo) (some ⟨H,0,none⟩)) y2 (fun q _ hq=>by simp[un,hq]) (fun _ _ h=>h)
     first|exact h|(rw[a0T]at h;exact h)
    have c0:OL QC 3 (un (un N (some ⟨H,0,none⟩)) xo) z.drew.heap.size 47 w9 yo n (List.replicate n 0):=by
     have h:=O.ext QC.elem (Z:=un (un N (some ⟨H,0,none⟩)) xo) y2 (fun q _ hq=>by simp[un,hq]) (fun _ _ h=>h)
     first|exact h|(rw[a0T]at h;exact h)
    have a8:Ext z w9:=ExtX.box (d9.trans EA) y2 S;have a0:=c1C M y2.size;go_wp2_with fail
    go_meet
    case rel=>exact⟨H,xo,yo,rfl,y1,b9,c0,S,a0,a8⟩
  ·skip
   go_simp
   skip
   refine kcn J trivial (fun A=>?_);clear J K;have eG:Ext z.drew (z.alloc (.cells #[.int .i64 0,.slice none 0 0,.slice none 0 0,.slice none 0 0,.bool false,.slice none 0 0,.slice none 0 0,.slice none 0 0] 67)).drew:=⟨rfl,rfl,rfl,((ExtX.refl (Y:=noY) z).alloc _).size,((ExtX.refl (Y:=noY) z).alloc _).block⟩;have bG:Bx (z.alloc (.cells #[.int .i64 0,.slice none 0 0,.slice none 0 0,.slice none 0 0,.bool false,.slice none 0 0,.slice none 0 0,.slice none 0 0] 67)).drew z.heap.size #[.int .i64 0,.slice none 0 0,.slice none 0 0,.slice none 0 0,.bool false,.slice none 0 0,.slice none 0 0,.slice none 0 0] 67:=Bx.new z _ _;have zG:(z.alloc (.cells #[.int .i64 0,.slice none 0 0,.slice none 0 0,.slice none 0 0,.bool false,.slice none 0 0,.slice none 0 0,.slice none 0 0] 67)).drew.heap.size=z.heap.size+1:=by show(z.alloc _).heap.size=_;simp
   obtain⟨vG,d5⟩:=c1F ((z.alloc (.cells #[.int .i64 0,.slice none 0 0,.slice none 0 0,.slice none 0 0,.bool false,.slice none 0 0,.slice none 0 0,.slice none 0 0] 67)).drew);rw[d5]at eG bG zG |-;obtain⟨H,a5⟩:=c1F z.heap.size;have a7:z.drew.heap.size<=H:=by rw[<-a5];exact c1B _
   rw[a5]at bG zG |-;have M:H<vG.heap.size:=by omega
   have nG:∀q,ob (some ⟨H,0,none⟩) q=true->z.drew.heap.size<=q:=fun q hq=>(by simpa[ob]using hq:H=q)▸a7;have S:z.heap.size<=H:=c1A ((ExtX.refl (Y:=noY) z.drew)).size a7;have EG:Ext z.drew vG:=(ExtX.refl (Y:=noY) z.drew).trans eG;refine a1E (i:=3) (j:=6) (oi:=⟨_,_,_,_,_,_⟩) (oj:=⟨_,_,_,_,_,_⟩) (by kernel_rfl) rfl rfl (fun K J=>?_) (fun K J=>?_)
   ·skip
    (refine a0P (R:=QC) rfl rfl a0x QC.elem (0:Rat) (fun _=>QC.zero _) (un N (some ⟨H,0,none⟩)) (a1m (c2.ext EG) M) vG.heap.size (c1B _) c rfl rfl rfl (by omega) (by omega) ?_;intro xo vA P eA)
    refine kcn J trivial (fun A=>?_);clear J K;have nA:∀q,ob xo q=true->vG.heap.size<=q:=fun q hq=>(P.block hq).1;have P:=P.base_le (b':=z.drew.heap.size) (EG).size;have bG:=bG.ext0 eA;have M:=c1C M eA.size;have EA:Ext z.drew vA:=EG.trans eA;refine a1d (i:=6) (o:=⟨_,_,_,_,_,_⟩) (by kernel_rfl) rfl (fun K J=>?_)
    (refine a0P (R:=QC) rfl rfl a0x QC.elem (0:Rat) (fun _=>QC.zero _) (un (un N (some ⟨H,0,none⟩)) xo) (a3i (a1m (c2.ext EA) M) fun q hq=>(P.block hq).2) vA.heap.size (c1B _) n rfl rfl rfl (by omega) (by omega) ?_;intro yo vB O eB)
    refine kcn J trivial (fun A=>?_);clear J K;have nB:∀q,ob yo q=true->vA.heap.size<=q:=fun q hq=>(O.block hq).1;have O:=O.base_le (b':=z.drew.heap.size) (EA).size;have bG:=bG.ext0 eB;have M:=c1C M eB.size;have P:=a0S QC.elem P eB nB;have EB:Ext z.drew vB:=EA.trans eB;refine kt 7 f ?_;refine kl 9 (fun K J=>?_)
    (refine a0r rfl rfl a1n rfl rfl bG rfl rfl (by intro v hv;simp at hv;rcases hv with rfl|rfl|rfl|rfl|rfl|rfl|rfl|rfl<;>rfl) ?_;intro w9 y1 y2)
    refine J.out _ _ ?_;clear J K
    (try simp only[Act.put])
    have b9:OL QC 3 (un (un N (some ⟨H,0,none⟩)) yo) z.drew.heap.size 47 w9 xo c (List.replicate c 0):=by
     have h:=P.ext QC.elem (Z:=un (un N (some ⟨H,0,none⟩)) yo) y2 (fun q _ hq=>by simp[un,hq]) (fun _ _ h=>h)
     first|exact h|(rw[a0T]at h;exact h)
    have c0:OL QC 3 (un (un N (some ⟨H,0,none⟩)) xo) z.drew.heap.size 47 w9 yo n (List.replicate n 0):=by
     have h:=O.ext QC.elem (Z:=un (un N (some ⟨H,0,none⟩)) xo) y2 (fun q _ hq=>by simp[un,hq]) (fun _ _ h=>h)
     first|exact h|(rw[a0T]at h;exact h)
    have a8:Ext z w9:=ExtX.box (d9.trans EB) y2 S;have a0:=c1C M y2.size;go_wp2_with fail
    go_meet
    case rel=>exact⟨H,xo,yo,rfl,y1,b9,c0,S,a0,a8⟩
   ·skip
    (refine a0P (R:=QC) rfl rfl a0x QC.elem (0:Rat) (fun _=>QC.zero _) (un N (some ⟨H,0,none⟩)) (a1m (c2.ext EG) M) vG.heap.size (c1B _) n rfl rfl rfl (by omega) (by omega) ?_;intro yo vB O eB)
    refine kcn J trivial (fun A=>?_);clear J K;have nB:∀q,ob yo q=true->vG.heap.size<=q:=fun q hq=>(O.block hq).1;have O:=O.base_le (b':=z.drew.heap.size) (EG).size;have bG:=bG.ext0 eB;have M:=c1C M eB.size;have EB:Ext z.drew vB:=EG.trans eB;refine a1d (i:=3) (o:=⟨_,_,_,_,_,_⟩) (by kernel_rfl) rfl (fun K J=>?_)
    (refine a0P (R:=QC) rfl rfl a0x QC.elem (0:Rat) (fun _=>QC.zero _) (un (un N (some ⟨H,0,none⟩)) yo) (a3i (a1m (c2.ext EB) M) fun q hq=>(O.block hq).2) vB.heap.size (c1B _) c rfl rfl rfl (by omega) (by omega) ?_;intro xo vA P eA)
    refine kcn J trivial (fun A=>?_);clear J K;have nA:∀q,ob xo q=true->vB.heap.size<=q:=fun q hq=>(P.block hq).1;have P:=P.base_le (b':=z.drew.heap.size) (EB).size;have bG:=bG.ext0 eA;have M:=c1C M eA.size;have O:=a0S QC.elem O eA nA;have EA:Ext z.drew vA:=EB.trans eA;refine kt 7 f ?_;refine kl 9 (fun K J=>?_)
    (refine a0r rfl rfl a1n rfl rfl bG rfl rfl (by intro v hv;simp at hv;rcases hv with rfl|rfl|rfl|rfl|rfl|rfl|rfl|rfl<;>rfl) ?_;intro w9 y1 y2)
    refine J.out _ _ ?_;clear J K
    (try simp only[Act.put])
    have b9:OL QC 3 (un (un N (some ⟨H,0,none⟩)) yo) z.drew.heap.size 47 w9 xo c (List.replicate c 0):=by
     have h:=P.ext QC.elem (Z:=un (un N (some ⟨H,0,none⟩)) yo) y2 (fun q _ hq=>by simp[un,hq]) (fun _ _ h=>h)
     first|exact h|(rw[a0T]at h;exact h)
    have c0:OL QC 3 (un (un N (some ⟨H,0,none⟩)) xo) z.drew.heap.size 47 w9 yo n (List.replicate n 0):=by
     have h:=O.ext QC.elem (Z:=un (un N (some ⟨H,0,none⟩)) xo) y2 (fun q _ hq=>by simp[un,hq]) (fun _ _ h=>h)
     first|exact h|(rw[a0T]at h;exact h)
    have a8:Ext z w9:=ExtX.box (d9.trans EA) y2 S;have a0:=c1C M y2.size;go_wp2_with fail
    go_meet
    case rel=>exact⟨H,xo,yo,rfl,y1,b9,c0,S,a0,a8⟩
 case rest=>
  obtain⟨g,co,lo,rfl,bg,h8,i3,S,C2,s8⟩:=hcut;obtain⟨Z1,g0⟩:=c1F (un N (some ⟨g,0,none⟩));rw[g0]at h8 i3;have l1:∀k,ob (some ⟨g,0,none⟩) k=true->Z1 k=true:=fun k E=>by rw[<-g0];exact a0u E
  have u4:Z1 g=true:=l1 g (by simp[ob]);have A3:Hid (∀k,k<z.heap.size->Z1 k=true->N k=true):=hid fun k E h=>by
   rw[<-g0]at h;by_cases h0:N k=true
   ·exact h0
   ·have:g=k:=by simpa[un,h0,ob]using h
    omega
  have z9:Hid (∀k,X k=true->Z1 k=true):=hid fun k E=>by rw[<-g0];exact a0j (A0.out k E)
  have A6:Hid (∀k,ob (some ⟨b,0,none⟩) k=true->Z1 k=true):=hid fun k E=>by rw[<-g0];exact a0j (H9.out k E)
  have p7:HX Z1 wc:=fun k E=>by
   rw[<-g0]at E;by_cases h0:N k=true
   ·exact z6.ext s8 k h0
   ·have:g=k:=by simpa[un,h0,ob]using E
    omega
  have I4:ob co g=false:=by
   cases hq:ob co g
   ·rfl
   ·have:=(a0V (h8.1 g hq)).1;rw[u4]at this;cases this
  have J0:ob lo g=false:=by
   cases hq:ob lo g
   ·rfl
   ·have:=(a0V (i3.1 g hq)).1;rw[u4]at this;cases this
  have C4:Hd co c:=by have:=h8.hd;rwa[List.length_replicate]at this
  have C5:Hd lo n:=by have:=i3.hd;rwa[List.length_replicate]at this
  have k8:z.drew.heap.size=z.heap.size:=rfl;rw[k8]at h8 i3;have C6:Hd uo c:=by have:=Q.hd;rwa[p2.out]at this
  have d2:=hid fun j (hj:j<us.length) wr (h:Ext z wr)=>h.cell (a1H (Q.bl j hj));have iu:∀j,j<c->∀W,(Instr.indexAt 65 (.slice uo c uc) (.int .i64 (j:Int))).run Tryz.prog W=.ok (.pointer (some (adr uo j))) W:=fun j hj=>a0y a8Y uo c uc .i64 j C6 hj rfl;have v9:=hid iu;have p6:FS Z1 z.heap.size g uo uc c n co lo (rkN us 0) (List.replicate c 0) (List.replicate n 0) wc:=⟨bg,h8,i3⟩;clear h8 i3 bg c2 d9 g0 k8 iu;go_wp2_with fail
  go_loopw [10] (fun kv wr=>∃j:Nat,kv=.int .i64 j/\j<=c/\FS Z1 z.heap.size g uo uc c n co lo (rkN us j) (List.replicate c 0) (List.replicate n 0) wr/\HX Z1 wr/\Ext z wr) (fun kv _=>c - (intOf kv).toNat)
  case atStart=>exact⟨0,rfl,Nat.zero_le _,p6,p7,s8⟩
  case round=>
   clear p6 p7 s8 C2;obtain⟨j,rfl,hj,⟨bx,d8,e0⟩,n2,i0⟩:=hrel;by_cases D1:j<c
   ·have D0:j<us.length:=by rw[p2.out];exact D1
    have kb:=d2.out j D0 wr i0;have a9:Hid (us.getD j false=us[j]):=hid (by simp[List.getD_eq_getElem?_getD,D0]);obtain⟨b1,k5⟩:=c1F (us[j]);rw[k5]at kb a9;have iu:=v9.out j D1;have g9:=b6H us j;have p0:=bx.cell 0 rfl;clear k5;cases b1
    ·have l7:=hid (b6G a9.out)
     clear a9;rw[<-l7.out]at bx;clear l7;go_wp2_with fail
     go_roundw
     case rel=>exact⟨j+1,by go_num,by omega,⟨bx,d8,e0⟩,n2,i0⟩
     case measure=>simp[intOf];omega
    ·have f7:=hid (b3X a9.out)
     obtain⟨r,hr⟩:=c1F (rkN us j);rw[hr]at f7 g9 bx p0;clear a9 hr;go_wp2_with ((show wpList _ _ _ (⟨_,.store _ _ _,_,_,_,_⟩::_) _ _);refine a1G (v:= .int .i64 _) b8V rfl rfl rfl rfl bx (by simp) ?_;intro w5 v5 x5)
     have j2:Ext z w5:=ExtX.box i0 x5 S;have j8:HX Z1 w5:=fun q hq=>c1C (n2 q hq) x5.size;have G7:=d8.ext QC.elem (Z:=un Z1 lo) x5 (fun q _ hq=>a0j (l1 q hq)) (fun _ _ h=>h);have H3:=e0.ext QC.elem (Z:=un Z1 co) x5 (fun q _ hq=>a0j (l1 q hq)) (fun _ _ h=>h);have v6:Bx w5 g #[.int .i64 ((rkN us (j+1):Nat):Int),.slice uo c uc,.slice co c c,.slice none 0 0,.bool false,.slice none 0 0,.slice none 0 0,.slice lo n n] 67:=by
      rw[f7.out];simpa using v5
     clear p0 v5;go_roundw
     case rel=>exact⟨j+1,by go_num,by omega,⟨v6,G7,H3⟩,j8,j2⟩
     case measure=>simp[intOf];omega
   ·have I8:j=c:=by omega
    subst I8;rw[g8.out]at bx;have A2:HX (un Z1 co) wr:=a3i n2 fun k E=>(d8.block E).2;have j7:HX (un (un Z1 co) lo) wr:=a3i A2 fun k E=>(e0.block E).2;have q9:∀k,k<z.heap.size->ob co k=false:=fun k E=>d8.ob_lt E;have r1:∀k,k<z.heap.size->ob lo k=false:=fun k E=>e0.ob_lt E;obtain⟨Z2,f0⟩:=c1F (un (un Z1 co) lo);rw[f0]at j7;have a4:Z2 g=true:=by rw[<-f0];exact a0j (a0j u4)
    have I3:∀k,ob co k=true->Z2 k=true:=fun k E=>by rw[<-f0];exact a0j (a0u E)
    have I9:∀k,ob lo k=true->Z2 k=true:=fun k E=>by rw[<-f0];exact a0u E
    have A4:∀k,k<z.heap.size->Z2 k=true->N k=true:=fun k E h=>by
     rw[<-f0]at h;refine A3.out k E ?_;cases h0:Z1 k
     ·simp[un,h0,q9 k E,r1 k E]at h
     ·rfl
    have t6:=hid fun v (h:Ext z v)=>(b7T h A4:Le (mk N z) (mk Z2 v));have F0:=hid fun v (h:Ext z v)=>MV.mono _ _ _ _ (t6.out v h) (v8.out z f9);have E5:=hid fun v (h:Ext z v)=>RV.mono _ _ _ _ (t6.out v h) (E4.out z f9);have s0:=hid fun v (h:Ext z v)=>Q.mono BlR.mono (t6.out v h);have l9:=hid fun v (h:Ext z v) (hZ:HX Z2 v)=>l8.out Z2 v uo uc hZ (F0.out v h) (s0.out v h);clear l8 g8;have p0:=bx.cell 0 rfl
    go_upto_if 62 with fail
    go_cut []from 60 to 138 (fun wx=>FS Z1 z.heap.size g uo uc j n co lo m Cf L wx/\HX Z2 wx/\Ext z wx)
    case first=>
     by_cases l6:m=0
     ·have B5:=l0.out l6
      have D2:=i8.out l6;rw[<-B5]at d8;rw[<-D2]at e0;subst l6;go_wp2_with fail
      go_meet
      case rel=>exact⟨⟨bx,d8,e0⟩,j7,i0⟩
     ·have d7:1<=m:=Nat.one_le_iff_ne_zero.2 l6
      clear l0 i8 l6;have K5:0<m:=d7;go_wp2_with fail
      refine(l9.out wr i0 j7).mono ?_;rintro ee w2 ⟨e2,u2,rfl,p1⟩;have i5:=j7.ext e2;have x8:=i0.trans e2;clear p0 l9;go_wp2_with fail
      refine(o9.out d7 Z2 w2 u2 i5 p1).mono ?_;rintro ee w3 ⟨e3,tv,rfl,v7⟩;have t2:=i5.ext e3;have x9:=x8.trans e3;have E8:=mkx MC.mono p1 e3;go_wp2_with fail
      refine(i9.out d7 Z2 w3 tv u2 t2 v7 E8).mono ?_;rintro ee w4 ⟨e4,gv,rfl,C3⟩;have j8:=t2.ext e4;have y0:=x9.trans e4;go_wp2_with fail
      refine(f2.out d7 Z2 w4 gv j8 C3).mono ?_;rintro ee w5 ⟨e5,J2⟩;rcases J2 with⟨A7,_⟩|⟨_,iv,rfl,C9⟩
      ·exact absurd A7 (o5.out d7)
      have t3:=j8.ext e5;have j2:=y0.trans e5;have E3:=mkx MC.mono v7 (e4.trans e5);go_wp2_with fail
      refine(c7.out d7 Z2 w5 tv t3 E3 (E5.out w5 j2)).mono ?_;rintro ee w6 ⟨e6,xy,rfl,F9⟩;have t4:=t3.ext e6;have y3:=j2.trans e6;have u5:=mkx MC.mono C9 e6;go_wp2_with fail
      refine(f1.out d7 Z2 w6 iv xy V t4 u5 F9 g5.out g4.out).mono ?_;rintro ee w7 ⟨e7,bv,rfl,B1⟩;rw[<-k7.out]at B1;have H6:=t4.ext e7;have H0:=y3.trans e7;have I7:=mkx MC.mono u5 e7;have m7:=e2.trans (e3.trans (e4.trans (e5.trans (e6.trans e7))));have E9:=mkx MC.mono p1 (e3.trans (e4.trans (e5.trans (e6.trans e7))));have w0:=bx.ext0 m7;have s4:=d8.ext0 QC.elem m7;have y8:=e0.ext0 QC.elem m7;obtain⟨bo,bc,rfl,I0,t7⟩:=B1;rw[c9.out]at I0 |-;have l4:Hd bo m:=by have:=t7.hd;rw[c9.out]at this;exact this
      have F4:=hid E9;obtain⟨po,pc,rfl,J3,D6⟩:=E9;rw[t1.out]at F4 J3 |-;have I6:Hd po n:=by have:=D6.hd;rw[t1.out]at this;exact this
      have B9:Hid (a2N Cf 0=List.replicate j 0):=hid (by rw[a5L,i6.out]);have B8:Hid (a2N L 0=List.replicate n 0):=hid (by rw[a5L,i4.out]);rw[<-B9.out]at s4;clear v7 C3 C9 F9 E3 u5 p1 E8 c7 i9 o9 f2 o5 bx d8 e0 A2 q9 r1 e2 e3 e4 e5 e6 e7 m7 j7 i5 t2 j8 t3 t4 n2 x8 x9 y0 j2 y3;go_wp2_with fail
      go_loopw [22,23] (fun av jv wz=>∃q:Nat,jv=.int .i64 q/\av=.int .i64 (rkN us q:Int)/\q<=j/\FS Z1 z.heap.size g uo uc j n co lo m (a2N Cf q) (List.replicate n 0) wz/\HX Z2 wz/\ExtX Z2 w7 wz/\Ext z wz) (fun _ jv _=>j - (intOf jv).toNat)
      case atStart=>exact⟨0,rfl,rfl,Nat.zero_le _,⟨w0,s4,y8⟩,H6,ExtX.refl _,H0⟩
      case round=>
       clear w0 s4 y8;obtain⟨q,rfl,rfl,hq,⟨bx,hC,hL⟩,c3,b7,a2⟩:=hrel;by_cases l5:q<j
       ·have D7:q<us.length:=by rw[p2.out];exact l5
        have o6:q<Cf.length:=by rw[i6.out];exact l5
        have kb:=d2.out q D7 wr a2;have a9:Hid (us.getD q false=us[q]):=hid (by simp[List.getD_eq_getElem?_getD,D7]);obtain⟨b1,k5⟩:=c1F (us[q]);rw[k5]at kb a9;have iu:=v9.out q l5;have g9:=b6H us q;obtain⟨k3,k4⟩:=a3.out q l5 o6;clear k5;cases b1
        ·have l7:=hid (b6G a9.out)
         have J7:=hid (b2a o6 (k4 a9.out));clear a9 k3 k4;obtain⟨r,hr⟩:=c1F (rkN us q);rw[hr]at l7 g9 |-;rw[<-J7.out]at hC;clear hr;go_wp2_with fail
         go_roundw
         case rel=>exact⟨q+1,by go_num,by rw[l7.out],by omega,⟨bx,hC,hL⟩,c3,b7,a2⟩
         case measure=>simp[intOf];omega
        ·have f7:=hid (b3X a9.out)
         obtain⟨m2,A9⟩:=k3 a9.out;have f6:=hid (a6P o6);have u9:=hid A9;obtain⟨r,hr⟩:=c1F (rkN us q);simp only[hr]at f7 g9 m2 u9 |-;have D8:r<m:=by rw[c9.out]at m2;exact m2
         obtain⟨ge,oe,s1,a1,n1,c1,d1,k1,e1,p9,H7,B2,o7⟩:=t7.rat QC.shaped r m2;rw[u9.out]at o7;obtain⟨v,hv⟩:=c1F (Cf[q]);rw[hv]at o7 f6;obtain⟨gt,ot,l3⟩:∃gt ot,adr co (q*3)=⟨gt,ot,none⟩:=⟨_,_,rfl⟩;have c4:=c1L wr;have G2:=bx.ext0 c4;obtain⟨z1,z2,z3⟩:=B2.out Z2 wr b7 H7;have hS:wr.drew.cell? ⟨g,2,none⟩=some (.slice co j j)/\wr.drew.cell? ⟨ge,oe,none⟩=some (.bool s1)/\wr.drew.cell? ⟨ge,oe+1,none⟩=some (.slice a1 n1 c1)/\wr.drew.cell? ⟨ge,oe+2,none⟩=some (.slice d1 k1 e1):=⟨G2.cell 2 rfl,c4.cell z1,c4.cell z2,c4.cell z3⟩;have i1:∀W,(Instr.indexAt 24 (.slice bo m bc) (.int .i64 (r:Int))).run Tryz.prog W=.ok (.pointer (some ⟨ge,oe,none⟩)) W:=by rw[<-p9];exact a0e a0x bo m bc .i64 r l4 D8
         have i2:∀W,(Instr.indexAt 24 (.slice co j j) (.int .i64 (q:Int))).run Tryz.prog W=.ok (.pointer (some ⟨gt,ot,none⟩)) W:=by rw[<-l3];exact a0e a0x co j j .i64 q C4 l5
         have F1:QC (mk (un (un Z1 lo) co) wr.drew) (.agg #[.bool s1,.slice a1 n1 c1,.slice d1 k1 e1]) v:=by
          have h9:=mkx QC.mono (QC.mono _ _ _ _ (a0s b7 fun _ h=>h) o7) c4;rw[<-f0,a0T]at h9;rw[a0T]
          first|exact h9|(rw[a0T];exact h9)|(refine QC.mono _ _ _ _ (a1a fun k _ E=>?_) h9;simpa[un,Bool.or_comm,Bool.or_assoc,Bool.or_left_comm]using E)
         have x1:=hC.ext0 QC.elem c4;have u3:q<(a2N Cf q).length:=by rw[a5t (by omega)];exact o6
         clear a9 k3 k4 A9 u9 hr B2 o7 p9 hv z1 z2 z3 m2;go_wp2_with fail
         (try simp only[Act.put])
         refine a0n 8 (fun D=>D.cell? ⟨g,2,none⟩=some (.slice co j j)/\D.cell? ⟨ge,oe,none⟩=some (.bool s1)/\D.cell? ⟨ge,oe+1,none⟩=some (.slice a1 n1 c1)/\D.cell? ⟨ge,oe+2,none⟩=some (.slice d1 k1 e1)) (by kernel_rfl) (by kernel_rfl) hS (fun A f=>?_);refine kt 0 f ?_;refine kt 1 f ?_;refine kt 2 f ?_;refine kt 3 f ?_;refine kt 4 f ?_;refine kt 5 f ?_;refine kt 6 f ?_;refine kt 7 f ?_;refine kl 8 (fun K J=>?_)
         (refine a4F rfl rfl a3C QC.elem q rfl l3 x1 u3 (.agg #[.bool s1,.slice a1 n1 c1,.slice d1 k1 e1]) v rfl F1 ?_;intro w9 m9 a8)
         refine J.out _ _ ?_;clear J K
         (try simp only[Act.put])
         rw[f6.out]at m9;have j5:=(ExtX.of c4).trans a8;have s3:=bx.ext j5 I4;have n0:=hL.ext QC.elem (Z:=un Z1 co) j5 (fun k _ E=>a0u E) (fun _ _ h=>h);have t5:HX Z2 w9:=fun k E=>c1C (c3 k E) j5.size;have j3:=b7.trans (j5.weaken fun k _ E=>by
          cases h0:ob co k
          ·rfl
          ·rw[I3 k h0]at E;cases E)
         have y5:Ext z w9:=a2.then_ j5 fun k E _=>hC.ob_lt E;clear A f hS i1 i2 F1 x1;go_wp2_with fail
         go_roundw
         case rel=>exact⟨q+1,by go_num,by rw[f7.out];go_num,by omega,⟨s3,m9,n0⟩,t5,j3,y5⟩
         case measure=>simp[intOf];omega
       ·have J4:q=j:=by omega
        subst J4;have n9:a2N Cf q=Cf:=by rw[<-i6.out];exact a5M Cf
        rw[n9]at hC;rw[<-B8.out]at hL;clear a3 t7 d2 n9;go_wp2_with fail
        go_loopw [24] (fun iv wz=>∃i:Nat,iv=.int .i64 i/\i<=n/\FS Z1 z.heap.size g uo uc q n co lo m Cf (a2N L i) wz/\HX Z2 wz/\ExtX Z2 w7 wz/\Ext z wz) (fun iv _=>n - (intOf iv).toNat)
        case atStart=>exact⟨0,rfl,Nat.zero_le _,⟨bx,hC,hL⟩,c3,b7,a2⟩
        case round=>
         clear bx hC hL c3 b7 a2;obtain⟨i,rfl,hi,⟨bx,hC,hL⟩,c3,b7,a2⟩:=hrel;by_cases o4:i<n
         ·have u7:i<U.length:=by rw[t1.out];exact o4
          have u6:i<L.length:=by rw[i4.out];exact o4
          obtain⟨ra,rc,A1,t8,B3,J5⟩:=D6.row i u7;have h7:RC (mk Z2 w7) (.slice ra U[i].length rc) U[i]:=⟨ra,rc,rfl,B3,J5⟩;have o8:=hid (c1E u7);have g2:=hid (H5.out U[i] o8.out);have s9:=j6.out i u7 u6;have f6:=hid (a6P u6);rw[g2.out]at t8 h7;obtain⟨row,E2⟩:=c1F (U[i]);rw[E2]at h7 g2 s9 o8;rw[s9]at f6;have K3:=t8.out Z2 wr b7 A1;have K4:∀W,(Instr.indexAt 23 (.slice po n pc) (.int .i64 (i:Int))).run Tryz.prog W=.ok (.pointer (some (adr po i))) W:=a0y a0o po n pc .i64 i I6 o4 rfl;have g3:=RC.mono _ _ _ _ (a0s b7 fun _ h=>h) h7;have C8:=MC.mono _ _ _ _ (a0s b7 fun _ h=>h) I7;have A5:=f1.out d7 Z2 wr iv _ row c3 C8 g3 g2.out (m3.out row o8.out);clear E2 s9 C8;go_wp2_with fail
          refine A5.mono ?_;rintro ee w8 ⟨e8,vv,rfl,F5⟩;clear A5;have c4:=c1L w8;have f8:=e8.trans c4;have x0:=bx.ext0 f8;have G8:=hC.ext0 QC.elem f8;have H4:=hL.ext0 QC.elem f8;have p8:=c3.ext f8;have p5:ExtX Z2 w7 w8.drew:=b7.trans (ExtX.of f8);have x4:=a2.trans f8;have v4:=mkx RC.mono g3 f8;have F6:=mkx RC.mono F5 c4;have u3:i<(a2N L i).length:=by rw[a5t (by omega)];exact u6
          obtain⟨gt,ot,l3⟩:∃gt ot,adr lo (i*3)=⟨gt,ot,none⟩:=⟨_,_,rfl⟩;have i2:∀W,(Instr.indexAt 24 (.slice lo n n) (.int .i64 (i:Int))).run Tryz.prog W=.ok (.pointer (some ⟨gt,ot,none⟩)) W:=by rw[<-l3];exact a0e a0x lo n n .i64 i C5 o4
          have hS:Hid (∀D,Ext w8.drew D->D.cell? ⟨g,7,none⟩=some (.slice lo n n)/\D.cell? (adr po i)=some (.slice ra m rc)):=hid fun D h=>⟨(x0.ext0 h).cell 7 rfl,t8.out Z2 D (p5.trans (ExtX.of h)) A1⟩;have B7:=g6.out Z2 w8.drew _ vv row p8 o8.out v4 F6;clear K3 g3 h7 F5 bx hC hL c3 b7 a2;go_wp2_with fail
          (try simp only[Act.put])
          refine a0n 10 (fun D=>D.cell? ⟨g,7,none⟩=some (.slice lo n n)/\D.cell? (adr po i)=some (.slice ra m rc)) (by kernel_rfl) (by kernel_rfl) (hS.out _ (ExtX.refl _)) (fun A f=>?_);refine kt 0 f ?_;refine kt 1 f ?_;refine kt 2 f ?_;refine kt 3 f ?_;refine kt 4 f ?_;refine kt 5 f ?_;refine kt 6 f ?_;refine kt 7 f ?_;refine ks 8 (fun K J=>?_);go_simp
          ((with_reducible refine B7.mono ?_);rintro ee w9 ⟨e9,dv,rfl,g1⟩)
          refine kcn J (hS.out _ e9) (fun A=>?_);clear J K;obtain⟨s6,a6,n6,c6,d6,k6,e6,rfl⟩:=g1.shape;have n0:=H4.ext0 QC.elem e9;have m9:=G8.ext0 QC.elem e9;have s3:=x0.ext0 e9;have x7:=x4.trans e9;have j3:ExtX Z2 w7 w9:=p5.trans (ExtX.of e9);have t5:=p8.ext e9;have g7:QC (mk (un (un Z1 co) lo) w9) (.agg #[.bool s6,.slice a6 n6 c6,.slice d6 k6 e6]) (a2S row (a2w I row)):=by rw[f0];exact g1
          refine kt 9 f ?_;refine kl 10 (fun K J=>?_)
          (refine a4F rfl rfl a3C QC.elem i rfl l3 n0 u3 (.agg #[.bool s6,.slice a6 n6 c6,.slice d6 k6 e6]) _ rfl g7 ?_;intro wq y9 j4)
          refine J.out _ _ ?_;clear J K
          (try simp only[Act.put])
          rw[f6.out]at y9;have G3:=s3.ext j4 J0;have G9:=m9.ext QC.elem (Z:=un Z1 lo) j4 (fun k _ E=>a0u E) (fun _ _ h=>h);have H8:HX Z2 wq:=fun k E=>c1C (t5 k E) j4.size;have y4:=j3.trans (j4.weaken fun k _ E=>by
           cases h0:ob lo k
           ·rfl
           ·rw[I9 k h0]at E;cases E)
          have y6:Ext z wq:=x7.then_ j4 fun k E _=>n0.ob_lt E;clear A f hS i2 B7 g1 g7;go_wp2_with fail
          go_roundw
          case rel=>exact⟨i+1,by go_num,by omega,⟨G3,G9,y9⟩,H8,y4,y6⟩
          case measure=>simp[intOf];omega
         ·have f2:i=n:=by omega
          subst f2;have n9:a2N L i=L:=by rw[<-i4.out];exact a5M L
          rw[n9]at hL;go_wp2_with fail
          go_meet
          case rel=>exact⟨⟨bx,hC,hL⟩,c3,a2⟩
    case rest=>
     obtain⟨⟨bx,hC,hL⟩,c3,a2⟩:=hcut;clear l9 l0 i8 a3 c7 f1 i9 o9 f2 o5 g6 o3 m3 j6 d2 v9 p0;obtain⟨Z3,k0⟩:=c1F (un Z1 lo);obtain⟨Z4,n4⟩:=c1F (un Z1 co);have m8:∀k,Z3 k=true->Z2 k=true:=fun k E=>by
      rw[<-k0]at E;rw[<-f0];rcases(by simpa[un]using E:Z1 k=true\/ob lo k=true)with h|h
      ·exact a0j (a0j h)
      ·exact a0u h
     have o0:∀k,ob (some ⟨g,0,none⟩) k=true->Z3 k=true:=fun k E=>by rw[<-k0];exact a0j (l1 k E)
     have C0:∀k,ob (some ⟨g,0,none⟩) k=true->Z4 k=true:=fun k E=>by rw[<-n4];exact a0j (l1 k E)
     have i5:HX Z3 wc:=fun k E=>c3 k (m8 k E);have s5:=hC.sl QC.elem;have t0:=hL.sl QC.elem;rw[k0]at s5;rw[n4]at t0;have B4:RC (mk Z3 wc) (.slice co j j) Cf:=⟨co,j,by rw[i6.out],by rw[i6.out];exact c1B _,s5⟩;have J1:RC (mk Z4 wc) (.slice lo n n) L:=⟨lo,n,by rw[i4.out],by rw[i4.out];exact c1B _,t0⟩;have K2:=MV.mono _ _ _ _ (a1a fun k _ E=>m8 k E) (F0.out wc a2);have J9:=RV.mono _ _ _ _ (a1a fun k _ E=>m8 k E) (E5.out wc a2);have F3:=(s0.out wc a2).mono BlR.mono (a1a (X:=Z3) fun k _ E=>m8 k E);have A8:b≠g:=by have:=f9.size;omega
     have F8:w.heap.size<=g:=by have:=f9.size;omega
     have q2:=bx.cell 2 rfl;clear s5 t0 hC hL;go_wp2_with fail
     refine(j0.out Z3 wc _ i5 K2 J9 B4).mono ?_;rintro ee w2 ⟨e2,rv,rfl,E0⟩;have m4:=hid E0;obtain⟨ro,rc,rfl,J6,D9⟩:=E0;rw[g2.out]at m4 J6 |-;have G0:=bx.ext0 e2;have b2:=b0.ext0 (f9.trans (a2.trans e2));have z7:=i5.ext e2;clear q2 D9 bx j0;go_wp2_with ((show wpList _ _ _ (⟨_,.store _ _ _,_,_,_,_⟩::_) _ _);refine a1G (v:= .slice ro n rc) a8W rfl rfl rfl rfl G0 (by simp) ?_;intro w3 v3 x3;have q3:=v3.cell 3 rfl)
     have z8:HX Z3 w3:=fun k E=>c1C (z7 k E) x3.size;have b3:=b2.ext x3 (a0b A8);have E1:=RC.mono _ _ _ _ (a0s x3 o0) m4.out;have B6:=u1.out Z3 w3 _ z8 E1;refine B6.mono ?_;rintro ee w4 ⟨e4,dv,rfl,g1⟩;have g7:=hid g1;obtain⟨s',a',n',c',d',k',e',rfl⟩:=g1.shape;have G1:=v3.ext0 e4;have b4:=b3.ext0 e4;clear q3 B6 v3 g1 b0 b2 b3;go_wp2_with ((show wpList _ _ _ (⟨_,.store _ _ _,_,_,_,_⟩::_) _ _);first|(refine a0a a1n rfl rfl bb rfl rfl (by intro v hv;simp at hv;rcases hv with rfl|rfl|rfl|rfl|rfl|rfl|rfl|rfl<;>rfl) ?_;intro w6 v6 x6)|(refine a6Q a0p rfl rfl G1 (by simp) rfl (by intro v hv;simp at hv;rcases hv with rfl|rfl|rfl<;>rfl) ?_;intro w5 v5 x5;have bb:=b4.ext x5 (a0b A8);have q0:=v5.cell 0 rfl;have q1:=v5.cell 1 rfl;have q2:=v5.cell 2 rfl;have q3:=v5.cell 3 rfl;have q4:=v5.cell 4 rfl;have q5:=v5.cell 5 rfl;have q6:=v5.cell 6 rfl;have q7:=v5.cell 7 rfl))
     have H2:Ext w w5:=ExtX.box ((ExtX.box (hE.trans (f9.trans (a2.trans e2))) x3 F8).trans e4) x5 F8;have n8:Le (mk Z3 w5) (mk X w6):=a4k x6 (fun k E=>by rw[<-k0];exact a0j (A6.out k E)) (fun k E=>by rw[<-k0];exact a0j (z9.out k E));have I5:Le (mk Z4 w5) (mk X w6):=a4k x6 (fun k E=>by rw[<-n4];exact a0j (A6.out k E)) (fun k E=>by rw[<-n4];exact a0j (z9.out k E));have D3:Le (mk Z3 w3) (mk Z3 w5):=(a0k e4).trans (a0s x5 o0);have r2:Le (mk Z3 w2) (mk Z3 w5):=(a0s x3 o0).trans D3;have D4:Le (mk Z4 wc) (mk Z4 w5):=(a0k e2).trans ((a0s x3 C0).trans ((a0k e4).trans (a0s x5 C0)));have r3:Le (mk Z3 wc) (mk Z3 w5):=(a0k e2).trans r2;exact bodyPost_ret (a0C rfl rfl a1n v6 rfl) rfl (b6.out _ _ _ _ _ _ _ _ _ _ _ _ _ _ _ _ (ExtX.box H2 x6 I1) K1 (F3.mono BlR.mono (r3.trans n8)) (RC.mono _ _ _ _ (r3.trans n8) B4) (RC.mono _ _ _ _ (r2.trans n8) m4.out) (QC.mono _ _ _ _ ((a0s x5 o0).trans n8) g7.out) (RC.mono _ _ _ _ (D4.trans I5) J1))
end Go.Proofs.YtjmnhbebpffoaaaGreat
