/- Parts of a proof: each theorem states what it proves, and its conditions. -/
import Derived.Test.YtnnpfhoigmegcaaGreatBkM
import Derived.Test.YtnnpfhoigmegcaaGreatRows
import Derived.WalkKit
import Derived.JoinedOf
set_option maxRecDepth 100000
set_option maxHeartbeats 3200000
namespace Go.Rep
open Go.RowKit Go.Lim
theorem b0j{m:List (List a5f)}{r c:Nat}(h:Go.Proofs.YtnnpfhoigmegcaaGreat.lightM m r c=true):m.length<=r/\∀x∈m,x.length<=c/\∀q∈x,Few 8 q:=by
 have a:=of_decide_eq_true h;exact⟨a.1,fun x hx=>of_decide_eq_true (a.2 x hx)⟩
theorem Few.bigP{x:a5f}(h:Few 8 x):Few 68719476736 x:=⟨Nat.le_trans h.1 (by decide),Nat.le_trans h.2 (by decide)⟩
end Go.Rep
namespace Go.Proofs.YtnnpfhoigmegcaaGreat
open Go.RowKit Go.Rep Go.Lim Go.Lin
theorem b0k:SliceT Tryz.prog 62 25 1 24 (.slice none 0 0):=⟨Tryz.underlying62,by kernel_rfl⟩
theorem b0l(X:Nat->Bool)(w:World)(u v:Value)(p q:Mat)(t:TypeId)(hX:HX X w)(h1:MV (mk X w) u p)(h2:MV (mk X w) v q):Sl (SlV RV 1) 1 (mk X (w.alloc (.cells #[u,v] t))) (some ⟨w.heap.size,0,none⟩) [p,q]:=by
 have c1:u.cells=#[u]:=by obtain⟨_,_,rfl,_⟩:=h1;rfl
 have c2:v.cells=#[v]:=by obtain⟨_,_,rfl,_⟩:=h2;rfl
 exact(OL.lit (SlV.elem RV.elem) hX (Nat.le_refl _) [u,v] [p,q] _ (by simp[a0g,c1,c2]) rfl (fun i hi hi'=>by
  match i,hi,hi' with
  |0,_,_=>exact h1
  |1,_,_=>exact h2) (by simp)).sl (SlV.elem RV.elem)
theorem b0H(lo:Option Addr)(l:List Int)(cl:Nat)(ua:Value)(ra:List (List a5f))(h:Int)(w:World)(hl:Sl (a0v .i64) 1 w.cell? lo l)(g5:l.length<=cl)(h3:l.length<=9223372036854775807)(a8:MR (mk noY w) ua ra)(i3: -9223372036854775808<=h)(i4:h<=9223372036854775807):Calls Tryz.prog 9 #[.slice lo l.length cl,ua, .int .i64 h] w (a8n w true):=by
 have l1:=a5x noY w ua ra 200 200 a8 (by decide) (by decide);cases h1:lightM ra 200 200
 ·rw[h1]at l1
  clear h1;go_enter Tryz.func9,Tryz.ntmps9
  go_wp2_with fail
  refine l1.mono ?_;rintro e w1 ⟨G,rfl⟩;clear l1;go_wp2_with fail
  refine(a1y w1).mono ?_;rintro e Z ⟨z,rfl⟩;go_wp2_with fail
  go_ret
  exact⟨G.trans z,rfl⟩
 rw[h1]at l1;obtain⟨n1,f1⟩:=b0j h1;have e4:=a8.mv (fun r hr x hx=>((f1 r hr).2 x hx).bigP);have ba:=a8.bm (fun r hr=>(f1 r hr).2) (by decide);obtain⟨f,d2⟩:∃f,b4s ra=f:=⟨_,rfl⟩;rw[d2]at e4 ba;obtain⟨aa,ca,rfl,d8,a5⟩:=e4;have K:Hid (f.length=0->a0n f=0):=hid fun h=>by
  obtain rfl:f= []:=List.eq_nil_of_length_eq_zero h;rfl
 have u:=hid (fun(h:0<f.length)=>(by
  obtain⟨g,n,_,I,_,_⟩:=a5.row 0 h;rw[<-a1x h]at I;exact⟨g,n,fun a hw=>I.out noY a hw rfl⟩:∃g n,∀a,Ext w a->a.cell? (adr aa 0)=some (.slice g (a0n f) n)))
 have g7:=a5.hd;obtain⟨q,S⟩:∃q,f.length=q:=⟨_,rfl⟩;obtain⟨cc,J⟩:∃cc,a0n f=cc:=⟨_,rfl⟩;have a9:Hid (MV (mk noY w) (.slice aa q ca) f):=hid ⟨aa,ca,by rw[S],d8,a5⟩;have e7:=hid S;rw[S,J]at u K;rw[S]at l1 d8 g7 |-;clear h1 f1 n1 a8 d2 a5 S J;go_enter Tryz.func9,Tryz.ntmps9
 go_wp2_with fail
 refine l1.mono ?_;rintro e v3 ⟨B,rfl⟩;clear l1;have t:6<q\/(q<=6/\0<q/\6<cc)\/(¬0<q/\q<=6)\/(q<=6/\0<q/\cc<=6):=by
  have:=K.out;omega
 clear K;have e3:Sl (a0v .i64) 1 v3.cell? lo l:=by
  rw[<-a3k]at hl |-;exact hl.mono (a0v.mono _) (a0l B)
 have a7:=hid (a9P lo l cl v3 e3 g5 h3);have c9:Hid (MV (mk noY v3) (.slice aa q ca) f):=hid (mkx MV.mono a9.out B);have b8:=hid (fun(h:0<q)=>(by
  obtain⟨g,n,h2⟩:=u.out h;exact⟨g,n,h2 v3 B⟩:∃g n,v3.cell? (adr aa 0)=some (.slice g cc n)))
 clear u a9 e3 hl;rcases t with hc|⟨b6,a3,g4⟩|⟨a3,b6⟩|⟨b6,a3,g4⟩
 ·clear a7
  go_wp2_with fail
  refine(a1y v3).mono ?_;rintro e w4 ⟨b,rfl⟩;go_wp2_with fail
  go_ret
  exact⟨B.trans b,rfl⟩
 ·obtain⟨g,n,k0⟩:=b8.out a3
  clear a7;go_wp2_with (with_reducible refine a0m a0q (by omega) (by assumption) ?_)
  refine(a1y v3).mono ?_;rintro e w4 ⟨b,rfl⟩;clear k0;go_wp2_with fail
  go_ret
  exact⟨B.trans b,rfl⟩
 case' inr.inr.inl=>
  have d0:¬(0:Int)<(q:Int):=by omega
 case' inr.inr.inr=>
  obtain⟨g,n,k0⟩:=b8.out a3
 all_goals
  go_wp2_with (with_reducible refine a0m a0q (by omega) (by assumption) ?_)
  refine a7.out.mono ?_;rintro e w1 ⟨rfl,G,a6,e9⟩
  (try clear k0)
  obtain⟨d,E⟩:∃d,v3.heap.size=d:=⟨_,rfl⟩;have a2:HX (tbm d) w1:=fun k hk=>by
   have:k=d:=by simpa[tbm]using hk
   omega
  have d9:=hid (fun Z (h:ExtX (tbm d) w1 Z)=>(B.trans (G.then_ h fun i hi _=>a2Q (by omega)):Ext w Z));have b4:Hid (MV (mk (tbm d) w1) (.slice aa q ca) f):=hid (MV.mono _ _ _ _ (a0T G (fun k _ hk=>by simp[noY]at hk) fun k hk hz=>by
   have:k=d:=by simpa[tbm]using hz
   omega) c9.out)
  have d3:Hid (f.length<=6):=hid (by rw[e7.out];exact b6);rw[E]at a6 |-;obtain⟨X,hX⟩:∃X,tbm d=X:=⟨_,rfl⟩;have c:∀k,tbm d k=true->X k=true:=fun k hk=>by rw[<-hX];exact hk
  rw[hX]at a6 a2 b4;clear G e9 E hX a7 c9 b8;have b7:=a5v X d 7 w1 a6 a2 (by decide) (by decide);rw[show((7:Nat):Int)=7 from rfl]at b7;go_wp2_with fail
  refine b7.mono ?_;rintro e Z ⟨z,f0,vx,p,rfl,hp,h6,e8⟩;obtain⟨vo,vc,i1,_,_⟩:=id hp;subst i1;have b5:=a2.ext z;have c6:=MV.mono _ _ _ _ (a0r z c) b4.out;have H:=b0l X Z _ _ p f 25 b5 hp c6;have F:Ext Z (Z.alloc (.cells #[.slice vo p.length vc, .slice aa q ca] 25)):=(ExtX.refl _).alloc _;have c5:Hid (∀m∈[p,f],m.length<=8/\BM 8 m):=hid fun m hm=>by
   rcases List.mem_cons.1 hm with rfl|hm
   ·exact⟨by omega,e8⟩
   ·obtain rfl:=List.mem_singleton.1 hm
    exact⟨by have:=d3.out;omega,ba⟩
  have b3:([p,f]:List Mat).length=2:=rfl;have g6:Hd (some ⟨Z.heap.size,0,none⟩) 2:=H.hd;obtain⟨L,hL⟩:∃L,[p,f]=L:=⟨_,rfl⟩;rw[hL]at H c5 b3;have c4:=hid b3;clear b7 hL hp c6 b4 h6 e8 d3 b3;go_wp2_with fail
  obtain⟨ga,e0⟩:∃ga:Option Addr,some ⟨Z.heap.size,0,none⟩=ga:=⟨_,rfl⟩;obtain⟨w3,f6⟩:∃w3,Z.alloc (.cells #[.slice vo p.length vc, .slice aa q ca] 25)=w3:=⟨_,rfl⟩;rw[e0]at H g6 |-;rw[f6]at H F |-;have h7:=f0.ext F;have g3:=b5.ext F;have f9:=hid (z.trans (.of F));clear e0 f6 F f0 b5 z a2 a6;go_loopw [47] (fun s wr=>∃i:Nat,s= .int .i64 i/\i<=2/\a0C X d wr/\ExtX (tbm d) w3 wr) (fun s _=>2 - (intOf s).toNat)
  case atStart=>exact⟨0,rfl,by decide,h7,ExtX.refl _⟩
  case round=>
   obtain⟨i,rfl,hi,f5,hE⟩:=hrel;obtain⟨y,i2⟩:∃y,y=wr:=⟨_,rfl⟩;subst i2;have C:=g3.ext hE;by_cases h5:i<2
   ·have g9:i<L.length:=by rw[c4.out];exact h5
    obtain⟨so,sc,f3,c1,W⟩:=(H.mono (SlV.mono RV.mono 1) (a0r hE c)).slice i g9;obtain⟨O,D⟩:=c5.out L[i] (List.getElem_mem _);obtain⟨m,hm⟩:∃m,L[i]=m:=⟨_,rfl⟩;rw[hm]at f3 c1 W O D;have R:MV (mk X y) (.slice so m.length sc) m:=⟨so,sc,rfl,c1,W⟩;have o:=hid (fun(h:0<m.length)=>(by
     obtain⟨g,n,_,I,_,_⟩:=W.row 0 h;rw[<-a1x h]at I;exact⟨g,n,I.out noY y (ExtX.refl _) rfl⟩:∃g n,y.cell? (adr so 0)=some (.slice g (a0n m) n)))
    have g8:=W.hd;have U:=hid fun a (h:ExtX (tbm d) y a)=>b2j X a _ m 8 (C.ext h) (MV.mono _ _ _ _ (a0r h c) R) (by omega) D (by decide) (by decide);have V:=hid fun a (h:ExtX (tbm d) y a)=>a9V X a _ m 8 (C.ext h) (MV.mono _ _ _ _ (a0r h c) R) O D (by decide) (by decide);have E:=hid fun a k (h:ExtX (tbm d) y a) (h1: -9223372036854775808<=k) (h2:k<=9223372036854775807)=>b8E X a _ m k 8 (C.ext h) (MV.mono _ _ _ _ (a0r h c) R) O D (by decide) (by decide) h1 h2;have Y:=hid fun a k (h:ExtX (tbm d) y a) (h1: -9223372036854775808<=k) (h2:k<=9223372036854775807)=>b6y X a _ m k 8 (C.ext h) (MV.mono _ _ _ _ (a0r h c) R) O D (by decide) (by decide) h1 h2;obtain⟨mn,a4⟩:∃mn,m.length=mn:=⟨_,rfl⟩;obtain⟨mc,e6⟩:∃mc,a0n m=mc:=⟨_,rfl⟩;rw[a4]at f3 O g8 c1;rw[a4,e6]at o;rw[a4]at U V E Y;obtain⟨P,hP⟩:∃P,(plN m:Int)=P:=⟨_,rfl⟩;obtain⟨Pe,d1⟩:∃P,plE m=P:=⟨_,rfl⟩;rw[hP,d1]at U V;clear a4 e6 hP d1 hm R W D;by_cases hc:0<mn/\6<mc
    ·obtain⟨g1,g2⟩:=hc
     obtain⟨g,n,k0⟩:=o.out g1;clear o U V E Y;go_wp2_with (first|(with_reducible refine a0m b0k (by omega) (by assumption) ?_)|(with_reducible refine a0m a0q (by omega) (by assumption) ?_))
     go_roundw
     case rel=>exact⟨i+1,by go_num,by omega,f5,hE⟩
     case measure=>simp[intOf];omega
    ·have t:(∃g n,y.cell? (adr so 0)=some (.slice g mc n))/\0<mn/\mc<=6\/mn=0:=by
      by_cases g1:0<mn
      ·exact Or.inl ⟨o.out g1,g1,by omega⟩
      ·exact Or.inr (by omega)
     clear o hc;rcases t with⟨⟨g,n,k0⟩,g1,g2⟩|rfl
     all_goals
      go_wp2_with (first|(with_reducible refine a0m b0k (by omega) (by assumption) ?_)|(with_reducible refine a0m a0q (by omega) (by assumption) ?_))
      refine(U.out y (ExtX.refl _)).mono ?_;rintro e w4 ⟨b,rfl⟩
      (try clear k0)
      clear f3;go_wp2_with fail
      refine(V.out w4 (.of b)).mono ?_;rintro e w5 ⟨b0,rfl⟩;have a1:ExtX (tbm d) y w5:= .of (b.trans b0);have f2:=f5.ext (b.trans b0);clear U V;go_wp2_with fail
      refine(a8f X d _ w5 f2 (C.ext a1) (by omega) (by omega)).mono ?_;rintro e w6 ⟨b1,f4,v,rfl,h9,i0⟩;have d5:=C.ext (a1.trans b1);obtain⟨M,hM⟩:∃M:List Int,[v,h]=M:=⟨_,rfl⟩;have c7:M.length=2:=by rw[<-hM];rfl
      have g0:=hid (show∀x∈M,-9223372036854775808<=x/\x<=9223372036854775807 from fun x hx=>by
       subst hM;simp only[List.mem_cons,List.not_mem_nil,or_false]at hx;rcases hx with rfl|rfl<;>omega)
      have N:=(b2f X w6 [v,h] 3 #[.int .i64 v, .int .i64 h] rfl d5 (by simp)).sl (a0v.elem .i64);have hA:Ext w6 (w6.alloc (.cells #[.int .i64 v, .int .i64 h] 3)):=(ExtX.refl _).alloc _;have c3:=hid (a1.trans b1);have e2:Hd (some ⟨w6.heap.size,0,none⟩) 2:=N.hd;rw[hM]at N;have c8:=hid c7;clear hM b b0 b1 f2 d5 h9 i0 c7 a1;go_wp2_with fail
      obtain⟨gb,e1⟩:∃gb:Option Addr,some ⟨w6.heap.size,0,none⟩=gb:=⟨_,rfl⟩;obtain⟨w7,f7⟩:∃w7,w6.alloc (.cells #[.int .i64 v, .int .i64 h] 3)=w7:=⟨_,rfl⟩;rw[e1]at N e2 |-;rw[f7]at N hA |-;have b2:=hid (c3.out.trans (.of hA));have h8:=f4.ext hA;clear e1 f7 c3 f4;go_loopw [86] (fun s wq=>∃j:Nat,s= .int .i64 j/\j<=2/\Ext w7 wq) (fun s _=>2 - (intOf s).toNat)
      case atStart=>exact⟨0,rfl,by decide,ExtX.refl _⟩
      case round=>
       obtain⟨j,rfl,hj,A⟩:=hrel;by_cases h4:j<2
       ·have h0:j<M.length:=by rw[c8.out];exact h4
        have J:=(N.mono (a0v.mono _) (a0l A)).int j h0;obtain⟨q1,q2⟩:=g0.out M[j] (List.getElem_mem _);obtain⟨Q,hQ⟩:∃Q,M[j]=Q:=⟨_,rfl⟩;rw[hQ]at J q1 q2;have d6:=hid fun a (h:ExtX (tbm d) y a)=>E.out a Q h q1 q2;have d7:=hid fun a (h:ExtX (tbm d) y a)=>Y.out a Q h q1 q2;obtain⟨T,hT⟩:∃T,b6x m Q=T:=⟨_,rfl⟩;obtain⟨Te,d4⟩:∃T,b2P m Q=T:=⟨_,rfl⟩;rw[hT,d4]at d6 d7;clear hQ hT d4;go_wp2_with (with_reducible refine a0m a2b (by omega) (by assumption) ?_)
        refine(d6.out _ (b2.out.trans (.of A))).mono ?_;rintro e w8 ⟨c2,rfl⟩;clear J;go_wp2_with fail
        refine(d7.out _ (b2.out.trans (.of (A.trans c2)))).mono ?_;rintro e w9 ⟨f8,rfl⟩;go_wp2_with fail
        go_roundw
        case rel=>exact⟨j+1,by go_num,by omega,A.trans (c2.trans f8)⟩
        case measure=>simp[intOf];omega
       ·go_wp2_with fail
        go_roundw
        case rel=>exact⟨i+1,by go_num,by omega,h8.ext A,hE.trans (b2.out.trans (.of A))⟩
        case measure=>simp[intOf];omega
   ·have b9:=a1y y
    go_wp2_with fail
    refine b9.mono ?_;rintro e w4 ⟨b,rfl⟩;go_wp2_with fail
    go_ret
    exact⟨d9.out _ (f9.out.trans (hE.trans (.of b))),rfl⟩
theorem b6L(X:Nat->Bool)(w:World)(u v:Value)(x y:Rat)(R:HX X w)(j:QV (mk X w) u x)(k:QV (mk X w) v y)(f:hq (x - y)<=68719476736):Calls Tryz.prog 191 #[u,v] w (a8n w (decide (x<y))):=by
 have V:=hid j.hq;have Y:=hid k.hq;obtain⟨O,A,M,D,F,K,H,rfl⟩:=j.shape;obtain⟨P,C,N,E,G,L,I,rfl⟩:=k.shape;obtain⟨W,hW,l,g,i,hz⟩:=a1a w #[.bool O, .slice A M D, .slice F K H] #[.bool P, .slice C N E, .slice G L I] 41 41;have a:HX (a0e X w.heap.size 2) W:=R.boxes hz;have c:=QV.mono _ _ _ _ (a0i (nb:=2) l) j;have d:=QV.mono _ _ _ _ (a0i (nb:=2) l) k;obtain⟨b,T⟩:∃b,w.heap.size=b:=⟨_,rfl⟩;have U:w.heap.size<=b:=by omega
 rw[T]at g i hz a c d;have Q:Ext W W.drew:=(ExtX.refl W).drew;have S:HX (a0e X b 2) W.drew:=a;have Z:QV (mk (a0e X b 2) W.drew) (.agg #[.bool O, .slice A M D, .slice F K H]) x:=c;have a0:QV (mk (a0e X b 2) W.drew) (.agg #[.bool P, .slice C N E, .slice G L I]) y:=d;have o:=g.cell 0 rfl;have p:=g.cell 1 rfl;have q:=g.cell 2 rfl;have r:=i.cell 0 rfl;have s:=i.cell 1 rfl;have t:=i.cell 2 rfl;clear j k;have n:=a5W (a0e X b 2) W _ _ x y a c d f;have hd:Hid (decide ((x - y).num.sign<0)=decide (x<y)):=hid (by
  rw[Bool.eq_iff_iff];simp only[decide_eq_true_eq];rw[a5w];constructor<;>intro h<;>grind)
 obtain⟨z,hz⟩:∃z,(x - y).num.sign=z:=⟨_,rfl⟩;obtain⟨B,J⟩:∃B,decide (x<y)=B:=⟨_,rfl⟩;rw[hz]at n hd;rw[J]at hd |-;clear hz J f;go_enter Tryz.func191,Tryz.ntmps191
 go_wp2_with fail
 refine n.mono ?_;rintro e w5 ⟨m,rfl⟩;clear o p q r s t n;go_wp2_with fail
 go_ret
 exact⟨l.trans m,congrArg (fun b=>Ending.returned (.bool b)) hd.out⟩
theorem b8J(X:Nat->Bool)(w:World)(u v:Value)(x y:Rat)(hX:HX X w)(s:QV (mk X w) u x)(t:QV (mk X w) v y)(n:hq (x - y)<=68719476736):Calls Tryz.prog 112 #[u,v] w (a1F X w QC (a4H x y)):=by
 have a4:=hid s.hq;have a5:=hid t.hq;obtain⟨Y,K,U,M,O,S,Q,rfl⟩:=s.shape;obtain⟨Z,L,V,N,P,T,R,rfl⟩:=t.shape;obtain⟨W,hW,r,l,m,z,hz⟩:=a1P w #[.bool Y, .slice K U M, .slice O S Q] #[.bool Z, .slice L V N, .slice P T R] #[.bool false, .slice none 0 0, .slice none 0 0] 41 41 41;have a:HX (a0e X w.heap.size 3) W:=hX.boxes hz;have c:=QV.mono _ _ _ _ (a0i (nb:=3) r) s;have e:=QV.mono _ _ _ _ (a0i (nb:=3) r) t;obtain⟨b,hb⟩:∃b,w.heap.size=b:=⟨_,rfl⟩;have a0:w.heap.size<=b:=by omega
 rw[hb]at l m z hz a c e;have C:Ext W W.drew:=(ExtX.refl W).drew;have D:HX (a0e X b 3) W.drew:=a;have G:QV (mk (a0e X b 3) W.drew) (.agg #[.bool Y, .slice K U M, .slice O S Q]) x:=c;have H:QV (mk (a0e X b 3) W.drew) (.agg #[.bool Z, .slice L V N, .slice P T R]) y:=e;have a6:=l.cell 0 rfl;have a7:=l.cell 1 rfl;have a8:=l.cell 2 rfl;have a9:=m.cell 0 rfl;have b3:=m.cell 1 rfl;have b4:=m.cell 2 rfl;clear s t;have f:=b6L (a0e X b 3) W _ _ x y a c e n;have E:=hid fun q (h:Ext W q)=>a3l (a0e X b 3) q _ x (a.ext h) (mkx QV.mono c h);have F:=hid fun q (h:Ext W q)=>a3l (a0e X b 3) q _ y (a.ext h) (mkx QV.mono e h);clear C D G H c e n;by_cases h:x<y
 ·rw[decide_eq_true h]at f
  rw[show a4H x y=y by unfold a4H;rw[if_pos h]];clear h;go_enter Tryz.func112,Tryz.ntmps112
  go_wp2_with (first|(go_at_call 191;refine f.mono ?_;rintro A J ⟨g,rfl⟩;have j:=m.ext0 g;have b8:=j.cell 0 rfl;have b9:=j.cell 1 rfl;have c0:=j.cell 2 rfl)|(go_at_call 118;(with_reducible refine(F.out J g).mono ?_);rintro A w6 ⟨p,u2,rfl,d⟩;obtain⟨s3,a3,n3,c3,d3,k3,e3,rfl⟩:=d.shape;have k:=z.ext0 (g.trans p))|((with_reducible show wpList _ _ _ (⟨_, .store _ _ _,_,_,_,_⟩::_) _ _);refine a0a a0k rfl rfl k rfl rfl (a1n _ _ _ _ _ _ _) ?_;intro w7 I o))
  have B:=QC.mono _ _ _ _ a0h (QC.mono _ _ _ _ (a0f o (by omega) (by omega)) d);exact bodyPost_ret (a0d rfl rfl a0k I rfl) rfl ⟨ExtX.box (r.trans (g.trans p)) o (by omega),_,rfl,B⟩
 ·rw[decide_eq_false h]at f
  rw[show a4H x y=x by unfold a4H;rw[if_neg h]];clear h;go_enter Tryz.func112,Tryz.ntmps112
  go_wp2_with (first|(go_at_call 191;refine f.mono ?_;rintro A J ⟨g,rfl⟩;have i:=l.ext0 g;have b5:=i.cell 0 rfl;have b6:=i.cell 1 rfl;have b7:=i.cell 2 rfl)|(go_at_call 118;(with_reducible refine(E.out J g).mono ?_);rintro A w6 ⟨p,u2,rfl,d⟩;obtain⟨s3,a3,n3,c3,d3,k3,e3,rfl⟩:=d.shape;have k:=z.ext0 (g.trans p))|((with_reducible show wpList _ _ _ (⟨_, .store _ _ _,_,_,_,_⟩::_) _ _);refine a0a a0k rfl rfl k rfl rfl (a1n _ _ _ _ _ _ _) ?_;intro w7 I o))
  have B:=QC.mono _ _ _ _ a0h (QC.mono _ _ _ _ (a0f o (by omega) (by omega)) d);exact bodyPost_ret (a0d rfl rfl a0k I rfl) rfl ⟨ExtX.box (r.trans (g.trans p)) o (by omega),_,rfl,B⟩
theorem b5b(X:Nat->Bool)(w:World)(u:Value)(l:List Rat)(hX:HX X w)(hu:RV (mk X w) u l)(hn:l.length<=1000000)(r:∀k,k<=l.length->hq (sm k (fn l))<=68719476736):Calls Tryz.prog 193 #[u] w (a1F X w QC (sm l.length (fn l))):=by
 obtain⟨ao,ca,rfl,Z,J⟩:=hu;have a0:=J.hd;obtain⟨W,hW,hE,A,o,hz⟩:=a1a w #[.bool false, .slice none 0 0, .slice none 0 0] #[.bool false, .slice none 0 0, .slice none 0 0] 41 41;have E:HX (a0e X w.heap.size 2) W:=hX.boxes hz;have h0:QC (mk (a0e X w.heap.size 2) W) (.agg #[.bool false, .slice none 0 0, .slice none 0 0]) (sm 0 (fn l)):=QC.zero _;obtain⟨n,t⟩:∃n,l.length=n:=⟨_,rfl⟩;rw[t]at hn r Z a0 |-;have f:=hid t;have G:=hid r;clear t r;go_enter Tryz.func193,Tryz.ntmps193
 go_wp2_with fail
 obtain⟨b,hb⟩:∃b,w.heap.size=b:=⟨_,rfl⟩;have a2:Hid (∀wr,Ext w wr->Le (mk X w) (mk (a0e X b 2) wr)):=hid fun wr h=>by rw[<-hb];exact a0i h
 have b5:w.heap.size<=b:=by omega
 rw[hb]at A o E h0 |-;clear hW;go_loopw [8] (fun k wr=>∃(i:Nat) (s:Bool) (a:Option Addr) (O B:Nat) (d:Option Addr) (N e:Nat),k= .int .i64 i/\i<=n/\Bx wr b #[.bool false, .slice none 0 0, .slice none 0 0] 41/\Bx wr (b+1) #[.bool s, .slice a O B, .slice d N e] 41/\QC (mk (a0e X b 2) wr) (.agg #[.bool s, .slice a O B, .slice d N e]) (sm i (fn l))/\HX (a0e X b 2) wr/\Ext w wr) (fun k _=>n - (intOf k).toNat)
 case atStart=>exact⟨0,_,_,_,_,_,_,_,rfl,Nat.zero_le _,A,o,h0,E,hE⟩
 case round=>
  obtain⟨i,s,a,O,B,d,N,e,rfl,hi,A,o,hq,Y,q⟩:=hrel;by_cases a3:i<n
  ·have I:i<l.length:=by rw[f.out];exact a3
   have a6:=J.mono QV.mono (a2.out wr q);have gl:Hid (fn l i=l[i]):=hid (by simp[fn,List.getD_eq_getElem?_getD,I]);have m:Hid (sm i (fn l)+l[i]=sm (i+1) (fn l)):=hid (by rw[<-gl.out];rfl);have H:=hid (G.out i hi);obtain⟨x,hx⟩:∃x,l[i]=x:=⟨_,rfl⟩;rw[hx]at m;have a8:=hid hx;have bx:=Bx.new wr #[.bool false, .slice none 0 0, .slice none 0 0] 41;obtain⟨D,hD⟩:∃D,sm i (fn l)=D:=⟨_,rfl⟩;obtain⟨D2,p⟩:∃D2,sm (i+1) (fn l)=D2:=⟨_,rfl⟩;rw[hD]at hq m H;rw[p]at m;have C:=hid p;clear hx hD p;go_wp2_with (first|(with_reducible refine a1D a0J (by omega) (by assumption) ?_)|((with_reducible show wpList _ _ _ (⟨_, .load 41 _,_,_,_,_⟩::_) _ _);refine a0W a0k i a6 I rfl (by simp) QV.agg ?_;intro u5 v;rw[a8.out]at v;obtain⟨s5,a5,n5,c5,d5,k5,e5,rfl⟩:=v.shape)|((with_reducible show wpList _ _ _ (⟨_, .store _ _ _,_,_,_,_⟩::_) _ _);refine a0a a0k rfl rfl bx rfl rfl (a1n _ _ _ _ _ _ _) ?_;intro g z P;have c:Ext wr g:=ExtX.box ((ExtX.refl wr).alloc _) P (Nat.le_refl _);have j:=o.ext0 c;have K:g.cell? ⟨b+1,0,none⟩=some (.bool s):=j.cell 0 rfl;have L:g.cell? ⟨b+1,1,none⟩=some (.slice a O B):=j.cell 1 rfl;have M:g.cell? ⟨b+1,2,none⟩=some (.slice d N e):=j.cell 2 rfl;have b2:g.cell? ⟨wr.heap.size,0,none⟩=some (.bool s5):=z.cell 0 rfl;have b3:g.cell? ⟨wr.heap.size,1,none⟩=some (.slice a5 n5 c5):=z.cell 1 rfl;have b4:g.cell? ⟨wr.heap.size,2,none⟩=some (.slice d5 k5 e5):=z.cell 2 rfl;have F:=Y.ext c;have a9:QV (mk (a0e X b 2) g) (.agg #[.bool s5, .slice a5 n5 c5, .slice d5 k5 e5]) x:=mkx QV.mono v c;have a4:QV (mk (a0e X b 2) g) (.agg #[.bool s, .slice a O B, .slice d N e]) D:=(mkx QC.mono hq c).qv H.out;clear bx z)|(go_at_call 48;(with_reducible refine(b1C (a0e X b 2) g _ _ _ _ F a4 a9).mono ?_);rintro ee w7 ⟨Q,u7,rfl,y⟩;obtain⟨s7,a7,n7,c7,d7,k7,e7,rfl⟩:=y.shape;rw[m.out]at y;have T:=j.ext0 Q;clear K L M b2 b3 b4)|((with_reducible show wpList _ _ _ (⟨_, .store _ _ _,_,_,_,_⟩::_) _ _);refine a0a a0k rfl rfl T rfl rfl (a1n _ _ _ _ _ _ _) ?_;intro w8 z1 R))
   have h8:=QC.mono _ _ _ _ (a0f (lo:=b) (nb:=2) R (by omega) (by omega)) y;have S:=((A.ext0 c).ext0 Q).ext R (a0c (by omega));have U:Ext w _:=ExtX.box (q.trans (c.trans Q)) R (by omega);have V:=(F.ext Q).ext R;rw[<-C.out]at h8;go_roundw
   case rel=>exact⟨i+1,_,_,_,_,_,_,_,by go_num,by omega,S,z1,h8,V,U⟩
   case measure=>simp[intOf];omega
  ·have a1:i=n:=by omega
   subst a1;rw[<-f.out]at hq;have K:=o.cell 0 rfl;have L:=o.cell 1 rfl;have M:=o.cell 2 rfl;go_wp2_with ((with_reducible show wpList _ _ _ (⟨_, .store _ _ _,_,_,_,_⟩::_) _ _);refine a0a a0k rfl rfl A rfl rfl (a1n _ _ _ _ _ _ _) ?_;intro w7 z P)
   have h7:=QC.mono _ _ _ _ a0h (QC.mono _ _ _ _ (a0f P (by omega) (by omega)) hq);rw[f.out]at h7;exact bodyPost_ret (a0d rfl rfl a0k z rfl) rfl ⟨ExtX.box q P (by omega),_,rfl,h7⟩
end Go.Proofs.YtnnpfhoigmegcaaGreat
namespace Go.Rep
open Go.RowKit Go.Lim
section
variable {P:Program} {α:Type} {R:Mem->Value->α->Prop} {sz:Nat} {X:Nat->Bool} {base:Nat} {e:TypeId} {w:World} {ao:Option Addr} {cap:Nat} {l:List α}
end
section
variable {P:Program} {ops:Array Oper} {Q:Exit->Act->World->Prop} {a:Act} {w:World}
end
end Go.Rep
namespace Go.Rep
open Go.RowKit Go.Lim
section
variable {P:Program} {ops:Array Oper} {Q:Exit->Act->World->Prop} {a:Act} {w:World}
variable {α:Type} {R:Mem->Value->α->Prop} {sz:Nat} {X:Nat->Bool} {base:Nat} {e:TypeId} {ao:Option Addr} {cap:Nat} {l:List α}
theorem a6k{sz:Nat}{us:List Value}(h:∀u∈us,u.cells.size=sz)(j k:Nat):((us.drop j).take k).flatMap a0g=((us.flatMap a0g).drop (j*sz)).take (k*sz):=by
 have hd:∀(vs:List Value),(∀u∈vs,u.cells.size=sz)->∀j,(vs.drop j).flatMap a0g=(vs.flatMap a0g).drop (j*sz):=by
  intro vs
  induction vs with
  |nil=>intro _ j;simp
  |cons v vs ih=>
   intro hv j;cases j with
   |zero=>simp
   |succ j=>
    have h1:(a0g v).length=sz:=by have:=hv v (by simp);simpa[a0g]using this
    simp only[List.drop_succ_cons,List.flatMap_cons];rw[ih (fun u hu=>hv u (by simp[hu])) j,Nat.succ_mul,Nat.add_comm,<-h1,List.drop_length_add_append]
 have ht:∀(vs:List Value),(∀u∈vs,u.cells.size=sz)->∀k,(vs.take k).flatMap a0g=(vs.flatMap a0g).take (k*sz):=by
  intro vs
  induction vs with
  |nil=>intro _ k;simp
  |cons v vs ih=>
   intro hv k;cases k with
   |zero=>simp
   |succ k=>
    have h1:(a0g v).length=sz:=by have:=hv v (by simp);simpa[a0g]using this
    simp only[List.take_succ_cons,List.flatMap_cons];rw[ih (fun u hu=>hv u (by simp[hu])) k,Nat.succ_mul,Nat.add_comm,<-h1,List.take_length_add_append]
 rw[ht _ (fun u hu=>h u (List.mem_of_mem_drop hu)),hd _ h]
theorem a3g{β:Type}{L:List β}{i j k q:Nat}(e:i+k<=L.length)(f:j+k<=L.length)(hq:q<(L.take i++(L.drop j).take k++L.drop (i+k)).length)(hx:(if q<i then q else if q<i+k then j+(q - i)else q)<L.length):(L.take i++(L.drop j).take k++L.drop (i+k))[q]=L[if q<i then q else if q<i+k then j+(q - i)else q]:=by
 have c:(L.take i).length=i:=by rw[List.length_take];omega
 have d:((L.drop j).take k).length=k:=by rw[List.length_take,List.length_drop];omega
 by_cases a:q<i
 ·simp only[if_pos a]
  rw[List.getElem_append_left (by rw[List.length_append];omega),List.getElem_append_left (by omega),List.getElem_take]
 ·by_cases b:q<i+k
  ·simp only[if_neg a,if_pos b]
   rw[List.getElem_append_left (by rw[List.length_append];omega),List.getElem_append_right (by omega),List.getElem_take,List.getElem_drop];simp only[c]
  ·simp only[if_neg a,if_neg b]
   rw[List.getElem_append_right (by rw[List.length_append];omega),List.getElem_drop];simp only[List.length_append,c,d]
   congr 1
   omega
theorem OL.run_copyIn{t W:Nat}{z:Value}(T:SliceT P t e sz W z)(hR:Elem R sz)(h:OL R sz X base e w ao cap l)(i j k n1 n2 m1 m2 c1 c2:Nat)(D:i+k<=l.length)(M:j+k<=l.length)(hk:0<k)(Z:m1≠i)(a0:m2≠j)(U:Nat.min n2 n1=k)(ty:TypeId):∃w',(Builtin.copy_ #[t,t] ty #[.slice (a0L ao i m1 sz) n1 c1, .slice (a0L ao j m2 sz) n2 c2]).run P w= .ok (goInt k) w'/\OL R sz X base e w' ao cap (l.take i++(l.drop j).take k++l.drop (i+k))/\ExtX (ob ao) w w':=by
 obtain⟨ti,hi,hz,a9,b2⟩:=info_parts T.info;obtain⟨b4,g1,g2,g3,g4,g5⟩:=h.cells;have C:=h.form;obtain⟨hx,us,h1,G,J,h3,h5⟩:=h;rcases C with⟨rfl,rfl,rfl⟩|⟨g,a,rfl,h6,V,h8,h9,y⟩
 ·simp at D;omega
 have x:us.flatMap a0g=a.toList.take (l.length*sz):=by
  rcases h3.2 with⟨H,_⟩|⟨g',c',I,H,_,K,_,_,_,Y⟩
  ·simp at H
  simp at H;obtain⟨rfl,rfl⟩:=H;rw[V]at K;obtain rfl:a=I:=by simpa using K
  exact Y.symm
 have b3:=Nat.mul_le_mul_right sz h8;have r:=Nat.mul_le_mul_right sz D;have N:=Nat.mul_le_mul_right sz M;rw[Nat.add_mul]at r N;have o:((us.drop j).take k).flatMap a0g=(a.toList.drop (j*sz)).take (k*sz):=by
  rw[a6k G,x,List.drop_take,List.take_take]
  congr 1
  omega
 obtain⟨d,p⟩:∃d,(us.drop j).take k=d:=⟨_,rfl⟩;have s:d.length=k:=by rw[<-p,List.length_take,List.length_drop];omega
 have E:∀u∈d,u∈us:=fun u b=>by rw[<-p]at b;exact List.mem_of_mem_drop (List.mem_of_mem_take b)
 rw[p]at o;have f:(d.flatMap a0g).length=k*sz:=by rw[a0N d fun u b=>G u (E u b),s]
 have F:∀v∈d.flatMap a0g,v.oneCell'=true:=by
  intro c hc;obtain⟨v,H,a3⟩:=List.mem_flatMap.1 hc;exact J v (E v H) c a3
 have L:i*sz+(d.flatMap a0g).length<=a.size:=by rw[f,y];omega
 have a1:a0L (some ⟨g,0,none⟩) i m1 sz=some ⟨g,i*sz,none⟩:=by unfold a0L;rw[if_neg Z];simp only[Option.map_some,Addr.add_lit,Nat.zero_add]
 have a2:a0L (some ⟨g,0,none⟩) j m2 sz=some ⟨g,j*sz,none⟩:=by unfold a0L;rw[if_neg a0];simp only[Option.map_some,Addr.add_lit,Nat.zero_add]
 have A:∀q u,(d.flatMap a0g)[q]? =some u->w.cell? ((⟨g,j*sz,none⟩:Addr).add q)=some u:=by
  intro q u hq;have a7:q<k*sz:=by rw[<-f];exact(List.getElem?_eq_some_iff.1 hq).1
  rw[o,List.getElem?_take_of_lt a7,List.getElem?_drop]at hq;rw[Addr.add_lit];unfold World.cell?;simp[V,<-Array.getElem?_toList,hq]
 have a4:=run_loadCells_list (P:=P) w ⟨g,j*sz,none⟩ (d.flatMap a0g) A;have a8:=run_storeCells_at P g (i*sz) e (d.flatMap a0g) 0 a w V (by simpa using L) F;have hE:ExtX (ob (some ⟨g,0,none⟩)) w (w.setRow g (a.toList.take (i*sz+0)++d.flatMap a0g++a.toList.drop (i*sz+0+(d.flatMap a0g).length)).toArray):=
  ⟨rfl,rfl,rfl,by simp,fun q _ hq=>setRow_other w g q _ (fun ek=>by subst ek;simp[ob]at hq)⟩
 have B:∀u∈us.take i++d++us.drop (i+k),u∈us:=by
  intro u b;rcases List.mem_append.1 b with b|b
  ·rcases List.mem_append.1 b with b|b
   ·exact List.mem_of_mem_take b
   ·exact E u b
  ·exact List.mem_of_mem_drop b
 have m:(us.take i++d++us.drop (i+k)).length=(l.take i++(l.drop j).take k++l.drop (i+k)).length:=by simp[s,h1];omega
 have n:(l.take i++(l.drop j).take k++l.drop (i+k)).length=l.length:=by simp;omega
 have O:(a.toList.take (i*sz)).length=i*sz:=by
  rw[List.length_take,Array.length_toList,y];exact Nat.min_eq_left (by omega)
 have Q:(a.toList.take (i*sz)++d.flatMap a0g).length=i*sz+k*sz:=by rw[List.length_append,O,f]
 refine⟨_,?_,⟨hx,us.take i++d++us.drop (i+k),m,fun u b=>G u (B u b),fun u b=>J u (B u b),⟨?_, .inr ⟨g,cap,_,by simp,h6,setRow_heap w g a _ e _ V,by rw[n];exact h8,h9,?_,?_⟩⟩,?_⟩,hE⟩
 ·have S:(loadCells ⟨g,j*sz,none⟩ (k*ti.size)).run P w= .ok (d.flatMap a0g).toArray w:=by rw[a9,<-f];exact a4
  rw[a1,a2];simp[Builtin.copy_,run_underlying T.und,Builtin.lenOf,Builtin.firstCells,sizeOf,typeInfo,hi,U,S,a8]
 ·rw[a0N _ (fun u b=>G u (B u b)),m]
 ·simp only[List.size_toArray,List.length_append,Nat.add_zero,O,List.length_drop,Array.length_toList,y,f]
  omega
 ·have b0:(us.take i).flatMap a0g=a.toList.take (i*sz):=by
   have:=a6k (us:=us) G 0 i;simp only[List.drop_zero,Nat.zero_mul]at this;rw[this,x,List.take_take,Nat.min_eq_left (by omega)]
  have b1:(us.drop (i+k)).flatMap a0g=(a.toList.take (l.length*sz)).drop (i*sz+k*sz):=by
   have:=a6k (us:=us) G (i+k) us.length;rw[List.take_of_length_le (by simp)]at this;rw[this,x,List.take_of_length_le (by simp[h1];rw[Nat.add_mul];omega),Nat.add_mul]
  rw[n,List.flatMap_append,List.flatMap_append,b0,b1];simp only[Nat.add_zero,f];rw[List.take_append,List.take_of_length_le (by rw[Q];exact r),Q,List.drop_take]
 ·intro q hq a6
  have a5:Le (mk (un X (some ⟨g,0,none⟩)) w) (mk (un X (some ⟨g,0,none⟩)) _):=a2n hE (.inl rfl);refine hR.mono _ _ _ _ a5 ?_;subst p;rw[a3g (by omega) (by omega) hq (by split<;>(try split)<;>omega),a3g D M a6 (by split<;>(try split)<;>omega)];exact h5 _ _ _
theorem OL.run_copy0{t c:Nat}{z:Value}(T:SliceT P t e sz c z)(_:Elem R sz)(h:OL R sz X base e w ao cap l)(d f A i j k n:Nat)(C:TypeId):(Builtin.copy_ #[t,t] C #[.slice (a0L ao i d sz) 0 k, .slice (a0L ao j f sz) A n]).run P w= .ok (goInt 0) w:=by
 obtain⟨ti,hi,hz,y,x⟩:=info_parts T.info;rcases h.form with⟨rfl,rfl,rfl⟩|⟨g,p,rfl,D,E,F,G,v⟩
 ·have a:∀i m,a0L none i m sz=none:=fun i m=>by unfold a0L;split<;>rfl
  rw[a,a];simp[Builtin.copy_,run_underlying T.und,Builtin.lenOf,Builtin.firstCells,sizeOf,typeInfo,hi]
 ·have a:∀i m,∃o,a0L (some ⟨g,0,none⟩) i m sz=some ⟨g,o,none⟩:=fun i m=>by
   unfold a0L;split
   ·exact⟨0,rfl⟩
   ·exact⟨0+i*sz,by simp only[Option.map_some,Addr.add_lit]⟩
  obtain⟨H,r⟩:=a i d;obtain⟨B,s⟩:=a j f;have b:=run_loadCells_list (P:=P) w ⟨g,B,none⟩ [] (fun q u hq=>by simp at hq);rw[r,s];simp at b;simp[Builtin.copy_,run_underlying T.und,Builtin.lenOf,Builtin.firstCells,sizeOf,typeInfo,hi,b,storeCells]
theorem a9k{o:Oper}{K:Act->World->Prop}{E:Prop}{t d:Nat}{z:Value}{s x:Operand}(v:o.guard=none)(k:o.op=Op.call {callee:=Callee.builtin Builtin.copy,args:=#[s,x],argTypes:=#[t,t]})(T:SliceT P t e sz d z)(m:Elem R sz)(i j n p q:Nat)(C:l.length=n)(A:j<=i)(y:i<=n)(f:p=n - i)(c:q=n - j)(F:a.eval s= .slice (a0L ao i cap sz) p (cap - i))(hx:a.eval x= .slice (a0L ao j cap sz) q (cap - j))(h:OL R sz X base e w ao cap l)(u:∀b,OL R sz X base e b ao cap (l.take i++(l.drop j).take (n - i))->ExtX (ob ao) w b->K (a.put o.dst (.int .i64 ((n - i:Nat):Int))) b):if Region.wanted o (yielded ops a.tmps)=true then Oper.wp P o a w K Q else E:=by
 have G:Region.wanted o (yielded ops a.tmps)=true:=by simp[Region.wanted,v]
 rw[if_pos G];subst f;subst c;subst C;have B:=h.lenCap;obtain⟨b,D,c,g⟩:∃b,(Builtin.copy_ #[t,t] o.type #[.slice (a0L ao i cap sz) (l.length - i) (cap - i), .slice (a0L ao j cap sz) (l.length - j) (cap - j)]).run P w= .ok (goInt ((l.length - i:Nat):Int)) b/\OL R sz X base e b ao cap (l.take i++(l.drop j).take (l.length - i))/\ExtX (ob ao) w b:=by
  by_cases r:i=l.length
  ·subst r
   have:=h.run_copy0 (P:=P) T m cap cap (l.length - j) l.length j (cap - l.length) (cap - j) o.type;rw[Nat.sub_self];exact⟨w,this,by simpa using h,ExtX.refl _⟩
  ·obtain⟨b,f,c,g⟩:=h.run_copyIn (P:=P) T m i j (l.length - i) (l.length - i) (l.length - j) cap cap (cap - i) (cap - j) (by omega) (by omega) (by omega) (by omega) (by omega) (Nat.min_eq_right (by omega)) o.type
   refine⟨b,f,?_,g⟩;rw[show i+(l.length - i)=l.length by omega,List.drop_length,List.append_nil]at c;exact c
 unfold Oper.wp execOp;rw[k];simp only[resolve,invoke,builtin,Sem.run_bind,Sem.run_pure,Result.andThen_ok,List.map_toArray,List.map_cons,List.map_nil,F,hx,D];exact u _ c g
end
end Go.Rep
namespace Go.Proofs.YtnnpfhoigmegcaaGreat
open Go.RowKit Go.Rep Go.Lim Go.Lin
theorem b4t(X:Nat->Bool)(w:World)(u:Value)(x:Rat)(y:HX X w)(h:QV (mk X w) u x):Calls Tryz.prog 272 #[u] w (a1F X w QC x):=by
 obtain⟨E,p,C,q,r,B,s,rfl⟩:=h.shape;obtain⟨W,J,n,f,m,hz⟩:=a1a w #[.bool E, .slice p C q, .slice r B s] #[.bool false, .slice none 0 0, .slice none 0 0] 41 41;have d:HX (a0e X w.heap.size 2) W:=y.boxes hz;have e:=QV.mono _ _ _ _ (a0i (nb:=2) n) h;obtain⟨b,z⟩:∃b,w.heap.size=b:=⟨_,rfl⟩;have A:w.heap.size<=b:=by omega
 rw[z]at f m hz d e;have j:=f.cell 0 rfl;have k:=f.cell 1 rfl;have l:=f.cell 2 rfl;have t:QV (mk (a0e X b 2) W) (.agg #[.bool false, .slice none 0 0, .slice none 0 0]) 0:=(QC.zero _).qv (by decide+kernel);have i:x+0=x:=by grind
 clear h;go_enter Tryz.func272,Tryz.ntmps272
 go_wp2_with fail
 refine(b1C (a0e X b 2) W _ _ x 0 d e t).mono ?_;rintro I O ⟨c,N,rfl,a⟩;rw[i]at a;obtain⟨M,F,L,G,H,K,e5,rfl⟩:=a.shape;have g:=m.ext0 c;clear j k l;go_wp2_with ((with_reducible show wpList _ _ _ (⟨_, .store 41 _ _,_,_,_,_⟩::_) _ _);refine a0a a0k rfl rfl g rfl rfl (a1n _ _ _ _ _ _ _) ?_;intro P D o)
 have v:=QC.mono _ _ _ _ a0h (QC.mono _ _ _ _ (a0f o (by omega) (by omega)) a);exact bodyPost_ret (a0d rfl rfl a0k D rfl) rfl ⟨ExtX.box (n.trans c) o (by omega),_,rfl,v⟩
end Go.Proofs.YtnnpfhoigmegcaaGreat
namespace Go.Lin
open Go.Lim Go.Rep
theorem b7V{q:Rat}:0<q.num.sign↔0<q:=by
 have a:=a5w (q:=q);have b:=a4J (q:=q);have c:0<q.num.sign↔¬q.num.sign<0/\¬q.num.sign=0:=by omega
 rw[c,a,b];constructor
 ·intro h;have:=h.1;have:=h.2;grind
 ·intro h;exact⟨by grind,by grind⟩
theorem b4u{S:List Rat}{z x:Rat}{a n:Nat}(h:S.length=n)(g:a<=n):((S++[z]).take (a+1)++((S++[z]).drop a).take (n+1 - (a+1))).set a x=S.take a++x::S.drop a:=by
 refine List.ext_getElem (by simp;omega) fun j c f=>?_;simp only[List.length_set,List.length_append,List.length_take,List.length_drop,List.length_cons,List.length_nil]at c;rw[List.getElem_set];by_cases e:a=j
 ·subst e
  have b:(S.take a).length=a:=by rw[List.length_take];omega
  rw[if_pos rfl,List.getElem_append_right (by omega)];simp[b]
 ·rw[if_neg e]
  by_cases d:j<a
  ·rw[List.getElem_append_left (by simp;omega),List.getElem_append_left (by simp;omega),List.getElem_take,List.getElem_take,List.getElem_append_left (by omega)]
  ·rw[List.getElem_append_right (by simp;omega),List.getElem_append_right (by simp;omega),List.getElem_take,List.getElem_drop,List.getElem_append_left (by simp;omega),List.getElem_cons,dif_neg (by simp;omega),List.getElem_drop]
   congr 1
   simp only[List.length_take,List.length_append,List.length_singleton];omega
theorem b6M{S l:List Rat}{F:Nat->List Rat}{x:Rat}{i:Nat}(hF:∀i,srt (l.take i)=F i)(g:F i=S)(hi:i<l.length)(hx:l[i]=x)(a:Nat)(m:a<=S.length)(d:∀j (b:j<S.length),a<=j->x<S[j])(f:∀h:0<a,S[a - 1]'(by omega)<=x):S.take a++x::S.drop a=F (i+1):=by
 subst hx;obtain rfl:srt (l.take i)=S:=(hF i).trans g;rw[<-hF,List.take_succ_eq_append_getElem hi];refine(b6b ⟨fun x hx=>?_,fun x hx=>?_⟩).symm
 ·obtain⟨j,b,rfl⟩:=List.getElem_of_mem hx
  simp only[List.length_take]at b;rw[List.getElem_take];have k:=List.pairwise_iff_getElem.1 (a9I (l.take i));have c:=f (by omega);by_cases e:j=a - 1
  ·subst e;exact c
  ·exact Rat.le_trans (k j (a - 1) (by omega) (by omega) (by omega)) c
 ·obtain⟨j,b,rfl⟩:=List.getElem_of_mem hx
  simp only[List.length_drop]at b;rw[List.getElem_drop];exact Rat.le_of_lt (d _ (by omega) (by omega))
end Go.Lin
namespace Go.Proofs.YtnnpfhoigmegcaaGreat
open Go.RowKit Go.Rep Go.Lim Go.Lin
theorem b2I(X:Nat->Bool)(w:World)(u:Value)(l:List Rat)(B:Nat)(hX:HX X w)(hu:RV (mk X w) u l)(hl:l.length<=1000)(hB:BR B l)(hBB:B<=34359738367):Calls Tryz.prog 192 #[u] w (fun e w'=>Ext w w'/\∃oo co,e= .returned (.slice oo l.length co)/\OL QC 3 X w.heap.size 41 w' oo co (srt l)):=by
 obtain⟨ao,ca,rfl,hca,hsa⟩:=hu;have hha:=hsa.hd;obtain⟨n,hn⟩:∃n,l.length=n:=⟨_,rfl⟩;have hn':=hid hn;rw[hn]at hl hca hha |-;have hsl:=hid fun i (h:i<=n)=>(by rw[a4Z,List.length_take,hn];omega:(srt (l.take i)).length=i);have hsB:=hid fun i q (h:q∈srt (l.take i))=>hB q (List.mem_of_mem_take ((a1Q _).mem_iff.1 h));have h0:srt (l.take 0)= []:=by simp[srt]
 have hall:=hid (show srt (l.take n)=srt l by rw[<-hn,List.take_length]);obtain⟨F,hFi⟩:∃F:Nat->List Rat,∀i,srt (l.take i)=F i:=⟨_,fun _=>rfl⟩;simp only[hFi]at hsl hsB h0 hall;have hFi':=hid hFi;have hB':=hid hB;clear hn hB hFi;go_enter Tryz.func192,Tryz.ntmps192
 go_wp2_with fail
 go_loopw [3,9] (fun o cc wr=>∃(i:Nat) (oo:Option Addr) (co:Nat),cc= .int .i64 i/\o= .slice oo i co/\i<=n/\OL QC 3 X w.heap.size 41 wr oo co (F i)/\Ext w wr) (fun _ cc _=>n - (intOf cc).toNat)
 case atStart=>exact⟨0,none,0,rfl,rfl,Nat.zero_le _,by rw[h0];exact OL.nil _ _ _ _ _ _,ExtX.refl _⟩
 case round=>
  clear h0;obtain⟨i,oo,co,rfl,rfl,hi,hO,hE⟩:=hrel;have hXr:HX X wr:=hX.ext hE;have hXu:HX (un X oo) wr:=hO.unX hXr;have hbase:=hE.size;by_cases hlt:i<n
  ·have hil:i<l.length:=by rw[hn'.out];exact hlt
   have hq2:Sl QV 3 (mk (un X oo) wr) ao l:=hsa.old QV.mono hE (fun j hj=>hO.ob_lt hj);have hSl:=hsl.out i hi;have hSB:=hid (hsB.out i);have hxB:=hB'.out _ (List.getElem_mem hil);have bx:=Bx.new wr #[.bool false, .slice none 0 0, .slice none 0 0] 41;obtain⟨x,hx⟩:∃x,l[i]=x:=⟨_,rfl⟩;have hx':=hid hx;obtain⟨S,hS⟩:∃S,F i=S:=⟨_,rfl⟩;have hpt:=hid (b6M hFi'.out hS hil hx);rw[hS]at hO hSl hSB;rw[hx]at hxB;have hSl':=hid hSl;clear hx hS hSl;go_wp2_with (first|(with_reducible refine a1D a0J (by omega) (by assumption) ?_)|((with_reducible show wpList _ _ _ (⟨_, .load 41 _,_,_,_,_⟩::_) _ _);refine a0W a0k i hq2 hil rfl (by simp) QV.agg ?_;intro u5 hu5;rw[hx'.out]at hu5;obtain⟨s5,a5,n5,c5,d5,k5,e5,rfl⟩:=hu5.shape)|((with_reducible show wpList _ _ _ (⟨_, .store 41 _ _,_,_,_,_⟩::_) _ _);refine a0a a0k rfl rfl bx rfl rfl (a1n _ _ _ _ _ _ _) ?_;intro w5 r1 r2;have k0:w5.cell? ⟨wr.heap.size,0,none⟩=some (.bool s5):=r1.cell 0 rfl;have k1:w5.cell? ⟨wr.heap.size,1,none⟩=some (.slice a5 n5 c5):=r1.cell 1 rfl;have k2:w5.cell? ⟨wr.heap.size,2,none⟩=some (.slice d5 k5 e5):=r1.cell 2 rfl))
   clear k0 k1 k2;obtain⟨g,hg⟩:∃g,wr.heap.size=g:=⟨_,rfl⟩;have hE5:Ext wr w5:=ExtX.box ((ExtX.refl wr).alloc _) r2 (Nat.le_refl _);have hgo:w.heap.size<=g:=by omega
   have hgoo:ob oo g=false:=by
    cases h:ob oo g
    ·rfl
    ·have:=(hO.block h).2;omega
   obtain⟨Z,hZ⟩:∃Z,un X (some ⟨g,0,none⟩)=Z:=⟨_,rfl⟩;have hZX:∀k,k<g->Z k=true->X k=true:=fun k hk h=>by
    rw[<-hZ]at h;cases hx:X k
    ·have:ob (some ⟨g,0,none⟩) k=true:=by simpa[un,hx]using h
     have:g=k:=by simpa[ob]using this
     omega
    ·rfl
   have hXZ:∀k,X k=true->Z k=true:=fun k h=>by rw[<-hZ];exact a0o h
   have hgZ:∀k,ob (some ⟨g,0,none⟩) k=true->Z k=true:=fun k h=>by rw[<-hZ];exact a0t h
   have hO5:OL QC 3 Z w.heap.size 41 w5 oo co S:=hO.ext QC.elem hE5 (fun k _ hk=>by simp[noY]at hk) (by rw[hg];exact hZX);have hZ5:HX Z w5:=fun k hk=>by
    rw[<-hZ]at hk;have hs5:=hE5.size;have hg5:=r1.lt;cases hx:X k
    ·have:ob (some ⟨g,0,none⟩) k=true:=by simpa[un,hx]using hk
     have:g=k:=by simpa[ob]using this
     omega
    ·have:=hXr k hx;omega
   have hx5:QV (mk (un Z oo) w5) (.agg #[.bool s5, .slice a5 n5 c5, .slice d5 k5 e5]) x:=QV.mono _ _ _ _ (a0T hE5 (fun k _ hk=>by simp[noY]at hk) (fun k hk h=>by
    have hk':k<g:=by omega
    cases ho:ob oo k
    ·have:Z k=true:=by simpa[un,ho]using h
     exact a0o (hZX k hk' this)
    ·exact a0t ho)) hu5
   rw[hg]at r1;rw[hg];have hXo5:HX (un Z oo) w5:=hO5.unX hZ5;have hcl:=b4t (un Z oo) w5 _ x hXo5 hx5;clear hu5 bx r2 hq2 hZX hO;refine hcl.mono ?_;rintro e w6 ⟨hE6,u6,rfl,hu6⟩;obtain⟨s6,a6,n6,c6,d6,k6,e6,rfl⟩:=hu6.shape;have r6:=r1.ext0 hE6;have hO6:=hO5.ext0 QC.elem hE6;clear hcl r1 hx5 hO5;go_wp2_with ((with_reducible show wpList _ _ _ (⟨_, .store 41 _ _,_,_,_,_⟩::_) _ _);refine a0a a0k rfl rfl r6 rfl rfl (a1n _ _ _ _ _ _ _) ?_;intro w7 r7 y7)
   have hO7:OL QC 3 Z w.heap.size 41 w7 oo co S:=hO6.ext QC.elem y7 (fun k _ h=>hgZ k h) (fun k _ h=>h);have hu7:QC (mk (un Z oo) w7) (.agg #[.bool s6, .slice a6 n6 c6, .slice d6 k6 e6]) x:=QC.mono _ _ _ _ (a0r y7 (fun k h=>a0o (hgZ k h))) hu6;have hE7:Ext w w7:=hE.trans ((hE5.trans hE6).then_ y7 (fun k hk _=>by
    cases h:ob (some ⟨g,0,none⟩) k
    ·rfl
    ·have:g=k:=by simpa[ob]using h
     omega))
   have hX7:HX (un Z oo) w7:=(hXo5.ext hE6).ext y7;have hZ7:HX Z w7:=(hZ5.ext hE6).ext y7;have hgw7:=r7.lt;clear hO6 hu6 r6 y7 hE5 hE6 hXo5 hZ5 hE hXu hXr hg;go_wp2_with fail
   go_loopw [6] (fun o wq=>∃at_:Nat,o= .int .i64 at_/\at_<=i/\Hid (∀j (hj:j<S.length),at_<=j->x<S[j])/\Ext w7 wq) (fun o _=>(intOf o).toNat)
   case atStart=>exact⟨i,rfl,Nat.le_refl _,hid fun j hj h=>by have:=hSl'.out;omega,ExtX.refl _⟩
   case round=>
    obtain⟨at_,rfl,hat,hgt,hEq⟩:=hrel;have hOq:=hO7.ext0 QC.elem hEq;have huq:=mkx QC.mono hu7 hEq;have rq:=r7.ext0 hEq;have hXq:=hX7.ext hEq;have hEd:Ext wr wr.drew:=(ExtX.refl wr).drew;obtain⟨c,hc⟩:∃c:Bool,c=true↔∃h:0<at_/\at_ - 1<S.length,x<S[at_ - 1]:=by
     by_cases h:∃h:0<at_/\at_ - 1<S.length,x<S[at_ - 1]
     ·exact⟨true,by simp[h]⟩
     ·exact⟨false,by simp[h]⟩
    have hc':=hid hc;go_upto_region 7 with fail
    (try simp only[Act.put])
    go_cut [28]from 17 to 27 (fun q wx=>q= .bool c/\Ext wr wx)
    case first=>
     rcases Nat.eq_zero_or_pos at_ with hm|hm
     ·subst hm
      have hcf:c=false:=by
       cases hcc:c
       ·rfl
       ·obtain⟨⟨h1,_⟩,_⟩:=hc.1 hcc
        omega
      clear hc;refine a0K 11 (fun _=>True) (by kernel_rfl) (by kernel_rfl) trivial (fun hHeld hOnce=>?_);refine kt 0 hOnce ?_;refine kt 1 hOnce ?_;refine kt 2 hOnce ?_;refine ku 3 hOnce ?_;refine ku 4 hOnce ?_;refine ku 5 hOnce ?_;refine ku 6 hOnce ?_;refine ku 7 hOnce ?_;refine ku 8 hOnce ?_;refine ku 9 hOnce ?_;refine ku 10 hOnce ?_;refine kl 11 (fun K hK=>?_);go_simp
      refine hK.out _ _ ?_;clear hK K;go_wp2_with fail
      go_meet
      case rel=>exact⟨by rw[hcf],hEd⟩
     ·have hml:at_ - 1<S.length:=by rw[hSl'.out];omega
      obtain⟨g2,o2,s8,a8,n8,c8,d8,k8,e8,hg2,hy2,hc2,hq2⟩:=hOq.rat QC.shaped (at_ - 1) hml;have hhd:Hd oo i:=by have:=hOq.hd;rw[hSl'.out]at this;exact this
      have d0:decide ((0:Int)<(at_:Int))=true:=decide_eq_true (by omega);have ew:IntKind.i64.wrap ((at_:Int) - 1)=(at_:Int) - 1:=IntWalk.i64_in _ (by omega);have i2:∀W,(Instr.indexAt 26 (.slice oo i co) (.int .i64 ((at_:Int) - 1))).run Tryz.prog W= .ok (.pointer (some ⟨g2,o2,none⟩)) W:=by
       rw[<-hg2,show((at_:Int) - 1)=((at_ - 1:Nat):Int)by omega];exact a0j a0J oo i co .i64 (at_ - 1) hhd (by omega)
      have hS:Hid (∀w',Ext wr w'->w'.cell? ⟨g2,o2,none⟩=some (.bool s8)/\w'.cell? ⟨g2,o2+1,none⟩=some (.slice a8 n8 c8)/\w'.cell? ⟨g2,o2+2,none⟩=some (.slice d8 k8 e8)/\w'.cell? ⟨g,0,none⟩=some (.bool s6)/\w'.cell? ⟨g,1,none⟩=some (.slice a6 n6 c6)/\w'.cell? ⟨g,2,none⟩=some (.slice d6 k6 e6)):=hid fun w' h=>
       ⟨(hc2.out _ _ h rfl).1,(hc2.out _ _ h rfl).2.1,(hc2.out _ _ h rfl).2.2,(rq.ext0 h).cell 0 rfl,(rq.ext0 h).cell 1 rfl,(rq.ext0 h).cell 2 rfl⟩
      have hDB:hq S[at_ - 1]<=B:=hSB.out _ (List.getElem_mem hml);have hcm:=hid (a5W (un Z oo) wr.drew _ _ S[at_ - 1] x (hXq.ext hEd) ((mkx QC.mono hq2 hEd).qv (by omega)) ((mkx QC.mono huq hEd).qv (by omega)) (Nat.le_trans (a7M _ _) (by omega)));have hcs:Hid (decide ((0:Int)<(S[at_ - 1] - x).num.sign)=c):=hid (by
       rw[Bool.eq_iff_iff,decide_eq_true_eq,hc];rw[b7V];have e1:0<S[at_ - 1] - x↔x<S[at_ - 1]:=by constructor<;>intro h<;>grind
       rw[e1];exact⟨fun h=>⟨⟨hm,hml⟩,h⟩,fun⟨_,h⟩=>h⟩)
      obtain⟨sg,hsg⟩:∃sg,(S[at_ - 1] - x).num.sign=sg:=⟨_,rfl⟩;rw[hsg]at hcm hcs;clear hg2 hy2 hc2 hq2 hsg hc;refine a0K 11 (fun w'=>w'.cell? ⟨g2,o2,none⟩=some (.bool s8)/\w'.cell? ⟨g2,o2+1,none⟩=some (.slice a8 n8 c8)/\w'.cell? ⟨g2,o2+2,none⟩=some (.slice d8 k8 e8)/\w'.cell? ⟨g,0,none⟩=some (.bool s6)/\w'.cell? ⟨g,1,none⟩=some (.slice a6 n6 c6)/\w'.cell? ⟨g,2,none⟩=some (.slice d6 k6 e6)) (by kernel_rfl) (by kernel_rfl) (hS.out _ hEd) (fun hHeld hOnce=>?_);refine kt 0 hOnce ?_;refine kt 1 hOnce ?_;refine kt 2 hOnce ?_;refine kt 3 hOnce ?_;refine kt 4 hOnce ?_;refine kt 5 hOnce ?_;refine kt 6 hOnce ?_;refine kt 7 hOnce ?_;refine kt 8 hOnce ?_;refine ks 9 (fun K hK=>?_);go_simp
      ((with_reducible refine hcm.out.mono ?_);rintro ee wa ⟨ga,rfl⟩)
      refine kcn hK (hS.out _ (hEd.trans ga)) (fun hHeld=>?_);clear hK K;refine kt 10 hOnce ?_;refine kl 11 (fun K hK=>?_);go_simp
      refine hK.out _ _ ?_;clear hK K;go_wp2_with fail
      go_meet
      case rel=>exact⟨by rw[<-hcs.out],hEd.trans ga⟩
    case rest=>
     obtain⟨rfl,hEc⟩:=hcut;have hEwc:=hEq.trans hEc;clear hOq huq rq hXq hEd hEq;cases c with
     |true=>
      obtain⟨⟨h1,h2⟩,h3⟩:=hc'.out.1 rfl;have ew:IntKind.i64.wrap ((at_:Int) - 1)=(at_:Int) - 1:=IntWalk.i64_in _ (by omega);go_wp2_with fail
      go_roundw
      case rel=>exact⟨at_ - 1,by go_num,by omega,hid fun j hj h=>by
       by_cases e:j=at_ - 1
       ·subst e;exact h3
       ·exact hgt.out j hj (by omega),hEwc⟩
      case measure=>simp[intOf];omega
     |false=>
      have hnew:=hpt.out at_ (by rw[hSl'.out];exact hat) hgt.out (fun h=>by
       have h4:¬∃h:0<at_/\at_ - 1<S.length,x<S[at_ - 1]:=fun h=>by
        have:=hc'.out.2 h;exact absurd this (by decide)
       exact Rat.not_lt.1 fun h5=>h4 ⟨⟨h,by rw[hSl'.out];omega⟩,h5⟩)
      have hnew':=hid hnew;have hOc:=hO7.ext0 QC.elem hEwc;have huc:=mkx QC.mono hu7 hEwc;have rc:=r7.ext0 hEwc;have hZc:=hZ7.ext hEwc;have hE8:=hE7.trans hEwc;have hb8:=hE8.size;clear hnew hpt hgt hO7 hu7 r7 hX7 hZ7 hEwc hEc hc' hc;go_wp2_with (at_builtin;refine a0H (l:=S) a0J rfl QC.elem hb8 hZc i hSl'.out rfl rfl hOc (.agg #[.bool false, .slice none 0 0, .slice none 0 0]) 0 rfl (QC.zero _) (by omega) (by omega) ?_;intro oo2 co2 w9 hO9 hE9 hor)
      have hu9:QC (mk (un Z oo2) w9) (.agg #[.bool s6, .slice a6 n6 c6, .slice d6 k6 e6]) x:=QC.mono _ _ _ _ (a2n hE9 hor) huc;have hgo2:ob oo2 g=false:=by
       rcases hor with rfl|⟨g',rfl,hg'⟩
       ·exact hgoo
       ·have:=rc.lt
        simp[ob];omega
      have r9:=rc.ext hE9 hgoo;have hE10:=hE8.own hOc (Nat.le_refl _) hE9;have hlc:=hO9.lenCap;rw[List.length_append,hSl'.out]at hlc;have hlc':i+1<=co2:=hlc;have ew:IntKind.i64.wrap ((at_:Int)+1)=(at_:Int)+1:=IntWalk.i64_in _ (by omega);have f1:∀W,(Instr.sliceAt 26 (.slice oo2 (i+1) co2) (some (.int .i64 ((at_:Int)+1))) none none).run Tryz.prog W= .ok (.slice (a0L oo2 (at_+1) co2 3) (i+1 - (at_+1)) (co2 - (at_+1))) W:=a2Z a0J (i+1) co2 .i64 (at_+1) (by omega) hlc';have f2:∀W,(Instr.sliceAt 26 (.slice oo2 (i+1) co2) (some (.int .i64 (at_:Int))) none none).run Tryz.prog W= .ok (.slice (a0L oo2 at_ co2 3) (i+1 - at_) (co2 - at_)) W:=a2Z a0J (i+1) co2 .i64 at_ (by omega) hlc';have hEd:Ext w9 w9.drew:=(ExtX.refl w9).drew;have hO9d:=hO9.ext0 QC.elem hEd;have hln9:(S++[0]).length=i+1:=by rw[List.length_append,hSl'.out];rfl
      have hpl:=hid (b4u (S:=S) (z:=0) (x:=x) (a:=at_) (n:=i) hSl'.out hat);clear hO9 hlc hOc huc rc hor
      (try simp only[Act.put])
      refine a0K 7 (fun _=>True) (by kernel_rfl) (by kernel_rfl) trivial (fun hHeld hOnce=>?_);refine kt 0 hOnce ?_;refine kt 1 hOnce ?_;refine kt 2 hOnce ?_;refine kt 3 hOnce ?_;refine kt 4 hOnce ?_;refine kt 5 hOnce ?_;refine kt 6 hOnce ?_;refine kl 7 (fun K hK=>?_)
      (refine a9k rfl (by rfl) a0J QC.elem (at_+1) at_ (i+1) (i - at_) (i+1 - at_) hln9 (by omega) (by omega) (by omega) (by omega) rfl rfl hO9d ?_;intro w11 hO11 hE11)
      refine hK.out _ _ ?_;clear hK K
      (try simp only[Act.put])
      have hE11':=(hE10.trans hEd).own hO9d (Nat.le_refl _) hE11;have hu11:QC (mk (un Z oo2) w11) (.agg #[.bool s6, .slice a6 n6 c6, .slice d6 k6 e6]) x:=QC.mono _ _ _ _ (a0r hE11 (fun k h=>a0t h)) (mkx QC.mono hu9 hEd);have r11:=(r9.ext0 hEd).ext hE11 hgo2;have k0:w11.cell? ⟨g,0,none⟩=some (.bool s6):=r11.cell 0 rfl;have k1:w11.cell? ⟨g,1,none⟩=some (.slice a6 n6 c6):=r11.cell 1 rfl;have k2:w11.cell? ⟨g,2,none⟩=some (.slice d6 k6 e6):=r11.cell 2 rfl;have hl11:((S++[0]).take (at_+1)++((S++[0]).drop at_).take (i+1 - (at_+1))).length=i+1:=by simp[hSl'.out];omega
      have hhd:Hd oo2 (i+1):=by have:=hO11.hd;rwa[hl11]at this
      have hat2:at_<((S++[0]).take (at_+1)++((S++[0]).drop at_).take (i+1 - (at_+1))).length:=by rw[hl11];omega
      obtain⟨L,hL⟩:∃L,(S++[0]).take (at_+1)++((S++[0]).drop at_).take (i+1 - (at_+1))=L:=⟨_,rfl⟩;rw[hL]at hO11 hat2 hpl;clear hL hl11 hln9 f1 f2 hO9d hu9 r9;go_wp2_with (first|(with_reducible refine a1D a0J (by omega) (by assumption) ?_)|((with_reducible show wpList _ _ _ (⟨_, .store 41 _ _,_,_,_,_⟩::_) _ _);refine a1t a4V QC.elem at_ rfl (by simp) hO11 hat2 (.agg #[.bool s6, .slice a6 n6 c6, .slice d6 k6 e6]) x rfl hu11 ?_;intro w12 hO12 hE12))
      have hE12':=hE11'.own hO11 (Nat.le_refl _) hE12;rw[hpl.out,hnew'.out]at hO12;have hOf:OL QC 3 X w.heap.size 41 w12 oo2 co2 (F (i+1)):=hO12.ext QC.elem (ExtX.refl w12 (Y:=noY)) (fun k _ hk=>by simp[noY]at hk) (fun k _ h=>hXZ k h);go_roundw
      case rel=>exact⟨i+1,oo2,co2,by go_num,by go_num,by omega,hOf,hE12'⟩
      case measure=>simp[intOf];omega
  ·obtain rfl:i=n:=by omega
   rw[hall.out]at hO;go_wp2_with fail
   go_ret
   exact⟨hE,oo,co,rfl,hO⟩
end Go.Proofs.YtnnpfhoigmegcaaGreat
namespace Go.Lin
open Go.Lim Go.Rep
end Go.Lin
namespace Go.Proofs.YtnnpfhoigmegcaaGreat
open Go.RowKit Go.Rep Go.Lim Go.Lin
end Go.Proofs.YtnnpfhoigmegcaaGreat
namespace Go.Lin
open Go.Lim Go.Rep
theorem b6N{n c B:Nat}{x:Mat}(k:Shp n c x)(f:c<=4)(j:BM B x)(e:B<=1000){d:List Rat}(g:BR 42875000 d):BR 200004013 (a2l x c d):=fun q h=>by
 obtain⟨r,i,rfl⟩:=List.mem_map.1 h;have b:=k.2 r i;have a:=(a6e b f (j r i) g (by decide) e).1 _ (Nat.le_refl _);rw[show a5B r d r.length=a8G r d from rfl,a4j b]at a;exact Nat.le_trans b2y a
end Go.Lin
namespace Go.Proofs.YtnnpfhoigmegcaaGreat
open Go.RowKit Go.Rep Go.Lim Go.Lin
theorem b6O(X:Nat->Bool)(w:World)(u v:Value)(x:Mat)(d:List Rat)(n c m B:Nat)(hX:HX X w)(hu:MV (mk X w) u x)(hv:RV (mk X w) v d)(hdl:d.length=c)(hs:Shp n c x)(hn8:n<=8)(hc4:c<=4)(hm:m<=n)(hB:BM B x)(hBB:B<=1000)(hdB:BR 42875000 d):Calls Tryz.prog 113 #[u,v, .int .i64 (m:Int)] w (a1F X w QC (a1g x c d m)):=by
 obtain⟨ao,ca,rfl,hca,hsa⟩:=hu;obtain⟨do_,dc,rfl,hdc,hds⟩:=hv;have hxl:x.length=n:=hs.1;have hdv0:RV (mk X w) (.slice do_ d.length dc) d:=⟨do_,dc,rfl,hdc,hds⟩;have hha:=hsa.hd;rw[hxl]at hca hha |-;rw[hdl]at hdv0 |-;obtain⟨W,hW,hE,b0,hz⟩:=a0Q w #[.bool false, .slice none 0 0, .slice none 0 0] 41;have hXW:HX (a0e X w.heap.size 1) W:=hX.boxes hz;have hsW:=hsa.mono RV.mono (a0i (nb:=1) hE);have hdW:=RV.mono _ _ _ _ (a0i (nb:=1) hE) hdv0;obtain⟨b,hb⟩:∃b,w.heap.size=b:=⟨_,rfl⟩;have hbw:w.heap.size<=b:=by omega
 rw[hb]at b0 hz hXW hsW hdW;obtain⟨Z,hZ⟩:∃Z,a0e X b 1=Z:=⟨_,rfl⟩;rw[hZ]at hXW hsW hdW;have hxl':=hid hxl;have hs':=hid hs;have hxB:=hid hB;have hAB:=hid (b6N hs hc4 hB hBB hdB);have hAl:=hid (a1X x c d);rw[hxl]at hAl;have hall:=hid (b0b x c d);rw[hxl]at hall;have hpd:Hid (a1g x c d m=a1K ((srt (a2l x c d)).drop (n - m))/a1K (a2l x c d)):=hid (by unfold a1g a7Y;rw[a1X,hxl]);have hdl':=hid hdl;clear hxl hs hB hsa hds hdc hX hdv0 hdl;go_enter Tryz.func113,Tryz.ntmps113
 go_wp2_with fail
 go_loopw [7,12] (fun o cc wr=>∃(i:Nat) (lo:Option Addr) (lc:Nat),cc= .int .i64 i/\o= .slice lo i lc/\i<=n/\OL QC 3 Z W.heap.size 41 wr lo lc (b0K x c d i)/\Ext W wr) (fun _ cc _=>n - (intOf cc).toNat)
 case atStart=>exact⟨0,none,0,rfl,rfl,Nat.zero_le _,by simp[b0K,a2l];exact OL.nil _ _ _ _ _ _,ExtX.refl _⟩
 case round=>
  obtain⟨i,lo,lc,rfl,rfl,hi,hO,hEr⟩:=hrel;have hXr:=hXW.ext hEr;have hXu:HX (un Z lo) wr:=hO.unX hXr;have hbase:=hEr.size;by_cases hlt:i<n
  ·have hil:i<x.length:=by rw[hxl'.out];exact hlt
   have hln:=hid (b0a (x:=x) (c:=c) (d:=d) (i:=i) (by rw[hxl'.out];exact hi));have hmo:=hid (a8l (c:=c) (d:=d) hil);have hsu:Sl RV 1 (mk (un Z lo) wr) ao x:=hsW.old RV.mono hEr (fun j hj=>hO.ob_lt hj);have hdu:RV (mk (un Z lo) wr) (.slice do_ c dc) d:=a7R RV.mono hdW hEr (fun j hj=>hO.ob_lt hj);obtain⟨a2,c2,hX2,hc2,hcl2,hq2⟩:=hsu.row i hil;have hrl:x[i].length=c:=hs'.out.2 _ (List.getElem_mem _);have hrB:=hxB.out _ (List.getElem_mem hil);have hbd:=a6e hrl hc4 hrB hdB (by decide) hBB;have hrv:RV (mk (un Z lo) wr) (.slice a2 c c2) x[i]:=⟨a2,c2,by rw[hrl],by rw[hrl]at hcl2;rw[hrl];exact hcl2,hq2⟩;have hdot:=hid (a6N (un Z lo) wr (.slice a2 c c2) (.slice do_ c dc) x[i] d hXu hrv hdu (by omega) (by rw[hrl,hdl'.out]) (fun q hq=>Nat.le_trans (hbd.1 q hq) (by decide)) (fun q hq=>Nat.le_trans (hbd.2 q hq) (by decide)));have hdq:Hid (hq (a8G x[i] d)<=68719476736):=hid (Nat.le_trans (hbd.1 _ (Nat.le_refl _)) (by decide));rw[a4j hrl]at hdot hdq;rw[hrl]at hc2;have k1:=hc2.out noY wr (ExtX.refl _) rfl;obtain⟨D,hD⟩:∃D,dot c (vec d) (vec x[i])=D:=⟨_,rfl⟩;rw[hD]at hdot hdq hmo;obtain⟨T,hT⟩:∃T,b0K x c d i=T:=⟨_,rfl⟩;rw[hT]at hO hmo hln;clear hc2 hq2 hcl2 hrl hrB hbd hrv hD hT hsu hdu;go_wp2_with (first
    |(with_reducible refine a0m a0q (by omega) (by assumption) ?_)
    |(go_at_call 47;refine hdot.out.mono ?_;rintro ee w7 ⟨t7,u7,rfl,hu7⟩)
    |(go_at_call 46;(with_reducible refine(b8F (un Z lo) w7 u7 D (hXu.ext t7) (hu7.qv hdq.out)).mono ?_);rintro ee w8 ⟨t8,u8,rfl,hu8⟩;obtain⟨s8,a8,n8,c8,d8,k8,e8,rfl⟩:=hu8.shape;have hO8:=hO.ext0 QC.elem (t7.trans t8);have hX8:=(hXr.ext t7).ext t8;have hE8:=hEr.trans (t7.trans t8);have hb8:=hE8.size)
    |(at_builtin;refine a0H (l:=T) a0J rfl QC.elem hb8 hX8 i hln.out rfl rfl hO8 (.agg #[.bool s8, .slice a8 n8 c8, .slice d8 k8 e8]) (a3o D) rfl hu8 (by omega) (by omega) ?_;intro lo2 lc2 w9 hO9 hE9 hor))
   have hE10:=hE8.own hO8 (Nat.le_refl _) hE9;rw[<-hmo.out]at hO9;go_roundw
   case rel=>exact⟨i+1,lo2,lc2,by go_num,by go_num,by omega,hO9,hE10⟩
   case measure=>simp[intOf];omega
  ·obtain rfl:i=n:=by omega
   rw[hall.out]at hO;have hlc:=hO.lenCap;rw[hAl.out]at hlc;have hLv:RV (mk Z wr) (.slice lo i lc) (a2l x c d):=⟨lo,lc,by rw[hAl.out],by rw[hAl.out];exact hlc,(hO.sl QC.elem).qv fun q hq=>Nat.le_trans (hAB.out q hq) (by decide)⟩;have hst:=b2I Z wr (.slice lo i lc) (a2l x c d) 200004013 hXr hLv (by rw[hAl.out];omega) hAB.out (by decide);rw[hAl.out]at hst;have hsl:=hid (a4Z (a2l x c d));have hsB:=hid (fun q (h:q∈srt (a2l x c d))=>hAB.out q ((a1Q _).mem_iff.1 h));have hsu:=hid (a3J (a1Q (a2l x c d)));rw[hAl.out]at hsl;obtain⟨q,hq⟩:∃q,a1g x c d m=q:=⟨_,rfl⟩;have hq':=hid hq;rw[hq]at hpd;rw[<-hsu.out]at hpd;obtain⟨S,hS⟩:∃S,srt (a2l x c d)=S:=⟨_,rfl⟩;rw[hS]at hst hsl hsB hpd;have em:IntKind.i64.wrap ((i:Int) - (m:Int))=((i - m:Nat):Int):=by rw[IntWalk.i64_in _ (by omega)];omega
   have hb1:=hid (a5c (n:=8) (l:=S) (fun q h=>hsB.out q h) (by rw[hsl.out];exact hn8));have hb2:=hid (a5c (n:=8) (l:=S.drop (i - m)) (fun q h=>hsB.out q (List.mem_of_mem_drop h)) (by rw[List.length_drop,hsl.out];omega));clear hq hS hLv hsu hO hlc hAB hall;go_wp2_with fail
   refine hst.mono ?_;rintro e w2 ⟨hE2,so,sc,rfl,hSO⟩;have hscp:=hSO.lenCap;rw[hsl.out]at hscp;have hX2:=hXr.ext hE2;have f1:∀W,(Instr.sliceAt 26 (.slice so i sc) (some (.int .i64 ((i - m:Nat):Int))) none none).run Tryz.prog W= .ok (.slice (a0L so (i - m) sc 3) (i - (i - m)) (sc - (i - m))) W:=a2Z a0J i sc .i64 (i - m) (by omega) hscp;have hSs:=hSO.sl QC.elem;have hs3:=hSs.sub (i - m) i sc (by omega) hscp (by rw[hsl.out];exact Nat.le_refl _);rw[List.take_of_length_le (by rw[hsl.out];exact Nat.le_refl _)]at hs3;have hrv1:RV (mk Z w2) (.slice (a0L so (i - m) sc 3) (i - (i - m)) (sc - (i - m))) (S.drop (i - m)):=⟨_,_,by rw[List.length_drop,hsl.out],by rw[List.length_drop,hsl.out];omega,hs3.qv fun q hq=>Nat.le_trans (hsB.out q (List.mem_of_mem_drop hq)) (by decide)⟩;have hrv2:RV (mk Z w2) (.slice so i sc) S:=⟨_,_,by rw[hsl.out],by rw[hsl.out];exact hscp,hSs.qv fun q hq=>Nat.le_trans (hsB.out q hq) (by decide)⟩;have hs1:=b5b Z w2 _ _ hX2 hrv1 (by rw[List.length_drop,hsl.out];omega) (fun k hk=>Nat.le_trans (hb2.out k hk) (by decide));have hs2:=hid fun w' (h:Ext w2 w')=>b5b Z w' _ _ (hX2.ext h) (mkx RV.mono hrv2 h) (by rw[hsl.out];omega) (fun k hk=>Nat.le_trans (hb1.out k hk) (by decide));rw[show sm (S.drop (i - m)).length (fn (S.drop (i - m)))=a1K (S.drop (i - m))from rfl]at hs1;rw[show sm S.length (fn S)=a1K S from rfl]at hs2;have hq1:Hid (hq (a1K (S.drop (i - m)))<=68719476736):=hid (Nat.le_trans (hb2.out _ (Nat.le_refl _)) (by decide));have hq2:Hid (hq (a1K S)<=68719476736):=hid (Nat.le_trans (hb1.out _ (Nat.le_refl _)) (by decide));obtain⟨D1,hD1⟩:∃D,a1K (S.drop (i - m))=D:=⟨_,rfl⟩;obtain⟨D2,hD2⟩:∃D,a1K S=D:=⟨_,rfl⟩;rw[hD1]at hs1 hq1 hpd;rw[hD2]at hs2 hq2 hpd;clear hrv1 hrv2 hs3 hSs hSO hb1 hb2 hsB hD1 hD2 hst;go_wp2_with fail
   refine hs1.mono ?_;rintro e w3 ⟨hE3,u3,rfl,hu3⟩;have hs22:=hs2.out w3 hE3;clear hs1 hs2 f1 em;go_wp2_with fail
   refine hs22.mono ?_;rintro e w4 ⟨hE4,u4,rfl,hu4⟩;have hX4:=(hX2.ext hE3).ext hE4;have hrt:=b3X Z w4 u3 u4 D1 D2 hX4 ((mkx QC.mono hu3 hE4).qv hq1.out) (hu4.qv hq2.out);rw[<-hpd.out]at hrt;clear hs22;go_wp2_with fail
   refine hrt.mono ?_;rintro e w5 ⟨hE5,u5,rfl,hu5⟩;obtain⟨s5,a5,n5,c5,d5,k5,e5,rfl⟩:=hu5.shape;have hEb:=hEr.trans (hE2.trans (hE3.trans (hE4.trans hE5)));have b5:=b0.ext0 hEb;clear hrt;go_wp2_with ((with_reducible show wpList _ _ _ (⟨_, .store 41 _ _,_,_,_,_⟩::_) _ _);refine a0a a0k rfl rfl b5 rfl rfl (a1n _ _ _ _ _ _ _) ?_;intro w6 r1 r2)
   rw[<-hZ]at hu5;have h6:=QC.mono _ _ _ _ a0h (QC.mono _ _ _ _ (a0f r2 (by omega) (by omega)) hu5);exact bodyPost_ret (a0d rfl rfl a0k r1 rfl) rfl ⟨ExtX.box (hE.trans hEb) r2 (by omega),_,rfl,by rw[hq'.out];exact h6⟩
end Go.Proofs.YtnnpfhoigmegcaaGreat
namespace Go.Lin
open Go.Lim Go.Rep
noncomputable def a6r(x:Mat)(c m:Nat)(L:List (List Rat))(q:Nat):Rat:=((L.take q).map fun d=>a1g x c d m).foldl a4H 0
theorem b0I{x:Mat}{c m:Nat}{L:List (List Rat)}{q:Nat}(h:q<L.length):a6r x c m L (q+1)=a4H (a6r x c m L q) (a1g x c L[q] m):=by
 unfold a6r;rw[List.take_succ_eq_append_getElem h,List.map_append,List.foldl_append];rfl
theorem b2J(x:Mat)(c m:Nat)(L:List (List Rat)):a6r x c m L L.length=(L.map fun d=>a1g x c d m).foldl a4H 0:=by unfold a6r;rw[List.take_length]
theorem b4v{x:Mat}{c m:Nat}{L:List (List Rat)}{B:Nat}(h:∀d∈L,hq (a1g x c d m)<=B)(b:1<=B)(q:Nat):hq (a6r x c m L q)<=B:=by
 unfold a6r;rcases(a7u ((L.take q).map fun d=>a1g x c d m) 0).2.2 with e|e
 ·rw[e,a1r];exact b
 ·obtain⟨d,hd,a⟩:=List.mem_map.1 e
  rw[<-a];exact h d (List.mem_of_mem_take hd)
end Go.Lin
namespace Go.Proofs.YtnnpfhoigmegcaaGreat
open Go.RowKit Go.Rep Go.Lim Go.Lin
theorem a7A(X:Nat->Bool)(w:World)(u:Value)(x:List (List Rat))(m:Int)(B:Nat)(hX:HX X w)(hu:MV (mk X w) u x)(a0:x.length<=8)(hB:BM B x)(d7:1<=B)(O:B<=1000):Calls Tryz.prog 39 #[u, .int .i64 m] w (a6O X w (shE x m) (a0x x (a0n x) m.toNat)):=by
 obtain⟨W,hW,hE,b0,hz⟩:=a0Q w #[.bool false, .slice none 0 0, .slice none 0 0] 41;have c4:HX (a0e X w.heap.size 1) W:=hX.boxes hz;have C:=MV.mono _ _ _ _ (a0i (nb:=1) hE) hu;obtain⟨b,hb⟩:∃b,w.heap.size=b:=⟨_,rfl⟩;have j0:w.heap.size<=b:=by omega
 rw[hb]at b0 hz c4 C;have i:=a6f (a0e X b 1) W u x C (by omega);unfold b2k at i;have f8:=hid (show∀n,x.length=n->∃ao ca,u= .slice ao n ca from fun n hn=>by
  obtain⟨ao,ca,e,_⟩:=hu;exact⟨ao,ca,by rw[e,hn]⟩)
 clear hu;by_cases hd:a2F x=true
 ·obtain⟨hs,h1,g8,V,I⟩:=a3f hd
  rw[hd]at i;obtain⟨hf,_⟩:=a2P hs (by omega) V (by omega) (by omega);have c8:=a5Y hB d7;have M:=hid fun l (h:Ext W l)=>(by
   have:=a9U (a0e X b 1) l u x x.length (a0n x) (c4.ext h) (mkx MV.mono C h) hf rfl rfl (a5b hs c8 I (by omega)).2;rw[a4C]at this;exact this:Calls Tryz.prog 51 #[u] l (fun e i7=>Ext l i7/\e= .returned (.tuple #[.int .i64 ((a1C x (a0n x)).2.length:Int), .int .i64 0])))
  have j:=hid fun Z l (g6:HX Z l) (g7:MV (mk Z l) u x) (h2:a0n x<=x.length)=>b2q Z l u x x.length (a0n x) B g6 g7 hs h1 a0 V I h2 hB d7 O;have N:=hid fun d (h:d∈a0R x (a0n x))=>a2B hs rfl V I c8 O h;have b9:=hid (b2o hs a0 V);have c9:=a4h hs;have f9:=a4g hs;have p:=hid fun Z l v d (k:Nat) (hZ:HX Z l) (h2:MV (mk Z l) u x) (h3:RV (mk Z l) v d) (h4:d.length=a0n x) (J:k<=x.length) (h5:BR 42875000 d)=>b6O Z l u v x d x.length (a0n x) k B hZ h2 h3 h4 hs a0 I J hB O h5;have a2:=hid fun d (k:Nat) (h5:BR 42875000 d)=>a5e hs a0 I hB O h5 k;have r:Hid (shE x m=if m<0\/(x.length:Int)<m then 1 else if(a1C x (a0n x)).2.length=a0n x then 0 else 7):=hid (by unfold shE;rw[hd,if_neg (by decide)]);have T:=hid fun k=>show a6r x (a0n x) k (a0R x (a0n x)) (a0R x (a0n x)).length=a0x x (a0n x) k from b2J x (a0n x) k (a0R x (a0n x));obtain⟨n,hn⟩:∃n,x.length=n:=⟨_,rfl⟩;obtain⟨ao,ca,a4⟩:=f8.out n hn;rw[hn]at h1 a0 j c9 p r;obtain⟨c,hc⟩:∃c,a0n x=c:=⟨_,rfl⟩;rw[hc]at V I M j N c9 f9 p a2 r T i b9 |-;obtain⟨R,hR⟩:∃R,(a1C x c).2.length=R:=⟨_,rfl⟩;rw[hR]at M c9 f9 r;obtain⟨er,f3⟩:∃er,shE x m=er:=⟨_,rfl⟩;rw[f3]at r |-;clear hR hc hn hf c8 hB hd g8 hs f3 f8;by_cases hm:m<0\/(n:Int)<m
  ·have t:=r.out
   rw[if_pos hm]at t;subst t;subst a4;clear j N p a2 r T M C;rcases hm with hm|hm
   ·have t1:decide (m<0)=true:=decide_eq_true hm
    go_enter Tryz.func39,Tryz.ntmps39
    go_wp2_with fail
    refine i.mono ?_;rintro e w1 ⟨f,k,rfl,J⟩;have b1:=b0.ext0 f;clear J;go_wp2_with ((with_reducible show wpList _ _ _ (⟨_, .store 41 _ _,_,_,_,_⟩::_) _ _);refine a0a a0k rfl rfl b1 rfl rfl (a1n _ _ _ _ _ _ _) ?_;intro w3 r1 r2)
    exact bodyPost_ret (a0D rfl rfl a0k r1 rfl) rfl ⟨ExtX.box (hE.trans f) r2 (by omega),_,rfl,QC.zero _⟩
   ·have t1:decide (m<0)=false:=decide_eq_false (by omega)
    have t2:decide ((n:Int)<m)=true:=decide_eq_true hm;go_enter Tryz.func39,Tryz.ntmps39
    go_wp2_with fail
    refine i.mono ?_;rintro e w1 ⟨f,k,rfl,J⟩;have b1:=b0.ext0 f;clear J;go_wp2_with ((with_reducible show wpList _ _ _ (⟨_, .store 41 _ _,_,_,_,_⟩::_) _ _);refine a0a a0k rfl rfl b1 rfl rfl (a1n _ _ _ _ _ _ _) ?_;intro w3 r1 r2)
    exact bodyPost_ret (a0D rfl rfl a0k r1 rfl) rfl ⟨ExtX.box (hE.trans f) r2 (by omega),_,rfl,QC.zero _⟩
  ·have t1:decide (m<0)=false:=decide_eq_false (by omega)
   have t2:decide ((n:Int)<m)=false:=decide_eq_false (by omega);have t:=r.out;rw[if_neg hm]at t;by_cases hr:R=c
   ·rw[if_pos hr]at t
    subst t;have h9:¬(R:Int)<(c:Int):=by omega
    have i1:c<=n:=by omega
    obtain⟨k,rfl⟩:=Int.eq_ofNat_of_zero_le (show 0<=m by omega);have i3:k<=n:=by omega
    rw[show((k:Nat):Int).toNat=k from rfl];have A:=hid fun Z l h1 h2=>j.out Z l h1 h2 i1;have U:=hid (T.out k);have e9:=hid fun(L:List (List Rat)) q (h:q<L.length)=>b0I (x:=x) (c:=c) (m:=k) h;have f0:=hid fun(L:List (List Rat)) q (h:∀d∈L,BR 42875000 d)=>b4v (x:=x) (c:=c) (m:=k) (L:=L) (B:=3300000000) (fun d hd=>a2.out d k (h d hd)) (by decide) q;have f1:=hid fun(L:List (List Rat))=>show a6r x c k L 0=0 from rfl;have d2:=hid fun d (h:d∈a0R x c)=>(⟨(N.out d h).1,fun q hq=>by
     have:=(N.out d h).2 q hq;have h2:=Nat.mul_le_mul_left 42875 O;omega⟩:d.length=c/\BR 42875000 d)
    have e3:=b9.out;obtain⟨L,hL⟩:∃L,a0R x c=L:=⟨_,rfl⟩;rw[hL]at A d2 e3 U;obtain⟨Bt,d8⟩:∃Bt:Nat->Rat,a6r x c k L=Bt:=⟨_,rfl⟩;have b5:=hid (e9.out L);have b6:=hid fun q=>f0.out L q fun d hd=>(d2.out d hd).2;have b7:=hid (f1.out L);rw[d8]at b5 b6 b7 U;subst a4;clear j N r T e9 f0 f1 hL d8 hm;go_enter Tryz.func39,Tryz.ntmps39
    go_wp2_with fail
    refine i.mono ?_;rintro e w1 ⟨f,kk,rfl,J⟩;obtain rfl:=J (by trivial);have a9:=M.out w1 f;clear J i M;go_wp2_with fail
    refine a9.mono ?_;rintro e w2 ⟨y,rfl⟩;clear a9;obtain⟨w3,g3,c2,bB,d4⟩:=a0Q w2 #[.bool false, .slice none 0 0, .slice none 0 0] 41;obtain⟨g,hg⟩:∃g,w2.heap.size=g:=⟨_,rfl⟩;have j2:b<g:=by have:=y.size;have:=f.size;omega
    have b4:=f.trans (y.trans c2);obtain⟨Z,hZ⟩:∃Z,a0e (a0e X b 1) g 1=Z:=⟨_,rfl⟩;have c5:HX Z w3:=by rw[<-hZ,<-hg];exact(c4.ext (f.trans y)).boxes d4
    have d3:MV (mk Z w3) (.slice ao n ca) x:=by rw[<-hZ,<-hg];exact MV.mono _ _ _ _ (a0i (nb:=1) c2) (mkx MV.mono C (f.trans y))
    have f4:∀k,ob (some ⟨g,0,none⟩) k=true->Z k=true:=fun k h=>by
     have:g=k:=by simpa[ob]using h
     rw[<-hZ,<-this];exact a7p (Nat.le_refl _) (by omega)
    have e7:=b0.ext0 b4;rw[hg]at bB d4;have a3:=A.out Z w3 c5 d3;have c0:=hid g3;clear A hz d4 g3;go_wp2_with fail
    rw[c0.out]
    (try rw[hg])
    refine a3.mono ?_;rintro e w4 ⟨Q,u4,rfl,lo,lc,rfl,i4,f6⟩;have i2:=f6.hd;obtain⟨K,H⟩:∃K,L.length=K:=⟨_,rfl⟩;have e2:=hid H;have i8:K<=1000:=by rw[<-H];exact e3
    rw[H]at i4 i2 |-;have i6:=mkx MV.mono d3 Q;have i0:=c5.ext Q;have d5:=bB.ext0 Q;have e8:=e7.ext0 Q;have d9:=hE.trans (b4.trans Q);have j1:=d5.lt;clear a3 H d3 c5 bB e7 hg c0 c2;go_wp2_with fail
    go_loopw [43] (fun cx wr=>∃(q:Nat) (s:Bool) (a:Option Addr) (n' c':Nat) (d:Option Addr) (kk e:Nat),cx= .int .i64 q/\q<=K/\Bx wr g #[.bool s, .slice a n' c', .slice d kk e] 41/\QC (mk Z wr) (.agg #[.bool s, .slice a n' c', .slice d kk e]) (Bt q)/\ExtX (ob (some ⟨g,0,none⟩)) w4 wr) (fun cx _=>K - (intOf cx).toNat)
    case atStart=>exact⟨0,_,_,_,_,_,_,_,rfl,Nat.zero_le _,d5,by rw[b7.out];exact QC.zero _,ExtX.refl _⟩
    case round=>
     obtain⟨q,s,a,n',c',d1,k1,t,rfl,j3,bg,hQ,S⟩:=hrel;have e4:=i0.ext S;have f5:=b6.out q;by_cases i5:q<K
     ·have g1:q<L.length:=by rw[e2.out];exact i5
      have c3:Le (mk Z w4) (mk Z wr):=a0r S f4;obtain⟨a1,c1,i9,b8,E,d0⟩:=(f6.mono RC.mono c3).row q g1;have b3:=b8.out noY wr (ExtX.refl _) rfl;obtain⟨Y,a7⟩:=d2.out L[q] (List.getElem_mem _);have a8:=hid (b5.out q g1);have F:=hid (a2.out L[q] k a7);obtain⟨d,hd⟩:∃d,L[q]=d:=⟨_,rfl⟩;rw[hd]at b3 E d0 Y a7 a8 F;rw[Y]at b3 E;have f2:RV (mk Z wr) (.slice a1 kk c1) d:=⟨a1,c1,by rw[Y],by rw[Y];exact E,d0.qv fun v hv=>Nat.le_trans (a7 v hv) (by decide)⟩;have G:Ext wr wr.drew:=(ExtX.refl wr).drew;have g0:=hid (p.out Z wr.drew _ d k (e4.ext G) (mkx MV.mono (MV.mono _ _ _ _ c3 i6) G) (mkx RV.mono f2 G) Y i3 a7);obtain⟨P,hP⟩:∃P,a1g x kk d k=P:=⟨_,rfl⟩;rw[hP]at g0 a8 F;obtain⟨D,hD⟩:∃D,Bt q=D:=⟨_,rfl⟩;rw[hD]at hQ f5 a8;have hS:=hid fun l (h:Ext wr l)=>(⟨(bg.ext0 h).cell 0 rfl,(bg.ext0 h).cell 1 rfl,(bg.ext0 h).cell 2 rfl⟩:l.cell? ⟨g,0,none⟩=some (.bool s)/\l.cell? ⟨g,1,none⟩=some (.slice a n' c')/\l.cell? ⟨g,2,none⟩=some (.slice d1 k1 t));clear b8 E d0 hd hP hD c3 f2;go_wp2_with (with_reducible refine a0m a0q (by omega) (by assumption) ?_)
      (try simp only[Act.put])
      refine a0K 6 (fun l=>l.cell? ⟨g,0,none⟩=some (.bool s)/\l.cell? ⟨g,1,none⟩=some (.slice a n' c')/\l.cell? ⟨g,2,none⟩=some (.slice d1 k1 t)) (by kernel_rfl) (by kernel_rfl) (hS.out _ G) (fun z o=>?_);refine kt 0 o ?_;refine kt 1 o ?_;refine kt 2 o ?_;refine kt 3 o ?_;refine ks 4 (fun K H=>?_);go_simp
      ((with_reducible refine g0.out.mono ?_);rintro ee wa ⟨ga,ua,rfl,a4⟩)
      refine kcn H (hS.out _ (G.trans ga)) (fun z=>?_);clear H K;have a5:=G.trans ga;have f7:=b8J Z wa _ ua D P (e4.ext a5) ((mkx QC.mono hQ a5).qv (Nat.le_trans f5 (by decide))) (a4.qv (Nat.le_trans F.out (by decide))) (Nat.le_trans (a7M _ _) (by have:=F.out;omega));rw[<-a8.out]at f7;refine ks 5 (fun K H=>?_);go_simp
      ((with_reducible refine f7.mono ?_);rintro ee wb ⟨gb,ub,rfl,g2⟩;obtain⟨s6,a6,n6,c6,d6,k6,e6,rfl⟩:=g2.shape)
      refine kcn H (hS.out _ (a5.trans gb)) (fun z=>?_);clear H K;have e0:=a5.trans gb;have g5:=bg.ext0 e0;refine kl 6 (fun K H=>?_)
      (refine a7y rfl rfl a0k rfl rfl g5 rfl rfl (a1n _ _ _ _ _ _ _) ?_;intro wf x1 x2)
      refine H.out _ _ ?_;clear H K
      (try simp only[Act.put])
      have h8:QC (mk Z wf) (.agg #[.bool s6, .slice a6 n6 c6, .slice d6 k6 e6]) (Bt (q+1)):=QC.mono _ _ _ _ (a0r x2 f4) g2;have g9:=(S.trans (.of e0)).trans x2;clear z o b3;go_wp2_with fail
      go_roundw
      case rel=>exact⟨q+1,_,_,_,_,_,_,_,by go_num,by omega,x1,h8,g9⟩
      case measure=>simp[intOf];omega
     ·obtain rfl:q=K:=by omega
      have b3:=bg.cell 0 rfl;have j4:=bg.cell 1 rfl;have j5:=bg.cell 2 rfl;have g4:=e8.ext S (a0c (by omega));go_wp2_with ((with_reducible show wpList _ _ _ (⟨_, .store 41 _ _,_,_,_,_⟩::_) _ _);refine a0a a0k rfl rfl g4 rfl rfl (a1n _ _ _ _ _ _ _) ?_;intro w6 r1 r2)
      have h7:QC (mk (a0e X b 1) wr) (.agg #[.bool s, .slice a n' c', .slice d1 k1 t]) (Bt q):=QC.mono _ _ _ _ (a1N fun k _ h=>by rw[<-hZ];exact a9C h) hQ;have h6:=QC.mono _ _ _ _ a0h (QC.mono _ _ _ _ (a0f r2 (by omega) (by omega)) h7);have h0:Ext w wr:=d9.then_ S fun k J _=>a0c (by omega);exact bodyPost_ret (a0D rfl rfl a0k r1 rfl) rfl ⟨ExtX.box h0 r2 (by omega),_,rfl,by rw[if_pos rfl,<-U.out,e2.out];exact h6⟩
   ·rw[if_neg hr]at t
    subst t;have h9:(R:Int)<(c:Int):=by omega
    subst a4;clear j N p a2 r T C;go_enter Tryz.func39,Tryz.ntmps39
    go_wp2_with fail
    refine i.mono ?_;rintro e w1 ⟨f,k,rfl,J⟩;obtain rfl:=J (by trivial);have a9:=M.out w1 f;go_wp2_with fail
    refine a9.mono ?_;rintro e w2 ⟨y,rfl⟩;have b2:=b0.ext0 (f.trans y);go_wp2_with ((with_reducible show wpList _ _ _ (⟨_, .store 41 _ _,_,_,_,_⟩::_) _ _);refine a0a a0k rfl rfl b2 rfl rfl (a1n _ _ _ _ _ _ _) ?_;intro w3 r1 r2)
    exact bodyPost_ret (a0D rfl rfl a0k r1 rfl) rfl ⟨ExtX.box (hE.trans (f.trans y)) r2 (by omega),_,rfl,QC.zero _⟩
 ·have c7:a2F x=false:=by cases h:a2F x<;>simp_all
  have t:shE x m=6:=by unfold shE;rw[c7,if_pos rfl]
  rw[t];rw[c7]at i;clear t hd c7 C;go_enter Tryz.func39,Tryz.ntmps39
  go_wp2_with fail
  refine i.mono ?_;rintro e w1 ⟨f,k,rfl,J⟩;have b1:=b0.ext0 f;clear J;go_wp2_with ((with_reducible show wpList _ _ _ (⟨_, .store 41 _ _,_,_,_,_⟩::_) _ _);refine a0a a0k rfl rfl b1 rfl rfl (a1n _ _ _ _ _ _ _) ?_;intro w3 r1 r2)
  exact bodyPost_ret (a0D rfl rfl a0k r1 rfl) rfl ⟨ExtX.box (hE.trans f) r2 (by omega),_,rfl,QC.zero _⟩
theorem b6P(X:Nat->Bool)(w:World)(u:Value)(x:List (List Rat))(B:Nat)(hX:HX X w)(hu:MV (mk X w) u x)(hn8:x.length<=8)(hB:BM B x)(hB1:1<=B)(hBB:B<=1000):Calls Tryz.prog 37 #[u] w (a9i w x (shE x 0)):=by
 have hsh:=a7A X w u x 0 B hX hu hn8 hB hB1 hBB;unfold a6O at hsh;by_cases h0:shE x 0=0
 ·have hd:a2F x=true:=by
   cases h:a2F x
   ·unfold shE at h0;rw[h,if_pos rfl]at h0;exact absurd h0 (by decide)
   ·rfl
  obtain⟨hs,h1,h64,hc1,hc4⟩:=a3f hd;have hr:(a1C x (a0n x)).2.length=a0n x:=by
   apply Classical.byContradiction;intro hr;unfold shE at h0;rw[hd,if_neg (by decide),if_neg (by omega),if_neg hr]at h0;exact absurd h0 (by decide)
  have hfull:=b1e hs (by omega);have hhalf:=hid (a6P hs hc1 hfull);have hls:=hid fun w1 (k:Nat) (h:Ext w w1) (hk:k<=x.length)=>(by
   have:=a7A X w1 u x k B (hX.ext h) (mkx MV.mono hu h) hn8 hB hB1 hBB;have e:shE x (k:Int)=0:=by unfold shE;rw[hd,if_neg (by decide),if_neg (by omega),if_pos hr]
   unfold a6O at this;rw[e,if_pos rfl,show((k:Nat):Int).toNat=k from rfl]at this;exact this:Calls Tryz.prog 39 #[u, .int .i64 (k:Int)] w1 (fun e w'=>Ext w1 w'/\∃u,e= .returned (.tuple #[u, .int .i64 0])/\QC (mk X w') u (a0x x (a0n x) k)))
  have hsb:=hid fun m'=>(by
   rcases(a7u ((a0R x (a0n x)).map fun d=>a1g x (a0n x) d m') 0).2.2 with e|e
   ·unfold a0x;rw[e,a1r];decide
   ·obtain⟨d,hd',e2⟩:=List.mem_map.1 e
    have hdB:BR 42875000 d:=fun q hq=>by
     have:=(a2B hs rfl hc1 hc4 (a5Y hB hB1) hBB hd').2 q hq;have h2:=Nat.mul_le_mul_left 42875 hBB;omega
    have:=a5e hs hn8 hc4 hB hBB hdB m';unfold a0x;rw[<-e2];exact this:hq (a0x x (a0n x) m')<=3300000000)
  rw[h0]at hsh |-;obtain⟨c,hc⟩:∃c,a0n x=c:=⟨_,rfl⟩;obtain⟨n,hn⟩:∃n,x.length=n:=⟨_,rfl⟩;have hc':=hid hc;rw[hc]at hhalf hls hsb;rw[hn]at hhalf hls hn8;have hresp:Hid (∀m,m<=n->¬a0x x c m<((1:Int):Rat)/((2:Int):Rat)->(∀j,j<m->a0x x c j<((1:Int):Rat)/((2:Int):Rat))->a3Y x c m):=hid fun m a b d=>⟨by rw[hn];exact a,b,d⟩;have hov:=hid fun w1 (h:Ext w w1)=>a4X X w1 1 2 (hX.ext h) (by decide) (by decide) (by decide) (by decide) (by decide) (by decide+kernel) (by decide+kernel);obtain⟨hf,hhf⟩:∃q,((1:Int):Rat)/((2:Int):Rat)=q:=⟨_,rfl⟩;have hhq:Hid (hq hf<=100):=hid (by rw[<-hhf];decide+kernel);rw[hhf]at hhalf hov hresp;clear hr hfull hd hs h0 hhf hn hc hu hB;go_enter Tryz.func37,Tryz.ntmps37
  go_wp2_with (first
   |(go_at_call 39;refine hsh.mono ?_;rintro ee w1 ⟨t1,u1,rfl,hu1⟩;obtain⟨s1,a1,n1,c1,d1,k1,e1,rfl⟩:=hu1.shape;have bx:=Bx.new w1 #[.bool false, .slice none 0 0, .slice none 0 0] 41)
   |((with_reducible show wpList _ _ _ (⟨_, .store 41 _ _,_,_,_,_⟩::_) _ _);refine a0a a0k rfl rfl bx rfl rfl (a1n _ _ _ _ _ _ _) ?_;intro w2 r1 r2;have hE2:Ext w1 w2:=ExtX.box ((ExtX.refl w1).alloc _) r2 (Nat.le_refl _);have t2:=t1.trans hE2;clear bx r1 r2))
  clear hsh hu1 t1 hE2;go_loopw [6] (fun cc wr=>∃m:Nat,cc= .int .i64 m/\m<=n/\Hid (∀j,j<m->a0x x c j<hf)/\Ext w wr) (fun cc _=>n - (intOf cc).toNat)
  case atStart=>exact⟨0,rfl,Nat.zero_le _,hid (fun j hj=>absurd hj (Nat.not_lt_zero _)),t2⟩
  case round=>
   obtain⟨m,rfl,hm,hlow,hE⟩:=hrel;have hs1:=hls.out wr m hE hm;go_wp2_with (first
    |(go_at_call 39;refine hs1.mono ?_;rintro ee w3 ⟨t3,u3,rfl,hu3⟩;obtain⟨s3,a3,n3,c3,d3,k3,e3,rfl⟩:=hu3.shape;have bx:=Bx.new w3 #[.bool false, .slice none 0 0, .slice none 0 0] 41)
    |((with_reducible show wpList _ _ _ (⟨_, .store 41 _ _,_,_,_,_⟩::_) _ _);refine a0a a0k rfl rfl bx rfl rfl (a1n _ _ _ _ _ _ _) ?_;intro w4 r3 r4))
   have hE4:Ext w3 w4:=ExtX.box ((ExtX.refl w3).alloc _) r4 (Nat.le_refl _);have t4:=hE.trans (t3.trans hE4);obtain⟨bh,hbh⟩:∃bh,w3.heap.size=bh:=⟨_,rfl⟩;rw[hbh]at r3
   (try rw[hbh])
   have hq4:=mkx QC.mono hu3 hE4;have hsbm:=hsb.out m;have hcmp:=hid fun w' uh (h:Ext w4 w') (h2:QC (mk X w') uh hf)=>a5W X w' _ _ (a0x x c m) hf ((hX.ext t4).ext h) ((mkx QC.mono hq4 h).qv (Nat.le_trans hsbm (by decide))) (h2.qv (Nat.le_trans hhq.out (by decide))) (Nat.le_trans (a7M _ _) (by have:=hhq.out;omega));have hlt1:=hid fun(h:(a0x x c m - hf).num.sign<0)=>(by have:=a5w.1 h;grind:a0x x c m<hf);have hlt2:=hid fun(h:¬(a0x x c m - hf).num.sign<0)=>(show¬a0x x c m<hf from fun h2=>h (a5w.2 (by grind)));obtain⟨sg,hsg⟩:∃sg,(a0x x c m - hf).num.sign=sg:=⟨_,rfl⟩;rw[hsg]at hcmp hlt1 hlt2;have hS:=hid fun w' (h:Ext w4 w')=>(⟨(r3.ext0 h).cell 0 rfl,(r3.ext0 h).cell 1 rfl,(r3.ext0 h).cell 2 rfl⟩:w'.cell? ⟨bh,0,none⟩=some (.bool s3)/\w'.cell? ⟨bh,1,none⟩=some (.slice a3 n3 c3)/\w'.cell? ⟨bh,2,none⟩=some (.slice d3 k3 e3));have hEd:Ext w4 w4.drew:=(ExtX.refl w4).drew;clear hsg hs1 hu3 r4 bx;go_upto_region 6 with fail
   (try simp only[Act.put])
   by_cases hlt:sg<0
   all_goals
    (first|(have d1:decide ((0:Int)<=sg)=false:=decide_eq_false (by omega))|(have d1:decide ((0:Int)<=sg)=true:=decide_eq_true (by omega)))
    refine a0K 3 (fun w'=>w'.cell? ⟨bh,0,none⟩=some (.bool s3)/\w'.cell? ⟨bh,1,none⟩=some (.slice a3 n3 c3)/\w'.cell? ⟨bh,2,none⟩=some (.slice d3 k3 e3)) (by kernel_rfl) (by kernel_rfl) (hS.out _ hEd) (fun hHeld hOnce=>?_);refine kt 0 hOnce ?_;have hov1:=hov.out w4.drew (t4.trans hEd);refine ks 1 (fun K hK=>?_);go_simp
    ((with_reducible refine hov1.mono ?_);rintro ee wa ⟨ga,ua,rfl,hua⟩)
    refine kcn hK (hS.out _ (hEd.trans ga)) (fun hHeld=>?_);clear hK K;have hcm1:=hcmp.out wa ua (hEd.trans ga) hua;refine ks 2 (fun K hK=>?_);go_simp
    ((with_reducible refine hcm1.mono ?_);rintro ee wb ⟨gb,rfl⟩)
    refine kcn hK (hS.out _ ((hEd.trans ga).trans gb)) (fun hHeld=>?_);clear hK K;refine kl 3 (fun K hK=>?_);go_simp
    refine hK.out _ _ ?_;clear hK K;have hEb:=t4.trans ((hEd.trans ga).trans gb);clear hHeld hOnce hov1 hcm1
   ·have hl:=hlt1.out hlt
    have hmn:m≠n:=fun h=>by subst h;exact hhalf.out hl
    go_wp2_with fail
    go_roundw
    case rel=>exact⟨m+1,by go_num,by omega,hid (fun j hj=>by
     by_cases e:j=m
     ·subst e;exact hl
     ·exact hlow.out j (by omega)),hEb⟩
    case measure=>simp[intOf];omega
   ·have hl:=hlt2.out (by omega)
    have hrs:=hid (hresp.out m hm hl hlow.out);go_wp2_with fail
    go_ret2
    exact⟨hEb,m,rfl,fun _=>by rw[hc'.out];exact hrs.out,fun h=>absurd rfl h⟩
 ·obtain⟨er,her⟩:∃er,shE x 0=er:=⟨_,rfl⟩
  rw[her]at hsh h0 |-;have d0:(er !=(0:Int))=true:=a7B h0;have h0':=hid h0;clear her h0 hu;go_enter Tryz.func37,Tryz.ntmps37
  go_wp2_with (first
   |(go_at_call 39;refine hsh.mono ?_;rintro ee w1 ⟨t1,u1,rfl,hu1⟩;obtain⟨s1,a1,n1,c1,d1,k1,e1,rfl⟩:=hu1.shape;have bx:=Bx.new w1 #[.bool false, .slice none 0 0, .slice none 0 0] 41)
   |((with_reducible show wpList _ _ _ (⟨_, .store 41 _ _,_,_,_,_⟩::_) _ _);refine a0a a0k rfl rfl bx rfl rfl (a1n _ _ _ _ _ _ _) ?_;intro w2 r1 r2;have hE2:Ext w1 w2:=ExtX.box ((ExtX.refl w1).alloc _) r2 (Nat.le_refl _);have t2:=t1.trans hE2;clear bx r1 r2))
  go_ret2
  exact⟨t2,0,rfl,fun h=>absurd h h0'.out,fun _=>rfl⟩
theorem b7W(X:Nat->Bool)(w:World)(u v:Value)(x y:Rat)(z:QC (mk X w) u x)(B:QC (mk X w) v y)(hx:hq x<=68719476736):Calls Tryz.prog 40 #[u,v] w (a8n w (decide (x=y))):=by
 replace hx:=hid hx
 obtain⟨V,G,T,I,K,R,M,rfl⟩:=z.shape;obtain⟨Y,H,U,J,L,S,N,rfl⟩:=B.shape;obtain⟨W,Z,r,d,f,hz⟩:=a1a w #[.bool V, .slice G T I, .slice K R M] #[.bool Y, .slice H U J, .slice L S N] 41 41;have A:=mkx QC.mono z r;have C:=mkx QC.mono B r;obtain⟨b,O⟩:∃b,w.heap.size=b:=⟨_,rfl⟩;rw[O]at d f hz;have k:=d.cell 0 rfl;have l:=d.cell 1 rfl;have n:=d.cell 2 rfl;have o:=f.cell 0 rfl;have p:=f.cell 1 rfl;have q:=f.cell 2 rfl;clear z B;obtain⟨i,_,D⟩:=A.num;obtain⟨j,_,E⟩:=C.num;have g:=hid (Nat.le_trans (a0w x) (Nat.le_trans hx.out (by decide:(68719476736:Nat)<=1099511627776)));have s:=hid (Nat.le_trans (b5t x) (Nat.le_trans hx.out (by decide:(68719476736:Nat)<=1099511627776)));by_cases c:x.num=y.num
 ·have t:Hid (decide (dn x=dn y)=decide (x=y)):=hid (by
   rw[Bool.eq_iff_iff,decide_eq_true_eq,decide_eq_true_eq];constructor
   ·intro h
    refine Rat.ext c ?_;have:=a3F x;have:=a3F y;unfold dn at h;have:=x.den_nz;have:=y.den_nz;split at h<;>split at h<;>omega
   ·rintro rfl;rfl)
  have hd:Hid (decide (x.num=y.num)=true):=hid (decide_eq_true c);clear c;go_enter Tryz.func40,Tryz.ntmps40
  go_wp2_with fail
  refine(b4L X W _ _ _ _ i j g.out).mono ?_;rintro e F ⟨a,rfl⟩;rw[hd.out];have P:=(d.ext0 a).cell 2 rfl;have Q:=(f.ext0 a).cell 2 rfl;clear k l n o p q;go_wp2_with fail
  refine(b4J X F _ _ _ _ (mkx NC.mono D a) (mkx NC.mono E a) s.out).mono ?_;rintro e w6 ⟨rfl,m,rfl⟩;go_wp2_with fail
  go_ret
  exact⟨(r.trans a).drewN m,a0p t.out⟩
 ·have t:Hid (false=decide (x=y)):=hid (decide_eq_false (by rintro rfl;exact c rfl)).symm
  have hd:Hid (decide (x.num=y.num)=false):=hid (decide_eq_false c);clear c;go_enter Tryz.func40,Tryz.ntmps40
  go_wp2_with fail
  refine(b4L X W _ _ _ _ i j g.out).mono ?_;rintro e F ⟨a,rfl⟩;rw[hd.out];clear k l n o p q;go_wp2_with fail
  go_ret
  exact⟨r.trans a,a0p t.out⟩
theorem b6Q{x:Mat}{B:Nat}(j:x.length<=8)(n:BM B x)(c:1<=B)(a:B<=1000)(m:Int)(k:Nat):hq (if shE x m=0 then a0x x (a0n x) k else 0)<=3300000000:=by
 split
 ·rename_i h
  have hd:a2F x=true:=by
   cases l:a2F x
   ·unfold shE at h;rw[l,if_pos rfl]at h;exact absurd h (by decide)
   ·rfl
  obtain⟨o,s,r,f,b⟩:=a3f hd;rcases(a7u ((a0R x (a0n x)).map fun d=>a1g x (a0n x) d k) 0).2.2 with e|e
  ·unfold a0x;rw[e,a1r];decide
  ·obtain⟨d,g,p⟩:=List.mem_map.1 e
   have i:BR 42875000 d:=fun q hq=>by
    have:=(a2B o rfl f b (a5Y n c) a g).2 q hq;have l:=Nat.mul_le_mul_left 42875 a;omega
   unfold a0x;rw[<-p];exact a5e o j b n a i k
 ·rw[a1r];decide
theorem b2K{w w1:World}{x:Mat}{c:Int}{a b:Nat}(d:c=0->a3Y x (a0n x) a)(e:c≠0->a=0)(f:c=0->a3Y x (a0n x) b)(g:c≠0->b=0)(_:w=w1\/True):a=b:=by
 by_cases h:c=0
 ·exact(d h).uniq (f h)
 ·rw[e h,g h]
theorem b0J(lo:Option Addr)(l:List Int)(cl:Nat)(ua:Value)(ra:List (List a5f))(h:Int)(w:World)(hl:Sl (a0v .i64) 1 w.cell? lo l)(j6:l.length<=cl)(k9:l.length<=9223372036854775807)(b6:MR (mk noY w) ua ra)(m7: -9223372036854775808<=h)(m8:h<=9223372036854775807):Calls Tryz.prog 5 #[.slice lo l.length cl,ua, .int .i64 h] w (a8n w true):=by
 have l1:=a5x noY w ua ra 200 200 b6 (by decide) (by decide);cases h1:lightM ra 200 200
 ·rw[h1]at l1
  clear h1;go_enter Tryz.func5,Tryz.ntmps5
  go_wp2_with fail
  refine l1.mono ?_;rintro e w1 ⟨N,rfl⟩;clear l1;go_wp2_with fail
  refine(a1y w1).mono ?_;rintro e w2 ⟨D,rfl⟩;go_wp2_with fail
  go_ret
  exact⟨N.trans D,rfl⟩
 rw[h1]at l1;obtain⟨n1,f1⟩:=b0j h1;have h8:=b6.mv (fun r hr x hx=>((f1 r hr).2 x hx).bigP);have ba:=b6.bm (fun r hr=>(f1 r hr).2) (by decide);obtain⟨f,f9⟩:∃f,b4s ra=f:=⟨_,rfl⟩;rw[f9]at h8 ba;obtain⟨aa,ca,rfl,h0,b3⟩:=h8;have Z:Hid (f.length=0->a0n f=0):=hid fun h=>by
  obtain rfl:f= []:=List.eq_nil_of_length_eq_zero h;rfl
 have B:=hid (fun(h:0<f.length)=>(by
  obtain⟨n,o,_,W,_,_⟩:=b3.row 0 h;rw[<-a1x h]at W;exact⟨n,o,fun a hw=>W.out noY a hw rfl⟩:∃n o,∀a,Ext w a->a.cell? (adr aa 0)=some (.slice n (a0n f) o)))
 have j8:=b3.hd;obtain⟨y,a4⟩:∃y,f.length=y:=⟨_,rfl⟩;obtain⟨cc,Y⟩:∃cc,a0n f=cc:=⟨_,rfl⟩;have b9:Hid (MV (mk noY w) (.slice aa y ca) f):=hid ⟨aa,ca,by rw[a4],h0,b3⟩;have h9:=hid a4;rw[a4,Y]at B Z;rw[a4]at l1 h0 j8 |-;clear h1 f1 n1 b6 f9 b3 a4 Y;go_enter Tryz.func5,Tryz.ntmps5
 go_wp2_with fail
 refine l1.mono ?_;rintro e v3 ⟨E,rfl⟩;clear l1;have z:6<y\/(y<=6/\0<y/\6<cc)\/(¬0<y/\y<=6)\/(y<=6/\0<y/\cc<=6):=by
  have:=Z.out;omega
 clear Z;have h7:Sl (a0v .i64) 1 v3.cell? lo l:=by
  rw[<-a3k]at hl |-;exact hl.mono (a0v.mono _) (a0l E)
 have b5:=hid (a9P lo l cl v3 h7 j6 k9);have f7:Hid (MV (mk noY v3) (.slice aa y ca) f):=hid (mkx MV.mono b9.out E);have d7:=hid (fun(h:0<y)=>(by
  obtain⟨n,o,h2⟩:=B.out h;exact⟨n,o,h2 v3 E⟩:∃n o,v3.cell? (adr aa 0)=some (.slice n cc o)))
 clear B b9 h7 hl;rcases z with hc|⟨d4,b1,j5⟩|⟨b1,d4⟩|⟨d4,b1,j5⟩
 ·clear b5
  go_wp2_with fail
  refine(a1y v3).mono ?_;rintro e w4 ⟨b,rfl⟩;go_wp2_with fail
  go_ret
  exact⟨E.trans b,rfl⟩
 ·obtain⟨n,o,k0⟩:=d7.out b1
  clear b5;go_wp2_with (with_reducible refine a0m a0q (by omega) (by assumption) ?_)
  refine(a1y v3).mono ?_;rintro e w4 ⟨b,rfl⟩;clear k0;go_wp2_with fail
  go_ret
  exact⟨E.trans b,rfl⟩
 case' inr.inr.inl=>
  have d0:¬(0:Int)<(y:Int):=by omega
 case' inr.inr.inr=>
  obtain⟨n,o,k0⟩:=d7.out b1
 all_goals
  go_wp2_with (with_reducible refine a0m a0q (by omega) (by assumption) ?_)
  refine b5.out.mono ?_;rintro e w1 ⟨rfl,N,b4,i1⟩
  (try clear k0)
  obtain⟨d,J⟩:∃d,v3.heap.size=d:=⟨_,rfl⟩;have b0:HX (tbm d) w1:=fun k hk=>by
   have:k=d:=by simpa[tbm]using hk
   omega
  have h3:=hid (fun w2 (h:ExtX (tbm d) w1 w2)=>(E.trans (N.then_ h fun i hi _=>a2Q (by omega)):Ext w w2));have d2:Hid (MV (mk (tbm d) w1) (.slice aa y ca) f):=hid (MV.mono _ _ _ _ (a0T N (fun k _ hk=>by simp[noY]at hk) fun k hk hz=>by
   have:k=d:=by simpa[tbm]using hz
   omega) f7.out)
  have g0:Hid (f.length<=6):=hid (by rw[h9.out];exact d4);rw[J]at b4 |-;obtain⟨X,hX⟩:∃X,tbm d=X:=⟨_,rfl⟩;have c:∀k,tbm d k=true->X k=true:=fun k hk=>by rw[<-hX];exact hk
  rw[hX]at b4 b0 d2;clear N i1 J hX b5 f7 d7;have d5:=a5v X d 6 w1 b4 b0 (by decide) (by decide);rw[show((6:Nat):Int)=6 from rfl]at d5;go_wp2_with fail
  refine d5.mono ?_;rintro e w2 ⟨D,i2,vx,p,rfl,hp,l3,i0⟩;obtain⟨vo,vc,l9,_,_⟩:=id hp;subst l9;have d3:=b0.ext D;have f4:=MV.mono _ _ _ _ (a0r D c) d2.out;have S:=b0l X w2 _ _ p f 25 d3 hp f4;have K:Ext w2 (w2.alloc (.cells #[.slice vo p.length vc, .slice aa y ca] 25)):=(ExtX.refl _).alloc _;have f2:Hid (∀m∈[p,f],m.length<=8/\BM 8 m):=hid fun m hm=>by
   rcases List.mem_cons.1 hm with rfl|hm
   ·exact⟨by omega,i0⟩
   ·obtain rfl:=List.mem_singleton.1 hm
    exact⟨by have:=g0.out;omega,ba⟩
  have d1:([p,f]:List Mat).length=2:=rfl;have j7:Hd (some ⟨w2.heap.size,0,none⟩) 2:=S.hd;obtain⟨L,hL⟩:∃L,[p,f]=L:=⟨_,rfl⟩;rw[hL]at S f2 d1;have f0:=hid d1;clear d5 hL hp f4 d2 l3 i0 g0 d1;go_wp2_with fail
  obtain⟨ga,h4⟩:∃ga:Option Addr,some ⟨w2.heap.size,0,none⟩=ga:=⟨_,rfl⟩;obtain⟨w3,i6⟩:∃w3,w2.alloc (.cells #[.slice vo p.length vc, .slice aa y ca] 25)=w3:=⟨_,rfl⟩;rw[h4]at S j7 |-;rw[i6]at S K |-;have l5:=i2.ext K;have j4:=d3.ext K;have j3:=hid (D.trans (.of K));clear h4 i6 K i2 d3 D b0 b4;go_loopw [47] (fun s wr=>∃i:Nat,s= .int .i64 i/\i<=2/\a0C X d wr/\ExtX (tbm d) w3 wr) (fun s _=>2 - (intOf s).toNat)
  case atStart=>exact⟨0,rfl,by decide,l5,ExtX.refl _⟩
  case round=>
   obtain⟨i,rfl,hi,i5,hE⟩:=hrel;obtain⟨u,m0⟩:∃u,u=wr:=⟨_,rfl⟩;subst m0;have F:=j4.ext hE;by_cases l2:i<2
   ·have k6:i<L.length:=by rw[f0.out];exact l2
    obtain⟨so,sc,f3,e2,a5⟩:=(S.mono (SlV.mono RV.mono 1) (a0r hE c)).slice i k6;obtain⟨G,A⟩:=f2.out L[i] (List.getElem_mem _);obtain⟨m,hm⟩:∃m,L[i]=m:=⟨_,rfl⟩;rw[hm]at f3 e2 a5 G A;have a3:MV (mk X u) (.slice so m.length sc) m:=⟨so,sc,rfl,e2,a5⟩;have q:=hid (fun(h:0<m.length)=>(by
     obtain⟨n,o,_,W,_,_⟩:=a5.row 0 h;rw[<-a1x h]at W;exact⟨n,o,W.out noY u (ExtX.refl _) rfl⟩:∃n o,u.cell? (adr so 0)=some (.slice n (a0n m) o)))
    have j9:=a5.hd;have H:=hid fun a (h:ExtX (tbm d) u a)=>b7O X a _ m 8 (F.ext h) (MV.mono _ _ _ _ (a0r h c) a3) G A (by decide) (by decide);have I:=hid fun a (h:ExtX (tbm d) u a)=>b6P X a _ m 8 (F.ext h) (MV.mono _ _ _ _ (a0r h c) a3) G A (by decide) (by decide);have J:=hid fun a k (h:ExtX (tbm d) u a)=>b4Y X a _ m k 8 (F.ext h) (MV.mono _ _ _ _ (a0r h c) a3) G A (by decide) (by decide);have a6:=hid fun a k (h:ExtX (tbm d) u a)=>a7A X a _ m k 8 (F.ext h) (MV.mono _ _ _ _ (a0r h c) a3) G A (by decide) (by decide);obtain⟨mn,b2⟩:∃mn,m.length=mn:=⟨_,rfl⟩;obtain⟨mc,e0⟩:∃mc,a0n m=mc:=⟨_,rfl⟩;rw[b2]at f3 G j9 e2;rw[b2,e0]at q;rw[b2]at H I J a6;have l4:=hid fun j=>b6Q (x:=m) (by omega) A (by decide) (by decide) j j.toNat;obtain⟨Pe,f8⟩:∃P,shE m 0=P:=⟨_,rfl⟩;rw[f8]at H I;unfold a9i at H I;have c2:=hid e0;clear b2 e0 f8 hm a3 a5 A;by_cases hc:0<mn/\6<mc
    ·obtain⟨g1,g2⟩:=hc
     obtain⟨n,o,k0⟩:=q.out g1;clear q H I J a6;go_wp2_with (first|(with_reducible refine a0m b0k (by omega) (by assumption) ?_)|(with_reducible refine a0m a0q (by omega) (by assumption) ?_))
     go_roundw
     case rel=>exact⟨i+1,by go_num,by omega,i5,hE⟩
     case measure=>simp[intOf];omega
    ·have z:(∃n o,u.cell? (adr so 0)=some (.slice n mc o))/\0<mn/\mc<=6\/mn=0:=by
      by_cases g1:0<mn
      ·exact Or.inl ⟨q.out g1,g1,by omega⟩
      ·exact Or.inr (by omega)
     clear q hc;rcases z with⟨⟨n,o,k0⟩,g1,g2⟩|rfl
     all_goals
      go_wp2_with (first|(with_reducible refine a0m b0k (by omega) (by assumption) ?_)|(with_reducible refine a0m a0q (by omega) (by assumption) ?_))
      refine(H.out u (ExtX.refl _)).mono ?_;rintro e w4 ⟨b,m1,rfl,g5,g6⟩
      (try clear k0)
      clear f3;go_wp2_with fail
      refine(I.out w4 (.of b)).mono ?_;rintro e w5 ⟨c4,m2,rfl,g7,g8⟩;obtain rfl:=b2K (w:=u) (w1:=u) g5 g6 g7 g8 (Or.inl rfl);clear g5 g6 g7 g8;have a9:ExtX (tbm d) u w5:= .of (b.trans c4);have i3:=i5.ext (b.trans c4);clear H I;go_wp2_with fail
      refine(a8f X d _ w5 i3 (F.ext a9) (by omega) (by omega)).mono ?_;rintro e w6 ⟨c5,i4,v,rfl,l7,l8⟩;have g4:=F.ext (a9.trans c5);obtain⟨M,hM⟩:∃M:List Int,[v,h]=M:=⟨_,rfl⟩;have f5:M.length=2:=by rw[<-hM];rfl
      have m6:=hid (show∀x∈M,-9223372036854775808<=x/\x<=9223372036854775807 from fun x hx=>by
       subst hM;simp only[List.mem_cons,List.not_mem_nil,or_false]at hx;rcases hx with rfl|rfl<;>omega)
      have a2:=(b2f X w6 [v,h] 3 #[.int .i64 v, .int .i64 h] rfl g4 (by simp)).sl (a0v.elem .i64);have hA:Ext w6 (w6.alloc (.cells #[.int .i64 v, .int .i64 h] 3)):=(ExtX.refl _).alloc _;have e9:=hid (a9.trans c5);have h6:Hd (some ⟨w6.heap.size,0,none⟩) 2:=a2.hd;rw[hM]at a2;have f6:=hid f5;clear hM b c4 c5 i3 g4 l7 l8 f5 a9;go_wp2_with fail
      obtain⟨gb,h5⟩:∃gb:Option Addr,some ⟨w6.heap.size,0,none⟩=gb:=⟨_,rfl⟩;obtain⟨w7,i7⟩:∃w7,w6.alloc (.cells #[.int .i64 v, .int .i64 h] 3)=w7:=⟨_,rfl⟩;rw[h5]at a2 h6 |-;rw[i7]at a2 hA |-;have c9:=hid (e9.out.trans (.of hA));have l6:=i4.ext hA;clear h5 i7 e9 i4;go_loopw [86] (fun s wq=>∃j:Nat,s= .int .i64 j/\j<=2/\Ext w7 wq) (fun s _=>2 - (intOf s).toNat)
      case atStart=>exact⟨0,rfl,by decide,ExtX.refl _⟩
      case round=>
       obtain⟨j,rfl,hj,R⟩:=hrel;by_cases l0:j<2
       ·have k7:j<M.length:=by rw[f6.out];exact l0
        have Y:=(a2.mono (a0v.mono _) (a0l R)).int j k7;obtain⟨Q,hQ⟩:∃Q,M[j]=Q:=⟨_,rfl⟩;rw[hQ]at Y;have U:=hid fun a (h:ExtX (tbm d) u a)=>J.out a Q h;have V:=hid fun a (h:ExtX (tbm d) u a)=>a6.out a Q h;have e1:=hid (l4.out Q);unfold a6O at U V;obtain⟨Te,g3⟩:∃T,shE m Q=T:=⟨_,rfl⟩;rw[g3]at U V e1;obtain⟨T,hT⟩:∃T,(if Te=0 then a0x m mc Q.toNat else 0)=T:=⟨_,rfl⟩;rw[c2.out,hT]at e1;simp only[c2.out,hT]at U V;clear hQ hT g3;go_wp2_with (with_reducible refine a0m a2b (by omega) (by assumption) ?_)
        refine(U.out _ (c9.out.trans (.of R))).mono ?_;rintro e w8 ⟨j2,u8,rfl,e4⟩;obtain⟨s8,a8,n8,c8,d8,k8,e8,rfl⟩:=e4.shape;have bx:=Bx.new w8 #[.bool false, .slice none 0 0, .slice none 0 0] 41;clear Y;go_wp2_with ((with_reducible show wpList _ _ _ (⟨_, .store 41 _ _,_,_,_,_⟩::_) _ _);refine a0a a0k rfl rfl bx rfl rfl (a1n _ _ _ _ _ _ _) ?_;intro w9 r1 r2)
        have e7:Ext w8 w9:=ExtX.box ((ExtX.refl w8).alloc _) r2 (Nat.le_refl _);obtain⟨g9,d6⟩:∃g,w8.heap.size=g:=⟨_,rfl⟩;rw[d6]at r1
        (try rw[d6])
        have b8:=R.trans (j2.trans e7);have c1:=V.out _ (c9.out.trans (.of b8));clear bx r2 d6 U V;refine c1.mono ?_;rintro e b7 ⟨O,m9,rfl,a7⟩;obtain⟨m5,i8,m4,i9,j0,m3,j1,rfl⟩:=a7.shape;have bx:=Bx.new b7 #[.bool false, .slice none 0 0, .slice none 0 0] 41;clear c1;go_upto_region 19 with((with_reducible show wpList _ _ _ (⟨_, .store 41 _ _,_,_,_,_⟩::_) _ _);refine a0a a0k rfl rfl bx rfl rfl (a1n _ _ _ _ _ _ _) ?_;intro t r3 r4)
        have C:Ext b7 t:=ExtX.box ((ExtX.refl b7).alloc _) r4 (Nat.le_refl _);obtain⟨c3,a1⟩:∃g,b7.heap.size=g:=⟨_,rfl⟩;rw[a1]at r3
        (try rw[a1])
        have c6:=(b8.trans O).trans C;have e6:=r1.ext0 (O.trans C);have e3:=b7W X t _ _ T T (mkx QC.mono e4 (e7.trans (O.trans C))) (mkx QC.mono a7 C) (Nat.le_trans e1.out (by decide));simp only[decide_true]at e3;have k0:t.cell? ⟨g9,0,none⟩=some (.bool s8):=e6.cell 0 rfl;have k1:t.cell? ⟨g9,1,none⟩=some (.slice a8 n8 c8):=e6.cell 1 rfl;have k2:t.cell? ⟨g9,2,none⟩=some (.slice d8 k8 e8):=e6.cell 2 rfl;have k3:t.cell? ⟨c3,0,none⟩=some (.bool m5):=r3.cell 0 rfl;have k4:t.cell? ⟨c3,1,none⟩=some (.slice i8 m4 i9):=r3.cell 1 rfl;have k5:t.cell? ⟨c3,2,none⟩=some (.slice j0 m3 j1):=r3.cell 2 rfl;clear bx r4 a1 e4 a7 r1;go_wp2_with fail
        refine e3.mono ?_;rintro e n0 ⟨ga,rfl⟩;have c7:=c6.trans ga;clear e3 k0 k1 k2 k3 k4 k5;go_wp2_with fail
        go_roundw
        case rel=>exact⟨j+1,by go_num,by omega,c7⟩
        case measure=>simp[intOf];omega
       ·go_wp2_with fail
        go_roundw
        case rel=>exact⟨i+1,by go_num,by omega,l6.ext R,hE.trans (c9.out.trans (.of R))⟩
        case measure=>simp[intOf];omega
   ·have d9:=a1y u
    go_wp2_with fail
    refine d9.mono ?_;rintro e w4 ⟨b,rfl⟩;go_wp2_with fail
    go_ret
    exact⟨h3.out _ (j3.out.trans (hE.trans (.of b))),rfl⟩
open Go.ChangeShapes Go.WideShapes Go.ChangeAt Go.Deep
theorem a9l{n:Int}(h:(Lit.int .i64 n).wf=true): -9223372036854775808<=n/\n<=9223372036854775807:=by
 unfold Lit.wf at h;simpa[IntKind.min,IntKind.max,IntKind.signed,IntKind.bits]using h
section
variable {H:Type} {enc:TypeId×Value->H} {P:Program} {w:World} {base:Nat} {spare:Nat->Bool} {held:Bool}
theorem b2L{f:Nat}{v:Value}{x:DataW H×List MemPlace}(h:DataW.trod enc Tryz.prog w base spare held f 22 [v]=some x):∃(a:Option Addr) (l:List Int) (cap:Nat),v= .slice a l.length cap/\l.length<=cap/\l.length<=9223372036854775807/\Sl (a0v .i64) 1 (mk noY w) a l/\∀x∈l,-9223372036854775808<=x/\x<=9223372036854775807:=by
 rw[a3k];rcases open_ints Tryz.underlying22 Tryz.underlying3 (by kernel_rfl) h with⟨e,_⟩|⟨x,len,c,m,e,_,C,u,hz,_,d,o⟩
 ·refine⟨none,[],0,by simpa using e,by simp,by simp,Sl.nil _ _ _ _,by simp⟩
 ·have A:len<=m.length:=by
   rw[hz];split<;>omega
  have k:(m.take len).length=len:=by simp;omega
  have s:c<=9223372036854775807:=by simpa[maxLen]using u
  refine⟨some x,m.take len,c,by rw[k];simpa using e,by omega,by omega,⟨fun B=>?_,fun i hi=>?_⟩,fun y z=>a9l (o y (List.mem_of_mem_take z))⟩
  ·obtain⟨_,b,p,hx⟩:=a0U (d 0 (by omega))
   exact⟨b,p,by rw[hx]⟩
  ·have g:i<m.length:=by omega
   refine⟨.int .i64 (m.take len)[i],rfl,fun j r=>?_,rfl⟩;have n:j=0:=by simp[Value.cells]at r;exact r
   subst n;have q:=d i g;have t:=(a0U (d 0 (by omega))).1 i;rw[t]at q;simp only[Nat.mul_one,Nat.add_zero,List.getElem_take];rw[q];simp[List.getD_eq_getElem?_getD,g,Value.cells]
end
end Go.Proofs.YtnnpfhoigmegcaaGreat
namespace Go.Proofs.YtnnpfhoigmegcaaGreat.seat
open Go.RowKit
theorem and_t{a b:Bool}(c:a=true)(d:b=true):(a&&b)=true:=by rw[c,d];rfl
theorem laid:laidOutB Tryz.pinned.checked.prog=true:=by kernel_rfl
theorem maps:mapsRowed Tryz.pinned.checked.prog=true:=by kernel_rfl
theorem stops:(Program.stops Tryz.pinned.checked.prog==[])=true:=by kernel_rfl
theorem knobs:(Program.stopKnobs Tryz.pinned.checked.prog==[])=true:=by kernel_rfl
theorem heard:Program.stopsHeard Tryz.pinned.checked.prog=true:=by kernel_rfl
theorem enter:Program.mayEnter Tryz.pinned.checked.prog=true:=by kernel_rfl
theorem lifts:(Rows.certifyFitsRow.lifted==Program.liftsFinal Tryz.pinned.checked.prog)=true:=by kernel_rfl
theorem make:(Program.make Tryz.pinned.checked.prog==some Rows.certifyFitsRow.make)=true:=by kernel_rfl
theorem plain:(Rows.certifyFitsRow.plainKeys==Program.plainKeys Tryz.pinned.checked.prog)=true:=by kernel_rfl
end Go.Proofs.YtnnpfhoigmegcaaGreat.seat
