/- Parts of a proof: each theorem states what it proves, and its conditions. -/
import Derived.Test.YtnnpfhoigmegcaaGreatBkJ
import Derived.BigQuiet
import Derived.Deep.DrawnRows
import Derived.Deep.LoopGhost
import Derived.IntWalk
set_option maxRecDepth 100000
set_option maxHeartbeats 3200000
namespace Go.Lin
open Go.Lim Go.Rep
theorem a4K{m:List (List Rat)}:a2F m=true↔(1<=m.length/\m.length<=64)/\a6b m 1 4=true:=by
 unfold a2F;simp only[Bool.and_eq_true,decide_eq_true_eq]
theorem b4a{x:Mat}(h:x.length<1\/64<x.length):a2F x=false:=by
 cases a:a2F x
 ·rfl
 ·have:=(a4K.1 a).1;omega
theorem b4b{x:Mat}(i:Nat)(hi:i<x.length)(h:x[i].length≠a0n x):a2F x=false:=by
 cases a:a2F x
 ·rfl
 ·exact absurd (a2N.1 (a4K.1 a).2 i hi).1 h
theorem b4c{x:Mat}(a:0<x.length)(h:a0n x<1\/4<a0n x):a2F x=false:=by
 cases b:a2F x
 ·rfl
 ·have:=a2N.1 (a4K.1 b).2 0 a
  omega
end Go.Lin
namespace Go.Proofs.YtnnpfhoigmegcaaGreat
open Go.RowKit Go.Rep Go.Lim Go.Lin
def b2k(w:World)(x:Mat)(e:Ending)(w':World):Prop:=Ext w w'/\∃k:Nat,e= .returned (.tuple #[.int .i64 (k:Int), .bool (a2F x)])/\(a2F x=true->k=a0n x)
theorem a6f(X:Nat->Bool)(w:World)(u:Value)(x:Mat)(hu:MV (mk X w) u x)(hl:x.length<=1099511627776):Calls Tryz.prog 110 #[u] w (b2k w x):=by
 obtain⟨ao,ca,rfl,J,l⟩:=hu;have K:=l.hd;have d:=hid (b4a (x:=x));by_cases g:x.length<1
 ·have S:(x.length:Int)<1:=by omega
  have a:=hid (d.out (.inl g));clear g;go_enter Tryz.func110,Tryz.ntmps110
  go_wp2_with fail
  go_ret2
  exact⟨ExtX.refl _,0,by rw[a.out];rfl,fun h=>by rw[a.out]at h;simp at h⟩
 have S:¬(x.length:Int)<1:=by omega
 by_cases o:64<x.length
 ·have T:(64:Int)<(x.length:Int):=by omega
  have a:=hid (d.out (.inr o));clear g o;go_enter Tryz.func110,Tryz.ntmps110
  go_wp2_with fail
  go_ret2
  exact⟨ExtX.refl _,0,by rw[a.out];rfl,fun h=>by rw[a.out]at h;simp at h⟩
 have T:¬(64:Int)<(x.length:Int):=by omega
 have E:0<x.length:=by omega
 obtain⟨n,F⟩:∃n,x.length=n:=⟨_,rfl⟩;have M:=hid F;obtain⟨a2,c2,a0,r,t,O⟩:=l.row 0 E;have m:=r.out noY w (ExtX.refl _) rfl;have j:=a1x E;rw[<-j]at m;have B:=hid (fun i hi h=>b4b (x:=x) i hi h);have e:=hid (fun h=>b4c (x:=x) E h);have k:Hid ((∀q,q<n->∀hq:q<x.length,x[q].length=a0n x)->1<=a0n x->a0n x<=4->a2F x=true):=hid fun Y h4 h5=>a4K.2 ⟨⟨by omega,by omega⟩,a2N.2 fun i hi=>by
  have:=Y i (by omega) hi;omega⟩
 obtain⟨c,I⟩:∃c,a0n x=c:=⟨_,rfl⟩;have b:=hid I;rw[I]at m e k;have U:n<=64:=by omega
 have a3:1<=n:=by omega
 rw[F]at J |-;rw[F]at S T K;clear j r O t g o E F I d hl;go_enter Tryz.func110,Tryz.ntmps110
 go_wp2_with (with_reducible refine a0m a0q (by omega) (by assumption) ?_)
 go_loop [21] (fun G=>∃i:Nat,G= .int .i64 i/\i<=n/\Hid (∀q,q<i->∀hq:q<x.length,x[q].length=a0n x)) (fun G=>n - (intOf G).toNat)
 case atStart=>exact⟨0,rfl,Nat.zero_le _,hid fun q hq=>by omega⟩
 case round=>
  obtain⟨i,rfl,hi,C⟩:=hrel;by_cases y:i<n
  ·have v:i<x.length:=by rw[M.out];exact y
   obtain⟨a1,c1,Z,p,s,N⟩:=l.row i v;have R:=p.out noY w (ExtX.refl _) rfl;have A:=hid (B.out i v);obtain⟨z,hz⟩:∃z,x[i].length=z:=⟨_,rfl⟩;have P:Hid (z=c->∀hq:i<x.length,x[i].length=a0n x):=hid fun h hq=>by rw[hz,b.out];exact h
   rw[hz,b.out]at A;rw[hz]at R;clear hz p N s;by_cases f:z=c
   ·have H:((z:Int) !=(c:Int))=false:=b2N (by omega)
    have D:=hid (P.out f);clear f;go_wp2_with (with_reducible refine a0m a0q (by omega) (by assumption) ?_)
    go_round
    case rel=>exact⟨i+1,by go_num,by omega,hid (a4r C.out D.out)⟩
    case measure=>simp[intOf];omega
   ·have H:((z:Int) !=(c:Int))=true:=a7B (by omega)
    have a:=hid (A.out f);clear f;go_wp2_with (with_reducible refine a0m a0q (by omega) (by assumption) ?_)
    go_ret2
    exact⟨ExtX.refl _,0,by rw[a.out];rfl,fun h=>by rw[a.out]at h;simp at h⟩
  ·have L:i=n:=by omega
   subst L;have Q:=hid (k.out fun q g o=>(C.out q g o).trans b.out);clear y m;by_cases g:1<=c
   ·have H:(1:Int)<=(c:Int):=by omega
    by_cases W:c<=4
    ·have V:(c:Int)<=4:=by omega
     have a:=hid (Q.out g W);go_wp2_with fail
     go_ret2
     exact⟨ExtX.refl _,c,by rw[a.out];rfl,fun _=>b.out.symm⟩
    ·have V:¬(c:Int)<=4:=by omega
     have a:=hid (e.out (.inr (by omega)));go_wp2_with fail
     go_ret2
     exact⟨ExtX.refl _,c,by rw[a.out];rfl,fun _=>b.out.symm⟩
   ·have H:¬(1:Int)<=(c:Int):=by omega
    have a:=hid (e.out (.inl (by omega)));go_wp2_with fail
    go_ret2
    exact⟨ExtX.refl _,c,by rw[a.out];rfl,fun _=>b.out.symm⟩
theorem a6N(X:Nat->Bool)(w:World)(u v:Value)(l m:List Rat)(hX:HX X w)(hu:RV (mk X w) u l)(hv:RV (mk X w) v m)(hn:l.length<=1000000)(q:m.length=l.length)(A:∀k,k<=l.length->hq (a5B l m k)<=68719476736)(B:∀k,k<l.length->hq (l.getD k 0*m.getD k 0)<=68719476736):Calls Tryz.prog 47 #[u,v] w (a1F X w QC (a8G l m)):=by
 obtain⟨ao,ca,rfl,c2,a4⟩:=hu;obtain⟨bo,cb,rfl,c3,a5⟩:=hv;have T:=a4.hd;have U:=a5.hd;obtain⟨W,hW,hE,G,t,hz⟩:=a1a w #[.bool false, .slice none 0 0, .slice none 0 0] #[.bool false, .slice none 0 0, .slice none 0 0] 41 41;have J:HX (a0e X w.heap.size 2) W:=hX.boxes hz;have h0:QC (mk (a0e X w.heap.size 2) W) (.agg #[.bool false, .slice none 0 0, .slice none 0 0]) (a5B l m 0):=QC.zero _;obtain⟨n,p⟩:∃n,l.length=n:=⟨_,rfl⟩;rw[p]at hn q A B c2 T |-;rw[q]at c3 U |-;have a0:=hid p;have a1:=hid q;have L:=hid A;have M:=hid B;have Q:Hid (a5B l m n=a8G l m):=hid (by unfold a8G;rw[p]);clear p q A B;go_enter Tryz.func47,Tryz.ntmps47
 go_wp2_with fail
 obtain⟨b,hb⟩:∃b,w.heap.size=b:=⟨_,rfl⟩;have Z:Hid (∀wr,Ext w wr->Le (mk X w) (mk (a0e X b 2) wr)):=hid fun wr h=>by rw[<-hb];exact a0i h
 have f3:w.heap.size<=b:=by omega
 rw[hb]at G t J h0 |-;clear hW;go_loopw [9] (fun k wr=>∃(i:Nat) (s:Bool) (a:Option Addr) (n' c':Nat) (d:Option Addr) (kk e:Nat),k= .int .i64 i/\i<=n/\Bx wr b #[.bool false, .slice none 0 0, .slice none 0 0] 41/\Bx wr (b+1) #[.bool s, .slice a n' c', .slice d kk e] 41/\QC (mk (a0e X b 2) wr) (.agg #[.bool s, .slice a n' c', .slice d kk e]) (a5B l m i)/\HX (a0e X b 2) wr/\Ext w wr) (fun k _=>n - (intOf k).toNat)
 case atStart=>exact⟨0,_,_,_,_,_,_,_,rfl,Nat.zero_le _,G,t,h0,J,hE⟩
 case round=>
  obtain⟨i,s,a,n',c',d,kk,e,rfl,hi,G,t,hq,c1,o⟩:=hrel;by_cases E:i<n
  ·have V:i<l.length:=by rw[a0.out];exact E
   have Y:i<m.length:=by rw[a1.out];exact E
   have d0:=a4.mono QV.mono (Z.out wr o);have a8:=a5.mono QV.mono (Z.out wr o);obtain⟨g1,o1,s1,p1,n1,q1,d1,k1,e1,R,e8,O,a2⟩:=d0.rat QV.shaped i V;obtain⟨g2,o2,s2,p2,n2,q2,d2,k2,e2,S,e9,P,a3⟩:=a8.rat QV.shaped i Y;have gl:Hid (l.getD i 0=l[i]):=hid (by simp[List.getD_eq_getElem?_getD,V]);have gm:Hid (m.getD i 0=m[i]):=hid (by simp[List.getD_eq_getElem?_getD,Y]);have r:Hid (a5B l m i+l[i]*m[i]=a5B l m (i+1)):=hid (by rw[<-gl.out,<-gm.out];rfl);have N:=hid (L.out i hi);have C:=hid (M.out i E);rw[gl.out,gm.out]at C;obtain⟨x,hx⟩:∃x,l[i]=x:=⟨_,rfl⟩;obtain⟨y,hy⟩:∃y,m[i]=y:=⟨_,rfl⟩;rw[hx,hy]at r C;rw[hx]at a2;rw[hy]at a3;have i1:∀W,(Instr.indexAt 26 (.slice ao n ca) (.int .i64 (i:Int))).run Tryz.prog W= .ok (.pointer (some ⟨g1,o1,none⟩)) W:=by rw[<-R];exact a0j a0J ao n ca .i64 i T (by omega)
   have i2:∀W,(Instr.indexAt 26 (.slice bo n cb) (.int .i64 (i:Int))).run Tryz.prog W= .ok (.pointer (some ⟨g2,o2,none⟩)) W:=by rw[<-S];exact a0j a0J bo n cb .i64 i U (by omega)
   obtain⟨D,hD⟩:∃D,a5B l m i=D:=⟨_,rfl⟩;obtain⟨D2,z⟩:∃D2,a5B l m (i+1)=D2:=⟨_,rfl⟩;rw[hD]at hq r N;rw[z]at r;have H:=hid z;clear hx hy R S hD z;have c:Ext wr wr.drew:=(ExtX.refl wr).drew;have b5:=G.ext0 c;have g:=t.ext0 c;have b2:=g.cell 0 rfl;have b3:=g.cell 1 rfl;have b4:=g.cell 2 rfl;obtain⟨d5,d8,d9⟩:=O.out noY wr.drew c rfl;obtain⟨e0,e3,e4⟩:=P.out noY wr.drew c rfl;have K:=c1.ext c;have d3:QV (mk (a0e X b 2) wr.drew) (.agg #[.bool s1, .slice p1 n1 q1, .slice d1 k1 e1]) x:=mkx QV.mono a2 c;have d4:QV (mk (a0e X b 2) wr.drew) (.agg #[.bool s2, .slice p2 n2 q2, .slice d2 k2 e2]) y:=mkx QV.mono a3 c;have c8:QV (mk (a0e X b 2) wr.drew) (.agg #[.bool s, .slice a n' c', .slice d kk e]) D:=(mkx QC.mono hq c).qv N.out;clear O P;go_wp2_with fail
   go_region_with (first|(go_at_call 49;(with_reducible refine(b3A (a0e X b 2) wr.drew _ _ _ _ K d3 d4).mono ?_);rintro ee w6 ⟨t1,u6,rfl,a9⟩;obtain⟨s6,a6,n6,c6,d6,k6,e6,rfl⟩:=a9.shape;have I:=K.ext t1;have c9:=mkx QV.mono c8 t1;have c5:=a9.qv C.out;have j:=g.ext0 t1;have m0:=j.cell 0 rfl;have m1:=j.cell 1 rfl;have m2:=j.cell 2 rfl)|(go_at_call 48;(with_reducible refine(b1C (a0e X b 2) w6 _ _ _ _ I c9 c5).mono ?_);rintro ee w7 ⟨t7,u7,rfl,F⟩;obtain⟨s7,a7,n7,c7,d7,k7,e7,rfl⟩:=F.shape;rw[r.out]at F;have f:=j.ext0 t7;have g0:=f.cell 0 rfl;have b7:=f.cell 1 rfl;have b8:=f.cell 2 rfl;have f0:=f.frozen 0;have f1:=f.frozen 1;have f2:=f.frozen 2))
   all_goals
    obtain⟨z1,z2⟩:=f.set3 (.bool s7) (.slice a7 n7 c7) (.slice d7 k7 e7);have h8:=QC.mono _ _ _ _ (a0f (lo:=b) (nb:=2) z2 (by omega) (by omega)) F;have b6:=((b5.ext0 t1).ext0 t7).ext z2 (a0c (by omega));have b9:Ext w _:=ExtX.box (o.trans (c.trans (t1.trans t7))) z2 (by omega);have c0:=(I.ext t7).ext z2;rw[<-H.out]at h8;clear b2 b3 b4 d5 d8 d9 e0 e3 e4 m0 m1 m2 g0 b7 b8 f0 f1 f2 i1 i2;go_wp2_with fail
    go_roundw
    case rel=>exact⟨i+1,_,_,_,_,_,_,_,by go_num,by omega,b6,z1,h8,c0,b9⟩
    case measure=>simp[intOf];omega
  ·have c4:i=n:=by omega
   subst c4;rw[Q.out]at hq;have b2:=t.cell 0 rfl;have b3:=t.cell 1 rfl;have b4:=t.cell 2 rfl;go_wp2_with ((with_reducible show wpList _ _ _ (⟨_, .store _ _ _,_,_,_,_⟩::_) _ _);refine a0a a0k rfl rfl G rfl rfl (a1n _ _ _ _ _ _ _) ?_;intro w7 r1 r2)
   have h7:=QC.mono _ _ _ _ a0h (QC.mono _ _ _ _ (a0f r2 (by omega) (by omega)) hq);exact bodyPost_ret (a0d rfl rfl a0k r1 rfl) rfl ⟨ExtX.box o r2 (by omega),_,rfl,h7⟩
end Go.Proofs.YtnnpfhoigmegcaaGreat
namespace Go.Lin
theorem a9R{m:Mat}{i j:Nat}(hi:i<m.length)(a:j<m[i].length):m[i][j]=ent m i j:=by
 unfold ent;rw[show m.getD i []=m[i]by simp[List.getD_eq_getElem?_getD,hi],List.getD_eq_getElem?_getD,List.getElem?_eq_getElem a];rfl
theorem b2l{m:Mat}{n c:Nat}(h:Shp n c m)(b:n=0->c=0):a0n m=c:=by
 by_cases d:0<n
 ·have a:0<m.length:=by rw[h.1];exact d
  rw[a1x a];exact h.2 _ (List.getElem_mem _)
 ·have:m= []:=List.eq_nil_of_length_eq_zero (by rw[h.1];omega)
  subst this;rw[b (by omega)];rfl
end Go.Lin
namespace Go.Proofs.YtnnpfhoigmegcaaGreat
open Go.RowKit Go.Rep Go.Lim Go.Lin
theorem a9S{R:Mem->Value->Rat->Prop}(X:Nat->Bool)(w:World)(u:Value)(m:List (List Rat))(l:SlV (SlV R 3) 1 (mk X w) u m):Calls Tryz.prog 238 #[u] w (fun e o=>o=w/\e= .returned (.int .i64 (a0n m:Int))):=by
 obtain⟨ao,r,rfl,i,a⟩:=l;have j:=a.hd;by_cases h:0<m.length
 ·obtain⟨p,q,g,c,d,k⟩:=a.row 0 h
  have n:=c.out noY w (ExtX.refl _) rfl;have b:=hid (a1x h);have f:((m.length:Int)==0)=false:=a2v (by omega);go_enter Tryz.func238,Tryz.ntmps238
  go_wp2_with (with_reducible refine a0m a0q (by omega) (by assumption) ?_)
  go_ret
  exact⟨rfl,a0I (by rw[b.out])⟩
 ·have b:Hid (a0n m=0):=hid (by
   have:m= []:=List.eq_nil_of_length_eq_zero (by omega);subst this;rfl)
  have f:((m.length:Int)==0)=true:=b3h (by omega);go_enter Tryz.func238,Tryz.ntmps238
  go_wp2_with (with_reducible refine a0m a0q (by omega) (by assumption) ?_)
  go_ret
  exact⟨rfl,a0I (by rw[b.out];rfl)⟩
theorem b6s{R:Mem->Value->Rat->Prop}(V:a2X R)(X:Nat->Bool)(w:World)(u:Value)(m:List (List Rat))(hu:SlV (SlV R 3) 1 (mk X w) u m)(hl:m.length<=1099511627776):Calls Tryz.prog 208 #[u] w (a8n w (a1o m)):=by
 obtain⟨ao,F,rfl,K,B⟩:=hu;have k:=B.hd;by_cases J:96<m.length
 ·have f:Hid (false=a1o m):=hid (by
   symm;cases hf:a1o m
   ·rfl
   ·have:=(a1w.1 hf).1;omega)
  have Q:(96:Int)<(m.length:Int):=by omega
  go_enter Tryz.func208,Tryz.ntmps208
  go_wp2_with fail
  go_ret
  exact⟨ExtX.refl _,a0p f.out⟩
 ·have Q:¬(96:Int)<(m.length:Int):=by omega
  obtain⟨n,M⟩:∃n,m.length=n:=⟨_,rfl⟩;have o:=hid M;have a0:n<=96:=by omega
  rw[M]at k Q |-;clear M hl J K;go_enter Tryz.func208,Tryz.ntmps208
  go_wp2_with fail
  go_loopw [3] (fun c wr=>∃(i:Nat),c= .int .i64 i/\i<=n/\Hid (∀q,q<i->∀hq:q<m.length,1<=m[q].length/\m[q].length<=96/\m[q].length=a0n m)/\Ext w wr) (fun c _=>n - (intOf c).toNat)
  case atStart=>exact⟨0,rfl,Nat.zero_le _,hid (fun q hq=>by omega),ExtX.refl _⟩
  case round=>
   obtain⟨i,rfl,hi,A,r⟩:=hrel;by_cases L:i<n
   ·have l:i<m.length:=by rw[o.out];exact L
    have I:0<m.length:=by omega
    have C:=B.mono (SlV.mono V 3) (a0l r);obtain⟨a1,c1,Y,s,v,N⟩:=C.row i l;obtain⟨a2,c2,Z,t,z,O⟩:=C.row 0 I;have e:=s.out noY wr (ExtX.refl _) rfl;have b:=t.out noY wr (ExtX.refl _) rfl;have H:∀W,(Instr.indexAt 25 (.slice ao n F) (.int .i64 (i:Int))).run Tryz.prog W= .ok (.pointer (some (adr ao i))) W:=a0E a0q ao n F .i64 i k (by omega) rfl;have G:∀W,(Instr.indexAt 25 (.slice ao n F) (.int .i64 0)).run Tryz.prog W= .ok (.pointer (some (adr ao 0))) W:=a0E a0q ao n F .i64 0 k (by omega) rfl;have j:=a1x I;have a:=hid (a4D i l);rw[<-j]at b;obtain⟨x,hx⟩:∃x,m[i].length=x:=⟨_,rfl⟩;obtain⟨y,P⟩:∃y,a0n m=y:=⟨_,rfl⟩;rw[hx]at e a;rw[P]at b a;have d:Hid (1<=x/\x<=96/\x=y->∀hq:i<m.length,1<=m[i].length/\m[i].length<=96/\m[i].length=a0n m):=hid fun h hq=>by rw[hx,P];exact h
    clear hx P j s t N O v z I l;by_cases g:x=0
    ·have S:decide ((x:Int)<1)=true:=decide_eq_true (by omega)
     have f:=hid (a.out (by omega));clear g a d;go_wp2_with fail
     go_region
     all_goals
      clear e b H G;go_wp2_with fail
      go_ret
      exact⟨r.trans (ExtX.refl wr).drew,a0p f.out⟩
    ·have S:decide ((x:Int)<1)=false:=decide_eq_false (by omega)
     by_cases E:96<x
     ·have T:decide ((96:Int)<(x:Int))=true:=decide_eq_true (by omega)
      have f:=hid (a.out (by omega));clear g a d;go_wp2_with fail
      go_region
      all_goals
       clear e b H G;go_wp2_with fail
       go_ret
       exact⟨r.trans (ExtX.refl wr).drew,a0p f.out⟩
     ·have T:decide ((96:Int)<(x:Int))=false:=decide_eq_false (by omega)
      by_cases p:x=y
      ·have U:((x:Int) !=(y:Int))=false:=b2N (by omega)
       have D:=hid (d.out ⟨by omega,by omega,p⟩);clear g p a d E;go_wp2_with fail
       go_region
       all_goals
        clear e b H G;go_wp2_with fail
        go_roundw
        case rel=>exact⟨i+1,by go_num,by omega,hid (a4r A.out D.out),r.trans (ExtX.refl wr).drew⟩
        case measure=>simp[intOf];omega
      ·have U:((x:Int) !=(y:Int))=true:=a7B (by omega)
       have f:=hid (a.out (by omega));clear g p a d E;go_wp2_with fail
       go_region
       all_goals
        clear e b H G;go_wp2_with fail
        go_ret
        exact⟨r.trans (ExtX.refl wr).drew,a0p f.out⟩
   ·have f:Hid (true=a1o m):=hid (by
     symm;exact a1w.2 ⟨by rw[o.out];omega,fun q hq=>A.out q (by rw[o.out]at hq;omega) hq⟩)
    go_wp2_with fail
    go_ret
    exact⟨r,a0p f.out⟩
end Go.Proofs.YtnnpfhoigmegcaaGreat
namespace Go.Lin
end Go.Lin
namespace Go.Proofs.YtnnpfhoigmegcaaGreat
open Go.RowKit Go.Rep Go.Lim Go.Lin
end Go.Proofs.YtnnpfhoigmegcaaGreat
namespace Go.Lin
open Go.Lim Go.Rep
end Go.Lin
namespace Go.Proofs.YtnnpfhoigmegcaaGreat
open Go.RowKit Go.Rep Go.Lim Go.Lin
attribute [local go_sem↓] Go.wp_at_zero Go.wp_at_succ
def b4V(X:Nat->Bool)(w:World)(S:Sr)(e:Ending)(w':World):Prop:=Ext w w'/\∃oo co po pc uf,e= .returned (.tuple #[.slice oo S.1.length co, .slice po S.2.1.length pc,uf])/\S.1.length<=co/\S.2.1.length<=pc/\Sl RC 1 (mk X w') oo S.1/\Sl (a0b .i64) 1 (mk X w') po S.2.1/\QC (mk X w') uf S.2.2
theorem a9d(X:Nat->Bool)(w:World)(u:Value)(m:List (List Rat))(n c:Nat)(hX:HX X w)(hu:MV (mk X w) u m)(i4:Shp n c m)(hc:a0n m=c)(hn:n<=900)(E3:c<=900)(hT:a7v m c):Calls Tryz.prog 209 #[u] w (b4V X w (rN m c)):=by
 obtain⟨W,hW,g7,b0,hz⟩:=a0Q w #[.bool false, .slice none 0 0, .slice none 0 0] 41;have h5:HX (a0e X w.heap.size 1) W:=hX.boxes hz;have z6:MV (mk (a0e X w.heap.size 1) W) u m:=MV.mono _ _ _ _ (a0i g7) hu;have s4:=b5V (a0e X w.heap.size 1) W u m h5 z6 (by rw[i4.1];omega) (fun r hr=>by rw[i4.2 r hr];omega);have l5:=hid i4.1;have i5:=hid i4;have C2:Hid (n=0->c=0):=hid fun h=>by
  have:m= []:=List.eq_nil_of_length_eq_zero (by rw[l5.out];exact h);rw[<-hc,this];rfl
 obtain⟨B,t9,u1⟩:=hT;have u4:=hid u1;have A:=hid t9;have f7:Hid (∀w',Le (mk (a0e X w.heap.size 1) w') (mk X w')):=hid fun w'=>a0h;have g6:Hid (a0e X w.heap.size 1 w.heap.size=true):=hid (a7p (Nat.le_refl _) (by omega));obtain⟨C,n3⟩:∃C,a0e X w.heap.size 1=C:=⟨_,rfl⟩;obtain⟨b,hb⟩:∃b,w.heap.size=b:=⟨_,rfl⟩;rw[n3]at h5 s4 f7 g6;rw[hb]at b0 g6;have B6:W.heap.size=b+1:=by rw[<-hb];exact hz
 have o1:Hid (w.heap.size=b):=hid hb;clear hu z6 n3 hz hb i4 u1 t9;go_enter Tryz.func209,Tryz.ntmps209
 go_wp2_with fail
 refine s4.mono ?_;rintro e w1 ⟨a4,oo,J,rfl,b5⟩;have n4:HX (un C oo) w1:=b5.unX (h5.ext a4);clear hW;rw[l5.out];go_wp2_with fail
 refine(a3W (un C oo) w1 1 n4 (by decide) (by decide)).mono ?_;rintro e w2 ⟨b4,u2,rfl,t4⟩;obtain⟨s2,a2,n2,c2,d2,k2,e2,rfl⟩:=t4.shape;have bf:=Bx.new w2 #[.bool false, .slice none 0 0, .slice none 0 0] 41;go_wp2_with ((with_reducible show wpList _ _ _ (⟨_, .store _ _ _,_,_,_,_⟩::_) _ _);refine a0a a0k rfl rfl bf rfl rfl (a1n _ _ _ _ _ _ _) ?_;intro w3 r1 r2)
 have f8:Ext w2 w3:=ExtX.box ((ExtX.refl w2).alloc _) r2 (Nat.le_refl _);have b6:=b5.ext0 RC.elem b4;have y0:∀k,ob oo k=true->k<w2.heap.size:=fun k V=>(b6.block V).2;obtain⟨G,q7⟩:∃G,w2.heap.size=G:=⟨_,rfl⟩;obtain⟨base,b8⟩:∃base,W.heap.size=base:=⟨_,rfl⟩;have D0:=a4.size;have D1:=b4.size;have A7:RS C w b G base 26 41 3 w3 oo J none 0 m [] 1:=by
  subst q7 b8;refine⟨b6.ext RC.elem f8 (fun k _ h=>by simp[noY]at h) (fun k V hz=>?_),OL.nil _ _ _ _ _ _,⟨s2,a2,n2,c2,d2,k2,e2,r1,QC.mono _ _ _ _ (a0T f8 (fun k _ h=>by simp[noY]at h) fun k V hz=>?_) t4⟩,h5.ext (a4.trans (b4.trans f8)),b0.ext0 (a4.trans (b4.trans f8)),g6.out,?_,g7.trans (a4.trans (b4.trans f8)),?_,?_⟩
  ·by_cases h:C k=true
   ·exact h
   ·have h':C k=false:=by simpa using h
    have:w2.heap.size=k:=by simpa[un,a8P,ob,h']using hz
    omega
  ·by_cases h:un C oo k=true
   ·exact h
   ·have h':un C oo k=false:=by simpa using h
    obtain⟨h1,h2⟩:=a1E h';have e1:ob (none:Option Addr) k=false:=rfl;have e2:ob (some ⟨w2.heap.size,0,none⟩) k=(w2.heap.size==k):=rfl;have:w2.heap.size=k:=by simpa[un,a6c,a8P,h1,h2,e1,e2]using hz
    omega
  ·omega
  ·have:=g7.size;omega
  ·have:=g7.size;omega
 have o2:n<=J:=by have:=b5.lenCap;rw[l5.out]at this;exact this
 have e6:Hd oo n:=by have:=b5.hd;rw[l5.out]at this;exact this
 rw[q7,o1.out];clear b5 b6 y0 t4 bf r1 r2 a4 b4 f8 D0 D1 s4 b0 h5 n4 g7 q7 b8 B6;go_loopg [5,7] c (fun g p k wr=>∃(j:Nat) (F:Option Addr) (pc z:Nat) (M:Mat) (P:List Nat) (f:Rat),k= .int .i64 j/\p= .slice F z pc/\j+g=c/\Hid (P.length=z)/\Hid (rN m j=(M,P,f))/\RS C w b G base 26 41 3 wr oo J F pc M P f)
 case atStart=>exact⟨0,none,0,0,m,[],1,rfl,rfl,by omega,hid rfl,hid rfl,A7⟩
 case round=>
  obtain⟨j,F,pc,z,M,P,f,rfl,rfl,hj,f0,i6,L⟩:=hrel;have l6:=a8p i5.out j;rw[i6.out]at l6;have hM:=hid l6.shp;have f9:Hid (M.length=n):=hid hM.out.1;have C7:z<=n:=by have h1:P.length<=n:=l6.ref.le;rw[f0.out]at h1;exact h1
  have j6:=hid (u4.out j (by omega));rw[i6.out]at j6;have h8:a0n M=c:=b2l hM.out C2.out;have l0:=a9S (R:=QC) (un (a8P C G) F) wr (.slice oo n J) M ⟨oo,J,by rw[f9.out],by rw[f9.out];exact o2,L.rows.sl RC.elem⟩;rw[h8]at l0;clear l6 h8;by_cases r4:j<c
  ·go_wp2_with fail
   refine l0.mono ?_;rintro e w2 ⟨rfl,rfl⟩;clear l0;go_wp2_with fail
   go_loopw [9] (fun a wx=>∃(t:Nat),a= .int .i64 t/\z<=t/\t<=n/\Hid (∀i,z<=i->i<t->ent M i j=0)/\RS C w b G base 26 41 3 wx oo J F pc M P f) (fun a _=>n - (intOf a).toNat)
   case atStart=>exact⟨z,rfl,Nat.le_refl _,C7,hid (fun i h1 h2=>by omega),L⟩
   case round=>
    clear L;obtain⟨t,rfl,E4,E5,m3,L⟩:=hrel;by_cases l9:t<n
    ·have i7:t<M.length:=by rw[f9.out];exact l9
     obtain⟨a1,c1,t6,A4,o3,r6⟩:=L.row t i7;have r9:Hid (M[t].length=c):=hid (hM.out.2 _ (List.getElem_mem _));have x5:j<M[t].length:=by rw[r9.out];exact r4
     have d1:=hid (a9R i7 x5);rw[r9.out]at t6 o3;have x4:Hd a1 c:=by have:=r6.hd;rw[r9.out]at this;exact this
     have a3:=hid (j6.out.1 t j);have q4:=L.hz;obtain⟨g9,o9,s5,a5,n5,c5,d5,k5,e5,x1,h6,v8,i8⟩:=r6.rat QC.shaped j x5;rw[d1.out]at i8;obtain⟨x,hx⟩:∃x,ent M t j=x:=⟨_,rfl⟩;rw[hx]at d1 a3 i8;have m2:=hid hx;obtain⟨A1,A2,A3⟩:=v8.out noY wr (ExtX.refl _) rfl;have i1:∀W,(Instr.indexAt 25 (.slice oo n J) (.int .i64 (t:Int))).run Tryz.prog W= .ok (.pointer (some (adr oo t))) W:=a0E a0q oo n J .i64 t e6 (by omega) rfl;have i2:∀W,(Instr.indexAt 26 (.slice a1 c c1) (.int .i64 (j:Int))).run Tryz.prog W= .ok (.pointer (some ⟨g9,o9,none⟩)) W:=by rw[<-x1];exact a0j a0J a1 c c1 .i64 j x4 (by omega)
     clear hx A4 v8 x1 h6;by_cases h0:x=0
     ·have y9:(x.num.sign==(0:Int))=true:=by rw[h0];rfl
      have A0:Hid (∀i,z<=i->i<t+1->ent M i j=0):=hid fun i h1 h2=>by
       by_cases e:i=t
       ·subst e;rw[m2.out];exact h0
       ·exact m3.out i h1 (by omega)
      clear h0;go_wp2_with fail
      refine(a5V (a6c C G F oo) wr _ x q4 (i8.qv (by have:=a3.out;have:=A.out;omega))).mono ?_;rintro e w5 ⟨j7,rfl⟩;have a6:=L.ext0 j7;clear t6 A1 A2 A3 i1 i2;go_wp2_with fail
      go_roundw
      case rel=>exact⟨t+1,by go_num,by omega,by omega,A0,a6⟩
      case measure=>simp[intOf];omega
     ·have y9:(x.num.sign==(0:Int))=false:=a2v (by intro h;exact h0 (Rat.num_eq_zero.1 (Int.sign_eq_zero_iff_zero.1 h)))
      have t5:=hid h0;have x7:((t:Int)==(n:Int))=false:=a2v (by omega);clear h0;go_wp2_with fail
      refine(a5V (a6c C G F oo) wr _ x q4 (i8.qv (by have:=a3.out;have:=A.out;omega))).mono ?_;rintro e w5 ⟨j7,rfl⟩;have a6:=L.ext0 j7;clear t6 A1 A2 A3 i1 i2 L j7 q4 r6 i8 x4
      go_upto_if 46 with(fail)
      have d3:z<M.length:=by rw[f9.out];omega
      have Z:z<n:=by omega
      have z5:=hid (b1X i7 d3);have b2:Hid (rN m (j+1)=(out (pv (a0S M t z) z j) z j n,P++[j],(if t - z=0 then f else - f)*ent (a0S M t z) z j)):=hid (by
       have e1:z+(t - z)=t:=by omega
       have:=b7w i5.out i6.out f0.out (a:=t - z) (by rw[e1];exact m3.out) (by omega) (by rw[e1,m2.out];exact t5.out);rw[e1]at this;exact this)
      have c3:=hid (hM.out.swap l9 Z);have f4:=hid (j6.out.1.swap hM.out l9 Z);have l7:Hid (ent (a0S M t z) z j≠0):=hid (by rw[a2S hM.out l9 Z,if_pos rfl,m2.out];exact t5.out);have q6:=hid j6.out.2;clear y9 x7 a3 t5 d1 o3;go_cut []from 14 to 122 (fun wx=>∃f1,Hid (f1=if t - z=0 then f else - f)/\RS C w b G base 26 41 3 wx oo J F pc (a0S M t z) P f1)
      case first=>
       by_cases s6:t=z
       ·have x8:((t:Int) !=(z:Int))=false:=b2N (by omega)
        have B2:RS C w b G base 26 41 3 w5 oo J F pc (a0S M t z) P f:=by rw[s6,a4O M z d3];exact a6
        have q8:Hid (f=if t - z=0 then f else - f):=hid (if_pos (by omega)).symm;clear s6 a6;go_wp2_with fail
        go_meet
        case rel=>exact⟨f,q8,B2⟩
       ·have x8:((t:Int) !=(z:Int))=true:=a7B (by omega)
        have q8:Hid (- f=if t - z=0 then f else - f):=hid (if_neg (by omega)).symm;obtain⟨ap,cp,y1,e4,E,H⟩:=a6.row z d3;obtain⟨ax,cx,y2,p4,v9,y6⟩:=a6.row t i7;obtain⟨b5,a4⟩:=a6.rows.set1 a3G RC.elem SlV.one t i7 (.slice ap M[z].length cp) M[z] ⟨ap,cp,rfl,E,H⟩;obtain⟨u3,k3,f3,D2⟩:=b5.cell SlV.one z (by simpa using d3);obtain⟨b6,b4⟩:=b5.set1 a3G RC.elem SlV.one z (by simpa using d3) (.slice ax M[t].length cx) M[t] ⟨ax,cx,rfl,v9,y6.mono QC.mono (a0r a4 fun k V=>a0t V)⟩;have u5:=(a4.trans b4).drew;have b6:=b6.ext0 RC.elem (ExtX.refl (Y:=noY) _).drew;rw[z5.out]at b6;have k4:=a6.setRows u5 b6;have i1:∀W,(Instr.indexAt 25 (.slice oo n J) (.int .i64 (t:Int))).run Tryz.prog W= .ok (.pointer (some (adr oo t))) W:=a0E a0q oo n J .i64 t e6 (by omega) rfl;have i2:∀W,(Instr.indexAt 25 (.slice oo n J) (.int .i64 (z:Int))).run Tryz.prog W= .ok (.pointer (some (adr oo z))) W:=a0E a0q oo n J .i64 z e6 (by omega) rfl;clear s6 D2 b5 b6 a4 b4 a6 H y6;go_wp2_with fail
        go_region
        obtain⟨w6,m1⟩:∃w6,((w5.setCell (adr oo t) (.slice ap M[z].length cp)).setCell (adr oo z) (.slice ax M[t].length cx)).drew=w6:=⟨_,rfl⟩;rw[m1]at k4 |-;obtain⟨sf,af,nf,cf,df,kf,ef,bF,g4⟩:=k4.fac;have z0:=bF.cell 0 rfl;have z1:=bF.cell 1 rfl;have z2:=bF.cell 2 rfl;have B5:=k4.hz;clear y1 y2 e4 p4 k3 f3 i1 i2 m1 u5;go_wp2_with fail
        refine(b0u (a6c C G F oo) w6 _ f B5 (g4.qv (by have:=q6.out;have:=A.out;omega))).mono ?_;rintro e w7 ⟨j8,u7,rfl,i9⟩;obtain⟨s7,a7,n7,c7,d7,k7,e7,rfl⟩:=i9.shape;have b3:=bF.ext0 j8;have A8:=k4.ext0 j8;clear z0 z1 z2 bF;go_wp2_with ((with_reducible show wpList _ _ _ (⟨_, .store _ _ _,_,_,_,_⟩::_) _ _);refine a0a a0k rfl rfl b3 rfl rfl (a1n _ _ _ _ _ _ _) ?_;intro w8 r1 r2)
        have q3:=A8.setFac r2 r1 (QC.mono _ _ _ _ (a0r r2 fun k V=>a0o (a0o (a0t V))) i9)
        go_meet
        case rel=>exact⟨- f,q8,q3⟩
      case rest=>
       obtain⟨f1,w0,g3⟩:=hcut;rw[<-w0.out]at b2;have o4:Hid (hq f1<=B):=hid (by rw[w0.out];split;exact q6.out;rw[a3j];exact q6.out);obtain⟨w6,m1⟩:∃w6,w6=wc:=⟨_,rfl⟩;subst m1;obtain⟨M1,m7⟩:∃M1,a0S M t z=M1:=⟨_,rfl⟩;rw[m7]at b2 c3 f4 l7 g3;have u6:Hid (M1.length=n):=hid c3.out.1;have b1:z<M1.length:=by rw[u6.out];exact Z
       have Q:Hid (M1[z].length=c):=hid (c3.out.2 _ (List.getElem_mem _));have l4:j<M1[z].length:=by rw[Q.out];exact r4
       have d1:=hid (a9R b1 l4);have a3:=hid (f4.out z j);have C6:Hid (M1.getD z []=M1[z]):=hid (a3K b1);obtain⟨y,hy⟩:∃y,ent M1 z j=y:=⟨_,rfl⟩;have o6:Hid (pv M1 z j=M1.set z (M1[z].map (· *(((1:Int):Rat)/y)))):=hid (by unfold pv;rw[C6.out,hy];rfl);rw[hy]at d1 a3 l7 b2;have f5:=hid (c3.out.pv Z j);have m4:=hid (f4.out.pv c3.out Z j);have i0:Hid (BR B M1[z]):=hid (b1G f4.out _ (List.getElem_mem _));have i1:∀W,(Instr.indexAt 25 (.slice oo n J) (.int .i64 (z:Int))).run Tryz.prog W= .ok (.pointer (some (adr oo z))) W:=a0E a0q oo n J .i64 z e6 (by omega) rfl;have I:Ext w6 w6.drew:=(ExtX.refl w6).drew;clear a6 m7 hy m2 z5;go_upto_region 15 with(fail)
       go_cut []from 14 to 122 (fun wx=>RS C w b G base 26 41 3 wx oo J F pc M1 P (f1*y))
       case first=>
        obtain⟨ap,cp,y1,e4,E,H⟩:=g3.row z b1;obtain⟨g,o,s5,a5,n5,c5,d5,k5,e5,hg,v7,d0,b9⟩:=H.rat QC.shaped j l4;obtain⟨sf,af,nf,cf,df,kf,ef,bF,g4⟩:=g3.fac;rw[d1.out]at b9;rw[Q.out]at y1 E;have q9:Hd ap c:=by have:=H.hd;rw[Q.out]at this;exact this
        have i2:∀W,(Instr.indexAt 26 (.slice ap c cp) (.int .i64 (j:Int))).run Tryz.prog W= .ok (.pointer (some ⟨g,o,none⟩)) W:=by rw[<-hg];exact a0j a0J ap c cp .i64 j q9 (by omega)
        have j5:=bF.ext0 I;have z0:=j5.cell 0 rfl;have z1:=j5.cell 1 rfl;have z2:=j5.cell 2 rfl;obtain⟨k0,k1,k2⟩:=d0.out noY w6.drew I rfl;have j4:w6.drew.cell? (adr oo z)=some (.slice ap c cp):=y1;have c6:=g3.ext0 I;have b7:=c6.hz;have y5:QV (mk (a6c C G F oo) w6.drew) (.agg #[.bool sf, .slice af nf cf, .slice df kf ef]) f1:=g4.qv (by have:=o4.out;have:=A.out;omega);have d4:QV (mk (a6c C G F oo) w6.drew) (.agg #[.bool s5, .slice a5 n5 c5, .slice d5 k5 e5]) y:=b9.qv (by have:=a3.out;have:=A.out;omega);clear H hg d0 g3 y1 e4 bF;go_wp2_with fail
        go_region_with ((go_at_call 49;(with_reducible refine(b3A (a6c C G F oo) w6.drew _ _ f1 y b7 y5 d4).mono ?_);rintro ee w7 ⟨t1,u7,rfl,i9⟩;obtain⟨s7,a7,n7,c7,d7,k7,e7,rfl⟩:=i9.shape;have b3:=j5.ext0 t1;have g0:=b3.cell 0 rfl;have g1:=b3.cell 1 rfl;have g2:=b3.cell 2 rfl;have h0:=b3.frozen 0;have h1:=b3.frozen 1;have h2:=b3.frozen 2))
        all_goals
         obtain⟨q1,q2⟩:=b3.set3 (.bool s7) (.slice a7 n7 c7) (.slice d7 k7 e7);have q3:=(c6.ext0 t1).setFac q2 q1 (QC.mono _ _ _ _ (a0r q2 fun k V=>a0o (a0o (a0t V))) i9);clear z0 z1 z2 k0 k1 k2 j4 g0 g1 g2 h0 h1 h2 i2;go_wp2_with fail
         go_meet
         case rel=>exact q3
       case rest=>
        have x0:Hid (hq (f1*y)<=2*B):=hid (by have:=hq_mul f1 y;have:=o4.out;have:=a3.out;omega);obtain⟨f2,w4⟩:∃f2,f1*y=f2:=⟨_,rfl⟩;rw[w4]at x0 hcut b2;clear g3 I w4;obtain⟨w7,D3⟩:∃w7,w7=wc:=⟨_,rfl⟩;subst D3;have j9:=hcut;have I:Ext w7 w7.drew:=(ExtX.refl w7).drew;clear hcut;go_upto_region 16 with(fail)
        go_cut []from 14 to 122 (fun wx=>RS C w b G base 26 41 3 wx oo J F pc (pv M1 z j) P f2)
        case first=>
         obtain⟨ap,cp,y1,e4,E,H⟩:=j9.row z b1;obtain⟨g,o,s5,a5,n5,c5,d5,k5,e5,hg,v7,d0,b9⟩:=H.rat QC.shaped j l4;rw[d1.out]at b9;have q9:Hd ap c:=by have:=H.hd;rw[Q.out]at this;exact this
         have i2:∀W,(Instr.indexAt 26 (.slice ap c cp) (.int .i64 (j:Int))).run Tryz.prog W= .ok (.pointer (some ⟨g,o,none⟩)) W:=by rw[<-hg];exact a0j a0J ap c cp .i64 j q9 (by omega)
         have s0:RV (mk (a6c C G F oo) w7.drew) (.slice ap c cp) M1[z]:=by
          rw[<-Q.out];exact⟨ap,cp,rfl,E,H.qv fun q hq=>Nat.le_trans (i0.out q hq) (by have:=A.out;omega)⟩
         rw[Q.out]at y1 E;have hS:Hid (∀W',Ext w7.drew W'->W'.cell? (adr oo z)=some (.slice ap c cp)/\W'.cell? ⟨g,o,none⟩=some (.bool s5)/\W'.cell? ⟨g,o+1,none⟩=some (.slice a5 n5 c5)/\W'.cell? ⟨g,o+2,none⟩=some (.slice d5 k5 e5)):=hid fun W' h=>by
          obtain⟨k0,k1,k2⟩:=d0.out noY W' (I.trans h) rfl;exact⟨(I.trans h).cell y1,k0,k1,k2⟩
         obtain⟨j4,k0,k1,k2⟩:=hS.out w7.drew (ExtX.refl _);have c6:=j9.ext0 I;have b7:=c6.hz;have d4:QV (mk (a6c C G F oo) w7.drew) (.agg #[.bool s5, .slice a5 n5 c5, .slice d5 k5 e5]) y:=b9.qv (by have:=a3.out;have:=A.out;omega);have A5:Hid (hq (((1:Int):Rat))<=68719476736):=hid (by decide+kernel);have C8:Hid (hq (((1:Int):Rat)/y)<=68719476736):=hid (by have h3:=hq_div ((1:Int):Rat) y;have h4:hq (((1:Int):Rat))=1:=(by decide+kernel);have:=a3.out;have:=A.out;have:=a6z y;omega);have y8:Hid (M1[z].length<=1000000):=hid (by rw[Q.out];omega);clear H hg d0 j9 y1 e4;go_wp2_with fail
         refine a0K 17 (fun w'=>w'.cell? (adr oo z)=some (.slice ap c cp)/\w'.cell? ⟨g,o,none⟩=some (.bool s5)/\w'.cell? ⟨g,o+1,none⟩=some (.slice a5 n5 c5)/\w'.cell? ⟨g,o+2,none⟩=some (.slice d5 k5 e5)) (by kernel_rfl) (by kernel_rfl) (hS.out _ (ExtX.refl _)) (fun D s=>?_);clear j4 k0 k1 k2;refine kt 0 s ?_;refine kt 1 s ?_;refine kt 2 s ?_;refine kt 3 s ?_;refine kt 4 s ?_;refine kt 5 s ?_;refine kt 7 s ?_;refine kt 8 s ?_;refine kt 9 s ?_;refine kt 10 s ?_;refine kt 11 s ?_;refine kt 12 s ?_;refine kt 13 s ?_;refine ks 6 (fun K T=>?_);go_simp
         (go_at_call 54;(with_reducible refine(a3W (a6c C G F oo) w7.drew 1 b7 (by decide) (by decide)).mono ?_);rintro ee w8 ⟨t1,u8,rfl,z7⟩)
         refine kcn T (hS.out w8 t1) (fun D=>?_);clear T K;obtain⟨s8,a8,n8,c8,d8,k8,e8,rfl⟩:=z7.shape;have B3:=b7.ext t1;have D5:=mkx QV.mono d4 t1;have z8:=z7.qv A5.out;refine ks 14 (fun K T=>?_);go_simp
         (go_at_call 240;(with_reducible refine(b7s (a6c C G F oo) w8 _ _ _ y B3 z8 D5 l7.out).mono ?_);rintro ee w9 ⟨t2,u9,rfl,j0⟩)
         refine kcn T (hS.out w9 (t1.trans t2)) (fun D=>?_);clear T K;obtain⟨s9,a9,n9,c9,d9,k9,e9,rfl⟩:=j0.shape;have c0:=t1.trans t2;have h6:=b7.ext c0;have r8:=mkx RV.mono s0 c0;have j1:=j0.qv C8.out;refine ks 15 (fun K T=>?_);go_simp
         (go_at_call 285;(with_reducible refine(b4R (a6c C G F oo) w9 _ _ _ _ h6 r8 j1 y8.out).mono ?_);rintro ee j3 ⟨t3,E0,rfl,e0⟩)
         refine kcn T (hS.out j3 (c0.trans t3)) (fun D=>?_);clear T K;obtain⟨p2,p3,rfl,h7,o8⟩:=e0;have D9:=c0.trans t3;have g8:=c6.ext0 D9;obtain⟨_,_,p0,fz,_,_⟩:=g8.row z b1;refine kt 16 s ?_;refine kl 17 (fun K T=>?_);go_simp
         refine T.out _ _ ?_;clear T K;obtain⟨n0,m5⟩:=g8.rows.set1 a3G RC.elem SlV.one z b1 (.slice p2 M1[z].length p3) (M1[z].map (· *(((1:Int):Rat)/y))) ⟨p2,p3,by rw[List.length_map],h7,o8⟩;have U:=g8.setRows m5 n0;have c4:=U;rw[<-o6.out]at c4;clear p0 fz i2 n0 m5 U D s;go_wp2_with fail
         go_meet
         case rel=>exact c4
        case rest=>
         have q0:=hcut;clear hcut j9 I i1;obtain⟨w8,D4⟩:∃w8,w8=wc:=⟨_,rfl⟩;subst D4;obtain⟨N,m8⟩:∃N,pv M1 z j=N:=⟨_,rfl⟩;rw[m8]at q0 b2 f5 m4;have m9:Hid (N.length=n):=hid f5.out.1;have v5:RS C w b G base 26 41 3 w8 oo J F pc (out N z j 0) P f2:=by rw[b3M];exact q0
         have n6:=hid (b1G m4.out);have k6:Hid (∀wx,OL RC 1 (un (a8P C G) F) base 26 wx oo J (out N z j n)->base<=wx.heap.size):=hid fun wx h=>by
          obtain⟨b0,o0,k6⟩:=e6 (by omega);have:=h.block (k:=b0) (by rw[k6];simp[ob]);omega
         have i1:∀W,(Instr.indexAt 25 (.slice oo n J) (.int .i64 (z:Int))).run Tryz.prog W= .ok (.pointer (some (adr oo z))) W:=a0E a0q oo n J .i64 z e6 (by omega) rfl;clear m8 q0 l4 Q d1 a3 o6 i0 l7;go_wp2_with fail
         go_loopw [10] (fun a wx=>∃(i:Nat),a= .int .i64 i/\i<=n/\RS C w b G base 26 41 3 wx oo J F pc (out N z j i) P f2) (fun a _=>n - (intOf a).toNat)
         case atStart=>exact⟨0,rfl,Nat.zero_le _,v5⟩
         case round=>
          clear v5;obtain⟨i,rfl,hi,L⟩:=hrel;by_cases C1:i<n
          ·by_cases l3:i=z
           ·have x9:((i:Int) !=(z:Int))=false:=b2N (by omega)
            have B1:RS C w b G base 26 41 3 wr oo J F pc (out N z j (i+1)) P f2:=by subst l3;rw[<-b3N];exact L
            clear l3 L;go_wp2_with fail
            go_roundw
            case rel=>exact⟨i+1,by go_num,by omega,B1⟩
            case measure=>simp[intOf];omega
           ·have x9:((i:Int) !=(z:Int))=true:=a7B (by omega)
            have l1:i<N.length:=by rw[m9.out];exact C1
            have l8:z<N.length:=by rw[m9.out];exact Z
            have l2:i<(out N z j i).length:=by rw[a4i];exact l1
            have r5:z<(out N z j i).length:=by rw[a4i];exact l8
            have x2:(out N z j i)[i]=N[i]:=by rw[a5a l2 l1,if_neg (by omega)]
            have x3:(out N z j i)[z]=N[z]:=by rw[a5a r5 l8,if_neg (by omega)]
            have S:=hid (b6i (m:=N) (t:=z) (col:=j) l1 l3);rw[a3K l8]at S;obtain⟨ai,ci,y1,e4,f6,g5⟩:=L.row i l2;obtain⟨ap,cp,y2,p4,E,H⟩:=L.row z r5;rw[x2]at y1 f6 g5;rw[x3]at y2 E H;have a0:Hid (N[i].length=c):=hid (f5.out.2 _ (List.getElem_mem _));have d6:Hid (N[z].length=c):=hid (f5.out.2 _ (List.getElem_mem _));have p5:=hid (n6.out N[i] (List.getElem_mem _));have p6:=hid (n6.out N[z] (List.getElem_mem _));have r3:j<N[i].length:=by rw[a0.out];exact r4
            obtain⟨g,o,s5,a5,n5,c5,d5,k5,e5,hg,v7,d0,b9⟩:=g5.rat QC.shaped j r3;have z9:N[i].getD j 0=N[i][j]:=by rw[List.getD_eq_getElem?_getD,List.getElem?_eq_getElem r3];rfl
            rw[z9]at S;have m0:=hid (p5.out N[i][j] (List.getElem_mem _));obtain⟨v,hv⟩:∃v,N[i][j]=v:=⟨_,rfl⟩;rw[hv]at S b9 m0;clear hv z9 x2 x3;obtain⟨row,o7⟩:∃row,N[i]=row:=⟨_,rfl⟩;rw[o7]at S g5 y1 f6 a0 p5;obtain⟨e3,y4⟩:∃e3,N[z]=e3:=⟨_,rfl⟩;rw[y4]at S H y2 E d6 p6;have B7:Hd ai c:=by have:=g5.hd;rw[a0.out]at this;exact this
            have I:Ext wr wr.drew:=(ExtX.refl wr).drew;have i2:∀W,(Instr.indexAt 26 (.slice ai c ci) (.int .i64 (j:Int))).run Tryz.prog W= .ok (.pointer (some ⟨g,o,none⟩)) W:=by rw[<-hg];exact a0j a0J ai c ci .i64 j B7 (by omega)
            have i3:∀W,(Instr.indexAt 25 (.slice oo n J) (.int .i64 (i:Int))).run Tryz.prog W= .ok (.pointer (some (adr oo i))) W:=a0E a0q oo n J .i64 i e6 (by omega) rfl;have C9:RV (mk (a6c C G F oo) wr.drew) (.slice ai c ci) row:=by
             rw[<-a0.out];exact⟨ai,ci,rfl,f6,g5.qv fun q hq=>Nat.le_trans (p5.out q hq) (by have:=A.out;omega)⟩
            have s0:RV (mk (a6c C G F oo) wr.drew) (.slice ap c cp) e3:=by
             rw[<-d6.out];exact⟨ap,cp,rfl,E,H.qv fun q hq=>Nat.le_trans (p6.out q hq) (by have:=A.out;omega)⟩
            rw[a0.out]at y1;rw[d6.out]at y2;have hS:Hid (∀W',Ext wr.drew W'->W'.cell? (adr oo i)=some (.slice ai c ci)/\W'.cell? (adr oo z)=some (.slice ap c cp)/\W'.cell? ⟨g,o,none⟩=some (.bool s5)/\W'.cell? ⟨g,o+1,none⟩=some (.slice a5 n5 c5)/\W'.cell? ⟨g,o+2,none⟩=some (.slice d5 k5 e5)):=hid fun W' h=>by
             obtain⟨k0,k1,k2⟩:=d0.out noY W' (I.trans h) rfl;exact⟨(I.trans h).cell y1,(I.trans h).cell y2,k0,k1,k2⟩
            obtain⟨j4,E2,k0,k1,k2⟩:=hS.out wr.drew (ExtX.refl _);have c6:=L.ext0 I;have b7:=c6.hz;have d4:QV (mk (a6c C G F oo) wr.drew) (.agg #[.bool s5, .slice a5 n5 c5, .slice d5 k5 e5]) v:=b9.qv (by have:=m0.out;have:=A.out;omega);have C3:Hid (hq (-v)<=68719476736):=hid (by rw[a3j];have:=m0.out;have:=A.out;omega);have h9:Hid (BR 68719476736 (e3.map (· * -v))):=hid fun q hq=>by
             obtain⟨x,hx,rfl⟩:=List.mem_map.1 hq;have h1:=p6.out x hx;have h2:=hq_mul x (-v);rw[a3j]at h2;have:=m0.out;have:=A.out;omega
            have B9:Hid (e3.length<=1000000):=hid (by rw[d6.out];omega);have C0:Hid (row.length<=1000000):=hid (by rw[a0.out];omega);have x6:Hid ((e3.map (· * -v)).length=row.length):=hid (by rw[List.length_map,d6.out,a0.out]);have o5:=hid l2;obtain⟨PR,p9⟩:∃PR,e3.map (· * -v)=PR:=⟨_,rfl⟩;have v4:=hid p9;rw[p9]at S h9 x6;obtain⟨NR,p8⟩:∃NR,List.zipWith (· + ·) row PR=NR:=⟨_,rfl⟩;have v3:=hid p8;rw[p8]at S;clear g5 H hg d0 L y1 e4 y2 p4 o7 y4 l3 l1 l8 r5 b9 l2 r3 f6 E p9 p8;go_wp2_with fail
            refine a0K 21 (fun w'=>w'.cell? (adr oo i)=some (.slice ai c ci)/\w'.cell? (adr oo z)=some (.slice ap c cp)/\w'.cell? ⟨g,o,none⟩=some (.bool s5)/\w'.cell? ⟨g,o+1,none⟩=some (.slice a5 n5 c5)/\w'.cell? ⟨g,o+2,none⟩=some (.slice d5 k5 e5)) (by kernel_rfl) (by kernel_rfl) (hS.out _ (ExtX.refl _)) (fun D s=>?_);clear j4 E2 k0 k1 k2;refine kt 0 s ?_;refine kt 1 s ?_;refine kt 2 s ?_;refine kt 3 s ?_;refine kt 4 s ?_;refine kt 5 s ?_;refine kt 6 s ?_;refine kt 7 s ?_;refine kt 8 s ?_;refine kt 9 s ?_;refine kt 10 s ?_;refine kt 11 s ?_;refine kt 12 s ?_;refine kt 13 s ?_;refine kt 14 s ?_;refine kt 15 s ?_;refine kt 16 s ?_;refine ks 17 (fun K T=>?_);go_simp
            (go_at_call 56;(with_reducible refine(b0u (a6c C G F oo) wr.drew _ v b7 d4).mono ?_);rintro ee w9 ⟨t1,u9,rfl,j0⟩)
            refine kcn T (hS.out w9 t1) (fun D=>?_);clear T K;obtain⟨s9,a9,n9,c9,d9,k9,e9,rfl⟩:=j0.shape;have h6:=b7.ext t1;have r8:=mkx RV.mono s0 t1;have j1:=j0.qv C3.out;refine ks 18 (fun K T=>?_);go_simp
            (go_at_call 285;(with_reducible refine(b4R (a6c C G F oo) w9 _ _ e3 (-v) h6 r8 j1 B9.out).mono ?_);rintro ee j3 ⟨t2,E0,rfl,e0⟩)
            refine kcn T (hS.out j3 (t1.trans t2)) (fun D=>?_);clear T K;rw[v4.out]at e0;have t0:=e0.rv h9.out;obtain⟨p2,p3,rfl,h7,o8⟩:=e0;have c0:=t1.trans t2;have v6:=b7.ext c0;have y7:=mkx RV.mono C9 c0;refine ks 19 (fun K T=>?_);go_simp
            (go_at_call 286;(with_reducible refine(b8p (a6c C G F oo) j3 _ _ row _ v6 y7 t0 C0.out x6.out).mono ?_);rintro ee E1 ⟨t3,E6,rfl,p1⟩)
            refine kcn T (hS.out E1 (c0.trans t3)) (fun D=>?_);clear T K;rw[v3.out]at p1;obtain⟨t7,t8,rfl,q5,z3⟩:=p1;have U:=c6.ext0 (c0.trans t3);obtain⟨_,_,p0,fz,_,_⟩:=U.row i o5.out;refine kt 20 s ?_;refine kl 21 (fun K T=>?_);go_simp
            refine T.out _ _ ?_;clear T K;obtain⟨n1,m6⟩:=U.rows.set1 a3G RC.elem SlV.one i o5.out (.slice t7 NR.length t8) NR ⟨t7,t8,rfl,q5,z3⟩;have c4:=U.setRows m6 n1;rw[S.out]at c4;clear p0 fz i2 i3 n1 m6 U D s;go_wp2_with fail
            go_roundw
            case rel=>exact⟨i+1,by go_num,by omega,c4⟩
            case measure=>simp[intOf];omega
          ·have r0:i=n:=by omega
           subst r0;have b8:=k6.out wr L.rows;have B4:∀k,un (a8P C G) oo k=true->k<wr.heap.size:=fun k V=>L.hz k (by
            by_cases h:a8P C G k=true
            ·exact a0o (a0o h)
            ·exact a0t (by simpa[un,h]using V))
           have hP:=L.piv;have y3:Hid ((P++[j]).length=z+1):=hid (by rw[List.length_append,f0.out];rfl);clear i1 k6;go_wp2_with (at_builtin;refine a0H (l:=P) a2b rfl (a0b.elem .i64) b8 B4 z f0.out rfl rfl hP (.int .i64 (j:Int)) j rfl rfl (by omega) (by omega) ?_;intro D7 D6 j3 A6 j8 C4)
           have A9:=L.push j8 A6 C4;go_roundg (c - (j+1))
           case measure=>omega
           case rel=>exact⟨j+1,D7,D6,z+1,_,_,_,by go_num,rfl,by omega,y3,b2,A9⟩
    ·have r0:t=n:=by omega
     subst r0;have x7:((t:Int)==(t:Int))=true:=b3h rfl;have z4:=hid (b6j i5.out i6.out f0.out m3.out);clear m3;go_wp2_with fail
     go_roundg (c - (j+1))
     case measure=>omega
     case rel=>exact⟨j+1,F,pc,z,M,P,f,by go_num,rfl,by omega,f0,z4,L⟩
  ·have B8:j=c:=by omega
   subst B8;go_wp2_with fail
   refine l0.mono ?_;rintro e w2 ⟨rfl,rfl⟩;obtain⟨sf,af,nf,cf,df,kf,ef,bF,g4⟩:=L.fac;have O:=L.res;have z0:=bF.cell 0 rfl;have z1:=bF.cell 1 rfl;have z2:=bF.cell 2 rfl;have g0:=O.cell 0 rfl;have g1:=O.cell 1 rfl;have g2:=O.cell 2 rfl;have h0:=O.frozen 0;have h1:=O.frozen 1;have h2:=O.frozen 2;obtain⟨q1,q2⟩:=O.set3 (.bool sf) (.slice af nf cf) (.slice df kf ef);have D8:=q1.ext0 (ExtX.refl (Y:=noY) _).drew;have j2:=q2.drew;have r7:QC (mk X _) (.agg #[.bool sf, .slice af nf cf, .slice df kf ef]) f:=QC.mono _ _ _ _ (f7.out _) (QC.mono _ _ _ _ (a0r j2 fun k V=>b1Y g6.out V) (QC.mono _ _ _ _ (a1N fun k _ V=>a0o (a0o (a0o V))) g4));have p7:Ext w _:=ExtX.box L.ext j2 (by rw[o1.out];exact Nat.le_refl _);have s3:Sl RC 1 (mk X _) oo M:=(((L.rows.sl RC.elem).mono RC.mono (a1N fun k _ V=>a0o (a0o V))).mono RC.mono (a0r j2 fun k V=>b1Y g6.out V)).mono RC.mono (f7.out _);have s1:Sl (a0b .i64) 1 (mk X _) F P:=(((L.piv.sl (a0b.elem _)).mono (a0b.mono _) (a1N fun k _ V=>a0o (a0o V))).mono (a0b.mono _) (a0r j2 fun k V=>b1Y g6.out V)).mono (a0b.mono _) (f7.out _);have C5:P.length<=pc:=L.piv.lenCap;clear O bF L g4 q1 q2 j2;go_wp2_with fail
   go_region
   go_wp2_with fail
   refine bodyPost_ret (a8R (P:=Tryz.prog) (c:=4) (d:=2) (e:=3) rfl rfl a0k D8 rfl) rfl ?_;have B0:∀w9,Ext w w9->Sl RC 1 (mk X w9) oo M->Sl (a0b .i64) 1 (mk X w9) F P->QC (mk X w9) (.agg #[.bool sf, .slice af nf cf, .slice df kf ef]) f->b4V X w (rN m j) (.returned (.tuple #[.slice oo n J, .slice F z pc, .agg #[.bool sf, .slice af nf cf, .slice df kf ef]])) w9:=fun w9 p7 s3 s1 r7=>by
    rw[i6.out];exact⟨p7,oo,J,F,pc,_,by rw[f9.out,f0.out],by rw[f9.out];exact o2,C5,s3,s1,r7⟩
   exact B0 _ p7 s3 s1 r7
end Go.Proofs.YtnnpfhoigmegcaaGreat
namespace Go.Lin
open Go.Lim
end Go.Lin
namespace Go.Proofs.YtnnpfhoigmegcaaGreat
open Go.RowKit Go.Rep Go.Lim Go.Lin
def b7F(X:Nat->Bool)(w:World)(S:Mat×List Nat)(e:Ending)(w':World):Prop:=Ext w w'/\∃oo co po pc,e= .returned (.tuple #[.slice oo S.1.length co, .slice po S.2.length pc, .int .i64 0])/\S.1.length<=co/\S.2.length<=pc/\Sl RC 1 (mk X w') oo S.1/\Sl (a0b .i64) 1 (mk X w') po S.2
theorem a9T(X:Nat->Bool)(w:World)(u:Value)(m:List (List Rat))(n c:Nat)(F:HX X w)(A:MV (mk X w) u m)(q:a1o m=true)(i:m.length=n)(b:a0n m=c)(E:a7v m c):Calls Tryz.prog 126 #[u] w (b7F X w ((rN m c).1,(rN m c).2.1)):=by
 obtain⟨k,l,g,_,_⟩:=a1V q;rw[i,b]at k;rw[i]at l;rw[b]at g;have d:=b6s QV.mono X w u m A (by omega);rw[q]at d;have j:=hid (fun B (h:Ext w B)=>a9d X B u m n c (F.ext h) (mkx MV.mono A h) k b (by omega) (by omega) E);obtain⟨S,z⟩:∃S,rN m c=S:=⟨_,rfl⟩;rw[z]at j |-;clear q z;go_enter Tryz.func126,Tryz.ntmps126
 go_wp2_with fail
 refine d.mono ?_;rintro e w1 ⟨f,rfl⟩;have y:=j.out w1 f;clear d;go_wp2_with fail
 refine y.mono ?_;rintro e x ⟨o,oo,D,H,G,T,rfl,p,r,s,t,v⟩;obtain⟨R,K,P,L,M,O,N,rfl⟩:=v.shape;have C:=Bx.new x #[.bool false, .slice none 0 0, .slice none 0 0] 41;clear y;go_wp2_with ((with_reducible show wpList _ _ _ (⟨_, .store _ _ _,_,_,_,_⟩::_) _ _);refine a0a a0k rfl rfl C rfl rfl (a1n _ _ _ _ _ _ _) ?_;intro J Q I)
 have a:Ext x J:=ExtX.box ((ExtX.refl x).alloc _) I (Nat.le_refl _);go_ret3
 exact⟨f.trans (o.trans a),oo,D,H,G,rfl,p,r,s.mono RC.mono (a0l a),t.mono (a0b.mono _) (a0l a)⟩
theorem a9U(X:Nat->Bool)(w:World)(u:Value)(m:List (List Rat))(n c:Nat)(p:HX X w)(v:MV (mk X w) u m)(i:a1o m=true)(b:m.length=n)(a:a0n m=c)(o:a7v m c):Calls Tryz.prog 51 #[u] w (fun e x=>Ext w x/\e= .returned (.tuple #[.int .i64 (b1z m c:Int), .int .i64 0])):=by
 obtain⟨g,l,k,_,_⟩:=a1V i;rw[b,a]at g;have d:=a9T X w u m n c p v i b a o;have f:Hid ((rN m c).2.1.length=b1z m c):=hid (by rw[a4C,(b4y g).2]);obtain⟨S,j⟩:∃S,rN m c=S:=⟨_,rfl⟩;rw[j]at d f;clear i j;go_enter Tryz.func51,Tryz.ntmps51
 go_wp2_with fail
 refine d.mono ?_;rintro e w1 ⟨h,oo,y,A,z,rfl,q,r,s,t⟩;rw[f.out];go_wp2_with fail
 go_ret2
 exact⟨h,rfl⟩
end Go.Proofs.YtnnpfhoigmegcaaGreat
namespace Go.Rep
open Go.RowKit Go.Lim
section
variable {P:Program} {ops:Array Oper} {Q:Exit->Act->World->Prop} {rest:List Oper} {a:Act} {w:World}
variable {α:Type} {R:Mem->Value->α->Prop} {sz:Nat} {X:Nat->Bool} {base:Nat} {e:TypeId} {ao:Option Addr} {cap:Nat} {l:List α}
variable {d:Option Tmp} {ty:TypeId} {ps:String} {af:Array Edge}
end
end Go.Rep
namespace Go.Lin
end Go.Lin
namespace Go.Proofs.YtnnpfhoigmegcaaGreat
open Go.RowKit Go.Rep Go.Lim Go.Lin
end Go.Proofs.YtnnpfhoigmegcaaGreat
namespace Go.Lin
open Go.Lim
end Go.Lin
namespace Go.Proofs.YtnnpfhoigmegcaaGreat
open Go.RowKit Go.Rep Go.Lim Go.Lin
end Go.Proofs.YtnnpfhoigmegcaaGreat
namespace Go.Lin
open Go.Lim
theorem a7v.le{m:Mat}{c a:Nat}(h:a7v m c)(e:a<=c):a7v m a:=let ⟨B,b,d⟩:=h;⟨B,b,fun j f=>d j (Nat.le_trans f e)⟩
end Go.Lin
namespace Go.Proofs.YtnnpfhoigmegcaaGreat
open Go.RowKit Go.Rep Go.Lim Go.Lin
end Go.Proofs.YtnnpfhoigmegcaaGreat
namespace Go.Lin
open Go.Lim
theorem b7G{n c:Nat}{f:F2}{p:List Nat}(q:Rref n c f p){a j:Nat}(t:a<=p.length)(l:∀k (b:k<p.length),k<a->p[k]<j)(m:∀k (b:k<p.length),a<=k->j<=p[k]):(∀h:a<p.length,p[a]=j->j∈p)/\((∀h:a<p.length,p[a]≠j)->j∉p):=by
 refine⟨fun h e=>e▸List.getElem_mem h,fun h o=>?_⟩;obtain⟨k,b,d⟩:=List.getElem_of_mem o;rcases Nat.lt_or_ge k a with g|g
 ·have:=l k b g;omega
 ·rcases Nat.lt_or_ge a k with i|i
  ·have r:=m a (by omega) (Nat.le_refl _)
   have s:=q.inc a k i b;omega
  ·have:k=a:=by omega
   subst this;exact h b d
end Go.Lin
namespace Go.Proofs.YtnnpfhoigmegcaaGreat
open Go.RowKit Go.Rep Go.Lim Go.Lin
theorem b4d(X:Nat->Bool)(w:World)(u:Value)(m:List (List Rat))(n c:Nat)(hX:HX X w)(hu:MV (mk X w) u m)(hf:a1o m=true)(g3:m.length=n)(d5:a0n m=c)(hT:a7v m c):Calls Tryz.prog 190 #[u] w (b5X X w (a1Y (ent (a1C m c).1) (a1C m c).2 c)):=by
 obtain⟨g7,n0,m1,m7,_⟩:=a1V hf;rw[g3,d5]at g7;rw[g3]at n0;rw[d5]at m1;have b0:=hid (fun w' (h:Ext w w')=>a9S X w' u m (mkx MV.mono hu h));rw[d5]at b0;have g6:=a9T X w u m n c hX hu hf g3 d5 hT;have b5:=a2a g7;have b3:=b4y g7;rw[<-b3.1,<-b3.2]at g6;obtain⟨B,l7,l8⟩:=hT;have j0:=(l8 c (Nat.le_refl _)).1;rw[<-b3.1]at j0;have a8:=hid (b1G j0);have h0:=hid l7;obtain⟨⟨R,p⟩,hS⟩:∃S,a1C m c=S:=⟨_,rfl⟩;rw[hS]at g6 b5 a8 |-
 dsimp only at b5 a8 |-
 have h9:=hid b5.1;have c8:=hid b5.2.1;have h8:Hid (R.length=n):=hid h9.out.1;have n8:p.length<=n:=b5.2.1.le;have j1:Hid (a3c (ent R) p c c=a1Y (ent R) p c):=hid rfl;clear hf g3 d5 g7 b5 hS b3 l7 l8 j0 m7;go_enter Tryz.func190,Tryz.ntmps190
 go_wp2_with fail
 refine g6.mono ?_;rintro e w1 ⟨b7,V,g9,r,pc,rfl,h4,m6,g8,b6⟩
 dsimp only at h4 g8 m6 b6 |-
 have j3:=g8.hd;have e1:=b6.hd;obtain⟨A,k2⟩:∃A,p.length=A:=⟨_,rfl⟩;have z:=hid k2;rw[h8.out]at h4 j3 |-;rw[k2]at m6 e1 n8 |-;have n1:=hX.ext b7;clear g6 k2;go_wp2_with fail
 go_loopw [7,8,9] (fun o aa cc wr=>∃(k a q:Nat) (oo:Option Addr) (co:Nat),cc= .int .i64 k/\aa= .int .i64 a/\o= .slice oo q co/\k<=c/\q<=k/\a<=A/\Hid ((a3c (ent R) p c k).length=q)/\Hid (∀i (hi:i<p.length),i<a->p[i]<k)/\Hid (∀i (hi:i<p.length),a<=i->k<=p[i])/\OL RC 1 X w1.heap.size 26 wr oo co (a3c (ent R) p c k)/\Ext w1 wr) (fun _ _ cc _=>c - (intOf cc).toNat)
 case atStart=>exact⟨0,0,0,none,0,rfl,rfl,rfl,Nat.zero_le _,Nat.le_refl _,Nat.zero_le _,hid rfl,hid (fun i _ h=>by omega),hid (fun i _ _=>Nat.zero_le _),OL.nil _ _ _ _ _ _,ExtX.refl _⟩
 case round=>
  obtain⟨k,a,q,oo,co,rfl,rfl,rfl,hk,o1,ha,a6,j7,m3,hO,I⟩:=hrel;have i6:HX X wr:=n1.ext I;have b4:HX (un X oo) wr:=hO.unX i6;have n2:=I.size;have a5:=b0.out wr (b7.trans I);by_cases j8:k<c
  ·have k0:=hid (b7G c8.out (a:=a) (j:=k) (by rw[z.out];exact ha) j7.out m3.out)
   by_cases g5:∃h:a<p.length,p[a]=k
   ·obtain⟨M,k1⟩:=g5
    have m5:=hid (k0.out.1 M k1);have m0:a<A:=by rw[z.out]at M;exact M
    have f9:=(b6.mono (a0b.mono _) (a0l I)).nat a M;rw[k1]at f9;have i1:∀W,(Instr.indexAt 22 (.slice r A pc) (.int .i64 (a:Int))).run Tryz.prog W= .ok (.pointer (some (adr r a))) W:=a0E a2b r A pc .i64 a e1 (by omega) rfl;have n5:((k:Int)==(k:Int))=true:=b3h rfl;have f3:=hid (a6G (ent R) c m5.out);have b2:Hid (∀i (hi:i<p.length),i<a+1->p[i]<k+1):=hid fun i hi h=>by
     by_cases e:i=a
     ·subst e;omega
     ·have:=j7.out i hi (by omega);omega
    have b1:Hid (∀i (hi:i<p.length),a+1<=i->k+1<=p[i]):=hid fun i hi h=>by
     have:=c8.out.inc a i (by omega) hi;omega
    have P:Hid ((a3c (ent R) p c (k+1)).length=q):=hid (by rw[f3.out];exact a6.out);rw[<-f3.out]at hO;clear M k1;go_wp2_with fail
    refine a5.mono ?_;rintro e w2 ⟨rfl,rfl⟩;clear a5;go_wp2_with fail
    go_roundw
    case rel=>exact⟨k+1,a+1,q,oo,co,by go_num,by go_num,rfl,by omega,by omega,by omega,P,b2,b1,hO,I⟩
    case measure=>simp[intOf];omega
   ·have j9:=hid (k0.out.2 fun h e=>g5 ⟨h,e⟩)
    have s:=hid (a6H (ent R) c j9.out);have m9:=hid (b1L c8.out j9.out);have b2:Hid (∀i (hi:i<p.length),i<a->p[i]<k+1):=hid fun i hi h=>by have:=j7.out i hi h;omega
    have b1:Hid (∀i (hi:i<p.length),a<=i->k+1<=p[i]):=hid fun i hi h=>by
     have h1:=m3.out i hi h;have h2:p[i]≠k:=fun e=>j9.out (e▸List.getElem_mem hi);omega
    have n6:Hid (∀h:a<p.length,p[a]≠k):=hid fun h e=>g5 ⟨h,e⟩;have m4:k<(List.replicate c (0:Rat)).length:=by rw[List.length_replicate];exact j8
    clear g5 k0;by_cases m0:a<A
    ·have M:a<p.length:=by rw[z.out];exact m0
     have f9:=(b6.mono (a0b.mono _) (a0l I)).nat a M;have h3:=hid (n6.out M);obtain⟨y,hy⟩:∃y,p[a]=y:=⟨_,rfl⟩;rw[hy]at f9 h3;have i1:∀W,(Instr.indexAt 22 (.slice r A pc) (.int .i64 (a:Int))).run Tryz.prog W= .ok (.pointer (some (adr r a))) W:=a0E a2b r A pc .i64 a e1 (by omega) rfl;have n5:((y:Int)==(k:Int))=false:=a2v (by have:=h3.out;omega);clear hy;go_wp2_with fail
     refine a5.mono ?_;rintro e w2 ⟨rfl,rfl⟩;have N:=b0.out w2 (b7.trans I);clear a5;go_wp2_with fail
     clear f9 i1;refine N.mono ?_;rintro e w3 ⟨rfl,rfl⟩;clear N;go_wp2_with ((with_reducible show wpList _ _ _ (⟨_, .makeSlice _ _ _,_,_,_,_⟩::_) _ _);refine a1G (R:=QC) a0J QC.elem (0:Rat) (fun _=>QC.zero _) (un X oo) b4 w3.heap.size (Nat.le_refl _) c rfl rfl rfl (by omega) (by omega) ?_;intro d w5 E c0)
     have k8:Hd d c:=by have:=E.hd;rw[List.length_replicate]at this;exact this
     have d1:=b4.ext c0;have i7:=E.unX d1;have k7:Hid ((((1:Int):Rat))=1):=hid rfl;refine(a3W (un (un X oo) d) w5 1 i7 (by decide) (by decide)).mono ?_;rintro e w6 ⟨c2,u6,rfl,f5⟩;rw[k7.out]at f5;have Z:=E.ext0 QC.elem c2;go_wp2_with (first|(with_reducible refine a1D a0J (by omega) (by assumption) ?_)|((with_reducible show wpList _ _ _ (⟨_, .store 41 _ _,_,_,_,_⟩::_) _ _);refine a1t a4V QC.elem k rfl (by simp) Z m4 _ 1 rfl f5 ?_;intro w7 c6 c3))
     have J:Ext w3 w7:=(c0.trans c2).own Z (Nat.le_refl _) c3;clear E Z;go_loopw [11] (fun kk wi=>∃(j:Nat),kk= .int .i64 j/\j<=A/\OL QC 3 (un X oo) w3.heap.size 41 wi d c (xN R p c k j)/\Ext w3 wi) (fun kk _=>A - (intOf kk).toNat)
     case atStart=>exact⟨0,rfl,Nat.zero_le _,c6,J⟩
     case round=>
      clear c6 J c3;obtain⟨j,rfl,O,f,b⟩:=hrel;have l9:=I.trans b;have d2:=b4.ext b;have i9:=f.unX d2;by_cases j6:j<A
      ·have F:j<p.length:=by rw[z.out];exact j6
       have e2:j<R.length:=by rw[h8.out];omega
       have k5:Sl RC 1 (mk (un (un X oo) d) wr) V R:=(g8.old RC.mono I (fun j O=>hO.ob_lt O)).old RC.mono b (fun j O=>f.ob_lt O);have U:Sl (a0b .i64) 1 (mk (un (un X oo) d) wr) r p:=(b6.old (a0b.mono _) I (fun j O=>hO.ob_lt O)).old (a0b.mono _) b (fun j O=>f.ob_lt O);have t:Hid (∀Y W',ExtX Y wr.drew W'->Y (adr r j).block=false->W'.cell? (adr r j)=some (.int .i64 (p[j]:Int))):=hid fun Y W' h hy=>((ExtX.of (ExtX.refl (Y:=noY) wr).drew).trans h).cellY (U.nat j F) hy;have i5:(un (un X oo) d) (adr r j).block=false:=by
        obtain⟨u,h1,_⟩:=U.cell (a0b.one _) j F;cases hx:(un (un X oo) d) (adr r j).block
        ·rfl
        ·simp[mk,hx]at h1
       have Q:Hid (p[j]<c):=hid (c8.out.lt j F);have e0:Hid (p.getD j 0=p[j]):=hid (by simp[List.getD_eq_getElem?_getD,F]);obtain⟨y,hy⟩:∃y,p[j]=y:=⟨_,rfl⟩;rw[hy]at t Q e0;have l0:y<c:=Q.out;obtain⟨a1,c1,d0,a3,m2,a7⟩:=k5.row j e2;have H:Hid (R[j].length=c):=hid (h9.out.2 R[j] (List.getElem_mem _));have e3:k<R[j].length:=by rw[H.out];exact j8
       have d6:Hid (R[j][k]=ent R j k):=hid (a9R e2 e3);have a2:=hid (a8.out R[j] (List.getElem_mem _) R[j][k] (List.getElem_mem _));obtain⟨C,o4,s4,a4,n4,c4,d4,k4,e4,d8,i0,d3,G⟩:=a7.rat QC.shaped k e3;rw[d6.out]at G a2;have j2:Hd a1 c:=by have:=a7.hd;rw[H.out]at this;exact this
       have f8:y<(xN R p c k j).length:=by rw[a6F];exact l0
       have f4:Hid ((xN R p c k j).set y (- ent R j k)=xN R p c k (j+1)):=hid (by rw[<-e0.out];rfl);obtain⟨v,hv⟩:∃v,ent R j k=v:=⟨_,rfl⟩;rw[hv]at G a2 f4;have D:Ext wr wr.drew:=(ExtX.refl wr).drew;rw[H.out]at a3;have e6:ob d (adr r j).block=false:=(a1E i5).2;have e7:ob d (adr V j).block=false:=(a1E d0).2;have e8:ob d C=false:=(a1E i0).2;have hS:Hid (∀Y W',ExtX Y wr.drew W'->Y (adr r j).block=false->Y (adr V j).block=false->Y C=false->W'.cell? (adr r j)=some (.int .i64 (y:Int))/\W'.cell? (adr V j)=some (.slice a1 c c1)/\W'.cell? ⟨C,o4,none⟩=some (.bool s4)/\W'.cell? ⟨C,o4+1,none⟩=some (.slice a4 n4 c4)/\W'.cell? ⟨C,o4+2,none⟩=some (.slice d4 k4 e4)):=hid fun Y W' h y1 y2 y3=>by
        have p4:=d3.out Y W' ((ExtX.of D).trans h) y3;exact⟨t.out Y W' h y1,a3.out Y W' ((ExtX.of D).trans h) y2,p4.1,p4.2.1,p4.2.2⟩
       obtain⟨l1,l2,l3,l4,l5⟩:=hS.out noY wr.drew (ExtX.refl _) rfl rfl rfl;have i1:∀W,(Instr.indexAt 22 (.slice r A pc) (.int .i64 (j:Int))).run Tryz.prog W= .ok (.pointer (some (adr r j))) W:=a0E a2b r A pc .i64 j e1 (by omega) rfl;have i2:∀W,(Instr.indexAt 25 (.slice V n g9) (.int .i64 (j:Int))).run Tryz.prog W= .ok (.pointer (some (adr V j))) W:=a0E a0q V n g9 .i64 j j3 (by omega) rfl;have i3:∀W,(Instr.indexAt 26 (.slice a1 c c1) (.int .i64 (k:Int))).run Tryz.prog W= .ok (.pointer (some ⟨C,o4,none⟩)) W:=by rw[<-d8];exact a0j a0J a1 c c1 .i64 k j2 (by omega)
       obtain⟨g,o,hg⟩:∃g o,adr d (y*3)=⟨g,o,none⟩:=⟨_,_,rfl⟩;have d7:=hid hg;have i4:∀W,(Instr.indexAt 26 (.slice d c c) (.int .i64 (y:Int))).run Tryz.prog W= .ok (.pointer (some ⟨g,o,none⟩)) W:=by rw[<-hg];exact a0j a0J d c c .i64 y k8 (by omega)
       have k3:QV (mk (un (un X oo) d) wr.drew) (.agg #[.bool s4, .slice a4 n4 c4, .slice d4 k4 e4]) v:=G.qv (by have:=a2.out;have:=h0.out;omega);have i8:HX (un (un X oo) d) wr.drew:=i9;have h7:=f.ext0 QC.elem D;clear hy hv a3 d3 hg d8 a7 G t H d6;go_wp2_with fail
       go_region_held3 (fun w'=>w'.cell? (adr r j)=some (.int .i64 (y:Int))/\w'.cell? (adr V j)=some (.slice a1 c c1)/\w'.cell? ⟨C,o4,none⟩=some (.bool s4)/\w'.cell? ⟨C,o4+1,none⟩=some (.slice a4 n4 c4)/\w'.cell? ⟨C,o4+2,none⟩=some (.slice d4 k4 e4))
        (first|exact hS.out (ob d) _ ((ExtX.of t1).trans T.2) e6 e7 e8|exact hS.out noY _ t1 rfl rfl rfl|go_keep)
        ((go_at_call 56;(with_reducible refine(b0u (un (un X oo) d) wr.drew _ v i8 k3).mono ?_);rintro ee w9 ⟨t1,u9,rfl,f6⟩;obtain⟨s9,a9,n9,c9,d9,k9,e9,rfl⟩:=f6.shape;have a0:=h7.ext0 QC.elem t1;obtain⟨_,v0,v1,v2,_,⟨g0,f0⟩,⟨g1,f1⟩,⟨g2,f2⟩,_⟩:=a0.cell3 y f8 d7.out;have T:=a0.set3 a4V QC.elem y f8 d7.out (v0:= .bool s9) (v1:= .slice a9 n9 c9) (v2:= .slice d9 k9 e9) (x:= -v) f6))
       obtain⟨q1,q2⟩:=T;rw[f4.out]at q1;have c5:=(b.trans (D.trans t1)).own a0 (Nat.le_refl _) q2;clear l1 l2 l3 l4 l5 i1 i2 i3 i4 g0 g1 g2 f0 f1 f2 q2;go_wp2_with fail
       go_roundw
       case rel=>exact⟨j+1,by go_num,by omega,q1,c5⟩
       case measure=>simp[intOf];omega
      ·have j4:j=A:=by omega
       have f7:Hid (xN R p c k j=(List.range c).map (nv (ent R) p k)):=hid (by rw[j4,<-z.out];exact m9.out);rw[f7.out]at f;obtain⟨L,hL⟩:∃L,(List.range c).map (nv (ent R) p k)=L:=⟨_,rfl⟩;rw[hL]at f s;have h6:Hid (L.length=c):=hid (by rw[<-hL];simp);have k6:=f.sl QC.elem;have j5:=f.lenCap;have c7:=hO.ext0 RC.elem b;have m8:=b.size;clear hL;go_wp2_with (at_builtin;refine a0H (l:=a3c (ent R) p c k) a0q rfl RC.elem (by omega) (i6.ext b) q a6.out rfl rfl c7 (.slice d c c) L rfl ⟨d,c,by rw[h6.out],j5,k6⟩ (by omega) (by omega) ?_;intro l6 h5 o0 K b8 n7)
       have b9:=(I.trans b).own c7 (Nat.le_refl _) b8;rw[<-s.out]at K;have P:Hid ((a3c (ent R) p c (k+1)).length=q+1):=hid (by rw[s.out,List.length_append,a6.out];rfl);go_roundw
       case rel=>exact⟨k+1,a,q+1,l6,h5,by go_num,rfl,by go_num,by omega,by omega,ha,P,b2,b1,K,b9⟩
       case measure=>simp[intOf];omega
    ·go_wp2_with fail
     refine a5.mono ?_;rintro e w2 ⟨rfl,rfl⟩;have N:=b0.out w2 (b7.trans I);clear a5;go_wp2_with fail
     refine N.mono ?_;rintro e w3 ⟨rfl,rfl⟩;clear N;go_wp2_with ((with_reducible show wpList _ _ _ (⟨_, .makeSlice _ _ _,_,_,_,_⟩::_) _ _);refine a1G (R:=QC) a0J QC.elem (0:Rat) (fun _=>QC.zero _) (un X oo) b4 w3.heap.size (Nat.le_refl _) c rfl rfl rfl (by omega) (by omega) ?_;intro d w5 E c0)
     have k8:Hd d c:=by have:=E.hd;rw[List.length_replicate]at this;exact this
     have d1:=b4.ext c0;have i7:=E.unX d1;have k7:Hid ((((1:Int):Rat))=1):=hid rfl;refine(a3W (un (un X oo) d) w5 1 i7 (by decide) (by decide)).mono ?_;rintro e w6 ⟨c2,u6,rfl,f5⟩;rw[k7.out]at f5;have Z:=E.ext0 QC.elem c2;go_wp2_with (first|(with_reducible refine a1D a0J (by omega) (by assumption) ?_)|((with_reducible show wpList _ _ _ (⟨_, .store 41 _ _,_,_,_,_⟩::_) _ _);refine a1t a4V QC.elem k rfl (by simp) Z m4 _ 1 rfl f5 ?_;intro w7 c6 c3))
     have J:Ext w3 w7:=(c0.trans c2).own Z (Nat.le_refl _) c3;clear E Z;go_loopw [11] (fun kk wi=>∃(j:Nat),kk= .int .i64 j/\j<=A/\OL QC 3 (un X oo) w3.heap.size 41 wi d c (xN R p c k j)/\Ext w3 wi) (fun kk _=>A - (intOf kk).toNat)
     case atStart=>exact⟨0,rfl,Nat.zero_le _,c6,J⟩
     case round=>
      clear c6 J c3;obtain⟨j,rfl,O,f,b⟩:=hrel;have l9:=I.trans b;have d2:=b4.ext b;have i9:=f.unX d2;by_cases j6:j<A
      ·have F:j<p.length:=by rw[z.out];exact j6
       have e2:j<R.length:=by rw[h8.out];omega
       have k5:Sl RC 1 (mk (un (un X oo) d) wr) V R:=(g8.old RC.mono I (fun j O=>hO.ob_lt O)).old RC.mono b (fun j O=>f.ob_lt O);have U:Sl (a0b .i64) 1 (mk (un (un X oo) d) wr) r p:=(b6.old (a0b.mono _) I (fun j O=>hO.ob_lt O)).old (a0b.mono _) b (fun j O=>f.ob_lt O);have t:Hid (∀Y W',ExtX Y wr.drew W'->Y (adr r j).block=false->W'.cell? (adr r j)=some (.int .i64 (p[j]:Int))):=hid fun Y W' h hy=>((ExtX.of (ExtX.refl (Y:=noY) wr).drew).trans h).cellY (U.nat j F) hy;have i5:(un (un X oo) d) (adr r j).block=false:=by
        obtain⟨u,h1,_⟩:=U.cell (a0b.one _) j F;cases hx:(un (un X oo) d) (adr r j).block
        ·rfl
        ·simp[mk,hx]at h1
       have Q:Hid (p[j]<c):=hid (c8.out.lt j F);have e0:Hid (p.getD j 0=p[j]):=hid (by simp[List.getD_eq_getElem?_getD,F]);obtain⟨y,hy⟩:∃y,p[j]=y:=⟨_,rfl⟩;rw[hy]at t Q e0;have l0:y<c:=Q.out;obtain⟨a1,c1,d0,a3,m2,a7⟩:=k5.row j e2;have H:Hid (R[j].length=c):=hid (h9.out.2 R[j] (List.getElem_mem _));have e3:k<R[j].length:=by rw[H.out];exact j8
       have d6:Hid (R[j][k]=ent R j k):=hid (a9R e2 e3);have a2:=hid (a8.out R[j] (List.getElem_mem _) R[j][k] (List.getElem_mem _));obtain⟨C,o4,s4,a4,n4,c4,d4,k4,e4,d8,i0,d3,G⟩:=a7.rat QC.shaped k e3;rw[d6.out]at G a2;have j2:Hd a1 c:=by have:=a7.hd;rw[H.out]at this;exact this
       have f8:y<(xN R p c k j).length:=by rw[a6F];exact l0
       have f4:Hid ((xN R p c k j).set y (- ent R j k)=xN R p c k (j+1)):=hid (by rw[<-e0.out];rfl);obtain⟨v,hv⟩:∃v,ent R j k=v:=⟨_,rfl⟩;rw[hv]at G a2 f4;have D:Ext wr wr.drew:=(ExtX.refl wr).drew;rw[H.out]at a3;have e6:ob d (adr r j).block=false:=(a1E i5).2;have e7:ob d (adr V j).block=false:=(a1E d0).2;have e8:ob d C=false:=(a1E i0).2;have hS:Hid (∀Y W',ExtX Y wr.drew W'->Y (adr r j).block=false->Y (adr V j).block=false->Y C=false->W'.cell? (adr r j)=some (.int .i64 (y:Int))/\W'.cell? (adr V j)=some (.slice a1 c c1)/\W'.cell? ⟨C,o4,none⟩=some (.bool s4)/\W'.cell? ⟨C,o4+1,none⟩=some (.slice a4 n4 c4)/\W'.cell? ⟨C,o4+2,none⟩=some (.slice d4 k4 e4)):=hid fun Y W' h y1 y2 y3=>by
        have p4:=d3.out Y W' ((ExtX.of D).trans h) y3;exact⟨t.out Y W' h y1,a3.out Y W' ((ExtX.of D).trans h) y2,p4.1,p4.2.1,p4.2.2⟩
       obtain⟨l1,l2,l3,l4,l5⟩:=hS.out noY wr.drew (ExtX.refl _) rfl rfl rfl;have i1:∀W,(Instr.indexAt 22 (.slice r A pc) (.int .i64 (j:Int))).run Tryz.prog W= .ok (.pointer (some (adr r j))) W:=a0E a2b r A pc .i64 j e1 (by omega) rfl;have i2:∀W,(Instr.indexAt 25 (.slice V n g9) (.int .i64 (j:Int))).run Tryz.prog W= .ok (.pointer (some (adr V j))) W:=a0E a0q V n g9 .i64 j j3 (by omega) rfl;have i3:∀W,(Instr.indexAt 26 (.slice a1 c c1) (.int .i64 (k:Int))).run Tryz.prog W= .ok (.pointer (some ⟨C,o4,none⟩)) W:=by rw[<-d8];exact a0j a0J a1 c c1 .i64 k j2 (by omega)
       obtain⟨g,o,hg⟩:∃g o,adr d (y*3)=⟨g,o,none⟩:=⟨_,_,rfl⟩;have d7:=hid hg;have i4:∀W,(Instr.indexAt 26 (.slice d c c) (.int .i64 (y:Int))).run Tryz.prog W= .ok (.pointer (some ⟨g,o,none⟩)) W:=by rw[<-hg];exact a0j a0J d c c .i64 y k8 (by omega)
       have k3:QV (mk (un (un X oo) d) wr.drew) (.agg #[.bool s4, .slice a4 n4 c4, .slice d4 k4 e4]) v:=G.qv (by have:=a2.out;have:=h0.out;omega);have i8:HX (un (un X oo) d) wr.drew:=i9;have h7:=f.ext0 QC.elem D;clear hy hv a3 d3 hg d8 a7 G t H d6;go_wp2_with fail
       go_region_held3 (fun w'=>w'.cell? (adr r j)=some (.int .i64 (y:Int))/\w'.cell? (adr V j)=some (.slice a1 c c1)/\w'.cell? ⟨C,o4,none⟩=some (.bool s4)/\w'.cell? ⟨C,o4+1,none⟩=some (.slice a4 n4 c4)/\w'.cell? ⟨C,o4+2,none⟩=some (.slice d4 k4 e4))
        (first|exact hS.out (ob d) _ ((ExtX.of t1).trans T.2) e6 e7 e8|exact hS.out noY _ t1 rfl rfl rfl|go_keep)
        ((go_at_call 56;(with_reducible refine(b0u (un (un X oo) d) wr.drew _ v i8 k3).mono ?_);rintro ee w9 ⟨t1,u9,rfl,f6⟩;obtain⟨s9,a9,n9,c9,d9,k9,e9,rfl⟩:=f6.shape;have a0:=h7.ext0 QC.elem t1;obtain⟨_,v0,v1,v2,_,⟨g0,f0⟩,⟨g1,f1⟩,⟨g2,f2⟩,_⟩:=a0.cell3 y f8 d7.out;have T:=a0.set3 a4V QC.elem y f8 d7.out (v0:= .bool s9) (v1:= .slice a9 n9 c9) (v2:= .slice d9 k9 e9) (x:= -v) f6))
       obtain⟨q1,q2⟩:=T;rw[f4.out]at q1;have c5:=(b.trans (D.trans t1)).own a0 (Nat.le_refl _) q2;clear l1 l2 l3 l4 l5 i1 i2 i3 i4 g0 g1 g2 f0 f1 f2 q2;go_wp2_with fail
       go_roundw
       case rel=>exact⟨j+1,by go_num,by omega,q1,c5⟩
       case measure=>simp[intOf];omega
      ·have j4:j=A:=by omega
       have f7:Hid (xN R p c k j=(List.range c).map (nv (ent R) p k)):=hid (by rw[j4,<-z.out];exact m9.out);rw[f7.out]at f;obtain⟨L,hL⟩:∃L,(List.range c).map (nv (ent R) p k)=L:=⟨_,rfl⟩;rw[hL]at f s;have h6:Hid (L.length=c):=hid (by rw[<-hL];simp);have k6:=f.sl QC.elem;have j5:=f.lenCap;have c7:=hO.ext0 RC.elem b;have m8:=b.size;clear hL;go_wp2_with (at_builtin;refine a0H (l:=a3c (ent R) p c k) a0q rfl RC.elem (by omega) (i6.ext b) q a6.out rfl rfl c7 (.slice d c c) L rfl ⟨d,c,by rw[h6.out],j5,k6⟩ (by omega) (by omega) ?_;intro l6 h5 o0 K b8 n7)
       have b9:=(I.trans b).own c7 (Nat.le_refl _) b8;rw[<-s.out]at K;have P:Hid ((a3c (ent R) p c (k+1)).length=q+1):=hid (by rw[s.out,List.length_append,a6.out];rfl);go_roundw
       case rel=>exact⟨k+1,a,q+1,l6,h5,by go_num,rfl,by go_num,by omega,by omega,ha,P,b2,b1,K,b9⟩
       case measure=>simp[intOf];omega
  ·have n3:k=c:=by omega
   subst n3;go_wp2_with fail
   refine a5.mono ?_;rintro e w2 ⟨rfl,rfl⟩;rw[j1.out]at hO a6;have hc:=hO.lenCap;have hs:=hO.sl RC.elem;go_wp2_with fail
   go_ret2
   exact⟨b7.trans I, .slice oo q co,rfl,oo,co,by rw[a6.out],hc,hs⟩
theorem b6t:SliceT Tryz.prog 47 22 1 24 (.slice none 0 0):=⟨Tryz.underlying47,by kernel_rfl⟩
def a8i(X:Nat->Bool)(w:World)(N H:Nat)(e:Ending)(w':World):Prop:=Ext w w'/\∃(oo:Option Addr) (co:Nat),e= .returned (.slice oo (a0z N H 0).length co)/\(a0z N H 0).length<=co/\OL (SlV (a0v .i64) 1) 1 X w.heap.size 22 w' oo co (a0z N H 0)
def mid(L:List Int)(H p j:Nat):List Int:=(List.range H).map fun q=>if q<p then L.getD q 0 else if q<j then L.getD p 0+1+((q:Int) - p)else L.getD q 0
theorem b4e{X:Nat->Bool}{lo oo a:Option Addr}{n:Nat}(c:∀k,ob a k=true->un X oo k=false)(d:∀k,ob a k=true->n<=k)(e:∀k,ob lo k=true->k<n):∀k,ob a k=true->un (un X lo) oo k=false:=fun k b=>by
 obtain⟨f,g⟩:=a1E (c k b);have h:ob lo k=false:=by
  cases i:ob lo k
  ·rfl
  ·have:=d k b;have:=e k i;omega
 simp[un,f,g,h]
theorem a1A(L:List Int)(H p j:Nat):(mid L H p j).length=H:=by simp[mid]
theorem a3g(L:List Int)(H p j q:Nat)(hq:q<(mid L H p j).length):(mid L H p j)[q]=if q<p then L.getD q 0 else if q<j then L.getD p 0+1+((q:Int) - p)else L.getD q 0:=by simp[mid]
theorem a5d{L:List Int}{q:Nat}{x:Int}(hq:q<L.length)(h:L[q]=x):L.getD q 0=x:=by simp[List.getD,hq,h]
theorem b2m{L:List Int}{H p:Nat}{x:Int}(d:L.length=H)(e:p<L.length)(hx:L[p]=x):L.set p (x+1)=mid L H p (p+1):=by
 apply List.ext_getElem
 ·rw[a1A,List.length_set,d]
 ·intro q c f
  rw[a3g,List.getElem_set];have hq:q<L.length:=by simpa using c
  by_cases a:p=q
  ·subst a;rw[if_pos rfl,if_neg (by omega),if_pos (by omega),a5d e hx];omega
  ·rw[if_neg a]
   by_cases b:q<p
   ·rw[if_pos b,a5d hq rfl]
   ·rw[if_neg b,if_neg (by omega),a5d hq rfl]
theorem b4f{L:List Int}{H p j:Nat}{y:Int}(e:p<j)(h:j<H)(b:(mid L H p j)[j - 1]'(by rw[a1A];omega)=y):(mid L H p j).set j (y+1)=mid L H p (j+1):=by
 apply List.ext_getElem
 ·rw[a1A,List.length_set,a1A]
 ·intro q f g
  rw[a3g]at b;rw[if_neg (by omega),if_pos (by omega)]at b;rw[a3g,List.getElem_set];by_cases c:j=q
  ·subst c;rw[if_pos rfl,if_neg (by omega),if_pos (by omega),<-b];omega
  ·rw[if_neg c,a3g]
   by_cases a:q<p
   ·rw[if_pos a,if_pos a]
   ·rw[if_neg a,if_neg a]
    by_cases d:q<j
    ·rw[if_pos d,if_pos (by omega)]
    ·rw[if_neg d,if_neg (by omega)]
theorem b4g{L:List Int}{H p:Nat}(e:L.length=H)(c:p<L.length):mid L H p H=L.take p++up (L[p]+1) (L.length - p):=by
 apply List.ext_getElem
 ·rw[a1A,List.length_append,List.length_take,a5N];omega
 ·intro q a d
  rw[a1A]at a;rw[a3g,List.getElem_append];by_cases b:q<p
  ·rw[if_pos b,dif_pos (by simp;omega),List.getElem_take,a5d (by omega) rfl]
  ·rw[if_neg b,if_pos a,dif_neg (by simp;omega),b1c,a5d c rfl]
   simp only[List.length_take];omega
theorem b0D(X:Nat->Bool)(N H:Nat)(w:World)(hN:N<=64)(hH:H<=N)(hch:ch N H<=1000000)(hX:∀k,X k=true->k<w.heap.size):Calls Tryz.prog 88 #[.int .i64 (N:Int), .int .i64 (H:Int)] w (a8i X w N H):=by
 have hfirst:=hid (a2W N H 0);go_enter Tryz.func88,Tryz.ntmps88
 go_wp2_with (at_make;refine a1G a2b (a0v.elem .i64) 0 (fun _=>rfl) X hX w.heap.size (Nat.le_refl _) H rfl rfl rfl (by omega) (by omega) ?_;intro lo w1 hL1 hE1)
 go_loopw [6,21] (fun s c wr=>∃(k:Nat) (L:List Int),c= .int .i64 k/\k<=H/\L.length=H/\Hid (∀q (hq:q<L.length),q<k->L[q]=q)/\OL (a0v .i64) 1 X w.heap.size 3 wr lo H L/\Ext w wr) (fun _ c _=>H - (intOf c).toNat)
 case atStart=>exact⟨0,List.replicate H 0,rfl,Nat.zero_le _,by simp,hid (fun q hq h0=>by omega),hL1,hE1⟩
 case round=>
  obtain⟨k,L,rfl,hk,hLl,hq,hL,hE⟩:=hrel;have hhl:Hd lo H:=hLl▸hL.hd;by_cases hlt:k<H
  ·go_wp2_with (first|(with_reducible refine a0m a2b (by omega) (by assumption) ?_)|((with_reducible show wpList _ _ _ (⟨_, .store _ _ _,_,_,_,_⟩::_) _ _);refine a4d b5w k (k:Int) rfl rfl hL (by omega) rfl rfl ?_;intro w2 hL2 hE2))
   have hE3:=hE.own hL (Nat.le_refl _) hE2;have hq2:Hid (∀q (hq:q<(L.set k (k:Int)).length),q<k+1->(L.set k (k:Int))[q]=q):=hid (fun q hq1 hqk=>by
    by_cases hqk':k=q
    ·subst hqk';simp
    ·rw[List.getElem_set_ne hqk'];exact hq.out q _ (by omega))
   go_roundw
   case rel=>exact⟨k+1,L.set k (k:Int),by go_num,by omega,by simpa using hLl,hq2,hL2,hE3⟩
   case measure=>simp[intOf];omega
  ·have hup:Hid ((a0z N H 0)[0]? =some L):=hid (by
    have hup:L=up 0 H:=by
     apply List.ext_getElem
     ·rw[a5N,hLl]
     ·intro i h1 h2
      rw[hq.out i h1 (by omega),b1c];omega
    rw[hup];have:=hfirst.out;rw[if_pos hH]at this;exact this)
   have hXr:∀k,X k=true->k<wr.heap.size:=fun k hk=>Nat.lt_of_lt_of_le (hX k hk) hE.size;have hXl:=hL.unX hXr;clear hq hfirst hE1 hL1;go_wp2_with (at_builtin;refine a8X a2b rfl (a0v.elem .i64) hXr L rfl rfl hLl.symm (hL.sl (a0v.elem .i64)) (by omega) (by omega) ?_;intro a2 c2 w2 hC hE2)
   have hC2:Sl (a0v .i64) 1 (mk (un X lo) w2) a2 L:=hC.rehide (a0v.elem .i64) (fun _ _ _ _ h=>h) (fun k hk=>by
    have h1:X k=false:=hC.1 k hk;have h2:=(hC.block hk).1;have h3:ob lo k=false:=hL.ob_ge h2;simp[un,h1,h3])
   have hXl2:∀k,un X lo k=true->k<w2.heap.size:=fun k hk=>Nat.lt_of_lt_of_le (hXl k hk) hE2.size;have hw2:w.heap.size<=w2.heap.size:=Nat.le_trans hE.size hE2.size;have hO:OL (SlV (a0v .i64) 1) 1 (un X lo) w.heap.size 22 (w2.alloc (.cells #[.slice a2 H c2] 22)) (some ⟨w2.heap.size,0,none⟩) 1 [L]:=
    OL.lit (SlV.elem (a0v.elem .i64)) hXl2 hw2 [.slice a2 H c2] [L] _ (by simp[a0g,Value.cells]) rfl
     (fun i hi _=>by
              match i,hi with
              |0,_=>exact⟨a2,c2,by rw[<-hLl];rfl,hC.lenCap,hC2⟩) (by simp)
   have hL2:OL (a0v .i64) 1 (un X (some ⟨w2.heap.size,0,none⟩)) w.heap.size 3 (w2.alloc (.cells #[.slice a2 H c2] 22)) lo H L:=
    (hL.ext0 (a0v.elem .i64) hE2).ext (a0v.elem .i64) (Y:=noY) ((ExtX.refl _).alloc _) (fun k _ hk=>by simp[noY]at hk) (fun k hk hz=>by
     by_cases hx:X k=true
     ·exact hx
     ·have:w2.heap.size=k:=by simpa[un,hx,ob]using hz
      omega)
   have hE4:Ext w (w2.alloc (.cells #[.slice a2 H c2] 22)):=(hE.trans hE2).alloc _;have hlen:=hid (a1I N H 0);have hO':OL (SlV (a0v .i64) 1) 1 (un X lo) w.heap.size 22 (w2.alloc (.cells #[.slice a2 H c2] 22)) (some ⟨w2.heap.size,0,none⟩) 1 ((a0z N H 0).take 1):=by
    have h0:=hup.out;rw[List.getElem?_eq_some_iff]at h0;obtain⟨h1,h2⟩:=h0;rw[List.take_succ_eq_append_getElem h1,h2];exact hO
   clear hO hC hC2 hL hE hE2;go_loopw [7] (fun s wr=>∃(k:Nat) (L:List Int) (oo:Option Addr) (co:Nat),s= .slice oo (k+1) co/\L.length=H/\Hid ((a0z N H 0)[k]? =some L)/\OL (SlV (a0v .i64) 1) 1 (un X lo) w.heap.size 22 wr oo co ((a0z N H 0).take (k+1))/\OL (a0v .i64) 1 (un X oo) w.heap.size 3 wr lo H L/\Ext w wr) (fun s _=>(a0z N H 0).length - lenOf s)
   case atStart=>exact⟨0,L,_,_,rfl,hLl,hup,hO',hL2,hE4⟩
   case round=>
    obtain⟨k2,M,oo,co,rfl,hMl,hM,hOO,hMM,hEE⟩:=hrel;clear hO' hL2 hE4 hup hLl;clear L;have hhl:Hd lo H:=hMl▸hMM.hd;go_wp2_with fail
    go_loop [8] (fun c=>∃(i:Int),c= .int .i64 i/\ -1<=i/\i<H/\Hid (∀q (hq:q<M.length),i<q->M[q]=(N:Int) - H+q)) (fun c=>((intOf c)+1).toNat)
    case atStart=>exact⟨(H:Int) - 1,rfl,by omega,by omega,hid (fun q hq h0=>by omega)⟩
    case round=>
     obtain⟨i,rfl,hi1,hi2,hq⟩:=hrel;by_cases hi0:0<=i
     ·obtain⟨p,rfl⟩:=Int.eq_ofNat_of_zero_le hi0
      have hp:p<M.length:=by omega
      have c1:=hMM.sl (a0v.elem .i64)|>.int p hp;obtain⟨x,hx⟩:∃x,M[p]=x:=⟨_,rfl⟩;rw[hx]at c1;have hx':=hid hx;clear hx;by_cases hxe:x=(N:Int) - H+p
      ·have hq2:Hid (∀q (hq:q<M.length),(p:Int) - 1<q->M[q]=(N:Int) - H+q):=hid (fun q hq1 hqp=>by
        by_cases hqe:q=p
        ·subst hqe;rw[hx'.out];exact hxe
        ·exact hq.out q hq1 (by omega))
       go_wp2_with (with_reducible refine a0m a2b (by omega) (by assumption) ?_)
       go_round
       case rel=>exact⟨(p:Int) - 1,rfl,by omega,by omega,hq2⟩
       case measure=>simp[intOf]
      ·have hmem:M∈a0z N H 0:=by
        have:=hM.out;rw[List.getElem?_eq_some_iff]at this;obtain⟨h1,h2⟩:=this;rw[<-h2];exact List.getElem_mem h1
       have hxb:0<=x/\x<(N:Int) - H+p:=by
        have h1:=(a1M N H 0 M hmem).2.1 x (hx'.out▸List.getElem_mem hp);have h2:=b1d N H 0 M hmem p hp;rw[hx'.out]at h2;omega
       have hnx:Hid ((a0z N H 0)[k2+1]? =some (mid M H p H)):=hid (by
        have h0:=hM.out;rw[List.getElem?_eq_some_iff]at h0;obtain⟨h1,h2⟩:=h0;rw[<-a4s N H 0 k2 h1,h2,b4g hMl hp];have h3:=a9v (0+(N:Int)) M p hp (by rw[hx'.out,hMl];omega) (fun q hq1 hqp=>by rw[hq.out q hq1 (by omega),hMl];omega);exact h3)
       have hset:=hid (b2m hMl hp hx'.out);clear hmem hq;go_wp2_with (first|(with_reducible refine a0m a2b (by omega) (by assumption) ?_)|((with_reducible show wpList _ _ _ (⟨_, .store _ _ _,_,_,_,_⟩::_) _ _);refine a4d b5w p (x+1) rfl rfl hMM hp rfl rfl ?_;intro w3 hM3 hE3))
       have hO3:=hOO.ext (SlV.elem (a0v.elem .i64)) hE3 (fun k _ hk=>a0t hk) (fun _ _ h=>h);have hE4:=hEE.own hMM (Nat.le_refl _) hE3;rw[hset.out]at hM3;clear hOO hMM hEE hE3 c1;go_loopw [9] (fun c wr=>∃(j:Nat),c= .int .i64 j/\p<j/\j<=H/\OL (SlV (a0v .i64) 1) 1 (un X lo) w.heap.size 22 wr oo co ((a0z N H 0).take (k2+1))/\OL (a0v .i64) 1 (un X oo) w.heap.size 3 wr lo H (mid M H p j)/\Ext w wr) (fun c _=>H - (intOf c).toNat)
       case atStart=>exact⟨p+1,by go_num,by omega,by omega,hO3,hM3,hE4⟩
       case round=>
        obtain⟨j,rfl,hpj,hjH,hO5,hM5,hE5⟩:=hrel;clear hO3 hM3 hE4;by_cases hj:j<H
        ·have hj1:j - 1<(mid M H p j).length:=by rw[a1A];omega
         have hj2:j<(mid M H p j).length:=by rw[a1A];exact hj
         have c2:=hM5.sl (a0v.elem .i64)|>.int (j - 1) hj1;obtain⟨y,hy⟩:∃y,(mid M H p j)[j - 1]=y:=⟨_,rfl⟩;have hyb:0<=y/\y<=1000:=by
          rw[a3g,if_neg (by omega),if_pos (by omega),a5d hp hx'.out]at hy;omega
         rw[hy]at c2;have hnext:=hid (b4f hpj hj hy);clear hy;obtain⟨j',rfl⟩:∃j',j=j'+1:=⟨j - 1,by omega⟩;simp only[Nat.add_sub_cancel]at c2;go_wp2_with (first|(with_reducible refine a0m a2b (by omega) (by assumption) ?_)|((with_reducible show wpList _ _ _ (⟨_, .store _ _ _,_,_,_,_⟩::_) _ _);refine a4d b5w (j'+1) (y+1) rfl rfl hM5 hj2 rfl rfl ?_;intro w6 hM6 hE6))
         have hO6:=hO5.ext (SlV.elem (a0v.elem .i64)) hE6 (fun k _ hk=>a0t hk) (fun _ _ h=>h);have hE7:=hE5.own hM5 (Nat.le_refl _) hE6;rw[hnext.out]at hM6;go_roundw
         case rel=>exact⟨j'+1+1,by go_num,by omega,by omega,hO6,hM6,hE7⟩
         case measure=>simp[intOf];omega
        ·have hje:j=H:=by omega
         rw[hje]at hM5;obtain⟨T,hT⟩:∃T,mid M H p H=T:=⟨_,rfl⟩;have hTl:T.length=H:=by rw[<-hT,a1A]
         rw[hT]at hM5 hnx;have hX5:∀k,X k=true->k<wr.heap.size:=fun k hk=>Nat.lt_of_lt_of_le (hX k hk) hE5.size;have hbl:∀k,ob lo k=true->w.heap.size<=k/\k<wr.heap.size:=fun k hk=>hM5.block hk;have hbo:∀k,ob oo k=true->w.heap.size<=k/\k<wr.heap.size:=fun k hk=>hO5.block hk;have hXo5:∀k,un X oo k=true->k<wr.heap.size:=fun k hk=>by
          by_cases hx:X k=true
          ·exact hX5 k hx
          ·exact(hbo k (by simpa[un,hx]using hk)).2
         have hXl5:∀k,un X lo k=true->k<wr.heap.size:=fun k hk=>by
          by_cases hx:X k=true
          ·exact hX5 k hx
          ·exact(hbl k (by simpa[un,hx]using hk)).2
         have hklen:k2+1<(a0z N H 0).length:=(List.getElem?_eq_some_iff.1 hnx.out).1;have hkch:k2+1<ch N H:=by rw[<-hlen.out];exact hklen
         have htake:((a0z N H 0).take (k2+1)).length=k2+1:=by simp;omega
         have htake2:Hid ((a0z N H 0).take (k2+1)++[T]=(a0z N H 0).take (k2+1+1)):=hid (by
          obtain⟨h1,h2⟩:=List.getElem?_eq_some_iff.1 hnx.out;rw[List.take_succ_eq_append_getElem h1,h2])
         have hklen':=hid hklen;have htake':=hid htake;clear hklen htake;clear hXl hXl2 hXr;clear hset hX5;go_wp2_with (first|(at_builtin;refine a8X a2b rfl (a0v.elem .i64) hXo5 T rfl rfl hTl.symm (hM5.sl (a0v.elem .i64)) (by omega) (by omega) ?_;intro a3 c3 w6 hC hE6;have hO6:=hO5.ext0 (SlV.elem (a0v.elem .i64)) hE6;have hXl6:∀k,un X lo k=true->k<w6.heap.size:=fun k hk=>Nat.lt_of_lt_of_le (hXl5 k hk) hE6.size;have hb6:w.heap.size<=w6.heap.size:=Nat.le_trans hE5.size hE6.size;have hC3:Sl (a0v .i64) 1 (mk (un (un X lo) oo) w6) a3 T:=hC.rehide (a0v.elem .i64) (fun _ _ _ _ h=>h) (b4e hC.1 (fun k hk=>(hC.block hk).1) (fun k hk=>(hbl k hk).2)))|(at_builtin;refine a0H b6t rfl (SlV.elem (a0v.elem .i64)) hb6 hXl6 (k2+1) htake'.out rfl rfl hO6 (.slice a3 H c3) T rfl ⟨a3,c3,by rw[hTl],hC.lenCap,hC3⟩ (by omega) (by omega) ?_;intro oo7 co7 w7 hO7 hE7 hor))
         have hM7:=(hM5.ext0 (a0v.elem .i64) hE6).beside (a0v.elem .i64) hE7 hor;have hE8:=(hE5.trans hE6).own hO6 (Nat.le_refl _) hE7;rw[htake2.out]at hO7;go_roundw
         case rel=>exact⟨k2+1,T,oo7,co7,rfl,hTl,hnx,hO7,hM7,hE8⟩
         case measure=>
          have:=hklen'.out;simp[lenOf];omega
     ·have hall:Hid ((a0z N H 0).length<=k2+1):=hid (by
       have h0:=hM.out;rw[List.getElem?_eq_some_iff]at h0;obtain⟨h1,h2⟩:=h0;have h3:=a4s N H 0 k2 h1;rw[h2,a6X (0+(N:Int)) M (fun q hq1=>by rw[hq.out q hq1 (by omega),hMl];omega)]at h3;exact List.getElem?_eq_none_iff.1 h3.symm)
      have hk3:(a0z N H 0).length=k2+1:=by
       have h1:=(List.getElem?_eq_some_iff.1 hM.out).1;have h2:=hall.out;omega
      have hO9:=hOO.ext (SlV.elem (a0v.elem .i64)) (ExtX.refl (Y:=noY) wr) (fun k _ hk=>by simp[noY]at hk) (Z:=X) (fun k _ hk=>a0o hk);rw[List.take_of_length_le hall.out]at hO9;have hk3':=hid hk3;clear hk3;have hcc:=hO9.lenCap;go_wp2_with fail
      go_ret
      exact⟨hEE,oo,co,a3w hk3'.out.symm,hcc,hO9⟩
end Go.Proofs.YtnnpfhoigmegcaaGreat
namespace Go.Lin
open Go.Lim Go.Rep
end Go.Lin
namespace Go.Lim
end Go.Lim
namespace Go.Proofs.YtnnpfhoigmegcaaGreat
open Go.RowKit Go.Rep Go.Lim Go.Lin
theorem b6u:SliceT Tryz.prog 47 22 1 24 (.slice none 0 0):=⟨Tryz.underlying47,by kernel_rfl⟩
theorem rof(X:Nat->Bool)(w:World)(v:Int)(n:HX X w)(i: -9223372036854775808<=v)(j:v<=9223372036854775807):Calls Tryz.prog 43 #[.int .i64 v] w (a1F X w QC v):=by
 obtain⟨W,y,m,h,hz⟩:=a0Q w #[.bool false, .slice none 0 0, .slice none 0 0] 41;have c:HX (a0e X w.heap.size 1) W:=n.boxes hz;obtain⟨b,o⟩:∃b,w.heap.size=b:=⟨_,rfl⟩;have p:w.heap.size<=b:=by omega
 rw[o]at h hz c;have f:=hid i;have g:=hid j;clear i j;go_enter Tryz.func43,Tryz.ntmps43
 go_wp2_with fail
 refine(a3W (a0e X b 1) W v c f.out g.out).mono ?_;rintro u w1 ⟨a,C,rfl,d⟩;obtain⟨B,r,A,s,t,z,x,rfl⟩:=d.shape;have e:=h.ext0 a;go_wp2_with ((with_reducible show wpList _ _ _ (⟨_, .store _ _ _,_,_,_,_⟩::_) _ _);refine a0a a0k rfl rfl e rfl rfl (a1n _ _ _ _ _ _ _) ?_;intro D q k)
 have l:=QC.mono _ _ _ _ a0h (QC.mono _ _ _ _ (a0f k (by omega) (by omega)) d);exact bodyPost_ret (a0d rfl rfl a0k q rfl) rfl ⟨ExtX.box (m.trans a) k (by omega),_,rfl,l⟩
end Go.Proofs.YtnnpfhoigmegcaaGreat
namespace Go.Lin
open Go.Lim Go.Rep
theorem b2n{x:Mat}{c:Nat}{C:List (List Int)}{q:Nat}(h:q<C.length):(C.take (q+1)).filterMap (a4c x c)=(C.take q).filterMap (a4c x c)++(a4c x c C[q]).toList:=by
 rw[List.take_succ_eq_append_getElem h,List.filterMap_append];cases a:a4c x c C[q]<;>simp[a]
theorem b2o{n c:Nat}{x:Mat}(b:Shp n c x)(a:n<=8)(_:1<=c):(a0R x c).length<=1000:=by
 unfold a0R;split
 ·simp
 ·refine Nat.le_trans (List.length_filterMap_le _ _) ?_
  rw[a1I,b.1];have d:ch n (c - 1)<=2^n:=b1b n (c - 1);have e:2^n<=2^8:=Nat.pow_le_pow_right (by decide) a;omega
theorem b2p{n c B:Nat}{x:Mat}{s:List Int}(f:Shp n c x)(d:HB B x)(e:B<=1000)(a:c<=4)(b:∀i∈s,0<=i/\i<(x.length:Int)):a7v (a1p x s) c:=
 (a5b (a6d f b) (a8S d b) a (by omega)).2
end Go.Lin
namespace Go.Proofs.YtnnpfhoigmegcaaGreat
open Go.RowKit Go.Rep Go.Lim Go.Lin
theorem b4h(X:Nat->Bool)(w:World)(v:Value)(l:List Rat)(t:TypeId)(b:HX X w)(h:RC (mk X w) v l):OL RC 1 X w.heap.size t (w.alloc (.cells #[v] t)) (some ⟨w.heap.size,0,none⟩) 1 [l]:=by
 have a:v.cells=#[v]:=by obtain⟨_,_,rfl,_⟩:=h;rfl
 exact OL.lit RC.elem b (Nat.le_refl _) [v] [l] _ (by simp[a0g,a]) rfl (fun i hi _=>by
  have:i=0:=by simpa using hi
  subst this;exact h) (by simp)
theorem b2q(X:Nat->Bool)(w:World)(u:Value)(x:Mat)(n c B:Nat)(hX:HX X w)(hu:MV (mk X w) u x)(hs:Shp n c x)(hn1:1<=n)(hn:n<=8)(hc1:1<=c)(hc4:c<=4)(hcn:c<=n)(hB:BM B x)(hB1:1<=B)(hBB:B<=1000):Calls Tryz.prog 111 #[u, .int .i64 (c:Int)] w (a1F X w MC (a0R x c)):=by
 obtain⟨ao,ca,rfl,hca,hsa⟩:=hu;have hxl:x.length=n:=hs.1;have hhx:=hsa.hd;rw[hxl]at hca hhx |-;by_cases hc:c=1
 ·subst hc
  have hr1:a0R x 1= [[1]]:=by simp[a0R]
  have hv1:Hid ((((1:Int):Rat))=1):=hid rfl;rw[hr1];clear hsa hB hs hxl hr1;go_enter Tryz.func111,Tryz.ntmps111
  go_wp2_with fail
  refine(rof X w 1 hX (by decide) (by decide)).mono ?_;rintro e w3 ⟨hE3,u3,rfl,hu3⟩;obtain⟨s3,a3,n3,c3,d3,k3,e3,rfl⟩:=hu3.shape;rw[hv1.out]at hu3;have hX3:=hX.ext hE3;have hL:=(a9O X w3 s3 a3 n3 c3 d3 k3 e3 1 41 hX3 hu3).sl QC.elem;have hEl:Ext w3 (w3.alloc (.cells #[.bool s3, .slice a3 n3 c3, .slice d3 k3 e3] 41)):=(ExtX.refl _).alloc _;have hL2:=(b4h X _ (Value.slice (some ⟨w3.heap.size,0,none⟩) 1 1) [1] 26 (hX3.ext hEl) ⟨_,_,rfl,Nat.le_refl _,hL⟩).sl RC.elem;rw[show(w3.alloc (.cells #[.bool s3, .slice a3 n3 c3, .slice d3 k3 e3] 41)).heap.size=w3.heap.size+1 by simp]at hL2;have hEm:=hEl.alloc (.cells #[.slice (some ⟨w3.heap.size,0,none⟩) 1 1] 26);clear hL hu3;go_wp2_with fail
  go_ret
  exact⟨hE3.trans hEm,_,rfl,_,_,rfl,Nat.le_refl _,hL2⟩
 obtain⟨r,rfl⟩:∃r,c=r+1:=⟨c - 1,by omega⟩;have hhb:=a5Y hB hB1;have hmem:=a1M n r 0;have hsb:∀s∈a0z n r 0,∀i∈s,0<=i/\i<(x.length:Int):=fun s h i hi=>by
  have:=(hmem s h).2.1 i hi;omega
 have hnull:=hid (fun X' w' um s (h:s∈a0z n r 0) (hX':HX X' w') (hm:MV (mk X' w') um (a1p x s))=>(by
  have h1:=a6d hs (hsb s h);rw[(hmem s h).1]at h1;obtain⟨h2,h3⟩:=a2P h1 (by omega) (by omega) (by omega) (by omega);exact b4d X' w' um (a1p x s) r (r+1) hX' hm h2 h1.1 h3 (b2p hs hhb hBB hc4 (hsb s h)):Calls Tryz.prog 190 #[um] w' (b5X X' w' (a1j (a1p x s) (r+1)))))
 have hyes:=hid (fun s d (h:a1j (a1p x s) (r+1)= [d])=>(by
  have:a4c x (r+1) s=match a1j (a1p x s) (r+1)with| [d]=>some d|_=>none:=rfl
  rw[this,h];rfl:(a4c x (r+1) s).toList= [d]))
 have hno:=hid (fun s (h:(a1j (a1p x s) (r+1)).length≠1)=>(by
  have:a4c x (r+1) s=match a1j (a1p x s) (r+1)with| [d]=>some d|_=>none:=rfl
  rw[this];split
  ·rename_i e;rw[e]at h;exact absurd rfl h
  ·rfl:(a4c x (r+1) s).toList= []))
 have hch:ch n r<=1000:=by
  have h3:ch n r<=2^n:=b1b n r;have h4:2^n<=2^8:=Nat.pow_le_pow_right (by decide) hn;omega
 have hclen:(a0z n r 0).length<=1000:=by rw[a1I];exact hch
 have hrr:a0R x (r+1)=(a0z n r 0).filterMap (a4c x (r+1)):=by unfold a0R;rw[if_neg hc,hxl];rfl
 have hmeml:=hid (fun s (h:s∈a0z n r 0)=>(hmem s h).1);have hmemb:=hid (fun s (h:s∈a0z n r 0) i (hi:i∈s)=>(by have:=(hmem s h).2.1 i hi;omega:0<=i/\i<(n:Int)));have hcom:=b0D X n r;rw[hrr];obtain⟨C,hC⟩:∃C,a0z n r 0=C:=⟨_,rfl⟩;have hcom':=hid (fun w' (hX':HX X w')=>(by
  have:=hcom w' (by omega) (by omega) (by omega) hX';unfold a8i at this;rw[hC]at this;exact this:Calls Tryz.prog 88 #[.int .i64 (n:Int), .int .i64 (r:Int)] w' (fun e w''=>Ext w' w''/\∃(oo:Option Addr) (co:Nat),e= .returned (.slice oo C.length co)/\C.length<=co/\OL (SlV (a0v .i64) 1) 1 X w'.heap.size 22 w'' oo co C)))
 rw[hC]at hnull hclen hmeml hmemb |-;have hr1:((r+1:Nat):Int) - 1=(r:Int):=by omega
 have hc1':(((r+1:Nat):Int)==1)=false:=a2v (by omega);have htf:=hid (fun q (h:q<C.length)=>b2n (x:=x) (c:=r+1) h);obtain⟨F,hF⟩:∃F:List Int->Option (List Rat),a4c x (r+1)=F:=⟨_,rfl⟩;rw[hF]at hyes hno htf |-;have hxl':=hid hxl;have hfl:Hid (∀q,((C.take q).filterMap F).length<=1000):=hid fun q=>by
  refine Nat.le_trans (List.length_filterMap_le _ _) ?_;rw[List.length_take];omega
 clear hhb hmem hsb hcom hC hrr hF hch hB hs hxl;go_enter Tryz.func111,Tryz.ntmps111
 go_wp2_with fail
 refine(hcom'.out w hX).mono ?_;rintro e w3 ⟨hE3,co,cc,rfl,hcc,hCO⟩;have hsc:=hCO.sl (SlV.elem (a0v.elem .i64));have hhc:=hsc.hd;have hX3:=hX.ext hE3;have hz3:=hsa.mono RV.mono (a0l hE3);obtain⟨K,hK⟩:∃K,C.length=K:=⟨_,rfl⟩;have hK':=hid hK;rw[hK]at hcc hhc hclen |-;clear hCO hcom' hK hsa;go_wp2_with fail
 go_loopw [5,24] (fun a cx wr=>∃(q:Nat) (oo:Option Addr) (oc:Nat),cx= .int .i64 q/\q<=K/\a= .slice oo ((C.take q).filterMap F).length oc/\OL RC 1 X w3.heap.size 26 wr oo oc ((C.take q).filterMap F)/\Ext w3 wr) (fun _ cx _=>K - (intOf cx).toNat)
 case atStart=>exact⟨0,none,0,rfl,Nat.zero_le _,rfl,OL.nil _ _ _ _ _ _,ExtX.refl _⟩
 case round=>
  obtain⟨q,oo,oc,rfl,hq,rfl,hO,hE⟩:=hrel;have hXr:=hX3.ext hE;have hfq:=hfl.out q;by_cases hlt:q<K
  ·have hqC:q<C.length:=by rw[hK'.out];exact hlt
   obtain⟨so,sc,f37,h3',s3⟩:=hsc.slice q hqC;have f3:=hE.cell f37;have hsm:C[q]∈C:=List.getElem_mem _;have hnu:=hid (fun X' w' um=>hnull.out X' w' um C[q] hsm);have hno1:=hid (hno.out C[q]);have hye1:=hid (hyes.out C[q]);have hsl:=hid (hmeml.out C[q] hsm);have hsbb:=hid (hmemb.out C[q] hsm);have htq:=hid (htf.out q hqC);have hsr:=s3.mono (a0v.mono _) (a0l hE);have hhs:=hsr.hd;obtain⟨D,hD⟩:∃D,(C.take q).filterMap F=D:=⟨_,rfl⟩;rw[hD]at hfq htq hO |-;obtain⟨s,hs⟩:∃s,C[q]=s:=⟨_,rfl⟩;rw[hs]at f3 h3' hnu hno1 hye1 hsl hsbb htq hhs hsr;obtain⟨M,hM⟩:∃M,a1p x s=M:=⟨_,rfl⟩;have hMl:M.length=s.length:=by rw[<-hM];exact a2O x s
   have hMi:=hid (show∀j (h1:j<M.length) (h2:j<s.length) (i:Nat) (h3:i<x.length),s[j]=(i:Int)->M[j]=x[i]from fun j h1 h2 i h3 h=>by subst hM;exact a8b h1 h2 h3 h);rw[hM]at hnu hno1 hye1;rw[hsl.out]at f3 h3' hhs hMl;have hMl':=hid hMl;have hMl1:M.length<=r:=by omega
   have hMl2:r<=M.length:=by omega
   obtain⟨dl,hdl⟩:∃dl,D.length=dl:=⟨_,rfl⟩;have hdl':=hid hdl;rw[hdl]at hfq |-;clear hM hMl hs s3 f37 hD hdl;have hzZ:Sl RV 1 (mk (un X oo) wr) ao x:=hz3.old RV.mono hE (fun j hj=>hO.ob_lt hj);have hXZ:HX (un X oo) wr:=hO.unX hXr;obtain⟨Z,hZ⟩:∃Z,un X oo=Z:=⟨_,rfl⟩;rw[hZ]at hzZ hXZ;have hZ':=hid hZ;clear hZ;obtain⟨wo,hwo⟩:∃wo,wo=wr:=⟨_,rfl⟩;subst hwo;go_wp2_with (with_reducible refine a0m b6u (by omega) (by assumption) ?_)
   go_loopw [8,30] (fun o cx wx=>∃(j:Nat) (mo:Option Addr) (mc:Nat),cx= .int .i64 j/\o= .slice mo j mc/\j<=r/\OL RV 1 Z wo.heap.size 26 wx mo mc (M.take j)/\Ext wo wx) (fun _ cx _=>r - (intOf cx).toNat)
   case atStart=>exact⟨0,none,0,rfl,rfl,Nat.zero_le _,OL.nil _ _ _ _ _ _,ExtX.refl _⟩
   case round=>
    obtain⟨j,mo,mc,rfl,rfl,hj,hMO,hEj⟩:=hrel;have hXj:HX Z wr:=hXZ.ext hEj;have hbj:=hEj.size;clear f3;by_cases hlj:j<r
    ·have hjs:j<s.length:=by rw[hsl.out];exact hlj
     have hjM:j<M.length:=by omega
     have htk:=hid (a2L M j hjM);have hln:=hid (a3P (l:=M) (i:=j) (by omega));have hcj:=(hsr.mono (a0v.mono _) (a0l hEj)).int j hjs;obtain⟨h1,h2⟩:=hsbb.out s[j] (List.getElem_mem _);obtain⟨i,hi⟩:=Int.eq_ofNat_of_zero_le h1;have hin:i<n:=by omega
     have hiZ:i<x.length:=by rw[hxl'.out];exact hin
     have hMq:=hMi.out j hjM hjs i hiZ hi;rw[hi]at hcj;have hzr:Sl RV 1 (mk (un Z mo) wr) ao x:=hzZ.old RV.mono hEj (fun j hj=>hMO.ob_lt hj);obtain⟨a1,c1,hX1,hc1,hcl1,hq1⟩:=hzr.row i hiZ;have k00:=hc1.out noY wr (ExtX.refl _) rfl;obtain⟨y,hy⟩:∃y,x[i]=y:=⟨_,rfl⟩;rw[hy]at k00 hcl1 hq1 hMq;rw[hMq]at htk;have hRV:RV (mk (un Z mo) wr) (.slice a1 y.length c1) y:=⟨a1,c1,rfl,hcl1,hq1⟩;obtain⟨dd,hdd⟩:∃dd,y.length=dd:=⟨_,rfl⟩;rw[hdd]at k00 hRV;clear hy hc1 hcl1 hq1 hMq hdd h1 h2 hi hO;go_wp2_with (first
      |(with_reducible refine a0m a2b (by omega) (by assumption) ?_)
      |(with_reducible refine a0m a0q (by omega) (by assumption) ?_)
      |(at_builtin;refine a0H (l:=M.take j) a0q rfl RV.elem hbj hXj j hln.out rfl rfl hMO (.slice a1 dd c1) y rfl hRV (by omega) (by omega) ?_;intro oo2 co2 w7 hO7 hE7 hor))
     have hE8:=hEj.own hMO (Nat.le_refl _) hE7;rw[htk.out]at hO7;go_roundw
     case rel=>exact⟨j+1,oo2,co2,by go_num,by go_num,by omega,hO7,hE8⟩
     case measure=>simp[intOf];omega
    ·have hjr:r=j:=by omega
     subst hjr;rw[List.take_of_length_le (by omega)]at hMO;have hmc:=hMO.lenCap;have hnc:=hnu.out Z wr (.slice mo r mc) hXj ⟨mo,mc,by rw[hMl'.out],hmc,hMO.sl RV.elem⟩;have hEw:=hE.trans hEj;have hO1:=hO.ext0 RC.elem hEj;clear hnu hlj hMO hO;obtain⟨N,hN⟩:∃N,a1j M (r+1)=N:=⟨_,rfl⟩;rw[hN]at hnc hno1 hye1;obtain⟨nl,hnl⟩:∃nl,N.length=nl:=⟨_,rfl⟩;have hnl':=hid hnl;clear hN hnl;go_wp2_with fail
     refine hnc.mono ?_;rintro e w5 ⟨hE5,u5,rfl,no,nc,rfl,hncc,hns⟩;have hhn:=hns.hd;rw[hnl'.out]at hncc hhn |-;have hE35:=hEw.trans hE5;have hX5:=hX3.ext hE35;have hO5:=hO1.ext0 RC.elem hE5;have hb5:=hE35.size;clear hnc hO1;by_cases hl1:nl=1
     rotate_left 1
     ·have d1:((nl:Int)==1)=false:=a2v (by omega)
      have hTq:=hno1.out (by rw[hnl'.out];exact hl1);go_wp2_with fail
      go_roundw
      case rel=>exact⟨q+1,oo,oc,by go_num,by omega,by rw[htq.out,hTq,List.append_nil,hdl'.out],by rw[htq.out,hTq,List.append_nil];exact hO5,hE35⟩
      case measure=>simp[intOf];omega
     ·subst hl1
      obtain⟨d,hd⟩:=List.length_eq_one_iff.1 hnl'.out;have hTq:=hye1.out d hd;subst hd;obtain⟨a1,c1,hX1,hc1,hcl1,hq1⟩:=hns.row 0 (by simp);have k00:=hc1.out noY w5 (ExtX.refl _) rfl;have hRV:RC (mk (un X oo) w5) (.slice a1 d.length c1) d:=by rw[hZ'.out];exact⟨a1,c1,rfl,hcl1,hq1⟩
      obtain⟨dd,hdd⟩:∃dd,d.length=dd:=⟨_,rfl⟩;rw[show([d]:List (List Rat))[0].length=d.length from rfl,hdd]at k00;rw[hdd]at hRV;clear hc1 hcl1 hq1 hdd;go_wp2_with (first
       |(with_reducible refine a0m a0q (by omega) (by assumption) ?_)
       |(at_builtin;refine a0H (l:=D) a0q rfl RC.elem hb5 hX5 dl hdl'.out rfl rfl hO5 (.slice a1 dd c1) d rfl hRV (by omega) (by omega) ?_;intro oo2 co2 w7 hO7 hE7 hor))
      have hE8:=hE35.own hO5 (Nat.le_refl _) hE7;go_roundw
      case rel=>exact⟨q+1,oo2,co2,by go_num,by omega,by rw[htq.out,hTq,List.length_append,hdl'.out];go_num,by rw[htq.out,hTq];exact hO7,hE8⟩
      case measure=>simp[intOf];omega
  ·obtain rfl:q=K:=by omega
   rw[<-hK'.out,List.take_length]at hO |-;go_wp2_with fail
   go_ret
   exact⟨hE3.trans hE,_,rfl,_,_,rfl,hO.lenCap,hO.sl RC.elem⟩
end Go.Proofs.YtnnpfhoigmegcaaGreat
