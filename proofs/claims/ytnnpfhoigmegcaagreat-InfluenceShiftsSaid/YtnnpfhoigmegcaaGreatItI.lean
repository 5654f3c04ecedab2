/- Parts of a proof: each theorem states what it proves, and its conditions. -/
import Derived.Test.YtnnpfhoigmegcaaGreatItH
import Derived.OrdersHeld
import Derived.StillTail
import Derived.Deep.RegionHeld
import Derived.WalkKit
import Derived.Sort.WalkA
import Derived.Shelf.Abstract
import Derived.Lib.ReflectliteSwap
import Derived.Lib.ReflectliteSlice
import Derived.WalkMore
import Derived.ArgAppend
import Derived.Deep.RegionHeld3
import Derived.Deep.RegionLaw
import Derived.Deep.AppendLies
import Derived.BigRegion
set_option maxRecDepth 100000
set_option maxHeartbeats 2000000
namespace Go.Lin
open Go.Lim
def a6U(m:Mat)(c:Nat):Prop:=∃B,6*B<=68719476736/\∀j,j<=c->HB B (rN m j).1/\hq (rN m j).2.2<=B
theorem b3f{n c:Nat}{m:Mat}(hs:Shp n c m)(k:Nat):(rN m k).2.1.length<=n:=(a5Z hs k).ref.le
theorem b5d{n c B:Nat}{m:Mat}(hs:Shp n c m)(h:HB B m)(e:6*(6^n*B)<=68719476736):a6U m c:=
 ⟨6^n*B,e,fun j _=>by
  obtain⟨b,d⟩:=h.rN hs j;have a:6^(rN m j).2.1.length*B<=6^n*B:=Nat.mul_le_mul_right _ (Nat.pow_le_pow_right (by decide) (b3f hs j));exact⟨b.mono a,c1A d a⟩⟩
theorem b3g(m:Mat)(k:Nat):rN m (k+1)=a6o (rN m k) k:=rfl
theorem a3p{m:Mat}{i:Nat}(h:i<m.length):m.getD i []=m[i]:=by simp[List.getD_eq_getElem?_getD,h]
theorem a9F{m:Mat}{i:Nat}(h:i<m.length)(j:Nat):ent m i j=(m[i]).getD j 0:=by unfold ent;rw[a3p h]
theorem b7F{m:Mat}{n t col:Nat}(c:m.length=n)(h:∀q,t<=q->q<n->ent m q col=0):b2j m t col=none:=by
 unfold b2j;rw[List.findIdx?_eq_none_iff];intro r b;obtain⟨i,a,rfl⟩:=List.getElem_of_mem b;rw[List.length_drop]at a;have:=h (t+i) (by omega) (by omega);rw[a9F (by omega)]at this;simpa using this
theorem b7G{m:Mat}{n t col a:Nat}(d:m.length=n)(h:∀q,t<=q->q<t+a->ent m q col=0)(b:t+a<n)(hne:ent m (t+a) col≠0):b2j m t col=some a:=by
 unfold b2j;rw[List.findIdx?_eq_some_iff_getElem];refine⟨by rw[List.length_drop];omega,?_,fun j c=>?_⟩
 ·rw[List.getElem_drop,<-a9F (by omega)];simpa using hne
 ·rw[List.getElem_drop,<-a9F (by omega)];simpa using h (t+j) (by omega) (by omega)
theorem b5e(m:Mat)(t col:Nat):out m t col 0=m:=by
 unfold out rows;refine List.ext_getElem (by simp) fun q a b=>?_;rw[List.getElem_mapIdx,if_neg (by omega)]
theorem a4F(m:Mat)(t col s:Nat):(out m t col s).length=m.length:=by simp[out,rows]
theorem a5B{m:Mat}{t col s i:Nat}(h:i<(out m t col s).length)(a:i<m.length):(out m t col s)[i]=if i≠t/\i<s then List.zipWith (· + ·) m[i] ((m.getD t []).map (· * - m[i].getD col 0))else m[i]:=by
 show(m.mapIdx _)[i]'(by simpa using a)=_
 rw[List.getElem_mapIdx]
theorem b7H{m:Mat}{t col s:Nat}(h:s<m.length)(c:s≠t):(out m t col s).set s (List.zipWith (· + ·) m[s] ((m.getD t []).map (· * - m[s].getD col 0)))=out m t col (s+1):=by
 refine List.ext_getElem (by simp[a4F]) fun q d b=>?_;have hq:q<m.length:=by rw[a4F]at b;exact b
 rw[List.getElem_set,a5B b hq];split
 ·subst_vars;rw[if_pos ⟨c,by omega⟩]
 ·rw[a5B (by simpa[a4F]using hq) hq]
  by_cases a:q≠t/\q<s
  ·rw[if_pos a,if_pos ⟨a.1,by omega⟩]
  ·rw[if_neg a,if_neg (by omega)]
theorem b5f{m:Mat}{t col:Nat}:out m t col t=out m t col (t+1):=by
 refine List.ext_getElem (by simp[a4F]) fun q c b=>?_;have hq:q<m.length:=by rw[a4F]at b;exact b
 rw[a5B c hq,a5B b hq];by_cases a:q≠t/\q<t
 ·rw[if_pos a,if_pos ⟨a.1,by omega⟩]
 ·rw[if_neg a,if_neg (by omega)]
theorem b3h{m:Mat}{i k:Nat}(a:i<m.length)(b:k<m.length):(m.set i m[k]).set k m[i]=a1f m i k:=by
 unfold a1f;rw[a3p a,a3p b]
theorem b9q{n c:Nat}{m M:Mat}{P:List Nat}{f:Rat}{j b a:Nat}(hs:Shp n c m)(d:rN m j=(M,P,f))(e:P.length=b)(hz:∀q,b<=q->q<b+a->ent M q j=0)(h:b+a<n)(hne:ent M (b+a) j≠0):rN m (j+1)=(out (pv (a1f M (b+a) b) b j) b j n,P++[j],(if a=0 then f else - f)*ent (a1f M (b+a) b) b j):=by
 have g:Shp n c M:=by have:=(a5Z hs j).shp;rw[d]at this;exact this
 subst e;rw[b3g,d];unfold a6o
 dsimp only
 rw[b7G g.1 hz h hne]
 dsimp only
 rw[g.1]
theorem b7I{n c:Nat}{m M:Mat}{P:List Nat}{f:Rat}{j d:Nat}(hs:Shp n c m)(a:rN m j=(M,P,f))(b:P.length=d)(hz:∀q,d<=q->q<n->ent M q j=0):rN m (j+1)=(M,P,f):=by
 have e:Shp n c M:=by have:=(a5Z hs j).shp;rw[a]at this;exact this
 subst b;rw[b3g,a];unfold a6o
 dsimp only
 rw[b7F e.1 hz]
end Go.Lin
namespace Go.Rep
open Go.RowKit
theorem b3i{X:Nat->Bool}{b k:Nat}(h:X b=true)(a:ob (some ⟨b,0,none⟩) k=true):X k=true:=by
 have:b=k:=by simpa[ob]using a
 subst this;exact h
section
variable {P:Program} {w:World}
theorem a9G{fn:Func}{a:Array Value}{c d e:Tmp}{t:TypeId}{n b:Nat}{f:Array Value}{T:TypeId}(h:fn.results=#[.tmp d,.tmp e,.cell c t])(i:a.getD c undef=.pointer (some ⟨b,0,none⟩))(j:a1K P t n)(k:Bx w b f T)(g:f.size=n):(results fn a).run P w=.ok (.tuple #[a.getD d undef,a.getD e undef,.agg f]) w:=by
 have l:=a2i (P:=P) j k g;rw[Array.getD_eq_getD_getElem?]at i;simp[results,h,i,asAddr,l]
end
end Go.Rep
namespace Go.Lin
open Go.Lim Go.Rep
theorem b3j{p:List Nat}{c:Nat}(g:∀i (n:i<p.length),p[i]<c)(l:∀i k (o:i<k) (f:k<p.length),p[i]<p[k]):p.length<=c:=by
 have e:p.Pairwise (· < ·):=List.pairwise_iff_getElem.2 fun i j n b a=>l i j a b;have d:p.Nodup:=e.imp fun h=>Nat.ne_of_lt h;have m:p.length<=(List.range c).length:=d.length_le_of_subset fun j b=>by
  obtain⟨k,f,rfl⟩:=List.getElem_of_mem b;exact List.mem_range.2 (g k f)
 rwa[List.length_range]at m
theorem a7k{n c B:Nat}{m:Mat}(hs:Shp n c m)(h:HB B m)(s:c<=4)(p:B<=6541):b2e m c/\a6U m c:=by
 have a:∀j,j<=c->(eN m j).2.1.length<=4:=fun j b=>c1A (b3j (a5Y hs j).ech.lt (a5Y hs j).ech.inc) (by omega);have e:∀j,j<=c->(rN m j).2.1.length<=4:=fun j b=>c1A (b3j (a5Z hs j).ref.lt (a5Z hs j).ref.inc) (by omega);have i:∀k,k<=4->5^k<=625:=fun k d=>c1A (a6r 5 (by omega) d) (by decide);have r:∀k,k<=4->7^k<=2401:=fun k d=>c1A (a6r 7 (by omega) d) (by decide);have q:∀k,k<=4->6^k<=1296:=fun k d=>c1A (a6r 6 (by omega) d) (by decide);refine⟨⟨1500625*B,by omega,fun j b=>(h.eN hs j).mono (Nat.mul_le_mul_right _ (c1A (i _ (a j b)) (by decide))),fun t g=>(((h.eN hs c).dN (a5Y hs c).shp (a5Y hs c).ech t g)).mono ?_⟩,⟨1296*B,by omega,fun j b=>?_⟩⟩
 ·rw[<-Nat.mul_assoc]
  refine Nat.mul_le_mul_right _ ?_;exact Nat.mul_le_mul (r t (c1A g (a c (c1B _)))) (i _ (a c (c1B _)))
 ·obtain⟨l,o⟩:=h.rN hs j
  have f:=Nat.mul_le_mul_right B (q _ (e j b));exact⟨l.mono f,c1A o f⟩
theorem a3q{n c B:Nat}{m:Mat}(hs:Shp n c m)(h:HB B m)(d:n<=4)(a:B<=6541):b2e m c/\a6U m c:=by
 have b:=b9m d;have e:6^n<=1296:=c1A (Nat.pow_le_pow_right (by omega) d) (by decide);have f:=Nat.mul_le_mul b a;have g:=Nat.mul_le_mul e a;exact⟨b7a hs h (by omega),b5d hs h (by omega)⟩
theorem b3k{n c B:Nat}{m:Mat}(hs:Shp n c m)(h:HB B m)(a:n<=4):HB (1296*B) (a0H m c).1:=by
 rw[(b0j hs).1];refine(h.rN hs c).1.mono (Nat.mul_le_mul_right _ ?_);exact c1A (a6r 6 (by omega) (c1A (b3f hs c) a)) (by decide)
theorem a8K{n B:Nat}{f:Nat->Rat}(h:∀i,i<n->hq (f i)<=B):hq (sm n f)<=1+n*(B+1):=by
 induction n with
 |zero=>unfold sm;rw[a0X];omega
 |succ n ih=>
  unfold sm;have h1:=ih fun i hi=>h i (by omega);have h2:=a7d (sm n f) (f n);have h3:=h n (by omega);have e:(n+1)*(B+1)=n*(B+1)+(B+1):=Nat.succ_mul _ _;omega
theorem a9H{l:List Rat}{B:Nat}(h:BR B l)(a:1<=B)(i:Nat):hq (fn l i)<=B:=a8D h a i
theorem a8L{l m:List Rat}{c B C:Nat}(f:l.length=c)(a:BR B l)(b:BR C m)(d:1<=B)(e:1<=C):hq (a2u l m)<=1+c*(B+C+1):=by
 rw[a5A f];refine a8K fun i g=>c1A (hq_mul _ _) ?_;have:=a8D a d i;have:=a8D b e i;omega
theorem b9r{x:Mat}{n B:Nat}(h:HB B x)(i j:Nat):hq (gr n (ent x) i j)<=1+n*(2*B+1):=a8K fun r _=>c1A (hq_mul _ _) (by have:=h r i;have:=h r j;omega)
theorem c0D{x:Mat}{y:List Rat}{n B:Nat}(h:HB B x)(a:BR B y)(i:Nat):hq (gy n (ent x) (fn y) i)<=1+n*(2*B+1):=a8K fun r _=>c1A (hq_mul _ _) (by have:=h r i;have:=a9H a h.pos r;omega)
theorem a5i{n B:Nat}(_:n<=8)(a:B<=510/\n*(2*B+1)<=6540):1+n*(2*B+1)<=6541:=by
 have:=a.2;omega
theorem b7J{n j B:Nat}(h:B<=510/\n*(2*B+1)<=6540)(a:j<=n):B<=510/\j*(2*B+1)<=6540:=⟨h.1,c1A (Nat.mul_le_mul_right _ a) h.2⟩
theorem b3l{x:Mat}{n c B:Nat}(h:HB B x)(e:n<=8)(a:B<=510/\n*(2*B+1)<=6540):HB 6541 (gmL x n c):=fun i j=>by
 by_cases b:i<c
 ·by_cases d:j<c
  ·rw[a7Q x n c i b j d];exact c1A (b9r h i j) (a5i e a)
  ·rw[a1U (a3e x n c) (.inr (by omega)),a0X];decide
 ·rw[a1U (a3e x n c) (.inl (by omega)),a0X];decide
theorem b3m{x:Mat}{y:List Rat}{n c B:Nat}(h:HB B x)(d:BR B y)(b:n<=8)(a:B<=510/\n*(2*B+1)<=6540):BR 6541 (gyL x y n c):=fun q hq=>by
 obtain⟨i,_,rfl⟩:=List.mem_map.1 hq;exact c1A (c0D h d i) (a5i b a)
theorem b3n{m:Mat}{b:List Rat}{n c B:Nat}(hs:Shp n c m)(g:HB B m)(f:BR B b)(h:n<=4):BR (1296*B) (b6g (a0H (a2U m b n) (c+1)).1 (a0H (a2U m b n) (c+1)).2 c):=c0C fun x d=>by
 obtain⟨_,e,_⟩:=a1a (a2s (b:=b) hs);have a:=b3k (a2s hs) (b0L hs g f) h;rw[a9A]at d;rw[b0u e x d];unfold b2q;split
 ·exact a _ _
 ·rw[a0X];exact a.pos
theorem a4G{x:Mat}{y:List Rat}{n c B:Nat}(h:HB B x)(e:BR B y)(b:n<=8)(d:c<=4)(a:B<=510/\n*(2*B+1)<=6540):BR 8500000 (a0D x y n c):=fun q hq=>
 c1A (b3n (a3e x n c) (b3l h b a) (b3m h e b a) d q hq) (by decide)
theorem b9s{l:List Rat}{B i:Nat}(h:BR B l)(a:i<l.length):hq l[i]<=B:=h _ (c1E a)
theorem b9t{x:Mat}{y b:List Rat}{n c B C:Nat}(hs:Shp n c x)(h:BM B x)(k:BR B y)(j:BR C b)(e:1<=B)(f:1<=C):BR (B+c*(B+C+1)+2) (a3i x y b):=fun q hq=>by
 obtain⟨i,a,rfl⟩:=List.getElem_of_mem hq;have d:i<x.length:=by unfold a3i at a;rw[List.length_zipWith]at a;omega
 have g:i<y.length:=by unfold a3i at a;rw[List.length_zipWith]at a;omega
 rw[a5g a d g];have l:=a2O y[i] (a2u x[i] b);have m:=b9s k g;have o:=a8L (hs.2 _ (c1E d)) (h _ (c1E d)) j e f;omega
theorem a9I{x:Mat}{y b:List Rat}{n c B:Nat}(hs:Shp n c x)(h:BM B x)(g:BR B y)(e:BR 8500000 b)(a:1<=B)(f:c<=4)(d:B<=510/\n*(2*B+1)<=6540):BR 34100000 (a3i x y b):=fun q hq=>by
 have i:=b9t hs h g e a (by decide) q hq;have:=Nat.mul_le_mul f (show B+8500000+1<=8500511 by have:=d.1;omega);have:=d.1;omega
theorem b9u{l:List Rat}(h:BR 34100000 l)(a:l.length<=8):hq (a2u l l)<=600000000:=by
 have b:=a8L rfl h h (by decide) (by decide);have:=Nat.mul_le_mul a (c1B (34100000+34100000+1));omega
theorem b3o{x:Mat}{p:List Nat}{B:Nat}(h:BM B x)(a:1<=B):BM B (pkL x p):=fun r b q hq=>by
 obtain⟨s,hs,rfl⟩:=List.mem_map.1 b;obtain⟨j,_,rfl⟩:=List.mem_map.1 hq;exact a8D (h s hs) a j
theorem a7T{u:Mat}{n m B:Nat}(h:HB B u)(d:n<=8)(a:B<=510/\n*(2*B+1)<=6540):HB 6541 (a1L u n m):=fun i j=>by
 by_cases b:i<m
 ·by_cases c:j<m
  ·rw[a8G u n m i b j c];exact c1A (b9r h i j) (a5i d a)
  ·rw[a1U (a0F u n m) (.inr (by omega)),a0X];decide
 ·rw[a1U (a0F u n m) (.inl (by omega)),a0X];decide
theorem a6g{m:Mat}{n B:Nat}(hs:Shp n n m)(h:HB B m):HB B (a1g m n):=fun i j=>by
 have a:=h.pos;by_cases b:i<n
 ·by_cases c:j<2*n
  ·rw[a3o hs i b j c]
   split
   ·exact h i j
   ·split
    ·have:hq (1:Rat)<=1:=by decide+kernel
     omega
    ·rw[a0X];exact a
  ·rw[a1U (a1i hs) (.inr (by omega)),a0X];exact a
 ·rw[a1U (a1i hs) (.inl (by omega)),a0X];exact a
theorem b7K{m:Mat}{n B:Nat}(hs:Shp n n m)(h:HB B m)(c:n<=4):HB (1296*B) (a2y m n):=fun i j=>by
 have a:=b3k (a1i hs) (a6g hs h) c;by_cases b:i<n
 ·rw[b0O hs i b j];exact a _ _
 ·rw[a1U (a2c hs) (.inl (by omega)),a0X];exact a.pos
theorem a9J{u:Mat}{n m B:Nat}(h:HB B u)(c:n<=8)(b:m<=4)(a:B<=510/\n*(2*B+1)<=6540):BM 8500000 (a2y (a1L u n m) m):=fun r d q hq=>
 c1A (a5y (b7K (a0F u n m) (a7T h c a) b) r d q hq) (by decide)
theorem b3p{m:Mat}{v:List Rat}{n c B C:Nat}(hs:Shp n c m)(h:BM B m)(e:BR C v)(b:1<=B)(d:1<=C):BR (1+c*(B+C+1)) (a2v m v):=fun q hq=>by
 obtain⟨r,a,rfl⟩:=List.mem_map.1 hq;exact a8L (hs.2 r a) (h r a) e b d
theorem a9K{u:Mat}{n m B:Nat}(d:BM B u)(e:n<=8)(c:m<=4)(a:1<=B)(b:B<=510/\n*(2*B+1)<=6540){r:List Rat}(f:r∈u):BR 34100000 (a2v (a2y (a1L u n m) m) r):=fun q hq=>by
 have g:=b3p (a2c (a0F u n m)) (a9J (a5e d a) e c b) (d r f) (by decide) a q hq;have:=Nat.mul_le_mul c (show 8500000+B+1<=8500511 by have:=b.1;omega);omega
theorem b9v{u:Mat}{n m B:Nat}(hs:Shp n m u)(e:BM B u)(f:n<=8)(d:m<=4)(a:1<=B)(c:B<=510/\n*(2*B+1)<=6540):BR 140000000 (a4m u n m):=fun q hq=>by
 obtain⟨r,b,rfl⟩:=List.mem_map.1 hq;have g:=a8L (hs.2 r b) (e r b) (a9K e f d a c b) a (by decide);have:=Nat.mul_le_mul d (show B+34100000+1<=34100511 by have:=c.1;omega);omega
def skp(i r:Nat):Nat:=if r<i then r else r+1
theorem a8M:∀(n i:Nat) (F:Nat->Rat),i<=n->sm (n+1) F=sm n (fun r=>F (skp i r))+F i
 |0,i,F,h=>by
  obtain rfl:i=0:=by omega
  rfl
 |n+1,i,F,h=>by
  by_cases e:i=n+1
  ·subst e
   show sm (n+1) F+F (n+1)=_
   congr 1
   exact a0g fun r hr=>by rw[skp,if_pos hr]
  ·have h1:=a8M n i F (by omega)
   show sm (n+1) F+F (n+1)=sm n (fun r=>F (skp i r))+F (skp i n)+F i
   rw[h1,show skp i n=n+1 by rw[skp,if_neg (by omega)]];grind
theorem b5g{n c i:Nat}{f v:F2}{y b b':Nat->Rat}(w:Inv c (gr (n+1) f) v)(h:NS (n+1) c f y b)(u:NS n c (fun r=>f (skp i r)) (fun r=>y (skp i r)) b')(l:i<=n):(y i - app c f b' i)*(1 - hat c f v i i)=y i - app c f b i:=by
 have m:∀a,a<c->sm c (fun j=>gr (n+1) f a j*(b j - b' j))=f i a*(y i - app c f b' i):=fun a d=>by
  have p:=h a d;have q:=u a d;have s:sm c (fun j=>gr (n+1) f a j*b' j)=sm c (fun j=>gr n (fun r=>f (skp i r)) a j*b' j)+f i a*app c f b' i:=by
   unfold app;rw[<-a0W,<-a6l];refine a0g fun j _=>?_;have:gr (n+1) f a j=gr n (fun r=>f (skp i r)) a j+f i a*f i j:=a8M n i (fun r=>f r a*f r j) l;rw[this];grind
  have t:gy (n+1) f y a=gy n (fun r=>f (skp i r)) (fun r=>y (skp i r)) a+f i a*y i:=a8M n i (fun r=>f r a*y r) l;rw[a0g (g:=fun j=>gr (n+1) f a j*b j - gr (n+1) f a j*b' j) fun j _=>by grind,a5H,p,s,q,t];grind
 have o:∀a,a<c->b a - b' a=sm c (fun k=>v a k*(f i k*(y i - app c f b' i))):=fun a d=>by
  rw[a0g (g:=fun k=>sm c fun j=>v a k*(gr (n+1) f k j*(b j - b' j))) fun k x=>by rw[a0W,m k x],a2f];rw[a0g (g:=fun j=>(b j - b' j)*if a=j then 1 else 0) fun j e=>by
   rw[<-w.2 a d j e,<-a0W];exact a0g fun k _=>by grind]
  rw[a1G a d fun j _ e=>by simp[Ne.symm e]];simp
 have z:app c f b i - app c f b' i=hat c f v i i*(y i - app c f b' i):=by
  rw[<-b6R];unfold app hat;have:∀(A B:Rat),A*B=B*A:=fun A B=>by grind
  rw[this (sm c _),<-a0W];refine a0g fun a d=>?_
  show f i a*(b a - b' a)=(y i - app c f b' i)*(f i a*sm c fun k=>v a k*f i k)
  rw[o a d,a0g (g:=fun k=>(y i - app c f b' i)*(v a k*f i k)) fun k _=>by grind,a0W];grind
 grind
theorem b3q{x:Mat}{n c:Nat}(hs:Shp n c x)(hp:(a0H x c).2.length=c):(a0H x c).2=List.range c:=by
 obtain⟨_,hg,_⟩:=a1a hs;have hge:∀i (hi:i<(a0H x c).2.length),i<=(a0H x c).2[i]:=by
  intro i
  induction i with
  |zero=>intro _;exact Nat.zero_le _
  |succ i ih=>
   intro hi;have h1:=ih (by omega);have h2:=List.pairwise_iff_getElem.1 hg.pw i (i+1) (by omega) hi (by omega);omega
 have hle:∀k i (hi:i<(a0H x c).2.length),i+k+1=c->(a0H x c).2[i]<=i:=by
  intro k
  induction k with
  |zero=>intro i hi e;have:=hg.lt i hi;omega
  |succ k ih=>
   intro i hi e;have h1:=ih (i+1) (by omega) (by omega);have h2:=List.pairwise_iff_getElem.1 hg.pw i (i+1) hi (by omega) (by omega);omega
 refine List.ext_getElem (by simp[hp]) fun i h1 h2=>?_;have a:=hge i h1;have b:=hle (c - 1 - i) i h1 (by omega);simp;omega
theorem b3r{x:Mat}{n c:Nat}(hs:Shp n c x)(d:(a0H x c).2.length=c):pkL x (a0H x c).2=x:=by
 rw[b3q hs d];unfold pkL;refine List.ext_getElem (by simp) fun i e f=>?_;have b:=hs.2 x[i] (c1E _);refine List.ext_getElem (by simp[b]) fun j g a=>?_;simp[List.getD_eq_getElem?_getD,a]
def a1c{α:Type}(l:List α)(i:Nat):List α:=l.take i++l.drop (i+1)
theorem a6h{α:Type}{l:List α}{i:Nat}(h:i<l.length):(a1c l i).length=l.length - 1:=by simp[a1c];omega
theorem a6i{α:Type}{l:List α}{i:Nat}(d:α)(b:i<l.length)(r:Nat):(a1c l i).getD r d=l.getD (skp i r) d:=by
 unfold a1c skp;have a:(l.take i).length=i:=by rw[List.length_take];omega
 rw[List.getD_eq_getElem?_getD,List.getD_eq_getElem?_getD];by_cases h:r<i
 ·rw[List.getElem?_append_left (by omega),if_pos h,List.getElem?_take_of_lt h]
 ·rw[List.getElem?_append_right (by omega),if_neg h,a,List.getElem?_drop,show i+1+(r - i)=r+1 by omega]
theorem a7U{x:Mat}{n c i:Nat}(hs:Shp (n+1) c x)(b:i<=n):Shp n c (a1c x i):=⟨by rw[a6h (by rw[hs.1];omega),hs.1];rfl,fun r a=>by
 unfold a1c at a;rcases List.mem_append.1 a with h|h
 ·exact hs.2 r (List.mem_of_mem_take h)
 ·exact hs.2 r (List.mem_of_mem_drop h)⟩
theorem b3s{x:Mat}{y:List Rat}{n c i:Nat}(hs:Shp (n+1) c x)(g:y.length=n+1)(m:c<=4)(b:(a0H x c).2.length=c)(f:i<=n):(fn y i - a2u (x.getD i []) (a0D (a1c x i) (a1c y i) n c))*(1 - fn (a4m x (n+1) c) i)=fn (a3i x y (a0D x y (n+1) c)) i:=by
 obtain⟨_,d⟩:=a6z hs (by rw[b];exact m);rw[b,b3r hs b]at d;obtain⟨_,_,h,_⟩:=a4E (y:=y) hs;obtain⟨_,_,k,_⟩:=a4E (y:=a1c y i) (a7U hs f);have l:NS n c (fun r=>ent x (skp i r)) (fun r=>fn y (skp i r)) (fn (a0D (a1c x i) (a1c y i) n c)):=k.congr (fun r _ j _=>by
  unfold ent;rw[a6i [] (by rw[hs.1];omega)]) (fun r _=>by
  unfold fn;exact a6i 0 (by rw[g];omega) r) (fun _ _=>rfl)
 have e:=b5g d h l f;rw[a7S hs (by omega),b5a hs g (by omega)];have a:a2u (x.getD i []) (a0D (a1c x i) (a1c y i) n c)=app c (ent x) (fn (a0D (a1c x i) (a1c y i) n c)) i:=by
  rw[a5A (hs.row (by omega))];rfl
 rw[a];exact e
def b0y(l:List Rat):Rat:=sm l.length (fn l)
def srt(l:List Rat):List Rat:=l.mergeSort fun a b=>decide (a<=b)
theorem a7V(l:List Rat):(srt l).Perm l:=List.mergeSort_perm _ _
theorem a7W(l:List Rat):(srt l).length=l.length:=(a7V l).length_eq
theorem b3t(l:List Rat):(srt l).Pairwise (· <= ·):=by
 have:=List.pairwise_mergeSort (le:=fun(a b:Rat)=>decide (a<=b)) (fun a b c d e=>by simp only[decide_eq_true_eq]at*;exact Rat.le_trans d e) (fun a b=>by simp only[Bool.or_eq_true,decide_eq_true_eq];exact Rat.le_total) l;exact this.imp fun h=>by simpa using h
theorem b0R{s l:List Rat}(e:s.Perm l)(hs:s.Pairwise (· <= ·)):s=srt l:=
 List.Perm.eq_of_pairwise (le:=fun a b=>a<=b) (fun _ _ _ _ c d=>Rat.le_antisymm c d) hs (b3t l) (e.trans (a7V l).symm)
def rkA(k t:Int)(n:Nat):Nat:=if k=1 then 0 else if k=2 then(n+1)/2 - 1 else if k=3 then n/2 else if k=4 then(n+1)/2 - 1 else t.toNat
def rkB(k t:Int)(n:Nat):Nat:=if k=1 then n else if k=2 then(n+1)/2 else if k=3 then n/2+1 else if k=4 then n/2+1 else n - t.toNat
def a5j(k t:Int):Prop:=1<=k/\k<=5/\0<=t/\(k=5\/t=0)
def a6B(k t:Int)(n:Nat):Prop:=1<=n/\(k≠5\/t<=((n - 1)/2:Nat))
theorem c0E{k t:Int}{n:Nat}(h:a5j k t)(a:a6B k t n):rkA k t n<rkB k t n/\rkB k t n<=n:=by
 obtain⟨d,e,f,g⟩:=h;obtain⟨b,c⟩:=a;unfold rkA rkB
 repeat' split
 all_goals omega
def a8h(s:List Rat)(a b:Nat):List Rat:=(s.drop a).take (b - a)
theorem b5h{s:List Rat}{a b:Nat}(h:b<=s.length):(a8h s a b).length=b - a:=by simp[a8h];omega
def a5k(k t:Int)(l:List Rat):Rat:=b0y (a8h (srt l) (rkA k t l.length) (rkB k t l.length))/(((rkB k t l.length - rkA k t l.length:Nat):Int):Rat)
structure Pc where
 lo:Option Rat
 hi:Option Rat
 a:Rat
 b:Rat
def a4d(f:Rat->Rat)(p q:Rat):Rat:=(f q - f p)/(q - p)
def a5l(f:Rat->Rat)(p q:Rat):Rat:=f p - a4d f p q*p
end Go.Lin
namespace Go
section
variable {P:Program} {ops:Array Oper} {Q:Exit->Act->World->Prop} {md:Region.Mode} {S:World->Prop} {n:Nat}
def a1p(P:Program)(md:Region.Mode)(ops:Array Oper)(Q:Exit->Act->World->Prop)(S:World->Prop)(n:Nat):Nat->Array Bool->Act->World->Prop
 |0,listed,a,w=>Region.ready md ops listed= []/\Q .normal a w
 |fuel+1,listed,a,w=>
  (Region.ready md ops listed= []->Q .normal a w)/\
  ∀i∈Region.ready md ops listed,wpOp P ops Q i (fun a' w'=>(i<n->S w')/\a1p P md ops Q S n fuel (listed.setIfInBounds i true) a' w') a w
theorem a7l:∀(fuel:Nat) (listed:Array Bool) (a:Act) (w:World),a1p P md ops Q S n fuel listed a w->wpAny P md ops Q fuel listed a w
 |0,_,_,_,h=>h
 |fuel+1,_,_,_,h=>⟨h.1,fun i hi=>wpOp_mono (fun a' w' h'=>a7l fuel _ a' w' h'.2) (h.2 i hi)⟩
theorem a5V{i:Nat}{oi:Oper}{v:Value}(hs:Region.sinkB md ops n=true)(hc:Region.chainB md ops n=true)(hn:n<ops.size)(hin:i<n)(hi:ops[i]? =some oi)(hsel:∀(j:Nat) (o:Oper) cs b,ops[j]? =some o->o.op≠ .select cs b)(hQ:∀c a w,Q (.panic c) (a.put oi.dst v) w->Q (.panic c) a w):∀(fuel:Nat) (listed:Array Bool) (a:Act) (w:World),HeadInv md ops n listed-> (∀j oj,ops[j]? =some oj->j≠i->listed.getD j true=false->(∀e∈oj.after,Region.binds md e=true->e.on≠i)->oi.apart ops oj=true)-> i∈Region.ready md ops listed->YieldsIf P ops S oi v a->S w-> a1p P md ops Q S n fuel (listed.setIfInBounds i true) (a.put oi.dst v) w->a1p P md ops Q S n (fuel+1) listed a w:=by
 intro fuel
 induction fuel with
 |zero=>
  intro listed a w _ _ hr hy hS H;refine⟨fun h=>(by rw[h]at hr;cases hr),fun j hj=>?_⟩;by_cases hji:j=i
  ·subst hji;exact hy.wpOp hi hS ⟨fun _=>hS,H⟩
  ·have:=ready_mono hj hji
   rw[H.1]at this;cases this
 |succ fuel ih=>
  intro listed a w inv hfree hr hy hS H;refine⟨fun h=>(by rw[h]at hr;cases hr),fun j hj=>?_⟩;by_cases hji:j=i
  ·subst hji;exact hy.wpOp hi hS ⟨fun _=>hS,H⟩
  ·have hjn:j<n:=by
    rcases Nat.lt_or_ge j n with h|h
    ·exact h
    ·exact absurd hj (tail_waits hs hc hn inv (n - i) i rfl hin (mem_ready.1 hr).1 j h)
   have h1:=H.2 j (ready_mono hj hji);obtain⟨hjun,oj,hoj,hall⟩:=mem_ready.1 hj;have hnot:∀e∈oj.after,Region.binds md e=true->e.on≠i:=fun e he hb heq=>by
    have h1:=hall e he hb;have h0:=(mem_ready.1 hr).1;rw[heq]at h1;rcases Nat.lt_or_ge i listed.size with h'|h'
    ·simp[h']at h0 h1;rw[h0]at h1;cases h1
    ·simp[Array.getElem?_eq_none h']at h1
   have h2:=wpOp_putIf hoj (hfree j oj hoj hji hjun hnot) (fun cs b=>hsel i oi cs b hi) (fun cs b=>hsel j oj cs b hoj) hQ hy h1;have hfree':∀k ok,ops[k]? =some ok->k≠i->(listed.setIfInBounds j true).getD k true=false->
     (∀e∈ok.after,Region.binds md e=true->e.on≠i)->oi.apart ops ok=true:=fun k ok hk hki hun hno=>by
    refine hfree k ok hk hki ?_ hno;by_cases hjk:j=k
    ·subst hjk;exact hjun
    ·rw[getD_set_ne true hjk]at hun;exact hun
   refine wpOp_mono (fun a' w' h3=>⟨h3.2.1,ih (listed.setIfInBounds j true) a' w' (inv.set hj hjn) hfree' (ready_mono hr (Ne.symm hji)) h3.1 (h3.2.1 hjn) ?_⟩) h2;rw[Array.setIfInBounds_comm _ _ hji];exact h3.2.2
def b7L(md:Region.Mode)(ops:Array Oper)(n:Nat)(listed:Array Bool):Bool:=
 decide (listed.size=ops.size)&&
 ((List.range ops.size).all fun j=> !listed.getD j false||(match ops[j]? with|some o=>o.after.all fun e=> !Region.binds md e||listed.getD e.on false|none=>true))&&
 ((List.range ops.size).all fun t=>decide (t<n)|| !listed.getD t true)
theorem a8N{a:Array Bool}(h:b7L md ops n a=true):HeadInv md ops n a:=by
 unfold b7L at h;simp only[Bool.and_eq_true,decide_eq_true_eq]at h;obtain⟨⟨i,k⟩,l⟩:=h;refine⟨i,fun j oj g p e o m=>?_,fun t q d=>?_⟩
 ·have c:j<ops.size:=(Array.getElem?_eq_some_iff.1 g).1
  have b:=List.all_eq_true.1 k j (List.mem_range.2 c);rw[p,g]at b;simp only[Bool.not_true,Bool.false_or]at b;have f:=Array.all_eq_true_iff_forall_mem.1 b e o;rw[m]at f;simpa using f
 ·have b:=List.all_eq_true.1 l t (List.mem_range.2 d)
  simp only[Bool.or_eq_true,decide_eq_true_eq,Bool.not_eq_true']at b;rcases b with b|b
  ·omega
  ·exact b
def b1z(md:Region.Mode)(ops:Array Oper)(n i:Nat)(listed:Array Bool):Bool:=
 decide (i<n)&&b7L md ops n listed&&Region.free md ops listed i&&(Region.ready md ops listed).contains i
def a8O(md:Region.Mode)(ops:Array Oper)(n:Nat):Bool:=Region.sinkB md ops n&&Region.chainB md ops n&&decide (n<ops.size)&&Region.noSelect ops
theorem a9L{i:Nat}{oi:Oper}{v:Value}{d:Nat}{b:Array Bool}{a:Act}{w:World}(e:Shut (a8O md ops n=true))(g:ops[i]? =some oi)(f:b1z md ops n i b=true)(s:∀c a w,Q (.panic c) (a.put oi.dst v) w->Q (.panic c) a w)(t:S w)(u:Region.wanted oi (yielded ops a.tmps)=true)(x:∀w,S w->(execOp a.eval oi).run P w=.ok (.value v) w)(h:a1p P md ops Q S n d (b.setIfInBounds i true) (a.put oi.dst v) w):a1p P md ops Q S n (d+1) b a w:=by
 unfold b1z at f;simp only[Bool.and_eq_true,decide_eq_true_eq]at f;obtain⟨⟨⟨m,o⟩,q⟩,r⟩:=f;have e:=e.out;unfold a8O at e;simp only[Bool.and_eq_true,decide_eq_true_eq]at e;obtain⟨⟨⟨j,k⟩,l⟩,p⟩:=e;exact a5V j k l m g (Region.noSelect_spec p) s d b a w (a8N o) (Region.free_spec g q) (by simpa using r) (.inl ⟨u,x⟩) t h
theorem a1d{i:Nat}{o:Oper}{c:Nat}{b:Array Bool}{a:Act}{w:World}(k:Region.ready md ops b= [i])(p:ops[i]? =some o)(h:∀d:Act->World->Prop,Shut (∀a w,S w->(S w->a1p P md ops Q S n c (b.setIfInBounds i true) a w)->d a w)->if Region.wanted o (yielded ops a.tmps)=true then Oper.wp P o a w d Q else d (a.put o.dst undef) w):a1p P md ops Q S n (c+1) b a w:=by
 refine⟨fun e=>(by rw[k]at e;cases e),fun j g=>?_⟩;rw[k]at g;have:j=i:=by simpa using g
 subst this;exact wpOp_step p (fun d l=>h d (fun a w f m=>l a w ⟨fun _=>f,m f⟩))
theorem a1B{i j:Nat}{oi oj:Oper}{d:Nat}{b:Array Bool}{a:Act}{w:World}(m:Region.ready md ops b= [i,j])(q:ops[i]? =some oi)(r:ops[j]? =some oj)(o:∀c:Act->World->Prop,Shut (∀a w,S w->(S w->a1p P md ops Q S n d (b.setIfInBounds i true) a w)->c a w)->if Region.wanted oi (yielded ops a.tmps)=true then Oper.wp P oi a w c Q else c (a.put oi.dst undef) w)(p:∀c:Act->World->Prop,Shut (∀a w,S w->(S w->a1p P md ops Q S n d (b.setIfInBounds j true) a w)->c a w)->if Region.wanted oj (yielded ops a.tmps)=true then Oper.wp P oj a w c Q else c (a.put oj.dst undef) w):a1p P md ops Q S n (d+1) b a w:=by
 refine⟨fun l=>(by rw[m]at l;cases l),fun k f=>?_⟩;rw[m]at f;rcases List.mem_cons.1 f with rfl|f
 ·exact wpOp_step q (fun c g=>o c (fun a w e h=>g a w ⟨fun _=>e,h e⟩))
 ·obtain rfl:k=j:=by simpa using f
  exact wpOp_step r (fun c g=>p c (fun a w e h=>g a w ⟨fun _=>e,h e⟩))
theorem a9M{i:Nat}{o:Oper}{fuel:Nat}{listed:Array Bool}{a:Act}{w:World}(hr:Region.ready md ops listed= [i])(ho:ops[i]? =some o)(hin:n<=i)(hd:Region.ready md ops (listed.setIfInBounds i true)= [])(h:∀K':Act->World->Prop,Shut (∀a w,Q .normal a w->K' a w)->if Region.wanted o (yielded ops a.tmps)=true then Oper.wp P o a w K' Q else K' (a.put o.dst undef) w):a1p P md ops Q S n (fuel+1) listed a w:=by
 refine⟨fun h0=>(by rw[hr]at h0;cases h0),fun j hj=>?_⟩;rw[hr]at hj;have:j=i:=by simpa using hj
 subst this;refine wpOp_step ho (fun K' hK=>h K' (fun a w hq=>hK a w ⟨fun hlt=>absurd hlt (Nat.not_lt.2 hin),?_⟩));cases fuel with
 |zero=>exact⟨hd,hq⟩
 |succ f=>exact⟨fun _=>hq,by rw[hd];simp⟩
theorem ks(i:Nat){d:Option Tmp}{f:Op}{ty:TypeId}{ps:String}{af:Array Edge}{g:Option (Nat×Bool)}{c:Nat}{b:Array Bool}{a:Act}{w:World}(h:∀e:Act->World->Prop,Shut (∀a w,S w->(S w->a1p P md ops Q S n c (b.setIfInBounds i true) a w)->e a w)->if Region.wanted ⟨d,f,ty,ps,af,g⟩ (yielded ops a.tmps)=true then Oper.wp P ⟨d,f,ty,ps,af,g⟩ a w e Q else e (a.put d undef) w)(j:ops[i]? =some ⟨d,f,ty,ps,af,g⟩:=by rfl)(k:Region.ready md ops b= [i]:=by kernel_rfl):a1p P md ops Q S n (c+1) b a w:=a1d k j h
theorem kl(i:Nat){d:Option Tmp}{j:Op}{ty:TypeId}{ps:String}{af:Array Edge}{g:Option (Nat×Bool)}{c:Nat}{b:Array Bool}{a:Act}{w:World}(h:∀e:Act->World->Prop,Shut (∀a w,Q .normal a w->e a w)->if Region.wanted ⟨d,j,ty,ps,af,g⟩ (yielded ops a.tmps)=true then Oper.wp P ⟨d,j,ty,ps,af,g⟩ a w e Q else e (a.put d undef) w)(k:ops[i]? =some ⟨d,j,ty,ps,af,g⟩:=by rfl)(l:Region.ready md ops b= [i]:=by kernel_rfl)(f:n<=i:=by decide)(hd:Region.ready md ops (b.setIfInBounds i true)= []:=by kernel_rfl):a1p P md ops Q S n (c+1) b a w:=a9M l k f hd h
theorem kcn{K:Act->World->Prop}{c:Nat}{b e:Array Bool}{a d:Act}{w:World}(g:Shut (∀a w,S w->(S w->a1p P md ops Q S n c b a w)->K a w))(i:S w)(h:S w->a1p P md ops Q S n c e d w)(k:b=e:=by first|(simp only[List.setIfInBounds_toArray,List.set_cons_zero,List.set_cons_succ];rfl)|rfl)(j:a=d:=by first|(simp only[Act.put,List.setIfInBounds_toArray,List.set_cons_zero,List.set_cons_succ];rfl)|rfl):K a w:=
 g.out _ _ i fun f=>by rw[k,j];exact h f
theorem a0n{id:Nat}{a:Act}{w:World}(n:Nat)(S:World->Prop)(d:P.follows .mixedOrders=true)(b:a8O .any ops n=true)(c:S w.drew)(h:S w.drew->Shut (a8O .any ops n=true)->a1p P .any ops Q S n ops.size (Array.replicate ops.size false) a w.drew):(Code.region id ops true).wp P Q a w:=
 wp_region_any d (a7l _ _ _ _ (h c b))
end
end Go
namespace Go
section
variable {P:Program} {ops:Array Oper} {Q:Exit->Act->World->Prop} {md:Region.Mode} {S:World->Prop} {n:Nat}
theorem a9N{i:Nat}{oi:Oper}{d:Nat}{b:Array Bool}{a:Act}{w:World}(e:Shut (a8O md ops n=true))(g:ops[i]? =some oi)(f:b1z md ops n i b=true)(s:∀c a w,Q (.panic c) (a.put oi.dst undef) w->Q (.panic c) a w)(t:S w)(u:Region.wanted oi (yielded ops a.tmps)=false)(h:a1p P md ops Q S n d (b.setIfInBounds i true) (a.put oi.dst undef) w):a1p P md ops Q S n (d+1) b a w:=by
 unfold b1z at f;simp only[Bool.and_eq_true,decide_eq_true_eq]at f;obtain⟨⟨⟨m,o⟩,q⟩,r⟩:=f;have e:=e.out;unfold a8O at e;simp only[Bool.and_eq_true,decide_eq_true_eq]at e;obtain⟨⟨⟨j,k⟩,l⟩,p⟩:=e;exact a5V j k l m g (Region.noSelect_spec p) s d b a w (a8N o) (Region.free_spec g q) (by simpa using r) (.inr ⟨u,rfl⟩) t h
end
end Go
namespace Go
section
variable {P:Program} {ops:Array Oper} {Q:Exit->Act->World->Prop} {md:Region.Mode} {S:World->Prop} {n:Nat}
theorem kt(i:Nat){d:Option Tmp}{j:Op}{ty:TypeId}{ps:String}{af:Array Edge}{g:Option (Nat×Bool)}{v:Value}{e:Nat}{b l:Array Bool}{a k:Act}{w:World}(o:Shut (a8O md ops n=true))(h:a1p P md ops Q S n e l k w)(s:ops[i]? =some ⟨d,j,ty,ps,af,g⟩:=by rfl)(m:b1z md ops n i b=true:=by kernel_rfl)(q:S w:=by assumption)(u:Region.wanted ⟨d,j,ty,ps,af,g⟩ (yielded ops a.tmps)=true:=by rfl)(x:∀w,S w->(execOp a.eval ⟨d,j,ty,ps,af,g⟩).run P w=.ok (.value v) w:=by
   intro w f
   (try dsimp only at f)
   go_simp
   all_goals with_reducible rfl)
  (p:∀c a w,Q (.panic c) (a.put d v) w->Q (.panic c) a w:=by exact fun _ _ _ h=>h)
  (t:b.setIfInBounds i true=l:=by first|(simp only[List.setIfInBounds_toArray,List.set_cons_zero,List.set_cons_succ];rfl)|rfl)
  (r:a.put d v=k:=by simp only[Act.put,List.setIfInBounds_toArray,List.set_cons_zero,List.set_cons_succ];rfl):a1p P md ops Q S n (e+1) b a w:=
 a9L o s m p q u x (by rw[t,r];exact h)
theorem ku(i:Nat){d:Option Tmp}{k:Op}{ty:TypeId}{ps:String}{af:Array Edge}{g:Option (Nat×Bool)}{e:Nat}{b j:Array Bool}{a f:Act}{w:World}(m:Shut (a8O md ops n=true))(h:a1p P md ops Q S n e j f w)(r:ops[i]? =some ⟨d,k,ty,ps,af,g⟩:=by rfl)(l:b1z md ops n i b=true:=by kernel_rfl)(p:S w:=by assumption)(t:Region.wanted ⟨d,k,ty,ps,af,g⟩ (yielded ops a.tmps)=false:=by rfl)(o:∀c a w,Q (.panic c) (a.put d undef) w->Q (.panic c) a w:=by exact fun _ _ _ h=>h)(s:b.setIfInBounds i true=j:=by first|(simp only[List.setIfInBounds_toArray,List.set_cons_zero,List.set_cons_succ];rfl)|rfl)(q:a.put d undef=f:=by simp only[Act.put,List.setIfInBounds_toArray,List.set_cons_zero,List.set_cons_succ];rfl):a1p P md ops Q S n (e+1) b a w:=
 a9N m r l o p t (by rw[s,q];exact h)
end
end Go
namespace Go.Lin
def a3r(k t:Int):Bool:=decide (1<=k)&&decide (k<=5)&&decide (0<=t)&&(decide (k=5)||decide (t=0))
def a6V(k t n:Int):Bool:=decide (1<=n)&&(decide (k≠5)||decide (t<=(n - 1)/2))
theorem b1A{k t:Int}:a3r k t=true↔a5j k t:=by
 unfold a3r a5j;simp only[Bool.and_eq_true,Bool.or_eq_true,decide_eq_true_eq,and_assoc]
theorem a8P{k t:Int}{n:Nat}:a6V k t n=true↔a6B k t n:=by
 unfold a6V a6B;simp only[Bool.and_eq_true,Bool.or_eq_true,decide_eq_true_eq];constructor
 ·rintro ⟨b,a⟩;exact⟨by omega,a.imp id fun h=>by omega⟩
 ·rintro ⟨b,a⟩;exact⟨by omega,a.imp id fun h=>by omega⟩
end Go.Lin
namespace Go.Proofs.YtnnpfhoigmegcaaGreat
open Go.RowKit Go.Rep Go.Lim Go.Lin
theorem c0F(w:World)(k t n:Int)(p: -9223372036854775808<=n)(q:n<=9223372036854775807):Calls Tryz.prog 100 #[.agg #[.int .i64 k,.int .i64 t],.int .i64 n] w (fun e r=>Ext w r/\e=.returned (.tuple #[.bool (a3r k t),.bool (a6V k t n)])):=by
 obtain⟨W,z,h,i,hz⟩:=a1e w #[.int .i64 k,.int .i64 t] 53;obtain⟨b,o⟩:∃b,w.heap.size=b:=⟨_,rfl⟩;rw[o]at i hz;have A:W.cell? ⟨b,0,none⟩=some (.int .i64 k):=i.cell 0 rfl;have B:W.cell? ⟨b,1,none⟩=some (.int .i64 t):=i.cell 1 rfl;go_enter Tryz.func100,Tryz.ntmps100
 go_upto_region 1 with fail
 (try simp only[Act.put])
 go_cut [4]from 6 to 28 (fun v s=>v=.bool (a3r k t)/\s=W)
 case first=>
  by_cases f:1<=k
  ·by_cases g:k<=5
   ·by_cases j:0<=t
    ·by_cases y:k=5
     ·go_wp2_with fail
      go_meet
      case rel=>exact⟨congrArg Value.bool (by rw[Bool.eq_iff_iff];simp[a3r];try omega),rfl⟩
     ·go_wp2_with fail
      go_meet
      case rel=>exact⟨congrArg Value.bool (by rw[Bool.eq_iff_iff];simp[a3r];try omega),rfl⟩
    ·go_wp2_with fail
     go_meet
     case rel=>exact⟨congrArg Value.bool (by rw[Bool.eq_iff_iff];simp[a3r];try omega),rfl⟩
   ·go_wp2_with fail
    go_meet
    case rel=>exact⟨congrArg Value.bool (by rw[Bool.eq_iff_iff];simp[a3r];try omega),rfl⟩
  ·go_wp2_with fail
   go_meet
   case rel=>exact⟨congrArg Value.bool (by rw[Bool.eq_iff_iff];simp[a3r];try omega),rfl⟩
 case rest=>
  obtain⟨rfl,rfl⟩:=hcut;have c:Ext wc wc.drew:=(ExtX.refl wc).drew;obtain⟨l,d⟩:∃l,a3r k t=l:=⟨_,rfl⟩;rw[d];have a:=hid d;clear d;by_cases f:1<=n
  ·have x:IntKind.i64.wrap (n - 1)=n - 1:=IntWalk.i64_in _ (by omega)
   by_cases g:k=5
   ·subst g
    have u:Int.tdiv (n - 1) 2=(n - 1)/2:=Int.tdiv_eq_ediv_of_nonneg (by omega);by_cases j:t<=(n - 1)/2
    ·go_upto_region 2 with fail
     go_region
     go_wp2_with fail
     go_ret2
     exact⟨h.trans c,by rw[a.out];simp[a6V,f,j]⟩
    ·go_upto_region 2 with fail
     go_region
     go_wp2_with fail
     go_ret2
     exact⟨h.trans c,by rw[a.out];simp[a6V,f,j]⟩
   ·have m:(k !=(5:Int))=true:=by simpa using g
    go_upto_region 2 with fail
    go_region
    go_wp2_with fail
    go_ret2
    exact⟨h.trans c,by rw[a.out];simp[a6V,f,g]⟩
  ·go_upto_region 2 with fail
   go_region
   go_wp2_with fail
   go_ret2
   exact⟨h.trans c,by rw[a.out];simp[a6V];omega⟩
theorem b9w(w:World)(k t:Int)(n:Nat)(C:n<=1000000)(p:a5j k t)(o:a6B k t n):Calls Tryz.prog 101 #[.agg #[.int .i64 k,.int .i64 t],.int .i64 (n:Int)] w (fun e q=>Ext w q/\e=.returned (.tuple #[.int .i64 ((rkA k t n:Int)+1),.int .i64 (rkB k t n:Int)])):=by
 obtain⟨W,B,a,c,hz⟩:=a1e w #[.int .i64 k,.int .i64 t] 53;obtain⟨b,l⟩:∃b,w.heap.size=b:=⟨_,rfl⟩;rw[l]at c hz;have D:W.cell? ⟨b,0,none⟩=some (.int .i64 k):=c.cell 0 rfl;have E:W.cell? ⟨b,1,none⟩=some (.int .i64 t):=c.cell 1 rfl;obtain⟨x,y,z,A⟩:=p;obtain⟨s,u⟩:=o;have r:IntKind.i64.wrap ((n:Int)+1)=(n:Int)+1:=IntWalk.i64_in _ (by omega);have f:Int.tdiv ((n:Int)+1) 2=((n:Int)+1)/2:=Int.tdiv_eq_ediv_of_nonneg (by omega);have g:Int.tdiv (n:Int) 2=(n:Int)/2:=Int.tdiv_eq_ediv_of_nonneg (by omega);have h:IntKind.i64.wrap ((n:Int)/2+1)=(n:Int)/2+1:=IntWalk.i64_in _ (by omega);have m:k=1\/k=2\/k=3\/k=4\/k=5:=by omega
 rcases m with rfl|rfl|rfl|rfl|rfl
 ·go_enter Tryz.func101,Tryz.ntmps101
  go_wp2_with fail
  go_ret2
  exact⟨a,by simp[rkA,rkB]⟩
 ·go_enter Tryz.func101,Tryz.ntmps101
  go_wp2_with fail
  go_ret2
  exact⟨a,by simp[rkA,rkB];omega⟩
 ·go_enter Tryz.func101,Tryz.ntmps101
  go_wp2_with fail
  go_ret2
  exact⟨a,by simp[rkA,rkB]⟩
 ·go_enter Tryz.func101,Tryz.ntmps101
  go_wp2_with fail
  go_ret2
  exact⟨a,by simp[rkA,rkB];omega⟩
 ·have v:t<=((n - 1)/2:Nat):=by omega
  have i:IntKind.i64.wrap (t+1)=t+1:=IntWalk.i64_in _ (by omega);have j:IntKind.i64.wrap ((n:Int) - t)=(n:Int) - t:=IntWalk.i64_in _ (by omega);have d:Ext W W.drew:=(ExtX.refl W).drew;go_enter Tryz.func101,Tryz.ntmps101
  go_upto_region 9 with fail
  go_region
  go_wp2_with fail
  go_ret2
  exact⟨a.trans d,by simp[rkA,rkB];omega⟩
open Go.Sort Go.Lib
variable {α:Type} [Inhabited α]
structure SortBy (lt:α->α->Bool) (g:Nat) (lb:Array Value) (sf:Nat) (sb:Array Value) (Y:Nat->Bool) (n:Nat) (I:Array α->World->Prop):Prop where
 enter:∀args w,(callFunc g args).run Tryz.prog w=.ok (.enter g args) w
 ext:∀d w w',I d w->Ext w w'->I d w'
 low:∀d w,I d w->∀k,Y k=true->k<w.heap.size
 less:∀d w,I d w->d.size=n->∀i j:Nat,i<n->j<n->Calls Tryz.prog g (#[.int .i64 i,.int .i64 j]++lb) w fun e w'=>e=.returned (.bool (lt d[i]! d[j]!))/\Ext w w'
 swap:∀d w,I d w->d.size=n->∀i j:Nat,i<n->j<n->i≠j->∃w',(callFunc sf (#[.int .i64 i,.int .i64 j]++sb)).run Tryz.prog w=.ok (.value (.tuple #[])) w'/\I (swp d i j) w'/\ExtX Y w w'
theorem a7m{lt:α->α->Bool}{g:Nat}{lb:Array Value}{sf:Nat}{sb:Array Value}{Y:Nat->Bool}{n:Nat}{I:Array α->World->Prop}(S:SortBy lt g lb sf sb Y n I)(d:Array α)(w:World)(hI:I d w)(hn:d.size=n)(a b:Nat)(hab:a<=b)(hb:b<=n)(hsz:n<4611686018427387904):Calls Tryz.prog 317 #[.agg #[.func (.func g) #[] lb,.func (.func sf) #[] sb],.int .i64 a,.int .i64 b] w fun e w'=>e=.returned (.tuple #[])/\I (Sort.insertionSort lt d a b) w'/\(Sort.insertionSort lt d a b).size=n/\ExtX Y w w':=by
 obtain⟨W1,hW1⟩:∃W1,w.alloc (.cells #[.func (.func g) #[] lb,.func (.func sf) #[] sb] 232)=W1:=⟨_,rfl⟩;have hE1:Ext w W1:=by rw[<-hW1];exact(ExtX.refl w).alloc _
 have hI1:=S.ext _ _ _ hI hE1;have hY:Y w.heap.size=false:=by
  cases h:Y w.heap.size with
  |false=>rfl
  |true=>exact absurd (S.low _ _ hI _ h) (Nat.lt_irrefl _)
 have c0:W1.cell? ⟨w.heap.size,0,none⟩=some (.func (.func g) #[] lb):=by rw[<-hW1];exact a4h 0 rfl
 have c1:W1.cell? ⟨w.heap.size,1,none⟩=some (.func (.func sf) #[] sb):=by rw[<-hW1];exact a4h 1 rfl
 obtain⟨B,hB⟩:∃B,w.heap.size=B:=⟨_,rfl⟩;have cc:Hid (∀wr,ExtX Y W1 wr->wr.cell? ⟨B,0,none⟩=some (.func (.func g) #[] lb)/\wr.cell? ⟨B,1,none⟩=some (.func (.func sf) #[] sb)):=hid fun wr h=>by
  rw[hB]at c0 c1 hY;exact⟨h.cellY c0 hY,h.cellY c1 hY⟩
 have HE1:=hid hE1;have eg:=S.enter;clear c0 c1 hY hI hE1;go_enter Tryz.func317,Tryz.ntmps317
 go_wp2
 (try rw[hW1])
 (try rw[hB])
 go_loopw [6] (fun vi wr=>∃(i:Nat) (dk:Array α),vi=.int .i64 i/\a<i/\i<=b+1/\dk.size=n/\I dk wr/\ExtX Y W1 wr/\insOuter lt a b i dk=insOuter lt a b (a+1) d) (fun vi _=>b+1 - (intOf vi).toNat)
 case atStart=>exact⟨a+1,d,by go_num,by omega,by omega,hn,hI1,ExtX.refl _,rfl⟩
 case round=>
  obtain⟨i,dk,rfl,hai,hib,hsk,hIk,hEk,hO⟩:=hrel;have HO:Hid (insOuter lt a b i dk=insOuter lt a b (a+1) d):=hO;clear hO
  go_wp2
  ·go_loopw [7] (fun vj wr2=>∃(j:Nat) (dj:Array α),vj=.int .i64 j/\a<=j/\j<=i/\dj.size=n/\I dj wr2/\ExtX Y W1 wr2/\insInner lt a j dj=insInner lt a i dk) (fun vj _=>(intOf vj).toNat)
   case atStart=>exact⟨i,dk,rfl,by omega,c1B _,hsk,hIk,hEk,rfl⟩
   case round=>
    rename_i wr0 _ _ wr
    obtain⟨j,dj,rfl,haj,hji,hsj,hIj,hEj,hIn⟩:=hrel;have hlt:i<b:=by assumption
    obtain⟨c0,c1⟩:=cc.out wr hEj;have HI:Hid (insInner lt a j dj=insInner lt a i dk):=hIn;clear hIn;have out:(j<=a\/lt dj[j]! dj[j - 1]! =false)->∀w',Ext wr w'->∃(i':Nat) (dk':Array α),Value.int .i64 ((i:Int)+1)=.int .i64 (i':Nat)/\a<i'/\i'<=b+1/\dk'.size=n/\I dk' w'/\ExtX Y W1 w'/\insOuter lt a b i' dk'=insOuter lt a b (a+1) d:=fun hs w' hE'=>
     ⟨i+1,dj,by go_num,by omega,by omega,hsj,S.ext _ _ _ hIj hE',hEj.trans (ExtX.of hE'),by rw[<-HO.out,insOuter_go _ _ _ _ _ hlt,<-HI.out,insInner_stop _ _ _ _ hs]⟩
    have OUT:Hid _:=out;clear out;by_cases hja:a<j
    ·have hl:=S.less dj wr hIj hsj j (j - 1) (by omega) (by omega)
     rw[show(((j - 1:Nat):Int))=(j:Int) - 1 by omega]at hl;cases hlv:lt dj[j]! dj[j - 1]! with
     |true=>
      rw[hlv]at hl;go_wp2_with (go_at_fn g;refine hl.mono ?_;rintro e w' ⟨rfl,hE'⟩;have c2:=hE'.cell c0;have c3:=hE'.cell c1)
      obtain⟨ws,hs,hIs,hEs⟩:=S.swap dj w' (S.ext _ _ _ hIj hE') hsj j (j - 1) (by omega) (by omega) (by omega);rw[show(((j - 1:Nat):Int))=(j:Int) - 1 by omega]at hs;rw[hs,Oper.upon_value]
      go_wp2
      go_roundw
      case rel=>
       (repeat apply Exists.intro)
       refine⟨⟨j - 1,swp dj j (j - 1),by congr 1<;>omega,by omega,by omega,by rw[size_swp];exact hsj,hIs,(hEj.trans (ExtX.of hE')).trans hEs,?_⟩,by rw[decide_eq_true hlt,show((j - 1:Nat):Int)=(j:Int) - 1 by omega]⟩;rw[<-HI.out,insInner_go lt a j dj hja hlv]
      case measure=>simp[intOf];omega
     |false=>
      rw[hlv]at hl;go_wp2_with (go_at_fn g;refine hl.mono ?_;rintro e w' ⟨rfl,hE'⟩)
      go_roundw
      case rel=>exact OUT.out (Or.inr hlv) _ hE'
      case measure=>simp[intOf];omega
    ·go_wp2
     go_roundw
     case rel=>exact OUT.out (Or.inl (by omega)) _ (ExtX.refl _)
     case measure=>simp[intOf];omega
  ·have hge:¬i<b:=by assumption
   go_end0
   have hfin:Sort.insertionSort lt d a b=dk:=by unfold Sort.insertionSort;rw[<-HO.out,insOuter_stop _ _ _ _ _ hge]
   exact⟨rfl,by rw[hfin];exact hIk,by rw[hfin];exact hsk,(ExtX.of HE1.out).trans hEk⟩
end Go.Proofs.YtnnpfhoigmegcaaGreat
namespace Go.Proofs.YtnnpfhoigmegcaaGreat
open Go.RowKit Go.Rep Go.Sort Go.Lib
variable {α:Type} [Inhabited α]
theorem b1B{lt:α->α->Bool}{g:Nat}{lb:Array Value}{sf:Nat}{sb:Array Value}{Y:Nat->Bool}{n:Nat}{I:Array α->World->Prop}(S:SortBy lt g lb sf sb Y n I)(d:Array α)(w:World)(hI:I d w)(hn:d.size=n)(h20:n<=20):Calls Tryz.prog 267 #[.agg #[.func (.func g) #[] lb,.func (.func sf) #[] sb],.int .i64 n] w fun e w'=>e=.returned (.tuple #[])/\I (Sort.insertionSort lt d 0 n) w'/\(Sort.insertionSort lt d 0 n).size=n/\ExtX Y w w':=by
 obtain⟨W1,hW1⟩:∃W1,w.alloc (.cells #[.func (.func g) #[] lb,.func (.func sf) #[] sb] 232)=W1:=⟨_,rfl⟩;have hE1:Ext w W1:=by rw[<-hW1];exact(ExtX.refl w).alloc _
 have hI1:=S.ext _ _ _ hI hE1;have hY:Y w.heap.size=false:=by
  cases h:Y w.heap.size with
  |false=>rfl
  |true=>exact absurd (S.low _ _ hI _ h) (Nat.lt_irrefl _)
 have c0:W1.cell? ⟨w.heap.size,0,none⟩=some (.func (.func g) #[] lb):=by rw[<-hW1];exact a4h 0 rfl
 have c1:W1.cell? ⟨w.heap.size,1,none⟩=some (.func (.func sf) #[] sb):=by rw[<-hW1];exact a4h 1 rfl
 obtain⟨B,hB⟩:∃B,w.heap.size=B:=⟨_,rfl⟩;have HE1:=hid hE1;have hi:=a7m S d W1 hI1 hn 0 n (Nat.zero_le _) (c1B _) (by omega);rw[hB]at c0 c1 hY;clear hI hE1 hI1;go_enter Tryz.func267,Tryz.ntmps267
 go_wp2
 (try rw[hW1])
 (try rw[hB])
 rcases Nat.lt_or_ge n 20 with h|h
 ·refine wp_loop_rounds 1 ?_
  rw[rounds_succ];go_wp2_with (go_at_call 317;refine hi.mono ?_;rintro e w1 ⟨rfl,hI2,hs2,hE2⟩)
  refine wp_loop_rounds 1 ?_;rw[rounds_succ]
  go_wp2
  all_goals first|(exfalso;omega)|(go_end0;exact⟨rfl,hI2,hs2,(ExtX.of HE1.out).trans hE2⟩)
 ·have hn20:n=20:=by omega
  subst hn20;refine wp_loop_rounds 2 ?_;rw[rounds_succ];go_wp2_with (go_at_call 317;refine hi.mono ?_;rintro e w1 ⟨rfl,hI2,hs2,hE2⟩;have c2:=hE2.cellY c0 hY;have c3:=hE2.cellY c1 hY)
  have hi2:=a7m S _ w1 hI2 hs2 20 20 (c1B _) (c1B _) (by omega);rw[rounds_succ];go_wp2_with (go_at_call 317;refine hi2.mono ?_;rintro e w2 ⟨rfl,hI3,hs3,hE3⟩)
  refine wp_loop_rounds 1 ?_;rw[rounds_succ]
  go_wp2
  have hst:Sort.insertionSort lt (Sort.insertionSort lt d 0 20) 20 20=Sort.insertionSort lt d 0 20:=by
   rw[show Sort.insertionSort lt (Sort.insertionSort lt d 0 20) 20 20=insOuter lt 20 20 21 (Sort.insertionSort lt d 0 20)from rfl,insOuter_stop _ _ _ _ _ (by omega)]
  rw[hst]at hI3
  all_goals first|(exfalso;omega)|(go_end0;exact⟨rfl,hI3,hs2,(ExtX.of HE1.out).trans (hE2.trans hE3)⟩)
theorem a2S(t e:TypeId)(i d:TypeInfo)(k:Tryz.prog.info? t=some i)(hd:i.desc=.slice e)(q:Tryz.prog.packed t=false)(l:Tryz.prog.info? e=some d)(h:Nat)(m:∀w,(Extern.Rtype.kind e).run Tryz.prog w=.ok h w)(p:Option Addr)(n c:Nat)(_:n<4611686018427387904)(f:Nat)(A:Tryz.prog.funcs.findIdx? (·.name== "internal/reflectlite" ++ ".Swapper$" ++toString (swapperK n d h))=some f)(g:Nat)(u:Array Value)(w:World)(R:World->Prop)(r:∀v,Ext w v->Calls Tryz.prog 267 #[.agg #[.func (.func g) #[] u,.func (.func f) #[] (if swapperK n d h<=2 then#[]else#[.slice p n c,typeHandle Tryz.prog e])],.int .i64 n] v fun e j=>e=.returned (.tuple #[])/\R j):Calls Tryz.prog 186 #[.iface t (.slice p n c),.func (.func g) #[] u] w fun e j=>e=.returned (.tuple #[])/\R j:=by
 have s:=run_valueOf_slice (P:=Tryz.prog) t e i k hd p n c w;have hs:=fun w=>run_swapper_slice (P:=Tryz.prog) t e i d k hd l h m p n c f A w;have b:=fun a w z=>run_valueLen_slice (P:=Tryz.prog) t e i k hd q a p n c w z;generalize (if swapperK n d h<=2 then(#[]:Array Value)else#[.slice p n c,typeHandle Tryz.prog e])=B at hs r;simp only[typeHandle]at s b
 (first|rw[show Tryz.prog.globals.size=1 by kernel_rfl]at b|rw[show Tryz.prog.globals.size=0 by kernel_rfl]at b|rw[show Tryz.prog.globals.size=2 by kernel_rfl]at b|rw[show Tryz.prog.globals.size=3 by kernel_rfl]at b)
 have x:Ext w ((w.alloc (.cells #[.slice p n c] t)).alloc (.cells #[.pointer (some ⟨Tryz.prog.globals.size,t,none⟩),.pointer (some ⟨w.heap.size,0,none⟩),.int .u64 151] 226)):=((ExtX.refl w).alloc _).alloc _;have o:=r _ x;go_enter Tryz.func186,Tryz.ntmps186
 go_wp2
 rw[run_callFunc_extern Tryz.func265 (by kernel_rfl) (by kernel_rfl) (by kernel_rfl) (e:=fun args=>Extern.ReflectliteValue.unpack (args.getD 0 (.tuple #[]))) (by kernel_rfl),
  show Sem.run Tryz.prog ((fun args:Array Value=>Extern.ReflectliteValue.unpack (args.getD 0 (.tuple #[]))) #[.iface t (.slice p n c)]) w=_ from s]
 simp only[Result.andThen];rw[Oper.upon_value]
 go_wp2
 rw[run_callFunc_extern Tryz.func266 (by kernel_rfl) (by kernel_rfl) (by kernel_rfl) (e:=Extern.ReflectliteSwapper.swapper "internal/reflectlite" (Extern.ReflectliteValue.valueError "Swapper")) (by kernel_rfl),hs];simp only[Result.andThen];rw[Oper.upon_value]
 go_wp2
 rw[run_callFunc_extern Tryz.func268 (by kernel_rfl) (by kernel_rfl) (by kernel_rfl) (e:=Extern.ReflectliteValue.method (Extern.ReflectliteValue.valueError "reflectlite.Value.Len" 0) Extern.ReflectliteValue.len) (by kernel_rfl),
  b _ _ (by simp)]
 simp only[Result.andThen];rw[Oper.upon_value];go_wp2_with (go_at_call 267;refine o.mono ?_;rintro e j ⟨rfl,y⟩)
 go_end0
 exact⟨rfl,y⟩
end Go.Proofs.YtnnpfhoigmegcaaGreat
namespace Go.Rep
open Go.RowKit Go.Lim Go.Extern Go.Extern.Rtype Go.Lib
section
variable {P:Program} {α:Type} {R:Mem->Value->α->Prop} {sz:Nat} {X:Nat->Bool} {base:Nat} {e:TypeId} {w:World} {ao:Option Addr} {cap:Nat} {l:List α}
theorem OL.run_load{t:TypeId}{ti:TypeInfo}(A:P.info? t=some ti)(n:ti.size=sz)(f:∀w,(isAgg t).run P w=.ok true w)(_:Elem R sz)(z:∀h u x,R h u x->∃d,u=.agg d)(h:OL R sz X base e w ao cap l)(i:Nat)(q:i<l.length):∃u,(loadVar t (adr ao (i*sz))).run P w=.ok u w/\R (mk (un X ao) w) u l[i]:=by
 obtain⟨us,B,o,_,y,p⟩:=h.cells;have b:i<us.length:=by omega
 obtain⟨d,c⟩:=z _ _ _ (p i b q);have g:d.size=sz:=by have:=o _ (c1E b);rw[c]at this;exact this
 have s:=run_loadCells_list (P:=P) w (adr ao (i*sz)) d.toList (fun j v r=>by
  rw[a3v];have k:j<sz:=by rw[<-g];exact(List.getElem?_eq_some_iff.1 r).1
  have a:=a2X us i j b o k;rw[c]at a;have m:(a0i (.agg d))[j]? =some v:=by simpa[a0i,Value.cells]using r
  rw[m]at a;exact(y _ _ a).1)
 refine⟨us[i],?_,p i b q⟩;rw[c];simp only[Array.length_toList,g,Array.toArray_toList]at s;simp[loadVar,f,sizeOf,typeInfo,A,n,s,Result.andThen]
theorem OL.run_swap{t:TypeId}{ti:TypeInfo}(g:Bool)(k:P.info? t=some ti)(a:ti.size=sz)(d:∀w,(isAgg t).run P w=.ok true w)(f:Elem R sz)(q:∀h u x,R h u x->∃B,u=.agg B)(h:OL R sz X base e w ao cap l)(i j:Nat)(m:i<l.length)(r:j<l.length)(c:Nat):∃o,(ReflectliteSwapper.swap g #[.int .i64 i,.int .i64 j,.slice ao l.length c,typeHandle P t]).run P w=.ok (.tuple #[]) o/\OL R sz X base e o ao cap ((l.set i l[j]).set j l[i])/\ExtX (ob ao) w o:=by
 obtain⟨u,s,K⟩:=h.run_load (P:=P) k a d f q i m;obtain⟨v,y,rv⟩:=h.run_load (P:=P) k a d f q j r;obtain⟨M,z,I,p⟩:=h.run_store (P:=P) k a f i m v l[j] rv;have n:=f.mono _ _ _ _ (a3O p (.inl rfl)) K;obtain⟨L,A,J,D⟩:=I.run_store (P:=P) k a f j (by simpa using r) u l[i] n;refine⟨L,?_,J,p.trans D⟩;rcases h.form with⟨rfl,rfl,rfl⟩|⟨b,C,rfl,_⟩
 ·simp at m
 have E:¬((i:Int)<0):=by omega
 have F:¬((i:Int)>=l.length):=by omega
 have G:¬((j:Int)<0):=by omega
 have H:¬((j:Int)>=l.length):=by omega
 simp only[adr,Option.getD_some,Nat.zero_add]at s y z A;rw[rl_swap];cases g<;>simp[E,F,G,H,ofHandle,handleType,typeHandle,ReflectliteSwapper.exchange,sizeOf,typeInfo,k,a,Addr.add_lit,s,y,z,A,Result.andThen]
end
theorem a7n{α:Type}[Inhabited α](d:Array α)(i j:Nat)(c:i<d.toList.length)(e:j<d.toList.length):(Go.Sort.swp d i j).toList=(d.toList.set i d.toList[j]).set j d.toList[i]:=by
 have a:i<d.size:=by simpa using c
 have b:j<d.size:=by simpa using e
 unfold Go.Sort.swp;simp[a,b]
end Go.Rep
namespace Go.Lin
abbrev Vec:=Nat->Rat
def dot(c:Nat)(u v:Vec):Rat:=sm c fun j=>u j*v j
def nz(c:Nat)(u:Vec):Prop:=∃j,j<c/\u j≠0
theorem b5i(c:Nat)(u v:Vec):dot c u v=dot c v u:=a0g fun j _=>by grind
theorem b0S{c:Nat}{u v:Vec}(h:∀j,j<c->u j=0):dot c u v=0:=a2F fun j a=>by rw[h j a];grind
theorem c0G{c:Nat}{u:Vec}(h:¬∀j,j<c->u j=0):nz c u:=by
 apply Classical.byContradiction;intro b;exact h fun j a=>Classical.byContradiction fun e=>b ⟨j,a,e⟩
def b9x(c:Nat)(u:Vec)(z:List Vec):Nat:=z.countP fun v=>decide (0<=dot c u v)
def b9y(c:Nat)(z:List Vec)(k:Nat):Prop:=(∃u,nz c u/\b9x c u z=k)/\∀u,nz c u->k<=b9x c u z
def Ort(c:Nat)(M:List Vec)(y:Vec):Prop:=∀v∈M,dot c v y=0
structure Basis (c:Nat) (P:Vec->Prop) (k:Nat) (f:F2):Prop where
 mem:∀i,i<k->P (f i)
 li:LI k c f
 span:∀y,P y->∃a:Vec,∀j,j<c->y j=cmb k f a j
def Dim(c:Nat)(M:List Vec)(k:Nat):Prop:=∃f,Basis c (Ort c M) k f
def z0:Vec:=fun _=>0
def b5j(c:Nat):List Vec->Vec->Bool
 | [],_=>true
 |u::us,v=>decide (0<dot c u v)||(decide (dot c u v=0)&&b5j c us v)
def c0H(c:Nat)(us:List Vec)(z:List Vec):Nat:=z.countP fun v=>b5j c us v
theorem a7o{c:Nat}{v:Vec}(h:¬nz c v):∀us:List Vec,b5j c us v=true
 | []=>rfl
 |u::us=>by
  have h0:dot c u v=0:=by
   rw[b5i];exact b0S fun j hj=>Classical.byContradiction fun e=>h ⟨j,hj,e⟩
  simp[b5j,h0,a7o h us]
open Classical in
noncomputable def nzL(c:Nat)(z:List Vec):List Vec:=z.filter fun v=>decide (nz c v)
open Classical in
theorem b1C{c:Nat}{p:Vec->Bool}(hp:∀v,¬nz c v->p v=true)(z:List Vec):z.countP p=(nzL c z).countP p+(z.length - (nzL c z).length):=by
 induction z with
 |nil=>rfl
 |cons v z ih=>
  have hle:(nzL c z).length<=z.length:=List.length_filter_le ..;unfold nzL at*;rw[List.filter_cons,List.countP_cons];by_cases h:nz c v
  ·rw[if_pos (c:=decide (nz c v)=true) (by simpa using h),List.countP_cons,List.length_cons,List.length_cons,ih];omega
  ·rw[if_neg (c:=decide (nz c v)=true) (by simpa using h),List.length_cons,if_pos (hp v h),ih];omega
theorem b5k(c:Nat)(us z:List Vec):c0H c us z=c0H c us (nzL c z)+(z.length - (nzL c z).length):=b1C (fun _ h=>a7o h us) z
structure Wit (c:Nat) (z:List Vec) (n:Nat) (us:List Vec):Prop where
 head:∃u t,us=u::t/\nz c u
 cnt:c0H c us z=n
 few:∀k,Dim c z k->us.length+k<=c\/us.length=1
def vec(l:List Rat):Vec:=fun j=>l.getD j 0
def a9j(m:Mat):List Vec:=m.map vec
section
variable {n c:Nat} {m:Mat} (hs:Shp n c m)
include hs
end
end Go.Lin
namespace Go.Lin
theorem a9O{z:Mat}{p:List Rat->Bool}{q:Vec->Bool}(h:∀r∈z,p r=q (vec r)):a9j (z.filter p)=(a9j z).filter q:=by
 unfold a9j;rw[List.filter_map];exact congrArg _ (List.filter_congr fun r a=>h r a)
def b3u(r:List Rat):Bool:=r.all fun x=>decide (x=0)
theorem b6x{c:Nat}{r:List Rat}(e:r.length=c):nz c (vec r)↔b3u r=false:=by
 constructor
 ·rintro ⟨j,b,hne⟩
  rw[<-Bool.not_eq_true];intro h;unfold b3u at h;rw[List.all_eq_true]at h;have a:j<r.length:=by omega
  have:=h r[j] (c1E a);apply hne;unfold vec;rw[List.getD_eq_getElem?_getD,List.getElem?_eq_getElem a];simpa using this
 ·intro h
  apply c0G;intro hz;rw[<-Bool.not_eq_true]at h;apply h;unfold b3u;rw[List.all_eq_true];intro x d;obtain⟨j,b,rfl⟩:=List.getElem_of_mem d;have:=hz j (by omega);unfold vec at this;rw[List.getD_eq_getElem?_getD,List.getElem?_eq_getElem b]at this;simpa using this
def a7p(z:Mat):Mat:=z.filter fun r=> !b3u r
theorem a6C{n c:Nat}{z:Mat}(hs:Shp n c z):a9j (a7p z)=nzL c (a9j z):=a9O fun r a=>by
 by_cases h:b3u r=false
 ·rw[h];have:=(b6x (hs.2 r a)).2 h;simp[this]
 ·have b:¬nz c (vec r):=fun k=>h ((b6x (hs.2 r a)).1 k)
  simp[b];simpa using h
end Go.Lin
namespace Go.Lin
open Go.Lim
theorem a9P{n c:Nat}{m:Mat}(hs:Shp n c m):(a0H m c).2.length<=c:=by
 have hr:=(a1a hs).2.1;have hlt:=hr.lt;have hinc:=hr.inc;generalize (a0H m c).2=p at hlt hinc;have key:∀i (hi:i<p.length),i<=p[i]:=by
  intro i
  induction i with
  |zero=>intro _;exact Nat.zero_le _
  |succ i ih=>intro hi;have:=ih (by omega);have:=hinc i (i+1) (by omega) hi;omega
 rcases Nat.eq_zero_or_pos p.length with h|h
 ·omega
 ·have:=key (p.length - 1) (by omega)
  have:=hlt (p.length - 1) (by omega);omega
open Go.Rep
end Go.Lin
namespace Go.Proofs.YtnnpfhoigmegcaaGreat
open Go.RowKit Go.Rep Go.Lim Go.Lin
end Go.Proofs.YtnnpfhoigmegcaaGreat
namespace Go.Lin
open Go.Lim Go.Rep
end Go.Lin
namespace Go.Lim
def up(lo:Int):Nat->List Int
 |0=>[]
 |k+1=>lo::up (lo+1) k
end Go.Lim
namespace Go.Lin
open Go.Lim Go.Rep
end Go.Lin
namespace Go.Proofs.YtnnpfhoigmegcaaGreat
open Go.RowKit Go.Rep Go.Lim Go.Lin
end Go.Proofs.YtnnpfhoigmegcaaGreat
namespace Go.Lin
open Go.Lim Go.Rep
end Go.Lin
namespace Go.Proofs.YtnnpfhoigmegcaaGreat
open Go.RowKit Go.Rep Go.Lim Go.Lin
end Go.Proofs.YtnnpfhoigmegcaaGreat
namespace Go.Lim
end Go.Lim
namespace Go.Lin
open Go.Lim Go.Rep
section
variable {n c:Nat} {z:Mat} (hs:Shp n c z)
include hs
end
end Go.Lin
namespace Go.Lin
open Go.Lim Go.Rep
end Go.Lin
namespace Go.Proofs.YtnnpfhoigmegcaaGreat
open Go.RowKit Go.Rep Go.Lim
open Go.Lin
end Go.Proofs.YtnnpfhoigmegcaaGreat
namespace Go.Rep
open Go.RowKit
section
variable {P:Program} {ops:Array Oper} {Q:Exit->Act->World->Prop} {rest:List Oper} {a:Act} {w:World}
variable {α:Type} {R:Mem->Value->α->Prop} {sz:Nat} {X:Nat->Bool} {base:Nat} {e:TypeId} {ao:Option Addr} {cap:Nat} {l:List α}
variable {d:Option Tmp} {ty:TypeId} {ps:String} {af:Array Edge}
end
end Go.Rep
namespace Go.Rep
open Go.RowKit
section
variable {P:Program} {ops:Array Oper} {Q:Exit->Act->World->Prop} {rest:List Oper} {a:Act} {w:World}
variable {α:Type} {R:Mem->Value->α->Prop} {sz:Nat} {X:Nat->Bool} {e:TypeId}
variable {d:Option Tmp} {ty:TypeId} {ps:String} {af:Array Edge}
theorem b3v{t i:Nat}{z:Value}{s x:Operand}{h:Option Addr}{r m:Nat}(T:SliceT P t e sz i z)(q:z.cells.size=sz)(B:Elem R sz)(C:∀k,X k=true->k<w.heap.size)(n:List α)(hs:a.eval s=.slice none 0 0)(E:a.eval x=.slice h m r)(D:m=n.length)(p:Sl R sz (mk X w) h n)(f:m*i<=140737488355328)(j:m<=9223372036854775807)(K:∀c b g,OL R sz X w.heap.size e g c b n->Ext w g->wpList P ops Q rest (a.put d (.slice c m b)) g):wpList P ops Q (⟨d,.call {callee:= .builtin .append,args:=#[s,x],argTypes:=#[t,t]},ty,ps,af,none⟩::rest) a w:=by
 subst D;have u:OL R sz X w.heap.size e w none 0 []:=OL.nil _ _ _ _ _ _;have o:un X none=X:=by funext k;simp[un,ob]
 refine a4j (l:=[]) T q B (c1B _) C n hs E u (by rw[o];exact p) (by simpa using f) (by simpa using j) ?_;intro c b g v y F;have A:Ext w g:=y.weaken fun k _ _=>by simp[ob]
 exact K c b g v A
end
end Go.Rep
namespace Go.Rep
open Go.RowKit
section
variable {P:Program} {ops:Array Oper} {Q:Exit->Act->World->Prop} {rest:List Oper} {a:Act} {w:World}
variable {α:Type} {R:Mem->Value->α->Prop} {sz:Nat} {X:Nat->Bool} {base:Nat} {e:TypeId} {ao:Option Addr} {cap:Nat} {l:List α}
variable {d:Option Tmp} {ty:TypeId} {ps:String} {af:Array Edge}
end
end Go.Rep
namespace Go.Rep
open Go.RowKit
end Go.Rep
namespace Go.Lim
end Go.Lim
namespace Go.Proofs.YtnnpfhoigmegcaaGreat
open Go.RowKit Go.Rep Go.Lim
def hbB(W:World)(g:Nat):Nat->Bool:=fun k=>decide (k<W.heap.size)&& !(k==g)
section
variable (cb base n k:Nat) (caps:Array Value) (Inv:List (List Int)->World->Prop)
end
end Go.Proofs.YtnnpfhoigmegcaaGreat
namespace Go.Rep
open Go.RowKit Go.Lim
section
variable {P:Program} {ops:Array Oper} {Q:Exit->Act->World->Prop} {a:Act} {w:World}
variable {α:Type} {R:Mem->Value->α->Prop} {sz:Nat} {X:Nat->Bool} {base:Nat} {e:TypeId} {ao:Option Addr} {cap:Nat} {l:List α}
end
end Go.Rep
namespace Go.Proofs.YtnnpfhoigmegcaaGreat
open Go.RowKit Go.Rep Go.Lim Go.Lin
section
variable {X:Nat->Bool} {w0 W W':World} {bo bu bc bd bs B0 c:Nat} {oo:Option Addr} {n oc:Nat} {ov:Value} {z N:Mat} {cnt:Nat} {dv:Value} {us:Mat}
end
end Go.Proofs.YtnnpfhoigmegcaaGreat
namespace Go.Lin
open Go.Lim Go.Rep Go.Proofs.YtnnpfhoigmegcaaGreat
theorem b1D{n c:Nat}{m:Mat}(hs:Shp n c m)(f:n<=96)(e:1<=c)(b:c<=96)(d:0<n):a0y m=true/\colsL m=c:=by
 have a:colsL m=c:=by
  unfold colsL;rw[List.getD_eq_getElem?_getD,List.getElem?_eq_getElem (by rw[hs.1];exact d)];exact hs.2 _ (c1E _)
 refine⟨a1M.2 ⟨by rw[hs.1];exact f,fun i g=>?_⟩,a⟩;rw[a,hs.2 _ (c1E _)];exact⟨e,b,rfl⟩
end Go.Lin
namespace Go.Proofs.YtnnpfhoigmegcaaGreat
open Go.RowKit Go.Rep Go.Lim Go.Lin
def tbm(tb:Nat):Nat->Bool:=fun k=>k==tb
theorem b5l(a:Nat):tbm a a=true:=by simp[tbm]
theorem a5W{a k:Nat}(h:k≠a):tbm a k=false:=by simpa[tbm]using h
def a0V(X:Nat->Bool)(tb:Nat)(w:World):Prop:=
 X tb=true/\∃(lo:Option Addr) (l:List Int) (cap at_:Nat),w.heap[tb]? =some (.cells #[.slice lo l.length cap,.int .i64 (at_:Int)] 103 (0,0))/\l.length<=400/\at_<=l.length/\Sl (a2a .i64) 1 (mk X w) lo l
theorem a6D{X:Nat->Bool}{a:Nat}(h:X a=true):∀k,tbm a k=true->X k=true:=fun k b=>by
 have:k=a:=by simpa[tbm]using b
 rw[this];exact h
theorem a0V.lt{X:Nat->Bool}{a:Nat}{w:World}(h:a0V X a w):a<w.heap.size:=by
 obtain⟨_,lo,l,cap,at_,b,_⟩:=h;by_cases c:a<w.heap.size
 ·exact c
 ·rw[Array.getElem?_eq_none (by omega)]at b;simp at b
theorem a0V.ext{X:Nat->Bool}{b:Nat}{w d:World}(h:a0V X b w)(c:Ext w d):a0V X b d:=by
 have a:=h.lt;obtain⟨j,lo,l,cap,at_,e,f,g,i⟩:=h;exact⟨j,lo,l,cap,at_,by rw[c.block b a rfl];exact e,f,g,i.mono (a2a.mono _) (a0l c)⟩
theorem a0V.extY{X Y:Nat->Bool}{a:Nat}{w d:World}(h:a0V X a w)(c:ExtX Y w d)(m:∀k,Y k=true->X k=true)(n:Y a=false):a0V X a d:=by
 have b:=h.lt;obtain⟨j,lo,l,cap,at_,e,f,g,i⟩:=h;exact⟨j,lo,l,cap,at_,by rw[c.block a b n];exact e,f,g,i.mono (a2a.mono _) (a0t c m)⟩
def b7M(X:Nat->Bool)(tb:Nat)(w:World)(n:Int)(e:Ending)(w':World):Prop:=
 ExtX (tbm tb) w w'/\a0V X tb w'/\∃m:Nat,e=.returned (.int .i64 (m:Int))/\((m:Int)<n\/m=0)
theorem b5m(v n:Int)(w:World)(m:1<=n)(o:n<=1099511627776):Calls Tryz.prog 83 #[.int .i64 v,.int .i64 n] w (fun e j=>e=.returned (.int .i64 (v%n))/\j=w):=by
 have i:(n==0)=false:=a2J (by omega);have g: -n<v.tmod n:=Int.lt_tmod_of_pos v (by omega);have f:v.tmod n<n:=Int.tmod_lt_of_pos v (by omega);have d:(v.tmod n<0->v.tmod n+n=v%n)/\(0<=v.tmod n->v.tmod n=v%n):=by
  have h:=Int.tmod_eq_emod (a:=v) (b:=n);have k:=Int.emod_nonneg v (show n≠0 by omega);have l:=Int.emod_lt_of_pos v (show 0<n by omega);split at h<;>omega
 have c:=hid d;clear d;go_enter Tryz.func83,Tryz.ntmps83
 go_wp2_with fail
 ·go_ret
  exact⟨a0N (c.out.1 (by assumption)),rfl⟩
 ·go_ret
  exact⟨a0N (c.out.2 (by assumption)),rfl⟩
theorem a0V.cells{X:Nat->Bool}{b:Nat}{w:World}(h:a0V X b w):∃(lo:Option Addr) (l:List Int) (cap at_:Nat),w.cell? ⟨b,0,none⟩=some (.slice lo l.length cap)/\w.cell? ⟨b,1,none⟩=some (.int .i64 (at_:Int))/\w.frozen? ⟨b,1,none⟩=false/\l.length<=400/\at_<=l.length/\Sl (a2a .i64) 1 (mk X w) lo l/\ ∀a:Nat,a<=l.length->a0V X b (w.setCell ⟨b,1,none⟩ (.int .i64 (a:Int)))/\ExtX (tbm b) w (w.setCell ⟨b,1,none⟩ (.int .i64 (a:Int)))/\ (w.setCell ⟨b,1,none⟩ (.int .i64 (a:Int))).cell? ⟨b,0,none⟩=some (.slice lo l.length cap)/\(w.setCell ⟨b,1,none⟩ (.int .i64 (a:Int))).cell? ⟨b,1,none⟩=some (.int .i64 (a:Int)):=by
 have o:=h.lt;obtain⟨j,lo,l,cap,at_,c,f,m,g⟩:=h;refine⟨lo,l,cap,at_,by simp[World.cell?,c],by simp[World.cell?,c],by simp[World.frozen?,c],f,m,g,fun a n=>?_⟩;have i:ExtX (tbm b) w (w.setCell ⟨b,1,none⟩ (.int .i64 (a:Int))):=
  ⟨rfl,rfl,rfl,by simp[World.setCell],fun k q p=>Below.heap_setCell _ _ _ _ (fun e=>by subst e;simp[tbm]at p)⟩
 have d:(w.setCell ⟨b,1,none⟩ (.int .i64 (a:Int))).heap[b]? =some (.cells #[.slice lo l.length cap,.int .i64 (a:Int)] 103 (0,0)):=by
  simp only[World.setCell,Array.getElem?_modify,c];simp
 exact⟨⟨j,lo,l,cap,a,d,f,n,g.mono (a2a.mono _) (a0t i (a6D j))⟩,i,by unfold World.cell?;rw[d];rfl,by unfold World.cell?;rw[d];rfl⟩
theorem a0V.drewN{X:Nat->Bool}{a:Nat}{w:World}(h:a0V X a w)(n:Nat):a0V X a (w.drewN n):=h
theorem a2z(X:Nat->Bool)(b:Nat)(n:Int)(w:World)(j:a0V X b w)(K:n<=1099511627776):Calls Tryz.prog 21 #[.pointer (some ⟨b,0,none⟩),.int .i64 n] w (b7M X b w n):=by
 obtain⟨lo,l,cap,at_,F,G,I,J,hat,hs,c⟩:=j.cells;have B:=hs.hd;by_cases y:n<1
 ·have hd:decide (n<1)=true:=decide_eq_true y
  go_enter Tryz.func21,Tryz.ntmps21
  go_wp2_with fail
  go_quiet (fail)
  go_wp2_with fail
  go_ret
  exact⟨(ExtX.refl _).drewN _,j.drewN _,0,rfl,.inr rfl⟩
 have hd:decide (n<1)=false:=decide_eq_false y;by_cases z:at_<l.length
 ·obtain⟨e,a,t,u⟩:=c (at_+1) (by omega)
  have d:=(hs.mono (a2a.mono _) (a0t a (a6D j.1))).int at_ z;obtain⟨x,A⟩:∃x,l[at_]=x:=⟨_,rfl⟩;rw[A]at d;clear A c;have v:((at_+1:Nat):Int)=(at_:Int)+1:=by omega
  rw[v]at t u d e a;have C:∀N,((w.drewN N).setCell ⟨b,1,none⟩ (.int .i64 ((at_:Int)+1))).cell? ⟨b,0,none⟩=some (.slice lo l.length cap):=fun _=>t;have D:∀N,((w.drewN N).setCell ⟨b,1,none⟩ (.int .i64 ((at_:Int)+1))).cell? ⟨b,1,none⟩=some (.int .i64 ((at_:Int)+1)):=fun _=>u;have E:∀N,((w.drewN N).setCell ⟨b,1,none⟩ (.int .i64 ((at_:Int)+1))).cell? (adr lo at_)=some (.int .i64 x):=fun _=>d;have H:IntKind.i64.wrap ((at_:Int)+1 - 1)=(at_:Int):=by rw[IntWalk.i64_in _ (by omega)];omega
  have i:∀N,a0V X b ((w.drewN N).setCell ⟨b,1,none⟩ (.int .i64 ((at_:Int)+1))):=fun _=>e;have f:∀N,ExtX (tbm b) w ((w.drewN N).setCell ⟨b,1,none⟩ (.int .i64 ((at_:Int)+1))):=fun _=>⟨a.os,a.tape,a.output,a.size,a.block⟩;have s:=hid i;have k:=hid f;clear v e a t u i f;have o:decide ((l.length:Int)<=(at_:Int))=false:=decide_eq_false (by omega);have L:∀W,(Instr.indexAt 22 (.slice lo l.length cap) (.int .i64 (at_:Int))).run Tryz.prog W=.ok (.pointer (some (adr lo at_))) W:=a0z a6a lo l.length cap .i64 at_ B z rfl;go_enter Tryz.func21,Tryz.ntmps21
  go_wp2_with fail
  go_quiet (fail)
  go_wp2_with fail
  have g:=Int.emod_nonneg x (show n≠0 by omega);have h:=Int.emod_lt_of_pos x (show 0<n by omega);obtain⟨m,p⟩:=Int.eq_ofNat_of_zero_le g;have q:=hid p;have r:Hid ((m:Int)<n):=hid (by rw[<-p];exact h);clear p g h
  go_quiet ((go_at_call 83;exact Calls.quiet_of_same (b5m x n _ (by omega) (by omega))))
  go_wp2_with fail
  go_ret
  exact⟨(k.out _).drewN _,(s.out _).drewN _,m,a0N q.out,.inl r.out⟩
 ·have o:decide ((l.length:Int)<=(at_:Int))=true:=decide_eq_true (by omega)
  go_enter Tryz.func21,Tryz.ntmps21
  go_wp2_with fail
  go_quiet (fail)
  go_wp2_with fail
  go_ret
  exact⟨(ExtX.refl _).drewN _,j.drewN _,0,rfl,.inr rfl⟩
def b5n(X:Nat->Bool)(tb:Nat)(w:World)(e:Ending)(w':World):Prop:=ExtX (tbm tb) w w'/\a0V X tb w'/\∃b:Bool,e=.returned (.bool b)
def b3w(X:Nat->Bool)(tb:Nat)(w:World)(lo hi:Int)(e:Ending)(w':World):Prop:=ExtX (tbm tb) w w'/\a0V X tb w'/\∃m:Int,e=.returned (.int .i64 m)/\lo<=m/\m<=hi
theorem a6E(X:Nat->Bool)(a:Nat)(n:Int)(w:World)(f:a0V X a w)(g: -1000<=n)(d:n<=1099511627776):Calls Tryz.prog 16 #[.pointer (some ⟨a,0,none⟩),.int .i64 n] w (b5n X a w):=by
 go_enter Tryz.func16,Tryz.ntmps16
 go_wp2_with fail
 refine(a2z X a n _ f d).mono ?_;rintro e i ⟨c,b,m,rfl,h⟩;go_wp2_with fail
 go_ret
 exact⟨c,b,_,rfl⟩
theorem b5o(X:Nat->Bool)(d:Nat)(lo:Option Addr)(l:List Int)(cap:Nat)(w:World)(a b:Int)(j:a0V X d w)(hs:Sl (a2a .i64) 1 (mk X w) lo l)(o:0<l.length)(q:l.length<=1000)(f:Hid (∀x∈l,a<=x/\x<=b)):Calls Tryz.prog 82 #[.pointer (some ⟨d,0,none⟩),.slice lo l.length cap] w (b3w X d w a b):=by
 have p:=hs.hd;go_enter Tryz.func82,Tryz.ntmps82
 go_wp2_with fail
 refine(a2z X d _ _ j (by omega)).mono ?_;rintro e s ⟨i,h,m,rfl,r⟩;have c:m<l.length:=by omega
 have n:=(hs.mono (a2a.mono _) (a0t i (a6D j.1))).int m c;have g:=f.out l[m] (c1E c);obtain⟨x,k⟩:∃x,l[m]=x:=⟨_,rfl⟩;rw[k]at n g;clear k;go_wp2_with (with_reducible refine a0v a6a (by omega) (by assumption) ?_)
 go_ret
 exact⟨i,h,x,rfl,g.1,g.2⟩
theorem b5p(lo:Option Addr)(l:List Int)(cap:Nat)(w:World)(hs:Sl (a2a .i64) 1 w.cell? lo l)(h:l.length<=cap)(j:l.length<=9223372036854775807):Calls Tryz.prog 14 #[.slice lo l.length cap] w (fun e d=>e=.returned (.pointer (some ⟨w.heap.size,0,none⟩))/\Ext w d/\a0V (tbm w.heap.size) w.heap.size d/\d.heap.size=w.heap.size+1):=by
 have a:∀(l:List Int),l.length<=400->Sl (a2a .i64) 1 w.cell? lo l->a0V (tbm w.heap.size) w.heap.size (w.alloc (.cells #[.slice lo l.length cap,.int .i64 0] 103)):=by
  intro l h hs;refine⟨b5l _,lo,l,cap,0,heap_alloc_new w _,h,Nat.zero_le _,?_⟩;rw[<-a7f]at hs;refine hs.mono (a2a.mono _) (a1k ((ExtX.refl (Y:=noY) w).alloc _) (fun k _ g=>by simp[noY]at g) fun k g hz=>?_);have:k=w.heap.size:=by simpa[tbm]using hz
  omega
 have f:∀u v,Ext w (w.alloc (.cells #[u,v] 103)):=fun u v=>(ExtX.refl w).alloc _;by_cases i:400<l.length
 ·have c:=hid (a (l.take 400) (by simp;omega) (hs.take 400))
  have b:(l.take 400).length=400:=by simp;omega
  rw[b]at c;clear a b;go_enter Tryz.func14,Tryz.ntmps14
  go_wp2_with fail
  go_ret
  exact⟨rfl,f _ _,c.out,by simp⟩
 ·have c:=hid (a l (by omega) hs)
  clear a;go_enter Tryz.func14,Tryz.ntmps14
  go_wp2_with fail
  go_ret
  exact⟨rfl,f _ _,c.out,by simp⟩
theorem b3x(l:List Int):(l.map (Value.int .i64)).flatMap a0i=l.map (Value.int .i64):=by
 induction l with
 |nil=>rfl
 |cons x l ih=>simp only[List.map_cons,List.flatMap_cons,ih];rfl
theorem b6y(X:Nat->Bool)(w:World)(l:List Int)(e:TypeId)(a:Array Value)(b:a=(l.map (Value.int .i64)).toArray)(c:∀k,X k=true->k<w.heap.size)(g:l.length<=1000):OL (a2a .i64) 1 X w.heap.size e (w.alloc (.cells a e)) (some ⟨w.heap.size,0,none⟩) l.length l:=by
 refine OL.lit (a2a.elem .i64) c (c1B _) (l.map (Value.int .i64)) l a ?_ (by simp) (fun i f d=>by simp[a2a]) (by omega);rw[b,b3x]
theorem b5q(X:Nat->Bool)(g:Nat)(l:List Int)(c:Array Value)(e:TypeId)(len:Nat)(w:World)(a b:Int)(q:a0V X g w)(p:∀k,X k=true->k<w.heap.size)(d:c=(l.map (Value.int .i64)).toArray)(f:len=l.length)(o:0<l.length)(n:l.length<=1000)(i:Hid (∀x∈l,a<=x/\x<=b)):Calls Tryz.prog 82 #[.pointer (some ⟨g,0,none⟩),.slice (some ⟨w.heap.size,0,none⟩) len len] (w.alloc (.cells c e)) (b3w X g w a b):=by
 subst f;have m:Ext w (w.alloc (.cells c e)):=(ExtX.refl w).alloc _;refine(b5o X g _ l _ _ a b (q.ext m) (OL.sl (a2a.elem .i64) (b6y X w l e c d p n)) o n i).mono ?_;rintro s t ⟨h,j,r⟩;exact⟨(ExtX.of m).trans h,j,r⟩
theorem a0V.unstep{X:Nat->Bool}{b:Nat}{w f:World}{oo a:Option Addr}(h:a0V (un X oo) b w)(e:ob oo b=false)(d:ExtX (ob oo) w f)(o:a=oo\/∃g,a=some ⟨g,0,none⟩/\w.heap.size<=g):a0V (un X a) b f:=by
 have c:=h.lt;obtain⟨n,lo,l,cap,at_,i,j,k,m⟩:=h;refine⟨?_,lo,l,cap,at_,by rw[d.block b c e];exact i,j,k,m.unstep (a2a.mono _) d o⟩;have:X b=true:=by simpa[un,e]using n
 exact a0m this
theorem a0V.unX{X:Nat->Bool}{a:Nat}{w:World}{oo:Option Addr}(h:a0V (un X oo) a w)(f:X a=true):a0V X a w:=by
 obtain⟨_,lo,l,cap,at_,b,c,d,e⟩:=h;exact⟨f,lo,l,cap,at_,b,c,d,e.unX (a2a.mono _)⟩
theorem a7X(X:Nat->Bool):un X none=X:=by funext k;simp[un,ob]
theorem a0V.none{X:Nat->Bool}{a:Nat}{w:World}(h:a0V X a w):a0V (un X none) a w:=by rw[a7X];exact h
theorem a0V.old{X:Nat->Bool}{b:Nat}{w d:World}{oo:Option Addr}(h:a0V X b w)(c:Ext w d)(m:∀j,j<w.heap.size->ob oo j=false):a0V (un X oo) b d:=by
 have a:=h.lt;obtain⟨k,lo,l,cap,at_,e,f,g,i⟩:=h;exact⟨a0m k,lo,l,cap,at_,by rw[c.block b a rfl];exact e,f,g,i.old (a2a.mono _) c m⟩
theorem _root_.Go.Rep.OL.not_ob{α:Type}{R:Mem->Value->α->Prop}{sz base cap:Nat}{e:TypeId}{ao:Option Addr}{l:List α}{X:Nat->Bool}{w:World}(c:OL R sz X base e w ao cap l){k:Nat}(a:X k=true):ob ao k=false:=by
 have h:∀k,ob ao k=true->X k=false:=c.1;cases b:ob ao k
 ·rfl
 ·rw[h k b]at a;simp at a
end Go.Proofs.YtnnpfhoigmegcaaGreat
namespace Go.Lin
open Go.Lim Go.Rep
end Go.Lin
namespace Go.Proofs.YtnnpfhoigmegcaaGreat
open Go.RowKit Go.Rep Go.Lim Go.Lin
theorem b7N(X:Nat->Bool)(w:World)(u:Value)(m:List (List Rat))(k:HX X w)(n:MV (mk X w) u m)(i:a0y m=true)(r:b7b m (colsL m)):Calls Tryz.prog 189 #[u] w (fun e v=>Ext w v/\e=.returned (.tuple #[.int .i64 (a8w m (colsL m):Int),.int .i64 0])):=by
 obtain⟨d,o,l,_,_⟩:=a0x i;have c:=a2q X w u m n (by omega);rw[i]at c;have h:=a3n X w u m m.length (colsL m) k n d rfl (by omega) (by omega);have j:Hid ((eN m (colsL m)).2.1.length=a8w m (colsL m)):=hid rfl;clear i;go_enter Tryz.func189,Tryz.ntmps189
 go_wp2_with fail
 refine c.mono ?_;rintro e A ⟨rfl,rfl⟩;go_wp2_with fail
 refine h.mono ?_;rintro e x ⟨a,ao,cap,hs,rfl,b⟩;go_wp2_with fail
 refine(a6x X _ x ao cap m.length (colsL m) hs m (k.ext a) b d rfl (by omega) (by omega) r).mono ?_;rintro e B ⟨f,z,y,t,rfl,s,p,q⟩;have g:=b.ext_from a (c1B _) f;rw[j.out];go_wp2_with fail
 go_ret2
 exact⟨g,rfl⟩
end Go.Proofs.YtnnpfhoigmegcaaGreat
namespace Go.Rep
open Go.RowKit
end Go.Rep
namespace Go.Lin
open Go.Lim Go.Rep
end Go.Lin
namespace Go.Proofs.YtnnpfhoigmegcaaGreat
open Go.RowKit Go.Rep Go.Lim Go.Lin
end Go.Proofs.YtnnpfhoigmegcaaGreat
namespace Go.Lin
open Go.Lim Go.Rep
end Go.Lin
namespace Go.Proofs.YtnnpfhoigmegcaaGreat
open Go.RowKit Go.Rep Go.Lim Go.Lin
theorem b3y(X:Nat->Bool)(w:World)(u:Value)(x:Rat)(y:HX X w)(h:QV (mk X w) u x):Calls Tryz.prog 109 #[u] w (a1S X w QC x):=by
 obtain⟨E,p,C,q,r,B,s,rfl⟩:=h.shape;obtain⟨W,J,n,f,m,hz⟩:=a1w w #[.bool E,.slice p C q,.slice r B s] #[.bool false,.slice none 0 0,.slice none 0 0] 41 41;have d:HX (a0f X w.heap.size 2) W:=y.boxes hz;have e:=QV.mono _ _ _ _ (a0j (nb:=2) n) h;obtain⟨b,z⟩:∃b,w.heap.size=b:=⟨_,rfl⟩;have A:w.heap.size<=b:=by omega
 rw[z]at f m hz d e;have j:=f.cell 0 rfl;have k:=f.cell 1 rfl;have l:=f.cell 2 rfl;have t:QV (mk (a0f X b 2) W) (.agg #[.bool false,.slice none 0 0,.slice none 0 0]) 0:=(QC.zero _).qv (by decide+kernel);have i:x+0=x:=by grind
 clear h;go_enter Tryz.func109,Tryz.ntmps109
 go_wp2_with fail
 refine(b2R (a0f X b 2) W _ _ x 0 d e t).mono ?_;rintro I O ⟨c,N,rfl,a⟩;rw[i]at a;obtain⟨M,F,L,G,H,K,e5,rfl⟩:=a.shape;have g:=m.ext0 c;clear j k l;go_wp2_with ((with_reducible show wpList _ _ _ (⟨_,.store 41 _ _,_,_,_,_⟩::_) _ _);refine a0a a0p rfl rfl g rfl rfl (a1z _ _ _ _ _ _ _) ?_;intro P D o)
 have v:=QC.mono _ _ _ _ a0k (QC.mono _ _ _ _ (a0h o (by omega) (by omega)) a);exact bodyPost_ret (a0e rfl rfl a0p D rfl) rfl ⟨ExtX.box (n.trans c) o (by omega),_,rfl,v⟩
theorem b9z(X:Nat->Bool)(w:World)(u:Value)(l:List Rat)(hX:HX X w)(hu:RV (mk X w) u l)(hl:l.length<=1000):Calls Tryz.prog 290 #[u] w (fun e W=>Ext w W/\∃oo b,e=.returned (.slice oo l.length b)/\OL QC 3 X w.heap.size 41 W oo b l):=by
 obtain⟨ao,ca,rfl,H,s⟩:=hu;have I:=s.hd;obtain⟨n,M⟩:∃n,l.length=n:=⟨_,rfl⟩;have r:=hid M;rw[M]at hl H I |-;clear M;go_enter Tryz.func290,Tryz.ntmps290
 go_wp2_with fail
 go_loopw [3,8] (fun o y wr=>∃(i:Nat) (oo:Option Addr) (b:Nat),y=.int .i64 i/\o=.slice oo i b/\i<=n/\OL QC 3 X w.heap.size 41 wr oo b (l.take i)/\Ext w wr) (fun _ y _=>n - (intOf y).toNat)
 case atStart=>exact⟨0,none,0,rfl,rfl,Nat.zero_le _,OL.nil _ _ _ _ _ _,ExtX.refl _⟩
 case round=>
  obtain⟨i,oo,b,rfl,rfl,hi,k,g⟩:=hrel;have q:HX X wr:=hX.ext g;have E:HX (un X oo) wr:=k.unX q;have G:=g.size;by_cases L:i<n
  ·have d:i<l.length:=by rw[r.out];exact L
   have t:=hid (a0L l i d);have K:=hid (a0Q (l:=l) (i:=i) (Nat.le_of_lt d));have N:Sl QV 3 (mk (un X oo) wr) ao l:=s.old QV.mono g (fun j hj=>k.ob_lt hj);have Z:=Bx.new wr #[.bool false,.slice none 0 0,.slice none 0 0] 41;obtain⟨v,P⟩:∃v,l[i]=v:=⟨_,rfl⟩;rw[P]at t;have Q:=hid P;clear P;go_wp2_with (first|(with_reducible refine a1I a0w (by omega) (by assumption) ?_)|((with_reducible show wpList _ _ _ (⟨_,.load 41 _,_,_,_,_⟩::_) _ _);refine a0B a0p i N d rfl (by simp) QV.agg ?_;intro u5 f;rw[Q.out]at f;obtain⟨s5,a5,n5,c5,d5,m5,e5,rfl⟩:=f.shape)|((with_reducible show wpList _ _ _ (⟨_,.store 41 _ _,_,_,_,_⟩::_) _ _);refine a0a a0p rfl rfl Z rfl rfl (a1z _ _ _ _ _ _ _) ?_;intro w5 V r2;have c:Ext wr w5:=ExtX.box ((ExtX.refl wr).alloc _) r2 (c1B _);have R:=V.cell 0 rfl;have S:=V.cell 1 rfl;have T:=V.cell 2 rfl;have C:=E.ext c;have O:=mkx QV.mono f c))
   refine(b3y (un X oo) _ _ _ C O).mono ?_;rintro e w7 ⟨A,u7,rfl,x⟩;obtain⟨s7,Y,n7,c7,d7,m7,e7,rfl⟩:=x.shape;have a:=c.trans A;have m:=k.ext0 QC.elem a;have F:=(g.trans a).size;have D:HX X w7:=q.ext a;clear R S T;go_wp2_with (at_builtin;refine a0s (l:=l.take i) a0w rfl QC.elem F D i K.out rfl rfl m (.agg #[.bool s7,.slice Y n7 c7,.slice d7 m7 e7]) v rfl x (by omega) (by omega) ?_;intro U z w9 p B a0)
   have h:=(g.trans a).own m (c1B _) B;rw[t.out]at p;go_roundw
   case rel=>exact⟨i+1,U,z,by go_num,by go_num,by omega,p,h⟩
   case measure=>simp[intOf];omega
  ·have J:i=n:=by omega
   rw[c1D (by rw[r.out];omega)]at k;subst J;go_wp2_with fail
   go_ret
   exact⟨g,oo,b,rfl,k⟩
theorem c0I(X:Nat->Bool)(w:World)(u v:Value)(x y:Rat)(hX:HX X w)(H:QV (mk X w) u x)(I:QV (mk X w) v y):Calls Tryz.prog 163 #[u,v] w (b7z X w (x/y) (e5 (decide (y=0)))):=by
 have a3:=hid H.hq;have a4:=hid I.hq;obtain⟨s1,T,n1,Y,d1,k1,e1,rfl⟩:=H.shape;obtain⟨s2,U,n2,Z,d2,k2,e2,rfl⟩:=I.shape;obtain⟨W,hW,G,A,B,V,hz⟩:=a2p w #[.bool s1,.slice T n1 Y,.slice d1 k1 e1] #[.bool s2,.slice U n2 Z,.slice d2 k2 e2] #[.bool false,.slice none 0 0,.slice none 0 0] 41 41 41;have f:HX (a0f X w.heap.size 3) W:=hX.boxes hz;have m:=QV.mono _ _ _ _ (a0j (nb:=3) G) H;have g:=QV.mono _ _ _ _ (a0j (nb:=3) G) I;obtain⟨b,hb⟩:∃b,w.heap.size=b:=⟨_,rfl⟩;have a0:w.heap.size<=b:=by omega
 rw[hb]at A B V hz f m g;have L:Ext W W.drew:=(ExtX.refl W).drew;have M:HX (a0f X b 3) W.drew:=f;have O:QV (mk (a0f X b 3) W.drew) (.agg #[.bool s1,.slice T n1 Y,.slice d1 k1 e1]) x:=m;have P:QV (mk (a0f X b 3) W.drew) (.agg #[.bool s2,.slice U n2 Z,.slice d2 k2 e2]) y:=g;have o:=A.cell 0 rfl;have p:=A.cell 1 rfl;have r:=A.cell 2 rfl;have s:=B.cell 0 rfl;have t:=B.cell 1 rfl;have z:=B.cell 2 rfl;clear H I;obtain⟨F,c⟩:∃F:Int,e5 (decide (y=0))=F:=⟨_,rfl⟩;obtain⟨q,d⟩:∃q:Rat,x/y=q:=⟨_,rfl⟩;rw[c,d];clear L M O P;go_enter Tryz.func163,Tryz.ntmps163
 go_wp2_with fail
 refine(a7i (a0f X b 3) W _ y f g).mono ?_;rintro e w5 ⟨a,rfl⟩;have j:=A.ext0 a;have k:=B.ext0 a;have C:=V.ext0 a;clear o p r s t z;by_cases i:y=0
 ·have l:Hid ((5:Int)=F):=hid (by rw[<-c,decide_eq_true i];rfl)
  have E:Hid ((0:Rat)=q):=hid (by rw[<-d,i,Rat.div_def,Rat.inv_zero,Rat.mul_zero]);have hI:(y.num.sign==0)=true:=by rw[i];rfl
  generalize y.num.sign=S at*;clear i c d;go_wp2_with ((with_reducible show wpList _ _ _ (⟨_,.store _ _ _,_,_,_,_⟩::_) _ _);refine a0a a0p rfl rfl C rfl rfl (a1z _ _ _ _ _ _ _) ?_;intro w7 R J)
  exact bodyPost_ret (a0J rfl rfl a0p R rfl) rfl ⟨ExtX.box (G.trans a) J (by omega),_,by rw[<-l.out];rfl,by rw[<-E.out];exact QC.zero _⟩
 ·have l:Hid ((0:Int)=F):=hid (by rw[<-c,decide_eq_false i];rfl)
  have hI:(y.num.sign==0)=false:=by
   rw[beq_eq_false_iff_ne];intro h;exact i (Rat.num_eq_zero.1 (Int.sign_eq_zero_iff_zero.1 h))
  have Q:=hid i;have N:=hid d;generalize y.num.sign=S at*;have o:=j.cell 0 rfl;have p:=j.cell 1 rfl;have r:=j.cell 2 rfl;have s:=k.cell 0 rfl;have t:=k.cell 1 rfl;have z:=k.cell 2 rfl;clear i c d;go_wp2_with fail
  refine(b9g (a0f X b 3) w5 _ _ x y (f.ext a) (mkx QV.mono m a) (mkx QV.mono g a) Q.out).mono ?_;rintro e w6 ⟨D,u6,rfl,n⟩;obtain⟨s5,a5,n5,c5,d5,k5,e5,rfl⟩:=n.shape;rw[N.out]at n;have K:=C.ext0 D;clear o p r s t z;go_wp2_with ((with_reducible show wpList _ _ _ (⟨_,.store _ _ _,_,_,_,_⟩::_) _ _);refine a0a a0p rfl rfl K rfl rfl (a1z _ _ _ _ _ _ _) ?_;intro w7 R J)
  have h7:=QC.mono _ _ _ _ a0k (QC.mono _ _ _ _ (a0h J (by omega) (by omega)) n);exact bodyPost_ret (a0J rfl rfl a0p R rfl) rfl ⟨ExtX.box (G.trans (a.trans D)) J (by omega),_,by rw[<-l.out];rfl,h7⟩
end Go.Proofs.YtnnpfhoigmegcaaGreat
namespace Go.Lin
open Go.Lim
structure Mom where
 n:Int
 xx:Mat
 xy:List Rat
 yy:Rat
def shM(m:Mom)(row:List Rat)(v:Rat)(s:Int):Mom:=
 ⟨m.n+s,ofF row.length row.length fun j k=>ent m.xx j k+(s:Rat)*fn row j*fn row k,(List.range row.length).map fun j=>fn m.xy j+(s:Rat)*fn row j*v,m.yy+(s:Rat)*(v*v)⟩
def gmM(x:Mat)(y:List Rat)(c i:Nat):Mom:=⟨(i:Int),gmL x i c,gyL x y i c,sm i fun r=>fn y r*fn y r⟩
theorem a2T{α:Type}{c:Nat}{f g:Nat->α}(h:∀j,j<c->f j=g j):(List.range c).map f=(List.range c).map g:=
 List.map_congr_left fun j a=>h j (List.mem_range.1 a)
theorem b3z{n c:Nat}{f g:F2}(h:Eqm n c f g):ofF n c f=ofF n c g:=
 a2T fun i a=>a2T fun j b=>h i a j b
theorem b5r(x:Mat)(y:List Rat)(c:Nat):gmM x y c 0=⟨0,List.replicate c (List.replicate c 0),List.replicate c 0,0⟩:=by
 have e:∀(α:Type) (a:α),(List.range c).map (fun _=>a)=List.replicate c a:=fun α a=>by simp[List.map_const']
 unfold gmM gmL gyL ofF
 congr 1
 ·rw[<-e,<-e];rfl
 ·rw[<-e];rfl
theorem b5s{x:Mat}{y:List Rat}{n c i:Nat}(hs:Shp n c x)(b:i<n):shM (gmM x y c i) (x.getD i []) (y.getD i 0) 1=gmM x y c (i+1):=by
 have e:(x.getD i []).length=c:=hs.row b;have one:((1:Int):Rat)=1:=rfl;unfold shM gmM;rw[e]
 congr 1
 ·exact b3z fun j a k d=>by
   show ent (gmL x i c) j k+_=gr (i+1) (ent x) j k
   rw[a7Q x i c j a k d]
   show gr i (ent x) j k+((1:Int):Rat)*ent x i j*ent x i k=gr i (ent x) j k+ent x i j*ent x i k
   rw[one];grind
 ·exact a2T fun j a=>by
   show(gyL x y i c).getD j 0+_=gy (i+1) (ent x) (fn y) j
   rw[b3c x y i c a]
   show gy i (ent x) (fn y) j+((1:Int):Rat)*ent x i j*fn y i=gy i (ent x) (fn y) j+ent x i j*fn y i
   rw[one];grind
 ·show sm i (fun r=>fn y r*fn y r)+((1:Int):Rat)*(fn y i*fn y i)=_
  rw[one]
  show _=sm i (fun r=>fn y r*fn y r)+fn y i*fn y i
  grind
end Go.Lin
namespace Go.Rep
open Go.RowKit Go.Lim
def BlR:Mem->Value->Bool->Prop:=fun _ u b=>u=.bool b
theorem BlR.mono:a3H BlR:=fun _ _ _ _ _ h=>h
theorem BlR.elem:Elem BlR 1:=⟨fun _ _ _ _ _ h=>h,by rintro h u x rfl;rfl,by
 rintro h u x rfl c a;simp[a0i,Value.cells]at a;subst a;rfl,Nat.one_pos⟩
theorem BlR.one:a3N BlR:=by rintro h u x rfl;rfl
theorem Sl.bl{h:Mem}{ao:Option Addr}{l:List Bool}(s:Sl BlR 1 h ao l)(i:Nat)(b:i<l.length):h (adr ao i)=some (.bool l[i]):=by
 obtain⟨u,a,rfl⟩:=s.cell BlR.one i b;exact a
def usedL(p:List Nat)(c:Nat):List Bool:=(List.range c).map fun j=>decide (j∈p)
theorem a2h(p:List Nat)(c:Nat):(usedL p c).length=c:=by simp[usedL]
theorem a7q(p:List Nat)(c:Nat):usedL p (c+1)=usedL p c++[decide (c∈p)]:=by simp[usedL,List.range_succ]
def b8y(A:Mem->Value->List (List Rat)->Prop)(B:Mem->Value->List Rat->Prop)(C:Mem->Value->Rat->Prop)(h:Mem)(u:Value)(m:Go.Lin.Mom):Prop:=
 ∃xo xl xc yo yl yc s a n c d k e,u=.agg #[.int .i64 m.n,.slice xo xl xc,.slice yo yl yc,.bool s,.slice a n c,.slice d k e]/\A h (.slice xo xl xc) m.xx/\B h (.slice yo yl yc) m.xy/\C h (.agg #[.bool s,.slice a n c,.slice d k e]) m.yy
def b7O:=b8y MV RV QV
def a8Q:=b8y MC RC QC
theorem b8y.mono{A:Mem->Value->List (List Rat)->Prop}{B:Mem->Value->List Rat->Prop}{C:Mem->Value->Rat->Prop}(j:a3H A)(l:a3H B)(o:a3H C):a3H (b8y A B C):=by
 rintro h x u m b ⟨r,q,p,w,v,t,s,a,n,c,d,k,e,rfl,f,g,i⟩;exact⟨r,q,p,w,v,t,s,a,n,c,d,k,e,rfl,j _ _ _ _ b f,l _ _ _ _ b g,o _ _ _ _ b i⟩
theorem b7O.mono:a3H b7O:=b8y.mono MV.mono RV.mono QV.mono
theorem a8Q.mono:a3H a8Q:=b8y.mono MC.mono RC.mono QC.mono
def BMo(B:Nat)(m:Go.Lin.Mom):Prop:=BM B m.xx/\BR B m.xy/\hq m.yy<=B
theorem a8Q.mv{h:Mem}{u:Value}{m:Go.Lin.Mom}(s:a8Q h u m)(b:BMo 68719476736 m):b7O h u m:=by
 obtain⟨o,l,j,r,q,p,s,a,n,c,d,k,e,rfl,f,g,i⟩:=s;exact⟨o,l,j,r,q,p,s,a,n,c,d,k,e,rfl,f.mv b.1,g.rv b.2.1,i.qv b.2.2⟩
end Go.Rep
namespace Go.Lin
structure Fit where
 rank:Nat
 used:List Bool
 coef:List Rat
 res:List Rat
 rss:Rat
 lev:List Rat
end Go.Lin
namespace Go.Rep
def b7P(h:Mem)(v:Value)(f:Go.Lin.Fit):Prop:=
 ∃uo uc co cl cc ro rl rc s a n c d k e lo ll lc,v=.agg #[.int .i64 (f.rank:Int),.slice uo f.used.length uc,.slice co cl cc,.slice ro rl rc,.bool s,.slice a n c,.slice d k e,.slice lo ll lc]/\f.used.length<=uc/\Sl BlR 1 h uo f.used/\RC h (.slice co cl cc) f.coef/\RC h (.slice ro rl rc) f.res/\QC h (.agg #[.bool s,.slice a n c,.slice d k e]) f.rss/\RC h (.slice lo ll lc) f.lev
theorem b7P.mono:a3H b7P:=by
 rintro h B u f b ⟨A,z,j,i,g,y,x,w,s,a,n,c,d,k,e,lo,v,t,rfl,l,m,o,p,q,r⟩;exact⟨A,z,j,i,g,y,x,w,s,a,n,c,d,k,e,lo,v,t,rfl,l,m.mono BlR.mono b,RC.mono _ _ _ _ b o,RC.mono _ _ _ _ b p,QC.mono _ _ _ _ b q,RC.mono _ _ _ _ b r⟩
open Go.RowKit Go.Lim
theorem a2d{X:Nat->Bool}{w c:World}{g:Nat}(d:Ext w c)(e:w.heap.size<=g):Le (mk X w) (mk (un X (some ⟨g,0,none⟩)) c):=
 a1k d (fun k _ a=>by simp[noY]at a) fun k a hz=>by
  by_cases b:X k=true
  ·exact b
  ·have:g=k:=by simpa[un,b,ob]using hz
   omega
theorem a1m{X:Nat->Bool}{w:World}{g:Nat}(b:HX X w)(d:g<w.heap.size):HX (un X (some ⟨g,0,none⟩)) w:=fun k c=>by
 by_cases a:X k=true
 ·exact b k a
 ·have:g=k:=by simpa[un,a,ob]using c
  omega
section
variable {P:Program} {ops:Array Oper} {Q:Exit->Act->World->Prop} {rest:List Oper} {a:Act} {w:World}
variable {d:Option Tmp} {ty:TypeId} {ps:String} {af:Array Edge}
theorem a0q{o:Oper}{K:Act->World->Prop}{E:Prop}{t:TypeId}{x y:Operand}{n b:Nat}{i e:Array Value}{T:TypeId}(q:o.guard=none)(g:o.op=.store t x y)(m:a1K P t n)(u:a.eval x=.pointer (some ⟨b,0,none⟩))(z:a.eval y=.agg e)(p:Bx w b i T)(f:i.size=n)(h:e.size=n)(c:∀v∈e.toList,v.oneCell'=true)(l:∀d,Bx d b e T->ExtX (ob (some ⟨b,0,none⟩)) w d->K (a.put o.dst undef) d):if Region.wanted o (yielded ops a.tmps)=true then Oper.wp P o a w K Q else E:=by
 have s:Region.wanted o (yielded ops a.tmps)=true:=by simp[Region.wanted,q]
 rw[if_pos s];obtain⟨d,r,j,k⟩:=a5O (P:=P) m p f h c;unfold Oper.wp execOp;rw[g];simp[u,z,Instr.storeAt,Instr.sureAddr,r,Result.andThen];exact l d j k
theorem a1E{t:TypeId}{x y:Operand}{b i:Nat}{e:Array Value}{v:Value}{T:TypeId}(o:TyI P t 1)(z:a.eval x=.pointer (some ⟨b,i,none⟩))(A:a.eval y=v)(s:v.cells=#[v])(c:v.oneCell'=true)(g:Bx w b e T)(l:i<e.size)(K:∀k,Bx k b (e.set i v) T->ExtX (ob (some ⟨b,0,none⟩)) w k->wpList P ops Q rest (a.put d undef) k):wpList P ops Q (⟨d,.store t x y,ty,ps,af,none⟩::rest) a w:=by
 refine wpList_plain rfl fun B f=>?_;obtain⟨ti,r,j⟩:=o;obtain⟨m,n⟩:=a1l g v l;have p:=g.cell i (u:=e[i]) (by simp[l]);have q:=g.frozen i;unfold Oper.wp;subst A;have h:=run_store P w ⟨b,i,none⟩ (a.eval y) .plain c;rw[p,q]at h;simp only[Bool.false_eq_true,if_false]at h;simp[execOp,z,Instr.storeAt,Instr.sureAddr,storeVar,sizeOf,typeInfo,r,j,s,Result.andThen,storeCells,Addr.add_zero',h];exact f _ _ (K _ m n)
theorem a4y{o:Oper}{K:Act->World->Prop}{E:Prop}{t:TypeId}{x y:Operand}{b i:Nat}{d:Array Value}{v:Value}{T:TypeId}(s:o.guard=none)(f:o.op=.store t x y)(p:TyI P t 1)(C:a.eval x=.pointer (some ⟨b,i,none⟩))(D:a.eval y=v)(A:v.cells=#[v])(c:v.oneCell'=true)(e:Bx w b d T)(k:i<d.size)(n:∀j,Bx j b (d.set i v) T->ExtX (ob (some ⟨b,0,none⟩)) w j->K (a.put o.dst undef) j):if Region.wanted o (yielded ops a.tmps)=true then Oper.wp P o a w K Q else E:=by
 have B:Region.wanted o (yielded ops a.tmps)=true:=by simp[Region.wanted,s]
 rw[if_pos B];obtain⟨ti,z,h⟩:=p;obtain⟨l,m⟩:=a1l e v k;have q:=e.cell i (u:=d[i]) (by simp[k]);have r:=e.frozen i;unfold Oper.wp execOp;rw[f];subst D;have g:=run_store P w ⟨b,i,none⟩ (a.eval y) .plain c;rw[q,r]at g;simp only[Bool.false_eq_true,if_false]at g;simp[C,Instr.storeAt,Instr.sureAddr,storeVar,sizeOf,typeInfo,z,h,A,Result.andThen,storeCells,Addr.add_zero',g];exact n _ l m
theorem b7Q{X Z:Nat->Bool}{w a:World}(b:Ext w a)(h:∀k,k<w.heap.size->Z k=true->X k=true):Le (mk X w) (mk Z a):=
 a1k b (fun k _ c=>by simp[noY]at c) h
theorem a4e{X Y Z:Nat->Bool}{w b:World}(c:ExtX Y w b)(e:∀k,Y k=true->Z k=true)(d:∀k,X k=true->Z k=true):Le (mk Z w) (mk X b):=fun a u h=>a1h (fun k _ f=>d k f) a u (a0t c e a u h)
theorem a0R(X:Nat->Bool)(a b:Option Addr):un (un X a) b=un (un X b) a:=by
 funext k;simp only[un];cases X k<;>cases ob a k<;>cases ob b k<;>rfl
theorem a3f{X:Nat->Bool}{w:World}{ao:Option Addr}(b:HX X w)(h:∀k,ob ao k=true->k<w.heap.size):HX (un X ao) w:=fun k c=>by
 by_cases a:X k=true
 ·exact b k a
 ·exact h k (by simpa[un,a]using c)
theorem a7X(X:Nat->Bool):un X none=X:=by funext k;simp[un,ob]
end
end Go.Rep
namespace Go.Proofs.YtnnpfhoigmegcaaGreat
open Go.RowKit Go.Rep
theorem a3E:a1K Tryz.prog 181 6:=by
 have h:(Tryz.prog.info? 181).map (fun i=>(i.zero,i.size,i.bytes))=some (some (.agg #[.int .i64 0,.slice none 0 0,.slice none 0 0,.bool false,.slice none 0 0,.slice none 0 0]),6,112):=by kernel_rfl
 obtain⟨ti,a,_,b,_⟩:=info_parts h;exact⟨_,ti,Tryz.underlying181,a,b⟩
theorem b7R:(Tryz.prog.info? 26).map (fun i=>(i.zero,i.size,i.bytes))=some (some (.slice none 0 0),1,24):=by kernel_rfl
theorem a8R:TyI Tryz.prog 26 1:=let ⟨i,h,_,a,_⟩:=info_parts b7R;⟨i,h,a⟩
theorem b7S:(Tryz.prog.info? 25).map (fun i=>(i.zero,i.size,i.bytes))=some (some (.slice none 0 0),1,24):=by kernel_rfl
theorem b9A:TyI Tryz.prog 25 1:=let ⟨i,h,_,a,_⟩:=info_parts b7S;⟨i,h,a⟩
theorem a2m:a1K Tryz.prog 98 8:=by
 have h:(Tryz.prog.info? 98).map (fun i=>(i.zero,i.size,i.bytes))=some (some (.agg #[.int .i64 0,.slice none 0 0,.slice none 0 0,.slice none 0 0,.bool false,.slice none 0 0,.slice none 0 0,.slice none 0 0]),8,160):=by kernel_rfl
 obtain⟨ti,a,_,b,_⟩:=info_parts h;exact⟨_,ti,Tryz.underlying98,a,b⟩
open Go.Lim
theorem c0J(X:Nat->Bool)(w:World)(u v:Value)(x y:Rat)(Q:HX X w)(i:QV (mk X w) u x)(j:QV (mk X w) v y):Calls Tryz.prog 94 #[u,v] w (b0B w (decide (b1s x y<0))):=by
 have T:=hid i.hq;have U:=hid j.hq;obtain⟨O,B,M,D,F,K,H,rfl⟩:=i.shape;obtain⟨P,C,N,E,G,L,I,rfl⟩:=j.shape;obtain⟨W,V,k,g,h,hz⟩:=a1w w #[.bool O,.slice B M D,.slice F K H] #[.bool P,.slice C N E,.slice G L I] 41 41;have a:HX (a0f X w.heap.size 2) W:=Q.boxes hz;have d:=QV.mono _ _ _ _ (a0j (nb:=2) k) i;have f:=QV.mono _ _ _ _ (a0j (nb:=2) k) j;obtain⟨b,R⟩:∃b,w.heap.size=b:=⟨_,rfl⟩;have S:w.heap.size<=b:=by omega
 rw[R]at g h hz a d f;have m:Ext W W.drew:=(ExtX.refl W).drew;have n:HX (a0f X b 2) W.drew:=a;have o:QV (mk (a0f X b 2) W.drew) (.agg #[.bool O,.slice B M D,.slice F K H]) x:=d;have p:QV (mk (a0f X b 2) W.drew) (.agg #[.bool P,.slice C N E,.slice G L I]) y:=f;have q:=g.cell 0 rfl;have r:=g.cell 1 rfl;have s:=g.cell 2 rfl;have t:=h.cell 0 rfl;have z:=h.cell 1 rfl;have A:=h.cell 2 rfl;clear i j;obtain⟨c,J⟩:∃c:Int,b1s x y=c:=⟨_,rfl⟩;have hq:=b0E (a0f X b 2) W _ _ x y a d f;rw[J]at hq |-;clear m n o p J;go_enter Tryz.func94,Tryz.ntmps94
 go_wp2_with fail
 refine hq.mono ?_;rintro e Y ⟨l,rfl⟩;clear q r s t z A hq;go_wp2_with fail
 go_ret
 exact⟨k.trans l,rfl⟩
theorem b5t(X:Nat->Bool)(w:World)(u v:Value)(x y:Rat)(hX:HX X w)(l:QV (mk X w) u x)(m:QV (mk X w) v y):Calls Tryz.prog 152 #[u,v] w (a1S X w QC (x/y)):=by
 have a3:=hid l.hq;have a4:=hid m.hq;obtain⟨s1,H,n1,L,O,V,R,rfl⟩:=l.shape;obtain⟨s2,I,n2,M,P,Y,S,rfl⟩:=m.shape;obtain⟨W,hW,o,j,k,K,hz⟩:=a2p w #[.bool s1,.slice H n1 L,.slice O V R] #[.bool s2,.slice I n2 M,.slice P Y S] #[.bool false,.slice none 0 0,.slice none 0 0] 41 41 41;have a:HX (a0f X w.heap.size 3) W:=hX.boxes hz;have c:=QV.mono _ _ _ _ (a0j (nb:=3) o) l;have d:=QV.mono _ _ _ _ (a0j (nb:=3) o) m;obtain⟨b,hb⟩:∃b,w.heap.size=b:=⟨_,rfl⟩;have a0:w.heap.size<=b:=by omega
 rw[hb]at j k K hz a c d;have p:Ext W W.drew:=(ExtX.refl W).drew;have r:HX (a0f X b 3) W.drew:=a;have s:QV (mk (a0f X b 3) W.drew) (.agg #[.bool s1,.slice H n1 L,.slice O V R]) x:=c;have t:QV (mk (a0f X b 3) W.drew) (.agg #[.bool s2,.slice I n2 M,.slice P Y S]) y:=d;have z:=j.cell 0 rfl;have A:=j.cell 1 rfl;have B:=j.cell 2 rfl;have C:=k.cell 0 rfl;have D:=k.cell 1 rfl;have E:=k.cell 2 rfl;clear l m;obtain⟨T,g⟩:∃T:Int,e5 (decide (y=0))=T:=⟨_,rfl⟩;obtain⟨q,hq⟩:∃q:Rat,x/y=q:=⟨_,rfl⟩;have hd:=c0l (a0f X b 3) W _ _ x y a c d;rw[g,hq]at hd;rw[hq];clear p r s t g hq;go_enter Tryz.func152,Tryz.ntmps152
 go_wp2_with fail
 refine hd.mono ?_;rintro e F ⟨f,u5,rfl,h⟩;have i:=hid h;obtain⟨s5,J,n5,N,Q,Z,U,rfl⟩:=h.shape;have b5:=K.ext0 f;have n:Ext F (F.alloc (.cells #[.bool s5,.slice J n5 N,.slice Q Z U] 41)):=(ExtX.refl _).alloc _;have G:=Bx.new F #[.bool s5,.slice J n5 N,.slice Q Z U] 41;have p0:=G.cell 0 rfl;have p1:=G.cell 1 rfl;have p2:=G.cell 2 rfl;have b6:=b5.ext0 n;clear z A B C D E hd;go_wp2_with ((with_reducible show wpList _ _ _ (⟨_,.store 41 _ _,_,_,_,_⟩::_) _ _);refine a0a a0p rfl rfl b6 rfl rfl (a1z _ _ _ _ _ _ _) ?_;intro w7 r1 r2)
 have h7:=QC.mono _ _ _ _ a0k (QC.mono _ _ _ _ (a0h r2 (by omega) (by omega)) (mkx QC.mono i.out n));exact bodyPost_ret (a0e rfl rfl a0p r1 rfl) rfl ⟨ExtX.box (o.trans (f.trans n)) r2 (by omega),_,rfl,h7⟩
theorem b0T(X:Nat->Bool)(w:World)(u v:Value)(x y:Rat)(hX:HX X w)(l:QV (mk X w) u x)(m:QV (mk X w) v y):Calls Tryz.prog 78 #[u,v] w (a1S X w QC (x/y)):=by
 have a3:=hid l.hq;have a4:=hid m.hq;obtain⟨s1,H,n1,L,O,V,R,rfl⟩:=l.shape;obtain⟨s2,I,n2,M,P,Y,S,rfl⟩:=m.shape;obtain⟨W,hW,o,j,k,K,hz⟩:=a2p w #[.bool s1,.slice H n1 L,.slice O V R] #[.bool s2,.slice I n2 M,.slice P Y S] #[.bool false,.slice none 0 0,.slice none 0 0] 41 41 41;have a:HX (a0f X w.heap.size 3) W:=hX.boxes hz;have c:=QV.mono _ _ _ _ (a0j (nb:=3) o) l;have d:=QV.mono _ _ _ _ (a0j (nb:=3) o) m;obtain⟨b,hb⟩:∃b,w.heap.size=b:=⟨_,rfl⟩;have a0:w.heap.size<=b:=by omega
 rw[hb]at j k K hz a c d;have p:Ext W W.drew:=(ExtX.refl W).drew;have r:HX (a0f X b 3) W.drew:=a;have s:QV (mk (a0f X b 3) W.drew) (.agg #[.bool s1,.slice H n1 L,.slice O V R]) x:=c;have t:QV (mk (a0f X b 3) W.drew) (.agg #[.bool s2,.slice I n2 M,.slice P Y S]) y:=d;have z:=j.cell 0 rfl;have A:=j.cell 1 rfl;have B:=j.cell 2 rfl;have C:=k.cell 0 rfl;have D:=k.cell 1 rfl;have E:=k.cell 2 rfl;clear l m;obtain⟨T,g⟩:∃T:Int,e5 (decide (y=0))=T:=⟨_,rfl⟩;obtain⟨q,hq⟩:∃q:Rat,x/y=q:=⟨_,rfl⟩;have hd:=c0I (a0f X b 3) W _ _ x y a c d;rw[g,hq]at hd;rw[hq];clear p r s t g hq;go_enter Tryz.func78,Tryz.ntmps78
 go_wp2_with fail
 refine hd.mono ?_;rintro e F ⟨f,u5,rfl,h⟩;have i:=hid h;obtain⟨s5,J,n5,N,Q,Z,U,rfl⟩:=h.shape;have b5:=K.ext0 f;have n:Ext F (F.alloc (.cells #[.bool s5,.slice J n5 N,.slice Q Z U] 41)):=(ExtX.refl _).alloc _;have G:=Bx.new F #[.bool s5,.slice J n5 N,.slice Q Z U] 41;have p0:=G.cell 0 rfl;have p1:=G.cell 1 rfl;have p2:=G.cell 2 rfl;have b6:=b5.ext0 n;clear z A B C D E hd;go_wp2_with ((with_reducible show wpList _ _ _ (⟨_,.store 41 _ _,_,_,_,_⟩::_) _ _);refine a0a a0p rfl rfl b6 rfl rfl (a1z _ _ _ _ _ _ _) ?_;intro w7 r1 r2)
 have h7:=QC.mono _ _ _ _ a0k (QC.mono _ _ _ _ (a0h r2 (by omega) (by omega)) (mkx QC.mono i.out n));exact bodyPost_ret (a0e rfl rfl a0p r1 rfl) rfl ⟨ExtX.box (o.trans (f.trans n)) r2 (by omega),_,rfl,h7⟩
end Go.Proofs.YtnnpfhoigmegcaaGreat
