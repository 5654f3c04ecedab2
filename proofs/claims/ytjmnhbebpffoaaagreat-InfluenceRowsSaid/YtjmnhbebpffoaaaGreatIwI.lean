/- Parts of a proof: each theorem states what it proves, and its conditions. -/
import Derived.Test.YtjmnhbebpffoaaaGreatIwH
import Derived.OrdersHeld
import Derived.StillTail
import Derived.Deep.RegionHeld
import Derived.WalkKit
import Derived.Sort.WalkA
import Derived.Shelf.Abstract
import Derived.Lib.ReflectliteSwap
import Derived.Lib.ReflectliteSlice
import Derived.WalkMore
import Derived.ArgAppend
import Derived.Deep.RegionHeld3
import Derived.Deep.RegionLaw
import Derived.Deep.AppendLies
import Derived.BigRegion
import Derived.Sort.LotA
set_option maxRecDepth 100000
set_option maxHeartbeats 2000000
namespace Go.Proofs.YtjmnhbebpffoaaaGreat
open Go.RowKit
def a7f(m:Mat)(c:Nat):Prop:=∃B,6*B<=68719476736/\∀j,j<=c->HB B (rN m j).1/\hq (rN m j).2.2<=B
theorem b3j{n c:Nat}{m:Mat}(a:Shp n c m)(k:Nat):(rN m k).2.1.length<=n:=(a6d a k).ref.le
theorem b5k{n c B:Nat}{m:Mat}(b:Shp n c m)(h:HB B m)(f:6*(6^n*B)<=68719476736):a7f m c:=
 ⟨6^n*B,f,fun j _=>by
  obtain⟨d,e⟩:=h.rN b j;have a:6^(rN m j).2.1.length*B<=6^n*B:=Nat.mul_le_mul_right _ (Nat.pow_le_pow_right (by decide) (b3j b j));exact⟨d.mono a,c1A e a⟩⟩
theorem b3k(m:Mat)(k:Nat):rN m (k+1)=a6q (rN m k) k:=rfl
theorem a3q{m:Mat}{i:Nat}(h:i<m.length):m.getD i []=m[i]:=by simp[List.getD_eq_getElem?_getD,h]
theorem a9O{m:Mat}{i:Nat}(h:i<m.length)(j:Nat):ent m i j=(m[i]).getD j 0:=by unfold ent;rw[a3q h]
theorem b7I{m:Mat}{n t col:Nat}(c:m.length=n)(h:∀q,t<=q->q<n->ent m q col=0):b2l m t col=none:=by
 unfold b2l;rw[List.findIdx?_eq_none_iff];intro r b;obtain⟨i,a,rfl⟩:=List.getElem_of_mem b;rw[List.length_drop]at a;have:=h (t+i) (by omega) (by omega);rw[a9O (by omega)]at this;simpa using this
theorem b7J{m:Mat}{n t col a:Nat}(e:m.length=n)(h:∀q,t<=q->q<t+a->ent m q col=0)(c:t+a<n)(b:ent m (t+a) col≠0):b2l m t col=some a:=by
 unfold b2l;rw[List.findIdx?_eq_some_iff_getElem];refine⟨by rw[List.length_drop];omega,?_,fun j d=>?_⟩
 ·rw[List.getElem_drop,<-a9O (by omega)];simpa using b
 ·rw[List.getElem_drop,<-a9O (by omega)];simpa using h (t+j) (by omega) (by omega)
theorem b5l(m:Mat)(t col:Nat):out m t col 0=m:=by
 unfold out rows;refine List.ext_getElem (by simp) fun q a b=>?_;rw[List.getElem_mapIdx,if_neg (by omega)]
theorem a4K(m:Mat)(t col s:Nat):(out m t col s).length=m.length:=by simp[out,rows]
theorem a5J{m:Mat}{t col s i:Nat}(h:i<(out m t col s).length)(a:i<m.length):(out m t col s)[i]=if i≠t/\i<s then List.zipWith (· + ·) m[i] ((m.getD t []).map (· * - m[i].getD col 0))else m[i]:=by
 show(m.mapIdx _)[i]'(by simpa using a)=_
 rw[List.getElem_mapIdx]
theorem b7K{m:Mat}{t col s:Nat}(h:s<m.length)(c:s≠t):(out m t col s).set s (List.zipWith (· + ·) m[s] ((m.getD t []).map (· * - m[s].getD col 0)))=out m t col (s+1):=by
 refine List.ext_getElem (by simp[a4K]) fun q d b=>?_;have hq:q<m.length:=by rw[a4K]at b;exact b
 rw[List.getElem_set,a5J b hq];split
 ·subst_vars;rw[if_pos ⟨c,by omega⟩]
 ·rw[a5J (by simpa[a4K]using hq) hq]
  by_cases a:q≠t/\q<s
  ·rw[if_pos a,if_pos ⟨a.1,by omega⟩]
  ·rw[if_neg a,if_neg (by omega)]
theorem b5m{m:Mat}{t col:Nat}:out m t col t=out m t col (t+1):=by
 refine List.ext_getElem (by simp[a4K]) fun q c b=>?_;have hq:q<m.length:=by rw[a4K]at b;exact b
 rw[a5J c hq,a5J b hq];by_cases a:q≠t/\q<t
 ·rw[if_pos a,if_pos ⟨a.1,by omega⟩]
 ·rw[if_neg a,if_neg (by omega)]
theorem b3l{m:Mat}{i k:Nat}(a:i<m.length)(b:k<m.length):(m.set i m[k]).set k m[i]=a1e m i k:=by
 unfold a1e;rw[a3q a,a3q b]
theorem b9v{n c:Nat}{m M:Mat}{P:List Nat}{f:Rat}{j b a:Nat}(k:Shp n c m)(d:rN m j=(M,P,f))(g:P.length=b)(hz:∀q,b<=q->q<b+a->ent M q j=0)(i:b+a<n)(e:ent M (b+a) j≠0):rN m (j+1)=(out (pv (a1e M (b+a) b) b j) b j n,P++[j],(if a=0 then f else - f)*ent (a1e M (b+a) b) b j):=by
 have h:Shp n c M:=by have:=(a6d k j).shp;rw[d]at this;exact this
 subst g;rw[b3k,d];unfold a6q
 dsimp only
 rw[b7J h.1 hz i e]
 dsimp only
 rw[h.1]
theorem b7L{n c:Nat}{m M:Mat}{P:List Nat}{f:Rat}{j d:Nat}(g:Shp n c m)(a:rN m j=(M,P,f))(b:P.length=d)(hz:∀q,d<=q->q<n->ent M q j=0):rN m (j+1)=(M,P,f):=by
 have e:Shp n c M:=by have:=(a6d g j).shp;rw[a]at this;exact this
 subst b;rw[b3k,a];unfold a6q
 dsimp only
 rw[b7I e.1 hz]
theorem b3m{X:Nat->Bool}{b k:Nat}(h:X b=true)(a:ob (some ⟨b,0,none⟩) k=true):X k=true:=by
 have:b=k:=by simpa[ob]using a
 subst this;exact h
section
variable {P:Program} {w:World}
theorem a9P{fn:Func}{a:Array Value}{c d e:Tmp}{t:TypeId}{n b:Nat}{f:Array Value}{T:TypeId}(h:fn.results=#[.tmp d,.tmp e,.cell c t])(i:a.getD c undef=.pointer (some ⟨b,0,none⟩))(j:a1M P t n)(k:Bx w b f T)(g:f.size=n):(results fn a).run P w=.ok (.tuple #[a.getD d undef,a.getD e undef,.agg f]) w:=by
 have l:=a2m (P:=P) j k g;rw[Array.getD_eq_getD_getElem?]at i;simp[results,h,i,asAddr,l]
end
theorem b3n{p:List Nat}{c:Nat}(g:∀i (n:i<p.length),p[i]<c)(l:∀i k (o:i<k) (f:k<p.length),p[i]<p[k]):p.length<=c:=by
 have e:p.Pairwise (· < ·):=List.pairwise_iff_getElem.2 fun i j n b a=>l i j a b;have d:p.Nodup:=e.imp fun h=>Nat.ne_of_lt h;have m:p.length<=(List.range c).length:=d.length_le_of_subset fun j b=>by
  obtain⟨k,f,rfl⟩:=List.getElem_of_mem b;exact List.mem_range.2 (g k f)
 rwa[List.length_range]at m
theorem a7v{n c B:Nat}{m:Mat}(a:Shp n c m)(h:HB B m)(u:c<=4)(q:B<=6541):b2h m c/\a7f m c:=by
 have b:∀j,j<=c->(eN m j).2.1.length<=4:=fun j d=>c1A (b3n (a6c a j).ech.lt (a6c a j).ech.inc) (by omega);have f:∀j,j<=c->(rN m j).2.1.length<=4:=fun j d=>c1A (b3n (a6d a j).ref.lt (a6d a j).ref.inc) (by omega);have l:∀k,k<=4->5^k<=625:=fun k e=>c1A (a6t 5 (by omega) e) (by decide);have s:∀k,k<=4->7^k<=2401:=fun k e=>c1A (a6t 7 (by omega) e) (by decide);have r:∀k,k<=4->6^k<=1296:=fun k e=>c1A (a6t 6 (by omega) e) (by decide);refine⟨⟨1500625*B,by omega,fun j d=>(h.eN a j).mono (Nat.mul_le_mul_right _ (c1A (l _ (b j d)) (by decide))),fun t i=>(((h.eN a c).dN (a6c a c).shp (a6c a c).ech t i)).mono ?_⟩,⟨1296*B,by omega,fun j d=>?_⟩⟩
 ·rw[<-Nat.mul_assoc]
  refine Nat.mul_le_mul_right _ ?_;exact Nat.mul_le_mul (s t (c1A i (b c (c1B _)))) (l _ (b c (c1B _)))
 ·obtain⟨o,p⟩:=h.rN a j
  have g:=Nat.mul_le_mul_right B (r _ (f j d));exact⟨o.mono g,c1A p g⟩
theorem a3r{n c B:Nat}{m:Mat}(e:Shp n c m)(h:HB B m)(d:n<=4)(a:B<=6541):b2h m c/\a7f m c:=by
 have b:=b9r d;have f:6^n<=1296:=c1A (Nat.pow_le_pow_right (by omega) d) (by decide);have g:=Nat.mul_le_mul b a;have i:=Nat.mul_le_mul f a;exact⟨b7c e h (by omega),b5k e h (by omega)⟩
theorem b3o{n c B:Nat}{m:Mat}(a:Shp n c m)(h:HB B m)(b:n<=4):HB (1296*B) (a0J m c).1:=by
 rw[(b0p a).1];refine(h.rN a c).1.mono (Nat.mul_le_mul_right _ ?_);exact c1A (a6t 6 (by omega) (c1A (b3j a c) b)) (by decide)
theorem b1E{n B:Nat}{f:Nat->Rat}(h:∀i,i<n->hq (f i)<=B):hq (sm n f)<=1+n*(B+1):=by
 induction n with
 |zero=>unfold sm;rw[a0U];omega
 |succ n ih=>
  unfold sm;have h1:=ih fun i hi=>h i (by omega);have h2:=a7p (sm n f) (f n);have h3:=h n (by omega);have e:(n+1)*(B+1)=n*(B+1)+(B+1):=Nat.succ_mul _ _;omega
theorem b3p{l:List Rat}{B:Nat}(h:BR B l)(a:1<=B)(i:Nat):hq (fn l i)<=B:=a8L h a i
theorem a8R{l m:List Rat}{c B C:Nat}(f:l.length=c)(a:BR B l)(b:BR C m)(d:1<=B)(e:1<=C):hq (a2S l m)<=1+c*(B+C+1):=by
 rw[b3f f];refine b1E fun i g=>c1A (hq_mul _ _) ?_;have:=a8L a d i;have:=a8L b e i;omega
theorem b9w{x:Mat}{n B:Nat}(h:HB B x)(i j:Nat):hq (gr n (ent x) i j)<=1+n*(2*B+1):=b1E fun r _=>c1A (hq_mul _ _) (by have:=h r i;have:=h r j;omega)
theorem c0D{x:Mat}{y:List Rat}{n B:Nat}(h:HB B x)(a:BR B y)(i:Nat):hq (gy n (ent x) (fn y) i)<=1+n*(2*B+1):=b1E fun r _=>c1A (hq_mul _ _) (by have:=h r i;have:=b3p a h.pos r;omega)
theorem a5m{n B:Nat}(_:n<=8)(a:B<=510/\n*(2*B+1)<=6540):1+n*(2*B+1)<=6541:=by
 have:=a.2;omega
theorem b7M{n j B:Nat}(h:B<=510/\n*(2*B+1)<=6540)(a:j<=n):B<=510/\j*(2*B+1)<=6540:=⟨h.1,c1A (Nat.mul_le_mul_right _ a) h.2⟩
theorem b3q{x:Mat}{n c B:Nat}(h:HB B x)(e:n<=8)(a:B<=510/\n*(2*B+1)<=6540):HB 6541 (gmL x n c):=fun i j=>by
 by_cases b:i<c
 ·by_cases d:j<c
  ·rw[a8b x n c i b j d];exact c1A (b9w h i j) (a5m e a)
  ·rw[a1Y (a3h x n c) (.inr (by omega)),a0U];decide
 ·rw[a1Y (a3h x n c) (.inl (by omega)),a0U];decide
theorem b3r{x:Mat}{y:List Rat}{n c B:Nat}(h:HB B x)(d:BR B y)(b:n<=8)(a:B<=510/\n*(2*B+1)<=6540):BR 6541 (gyL x y n c):=fun q hq=>by
 obtain⟨i,_,rfl⟩:=List.mem_map.1 hq;exact c1A (c0D h d i) (a5m b a)
theorem b3s{m:Mat}{b:List Rat}{n c B:Nat}(a:Shp n c m)(h:HB B m)(g:BR B b)(i:n<=4):BR (1296*B) (b6j (a0J (a2Z m b n) (c+1)).1 (a0J (a2Z m b n) (c+1)).2 c):=c0C fun x e=>by
 obtain⟨_,f,_⟩:=a1f (a2u (b:=b) a);have d:=b3o (a2u a) (b0P a h g) i;rw[a9I]at e;rw[b0A f x e];unfold b2s;split
 ·exact d _ _
 ·rw[a0U];exact d.pos
theorem a8d{x:Mat}{y:List Rat}{n c B:Nat}(h:HB B x)(e:BR B y)(b:n<=8)(d:c<=4)(a:B<=510/\n*(2*B+1)<=6540):BR 8500000 (a1I x y n c):=fun q hq=>
 c1A (b3s (a3h x n c) (b3q h b a) (b3r h e b a) d q hq) (by decide)
theorem b9x{l:List Rat}{B i:Nat}(h:BR B l)(a:i<l.length):hq l[i]<=B:=h _ (c1E a)
theorem b9y{x:Mat}{y b:List Rat}{n c B C:Nat}(k:Shp n c x)(h:BM B x)(l:BR B y)(j:BR C b)(e:1<=B)(f:1<=C):BR (B+c*(B+C+1)+2) (a4r x y b):=fun q hq=>by
 obtain⟨i,a,rfl⟩:=List.getElem_of_mem hq;have d:i<x.length:=by unfold a4r at a;rw[List.length_zipWith]at a;omega
 have g:i<y.length:=by unfold a4r at a;rw[List.length_zipWith]at a;omega
 rw[a6F a d g];have m:=a3J y[i] (a2S x[i] b);have o:=b9x l g;have p:=a8R (k.2 _ (c1E d)) (h _ (c1E d)) j e f;omega
theorem a9Q{x:Mat}{y b:List Rat}{n c B:Nat}(g:Shp n c x)(h:BM B x)(i:BR B y)(e:BR 8500000 b)(a:1<=B)(f:c<=4)(d:B<=510/\n*(2*B+1)<=6540):BR 34100000 (a4r x y b):=fun q hq=>by
 have j:=b9y g h i e a (by decide) q hq;have:=Nat.mul_le_mul f (show B+8500000+1<=8500511 by have:=d.1;omega);have:=d.1;omega
theorem b9z{l:List Rat}(h:BR 34100000 l)(a:l.length<=8):hq (a2S l l)<=600000000:=by
 have b:=a8R rfl h h (by decide) (by decide);have:=Nat.mul_le_mul a (c1B (34100000+34100000+1));omega
theorem b3t{x:Mat}{p:List Nat}{B:Nat}(h:BM B x)(a:1<=B):BM B (pkL x p):=fun r b q hq=>by
 obtain⟨s,c,rfl⟩:=List.mem_map.1 b;obtain⟨j,_,rfl⟩:=List.mem_map.1 hq;exact a8L (h s c) a j
theorem a8e{u:Mat}{n m B:Nat}(h:HB B u)(d:n<=8)(a:B<=510/\n*(2*B+1)<=6540):HB 6541 (a1N u n m):=fun i j=>by
 by_cases b:i<m
 ·by_cases c:j<m
  ·rw[a8O u n m i b j c];exact c1A (b9w h i j) (a5m d a)
  ·rw[a1Y (a0D u n m) (.inr (by omega)),a0U];decide
 ·rw[a1Y (a0D u n m) (.inl (by omega)),a0U];decide
theorem a6k{m:Mat}{n B:Nat}(b:Shp n n m)(h:HB B m):HB B (a1h m n):=fun i j=>by
 have a:=h.pos;by_cases c:i<n
 ·by_cases d:j<2*n
  ·rw[a3p b i c j d]
   split
   ·exact h i j
   ·split
    ·have:hq (1:Rat)<=1:=by decide+kernel
     omega
    ·rw[a0U];exact a
  ·rw[a1Y (a1j b) (.inr (by omega)),a0U];exact a
 ·rw[a1Y (a1j b) (.inl (by omega)),a0U];exact a
theorem b7N{m:Mat}{n B:Nat}(a:Shp n n m)(h:HB B m)(d:n<=4):HB (1296*B) (a2z m n):=fun i j=>by
 have b:=b3o (a1j a) (a6k a h) d;by_cases c:i<n
 ·rw[b0S a i c j];exact b _ _
 ·rw[a1Y (a2f a) (.inl (by omega)),a0U];exact b.pos
theorem a9R{u:Mat}{n m B:Nat}(h:HB B u)(c:n<=8)(b:m<=4)(a:B<=510/\n*(2*B+1)<=6540):BM 8500000 (a2z (a1N u n m) m):=fun r d q hq=>
 c1A (a5H (b7N (a0D u n m) (a8e h c a) b) r d q hq) (by decide)
theorem b3u{m:Mat}{v:List Rat}{n c B C:Nat}(e:Shp n c m)(h:BM B m)(f:BR C v)(b:1<=B)(d:1<=C):BR (1+c*(B+C+1)) (a2w m v):=fun q hq=>by
 obtain⟨r,a,rfl⟩:=List.mem_map.1 hq;exact a8R (e.2 r a) (h r a) f b d
theorem a9S{u:Mat}{n m B:Nat}(d:BM B u)(e:n<=8)(c:m<=4)(a:1<=B)(b:B<=510/\n*(2*B+1)<=6540){r:List Rat}(f:r∈u):BR 34100000 (a2w (a2z (a1N u n m) m) r):=fun q hq=>by
 have g:=b3u (a2f (a0D u n m)) (a9R (a6C d a) e c b) (d r f) (by decide) a q hq;have:=Nat.mul_le_mul c (show 8500000+B+1<=8500511 by have:=b.1;omega);omega
theorem b9A{u:Mat}{n m B:Nat}(g:Shp n m u)(e:BM B u)(f:n<=8)(d:m<=4)(a:1<=B)(c:B<=510/\n*(2*B+1)<=6540):BR 140000000 (a5y u n m):=fun q hq=>by
 obtain⟨r,b,rfl⟩:=List.mem_map.1 hq;have h:=a8R (g.2 r b) (e r b) (a9S e f d a c b) a (by decide);have:=Nat.mul_le_mul d (show B+34100000+1<=34100511 by have:=c.1;omega);omega
def a1P{α:Type}(l:List α)(i:Nat):List α:=l.take i++l.drop (i+1)
theorem a3G{α:Type}{l:List α}{i:Nat}(h:i<l.length):(a1P l i).length=l.length - 1:=by simp[a1P];omega
theorem b5n{x:Mat}{n c i:Nat}(a:Shp (n+1) c x)(d:i<=n):Shp n c (a1P x i):=⟨by rw[a3G (by rw[a.1];omega),a.1];rfl,fun r b=>by
 unfold a1P at b;rcases List.mem_append.1 b with h|h
 ·exact a.2 r (List.mem_of_mem_take h)
 ·exact a.2 r (List.mem_of_mem_drop h)⟩
def b1F(l:List Rat):Rat:=sm l.length (fn l)
def srt(l:List Rat):List Rat:=l.mergeSort fun a b=>decide (a<=b)
theorem a8f(l:List Rat):(srt l).Perm l:=List.mergeSort_perm _ _
theorem a8g(l:List Rat):(srt l).length=l.length:=(a8f l).length_eq
theorem b3v(l:List Rat):(srt l).Pairwise (· <= ·):=by
 have:=List.pairwise_mergeSort (le:=fun(a b:Rat)=>decide (a<=b)) (fun a b c d e=>by simp only[decide_eq_true_eq]at*;exact Rat.le_trans d e) (fun a b=>by simp only[Bool.or_eq_true,decide_eq_true_eq];exact Rat.le_total) l;exact this.imp fun h=>by simpa using h
theorem b0V{s l:List Rat}(e:s.Perm l)(f:s.Pairwise (· <= ·)):s=srt l:=
 List.Perm.eq_of_pairwise (le:=fun a b=>a<=b) (fun _ _ _ _ c d=>Rat.le_antisymm c d) f (b3v l) (e.trans (a8f l).symm)
def rkA(k t:Int)(n:Nat):Nat:=if k=1 then 0 else if k=2 then(n+1)/2 - 1 else if k=3 then n/2 else if k=4 then(n+1)/2 - 1 else t.toNat
def rkB(k t:Int)(n:Nat):Nat:=if k=1 then n else if k=2 then(n+1)/2 else if k=3 then n/2+1 else if k=4 then n/2+1 else n - t.toNat
def a5n(k t:Int):Prop:=1<=k/\k<=5/\0<=t/\(k=5\/t=0)
def a6H(k t:Int)(n:Nat):Prop:=1<=n/\(k≠5\/t<=((n - 1)/2:Nat))
theorem c0E{k t:Int}{n:Nat}(h:a5n k t)(a:a6H k t n):rkA k t n<rkB k t n/\rkB k t n<=n:=by
 obtain⟨d,e,f,g⟩:=h;obtain⟨b,c⟩:=a;unfold rkA rkB
 repeat' split
 all_goals omega
def a8p(s:List Rat)(a b:Nat):List Rat:=(s.drop a).take (b - a)
theorem b5o{s:List Rat}{a b:Nat}(h:b<=s.length):(a8p s a b).length=b - a:=by simp[a8p];omega
def a5o(k t:Int)(l:List Rat):Rat:=b1F (a8p (srt l) (rkA k t l.length) (rkB k t l.length))/(((rkB k t l.length - rkA k t l.length:Nat):Int):Rat)
structure Pc where
 lo:Option Rat
 hi:Option Rat
 a:Rat
 b:Rat
def a4i(f:Rat->Rat)(p q:Rat):Rat:=(f q - f p)/(q - p)
def a5p(f:Rat->Rat)(p q:Rat):Rat:=f p - a4i f p q*p
end Go.Proofs.YtjmnhbebpffoaaaGreat
namespace Go
section
variable {P:Program} {ops:Array Oper} {Q:Exit->Act->World->Prop} {md:Region.Mode} {S:World->Prop} {n:Nat}
def a1q(P:Program)(md:Region.Mode)(ops:Array Oper)(Q:Exit->Act->World->Prop)(S:World->Prop)(n:Nat):Nat->Array Bool->Act->World->Prop
 |0,listed,a,w=>Region.ready md ops listed= []/\Q .normal a w
 |fuel+1,listed,a,w=>
  (Region.ready md ops listed= []->Q .normal a w)/\
  ∀i∈Region.ready md ops listed,wpOp P ops Q i (fun a' w'=>(i<n->S w')/\a1q P md ops Q S n fuel (listed.setIfInBounds i true) a' w') a w
theorem a7w:∀(fuel:Nat) (listed:Array Bool) (a:Act) (w:World),a1q P md ops Q S n fuel listed a w->wpAny P md ops Q fuel listed a w
 |0,_,_,_,h=>h
 |fuel+1,_,_,_,h=>⟨h.1,fun i hi=>wpOp_mono (fun a' w' h'=>a7w fuel _ a' w' h'.2) (h.2 i hi)⟩
theorem a6a{i:Nat}{oi:Oper}{v:Value}(hs:Region.sinkB md ops n=true)(hc:Region.chainB md ops n=true)(hn:n<ops.size)(hin:i<n)(hi:ops[i]? =some oi)(hsel:∀(j:Nat) (o:Oper) cs b,ops[j]? =some o->o.op≠ .select cs b)(hQ:∀c a w,Q (.panic c) (a.put oi.dst v) w->Q (.panic c) a w):∀(fuel:Nat) (listed:Array Bool) (a:Act) (w:World),HeadInv md ops n listed-> (∀j oj,ops[j]? =some oj->j≠i->listed.getD j true=false->(∀e∈oj.after,Region.binds md e=true->e.on≠i)->oi.apart ops oj=true)-> i∈Region.ready md ops listed->YieldsIf P ops S oi v a->S w-> a1q P md ops Q S n fuel (listed.setIfInBounds i true) (a.put oi.dst v) w->a1q P md ops Q S n (fuel+1) listed a w:=by
 intro fuel
 induction fuel with
 |zero=>
  intro listed a w _ _ hr hy hS H;refine⟨fun h=>(by rw[h]at hr;cases hr),fun j hj=>?_⟩;by_cases hji:j=i
  ·subst hji;exact hy.wpOp hi hS ⟨fun _=>hS,H⟩
  ·have:=ready_mono hj hji
   rw[H.1]at this;cases this
 |succ fuel ih=>
  intro listed a w inv hfree hr hy hS H;refine⟨fun h=>(by rw[h]at hr;cases hr),fun j hj=>?_⟩;by_cases hji:j=i
  ·subst hji;exact hy.wpOp hi hS ⟨fun _=>hS,H⟩
  ·have hjn:j<n:=by
    rcases Nat.lt_or_ge j n with h|h
    ·exact h
    ·exact absurd hj (tail_waits hs hc hn inv (n - i) i rfl hin (mem_ready.1 hr).1 j h)
   have h1:=H.2 j (ready_mono hj hji);obtain⟨hjun,oj,hoj,hall⟩:=mem_ready.1 hj;have hnot:∀e∈oj.after,Region.binds md e=true->e.on≠i:=fun e he hb heq=>by
    have h1:=hall e he hb;have h0:=(mem_ready.1 hr).1;rw[heq]at h1;rcases Nat.lt_or_ge i listed.size with h'|h'
    ·simp[h']at h0 h1;rw[h0]at h1;cases h1
    ·simp[Array.getElem?_eq_none h']at h1
   have h2:=wpOp_putIf hoj (hfree j oj hoj hji hjun hnot) (fun cs b=>hsel i oi cs b hi) (fun cs b=>hsel j oj cs b hoj) hQ hy h1;have hfree':∀k ok,ops[k]? =some ok->k≠i->(listed.setIfInBounds j true).getD k true=false->
     (∀e∈ok.after,Region.binds md e=true->e.on≠i)->oi.apart ops ok=true:=fun k ok hk hki hun hno=>by
    refine hfree k ok hk hki ?_ hno;by_cases hjk:j=k
    ·subst hjk;exact hjun
    ·rw[getD_set_ne true hjk]at hun;exact hun
   refine wpOp_mono (fun a' w' h3=>⟨h3.2.1,ih (listed.setIfInBounds j true) a' w' (inv.set hj hjn) hfree' (ready_mono hr (Ne.symm hji)) h3.1 (h3.2.1 hjn) ?_⟩) h2;rw[Array.setIfInBounds_comm _ _ hji];exact h3.2.2
def b7O(md:Region.Mode)(ops:Array Oper)(n:Nat)(listed:Array Bool):Bool:=
 decide (listed.size=ops.size)&&
 ((List.range ops.size).all fun j=> !listed.getD j false||(match ops[j]? with|some o=>o.after.all fun e=> !Region.binds md e||listed.getD e.on false|none=>true))&&
 ((List.range ops.size).all fun t=>decide (t<n)|| !listed.getD t true)
theorem a8S{a:Array Bool}(h:b7O md ops n a=true):HeadInv md ops n a:=by
 unfold b7O at h;simp only[Bool.and_eq_true,decide_eq_true_eq]at h;obtain⟨⟨i,k⟩,l⟩:=h;refine⟨i,fun j oj g p e o m=>?_,fun t q d=>?_⟩
 ·have c:j<ops.size:=(Array.getElem?_eq_some_iff.1 g).1
  have b:=List.all_eq_true.1 k j (List.mem_range.2 c);rw[p,g]at b;simp only[Bool.not_true,Bool.false_or]at b;have f:=Array.all_eq_true_iff_forall_mem.1 b e o;rw[m]at f;simpa using f
 ·have b:=List.all_eq_true.1 l t (List.mem_range.2 d)
  simp only[Bool.or_eq_true,decide_eq_true_eq,Bool.not_eq_true']at b;rcases b with b|b
  ·omega
  ·exact b
def b1G(md:Region.Mode)(ops:Array Oper)(n i:Nat)(listed:Array Bool):Bool:=
 decide (i<n)&&b7O md ops n listed&&Region.free md ops listed i&&(Region.ready md ops listed).contains i
def a8T(md:Region.Mode)(ops:Array Oper)(n:Nat):Bool:=Region.sinkB md ops n&&Region.chainB md ops n&&decide (n<ops.size)&&Region.noSelect ops
theorem a9T{i:Nat}{oi:Oper}{v:Value}{d:Nat}{b:Array Bool}{a:Act}{w:World}(e:Shut (a8T md ops n=true))(g:ops[i]? =some oi)(f:b1G md ops n i b=true)(s:∀c a w,Q (.panic c) (a.put oi.dst v) w->Q (.panic c) a w)(t:S w)(u:Region.wanted oi (yielded ops a.tmps)=true)(x:∀w,S w->(execOp a.eval oi).run P w=.ok (.value v) w)(h:a1q P md ops Q S n d (b.setIfInBounds i true) (a.put oi.dst v) w):a1q P md ops Q S n (d+1) b a w:=by
 unfold b1G at f;simp only[Bool.and_eq_true,decide_eq_true_eq]at f;obtain⟨⟨⟨m,o⟩,q⟩,r⟩:=f;have e:=e.out;unfold a8T at e;simp only[Bool.and_eq_true,decide_eq_true_eq]at e;obtain⟨⟨⟨j,k⟩,l⟩,p⟩:=e;exact a6a j k l m g (Region.noSelect_spec p) s d b a w (a8S o) (Region.free_spec g q) (by simpa using r) (.inl ⟨u,x⟩) t h
theorem a1d{i:Nat}{o:Oper}{c:Nat}{b:Array Bool}{a:Act}{w:World}(k:Region.ready md ops b= [i])(p:ops[i]? =some o)(h:∀d:Act->World->Prop,Shut (∀a w,S w->(S w->a1q P md ops Q S n c (b.setIfInBounds i true) a w)->d a w)->if Region.wanted o (yielded ops a.tmps)=true then Oper.wp P o a w d Q else d (a.put o.dst undef) w):a1q P md ops Q S n (c+1) b a w:=by
 refine⟨fun e=>(by rw[k]at e;cases e),fun j g=>?_⟩;rw[k]at g;have:j=i:=by simpa using g
 subst this;exact wpOp_step p (fun d l=>h d (fun a w f m=>l a w ⟨fun _=>f,m f⟩))
theorem a1E{i j:Nat}{oi oj:Oper}{d:Nat}{b:Array Bool}{a:Act}{w:World}(m:Region.ready md ops b= [i,j])(q:ops[i]? =some oi)(r:ops[j]? =some oj)(o:∀c:Act->World->Prop,Shut (∀a w,S w->(S w->a1q P md ops Q S n d (b.setIfInBounds i true) a w)->c a w)->if Region.wanted oi (yielded ops a.tmps)=true then Oper.wp P oi a w c Q else c (a.put oi.dst undef) w)(p:∀c:Act->World->Prop,Shut (∀a w,S w->(S w->a1q P md ops Q S n d (b.setIfInBounds j true) a w)->c a w)->if Region.wanted oj (yielded ops a.tmps)=true then Oper.wp P oj a w c Q else c (a.put oj.dst undef) w):a1q P md ops Q S n (d+1) b a w:=by
 refine⟨fun l=>(by rw[m]at l;cases l),fun k f=>?_⟩;rw[m]at f;rcases List.mem_cons.1 f with rfl|f
 ·exact wpOp_step q (fun c g=>o c (fun a w e h=>g a w ⟨fun _=>e,h e⟩))
 ·obtain rfl:k=j:=by simpa using f
  exact wpOp_step r (fun c g=>p c (fun a w e h=>g a w ⟨fun _=>e,h e⟩))
theorem a9U{i:Nat}{o:Oper}{fuel:Nat}{listed:Array Bool}{a:Act}{w:World}(hr:Region.ready md ops listed= [i])(ho:ops[i]? =some o)(hin:n<=i)(hd:Region.ready md ops (listed.setIfInBounds i true)= [])(h:∀K':Act->World->Prop,Shut (∀a w,Q .normal a w->K' a w)->if Region.wanted o (yielded ops a.tmps)=true then Oper.wp P o a w K' Q else K' (a.put o.dst undef) w):a1q P md ops Q S n (fuel+1) listed a w:=by
 refine⟨fun h0=>(by rw[hr]at h0;cases h0),fun j hj=>?_⟩;rw[hr]at hj;have:j=i:=by simpa using hj
 subst this;refine wpOp_step ho (fun K' hK=>h K' (fun a w hq=>hK a w ⟨fun hlt=>absurd hlt (Nat.not_lt.2 hin),?_⟩));cases fuel with
 |zero=>exact⟨hd,hq⟩
 |succ f=>exact⟨fun _=>hq,by rw[hd];simp⟩
theorem ks(i:Nat){d:Option Tmp}{f:Op}{ty:TypeId}{ps:String}{af:Array Edge}{g:Option (Nat×Bool)}{c:Nat}{b:Array Bool}{a:Act}{w:World}(h:∀e:Act->World->Prop,Shut (∀a w,S w->(S w->a1q P md ops Q S n c (b.setIfInBounds i true) a w)->e a w)->if Region.wanted ⟨d,f,ty,ps,af,g⟩ (yielded ops a.tmps)=true then Oper.wp P ⟨d,f,ty,ps,af,g⟩ a w e Q else e (a.put d undef) w)(j:ops[i]? =some ⟨d,f,ty,ps,af,g⟩:=by rfl)(k:Region.ready md ops b= [i]:=by kernel_rfl):a1q P md ops Q S n (c+1) b a w:=a1d k j h
theorem kl(i:Nat){d:Option Tmp}{j:Op}{ty:TypeId}{ps:String}{af:Array Edge}{g:Option (Nat×Bool)}{c:Nat}{b:Array Bool}{a:Act}{w:World}(h:∀e:Act->World->Prop,Shut (∀a w,Q .normal a w->e a w)->if Region.wanted ⟨d,j,ty,ps,af,g⟩ (yielded ops a.tmps)=true then Oper.wp P ⟨d,j,ty,ps,af,g⟩ a w e Q else e (a.put d undef) w)(k:ops[i]? =some ⟨d,j,ty,ps,af,g⟩:=by rfl)(l:Region.ready md ops b= [i]:=by kernel_rfl)(f:n<=i:=by decide)(hd:Region.ready md ops (b.setIfInBounds i true)= []:=by kernel_rfl):a1q P md ops Q S n (c+1) b a w:=a9U l k f hd h
theorem kcn{K:Act->World->Prop}{c:Nat}{b e:Array Bool}{a d:Act}{w:World}(g:Shut (∀a w,S w->(S w->a1q P md ops Q S n c b a w)->K a w))(i:S w)(h:S w->a1q P md ops Q S n c e d w)(k:b=e:=by first|(simp only[c1G,c1H,c1I];rfl)|rfl)(j:a=d:=by first|(simp only[Act.put,c1G,c1H,c1I];rfl)|rfl):K a w:=
 g.out _ _ i fun f=>by rw[k,j];exact h f
theorem a0n{id:Nat}{a:Act}{w:World}(n:Nat)(S:World->Prop)(d:P.follows .mixedOrders=true)(b:a8T .any ops n=true)(c:S w.drew)(h:S w.drew->Shut (a8T .any ops n=true)->a1q P .any ops Q S n ops.size (Array.replicate ops.size false) a w.drew):(Code.region id ops true).wp P Q a w:=
 wp_region_any d (a7w _ _ _ _ (h c b))
end
end Go
namespace Go
section
variable {P:Program} {ops:Array Oper} {Q:Exit->Act->World->Prop} {md:Region.Mode} {S:World->Prop} {n:Nat}
theorem a9V{i:Nat}{oi:Oper}{d:Nat}{b:Array Bool}{a:Act}{w:World}(e:Shut (a8T md ops n=true))(g:ops[i]? =some oi)(f:b1G md ops n i b=true)(s:∀c a w,Q (.panic c) (a.put oi.dst undef) w->Q (.panic c) a w)(t:S w)(u:Region.wanted oi (yielded ops a.tmps)=false)(h:a1q P md ops Q S n d (b.setIfInBounds i true) (a.put oi.dst undef) w):a1q P md ops Q S n (d+1) b a w:=by
 unfold b1G at f;simp only[Bool.and_eq_true,decide_eq_true_eq]at f;obtain⟨⟨⟨m,o⟩,q⟩,r⟩:=f;have e:=e.out;unfold a8T at e;simp only[Bool.and_eq_true,decide_eq_true_eq]at e;obtain⟨⟨⟨j,k⟩,l⟩,p⟩:=e;exact a6a j k l m g (Region.noSelect_spec p) s d b a w (a8S o) (Region.free_spec g q) (by simpa using r) (.inr ⟨u,rfl⟩) t h
end
end Go
namespace Go
section
variable {P:Program} {ops:Array Oper} {Q:Exit->Act->World->Prop} {md:Region.Mode} {S:World->Prop} {n:Nat}
theorem kt(i:Nat){d:Option Tmp}{j:Op}{ty:TypeId}{ps:String}{af:Array Edge}{g:Option (Nat×Bool)}{v:Value}{e:Nat}{b l:Array Bool}{a k:Act}{w:World}(o:Shut (a8T md ops n=true))(h:a1q P md ops Q S n e l k w)(s:ops[i]? =some ⟨d,j,ty,ps,af,g⟩:=by rfl)(m:b1G md ops n i b=true:=by kernel_rfl)(q:S w:=by assumption)(u:Region.wanted ⟨d,j,ty,ps,af,g⟩ (yielded ops a.tmps)=true:=by rfl)(x:∀w,S w->(execOp a.eval ⟨d,j,ty,ps,af,g⟩).run P w=.ok (.value v) w:=by
   intro w f
   (try dsimp only at f)
   go_simp
   all_goals with_reducible rfl)
  (p:∀c a w,Q (.panic c) (a.put d v) w->Q (.panic c) a w:=by exact fun _ _ _ h=>h)
  (t:b.setIfInBounds i true=l:=by first|(simp only[c1G,c1H,c1I];rfl)|rfl)
  (r:a.put d v=k:=by simp only[Act.put,c1G,c1H,c1I];rfl):a1q P md ops Q S n (e+1) b a w:=
 a9T o s m p q u x (by rw[t,r];exact h)
theorem ku(i:Nat){d:Option Tmp}{k:Op}{ty:TypeId}{ps:String}{af:Array Edge}{g:Option (Nat×Bool)}{e:Nat}{b j:Array Bool}{a f:Act}{w:World}(m:Shut (a8T md ops n=true))(h:a1q P md ops Q S n e j f w)(r:ops[i]? =some ⟨d,k,ty,ps,af,g⟩:=by rfl)(l:b1G md ops n i b=true:=by kernel_rfl)(p:S w:=by assumption)(t:Region.wanted ⟨d,k,ty,ps,af,g⟩ (yielded ops a.tmps)=false:=by rfl)(o:∀c a w,Q (.panic c) (a.put d undef) w->Q (.panic c) a w:=by exact fun _ _ _ h=>h)(s:b.setIfInBounds i true=j:=by first|(simp only[c1G,c1H,c1I];rfl)|rfl)(q:a.put d undef=f:=by simp only[Act.put,c1G,c1H,c1I];rfl):a1q P md ops Q S n (e+1) b a w:=
 a9V m r l o p t (by rw[s,q];exact h)
end
end Go
namespace Go.Proofs.YtjmnhbebpffoaaaGreat
open Go.RowKit
def a3s(k t:Int):Bool:=decide (1<=k)&&decide (k<=5)&&decide (0<=t)&&(decide (k=5)||decide (t=0))
def a7g(k t n:Int):Bool:=decide (1<=n)&&(decide (k≠5)||decide (t<=(n - 1)/2))
theorem b1H{k t:Int}:a3s k t=true↔a5n k t:=by
 unfold a3s a5n;simp only[Bool.and_eq_true,Bool.or_eq_true,decide_eq_true_eq,and_assoc]
theorem a8U{k t:Int}{n:Nat}:a7g k t n=true↔a6H k t n:=by
 unfold a7g a6H;simp only[Bool.and_eq_true,Bool.or_eq_true,decide_eq_true_eq];constructor
 ·rintro ⟨b,a⟩;exact⟨by omega,a.imp id fun h=>by omega⟩
 ·rintro ⟨b,a⟩;exact⟨by omega,a.imp id fun h=>by omega⟩
theorem c0F(w:World)(k t n:Int)(p: -9223372036854775808<=n)(q:n<=9223372036854775807):Calls Tryz.prog 85 #[.agg #[.int .i64 k,.int .i64 t],.int .i64 n] w (fun e r=>Ext w r/\e=.returned (.tuple #[.bool (a3s k t),.bool (a7g k t n)])):=by
 obtain⟨W,z,h,i,hz⟩:=a0Y w #[.int .i64 k,.int .i64 t] 52;obtain⟨b,o⟩:=c1F w.heap.size;rw[o]at i hz;have A:=i.cell 0 rfl;have B:=i.cell 1 rfl;go_enter Tryz.func85,Tryz.ntmps85
 go_upto_region 1 with fail
 (try simp only[Act.put])
 go_cut [4]from 6 to 28 (fun v s=>v=.bool (a3s k t)/\s=W)
 case first=>
  by_cases f:1<=k
  ·by_cases g:k<=5
   ·by_cases j:0<=t
    ·by_cases y:k=5
     ·go_wp2_with fail
      go_meet
      case rel=>exact⟨congrArg Value.bool (by rw[Bool.eq_iff_iff];simp[a3s];try omega),rfl⟩
     ·go_wp2_with fail
      go_meet
      case rel=>exact⟨congrArg Value.bool (by rw[Bool.eq_iff_iff];simp[a3s];try omega),rfl⟩
    ·go_wp2_with fail
     go_meet
     case rel=>exact⟨congrArg Value.bool (by rw[Bool.eq_iff_iff];simp[a3s];try omega),rfl⟩
   ·go_wp2_with fail
    go_meet
    case rel=>exact⟨congrArg Value.bool (by rw[Bool.eq_iff_iff];simp[a3s];try omega),rfl⟩
  ·go_wp2_with fail
   go_meet
   case rel=>exact⟨congrArg Value.bool (by rw[Bool.eq_iff_iff];simp[a3s];try omega),rfl⟩
 case rest=>
  obtain⟨rfl,rfl⟩:=hcut;have c:=c1L wc;obtain⟨l,d⟩:=c1F (a3s k t);rw[d];have a:=hid d;clear d;by_cases f:1<=n
  ·have x:IntKind.i64.wrap (n - 1)=n - 1:=IntWalk.i64_in _ (by omega)
   by_cases g:k=5
   ·subst g
    have u:Int.tdiv (n - 1) 2=(n - 1)/2:=Int.tdiv_eq_ediv_of_nonneg (by omega);by_cases j:t<=(n - 1)/2
    ·go_upto_region 2 with fail
     go_region
     go_wp2_with fail
     go_ret2
     exact⟨h.trans c,by rw[a.out];simp[a7g,f,j]⟩
    ·go_upto_region 2 with fail
     go_region
     go_wp2_with fail
     go_ret2
     exact⟨h.trans c,by rw[a.out];simp[a7g,f,j]⟩
   ·have m:(k !=(5:Int))=true:=by simpa using g
    go_upto_region 2 with fail
    go_region
    go_wp2_with fail
    go_ret2
    exact⟨h.trans c,by rw[a.out];simp[a7g,f,g]⟩
  ·go_upto_region 2 with fail
   go_region
   go_wp2_with fail
   go_ret2
   exact⟨h.trans c,by rw[a.out];simp[a7g];omega⟩
theorem b9B(w:World)(k t:Int)(n:Nat)(C:n<=1000000)(p:a5n k t)(o:a6H k t n):Calls Tryz.prog 93 #[.agg #[.int .i64 k,.int .i64 t],.int .i64 (n:Int)] w (fun e q=>Ext w q/\e=.returned (.tuple #[.int .i64 ((rkA k t n:Int)+1),.int .i64 (rkB k t n:Int)])):=by
 obtain⟨W,B,a,c,hz⟩:=a0Y w #[.int .i64 k,.int .i64 t] 52;obtain⟨b,l⟩:=c1F w.heap.size;rw[l]at c hz;have D:=c.cell 0 rfl;have E:=c.cell 1 rfl;obtain⟨x,y,z,A⟩:=p;obtain⟨s,u⟩:=o;have r:IntKind.i64.wrap ((n:Int)+1)=(n:Int)+1:=IntWalk.i64_in _ (by omega);have f:Int.tdiv ((n:Int)+1) 2=((n:Int)+1)/2:=Int.tdiv_eq_ediv_of_nonneg (by omega);have g:Int.tdiv (n:Int) 2=(n:Int)/2:=Int.tdiv_eq_ediv_of_nonneg (by omega);have h:IntKind.i64.wrap ((n:Int)/2+1)=(n:Int)/2+1:=IntWalk.i64_in _ (by omega);have m:k=1\/k=2\/k=3\/k=4\/k=5:=by omega
 rcases m with rfl|rfl|rfl|rfl|rfl
 ·go_enter Tryz.func93,Tryz.ntmps93
  go_wp2_with fail
  go_ret2
  exact⟨a,by simp[rkA,rkB]⟩
 ·go_enter Tryz.func93,Tryz.ntmps93
  go_wp2_with fail
  go_ret2
  exact⟨a,by simp[rkA,rkB];omega⟩
 ·go_enter Tryz.func93,Tryz.ntmps93
  go_wp2_with fail
  go_ret2
  exact⟨a,by simp[rkA,rkB]⟩
 ·go_enter Tryz.func93,Tryz.ntmps93
  go_wp2_with fail
  go_ret2
  exact⟨a,by simp[rkA,rkB];omega⟩
 ·have v:t<=((n - 1)/2:Nat):=by omega
  have i:IntKind.i64.wrap (t+1)=t+1:=IntWalk.i64_in _ (by omega);have j:IntKind.i64.wrap ((n:Int) - t)=(n:Int) - t:=IntWalk.i64_in _ (by omega);have d:=c1L W;go_enter Tryz.func93,Tryz.ntmps93
  go_upto_region 9 with fail
  go_region
  go_wp2_with fail
  go_ret2
  exact⟨a.trans d,by simp[rkA,rkB];omega⟩
section
open Go.Sort Go.Lib
variable {α:Type} [Inhabited α]
structure SortBy (lt:α->α->Bool) (g:Nat) (lb:Array Value) (sf:Nat) (sb:Array Value) (Y:Nat->Bool) (n:Nat) (I:Array α->World->Prop):Prop where
 enter:∀args w,(callFunc g args).run Tryz.prog w=.ok (.enter g args) w
 ext:∀d w w',I d w->Ext w w'->I d w'
 low:∀d w,I d w->∀k,Y k=true->k<w.heap.size
 less:∀d w,I d w->d.size=n->∀i j:Nat,i<n->j<n->Calls Tryz.prog g (#[.int .i64 i,.int .i64 j]++lb) w fun e w'=>e=.returned (.bool (lt d[i]! d[j]!))/\Ext w w'
 swap:∀d w,I d w->d.size=n->∀i j:Nat,i<n->j<n->i≠j->∃w',(callFunc sf (#[.int .i64 i,.int .i64 j]++sb)).run Tryz.prog w=.ok (.value (.tuple #[])) w'/\I (swp d i j) w'/\ExtX Y w w'
theorem a7x{lt:α->α->Bool}{g:Nat}{lb:Array Value}{sf:Nat}{sb:Array Value}{Y:Nat->Bool}{n:Nat}{I:Array α->World->Prop}(S:SortBy lt g lb sf sb Y n I)(d:Array α)(w:World)(hI:I d w)(hn:d.size=n)(a b:Nat)(hab:a<=b)(hb:b<=n)(hsz:n<4611686018427387904):Calls Tryz.prog 183 #[.agg #[.func (.func g) #[] lb,.func (.func sf) #[] sb],.int .i64 a,.int .i64 b] w fun e w'=>e=.returned (.tuple #[])/\I (Sort.insertionSort lt d a b) w'/\(Sort.insertionSort lt d a b).size=n/\ExtX Y w w':=by
 obtain⟨W1,hW1⟩:=c1F (w.alloc (.cells #[.func (.func g) #[] lb,.func (.func sf) #[] sb] 152));have hE1:Ext w W1:=by rw[<-hW1];exact(ExtX.refl w).alloc _
 have hI1:=S.ext _ _ _ hI hE1;have hY:Y w.heap.size=false:=by
  cases h:Y w.heap.size with
  |false=>rfl
  |true=>exact absurd (S.low _ _ hI _ h) (Nat.lt_irrefl _)
 have c0:W1.cell? ⟨w.heap.size,0,none⟩=some (.func (.func g) #[] lb):=by rw[<-hW1];exact a4o 0 rfl
 have c1:W1.cell? ⟨w.heap.size,1,none⟩=some (.func (.func sf) #[] sb):=by rw[<-hW1];exact a4o 1 rfl
 obtain⟨B,hB⟩:=c1F w.heap.size;have cc:Hid (∀wr,ExtX Y W1 wr->wr.cell? ⟨B,0,none⟩=some (.func (.func g) #[] lb)/\wr.cell? ⟨B,1,none⟩=some (.func (.func sf) #[] sb)):=hid fun wr h=>by
  rw[hB]at c0 c1 hY;exact⟨h.cellY c0 hY,h.cellY c1 hY⟩
 have HE1:=hid hE1;have eg:=S.enter;clear c0 c1 hY hI hE1;go_enter Tryz.func183,Tryz.ntmps183
 go_wp2
 (try rw[hW1])
 (try rw[hB])
 go_loopw [6] (fun vi wr=>∃(i:Nat) (dk:Array α),vi=.int .i64 i/\a<i/\i<=b+1/\dk.size=n/\I dk wr/\ExtX Y W1 wr/\insOuter lt a b i dk=insOuter lt a b (a+1) d) (fun vi _=>b+1 - (intOf vi).toNat)
 case atStart=>exact⟨a+1,d,by go_num,by omega,by omega,hn,hI1,ExtX.refl _,rfl⟩
 case round=>
  obtain⟨i,dk,rfl,hai,hib,hsk,hIk,hEk,hO⟩:=hrel;have HO:Hid (insOuter lt a b i dk=insOuter lt a b (a+1) d):=hO;clear hO
  go_wp2
  ·go_loopw [7] (fun vj wr2=>∃(j:Nat) (dj:Array α),vj=.int .i64 j/\a<=j/\j<=i/\dj.size=n/\I dj wr2/\ExtX Y W1 wr2/\insInner lt a j dj=insInner lt a i dk) (fun vj _=>(intOf vj).toNat)
   case atStart=>exact⟨i,dk,rfl,by omega,c1B _,hsk,hIk,hEk,rfl⟩
   case round=>
    rename_i wr0 _ _ wr
    obtain⟨j,dj,rfl,haj,hji,hsj,hIj,hEj,hIn⟩:=hrel;have hlt:i<b:=by assumption
    obtain⟨c0,c1⟩:=cc.out wr hEj;have HI:Hid (insInner lt a j dj=insInner lt a i dk):=hIn;clear hIn;have out:(j<=a\/lt dj[j]! dj[j - 1]! =false)->∀w',Ext wr w'->∃(i':Nat) (dk':Array α),Value.int .i64 ((i:Int)+1)=.int .i64 (i':Nat)/\a<i'/\i'<=b+1/\dk'.size=n/\I dk' w'/\ExtX Y W1 w'/\insOuter lt a b i' dk'=insOuter lt a b (a+1) d:=fun hs w' hE'=>
     ⟨i+1,dj,by go_num,by omega,by omega,hsj,S.ext _ _ _ hIj hE',hEj.trans (ExtX.of hE'),by rw[<-HO.out,insOuter_go _ _ _ _ _ hlt,<-HI.out,insInner_stop _ _ _ _ hs]⟩
    have OUT:Hid _:=out;clear out;by_cases hja:a<j
    ·have hl:=S.less dj wr hIj hsj j (j - 1) (by omega) (by omega)
     rw[show(((j - 1:Nat):Int))=(j:Int) - 1 by omega]at hl;cases hlv:lt dj[j]! dj[j - 1]! with
     |true=>
      rw[hlv]at hl;go_wp2_with (go_at_fn g;refine hl.mono ?_;rintro e w' ⟨rfl,hE'⟩;have c3:=hE'.cell c1)
      obtain⟨ws,hs,hIs,hEs⟩:=S.swap dj w' (S.ext _ _ _ hIj hE') hsj j (j - 1) (by omega) (by omega) (by omega);rw[show(((j - 1:Nat):Int))=(j:Int) - 1 by omega]at hs;rw[hs,Oper.upon_value]
      go_wp2
      go_roundw
      case rel=>
       (repeat apply Exists.intro)
       refine⟨⟨j - 1,swp dj j (j - 1),by congr 1<;>omega,by omega,by omega,by rw[size_swp];exact hsj,hIs,(hEj.trans (ExtX.of hE')).trans hEs,?_⟩,by rw[decide_eq_true hlt,show((j - 1:Nat):Int)=(j:Int) - 1 by omega]⟩;rw[<-HI.out,insInner_go lt a j dj hja hlv]
      case measure=>simp[intOf];omega
     |false=>
      rw[hlv]at hl;go_wp2_with (go_at_fn g;refine hl.mono ?_;rintro e w' ⟨rfl,hE'⟩)
      go_roundw
      case rel=>exact OUT.out (Or.inr hlv) _ hE'
      case measure=>simp[intOf];omega
    ·go_wp2
     go_roundw
     case rel=>exact OUT.out (Or.inl (by omega)) _ (ExtX.refl _)
     case measure=>simp[intOf];omega
  ·have hge:¬i<b:=by assumption
   go_end0
   have hfin:Sort.insertionSort lt d a b=dk:=by unfold Sort.insertionSort;rw[<-HO.out,insOuter_stop _ _ _ _ _ hge]
   exact⟨rfl,by rw[hfin];exact hIk,by rw[hfin];exact hsk,(ExtX.of HE1.out).trans hEk⟩
end
section
open Go.Sort Go.Lib
variable {α:Type} [Inhabited α]
theorem b1I{lt:α->α->Bool}{g:Nat}{lb:Array Value}{sf:Nat}{sb:Array Value}{Y:Nat->Bool}{n:Nat}{I:Array α->World->Prop}(S:SortBy lt g lb sf sb Y n I)(d:Array α)(w:World)(hI:I d w)(hn:d.size=n)(h20:n<=20):Calls Tryz.prog 138 #[.agg #[.func (.func g) #[] lb,.func (.func sf) #[] sb],.int .i64 n] w fun e w'=>e=.returned (.tuple #[])/\I (Sort.insertionSort lt d 0 n) w'/\(Sort.insertionSort lt d 0 n).size=n/\ExtX Y w w':=by
 obtain⟨W1,hW1⟩:=c1F (w.alloc (.cells #[.func (.func g) #[] lb,.func (.func sf) #[] sb] 152));have hE1:Ext w W1:=by rw[<-hW1];exact(ExtX.refl w).alloc _
 have hI1:=S.ext _ _ _ hI hE1;have hY:Y w.heap.size=false:=by
  cases h:Y w.heap.size with
  |false=>rfl
  |true=>exact absurd (S.low _ _ hI _ h) (Nat.lt_irrefl _)
 have c0:W1.cell? ⟨w.heap.size,0,none⟩=some (.func (.func g) #[] lb):=by rw[<-hW1];exact a4o 0 rfl
 have c1:W1.cell? ⟨w.heap.size,1,none⟩=some (.func (.func sf) #[] sb):=by rw[<-hW1];exact a4o 1 rfl
 obtain⟨B,hB⟩:=c1F w.heap.size;have HE1:=hid hE1;have hi:=a7x S d W1 hI1 hn 0 n (Nat.zero_le _) (c1B _) (by omega);rw[hB]at c0 c1 hY;clear hI hE1 hI1;go_enter Tryz.func138,Tryz.ntmps138
 go_wp2
 (try rw[hW1])
 (try rw[hB])
 rcases Nat.lt_or_ge n 20 with h|h
 ·refine wp_loop_rounds 1 ?_
  rw[rounds_succ];go_wp2_with (go_at_call 183;refine hi.mono ?_;rintro e w1 ⟨rfl,hI2,hs2,hE2⟩)
  refine wp_loop_rounds 1 ?_;rw[rounds_succ]
  go_wp2
  all_goals first|(exfalso;omega)|(go_end0;exact⟨rfl,hI2,hs2,(ExtX.of HE1.out).trans hE2⟩)
 ·have hn20:n=20:=by omega
  subst hn20;refine wp_loop_rounds 2 ?_;rw[rounds_succ];go_wp2_with (go_at_call 183;refine hi.mono ?_;rintro e w1 ⟨rfl,hI2,hs2,hE2⟩;have c2:=hE2.cellY c0 hY;have c3:=hE2.cellY c1 hY)
  have hi2:=a7x S _ w1 hI2 hs2 20 20 (c1B _) (c1B _) (by omega);rw[rounds_succ];go_wp2_with (go_at_call 183;refine hi2.mono ?_;rintro e w2 ⟨rfl,hI3,hs3,hE3⟩)
  refine wp_loop_rounds 1 ?_;rw[rounds_succ]
  go_wp2
  have hst:Sort.insertionSort lt (Sort.insertionSort lt d 0 20) 20 20=Sort.insertionSort lt d 0 20:=by
   rw[show Sort.insertionSort lt (Sort.insertionSort lt d 0 20) 20 20=insOuter lt 20 20 21 (Sort.insertionSort lt d 0 20)from rfl,insOuter_stop _ _ _ _ _ (by omega)]
  rw[hst]at hI3
  all_goals first|(exfalso;omega)|(go_end0;exact⟨rfl,hI3,hs2,(ExtX.of HE1.out).trans (hE2.trans hE3)⟩)
theorem a2U(t e:TypeId)(i d:TypeInfo)(k:Tryz.prog.info? t=some i)(hd:i.desc=.slice e)(q:Tryz.prog.packed t=false)(l:Tryz.prog.info? e=some d)(h:Nat)(m:∀w,(Extern.Rtype.kind e).run Tryz.prog w=.ok h w)(p:Option Addr)(n c:Nat)(_:n<4611686018427387904)(f:Nat)(C:Tryz.prog.funcs.findIdx? (·.name== "internal/reflectlite" ++ ".Swapper$" ++toString (swapperK n d h))=some f)(g:Nat)(v:Array Value)(w:World)(R:World->Prop)(r:∀x,Ext w x->Calls Tryz.prog 138 #[.agg #[.func (.func g) #[] v,.func (.func f) #[] (if swapperK n d h<=2 then#[]else#[.slice p n c,typeHandle Tryz.prog e])],.int .i64 n] x fun e j=>e=.returned (.tuple #[])/\R j):Calls Tryz.prog 87 #[.iface t (.slice p n c),.func (.func g) #[] v] w fun e j=>e=.returned (.tuple #[])/\R j:=by
 have u:=run_valueOf_slice (P:=Tryz.prog) t e i k hd p n c w;have s:=fun w=>run_swapper_slice (P:=Tryz.prog) t e i d k hd l h m p n c f C w;have b:=fun a w A=>run_valueLen_slice (P:=Tryz.prog) t e i k hd q a p n c w A;generalize (if swapperK n d h<=2 then(#[]:Array Value)else#[.slice p n c,typeHandle Tryz.prog e])=B at s r;simp only[typeHandle]at u b
 (first|rw[show Tryz.prog.globals.size=1 by kernel_rfl]at b|rw[show Tryz.prog.globals.size=0 by kernel_rfl]at b|rw[show Tryz.prog.globals.size=2 by kernel_rfl]at b|rw[show Tryz.prog.globals.size=3 by kernel_rfl]at b)
 have y:Ext w ((w.alloc (.cells #[.slice p n c] t)).alloc (.cells #[.pointer (some ⟨Tryz.prog.globals.size,t,none⟩),.pointer (some ⟨w.heap.size,0,none⟩),.int .u64 151] 146)):=((ExtX.refl w).alloc _).alloc _;have o:=r _ y;go_enter Tryz.func87,Tryz.ntmps87
 go_wp2
 rw[run_callFunc_extern Tryz.func136 (by kernel_rfl) (by kernel_rfl) (by kernel_rfl) (e:=fun args=>Extern.ReflectliteValue.unpack (args.getD 0 (.tuple #[]))) (by kernel_rfl),
  show Sem.run Tryz.prog ((fun args:Array Value=>Extern.ReflectliteValue.unpack (args.getD 0 (.tuple #[]))) #[.iface t (.slice p n c)]) w=_ from u]
 simp only[Result.andThen];rw[Oper.upon_value]
 go_wp2
 rw[run_callFunc_extern Tryz.func137 (by kernel_rfl) (by kernel_rfl) (by kernel_rfl) (e:=Extern.ReflectliteSwapper.swapper "internal/reflectlite" (Extern.ReflectliteValue.valueError "Swapper")) (by kernel_rfl),s];simp only[Result.andThen];rw[Oper.upon_value]
 go_wp2
 rw[run_callFunc_extern Tryz.func139 (by kernel_rfl) (by kernel_rfl) (by kernel_rfl) (e:=Extern.ReflectliteValue.method (Extern.ReflectliteValue.valueError "reflectlite.Value.Len" 0) Extern.ReflectliteValue.len) (by kernel_rfl),
  b _ _ (by simp)]
 simp only[Result.andThen];rw[Oper.upon_value];go_wp2_with (go_at_call 138;refine o.mono ?_;rintro e j ⟨rfl,z⟩)
 go_end0
 exact⟨rfl,z⟩
end
section
open Go.Extern Go.Extern.Rtype Go.Lib
section
variable {P:Program} {α:Type} {R:Mem->Value->α->Prop} {sz:Nat} {X:Nat->Bool} {base:Nat} {e:TypeId} {w:World} {ao:Option Addr} {cap:Nat} {l:List α}
theorem OL.run_load{t:TypeId}{ti:TypeInfo}(B:P.info? t=some ti)(n:ti.size=sz)(f:∀w,(isAgg t).run P w=.ok true w)(_:Elem R sz)(A:∀h u x,R h u x->∃d,u=.agg d)(h:OL R sz X base e w ao cap l)(i:Nat)(r:i<l.length):∃u,(loadVar t (adr ao (i*sz))).run P w=.ok u w/\R (mk (un X ao) w) u l[i]:=by
 obtain⟨o,C,p,_,z,q⟩:=h.cells;have b:i<o.length:=by omega
 obtain⟨d,c⟩:=A _ _ _ (q i b r);have g:d.size=sz:=by have:=p _ (c1E b);rw[c]at this;exact this
 have y:=run_loadCells_list (P:=P) w (adr ao (i*sz)) d.toList (fun j v s=>by
  rw[a3y];have k:j<sz:=by rw[<-g];exact(List.getElem?_eq_some_iff.1 s).1
  have a:=a3b o i j b p k;rw[c]at a;have m:(a0g (.agg d))[j]? =some v:=by simpa[a0g,Value.cells]using s
  rw[m]at a;exact(z _ _ a).1)
 refine⟨o[i],?_,q i b r⟩;rw[c];simp only[Array.length_toList,g,Array.toArray_toList]at y;simp[loadVar,f,sizeOf,typeInfo,B,n,y,Result.andThen]
theorem OL.run_swap{t:TypeId}{ti:TypeInfo}(g:Bool)(k:P.info? t=some ti)(a:ti.size=sz)(d:∀w,(isAgg t).run P w=.ok true w)(f:Elem R sz)(q:∀h u x,R h u x->∃B,u=.agg B)(h:OL R sz X base e w ao cap l)(i j:Nat)(m:i<l.length)(r:j<l.length)(c:Nat):∃o,(ReflectliteSwapper.swap g #[.int .i64 i,.int .i64 j,.slice ao l.length c,typeHandle P t]).run P w=.ok (.tuple #[]) o/\OL R sz X base e o ao cap ((l.set i l[j]).set j l[i])/\ExtX (ob ao) w o:=by
 obtain⟨u,s,K⟩:=h.run_load (P:=P) k a d f q i m;obtain⟨v,y,rv⟩:=h.run_load (P:=P) k a d f q j r;obtain⟨M,z,I,p⟩:=h.run_store (P:=P) k a f i m v l[j] rv;have n:=f.mono _ _ _ _ (a3U p (.inl rfl)) K;obtain⟨L,A,J,D⟩:=I.run_store (P:=P) k a f j (by simpa using r) u l[i] n;refine⟨L,?_,J,p.trans D⟩;rcases h.form with⟨rfl,rfl,rfl⟩|⟨b,C,rfl,_⟩
 ·simp at m
 have E:¬((i:Int)<0):=by omega
 have F:¬((i:Int)>=l.length):=by omega
 have G:¬((j:Int)<0):=by omega
 have H:¬((j:Int)>=l.length):=by omega
 simp only[adr,Option.getD_some,Nat.zero_add]at s y z A;rw[rl_swap];cases g<;>simp[E,F,G,H,ofHandle,handleType,typeHandle,ReflectliteSwapper.exchange,sizeOf,typeInfo,k,a,Addr.add_lit,s,y,z,A,Result.andThen]
end
theorem a7y{α:Type}[Inhabited α](d:Array α)(i j:Nat)(c:i<d.toList.length)(e:j<d.toList.length):(Go.Sort.swp d i j).toList=(d.toList.set i d.toList[j]).set j d.toList[i]:=by
 have a:i<d.size:=by simpa using c
 have b:j<d.size:=by simpa using e
 unfold Go.Sort.swp;simp[a,b]
end
section
variable {P:Program} {ops:Array Oper} {Q:Exit->Act->World->Prop} {rest:List Oper} {a:Act} {w:World}
variable {α:Type} {R:Mem->Value->α->Prop} {sz:Nat} {X:Nat->Bool} {base:Nat} {e:TypeId} {ao:Option Addr} {cap:Nat} {l:List α}
variable {d:Option Tmp} {ty:TypeId} {ps:String} {af:Array Edge}
theorem b7P{t:TypeId}{x y:Operand}{A:Addr}{v v0:Value}(g:TyI P t 1)(l:a.eval x=.pointer (some A))(m:a.eval y=v)(k:v.cells=#[v])(b:v.oneCell'=true)(h:w.cell? A=some v0)(i:w.frozen? A=false)(K:wpList P ops Q rest (a.put d undef) (w.setCell A v)):wpList P ops Q (⟨d,.store t x y,ty,ps,af,none⟩::rest) a w:=by
 refine wpList_plain rfl fun n c=>?_;obtain⟨ti,j,f⟩:=g;unfold Oper.wp;subst m;have e:=run_store P w A (a.eval y) .plain b;rw[h,i]at e;simp only[Bool.false_eq_true,if_false]at e;simp[execOp,l,Instr.storeAt,Instr.sureAddr,storeVar,sizeOf,typeInfo,j,f,k,Result.andThen,storeCells,Addr.add_zero',e];exact c _ _ K
end
section
variable {P:Program} {ops:Array Oper} {Q:Exit->Act->World->Prop} {rest:List Oper} {a:Act} {w:World}
variable {α:Type} {R:Mem->Value->α->Prop} {sz:Nat} {X:Nat->Bool} {e:TypeId}
variable {d:Option Tmp} {ty:TypeId} {ps:String} {af:Array Edge}
theorem a9W{t i:Nat}{z:Value}{s x:Operand}{h:Option Addr}{r m:Nat}(T:SliceT P t e sz i z)(q:z.cells.size=sz)(B:Elem R sz)(C:∀k,X k=true->k<w.heap.size)(n:List α)(E:a.eval s=.slice none 0 0)(F:a.eval x=.slice h m r)(D:m=n.length)(p:Sl R sz (mk X w) h n)(f:m*i<=140737488355328)(j:m<=9223372036854775807)(K:∀c b g,OL R sz X w.heap.size e g c b n->Ext w g->wpList P ops Q rest (a.put d (.slice c m b)) g):wpList P ops Q (⟨d,.call {callee:= .builtin .append,args:=#[s,x],argTypes:=#[t,t]},ty,ps,af,none⟩::rest) a w:=by
 subst D;have u:OL R sz X w.heap.size e w none 0 []:=OL.nil _ _ _ _ _ _;have o:un X none=X:=by funext k;simp[un,ob]
 refine a3m (l:=[]) T q B (c1B _) C n E F u (by rw[o];exact p) (by simpa using f) (by simpa using j) ?_;intro c b g v y G;have A:Ext w g:=y.weaken fun k _ _=>by simp[ob]
 exact K c b g v A
end
theorem b1J{n c:Nat}{m:Mat}(b:Shp n c m)(g:n<=96)(f:1<=c)(d:c<=96)(e:0<n):a0A m=true/\colsL m=c:=by
 have a:colsL m=c:=by
  unfold colsL;rw[List.getD_eq_getElem?_getD,List.getElem?_eq_getElem (by rw[b.1];exact e)];exact b.2 _ (c1E _)
 refine⟨a1O.2 ⟨by rw[b.1];exact g,fun i h=>?_⟩,a⟩;rw[a,b.2 _ (c1E _)];exact⟨f,d,rfl⟩
def tbm(tb:Nat):Nat->Bool:=fun k=>k==tb
theorem b5p(a:Nat):tbm a a=true:=by simp[tbm]
theorem a3t{a k:Nat}(h:k≠a):tbm a k=false:=by simpa[tbm]using h
def a0L(X:Nat->Bool)(tb:Nat)(w:World):Prop:=
 X tb=true/\∃(lo:Option Addr) (l:List Int) (cap at_:Nat),w.heap[tb]? =some (.cells #[.slice lo l.length cap,.int .i64 (at_:Int)] 61 (0,0))/\l.length<=400/\at_<=l.length/\Sl (a1U .i64) 1 (mk X w) lo l
theorem a4j{X:Nat->Bool}{a:Nat}(h:X a=true):∀k,tbm a k=true->X k=true:=fun k b=>by
 have:k=a:=by simpa[tbm]using b
 rw[this];exact h
theorem a0L.lt{X:Nat->Bool}{a:Nat}{w:World}(h:a0L X a w):a<w.heap.size:=by
 obtain⟨_,lo,l,cap,at_,b,_⟩:=h;by_cases c:a<w.heap.size
 ·exact c
 ·rw[Array.getElem?_eq_none (by omega)]at b;simp at b
theorem a0L.ext{X:Nat->Bool}{b:Nat}{w d:World}(h:a0L X b w)(c:Ext w d):a0L X b d:=by
 have a:=h.lt;obtain⟨j,lo,l,cap,at_,e,f,g,i⟩:=h;exact⟨j,lo,l,cap,at_,by rw[c.block b a rfl];exact e,f,g,i.mono (a1U.mono _) (a0k c)⟩
theorem a0L.extY{X Y:Nat->Bool}{a:Nat}{w d:World}(h:a0L X a w)(c:ExtX Y w d)(m:∀k,Y k=true->X k=true)(n:Y a=false):a0L X a d:=by
 have b:=h.lt;obtain⟨j,lo,l,cap,at_,e,f,g,i⟩:=h;exact⟨j,lo,l,cap,at_,by rw[c.block a b n];exact e,f,g,i.mono (a1U.mono _) (a0s c m)⟩
def b7Q(X:Nat->Bool)(tb:Nat)(w:World)(n:Int)(e:Ending)(w':World):Prop:=
 ExtX (tbm tb) w w'/\a0L X tb w'/\∃m:Nat,e=.returned (.int .i64 (m:Int))/\((m:Int)<n\/m=0)
theorem b5q(v n:Int)(w:World)(k:1<=n)(l:n<=1099511627776):Calls Tryz.prog 53 #[.int .i64 v,.int .i64 n] w (fun e g=>e=.returned (.int .i64 (v%n))/\g=w):=by
 have f: -n<v.tmod n:=Int.lt_tmod_of_pos v (by omega);have d:(v.tmod n<0->v.tmod n+n=v%n)/\(0<=v.tmod n->v.tmod n=v%n):=by
  have h:=Int.tmod_eq_emod (a:=v) (b:=n);have i:=Int.emod_nonneg v (show n≠0 by omega);have j:=Int.emod_lt_of_pos v (show 0<n by omega);split at h<;>omega
 have c:=hid d;clear d;go_enter Tryz.func53,Tryz.ntmps53
 go_wp2_with fail
 ·go_ret
  exact⟨a0N (c.out.1 (by assumption)),rfl⟩
 ·go_ret
  exact⟨a0N (c.out.2 (by assumption)),rfl⟩
theorem a0L.cells{X:Nat->Bool}{b:Nat}{w:World}(h:a0L X b w):∃(lo:Option Addr) (l:List Int) (cap at_:Nat),w.cell? ⟨b,0,none⟩=some (.slice lo l.length cap)/\w.cell? ⟨b,1,none⟩=some (.int .i64 (at_:Int))/\w.frozen? ⟨b,1,none⟩=false/\l.length<=400/\at_<=l.length/\Sl (a1U .i64) 1 (mk X w) lo l/\ ∀a:Nat,a<=l.length->a0L X b (w.setCell ⟨b,1,none⟩ (.int .i64 (a:Int)))/\ExtX (tbm b) w (w.setCell ⟨b,1,none⟩ (.int .i64 (a:Int)))/\ (w.setCell ⟨b,1,none⟩ (.int .i64 (a:Int))).cell? ⟨b,0,none⟩=some (.slice lo l.length cap)/\(w.setCell ⟨b,1,none⟩ (.int .i64 (a:Int))).cell? ⟨b,1,none⟩=some (.int .i64 (a:Int)):=by
 have o:=h.lt;obtain⟨j,lo,l,cap,at_,c,f,m,g⟩:=h;refine⟨lo,l,cap,at_,by simp[World.cell?,c],by simp[World.cell?,c],by simp[World.frozen?,c],f,m,g,fun a n=>?_⟩;have i:ExtX (tbm b) w (w.setCell ⟨b,1,none⟩ (.int .i64 (a:Int))):=
  ⟨rfl,rfl,rfl,by simp[World.setCell],fun k q p=>Below.heap_setCell _ _ _ _ (fun e=>by subst e;simp[tbm]at p)⟩
 have d:(w.setCell ⟨b,1,none⟩ (.int .i64 (a:Int))).heap[b]? =some (.cells #[.slice lo l.length cap,.int .i64 (a:Int)] 61 (0,0)):=by
  simp only[World.setCell,Array.getElem?_modify,c];simp
 exact⟨⟨j,lo,l,cap,a,d,f,n,g.mono (a1U.mono _) (a0s i (a4j j))⟩,i,by unfold World.cell?;rw[d];rfl,by unfold World.cell?;rw[d];rfl⟩
theorem a0L.drewN{X:Nat->Bool}{a:Nat}{w:World}(h:a0L X a w)(n:Nat):a0L X a (w.drewN n):=h
theorem a1L(X:Nat->Bool)(b:Nat)(n:Int)(w:World)(j:a0L X b w)(L:n<=1099511627776):Calls Tryz.prog 23 #[.pointer (some ⟨b,0,none⟩),.int .i64 n] w (b7Q X b w n):=by
 obtain⟨lo,l,cap,at_,G,H,J,K,hat,A,c⟩:=j.cells;have C:=A.hd;by_cases y:n<1
 ·have hd:decide (n<1)=true:=decide_eq_true y
  go_enter Tryz.func23,Tryz.ntmps23
  go_wp2_with fail
  go_quiet (fail)
  go_wp2_with fail
  go_ret
  exact⟨(ExtX.refl _).drewN _,j.drewN _,0,rfl,.inr rfl⟩
 have hd:decide (n<1)=false:=decide_eq_false y;by_cases z:at_<l.length
 ·obtain⟨e,a,t,u⟩:=c (at_+1) (by omega)
  have d:=(A.mono (a1U.mono _) (a0s a (a4j j.1))).int at_ z;obtain⟨x,B⟩:=c1F (l[at_]);rw[B]at d;clear B c;have v:((at_+1:Nat):Int)=(at_:Int)+1:=by omega
  rw[v]at t u d e a;have D:∀N,((w.drewN N).setCell ⟨b,1,none⟩ (.int .i64 ((at_:Int)+1))).cell? ⟨b,0,none⟩=some (.slice lo l.length cap):=fun _=>t;have E:∀N,((w.drewN N).setCell ⟨b,1,none⟩ (.int .i64 ((at_:Int)+1))).cell? ⟨b,1,none⟩=some (.int .i64 ((at_:Int)+1)):=fun _=>u;have F:∀N,((w.drewN N).setCell ⟨b,1,none⟩ (.int .i64 ((at_:Int)+1))).cell? (adr lo at_)=some (.int .i64 x):=fun _=>d;have I:IntKind.i64.wrap ((at_:Int)+1 - 1)=(at_:Int):=by rw[IntWalk.i64_in _ (by omega)];omega
  have i:∀N,a0L X b ((w.drewN N).setCell ⟨b,1,none⟩ (.int .i64 ((at_:Int)+1))):=fun _=>e;have f:∀N,ExtX (tbm b) w ((w.drewN N).setCell ⟨b,1,none⟩ (.int .i64 ((at_:Int)+1))):=fun _=>⟨a.os,a.tape,a.output,a.size,a.block⟩;have s:=hid i;have k:=hid f;clear v e a t u i f;have o:decide ((l.length:Int)<=(at_:Int))=false:=decide_eq_false (by omega);have M:∀W,(Instr.indexAt 22 (.slice lo l.length cap) (.int .i64 (at_:Int))).run Tryz.prog W=.ok (.pointer (some (adr lo at_))) W:=a0y a6e lo l.length cap .i64 at_ C z rfl;go_enter Tryz.func23,Tryz.ntmps23
  go_wp2_with fail
  go_quiet (fail)
  go_wp2_with fail
  have g:=Int.emod_nonneg x (show n≠0 by omega);have h:=Int.emod_lt_of_pos x (show 0<n by omega);obtain⟨m,p⟩:=Int.eq_ofNat_of_zero_le g;have q:=hid p;have r:Hid ((m:Int)<n):=hid (by rw[<-p];exact h);clear p g h
  go_quiet ((go_at_call 53;exact Calls.quiet_of_same (b5q x n _ (by omega) (by omega))))
  go_wp2_with fail
  go_ret
  exact⟨(k.out _).drewN _,(s.out _).drewN _,m,a0N q.out,.inl r.out⟩
 ·have o:decide ((l.length:Int)<=(at_:Int))=true:=decide_eq_true (by omega)
  go_enter Tryz.func23,Tryz.ntmps23
  go_wp2_with fail
  go_quiet (fail)
  go_wp2_with fail
  go_ret
  exact⟨(ExtX.refl _).drewN _,j.drewN _,0,rfl,.inr rfl⟩
def b5r(X:Nat->Bool)(tb:Nat)(w:World)(e:Ending)(w':World):Prop:=ExtX (tbm tb) w w'/\a0L X tb w'/\∃b:Bool,e=.returned (.bool b)
def b3w(X:Nat->Bool)(tb:Nat)(w:World)(lo hi:Int)(e:Ending)(w':World):Prop:=ExtX (tbm tb) w w'/\a0L X tb w'/\∃m:Int,e=.returned (.int .i64 m)/\lo<=m/\m<=hi
theorem a5q(X:Nat->Bool)(a:Nat)(n:Int)(w:World)(f:a0L X a w)(g: -1000<=n)(d:n<=1099511627776):Calls Tryz.prog 9 #[.pointer (some ⟨a,0,none⟩),.int .i64 n] w (b5r X a w):=by
 go_enter Tryz.func9,Tryz.ntmps9
 go_wp2_with fail
 refine(a1L X a n _ f d).mono ?_;rintro e i ⟨c,b,m,rfl,h⟩;go_wp2_with fail
 go_ret
 exact⟨c,b,_,rfl⟩
theorem b5s(X:Nat->Bool)(d:Nat)(lo:Option Addr)(l:List Int)(cap:Nat)(w:World)(a b:Int)(k:a0L X d w)(j:Sl (a1U .i64) 1 (mk X w) lo l)(p:0<l.length)(r:l.length<=1000)(f:Hid (∀x∈l,a<=x/\x<=b)):Calls Tryz.prog 99 #[.pointer (some ⟨d,0,none⟩),.slice lo l.length cap] w (b3w X d w a b):=by
 have q:=j.hd;go_enter Tryz.func99,Tryz.ntmps99
 go_wp2_with fail
 refine(a1L X d _ _ k (by omega)).mono ?_;rintro e t ⟨i,h,m,rfl,s⟩;have c:m<l.length:=by omega
 have o:=(j.mono (a1U.mono _) (a0s i (a4j k.1))).int m c;have g:=f.out l[m] (c1E c);obtain⟨x,n⟩:=c1F (l[m]);rw[n]at o g;clear n;go_wp2_with (with_reducible refine a0v a6e ?_)
 go_ret
 exact⟨i,h,x,rfl,g.1,g.2⟩
theorem b5t(lo:Option Addr)(l:List Int)(cap:Nat)(w:World)(c:Sl (a1U .i64) 1 w.cell? lo l)(i:l.length<=cap)(m:l.length<=9223372036854775807):Calls Tryz.prog 7 #[.slice lo l.length cap] w (fun e f=>e=.returned (.pointer (some ⟨w.heap.size,0,none⟩))/\Ext w f/\a0L (tbm w.heap.size) w.heap.size f/\f.heap.size=w.heap.size+1):=by
 have a:∀(l:List Int),l.length<=400->Sl (a1U .i64) 1 w.cell? lo l->a0L (tbm w.heap.size) w.heap.size (w.alloc (.cells #[.slice lo l.length cap,.int .i64 0] 61)):=by
  intro l i c;refine⟨b5p _,lo,l,cap,0,heap_alloc_new w _,i,Nat.zero_le _,?_⟩;rw[<-a4U]at c;refine c.mono (a1U.mono _) (a1g ((ExtX.refl (Y:=noY) w).alloc _) (fun k _ h=>by simp[noY]at h) fun k h hz=>?_);have:k=w.heap.size:=by simpa[tbm]using hz
  omega
 have g:∀u v,Ext w (w.alloc (.cells #[u,v] 61)):=fun u v=>(ExtX.refl w).alloc _;by_cases j:400<l.length
 ·have d:=hid (a (l.take 400) (by simp;omega) (c.take 400))
  have b:(l.take 400).length=400:=by simp;omega
  rw[b]at d;clear a b;go_enter Tryz.func7,Tryz.ntmps7
  go_wp2_with fail
  go_ret
  exact⟨rfl,g _ _,d.out,by simp⟩
 ·have d:=hid (a l (by omega) c)
  clear a;go_enter Tryz.func7,Tryz.ntmps7
  go_wp2_with fail
  go_ret
  exact⟨rfl,g _ _,d.out,by simp⟩
theorem b3x(l:List Int):(l.map (Value.int .i64)).flatMap a0g=l.map (Value.int .i64):=by
 induction l with
 |nil=>rfl
 |cons x l ih=>simp only[List.map_cons,List.flatMap_cons,ih];rfl
theorem b6B(X:Nat->Bool)(w:World)(l:List Int)(e:TypeId)(a:Array Value)(b:a=(l.map (Value.int .i64)).toArray)(c:∀k,X k=true->k<w.heap.size)(g:l.length<=1000):OL (a1U .i64) 1 X w.heap.size e (w.alloc (.cells a e)) (some ⟨w.heap.size,0,none⟩) l.length l:=by
 refine OL.lit (a1U.elem .i64) c (c1B _) (l.map (Value.int .i64)) l a ?_ (by simp) (fun i f d=>by simp[a1U]) (by omega);rw[b,b3x]
theorem b5u(X:Nat->Bool)(g:Nat)(l:List Int)(c:Array Value)(e:TypeId)(len:Nat)(w:World)(a b:Int)(q:a0L X g w)(p:∀k,X k=true->k<w.heap.size)(d:c=(l.map (Value.int .i64)).toArray)(f:len=l.length)(o:0<l.length)(n:l.length<=1000)(i:Hid (∀x∈l,a<=x/\x<=b)):Calls Tryz.prog 99 #[.pointer (some ⟨g,0,none⟩),.slice (some ⟨w.heap.size,0,none⟩) len len] (w.alloc (.cells c e)) (b3w X g w a b):=by
 subst f;have m:Ext w (w.alloc (.cells c e)):=(ExtX.refl w).alloc _;refine(b5s X g _ l _ _ a b (q.ext m) (OL.sl (a1U.elem .i64) (b6B X w l e c d p n)) o n i).mono ?_;rintro s t ⟨h,j,r⟩;exact⟨(ExtX.of m).trans h,j,r⟩
theorem a0L.unstep{X:Nat->Bool}{b:Nat}{w f:World}{oo a:Option Addr}(h:a0L (un X oo) b w)(e:ob oo b=false)(d:ExtX (ob oo) w f)(o:a=oo\/∃g,a=some ⟨g,0,none⟩/\w.heap.size<=g):a0L (un X a) b f:=by
 have c:=h.lt;obtain⟨n,lo,l,cap,at_,i,j,k,m⟩:=h;refine⟨?_,lo,l,cap,at_,by rw[d.block b c e];exact i,j,k,m.unstep (a1U.mono _) d o⟩;have:X b=true:=by simpa[un,e]using n
 exact a0j this
theorem a0L.unX{X:Nat->Bool}{a:Nat}{w:World}{oo:Option Addr}(h:a0L (un X oo) a w)(f:X a=true):a0L X a w:=by
 obtain⟨_,lo,l,cap,at_,b,c,d,e⟩:=h;exact⟨f,lo,l,cap,at_,b,c,d,e.unX (a1U.mono _)⟩
theorem b0W(X:Nat->Bool):un X none=X:=by funext k;simp[un,ob]
theorem a0L.none{X:Nat->Bool}{a:Nat}{w:World}(h:a0L X a w):a0L (un X none) a w:=by rw[b0W];exact h
theorem a0L.old{X:Nat->Bool}{b:Nat}{w d:World}{oo:Option Addr}(h:a0L X b w)(c:Ext w d)(m:∀j,j<w.heap.size->ob oo j=false):a0L (un X oo) b d:=by
 have a:=h.lt;obtain⟨k,lo,l,cap,at_,e,f,g,i⟩:=h;exact⟨a0j k,lo,l,cap,at_,by rw[c.block b a rfl];exact e,f,g,i.old (a1U.mono _) c m⟩
theorem OL.not_ob{α:Type}{R:Mem->Value->α->Prop}{sz base cap:Nat}{e:TypeId}{ao:Option Addr}{l:List α}{X:Nat->Bool}{w:World}(c:OL R sz X base e w ao cap l){k:Nat}(a:X k=true):ob ao k=false:=by
 have h:∀k,ob ao k=true->X k=false:=c.1;cases b:ob ao k
 ·rfl
 ·rw[h k b]at a;simp at a
theorem b7R(X:Nat->Bool)(w:World)(u:Value)(m:List (List Rat))(k:HX X w)(n:MV (mk X w) u m)(i:a0A m=true)(r:b7d m (colsL m)):Calls Tryz.prog 157 #[u] w (fun e x=>Ext w x/\e=.returned (.tuple #[.int .i64 (a8E m (colsL m):Int),.int .i64 0])):=by
 obtain⟨d,o,l,_,_⟩:=a0w i;have c:=a2s X w u m n (by omega);rw[i]at c;have h:=a3o X w u m m.length (colsL m) k n d rfl (by omega) (by omega);have j:Hid ((eN m (colsL m)).2.1.length=a8E m (colsL m)):=hid rfl;clear i;go_enter Tryz.func157,Tryz.ntmps157
 go_wp2_with fail
 refine c.mono ?_;rintro e B ⟨rfl,rfl⟩;go_wp2_with fail
 refine h.mono ?_;rintro e y ⟨a,ao,cap,t,rfl,b⟩;go_wp2_with fail
 refine(a6D X _ y ao cap m.length (colsL m) t m (k.ext a) b d rfl (by omega) (by omega) r).mono ?_;rintro e C ⟨f,A,z,v,rfl,s,p,q⟩;have g:=b.ext_from a (c1B _) f;rw[j.out];go_wp2_with fail
 go_ret2
 exact⟨g,rfl⟩
theorem b3y(X:Nat->Bool)(w:World)(u:Value)(x:Rat)(y:HX X w)(h:QV (mk X w) u x):Calls Tryz.prog 47 #[u] w (a2b X w QC x):=by
 obtain⟨D,p,B,q,r,A,s,rfl⟩:=h.shape;obtain⟨W,I,n,f,m,hz⟩:=a1K w #[.bool D,.slice p B q,.slice r A s] #[.bool false,.slice none 0 0,.slice none 0 0] 47 47;have d:HX (a0f X w.heap.size 2) W:=y.boxes hz;have e:=QV.mono _ _ _ _ (a0i (nb:=2) n) h;obtain⟨b,z⟩:=c1F w.heap.size;rw[z]at f m hz d e;have j:=f.cell 0 rfl;have k:=f.cell 1 rfl;have l:=f.cell 2 rfl;have t:QV (mk (a0f X b 2) W) (.agg #[.bool false,.slice none 0 0,.slice none 0 0]) 0:=(QC.zero _).qv (by decide+kernel);have i:x+0=x:=by grind
 clear h;go_enter Tryz.func47,Tryz.ntmps47
 go_wp2_with fail
 refine(b2U (a0f X b 2) W _ _ x 0 d e t).mono ?_;rintro H N ⟨c,M,rfl,a⟩;rw[i]at a;obtain⟨L,E,K,F,G,J,e5,rfl⟩:=a.shape;have g:=m.ext0 c;clear j k l;go_wp2_with ((with_reducible refine c1J (t:=47) ?_);refine a0a a0p rfl rfl g rfl rfl a1s ?_;intro O C o)
 have v:=QC.mono _ _ _ _ a0l (QC.mono _ _ _ _ (a0h o (by omega) (by omega)) a);exact bodyPost_ret (a0d rfl rfl a0p C rfl) rfl ⟨ExtX.box (n.trans c) o (by omega),_,rfl,v⟩
theorem b9C(X:Nat->Bool)(w:World)(u:Value)(l:List Rat)(hX:HX X w)(hu:RV (mk X w) u l)(hl:l.length<=1000):Calls Tryz.prog 86 #[u] w (fun e V=>Ext w V/\∃oo b,e=.returned (.slice oo l.length b)/\OL QC 3 X w.heap.size 47 V oo b l):=by
 obtain⟨ao,ca,rfl,G,s⟩:=hu;have H:=s.hd;obtain⟨n,L⟩:=c1F l.length;have r:=hid L;rw[L]at hl G H |-;clear L;go_enter Tryz.func86,Tryz.ntmps86
 go_wp2_with fail
 go_loopw [3,8] (fun o y wr=>∃(i:Nat) (oo:Option Addr) (b:Nat),y=.int .i64 i/\o=.slice oo i b/\i<=n/\OL QC 3 X w.heap.size 47 wr oo b (l.take i)/\Ext w wr) (fun _ y _=>n - (intOf y).toNat)
 case atStart=>exact⟨0,none,0,rfl,rfl,Nat.zero_le _,OL.nil _ _ _ _ _ _,ExtX.refl _⟩
 case round=>
  obtain⟨i,oo,b,rfl,rfl,hi,k,g⟩:=hrel;have q:HX X wr:=hX.ext g;have E:HX (un X oo) wr:=k.unX q;by_cases K:i<n
  ·have d:i<l.length:=by rw[r.out];exact K
   have t:=hid (a0I l i d);have J:=hid (a0O (l:=l) (i:=i) (Nat.le_of_lt d));have M:Sl QV 3 (mk (un X oo) wr) ao l:=s.old QV.mono g (fun j hj=>k.ob_lt hj);have Y:=Bx.new wr #[.bool false,.slice none 0 0,.slice none 0 0] 47;obtain⟨v,O⟩:=c1F (l[i]);rw[O]at t;have P:=hid O;clear O;go_wp2_with (first|(with_reducible refine a1w a0x ?_)|((with_reducible refine c1K (t:=47) ?_);refine a0z a0p i M d rfl (by simp) QV.agg ?_;intro u5 f;rw[P.out]at f;obtain⟨s5,a5,n5,c5,d5,m5,e5,rfl⟩:=f.shape)|((with_reducible refine c1J (t:=47) ?_);refine a0a a0p rfl rfl Y rfl rfl a1s ?_;intro w5 U r2;have c:=c1M r2;have Q:=U.cell 0 rfl;have R:=U.cell 1 rfl;have S:=U.cell 2 rfl;have C:=E.ext c;have N:=mkx QV.mono f c))
   refine(b3y (un X oo) _ _ _ C N).mono ?_;rintro e w7 ⟨A,u7,rfl,x⟩;obtain⟨s7,W,n7,Z,d7,m7,e7,rfl⟩:=x.shape;have a:=c.trans A;have m:=k.ext0 QC.elem a;have F:=(g.trans a).size;have D:HX X w7:=q.ext a;clear Q R S;go_wp2_with (at_builtin;refine a0t (l:=l.take i) a0x rfl QC.elem F D i J.out rfl rfl m (.agg #[.bool s7,.slice W n7 Z,.slice d7 m7 e7]) v rfl x (by omega) (by omega) ?_;intro T z w9 p B a0)
   have h:=(g.trans a).own m (c1B _) B;rw[t.out]at p;go_roundw
   case rel=>exact⟨i+1,T,z,by go_num,by go_num,by omega,p,h⟩
   case measure=>simp[intOf];omega
  ·have I:i=n:=by omega
   rw[c1D (by rw[r.out];omega)]at k;subst I;go_wp2_with fail
   go_ret
   exact⟨g,oo,b,rfl,k⟩
theorem c0G(X:Nat->Bool)(w:World)(u v:Value)(x y:Rat)(hX:HX X w)(K:QV (mk X w) u x)(L:QV (mk X w) v y):Calls Tryz.prog 82 #[u,v] w (b7C X w (x/y) (e5 (decide (y=0)))):=by
 obtain⟨s1,Q,n1,S,U,k1,Y,rfl⟩:=K.shape;obtain⟨s2,R,n2,T,V,k2,Z,rfl⟩:=L.shape;obtain⟨W,hW,G,z,A,P,hz⟩:=a2r w #[.bool s1,.slice Q n1 S,.slice U k1 Y] #[.bool s2,.slice R n2 T,.slice V k2 Z] #[.bool false,.slice none 0 0,.slice none 0 0] 47 47 47;have j:HX (a0f X w.heap.size 3) W:=hX.boxes hz;have E:=QV.mono _ _ _ _ (a0i (nb:=3) G) K;have m:=QV.mono _ _ _ _ (a0i (nb:=3) G) L;obtain⟨b,hb⟩:=c1F w.heap.size;rw[hb]at z A P hz j E m;have n:=z.cell 0 rfl;have o:=z.cell 1 rfl;have p:=z.cell 2 rfl;have r:=A.cell 0 rfl;have s:=A.cell 1 rfl;have t:=A.cell 2 rfl;clear K L;obtain⟨F,c⟩:∃F:Int,e5 (decide (y=0))=F:=⟨_,rfl⟩;obtain⟨q,d⟩:∃q:Rat,x/y=q:=⟨_,rfl⟩;rw[c,d];go_enter Tryz.func82,Tryz.ntmps82
 go_wp2_with fail
 refine(a6B (a0f X b 3) W _ y j m).mono ?_;rintro e w5 ⟨a,rfl⟩;have g:=z.ext0 a;have i:=A.ext0 a;have B:=P.ext0 a;clear n o p r s t;by_cases f:y=0
 ·have k:Hid ((5:Int)=F):=hid (by rw[<-c,decide_eq_true f];rfl)
  have D:Hid ((0:Rat)=q):=hid (by rw[<-d,f,Rat.div_def,Rat.inv_zero,Rat.mul_zero]);have hI:(y.num.sign==0)=true:=by rw[f];rfl
  generalize y.num.sign=O at*;clear f c d;go_wp2_with ((with_reducible refine c1J ?_);refine a0a a0p rfl rfl B rfl rfl a1s ?_;intro w7 N H)
  exact bodyPost_ret (a0C rfl rfl a0p N rfl) rfl ⟨ExtX.box (G.trans a) H (by omega),_,by rw[<-k.out];rfl,by rw[<-D.out];exact QC.zero _⟩
 ·have k:Hid ((0:Int)=F):=hid (by rw[<-c,decide_eq_false f];rfl)
  have hI:(y.num.sign==0)=false:=by
   rw[beq_eq_false_iff_ne];intro h;exact f (Rat.num_eq_zero.1 (Int.sign_eq_zero_iff_zero.1 h))
  have M:=hid f;have J:=hid d;generalize y.num.sign=O at*;have n:=g.cell 0 rfl;have o:=g.cell 1 rfl;have p:=g.cell 2 rfl;have r:=i.cell 0 rfl;have s:=i.cell 1 rfl;have t:=i.cell 2 rfl;clear f c d;go_wp2_with fail
  refine(b9k (a0f X b 3) w5 _ _ x y (j.ext a) (mkx QV.mono E a) (mkx QV.mono m a) M.out).mono ?_;rintro e w6 ⟨C,u6,rfl,l⟩;obtain⟨s5,a5,n5,c5,d5,k5,e5,rfl⟩:=l.shape;rw[J.out]at l;have I:=B.ext0 C;clear n o p r s t;go_wp2_with ((with_reducible refine c1J ?_);refine a0a a0p rfl rfl I rfl rfl a1s ?_;intro w7 N H)
  have h7:=QC.mono _ _ _ _ a0l (QC.mono _ _ _ _ (a0h H (by omega) (by omega)) l);exact bodyPost_ret (a0C rfl rfl a0p N rfl) rfl ⟨ExtX.box (G.trans (a.trans C)) H (by omega),_,by rw[<-k.out];rfl,h7⟩
structure Mom where
 n:Int
 xx:Mat
 xy:List Rat
 yy:Rat
def shM(m:Mom)(row:List Rat)(v:Rat)(s:Int):Mom:=
 ⟨m.n+s,ofF row.length row.length fun j k=>ent m.xx j k+(s:Rat)*fn row j*fn row k,(List.range row.length).map fun j=>fn m.xy j+(s:Rat)*fn row j*v,m.yy+(s:Rat)*(v*v)⟩
def gmM(x:Mat)(y:List Rat)(c i:Nat):Mom:=⟨(i:Int),gmL x i c,gyL x y i c,sm i fun r=>fn y r*fn y r⟩
theorem a2V{α:Type}{c:Nat}{f g:Nat->α}(h:∀j,j<c->f j=g j):(List.range c).map f=(List.range c).map g:=
 List.map_congr_left fun j a=>h j (List.mem_range.1 a)
theorem b3z{n c:Nat}{f g:F2}(h:Eqm n c f g):ofF n c f=ofF n c g:=
 a2V fun i a=>a2V fun j b=>h i a j b
theorem b5v(x:Mat)(y:List Rat)(c:Nat):gmM x y c 0=⟨0,List.replicate c (List.replicate c 0),List.replicate c 0,0⟩:=by
 have e:∀(α:Type) (a:α),(List.range c).map (fun _=>a)=List.replicate c a:=fun α a=>by simp[List.map_const']
 unfold gmM gmL gyL ofF
 congr 1
 ·rw[<-e,<-e];rfl
 ·rw[<-e];rfl
theorem b5w{x:Mat}{y:List Rat}{n c i:Nat}(f:Shp n c x)(b:i<n):shM (gmM x y c i) (x.getD i []) (y.getD i 0) 1=gmM x y c (i+1):=by
 have e:(x.getD i []).length=c:=f.row b;have one:((1:Int):Rat)=1:=rfl;unfold shM gmM;rw[e]
 congr 1
 ·exact b3z fun j a k d=>by
   show ent (gmL x i c) j k+_=gr (i+1) (ent x) j k
   rw[a8b x i c j a k d]
   show gr i (ent x) j k+((1:Int):Rat)*ent x i j*ent x i k=gr i (ent x) j k+ent x i j*ent x i k
   rw[one];grind
 ·exact a2V fun j a=>by
   show(gyL x y i c).getD j 0+_=gy (i+1) (ent x) (fn y) j
   rw[b3e x y i c a]
   show gy i (ent x) (fn y) j+((1:Int):Rat)*ent x i j*fn y i=gy i (ent x) (fn y) j+ent x i j*fn y i
   rw[one];grind
 ·show sm i (fun r=>fn y r*fn y r)+((1:Int):Rat)*(fn y i*fn y i)=_
  rw[one]
  show _=sm i (fun r=>fn y r*fn y r)+fn y i*fn y i
  grind
def BlR:Mem->Value->Bool->Prop:=fun _ u b=>u=.bool b
theorem BlR.mono:a3K BlR:=fun _ _ _ _ _ h=>h
theorem BlR.elem:Elem BlR 1:=⟨fun _ _ _ _ _ h=>h,by rintro h u x rfl;rfl,by
 rintro h u x rfl c a;simp[a0g,Value.cells]at a;subst a;rfl,Nat.one_pos⟩
theorem BlR.one:a3T BlR:=by rintro h u x rfl;rfl
theorem Sl.bl{h:Mem}{ao:Option Addr}{l:List Bool}(s:Sl BlR 1 h ao l)(i:Nat)(b:i<l.length):h (adr ao i)=some (.bool l[i]):=by
 obtain⟨u,a,rfl⟩:=s.cell BlR.one i b;exact a
def usedL(p:List Nat)(c:Nat):List Bool:=(List.range c).map fun j=>decide (j∈p)
theorem a2k(p:List Nat)(c:Nat):(usedL p c).length=c:=by simp[usedL]
theorem a7z(p:List Nat)(c:Nat):usedL p (c+1)=usedL p c++[decide (c∈p)]:=by simp[usedL,List.range_succ]
def b8A(A:Mem->Value->List (List Rat)->Prop)(B:Mem->Value->List Rat->Prop)(C:Mem->Value->Rat->Prop)(h:Mem)(u:Value)(m:YtjmnhbebpffoaaaGreat.Mom):Prop:=
 ∃xo xl xc yo yl yc s a n c d k e,u=.agg #[.int .i64 m.n,.slice xo xl xc,.slice yo yl yc,.bool s,.slice a n c,.slice d k e]/\A h (.slice xo xl xc) m.xx/\B h (.slice yo yl yc) m.xy/\C h (.agg #[.bool s,.slice a n c,.slice d k e]) m.yy
def b7S:=b8A MV RV QV
def a8V:=b8A MC RC QC
theorem b8A.mono{A:Mem->Value->List (List Rat)->Prop}{B:Mem->Value->List Rat->Prop}{C:Mem->Value->Rat->Prop}(j:a3K A)(l:a3K B)(o:a3K C):a3K (b8A A B C):=by
 rintro h x u m b ⟨r,q,p,w,v,t,s,a,n,c,d,k,e,rfl,f,g,i⟩;exact⟨r,q,p,w,v,t,s,a,n,c,d,k,e,rfl,j _ _ _ _ b f,l _ _ _ _ b g,o _ _ _ _ b i⟩
theorem b7S.mono:a3K b7S:=b8A.mono MV.mono RV.mono QV.mono
theorem a8V.mono:a3K a8V:=b8A.mono MC.mono RC.mono QC.mono
def BMo(B:Nat)(m:YtjmnhbebpffoaaaGreat.Mom):Prop:=BM B m.xx/\BR B m.xy/\hq m.yy<=B
theorem a8V.mv{h:Mem}{u:Value}{m:YtjmnhbebpffoaaaGreat.Mom}(s:a8V h u m)(b:BMo 68719476736 m):b7S h u m:=by
 obtain⟨o,l,j,r,q,p,s,a,n,c,d,k,e,rfl,f,g,i⟩:=s;exact⟨o,l,j,r,q,p,s,a,n,c,d,k,e,rfl,f.mv b.1,g.rv b.2.1,i.qv b.2.2⟩
structure Fit where
 rank:Nat
 used:List Bool
 coef:List Rat
 res:List Rat
 rss:Rat
 lev:List Rat
def b4o(h:Mem)(v:Value)(f:YtjmnhbebpffoaaaGreat.Fit):Prop:=
 ∃uo uc co cl cc ro rl rc s a n c d k e lo ll lc,v=.agg #[.int .i64 (f.rank:Int),.slice uo f.used.length uc,.slice co cl cc,.slice ro rl rc,.bool s,.slice a n c,.slice d k e,.slice lo ll lc]/\f.used.length<=uc/\Sl BlR 1 h uo f.used/\RC h (.slice co cl cc) f.coef/\RC h (.slice ro rl rc) f.res/\QC h (.agg #[.bool s,.slice a n c,.slice d k e]) f.rss/\RC h (.slice lo ll lc) f.lev
theorem b4o.mono:a3K b4o:=by
 rintro h B u f b ⟨A,z,j,i,g,y,x,w,s,a,n,c,d,k,e,lo,v,t,rfl,l,m,o,p,q,r⟩;exact⟨A,z,j,i,g,y,x,w,s,a,n,c,d,k,e,lo,v,t,rfl,l,m.mono BlR.mono b,RC.mono _ _ _ _ b o,RC.mono _ _ _ _ b p,QC.mono _ _ _ _ b q,RC.mono _ _ _ _ b r⟩
theorem a2g{X:Nat->Bool}{w c:World}{g:Nat}(d:Ext w c)(e:w.heap.size<=g):Le (mk X w) (mk (un X (some ⟨g,0,none⟩)) c):=
 a1g d (fun k _ a=>by simp[noY]at a) fun k a hz=>by
  by_cases b:X k=true
  ·exact b
  ·have:g=k:=by simpa[un,b,ob]using hz
   omega
theorem a1m{X:Nat->Bool}{w:World}{g:Nat}(b:HX X w)(d:g<w.heap.size):HX (un X (some ⟨g,0,none⟩)) w:=fun k c=>by
 by_cases a:X k=true
 ·exact b k a
 ·have:g=k:=by simpa[un,a,ob]using c
  omega
section
variable {P:Program} {ops:Array Oper} {Q:Exit->Act->World->Prop} {rest:List Oper} {a:Act} {w:World}
variable {d:Option Tmp} {ty:TypeId} {ps:String} {af:Array Edge}
theorem a0r{o:Oper}{K:Act->World->Prop}{E:Prop}{t:TypeId}{x y:Operand}{n b:Nat}{i e:Array Value}{T:TypeId}(q:o.guard=none)(g:o.op=.store t x y)(m:a1M P t n)(u:a.eval x=.pointer (some ⟨b,0,none⟩))(z:a.eval y=.agg e)(p:Bx w b i T)(f:i.size=n)(h:e.size=n)(c:∀v∈e.toList,v.oneCell'=true)(l:∀d,Bx d b e T->ExtX (ob (some ⟨b,0,none⟩)) w d->K (a.put o.dst undef) d):if Region.wanted o (yielded ops a.tmps)=true then Oper.wp P o a w K Q else E:=by
 have s:Region.wanted o (yielded ops a.tmps)=true:=by simp[Region.wanted,q]
 rw[if_pos s];obtain⟨d,r,j,k⟩:=a5T (P:=P) m p f h c;unfold Oper.wp execOp;rw[g];simp[u,z,Instr.storeAt,Instr.sureAddr,r,Result.andThen];exact l d j k
theorem a1G{t:TypeId}{x y:Operand}{b i:Nat}{e:Array Value}{v:Value}{T:TypeId}(o:TyI P t 1)(z:a.eval x=.pointer (some ⟨b,i,none⟩))(A:a.eval y=v)(s:v.cells=#[v])(c:v.oneCell'=true)(g:Bx w b e T)(l:i<e.size)(K:∀k,Bx k b (e.set i v) T->ExtX (ob (some ⟨b,0,none⟩)) w k->wpList P ops Q rest (a.put d undef) k):wpList P ops Q (⟨d,.store t x y,ty,ps,af,none⟩::rest) a w:=by
 refine wpList_plain rfl fun B f=>?_;obtain⟨ti,r,j⟩:=o;obtain⟨m,n⟩:=a0X g v l;have p:=g.cell i (u:=e[i]) (by simp[l]);have q:=g.frozen i;unfold Oper.wp;subst A;have h:=run_store P w ⟨b,i,none⟩ (a.eval y) .plain c;rw[p,q]at h;simp only[Bool.false_eq_true,if_false]at h;simp[execOp,z,Instr.storeAt,Instr.sureAddr,storeVar,sizeOf,typeInfo,r,j,s,Result.andThen,storeCells,Addr.add_zero',h];exact f _ _ (K _ m n)
theorem a4E{o:Oper}{K:Act->World->Prop}{E:Prop}{t:TypeId}{x y:Operand}{b i:Nat}{d:Array Value}{v:Value}{T:TypeId}(s:o.guard=none)(f:o.op=.store t x y)(p:TyI P t 1)(C:a.eval x=.pointer (some ⟨b,i,none⟩))(D:a.eval y=v)(A:v.cells=#[v])(c:v.oneCell'=true)(e:Bx w b d T)(k:i<d.size)(n:∀j,Bx j b (d.set i v) T->ExtX (ob (some ⟨b,0,none⟩)) w j->K (a.put o.dst undef) j):if Region.wanted o (yielded ops a.tmps)=true then Oper.wp P o a w K Q else E:=by
 have B:Region.wanted o (yielded ops a.tmps)=true:=by simp[Region.wanted,s]
 rw[if_pos B];obtain⟨ti,z,h⟩:=p;obtain⟨l,m⟩:=a0X e v k;have q:=e.cell i (u:=d[i]) (by simp[k]);have r:=e.frozen i;unfold Oper.wp execOp;rw[f];subst D;have g:=run_store P w ⟨b,i,none⟩ (a.eval y) .plain c;rw[q,r]at g;simp only[Bool.false_eq_true,if_false]at g;simp[C,Instr.storeAt,Instr.sureAddr,storeVar,sizeOf,typeInfo,z,h,A,Result.andThen,storeCells,Addr.add_zero',g];exact n _ l m
theorem b7T{X Z:Nat->Bool}{w a:World}(b:Ext w a)(h:∀k,k<w.heap.size->Z k=true->X k=true):Le (mk X w) (mk Z a):=
 a1g b (fun k _ c=>by simp[noY]at c) h
theorem a4k{X Y Z:Nat->Bool}{w b:World}(c:ExtX Y w b)(e:∀k,Y k=true->Z k=true)(d:∀k,X k=true->Z k=true):Le (mk Z w) (mk X b):=fun a u h=>a1a (fun k _ f=>d k f) a u (a0s c e a u h)
theorem a0T(X:Nat->Bool)(a b:Option Addr):un (un X a) b=un (un X b) a:=by
 funext k;simp only[un];cases X k<;>cases ob a k<;>cases ob b k<;>rfl
theorem a3i{X:Nat->Bool}{w:World}{ao:Option Addr}(b:HX X w)(h:∀k,ob ao k=true->k<w.heap.size):HX (un X ao) w:=fun k c=>by
 by_cases a:X k=true
 ·exact b k a
 ·exact h k (by simpa[un,a]using c)
theorem b3A(X:Nat->Bool):un X none=X:=by funext k;simp[un,ob]
end
theorem a3H:a1M Tryz.prog 124 6:=by
 have h:(Tryz.prog.info? 124).map (fun i=>(i.zero,i.size,i.bytes))=some (some (.agg #[.int .i64 0,.slice none 0 0,.slice none 0 0,.bool false,.slice none 0 0,.slice none 0 0]),6,112):=by kernel_rfl
 obtain⟨ti,a,_,b,_⟩:=info_parts h;exact⟨_,ti,Tryz.underlying124,a,b⟩
theorem b7U:(Tryz.prog.info? 24).map (fun i=>(i.zero,i.size,i.bytes))=some (some (.slice none 0 0),1,24):=by kernel_rfl
theorem a8W:TyI Tryz.prog 24 1:=let ⟨i,h,_,a,_⟩:=info_parts b7U;⟨i,h,a⟩
theorem b7V:(Tryz.prog.info? 23).map (fun i=>(i.zero,i.size,i.bytes))=some (some (.slice none 0 0),1,24):=by kernel_rfl
theorem b9D:TyI Tryz.prog 23 1:=let ⟨i,h,_,a,_⟩:=info_parts b7V;⟨i,h,a⟩
theorem a1n:a1M Tryz.prog 67 8:=by
 have h:(Tryz.prog.info? 67).map (fun i=>(i.zero,i.size,i.bytes))=some (some (.agg #[.int .i64 0,.slice none 0 0,.slice none 0 0,.slice none 0 0,.bool false,.slice none 0 0,.slice none 0 0,.slice none 0 0]),8,160):=by kernel_rfl
 obtain⟨ti,a,_,b,_⟩:=info_parts h;exact⟨_,ti,Tryz.underlying67,a,b⟩
theorem c0H(X:Nat->Bool)(w:World)(u v:Value)(x y:Rat)(G:HX X w)(i:QV (mk X w) u x)(j:QV (mk X w) v y):Calls Tryz.prog 89 #[u,v] w (a7U w (decide (b1x x y<0))):=by
 have J:=hid i.hq;have K:=hid j.hq;obtain⟨P,t,N,A,C,L,E,rfl⟩:=i.shape;obtain⟨Q,z,O,B,D,M,F,rfl⟩:=j.shape;obtain⟨W,R,k,g,h,hz⟩:=a1K w #[.bool P,.slice t N A,.slice C L E] #[.bool Q,.slice z O B,.slice D M F] 47 47;have a:HX (a0f X w.heap.size 2) W:=G.boxes hz;have d:=QV.mono _ _ _ _ (a0i (nb:=2) k) i;have f:=QV.mono _ _ _ _ (a0i (nb:=2) k) j;obtain⟨b,H⟩:=c1F w.heap.size;have I:w.heap.size<=b:=by omega
 rw[H]at g h hz a d f;have m:=g.cell 0 rfl;have n:=g.cell 1 rfl;have o:=g.cell 2 rfl;have p:=h.cell 0 rfl;have q:=h.cell 1 rfl;have r:=h.cell 2 rfl;clear i j;obtain⟨c,s⟩:∃c:Int,b1x x y=c:=⟨_,rfl⟩;have hq:=b0I (a0f X b 2) W _ _ x y a d f;rw[s]at hq |-;clear s;go_enter Tryz.func89,Tryz.ntmps89
 go_wp2_with fail
 refine hq.mono ?_;rintro e S ⟨l,rfl⟩;clear m n o p q r hq;go_wp2_with fail
 go_ret
 exact⟨k.trans l,rfl⟩
theorem b5x(X:Nat->Bool)(w:World)(u v:Value)(x y:Rat)(hX:HX X w)(p:QV (mk X w) u x)(l:QV (mk X w) v y):Calls Tryz.prog 36 #[u,v] w (a2b X w QC (x/y)):=by
 have a0:=hid l.hq;obtain⟨s1,O,n1,S,U,k1,Y,rfl⟩:=p.shape;obtain⟨s2,P,n2,T,V,k2,Z,rfl⟩:=l.shape;obtain⟨W,hW,n,j,k,F,hz⟩:=a2r w #[.bool s1,.slice O n1 S,.slice U k1 Y] #[.bool s2,.slice P n2 T,.slice V k2 Z] #[.bool false,.slice none 0 0,.slice none 0 0] 47 47 47;have c:HX (a0f X w.heap.size 3) W:=hX.boxes hz;have f:=QV.mono _ _ _ _ (a0i (nb:=3) n) p;have i:=QV.mono _ _ _ _ (a0i (nb:=3) n) l;obtain⟨b,hb⟩:=c1F w.heap.size;rw[hb]at j k F hz c f i;have o:=c1L W;have r:=j.cell 0 rfl;have s:=j.cell 1 rfl;have t:=j.cell 2 rfl;have z:=k.cell 0 rfl;have A:=k.cell 1 rfl;have B:=k.cell 2 rfl;clear p l;obtain⟨I,d⟩:∃I:Int,e5 (decide (y=0))=I:=⟨_,rfl⟩;obtain⟨q,hq⟩:∃q:Rat,x/y=q:=⟨_,rfl⟩;have hd:=c0l (a0f X b 3) W _ _ x y c f i;rw[d,hq]at hd;rw[hq];clear o d hq;go_enter Tryz.func36,Tryz.ntmps36
 go_wp2_with fail
 refine hd.mono ?_;rintro e C ⟨a,u5,rfl,g⟩;have h:=hid g;obtain⟨N,E,L,G,H,K,J,rfl⟩:=g.shape;have Q:=F.ext0 a;have m:Ext C (C.alloc (.cells #[.bool N,.slice E L G,.slice H K J] 47)):=(ExtX.refl _).alloc _;have D:=Bx.new C #[.bool N,.slice E L G,.slice H K J] 47;have p0:=D.cell 0 rfl;have p1:=D.cell 1 rfl;have p2:=D.cell 2 rfl;have R:=Q.ext0 m;clear r s t z A B hd;go_wp2_with ((with_reducible refine c1J (t:=47) ?_);refine a0a a0p rfl rfl R rfl rfl a1s ?_;intro w7 r1 M)
 have h7:=QC.mono _ _ _ _ a0l (QC.mono _ _ _ _ (a0h M (by omega) (by omega)) (mkx QC.mono h.out m));exact bodyPost_ret (a0d rfl rfl a0p r1 rfl) rfl ⟨ExtX.box (n.trans (a.trans m)) M (by omega),_,rfl,h7⟩
theorem b0X(X:Nat->Bool)(w:World)(u v:Value)(x y:Rat)(hX:HX X w)(p:QV (mk X w) u x)(l:QV (mk X w) v y):Calls Tryz.prog 39 #[u,v] w (a2b X w QC (x/y)):=by
 have a0:=hid l.hq;obtain⟨s1,O,n1,S,U,k1,Y,rfl⟩:=p.shape;obtain⟨s2,P,n2,T,V,k2,Z,rfl⟩:=l.shape;obtain⟨W,hW,n,j,k,F,hz⟩:=a2r w #[.bool s1,.slice O n1 S,.slice U k1 Y] #[.bool s2,.slice P n2 T,.slice V k2 Z] #[.bool false,.slice none 0 0,.slice none 0 0] 47 47 47;have c:HX (a0f X w.heap.size 3) W:=hX.boxes hz;have f:=QV.mono _ _ _ _ (a0i (nb:=3) n) p;have i:=QV.mono _ _ _ _ (a0i (nb:=3) n) l;obtain⟨b,hb⟩:=c1F w.heap.size;rw[hb]at j k F hz c f i;have o:=c1L W;have r:=j.cell 0 rfl;have s:=j.cell 1 rfl;have t:=j.cell 2 rfl;have z:=k.cell 0 rfl;have A:=k.cell 1 rfl;have B:=k.cell 2 rfl;clear p l;obtain⟨I,d⟩:∃I:Int,e5 (decide (y=0))=I:=⟨_,rfl⟩;obtain⟨q,hq⟩:∃q:Rat,x/y=q:=⟨_,rfl⟩;have hd:=c0G (a0f X b 3) W _ _ x y c f i;rw[d,hq]at hd;rw[hq];clear o d hq;go_enter Tryz.func39,Tryz.ntmps39
 go_wp2_with fail
 refine hd.mono ?_;rintro e C ⟨a,u5,rfl,g⟩;have h:=hid g;obtain⟨N,E,L,G,H,K,J,rfl⟩:=g.shape;have Q:=F.ext0 a;have m:Ext C (C.alloc (.cells #[.bool N,.slice E L G,.slice H K J] 47)):=(ExtX.refl _).alloc _;have D:=Bx.new C #[.bool N,.slice E L G,.slice H K J] 47;have p0:=D.cell 0 rfl;have p1:=D.cell 1 rfl;have p2:=D.cell 2 rfl;have R:=Q.ext0 m;clear r s t z A B hd;go_wp2_with ((with_reducible refine c1J (t:=47) ?_);refine a0a a0p rfl rfl R rfl rfl a1s ?_;intro w7 r1 M)
 have h7:=QC.mono _ _ _ _ a0l (QC.mono _ _ _ _ (a0h M (by omega) (by omega)) (mkx QC.mono h.out m));exact bodyPost_ret (a0d rfl rfl a0p r1 rfl) rfl ⟨ExtX.box (n.trans (a.trans m)) M (by omega),_,rfl,h7⟩
section
open Go.Sort Go.Lib Go.Extern
def ltQ(x y:Rat):Bool:=decide (b1x x y<0)
theorem a8h{x y:Rat}:ltQ x y=true↔x<y:=by
 unfold ltQ b1x;simp only[decide_eq_true_eq];split
 ·rename_i h;simp[h]
 ·rename_i h
  constructor
  ·intro a;split at a<;>omega
  ·intro a;exact absurd a h
theorem a6I{x y:Rat}:ltQ x y=false↔y<=x:=by
 rw[<-Rat.not_lt,<-a8h];simp
theorem b7W:SWO ltQ:=
 ⟨fun x=>a6I.2 Rat.le_refl,fun x y z a b=>a8h.2 (by have:=a8h.1 a;have:=a8h.1 b;grind),fun x y z a b=>a6I.2 (Rat.le_trans (a6I.1 b) (a6I.1 a))⟩
theorem b7X(d:Array Rat):(Go.Sort.insertionSort ltQ d 0 d.size).toList=srt d.toList:=by
 obtain⟨⟨b,_,a⟩,h⟩:=Go.Sort.insertionSort_holds b7W d 0 d.size (Nat.zero_le _) (c1B _);obtain⟨D,k⟩:=c1F (Go.Sort.insertionSort ltQ d 0 d.size);rw[k]at b a h |-;refine b0V ?_ (List.pairwise_iff_getElem.2 fun i j l m f=>?_)
 ·rw[<-b]at a
  have e:D.size=d.size:=b;rw[show D.extract 0 D.size=D by simp,show d.extract 0 D.size=d by rw[e];simp]at a;exact a
 ·have c:i<D.size:=by simpa using l
  have g:j<D.size:=by simpa using m
  have:=a6I.1 (h i j (Nat.zero_le _) f (by omega));simpa[getElem!_pos,c,g]using this
structure Sorting (X:Nat->Bool) (base:Nat) (ao:Option Addr) (cap n b:Nat) (d:Array Rat) (w:World):Prop where
 own:OL QC 3 X base 47 w ao cap d.toList
 size:d.size=n
 var:w.cell? ⟨b,0,none⟩=some (.slice ao n cap)
 off:ob ao b=false
 hid:HX X w
 br:BR 68719476736 d.toList
theorem Sorting.ext{X:Nat->Bool}{base:Nat}{ao:Option Addr}{cap n b:Nat}{d:Array Rat}{w c:World}(h:Sorting X base ao cap n b d w)(a:Ext w c):Sorting X base ao cap n b d c:=
 ⟨h.own.ext0 QC.elem a,h.size,a.cell h.var,h.off,h.hid.ext a,h.br⟩
theorem a6J{X:Nat->Bool}{base:Nat}{ao:Option Addr}{cap n b:Nat}{d:Array Rat}{w:World}(h:Sorting X base ao cap n b d w)(i j:Nat)(Y:i<n)(Z:j<n):Calls Tryz.prog 88 #[.int .i64 i,.int .i64 j,.pointer (some ⟨b,0,none⟩)] w (a7U w (ltQ d[i]! d[j]!)):=by
 have hl:d.toList.length=n:=by simpa using h.size
 have t:i<d.toList.length:=by omega
 have u:j<d.toList.length:=by omega
 obtain⟨p,v,s1,N,n1,P,R,k1,T,D,L,k,m⟩:=h.own.rat QC.shaped i t;obtain⟨q,z,s2,O,n2,Q,S,k2,U,E,M,l,o⟩:=h.own.rat QC.shaped j u;have A:d.toList[i]=d[i]! :=by simp[getElem!_pos,show i<d.size by rw[h.size];exact Y]
 have B:d.toList[j]=d[j]! :=by simp[getElem!_pos,show j<d.size by rw[h.size];exact Z]
 have F:=h.br _ (c1E t);have G:=h.br _ (c1E u);rw[A]at m F;rw[B]at o G;have s:=h.own.hd;rw[hl]at s;have J:=h.own.unX h.hid;have hv:=h.var;obtain⟨x,hx⟩:=c1F (d[i]! );obtain⟨y,hy⟩:=c1F (d[j]! );rw[hx]at m F |-;rw[hy]at o G |-;have e:=c1L w;have I:Hid (∀c,Ext w c->c.cell? ⟨b,0,none⟩=some (.slice ao n cap)/\c.cell? ⟨p,v,none⟩=some (.bool s1)/\c.cell? ⟨p,v+1,none⟩=some (.slice N n1 P)/\c.cell? ⟨p,v+2,none⟩=some (.slice R k1 T)/\c.cell? ⟨q,z,none⟩=some (.bool s2)/\c.cell? ⟨q,z+1,none⟩=some (.slice O n2 Q)/\c.cell? ⟨q,z+2,none⟩=some (.slice S k2 U)):=
  YtjmnhbebpffoaaaGreat.hid fun c h=>⟨h.cell hv,(k.out _ _ h rfl).1,(k.out _ _ h rfl).2.1,(k.out _ _ h rfl).2.2,(l.out _ _ h rfl).1,(l.out _ _ h rfl).2.1,(l.out _ _ h rfl).2.2⟩
 have g:=YtjmnhbebpffoaaaGreat.hid (c0H (un X ao) w.drew _ _ x y (HX.ext (w:=w) J e) ((mkx QC.mono m e).qv F) ((mkx QC.mono o e).qv G));have i1:∀W,(Instr.indexAt 24 (.slice ao n cap) (.int .i64 (i:Int))).run Tryz.prog W=.ok (.pointer (some ⟨p,v,none⟩)) W:=by rw[<-D];exact a0e a0x ao n cap .i64 i s Y
 have i2:∀W,(Instr.indexAt 24 (.slice ao n cap) (.int .i64 (j:Int))).run Tryz.prog W=.ok (.pointer (some ⟨q,z,none⟩)) W:=by rw[<-E];exact a0e a0x ao n cap .i64 j s Z
 unfold ltQ;obtain⟨r,hr⟩:=c1F (decide (b1x x y<0));rw[hr]at g |-;clear m o k l D E L M h hx hy hr A B F G t u hl hv;go_enter Tryz.func88,Tryz.ntmps88
 go_upto_region 1 with fail
 refine a0n 9 (fun c=>c.cell? ⟨b,0,none⟩=some (.slice ao n cap)/\c.cell? ⟨p,v,none⟩=some (.bool s1)/\c.cell? ⟨p,v+1,none⟩=some (.slice N n1 P)/\c.cell? ⟨p,v+2,none⟩=some (.slice R k1 T)/\c.cell? ⟨q,z,none⟩=some (.bool s2)/\c.cell? ⟨q,z+1,none⟩=some (.slice O n2 Q)/\c.cell? ⟨q,z+2,none⟩=some (.slice S k2 U)) (by kernel_rfl) (by kernel_rfl) (I.out _ e) (fun f a=>?_);refine kt 0 a ?_;refine kt 1 a ?_;refine kt 2 a ?_;refine kt 3 a ?_;refine kt 4 a ?_;refine kt 5 a ?_;refine kt 6 a ?_;refine kt 7 a ?_;refine ks 8 (fun K C=>?_);go_simp
 ((with_reducible refine g.out.mono ?_);rintro ee wa ⟨V,rfl⟩)
 refine kcn C (I.out _ (e.trans V)) (fun f=>?_);clear C K;refine kl 9 (fun K C=>?_);go_simp
 refine C.out _ _ ?_;clear C K;have H:=e.trans V;clear f I g;go_wp2_with fail
 go_ret
 exact⟨H,rfl⟩
noncomputable def b3B:TypeInfo:=(Tryz.prog.info? 24).get (by kernel_rfl)
noncomputable def a7h:TypeInfo:=(Tryz.prog.info? 47).get (by kernel_rfl)
theorem swK(n:Nat):swapperK n a7h 25=if n=0 then 1 else if n=1 then 2 else 9:=by
 have a:a7h.hasPointers=true:=by kernel_rfl
 have b:(a7h.bytes==8)=false:=by kernel_rfl
 unfold swapperK;by_cases c:n=0
 ·simp[c]
 ·by_cases d:n=1
  ·simp[d]
  ·simp[c,d,a,b]
theorem b1K(X:Nat->Bool)(base:Nat)(ao:Option Addr)(cap n b:Nat):SortBy ltQ 88 #[.pointer (some ⟨b,0,none⟩)] 182 #[.slice ao n cap,typeHandle Tryz.prog 47] (ob ao) n (Sorting X base ao cap n b) where
 enter:=Go.Proofs.enters_of Tryz.func88 (by kernel_rfl) rfl
 ext _ _ _ h hE:=h.ext hE
 low d w h k hk:=(h.own.block hk).2
 less d w h _ i j hi hj:=(a6J h i j hi hj).mono fun _ _ ⟨hE,he⟩=>⟨he,hE⟩
 swap d w h hn i j hi hj _:=by
  have hl:d.toList.length=n:=by simpa using h.size
  obtain⟨w',h1,h3,h4⟩:=h.own.run_swap (P:=Tryz.prog) (t:=47) (ti:=a7h) false (by kernel_rfl) (by kernel_rfl) (fun _=>by kernel_rfl) QC.elem (fun _ _ _ h=>by obtain⟨_,_,_,_,_,_,_,rfl⟩:=h.shape;exact⟨_,rfl⟩) i j (by omega) (by omega) cap;rw[hl]at h1;refine⟨w',?_,⟨?_,by rw[size_swp];exact h.size,h4.cellY h.var h.off,h.off,fun k hk=>c1C (h.hid k hk) h4.size,?_⟩,h4⟩
  ·rw[run_callFunc_extern Tryz.func182 (by kernel_rfl) (by kernel_rfl) (by kernel_rfl) (e:=Extern.ReflectliteSwapper.swap false) (by kernel_rfl)]
   rw[show(#[Value.int .i64 (i:Int),Value.int .i64 (j:Int)]++#[Value.slice ao n cap,typeHandle Tryz.prog 47])=#[.int .i64 i,.int .i64 j,.slice ao n cap,typeHandle Tryz.prog 47]from rfl,h1];rfl
  ·rw[a7y d i j (by omega) (by omega)];exact h3
  ·rw[a7y d i j (by omega) (by omega)]
   intro x hx;rcases List.mem_or_eq_of_mem_set hx with hx|rfl
   ·rcases List.mem_or_eq_of_mem_set hx with hx|rfl
    ·exact h.br x hx
    ·exact h.br _ (c1E _)
   ·exact h.br _ (c1E _)
theorem b5y(X:Nat->Bool)(base:Nat)(ao:Option Addr)(cap b:Nat)(l:List Rat)(w:World)(h:Sorting X base ao cap l.length b l.toArray w)(B:l.length<=20):Calls Tryz.prog 87 #[.iface 24 (.slice ao l.length cap),.func (.func 88) #[] #[.pointer (some ⟨b,0,none⟩)]] w fun e c=> e=.returned (.tuple #[])/\(Sorting X base ao cap l.length b (srt l).toArray c/\ExtX (ob ao) w c):=by
 obtain⟨n,r⟩:=c1F l.length;rw[r]at h B |-;have s:l.toArray.size=n:=by simpa using r
 have q:∀c,Sorting X base ao cap n b (Go.Sort.insertionSort ltQ l.toArray 0 n) c->Sorting X base ao cap n b (srt l).toArray c:=fun c C=>by
  have:=b7X l.toArray;rw[s]at this;rw[show(srt l).toArray=Go.Sort.insertionSort ltQ l.toArray 0 n by rw[<-this]];exact C
 have m:∀(f:Nat) (p:Array Value),SortBy ltQ 88 #[.pointer (some ⟨b,0,none⟩)] f p (ob ao) n (Sorting X base ao cap n b)->∀u,Ext w u->
   Calls Tryz.prog 138 #[.agg #[.func (.func 88) #[] #[.pointer (some ⟨b,0,none⟩)],.func (.func f) #[] p],.int .i64 n] u fun e c=>e=.returned (.tuple #[])/\(Sorting X base ao cap n b (srt l).toArray c/\ExtX (ob ao) w c):=fun f p S u o=>
  (b1I S l.toArray u (h.ext o) s B).mono fun _ _ ⟨x,D,_,v⟩=>⟨x,q _ D,(ExtX.of o).trans v⟩
 have a:n<2->∀f p,SortBy ltQ 88 #[.pointer (some ⟨b,0,none⟩)] f p (ob ao) n (Sorting X base ao cap n b):=fun t f p=>
  ⟨Go.Proofs.enters_of Tryz.func88 (by kernel_rfl) rfl,fun _ _ _ h o=>h.ext o,fun d w h k F=>(h.own.block F).2,fun d w h _ i j z A=>(a6J h i j z A).mono fun _ _ ⟨o,x⟩=>⟨x,o⟩,fun d w h _ i j z A E=>by omega⟩
 rcases Nat.lt_or_ge n 2 with t|t
 ·rcases Nat.eq_zero_or_pos n with y|y
  ·have g:swapperK n a7h 25=1:=by rw[swK,if_pos y]
   refine a2U 24 47 b3B a7h (by kernel_rfl) (by kernel_rfl) (by kernel_rfl) (by kernel_rfl) 25 (fun _=>by kernel_rfl) ao n cap (by omega) 174 (by rw[g];kernel_rfl) _ _ w _ ?_;rw[g];exact m _ _ (a t _ _)
  ·have g:swapperK n a7h 25=2:=by rw[swK,if_neg (by omega),if_pos (by omega)]
   refine a2U 24 47 b3B a7h (by kernel_rfl) (by kernel_rfl) (by kernel_rfl) (by kernel_rfl) 25 (fun _=>by kernel_rfl) ao n cap (by omega) 175 (by rw[g];kernel_rfl) _ _ w _ ?_;rw[g];exact m _ _ (a t _ _)
 ·have g:swapperK n a7h 25=9:=by rw[swK,if_neg (by omega),if_neg (by omega)]
  refine a2U 24 47 b3B a7h (by kernel_rfl) (by kernel_rfl) (by kernel_rfl) (by kernel_rfl) 25 (fun _=>by kernel_rfl) ao n cap (by omega) 182 (by rw[g];kernel_rfl) _ _ w _ ?_;rw[g];exact m _ _ (b1K X base ao cap n b)
theorem b3C(X:Nat->Bool)(w:World)(u:Value)(l:List Rat)(hX:HX X w)(hu:RV (mk X w) u l)(hl:l.length<=20)(hB:BR 68719476736 l):Calls Tryz.prog 43 #[u] w (fun e w'=>Ext w w'/\∃oo co,e=.returned (.slice oo l.length co)/\OL QC 3 X w.heap.size 47 w' oo co (srt l)):=by
 have hsc:=fun base ao cap b w h=>b5y X base ao cap b l w h hl;obtain⟨n,hn⟩:=c1F l.length;have hel:=b9C X w u l hX hu (by omega);rw[hn]at hel hsc hl |-;have hn':=hid hn;clear hn;go_enter Tryz.func43,Tryz.ntmps43
 go_wp2_with fail
 refine hel.mono ?_;rintro e w1 ⟨hE1,ao,cap,rfl,hO⟩;have hX1:=hX.ext hE1;have hEA:Ext w1 (w1.alloc (.cells #[.slice ao n cap] 24)):=(ExtX.refl w1).alloc _;have hso:Sorting X w.heap.size ao cap n w1.heap.size l.toArray (w1.alloc (.cells #[.slice ao n cap] 24)):=
  ⟨by rw[List.toList_toArray];exact hO.ext0 QC.elem hEA,by simpa using hn'.out,a4o 0 rfl,by
   cases h:ob ao w1.heap.size with
   |false=>rfl
   |true=>have:=(hO.block h).2;omega,hX1.ext hEA,by rw[List.toList_toArray];exact hB⟩
 have hcall:=hsc w.heap.size ao cap w1.heap.size _ hso;clear hsc hso hu hB;go_wp2_with (go_at_call 87;refine hcall.mono ?_;rintro e w2 ⟨rfl,hS,hE2⟩;have hv:=hS.var)
 go_ret
 have hOs:=hS.own;rw[List.toList_toArray]at hOs;exact⟨(hE1.trans hEA).own (hO.ext0 QC.elem hEA) (c1B _) hE2,ao,cap,rfl,hOs⟩
end
theorem b5z(X:Nat->Bool)(w:World)(u:Value)(l:List Rat)(hX:HX X w)(hu:RV (mk X w) u l)(hn:l.length<=1000000)(r:∀k,k<=l.length->hq (sm k (fn l))<=68719476736):Calls Tryz.prog 94 #[u] w (a2b X w QC (sm l.length (fn l))):=by
 obtain⟨ao,ca,rfl,Z,J⟩:=hu;have a0:=J.hd;obtain⟨W,hW,hE,A,o,hz⟩:=a1K w #[.bool false,.slice none 0 0,.slice none 0 0] #[.bool false,.slice none 0 0,.slice none 0 0] 47 47;have E:HX (a0f X w.heap.size 2) W:=hX.boxes hz;have h0:QC (mk (a0f X w.heap.size 2) W) (.agg #[.bool false,.slice none 0 0,.slice none 0 0]) (sm 0 (fn l)):=QC.zero _;obtain⟨n,t⟩:=c1F l.length;rw[t]at hn r Z a0 |-;have f:=hid t;have G:=hid r;clear t r;go_enter Tryz.func94,Tryz.ntmps94
 go_wp2_with fail
 obtain⟨b,hb⟩:=c1F w.heap.size;have a2:Hid (∀wr,Ext w wr->Le (mk X w) (mk (a0f X b 2) wr)):=hid fun wr h=>by rw[<-hb];exact a0i h
 have b5:w.heap.size<=b:=by omega
 rw[hb]at A o E h0 |-;clear hW;go_loopw [8] (fun k wr=>∃(i:Nat) (s:Bool) (a:Option Addr) (O B:Nat) (d:Option Addr) (N e:Nat),k=.int .i64 i/\i<=n/\Bx wr b #[.bool false,.slice none 0 0,.slice none 0 0] 47/\Bx wr (b+1) #[.bool s,.slice a O B,.slice d N e] 47/\QC (mk (a0f X b 2) wr) (.agg #[.bool s,.slice a O B,.slice d N e]) (sm i (fn l))/\HX (a0f X b 2) wr/\Ext w wr) (fun k _=>n - (intOf k).toNat)
 case atStart=>exact⟨0,_,_,_,_,_,_,_,rfl,Nat.zero_le _,A,o,h0,E,hE⟩
 case round=>
  obtain⟨i,s,a,O,B,d,N,e,rfl,hi,A,o,hq,Y,q⟩:=hrel;by_cases a3:i<n
  ·have I:i<l.length:=by rw[f.out];exact a3
   have a6:=J.mono QV.mono (a2.out wr q);have gl:Hid (fn l i=l[i]):=hid (by simp[fn,List.getD_eq_getElem?_getD,I]);have m:Hid (sm i (fn l)+l[i]=sm (i+1) (fn l)):=hid (by rw[<-gl.out];rfl);have H:=hid (G.out i hi);obtain⟨x,hx⟩:=c1F (l[i]);rw[hx]at m;have a8:=hid hx;have bx:=Bx.new wr #[.bool false,.slice none 0 0,.slice none 0 0] 47;obtain⟨D,hD⟩:=c1F (sm i (fn l));obtain⟨D2,p⟩:=c1F (sm (i+1) (fn l));rw[hD]at hq m H;rw[p]at m;have C:=hid p;clear hx hD p;go_wp2_with (first|(with_reducible refine a1w a0x ?_)|((with_reducible refine c1K (t:=47) ?_);refine a0z a0p i a6 I rfl (by simp) QV.agg ?_;intro u5 v;rw[a8.out]at v;obtain⟨s5,a5,n5,c5,d5,k5,e5,rfl⟩:=v.shape)|((with_reducible refine c1J ?_);refine a0a a0p rfl rfl bx rfl rfl a1s ?_;intro g z P;have c:=c1M P;have j:=o.ext0 c;have K:g.cell? ⟨b+1,0,none⟩=some (.bool s):=j.cell 0 rfl;have L:g.cell? ⟨b+1,1,none⟩=some (.slice a O B):=j.cell 1 rfl;have M:g.cell? ⟨b+1,2,none⟩=some (.slice d N e):=j.cell 2 rfl;have b2:g.cell? ⟨wr.heap.size,0,none⟩=some (.bool s5):=z.cell 0 rfl;have b3:g.cell? ⟨wr.heap.size,1,none⟩=some (.slice a5 n5 c5):=z.cell 1 rfl;have b4:g.cell? ⟨wr.heap.size,2,none⟩=some (.slice d5 k5 e5):=z.cell 2 rfl;have F:=Y.ext c;have a9:QV (mk (a0f X b 2) g) (.agg #[.bool s5,.slice a5 n5 c5,.slice d5 k5 e5]) x:=mkx QV.mono v c;have a4:QV (mk (a0f X b 2) g) (.agg #[.bool s,.slice a O B,.slice d N e]) D:=(mkx QC.mono hq c).qv H.out;clear bx z)|(go_at_call 46;(with_reducible refine(b2U (a0f X b 2) g _ _ _ _ F a4 a9).mono ?_);rintro ee w7 ⟨Q,u7,rfl,y⟩;obtain⟨s7,a7,n7,c7,d7,k7,e7,rfl⟩:=y.shape;rw[m.out]at y;have T:=j.ext0 Q;clear K L M b2 b3 b4)|((with_reducible refine c1J ?_);refine a0a a0p rfl rfl T rfl rfl a1s ?_;intro w8 z1 R))
   have h8:=QC.mono _ _ _ _ (a0h (lo:=b) (nb:=2) R (by omega) (by omega)) y;have S:=((A.ext0 c).ext0 Q).ext R (a0b (by omega));have U:Ext w _:=ExtX.box (q.trans (c.trans Q)) R (by omega);have V:=(F.ext Q).ext R;rw[<-C.out]at h8;go_roundw
   case rel=>exact⟨i+1,_,_,_,_,_,_,_,by go_num,by omega,S,z1,h8,V,U⟩
   case measure=>simp[intOf];omega
  ·have a1:i=n:=by omega
   subst a1;rw[<-f.out]at hq;have K:=o.cell 0 rfl;have L:=o.cell 1 rfl;have M:=o.cell 2 rfl;go_wp2_with ((with_reducible refine c1J ?_);refine a0a a0p rfl rfl A rfl rfl a1s ?_;intro w7 z P)
   have h7:=QC.mono _ _ _ _ a0l (QC.mono _ _ _ _ (a0h P (by omega) (by omega)) hq);rw[f.out]at h7;exact bodyPost_ret (a0d rfl rfl a0p z rfl) rfl ⟨ExtX.box q P (by omega),_,rfl,h7⟩
end Go.Proofs.YtjmnhbebpffoaaaGreat
