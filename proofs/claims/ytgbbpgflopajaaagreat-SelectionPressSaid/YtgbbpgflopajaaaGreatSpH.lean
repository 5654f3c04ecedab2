/- Parts of a proof: each theorem states what it proves, and its conditions. -/
import Derived.Test.YtgbbpgflopajaaaGreatSpG
import Derived.BigRegion
set_option maxRecDepth 100000
set_option maxHeartbeats 1600000
namespace Go.Lin
theorem b7d(a:Rat):0<=a*a:=by
 rcases Rat.le_total (a:=0) (b:=a)with h|h
 ·exact Rat.mul_nonneg h h
 ·have c:0<= -a:=by grind
  have:=Rat.mul_nonneg c c;grind
theorem b5E(n:Nat)(f:Nat->Rat):0<=sm n fun i=>f i*f i:=by
 induction n with
 |zero=>unfold sm;grind
 |succ n ih=>unfold sm;have:=b7d (f n);grind
theorem b1R{n:Nat}{f:Nat->Rat}(h:sm n (fun i=>f i*f i)=0):∀i,i<n->f i=0:=by
 induction n with
 |zero=>intro i hi;omega
 |succ n ih=>
  unfold sm at h;have h1:=b5E n f;have h2:=b7d (f n);have h3:sm n (fun i=>f i*f i)=0:=by grind
  have h4:f n*f n=0:=by grind
  intro i hi;by_cases e:i=n
  ·subst e;rcases Rat.mul_eq_zero.1 h4 with h|h<;>exact h
  ·exact ih h3 i (by omega)
def app(c:Nat)(f:F2)(x:Nat->Rat)(i:Nat):Rat:=sm c fun j=>f i j*x j
def gr(n:Nat)(f:F2):F2:=fun i j=>sm n fun r=>f r i*f r j
def gy(n:Nat)(f:F2)(y:Nat->Rat):Nat->Rat:=fun i=>sm n fun r=>f r i*y r
theorem b9Z(n:Nat)(f:F2)(i j:Nat):gr n f i j=gr n f j i:=a0f fun r _=>by grind
theorem b0R(n c:Nat)(f:F2)(x:Nat->Rat)(i:Nat):sm c (fun j=>gr n f i j*x j)=sm n fun r=>f r i*app c f x r:=by
 have e:∀j,j<c->gr n f i j*x j=sm n fun r=>f r i*(f r j*x j):=fun j _=>by
  have:gr n f i j*x j=x j*gr n f i j:=by grind
  rw[this];unfold gr;rw[<-a1l];exact a0f fun r _=>by grind
 rw[a0f e,a2w];exact a0f fun r _=>by rw[a1l];rfl
theorem a8W{n c:Nat}{f:F2}{x:Nat->Rat}:Nul c c (gr n f) x↔Nul n c f x:=by
 constructor
 ·intro h
  have a:sm c (fun i=>x i*sm c (fun j=>gr n f i j*x j))=0:=a2b fun i hi=>by rw[h i hi];grind
  have b:sm c (fun i=>x i*sm c (fun j=>gr n f i j*x j))=sm n fun r=>app c f x r*app c f x r:=by
   rw[a0f (g:=fun i=>sm n fun r=>app c f x r*(f r i*x i)) fun i _=>by rw[b0R,<-a1l];exact a0f fun r _=>by grind];rw[a2w];exact a0f fun r _=>by rw[a1l];rfl
  rw[b]at a;exact fun i hi=>b1R a i hi
 ·intro h i _
  rw[b0R];exact a2b fun r d=>by rw[show app c f x r=0 from h r d];grind
def NS(n c:Nat)(f:F2)(y b:Nat->Rat):Prop:=∀i,i<c->sm c (fun j=>gr n f i j*b j)=gy n f y i
theorem a9T{n c:Nat}{f:F2}{y b:Nat->Rat}:NS n c f y b↔∀i,i<c->sm n (fun r=>f r i*(y r - app c f b r))=0:=by
 have a:∀i,sm n (fun r=>f r i*(y r - app c f b r))=gy n f y i - sm c (fun j=>gr n f i j*b j):=fun i=>by
  rw[b0R];rw[a0f (g:=fun r=>f r i*y r - f r i*app c f b r) fun r _=>by grind,a6I];rfl
 constructor
 ·intro h i hi;rw[a,h i hi];grind
 ·intro h i hi;have:=h i hi;rw[a]at this;grind
theorem b3q(c:Nat)(f:F2)(x y:Nat->Rat)(i:Nat):app c f (fun j=>x j - y j) i=app c f x i - app c f y i:=by
 unfold app;rw[<-a6I];exact a0f fun j _=>by grind
theorem c0a{n c:Nat}{f:F2}{y b b':Nat->Rat}(h:NS n c f y b)(a:NS n c f y b'):Nul n c f (fun j=>b j - b' j):=a8W.1 fun i hi=>by
 rw[a0f (g:=fun j=>gr n f i j*b j - gr n f i j*b' j) fun j _=>by grind,a6I,h i hi,a i hi];grind
theorem b0S{n c:Nat}{f g:F2}{p:List Nat}{d:Rat}(h:Rref n c g p)(q:RE n c f g d){x:Nat->Rat}(hx:Nul n c f x)(e:∀j,j<c->j∉p->x j=0)(j:Nat)(b:j<c):x j=0:=by
 by_cases l:j∈p
 ·obtain⟨k,i,rfl⟩:=List.getElem_of_mem l
  have m:=(q.nul x).1 hx k (Nat.lt_of_lt_of_le i h.le);have o:sm c (fun j=>if j∈p then 0 else g k j*x j)=0:=a2b fun j b=>by
   by_cases a:j∈p
   ·simp[a]
   ·simp[a,e j b a]
  rw[h.row k i,o]at m;grind
 ·exact e j b l
theorem c0b{n c:Nat}{f g:F2}{p:List Nat}{d:Rat}(o:Rref n c g p)(m:RE n c f g d){y b b':Nat->Rat}(h:NS n c f y b)(k:NS n c f y b')(l:∀j,j<c->j∉p->b j=0)(e:∀j,j<c->j∉p->b' j=0)(j:Nat)(a:j<c):b j=b' j:=by
 have:=b0S o m (c0a h k) (fun j a i=>by rw[l j a i,e j a i];grind) j a;grind
theorem Rref.sub2{n m c:Nat}{f g:F2}{p q:List Nat}(i:Rref n c f p)(b:Rref m c g q)(o:∀x,Nul n c f x->Nul m c g x)(j:Nat)(l:j∈q):j∈p:=by
 refine Classical.byContradiction fun d=>?_;obtain⟨k,e,rfl⟩:=List.getElem_of_mem l;have h:=o _ (i.nv_nul d (b.lt k e)) k (Nat.lt_of_lt_of_le e b.le);rw[a1E q[k] (b.lt k e)]at h
 ·rw[b.one k e,a4f]at h;grind
 ·intro x _ hx
  rcases Nat.lt_or_gt_of_ne hx with a|a
  ·rw[b.left k e x a];grind
  ·rw[i.nv_supp d a];grind
theorem Rref.piv2{n m c:Nat}{f g:F2}{p q:List Nat}(a:Rref n c f p)(b:Rref m c g q)(d:∀x,Nul n c f x↔Nul m c g x):p=q:=
 b0J p q a.pw b.pw fun x=>⟨b.sub2 a (fun x h=>(d x).2 h) x,a.sub2 b (fun x h=>(d x).1 h) x⟩
theorem Rref.drop{n c:Nat}{f:F2}{p:List Nat}(h:Rref n (c+1) f p)(d:c∉p):Rref n c f p:=
 ⟨h.le,fun i hi=>by
  have a:=h.lt i hi;have b:p[i]≠c:=by rintro rfl;exact d (List.getElem_mem _)
  omega,h.inc,h.left,h.one,h.zero,fun i a b j e=>h.below i a b j (by omega)⟩
theorem b5F{n c:Nat}{f:F2}{b:Nat->Rat}{r:F2}{d:Rat}(h:RE n (c+1) (a3s c f b) r d)(x:Nat->Rat):Nul n c f x↔Nul n c r x:=by
 have e:∀(g:F2),Nul n (c+1) g (fun j=>if j=c then 0 else x j)↔Nul n c g x:=fun g=>by
  constructor
  ·intro h i hi
   have a:=h i hi;unfold sm at a;rw[a0f (g:=fun j=>g i j*x j) fun j k=>by simp[show j≠c by omega]]at a;simp at a;grind
  ·intro h i hi
   unfold sm;rw[a0f (g:=fun j=>g i j*x j) fun j k=>by simp[show j≠c by omega],h i hi];simp;grind
 have e2:Nul n (c+1) (a3s c f b) (fun j=>if j=c then 0 else x j)↔Nul n c f x:=by
  constructor
  ·intro h i hi
   have a:=h i hi;unfold sm at a;rw[a0f (g:=fun j=>f i j*x j) fun j k=>by simp[a3s,show j≠c by omega]]at a;simp at a;grind
  ·intro h i hi
   unfold sm;rw[a0f (g:=fun j=>f i j*x j) fun j k=>by simp[a3s,show j≠c by omega],h i hi];simp;grind
 rw[<-e2,<-e r];exact h.nul _
theorem b3r{n c:Nat}{f r:F2}{y:Nat->Rat}{q:List Nat}{d:Rat}(l:Rref c (c+1) r q)(h:RE c (c+1) (a3s c (gr n f) (gy n f y)) r d):c∉q:=by
 intro hq;obtain⟨k,o,p⟩:=List.getElem_of_mem hq;have e:k<c:=Nat.lt_of_lt_of_le o l.le;obtain⟨a,t⟩:=h.factor (r:=c) (a3s c (gr n f) (gy n f y)) ⟨fun i j=>if i=j then 1 else 0,fun i hi j v=>by
  unfold mul;rw[a1E i hi fun x _ hx=>by simp[Ne.symm hx]];simp⟩
 have u:∀j,j<c->sm c (fun i=>gr n f j i*a k i)=0:=fun j v=>by
  have b:=t k e j (by omega);rw[l.left k o j (by omega)]at b;unfold mul at b;rw[b];exact a0f fun i _=>by simp[a3s,show j≠c by omega];rw[b9Z];grind
 have b:=a8W.1 (show Nul c c (gr n f) (a k)from u);have m:=t k e c (by omega);have s:=l.one k o;rw[p]at s;rw[s]at m;unfold mul at m;rw[a0f (g:=fun i=>sm n fun r=>y r*(f r i*a k i)) fun i _=>by
  simp only[a3s,if_true];unfold gy;rw[<-a1l];exact a0f fun r _=>by grind]at m
 rw[a2w,a2b fun r l=>by rw[a1l,b r l];grind]at m;grind
theorem b8A{n c:Nat}{f g r:F2}{y:Nat->Rat}{p q:List Nat}{d e:Rat}(l:Rref n c g p)(k:RE n c f g e)(b:Rref c (c+1) r q)(h:RE c (c+1) (a3s c (gr n f) (gy n f y)) r d):q=p/\NS n c f y (b3d r q c)/\∀j,j<c->j∉p->b3d r q c j=0:=by
 have i:=b3r b h;have hd:=b.drop i;have a:q=p:=hd.piv2 l fun x=>((b5F h x).symm.trans a8W).trans (k.nul x);refine⟨a,b9T b h i,fun j _ m=>?_⟩;unfold b3d;rw[a6v (by rw[a];exact m)]
theorem b3s{n c:Nat}{f:F2}{y b:Nat->Rat}(h:NS n c f y b)(x:Nat->Rat):sm n (fun r=>(y r - app c f x r)*(y r - app c f x r))=sm n (fun r=>(y r - app c f b r)*(y r - app c f b r))+sm n (fun r=>app c f (fun j=>b j - x j) r*app c f (fun j=>b j - x j) r):=by
 have a:=a9T.1 h;have d:sm n (fun r=>(y r - app c f b r)*app c f (fun j=>b j - x j) r)=0:=by
  rw[a0f (g:=fun r=>sm c fun j=>(b j - x j)*(f r j*(y r - app c f b r))) fun r _=>by
   unfold app;rw[<-a1l];exact a0f fun j _=>by grind]
  rw[a2w];exact a2b fun j e=>by rw[a1l,a j e];grind
 rw[a0f (g:=fun r=>(y r - app c f b r)*(y r - app c f b r)+(2*((y r - app c f b r)*app c f (fun j=>b j - x j) r)+app c f (fun j=>b j - x j) r*app c f (fun j=>b j - x j) r)) fun r _=>by rw[b3q];grind];rw[a5j,a5j,a1l,d];grind
theorem b5G{n c:Nat}{f:F2}{y b:Nat->Rat}(h:NS n c f y b)(x:Nat->Rat):sm n (fun r=>(y r - app c f b r)*(y r - app c f b r))<=sm n (fun r=>(y r - app c f x r)*(y r - app c f x r)):=by
 rw[b3s h x];have:=b5E n (app c f (fun j=>b j - x j));grind
theorem c0c{n c:Nat}{f:F2}{y b:Nat->Rat}(h:NS n c f y b):sm n (fun r=>(y r - app c f b r)*(y r - app c f b r))=sm n (fun r=>y r*y r) - sm c (fun j=>b j*gy n f y j):=by
 have a:=b3s h (fun _=>0);have e1:∀r,app c f (fun _=>0) r=0:=fun r=>a2b fun j _=>by grind
 have e2:∀r,app c f (fun j=>b j - 0) r=app c f b r:=fun r=>by
  have:(fun j=>b j - 0)=b:=funext fun j=>by grind
  rw[this]
 rw[a0f (g:=fun r=>y r*y r) fun r _=>by rw[e1];grind]at a;rw[a0f (f:=fun r=>app c f (fun j=>b j - 0) r*app c f (fun j=>b j - 0) r) (g:=fun r=>app c f b r*app c f b r) fun r _=>by rw[e2]]at a;have d:sm n (fun r=>app c f b r*app c f b r)=sm c (fun j=>b j*gy n f y j):=by
  rw[a0f (f:=fun j=>b j*gy n f y j) (g:=fun j=>b j*sm c (fun k=>gr n f j k*b k)) fun j e=>by rw[h j e]];rw[a0f (f:=fun j=>b j*sm c (fun k=>gr n f j k*b k)) (g:=fun j=>sm n fun r=>app c f b r*(f r j*b j)) fun j _=>by rw[b0R,<-a1l];exact a0f fun r _=>by grind];rw[a2w];exact a0f fun r _=>by rw[a1l];rfl
 rw[d]at a;grind
def usd(f:F2)(p:List Nat):F2:=fun r a=>f r (p.getD a 0)
def b4G(p:List Nat)(z:Nat->Rat):Nat->Rat:=fun j=>match p.findIdx? (· ==j)with|some a=>z a|none=>0
theorem a6S{n c:Nat}{g:F2}{p:List Nat}(d:Rref n c g p)(z:Nat->Rat)(a:Nat)(b:a<p.length):b4G p z p[a]=z a:=by
 unfold b4G;rw[d.idx a b]
theorem a5q{p:List Nat}(z:Nat->Rat){j:Nat}(a:j∉p):b4G p z j=0:=by
 unfold b4G;rw[a6v a]
theorem c0d{n c:Nat}{g:F2}{p:List Nat}(f:Rref n c g p)(F:Nat->Rat)(q:∀j,j<c->j∉p->F j=0):sm c F=sm p.length fun a=>F (p.getD a 0):=by
 have m:∀k (b:k<p.length),p.getD k 0=p[k]:=fun k b=>by simp[List.getD_eq_getElem?_getD,b]
 have e:∀j,j<c->F j=sm p.length fun a=>if j=p.getD a 0 then F j else 0:=fun j l=>by
  by_cases d:j∈p
  ·obtain⟨k,b,rfl⟩:=List.getElem_of_mem d
   rw[a1E k b fun i hi h=>by
    rw[m i hi,if_neg];intro e2;rcases Nat.lt_or_gt_of_ne h with a|a
    ·have:=f.inc i k a b;omega
    ·have:=f.inc k i a hi;omega]
   rw[m k b,if_pos rfl]
  ·rw[q j l d,a2b fun i hi=>by split<;>rfl]
 rw[a0f e,a2w];exact a0f fun a o=>by
  rw[m a o,a1E p[a] (f.lt a o) fun j _ l=>by rw[if_neg l],if_pos rfl]
theorem b0T{n c:Nat}{f g:F2}{p:List Nat}(d:Rref n c g p)(z:Nat->Rat)(r:Nat):app c f (b4G p z) r=app p.length (usd f p) z r:=by
 unfold app;rw[c0d d _ fun j _ e=>by rw[a5q z e];grind];exact a0f fun a b=>by
  have h:p.getD a 0=p[a]:=by simp[List.getD_eq_getElem?_getD,b]
  unfold usd;rw[h,a6S d z a b]
theorem c0e{n c:Nat}{f g:F2}{p:List Nat}{d:Rat}(b:Rref n c g p)(i:RE n c f g d){z:Nat->Rat}(hz:Nul n p.length (usd f p) z)(a:Nat)(e:a<p.length):z a=0:=by
 have h:Nul n c f (b4G p z):=fun r l=>(b0T (f:=f) b z r).trans (hz r l);have:=b0S b i h (fun j _ k=>a5q z k) p[a] (b.lt a e);rwa[a6S b z a e]at this
theorem c0f{n c:Nat}{f g:F2}{p:List Nat}{d:Rat}(a:Rref n c g p)(e:RE n c f g d){y z:Nat->Rat}(hz:NS n p.length (usd f p) y z):NS n c f y (b4G p z):=by
 refine a9T.2 fun i hi=>?_;have b:=a9T.1 hz;have h:=b1O a e;rw[a0f (g:=fun r=>sm p.length fun k=>g k i*(usd f p r k*(y r - app p.length (usd f p) z r))) fun r l=>by
  rw[b0T a,h r l i hi];unfold mul;have:∀(A B:Rat),A*B=B*A:=fun A B=>by grind
  rw[this,<-a1l];exact a0f fun k _=>by unfold usd;grind]
 rw[a2w];exact a2b fun k j=>by rw[a1l,b k j];grind
def Inv(m:Nat)(G v:F2):Prop:=(∀a,a<m->∀b,b<m->sm m (fun k=>G a k*v k b)=if a=b then 1 else 0)/\∀a,a<m->∀b,b<m->sm m (fun k=>v a k*G k b)=if a=b then 1 else 0
theorem c0g{n m:Nat}{u v:F2}(h:Inv m (gr n u) v)(y:Nat->Rat):NS n m u y fun a=>sm m fun b=>v a b*gy n u y b:=fun i hi=>by
 rw[a0f (g:=fun j=>sm m fun b=>gy n u y b*(gr n u i j*v j b)) fun j _=>by rw[<-a1l];exact a0f fun b _=>by grind];rw[a2w,a0f (g:=fun b=>gy n u y b*if i=b then 1 else 0) fun b c=>by rw[a1l,h.1 i hi b c]];rw[a1E i hi fun b _ c=>by simp[Ne.symm c]];simp
def hat(m:Nat)(u v:F2):F2:=fun i j=>sm m fun a=>u i a*sm m fun b=>v a b*u j b
open Go.Lim
def a3f(m:Mat)(b:List Rat)(n:Nat):Mat:=(List.range n).map fun i=>m.getD i []++[b.getD i 0]
theorem a2p{m:Mat}{b:List Rat}{n c:Nat}(hs:Shp n c m):Shp n (c+1) (a3f m b n):=⟨by simp[a3f],fun r a=>by
 obtain⟨i,hi,rfl⟩:=List.mem_map.1 a;rw[List.length_append,hs.row (List.mem_range.1 hi)];rfl⟩
theorem b3t{m:Mat}{b:List Rat}{n i:Nat}(h:i<(a3f m b n).length)(hi:i<m.length)(a:i<b.length):(a3f m b n)[i]=m[i]++[b[i]]:=by
 simp[a3f,hi,a,List.getD_eq_getElem?_getD]
theorem a8X{m:Mat}{b:List Rat}{n c:Nat}(hs:Shp n c m):Eqm n (c+1) (ent (a3f m b n)) (a3s c (ent m) fun i=>b.getD i 0):=fun i hi j d=>by
 have a:=hs.row hi;have e:(a3f m b n).getD i []=m.getD i []++[b.getD i 0]:=by simp[a3f,List.getD_eq_getElem?_getD,hi]
 show((a3f m b n).getD i []).getD j 0=_
 unfold a3s;rw[e,List.getD_eq_getElem?_getD];by_cases h:j=c
 ·rw[if_pos h,List.getElem?_append_right (by omega),a];subst h;simp
 ·rw[if_neg h,List.getElem?_append_left (by omega),<-List.getD_eq_getElem?_getD];rfl
theorem b0U(k:Nat):eN [] k=([],[],false):=by
 induction k with
 |zero=>rfl
 |succ k ih=>unfold eN;rw[ih];rfl
theorem b0V(k:Nat):a0J [] k=([],[]):=by unfold a0J;rw[b0U];rfl
theorem b3u{n c:Nat}{m:Mat}(hs:Shp n c m)(a:Nat)(h:0<n->a=c):a0J m a=a0J m c:=by
 by_cases b:n=0
 ·have:m= []:=List.eq_nil_of_length_eq_zero (by rw[hs.1];exact b)
  subst this;rw[b0V,b0V]
 ·rw[h (by omega)]
theorem b3v{n c:Nat}{m:Mat}(hs:Shp n c m)(b:Nat)(h:0<n->b=c)(d:b2p m c):b2p m b:=by
 by_cases f:n=0
 ·have:m= []:=List.eq_nil_of_length_eq_zero (by rw[hs.1];exact f)
  subst this;obtain⟨B,g,i,_⟩:=d;have a:=i 0 (Nat.zero_le _);rw[b0U]at a;refine⟨B,g,fun j _=>by rw[b0U];exact a,fun t e=>?_⟩;rw[b0U]at e |-;have:t=0:=by simpa using e
  subst this;exact a
 ·rw[h (by omega)];exact d
def sN(R:Mat)(p:List Nat)(c:Nat):Nat->List Rat
 |0=>List.replicate c 0
 |i+1=>(sN R p c i).set (p.getD i 0) (ent R i c)
theorem b0W(R:Mat)(p:List Nat)(c i:Nat):(sN R p c i).length=c:=by
 induction i with
 |zero=>exact List.length_replicate
 |succ i ih=>show((sN R p c i).set _ _).length=c;rw[List.length_set,ih]
theorem c0h{n c:Nat}{R:Mat}{p:List Nat}(hr:Rref n (c+1) (ent R) p)(i:Nat)(hi:i<=p.length)(x:Nat)(hx:x<c):(sN R p c i).getD x 0=match p.findIdx? (· ==x)with|some k=>if k<i then ent R k c else 0|none=>0:=by
 induction i with
 |zero=>
  show(List.replicate c (0:Rat)).getD x 0=_
  have:(List.replicate c (0:Rat)).getD x 0=0:=by simp[List.getD_eq_getElem?_getD,hx]
  rw[this];cases p.findIdx? (· ==x)<;>simp
 |succ i ih=>
  have hip:i<p.length:=by omega
  have hpi:p.getD i 0=p[i]:=by simp[List.getD_eq_getElem?_getD,hip]
  show((sN R p c i).set (p.getD i 0) (ent R i c)).getD x 0=_
  rw[hpi,List.getD_eq_getElem?_getD,List.getElem?_set,b0W];by_cases h:p[i]=x
  ·rw[if_pos h,if_pos (by omega),<-h,hr.idx i hip];simp
  ·rw[if_neg h,<-List.getD_eq_getElem?_getD,ih (by omega)]
   cases hf:p.findIdx? (· ==x)with
   |none=>rfl
   |some k=>
    have hk:=List.findIdx?_eq_some_iff_getElem.1 hf;obtain⟨hk1,hk2,_⟩:=hk;have hki:k≠i:=by rintro rfl;exact h (by simpa using hk2)
    dsimp only
    by_cases h2:k<i
    ·rw[if_pos h2,if_pos (by omega)]
    ·rw[if_neg h2,if_neg (by omega)]
def b7e(R:Mat)(p:List Nat)(c:Nat):List Rat:=sN R p c p.length
theorem b0X{n c:Nat}{R:Mat}{p:List Nat}(hr:Rref n (c+1) (ent R) p)(x:Nat)(hx:x<c):(b7e R p c).getD x 0=b3d (ent R) p c x:=by
 unfold b7e b3d;rw[c0h hr _ (Nat.le_refl _) x hx];cases hf:p.findIdx? (· ==x)with
 |none=>rfl
 |some k=>
  obtain⟨hk1,_⟩:=List.findIdx?_eq_some_iff_getElem.1 hf
  dsimp only
  rw[if_pos hk1]
noncomputable def b9u(m:Mat)(n:Nat):Rat:=if(eN m n).2.2 then - pr n (fun i=>ent (eN m n).1 i i)else pr n (fun i=>ent (eN m n).1 i i)
theorem a8h{n:Nat}{m:Mat}(b:n<=4)(hs:Shp n n m):b9u m n=det n (ent m):=by
 have a:=a6o hs n;have c:=a.ech.det b;have d:=a.re.det_same b;unfold b9u;rw[<-c,d];split<;>grind
noncomputable def a8Y(m:Mat)(c:Nat):Nat:=(eN m c).2.1.length
theorem a8Z(m:Mat)(c:Nat):a8Y m c=(a0J m c).2.length:=rfl
theorem b3w{n:Nat}{m:Mat}(g:n<=4)(hs:Shp n n m):a8Y m n=n↔b9u m n≠0:=by
 rw[a8h g hs,a8Z];obtain⟨l,j,d,i⟩:=a1d hs (c:=n);have b:=i.det_same g;have a:=j.det g;have k:=i.ne;by_cases e:(a0J m n).2.length=n
 ·rw[if_pos e]at a
  refine⟨fun _ h=>?_,fun _=>e⟩;rw[a,h]at b;grind
 ·rw[if_neg e]at a
  refine⟨fun h=>absurd h e,fun h=>?_⟩;rw[a]at b;rcases Rat.mul_eq_zero.1 b.symm with f|f
  ·exact absurd f k
  ·exact absurd f h
end Go.Lin
namespace Go.Rep
open Go.RowKit Go.Lim
abbrev Hdr:=Option Addr×Nat×Nat
def HdR:Mem->Value->Hdr->Prop:=fun _ u x=>u= .slice x.1 x.2.1 x.2.2
theorem HdR.elem:Elem HdR 1:=⟨fun _ _ _ _ _ h=>h,by rintro h u x rfl;rfl,by
 rintro h u x rfl c a;simp[a0j,Value.cells]at a;subst a;rfl,Nat.one_pos⟩
theorem HdR.one:a3B HdR:=by rintro h u x rfl;rfl
theorem HdR.pure:∀h a u x,HdR h u x->HdR a u x:=fun _ _ _ _ h=>h
theorem OL.frame{α:Type}{R:Mem->Value->α->Prop}{sz:Nat}{X:Nat->Bool}{base:Nat}{e:TypeId}{w w':World}{ao:Option Addr}{cap:Nat}{l:List α}(f:∀h o u x,R h u x->R o u x){Y Z:Nat->Bool}(h:OL R sz X base e w ao cap l)(z:ExtX Y w w')(A:∀k,ob ao k=true->Y k=false)(B:∀k,ob ao k=true->Z k=false):OL R sz Z base e w' ao cap l:=by
 have C:=fun k (a:ob ao k=true)=>h.block a;obtain⟨hx,D,p,q,d,n,s⟩:=h;refine⟨B,D,p,q,d,?_,fun i hi j=>f _ _ _ _ (s i hi j)⟩;refine⟨n.1,?_⟩;rcases n.2 with r|⟨g,c,b,m,t,v,y⟩
 ·exact .inl r
 ·refine .inr ⟨g,c,b,m,t,?_,y⟩
  simp at m;obtain⟨rfl,rfl⟩:=m;have a:ob (some ⟨g,0,none⟩) g=true:=by simp[ob]
  rw[z.block g (C g a).2 (A g a),v]
def cut(Z:Nat->Bool)(ao:Option Addr):Nat->Bool:=fun k=>Z k&& !ob ao k
theorem a4I{Z:Nat->Bool}{ao:Option Addr}(h:∀k,ob ao k=true->Z k=true):un (cut Z ao) ao=Z:=by
 funext k
 have:=h k;unfold un cut;cases a:ob ao k<;>cases hz:Z k<;>simp_all
theorem b0Y{Z:Nat->Bool}{ao:Option Addr}{k:Nat}(h:cut Z ao k=true):Z k=true/\ob ao k=false:=by simpa[cut]using h
theorem a5r{Z:Nat->Bool}{ao:Option Addr}{k:Nat}(h:Z k=true)(a:ob ao k=false):cut Z ao k=true:=by simp[cut,h,a]
def obs(hs:List Hdr):Nat->Bool:=fun k=>hs.any fun h=>ob h.1 k
theorem a1N{hs:List Hdr}{i:Nat}(hi:i<hs.length){k:Nat}(h:ob hs[i].1 k=true):obs hs k=true:=by
 unfold obs;rw[List.any_eq_true];exact⟨_,List.getElem_mem hi,h⟩
theorem a5s{hs:List Hdr}{k:Nat}(h:obs hs k=true):∃i,∃hi:i<hs.length,ob hs[i].1 k=true:=by
 unfold obs at h;rw[List.any_eq_true]at h;obtain⟨x,hx,a⟩:=h;obtain⟨i,hi,rfl⟩:=List.getElem_of_mem hx;exact⟨i,hi,a⟩
def mz(X:Nat->Bool)(ao:Option Addr)(hs:List Hdr):Nat->Bool:=fun k=>X k||ob ao k||obs hs k
def mb(ao:Option Addr)(hs:List Hdr):Nat->Bool:=fun k=>ob ao k||obs hs k
theorem a1T{X:Nat->Bool}{ao:Option Addr}{hs:List Hdr}{k:Nat}:mz X ao hs k=true↔X k=true\/ob ao k=true\/obs hs k=true:=by simp[mz,or_assoc]
theorem a2D{ao:Option Addr}{hs:List Hdr}{k:Nat}:mb ao hs k=true↔ob ao k=true\/obs hs k=true:=by simp[mb]
structure MO (X:Nat->Bool) (base:Nat) (e1 e2:TypeId) (w:World) (ao:Option Addr) (cap:Nat) (hs:List Hdr) (m:List (List Rat)):Prop where
 outer:OL HdR 1 X base e1 w ao cap hs
 len:hs.length=m.length
 rlen:∀i (hi:i<hs.length) (hi':i<m.length),hs[i].2.1=m[i].length
 row:∀i (hi:i<hs.length) (hi':i<m.length),OL QC 3 (cut (mz X ao hs) hs[i].1) base e2 w hs[i].1 hs[i].2.2 m[i]
 sep:∀i (hi:i<hs.length) k,ob hs[i].1 k=true->X k=false/\ob ao k=false
 dis:∀i j (hi:i<hs.length) (hj:j<hs.length),i≠j->∀k,ob hs[i].1 k=true->ob hs[j].1 k=false
section
variable {X:Nat->Bool} {base:Nat} {e1 e2:TypeId} {w w':World} {ao:Option Addr} {cap:Nat} {hs:List Hdr} {m:List (List Rat)}
theorem MO.out_sep(h:MO X base e1 e2 w ao cap hs m){k:Nat}(a:ob ao k=true):X k=false/\obs hs k=false:=by
 refine⟨h.outer.1 k a,?_⟩;cases c:obs hs k
 ·rfl
 ·obtain⟨i,hi,b⟩:=a5s c
  have:=(h.sep i hi k b).2;rw[a]at this;simp at this
theorem MO.obs_sep(h:MO X base e1 e2 w ao cap hs m){k:Nat}(b:obs hs k=true):X k=false/\ob ao k=false:=by
 obtain⟨i,hi,a⟩:=a5s b;exact h.sep i hi k a
theorem MO.mb_X(h:MO X base e1 e2 w ao cap hs m){k:Nat}(b:mb ao hs k=true):X k=false:=by
 rcases a2D.1 b with a|a
 ·exact(h.out_sep a).1
 ·exact(h.obs_sep a).1
theorem MO.mb_block(h:MO X base e1 e2 w ao cap hs m){k:Nat}(c:mb ao hs k=true):base<=k/\k<w.heap.size:=by
 rcases a2D.1 c with a|a
 ·exact h.outer.block a
 ·obtain⟨i,hi,b⟩:=a5s a
  exact(h.row i hi (by have:=h.len;omega)).block b
theorem MO.mz_sub(_:MO X base e1 e2 w ao cap hs m){i:Nat}(hi:i<hs.length)(k:Nat)(a:ob hs[i].1 k=true):mz X ao hs k=true:=a1T.2 (.inr (.inr (a1N hi a)))
theorem MO.hz(h:MO X base e1 e2 w ao cap hs m)(b:HX X w):HX (mz X ao hs) w:=fun k c=>by
 rcases a1T.1 c with a|a
 ·exact b k a
 ·exact(h.mb_block (a2D.2 a)).2
theorem MO.ext(h:MO X base e1 e2 w ao cap hs m){Y X':Nat->Bool}(n:ExtX Y w w')(e:∀k,k<w.heap.size->Y k=true->X k=true)(g:∀k,k<w.heap.size->X' k=true->X k=true):MO X' base e1 e2 w' ao cap hs m:=by
 have d:∀k,mb ao hs k=true->X' k=false:=fun k b=>by
  cases j:X' k
  ·rfl
  ·have:=g k (h.mb_block b).2 j;rw[h.mb_X b]at this;simp at this
 have f:∀k,mb ao hs k=true->Y k=false:=fun k b=>by
  cases j:Y k
  ·rfl
  ·have:=e k (h.mb_block b).2 j;rw[h.mb_X b]at this;simp at this
 refine⟨h.outer.ext HdR.elem n e g,h.len,h.rlen,fun i hi l=>?_,fun i hi k b=>⟨d k (a2D.2 (.inr (a1N hi b))),(h.sep i hi k b).2⟩,h.dis⟩;refine(h.row i hi l).ext QC.elem n (fun k b c=>a5r (a1T.2 (.inl (e k b c))) ?_) (fun k b c=>?_)
 ·cases q:ob hs[i].1 k
  ·rfl
  ·have:=f k (a2D.2 (.inr (a1N hi q)));rw[c]at this;simp at this
 ·obtain⟨o,p⟩:=b0Y c
  refine a5r (a1T.2 ?_) p;rcases a1T.1 o with a|a
  ·exact .inl (g k b a)
  ·exact .inr a
theorem MO.ext0(h:MO X base e1 e2 w ao cap hs m)(a:Ext w w'):MO X base e1 e2 w' ao cap hs m:=
 h.ext a (fun k _ b=>by simp[noY]at b) (fun _ _ h=>h)
theorem MO.upd(h:MO X base e1 e2 w ao cap hs m){i:Nat}(hi:i<hs.length){l:List Rat}(d:ExtX (ob hs[i].1) w w')(n:∀g:i<m.length,l.length=m[i].length)(o:OL QC 3 (cut (mz X ao hs) hs[i].1) base e2 w' hs[i].1 hs[i].2.2 l):MO X base e1 e2 w' ao cap hs (m.set i l):=by
 refine⟨h.outer.frame HdR.pure d (fun k b=>?_) h.outer.1,by rw[List.length_set];exact h.len,fun j c a=>?_,fun j c a=>?_,h.sep,h.dis⟩
 ·cases f:ob hs[i].1 k
  ·rfl
  ·have:=(h.sep i hi k f).2;rw[b]at this;simp at this
 ·rw[List.getElem_set]
  split
  ·subst_vars;rw[n (by have:=h.len;omega)];exact h.rlen _ c (by have:=h.len;omega)
  ·exact h.rlen j c (by simpa using a)
 ·rw[List.getElem_set]
  split
  ·subst_vars;exact o
  ·rename_i e
   exact(h.row j c (by simpa using a)).ext QC.elem d (fun k _ b=>a5r (h.mz_sub hi k b) (h.dis i j hi c e k b)) (fun _ _ b=>b)
theorem MO.perm(h:MO X base e1 e2 w ao cap hs m){b:List Hdr}{s:List (List Rat)}(f:Nat->Nat)(n:∀i,i<hs.length->f i<hs.length)(p:∀i j,i<hs.length->j<hs.length->f i=f j->i=j)(l:∀i,i<hs.length->∃j,j<hs.length/\f j=i)(C:b.length=hs.length)(A:s.length=m.length)(g:∀i (hi:i<b.length) (d:f i<hs.length),b[i]=hs[f i])(x:∀i (hi:i<s.length) (d:f i<m.length),s[i]=m[f i])(y:ExtX (ob ao) w w')(B:OL HdR 1 X base e1 w' ao cap b):MO X base e1 e2 w' ao cap b s:=by
 have v:=h.len;have q:∀k,obs b k=true↔obs hs k=true:=fun k=>by
  constructor
  ·intro c
   obtain⟨i,hi,r⟩:=a5s c;have a:=n i (by omega);rw[g i hi a]at r;exact a1N a r
  ·intro c
   obtain⟨i,hi,r⟩:=a5s c;obtain⟨j,u,rfl⟩:=l i hi;refine a1N (i:=j) (by omega) ?_;rw[g j (by omega) hi];exact r
 have hz:mz X ao b=mz X ao hs:=by
  funext k
  rw[Bool.eq_iff_iff,a1T,a1T,q]
 refine⟨B,by omega,fun i hi d=>?_,fun i hi d=>?_,fun i hi k c=>?_,fun i j hi u t k c=>?_⟩
 ·have a:=n i (by omega)
  rw[g i hi a,x i d (by omega)];exact h.rlen _ a (by omega)
 ·have a:=n i (by omega)
  rw[hz,g i hi a,x i d (by omega)];exact(h.row _ a (by omega)).ext QC.elem y (fun k _ c=>a5r (a1T.2 (.inr (.inl c))) (by
   cases z:ob hs[f i].1 k
   ·rfl
   ·have:=(h.sep _ a k z).2;rw[c]at this;simp at this)) (fun _ _ c=>c)
 ·have a:=n i (by omega)
  rw[g i hi a]at c;exact h.sep _ a k c
 ·have a:=n i (by omega)
  have o:=n j (by omega);rw[g i hi a]at c;rw[g j u o];exact h.dis _ _ a o (fun e=>t (p i j (by omega) (by omega) e)) k c
theorem MO.put(h:MO X base e1 e2 w ao cap hs m){i:Nat}(hi:i<hs.length)(H:hs[i].1=none){a:Option Addr}{c:Nat}{l:List Rat}{E:World}(B:Ext w E)(n:∀k,ob a k=true->w.heap.size<=k)(J:OL QC 3 (mz X ao hs) base e2 E a c l)(G:HX X w)(F:ExtX (ob ao) E w')(I:OL HdR 1 X base e1 w' ao cap (hs.set i (a,l.length,c))):MO X base e1 e2 w' ao cap (hs.set i (a,l.length,c)) (m.set i l):=by
 have u:=h.len;have A:ExtX (ob ao) w w':=(ExtX.of B).trans F;have x:∀k,obs (hs.set i (a,l.length,c)) k=true↔obs hs k=true\/ob a k=true:=fun k=>by
  constructor
  ·intro b
   obtain⟨j,f,d⟩:=a5s b;rw[List.getElem_set]at d;split at d
   ·exact .inr d
   ·exact .inl (a1N (by simpa using f) d)
  ·rintro (b|b)
   ·obtain⟨j,f,d⟩:=a5s b
    refine a1N (i:=j) (by simpa using f) ?_;rw[List.getElem_set];split
    ·subst_vars;rw[H]at d;simp[ob]at d
    ·exact d
   ·refine a1N (i:=i) (by simpa using hi) ?_
    rw[List.getElem_set];simpa using b
 have v:∀k,mz X ao (hs.set i (a,l.length,c)) k=true↔mz X ao hs k=true\/ob a k=true:=fun k=>by
  rw[a1T,a1T,x];constructor
  ·rintro (h|h|h|h)
   ·exact .inl (.inl h)
   ·exact .inl (.inr (.inl h))
   ·exact .inl (.inr (.inr h))
   ·exact .inr h
  ·rintro ((h|h|h)|h)
   ·exact .inl h
   ·exact .inr (.inl h)
   ·exact .inr (.inr (.inl h))
   ·exact .inr (.inr (.inr h))
 have o:∀k,mb ao hs k=true->ob a k=false:=fun k b=>by
  cases p:ob a k
  ·rfl
  ·have:=n k p;have:=(h.mb_block b).2;omega
 have t:∀k,ob a k=true->ob ao k=false:=fun k b=>by
  cases p:ob ao k
  ·rfl
  ·have:=o k (a2D.2 (.inl p));rw[b]at this;simp at this
 refine⟨I,by simp[u],fun j f s=>?_,fun j f s=>?_,fun j f k b=>?_,fun j q f hq D k b=>?_⟩
 ·rw[List.getElem_set,List.getElem_set]
  split
  ·rfl
  ·exact h.rlen j (by simpa using f) (by simpa using s)
 ·have g:j<hs.length:=by simpa using f
  have C:j<m.length:=by simpa using s
  by_cases e:i=j
  ·subst e
   simp only[List.getElem_set_self];refine J.ext QC.elem F (fun k _ b=>a1T.2 (.inr (.inl b))) (fun k b hz=>?_);obtain⟨z,d⟩:=b0Y hz;rcases(v k).1 z with r|r
   ·exact r
   ·rw[d]at r;simp at r
  ·simp only[List.getElem_set_ne e]
   refine(h.row j g C).ext QC.elem A (fun k _ b=>a5r (a1T.2 (.inr (.inl b))) ?_) (fun k b hz=>?_)
   ·cases p:ob hs[j].1 k
    ·rfl
    ·have:=(h.sep j g k p).2;rw[b]at this;simp at this
   ·obtain⟨z,d⟩:=b0Y hz
    rcases(v k).1 z with r|r
    ·exact a5r r d
    ·have:=n k r;omega
 ·rw[List.getElem_set]at b
  split at b
  ·exact⟨by
    cases p:X k
    ·rfl
    ·have:=G k p;have:=n k b;omega,t k b⟩
  ·exact h.sep j (by simpa using f) k b
 ·have g:j<hs.length:=by simpa using f
  have y:q<hs.length:=by simpa using hq
  rw[List.getElem_set]at b |-;split at b
  ·rw[if_neg (by omega)]
   cases p:ob hs[q].1 k
   ·rfl
   ·have:=o k (a2D.2 (.inr (a1N y p)));dsimp only at b;rw[b]at this;simp at this
  ·split
   ·exact o k (a2D.2 (.inr (a1N g b)))
   ·exact h.dis j q g y D k b
theorem MO.hdr(h:MO X base e1 e2 w ao cap hs m)(i:Nat)(hi:i<hs.length):w.cell? (adr ao i)=some (.slice hs[i].1 hs[i].2.1 hs[i].2.2)/\w.frozen? (adr ao i)=false:=by
 obtain⟨u,a,b,rfl⟩:=h.outer.cell HdR.one i hi;exact⟨a,b⟩
theorem MO.rowS(h:MO X base e1 e2 w ao cap hs m){i:Nat}(hi:i<hs.length)(a:i<m.length):Sl QC 3 (_root_.Go.Rep.mk (cut (mz X ao hs) hs[i].1) w) hs[i].1 m[i]:=(h.row i hi a).sl QC.elem
theorem MO.rowX(h:MO X base e1 e2 w ao cap hs m){i:Nat}(hi:i<hs.length)(a:i<m.length):Sl QC 3 (_root_.Go.Rep.mk X w) hs[i].1 m[i]:=(h.rowS hi a).mono QC.mono (a1v fun k _ b=>a5r (a1T.2 (.inl b)) (by
 cases c:ob hs[i].1 k
 ·rfl
 ·have:=(h.sep i hi k c).1;rw[b]at this;simp at this))
theorem MO.capLen(h:MO X base e1 e2 w ao cap hs m):m.length<=cap:=by rw[<-h.len];exact h.outer.lenCap
theorem MO.mc(h:MO X base e1 e2 w ao cap hs m):MC (_root_.Go.Rep.mk X w) (.slice ao m.length cap) m:=by
 have f:=h.len;refine⟨ao,cap,rfl,h.capLen,fun g=>?_,fun i hi=>?_⟩
 ·have:=h.outer.hd;rw[f]at this;exact this g
 ·obtain⟨c,_⟩:=h.hdr i (by omega)
  have k:=h.rowX (i:=i) (by omega) hi;refine⟨.slice hs[i].1 hs[i].2.1 hs[i].2.2,rfl,fun j e=>?_,?_⟩
  ·have a:j=0:=by simp[Value.cells]at e;omega
   subst a;unfold _root_.Go.Rep.mk;have d:X (adr ao (i*1+0)).block=false:=by
    obtain⟨b,l,rfl⟩:=h.outer.hd (by omega);exact h.outer.1 _ (by simp[ob,adr])
   rw[d];simpa[Value.cells]using c
  ·rw[h.rlen i (by omega) hi]
   exact⟨_,_,rfl,by have:=(h.row i (by omega) hi).lenCap;exact this,k⟩
theorem MO.start{n:Nat}(d:OL HdR 1 X base e1 w ao cap (List.replicate n (none,0,0)))(e2:TypeId):MO X base e1 e2 w ao cap (List.replicate n (none,0,0)) (List.replicate n []):=by
 refine⟨d,by simp,fun i hi a=>by simp,fun i hi a=>?_,fun i hi k b=>?_,fun i j hi e c k b=>?_⟩
 ·simp only[List.getElem_replicate];exact OL.nil _ _ _ _ _ _
 ·simp[ob]at b
 ·simp[ob]at b
end
end Go.Rep
namespace Go.Rep
open Go.RowKit Go.Lim
section
variable {P:Program} {α:Type} {R:Mem->Value->α->Prop} {X:Nat->Bool} {base:Nat} {e:TypeId} {w:World} {ao:Option Addr} {cap:Nat} {l:List α}
theorem OL.cell3(h:OL R 3 X base e w ao cap l)(i:Nat)(hi:i<l.length){g o:Nat}(hg:adr ao (i*3)=⟨g,o,none⟩):∃u v0 v1 v2,a0j u= [v0,v1,v2]/\(w.cell? ⟨g,o,none⟩=some v0/\w.frozen? ⟨g,o,none⟩=false)/\(w.cell? ⟨g,o+1,none⟩=some v1/\w.frozen? ⟨g,o+1,none⟩=false)/\(w.cell? ⟨g,o+2,none⟩=some v2/\w.frozen? ⟨g,o+2,none⟩=false)/\R (mk (un X ao) w) u l[i]:=by
 obtain⟨us,h1,h2,_,h3,h5⟩:=h.cells;have hi':i<us.length:=by omega
 have hsz:us[i].cells.size=3:=h2 _ (List.getElem_mem _);have hlen:(a0j us[i]).length=3:=by simp[a0j,hsz]
 obtain⟨v0,v1,v2,hv⟩:∃v0 v1 v2,a0j us[i]= [v0,v1,v2]:=by
  match hc:a0j us[i],hlen with
  | [a,b,c],_=>exact⟨a,b,c,rfl⟩
 have ha:∀j,adr ao (i*3+j)=⟨g,o+j,none⟩:=fun j=>by rw[<-a9A,hg,Addr.add_lit]
 have key:∀j v,j<3->(a0j us[i])[j]? =some v->w.cell? ⟨g,o+j,none⟩=some v/\w.frozen? ⟨g,o+j,none⟩=false:=fun j v hj hjv=>by
  have hget:=a3C us i j hi' h2 hj;rw[hjv]at hget;have:=h3 _ _ hget;rwa[ha]at this
 exact⟨us[i],v0,v1,v2,hv,key 0 v0 (by omega) (by rw[hv];rfl),key 1 v1 (by omega) (by rw[hv];rfl),key 2 v2 (by omega) (by rw[hv];rfl),h5 i hi' hi⟩
theorem a5O{P:Program}{w:World}{a:Addr}{u v:Value}(b:v.oneCell'=true)(c:w.cell? a=some u)(d:w.frozen? a=false):(store a v).run P w= .ok () (w.setCell a v):=by
 rw[run_store P w a v _ b,c];simp[d]
theorem OL.set3{t:TypeId}(E:TyI P t 3)(d:Elem R 3)(h:OL R 3 X base e w ao cap l)(i:Nat)(hi:i<l.length){g o:Nat}(f:adr ao (i*3)=⟨g,o,none⟩){v0 v1 v2:Value}{x:α}(k:R (mk (un X ao) w) (.agg #[v0,v1,v2]) x):OL R 3 X base e (((w.setCell ⟨g,o,none⟩ v0).setCell ⟨g,o+1,none⟩ v1).setCell ⟨g,o+2,none⟩ v2) ao cap (l.set i x)/\ExtX (ob ao) w (((w.setCell ⟨g,o,none⟩ v0).setCell ⟨g,o+1,none⟩ v1).setCell ⟨g,o+2,none⟩ v2):=by
 obtain⟨N,j,b⟩:=E;obtain⟨_,M,r,s,_,⟨z,u⟩,⟨A,v⟩,⟨B,y⟩,_⟩:=h.cell3 i hi f;obtain⟨w',c,C,D⟩:=h.run_store (P:=P) j b d i hi _ x k;have a:=d.one _ _ _ k;rw[f]at c;have G:v0.oneCell'=true:=a v0 (by simp[a0j,Value.cells]);have H:v1.oneCell'=true:=a v1 (by simp[a0j,Value.cells]);have I:v2.oneCell'=true:=a v2 (by simp[a0j,Value.cells]);have m:(w.setCell ⟨g,o,none⟩ v0).cell? ⟨g,o+1,none⟩=some r:=by rw[World.cell?_setCell_other (h:=by simp)];exact A
 have n:((w.setCell ⟨g,o,none⟩ v0).setCell ⟨g,o+1,none⟩ v1).cell? ⟨g,o+2,none⟩=some s:=by rw[World.cell?_setCell_other (h:=by simp),World.cell?_setCell_other (h:=by simp)];exact B
 have p:(w.setCell ⟨g,o,none⟩ v0).frozen? ⟨g,o+1,none⟩=false:=by rw[World.frozen?_setCell];exact v
 have q:((w.setCell ⟨g,o,none⟩ v0).setCell ⟨g,o+1,none⟩ v1).frozen? ⟨g,o+2,none⟩=false:=by rw[World.frozen?_setCell,World.frozen?_setCell];exact y
 have F:w'=((w.setCell ⟨g,o,none⟩ v0).setCell ⟨g,o+1,none⟩ v1).setCell ⟨g,o+2,none⟩ v2:=by
  have J:=a5O (P:=P) G z u;have K:=a5O (P:=P) H m p;have L:=a5O (P:=P) I n q;simp[storeVar,sizeOf,typeInfo,j,b,Value.cells,storeCells,Addr.add_lit,J,K,L]at c;exact c.symm
 subst F;exact⟨C,D⟩
end
section
variable {X:Nat->Bool} {base:Nat} {e1 e2:TypeId} {w w':World} {ao:Option Addr} {cap:Nat} {hs:List Hdr} {m:List (List Rat)}
theorem MO.old{α:Type}{R:Mem->Value->α->Prop}(f:a3R R){u:Value}{x:α}{d:Nat->Bool}{b:World}(h:MO X base e1 e2 w ao cap hs m)(i:R (_root_.Go.Rep.mk d b) u x)(e:Ext b w)(j:b.heap.size<=base)(g:∀k,k<b.heap.size->X k=true->d k=true):R (_root_.Go.Rep.mk (mz X ao hs) w) u x:=
 f _ _ _ _ (a1i e (fun k _ c=>by simp[noY]at c) fun k c hz=>by
  rcases a1T.1 hz with a|a
  ·exact g k c a
  ·have:=(h.mb_block (a2D.2 a)).1;omega) i
theorem MO.less{α:Type}{R:Mem->Value->α->Prop}(a:a3R R){u:Value}{x:α}(_:MO X base e1 e2 w ao cap hs m)(c:R (_root_.Go.Rep.mk (mz X ao hs) w) u x):R (_root_.Go.Rep.mk X w) u x:=
 a _ _ _ _ (a1v fun _ _ b=>a1T.2 (.inl b)) c
theorem MO.ext_from{b:World}(h:MO X base e1 e2 w ao cap hs m)(c:Ext b w)(e:b.heap.size<=base)(a:ExtX (mb ao hs) w w'):Ext b w':=
 c.then_ a fun i hi _=>by
  cases d:mb ao hs i
  ·rfl
  ·have:=(h.mb_block d).1;omega
theorem b8B{ao:Option Addr}{hs:List Hdr}{k:Nat}(h:mb ao hs k=false):ob ao k=false/\∀i (hi:i<hs.length),ob hs[i].1 k=false:=by
 refine⟨?_,fun i hi=>?_⟩
 ·cases a:ob ao k
  ·rfl
  ·rw[a2D.2 (.inl a)]at h;simp at h
 ·cases a:ob hs[i].1 k
  ·rfl
  ·rw[a2D.2 (.inr (a1N hi a))]at h;simp at h
theorem ExtX.row{i:Nat}(hi:i<hs.length)(h:ExtX (ob hs[i].1) w w'):ExtX (mb ao hs) w w':=h.weaken fun _ _ a=>(b8B a).2 i hi
theorem ExtX.outer(h:ExtX (ob ao) w w'):ExtX (mb ao hs) w w':=h.weaken fun _ _ a=>(b8B a).1
theorem b3x{hs a:List Hdr}(h:∀k,obs hs k=obs a k):mb ao hs=mb ao a/\mz X ao hs=mz X ao a:=by
 constructor<;>(funext k;simp[mb,mz,h])
def c1Q(X:Nat->Bool)(e1 e2:TypeId)(w:World)(m:List (List Rat))(e:Ending)(w':World):Prop:=Ext w w'/\∃ao cap hs,e= .returned (.slice ao m.length cap)/\MO X w.heap.size e1 e2 w' ao cap hs m
end
end Go.Rep
namespace Go.Proofs.YtgbbpgflopajaaaGreat
open Go.RowKit Go.Rep Go.Lim Go.Lin
theorem b0Z{α:Type}(r i:Nat)(z:α)(x:α)(hi:i<r):((List.range r).map fun q=>if q<i then z else x).set i z=(List.range r).map fun q=>if q<i+1 then z else x:=by
 refine List.ext_getElem (by simp) fun q b c=>?_;simp at b;rw[List.getElem_set];simp only[List.getElem_map,List.getElem_range];split
 ·subst_vars;simp
 ·by_cases a:q<i
  ·simp[a,show q<i+1 by omega]
  ·simp[a,show¬q<i+1 by omega]
theorem a9a{α:Type}(r:Nat)(z x:α):((List.range r).map fun q=>if q<0 then z else x)=List.replicate r x:=by
 refine List.ext_getElem (by simp) fun q a b=>by simp
theorem a9b{α:Type}(r:Nat)(z x:α):((List.range r).map fun q=>if q<r then z else x)=List.replicate r z:=by
 refine List.ext_getElem (by simp) fun q a b=>?_;simp at a;simp[a]
theorem a5t(X:Nat->Bool)(w:World)(r c:Nat)(E:HX X w)(M:r<=1000)(L:c<=1000):Calls Tryz.prog 303 #[.int .i64 (r:Int), .int .i64 (c:Int)] w (c1Q X 25 38 w (List.replicate r (List.replicate c 0))):=by
 go_enter Tryz.func303,Tryz.ntmps303
 go_wp2_with ((with_reducible show wpList _ _ _ (⟨_, .makeSlice _ _ _,_,_,_,_⟩::_) _ _);refine a2u (R:=HdR) a0p HdR.elem (none,0,0) (fun _=>rfl) X E w.heap.size (Nat.le_refl _) r rfl rfl rfl (by omega) (by omega) ?_;intro ao N e v)
 have j:=MO.start e 38;have H:=e.hd;simp only[List.length_replicate]at H;have D:List.replicate r ([]:List Rat)=(List.range r).map fun q=>if q<0 then List.replicate c 0 else[]:=(a9a r _ _).symm
 rw[D]at j;clear e D;go_loopw [11] (fun k wr=>∃(i:Nat) (hs:List Hdr),k= .int .i64 i/\i<=r/\Hid (∀q (hq:q<hs.length),i<=q->hs[q].1=none)/\MO X w.heap.size 25 38 wr ao r hs ((List.range r).map fun q=>if q<i then List.replicate c 0 else[])/\Ext w wr) (fun k _=>r - (intOf k).toNat)
 case atStart=>exact⟨0,_,rfl,Nat.zero_le _,hid (fun q hq _=>by simp),j,v⟩
 case round=>
  obtain⟨i,hs,rfl,hi,a,d,u⟩:=hrel;have o:HX X wr:=E.ext u;have z:=d.hz o;have p:=hid d.len;have B:Hid (((List.range r).map fun q=>if q<i then List.replicate c (0:Rat)else[]).length=r):=hid (by simp);by_cases s:i<r
  ·have f:i<hs.length:=by rw[p.out,B.out];exact s
   have C:=hid (b0Z r i (List.replicate c (0:Rat)) [] s);have J:=a.out i f (Nat.le_refl _);go_wp2_with (first|(with_reducible refine a0s a0p (by omega) (by assumption) ?_)|((with_reducible show wpList _ _ _ (⟨_, .makeSlice _ _ _,_,_,_,_⟩::_) _ _);refine a2u (R:=QC) a0w QC.elem (0:Rat) (fun _=>QC.zero _) (mz X ao hs) z wr.heap.size (Nat.le_refl _) c rfl rfl rfl (by omega) (by omega) ?_;intro t O n b)|((with_reducible show wpList _ _ _ (⟨_, .store _ _ _,_,_,_,_⟩::_) _ _);refine a3D a5i HdR.elem i rfl (by simp) (d.outer.ext0 HdR.elem b) f (.slice t c c) (t,c,c) rfl rfl ?_;intro K y h))
   have m:=d.put (l:=List.replicate c 0) f J b (fun k F=>(n.block F).1) (n.base_le u.size) o h (by simpa using y);rw[C.out]at m;have x:Ext w K:=(u.trans b).then_ h fun k F _=>by
    cases G:ob ao k
    ·rfl
    ·have:=(d.outer.block G).1;omega
   have g:Hid (∀q (hq:q<(hs.set i (t,(List.replicate c (0:Rat)).length,c)).length),i+1<=q->(hs.set i (t,(List.replicate c (0:Rat)).length,c))[q].1=none):=hid fun q hq I=>by
    rw[List.getElem_set_ne (by omega)];exact a.out q (by simpa using hq) (by omega)
   go_roundw
   case rel=>exact⟨i+1,_,by go_num,by omega,g,m,x⟩
   case measure=>simp[intOf];omega
  ·have A:i=r:=by omega
   subst A;rw[a9b]at d;go_wp2_with fail
   go_ret
   exact⟨u,ao,i,hs,by simp,d⟩
end Go.Proofs.YtgbbpgflopajaaaGreat
namespace Go.Lin
def mix{α:Type}(a b:List α)(i:Nat):List α:=a.take i++b.drop i
theorem a2j{α:Type}{a b:List α}(h:a.length=b.length)(i:Nat):(mix a b i).length=a.length:=by simp[mix];omega
theorem a3K{α:Type}(a b:List α):mix a b 0=b:=by simp[mix]
theorem a3L{α:Type}{a b:List α}{i:Nat}(c:a.length<=i)(d:b.length<=i):mix a b i=a:=by simp[mix,List.take_of_length_le c,List.drop_of_length_le d]
theorem a1O{α:Type}{a b:List α}(h:a.length=b.length)(i q:Nat)(hq:q<(mix a b i).length):(mix a b i)[q]=if q<i then a[q]'(by rw[a2j h]at hq;exact hq)else b[q]'(by rw[a2j h]at hq;omega):=by
 have c:=hq;rw[a2j h]at c;have d:q<(a.take i++b.drop i).length:=hq
 show(a.take i++b.drop i)[q]'d=_
 rw[List.getElem_append];by_cases e:q<i
 ·rw[dif_pos (by simp;omega),if_pos e,List.getElem_take]
 ·rw[dif_neg (by simp;omega),if_neg e,List.getElem_drop]
  congr 1
  simp;omega
theorem a4P{α:Type}{a b:List α}(h:a.length=b.length){i:Nat}(hi:i<a.length):(mix a b i).set i a[i]=mix a b (i+1):=by
 refine List.ext_getElem (by simp[a2j h]) fun q d e=>?_;rw[List.getElem_set];split
 ·subst_vars;rw[a1O h,if_pos (by omega)]
 ·rw[a1O h,a1O h]
  by_cases c:q<i
  ·rw[if_pos c,if_pos (by omega)]
  ·rw[if_neg c,if_neg (by omega)]
theorem c0i{α:Type}{a b:List α}(h:a.length=b.length){i:Nat}(hi:i<b.length):(mix a b i).set i b[i]=mix a b i:=by
 refine List.ext_getElem (by simp) fun q c d=>?_;rw[List.getElem_set];split
 ·subst_vars;rw[a1O h,if_neg (by omega)]
 ·rfl
end Go.Lin
namespace Go.Proofs.YtgbbpgflopajaaaGreat
open Go.RowKit Go.Rep Go.Lim Go.Lin
theorem a3u(X:Nat->Bool)(w:World)(u:Value)(m:List (List Rat))(n c:Nat)(hX:HX X w)(hu:MV (mk X w) u m)(V:Shp n c m)(hc:colsL m=c)(hn:n<=1000)(e8:c<=1000):Calls Tryz.prog 301 #[u] w (c1Q X 25 38 w m):=by
 have t:=a2i X w u m hu;obtain⟨h2,ca,rfl,e7,c2⟩:=hu;have f3:=c2.hd;rw[hc]at t;have H:=hid V.1;have g3:=hid V.2;rw[H.out]at e7 f3 t |-;obtain⟨A,hA⟩:∃A,List.replicate n (List.replicate c (0:Rat))=A:=⟨_,rfl⟩;have p:Hid (A.length=n):=hid (by rw[<-hA];simp);have a4:Hid (∀i (hi:i<A.length),A[i]=List.replicate c (0:Rat)):=hid fun i hi=>by subst hA;simp
 have U:Hid (m.length=A.length):=hid (by rw[H.out,p.out]);have a2:=a5t X w n c hX hn e8;rw[hA]at a2;clear hA V hc;go_enter Tryz.func301,Tryz.ntmps301
 go_wp2_with fail
 refine t.mono ?_;rintro e w1 ⟨rfl,rfl⟩;go_wp2_with fail
 refine a2.mono ?_;rintro e w2 ⟨d4,ao,cap,hs,rfl,D⟩;rw[p.out];have G:=hid (D.len.trans p.out);have h0:n<=cap:=by have:=D.capLen;rw[p.out]at this;exact this
 have b6:Hd ao n:=by have:=D.outer.hd;rw[G.out]at this;exact this
 have b9:Hid (∀i (hi:i<hs.length),hs[i].2.1=c):=hid fun i hi=>by
  have h1:i<A.length:=by rw[p.out,<-G.out];exact hi
  rw[D.rlen i hi h1,a4.out i h1];simp
 clear t a2;go_wp2_with fail
 go_loopw [15] (fun k wr=>∃(i:Nat),k= .int .i64 i/\i<=n/\MO X w1.heap.size 25 38 wr ao cap hs (mix m A i)/\Ext w1 wr) (fun k _=>n - (intOf k).toNat)
 case atStart=>exact⟨0,rfl,Nat.zero_le _,by rw[a3K];exact D,d4⟩
 case round=>
  obtain⟨i,rfl,hi,r,L⟩:=hrel;by_cases T:i<n
  ·have Q:i<m.length:=by rw[H.out];exact T
   have b7:i<A.length:=by rw[p.out];exact T
   have s:i<hs.length:=by rw[G.out];exact T
   obtain⟨a1,c1,h4,b3,F,J⟩:=c2.row i Q;have a3:=b3.out noY wr L rfl;obtain⟨x,hx⟩:∃x,m[i]=x:=⟨_,rfl⟩;obtain⟨z,hz⟩:∃z,A[i]=z:=⟨_,rfl⟩;rw[hx]at a3 F J;have f:Hid (x.length=c):=hid (by rw[<-hx];exact g3.out _ (List.getElem_mem _));have c8:Hid (z.length=c):=hid (by rw[<-hz,a4.out i b7];simp);have K:Hid (x.length=z.length):=hid (by rw[f.out,c8.out]);rw[f.out]at a3 F;have g4:Hid ((mix m A i).set i z=mix m A i):=hid (by rw[<-hz];exact c0i U.out b7);have b5:Hid ((mix m A i).set i x=mix m A (i+1)):=hid (by rw[<-hx];exact a4P U.out Q);have f7:Hid (i<(mix m A i).length):=hid (by rw[a2j U.out];exact Q);have h5:Hd a1 c:=by have:=J.hd;rw[f.out]at this;exact this
   have c0:RV (mk X w1) (.slice a1 c c1) x:=⟨a1,c1,by rw[f.out],by rw[f.out];exact F,J⟩;obtain⟨a,C,cr,P⟩:∃a C cr,hs[i]=(a,C,cr):=⟨_,_,_,rfl⟩;have f9:C=c:=by have:=b9.out i s;rw[P]at this;exact this
   subst f9;have d:=hid P;rw[<-g4.out]at r;have d8:MO X w1.heap.size 25 38 wr ao cap hs ((mix m A i).set i (mix x z 0)):=by rw[a3K];exact r
   clear hx hz b3 J P r;obtain⟨wo,g5⟩:∃wo,wo=wr:=⟨_,rfl⟩;subst g5;go_wp2_with (with_reducible refine a0s a0p (by omega) (by assumption) ?_)
   go_loopw [22] (fun k wr=>∃(j:Nat),k= .int .i64 j/\j<=C/\MO X w1.heap.size 25 38 wr ao cap hs ((mix m A i).set i (mix x z j))/\Ext w1 wr) (fun k _=>C - (intOf k).toNat)
   case atStart=>exact⟨0,rfl,Nat.zero_le _,d8,L⟩
   case round=>
    obtain⟨j,rfl,hj,r,L⟩:=hrel;by_cases S:j<C
    ·have b8:j<x.length:=by rw[f.out];exact S
     have e2:HX X wr:=hX.ext L;have b2:=r.hz e2;have c3:Sl QV 3 (mk (mz X ao hs) wr) a1 x:=by
      obtain⟨_,_,b4,_,h3⟩:=r.old RV.mono c0 L (Nat.le_refl _) (fun _ _ h=>h);simp only[Value.slice.injEq]at b4;obtain⟨rfl,_,rfl⟩:=b4;exact h3
     have f8:Hid (i<((mix m A i).set i (mix x z j)).length):=hid (by rw[List.length_set];exact f7.out);have R:Hid ((mix x z j).length=C):=hid (by rw[a2j K.out,f.out]);have B:=r.row i s f8.out;rw[List.getElem_set_self]at B;simp only[d.out]at B;have e9:Hd a C:=by have:=B.hd;rw[R.out]at this;exact this
     have c7:Hid (un (cut (mz X ao hs) a) a=mz X ao hs):=hid (a4I fun k hk=>by have:=r.mz_sub s k;rw[d.out]at this;exact this hk);have O:Hid (ob a (adr ao i).block=false):=hid (by
      cases hb:ob a (adr ao i).block
      ·rfl
      ·have h1:=(r.sep i s (adr ao i).block (by rw[d.out];exact hb)).2
       obtain⟨b0,o0,rfl⟩:=b6 (by omega);simp[ob,adr]at h1)
     have E:Hid (ob a wr.heap.size=false):=hid (B.ob_ge (Nat.le_refl _));obtain⟨g,o,hg⟩:∃g o,adr a (j*3)=⟨g,o,none⟩:=⟨_,_,rfl⟩;have i2:∀W,(Instr.indexAt 53 (.slice ao n cap) (.int .i64 (i:Int))).run Tryz.prog W= .ok (.pointer (some (adr ao i))) W:=a0x a0p ao n cap .i64 i b6 (by omega) rfl;have i3:∀W,(Instr.indexAt 25 (.slice a C cr) (.int .i64 (j:Int))).run Tryz.prog W= .ok (.pointer (some ⟨g,o,none⟩)) W:=by rw[<-hg];exact a0h a0w a C cr .i64 j e9 (by omega)
     have bx:=Bx.new wr #[.bool false, .slice none 0 0, .slice none 0 0] 38;obtain⟨Z,hZ⟩:∃Z,mz X ao hs=Z:=⟨_,rfl⟩;have e3:=hid hZ;rw[hZ]at b2 c3 B c7;have f6:Hid ((mix x z j).set j x[j]=mix x z (j+1)):=hid (a4P K.out b8);have N:Hid (x[j]+0=x[j]):=hid (Rat.add_zero _);have v:=(r.hdr i s).1;rw[d.out]at v
     dsimp only at v
     clear hZ a3;go_wp2_with (first|(with_reducible refine a1I a0w (by omega) (by assumption) ?_)|((with_reducible show wpList _ _ _ (⟨_, .load _ _,_,_,_,_⟩::_) _ _);refine a0C a0o j c3 b8 rfl (by simp) QV.agg ?_;intro u5 c4;obtain⟨s5,a5,n5,c5,d5,k5,e5,rfl⟩:=c4.shape)|((with_reducible show wpList _ _ _ (⟨_, .store _ _ _,_,_,_,_⟩::_) _ _);refine a0a a0o rfl rfl bx rfl rfl (a1z _ _ _ _ _ _ _) ?_;intro I r1 r2))
     have y:Ext wr I:=ExtX.box ((ExtX.refl wr).alloc _) r2 (Nat.le_refl _);have q:Ext I I.drew:=(ExtX.refl I).drew;have d9:=r.ext0 y;have e0:=B.ext0 QC.elem y;have g6:QV (mk Z I.drew) (.agg #[.bool s5, .slice a5 n5 c5, .slice d5 k5 e5]) x[j]:=mkx QV.mono c4 (y.trans q);have d3:QV (mk Z I.drew) (.agg #[.bool false, .slice none 0 0, .slice none 0 0]) 0:=(QC.zero _).qv (by rw[a0X];decide);have e1:HX Z I.drew:=b2.ext (y.trans q);have hS:Hid (∀Y W',ExtX Y I.drew W'->Y (adr ao i).block=false->Y wr.heap.size=false->W'.cell? (adr ao i)=some (.slice a C cr)/\W'.cell? ⟨wr.heap.size,0,none⟩=some (.bool s5)/\W'.cell? ⟨wr.heap.size,1,none⟩=some (.slice a5 n5 c5)/\W'.cell? ⟨wr.heap.size,2,none⟩=some (.slice d5 k5 e5)):=hid fun Y W' h g7 g8=>by
      have b1:=(r1.ext0 q).ext h g8;exact⟨h.cellY ((y.trans q).cell v) g7,b1.cell 0 rfl,b1.cell 1 rfl,b1.cell 2 rfl⟩
     obtain⟨g9,c9,d0,d1⟩:=hS.out noY I.drew (ExtX.refl _) rfl rfl;obtain⟨bw,e4⟩:∃bw,wr.heap.size=bw:=⟨_,rfl⟩;rw[e4]at hS c9 d0 d1 E |-;clear v r1 bx;go_wp2_with fail
     go_region_held3 (fun w'=>w'.cell? (adr ao i)=some (.slice a C cr)/\w'.cell? ⟨bw,0,none⟩=some (.bool s5)/\w'.cell? ⟨bw,1,none⟩=some (.slice a5 n5 c5)/\w'.cell? ⟨bw,2,none⟩=some (.slice d5 k5 e5))
      (first|exact hS.out noY _ t1 rfl rfl|exact hS.out (ob a) _ ((ExtX.of t1).trans M.2) O.out E.out|go_keep)
      ((go_at_call 77;(with_reducible refine(b1G Z I.drew _ _ _ 0 e1 g6 d3).mono ?_);rintro ee w6 ⟨t1,u6,rfl,a0⟩;obtain⟨s6,a6,n6,c6,d6,k6,e6,rfl⟩:=a0.shape;rw[N.out]at a0;have a9:=e0.ext0 QC.elem (q.trans t1);obtain⟨_,v0,v1,v2,_,⟨g0,f0⟩,⟨g1,f1⟩,⟨g2,f2⟩,_⟩:=a9.cell3 j (by rw[R.out];exact S) hg;have M:=a9.set3 a6n QC.elem j (by rw[R.out];exact S) hg (v0:= .bool s6) (v1:= .slice a6 n6 c6) (v2:= .slice d6 k6 e6) (x:=x[j]) (by rw[c7.out];exact a0)))
     obtain⟨q1,q2⟩:=M;rw[f6.out]at q1;have d2:ExtX (ob hs[i].1) w6 (((w6.setCell ⟨g,o,none⟩ (.bool s6)).setCell ⟨g,o+1,none⟩ (.slice a6 n6 c6)).setCell ⟨g,o+2,none⟩ (.slice d6 k6 e6)):=by rw[d.out];exact q2
     have a7:=d9.ext0 (q.trans t1);have a8:=a7.upd s (l:=mix x z (j+1)) d2 (fun h6=>by rw[List.getElem_set_self,a2j K.out,a2j K.out]) (by rw[e3.out,d.out];exact q1);rw[List.set_set]at a8;have d7:=a7.ext_from ((L.trans y).trans (q.trans t1)) (Nat.le_refl _) (ExtX.row s d2);clear g9 c9 d0 d1 g0 g1 g2 f0 f1 f2 i2 i3;go_wp2_with fail
     go_roundw
     case rel=>exact⟨j+1,by go_num,by omega,a8,d7⟩
     case measure=>simp[intOf];omega
    ·have f5:j=C:=by omega
     subst f5;rw[a3L (a:=x) (b:=z) (by rw[f.out];exact Nat.le_refl _) (by rw[c8.out];exact Nat.le_refl _),b5.out]at r;go_wp2_with fail
     go_roundw
     case rel=>exact⟨i+1,by go_num,by omega,r,L⟩
     case measure=>simp[intOf];omega
  ·have f4:i=n:=by omega
   subst f4;rw[a3L (by rw[H.out];exact Nat.le_refl _) (by rw[p.out];exact Nat.le_refl _)]at r;go_wp2_with fail
   go_ret
   exact⟨L,ao,cap,hs,by rw[H.out];rfl,r⟩
end Go.Proofs.YtgbbpgflopajaaaGreat
namespace Go.Rep
open Go.RowKit Go.Lim
section
variable {P:Program} {ops:Array Oper} {Q:Exit->Act->World->Prop} {rest:List Oper} {a:Act} {w:World}
variable {α:Type} {R:Mem->Value->α->Prop} {sz:Nat} {X:Nat->Bool} {base:Nat} {e:TypeId} {ao:Option Addr} {cap:Nat} {l:List α}
variable {d:Option Tmp} {ty:TypeId} {ps:String} {af:Array Edge}
theorem a5u{t:TypeId}{x:Operand}{k:Nat}(F:a1F P t sz)(i:Nat)(h:OL R sz X base e w ao cap l)(hi:i<l.length)(hx:a.eval x= .pointer (some (adr ao k)))(G:k=i*sz)(p:∀h u y,R h u y->∃f,u= .agg f)(K:∀u,R (mk (un X ao) w) u l[i]->wpList P ops Q rest (a.put d u) w):wpList P ops Q (⟨d, .load t x,ty,ps,af,none⟩::rest) a w:=by
 refine wpList_plain rfl fun J o=>?_;subst G;obtain⟨L,N,C,D,E⟩:=F;obtain⟨s,M,B,_,H,I⟩:=h.cells;have g:i<s.length:=by omega
 have n:=I i g hi;obtain⟨f,c⟩:=p _ _ _ n;have m:f.toList.length=sz:=by have:=B s[i] (List.getElem_mem _);rw[c]at this;simpa[Value.cells]using this
 have A:=run_loadCells_list (P:=P) w (adr ao (i*sz)) f.toList (fun j v z=>by
  rw[a9A];have q:j<sz:=by rw[<-m];exact(List.getElem?_eq_some_iff.1 z).1
  have b:=a3C s i j g B q;rw[c]at b;have r:(a0j (.agg f))[j]? =some v:=by simpa[a0j,Value.cells]using z
  rw[r]at b;exact(H _ _ b).1)
 rw[m]at A;unfold Oper.wp;simp[execOp,hx,Instr.loadAt,Instr.sureAddr,loadVar,isAgg,run_underlying C,sizeOf,typeInfo,D,E,A,Result.andThen];rw[c]at n;exact o _ _ (K _ n)
end
theorem OL.rat{R:Mem->Value->Rat->Prop}(x:b0G R){X:Nat->Bool}{base:Nat}{e:TypeId}{w:World}{ao:Option Addr}{cap:Nat}{l:List Rat}(h:OL R 3 X base e w ao cap l)(i:Nat)(hi:i<l.length):∃g o sg a n c d k e,adr ao (i*3)=⟨g,o,none⟩/\ob ao g=true/\Hid (∀Y W',ExtX Y w W'->Y g=false->W'.cell? ⟨g,o,none⟩=some (.bool sg)/\W'.cell? ⟨g,o+1,none⟩=some (.slice a n c)/\W'.cell? ⟨g,o+2,none⟩=some (.slice d k e))/\R (mk (un X ao) w) (.agg #[.bool sg, .slice a n c, .slice d k e]) l[i]:=by
 obtain⟨r,y,b⟩:=h.hd (by omega);have p:adr ao (i*3)=⟨r,y+i*3,none⟩:=by rw[b];rfl
 obtain⟨u,v0,v1,v2,q,⟨s,_⟩,⟨t,_⟩,⟨v,_⟩,m⟩:=h.cell3 i hi p;obtain⟨sg,a,n,c,d,k,e,rfl⟩:=x _ _ _ m;simp only[a0j,Value.cells,List.cons.injEq,and_true]at q;obtain⟨rfl,rfl,rfl⟩:=q;exact⟨_,_,sg,a,n,c,d,k,e,p,by rw[b];simp[ob],hid fun Y W' f j=>⟨f.cellY s j,f.cellY t j,f.cellY v j⟩,m⟩
end Go.Rep
namespace Go.Proofs.YtgbbpgflopajaaaGreat
open Go.RowKit Go.Rep Go.Lim Go.Lin
def b5H(X:Nat->Bool)(w:World)(m:List (List Rat))(e:Ending)(w':World):Prop:=Ext w w'/\∃u,e= .returned (.tuple #[u, .int .i64 0])/\MC (mk X w') u m
theorem a6h(X:Nat->Bool)(w:World)(u:Value)(m:List (List Rat))(d:MV (mk X w) u m)(c:m.length<=1099511627776)(b:a0y m=false):Calls Tryz.prog 259 #[u] w (fun e w'=>w'=w/\e= .returned (.tuple #[.slice none 0 0, .int .i64 6])):=by
 have a:=a2l X w u m d c;rw[b]at a;clear b;go_enter Tryz.func259,Tryz.ntmps259
 go_wp2_with fail
 refine a.mono ?_;rintro e f ⟨rfl,rfl⟩;go_wp2_with fail
 go_ret2
 exact⟨rfl,rfl⟩
theorem a2E(X:Nat->Bool)(w:World)(u:Value)(m:List (List Rat))(n c:Nat)(hX:HX X w)(Q:MV (mk X w) u m)(hf:a0y m=true)(y:m.length=n)(t:colsL m=c):Calls Tryz.prog 259 #[u] w (b5H X w (trL m n c)):=by
 obtain⟨P,d7,b2,_,_⟩:=a0D hf;rw[y,t]at P;rw[y]at d7;rw[t]at b2;have B:=a2l X w u m Q (by omega);rw[hf]at B;have q:=a2i X w u m Q;rw[t]at q;have J:=hid P;have z:=hid y;have b3:=hid t;obtain⟨ua,d6,rfl,K,c8⟩:=Q;have Q:MV (mk X w) (.slice ua m.length d6) m:=⟨ua,d6,rfl,K,c8⟩;rw[y]at B q Q |-;clear hf y t P K c8;go_enter Tryz.func259,Tryz.ntmps259
 go_wp2_with fail
 refine B.mono ?_;rintro e w1 ⟨rfl,rfl⟩;go_wp2_with fail
 refine q.mono ?_;rintro e w2 ⟨rfl,rfl⟩;go_wp2_with fail
 refine(a5t X w2 c n hX (by omega) (by omega)).mono ?_;rintro e w3 ⟨L,ao,cap,hs,rfl,f⟩;rw[List.length_replicate];have H:Hid (hs.length=c):=hid (by rw[f.len];simp);have b7:Hd ao c:=by have:=f.outer.hd;rw[H.out]at this;exact this
 have d9:=hX.ext L;have a9:=f.hz d9;have c6:=f.old MV.mono Q L (Nat.le_refl _) (fun _ _ h=>h);rw[<-b5z m n c]at f;have b4:=a3u (mz X ao hs) w3 _ m n c a9 c6 J.out b3.out (by omega) (by omega);clear B q Q c6;go_wp2_with fail
 refine b4.mono ?_;rintro e w4 ⟨a0,bo,f8,g8,rfl,a3⟩;have I:=a3.mc;rw[z.out]at I |-;have a2:=f.ext0 a0;have V:=L.trans a0;obtain⟨ba,g4,b6,g3,b⟩:=I;simp only[Value.slice.injEq]at b6;obtain⟨rfl,f4,rfl⟩:=b6;clear f4;have e1:=b.hd;rw[z.out]at e1;obtain⟨Z,M⟩:∃Z,mz X ao hs=Z:=⟨_,rfl⟩;have a8:=hid M;rw[M]at b a9;clear b4 f a3 M;go_wp2_with fail
 go_loopw [20] (fun k wr=>∃(i:Nat),k= .int .i64 i/\i<=n/\MO X w2.heap.size 25 38 wr ao cap hs (trN m n c i 0)/\Sl RC 1 (mk Z wr) bo m/\Ext w2 wr) (fun k _=>n - (intOf k).toNat)
 case atStart=>exact⟨0,rfl,Nat.zero_le _,a2,b,V⟩
 case round=>
  obtain⟨i,rfl,hi,s,b,U⟩:=hrel;by_cases c2:i<n
  ·have b9:i<m.length:=by rw[z.out];exact c2
   obtain⟨a1,c1,g5,b1,F,r⟩:=b.row i b9;have S:=b1.out noY wr (ExtX.refl _) rfl;have C:Hid (m[i].length=c):=hid (J.out.2 _ (List.getElem_mem _));have b5:Hid (∀j (hj:j<m[i].length),m[i][j]=ent m i j):=hid fun j hj=>by
    unfold ent;rw[show m.getD i []=m[i]by simp[List.getD_eq_getElem?_getD,b9],List.getD_eq_getElem?_getD,List.getElem?_eq_getElem hj];rfl
   obtain⟨x,hx⟩:∃x,m[i]=x:=⟨_,rfl⟩;rw[hx]at S F r C b5;rw[C.out]at S F;have g6:Hd a1 c:=by have:=r.hd;rw[C.out]at this;exact this
   clear b1 hx;obtain⟨wo,f3⟩:∃wo,wo=wr:=⟨_,rfl⟩;subst f3;go_wp2_with (with_reducible refine a0s a0p (by omega) (by assumption) ?_)
   go_loopw [27] (fun k wr=>∃(j:Nat),k= .int .i64 j/\j<=c/\MO X w2.heap.size 25 38 wr ao cap hs (trN m n c i j)/\Sl QC 3 (mk Z wr) a1 x/\Sl RC 1 (mk Z wr) bo m/\Ext w2 wr) (fun k _=>c - (intOf k).toNat)
   case atStart=>exact⟨0,rfl,Nat.zero_le _,s,r,b,U⟩
   case round=>
    obtain⟨j,rfl,hj,s,r,b,U⟩:=hrel;by_cases O:j<c
    ·have c0:j<x.length:=by rw[C.out];exact O
     have p:j<hs.length:=by rw[H.out];exact O
     have N:j<(trN m n c i j).length:=by rw[b8x];exact O
     obtain⟨a,D,T,l⟩:∃a D T,hs[j]=(a,D,T):=⟨_,_,_,rfl⟩;have e4:D=n:=by
      have:=s.rlen j p N;rw[l,a8f]at this;exact this
     subst e4;have hR:=s.row j p N;simp only[l]at hR;have d1:=fun k (hk:ob a k=true)=>s.mz_sub p k (by rw[l];exact hk);have e8:=fun k (hk:ob a k=true)=>s.sep j p k (by rw[l];exact hk);have e9:Hid (un (cut (mz X ao hs) a) a=mz X ao hs):=hid (a4I d1);have b8:i<((trN m D c i j)[j]).length:=by rw[a8f];exact c2
     have e0:Hd a D:=by have:=hR.hd;rw[a8f]at this;exact this
     have c9:=hid (b5.out j c0);have A:=hid (b8y (m:=m) (n:=D) (c:=c) (i:=i) (j:=j) N);obtain⟨v,hv⟩:∃v,ent m i j=v:=⟨_,rfl⟩;rw[hv]at c9 A;have y1:wr.cell? (adr ao j)=some (.slice a D T):=by
      have:=(s.hdr j p).1;rw[l]at this;exact this
     have f9:Hid (ob a (adr ao j).block=false):=hid (by
      cases hb:ob a (adr ao j).block
      ·rfl
      ·have h1:=(e8 _ hb).2
       obtain⟨b0,o0,rfl⟩:=b7 (by omega);simp[ob,adr]at h1)
     have i1:∀W,(Instr.indexAt 53 (.slice ao c cap) (.int .i64 (j:Int))).run Tryz.prog W= .ok (.pointer (some (adr ao j))) W:=a0x a0p ao c cap .i64 j b7 (by omega) rfl;have bx:=Bx.new wr #[.bool false, .slice none 0 0, .slice none 0 0] 38;have G:=hid l;clear l hv S;go_wp2_with (first|(with_reducible refine a1I a0w (by omega) (by assumption) ?_)|((with_reducible show wpList _ _ _ (⟨_, .load 38 _,_,_,_,_⟩::_) _ _);refine a0C a0o j r c0 rfl (by simp) QC.agg ?_;intro u5 R;rw[c9.out]at R;obtain⟨s5,a5,n5,c5,d5,k5,e5,rfl⟩:=R.shape)|((with_reducible show wpList _ _ _ (⟨_, .store _ _ _,_,_,_,_⟩::_) _ _);refine a0a a0o rfl rfl bx rfl rfl (a1z _ _ _ _ _ _ _) ?_;intro w5 r1 r2))
     have d:Ext wr w5:=ExtX.box ((ExtX.refl wr).alloc _) r2 (Nat.le_refl _);obtain⟨g,o,hg⟩:∃g o,adr a (i*3)=⟨g,o,none⟩:=⟨_,_,rfl⟩;have i2:∀W,(Instr.indexAt 25 (.slice a D T) (.int .i64 (i:Int))).run Tryz.prog W= .ok (.pointer (some ⟨g,o,none⟩)) W:=by rw[<-hg];exact a0h a0w a D T .i64 i e0 (by omega)
     have a4:=s.ext0 d;have a7:=hR.ext0 QC.elem d;have c7:=mkx QC.mono R d;have z1:=d.cell y1;have f5:=r1.cell 0 rfl;have f6:=r1.cell 1 rfl;have f7:=r1.cell 2 rfl;obtain⟨_,v0,v1,v2,_,⟨g0,f0⟩,⟨g1,f1⟩,⟨g2,f2⟩,_⟩:=a7.cell3 i b8 hg;have c4:=a7.set3 a6n QC.elem i b8 hg (v0:= .bool s5) (v1:= .slice a5 n5 c5) (v2:= .slice d5 k5 e5) (x:=v) (by rw[e9.out,a8.out];exact c7);clear y1 bx r1;go_wp2_with fail
     go_region
     all_goals
      obtain⟨q1,q2⟩:=c4;have E:=q2.drew;have d3:=q1.ext0 QC.elem ((ExtX.refl (Y:=noY) _).drew);obtain⟨w8,d0⟩:∃w8,(((w5.setCell ⟨g,o,none⟩ (.bool s5)).setCell ⟨g,o+1,none⟩ (.slice a5 n5 c5)).setCell ⟨g,o+2,none⟩ (.slice d5 k5 e5)).drew=w8:=⟨_,rfl⟩;rw[d0]at d3 E |-;have d4:ExtX (ob hs[j].1) w5 w8:=by rw[G.out];exact E
      have a6:=a4.upd p d4 (fun g7=>List.length_set) (by rw[G.out];exact d3);rw[A.out]at a6;have d2:∀k,ob a k=true->Z k=true:=fun k hk=>by rw[<-a8.out];exact d1 k hk
      have e6:=(r.mono QC.mono (a0m d)).mono QC.mono (a0v E d2);have e7:=(b.mono RC.mono (a0m d)).mono RC.mono (a0v E d2);have d8:=a4.ext_from (U.trans d) (Nat.le_refl _) (ExtX.row p d4);clear z1 f5 f6 f7 g0 g1 g2 f0 f1 f2 i1 i2 d0 q1 q2;go_wp2_with fail
      go_roundw
      case rel=>exact⟨j+1,by go_num,by omega,a6,e6,e7,d8⟩
      case measure=>simp[intOf];omega
    ·have e3:j=c:=by omega
     subst e3;rw[b5A]at s;go_wp2_with fail
     go_roundw
     case rel=>exact⟨i+1,by go_num,by omega,s,b,U⟩
     case measure=>simp[intOf];omega
  ·have e2:i=n:=by omega
   subst e2;rw[b5B]at s;have c3:=s.mc;go_wp2_with fail
   go_ret2
   exact⟨U,_,rfl,by rw[(a1y m i c).1]at c3;exact c3⟩
theorem b8C(X:Nat->Bool)(w:World)(u v:Value)(l m:List Rat)(hX:HX X w)(hu:RV (mk X w) u l)(hv:RV (mk X w) v m)(hn:l.length<=1000000)(q:m.length=l.length)(B:∀k,k<=l.length->hq (a2U l m k)<=68719476736)(C:∀k,k<l.length->hq (l.getD k 0*m.getD k 0)<=68719476736):Calls Tryz.prog 309 #[u,v] w (a1Y X w QC (a1Z l m)):=by
 obtain⟨ao,ca,rfl,c3,a4⟩:=hu;obtain⟨bo,cb,rfl,c4,a8⟩:=hv;have c8:=a4.hd;have V:=a8.hd;obtain⟨W,hW,hE,J,z,hz⟩:=a1x w #[.bool false, .slice none 0 0, .slice none 0 0] #[.bool false, .slice none 0 0, .slice none 0 0] 38 38;have N:HX (a0e X w.heap.size 2) W:=hX.boxes hz;have h0:QC (mk (a0e X w.heap.size 2) W) (.agg #[.bool false, .slice none 0 0, .slice none 0 0]) (a2U l m 0):=QC.zero _;obtain⟨n,p⟩:∃n,l.length=n:=⟨_,rfl⟩;rw[p]at hn q B C c3 c8 |-;rw[q]at c4 V |-;have a1:=hid p;have a2:=hid q;have P:=hid B;have Q:=hid C;have T:Hid (a2U l m n=a1Z l m):=hid (by unfold a1Z;rw[p]);clear p q B C;go_enter Tryz.func309,Tryz.ntmps309
 go_wp2_with fail
 obtain⟨b,hb⟩:∃b,w.heap.size=b:=⟨_,rfl⟩;have a0:Hid (∀wr,Ext w wr->Le (mk X w) (mk (a0e X b 2) wr)):=hid fun wr h=>by rw[<-hb];exact a0l h
 have F:w.heap.size<=b:=by omega
 rw[hb]at J z N h0 |-;clear hW;go_loopw [10] (fun k wr=>∃(i:Nat) (s:Bool) (a:Option Addr) (n' c':Nat) (d:Option Addr) (kk e:Nat),k= .int .i64 i/\i<=n/\Bx wr b #[.bool false, .slice none 0 0, .slice none 0 0] 38/\Bx wr (b+1) #[.bool s, .slice a n' c', .slice d kk e] 38/\QC (mk (a0e X b 2) wr) (.agg #[.bool s, .slice a n' c', .slice d kk e]) (a2U l m i)/\HX (a0e X b 2) wr/\Ext w wr) (fun k _=>n - (intOf k).toNat)
 case atStart=>exact⟨0,_,_,_,_,_,_,_,rfl,Nat.zero_le _,J,z,h0,N,hE⟩
 case round=>
  obtain⟨i,s,a,n',c',d,kk,e,rfl,hi,J,z,hq,c2,o⟩:=hrel;by_cases G:i<n
  ·have Y:i<l.length:=by rw[a1.out];exact G
   have Z:i<m.length:=by rw[a2.out];exact G
   have d4:=a4.mono QV.mono (a0.out wr o);have a9:=a8.mono QV.mono (a0.out wr o);obtain⟨g2,o2,s2,p2,n2,q2,d2,k2,e2,U,f4,S,a3⟩:=a9.rat QV.shaped i Z;have gl:Hid (l.getD i 0=l[i]):=hid (by simp[List.getD_eq_getElem?_getD,Y]);have gm:Hid (m.getD i 0=m[i]):=hid (by simp[List.getD_eq_getElem?_getD,Z]);have r:Hid (a2U l m i+l[i]*m[i]=a2U l m (i+1)):=hid (by rw[<-gl.out,<-gm.out];rfl);have R:=hid (P.out i hi);have E:=hid (Q.out i G);rw[gl.out,gm.out]at E;obtain⟨x,hx⟩:∃x,l[i]=x:=⟨_,rfl⟩;obtain⟨y,hy⟩:∃y,m[i]=y:=⟨_,rfl⟩;rw[hx,hy]at r E;rw[hy]at a3;have d8:=hid hx;have i2:∀W,(Instr.indexAt 25 (.slice bo n cb) (.int .i64 (i:Int))).run Tryz.prog W= .ok (.pointer (some ⟨g2,o2,none⟩)) W:=by rw[<-U];exact a0h a0w bo n cb .i64 i V (by omega)
   have bx:=Bx.new wr #[.bool false, .slice none 0 0, .slice none 0 0] 38;obtain⟨D,hD⟩:∃D,a2U l m i=D:=⟨_,rfl⟩;obtain⟨D2,A⟩:∃D2,a2U l m (i+1)=D2:=⟨_,rfl⟩;rw[hD]at hq r R;rw[A]at r;have K:=hid A;clear hx hy U hD A;go_wp2_with (first|(with_reducible refine a1I a0w (by omega) (by assumption) ?_)|((with_reducible show wpList _ _ _ (⟨_, .load 38 _,_,_,_,_⟩::_) _ _);refine a0C a0o i d4 Y rfl (by simp) QV.agg ?_;intro u5 H;rw[d8.out]at H;obtain⟨s5,a5,n5,c5,d5,k5,e5,rfl⟩:=H.shape)|((with_reducible show wpList _ _ _ (⟨_, .store _ _ _,_,_,_,_⟩::_) _ _);refine a0a a0o rfl rfl bx rfl rfl (a1z _ _ _ _ _ _ _) ?_;intro t r1 r2))
   have b9:Ext wr t:=ExtX.box ((ExtX.refl wr).alloc _) r2 (Nat.le_refl _);have L:Ext t t.drew:=(ExtX.refl t).drew;have c:=b9.trans L;have b6:=J.ext0 c;have g:=z.ext0 c;have r5:=r1.ext0 L;obtain⟨bw,F⟩:∃bw,wr.heap.size=bw:=⟨_,rfl⟩;rw[F]at r5;have b3:=g.cell 0 rfl;have b4:=g.cell 1 rfl;have b5:=g.cell 2 rfl;have e1:=r5.cell 0 rfl;have e3:=r5.cell 1 rfl;have e4:=r5.cell 2 rfl;obtain⟨e8,e9,f3⟩:=S.out noY t.drew c rfl;have O:=c2.ext c;have d9:QV (mk (a0e X b 2) t.drew) (.agg #[.bool s5, .slice a5 n5 c5, .slice d5 k5 e5]) x:=mkx QV.mono H c;have e0:QV (mk (a0e X b 2) t.drew) (.agg #[.bool s2, .slice p2 n2 q2, .slice d2 k2 e2]) y:=mkx QV.mono a3 c;have d1:QV (mk (a0e X b 2) t.drew) (.agg #[.bool s, .slice a n' c', .slice d kk e]) D:=(mkx QC.mono hq c).qv R.out;clear bx r1 S;rw[F];go_wp2_with fail
   go_region_with (first|(go_at_call 124;(with_reducible refine(b4F (a0e X b 2) t.drew _ _ _ _ O d9 e0).mono ?_);rintro ee w6 ⟨t1,u6,rfl,b2⟩;obtain⟨s6,a6,n6,c6,d6,k6,e6,rfl⟩:=b2.shape;have M:=O.ext t1;have d3:=mkx QV.mono d1 t1;have d0:=b2.qv E.out;have j:=g.ext0 t1;have m0:=j.cell 0 rfl;have m1:=j.cell 1 rfl;have m2:=j.cell 2 rfl)|(go_at_call 77;(with_reducible refine(b1G (a0e X b 2) w6 _ _ _ _ M d3 d0).mono ?_);rintro ee w7 ⟨t7,u7,rfl,I⟩;obtain⟨s7,a7,n7,c7,d7,k7,e7,rfl⟩:=I.shape;rw[r.out]at I;have f:=j.ext0 t7;have g0:=f.cell 0 rfl;have g1:=f.cell 1 rfl;have b8:=f.cell 2 rfl;have f0:=f.frozen 0;have f1:=f.frozen 1;have f2:=f.frozen 2))
   all_goals
    obtain⟨z1,z2⟩:=f.set3 (.bool s7) (.slice a7 n7 c7) (.slice d7 k7 e7);have h8:=QC.mono _ _ _ _ (a0g (lo:=b) (nb:=2) z2 (by omega) (by omega)) I;have b7:=((b6.ext0 t1).ext0 t7).ext z2 (a0b (by omega));have c0:Ext w _:=ExtX.box (o.trans (c.trans (t1.trans t7))) z2 (by omega);have c1:=(M.ext t7).ext z2;rw[<-K.out]at h8;clear b3 b4 b5 e1 e3 e4 e8 e9 f3 m0 m1 m2 g0 g1 b8 f0 f1 f2 i2;go_wp2_with fail
    go_roundw
    case rel=>exact⟨i+1,_,_,_,_,_,_,_,by go_num,by omega,b7,z1,h8,c1,c0⟩
    case measure=>simp[intOf];omega
  ·have c9:i=n:=by omega
   subst c9;rw[T.out]at hq;have b3:=z.cell 0 rfl;have b4:=z.cell 1 rfl;have b5:=z.cell 2 rfl;go_wp2_with ((with_reducible show wpList _ _ _ (⟨_, .store _ _ _,_,_,_,_⟩::_) _ _);refine a0a a0o rfl rfl J rfl rfl (a1z _ _ _ _ _ _ _) ?_;intro w7 r1 r2)
   have h7:=QC.mono _ _ _ _ a0k (QC.mono _ _ _ _ (a0g r2 (by omega) (by omega)) hq);exact bodyPost_ret (a0d rfl rfl a0o r1 rfl) rfl ⟨ExtX.box o r2 (by omega),_,rfl,h7⟩
end Go.Proofs.YtgbbpgflopajaaaGreat
namespace Go.Lin
open Go.Lim
theorem a8i{n c:Nat}{m:Mat}(h:Shp n c m)(a:1<=n):colsL m=c:=by
 rw[a2d (by rw[h.1];exact a)];exact h.2 _ (List.getElem_mem _)
theorem b1a{n c:Nat}{m:Mat}(h:Shp n c m)(d:n<=96)(e:1<=c)(b:c<=96):a0y m=true:=by
 refine a1L.2 ⟨by rw[h.1];exact d,fun i hi=>?_⟩;have a:=h.2 _ (List.getElem_mem hi);refine⟨by omega,by omega,?_⟩;rw[a,a8i h (by have:=h.1;omega)]
theorem a5v{B:Nat}{m:Mat}(h:Go.Rep.BM B m)(a:1<=B):HB B m:=fun i j=>by
 unfold ent;by_cases hi:i<m.length
 ·have e:m.getD i []=m[i]:=by simp[List.getD_eq_getElem?_getD,hi]
  rw[e];by_cases b:j<(m[i]).length
  ·have:=h m[i] (List.getElem_mem _) (m[i])[j] (List.getElem_mem _)
   simpa[List.getD_eq_getElem?_getD,b]using this
  ·rw[List.getD_eq_getElem?_getD,List.getElem?_eq_none (by omega)]
   show hq 0<=B
   rw[a0X];exact a
 ·rw[List.getD_eq_getElem?_getD (l:=m),List.getElem?_eq_none (by omega)]
  show hq 0<=B
  rw[a0X];exact a
theorem a5w{B:Nat}{m:Mat}(h:HB B m):Go.Rep.BM B m:=fun r b q hq=>by
 obtain⟨i,hi,rfl⟩:=List.getElem_of_mem b;obtain⟨j,a,rfl⟩:=List.getElem_of_mem hq;have:=h i j;simpa[ent,List.getD_eq_getElem?_getD,hi,a]using this
theorem a4j{m:Mat}{v:List Rat}{i:Nat}(hi:i<m.length)(h:i<(a2s m v).length):(a2s m v)[i]=a1Z m[i] v:=by simp[a2s]
theorem a6i{a b:Mat}{n c i:Nat}(hi:i<a.length)(h:i<(a6q a b n c).length):(a6q a b n c)[i]=a2s (trL b n c) a[i]:=by simp[a6q]
theorem b1b(a b:Mat)(n c:Nat):(a6q a b n c).length=a.length:=by simp[a6q]
theorem b3y{B:Nat}{x:List Rat}(hx:Go.Rep.BR B x)(a:1<=B)(q:Nat):hq (x.getD q 0)<=B:=by
 by_cases h:q<x.length
 ·rw[List.getD_eq_getElem?_getD,List.getElem?_eq_getElem h];exact hx _ (List.getElem_mem h)
 ·rw[List.getD_eq_getElem?_getD,List.getElem?_eq_none (by omega)]
  show hq 0<=B
  rw[a0X];exact a
theorem a1A{B:Nat}{l m:List Rat}(b:Go.Rep.BR B l)(c:Go.Rep.BR B m)(a:1<=B)(i:l.length<=96)(f:200*B<=68000000000):(∀k,k<=l.length->hq (a2U l m k)<=68719476736)/\∀k,k<l.length->hq (l.getD k 0*m.getD k 0)<=68719476736:=by
 refine⟨fun k g=>?_,fun k g=>?_⟩
 ·have d:=b8w b c a k
  have e:k*(2*B+1)<=96*(2*B+1):=Nat.mul_le_mul_right _ (by omega);omega
 ·have d:=hq_mul (l.getD k 0) (m.getD k 0)
  have e:=b3y b a k;have h:=b3y c a k;omega
end Go.Lin
namespace Go.Proofs.YtgbbpgflopajaaaGreat
open Go.RowKit Go.Rep Go.Lim Go.Lin
def c0j(X:Nat->Bool)(w:World)(l:List Rat)(e:Ending)(w':World):Prop:=Ext w w'/\∃u,e= .returned (.tuple #[u, .int .i64 0])/\RC (mk X w') u l
theorem b1c(X:Nat->Bool)(w:World)(u v:Value)(m:List (List Rat))(x:List Rat)(B:Nat)(hX:HX X w)(hu:MV (mk X w) u m)(V:RV (mk X w) v x)(hf:a0y m=true)(F:x.length=colsL m)(hB:BM B m)(z:BR B x)(a0:1<=B)(a2:200*B<=68000000000):Calls Tryz.prog 266 #[u,v] w (c0j X w (a2s m x)):=by
 obtain⟨t,Y,f,_,_⟩:=a0D hf;have r:=a2l X w u m hu (by omega);rw[hf]at r;have a:=a2i X w u m hu;obtain⟨ua,c5,rfl,Q,P⟩:=hu;obtain⟨va,S,rfl,R,b6⟩:=V;have b0:=P.hd;obtain⟨c,H⟩:∃c,colsL m=c:=⟨_,rfl⟩;rw[H]at a F f t;have c3:((x.length:Int) !=(c:Int))=false:=a8D (by omega);have M:=hid t;have a8:=hid F;have Z:=hid hB;have A:=hid z;obtain⟨n,U⟩:∃n,m.length=n:=⟨_,rfl⟩;rw[U]at r a Q b0 Y |-;have b3:=hid U;have p:Hid ((a2s m x).length=n):=hid (by rw[a3i];exact U);clear hf t U F H hB z;go_enter Tryz.func266,Tryz.ntmps266
 go_wp2_with fail
 refine r.mono ?_;rintro e w1 ⟨rfl,rfl⟩;go_wp2_with fail
 refine a.mono ?_;rintro e w2 ⟨rfl,rfl⟩;go_wp2_with fail
 go_loopw [6,21] (fun o k wr=>∃(i:Nat) (g:Option Addr) (T:Nat),k= .int .i64 i/\o= .slice g i T/\i<=n/\OL QC 3 X w2.heap.size 38 wr g T ((a2s m x).take i)/\Ext w2 wr) (fun _ k _=>n - (intOf k).toNat)
 case atStart=>exact⟨0,none,0,rfl,rfl,Nat.zero_le _,OL.nil _ _ _ _ _ _,ExtX.refl _⟩
 case round=>
  obtain⟨i,g,T,rfl,rfl,hi,h,y⟩:=hrel;have E:HX X wr:=hX.ext y;have a5:HX (un X g) wr:=h.unX E;have a7:=y.size;by_cases L:i<n
  ·have K:i<m.length:=by rw[b3.out];exact L
   have J:i<(a2s m x).length:=by rw[p.out];exact L
   have b5:Sl RV 1 (mk (un X g) wr) ua m:=P.old RV.mono y (fun j hj=>h.ob_lt hj);have b7:RV (mk (un X g) wr) (.slice va x.length S) x:=a4F RV.mono ⟨va,S,rfl,R,b6⟩ y (fun j hj=>h.ob_lt hj);have N:=hid (a0L (a2s m x) i J);have b2:=hid (a0V (l:=a2s m x) (i:=i) (by omega));obtain⟨a1,c1,c0,G,I,b4⟩:=b5.row i K;have b8:=G.out noY wr (ExtX.refl _) rfl;have s:=hid (M.out.2 m[i] (List.getElem_mem _));have a9:=hid (a4j (v:=x) K J);have q:=a1A (Z.out m[i] (List.getElem_mem _)) A.out a0 (by rw[s.out];exact f) a2;have b:=b8C (un X g) wr _ _ m[i] x a5 ⟨a1,c1,rfl,I,b4⟩ b7 (by rw[s.out];omega) (by rw[s.out,a8.out]) q.1 q.2;rw[<-a9.out]at b;obtain⟨v,V⟩:∃v,(a2s m x)[i]=v:=⟨_,rfl⟩;rw[V]at b N;clear V G q;go_wp2_with (with_reducible refine a0s a0p (by omega) (by assumption) ?_)
   refine b.mono ?_;rintro e w6 ⟨d,u6,rfl,O⟩;obtain⟨s6,a6,n6,c6,d6,k6,e6,rfl⟩:=O.shape;have C:=h.ext0 QC.elem d;have c2:=d.size;clear b8;go_wp2_with (at_builtin;refine a0t (l:=(a2s m x).take i) a0w rfl QC.elem (by omega) (E.ext d) i b2.out rfl rfl C (.agg #[.bool s6, .slice a6 n6 c6, .slice d6 k6 e6]) v rfl O (by omega) (by omega) ?_;intro b9 W w7 D a3 c4)
   have a4:=(y.trans d).own C (Nat.le_refl _) a3;rw[N.out]at D;go_roundw
   case rel=>exact⟨i+1,b9,W,by go_num,by go_num,by omega,D,a4⟩
   case measure=>simp[intOf];omega
  ·have b1:i=n:=by omega
   subst b1;rw[List.take_of_length_le (by rw[p.out];exact Nat.le_refl _)]at h;have F:=h.lenCap;have hs:=h.sl QC.elem;go_wp2_with fail
   go_ret2
   exact⟨y,_,rfl,g,T,by rw[p.out];rfl,F,hs⟩
theorem c0k(X:Nat->Bool)(w:World)(u v:Value)(a b:List (List Rat))(k n c B:Nat)(hX:HX X w)(hu:MV (mk X w) u a)(hv:MV (mk X w) v b)(G:a0y a=true)(H:a0y b=true)(O:a.length=k)(V:b.length=n)(y:colsL a=n)(z:colsL b=c)(hB:BM B a)(Q:BM B b)(P:1<=B)(b8:200*B<=68000000000):Calls Tryz.prog 264 #[u,v] w (b5H X w (a6q a b n c)):=by
 obtain⟨K,U,t,d,L⟩:=a0D G;obtain⟨a9,W,m,f,M⟩:=a0D H;rw[O,y]at K;rw[V,z]at a9;rw[O]at U d L;rw[V]at W f M;rw[y]at t d L;rw[z]at m f M;have A:=a2E X w v b n c hX hv H V z;have d7:Hid (0<k->a0y (trL b n c)=true/\colsL (trL b n c)=n):=hid fun hk=>by
  have d2:=d hk;by_cases c7:0<c
  ·exact⟨b1a (a1y b n c) m d2 t,a8i (a1y b n c) c7⟩
  ·have:=f (by omega);omega
 have b0:=hid (a5w (b0Q (n:=n) (c:=c) (a5v Q P)));have I:=fun w' (h:Ext w w')=>a2l X w' u a (mkx MV.mono hu h) (by omega);have p:=fun w' (h:Ext w w')=>a2i X w' u a (mkx MV.mono hu h);rw[G]at I;rw[y]at p;have C:=hid I;have s:=hid p;obtain⟨ua,e7,rfl,b4,b2⟩:=hu;obtain⟨va,e8,rfl,b5,e0⟩:=hv;have c9:=b2.hd;have J:Hid ((a6q a b n c).length=k):=hid (by rw[b1b];exact O);have a8:=hid K;have b7:=hid hB;have c4:=hid O;rw[O]at b4 c9 C s |-;rw[V]at A b5 |-;clear I p G H O V y z K a9 L M d f e0 hB Q;go_enter Tryz.func264,Tryz.ntmps264
 go_wp2_with fail
 refine A.mono ?_;rintro e w1 ⟨g,ut,rfl,d9⟩;go_wp2_with fail
 refine(C.out w1 g).mono ?_;rintro e w2 ⟨rfl,rfl⟩;go_wp2_with fail
 refine(s.out w2 g).mono ?_;rintro e w3 ⟨rfl,rfl⟩;have c2:=hX.ext g;have b3:=b2.mono RV.mono (a0m g);go_wp2_with fail
 go_loopw [8,34] (fun o kk wr=>∃(i:Nat) (D:Option Addr) (co:Nat),kk= .int .i64 i/\o= .slice D i co/\i<=k/\OL RC 1 X w3.heap.size 25 wr D co ((a6q a b n c).take i)/\Ext w3 wr) (fun _ kk _=>k - (intOf kk).toNat)
 case atStart=>exact⟨0,none,0,rfl,rfl,Nat.zero_le _,OL.nil _ _ _ _ _ _,ExtX.refl _⟩
 case round=>
  obtain⟨i,D,co,rfl,rfl,hi,E,N⟩:=hrel;have T:HX X wr:=c2.ext N;have c3:HX (un X D) wr:=E.unX T;have c5:=N.size;by_cases a7:i<k
  ·have a5:i<a.length:=by rw[c4.out];exact a7
   have a4:i<(a6q a b n c).length:=by rw[J.out];exact a7
   have d6:Sl RV 1 (mk (un X D) wr) ua a:=b3.old RV.mono N (fun j hj=>E.ob_lt hj);have A:MC (mk (un X D) wr) ut (trL b n c):=a4F MC.mono d9 N (fun j hj=>E.ob_lt hj);have b1:=hid (a0L (a6q a b n c) i a4);have d1:=hid (a0V (l:=a6q a b n c) (i:=i) (by omega));obtain⟨a1,c1,e3,Y,Z,d3⟩:=d6.row i a5;have e1:=Y.out noY wr (ExtX.refl _) rfl;have d4:=hid (a8.out.2 a[i] (List.getElem_mem _));have c8:=hid (a6i (b:=b) (n:=n) (c:=c) a5 a4);obtain⟨a2,a3⟩:=d7.out (by omega);have F:=b1c (un X D) wr ut _ (trL b n c) a[i] B c3 (A.mv (fun r hr q hq=>Nat.le_trans (b0.out r hr q hq) (by omega))) ⟨a1,c1,rfl,Z,d3⟩ a2 (by rw[a3];exact d4.out) b0.out (b7.out a[i] (List.getElem_mem _)) P b8;rw[<-c8.out]at F;obtain⟨v,hv⟩:∃v,(a6q a b n c)[i]=v:=⟨_,rfl⟩;rw[hv]at F b1;clear hv Y a2 a3;go_wp2_with (with_reducible refine a0s a0p (by omega) (by assumption) ?_)
   refine F.mono ?_;rintro e w6 ⟨x,u6,rfl,d8⟩;obtain⟨a6,c6,rfl,a0,d5⟩:=d8;have R:=E.ext0 RC.elem x;have e4:=x.size;clear e1;go_wp2_with (at_builtin;refine a0t (l:=(a6q a b n c).take i) a0p rfl RC.elem (by omega) (T.ext x) i d1.out rfl rfl R (.slice a6 v.length c6) v rfl ⟨a6,c6,rfl,a0,d5⟩ (by omega) (by omega) ?_;intro e2 b6 w7 S b9 e6)
   have c0:=(N.trans x).own R (Nat.le_refl _) b9;rw[b1.out]at S;go_roundw
   case rel=>exact⟨i+1,e2,b6,by go_num,by go_num,by omega,S,c0⟩
   case measure=>simp[intOf];omega
  ·have d0:i=k:=by omega
   subst d0;rw[List.take_of_length_le (by rw[J.out];exact Nat.le_refl _)]at E;have hc:=E.lenCap;have hs:=E.sl RC.elem;go_wp2_with fail
   go_ret2
   exact⟨g.trans N,_,rfl,D,co,by rw[J.out];rfl,hc,hs⟩
end Go.Proofs.YtgbbpgflopajaaaGreat
namespace Go.Lin
open Go.Lim
end Go.Lin
namespace Go.Proofs.YtgbbpgflopajaaaGreat
open Go.RowKit Go.Rep Go.Lim Go.Lin
def c2e(Z:Nat->Bool)(base:Nat)(e:TypeId)(w:World)(a:Option Addr)(cap:Nat)(l:List Rat)(ee:Ending)(w':World):Prop:=ee= .returned (.tuple #[])/\ExtX (ob a) w w'/\OL QC 3 (cut Z a) base e w' a cap l
theorem a5x(Z:Nat->Bool)(base:Nat)(w:World)(l H:Option Addr)(c1 c2 n col:Nat)(row b:List Rat)(hX:HX Z w)(h1:OL QC 3 (cut Z l) base 38 w l c1 row)(h2:OL QC 3 (cut Z H) base 38 w H c2 b)(f4:∀k,ob l k=true->Z k=true)(n8:∀k,ob H k=true->Z k=true)(c3:∀k,ob l k=true->ob H k=false)(a4:row.length=n)(a8:b.length=n)(hn:n<=1000)(c0:col<n)(g7:BR 68719476736 row)(g8:BR 68719476736 b)(c8:hq (row.getD col 0/b.getD col 0)<=68719476736)(c9:∀x∈b,hq (row.getD col 0/b.getD col 0*x)<=68719476736):Calls Tryz.prog 317 #[.slice l n c1, .slice H n c2, .int .i64 (col:Int)] w (c2e Z base 38 w l c1 (a3r row b col)):=by
 have e3:=hid (a4I f4);have j5:=hid (a4I n8);have l6:∀k,ob H k=true->ob l k=false:=fun k B=>by
  cases hb:ob l k
  ·rfl
  ·rw[c3 k hb]at B;simp at B
 have h8:Hd l n:=by have:=h1.hd;rw[a4]at this;exact this
 have l5:Hd H n:=by have:=h2.hd;rw[a8]at this;exact this
 have b2:col<row.length:=by omega
 have b3:col<b.length:=by omega
 have g1:Hid (row.getD col 0=row[col]):=hid (by simp[List.getD_eq_getElem?_getD,b2]);have g2:Hid (b.getD col 0=b[col]):=hid (by simp[List.getD_eq_getElem?_getD,b3]);obtain⟨E,U⟩:∃E,a3r row b col=E:=⟨_,rfl⟩;have V:Hid (E.length=n):=hid (by rw[<-U,a4g _ _ _ (by omega)];exact a8);have f9:Hid (∀j (hj:j<row.length) (l8:j<b.length) (l9:j<E.length),E[j]=row[j] - (row.getD col 0/b.getD col 0)*b[j]):=hid fun j hj l8 l9=>by subst U;simp[a3r]
 have f7:Hid (row.getD col 0/b.getD col 0=0->E=row):=hid fun h=>by rw[<-U];exact b1J _ _ _ (by omega) h
 have e0:Hid (E.length=row.length):=hid (by rw[V.out,a4]);have c4:=hid a4;have i9:=hid a8;have b0:=hid g7;have b1:=hid g8;obtain⟨f,hf⟩:∃f,row.getD col 0/b.getD col 0=f:=⟨_,rfl⟩;rw[hf]at c8 f7 f9 c9;have g9:=hid c8;have h3:=hid c9;have i3:Hid (row[col]/b[col]=f):=hid (by rw[<-g1.out,<-g2.out];exact hf);rw[U];obtain⟨m,t,s1,p1,n1,q1,d1,k1,e1,i4,o4,b4,d8⟩:=h1.rat QC.shaped col b2;obtain⟨o,u,s2,p2,n2,q2,d2,k2,e2,i5,o5,b9,d9⟩:=h2.rat QC.shaped col b3;rw[e3.out]at d8;rw[j5.out]at d9;have i1:∀W,(Instr.indexAt 25 (.slice l n c1) (.int .i64 (col:Int))).run Tryz.prog W= .ok (.pointer (some ⟨m,t,none⟩)) W:=by rw[<-i4];exact a0h a0w l n c1 .i64 col h8 c0
 have i2:∀W,(Instr.indexAt 25 (.slice H n c2) (.int .i64 (col:Int))).run Tryz.prog W= .ok (.pointer (some ⟨o,u,none⟩)) W:=by rw[<-i5];exact a0h a0w H n c2 .i64 col l5 c0
 have p:Ext w w.drew:=(ExtX.refl w).drew;have L:Hid (∀Y W',ExtX Y w.drew W'->Y m=false->Y o=false->W'.cell? ⟨m,t,none⟩=some (.bool s1)/\W'.cell? ⟨m,t+1,none⟩=some (.slice p1 n1 q1)/\W'.cell? ⟨m,t+2,none⟩=some (.slice d1 k1 e1)/\W'.cell? ⟨o,u,none⟩=some (.bool s2)/\W'.cell? ⟨o,u+1,none⟩=some (.slice p2 n2 q2)/\W'.cell? ⟨o,u+2,none⟩=some (.slice d2 k2 e2)):=hid fun Y W' h e9 f3=>by
  have z1:=b4.out Y W' ((ExtX.of p).trans h) e9;have z2:=b9.out Y W' ((ExtX.of p).trans h) f3;exact⟨z1.1,z1.2.1,z1.2.2,z2.1,z2.2.1,z2.2.2⟩
 obtain⟨D,O,P,F,Q,R⟩:=L.out noY w.drew (ExtX.refl _) rfl rfl;have o2:m<w.heap.size:=a2t D;have o3:o<w.heap.size:=a2t F;have a0:HX Z w.drew:=hX;have j6:QV (mk Z w.drew) (.agg #[.bool s1, .slice p1 n1 q1, .slice d1 k1 e1]) row[col]:=d8.qv (b0.out _ (List.getElem_mem _));have j7:QV (mk Z w.drew) (.agg #[.bool s2, .slice p2 n2 q2, .slice d2 k2 e2]) b[col]:=d9.qv (b1.out _ (List.getElem_mem _));obtain⟨ec,d3⟩:∃ec,e5 (decide (b[col]=0))=ec:=⟨_,rfl⟩;have qd:=c0Y Z w.drew _ _ _ _ a0 j6 j7;rw[d3,i3.out]at qd;have J:Ext w.drew (w.alloc (.cells #[.bool false, .slice none 0 0, .slice none 0 0] 38)).drew:=⟨rfl,rfl,rfl,((ExtX.refl (Y:=noY) w).alloc _).size,((ExtX.refl (Y:=noY) w).alloc _).block⟩;have bA:Bx (w.alloc (.cells #[.bool false, .slice none 0 0, .slice none 0 0] 38)).drew w.heap.size #[.bool false, .slice none 0 0, .slice none 0 0] 38:=Bx.new w _ _;have z:Ext w (w.alloc (.cells #[.bool false, .slice none 0 0, .slice none 0 0] 38)).drew:=p.trans J;have l2:HX (un Z (some ⟨w.heap.size,0,none⟩)) (w.alloc (.cells #[.bool false, .slice none 0 0, .slice none 0 0] 38)).drew:=fun k B=>by
  have h9:(w.alloc (.cells #[.bool false, .slice none 0 0, .slice none 0 0] 38)).drew.heap.size=w.heap.size+1:=by show(w.alloc _).heap.size=_;simp
  rw[h9];by_cases hz:Z k=true
  ·have:=hX k hz;omega
  ·have:w.heap.size=k:=by simpa[un,hz,ob]using B
   omega
 have M:∀j,j<w.heap.size->ob (some ⟨w.heap.size,0,none⟩) j=false:=fun j hj=>a0b (by omega);have f5:=c0Y (un Z (some ⟨w.heap.size,0,none⟩)) (w.alloc (.cells #[.bool false, .slice none 0 0, .slice none 0 0] 38)).drew _ _ _ _ l2 (a4F (w:=w) QV.mono j6 z M) (a4F (w:=w) QV.mono j7 z M);rw[d3,i3.out]at f5;clear i4 i5 b4 b9 d8 d9 hf U a4 a8 g7 g8 c8 c9 d3;go_enter Tryz.func317,Tryz.ntmps317
 go_upto_region 0 with(fail)
 go_cut [6,7]from 10 to 21 (fun b6 _ wx=>∃I s a n' c d k e,b6= .pointer (some ⟨I,0,none⟩)/\Bx wx I #[.bool s, .slice a n' c, .slice d k e] 38/\w.heap.size<=I/\QC (mk Z wx) (.agg #[.bool s, .slice a n' c, .slice d k e]) f/\Ext w wx)
 case first=>
  go_region_held3 (fun w'=>w'.cell? ⟨m,t,none⟩=some (.bool s1)/\w'.cell? ⟨m,t+1,none⟩=some (.slice p1 n1 q1)/\w'.cell? ⟨m,t+2,none⟩=some (.slice d1 k1 e1)/\w'.cell? ⟨o,u,none⟩=some (.bool s2)/\w'.cell? ⟨o,u+1,none⟩=some (.slice p2 n2 q2)/\w'.cell? ⟨o,u+2,none⟩=some (.slice d2 k2 e2))
   (first|exact L.out noY _ G rfl rfl|exact L.out noY _ (ExtX.alloc G _) rfl rfl|exact L.out noY _ J rfl rfl|exact L.out noY _ (J.trans T) rfl rfl|exact L.out (ob (some ⟨w.heap.size,0,none⟩)) _ ((ExtX.of (J.trans T)).trans C.2) (a0b (by omega)) (a0b (by omega))|exact L.out (ob (some ⟨w6.heap.size,0,none⟩)) _ ((ExtX.of (G.alloc _)).trans C.2) (a0b (by have:=G.size;have h9:w.drew.heap.size=w.heap.size:=rfl;omega)) (a0b (by have:=G.size;have h9:w.drew.heap.size=w.heap.size:=rfl;omega))|go_keep)
   (first|(go_at_call 206;(with_reducible refine qd.mono ?_);rintro ee w6 ⟨G,u6,rfl,q⟩;obtain⟨s6,a6,n6,c6,d6,k6,e6,rfl⟩:=q.shape;have C:=(Bx.new w6 #[.bool false, .slice none 0 0, .slice none 0 0] 38).set3 (.bool s6) (.slice a6 n6 c6) (.slice d6 k6 e6))|(go_at_call 206;(with_reducible refine f5.mono ?_);rintro ee w6 ⟨T,u6,rfl,q⟩;obtain⟨s6,a6,n6,c6,d6,k6,e6,rfl⟩:=q.shape;have bb:=bA.ext0 T;have y0:=bb.cell 0 rfl;have y1:=bb.cell 1 rfl;have y2:=bb.cell 2 rfl;have z0:=bb.frozen 0;have z1:=bb.frozen 1;have z2:=bb.frozen 2;have C:=bb.set3 (.bool s6) (.slice a6 n6 c6) (.slice d6 k6 e6)))
  ·clear D O P F Q R
   go_wp2_with fail
   go_meet
   case rel=>exact⟨w6.heap.size,_,_,_,_,_,_,_,rfl,Bx.new w6 _ _,(p.trans G).size,QC.mono _ _ _ _ (a0m ((ExtX.refl w6).alloc _)) q,(p.trans G).alloc _⟩
  ·have m6:=QC.mono _ _ _ _ (a1v (X:=Z) fun k _ B=>a0i B) (QC.mono _ _ _ _ (a0v C.2 fun k B=>a0r B) q)
   have i:Ext w _:=ExtX.box (z.trans T) C.2 (Nat.le_refl _);clear D O P F Q R y0 y1 y2 z0 z1 z2;go_wp2_with fail
   go_meet
   case rel=>exact⟨w.heap.size,_,_,_,_,_,_,_,rfl,C.1,Nat.le_refl _,m6,i⟩
 case rest=>
  obtain⟨I,sf,af,nf,cf,df,kf,ef,rfl,b6,o8,m7,K⟩:=hcut;clear D O P F Q R i1 i2 qd f5 L bA J z;have g6:=hX.ext K;have f6:=h1.ext0 QC.elem K;have k0:=h2.ext0 QC.elem K;have f0:=b6.cell 0 rfl;have f1:=b6.cell 1 rfl;have f2:=b6.cell 2 rfl;have d4:=m7.qv g9.out;by_cases h0:f=0
  ·have hr:=hid (f7.out h0)
   have j3:Hid (f.num.sign=0):=hid (by rw[h0];rfl);clear h0;go_wp2_with fail
   refine(a8H Z wc _ f g6 d4).mono ?_;rintro e w7 ⟨i,rfl⟩;rw[j3.out];clear f0 f1 f2;go_wp2_with fail
   refine bodyPost_ret (results_none rfl _ _ _) rfl ?_;exact⟨rfl,ExtX.of (K.trans i),by rw[hr.out];exact f6.ext0 QC.elem i⟩
  ·have j3:((f.num.sign:Int)==0)=false:=a2H (by intro h;exact h0 (Rat.num_eq_zero.1 (Int.sign_eq_zero_iff_zero.1 h)))
   clear h0;go_wp2_with fail
   refine(a8H Z wc _ f g6 d4).mono ?_;rintro e w7 ⟨i,rfl⟩;have b7:=b6.ext0 i;have N:=mkx QV.mono d4 i;have f8:=K.trans i;have j8:=f6.ext0 QC.elem i;have j9:=k0.ext0 QC.elem i;clear f0 f1 f2 b6;go_wp2_with fail
   go_loopw [27] (fun k wr=>∃(j:Nat),k= .int .i64 j/\j<=n/\OL QC 3 (cut Z l) base 38 wr l c1 (mix E row j)/\OL QC 3 (cut Z H) base 38 wr H c2 b/\Bx wr I #[.bool sf, .slice af nf cf, .slice df kf ef] 38/\QV (mk Z wr) (.agg #[.bool sf, .slice af nf cf, .slice df kf ef]) f/\ExtX (ob l) w wr) (fun k _=>n - (intOf k).toNat)
   case atStart=>exact⟨0,rfl,Nat.zero_le _,by rw[a3K];exact j8,j9,b7,N,ExtX.of f8⟩
   case round=>
    obtain⟨j,rfl,hj,A,g4,b7,N,U⟩:=hrel;have l3:=hX.ext U;by_cases a9:j<n
    ·have m4:j<row.length:=by rw[c4.out];exact a9
     have i7:j<b.length:=by rw[i9.out];exact a9
     have i6:j<E.length:=by rw[V.out];exact a9
     have j1:Hid ((mix E row j).length=n):=hid (by rw[a2j e0.out,V.out]);have a3:j<(mix E row j).length:=by rw[j1.out];exact a9
     have j0:Hid ((mix E row j)[j]=row[j]):=hid (by rw[a1O e0.out,if_neg (by omega)]);have i8:Hid ((mix E row j).set j E[j]=mix E row (j+1)):=hid (a4P e0.out i6);have g3:Hid (row[j] - f*b[j]=E[j]):=hid (f9.out j m4 i7 i6).symm;have h5:=hid (b1.out b[j] (List.getElem_mem _));have h6:=hid (b0.out row[j] (List.getElem_mem _));have h4:=hid (h3.out b[j] (List.getElem_mem _));obtain⟨x,hx⟩:∃x,b[j]=x:=⟨_,rfl⟩;obtain⟨y,hy⟩:∃y,row[j]=y:=⟨_,rfl⟩;obtain⟨v,hv⟩:∃v,E[j]=v:=⟨_,rfl⟩;obtain⟨r,hr⟩:∃r,mix E row j=r:=⟨_,rfl⟩;obtain⟨gg,oo,sg,ap,np,cp,dp,kp,ep,hg,o9,h7,j2⟩:=A.rat QC.shaped j a3;rw[j0.out,hy,e3.out]at j2;rw[hx,hy,hv]at g3;rw[hx]at h5 h4;rw[hy]at h6;rw[hv,hr]at i8;rw[hr]at A a3 j1;have m9:=hid hx;have i1:∀W,(Instr.indexAt 25 (.slice l n c1) (.int .i64 (j:Int))).run Tryz.prog W= .ok (.pointer (some ⟨gg,oo,none⟩)) W:=by rw[<-hg];exact a0h a0w l n c1 .i64 j h8 (by omega)
     have bx:=Bx.new wr #[.bool false, .slice none 0 0, .slice none 0 0] 38;clear hx hy hv hr j0;go_wp2_with (first|(with_reducible refine a1I a0w (by omega) (by assumption) ?_)|((with_reducible show wpList _ _ _ (⟨_, .load _ _,_,_,_,_⟩::_) _ _);refine a5u a0o j g4 i7 rfl (by simp) QC.agg ?_;intro u5 e4;rw[m9.out,j5.out]at e4;obtain⟨s5,a5,n5,c5,d5,k5,e5,rfl⟩:=e4.shape)|((with_reducible show wpList _ _ _ (⟨_, .store _ _ _,_,_,_,_⟩::_) _ _);refine a0a a0o rfl rfl bx rfl rfl (a1z _ _ _ _ _ _ _) ?_;intro S r1 r2))
     have k3:Ext wr S:=ExtX.box ((ExtX.refl wr).alloc _) r2 (Nat.le_refl _);have p:Ext S S.drew:=(ExtX.refl S).drew;have g:=k3.trans p;have k8:=A.ext0 QC.elem g;have k9:=g4.ext0 QC.elem g;have b5:=b7.ext0 g;have m8:QV (mk Z S.drew) (.agg #[.bool s5, .slice a5 n5 c5, .slice d5 k5 e5]) x:=(mkx QC.mono e4 g).qv h5.out;have n3:QV (mk Z S.drew) (.agg #[.bool sg, .slice ap np cp, .slice dp kp ep]) y:=(mkx QC.mono j2 g).qv h6.out;have i0:QV (mk Z S.drew) (.agg #[.bool sf, .slice af nf cf, .slice df kf ef]) f:=mkx QV.mono N g;have a0:HX Z S.drew:=l3.ext g;obtain⟨bw,d0⟩:∃bw,wr.heap.size=bw:=⟨_,rfl⟩;have o7:Hid (ob l bw=false):=hid (by rw[<-d0];exact A.ob_ge (Nat.le_refl _));have l4:Hid (ob l I=false):=hid (by
      cases hb:ob l I
      ·rfl
      ·have:=(h1.block hb).2;omega)
     rw[d0]at r1;have L:Hid (∀Y W',ExtX Y S.drew W'->Y gg=false->Y I=false->Y bw=false->W'.cell? ⟨gg,oo,none⟩=some (.bool sg)/\W'.cell? ⟨gg,oo+1,none⟩=some (.slice ap np cp)/\W'.cell? ⟨gg,oo+2,none⟩=some (.slice dp kp ep)/\W'.cell? ⟨I,0,none⟩=some (.bool sf)/\W'.cell? ⟨I,1,none⟩=some (.slice af nf cf)/\W'.cell? ⟨I,2,none⟩=some (.slice df kf ef)/\W'.cell? ⟨bw,0,none⟩=some (.bool s5)/\W'.cell? ⟨bw,1,none⟩=some (.slice a5 n5 c5)/\W'.cell? ⟨bw,2,none⟩=some (.slice d5 k5 e5)):=hid fun Y W' h e9 f3 n0=>by
      have z1:=h7.out Y W' ((ExtX.of g).trans h) e9;have z2:=b5.ext h f3;have z3:=(r1.ext0 p).ext h n0;exact⟨z1.1,z1.2.1,z1.2.2,z2.cell 0 rfl,z2.cell 1 rfl,z2.cell 2 rfl,z3.cell 0 rfl,z3.cell 1 rfl,z3.cell 2 rfl⟩
     obtain⟨D,O,P,F,Q,R,n9,o0,o1⟩:=L.out noY S.drew (ExtX.refl _) rfl rfl rfl;have o6:=r1.ext0 p;clear r1 bx h7;rw[d0];go_wp2_with fail
     go_region_with (first|(go_at_call 124;(with_reducible refine(b4F Z S.drew _ _ _ _ a0 i0 m8).mono ?_);rintro ee w6 ⟨G,u6,rfl,q⟩;obtain⟨s6,a6,n6,c6,d6,k6,e6,rfl⟩:=q.shape;have l1:=a0.ext G;have n4:=mkx QV.mono n3 G;have m5:=q.qv h4.out;obtain⟨m0,m1,m2,_⟩:=L.out noY w6 G rfl rfl rfl)|(go_at_call 76;(with_reducible refine(b8d Z w6 _ _ _ _ l1 n4 m5).mono ?_);rintro ee w7 ⟨t7,u7,rfl,e8⟩;obtain⟨s7,a7,n7,c7,d7,k7,e7,rfl⟩:=e8.shape;rw[g3.out]at e8;have T:=G.trans t7;have g5:=k8.ext0 QC.elem T;obtain⟨_,v0,v1,v2,_,⟨g0,f0⟩,⟨g1,f1⟩,⟨g2,f2⟩,_⟩:=g5.cell3 j a3 hg;have j4:=g5.set3 a6n QC.elem j a3 hg (v0:= .bool s7) (v1:= .slice a7 n7 c7) (v2:= .slice d7 k7 e7) (x:=v) (by rw[e3.out];exact e8)))
     all_goals
      obtain⟨q1,q2⟩:=j4;rw[i8.out]at q1;have l0:=(k9.ext0 QC.elem T).ext QC.elem q2 (fun k _ B=>a5r (f4 k B) (c3 k B)) (fun _ _ B=>B);have b8:=(b5.ext0 T).ext q2 l4.out;have l7:QV (mk Z _) _ _:=QV.mono _ _ _ _ (a0v q2 f4) (mkx QV.mono i0 T);have k4:=(U.trans (ExtX.of (g.trans T))).trans q2;clear D O P F Q R n9 o0 o1 m0 m1 m2 g0 g1 g2 f0 f1 f2 i1;go_wp2_with fail
      go_roundw
      case rel=>exact⟨j+1,by go_num,by omega,q1,l0,b8,l7,k4⟩
      case measure=>simp[intOf];omega
    ·have m3:j=n:=by omega
     subst m3;rw[a3L (by rw[V.out];exact Nat.le_refl _) (by rw[c4.out];exact Nat.le_refl _)]at A;go_wp2_with fail
     go_end0
     exact⟨rfl,U,A⟩
end Go.Proofs.YtgbbpgflopajaaaGreat
namespace Go.Lin
def c1n:Option Nat->Int
 |none=> -1
 |some k=>k
end Go.Lin
namespace Go.Proofs.YtgbbpgflopajaaaGreat
open Go.RowKit Go.Rep Go.Lim Go.Lin
theorem a9U(X:Nat->Bool)(w:World)(a:Option Addr)(l:List Rat)(n c col b:Nat)(q:HX X w)(hs:Sl QC 3 (mk X w) a l)(s:l.length=n)(r:col<n)(p:BR 68719476736 l)(E:w.cell? ⟨b,0,none⟩=some (.int .i64 (col:Int))):Calls Tryz.prog 319 #[.slice a n c, .pointer (some ⟨b,0,none⟩)] w (b2N w (decide (l.getD col 0≠0))):=by
 have F:Hd a n:=by have:=hs.hd;rw[s]at this;exact this
 have g:col<l.length:=by omega
 have k:=hs.qv p;obtain⟨x,hx⟩:∃x,l[col]=x:=⟨_,rfl⟩;have y:Hid (l.getD col 0=x):=hid (by simp[List.getD_eq_getElem?_getD,g,hx]);have m:=hid hx;clear s p hx;rw[y.out];by_cases j:x=0
 ·have o:Hid (decide (x≠0)=false):=hid (by simp[j])
  have i:Hid (x.num.sign=0):=hid (by rw[j];rfl);rw[o.out];clear j;go_enter Tryz.func319,Tryz.ntmps319
  go_wp2_with (first|(with_reducible refine a1I a0w (by omega) (by assumption) ?_)|((with_reducible show wpList _ _ _ (⟨_, .load 38 _,_,_,_,_⟩::_) _ _);refine a0C a0o col k g rfl (by simp) QV.agg ?_;intro C d;rw[m.out]at d;obtain⟨B,t,A,u,v,z,e5,rfl⟩:=d.shape))
  refine(a8H X w _ x q d).mono ?_;rintro e D ⟨f,rfl⟩;rw[i.out];go_wp2_with fail
  go_ret
  exact⟨f,rfl⟩
 ·have o:Hid (decide (x≠0)=true):=hid (by simp[j])
  have i:((x.num.sign:Int) !=0)=true:=a8A (by intro h;exact j (Rat.num_eq_zero.1 (Int.sign_eq_zero_iff_zero.1 h)));rw[o.out];clear j;go_enter Tryz.func319,Tryz.ntmps319
  go_wp2_with (first|(with_reducible refine a1I a0w (by omega) (by assumption) ?_)|((with_reducible show wpList _ _ _ (⟨_, .load 38 _,_,_,_,_⟩::_) _ _);refine a0C a0o col k g rfl (by simp) QV.agg ?_;intro C d;rw[m.out]at d;obtain⟨B,t,A,u,v,z,e5,rfl⟩:=d.shape))
  refine(a8H X w _ x q d).mono ?_;rintro e D ⟨f,rfl⟩;generalize x.num.sign=sg at i;go_wp2_with fail
  go_ret
  exact⟨f,rfl⟩
theorem a8j(X:Nat->Bool)(w:World)(a:Option Addr)(l:List (List Rat))(n c M col b:Nat)(S:HX X w)(hs:Sl RC 1 (mk X w) a l)(J:l.length=n)(Y:n<=1000000)(D:∀r∈l,r.length=M)(x:col<M)(N:BM 68719476736 l)(U:w.cell? ⟨b,0,none⟩=some (.int .i64 (col:Int))):Calls Tryz.prog 318 #[.slice a n c, .func (.func 319) #[] #[.pointer (some ⟨b,0,none⟩)]] w (fun e w'=>Ext w w'/\e= .returned (.int .i64 (c1n (l.findIdx? fun r=>decide (r.getD col 0≠0))))):=by
 have W:Hd a n:=by have:=hs.hd;rw[J]at this;exact this
 have z:=hid J;have L:=hid D;have G:=hid N;have f:Hid (∀i (hi:i<l.length),(∀q (hq:q<l.length),q<i->l[q].getD col 0=0)->l[i].getD col 0≠0->l.findIdx? (fun r=>decide (r.getD col 0≠0))=some i):=hid fun i hi E R=>by
  rw[List.findIdx?_eq_some_iff_getElem];exact⟨hi,by simpa using R,fun q hq=>by simpa using E q (by omega) hq⟩
 have g:Hid ((∀q (hq:q<l.length),l[q].getD col 0=0)->l.findIdx? (fun r=>decide (r.getD col 0≠0))=none):=hid fun E=>by
  rw[List.findIdx?_eq_none_iff];intro r D;obtain⟨q,hq,rfl⟩:=List.getElem_of_mem D;simpa using E q hq
 obtain⟨F,hF⟩:∃F,l.findIdx? (fun r=>decide (r.getD col 0≠0))=F:=⟨_,rfl⟩;rw[hF]at f g |-;clear J D N hF;go_enter Tryz.func318,Tryz.ntmps318
 go_wp2_with fail
 go_loopw [8] (fun k wr=>∃(i:Nat),k= .int .i64 i/\i<=n/\Hid (∀q (hq:q<l.length),q<i->l[q].getD col 0=0)/\Ext w wr) (fun k _=>n - (intOf k).toNat)
 case atStart=>exact⟨0,rfl,Nat.zero_le _,hid (fun q hq h=>by omega),ExtX.refl _⟩
 case round=>
  obtain⟨i,rfl,hi,p,v⟩:=hrel;by_cases K:i<n
  ·have y:i<l.length:=by rw[z.out];exact K
   obtain⟨P,Q,T,m,O,s⟩:=(hs.mono RC.mono (a0m v)).row i y;have t:=m.out noY wr (ExtX.refl _) rfl;have C:=hid (L.out l[i] (List.getElem_mem _));have H:=hid (G.out l[i] (List.getElem_mem _));rw[C.out]at t;have o:=v.cell U;have d:=a9U X wr P l[i] M Q col b (S.ext v) s C.out x H.out o;by_cases u:l[i].getD col 0=0
   ·have hd:Hid (decide (l[i].getD col 0≠0)=false):=hid (decide_eq_false (fun h=>h u))
    rw[hd.out]at d;have A:Hid (∀q (hq:q<l.length),q<i+1->l[q].getD col 0=0):=hid fun q hq B=>by
     by_cases e:q=i
     ·subst e;exact u
     ·exact p.out q hq (by omega)
    clear u m s;go_wp2_with (with_reducible refine a0s a0p (by omega) (by assumption) ?_)
    refine d.mono ?_;rintro e V ⟨j,rfl⟩;clear t;go_wp2_with fail
    go_roundw
    case rel=>exact⟨i+1,by go_num,by omega,A,v.trans j⟩
    case measure=>simp[intOf];omega
   ·have hd:Hid (decide (l[i].getD col 0≠0)=true):=hid (decide_eq_true u)
    rw[hd.out]at d;have I:=hid (f.out i y (fun q hq B=>p.out q hq B) u);clear u m s;go_wp2_with (with_reducible refine a0s a0p (by omega) (by assumption) ?_)
    refine d.mono ?_;rintro e V ⟨j,rfl⟩;clear t;go_wp2_with fail
    go_ret
    exact⟨v.trans j,a0O (by rw[I.out];rfl)⟩
  ·have I:=hid (g.out fun q hq=>p.out q hq (by rw[z.out]at hq;omega))
   go_wp2_with fail
   go_ret
   exact⟨v,a0O (by rw[I.out];rfl)⟩
end Go.Proofs.YtgbbpgflopajaaaGreat
