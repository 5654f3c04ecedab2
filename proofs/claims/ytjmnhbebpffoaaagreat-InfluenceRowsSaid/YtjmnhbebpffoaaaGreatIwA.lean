/- Parts of a proof: each theorem states what it proves, and its conditions. -/
theorem c1A{n m k:Nat}(a:n<=m)(b:m<=k):n<=k:=Nat.le_trans a b
theorem c1B(n:Nat):n<=n:=Nat.le_refl n
theorem c1C{n m k:Nat}(a:n<m)(b:m<=k):n<k:=Nat.lt_of_lt_of_le a b
theorem c1D{α:Type _}{i:Nat}{l:List α}(h:l.length<=i):l.take i=l:=List.take_of_length_le h
theorem c1E{α:Type _}{l:List α}{n:Nat}(h:n<l.length):l[n]∈l:=List.getElem_mem h
theorem c1F{α:Sort _}(a:α):∃x,a=x:=⟨a,rfl⟩
theorem c1G{α:Type _}(l:List α)(i:Nat)(a:α):l.toArray.setIfInBounds i a=(l.set i a).toArray:=List.setIfInBounds_toArray l i a
theorem c1H{α:Type _}{x:α}{s:List α}{a:α}:(x::s).set 0 a=a::s:=rfl
theorem c1I{α:Type _}{x:α}{s:List α}{n:Nat}{a:α}:(x::s).set (n+1) a=x::s.set n a:=rfl
namespace Go.Proofs.YtjmnhbebpffoaaaGreat
def sm:Nat->(Nat->Rat)->Rat
 |0,_=>0
 |n+1,f=>sm n f+f n
theorem a0q{n:Nat}{f g:Nat->Rat}(h:∀i,i<n->f i=g i):sm n f=sm n g:=by
 induction n with
 |zero=>rfl
 |succ n ih=>unfold sm;rw[ih fun i hi=>h i (by omega),h n (by omega)]
theorem a2Q{n:Nat}{f:Nat->Rat}(h:∀i,i<n->f i=0):sm n f=0:=by
 induction n with
 |zero=>rfl
 |succ n ih=>unfold sm;rw[ih fun i hi=>h i (by omega),h n (by omega)];grind
theorem a8q(n:Nat)(f g:Nat->Rat):sm n (fun i=>f i+g i)=sm n f+sm n g:=by
 induction n with
 |zero=>unfold sm;grind
 |succ n ih=>unfold sm;rw[ih];grind
theorem a2A(n:Nat)(a:Rat)(f:Nat->Rat):sm n (fun i=>a*f i)=a*sm n f:=by
 induction n with
 |zero=>unfold sm;grind
 |succ n ih=>unfold sm;rw[ih];grind
theorem a3N(n m:Nat)(f:Nat->Nat->Rat):sm n (fun i=>sm m (fun j=>f i j))=sm m (fun j=>sm n (fun i=>f i j)):=by
 induction n with
 |zero=>simp only[sm];rw[a2Q];intros;rfl
 |succ n ih=>simp only[sm];rw[ih,a8q]
theorem a1X{n:Nat}{f:Nat->Rat}(k:Nat)(hk:k<n)(h:∀i,i<n->i≠k->f i=0):sm n f=f k:=by
 induction n with
 |zero=>omega
 |succ n ih=>
  unfold sm;by_cases e:k=n
  ·subst e;rw[a2Q fun i hi=>h i (by omega) (by omega)];grind
  ·rw[ih (by omega) fun i hi hik=>h i (by omega) hik,h n (by omega) (by omega)];grind
theorem a8r(n:Nat)(f g:Nat->Rat):sm n (fun i=>f i - g i)=sm n f - sm n g:=by
 induction n with
 |zero=>unfold sm;grind
 |succ n ih=>unfold sm;rw[ih];grind
theorem b6P{n:Nat}{f g:Nat->Rat}(k:Nat)(c:k<n)(h:∀i,i<n->i≠k->f i=g i)(a:f k=g k):sm n f=sm n g:=
 a0q fun i b=>by
             by_cases e:i=k
             ·subst e;exact a
             ·exact h i b e
theorem b6f{n:Nat}{f g:Nat->Rat}(i k:Nat)(l:i<n)(m:k<n)(d:i≠k)(h:∀r,r<n->r≠i->r≠k->f r=g r)(o:f i+f k=g i+g k):sm n f=sm n g:=by
 have e:sm n (fun r=>f r - g r)=0:=by
  have j:∀r,r<n->(fun r=>f r - g r) r=(fun r=>(if r=i then f i - g i else 0)+(if r=k then f k - g k else 0)) r:=by
   intro r c
   show f r - g r=_
   by_cases a:r=i
   ·subst a;simp[d];grind
   ·by_cases b:r=k
    ·subst b;simp[a];grind
    ·simp[a,b];rw[h r c a b];grind
  rw[a0q j,a8q,a1X i l (fun r _ c=>by simp[c]),a1X k m (fun r _ c=>by simp[c])];simp;grind
 rw[a8r]at e;grind
abbrev F2:=Nat->Nat->Rat
def Eqm(n c:Nat)(f g:F2):Prop:=∀i,i<n->∀j,j<c->f i j=g i j
def Nul(n c:Nat)(f:F2)(x:Nat->Rat):Prop:=∀i,i<n->sm c (fun j=>f i j*x j)=0
inductive RE (n c:Nat):F2->F2->Rat->Prop
 |same {f g:F2} (h:Eqm n c f g):RE n c f g 1
 |swap {f g:F2} (i k:Nat) (hi:i<n) (hk:k<n) (hik:i≠k) (h1:∀j,j<c->g i j=f k j) (h2:∀j,j<c->g k j=f i j) (h3:∀r,r<n->r≠i->r≠k->∀j,j<c->g r j=f r j):RE n c f g (-1)
 |scale {f g:F2} (i:Nat) (a:Rat) (hi:i<n) (ha:a≠0) (h1:∀j,j<c->g i j=a*f i j) (h3:∀r,r<n->r≠i->∀j,j<c->g r j=f r j):RE n c f g a
 |add {f g:F2} (i k:Nat) (a:Rat) (hi:i<n) (hk:k<n) (hik:i≠k) (h1:∀j,j<c->g i j=f i j+a*f k j) (h3:∀r,r<n->r≠i->∀j,j<c->g r j=f r j):RE n c f g 1
 |trans {f g h:F2} {a b:Rat} (h1:RE n c f g a) (h2:RE n c g h b):RE n c f h (a*b)
theorem RE.ne{n c:Nat}{f g:F2}{d:Rat}(h:RE n c f g d):d≠0:=by
 induction h with
 |same=>grind
 |swap=>grind
 |scale=>assumption
 |add=>grind
 |trans _ _ ih1 ih2=>intro e;rcases Rat.mul_eq_zero.1 e with h|h<;>contradiction
theorem RE.nul{n c:Nat}{f g:F2}{d:Rat}(h:RE n c f g d)(x:Nat->Rat):Nul n c f x↔Nul n c g x:=by
 induction h with
 |same h=>
  constructor
  ·intro hn i hi;rw[<-hn i hi];exact a0q fun j hj=>by rw[h i hi j hj]
  ·intro hn i hi;rw[<-hn i hi];exact a0q fun j hj=>by rw[h i hi j hj]
 |swap i k hi hk hik h1 h2 h3=>
  constructor
  ·intro hn r hr
   by_cases a:r=i
   ·subst a;rw[<-hn k hk];exact a0q fun j hj=>by rw[h1 j hj]
   ·by_cases b:r=k
    ·subst b;rw[<-hn i hi];exact a0q fun j hj=>by rw[h2 j hj]
    ·rw[<-hn r hr];exact a0q fun j hj=>by rw[h3 r hr a b j hj]
  ·intro hn r hr
   by_cases a:r=i
   ·subst a;rw[<-hn k hk];exact a0q fun j hj=>by rw[h2 j hj]
   ·by_cases b:r=k
    ·subst b;rw[<-hn i hi];exact a0q fun j hj=>by rw[h1 j hj]
    ·rw[<-hn r hr];exact a0q fun j hj=>by rw[h3 r hr a b j hj]
 |@scale f g i a hi ha h1 h3=>
  have key:sm c (fun j=>g i j*x j)=a*sm c (fun j=>f i j*x j):=by
   rw[<-a2A];exact a0q fun j hj=>by rw[h1 j hj];grind
  constructor
  ·intro hn r hr
   by_cases e:r=i
   ·subst e;rw[key,hn r hr];grind
   ·rw[<-hn r hr];exact a0q fun j hj=>by rw[h3 r hr e j hj]
  ·intro hn r hr
   by_cases e:r=i
   ·subst e;have:=hn r hr;rw[key]at this;rcases Rat.mul_eq_zero.1 this with h|h
    ·contradiction
    ·exact h
   ·rw[<-hn r hr];exact a0q fun j hj=>by rw[h3 r hr e j hj]
 |@add f g i k a hi hk hik h1 h3=>
  have key:sm c (fun j=>g i j*x j)=sm c (fun j=>f i j*x j)+a*sm c (fun j=>f k j*x j):=by
   rw[<-a2A,<-a8q];exact a0q fun j hj=>by rw[h1 j hj];grind
  constructor
  ·intro hn r hr
   by_cases e:r=i
   ·subst e;rw[key,hn r hr,hn k hk];grind
   ·rw[<-hn r hr];exact a0q fun j hj=>by rw[h3 r hr e j hj]
  ·intro hn r hr
   by_cases e:r=i
   ·subst e
    have h4:=hn r hr;rw[key]at h4;have h5:=hn k hk;rw[show sm c (fun j=>g k j*x j)=sm c (fun j=>f k j*x j)from a0q fun j hj=>by rw[h3 k hk (by omega) j hj]]at h5;rw[h5]at h4;grind
   ·rw[<-hn r hr];exact a0q fun j hj=>by rw[h3 r hr e j hj]
 |trans _ _ ih1 ih2=>exact ih1.trans ih2
def cmb(n:Nat)(f:F2)(y:Nat->Rat)(j:Nat):Rat:=sm n fun i=>y i*f i j
def LI(n c:Nat)(f:F2):Prop:=∀y:Nat->Rat,(∀j,j<c->cmb n f y j=0)->∀i,i<n->y i=0
theorem RE.li{n c:Nat}{f g:F2}{d:Rat}(h:RE n c f g d)(hf:LI n c f):LI n c g:=by
 induction h with
 |same h=>
  intro y hy;exact hf y fun j hj=>by rw[<-hy j hj];exact a0q fun i hi=>by rw[h i hi j hj]
 |@swap f g i k hi hk hik h1 h2 h3=>
  intro y hy;have:=hf (fun r=>if r=i then y k else if r=k then y i else y r) fun j hj=>by
   rw[<-hy j hj];refine b6f i k hi hk hik (fun r hr a b=>?_) ?_
   ·simp[a,b,h3 r hr a b j hj]
   ·simp[hik.symm,h1 j hj,h2 j hj];grind
  intro r hr;by_cases a:r=i
  ·subst a;simpa[hik.symm]using this k hk
  ·by_cases b:r=k
   ·subst b;simpa using this i hi
   ·simpa[a,b]using this r hr
 |@scale f g i a hi ha h1 h3=>
  intro y hy;have:=hf (fun r=>if r=i then a*y i else y r) fun j hj=>by
   rw[<-hy j hj];refine b6P i hi (fun r hr e=>?_) ?_
   ·simp[e,h3 r hr e j hj]
   ·simp[h1 j hj];grind
  intro r hr;by_cases e:r=i
  ·subst e
   have h4:=this r hr;simp only[if_true]at h4;rcases Rat.mul_eq_zero.1 h4 with h4|h4
   ·contradiction
   ·exact h4
  ·simpa[e]using this r hr
 |@add f g i k a hi hk hik h1 h3=>
  intro y hy;have:=hf (fun r=>if r=k then y k+a*y i else y r) fun j hj=>by
   rw[<-hy j hj];refine b6f i k hi hk hik (fun r hr a b=>?_) ?_
   ·simp[b,h3 r hr a j hj]
   ·simp[hik,h1 j hj,h3 k hk hik.symm j hj];grind
  intro r hr;have hyi:y i=0:=by simpa[hik]using this i hi
  by_cases e:r=k
  ·subst e
   have h4:=this r hr;simp[hyi]at h4;grind
  ·simpa[e]using this r hr
 |trans _ _ ih1 ih2=>exact ih2 (ih1 hf)
structure Rref (n c:Nat) (f:F2) (p:List Nat):Prop where
 le:p.length<=n
 lt:∀i (hi:i<p.length),p[i]<c
 inc:∀i k (hik:i<k) (hk:k<p.length),p[i]<p[k]
 left:∀i (hi:i<p.length),∀j,j<p[i]->f i j=0
 one:∀i (hi:i<p.length),f i p[i]=1
 zero:∀k (hk:k<p.length),∀i,i<n->i≠k->f i p[k]=0
 below:∀i,p.length<=i->i<n->∀j,j<c->f i j=0
def nvF(f:F2)(p:List Nat)(j:Nat):Nat->Rat:=fun x=>if x=j then 1 else match p.findIdx? (· ==x)with|some i=> - f i j|none=>0
theorem Rref.idx{n c:Nat}{f:F2}{p:List Nat}(h:Rref n c f p)(i:Nat)(a:i<p.length):p.findIdx? (· ==p[i])=some i:=by
 rw[List.findIdx?_eq_some_iff_getElem];refine⟨a,by simp,fun j b=>?_⟩;have:=h.inc j i b a;simp;omega
theorem a6i{p:List Nat}{x:Nat}(h:x∉p):p.findIdx? (· ==x)=none:=by
 rw[List.findIdx?_eq_none_iff];intro y a;simp;rintro rfl;exact h a
theorem Rref.nv_piv{n c:Nat}{f:F2}{p:List Nat}(h:Rref n c f p){j:Nat}(b:j∉p)(i:Nat)(a:i<p.length):nvF f p j p[i]= - f i j:=by
 unfold nvF;rw[if_neg (by rintro e;exact b (e▸c1E _)),h.idx i a]
theorem a6o{f:F2}{p:List Nat}(j:Nat):nvF f p j j=1:=by simp[nvF]
theorem a9t{f:F2}{p:List Nat}{j x:Nat}(b:x∉p)(a:x≠j):nvF f p j x=0:=by
 unfold nvF;rw[if_neg a,a6i b]
theorem Rref.row{n c:Nat}{f:F2}{p:List Nat}(h:Rref n c f p)(i:Nat)(g:i<p.length)(x:Nat->Rat):sm c (fun j=>f i j*x j)=x p[i]+sm c (fun j=>if j∈p then 0 else f i j*x j):=by
 have e:sm c (fun j=>f i j*x j)=sm c (fun j=>(if j=p[i]then x p[i]else 0)+(if j∈p then 0 else f i j*x j)):=by
  refine a0q fun j m=>?_;by_cases l:j∈p
  ·obtain⟨k,o,rfl⟩:=List.getElem_of_mem l
   by_cases b:i=k
   ·subst b;simp[h.one i g];grind
   ·have d:p[k]≠p[i]:=by
     rcases Nat.lt_or_gt_of_ne b with a|a
     ·have:=h.inc i k a o;omega
     ·have:=h.inc k i a g;omega
    simp[d,h.zero k o i (c1C g h.le) b];grind
  ·have d:j≠p[i]:=by rintro rfl;exact l (c1E _)
   simp[l,d];grind
 rw[e,a8q,a1X p[i] (h.lt i g) (fun j _ m=>by simp[m])];simp
theorem Rref.nv_nul{n c:Nat}{f:F2}{p:List Nat}(h:Rref n c f p){j:Nat}(g:j∉p)(b:j<c):Nul n c f (nvF f p j):=by
 intro i l;by_cases a:i<p.length
 ·rw[h.row i a,h.nv_piv g i a,a1X j b]
  ·simp[g,a6o];grind
  ·intro k _ d
   by_cases e:k∈p
   ·simp[e]
   ·simp[e,a9t e d]
 ·exact a2Q fun k m=>by rw[h.below i (by omega) l k m];grind
theorem Rref.nv_supp{n c:Nat}{f:F2}{p:List Nat}(h:Rref n c f p){j:Nat}(d:j∉p){x:Nat}(e:j<x):nvF f p j x=0:=by
 by_cases b:x∈p
 ·obtain⟨k,a,rfl⟩:=List.getElem_of_mem b
  rw[h.nv_piv d k a,h.left k a j e];grind
 ·exact a9t b (by omega)
theorem Rref.sub{n c:Nat}{f g:F2}{p q:List Nat}(i:Rref n c f p)(b:Rref n c g q)(m:∀x,Nul n c f x->Nul n c g x)(j:Nat)(l:j∈q):j∈p:=by
 refine Classical.byContradiction fun d=>?_;obtain⟨k,e,rfl⟩:=List.getElem_of_mem l;have h:=m _ (i.nv_nul d (b.lt k e)) k (c1C e b.le);rw[a1X q[k] (b.lt k e)]at h
 ·rw[b.one k e,a6o]at h;grind
 ·intro x _ o
  rcases Nat.lt_or_gt_of_ne o with a|a
  ·rw[b.left k e x a];grind
  ·rw[i.nv_supp d a];grind
theorem b0m:∀(p q:List Nat),p.Pairwise (· < ·)->q.Pairwise (· < ·)->(∀x,x∈p↔x∈q)->p=q
 | [],[],_,_,_=>rfl
 | [],b::q,_,_,h=>by have:=(h b).2 (by simp);simp at this
 |a::p,[],_,_,h=>by have:=(h a).1 (by simp);simp at this
 |a::p,b::q,hp,hq,h=>by
  rw[List.pairwise_cons]at hp hq;have hab:a=b:=by
   have h1:=(h a).1 (by simp);have h2:=(h b).2 (by simp);simp at h1 h2;rcases h1 with h1|h1
   ·exact h1
   ·rcases h2 with h2|h2
    ·exact h2.symm
    ·have:=hq.1 a h1;have:=hp.1 b h2;omega
  subst hab;rw[b0m p q hp.2 hq.2];intro x;have h3:=h x;simp at h3;constructor
  ·intro hx
   have:=hp.1 x hx;rcases h3.1 (.inr hx)with e|e
   ·omega
   ·exact e
  ·intro hx
   have:=hq.1 x hx;rcases h3.2 (.inr hx)with e|e
   ·omega
   ·exact e
theorem Rref.pw{n c:Nat}{f:F2}{p:List Nat}(h:Rref n c f p):p.Pairwise (· < ·):=by
 rw[List.pairwise_iff_getElem];intro i j d b a;exact h.inc i j a b
theorem Rref.unique{n c:Nat}{f g:F2}{p q:List Nat}(d:Rref n c f p)(l:Rref n c g q)(s:∀x,Nul n c f x↔Nul n c g x):p=q/\Eqm n c f g:=by
 have u:p=q:=b0m p q d.pw l.pw fun x=>⟨l.sub d (fun x h=>(s x).2 h) x,d.sub l (fun x h=>(s x).1 h) x⟩;subst u;refine⟨rfl,fun i m j o=>?_⟩;by_cases a:i<p.length
 ·by_cases b:j∈p
  ·obtain⟨k,w,rfl⟩:=List.getElem_of_mem b
   by_cases e:i=k
   ·subst e;rw[d.one i a,l.one i a]
   ·rw[d.zero k w i m e,l.zero k w i m e]
  ·have v:=(s _).1 (d.nv_nul b o) i m
   rw[l.row i a,d.nv_piv b i a,a1X j o]at v
   ·simp[b,a6o]at v;grind
   ·intro k _ r
    by_cases t:k∈p
    ·simp[t]
    ·simp[t,a9t t r]
 ·rw[d.below i (by omega) m j o,l.below i (by omega) m j o]
theorem RE.then_{n c:Nat}{f g h:F2}{a b d:Rat}(i:RE n c f g a)(j:RE n c g h b)(e:a*b=d):RE n c f h d:=e▸i.trans j
theorem RE.addmany{n c:Nat}{f g:F2}(k:Nat)(hk:k<n)(a:Nat->Rat)(h1:∀i,i<n->i≠k->∀j,j<c->g i j=f i j+a i*f k j)(h2:∀j,j<c->g k j=f k j):RE n c f g 1:=by
 have key:∀t,t<=n->RE n c f (fun i j=>if i<t then g i j else f i j) 1:=by
  intro t
  induction t with
  |zero=>intro _;exact .same fun i _ j _=>by simp
  |succ t ih=>
   intro ht;refine(ih (by omega)).then_ (b:=1) ?_ (by grind);by_cases e:t=k
   ·subst e
    refine .same fun i hi j hj=>?_;by_cases a:i<t
    ·simp[a,show i<t+1 by omega]
    ·by_cases b:i=t
     ·subst b;simp[h2 j hj]
     ·simp[a,show¬i<t+1 by omega]
   ·refine .add t k (a t) (by omega) hk e (fun j hj=>?_) (fun r hr hrt j hj=>?_)
    ·have h3:=h1 t (by omega) e j hj
     by_cases b:k<t
     ·simp[b,h3,h2 j hj]
     ·simp[b,h3]
    ·by_cases a:r<t
     ·simp[a,show r<t+1 by omega]
     ·simp[a,show¬r<t+1 by omega]
 refine(key n (c1B _)).then_ (.same fun i hi j hj=>?_) (by grind);simp[hi]
structure Ech (n k:Nat) (f:F2) (p:List Nat):Prop where
 le:p.length<=n
 lt:∀i (hi:i<p.length),p[i]<k
 inc:∀i k (hik:i<k) (hk:k<p.length),p[i]<p[k]
 left:∀i (hi:i<p.length),∀j,j<p[i]->f i j=0
 piv:∀i (hi:i<p.length),f i p[i]≠0
 below:∀i,p.length<=i->i<n->∀j,j<k->f i j=0
theorem Ech.nil(n:Nat)(f:F2):Ech n 0 f []:=⟨by simp,by simp,by simp,by simp,by simp,by intros;omega⟩
theorem Ech.skip{n k:Nat}{f:F2}{p:List Nat}(h:Ech n k f p)(hz:∀i,p.length<=i->i<n->f i k=0):Ech n (k+1) f p:=
 ⟨h.le,fun i a=>Nat.lt_succ_of_lt (h.lt i a),h.inc,h.left,h.piv,fun i a b j c=>by
  by_cases e:j=k
  ·subst e;exact hz i a b
  ·exact h.below i a b j (by omega)⟩
theorem b2j{p:List Nat}{k:Nat}(h:∀i (a:i<p.length),p[i]<k)(i:Nat)(a:i<(p++[k]).length):(p++[k])[i]<k+1:=by
 rw[List.getElem_append];split
 ·have:=h i (by assumption);omega
 ·simp
theorem b0n{p:List Nat}{c:Nat}(h:∀i (f:i<p.length),p[i]<c)(e:∀i k (b:i<k) (d:k<p.length),p[i]<p[k])(i k:Nat)(b:i<k)(d:k<(p++[c]).length):(p++[c])[i]<(p++[c])[k]:=by
 simp at d;rw[List.getElem_append,List.getElem_append];by_cases a:k<p.length
 ·simp[a,show i<p.length by omega];exact e i k b a
 ·simp[a,show i<p.length by omega];exact h i (by omega)
theorem Ech.push{n k:Nat}{f g:F2}{p:List Nat}(h:Ech n k f p)(q:p.length<n)(l:∀i,i<p.length->∀j,g i j=f i j)(hz:∀i,p.length<=i->i<n->∀j,j<k->g i j=0)(d:g p.length k≠0)(o:∀i,p.length<i->i<n->g i k=0):Ech n (k+1) g (p++[k]):=by
 refine⟨by simp;omega,b2j h.lt,b0n h.lt h.inc,fun i c j b=>?_,fun i c=>?_,fun i c m j b=>?_⟩
 ·simp at c
  rw[List.getElem_append]at b;by_cases a:i<p.length
  ·simp[a]at b;rw[l i a];exact h.left i a j b
  ·simp[a]at b;exact hz i (by omega) (by omega) j b
 ·simp at c
  rw[List.getElem_append];by_cases a:i<p.length
  ·simp only[a,dite_true];rw[l i a];exact h.piv i a
  ·obtain rfl:i=p.length:=by omega
   simpa using d
 ·simp at c
  by_cases e:j=k
  ·subst e;exact o i (by omega) m
  ·exact hz i (by omega) m j (by omega)
structure Red (n t:Nat) (f:F2) (p:List Nat):Prop where
 one:∀i (hi:i<p.length),i<t->f i p[i]=1
 zero:∀k (hk:k<p.length),k<t->∀i,i<n->i≠k->f i p[k]=0
theorem Ech.rref{n c:Nat}{f:F2}{p:List Nat}(h:Ech n c f p)(d:Red n p.length f p):Rref n c f p:=
 ⟨h.le,h.lt,h.inc,h.left,fun i a=>d.one i a a,fun k b=>d.zero k b b,h.below⟩
theorem Ech.under{n c:Nat}{f:F2}{p:List Nat}(h:Ech n c f p)(k:Nat)(e:k<p.length)(i:Nat)(d:i<n)(b:k<i):f i p[k]=0:=by
 by_cases a:i<p.length
 ·exact h.left i a _ (h.inc k i b a)
 ·exact h.below i (by omega) d _ (h.lt k e)
theorem Red.step{n c t:Nat}{f g:F2}{p:List Nat}(h:Ech n c f p)(v:Red n t f p)(m:t<p.length)(w:∀j,g t j=f t j/f t p[t])(o:∀i,i<t->∀j,g i j=f i j - f i p[t]*g t j)(q:∀i,t<i->∀j,g i j=f i j):Ech n c g p/\Red n (t+1) g p:=by
 have A:=h.piv t m;have hz:∀j,j<p[t]->g t j=0:=fun j l=>by rw[w,h.left t m j l];grind
 have e:g t p[t]=1:=by rw[w];grind
 refine⟨⟨h.le,h.lt,h.inc,fun i d j l=>?_,fun i d=>?_,fun i d z j l=>?_⟩,⟨fun i d x=>?_,fun k u y i d r=>?_⟩⟩
 ·rcases Nat.lt_trichotomy i t with a|a|a
  ·rw[o i a,h.left i d j l,hz j (by have:=h.inc i t a m;omega)];grind
  ·subst a;exact hz j l
  ·rw[q i a];exact h.left i d j l
 ·rcases Nat.lt_trichotomy i t with a|a|a
  ·rw[o i a,hz _ (h.inc i t a m)];have:=h.piv i d;grind
  ·subst a;rw[e];grind
  ·rw[q i a];exact h.piv i d
 ·rw[q i (by omega)];exact h.below i d z j l
 ·rcases Nat.lt_trichotomy i t with a|a|a
  ·rw[o i a,hz _ (h.inc i t a m),v.one i d a];grind
  ·subst a;exact e
  ·omega
 ·rcases Nat.lt_trichotomy k t with b|b|b
  ·have s:g t p[k]=0:=hz _ (h.inc k t b m)
   rcases Nat.lt_trichotomy i t with a|a|a
   ·rw[o i a,s,v.zero k u b i d r];grind
   ·subst a;exact s
   ·rw[q i a];exact v.zero k u b i d r
  ·subst b
   rcases Nat.lt_trichotomy i k with a|a|a
   ·rw[o i a,e];grind
   ·omega
   ·rw[q i a];exact h.under k u i d a
  ·omega
theorem Rref.skip{n k:Nat}{f:F2}{p:List Nat}(h:Rref n k f p)(hz:∀i,p.length<=i->i<n->f i k=0):Rref n (k+1) f p:=
 ⟨h.le,fun i a=>Nat.lt_succ_of_lt (h.lt i a),h.inc,h.left,h.one,h.zero,fun i a b j c=>by
  by_cases e:j=k
  ·subst e;exact hz i a b
  ·exact h.below i a b j (by omega)⟩
theorem Rref.nil(n:Nat)(f:F2):Rref n 0 f []:=⟨by simp,by simp,by simp,by simp,by simp,by simp,by intros;omega⟩
theorem Rref.push{n k:Nat}{f g:F2}{p:List Nat}(h:Rref n k f p)(u:p.length<n)(v:f p.length k≠0)(s:∀j,g p.length j=f p.length j*(1/f p.length k))(t:∀i,i<n->i≠p.length->∀j,g i j=f i j+g p.length j* - f i k):Rref n (k+1) g (p++[k]):=by
 have hz:∀j,j<k->g p.length j=0:=fun j c=>by rw[s,h.below _ (c1B _) u j c];grind
 have d:g p.length k=1:=by rw[s];grind
 have m:∀i,i<n->i≠p.length->g i k=0:=fun i b e=>by rw[t i b e,d];grind
 have o:∀i,i<n->∀j,j<k->g i j=f i j:=fun i b j c=>by
  by_cases e:i=p.length
  ·subst e;rw[hz j c,h.below _ (c1B _) u j c]
  ·rw[t i b e,hz j c];grind
 refine⟨by simp;omega,b2j h.lt,b0n h.lt h.inc,fun i b j c=>?_,fun i b=>?_,fun q hq i b l=>?_,fun i b r j c=>?_⟩
 ·simp at b
  rw[List.getElem_append]at c;by_cases a:i<p.length
  ·simp[a]at c;rw[o i (by omega) j (by have:=h.lt i a;omega)];exact h.left i a j c
  ·simp[a]at c;obtain rfl:i=p.length:=by omega
   exact hz j c
 ·simp at b
  rw[List.getElem_append];by_cases a:i<p.length
  ·simp only[a,dite_true];rw[o i (by omega) _ (h.lt i a)];exact h.one i a
  ·obtain rfl:i=p.length:=by omega
   simpa using d
 ·simp at hq
  rw[List.getElem_append];by_cases a:q<p.length
  ·simp only[a,dite_true];rw[o i b _ (h.lt q a)];exact h.zero q a i b l
  ·obtain rfl:q=p.length:=by omega
   simpa using m i b l
 ·simp at b
  by_cases e:j=k
  ·subst e;exact m i r (by omega)
  ·rw[o i r j (by omega)];exact h.below i (by omega) r j (by omega)
abbrev Mat:=List (List Rat)
def ent(m:Mat):F2:=fun i j=>(m.getD i []).getD j 0
def Shp(n c:Nat)(m:Mat):Prop:=m.length=n/\∀r∈m,r.length=c
theorem Shp.row{n c:Nat}{m:Mat}(h:Shp n c m){i:Nat}(a:i<n):(m.getD i []).length=c:=by
 have:i<m.length:=by rw[h.1];exact a
 simp[List.getD_eq_getElem?_getD,this,h.2]
theorem a1Y{n c:Nat}{m:Mat}(h:Shp n c m){i j:Nat}(b:n<=i\/c<=j):ent m i j=0:=by
 unfold ent;by_cases a:i<n
 ·have:=h.row a
  rw[List.getD_eq_getElem?_getD,List.getElem?_eq_none (by omega)];rfl
 ·have:=h.1
  rw[List.getD_eq_getElem?_getD (l:=m),List.getElem?_eq_none (by omega)];simp
theorem Shp.ext{n c:Nat}{m e:Mat}(h:Shp n c m)(f:Shp n c e)(o:Eqm n c (ent m) (ent e)):m=e:=by
 refine List.ext_getElem (h.1.trans f.1.symm) fun i a g=>?_;have b:=h.2 _ (c1E a);have d:=f.2 _ (c1E g);refine List.ext_getElem (b.trans d.symm) fun j k l=>?_;have:=o i (by rw[<-h.1];exact a) j (by omega);simpa[ent,List.getD_eq_getElem?_getD,a,g,k,l]using this
theorem Shp.set{n c:Nat}{m:Mat}(h:Shp n c m)(i:Nat){r:List Rat}(b:r.length=c):Shp n c (m.set i r):=by
 refine⟨by simp[h.1],fun x d=>?_⟩;rcases List.mem_or_eq_of_mem_set d with a|a
 ·exact h.2 _ a
 ·rw[a];exact b
theorem a7D{m:Mat}{i:Nat}{r:List Rat}(a:i<m.length)(k j:Nat):ent (m.set i r) k j=if k=i then r.getD j 0 else ent m k j:=by
 unfold ent;simp only[List.getD_eq_getElem?_getD,List.getElem?_set];by_cases e:k=i
 ·subst e;simp[a]
 ·simp[e,Ne.symm e]
def rows(m:Mat)(f:Nat->List Rat->List Rat):Mat:=m.mapIdx f
theorem Shp.rows{n c:Nat}{m:Mat}(h:Shp n c m){f:Nat->List Rat->List Rat}(b:∀i,i<n->∀r:List Rat,r.length=c->(f i r).length=c):Shp n c (rows m f):=by
 refine⟨by simp[YtjmnhbebpffoaaaGreat.rows,h.1],fun x d=>?_⟩;obtain⟨i,a,rfl⟩:=List.getElem_of_mem d;simp only[YtjmnhbebpffoaaaGreat.rows,List.length_mapIdx,List.getElem_mapIdx]at a |-;exact b i (by rw[<-h.1];exact a) _ (h.2 _ (c1E _))
theorem a7E{m:Mat}{f:Nat->List Rat->List Rat}{i:Nat}(a:i<m.length)(j:Nat):ent (rows m f) i j=(f i (m.getD i [])).getD j 0:=by
 simp[ent,rows,List.getD_eq_getElem?_getD,a]
def a1e(m:Mat)(i k:Nat):Mat:=(m.set i (m.getD k [])).set k (m.getD i [])
theorem Shp.swap{n c:Nat}{m:Mat}(h:Shp n c m){i k:Nat}(a:i<n)(b:k<n):Shp n c (a1e m i k):=(h.set i (h.row b)).set k (h.row a)
theorem a3v{n c:Nat}{m:Mat}(h:Shp n c m){i k:Nat}(a:i<n)(b:k<n)(r j:Nat):ent (a1e m i k) r j=if r=k then ent m i j else if r=i then ent m k j else ent m r j:=by
 unfold a1e;rw[a7D (by simp[h.1,b]),a7D (by simp[h.1,a])];rfl
theorem a5A(m:Mat)(i:Nat)(a:i<m.length):a1e m i i=m:=by
 unfold a1e;simp[List.getD_eq_getElem?_getD,a]
theorem b2k{n c:Nat}{m:Mat}(h:Shp n c m){i k:Nat}(e:i<n)(f:k<n)(d:i≠k):RE n c (ent m) (ent (a1e m i k)) (-1):=
 .swap i k e f d (fun j _=>by rw[a3v h e f];simp[d]) (fun j _=>by rw[a3v h e f];simp) (fun r _ a b j _=>by rw[a3v h e f];simp[a,b])
def a3j(row piv:List Rat)(col:Nat):List Rat:=List.zipWith (fun a x=>a - (row.getD col 0/piv.getD col 0)*x) row piv
theorem a3O(row a:List Rat)(col:Nat)(h:row.length=a.length):(a3j row a col).length=a.length:=by simp[a3j,h]
theorem a8s(row a:List Rat)(col j:Nat)(h:row.length=a.length):(a3j row a col).getD j 0=row.getD j 0 - (row.getD col 0/a.getD col 0)*a.getD j 0:=by
 unfold a3j;simp only[List.getD_eq_getElem?_getD,List.getElem?_zipWith];by_cases b:j<row.length
 ·simp[b,show j<a.length by omega]
 ·simp[show¬j<row.length by omega,show¬j<a.length by omega];grind
theorem b1m(row a:List Rat)(col:Nat)(h:row.length=a.length)(b:row.getD col 0/a.getD col 0=0):a3j row a col=row:=by
 refine List.ext_getElem (by simp[a3j,h]) fun i c d=>?_;simp only[a3j,List.getElem_zipWith,b];grind
abbrev St:=Mat×List Nat×Bool
def clear(m:Mat)(t col:Nat)(s:Nat):Mat:=rows m fun i r=>if t<i/\i<t+1+s then a3j r (m.getD t []) col else r
noncomputable def b2l(m:Mat)(t col:Nat):Option Nat:=(m.drop t).findIdx? fun r=>decide (r.getD col 0≠0)
noncomputable def a6p(s:St)(col:Nat):St:=
 if s.2.1.length=s.1.length then s else
 match b2l s.1 s.2.1.length col with
 |none=>s
 |some k=>(clear (a1e s.1 s.2.1.length (s.2.1.length+k)) s.2.1.length col s.1.length,s.2.1++[col],s.2.2 !=decide (k≠0))
noncomputable def eN(m:Mat):Nat->St
 |0=>(m,[],false)
 |k+1=>a6p (eN m k) k
theorem Shp.clear{n c:Nat}{m:Mat}(h:Shp n c m){t:Nat}(b:t<n)(col s:Nat):Shp n c (clear m t col s):=
 h.rows fun i d r a=>by
  split
  ·rw[a3O _ _ _ (by rw[a,h.row b]),h.row b]
  ·exact a
theorem a4N{n c:Nat}{m:Mat}(h:Shp n c m){t:Nat}(e:t<n)(col s i j:Nat):ent (clear m t col s) i j=if t<i/\i<t+1+s/\i<n then ent m i j - (ent m i col/ent m t col)*ent m t j else ent m i j:=by
 by_cases d:i<n
 ·unfold YtjmnhbebpffoaaaGreat.clear
  rw[a7E (by rw[h.1];exact d)];by_cases a:t<i/\i<t+1+s
  ·simp only[a,and_self,if_true,d]
   rw[a8s _ _ _ _ (by rw[h.row d,h.row e])];rfl
  ·rw[if_neg a,if_neg (fun b=>a ⟨b.1,b.2.1⟩)];rfl
 ·rw[a1Y (h.clear e col s) (.inl (by omega)),if_neg (by omega),a1Y h (.inl (by omega))]
theorem b4p{n c:Nat}{m:Mat}(h:Shp n c m){t:Nat}(a:t<n)(col s:Nat):RE n c (ent m) (ent (clear m t col s)) 1:=
 .addmany t a (fun i=>if t<i/\i<t+1+s/\i<n then - (ent m i col/ent m t col)else 0)
  (fun i d e j b=>by rw[a4N h a];split<;>grind) (fun j b=>by rw[a4N h a];simp)
theorem a8t{m:Mat}{t col:Nat}(h:b2l m t col=none)(i:Nat)(b:t<=i):ent m i col=0:=by
 unfold b2l at h;rw[List.findIdx?_eq_none_iff]at h;by_cases a:i<m.length
 ·have:=h (m[i]) (by rw[List.mem_drop_iff_getElem];exact⟨i - t,by omega,by congr 1;omega⟩)
  unfold ent;simp only[List.getD_eq_getElem?_getD,a,getElem?_pos,Option.getD_some]at this |-;simpa using this
 ·unfold ent;rw[List.getD_eq_getElem?_getD (l:=m),List.getElem?_eq_none (by omega)];simp
theorem a3P{m:Mat}{t col k:Nat}(h:b2l m t col=some k):t+k<m.length/\ent m (t+k) col≠0:=by
 unfold b2l at h;rw[List.findIdx?_eq_some_iff_getElem]at h;obtain⟨c,b,_⟩:=h;simp at c;refine⟨by omega,?_⟩;unfold ent;simp only[List.getElem_drop]at b;have a:t+k<m.length:=by omega
 simp only[List.getD_eq_getElem?_getD,a,getElem?_pos,Option.getD_some]at b |-;simpa using b
structure EOk (n c k:Nat) (m:Mat) (s:St):Prop where
 shp:Shp n c s.1
 ech:Ech n k (ent s.1) s.2.1
 re:RE n c (ent m) (ent s.1) (if s.2.2 then -1 else 1)
theorem EOk.zero{n c:Nat}{m:Mat}(h:Shp n c m):EOk n c 0 m (m,[],false):=⟨h,Ech.nil _ _,.same fun _ _ _ _=>rfl⟩
theorem EOk.step{n c k:Nat}{m:Mat}{s:St}(h:EOk n c k m s):EOk n c (k+1) m (a6p s k):=by
 obtain⟨M,p,u⟩:=s;have v:Shp n c M:=h.shp;have l:Ech n k (ent M) p:=h.ech;have x:RE n c (ent m) (ent M) (if u then -1 else 1):=h.re;have C:=v.1;unfold a6p
 dsimp only
 split
 ·rename_i e
  exact⟨v,l.skip fun i a r=>by omega,x⟩
 ·rename_i e
  split
  ·rename_i hz
   exact⟨v,l.skip fun i a _=>a8t hz i a,x⟩
  ·rename_i q hz
   obtain⟨B,A⟩:=a3P hz;have f:p.length<n:=by have:=l.le;omega
   have g:p.length+q<n:=by omega
   have t:=v.swap f g;have o:=fun i j=>a3v v f g i j;have d:=fun i j=>a4N t f k M.length i j;have w:ent (a1e M p.length (p.length+q)) p.length k≠0:=by
    rw[o];by_cases b:q=0
    ·subst b;simpa using A
    ·simp[b];exact A
   refine⟨t.clear f _ _,l.push f (fun i a j=>?_) (fun i a r j z=>?_) ?_ (fun i a r=>?_),?_⟩
   ·rw[d,if_neg (by omega),o,if_neg (by omega),if_neg (by omega)]
   ·have hz:∀i,p.length<=i->i<n->ent (a1e M p.length (p.length+q)) i j=0:=fun i a r=>by
     rw[o];split
     ·exact l.below _ (by omega) f j z
     ·split
      ·exact l.below _ (by omega) g j z
      ·exact l.below _ a r j z
    rw[d];split
    ·rw[hz i a r,hz p.length (c1B _) f];grind
    ·exact hz i a r
   ·rw[d,if_neg (by omega)];exact w
   ·rw[d,if_pos ⟨a,by omega,r⟩];grind
   ·have y:=b4p t f k M.length
    by_cases b:q=0
    ·subst b
     rw[Nat.add_zero,a5A M _ (by omega)]at y |-;exact x.then_ y (by cases u<;>simp)
    ·exact x.then_ ((b2k v f g (by omega)).then_ y rfl) (by cases u<;>simp[b];grind)
theorem a6c{n c:Nat}{m:Mat}(h:Shp n c m)(k:Nat):EOk n c k m (eN m k):=by
 induction k with
 |zero=>exact EOk.zero h
 |succ k ih=>exact ih.step
theorem b6Q(m:Mat)(k:Nat)(h:(eN m k).2.1.length=(eN m k).1.length)(k':Nat)(hk:k<=k'):eN m k'=eN m k:=by
 induction k' with
 |zero=>
      have:k=0:=by omega
      subst this;rfl
 |succ k' ih=>
  by_cases e:k=k'+1
  ·subst e;rfl
  ·have:=ih (by omega)
   show a6p (eN m k') k'=_
   rw[this];unfold a6p;rw[if_pos h]
def divL(m:Mat)(i col:Nat):Mat:=m.set i ((m.getD i []).map (· /ent m i col))
def above(m:Mat)(i col s:Nat):Mat:=rows m fun k r=>if k<i/\k<s then a3j r (m.getD i []) col else r
def dStep(m:Mat)(i col:Nat):Mat:=above (divL m i col) i col i
theorem a8u(r:List Rat)(a:Rat)(j:Nat):(r.map (· /a)).getD j 0=r.getD j 0/a:=by
 simp only[List.getD_eq_getElem?_getD,List.getElem?_map];cases r[j]? with
 |none=>simp;grind
 |some x=>simp
theorem Shp.divL{n c:Nat}{m:Mat}(h:Shp n c m){i:Nat}(a:i<n)(col:Nat):Shp n c (divL m i col):=h.set i (by rw[List.length_map];exact h.row a)
theorem a3w{n c:Nat}{m:Mat}(h:Shp n c m){i:Nat}(a:i<n)(col k j:Nat):ent (divL m i col) k j=if k=i then ent m i j/ent m i col else ent m k j:=by
 unfold divL;rw[a7D (by rw[h.1];exact a),a8u];rfl
theorem Shp.above{n c:Nat}{m:Mat}(h:Shp n c m){t:Nat}(b:t<n)(col s:Nat):Shp n c (above m t col s):=
 h.rows fun i d r a=>by
  split
  ·rw[a3O _ _ _ (by rw[a,h.row b]),h.row b]
  ·exact a
theorem a4O{n c:Nat}{m:Mat}(h:Shp n c m){t:Nat}(d:t<n)(col s i j:Nat):ent (above m t col s) i j=if i<t/\i<s then ent m i j - (ent m i col/ent m t col)*ent m t j else ent m i j:=by
 by_cases b:i<n
 ·unfold YtjmnhbebpffoaaaGreat.above
  rw[a7E (by rw[h.1];exact b)];by_cases a:i<t/\i<s
  ·simp only[a,and_self,if_true]
   rw[a8s _ _ _ _ (by rw[h.row b,h.row d])];rfl
  ·rw[if_neg a,if_neg a];rfl
 ·rw[a1Y (h.above d col s) (.inl (by omega)),if_neg (by omega),a1Y h (.inl (by omega))]
theorem b4q{n c:Nat}{m:Mat}(h:Shp n c m){t:Nat}(a:t<n)(col s:Nat):RE n c (ent m) (ent (above m t col s)) 1:=
 .addmany t a (fun i=>if i<t/\i<s then - (ent m i col/ent m t col)else 0)
  (fun i d e j b=>by rw[a4O h a];split<;>grind) (fun j b=>by rw[a4O h a];simp)
theorem b6R{n c:Nat}{m:Mat}(h:Shp n c m){i:Nat}(a:i<n)(col:Nat)(b:ent m i col≠0):RE n c (ent m) (ent (divL m i col)) (1/ent m i col):=
 .scale i _ a (by intro e;grind) (fun j _=>by rw[a3w h a];simp;grind) (fun r _ d j _=>by rw[a3w h a,if_neg d])
noncomputable def dN(m:Mat)(p:List Nat):Nat->Mat
 |0=>m
 |t+1=>dStep (dN m p t) t (p.getD t 0)
structure DOk (n c t:Nat) (m:Mat) (p:List Nat) (s:Mat):Prop where
 shp:Shp n c s
 ech:Ech n c (ent s) p
 red:Red n t (ent s) p
 re:∃d,RE n c (ent m) (ent s) d
theorem DOk.step{n c t:Nat}{m:Mat}{p:List Nat}{s:Mat}(h:DOk n c t m p s)(l:t<p.length):DOk n c (t+1) m p (dStep s t (p.getD t 0)):=by
 have a:t<n:=c1C l h.ech.le;have v:p.getD t 0=p[t]:=by simp[List.getD_eq_getElem?_getD,l]
 rw[v];have hd:=h.shp.divL a p[t];have r:=h.ech.piv t l;have e:=fun k j=>a3w h.shp a p[t] k j;have o:=fun i j=>a4O hd a p[t] t i j;obtain⟨d,u⟩:=h.re;have f:ent (divL s t p[t]) t p[t]=1:=by rw[e];simp;grind
 have b:∀j,ent (dStep s t p[t]) t j=ent s t j/ent s t p[t]:=fun j=>by
  unfold dStep;rw[o,if_neg (by omega),e];simp
 have:=Red.step (g:=ent (dStep s t p[t])) h.ech h.red l b (fun i q j=>by
   rw[b];unfold dStep;rw[o,if_pos ⟨q,q⟩,f,e,e,e,if_neg (by omega),if_neg (by omega),if_pos rfl];grind) (fun i q j=>by
   unfold dStep;rw[o,if_neg (by omega),e,if_neg (by omega)])
 exact⟨hd.above a _ _,this.1,this.2,_,u.trans ((b6R h.shp a _ r).trans (b4q hd a _ _))⟩
theorem b6S{n c:Nat}{m:Mat}{p:List Nat}(h:Shp n c m)(he:Ech n c (ent m) p)(t:Nat)(ht:t<=p.length):DOk n c t m p (dN m p t):=by
 induction t with
 |zero=>exact⟨h,he,⟨by intros;omega,by intros;omega⟩,1,.same fun _ _ _ _=>rfl⟩
 |succ t ih=>exact(ih (by omega)).step (by omega)
noncomputable def a0J(m:Mat)(c:Nat):Mat×List Nat:=(dN (eN m c).1 (eN m c).2.1 (eN m c).2.1.length,(eN m c).2.1)
theorem a1f{n c:Nat}{m:Mat}(h:Shp n c m):Shp n c (a0J m c).1/\Rref n c (ent (a0J m c).1) (a0J m c).2/\∃d,RE n c (ent m) (ent (a0J m c).1) d:=by
 have b:=a6c h c;have a:=b6S b.shp b.ech _ (c1B _);obtain⟨d,e⟩:=a.re;exact⟨a.shp,a.ech.rref a.red,_,b.re.trans e⟩
abbrev Sr:=Mat×List Nat×Rat
def pv(m:Mat)(t col:Nat):Mat:=m.set t ((m.getD t []).map (· *(1/ent m t col)))
def out(m:Mat)(t col:Nat)(s:Nat):Mat:=rows m fun i r=>if i≠t/\i<s then List.zipWith (· + ·) r ((m.getD t []).map (· * - r.getD col 0))else r
noncomputable def a6q(s:Sr)(col:Nat):Sr:=
 match b2l s.1 s.2.1.length col with
 |none=>s
 |some k=>(out (pv (a1e s.1 (s.2.1.length+k) s.2.1.length) s.2.1.length col) s.2.1.length col s.1.length,s.2.1++[col],(if k=0 then s.2.2 else - s.2.2)*ent (a1e s.1 (s.2.1.length+k) s.2.1.length) s.2.1.length col)
noncomputable def rN(m:Mat):Nat->Sr
 |0=>(m,[],1)
 |k+1=>a6q (rN m k) k
theorem a5N(r:List Rat)(a:Rat)(j:Nat):(r.map (· *a)).getD j 0=r.getD j 0*a:=by
 simp only[List.getD_eq_getElem?_getD,List.getElem?_map];cases r[j]? with
 |none=>simp
 |some x=>simp
theorem b6T(a b:List Rat)(h:a.length=b.length)(j:Nat):(List.zipWith (· + ·) a b).getD j 0=a.getD j 0+b.getD j 0:=by
 simp only[List.getD_eq_getElem?_getD,List.getElem?_zipWith];by_cases c:j<a.length
 ·simp[c,show j<b.length by omega]
 ·simp[show¬j<a.length by omega,show¬j<b.length by omega];grind
theorem Shp.pv{n c:Nat}{m:Mat}(h:Shp n c m){i:Nat}(a:i<n)(col:Nat):Shp n c (pv m i col):=h.set i (by rw[List.length_map];exact h.row a)
theorem b2m{n c:Nat}{m:Mat}(h:Shp n c m){i:Nat}(a:i<n)(col k j:Nat):ent (pv m i col) k j=if k=i then ent m i j*(1/ent m i col)else ent m k j:=by
 unfold pv;rw[a7D (by rw[h.1];exact a),a5N];rfl
theorem Shp.out{n c:Nat}{m:Mat}(h:Shp n c m){t:Nat}(b:t<n)(col s:Nat):Shp n c (out m t col s):=
 h.rows fun i d r a=>by
  split
  ·rw[List.length_zipWith,List.length_map,a,h.row b];omega
  ·exact a
theorem b0o{n c:Nat}{m:Mat}(h:Shp n c m){t:Nat}(e:t<n)(col s i j:Nat):ent (out m t col s) i j=if i≠t/\i<s/\i<n then ent m i j+ent m t j* - ent m i col else ent m i j:=by
 by_cases d:i<n
 ·unfold YtjmnhbebpffoaaaGreat.out
  rw[a7E (by rw[h.1];exact d)];by_cases a:i≠t/\i<s
  ·rw[if_pos a,if_pos ⟨a.1,a.2,d⟩,b6T _ _ (by rw[List.length_map,h.row d,h.row e]),a5N];rfl
  ·rw[if_neg a,if_neg (fun b=>a ⟨b.1,b.2.1⟩)];rfl
 ·rw[a1Y (h.out e col s) (.inl (by omega)),if_neg (by omega),a1Y h (.inl (by omega))]
structure ROk (n c k:Nat) (m:Mat) (s:Sr):Prop where
 shp:Shp n c s.1
 ref:Rref n k (ent s.1) s.2.1
 re:∃d,RE n c (ent m) (ent s.1) d/\s.2.2*d=1
theorem ROk.step{n c k:Nat}{m:Mat}{s:Sr}(h:ROk n c k m s):ROk n c (k+1) m (a6q s k):=by
 obtain⟨M,p,J⟩:=s;have F:Shp n c M:=h.shp;have l:Rref n k (ent M) p:=h.ref;obtain⟨d,E,hd⟩:∃d,RE n c (ent m) (ent M) d/\J*d=1:=h.re;have R:=F.1;unfold a6q
 dsimp only
 split
 ·rename_i hz
  exact⟨F,l.skip fun i f _=>a8t hz i f,d,E,hd⟩
 ·rename_i q hz
  obtain⟨Q,O⟩:=a3P hz;have o:p.length<n:=by omega
  have x:p.length+q<n:=by omega
  have G:=F.swap x o;have A:=fun i j=>a3v F x o i j;have H:=G.pv o k;have g:=fun i j=>b2m G o k i j;have w:=fun i j=>b0o H o k M.length i j;have y:ent (a1e M (p.length+q) p.length) p.length k≠0:=by rw[A,if_pos rfl];exact O
  have L:Rref n k (ent (a1e M (p.length+q) p.length)) p:=by
   have D:∀i,i<p.length->∀j,ent (a1e M (p.length+q) p.length) i j=ent M i j:=fun i f j=>by
    rw[A,if_neg (by omega),if_neg (by omega)]
   have I:∀i,p.length<=i->i<n->∀j,j<k->ent (a1e M (p.length+q) p.length) i j=0:=fun i f P j B=>by
    rw[A];split
    ·exact l.below _ (by omega) x j B
    ·split
     ·exact l.below _ (by omega) o j B
     ·exact l.below _ f P j B
   refine⟨l.le,l.lt,l.inc,fun i f j B=>by rw[D i f];exact l.left i f j B,fun i f=>by rw[D i f];exact l.one i f,fun t N i f K=>?_,I⟩;by_cases a:i<p.length
   ·rw[D i a];exact l.zero t N i f K
   ·exact I i (by omega) f _ (l.lt t N)
  have z:∀j,ent (out (pv (a1e M (p.length+q) p.length) p.length k) p.length k M.length) p.length j=ent (a1e M (p.length+q) p.length) p.length j*(1/ent (a1e M (p.length+q) p.length) p.length k):=fun j=>by
   rw[w,if_neg (by omega),g,if_pos rfl]
  refine⟨H.out o _ _,L.push o y z (fun i f C j=>?_),?_⟩
  ·rw[z,w,if_pos ⟨C,by omega,f⟩,g,g,g,if_neg C,if_neg C,if_pos rfl]
  ·have u:RE n c (ent (a1e M (p.length+q) p.length)) (ent (pv (a1e M (p.length+q) p.length) p.length k)) (1/ent (a1e M (p.length+q) p.length) p.length k):=
    .scale p.length _ o (by intro e;grind) (fun j _=>by rw[g];simp;grind) (fun r _ E j _=>by rw[g,if_neg E])
   have v:RE n c (ent (pv (a1e M (p.length+q) p.length) p.length k)) (ent (out (pv (a1e M (p.length+q) p.length) p.length k) p.length k M.length)) 1:=
    .addmany p.length o (fun i=>if i≠p.length/\i<M.length/\i<n then - ent (pv (a1e M (p.length+q) p.length) p.length k) i k else 0)
     (fun i f e j B=>by rw[w];split<;>grind) (fun j B=>by rw[w];simp)
   by_cases b:q=0
   ·subst b
    rw[Nat.add_zero,a5A M _ (by omega)]at u v y |-;exact⟨_,E.trans (u.trans v),by simp;grind⟩
   ·exact⟨_,E.trans ((b2k F x o (by omega)).trans (u.trans v)),by simp[b];grind⟩
theorem a6d{n c:Nat}{m:Mat}(h:Shp n c m)(k:Nat):ROk n c k m (rN m k):=by
 induction k with
 |zero=>exact⟨h,Rref.nil _ _,1,.same fun _ _ _ _=>rfl,by show(1:Rat)*1=1;grind⟩
 |succ k ih=>exact ih.step
theorem b0p{n c:Nat}{m:Mat}(h:Shp n c m):(a0J m c).1=(rN m c).1/\(a0J m c).2=(rN m c).2.1:=by
 obtain⟨b,f,d,g⟩:=a1f h;have a:=a6d h c;obtain⟨e,i,_⟩:=a.re;have:=f.unique a.ref fun x=>((g.nul x).symm.trans (i.nul x));exact⟨b.ext a.shp this.2,this.1⟩
def det:Nat->F2->Rat
 |0,_=>1
 |n+1,f=>sm (n+1) fun i=>(if i%2=0 then 1 else -1)*f i 0*det n fun r c=>f (if r<i then r else r+1) (c+1)
theorem a1u{n:Nat}{f g:F2}(h:Eqm n n f g):det n f=det n g:=by
 induction n generalizing f g with
 |zero=>rfl
 |succ n ih=>
  unfold det;refine a0q fun i hi=>?_;rw[h i hi 0 (by omega),ih (g:=fun r c=>g (if r<i then r else r+1) (c+1)) fun r hr c hc=>h _ (by split<;>omega) _ (by omega)]
theorem c0n(f:F2):det 0 f=1:=rfl
theorem a8v(f:F2):det 1 f=f 0 0:=by simp[det,sm];grind
theorem a8w(f:F2):det 2 f=f 0 0*f 1 1 - f 1 0*f 0 1:=by simp[det,sm];grind
theorem a8x(f:F2):det 3 f=f 0 0*(f 1 1*f 2 2 - f 2 1*f 1 2) - f 1 0*(f 0 1*f 2 2 - f 2 1*f 0 2)+f 2 0*(f 0 1*f 1 2 - f 1 1*f 0 2):=by
 simp[det,sm];grind
theorem a8y(f:F2):det 4 f=f 0 0*(f 1 1*(f 2 2*f 3 3 - f 3 2*f 2 3) - f 2 1*(f 1 2*f 3 3 - f 3 2*f 1 3)+f 3 1*(f 1 2*f 2 3 - f 2 2*f 1 3)) - f 1 0*(f 0 1*(f 2 2*f 3 3 - f 3 2*f 2 3) - f 2 1*(f 0 2*f 3 3 - f 3 2*f 0 3)+f 3 1*(f 0 2*f 2 3 - f 2 2*f 0 3)) +f 2 0*(f 0 1*(f 1 2*f 3 3 - f 3 2*f 1 3) - f 1 1*(f 0 2*f 3 3 - f 3 2*f 0 3)+f 3 1*(f 0 2*f 1 3 - f 1 2*f 0 3)) - f 3 0*(f 0 1*(f 1 2*f 2 3 - f 2 2*f 1 3) - f 1 1*(f 0 2*f 2 3 - f 2 2*f 0 3)+f 2 1*(f 0 2*f 1 3 - f 1 2*f 0 3)):=by
 simp[det,sm];grind
theorem lt4{P:Nat->Prop}(h0:P 0)(h1:P 1)(h2:P 2)(h3:P 3)(i:Nat)(hi:i<4):P i:=by
 match i,hi with
 |0,_=>exact h0
 |1,_=>exact h1
 |2,_=>exact h2
 |3,_=>exact h3
theorem lt1{P:Nat->Prop}(h0:P 0)(i:Nat)(hi:i<1):P i:=by
 match i,hi with
 |0,_=>exact h0
theorem b2n(f g:F2)(i k:Nat)(m:i<1)(n:k<1)(a:i≠k)(c:∀j,j<1->g i j=f k j)(d:∀j,j<1->g k j=f i j)(h:∀r,r<1->r≠i->r≠k->∀j,j<1->g r j=f r j):det 1 g= - det 1 f:=by
 have e:Eqm 1 1 g (fun r j=>if r=i then f k j else if r=k then f i j else f r j):=fun r l j b=>by
  dsimp only;split
  ·subst_vars;exact c j b
  ·split
   ·subst_vars;exact d j b
   ·exact h r l (by assumption) (by assumption) j b
 rw[a1u e];clear e c d h
 revert a
 revert k
 revert i
 refine lt1 ?_<;>refine lt1 ?_<;>intro a<;>first|exact absurd rfl a|(rw[a8v,a8v];simp;try grind)
theorem b1n(f g:F2)(i:Nat)(a:Rat)(k:i<1)(b:∀j,j<1->g i j=a*f i j)(c:∀r,r<1->r≠i->∀j,j<1->g r j=f r j):det 1 g=a*det 1 f:=by
 have e:Eqm 1 1 g (fun r j=>if r=i then a*f i j else f r j):=fun r h j d=>by
  dsimp only;split
  ·subst_vars;exact b j d
  ·exact c r h (by assumption) j d
 rw[a1u e];clear e b c
 revert i
 refine lt1 ?_<;>(rw[a8v,a8v];simp;try grind)
theorem b4r(f g:F2)(i k:Nat)(a:Rat)(m:i<1)(n:k<1)(b:i≠k)(c:∀j,j<1->g i j=f i j+a*f k j)(d:∀r,r<1->r≠i->∀j,j<1->g r j=f r j):det 1 g=det 1 f:=by
 have e:Eqm 1 1 g (fun r j=>if r=i then f i j+a*f k j else f r j):=fun r l j h=>by
  dsimp only;split
  ·subst_vars;exact c j h
  ·exact d r l (by assumption) j h
 rw[a1u e];clear e c d
 revert b
 revert k
 revert i
 refine lt1 ?_<;>refine lt1 ?_<;>intro b<;>first|exact absurd rfl b|(rw[a8v,a8v];simp;try grind)
theorem b4s(f:F2)(_:∀i j,i<1->j<i->f i j=0):det 1 f=f 0 0:=by
 rw[a8v]
theorem lt2{P:Nat->Prop}(h0:P 0)(h1:P 1)(i:Nat)(hi:i<2):P i:=by
 match i,hi with
 |0,_=>exact h0
 |1,_=>exact h1
theorem b2o(f g:F2)(i k:Nat)(m:i<2)(n:k<2)(a:i≠k)(c:∀j,j<2->g i j=f k j)(d:∀j,j<2->g k j=f i j)(h:∀r,r<2->r≠i->r≠k->∀j,j<2->g r j=f r j):det 2 g= - det 2 f:=by
 have e:Eqm 2 2 g (fun r j=>if r=i then f k j else if r=k then f i j else f r j):=fun r l j b=>by
  dsimp only;split
  ·subst_vars;exact c j b
  ·split
   ·subst_vars;exact d j b
   ·exact h r l (by assumption) (by assumption) j b
 rw[a1u e];clear e c d h
 revert a
 revert k
 revert i
 refine lt2 ?_ ?_<;>refine lt2 ?_ ?_<;>intro a<;>first|exact absurd rfl a|(rw[a8w,a8w];simp;try grind)
theorem b1o(f g:F2)(i:Nat)(a:Rat)(k:i<2)(b:∀j,j<2->g i j=a*f i j)(c:∀r,r<2->r≠i->∀j,j<2->g r j=f r j):det 2 g=a*det 2 f:=by
 have e:Eqm 2 2 g (fun r j=>if r=i then a*f i j else f r j):=fun r h j d=>by
  dsimp only;split
  ·subst_vars;exact b j d
  ·exact c r h (by assumption) j d
 rw[a1u e];clear e b c
 revert i
 refine lt2 ?_ ?_<;>(rw[a8w,a8w];simp;try grind)
theorem b4t(f g:F2)(i k:Nat)(a:Rat)(m:i<2)(n:k<2)(b:i≠k)(c:∀j,j<2->g i j=f i j+a*f k j)(d:∀r,r<2->r≠i->∀j,j<2->g r j=f r j):det 2 g=det 2 f:=by
 have e:Eqm 2 2 g (fun r j=>if r=i then f i j+a*f k j else f r j):=fun r l j h=>by
  dsimp only;split
  ·subst_vars;exact c j h
  ·exact d r l (by assumption) j h
 rw[a1u e];clear e c d
 revert b
 revert k
 revert i
 refine lt2 ?_ ?_<;>refine lt2 ?_ ?_<;>intro b<;>first|exact absurd rfl b|(rw[a8w,a8w];simp;try grind)
theorem b4u(f:F2)(h:∀i j,i<2->j<i->f i j=0):det 2 f=f 0 0*f 1 1:=by
 have a:=h 1 0 (by omega) (by omega);rw[a8w];simp[a];try grind
theorem lt3{P:Nat->Prop}(h0:P 0)(h1:P 1)(h2:P 2)(i:Nat)(hi:i<3):P i:=by
 match i,hi with
 |0,_=>exact h0
 |1,_=>exact h1
 |2,_=>exact h2
theorem b2p(f g:F2)(i k:Nat)(m:i<3)(n:k<3)(a:i≠k)(c:∀j,j<3->g i j=f k j)(d:∀j,j<3->g k j=f i j)(h:∀r,r<3->r≠i->r≠k->∀j,j<3->g r j=f r j):det 3 g= - det 3 f:=by
 have e:Eqm 3 3 g (fun r j=>if r=i then f k j else if r=k then f i j else f r j):=fun r l j b=>by
  dsimp only;split
  ·subst_vars;exact c j b
  ·split
   ·subst_vars;exact d j b
   ·exact h r l (by assumption) (by assumption) j b
 rw[a1u e];clear e c d h
 revert a
 revert k
 revert i
 refine lt3 ?_ ?_ ?_<;>refine lt3 ?_ ?_ ?_<;>intro a<;>first|exact absurd rfl a|(rw[a8x,a8x];simp;try grind)
theorem b1p(f g:F2)(i:Nat)(a:Rat)(k:i<3)(b:∀j,j<3->g i j=a*f i j)(c:∀r,r<3->r≠i->∀j,j<3->g r j=f r j):det 3 g=a*det 3 f:=by
 have e:Eqm 3 3 g (fun r j=>if r=i then a*f i j else f r j):=fun r h j d=>by
  dsimp only;split
  ·subst_vars;exact b j d
  ·exact c r h (by assumption) j d
 rw[a1u e];clear e b c
 revert i
 refine lt3 ?_ ?_ ?_<;>(rw[a8x,a8x];simp;try grind)
theorem b4v(f g:F2)(i k:Nat)(a:Rat)(m:i<3)(n:k<3)(b:i≠k)(c:∀j,j<3->g i j=f i j+a*f k j)(d:∀r,r<3->r≠i->∀j,j<3->g r j=f r j):det 3 g=det 3 f:=by
 have e:Eqm 3 3 g (fun r j=>if r=i then f i j+a*f k j else f r j):=fun r l j h=>by
  dsimp only;split
  ·subst_vars;exact c j h
  ·exact d r l (by assumption) j h
 rw[a1u e];clear e c d
 revert b
 revert k
 revert i
 refine lt3 ?_ ?_ ?_<;>refine lt3 ?_ ?_ ?_<;>intro b<;>first|exact absurd rfl b|(rw[a8x,a8x];simp;try grind)
theorem b4w(f:F2)(h:∀i j,i<3->j<i->f i j=0):det 3 f=f 0 0*f 1 1*f 2 2:=by
 have a:=h 1 0 (by omega) (by omega);have b:=h 2 0 (by omega) (by omega);have c:=h 2 1 (by omega) (by omega);rw[a8x];simp[a,b,c];try grind
theorem b2q(f g:F2)(i k:Nat)(m:i<4)(n:k<4)(a:i≠k)(c:∀j,j<4->g i j=f k j)(d:∀j,j<4->g k j=f i j)(h:∀r,r<4->r≠i->r≠k->∀j,j<4->g r j=f r j):det 4 g= - det 4 f:=by
 have e:Eqm 4 4 g (fun r j=>if r=i then f k j else if r=k then f i j else f r j):=fun r l j b=>by
  dsimp only;split
  ·subst_vars;exact c j b
  ·split
   ·subst_vars;exact d j b
   ·exact h r l (by assumption) (by assumption) j b
 rw[a1u e];clear e c d h
 revert a
 revert k
 revert i
 refine lt4 ?_ ?_ ?_ ?_<;>refine lt4 ?_ ?_ ?_ ?_<;>intro a<;>first|exact absurd rfl a|(rw[a8y,a8y];simp;try grind)
theorem b1q(f g:F2)(i:Nat)(a:Rat)(k:i<4)(b:∀j,j<4->g i j=a*f i j)(c:∀r,r<4->r≠i->∀j,j<4->g r j=f r j):det 4 g=a*det 4 f:=by
 have e:Eqm 4 4 g (fun r j=>if r=i then a*f i j else f r j):=fun r h j d=>by
  dsimp only;split
  ·subst_vars;exact b j d
  ·exact c r h (by assumption) j d
 rw[a1u e];clear e b c
 revert i
 refine lt4 ?_ ?_ ?_ ?_<;>(rw[a8y,a8y];simp;try grind)
theorem b4x(f g:F2)(i k:Nat)(a:Rat)(m:i<4)(n:k<4)(b:i≠k)(c:∀j,j<4->g i j=f i j+a*f k j)(d:∀r,r<4->r≠i->∀j,j<4->g r j=f r j):det 4 g=det 4 f:=by
 have e:Eqm 4 4 g (fun r j=>if r=i then f i j+a*f k j else f r j):=fun r l j h=>by
  dsimp only;split
  ·subst_vars;exact c j h
  ·exact d r l (by assumption) j h
 rw[a1u e];clear e c d
 revert b
 revert k
 revert i
 refine lt4 ?_ ?_ ?_ ?_<;>refine lt4 ?_ ?_ ?_ ?_<;>intro b<;>first|exact absurd rfl b|(rw[a8y,a8y];simp;try grind)
theorem b4y(f:F2)(h:∀i j,i<4->j<i->f i j=0):det 4 f=f 0 0*f 1 1*f 2 2*f 3 3:=by
 have a:=h 1 0 (by omega) (by omega);have b:=h 2 0 (by omega) (by omega);have c:=h 2 1 (by omega) (by omega);have d:=h 3 0 (by omega) (by omega);have e:=h 3 1 (by omega) (by omega);have g:=h 3 2 (by omega) (by omega);rw[a8y];simp[a,b,c,d,e,g];try grind
theorem RE.det_same{n:Nat}{f g:F2}{d:Rat}(hn:n<=4)(h:RE n n f g d):det n g=d*det n f:=by
 induction h with
 |same h=>rw[a1u h];grind
 |swap i k hi hk hik h1 h2 h3=>
  match n,hn with
  |1,_=>rw[b2n _ _ i k hi hk hik h1 h2 h3];grind
  |2,_=>rw[b2o _ _ i k hi hk hik h1 h2 h3];grind
  |3,_=>rw[b2p _ _ i k hi hk hik h1 h2 h3];grind
  |4,_=>rw[b2q _ _ i k hi hk hik h1 h2 h3];grind
 |scale i a hi ha h1 h3=>
  match n,hn with
  |1,_=>exact b1n _ _ i a hi h1 h3
  |2,_=>exact b1o _ _ i a hi h1 h3
  |3,_=>exact b1p _ _ i a hi h1 h3
  |4,_=>exact b1q _ _ i a hi h1 h3
 |add i k a hi hk hik h1 h3=>
  match n,hn with
  |1,_=>rw[b4r _ _ i k a hi hk hik h1 h3];grind
  |2,_=>rw[b4t _ _ i k a hi hk hik h1 h3];grind
  |3,_=>rw[b4v _ _ i k a hi hk hik h1 h3];grind
  |4,_=>rw[b4x _ _ i k a hi hk hik h1 h3];grind
 |trans _ _ ih1 ih2=>rw[ih2,ih1];grind
def pr:Nat->(Nat->Rat)->Rat
 |0,_=>1
 |n+1,f=>pr n f*f n
theorem b6U{n:Nat}(hn:n<=4)(f:F2)(h:∀i j,i<n->j<i->f i j=0):det n f=pr n fun i=>f i i:=by
 match n,hn with
 |0,_=>rfl
 |1,_=>rw[b4s f h];simp[pr];try grind
 |2,_=>rw[b4u f h];simp[pr];try grind
 |3,_=>rw[b4w f h];simp[pr];try grind
 |4,_=>rw[b4y f h];simp[pr];try grind
theorem b0q{n:Nat}(d:n<=4)(f:F2)(i:Nat)(a:i<n)(h:∀j,j<n->f i j=0):det n f=0:=by
 have:=(RE.scale (n:=n) (c:=n) (f:=f) (g:=f) i 2 a (by grind) (fun j b=>by rw[h j b];grind) (fun _ _ _ _ _=>rfl)).det_same d;grind
theorem Ech.ge{n k:Nat}{f:F2}{p:List Nat}(h:Ech n k f p)(i:Nat)(hi:i<p.length):i<=p[i]:=by
 induction i with
 |zero=>omega
 |succ i ih=>have:=ih (by omega);have:=h.inc i (i+1) (by omega) hi;omega
theorem Ech.det{n:Nat}{f:F2}{p:List Nat}(c:n<=4)(h:Ech n n f p):YtjmnhbebpffoaaaGreat.det n f=pr n fun i=>f i i:=
 b6U c f fun i j b d=>by
  by_cases a:i<p.length
  ·exact h.left i a j (by have:=h.ge i a;omega)
  ·exact h.below i (by omega) b j (by omega)
theorem Rref.ge{n k:Nat}{f:F2}{p:List Nat}(h:Rref n k f p)(i:Nat)(hi:i<p.length):i<=p[i]:=by
 induction i with
 |zero=>omega
 |succ i ih=>have:=ih (by omega);have:=h.inc i (i+1) (by omega) hi;omega
theorem Rref.diag{n c:Nat}{f:F2}{p:List Nat}(h:Rref n c f p)(hp:p.length=n)(hc:∀i (hi:i<p.length),p[i]<n)(i:Nat)(hi:i<n):p[i]'(by omega)=i:=by
 have h1:∀q,q<n->∀hq:n - 1 - q<p.length,p[n - 1 - q]<=n - 1 - q:=by
  intro q
  induction q with
  |zero=>intro h0 hq;have:=hc _ hq;omega
  |succ q ih=>
   intro h0 hq;have h2:=ih (by omega) (by omega);have h3:=h.inc (n - 1 - (q+1)) (n - 1 - q) (by omega) (by omega);omega
 have h2:=h1 (n - 1 - i) (by omega) (by omega);have h3:=h.ge i (by omega);have e:n - 1 - (n - 1 - i)=i:=by omega
 simp only[e]at h2;omega
theorem Rref.unit{n c:Nat}{f:F2}{p:List Nat}(h:Rref n c f p)(g:p.length=n)(b:∀i (a:i<p.length),p[i]<n):Eqm n n f fun i j=>if i=j then 1 else 0:=fun i a j d=>by
 have hd:=h.diag g b j d;by_cases e:i=j
 ·subst e
  have:=h.one i (by omega);rw[hd]at this;simpa using this
 ·have:=h.zero j (by omega) i a e;rw[hd]at this;simpa[e]using this
theorem b0r{n:Nat}(hn:n<=4):det n (fun i j=>if i=j then 1 else 0)=1:=by
 match n,hn with
 |0,_=>rfl
 |1,_=>rw[a8v];simp
 |2,_=>rw[a8w];simp;try grind
 |3,_=>rw[a8x];simp;try grind
 |4,_=>rw[a8y];simp;try grind
theorem Rref.det{n:Nat}{f:F2}{p:List Nat}(a:n<=4)(h:Rref n n f p):YtjmnhbebpffoaaaGreat.det n f=if p.length=n then 1 else 0:=by
 have b:=h.le;split
 ·rename_i e
  rw[a1u (h.unit e h.lt),b0r a]
 ·exact b0q a f p.length (by omega) (h.below _ (c1B _) (by omega))
def mul(n:Nat)(f g:F2):F2:=fun i j=>sm n fun k=>f i k*g k j
def ofF(n c:Nat)(f:F2):Mat:=(List.range n).map fun i=>(List.range c).map (f i)
theorem b2r(n c:Nat)(f:F2):Shp n c (ofF n c f):=⟨by simp[ofF],fun r a=>by
 obtain⟨i,_,rfl⟩:=List.mem_map.1 a;simp⟩
theorem b6V(n c:Nat)(f:F2):Eqm n c (ent (ofF n c f)) f:=fun i a j b=>by simp[ent,ofF,List.getD_eq_getElem?_getD,a,b]
theorem RE.congr{n c:Nat}{f a g:F2}{d:Rat}(h:RE n c f g d)(e:Eqm n c a f):RE n c a g d:=(RE.same e).then_ h (by grind)
theorem RE.factor{n c r:Nat}{f g:F2}{d:Rat}(h:RE n c f g d)(b:F2)(hf:∃a,Eqm n c f (mul r a b)):∃a,Eqm n c g (mul r a b):=by
 induction h with
 |same h=>obtain⟨a,ha⟩:=hf;exact⟨a,fun i hi j hj=>(h i hi j hj).symm.trans (ha i hi j hj)⟩
 |swap i k hi hk hik h1 h2 h3=>
  obtain⟨a,ha⟩:=hf;refine⟨fun q=>if q=i then a k else if q=k then a i else a q,fun q hq j hj=>?_⟩;by_cases e:q=i
  ·subst e;rw[h1 j hj,ha k hk j hj];simp[mul]
  ·by_cases e2:q=k
   ·subst e2;rw[h2 j hj,ha i hi j hj];simp[mul,e]
   ·rw[h3 q hq e e2 j hj,ha q hq j hj];simp[mul,e,e2]
 |scale i x hi hx h1 h3=>
  obtain⟨a,ha⟩:=hf;refine⟨fun q=>if q=i then fun k=>x*a i k else a q,fun q hq j hj=>?_⟩;by_cases e:q=i
  ·subst e;rw[h1 j hj,ha q hq j hj];simp only[mul,if_true];rw[<-a2A];exact a0q fun k _=>by grind
  ·rw[h3 q hq e j hj,ha q hq j hj];simp[mul,e]
 |add i k x hi hk hik h1 h3=>
  obtain⟨a,ha⟩:=hf;refine⟨fun q=>if q=i then fun y=>a i y+x*a k y else a q,fun q hq j hj=>?_⟩;by_cases e:q=i
  ·subst e;rw[h1 j hj,ha q hq j hj,ha k hk j hj];simp only[mul,if_true];rw[<-a2A,<-a8q];exact a0q fun k _=>by grind
  ·rw[h3 q hq e j hj,ha q hq j hj];simp[mul,e]
 |trans _ _ ih1 ih2=>exact ih2 (ih1 hf)
theorem b1r{n c:Nat}{f g:F2}{p:List Nat}{d:Rat}(e:Rref n c g p)(h:RE n c f g d):Eqm n c f (mul p.length (fun i k=>f i (p.getD k 0)) g):=by
 intro i u j r;have m:∀k (a:k<p.length),p.getD k 0=p[k]:=fun k a=>by simp[List.getD_eq_getElem?_getD,a]
 have l:∀(F:F2) (i:Nat),sm c (fun x=>F i x*((if x=j then 1 else 0) - sm p.length fun k=>if x=p.getD k 0 then g k j else 0))=F i j - sm p.length (fun k=>F i (p.getD k 0)*g k j):=fun F i=>by
  have s:sm c (fun x=>F i x*((if x=j then 1 else 0) - sm p.length fun k=>if x=p.getD k 0 then g k j else 0))=sm c (fun x=>(if x=j then F i j else 0) - sm p.length fun k=>if x=p.getD k 0 then F i x*g k j else 0):=a0q fun x _=>by
   have:F i x*sm p.length (fun k=>if x=p.getD k 0 then g k j else 0)=sm p.length fun k=>if x=p.getD k 0 then F i x*g k j else 0:=by
    rw[<-a2A];exact a0q fun k _=>by split<;>grind
   rw[<-this];split
   ·subst_vars;grind
   ·grind
  rw[s,a8r,a1X j r fun x _ o=>by simp[o],a3N];simp only[if_true]
  congr 1
  exact a0q fun k a=>by
   rw[m k a,a1X p[k] (e.lt k a) fun x _ o=>by simp[o]];simp
 have w:Nul n c g (fun x=>(if x=j then 1 else 0) - sm p.length fun k=>if x=p.getD k 0 then g k j else 0):=fun q hq=>by
  rw[l g q];by_cases b:q<p.length
  ·rw[a1X q b fun k a v=>by rw[m k a,e.zero k a q hq (by omega)];grind]
   rw[m q b,e.one q b];grind
  ·rw[e.below q (by omega) hq j r,a2Q fun k a=>by rw[m k a,e.below q (by omega) hq _ (e.lt k a)];grind];grind
 have t:=(h.nul _).2 w i u;rw[l f i]at t
 show f i j=sm p.length fun k=>f i (p.getD k 0)*g k j
 grind
theorem LI.full{n c:Nat}{f r:F2}{p:List Nat}{d:Rat}(b:LI n c f)(a:Rref n c r p)(h:RE n c f r d):p.length=n:=by
 have k:=a.le;refine Classical.byContradiction fun l=>?_;have:=(h.li b) (fun i=>if i=p.length then 1 else 0) (fun j g=>by
  unfold cmb;rw[a1X p.length (by omega) fun i _ e=>by simp[e]];rw[a.below _ (c1B _) (by omega) j g];grind) p.length (by omega)
 simp at this
def b2s(r:F2)(p:List Nat)(c:Nat):Nat->Rat:=fun x=>match p.findIdx? (· ==x)with|some i=>r i c|none=>0
def a3k(c:Nat)(f:F2)(b:Nat->Rat):F2:=fun i j=>if j=c then b i else f i j
theorem b4z{n c:Nat}{f:F2}{b:Nat->Rat}(x:Nat->Rat):Nul n (c+1) (a3k c f b) (fun j=>if j=c then -1 else x j)↔∀i,i<n->sm c (fun j=>f i j*x j)=b i:=by
 have a:∀i,sm (c+1) (fun j=>a3k c f b i j*(if j=c then -1 else x j))=sm c (fun j=>f i j*x j) - b i:=fun i=>by
  show sm c _+_=_
  rw[a0q (g:=fun j=>f i j*x j) fun j e=>by simp[a3k,show j≠c by omega]];simp[a3k];grind
 constructor
 ·intro h i d;have:=h i d;rw[a]at this;grind
 ·intro h i d;rw[a,h i d];grind
theorem b8D{n c:Nat}{f r:F2}{b:Nat->Rat}{p:List Nat}{d:Rat}(g:Rref n (c+1) r p)(h:RE n (c+1) (a3k c f b) r d)(l:c∉p):∀i,i<n->sm c (fun j=>f i j*b2s r p c j)=b i:=by
 refine(b4z (b2s r p c)).1 ((h.nul _).2 fun i o=>?_);by_cases a:i<p.length
 ·rw[g.row i a]
  have m:p[i]≠c:=by rintro rfl;exact l (c1E _)
  rw[if_neg m,a1X c (by omega) fun k t s=>?_]
  ·simp only[b2s,g.idx i a,l,if_false,if_true];grind
  ·split
   ·rfl
   ·rename_i e
    simp only[b2s,a6i e];grind
 ·exact a2Q fun j q=>by rw[g.below i (by omega) o j q];grind
theorem b6g(a:Rat):0<=a*a:=by
 rcases Rat.le_total (a:=0) (b:=a)with h|h
 ·exact Rat.mul_nonneg h h
 ·have c:0<= -a:=by grind
  have:=Rat.mul_nonneg c c;grind
theorem c0o(n:Nat)(f:Nat->Rat):0<=sm n fun i=>f i*f i:=by
 induction n with
 |zero=>unfold sm;grind
 |succ n ih=>unfold sm;have:=b6g (f n);grind
theorem b1s{n:Nat}{f:Nat->Rat}(h:sm n (fun i=>f i*f i)=0):∀i,i<n->f i=0:=by
 induction n with
 |zero=>intro i hi;omega
 |succ n ih=>
  unfold sm at h;have h1:=c0o n f;have h2:=b6g (f n);have h3:sm n (fun i=>f i*f i)=0:=by grind
  have h4:f n*f n=0:=by grind
  intro i hi;by_cases e:i=n
  ·subst e;rcases Rat.mul_eq_zero.1 h4 with h|h<;>exact h
  ·exact ih h3 i (by omega)
def app(c:Nat)(f:F2)(x:Nat->Rat)(i:Nat):Rat:=sm c fun j=>f i j*x j
def gr(n:Nat)(f:F2):F2:=fun i j=>sm n fun r=>f r i*f r j
def gy(n:Nat)(f:F2)(y:Nat->Rat):Nat->Rat:=fun i=>sm n fun r=>f r i*y r
theorem b8E(n:Nat)(f:F2)(i j:Nat):gr n f i j=gr n f j i:=a0q fun r _=>by grind
theorem b2t(n c:Nat)(f:F2)(x:Nat->Rat)(i:Nat):sm c (fun j=>gr n f i j*x j)=sm n fun r=>f r i*app c f x r:=by
 have e:∀j,j<c->gr n f i j*x j=sm n fun r=>f r i*(f r j*x j):=fun j _=>by
  have:gr n f i j*x j=x j*gr n f i j:=by grind
  rw[this];unfold gr;rw[<-a2A];exact a0q fun r _=>by grind
 rw[a0q e,a3N];exact a0q fun r _=>by rw[a2A];rfl
theorem a8z{n c:Nat}{f:F2}{x:Nat->Rat}:Nul c c (gr n f) x↔Nul n c f x:=by
 constructor
 ·intro h
  have b:sm c (fun i=>x i*sm c (fun j=>gr n f i j*x j))=0:=a2Q fun i a=>by rw[h i a];grind
  have d:sm c (fun i=>x i*sm c (fun j=>gr n f i j*x j))=sm n fun r=>app c f x r*app c f x r:=by
   rw[a0q (g:=fun i=>sm n fun r=>app c f x r*(f r i*x i)) fun i _=>by rw[b2t,<-a2A];exact a0q fun r _=>by grind];rw[a3N];exact a0q fun r _=>by rw[a2A];rfl
  rw[d]at b;exact fun i a=>b1s b i a
 ·intro h i _
  rw[b2t];exact a2Q fun r e=>by rw[show app c f x r=0 from h r e];grind
def NS(n c:Nat)(f:F2)(y b:Nat->Rat):Prop:=∀i,i<c->sm c (fun j=>gr n f i j*b j)=gy n f y i
theorem b2u{n c:Nat}{f:F2}{y b:Nat->Rat}:NS n c f y b↔∀i,i<c->sm n (fun r=>f r i*(y r - app c f b r))=0:=by
 have a:∀i,sm n (fun r=>f r i*(y r - app c f b r))=gy n f y i - sm c (fun j=>gr n f i j*b j):=fun i=>by
  rw[b2t];rw[a0q (g:=fun r=>f r i*y r - f r i*app c f b r) fun r _=>by grind,a8r];rfl
 constructor
 ·intro h i d;rw[a,h i d];grind
 ·intro h i d;have:=h i d;rw[a]at this;grind
theorem b8F{n c:Nat}{f:F2}{y b b':Nat->Rat}(h:NS n c f y b)(d:NS n c f y b'):Nul n c f (fun j=>b j - b' j):=a8z.1 fun i a=>by
 rw[a0q (g:=fun j=>gr n f i j*b j - gr n f i j*b' j) fun j _=>by grind,a8r,h i a,d i a];grind
theorem b0s{n c:Nat}{f g:F2}{p:List Nat}{d:Rat}(h:Rref n c g p)(q:RE n c f g d){x:Nat->Rat}(r:Nul n c f x)(e:∀j,j<c->j∉p->x j=0)(j:Nat)(b:j<c):x j=0:=by
 by_cases l:j∈p
 ·obtain⟨k,i,rfl⟩:=List.getElem_of_mem l
  have m:=(q.nul x).1 r k (c1C i h.le);have o:sm c (fun j=>if j∈p then 0 else g k j*x j)=0:=a2Q fun j b=>by
   by_cases a:j∈p
   ·simp[a]
   ·simp[a,e j b a]
  rw[h.row k i,o]at m;grind
 ·exact e j b l
theorem b8G{n c:Nat}{f g:F2}{p:List Nat}{d:Rat}(o:Rref n c g p)(m:RE n c f g d){y b b':Nat->Rat}(h:NS n c f y b)(k:NS n c f y b')(l:∀j,j<c->j∉p->b j=0)(e:∀j,j<c->j∉p->b' j=0)(j:Nat)(a:j<c):b j=b' j:=by
 have:=b0s o m (b8F h k) (fun j a i=>by rw[l j a i,e j a i];grind) j a;grind
theorem Rref.sub2{n m c:Nat}{f g:F2}{p q:List Nat}(i:Rref n c f p)(b:Rref m c g q)(o:∀x,Nul n c f x->Nul m c g x)(j:Nat)(l:j∈q):j∈p:=by
 refine Classical.byContradiction fun d=>?_;obtain⟨k,e,rfl⟩:=List.getElem_of_mem l;have h:=o _ (i.nv_nul d (b.lt k e)) k (c1C e b.le);rw[a1X q[k] (b.lt k e)]at h
 ·rw[b.one k e,a6o]at h;grind
 ·intro x _ r
  rcases Nat.lt_or_gt_of_ne r with a|a
  ·rw[b.left k e x a];grind
  ·rw[i.nv_supp d a];grind
theorem Rref.piv2{n m c:Nat}{f g:F2}{p q:List Nat}(a:Rref n c f p)(b:Rref m c g q)(d:∀x,Nul n c f x↔Nul m c g x):p=q:=
 b0m p q a.pw b.pw fun x=>⟨b.sub2 a (fun x h=>(d x).2 h) x,a.sub2 b (fun x h=>(d x).1 h) x⟩
theorem Rref.drop{n c:Nat}{f:F2}{p:List Nat}(h:Rref n (c+1) f p)(d:c∉p):Rref n c f p:=
 ⟨h.le,fun i e=>by
  have a:=h.lt i e;have b:p[i]≠c:=by rintro rfl;exact d (c1E _)
  omega,h.inc,h.left,h.one,h.zero,fun i a b j g=>h.below i a b j (by omega)⟩
theorem b4A{n c:Nat}{f:F2}{b:Nat->Rat}{r:F2}{d:Rat}(h:RE n (c+1) (a3k c f b) r d)(x:Nat->Rat):Nul n c f x↔Nul n c r x:=by
 have e:∀(g:F2),Nul n (c+1) g (fun j=>if j=c then 0 else x j)↔Nul n c g x:=fun g=>by
  constructor
  ·intro h i k
   have a:=h i k;unfold sm at a;rw[a0q (g:=fun j=>g i j*x j) fun j l=>by simp[show j≠c by omega]]at a;simp at a;grind
  ·intro h i k
   unfold sm;rw[a0q (g:=fun j=>g i j*x j) fun j l=>by simp[show j≠c by omega],h i k];simp;grind
 have m:Nul n (c+1) (a3k c f b) (fun j=>if j=c then 0 else x j)↔Nul n c f x:=by
  constructor
  ·intro h i k
   have a:=h i k;unfold sm at a;rw[a0q (g:=fun j=>f i j*x j) fun j l=>by simp[a3k,show j≠c by omega]]at a;simp at a;grind
  ·intro h i k
   unfold sm;rw[a0q (g:=fun j=>f i j*x j) fun j l=>by simp[a3k,show j≠c by omega],h i k];simp;grind
 rw[<-m,<-e r];exact h.nul _
theorem b2v{n c:Nat}{f r:F2}{y:Nat->Rat}{q:List Nat}{d:Rat}(l:Rref c (c+1) r q)(h:RE c (c+1) (a3k c (gr n f) (gy n f y)) r d):c∉q:=by
 intro hq;obtain⟨k,o,p⟩:=List.getElem_of_mem hq;have e:k<c:=c1C o l.le;obtain⟨a,t⟩:=h.factor (r:=c) (a3k c (gr n f) (gy n f y)) ⟨fun i j=>if i=j then 1 else 0,fun i v j w=>by
  unfold mul;rw[a1X i v fun x _ z=>by simp[Ne.symm z]];simp⟩
 have u:∀j,j<c->sm c (fun i=>gr n f j i*a k i)=0:=fun j w=>by
  have b:=t k e j (by omega);rw[l.left k o j (by omega)]at b;unfold mul at b;rw[b];exact a0q fun i _=>by simp[a3k,show j≠c by omega];rw[b8E];grind
 have b:=a8z.1 (show Nul c c (gr n f) (a k)from u);have m:=t k e c (by omega);have s:=l.one k o;rw[p]at s;rw[s]at m;unfold mul at m;rw[a0q (g:=fun i=>sm n fun r=>y r*(f r i*a k i)) fun i _=>by
  simp only[a3k,if_true];unfold gy;rw[<-a2A];exact a0q fun r _=>by grind]at m
 rw[a3N,a2Q fun r l=>by rw[a2A,b r l];grind]at m;grind
theorem b6W{n c:Nat}{f g r:F2}{y:Nat->Rat}{p q:List Nat}{d e:Rat}(l:Rref n c g p)(k:RE n c f g e)(b:Rref c (c+1) r q)(h:RE c (c+1) (a3k c (gr n f) (gy n f y)) r d):q=p/\NS n c f y (b2s r q c)/\∀j,j<c->j∉p->b2s r q c j=0:=by
 have i:=b2v b h;have hd:=b.drop i;have a:q=p:=hd.piv2 l fun x=>((b4A h x).symm.trans a8z).trans (k.nul x);refine⟨a,b8D b h i,fun j _ m=>?_⟩;unfold b2s;rw[a6i (by rw[a];exact m)]
def usd(f:F2)(p:List Nat):F2:=fun r a=>f r (p.getD a 0)
def b4n(p:List Nat)(z:Nat->Rat):Nat->Rat:=fun j=>match p.findIdx? (· ==j)with|some a=>z a|none=>0
theorem a6r{n c:Nat}{g:F2}{p:List Nat}(d:Rref n c g p)(z:Nat->Rat)(a:Nat)(b:a<p.length):b4n p z p[a]=z a:=by
 unfold b4n;rw[d.idx a b]
theorem a4P{p:List Nat}(z:Nat->Rat){j:Nat}(a:j∉p):b4n p z j=0:=by
 unfold b4n;rw[a6i a]
theorem b8H{n c:Nat}{g:F2}{p:List Nat}(f:Rref n c g p)(F:Nat->Rat)(r:∀j,j<c->j∉p->F j=0):sm c F=sm p.length fun a=>F (p.getD a 0):=by
 have o:∀k (b:k<p.length),p.getD k 0=p[k]:=fun k b=>by simp[List.getD_eq_getElem?_getD,b]
 have e:∀j,j<c->F j=sm p.length fun a=>if j=p.getD a 0 then F j else 0:=fun j m=>by
  by_cases d:j∈p
  ·obtain⟨k,b,rfl⟩:=List.getElem_of_mem d
   rw[a1X k b fun i h l=>by
    rw[o i h,if_neg];intro s;rcases Nat.lt_or_gt_of_ne l with a|a
    ·have:=f.inc i k a b;omega
    ·have:=f.inc k i a h;omega]
   rw[o k b,if_pos rfl]
  ·rw[r j m d,a2Q fun i h=>by split<;>rfl]
 rw[a0q e,a3N];exact a0q fun a q=>by
  rw[o a q,a1X p[a] (f.lt a q) fun j _ m=>by rw[if_neg m],if_pos rfl]
theorem b0t{n c:Nat}{f g:F2}{p:List Nat}(d:Rref n c g p)(z:Nat->Rat)(r:Nat):app c f (b4n p z) r=app p.length (usd f p) z r:=by
 unfold app;rw[b8H d _ fun j _ e=>by rw[a4P z e];grind];exact a0q fun a b=>by
  have h:p.getD a 0=p[a]:=by simp[List.getD_eq_getElem?_getD,b]
  unfold usd;rw[h,a6r d z a b]
theorem b8I{n c:Nat}{f g:F2}{p:List Nat}{d:Rat}(b:Rref n c g p)(i:RE n c f g d){z:Nat->Rat}(hz:Nul n p.length (usd f p) z)(a:Nat)(e:a<p.length):z a=0:=by
 have h:Nul n c f (b4n p z):=fun r l=>(b0t (f:=f) b z r).trans (hz r l);have:=b0s b i h (fun j _ k=>a4P z k) p[a] (b.lt a e);rwa[a6r b z a e]at this
theorem b8J{n c:Nat}{f g:F2}{p:List Nat}{d:Rat}(a:Rref n c g p)(e:RE n c f g d){y z:Nat->Rat}(hz:NS n p.length (usd f p) y z):NS n c f y (b4n p z):=by
 refine b2u.2 fun i j=>?_;have b:=b2u.1 hz;have h:=b1r a e;rw[a0q (g:=fun r=>sm p.length fun k=>g k i*(usd f p r k*(y r - app p.length (usd f p) z r))) fun r m=>by
  rw[b0t a,h r m i j];unfold mul;have:∀(A B:Rat),A*B=B*A:=fun A B=>by grind
  rw[this,<-a2A];exact a0q fun k _=>by unfold usd;grind]
 rw[a3N];exact a2Q fun k l=>by rw[a2A,b k l];grind
def Inv(m:Nat)(G v:F2):Prop:=(∀a,a<m->∀b,b<m->sm m (fun k=>G a k*v k b)=if a=b then 1 else 0)/\∀a,a<m->∀b,b<m->sm m (fun k=>v a k*G k b)=if a=b then 1 else 0
theorem b8K{n m:Nat}{u v:F2}(h:Inv m (gr n u) v)(y:Nat->Rat):NS n m u y fun a=>sm m fun b=>v a b*gy n u y b:=fun i d=>by
 rw[a0q (g:=fun j=>sm m fun b=>gy n u y b*(gr n u i j*v j b)) fun j _=>by rw[<-a2A];exact a0q fun b _=>by grind];rw[a3N,a0q (g:=fun b=>gy n u y b*if i=b then 1 else 0) fun b c=>by rw[a2A,h.1 i d b c]];rw[a1X i d fun b _ c=>by simp[Ne.symm c]];simp
def hat(m:Nat)(u v:F2):F2:=fun i j=>sm m fun a=>u i a*sm m fun b=>v a b*u j b
theorem c1c:∃n:Nat,n=4294967296:=⟨_,rfl⟩
noncomputable def B:Nat:=Classical.choose c1c
theorem a1t:B=4294967296:=Classical.choose_spec c1c
theorem a2B:0<B:=by rw[a1t];decide
noncomputable def nv:List Nat->Nat
 | []=>0
 |d::l=>d+B*nv l
def Dig(l:List Nat):Prop:=∀d∈l,d<B
def a1J(l:List Nat):Bool:= !(l.getLast?==some 0)
def vl(l:List Nat):List Nat:=if a1J l then l else[]
noncomputable def val(l:List Nat):Nat:=nv (vl l)
def a0M(l:List Nat)(n:Nat):Prop:=Dig l/\a1J l=true/\nv l=n
theorem a3Q(a b:List Nat):nv (a++b)=nv a+B^a.length*nv b:=by
 induction a with
 |nil=>simp[nv]
 |cons d a ih=>simp only[List.cons_append,nv,ih,List.length_cons,Nat.pow_succ,Nat.mul_add];rw[Nat.mul_comm (B^a.length) B,Nat.mul_assoc,Nat.add_assoc]
theorem a2i(a:List Nat)(d:Nat):nv (a++[d])=nv a+B^a.length*d:=by rw[a3Q];simp[nv]
theorem b0u(n:Nat):nv (List.replicate n 0)=0:=by
 induction n with
 |zero=>rfl
 |succ n ih=>simp[List.replicate_succ,nv,ih]
theorem Dig.nil:Dig []:=by intro d h;simp at h
theorem Dig.cons{d:Nat}{l:List Nat}(hd:d<B)(h:Dig l):Dig (d::l):=by
 intro x a;rcases List.mem_cons.1 a with rfl|a
 ·exact hd
 ·exact h x a
theorem Dig.append{a b:List Nat}(c:Dig a)(d:Dig b):Dig (a++b):=by
 intro x e;rcases List.mem_append.1 e with h|h
 ·exact c x h
 ·exact d x h
theorem Dig.take{a:List Nat}(b:Dig a)(n:Nat):Dig (a.take n):=fun x c=>b x (List.mem_of_mem_take c)
theorem Dig.drop{a:List Nat}(b:Dig a)(n:Nat):Dig (a.drop n):=fun x c=>b x (List.mem_of_mem_drop c)
theorem Dig.get{a:List Nat}(b:Dig a)(i:Nat)(h:i<a.length):a[i]<B:=b _ (c1E h)
theorem Dig.set{a:List Nat}(b:Dig a)(i d:Nat)(hd:d<B):Dig (a.set i d):=by
 intro x c;rcases List.mem_or_eq_of_mem_set c with h|rfl
 ·exact b x h
 ·exact hd
theorem Dig.zeros(n:Nat):Dig (List.replicate n 0):=by intro x a;rw[List.eq_of_mem_replicate a];exact a2B
theorem a4Q{l:List Nat}(h:Dig l):nv l<B^l.length:=by
 induction l with
 |nil=>simp[nv]
 |cons d l ih=>
  have h1:=ih (fun x hx=>h x (List.mem_cons_of_mem _ hx));have h2:=h d (List.mem_cons_self ..);simp only[nv,List.length_cons,Nat.pow_succ];have:B*nv l+B<=B^l.length*B:=by rw[<-Nat.mul_succ,Nat.mul_comm];exact Nat.mul_le_mul_right _ h1
  omega
theorem a4G(l:List Nat)(d:Nat):a1J (l++[d])=(d !=0):=by simp[a1J,bne]
theorem a3x{l:List Nat}(h:0<l.length):a1J l=(l[l.length - 1] !=0):=by
 unfold a1J;rw[List.getLast?_eq_getElem?,List.getElem?_eq_getElem (by omega)];simp[bne]
theorem b4B(l:List Nat):a1J (vl l)=true:=by
 unfold vl;split
 ·assumption
 ·rfl
theorem b8L{l:List Nat}(h:Dig l):Dig (vl l):=by
 unfold vl;split
 ·exact h
 ·exact Dig.nil
theorem b8M(l:List Nat):(vl l).length<=l.length:=by unfold vl;split<;>simp
theorem a4R{l:List Nat}(h:Dig l):a0M (vl l) (val l):=⟨b8L h,b4B l,rfl⟩
theorem a0M.vl{l:List Nat}{n:Nat}(h:a0M l n):vl l=l:=by unfold YtjmnhbebpffoaaaGreat.vl;rw[h.2.1];rfl
theorem a0M.val{l:List Nat}{n:Nat}(h:a0M l n):val l=n:=by unfold YtjmnhbebpffoaaaGreat.val;rw[h.vl];exact h.2.2
theorem a0M.nil:a0M [] 0:=⟨Dig.nil,rfl,rfl⟩
theorem a9u{P:List Nat->Prop}(h0:P [])(hs:∀l d,P l->P (l++[d]))(l:List Nat):P l:=by
 have:∀m:List Nat,P m.reverse:=by
  intro m
  induction m with
  |nil=>exact h0
  |cons d m ih=>rw[List.reverse_cons];exact hs _ _ ih
 simpa using this l.reverse
def Cut(l:List Nat)(k:Nat):Prop:=k<=l.length/\nv (l.take k)=nv l
theorem Cut.all(l:List Nat):Cut l l.length:=⟨c1B _,by rw[List.take_length]⟩
theorem Cut.less{l:List Nat}{k:Nat}(h:Cut l k)(c:0<k)(a:l[k - 1]'(by have:=h.1;omega)=0):Cut l (k - 1):=by
 refine⟨by have:=h.1;omega,?_⟩;have b:=h.1;have e:l.take k=l.take (k - 1)++[l[k - 1]'(by omega)]:=by
  conv=>lhs;rw[show k=(k - 1)+1 from by omega]
  exact List.take_succ_eq_append_getElem (by omega)
 rw[<-h.2,e,a2i,a];simp
theorem Cut.canon{l:List Nat}{k:Nat}(h:Cut l k)(hd:Dig l)(d:k=0\/∃a:k - 1<l.length,l[k - 1]≠0):a0M (l.take k) (nv l):=by
 refine⟨hd.take k,?_,h.2⟩;have e:=h.1;rcases d with rfl|⟨a,b⟩
 ·rfl
 ·by_cases c:k=0
  ·subst c;rfl
  rw[a3x (by simp;omega)];have:(l.take k).length=k:=by simp;omega
  simp[this,b]
theorem a0M.unique{a b:List Nat}{n:Nat}(ha:a0M a n)(hb:a0M b n):a=b:=by
 induction a generalizing b n with
 |nil=>
  obtain⟨h1,h2,h3⟩:=hb;have hn:n=0:=ha.2.2.symm;subst hn;clear ha
  induction b using a9u with
  |h0=>rfl
  |hs l d ih=>
   rw[a2i]at h3;rw[a4G]at h2;have:0<B^l.length:=Nat.pow_pos a2B;have hd:0<d:=by simp at h2;omega
   have:=Nat.mul_pos this hd;omega
 |cons d a ih=>
  have cv:∀{d:Nat} {l:List Nat},a1J (d::l)=true->a1J l=true:=by
   intro d l h;cases l with
   |nil=>rfl
   |cons x l=>simpa[a1J]using h
  obtain⟨h1,h2,h3⟩:=ha;obtain⟨g1,g2,g3⟩:=hb;cases b with
  |nil=>
   have hn:n=0:=g3.symm;have:a0M (d::a) 0:=⟨h1,h2,by rw[h3,hn]⟩;clear ih
   exfalso
   have key:∀l:List Nat,a0M l 0->l= []:=by
    intro l
    induction l using a9u with
    |h0=>intro _;rfl
    |hs l d _=>
     rintro ⟨_,k2,k3⟩;rw[a2i]at k3;rw[a4G]at k2;have p1:0<B^l.length:=Nat.pow_pos a2B;have hd:0<d:=by simp at k2;omega
     have:=Nat.mul_pos p1 hd;omega
   simpa using key _ this
  |cons c b=>
   have hd:=h1 d (List.mem_cons_self ..);have hc:=g1 c (List.mem_cons_self ..);simp only[nv]at h3 g3;have e:d+B*nv a=c+B*nv b:=by omega
   have hdc:d=c:=by
    have:=congrArg (· %B) e;simpa[Nat.add_mul_mod_self_left,Nat.mod_eq_of_lt hd,Nat.mod_eq_of_lt hc]using this
   subst hdc;have:B*nv a=B*nv b:=by omega
   have hab:nv a=nv b:=Nat.eq_of_mul_eq_mul_left a2B this;rw[ih (n:=nv a) (b:=b) ⟨fun x hx=>h1 x (List.mem_cons_of_mem _ hx),cv h2,rfl⟩ ⟨fun x hx=>g1 x (List.mem_cons_of_mem _ hx),cv g2,hab.symm⟩]
def a4S(a b o:List Nat)(i c:Nat):Prop:=o.length=a.length+1/\Dig o/\c<=1/\nv (o.take i)+B^i*c=nv (a.take i)+nv (b.take i)
theorem a1F(o:List Nat)(i d:Nat)(h:i<o.length):(o.set i d).take (i+1)=o.take i++[d]:=by
 rw[List.take_succ_eq_append_getElem (by simpa using h),List.take_set,List.getElem_set_self]
 congr 1
 rw[List.set_eq_of_length_le (by simp;omega)]
theorem a0F(a:List Nat)(i:Nat)(h:i<a.length):nv (a.take (i+1))=nv (a.take i)+B^i*a[i]:=by
 rw[List.take_succ_eq_append_getElem h,a2i];congr 3;simp;omega
theorem a7k(a:List Nat)(i:Nat)(h:a.length<=i):nv (a.take (i+1))=nv (a.take i):=by
 rw[c1D (by omega),c1D h]
theorem a4S.start(a b:List Nat):a4S a b (List.replicate (a.length+1) 0) 0 0:=⟨by simp,Dig.zeros _,by omega,by simp[nv]⟩
theorem a4S.step{a b o:List Nat}{i c y:Nat}(h:a4S a b o i c)(j:i<a.length)(k:(∃h:i<b.length,b[i]=y)\/(b.length<=i/\y=0))(n:Dig a)(p:Dig b):a4S a b (o.set i ((a[i]+y+c)%4294967296)) (i+1) ((a[i]+y+c)/4294967296):=by
 obtain⟨l,m,r,s⟩:=h;have d:=n.get i j;have g:y<B:=by
  rcases k with⟨h,rfl⟩|⟨_,rfl⟩
  ·exact p.get i h
  ·exact a2B
 rw[a1t]at d g;refine⟨by simpa using l,m.set _ _ (by rw[a1t];exact Nat.mod_lt _ (by decide)),by omega,?_⟩;have f:nv (b.take (i+1))=nv (b.take i)+B^i*y:=by
  rcases k with⟨h,rfl⟩|⟨h,rfl⟩
  ·exact a0F b i h
  ·rw[a7k b i h];simp
 rw[a1F o i _ (by omega),a2i,a0F a i j,f,List.length_take,Nat.min_eq_left (by omega),Nat.pow_succ,Nat.mul_assoc];have e:(a[i]+y+c)%4294967296+B*((a[i]+y+c)/4294967296)=a[i]+y+c:=by rw[a1t];omega
 have q:B^i*((a[i]+y+c)%4294967296)+B^i*(B*((a[i]+y+c)/4294967296))=B^i*a[i]+B^i*y+B^i*c:=by rw[<-Nat.mul_add,e,Nat.mul_add,Nat.mul_add]
 omega
theorem a4S.done{a b o:List Nat}{c:Nat}(h:a4S a b o a.length c)(d:b.length<=a.length):Dig (o.set a.length c)/\nv (o.set a.length c)=nv a+nv b/\(o.set a.length c).length=a.length+1:=by
 obtain⟨f,g,j,i⟩:=h;refine⟨g.set _ _ (by rw[a1t];omega),?_,by simpa using f⟩;have e:o.set a.length c=(o.set a.length c).take (a.length+1):=by rw[c1D (by simp;omega)]
 rw[e,a1F o _ _ (by omega),a2i,List.length_take,Nat.min_eq_left (by omega),i,c1D (c1B _),c1D d]
def lg(n:Nat):Nat:=if n=0 then 0 else Nat.log2 n/32+1
theorem b6X(m:Nat):B^m=2^(32*m):=by rw[Nat.pow_mul,a1t]
theorem a3e{n m:Nat}:lg n<=m↔n<B^m:=by
 unfold lg;by_cases h:n=0
 ·subst h;simp[Nat.pow_pos a2B]
 ·rw[if_neg h,b6X,<-Nat.log2_lt h];omega
theorem a0M.len{l:List Nat}{n:Nat}(h:a0M l n):l.length=lg n:=by
 have h1:lg n<=l.length:=a3e.2 (by rw[<-h.2.2];exact a4Q h.1);obtain⟨hd,hv,rfl⟩:=h
 induction l using a9u with
 |h0=>rfl
 |hs l d _=>
  rw[a4G]at hv;have hd:0<d:=by simp at hv;omega
  have:¬lg (nv (l++[d]))<=l.length:=by
   rw[a3e,a2i];have:=Nat.mul_le_mul_left (B^l.length) hd;omega
  simp at h1 |-;omega
theorem a5B:lg 0=0:=rfl
theorem a1l{a b:Nat}(h:a<=b):lg a<=lg b:=a3e.2 (Nat.lt_of_le_of_lt h (a3e.1 (c1B _)))
theorem b0v(a b:Nat):lg (a+b)<=max (lg a) (lg b)+1:=by
 rw[a3e];have c:=(a3e (n:=a) (m:=max (lg a) (lg b))).1 (Nat.le_max_left _ _);have d:=(a3e (n:=b) (m:=max (lg a) (lg b))).1 (Nat.le_max_right _ _);rw[Nat.pow_succ];have:0<B^max (lg a) (lg b):=Nat.pow_pos a2B;have:=a1t;generalize B^max (lg a) (lg b)=p at*;rw[a1t];omega
theorem a0Z(a b:Nat):lg (a*b)<=lg a+lg b:=by
 rw[a3e,Nat.pow_add];exact Nat.mul_lt_mul'' (a3e.1 (c1B _)) (a3e.1 (c1B _))
theorem b6h{a:Nat}(h:0<a):0<lg a:=by unfold lg;rw[if_neg (by omega)];omega
theorem b2w(l:List Nat)(h:Dig l):lg (val l)<=l.length:=by
 have:=(a4R h).len;have:=b8M l;omega
def a3f(a b:Nat):Int:=if a<b then -1 else if b<a then 1 else 0
theorem a4w{a b:List Nat}{m n:Nat}(d:a0M a m)(e:a0M b n)(h:a.length<b.length):a3f m n= -1:=by
 have:m<n:=by
  rcases Nat.lt_or_ge m n with c|c
  ·exact c
  ·have:=a1l c;rw[<-d.len,<-e.len]at this;omega
 simp[a3f,this]
theorem a4x{a b:List Nat}{m n:Nat}(d:a0M a m)(e:a0M b n)(h:b.length<a.length):a3f m n=1:=by
 have:n<m:=by
  rcases Nat.lt_or_ge n m with c|c
  ·exact c
  ·have:=a1l c;rw[<-d.len,<-e.len]at this;omega
 simp[a3f,this,Nat.lt_asymm this]
theorem a2t(a:List Nat)(k:Nat)(b:k<=a.length):nv a=nv (a.take k)+B^k*nv (a.drop k):=by
 have:=a3Q (a.take k) (a.drop k);rw[List.take_append_drop,List.length_take,Nat.min_eq_left b]at this;exact this
theorem a6s{a b:List Nat}(f:Dig a){k:Nat}(l:a.length=b.length)(i:0<k)(g:k<=a.length)(hd:a.drop k=b.drop k)(h:a[k - 1]'(by omega)<b[k - 1]'(by omega)):nv a<nv b:=by
 rw[a2t a k g,a2t b k (by omega),hd];have c:=a0F a (k - 1) (by omega);have d:=a0F b (k - 1) (by omega);rw[show k - 1+1=k from by omega]at c d;have e:=a4Q (f.take (k - 1));rw[List.length_take,Nat.min_eq_left (by omega)]at e;have j:B^(k - 1)*a[k - 1]'(by omega)+B^(k - 1)<=B^(k - 1)*b[k - 1]'(by omega):=by rw[<-Nat.mul_succ];exact Nat.mul_le_mul_left _ h
 omega
theorem a7l{a b:List Nat}{m n k:Nat}(c:a0M a m)(e:a0M b n)(g:a.length=b.length)(d:0<k)(f:k<=a.length)(hd:a.drop k=b.drop k)(h:a[k - 1]'(by omega)<b[k - 1]'(by omega)):a3f m n= -1:=by
 have:=a6s c.1 g d f hd h;rw[c.2.2,e.2.2]at this;simp[a3f,this]
theorem a7m{a b:List Nat}{m n k:Nat}(e:a0M a m)(c:a0M b n)(f:a.length=b.length)(d:0<k)(g:k<=a.length)(hd:a.drop k=b.drop k)(h:b[k - 1]'(by omega)<a[k - 1]'(by omega)):a3f m n=1:=by
 have:=a6s c.1 f.symm d (by omega) hd.symm h;rw[e.2.2,c.2.2]at this;simp[a3f,this,Nat.lt_asymm this]
theorem a5O{a b:List Nat}{k:Nat}(g:a.length=b.length)(e:0<k)(f:k<=a.length)(hd:a.drop k=b.drop k)(h:a[k - 1]'(by omega)=b[k - 1]'(by omega)):a.drop (k - 1)=b.drop (k - 1):=by
 have c:=List.drop_eq_getElem_cons (l:=a) (i:=k - 1) (by omega);have d:=List.drop_eq_getElem_cons (l:=b) (i:=k - 1) (by omega);rw[c,d,show k - 1+1=k from by omega,hd,h]
theorem a7n{a b:List Nat}{m n k:Nat}(c:a0M a m)(d:a0M b n)(e:k=0)(hd:a.drop k=b.drop k):a3f m n=0:=by
 subst e;have:a=b:=by simpa using hd
 have:m=n:=by rw[<-c.2.2,<-d.2.2,this]
 simp[a3f,this]
theorem a3R(a b:Nat):a3f a b<0↔a<b:=by unfold a3f;split<;>(try split)<;>simp_all
theorem b6Y(a b:Nat):a3f a b=0↔a=b:=by unfold a3f;split<;>(try split)<;>simp_all<;>omega
def a2K(l q:List Nat)(d k r:Nat):Prop:=q.length=l.length/\Dig q/\r<d/\nv (l.drop k)=d*nv (q.drop k)+r
theorem a2K.start(l:List Nat)(d:Nat)(hd:0<d):a2K l (List.replicate l.length 0) d l.length 0:=
 ⟨by simp,Dig.zeros _,hd,by simp[nv]⟩
theorem a7F(q:List Nat)(k x:Nat)(a:0<k)(b:k<=q.length):(q.set (k - 1) x).drop (k - 1)=x::q.drop k:=by
 rw[List.drop_eq_getElem_cons (by simp;omega),List.getElem_set_self,show k - 1+1=k from by omega,List.drop_set_of_lt (by omega)]
theorem a2K.step{l q:List Nat}{d k r:Nat}(h:a2K l q d k r)(c:0<k)(p:k<=l.length)(n:Dig l):a2K l (q.set (k - 1) ((r*4294967296+l[k - 1])/d)) d (k - 1) ((r*4294967296+l[k - 1])%d):=by
 obtain⟨f,g,j,m⟩:=h;have a:=n.get (k - 1) (by omega);rw[a1t]at a;have o:(r*4294967296+l[k - 1])/d<4294967296:=by
  rw[Nat.div_lt_iff_lt_mul (by omega)];have:(r+1)*4294967296<=d*4294967296:=Nat.mul_le_mul_right _ j;rw[Nat.mul_comm 4294967296 d];omega
 refine⟨by simpa using f,g.set _ _ (by rw[a1t];exact o),Nat.mod_lt _ (by omega),?_⟩;rw[a7F q k _ c (by omega),List.drop_eq_getElem_cons (l:=l) (i:=k - 1) (by omega),show k - 1+1=k from by omega];simp only[nv];rw[m];have e:=Nat.div_add_mod (r*4294967296+l[k - 1]) d;rw[a1t];generalize (r*4294967296+l[k - 1])/d=x at*;generalize (r*4294967296+l[k - 1])%d=y at*;generalize nv (q.drop k)=z at*;have b:4294967296*(d*z+r)=d*(4294967296*z)+r*4294967296:=by rw[Nat.mul_add,<-Nat.mul_assoc,<-Nat.mul_assoc,Nat.mul_comm 4294967296 d,Nat.mul_comm 4294967296 r]
 rw[b,Nat.mul_add];omega
theorem a2K.done{l q:List Nat}{d r:Nat}(h:a2K l q d 0 r):nv q=nv l/d/\r=nv l%d:=by
 obtain⟨c,e,a,b⟩:=h;simp only[List.drop_zero]at b;rw[b,Nat.mul_add_div (by omega),Nat.div_eq_of_lt a,Nat.mul_add_mod,Nat.mod_eq_of_lt a];exact⟨rfl,rfl⟩
theorem b6i(o:List Nat)(k d:Nat)(h:k<o.length):nv (o.set k d)+B^k*o[k]=nv o+B^k*d:=by
 induction o generalizing k with
 |nil=>simp at h
 |cons x o ih=>
  match k with
  |0=>simp[nv];omega
  |k+1=>
   have:=ih k (by simpa using h);simp only[c1I,nv,List.getElem_cons_succ,Nat.pow_succ];have e1:B^k*B*o[k]'(by simpa using h)=B*(B^k*o[k]'(by simpa using h)):=by rw[Nat.mul_comm (B^k) B,Nat.mul_assoc]
   have e2:B^k*B*d=B*(B^k*d):=by rw[Nat.mul_comm (B^k) B,Nat.mul_assoc]
   rw[e1,e2,Nat.add_assoc,<-Nat.mul_add,this,Nat.mul_add,Nat.add_assoc]
def a2J(a b o:List Nat)(i j c:Nat):Prop:=o.length=a.length+b.length/\Dig o/\c<B/\(∀p (h:p<o.length),i+b.length<=p->o[p]=0)/\
 nv o+B^(i+j)*c=nv (a.take i)*nv b+(a.getD i 0)*B^i*nv (b.take j)
theorem a2J.start(a b:List Nat):a2J a b (List.replicate (a.length+b.length) 0) 0 0 0:=
 ⟨by simp,Dig.zeros _,a2B,by simp,by simp[nv,b0u]⟩
theorem a2J.step{a b o:List Nat}{i j c:Nat}(h:a2J a b o i j c)(n:i<a.length)(q:j<b.length)(A:Dig a)(C:Dig b)(d:i+j<o.length):a2J a b (o.set (i+j) ((c+(a[i]*b[j]+o[i+j]))%4294967296)) i (j+1) ((c+(a[i]*b[j]+o[i+j]))/4294967296)/\c+(a[i]*b[j]+o[i+j])<18446744073709551616/\a[i]*b[j]+o[i+j]<18446744073709551616/\a[i]*b[j]<18446744073709551616:=by
 obtain⟨t,m,u,v,w⟩:=h;have f:=A.get i n;have g:=C.get j q;have k:=m.get (i+j) d;rw[a1t]at f g k u;have E:a[i]*b[j]<=4294967295*4294967295:=Nat.mul_le_mul (by omega) (by omega);have F:=b6i o (i+j) ((c+(a[i]*b[j]+o[i+j]))%4294967296) d;have z:a.getD i 0=a[i]:=by simp[List.getD,n]
 refine⟨⟨by simpa using t,m.set _ _ (by rw[a1t];exact Nat.mod_lt _ (by decide)),by rw[a1t];omega,?_,?_⟩,by omega,by omega,by omega⟩
 ·intro p D l
  rw[List.getElem_set,if_neg (by omega)];exact v p (by simpa using D) l
 ·rw[z]at w |-
  rw[a0F b j q,show i+(j+1)=(i+j)+1 from rfl,Nat.pow_succ];have e:=Nat.div_add_mod (c+(a[i]*b[j]+o[i+j])) 4294967296;generalize (c+(a[i]*b[j]+o[i+j]))/4294967296=x at*;generalize (c+(a[i]*b[j]+o[i+j]))%4294967296=y at*;generalize nv (o.set (i+j) y)=G at*;have r:B^(i+j)*B*x=B^(i+j)*(4294967296*x):=by rw[a1t,Nat.mul_assoc]
  have s:a[i]*B^i*(nv (b.take j)+B^j*b[j])=a[i]*B^i*nv (b.take j)+B^(i+j)*(a[i]*b[j]):=by
   rw[Nat.mul_add,Nat.pow_add]
   congr 1
   ac_rfl
  rw[r,s];have e5:B^(i+j)*(4294967296*x)+B^(i+j)*y=B^(i+j)*c+(B^(i+j)*(a[i]*b[j])+B^(i+j)*o[i+j]):=by
   rw[<-Nat.mul_add,e,Nat.mul_add,Nat.mul_add]
  omega
theorem a2J.row{a b o:List Nat}{i c:Nat}(h:a2J a b o i b.length c)(e:i<a.length):a2J a b (o.set (i+b.length) c) (i+1) 0 0:=by
 obtain⟨g,j,k,d,l⟩:=h;have f:=b6i o (i+b.length) c (by omega);have hz:=d (i+b.length) (by omega) (by omega);rw[hz,Nat.mul_zero,Nat.add_zero]at f;have m:a.getD i 0=a[i]:=by simp[List.getD,e]
 refine⟨by simpa using g,j.set _ _ k,a2B,?_,?_⟩
 ·intro p n q
  rw[List.getElem_set,if_neg (by omega)];exact d p (by simpa using n) (by omega)
 ·rw[List.take_zero,show nv []=0 from rfl,Nat.mul_zero,Nat.mul_zero,Nat.add_zero,Nat.add_zero,f,l,m,c1D (c1B b.length),a0F a i e,Nat.add_mul,Nat.mul_comm (B^i) a[i]]
theorem a2J.done{a b o:List Nat}{c:Nat}(h:a2J a b o a.length 0 c)(e:c=0):nv o=nv a*nv b:=by
 obtain⟨f,g,i,j,d⟩:=h;subst e;simpa[nv]using d
theorem a2c{n:Nat}(a:0<n)(h:n<4294967296):lg n=1:=by
 have b:lg n<=1:=a3e.2 (by rw[Nat.pow_one,a1t];exact h);have:=b6h a;omega
theorem b2x{l:List Nat}{n:Nat}(h:a0M l n)(h0:0<n)(h1:n<4294967296):l= [n]:=by
 have h2:=h.len;rw[a2c h0 h1]at h2
 match l,h2 with
 | [d],_=>have:=h.2.2;simp[nv]at this;rw[this]
theorem b4C{n:Nat}(b:0<n)(a:n<4294967296):a0M [n] n:=⟨Dig.cons (by rw[a1t];exact a) Dig.nil,by simp[a1J];omega,by simp[nv]⟩
theorem a7G{l:List Nat}{n:Nat}(h:a0M l n):l= []↔n=0:=by
 constructor
 ·rintro rfl;exact h.2.2.symm
 ·intro a;have:=h.len;rw[a]at this;exact List.eq_nil_of_length_eq_zero this
theorem a2J.step'{a b o:List Nat}{i j c x y z:Nat}(h:a2J a b o i j c)(g:i<a.length)(k:j<b.length)(e:Dig a)(f:Dig b)(d:i+j<o.length)(l:a[i]=x)(m:b[j]=y)(hz:o[i+j]=z):a2J a b (o.set (i+j) ((c+(x*y+z))%4294967296)) i (j+1) ((c+(x*y+z))/4294967296)/\c+(x*y+z)<18446744073709551616:=by
 subst l;subst m;subst hz;exact⟨(h.step g k e f d).1,(h.step g k e f d).2.1⟩
def a3g(a b o:List Nat)(i c:Nat):Prop:=o.length=i/\Dig o/\c<=1/\nv o+B^i*c=nv (a.take i)+nv (b.take i)
theorem a3g.start(a b:List Nat):a3g a b [] 0 0:=⟨rfl,Dig.nil,by omega,by simp[nv]⟩
theorem a1o(a:List Nat)(i:Nat):nv (a.take (i+1))=nv (a.take i)+B^i*a.getD i 0:=by
 by_cases h:i<a.length
 ·rw[a0F a i h];simp[List.getD,h]
 ·rw[a7k a i (by omega)];simp[List.getD,h]
theorem Dig.getD{a:List Nat}(b:Dig a)(i:Nat):a.getD i 0<B:=by
 by_cases h:i<a.length
 ·simpa[List.getD,h]using b.get i h
 ·simpa[List.getD,h]using a2B
theorem a3g.step{a b o:List Nat}{i c:Nat}(h:a3g a b o i c)(k:Dig a)(l:Dig b):a3g a b (o++[(a.getD i 0+b.getD i 0+c)%4294967296]) (i+1) ((a.getD i 0+b.getD i 0+c)/4294967296):=by
 obtain⟨g,j,q,r⟩:=h;have m:=k.getD i;have n:=l.getD i;have d:=a1o a i;have f:=a1o b i;unfold a3g;rw[d,f];clear d f;generalize a.getD i 0=x at*;generalize b.getD i 0=y at*;rw[a1t]at m n;refine⟨by simp[g],j.append (Dig.cons (by rw[a1t];exact Nat.mod_lt _ (by decide)) Dig.nil),by omega,?_⟩;rw[a2i,g,Nat.pow_succ,Nat.mul_assoc];have e:(x+y+c)%4294967296+B*((x+y+c)/4294967296)=x+y+c:=by rw[a1t];omega
 have p:B^i*((x+y+c)%4294967296)+B^i*(B*((x+y+c)/4294967296))=B^i*x+B^i*y+B^i*c:=by rw[<-Nat.mul_add,e,Nat.mul_add,Nat.mul_add]
 omega
theorem a3g.done{a b o:List Nat}{c m:Nat}(h:a3g a b o (m+1) c)(i:Dig a)(k:Dig b)(e:a.length<=m)(f:b.length<=m):nv o=nv a+nv b:=by
 obtain⟨q,r,s,d⟩:=h;rw[c1D (by omega),c1D (by omega)]at d;have j:=c1C (a4Q i) (Nat.pow_le_pow_right a2B e);have l:=c1C (a4Q k) (Nat.pow_le_pow_right a2B f);rw[Nat.pow_succ]at d;have n:c=0:=by
  rcases Nat.eq_zero_or_pos c with h|h
  ·exact h
  ·exfalso
   have g:B^m*B<=B^m*B*c:=Nat.le_mul_of_pos_right _ h;generalize B^m=p at*;rw[a1t]at g d;omega
 subst n;simpa using d
theorem a1r{l:List Nat}{n:Nat}(h:a0M l n):l.length=0↔n=0:=by
 rw[<-a7G h];exact List.length_eq_zero_iff
def a1v(s:Bool)(m:List Nat):Bool:=a1J m&&(decide (0<m.length)|| !s)
noncomputable def a7H(s:Bool)(m:List Nat):Int:=if a1v s m then(if s then -(nv m:Int)else nv m)else 0
def a5P(s:Bool)(m:List Nat)(z:Int):Prop:=s=decide (z<0)/\a0M m z.natAbs
theorem a5P.of_valid{s:Bool}{m:List Nat}(hd:Dig m)(h:a1v s m=true):a5P s m (a7H s m):=by
 have c:a1J m=true:=by unfold a1v at h;simp at h;exact h.1
 have b:a0M m (nv m):=⟨hd,c,rfl⟩;have a:=a1r b;unfold a7H;rw[if_pos h];cases s
 ·simp only[Bool.false_eq_true,if_false]
  exact⟨by simp,by simpa using b⟩
 ·have d:0<m.length:=by unfold a1v at h;simpa[c]using h
  simp only[if_true];refine⟨?_,by simpa using b⟩;have:nv m≠0:=fun e=>by rw[e]at a;simp at a;simp[a]at d
  symm;rw[decide_eq_true_eq];omega
theorem a5P.valid{s:Bool}{m:List Nat}{z:Int}(h:a5P s m z):a1v s m=true:=by
 obtain⟨b,a⟩:=h;have c:=a1r a;unfold a1v;rw[a.2.1];by_cases hz:z<0
 ·have:0<m.length:=by omega
  simp[this]
 ·simp[b,hz]
theorem a5P.val{s:Bool}{m:List Nat}{z:Int}(h:a5P s m z):a7H s m=z:=by
 unfold a7H;rw[if_pos h.valid];obtain⟨a,b⟩:=h;rw[b.2.2];by_cases hz:z<0
 ·simp only[a,hz,decide_true,if_true];omega
 ·simp only[a,hz,decide_false,Bool.false_eq_true,if_false];omega
theorem a5P.zero:a5P false [] 0:=⟨rfl,a0M.nil⟩
theorem a5P.len{s:Bool}{m:List Nat}{z:Int}(h:a5P s m z):m.length=lg z.natAbs:=h.2.len
theorem a5P.len0{s:Bool}{m:List Nat}{z:Int}(h:a5P s m z):m.length=0↔z=0:=by
 have:=a1r h.2;omega
theorem b6Z(s:Bool)(m:List Nat)(h:Dig m):lg (a7H s m).natAbs<=m.length:=by
 cases a:a1v s m
 ·unfold a7H;rw[a];simp[a5B]
 ·exact Nat.le_of_eq (a5P.of_valid h a).len.symm
theorem a5Q{s:Bool}{m:List Nat}(h:a1v s m=false):a7H s m=0:=by unfold a7H;rw[h];rfl
def dn(q:Rat):Nat:=if q.den=1 then 0 else q.den
def a7b(s:Bool)(m d:List Nat)(q:Rat):Prop:=a5P s m q.num/\a0M d (dn q)
noncomputable def a1A(s:Bool)(m d:List Nat):Bool:=a1v s m&&a1J d&&(decide (d.length=0)||(decide (0<m.length)&& !(nv d==1)&&(Nat.gcd (nv m) (nv d)==1)))
noncomputable def b2y(s:Bool)(m d:List Nat):Rat:=if a1A s m d then mkRat (a7H s m) (if d.length=0 then 1 else nv d)else 0
theorem a7b.of_valid{s:Bool}{m d:List Nat}(t:Dig m)(hd:Dig d)(h:a1A s m d=true):a7b s m d (b2y s m d):=by
 have g:=h;unfold a1A at g;simp only[Bool.and_eq_true]at g;obtain⟨⟨o,p⟩,j⟩:=g;have hz:=a5P.of_valid t o;have a:a0M d (nv d):=⟨hd,p,rfl⟩;have i:=a1r a;unfold b2y;rw[if_pos h];by_cases c:d.length=0
 ·rw[if_pos c]
  have e:mkRat (a7H s m) 1=((a7H s m:Int):Rat):=by rw[<-Rat.mk_den_one];rw[Rat.mk_eq_mkRat]
  rw[e];refine⟨by simpa using hz,?_⟩;have:nv d=0:=i.1 c;simp only[dn,Rat.den_intCast,if_true];rw[this]at a;exact a
 ·rw[if_neg c]
  have f:nv d≠0:=fun e=>c (i.2 e);simp[c]at j;obtain⟨⟨u,q⟩,r⟩:=j;have b:(a7H s m).natAbs=nv m:=by have:=hz.2.2.2;omega
  have k:(nv d).gcd (a7H s m).natAbs=1:=by rw[b,Nat.gcd_comm];exact r
  have l:(mkRat (a7H s m) (nv d)).num=a7H s m:=by rw[Rat.num_mkRat,if_neg f,k];simp
  have n:(mkRat (a7H s m) (nv d)).den=nv d:=by rw[Rat.den_mkRat,if_neg f,k];simp
  exact⟨by rw[l];exact hz,by unfold dn;rw[n,if_neg q];exact a⟩
theorem a7b.valid{s:Bool}{m d:List Nat}{q:Rat}(h:a7b s m d q):a1A s m d=true:=by
 obtain⟨b,c⟩:=h;have f:=a1r c;have j:=b.len0;have a:=q.reduced;have k:=q.den_nz;unfold a1A;rw[b.valid,c.2.1,c.2.2,b.2.2.2];by_cases hd:q.den=1
 ·have:d.length=0:=by rw[f];unfold dn;rw[if_pos hd]
  simp[this]
 ·have e:dn q=q.den:=by unfold dn;rw[if_neg hd]
  rw[e]at f |-;have l:q.num≠0:=fun e=>by rw[e]at a;simp[Nat.Coprime]at a;exact hd a
  have i:0<m.length:=by omega
  have g:q.num.natAbs.gcd q.den=1:=a;simp[i,hd,g]
theorem a7b.val{s:Bool}{m d:List Nat}{q:Rat}(h:a7b s m d q):b2y s m d=q:=by
 unfold b2y;rw[if_pos h.valid];obtain⟨c,a⟩:=h;have b:=a1r a;rw[c.val,a.2.2];by_cases hd:q.den=1
 ·have:d.length=0:=by rw[b];unfold dn;rw[if_pos hd]
  rw[if_pos this]
  conv=>rhs;rw[<-Rat.mkRat_self q]
  rw[hd]
 ·have e:dn q=q.den:=by unfold dn;rw[if_neg hd]
  have f:d.length≠0:=by rw[e]at b;have:=q.den_nz;omega
  rw[if_neg f,e,Rat.mkRat_self]
theorem a7b.zero:a7b false [] [] 0:=⟨a5P.zero,by simp[dn];exact a0M.nil⟩
theorem a7b.ofInt{s:Bool}{m:List Nat}{z:Int}(h:a5P s m z):a7b s m [] (z:Rat):=⟨by simpa using h,by simp[dn];exact a0M.nil⟩
theorem a3S{s:Bool}{m d:List Nat}(h:a1A s m d=false):b2y s m d=0:=by unfold b2y;rw[h];rfl
def hq(q:Rat):Nat:=max (lg q.num.natAbs) (lg q.den)
theorem a0G(q:Rat):lg q.num.natAbs<=hq q:=Nat.le_max_left _ _
theorem a0K(q:Rat):lg q.den<=hq q:=Nat.le_max_right _ _
theorem b7a(q:Rat):lg (dn q)<=hq q:=by
 unfold dn;split
 ·simp[a5B]
 ·exact a0K q
theorem a3I:lg 1=1:=a2c (by omega) (by omega)
theorem a7I{n:Nat}(h:0<n):1<=lg n:=b6h h
theorem a7o(q:Rat):1<=hq q:=c1A (a7I q.den_pos) (a0K q)
theorem b0w(z:Int)(d k:Nat)(a:lg z.natAbs<=k)(b:lg d<=k)(c:1<=k):hq (mkRat z d)<=k:=by
 by_cases hd:d=0
 ·subst hd;rw[Rat.mkRat_zero];unfold hq;simp[a5B,a3I];exact c
 ·unfold hq
  rw[Rat.num_mkRat,Rat.den_mkRat,if_neg hd,if_neg hd];refine Nat.max_le.2 ⟨c1A (a1l ?_) a,c1A (a1l (Nat.div_le_self _ _)) b⟩;exact Int.natAbs_ediv_le_natAbs _ _
theorem a7p(x y:Rat):hq (x+y)<=hq x+hq y+1:=by
 rw[Rat.add_def'];refine b0w _ _ _ ?_ (c1A (a0Z _ _) (by have:=a0K x;have:=a0K y;omega)) (by omega);refine c1A (a1l (Int.natAbs_add_le _ _)) ?_;refine c1A (b0v _ _) ?_;rw[Int.natAbs_mul,Int.natAbs_mul,Int.natAbs_natCast,Int.natAbs_natCast];have a:=a0Z x.num.natAbs y.den;have b:=a0Z y.num.natAbs x.den;have:=a0G x;have:=a0G y;have:=a0K x;have:=a0K y;omega
theorem hq_mul(x y:Rat):hq (x*y)<=hq x+hq y:=by
 rw[Rat.mul_def'];refine b0w _ _ _ ?_ (c1A (a0Z _ _) (by have:=a0K x;have:=a0K y;omega)) (by have:=a7o x;omega);rw[Int.natAbs_mul];have:=a0Z x.num.natAbs y.num.natAbs;have:=a0G x;have:=a0G y;omega
theorem a5R(x:Rat):hq (-x)=hq x:=by unfold hq;simp
theorem a3J(x y:Rat):hq (x - y)<=hq x+hq y+1:=by
 rw[Rat.sub_eq_add_neg,<-a5R y];exact a7p _ _
theorem a0U:hq 0=1:=by unfold hq;simp[a5B,a3I]
theorem b8N(x:Rat):hq x⁻¹<=hq x:=by
 by_cases h:x=0
 ·subst h;simp
 ·have a:x.num≠0:=fun e=>h (Rat.num_eq_zero.1 e)
  unfold hq;rw[Rat.num_inv,Rat.den_inv,if_neg a,Int.natAbs_mul,Int.natAbs_sign_of_ne_zero a,Nat.one_mul,Int.natAbs_natCast,Nat.max_comm];exact c1B _
theorem hq_div(x y:Rat):hq (x/y)<=hq x+hq y:=by
 rw[Rat.div_def];exact c1A (hq_mul _ _) (by have:=b8N y;omega)
theorem a4y(z:Int)(k:Nat)(h:lg z.natAbs<=k)(a:1<=k):hq (z:Rat)<=k:=by
 unfold hq;rw[Rat.num_intCast,Rat.den_intCast,a3I];exact Nat.max_le.2 ⟨h,a⟩
theorem a9v(s:Bool)(m d:List Nat)(k:Nat)(f:Dig m)(hd:Dig d)(i:m.length<=k)(j:d.length<=k)(c:1<=k):hq (b2y s m d)<=k:=by
 cases e:a1A s m d
 ·rw[a3S e,a0U];exact c
 ·have b:=a7b.of_valid f hd e
  have g:=b.1.len;have a:=b.2.len;unfold hq;refine Nat.max_le.2 ⟨by omega,?_⟩;unfold dn at a;split at a
  ·rename_i h;rw[h,a3I];exact c
  ·omega
theorem a7b.lowest{s:Bool}{n d:List Nat}{z:Int}{k:Nat}(f:k≠0)(p:s=decide (z<0))(o:a0M n (z.natAbs/Nat.gcd z.natAbs k))(hd:a0M d (k/Nat.gcd z.natAbs k)):a7b s n (if k/Nat.gcd z.natAbs k=1 then[]else d) (mkRat z k):=by
 have m:0<Nat.gcd z.natAbs k:=Nat.gcd_pos_of_pos_right _ (by omega);have e:(mkRat z k).num=z/(Nat.gcd z.natAbs k:Nat):=by rw[Rat.num_mkRat,if_neg f,Nat.gcd_comm]
 have i:(mkRat z k).den=k/Nat.gcd z.natAbs k:=by rw[Rat.den_mkRat,if_neg f,Nat.gcd_comm]
 have a:((Nat.gcd z.natAbs k:Nat):Int)∣z:=Int.ofNat_dvd_left.2 (Nat.gcd_dvd_left _ _);have j:(mkRat z k).num.natAbs=z.natAbs/Nat.gcd z.natAbs k:=by rw[e,Int.natAbs_ediv_of_dvd a,Int.natAbs_natCast]
 refine⟨⟨?_,by rw[j];exact o⟩,?_⟩
 ·rw[p,Bool.eq_iff_iff]
  simp only[decide_eq_true_eq];rw[e];obtain⟨g,b⟩:=c1F (Nat.gcd z.natAbs k);rw[b]at a m |-;obtain⟨c,rfl⟩:=a;rw[Int.mul_ediv_cancel_left _ (by omega)];constructor
  ·intro h
   by_cases l:c<0
   ·exact l
   ·have:=Int.mul_nonneg (Int.natCast_nonneg g) (show 0<=c by omega);omega
  ·intro h
   exact Int.mul_neg_of_pos_of_neg (by omega) h
 ·unfold dn
  rw[i];split
  ·exact a0M.nil
  ·exact hd
def HB(B:Nat)(m:Mat):Prop:=∀i j,hq (ent m i j)<=B
theorem HB.pos{B:Nat}{m:Mat}(h:HB B m):1<=B:=c1A (a7o _) (h 0 0)
theorem HB.mono{B C:Nat}{m:Mat}(h:HB B m)(a:B<=C):HB C m:=fun i j=>c1A (h i j) a
theorem HB.swap{n c B:Nat}{m:Mat}(h:HB B m)(d:Shp n c m){i k:Nat}(a:i<n)(b:k<n):HB B (a1e m i k):=fun r j=>by
 rw[a3v d a b];split
 ·exact h _ _
 ·split
  ·exact h _ _
  ·exact h _ _
theorem b7b{x y z u:Rat}{B:Nat}(f:hq x<=B)(g:hq y<=B)(hz:hq z<=B)(e:hq u<=B):hq (y/z)<=2*B/\hq (y/z*u)<=3*B/\hq (x - y/z*u)<=5*B:=by
 have a:=hq_div y z;have b:=hq_mul (y/z) u;have c:=a3J x (y/z*u);have d:=a7o x;omega
theorem HB.clear{n c B:Nat}{m:Mat}(h:HB B m)(a:Shp n c m){t:Nat}(b:t<n)(col s:Nat):HB (5*B) (clear m t col s):=fun i j=>by
 rw[a4N a b];split
 ·exact(b7b (h _ _) (h _ _) (h _ _) (h _ _)).2.2
 ·have:=h i j;omega
theorem HB.eN{n c B:Nat}{m:Mat}(h:HB B m)(hs:Shp n c m)(k:Nat):HB (5^(eN m k).2.1.length*B) (eN m k).1:=by
 induction k with
 |zero=>simpa[YtjmnhbebpffoaaaGreat.eN]using h
 |succ k ih=>
  have hk:=a6c hs k
  show HB (5^(a6p (YtjmnhbebpffoaaaGreat.eN m k) k).2.1.length*B) (a6p (YtjmnhbebpffoaaaGreat.eN m k) k).1
  generalize YtjmnhbebpffoaaaGreat.eN m k=s at ih hk |-;obtain⟨M,p,odd⟩:=s;have hM:Shp n c M:=hk.shp;have hl:=hM.1;have hle:p.length<=n:=hk.ech.le;unfold a6p
  dsimp only at ih |-
  split
  ·exact ih
  ·split
   ·exact ih
   ·rename_i e _ q hz
    obtain⟨h1,h2⟩:=a3P hz;have:=(ih.swap hM (show p.length<n by omega) (show p.length+q<n by omega)).clear (hM.swap (by omega) (by omega)) (show p.length<n by omega) k M.length;refine this.mono ?_;rw[List.length_append,List.length_singleton,Nat.pow_succ,Nat.mul_comm _ 5,Nat.mul_assoc];exact c1B _
theorem HB.divL{n c B:Nat}{m:Mat}(h:HB B m)(b:Shp n c m){i:Nat}(a:i<n)(col:Nat):HB (2*B) (divL m i col):=fun k j=>by
 rw[a3w b a];split
 ·have:=hq_div (ent m i j) (ent m i col);have:=h i j;have:=h i col;omega
 ·have:=h k j;omega
theorem b4D{x y z u:Rat}{B:Nat}(f:hq x<=B)(g:hq y<=B)(hz:hq z<=2*B)(e:hq u<=2*B):hq (y/z)<=3*B/\hq (y/z*u)<=5*B/\hq (x - y/z*u)<=7*B:=by
 have a:=hq_div y z;have b:=hq_mul (y/z) u;have c:=a3J x (y/z*u);have d:=a7o x;omega
theorem HB.dStep{n c B:Nat}{m:Mat}(h:HB B m)(b:Shp n c m){t:Nat}(a:t<n)(col s:Nat):HB (7*B) (above (YtjmnhbebpffoaaaGreat.divL m t col) t col s):=fun i j=>by
 have hd:=b.divL a col;have d:=h.divL b a col;rw[a4O hd a];split
 ·refine(b4D ?_ ?_ (d _ _) (d _ _)).2.2
  ·rw[a3w b a,if_neg (by omega)];exact h _ _
  ·rw[a3w b a,if_neg (by omega)];exact h _ _
 ·have:=d i j;omega
theorem HB.dN{n c B:Nat}{m:Mat}{p:List Nat}(h:HB B m)(hs:Shp n c m)(he:Ech n c (ent m) p)(t:Nat)(ht:t<=p.length):HB (7^t*B) (dN m p t):=by
 induction t with
 |zero=>simpa[YtjmnhbebpffoaaaGreat.dN]using h
 |succ t ih=>
  have hk:=b6S hs he t (by omega);have hle:=he.le;refine((ih (by omega)).dStep hk.shp (show t<n by omega) (p.getD t 0) t).mono ?_;rw[Nat.pow_succ,Nat.mul_comm _ 7,Nat.mul_assoc];exact c1B _
theorem HB.pv{n c B:Nat}{m:Mat}(h:HB B m)(b:Shp n c m){i:Nat}(a:i<n)(col:Nat):HB (3*B) (pv m i col):=fun k j=>by
 rw[b2m b a];split
 ·have d:=hq_mul (ent m i j) (1/ent m i col);have e:=hq_div 1 (ent m i col);have:=h i j;have:=h i col;have:=a7o (ent m i j)
  have f:hq 1=1:=by decide+kernel
  omega
 ·have:=h k j;omega
theorem HB.out{n c B:Nat}{m:Mat}(h:HB B m)(d:Shp n c m){t:Nat}(b:t<n)(col s:Nat):HB (6*B) (YtjmnhbebpffoaaaGreat.out (YtjmnhbebpffoaaaGreat.pv m t col) t col s):=fun i j=>by
 have hd:=d.pv b col;have f:=h.pv d b col;rw[b0o hd b];split
 ·rename_i a
  have e:∀j,ent (YtjmnhbebpffoaaaGreat.pv m t col) i j=ent m i j:=fun j=>by rw[b2m d b,if_neg a.1]
  rw[e,e];have g:=hq_mul (ent (YtjmnhbebpffoaaaGreat.pv m t col) t j) (- ent m i col);have k:=a7p (ent m i j) (ent (YtjmnhbebpffoaaaGreat.pv m t col) t j* - ent m i col);rw[a5R]at g;have:=f t j;have:=h i j;have:=h i col;have:=h.pos;omega
 ·have:=f i j;omega
theorem HB.rN{n c B:Nat}{m:Mat}(h:HB B m)(hs:Shp n c m)(k:Nat):HB (6^(rN m k).2.1.length*B) (rN m k).1/\hq (rN m k).2.2<=6^(rN m k).2.1.length*B:=by
 induction k with
 |zero=>exact⟨by simpa[YtjmnhbebpffoaaaGreat.rN]using h,by simp[YtjmnhbebpffoaaaGreat.rN];exact h.pos⟩
 |succ k ih=>
  have hk:=a6d hs k
  show HB (6^(a6q (YtjmnhbebpffoaaaGreat.rN m k) k).2.1.length*B) (a6q (YtjmnhbebpffoaaaGreat.rN m k) k).1/\hq (a6q (YtjmnhbebpffoaaaGreat.rN m k) k).2.2<=6^(a6q (YtjmnhbebpffoaaaGreat.rN m k) k).2.1.length*B
  generalize YtjmnhbebpffoaaaGreat.rN m k=s at ih hk |-;obtain⟨M,p,fac⟩:=s;have hM:Shp n c M:=hk.shp;have hl:=hM.1;have hle:p.length<=n:=hk.ref.le;unfold a6q
  dsimp only at ih |-
  split
  ·exact ih
  ·rename_i e q hz
   obtain⟨h1,h2⟩:=a3P hz;have hsw:=(ih.1.swap hM (show p.length+q<n by omega) (show p.length<n by omega));have:=hsw.out (hM.swap (by omega) (by omega)) (show p.length<n by omega) k M.length;have he:6*(6^p.length*B)=6^(p++[k]).length*B:=by
    rw[List.length_append,List.length_singleton,Nat.pow_succ,Nat.mul_comm _ 6,Nat.mul_assoc]
   refine⟨this.mono (Nat.le_of_eq he),?_⟩
   dsimp only
   rw[<-he];have h3:=hsw p.length k;have h4:hq (if q=0 then fac else -fac)<=6^p.length*B:=by
    split
    ·exact ih.2
    ·rw[a5R];exact ih.2
   have h5:=hq_mul (if q=0 then fac else -fac) (ent (a1e M (p.length+q) p.length) p.length k);omega
def b2h(m:Mat)(c:Nat):Prop:=∃B,7*B<=68719476736/\(∀j,j<=c->HB B (eN m j).1)/\∀t,t<=(eN m c).2.1.length->HB B (dN (eN m c).1 (eN m c).2.1 t)
theorem a6t(a:Nat){i n:Nat}(b:0<a)(h:i<=n):a^i<=a^n:=Nat.pow_le_pow_right b h
theorem b7c{n c B:Nat}{m:Mat}(b:Shp n c m)(h:HB B m)(e:7*(35^n*B)<=68719476736):b2h m c:=by
 have a:∀j,(eN m j).2.1.length<=n:=fun j=>(a6c b j).ech.le;refine⟨35^n*B,e,fun j _=>(h.eN b j).mono (Nat.mul_le_mul_right _ ?_),fun t d=>(((h.eN b c).dN (a6c b c).shp (a6c b c).ech t d)).mono ?_⟩
 ·exact c1A (a6t 5 (by omega) (a j)) (Nat.pow_le_pow_left (by omega) n)
 ·rw[<-Nat.mul_assoc]
  refine Nat.mul_le_mul_right _ ?_;rw[show(35:Nat)=7*5 from rfl,Nat.mul_pow];exact Nat.mul_le_mul (a6t 7 (by omega) (c1A d (a c))) (a6t 5 (by omega) (a c))
def b7d(m:Mat)(c:Nat):Prop:=∃B,7*B<=68719476736/\∀j,j<=c->HB B (eN m j).1
theorem b2h.e{m:Mat}{c:Nat}(h:b2h m c):b7d m c:=let ⟨B,a,b,_⟩:=h;⟨B,a,b⟩
end Go.Proofs.YtjmnhbebpffoaaaGreat
