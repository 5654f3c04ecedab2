/- Parts of a proof: each theorem states what it proves, and its conditions. -/
namespace Go.Lin
def sm:Nat->(Nat->Rat)->Rat
 |0,_=>0
 |n+1,f=>sm n f+f n
theorem a0s{n:Nat}{f g:Nat->Rat}(h:∀i,i<n->f i=g i):sm n f=sm n g:=by
 induction n with
 |zero=>rfl
 |succ n ih=>unfold sm;rw[ih fun i hi=>h i (by omega),h n (by omega)]
theorem a3p{n:Nat}{f:Nat->Rat}(h:∀i,i<n->f i=0):sm n f=0:=by
 induction n with
 |zero=>rfl
 |succ n ih=>unfold sm;rw[ih fun i hi=>h i (by omega),h n (by omega)];grind
theorem a5g(n:Nat)(f g:Nat->Rat):sm n (fun i=>f i+g i)=sm n f+sm n g:=by
 induction n with
 |zero=>unfold sm;grind
 |succ n ih=>unfold sm;rw[ih];grind
theorem a2G(n:Nat)(a:Rat)(f:Nat->Rat):sm n (fun i=>a*f i)=a*sm n f:=by
 induction n with
 |zero=>unfold sm;grind
 |succ n ih=>unfold sm;rw[ih];grind
theorem b0L(n m:Nat)(f:Nat->Nat->Rat):sm n (fun i=>sm m (fun j=>f i j))=sm m (fun j=>sm n (fun i=>f i j)):=by
 induction n with
 |zero=>simp only[sm];rw[a3p];intros;rfl
 |succ n ih=>simp only[sm];rw[ih,a5g]
theorem a2m{n:Nat}{f:Nat->Rat}(k:Nat)(hk:k<n)(h:∀i,i<n->i≠k->f i=0):sm n f=f k:=by
 induction n with
 |zero=>omega
 |succ n ih=>
  unfold sm;by_cases e:k=n
  ·subst e;rw[a3p fun i hi=>h i (by omega) (by omega)];grind
  ·rw[ih (by omega) fun i hi hik=>h i (by omega) hik,h n (by omega) (by omega)];grind
theorem b4w(n:Nat)(f g:Nat->Rat):sm n (fun i=>f i - g i)=sm n f - sm n g:=by
 induction n with
 |zero=>unfold sm;grind
 |succ n ih=>unfold sm;rw[ih];grind
theorem b5c{n:Nat}{f g:Nat->Rat}(k:Nat)(b:k<n)(h:∀i,i<n->i≠k->f i=g i)(a:f k=g k):sm n f=sm n g:=
 a0s fun i hi=>by
             by_cases e:i=k
             ·subst e;exact a
             ·exact h i hi e
theorem b4x{n:Nat}{f g:Nat->Rat}(i k:Nat)(hi:i<n)(l:k<n)(d:i≠k)(h:∀r,r<n->r≠i->r≠k->f r=g r)(m:f i+f k=g i+g k):sm n f=sm n g:=by
 have e:sm n (fun r=>f r - g r)=0:=by
  have j:∀r,r<n->(fun r=>f r - g r) r=(fun r=>(if r=i then f i - g i else 0)+(if r=k then f k - g k else 0)) r:=by
   intro r c
   show f r - g r=_
   by_cases a:r=i
   ·subst a;simp[d];grind
   ·by_cases b:r=k
    ·subst b;simp[a];grind
    ·simp[a,b];rw[h r c a b];grind
  rw[a0s j,a5g,a2m i hi (fun r _ c=>by simp[c]),a2m k l (fun r _ c=>by simp[c])];simp;grind
 rw[b4w]at e;grind
abbrev F2:=Nat->Nat->Rat
def Eqm(n c:Nat)(f g:F2):Prop:=∀i,i<n->∀j,j<c->f i j=g i j
def Nul(n c:Nat)(f:F2)(x:Nat->Rat):Prop:=∀i,i<n->sm c (fun j=>f i j*x j)=0
inductive RE (n c:Nat):F2->F2->Rat->Prop
 |same {f g:F2} (h:Eqm n c f g):RE n c f g 1
 |swap {f g:F2} (i k:Nat) (hi:i<n) (hk:k<n) (hik:i≠k) (h1:∀j,j<c->g i j=f k j) (h2:∀j,j<c->g k j=f i j) (h3:∀r,r<n->r≠i->r≠k->∀j,j<c->g r j=f r j):RE n c f g (-1)
 |scale {f g:F2} (i:Nat) (a:Rat) (hi:i<n) (ha:a≠0) (h1:∀j,j<c->g i j=a*f i j) (h3:∀r,r<n->r≠i->∀j,j<c->g r j=f r j):RE n c f g a
 |add {f g:F2} (i k:Nat) (a:Rat) (hi:i<n) (hk:k<n) (hik:i≠k) (h1:∀j,j<c->g i j=f i j+a*f k j) (h3:∀r,r<n->r≠i->∀j,j<c->g r j=f r j):RE n c f g 1
 |trans {f g h:F2} {a b:Rat} (h1:RE n c f g a) (h2:RE n c g h b):RE n c f h (a*b)
theorem RE.nul{n c:Nat}{f g:F2}{d:Rat}(h:RE n c f g d)(x:Nat->Rat):Nul n c f x↔Nul n c g x:=by
 induction h with
 |same h=>
  constructor
  ·intro hn i hi;rw[<-hn i hi];exact a0s fun j hj=>by rw[h i hi j hj]
  ·intro hn i hi;rw[<-hn i hi];exact a0s fun j hj=>by rw[h i hi j hj]
 |swap i k hi hk hik h1 h2 h3=>
  constructor
  ·intro hn r hr
   by_cases a:r=i
   ·subst a;rw[<-hn k hk];exact a0s fun j hj=>by rw[h1 j hj]
   ·by_cases b:r=k
    ·subst b;rw[<-hn i hi];exact a0s fun j hj=>by rw[h2 j hj]
    ·rw[<-hn r hr];exact a0s fun j hj=>by rw[h3 r hr a b j hj]
  ·intro hn r hr
   by_cases a:r=i
   ·subst a;rw[<-hn k hk];exact a0s fun j hj=>by rw[h2 j hj]
   ·by_cases b:r=k
    ·subst b;rw[<-hn i hi];exact a0s fun j hj=>by rw[h1 j hj]
    ·rw[<-hn r hr];exact a0s fun j hj=>by rw[h3 r hr a b j hj]
 |@scale f g i a hi ha h1 h3=>
  have key:sm c (fun j=>g i j*x j)=a*sm c (fun j=>f i j*x j):=by
   rw[<-a2G];exact a0s fun j hj=>by rw[h1 j hj];grind
  constructor
  ·intro hn r hr
   by_cases e:r=i
   ·subst e;rw[key,hn r hr];grind
   ·rw[<-hn r hr];exact a0s fun j hj=>by rw[h3 r hr e j hj]
  ·intro hn r hr
   by_cases e:r=i
   ·subst e;have:=hn r hr;rw[key]at this;rcases Rat.mul_eq_zero.1 this with h|h
    ·contradiction
    ·exact h
   ·rw[<-hn r hr];exact a0s fun j hj=>by rw[h3 r hr e j hj]
 |@add f g i k a hi hk hik h1 h3=>
  have key:sm c (fun j=>g i j*x j)=sm c (fun j=>f i j*x j)+a*sm c (fun j=>f k j*x j):=by
   rw[<-a2G,<-a5g];exact a0s fun j hj=>by rw[h1 j hj];grind
  constructor
  ·intro hn r hr
   by_cases e:r=i
   ·subst e;rw[key,hn r hr,hn k hk];grind
   ·rw[<-hn r hr];exact a0s fun j hj=>by rw[h3 r hr e j hj]
  ·intro hn r hr
   by_cases e:r=i
   ·subst e
    have h4:=hn r hr;rw[key]at h4;have h5:=hn k hk;rw[show sm c (fun j=>g k j*x j)=sm c (fun j=>f k j*x j)from a0s fun j hj=>by rw[h3 k hk (by omega) j hj]]at h5;rw[h5]at h4;grind
   ·rw[<-hn r hr];exact a0s fun j hj=>by rw[h3 r hr e j hj]
 |trans _ _ ih1 ih2=>exact ih1.trans ih2
def cmb(n:Nat)(f:F2)(y:Nat->Rat)(j:Nat):Rat:=sm n fun i=>y i*f i j
def LI(n c:Nat)(f:F2):Prop:=∀y:Nat->Rat,(∀j,j<c->cmb n f y j=0)->∀i,i<n->y i=0
theorem RE.li{n c:Nat}{f g:F2}{d:Rat}(h:RE n c f g d)(hf:LI n c f):LI n c g:=by
 induction h with
 |same h=>
  intro y hy;exact hf y fun j hj=>by rw[<-hy j hj];exact a0s fun i hi=>by rw[h i hi j hj]
 |@swap f g i k hi hk hik h1 h2 h3=>
  intro y hy;have:=hf (fun r=>if r=i then y k else if r=k then y i else y r) fun j hj=>by
   rw[<-hy j hj];refine b4x i k hi hk hik (fun r hr a b=>?_) ?_
   ·simp[a,b,h3 r hr a b j hj]
   ·simp[hik.symm,h1 j hj,h2 j hj];grind
  intro r hr;by_cases a:r=i
  ·subst a;simpa[hik.symm]using this k hk
  ·by_cases b:r=k
   ·subst b;simpa using this i hi
   ·simpa[a,b]using this r hr
 |@scale f g i a hi ha h1 h3=>
  intro y hy;have:=hf (fun r=>if r=i then a*y i else y r) fun j hj=>by
   rw[<-hy j hj];refine b5c i hi (fun r hr e=>?_) ?_
   ·simp[e,h3 r hr e j hj]
   ·simp[h1 j hj];grind
  intro r hr;by_cases e:r=i
  ·subst e
   have h4:=this r hr;simp only[if_true]at h4;rcases Rat.mul_eq_zero.1 h4 with h4|h4
   ·contradiction
   ·exact h4
  ·simpa[e]using this r hr
 |@add f g i k a hi hk hik h1 h3=>
  intro y hy;have:=hf (fun r=>if r=k then y k+a*y i else y r) fun j hj=>by
   rw[<-hy j hj];refine b4x i k hi hk hik (fun r hr a b=>?_) ?_
   ·simp[b,h3 r hr a j hj]
   ·simp[hik,h1 j hj,h3 k hk hik.symm j hj];grind
  intro r hr;have hyi:y i=0:=by simpa[hik]using this i hi
  by_cases e:r=k
  ·subst e
   have h4:=this r hr;simp[hyi]at h4;grind
  ·simpa[e]using this r hr
 |trans _ _ ih1 ih2=>exact ih2 (ih1 hf)
structure Rref (n c:Nat) (f:F2) (p:List Nat):Prop where
 le:p.length<=n
 lt:∀i (hi:i<p.length),p[i]<c
 inc:∀i k (hik:i<k) (hk:k<p.length),p[i]<p[k]
 left:∀i (hi:i<p.length),∀j,j<p[i]->f i j=0
 one:∀i (hi:i<p.length),f i p[i]=1
 zero:∀k (hk:k<p.length),∀i,i<n->i≠k->f i p[k]=0
 below:∀i,p.length<=i->i<n->∀j,j<c->f i j=0
def nv(f:F2)(p:List Nat)(j:Nat):Nat->Rat:=fun x=>if x=j then 1 else match p.findIdx? (· ==x)with|some i=> - f i j|none=>0
theorem Rref.idx{n c:Nat}{f:F2}{p:List Nat}(h:Rref n c f p)(i:Nat)(hi:i<p.length):p.findIdx? (· ==p[i])=some i:=by
 rw[List.findIdx?_eq_some_iff_getElem];refine⟨hi,by simp,fun j a=>?_⟩;have:=h.inc j i a hi;simp;omega
theorem b2Q{p:List Nat}{x:Nat}(h:x∉p):p.findIdx? (· ==x)=none:=by
 rw[List.findIdx?_eq_none_iff];intro y a;simp;rintro rfl;exact h a
theorem Rref.nv_piv{n c:Nat}{f:F2}{p:List Nat}(h:Rref n c f p){j:Nat}(a:j∉p)(i:Nat)(hi:i<p.length):nv f p j p[i]= - f i j:=by
 unfold nv;rw[if_neg (by rintro e;exact a (e▸List.getElem_mem _)),h.idx i hi]
theorem a4M{f:F2}{p:List Nat}(j:Nat):nv f p j j=1:=by simp[nv]
theorem a5E{f:F2}{p:List Nat}{j x:Nat}(hx:x∉p)(a:x≠j):nv f p j x=0:=by
 unfold nv;rw[if_neg a,b2Q hx]
theorem Rref.row{n c:Nat}{f:F2}{p:List Nat}(h:Rref n c f p)(i:Nat)(hi:i<p.length)(x:Nat->Rat):sm c (fun j=>f i j*x j)=x p[i]+sm c (fun j=>if j∈p then 0 else f i j*x j):=by
 have e:sm c (fun j=>f i j*x j)=sm c (fun j=>(if j=p[i]then x p[i]else 0)+(if j∈p then 0 else f i j*x j)):=by
  refine a0s fun j l=>?_;by_cases g:j∈p
  ·obtain⟨k,m,rfl⟩:=List.getElem_of_mem g
   by_cases b:i=k
   ·subst b;simp[h.one i hi];grind
   ·have d:p[k]≠p[i]:=by
     rcases Nat.lt_or_gt_of_ne b with a|a
     ·have:=h.inc i k a m;omega
     ·have:=h.inc k i a hi;omega
    simp[d,h.zero k m i (Nat.lt_of_lt_of_le hi h.le) b];grind
  ·have d:j≠p[i]:=by rintro rfl;exact g (List.getElem_mem _)
   simp[g,d];grind
 rw[e,a5g,a2m p[i] (h.lt i hi) (fun j _ l=>by simp[l])];simp
theorem Rref.nv_nul{n c:Nat}{f:F2}{p:List Nat}(h:Rref n c f p){j:Nat}(g:j∉p)(b:j<c):Nul n c f (nv f p j):=by
 intro i hi;by_cases a:i<p.length
 ·rw[h.row i a,h.nv_piv g i a,a2m j b]
  ·simp[g,a4M];grind
  ·intro k _ d
   by_cases e:k∈p
   ·simp[e]
   ·simp[e,a5E e d]
 ·exact a3p fun k l=>by rw[h.below i (by omega) hi k l];grind
theorem Rref.nv_supp{n c:Nat}{f:F2}{p:List Nat}(h:Rref n c f p){j:Nat}(d:j∉p){x:Nat}(hx:j<x):nv f p j x=0:=by
 by_cases b:x∈p
 ·obtain⟨k,a,rfl⟩:=List.getElem_of_mem b
  rw[h.nv_piv d k a,h.left k a j hx];grind
 ·exact a5E b (by omega)
theorem Rref.sub{n c:Nat}{f g:F2}{p q:List Nat}(i:Rref n c f p)(b:Rref n c g q)(m:∀x,Nul n c f x->Nul n c g x)(j:Nat)(l:j∈q):j∈p:=by
 refine Classical.byContradiction fun d=>?_;obtain⟨k,e,rfl⟩:=List.getElem_of_mem l;have h:=m _ (i.nv_nul d (b.lt k e)) k (Nat.lt_of_lt_of_le e b.le);rw[a2m q[k] (b.lt k e)]at h
 ·rw[b.one k e,a4M]at h;grind
 ·intro x _ hx
  rcases Nat.lt_or_gt_of_ne hx with a|a
  ·rw[b.left k e x a];grind
  ·rw[i.nv_supp d a];grind
theorem b0M:∀(p q:List Nat),p.Pairwise (· < ·)->q.Pairwise (· < ·)->(∀x,x∈p↔x∈q)->p=q
 | [],[],_,_,_=>rfl
 | [],b::q,_,_,h=>by have:=(h b).2 (by simp);simp at this
 |a::p,[],_,_,h=>by have:=(h a).1 (by simp);simp at this
 |a::p,b::q,hp,hq,h=>by
  rw[List.pairwise_cons]at hp hq;have hab:a=b:=by
   have h1:=(h a).1 (by simp);have h2:=(h b).2 (by simp);simp at h1 h2;rcases h1 with h1|h1
   ·exact h1
   ·rcases h2 with h2|h2
    ·exact h2.symm
    ·have:=hq.1 a h1;have:=hp.1 b h2;omega
  subst hab;rw[b0M p q hp.2 hq.2];intro x;have h3:=h x;simp at h3;constructor
  ·intro hx
   have:=hp.1 x hx;rcases h3.1 (.inr hx)with e|e
   ·omega
   ·exact e
  ·intro hx
   have:=hq.1 x hx;rcases h3.2 (.inr hx)with e|e
   ·omega
   ·exact e
theorem Rref.pw{n c:Nat}{f:F2}{p:List Nat}(h:Rref n c f p):p.Pairwise (· < ·):=by
 rw[List.pairwise_iff_getElem];intro i j hi b a;exact h.inc i j a b
theorem Rref.unique{n c:Nat}{f g:F2}{p q:List Nat}(d:Rref n c f p)(l:Rref n c g q)(r:∀x,Nul n c f x↔Nul n c g x):p=q/\Eqm n c f g:=by
 have t:p=q:=b0M p q d.pw l.pw fun x=>⟨l.sub d (fun x h=>(r x).2 h) x,d.sub l (fun x h=>(r x).1 h) x⟩;subst t;refine⟨rfl,fun i hi j m=>?_⟩;by_cases a:i<p.length
 ·by_cases b:j∈p
  ·obtain⟨k,v,rfl⟩:=List.getElem_of_mem b
   by_cases e:i=k
   ·subst e;rw[d.one i a,l.one i a]
   ·rw[d.zero k v i hi e,l.zero k v i hi e]
  ·have u:=(r _).1 (d.nv_nul b m) i hi
   rw[l.row i a,d.nv_piv b i a,a2m j m]at u
   ·simp[b,a4M]at u;grind
   ·intro k _ o
    by_cases s:k∈p
    ·simp[s]
    ·simp[s,a5E s o]
 ·rw[d.below i (by omega) hi j m,l.below i (by omega) hi j m]
theorem RE.cast{n c:Nat}{f g:F2}{a b:Rat}(h:RE n c f g a)(e:a=b):RE n c f g b:=e▸h
theorem RE.then_{n c:Nat}{f g h:F2}{a b d:Rat}(i:RE n c f g a)(j:RE n c g h b)(e:a*b=d):RE n c f h d:=e▸i.trans j
theorem RE.addmany{n c:Nat}{f g:F2}(k:Nat)(hk:k<n)(a:Nat->Rat)(h1:∀i,i<n->i≠k->∀j,j<c->g i j=f i j+a i*f k j)(h2:∀j,j<c->g k j=f k j):RE n c f g 1:=by
 have key:∀t,t<=n->RE n c f (fun i j=>if i<t then g i j else f i j) 1:=by
  intro t
  induction t with
  |zero=>intro _;exact .same fun i _ j _=>by simp
  |succ t ih=>
   intro ht;refine(ih (by omega)).then_ (b:=1) ?_ (by grind);by_cases e:t=k
   ·subst e
    refine .same fun i hi j hj=>?_;by_cases a:i<t
    ·simp[a,show i<t+1 by omega]
    ·by_cases b:i=t
     ·subst b;simp[h2 j hj]
     ·simp[a,show¬i<t+1 by omega]
   ·refine .add t k (a t) (by omega) hk e (fun j hj=>?_) (fun r hr hrt j hj=>?_)
    ·have h3:=h1 t (by omega) e j hj
     by_cases b:k<t
     ·simp[b,h3,h2 j hj]
     ·simp[b,h3]
    ·by_cases a:r<t
     ·simp[a,show r<t+1 by omega]
     ·simp[a,show¬r<t+1 by omega]
 refine(key n (Nat.le_refl _)).then_ (.same fun i hi j hj=>?_) (by grind);simp[hi]
structure Ech (n k:Nat) (f:F2) (p:List Nat):Prop where
 le:p.length<=n
 lt:∀i (hi:i<p.length),p[i]<k
 inc:∀i k (hik:i<k) (hk:k<p.length),p[i]<p[k]
 left:∀i (hi:i<p.length),∀j,j<p[i]->f i j=0
 piv:∀i (hi:i<p.length),f i p[i]≠0
 below:∀i,p.length<=i->i<n->∀j,j<k->f i j=0
theorem Ech.nil(n:Nat)(f:F2):Ech n 0 f []:=⟨by simp,by simp,by simp,by simp,by simp,by intros;omega⟩
theorem Ech.skip{n k:Nat}{f:F2}{p:List Nat}(h:Ech n k f p)(hz:∀i,p.length<=i->i<n->f i k=0):Ech n (k+1) f p:=
 ⟨h.le,fun i hi=>Nat.lt_succ_of_lt (h.lt i hi),h.inc,h.left,h.piv,fun i hi a j b=>by
  by_cases e:j=k
  ·subst e;exact hz i hi a
  ·exact h.below i hi a j (by omega)⟩
theorem b0N{p:List Nat}{k:Nat}(h:∀i (hi:i<p.length),p[i]<k)(i:Nat)(hi:i<(p++[k]).length):(p++[k])[i]<k+1:=by
 rw[List.getElem_append];split
 ·have:=h i (by assumption);omega
 ·simp
theorem a9m{p:List Nat}{c:Nat}(h:∀i (hi:i<p.length),p[i]<c)(e:∀i k (b:i<k) (d:k<p.length),p[i]<p[k])(i k:Nat)(b:i<k)(d:k<(p++[c]).length):(p++[c])[i]<(p++[c])[k]:=by
 simp at d;rw[List.getElem_append,List.getElem_append];by_cases a:k<p.length
 ·simp[a,show i<p.length by omega];exact e i k b a
 ·simp[a,show i<p.length by omega];exact h i (by omega)
theorem Ech.push{n k:Nat}{f g:F2}{p:List Nat}(h:Ech n k f p)(o:p.length<n)(d:∀i,i<p.length->∀j,g i j=f i j)(hz:∀i,p.length<=i->i<n->∀j,j<k->g i j=0)(c:g p.length k≠0)(m:∀i,p.length<i->i<n->g i k=0):Ech n (k+1) g (p++[k]):=by
 refine⟨by simp;omega,b0N h.lt,a9m h.lt h.inc,fun i hi j b=>?_,fun i hi=>?_,fun i hi l j b=>?_⟩
 ·simp at hi
  rw[List.getElem_append]at b;by_cases a:i<p.length
  ·simp[a]at b;rw[d i a];exact h.left i a j b
  ·simp[a]at b;exact hz i (by omega) (by omega) j b
 ·simp at hi
  rw[List.getElem_append];by_cases a:i<p.length
  ·simp only[a,dite_true];rw[d i a];exact h.piv i a
  ·obtain rfl:i=p.length:=by omega
   simpa using c
 ·simp at hi
  by_cases e:j=k
  ·subst e;exact m i (by omega) l
  ·exact hz i (by omega) l j (by omega)
structure Red (n t:Nat) (f:F2) (p:List Nat):Prop where
 one:∀i (hi:i<p.length),i<t->f i p[i]=1
 zero:∀k (hk:k<p.length),k<t->∀i,i<n->i≠k->f i p[k]=0
theorem Ech.rref{n c:Nat}{f:F2}{p:List Nat}(h:Ech n c f p)(b:Red n p.length f p):Rref n c f p:=
 ⟨h.le,h.lt,h.inc,h.left,fun i hi=>b.one i hi hi,fun k a=>b.zero k a a,h.below⟩
theorem Ech.under{n c:Nat}{f:F2}{p:List Nat}(h:Ech n c f p)(k:Nat)(d:k<p.length)(i:Nat)(hi:i<n)(b:k<i):f i p[k]=0:=by
 by_cases a:i<p.length
 ·exact h.left i a _ (h.inc k i b a)
 ·exact h.below i (by omega) hi _ (h.lt k d)
theorem Red.step{n c t:Nat}{f g:F2}{p:List Nat}(h:Ech n c f p)(u:Red n t f p)(l:t<p.length)(v:∀j,g t j=f t j/f t p[t])(m:∀i,i<t->∀j,g i j=f i j - f i p[t]*g t j)(o:∀i,t<i->∀j,g i j=f i j):Ech n c g p/\Red n (t+1) g p:=by
 have z:=h.piv t l;have hz:∀j,j<p[t]->g t j=0:=fun j e=>by rw[v,h.left t l j e];grind
 have d:g t p[t]=1:=by rw[v];grind
 refine⟨⟨h.le,h.lt,h.inc,fun i hi j e=>?_,fun i hi=>?_,fun i hi y j e=>?_⟩,⟨fun i hi w=>?_,fun k s x i hi q=>?_⟩⟩
 ·rcases Nat.lt_trichotomy i t with a|a|a
  ·rw[m i a,h.left i hi j e,hz j (by have:=h.inc i t a l;omega)];grind
  ·subst a;exact hz j e
  ·rw[o i a];exact h.left i hi j e
 ·rcases Nat.lt_trichotomy i t with a|a|a
  ·rw[m i a,hz _ (h.inc i t a l)];have:=h.piv i hi;grind
  ·subst a;rw[d];grind
  ·rw[o i a];exact h.piv i hi
 ·rw[o i (by omega)];exact h.below i hi y j e
 ·rcases Nat.lt_trichotomy i t with a|a|a
  ·rw[m i a,hz _ (h.inc i t a l),u.one i hi a];grind
  ·subst a;exact d
  ·omega
 ·rcases Nat.lt_trichotomy k t with b|b|b
  ·have r:g t p[k]=0:=hz _ (h.inc k t b l)
   rcases Nat.lt_trichotomy i t with a|a|a
   ·rw[m i a,r,u.zero k s b i hi q];grind
   ·subst a;exact r
   ·rw[o i a];exact u.zero k s b i hi q
  ·subst b
   rcases Nat.lt_trichotomy i k with a|a|a
   ·rw[m i a,d];grind
   ·omega
   ·rw[o i a];exact h.under k s i hi a
  ·omega
theorem Rref.skip{n k:Nat}{f:F2}{p:List Nat}(h:Rref n k f p)(hz:∀i,p.length<=i->i<n->f i k=0):Rref n (k+1) f p:=
 ⟨h.le,fun i hi=>Nat.lt_succ_of_lt (h.lt i hi),h.inc,h.left,h.one,h.zero,fun i hi a j b=>by
  by_cases e:j=k
  ·subst e;exact hz i hi a
  ·exact h.below i hi a j (by omega)⟩
theorem Rref.nil(n:Nat)(f:F2):Rref n 0 f []:=⟨by simp,by simp,by simp,by simp,by simp,by simp,by intros;omega⟩
theorem Rref.push{n k:Nat}{f g:F2}{p:List Nat}(h:Rref n k f p)(s:p.length<n)(t:f p.length k≠0)(o:∀j,g p.length j=f p.length j*(1/f p.length k))(r:∀i,i<n->i≠p.length->∀j,g i j=f i j+g p.length j* - f i k):Rref n (k+1) g (p++[k]):=by
 have hz:∀j,j<k->g p.length j=0:=fun j b=>by rw[o,h.below _ (Nat.le_refl _) s j b];grind
 have c:g p.length k=1:=by rw[o];grind
 have l:∀i,i<n->i≠p.length->g i k=0:=fun i hi e=>by rw[r i hi e,c];grind
 have hs:∀i,i<n->∀j,j<k->g i j=f i j:=fun i hi j b=>by
  by_cases e:i=p.length
  ·subst e;rw[hz j b,h.below _ (Nat.le_refl _) s j b]
  ·rw[r i hi e,hz j b];grind
 refine⟨by simp;omega,b0N h.lt,a9m h.lt h.inc,fun i hi j b=>?_,fun i hi=>?_,fun q hq i hi d=>?_,fun i hi m j b=>?_⟩
 ·simp at hi
  rw[List.getElem_append]at b;by_cases a:i<p.length
  ·simp[a]at b;rw[hs i (by omega) j (by have:=h.lt i a;omega)];exact h.left i a j b
  ·simp[a]at b;obtain rfl:i=p.length:=by omega
   exact hz j b
 ·simp at hi
  rw[List.getElem_append];by_cases a:i<p.length
  ·simp only[a,dite_true];rw[hs i (by omega) _ (h.lt i a)];exact h.one i a
  ·obtain rfl:i=p.length:=by omega
   simpa using c
 ·simp at hq
  rw[List.getElem_append];by_cases a:q<p.length
  ·simp only[a,dite_true];rw[hs i hi _ (h.lt q a)];exact h.zero q a i hi d
  ·obtain rfl:q=p.length:=by omega
   simpa using l i hi d
 ·simp at hi
  by_cases e:j=k
  ·subst e;exact l i m (by omega)
  ·rw[hs i m j (by omega)];exact h.below i (by omega) m j (by omega)
abbrev Mat:=List (List Rat)
def ent(m:Mat):F2:=fun i j=>(m.getD i []).getD j 0
def Shp(n c:Nat)(m:Mat):Prop:=m.length=n/\∀r∈m,r.length=c
theorem Shp.row{n c:Nat}{m:Mat}(h:Shp n c m){i:Nat}(hi:i<n):(m.getD i []).length=c:=by
 have:i<m.length:=by rw[h.1];exact hi
 simp[List.getD_eq_getElem?_getD,this,h.2]
theorem a4N{n c:Nat}{m:Mat}(h:Shp n c m){i j:Nat}(a:n<=i\/c<=j):ent m i j=0:=by
 unfold ent;by_cases hi:i<n
 ·have:=h.row hi
  rw[List.getD_eq_getElem?_getD,List.getElem?_eq_none (by omega)];rfl
 ·have:=h.1
  rw[List.getD_eq_getElem?_getD (l:=m),List.getElem?_eq_none (by omega)];simp
theorem Shp.ext{n c:Nat}{m e:Mat}(h:Shp n c m)(f:Shp n c e)(o:Eqm n c (ent m) (ent e)):m=e:=by
 refine List.ext_getElem (h.1.trans f.1.symm) fun i a g=>?_;have b:=h.2 _ (List.getElem_mem a);have d:=f.2 _ (List.getElem_mem g);refine List.ext_getElem (b.trans d.symm) fun j k l=>?_;have:=o i (by rw[<-h.1];exact a) j (by omega);simpa[ent,List.getD_eq_getElem?_getD,a,g,k,l]using this
theorem Shp.set{n c:Nat}{m:Mat}(h:Shp n c m)(i:Nat){r:List Rat}(b:r.length=c):Shp n c (m.set i r):=by
 refine⟨by simp[h.1],fun x hx=>?_⟩;rcases List.mem_or_eq_of_mem_set hx with a|a
 ·exact h.2 _ a
 ·rw[a];exact b
theorem a6S{m:Mat}{i:Nat}{r:List Rat}(hi:i<m.length)(k j:Nat):ent (m.set i r) k j=if k=i then r.getD j 0 else ent m k j:=by
 unfold ent;simp only[List.getD_eq_getElem?_getD,List.getElem?_set];by_cases e:k=i
 ·subst e;simp[hi]
 ·simp[e,Ne.symm e]
def rows(m:Mat)(f:Nat->List Rat->List Rat):Mat:=m.mapIdx f
theorem Shp.rows{n c:Nat}{m:Mat}(h:Shp n c m){f:Nat->List Rat->List Rat}(a:∀i,i<n->∀r:List Rat,r.length=c->(f i r).length=c):Shp n c (rows m f):=by
 refine⟨by simp[Lin.rows,h.1],fun x hx=>?_⟩;obtain⟨i,hi,rfl⟩:=List.getElem_of_mem hx;simp only[Lin.rows,List.length_mapIdx,List.getElem_mapIdx]at hi |-;exact a i (by rw[<-h.1];exact hi) _ (h.2 _ (List.getElem_mem _))
theorem a6T{m:Mat}{f:Nat->List Rat->List Rat}{i:Nat}(hi:i<m.length)(j:Nat):ent (rows m f) i j=(f i (m.getD i [])).getD j 0:=by
 simp[ent,rows,List.getD_eq_getElem?_getD,hi]
def a0S(m:Mat)(i k:Nat):Mat:=(m.set i (m.getD k [])).set k (m.getD i [])
theorem Shp.swap{n c:Nat}{m:Mat}(h:Shp n c m){i k:Nat}(hi:i<n)(a:k<n):Shp n c (a0S m i k):=(h.set i (h.row a)).set k (h.row hi)
theorem a2S{n c:Nat}{m:Mat}(h:Shp n c m){i k:Nat}(hi:i<n)(a:k<n)(r j:Nat):ent (a0S m i k) r j=if r=k then ent m i j else if r=i then ent m k j else ent m r j:=by
 unfold a0S;rw[a6S (by simp[h.1,a]),a6S (by simp[h.1,hi])];rfl
theorem a4O(m:Mat)(i:Nat)(hi:i<m.length):a0S m i i=m:=by
 unfold a0S;simp[List.getD_eq_getElem?_getD,hi]
theorem b0O{n c:Nat}{m:Mat}(h:Shp n c m){i k:Nat}(hi:i<n)(e:k<n)(d:i≠k):RE n c (ent m) (ent (a0S m i k)) (-1):=
 .swap i k hi e d (fun j _=>by rw[a2S h hi e];simp[d]) (fun j _=>by rw[a2S h hi e];simp) (fun r _ a b j _=>by rw[a2S h hi e];simp[a,b])
def a2H(row piv:List Rat)(col:Nat):List Rat:=List.zipWith (fun a x=>a - (row.getD col 0/piv.getD col 0)*x) row piv
theorem a3q(row a:List Rat)(col:Nat)(h:row.length=a.length):(a2H row a col).length=a.length:=by simp[a2H,h]
theorem a7C(row a:List Rat)(col j:Nat)(h:row.length=a.length):(a2H row a col).getD j 0=row.getD j 0 - (row.getD col 0/a.getD col 0)*a.getD j 0:=by
 unfold a2H;simp only[List.getD_eq_getElem?_getD,List.getElem?_zipWith];by_cases b:j<row.length
 ·simp[b,show j<a.length by omega]
 ·simp[show¬j<row.length by omega,show¬j<a.length by omega];grind
theorem b0m(row a:List Rat)(col:Nat)(h:row.length=a.length)(b:row.getD col 0/a.getD col 0=0):a2H row a col=row:=by
 refine List.ext_getElem (by simp[a2H,h]) fun i c d=>?_;simp only[a2H,List.getElem_zipWith,b];grind
abbrev St:=Mat×List Nat×Bool
def clear(m:Mat)(t col:Nat)(s:Nat):Mat:=rows m fun i r=>if t<i/\i<t+1+s then a2H r (m.getD t []) col else r
noncomputable def b0P(m:Mat)(t col:Nat):Option Nat:=(m.drop t).findIdx? fun r=>decide (r.getD col 0≠0)
noncomputable def a4P(s:St)(col:Nat):St:=
 if s.2.1.length=s.1.length then s else
 match b0P s.1 s.2.1.length col with
 |none=>s
 |some k=>(clear (a0S s.1 s.2.1.length (s.2.1.length+k)) s.2.1.length col s.1.length,s.2.1++[col],s.2.2 !=decide (k≠0))
noncomputable def eN(m:Mat):Nat->St
 |0=>(m,[],false)
 |k+1=>a4P (eN m k) k
theorem Shp.clear{n c:Nat}{m:Mat}(h:Shp n c m){t:Nat}(b:t<n)(col s:Nat):Shp n c (clear m t col s):=
 h.rows fun i hi r a=>by
  split
  ·rw[a3q _ _ _ (by rw[a,h.row b]),h.row b]
  ·exact a
theorem a4k{n c:Nat}{m:Mat}(h:Shp n c m){t:Nat}(d:t<n)(col s i j:Nat):ent (clear m t col s) i j=if t<i/\i<t+1+s/\i<n then ent m i j - (ent m i col/ent m t col)*ent m t j else ent m i j:=by
 by_cases hi:i<n
 ·unfold Lin.clear
  rw[a6T (by rw[h.1];exact hi)];by_cases a:t<i/\i<t+1+s
  ·simp only[a,and_self,if_true,hi]
   rw[a7C _ _ _ _ (by rw[h.row hi,h.row d])];rfl
  ·rw[if_neg a,if_neg (fun b=>a ⟨b.1,b.2.1⟩)];rfl
 ·rw[a4N (h.clear d col s) (.inl (by omega)),if_neg (by omega),a4N h (.inl (by omega))]
theorem b2R{n c:Nat}{m:Mat}(h:Shp n c m){t:Nat}(a:t<n)(col s:Nat):RE n c (ent m) (ent (clear m t col s)) 1:=
 .addmany t a (fun i=>if t<i/\i<t+1+s/\i<n then - (ent m i col/ent m t col)else 0)
  (fun i hi e j b=>by rw[a4k h a];split<;>grind) (fun j b=>by rw[a4k h a];simp)
theorem a7D{m:Mat}{t col:Nat}(h:b0P m t col=none)(i:Nat)(hi:t<=i):ent m i col=0:=by
 unfold b0P at h;rw[List.findIdx?_eq_none_iff]at h;by_cases a:i<m.length
 ·have:=h (m[i]) (by rw[List.mem_drop_iff_getElem];exact⟨i - t,by omega,by congr 1;omega⟩)
  unfold ent;simp only[List.getD_eq_getElem?_getD,a,getElem?_pos,Option.getD_some]at this |-;simpa using this
 ·unfold ent;rw[List.getD_eq_getElem?_getD (l:=m),List.getElem?_eq_none (by omega)];simp
theorem a3r{m:Mat}{t col k:Nat}(h:b0P m t col=some k):t+k<m.length/\ent m (t+k) col≠0:=by
 unfold b0P at h;rw[List.findIdx?_eq_some_iff_getElem]at h;obtain⟨c,b,_⟩:=h;simp at c;refine⟨by omega,?_⟩;unfold ent;simp only[List.getElem_drop]at b;have a:t+k<m.length:=by omega
 simp only[List.getD_eq_getElem?_getD,a,getElem?_pos,Option.getD_some]at b |-;simpa using b
structure EOk (n c k:Nat) (m:Mat) (s:St):Prop where
 shp:Shp n c s.1
 ech:Ech n k (ent s.1) s.2.1
 re:RE n c (ent m) (ent s.1) (if s.2.2 then -1 else 1)
theorem EOk.zero{n c:Nat}{m:Mat}(h:Shp n c m):EOk n c 0 m (m,[],false):=⟨h,Ech.nil _ _, .same fun _ _ _ _=>rfl⟩
theorem EOk.step{n c k:Nat}{m:Mat}{s:St}(h:EOk n c k m s):EOk n c (k+1) m (a4P s k):=by
 obtain⟨M,p,t⟩:=s;have hs:Shp n c M:=h.shp;have g:Ech n k (ent M) p:=h.ech;have v:RE n c (ent m) (ent M) (if t then -1 else 1):=h.re;have A:=hs.1;unfold a4P
 dsimp only
 split
 ·rename_i e
  exact⟨hs,g.skip fun i hi o=>by omega,v⟩
 ·rename_i e
  split
  ·rename_i hz
   exact⟨hs,g.skip fun i hi _=>a7D hz i hi,v⟩
  ·rename_i q hz
   obtain⟨z,y⟩:=a3r hz;have d:p.length<n:=by have:=g.le;omega
   have f:p.length+q<n:=by omega
   have r:=hs.swap d f;have l:=fun i j=>a2S hs d f i j;have a:=fun i j=>a4k r d k M.length i j;have u:ent (a0S M p.length (p.length+q)) p.length k≠0:=by
    rw[l];by_cases b:q=0
    ·subst b;simpa using y
    ·simp[b];exact y
   refine⟨r.clear d _ _,g.push d (fun i hi j=>?_) (fun i hi o j x=>?_) ?_ (fun i hi o=>?_),?_⟩
   ·rw[a,if_neg (by omega),l,if_neg (by omega),if_neg (by omega)]
   ·have hz:∀i,p.length<=i->i<n->ent (a0S M p.length (p.length+q)) i j=0:=fun i hi o=>by
     rw[l];split
     ·exact g.below _ (by omega) d j x
     ·split
      ·exact g.below _ (by omega) f j x
      ·exact g.below _ hi o j x
    rw[a];split
    ·rw[hz i hi o,hz p.length (Nat.le_refl _) d];grind
    ·exact hz i hi o
   ·rw[a,if_neg (by omega)];exact u
   ·rw[a,if_pos ⟨hi,by omega,o⟩];grind
   ·have w:=b2R r d k M.length
    by_cases b:q=0
    ·subst b
     rw[Nat.add_zero,a4O M _ (by omega)]at w |-;exact v.then_ w (by cases t<;>simp)
    ·exact v.then_ ((b0O hs d f (by omega)).then_ w rfl) (by cases t<;>simp[b];grind)
theorem a5y{n c:Nat}{m:Mat}(h:Shp n c m)(k:Nat):EOk n c k m (eN m k):=by
 induction k with
 |zero=>exact EOk.zero h
 |succ k ih=>exact ih.step
theorem b5d(m:Mat)(k:Nat)(h:(eN m k).2.1.length=(eN m k).1.length)(k':Nat)(hk:k<=k'):eN m k'=eN m k:=by
 induction k' with
 |zero=>
      have:k=0:=by omega
      subst this;rfl
 |succ k' ih=>
  by_cases e:k=k'+1
  ·subst e;rfl
  ·have:=ih (by omega)
   show a4P (eN m k') k'=_
   rw[this];unfold a4P;rw[if_pos h]
def divL(m:Mat)(i col:Nat):Mat:=m.set i ((m.getD i []).map (· /ent m i col))
def above(m:Mat)(i col s:Nat):Mat:=rows m fun k r=>if k<i/\k<s then a2H r (m.getD i []) col else r
def dStep(m:Mat)(i col:Nat):Mat:=above (divL m i col) i col i
theorem a7E(r:List Rat)(a:Rat)(j:Nat):(r.map (· /a)).getD j 0=r.getD j 0/a:=by
 simp only[List.getD_eq_getElem?_getD,List.getElem?_map];cases r[j]? with
 |none=>simp;grind
 |some x=>simp
theorem Shp.divL{n c:Nat}{m:Mat}(h:Shp n c m){i:Nat}(hi:i<n)(col:Nat):Shp n c (divL m i col):=h.set i (by rw[List.length_map];exact h.row hi)
theorem a2T{n c:Nat}{m:Mat}(h:Shp n c m){i:Nat}(hi:i<n)(col k j:Nat):ent (divL m i col) k j=if k=i then ent m i j/ent m i col else ent m k j:=by
 unfold divL;rw[a6S (by rw[h.1];exact hi),a7E];rfl
theorem Shp.above{n c:Nat}{m:Mat}(h:Shp n c m){t:Nat}(b:t<n)(col s:Nat):Shp n c (above m t col s):=
 h.rows fun i hi r a=>by
  split
  ·rw[a3q _ _ _ (by rw[a,h.row b]),h.row b]
  ·exact a
theorem a4l{n c:Nat}{m:Mat}(h:Shp n c m){t:Nat}(b:t<n)(col s i j:Nat):ent (above m t col s) i j=if i<t/\i<s then ent m i j - (ent m i col/ent m t col)*ent m t j else ent m i j:=by
 by_cases hi:i<n
 ·unfold Lin.above
  rw[a6T (by rw[h.1];exact hi)];by_cases a:i<t/\i<s
  ·simp only[a,and_self,if_true]
   rw[a7C _ _ _ _ (by rw[h.row hi,h.row b])];rfl
  ·rw[if_neg a,if_neg a];rfl
 ·rw[a4N (h.above b col s) (.inl (by omega)),if_neg (by omega),a4N h (.inl (by omega))]
theorem b2S{n c:Nat}{m:Mat}(h:Shp n c m){t:Nat}(a:t<n)(col s:Nat):RE n c (ent m) (ent (above m t col s)) 1:=
 .addmany t a (fun i=>if i<t/\i<s then - (ent m i col/ent m t col)else 0)
  (fun i hi e j b=>by rw[a4l h a];split<;>grind) (fun j b=>by rw[a4l h a];simp)
theorem b5e{n c:Nat}{m:Mat}(h:Shp n c m){i:Nat}(hi:i<n)(col:Nat)(a:ent m i col≠0):RE n c (ent m) (ent (divL m i col)) (1/ent m i col):=
 .scale i _ hi (by intro e;grind) (fun j _=>by rw[a2T h hi];simp;grind) (fun r _ b j _=>by rw[a2T h hi,if_neg b])
noncomputable def dN(m:Mat)(p:List Nat):Nat->Mat
 |0=>m
 |t+1=>dStep (dN m p t) t (p.getD t 0)
structure DOk (n c t:Nat) (m:Mat) (p:List Nat) (s:Mat):Prop where
 shp:Shp n c s
 ech:Ech n c (ent s) p
 red:Red n t (ent s) p
 re:∃d,RE n c (ent m) (ent s) d
theorem DOk.step{n c t:Nat}{m:Mat}{p:List Nat}{s:Mat}(h:DOk n c t m p s)(l:t<p.length):DOk n c (t+1) m p (dStep s t (p.getD t 0)):=by
 have a:t<n:=Nat.lt_of_lt_of_le l h.ech.le;have u:p.getD t 0=p[t]:=by simp[List.getD_eq_getElem?_getD,l]
 rw[u];have hd:=h.shp.divL a p[t];have q:=h.ech.piv t l;have e:=fun k j=>a2T h.shp a p[t] k j;have o:=fun i j=>a4l hd a p[t] t i j;obtain⟨d,r⟩:=h.re;have f:ent (divL s t p[t]) t p[t]=1:=by rw[e];simp;grind
 have b:∀j,ent (dStep s t p[t]) t j=ent s t j/ent s t p[t]:=fun j=>by
  unfold dStep;rw[o,if_neg (by omega),e];simp
 have:=Red.step (g:=ent (dStep s t p[t])) h.ech h.red l b (fun i hi j=>by
   rw[b];unfold dStep;rw[o,if_pos ⟨hi,hi⟩,f,e,e,e,if_neg (by omega),if_neg (by omega),if_pos rfl];grind) (fun i hi j=>by
   unfold dStep;rw[o,if_neg (by omega),e,if_neg (by omega)])
 exact⟨hd.above a _ _,this.1,this.2,_,r.trans ((b5e h.shp a _ q).trans (b2S hd a _ _))⟩
theorem b5f{n c:Nat}{m:Mat}{p:List Nat}(h:Shp n c m)(he:Ech n c (ent m) p)(t:Nat)(ht:t<=p.length):DOk n c t m p (dN m p t):=by
 induction t with
 |zero=>exact⟨h,he,⟨by intros;omega,by intros;omega⟩,1, .same fun _ _ _ _=>rfl⟩
 |succ t ih=>exact(ih (by omega)).step (by omega)
noncomputable def a1C(m:Mat)(c:Nat):Mat×List Nat:=(dN (eN m c).1 (eN m c).2.1 (eN m c).2.1.length,(eN m c).2.1)
theorem a2a{n c:Nat}{m:Mat}(h:Shp n c m):Shp n c (a1C m c).1/\Rref n c (ent (a1C m c).1) (a1C m c).2/\∃d,RE n c (ent m) (ent (a1C m c).1) d:=by
 have b:=a5y h c;have a:=b5f b.shp b.ech _ (Nat.le_refl _);obtain⟨d,e⟩:=a.re;exact⟨a.shp,a.ech.rref a.red,_,b.re.trans e⟩
abbrev Sr:=Mat×List Nat×Rat
def pv(m:Mat)(t col:Nat):Mat:=m.set t ((m.getD t []).map (· *(1/ent m t col)))
def out(m:Mat)(t col:Nat)(s:Nat):Mat:=rows m fun i r=>if i≠t/\i<s then List.zipWith (· + ·) r ((m.getD t []).map (· * - r.getD col 0))else r
noncomputable def a5F(s:Sr)(col:Nat):Sr:=
 match b0P s.1 s.2.1.length col with
 |none=>s
 |some k=>(out (pv (a0S s.1 (s.2.1.length+k) s.2.1.length) s.2.1.length col) s.2.1.length col s.1.length,s.2.1++[col],(if k=0 then s.2.2 else - s.2.2)*ent (a0S s.1 (s.2.1.length+k) s.2.1.length) s.2.1.length col)
noncomputable def rN(m:Mat):Nat->Sr
 |0=>(m,[],1)
 |k+1=>a5F (rN m k) k
theorem a5h(r:List Rat)(a:Rat)(j:Nat):(r.map (· *a)).getD j 0=r.getD j 0*a:=by
 simp only[List.getD_eq_getElem?_getD,List.getElem?_map];cases r[j]? with
 |none=>simp
 |some x=>simp
theorem b5g(a b:List Rat)(h:a.length=b.length)(j:Nat):(List.zipWith (· + ·) a b).getD j 0=a.getD j 0+b.getD j 0:=by
 simp only[List.getD_eq_getElem?_getD,List.getElem?_zipWith];by_cases c:j<a.length
 ·simp[c,show j<b.length by omega]
 ·simp[show¬j<a.length by omega,show¬j<b.length by omega];grind
theorem Shp.pv{n c:Nat}{m:Mat}(h:Shp n c m){i:Nat}(hi:i<n)(col:Nat):Shp n c (pv m i col):=h.set i (by rw[List.length_map];exact h.row hi)
theorem b0Q{n c:Nat}{m:Mat}(h:Shp n c m){i:Nat}(hi:i<n)(col k j:Nat):ent (pv m i col) k j=if k=i then ent m i j*(1/ent m i col)else ent m k j:=by
 unfold pv;rw[a6S (by rw[h.1];exact hi),a5h];rfl
theorem Shp.out{n c:Nat}{m:Mat}(h:Shp n c m){t:Nat}(b:t<n)(col s:Nat):Shp n c (out m t col s):=
 h.rows fun i hi r a=>by
  split
  ·rw[List.length_zipWith,List.length_map,a,h.row b];omega
  ·exact a
theorem a9n{n c:Nat}{m:Mat}(h:Shp n c m){t:Nat}(d:t<n)(col s i j:Nat):ent (out m t col s) i j=if i≠t/\i<s/\i<n then ent m i j+ent m t j* - ent m i col else ent m i j:=by
 by_cases hi:i<n
 ·unfold Lin.out
  rw[a6T (by rw[h.1];exact hi)];by_cases a:i≠t/\i<s
  ·rw[if_pos a,if_pos ⟨a.1,a.2,hi⟩,b5g _ _ (by rw[List.length_map,h.row hi,h.row d]),a5h];rfl
  ·rw[if_neg a,if_neg (fun b=>a ⟨b.1,b.2.1⟩)];rfl
 ·rw[a4N (h.out d col s) (.inl (by omega)),if_neg (by omega),a4N h (.inl (by omega))]
structure ROk (n c k:Nat) (m:Mat) (s:Sr):Prop where
 shp:Shp n c s.1
 ref:Rref n k (ent s.1) s.2.1
 re:∃d,RE n c (ent m) (ent s.1) d/\s.2.2*d=1
theorem ROk.step{n c k:Nat}{m:Mat}{s:Sr}(h:ROk n c k m s):ROk n c (k+1) m (a5F s k):=by
 obtain⟨M,p,H⟩:=s;have hs:Shp n c M:=h.shp;have g:Rref n k (ent M) p:=h.ref;obtain⟨d,D,hd⟩:∃d,RE n c (ent m) (ent M) d/\H*d=1:=h.re;have P:=hs.1;unfold a5F
 dsimp only
 split
 ·rename_i hz
  exact⟨hs,g.skip fun i hi _=>a7D hz i hi,d,D,hd⟩
 ·rename_i q hz
  obtain⟨O,L⟩:=a3r hz;have l:p.length<n:=by omega
  have w:p.length+q<n:=by omega
  have E:=hs.swap w l;have z:=fun i j=>a2S hs w l i j;have F:=E.pv l k;have f:=fun i j=>b0Q E l k i j;have v:=fun i j=>a9n F l k M.length i j;have x:ent (a0S M (p.length+q) p.length) p.length k≠0:=by rw[z,if_pos rfl];exact L
  have J:Rref n k (ent (a0S M (p.length+q) p.length)) p:=by
   have C:∀i,i<p.length->∀j,ent (a0S M (p.length+q) p.length) i j=ent M i j:=fun i hi j=>by
    rw[z,if_neg (by omega),if_neg (by omega)]
   have G:∀i,p.length<=i->i<n->∀j,j<k->ent (a0S M (p.length+q) p.length) i j=0:=fun i hi N j A=>by
    rw[z];split
    ·exact g.below _ (by omega) w j A
    ·split
     ·exact g.below _ (by omega) l j A
     ·exact g.below _ hi N j A
   refine⟨g.le,g.lt,g.inc,fun i hi j A=>by rw[C i hi];exact g.left i hi j A,fun i hi=>by rw[C i hi];exact g.one i hi,fun t K i hi I=>?_,G⟩;by_cases a:i<p.length
   ·rw[C i a];exact g.zero t K i hi I
   ·exact G i (by omega) hi _ (g.lt t K)
  have y:∀j,ent (out (pv (a0S M (p.length+q) p.length) p.length k) p.length k M.length) p.length j=ent (a0S M (p.length+q) p.length) p.length j*(1/ent (a0S M (p.length+q) p.length) p.length k):=fun j=>by
   rw[v,if_neg (by omega),f,if_pos rfl]
  refine⟨F.out l _ _,J.push l x y (fun i hi B j=>?_),?_⟩
  ·rw[y,v,if_pos ⟨B,by omega,hi⟩,f,f,f,if_neg B,if_neg B,if_pos rfl]
  ·have o:RE n c (ent (a0S M (p.length+q) p.length)) (ent (pv (a0S M (p.length+q) p.length) p.length k)) (1/ent (a0S M (p.length+q) p.length) p.length k):=
    .scale p.length _ l (by intro e;grind) (fun j _=>by rw[f];simp;grind) (fun r _ D j _=>by rw[f,if_neg D])
   have u:RE n c (ent (pv (a0S M (p.length+q) p.length) p.length k)) (ent (out (pv (a0S M (p.length+q) p.length) p.length k) p.length k M.length)) 1:=
    .addmany p.length l (fun i=>if i≠p.length/\i<M.length/\i<n then - ent (pv (a0S M (p.length+q) p.length) p.length k) i k else 0)
     (fun i hi e j A=>by rw[v];split<;>grind) (fun j A=>by rw[v];simp)
   by_cases b:q=0
   ·subst b
    rw[Nat.add_zero,a4O M _ (by omega)]at o u x |-;exact⟨_,D.trans (o.trans u),by simp;grind⟩
   ·exact⟨_,D.trans ((b0O hs w l (by omega)).trans (o.trans u)),by simp[b];grind⟩
theorem a8p{n c:Nat}{m:Mat}(h:Shp n c m)(k:Nat):ROk n c k m (rN m k):=by
 induction k with
 |zero=>exact⟨h,Rref.nil _ _,1, .same fun _ _ _ _=>rfl,by show(1:Rat)*1=1;grind⟩
 |succ k ih=>exact ih.step
theorem b4y{n c:Nat}{m:Mat}(h:Shp n c m):(a1C m c).1=(rN m c).1/\(a1C m c).2=(rN m c).2.1:=by
 obtain⟨b,f,d,g⟩:=a2a h;have a:=a8p h c;obtain⟨e,i,_⟩:=a.re;have:=f.unique a.ref fun x=>((g.nul x).symm.trans (i.nul x));exact⟨b.ext a.shp this.2,this.1⟩
theorem lt1{P:Nat->Prop}(h0:P 0)(i:Nat)(hi:i<1):P i:=by
 match i,hi with
 |0,_=>exact h0
theorem Ech.ge{n k:Nat}{f:F2}{p:List Nat}(h:Ech n k f p)(i:Nat)(hi:i<p.length):i<=p[i]:=by
 induction i with
 |zero=>omega
 |succ i ih=>have:=ih (by omega);have:=h.inc i (i+1) (by omega) hi;omega
theorem Rref.ge{n k:Nat}{f:F2}{p:List Nat}(h:Rref n k f p)(i:Nat)(hi:i<p.length):i<=p[i]:=by
 induction i with
 |zero=>omega
 |succ i ih=>have:=ih (by omega);have:=h.inc i (i+1) (by omega) hi;omega
theorem Rref.diag{n c:Nat}{f:F2}{p:List Nat}(h:Rref n c f p)(hp:p.length=n)(hc:∀i (hi:i<p.length),p[i]<n)(i:Nat)(hi:i<n):p[i]'(by omega)=i:=by
 have h1:∀q,q<n->∀hq:n - 1 - q<p.length,p[n - 1 - q]<=n - 1 - q:=by
  intro q
  induction q with
  |zero=>intro h0 hq;have:=hc _ hq;omega
  |succ q ih=>
   intro h0 hq;have h2:=ih (by omega) (by omega);have h3:=h.inc (n - 1 - (q+1)) (n - 1 - q) (by omega) (by omega);omega
 have h2:=h1 (n - 1 - i) (by omega) (by omega);have h3:=h.ge i (by omega);have e:n - 1 - (n - 1 - i)=i:=by omega
 simp only[e]at h2;omega
theorem Rref.unit{n c:Nat}{f:F2}{p:List Nat}(h:Rref n c f p)(d:p.length=n)(a:∀i (hi:i<p.length),p[i]<n):Eqm n n f fun i j=>if i=j then 1 else 0:=fun i hi j b=>by
 have hd:=h.diag d a j b;by_cases e:i=j
 ·subst e
  have:=h.one i (by omega);rw[hd]at this;simpa using this
 ·have:=h.zero j (by omega) i hi e;rw[hd]at this;simpa[e]using this
def mul(n:Nat)(f g:F2):F2:=fun i j=>sm n fun k=>f i k*g k j
def ofF(n c:Nat)(f:F2):Mat:=(List.range n).map fun i=>(List.range c).map (f i)
theorem b5h(n c:Nat)(f:F2):Shp n c (ofF n c f):=⟨by simp[ofF],fun r a=>by
 obtain⟨i,_,rfl⟩:=List.mem_map.1 a;simp⟩
theorem b5i(n c:Nat)(f:F2):Eqm n c (ent (ofF n c f)) f:=fun i hi j a=>by simp[ent,ofF,List.getD_eq_getElem?_getD,hi,a]
theorem RE.congr{n c:Nat}{f a g:F2}{d:Rat}(h:RE n c f g d)(e:Eqm n c a f):RE n c a g d:=(RE.same e).then_ h (by grind)
theorem a8q(n c:Nat)(f:F2):∃r p d,Rref n c r p/\RE n c f r d:=by
 obtain⟨_,a,d,b⟩:=a2a (b5h n c f);exact⟨_,_,d,a,b.congr fun i hi j e=>(b5i n c f i hi j e).symm⟩
theorem RE.factor{n c r:Nat}{f g:F2}{d:Rat}(h:RE n c f g d)(b:F2)(hf:∃a,Eqm n c f (mul r a b)):∃a,Eqm n c g (mul r a b):=by
 induction h with
 |same h=>obtain⟨a,ha⟩:=hf;exact⟨a,fun i hi j hj=>(h i hi j hj).symm.trans (ha i hi j hj)⟩
 |swap i k hi hk hik h1 h2 h3=>
  obtain⟨a,ha⟩:=hf;refine⟨fun q=>if q=i then a k else if q=k then a i else a q,fun q hq j hj=>?_⟩;by_cases e:q=i
  ·subst e;rw[h1 j hj,ha k hk j hj];simp[mul]
  ·by_cases e2:q=k
   ·subst e2;rw[h2 j hj,ha i hi j hj];simp[mul,e]
   ·rw[h3 q hq e e2 j hj,ha q hq j hj];simp[mul,e,e2]
 |scale i x hi hx h1 h3=>
  obtain⟨a,ha⟩:=hf;refine⟨fun q=>if q=i then fun k=>x*a i k else a q,fun q hq j hj=>?_⟩;by_cases e:q=i
  ·subst e;rw[h1 j hj,ha q hq j hj];simp only[mul,if_true];rw[<-a2G];exact a0s fun k _=>by grind
  ·rw[h3 q hq e j hj,ha q hq j hj];simp[mul,e]
 |add i k x hi hk hik h1 h3=>
  obtain⟨a,ha⟩:=hf;refine⟨fun q=>if q=i then fun y=>a i y+x*a k y else a q,fun q hq j hj=>?_⟩;by_cases e:q=i
  ·subst e;rw[h1 j hj,ha q hq j hj,ha k hk j hj];simp only[mul,if_true];rw[<-a2G,<-a5g];exact a0s fun k _=>by grind
  ·rw[h3 q hq e j hj,ha q hq j hj];simp[mul,e]
 |trans _ _ ih1 ih2=>exact ih2 (ih1 hf)
theorem b5j{n c r:Nat}{f g:F2}{p:List Nat}{d:Rat}(o:Rref n c g p)(h:RE n c f g d)(a b:F2)(D:Eqm n c f (mul r a b)):p.length<=r:=by
 refine Classical.byContradiction fun F=>?_;obtain⟨t,G⟩:=h.factor b ⟨a,D⟩;obtain⟨s,q,e,hs,C⟩:=a8q r p.length (fun k i=>t i k);have hq:∃j,j<p.length/\j∉q:=by
  refine Classical.byContradiction fun y=>?_;have m:∀j,j<p.length->j∈q:=fun j l=>Classical.byContradiction fun h=>y ⟨j,l,h⟩;have u:(List.range p.length).length<=q.length:=(List.nodup_range).length_le_of_subset fun j l=>m j (List.mem_range.1 l);rw[List.length_range]at u;have:=hs.le;omega
 obtain⟨j,l,w⟩:=hq;have u:=(C.nul _).2 (hs.nv_nul w l);have B:∀x,x<c->sm p.length (fun i=>nv s q j i*g i x)=0:=fun x hx=>by
  have A:sm p.length (fun i=>nv s q j i*g i x)=sm p.length (fun i=>sm r fun k=>(t i k*nv s q j i)*b k x):=a0s fun i hi=>by
   have:=o.le;rw[G i (by omega) x hx];unfold mul;rw[<-a2G];exact a0s fun k _=>by grind
  rw[A,b0L];exact a3p fun k E=>by
   have:=u k E;rw[a0s (g:=fun i=>b k x*(t i k*nv s q j i)) fun i _=>by grind,a2G,this];grind
 have z:=B p[j] (o.lt j l);rw[a2m j l fun i hi v=>by rw[o.zero j l i (by have:=o.le;omega) v];grind]at z;rw[a4M,o.one j l]at z;grind
theorem LI.full{n c:Nat}{f r:F2}{p:List Nat}{d:Rat}(b:LI n c f)(a:Rref n c r p)(h:RE n c f r d):p.length=n:=by
 have g:=a.le;refine Classical.byContradiction fun k=>?_;have:=(h.li b) (fun i=>if i=p.length then 1 else 0) (fun j e=>by
  unfold cmb;rw[a2m p.length (by omega) fun i _ hi=>by simp[hi]];rw[a.below _ (Nat.le_refl _) (by omega) j e];grind) p.length (by omega)
 simp at this
def a1Y(r:F2)(p:List Nat)(c:Nat):Mat:=((List.range c).filter (· ∉p)).map fun j=>(List.range c).map (nv r p j)
theorem b0R{r:F2}{p:List Nat}{c n:Nat}(h:Rref n c r p):(a1Y r p c).length=c - p.length:=by
 have h1:((List.range c).filter (· ∉p)).length+((List.range c).filter (· ∈p)).length=c:=by
  have key:∀l:List Nat,(l.filter (· ∉p)).length+(l.filter (· ∈p)).length=l.length:=fun l=>by
   induction l with
   |nil=>rfl
   |cons a l ih=>by_cases ha:a∈p<;>simp[ha]at ih |- <;>omega
  have:=key (List.range c);simpa using this
 have h2:(List.range c).filter (· ∈p)=p:=by
  refine b0M _ _ ?_ h.pw fun x=>?_
  ·exact List.Pairwise.filter _ List.pairwise_lt_range
  ·simp only[List.mem_filter,List.mem_range,decide_eq_true_eq]
   constructor
   ·exact fun h=>h.2
   ·intro hx
    obtain⟨i,hi,rfl⟩:=List.getElem_of_mem hx;exact⟨h.lt i hi,hx⟩
 rw[h2]at h1;simp only[a1Y,List.length_map];omega
theorem a9o(r:F2)(p:List Nat)(c:Nat):LI (a1Y r p c).length c (ent (a1Y r p c)):=by
 intro y s i hi;have d:i<((List.range c).filter (· ∉p)).length:=by simpa[a1Y]using hi
 have b:=List.getElem_mem d;rw[List.mem_filter,List.mem_range]at b;have o:=s _ b.1;have n:((List.range c).filter (· ∉p))[i]∉p:=by simpa using b.2
 have q:∀k (h:k<((List.range c).filter (· ∉p)).length),ent (a1Y r p c) k ((List.range c).filter (· ∉p))[i]=nv r p ((List.range c).filter (· ∉p))[k] ((List.range c).filter (· ∉p))[i]:=fun k h=>by
  unfold ent a1Y;rw[List.getD_eq_getElem?_getD (l:=List.map _ _),List.getElem?_map,List.getElem?_eq_getElem h];simp only[Option.map_some,Option.getD_some];rw[List.getD_eq_getElem?_getD,List.getElem?_map,List.getElem?_range b.1];rfl
 unfold cmb at o;rw[a2m i hi fun k h j=>by
  have f:k<((List.range c).filter (· ∉p)).length:=by simpa[a1Y]using h
  have m:((List.range c).filter (· ∉p))[i]≠((List.range c).filter (· ∉p))[k]:=fun e=>by
   have g:((List.range c).filter (· ∉p)).Pairwise (· < ·):=List.Pairwise.filter _ List.pairwise_lt_range;rw[List.pairwise_iff_getElem]at g;rcases Nat.lt_or_gt_of_ne j with a|a
   ·have:=g k i f d a;omega
   ·have:=g i k d f a;omega
  rw[q k f,a5E n m];grind,q i d,a4M]at o
 grind
abbrev Vec:=Nat->Rat
def dot(c:Nat)(u v:Vec):Rat:=sm c fun j=>u j*v j
def nz(c:Nat)(u:Vec):Prop:=∃j,j<c/\u j≠0
theorem a1m(c:Nat)(u v:Vec):dot c u v=dot c v u:=a0s fun j _=>by grind
theorem b5k(c:Nat)(u v x:Vec):dot c (fun j=>u j+v j) x=dot c u x+dot c v x:=by
 unfold dot;rw[<-a5g];exact a0s fun j _=>by grind
theorem b0S(c:Nat)(a:Rat)(u x:Vec):dot c (fun j=>a*u j) x=a*dot c u x:=by
 unfold dot;rw[<-a2G];exact a0s fun j _=>by grind
theorem a2C(c:Nat)(u v:Vec)(t:Rat)(x:Vec):dot c (fun j=>u j+t*v j) x=dot c u x+t*dot c v x:=by
 rw[b5k c u (fun j=>t*v j),b0S]
theorem a5G{c:Nat}{u u' v:Vec}(h:∀j,j<c->u j=u' j):dot c u v=dot c u' v:=a0s fun j a=>by rw[h j a]
theorem a2U{c:Nat}{u v:Vec}(h:∀j,j<c->u j=0):dot c u v=0:=a3p fun j a=>by rw[h j a];grind
theorem b0T{n:Nat}{f:Nat->Rat}(h:∀i,i<n->0<=f i):0<=sm n f:=by
 induction n with
 |zero=>exact Rat.le_refl
 |succ n ih=>unfold sm;have:=ih fun i hi=>h i (by omega);have:=h n (by omega);grind
theorem a8r{n:Nat}{f:Nat->Rat}(h:∀i,i<n->0<=f i)(h0:sm n f=0):∀i,i<n->f i=0:=by
 induction n with
 |zero=>intro i hi;omega
 |succ n ih=>
  unfold sm at h0;have h1:=b0T (n:=n) fun i hi=>h i (by omega);have h2:=h n (by omega);have h3:sm n f=0:=by grind
  have h4:f n=0:=by grind
  intro i hi;by_cases e:i=n
  ·subst e;exact h4
  ·exact ih (fun i hi=>h i (by omega)) h3 i (by omega)
theorem a7F(a:Rat):0<=a*a:=by
 rcases Rat.le_total (a:=0) (b:=a)with h|h
 ·exact Rat.mul_nonneg h h
 ·have:0<=(-a)*(-a):=Rat.mul_nonneg (by grind) (by grind)
  grind
theorem b2T{c:Nat}{u:Vec}(h:dot c u u=0):∀j,j<c->u j=0:=fun j a=>by
 have:=a8r (fun i _=>a7F (u i)) h j a;rcases Rat.mul_eq_zero.1 this with e|e<;>exact e
theorem b2U{c:Nat}{u:Vec}(h:¬∀j,j<c->u j=0):nz c u:=by
 apply Classical.byContradiction;intro b;exact h fun j a=>Classical.byContradiction fun e=>b ⟨j,a,e⟩
theorem nz.not{c:Nat}{u:Vec}(h:nz c u):¬∀j,j<c->u j=0:=fun k=>let ⟨j,a,e⟩:=h;e (k j a)
theorem b4z{c:Nat}{u v:Vec}(h:dot c u v≠0):nz c u:=b2U fun k=>h (a2U k)
def a4a(c:Nat)(u:Vec)(z:List Vec):Nat:=z.countP fun v=>decide (0<=dot c u v)
def a8s(c:Nat)(u:Vec)(z:List Vec):Nat:=z.countP fun v=>decide (0<dot c u v)
def onL(c:Nat)(u:Vec)(z:List Vec):List Vec:=z.filter fun v=>decide (dot c u v=0)
def a3n(c:Nat)(z:List Vec)(k:Nat):Prop:=(∃u,nz c u/\a4a c u z=k)/\∀u,nz c u->k<=a4a c u z
theorem a3n.uniq{c:Nat}{z:List Vec}{k l:Nat}(h:a3n c z k)(d:a3n c z l):k=l:=by
 obtain⟨⟨u,e,i⟩,f⟩:=h;obtain⟨⟨v,a,g⟩,b⟩:=d;have:=f v a;have:=b u e;omega
theorem b2V{P:Nat->Prop}(n:Nat)(h:P n):∃k,P k/\∀m,P m->k<=m:=by
 induction n using Nat.strongRecOn with
 |_ n ih=>
  by_cases hs:∃m,m<n/\P m
  ·obtain⟨m,h1,h2⟩:=hs;exact ih m h1 h2
  ·exact⟨n,h,fun m hm=>by
    rcases Nat.lt_or_ge m n with h1|h1
    ·exact absurd ⟨m,h1,hm⟩ hs
    ·exact h1⟩
theorem b6U{c:Nat}(d:0<c)(z:List Vec):∃k,a3n c z k:=by
 obtain⟨k,a,b⟩:=b2V (P:=fun k=>∃u,nz c u/\a4a c u z=k) (a4a c (fun _=>1) z) ⟨fun _=>1,⟨0,d,by grind⟩,rfl⟩;exact⟨k,a,fun u e=>b _ ⟨u,e,rfl⟩⟩
theorem b2W(c:Nat)(u:Vec)(z:List Vec):a4a c u z<=z.length:=List.countP_le_length
theorem a3n.le{c:Nat}{z:List Vec}{k:Nat}(h:a3n c z k):k<=z.length:=by
 obtain⟨⟨u,_,a⟩,_⟩:=h;rw[<-a];exact b2W _ _ _
def b7X(c:Nat)(u y:Vec)(z:List Vec)(e:Rat):Prop:=∀v∈z,(0<dot c u v->∀t,0<t->t<=e->0<dot c u v+t*dot c y v)/\(dot c u v<0->∀t,0<t->t<=e->dot c u v+t*dot c y v<0)
theorem b6V(a b:Rat):∃e,0<e/\(0<a->∀t,0<t->t<=e->0<a+t*b):=by
 by_cases f:0<a
 ·by_cases j:0<=b
  ·exact⟨1,by decide,fun _ t d _=>by have:=Rat.mul_nonneg (a:=t) (b:=b) (by grind) j;grind⟩
  ·have c:0< -b:=by grind
   refine⟨a/(2* -b),?_,fun _ t d g=>?_⟩
   ·rw[Rat.div_def];exact Rat.mul_pos f (Rat.inv_pos.2 (by grind))
   ·have i:t*(2* -b)<=a/(2* -b)*(2* -b):=Rat.mul_le_mul_of_nonneg_right g (by grind)
    rw[Rat.div_mul_cancel (by grind)]at i;have k:=Rat.mul_pos d c;grind
 ·exact⟨1,by decide,fun h=>absurd h f⟩
theorem b7X.le{c:Nat}{u y:Vec}{z:List Vec}{e d:Rat}(h:b7X c u y z e)(hd:d<=e):b7X c u y z d:=fun v g=>
 ⟨fun a t b f=>(h v g).1 a t b (Rat.le_trans f hd),fun a t b f=>(h v g).2 a t b (Rat.le_trans f hd)⟩
theorem b5l(c:Nat)(u y:Vec)(z:List Vec):∃e,0<e/\b7X c u y z e:=by
 induction z with
 |nil=>exact⟨1,by decide,fun v hv=>by simp at hv⟩
 |cons v z ih=>
  obtain⟨e1,h1,h2⟩:=ih;obtain⟨e2,h3,h4⟩:=b6V (dot c u v) (dot c y v);obtain⟨e3,h5,h6⟩:=b6V (-dot c u v) (-dot c y v);obtain⟨e,he,l1,l2,l3⟩:∃e,0<e/\e<=e1/\e<=e2/\e<=e3:=by
   by_cases a:e1<=e2
   ·by_cases b:e1<=e3
    ·exact⟨e1,h1,Rat.le_refl,a,b⟩
    ·exact⟨e3,h5,by grind,by grind,Rat.le_refl⟩
   ·by_cases b:e2<=e3
    ·exact⟨e2,h3,by grind,Rat.le_refl,b⟩
    ·exact⟨e3,h5,by grind,by grind,Rat.le_refl⟩
  refine⟨e,he,fun w hw=>?_⟩;rcases List.mem_cons.1 hw with rfl|hw
  ·refine⟨fun g t g1 g2=>h4 g t g1 (Rat.le_trans g2 l2),fun g t g1 g2=>?_⟩
   have:=h6 (by grind) t g1 (Rat.le_trans g2 l3);grind
  ·exact(h2.le l1) w hw
theorem b0U(c:Nat)(u u' u2:Vec)(z:List Vec)(h:∀v∈z,(0<dot c u v->0<dot c u2 v)/\(dot c u v<0->dot c u2 v<0)/\(dot c u v=0->(0<=dot c u2 v↔0<=dot c u' v))):a4a c u2 z=a8s c u z+a4a c u' (onL c u z):=by
 induction z with
 |nil=>rfl
 |cons v z ih=>
  have ih:=ih fun w hw=>h w (List.mem_cons_of_mem _ hw);obtain⟨h1,h2,h3⟩:=h v List.mem_cons_self;unfold a4a a8s onL at*;rw[List.countP_cons,List.countP_cons,List.filter_cons,ih];by_cases a:0<dot c u v
  ·have b:=h1 a
   rw[if_pos (by simp;grind),if_pos (by simpa using a),if_neg (by simp;grind)];omega
  ·by_cases b:dot c u v=0
   ·have k:=h3 b
    rw[if_neg (c:=decide (0<dot c u v)=true) (by simpa using a),if_pos (c:=decide (dot c u v=0)=true) (by simpa using b),List.countP_cons];by_cases g:0<=dot c u2 v
    ·rw[if_pos (by simpa using g),if_pos (by simpa using k.1 g)];omega
    ·rw[if_neg (by simpa using g),if_neg (by simpa using fun x=>g (k.2 x))];omega
   ·have k:=h2 (by grind)
    rw[if_neg (by simp;grind),if_neg (by simpa using a),if_neg (by simpa using b)];omega
theorem b8V{c:Nat}{u u':Vec}(o:nz c u)(z:List Vec):∃l,nz c l/\a4a c l z=a8s c u z+a4a c u' (onL c u z):=by
 obtain⟨j,m,n⟩:=o;have b:dot c u (fun i=>if i=j then 1 else 0)=u j:=by
  unfold dot;rw[a2m j m (fun i _ h=>by simp[h])];simp
 obtain⟨e,a,d⟩:=b5l c u u' ((fun i=>if i=j then 1 else 0)::z);refine⟨fun i=>u i+e*u' i,?_,b0U c u u' _ z fun v k=>⟨fun h=>?_,fun h=>?_,fun h=>?_⟩⟩
 ·have f:=d _ List.mem_cons_self
  rw[b]at f;apply b4z (v:=fun i=>if i=j then 1 else 0);rw[a2C,b];by_cases h:0<u j
  ·have:=f.1 h e a Rat.le_refl;grind
  ·have:=f.2 (by grind) e a Rat.le_refl;grind
 ·rw[a2C];exact(d v (List.mem_cons_of_mem _ k)).1 h e a Rat.le_refl
 ·rw[a2C];exact(d v (List.mem_cons_of_mem _ k)).2 h e a Rat.le_refl
 ·rw[a2C,h]
  constructor
  ·intro g
   apply Classical.byContradiction;intro p;have:=Rat.mul_pos a (show 0< - dot c u' v by grind);grind
  ·intro g;have:=Rat.mul_nonneg (Rat.le_of_lt a) g;grind
theorem a3n.lower{c:Nat}{z:List Vec}{k l:Nat}(h:a3n c z k){u:Vec}(d:nz c u)(b:a3n c (onL c u z) l):k<=a8s c u z+l:=by
 obtain⟨⟨u',f,g⟩,_⟩:=b;obtain⟨e,a,i⟩:=b8V (u':=u') d z;have:=h.2 e a;omega
def Sgn(c:Nat)(z:List Vec)(u x:Vec):Prop:=∀v∈z,(0<dot c u v->0<=dot c x v)/\(dot c u v<0->dot c x v<=0)/\(dot c u v=0->dot c x v=0)
def b0V(c:Nat)(W:Vec->Prop)(z:List Vec)(x:Vec):Prop:=W x/\nz c x/\∀y,W y->(∀v∈onL c x z,dot c y v=0)->∃t:Rat,∀j,j<c->y j=t*x j
structure Dirs (c:Nat) (z:List Vec) (W:Vec->Prop):Prop where
 lin:∀u y t,W u->W y->W (fun j=>u j+t*y j)
 zero:∀y,W y->(∀v∈z,dot c y v=0)->∀j,j<c->y j=0
 all:∀u,∃x,W x/\∀v∈z,dot c x v=dot c u v
 some_:∃u,W u/\nz c u
theorem b4A{P:Vec->Prop}(f:Vec->Rat)(z:List Vec)(h:∃v∈z,P v):∃v∈z,P v/\∀w∈z,P w->f v<=f w:=by
 induction z with
 |nil=>obtain⟨v,hv,_⟩:=h;simp at hv
 |cons a z ih=>
  by_cases hz:∃v∈z,P v
  ·obtain⟨v,h1,h2,h3⟩:=ih hz
   by_cases ha:P a/\f a<=f v
   ·exact⟨a,List.mem_cons_self,ha.1,fun w hw hp=>by
     rcases List.mem_cons.1 hw with rfl|hw
     ·exact Rat.le_refl
     ·exact Rat.le_trans ha.2 (h3 w hw hp)⟩
   ·exact⟨v,List.mem_cons_of_mem _ h1,h2,fun w hw hp=>by
     rcases List.mem_cons.1 hw with rfl|hw
     ·have:¬f w<=f v:=fun h=>ha ⟨hp,h⟩
      grind
     ·exact h3 w hw hp⟩
  ·obtain⟨v,hv,hp⟩:=h
   rcases List.mem_cons.1 hv with rfl|hv
   ·exact⟨v,List.mem_cons_self,hp,fun w hw hq=>by
     rcases List.mem_cons.1 hw with rfl|hw
     ·exact Rat.le_refl
     ·exact absurd ⟨w,hw,hq⟩ hz⟩
   ·exact absurd ⟨v,hv,hp⟩ hz
theorem a7G{α:Type}{p q:α->Bool}{l:List α}(h:∀x∈l,p x=true->q x=true){a:α}(ha:a∈l)(h1:p a=false)(h2:q a=true):l.countP p<l.countP q:=by
 induction l with
 |nil=>simp at ha
 |cons b l ih=>
  have hle:l.countP p<=l.countP q:=List.countP_mono_left fun x hx=>h x (List.mem_cons_of_mem _ hx);rw[List.countP_cons,List.countP_cons];rcases List.mem_cons.1 ha with rfl|ha
  ·rw[h1,h2];simp;omega
  ·have:=ih (fun x hx=>h x (List.mem_cons_of_mem _ hx)) ha
   have hb:=h b List.mem_cons_self;cases hp:p b<;>cases hq:q b<;>simp_all<;>omega
theorem a7H{c:Nat}{z:List Vec}{W:Vec->Prop}(hW:Dirs c z W):∀(n:Nat) (u:Vec),W u->nz c u->z.countP (fun v=>decide (dot c u v≠0))=n->∃x,b0V c W z x/\Sgn c z u x:=by
 intro n
 induction n using Nat.strongRecOn with
 |_ n ih=>
  intro u hu hn hc;by_cases hv:b0V c W z u
  ·exact⟨u,hv,fun v _=>⟨Rat.le_of_lt,Rat.le_of_lt,id⟩⟩
  ·obtain⟨y,hy,hy0,hyn⟩:∃y,W y/\(∀v∈onL c u z,dot c y v=0)/\∀t:Rat,¬∀j,j<c->y j=t*u j:=by
    apply Classical.byContradiction;intro h;refine hv ⟨hu,hn,fun y h1 h2=>Classical.byContradiction fun h3=>h ⟨y,h1,h2,fun t h4=>h3 ⟨t,h4⟩⟩⟩
   obtain⟨v0,hv0,hv1⟩:∃v∈z,dot c y v≠0:=by
    apply Classical.byContradiction;intro h;have:=hW.zero y hy fun v hv=>Classical.byContradiction fun e=>h ⟨v,hv,e⟩;exact hyn 0 fun j hj=>by rw[this j hj];grind
   have hu0:∀v∈z,dot c u v=0->dot c y v=0:=fun v hv h=>hy0 v (List.mem_filter.2 ⟨hv,by simpa using h⟩);obtain⟨y',hy',hy0',hyn',hneg⟩:∃y',W y'/\(∀v∈z,dot c u v=0->dot c y' v=0)/\(∀t:Rat,¬∀j,j<c->y' j=t*u j)/\∃v∈z,dot c y' v*dot c u v<0:=by
    have huv:dot c u v0≠0:=fun h=>hv1 (hu0 v0 hv0 h);by_cases hs:dot c y v0*dot c u v0<0
    ·exact⟨y,hy,hu0,hyn,v0,hv0,hs⟩
    ·have hne:dot c y v0*dot c u v0≠0:=fun h=>by rcases Rat.mul_eq_zero.1 h with e|e<;>contradiction
     have hd:∀v,dot c (fun j=>y j+ -2*y j) v= - dot c y v:=fun v=>by rw[a2C];grind
     refine⟨fun j=>y j+ -2*y j,hW.lin y y (-2) hy hy,fun v hv h=>by rw[hd,hu0 v hv h];grind,fun t h=>hyn (-t) fun j hj=>by have:=h j hj;grind,v0,hv0,?_⟩;rw[hd];grind
   obtain⟨w,hw,hwn,hmin⟩:=b4A (fun v=> - dot c u v/dot c y' v) z hneg;have hne:dot c y' w≠0:=fun h=>by rw[h]at hwn;grind
   have hnu:dot c u w≠0:=fun h=>by rw[h]at hwn;grind
   obtain⟨t,ht⟩:∃t,- dot c u w/dot c y' w=t:=⟨_,rfl⟩;have htw:t*dot c y' w= - dot c u w:=by rw[<-ht];exact Rat.div_mul_cancel hne
   have htp:0<t:=by
    apply Classical.byContradiction;intro h;have h1:=Rat.mul_nonneg (show 0<= -t by grind) (a7F (dot c y' w));have h2:t*(dot c y' w*dot c y' w)= - dot c u w*dot c y' w:=by rw[<-htw];grind
    grind
   have hstep:∀v∈z,(0<dot c u v->0<=dot c u v+t*dot c y' v)/\(dot c u v<0->dot c u v+t*dot c y' v<=0):=fun v hv=>by
    by_cases hs:dot c y' v*dot c u v<0
    ·have h1:=hmin v hv hs
     rw[ht]at h1;have hne2:dot c y' v≠0:=fun h=>by rw[h]at hs;grind
     have h3: - dot c u v/dot c y' v*dot c y' v= - dot c u v:=Rat.div_mul_cancel hne2;constructor
     ·intro hp
      have hyneg:dot c y' v<0:=by
       apply Classical.byContradiction;intro h;have:=Rat.mul_nonneg (show 0<=dot c y' v by grind) (Rat.le_of_lt hp);grind
      have h4:=Rat.mul_le_mul_of_nonneg_right h1 (show 0<= - dot c y' v by grind);grind
     ·intro hp
      have hypos:0<dot c y' v:=by
       apply Classical.byContradiction;intro h;have:=Rat.mul_nonneg (show 0<= - dot c y' v by grind) (show 0<= - dot c u v by grind);grind
      have h4:=Rat.mul_le_mul_of_nonneg_right h1 (Rat.le_of_lt hypos);grind
    ·constructor
     ·intro hp
      have:0<=dot c y' v:=by
       apply Classical.byContradiction;intro h;have:=Rat.mul_pos (show 0< - dot c y' v by grind) hp;grind
      have:=Rat.mul_nonneg (Rat.le_of_lt htp) this;grind
     ·intro hp
      have:dot c y' v<=0:=by
       apply Classical.byContradiction;intro h;have:=Rat.mul_pos (show 0<dot c y' v by grind) (show 0< - dot c u v by grind);grind
      have:=Rat.mul_nonneg (Rat.le_of_lt htp) (show 0<= - dot c y' v by grind);grind
   have hz2:∀v∈z,dot c u v=0->dot c u v+t*dot c y' v=0:=fun v hv h=>by rw[h,hy0' v hv h];grind
   have hw0:dot c u w+t*dot c y' w=0:=by rw[htw];grind
   obtain⟨x,hx1,hx2⟩:=ih _ (by
    rw[<-hc];refine a7G (p:=fun v=>decide (dot c (fun j=>u j+t*y' j) v≠0)) (fun v hv h=>?_) hw ?_ (by simpa using hnu)
    ·simp only[decide_eq_true_eq]at h |-
     intro e;rw[a2C]at h;exact h (hz2 v hv e)
    ·exact decide_eq_false fun h=>h (by rw[a2C];exact hw0)) (fun j=>u j+t*y' j) (hW.lin u y' t hu hy') (b2U fun h=>hyn' (-(1/t)) fun j hj=>by
      have h1:=h j hj;have h2:1/t*t=1:=Rat.div_mul_cancel (by grind);have h3:1/t*(u j+t*y' j)=0:=by rw[h1];grind
      have h4:1/t*(t*y' j)=y' j:=by rw[<-Rat.mul_assoc,h2];grind
      rw[Rat.mul_add,h4]at h3;grind) rfl
   refine⟨x,hx1,fun v hv=>?_⟩;obtain⟨g1,g2,g3⟩:=hx2 v hv;rw[a2C]at g1 g2 g3;obtain⟨s1,s2⟩:=hstep v hv;refine⟨fun h=>?_,fun h=>?_,fun h=>g3 (hz2 v hv h)⟩
   ·have:=s1 h
    by_cases e:dot c u v+t*dot c y' v=0
    ·rw[g3 e];exact Rat.le_refl
    ·exact g1 (by grind)
   ·have:=s2 h
    by_cases e:dot c u v+t*dot c y' v=0
    ·rw[g3 e];exact Rat.le_refl
    ·exact g2 (by grind)
def Ort(c:Nat)(M:List Vec)(y:Vec):Prop:=∀v∈M,dot c v y=0
theorem Ort.app{c:Nat}{M L:List Vec}{y:Vec}:Ort c (M++L) y↔Ort c M y/\Ort c L y:=by
 constructor
 ·exact fun h=>⟨fun v a=>h v (List.mem_append_left _ a),fun v a=>h v (List.mem_append_right _ a)⟩
 ·rintro ⟨b,d⟩ v a
  rcases List.mem_append.1 a with a|a
  ·exact b v a
  ·exact d v a
theorem a6U(c:Nat)(v u y:Vec)(t:Rat):dot c v (fun j=>u j+t*y j)=dot c v u+t*dot c v y:=by
 rw[a1m,a2C,a1m c u v,a1m c y v]
theorem Ort.lin{c:Nat}{M:List Vec}{u y:Vec}(t:Rat)(b:Ort c M u)(d:Ort c M y):Ort c M (fun j=>u j+t*y j):=fun v a=>by
 rw[a6U,b v a,d v a];grind
theorem Ort.congr{c:Nat}{M:List Vec}{u y:Vec}(h:∀j,j<c->u j=y j)(a:Ort c M u):Ort c M y:=fun v b=>by
 rw[a1m,<-a5G h,a1m];exact a v b
theorem b5m(c k:Nat)(f:F2)(a:Vec)(v:Vec):dot c v (fun j=>cmb k f a j)=sm k fun i=>a i*dot c v (f i):=by
 unfold dot cmb;rw[a0s (g:=fun j=>sm k fun i=>v j*(a i*f i j)) fun j _=>(a2G k (v j) _).symm,b0L];exact a0s fun i _=>by rw[<-a2G];exact a0s fun j _=>by grind
structure Basis (c:Nat) (P:Vec->Prop) (k:Nat) (f:F2):Prop where
 mem:∀i,i<k->P (f i)
 li:LI k c f
 span:∀y,P y->∃a:Vec,∀j,j<c->y j=cmb k f a j
theorem b0W{k m c:Nat}{f g:F2}(o:LI k c f)(h:∀i,i<k->∃a:Vec,∀j,j<c->f i j=cmb m g a j):k<=m:=by
 obtain⟨r,p,d,l,b⟩:=a8q k c f;have s:=o.full l b;have e:∀i,∃a:Vec,i<k->∀j,j<c->f i j=cmb m g a j:=fun i=>by
  by_cases hi:i<k
  ·obtain⟨a,n⟩:=h i hi;exact⟨a,fun _=>n⟩
  ·exact⟨fun _=>0,fun h=>absurd h hi⟩
 have:=b5j l b (fun i=>(e i).choose) g fun i hi j q=>(e i).choose_spec hi j q;omega
theorem Basis.le{c:Nat}{P Q:Vec->Prop}{k m:Nat}{f g:F2}(h:Basis c P k f)(b:Basis c Q m g)(a:∀y,P y->Q y):k<=m:=
 b0W h.li fun i hi=>b.span _ (a _ (h.mem i hi))
theorem b2X{n c:Nat}{r:F2}{p:List Nat}(h:Rref n c r p){x:Vec}(hx:Nul n c r x)(j:Nat)(hj:j<c):x j=cmb (a1Y r p c).length (ent (a1Y r p c)) (fun i=>x (((List.range c).filter (· ∉p)).getD i 0)) j:=by
 obtain⟨F,hF⟩:∃F,(List.range c).filter (· ∉p)=F:=⟨_,rfl⟩;have hlen:(a1Y r p c).length=F.length:=by rw[<-hF];simp[a1Y]
 have he:∀i (hi:i<F.length),ent (a1Y r p c) i j=nv r p F[i] j:=fun i hi=>by
  unfold ent a1Y;rw[hF,List.getD_eq_getElem?_getD (l:=List.map _ _),List.getElem?_map,List.getElem?_eq_getElem hi];simp only[Option.map_some,Option.getD_some];rw[List.getD_eq_getElem?_getD,List.getElem?_map,List.getElem?_range hj];rfl
 have hFm:∀q,q∈F↔q<c/\q∉p:=fun q=>by rw[<-hF];simp
 have hnd:F.Pairwise (· < ·):=by rw[<-hF];exact List.Pairwise.filter _ List.pairwise_lt_range
 have hgd:∀i (hi:i<F.length),F.getD i 0=F[i]:=fun i hi=>by simp[List.getD_eq_getElem?_getD,hi]
 rw[hF,hlen];unfold cmb;rw[a0s (g:=fun i=>x (F.getD i 0)*nv r p (F.getD i 0) j) fun i hi=>by rw[he i hi];dsimp only;rw[hgd i hi]];by_cases hjp:j∈p
 ·obtain⟨i0,hi0,rfl⟩:=List.getElem_of_mem hjp
  have hn:∀q,q∉p->nv r p q p[i0]= - r i0 q:=fun q hq=>h.nv_piv hq i0 hi0;have hrow:=h.row i0 hi0 x;have h0:=hx i0 (by have:=h.le;omega);rw[hrow]at h0;have key:∀(g:Nat->Rat),sm F.length (fun i=>g (F.getD i 0))=sm c (fun q=>if q∈p then 0 else g q):=fun g=>by
   have gen:∀(k:Nat) (G:List Nat),G=(List.range k).filter (· ∉p)->sm G.length (fun i=>g (G.getD i 0))=sm k (fun q=>if q∈p then 0 else g q):=by
    intro k
    induction k with
    |zero=>intro G hG;subst hG;rfl
    |succ k ih=>
     intro G hG;rw[List.range_succ,List.filter_append]at hG;have ih:=ih _ rfl
     show _=sm k _+_
     by_cases hk:k∈p
     ·have:(List.filter (· ∉p) [k])= []:=by simp[hk]
      rw[this,List.append_nil]at hG;subst hG;rw[ih];simp[hk];grind
     ·have:(List.filter (· ∉p) [k])= [k]:=by simp[hk]
      rw[this]at hG;subst hG;obtain⟨H,hH⟩:∃H,List.filter (· ∉p) (List.range k)=H:=⟨_,rfl⟩;rw[hH]at ih |-;rw[List.length_append,<-ih]
      show sm H.length _+_=_
      congr 1
      ·exact a0s fun i hi=>by simp[List.getD_eq_getElem?_getD,List.getElem?_append_left hi]
      ·simp[hk,List.getD_eq_getElem?_getD]
   exact gen c F hF.symm
  have k1:=key (fun q=>x q* - r i0 q);have k2:sm c (fun q=>if q∈p then 0 else x q* - r i0 q)= - sm c (fun q=>if q∈p then 0 else r i0 q*x q):=by
   have:=a2G c (-1) (fun q=>if q∈p then 0 else r i0 q*x q);rw[show -sm c (fun q=>if q∈p then 0 else r i0 q*x q)= -1*sm c (fun q=>if q∈p then 0 else r i0 q*x q)by grind,<-this];exact a0s fun q _=>by split<;>grind
  have k3:sm F.length (fun i=>x (F.getD i 0)*nv r p (F.getD i 0) p[i0])=sm F.length (fun i=>x (F.getD i 0)* - r i0 (F.getD i 0)):=a0s fun i hi=>by
   rw[hgd i hi,hn _ ((hFm _).1 (List.getElem_mem hi)).2]
  rw[k3,k1,k2];grind
 ·obtain⟨i0,hi0,hij⟩:=List.getElem_of_mem ((hFm j).2 ⟨hj,hjp⟩)
  rw[a2m i0 hi0 fun i hi hne=>by
   rw[hgd i hi];have:F[i]≠j:=fun e=>by
    rw[List.pairwise_iff_getElem]at hnd;rcases Nat.lt_or_gt_of_ne hne with a|a
    ·have:=hnd i i0 hi hi0 a;omega
    ·have:=hnd i0 i hi0 hi a;omega
   rw[a5E hjp (Ne.symm this)];grind]
  rw[hgd i0 hi0,hij,a4M];grind
theorem a6s{n c:Nat}{f r:F2}{p:List Nat}{d:Rat}(k:Rref n c r p)(h:RE n c f r d):Basis c (Nul n c f) (a1Y r p c).length (ent (a1Y r p c)):=by
 refine⟨fun i hi=>?_,a9o r p c,fun y o=>⟨_,fun j b=>b2X k ((h.nul y).1 o) j b⟩⟩;have a:i<((List.range c).filter (· ∉p)).length:=by simpa[a1Y]using hi
 have e:=List.getElem_mem a;rw[List.mem_filter,List.mem_range]at e;have g:((List.range c).filter (· ∉p))[i]∉p:=by simpa using e.2
 have m:=(h.nul _).2 (k.nv_nul g e.1);intro q hq;rw[<-m q hq];refine a0s fun j b=>?_
 congr 1
 unfold ent a1Y;rw[List.getD_eq_getElem?_getD (l:=List.map _ _),List.getElem?_map,List.getElem?_eq_getElem a];simp only[Option.map_some,Option.getD_some];rw[List.getD_eq_getElem?_getD,List.getElem?_map,List.getElem?_range b];rfl
def fL(M:List Vec):F2:=fun i=>M.getD i fun _=>0
theorem b0X(c:Nat)(M:List Vec)(y:Vec):Ort c M y↔Nul M.length c (fL M) y:=by
 constructor
 ·intro h i hi
  have:=h M[i] (List.getElem_mem hi);unfold dot at this;rw[<-this];exact a0s fun j _=>by simp[fL,List.getD_eq_getElem?_getD,hi]
 ·intro h v a
  obtain⟨i,hi,rfl⟩:=List.getElem_of_mem a;have:=h i hi;unfold dot;rw[<-this];exact a0s fun j _=>by simp[fL,List.getD_eq_getElem?_getD,hi]
def Dim(c:Nat)(M:List Vec)(k:Nat):Prop:=∃f,Basis c (Ort c M) k f
theorem Basis.of_iff{c:Nat}{P Q:Vec->Prop}{k:Nat}{f:F2}(h:Basis c P k f)(a:∀y,P y↔Q y):Basis c Q k f:=
 ⟨fun i hi=>(a _).1 (h.mem i hi),h.li,fun y b=>h.span y ((a y).2 b)⟩
theorem a9p(c:Nat)(M:List Vec):∃k,Dim c M k:=by
 obtain⟨r,p,d,a,h⟩:=a8q M.length c (fL M);exact⟨_,_,(a6s a h).of_iff fun y=>(b0X c M y).symm⟩
theorem Dim.uniq{c:Nat}{M:List Vec}{k m:Nat}(h:Dim c M k)(d:Dim c M m):k=m:=by
 obtain⟨f,a⟩:=h;obtain⟨g,b⟩:=d;have:=a.le b fun _=>id;have:=b.le a fun _=>id;omega
theorem Dim.iff{c:Nat}{M L:List Vec}{k:Nat}(h:Dim c M k)(a:∀y,Ort c M y↔Ort c L y):Dim c L k:=let ⟨f,b⟩:=h;⟨f,b.of_iff a⟩
theorem Dim.more{c:Nat}{M:List Vec}{k:Nat}(h:Dim c M (k+1)){v y:Vec}(z:Ort c M y)(E:dot c v y≠0):Dim c (M++[v]) k:=by
 obtain⟨f,r⟩:=h;obtain⟨m,g,s⟩:=a9p c (M++[v]);have b:∀a j,cmb (m+1) (fun i=>if i<m then g i else y) a j=cmb m g a j+a m*y j:=fun a j=>by
  unfold cmb
  show sm m _+_=_
  congr 1
  ·exact a0s fun i hi=>by simp[hi]
  ·simp
 have p:∀i,i<m->Ort c M (g i)/\dot c v (g i)=0:=fun i hi=>by
  have:=Ort.app.1 (s.mem i hi);exact⟨this.1,this.2 v (by simp)⟩
 have G:m+1<=k+1:=by
  refine b0W (c:=c) (f:=fun i=>if i<m then g i else y) (g:=f) (fun a l=>?_) fun i hi=>?_
  ·have A:dot c v (fun j=>cmb m g a j+a m*y j)=0:=by
    rw[a1m];exact a2U fun j d=>by rw[<-b];exact l j d
   rw[a6U c v (fun j=>cmb m g a j) y (a m),b5m,a3p fun i hi=>by rw[(p i hi).2];grind]at A;have o:a m=0:=by
    have:a m*dot c v y=0:=by grind
    rcases Rat.mul_eq_zero.1 this with e|e
    ·exact e
    ·contradiction
   have x:=s.li a fun j d=>by have:=l j d;rw[b,o]at this;grind
   intro i hi;by_cases e:i=m
   ·subst e;exact o
   ·exact x i (by omega)
  ·by_cases n:i<m
   ·obtain⟨a,l⟩:=r.span _ (p i n).1
    exact⟨a,fun j d=>by simp only[n,if_true];exact l j d⟩
   ·obtain⟨a,l⟩:=r.span _ z
    exact⟨a,fun j d=>by simp only[n,if_false];exact l j d⟩
 have x:k+1<=m+1:=by
  refine b0W (c:=c) (f:=f) (g:=fun i=>if i<m then g i else y) r.li fun i hi=>?_;have u:=r.mem i hi;obtain⟨t,C⟩:∃t,dot c v (f i)/dot c v y=t:=⟨_,rfl⟩;have D:t*dot c v y=dot c v (f i):=by rw[<-C];exact Rat.div_mul_cancel E
  obtain⟨a,l⟩:=s.span (fun j=>f i j+ -t*y j) (Ort.app.2 ⟨u.lin (-t) z,fun w F=>by
   have:w=v:=by simpa using F
   subst this;rw[a6U];grind⟩)
  refine⟨fun q=>if q<m then a q else t,fun j d=>?_⟩;rw[b];have H:=l j d;have B:cmb m g (fun q=>if q<m then a q else t) j=cmb m g a j:=a0s fun q hq=>by simp[hq]
  simp only[Nat.lt_irrefl,if_false];rw[B];grind
 have:m=k:=by omega
 subst this;exact⟨g,s⟩
theorem Dim.one{c:Nat}{M:List Vec}(h:Dim c M 1){x:Vec}(hx:Ort c M x)(n:nz c x)(y:Vec)(o:Ort c M y):∃t:Rat,∀j,j<c->y j=t*x j:=by
 obtain⟨f,l⟩:=h;obtain⟨a,k⟩:=l.span x hx;obtain⟨b,m⟩:=l.span y o;have g:∀(a:Vec) j,cmb 1 f a j=a 0*f 0 j:=fun a j=>by unfold cmb sm sm;grind
 have i:a 0≠0:=fun e=>n.not fun j d=>by rw[k j d,g,e];grind
 refine⟨b 0/a 0,fun j d=>?_⟩;rw[m j d,k j d,g,g,<-Rat.mul_assoc,Rat.div_mul_cancel i]
theorem Dim.two{c k:Nat}{M:List Vec}(h:Dim c M (k+2))(x:Vec):∃y,Ort c M y/\∀t:Rat,¬∀j,j<c->y j=t*x j:=by
 apply Classical.byContradiction;intro n;have a:∀y,Ort c M y->∃t:Rat,∀j,j<c->y j=t*x j:=fun y o=>Classical.byContradiction fun e=>n ⟨y,o,fun t b=>e ⟨t,b⟩⟩;obtain⟨f,d⟩:=h;have:=b0W (m:=1) (g:=fun _=>x) d.li fun i hi=>by
  obtain⟨t,b⟩:=a _ (d.mem i hi);exact⟨fun _=>t,fun j l=>by rw[b j l];unfold cmb sm sm;grind⟩
 omega
def z0:Vec:=fun _=>0
def a8t(z:List Vec)(I:List Nat):List Vec:=I.map fun i=>z.getD i z0
theorem b6R{z:List Vec}{i:Nat}(h:i<z.length):z.getD i z0=z[i]:=by simp[List.getD_eq_getElem?_getD,h]
theorem sel{c:Nat}(z:List Vec)(x:Vec)(hn:nz c x):∀(r:Nat) (O:List Vec),Dim c O (r+1)->Ort c O x->(∀y,Ort c O y->(∀v∈onL c x z,dot c y v=0)->∃t:Rat,∀j,j<c->y j=t*x j)-> ∃I:List Nat,I.length=r/\I.Nodup/\(∀i∈I,i<z.length/\dot c (z.getD i z0) x=0/\∃y,Ort c O y/\dot c (z.getD i z0) y≠0)/\∀y,Ort c O y->(∀i∈I,dot c (z.getD i z0) y=0)->∃t:Rat,∀j,j<c->y j=t*x j:=by
 intro r
 induction r with
 |zero=>exact fun O hd hx _=>⟨[],rfl,List.nodup_nil,fun i hi=>by simp at hi,fun y hy _=>hd.one hx hn y hy⟩
 |succ r ih=>
  intro O hd hx hv;obtain⟨y,hy,hyn⟩:=hd.two x;obtain⟨v,hvm,hvy⟩:∃v∈onL c x z,dot c y v≠0:=by
   apply Classical.byContradiction;intro h;obtain⟨t,ht⟩:=hv y hy fun v hv=>Classical.byContradiction fun e=>h ⟨v,hv,e⟩;exact hyn t ht
  obtain⟨hvz,hvx⟩:=List.mem_filter.1 hvm;have hvx:dot c x v=0:=by simpa using hvx
  obtain⟨i,hi,rfl⟩:=List.getElem_of_mem hvz;have hd2:=hd.more (v:=z[i]) hy (by rw[a1m];exact hvy);obtain⟨I,h1,h2,h3,h4⟩:=ih (O++[z[i]]) hd2 (Ort.app.2 ⟨hx,fun w hw=>by
   have:w=z[i]:=by simpa using hw
   subst this;rw[a1m];exact hvx⟩) fun y' hy'=>hv y' (Ort.app.1 hy').1
  refine⟨i::I,by simp[h1],List.nodup_cons.2 ⟨fun hm=>?_,h2⟩,fun q hq=>?_,fun y' hy' hq=>?_⟩
  ·obtain⟨_,_,y',hy',hne⟩:=h3 i hm
   rw[b6R hi]at hne;exact hne ((Ort.app.1 hy').2 _ (by simp))
  ·rcases List.mem_cons.1 hq with rfl|hq
   ·exact⟨hi,by rw[b6R hi,a1m];exact hvx,y,hy,by rw[b6R hi,a1m];exact hvy⟩
   ·obtain⟨a,b,y',hy',hne⟩:=h3 q hq
    exact⟨a,b,y',(Ort.app.1 hy').1,hne⟩
  ·refine h4 y' (Ort.app.2 ⟨hy',fun w hw=>?_⟩) fun q hq'=>hq q (List.mem_cons_of_mem _ hq')
   have:w=z[i]:=by simpa using hw
   subst this;have:=hq i List.mem_cons_self;rwa[b6R hi]at this
theorem asc{I:List Nat}{n:Nat}(h:I.Nodup)(a:∀i∈I,i<n):∃J:List Nat,J.length=I.length/\J.Pairwise (· < ·)/\∀i,i∈J↔i∈I:=by
 refine⟨(List.range n).filter (· ∈I),?_,List.Pairwise.filter _ List.pairwise_lt_range,fun i=>?_⟩
 ·refine List.Perm.length_eq ((List.perm_ext_iff_of_nodup ?_ h).2 fun i=>?_)
  ·exact List.Pairwise.imp (fun h=>Nat.ne_of_lt h) (List.Pairwise.filter _ List.pairwise_lt_range)
  ·simp only[List.mem_filter,List.mem_range,decide_eq_true_eq]
   exact⟨fun h=>h.2,fun h=>⟨a i h,h⟩⟩
 ·simp only[List.mem_filter,List.mem_range,decide_eq_true_eq]
  exact⟨fun h=>h.2,fun h=>⟨a i h,h⟩⟩
theorem b0n{c:Nat}{M:List Vec}{x:Vec}(hn:nz c x)(hx:Ort c M x)(h:∀y,Ort c M y->∃t:Rat,∀j,j<c->y j=t*x j):Dim c M 1:=by
 obtain⟨k,hk⟩:=a9p c M
 match k,hk with
 |0,hk=>
  obtain⟨f,hf⟩:=hk;obtain⟨a,ha⟩:=hf.span x hx;exact absurd (fun j hj=>by rw[ha j hj];rfl) hn.not
 |1,hk=>exact hk
 |k+2,hk=>
  obtain⟨y,hy,hyn⟩:=hk.two x;obtain⟨t,ht⟩:=h y hy;exact absurd ht (hyn t)
theorem b0Y{c:Nat}{u x:Vec}(h:∀j,j<c->u j=x j)(z:List Vec):a8s c u z=a8s c x z/\onL c u z=onL c x z/\a4a c u z=a4a c x z:=by
 have:∀v,dot c u v=dot c x v:=fun v=>a5G h;unfold a8s onL a4a;simp only[this];exact⟨trivial,trivial,trivial⟩
def a5H(c:Nat):List Vec->Vec->Bool
 | [],_=>true
 |u::us,v=>decide (0<dot c u v)||(decide (dot c u v=0)&&a5H c us v)
def b0o(c:Nat)(us:List Vec)(z:List Vec):Nat:=z.countP fun v=>a5H c us v
theorem b2Y(c:Nat)(z:List Vec):b0o c [] z=z.length:=by simp[b0o,a5H]
theorem a4m(c:Nat)(u:Vec)(us z:List Vec):b0o c (u::us) z=a8s c u z+b0o c us (onL c u z):=by
 induction z with
 |nil=>rfl
 |cons v z ih=>
  unfold b0o a8s onL at*;rw[List.countP_cons,List.countP_cons,List.filter_cons,ih];by_cases a:0<dot c u v
  ·rw[if_pos (by simp[a5H,a]),if_pos (by simpa using a),if_neg (by simp;grind)];omega
  ·by_cases b:dot c u v=0
   ·rw[if_neg (c:=decide (0<dot c u v)=true) (by simpa using a),if_pos (c:=decide (dot c u v=0)=true) (by simpa using b),List.countP_cons]
    have e:a5H c (u::us) v=a5H c us v:=by simp[a5H,b]
    rw[e];omega
   ·rw[if_neg (by simp[a5H,a,b]),if_neg (by simpa using a),if_neg (by simpa using b)];omega
theorem a9q{c:Nat}{u:Vec}(h:¬nz c u)(z:List Vec):a8s c u z=0/\onL c u z=z:=by
 have b:∀j,j<c->u j=0:=fun j d=>Classical.byContradiction fun e=>h ⟨j,d,e⟩;have hd:∀v,dot c u v=0:=fun v=>a2U b;unfold a8s onL;simp only[hd];refine⟨?_,List.filter_eq_self.2 fun _ _=>by simp⟩;rw[List.countP_eq_zero];intro a _;simp
theorem a7I(c:Nat):∀(us z:List Vec),(∀u∈us,¬nz c u)->b0o c us z=z.length
 | [],z,_=>b2Y c z
 |u::us,z,h=>by
  obtain⟨h1,h2⟩:=a9q (h u List.mem_cons_self) z;rw[a4m,h1,h2,a7I c us z fun u hu=>h u (List.mem_cons_of_mem _ hu)];omega
theorem a4Q{c:Nat}:∀(us z:List Vec) (k:Nat),a3n c z k->(∃u∈us,nz c u)->k<=b0o c us z
 | [],_,_,_,h=>by obtain⟨_,h,_⟩:=h;simp at h
 |u::us,z,k,hk,h=>by
  rw[a4m];by_cases hu:nz c u
  ·obtain⟨l,hl⟩:=b6U (c:=c) (by obtain⟨j,hj,_⟩:=hu;omega) (onL c u z)
   have h1:=hk.lower hu hl;have h2:l<=b0o c us (onL c u z):=by
    by_cases hs:∃u∈us,nz c u
    ·exact a4Q us _ l hl hs
    ·rw[a7I c us _ fun u hu hn=>hs ⟨u,hu,hn⟩];exact hl.le
   omega
  ·obtain⟨h1,h2⟩:=a9q hu z
   rw[h1,h2];have:=a4Q us z k hk (by
    obtain⟨x,hx,hn⟩:=h;rcases List.mem_cons.1 hx with rfl|hx
    ·exact absurd hn hu
    ·exact⟨x,hx,hn⟩)
   omega
theorem a6t{c:Nat}{v:Vec}(h:¬nz c v):∀us:List Vec,a5H c us v=true
 | []=>rfl
 |u::us=>by
  have h0:dot c u v=0:=by
   rw[a1m];exact a2U fun j hj=>Classical.byContradiction fun e=>h ⟨j,hj,e⟩
  simp[a5H,h0,a6t h us]
open Classical in
noncomputable def nzL(c:Nat)(z:List Vec):List Vec:=z.filter fun v=>decide (nz c v)
open Classical in
theorem a6u{c:Nat}{p:Vec->Bool}(hp:∀v,¬nz c v->p v=true)(z:List Vec):z.countP p=(nzL c z).countP p+(z.length - (nzL c z).length):=by
 induction z with
 |nil=>rfl
 |cons v z ih=>
  have hle:(nzL c z).length<=z.length:=List.length_filter_le ..;unfold nzL at*;rw[List.filter_cons,List.countP_cons];by_cases h:nz c v
  ·rw[if_pos (c:=decide (nz c v)=true) (by simpa using h),List.countP_cons,List.length_cons,List.length_cons,ih];omega
  ·rw[if_neg (c:=decide (nz c v)=true) (by simpa using h),List.length_cons,if_pos (hp v h),ih];omega
theorem b2Z(c:Nat)(us z:List Vec):b0o c us z=b0o c us (nzL c z)+(z.length - (nzL c z).length):=a6u (fun _ h=>a6t h us) z
theorem a7J(c:Nat)(u:Vec)(z:List Vec):a4a c u z=a4a c u (nzL c z)+(z.length - (nzL c z).length):=a6u (fun v h=>by
 have a:dot c u v=0:=by rw[a1m];exact a2U fun j b=>Classical.byContradiction fun e=>h ⟨j,b,e⟩
 simp[a]) z
theorem a3n.nzL{c k:Nat}{z:List Vec}(h:a3n c (nzL c z) k):a3n c z (k+(z.length - (nzL c z).length)):=by
 obtain⟨⟨u,a,b⟩,d⟩:=h;refine⟨⟨u,a,by rw[a7J,b]⟩,fun v e=>?_⟩;rw[a7J];have:=d v e;omega
structure Wit (c:Nat) (z:List Vec) (n:Nat) (us:List Vec):Prop where
 head:∃u t,us=u::t/\nz c u
 cnt:b0o c us z=n
 few:∀k,Dim c z k->us.length+k<=c\/us.length=1
theorem Wit.least{c n k:Nat}{z us:List Vec}(h:Wit c z n us)(a:a3n c z k):k<=n:=by
 obtain⟨u,t,rfl,b⟩:=h.head;rw[<-h.cnt];exact a4Q _ _ _ a ⟨u,List.mem_cons_self,b⟩
theorem Wit.one{c:Nat}{z:List Vec}{u:Vec}(b:nz c u)(a:onL c u z= []):Wit c z (a8s c u z) [u]:=
 ⟨⟨u,[],rfl,b⟩,by rw[a4m,a];rfl,fun _ _=>Or.inr rfl⟩
theorem Dim.lt{c k m:Nat}{z L:List Vec}{u:Vec}(h:Dim c z k)(e:Dim c L m)(hs:∀v∈L,v∈z)(i:Ort c L u)(q:∃v∈z,dot c v u≠0):k<m:=by
 obtain⟨v,r,b⟩:=q;rcases m with _|m
 ·obtain⟨f,d⟩:=e
  obtain⟨a,n⟩:=d.span u i;exact absurd (by rw[a1m];exact a2U fun j p=>by rw[n j p];rfl) b
 ·obtain⟨g,o⟩:=e.more i b
  obtain⟨f,d⟩:=h;have:=d.le o fun y l=>Ort.app.2 ⟨fun x hx=>l x (hs x hx),fun x hx=>by simp at hx;subst hx;exact l _ r⟩;omega
theorem Dim.lt_c{c k:Nat}{z:List Vec}(h:Dim c z k)(hz:∃v∈z,nz c v):k<c:=by
 obtain⟨v,n,l⟩:=hz;obtain⟨m,a⟩:=a9p c [];have o:=h.lt a (by simp) (u:=v) (by simp[Ort]) ⟨v,n,fun e=>l.not (b2T e)⟩;obtain⟨f,b⟩:=a;have:=b0W (m:=c) (g:=fun i j=>if j=i then 1 else 0) b.li fun i _=>⟨f i,fun j d=>by unfold cmb;rw[a2m j d fun i _ hi=>by simp[Ne.symm hi]];simp⟩;omega
theorem Wit.more{c l:Nat}{z us:List Vec}{u:Vec}(i:nz c u)(h:Wit c (onL c u z) l us)(g:∃v∈onL c u z,nz c v)(f:∃v∈z,dot c v u≠0):Wit c z (a8s c u z+l) (u::us):=
 ⟨⟨u,us,rfl,i⟩,by rw[a4m,h.cnt],fun k e=>by
  obtain⟨m,a⟩:=a9p c (onL c u z);have j:=e.lt a (fun v b=>(List.mem_filter.1 b).1) (u:=u) (fun v b=>by rw[a1m];simpa using(List.mem_filter.1 b).2) f;have n:=a.lt_c g;rcases h.few m a with d|d
  ·left;simp;omega
  ·left;simp;omega⟩
def b3a(c:Nat)(z O:List Vec)(cnt:Nat)(I:List Nat):Prop:=Dim c (a8t z I++O) 1->∀x,nz c x->Ort c (a8t z I++O) x->∀l,a3n c (onL c x z) l->cnt<=a8s c x z+l
theorem b3a.le{c:Nat}{z O:List Vec}{m n:Nat}{I:List Nat}(h:b3a c z O n I)(f:m<=n):b3a c z O m I:=fun a x b d l e=>Nat.le_trans f (h a x b d l e)
def vec(l:List Rat):Vec:=fun j=>l.getD j 0
def a1R(m:Mat):List Vec:=m.map vec
noncomputable def a1j(m:Mat)(c:Nat):Mat:=a1Y (ent (a1C m c).1) (a1C m c).2 c
theorem b5n(m:Mat):∀i j,fL (a1R m) i j=ent m i j:=fun i j=>by
 unfold fL a1R ent;rw[List.getD_eq_getElem?_getD,List.getElem?_map,List.getD_eq_getElem?_getD];rcases h:m[i]? with _|r
 ·simp[h]
 ·simp[vec,h]
theorem b3b{n c:Nat}{m:Mat}(hs:Shp n c m)(y:Vec):Ort c (a1R m) y↔Nul n c (ent m) y:=by
 rw[b0X,show(a1R m).length=n by simp[a1R,hs.1]];unfold Nul;simp only[b5n]
theorem a3N{n c:Nat}{m:Mat}(hs:Shp n c m):Basis c (Ort c (a1R m)) (a1j m c).length (ent (a1j m c)):=by
 obtain⟨_,a,d,b⟩:=a2a hs;exact(a6s a b).of_iff fun y=>(b3b hs y).symm
theorem a9r{n c:Nat}{m:Mat}(hs:Shp n c m):Dim c (a1R m) (a1j m c).length:=⟨_,a3N hs⟩
theorem a4n{m:Mat}{c:Nat}:∀l∈a1j m c,l.length=c:=fun l a=>by
 unfold a1j a1Y at a;obtain⟨j,_,rfl⟩:=List.mem_map.1 a;simp
theorem a5I(m:Mat)(c:Nat):Shp (a1j m c).length c (a1j m c):=⟨rfl,a4n⟩
theorem a5J{n c:Nat}{m:Mat}(hs:Shp n c m):(a1j m c).length=c - (a1C m c).2.length:=b0R (a2a hs).2.1
theorem b3c{n c:Nat}{m:Mat}(hs:Shp n c m):Dim c (a1R (a1j m c)) (a1C m c).2.length:=by
 have e:=a9r (a5I m c);have g:=a5J (a5I m c);have i:=a5J hs;have q:(a1C m c).2.length<=c:=by
  have f:=(a2a hs).2.1;have l:(a1C m c).2.Nodup:=(f.pw).imp (fun h=>Nat.ne_of_lt h);have o:(a1C m c).2.length<=(List.range c).length:=l.length_le_of_subset fun x hx=>by
   obtain⟨k,p,rfl⟩:=List.getElem_of_mem hx;exact List.mem_range.2 (f.lt k p)
  simpa using o
 have j:(a1C (a1j m c) c).2.length=(a1j m c).length:=by
  obtain⟨_,a,d,b⟩:=a2a (a5I m c);exact(a9o _ _ _).full a b
 rw[g,j,i]at e;rwa[show c - (c - (a1C m c).2.length)=(a1C m c).2.length by omega]at e
theorem b3d(c:Nat):Dim c [] c:=by
 have:=b3c (n:=0) (c:=c) (m:=[]) ⟨rfl,by simp⟩;refine⟨fun i j=>if j=i then 1 else 0,⟨fun i _=>by simp[Ort],fun y h i hi=>?_,fun y _=>⟨y,fun j b=>?_⟩⟩⟩
 ·have:=h i hi
  unfold cmb at this;rw[a2m i hi fun k _ a=>by simp[Ne.symm a]]at this;simpa using this
 ·unfold cmb;rw[a2m j b fun k _ a=>by simp[Ne.symm a]];simp
theorem a7K{c:Nat}{z:List Vec}(a:0<c)(h:∀y,(∀v∈z,dot c y v=0)->∀j,j<c->y j=0):Dirs c z (Ort c []):=
 ⟨fun _ _ _ _ _=>by simp[Ort],fun y _ b=>h y b,fun u=>⟨u,by simp[Ort],fun _ _=>rfl⟩,⟨fun _=>1,by simp[Ort],0,a,by grind⟩⟩
section
variable {n c:Nat} {m:Mat} (hs:Shp n c m)
include hs
end
end Go.Lin
