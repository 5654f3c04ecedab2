/- Sums, row operations, and the reduced form of a matrix, which is unique. Conditions: none. Row echelon forms and reduced forms, column by column. Conditions: none. Elimination over lists of rows: what the two programs compute is the reduced form. Conditions: none. Determinants of at most four rows: row operations, products, the transposed matrix, triangles. Conditions: none. Ranks, null vectors and solutions, read off the reduced form. Conditions: none. Depth of a point: vectors, products, counts; a direction turned a little. Conditions: none. Depth of a point: a direction can be turned till only its multiples keep its boundary. Conditions: none. Bases and dimensions of what is orthogonal to some vectors; the rows that leave but one direction. Conditions: none. Depth of a point: the search over the directions that are orthogonal to some of the vectors. Conditions: none. -/
namespace Go.Lin
def sm:Nat->(Nat->Rat)->Rat
 |0,_=>0
 |n+1,f=>sm n f+f n
theorem a0j {n:Nat} {f g:Nat->Rat} (h:∀i,i<n->f i=g i):sm n f=sm n g:=by
 induction n with
 |zero=>rfl
 |succ n ih=>unfold sm;rw[ih fun i hi=>h i (by omega),h n (by omega)]
theorem a1V {n:Nat} {f:Nat->Rat} (h:∀i,i<n->f i=0):sm n f=0:=by
 induction n with
 |zero=>rfl
 |succ n ih=>unfold sm;rw[ih fun i hi=>h i (by omega),h n (by omega)];grind
theorem a6t (n:Nat) (f g:Nat->Rat):sm n (fun i=>f i+g i)=sm n f+sm n g:=by
 induction n with
 |zero=>unfold sm;grind
 |succ n ih=>unfold sm;rw[ih];grind
theorem a1l (n:Nat) (a:Rat) (f:Nat->Rat):sm n (fun i=>a*f i)=a*sm n f:=by
 induction n with
 |zero=>unfold sm;grind
 |succ n ih=>unfold sm;rw[ih];grind
theorem a2W (n m:Nat) (f:Nat->Nat->Rat):sm n (fun i=>sm m (fun j=>f i j))=sm m (fun j=>sm n (fun i=>f i j)):=by
 induction n with
 |zero=>simp only[sm];rw[a1V];intros;rfl
 |succ n ih=>simp only[sm];rw[ih,a6t]
theorem a1m {n:Nat} {f:Nat->Rat} (k:Nat) (hk:k<n) (h:∀i,i<n->i≠k->f i=0):sm n f=f k:=by
 induction n with
 |zero=>omega
 |succ n ih=>
  unfold sm;by_cases e:k=n
  ·subst e;rw[a1V fun i hi=>h i (by omega) (by omega)];grind
  ·rw[ih (by omega) fun i hi hik=>h i (by omega) hik,h n (by omega) (by omega)];grind
theorem a6u (n:Nat) (f g:Nat->Rat):sm n (fun i=>f i - g i)=sm n f - sm n g:=by
 induction n with
 |zero=>unfold sm;grind
 |succ n ih=>unfold sm;rw[ih];grind
theorem b7y {n:Nat} {f g:Nat->Rat} (k:Nat) (hk:k<n) (h:∀i,i<n->i≠k->f i=g i) (h2:f k=g k):sm n f=sm n g:=
 a0j fun i hi=>by
             by_cases e:i=k
             ·subst e;exact h2
             ·exact h i hi e
theorem b6U {n:Nat} {f g:Nat->Rat} (i k:Nat) (hi:i<n) (hk:k<n) (hik:i≠k) (h:∀r,r<n->r≠i->r≠k->f r=g r) (h2:f i+f k=g i+g k):sm n f=sm n g:=by
 have e:sm n (fun r=>f r - g r)=0:=by
  have e1:∀r,r<n->(fun r=>f r - g r) r=(fun r=>(if r=i then f i - g i else 0)+(if r=k then f k - g k else 0)) r:=by
   intro r hr
   show f r - g r=_
   by_cases a:r=i
   ·subst a;simp[hik];grind
   ·by_cases b:r=k
    ·subst b;simp[a];grind
    ·simp[a,b];rw[h r hr a b];grind
  rw[a0j e1,a6t,a1m i hi (fun r _ hr=>by simp[hr]),a1m k hk (fun r _ hr=>by simp[hr])];simp;grind
 rw[a6u]at e;grind
abbrev F2:=Nat->Nat->Rat
def Eqm (n c:Nat) (f g:F2):Prop:=∀i,i<n->∀j,j<c->f i j=g i j
def Nul (n c:Nat) (f:F2) (x:Nat->Rat):Prop:=∀i,i<n->sm c (fun j=>f i j*x j)=0
inductive RE (n c:Nat):F2->F2->Rat->Prop
 |same {f g:F2} (h:Eqm n c f g):RE n c f g 1
 |swap {f g:F2} (i k:Nat) (hi:i<n) (hk:k<n) (hik:i≠k) (h1:∀j,j<c->g i j=f k j) (h2:∀j,j<c->g k j=f i j) (h3:∀r,r<n->r≠i->r≠k->∀j,j<c->g r j=f r j):RE n c f g (-1)
 |scale {f g:F2} (i:Nat) (a:Rat) (hi:i<n) (ha:a≠0) (h1:∀j,j<c->g i j=a*f i j) (h3:∀r,r<n->r≠i->∀j,j<c->g r j=f r j):RE n c f g a
 |add {f g:F2} (i k:Nat) (a:Rat) (hi:i<n) (hk:k<n) (hik:i≠k) (h1:∀j,j<c->g i j=f i j+a*f k j) (h3:∀r,r<n->r≠i->∀j,j<c->g r j=f r j):RE n c f g 1
 |trans {f g h:F2} {a b:Rat} (h1:RE n c f g a) (h2:RE n c g h b):RE n c f h (a*b)
theorem RE.ne {n c:Nat} {f g:F2} {d:Rat} (h:RE n c f g d):d≠0:=by
 induction h with
 |same=>grind
 |swap=>grind
 |scale=>assumption
 |add=>grind
 |trans _ _ ih1 ih2=>intro e;rcases Rat.mul_eq_zero.1 e with h|h<;>contradiction
theorem RE.nul {n c:Nat} {f g:F2} {d:Rat} (h:RE n c f g d) (x:Nat->Rat):Nul n c f x↔Nul n c g x:=by
 induction h with
 |same h=>
  constructor
  ·intro hn i hi;rw[<-hn i hi];exact a0j fun j hj=>by rw[h i hi j hj]
  ·intro hn i hi;rw[<-hn i hi];exact a0j fun j hj=>by rw[h i hi j hj]
 |swap i k hi hk hik h1 h2 h3=>
  constructor
  ·intro hn r hr
   by_cases a:r=i
   ·subst a;rw[<-hn k hk];exact a0j fun j hj=>by rw[h1 j hj]
   ·by_cases b:r=k
    ·subst b;rw[<-hn i hi];exact a0j fun j hj=>by rw[h2 j hj]
    ·rw[<-hn r hr];exact a0j fun j hj=>by rw[h3 r hr a b j hj]
  ·intro hn r hr
   by_cases a:r=i
   ·subst a;rw[<-hn k hk];exact a0j fun j hj=>by rw[h2 j hj]
   ·by_cases b:r=k
    ·subst b;rw[<-hn i hi];exact a0j fun j hj=>by rw[h1 j hj]
    ·rw[<-hn r hr];exact a0j fun j hj=>by rw[h3 r hr a b j hj]
 |@scale f g i a hi ha h1 h3=>
  have key:sm c (fun j=>g i j*x j)=a*sm c (fun j=>f i j*x j):=by
   rw[<-a1l];exact a0j fun j hj=>by rw[h1 j hj];grind
  constructor
  ·intro hn r hr
   by_cases e:r=i
   ·subst e;rw[key,hn r hr];grind
   ·rw[<-hn r hr];exact a0j fun j hj=>by rw[h3 r hr e j hj]
  ·intro hn r hr
   by_cases e:r=i
   ·subst e;have:=hn r hr;rw[key]at this;rcases Rat.mul_eq_zero.1 this with h|h
    ·contradiction
    ·exact h
   ·rw[<-hn r hr];exact a0j fun j hj=>by rw[h3 r hr e j hj]
 |@add f g i k a hi hk hik h1 h3=>
  have key:sm c (fun j=>g i j*x j)=sm c (fun j=>f i j*x j)+a*sm c (fun j=>f k j*x j):=by
   rw[<-a1l,<-a6t];exact a0j fun j hj=>by rw[h1 j hj];grind
  constructor
  ·intro hn r hr
   by_cases e:r=i
   ·subst e;rw[key,hn r hr,hn k hk];grind
   ·rw[<-hn r hr];exact a0j fun j hj=>by rw[h3 r hr e j hj]
  ·intro hn r hr
   by_cases e:r=i
   ·subst e
    have h4:=hn r hr;rw[key]at h4;have h5:=hn k hk;rw[show sm c (fun j=>g k j*x j)=sm c (fun j=>f k j*x j)from a0j fun j hj=>by rw[h3 k hk (by omega) j hj]]at h5;rw[h5]at h4;grind
   ·rw[<-hn r hr];exact a0j fun j hj=>by rw[h3 r hr e j hj]
 |trans _ _ ih1 ih2=>exact ih1.trans ih2
def cmb (n:Nat) (f:F2) (y:Nat->Rat) (j:Nat):Rat:=sm n fun i=>y i*f i j
def LI (n c:Nat) (f:F2):Prop:=∀y:Nat->Rat,(∀j,j<c->cmb n f y j=0)->∀i,i<n->y i=0
theorem RE.li {n c:Nat} {f g:F2} {d:Rat} (h:RE n c f g d) (hf:LI n c f):LI n c g:=by
 induction h with
 |same h=>
  intro y hy;exact hf y fun j hj=>by rw[<-hy j hj];exact a0j fun i hi=>by rw[h i hi j hj]
 |@swap f g i k hi hk hik h1 h2 h3=>
  intro y hy;have:=hf (fun r=>if r=i then y k else if r=k then y i else y r) fun j hj=>by
   rw[<-hy j hj];refine b6U i k hi hk hik (fun r hr a b=>?_) ?_
   ·simp[a,b,h3 r hr a b j hj]
   ·simp[hik.symm,h1 j hj,h2 j hj];grind
  intro r hr;by_cases a:r=i
  ·subst a;simpa[hik.symm]using this k hk
  ·by_cases b:r=k
   ·subst b;simpa using this i hi
   ·simpa[a,b]using this r hr
 |@scale f g i a hi ha h1 h3=>
  intro y hy;have:=hf (fun r=>if r=i then a*y i else y r) fun j hj=>by
   rw[<-hy j hj];refine b7y i hi (fun r hr e=>?_) ?_
   ·simp[e,h3 r hr e j hj]
   ·simp[h1 j hj];grind
  intro r hr;by_cases e:r=i
  ·subst e
   have h4:=this r hr;simp only[if_true]at h4;rcases Rat.mul_eq_zero.1 h4 with h4|h4
   ·contradiction
   ·exact h4
  ·simpa[e]using this r hr
 |@add f g i k a hi hk hik h1 h3=>
  intro y hy;have:=hf (fun r=>if r=k then y k+a*y i else y r) fun j hj=>by
   rw[<-hy j hj];refine b6U i k hi hk hik (fun r hr a b=>?_) ?_
   ·simp[b,h3 r hr a j hj]
   ·simp[hik,h1 j hj,h3 k hk hik.symm j hj];grind
  intro r hr;have hyi:y i=0:=by simpa[hik]using this i hi
  by_cases e:r=k
  ·subst e
   have h4:=this r hr;simp[hyi]at h4;grind
  ·simpa[e]using this r hr
 |trans _ _ ih1 ih2=>exact ih2 (ih1 hf)
structure Rref (n c:Nat) (f:F2) (p:List Nat):Prop where
 le:p.length<=n
 lt:∀i (hi:i<p.length),p[i]<c
 inc:∀i k (hik:i<k) (hk:k<p.length),p[i]<p[k]
 left:∀i (hi:i<p.length),∀j,j<p[i]->f i j=0
 one:∀i (hi:i<p.length),f i p[i]=1
 zero:∀k (hk:k<p.length),∀i,i<n->i≠k->f i p[k]=0
 below:∀i,p.length<=i->i<n->∀j,j<c->f i j=0
def nv (f:F2) (p:List Nat) (j:Nat):Nat->Rat:=fun x=>if x=j then 1 else match p.findIdx? (· ==x)with|some i=> - f i j|none=>0
theorem Rref.idx {n c:Nat} {f:F2} {p:List Nat} (h:Rref n c f p) (i:Nat) (hi:i<p.length):p.findIdx? (· ==p[i])=some i:=by
 rw[List.findIdx?_eq_some_iff_getElem];refine⟨hi,by simp,fun j hj=>?_⟩;have:=h.inc j i hj hi;simp;omega
theorem b0m {p:List Nat} {x:Nat} (h:x∉p):p.findIdx? (· ==x)=none:=by
 rw[List.findIdx?_eq_none_iff];intro y hy;simp;rintro rfl;exact h hy
theorem Rref.nv_piv {n c:Nat} {f:F2} {p:List Nat} (h:Rref n c f p) {j:Nat} (hj:j∉p) (i:Nat) (hi:i<p.length):nv f p j p[i]= - f i j:=by
 unfold nv;rw[if_neg (by rintro e;exact hj (e▸List.getElem_mem _)),h.idx i hi]
theorem a4J {f:F2} {p:List Nat} (j:Nat):nv f p j j=1:=by simp[nv]
theorem a6v {f:F2} {p:List Nat} {j x:Nat} (hx:x∉p) (hj:x≠j):nv f p j x=0:=by
 unfold nv;rw[if_neg hj,b0m hx]
theorem Rref.row {n c:Nat} {f:F2} {p:List Nat} (h:Rref n c f p) (i:Nat) (hi:i<p.length) (x:Nat->Rat):sm c (fun j=>f i j*x j)=x p[i]+sm c (fun j=>if j∈p then 0 else f i j*x j):=by
 have e:sm c (fun j=>f i j*x j)=sm c (fun j=>(if j=p[i]then x p[i]else 0)+(if j∈p then 0 else f i j*x j)):=by
  refine a0j fun j hj=>?_;by_cases hp:j∈p
  ·obtain⟨k,hk,rfl⟩:=List.getElem_of_mem hp
   by_cases hki:i=k
   ·subst hki;simp[h.one i hi];grind
   ·have hne:p[k]≠p[i]:=by
     rcases Nat.lt_or_gt_of_ne hki with a|a
     ·have:=h.inc i k a hk;omega
     ·have:=h.inc k i a hi;omega
    simp[hne,h.zero k hk i (Nat.lt_of_lt_of_le hi h.le) hki];grind
  ·have hne:j≠p[i]:=by rintro rfl;exact hp (List.getElem_mem _)
   simp[hp,hne];grind
 rw[e,a6t,a1m p[i] (h.lt i hi) (fun j _ hj=>by simp[hj])];simp
theorem Rref.nv_nul {n c:Nat} {f:F2} {p:List Nat} (h:Rref n c f p) {j:Nat} (hj:j∉p) (hjc:j<c):Nul n c f (nv f p j):=by
 intro i hi;by_cases hip:i<p.length
 ·rw[h.row i hip,h.nv_piv hj i hip,a1m j hjc]
  ·simp[hj,a4J];grind
  ·intro k _ hkj
   by_cases hp:k∈p
   ·simp[hp]
   ·simp[hp,a6v hp hkj]
 ·exact a1V fun k hk=>by rw[h.below i (by omega) hi k hk];grind
theorem Rref.nv_supp {n c:Nat} {f:F2} {p:List Nat} (h:Rref n c f p) {j:Nat} (hj:j∉p) {x:Nat} (hx:j<x):nv f p j x=0:=by
 by_cases hp:x∈p
 ·obtain⟨k,hk,rfl⟩:=List.getElem_of_mem hp
  rw[h.nv_piv hj k hk,h.left k hk j hx];grind
 ·exact a6v hp (by omega)
theorem Rref.sub {n c:Nat} {f g:F2} {p q:List Nat} (hf:Rref n c f p) (hg:Rref n c g q) (hn:∀x,Nul n c f x->Nul n c g x) (j:Nat) (hj:j∈q):j∈p:=by
 refine Classical.byContradiction fun hjp=>?_;obtain⟨k,hk,rfl⟩:=List.getElem_of_mem hj;have h1:=hn _ (hf.nv_nul hjp (hg.lt k hk)) k (Nat.lt_of_lt_of_le hk hg.le);rw[a1m q[k] (hg.lt k hk)]at h1
 ·rw[hg.one k hk,a4J]at h1;grind
 ·intro x _ hx
  rcases Nat.lt_or_gt_of_ne hx with a|a
  ·rw[hg.left k hk x a];grind
  ·rw[hf.nv_supp hjp a];grind
theorem b0n:∀(p q:List Nat),p.Pairwise (· < ·)->q.Pairwise (· < ·)->(∀x,x∈p↔x∈q)->p=q
 | [],[],_,_,_=>rfl
 | [],b::q,_,_,h=>by have:=(h b).2 (by simp);simp at this
 |a::p,[],_,_,h=>by have:=(h a).1 (by simp);simp at this
 |a::p,b::q,hp,hq,h=>by
  rw[List.pairwise_cons]at hp hq;have hab:a=b:=by
   have h1:=(h a).1 (by simp);have h2:=(h b).2 (by simp);simp at h1 h2;rcases h1 with h1|h1
   ·exact h1
   ·rcases h2 with h2|h2
    ·exact h2.symm
    ·have:=hq.1 a h1;have:=hp.1 b h2;omega
  subst hab;rw[b0n p q hp.2 hq.2];intro x;have h3:=h x;simp at h3;constructor
  ·intro hx
   have:=hp.1 x hx;rcases h3.1 (.inr hx)with e|e
   ·omega
   ·exact e
  ·intro hx
   have:=hq.1 x hx;rcases h3.2 (.inr hx)with e|e
   ·omega
   ·exact e
theorem Rref.pw {n c:Nat} {f:F2} {p:List Nat} (h:Rref n c f p):p.Pairwise (· < ·):=by
 rw[List.pairwise_iff_getElem];intro i j hi hj hij;exact h.inc i j hij hj
theorem Rref.unique {n c:Nat} {f g:F2} {p q:List Nat} (hf:Rref n c f p) (hg:Rref n c g q) (hn:∀x,Nul n c f x↔Nul n c g x):p=q/\Eqm n c f g:=by
 have hpq:p=q:=b0n p q hf.pw hg.pw fun x=>⟨hg.sub hf (fun x h=>(hn x).2 h) x,hf.sub hg (fun x h=>(hn x).1 h) x⟩;subst hpq;refine⟨rfl,fun i hi j hj=>?_⟩;by_cases hip:i<p.length
 ·by_cases hjp:j∈p
  ·obtain⟨k,hk,rfl⟩:=List.getElem_of_mem hjp
   by_cases e:i=k
   ·subst e;rw[hf.one i hip,hg.one i hip]
   ·rw[hf.zero k hk i hi e,hg.zero k hk i hi e]
  ·have h1:=(hn _).1 (hf.nv_nul hjp hj) i hi
   rw[hg.row i hip,hf.nv_piv hjp i hip,a1m j hj]at h1
   ·simp[hjp,a4J]at h1;grind
   ·intro k _ hkj
    by_cases hp:k∈p
    ·simp[hp]
    ·simp[hp,a6v hp hkj]
 ·rw[hf.below i (by omega) hi j hj,hg.below i (by omega) hi j hj]
theorem RE.cast {n c:Nat} {f g:F2} {a b:Rat} (h:RE n c f g a) (e:a=b):RE n c f g b:=e▸h
theorem RE.then_ {n c:Nat} {f g h:F2} {a b d:Rat} (h1:RE n c f g a) (h2:RE n c g h b) (e:a*b=d):RE n c f h d:=e▸h1.trans h2
theorem RE.addmany {n c:Nat} {f g:F2} (k:Nat) (hk:k<n) (a:Nat->Rat) (h1:∀i,i<n->i≠k->∀j,j<c->g i j=f i j+a i*f k j) (h2:∀j,j<c->g k j=f k j):RE n c f g 1:=by
 have key:∀t,t<=n->RE n c f (fun i j=>if i<t then g i j else f i j) 1:=by
  intro t
  induction t with
  |zero=>intro _;exact .same fun i _ j _=>by simp
  |succ t ih=>
   intro ht;refine(ih (by omega)).then_ (b:=1) ?_ (by grind);by_cases e:t=k
   ·subst e
    refine .same fun i hi j hj=>?_;by_cases a:i<t
    ·simp[a,show i<t+1 by omega]
    ·by_cases b:i=t
     ·subst b;simp[h2 j hj]
     ·simp[a,show¬i<t+1 by omega]
   ·refine .add t k (a t) (by omega) hk e (fun j hj=>?_) (fun r hr hrt j hj=>?_)
    ·have h3:=h1 t (by omega) e j hj
     by_cases b:k<t
     ·simp[b,h3,h2 j hj]
     ·simp[b,h3]
    ·by_cases a:r<t
     ·simp[a,show r<t+1 by omega]
     ·simp[a,show¬r<t+1 by omega]
 refine(key n (Nat.le_refl _)).then_ (.same fun i hi j hj=>?_) (by grind);simp[hi]
structure Ech (n k:Nat) (f:F2) (p:List Nat):Prop where
 le:p.length<=n
 lt:∀i (hi:i<p.length),p[i]<k
 inc:∀i k (hik:i<k) (hk:k<p.length),p[i]<p[k]
 left:∀i (hi:i<p.length),∀j,j<p[i]->f i j=0
 piv:∀i (hi:i<p.length),f i p[i]≠0
 below:∀i,p.length<=i->i<n->∀j,j<k->f i j=0
theorem Ech.nil (n:Nat) (f:F2):Ech n 0 f []:=⟨by simp,by simp,by simp,by simp,by simp,by intros;omega⟩
theorem Ech.skip {n k:Nat} {f:F2} {p:List Nat} (h:Ech n k f p) (hz:∀i,p.length<=i->i<n->f i k=0):Ech n (k+1) f p:=
 ⟨h.le,fun i hi=>Nat.lt_succ_of_lt (h.lt i hi),h.inc,h.left,h.piv,fun i hi hn j hj=>by
  by_cases e:j=k
  ·subst e;exact hz i hi hn
  ·exact h.below i hi hn j (by omega)⟩
theorem b2B {p:List Nat} {k:Nat} (h:∀i (hi:i<p.length),p[i]<k) (i:Nat) (hi:i<(p++[k]).length):(p++[k])[i]<k+1:=by
 rw[List.getElem_append];split
 ·have:=h i (by assumption);omega
 ·simp
theorem b0o {p:List Nat} {c:Nat} (h:∀i (hi:i<p.length),p[i]<c) (h2:∀i k (hik:i<k) (hk:k<p.length),p[i]<p[k]) (i k:Nat) (hik:i<k) (hk:k<(p++[c]).length):(p++[c])[i]<(p++[c])[k]:=by
 simp at hk;rw[List.getElem_append,List.getElem_append];by_cases a:k<p.length
 ·simp[a,show i<p.length by omega];exact h2 i k hik a
 ·simp[a,show i<p.length by omega];exact h i (by omega)
theorem Ech.push {n k:Nat} {f g:F2} {p:List Nat} (h:Ech n k f p) (hp:p.length<n) (h0:∀i,i<p.length->∀j,g i j=f i j)
  (hz:∀i,p.length<=i->i<n->∀j,j<k->g i j=0) (hne:g p.length k≠0) (hb:∀i,p.length<i->i<n->g i k=0):Ech n (k+1) g (p++[k]):=by
 refine⟨by simp;omega,b2B h.lt,b0o h.lt h.inc,fun i hi j hj=>?_,fun i hi=>?_,fun i hi hn j hj=>?_⟩
 ·simp at hi
  rw[List.getElem_append]at hj;by_cases a:i<p.length
  ·simp[a]at hj;rw[h0 i a];exact h.left i a j hj
  ·simp[a]at hj;exact hz i (by omega) (by omega) j hj
 ·simp at hi
  rw[List.getElem_append];by_cases a:i<p.length
  ·simp only[a,dite_true];rw[h0 i a];exact h.piv i a
  ·obtain rfl:i=p.length:=by omega
   simpa using hne
 ·simp at hi
  by_cases e:j=k
  ·subst e;exact hb i (by omega) hn
  ·exact hz i (by omega) hn j (by omega)
structure Red (n t:Nat) (f:F2) (p:List Nat):Prop where
 one:∀i (hi:i<p.length),i<t->f i p[i]=1
 zero:∀k (hk:k<p.length),k<t->∀i,i<n->i≠k->f i p[k]=0
theorem Ech.rref {n c:Nat} {f:F2} {p:List Nat} (h:Ech n c f p) (hr:Red n p.length f p):Rref n c f p:=
 ⟨h.le,h.lt,h.inc,h.left,fun i hi=>hr.one i hi hi,fun k hk=>hr.zero k hk hk,h.below⟩
theorem Ech.under {n c:Nat} {f:F2} {p:List Nat} (h:Ech n c f p) (k:Nat) (hk:k<p.length) (i:Nat) (hi:i<n) (hki:k<i):f i p[k]=0:=by
 by_cases a:i<p.length
 ·exact h.left i a _ (h.inc k i hki a)
 ·exact h.below i (by omega) hi _ (h.lt k hk)
theorem Red.step {n c t:Nat} {f g:F2} {p:List Nat} (h:Ech n c f p) (hr:Red n t f p) (ht:t<p.length)
  (h1:∀j,g t j=f t j/f t p[t]) (h2:∀i,i<t->∀j,g i j=f i j - f i p[t]*g t j) (h3:∀i,t<i->∀j,g i j=f i j):Ech n c g p/\Red n (t+1) g p:=by
 have hpv:=h.piv t ht;have hz:∀j,j<p[t]->g t j=0:=fun j hj=>by rw[h1,h.left t ht j hj];grind
 have hone:g t p[t]=1:=by rw[h1];grind
 refine⟨⟨h.le,h.lt,h.inc,fun i hi j hj=>?_,fun i hi=>?_,fun i hi hn j hj=>?_⟩,⟨fun i hi hit=>?_,fun k hk hkt i hi hik=>?_⟩⟩
 ·rcases Nat.lt_trichotomy i t with a|a|a
  ·rw[h2 i a,h.left i hi j hj,hz j (by have:=h.inc i t a ht;omega)];grind
  ·subst a;exact hz j hj
  ·rw[h3 i a];exact h.left i hi j hj
 ·rcases Nat.lt_trichotomy i t with a|a|a
  ·rw[h2 i a,hz _ (h.inc i t a ht)];have:=h.piv i hi;grind
  ·subst a;rw[hone];grind
  ·rw[h3 i a];exact h.piv i hi
 ·rw[h3 i (by omega)];exact h.below i hi hn j hj
 ·rcases Nat.lt_trichotomy i t with a|a|a
  ·rw[h2 i a,hz _ (h.inc i t a ht),hr.one i hi a];grind
  ·subst a;exact hone
  ·omega
 ·rcases Nat.lt_trichotomy k t with b|b|b
  ·have hzk:g t p[k]=0:=hz _ (h.inc k t b ht)
   rcases Nat.lt_trichotomy i t with a|a|a
   ·rw[h2 i a,hzk,hr.zero k hk b i hi hik];grind
   ·subst a;exact hzk
   ·rw[h3 i a];exact hr.zero k hk b i hi hik
  ·subst b
   rcases Nat.lt_trichotomy i k with a|a|a
   ·rw[h2 i a,hone];grind
   ·omega
   ·rw[h3 i a];exact h.under k hk i hi a
  ·omega
theorem Rref.skip {n k:Nat} {f:F2} {p:List Nat} (h:Rref n k f p) (hz:∀i,p.length<=i->i<n->f i k=0):Rref n (k+1) f p:=
 ⟨h.le,fun i hi=>Nat.lt_succ_of_lt (h.lt i hi),h.inc,h.left,h.one,h.zero,fun i hi hn j hj=>by
  by_cases e:j=k
  ·subst e;exact hz i hi hn
  ·exact h.below i hi hn j (by omega)⟩
theorem Rref.nil (n:Nat) (f:F2):Rref n 0 f []:=⟨by simp,by simp,by simp,by simp,by simp,by simp,by intros;omega⟩
theorem Rref.push {n k:Nat} {f g:F2} {p:List Nat} (h:Rref n k f p) (hp:p.length<n) (hne:f p.length k≠0)
  (h1:∀j,g p.length j=f p.length j*(1/f p.length k)) (h2:∀i,i<n->i≠p.length->∀j,g i j=f i j+g p.length j* - f i k):Rref n (k+1) g (p++[k]):=by
 have hz:∀j,j<k->g p.length j=0:=fun j hj=>by rw[h1,h.below _ (Nat.le_refl _) hp j hj];grind
 have hone:g p.length k=1:=by rw[h1];grind
 have hk0:∀i,i<n->i≠p.length->g i k=0:=fun i hi e=>by rw[h2 i hi e,hone];grind
 have hs:∀i,i<n->∀j,j<k->g i j=f i j:=fun i hi j hj=>by
  by_cases e:i=p.length
  ·subst e;rw[hz j hj,h.below _ (Nat.le_refl _) hp j hj]
  ·rw[h2 i hi e,hz j hj];grind
 refine⟨by simp;omega,b2B h.lt,b0o h.lt h.inc,fun i hi j hj=>?_,fun i hi=>?_,fun q hq i hi hiq=>?_,fun i hi hn j hj=>?_⟩
 ·simp at hi
  rw[List.getElem_append]at hj;by_cases a:i<p.length
  ·simp[a]at hj;rw[hs i (by omega) j (by have:=h.lt i a;omega)];exact h.left i a j hj
  ·simp[a]at hj;obtain rfl:i=p.length:=by omega
   exact hz j hj
 ·simp at hi
  rw[List.getElem_append];by_cases a:i<p.length
  ·simp only[a,dite_true];rw[hs i (by omega) _ (h.lt i a)];exact h.one i a
  ·obtain rfl:i=p.length:=by omega
   simpa using hone
 ·simp at hq
  rw[List.getElem_append];by_cases a:q<p.length
  ·simp only[a,dite_true];rw[hs i hi _ (h.lt q a)];exact h.zero q a i hi hiq
  ·obtain rfl:q=p.length:=by omega
   simpa using hk0 i hi hiq
 ·simp at hi
  by_cases e:j=k
  ·subst e;exact hk0 i hn (by omega)
  ·rw[hs i hn j (by omega)];exact h.below i (by omega) hn j (by omega)
abbrev Mat:=List (List Rat)
def ent (m:Mat):F2:=fun i j=>(m.getD i []).getD j 0
def Shp (n c:Nat) (m:Mat):Prop:=m.length=n/\∀r∈m,r.length=c
theorem Shp.row {n c:Nat} {m:Mat} (h:Shp n c m) {i:Nat} (hi:i<n):(m.getD i []).length=c:=by
 have:i<m.length:=by rw[h.1];exact hi
 simp[List.getD_eq_getElem?_getD,this,h.2]
theorem a3E {n c:Nat} {m:Mat} (h:Shp n c m) {i j:Nat} (hij:n<=i\/c<=j):ent m i j=0:=by
 unfold ent;by_cases hi:i<n
 ·have:=h.row hi
  rw[List.getD_eq_getElem?_getD,List.getElem?_eq_none (by omega)];rfl
 ·have:=h.1
  rw[List.getD_eq_getElem?_getD (l:=m),List.getElem?_eq_none (by omega)];simp
theorem Shp.ext {n c:Nat} {m m':Mat} (h:Shp n c m) (h':Shp n c m') (he:Eqm n c (ent m) (ent m')):m=m':=by
 refine List.ext_getElem (h.1.trans h'.1.symm) fun i h1 h2=>?_;have hl1:=h.2 _ (List.getElem_mem h1);have hl2:=h'.2 _ (List.getElem_mem h2);refine List.ext_getElem (hl1.trans hl2.symm) fun j h3 h4=>?_;have:=he i (by rw[<-h.1];exact h1) j (by omega);simpa[ent,List.getD_eq_getElem?_getD,h1,h2,h3,h4]using this
theorem Shp.set {n c:Nat} {m:Mat} (h:Shp n c m) (i:Nat) {r:List Rat} (hr:r.length=c):Shp n c (m.set i r):=by
 refine⟨by simp[h.1],fun x hx=>?_⟩;rcases List.mem_or_eq_of_mem_set hx with a|a
 ·exact h.2 _ a
 ·rw[a];exact hr
theorem a7Q {m:Mat} {i:Nat} {r:List Rat} (hi:i<m.length) (k j:Nat):ent (m.set i r) k j=if k=i then r.getD j 0 else ent m k j:=by
 unfold ent;simp only[List.getD_eq_getElem?_getD,List.getElem?_set];by_cases e:k=i
 ·subst e;simp[hi]
 ·simp[e,Ne.symm e]
def rows (m:Mat) (f:Nat->List Rat->List Rat):Mat:=m.mapIdx f
theorem Shp.rows {n c:Nat} {m:Mat} (h:Shp n c m) {f:Nat->List Rat->List Rat} (hf:∀i,i<n->∀r:List Rat,r.length=c->(f i r).length=c):Shp n c (rows m f):=by
 refine⟨by simp[Lin.rows,h.1],fun x hx=>?_⟩;obtain⟨i,hi,rfl⟩:=List.getElem_of_mem hx;simp only[Lin.rows,List.length_mapIdx,List.getElem_mapIdx]at hi |-;exact hf i (by rw[<-h.1];exact hi) _ (h.2 _ (List.getElem_mem _))
theorem a7R {m:Mat} {f:Nat->List Rat->List Rat} {i:Nat} (hi:i<m.length) (j:Nat):ent (rows m f) i j=(f i (m.getD i [])).getD j 0:=by
 simp[ent,rows,List.getD_eq_getElem?_getD,hi]
def a1b (m:Mat) (i k:Nat):Mat:=(m.set i (m.getD k [])).set k (m.getD i [])
theorem Shp.swap {n c:Nat} {m:Mat} (h:Shp n c m) {i k:Nat} (hi:i<n) (hk:k<n):Shp n c (a1b m i k):=(h.set i (h.row hk)).set k (h.row hi)
theorem a3h {n c:Nat} {m:Mat} (h:Shp n c m) {i k:Nat} (hi:i<n) (hk:k<n) (r j:Nat):ent (a1b m i k) r j=if r=k then ent m i j else if r=i then ent m k j else ent m r j:=by
 unfold a1b;rw[a7Q (by simp[h.1,hk]),a7Q (by simp[h.1,hi])];rfl
theorem a5D (m:Mat) (i:Nat) (hi:i<m.length):a1b m i i=m:=by
 unfold a1b;simp[List.getD_eq_getElem?_getD,hi]
theorem b2C {n c:Nat} {m:Mat} (h:Shp n c m) {i k:Nat} (hi:i<n) (hk:k<n) (hik:i≠k):RE n c (ent m) (ent (a1b m i k)) (-1):=
 .swap i k hi hk hik (fun j _=>by rw[a3h h hi hk];simp[hik]) (fun j _=>by rw[a3h h hi hk];simp) (fun r _ a b j _=>by rw[a3h h hi hk];simp[a,b])
def a3a (row piv:List Rat) (col:Nat):List Rat:=List.zipWith (fun a x=>a - (row.getD col 0/piv.getD col 0)*x) row piv
theorem a3F (row piv:List Rat) (col:Nat) (h:row.length=piv.length):(a3a row piv col).length=piv.length:=by simp[a3a,h]
theorem a8K (row piv:List Rat) (col j:Nat) (h:row.length=piv.length):(a3a row piv col).getD j 0=row.getD j 0 - (row.getD col 0/piv.getD col 0)*piv.getD j 0:=by
 unfold a3a;simp only[List.getD_eq_getElem?_getD,List.getElem?_zipWith];by_cases hj:j<row.length
 ·simp[hj,show j<piv.length by omega]
 ·simp[show¬j<row.length by omega,show¬j<piv.length by omega];grind
theorem b1P (row piv:List Rat) (col:Nat) (h:row.length=piv.length) (h0:row.getD col 0/piv.getD col 0=0):a3a row piv col=row:=by
 refine List.ext_getElem (by simp[a3a,h]) fun i h1 h2=>?_;simp only[a3a,List.getElem_zipWith,h0];grind
abbrev St:=Mat×List Nat×Bool
def clear (m:Mat) (t col:Nat) (s:Nat):Mat:=rows m fun i r=>if t<i/\i<t+1+s then a3a r (m.getD t []) col else r
noncomputable def b2D (m:Mat) (t col:Nat):Option Nat:=(m.drop t).findIdx? fun r=>decide (r.getD col 0≠0)
noncomputable def a5E (s:St) (col:Nat):St:=
 if s.2.1.length=s.1.length then s else
 match b2D s.1 s.2.1.length col with
 |none=>s
 |some k=>(clear (a1b s.1 s.2.1.length (s.2.1.length+k)) s.2.1.length col s.1.length,s.2.1++[col],s.2.2 !=decide (k≠0))
noncomputable def eN (m:Mat):Nat->St
 |0=>(m,[],false)
 |k+1=>a5E (eN m k) k
theorem Shp.clear {n c:Nat} {m:Mat} (h:Shp n c m) {t:Nat} (ht:t<n) (col s:Nat):Shp n c (clear m t col s):=
 h.rows fun i hi r hr=>by
  split
  ·rw[a3F _ _ _ (by rw[hr,h.row ht]),h.row ht]
  ·exact hr
theorem a4Y {n c:Nat} {m:Mat} (h:Shp n c m) {t:Nat} (ht:t<n) (col s i j:Nat):ent (clear m t col s) i j=if t<i/\i<t+1+s/\i<n then ent m i j - (ent m i col/ent m t col)*ent m t j else ent m i j:=by
 by_cases hi:i<n
 ·unfold Lin.clear
  rw[a7R (by rw[h.1];exact hi)];by_cases a:t<i/\i<t+1+s
  ·simp only[a,and_self,if_true,hi]
   rw[a8K _ _ _ _ (by rw[h.row hi,h.row ht])];rfl
  ·rw[if_neg a,if_neg (fun b=>a ⟨b.1,b.2.1⟩)];rfl
 ·rw[a3E (h.clear ht col s) (.inl (by omega)),if_neg (by omega),a3E h (.inl (by omega))]
theorem b4Y {n c:Nat} {m:Mat} (h:Shp n c m) {t:Nat} (ht:t<n) (col s:Nat):RE n c (ent m) (ent (clear m t col s)) 1:=
 .addmany t ht (fun i=>if t<i/\i<t+1+s/\i<n then - (ent m i col/ent m t col)else 0)
  (fun i hi e j hj=>by rw[a4Y h ht];split<;>grind) (fun j hj=>by rw[a4Y h ht];simp)
theorem a8L {m:Mat} {t col:Nat} (h:b2D m t col=none) (i:Nat) (hi:t<=i):ent m i col=0:=by
 unfold b2D at h;rw[List.findIdx?_eq_none_iff]at h;by_cases a:i<m.length
 ·have:=h (m[i]) (by rw[List.mem_drop_iff_getElem];exact⟨i - t,by omega,by congr 1;omega⟩)
  unfold ent;simp only[List.getD_eq_getElem?_getD,a,getElem?_pos,Option.getD_some]at this |-;simpa using this
 ·unfold ent;rw[List.getD_eq_getElem?_getD (l:=m),List.getElem?_eq_none (by omega)];simp
theorem a3G {m:Mat} {t col k:Nat} (h:b2D m t col=some k):t+k<m.length/\ent m (t+k) col≠0:=by
 unfold b2D at h;rw[List.findIdx?_eq_some_iff_getElem]at h;obtain⟨h1,h2,_⟩:=h;simp at h1;refine⟨by omega,?_⟩;unfold ent;simp only[List.getElem_drop]at h2;have a:t+k<m.length:=by omega
 simp only[List.getD_eq_getElem?_getD,a,getElem?_pos,Option.getD_some]at h2 |-;simpa using h2
structure EOk (n c k:Nat) (m:Mat) (s:St):Prop where
 shp:Shp n c s.1
 ech:Ech n k (ent s.1) s.2.1
 re:RE n c (ent m) (ent s.1) (if s.2.2 then -1 else 1)
theorem EOk.zero {n c:Nat} {m:Mat} (h:Shp n c m):EOk n c 0 m (m,[],false):=⟨h,Ech.nil _ _, .same fun _ _ _ _=>rfl⟩
theorem EOk.step {n c k:Nat} {m:Mat} {s:St} (h:EOk n c k m s):EOk n c (k+1) m (a5E s k):=by
 obtain⟨M,p,odd⟩:=s;have hs:Shp n c M:=h.shp;have he:Ech n k (ent M) p:=h.ech;have hr:RE n c (ent m) (ent M) (if odd then -1 else 1):=h.re;have hl:=hs.1;unfold a5E
 dsimp only
 split
 ·rename_i e
  exact⟨hs,he.skip fun i hi hn=>by omega,hr⟩
 ·rename_i e
  split
  ·rename_i hz
   exact⟨hs,he.skip fun i hi _=>a8L hz i hi,hr⟩
  ·rename_i q hz
   obtain⟨h1,h2⟩:=a3G hz;have hp:p.length<n:=by have:=he.le;omega
   have hpq:p.length+q<n:=by omega
   have hs2:=hs.swap hp hpq;have hes:=fun i j=>a3h hs hp hpq i j;have hec:=fun i j=>a4Y hs2 hp k M.length i j;have hpiv:ent (a1b M p.length (p.length+q)) p.length k≠0:=by
    rw[hes];by_cases b:q=0
    ·subst b;simpa using h2
    ·simp[b];exact h2
   refine⟨hs2.clear hp _ _,he.push hp (fun i hi j=>?_) (fun i hi hn j hj=>?_) ?_ (fun i hi hn=>?_),?_⟩
   ·rw[hec,if_neg (by omega),hes,if_neg (by omega),if_neg (by omega)]
   ·have hz:∀i,p.length<=i->i<n->ent (a1b M p.length (p.length+q)) i j=0:=fun i hi hn=>by
     rw[hes];split
     ·exact he.below _ (by omega) hp j hj
     ·split
      ·exact he.below _ (by omega) hpq j hj
      ·exact he.below _ hi hn j hj
    rw[hec];split
    ·rw[hz i hi hn,hz p.length (Nat.le_refl _) hp];grind
    ·exact hz i hi hn
   ·rw[hec,if_neg (by omega)];exact hpiv
   ·rw[hec,if_pos ⟨hi,by omega,hn⟩];grind
   ·have hc:=b4Y hs2 hp k M.length
    by_cases b:q=0
    ·subst b
     rw[Nat.add_zero,a5D M _ (by omega)]at hc |-;exact hr.then_ hc (by cases odd<;>simp)
    ·exact hr.then_ ((b2C hs hp hpq (by omega)).then_ hc rfl) (by cases odd<;>simp[b];grind)
theorem a4z {n c:Nat} {m:Mat} (h:Shp n c m) (k:Nat):EOk n c k m (eN m k):=by
 induction k with
 |zero=>exact EOk.zero h
 |succ k ih=>exact ih.step
theorem b7z (m:Mat) (k:Nat) (h:(eN m k).2.1.length=(eN m k).1.length) (k':Nat) (hk:k<=k'):eN m k'=eN m k:=by
 induction k' with
 |zero=>
      have:k=0:=by omega
      subst this;rfl
 |succ k' ih=>
  by_cases e:k=k'+1
  ·subst e;rfl
  ·have:=ih (by omega)
   show a5E (eN m k') k'=_
   rw[this];unfold a5E;rw[if_pos h]
def divL (m:Mat) (i col:Nat):Mat:=m.set i ((m.getD i []).map (· /ent m i col))
def above (m:Mat) (i col s:Nat):Mat:=rows m fun k r=>if k<i/\k<s then a3a r (m.getD i []) col else r
def dStep (m:Mat) (i col:Nat):Mat:=above (divL m i col) i col i
theorem a8M (r:List Rat) (a:Rat) (j:Nat):(r.map (· /a)).getD j 0=r.getD j 0/a:=by
 simp only[List.getD_eq_getElem?_getD,List.getElem?_map];cases r[j]? with
 |none=>simp;grind
 |some x=>simp
theorem Shp.divL {n c:Nat} {m:Mat} (h:Shp n c m) {i:Nat} (hi:i<n) (col:Nat):Shp n c (divL m i col):=h.set i (by rw[List.length_map];exact h.row hi)
theorem a3i {n c:Nat} {m:Mat} (h:Shp n c m) {i:Nat} (hi:i<n) (col k j:Nat):ent (divL m i col) k j=if k=i then ent m i j/ent m i col else ent m k j:=by
 unfold divL;rw[a7Q (by rw[h.1];exact hi),a8M];rfl
theorem Shp.above {n c:Nat} {m:Mat} (h:Shp n c m) {t:Nat} (ht:t<n) (col s:Nat):Shp n c (above m t col s):=
 h.rows fun i hi r hr=>by
  split
  ·rw[a3F _ _ _ (by rw[hr,h.row ht]),h.row ht]
  ·exact hr
theorem a4Z {n c:Nat} {m:Mat} (h:Shp n c m) {t:Nat} (ht:t<n) (col s i j:Nat):ent (above m t col s) i j=if i<t/\i<s then ent m i j - (ent m i col/ent m t col)*ent m t j else ent m i j:=by
 by_cases hi:i<n
 ·unfold Lin.above
  rw[a7R (by rw[h.1];exact hi)];by_cases a:i<t/\i<s
  ·simp only[a,and_self,if_true]
   rw[a8K _ _ _ _ (by rw[h.row hi,h.row ht])];rfl
  ·rw[if_neg a,if_neg a];rfl
 ·rw[a3E (h.above ht col s) (.inl (by omega)),if_neg (by omega),a3E h (.inl (by omega))]
theorem b4Z {n c:Nat} {m:Mat} (h:Shp n c m) {t:Nat} (ht:t<n) (col s:Nat):RE n c (ent m) (ent (above m t col s)) 1:=
 .addmany t ht (fun i=>if i<t/\i<s then - (ent m i col/ent m t col)else 0)
  (fun i hi e j hj=>by rw[a4Z h ht];split<;>grind) (fun j hj=>by rw[a4Z h ht];simp)
theorem b7A {n c:Nat} {m:Mat} (h:Shp n c m) {i:Nat} (hi:i<n) (col:Nat) (hne:ent m i col≠0):RE n c (ent m) (ent (divL m i col)) (1/ent m i col):=
 .scale i _ hi (by intro e;grind) (fun j _=>by rw[a3i h hi];simp;grind) (fun r _ hr j _=>by rw[a3i h hi,if_neg hr])
noncomputable def dN (m:Mat) (p:List Nat):Nat->Mat
 |0=>m
 |t+1=>dStep (dN m p t) t (p.getD t 0)
structure DOk (n c t:Nat) (m:Mat) (p:List Nat) (s:Mat):Prop where
 shp:Shp n c s
 ech:Ech n c (ent s) p
 red:Red n t (ent s) p
 re:∃d,RE n c (ent m) (ent s) d
theorem DOk.step {n c t:Nat} {m:Mat} {p:List Nat} {s:Mat} (h:DOk n c t m p s) (ht:t<p.length):DOk n c (t+1) m p (dStep s t (p.getD t 0)):=by
 have htn:t<n:=Nat.lt_of_lt_of_le ht h.ech.le;have hp:p.getD t 0=p[t]:=by simp[List.getD_eq_getElem?_getD,ht]
 rw[hp];have hd:=h.shp.divL htn p[t];have hpv:=h.ech.piv t ht;have e1:=fun k j=>a3i h.shp htn p[t] k j;have e2:=fun i j=>a4Z hd htn p[t] t i j;obtain⟨d,hre⟩:=h.re;have hone:ent (divL s t p[t]) t p[t]=1:=by rw[e1];simp;grind
 have hrow:∀j,ent (dStep s t p[t]) t j=ent s t j/ent s t p[t]:=fun j=>by
  unfold dStep;rw[e2,if_neg (by omega),e1];simp
 have:=Red.step (g:=ent (dStep s t p[t])) h.ech h.red ht hrow (fun i hi j=>by
   rw[hrow];unfold dStep;rw[e2,if_pos ⟨hi,hi⟩,hone,e1,e1,e1,if_neg (by omega),if_neg (by omega),if_pos rfl];grind) (fun i hi j=>by
   unfold dStep;rw[e2,if_neg (by omega),e1,if_neg (by omega)])
 exact⟨hd.above htn _ _,this.1,this.2,_,hre.trans ((b7A h.shp htn _ hpv).trans (b4Z hd htn _ _))⟩
theorem b7B {n c:Nat} {m:Mat} {p:List Nat} (h:Shp n c m) (he:Ech n c (ent m) p) (t:Nat) (ht:t<=p.length):DOk n c t m p (dN m p t):=by
 induction t with
 |zero=>exact⟨h,he,⟨by intros;omega,by intros;omega⟩,1, .same fun _ _ _ _=>rfl⟩
 |succ t ih=>exact(ih (by omega)).step (by omega)
noncomputable def a0N (m:Mat) (c:Nat):Mat×List Nat:=(dN (eN m c).1 (eN m c).2.1 (eN m c).2.1.length,(eN m c).2.1)
theorem a0Z {n c:Nat} {m:Mat} (h:Shp n c m):Shp n c (a0N m c).1/\Rref n c (ent (a0N m c).1) (a0N m c).2/\∃d,RE n c (ent m) (ent (a0N m c).1) d:=by
 have h1:=a4z h c;have h2:=b7B h1.shp h1.ech _ (Nat.le_refl _);obtain⟨d,h3⟩:=h2.re;exact⟨h2.shp,h2.ech.rref h2.red,_,h1.re.trans h3⟩
abbrev Sr:=Mat×List Nat×Rat
def pv (m:Mat) (t col:Nat):Mat:=m.set t ((m.getD t []).map (· *(1/ent m t col)))
def out (m:Mat) (t col:Nat) (s:Nat):Mat:=rows m fun i r=>if i≠t/\i<s then List.zipWith (· + ·) r ((m.getD t []).map (· * - r.getD col 0))else r
noncomputable def a5F (s:Sr) (col:Nat):Sr:=
 match b2D s.1 s.2.1.length col with
 |none=>s
 |some k=>(out (pv (a1b s.1 (s.2.1.length+k) s.2.1.length) s.2.1.length col) s.2.1.length col s.1.length,s.2.1++[col],(if k=0 then s.2.2 else - s.2.2)*ent (a1b s.1 (s.2.1.length+k) s.2.1.length) s.2.1.length col)
noncomputable def rN (m:Mat):Nat->Sr
 |0=>(m,[],1)
 |k+1=>a5F (rN m k) k
theorem a5Y (r:List Rat) (a:Rat) (j:Nat):(r.map (· *a)).getD j 0=r.getD j 0*a:=by
 simp only[List.getD_eq_getElem?_getD,List.getElem?_map];cases r[j]? with
 |none=>simp
 |some x=>simp
theorem b7C (a b:List Rat) (h:a.length=b.length) (j:Nat):(List.zipWith (· + ·) a b).getD j 0=a.getD j 0+b.getD j 0:=by
 simp only[List.getD_eq_getElem?_getD,List.getElem?_zipWith];by_cases hj:j<a.length
 ·simp[hj,show j<b.length by omega]
 ·simp[show¬j<a.length by omega,show¬j<b.length by omega];grind
theorem Shp.pv {n c:Nat} {m:Mat} (h:Shp n c m) {i:Nat} (hi:i<n) (col:Nat):Shp n c (pv m i col):=h.set i (by rw[List.length_map];exact h.row hi)
theorem b2E {n c:Nat} {m:Mat} (h:Shp n c m) {i:Nat} (hi:i<n) (col k j:Nat):ent (pv m i col) k j=if k=i then ent m i j*(1/ent m i col)else ent m k j:=by
 unfold pv;rw[a7Q (by rw[h.1];exact hi),a5Y];rfl
theorem Shp.out {n c:Nat} {m:Mat} (h:Shp n c m) {t:Nat} (ht:t<n) (col s:Nat):Shp n c (out m t col s):=
 h.rows fun i hi r hr=>by
  split
  ·rw[List.length_zipWith,List.length_map,hr,h.row ht];omega
  ·exact hr
theorem b0p {n c:Nat} {m:Mat} (h:Shp n c m) {t:Nat} (ht:t<n) (col s i j:Nat):ent (out m t col s) i j=if i≠t/\i<s/\i<n then ent m i j+ent m t j* - ent m i col else ent m i j:=by
 by_cases hi:i<n
 ·unfold Lin.out
  rw[a7R (by rw[h.1];exact hi)];by_cases a:i≠t/\i<s
  ·rw[if_pos a,if_pos ⟨a.1,a.2,hi⟩,b7C _ _ (by rw[List.length_map,h.row hi,h.row ht]),a5Y];rfl
  ·rw[if_neg a,if_neg (fun b=>a ⟨b.1,b.2.1⟩)];rfl
 ·rw[a3E (h.out ht col s) (.inl (by omega)),if_neg (by omega),a3E h (.inl (by omega))]
structure ROk (n c k:Nat) (m:Mat) (s:Sr):Prop where
 shp:Shp n c s.1
 ref:Rref n k (ent s.1) s.2.1
 re:∃d,RE n c (ent m) (ent s.1) d/\s.2.2*d=1
theorem ROk.step {n c k:Nat} {m:Mat} {s:Sr} (h:ROk n c k m s):ROk n c (k+1) m (a5F s k):=by
 obtain⟨M,p,fac⟩:=s;have hs:Shp n c M:=h.shp;have he:Rref n k (ent M) p:=h.ref;obtain⟨d,hr,hd⟩:∃d,RE n c (ent m) (ent M) d/\fac*d=1:=h.re;have hl:=hs.1;unfold a5F
 dsimp only
 split
 ·rename_i hz
  exact⟨hs,he.skip fun i hi _=>a8L hz i hi,d,hr,hd⟩
 ·rename_i q hz
  obtain⟨h1,h2⟩:=a3G hz;have hp:p.length<n:=by omega
  have hpq:p.length+q<n:=by omega
  have hs2:=hs.swap hpq hp;have hes:=fun i j=>a3h hs hpq hp i j;have hs3:=hs2.pv hp k;have hep:=fun i j=>b2E hs2 hp k i j;have heo:=fun i j=>b0p hs3 hp k M.length i j;have hpiv:ent (a1b M (p.length+q) p.length) p.length k≠0:=by rw[hes,if_pos rfl];exact h2
  have hsw:Rref n k (ent (a1b M (p.length+q) p.length)) p:=by
   have hsm:∀i,i<p.length->∀j,ent (a1b M (p.length+q) p.length) i j=ent M i j:=fun i hi j=>by
    rw[hes,if_neg (by omega),if_neg (by omega)]
   have hz0:∀i,p.length<=i->i<n->∀j,j<k->ent (a1b M (p.length+q) p.length) i j=0:=fun i hi hn j hj=>by
    rw[hes];split
    ·exact he.below _ (by omega) hpq j hj
    ·split
     ·exact he.below _ (by omega) hp j hj
     ·exact he.below _ hi hn j hj
   refine⟨he.le,he.lt,he.inc,fun i hi j hj=>by rw[hsm i hi];exact he.left i hi j hj,fun i hi=>by rw[hsm i hi];exact he.one i hi,fun t ht i hi hit=>?_,hz0⟩;by_cases a:i<p.length
   ·rw[hsm i a];exact he.zero t ht i hi hit
   ·exact hz0 i (by omega) hi _ (he.lt t ht)
  have hrow:∀j,ent (out (pv (a1b M (p.length+q) p.length) p.length k) p.length k M.length) p.length j=ent (a1b M (p.length+q) p.length) p.length j*(1/ent (a1b M (p.length+q) p.length) p.length k):=fun j=>by
   rw[heo,if_neg (by omega),hep,if_pos rfl]
  refine⟨hs3.out hp _ _,hsw.push hp hpiv hrow (fun i hi hne j=>?_),?_⟩
  ·rw[hrow,heo,if_pos ⟨hne,by omega,hi⟩,hep,hep,hep,if_neg hne,if_neg hne,if_pos rfl]
  ·have hre3:RE n c (ent (a1b M (p.length+q) p.length)) (ent (pv (a1b M (p.length+q) p.length) p.length k)) (1/ent (a1b M (p.length+q) p.length) p.length k):=
    .scale p.length _ hp (by intro e;grind) (fun j _=>by rw[hep];simp;grind) (fun r _ hr j _=>by rw[hep,if_neg hr])
   have hre4:RE n c (ent (pv (a1b M (p.length+q) p.length) p.length k)) (ent (out (pv (a1b M (p.length+q) p.length) p.length k) p.length k M.length)) 1:=
    .addmany p.length hp (fun i=>if i≠p.length/\i<M.length/\i<n then - ent (pv (a1b M (p.length+q) p.length) p.length k) i k else 0)
     (fun i hi e j hj=>by rw[heo];split<;>grind) (fun j hj=>by rw[heo];simp)
   by_cases b:q=0
   ·subst b
    rw[Nat.add_zero,a5D M _ (by omega)]at hre3 hre4 hpiv |-;exact⟨_,hr.trans (hre3.trans hre4),by simp;grind⟩
   ·exact⟨_,hr.trans ((b2C hs hpq hp (by omega)).trans (hre3.trans hre4)),by simp[b];grind⟩
theorem b1Q {n c:Nat} {m:Mat} (h:Shp n c m) (k:Nat):ROk n c k m (rN m k):=by
 induction k with
 |zero=>exact⟨h,Rref.nil _ _,1, .same fun _ _ _ _=>rfl,by show(1:Rat)*1=1;grind⟩
 |succ k ih=>exact ih.step
theorem b2F {n c:Nat} {m:Mat} (h:Shp n c m):(a0N m c).1=(rN m c).1/\(a0N m c).2=(rN m c).2.1:=by
 obtain⟨h1,h2,d,h3⟩:=a0Z h;have h4:=b1Q h c;obtain⟨e,h5,_⟩:=h4.re;have:=h2.unique h4.ref fun x=>((h3.nul x).symm.trans (h5.nul x));exact⟨h1.ext h4.shp this.2,this.1⟩
def det:Nat->F2->Rat
 |0,_=>1
 |n+1,f=>sm (n+1) fun i=>(if i%2=0 then 1 else -1)*f i 0*det n fun r c=>f (if r<i then r else r+1) (c+1)
theorem a1n {n:Nat} {f g:F2} (h:Eqm n n f g):det n f=det n g:=by
 induction n generalizing f g with
 |zero=>rfl
 |succ n ih=>
  unfold det;refine a0j fun i hi=>?_;rw[h i hi 0 (by omega),ih (g:=fun r c=>g (if r<i then r else r+1) (c+1)) fun r hr c hc=>h _ (by split<;>omega) _ (by omega)]
theorem c0Q (f:F2):det 0 f=1:=rfl
theorem a8N (f:F2):det 1 f=f 0 0:=by simp[det,sm];grind
theorem a8O (f:F2):det 2 f=f 0 0*f 1 1 - f 1 0*f 0 1:=by simp[det,sm];grind
theorem a8P (f:F2):det 3 f=f 0 0*(f 1 1*f 2 2 - f 2 1*f 1 2) - f 1 0*(f 0 1*f 2 2 - f 2 1*f 0 2)+f 2 0*(f 0 1*f 1 2 - f 1 1*f 0 2):=by
 simp[det,sm];grind
theorem a8Q (f:F2):det 4 f=f 0 0*(f 1 1*(f 2 2*f 3 3 - f 3 2*f 2 3) - f 2 1*(f 1 2*f 3 3 - f 3 2*f 1 3)+f 3 1*(f 1 2*f 2 3 - f 2 2*f 1 3))
  - f 1 0*(f 0 1*(f 2 2*f 3 3 - f 3 2*f 2 3) - f 2 1*(f 0 2*f 3 3 - f 3 2*f 0 3)+f 3 1*(f 0 2*f 2 3 - f 2 2*f 0 3))
  +f 2 0*(f 0 1*(f 1 2*f 3 3 - f 3 2*f 1 3) - f 1 1*(f 0 2*f 3 3 - f 3 2*f 0 3)+f 3 1*(f 0 2*f 1 3 - f 1 2*f 0 3))
  - f 3 0*(f 0 1*(f 1 2*f 2 3 - f 2 2*f 1 3) - f 1 1*(f 0 2*f 2 3 - f 2 2*f 0 3)+f 2 1*(f 0 2*f 1 3 - f 1 2*f 0 3)):=by
 simp[det,sm];grind
theorem lt4 {P:Nat->Prop} (h0:P 0) (h1:P 1) (h2:P 2) (h3:P 3) (i:Nat) (hi:i<4):P i:=by
 match i,hi with
 |0,_=>exact h0
 |1,_=>exact h1
 |2,_=>exact h2
 |3,_=>exact h3
theorem lt1 {P:Nat->Prop} (h0:P 0) (i:Nat) (hi:i<1):P i:=by
 match i,hi with
 |0,_=>exact h0
theorem b2G (f g:F2) (i k:Nat) (hi:i<1) (hk:k<1) (hik:i≠k) (h1:∀j,j<1->g i j=f k j) (h2:∀j,j<1->g k j=f i j) (h3:∀r,r<1->r≠i->r≠k->∀j,j<1->g r j=f r j):det 1 g= - det 1 f:=by
 have e:Eqm 1 1 g (fun r j=>if r=i then f k j else if r=k then f i j else f r j):=fun r hr j hj=>by
  dsimp only;split
  ·subst_vars;exact h1 j hj
  ·split
   ·subst_vars;exact h2 j hj
   ·exact h3 r hr (by assumption) (by assumption) j hj
 rw[a1n e];clear e h1 h2 h3
 revert hik
 revert k
 revert i
 refine lt1 ?_<;>refine lt1 ?_<;>intro hik<;>first|exact absurd rfl hik|(rw[a8N,a8N];simp;try grind)
theorem b1R (f g:F2) (i:Nat) (a:Rat) (hi:i<1) (h1:∀j,j<1->g i j=a*f i j) (h3:∀r,r<1->r≠i->∀j,j<1->g r j=f r j):det 1 g=a*det 1 f:=by
 have e:Eqm 1 1 g (fun r j=>if r=i then a*f i j else f r j):=fun r hr j hj=>by
  dsimp only;split
  ·subst_vars;exact h1 j hj
  ·exact h3 r hr (by assumption) j hj
 rw[a1n e];clear e h1 h3
 revert i
 refine lt1 ?_<;>(rw[a8N,a8N];simp;try grind)
theorem b5a (f g:F2) (i k:Nat) (a:Rat) (hi:i<1) (hk:k<1) (hik:i≠k) (h1:∀j,j<1->g i j=f i j+a*f k j) (h3:∀r,r<1->r≠i->∀j,j<1->g r j=f r j):det 1 g=det 1 f:=by
 have e:Eqm 1 1 g (fun r j=>if r=i then f i j+a*f k j else f r j):=fun r hr j hj=>by
  dsimp only;split
  ·subst_vars;exact h1 j hj
  ·exact h3 r hr (by assumption) j hj
 rw[a1n e];clear e h1 h3
 revert hik
 revert k
 revert i
 refine lt1 ?_<;>refine lt1 ?_<;>intro hik<;>first|exact absurd rfl hik|(rw[a8N,a8N];simp;try grind)
theorem b5b (f:F2) (_h:∀i j,i<1->j<i->f i j=0):det 1 f=f 0 0:=by
 rw[a8N]
theorem lt2 {P:Nat->Prop} (h0:P 0) (h1:P 1) (i:Nat) (hi:i<2):P i:=by
 match i,hi with
 |0,_=>exact h0
 |1,_=>exact h1
theorem b2H (f g:F2) (i k:Nat) (hi:i<2) (hk:k<2) (hik:i≠k) (h1:∀j,j<2->g i j=f k j) (h2:∀j,j<2->g k j=f i j) (h3:∀r,r<2->r≠i->r≠k->∀j,j<2->g r j=f r j):det 2 g= - det 2 f:=by
 have e:Eqm 2 2 g (fun r j=>if r=i then f k j else if r=k then f i j else f r j):=fun r hr j hj=>by
  dsimp only;split
  ·subst_vars;exact h1 j hj
  ·split
   ·subst_vars;exact h2 j hj
   ·exact h3 r hr (by assumption) (by assumption) j hj
 rw[a1n e];clear e h1 h2 h3
 revert hik
 revert k
 revert i
 refine lt2 ?_ ?_<;>refine lt2 ?_ ?_<;>intro hik<;>first|exact absurd rfl hik|(rw[a8O,a8O];simp;try grind)
theorem b1S (f g:F2) (i:Nat) (a:Rat) (hi:i<2) (h1:∀j,j<2->g i j=a*f i j) (h3:∀r,r<2->r≠i->∀j,j<2->g r j=f r j):det 2 g=a*det 2 f:=by
 have e:Eqm 2 2 g (fun r j=>if r=i then a*f i j else f r j):=fun r hr j hj=>by
  dsimp only;split
  ·subst_vars;exact h1 j hj
  ·exact h3 r hr (by assumption) j hj
 rw[a1n e];clear e h1 h3
 revert i
 refine lt2 ?_ ?_<;>(rw[a8O,a8O];simp;try grind)
theorem b5c (f g:F2) (i k:Nat) (a:Rat) (hi:i<2) (hk:k<2) (hik:i≠k) (h1:∀j,j<2->g i j=f i j+a*f k j) (h3:∀r,r<2->r≠i->∀j,j<2->g r j=f r j):det 2 g=det 2 f:=by
 have e:Eqm 2 2 g (fun r j=>if r=i then f i j+a*f k j else f r j):=fun r hr j hj=>by
  dsimp only;split
  ·subst_vars;exact h1 j hj
  ·exact h3 r hr (by assumption) j hj
 rw[a1n e];clear e h1 h3
 revert hik
 revert k
 revert i
 refine lt2 ?_ ?_<;>refine lt2 ?_ ?_<;>intro hik<;>first|exact absurd rfl hik|(rw[a8O,a8O];simp;try grind)
theorem b5d (f:F2) (h:∀i j,i<2->j<i->f i j=0):det 2 f=f 0 0*f 1 1:=by
 have z10:=h 1 0 (by omega) (by omega);rw[a8O];simp[z10];try grind
theorem lt3 {P:Nat->Prop} (h0:P 0) (h1:P 1) (h2:P 2) (i:Nat) (hi:i<3):P i:=by
 match i,hi with
 |0,_=>exact h0
 |1,_=>exact h1
 |2,_=>exact h2
theorem b2I (f g:F2) (i k:Nat) (hi:i<3) (hk:k<3) (hik:i≠k) (h1:∀j,j<3->g i j=f k j) (h2:∀j,j<3->g k j=f i j) (h3:∀r,r<3->r≠i->r≠k->∀j,j<3->g r j=f r j):det 3 g= - det 3 f:=by
 have e:Eqm 3 3 g (fun r j=>if r=i then f k j else if r=k then f i j else f r j):=fun r hr j hj=>by
  dsimp only;split
  ·subst_vars;exact h1 j hj
  ·split
   ·subst_vars;exact h2 j hj
   ·exact h3 r hr (by assumption) (by assumption) j hj
 rw[a1n e];clear e h1 h2 h3
 revert hik
 revert k
 revert i
 refine lt3 ?_ ?_ ?_<;>refine lt3 ?_ ?_ ?_<;>intro hik<;>first|exact absurd rfl hik|(rw[a8P,a8P];simp;try grind)
theorem b1T (f g:F2) (i:Nat) (a:Rat) (hi:i<3) (h1:∀j,j<3->g i j=a*f i j) (h3:∀r,r<3->r≠i->∀j,j<3->g r j=f r j):det 3 g=a*det 3 f:=by
 have e:Eqm 3 3 g (fun r j=>if r=i then a*f i j else f r j):=fun r hr j hj=>by
  dsimp only;split
  ·subst_vars;exact h1 j hj
  ·exact h3 r hr (by assumption) j hj
 rw[a1n e];clear e h1 h3
 revert i
 refine lt3 ?_ ?_ ?_<;>(rw[a8P,a8P];simp;try grind)
theorem b5e (f g:F2) (i k:Nat) (a:Rat) (hi:i<3) (hk:k<3) (hik:i≠k) (h1:∀j,j<3->g i j=f i j+a*f k j) (h3:∀r,r<3->r≠i->∀j,j<3->g r j=f r j):det 3 g=det 3 f:=by
 have e:Eqm 3 3 g (fun r j=>if r=i then f i j+a*f k j else f r j):=fun r hr j hj=>by
  dsimp only;split
  ·subst_vars;exact h1 j hj
  ·exact h3 r hr (by assumption) j hj
 rw[a1n e];clear e h1 h3
 revert hik
 revert k
 revert i
 refine lt3 ?_ ?_ ?_<;>refine lt3 ?_ ?_ ?_<;>intro hik<;>first|exact absurd rfl hik|(rw[a8P,a8P];simp;try grind)
theorem b5f (f:F2) (h:∀i j,i<3->j<i->f i j=0):det 3 f=f 0 0*f 1 1*f 2 2:=by
 have z10:=h 1 0 (by omega) (by omega);have z20:=h 2 0 (by omega) (by omega);have z21:=h 2 1 (by omega) (by omega);rw[a8P];simp[z10,z20,z21];try grind
theorem b2J (f g:F2) (i k:Nat) (hi:i<4) (hk:k<4) (hik:i≠k) (h1:∀j,j<4->g i j=f k j) (h2:∀j,j<4->g k j=f i j) (h3:∀r,r<4->r≠i->r≠k->∀j,j<4->g r j=f r j):det 4 g= - det 4 f:=by
 have e:Eqm 4 4 g (fun r j=>if r=i then f k j else if r=k then f i j else f r j):=fun r hr j hj=>by
  dsimp only;split
  ·subst_vars;exact h1 j hj
  ·split
   ·subst_vars;exact h2 j hj
   ·exact h3 r hr (by assumption) (by assumption) j hj
 rw[a1n e];clear e h1 h2 h3
 revert hik
 revert k
 revert i
 refine lt4 ?_ ?_ ?_ ?_<;>refine lt4 ?_ ?_ ?_ ?_<;>intro hik<;>first|exact absurd rfl hik|(rw[a8Q,a8Q];simp;try grind)
theorem b1U (f g:F2) (i:Nat) (a:Rat) (hi:i<4) (h1:∀j,j<4->g i j=a*f i j) (h3:∀r,r<4->r≠i->∀j,j<4->g r j=f r j):det 4 g=a*det 4 f:=by
 have e:Eqm 4 4 g (fun r j=>if r=i then a*f i j else f r j):=fun r hr j hj=>by
  dsimp only;split
  ·subst_vars;exact h1 j hj
  ·exact h3 r hr (by assumption) j hj
 rw[a1n e];clear e h1 h3
 revert i
 refine lt4 ?_ ?_ ?_ ?_<;>(rw[a8Q,a8Q];simp;try grind)
theorem b5g (f g:F2) (i k:Nat) (a:Rat) (hi:i<4) (hk:k<4) (hik:i≠k) (h1:∀j,j<4->g i j=f i j+a*f k j) (h3:∀r,r<4->r≠i->∀j,j<4->g r j=f r j):det 4 g=det 4 f:=by
 have e:Eqm 4 4 g (fun r j=>if r=i then f i j+a*f k j else f r j):=fun r hr j hj=>by
  dsimp only;split
  ·subst_vars;exact h1 j hj
  ·exact h3 r hr (by assumption) j hj
 rw[a1n e];clear e h1 h3
 revert hik
 revert k
 revert i
 refine lt4 ?_ ?_ ?_ ?_<;>refine lt4 ?_ ?_ ?_ ?_<;>intro hik<;>first|exact absurd rfl hik|(rw[a8Q,a8Q];simp;try grind)
theorem b5h (f:F2) (h:∀i j,i<4->j<i->f i j=0):det 4 f=f 0 0*f 1 1*f 2 2*f 3 3:=by
 have z10:=h 1 0 (by omega) (by omega);have z20:=h 2 0 (by omega) (by omega);have z21:=h 2 1 (by omega) (by omega);have z30:=h 3 0 (by omega) (by omega);have z31:=h 3 1 (by omega) (by omega);have z32:=h 3 2 (by omega) (by omega);rw[a8Q];simp[z10,z20,z21,z30,z31,z32];try grind
theorem RE.det_same {n:Nat} {f g:F2} {d:Rat} (hn:n<=4) (h:RE n n f g d):det n g=d*det n f:=by
 induction h with
 |same h=>rw[a1n h];grind
 |swap i k hi hk hik h1 h2 h3=>
  match n,hn with
  |1,_=>rw[b2G _ _ i k hi hk hik h1 h2 h3];grind
  |2,_=>rw[b2H _ _ i k hi hk hik h1 h2 h3];grind
  |3,_=>rw[b2I _ _ i k hi hk hik h1 h2 h3];grind
  |4,_=>rw[b2J _ _ i k hi hk hik h1 h2 h3];grind
 |scale i a hi ha h1 h3=>
  match n,hn with
  |1,_=>exact b1R _ _ i a hi h1 h3
  |2,_=>exact b1S _ _ i a hi h1 h3
  |3,_=>exact b1T _ _ i a hi h1 h3
  |4,_=>exact b1U _ _ i a hi h1 h3
 |add i k a hi hk hik h1 h3=>
  match n,hn with
  |1,_=>rw[b5a _ _ i k a hi hk hik h1 h3];grind
  |2,_=>rw[b5c _ _ i k a hi hk hik h1 h3];grind
  |3,_=>rw[b5e _ _ i k a hi hk hik h1 h3];grind
  |4,_=>rw[b5g _ _ i k a hi hk hik h1 h3];grind
 |trans _ _ ih1 ih2=>rw[ih2,ih1];grind
def pr:Nat->(Nat->Rat)->Rat
 |0,_=>1
 |n+1,f=>pr n f*f n
theorem b7D {n:Nat} (hn:n<=4) (f:F2) (h:∀i j,i<n->j<i->f i j=0):det n f=pr n fun i=>f i i:=by
 match n,hn with
 |0,_=>rfl
 |1,_=>rw[b5b f h];simp[pr];try grind
 |2,_=>rw[b5d f h];simp[pr];try grind
 |3,_=>rw[b5f f h];simp[pr];try grind
 |4,_=>rw[b5h f h];simp[pr];try grind
theorem b0q {n:Nat} (hn:n<=4) (f:F2) (i:Nat) (hi:i<n) (h:∀j,j<n->f i j=0):det n f=0:=by
 have:=(RE.scale (n:=n) (c:=n) (f:=f) (g:=f) i 2 hi (by grind) (fun j hj=>by rw[h j hj];grind) (fun _ _ _ _ _=>rfl)).det_same hn;grind
theorem Ech.ge {n k:Nat} {f:F2} {p:List Nat} (h:Ech n k f p) (i:Nat) (hi:i<p.length):i<=p[i]:=by
 induction i with
 |zero=>omega
 |succ i ih=>have:=ih (by omega);have:=h.inc i (i+1) (by omega) hi;omega
theorem Ech.det {n:Nat} {f:F2} {p:List Nat} (hn:n<=4) (h:Ech n n f p):Lin.det n f=pr n fun i=>f i i:=
 b7D hn f fun i j hi hj=>by
  by_cases a:i<p.length
  ·exact h.left i a j (by have:=h.ge i a;omega)
  ·exact h.below i (by omega) hi j (by omega)
theorem Rref.ge {n k:Nat} {f:F2} {p:List Nat} (h:Rref n k f p) (i:Nat) (hi:i<p.length):i<=p[i]:=by
 induction i with
 |zero=>omega
 |succ i ih=>have:=ih (by omega);have:=h.inc i (i+1) (by omega) hi;omega
theorem Rref.diag {n c:Nat} {f:F2} {p:List Nat} (h:Rref n c f p) (hp:p.length=n) (hc:∀i (hi:i<p.length),p[i]<n) (i:Nat) (hi:i<n):p[i]'(by omega)=i:=by
 have h1:∀q,q<n->∀hq:n - 1 - q<p.length,p[n - 1 - q]<=n - 1 - q:=by
  intro q
  induction q with
  |zero=>intro h0 hq;have:=hc _ hq;omega
  |succ q ih=>
   intro h0 hq;have h2:=ih (by omega) (by omega);have h3:=h.inc (n - 1 - (q+1)) (n - 1 - q) (by omega) (by omega);omega
 have h2:=h1 (n - 1 - i) (by omega) (by omega);have h3:=h.ge i (by omega);have e:n - 1 - (n - 1 - i)=i:=by omega
 simp only[e]at h2;omega
theorem Rref.unit {n c:Nat} {f:F2} {p:List Nat} (h:Rref n c f p) (hp:p.length=n) (hc:∀i (hi:i<p.length),p[i]<n):Eqm n n f fun i j=>if i=j then 1 else 0:=fun i hi j hj=>by
 have hd:=h.diag hp hc j hj;by_cases e:i=j
 ·subst e
  have:=h.one i (by omega);rw[hd]at this;simpa using this
 ·have:=h.zero j (by omega) i hi e;rw[hd]at this;simpa[e]using this
theorem b0r {n:Nat} (hn:n<=4):det n (fun i j=>if i=j then 1 else 0)=1:=by
 match n,hn with
 |0,_=>rfl
 |1,_=>rw[a8N];simp
 |2,_=>rw[a8O];simp;try grind
 |3,_=>rw[a8P];simp;try grind
 |4,_=>rw[a8Q];simp;try grind
theorem Rref.det {n:Nat} {f:F2} {p:List Nat} (hn:n<=4) (h:Rref n n f p):Lin.det n f=if p.length=n then 1 else 0:=by
 have hle:=h.le;split
 ·rename_i e
  rw[a1n (h.unit e h.lt),b0r hn]
 ·exact b0q hn f p.length (by omega) (h.below _ (Nat.le_refl _) (by omega))
def mul (n:Nat) (f g:F2):F2:=fun i j=>sm n fun k=>f i k*g k j
def ofF (n c:Nat) (f:F2):Mat:=(List.range n).map fun i=>(List.range c).map (f i)
theorem b2K (n c:Nat) (f:F2):Shp n c (ofF n c f):=⟨by simp[ofF],fun r hr=>by
 obtain⟨i,_,rfl⟩:=List.mem_map.1 hr;simp⟩
theorem b2L (n c:Nat) (f:F2):Eqm n c (ent (ofF n c f)) f:=fun i hi j hj=>by simp[ent,ofF,List.getD_eq_getElem?_getD,hi,hj]
theorem RE.congr {n c:Nat} {f f' g:F2} {d:Rat} (h:RE n c f g d) (e:Eqm n c f' f):RE n c f' g d:=(RE.same e).then_ h (by grind)
theorem a7S (n c:Nat) (f:F2):∃r p d,Rref n c r p/\RE n c f r d:=by
 obtain⟨_,h2,d,h3⟩:=a0Z (b2K n c f);exact⟨_,_,d,h2,h3.congr fun i hi j hj=>(b2L n c f i hi j hj).symm⟩
theorem RE.factor {n c r:Nat} {f g:F2} {d:Rat} (h:RE n c f g d) (b:F2) (hf:∃a,Eqm n c f (mul r a b)):∃a,Eqm n c g (mul r a b):=by
 induction h with
 |same h=>obtain⟨a,ha⟩:=hf;exact⟨a,fun i hi j hj=>(h i hi j hj).symm.trans (ha i hi j hj)⟩
 |swap i k hi hk hik h1 h2 h3=>
  obtain⟨a,ha⟩:=hf;refine⟨fun q=>if q=i then a k else if q=k then a i else a q,fun q hq j hj=>?_⟩;by_cases e:q=i
  ·subst e;rw[h1 j hj,ha k hk j hj];simp[mul]
  ·by_cases e2:q=k
   ·subst e2;rw[h2 j hj,ha i hi j hj];simp[mul,e]
   ·rw[h3 q hq e e2 j hj,ha q hq j hj];simp[mul,e,e2]
 |scale i x hi hx h1 h3=>
  obtain⟨a,ha⟩:=hf;refine⟨fun q=>if q=i then fun k=>x*a i k else a q,fun q hq j hj=>?_⟩;by_cases e:q=i
  ·subst e;rw[h1 j hj,ha q hq j hj];simp only[mul,if_true];rw[<-a1l];exact a0j fun k _=>by grind
  ·rw[h3 q hq e j hj,ha q hq j hj];simp[mul,e]
 |add i k x hi hk hik h1 h3=>
  obtain⟨a,ha⟩:=hf;refine⟨fun q=>if q=i then fun y=>a i y+x*a k y else a q,fun q hq j hj=>?_⟩;by_cases e:q=i
  ·subst e;rw[h1 j hj,ha q hq j hj,ha k hk j hj];simp only[mul,if_true];rw[<-a1l,<-a6t];exact a0j fun k _=>by grind
  ·rw[h3 q hq e j hj,ha q hq j hj];simp[mul,e]
 |trans _ _ ih1 ih2=>exact ih2 (ih1 hf)
theorem b7E {n c r:Nat} {f g:F2} {p:List Nat} {d:Rat} (hg:Rref n c g p) (h:RE n c f g d) (a b:F2) (hf:Eqm n c f (mul r a b)):p.length<=r:=by
 refine Classical.byContradiction fun hlt=>?_;obtain⟨t,ht⟩:=h.factor b ⟨a,hf⟩;obtain⟨s,q,e,hs,he⟩:=a7S r p.length (fun k i=>t i k);have hq:∃j,j<p.length/\j∉q:=by
  refine Classical.byContradiction fun hno=>?_;have hall:∀j,j<p.length->j∈q:=fun j hj=>Classical.byContradiction fun h=>hno ⟨j,hj,h⟩;have h1:(List.range p.length).length<=q.length:=(List.nodup_range).length_le_of_subset fun j hj=>hall j (List.mem_range.1 hj);rw[List.length_range]at h1;have:=hs.le;omega
 obtain⟨j,hj,hjq⟩:=hq;have h1:=(he.nul _).2 (hs.nv_nul hjq hj);have h2:∀x,x<c->sm p.length (fun i=>nv s q j i*g i x)=0:=fun x hx=>by
  have e1:sm p.length (fun i=>nv s q j i*g i x)=sm p.length (fun i=>sm r fun k=>(t i k*nv s q j i)*b k x):=a0j fun i hi=>by
   have:=hg.le;rw[ht i (by omega) x hx];unfold mul;rw[<-a1l];exact a0j fun k _=>by grind
  rw[e1,a2W];exact a1V fun k hk=>by
   have:=h1 k hk;rw[a0j (g:=fun i=>b k x*(t i k*nv s q j i)) fun i _=>by grind,a1l,this];grind
 have h3:=h2 p[j] (hg.lt j hj);rw[a1m j hj fun i hi hij=>by rw[hg.zero j hj i (by have:=hg.le;omega) hij];grind]at h3;rw[a4J,hg.one j hj]at h3;grind
theorem b1V {n c:Nat} {f g:F2} {p:List Nat} {d:Rat} (hg:Rref n c g p) (h:RE n c f g d):Eqm n c f (mul p.length (fun i k=>f i (p.getD k 0)) g):=by
 intro i hi j hj;have hp:∀k (hk:k<p.length),p.getD k 0=p[k]:=fun k hk=>by simp[List.getD_eq_getElem?_getD,hk]
 have hpl:=hg.le;have key:∀(F:F2) (i:Nat),sm c (fun x=>F i x*((if x=j then 1 else 0) - sm p.length fun k=>if x=p.getD k 0 then g k j else 0))=F i j - sm p.length (fun k=>F i (p.getD k 0)*g k j):=fun F i=>by
  have e1:sm c (fun x=>F i x*((if x=j then 1 else 0) - sm p.length fun k=>if x=p.getD k 0 then g k j else 0))=sm c (fun x=>(if x=j then F i j else 0) - sm p.length fun k=>if x=p.getD k 0 then F i x*g k j else 0):=a0j fun x _=>by
   have:F i x*sm p.length (fun k=>if x=p.getD k 0 then g k j else 0)=sm p.length fun k=>if x=p.getD k 0 then F i x*g k j else 0:=by
    rw[<-a1l];exact a0j fun k _=>by split<;>grind
   rw[<-this];split
   ·subst_vars;grind
   ·grind
  rw[e1,a6u,a1m j hj fun x _ hx=>by simp[hx],a2W];simp only[if_true]
  congr 1
  exact a0j fun k hk=>by
   rw[hp k hk,a1m p[k] (hg.lt k hk) fun x _ hx=>by simp[hx]];simp
 have hn:Nul n c g (fun x=>(if x=j then 1 else 0) - sm p.length fun k=>if x=p.getD k 0 then g k j else 0):=fun q hq=>by
  rw[key g q];by_cases hqp:q<p.length
  ·rw[a1m q hqp fun k hk hkq=>by rw[hp k hk,hg.zero k hk q hq (by omega)];grind]
   rw[hp q hqp,hg.one q hqp];grind
  ·rw[hg.below q (by omega) hq j hj,a1V fun k hk=>by rw[hp k hk,hg.below q (by omega) hq _ (hg.lt k hk)];grind];grind
 have h1:=(h.nul _).2 hn i hi;rw[key f i]at h1
 show f i j=sm p.length fun k=>f i (p.getD k 0)*g k j
 grind
theorem LI.full {n c:Nat} {f r:F2} {p:List Nat} {d:Rat} (hf:LI n c f) (hr:Rref n c r p) (h:RE n c f r d):p.length=n:=by
 have hle:=hr.le;refine Classical.byContradiction fun hne=>?_;have:=(h.li hf) (fun i=>if i=p.length then 1 else 0) (fun j hj=>by
  unfold cmb;rw[a1m p.length (by omega) fun i _ hi=>by simp[hi]];rw[hr.below _ (Nat.le_refl _) (by omega) j hj];grind) p.length (by omega)
 simp at this
def a2q (r:F2) (p:List Nat) (c:Nat):Mat:=((List.range c).filter (· ∉p)).map fun j=>(List.range c).map (nv r p j)
theorem b2M {r:F2} {p:List Nat} {c n:Nat} (h:Rref n c r p):(a2q r p c).length=c - p.length:=by
 have h1:((List.range c).filter (· ∉p)).length+((List.range c).filter (· ∈p)).length=c:=by
  have key:∀l:List Nat,(l.filter (· ∉p)).length+(l.filter (· ∈p)).length=l.length:=fun l=>by
   induction l with
   |nil=>rfl
   |cons a l ih=>by_cases ha:a∈p<;>simp[ha]at ih |- <;>omega
  have:=key (List.range c);simpa using this
 have h2:(List.range c).filter (· ∈p)=p:=by
  refine b0n _ _ ?_ h.pw fun x=>?_
  ·exact List.Pairwise.filter _ List.pairwise_lt_range
  ·simp only[List.mem_filter,List.mem_range,decide_eq_true_eq]
   constructor
   ·exact fun h=>h.2
   ·intro hx
    obtain⟨i,hi,rfl⟩:=List.getElem_of_mem hx;exact⟨h.lt i hi,hx⟩
 rw[h2]at h1;simp only[a2q,List.length_map];omega
theorem b0s (r:F2) (p:List Nat) (c:Nat):LI (a2q r p c).length c (ent (a2q r p c)):=by
 intro y hy i hi;have hi':i<((List.range c).filter (· ∉p)).length:=by simpa[a2q]using hi
 have hmem:=List.getElem_mem hi';rw[List.mem_filter,List.mem_range]at hmem;have h1:=hy _ hmem.1;have hnp:((List.range c).filter (· ∉p))[i]∉p:=by simpa using hmem.2
 have he:∀k (hk:k<((List.range c).filter (· ∉p)).length),ent (a2q r p c) k ((List.range c).filter (· ∉p))[i]=nv r p ((List.range c).filter (· ∉p))[k] ((List.range c).filter (· ∉p))[i]:=fun k hk=>by
  unfold ent a2q;rw[List.getD_eq_getElem?_getD (l:=List.map _ _),List.getElem?_map,List.getElem?_eq_getElem hk];simp only[Option.map_some,Option.getD_some];rw[List.getD_eq_getElem?_getD,List.getElem?_map,List.getElem?_range hmem.1];rfl
 unfold cmb at h1;rw[a1m i hi fun k hk hki=>by
  have hk':k<((List.range c).filter (· ∉p)).length:=by simpa[a2q]using hk
  have hne:((List.range c).filter (· ∉p))[i]≠((List.range c).filter (· ∉p))[k]:=fun e=>by
   have hnd:((List.range c).filter (· ∉p)).Pairwise (· < ·):=List.Pairwise.filter _ List.pairwise_lt_range;rw[List.pairwise_iff_getElem]at hnd;rcases Nat.lt_or_gt_of_ne hki with a|a
   ·have:=hnd k i hk' hi' a;omega
   ·have:=hnd i k hi' hk' a;omega
  rw[he k hk',a6v hnp hne];grind,he i hi',a4J]at h1
 grind
def b7F (r:F2) (p:List Nat) (c:Nat):Nat->Rat:=fun x=>match p.findIdx? (· ==x)with|some i=>r i c|none=>0
def a7T (c:Nat) (f:F2) (b:Nat->Rat):F2:=fun i j=>if j=c then b i else f i j
theorem b0t {n c:Nat} {f:F2} {b:Nat->Rat} (x:Nat->Rat):Nul n (c+1) (a7T c f b) (fun j=>if j=c then -1 else x j)↔∀i,i<n->sm c (fun j=>f i j*x j)=b i:=by
 have key:∀i,sm (c+1) (fun j=>a7T c f b i j*(if j=c then -1 else x j))=sm c (fun j=>f i j*x j) - b i:=fun i=>by
  show sm c _+_=_
  rw[a0j (g:=fun j=>f i j*x j) fun j hj=>by simp[a7T,show j≠c by omega]];simp[a7T];grind
 constructor
 ·intro h i hi;have:=h i hi;rw[key]at this;grind
 ·intro h i hi;rw[key,h i hi];grind
theorem b9y {n c:Nat} {f r:F2} {b:Nat->Rat} {p:List Nat} {d:Rat} (hr:Rref n (c+1) r p) (h:RE n (c+1) (a7T c f b) r d) (hp:c∉p):∀i,i<n->sm c (fun j=>f i j*b7F r p c j)=b i:=by
 refine(b0t (b7F r p c)).1 ((h.nul _).2 fun i hi=>?_);by_cases hip:i<p.length
 ·rw[hr.row i hip]
  have h1:p[i]≠c:=by rintro rfl;exact hp (List.getElem_mem _)
  rw[if_neg h1,a1m c (by omega) fun k hk hkc=>?_]
  ·simp only[b7F,hr.idx i hip,hp,if_false,if_true];grind
  ·split
   ·rfl
   ·rename_i hkp
    simp only[b7F,b0m hkp];grind
 ·exact a1V fun j hj=>by rw[hr.below i (by omega) hi j hj];grind
theorem b9z {n c:Nat} {f r:F2} {b:Nat->Rat} {p:List Nat} {d:Rat} (hr:Rref n (c+1) r p) (h:RE n (c+1) (a7T c f b) r d) (x:Nat->Rat) (hx:∀i,i<n->sm c (fun j=>f i j*x j)=b i):c∉p:=by
 intro hp;obtain⟨k,hk,hkc⟩:=List.getElem_of_mem hp;have h1:=(h.nul _).1 ((b0t x).2 hx) k (Nat.lt_of_lt_of_le hk hr.le);rw[a1m c (by omega) fun j hj hjc=>by rw[hr.left k hk j (by omega)];grind]at h1;have h2:=hr.one k hk;rw[hkc]at h2;rw[h2]at h1;simp at h1;grind
abbrev Vec:=Nat->Rat
def dot (c:Nat) (u v:Vec):Rat:=sm c fun j=>u j*v j
def nz (c:Nat) (u:Vec):Prop:=∃j,j<c/\u j≠0
theorem a0C (c:Nat) (u v:Vec):dot c u v=dot c v u:=a0j fun j _=>by grind
theorem b7G (c:Nat) (u v x:Vec):dot c (fun j=>u j+v j) x=dot c u x+dot c v x:=by
 unfold dot;rw[<-a6t];exact a0j fun j _=>by grind
theorem a5G (c:Nat) (a:Rat) (u x:Vec):dot c (fun j=>a*u j) x=a*dot c u x:=by
 unfold dot;rw[<-a1l];exact a0j fun j _=>by grind
theorem a2X (c:Nat) (u v:Vec) (t:Rat) (x:Vec):dot c (fun j=>u j+t*v j) x=dot c u x+t*dot c v x:=by
 rw[b7G c u (fun j=>t*v j),a5G]
theorem a2r {c:Nat} {u u' v:Vec} (h:∀j,j<c->u j=u' j):dot c u v=dot c u' v:=a0j fun j hj=>by rw[h j hj]
theorem a1N {c:Nat} {u v:Vec} (h:∀j,j<c->u j=0):dot c u v=0:=a1V fun j hj=>by rw[h j hj];grind
theorem a6w {n:Nat} {f:Nat->Rat} (h:∀i,i<n->0<=f i):0<=sm n f:=by
 induction n with
 |zero=>exact Rat.le_refl
 |succ n ih=>unfold sm;have:=ih fun i hi=>h i (by omega);have:=h n (by omega);grind
theorem a3j {n:Nat} {f:Nat->Rat} (h:∀i,i<n->0<=f i) (h0:sm n f=0):∀i,i<n->f i=0:=by
 induction n with
 |zero=>intro i hi;omega
 |succ n ih=>
  unfold sm at h0;have h1:=a6w (n:=n) fun i hi=>h i (by omega);have h2:=h n (by omega);have h3:sm n f=0:=by grind
  have h4:f n=0:=by grind
  intro i hi;by_cases e:i=n
  ·subst e;exact h4
  ·exact ih (fun i hi=>h i (by omega)) h3 i (by omega)
theorem a8R (a:Rat):0<=a*a:=by
 rcases Rat.le_total (a:=0) (b:=a)with h|h
 ·exact Rat.mul_nonneg h h
 ·have:0<=(-a)*(-a):=Rat.mul_nonneg (by grind) (by grind)
  grind
theorem a7U {c:Nat} {u:Vec} (h:dot c u u=0):∀j,j<c->u j=0:=fun j hj=>by
 have:=a3j (fun i _=>a8R (u i)) h j hj;rcases Rat.mul_eq_zero.1 this with e|e<;>exact e
theorem b2N {c:Nat} {u:Vec} (h:¬∀j,j<c->u j=0):nz c u:=by
 apply Classical.byContradiction;intro hn;exact h fun j hj=>Classical.byContradiction fun e=>hn ⟨j,hj,e⟩
theorem nz.not {c:Nat} {u:Vec} (h:nz c u):¬∀j,j<c->u j=0:=fun k=>let ⟨j,hj,e⟩:=h;e (k j hj)
theorem b6V {c:Nat} {u v:Vec} (h:dot c u v≠0):nz c u:=b2N fun k=>h (a1N k)
def a1C (c:Nat) (u:Vec) (z:List Vec):Nat:=z.countP fun v=>decide (0<=dot c u v)
def a5a (c:Nat) (u:Vec) (z:List Vec):Nat:=z.countP fun v=>decide (0<dot c u v)
def onL (c:Nat) (u:Vec) (z:List Vec):List Vec:=z.filter fun v=>decide (dot c u v=0)
def a0M (c:Nat) (z:List Vec) (k:Nat):Prop:=(∃u,nz c u/\a1C c u z=k)/\∀u,nz c u->k<=a1C c u z
theorem a0M.uniq {c:Nat} {z:List Vec} {k l:Nat} (h:a0M c z k) (h':a0M c z l):k=l:=by
 obtain⟨⟨u,h1,h2⟩,h3⟩:=h;obtain⟨⟨v,g1,g2⟩,g3⟩:=h';have:=h3 v g1;have:=g3 u h1;omega
theorem b5i {P:Nat->Prop} (n:Nat) (h:P n):∃k,P k/\∀m,P m->k<=m:=by
 induction n using Nat.strongRecOn with
 |_ n ih=>
  by_cases hs:∃m,m<n/\P m
  ·obtain⟨m,h1,h2⟩:=hs;exact ih m h1 h2
  ·exact⟨n,h,fun m hm=>by
    rcases Nat.lt_or_ge m n with h1|h1
    ·exact absurd ⟨m,h1,hm⟩ hs
    ·exact h1⟩
theorem a7l {c:Nat} (hc:0<c) (z:List Vec):∃k,a0M c z k:=by
 obtain⟨k,h1,h2⟩:=b5i (P:=fun k=>∃u,nz c u/\a1C c u z=k) (a1C c (fun _=>1) z) ⟨fun _=>1,⟨0,hc,by grind⟩,rfl⟩;exact⟨k,h1,fun u hu=>h2 _ ⟨u,hu,rfl⟩⟩
theorem b0u (c:Nat) (u:Vec) (z:List Vec):a1C c u z<=z.length:=List.countP_le_length
theorem a0M.le {c:Nat} {z:List Vec} {k:Nat} (h:a0M c z k):k<=z.length:=by
 obtain⟨⟨u,_,h2⟩,_⟩:=h;rw[<-h2];exact b0u _ _ _
def c0J (c:Nat) (u y:Vec) (z:List Vec) (e:Rat):Prop:=∀v∈z,(0<dot c u v->∀t,0<t->t<=e->0<dot c u v+t*dot c y v)/\(dot c u v<0->∀t,0<t->t<=e->dot c u v+t*dot c y v<0)
theorem b9A (a b:Rat):∃e,0<e/\(0<a->∀t,0<t->t<=e->0<a+t*b):=by
 by_cases ha:0<a
 ·by_cases hb:0<=b
  ·exact⟨1,by decide,fun _ t h1 _=>by have:=Rat.mul_nonneg (a:=t) (b:=b) (by grind) hb;grind⟩
  ·have hb':0< -b:=by grind
   refine⟨a/(2* -b),?_,fun _ t h1 h2=>?_⟩
   ·rw[Rat.div_def];exact Rat.mul_pos ha (Rat.inv_pos.2 (by grind))
   ·have h3:t*(2* -b)<=a/(2* -b)*(2* -b):=Rat.mul_le_mul_of_nonneg_right h2 (by grind)
    rw[Rat.div_mul_cancel (by grind)]at h3;have h4:=Rat.mul_pos h1 hb';grind
 ·exact⟨1,by decide,fun h=>absurd h ha⟩
theorem c0J.le {c:Nat} {u y:Vec} {z:List Vec} {e d:Rat} (h:c0J c u y z e) (hd:d<=e):c0J c u y z d:=fun v hv=>
 ⟨fun h1 t h2 h3=>(h v hv).1 h1 t h2 (Rat.le_trans h3 hd),fun h1 t h2 h3=>(h v hv).2 h1 t h2 (Rat.le_trans h3 hd)⟩
theorem b7H (c:Nat) (u y:Vec) (z:List Vec):∃e,0<e/\c0J c u y z e:=by
 induction z with
 |nil=>exact⟨1,by decide,fun v hv=>by simp at hv⟩
 |cons v z ih=>
  obtain⟨e1,h1,h2⟩:=ih;obtain⟨e2,h3,h4⟩:=b9A (dot c u v) (dot c y v);obtain⟨e3,h5,h6⟩:=b9A (-dot c u v) (-dot c y v);obtain⟨e,he,l1,l2,l3⟩:∃e,0<e/\e<=e1/\e<=e2/\e<=e3:=by
   by_cases a:e1<=e2
   ·by_cases b:e1<=e3
    ·exact⟨e1,h1,Rat.le_refl,a,b⟩
    ·exact⟨e3,h5,by grind,by grind,Rat.le_refl⟩
   ·by_cases b:e2<=e3
    ·exact⟨e2,h3,by grind,Rat.le_refl,b⟩
    ·exact⟨e3,h5,by grind,by grind,Rat.le_refl⟩
  refine⟨e,he,fun w hw=>?_⟩;rcases List.mem_cons.1 hw with rfl|hw
  ·refine⟨fun g t g1 g2=>h4 g t g1 (Rat.le_trans g2 l2),fun g t g1 g2=>?_⟩
   have:=h6 (by grind) t g1 (Rat.le_trans g2 l3);grind
  ·exact(h2.le l1) w hw
theorem a6x (c:Nat) (u u' u2:Vec) (z:List Vec) (h:∀v∈z,(0<dot c u v->0<dot c u2 v)/\(dot c u v<0->dot c u2 v<0)/\(dot c u v=0->(0<=dot c u2 v↔0<=dot c u' v))):a1C c u2 z=a5a c u z+a1C c u' (onL c u z):=by
 induction z with
 |nil=>rfl
 |cons v z ih=>
  have ih:=ih fun w hw=>h w (List.mem_cons_of_mem _ hw);obtain⟨h1,h2,h3⟩:=h v List.mem_cons_self;unfold a1C a5a onL at*;rw[List.countP_cons,List.countP_cons,List.filter_cons,ih];by_cases a:0<dot c u v
  ·have b:=h1 a
   rw[if_pos (by simp;grind),if_pos (by simpa using a),if_neg (by simp;grind)];omega
  ·by_cases b:dot c u v=0
   ·have k:=h3 b
    rw[if_neg (c:=decide (0<dot c u v)=true) (by simpa using a),if_pos (c:=decide (dot c u v=0)=true) (by simpa using b),List.countP_cons];by_cases g:0<=dot c u2 v
    ·rw[if_pos (by simpa using g),if_pos (by simpa using k.1 g)];omega
    ·rw[if_neg (by simpa using g),if_neg (by simpa using fun x=>g (k.2 x))];omega
   ·have k:=h2 (by grind)
    rw[if_neg (by simp;grind),if_neg (by simpa using a),if_neg (by simpa using b)];omega
theorem c1P {c:Nat} {u u':Vec} (hu:nz c u) (z:List Vec):∃u2,nz c u2/\a1C c u2 z=a5a c u z+a1C c u' (onL c u z):=by
 obtain⟨j,hj,hne⟩:=hu;have hun:dot c u (fun i=>if i=j then 1 else 0)=u j:=by
  unfold dot;rw[a1m j hj (fun i _ h=>by simp[h])];simp
 obtain⟨e,he,hc⟩:=b7H c u u' ((fun i=>if i=j then 1 else 0)::z);refine⟨fun i=>u i+e*u' i,?_,a6x c u u' _ z fun v hv=>⟨fun h=>?_,fun h=>?_,fun h=>?_⟩⟩
 ·have hh:=hc _ List.mem_cons_self
  rw[hun]at hh;apply b6V (v:=fun i=>if i=j then 1 else 0);rw[a2X,hun];by_cases h:0<u j
  ·have:=hh.1 h e he Rat.le_refl;grind
  ·have:=hh.2 (by grind) e he Rat.le_refl;grind
 ·rw[a2X];exact(hc v (List.mem_cons_of_mem _ hv)).1 h e he Rat.le_refl
 ·rw[a2X];exact(hc v (List.mem_cons_of_mem _ hv)).2 h e he Rat.le_refl
 ·rw[a2X,h]
  constructor
  ·intro h2
   apply Classical.byContradiction;intro h3;have:=Rat.mul_pos he (show 0< - dot c u' v by grind);grind
  ·intro h2;have:=Rat.mul_nonneg (Rat.le_of_lt he) h2;grind
theorem a0M.lower {c:Nat} {z:List Vec} {k l:Nat} (h:a0M c z k) {u:Vec} (hu:nz c u) (hl:a0M c (onL c u z) l):k<=a5a c u z+l:=by
 obtain⟨⟨u',h1,h2⟩,_⟩:=hl;obtain⟨u2,h3,h4⟩:=c1P (u':=u') hu z;have:=h.2 u2 h3;omega
def Sgn (c:Nat) (z:List Vec) (u x:Vec):Prop:=∀v∈z,(0<dot c u v->0<=dot c x v)/\(dot c u v<0->dot c x v<=0)/\(dot c u v=0->dot c x v=0)
def b2O (c:Nat) (W:Vec->Prop) (z:List Vec) (x:Vec):Prop:=W x/\nz c x/\∀y,W y->(∀v∈onL c x z,dot c y v=0)->∃t:Rat,∀j,j<c->y j=t*x j
structure Dirs (c:Nat) (z:List Vec) (W:Vec->Prop):Prop where
 lin:∀u y t,W u->W y->W (fun j=>u j+t*y j)
 zero:∀y,W y->(∀v∈z,dot c y v=0)->∀j,j<c->y j=0
 all:∀u,∃x,W x/\∀v∈z,dot c x v=dot c u v
 some_:∃u,W u/\nz c u
theorem b9B {P:Vec->Prop} (f:Vec->Rat) (z:List Vec) (h:∃v∈z,P v):∃v∈z,P v/\∀w∈z,P w->f v<=f w:=by
 induction z with
 |nil=>obtain⟨v,hv,_⟩:=h;simp at hv
 |cons a z ih=>
  by_cases hz:∃v∈z,P v
  ·obtain⟨v,h1,h2,h3⟩:=ih hz
   by_cases ha:P a/\f a<=f v
   ·exact⟨a,List.mem_cons_self,ha.1,fun w hw hp=>by
     rcases List.mem_cons.1 hw with rfl|hw
     ·exact Rat.le_refl
     ·exact Rat.le_trans ha.2 (h3 w hw hp)⟩
   ·exact⟨v,List.mem_cons_of_mem _ h1,h2,fun w hw hp=>by
     rcases List.mem_cons.1 hw with rfl|hw
     ·have:¬f w<=f v:=fun h=>ha ⟨hp,h⟩
      grind
     ·exact h3 w hw hp⟩
  ·obtain⟨v,hv,hp⟩:=h
   rcases List.mem_cons.1 hv with rfl|hv
   ·exact⟨v,List.mem_cons_self,hp,fun w hw hq=>by
     rcases List.mem_cons.1 hw with rfl|hw
     ·exact Rat.le_refl
     ·exact absurd ⟨w,hw,hq⟩ hz⟩
   ·exact absurd ⟨v,hv,hp⟩ hz
theorem b2P {α:Type} {p q:α->Bool} {l:List α} (h:∀x∈l,p x=true->q x=true) {a:α} (ha:a∈l) (h1:p a=false) (h2:q a=true):l.countP p<l.countP q:=by
 induction l with
 |nil=>simp at ha
 |cons b l ih=>
  have hle:l.countP p<=l.countP q:=List.countP_mono_left fun x hx=>h x (List.mem_cons_of_mem _ hx);rw[List.countP_cons,List.countP_cons];rcases List.mem_cons.1 ha with rfl|ha
  ·rw[h1,h2];simp;omega
  ·have:=ih (fun x hx=>h x (List.mem_cons_of_mem _ hx)) ha
   have hb:=h b List.mem_cons_self;cases hp:p b<;>cases hq:q b<;>simp_all<;>omega
theorem a8S {c:Nat} {z:List Vec} {W:Vec->Prop} (hW:Dirs c z W):∀(n:Nat) (u:Vec),W u->nz c u->z.countP (fun v=>decide (dot c u v≠0))=n->∃x,b2O c W z x/\Sgn c z u x:=by
 intro n
 induction n using Nat.strongRecOn with
 |_ n ih=>
  intro u hu hn hc;by_cases hv:b2O c W z u
  ·exact⟨u,hv,fun v _=>⟨Rat.le_of_lt,Rat.le_of_lt,id⟩⟩
  ·obtain⟨y,hy,hy0,hyn⟩:∃y,W y/\(∀v∈onL c u z,dot c y v=0)/\∀t:Rat,¬∀j,j<c->y j=t*u j:=by
    apply Classical.byContradiction;intro h;refine hv ⟨hu,hn,fun y h1 h2=>Classical.byContradiction fun h3=>h ⟨y,h1,h2,fun t h4=>h3 ⟨t,h4⟩⟩⟩
   obtain⟨v0,hv0,hv1⟩:∃v∈z,dot c y v≠0:=by
    apply Classical.byContradiction;intro h;have:=hW.zero y hy fun v hv=>Classical.byContradiction fun e=>h ⟨v,hv,e⟩;exact hyn 0 fun j hj=>by rw[this j hj];grind
   have hu0:∀v∈z,dot c u v=0->dot c y v=0:=fun v hv h=>hy0 v (List.mem_filter.2 ⟨hv,by simpa using h⟩);obtain⟨y',hy',hy0',hyn',hneg⟩:∃y',W y'/\(∀v∈z,dot c u v=0->dot c y' v=0)/\(∀t:Rat,¬∀j,j<c->y' j=t*u j)/\∃v∈z,dot c y' v*dot c u v<0:=by
    have huv:dot c u v0≠0:=fun h=>hv1 (hu0 v0 hv0 h);by_cases hs:dot c y v0*dot c u v0<0
    ·exact⟨y,hy,hu0,hyn,v0,hv0,hs⟩
    ·have hne:dot c y v0*dot c u v0≠0:=fun h=>by rcases Rat.mul_eq_zero.1 h with e|e<;>contradiction
     have hd:∀v,dot c (fun j=>y j+ -2*y j) v= - dot c y v:=fun v=>by rw[a2X];grind
     refine⟨fun j=>y j+ -2*y j,hW.lin y y (-2) hy hy,fun v hv h=>by rw[hd,hu0 v hv h];grind,fun t h=>hyn (-t) fun j hj=>by have:=h j hj;grind,v0,hv0,?_⟩;rw[hd];grind
   obtain⟨w,hw,hwn,hmin⟩:=b9B (fun v=> - dot c u v/dot c y' v) z hneg;have hne:dot c y' w≠0:=fun h=>by rw[h]at hwn;grind
   have hnu:dot c u w≠0:=fun h=>by rw[h]at hwn;grind
   obtain⟨t,ht⟩:∃t,- dot c u w/dot c y' w=t:=⟨_,rfl⟩;have htw:t*dot c y' w= - dot c u w:=by rw[<-ht];exact Rat.div_mul_cancel hne
   have htp:0<t:=by
    apply Classical.byContradiction;intro h;have h1:=Rat.mul_nonneg (show 0<= -t by grind) (a8R (dot c y' w));have h2:t*(dot c y' w*dot c y' w)= - dot c u w*dot c y' w:=by rw[<-htw];grind
    grind
   have hstep:∀v∈z,(0<dot c u v->0<=dot c u v+t*dot c y' v)/\(dot c u v<0->dot c u v+t*dot c y' v<=0):=fun v hv=>by
    by_cases hs:dot c y' v*dot c u v<0
    ·have h1:=hmin v hv hs
     rw[ht]at h1;have hne2:dot c y' v≠0:=fun h=>by rw[h]at hs;grind
     have h3: - dot c u v/dot c y' v*dot c y' v= - dot c u v:=Rat.div_mul_cancel hne2;constructor
     ·intro hp
      have hyneg:dot c y' v<0:=by
       apply Classical.byContradiction;intro h;have:=Rat.mul_nonneg (show 0<=dot c y' v by grind) (Rat.le_of_lt hp);grind
      have h4:=Rat.mul_le_mul_of_nonneg_right h1 (show 0<= - dot c y' v by grind);grind
     ·intro hp
      have hypos:0<dot c y' v:=by
       apply Classical.byContradiction;intro h;have:=Rat.mul_nonneg (show 0<= - dot c y' v by grind) (show 0<= - dot c u v by grind);grind
      have h4:=Rat.mul_le_mul_of_nonneg_right h1 (Rat.le_of_lt hypos);grind
    ·constructor
     ·intro hp
      have:0<=dot c y' v:=by
       apply Classical.byContradiction;intro h;have:=Rat.mul_pos (show 0< - dot c y' v by grind) hp;grind
      have:=Rat.mul_nonneg (Rat.le_of_lt htp) this;grind
     ·intro hp
      have:dot c y' v<=0:=by
       apply Classical.byContradiction;intro h;have:=Rat.mul_pos (show 0<dot c y' v by grind) (show 0< - dot c u v by grind);grind
      have:=Rat.mul_nonneg (Rat.le_of_lt htp) (show 0<= - dot c y' v by grind);grind
   have hz2:∀v∈z,dot c u v=0->dot c u v+t*dot c y' v=0:=fun v hv h=>by rw[h,hy0' v hv h];grind
   have hw0:dot c u w+t*dot c y' w=0:=by rw[htw];grind
   obtain⟨x,hx1,hx2⟩:=ih _ (by
    rw[<-hc];refine b2P (p:=fun v=>decide (dot c (fun j=>u j+t*y' j) v≠0)) (fun v hv h=>?_) hw ?_ (by simpa using hnu)
    ·simp only[decide_eq_true_eq]at h |-
     intro e;rw[a2X]at h;exact h (hz2 v hv e)
    ·exact decide_eq_false fun h=>h (by rw[a2X];exact hw0)) (fun j=>u j+t*y' j) (hW.lin u y' t hu hy') (b2N fun h=>hyn' (-(1/t)) fun j hj=>by
      have h1:=h j hj;have h2:1/t*t=1:=Rat.div_mul_cancel (by grind);have h3:1/t*(u j+t*y' j)=0:=by rw[h1];grind
      have h4:1/t*(t*y' j)=y' j:=by rw[<-Rat.mul_assoc,h2];grind
      rw[Rat.mul_add,h4]at h3;grind) rfl
   refine⟨x,hx1,fun v hv=>?_⟩;obtain⟨g1,g2,g3⟩:=hx2 v hv;rw[a2X]at g1 g2 g3;obtain⟨s1,s2⟩:=hstep v hv;refine⟨fun h=>?_,fun h=>?_,fun h=>g3 (hz2 v hv h)⟩
   ·have:=s1 h
    by_cases e:dot c u v+t*dot c y' v=0
    ·rw[g3 e];exact Rat.le_refl
    ·exact g1 (by grind)
   ·have:=s2 h
    by_cases e:dot c u v+t*dot c y' v=0
    ·rw[g3 e];exact Rat.le_refl
    ·exact g2 (by grind)
theorem b1W {c:Nat} {z:List Vec} {u x:Vec} (h:Sgn c z u x):a1C c u z=a5a c x z+a1C c u (onL c x z):=
 a6x c x u u z fun v hv=>by
  obtain⟨h1,h2,h3⟩:=h v hv;refine⟨fun g=>?_,fun g=>?_,fun _=>Iff.rfl⟩
  ·apply Classical.byContradiction;intro k
   by_cases e:dot c u v=0
   ·have:=h3 e;grind
   ·have:=h2 (by grind);grind
  ·apply Classical.byContradiction;intro k
   by_cases e:dot c u v=0
   ·have:=h3 e;grind
   ·have:=h1 (by grind);grind
theorem b2Q (c:Nat) (x:Vec) (z:List Vec):a5a c x z+(onL c x z).length<=z.length:=by
 have:=a6x c x (fun _=>0) x z fun v _=>⟨id,id,fun h=>by rw[h,a1N (u:=fun _=>0) (fun _ _=>rfl)]⟩;have h2:=b0u c x z;have h3:a1C c (fun _=>0) (onL c x z)=(onL c x z).length:=by
  unfold a1C;rw[List.countP_eq_length];intro v _;rw[a1N (u:=fun _=>0) (fun _ _=>rfl)];exact decide_eq_true Rat.le_refl
 omega
theorem a0M.upper {c:Nat} {z:List Vec} {W:Vec->Prop} (hW:Dirs c z W) {k:Nat} (h:a0M c z k):∃x,b2O c W z x/\∀l,a0M c (onL c x z) l->a5a c x z+l<=k:=by
 obtain⟨⟨u,hu,hk⟩,_⟩:=h;obtain⟨y,hy,hyu⟩:=hW.all u;have hky:a1C c y z=k:=by
  rw[<-hk];unfold a1C;exact List.countP_congr fun v hv=>by rw[hyu v hv]
 by_cases hn:nz c y
 ·obtain⟨x,h1,h2⟩:=a8S hW _ y hy hn rfl
  refine⟨x,h1,fun l hl=>?_⟩;have:=b1W h2;have:=hl.2 y hn;omega
 ·obtain⟨s,hs,hsn⟩:=hW.some_
  obtain⟨x,h1,_⟩:=a8S hW _ s hs hsn rfl;refine⟨x,h1,fun l hl=>?_⟩;have hall:a1C c y z=z.length:=by
   unfold a1C;rw[List.countP_eq_length];intro v _;have:dot c y v=0:=a1N fun j hj=>Classical.byContradiction fun e=>hn ⟨j,hj,e⟩;rw[this];exact decide_eq_true Rat.le_refl
  have:=b2Q c x z;have:=hl.le;omega
def Ort (c:Nat) (M:List Vec) (y:Vec):Prop:=∀v∈M,dot c v y=0
theorem Ort.app {c:Nat} {M L:List Vec} {y:Vec}:Ort c (M++L) y↔Ort c M y/\Ort c L y:=by
 constructor
 ·exact fun h=>⟨fun v hv=>h v (List.mem_append_left _ hv),fun v hv=>h v (List.mem_append_right _ hv)⟩
 ·rintro ⟨h1,h2⟩ v hv
  rcases List.mem_append.1 hv with hv|hv
  ·exact h1 v hv
  ·exact h2 v hv
theorem a4m (c:Nat) (v u y:Vec) (t:Rat):dot c v (fun j=>u j+t*y j)=dot c v u+t*dot c v y:=by
 rw[a0C,a2X,a0C c u v,a0C c y v]
theorem Ort.lin {c:Nat} {M:List Vec} {u y:Vec} (t:Rat) (hu:Ort c M u) (hy:Ort c M y):Ort c M (fun j=>u j+t*y j):=fun v hv=>by
 rw[a4m,hu v hv,hy v hv];grind
theorem Ort.congr {c:Nat} {M:List Vec} {u y:Vec} (h:∀j,j<c->u j=y j) (hu:Ort c M u):Ort c M y:=fun v hv=>by
 rw[a0C,<-a2r h,a0C];exact hu v hv
theorem a6y (c k:Nat) (f:F2) (a:Vec) (v:Vec):dot c v (fun j=>cmb k f a j)=sm k fun i=>a i*dot c v (f i):=by
 unfold dot cmb;rw[a0j (g:=fun j=>sm k fun i=>v j*(a i*f i j)) fun j _=>(a1l k (v j) _).symm,a2W];exact a0j fun i _=>by rw[<-a1l];exact a0j fun j _=>by grind
structure Basis (c:Nat) (P:Vec->Prop) (k:Nat) (f:F2):Prop where
 mem:∀i,i<k->P (f i)
 li:LI k c f
 span:∀y,P y->∃a:Vec,∀j,j<c->y j=cmb k f a j
theorem b2R {k m c:Nat} {f g:F2} (hf:LI k c f) (h:∀i,i<k->∃a:Vec,∀j,j<c->f i j=cmb m g a j):k<=m:=by
 obtain⟨r,p,d,hr,h1⟩:=a7S k c f;have h2:=hf.full hr h1;have h3:∀i,∃a:Vec,i<k->∀j,j<c->f i j=cmb m g a j:=fun i=>by
  by_cases hi:i<k
  ·obtain⟨a,ha⟩:=h i hi;exact⟨a,fun _=>ha⟩
  ·exact⟨fun _=>0,fun h=>absurd h hi⟩
 have:=b7E hr h1 (fun i=>(h3 i).choose) g fun i hi j hj=>(h3 i).choose_spec hi j hj;omega
theorem Basis.le {c:Nat} {P Q:Vec->Prop} {k m:Nat} {f g:F2} (h:Basis c P k f) (h':Basis c Q m g) (hPQ:∀y,P y->Q y):k<=m:=
 b2R h.li fun i hi=>h'.span _ (hPQ _ (h.mem i hi))
theorem b5j {n c:Nat} {r:F2} {p:List Nat} (h:Rref n c r p) {x:Vec} (hx:Nul n c r x) (j:Nat) (hj:j<c):x j=cmb (a2q r p c).length (ent (a2q r p c)) (fun i=>x (((List.range c).filter (· ∉p)).getD i 0)) j:=by
 obtain⟨F,hF⟩:∃F,(List.range c).filter (· ∉p)=F:=⟨_,rfl⟩;have hlen:(a2q r p c).length=F.length:=by rw[<-hF];simp[a2q]
 have he:∀i (hi:i<F.length),ent (a2q r p c) i j=nv r p F[i] j:=fun i hi=>by
  unfold ent a2q;rw[hF,List.getD_eq_getElem?_getD (l:=List.map _ _),List.getElem?_map,List.getElem?_eq_getElem hi];simp only[Option.map_some,Option.getD_some];rw[List.getD_eq_getElem?_getD,List.getElem?_map,List.getElem?_range hj];rfl
 have hFm:∀q,q∈F↔q<c/\q∉p:=fun q=>by rw[<-hF];simp
 have hnd:F.Pairwise (· < ·):=by rw[<-hF];exact List.Pairwise.filter _ List.pairwise_lt_range
 have hgd:∀i (hi:i<F.length),F.getD i 0=F[i]:=fun i hi=>by simp[List.getD_eq_getElem?_getD,hi]
 rw[hF,hlen];unfold cmb;rw[a0j (g:=fun i=>x (F.getD i 0)*nv r p (F.getD i 0) j) fun i hi=>by rw[he i hi];dsimp only;rw[hgd i hi]];by_cases hjp:j∈p
 ·obtain⟨i0,hi0,rfl⟩:=List.getElem_of_mem hjp
  have hn:∀q,q∉p->nv r p q p[i0]= - r i0 q:=fun q hq=>h.nv_piv hq i0 hi0;have hrow:=h.row i0 hi0 x;have h0:=hx i0 (by have:=h.le;omega);rw[hrow]at h0;have key:∀(g:Nat->Rat),sm F.length (fun i=>g (F.getD i 0))=sm c (fun q=>if q∈p then 0 else g q):=fun g=>by
   have gen:∀(k:Nat) (G:List Nat),G=(List.range k).filter (· ∉p)->sm G.length (fun i=>g (G.getD i 0))=sm k (fun q=>if q∈p then 0 else g q):=by
    intro k
    induction k with
    |zero=>intro G hG;subst hG;rfl
    |succ k ih=>
     intro G hG;rw[List.range_succ,List.filter_append]at hG;have ih:=ih _ rfl
     show _=sm k _+_
     by_cases hk:k∈p
     ·have:(List.filter (· ∉p) [k])= []:=by simp[hk]
      rw[this,List.append_nil]at hG;subst hG;rw[ih];simp[hk];grind
     ·have:(List.filter (· ∉p) [k])= [k]:=by simp[hk]
      rw[this]at hG;subst hG;obtain⟨H,hH⟩:∃H,List.filter (· ∉p) (List.range k)=H:=⟨_,rfl⟩;rw[hH]at ih |-;rw[List.length_append,<-ih]
      show sm H.length _+_=_
      congr 1
      ·exact a0j fun i hi=>by simp[List.getD_eq_getElem?_getD,List.getElem?_append_left hi]
      ·simp[hk,List.getD_eq_getElem?_getD]
   exact gen c F hF.symm
  have k1:=key (fun q=>x q* - r i0 q);have k2:sm c (fun q=>if q∈p then 0 else x q* - r i0 q)= - sm c (fun q=>if q∈p then 0 else r i0 q*x q):=by
   have:=a1l c (-1) (fun q=>if q∈p then 0 else r i0 q*x q);rw[show -sm c (fun q=>if q∈p then 0 else r i0 q*x q)= -1*sm c (fun q=>if q∈p then 0 else r i0 q*x q)by grind,<-this];exact a0j fun q _=>by split<;>grind
  have k3:sm F.length (fun i=>x (F.getD i 0)*nv r p (F.getD i 0) p[i0])=sm F.length (fun i=>x (F.getD i 0)* - r i0 (F.getD i 0)):=a0j fun i hi=>by
   rw[hgd i hi,hn _ ((hFm _).1 (List.getElem_mem hi)).2]
  rw[k3,k1,k2];grind
 ·obtain⟨i0,hi0,hij⟩:=List.getElem_of_mem ((hFm j).2 ⟨hj,hjp⟩)
  rw[a1m i0 hi0 fun i hi hne=>by
   rw[hgd i hi];have:F[i]≠j:=fun e=>by
    rw[List.pairwise_iff_getElem]at hnd;rcases Nat.lt_or_gt_of_ne hne with a|a
    ·have:=hnd i i0 hi hi0 a;omega
    ·have:=hnd i0 i hi0 hi a;omega
   rw[a6v hjp (Ne.symm this)];grind]
  rw[hgd i0 hi0,hij,a4J];grind
theorem a7m {n c:Nat} {f r:F2} {p:List Nat} {d:Rat} (hr:Rref n c r p) (h:RE n c f r d):Basis c (Nul n c f) (a2q r p c).length (ent (a2q r p c)):=by
 refine⟨fun i hi=>?_,b0s r p c,fun y hy=>⟨_,fun j hj=>b5j hr ((h.nul y).1 hy) j hj⟩⟩;have hi':i<((List.range c).filter (· ∉p)).length:=by simpa[a2q]using hi
 have hm:=List.getElem_mem hi';rw[List.mem_filter,List.mem_range]at hm;have hnp:((List.range c).filter (· ∉p))[i]∉p:=by simpa using hm.2
 have h1:=(h.nul _).2 (hr.nv_nul hnp hm.1);intro q hq;rw[<-h1 q hq];refine a0j fun j hj=>?_
 congr 1
 unfold ent a2q;rw[List.getD_eq_getElem?_getD (l:=List.map _ _),List.getElem?_map,List.getElem?_eq_getElem hi'];simp only[Option.map_some,Option.getD_some];rw[List.getD_eq_getElem?_getD,List.getElem?_map,List.getElem?_range hj];rfl
def fL (M:List Vec):F2:=fun i=>M.getD i fun _=>0
theorem b2S (c:Nat) (M:List Vec) (y:Vec):Ort c M y↔Nul M.length c (fL M) y:=by
 constructor
 ·intro h i hi
  have:=h M[i] (List.getElem_mem hi);unfold dot at this;rw[<-this];exact a0j fun j _=>by simp[fL,List.getD_eq_getElem?_getD,hi]
 ·intro h v hv
  obtain⟨i,hi,rfl⟩:=List.getElem_of_mem hv;have:=h i hi;unfold dot;rw[<-this];exact a0j fun j _=>by simp[fL,List.getD_eq_getElem?_getD,hi]
def Dim (c:Nat) (M:List Vec) (k:Nat):Prop:=∃f,Basis c (Ort c M) k f
theorem Basis.of_iff {c:Nat} {P Q:Vec->Prop} {k:Nat} {f:F2} (h:Basis c P k f) (hPQ:∀y,P y↔Q y):Basis c Q k f:=
 ⟨fun i hi=>(hPQ _).1 (h.mem i hi),h.li,fun y hy=>h.span y ((hPQ y).2 hy)⟩
theorem b0v (c:Nat) (M:List Vec):∃k,Dim c M k:=by
 obtain⟨r,p,d,hr,h⟩:=a7S M.length c (fL M);exact⟨_,_,(a7m hr h).of_iff fun y=>(b2S c M y).symm⟩
theorem Dim.uniq {c:Nat} {M:List Vec} {k m:Nat} (h:Dim c M k) (h':Dim c M m):k=m:=by
 obtain⟨f,hf⟩:=h;obtain⟨g,hg⟩:=h';have:=hf.le hg fun _=>id;have:=hg.le hf fun _=>id;omega
theorem Dim.iff {c:Nat} {M L:List Vec} {k:Nat} (h:Dim c M k) (hML:∀y,Ort c M y↔Ort c L y):Dim c L k:=let ⟨f,hf⟩:=h;⟨f,hf.of_iff hML⟩
theorem Dim.more {c:Nat} {M:List Vec} {k:Nat} (h:Dim c M (k+1)) {v y:Vec} (hy:Ort c M y) (hv:dot c v y≠0):Dim c (M++[v]) k:=by
 obtain⟨f,hf⟩:=h;obtain⟨m,g,hg⟩:=b0v c (M++[v]);have hext:∀a j,cmb (m+1) (fun i=>if i<m then g i else y) a j=cmb m g a j+a m*y j:=fun a j=>by
  unfold cmb
  show sm m _+_=_
  congr 1
  ·exact a0j fun i hi=>by simp[hi]
  ·simp
 have hgo:∀i,i<m->Ort c M (g i)/\dot c v (g i)=0:=fun i hi=>by
  have:=Ort.app.1 (hg.mem i hi);exact⟨this.1,this.2 v (by simp)⟩
 have h1:m+1<=k+1:=by
  refine b2R (c:=c) (f:=fun i=>if i<m then g i else y) (g:=f) (fun a ha=>?_) fun i hi=>?_
  ·have h0:dot c v (fun j=>cmb m g a j+a m*y j)=0:=by
    rw[a0C];exact a1N fun j hj=>by rw[<-hext];exact ha j hj
   rw[a4m c v (fun j=>cmb m g a j) y (a m),a6y,a1V fun i hi=>by rw[(hgo i hi).2];grind]at h0;have ham:a m=0:=by
    have:a m*dot c v y=0:=by grind
    rcases Rat.mul_eq_zero.1 this with e|e
    ·exact e
    ·contradiction
   have h2:=hg.li a fun j hj=>by have:=ha j hj;rw[hext,ham]at this;grind
   intro i hi;by_cases e:i=m
   ·subst e;exact ham
   ·exact h2 i (by omega)
  ·by_cases hi':i<m
   ·obtain⟨a,ha⟩:=hf.span _ (hgo i hi').1
    exact⟨a,fun j hj=>by simp only[hi',if_true];exact ha j hj⟩
   ·obtain⟨a,ha⟩:=hf.span _ hy
    exact⟨a,fun j hj=>by simp only[hi',if_false];exact ha j hj⟩
 have h2:k+1<=m+1:=by
  refine b2R (c:=c) (f:=f) (g:=fun i=>if i<m then g i else y) hf.li fun i hi=>?_;have hfi:=hf.mem i hi;obtain⟨t,ht⟩:∃t,dot c v (f i)/dot c v y=t:=⟨_,rfl⟩;have ht2:t*dot c v y=dot c v (f i):=by rw[<-ht];exact Rat.div_mul_cancel hv
  obtain⟨a,ha⟩:=hg.span (fun j=>f i j+ -t*y j) (Ort.app.2 ⟨hfi.lin (-t) hy,fun w hw=>by
   have:w=v:=by simpa using hw
   subst this;rw[a4m];grind⟩)
  refine⟨fun q=>if q<m then a q else t,fun j hj=>?_⟩;rw[hext];have h3:=ha j hj;have h4:cmb m g (fun q=>if q<m then a q else t) j=cmb m g a j:=a0j fun q hq=>by simp[hq]
  simp only[Nat.lt_irrefl,if_false];rw[h4];grind
 have:m=k:=by omega
 subst this;exact⟨g,hg⟩
theorem Dim.one {c:Nat} {M:List Vec} (h:Dim c M 1) {x:Vec} (hx:Ort c M x) (hn:nz c x) (y:Vec) (hy:Ort c M y):∃t:Rat,∀j,j<c->y j=t*x j:=by
 obtain⟨f,hf⟩:=h;obtain⟨a,ha⟩:=hf.span x hx;obtain⟨b,hb⟩:=hf.span y hy;have h1:∀(a:Vec) j,cmb 1 f a j=a 0*f 0 j:=fun a j=>by unfold cmb sm sm;grind
 have ha0:a 0≠0:=fun e=>hn.not fun j hj=>by rw[ha j hj,h1,e];grind
 refine⟨b 0/a 0,fun j hj=>?_⟩;rw[hb j hj,ha j hj,h1,h1,<-Rat.mul_assoc,Rat.div_mul_cancel ha0]
theorem Dim.two {c k:Nat} {M:List Vec} (h:Dim c M (k+2)) (x:Vec):∃y,Ort c M y/\∀t:Rat,¬∀j,j<c->y j=t*x j:=by
 apply Classical.byContradiction;intro hn;have hall:∀y,Ort c M y->∃t:Rat,∀j,j<c->y j=t*x j:=fun y hy=>Classical.byContradiction fun h2=>hn ⟨y,hy,fun t ht=>h2 ⟨t,ht⟩⟩;obtain⟨f,hf⟩:=h;have:=b2R (m:=1) (g:=fun _=>x) hf.li fun i hi=>by
  obtain⟨t,ht⟩:=hall _ (hf.mem i hi);exact⟨fun _=>t,fun j hj=>by rw[ht j hj];unfold cmb sm sm;grind⟩
 omega
def z0:Vec:=fun _=>0
def a2I (z:List Vec) (I:List Nat):List Vec:=I.map fun i=>z.getD i z0
theorem b9t {z:List Vec} {i:Nat} (h:i<z.length):z.getD i z0=z[i]:=by simp[List.getD_eq_getElem?_getD,h]
theorem sel {c:Nat} (z:List Vec) (x:Vec) (hn:nz c x):∀(r:Nat) (O:List Vec),Dim c O (r+1)->Ort c O x->(∀y,Ort c O y->(∀v∈onL c x z,dot c y v=0)->∃t:Rat,∀j,j<c->y j=t*x j)->
  ∃I:List Nat,I.length=r/\I.Nodup/\(∀i∈I,i<z.length/\dot c (z.getD i z0) x=0/\∃y,Ort c O y/\dot c (z.getD i z0) y≠0)/\∀y,Ort c O y->(∀i∈I,dot c (z.getD i z0) y=0)->∃t:Rat,∀j,j<c->y j=t*x j:=by
 intro r
 induction r with
 |zero=>exact fun O hd hx _=>⟨[],rfl,List.nodup_nil,fun i hi=>by simp at hi,fun y hy _=>hd.one hx hn y hy⟩
 |succ r ih=>
  intro O hd hx hv;obtain⟨y,hy,hyn⟩:=hd.two x;obtain⟨v,hvm,hvy⟩:∃v∈onL c x z,dot c y v≠0:=by
   apply Classical.byContradiction;intro h;obtain⟨t,ht⟩:=hv y hy fun v hv=>Classical.byContradiction fun e=>h ⟨v,hv,e⟩;exact hyn t ht
  obtain⟨hvz,hvx⟩:=List.mem_filter.1 hvm;have hvx:dot c x v=0:=by simpa using hvx
  obtain⟨i,hi,rfl⟩:=List.getElem_of_mem hvz;have hd2:=hd.more (v:=z[i]) hy (by rw[a0C];exact hvy);obtain⟨I,h1,h2,h3,h4⟩:=ih (O++[z[i]]) hd2 (Ort.app.2 ⟨hx,fun w hw=>by
   have:w=z[i]:=by simpa using hw
   subst this;rw[a0C];exact hvx⟩) fun y' hy'=>hv y' (Ort.app.1 hy').1
  refine⟨i::I,by simp[h1],List.nodup_cons.2 ⟨fun hm=>?_,h2⟩,fun q hq=>?_,fun y' hy' hq=>?_⟩
  ·obtain⟨_,_,y',hy',hne⟩:=h3 i hm
   rw[b9t hi]at hne;exact hne ((Ort.app.1 hy').2 _ (by simp))
  ·rcases List.mem_cons.1 hq with rfl|hq
   ·exact⟨hi,by rw[b9t hi,a0C];exact hvx,y,hy,by rw[b9t hi,a0C];exact hvy⟩
   ·obtain⟨a,b,y',hy',hne⟩:=h3 q hq
    exact⟨a,b,y',(Ort.app.1 hy').1,hne⟩
  ·refine h4 y' (Ort.app.2 ⟨hy',fun w hw=>?_⟩) fun q hq'=>hq q (List.mem_cons_of_mem _ hq')
   have:w=z[i]:=by simpa using hw
   subst this;have:=hq i List.mem_cons_self;rwa[b9t hi]at this
theorem asc {I:List Nat} {n:Nat} (h:I.Nodup) (hn:∀i∈I,i<n):∃J:List Nat,J.length=I.length/\J.Pairwise (· < ·)/\∀i,i∈J↔i∈I:=by
 refine⟨(List.range n).filter (· ∈I),?_,List.Pairwise.filter _ List.pairwise_lt_range,fun i=>?_⟩
 ·refine List.Perm.length_eq ((List.perm_ext_iff_of_nodup ?_ h).2 fun i=>?_)
  ·exact List.Pairwise.imp (fun h=>Nat.ne_of_lt h) (List.Pairwise.filter _ List.pairwise_lt_range)
  ·simp only[List.mem_filter,List.mem_range,decide_eq_true_eq]
   exact⟨fun h=>h.2,fun h=>⟨hn i h,h⟩⟩
 ·simp only[List.mem_filter,List.mem_range,decide_eq_true_eq]
  exact⟨fun h=>h.2,fun h=>⟨hn i h,h⟩⟩
theorem b1X {c:Nat} {M:List Vec} {x:Vec} (hn:nz c x) (hx:Ort c M x) (h:∀y,Ort c M y->∃t:Rat,∀j,j<c->y j=t*x j):Dim c M 1:=by
 obtain⟨k,hk⟩:=b0v c M
 match k,hk with
 |0,hk=>
  obtain⟨f,hf⟩:=hk;obtain⟨a,ha⟩:=hf.span x hx;exact absurd (fun j hj=>by rw[ha j hj];rfl) hn.not
 |1,hk=>exact hk
 |k+2,hk=>
  obtain⟨y,hy,hyn⟩:=hk.two x;obtain⟨t,ht⟩:=h y hy;exact absurd ht (hyn t)
theorem b1Y {c r k:Nat} {z O:List Vec} (hD:Dirs c z (Ort c O)) (hd:Dim c O (r+1)) (h:a0M c z k):
  ∃I:List Nat,I.length=r/\I.Pairwise (· < ·)/\(∀i∈I,i<z.length)/\Dim c (a2I z I++O) 1/\∃x,nz c x/\Ort c (a2I z I++O) x/\∀l,a0M c (onL c x z) l->a5a c x z+l<=k:=by
 obtain⟨x,⟨hx1,hx2,hx3⟩,hx4⟩:=h.upper hD;obtain⟨I,h1,h2,h3,h4⟩:=sel z x hx2 r O hd hx1 hx3;obtain⟨J,g1,g2,g3⟩:=asc (n:=z.length) h2 fun i hi=>(h3 i hi).1;have hxo:Ort c (a2I z J++O) x:=Ort.app.2 ⟨fun v hv=>by
  obtain⟨i,hi,rfl⟩:=List.mem_map.1 hv;exact(h3 i ((g3 i).1 hi)).2.1,hx1⟩
 refine⟨J,g1.trans h1,g2,fun i hi=>(h3 i ((g3 i).1 hi)).1,b1X hx2 hxo fun y hy=>?_,x,hx2,hxo,hx4⟩;obtain⟨y1,y2⟩:=Ort.app.1 hy;exact h4 y y2 fun i hi=>y1 _ (List.mem_map.2 ⟨i,(g3 i).2 hi,rfl⟩)
theorem a5b {c:Nat} {u:Vec} {t:Rat} (ht:0<t) (z:List Vec):a5a c (fun j=>t*u j) z=a5a c u z/\onL c (fun j=>t*u j) z=onL c u z/\a1C c (fun j=>t*u j) z=a1C c u z:=by
 have h1:∀v,(0<dot c (fun j=>t*u j) v↔0<dot c u v)/\(dot c (fun j=>t*u j) v=0↔dot c u v=0):=fun v=>by
  rw[a5G];refine⟨⟨fun h=>?_,fun h=>Rat.mul_pos ht h⟩,⟨fun h=>?_,fun h=>by rw[h];grind⟩⟩
  ·apply Classical.byContradiction;intro k
   have:=Rat.mul_nonneg (Rat.le_of_lt ht) (show 0<= - dot c u v by grind);grind
  ·rcases Rat.mul_eq_zero.1 h with e|e
   ·grind
   ·exact e
 refine⟨List.countP_congr fun v _=>by simp[(h1 v).1],List.filter_congr fun v _=>by simp[(h1 v).2],List.countP_congr fun v _=>?_⟩;have:=h1 v;simp only[decide_eq_true_eq];constructor
 ·intro h
  by_cases e:dot c (fun j=>t*u j) v=0
  ·rw[this.2.1 e];exact Rat.le_refl
  ·exact Rat.le_of_lt (this.1.1 (by grind))
 ·intro h
  by_cases e:dot c u v=0
  ·rw[this.2.2 e];exact Rat.le_refl
  ·exact Rat.le_of_lt (this.1.2 (by grind))
theorem a3H {c:Nat} {u x:Vec} (h:∀j,j<c->u j=x j) (z:List Vec):a5a c u z=a5a c x z/\onL c u z=onL c x z/\a1C c u z=a1C c x z:=by
 have:∀v,dot c u v=dot c x v:=fun v=>a2r h;unfold a5a onL a1C;simp only[this];exact⟨trivial,trivial,trivial⟩
theorem c1Q (c k:Nat) (f:F2):∀u:Vec,∃(x a:Vec),(∀j,j<c->u j=x j+cmb k f a j)/\∀i,i<k->dot c (f i) x=0:=by
 induction k with
 |zero=>exact fun u=>⟨u,fun _=>0,fun j _=>by unfold cmb sm;grind,fun i hi=>by omega⟩
 |succ k ih=>
  intro u;obtain⟨x,a,h1,h2⟩:=ih u;obtain⟨n,b,g1,g2⟩:=ih (f k);have hdn:dot c (f k) x=dot c n x:=by
   rw[a0C,a0C c n x];have:dot c x (f k)=dot c x (fun j=>n j+1*cmb k f b j):=by rw[a0C,a0C c x];exact a2r fun j hj=>by rw[g1 j hj];grind
   rw[this,a4m c x n (fun j=>cmb k f b j) 1,a6y,a1V fun i hi=>by rw[a0C,h2 i hi];grind];grind
  have hdnn:dot c (f k) n=dot c n n:=by
   rw[a0C];have:dot c n (f k)=dot c n (fun j=>n j+1*cmb k f b j):=by rw[a0C,a0C c n];exact a2r fun j hj=>by rw[g1 j hj];grind
   rw[this,a4m c n n (fun j=>cmb k f b j) 1,a6y,a1V fun i hi=>by rw[a0C,g2 i hi];grind];grind
  have hsucc:∀(q:Vec) j,cmb (k+1) f q j=cmb k f q j+q k*f k j:=fun q j=>rfl;by_cases h0:dot c n n=0
  ·have hn0:=a7U h0
   refine⟨x,fun i=>if i<k then a i else 0,fun j hj=>?_,fun i hi=>?_⟩
   ·rw[hsucc,h1 j hj]
    have:cmb k f (fun i=>if i<k then a i else 0) j=cmb k f a j:=a0j fun i hi=>by simp[hi]
    rw[this];simp;grind
   ·by_cases e:i=k
    ·subst e;rw[hdn];exact a1N hn0
    ·exact h2 i (by omega)
  ·obtain⟨t,ht⟩:∃t,dot c n x/dot c n n=t:=⟨_,rfl⟩
   have ht2:t*dot c n n=dot c n x:=by rw[<-ht];exact Rat.div_mul_cancel h0
   refine⟨fun j=>x j+ -t*n j,fun i=>if i<k then a i+ -t*b i else t,fun j hj=>?_,fun i hi=>?_⟩
   ·rw[hsucc,h1 j hj]
    have:cmb k f (fun i=>if i<k then a i+ -t*b i else t) j=cmb k f a j+ -t*cmb k f b j:=by
     unfold cmb;rw[<-a1l,<-a6t];exact a0j fun i hi=>by simp[hi];grind
    rw[this];have:=g1 j hj;simp;grind
   ·rw[a4m]
    by_cases e:i=k
    ·subst e;rw[hdn,hdnn];grind
    ·rw[h2 i (by omega),g2 i (by omega)];grind
theorem b7I {c k:Nat} {z:List Vec} {f:F2} {O:List Vec} (hb:Basis c (Ort c z) k f) (hO:∀y,Ort c O y↔∀i,i<k->dot c (f i) y=0) (hz:∃v∈z,nz c v):Dirs c z (Ort c O):=by
 refine⟨fun u y t hu hy=>hu.lin t hy,fun y hy h=>?_,fun u=>?_,?_⟩
 ·obtain⟨a,ha⟩:=hb.span y fun v hv=>by rw[a0C];exact h v hv
  refine a7U ?_;have:dot c y y=dot c y (fun j=>cmb k f a j):=by rw[a0C c y (fun j=>cmb k f a j)];exact a2r ha
  rw[this,a6y,a1V fun i hi=>by rw[a0C,(hO y).1 hy i hi];grind]
 ·obtain⟨x,a,h1,h2⟩:=c1Q c k f u
  refine⟨x,(hO x).2 h2,fun v hv=>?_⟩;have:dot c u v=dot c (fun j=>x j+1*cmb k f a j) v:=a2r fun j hj=>by rw[h1 j hj];grind
  rw[this,a2X c x (fun j=>cmb k f a j) 1,a0C c (fun j=>cmb k f a j),a6y,a1V fun i hi=>by rw[hb.mem i hi v hv];grind];grind
 ·obtain⟨v,hv,hn⟩:=hz
  exact⟨v,(hO v).2 fun i hi=>by rw[a0C];exact hb.mem i hi v hv,hn⟩
end Go.Lin
