/- Sums, row operations, and the reduced form of a matrix, which is unique. Conditions: none. Row echelon forms and reduced forms, column by column. Conditions: none. Elimination over lists of rows: what the two programs compute is the reduced form. Conditions: none. Determinants of at most four rows: row operations, products, the transposed matrix, triangles. Conditions: none. Ranks, null vectors and solutions, read off the reduced form. Conditions: none. Least squares: the normal equations, over functions of row and column. Conditions: none. Least squares: the fit by the used columns, and the leverages, over functions. Conditions: none. Natural numbers as lists of digits to the base 2^32, lowest first. Plain mathematics. Conditions: none. Integers and rational numbers as a sign and lists of digits, their only form, and their size. Conditions: none. How large the numbers of an elimination grow. Conditions: none. Matrices whose elimination stays small: those of small numbers, and those that are reduced. Conditions: none. Solve, as lists. Conditions: none. -/
namespace Go.Lin
def sm:Nat->(Nat->Rat)->Rat
 |0,_=>0
 |n+1,f=>sm n f+f n
theorem a0r {n:Nat} {f g:Nat->Rat} (h:∀i,i<n->f i=g i):sm n f=sm n g:=by
 induction n with
 |zero=>rfl
 |succ n ih=>unfold sm;rw[ih fun i hi=>h i (by omega),h n (by omega)]
theorem a4G {n:Nat} {f:Nat->Rat} (h:∀i,i<n->f i=0):sm n f=0:=by
 induction n with
 |zero=>rfl
 |succ n ih=>unfold sm;rw[ih fun i hi=>h i (by omega),h n (by omega)];grind
theorem a6c (n:Nat) (f g:Nat->Rat):sm n (fun i=>f i+g i)=sm n f+sm n g:=by
 induction n with
 |zero=>unfold sm;grind
 |succ n ih=>unfold sm;rw[ih];grind
theorem a3M (n:Nat) (a:Rat) (f:Nat->Rat):sm n (fun i=>a*f i)=a*sm n f:=by
 induction n with
 |zero=>unfold sm;grind
 |succ n ih=>unfold sm;rw[ih];grind
theorem b0n (n m:Nat) (f:Nat->Nat->Rat):sm n (fun i=>sm m (fun j=>f i j))=sm m (fun j=>sm n (fun i=>f i j)):=by
 induction n with
 |zero=>simp only[sm];rw[a4G];intros;rfl
 |succ n ih=>simp only[sm];rw[ih,a6c]
theorem a3e {n:Nat} {f:Nat->Rat} (k:Nat) (hk:k<n) (h:∀i,i<n->i≠k->f i=0):sm n f=f k:=by
 induction n with
 |zero=>omega
 |succ n ih=>
  unfold sm;by_cases e:k=n
  ·subst e;rw[a4G fun i hi=>h i (by omega) (by omega)];grind
  ·rw[ih (by omega) fun i hi hik=>h i (by omega) hik,h n (by omega) (by omega)];grind
theorem b5K (n:Nat) (f g:Nat->Rat):sm n (fun i=>f i - g i)=sm n f - sm n g:=by
 induction n with
 |zero=>unfold sm;grind
 |succ n ih=>unfold sm;rw[ih];grind
theorem b4j {n:Nat} {f g:Nat->Rat} (k:Nat) (hk:k<n) (h:∀i,i<n->i≠k->f i=g i) (h2:f k=g k):sm n f=sm n g:=
 a0r fun i hi=>by
             by_cases e:i=k
             ·subst e;exact h2
             ·exact h i hi e
theorem b3L {n:Nat} {f g:Nat->Rat} (i k:Nat) (hi:i<n) (hk:k<n) (hik:i≠k) (h:∀r,r<n->r≠i->r≠k->f r=g r) (h2:f i+f k=g i+g k):sm n f=sm n g:=by
 have e:sm n (fun r=>f r - g r)=0:=by
  have e1:∀r,r<n->(fun r=>f r - g r) r=(fun r=>(if r=i then f i - g i else 0)+(if r=k then f k - g k else 0)) r:=by
   intro r hr
   show f r - g r=_
   by_cases a:r=i
   ·subst a;simp[hik];grind
   ·by_cases b:r=k
    ·subst b;simp[a];grind
    ·simp[a,b];rw[h r hr a b];grind
  rw[a0r e1,a6c,a3e i hi (fun r _ hr=>by simp[hr]),a3e k hk (fun r _ hr=>by simp[hr])];simp;grind
 rw[b5K]at e;grind
abbrev F2:=Nat->Nat->Rat
def Eqm (n c:Nat) (f g:F2):Prop:=∀i,i<n->∀j,j<c->f i j=g i j
def Nul (n c:Nat) (f:F2) (x:Nat->Rat):Prop:=∀i,i<n->sm c (fun j=>f i j*x j)=0
inductive RE (n c:Nat):F2->F2->Rat->Prop
 |same {f g:F2} (h:Eqm n c f g):RE n c f g 1
 |swap {f g:F2} (i k:Nat) (hi:i<n) (hk:k<n) (hik:i≠k) (h1:∀j,j<c->g i j=f k j) (h2:∀j,j<c->g k j=f i j) (h3:∀r,r<n->r≠i->r≠k->∀j,j<c->g r j=f r j):RE n c f g (-1)
 |scale {f g:F2} (i:Nat) (a:Rat) (hi:i<n) (ha:a≠0) (h1:∀j,j<c->g i j=a*f i j) (h3:∀r,r<n->r≠i->∀j,j<c->g r j=f r j):RE n c f g a
 |add {f g:F2} (i k:Nat) (a:Rat) (hi:i<n) (hk:k<n) (hik:i≠k) (h1:∀j,j<c->g i j=f i j+a*f k j) (h3:∀r,r<n->r≠i->∀j,j<c->g r j=f r j):RE n c f g 1
 |trans {f g h:F2} {a b:Rat} (h1:RE n c f g a) (h2:RE n c g h b):RE n c f h (a*b)
theorem RE.ne {n c:Nat} {f g:F2} {d:Rat} (h:RE n c f g d):d≠0:=by
 induction h with
 |same=>grind
 |swap=>grind
 |scale=>assumption
 |add=>grind
 |trans _ _ ih1 ih2=>intro e;rcases Rat.mul_eq_zero.1 e with h|h<;>contradiction
theorem RE.nul {n c:Nat} {f g:F2} {d:Rat} (h:RE n c f g d) (x:Nat->Rat):Nul n c f x↔Nul n c g x:=by
 induction h with
 |same h=>
  constructor
  ·intro hn i hi;rw[<-hn i hi];exact a0r fun j hj=>by rw[h i hi j hj]
  ·intro hn i hi;rw[<-hn i hi];exact a0r fun j hj=>by rw[h i hi j hj]
 |swap i k hi hk hik h1 h2 h3=>
  constructor
  ·intro hn r hr
   by_cases a:r=i
   ·subst a;rw[<-hn k hk];exact a0r fun j hj=>by rw[h1 j hj]
   ·by_cases b:r=k
    ·subst b;rw[<-hn i hi];exact a0r fun j hj=>by rw[h2 j hj]
    ·rw[<-hn r hr];exact a0r fun j hj=>by rw[h3 r hr a b j hj]
  ·intro hn r hr
   by_cases a:r=i
   ·subst a;rw[<-hn k hk];exact a0r fun j hj=>by rw[h2 j hj]
   ·by_cases b:r=k
    ·subst b;rw[<-hn i hi];exact a0r fun j hj=>by rw[h1 j hj]
    ·rw[<-hn r hr];exact a0r fun j hj=>by rw[h3 r hr a b j hj]
 |@scale f g i a hi ha h1 h3=>
  have key:sm c (fun j=>g i j*x j)=a*sm c (fun j=>f i j*x j):=by
   rw[<-a3M];exact a0r fun j hj=>by rw[h1 j hj];grind
  constructor
  ·intro hn r hr
   by_cases e:r=i
   ·subst e;rw[key,hn r hr];grind
   ·rw[<-hn r hr];exact a0r fun j hj=>by rw[h3 r hr e j hj]
  ·intro hn r hr
   by_cases e:r=i
   ·subst e;have:=hn r hr;rw[key]at this;rcases Rat.mul_eq_zero.1 this with h|h
    ·contradiction
    ·exact h
   ·rw[<-hn r hr];exact a0r fun j hj=>by rw[h3 r hr e j hj]
 |@add f g i k a hi hk hik h1 h3=>
  have key:sm c (fun j=>g i j*x j)=sm c (fun j=>f i j*x j)+a*sm c (fun j=>f k j*x j):=by
   rw[<-a3M,<-a6c];exact a0r fun j hj=>by rw[h1 j hj];grind
  constructor
  ·intro hn r hr
   by_cases e:r=i
   ·subst e;rw[key,hn r hr,hn k hk];grind
   ·rw[<-hn r hr];exact a0r fun j hj=>by rw[h3 r hr e j hj]
  ·intro hn r hr
   by_cases e:r=i
   ·subst e
    have h4:=hn r hr;rw[key]at h4;have h5:=hn k hk;rw[show sm c (fun j=>g k j*x j)=sm c (fun j=>f k j*x j)from a0r fun j hj=>by rw[h3 k hk (by omega) j hj]]at h5;rw[h5]at h4;grind
   ·rw[<-hn r hr];exact a0r fun j hj=>by rw[h3 r hr e j hj]
 |trans _ _ ih1 ih2=>exact ih1.trans ih2
def cmb (n:Nat) (f:F2) (y:Nat->Rat) (j:Nat):Rat:=sm n fun i=>y i*f i j
def LI (n c:Nat) (f:F2):Prop:=∀y:Nat->Rat,(∀j,j<c->cmb n f y j=0)->∀i,i<n->y i=0
theorem RE.li {n c:Nat} {f g:F2} {d:Rat} (h:RE n c f g d) (hf:LI n c f):LI n c g:=by
 induction h with
 |same h=>
  intro y hy;exact hf y fun j hj=>by rw[<-hy j hj];exact a0r fun i hi=>by rw[h i hi j hj]
 |@swap f g i k hi hk hik h1 h2 h3=>
  intro y hy;have:=hf (fun r=>if r=i then y k else if r=k then y i else y r) fun j hj=>by
   rw[<-hy j hj];refine b3L i k hi hk hik (fun r hr a b=>?_) ?_
   ·simp[a,b,h3 r hr a b j hj]
   ·simp[hik.symm,h1 j hj,h2 j hj];grind
  intro r hr;by_cases a:r=i
  ·subst a;simpa[hik.symm]using this k hk
  ·by_cases b:r=k
   ·subst b;simpa using this i hi
   ·simpa[a,b]using this r hr
 |@scale f g i a hi ha h1 h3=>
  intro y hy;have:=hf (fun r=>if r=i then a*y i else y r) fun j hj=>by
   rw[<-hy j hj];refine b4j i hi (fun r hr e=>?_) ?_
   ·simp[e,h3 r hr e j hj]
   ·simp[h1 j hj];grind
  intro r hr;by_cases e:r=i
  ·subst e
   have h4:=this r hr;simp only[if_true]at h4;rcases Rat.mul_eq_zero.1 h4 with h4|h4
   ·contradiction
   ·exact h4
  ·simpa[e]using this r hr
 |@add f g i k a hi hk hik h1 h3=>
  intro y hy;have:=hf (fun r=>if r=k then y k+a*y i else y r) fun j hj=>by
   rw[<-hy j hj];refine b3L i k hi hk hik (fun r hr a b=>?_) ?_
   ·simp[b,h3 r hr a j hj]
   ·simp[hik,h1 j hj,h3 k hk hik.symm j hj];grind
  intro r hr;have hyi:y i=0:=by simpa[hik]using this i hi
  by_cases e:r=k
  ·subst e
   have h4:=this r hr;simp[hyi]at h4;grind
  ·simpa[e]using this r hr
 |trans _ _ ih1 ih2=>exact ih2 (ih1 hf)
structure Rref (n c:Nat) (f:F2) (p:List Nat):Prop where
 le:p.length<=n
 lt:∀i (hi:i<p.length),p[i]<c
 inc:∀i k (hik:i<k) (hk:k<p.length),p[i]<p[k]
 left:∀i (hi:i<p.length),∀j,j<p[i]->f i j=0
 one:∀i (hi:i<p.length),f i p[i]=1
 zero:∀k (hk:k<p.length),∀i,i<n->i≠k->f i p[k]=0
 below:∀i,p.length<=i->i<n->∀j,j<c->f i j=0
def nv (f:F2) (p:List Nat) (j:Nat):Nat->Rat:=fun x=>if x=j then 1 else match p.findIdx? (· ==x)with|some i=> - f i j|none=>0
theorem Rref.idx {n c:Nat} {f:F2} {p:List Nat} (h:Rref n c f p) (i:Nat) (hi:i<p.length):p.findIdx? (· ==p[i])=some i:=by
 rw[List.findIdx?_eq_some_iff_getElem];refine⟨hi,by simp,fun j hj=>?_⟩;have:=h.inc j i hj hi;simp;omega
theorem b2c {p:List Nat} {x:Nat} (h:x∉p):p.findIdx? (· ==x)=none:=by
 rw[List.findIdx?_eq_none_iff];intro y hy;simp;rintro rfl;exact h hy
theorem Rref.nv_piv {n c:Nat} {f:F2} {p:List Nat} (h:Rref n c f p) {j:Nat} (hj:j∉p) (i:Nat) (hi:i<p.length):nv f p j p[i]= - f i j:=by
 unfold nv;rw[if_neg (by rintro e;exact hj (e▸List.getElem_mem _)),h.idx i hi]
theorem a4H {f:F2} {p:List Nat} (j:Nat):nv f p j j=1:=by simp[nv]
theorem a5u {f:F2} {p:List Nat} {j x:Nat} (hx:x∉p) (hj:x≠j):nv f p j x=0:=by
 unfold nv;rw[if_neg hj,b2c hx]
theorem Rref.row {n c:Nat} {f:F2} {p:List Nat} (h:Rref n c f p) (i:Nat) (hi:i<p.length) (x:Nat->Rat):sm c (fun j=>f i j*x j)=x p[i]+sm c (fun j=>if j∈p then 0 else f i j*x j):=by
 have e:sm c (fun j=>f i j*x j)=sm c (fun j=>(if j=p[i]then x p[i]else 0)+(if j∈p then 0 else f i j*x j)):=by
  refine a0r fun j hj=>?_;by_cases hp:j∈p
  ·obtain⟨k,hk,rfl⟩:=List.getElem_of_mem hp
   by_cases hki:i=k
   ·subst hki;simp[h.one i hi];grind
   ·have hne:p[k]≠p[i]:=by
     rcases Nat.lt_or_gt_of_ne hki with a|a
     ·have:=h.inc i k a hk;omega
     ·have:=h.inc k i a hi;omega
    simp[hne,h.zero k hk i (Nat.lt_of_lt_of_le hi h.le) hki];grind
  ·have hne:j≠p[i]:=by rintro rfl;exact hp (List.getElem_mem _)
   simp[hp,hne];grind
 rw[e,a6c,a3e p[i] (h.lt i hi) (fun j _ hj=>by simp[hj])];simp
theorem Rref.nv_nul {n c:Nat} {f:F2} {p:List Nat} (h:Rref n c f p) {j:Nat} (hj:j∉p) (hjc:j<c):Nul n c f (nv f p j):=by
 intro i hi;by_cases hip:i<p.length
 ·rw[h.row i hip,h.nv_piv hj i hip,a3e j hjc]
  ·simp[hj,a4H];grind
  ·intro k _ hkj
   by_cases hp:k∈p
   ·simp[hp]
   ·simp[hp,a5u hp hkj]
 ·exact a4G fun k hk=>by rw[h.below i (by omega) hi k hk];grind
theorem Rref.nv_supp {n c:Nat} {f:F2} {p:List Nat} (h:Rref n c f p) {j:Nat} (hj:j∉p) {x:Nat} (hx:j<x):nv f p j x=0:=by
 by_cases hp:x∈p
 ·obtain⟨k,hk,rfl⟩:=List.getElem_of_mem hp
  rw[h.nv_piv hj k hk,h.left k hk j hx];grind
 ·exact a5u hp (by omega)
theorem Rref.sub {n c:Nat} {f g:F2} {p q:List Nat} (hf:Rref n c f p) (hg:Rref n c g q) (hn:∀x,Nul n c f x->Nul n c g x) (j:Nat) (hj:j∈q):j∈p:=by
 refine Classical.byContradiction fun hjp=>?_;obtain⟨k,hk,rfl⟩:=List.getElem_of_mem hj;have h1:=hn _ (hf.nv_nul hjp (hg.lt k hk)) k (Nat.lt_of_lt_of_le hk hg.le);rw[a3e q[k] (hg.lt k hk)]at h1
 ·rw[hg.one k hk,a4H]at h1;grind
 ·intro x _ hx
  rcases Nat.lt_or_gt_of_ne hx with a|a
  ·rw[hg.left k hk x a];grind
  ·rw[hf.nv_supp hjp a];grind
theorem b3M:∀(p q:List Nat),p.Pairwise (· < ·)->q.Pairwise (· < ·)->(∀x,x∈p↔x∈q)->p=q
 | [],[],_,_,_=>rfl
 | [],b::q,_,_,h=>by have:=(h b).2 (by simp);simp at this
 |a::p,[],_,_,h=>by have:=(h a).1 (by simp);simp at this
 |a::p,b::q,hp,hq,h=>by
  rw[List.pairwise_cons]at hp hq;have hab:a=b:=by
   have h1:=(h a).1 (by simp);have h2:=(h b).2 (by simp);simp at h1 h2;rcases h1 with h1|h1
   ·exact h1
   ·rcases h2 with h2|h2
    ·exact h2.symm
    ·have:=hq.1 a h1;have:=hp.1 b h2;omega
  subst hab;rw[b3M p q hp.2 hq.2];intro x;have h3:=h x;simp at h3;constructor
  ·intro hx
   have:=hp.1 x hx;rcases h3.1 (.inr hx)with e|e
   ·omega
   ·exact e
  ·intro hx
   have:=hq.1 x hx;rcases h3.2 (.inr hx)with e|e
   ·omega
   ·exact e
theorem Rref.pw {n c:Nat} {f:F2} {p:List Nat} (h:Rref n c f p):p.Pairwise (· < ·):=by
 rw[List.pairwise_iff_getElem];intro i j hi hj hij;exact h.inc i j hij hj
theorem Rref.unique {n c:Nat} {f g:F2} {p q:List Nat} (hf:Rref n c f p) (hg:Rref n c g q) (hn:∀x,Nul n c f x↔Nul n c g x):p=q/\Eqm n c f g:=by
 have hpq:p=q:=b3M p q hf.pw hg.pw fun x=>⟨hg.sub hf (fun x h=>(hn x).2 h) x,hf.sub hg (fun x h=>(hn x).1 h) x⟩;subst hpq;refine⟨rfl,fun i hi j hj=>?_⟩;by_cases hip:i<p.length
 ·by_cases hjp:j∈p
  ·obtain⟨k,hk,rfl⟩:=List.getElem_of_mem hjp
   by_cases e:i=k
   ·subst e;rw[hf.one i hip,hg.one i hip]
   ·rw[hf.zero k hk i hi e,hg.zero k hk i hi e]
  ·have h1:=(hn _).1 (hf.nv_nul hjp hj) i hi
   rw[hg.row i hip,hf.nv_piv hjp i hip,a3e j hj]at h1
   ·simp[hjp,a4H]at h1;grind
   ·intro k _ hkj
    by_cases hp:k∈p
    ·simp[hp]
    ·simp[hp,a5u hp hkj]
 ·rw[hf.below i (by omega) hi j hj,hg.below i (by omega) hi j hj]
theorem RE.cast {n c:Nat} {f g:F2} {a b:Rat} (h:RE n c f g a) (e:a=b):RE n c f g b:=e▸h
theorem RE.then_ {n c:Nat} {f g h:F2} {a b d:Rat} (h1:RE n c f g a) (h2:RE n c g h b) (e:a*b=d):RE n c f h d:=e▸h1.trans h2
theorem RE.addmany {n c:Nat} {f g:F2} (k:Nat) (hk:k<n) (a:Nat->Rat) (h1:∀i,i<n->i≠k->∀j,j<c->g i j=f i j+a i*f k j) (h2:∀j,j<c->g k j=f k j):RE n c f g 1:=by
 have key:∀t,t<=n->RE n c f (fun i j=>if i<t then g i j else f i j) 1:=by
  intro t
  induction t with
  |zero=>intro _;exact .same fun i _ j _=>by simp
  |succ t ih=>
   intro ht;refine(ih (by omega)).then_ (b:=1) ?_ (by grind);by_cases e:t=k
   ·subst e
    refine .same fun i hi j hj=>?_;by_cases a:i<t
    ·simp[a,show i<t+1 by omega]
    ·by_cases b:i=t
     ·subst b;simp[h2 j hj]
     ·simp[a,show¬i<t+1 by omega]
   ·refine .add t k (a t) (by omega) hk e (fun j hj=>?_) (fun r hr hrt j hj=>?_)
    ·have h3:=h1 t (by omega) e j hj
     by_cases b:k<t
     ·simp[b,h3,h2 j hj]
     ·simp[b,h3]
    ·by_cases a:r<t
     ·simp[a,show r<t+1 by omega]
     ·simp[a,show¬r<t+1 by omega]
 refine(key n (Nat.le_refl _)).then_ (.same fun i hi j hj=>?_) (by grind);simp[hi]
structure Ech (n k:Nat) (f:F2) (p:List Nat):Prop where
 le:p.length<=n
 lt:∀i (hi:i<p.length),p[i]<k
 inc:∀i k (hik:i<k) (hk:k<p.length),p[i]<p[k]
 left:∀i (hi:i<p.length),∀j,j<p[i]->f i j=0
 piv:∀i (hi:i<p.length),f i p[i]≠0
 below:∀i,p.length<=i->i<n->∀j,j<k->f i j=0
theorem Ech.nil (n:Nat) (f:F2):Ech n 0 f []:=⟨by simp,by simp,by simp,by simp,by simp,by intros;omega⟩
theorem Ech.skip {n k:Nat} {f:F2} {p:List Nat} (h:Ech n k f p) (hz:∀i,p.length<=i->i<n->f i k=0):Ech n (k+1) f p:=
 ⟨h.le,fun i hi=>Nat.lt_succ_of_lt (h.lt i hi),h.inc,h.left,h.piv,fun i hi hn j hj=>by
  by_cases e:j=k
  ·subst e;exact hz i hi hn
  ·exact h.below i hi hn j (by omega)⟩
theorem b0o {p:List Nat} {k:Nat} (h:∀i (hi:i<p.length),p[i]<k) (i:Nat) (hi:i<(p++[k]).length):(p++[k])[i]<k+1:=by
 rw[List.getElem_append];split
 ·have:=h i (by assumption);omega
 ·simp
theorem a8R {p:List Nat} {c:Nat} (h:∀i (hi:i<p.length),p[i]<c) (h2:∀i k (hik:i<k) (hk:k<p.length),p[i]<p[k]) (i k:Nat) (hik:i<k) (hk:k<(p++[c]).length):(p++[c])[i]<(p++[c])[k]:=by
 simp at hk;rw[List.getElem_append,List.getElem_append];by_cases a:k<p.length
 ·simp[a,show i<p.length by omega];exact h2 i k hik a
 ·simp[a,show i<p.length by omega];exact h i (by omega)
theorem Ech.push {n k:Nat} {f g:F2} {p:List Nat} (h:Ech n k f p) (hp:p.length<n) (h0:∀i,i<p.length->∀j,g i j=f i j)
  (hz:∀i,p.length<=i->i<n->∀j,j<k->g i j=0) (hne:g p.length k≠0) (hb:∀i,p.length<i->i<n->g i k=0):Ech n (k+1) g (p++[k]):=by
 refine⟨by simp;omega,b0o h.lt,a8R h.lt h.inc,fun i hi j hj=>?_,fun i hi=>?_,fun i hi hn j hj=>?_⟩
 ·simp at hi
  rw[List.getElem_append]at hj;by_cases a:i<p.length
  ·simp[a]at hj;rw[h0 i a];exact h.left i a j hj
  ·simp[a]at hj;exact hz i (by omega) (by omega) j hj
 ·simp at hi
  rw[List.getElem_append];by_cases a:i<p.length
  ·simp only[a,dite_true];rw[h0 i a];exact h.piv i a
  ·obtain rfl:i=p.length:=by omega
   simpa using hne
 ·simp at hi
  by_cases e:j=k
  ·subst e;exact hb i (by omega) hn
  ·exact hz i (by omega) hn j (by omega)
structure Red (n t:Nat) (f:F2) (p:List Nat):Prop where
 one:∀i (hi:i<p.length),i<t->f i p[i]=1
 zero:∀k (hk:k<p.length),k<t->∀i,i<n->i≠k->f i p[k]=0
theorem Ech.rref {n c:Nat} {f:F2} {p:List Nat} (h:Ech n c f p) (hr:Red n p.length f p):Rref n c f p:=
 ⟨h.le,h.lt,h.inc,h.left,fun i hi=>hr.one i hi hi,fun k hk=>hr.zero k hk hk,h.below⟩
theorem Ech.under {n c:Nat} {f:F2} {p:List Nat} (h:Ech n c f p) (k:Nat) (hk:k<p.length) (i:Nat) (hi:i<n) (hki:k<i):f i p[k]=0:=by
 by_cases a:i<p.length
 ·exact h.left i a _ (h.inc k i hki a)
 ·exact h.below i (by omega) hi _ (h.lt k hk)
theorem Red.step {n c t:Nat} {f g:F2} {p:List Nat} (h:Ech n c f p) (hr:Red n t f p) (ht:t<p.length)
  (h1:∀j,g t j=f t j/f t p[t]) (h2:∀i,i<t->∀j,g i j=f i j - f i p[t]*g t j) (h3:∀i,t<i->∀j,g i j=f i j):Ech n c g p/\Red n (t+1) g p:=by
 have hpv:=h.piv t ht;have hz:∀j,j<p[t]->g t j=0:=fun j hj=>by rw[h1,h.left t ht j hj];grind
 have hone:g t p[t]=1:=by rw[h1];grind
 refine⟨⟨h.le,h.lt,h.inc,fun i hi j hj=>?_,fun i hi=>?_,fun i hi hn j hj=>?_⟩,⟨fun i hi hit=>?_,fun k hk hkt i hi hik=>?_⟩⟩
 ·rcases Nat.lt_trichotomy i t with a|a|a
  ·rw[h2 i a,h.left i hi j hj,hz j (by have:=h.inc i t a ht;omega)];grind
  ·subst a;exact hz j hj
  ·rw[h3 i a];exact h.left i hi j hj
 ·rcases Nat.lt_trichotomy i t with a|a|a
  ·rw[h2 i a,hz _ (h.inc i t a ht)];have:=h.piv i hi;grind
  ·subst a;rw[hone];grind
  ·rw[h3 i a];exact h.piv i hi
 ·rw[h3 i (by omega)];exact h.below i hi hn j hj
 ·rcases Nat.lt_trichotomy i t with a|a|a
  ·rw[h2 i a,hz _ (h.inc i t a ht),hr.one i hi a];grind
  ·subst a;exact hone
  ·omega
 ·rcases Nat.lt_trichotomy k t with b|b|b
  ·have hzk:g t p[k]=0:=hz _ (h.inc k t b ht)
   rcases Nat.lt_trichotomy i t with a|a|a
   ·rw[h2 i a,hzk,hr.zero k hk b i hi hik];grind
   ·subst a;exact hzk
   ·rw[h3 i a];exact hr.zero k hk b i hi hik
  ·subst b
   rcases Nat.lt_trichotomy i k with a|a|a
   ·rw[h2 i a,hone];grind
   ·omega
   ·rw[h3 i a];exact h.under k hk i hi a
  ·omega
theorem Rref.skip {n k:Nat} {f:F2} {p:List Nat} (h:Rref n k f p) (hz:∀i,p.length<=i->i<n->f i k=0):Rref n (k+1) f p:=
 ⟨h.le,fun i hi=>Nat.lt_succ_of_lt (h.lt i hi),h.inc,h.left,h.one,h.zero,fun i hi hn j hj=>by
  by_cases e:j=k
  ·subst e;exact hz i hi hn
  ·exact h.below i hi hn j (by omega)⟩
theorem Rref.nil (n:Nat) (f:F2):Rref n 0 f []:=⟨by simp,by simp,by simp,by simp,by simp,by simp,by intros;omega⟩
theorem Rref.push {n k:Nat} {f g:F2} {p:List Nat} (h:Rref n k f p) (hp:p.length<n) (hne:f p.length k≠0)
  (h1:∀j,g p.length j=f p.length j*(1/f p.length k)) (h2:∀i,i<n->i≠p.length->∀j,g i j=f i j+g p.length j* - f i k):Rref n (k+1) g (p++[k]):=by
 have hz:∀j,j<k->g p.length j=0:=fun j hj=>by rw[h1,h.below _ (Nat.le_refl _) hp j hj];grind
 have hone:g p.length k=1:=by rw[h1];grind
 have hk0:∀i,i<n->i≠p.length->g i k=0:=fun i hi e=>by rw[h2 i hi e,hone];grind
 have hs:∀i,i<n->∀j,j<k->g i j=f i j:=fun i hi j hj=>by
  by_cases e:i=p.length
  ·subst e;rw[hz j hj,h.below _ (Nat.le_refl _) hp j hj]
  ·rw[h2 i hi e,hz j hj];grind
 refine⟨by simp;omega,b0o h.lt,a8R h.lt h.inc,fun i hi j hj=>?_,fun i hi=>?_,fun q hq i hi hiq=>?_,fun i hi hn j hj=>?_⟩
 ·simp at hi
  rw[List.getElem_append]at hj;by_cases a:i<p.length
  ·simp[a]at hj;rw[hs i (by omega) j (by have:=h.lt i a;omega)];exact h.left i a j hj
  ·simp[a]at hj;obtain rfl:i=p.length:=by omega
   exact hz j hj
 ·simp at hi
  rw[List.getElem_append];by_cases a:i<p.length
  ·simp only[a,dite_true];rw[hs i (by omega) _ (h.lt i a)];exact h.one i a
  ·obtain rfl:i=p.length:=by omega
   simpa using hone
 ·simp at hq
  rw[List.getElem_append];by_cases a:q<p.length
  ·simp only[a,dite_true];rw[hs i hi _ (h.lt q a)];exact h.zero q a i hi hiq
  ·obtain rfl:q=p.length:=by omega
   simpa using hk0 i hi hiq
 ·simp at hi
  by_cases e:j=k
  ·subst e;exact hk0 i hn (by omega)
  ·rw[hs i hn j (by omega)];exact h.below i (by omega) hn j (by omega)
abbrev Mat:=List (List Rat)
def ent (m:Mat):F2:=fun i j=>(m.getD i []).getD j 0
def Shp (n c:Nat) (m:Mat):Prop:=m.length=n/\∀r∈m,r.length=c
theorem Shp.row {n c:Nat} {m:Mat} (h:Shp n c m) {i:Nat} (hi:i<n):(m.getD i []).length=c:=by
 have:i<m.length:=by rw[h.1];exact hi
 simp[List.getD_eq_getElem?_getD,this,h.2]
theorem a4I {n c:Nat} {m:Mat} (h:Shp n c m) {i j:Nat} (hij:n<=i\/c<=j):ent m i j=0:=by
 unfold ent;by_cases hi:i<n
 ·have:=h.row hi
  rw[List.getD_eq_getElem?_getD,List.getElem?_eq_none (by omega)];rfl
 ·have:=h.1
  rw[List.getD_eq_getElem?_getD (l:=m),List.getElem?_eq_none (by omega)];simp
theorem Shp.ext {n c:Nat} {m m':Mat} (h:Shp n c m) (h':Shp n c m') (he:Eqm n c (ent m) (ent m')):m=m':=by
 refine List.ext_getElem (h.1.trans h'.1.symm) fun i h1 h2=>?_;have hl1:=h.2 _ (List.getElem_mem h1);have hl2:=h'.2 _ (List.getElem_mem h2);refine List.ext_getElem (hl1.trans hl2.symm) fun j h3 h4=>?_;have:=he i (by rw[<-h.1];exact h1) j (by omega);simpa[ent,List.getD_eq_getElem?_getD,h1,h2,h3,h4]using this
theorem Shp.set {n c:Nat} {m:Mat} (h:Shp n c m) (i:Nat) {r:List Rat} (hr:r.length=c):Shp n c (m.set i r):=by
 refine⟨by simp[h.1],fun x hx=>?_⟩;rcases List.mem_or_eq_of_mem_set hx with a|a
 ·exact h.2 _ a
 ·rw[a];exact hr
theorem a6B {m:Mat} {i:Nat} {r:List Rat} (hi:i<m.length) (k j:Nat):ent (m.set i r) k j=if k=i then r.getD j 0 else ent m k j:=by
 unfold ent;simp only[List.getD_eq_getElem?_getD,List.getElem?_set];by_cases e:k=i
 ·subst e;simp[hi]
 ·simp[e,Ne.symm e]
def rows (m:Mat) (f:Nat->List Rat->List Rat):Mat:=m.mapIdx f
theorem Shp.rows {n c:Nat} {m:Mat} (h:Shp n c m) {f:Nat->List Rat->List Rat} (hf:∀i,i<n->∀r:List Rat,r.length=c->(f i r).length=c):Shp n c (rows m f):=by
 refine⟨by simp[Lin.rows,h.1],fun x hx=>?_⟩;obtain⟨i,hi,rfl⟩:=List.getElem_of_mem hx;simp only[Lin.rows,List.length_mapIdx,List.getElem_mapIdx]at hi |-;exact hf i (by rw[<-h.1];exact hi) _ (h.2 _ (List.getElem_mem _))
theorem a6C {m:Mat} {f:Nat->List Rat->List Rat} {i:Nat} (hi:i<m.length) (j:Nat):ent (rows m f) i j=(f i (m.getD i [])).getD j 0:=by
 simp[ent,rows,List.getD_eq_getElem?_getD,hi]
def a0W (m:Mat) (i k:Nat):Mat:=(m.set i (m.getD k [])).set k (m.getD i [])
theorem Shp.swap {n c:Nat} {m:Mat} (h:Shp n c m) {i k:Nat} (hi:i<n) (hk:k<n):Shp n c (a0W m i k):=(h.set i (h.row hk)).set k (h.row hi)
theorem a2U {n c:Nat} {m:Mat} (h:Shp n c m) {i k:Nat} (hi:i<n) (hk:k<n) (r j:Nat):ent (a0W m i k) r j=if r=k then ent m i j else if r=i then ent m k j else ent m r j:=by
 unfold a0W;rw[a6B (by simp[h.1,hk]),a6B (by simp[h.1,hi])];rfl
theorem a4J (m:Mat) (i:Nat) (hi:i<m.length):a0W m i i=m:=by
 unfold a0W;simp[List.getD_eq_getElem?_getD,hi]
theorem b0p {n c:Nat} {m:Mat} (h:Shp n c m) {i k:Nat} (hi:i<n) (hk:k<n) (hik:i≠k):RE n c (ent m) (ent (a0W m i k)) (-1):=
 .swap i k hi hk hik (fun j _=>by rw[a2U h hi hk];simp[hik]) (fun j _=>by rw[a2U h hi hk];simp) (fun r _ a b j _=>by rw[a2U h hi hk];simp[a,b])
def a3J (row piv:List Rat) (col:Nat):List Rat:=List.zipWith (fun a x=>a - (row.getD col 0/piv.getD col 0)*x) row piv
theorem a4e (row piv:List Rat) (col:Nat) (h:row.length=piv.length):(a3J row piv col).length=piv.length:=by simp[a3J,h]
theorem a7j (row piv:List Rat) (col j:Nat) (h:row.length=piv.length):(a3J row piv col).getD j 0=row.getD j 0 - (row.getD col 0/piv.getD col 0)*piv.getD j 0:=by
 unfold a3J;simp only[List.getD_eq_getElem?_getD,List.getElem?_zipWith];by_cases hj:j<row.length
 ·simp[hj,show j<piv.length by omega]
 ·simp[show¬j<row.length by omega,show¬j<piv.length by omega];grind
theorem a9J (row piv:List Rat) (col:Nat) (h:row.length=piv.length) (h0:row.getD col 0/piv.getD col 0=0):a3J row piv col=row:=by
 refine List.ext_getElem (by simp[a3J,h]) fun i h1 h2=>?_;simp only[a3J,List.getElem_zipWith,h0];grind
abbrev St:=Mat×List Nat×Bool
def clear (m:Mat) (t col:Nat) (s:Nat):Mat:=rows m fun i r=>if t<i/\i<t+1+s then a3J r (m.getD t []) col else r
noncomputable def b0q (m:Mat) (t col:Nat):Option Nat:=(m.drop t).findIdx? fun r=>decide (r.getD col 0≠0)
noncomputable def a5v (s:St) (col:Nat):St:=
 if s.2.1.length=s.1.length then s else
 match b0q s.1 s.2.1.length col with
 |none=>s
 |some k=>(clear (a0W s.1 s.2.1.length (s.2.1.length+k)) s.2.1.length col s.1.length,s.2.1++[col],s.2.2 !=decide (k≠0))
noncomputable def eN (m:Mat):Nat->St
 |0=>(m,[],false)
 |k+1=>a5v (eN m k) k
theorem Shp.clear {n c:Nat} {m:Mat} (h:Shp n c m) {t:Nat} (ht:t<n) (col s:Nat):Shp n c (clear m t col s):=
 h.rows fun i hi r hr=>by
  split
  ·rw[a4e _ _ _ (by rw[hr,h.row ht]),h.row ht]
  ·exact hr
theorem a4f {n c:Nat} {m:Mat} (h:Shp n c m) {t:Nat} (ht:t<n) (col s i j:Nat):ent (clear m t col s) i j=if t<i/\i<t+1+s/\i<n then ent m i j - (ent m i col/ent m t col)*ent m t j else ent m i j:=by
 by_cases hi:i<n
 ·unfold Lin.clear
  rw[a6C (by rw[h.1];exact hi)];by_cases a:t<i/\i<t+1+s
  ·simp only[a,and_self,if_true,hi]
   rw[a7j _ _ _ _ (by rw[h.row hi,h.row ht])];rfl
  ·rw[if_neg a,if_neg (fun b=>a ⟨b.1,b.2.1⟩)];rfl
 ·rw[a4I (h.clear ht col s) (.inl (by omega)),if_neg (by omega),a4I h (.inl (by omega))]
theorem b2d {n c:Nat} {m:Mat} (h:Shp n c m) {t:Nat} (ht:t<n) (col s:Nat):RE n c (ent m) (ent (clear m t col s)) 1:=
 .addmany t ht (fun i=>if t<i/\i<t+1+s/\i<n then - (ent m i col/ent m t col)else 0)
  (fun i hi e j hj=>by rw[a4f h ht];split<;>grind) (fun j hj=>by rw[a4f h ht];simp)
theorem a7k {m:Mat} {t col:Nat} (h:b0q m t col=none) (i:Nat) (hi:t<=i):ent m i col=0:=by
 unfold b0q at h;rw[List.findIdx?_eq_none_iff]at h;by_cases a:i<m.length
 ·have:=h (m[i]) (by rw[List.mem_drop_iff_getElem];exact⟨i - t,by omega,by congr 1;omega⟩)
  unfold ent;simp only[List.getD_eq_getElem?_getD,a,getElem?_pos,Option.getD_some]at this |-;simpa using this
 ·unfold ent;rw[List.getD_eq_getElem?_getD (l:=m),List.getElem?_eq_none (by omega)];simp
theorem a3j {m:Mat} {t col k:Nat} (h:b0q m t col=some k):t+k<m.length/\ent m (t+k) col≠0:=by
 unfold b0q at h;rw[List.findIdx?_eq_some_iff_getElem]at h;obtain⟨h1,h2,_⟩:=h;simp at h1;refine⟨by omega,?_⟩;unfold ent;simp only[List.getElem_drop]at h2;have a:t+k<m.length:=by omega
 simp only[List.getD_eq_getElem?_getD,a,getElem?_pos,Option.getD_some]at h2 |-;simpa using h2
structure EOk (n c k:Nat) (m:Mat) (s:St):Prop where
 shp:Shp n c s.1
 ech:Ech n k (ent s.1) s.2.1
 re:RE n c (ent m) (ent s.1) (if s.2.2 then -1 else 1)
theorem EOk.zero {n c:Nat} {m:Mat} (h:Shp n c m):EOk n c 0 m (m,[],false):=⟨h,Ech.nil _ _, .same fun _ _ _ _=>rfl⟩
theorem EOk.step {n c k:Nat} {m:Mat} {s:St} (h:EOk n c k m s):EOk n c (k+1) m (a5v s k):=by
 obtain⟨M,p,odd⟩:=s;have hs:Shp n c M:=h.shp;have he:Ech n k (ent M) p:=h.ech;have hr:RE n c (ent m) (ent M) (if odd then -1 else 1):=h.re;have hl:=hs.1;unfold a5v
 dsimp only
 split
 ·rename_i e
  exact⟨hs,he.skip fun i hi hn=>by omega,hr⟩
 ·rename_i e
  split
  ·rename_i hz
   exact⟨hs,he.skip fun i hi _=>a7k hz i hi,hr⟩
  ·rename_i q hz
   obtain⟨h1,h2⟩:=a3j hz;have hp:p.length<n:=by have:=he.le;omega
   have hpq:p.length+q<n:=by omega
   have hs2:=hs.swap hp hpq;have hes:=fun i j=>a2U hs hp hpq i j;have hec:=fun i j=>a4f hs2 hp k M.length i j;have hpiv:ent (a0W M p.length (p.length+q)) p.length k≠0:=by
    rw[hes];by_cases b:q=0
    ·subst b;simpa using h2
    ·simp[b];exact h2
   refine⟨hs2.clear hp _ _,he.push hp (fun i hi j=>?_) (fun i hi hn j hj=>?_) ?_ (fun i hi hn=>?_),?_⟩
   ·rw[hec,if_neg (by omega),hes,if_neg (by omega),if_neg (by omega)]
   ·have hz:∀i,p.length<=i->i<n->ent (a0W M p.length (p.length+q)) i j=0:=fun i hi hn=>by
     rw[hes];split
     ·exact he.below _ (by omega) hp j hj
     ·split
      ·exact he.below _ (by omega) hpq j hj
      ·exact he.below _ hi hn j hj
    rw[hec];split
    ·rw[hz i hi hn,hz p.length (Nat.le_refl _) hp];grind
    ·exact hz i hi hn
   ·rw[hec,if_neg (by omega)];exact hpiv
   ·rw[hec,if_pos ⟨hi,by omega,hn⟩];grind
   ·have hc:=b2d hs2 hp k M.length
    by_cases b:q=0
    ·subst b
     rw[Nat.add_zero,a4J M _ (by omega)]at hc |-;exact hr.then_ hc (by cases odd<;>simp)
    ·exact hr.then_ ((b0p hs hp hpq (by omega)).then_ hc rfl) (by cases odd<;>simp[b];grind)
theorem a9K {n c:Nat} {m:Mat} (h:Shp n c m) (k:Nat):EOk n c k m (eN m k):=by
 induction k with
 |zero=>exact EOk.zero h
 |succ k ih=>exact ih.step
theorem b4k (m:Mat) (k:Nat) (h:(eN m k).2.1.length=(eN m k).1.length) (k':Nat) (hk:k<=k'):eN m k'=eN m k:=by
 induction k' with
 |zero=>
      have:k=0:=by omega
      subst this;rfl
 |succ k' ih=>
  by_cases e:k=k'+1
  ·subst e;rfl
  ·have:=ih (by omega)
   show a5v (eN m k') k'=_
   rw[this];unfold a5v;rw[if_pos h]
def divL (m:Mat) (i col:Nat):Mat:=m.set i ((m.getD i []).map (· /ent m i col))
def above (m:Mat) (i col s:Nat):Mat:=rows m fun k r=>if k<i/\k<s then a3J r (m.getD i []) col else r
def dStep (m:Mat) (i col:Nat):Mat:=above (divL m i col) i col i
theorem a7l (r:List Rat) (a:Rat) (j:Nat):(r.map (· /a)).getD j 0=r.getD j 0/a:=by
 simp only[List.getD_eq_getElem?_getD,List.getElem?_map];cases r[j]? with
 |none=>simp;grind
 |some x=>simp
theorem Shp.divL {n c:Nat} {m:Mat} (h:Shp n c m) {i:Nat} (hi:i<n) (col:Nat):Shp n c (divL m i col):=h.set i (by rw[List.length_map];exact h.row hi)
theorem a3E {n c:Nat} {m:Mat} (h:Shp n c m) {i:Nat} (hi:i<n) (col k j:Nat):ent (divL m i col) k j=if k=i then ent m i j/ent m i col else ent m k j:=by
 unfold divL;rw[a6B (by rw[h.1];exact hi),a7l];rfl
theorem Shp.above {n c:Nat} {m:Mat} (h:Shp n c m) {t:Nat} (ht:t<n) (col s:Nat):Shp n c (above m t col s):=
 h.rows fun i hi r hr=>by
  split
  ·rw[a4e _ _ _ (by rw[hr,h.row ht]),h.row ht]
  ·exact hr
theorem a4g {n c:Nat} {m:Mat} (h:Shp n c m) {t:Nat} (ht:t<n) (col s i j:Nat):ent (above m t col s) i j=if i<t/\i<s then ent m i j - (ent m i col/ent m t col)*ent m t j else ent m i j:=by
 by_cases hi:i<n
 ·unfold Lin.above
  rw[a6C (by rw[h.1];exact hi)];by_cases a:i<t/\i<s
  ·simp only[a,and_self,if_true]
   rw[a7j _ _ _ _ (by rw[h.row hi,h.row ht])];rfl
  ·rw[if_neg a,if_neg a];rfl
 ·rw[a4I (h.above ht col s) (.inl (by omega)),if_neg (by omega),a4I h (.inl (by omega))]
theorem b2e {n c:Nat} {m:Mat} (h:Shp n c m) {t:Nat} (ht:t<n) (col s:Nat):RE n c (ent m) (ent (above m t col s)) 1:=
 .addmany t ht (fun i=>if i<t/\i<s then - (ent m i col/ent m t col)else 0)
  (fun i hi e j hj=>by rw[a4g h ht];split<;>grind) (fun j hj=>by rw[a4g h ht];simp)
theorem b4l {n c:Nat} {m:Mat} (h:Shp n c m) {i:Nat} (hi:i<n) (col:Nat) (hne:ent m i col≠0):RE n c (ent m) (ent (divL m i col)) (1/ent m i col):=
 .scale i _ hi (by intro e;grind) (fun j _=>by rw[a3E h hi];simp;grind) (fun r _ hr j _=>by rw[a3E h hi,if_neg hr])
noncomputable def dN (m:Mat) (p:List Nat):Nat->Mat
 |0=>m
 |t+1=>dStep (dN m p t) t (p.getD t 0)
structure DOk (n c t:Nat) (m:Mat) (p:List Nat) (s:Mat):Prop where
 shp:Shp n c s
 ech:Ech n c (ent s) p
 red:Red n t (ent s) p
 re:∃d,RE n c (ent m) (ent s) d
theorem DOk.step {n c t:Nat} {m:Mat} {p:List Nat} {s:Mat} (h:DOk n c t m p s) (ht:t<p.length):DOk n c (t+1) m p (dStep s t (p.getD t 0)):=by
 have htn:t<n:=Nat.lt_of_lt_of_le ht h.ech.le;have hp:p.getD t 0=p[t]:=by simp[List.getD_eq_getElem?_getD,ht]
 rw[hp];have hd:=h.shp.divL htn p[t];have hpv:=h.ech.piv t ht;have e1:=fun k j=>a3E h.shp htn p[t] k j;have e2:=fun i j=>a4g hd htn p[t] t i j;obtain⟨d,hre⟩:=h.re;have hone:ent (divL s t p[t]) t p[t]=1:=by rw[e1];simp;grind
 have hrow:∀j,ent (dStep s t p[t]) t j=ent s t j/ent s t p[t]:=fun j=>by
  unfold dStep;rw[e2,if_neg (by omega),e1];simp
 have:=Red.step (g:=ent (dStep s t p[t])) h.ech h.red ht hrow (fun i hi j=>by
   rw[hrow];unfold dStep;rw[e2,if_pos ⟨hi,hi⟩,hone,e1,e1,e1,if_neg (by omega),if_neg (by omega),if_pos rfl];grind) (fun i hi j=>by
   unfold dStep;rw[e2,if_neg (by omega),e1,if_neg (by omega)])
 exact⟨hd.above htn _ _,this.1,this.2,_,hre.trans ((b4l h.shp htn _ hpv).trans (b2e hd htn _ _))⟩
theorem b5L {n c:Nat} {m:Mat} {p:List Nat} (h:Shp n c m) (he:Ech n c (ent m) p) (t:Nat) (ht:t<=p.length):DOk n c t m p (dN m p t):=by
 induction t with
 |zero=>exact⟨h,he,⟨by intros;omega,by intros;omega⟩,1, .same fun _ _ _ _=>rfl⟩
 |succ t ih=>exact(ih (by omega)).step (by omega)
noncomputable def b6H (m:Mat) (c:Nat):Mat×List Nat:=(dN (eN m c).1 (eN m c).2.1 (eN m c).2.1.length,(eN m c).2.1)
theorem b4m {n c:Nat} {m:Mat} (h:Shp n c m):Shp n c (b6H m c).1/\Rref n c (ent (b6H m c).1) (b6H m c).2/\∃d,RE n c (ent m) (ent (b6H m c).1) d:=by
 have h1:=a9K h c;have h2:=b5L h1.shp h1.ech _ (Nat.le_refl _);obtain⟨d,h3⟩:=h2.re;exact⟨h2.shp,h2.ech.rref h2.red,_,h1.re.trans h3⟩
abbrev Sr:=Mat×List Nat×Rat
def pv (m:Mat) (t col:Nat):Mat:=m.set t ((m.getD t []).map (· *(1/ent m t col)))
def out (m:Mat) (t col:Nat) (s:Nat):Mat:=rows m fun i r=>if i≠t/\i<s then List.zipWith (· + ·) r ((m.getD t []).map (· * - r.getD col 0))else r
noncomputable def a5w (s:Sr) (col:Nat):Sr:=
 match b0q s.1 s.2.1.length col with
 |none=>s
 |some k=>(out (pv (a0W s.1 (s.2.1.length+k) s.2.1.length) s.2.1.length col) s.2.1.length col s.1.length,s.2.1++[col],(if k=0 then s.2.2 else - s.2.2)*ent (a0W s.1 (s.2.1.length+k) s.2.1.length) s.2.1.length col)
noncomputable def rN (m:Mat):Nat->Sr
 |0=>(m,[],1)
 |k+1=>a5w (rN m k) k
theorem a4Z (r:List Rat) (a:Rat) (j:Nat):(r.map (· *a)).getD j 0=r.getD j 0*a:=by
 simp only[List.getD_eq_getElem?_getD,List.getElem?_map];cases r[j]? with
 |none=>simp
 |some x=>simp
theorem b4n (a b:List Rat) (h:a.length=b.length) (j:Nat):(List.zipWith (· + ·) a b).getD j 0=a.getD j 0+b.getD j 0:=by
 simp only[List.getD_eq_getElem?_getD,List.getElem?_zipWith];by_cases hj:j<a.length
 ·simp[hj,show j<b.length by omega]
 ·simp[show¬j<a.length by omega,show¬j<b.length by omega];grind
theorem Shp.pv {n c:Nat} {m:Mat} (h:Shp n c m) {i:Nat} (hi:i<n) (col:Nat):Shp n c (pv m i col):=h.set i (by rw[List.length_map];exact h.row hi)
theorem b0r {n c:Nat} {m:Mat} (h:Shp n c m) {i:Nat} (hi:i<n) (col k j:Nat):ent (pv m i col) k j=if k=i then ent m i j*(1/ent m i col)else ent m k j:=by
 unfold pv;rw[a6B (by rw[h.1];exact hi),a4Z];rfl
theorem Shp.out {n c:Nat} {m:Mat} (h:Shp n c m) {t:Nat} (ht:t<n) (col s:Nat):Shp n c (out m t col s):=
 h.rows fun i hi r hr=>by
  split
  ·rw[List.length_zipWith,List.length_map,hr,h.row ht];omega
  ·exact hr
theorem a8S {n c:Nat} {m:Mat} (h:Shp n c m) {t:Nat} (ht:t<n) (col s i j:Nat):ent (out m t col s) i j=if i≠t/\i<s/\i<n then ent m i j+ent m t j* - ent m i col else ent m i j:=by
 by_cases hi:i<n
 ·unfold Lin.out
  rw[a6C (by rw[h.1];exact hi)];by_cases a:i≠t/\i<s
  ·rw[if_pos a,if_pos ⟨a.1,a.2,hi⟩,b4n _ _ (by rw[List.length_map,h.row hi,h.row ht]),a4Z];rfl
  ·rw[if_neg a,if_neg (fun b=>a ⟨b.1,b.2.1⟩)];rfl
 ·rw[a4I (h.out ht col s) (.inl (by omega)),if_neg (by omega),a4I h (.inl (by omega))]
structure ROk (n c k:Nat) (m:Mat) (s:Sr):Prop where
 shp:Shp n c s.1
 ref:Rref n k (ent s.1) s.2.1
 re:∃d,RE n c (ent m) (ent s.1) d/\s.2.2*d=1
theorem ROk.step {n c k:Nat} {m:Mat} {s:Sr} (h:ROk n c k m s):ROk n c (k+1) m (a5w s k):=by
 obtain⟨M,p,fac⟩:=s;have hs:Shp n c M:=h.shp;have he:Rref n k (ent M) p:=h.ref;obtain⟨d,hr,hd⟩:∃d,RE n c (ent m) (ent M) d/\fac*d=1:=h.re;have hl:=hs.1;unfold a5w
 dsimp only
 split
 ·rename_i hz
  exact⟨hs,he.skip fun i hi _=>a7k hz i hi,d,hr,hd⟩
 ·rename_i q hz
  obtain⟨h1,h2⟩:=a3j hz;have hp:p.length<n:=by omega
  have hpq:p.length+q<n:=by omega
  have hs2:=hs.swap hpq hp;have hes:=fun i j=>a2U hs hpq hp i j;have hs3:=hs2.pv hp k;have hep:=fun i j=>b0r hs2 hp k i j;have heo:=fun i j=>a8S hs3 hp k M.length i j;have hpiv:ent (a0W M (p.length+q) p.length) p.length k≠0:=by rw[hes,if_pos rfl];exact h2
  have hsw:Rref n k (ent (a0W M (p.length+q) p.length)) p:=by
   have hsm:∀i,i<p.length->∀j,ent (a0W M (p.length+q) p.length) i j=ent M i j:=fun i hi j=>by
    rw[hes,if_neg (by omega),if_neg (by omega)]
   have hz0:∀i,p.length<=i->i<n->∀j,j<k->ent (a0W M (p.length+q) p.length) i j=0:=fun i hi hn j hj=>by
    rw[hes];split
    ·exact he.below _ (by omega) hpq j hj
    ·split
     ·exact he.below _ (by omega) hp j hj
     ·exact he.below _ hi hn j hj
   refine⟨he.le,he.lt,he.inc,fun i hi j hj=>by rw[hsm i hi];exact he.left i hi j hj,fun i hi=>by rw[hsm i hi];exact he.one i hi,fun t ht i hi hit=>?_,hz0⟩;by_cases a:i<p.length
   ·rw[hsm i a];exact he.zero t ht i hi hit
   ·exact hz0 i (by omega) hi _ (he.lt t ht)
  have hrow:∀j,ent (out (pv (a0W M (p.length+q) p.length) p.length k) p.length k M.length) p.length j=ent (a0W M (p.length+q) p.length) p.length j*(1/ent (a0W M (p.length+q) p.length) p.length k):=fun j=>by
   rw[heo,if_neg (by omega),hep,if_pos rfl]
  refine⟨hs3.out hp _ _,hsw.push hp hpiv hrow (fun i hi hne j=>?_),?_⟩
  ·rw[hrow,heo,if_pos ⟨hne,by omega,hi⟩,hep,hep,hep,if_neg hne,if_neg hne,if_pos rfl]
  ·have hre3:RE n c (ent (a0W M (p.length+q) p.length)) (ent (pv (a0W M (p.length+q) p.length) p.length k)) (1/ent (a0W M (p.length+q) p.length) p.length k):=
    .scale p.length _ hp (by intro e;grind) (fun j _=>by rw[hep];simp;grind) (fun r _ hr j _=>by rw[hep,if_neg hr])
   have hre4:RE n c (ent (pv (a0W M (p.length+q) p.length) p.length k)) (ent (out (pv (a0W M (p.length+q) p.length) p.length k) p.length k M.length)) 1:=
    .addmany p.length hp (fun i=>if i≠p.length/\i<M.length/\i<n then - ent (pv (a0W M (p.length+q) p.length) p.length k) i k else 0)
     (fun i hi e j hj=>by rw[heo];split<;>grind) (fun j hj=>by rw[heo];simp)
   by_cases b:q=0
   ·subst b
    rw[Nat.add_zero,a4J M _ (by omega)]at hre3 hre4 hpiv |-;exact⟨_,hr.trans (hre3.trans hre4),by simp;grind⟩
   ·exact⟨_,hr.trans ((b0p hs hpq hp (by omega)).trans (hre3.trans hre4)),by simp[b];grind⟩
theorem a7Y {n c:Nat} {m:Mat} (h:Shp n c m) (k:Nat):ROk n c k m (rN m k):=by
 induction k with
 |zero=>exact⟨h,Rref.nil _ _,1, .same fun _ _ _ _=>rfl,by show(1:Rat)*1=1;grind⟩
 |succ k ih=>exact ih.step
def det:Nat->F2->Rat
 |0,_=>1
 |n+1,f=>sm (n+1) fun i=>(if i%2=0 then 1 else -1)*f i 0*det n fun r c=>f (if r<i then r else r+1) (c+1)
theorem a1j {n:Nat} {f g:F2} (h:Eqm n n f g):det n f=det n g:=by
 induction n generalizing f g with
 |zero=>rfl
 |succ n ih=>
  unfold det;refine a0r fun i hi=>?_;rw[h i hi 0 (by omega),ih (g:=fun r c=>g (if r<i then r else r+1) (c+1)) fun r hr c hc=>h _ (by split<;>omega) _ (by omega)]
theorem a7m (f:F2):det 1 f=f 0 0:=by simp[det,sm];grind
theorem a7n (f:F2):det 2 f=f 0 0*f 1 1 - f 1 0*f 0 1:=by simp[det,sm];grind
theorem a7o (f:F2):det 3 f=f 0 0*(f 1 1*f 2 2 - f 2 1*f 1 2) - f 1 0*(f 0 1*f 2 2 - f 2 1*f 0 2)+f 2 0*(f 0 1*f 1 2 - f 1 1*f 0 2):=by
 simp[det,sm];grind
theorem a7p (f:F2):det 4 f=f 0 0*(f 1 1*(f 2 2*f 3 3 - f 3 2*f 2 3) - f 2 1*(f 1 2*f 3 3 - f 3 2*f 1 3)+f 3 1*(f 1 2*f 2 3 - f 2 2*f 1 3))
  - f 1 0*(f 0 1*(f 2 2*f 3 3 - f 3 2*f 2 3) - f 2 1*(f 0 2*f 3 3 - f 3 2*f 0 3)+f 3 1*(f 0 2*f 2 3 - f 2 2*f 0 3))
  +f 2 0*(f 0 1*(f 1 2*f 3 3 - f 3 2*f 1 3) - f 1 1*(f 0 2*f 3 3 - f 3 2*f 0 3)+f 3 1*(f 0 2*f 1 3 - f 1 2*f 0 3))
  - f 3 0*(f 0 1*(f 1 2*f 2 3 - f 2 2*f 1 3) - f 1 1*(f 0 2*f 2 3 - f 2 2*f 0 3)+f 2 1*(f 0 2*f 1 3 - f 1 2*f 0 3)):=by
 simp[det,sm];grind
theorem lt4 {P:Nat->Prop} (h0:P 0) (h1:P 1) (h2:P 2) (h3:P 3) (i:Nat) (hi:i<4):P i:=by
 match i,hi with
 |0,_=>exact h0
 |1,_=>exact h1
 |2,_=>exact h2
 |3,_=>exact h3
theorem lt1 {P:Nat->Prop} (h0:P 0) (i:Nat) (hi:i<1):P i:=by
 match i,hi with
 |0,_=>exact h0
theorem b0s (f g:F2) (i k:Nat) (hi:i<1) (hk:k<1) (hik:i≠k) (h1:∀j,j<1->g i j=f k j) (h2:∀j,j<1->g k j=f i j) (h3:∀r,r<1->r≠i->r≠k->∀j,j<1->g r j=f r j):det 1 g= - det 1 f:=by
 have e:Eqm 1 1 g (fun r j=>if r=i then f k j else if r=k then f i j else f r j):=fun r hr j hj=>by
  dsimp only;split
  ·subst_vars;exact h1 j hj
  ·split
   ·subst_vars;exact h2 j hj
   ·exact h3 r hr (by assumption) (by assumption) j hj
 rw[a1j e];clear e h1 h2 h3
 revert hik
 revert k
 revert i
 refine lt1 ?_<;>refine lt1 ?_<;>intro hik<;>first|exact absurd rfl hik|(rw[a7m,a7m];simp;try grind)
theorem a9L (f g:F2) (i:Nat) (a:Rat) (hi:i<1) (h1:∀j,j<1->g i j=a*f i j) (h3:∀r,r<1->r≠i->∀j,j<1->g r j=f r j):det 1 g=a*det 1 f:=by
 have e:Eqm 1 1 g (fun r j=>if r=i then a*f i j else f r j):=fun r hr j hj=>by
  dsimp only;split
  ·subst_vars;exact h1 j hj
  ·exact h3 r hr (by assumption) j hj
 rw[a1j e];clear e h1 h3
 revert i
 refine lt1 ?_<;>(rw[a7m,a7m];simp;try grind)
theorem b2f (f g:F2) (i k:Nat) (a:Rat) (hi:i<1) (hk:k<1) (hik:i≠k) (h1:∀j,j<1->g i j=f i j+a*f k j) (h3:∀r,r<1->r≠i->∀j,j<1->g r j=f r j):det 1 g=det 1 f:=by
 have e:Eqm 1 1 g (fun r j=>if r=i then f i j+a*f k j else f r j):=fun r hr j hj=>by
  dsimp only;split
  ·subst_vars;exact h1 j hj
  ·exact h3 r hr (by assumption) j hj
 rw[a1j e];clear e h1 h3
 revert hik
 revert k
 revert i
 refine lt1 ?_<;>refine lt1 ?_<;>intro hik<;>first|exact absurd rfl hik|(rw[a7m,a7m];simp;try grind)
theorem b2g (f:F2) (_h:∀i j,i<1->j<i->f i j=0):det 1 f=f 0 0:=by
 rw[a7m]
theorem lt2 {P:Nat->Prop} (h0:P 0) (h1:P 1) (i:Nat) (hi:i<2):P i:=by
 match i,hi with
 |0,_=>exact h0
 |1,_=>exact h1
theorem b0t (f g:F2) (i k:Nat) (hi:i<2) (hk:k<2) (hik:i≠k) (h1:∀j,j<2->g i j=f k j) (h2:∀j,j<2->g k j=f i j) (h3:∀r,r<2->r≠i->r≠k->∀j,j<2->g r j=f r j):det 2 g= - det 2 f:=by
 have e:Eqm 2 2 g (fun r j=>if r=i then f k j else if r=k then f i j else f r j):=fun r hr j hj=>by
  dsimp only;split
  ·subst_vars;exact h1 j hj
  ·split
   ·subst_vars;exact h2 j hj
   ·exact h3 r hr (by assumption) (by assumption) j hj
 rw[a1j e];clear e h1 h2 h3
 revert hik
 revert k
 revert i
 refine lt2 ?_ ?_<;>refine lt2 ?_ ?_<;>intro hik<;>first|exact absurd rfl hik|(rw[a7n,a7n];simp;try grind)
theorem a9M (f g:F2) (i:Nat) (a:Rat) (hi:i<2) (h1:∀j,j<2->g i j=a*f i j) (h3:∀r,r<2->r≠i->∀j,j<2->g r j=f r j):det 2 g=a*det 2 f:=by
 have e:Eqm 2 2 g (fun r j=>if r=i then a*f i j else f r j):=fun r hr j hj=>by
  dsimp only;split
  ·subst_vars;exact h1 j hj
  ·exact h3 r hr (by assumption) j hj
 rw[a1j e];clear e h1 h3
 revert i
 refine lt2 ?_ ?_<;>(rw[a7n,a7n];simp;try grind)
theorem b2h (f g:F2) (i k:Nat) (a:Rat) (hi:i<2) (hk:k<2) (hik:i≠k) (h1:∀j,j<2->g i j=f i j+a*f k j) (h3:∀r,r<2->r≠i->∀j,j<2->g r j=f r j):det 2 g=det 2 f:=by
 have e:Eqm 2 2 g (fun r j=>if r=i then f i j+a*f k j else f r j):=fun r hr j hj=>by
  dsimp only;split
  ·subst_vars;exact h1 j hj
  ·exact h3 r hr (by assumption) j hj
 rw[a1j e];clear e h1 h3
 revert hik
 revert k
 revert i
 refine lt2 ?_ ?_<;>refine lt2 ?_ ?_<;>intro hik<;>first|exact absurd rfl hik|(rw[a7n,a7n];simp;try grind)
theorem b2i (f:F2) (h:∀i j,i<2->j<i->f i j=0):det 2 f=f 0 0*f 1 1:=by
 have z10:=h 1 0 (by omega) (by omega);rw[a7n];simp[z10];try grind
theorem lt3 {P:Nat->Prop} (h0:P 0) (h1:P 1) (h2:P 2) (i:Nat) (hi:i<3):P i:=by
 match i,hi with
 |0,_=>exact h0
 |1,_=>exact h1
 |2,_=>exact h2
theorem b0u (f g:F2) (i k:Nat) (hi:i<3) (hk:k<3) (hik:i≠k) (h1:∀j,j<3->g i j=f k j) (h2:∀j,j<3->g k j=f i j) (h3:∀r,r<3->r≠i->r≠k->∀j,j<3->g r j=f r j):det 3 g= - det 3 f:=by
 have e:Eqm 3 3 g (fun r j=>if r=i then f k j else if r=k then f i j else f r j):=fun r hr j hj=>by
  dsimp only;split
  ·subst_vars;exact h1 j hj
  ·split
   ·subst_vars;exact h2 j hj
   ·exact h3 r hr (by assumption) (by assumption) j hj
 rw[a1j e];clear e h1 h2 h3
 revert hik
 revert k
 revert i
 refine lt3 ?_ ?_ ?_<;>refine lt3 ?_ ?_ ?_<;>intro hik<;>first|exact absurd rfl hik|(rw[a7o,a7o];simp;try grind)
theorem a9N (f g:F2) (i:Nat) (a:Rat) (hi:i<3) (h1:∀j,j<3->g i j=a*f i j) (h3:∀r,r<3->r≠i->∀j,j<3->g r j=f r j):det 3 g=a*det 3 f:=by
 have e:Eqm 3 3 g (fun r j=>if r=i then a*f i j else f r j):=fun r hr j hj=>by
  dsimp only;split
  ·subst_vars;exact h1 j hj
  ·exact h3 r hr (by assumption) j hj
 rw[a1j e];clear e h1 h3
 revert i
 refine lt3 ?_ ?_ ?_<;>(rw[a7o,a7o];simp;try grind)
theorem b2j (f g:F2) (i k:Nat) (a:Rat) (hi:i<3) (hk:k<3) (hik:i≠k) (h1:∀j,j<3->g i j=f i j+a*f k j) (h3:∀r,r<3->r≠i->∀j,j<3->g r j=f r j):det 3 g=det 3 f:=by
 have e:Eqm 3 3 g (fun r j=>if r=i then f i j+a*f k j else f r j):=fun r hr j hj=>by
  dsimp only;split
  ·subst_vars;exact h1 j hj
  ·exact h3 r hr (by assumption) j hj
 rw[a1j e];clear e h1 h3
 revert hik
 revert k
 revert i
 refine lt3 ?_ ?_ ?_<;>refine lt3 ?_ ?_ ?_<;>intro hik<;>first|exact absurd rfl hik|(rw[a7o,a7o];simp;try grind)
theorem b2k (f:F2) (h:∀i j,i<3->j<i->f i j=0):det 3 f=f 0 0*f 1 1*f 2 2:=by
 have z10:=h 1 0 (by omega) (by omega);have z20:=h 2 0 (by omega) (by omega);have z21:=h 2 1 (by omega) (by omega);rw[a7o];simp[z10,z20,z21];try grind
theorem b0v (f g:F2) (i k:Nat) (hi:i<4) (hk:k<4) (hik:i≠k) (h1:∀j,j<4->g i j=f k j) (h2:∀j,j<4->g k j=f i j) (h3:∀r,r<4->r≠i->r≠k->∀j,j<4->g r j=f r j):det 4 g= - det 4 f:=by
 have e:Eqm 4 4 g (fun r j=>if r=i then f k j else if r=k then f i j else f r j):=fun r hr j hj=>by
  dsimp only;split
  ·subst_vars;exact h1 j hj
  ·split
   ·subst_vars;exact h2 j hj
   ·exact h3 r hr (by assumption) (by assumption) j hj
 rw[a1j e];clear e h1 h2 h3
 revert hik
 revert k
 revert i
 refine lt4 ?_ ?_ ?_ ?_<;>refine lt4 ?_ ?_ ?_ ?_<;>intro hik<;>first|exact absurd rfl hik|(rw[a7p,a7p];simp;try grind)
theorem a9O (f g:F2) (i:Nat) (a:Rat) (hi:i<4) (h1:∀j,j<4->g i j=a*f i j) (h3:∀r,r<4->r≠i->∀j,j<4->g r j=f r j):det 4 g=a*det 4 f:=by
 have e:Eqm 4 4 g (fun r j=>if r=i then a*f i j else f r j):=fun r hr j hj=>by
  dsimp only;split
  ·subst_vars;exact h1 j hj
  ·exact h3 r hr (by assumption) j hj
 rw[a1j e];clear e h1 h3
 revert i
 refine lt4 ?_ ?_ ?_ ?_<;>(rw[a7p,a7p];simp;try grind)
theorem b2l (f g:F2) (i k:Nat) (a:Rat) (hi:i<4) (hk:k<4) (hik:i≠k) (h1:∀j,j<4->g i j=f i j+a*f k j) (h3:∀r,r<4->r≠i->∀j,j<4->g r j=f r j):det 4 g=det 4 f:=by
 have e:Eqm 4 4 g (fun r j=>if r=i then f i j+a*f k j else f r j):=fun r hr j hj=>by
  dsimp only;split
  ·subst_vars;exact h1 j hj
  ·exact h3 r hr (by assumption) j hj
 rw[a1j e];clear e h1 h3
 revert hik
 revert k
 revert i
 refine lt4 ?_ ?_ ?_ ?_<;>refine lt4 ?_ ?_ ?_ ?_<;>intro hik<;>first|exact absurd rfl hik|(rw[a7p,a7p];simp;try grind)
theorem b2m (f:F2) (h:∀i j,i<4->j<i->f i j=0):det 4 f=f 0 0*f 1 1*f 2 2*f 3 3:=by
 have z10:=h 1 0 (by omega) (by omega);have z20:=h 2 0 (by omega) (by omega);have z21:=h 2 1 (by omega) (by omega);have z30:=h 3 0 (by omega) (by omega);have z31:=h 3 1 (by omega) (by omega);have z32:=h 3 2 (by omega) (by omega);rw[a7p];simp[z10,z20,z21,z30,z31,z32];try grind
theorem RE.det_same {n:Nat} {f g:F2} {d:Rat} (hn:n<=4) (h:RE n n f g d):det n g=d*det n f:=by
 induction h with
 |same h=>rw[a1j h];grind
 |swap i k hi hk hik h1 h2 h3=>
  match n,hn with
  |1,_=>rw[b0s _ _ i k hi hk hik h1 h2 h3];grind
  |2,_=>rw[b0t _ _ i k hi hk hik h1 h2 h3];grind
  |3,_=>rw[b0u _ _ i k hi hk hik h1 h2 h3];grind
  |4,_=>rw[b0v _ _ i k hi hk hik h1 h2 h3];grind
 |scale i a hi ha h1 h3=>
  match n,hn with
  |1,_=>exact a9L _ _ i a hi h1 h3
  |2,_=>exact a9M _ _ i a hi h1 h3
  |3,_=>exact a9N _ _ i a hi h1 h3
  |4,_=>exact a9O _ _ i a hi h1 h3
 |add i k a hi hk hik h1 h3=>
  match n,hn with
  |1,_=>rw[b2f _ _ i k a hi hk hik h1 h3];grind
  |2,_=>rw[b2h _ _ i k a hi hk hik h1 h3];grind
  |3,_=>rw[b2j _ _ i k a hi hk hik h1 h3];grind
  |4,_=>rw[b2l _ _ i k a hi hk hik h1 h3];grind
 |trans _ _ ih1 ih2=>rw[ih2,ih1];grind
def pr:Nat->(Nat->Rat)->Rat
 |0,_=>1
 |n+1,f=>pr n f*f n
theorem b4o {n:Nat} (hn:n<=4) (f:F2) (h:∀i j,i<n->j<i->f i j=0):det n f=pr n fun i=>f i i:=by
 match n,hn with
 |0,_=>rfl
 |1,_=>rw[b2g f h];simp[pr];try grind
 |2,_=>rw[b2i f h];simp[pr];try grind
 |3,_=>rw[b2k f h];simp[pr];try grind
 |4,_=>rw[b2m f h];simp[pr];try grind
theorem b2n {n:Nat} (hn:n<=4) (f:F2) (i:Nat) (hi:i<n) (h:∀j,j<n->f i j=0):det n f=0:=by
 have:=(RE.scale (n:=n) (c:=n) (f:=f) (g:=f) i 2 hi (by grind) (fun j hj=>by rw[h j hj];grind) (fun _ _ _ _ _=>rfl)).det_same hn;grind
theorem Ech.ge {n k:Nat} {f:F2} {p:List Nat} (h:Ech n k f p) (i:Nat) (hi:i<p.length):i<=p[i]:=by
 induction i with
 |zero=>omega
 |succ i ih=>have:=ih (by omega);have:=h.inc i (i+1) (by omega) hi;omega
theorem Ech.det {n:Nat} {f:F2} {p:List Nat} (hn:n<=4) (h:Ech n n f p):Lin.det n f=pr n fun i=>f i i:=
 b4o hn f fun i j hi hj=>by
  by_cases a:i<p.length
  ·exact h.left i a j (by have:=h.ge i a;omega)
  ·exact h.below i (by omega) hi j (by omega)
theorem Rref.ge {n k:Nat} {f:F2} {p:List Nat} (h:Rref n k f p) (i:Nat) (hi:i<p.length):i<=p[i]:=by
 induction i with
 |zero=>omega
 |succ i ih=>have:=ih (by omega);have:=h.inc i (i+1) (by omega) hi;omega
theorem Rref.diag {n c:Nat} {f:F2} {p:List Nat} (h:Rref n c f p) (hp:p.length=n) (hc:∀i (hi:i<p.length),p[i]<n) (i:Nat) (hi:i<n):p[i]'(by omega)=i:=by
 have h1:∀q,q<n->∀hq:n - 1 - q<p.length,p[n - 1 - q]<=n - 1 - q:=by
  intro q
  induction q with
  |zero=>intro h0 hq;have:=hc _ hq;omega
  |succ q ih=>
   intro h0 hq;have h2:=ih (by omega) (by omega);have h3:=h.inc (n - 1 - (q+1)) (n - 1 - q) (by omega) (by omega);omega
 have h2:=h1 (n - 1 - i) (by omega) (by omega);have h3:=h.ge i (by omega);have e:n - 1 - (n - 1 - i)=i:=by omega
 simp only[e]at h2;omega
theorem Rref.unit {n c:Nat} {f:F2} {p:List Nat} (h:Rref n c f p) (hp:p.length=n) (hc:∀i (hi:i<p.length),p[i]<n):Eqm n n f fun i j=>if i=j then 1 else 0:=fun i hi j hj=>by
 have hd:=h.diag hp hc j hj;by_cases e:i=j
 ·subst e
  have:=h.one i (by omega);rw[hd]at this;simpa using this
 ·have:=h.zero j (by omega) i hi e;rw[hd]at this;simpa[e]using this
theorem b2o {n:Nat} (hn:n<=4):det n (fun i j=>if i=j then 1 else 0)=1:=by
 match n,hn with
 |0,_=>rfl
 |1,_=>rw[a7m];simp
 |2,_=>rw[a7n];simp;try grind
 |3,_=>rw[a7o];simp;try grind
 |4,_=>rw[a7p];simp;try grind
theorem Rref.det {n:Nat} {f:F2} {p:List Nat} (hn:n<=4) (h:Rref n n f p):Lin.det n f=if p.length=n then 1 else 0:=by
 have hle:=h.le;split
 ·rename_i e
  rw[a1j (h.unit e h.lt),b2o hn]
 ·exact b2n hn f p.length (by omega) (h.below _ (Nat.le_refl _) (by omega))
def mul (n:Nat) (f g:F2):F2:=fun i j=>sm n fun k=>f i k*g k j
def ofF (n c:Nat) (f:F2):Mat:=(List.range n).map fun i=>(List.range c).map (f i)
theorem b0w (n c:Nat) (f:F2):Shp n c (ofF n c f):=⟨by simp[ofF],fun r hr=>by
 obtain⟨i,_,rfl⟩:=List.mem_map.1 hr;simp⟩
theorem b0x (n c:Nat) (f:F2):Eqm n c (ent (ofF n c f)) f:=fun i hi j hj=>by simp[ent,ofF,List.getD_eq_getElem?_getD,hi,hj]
theorem RE.congr {n c:Nat} {f f' g:F2} {d:Rat} (h:RE n c f g d) (e:Eqm n c f' f):RE n c f' g d:=(RE.same e).then_ h (by grind)
theorem a7Z (n c:Nat) (f:F2):∃r p d,Rref n c r p/\RE n c f r d:=by
 obtain⟨_,h2,d,h3⟩:=b4m (b0w n c f);exact⟨_,_,d,h2,h3.congr fun i hi j hj=>(b0x n c f i hi j hj).symm⟩
theorem RE.factor {n c r:Nat} {f g:F2} {d:Rat} (h:RE n c f g d) (b:F2) (hf:∃a,Eqm n c f (mul r a b)):∃a,Eqm n c g (mul r a b):=by
 induction h with
 |same h=>obtain⟨a,ha⟩:=hf;exact⟨a,fun i hi j hj=>(h i hi j hj).symm.trans (ha i hi j hj)⟩
 |swap i k hi hk hik h1 h2 h3=>
  obtain⟨a,ha⟩:=hf;refine⟨fun q=>if q=i then a k else if q=k then a i else a q,fun q hq j hj=>?_⟩;by_cases e:q=i
  ·subst e;rw[h1 j hj,ha k hk j hj];simp[mul]
  ·by_cases e2:q=k
   ·subst e2;rw[h2 j hj,ha i hi j hj];simp[mul,e]
   ·rw[h3 q hq e e2 j hj,ha q hq j hj];simp[mul,e,e2]
 |scale i x hi hx h1 h3=>
  obtain⟨a,ha⟩:=hf;refine⟨fun q=>if q=i then fun k=>x*a i k else a q,fun q hq j hj=>?_⟩;by_cases e:q=i
  ·subst e;rw[h1 j hj,ha q hq j hj];simp only[mul,if_true];rw[<-a3M];exact a0r fun k _=>by grind
  ·rw[h3 q hq e j hj,ha q hq j hj];simp[mul,e]
 |add i k x hi hk hik h1 h3=>
  obtain⟨a,ha⟩:=hf;refine⟨fun q=>if q=i then fun y=>a i y+x*a k y else a q,fun q hq j hj=>?_⟩;by_cases e:q=i
  ·subst e;rw[h1 j hj,ha q hq j hj,ha k hk j hj];simp only[mul,if_true];rw[<-a3M,<-a6c];exact a0r fun k _=>by grind
  ·rw[h3 q hq e j hj,ha q hq j hj];simp[mul,e]
 |trans _ _ ih1 ih2=>exact ih2 (ih1 hf)
theorem b4p {n c r:Nat} {f g:F2} {p:List Nat} {d:Rat} (hg:Rref n c g p) (h:RE n c f g d) (a b:F2) (hf:Eqm n c f (mul r a b)):p.length<=r:=by
 refine Classical.byContradiction fun hlt=>?_;obtain⟨t,ht⟩:=h.factor b ⟨a,hf⟩;obtain⟨s,q,e,hs,he⟩:=a7Z r p.length (fun k i=>t i k);have hq:∃j,j<p.length/\j∉q:=by
  refine Classical.byContradiction fun hno=>?_;have hall:∀j,j<p.length->j∈q:=fun j hj=>Classical.byContradiction fun h=>hno ⟨j,hj,h⟩;have h1:(List.range p.length).length<=q.length:=(List.nodup_range).length_le_of_subset fun j hj=>hall j (List.mem_range.1 hj);rw[List.length_range]at h1;have:=hs.le;omega
 obtain⟨j,hj,hjq⟩:=hq;have h1:=(he.nul _).2 (hs.nv_nul hjq hj);have h2:∀x,x<c->sm p.length (fun i=>nv s q j i*g i x)=0:=fun x hx=>by
  have e1:sm p.length (fun i=>nv s q j i*g i x)=sm p.length (fun i=>sm r fun k=>(t i k*nv s q j i)*b k x):=a0r fun i hi=>by
   have:=hg.le;rw[ht i (by omega) x hx];unfold mul;rw[<-a3M];exact a0r fun k _=>by grind
  rw[e1,b0n];exact a4G fun k hk=>by
   have:=h1 k hk;rw[a0r (g:=fun i=>b k x*(t i k*nv s q j i)) fun i _=>by grind,a3M,this];grind
 have h3:=h2 p[j] (hg.lt j hj);rw[a3e j hj fun i hi hij=>by rw[hg.zero j hj i (by have:=hg.le;omega) hij];grind]at h3;rw[a4H,hg.one j hj]at h3;grind
theorem LI.full {n c:Nat} {f r:F2} {p:List Nat} {d:Rat} (hf:LI n c f) (hr:Rref n c r p) (h:RE n c f r d):p.length=n:=by
 have hle:=hr.le;refine Classical.byContradiction fun hne=>?_;have:=(h.li hf) (fun i=>if i=p.length then 1 else 0) (fun j hj=>by
  unfold cmb;rw[a3e p.length (by omega) fun i _ hi=>by simp[hi]];rw[hr.below _ (Nat.le_refl _) (by omega) j hj];grind) p.length (by omega)
 simp at this
def a3K (r:F2) (p:List Nat) (c:Nat):Mat:=((List.range c).filter (· ∉p)).map fun j=>(List.range c).map (nv r p j)
theorem b2p (r:F2) (p:List Nat) (c:Nat):LI (a3K r p c).length c (ent (a3K r p c)):=by
 intro y hy i hi;have hi':i<((List.range c).filter (· ∉p)).length:=by simpa[a3K]using hi
 have hmem:=List.getElem_mem hi';rw[List.mem_filter,List.mem_range]at hmem;have h1:=hy _ hmem.1;have hnp:((List.range c).filter (· ∉p))[i]∉p:=by simpa using hmem.2
 have he:∀k (hk:k<((List.range c).filter (· ∉p)).length),ent (a3K r p c) k ((List.range c).filter (· ∉p))[i]=nv r p ((List.range c).filter (· ∉p))[k] ((List.range c).filter (· ∉p))[i]:=fun k hk=>by
  unfold ent a3K;rw[List.getD_eq_getElem?_getD (l:=List.map _ _),List.getElem?_map,List.getElem?_eq_getElem hk];simp only[Option.map_some,Option.getD_some];rw[List.getD_eq_getElem?_getD,List.getElem?_map,List.getElem?_range hmem.1];rfl
 unfold cmb at h1;rw[a3e i hi fun k hk hki=>by
  have hk':k<((List.range c).filter (· ∉p)).length:=by simpa[a3K]using hk
  have hne:((List.range c).filter (· ∉p))[i]≠((List.range c).filter (· ∉p))[k]:=fun e=>by
   have hnd:((List.range c).filter (· ∉p)).Pairwise (· < ·):=List.Pairwise.filter _ List.pairwise_lt_range;rw[List.pairwise_iff_getElem]at hnd;rcases Nat.lt_or_gt_of_ne hki with a|a
   ·have:=hnd k i hk' hi' a;omega
   ·have:=hnd i k hi' hk' a;omega
  rw[he k hk',a5u hnp hne];grind,he i hi',a4H]at h1
 grind
def app (c:Nat) (f:F2) (x:Nat->Rat) (i:Nat):Rat:=sm c fun j=>f i j*x j
def gr (n:Nat) (f:F2):F2:=fun i j=>sm n fun r=>f r i*f r j
def gy (n:Nat) (f:F2) (y:Nat->Rat):Nat->Rat:=fun i=>sm n fun r=>f r i*y r
def NS (n c:Nat) (f:F2) (y b:Nat->Rat):Prop:=∀i,i<c->sm c (fun j=>gr n f i j*b j)=gy n f y i
theorem Rref.drop {n c:Nat} {f:F2} {p:List Nat} (h:Rref n (c+1) f p) (hc:c∉p):Rref n c f p:=
 ⟨h.le,fun i hi=>by
  have h1:=h.lt i hi;have h2:p[i]≠c:=by rintro rfl;exact hc (List.getElem_mem _)
  omega,h.inc,h.left,h.one,h.zero,fun i h1 h2 j hj=>h.below i h1 h2 j (by omega)⟩
def Inv (m:Nat) (G v:F2):Prop:=(∀a,a<m->∀b,b<m->sm m (fun k=>G a k*v k b)=if a=b then 1 else 0)/\∀a,a<m->∀b,b<m->sm m (fun k=>v a k*G k b)=if a=b then 1 else 0
def hat (m:Nat) (u v:F2):F2:=fun i j=>sm m fun a=>u i a*sm m fun b=>v a b*u j b
end Go.Lin
namespace Go.Lim
theorem b7o:∃n:Nat,n=4294967296:=⟨_,rfl⟩
noncomputable def B:Nat:=Classical.choose b7o
theorem a1a:B=4294967296:=Classical.choose_spec b7o
theorem a1Y:0<B:=by rw[a1a];decide
noncomputable def nv:List Nat->Nat
 | []=>0
 |d::l=>d+B*nv l
def Dig (l:List Nat):Prop:=∀d∈l,d<B
def a1o (l:List Nat):Bool:= !(l.getLast?==some 0)
def vl (l:List Nat):List Nat:=if a1o l then l else[]
noncomputable def val (l:List Nat):Nat:=nv (vl l)
def a0E (l:List Nat) (n:Nat):Prop:=Dig l/\a1o l=true/\nv l=n
theorem a3k (a b:List Nat):nv (a++b)=nv a+B^a.length*nv b:=by
 induction a with
 |nil=>simp[nv]
 |cons d a ih=>simp only[List.cons_append,nv,ih,List.length_cons,Nat.pow_succ,Nat.mul_add];rw[Nat.mul_comm (B^a.length) B,Nat.mul_assoc,Nat.add_assoc]
theorem a1F (a:List Nat) (d:Nat):nv (a++[d])=nv a+B^a.length*d:=by rw[a3k];simp[nv]
theorem a8T (n:Nat):nv (List.replicate n 0)=0:=by
 induction n with
 |zero=>rfl
 |succ n ih=>simp[List.replicate_succ,nv,ih]
theorem Dig.nil:Dig []:=by intro d h;simp at h
theorem Dig.cons {d:Nat} {l:List Nat} (hd:d<B) (h:Dig l):Dig (d::l):=by
 intro x hx;rcases List.mem_cons.1 hx with rfl|hx
 ·exact hd
 ·exact h x hx
theorem Dig.append {a b:List Nat} (ha:Dig a) (hb:Dig b):Dig (a++b):=by
 intro x hx;rcases List.mem_append.1 hx with h|h
 ·exact ha x h
 ·exact hb x h
theorem Dig.take {a:List Nat} (ha:Dig a) (n:Nat):Dig (a.take n):=fun x hx=>ha x (List.mem_of_mem_take hx)
theorem Dig.drop {a:List Nat} (ha:Dig a) (n:Nat):Dig (a.drop n):=fun x hx=>ha x (List.mem_of_mem_drop hx)
theorem Dig.get {a:List Nat} (ha:Dig a) (i:Nat) (h:i<a.length):a[i]<B:=ha _ (List.getElem_mem h)
theorem Dig.set {a:List Nat} (ha:Dig a) (i d:Nat) (hd:d<B):Dig (a.set i d):=by
 intro x hx;rcases List.mem_or_eq_of_mem_set hx with h|rfl
 ·exact ha x h
 ·exact hd
theorem Dig.zeros (n:Nat):Dig (List.replicate n 0):=by intro x hx;rw[List.eq_of_mem_replicate hx];exact a1Y
theorem a4h {l:List Nat} (h:Dig l):nv l<B^l.length:=by
 induction l with
 |nil=>simp[nv]
 |cons d l ih=>
  have h1:=ih (fun x hx=>h x (List.mem_cons_of_mem _ hx));have h2:=h d (List.mem_cons_self ..);simp only[nv,List.length_cons,Nat.pow_succ];have:B*nv l+B<=B^l.length*B:=by rw[<-Nat.mul_succ,Nat.mul_comm];exact Nat.mul_le_mul_right _ h1
  omega
theorem a3V (l:List Nat) (d:Nat):a1o (l++[d])=(d !=0):=by simp[a1o,bne]
theorem a2V {l:List Nat} (h:0<l.length):a1o l=(l[l.length - 1] !=0):=by
 unfold a1o;rw[List.getLast?_eq_getElem?,List.getElem?_eq_getElem (by omega)];simp[bne]
theorem b2q (l:List Nat):a1o (vl l)=true:=by
 unfold vl;split
 ·assumption
 ·rfl
theorem b5M {l:List Nat} (h:Dig l):Dig (vl l):=by
 unfold vl;split
 ·exact h
 ·exact Dig.nil
theorem b5N (l:List Nat):(vl l).length<=l.length:=by unfold vl;split<;>simp
theorem a4i {l:List Nat} (h:Dig l):a0E (vl l) (val l):=⟨b5M h,b2q l,rfl⟩
theorem a0E.vl {l:List Nat} {n:Nat} (h:a0E l n):vl l=l:=by unfold Lim.vl;rw[h.2.1];rfl
theorem a0E.val {l:List Nat} {n:Nat} (h:a0E l n):val l=n:=by unfold Lim.val;rw[h.vl];exact h.2.2
theorem a0E.nil:a0E [] 0:=⟨Dig.nil,rfl,rfl⟩
theorem a8a {P:List Nat->Prop} (h0:P []) (hs:∀l d,P l->P (l++[d])) (l:List Nat):P l:=by
 have:∀m:List Nat,P m.reverse:=by
  intro m
  induction m with
  |nil=>exact h0
  |cons d m ih=>rw[List.reverse_cons];exact hs _ _ ih
 simpa using this l.reverse
def Cut (l:List Nat) (k:Nat):Prop:=k<=l.length/\nv (l.take k)=nv l
theorem Cut.all (l:List Nat):Cut l l.length:=⟨Nat.le_refl _,by rw[List.take_length]⟩
theorem Cut.less {l:List Nat} {k:Nat} (h:Cut l k) (hk:0<k) (h0:l[k - 1]'(by have:=h.1;omega)=0):Cut l (k - 1):=by
 refine⟨by have:=h.1;omega,?_⟩;have h1:=h.1;have e:l.take k=l.take (k - 1)++[l[k - 1]'(by omega)]:=by
  conv=>lhs;rw[show k=(k - 1)+1 from by omega]
  exact List.take_succ_eq_append_getElem (by omega)
 rw[<-h.2,e,a1F,h0];simp
theorem Cut.canon {l:List Nat} {k:Nat} (h:Cut l k) (hd:Dig l) (hv:k=0\/∃h':k - 1<l.length,l[k - 1]≠0):a0E (l.take k) (nv l):=by
 refine⟨hd.take k,?_,h.2⟩;have h1:=h.1;rcases hv with rfl|⟨h',h2⟩
 ·rfl
 ·by_cases hk:k=0
  ·subst hk;rfl
  rw[a2V (by simp;omega)];have:(l.take k).length=k:=by simp;omega
  simp[this,h2]
theorem a0E.unique {a b:List Nat} {n:Nat} (ha:a0E a n) (hb:a0E b n):a=b:=by
 induction a generalizing b n with
 |nil=>
  obtain⟨h1,h2,h3⟩:=hb;have hn:n=0:=ha.2.2.symm;subst hn;clear ha
  induction b using a8a with
  |h0=>rfl
  |hs l d ih=>
   rw[a1F]at h3;rw[a3V]at h2;have:0<B^l.length:=Nat.pow_pos a1Y;have hd:0<d:=by simp at h2;omega
   have:=Nat.mul_pos this hd;omega
 |cons d a ih=>
  have cv:∀{d:Nat} {l:List Nat},a1o (d::l)=true->a1o l=true:=by
   intro d l h;cases l with
   |nil=>rfl
   |cons x l=>simpa[a1o]using h
  obtain⟨h1,h2,h3⟩:=ha;obtain⟨g1,g2,g3⟩:=hb;cases b with
  |nil=>
   have hn:n=0:=g3.symm;have:a0E (d::a) 0:=⟨h1,h2,by rw[h3,hn]⟩;clear ih
   exfalso
   have key:∀l:List Nat,a0E l 0->l= []:=by
    intro l
    induction l using a8a with
    |h0=>intro _;rfl
    |hs l d _=>
     rintro ⟨_,k2,k3⟩;rw[a1F]at k3;rw[a3V]at k2;have p1:0<B^l.length:=Nat.pow_pos a1Y;have hd:0<d:=by simp at k2;omega
     have:=Nat.mul_pos p1 hd;omega
   simpa using key _ this
  |cons c b=>
   have hd:=h1 d (List.mem_cons_self ..);have hc:=g1 c (List.mem_cons_self ..);simp only[nv]at h3 g3;have e:d+B*nv a=c+B*nv b:=by omega
   have hdc:d=c:=by
    have:=congrArg (· %B) e;simpa[Nat.add_mul_mod_self_left,Nat.mod_eq_of_lt hd,Nat.mod_eq_of_lt hc]using this
   subst hdc;have:B*nv a=B*nv b:=by omega
   have hab:nv a=nv b:=Nat.eq_of_mul_eq_mul_left a1Y this;rw[ih (n:=nv a) (b:=b) ⟨fun x hx=>h1 x (List.mem_cons_of_mem _ hx),cv h2,rfl⟩ ⟨fun x hx=>g1 x (List.mem_cons_of_mem _ hx),cv g2,hab.symm⟩]
def a4j (a b o:List Nat) (i c:Nat):Prop:=o.length=a.length+1/\Dig o/\c<=1/\nv (o.take i)+B^i*c=nv (a.take i)+nv (b.take i)
theorem a1k (o:List Nat) (i d:Nat) (h:i<o.length):(o.set i d).take (i+1)=o.take i++[d]:=by
 rw[List.take_succ_eq_append_getElem (by simpa using h),List.take_set,List.getElem_set_self]
 congr 1
 rw[List.set_eq_of_length_le (by simp;omega)]
theorem a0B (a:List Nat) (i:Nat) (h:i<a.length):nv (a.take (i+1))=nv (a.take i)+B^i*a[i]:=by
 rw[List.take_succ_eq_append_getElem h,a1F];congr 3;simp;omega
theorem a6d (a:List Nat) (i:Nat) (h:a.length<=i):nv (a.take (i+1))=nv (a.take i):=by
 rw[List.take_of_length_le (by omega),List.take_of_length_le h]
theorem a4j.start (a b:List Nat):a4j a b (List.replicate (a.length+1) 0) 0 0:=⟨by simp,Dig.zeros _,by omega,by simp[nv]⟩
theorem a4j.step {a b o:List Nat} {i c y:Nat} (h:a4j a b o i c) (hi:i<a.length) (hy:(∃h:i<b.length,b[i]=y)\/(b.length<=i/\y=0)) (ha:Dig a) (hb:Dig b):
  a4j a b (o.set i ((a[i]+y+c)%4294967296)) (i+1) ((a[i]+y+c)/4294967296):=by
 obtain⟨h1,h2,h3,h4⟩:=h;have hai:=ha.get i hi;have hyB:y<B:=by
  rcases hy with⟨h,rfl⟩|⟨_,rfl⟩
  ·exact hb.get i h
  ·exact a1Y
 rw[a1a]at hai hyB;refine⟨by simpa using h1,h2.set _ _ (by rw[a1a];exact Nat.mod_lt _ (by decide)),by omega,?_⟩;have hb2:nv (b.take (i+1))=nv (b.take i)+B^i*y:=by
  rcases hy with⟨h,rfl⟩|⟨h,rfl⟩
  ·exact a0B b i h
  ·rw[a6d b i h];simp
 rw[a1k o i _ (by omega),a1F,a0B a i hi,hb2,List.length_take,Nat.min_eq_left (by omega),Nat.pow_succ,Nat.mul_assoc];have e:(a[i]+y+c)%4294967296+B*((a[i]+y+c)/4294967296)=a[i]+y+c:=by rw[a1a];omega
 have e2:B^i*((a[i]+y+c)%4294967296)+B^i*(B*((a[i]+y+c)/4294967296))=B^i*a[i]+B^i*y+B^i*c:=by rw[<-Nat.mul_add,e,Nat.mul_add,Nat.mul_add]
 omega
theorem a4j.done {a b o:List Nat} {c:Nat} (h:a4j a b o a.length c) (hab:b.length<=a.length):Dig (o.set a.length c)/\nv (o.set a.length c)=nv a+nv b/\(o.set a.length c).length=a.length+1:=by
 obtain⟨h1,h2,h3,h4⟩:=h;refine⟨h2.set _ _ (by rw[a1a];omega),?_,by simpa using h1⟩;have e:o.set a.length c=(o.set a.length c).take (a.length+1):=by rw[List.take_of_length_le (by simp;omega)]
 rw[e,a1k o _ _ (by omega),a1F,List.length_take,Nat.min_eq_left (by omega),h4,List.take_of_length_le (Nat.le_refl _),List.take_of_length_le hab]
def lg (n:Nat):Nat:=if n=0 then 0 else Nat.log2 n/32+1
theorem b0y (m:Nat):B^m=2^(32*m):=by rw[Nat.pow_mul,a1a]
theorem a1Z {n m:Nat}:lg n<=m↔n<B^m:=by
 unfold lg;by_cases h:n=0
 ·subst h;simp[Nat.pow_pos a1Y]
 ·rw[if_neg h,b0y,<-Nat.log2_lt h];omega
theorem a0E.len {l:List Nat} {n:Nat} (h:a0E l n):l.length=lg n:=by
 have h1:lg n<=l.length:=a1Z.2 (by rw[<-h.2.2];exact a4h h.1);obtain⟨hd,hv,rfl⟩:=h
 induction l using a8a with
 |h0=>rfl
 |hs l d _=>
  rw[a3V]at hv;have hd:0<d:=by simp at hv;omega
  have:¬lg (nv (l++[d]))<=l.length:=by
   rw[a1Z,a1F];have:=Nat.mul_le_mul_left (B^l.length) hd;omega
  simp at h1 |-;omega
theorem a5x:lg 0=0:=rfl
theorem a1b {a b:Nat} (h:a<=b):lg a<=lg b:=a1Z.2 (Nat.lt_of_le_of_lt h (a1Z.1 (Nat.le_refl _)))
theorem a8U (a b:Nat):lg (a+b)<=max (lg a) (lg b)+1:=by
 rw[a1Z];have h1:=(a1Z (n:=a) (m:=max (lg a) (lg b))).1 (Nat.le_max_left _ _);have h2:=(a1Z (n:=b) (m:=max (lg a) (lg b))).1 (Nat.le_max_right _ _);rw[Nat.pow_succ];have:0<B^max (lg a) (lg b):=Nat.pow_pos a1Y;have:=a1a;generalize B^max (lg a) (lg b)=p at*;rw[a1a];omega
theorem a0T (a b:Nat):lg (a*b)<=lg a+lg b:=by
 rw[a1Z,Nat.pow_add];exact Nat.mul_lt_mul'' (a1Z.1 (Nat.le_refl _)) (a1Z.1 (Nat.le_refl _))
theorem b3N {a:Nat} (h:0<a):0<lg a:=by unfold lg;rw[if_neg (by omega)];omega
theorem a8V (l:List Nat) (h:Dig l):lg (val l)<=l.length:=by
 have:=(a4i h).len;have:=b5N l;omega
def a2t (a b:Nat):Int:=if a<b then -1 else if b<a then 1 else 0
theorem a3N {a b:List Nat} {m n:Nat} (ha:a0E a m) (hb:a0E b n) (h:a.length<b.length):a2t m n= -1:=by
 have:m<n:=by
  rcases Nat.lt_or_ge m n with h1|h1
  ·exact h1
  ·have:=a1b h1;rw[<-ha.len,<-hb.len]at this;omega
 simp[a2t,this]
theorem a3O {a b:List Nat} {m n:Nat} (ha:a0E a m) (hb:a0E b n) (h:b.length<a.length):a2t m n=1:=by
 have:n<m:=by
  rcases Nat.lt_or_ge n m with h1|h1
  ·exact h1
  ·have:=a1b h1;rw[<-ha.len,<-hb.len]at this;omega
 simp[a2t,this,Nat.lt_asymm this]
theorem a1R (a:List Nat) (k:Nat) (hk:k<=a.length):nv a=nv (a.take k)+B^k*nv (a.drop k):=by
 have:=a3k (a.take k) (a.drop k);rw[List.take_append_drop,List.length_take,Nat.min_eq_left hk]at this;exact this
theorem a5y {a b:List Nat} (ha:Dig a) {k:Nat} (hl:a.length=b.length) (h0:0<k) (hk:k<=a.length) (hd:a.drop k=b.drop k) (h:a[k - 1]'(by omega)<b[k - 1]'(by omega)):nv a<nv b:=by
 rw[a1R a k hk,a1R b k (by omega),hd];have ha1:=a0B a (k - 1) (by omega);have hb1:=a0B b (k - 1) (by omega);rw[show k - 1+1=k from by omega]at ha1 hb1;have h1:=a4h (ha.take (k - 1));rw[List.length_take,Nat.min_eq_left (by omega)]at h1;have h2:B^(k - 1)*a[k - 1]'(by omega)+B^(k - 1)<=B^(k - 1)*b[k - 1]'(by omega):=by rw[<-Nat.mul_succ];exact Nat.mul_le_mul_left _ h
 omega
theorem a6e {a b:List Nat} {m n k:Nat} (ha:a0E a m) (hb:a0E b n) (hl:a.length=b.length) (h0:0<k) (hk:k<=a.length) (hd:a.drop k=b.drop k) (h:a[k - 1]'(by omega)<b[k - 1]'(by omega)):a2t m n= -1:=by
 have:=a5y ha.1 hl h0 hk hd h;rw[ha.2.2,hb.2.2]at this;simp[a2t,this]
theorem a6f {a b:List Nat} {m n k:Nat} (ha:a0E a m) (hb:a0E b n) (hl:a.length=b.length) (h0:0<k) (hk:k<=a.length) (hd:a.drop k=b.drop k) (h:b[k - 1]'(by omega)<a[k - 1]'(by omega)):a2t m n=1:=by
 have:=a5y hb.1 hl.symm h0 (by omega) hd.symm h;rw[ha.2.2,hb.2.2]at this;simp[a2t,this,Nat.lt_asymm this]
theorem a5a {a b:List Nat} {k:Nat} (hl:a.length=b.length) (h0:0<k) (hk:k<=a.length) (hd:a.drop k=b.drop k) (h:a[k - 1]'(by omega)=b[k - 1]'(by omega)):a.drop (k - 1)=b.drop (k - 1):=by
 have h1:=List.drop_eq_getElem_cons (l:=a) (i:=k - 1) (by omega);have h2:=List.drop_eq_getElem_cons (l:=b) (i:=k - 1) (by omega);rw[h1,h2,show k - 1+1=k from by omega,hd,h]
theorem a6g {a b:List Nat} {m n k:Nat} (ha:a0E a m) (hb:a0E b n) (hk:k=0) (hd:a.drop k=b.drop k):a2t m n=0:=by
 subst hk;have:a=b:=by simpa using hd
 have:m=n:=by rw[<-ha.2.2,<-hb.2.2,this]
 simp[a2t,this]
theorem a3l (a b:Nat):a2t a b<0↔a<b:=by unfold a2t;split<;>(try split)<;>simp_all
theorem a8b (a b:Nat):a2t a b=0↔a=b:=by unfold a2t;split<;>(try split)<;>simp_all<;>omega
def a2r (l q:List Nat) (d k r:Nat):Prop:=q.length=l.length/\Dig q/\r<d/\nv (l.drop k)=d*nv (q.drop k)+r
theorem a2r.start (l:List Nat) (d:Nat) (hd:0<d):a2r l (List.replicate l.length 0) d l.length 0:=
 ⟨by simp,Dig.zeros _,hd,by simp[nv]⟩
theorem a6D (q:List Nat) (k x:Nat) (h0:0<k) (hk:k<=q.length):(q.set (k - 1) x).drop (k - 1)=x::q.drop k:=by
 rw[List.drop_eq_getElem_cons (by simp;omega),List.getElem_set_self,show k - 1+1=k from by omega,List.drop_set_of_lt (by omega)]
theorem a2r.step {l q:List Nat} {d k r:Nat} (h:a2r l q d k r) (h0:0<k) (hk:k<=l.length) (hl:Dig l):
  a2r l (q.set (k - 1) ((r*4294967296+l[k - 1])/d)) d (k - 1) ((r*4294967296+l[k - 1])%d):=by
 obtain⟨h1,h2,h3,h4⟩:=h;have hlk:=hl.get (k - 1) (by omega);rw[a1a]at hlk;have hx:(r*4294967296+l[k - 1])/d<4294967296:=by
  rw[Nat.div_lt_iff_lt_mul (by omega)];have:(r+1)*4294967296<=d*4294967296:=Nat.mul_le_mul_right _ h3;rw[Nat.mul_comm 4294967296 d];omega
 refine⟨by simpa using h1,h2.set _ _ (by rw[a1a];exact hx),Nat.mod_lt _ (by omega),?_⟩;rw[a6D q k _ h0 (by omega),List.drop_eq_getElem_cons (l:=l) (i:=k - 1) (by omega),show k - 1+1=k from by omega];simp only[nv];rw[h4];have e:=Nat.div_add_mod (r*4294967296+l[k - 1]) d;rw[a1a];generalize (r*4294967296+l[k - 1])/d=x at*;generalize (r*4294967296+l[k - 1])%d=y at*;generalize nv (q.drop k)=z at*;have e2:4294967296*(d*z+r)=d*(4294967296*z)+r*4294967296:=by rw[Nat.mul_add,<-Nat.mul_assoc,<-Nat.mul_assoc,Nat.mul_comm 4294967296 d,Nat.mul_comm 4294967296 r]
 rw[e2,Nat.mul_add];omega
theorem a2r.done {l q:List Nat} {d r:Nat} (h:a2r l q d 0 r):nv q=nv l/d/\r=nv l%d:=by
 obtain⟨h1,h2,h3,h4⟩:=h;simp only[List.drop_zero]at h4;rw[h4,Nat.mul_add_div (by omega),Nat.div_eq_of_lt h3,Nat.mul_add_mod,Nat.mod_eq_of_lt h3];exact⟨rfl,rfl⟩
theorem b3O (o:List Nat) (k d:Nat) (h:k<o.length):nv (o.set k d)+B^k*o[k]=nv o+B^k*d:=by
 induction o generalizing k with
 |nil=>simp at h
 |cons x o ih=>
  match k with
  |0=>simp[nv];omega
  |k+1=>
   have:=ih k (by simpa using h);simp only[List.set_cons_succ,nv,List.getElem_cons_succ,Nat.pow_succ];have e1:B^k*B*o[k]'(by simpa using h)=B*(B^k*o[k]'(by simpa using h)):=by rw[Nat.mul_comm (B^k) B,Nat.mul_assoc]
   have e2:B^k*B*d=B*(B^k*d):=by rw[Nat.mul_comm (B^k) B,Nat.mul_assoc]
   rw[e1,e2,Nat.add_assoc,<-Nat.mul_add,this,Nat.mul_add,Nat.add_assoc]
def a2o (a b o:List Nat) (i j c:Nat):Prop:=o.length=a.length+b.length/\Dig o/\c<B/\(∀p (h:p<o.length),i+b.length<=p->o[p]=0)/\
 nv o+B^(i+j)*c=nv (a.take i)*nv b+(a.getD i 0)*B^i*nv (b.take j)
theorem a2o.start (a b:List Nat):a2o a b (List.replicate (a.length+b.length) 0) 0 0 0:=
 ⟨by simp,Dig.zeros _,a1Y,by simp,by simp[nv,a8T]⟩
theorem a2o.step {a b o:List Nat} {i j c:Nat} (h:a2o a b o i j c) (hi:i<a.length) (hj:j<b.length) (ha:Dig a) (hb:Dig b) (hij:i+j<o.length):
  a2o a b (o.set (i+j) ((c+(a[i]*b[j]+o[i+j]))%4294967296)) i (j+1) ((c+(a[i]*b[j]+o[i+j]))/4294967296)/\c+(a[i]*b[j]+o[i+j])<18446744073709551616/\a[i]*b[j]+o[i+j]<18446744073709551616/\a[i]*b[j]<18446744073709551616:=by
 obtain⟨h1,h2,h3,h4,h5⟩:=h;have hai:=ha.get i hi;have hbj:=hb.get j hj;have hoj:=h2.get (i+j) hij;rw[a1a]at hai hbj hoj h3;have hm:a[i]*b[j]<=4294967295*4294967295:=Nat.mul_le_mul (by omega) (by omega);have hs:=b3O o (i+j) ((c+(a[i]*b[j]+o[i+j]))%4294967296) hij;have hD:a.getD i 0=a[i]:=by simp[List.getD,hi]
 refine⟨⟨by simpa using h1,h2.set _ _ (by rw[a1a];exact Nat.mod_lt _ (by decide)),by rw[a1a];omega,?_,?_⟩,by omega,by omega,by omega⟩
 ·intro p hp hpp
  rw[List.getElem_set,if_neg (by omega)];exact h4 p (by simpa using hp) hpp
 ·rw[hD]at h5 |-
  rw[a0B b j hj,show i+(j+1)=(i+j)+1 from rfl,Nat.pow_succ];have e:=Nat.div_add_mod (c+(a[i]*b[j]+o[i+j])) 4294967296;generalize (c+(a[i]*b[j]+o[i+j]))/4294967296=x at*;generalize (c+(a[i]*b[j]+o[i+j]))%4294967296=y at*;generalize nv (o.set (i+j) y)=no at*;have e3:B^(i+j)*B*x=B^(i+j)*(4294967296*x):=by rw[a1a,Nat.mul_assoc]
  have e4:a[i]*B^i*(nv (b.take j)+B^j*b[j])=a[i]*B^i*nv (b.take j)+B^(i+j)*(a[i]*b[j]):=by
   rw[Nat.mul_add,Nat.pow_add]
   congr 1
   ac_rfl
  rw[e3,e4];have e5:B^(i+j)*(4294967296*x)+B^(i+j)*y=B^(i+j)*c+(B^(i+j)*(a[i]*b[j])+B^(i+j)*o[i+j]):=by
   rw[<-Nat.mul_add,e,Nat.mul_add,Nat.mul_add]
  omega
theorem a2o.row {a b o:List Nat} {i c:Nat} (h:a2o a b o i b.length c) (hi:i<a.length):a2o a b (o.set (i+b.length) c) (i+1) 0 0:=by
 obtain⟨h1,h2,h3,h4,h5⟩:=h;have hs:=b3O o (i+b.length) c (by omega);have hz:=h4 (i+b.length) (by omega) (by omega);rw[hz,Nat.mul_zero,Nat.add_zero]at hs;have hD:a.getD i 0=a[i]:=by simp[List.getD,hi]
 refine⟨by simpa using h1,h2.set _ _ h3,a1Y,?_,?_⟩
 ·intro p hp hpp
  rw[List.getElem_set,if_neg (by omega)];exact h4 p (by simpa using hp) (by omega)
 ·rw[List.take_zero,show nv []=0 from rfl,Nat.mul_zero,Nat.mul_zero,Nat.add_zero,Nat.add_zero,hs,h5,hD,List.take_of_length_le (Nat.le_refl b.length),a0B a i hi,Nat.add_mul,Nat.mul_comm (B^i) a[i]]
theorem a2o.done {a b o:List Nat} {c:Nat} (h:a2o a b o a.length 0 c) (hc:c=0):nv o=nv a*nv b:=by
 obtain⟨h1,h2,h3,h4,h5⟩:=h;subst hc;simpa[nv]using h5
theorem a2P {n:Nat} (h0:0<n) (h:n<4294967296):lg n=1:=by
 have h1:lg n<=1:=a1Z.2 (by rw[Nat.pow_one,a1a];exact h);have:=b3N h0;omega
theorem b0z {l:List Nat} {n:Nat} (h:a0E l n) (h0:0<n) (h1:n<4294967296):l= [n]:=by
 have h2:=h.len;rw[a2P h0 h1]at h2
 match l,h2 with
 | [d],_=>have:=h.2.2;simp[nv]at this;rw[this]
theorem a8W {n:Nat} (h0:0<n) (h1:n<4294967296):a0E [n] n:=⟨Dig.cons (by rw[a1a];exact h1) Dig.nil,by simp[a1o];omega,by simp[nv]⟩
theorem a6E {l:List Nat} {n:Nat} (h:a0E l n):l= []↔n=0:=by
 constructor
 ·rintro rfl;exact h.2.2.symm
 ·intro hn;have:=h.len;rw[hn]at this;exact List.eq_nil_of_length_eq_zero this
theorem a2o.step' {a b o:List Nat} {i j c x y z:Nat} (h:a2o a b o i j c) (hi:i<a.length) (hj:j<b.length) (ha:Dig a) (hb:Dig b) (hij:i+j<o.length) (hx:a[i]=x) (hy:b[j]=y) (hz:o[i+j]=z):
  a2o a b (o.set (i+j) ((c+(x*y+z))%4294967296)) i (j+1) ((c+(x*y+z))/4294967296)/\c+(x*y+z)<18446744073709551616:=by
 subst hx;subst hy;subst hz;exact⟨(h.step hi hj ha hb hij).1,(h.step hi hj ha hb hij).2.1⟩
def a2M (a b o:List Nat) (i c:Nat):Prop:=o.length=i/\Dig o/\c<=1/\nv o+B^i*c=nv (a.take i)+nv (b.take i)
theorem a2M.start (a b:List Nat):a2M a b [] 0 0:=⟨rfl,Dig.nil,by omega,by simp[nv]⟩
theorem a1d (a:List Nat) (i:Nat):nv (a.take (i+1))=nv (a.take i)+B^i*a.getD i 0:=by
 by_cases h:i<a.length
 ·rw[a0B a i h];simp[List.getD,h]
 ·rw[a6d a i (by omega)];simp[List.getD,h]
theorem Dig.getD {a:List Nat} (ha:Dig a) (i:Nat):a.getD i 0<B:=by
 by_cases h:i<a.length
 ·simpa[List.getD,h]using ha.get i h
 ·simpa[List.getD,h]using a1Y
theorem a2M.step {a b o:List Nat} {i c:Nat} (h:a2M a b o i c) (ha:Dig a) (hb:Dig b):
  a2M a b (o++[(a.getD i 0+b.getD i 0+c)%4294967296]) (i+1) ((a.getD i 0+b.getD i 0+c)/4294967296):=by
 obtain⟨h1,h2,h3,h4⟩:=h;have hx:=ha.getD i;have hy:=hb.getD i;have ea:=a1d a i;have eb:=a1d b i;unfold a2M;rw[ea,eb];clear ea eb;generalize a.getD i 0=x at*;generalize b.getD i 0=y at*;rw[a1a]at hx hy;refine⟨by simp[h1],h2.append (Dig.cons (by rw[a1a];exact Nat.mod_lt _ (by decide)) Dig.nil),by omega,?_⟩;rw[a1F,h1,Nat.pow_succ,Nat.mul_assoc];have e:(x+y+c)%4294967296+B*((x+y+c)/4294967296)=x+y+c:=by rw[a1a];omega
 have e2:B^i*((x+y+c)%4294967296)+B^i*(B*((x+y+c)/4294967296))=B^i*x+B^i*y+B^i*c:=by rw[<-Nat.mul_add,e,Nat.mul_add,Nat.mul_add]
 omega
theorem a2M.done {a b o:List Nat} {c m:Nat} (h:a2M a b o (m+1) c) (ha:Dig a) (hb:Dig b) (hal:a.length<=m) (hbl:b.length<=m):nv o=nv a+nv b:=by
 obtain⟨h1,h2,h3,h4⟩:=h;rw[List.take_of_length_le (by omega),List.take_of_length_le (by omega)]at h4;have ha1:=Nat.lt_of_lt_of_le (a4h ha) (Nat.pow_le_pow_right a1Y hal);have hb1:=Nat.lt_of_lt_of_le (a4h hb) (Nat.pow_le_pow_right a1Y hbl);rw[Nat.pow_succ]at h4;have hc:c=0:=by
  rcases Nat.eq_zero_or_pos c with h|h
  ·exact h
  ·exfalso
   have h5:B^m*B<=B^m*B*c:=Nat.le_mul_of_pos_right _ h;generalize B^m=p at*;rw[a1a]at h5 h4;omega
 subst hc;simpa using h4
theorem a1e {l:List Nat} {n:Nat} (h:a0E l n):l.length=0↔n=0:=by
 rw[<-a6E h];exact List.length_eq_zero_iff
def a1f (s:Bool) (m:List Nat):Bool:=a1o m&&(decide (0<m.length)|| !s)
noncomputable def a6F (s:Bool) (m:List Nat):Int:=if a1f s m then(if s then -(nv m:Int)else nv m)else 0
def a5b (s:Bool) (m:List Nat) (z:Int):Prop:=s=decide (z<0)/\a0E m z.natAbs
theorem a5b.of_valid {s:Bool} {m:List Nat} (hd:Dig m) (h:a1f s m=true):a5b s m (a6F s m):=by
 have hv:a1o m=true:=by unfold a1f at h;simp at h;exact h.1
 have hc:a0E m (nv m):=⟨hd,hv,rfl⟩;have h0:=a1e hc;unfold a6F;rw[if_pos h];cases s
 ·simp only[Bool.false_eq_true,if_false]
  exact⟨by simp,by simpa using hc⟩
 ·have hm:0<m.length:=by unfold a1f at h;simpa[hv]using h
  simp only[if_true];refine⟨?_,by simpa using hc⟩;have:nv m≠0:=fun e=>by rw[e]at h0;simp at h0;simp[h0]at hm
  symm;rw[decide_eq_true_eq];omega
theorem a5b.valid {s:Bool} {m:List Nat} {z:Int} (h:a5b s m z):a1f s m=true:=by
 obtain⟨hs,hm⟩:=h;have h0:=a1e hm;unfold a1f;rw[hm.2.1];by_cases hz:z<0
 ·have:0<m.length:=by omega
  simp[this]
 ·simp[hs,hz]
theorem a5b.val {s:Bool} {m:List Nat} {z:Int} (h:a5b s m z):a6F s m=z:=by
 unfold a6F;rw[if_pos h.valid];obtain⟨hs,hm⟩:=h;rw[hm.2.2];by_cases hz:z<0
 ·simp only[hs,hz,decide_true,if_true];omega
 ·simp only[hs,hz,decide_false,Bool.false_eq_true,if_false];omega
theorem a5b.zero:a5b false [] 0:=⟨rfl,a0E.nil⟩
theorem a5b.len {s:Bool} {m:List Nat} {z:Int} (h:a5b s m z):m.length=lg z.natAbs:=h.2.len
theorem a5b.len0 {s:Bool} {m:List Nat} {z:Int} (h:a5b s m z):m.length=0↔z=0:=by
 have:=a1e h.2;omega
theorem b4q (s:Bool) (m:List Nat) (h:Dig m):lg (a6F s m).natAbs<=m.length:=by
 cases hv:a1f s m
 ·unfold a6F;rw[hv];simp[a5x]
 ·exact Nat.le_of_eq (a5b.of_valid h hv).len.symm
theorem a5c {s:Bool} {m:List Nat} (h:a1f s m=false):a6F s m=0:=by unfold a6F;rw[h];rfl
def dn (q:Rat):Nat:=if q.den=1 then 0 else q.den
def a5d (s:Bool) (m d:List Nat) (q:Rat):Prop:=a5b s m q.num/\a0E d (dn q)
noncomputable def a1i (s:Bool) (m d:List Nat):Bool:=a1f s m&&a1o d&&(decide (d.length=0)||(decide (0<m.length)&& !(nv d==1)&&(Nat.gcd (nv m) (nv d)==1)))
noncomputable def b1Y (s:Bool) (m d:List Nat):Rat:=if a1i s m d then mkRat (a6F s m) (if d.length=0 then 1 else nv d)else 0
theorem a5d.of_valid {s:Bool} {m d:List Nat} (hm:Dig m) (hd:Dig d) (h:a1i s m d=true):a5d s m d (b1Y s m d):=by
 have h':=h;unfold a1i at h';simp only[Bool.and_eq_true]at h';obtain⟨⟨h1,h2⟩,h3⟩:=h';have hz:=a5b.of_valid hm h1;have hcd:a0E d (nv d):=⟨hd,h2,rfl⟩;have h0:=a1e hcd;unfold b1Y;rw[if_pos h];by_cases hl:d.length=0
 ·rw[if_pos hl]
  have e:mkRat (a6F s m) 1=((a6F s m:Int):Rat):=by rw[<-Rat.mk_den_one];rw[Rat.mk_eq_mkRat]
  rw[e];refine⟨by simpa using hz,?_⟩;have:nv d=0:=h0.1 hl;simp only[dn,Rat.den_intCast,if_true];rw[this]at hcd;exact hcd
 ·rw[if_neg hl]
  have hne:nv d≠0:=fun e=>hl (h0.2 e);simp[hl]at h3;obtain⟨⟨h4,h5⟩,h6⟩:=h3;have habs:(a6F s m).natAbs=nv m:=by have:=hz.2.2.2;omega
  have hg:(nv d).gcd (a6F s m).natAbs=1:=by rw[habs,Nat.gcd_comm];exact h6
  have e1:(mkRat (a6F s m) (nv d)).num=a6F s m:=by rw[Rat.num_mkRat,if_neg hne,hg];simp
  have e2:(mkRat (a6F s m) (nv d)).den=nv d:=by rw[Rat.den_mkRat,if_neg hne,hg];simp
  exact⟨by rw[e1];exact hz,by unfold dn;rw[e2,if_neg h5];exact hcd⟩
theorem a5d.valid {s:Bool} {m d:List Nat} {q:Rat} (h:a5d s m d q):a1i s m d=true:=by
 obtain⟨h1,h2⟩:=h;have h3:=a1e h2;have h4:=h1.len0;have h5:=q.reduced;have h6:=q.den_nz;unfold a1i;rw[h1.valid,h2.2.1,h2.2.2,h1.2.2.2];by_cases hd:q.den=1
 ·have:d.length=0:=by rw[h3];unfold dn;rw[if_pos hd]
  simp[this]
 ·have e:dn q=q.den:=by unfold dn;rw[if_neg hd]
  rw[e]at h3 |-;have hn:q.num≠0:=fun e=>by rw[e]at h5;simp[Nat.Coprime]at h5;exact hd h5
  have hm:0<m.length:=by omega
  have hg:q.num.natAbs.gcd q.den=1:=h5;simp[hm,hd,hg]
theorem a5d.val {s:Bool} {m d:List Nat} {q:Rat} (h:a5d s m d q):b1Y s m d=q:=by
 unfold b1Y;rw[if_pos h.valid];obtain⟨h1,h2⟩:=h;have h3:=a1e h2;rw[h1.val,h2.2.2];by_cases hd:q.den=1
 ·have:d.length=0:=by rw[h3];unfold dn;rw[if_pos hd]
  rw[if_pos this]
  conv=>rhs;rw[<-Rat.mkRat_self q]
  rw[hd]
 ·have e:dn q=q.den:=by unfold dn;rw[if_neg hd]
  have hl:d.length≠0:=by rw[e]at h3;have:=q.den_nz;omega
  rw[if_neg hl,e,Rat.mkRat_self]
theorem a5d.unique {s s':Bool} {m d m' d':List Nat} {q:Rat} (h:a5d s m d q) (h':a5d s' m' d' q):s=s'/\m=m'/\d=d':=
 ⟨h.1.1.trans h'.1.1.symm,h.1.2.unique h'.1.2,h.2.unique h'.2⟩
theorem a5d.zero:a5d false [] [] 0:=⟨a5b.zero,by simp[dn];exact a0E.nil⟩
theorem a5d.ofInt {s:Bool} {m:List Nat} {z:Int} (h:a5b s m z):a5d s m [] (z:Rat):=⟨by simpa using h,by simp[dn];exact a0E.nil⟩
theorem a3m {s:Bool} {m d:List Nat} (h:a1i s m d=false):b1Y s m d=0:=by unfold b1Y;rw[h];rfl
def hq (q:Rat):Nat:=max (lg q.num.natAbs) (lg q.den)
theorem a0x (q:Rat):lg q.num.natAbs<=hq q:=Nat.le_max_left _ _
theorem a0y (q:Rat):lg q.den<=hq q:=Nat.le_max_right _ _
theorem b5O (q:Rat):lg (dn q)<=hq q:=by
 unfold dn;split
 ·simp[a5x]
 ·exact a0y q
theorem a3f:lg 1=1:=a2P (by omega) (by omega)
theorem a6G {n:Nat} (h:0<n):1<=lg n:=b3N h
theorem a6h (q:Rat):1<=hq q:=Nat.le_trans (a6G q.den_pos) (a0y q)
theorem a8X (z:Int) (d k:Nat) (h1:lg z.natAbs<=k) (h2:lg d<=k) (hk:1<=k):hq (mkRat z d)<=k:=by
 by_cases hd:d=0
 ·subst hd;rw[Rat.mkRat_zero];unfold hq;simp[a5x,a3f];exact hk
 ·unfold hq
  rw[Rat.num_mkRat,Rat.den_mkRat,if_neg hd,if_neg hd];refine Nat.max_le.2 ⟨Nat.le_trans (a1b ?_) h1,Nat.le_trans (a1b (Nat.div_le_self _ _)) h2⟩;exact Int.natAbs_ediv_le_natAbs _ _
theorem b0A (x y:Rat):hq (x+y)<=hq x+hq y+1:=by
 rw[Rat.add_def'];refine a8X _ _ _ ?_ (Nat.le_trans (a0T _ _) (by have:=a0y x;have:=a0y y;omega)) (by omega);refine Nat.le_trans (a1b (Int.natAbs_add_le _ _)) ?_;refine Nat.le_trans (a8U _ _) ?_;rw[Int.natAbs_mul,Int.natAbs_mul,Int.natAbs_natCast,Int.natAbs_natCast];have a1:=a0T x.num.natAbs y.den;have a2:=a0T y.num.natAbs x.den;have:=a0x x;have:=a0x y;have:=a0y x;have:=a0y y;omega
theorem hq_mul (x y:Rat):hq (x*y)<=hq x+hq y:=by
 rw[Rat.mul_def'];refine a8X _ _ _ ?_ (Nat.le_trans (a0T _ _) (by have:=a0y x;have:=a0y y;omega)) (by have:=a6h x;omega);rw[Int.natAbs_mul];have:=a0T x.num.natAbs y.num.natAbs;have:=a0x x;have:=a0x y;omega
theorem a3P (x:Rat):hq (-x)=hq x:=by unfold hq;simp
theorem a6i (x y:Rat):hq (x - y)<=hq x+hq y+1:=by
 rw[Rat.sub_eq_add_neg,<-a3P y];exact b0A _ _
theorem a2k:hq 0=1:=by unfold hq;simp[a5x,a3f]
theorem b5P (x:Rat):hq x⁻¹<=hq x:=by
 by_cases h:x=0
 ·subst h;simp
 ·have hn:x.num≠0:=fun e=>h (Rat.num_eq_zero.1 e)
  unfold hq;rw[Rat.num_inv,Rat.den_inv,if_neg hn,Int.natAbs_mul,Int.natAbs_sign_of_ne_zero hn,Nat.one_mul,Int.natAbs_natCast,Nat.max_comm];exact Nat.le_refl _
theorem hq_div (x y:Rat):hq (x/y)<=hq x+hq y:=by
 rw[Rat.div_def];exact Nat.le_trans (hq_mul _ _) (by have:=b5P y;omega)
theorem a5z (z:Int) (k:Nat) (h:lg z.natAbs<=k) (hk:1<=k):hq (z:Rat)<=k:=by
 unfold hq;rw[Rat.num_intCast,Rat.den_intCast,a3f];exact Nat.max_le.2 ⟨h,hk⟩
theorem b0B (s:Bool) (m d:List Nat) (k:Nat) (hm:Dig m) (hd:Dig d) (h1:m.length<=k) (h2:d.length<=k) (hk:1<=k):hq (b1Y s m d)<=k:=by
 cases hv:a1i s m d
 ·rw[a3m hv,a2k];exact hk
 ·have hc:=a5d.of_valid hm hd hv
  have e1:=hc.1.len;have e2:=hc.2.len;unfold hq;refine Nat.max_le.2 ⟨by omega,?_⟩;unfold dn at e2;split at e2
  ·rename_i h;rw[h,a3f];exact hk
  ·omega
theorem a5d.lowest {s:Bool} {n d:List Nat} {z:Int} {k:Nat} (hk:k≠0) (hs:s=decide (z<0)) (hn:a0E n (z.natAbs/Nat.gcd z.natAbs k)) (hd:a0E d (k/Nat.gcd z.natAbs k)):a5d s n (if k/Nat.gcd z.natAbs k=1 then[]else d) (mkRat z k):=by
 have hg:0<Nat.gcd z.natAbs k:=Nat.gcd_pos_of_pos_right _ (by omega);have e1:(mkRat z k).num=z/(Nat.gcd z.natAbs k:Nat):=by rw[Rat.num_mkRat,if_neg hk,Nat.gcd_comm]
 have e2:(mkRat z k).den=k/Nat.gcd z.natAbs k:=by rw[Rat.den_mkRat,if_neg hk,Nat.gcd_comm]
 have hdv:((Nat.gcd z.natAbs k:Nat):Int)∣z:=Int.ofNat_dvd_left.2 (Nat.gcd_dvd_left _ _);have e3:(mkRat z k).num.natAbs=z.natAbs/Nat.gcd z.natAbs k:=by rw[e1,Int.natAbs_ediv_of_dvd hdv,Int.natAbs_natCast]
 refine⟨⟨?_,by rw[e3];exact hn⟩,?_⟩
 ·rw[hs,Bool.eq_iff_iff]
  simp only[decide_eq_true_eq];rw[e1];obtain⟨g,hgg⟩:∃g,Nat.gcd z.natAbs k=g:=⟨_,rfl⟩;rw[hgg]at hdv hg |-;obtain⟨c,rfl⟩:=hdv;rw[Int.mul_ediv_cancel_left _ (by omega)];constructor
  ·intro h
   by_cases h0:c<0
   ·exact h0
   ·have:=Int.mul_nonneg (Int.natCast_nonneg g) (show 0<=c by omega);omega
  ·intro h
   exact Int.mul_neg_of_pos_of_neg (by omega) h
 ·unfold dn
  rw[e2];split
  ·exact a0E.nil
  ·exact hd
end Go.Lim
namespace Go.Lin
open Go.Lim
def HB (B:Nat) (m:Mat):Prop:=∀i j,hq (ent m i j)<=B
theorem HB.pos {B:Nat} {m:Mat} (h:HB B m):1<=B:=Nat.le_trans (a6h _) (h 0 0)
theorem HB.mono {B C:Nat} {m:Mat} (h:HB B m) (hBC:B<=C):HB C m:=fun i j=>Nat.le_trans (h i j) hBC
theorem HB.swap {n c B:Nat} {m:Mat} (h:HB B m) (hs:Shp n c m) {i k:Nat} (hi:i<n) (hk:k<n):HB B (a0W m i k):=fun r j=>by
 rw[a2U hs hi hk];split
 ·exact h _ _
 ·split
  ·exact h _ _
  ·exact h _ _
theorem b4r {x y z u:Rat} {B:Nat} (hx:hq x<=B) (hy:hq y<=B) (hz:hq z<=B) (hu:hq u<=B):hq (y/z)<=2*B/\hq (y/z*u)<=3*B/\hq (x - y/z*u)<=5*B:=by
 have h1:=hq_div y z;have h2:=hq_mul (y/z) u;have h3:=a6i x (y/z*u);have h4:=a6h x;omega
theorem HB.clear {n c B:Nat} {m:Mat} (h:HB B m) (hs:Shp n c m) {t:Nat} (ht:t<n) (col s:Nat):HB (5*B) (clear m t col s):=fun i j=>by
 rw[a4f hs ht];split
 ·exact(b4r (h _ _) (h _ _) (h _ _) (h _ _)).2.2
 ·have:=h i j;omega
theorem HB.eN {n c B:Nat} {m:Mat} (h:HB B m) (hs:Shp n c m) (k:Nat):HB (5^(eN m k).2.1.length*B) (eN m k).1:=by
 induction k with
 |zero=>simpa[Lin.eN]using h
 |succ k ih=>
  have hk:=a9K hs k
  show HB (5^(a5v (Lin.eN m k) k).2.1.length*B) (a5v (Lin.eN m k) k).1
  generalize Lin.eN m k=s at ih hk |-;obtain⟨M,p,odd⟩:=s;have hM:Shp n c M:=hk.shp;have hl:=hM.1;have hle:p.length<=n:=hk.ech.le;unfold a5v
  dsimp only at ih |-
  split
  ·exact ih
  ·split
   ·exact ih
   ·rename_i e _ q hz
    obtain⟨h1,h2⟩:=a3j hz;have:=(ih.swap hM (show p.length<n by omega) (show p.length+q<n by omega)).clear (hM.swap (by omega) (by omega)) (show p.length<n by omega) k M.length;refine this.mono ?_;rw[List.length_append,List.length_singleton,Nat.pow_succ,Nat.mul_comm _ 5,Nat.mul_assoc];exact Nat.le_refl _
theorem HB.divL {n c B:Nat} {m:Mat} (h:HB B m) (hs:Shp n c m) {i:Nat} (hi:i<n) (col:Nat):HB (2*B) (divL m i col):=fun k j=>by
 rw[a3E hs hi];split
 ·have:=hq_div (ent m i j) (ent m i col);have:=h i j;have:=h i col;omega
 ·have:=h k j;omega
theorem b2r {x y z u:Rat} {B:Nat} (hx:hq x<=B) (hy:hq y<=B) (hz:hq z<=2*B) (hu:hq u<=2*B):hq (y/z)<=3*B/\hq (y/z*u)<=5*B/\hq (x - y/z*u)<=7*B:=by
 have h1:=hq_div y z;have h2:=hq_mul (y/z) u;have h3:=a6i x (y/z*u);have h4:=a6h x;omega
theorem HB.dStep {n c B:Nat} {m:Mat} (h:HB B m) (hs:Shp n c m) {t:Nat} (ht:t<n) (col s:Nat):HB (7*B) (above (Lin.divL m t col) t col s):=fun i j=>by
 have hd:=hs.divL ht col;have h2:=h.divL hs ht col;rw[a4g hd ht];split
 ·refine(b2r ?_ ?_ (h2 _ _) (h2 _ _)).2.2
  ·rw[a3E hs ht,if_neg (by omega)];exact h _ _
  ·rw[a3E hs ht,if_neg (by omega)];exact h _ _
 ·have:=h2 i j;omega
theorem HB.dN {n c B:Nat} {m:Mat} {p:List Nat} (h:HB B m) (hs:Shp n c m) (he:Ech n c (ent m) p) (t:Nat) (ht:t<=p.length):HB (7^t*B) (dN m p t):=by
 induction t with
 |zero=>simpa[Lin.dN]using h
 |succ t ih=>
  have hk:=b5L hs he t (by omega);have hle:=he.le;refine((ih (by omega)).dStep hk.shp (show t<n by omega) (p.getD t 0) t).mono ?_;rw[Nat.pow_succ,Nat.mul_comm _ 7,Nat.mul_assoc];exact Nat.le_refl _
theorem HB.pv {n c B:Nat} {m:Mat} (h:HB B m) (hs:Shp n c m) {i:Nat} (hi:i<n) (col:Nat):HB (3*B) (pv m i col):=fun k j=>by
 rw[b0r hs hi];split
 ·have h1:=hq_mul (ent m i j) (1/ent m i col);have h2:=hq_div 1 (ent m i col);have:=h i j;have:=h i col;have:=a6h (ent m i j)
  have h3:hq 1=1:=by decide+kernel
  omega
 ·have:=h k j;omega
theorem HB.out {n c B:Nat} {m:Mat} (h:HB B m) (hs:Shp n c m) {t:Nat} (ht:t<n) (col s:Nat):HB (6*B) (Lin.out (Lin.pv m t col) t col s):=fun i j=>by
 have hd:=hs.pv ht col;have h2:=h.pv hs ht col;rw[a8S hd ht];split
 ·rename_i a
  have e:∀j,ent (Lin.pv m t col) i j=ent m i j:=fun j=>by rw[b0r hs ht,if_neg a.1]
  rw[e,e];have h3:=hq_mul (ent (Lin.pv m t col) t j) (- ent m i col);have h4:=b0A (ent m i j) (ent (Lin.pv m t col) t j* - ent m i col);rw[a3P]at h3;have:=h2 t j;have:=h i j;have:=h i col;have:=h.pos;omega
 ·have:=h2 i j;omega
theorem HB.rN {n c B:Nat} {m:Mat} (h:HB B m) (hs:Shp n c m) (k:Nat):HB (6^(rN m k).2.1.length*B) (rN m k).1/\hq (rN m k).2.2<=6^(rN m k).2.1.length*B:=by
 induction k with
 |zero=>exact⟨by simpa[Lin.rN]using h,by simp[Lin.rN];exact h.pos⟩
 |succ k ih=>
  have hk:=a7Y hs k
  show HB (6^(a5w (Lin.rN m k) k).2.1.length*B) (a5w (Lin.rN m k) k).1/\hq (a5w (Lin.rN m k) k).2.2<=6^(a5w (Lin.rN m k) k).2.1.length*B
  generalize Lin.rN m k=s at ih hk |-;obtain⟨M,p,fac⟩:=s;have hM:Shp n c M:=hk.shp;have hl:=hM.1;have hle:p.length<=n:=hk.ref.le;unfold a5w
  dsimp only at ih |-
  split
  ·exact ih
  ·rename_i e q hz
   obtain⟨h1,h2⟩:=a3j hz;have hsw:=(ih.1.swap hM (show p.length+q<n by omega) (show p.length<n by omega));have:=hsw.out (hM.swap (by omega) (by omega)) (show p.length<n by omega) k M.length;have he:6*(6^p.length*B)=6^(p++[k]).length*B:=by
    rw[List.length_append,List.length_singleton,Nat.pow_succ,Nat.mul_comm _ 6,Nat.mul_assoc]
   refine⟨this.mono (Nat.le_of_eq he),?_⟩
   dsimp only
   rw[<-he];have h3:=hsw p.length k;have h4:hq (if q=0 then fac else -fac)<=6^p.length*B:=by
    split
    ·exact ih.2
    ·rw[a3P];exact ih.2
   have h5:=hq_mul (if q=0 then fac else -fac) (ent (a0W M (p.length+q) p.length) p.length k);omega
def b7p (m:Mat) (c:Nat):Prop:=∃B,7*B<=68719476736/\(∀j,j<=c->HB B (eN m j).1)/\∀t,t<=(eN m c).2.1.length->HB B (dN (eN m c).1 (eN m c).2.1 t)
theorem b5Q (a:Nat) {i n:Nat} (ha:0<a) (h:i<=n):a^i<=a^n:=Nat.pow_le_pow_right ha h
def a8c (m:Mat) (c:Nat):Prop:=∃B,7*B<=68719476736/\∀j,j<=c->HB B (eN m j).1
theorem b7p.e {m:Mat} {c:Nat} (h:b7p m c):a8c m c:=let ⟨B,h1,h2,_⟩:=h;⟨B,h1,h2⟩
theorem b2s {n c B:Nat} {m:Mat} (hs:Shp n c m) (h:HB B m) (hB:7*(5^n*B)<=68719476736):a8c m c:=
 ⟨5^n*B,hB,fun j _=>(h.eN hs j).mono (Nat.mul_le_mul_right _ (b5Q 5 (by omega) (a9K hs j).ech.le))⟩
end Go.Lin
