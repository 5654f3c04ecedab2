/- Parts of a proof: each theorem states what it proves, and its conditions. -/
import Derived.Test.YtidbbddagfnfbaaGreatSgI
import Derived.Deep.DrawnRows
import Derived.Deep.LoopGhost
import Derived.BigQuiet
namespace Go.Lin
open Go.Lim
def a1E (m:Mat) (n:Nat):Mat:=(List.range n).map fun i=>m.getD i []++(List.replicate n 0).set i 1
theorem a1F {m:Mat} {n:Nat} (a:Shp n n m):Shp n (2*n) (a1E m n):=⟨by simp[a1E],fun r b=>by
 obtain⟨i,hi,rfl⟩:=List.mem_map.1 b;rw[List.length_append,a.row (List.mem_range.1 hi),List.length_set,List.length_replicate];omega⟩
theorem a3l {m:Mat} {n:Nat} (b:Shp n n m) (i:Nat) (hi:i<n) (j:Nat) (d:j<2*n):ent (a1E m n) i j=if j<n then ent m i j else if j=n+i then 1 else 0:=by
 have c:=b.row hi;have e:(a1E m n).getD i []=m.getD i []++(List.replicate n 0).set i 1:=by simp[a1E,List.getD_eq_getElem?_getD,hi]
 unfold ent;rw[e,List.getD_eq_getElem?_getD];by_cases h:j<n
 ·rw[if_pos h,List.getElem?_append_left (by omega),<-List.getD_eq_getElem?_getD]
 ·rw[if_neg h,List.getElem?_append_right (by omega),c,List.getElem?_set]
  by_cases a:i=j - n
  ·rw[if_pos a,if_pos (show j=n+i by omega)]
   simp[show i<n from hi]
  ·rw[if_neg a,if_neg (show¬j=n+i by omega)]
   simp[show j - n<n by omega]
theorem b6d {m:Mat} {n:Nat} (b:Shp n n m):LI n (2*n) (ent (a1E m n)):=fun y c i hi=>by
 have a:=c (n+i) (by omega);unfold cmb at a;rw[a1A i hi fun q hq d=>by
  rw[a3l b q hq (n+i) (by omega),if_neg (by omega),if_neg (by omega)];grind]at a
 rw[a3l b i hi (n+i) (by omega),if_neg (by omega),if_pos rfl]at a;grind
theorem a7x {m:Mat} {n:Nat} (a:Shp n n m):(a1d (a1E m n) (2*n)).2.length=n:=by
 obtain⟨e,b,d,c⟩:=a1p (a1F a);exact(b6d a).full b c
theorem RE.cols {n c c':Nat} {f g:F2} {d:Rat} (h:RE n c f g d) (hc:c'<=c):RE n c' f g d:=by
 induction h with
 |same h=>exact .same fun i hi j hj=>h i hi j (by omega)
 |swap i k hi hk hik h1 h2 h3=>exact .swap i k hi hk hik (fun j hj=>h1 j (by omega)) (fun j hj=>h2 j (by omega)) (fun r hr a b j hj=>h3 r hr a b j (by omega))
 |scale i a hi ha h1 h3=>exact .scale i a hi ha (fun j hj=>h1 j (by omega)) (fun r hr a j hj=>h3 r hr a j (by omega))
 |add i k a hi hk hik h1 h3=>exact .add i k a hi hk hik (fun j hj=>h1 j (by omega)) (fun r hr a j hj=>h3 r hr a j (by omega))
 |trans _ _ ih1 ih2=>exact(ih1).trans (ih2)
def a6H (m:Mat) (n:Nat):Prop:=0<n/\n<=(a1d (a1E m n) (2*n)).2.getD (n - 1) 0
theorem b1g {m:Mat} {n:Nat} (a:Shp n n m):∃d,RE n n (ent m) (ent (a1d (a1E m n) (2*n)).1) d:=by
 obtain⟨f,e,d,b⟩:=a1p (a1F a);refine⟨d,(b.cols (show n<=2*n by omega)).congr fun i hi j c=>?_⟩;rw[a3l a i hi j (by omega),if_pos c]
theorem b1h {m:Mat} {n:Nat} (g:n<=4) (f:Shp n n m):a6H m n↔b9I m n=0:=by
 rw[a8k g f];obtain⟨r,c,_,q⟩:=a1p (a1F f);obtain⟨d,hd⟩:=b1g f;have a:=a7x f;have b:=hd.det_same g;have s:=hd.ne;obtain⟨⟨R,p⟩,u⟩:∃S,a1d (a1E m n) (2*n)=S:=⟨_,rfl⟩;unfold a6H;rw[u]at r c q hd a b |-
 dsimp only at r c q hd a b |-
 by_cases v:n=0
 ·subst v
  constructor
  ·intro h;omega
  ·intro h;exfalso;rw[c1m]at h;grind
 ·have l:n - 1<p.length:=by omega
  have e:p.getD (n - 1) 0=p[n - 1]:=by simp[List.getD_eq_getElem?_getD,l]
  rw[e];constructor
  ·rintro ⟨_,w⟩
   have k:det n (ent R)=0:=b0E g _ (n - 1) (by omega) fun j z=>c.left (n - 1) l j (by omega);rw[k]at b;rcases Rat.mul_eq_zero.1 b.symm with o|o
   ·exact absurd o s
   ·exact o
  ·intro h
   refine⟨by omega,Classical.byContradiction fun y=>?_⟩;have x:∀i (hi:i<p.length),p[i]<n:=fun i hi=>by
    by_cases t:i=n - 1
    ·subst t;omega
    ·have:=c.inc i (n - 1) (by omega) l;omega
   have k:det n (ent R)=1:=by rw[a1q (c.unit a x),b0F g]
   rw[k,h]at b;grind
noncomputable def a2J (m:Mat) (n:Nat):Mat:=(a1d (a1E m n) (2*n)).1.map (·.drop n)
theorem a2H {m:Mat} {n:Nat} (b:Shp n n m):Shp n n (a2J m n):=by
 obtain⟨a,_⟩:=a1p (a1F b);refine⟨by simp[a2J,a.1],fun r c=>?_⟩;obtain⟨x,hx,rfl⟩:=List.mem_map.1 c;rw[List.length_drop,a.2 x hx];omega
theorem b1i {m:Mat} {n:Nat} (b:Shp n n m) (i:Nat) (hi:i<n) (j:Nat):ent (a2J m n) i j=ent (a1d (a1E m n) (2*n)).1 i (n+j):=by
 obtain⟨c,_⟩:=a1p (a1F b);have a:i<(a1d (a1E m n) (2*n)).1.length:=by rw[c.1];exact hi
 unfold ent a2J;simp[List.getD_eq_getElem?_getD,a]
def a3C:F2:=fun i j=>if i=j then 1 else 0
theorem a9b {m:Mat} {n:Nat} (c:Shp n n m) (d:¬a6H m n):Eqm n n (ent (a1d (a1E m n) (2*n)).1) a3C:=by
 obtain⟨j,b,_,h⟩:=a1p (a1F c);have a:=a7x c;unfold a6H at d;refine b.unit a fun i hi=>?_;have f:n - 1<(a1d (a1E m n) (2*n)).2.length:=by omega
 have e:(a1d (a1E m n) (2*n)).2.getD (n - 1) 0=(a1d (a1E m n) (2*n)).2[n - 1]:=by simp[List.getD_eq_getElem?_getD,f]
 rw[e]at d;by_cases g:i=n - 1
 ·subst g;omega
 ·have:=b.inc i (n - 1) (by omega) f;omega
theorem b1j (n:Nat) (f:Nat->Rat):sm (2*n) f=sm n f+sm n fun j=>f (n+j):=by
 have key:∀k,sm (n+k) f=sm n f+sm k fun j=>f (n+j):=fun k=>by
  induction k with
  |zero=>show sm n f=sm n f+0;grind
  |succ k ih=>show sm (n+k) f+f (n+k)=sm n f+(sm k _+f (n+k));rw[ih];grind
 rw[show 2*n=n+n by omega];exact key n
theorem b1k {m:Mat} {n:Nat} (b:Shp n n m) (s:¬a6H m n):Eqm n n (mul n (ent m) (ent (a2J m n))) a3C:=by
 obtain⟨v,u,d,t⟩:=a1p (a1F b);have l:=a9b b s;intro i hi j p;have g:Nul n (2*n) (ent (a1d (a1E m n) (2*n)).1) (fun q=>if q<n then ent (a2J m n) q j else if q=n+j then -1 else 0):=fun r a=>by
  rw[b1j];have k:sm n (fun q=>ent (a1d (a1E m n) (2*n)).1 r q*(if q<n then ent (a2J m n) q j else if q=n+j then -1 else 0))=ent (a2J m n) r j:=by
   rw[a1A r a fun q hq f=>by rw[l r a q hq];unfold a3C;rw[if_neg (Ne.symm f)];grind];rw[l r a r a,if_pos a];unfold a3C;simp
  have c:sm n (fun q=>ent (a1d (a1E m n) (2*n)).1 r (n+q)*(if n+q<n then ent (a2J m n) (n+q) j else if n+q=n+j then -1 else 0))= - ent (a2J m n) r j:=by
   rw[a1A j p fun q hq e=>by rw[if_neg (by omega),if_neg (by omega)];grind];rw[if_neg (by omega),if_pos rfl,b1i b r a j];grind
  rw[k,c];grind
 have o:=(t.nul _).2 g i hi;rw[b1j]at o;have k:sm n (fun q=>ent (a1E m n) i q*(if q<n then ent (a2J m n) q j else if q=n+j then -1 else 0))=mul n (ent m) (ent (a2J m n)) i j:=a0g fun q hq=>by
  rw[a3l b i hi q (by omega),if_pos hq,if_pos hq]
 have c:sm n (fun q=>ent (a1E m n) i (n+q)*(if n+q<n then ent (a2J m n) (n+q) j else if n+q=n+j then -1 else 0))= - a3C i j:=by
  rw[a1A j p fun q hq e=>by rw[if_neg (show¬n+q<n by omega),if_neg (show¬n+q=n+j by omega)];grind];rw[if_neg (show¬n+j<n by omega),if_pos rfl,a3l b i hi (n+j) (by omega),if_neg (by omega)];unfold a3C;by_cases h:i=j
  ·subst h;simp
  ·rw[if_neg h,if_neg (show¬n+j=n+i by omega)];grind
 rw[k,c]at o;grind
theorem b0b {m:Mat} {n:Nat} (e:Shp n n m) (f:¬a6H m n) (z:Nat->Rat) (hz:Nul n n (ent m) z) (i:Nat) (hi:i<n):z i=0:=by
 obtain⟨d,hd⟩:=b1g e;have a:=(hd.nul z).1 hz i hi;have c:=a9b e f;rw[a1A i hi fun q hq b=>by rw[c i hi q hq];unfold a3C;rw[if_neg (Ne.symm b)];grind]at a;rw[c i hi i hi]at a;unfold a3C at a;simpa using a
theorem a9c (n:Nat) (f g h:F2) (i j:Nat):mul n f (mul n g h) i j=mul n (mul n f g) h i j:=by
 unfold mul;have a:sm n (fun k=>f i k*sm n fun q=>g k q*h q j)=sm n fun k=>sm n fun q=>f i k*g k q*h q j:=a0g fun k _=>by
  rw[<-a1z];exact a0g fun q _=>by grind
 have b:sm n (fun q=>(sm n fun k=>f i k*g k q)*h q j)=sm n fun q=>sm n fun k=>f i k*g k q*h q j:=a0g fun q _=>by
  rw[show(sm n fun k=>f i k*g k q)*h q j=h q j*sm n fun k=>f i k*g k q by grind,<-a1z];exact a0g fun k _=>by grind
 rw[a,b,a2x]
theorem b6e {m:Mat} {n:Nat} (d:Shp n n m) (c:¬a6H m n):Eqm n n (mul n (ent (a2J m n)) (ent m)) a3C:=by
 intro i hi j l;have k:=b1k d c;have o:=b0b d c (fun q=>mul n (ent (a2J m n)) (ent m) q j - a3C q j) (fun r e=>by
  have f:sm n (fun q=>ent m r q*(mul n (ent (a2J m n)) (ent m) q j - a3C q j))=mul n (ent m) (mul n (ent (a2J m n)) (ent m)) r j - ent m r j:=by
   rw[a0g (g:=fun q=>ent m r q*mul n (ent (a2J m n)) (ent m) q j - ent m r q*a3C q j) fun q _=>by grind,a7f]
   congr 1
   rw[a1A j l fun q hq b=>by unfold a3C;rw[if_neg b];grind];unfold a3C;simp
  rw[f,a9c];have h:mul n (mul n (ent m) (ent (a2J m n))) (ent m) r j=ent m r j:=by
   show(sm n fun q=>mul n (ent m) (ent (a2J m n)) r q*ent m q j)=_
   rw[a0g (g:=fun q=>a3C r q*ent m q j) fun q hq=>by rw[k r e q hq]];rw[a1A r e fun q hq a=>by unfold a3C;rw[if_neg (Ne.symm a)];grind];unfold a3C;simp
  rw[h];grind) i hi
 grind
def fn (l:List Rat):Nat->Rat:=fun i=>l.getD i 0
def gmL (x:Mat) (n c:Nat):Mat:=ofF c c (gr n (ent x))
def gyL (x:Mat) (y:List Rat) (n c:Nat):List Rat:=(List.range c).map (gy n (ent x) (fn y))
theorem a2P (x:Mat) (n c:Nat):Shp c c (gmL x n c):=a9B _ _ _
theorem a6I (x:Mat) (n c:Nat):Eqm c c (ent (gmL x n c)) (gr n (ent x)):=b2u c c _
theorem b0c (x:Mat) (y:List Rat) (n c:Nat):(gyL x y n c).length=c:=by simp[gyL]
theorem a8l (x:Mat) (y:List Rat) (n c:Nat) {i:Nat} (hi:i<c):(gyL x y n c).getD i 0=gy n (ent x) (fn y) i:=by
 simp[gyL,List.getD_eq_getElem?_getD,hi]
noncomputable def lsS (x:Mat) (y:List Rat) (n c:Nat):Mat×List Nat:=a1d (a2W (gmL x n c) (gyL x y n c) c) (c+1)
noncomputable def a1L (x:Mat) (y:List Rat) (n c:Nat):List Rat:=b7v (lsS x y n c).1 (lsS x y n c).2 c
theorem a4e (x:Mat) (y:List Rat) (n c:Nat):(a1L x y n c).length=c:=b0a _ _ _
theorem NS.congr {n c:Nat} {f f':F2} {y g b b':Nat->Rat} (h:NS n c f y b) (e:Eqm n c f f') (o:∀i,i<n->y i=g i) (m:∀j,j<c->b j=b' j):NS n c f' g b':=fun i hi=>by
 have k:∀j,j<c->gr n f i j=gr n f' i j:=fun j d=>a0g fun r a=>by rw[e r a i hi,e r a j d]
 have l:gy n f y i=gy n f' g i:=a0g fun r a=>by rw[e r a i hi,o r a]
 rw[<-l,<-h i hi];exact a0g fun j d=>by rw[k j d,m j d]
theorem a6J {x:Mat} {y:List Rat} {n c:Nat} (l:Shp n c x):
  c∉(lsS x y n c).2/\(lsS x y n c).2=(a1d x c).2/\NS n c (ent x) (fn y) (fn (a1L x y n c))/\∀j,j<c->j∉(a1d x c).2->fn (a1L x y n c) j=0:=by
 obtain⟨_,q,e,m⟩:=a1p l;obtain⟨_,k,_⟩:=a1p (a2m (b:=gyL x y n c) (a2P x n c));obtain⟨d,hd⟩:=b6c (b:=gyL x y n c) (a2P x n c);have f:RE c (c+1) (a3d c (gr n (ent x)) (gy n (ent x) (fn y))) (ent (lsS x y n c).1) d:=hd.congr fun i hi j a=>by
  unfold a3d;by_cases h:j=c
  ·rw[if_pos h,if_pos h];exact(a8l x y n c hi).symm
  ·rw[if_neg h,if_neg h,a6I x n c i hi j (by omega)]
 obtain⟨o,p,r⟩:=b8U q m k f;have g:∀j,j<c->fn (a1L x y n c) j=b2v (ent (lsS x y n c).1) (lsS x y n c).2 c j:=fun j a=>b0Z k j a;refine⟨b3x k f,o,p.congr (fun _ _ _ _=>rfl) (fun _ _=>rfl) (fun j a=>(g j a).symm),fun j a s=>?_⟩;rw[g j a];exact r j a s
theorem c0C {x:Mat} {n c:Nat} (b:Shp n c x):(a1d (gmL x n c) c).2=(a1d x c).2:=by
 obtain⟨_,f,e,g⟩:=a1p b;obtain⟨_,h,d,hd⟩:=a1p (a2P x n c);refine h.piv2 f fun v=>?_;have a:Nul c c (ent (gmL x n c)) v↔Nul c c (gr n (ent x)) v:=(RE.same (a6I x n c)).nul v;exact((hd.nul v).symm.trans a).trans (a8Z.trans (g.nul v))
theorem a8m {l m:List Rat} {c:Nat} (h:l.length=c):a2l l m=sm c fun q=>l.getD q 0*m.getD q 0:=by
 unfold a2l;rw[a6A,h]
theorem b0d {x:Mat} {i:Nat} (hi:i<x.length):x[i]=x.getD i []:=by simp[List.getD_eq_getElem?_getD,hi]
def a3G (x:Mat) (y b:List Rat):List Rat:=List.zipWith (fun r v=>v - a2l r b) x y
theorem a5i {x:Mat} {y b:List Rat} (h:y.length=x.length):(a3G x y b).length=x.length:=by simp[a3G,h]
theorem a6K {x:Mat} {y b:List Rat} {i:Nat} (h:i<(a3G x y b).length) (c:i<x.length) (a:i<y.length):(a3G x y b)[i]=y[i] - a2l x[i] b:=by simp[a3G]
theorem b6f {x:Mat} {y b:List Rat} {n c:Nat} (d:Shp n c x) (j:y.length=n) {i:Nat} (hi:i<n):fn (a3G x y b) i=fn y i - app c (ent x) (fn b) i:=by
 have a:i<x.length:=by rw[d.1];exact hi
 have e:i<y.length:=by omega
 have f:i<(a3G x y b).length:=by rw[a5i (by rw[j,d.1])];exact a
 have g:fn (a3G x y b) i=(a3G x y b)[i]:=by simp[fn,List.getD_eq_getElem?_getD,f]
 have h:fn y i=y[i]:=by simp[fn,List.getD_eq_getElem?_getD,e]
 rw[g,h,a6K f a e,a8m (d.2 _ (List.getElem_mem a)),b0d a];rfl
theorem a4f {l m:List Rat} {n:Nat} (h:l.length=n):a2l l m=sm n fun i=>fn l i*fn m i:=a8m h
def pkL (x:Mat) (p:List Nat):Mat:=x.map fun r=>p.map fun j=>r.getD j 0
theorem b3z (x:Mat) (p:List Nat):(pkL x p).length=x.length:=by simp[pkL]
theorem b8V {x:Mat} {n c:Nat} (a:Shp n c x) (p:List Nat):Shp n p.length (pkL x p):=⟨by rw[b3z];exact a.1,fun r b=>by
 obtain⟨s,_,rfl⟩:=List.mem_map.1 b;simp⟩
theorem b3A {x:Mat} {n c:Nat} (d:Shp n c x) (p:List Nat):Eqm n p.length (ent (pkL x p)) (usd (ent x) p):=fun i hi a b=>by
 have e:i<x.length:=by rw[d.1];exact hi
 simp[ent,pkL,usd,List.getD_eq_getElem?_getD,e,b]
def a2a (u:Mat) (n m:Nat):Mat:=b0S (trL u n m) u n m
theorem a0V (u:Mat) (n m:Nat):Shp m m (a2a u n m):=b5L (a1Y u n m).1
theorem a9d (u:Mat) (n m:Nat):Eqm m m (ent (a2a u n m)) (gr n (ent u)):=fun i hi j a=>by
 unfold a2a;rw[b5M (a1Y u n m) i hi j a];exact a0g fun k b=>by rw[a8d u n m i hi k b]
theorem b6g {n c:Nat} {g:F2} {p:List Nat} (d:Rref n c g p) (h:∀z,Nul n c g z->∀a,a<c->z a=0):p.length=c:=by
 have o:∀j,j<c->j∈p:=fun j b=>Classical.byContradiction fun l=>by
  have:=h _ (d.nv_nul l b) j b;rw[a3I]at this;grind
 have f:(List.range c).length<=p.length:=(List.nodup_range).length_le_of_subset fun j b=>o j (List.mem_range.1 b);have e:p.Nodup:=d.pw.imp fun h=>Nat.ne_of_lt h;have i:p.length<=(List.range c).length:=e.length_le_of_subset fun j b=>by
  obtain⟨k,m,rfl⟩:=List.getElem_of_mem b;exact List.mem_range.2 (d.lt k m)
 rw[List.length_range]at f i;omega
theorem c0D {G:Mat} {H:F2} {m:Nat} (j:m<=4) (e:Shp m m G) (h:Eqm m m (ent G) H) (l:∀z,Nul m m H z->∀a,a<m->z a=0):¬a6H G m/\Inv m H (ent (a2J G m)):=by
 have c:¬a6H G m:=by
  rw[b1h j e];refine(b3v j e).1 ?_;obtain⟨_,n,d,hd⟩:=a1p e;exact b6g n fun z hz=>l z ((RE.same h).nul z|>.1 ((hd.nul z).2 hz))
 refine⟨c,fun a g b f=>?_,fun a g b f=>?_⟩
 ·have:=b1k e c a g b f
  rw[show(if a=b then(1:Rat)else 0)=a3C a b from rfl,<-this];exact a0g fun k i=>by rw[h a g k i]
 ·have:=b6e e c a g b f
  rw[show(if a=b then(1:Rat)else 0)=a3C a b from rfl,<-this];exact a0g fun k i=>by rw[h k i b f]
theorem Nul.congr {n c:Nat} {f f':F2} {x:Nat->Rat} (h:Nul n c f x) (e:Eqm n c f f'):Nul n c f' x:=((RE.same e).nul x).1 h
theorem b3B {x:Mat} {n c:Nat} (b:Shp n c x) (h:(a1d x c).2.length<=4):
  ¬a6H (a2a (pkL x (a1d x c).2) n (a1d x c).2.length) (a1d x c).2.length/\Inv (a1d x c).2.length (gr n (ent (pkL x (a1d x c).2))) (ent (a2J (a2a (pkL x (a1d x c).2) n (a1d x c).2.length) (a1d x c).2.length)):=by
 obtain⟨_,f,e,g⟩:=a1p b;refine c0D h (a0V _ _ _) (a9d _ _ _) fun z hz a d=>?_;exact c0y f g ((a8Z.1 hz).congr (b3A b _)) a d
theorem b7y {x:Mat} {n c:Nat} (d:Shp n c x):(a1d x c).2.length<=c:=by
 obtain⟨_,b,_⟩:=a1p d;have a:(a1d x c).2.Nodup:=b.pw.imp fun h=>Nat.ne_of_lt h;have e:(a1d x c).2.length<=(List.range c).length:=a.length_le_of_subset fun j g=>by
  obtain⟨k,f,rfl⟩:=List.getElem_of_mem g;exact List.mem_range.2 (b.lt k f)
 rwa[List.length_range]at e
noncomputable def bU (u:Mat) (y:List Rat) (n m:Nat):List Rat:=a3j (a2J (a2a u n m) m) (a3j (trL u n m) y)
noncomputable def a7c (x:Mat) (y:List Rat) (n c:Nat):List Rat:=(List.range c).map (b4K (a1d x c).2 (fn (bU (pkL x (a1d x c).2) y n (a1d x c).2.length)))
theorem b3C {u:Mat} {y:List Rat} {n m:Nat}:(bU u y n m).length=m:=by
 unfold bU;rw[a4X];exact(a2H (a0V u n m)).1
theorem c0E {u:Mat} {y:List Rat} {n m:Nat} {a:Nat} (d:a<m):fn (bU u y n m) a=sm m fun b=>ent (a2J (a2a u n m) m) a b*gy n (ent u) (fn y) b:=by
 unfold bU fn;rw[a9R (a2H (a0V u n m)) a d];refine a0g fun b c=>?_;rw[a9R (a1Y u n m) b c]
 congr 1
 exact a0g fun k e=>by rw[a8d u n m b c k e]
theorem b6h {x:Mat} {y:List Rat} {n c:Nat} (b:Shp n c x) (q:c<=4):a7c x y n c=a1L x y n c:=by
 obtain⟨_,g,e,d⟩:=a1p b;obtain⟨_,_,p,m⟩:=a6J (y:=y) b;obtain⟨_,i⟩:=b3B b (Nat.le_trans (b7y b) q);have k:=(c0A i (fn y)).congr (b3A b _) (fun _ _=>rfl) (fun a o=>(c0E (u:=pkL x (a1d x c).2) (y:=y) (n:=n) o).symm);have l:=c0z g d k;refine a6G (n:=c) (by simp[a7c]) (a4e _ _ _ _) fun j f=>?_;have h:(a7c x y n c).getD j 0=b4K (a1d x c).2 (fn (bU (pkL x (a1d x c).2) y n (a1d x c).2.length)) j:=by
  simp[a7c,List.getD_eq_getElem?_getD,f]
 rw[h];exact c0v g d l p (fun j _ r=>a5h _ r) m j f
noncomputable def a8u (u:Mat) (n m:Nat):List Rat:=u.map fun r=>a2l r (a3j (a2J (a2a u n m) m) r)
theorem a8n (u:Mat) (n m:Nat):(a8u u n m).length=u.length:=by simp[a8u]
theorem a9e {u:Mat} {n m i:Nat} (hi:i<u.length) (h:i<(a8u u n m).length):(a8u u n m)[i]=a2l u[i] (a3j (a2J (a2a u n m) m) u[i]):=by simp[a8u]
theorem b6i {u:Mat} {n m:Nat} (d:Shp n m u) {i:Nat} (hi:i<n):fn (a8u u n m) i=hat m (ent u) (ent (a2J (a2a u n m) m)) i i:=by
 have b:i<u.length:=by rw[d.1];exact hi
 have c:i<(a8u u n m).length:=by rw[a8n];exact b
 have f:fn (a8u u n m) i=(a8u u n m)[i]:=by simp[fn,List.getD_eq_getElem?_getD,c]
 rw[f,a9e b c,a8m (d.2 _ (List.getElem_mem b)),b0d b];refine a0g fun a e=>?_;rw[a9R (a2H (a0V u n m)) a e];rfl
theorem b3D {u:Mat} {n:Nat} (a:Shp n 0 u):a8u u n 0=List.replicate n 0:=by
 refine a6G (n:=n) (by rw[a8n];exact a.1) List.length_replicate fun i hi=>?_;have:=b6i a hi;unfold fn at this;rw[this,List.getD_eq_getElem?_getD,List.getElem?_replicate,if_pos hi];rfl
theorem b3E {x:Mat} {y b:List Rat} {n c:Nat} (a:Shp n c x) (d:y.length=n):a2l (a3G x y b) (a3G x y b)=sm n fun r=>(fn y r - app c (ent x) (fn b) r)*(fn y r - app c (ent x) (fn b) r):=by
 rw[a4f (n:=n) (by rw[a5i (by rw[d,a.1]),a.1])];exact a0g fun r e=>by rw[b6f a d e]
theorem b3F {x:Mat} {y:List Rat} {n c:Nat} (a:Shp n c x) (d:y.length=n) (b:List Rat):a2l (a3G x y (a1L x y n c)) (a3G x y (a1L x y n c))<=a2l (a3G x y b) (a3G x y b):=by
 obtain⟨_,_,e,_⟩:=a6J (y:=y) a;rw[b3E a d,b3E a d];exact b6b e _
theorem b8W {x:Mat} {y:List Rat} {n c:Nat} (a:Shp n c x) (b:y.length=n):a2l (a3G x y (a1L x y n c)) (a3G x y (a1L x y n c))=a2l y y - a2l (a1L x y n c) (gyL x y n c):=by
 obtain⟨_,_,d,_⟩:=a6J (y:=y) a;rw[b3E a b,c0w d,a4f b,a4f (a4e x y n c)]
 congr 1
 exact a0g fun j e=>by rw[show fn (gyL x y n c) j=_ from a8l x y n c e]
structure Mom where
 n:Int
 xx:Mat
 xy:List Rat
 yy:Rat
def shM (m:Mom) (row:List Rat) (v:Rat) (s:Int):Mom:=
 ⟨m.n+s,ofF row.length row.length fun j k=>ent m.xx j k+(s:Rat)*fn row j*fn row k,(List.range row.length).map fun j=>fn m.xy j+(s:Rat)*fn row j*v,m.yy+(s:Rat)*(v*v)⟩
def gmM (x:Mat) (y:List Rat) (c i:Nat):Mom:=⟨(i:Int),gmL x i c,gyL x y i c,sm i fun r=>fn y r*fn y r⟩
theorem a2Q {α:Type} {c:Nat} {f g:Nat->α} (h:∀j,j<c->f j=g j):(List.range c).map f=(List.range c).map g:=
 List.map_congr_left fun j a=>h j (List.mem_range.1 a)
theorem b3G {n c:Nat} {f g:F2} (h:Eqm n c f g):ofF n c f=ofF n c g:=
 a2Q fun i hi=>a2Q fun j a=>h i hi j a
theorem b6j (x:Mat) (y:List Rat) (c:Nat):gmM x y c 0=⟨0,List.replicate c (List.replicate c 0),List.replicate c 0,0⟩:=by
 have e:∀(α:Type) (a:α),(List.range c).map (fun _=>a)=List.replicate c a:=fun α a=>by simp[List.map_const']
 unfold gmM gmL gyL ofF
 congr 1
 ·rw[<-e,<-e];rfl
 ·rw[<-e];rfl
theorem b6k {x:Mat} {y:List Rat} {n c i:Nat} (b:Shp n c x) (hi:i<n):shM (gmM x y c i) (x.getD i []) (y.getD i 0) 1=gmM x y c (i+1):=by
 have e:(x.getD i []).length=c:=b.row hi;have one:((1:Int):Rat)=1:=rfl;unfold shM gmM;rw[e]
 congr 1
 ·exact b3G fun j a k d=>by
   show ent (gmL x i c) j k+_=gr (i+1) (ent x) j k
   rw[a6I x i c j a k d]
   show gr i (ent x) j k+((1:Int):Rat)*ent x i j*ent x i k=gr i (ent x) j k+ent x i j*ent x i k
   rw[one];grind
 ·exact a2Q fun j a=>by
   show(gyL x y i c).getD j 0+_=gy (i+1) (ent x) (fn y) j
   rw[a8l x y i c a]
   show gy i (ent x) (fn y) j+((1:Int):Rat)*ent x i j*fn y i=gy i (ent x) (fn y) j+ent x i j*fn y i
   rw[one];grind
 ·show sm i (fun r=>fn y r*fn y r)+((1:Int):Rat)*(fn y i*fn y i)=_
  rw[one]
  show _=sm i (fun r=>fn y r*fn y r)+fn y i*fn y i
  grind
def atI (s:List Int) (j:Nat):Nat:=(s.getD j 0).toNat
theorem a6L {s:List Int} {j:Nat} (h:j<s.length):atI s j=s[j].toNat:=by simp[atI,List.getD_eq_getElem?_getD,h]
theorem a4g {x:Mat} {n c:Nat} (a:Shp n c x) (s:List Int):Shp n s.length (a1c x s):=
 ⟨by rw[a4d];exact a.1,fun r b=>by obtain⟨q,_,rfl⟩:=List.mem_map.1 b;exact a4c _ _⟩
theorem a9f {x:Mat} {n c:Nat} (a:Shp n c x) (s:List Int):Eqm n s.length (ent (a1c x s)) fun i j=>ent x i (atI s j):=fun i hi j d=>by
 have b:i<x.length:=by rw[a.1];exact hi
 simp[ent,a1c,a2O,atI,List.getD_eq_getElem?_getD,b,d]
theorem b8X {x:Mat} {n c:Nat} (d:Shp n c x) {s:List Int} (h:∀v∈s,0<=v/\v<(c:Int)):a1c (a2V (gmL x n c) s) s=gmL (a1c x s) n s.length:=by
 have e:=a9f d s;have hat:∀j,j<s.length->atI s j<c:=fun j a=>by
  have:=h s[j] (List.getElem_mem _);rw[a6L a];omega
 refine List.ext_getElem (by simp[a1c,a2V,gmL,ofF]) fun i l p=>?_;have hi:i<s.length:=by simpa[a1c,a2V]using l
 refine List.ext_getElem (by simp[a1c,a2O,gmL,ofF]) fun j k o=>?_;have a:j<s.length:=by simpa[a1c,a2O]using k
 have f:=a6I x n c (atI s i) (hat i hi) (atI s j) (hat j a);have g:(a1c (a2V (gmL x n c) s) s)[i][j]=ent (gmL x n c) (atI s i) (atI s j):=by
  rw[a6L hi,a6L a];simp[a1c,a2V,a2O,ent]
 have m:(gmL (a1c x s) n s.length)[i][j]=gr n (ent (a1c x s)) i j:=by simp[gmL,ofF]
 rw[g,m,f];exact a0g fun r b=>by rw[e r b i hi,e r b j a]
theorem b8Y {x:Mat} {y:List Rat} {n c:Nat} (a:Shp n c x) {s:List Int} (f:∀v∈s,0<=v/\v<(c:Int)):a2O (gyL x y n c) s=gyL (a1c x s) y n s.length:=by
 have e:=a9f a s;refine List.ext_getElem (by simp[a2O,gyL]) fun i h k=>?_;have hi:i<s.length:=by simpa[a2O]using h
 have hat:atI s i<c:=by
  have:=f s[i] (List.getElem_mem _);rw[a6L hi];omega
 have b:=a8l x y n c hat;have d:(a2O (gyL x y n c) s)[i]=(gyL x y n c).getD (atI s i) 0:=by rw[a6L hi];simp[a2O]
 have j:(gyL (a1c x s) y n s.length)[i]=gy n (ent (a1c x s)) (fn y) i:=by simp[gyL]
 rw[d,j,b];exact a0g fun r g=>by rw[e r g i hi]
noncomputable def a6b (x:Mat) (y:List Rat) (n:Nat) (s:List Int):Rat:=a2l (a3G (a1c x s) y (a1L (a1c x s) y n s.length)) (a3G (a1c x s) y (a1L (a1c x s) y n s.length))
theorem a8o {x:Mat} {y:List Rat} {n c:Nat} (a:Shp n c x) (b:y.length=n) (s:List Int):a6b x y n s=a2l y y - a2l (a1L (a1c x s) y n s.length) (gyL (a1c x s) y n s.length):=b8W (a4g a s) b
open Go.Rep
def a6c (x:Mat) (y:List Rat):Bool:=decide (1<=x.length/\x.length<=64/\y.length=x.length)&&a6z x 1 12
end Go.Lin
namespace Go.Proofs.YtidbbddagfnfbaaGreat
open Go.RowKit Go.Rep Go.Lim Go.Lin
set_option maxRecDepth 100000 in
theorem a6M (X:Nat->Bool) (w:World) (u v:Value) (x:Mat) (y:List Rat) (q:MV (mk X w) u x) (C:RV (mk X w) v y) (h:x.length<=1099511627776) (_hyl:y.length<=1099511627776):
  Calls Tryz.prog 76 #[u,v] w (fun e w'=>w'=w/\e= .returned (.bool (a6c x y))):=by
 have d:=b3b X w u x 1 12 q h;obtain⟨E,D,rfl,p,l⟩:=q;obtain⟨H,F,rfl,i,k⟩:=C;have hd:a6c x y=(decide (1<=x.length/\x.length<=64/\y.length=x.length)&&a6z x 1 12):=rfl;obtain⟨b,s⟩:∃b,a6z x 1 12=b:=⟨_,rfl⟩;obtain⟨r,t⟩:∃r,a6c x y=r:=⟨_,rfl⟩;rw[s]at d hd;rw[t]at hd |-;obtain⟨n,j⟩:∃n,x.length=n:=⟨_,rfl⟩;obtain⟨m,o⟩:∃m,y.length=m:=⟨_,rfl⟩;rw[j,o]at hd;rw[j]at d h |-;rw[o]at _hyl |-;have c:=hid hd;clear j o s t l k p i hd;by_cases z:1<=n
 ·by_cases f:n<=64
  ·by_cases a:m=n
   ·have B:b=r:=by rw[c.out];simp[z,f,a]
    have A:((m:Int)==(n:Int))=true:=by rw[a];simp
    clear a;go_enter Tryz.func76,Tryz.ntmps76
    go_wp2_with fail
    refine d.mono ?_;rintro e G ⟨rfl,rfl⟩;go_wp2_with fail
    go_ret
    exact⟨rfl,rfl⟩
   ·have g:r=false:=by rw[c.out];simp[a]
    have A:((m:Int)==(n:Int))=false:=a2w (by omega);clear a;subst g;go_enter Tryz.func76,Tryz.ntmps76
    go_wp2_with fail
    go_ret
    exact⟨rfl,rfl⟩
  ·have g:r=false:=by rw[c.out];simp[f]
   subst g;go_enter Tryz.func76,Tryz.ntmps76
   go_wp2_with fail
   go_ret
   exact⟨rfl,rfl⟩
 ·have g:r=false:=by rw[c.out];simp[z]
  subst g;go_enter Tryz.func76,Tryz.ntmps76
  go_wp2_with fail
  go_ret
  exact⟨rfl,rfl⟩
end Go.Proofs.YtidbbddagfnfbaaGreat
namespace Go.Rep
open Go.RowKit Go.Lim
def BlR:Mem->Value->Bool->Prop:=fun _ u b=>u= .bool b
theorem BlR.mono:a3E BlR:=fun _ _ _ _ _ h=>h
theorem BlR.elem:Elem BlR 1:=⟨fun _ _ _ _ _ h=>h,by rintro h u x rfl;rfl,by
 rintro h u x rfl c a;simp[a0i,Value.cells]at a;subst a;rfl,Nat.one_pos⟩
theorem BlR.one:a3u BlR:=by rintro h u x rfl;rfl
theorem Sl.bl {h:Mem} {ao:Option Addr} {l:List Bool} (s:Sl BlR 1 h ao l) (i:Nat) (hi:i<l.length):h (adr ao i)=some (.bool l[i]):=by
 obtain⟨u,a,rfl⟩:=s.cell BlR.one i hi;exact a
def usedL (p:List Nat) (c:Nat):List Bool:=(List.range c).map fun j=>decide (j∈p)
theorem a3m (p:List Nat) (c:Nat):(usedL p c).length=c:=by simp[usedL]
theorem b1Q (p:List Nat) (c:Nat):usedL p (c+1)=usedL p c++[decide (c∈p)]:=by simp[usedL,List.range_succ]
def b9J (A:Mem->Value->List (List Rat)->Prop) (B:Mem->Value->List Rat->Prop) (C:Mem->Value->Rat->Prop) (h:Mem) (u:Value) (m:Go.Lin.Mom):Prop:=
 ∃xo xl xc yo yl yc s a n c d k e,u= .agg #[.int .i64 m.n, .slice xo xl xc, .slice yo yl yc, .bool s, .slice a n c, .slice d k e]/\A h (.slice xo xl xc) m.xx/\B h (.slice yo yl yc) m.xy/\C h (.agg #[.bool s, .slice a n c, .slice d k e]) m.yy
def b3H:=b9J MV RV QV
def a6N:=b9J MC RC QC
theorem b9J.mono {A:Mem->Value->List (List Rat)->Prop} {B:Mem->Value->List Rat->Prop} {C:Mem->Value->Rat->Prop} (g:a3E A) (f:a3E B) (l:a3E C):a3E (b9J A B C):=by
 rintro h x u m b ⟨i,q,o,r,t,j,s,a,n,c,d,k,e,rfl,w,p,v⟩;exact⟨i,q,o,r,t,j,s,a,n,c,d,k,e,rfl,g _ _ _ _ b w,f _ _ _ _ b p,l _ _ _ _ b v⟩
theorem b3H.mono:a3E b3H:=b9J.mono MV.mono RV.mono QV.mono
theorem a6N.mono:a3E a6N:=b9J.mono MC.mono RC.mono QC.mono
def BMo (B:Nat) (m:Go.Lin.Mom):Prop:=BM B m.xx/\BR B m.xy/\hq m.yy<=B
theorem a6N.mv {h:Mem} {u:Value} {m:Go.Lin.Mom} (s:a6N h u m) (b:BMo 68719476736 m):b3H h u m:=by
 obtain⟨f,l,i,o,p,g,s,a,n,c,d,k,e,rfl,r,j,q⟩:=s;exact⟨f,l,i,o,p,g,s,a,n,c,d,k,e,rfl,r.mv b.1,j.rv b.2.1,q.qv b.2.2⟩
end Go.Rep
namespace Go.Lin
structure Fit where
 rank:Nat
 used:List Bool
 coef:List Rat
 res:List Rat
 rss:Rat
 lev:List Rat
end Go.Lin
namespace Go.Rep
def c1I (h:Mem) (v:Value) (f:Go.Lin.Fit):Prop:=
 ∃uo uc co cl cc ro rl rc s a n c d k e lo ll lc,v= .agg #[.int .i64 (f.rank:Int), .slice uo f.used.length uc, .slice co cl cc, .slice ro rl rc, .bool s, .slice a n c, .slice d k e, .slice lo ll lc]/\f.used.length<=uc/\Sl BlR 1 h uo f.used/\RC h (.slice co cl cc) f.coef/\RC h (.slice ro rl rc) f.res/\QC h (.agg #[.bool s, .slice a n c, .slice d k e]) f.rss/\RC h (.slice lo ll lc) f.lev
theorem c1I.mono:a3E c1I:=by
 rintro h A u f b ⟨p,g,co,y,i,q,t,r,s,a,n,c,d,k,e,lo,j,m,rfl,v,z,w,x,o,l⟩;exact⟨p,g,co,y,i,q,t,r,s,a,n,c,d,k,e,lo,j,m,rfl,v,z.mono BlR.mono b,RC.mono _ _ _ _ b w,RC.mono _ _ _ _ b x,QC.mono _ _ _ _ b o,RC.mono _ _ _ _ b l⟩
open Go.RowKit Go.Lim
theorem a2n {X:Nat->Bool} {w w':World} {g:Nat} (b:Ext w w') (c:w.heap.size<=g):Le (mk X w) (mk (un X (some ⟨g,0,none⟩)) w'):=
 a0T b (fun k _ a=>by simp[noY]at a) fun k a hz=>by
  by_cases hx:X k=true
  ·exact hx
  ·have:g=k:=by simpa[un,hx,ob]using hz
   omega
theorem a1e {X:Nat->Bool} {w:World} {g:Nat} (a:HX X w) (c:g<w.heap.size):HX (un X (some ⟨g,0,none⟩)) w:=fun k b=>by
 by_cases hx:X k=true
 ·exact a k hx
 ·have:g=k:=by simpa[un,hx,ob]using b
  omega
section
variable {P:Program} {ops:Array Oper} {Q:Exit->Act->World->Prop} {rest:List Oper} {a:Act} {w:World}
variable {d:Option Tmp} {ty:TypeId} {ps:String} {af:Array Edge}
theorem a0A {o:Oper} {K:Act->World->Prop} {E:Prop} {t:TypeId} {x y:Operand} {n b:Nat} {h d:Array Value} {T:TypeId} (q:o.guard=none) (g:o.op= .store t x y) (j:a1D P t n) (hx:a.eval x= .pointer (some ⟨b,0,none⟩)) (p:a.eval y= .agg d) (k:Bx w b h T) (f:h.size=n) (e:d.size=n) (c:∀v∈d.toList,v.oneCell'=true)
  (i:∀w',Bx w' b d T->ExtX (ob (some ⟨b,0,none⟩)) w w'->K (a.put o.dst undef) w'):
  if Region.wanted o (yielded ops a.tmps)=true then Oper.wp P o a w K Q else E:=by
 have r:Region.wanted o (yielded ops a.tmps)=true:=by simp[Region.wanted,q]
 rw[if_pos r];obtain⟨w',l,s,m⟩:=a5N (P:=P) j k f e c;unfold Oper.wp execOp;rw[g];simp[hx,p,Instr.storeAt,Instr.sureAddr,l,Result.andThen];exact i w' s m
theorem a4h {t:TypeId} {x y:Operand} {b i:Nat} {e:Array Value} {v:Value} {T:TypeId} (k:TyI P t 1) (hx:a.eval x= .pointer (some ⟨b,i,none⟩)) (p:a.eval y=v) (m:v.cells=#[v]) (c:v.oneCell'=true) (g:Bx w b e T) (hi:i<e.size)
  (K:∀w',Bx w' b (e.set i v) T->ExtX (ob (some ⟨b,0,none⟩)) w w'->wpList P ops Q rest (a.put d undef) w'):
  wpList P ops Q (⟨d, .store t x y,ty,ps,af,none⟩::rest) a w:=by
 refine wpList_plain rfl fun s f=>?_;obtain⟨z,n,h⟩:=k;obtain⟨r,o⟩:=a0J g v hi;have q:=g.cell i (u:=e[i]) (by simp[hi]);have l:=g.frozen i;unfold Oper.wp;subst p;have j:=run_store P w ⟨b,i,none⟩ (a.eval y) .plain c;rw[q,l]at j;simp only[Bool.false_eq_true,if_false]at j;simp[execOp,hx,Instr.storeAt,Instr.sureAddr,storeVar,sizeOf,typeInfo,n,h,m,Result.andThen,storeCells,Addr.add_zero',j];exact f _ _ (K _ r o)
theorem a1l {o:Oper} {K:Act->World->Prop} {E:Prop} {t:TypeId} {x y:Operand} {b i:Nat} {d:Array Value} {v:Value} {T:TypeId} (r:o.guard=none) (h:o.op= .store t x y) (k:TyI P t 1) (hx:a.eval x= .pointer (some ⟨b,i,none⟩)) (q:a.eval y=v) (p:v.cells=#[v]) (c:v.oneCell'=true) (e:Bx w b d T) (hi:i<d.size)
  (j:∀w',Bx w' b (d.set i v) T->ExtX (ob (some ⟨b,0,none⟩)) w w'->K (a.put o.dst undef) w'):
  if Region.wanted o (yielded ops a.tmps)=true then Oper.wp P o a w K Q else E:=by
 have s:Region.wanted o (yielded ops a.tmps)=true:=by simp[Region.wanted,r]
 rw[if_pos s];obtain⟨B,m,f⟩:=k;obtain⟨A,n⟩:=a0J e v hi;have z:=e.cell i (u:=d[i]) (by simp[hi]);have l:=e.frozen i;unfold Oper.wp execOp;rw[h];subst q;have g:=run_store P w ⟨b,i,none⟩ (a.eval y) .plain c;rw[z,l]at g;simp only[Bool.false_eq_true,if_false]at g;simp[hx,Instr.storeAt,Instr.sureAddr,storeVar,sizeOf,typeInfo,m,f,p,Result.andThen,storeCells,Addr.add_zero',g];exact j _ A n
theorem b6l {X Z:Nat->Bool} {w w':World} (a:Ext w w') (h:∀k,k<w.heap.size->Z k=true->X k=true):Le (mk X w) (mk Z w'):=
 a0T a (fun k _ b=>by simp[noY]at b) h
theorem a4i {X Y Z:Nat->Bool} {w w':World} (b:ExtX Y w w') (c:∀k,Y k=true->Z k=true) (d:∀k,X k=true->Z k=true):Le (mk Z w) (mk X w'):=fun a u h=>a1u (fun k _ e=>d k e) a u (a0w b c a u h)
theorem a0Y (X:Nat->Bool) (a b:Option Addr):un (un X a) b=un (un X b) a:=by
 funext k;simp only[un];cases X k<;>cases ob a k<;>cases ob b k<;>rfl
theorem a2X {X:Nat->Bool} {w:World} {ao:Option Addr} (a:HX X w) (h:∀k,ob ao k=true->k<w.heap.size):HX (un X ao) w:=fun k b=>by
 by_cases hx:X k=true
 ·exact a k hx
 ·exact h k (by simpa[un,hx]using b)
theorem a6E (X:Nat->Bool):un X none=X:=by funext k;simp[un,ob]
end
theorem c1J (n:Int) (b h ao j:Option Addr) (g f i d l c k e:Nat) (s:Bool):∀v∈(#[Value.int .i64 n, .slice b g f, .slice h i d, .bool s, .slice ao l c, .slice j k e]:Array Value).toList,v.oneCell'=true:=by
 intro v a;simp at a;rcases a with rfl|rfl|rfl|rfl|rfl|rfl<;>rfl
end Go.Rep
namespace Go.Proofs.YtidbbddagfnfbaaGreat
open Go.RowKit Go.Rep
theorem a3H:a1D Tryz.prog 173 6:=by
 have h:(Tryz.prog.info? 173).map (fun i=>(i.zero,i.size,i.bytes))=some (some (.agg #[.int .i64 0, .slice none 0 0, .slice none 0 0, .bool false, .slice none 0 0, .slice none 0 0]),6,112):=by kernel_rfl
 obtain⟨c,b,_,a,_⟩:=info_parts h;exact⟨_,c,Tryz.underlying173,b,a⟩
theorem b8Z:(Tryz.prog.info? 24).map (fun i=>(i.zero,i.size,i.bytes))=some (some (.slice none 0 0),1,24):=by kernel_rfl
theorem b7z:TyI Tryz.prog 24 1:=let ⟨i,h,_,a,_⟩:=info_parts b8Z;⟨i,h,a⟩
theorem b9a:(Tryz.prog.info? 23).map (fun i=>(i.zero,i.size,i.bytes))=some (some (.slice none 0 0),1,24):=by kernel_rfl
theorem c0F:TyI Tryz.prog 23 1:=let ⟨i,h,_,a,_⟩:=info_parts b9a;⟨i,h,a⟩
theorem a5j:a1D Tryz.prog 51 8:=by
 have h:(Tryz.prog.info? 51).map (fun i=>(i.zero,i.size,i.bytes))=some (some (.agg #[.int .i64 0, .slice none 0 0, .slice none 0 0, .slice none 0 0, .bool false, .slice none 0 0, .slice none 0 0, .slice none 0 0]),8,160):=by kernel_rfl
 obtain⟨c,b,_,a,_⟩:=info_parts h;exact⟨_,c,Tryz.underlying51,b,a⟩
end Go.Proofs.YtidbbddagfnfbaaGreat
namespace Go.Rep
open Go.RowKit Go.Lim
abbrev b0e (X:Nat->Bool) (fb:Nat):Nat->Bool:=un X (some ⟨fb,0,none⟩)
abbrev a6O (X:Nat->Bool) (fb:Nat) (po oo:Option Addr):Nat->Bool:=un (un (b0e X fb) po) oo
structure RS (X:Nat->Bool) (w0:World) (b fb base:Nat) (T1 T2 T3:TypeId) (w:World) (oo:Option Addr) (co:Nat) (po:Option Addr) (pc:Nat) (M:List (List Rat)) (p:List Nat) (f:Rat):Prop where
 rows:OL RC 1 (un (b0e X fb) po) base T1 w oo co M
 piv:OL (a0c .i64) 1 (un (b0e X fb) oo) base T3 w po pc p
 fac:∃s a n c d k e,Bx w fb #[.bool s, .slice a n c, .slice d k e] T2/\QC (mk (a6O X fb po oo) w) (.agg #[.bool s, .slice a n c, .slice d k e]) f
 hx:HX X w
 res:Bx w b #[.bool false, .slice none 0 0, .slice none 0 0] T2
 rb:X b=true
 fb0:fb≠b
 ext:Ext w0 w
 low:w0.heap.size<=base
 lowf:w0.heap.size<=fb
section
variable {X:Nat->Bool} {w0 w w':World} {b fb base:Nat} {T1 T2 T3:TypeId} {oo po:Option Addr} {co pc:Nat} {M M':List (List Rat)} {p:List Nat} {f f':Rat}
theorem RS.oF (h:RS X w0 b fb base T1 T2 T3 w oo co po pc M p f):ob oo fb=false:=by
 cases a:ob oo fb
 ·rfl
 ·have:=h.rows.1 fb a;rw[a0f (a0r (a9O fb))]at this;simp at this
theorem RS.pF (h:RS X w0 b fb base T1 T2 T3 w oo co po pc M p f):ob po fb=false:=by
 cases a:ob po fb
 ·rfl
 ·have:=h.piv.1 fb a;rw[a0f (a0r (a9O fb))]at this;simp at this
theorem RS.oB (h:RS X w0 b fb base T1 T2 T3 w oo co po pc M p f):ob oo b=false:=by
 cases a:ob oo b
 ·rfl
 ·have:=h.rows.1 b a;rw[a0f (a0f h.rb)]at this;simp at this
theorem RS.pB (h:RS X w0 b fb base T1 T2 T3 w oo co po pc M p f):ob po b=false:=by
 cases a:ob po b
 ·rfl
 ·have:=h.piv.1 b a;rw[a0f (a0f h.rb)]at this;simp at this
theorem RS.po_oo (h:RS X w0 b fb base T1 T2 T3 w oo co po pc M p f) (k:Nat) (a:ob po k=true):ob oo k=false:=(a1j (h.piv.1 k a)).2
theorem RS.flt (h:RS X w0 b fb base T1 T2 T3 w oo co po pc M p f):fb<w.heap.size:=by
 obtain⟨_,_,_,_,_,_,_,a,_⟩:=h.fac;exact a.lt
theorem RS.hz (h:RS X w0 b fb base T1 T2 T3 w oo co po pc M p f):HX (a6O X fb po oo) w:=fun k l=>by
 by_cases i:ob oo k=true
 ·exact(h.rows.block i).2
 ·by_cases e:ob po k=true
  ·exact(h.piv.block e).2
  ·by_cases g:X k=true
   ·exact h.hx k g
   ·have d:ob oo k=false:=by simpa using i
    have c:ob po k=false:=by simpa using e
    have a:X k=false:=by simpa using g
    have j:ob (some ⟨fb,0,none⟩) k=true:=by simpa[a6O,b0e,un,d,c,a]using l
    have:fb=k:=by simpa[ob]using j
    rw[<-this];exact h.flt
theorem RS.row (h:RS X w0 b fb base T1 T2 T3 w oo co po pc M p f) (i:Nat) (hi:i<M.length):∃a c,w.cell? (adr oo i)=some (.slice a M[i].length c)/\w.frozen? (adr oo i)=false/\M[i].length<=c/\Sl QC 3 (_root_.Go.Rep.mk (a6O X fb po oo) w) a M[i]:=by
 obtain⟨u,j,d,a,c,rfl,g,e⟩:=h.rows.cell SlV.one i hi;exact⟨a,c,j,d,g,e⟩
theorem RS.ext0 (h:RS X w0 b fb base T1 T2 T3 w oo co po pc M p f) (g:Ext w w'):RS X w0 b fb base T1 T2 T3 w' oo co po pc M p f:=by
 obtain⟨s,a,n,c,d,k,e,j,i⟩:=h.fac;exact⟨h.rows.ext0 RC.elem g,h.piv.ext0 (a0c.elem _) g,⟨s,a,n,c,d,k,e,j.ext0 g,mkx QC.mono i g⟩,h.hx.ext g,h.res.ext0 g,h.rb,h.fb0,h.ext.trans g,h.low,h.lowf⟩
theorem RS.setRows (h:RS X w0 b fb base T1 T2 T3 w oo co po pc M p f) (g:ExtX (ob oo) w w') (l:OL RC 1 (un (b0e X fb) po) base T1 w' oo co M'):RS X w0 b fb base T1 T2 T3 w' oo co po pc M' p f:=by
 obtain⟨s,a,n,c,d,k,e,m,j⟩:=h.fac;exact⟨l,h.piv.frame (a0c.pure _) g (fun k i=>h.po_oo k i) h.piv.1,⟨s,a,n,c,d,k,e,m.ext g h.oF,QC.mono _ _ _ _ (a0w g fun k i=>a0r i) j⟩,h.hx.ext g,h.res.ext g h.oB,h.rb,h.fb0,h.ext.own h.rows h.low g,h.low,h.lowf⟩
theorem RS.setFac (h:RS X w0 b fb base T1 T2 T3 w oo co po pc M p f) (i:ExtX (ob (some ⟨fb,0,none⟩)) w w') {s:Bool} {a:Option Addr} {n c:Nat} {d:Option Addr} {k e:Nat} (m:Bx w' fb #[.bool s, .slice a n c, .slice d k e] T2) (hq:QC (_root_.Go.Rep.mk (a6O X fb po oo) w') (.agg #[.bool s, .slice a n c, .slice d k e]) f'):RS X w0 b fb base T1 T2 T3 w' oo co po pc M p f':=by
 have l:∀k,ob (some ⟨fb,0,none⟩) k=true->k=fb:=fun k g=>by
  have:fb=k:=by simpa[ob]using g
  exact this.symm
 refine⟨h.rows.ext RC.elem i (fun k _ g=>a0f (a0r g)) (fun _ _ h=>h),h.piv.frame (a0c.pure _) i (fun k g=>?_) h.piv.1,⟨s,a,n,c,d,k,e,m,hq⟩,h.hx.ext i,h.res.ext i (a0b (Ne.symm h.fb0)),h.rb,h.fb0,h.ext.then_ i fun k g _=>?_,h.low,h.lowf⟩
 ·cases j:ob (some ⟨fb,0,none⟩) k
  ·rfl
  ·have:=l k j;subst this;rw[h.pF]at g;simp at g
 ·cases j:ob (some ⟨fb,0,none⟩) k
  ·rfl
  ·have:=l k j;have:=h.lowf;omega
theorem RS.push (h:RS X w0 b fb base T1 T2 T3 w oo co po pc M p f) {i:Option Addr} {q j:Nat} (m:ExtX (ob po) w w') (v:OL (a0c .i64) 1 (un (b0e X fb) oo) base T3 w' i q (p++[j])) (r:i=po\/∃g,i=some ⟨g,0,none⟩/\w.heap.size<=g):RS X w0 b fb base T1 T2 T3 w' oo co i q M (p++[j]) f:=by
 obtain⟨s,a,n,c,d,k,e,x,y⟩:=h.fac;have o:∀k,k<w.heap.size->ob i k=true->ob po k=true:=fun k l u=>by
  rcases r with rfl|⟨g,rfl,z⟩
  ·exact u
  ·have:g=k:=by simpa[ob]using u
   omega
 have hF:∀k,k<w.heap.size->un (b0e X fb) i k=true->un (b0e X fb) po k=true:=fun k l hz=>by
  by_cases hx:b0e X fb k=true
  ·exact a0f hx
  ·exact a0r (o k l (by simpa[un,hx]using hz))
 refine⟨h.rows.ext RC.elem m (fun k _ l=>a0r l) hF,v,⟨s,a,n,c,d,k,e,x.ext m h.pF,QC.mono _ _ _ _ (a0T m (fun k _ l=>a0f (a0r l)) fun k l hz=>?_) y⟩,h.hx.ext m,h.res.ext m h.pB,h.rb,h.fb0,h.ext.own h.piv h.low m,h.low,h.lowf⟩;by_cases t:ob oo k=true
 ·exact a0r t
 ·exact a0f (hF k l (by simpa[un,t]using hz))
end
end Go.Rep
namespace Go.Lin
open Go.Lim
def a7d (m:Mat) (c:Nat):Prop:=∃B,6*B<=68719476736/\∀j,j<=c->HB B (rN m j).1/\hq (rN m j).2.2<=B
theorem b3I {n c:Nat} {m:Mat} (a:Shp n c m) (k:Nat):(rN m k).2.1.length<=n:=(a5Z a k).ref.le
theorem b6m {n c B:Nat} {m:Mat} (a:Shp n c m) (h:HB B m) (e:6*(6^n*B)<=68719476736):a7d m c:=
 ⟨6^n*B,e,fun j _=>by
  obtain⟨f,d⟩:=h.rN a j;have b:6^(rN m j).2.1.length*B<=6^n*B:=Nat.mul_le_mul_right _ (Nat.pow_le_pow_right (by decide) (b3I a j));exact⟨f.mono b,Nat.le_trans d b⟩⟩
theorem b3J (m:Mat) (k:Nat):rN m (k+1)=a6j (rN m k) k:=rfl
theorem a3n {m:Mat} {i:Nat} (h:i<m.length):m.getD i []=m[i]:=by simp[List.getD_eq_getElem?_getD,h]
theorem b0f {m:Mat} {i:Nat} (h:i<m.length) (j:Nat):ent m i j=(m[i]).getD j 0:=by unfold ent;rw[a3n h]
theorem b9b {m:Mat} {n t col:Nat} (b:m.length=n) (h:∀q,t<=q->q<n->ent m q col=0):b2n m t col=none:=by
 unfold b2n;rw[List.findIdx?_eq_none_iff];intro r a;obtain⟨i,hi,rfl⟩:=List.getElem_of_mem a;rw[List.length_drop]at hi;have:=h (t+i) (by omega) (by omega);rw[b0f (by omega)]at this;simpa using this
theorem b9c {m:Mat} {n t col a:Nat} (d:m.length=n) (h:∀q,t<=q->q<t+a->ent m q col=0) (c:t+a<n) (b:ent m (t+a) col≠0):b2n m t col=some a:=by
 unfold b2n;rw[List.findIdx?_eq_some_iff_getElem];refine⟨by rw[List.length_drop];omega,?_,fun j e=>?_⟩
 ·rw[List.getElem_drop,<-b0f (by omega)];simpa using b
 ·rw[List.getElem_drop,<-b0f (by omega)];simpa using h (t+j) (by omega) (by omega)
theorem b6n (m:Mat) (t col:Nat):out m t col 0=m:=by
 unfold out rows;refine List.ext_getElem (by simp) fun q b a=>?_;rw[List.getElem_mapIdx,if_neg (by omega)]
theorem a4E (m:Mat) (t col s:Nat):(out m t col s).length=m.length:=by simp[out,rows]
theorem a5C {m:Mat} {t col s i:Nat} (h:i<(out m t col s).length) (a:i<m.length):(out m t col s)[i]=if i≠t/\i<s then List.zipWith (· + ·) m[i] ((m.getD t []).map (· * - m[i].getD col 0))else m[i]:=by
 show(m.mapIdx _)[i]'(by simpa using a)=_
 rw[List.getElem_mapIdx]
theorem b9d {m:Mat} {t col s:Nat} (h:s<m.length) (c:s≠t):(out m t col s).set s (List.zipWith (· + ·) m[s] ((m.getD t []).map (· * - m[s].getD col 0)))=out m t col (s+1):=by
 refine List.ext_getElem (by simp[a4E]) fun q d b=>?_;have hq:q<m.length:=by rw[a4E]at b;exact b
 rw[List.getElem_set,a5C b hq];split
 ·subst_vars;rw[if_pos ⟨c,by omega⟩]
 ·rw[a5C (by simpa[a4E]using hq) hq]
  by_cases a:q≠t/\q<s
  ·rw[if_pos a,if_pos ⟨a.1,by omega⟩]
  ·rw[if_neg a,if_neg (by omega)]
theorem b6o {m:Mat} {t col:Nat}:out m t col t=out m t col (t+1):=by
 refine List.ext_getElem (by simp[a4E]) fun q c b=>?_;have hq:q<m.length:=by rw[a4E]at b;exact b
 rw[a5C c hq,a5C b hq];by_cases a:q≠t/\q<t
 ·rw[if_pos a,if_pos ⟨a.1,by omega⟩]
 ·rw[if_neg a,if_neg (by omega)]
theorem b3K {m:Mat} {i k:Nat} (hi:i<m.length) (a:k<m.length):(m.set i m[k]).set k m[i]=a1f m i k:=by
 unfold a1f;rw[a3n hi,a3n a]
theorem c0G {n c:Nat} {m M:Mat} {P:List Nat} {f:Rat} {j b a:Nat} (i:Shp n c m) (d:rN m j=(M,P,f)) (e:P.length=b) (hz:∀q,b<=q->q<b+a->ent M q j=0) (k:b+a<n) (g:ent M (b+a) j≠0):
  rN m (j+1)=(out (pv (a1f M (b+a) b) b j) b j n,P++[j],(if a=0 then f else - f)*ent (a1f M (b+a) b) b j):=by
 have h:Shp n c M:=by have:=(a5Z i j).shp;rw[d]at this;exact this
 subst e;rw[b3J,d];unfold a6j
 dsimp only
 rw[b9c h.1 hz k g]
 dsimp only
 rw[h.1]
theorem b9e {n c:Nat} {m M:Mat} {P:List Nat} {f:Rat} {j d:Nat} (e:Shp n c m) (a:rN m j=(M,P,f)) (b:P.length=d) (hz:∀q,d<=q->q<n->ent M q j=0):rN m (j+1)=(M,P,f):=by
 have g:Shp n c M:=by have:=(a5Z e j).shp;rw[a]at this;exact this
 subst b;rw[b3J,a];unfold a6j
 dsimp only
 rw[b9b g.1 hz]
end Go.Lin
namespace Go.Rep
open Go.RowKit
theorem b3L {X:Nat->Bool} {b k:Nat} (h:X b=true) (a:ob (some ⟨b,0,none⟩) k=true):X k=true:=by
 have:b=k:=by simpa[ob]using a
 subst this;exact h
section
variable {P:Program} {w:World}
theorem b0g {fn:Func} {a:Array Value} {c d e:Tmp} {t:TypeId} {n b:Nat} {g:Array Value} {T:TypeId} (h:fn.results=#[.tmp d, .tmp e, .cell c t]) (i:a.getD c undef= .pointer (some ⟨b,0,none⟩)) (j:a1D P t n) (k:Bx w b g T) (f:g.size=n):
  (results fn a).run P w= .ok (.tuple #[a.getD d undef,a.getD e undef, .agg g]) w:=by
 have l:=a2b (P:=P) j k f;rw[Array.getD_eq_getD_getElem?]at i;simp[results,h,i,asAddr,l]
end
end Go.Rep
namespace Go.Lin
open Go.Lim Go.Rep
theorem b3M {p:List Nat} {c:Nat} (n:∀i (hi:i<p.length),p[i]<c) (g:∀i k (l:i<k) (f:k<p.length),p[i]<p[k]):p.length<=c:=by
 have e:p.Pairwise (· < ·):=List.pairwise_iff_getElem.2 fun i j hi d a=>g i j a d;have b:p.Nodup:=e.imp fun h=>Nat.ne_of_lt h;have m:p.length<=(List.range c).length:=b.length_le_of_subset fun j d=>by
  obtain⟨k,f,rfl⟩:=List.getElem_of_mem d;exact List.mem_range.2 (n k f)
 rwa[List.length_range]at m
theorem b1R {n c B:Nat} {m:Mat} (a:Shp n c m) (h:HB B m) (u:c<=4) (s:B<=6541):b5i m c/\a7d m c:=by
 have b:∀j,j<=c->(eN m j).2.1.length<=4:=fun j d=>Nat.le_trans (b3M (a5Y a j).ech.lt (a5Y a j).ech.inc) (by omega);have e:∀j,j<=c->(rN m j).2.1.length<=4:=fun j d=>Nat.le_trans (b3M (a5Z a j).ref.lt (a5Z a j).ref.inc) (by omega);have g:∀k,k<=4->5^k<=625:=fun k f=>Nat.le_trans (a6p 5 (by omega) f) (by decide);have q:∀k,k<=4->7^k<=2401:=fun k f=>Nat.le_trans (a6p 7 (by omega) f) (by decide);have o:∀k,k<=4->6^k<=1296:=fun k f=>Nat.le_trans (a6p 6 (by omega) f) (by decide);refine⟨⟨1500625*B,by omega,fun j d=>(h.eN a j).mono (Nat.mul_le_mul_right _ (Nat.le_trans (g _ (b j d)) (by decide))),fun t i=>(((h.eN a c).dN (a5Y a c).shp (a5Y a c).ech t i)).mono ?_⟩,⟨1296*B,by omega,fun j d=>?_⟩⟩
 ·rw[<-Nat.mul_assoc]
  refine Nat.mul_le_mul_right _ ?_;exact Nat.mul_le_mul (q t (Nat.le_trans i (b c (Nat.le_refl _)))) (g _ (b c (Nat.le_refl _)))
 ·obtain⟨p,r⟩:=h.rN a j
  have l:=Nat.mul_le_mul_right B (o _ (e j d));exact⟨p.mono l,Nat.le_trans r l⟩
theorem a4n {n c B:Nat} {m:Mat} (d:Shp n c m) (h:HB B m) (e:n<=4) (a:B<=6541):b5i m c/\a7d m c:=by
 have b:=c0B e;have f:6^n<=1296:=Nat.le_trans (Nat.pow_le_pow_right (by omega) e) (by decide);have i:=Nat.mul_le_mul b a;have g:=Nat.mul_le_mul f a;exact⟨b8g d h (by omega),b6m d h (by omega)⟩
theorem b3N {n c B:Nat} {m:Mat} (a:Shp n c m) (h:HB B m) (b:n<=4):HB (1296*B) (a1d m c).1:=by
 rw[(b2p a).1];refine(h.rN a c).1.mono (Nat.mul_le_mul_right _ ?_);exact Nat.le_trans (a6p 6 (by omega) (Nat.le_trans (b3I a c) b)) (by decide)
theorem b3O {n B:Nat} {f:Nat->Rat} (h:∀i,i<n->hq (f i)<=B):hq (sm n f)<=1+n*(B+1):=by
 induction n with
 |zero=>unfold sm;rw[a0Z];omega
 |succ n ih=>
  unfold sm;have h1:=ih fun i hi=>h i (by omega);have h2:=b0L (sm n f) (f n);have h3:=h n (by omega);have e:(n+1)*(B+1)=n*(B+1)+(B+1):=Nat.succ_mul _ _;omega
theorem b9f {l:List Rat} {B:Nat} (h:BR B l) (a:1<=B) (i:Nat):hq (fn l i)<=B:=a9a h a i
theorem b3P {l m:List Rat} {c B C:Nat} (e:l.length=c) (d:BR B l) (a:BR C m) (b:1<=B) (f:1<=C):hq (a2l l m)<=1+c*(B+C+1):=by
 rw[a8m e];refine b3O fun i hi=>Nat.le_trans (hq_mul _ _) ?_;have:=a9a d b i;have:=a9a a f i;omega
theorem c0H {x:Mat} {n B:Nat} (h:HB B x) (i j:Nat):hq (gr n (ent x) i j)<=1+n*(2*B+1):=b3O fun r _=>Nat.le_trans (hq_mul _ _) (by have:=h r i;have:=h r j;omega)
theorem c1K {x:Mat} {y:List Rat} {n B:Nat} (h:HB B x) (a:BR B y) (i:Nat):hq (gy n (ent x) (fn y) i)<=1+n*(2*B+1):=b3O fun r _=>Nat.le_trans (hq_mul _ _) (by have:=h r i;have:=b9f a h.pos r;omega)
theorem a5k {n B:Nat} (_:n<=8) (a:B<=510/\n*(2*B+1)<=6540):1+n*(2*B+1)<=6541:=by
 have:=a.2;omega
theorem b9g {n j B:Nat} (h:B<=510/\n*(2*B+1)<=6540) (a:j<=n):B<=510/\j*(2*B+1)<=6540:=⟨h.1,Nat.le_trans (Nat.mul_le_mul_right _ a) h.2⟩
theorem b3Q {x:Mat} {n c B:Nat} (h:HB B x) (b:n<=8) (a:B<=510/\n*(2*B+1)<=6540):HB 6541 (gmL x n c):=fun i j=>by
 by_cases hi:i<c
 ·by_cases d:j<c
  ·rw[a6I x n c i hi j d];exact Nat.le_trans (c0H h i j) (a5k b a)
  ·rw[a1O (a2P x n c) (.inr (by omega)),a0Z];decide
 ·rw[a1O (a2P x n c) (.inl (by omega)),a0Z];decide
theorem b3R {x:Mat} {y:List Rat} {n c B:Nat} (h:HB B x) (b:BR B y) (d:n<=8) (a:B<=510/\n*(2*B+1)<=6540):BR 6541 (gyL x y n c):=fun q hq=>by
 obtain⟨i,_,rfl⟩:=List.mem_map.1 hq;exact Nat.le_trans (c1K h b i) (a5k d a)
theorem b3S {m:Mat} {b:List Rat} {n c B:Nat} (a:Shp n c m) (f:HB B m) (h:BR B b) (g:n<=4):BR (1296*B) (b7v (a1d (a2W m b n) (c+1)).1 (a1d (a2W m b n) (c+1)).2 c):=c1H fun x hx=>by
 obtain⟨_,e,_⟩:=a1p (a2m (b:=b) a);have d:=b3N (a2m a) (b1f a f h) g;rw[b0a]at hx;rw[b0Z e x hx];unfold b2v;split
 ·exact d _ _
 ·rw[a0Z];exact d.pos
theorem b3T {x:Mat} {y:List Rat} {n c B:Nat} (h:HB B x) (d:BR B y) (b:n<=8) (e:c<=4) (a:B<=510/\n*(2*B+1)<=6540):BR 8500000 (a1L x y n c):=fun q hq=>
 Nat.le_trans (b3S (a2P x n c) (b3Q h b a) (b3R h d b a) e q hq) (by decide)
theorem c0I {l:List Rat} {B i:Nat} (h:BR B l) (hi:i<l.length):hq l[i]<=B:=h _ (List.getElem_mem hi)
theorem c0J {x:Mat} {y b:List Rat} {n c B C:Nat} (g:Shp n c x) (h:BM B x) (k:BR B y) (j:BR C b) (a:1<=B) (d:1<=C):BR (B+c*(B+C+1)+2) (a3G x y b):=fun q hq=>by
 obtain⟨i,hi,rfl⟩:=List.getElem_of_mem hq;have e:i<x.length:=by unfold a3G at hi;rw[List.length_zipWith]at hi;omega
 have f:i<y.length:=by unfold a3G at hi;rw[List.length_zipWith]at hi;omega
 rw[a6K hi e f];have o:=a8H y[i] (a2l x[i] b);have l:=c0I k f;have m:=b3P (g.2 _ (List.getElem_mem e)) (h _ (List.getElem_mem e)) j a d;omega
theorem b3U {x:Mat} {y b:List Rat} {n c B:Nat} (e:Shp n c x) (h:BM B x) (g:BR B y) (f:BR 8500000 b) (a:1<=B) (i:c<=4) (d:B<=510/\n*(2*B+1)<=6540):BR 34100000 (a3G x y b):=fun q hq=>by
 have j:=c0J e h g f a (by decide) q hq;have:=Nat.mul_le_mul i (show B+8500000+1<=8500511 by have:=d.1;omega);have:=d.1;omega
theorem c0K {l:List Rat} (h:BR 34100000 l) (a:l.length<=8):hq (a2l l l)<=600000000:=by
 have b:=b3P rfl h h (by decide) (by decide);have:=Nat.mul_le_mul a (Nat.le_refl (34100000+34100000+1));omega
theorem c0L {x:Mat} {p:List Nat} {B:Nat} (h:BM B x) (a:1<=B):BM B (pkL x p):=fun r c q hq=>by
 obtain⟨s,b,rfl⟩:=List.mem_map.1 c;obtain⟨j,_,rfl⟩:=List.mem_map.1 hq;exact a9a (h s b) a j
theorem b1l {u:Mat} {n m B:Nat} (h:HB B u) (b:n<=8) (a:B<=510/\n*(2*B+1)<=6540):HB 6541 (a2a u n m):=fun i j=>by
 by_cases hi:i<m
 ·by_cases c:j<m
  ·rw[a9d u n m i hi j c];exact Nat.le_trans (c0H h i j) (a5k b a)
  ·rw[a1O (a0V u n m) (.inr (by omega)),a0Z];decide
 ·rw[a1O (a0V u n m) (.inl (by omega)),a0Z];decide
theorem a8p {m:Mat} {n B:Nat} (a:Shp n n m) (h:HB B m):HB B (a1E m n):=fun i j=>by
 have b:=h.pos;by_cases hi:i<n
 ·by_cases c:j<2*n
  ·rw[a3l a i hi j c]
   split
   ·exact h i j
   ·split
    ·have:hq (1:Rat)<=1:=by decide+kernel
     omega
    ·rw[a0Z];exact b
  ·rw[a1O (a1F a) (.inr (by omega)),a0Z];exact b
 ·rw[a1O (a1F a) (.inl (by omega)),a0Z];exact b
theorem b9h {m:Mat} {n B:Nat} (a:Shp n n m) (h:HB B m) (c:n<=4):HB (1296*B) (a2J m n):=fun i j=>by
 have b:=b3N (a1F a) (a8p a h) c;by_cases hi:i<n
 ·rw[b1i a i hi j];exact b _ _
 ·rw[a1O (a2H a) (.inl (by omega)),a0Z];exact b.pos
theorem b3V {u:Mat} {n m B:Nat} (h:HB B u) (c:n<=8) (a:m<=4) (b:B<=510/\n*(2*B+1)<=6540):BM 8500000 (a2J (a2a u n m) m):=fun r d q hq=>
 Nat.le_trans (a8h (b9h (a0V u n m) (b1l h c b) a) r d q hq) (by decide)
theorem b3W {m:Mat} {v:List Rat} {n c B C:Nat} (d:Shp n c m) (h:BM B m) (e:BR C v) (b:1<=B) (f:1<=C):BR (1+c*(B+C+1)) (a3j m v):=fun q hq=>by
 obtain⟨r,a,rfl⟩:=List.mem_map.1 hq;exact b3P (d.2 r a) (h r a) e b f
theorem b9i {u:Mat} {n m B:Nat} (c:BM B u) (e:n<=8) (b:m<=4) (a:1<=B) (d:B<=510/\n*(2*B+1)<=6540) {r:List Rat} (f:r∈u):BR 34100000 (a3j (a2J (a2a u n m) m) r):=fun q hq=>by
 have g:=b3W (a2H (a0V u n m)) (b3V (a8S c a) e b d) (c r f) (by decide) a q hq;have:=Nat.mul_le_mul b (show 8500000+B+1<=8500511 by have:=d.1;omega);omega
theorem b1m {m:Mat} {i j:Nat} (hi:i<m.length) (a:j<m[i].length):m[i][j]=ent m i j:=by
 unfold ent;rw[show m.getD i []=m[i]by simp[List.getD_eq_getElem?_getD,hi],List.getD_eq_getElem?_getD,List.getElem?_eq_getElem a];rfl
theorem a9g {m:Mat} {n c:Nat} (h:Shp n c m) (a:n=0->c=0):a0x m=c:=by
 by_cases b:0<n
 ·have d:0<m.length:=by rw[h.1];exact b
  rw[a1J d];exact h.2 _ (List.getElem_mem _)
 ·have:m= []:=List.eq_nil_of_length_eq_zero (by rw[h.1];omega)
  subst this;rw[a (by omega)];rfl
end Go.Lin
namespace Go.Proofs.YtidbbddagfnfbaaGreat
open Go.RowKit Go.Rep Go.Lim Go.Lin
theorem a4o {R:Mem->Value->Rat->Prop} (X:Nat->Bool) (w:World) (u:Value) (m:List (List Rat)) (f:SlV (SlV R 3) 1 (mk X w) u m):Calls Tryz.prog 166 #[u] w (fun e w'=>w'=w/\e= .returned (.int .i64 (a0x m:Int))):=by
 obtain⟨ao,q,rfl,k,a⟩:=f;have j:=a.hd;by_cases h:0<m.length
 ·obtain⟨p,o,l,b,d,i⟩:=a.row 0 h
  have n:=b.out noY w (ExtX.refl _) rfl;have c:=hid (a1J h);have g:((m.length:Int)==0)=false:=a2w (by omega);go_enter Tryz.func166,Tryz.ntmps166
  go_wp2_with (with_reducible refine a0q a0s (by omega) (by assumption) ?_)
  go_ret
  exact⟨rfl,a0P (by rw[c.out])⟩
 ·have c:Hid (a0x m=0):=hid (by
   have:m= []:=List.eq_nil_of_length_eq_zero (by omega);subst this;rfl)
  have g:((m.length:Int)==0)=true:=a7q (by omega);go_enter Tryz.func166,Tryz.ntmps166
  go_wp2_with (with_reducible refine a0q a0s (by omega) (by assumption) ?_)
  go_ret
  exact⟨rfl,a0P (by rw[c.out];rfl)⟩
set_option maxRecDepth 100000 in
theorem a4j {R:Mem->Value->Rat->Prop} (hR:a3E R) (X:Nat->Bool) (w:World) (u:Value) (m:List (List Rat)) (Y:SlV (SlV R 3) 1 (mk X w) u m) (hl:m.length<=1099511627776):Calls Tryz.prog 164 #[u] w (a8K w (a0H m)):=by
 obtain⟨ao,H,rfl,J,z⟩:=Y;have k:=z.hd;by_cases K:96<m.length
 ·have g:Hid (false=a0H m):=hid (by
   symm;cases hf:a0H m
   ·rfl
   ·have:=(a1G.1 hf).1;omega)
  have Q:(96:Int)<(m.length:Int):=by omega
  go_enter Tryz.func164,Tryz.ntmps164
  go_wp2_with fail
  go_ret
  exact⟨ExtX.refl _,a0j g.out⟩
 ·have Q:¬(96:Int)<(m.length:Int):=by omega
  obtain⟨n,I⟩:∃n,m.length=n:=⟨_,rfl⟩;have o:=hid I;have T:n<=96:=by omega
  rw[I]at k Q |-;clear I hl K J;go_enter Tryz.func164,Tryz.ntmps164
  go_wp2_with fail
  go_loopw [3] (fun c wr=>∃(i:Nat),c= .int .i64 i/\i<=n/\Hid (∀q,q<i->∀hq:q<m.length,1<=m[q].length/\m[q].length<=96/\m[q].length=a0x m)/\Ext w wr) (fun c _=>n - (intOf c).toNat)
  case atStart=>exact⟨0,rfl,Nat.zero_le _,hid (fun q hq=>by omega),ExtX.refl _⟩
  case round=>
   obtain⟨i,rfl,hi,A,r⟩:=hrel;by_cases P:i<n
   ·have l:i<m.length:=by rw[o.out];exact P
    have N:0<m.length:=by omega
    have B:=z.mono (SlV.mono hR 3) (a0l r);obtain⟨a1,c1,U,v,t,L⟩:=B.row i l;obtain⟨a2,c2,V,E,C,M⟩:=B.row 0 N;have e:=v.out noY wr (ExtX.refl _) rfl;have b:=E.out noY wr (ExtX.refl _) rfl;have G:∀W,(Instr.indexAt 23 (.slice ao n H) (.int .i64 (i:Int))).run Tryz.prog W= .ok (.pointer (some (adr ao i))) W:=a0z a0s ao n H .i64 i k (by omega) rfl;have F:∀W,(Instr.indexAt 23 (.slice ao n H) (.int .i64 0)).run Tryz.prog W= .ok (.pointer (some (adr ao 0))) W:=a0z a0s ao n H .i64 0 k (by omega) rfl;have j:=a1J N;have a:=hid (a4W i l);rw[<-j]at b;obtain⟨x,hx⟩:∃x,m[i].length=x:=⟨_,rfl⟩;obtain⟨y,O⟩:∃y,a0x m=y:=⟨_,rfl⟩;rw[hx]at e a;rw[O]at b a;have d:Hid (1<=x/\x<=96/\x=y->∀hq:i<m.length,1<=m[i].length/\m[i].length<=96/\m[i].length=a0x m):=hid fun h hq=>by rw[hx,O];exact h
    clear hx O j v E L M t C N l;by_cases f:x=0
    ·have Z:decide ((x:Int)<1)=true:=decide_eq_true (by omega)
     have g:=hid (a.out (by omega));clear f a d;go_wp2_with fail
     go_region
     all_goals
      clear e b G F;go_wp2_with fail
      go_ret
      exact⟨r.trans (ExtX.refl wr).drew,a0j g.out⟩
    ·have Z:decide ((x:Int)<1)=false:=decide_eq_false (by omega)
     by_cases s:96<x
     ·have d1:decide ((96:Int)<(x:Int))=true:=decide_eq_true (by omega)
      have g:=hid (a.out (by omega));clear f a d;go_wp2_with fail
      go_region
      all_goals
       clear e b G F;go_wp2_with fail
       go_ret
       exact⟨r.trans (ExtX.refl wr).drew,a0j g.out⟩
     ·have d1:decide ((96:Int)<(x:Int))=false:=decide_eq_false (by omega)
      by_cases p:x=y
      ·have S:((x:Int) !=(y:Int))=false:=a6q (by omega)
       have D:=hid (d.out ⟨by omega,by omega,p⟩);clear f p a d s;go_wp2_with fail
       go_region
       all_goals
        clear e b G F;go_wp2_with fail
        go_roundw
        case rel=>exact⟨i+1,by go_num,by omega,hid (a2K A.out D.out),r.trans (ExtX.refl wr).drew⟩
        case measure=>simp[intOf];omega
      ·have S:((x:Int) !=(y:Int))=true:=a6X (by omega)
       have g:=hid (a.out (by omega));clear f p a d s;go_wp2_with fail
       go_region
       all_goals
        clear e b G F;go_wp2_with fail
        go_ret
        exact⟨r.trans (ExtX.refl wr).drew,a0j g.out⟩
   ·have g:Hid (true=a0H m):=hid (by
     symm;exact a1G.2 ⟨by rw[o.out];omega,fun q hq=>A.out q (by rw[o.out]at hq;omega) hq⟩)
    go_wp2_with fail
    go_ret
    exact⟨r,a0j g.out⟩
attribute [local go_sem↓] Go.wp_at_zero Go.wp_at_succ
def b7A (X:Nat->Bool) (w:World) (S:Sr) (e:Ending) (w':World):Prop:=Ext w w'/\∃oo co po pc uf,e= .returned (.tuple #[.slice oo S.1.length co, .slice po S.2.1.length pc,uf])/\S.1.length<=co/\S.2.1.length<=pc/\Sl RC 1 (mk X w') oo S.1/\Sl (a0c .i64) 1 (mk X w') po S.2.1/\QC (mk X w') uf S.2.2
set_option maxRecDepth 100000 in
set_option maxHeartbeats 1600000 in
theorem a4F (X:Nat->Bool) (w:World) (u:Value) (m:List (List Rat)) (n c:Nat) (hX:HX X w) (hu:MV (mk X w) u m) (j1:Shp n c m) (hc:a0x m=c) (hn:n<=900) (E3:c<=900) (hT:a7d m c):Calls Tryz.prog 168 #[u] w (b7A X w (rN m c)):=by
 obtain⟨W,hW,i4,b0,hz⟩:=a1g w #[.bool false, .slice none 0 0, .slice none 0 0] 45;have h6:HX (a0e X w.heap.size 1) W:=hX.boxes hz;have z5:MV (mk (a0e X w.heap.size 1) W) u m:=MV.mono _ _ _ _ (a0o i4) hu;have t4:=b8G (a0e X w.heap.size 1) W u m h6 z5 (by rw[j1.1];omega) (fun r hr=>by rw[j1.2 r hr];omega);have k6:=hid j1.1;have g5:=hid j1;have D4:Hid (n=0->c=0):=hid fun h=>by
  have:m= []:=List.eq_nil_of_length_eq_zero (by rw[k6.out];exact h);rw[<-hc,this];rfl
 obtain⟨B,y3,w4⟩:=hT;have y9:=hid w4;have A:=hid y3;have f5:Hid (∀w',Le (mk (a0e X w.heap.size 1) w') (mk X w')):=hid fun w'=>a0n;have g3:Hid (a0e X w.heap.size 1 w.heap.size=true):=hid (a2L (Nat.le_refl _) (by omega));obtain⟨D,o3⟩:∃D,a0e X w.heap.size 1=D:=⟨_,rfl⟩;obtain⟨b,hb⟩:∃b,w.heap.size=b:=⟨_,rfl⟩;rw[o3]at h6 t4 f5 g3;rw[hb]at b0 g3;have C7:W.heap.size=b+1:=by rw[<-hb];exact hz
 have n4:Hid (w.heap.size=b):=hid hb;clear hu z5 o3 hz hb j1 w4 y3;go_enter Tryz.func168,Tryz.ntmps168
 go_wp2_with fail
 refine t4.mono ?_;rintro e w1 ⟨a3,oo,co,rfl,b7⟩;have o2:HX (un D oo) w1:=b7.unX (h6.ext a3);clear hW;rw[k6.out];go_wp2_with fail
 refine(a4V (un D oo) w1 1 o2 (by decide) (by decide)).mono ?_;rintro e w2 ⟨b3,u2,rfl,p1⟩;obtain⟨s2,a2,n2,c2,d2,k2,e2,rfl⟩:=p1.shape;have bf:=Bx.new w2 #[.bool false, .slice none 0 0, .slice none 0 0] 45;go_wp2_with ((with_reducible show wpList _ _ _ (⟨_, .store _ _ _,_,_,_,_⟩::_) _ _);refine a0a a0t rfl rfl bf rfl rfl (a1Q _ _ _ _ _ _ _) ?_;intro w3 r1 r2)
 have f9:Ext w2 w3:=ExtX.box ((ExtX.refl w2).alloc _) r2 (Nat.le_refl _);have b5:=b7.ext0 RC.elem b3;have t8:∀k,ob oo k=true->k<w2.heap.size:=fun k O=>(b5.block O).2;obtain⟨fb,r9⟩:∃fb,w2.heap.size=fb:=⟨_,rfl⟩;obtain⟨base,b4⟩:∃base,W.heap.size=base:=⟨_,rfl⟩;have B1:=a3.size;have A7:=b3.size;have B0:RS D w b fb base 24 45 3 w3 oo co none 0 m [] 1:=by
  subst r9 b4;refine⟨b5.ext RC.elem f9 (fun k _ h=>by simp[noY]at h) (fun k O hz=>?_),OL.nil _ _ _ _ _ _,⟨s2,a2,n2,c2,d2,k2,e2,r1,QC.mono _ _ _ _ (a0T f9 (fun k _ h=>by simp[noY]at h) fun k O hz=>?_) p1⟩,h6.ext (a3.trans (b3.trans f9)),b0.ext0 (a3.trans (b3.trans f9)),g3.out,?_,i4.trans (a3.trans (b3.trans f9)),?_,?_⟩
  ·by_cases h:D k=true
   ·exact h
   ·have h':D k=false:=by simpa using h
    have:w2.heap.size=k:=by simpa[un,b0e,ob,h']using hz
    omega
  ·by_cases h:un D oo k=true
   ·exact h
   ·have h':un D oo k=false:=by simpa using h
    obtain⟨h1,h2⟩:=a1j h';have e1:ob (none:Option Addr) k=false:=rfl;have e2:ob (some ⟨w2.heap.size,0,none⟩) k=(w2.heap.size==k):=rfl;have:w2.heap.size=k:=by simpa[un,a6O,b0e,h1,h2,e1,e2]using hz
    omega
  ·omega
  ·have:=i4.size;omega
  ·have:=i4.size;omega
 have o1:n<=co:=by have:=b7.lenCap;rw[k6.out]at this;exact this
 have e0:Hd oo n:=by have:=b7.hd;rw[k6.out]at this;exact this
 rw[r9,n4.out];clear b7 b5 t8 p1 bf r1 r2 a3 b3 f9 B1 A7 t4 b0 h6 o2 i4 r9 b4 C7;go_loopg [5,7] c (fun g p k wr=>∃(j:Nat) (po:Option Addr) (pc z:Nat) (M:Mat) (P:List Nat) (f:Rat),k= .int .i64 j/\p= .slice po z pc/\j+g=c/\Hid (P.length=z)/\Hid (rN m j=(M,P,f))/\RS D w b fb base 24 45 3 wr oo co po pc M P f)
 case atStart=>exact⟨0,none,0,0,m,[],1,rfl,rfl,by omega,hid rfl,hid rfl,B0⟩
 case round=>
  obtain⟨j,po,pc,z,M,P,f,rfl,rfl,hj,e4,i8,H⟩:=hrel;have l3:=a5Z g5.out j;rw[i8.out]at l3;have hM:=hid l3.shp;have f8:Hid (M.length=n):=hid hM.out.1;have D5:z<=n:=by have h1:P.length<=n:=l3.ref.le;rw[e4.out]at h1;exact h1
  have l4:=hid (y9.out j (by omega));rw[i8.out]at l4;have g6:a0x M=c:=a9g hM.out D4.out;have j7:=a4o (R:=QC) (un (b0e D fb) po) wr (.slice oo n co) M ⟨oo,co,by rw[f8.out],by rw[f8.out];exact o1,H.rows.sl RC.elem⟩;rw[g6]at j7;clear l3 g6;by_cases r8:j<c
  ·go_wp2_with fail
   refine j7.mono ?_;rintro e w2 ⟨rfl,rfl⟩;clear j7;go_wp2_with fail
   go_loopw [9] (fun a wx=>∃(t:Nat),a= .int .i64 t/\z<=t/\t<=n/\Hid (∀i,z<=i->i<t->ent M i j=0)/\RS D w b fb base 24 45 3 wx oo co po pc M P f) (fun a _=>n - (intOf a).toNat)
   case atStart=>exact⟨z,rfl,Nat.le_refl _,D5,hid (fun i h1 h2=>by omega),H⟩
   case round=>
    clear H;obtain⟨t,rfl,E2,E4,m0,H⟩:=hrel;by_cases j6:t<n
    ·have h9:t<M.length:=by rw[f8.out];exact j6
     obtain⟨a1,c1,r7,C1,o6,s1⟩:=H.row t h9;have t0:Hid (M[t].length=c):=hid (hM.out.2 _ (List.getElem_mem _));have t5:j<M[t].length:=by rw[t0.out];exact r8
     have d1:=hid (b1m h9 t5);rw[t0.out]at r7 o6;have t6:Hd a1 c:=by have:=s1.hd;rw[t0.out]at this;exact this
     have Q:=hid (l4.out.1 t j);have s4:=H.hz;obtain⟨g9,o9,s5,a5,n5,c5,d5,k5,e5,t7,i9,v3,i6⟩:=s1.rat QC.shaped j t5;rw[d1.out]at i6;obtain⟨x,hx⟩:∃x,ent M t j=x:=⟨_,rfl⟩;rw[hx]at d1 Q i6;have l2:=hid hx;obtain⟨y7,u4,z8⟩:=v3.out noY wr (ExtX.refl _) rfl;have i1:∀W,(Instr.indexAt 23 (.slice oo n co) (.int .i64 (t:Int))).run Tryz.prog W= .ok (.pointer (some (adr oo t))) W:=a0z a0s oo n co .i64 t e0 (by omega) rfl;have i2:∀W,(Instr.indexAt 24 (.slice a1 c c1) (.int .i64 (j:Int))).run Tryz.prog W= .ok (.pointer (some ⟨g9,o9,none⟩)) W:=by rw[<-t7];exact a0m a0B a1 c c1 .i64 j t6 (by omega)
     clear hx C1 v3 t7 i9;by_cases h0:x=0
     ·have u6:(x.num.sign==(0:Int))=true:=by rw[h0];rfl
      have y6:Hid (∀i,z<=i->i<t+1->ent M i j=0):=hid fun i h1 h2=>by
       by_cases e:i=t
       ·subst e;rw[l2.out];exact h0
       ·exact m0.out i h1 (by omega)
      clear h0;go_wp2_with fail
      refine(a7u (a6O D fb po oo) wr _ x s4 (i6.qv (by have:=Q.out;have:=A.out;omega))).mono ?_;rintro e w5 ⟨j9,rfl⟩;have a0:=H.ext0 j9;clear r7 y7 u4 z8 i1 i2;go_wp2_with fail
      go_roundw
      case rel=>exact⟨t+1,by go_num,by omega,by omega,y6,a0⟩
      case measure=>simp[intOf];omega
     ·have u6:(x.num.sign==(0:Int))=false:=a2w (by intro h;exact h0 (Rat.num_eq_zero.1 (Int.sign_eq_zero_iff_zero.1 h)))
      have p5:=hid h0;have z9:((t:Int)==(n:Int))=false:=a2w (by omega);clear h0;go_wp2_with fail
      refine(a7u (a6O D fb po oo) wr _ x s4 (i6.qv (by have:=Q.out;have:=A.out;omega))).mono ?_;rintro e w5 ⟨j9,rfl⟩;have a0:=H.ext0 j9;clear r7 y7 u4 z8 i1 i2 H j9 s4 s1 i6 t6
      go_upto_if 46 with(fail)
      have d4:z<M.length:=by rw[f8.out];omega
      have V:z<n:=by omega
      have v8:=hid (b3K h9 d4);have a6:Hid (rN m (j+1)=(out (pv (a1f M t z) z j) z j n,P++[j],(if t - z=0 then f else - f)*ent (a1f M t z) z j)):=hid (by
       have e1:z+(t - z)=t:=by omega
       have:=c0G g5.out i8.out e4.out (a:=t - z) (by rw[e1];exact m0.out) (by omega) (by rw[e1,l2.out];exact p5.out);rw[e1]at this;exact this)
      have c4:=hid (hM.out.swap j6 V);have f0:=hid (l4.out.1.swap hM.out j6 V);have j5:Hid (ent (a1f M t z) z j≠0):=hid (by rw[a3q hM.out j6 V,if_pos rfl,l2.out];exact p5.out);have p9:=hid l4.out.2;clear u6 z9 Q p5 d1 o6;go_cut []from 14 to 122 (fun wx=>∃f1,Hid (f1=if t - z=0 then f else - f)/\RS D w b fb base 24 45 3 wx oo co po pc (a1f M t z) P f1)
      case first=>
       by_cases q4:t=z
       ·have x5:((t:Int) !=(z:Int))=false:=a6q (by omega)
        have B5:RS D w b fb base 24 45 3 w5 oo co po pc (a1f M t z) P f:=by rw[q4,a5u M z d4];exact a0
        have p2:Hid (f=if t - z=0 then f else - f):=hid (if_pos (by omega)).symm;clear q4 a0;go_wp2_with fail
        go_meet
        case rel=>exact⟨f,p2,B5⟩
       ·have x5:((t:Int) !=(z:Int))=true:=a6X (by omega)
        have p2:Hid (- f=if t - z=0 then f else - f):=hid (if_neg (by omega)).symm;obtain⟨Z,cp,y1,e3,E,F⟩:=a0.row z d4;obtain⟨ax,cx,y2,p4,u5,x1⟩:=a0.row t h9;obtain⟨b7,a3⟩:=a0.rows.set1 a3Y RC.elem SlV.one t h9 (.slice Z M[z].length cp) M[z] ⟨Z,cp,rfl,E,F⟩;obtain⟨u3,k3,f3,A4⟩:=b7.cell SlV.one z (by simpa using d4);obtain⟨b5,b3⟩:=b7.set1 a3Y RC.elem SlV.one z (by simpa using d4) (.slice ax M[t].length cx) M[t] ⟨ax,cx,rfl,u5,x1.mono QC.mono (a0w a3 fun k O=>a0r O)⟩;have z3:=(a3.trans b3).drew;have b5:=b5.ext0 RC.elem (ExtX.refl (Y:=noY) _).drew;rw[v8.out]at b5;have l8:=a0.setRows z3 b5;have i1:∀W,(Instr.indexAt 23 (.slice oo n co) (.int .i64 (t:Int))).run Tryz.prog W= .ok (.pointer (some (adr oo t))) W:=a0z a0s oo n co .i64 t e0 (by omega) rfl;have i2:∀W,(Instr.indexAt 23 (.slice oo n co) (.int .i64 (z:Int))).run Tryz.prog W= .ok (.pointer (some (adr oo z))) W:=a0z a0s oo n co .i64 z e0 (by omega) rfl;clear q4 A4 b7 b5 a3 b3 a0 F x1;go_wp2_with fail
        go_region
        obtain⟨w6,j4⟩:∃w6,((w5.setCell (adr oo t) (.slice Z M[z].length cp)).setCell (adr oo z) (.slice ax M[t].length cx)).drew=w6:=⟨_,rfl⟩;rw[j4]at l8 |-;obtain⟨sf,af,nf,cf,df,kf,ef,bF,g4⟩:=l8.fac;have z0:=bF.cell 0 rfl;have z1:=bF.cell 1 rfl;have z2:=bF.cell 2 rfl;have C0:=l8.hz;clear y1 y2 e3 p4 k3 f3 i1 i2 j4 z3;go_wp2_with fail
        refine(b8F (a6O D fb po oo) w6 _ f C0 (g4.qv (by have:=p9.out;have:=A.out;omega))).mono ?_;rintro e w7 ⟨l7,u7,rfl,i5⟩;obtain⟨s7,a7,n7,c7,d7,k7,e7,rfl⟩:=i5.shape;have b8:=bF.ext0 l7;have A8:=l8.ext0 l7;clear z0 z1 z2 bF;go_wp2_with ((with_reducible show wpList _ _ _ (⟨_, .store _ _ _,_,_,_,_⟩::_) _ _);refine a0a a0t rfl rfl b8 rfl rfl (a1Q _ _ _ _ _ _ _) ?_;intro w8 r1 r2)
        have s0:=A8.setFac r2 r1 (QC.mono _ _ _ _ (a0w r2 fun k O=>a0f (a0f (a0r O))) i5)
        go_meet
        case rel=>exact⟨- f,p2,s0⟩
      case rest=>
       obtain⟨f1,v4,f6⟩:=hcut;rw[<-v4.out]at a6;have m6:Hid (hq f1<=B):=hid (by rw[v4.out];split;exact p9.out;rw[a5M];exact p9.out);obtain⟨w6,j4⟩:∃w6,w6=wc:=⟨_,rfl⟩;subst j4;obtain⟨M1,m8⟩:∃M1,a1f M t z=M1:=⟨_,rfl⟩;rw[m8]at a6 c4 f0 j5 f6;have v5:Hid (M1.length=n):=hid c4.out.1;have a4:z<M1.length:=by rw[v5.out];exact V
       have L:Hid (M1[z].length=c):=hid (c4.out.2 _ (List.getElem_mem _));have k4:j<M1[z].length:=by rw[L.out];exact r8
       have d1:=hid (b1m a4 k4);have Q:=hid (f0.out z j);have C6:Hid (M1.getD z []=M1[z]):=hid (a3n a4);obtain⟨y,hy⟩:∃y,ent M1 z j=y:=⟨_,rfl⟩;have m5:Hid (pv M1 z j=M1.set z (M1[z].map (· *(((1:Int):Rat)/y)))):=hid (by unfold pv;rw[C6.out,hy];rfl);rw[hy]at d1 Q j5 a6;have e6:=hid (c4.out.pv V j);have n1:=hid (f0.out.pv c4.out V j);have h5:Hid (BR B M1[z]):=hid (a8h f0.out _ (List.getElem_mem _));have i1:∀W,(Instr.indexAt 23 (.slice oo n co) (.int .i64 (z:Int))).run Tryz.prog W= .ok (.pointer (some (adr oo z))) W:=a0z a0s oo n co .i64 z e0 (by omega) rfl;have G:Ext w6 w6.drew:=(ExtX.refl w6).drew;clear a0 m8 hy l2 v8;go_upto_region 15 with(fail)
       go_cut []from 14 to 122 (fun wx=>RS D w b fb base 24 45 3 wx oo co po pc M1 P (f1*y))
       case first=>
        obtain⟨Z,cp,y1,e3,E,F⟩:=f6.row z a4;obtain⟨g,o,s5,a5,n5,c5,d5,k5,e5,hg,x8,d6,b6⟩:=F.rat QC.shaped j k4;obtain⟨sf,af,nf,cf,df,kf,ef,bF,g4⟩:=f6.fac;rw[d1.out]at b6;rw[L.out]at y1 E;have p7:Hd Z c:=by have:=F.hd;rw[L.out]at this;exact this
        have i2:∀W,(Instr.indexAt 24 (.slice Z c cp) (.int .i64 (j:Int))).run Tryz.prog W= .ok (.pointer (some ⟨g,o,none⟩)) W:=by rw[<-hg];exact a0m a0B Z c cp .i64 j p7 (by omega)
        have l1:=bF.ext0 G;have z0:=l1.cell 0 rfl;have z1:=l1.cell 1 rfl;have z2:=l1.cell 2 rfl;obtain⟨k0,k1,k2⟩:=d6.out noY w6.drew G rfl;have j0:w6.drew.cell? (adr oo z)=some (.slice Z c cp):=y1;have c6:=f6.ext0 G;have b1:=c6.hz;have v9:QV (mk (a6O D fb po oo) w6.drew) (.agg #[.bool sf, .slice af nf cf, .slice df kf ef]) f1:=g4.qv (by have:=m6.out;have:=A.out;omega);have b9:QV (mk (a6O D fb po oo) w6.drew) (.agg #[.bool s5, .slice a5 n5 c5, .slice d5 k5 e5]) y:=b6.qv (by have:=Q.out;have:=A.out;omega);clear F hg d6 f6 y1 e3 bF;go_wp2_with fail
        go_region_with ((go_at_call 52;(with_reducible refine(b3a (a6O D fb po oo) w6.drew _ _ f1 y b1 v9 b9).mono ?_);rintro ee w7 ⟨t1,u7,rfl,i5⟩;obtain⟨s7,a7,n7,c7,d7,k7,e7,rfl⟩:=i5.shape;have b8:=l1.ext0 t1;have g0:=b8.cell 0 rfl;have g1:=b8.cell 1 rfl;have g2:=b8.cell 2 rfl;have h0:=b8.frozen 0;have h1:=b8.frozen 1;have h2:=b8.frozen 2))
        all_goals
         obtain⟨q1,q2⟩:=b8.set3 (.bool s7) (.slice a7 n7 c7) (.slice d7 k7 e7);have s0:=(c6.ext0 t1).setFac q2 q1 (QC.mono _ _ _ _ (a0w q2 fun k O=>a0f (a0f (a0r O))) i5);clear z0 z1 z2 k0 k1 k2 j0 g0 g1 g2 h0 h1 h2 i2;go_wp2_with fail
         go_meet
         case rel=>exact s0
       case rest=>
        have y4:Hid (hq (f1*y)<=2*B):=hid (by have:=hq_mul f1 y;have:=m6.out;have:=Q.out;omega);obtain⟨f2,z4⟩:∃f2,f1*y=f2:=⟨_,rfl⟩;rw[z4]at y4 hcut a6;clear f6 G z4;obtain⟨w7,C8⟩:∃w7,w7=wc:=⟨_,rfl⟩;subst C8;have j3:=hcut;have G:Ext w7 w7.drew:=(ExtX.refl w7).drew;clear hcut;go_upto_region 16 with(fail)
        go_cut []from 14 to 122 (fun wx=>RS D w b fb base 24 45 3 wx oo co po pc (pv M1 z j) P f2)
        case first=>
         obtain⟨Z,cp,y1,e3,E,F⟩:=j3.row z a4;obtain⟨g,o,s5,a5,n5,c5,d5,k5,e5,hg,x8,d6,b6⟩:=F.rat QC.shaped j k4;rw[d1.out]at b6;have p7:Hd Z c:=by have:=F.hd;rw[L.out]at this;exact this
         have i2:∀W,(Instr.indexAt 24 (.slice Z c cp) (.int .i64 (j:Int))).run Tryz.prog W= .ok (.pointer (some ⟨g,o,none⟩)) W:=by rw[<-hg];exact a0m a0B Z c cp .i64 j p7 (by omega)
         have r5:RV (mk (a6O D fb po oo) w7.drew) (.slice Z c cp) M1[z]:=by
          rw[<-L.out];exact⟨Z,cp,rfl,E,F.qv fun q hq=>Nat.le_trans (h5.out q hq) (by have:=A.out;omega)⟩
         rw[L.out]at y1 E;have hS:Hid (∀W',Ext w7.drew W'->W'.cell? (adr oo z)=some (.slice Z c cp)/\W'.cell? ⟨g,o,none⟩=some (.bool s5)/\W'.cell? ⟨g,o+1,none⟩=some (.slice a5 n5 c5)/\W'.cell? ⟨g,o+2,none⟩=some (.slice d5 k5 e5)):=hid fun W' h=>by
          obtain⟨k0,k1,k2⟩:=d6.out noY W' (G.trans h) rfl;exact⟨(G.trans h).cell y1,k0,k1,k2⟩
         obtain⟨j0,k0,k1,k2⟩:=hS.out w7.drew (ExtX.refl _);have c6:=j3.ext0 G;have b1:=c6.hz;have b9:QV (mk (a6O D fb po oo) w7.drew) (.agg #[.bool s5, .slice a5 n5 c5, .slice d5 k5 e5]) y:=b6.qv (by have:=Q.out;have:=A.out;omega);have D6:Hid (hq (((1:Int):Rat))<=68719476736):=hid (by decide+kernel);have D1:Hid (hq (((1:Int):Rat)/y)<=68719476736):=hid (by have h3:=hq_div ((1:Int):Rat) y;have h4:hq (((1:Int):Rat))=1:=(by decide+kernel);have:=Q.out;have:=A.out;have:=a7n y;omega);have y8:Hid (M1[z].length<=1000000):=hid (by rw[L.out];omega);clear F hg d6 j3 y1 e3;go_wp2_with fail
         refine a0O 17 (fun w'=>w'.cell? (adr oo z)=some (.slice Z c cp)/\w'.cell? ⟨g,o,none⟩=some (.bool s5)/\w'.cell? ⟨g,o+1,none⟩=some (.slice a5 n5 c5)/\w'.cell? ⟨g,o+2,none⟩=some (.slice d5 k5 e5)) (by kernel_rfl) (by kernel_rfl) (hS.out _ (ExtX.refl _)) (fun C s=>?_);clear j0 k0 k1 k2;refine kt 0 s ?_;refine kt 1 s ?_;refine kt 2 s ?_;refine kt 3 s ?_;refine kt 4 s ?_;refine kt 5 s ?_;refine kt 7 s ?_;refine kt 8 s ?_;refine kt 9 s ?_;refine kt 10 s ?_;refine kt 11 s ?_;refine kt 12 s ?_;refine kt 13 s ?_;refine a0k (i:=6) (o:=⟨_,_,_,_,_,_⟩) (by kernel_rfl) rfl (fun K U=>?_);go_simp
         (go_at_call 53;(with_reducible refine(a4V (a6O D fb po oo) w7.drew 1 b1 (by decide) (by decide)).mono ?_);rintro ee w8 ⟨t1,u8,rfl,w0⟩)
         refine U.out _ _ (hS.out w8 t1) (fun C=>?_);clear U K
         (try simp only[Act.put,List.setIfInBounds_toArray,List.set_cons_zero,List.set_cons_succ])
         obtain⟨s8,a8,n8,c8,d8,k8,e8,rfl⟩:=w0.shape;have C9:=b1.ext t1;have A6:=mkx QV.mono b9 t1;have A1:=w0.qv D6.out;refine a0k (i:=14) (o:=⟨_,_,_,_,_,_⟩) (by kernel_rfl) rfl (fun K U=>?_);go_simp
         (go_at_call 221;(with_reducible refine(c1x (a6O D fb po oo) w8 _ _ _ y C9 A1 A6 j5.out).mono ?_);rintro ee w9 ⟨t2,u9,rfl,g7⟩)
         refine U.out _ _ (hS.out w9 (t1.trans t2)) (fun C=>?_);clear U K
         (try simp only[Act.put,List.setIfInBounds_toArray,List.set_cons_zero,List.set_cons_succ])
         obtain⟨s9,a9,n9,c9,d9,k9,e9,rfl⟩:=g7.shape;have b2:=t1.trans t2;have i9:=b1.ext b2;have q6:=mkx RV.mono r5 b2;have g8:=g7.qv D1.out;refine a0k (i:=15) (o:=⟨_,_,_,_,_,_⟩) (by kernel_rfl) rfl (fun K U=>?_);go_simp
         (go_at_call 233;(with_reducible refine(b7t (a6O D fb po oo) w9 _ _ _ _ i9 q6 g8 y8.out).mono ?_);rintro ee j2 ⟨t3,C3,rfl,d3⟩)
         refine U.out _ _ (hS.out j2 (b2.trans t3)) (fun C=>?_);clear U K
         (try simp only[Act.put,List.setIfInBounds_toArray,List.set_cons_zero,List.set_cons_succ])
         obtain⟨o8,q3,rfl,h7,n3⟩:=d3;have A2:=b2.trans t3;have i0:=c6.ext0 A2;obtain⟨_,_,p0,fz,_,_⟩:=i0.row z a4;refine kt 16 s ?_;refine a0v (i:=17) (o:=⟨_,_,_,_,_,_⟩) (by kernel_rfl) rfl (by decide) (by kernel_rfl) (fun K U=>?_);go_simp
         refine U.out _ _ ?_;clear U K;obtain⟨m2,m3⟩:=i0.rows.set1 a3Y RC.elem SlV.one z a4 (.slice o8 M1[z].length q3) (M1[z].map (· *(((1:Int):Rat)/y))) ⟨o8,q3,by rw[List.length_map],h7,n3⟩;have T:=i0.setRows m3 m2;have c0:=T;rw[<-m5.out]at c0;clear p0 fz i2 m2 m3 T C s;go_wp2_with fail
         go_meet
         case rel=>exact c0
        case rest=>
         have q7:=hcut;clear hcut j3 G i1;obtain⟨w8,B4⟩:∃w8,w8=wc:=⟨_,rfl⟩;subst B4;obtain⟨I,o7⟩:∃I,pv M1 z j=I:=⟨_,rfl⟩;rw[o7]at q7 a6 e6 n1;have m9:Hid (I.length=n):=hid e6.out.1;have x7:RS D w b fb base 24 45 3 w8 oo co po pc (out I z j 0) P f2:=by rw[b6n];exact q7
         have m4:=hid (a8h n1.out);have j8:Hid (∀wx,OL RC 1 (un (b0e D fb) po) base 24 wx oo co (out I z j n)->base<=wx.heap.size):=hid fun wx h=>by
          obtain⟨b0,o0,j8⟩:=e0 (by omega);have:=h.block (k:=b0) (by rw[j8];simp[ob]);omega
         have i1:∀W,(Instr.indexAt 23 (.slice oo n co) (.int .i64 (z:Int))).run Tryz.prog W= .ok (.pointer (some (adr oo z))) W:=a0z a0s oo n co .i64 z e0 (by omega) rfl;clear o7 q7 k4 L d1 Q m5 h5 j5;go_wp2_with fail
         go_loopw [10] (fun a wx=>∃(i:Nat),a= .int .i64 i/\i<=n/\RS D w b fb base 24 45 3 wx oo co po pc (out I z j i) P f2) (fun a _=>n - (intOf a).toNat)
         case atStart=>exact⟨0,rfl,Nat.zero_le _,x7⟩
         case round=>
          clear x7;obtain⟨i,rfl,hi,H⟩:=hrel;by_cases B8:i<n
          ·by_cases l5:i=z
           ·have x3:((i:Int) !=(z:Int))=false:=a6q (by omega)
            have B6:RS D w b fb base 24 45 3 wr oo co po pc (out I z j (i+1)) P f2:=by subst l5;rw[<-b6o];exact H
            clear l5 H;go_wp2_with fail
            go_roundw
            case rel=>exact⟨i+1,by go_num,by omega,B6⟩
            case measure=>simp[intOf];omega
           ·have x3:((i:Int) !=(z:Int))=true:=a6X (by omega)
            have l0:i<I.length:=by rw[m9.out];exact B8
            have l6:z<I.length:=by rw[m9.out];exact V
            have m1:i<(out I z j i).length:=by rw[a4E];exact l0
            have s6:z<(out I z j i).length:=by rw[a4E];exact l6
            have x6:(out I z j i)[i]=I[i]:=by rw[a5C m1 l0,if_neg (by omega)]
            have x4:(out I z j i)[z]=I[z]:=by rw[a5C s6 l6,if_neg (by omega)]
            have J:=hid (b9d (m:=I) (t:=z) (col:=j) l0 l5);rw[a3n l6]at J;obtain⟨ai,ci,y1,e3,f4,f7⟩:=H.row i m1;obtain⟨Z,cp,y2,p4,E,F⟩:=H.row z s6;rw[x6]at y1 f4 f7;rw[x4]at y2 E F;have S:Hid (I[i].length=c):=hid (e6.out.2 _ (List.getElem_mem _));have c3:Hid (I[z].length=c):=hid (e6.out.2 _ (List.getElem_mem _));have s3:=hid (m4.out I[i] (List.getElem_mem _));have q9:=hid (m4.out I[z] (List.getElem_mem _));have r3:j<I[i].length:=by rw[S.out];exact r8
            obtain⟨g,o,s5,a5,n5,c5,d5,k5,e5,hg,x8,d6,b6⟩:=f7.rat QC.shaped j r3;have v6:I[i].getD j 0=I[i][j]:=by rw[List.getD_eq_getElem?_getD,List.getElem?_eq_getElem r3];rfl
            rw[v6]at J;have l9:=hid (s3.out I[i][j] (List.getElem_mem _));obtain⟨v,hv⟩:∃v,I[i][j]=v:=⟨_,rfl⟩;rw[hv]at J b6 l9;clear hv v6 x6 x4;obtain⟨row,o4⟩:∃row,I[i]=row:=⟨_,rfl⟩;rw[o4]at J f7 y1 f4 S s3;obtain⟨d0,y5⟩:∃d0,I[z]=d0:=⟨_,rfl⟩;rw[y5]at J F y2 E c3 q9;have D2:Hd ai c:=by have:=f7.hd;rw[S.out]at this;exact this
            have G:Ext wr wr.drew:=(ExtX.refl wr).drew;have i2:∀W,(Instr.indexAt 24 (.slice ai c ci) (.int .i64 (j:Int))).run Tryz.prog W= .ok (.pointer (some ⟨g,o,none⟩)) W:=by rw[<-hg];exact a0m a0B ai c ci .i64 j D2 (by omega)
            have i3:∀W,(Instr.indexAt 23 (.slice oo n co) (.int .i64 (i:Int))).run Tryz.prog W= .ok (.pointer (some (adr oo i))) W:=a0z a0s oo n co .i64 i e0 (by omega) rfl;have C2:RV (mk (a6O D fb po oo) wr.drew) (.slice ai c ci) row:=by
             rw[<-S.out];exact⟨ai,ci,rfl,f4,f7.qv fun q hq=>Nat.le_trans (s3.out q hq) (by have:=A.out;omega)⟩
            have r5:RV (mk (a6O D fb po oo) wr.drew) (.slice Z c cp) d0:=by
             rw[<-c3.out];exact⟨Z,cp,rfl,E,F.qv fun q hq=>Nat.le_trans (q9.out q hq) (by have:=A.out;omega)⟩
            rw[S.out]at y1;rw[c3.out]at y2;have hS:Hid (∀W',Ext wr.drew W'->W'.cell? (adr oo i)=some (.slice ai c ci)/\W'.cell? (adr oo z)=some (.slice Z c cp)/\W'.cell? ⟨g,o,none⟩=some (.bool s5)/\W'.cell? ⟨g,o+1,none⟩=some (.slice a5 n5 c5)/\W'.cell? ⟨g,o+2,none⟩=some (.slice d5 k5 e5)):=hid fun W' h=>by
             obtain⟨k0,k1,k2⟩:=d6.out noY W' (G.trans h) rfl;exact⟨(G.trans h).cell y1,(G.trans h).cell y2,k0,k1,k2⟩
            obtain⟨j0,C4,k0,k1,k2⟩:=hS.out wr.drew (ExtX.refl _);have c6:=H.ext0 G;have b1:=c6.hz;have b9:QV (mk (a6O D fb po oo) wr.drew) (.agg #[.bool s5, .slice a5 n5 c5, .slice d5 k5 e5]) v:=b6.qv (by have:=l9.out;have:=A.out;omega);have B2:Hid (hq (-v)<=68719476736):=hid (by rw[a5M];have:=l9.out;have:=A.out;omega);have i7:Hid (BR 68719476736 (d0.map (· * -v))):=hid fun q hq=>by
             obtain⟨x,hx,rfl⟩:=List.mem_map.1 hq;have h1:=q9.out x hx;have h2:=hq_mul x (-v);rw[a5M]at h2;have:=l9.out;have:=A.out;omega
            have B7:Hid (d0.length<=1000000):=hid (by rw[c3.out];omega);have D3:Hid (row.length<=1000000):=hid (by rw[S.out];omega);have z6:Hid ((d0.map (· * -v)).length=row.length):=hid (by rw[List.length_map,c3.out,S.out]);have n0:=hid m1;obtain⟨PR,p3⟩:∃PR,d0.map (· * -v)=PR:=⟨_,rfl⟩;have x2:=hid p3;rw[p3]at J i7 z6;obtain⟨NR,r4⟩:∃NR,List.zipWith (· + ·) row PR=NR:=⟨_,rfl⟩;have z7:=hid r4;rw[r4]at J;clear f7 F hg d6 H y1 e3 y2 p4 o4 y5 l5 l0 l6 s6 b6 m1 r3 f4 E p3 r4;go_wp2_with fail
            refine a0O 21 (fun w'=>w'.cell? (adr oo i)=some (.slice ai c ci)/\w'.cell? (adr oo z)=some (.slice Z c cp)/\w'.cell? ⟨g,o,none⟩=some (.bool s5)/\w'.cell? ⟨g,o+1,none⟩=some (.slice a5 n5 c5)/\w'.cell? ⟨g,o+2,none⟩=some (.slice d5 k5 e5)) (by kernel_rfl) (by kernel_rfl) (hS.out _ (ExtX.refl _)) (fun C s=>?_);clear j0 C4 k0 k1 k2;refine kt 0 s ?_;refine kt 1 s ?_;refine kt 2 s ?_;refine kt 3 s ?_;refine kt 4 s ?_;refine kt 5 s ?_;refine kt 6 s ?_;refine kt 7 s ?_;refine kt 8 s ?_;refine kt 9 s ?_;refine kt 10 s ?_;refine kt 11 s ?_;refine kt 12 s ?_;refine kt 13 s ?_;refine kt 14 s ?_;refine kt 15 s ?_;refine kt 16 s ?_;refine a0k (i:=17) (o:=⟨_,_,_,_,_,_⟩) (by kernel_rfl) rfl (fun K U=>?_);go_simp
            (go_at_call 134;(with_reducible refine(b8F (a6O D fb po oo) wr.drew _ v b1 b9).mono ?_);rintro ee w9 ⟨t1,u9,rfl,g7⟩)
            refine U.out _ _ (hS.out w9 t1) (fun C=>?_);clear U K
            (try simp only[Act.put,List.setIfInBounds_toArray,List.set_cons_zero,List.set_cons_succ])
            obtain⟨s9,a9,n9,c9,d9,k9,e9,rfl⟩:=g7.shape;have i9:=b1.ext t1;have q6:=mkx RV.mono r5 t1;have g8:=g7.qv B2.out;refine a0k (i:=18) (o:=⟨_,_,_,_,_,_⟩) (by kernel_rfl) rfl (fun K U=>?_);go_simp
            (go_at_call 233;(with_reducible refine(b7t (a6O D fb po oo) w9 _ _ d0 (-v) i9 q6 g8 B7.out).mono ?_);rintro ee j2 ⟨t2,C3,rfl,d3⟩)
            refine U.out _ _ (hS.out j2 (t1.trans t2)) (fun C=>?_);clear U K
            (try simp only[Act.put,List.setIfInBounds_toArray,List.set_cons_zero,List.set_cons_succ])
            rw[x2.out]at d3;have p8:=d3.rv i7.out;obtain⟨o8,q3,rfl,h7,n3⟩:=d3;have b2:=t1.trans t2;have u1:=b1.ext b2;have y0:=mkx RV.mono C2 b2;refine a0k (i:=19) (o:=⟨_,_,_,_,_,_⟩) (by kernel_rfl) rfl (fun K U=>?_);go_simp
            (go_at_call 234;(with_reducible refine(c1y (a6O D fb po oo) j2 _ _ row _ u1 y0 p8 D3.out z6.out).mono ?_);rintro ee E0 ⟨t3,E1,rfl,n6⟩)
            refine U.out _ _ (hS.out E0 (b2.trans t3)) (fun C=>?_);clear U K
            (try simp only[Act.put,List.setIfInBounds_toArray,List.set_cons_zero,List.set_cons_succ])
            rw[z7.out]at n6;obtain⟨x0,v7,rfl,q5,t9⟩:=n6;have T:=c6.ext0 (b2.trans t3);obtain⟨_,_,p0,fz,_,_⟩:=T.row i n0.out;refine kt 20 s ?_;refine a0v (i:=21) (o:=⟨_,_,_,_,_,_⟩) (by kernel_rfl) rfl (by decide) (by kernel_rfl) (fun K U=>?_);go_simp
            refine U.out _ _ ?_;clear U K;obtain⟨o5,m7⟩:=T.rows.set1 a3Y RC.elem SlV.one i n0.out (.slice x0 NR.length v7) NR ⟨x0,v7,rfl,q5,t9⟩;have c0:=T.setRows m7 o5;rw[J.out]at c0;clear p0 fz i2 i3 o5 m7 T C s;go_wp2_with fail
            go_roundw
            case rel=>exact⟨i+1,by go_num,by omega,c0⟩
            case measure=>simp[intOf];omega
          ·have q0:i=n:=by omega
           subst q0;have b4:=j8.out wr H.rows;have C5:∀k,un (b0e D fb) oo k=true->k<wr.heap.size:=fun k O=>H.hz k (by
            by_cases h:b0e D fb k=true
            ·exact a0f (a0f h)
            ·exact a0r (by simpa[un,h]using O))
           have hP:=H.piv;have x9:Hid ((P++[j]).length=z+1):=hid (by rw[List.length_append,e4.out];rfl);clear i1 j8;go_wp2_with (at_builtin;refine a0u (l:=P) a2h rfl (a0c.elem .i64) b4 C5 z e4.out rfl rfl hP (.int .i64 (j:Int)) j rfl rfl (by omega) (by omega) ?_;intro A9 B3 j2 B9 l7 D8)
           have A3:=H.push l7 B9 D8;go_roundg (c - (j+1))
           case measure=>omega
           case rel=>exact⟨j+1,A9,B3,z+1,_,_,_,by go_num,rfl,by omega,x9,a6,A3⟩
    ·have q0:t=n:=by omega
     subst q0;have z9:((t:Int)==(t:Int))=true:=a7q rfl;have A0:=hid (b9e g5.out i8.out e4.out m0.out);clear m0;go_wp2_with fail
     go_roundg (c - (j+1))
     case measure=>omega
     case rel=>exact⟨j+1,po,pc,z,M,P,f,by go_num,rfl,by omega,e4,A0,H⟩
  ·have D0:j=c:=by omega
   subst D0;go_wp2_with fail
   refine j7.mono ?_;rintro e w2 ⟨rfl,rfl⟩;obtain⟨sf,af,nf,cf,df,kf,ef,bF,g4⟩:=H.fac;have N:=H.res;have z0:=bF.cell 0 rfl;have z1:=bF.cell 1 rfl;have z2:=bF.cell 2 rfl;have g0:=N.cell 0 rfl;have g1:=N.cell 1 rfl;have g2:=N.cell 2 rfl;have h0:=N.frozen 0;have h1:=N.frozen 1;have h2:=N.frozen 2;obtain⟨q1,q2⟩:=N.set3 (.bool sf) (.slice af nf cf) (.slice df kf ef);have A5:=q1.ext0 (ExtX.refl (Y:=noY) _).drew;have h8:=q2.drew;have q8:QC (mk X _) (.agg #[.bool sf, .slice af nf cf, .slice df kf ef]) f:=QC.mono _ _ _ _ (f5.out _) (QC.mono _ _ _ _ (a0w h8 fun k O=>b3L g3.out O) (QC.mono _ _ _ _ (a1u fun k _ O=>a0f (a0f (a0f O))) g4));have p6:Ext w _:=ExtX.box H.ext h8 (by rw[n4.out];exact Nat.le_refl _);have r6:Sl RC 1 (mk X _) oo M:=(((H.rows.sl RC.elem).mono RC.mono (a1u fun k _ O=>a0f (a0f O))).mono RC.mono (a0w h8 fun k O=>b3L g3.out O)).mono RC.mono (f5.out _);have r0:Sl (a0c .i64) 1 (mk X _) po P:=(((H.piv.sl (a0c.elem _)).mono (a0c.mono _) (a1u fun k _ O=>a0f (a0f O))).mono (a0c.mono _) (a0w h8 fun k O=>b3L g3.out O)).mono (a0c.mono _) (f5.out _);have D9:P.length<=pc:=H.piv.lenCap;clear N bF H g4 q1 q2 h8;go_wp2_with fail
   go_region
   go_wp2_with fail
   refine bodyPost_ret (b0g (P:=Tryz.prog) (c:=4) (d:=2) (e:=3) rfl rfl a0t A5 rfl) rfl ?_;have D7:∀w9,Ext w w9->Sl RC 1 (mk X w9) oo M->Sl (a0c .i64) 1 (mk X w9) po P->QC (mk X w9) (.agg #[.bool sf, .slice af nf cf, .slice df kf ef]) f->b7A X w (rN m j) (.returned (.tuple #[.slice oo n co, .slice po z pc, .agg #[.bool sf, .slice af nf cf, .slice df kf ef]])) w9:=fun w9 p6 r6 r0 q8=>by
    rw[i8.out];exact⟨p6,oo,co,po,pc,_,by rw[f8.out,e4.out],by rw[f8.out];exact o1,D9,r6,r0,q8⟩
   exact D7 _ p6 r6 r0 q8
end Go.Proofs.YtidbbddagfnfbaaGreat
namespace Go.Lin
open Go.Lim
noncomputable def a9y (m:Mat) (n:Nat):Rat:=if(rN m n).2.1.length<n then 0 else(rN m n).2.2
theorem b6p {n:Nat} {m:Mat} (c:n<=4) (g:Shp n n m):a9y m n=det n (ent m):=by
 have h:=a5Z g n;obtain⟨d,f,i⟩:=h.re;have b:=f.det_same c;have a:=h.ref.det c;unfold a9y;by_cases e:(rN m n).2.1.length=n
 ·rw[if_pos e]at a
  rw[if_neg (by omega)];rw[a]at b;grind
 ·have:=h.ref.le
  rw[if_neg e]at a;rw[if_pos (by omega)];rw[a]at b;have:=f.ne;grind
theorem b3X {n:Nat} {m:Mat} (a:n<=4) (b:Shp n n m):a9y m n=b9I m n:=by rw[b6p a b,a8k a b]
end Go.Lin
namespace Go.Proofs.YtidbbddagfnfbaaGreat
open Go.RowKit Go.Rep Go.Lim Go.Lin
def c0M (X:Nat->Bool) (w:World) (S:Mat×List Nat) (e:Ending) (w':World):Prop:=Ext w w'/\∃oo co po pc,e= .returned (.tuple #[.slice oo S.1.length co, .slice po S.2.length pc, .int .i64 0])/\S.1.length<=co/\S.2.length<=pc/\Sl RC 1 (mk X w') oo S.1/\Sl (a0c .i64) 1 (mk X w') po S.2
theorem b6q (X:Nat->Bool) (w:World) (u:Value) (m:List (List Rat)) (n c:Nat) (F:HX X w) (z:MV (mk X w) u m) (q:a0H m=true) (j:m.length=n) (d:a0x m=c) (E:a7d m c):Calls Tryz.prog 165 #[u] w (c0M X w ((rN m c).1,(rN m c).2.1)):=by
 obtain⟨i,p,k,_,_⟩:=a0U q;rw[j,d]at i;rw[j]at p;rw[d]at k;have a:=a4j QV.mono X w u m z (by omega);rw[q]at a;have g:=hid (fun w' (h:Ext w w')=>a4F X w' u m n c (F.ext h) (mkx MV.mono z h) i d (by omega) (by omega) E);obtain⟨S,y⟩:∃S,rN m c=S:=⟨_,rfl⟩;rw[y]at g |-;clear q y;go_enter Tryz.func165,Tryz.ntmps165
 go_wp2_with fail
 refine a.mono ?_;rintro e G ⟨f,rfl⟩;have A:=g.out G f;clear a;go_wp2_with fail
 refine A.mono ?_;rintro e s ⟨v,oo,co,po,pc,P,rfl,l,t,r,x,o⟩;obtain⟨O,H,J,L,I,K,M,rfl⟩:=o.shape;have B:=Bx.new s #[.bool false, .slice none 0 0, .slice none 0 0] 45;clear A;go_wp2_with ((with_reducible show wpList _ _ _ (⟨_, .store _ _ _,_,_,_,_⟩::_) _ _);refine a0a a0t rfl rfl B rfl rfl (a1Q _ _ _ _ _ _ _) ?_;intro C N D)
 have b:Ext s C:=ExtX.box ((ExtX.refl s).alloc _) D (Nat.le_refl _);go_ret3
 exact⟨f.trans (v.trans b),oo,co,po,pc,rfl,l,t,r.mono RC.mono (a0l b),x.mono (a0c.mono _) (a0l b)⟩
set_option maxRecDepth 100000 in
theorem b9j (X:Nat->Bool) (w:World) (u:Value) (m:List (List Rat)) (n:Nat) (hX:HX X w) (V:MV (mk X w) u m) (K:a0H m=true) (r:m.length=n) (s:a0x m=n) (hT:a7d m n):Calls Tryz.prog 167 #[u] w (fun e w'=>Ext w w'/\∃u,e= .returned (.tuple #[u, .int .i64 0])/\QC (mk X w') u (a9y m n)):=by
 obtain⟨i,J,R,_,_⟩:=a0U K;rw[r,s]at i;rw[r]at J;obtain⟨W,hW,l,b0,hz⟩:=a1g w #[.bool false, .slice none 0 0, .slice none 0 0] 45;have D:HX (a0e X w.heap.size 1) W:=hX.boxes hz;have g:MV (mk (a0e X w.heap.size 1) W) u m:=MV.mono _ _ _ _ (a0o l) V;have j:=a4j QV.mono _ W u m g (by omega);rw[K]at j;have c:=hid (fun w' (h:Ext W w')=>a4o _ w' u m (mkx MV.mono g h));rw[s]at c;have k:=hid (fun w' (h:Ext W w')=>a4F _ w' u m n n (D.ext h) (mkx MV.mono g h) i s (by omega) (by omega) hT);have hdr:Hid (a9y m n=if(rN m n).2.1.length<n then 0 else(rN m n).2.2):=hid rfl;have b:=hid ((a5Z i n).ref.le);obtain⟨S,O⟩:∃S,rN m n=S:=⟨_,rfl⟩;rw[O]at k hdr b;obtain⟨M,P,f⟩:=S
 dsimp only at hdr b
 obtain⟨ua,a0,rfl,T,F⟩:=V;rw[r]at j c k |-;have a1:((n:Int) !=(n:Int))=false:=a6q rfl;clear K O i g F;go_enter Tryz.func167,Tryz.ntmps167
 go_wp2_with fail
 refine j.mono ?_;rintro e w1 ⟨a,rfl⟩;have Y:=c.out w1 a;clear j;go_wp2_with fail
 refine Y.mono ?_;rintro e w2 ⟨rfl,rfl⟩;have Q:=k.out w2 a;clear Y;go_wp2_with fail
 refine Q.mono ?_;rintro e o ⟨q,oo,co,po,pc,uf,rfl,Z,y,L,E,p⟩
 dsimp only at y p |-
 obtain⟨s2,a2,n2,c2,d2,k2,e2,rfl⟩:=p.shape;have U:=Bx.new o #[.bool false, .slice none 0 0, .slice none 0 0] 45;have N:=b0.ext0 (a.trans q);obtain⟨I,x⟩:∃I,P.length=I:=⟨_,rfl⟩;rw[x]at hdr b |-;clear Q L E y x;by_cases z:I<n
 ·have t:Hid (a9y m n=0):=hid (by rw[hdr.out,if_pos z])
  go_wp2_with ((with_reducible show wpList _ _ _ (⟨_, .store _ _ _,_,_,_,_⟩::_) _ _);first|(refine a0a a0t rfl rfl U rfl rfl (a1Q _ _ _ _ _ _ _) ?_;intro H B v;have G:=N.ext0 (ExtX.box ((ExtX.refl o).alloc _) v (Nat.le_refl _)))|(refine a0a a0t rfl rfl G rfl rfl (a1Q _ _ _ _ _ _ _) ?_;intro w5 C A))
  have d:Ext o H:=ExtX.box ((ExtX.refl o).alloc _) v (Nat.le_refl _);exact bodyPost_ret (a1x rfl rfl a0t C rfl) rfl ⟨ExtX.box (l.trans (a.trans (q.trans d))) A (by omega),_,rfl,by rw[t.out];exact QC.zero _⟩
 ·have t:Hid (a9y m n=f):=hid (by rw[hdr.out,if_neg z])
  go_wp2_with ((with_reducible show wpList _ _ _ (⟨_, .store _ _ _,_,_,_,_⟩::_) _ _);first|(refine a0a a0t rfl rfl U rfl rfl (a1Q _ _ _ _ _ _ _) ?_;intro H B v;have G:=N.ext0 (ExtX.box ((ExtX.refl o).alloc _) v (Nat.le_refl _));have k0:=B.cell 0 rfl;have k1:=B.cell 1 rfl;have k2:=B.cell 2 rfl)|(refine a0a a0t rfl rfl G rfl rfl (a1Q _ _ _ _ _ _ _) ?_;intro w5 C A))
  have d:Ext o H:=ExtX.box ((ExtX.refl o).alloc _) v (Nat.le_refl _);have h7:=QC.mono _ _ _ _ a0n (QC.mono _ _ _ _ (a0h A (Nat.le_refl _) (by omega)) (mkx QC.mono p d));exact bodyPost_ret (a1x rfl rfl a0t C rfl) rfl ⟨ExtX.box (l.trans (a.trans (q.trans d))) A (by omega),_,rfl,by rw[t.out];exact h7⟩
theorem b3Y {w wr:World} (h:Hid (∃m,wr=w.drewN m)) (n:Nat):∃m,wr.drewN n=w.drewN m:=by
 obtain⟨m,rfl⟩:=h;exact⟨_,World.drewN_drewN _ _ _⟩
end Go.Proofs.YtidbbddagfnfbaaGreat
