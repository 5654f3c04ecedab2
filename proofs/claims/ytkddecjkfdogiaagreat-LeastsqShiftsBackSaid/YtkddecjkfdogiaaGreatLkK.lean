/- The inverse that the program computes. Conditions: at most four rows where a determinant is spoken of. Least squares, as lists: what the program and the reference return. Conditions: at most four columns. Least squares: moments row by row, in any order; responses that are changed. Conditions: none. Readings for least squares: lists of booleans, moments, fits. Conditions: none. Structs of more cells in boxes; masks of a fresh box. Conditions: none. The memory of the reference's elimination: rows, pivots, factor, and what each step leaves of them. Conditions: none. reference 06: what its elimination needs of plain lists. Conditions: none. Least squares: bounds of digits. Conditions: at most 8 rows and 4 columns of numbers of at most 370 digits. reference 06: Columns, Formed. Conditions: lengths far below any machine's. reference 06: reduce. Conditions: few rows and columns, numbers of few digits. reference 06: Reduce, Rank, Det. Conditions: few rows and columns, numbers of few digits. reference 06: SameInts. Conditions: lengths far below any machine's. slices.Index, slices.Contains of integers; design: Alias; reference 12: Alias. Conditions: numbers of few digits. A drawn region with two appends: the append as one operation, its literal made before; masks of two lists. Conditions: none. -/
import Derived.Test.YtkddecjkfdogiaaGreatLkJ
import Derived.Deep.DrawnRows
import Derived.Deep.LoopGhost
import Derived.BigQuiet
namespace Go.Lin
open Go.Lim
def a1A (m:Mat) (n:Nat):Mat:=(List.range n).map fun i=>m.getD i []++(List.replicate n 0).set i 1
theorem a1j {m:Mat} {n:Nat} (hs:Shp n n m):Shp n (2*n) (a1A m n):=⟨by simp[a1A],fun r hr=>by
 obtain⟨i,hi,rfl⟩:=List.mem_map.1 hr;rw[List.length_append,hs.row (List.mem_range.1 hi),List.length_set,List.length_replicate];omega⟩
theorem a2L {m:Mat} {n:Nat} (hs:Shp n n m) (i:Nat) (hi:i<n) (j:Nat) (hj:j<2*n):ent (a1A m n) i j=if j<n then ent m i j else if j=n+i then 1 else 0:=by
 have hr:=hs.row hi;have e:(a1A m n).getD i []=m.getD i []++(List.replicate n 0).set i 1:=by simp[a1A,List.getD_eq_getElem?_getD,hi]
 unfold ent;rw[e,List.getD_eq_getElem?_getD];by_cases h:j<n
 ·rw[if_pos h,List.getElem?_append_left (by omega),<-List.getD_eq_getElem?_getD]
 ·rw[if_neg h,List.getElem?_append_right (by omega),hr,List.getElem?_set]
  by_cases h2:i=j - n
  ·rw[if_pos h2,if_pos (show j=n+i by omega)]
   simp[show i<n from hi]
  ·rw[if_neg h2,if_neg (show¬j=n+i by omega)]
   simp[show j - n<n by omega]
theorem b1R {m:Mat} {n:Nat} (hs:Shp n n m):LI n (2*n) (ent (a1A m n)):=fun y hy i hi=>by
 have h1:=hy (n+i) (by omega);unfold cmb at h1;rw[a1U i hi fun q hq hqi=>by
  rw[a2L hs q hq (n+i) (by omega),if_neg (by omega),if_neg (by omega)];grind]at h1
 rw[a2L hs i hi (n+i) (by omega),if_neg (by omega),if_pos rfl]at h1;grind
theorem a4t {m:Mat} {n:Nat} (hs:Shp n n m):(a1i (a1A m n) (2*n)).2.length=n:=by
 obtain⟨h1,h2,d,h3⟩:=a0X (a1j hs);exact(b1R hs).full h2 h3
theorem RE.cols {n c c':Nat} {f g:F2} {d:Rat} (h:RE n c f g d) (hc:c'<=c):RE n c' f g d:=by
 induction h with
 |same h=>exact .same fun i hi j hj=>h i hi j (by omega)
 |swap i k hi hk hik h1 h2 h3=>exact .swap i k hi hk hik (fun j hj=>h1 j (by omega)) (fun j hj=>h2 j (by omega)) (fun r hr a b j hj=>h3 r hr a b j (by omega))
 |scale i a hi ha h1 h3=>exact .scale i a hi ha (fun j hj=>h1 j (by omega)) (fun r hr a j hj=>h3 r hr a j (by omega))
 |add i k a hi hk hik h1 h3=>exact .add i k a hi hk hik (fun j hj=>h1 j (by omega)) (fun r hr a j hj=>h3 r hr a j (by omega))
 |trans _ _ ih1 ih2=>exact(ih1).trans (ih2)
def a3P (m:Mat) (n:Nat):Prop:=0<n/\n<=(a1i (a1A m n) (2*n)).2.getD (n - 1) 0
theorem a8B {m:Mat} {n:Nat} (hs:Shp n n m):∃d,RE n n (ent m) (ent (a1i (a1A m n) (2*n)).1) d:=by
 obtain⟨h1,h2,d,h3⟩:=a0X (a1j hs);refine⟨d,(h3.cols (show n<=2*n by omega)).congr fun i hi j hj=>?_⟩;rw[a2L hs i hi j (by omega),if_pos hj]
theorem b1S {m:Mat} {n:Nat} (hn:n<=4) (hs:Shp n n m):a3P m n↔b5H m n=0:=by
 rw[a8r hn hs];obtain⟨h1,h2,_,h3⟩:=a0X (a1j hs);obtain⟨d,hd⟩:=a8B hs;have hfull:=a4t hs;have h4:=hd.det_same hn;have h5:=hd.ne;obtain⟨⟨R,p⟩,hS⟩:∃S,a1i (a1A m n) (2*n)=S:=⟨_,rfl⟩;unfold a3P;rw[hS]at h1 h2 h3 hd hfull h4 |-
 dsimp only at h1 h2 h3 hd hfull h4 |-
 by_cases h0:n=0
 ·subst h0
  constructor
  ·intro h;omega
  ·intro h;exfalso;rw[b5S]at h;grind
 ·have hl:n - 1<p.length:=by omega
  have e:p.getD (n - 1) 0=p[n - 1]:=by simp[List.getD_eq_getElem?_getD,hl]
  rw[e];constructor
  ·rintro ⟨_,hge⟩
   have h6:det n (ent R)=0:=a8j hn _ (n - 1) (by omega) fun j hj=>h2.left (n - 1) hl j (by omega);rw[h6]at h4;rcases Rat.mul_eq_zero.1 h4.symm with h7|h7
   ·exact absurd h7 h5
   ·exact h7
  ·intro h
   refine⟨by omega,Classical.byContradiction fun hlt=>?_⟩;have hc:∀i (hi:i<p.length),p[i]<n:=fun i hi=>by
    by_cases h8:i=n - 1
    ·subst h8;omega
    ·have:=h2.inc i (n - 1) (by omega) hl;omega
   have h6:det n (ent R)=1:=by rw[a0Y (h2.unit hfull hc),a8k hn]
   rw[h6,h]at h4;grind
noncomputable def a3u (m:Mat) (n:Nat):Mat:=(a1i (a1A m n) (2*n)).1.map (·.drop n)
theorem a2W {m:Mat} {n:Nat} (hs:Shp n n m):Shp n n (a3u m n):=by
 obtain⟨h1,_⟩:=a0X (a1j hs);refine⟨by simp[a3u,h1.1],fun r hr=>?_⟩;obtain⟨x,hx,rfl⟩:=List.mem_map.1 hr;rw[List.length_drop,h1.2 x hx];omega
theorem a8C {m:Mat} {n:Nat} (hs:Shp n n m) (i:Nat) (hi:i<n) (j:Nat):ent (a3u m n) i j=ent (a1i (a1A m n) (2*n)).1 i (n+j):=by
 obtain⟨h1,_⟩:=a0X (a1j hs);have hil:i<(a1i (a1A m n) (2*n)).1.length:=by rw[h1.1];exact hi
 unfold ent a3u;simp[List.getD_eq_getElem?_getD,hil]
def a2X:F2:=fun i j=>if i=j then 1 else 0
theorem a7c {m:Mat} {n:Nat} (hs:Shp n n m) (hn:¬a3P m n):Eqm n n (ent (a1i (a1A m n) (2*n)).1) a2X:=by
 obtain⟨h1,h2,_,h3⟩:=a0X (a1j hs);have hfull:=a4t hs;unfold a3P at hn;refine h2.unit hfull fun i hi=>?_;have hl:n - 1<(a1i (a1A m n) (2*n)).2.length:=by omega
 have e:(a1i (a1A m n) (2*n)).2.getD (n - 1) 0=(a1i (a1A m n) (2*n)).2[n - 1]:=by simp[List.getD_eq_getElem?_getD,hl]
 rw[e]at hn;by_cases h8:i=n - 1
 ·subst h8;omega
 ·have:=h2.inc i (n - 1) (by omega) hl;omega
theorem a8D (n:Nat) (f:Nat->Rat):sm (2*n) f=sm n f+sm n fun j=>f (n+j):=by
 have key:∀k,sm (n+k) f=sm n f+sm k fun j=>f (n+j):=fun k=>by
  induction k with
  |zero=>show sm n f=sm n f+0;grind
  |succ k ih=>show sm (n+k) f+f (n+k)=sm n f+(sm k _+f (n+k));rw[ih];grind
 rw[show 2*n=n+n by omega];exact key n
theorem a8E {m:Mat} {n:Nat} (hs:Shp n n m) (hn:¬a3P m n):Eqm n n (mul n (ent m) (ent (a3u m n))) a2X:=by
 obtain⟨h1,h2,d,h3⟩:=a0X (a1j hs);have hu:=a7c hs hn;intro i hi j hj;have hn0:Nul n (2*n) (ent (a1i (a1A m n) (2*n)).1) (fun q=>if q<n then ent (a3u m n) q j else if q=n+j then -1 else 0):=fun r hr=>by
  rw[a8D];have a1:sm n (fun q=>ent (a1i (a1A m n) (2*n)).1 r q*(if q<n then ent (a3u m n) q j else if q=n+j then -1 else 0))=ent (a3u m n) r j:=by
   rw[a1U r hr fun q hq hqr=>by rw[hu r hr q hq];unfold a2X;rw[if_neg (Ne.symm hqr)];grind];rw[hu r hr r hr,if_pos hr];unfold a2X;simp
  have a2:sm n (fun q=>ent (a1i (a1A m n) (2*n)).1 r (n+q)*(if n+q<n then ent (a3u m n) (n+q) j else if n+q=n+j then -1 else 0))= - ent (a3u m n) r j:=by
   rw[a1U j hj fun q hq hqj=>by rw[if_neg (by omega),if_neg (by omega)];grind];rw[if_neg (by omega),if_pos rfl,a8C hs r hr j];grind
  rw[a1,a2];grind
 have h5:=(h3.nul _).2 hn0 i hi;rw[a8D]at h5;have a1:sm n (fun q=>ent (a1A m n) i q*(if q<n then ent (a3u m n) q j else if q=n+j then -1 else 0))=mul n (ent m) (ent (a3u m n)) i j:=a0k fun q hq=>by
  rw[a2L hs i hi q (by omega),if_pos hq,if_pos hq]
 have a2:sm n (fun q=>ent (a1A m n) i (n+q)*(if n+q<n then ent (a3u m n) (n+q) j else if n+q=n+j then -1 else 0))= - a2X i j:=by
  rw[a1U j hj fun q hq hqj=>by rw[if_neg (show¬n+q<n by omega),if_neg (show¬n+q=n+j by omega)];grind];rw[if_neg (show¬n+j<n by omega),if_pos rfl,a2L hs i hi (n+j) (by omega),if_neg (by omega)];unfold a2X;by_cases h:i=j
  ·subst h;simp
  ·rw[if_neg h,if_neg (show¬n+j=n+i by omega)];grind
 rw[a1,a2]at h5;grind
theorem a7H {m:Mat} {n:Nat} (hs:Shp n n m) (hn:¬a3P m n) (z:Nat->Rat) (hz:Nul n n (ent m) z) (i:Nat) (hi:i<n):z i=0:=by
 obtain⟨d,hd⟩:=a8B hs;have h1:=(hd.nul z).1 hz i hi;have hu:=a7c hs hn;rw[a1U i hi fun q hq hqi=>by rw[hu i hi q hq];unfold a2X;rw[if_neg (Ne.symm hqi)];grind]at h1;rw[hu i hi i hi]at h1;unfold a2X at h1;simpa using h1
theorem a7d (n:Nat) (f g h:F2) (i j:Nat):mul n f (mul n g h) i j=mul n (mul n f g) h i j:=by
 unfold mul;have e1:sm n (fun k=>f i k*sm n fun q=>g k q*h q j)=sm n fun k=>sm n fun q=>f i k*g k q*h q j:=a0k fun k _=>by
  rw[<-a2Z];exact a0k fun q _=>by grind
 have e2:sm n (fun q=>(sm n fun k=>f i k*g k q)*h q j)=sm n fun q=>sm n fun k=>f i k*g k q*h q j:=a0k fun q _=>by
  rw[show(sm n fun k=>f i k*g k q)*h q j=h q j*sm n fun k=>f i k*g k q by grind,<-a2Z];exact a0k fun k _=>by grind
 rw[e1,e2,a5e]
theorem b1T {m:Mat} {n:Nat} (hs:Shp n n m) (hn:¬a3P m n):Eqm n n (mul n (ent (a3u m n)) (ent m)) a2X:=by
 intro i hi j hj;have h1:=a8E hs hn;have h2:=a7H hs hn (fun q=>mul n (ent (a3u m n)) (ent m) q j - a2X q j) (fun r hr=>by
  have a1:sm n (fun q=>ent m r q*(mul n (ent (a3u m n)) (ent m) q j - a2X q j))=mul n (ent m) (mul n (ent (a3u m n)) (ent m)) r j - ent m r j:=by
   rw[a0k (g:=fun q=>ent m r q*mul n (ent (a3u m n)) (ent m) q j - ent m r q*a2X q j) fun q _=>by grind,b2z]
   congr 1
   rw[a1U j hj fun q hq hqj=>by unfold a2X;rw[if_neg hqj];grind];unfold a2X;simp
  rw[a1,a7d];have a2:mul n (mul n (ent m) (ent (a3u m n))) (ent m) r j=ent m r j:=by
   show(sm n fun q=>mul n (ent m) (ent (a3u m n)) r q*ent m q j)=_
   rw[a0k (g:=fun q=>a2X r q*ent m q j) fun q hq=>by rw[h1 r hr q hq]];rw[a1U r hr fun q hq hqr=>by unfold a2X;rw[if_neg (Ne.symm hqr)];grind];unfold a2X;simp
  rw[a2];grind) i hi
 grind
def fn (l:List Rat):Nat->Rat:=fun i=>l.getD i 0
def gmL (x:Mat) (n c:Nat):Mat:=ofF c c (gr n (ent x))
def gyL (x:Mat) (y:List Rat) (n c:Nat):List Rat:=(List.range c).map (gy n (ent x) (fn y))
theorem a1B (x:Mat) (n c:Nat):Shp c c (gmL x n c):=a7y _ _ _
theorem a6l (x:Mat) (n c:Nat):Eqm c c (ent (gmL x n c)) (gr n (ent x)):=a7z c c _
theorem a5k (x:Mat) (y:List Rat) (n c:Nat):(gyL x y n c).length=c:=by simp[gyL]
theorem b0r (x:Mat) (y:List Rat) (n c:Nat) {i:Nat} (hi:i<c):(gyL x y n c).getD i 0=gy n (ent x) (fn y) i:=by
 simp[gyL,List.getD_eq_getElem?_getD,hi]
noncomputable def lsS (x:Mat) (y:List Rat) (n c:Nat):Mat×List Nat:=a1i (a2y (gmL x n c) (gyL x y n c) c) (c+1)
noncomputable def a1X (x:Mat) (y:List Rat) (n c:Nat):List Rat:=b2E (lsS x y n c).1 (lsS x y n c).2 c
theorem a7e (x:Mat) (y:List Rat) (n c:Nat):(a1X x y n c).length=c:=a7G _ _ _
theorem NS.congr {n c:Nat} {f f':F2} {y y' b b':Nat->Rat} (h:NS n c f y b) (hf:Eqm n c f f') (hy:∀i,i<n->y i=y' i) (hb:∀j,j<c->b j=b' j):NS n c f' y' b':=fun i hi=>by
 have e1:∀j,j<c->gr n f i j=gr n f' i j:=fun j hj=>a0k fun r hr=>by rw[hf r hr i hi,hf r hr j hj]
 have e2:gy n f y i=gy n f' y' i:=a0k fun r hr=>by rw[hf r hr i hi,hy r hr]
 rw[<-e2,<-h i hi];exact a0k fun j hj=>by rw[e1 j hj,hb j hj]
theorem b3L {x:Mat} {y:List Rat} {n c:Nat} (hs:Shp n c x):
  c∉(lsS x y n c).2/\(lsS x y n c).2=(a1i x c).2/\NS n c (ent x) (fn y) (fn (a1X x y n c))/\∀j,j<c->j∉(a1i x c).2->fn (a1X x y n c) j=0:=by
 obtain⟨_,hg,e,he⟩:=a0X hs;obtain⟨_,hr,_⟩:=a0X (a1V (b:=gyL x y n c) (a1B x n c));obtain⟨d,hd⟩:=b1Q (b:=gyL x y n c) (a1B x n c);have hd2:RE c (c+1) (a2H c (gr n (ent x)) (gy n (ent x) (fn y))) (ent (lsS x y n c).1) d:=hd.congr fun i hi j hj=>by
  unfold a2H;by_cases h:j=c
  ·rw[if_pos h,if_pos h];exact(b0r x y n c hi).symm
  ·rw[if_neg h,if_neg h,a6l x n c i hi j (by omega)]
 obtain⟨h1,h2,h3⟩:=b3x hg he hr hd2;have hg2:∀j,j<c->fn (a1X x y n c) j=b0f (ent (lsS x y n c).1) (lsS x y n c).2 c j:=fun j hj=>a8q hr j hj;refine⟨b0g hr hd2,h1,h2.congr (fun _ _ _ _=>rfl) (fun _ _=>rfl) (fun j hj=>(hg2 j hj).symm),fun j hj hp=>?_⟩;rw[hg2 j hj];exact h3 j hj hp
theorem b5k {x:Mat} {n c:Nat} (hs:Shp n c x):(a1i (gmL x n c) c).2=(a1i x c).2:=by
 obtain⟨_,hg,e,he⟩:=a0X hs;obtain⟨_,hr,d,hd⟩:=a0X (a1B x n c);refine hr.piv2 hg fun v=>?_;have e1:Nul c c (ent (gmL x n c)) v↔Nul c c (gr n (ent x)) v:=(RE.same (a6l x n c)).nul v;exact((hd.nul v).symm.trans e1).trans (a8l.trans (he.nul v))
theorem b0s {l m:List Rat} {c:Nat} (h:l.length=c):a3q l m=sm c fun q=>l.getD q 0*m.getD q 0:=by
 unfold a3q;rw[a7A,h]
theorem b0t {x:Mat} {i:Nat} (hi:i<x.length):x[i]=x.getD i []:=by simp[List.getD_eq_getElem?_getD,hi]
def a4u (x:Mat) (y b:List Rat):List Rat:=List.zipWith (fun r v=>v - a3q r b) x y
theorem a8F {x:Mat} {y b:List Rat} (h:y.length=x.length):(a4u x y b).length=x.length:=by simp[a4u,h]
theorem a7f {x:Mat} {y b:List Rat} {i:Nat} (h:i<(a4u x y b).length) (h1:i<x.length) (h2:i<y.length):(a4u x y b)[i]=y[i] - a3q x[i] b:=by simp[a4u]
def pkL (x:Mat) (p:List Nat):Mat:=x.map fun r=>p.map fun j=>r.getD j 0
theorem b0u (x:Mat) (p:List Nat):(pkL x p).length=x.length:=by simp[pkL]
theorem b3M {x:Mat} {n c:Nat} (hs:Shp n c x) (p:List Nat):Shp n p.length (pkL x p):=⟨by rw[b0u];exact hs.1,fun r hr=>by
 obtain⟨s,_,rfl⟩:=List.mem_map.1 hr;simp⟩
theorem b3N {x:Mat} {n c:Nat} (hs:Shp n c x) (p:List Nat):Eqm n p.length (ent (pkL x p)) (usd (ent x) p):=fun i hi a ha=>by
 have h1:i<x.length:=by rw[hs.1];exact hi
 simp[ent,pkL,usd,List.getD_eq_getElem?_getD,h1,ha]
def a2M (u:Mat) (n m:Nat):Mat:=a5n (trL u n m) u n m
theorem a1c (u:Mat) (n m:Nat):Shp m m (a2M u n m):=b1I (a2j u n m).1
theorem a7g (u:Mat) (n m:Nat):Eqm m m (ent (a2M u n m)) (gr n (ent u)):=fun i hi j hj=>by
 unfold a2M;rw[b1J (a2j u n m) i hi j hj];exact a0k fun k hk=>by rw[a7B u n m i hi k hk]
theorem b1U {n c:Nat} {g:F2} {p:List Nat} (hg:Rref n c g p) (h:∀z,Nul n c g z->∀a,a<c->z a=0):p.length=c:=by
 have h1:∀j,j<c->j∈p:=fun j hj=>Classical.byContradiction fun hn=>by
  have:=h _ (hg.nv_nul hn hj) j hj;rw[a5f]at this;grind
 have h2:(List.range c).length<=p.length:=(List.nodup_range).length_le_of_subset fun j hj=>h1 j (List.mem_range.1 hj);have hnd:p.Nodup:=hg.pw.imp fun h=>Nat.ne_of_lt h;have h3:p.length<=(List.range c).length:=hnd.length_le_of_subset fun j hj=>by
  obtain⟨k,hk,rfl⟩:=List.getElem_of_mem hj;exact List.mem_range.2 (hg.lt k hk)
 rw[List.length_range]at h2 h3;omega
theorem b5l {G:Mat} {H:F2} {m:Nat} (hm:m<=4) (hs:Shp m m G) (hG:Eqm m m (ent G) H) (hN:∀z,Nul m m H z->∀a,a<m->z a=0):¬a3P G m/\Inv m H (ent (a3u G m)):=by
 have hns:¬a3P G m:=by
  rw[b1S hm hs];refine(b0k hm hs).1 ?_;obtain⟨_,hg,d,hd⟩:=a0X hs;exact b1U hg fun z hz=>hN z ((RE.same hG).nul z|>.1 ((hd.nul z).2 hz))
 refine⟨hns,fun a ha b hb=>?_,fun a ha b hb=>?_⟩
 ·have:=a8E hs hns a ha b hb
  rw[show(if a=b then(1:Rat)else 0)=a2X a b from rfl,<-this];exact a0k fun k hk=>by rw[hG a ha k hk]
 ·have:=b1T hs hns a ha b hb
  rw[show(if a=b then(1:Rat)else 0)=a2X a b from rfl,<-this];exact a0k fun k hk=>by rw[hG k hk b hb]
theorem Nul.congr {n c:Nat} {f f':F2} {x:Nat->Rat} (h:Nul n c f x) (e:Eqm n c f f'):Nul n c f' x:=((RE.same e).nul x).1 h
theorem b3O {x:Mat} {n c:Nat} (hs:Shp n c x) (hp:(a1i x c).2.length<=4):
  ¬a3P (a2M (pkL x (a1i x c).2) n (a1i x c).2.length) (a1i x c).2.length/\Inv (a1i x c).2.length (gr n (ent (pkL x (a1i x c).2))) (ent (a3u (a2M (pkL x (a1i x c).2) n (a1i x c).2.length) (a1i x c).2.length)):=by
 obtain⟨_,hg,e,he⟩:=a0X hs;refine b5l hp (a1c _ _ _) (a7g _ _ _) fun z hz a ha=>?_;exact b4X hg he ((a8l.1 hz).congr (b3N hs _)) a ha
theorem b5m {x:Mat} {n c:Nat} (hs:Shp n c x):(a1i x c).2.length<=c:=by
 obtain⟨_,hg,_⟩:=a0X hs;have hnd:(a1i x c).2.Nodup:=hg.pw.imp fun h=>Nat.ne_of_lt h;have h3:(a1i x c).2.length<=(List.range c).length:=hnd.length_le_of_subset fun j hj=>by
  obtain⟨k,hk,rfl⟩:=List.getElem_of_mem hj;exact List.mem_range.2 (hg.lt k hk)
 rwa[List.length_range]at h3
noncomputable def a5p (u:Mat) (n m:Nat):List Rat:=u.map fun r=>a3q r (a3B (a3u (a2M u n m) m) r)
theorem a6m (u:Mat) (n m:Nat):(a5p u n m).length=u.length:=by simp[a5p]
theorem a7h {u:Mat} {n m i:Nat} (hi:i<u.length) (h:i<(a5p u n m).length):(a5p u n m)[i]=a3q u[i] (a3B (a3u (a2M u n m) m) u[i]):=by simp[a5p]
theorem b1V {u:Mat} {n m:Nat} (hs:Shp n m u) {i:Nat} (hi:i<n):fn (a5p u n m) i=hat m (ent u) (ent (a3u (a2M u n m) m)) i i:=by
 have h1:i<u.length:=by rw[hs.1];exact hi
 have h2:i<(a5p u n m).length:=by rw[a6m];exact h1
 have e1:fn (a5p u n m) i=(a5p u n m)[i]:=by simp[fn,List.getD_eq_getElem?_getD,h2]
 rw[e1,a7h h1 h2,b0s (hs.2 _ (List.getElem_mem h1)),b0t h1];refine a0k fun a ha=>?_;rw[b3E (a2W (a1c u n m)) a ha];rfl
theorem b0v {u:Mat} {n:Nat} (hs:Shp n 0 u):a5p u n 0=List.replicate n 0:=by
 refine a7b (n:=n) (by rw[a6m];exact hs.1) List.length_replicate fun i hi=>?_;have:=b1V hs hi;unfold fn at this;rw[this,List.getD_eq_getElem?_getD,List.getElem?_replicate,if_pos hi];rfl
structure Mom where
 n:Int
 xx:Mat
 xy:List Rat
 yy:Rat
def shM (m:Mom) (row:List Rat) (v:Rat) (s:Int):Mom:=
 ⟨m.n+s,ofF row.length row.length fun j k=>ent m.xx j k+(s:Rat)*fn row j*fn row k,(List.range row.length).map fun j=>fn m.xy j+(s:Rat)*fn row j*v,m.yy+(s:Rat)*(v*v)⟩
def gmM (x:Mat) (y:List Rat) (c i:Nat):Mom:=⟨(i:Int),gmL x i c,gyL x y i c,sm i fun r=>fn y r*fn y r⟩
theorem a1W {α:Type} {c:Nat} {f g:Nat->α} (h:∀j,j<c->f j=g j):(List.range c).map f=(List.range c).map g:=
 List.map_congr_left fun j hj=>h j (List.mem_range.1 hj)
theorem a7i {n c:Nat} {f g:F2} (h:Eqm n c f g):ofF n c f=ofF n c g:=
 a1W fun i hi=>a1W fun j hj=>h i hi j hj
theorem b1W (x:Mat) (y:List Rat) (c:Nat):gmM x y c 0=⟨0,List.replicate c (List.replicate c 0),List.replicate c 0,0⟩:=by
 have e:∀(α:Type) (a:α),(List.range c).map (fun _=>a)=List.replicate c a:=fun α a=>by simp[List.map_const']
 unfold gmM gmL gyL ofF
 congr 1
 ·rw[<-e,<-e];rfl
 ·rw[<-e];rfl
theorem a8G {x:Mat} {y:List Rat} {n c i:Nat} (hs:Shp n c x) (hi:i<n):shM (gmM x y c i) (x.getD i []) (y.getD i 0) 1=gmM x y c (i+1):=by
 have hr:(x.getD i []).length=c:=hs.row hi;have one:((1:Int):Rat)=1:=rfl;unfold shM gmM;rw[hr]
 congr 1
 ·exact a7i fun j hj k hk=>by
   show ent (gmL x i c) j k+_=gr (i+1) (ent x) j k
   rw[a6l x i c j hj k hk]
   show gr i (ent x) j k+((1:Int):Rat)*ent x i j*ent x i k=gr i (ent x) j k+ent x i j*ent x i k
   rw[one];grind
 ·exact a1W fun j hj=>by
   show(gyL x y i c).getD j 0+_=gy (i+1) (ent x) (fn y) j
   rw[b0r x y i c hj]
   show gy i (ent x) (fn y) j+((1:Int):Rat)*ent x i j*fn y i=gy i (ent x) (fn y) j+ent x i j*fn y i
   rw[one];grind
 ·show sm i (fun r=>fn y r*fn y r)+((1:Int):Rat)*(fn y i*fn y i)=_
  rw[one]
  show _=sm i (fun r=>fn y r*fn y r)+fn y i*fn y i
  grind
theorem b1X {m:Mom} {row:List Rat} {v:Rat} {c:Nat} (hx:Shp c c m.xx) (hy:m.xy.length=c) (hr:row.length=c):shM (shM m row v 1) row v (-1)=m:=by
 have one:((1:Int):Rat)=1:=rfl;have neg:((-1:Int):Rat)= -1:=rfl;obtain⟨n,xx,xy,yy⟩:=m;unfold shM
 dsimp only at hx hy |-
 rw[hr]
 congr 1
 ·omega
 ·refine Shp.ext (a7y _ _ _) hx fun i hi j hj=>?_
  rw[a7z c c _ i hi j hj,a7z c c _ i hi j hj,one,neg];grind
 ·refine a7b (n:=c) (by simp) hy fun i hi=>?_
  have e1:∀(f:Nat->Rat),((List.range c).map f).getD i 0=f i:=fun f=>by simp[List.getD_eq_getElem?_getD,hi]
  rw[e1]
  show fn ((List.range c).map fun j=>fn xy j+((1:Int):Rat)*fn row j*v) i+_=fn xy i
  rw[show fn ((List.range c).map fun j=>fn xy j+((1:Int):Rat)*fn row j*v) i=_ from e1 _,one,neg];grind
 ·rw[one,neg];grind
end Go.Lin
namespace Go.Rep
open Go.RowKit Go.Lim
def BlR:Mem->Value->Bool->Prop:=fun _ u b=>u= .bool b
theorem BlR.mono:a3c BlR:=fun _ _ _ _ _ h=>h
theorem BlR.elem:Elem BlR 1:=⟨fun _ _ _ _ _ h=>h,by rintro h u x rfl;rfl,by
 rintro h u x rfl c hc;simp[a0g,Value.cells]at hc;subst hc;rfl,Nat.one_pos⟩
theorem BlR.one:a3d BlR:=by rintro h u x rfl;rfl
theorem Sl.bl {h:Mem} {ao:Option Addr} {l:List Bool} (s:Sl BlR 1 h ao l) (i:Nat) (hi:i<l.length):h (adr ao i)=some (.bool l[i]):=by
 obtain⟨u,h1,rfl⟩:=s.cell BlR.one i hi;exact h1
def usedL (p:List Nat) (c:Nat):List Bool:=(List.range c).map fun j=>decide (j∈p)
theorem a4k (p:List Nat) (c:Nat):(usedL p c).length=c:=by simp[usedL]
theorem a9i (p:List Nat) (c:Nat):usedL p (c+1)=usedL p c++[decide (c∈p)]:=by simp[usedL,List.range_succ]
def b4q (A:Mem->Value->List (List Rat)->Prop) (B:Mem->Value->List Rat->Prop) (C:Mem->Value->Rat->Prop) (h:Mem) (u:Value) (m:Go.Lin.Mom):Prop:=
 ∃xo xl xc yo yl yc s a n c d k e,u= .agg #[.int .i64 m.n, .slice xo xl xc, .slice yo yl yc, .bool s, .slice a n c, .slice d k e]/\A h (.slice xo xl xc) m.xx/\B h (.slice yo yl yc) m.xy/\C h (.agg #[.bool s, .slice a n c, .slice d k e]) m.yy
def b0W:=b4q MV RV QV
def a2x:=b4q MC RC QC
theorem b4q.mono {A:Mem->Value->List (List Rat)->Prop} {B:Mem->Value->List Rat->Prop} {C:Mem->Value->Rat->Prop} (hA:a3c A) (hB:a3c B) (hC:a3c C):a3c (b4q A B C):=by
 rintro h h' u m hl ⟨xo,xl,xc,yo,yl,yc,s,a,n,c,d,k,e,rfl,h1,h2,h3⟩;exact⟨xo,xl,xc,yo,yl,yc,s,a,n,c,d,k,e,rfl,hA _ _ _ _ hl h1,hB _ _ _ _ hl h2,hC _ _ _ _ hl h3⟩
theorem b0W.mono:a3c b0W:=b4q.mono MV.mono RV.mono QV.mono
theorem a2x.mono:a3c a2x:=b4q.mono MC.mono RC.mono QC.mono
def BMo (B:Nat) (m:Go.Lin.Mom):Prop:=BM B m.xx/\BR B m.xy/\hq m.yy<=B
theorem a2x.mv {h:Mem} {u:Value} {m:Go.Lin.Mom} (s:a2x h u m) (hb:BMo 68719476736 m):b0W h u m:=by
 obtain⟨xo,xl,xc,yo,yl,yc,s,a,n,c,d,k,e,rfl,h1,h2,h3⟩:=s;exact⟨xo,xl,xc,yo,yl,yc,s,a,n,c,d,k,e,rfl,h1.mv hb.1,h2.rv hb.2.1,h3.qv hb.2.2⟩
end Go.Rep
namespace Go.Lin
structure Fit where
 rank:Nat
 used:List Bool
 coef:List Rat
 res:List Rat
 rss:Rat
 lev:List Rat
end Go.Lin
namespace Go.Rep
def b6e (h:Mem) (v:Value) (f:Go.Lin.Fit):Prop:=
 ∃uo uc co cl cc ro rl rc s a n c d k e lo ll lc,v= .agg #[.int .i64 (f.rank:Int), .slice uo f.used.length uc, .slice co cl cc, .slice ro rl rc, .bool s, .slice a n c, .slice d k e, .slice lo ll lc]/\f.used.length<=uc/\Sl BlR 1 h uo f.used/\RC h (.slice co cl cc) f.coef/\RC h (.slice ro rl rc) f.res/\QC h (.agg #[.bool s, .slice a n c, .slice d k e]) f.rss/\RC h (.slice lo ll lc) f.lev
theorem b6e.mono:a3c b6e:=by
 rintro h h' u f hl ⟨uo,uc,co,cl,cc,ro,rl,rc,s,a,n,c,d,k,e,lo,ll,lc,rfl,h0,h1,h2,h3,h4,h5⟩;exact⟨uo,uc,co,cl,cc,ro,rl,rc,s,a,n,c,d,k,e,lo,ll,lc,rfl,h0,h1.mono BlR.mono hl,RC.mono _ _ _ _ hl h2,RC.mono _ _ _ _ hl h3,QC.mono _ _ _ _ hl h4,RC.mono _ _ _ _ hl h5⟩
open Go.RowKit Go.Lim
theorem a1w {X:Nat->Bool} {w w':World} {g:Nat} (hE:Ext w w') (hg:w.heap.size<=g):Le (mk X w) (mk (un X (some ⟨g,0,none⟩)) w'):=
 a0R hE (fun k _ hk=>by simp[noY]at hk) fun k hk hz=>by
  by_cases hx:X k=true
  ·exact hx
  ·have:g=k:=by simpa[un,hx,ob]using hz
   omega
theorem a1x {X:Nat->Bool} {w:World} {g:Nat} (hX:HX X w) (hg:g<w.heap.size):HX (un X (some ⟨g,0,none⟩)) w:=fun k hk=>by
 by_cases hx:X k=true
 ·exact hX k hx
 ·have:g=k:=by simpa[un,hx,ob]using hk
  omega
section
variable {P:Program} {ops:Array Oper} {Q:Exit->Act->World->Prop} {rest:List Oper} {a:Act} {w:World}
variable {d:Option Tmp} {ty:TypeId} {ps:String} {af:Array Edge}
theorem a0B {o:Oper} {K:Act->World->Prop} {E:Prop} {t:TypeId} {x y:Operand} {n b:Nat} {cs vs:Array Value} {T:TypeId} (hg:o.guard=none) (hop:o.op= .store t x y) (hT:a1F P t n) (hx:a.eval x= .pointer (some ⟨b,0,none⟩)) (hy:a.eval y= .agg vs) (hb:Bx w b cs T) (hcs:cs.size=n) (hvs:vs.size=n) (hone:∀v∈vs.toList,v.oneCell'=true)
  (hK:∀w',Bx w' b vs T->ExtX (ob (some ⟨b,0,none⟩)) w w'->K (a.put o.dst undef) w'):
  if Region.wanted o (yielded ops a.tmps)=true then Oper.wp P o a w K Q else E:=by
 have hw:Region.wanted o (yielded ops a.tmps)=true:=by simp[Region.wanted,hg]
 rw[if_pos hw];obtain⟨w',hr,h1,h2⟩:=a4F (P:=P) hT hb hcs hvs hone;unfold Oper.wp execOp;rw[hop];simp[hx,hy,Instr.storeAt,Instr.sureAddr,hr,Result.andThen];exact hK w' h1 h2
theorem a1N {t:TypeId} {x y:Operand} {b i:Nat} {cs:Array Value} {v:Value} {T:TypeId} (hT:TyI P t 1) (hx:a.eval x= .pointer (some ⟨b,i,none⟩)) (hy:a.eval y=v) (hv:v.cells=#[v]) (hone:v.oneCell'=true) (hb:Bx w b cs T) (hi:i<cs.size)
  (K:∀w',Bx w' b (cs.set i v) T->ExtX (ob (some ⟨b,0,none⟩)) w w'->wpList P ops Q rest (a.put d undef) w'):
  wpList P ops Q (⟨d, .store t x y,ty,ps,af,none⟩::rest) a w:=by
 refine wpList_plain rfl fun K' hK'=>?_;obtain⟨ti,ht,hts⟩:=hT;obtain⟨h1,h2⟩:=a0S hb v hi;have hc:=hb.cell i (u:=cs[i]) (by simp[hi]);have hf:=hb.frozen i;unfold Oper.wp;subst hy;have hr:=run_store P w ⟨b,i,none⟩ (a.eval y) .plain hone;rw[hc,hf]at hr;simp only[Bool.false_eq_true,if_false]at hr;simp[execOp,hx,Instr.storeAt,Instr.sureAddr,storeVar,sizeOf,typeInfo,ht,hts,hv,Result.andThen,storeCells,Addr.add_zero',hr];exact hK' _ _ (K _ h1 h2)
theorem a5q {o:Oper} {K:Act->World->Prop} {E:Prop} {t:TypeId} {x y:Operand} {b i:Nat} {cs:Array Value} {v:Value} {T:TypeId} (hg:o.guard=none) (hop:o.op= .store t x y) (hT:TyI P t 1) (hx:a.eval x= .pointer (some ⟨b,i,none⟩)) (hy:a.eval y=v) (hv:v.cells=#[v]) (hone:v.oneCell'=true) (hb:Bx w b cs T) (hi:i<cs.size)
  (hK:∀w',Bx w' b (cs.set i v) T->ExtX (ob (some ⟨b,0,none⟩)) w w'->K (a.put o.dst undef) w'):
  if Region.wanted o (yielded ops a.tmps)=true then Oper.wp P o a w K Q else E:=by
 have hw:Region.wanted o (yielded ops a.tmps)=true:=by simp[Region.wanted,hg]
 rw[if_pos hw];obtain⟨ti,ht,hts⟩:=hT;obtain⟨h1,h2⟩:=a0S hb v hi;have hc:=hb.cell i (u:=cs[i]) (by simp[hi]);have hf:=hb.frozen i;unfold Oper.wp execOp;rw[hop];subst hy;have hr:=run_store P w ⟨b,i,none⟩ (a.eval y) .plain hone;rw[hc,hf]at hr;simp only[Bool.false_eq_true,if_false]at hr;simp[hx,Instr.storeAt,Instr.sureAddr,storeVar,sizeOf,typeInfo,ht,hts,hv,Result.andThen,storeCells,Addr.add_zero',hr];exact hK _ h1 h2
theorem b5n {X Z:Nat->Bool} {w w':World} (hE:Ext w w') (h:∀k,k<w.heap.size->Z k=true->X k=true):Le (mk X w) (mk Z w'):=
 a0R hE (fun k _ hk=>by simp[noY]at hk) h
theorem a4v {X Y Z:Nat->Bool} {w w':World} (hE:ExtX Y w w') (hY:∀k,Y k=true->Z k=true) (hX:∀k,X k=true->Z k=true):Le (mk Z w) (mk X w'):=fun a u h=>a1m (fun k _ hk=>hX k hk) a u (a0O hE hY a u h)
theorem a1H (X:Nat->Bool) (a b:Option Addr):un (un X a) b=un (un X b) a:=by
 funext k;simp only[un];cases X k<;>cases ob a k<;>cases ob b k<;>rfl
theorem a2a {X:Nat->Bool} {w:World} {ao:Option Addr} (hX:HX X w) (h:∀k,ob ao k=true->k<w.heap.size):HX (un X ao) w:=fun k hk=>by
 by_cases hx:X k=true
 ·exact hX k hx
 ·exact h k (by simpa[un,hx]using hk)
theorem a6n (X:Nat->Bool):un X none=X:=by funext k;simp[un,ob]
end
theorem b6t (n:Int) (xo yo ao bo:Option Addr) (xl xc yl yc l c k e:Nat) (s:Bool):∀v∈(#[Value.int .i64 n, .slice xo xl xc, .slice yo yl yc, .bool s, .slice ao l c, .slice bo k e]:Array Value).toList,v.oneCell'=true:=by
 intro v hv;simp at hv;rcases hv with rfl|rfl|rfl|rfl|rfl|rfl<;>rfl
end Go.Rep
namespace Go.Proofs.YtkddecjkfdogiaaGreat
open Go.RowKit Go.Rep
theorem a1I:a1F Tryz.prog 83 6:=by
 have h:(Tryz.prog.info? 83).map (fun i=>(i.zero,i.size,i.bytes))=some (some (.agg #[.int .i64 0, .slice none 0 0, .slice none 0 0, .bool false, .slice none 0 0, .slice none 0 0]),6,112):=by kernel_rfl
 obtain⟨ti,h1,_,h2,_⟩:=info_parts h;exact⟨_,ti,Tryz.underlying83,h1,h2⟩
theorem b3P:(Tryz.prog.info? 45).map (fun i=>(i.zero,i.size,i.bytes))=some (some (.slice none 0 0),1,24):=by kernel_rfl
theorem a8H:TyI Tryz.prog 45 1:=let ⟨i,h,_,h2,_⟩:=info_parts b3P;⟨i,h,h2⟩
theorem b3Q:(Tryz.prog.info? 25).map (fun i=>(i.zero,i.size,i.bytes))=some (some (.slice none 0 0),1,24):=by kernel_rfl
theorem b5o:TyI Tryz.prog 25 1:=let ⟨i,h,_,h2,_⟩:=info_parts b3Q;⟨i,h,h2⟩
theorem b1Y:a1F Tryz.prog 63 8:=by
 have h:(Tryz.prog.info? 63).map (fun i=>(i.zero,i.size,i.bytes))=some (some (.agg #[.int .i64 0, .slice none 0 0, .slice none 0 0, .slice none 0 0, .bool false, .slice none 0 0, .slice none 0 0, .slice none 0 0]),8,160):=by kernel_rfl
 obtain⟨ti,h1,_,h2,_⟩:=info_parts h;exact⟨_,ti,Tryz.underlying63,h1,h2⟩
end Go.Proofs.YtkddecjkfdogiaaGreat
namespace Go.Rep
open Go.RowKit Go.Lim
abbrev b2M (X:Nat->Bool) (fb:Nat):Nat->Bool:=un X (some ⟨fb,0,none⟩)
abbrev b5I (X:Nat->Bool) (fb:Nat) (po oo:Option Addr):Nat->Bool:=un (un (b2M X fb) po) oo
structure RS (X:Nat->Bool) (w0:World) (b fb base:Nat) (T1 T2 T3:TypeId) (w:World) (oo:Option Addr) (co:Nat) (po:Option Addr) (pc:Nat) (M:List (List Rat)) (p:List Nat) (f:Rat):Prop where
 rows:OL RC 1 (un (b2M X fb) po) base T1 w oo co M
 piv:OL (a0b .i64) 1 (un (b2M X fb) oo) base T3 w po pc p
 fac:∃s a n c d k e,Bx w fb #[.bool s, .slice a n c, .slice d k e] T2/\QC (mk (b5I X fb po oo) w) (.agg #[.bool s, .slice a n c, .slice d k e]) f
 hx:HX X w
 res:Bx w b #[.bool false, .slice none 0 0, .slice none 0 0] T2
 rb:X b=true
 fb0:fb≠b
 ext:Ext w0 w
 low:w0.heap.size<=base
 lowf:w0.heap.size<=fb
section
variable {X:Nat->Bool} {w0 w w':World} {b fb base:Nat} {T1 T2 T3:TypeId} {oo po:Option Addr} {co pc:Nat} {M M':List (List Rat)} {p:List Nat} {f f':Rat}
theorem RS.pF (h:RS X w0 b fb base T1 T2 T3 w oo co po pc M p f):ob po fb=false:=by
 cases hb:ob po fb
 ·rfl
 ·have:=h.piv.1 fb hb;rw[a0p (a0q (a9S fb))]at this;simp at this
theorem RS.pB (h:RS X w0 b fb base T1 T2 T3 w oo co po pc M p f):ob po b=false:=by
 cases hb:ob po b
 ·rfl
 ·have:=h.piv.1 b hb;rw[a0p (a0p h.rb)]at this;simp at this
theorem RS.flt (h:RS X w0 b fb base T1 T2 T3 w oo co po pc M p f):fb<w.heap.size:=by
 obtain⟨_,_,_,_,_,_,_,h1,_⟩:=h.fac;exact h1.lt
theorem RS.hz (h:RS X w0 b fb base T1 T2 T3 w oo co po pc M p f):HX (b5I X fb po oo) w:=fun k hk=>by
 by_cases h1:ob oo k=true
 ·exact(h.rows.block h1).2
 ·by_cases h2:ob po k=true
  ·exact(h.piv.block h2).2
  ·by_cases h3:X k=true
   ·exact h.hx k h3
   ·have h1':ob oo k=false:=by simpa using h1
    have h2':ob po k=false:=by simpa using h2
    have h3':X k=false:=by simpa using h3
    have h4:ob (some ⟨fb,0,none⟩) k=true:=by simpa[b5I,b2M,un,h1',h2',h3']using hk
    have:fb=k:=by simpa[ob]using h4
    rw[<-this];exact h.flt
theorem RS.row (h:RS X w0 b fb base T1 T2 T3 w oo co po pc M p f) (i:Nat) (hi:i<M.length):∃a c,w.cell? (adr oo i)=some (.slice a M[i].length c)/\w.frozen? (adr oo i)=false/\M[i].length<=c/\Sl QC 3 (_root_.Go.Rep.mk (b5I X fb po oo) w) a M[i]:=by
 obtain⟨u,h1,h2,a,c,rfl,h4,h5⟩:=h.rows.cell SlV.one i hi;exact⟨a,c,h1,h2,h4,h5⟩
theorem RS.ext0 (h:RS X w0 b fb base T1 T2 T3 w oo co po pc M p f) (hE:Ext w w'):RS X w0 b fb base T1 T2 T3 w' oo co po pc M p f:=by
 obtain⟨s,a,n,c,d,k,e,h1,h2⟩:=h.fac;exact⟨h.rows.ext0 RC.elem hE,h.piv.ext0 (a0b.elem _) hE,⟨s,a,n,c,d,k,e,h1.ext0 hE,mkx QC.mono h2 hE⟩,h.hx.ext hE,h.res.ext0 hE,h.rb,h.fb0,h.ext.trans hE,h.low,h.lowf⟩
theorem RS.push (h:RS X w0 b fb base T1 T2 T3 w oo co po pc M p f) {po2:Option Addr} {pc2 j:Nat} (hE:ExtX (ob po) w w') (hP:OL (a0b .i64) 1 (un (b2M X fb) oo) base T3 w' po2 pc2 (p++[j])) (hor:po2=po\/∃g,po2=some ⟨g,0,none⟩/\w.heap.size<=g):RS X w0 b fb base T1 T2 T3 w' oo co po2 pc2 M (p++[j]) f:=by
 obtain⟨s,a,n,c,d,k,e,h1,h2⟩:=h.fac;have hold:∀k,k<w.heap.size->ob po2 k=true->ob po k=true:=fun k hk h9=>by
  rcases hor with rfl|⟨g,rfl,hg⟩
  ·exact h9
  ·have:g=k:=by simpa[ob]using h9
   omega
 have hF:∀k,k<w.heap.size->un (b2M X fb) po2 k=true->un (b2M X fb) po k=true:=fun k hk hz=>by
  by_cases hx:b2M X fb k=true
  ·exact a0p hx
  ·exact a0q (hold k hk (by simpa[un,hx]using hz))
 refine⟨h.rows.ext RC.elem hE (fun k _ hk=>a0q hk) hF,hP,⟨s,a,n,c,d,k,e,h1.ext hE h.pF,QC.mono _ _ _ _ (a0R hE (fun k _ hk=>a0p (a0q hk)) fun k hk hz=>?_) h2⟩,h.hx.ext hE,h.res.ext hE h.pB,h.rb,h.fb0,h.ext.own h.piv h.low hE,h.low,h.lowf⟩;by_cases ho:ob oo k=true
 ·exact a0q ho
 ·exact a0p (hF k hk (by simpa[un,ho]using hz))
end
end Go.Rep
namespace Go.Lin
open Go.Lim
def b3R (m:Mat) (c:Nat):Prop:=∃B,6*B<=68719476736/\∀j,j<=c->HB B (rN m j).1/\hq (rN m j).2.2<=B
theorem b0w {n c:Nat} {m:Mat} (hs:Shp n c m) (k:Nat):(rN m k).2.1.length<=n:=(b0a hs k).ref.le
theorem b1Z {n c B:Nat} {m:Mat} (hs:Shp n c m) (h:HB B m) (hB:6*(6^n*B)<=68719476736):b3R m c:=
 ⟨6^n*B,hB,fun j _=>by
  obtain⟨h1,h2⟩:=h.rN hs j;have hp:6^(rN m j).2.1.length*B<=6^n*B:=Nat.mul_le_mul_right _ (Nat.pow_le_pow_right (by decide) (b0w hs j));exact⟨h1.mono hp,Nat.le_trans h2 hp⟩⟩
end Go.Lin
namespace Go.Rep
open Go.RowKit
section
variable {P:Program} {w:World}
end
end Go.Rep
namespace Go.Lin
open Go.Lim Go.Rep
theorem b0x {p:List Nat} {c:Nat} (h1:∀i (hi:i<p.length),p[i]<c) (h2:∀i k (hik:i<k) (hk:k<p.length),p[i]<p[k]):p.length<=c:=by
 have hpw:p.Pairwise (· < ·):=List.pairwise_iff_getElem.2 fun i j hi hj hij=>h2 i j hij hj;have hnd:p.Nodup:=hpw.imp fun h=>Nat.ne_of_lt h;have h3:p.length<=(List.range c).length:=hnd.length_le_of_subset fun j hj=>by
  obtain⟨k,hk,rfl⟩:=List.getElem_of_mem hj;exact List.mem_range.2 (h1 k hk)
 rwa[List.length_range]at h3
theorem a9j {n c B:Nat} {m:Mat} (hs:Shp n c m) (h:HB B m) (hc:c<=4) (hBB:B<=6000):a9x m c/\b3R m c:=by
 have hle:∀j,j<=c->(eN m j).2.1.length<=4:=fun j hj=>Nat.le_trans (b0x (a4K hs j).ech.lt (a4K hs j).ech.inc) (by omega);have hle2:∀j,j<=c->(rN m j).2.1.length<=4:=fun j hj=>Nat.le_trans (b0x (b0a hs j).ref.lt (b0a hs j).ref.inc) (by omega);have p5:∀k,k<=4->5^k<=625:=fun k hk=>Nat.le_trans (a5h 5 (by omega) hk) (by decide);have p7:∀k,k<=4->7^k<=2401:=fun k hk=>Nat.le_trans (a5h 7 (by omega) hk) (by decide);have p6:∀k,k<=4->6^k<=1296:=fun k hk=>Nat.le_trans (a5h 6 (by omega) hk) (by decide);refine⟨⟨1500625*B,by omega,fun j hj=>(h.eN hs j).mono (Nat.mul_le_mul_right _ (Nat.le_trans (p5 _ (hle j hj)) (by decide))),fun t ht=>(((h.eN hs c).dN (a4K hs c).shp (a4K hs c).ech t ht)).mono ?_⟩,⟨1296*B,by omega,fun j hj=>?_⟩⟩
 ·rw[<-Nat.mul_assoc]
  refine Nat.mul_le_mul_right _ ?_;exact Nat.mul_le_mul (p7 t (Nat.le_trans ht (hle c (Nat.le_refl _)))) (p5 _ (hle c (Nat.le_refl _)))
 ·obtain⟨h1,h2⟩:=h.rN hs j
  have hp:=Nat.mul_le_mul_right B (p6 _ (hle2 j hj));exact⟨h1.mono hp,Nat.le_trans h2 hp⟩
theorem a4w {n c B:Nat} {m:Mat} (hs:Shp n c m) (h:HB B m) (hn:n<=4) (hBB:B<=6000):a9x m c/\b3R m c:=by
 have h35:=b5j hn;have h6:6^n<=1296:=Nat.le_trans (Nat.pow_le_pow_right (by omega) hn) (by decide);have h1:=Nat.mul_le_mul h35 hBB;have h2:=Nat.mul_le_mul h6 hBB;exact⟨b3z hs h (by omega),b1Z hs h (by omega)⟩
theorem b0y {n c B:Nat} {m:Mat} (hs:Shp n c m) (h:HB B m) (hn:n<=4):HB (1296*B) (a1i m c).1:=by
 rw[(b2B hs).1];refine(h.rN hs c).1.mono (Nat.mul_le_mul_right _ ?_);exact Nat.le_trans (a5h 6 (by omega) (Nat.le_trans (b0w hs c) hn)) (by decide)
theorem a9k {n B:Nat} {f:Nat->Rat} (h:∀i,i<n->hq (f i)<=B):hq (sm n f)<=1+n*(B+1):=by
 induction n with
 |zero=>unfold sm;rw[a0Q];omega
 |succ n ih=>
  unfold sm;have h1:=ih fun i hi=>h i (by omega);have h2:=a8b (sm n f) (f n);have h3:=h n (by omega);have e:(n+1)*(B+1)=n*(B+1)+(B+1):=Nat.succ_mul _ _;omega
theorem b2a {l:List Rat} {B:Nat} (h:BR B l) (hB:1<=B) (i:Nat):hq (fn l i)<=B:=a7a h hB i
theorem b0z {l m:List Rat} {c B C:Nat} (hl:l.length=c) (h1:BR B l) (h2:BR C m) (hB:1<=B) (hC:1<=C):hq (a3q l m)<=1+c*(B+C+1):=by
 rw[b0s hl];refine a9k fun i hi=>Nat.le_trans (hq_mul _ _) ?_;have:=a7a h1 hB i;have:=a7a h2 hC i;omega
theorem b5p {x:Mat} {n B:Nat} (h:HB B x) (i j:Nat):hq (gr n (ent x) i j)<=1+n*(2*B+1):=a9k fun r _=>Nat.le_trans (hq_mul _ _) (by have:=h r i;have:=h r j;omega)
theorem b6f {x:Mat} {y:List Rat} {n B:Nat} (h:HB B x) (hy:BR B y) (i:Nat):hq (gy n (ent x) (fn y) i)<=1+n*(2*B+1):=a9k fun r _=>Nat.le_trans (hq_mul _ _) (by have:=h r i;have:=b2a hy h.pos r;omega)
theorem a4l {n B:Nat} (hn:n<=8) (hB:B<=370):1+n*(2*B+1)<=5929:=by
 have:=Nat.mul_le_mul hn (show 2*B+1<=741 by omega);omega
theorem a8I {x:Mat} {n c B:Nat} (h:HB B x) (hn:n<=8) (hB:B<=370):HB 5929 (gmL x n c):=fun i j=>by
 by_cases hi:i<c
 ·by_cases hj:j<c
  ·rw[a6l x n c i hi j hj];exact Nat.le_trans (b5p h i j) (a4l hn hB)
  ·rw[a1s (a1B x n c) (.inr (by omega)),a0Q];decide
 ·rw[a1s (a1B x n c) (.inl (by omega)),a0Q];decide
theorem a8J {x:Mat} {y:List Rat} {n c B:Nat} (h:HB B x) (hy:BR B y) (hn:n<=8) (hB:B<=370):BR 5929 (gyL x y n c):=fun q hq=>by
 obtain⟨i,_,rfl⟩:=List.mem_map.1 hq;exact Nat.le_trans (b6f h hy i) (a4l hn hB)
theorem b0A {m:Mat} {b:List Rat} {n c B:Nat} (hs:Shp n c m) (hm:HB B m) (hb:BR B b) (hn:n<=4):BR (1296*B) (b2E (a1i (a2y m b n) (c+1)).1 (a1i (a2y m b n) (c+1)).2 c):=b6d fun x hx=>by
 obtain⟨_,h2,_⟩:=a0X (a1V (b:=b) hs);have h5:=b0y (a1V hs) (a8A hs hm hb) hn;rw[a7G]at hx;rw[a8q h2 x hx];unfold b0f;split
 ·exact h5 _ _
 ·rw[a0Q];exact h5.pos
theorem b3S {x:Mat} {y:List Rat} {n c B:Nat} (h:HB B x) (hy:BR B y) (hn:n<=8) (hc:c<=4) (hB:B<=370):BR 8000000 (a1X x y n c):=fun q hq=>
 Nat.le_trans (b0A (a1B x n c) (a8I h hn hB) (a8J h hy hn hB) hc q hq) (by decide)
theorem b5q {l:List Rat} {B i:Nat} (h:BR B l) (hi:i<l.length):hq l[i]<=B:=h _ (List.getElem_mem hi)
theorem b5r {x:Mat} {y b:List Rat} {n c B C:Nat} (hs:Shp n c x) (h:BM B x) (hy:BR B y) (hb:BR C b) (hB1:1<=B) (hC1:1<=C):BR (B+c*(B+C+1)+2) (a4u x y b):=fun q hq=>by
 obtain⟨i,hi,rfl⟩:=List.getElem_of_mem hq;have h1:i<x.length:=by unfold a4u at hi;rw[List.length_zipWith]at hi;omega
 have h2:i<y.length:=by unfold a4u at hi;rw[List.length_zipWith]at hi;omega
 rw[a7f hi h1 h2];have a1:=a9O y[i] (a3q x[i] b);have a2:=b5q hy h2;have a3:=b0z (hs.2 _ (List.getElem_mem h1)) (h _ (List.getElem_mem h1)) hb hB1 hC1;omega
theorem b3T {x:Mat} {y b:List Rat} {n c B:Nat} (hs:Shp n c x) (h:BM B x) (hy:BR B y) (hb:BR 8000000 b) (hB1:1<=B) (hc:c<=4) (hB:B<=370):BR 33000000 (a4u x y b):=fun q hq=>by
 have h1:=b5r hs h hy hb hB1 (by decide) q hq;have:=Nat.mul_le_mul hc (show B+8000000+1<=8000371 by omega);omega
theorem b5s {x:Mat} {p:List Nat} {B:Nat} (h:BM B x) (hB:1<=B):BM B (pkL x p):=fun r hr q hq=>by
 obtain⟨s,hs,rfl⟩:=List.mem_map.1 hr;obtain⟨j,_,rfl⟩:=List.mem_map.1 hq;exact a7a (h s hs) hB j
theorem a8K {u:Mat} {n m B:Nat} (h:HB B u) (hn:n<=8) (hB:B<=370):HB 5929 (a2M u n m):=fun i j=>by
 by_cases hi:i<m
 ·by_cases hj:j<m
  ·rw[a7g u n m i hi j hj];exact Nat.le_trans (b5p h i j) (a4l hn hB)
  ·rw[a1s (a1c u n m) (.inr (by omega)),a0Q];decide
 ·rw[a1s (a1c u n m) (.inl (by omega)),a0Q];decide
theorem a8L {m:Mat} {n B:Nat} (hs:Shp n n m) (h:HB B m):HB B (a1A m n):=fun i j=>by
 have h1:=h.pos;by_cases hi:i<n
 ·by_cases hj:j<2*n
  ·rw[a2L hs i hi j hj]
   split
   ·exact h i j
   ·split
    ·have:hq (1:Rat)<=1:=by decide+kernel
     omega
    ·rw[a0Q];exact h1
  ·rw[a1s (a1j hs) (.inr (by omega)),a0Q];exact h1
 ·rw[a1s (a1j hs) (.inl (by omega)),a0Q];exact h1
theorem b3U {m:Mat} {n B:Nat} (hs:Shp n n m) (h:HB B m) (hn:n<=4):HB (1296*B) (a3u m n):=fun i j=>by
 have h5:=b0y (a1j hs) (a8L hs h) hn;by_cases hi:i<n
 ·rw[a8C hs i hi j];exact h5 _ _
 ·rw[a1s (a2W hs) (.inl (by omega)),a0Q];exact h5.pos
theorem b0B {u:Mat} {n m B:Nat} (h:HB B u) (hn:n<=8) (hm:m<=4) (hB:B<=370):BM 8000000 (a3u (a2M u n m) m):=fun r hr q hq=>
 Nat.le_trans (a6V (b3U (a1c u n m) (a8K h hn hB) hm) r hr q hq) (by decide)
theorem b5t {m:Mat} {v:List Rat} {n c B C:Nat} (hs:Shp n c m) (h:BM B m) (hv:BR C v) (hB:1<=B) (hC:1<=C):BR (1+c*(B+C+1)) (a3B m v):=fun q hq=>by
 obtain⟨r,hr,rfl⟩:=List.mem_map.1 hq;exact b0z (hs.2 r hr) (h r hr) hv hB hC
theorem b3V {u:Mat} {n m B:Nat} (hu:BM B u) (hn:n<=8) (hm:m<=4) (hB1:1<=B) (hB:B<=370) {r:List Rat} (hr:r∈u):BR 33000000 (a3B (a3u (a2M u n m) m) r):=fun q hq=>by
 have h1:=b5t (a2W (a1c u n m)) (b0B (a7D hu hB1) hn hm hB) (hu r hr) (by decide) hB1 q hq;have:=Nat.mul_le_mul hm (show 8000000+B+1<=8000371 by omega);omega
theorem b5u {m:Mat} {i j:Nat} (hi:i<m.length) (hj:j<m[i].length):m[i][j]=ent m i j:=by
 unfold ent;rw[show m.getD i []=m[i]by simp[List.getD_eq_getElem?_getD,hi],List.getD_eq_getElem?_getD,List.getElem?_eq_getElem hj];rfl
end Go.Lin
namespace Go.Proofs.YtkddecjkfdogiaaGreat
open Go.RowKit Go.Rep Go.Lim Go.Lin
attribute [local go_sem↓] Go.wp_at_zero Go.wp_at_succ
end Go.Proofs.YtkddecjkfdogiaaGreat
namespace Go.Lin
open Go.Lim
end Go.Lin
namespace Go.Proofs.YtkddecjkfdogiaaGreat
open Go.RowKit Go.Rep Go.Lim Go.Lin
end Go.Proofs.YtkddecjkfdogiaaGreat
namespace Go.Rep
open Go.RowKit Go.Lim
theorem a2v {P:Program} {t e sz by_:Nat} {z:Value} {ao:Option Addr} (T:SliceT P t e sz by_ z) (len cap i:Nat) (k1 k2:IntKind) (h:i<=cap) (w:World):
  (Instr.sliceAt t (.slice ao len cap) none (some (.int k1 (i:Int))) (some (.int k2 (i:Int)))).run P w= .ok (.slice ao i i) w:=by
 obtain⟨ti,hi,hz,hsz,hby⟩:=info_parts T.info;have h1':(i:Int)<=cap:=by omega
 cases ao<;>simp[Instr.sliceAt,Instr.slice,run_underlying T.und,Instr.sliceBounds,run_sliceBound,h1',sizeOf,typeInfo,hi,Addr.add_zero']
end Go.Rep
namespace Go.Proofs.YtkddecjkfdogiaaGreat
open Go.RowKit Go.Rep Go.Lim Go.Lin
theorem b2N:SliceT Tryz.prog 61 4 1 1 (.bool false):=⟨Tryz.underlying61,by kernel_rfl⟩
def b4r (l:List Nat) (v:Nat) (r:Int):Prop:=decide ((0:Int)<=r)=decide (v∈l)
set_option maxRecDepth 100000 in
theorem a9l (X:Nat->Bool) (w:World) (ao:Option Addr) (l:List Nat) (ca v:Nat) (hs:Sl (a0b .i64) 1 (mk X w) ao l) (hl:l.length<=1099511627776):
  Calls Tryz.prog 233 #[.slice ao l.length ca, .int .i64 (v:Int)] w (fun e w'=>w'=w/\∃r:Int,e= .returned (.int .i64 r)/\b4r l v r):=by
 have hh:=hs.hd;obtain⟨n,hn⟩:∃n,l.length=n:=⟨_,rfl⟩;have hn':=hid hn;rw[hn]at hl hh |-;clear hn;go_enter Tryz.func233,Tryz.ntmps233
 go_wp2_with fail
 go_loop [8] (fun c=>∃i:Nat,c= .int .i64 i/\i<=n/\Hid (∀q,q<i->∀hq:q<l.length,l[q]≠v)) (fun c=>n - (intOf c).toNat)
 case atStart=>exact⟨0,rfl,Nat.zero_le _,hid fun q hq=>by omega⟩
 case round=>
  obtain⟨i,rfl,hi,hok⟩:=hrel;by_cases hlt:i<n
  ·have hil:i<l.length:=by rw[hn'.out];exact hlt
   have k00:=hs.nat i hil;have i1:∀W,(Instr.indexAt 22 (.slice ao n ca) (.int .i64 (i:Int))).run Tryz.prog W= .ok (.pointer (some (adr ao i))) W:=a0z a6A ao n ca .i64 i hh (by omega) rfl;obtain⟨y,hy⟩:∃y,l[i]=y:=⟨_,rfl⟩;rw[hy]at k00;by_cases hv:y=v
   ·have hb:((v:Int)==(y:Int))=true:=a7n (by omega)
    have hr:b4r l v (i:Int):=(by
     unfold b4r;rw[decide_eq_true (by omega),decide_eq_true (by rw[<-hv,<-hy];exact List.getElem_mem _)])
    clear hv hy;go_wp2_with fail
    go_ret
    exact⟨rfl,_,rfl,hr⟩
   ·have hb:((v:Int)==(y:Int))=false:=a3E (by omega)
    have hok2:Hid (∀q,q<i+1->∀hq:q<l.length,l[q]≠v):=hid fun q hq h=>by
     by_cases e:q=i
     ·subst e;rw[hy];exact hv
     ·exact hok.out q (by omega) h
    clear hv hy;go_wp2_with fail
    go_round
    case rel=>exact⟨i+1,by go_num,by omega,hok2⟩
    case measure=>simp[intOf];omega
  ·have hr:b4r l v (-1):=(by
    unfold b4r;rw[decide_eq_false (by omega),decide_eq_false fun h=>by
     obtain⟨q,hq,e⟩:=List.getElem_of_mem h;exact hok.out q (by have:=hn'.out;omega) hq e])
   go_wp2_with fail
   go_ret
   exact⟨rfl,_,rfl,hr⟩
set_option maxRecDepth 100000 in
theorem a6o (X:Nat->Bool) (w:World) (ao:Option Addr) (l:List Nat) (ca v:Nat) (hs:Sl (a0b .i64) 1 (mk X w) ao l) (hl:l.length<=1099511627776):
  Calls Tryz.prog 178 #[.slice ao l.length ca, .int .i64 (v:Int)] w (fun e w'=>w'=w/\e= .returned (.bool (decide (v∈l)))):=by
 have h0:=a9l X w ao l ca v hs hl;obtain⟨b,hb⟩:∃b,decide (v∈l)=b:=⟨_,rfl⟩;unfold b4r at h0;rw[hb]at h0 |-;clear hb;go_enter Tryz.func178,Tryz.ntmps178
 go_wp2_with fail
 refine h0.mono ?_;rintro e w1 ⟨rfl,r,rfl,hr0⟩;have hr:=hid hr0.symm;clear h0 hr0;go_wp2_with fail
 go_ret
 exact⟨rfl,a0l hr.out.symm⟩
theorem un_or {X:Nat->Bool} {oo oo2:Option Addr} {w:World} (hor:oo2=oo\/∃g,oo2=some ⟨g,0,none⟩/\w.heap.size<=g):∀k,k<w.heap.size->un X oo2 k=true->un X oo k=true:=fun k hk h=>by
 rcases hor with rfl|⟨g,rfl,hg⟩
 ·exact h
 ·by_cases hx:X k=true
  ·exact a0p hx
  ·exfalso
   have:g=k:=by simpa[un,hx,ob]using h
   omega
def b5v (X:Nat->Bool) (w:World) (p:List Nat) (c:Nat) (e:Ending) (w':World):Prop:=Ext w w'/\∃uo uc v,e= .returned (.tuple #[.slice uo c uc,v, .int .i64 0])/\c<=uc/\Sl BlR 1 (mk X w') uo (usedL p c)
set_option maxRecDepth 100000 in
set_option maxHeartbeats 800000 in
theorem b0C (X:Nat->Bool) (w:World) (u:Value) (x:Mat) (n c:Nat) (hX:HX X w) (hu:MV (mk X w) u x) (hf:a0x x=true) (hnx:x.length=n) (hcx:colsL x=c) (hn1:1<=n) (hT:a9x x c) (hbm:BM 68719476736 (a1i x c).1):Calls Tryz.prog 110 #[u] w (b5v X w (a1i x c).2 c):=by
 obtain⟨hsh,h96,hc96,hpos,_⟩:=a0K hf;rw[hnx,hcx]at hsh;rw[hnx]at h96;rw[hcx]at hc96 hpos;have hc1:=hpos (by omega);have hre:=a9h X w u x hX hu hf (by rw[hcx];exact hT);rw[hcx]at hre;obtain⟨hs2,hg,_⟩:=a0X hsh;have hpl:=hg.le;obtain⟨R,hR⟩:∃R,(a1i x c).1=R:=⟨_,rfl⟩;obtain⟨p,hp⟩:∃p,(a1i x c).2=p:=⟨_,rfl⟩;rw[hR]at hs2 hbm;rw[hp]at hpl;rw[hR,hp]at hre;have hfR:a0x R=true:=b0V hs2 h96 hc1 hc96;have hcR:colsL R=c:=a8y hs2 hn1;have htr:=hid fun w' v (h:MC (mk X w') v R) (hX:HX X w')=>a2e X w' v R n c hX (h.mv hbm) hfR hs2.1 hcR;have hts:=hid (a2j R n c);obtain⟨T,hT2⟩:∃T,trL R n c=T:=⟨_,rfl⟩;rw[hT2]at htr hts;rw[hp];obtain⟨pl,hpl2⟩:∃pl,p.length=pl:=⟨_,rfl⟩;have hpl':=hid hpl2;rw[hpl2]at hpl;clear hR hp hfR hcR hT2 hs2 hg hbm hT hsh hu hnx hcx hpl2;go_enter Tryz.func110,Tryz.ntmps110
 go_wp2_with fail
 refine hre.mono ?_;rintro e w1 ⟨hE1,r,v,rfl,hr,po,pc,rfl,hpc,hps⟩;have hX1:=hX.ext hE1;have ht1:=htr.out w1 r hr hX1;rw[hpl'.out]at hpc;obtain⟨ro,rc,rfl,_,_⟩:=hr;clear hre htr;rw[hpl'.out];go_wp2_with fail
 refine ht1.mono ?_;rintro e w2 ⟨hE2,tv,rfl,tvo,tc,rfl,htc,hts2⟩;have hX2:=hX1.ext hE2;have hps2:=hps.mono (a0b.mono _) (a0o hE2);have hE12:=hE1.trans hE2;have htl:=hid hts.out.1;rw[hts.out.1]at htc;have hht:=hts2.hd;rw[htl.out]at hht |-;clear ht1;go_wp2_with fail
 go_loopw [2,3,27] (fun o b k wr=>∃(j:Nat) (oo:Option Addr) (co:Nat) (bo:Option Addr) (cb:Nat) (hs:List Hdr),k= .int .i64 j/\o= .slice oo j co/\b= .slice bo j cb/\j<=c/\OL BlR 1 X w2.heap.size 4 wr oo co (usedL p j)/\hs.length=j/\OL HdR 1 (un X oo) w2.heap.size 45 wr bo cb hs/\Ext w2 wr) (fun _ _ k _=>c - (intOf k).toNat)
 case atStart=>exact⟨0,none,0,none,0,[],rfl,rfl,rfl,Nat.zero_le _,OL.nil _ _ _ _ _ _,rfl,OL.nil _ _ _ _ _ _,ExtX.refl _⟩
 case round=>
  obtain⟨j,oo,co,bo,cb,hs,rfl,rfl,rfl,hj,hO,hhs,hB,hE⟩:=hrel;have hXr:HX X wr:=hX2.ext hE;have hbase:=hE.size;by_cases hlt:j<c
  ·have hjT:j<T.length:=by rw[htl.out];exact hlt
   obtain⟨a1,c1,hX1',hc1',hcl1,hq1⟩:=hts2.row j hjT;have hrl:=hts.out.2 T[j] (List.getElem_mem _);rw[hrl]at hc1' hcl1;have k00:=hc1'.out noY wr hE rfl;have hco:=a6o X wr po p pc j (hps2.mono (a0b.mono _) (a0o hE)) (by rw[hpl'.out];omega);rw[hpl'.out]at hco;have hus:=hid (a9i p j);have hul:=hid (a4k p j);obtain⟨bb,hbb⟩:∃bb,decide (j∈p)=bb:=⟨_,rfl⟩;rw[hbb]at hco hus;have hht':=hht;clear hc1' hq1 hrl hbb;have hhs':=hid hhs;have f1:∀W,(Instr.sliceAt 45 (.slice a1 n c1) none (some (.int .i64 (pl:Int))) (some (.int .i64 (pl:Int)))).run Tryz.prog W= .ok (.slice a1 pl pl) W:=a2v a0E n c1 pl .i64 .i64 (by omega);clear hhs;go_wp2_with (with_reducible refine a0t a0r (by omega) (by assumption) ?_)
   refine hco.mono ?_;rintro e w5 ⟨rfl,rfl⟩;clear hco k00;go_wp2_with (first
    |(at_builtin;refine a1e (l:=usedL p j) b2N rfl BlR.elem hbase hXr j hul.out rfl rfl hO (.bool bb) bb rfl rfl (by omega) (by omega) ?_;intro oo2 co2 w7 hO7 hE7 hor;have hB7:=hB.ext HdR.elem (Z:=un X oo2) hE7 (fun k _ hk=>a0q hk) (un_or hor);have hE27:=hE.own hO (Nat.le_refl _) hE7;have hb7:=hE27.size;have hX7:=hO7.unX (hX2.ext hE27))
    |(at_builtin;refine a1e (l:=hs) a0r rfl HdR.elem hb7 hX7 j hhs'.out rfl rfl hB7 (.slice a1 pl pl) (a1,pl,pl) rfl rfl (by omega) (by omega) ?_;intro bo2 cb2 w8 hB8 hE8 hor2))
   have hO8:=hO7.frame (fun _ _ _ _ h=>h) hE8 (fun k hk=>by
    cases hbk:ob bo k
    ·rfl
    ·have:=(a1v (hB7.1 k hbk)).2;rw[hk]at this;cases this) hO7.1
   have hE28:=hE27.own hB7 (Nat.le_refl _) hE8;rw[<-hus.out]at hO8;have hl8:(hs++[(a1,pl,pl)]).length=j+1:=by rw[List.length_append,hhs'.out];rfl
   go_roundw
   case rel=>exact⟨j+1,oo2,co2,bo2,cb2,_,by go_num,by go_num,by go_num,by omega,hO8,hl8,hB8,hE28⟩
   case measure=>simp[intOf];omega
  ·have hjc:j=c:=by omega
   subst hjc;have hc:=hO.lenCap;rw[a4k]at hc;have hs:=hO.sl BlR.elem;go_wp2_with fail
   go_ret3
   exact⟨hE12.trans hE,_,_,_,rfl,hc,hs⟩
end Go.Proofs.YtkddecjkfdogiaaGreat
namespace Go.Rep
open Go.RowKit Go.Lim
theorem b6g {w:World} {g:Nat} {arr:Array Value} {e:TypeId} {u:Value} (h:Bx w g arr e) (harr:arr=u.cells):At w (some ⟨g,0,none⟩) [u]:=by
 subst harr;refine⟨fun _=>⟨_,_,rfl⟩,fun j c hj=>?_⟩;simp only[List.flatMap_cons,List.flatMap_nil,List.append_nil,a0g,Array.getElem?_toList]at hj;have h0:adr (some ⟨g,0,none⟩) j=⟨g,j,none⟩:=by simp[adr]
 rw[h0];exact h.cell j hj
def two (a b:Option Addr):Nat->Bool:=fun k=>ob a k||ob b k
theorem a1D {a b:Option Addr} {w w':World} (h:ExtX (ob a) w w'):ExtX (two a b) w w':=h.weaken fun k _ hk=>by
 unfold two at hk;cases hb:ob a k
 ·rfl
 ·simp[hb]at hk
theorem a1o {a b:Option Addr} {w w':World} (h:ExtX (ob b) w w'):ExtX (two a b) w w':=h.weaken fun k _ hk=>by
 unfold two at hk;cases hb:ob b k
 ·rfl
 ·simp[hb]at hk
theorem a4L {a b:Option Addr} {w w':World} (h:a=b\/∃g,a=some ⟨g,0,none⟩/\w'.heap.size<=g) (hs:w.heap.size<=w'.heap.size):a=b\/∃g,a=some ⟨g,0,none⟩/\w.heap.size<=g:=by
 rcases h with h|⟨g,h,hg⟩
 ·exact .inl h
 ·exact .inr ⟨g,h,Nat.le_trans hs hg⟩
theorem b3W {a b:Option Addr} {w:World} (h:a=b\/∃g,a=some ⟨g,0,none⟩/\w.heap.size<=g) {k:Nat} (hk:k<w.heap.size) (hb:ob a k=true):ob b k=true:=by
 rcases h with rfl|⟨g,rfl,hg⟩
 ·exact hb
 ·have:g=k:=by simpa[ob]using hb
  omega
theorem a2k {X:Nat->Bool} {w w':World} (h:HX X w) (hs:w.heap.size<=w'.heap.size):HX X w':=fun k hk=>Nat.lt_of_lt_of_le (h k hk) hs
theorem a5r {X:Nat->Bool} {a:Option Addr} {k:Nat} (h:un X a k=true):X k=true\/ob a k=true:=by simpa[un]using h
theorem b2O {A:Nat->Bool} {w:World} {xo yo xo' yo':Option Addr} (h1:xo'=xo\/∃g,xo'=some ⟨g,0,none⟩/\w.heap.size<=g) (h2:yo'=yo\/∃g,yo'=some ⟨g,0,none⟩/\w.heap.size<=g):∀k,k<w.heap.size->un (un A xo') yo' k=true->un (un A xo) yo k=true:=fun k hk h=>by
 rcases a5r h with h|h
 ·rcases a5r h with h|h
  ·exact a0p (a0p h)
  ·exact a0p (a0q (b3W h1 hk h))
 ·exact a0q (b3W h2 hk h)
theorem b2P {A:Nat->Bool} {xo yo:Option Addr}:∀k,two xo yo k=true->un (un A xo) yo k=true:=fun k h=>by
 unfold two at h;rcases Bool.or_eq_true _ _|>.mp h with h|h
 ·exact a0p (a0q h)
 ·exact a0q h
theorem a5I {A:Nat->Bool} {w w':World} {xo yo xo':Option Addr} (D:ExtX (two xo yo) w w') (h1:xo'=xo\/∃g,xo'=some ⟨g,0,none⟩/\w.heap.size<=g):Le (mk (un (un A xo) yo) w) (mk (un (un A xo') yo) w'):=
 a0R D (fun k _ h=>b2P k h) (b2O h1 (.inl rfl))
section
variable {P:Program} {ops:Array Oper} {Q:Exit->Act->World->Prop} {a:Act} {w:World}
variable {α:Type} {R:Mem->Value->α->Prop} {sz:Nat} {X:Nat->Bool} {base:Nat} {e:TypeId} {ao:Option Addr} {cap:Nat} {l:List α}
theorem OL.after {A:Nat->Bool} {xo xo' yo:Option Addr} {cy:Nat} {w':World} (hR:Elem R sz) (h:OL R sz (un A xo) base e w yo cy l) (hE:ExtX (ob xo) w w') (hor:xo'=xo\/∃g,xo'=some ⟨g,0,none⟩/\w.heap.size<=g):OL R sz (un A xo') base e w' yo cy l:=
 h.ext hR hE (fun k _ hk=>a0q hk) fun k hk h=>by
  rcases a5r h with h|h
  ·exact a0p h
  ·exact a0q (b3W hor hk h)
theorem a0D {o:Oper} {K:Act->World->Prop} {E:Prop} {t by_:Nat} {z:Value} {arr:Array Value} {s x:Operand} {g:Nat}
  (hg:o.guard=none) (hop:o.op=Op.call {callee:=Callee.builtin Builtin.append,args:=#[s,x],argTypes:=#[t,t]}) (T:SliceT P t e sz by_ z) (hzs:z.cells.size=sz) (hR:Elem R sz) (hbase:base<=w.heap.size) (hX:∀k,X k=true->k<w.heap.size) (n:Nat) (hn:l.length=n)
  (hs:a.eval s= .slice ao n cap) (hx:a.eval x= .slice (some ⟨g,0,none⟩) 1 1) (hlit:Bx w g arr e) (h:OL R sz X base e w ao cap l)
  (u:Value) (y:α) (harr:arr=u.cells) (hu:R (mk (un X ao) w) u y) (hroom:(n+1)*by_<=140737488355328) (hmax:n+1<=9223372036854775807)
  (hK:∀ao' cap' w',OL R sz X base e w' ao' cap' (l++[y])->ExtX (ob ao) w w'->(ao'=ao\/∃g,ao'=some ⟨g,0,none⟩/\w.heap.size<=g)->K (a.put o.dst (.slice ao' (n+1) cap')) w'):
  if Region.wanted o (yielded ops a.tmps)=true then Oper.wp P o a w K Q else E:=by
 have hw:Region.wanted o (yielded ops a.tmps)=true:=by simp[Region.wanted,hg]
 rw[if_pos hw];subst hn;obtain⟨ao',cap',w',hr,h2,h3,h4⟩:=h.run_append (P:=P) T hzs hR hbase hX (some ⟨g,0,none⟩) 1 [u] [y] (b6g hlit harr) rfl
  (fun i hi _=>by
           have:i=0:=by simpa using hi
           subst this;exact hu) (by simpa using hroom) (by simpa using hmax) o.type
 unfold Oper.wp execOp;rw[hop];simp only[resolve,invoke,builtin,Sem.run_bind,Sem.run_pure,Result.andThen_ok,List.map_toArray,List.map_cons,List.map_nil,hs,hx];rw[show([y]:List α).length=1 from rfl]at hr;rw[hr];have:=hK ao' cap' w' h2 h3 h4;rw[show(l++[y]).length=l.length+1 from by simp];exact this
end
end Go.Rep
