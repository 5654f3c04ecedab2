/- Determinants of at most four rows: row operations, products, the transposed matrix, triangles. Conditions: none. Ranks, null vectors and solutions, read off the reduced form. Conditions: none. matrix: formed, columns. Conditions: lengths far below any machine's. exact: Same, Points. halfspace: fits. Conditions: lengths far below any machine's. Depth of a point: vectors, products, counts; a direction turned a little. Conditions: none. Depth of a point: a direction can be turned till only its multiples keep its boundary. Conditions: none. Bases and dimensions of what is orthogonal to some vectors; the rows that leave but one direction. Conditions: none. Depth of a point: the search over the directions that are orthogonal to some of the vectors. Conditions: none. Directions one behind the other, and the end of a search for the depth. Conditions: none. The search for the depth over lists: null spaces, pivot columns. Conditions: none. What a search for the depth keeps from round to round, and what it ends with. Conditions: none. Depth and maps of the plane; depth and equal points; counts of directions by rows. Conditions: none. Matrices whose elimination stays small: those of small numbers, and those that are reduced. Conditions: none. Growth of the numbers of an elimination by the number of its pivots. Conditions: none. Products of rows and matrices, the transposed matrix, over lists. Conditions: none. Counting by directions over lists: what both texts' Count return; bounds. Conditions: none. halfspace: zero, unit. exact: Rows of lists. Conditions: at most 1000 rows and columns. exact: Rows of lists of lists. Conditions: at most 1000 rows. exact: Rows of numbers; selection.part. Conditions: at most 1000 rows. Least squares: the normal equations, over functions of row and column. Conditions: none. Least squares: the fit by the used columns, and the leverages, over functions. Conditions: none. Solve, as lists. Conditions: none. The determinants and ranks that the program computes. Conditions: at most four rows for determinants. Rows turned as law 06 turns them. Conditions: none. -/
import Derived.Test.YtidbbddagfnfbaaGreatSfF
namespace Go.Lin
def det:Nat->F2->Rat
 |0,_=>1
 |n+1,f=>sm (n+1) fun i=>(if i%2=0 then 1 else -1)*f i 0*det n fun r c=>f (if r<i then r else r+1) (c+1)
theorem a1p {n:Nat} {f g:F2} (h:Eqm n n f g):det n f=det n g:=by
 induction n generalizing f g with
 |zero=>rfl
 |succ n ih=>
  unfold det;refine a0g fun i hi=>?_;rw[h i hi 0 (by omega),ih (g:=fun r c=>g (if r<i then r else r+1) (c+1)) fun r hr c hc=>h _ (by split<;>omega) _ (by omega)]
theorem c0e (f:F2):det 0 f=1:=rfl
theorem a8b (f:F2):det 1 f=f 0 0:=by simp[det,sm];grind
theorem a8c (f:F2):det 2 f=f 0 0*f 1 1 - f 1 0*f 0 1:=by simp[det,sm];grind
theorem a8d (f:F2):det 3 f=f 0 0*(f 1 1*f 2 2 - f 2 1*f 1 2) - f 1 0*(f 0 1*f 2 2 - f 2 1*f 0 2)+f 2 0*(f 0 1*f 1 2 - f 1 1*f 0 2):=by
 simp[det,sm];grind
theorem a8e (f:F2):det 4 f=f 0 0*(f 1 1*(f 2 2*f 3 3 - f 3 2*f 2 3) - f 2 1*(f 1 2*f 3 3 - f 3 2*f 1 3)+f 3 1*(f 1 2*f 2 3 - f 2 2*f 1 3))
  - f 1 0*(f 0 1*(f 2 2*f 3 3 - f 3 2*f 2 3) - f 2 1*(f 0 2*f 3 3 - f 3 2*f 0 3)+f 3 1*(f 0 2*f 2 3 - f 2 2*f 0 3))
  +f 2 0*(f 0 1*(f 1 2*f 3 3 - f 3 2*f 1 3) - f 1 1*(f 0 2*f 3 3 - f 3 2*f 0 3)+f 3 1*(f 0 2*f 1 3 - f 1 2*f 0 3))
  - f 3 0*(f 0 1*(f 1 2*f 2 3 - f 2 2*f 1 3) - f 1 1*(f 0 2*f 2 3 - f 2 2*f 0 3)+f 2 1*(f 0 2*f 1 3 - f 1 2*f 0 3)):=by
 simp[det,sm];grind
theorem lt4 {P:Nat->Prop} (h0:P 0) (h1:P 1) (h2:P 2) (h3:P 3) (i:Nat) (hi:i<4):P i:=by
 match i,hi with
 |0,_=>exact h0
 |1,_=>exact h1
 |2,_=>exact h2
 |3,_=>exact h3
theorem lt1 {P:Nat->Prop} (h0:P 0) (i:Nat) (hi:i<1):P i:=by
 match i,hi with
 |0,_=>exact h0
theorem b1L (f g:F2) (i k:Nat) (hi:i<1) (hk:k<1) (hik:i≠k) (h1:∀j,j<1->g i j=f k j) (h2:∀j,j<1->g k j=f i j) (h3:∀r,r<1->r≠i->r≠k->∀j,j<1->g r j=f r j):det 1 g= - det 1 f:=by
 have e:Eqm 1 1 g (fun r j=>if r=i then f k j else if r=k then f i j else f r j):=fun r hr j hj=>by
  dsimp only;split
  ·subst_vars;exact h1 j hj
  ·split
   ·subst_vars;exact h2 j hj
   ·exact h3 r hr (by assumption) (by assumption) j hj
 rw[a1p e];clear e h1 h2 h3
 revert hik
 revert k
 revert i
 refine lt1 ?_<;>refine lt1 ?_<;>intro hik<;>first|exact absurd rfl hik|(rw[a8b,a8b];simp;try grind)
theorem b0F (f g:F2) (i:Nat) (a:Rat) (hi:i<1) (h1:∀j,j<1->g i j=a*f i j) (h3:∀r,r<1->r≠i->∀j,j<1->g r j=f r j):det 1 g=a*det 1 f:=by
 have e:Eqm 1 1 g (fun r j=>if r=i then a*f i j else f r j):=fun r hr j hj=>by
  dsimp only;split
  ·subst_vars;exact h1 j hj
  ·exact h3 r hr (by assumption) j hj
 rw[a1p e];clear e h1 h3
 revert i
 refine lt1 ?_<;>(rw[a8b,a8b];simp;try grind)
theorem b3Z (f g:F2) (i k:Nat) (a:Rat) (hi:i<1) (hk:k<1) (hik:i≠k) (h1:∀j,j<1->g i j=f i j+a*f k j) (h3:∀r,r<1->r≠i->∀j,j<1->g r j=f r j):det 1 g=det 1 f:=by
 have e:Eqm 1 1 g (fun r j=>if r=i then f i j+a*f k j else f r j):=fun r hr j hj=>by
  dsimp only;split
  ·subst_vars;exact h1 j hj
  ·exact h3 r hr (by assumption) j hj
 rw[a1p e];clear e h1 h3
 revert hik
 revert k
 revert i
 refine lt1 ?_<;>refine lt1 ?_<;>intro hik<;>first|exact absurd rfl hik|(rw[a8b,a8b];simp;try grind)
theorem b4a (f:F2) (_h:∀i j,i<1->j<i->f i j=0):det 1 f=f 0 0:=by
 rw[a8b]
theorem lt2 {P:Nat->Prop} (h0:P 0) (h1:P 1) (i:Nat) (hi:i<2):P i:=by
 match i,hi with
 |0,_=>exact h0
 |1,_=>exact h1
theorem b1M (f g:F2) (i k:Nat) (hi:i<2) (hk:k<2) (hik:i≠k) (h1:∀j,j<2->g i j=f k j) (h2:∀j,j<2->g k j=f i j) (h3:∀r,r<2->r≠i->r≠k->∀j,j<2->g r j=f r j):det 2 g= - det 2 f:=by
 have e:Eqm 2 2 g (fun r j=>if r=i then f k j else if r=k then f i j else f r j):=fun r hr j hj=>by
  dsimp only;split
  ·subst_vars;exact h1 j hj
  ·split
   ·subst_vars;exact h2 j hj
   ·exact h3 r hr (by assumption) (by assumption) j hj
 rw[a1p e];clear e h1 h2 h3
 revert hik
 revert k
 revert i
 refine lt2 ?_ ?_<;>refine lt2 ?_ ?_<;>intro hik<;>first|exact absurd rfl hik|(rw[a8c,a8c];simp;try grind)
theorem b0G (f g:F2) (i:Nat) (a:Rat) (hi:i<2) (h1:∀j,j<2->g i j=a*f i j) (h3:∀r,r<2->r≠i->∀j,j<2->g r j=f r j):det 2 g=a*det 2 f:=by
 have e:Eqm 2 2 g (fun r j=>if r=i then a*f i j else f r j):=fun r hr j hj=>by
  dsimp only;split
  ·subst_vars;exact h1 j hj
  ·exact h3 r hr (by assumption) j hj
 rw[a1p e];clear e h1 h3
 revert i
 refine lt2 ?_ ?_<;>(rw[a8c,a8c];simp;try grind)
theorem b4b (f g:F2) (i k:Nat) (a:Rat) (hi:i<2) (hk:k<2) (hik:i≠k) (h1:∀j,j<2->g i j=f i j+a*f k j) (h3:∀r,r<2->r≠i->∀j,j<2->g r j=f r j):det 2 g=det 2 f:=by
 have e:Eqm 2 2 g (fun r j=>if r=i then f i j+a*f k j else f r j):=fun r hr j hj=>by
  dsimp only;split
  ·subst_vars;exact h1 j hj
  ·exact h3 r hr (by assumption) j hj
 rw[a1p e];clear e h1 h3
 revert hik
 revert k
 revert i
 refine lt2 ?_ ?_<;>refine lt2 ?_ ?_<;>intro hik<;>first|exact absurd rfl hik|(rw[a8c,a8c];simp;try grind)
theorem b4c (f:F2) (h:∀i j,i<2->j<i->f i j=0):det 2 f=f 0 0*f 1 1:=by
 have z10:=h 1 0 (by omega) (by omega);rw[a8c];simp[z10];try grind
theorem lt3 {P:Nat->Prop} (h0:P 0) (h1:P 1) (h2:P 2) (i:Nat) (hi:i<3):P i:=by
 match i,hi with
 |0,_=>exact h0
 |1,_=>exact h1
 |2,_=>exact h2
theorem b1N (f g:F2) (i k:Nat) (hi:i<3) (hk:k<3) (hik:i≠k) (h1:∀j,j<3->g i j=f k j) (h2:∀j,j<3->g k j=f i j) (h3:∀r,r<3->r≠i->r≠k->∀j,j<3->g r j=f r j):det 3 g= - det 3 f:=by
 have e:Eqm 3 3 g (fun r j=>if r=i then f k j else if r=k then f i j else f r j):=fun r hr j hj=>by
  dsimp only;split
  ·subst_vars;exact h1 j hj
  ·split
   ·subst_vars;exact h2 j hj
   ·exact h3 r hr (by assumption) (by assumption) j hj
 rw[a1p e];clear e h1 h2 h3
 revert hik
 revert k
 revert i
 refine lt3 ?_ ?_ ?_<;>refine lt3 ?_ ?_ ?_<;>intro hik<;>first|exact absurd rfl hik|(rw[a8d,a8d];simp;try grind)
theorem b0H (f g:F2) (i:Nat) (a:Rat) (hi:i<3) (h1:∀j,j<3->g i j=a*f i j) (h3:∀r,r<3->r≠i->∀j,j<3->g r j=f r j):det 3 g=a*det 3 f:=by
 have e:Eqm 3 3 g (fun r j=>if r=i then a*f i j else f r j):=fun r hr j hj=>by
  dsimp only;split
  ·subst_vars;exact h1 j hj
  ·exact h3 r hr (by assumption) j hj
 rw[a1p e];clear e h1 h3
 revert i
 refine lt3 ?_ ?_ ?_<;>(rw[a8d,a8d];simp;try grind)
theorem b4d (f g:F2) (i k:Nat) (a:Rat) (hi:i<3) (hk:k<3) (hik:i≠k) (h1:∀j,j<3->g i j=f i j+a*f k j) (h3:∀r,r<3->r≠i->∀j,j<3->g r j=f r j):det 3 g=det 3 f:=by
 have e:Eqm 3 3 g (fun r j=>if r=i then f i j+a*f k j else f r j):=fun r hr j hj=>by
  dsimp only;split
  ·subst_vars;exact h1 j hj
  ·exact h3 r hr (by assumption) j hj
 rw[a1p e];clear e h1 h3
 revert hik
 revert k
 revert i
 refine lt3 ?_ ?_ ?_<;>refine lt3 ?_ ?_ ?_<;>intro hik<;>first|exact absurd rfl hik|(rw[a8d,a8d];simp;try grind)
theorem b4e (f:F2) (h:∀i j,i<3->j<i->f i j=0):det 3 f=f 0 0*f 1 1*f 2 2:=by
 have z10:=h 1 0 (by omega) (by omega);have z20:=h 2 0 (by omega) (by omega);have z21:=h 2 1 (by omega) (by omega);rw[a8d];simp[z10,z20,z21];try grind
theorem b1O (f g:F2) (i k:Nat) (hi:i<4) (hk:k<4) (hik:i≠k) (h1:∀j,j<4->g i j=f k j) (h2:∀j,j<4->g k j=f i j) (h3:∀r,r<4->r≠i->r≠k->∀j,j<4->g r j=f r j):det 4 g= - det 4 f:=by
 have e:Eqm 4 4 g (fun r j=>if r=i then f k j else if r=k then f i j else f r j):=fun r hr j hj=>by
  dsimp only;split
  ·subst_vars;exact h1 j hj
  ·split
   ·subst_vars;exact h2 j hj
   ·exact h3 r hr (by assumption) (by assumption) j hj
 rw[a1p e];clear e h1 h2 h3
 revert hik
 revert k
 revert i
 refine lt4 ?_ ?_ ?_ ?_<;>refine lt4 ?_ ?_ ?_ ?_<;>intro hik<;>first|exact absurd rfl hik|(rw[a8e,a8e];simp;try grind)
theorem b0I (f g:F2) (i:Nat) (a:Rat) (hi:i<4) (h1:∀j,j<4->g i j=a*f i j) (h3:∀r,r<4->r≠i->∀j,j<4->g r j=f r j):det 4 g=a*det 4 f:=by
 have e:Eqm 4 4 g (fun r j=>if r=i then a*f i j else f r j):=fun r hr j hj=>by
  dsimp only;split
  ·subst_vars;exact h1 j hj
  ·exact h3 r hr (by assumption) j hj
 rw[a1p e];clear e h1 h3
 revert i
 refine lt4 ?_ ?_ ?_ ?_<;>(rw[a8e,a8e];simp;try grind)
theorem b4f (f g:F2) (i k:Nat) (a:Rat) (hi:i<4) (hk:k<4) (hik:i≠k) (h1:∀j,j<4->g i j=f i j+a*f k j) (h3:∀r,r<4->r≠i->∀j,j<4->g r j=f r j):det 4 g=det 4 f:=by
 have e:Eqm 4 4 g (fun r j=>if r=i then f i j+a*f k j else f r j):=fun r hr j hj=>by
  dsimp only;split
  ·subst_vars;exact h1 j hj
  ·exact h3 r hr (by assumption) j hj
 rw[a1p e];clear e h1 h3
 revert hik
 revert k
 revert i
 refine lt4 ?_ ?_ ?_ ?_<;>refine lt4 ?_ ?_ ?_ ?_<;>intro hik<;>first|exact absurd rfl hik|(rw[a8e,a8e];simp;try grind)
theorem b4g (f:F2) (h:∀i j,i<4->j<i->f i j=0):det 4 f=f 0 0*f 1 1*f 2 2*f 3 3:=by
 have z10:=h 1 0 (by omega) (by omega);have z20:=h 2 0 (by omega) (by omega);have z21:=h 2 1 (by omega) (by omega);have z30:=h 3 0 (by omega) (by omega);have z31:=h 3 1 (by omega) (by omega);have z32:=h 3 2 (by omega) (by omega);rw[a8e];simp[z10,z20,z21,z30,z31,z32];try grind
theorem RE.det_same {n:Nat} {f g:F2} {d:Rat} (hn:n<=4) (h:RE n n f g d):det n g=d*det n f:=by
 induction h with
 |same h=>rw[a1p h];grind
 |swap i k hi hk hik h1 h2 h3=>
  match n,hn with
  |1,_=>rw[b1L _ _ i k hi hk hik h1 h2 h3];grind
  |2,_=>rw[b1M _ _ i k hi hk hik h1 h2 h3];grind
  |3,_=>rw[b1N _ _ i k hi hk hik h1 h2 h3];grind
  |4,_=>rw[b1O _ _ i k hi hk hik h1 h2 h3];grind
 |scale i a hi ha h1 h3=>
  match n,hn with
  |1,_=>exact b0F _ _ i a hi h1 h3
  |2,_=>exact b0G _ _ i a hi h1 h3
  |3,_=>exact b0H _ _ i a hi h1 h3
  |4,_=>exact b0I _ _ i a hi h1 h3
 |add i k a hi hk hik h1 h3=>
  match n,hn with
  |1,_=>rw[b3Z _ _ i k a hi hk hik h1 h3];grind
  |2,_=>rw[b4b _ _ i k a hi hk hik h1 h3];grind
  |3,_=>rw[b4d _ _ i k a hi hk hik h1 h3];grind
  |4,_=>rw[b4f _ _ i k a hi hk hik h1 h3];grind
 |trans _ _ ih1 ih2=>rw[ih2,ih1];grind
def pr:Nat->(Nat->Rat)->Rat
 |0,_=>1
 |n+1,f=>pr n f*f n
theorem b6W {n:Nat} (hn:n<=4) (f:F2) (h:∀i j,i<n->j<i->f i j=0):det n f=pr n fun i=>f i i:=by
 match n,hn with
 |0,_=>rfl
 |1,_=>rw[b4a f h];simp[pr];try grind
 |2,_=>rw[b4c f h];simp[pr];try grind
 |3,_=>rw[b4e f h];simp[pr];try grind
 |4,_=>rw[b4g f h];simp[pr];try grind
theorem a9U {n:Nat} (hn:n<=4) (f:F2) (i:Nat) (hi:i<n) (h:∀j,j<n->f i j=0):det n f=0:=by
 have:=(RE.scale (n:=n) (c:=n) (f:=f) (g:=f) i 2 hi (by grind) (fun j hj=>by rw[h j hj];grind) (fun _ _ _ _ _=>rfl)).det_same hn;grind
theorem Ech.ge {n k:Nat} {f:F2} {p:List Nat} (h:Ech n k f p) (i:Nat) (hi:i<p.length):i<=p[i]:=by
 induction i with
 |zero=>omega
 |succ i ih=>have:=ih (by omega);have:=h.inc i (i+1) (by omega) hi;omega
theorem Ech.det {n:Nat} {f:F2} {p:List Nat} (hn:n<=4) (h:Ech n n f p):Lin.det n f=pr n fun i=>f i i:=
 b6W hn f fun i j hi hj=>by
  by_cases a:i<p.length
  ·exact h.left i a j (by have:=h.ge i a;omega)
  ·exact h.below i (by omega) hi j (by omega)
theorem Rref.ge {n k:Nat} {f:F2} {p:List Nat} (h:Rref n k f p) (i:Nat) (hi:i<p.length):i<=p[i]:=by
 induction i with
 |zero=>omega
 |succ i ih=>have:=ih (by omega);have:=h.inc i (i+1) (by omega) hi;omega
theorem Rref.diag {n c:Nat} {f:F2} {p:List Nat} (h:Rref n c f p) (hp:p.length=n) (hc:∀i (hi:i<p.length),p[i]<n) (i:Nat) (hi:i<n):p[i]'(by omega)=i:=by
 have h1:∀q,q<n->∀hq:n - 1 - q<p.length,p[n - 1 - q]<=n - 1 - q:=by
  intro q
  induction q with
  |zero=>intro h0 hq;have:=hc _ hq;omega
  |succ q ih=>
   intro h0 hq;have h2:=ih (by omega) (by omega);have h3:=h.inc (n - 1 - (q+1)) (n - 1 - q) (by omega) (by omega);omega
 have h2:=h1 (n - 1 - i) (by omega) (by omega);have h3:=h.ge i (by omega);have e:n - 1 - (n - 1 - i)=i:=by omega
 simp only[e]at h2;omega
theorem Rref.unit {n c:Nat} {f:F2} {p:List Nat} (h:Rref n c f p) (hp:p.length=n) (hc:∀i (hi:i<p.length),p[i]<n):Eqm n n f fun i j=>if i=j then 1 else 0:=fun i hi j hj=>by
 have hd:=h.diag hp hc j hj;by_cases e:i=j
 ·subst e
  have:=h.one i (by omega);rw[hd]at this;simpa using this
 ·have:=h.zero j (by omega) i hi e;rw[hd]at this;simpa[e]using this
theorem a9V {n:Nat} (hn:n<=4):det n (fun i j=>if i=j then 1 else 0)=1:=by
 match n,hn with
 |0,_=>rfl
 |1,_=>rw[a8b];simp
 |2,_=>rw[a8c];simp;try grind
 |3,_=>rw[a8d];simp;try grind
 |4,_=>rw[a8e];simp;try grind
theorem Rref.det {n:Nat} {f:F2} {p:List Nat} (hn:n<=4) (h:Rref n n f p):Lin.det n f=if p.length=n then 1 else 0:=by
 have hle:=h.le;split
 ·rename_i e
  rw[a1p (h.unit e h.lt),a9V hn]
 ·exact a9U hn f p.length (by omega) (h.below _ (Nat.le_refl _) (by omega))
def mul (n:Nat) (f g:F2):F2:=fun i j=>sm n fun k=>f i k*g k j
def ofF (n c:Nat) (f:F2):Mat:=(List.range n).map fun i=>(List.range c).map (f i)
theorem a8W (n c:Nat) (f:F2):Shp n c (ofF n c f):=⟨by simp[ofF],fun r hr=>by
 obtain⟨i,_,rfl⟩:=List.mem_map.1 hr;simp⟩
theorem b1P (n c:Nat) (f:F2):Eqm n c (ent (ofF n c f)) f:=fun i hi j hj=>by simp[ent,ofF,List.getD_eq_getElem?_getD,hi,hj]
theorem RE.congr {n c:Nat} {f f' g:F2} {d:Rat} (h:RE n c f g d) (e:Eqm n c f' f):RE n c f' g d:=(RE.same e).then_ h (by grind)
theorem a8X (n c:Nat) (f:F2):∃r p d,Rref n c r p/\RE n c f r d:=by
 obtain⟨_,h2,d,h3⟩:=a1o (a8W n c f);exact⟨_,_,d,h2,h3.congr fun i hi j hj=>(b1P n c f i hi j hj).symm⟩
theorem RE.factor {n c r:Nat} {f g:F2} {d:Rat} (h:RE n c f g d) (b:F2) (hf:∃a,Eqm n c f (mul r a b)):∃a,Eqm n c g (mul r a b):=by
 induction h with
 |same h=>obtain⟨a,ha⟩:=hf;exact⟨a,fun i hi j hj=>(h i hi j hj).symm.trans (ha i hi j hj)⟩
 |swap i k hi hk hik h1 h2 h3=>
  obtain⟨a,ha⟩:=hf;refine⟨fun q=>if q=i then a k else if q=k then a i else a q,fun q hq j hj=>?_⟩;by_cases e:q=i
  ·subst e;rw[h1 j hj,ha k hk j hj];simp[mul]
  ·by_cases e2:q=k
   ·subst e2;rw[h2 j hj,ha i hi j hj];simp[mul,e]
   ·rw[h3 q hq e e2 j hj,ha q hq j hj];simp[mul,e,e2]
 |scale i x hi hx h1 h3=>
  obtain⟨a,ha⟩:=hf;refine⟨fun q=>if q=i then fun k=>x*a i k else a q,fun q hq j hj=>?_⟩;by_cases e:q=i
  ·subst e;rw[h1 j hj,ha q hq j hj];simp only[mul,if_true];rw[<-a1w];exact a0g fun k _=>by grind
  ·rw[h3 q hq e j hj,ha q hq j hj];simp[mul,e]
 |add i k x hi hk hik h1 h3=>
  obtain⟨a,ha⟩:=hf;refine⟨fun q=>if q=i then fun y=>a i y+x*a k y else a q,fun q hq j hj=>?_⟩;by_cases e:q=i
  ·subst e;rw[h1 j hj,ha q hq j hj,ha k hk j hj];simp only[mul,if_true];rw[<-a1w,<-a5C];exact a0g fun k _=>by grind
  ·rw[h3 q hq e j hj,ha q hq j hj];simp[mul,e]
 |trans _ _ ih1 ih2=>exact ih2 (ih1 hf)
theorem b6X {n c r:Nat} {f g:F2} {p:List Nat} {d:Rat} (hg:Rref n c g p) (h:RE n c f g d) (a b:F2) (hf:Eqm n c f (mul r a b)):p.length<=r:=by
 refine Classical.byContradiction fun hlt=>?_;obtain⟨t,ht⟩:=h.factor b ⟨a,hf⟩;obtain⟨s,q,e,hs,he⟩:=a8X r p.length (fun k i=>t i k);have hq:∃j,j<p.length/\j∉q:=by
  refine Classical.byContradiction fun hno=>?_;have hall:∀j,j<p.length->j∈q:=fun j hj=>Classical.byContradiction fun h=>hno ⟨j,hj,h⟩;have h1:(List.range p.length).length<=q.length:=(List.nodup_range).length_le_of_subset fun j hj=>hall j (List.mem_range.1 hj);rw[List.length_range]at h1;have:=hs.le;omega
 obtain⟨j,hj,hjq⟩:=hq;have h1:=(he.nul _).2 (hs.nv_nul hjq hj);have h2:∀x,x<c->sm p.length (fun i=>nv s q j i*g i x)=0:=fun x hx=>by
  have e1:sm p.length (fun i=>nv s q j i*g i x)=sm p.length (fun i=>sm r fun k=>(t i k*nv s q j i)*b k x):=a0g fun i hi=>by
   have:=hg.le;rw[ht i (by omega) x hx];unfold mul;rw[<-a1w];exact a0g fun k _=>by grind
  rw[e1,a2u];exact a1Q fun k hk=>by
   have:=h1 k hk;rw[a0g (g:=fun i=>b k x*(t i k*nv s q j i)) fun i _=>by grind,a1w,this];grind
 have h3:=h2 p[j] (hg.lt j hj);rw[a1x j hj fun i hi hij=>by rw[hg.zero j hj i (by have:=hg.le;omega) hij];grind]at h3;rw[a3I,hg.one j hj]at h3;grind
theorem b0J {n c:Nat} {f g:F2} {p:List Nat} {d:Rat} (hg:Rref n c g p) (h:RE n c f g d):Eqm n c f (mul p.length (fun i k=>f i (p.getD k 0)) g):=by
 intro i hi j hj;have hp:∀k (hk:k<p.length),p.getD k 0=p[k]:=fun k hk=>by simp[List.getD_eq_getElem?_getD,hk]
 have hpl:=hg.le;have key:∀(F:F2) (i:Nat),sm c (fun x=>F i x*((if x=j then 1 else 0) - sm p.length fun k=>if x=p.getD k 0 then g k j else 0))=F i j - sm p.length (fun k=>F i (p.getD k 0)*g k j):=fun F i=>by
  have e1:sm c (fun x=>F i x*((if x=j then 1 else 0) - sm p.length fun k=>if x=p.getD k 0 then g k j else 0))=sm c (fun x=>(if x=j then F i j else 0) - sm p.length fun k=>if x=p.getD k 0 then F i x*g k j else 0):=a0g fun x _=>by
   have:F i x*sm p.length (fun k=>if x=p.getD k 0 then g k j else 0)=sm p.length fun k=>if x=p.getD k 0 then F i x*g k j else 0:=by
    rw[<-a1w];exact a0g fun k _=>by split<;>grind
   rw[<-this];split
   ·subst_vars;grind
   ·grind
  rw[e1,a6V,a1x j hj fun x _ hx=>by simp[hx],a2u];simp only[if_true]
  congr 1
  exact a0g fun k hk=>by
   rw[hp k hk,a1x p[k] (hg.lt k hk) fun x _ hx=>by simp[hx]];simp
 have hn:Nul n c g (fun x=>(if x=j then 1 else 0) - sm p.length fun k=>if x=p.getD k 0 then g k j else 0):=fun q hq=>by
  rw[key g q];by_cases hqp:q<p.length
  ·rw[a1x q hqp fun k hk hkq=>by rw[hp k hk,hg.zero k hk q hq (by omega)];grind]
   rw[hp q hqp,hg.one q hqp];grind
  ·rw[hg.below q (by omega) hq j hj,a1Q fun k hk=>by rw[hp k hk,hg.below q (by omega) hq _ (hg.lt k hk)];grind];grind
 have h1:=(h.nul _).2 hn i hi;rw[key f i]at h1
 show f i j=sm p.length fun k=>f i (p.getD k 0)*g k j
 grind
theorem LI.full {n c:Nat} {f r:F2} {p:List Nat} {d:Rat} (hf:LI n c f) (hr:Rref n c r p) (h:RE n c f r d):p.length=n:=by
 have hle:=hr.le;refine Classical.byContradiction fun hne=>?_;have:=(h.li hf) (fun i=>if i=p.length then 1 else 0) (fun j hj=>by
  unfold cmb;rw[a1x p.length (by omega) fun i _ hi=>by simp[hi]];rw[hr.below _ (Nat.le_refl _) (by omega) j hj];grind) p.length (by omega)
 simp at this
def a4d (r:F2) (p:List Nat) (c:Nat):Mat:=((List.range c).filter (· ∉p)).map fun j=>(List.range c).map (nv r p j)
theorem b4h (r:F2) (p:List Nat) (c:Nat):LI (a4d r p c).length c (ent (a4d r p c)):=by
 intro y hy i hi;have hi':i<((List.range c).filter (· ∉p)).length:=by simpa[a4d]using hi
 have hmem:=List.getElem_mem hi';rw[List.mem_filter,List.mem_range]at hmem;have h1:=hy _ hmem.1;have hnp:((List.range c).filter (· ∉p))[i]∉p:=by simpa using hmem.2
 have he:∀k (hk:k<((List.range c).filter (· ∉p)).length),ent (a4d r p c) k ((List.range c).filter (· ∉p))[i]=nv r p ((List.range c).filter (· ∉p))[k] ((List.range c).filter (· ∉p))[i]:=fun k hk=>by
  unfold ent a4d;rw[List.getD_eq_getElem?_getD (l:=List.map _ _),List.getElem?_map,List.getElem?_eq_getElem hk];simp only[Option.map_some,Option.getD_some];rw[List.getD_eq_getElem?_getD,List.getElem?_map,List.getElem?_range hmem.1];rfl
 unfold cmb at h1;rw[a1x i hi fun k hk hki=>by
  have hk':k<((List.range c).filter (· ∉p)).length:=by simpa[a4d]using hk
  have hne:((List.range c).filter (· ∉p))[i]≠((List.range c).filter (· ∉p))[k]:=fun e=>by
   have hnd:((List.range c).filter (· ∉p)).Pairwise (· < ·):=List.Pairwise.filter _ List.pairwise_lt_range;rw[List.pairwise_iff_getElem]at hnd;rcases Nat.lt_or_gt_of_ne hki with a|a
   ·have:=hnd k i hk' hi' a;omega
   ·have:=hnd i k hi' hk' a;omega
  rw[he k hk',a6c hnp hne];grind,he i hi',a3I]at h1
 grind
def b1Q (r:F2) (p:List Nat) (c:Nat):Nat->Rat:=fun x=>match p.findIdx? (· ==x)with|some i=>r i c|none=>0
def a2Y (c:Nat) (f:F2) (b:Nat->Rat):F2:=fun i j=>if j=c then b i else f i j
theorem b4i {n c:Nat} {f:F2} {b:Nat->Rat} (x:Nat->Rat):Nul n (c+1) (a2Y c f b) (fun j=>if j=c then -1 else x j)↔∀i,i<n->sm c (fun j=>f i j*x j)=b i:=by
 have key:∀i,sm (c+1) (fun j=>a2Y c f b i j*(if j=c then -1 else x j))=sm c (fun j=>f i j*x j) - b i:=fun i=>by
  show sm c _+_=_
  rw[a0g (g:=fun j=>f i j*x j) fun j hj=>by simp[a2Y,show j≠c by omega]];simp[a2Y];grind
 constructor
 ·intro h i hi;have:=h i hi;rw[key]at this;grind
 ·intro h i hi;rw[key,h i hi];grind
theorem b8N {n c:Nat} {f r:F2} {b:Nat->Rat} {p:List Nat} {d:Rat} (hr:Rref n (c+1) r p) (h:RE n (c+1) (a2Y c f b) r d) (hp:c∉p):∀i,i<n->sm c (fun j=>f i j*b1Q r p c j)=b i:=by
 refine(b4i (b1Q r p c)).1 ((h.nul _).2 fun i hi=>?_);by_cases hip:i<p.length
 ·rw[hr.row i hip]
  have h1:p[i]≠c:=by rintro rfl;exact hp (List.getElem_mem _)
  rw[if_neg h1,a1x c (by omega) fun k hk hkc=>?_]
  ·simp only[b1Q,hr.idx i hip,hp,if_false,if_true];grind
  ·split
   ·rfl
   ·rename_i hkp
    simp only[b1Q,a5P hkp];grind
 ·exact a1Q fun j hj=>by rw[hr.below i (by omega) hi j hj];grind
def a0G {α:Type} (m:List (List α)):Bool:=decide (m.length<=96)&&m.all fun r=>decide (1<=r.length/\r.length<=96/\r.length=(m.getD 0 []).length)
def a0B {α:Type} (m:List (List α)):Nat:=(m.getD 0 []).length
theorem a1G {α:Type} {m:List (List α)}:a0G m=true↔m.length<=96/\∀i (hi:i<m.length),1<=m[i].length/\m[i].length<=96/\m[i].length=a0B m:=by
 unfold a0G a0B;rw[Bool.and_eq_true,decide_eq_true_eq,List.all_eq_true];constructor
 ·rintro ⟨h1,h2⟩
  exact⟨h1,fun i hi=>by simpa using h2 _ (List.getElem_mem hi)⟩
 ·rintro ⟨h1,h2⟩
  refine⟨h1,fun r hr=>?_⟩;obtain⟨i,hi,rfl⟩:=List.getElem_of_mem hr;simpa using h2 i hi
theorem a4L {α:Type} {m:List (List α)} (i:Nat) (hi:i<m.length) (h:¬(1<=m[i].length/\m[i].length<=96/\m[i].length=a0B m)):false=a0G m:=by
 symm;cases hf:a0G m
 ·rfl
 ·exact absurd ((a1G.1 hf).2 i hi) h
theorem a1S {α:Type} {m:List (List α)} (h:0<m.length):a0B m=m[0].length:=by simp[a0B,List.getD_eq_getElem?_getD,h]
theorem a0Q {m:List (List Rat)} (h:a0G m=true):Shp m.length (a0B m) m/\m.length<=96/\a0B m<=96/\(0<m.length->1<=a0B m)/\(m.length=0->a0B m=0):=by
 have h1:=a1G.1 h;refine⟨⟨rfl,fun r hr=>?_⟩,h1.1,?_,fun h0=>?_,fun h0=>?_⟩
 ·obtain⟨i,hi,rfl⟩:=List.getElem_of_mem hr
  exact(h1.2 i hi).2.2
 ·by_cases h0:0<m.length
  ·have:=h1.2 0 h0;omega
  ·have:m= []:=List.eq_nil_of_length_eq_zero (by omega)
   subst this;simp[a0B]
 ·have:=h1.2 0 h0;omega
 ·have:m= []:=List.eq_nil_of_length_eq_zero h0
  subst this;rfl
end Go.Lin
namespace Go.Proofs.YtidbbddagfnfbaaGreat
open Go.RowKit Go.Rep Go.Lim Go.Lin
theorem a3p {R:Mem->Value->Rat->Prop} (X:Nat->Bool) (w:World) (u:Value) (m:List (List Rat)) (hu:SlV (SlV R 3) 1 (mk X w) u m):Calls Tryz.prog 273 #[u] w (fun e w'=>w'=w/\e= .returned (.int .i64 (a0B m:Int))):=by
 obtain⟨ao,ca,rfl,hca,hsa⟩:=hu;have hha:=hsa.hd;by_cases h:0<m.length
 ·obtain⟨a1,c1,hX1,hc1,hcl1,hq1⟩:=hsa.row 0 h
  have k00:=hc1.out noY w (ExtX.refl _) rfl;have hc:=hid (a1S h);have hI:((m.length:Int)==0)=false:=a2I (by omega);go_enter Tryz.func273,Tryz.ntmps273
  go_wp2_with (with_reducible refine a0t a0r (by omega) (by assumption) ?_)
  go_ret
  exact⟨rfl,a0J (by rw[hc.out])⟩
 ·have hc:Hid (a0B m=0):=hid (by
   have:m= []:=List.eq_nil_of_length_eq_zero (by omega);subst this;rfl)
  have hI:((m.length:Int)==0)=true:=a7e (by omega);go_enter Tryz.func273,Tryz.ntmps273
  go_wp2_with (with_reducible refine a0t a0r (by omega) (by assumption) ?_)
  go_ret
  exact⟨rfl,a0J (by rw[hc.out];rfl)⟩
set_option maxRecDepth 100000 in
theorem a3Y {R:Mem->Value->Rat->Prop} (X:Nat->Bool) (w:World) (u:Value) (m:List (List Rat)) (hu:SlV (SlV R 3) 1 (mk X w) u m) (hl:m.length<=1099511627776):Calls Tryz.prog 272 #[u] w (fun e w'=>w'=w/\e= .returned (.bool (a0G m))):=by
 obtain⟨ao,ca,rfl,hca,hsa⟩:=hu;have hha:=hsa.hd;by_cases h96:96<m.length
 ·have hv:Hid (false=a0G m):=hid (by
   symm;cases hf:a0G m
   ·rfl
   ·have:=(a1G.1 hf).1;omega)
  have hI:(96:Int)<(m.length:Int):=by omega
  go_enter Tryz.func272,Tryz.ntmps272
  go_wp2_with fail
  go_ret
  exact⟨rfl,a0n hv.out⟩
 ·have hI:¬(96:Int)<(m.length:Int):=by omega
  go_enter Tryz.func272,Tryz.ntmps272
  go_wp2_with fail
  go_loop [10] (fun c=>∃(i:Nat),c= .int .i64 i/\i<=m.length/\Hid (∀q,q<i->∀hq:q<m.length,1<=m[q].length/\m[q].length<=96/\m[q].length=a0B m)) (fun c=>m.length - (intOf c).toNat)
  case atStart=>exact⟨0,rfl,Nat.zero_le _,fun q hq=>by omega⟩
  case round=>
   obtain⟨i,rfl,hi,hok⟩:=hrel;by_cases hlt:i<m.length
   ·have h0:0<m.length:=by omega
    obtain⟨a1,c1,hX1,hc1,hcl1,hq1⟩:=hsa.row i hlt;obtain⟨a2,c2,hX2,hc2,hcl2,hq2⟩:=hsa.row 0 h0;have k00:=hc1.out noY w (ExtX.refl _) rfl;have k10:=hc2.out noY w (ExtX.refl _) rfl;have hcol:=a1S h0;have hno:=hid (a4L i hlt);rw[<-hcol]at k10;obtain⟨x,hx⟩:∃x,m[i].length=x:=⟨_,rfl⟩;obtain⟨y,hy⟩:∃y,a0B m=y:=⟨_,rfl⟩;rw[hx]at k00 hno;rw[hy]at k10 hno;have hst:Hid (1<=x/\x<=96/\x=y->∀hq:i<m.length,1<=m[i].length/\m[i].length<=96/\m[i].length=a0B m):=hid fun h hq=>by rw[hx,hy];exact h
    clear hx hy hcol hc1 hc2 hq1 hq2 hcl1 hcl2;by_cases hx0:x=0
    ·have d0:((x:Int)==0)=true:=a7e (by omega)
     have hv:=hid (hno.out (by omega));clear hx0;go_wp2_with (with_reducible refine a0t a0r (by omega) (by assumption) ?_)
     go_ret
     exact⟨rfl,a0n hv.out⟩
    ·have d0:((x:Int)==0)=false:=a2I (by omega)
     by_cases hx1:96<x
     ·have d1:(96:Int)<(x:Int):=by omega
      have hv:=hid (hno.out (by omega));clear hx0;go_wp2_with (with_reducible refine a0t a0r (by omega) (by assumption) ?_)
      go_ret
      exact⟨rfl,a0n hv.out⟩
     ·have d1:¬(96:Int)<(x:Int):=by omega
      by_cases hxy:x=y
      ·have d2:((x:Int) !=(y:Int))=false:=a7U (by omega)
       have hst2:=hid (hst.out ⟨by omega,by omega,hxy⟩);clear hx0 hxy;go_wp2_with (with_reducible refine a0t a0r (by omega) (by assumption) ?_)
       go_round
       case rel=>exact⟨i+1,by go_num,by omega,a4F hok.out hst2.out⟩
       case measure=>simp[intOf];omega
      ·have d2:((x:Int) !=(y:Int))=true:=a7R (by omega)
       have hv:=hid (hno.out (by omega));clear hx0 hxy;go_wp2_with (with_reducible refine a0t a0r (by omega) (by assumption) ?_)
       go_ret
       exact⟨rfl,a0n hv.out⟩
   ·have hv:Hid (true=a0G m):=hid (by
     symm;exact a1G.2 ⟨by omega,fun q hq=>hok.out q (by omega) hq⟩)
    go_wp2_with fail
    go_ret
    exact⟨rfl,a0n hv.out⟩
end Go.Proofs.YtidbbddagfnfbaaGreat
namespace Go.Lin
open Go.Rep
def a6f {α:Type} (m:List (List α)) (lo hi:Nat):Bool:=decide (∀i (h:i<m.length),m[i].length=a0B m/\lo<=m[i].length/\m[i].length<=hi)
theorem a3Z {α:Type} {m:List (List α)} {lo hi:Nat}:a6f m lo hi=true↔∀i (h:i<m.length),m[i].length=a0B m/\lo<=m[i].length/\m[i].length<=hi:=by unfold a6f;simp
theorem a8Y {α:Type} {m:List (List α)} {lo hi:Nat} (i:Nat) (h:i<m.length) (hn:¬(m[i].length=a0B m/\lo<=m[i].length/\m[i].length<=hi)):false=a6f m lo hi:=by
 symm;cases hs:a6f m lo hi
 ·rfl
 ·exact absurd (a3Z.1 hs i h) hn
def c0K {α:Type} (m:List (List α)):Bool:=decide (1<=m.length)&&(decide (m.length<=64)&&a6f m 1 3)
end Go.Lin
namespace Go.Proofs.YtidbbddagfnfbaaGreat
open Go.RowKit Go.Rep Go.Lim Go.Lin
set_option maxRecDepth 100000 in
theorem b1R {R:Mem->Value->Rat->Prop} (X:Nat->Bool) (w:World) (u:Value) (m:List (List Rat)) (lo hi:Nat) (hu:SlV (SlV R 3) 1 (mk X w) u m) (hl:m.length<=1099511627776):Calls Tryz.prog 155 #[u, .int .i64 (lo:Int), .int .i64 (hi:Int)] w (fun e w'=>w'=w/\e= .returned (.bool (a6f m lo hi))):=by
 obtain⟨ao,ca,rfl,hca,hsa⟩:=hu;have hha:=hsa.hd;go_enter Tryz.func155,Tryz.ntmps155
 go_wp2_with fail
 go_loop [11] (fun c=>∃(i:Nat),c= .int .i64 i/\i<=m.length/\Hid (∀q,q<i->∀hq:q<m.length,m[q].length=a0B m/\lo<=m[q].length/\m[q].length<=hi)) (fun c=>m.length - (intOf c).toNat)
 case atStart=>exact⟨0,rfl,Nat.zero_le _,fun q hq=>by omega⟩
 case round=>
  obtain⟨i,rfl,hi',hok⟩:=hrel;by_cases hlt:i<m.length
  ·have h0:0<m.length:=by omega
   obtain⟨a1,c1,hX1,hc1,hcl1,hq1⟩:=hsa.row i hlt;obtain⟨a2,c2,hX2,hc2,hcl2,hq2⟩:=hsa.row 0 h0;have k00:=hc1.out noY w (ExtX.refl _) rfl;have k10:=hc2.out noY w (ExtX.refl _) rfl;have hcol:=a1S h0;have hno:=hid (a8Y (lo:=lo) (hi:=hi) i hlt);rw[<-hcol]at k10;obtain⟨x,hx⟩:∃x,m[i].length=x:=⟨_,rfl⟩;obtain⟨y,hy⟩:∃y,a0B m=y:=⟨_,rfl⟩;rw[hx]at k00 hno;rw[hy]at k10 hno;have hst:Hid (x=y/\lo<=x/\x<=hi->∀hq:i<m.length,m[i].length=a0B m/\lo<=m[i].length/\m[i].length<=hi):=hid fun h hq=>by rw[hx,hy];exact h
   clear hx hy hcol hc1 hc2 hq1 hq2 hcl1 hcl2;by_cases hxy:x=y
   ·have d2:((x:Int) !=(y:Int))=false:=a7U (by omega)
    by_cases hx0:x<lo
    ·have d0:(x:Int)<(lo:Int):=by omega
     have hv:=hid (hno.out (by omega));clear hxy;go_wp2_with (with_reducible refine a0t a0r (by omega) (by assumption) ?_)
     go_ret
     exact⟨rfl,a0n hv.out⟩
    ·have d0:¬(x:Int)<(lo:Int):=by omega
     by_cases hx1:hi<x
     ·have d1:(hi:Int)<(x:Int):=by omega
      have hv:=hid (hno.out (by omega));clear hxy;go_wp2_with (with_reducible refine a0t a0r (by omega) (by assumption) ?_)
      go_ret
      exact⟨rfl,a0n hv.out⟩
     ·have d1:¬(hi:Int)<(x:Int):=by omega
      have hst2:=hid (hst.out ⟨hxy,by omega,by omega⟩);clear hxy;go_wp2_with (with_reducible refine a0t a0r (by omega) (by assumption) ?_)
      go_round
      case rel=>exact⟨i+1,by go_num,by omega,a4F hok.out hst2.out⟩
      case measure=>simp[intOf];omega
   ·have d2:((x:Int) !=(y:Int))=true:=a7R (by omega)
    have hv:=hid (hno.out (by omega));clear hxy;go_wp2_with (with_reducible refine a0t a0r (by omega) (by assumption) ?_)
    go_ret
    exact⟨rfl,a0n hv.out⟩
  ·have hv:Hid (true=a6f m lo hi):=hid (by
    symm;exact a3Z.2 fun q hq=>hok.out q (by omega) hq)
   go_wp2_with fail
   go_ret
   exact⟨rfl,a0n hv.out⟩
end Go.Proofs.YtidbbddagfnfbaaGreat
namespace Go.Lin
abbrev Vec:=Nat->Rat
def dot (c:Nat) (u v:Vec):Rat:=sm c fun j=>u j*v j
def nz (c:Nat) (u:Vec):Prop:=∃j,j<c/\u j≠0
theorem a2k (c:Nat) (u v:Vec):dot c u v=dot c v u:=a0g fun j _=>by grind
theorem b6Y (c:Nat) (u v x:Vec):dot c (fun j=>u j+v j) x=dot c u x+dot c v x:=by
 unfold dot;rw[<-a5C];exact a0g fun j _=>by grind
theorem b6Z (c:Nat) (a:Rat) (u x:Vec):dot c (fun j=>a*u j) x=a*dot c u x:=by
 unfold dot;rw[<-a1w];exact a0g fun j _=>by grind
theorem a6g (c:Nat) (u v:Vec) (t:Rat) (x:Vec):dot c (fun j=>u j+t*v j) x=dot c u x+t*dot c v x:=by
 rw[b6Y c u (fun j=>t*v j),b6Z]
theorem a8f {c:Nat} {u u' v:Vec} (h:∀j,j<c->u j=u' j):dot c u v=dot c u' v:=a0g fun j hj=>by rw[h j hj]
theorem a3q {c:Nat} {u v:Vec} (h:∀j,j<c->u j=0):dot c u v=0:=a1Q fun j hj=>by rw[h j hj];grind
theorem b1S {n:Nat} {f:Nat->Rat} (h:∀i,i<n->0<=f i):0<=sm n f:=by
 induction n with
 |zero=>exact Rat.le_refl
 |succ n ih=>unfold sm;have:=ih fun i hi=>h i (by omega);have:=h n (by omega);grind
theorem a8Z {n:Nat} {f:Nat->Rat} (h:∀i,i<n->0<=f i) (h0:sm n f=0):∀i,i<n->f i=0:=by
 induction n with
 |zero=>intro i hi;omega
 |succ n ih=>
  unfold sm at h0;have h1:=b1S (n:=n) fun i hi=>h i (by omega);have h2:=h n (by omega);have h3:sm n f=0:=by grind
  have h4:f n=0:=by grind
  intro i hi;by_cases e:i=n
  ·subst e;exact h4
  ·exact ih (fun i hi=>h i (by omega)) h3 i (by omega)
theorem b1T (a:Rat):0<=a*a:=by
 rcases Rat.le_total (a:=0) (b:=a)with h|h
 ·exact Rat.mul_nonneg h h
 ·have:0<=(-a)*(-a):=Rat.mul_nonneg (by grind) (by grind)
  grind
theorem b4j {c:Nat} {u:Vec} (h:dot c u u=0):∀j,j<c->u j=0:=fun j hj=>by
 have:=a8Z (fun i _=>b1T (u i)) h j hj;rcases Rat.mul_eq_zero.1 this with e|e<;>exact e
theorem b8O {c:Nat} {u:Vec} (h:¬∀j,j<c->u j=0):nz c u:=by
 apply Classical.byContradiction;intro hn;exact h fun j hj=>Classical.byContradiction fun e=>hn ⟨j,hj,e⟩
theorem nz.not {c:Nat} {u:Vec} (h:nz c u):¬∀j,j<c->u j=0:=fun k=>let ⟨j,hj,e⟩:=h;e (k j hj)
theorem b8P {c:Nat} {u v:Vec} (h:dot c u v≠0):nz c u:=b8O fun k=>h (a3q k)
def a4r (c:Nat) (u:Vec) (z:List Vec):Nat:=z.countP fun v=>decide (0<=dot c u v)
def a9a (c:Nat) (u:Vec) (z:List Vec):Nat:=z.countP fun v=>decide (0<dot c u v)
def onL (c:Nat) (u:Vec) (z:List Vec):List Vec:=z.filter fun v=>decide (dot c u v=0)
def a4e (c:Nat) (z:List Vec) (k:Nat):Prop:=(∃u,nz c u/\a4r c u z=k)/\∀u,nz c u->k<=a4r c u z
theorem b4k {P:Nat->Prop} (n:Nat) (h:P n):∃k,P k/\∀m,P m->k<=m:=by
 induction n using Nat.strongRecOn with
 |_ n ih=>
  by_cases hs:∃m,m<n/\P m
  ·obtain⟨m,h1,h2⟩:=hs;exact ih m h1 h2
  ·exact⟨n,h,fun m hm=>by
    rcases Nat.lt_or_ge m n with h1|h1
    ·exact absurd ⟨m,h1,hm⟩ hs
    ·exact h1⟩
theorem b8Q {c:Nat} (hc:0<c) (z:List Vec):∃k,a4e c z k:=by
 obtain⟨k,h1,h2⟩:=b4k (P:=fun k=>∃u,nz c u/\a4r c u z=k) (a4r c (fun _=>1) z) ⟨fun _=>1,⟨0,hc,by grind⟩,rfl⟩;exact⟨k,h1,fun u hu=>h2 _ ⟨u,hu,rfl⟩⟩
theorem b4l (c:Nat) (u:Vec) (z:List Vec):a4r c u z<=z.length:=List.countP_le_length
theorem a4e.le {c:Nat} {z:List Vec} {k:Nat} (h:a4e c z k):k<=z.length:=by
 obtain⟨⟨u,_,h2⟩,_⟩:=h;rw[<-h2];exact b4l _ _ _
def b9Q (c:Nat) (u y:Vec) (z:List Vec) (e:Rat):Prop:=∀v∈z,(0<dot c u v->∀t,0<t->t<=e->0<dot c u v+t*dot c y v)/\(dot c u v<0->∀t,0<t->t<=e->dot c u v+t*dot c y v<0)
theorem b8R (a b:Rat):∃e,0<e/\(0<a->∀t,0<t->t<=e->0<a+t*b):=by
 by_cases ha:0<a
 ·by_cases hb:0<=b
  ·exact⟨1,by decide,fun _ t h1 _=>by have:=Rat.mul_nonneg (a:=t) (b:=b) (by grind) hb;grind⟩
  ·have hb':0< -b:=by grind
   refine⟨a/(2* -b),?_,fun _ t h1 h2=>?_⟩
   ·rw[Rat.div_def];exact Rat.mul_pos ha (Rat.inv_pos.2 (by grind))
   ·have h3:t*(2* -b)<=a/(2* -b)*(2* -b):=Rat.mul_le_mul_of_nonneg_right h2 (by grind)
    rw[Rat.div_mul_cancel (by grind)]at h3;have h4:=Rat.mul_pos h1 hb';grind
 ·exact⟨1,by decide,fun h=>absurd h ha⟩
theorem b9Q.le {c:Nat} {u y:Vec} {z:List Vec} {e d:Rat} (h:b9Q c u y z e) (hd:d<=e):b9Q c u y z d:=fun v hv=>
 ⟨fun h1 t h2 h3=>(h v hv).1 h1 t h2 (Rat.le_trans h3 hd),fun h1 t h2 h3=>(h v hv).2 h1 t h2 (Rat.le_trans h3 hd)⟩
theorem b7a (c:Nat) (u y:Vec) (z:List Vec):∃e,0<e/\b9Q c u y z e:=by
 induction z with
 |nil=>exact⟨1,by decide,fun v hv=>by simp at hv⟩
 |cons v z ih=>
  obtain⟨e1,h1,h2⟩:=ih;obtain⟨e2,h3,h4⟩:=b8R (dot c u v) (dot c y v);obtain⟨e3,h5,h6⟩:=b8R (-dot c u v) (-dot c y v);obtain⟨e,he,l1,l2,l3⟩:∃e,0<e/\e<=e1/\e<=e2/\e<=e3:=by
   by_cases a:e1<=e2
   ·by_cases b:e1<=e3
    ·exact⟨e1,h1,Rat.le_refl,a,b⟩
    ·exact⟨e3,h5,by grind,by grind,Rat.le_refl⟩
   ·by_cases b:e2<=e3
    ·exact⟨e2,h3,by grind,Rat.le_refl,b⟩
    ·exact⟨e3,h5,by grind,by grind,Rat.le_refl⟩
  refine⟨e,he,fun w hw=>?_⟩;rcases List.mem_cons.1 hw with rfl|hw
  ·refine⟨fun g t g1 g2=>h4 g t g1 (Rat.le_trans g2 l2),fun g t g1 g2=>?_⟩
   have:=h6 (by grind) t g1 (Rat.le_trans g2 l3);grind
  ·exact(h2.le l1) w hw
theorem b1U (c:Nat) (u u' u2:Vec) (z:List Vec) (h:∀v∈z,(0<dot c u v->0<dot c u2 v)/\(dot c u v<0->dot c u2 v<0)/\(dot c u v=0->(0<=dot c u2 v↔0<=dot c u' v))):a4r c u2 z=a9a c u z+a4r c u' (onL c u z):=by
 induction z with
 |nil=>rfl
 |cons v z ih=>
  have ih:=ih fun w hw=>h w (List.mem_cons_of_mem _ hw);obtain⟨h1,h2,h3⟩:=h v List.mem_cons_self;unfold a4r a9a onL at*;rw[List.countP_cons,List.countP_cons,List.filter_cons,ih];by_cases a:0<dot c u v
  ·have b:=h1 a
   rw[if_pos (by simp;grind),if_pos (by simpa using a),if_neg (by simp;grind)];omega
  ·by_cases b:dot c u v=0
   ·have k:=h3 b
    rw[if_neg (c:=decide (0<dot c u v)=true) (by simpa using a),if_pos (c:=decide (dot c u v=0)=true) (by simpa using b),List.countP_cons];by_cases g:0<=dot c u2 v
    ·rw[if_pos (by simpa using g),if_pos (by simpa using k.1 g)];omega
    ·rw[if_neg (by simpa using g),if_neg (by simpa using fun x=>g (k.2 x))];omega
   ·have k:=h2 (by grind)
    rw[if_neg (by simp;grind),if_neg (by simpa using a),if_neg (by simpa using b)];omega
theorem c0Y {c:Nat} {u u':Vec} (hu:nz c u) (z:List Vec):∃u2,nz c u2/\a4r c u2 z=a9a c u z+a4r c u' (onL c u z):=by
 obtain⟨j,hj,hne⟩:=hu;have hun:dot c u (fun i=>if i=j then 1 else 0)=u j:=by
  unfold dot;rw[a1x j hj (fun i _ h=>by simp[h])];simp
 obtain⟨e,he,hc⟩:=b7a c u u' ((fun i=>if i=j then 1 else 0)::z);refine⟨fun i=>u i+e*u' i,?_,b1U c u u' _ z fun v hv=>⟨fun h=>?_,fun h=>?_,fun h=>?_⟩⟩
 ·have hh:=hc _ List.mem_cons_self
  rw[hun]at hh;apply b8P (v:=fun i=>if i=j then 1 else 0);rw[a6g,hun];by_cases h:0<u j
  ·have:=hh.1 h e he Rat.le_refl;grind
  ·have:=hh.2 (by grind) e he Rat.le_refl;grind
 ·rw[a6g];exact(hc v (List.mem_cons_of_mem _ hv)).1 h e he Rat.le_refl
 ·rw[a6g];exact(hc v (List.mem_cons_of_mem _ hv)).2 h e he Rat.le_refl
 ·rw[a6g,h]
  constructor
  ·intro h2
   apply Classical.byContradiction;intro h3;have:=Rat.mul_pos he (show 0< - dot c u' v by grind);grind
  ·intro h2;have:=Rat.mul_nonneg (Rat.le_of_lt he) h2;grind
theorem a4e.lower {c:Nat} {z:List Vec} {k l:Nat} (h:a4e c z k) {u:Vec} (hu:nz c u) (hl:a4e c (onL c u z) l):k<=a9a c u z+l:=by
 obtain⟨⟨u',h1,h2⟩,_⟩:=hl;obtain⟨u2,h3,h4⟩:=c0Y (u':=u') hu z;have:=h.2 u2 h3;omega
def Ort (c:Nat) (M:List Vec) (y:Vec):Prop:=∀v∈M,dot c v y=0
theorem Ort.app {c:Nat} {M L:List Vec} {y:Vec}:Ort c (M++L) y↔Ort c M y/\Ort c L y:=by
 constructor
 ·exact fun h=>⟨fun v hv=>h v (List.mem_append_left _ hv),fun v hv=>h v (List.mem_append_right _ hv)⟩
 ·rintro ⟨h1,h2⟩ v hv
  rcases List.mem_append.1 hv with hv|hv
  ·exact h1 v hv
  ·exact h2 v hv
theorem a7y (c:Nat) (v u y:Vec) (t:Rat):dot c v (fun j=>u j+t*y j)=dot c v u+t*dot c v y:=by
 rw[a2k,a6g,a2k c u v,a2k c y v]
theorem Ort.lin {c:Nat} {M:List Vec} {u y:Vec} (t:Rat) (hu:Ort c M u) (hy:Ort c M y):Ort c M (fun j=>u j+t*y j):=fun v hv=>by
 rw[a7y,hu v hv,hy v hv];grind
theorem Ort.congr {c:Nat} {M:List Vec} {u y:Vec} (h:∀j,j<c->u j=y j) (hu:Ort c M u):Ort c M y:=fun v hv=>by
 rw[a2k,<-a8f h,a2k];exact hu v hv
theorem b7b (c k:Nat) (f:F2) (a:Vec) (v:Vec):dot c v (fun j=>cmb k f a j)=sm k fun i=>a i*dot c v (f i):=by
 unfold dot cmb;rw[a0g (g:=fun j=>sm k fun i=>v j*(a i*f i j)) fun j _=>(a1w k (v j) _).symm,a2u];exact a0g fun i _=>by rw[<-a1w];exact a0g fun j _=>by grind
structure Basis (c:Nat) (P:Vec->Prop) (k:Nat) (f:F2):Prop where
 mem:∀i,i<k->P (f i)
 li:LI k c f
 span:∀y,P y->∃a:Vec,∀j,j<c->y j=cmb k f a j
theorem b1V {k m c:Nat} {f g:F2} (hf:LI k c f) (h:∀i,i<k->∃a:Vec,∀j,j<c->f i j=cmb m g a j):k<=m:=by
 obtain⟨r,p,d,hr,h1⟩:=a8X k c f;have h2:=hf.full hr h1;have h3:∀i,∃a:Vec,i<k->∀j,j<c->f i j=cmb m g a j:=fun i=>by
  by_cases hi:i<k
  ·obtain⟨a,ha⟩:=h i hi;exact⟨a,fun _=>ha⟩
  ·exact⟨fun _=>0,fun h=>absurd h hi⟩
 have:=b6X hr h1 (fun i=>(h3 i).choose) g fun i hi j hj=>(h3 i).choose_spec hi j hj;omega
theorem Basis.le {c:Nat} {P Q:Vec->Prop} {k m:Nat} {f g:F2} (h:Basis c P k f) (h':Basis c Q m g) (hPQ:∀y,P y->Q y):k<=m:=
 b1V h.li fun i hi=>h'.span _ (hPQ _ (h.mem i hi))
theorem b4m {n c:Nat} {r:F2} {p:List Nat} (h:Rref n c r p) {x:Vec} (hx:Nul n c r x) (j:Nat) (hj:j<c):x j=cmb (a4d r p c).length (ent (a4d r p c)) (fun i=>x (((List.range c).filter (· ∉p)).getD i 0)) j:=by
 obtain⟨F,hF⟩:∃F,(List.range c).filter (· ∉p)=F:=⟨_,rfl⟩;have hlen:(a4d r p c).length=F.length:=by rw[<-hF];simp[a4d]
 have he:∀i (hi:i<F.length),ent (a4d r p c) i j=nv r p F[i] j:=fun i hi=>by
  unfold ent a4d;rw[hF,List.getD_eq_getElem?_getD (l:=List.map _ _),List.getElem?_map,List.getElem?_eq_getElem hi];simp only[Option.map_some,Option.getD_some];rw[List.getD_eq_getElem?_getD,List.getElem?_map,List.getElem?_range hj];rfl
 have hFm:∀q,q∈F↔q<c/\q∉p:=fun q=>by rw[<-hF];simp
 have hnd:F.Pairwise (· < ·):=by rw[<-hF];exact List.Pairwise.filter _ List.pairwise_lt_range
 have hgd:∀i (hi:i<F.length),F.getD i 0=F[i]:=fun i hi=>by simp[List.getD_eq_getElem?_getD,hi]
 rw[hF,hlen];unfold cmb;rw[a0g (g:=fun i=>x (F.getD i 0)*nv r p (F.getD i 0) j) fun i hi=>by rw[he i hi];dsimp only;rw[hgd i hi]];by_cases hjp:j∈p
 ·obtain⟨i0,hi0,rfl⟩:=List.getElem_of_mem hjp
  have hn:∀q,q∉p->nv r p q p[i0]= - r i0 q:=fun q hq=>h.nv_piv hq i0 hi0;have hrow:=h.row i0 hi0 x;have h0:=hx i0 (by have:=h.le;omega);rw[hrow]at h0;have key:∀(g:Nat->Rat),sm F.length (fun i=>g (F.getD i 0))=sm c (fun q=>if q∈p then 0 else g q):=fun g=>by
   have gen:∀(k:Nat) (G:List Nat),G=(List.range k).filter (· ∉p)->sm G.length (fun i=>g (G.getD i 0))=sm k (fun q=>if q∈p then 0 else g q):=by
    intro k
    induction k with
    |zero=>intro G hG;subst hG;rfl
    |succ k ih=>
     intro G hG;rw[List.range_succ,List.filter_append]at hG;have ih:=ih _ rfl
     show _=sm k _+_
     by_cases hk:k∈p
     ·have:(List.filter (· ∉p) [k])= []:=by simp[hk]
      rw[this,List.append_nil]at hG;subst hG;rw[ih];simp[hk];grind
     ·have:(List.filter (· ∉p) [k])= [k]:=by simp[hk]
      rw[this]at hG;subst hG;obtain⟨H,hH⟩:∃H,List.filter (· ∉p) (List.range k)=H:=⟨_,rfl⟩;rw[hH]at ih |-;rw[List.length_append,<-ih]
      show sm H.length _+_=_
      congr 1
      ·exact a0g fun i hi=>by simp[List.getD_eq_getElem?_getD,List.getElem?_append_left hi]
      ·simp[hk,List.getD_eq_getElem?_getD]
   exact gen c F hF.symm
  have k1:=key (fun q=>x q* - r i0 q);have k2:sm c (fun q=>if q∈p then 0 else x q* - r i0 q)= - sm c (fun q=>if q∈p then 0 else r i0 q*x q):=by
   have:=a1w c (-1) (fun q=>if q∈p then 0 else r i0 q*x q);rw[show -sm c (fun q=>if q∈p then 0 else r i0 q*x q)= -1*sm c (fun q=>if q∈p then 0 else r i0 q*x q)by grind,<-this];exact a0g fun q _=>by split<;>grind
  have k3:sm F.length (fun i=>x (F.getD i 0)*nv r p (F.getD i 0) p[i0])=sm F.length (fun i=>x (F.getD i 0)* - r i0 (F.getD i 0)):=a0g fun i hi=>by
   rw[hgd i hi,hn _ ((hFm _).1 (List.getElem_mem hi)).2]
  rw[k3,k1,k2];grind
 ·obtain⟨i0,hi0,hij⟩:=List.getElem_of_mem ((hFm j).2 ⟨hj,hjp⟩)
  rw[a1x i0 hi0 fun i hi hne=>by
   rw[hgd i hi];have:F[i]≠j:=fun e=>by
    rw[List.pairwise_iff_getElem]at hnd;rcases Nat.lt_or_gt_of_ne hne with a|a
    ·have:=hnd i i0 hi hi0 a;omega
    ·have:=hnd i0 i hi0 hi a;omega
   rw[a6c hjp (Ne.symm this)];grind]
  rw[hgd i0 hi0,hij,a3I];grind
theorem b0K {n c:Nat} {f r:F2} {p:List Nat} {d:Rat} (hr:Rref n c r p) (h:RE n c f r d):Basis c (Nul n c f) (a4d r p c).length (ent (a4d r p c)):=by
 refine⟨fun i hi=>?_,b4h r p c,fun y hy=>⟨_,fun j hj=>b4m hr ((h.nul y).1 hy) j hj⟩⟩;have hi':i<((List.range c).filter (· ∉p)).length:=by simpa[a4d]using hi
 have hm:=List.getElem_mem hi';rw[List.mem_filter,List.mem_range]at hm;have hnp:((List.range c).filter (· ∉p))[i]∉p:=by simpa using hm.2
 have h1:=(h.nul _).2 (hr.nv_nul hnp hm.1);intro q hq;rw[<-h1 q hq];refine a0g fun j hj=>?_
 congr 1
 unfold ent a4d;rw[List.getD_eq_getElem?_getD (l:=List.map _ _),List.getElem?_map,List.getElem?_eq_getElem hi'];simp only[Option.map_some,Option.getD_some];rw[List.getD_eq_getElem?_getD,List.getElem?_map,List.getElem?_range hj];rfl
def fL (M:List Vec):F2:=fun i=>M.getD i fun _=>0
theorem b7c (c:Nat) (M:List Vec) (y:Vec):Ort c M y↔Nul M.length c (fL M) y:=by
 constructor
 ·intro h i hi
  have:=h M[i] (List.getElem_mem hi);unfold dot at this;rw[<-this];exact a0g fun j _=>by simp[fL,List.getD_eq_getElem?_getD,hi]
 ·intro h v hv
  obtain⟨i,hi,rfl⟩:=List.getElem_of_mem hv;have:=h i hi;unfold dot;rw[<-this];exact a0g fun j _=>by simp[fL,List.getD_eq_getElem?_getD,hi]
def Dim (c:Nat) (M:List Vec) (k:Nat):Prop:=∃f,Basis c (Ort c M) k f
theorem Basis.of_iff {c:Nat} {P Q:Vec->Prop} {k:Nat} {f:F2} (h:Basis c P k f) (hPQ:∀y,P y↔Q y):Basis c Q k f:=
 ⟨fun i hi=>(hPQ _).1 (h.mem i hi),h.li,fun y hy=>h.span y ((hPQ y).2 hy)⟩
theorem b1W (c:Nat) (M:List Vec):∃k,Dim c M k:=by
 obtain⟨r,p,d,hr,h⟩:=a8X M.length c (fL M);exact⟨_,_,(b0K hr h).of_iff fun y=>(b7c c M y).symm⟩
theorem Dim.iff {c:Nat} {M L:List Vec} {k:Nat} (h:Dim c M k) (hML:∀y,Ort c M y↔Ort c L y):Dim c L k:=let ⟨f,hf⟩:=h;⟨f,hf.of_iff hML⟩
theorem Dim.more {c:Nat} {M:List Vec} {k:Nat} (h:Dim c M (k+1)) {v y:Vec} (hy:Ort c M y) (hv:dot c v y≠0):Dim c (M++[v]) k:=by
 obtain⟨f,hf⟩:=h;obtain⟨m,g,hg⟩:=b1W c (M++[v]);have hext:∀a j,cmb (m+1) (fun i=>if i<m then g i else y) a j=cmb m g a j+a m*y j:=fun a j=>by
  unfold cmb
  show sm m _+_=_
  congr 1
  ·exact a0g fun i hi=>by simp[hi]
  ·simp
 have hgo:∀i,i<m->Ort c M (g i)/\dot c v (g i)=0:=fun i hi=>by
  have:=Ort.app.1 (hg.mem i hi);exact⟨this.1,this.2 v (by simp)⟩
 have h1:m+1<=k+1:=by
  refine b1V (c:=c) (f:=fun i=>if i<m then g i else y) (g:=f) (fun a ha=>?_) fun i hi=>?_
  ·have h0:dot c v (fun j=>cmb m g a j+a m*y j)=0:=by
    rw[a2k];exact a3q fun j hj=>by rw[<-hext];exact ha j hj
   rw[a7y c v (fun j=>cmb m g a j) y (a m),b7b,a1Q fun i hi=>by rw[(hgo i hi).2];grind]at h0;have ham:a m=0:=by
    have:a m*dot c v y=0:=by grind
    rcases Rat.mul_eq_zero.1 this with e|e
    ·exact e
    ·contradiction
   have h2:=hg.li a fun j hj=>by have:=ha j hj;rw[hext,ham]at this;grind
   intro i hi;by_cases e:i=m
   ·subst e;exact ham
   ·exact h2 i (by omega)
  ·by_cases hi':i<m
   ·obtain⟨a,ha⟩:=hf.span _ (hgo i hi').1
    exact⟨a,fun j hj=>by simp only[hi',if_true];exact ha j hj⟩
   ·obtain⟨a,ha⟩:=hf.span _ hy
    exact⟨a,fun j hj=>by simp only[hi',if_false];exact ha j hj⟩
 have h2:k+1<=m+1:=by
  refine b1V (c:=c) (f:=f) (g:=fun i=>if i<m then g i else y) hf.li fun i hi=>?_;have hfi:=hf.mem i hi;obtain⟨t,ht⟩:∃t,dot c v (f i)/dot c v y=t:=⟨_,rfl⟩;have ht2:t*dot c v y=dot c v (f i):=by rw[<-ht];exact Rat.div_mul_cancel hv
  obtain⟨a,ha⟩:=hg.span (fun j=>f i j+ -t*y j) (Ort.app.2 ⟨hfi.lin (-t) hy,fun w hw=>by
   have:w=v:=by simpa using hw
   subst this;rw[a7y];grind⟩)
  refine⟨fun q=>if q<m then a q else t,fun j hj=>?_⟩;rw[hext];have h3:=ha j hj;have h4:cmb m g (fun q=>if q<m then a q else t) j=cmb m g a j:=a0g fun q hq=>by simp[hq]
  simp only[Nat.lt_irrefl,if_false];rw[h4];grind
 have:m=k:=by omega
 subst this;exact⟨g,hg⟩
theorem Dim.one {c:Nat} {M:List Vec} (h:Dim c M 1) {x:Vec} (hx:Ort c M x) (hn:nz c x) (y:Vec) (hy:Ort c M y):∃t:Rat,∀j,j<c->y j=t*x j:=by
 obtain⟨f,hf⟩:=h;obtain⟨a,ha⟩:=hf.span x hx;obtain⟨b,hb⟩:=hf.span y hy;have h1:∀(a:Vec) j,cmb 1 f a j=a 0*f 0 j:=fun a j=>by unfold cmb sm sm;grind
 have ha0:a 0≠0:=fun e=>hn.not fun j hj=>by rw[ha j hj,h1,e];grind
 refine⟨b 0/a 0,fun j hj=>?_⟩;rw[hb j hj,ha j hj,h1,h1,<-Rat.mul_assoc,Rat.div_mul_cancel ha0]
theorem Dim.two {c k:Nat} {M:List Vec} (h:Dim c M (k+2)) (x:Vec):∃y,Ort c M y/\∀t:Rat,¬∀j,j<c->y j=t*x j:=by
 apply Classical.byContradiction;intro hn;have hall:∀y,Ort c M y->∃t:Rat,∀j,j<c->y j=t*x j:=fun y hy=>Classical.byContradiction fun h2=>hn ⟨y,hy,fun t ht=>h2 ⟨t,ht⟩⟩;obtain⟨f,hf⟩:=h;have:=b1V (m:=1) (g:=fun _=>x) hf.li fun i hi=>by
  obtain⟨t,ht⟩:=hall _ (hf.mem i hi);exact⟨fun _=>t,fun j hj=>by rw[ht j hj];unfold cmb sm sm;grind⟩
 omega
def z0:Vec:=fun _=>0
def b8S (z:List Vec) (I:List Nat):List Vec:=I.map fun i=>z.getD i z0
theorem b1X {c:Nat} {u x:Vec} (h:∀j,j<c->u j=x j) (z:List Vec):a9a c u z=a9a c x z/\onL c u z=onL c x z/\a4r c u z=a4r c x z:=by
 have:∀v,dot c u v=dot c x v:=fun v=>a8f h;unfold a9a onL a4r;simp only[this];exact⟨trivial,trivial,trivial⟩
def a6h (c:Nat):List Vec->Vec->Bool
 | [],_=>true
 |u::us,v=>decide (0<dot c u v)||(decide (dot c u v=0)&&a6h c us v)
def b0L (c:Nat) (us:List Vec) (z:List Vec):Nat:=z.countP fun v=>a6h c us v
theorem b4n (c:Nat) (z:List Vec):b0L c [] z=z.length:=by simp[b0L,a6h]
theorem a4M (c:Nat) (u:Vec) (us z:List Vec):b0L c (u::us) z=a9a c u z+b0L c us (onL c u z):=by
 induction z with
 |nil=>rfl
 |cons v z ih=>
  unfold b0L a9a onL at*;rw[List.countP_cons,List.countP_cons,List.filter_cons,ih];by_cases a:0<dot c u v
  ·rw[if_pos (by simp[a6h,a]),if_pos (by simpa using a),if_neg (by simp;grind)];omega
  ·by_cases b:dot c u v=0
   ·rw[if_neg (c:=decide (0<dot c u v)=true) (by simpa using a),if_pos (c:=decide (dot c u v=0)=true) (by simpa using b),List.countP_cons]
    have e:a6h c (u::us) v=a6h c us v:=by simp[a6h,b]
    rw[e];omega
   ·rw[if_neg (by simp[a6h,a,b]),if_neg (by simpa using a),if_neg (by simpa using b)];omega
theorem a9W {c:Nat} {u:Vec} (h:¬nz c u) (z:List Vec):a9a c u z=0/\onL c u z=z:=by
 have h0:∀j,j<c->u j=0:=fun j hj=>Classical.byContradiction fun e=>h ⟨j,hj,e⟩;have hd:∀v,dot c u v=0:=fun v=>a3q h0;unfold a9a onL;simp only[hd];refine⟨?_,List.filter_eq_self.2 fun _ _=>by simp⟩;rw[List.countP_eq_zero];intro a _;simp
theorem a8g (c:Nat):∀(us z:List Vec),(∀u∈us,¬nz c u)->b0L c us z=z.length
 | [],z,_=>b4n c z
 |u::us,z,h=>by
  obtain⟨h1,h2⟩:=a9W (h u List.mem_cons_self) z;rw[a4M,h1,h2,a8g c us z fun u hu=>h u (List.mem_cons_of_mem _ hu)];omega
theorem a5m {c:Nat}:∀(us z:List Vec) (k:Nat),a4e c z k->(∃u∈us,nz c u)->k<=b0L c us z
 | [],_,_,_,h=>by obtain⟨_,h,_⟩:=h;simp at h
 |u::us,z,k,hk,h=>by
  rw[a4M];by_cases hu:nz c u
  ·obtain⟨l,hl⟩:=b8Q (c:=c) (by obtain⟨j,hj,_⟩:=hu;omega) (onL c u z)
   have h1:=hk.lower hu hl;have h2:l<=b0L c us (onL c u z):=by
    by_cases hs:∃u∈us,nz c u
    ·exact a5m us _ l hl hs
    ·rw[a8g c us _ fun u hu hn=>hs ⟨u,hu,hn⟩];exact hl.le
   omega
  ·obtain⟨h1,h2⟩:=a9W hu z
   rw[h1,h2];have:=a5m us z k hk (by
    obtain⟨x,hx,hn⟩:=h;rcases List.mem_cons.1 hx with rfl|hx
    ·exact absurd hn hu
    ·exact⟨x,hx,hn⟩)
   omega
theorem a6W {c:Nat} {v:Vec} (h:¬nz c v):∀us:List Vec,a6h c us v=true
 | []=>rfl
 |u::us=>by
  have h0:dot c u v=0:=by
   rw[a2k];exact a3q fun j hj=>Classical.byContradiction fun e=>h ⟨j,hj,e⟩
  simp[a6h,h0,a6W h us]
open Classical in
noncomputable def nzL (c:Nat) (z:List Vec):List Vec:=z.filter fun v=>decide (nz c v)
open Classical in
theorem a6X {c:Nat} {p:Vec->Bool} (hp:∀v,¬nz c v->p v=true) (z:List Vec):z.countP p=(nzL c z).countP p+(z.length - (nzL c z).length):=by
 induction z with
 |nil=>rfl
 |cons v z ih=>
  have hle:(nzL c z).length<=z.length:=List.length_filter_le ..;unfold nzL at*;rw[List.filter_cons,List.countP_cons];by_cases h:nz c v
  ·rw[if_pos (c:=decide (nz c v)=true) (by simpa using h),List.countP_cons,List.length_cons,List.length_cons,ih];omega
  ·rw[if_neg (c:=decide (nz c v)=true) (by simpa using h),List.length_cons,if_pos (hp v h),ih];omega
theorem b4o (c:Nat) (us z:List Vec):b0L c us z=b0L c us (nzL c z)+(z.length - (nzL c z).length):=a6X (fun _ h=>a6W h us) z
theorem a8h (c:Nat) (u:Vec) (z:List Vec):a4r c u z=a4r c u (nzL c z)+(z.length - (nzL c z).length):=a6X (fun v h=>by
 have h0:dot c u v=0:=by rw[a2k];exact a3q fun j hj=>Classical.byContradiction fun e=>h ⟨j,hj,e⟩
 simp[h0]) z
theorem a4e.nzL {c k:Nat} {z:List Vec} (h:a4e c (nzL c z) k):a4e c z (k+(z.length - (nzL c z).length)):=by
 obtain⟨⟨u,h1,h2⟩,h3⟩:=h;refine⟨⟨u,h1,by rw[a8h,h2]⟩,fun v hv=>?_⟩;rw[a8h];have:=h3 v hv;omega
structure Wit (c:Nat) (z:List Vec) (n:Nat) (us:List Vec):Prop where
 head:∃u t,us=u::t/\nz c u
 cnt:b0L c us z=n
 few:∀k,Dim c z k->us.length+k<=c\/us.length=1
theorem Wit.least {c n k:Nat} {z us:List Vec} (h:Wit c z n us) (hk:a4e c z k):k<=n:=by
 obtain⟨u,t,rfl,hu⟩:=h.head;rw[<-h.cnt];exact a5m _ _ _ hk ⟨u,List.mem_cons_self,hu⟩
theorem Wit.one {c:Nat} {z:List Vec} {u:Vec} (hu:nz c u) (ho:onL c u z= []):Wit c z (a9a c u z) [u]:=
 ⟨⟨u,[],rfl,hu⟩,by rw[a4M,ho];rfl,fun _ _=>Or.inr rfl⟩
theorem Dim.lt {c k m:Nat} {z L:List Vec} {u:Vec} (h:Dim c z k) (h':Dim c L m) (hs:∀v∈L,v∈z) (hu:Ort c L u) (hn:∃v∈z,dot c v u≠0):k<m:=by
 obtain⟨v,hv,hne⟩:=hn;rcases m with _|m
 ·obtain⟨f,hf⟩:=h'
  obtain⟨a,ha⟩:=hf.span u hu;exact absurd (by rw[a2k];exact a3q fun j hj=>by rw[ha j hj];rfl) hne
 ·obtain⟨g,hg⟩:=h'.more hu hne
  obtain⟨f,hf⟩:=h;have:=hf.le hg fun y hy=>Ort.app.2 ⟨fun x hx=>hy x (hs x hx),fun x hx=>by simp at hx;subst hx;exact hy _ hv⟩;omega
theorem Dim.lt_c {c k:Nat} {z:List Vec} (h:Dim c z k) (hz:∃v∈z,nz c v):k<c:=by
 obtain⟨v,hv,hn⟩:=hz;obtain⟨m,hm⟩:=b1W c [];have h1:=h.lt hm (by simp) (u:=v) (by simp[Ort]) ⟨v,hv,fun e=>hn.not (b4j e)⟩;obtain⟨f,hf⟩:=hm;have:=b1V (m:=c) (g:=fun i j=>if j=i then 1 else 0) hf.li fun i _=>⟨f i,fun j hj=>by unfold cmb;rw[a1x j hj fun i _ hi=>by simp[Ne.symm hi]];simp⟩;omega
theorem Wit.more {c l:Nat} {z us:List Vec} {u:Vec} (hu:nz c u) (h:Wit c (onL c u z) l us) (ho:∃v∈onL c u z,nz c v) (hn:∃v∈z,dot c v u≠0):Wit c z (a9a c u z+l) (u::us):=
 ⟨⟨u,us,rfl,hu⟩,by rw[a4M,h.cnt],fun k hk=>by
  obtain⟨m,hm⟩:=b1W c (onL c u z);have h1:=hk.lt hm (fun v hv=>(List.mem_filter.1 hv).1) (u:=u) (fun v hv=>by rw[a2k];simpa using(List.mem_filter.1 hv).2) hn;have h2:=hm.lt_c ho;rcases h.few m hm with h3|h3
  ·left;simp;omega
  ·left;simp;omega⟩
def b4p (c:Nat) (z O:List Vec) (cnt:Nat) (I:List Nat):Prop:=Dim c (b8S z I++O) 1->∀x,nz c x->Ort c (b8S z I++O) x->∀l,a4e c (onL c x z) l->cnt<=a9a c x z+l
theorem b4p.le {c:Nat} {z O:List Vec} {m n:Nat} {I:List Nat} (h:b4p c z O n I) (hm:m<=n):b4p c z O m I:=fun h1 x h2 h3 l h4=>Nat.le_trans hm (h h1 x h2 h3 l h4)
def vec (l:List Rat):Vec:=fun j=>l.getD j 0
def a4N (m:Mat):List Vec:=m.map vec
section
variable {n c:Nat} {m:Mat} (hs:Shp n c m)
include hs
end
end Go.Lin
namespace Go.Lin
theorem a9b {z:Mat} {p:List Rat->Bool} {q:Vec->Bool} (h:∀r∈z,p r=q (vec r)):a4N (z.filter p)=(a4N z).filter q:=by
 unfold a4N;rw[List.filter_map];exact congrArg _ (List.filter_congr fun r hr=>h r hr)
def b1Y (r:List Rat):Bool:=r.all fun x=>decide (x=0)
theorem b5R {c:Nat} {r:List Rat} (hr:r.length=c):nz c (vec r)↔b1Y r=false:=by
 constructor
 ·rintro ⟨j,hj,hne⟩
  rw[<-Bool.not_eq_true];intro h;unfold b1Y at h;rw[List.all_eq_true]at h;have hj':j<r.length:=by omega
  have:=h r[j] (List.getElem_mem hj');apply hne;unfold vec;rw[List.getD_eq_getElem?_getD,List.getElem?_eq_getElem hj'];simpa using this
 ·intro h
  apply b8O;intro hz;rw[<-Bool.not_eq_true]at h;apply h;unfold b1Y;rw[List.all_eq_true];intro x hx;obtain⟨j,hj,rfl⟩:=List.getElem_of_mem hx;have:=hz j (by omega);unfold vec at this;rw[List.getD_eq_getElem?_getD,List.getElem?_eq_getElem hj]at this;simpa using this
def a6Y (z:Mat):Mat:=z.filter fun r=> !b1Y r
theorem a6i {n c:Nat} {z:Mat} (hs:Shp n c z):a4N (a6Y z)=nzL c (a4N z):=a9b fun r hr=>by
 by_cases h:b1Y r=false
 ·rw[h];have:=(b5R (hs.2 r hr)).2 h;simp[this]
 ·have h2:¬nz c (vec r):=fun k=>h ((b5R (hs.2 r hr)).1 k)
  simp[h2];simpa using h
def b7d (c:Nat) (z:Mat) (cnt:Nat) (us:Mat):Prop:=(cnt=z.length+1/\us= [])\/Wit c (a4N z) cnt (a4N us)
section
variable {n c:Nat} {z:Mat} (hs:Shp n c z) (hz:∀v∈a4N z,nz c v) (hne:z≠[])
include hs hz hne
end
theorem c1i {n c cnt:Nat} {z us:Mat} (hs:Shp n c z) (h:a4e c (a4N (a6Y z)) cnt) (hw:Wit c (a4N (a6Y z)) cnt (a4N us)):
  a4e c (a4N z) (cnt+(z.length - (a6Y z).length))/\Wit c (a4N z) (cnt+(z.length - (a6Y z).length)) (a4N us):=by
 have e:(a6Y z).length=(nzL c (a4N z)).length:=by rw[<-a6i hs];simp[a4N]
 have e2:z.length=(a4N z).length:=by simp[a4N]
 rw[e,e2];rw[a6i hs]at h hw;refine⟨h.nzL,hw.head,by rw[b4o,hw.cnt],fun k hk=>hw.few k (hk.iff fun y=>⟨fun hy v hv=>hy v (List.mem_filter.1 hv).1,fun hy v hv=>?_⟩)⟩;by_cases hn:nz c v
 ·exact hy v (List.mem_filter.2 ⟨hv,by simpa using hn⟩)
 ·exact a3q fun j hj=>Classical.byContradiction fun e=>hn ⟨j,hj,e⟩
end Go.Lin
namespace Go.Lin
def c0f (c:Nat) (p:Mat) (x:List Rat):Mat:=p.map fun r=>(List.range c).map fun j=>r.getD j 0 - x.getD j 0
open Go.Lim
def b4q (m:Mat) (c:Nat):Prop:=∃B,7*B<=68719476736/\(∀j,j<=c->HB B (eN m j).1)/\∀t,t<=(eN m c).2.1.length->HB B (dN (eN m c).1 (eN m c).2.1 t)
theorem a6j (a:Nat) {i n:Nat} (ha:0<a) (h:i<=n):a^i<=a^n:=Nat.pow_le_pow_right ha h
theorem b7e {n c B:Nat} {m:Mat} (hs:Shp n c m) (h:HB B m) (hB:7*(35^n*B)<=68719476736):b4q m c:=by
 have hle:∀j,(eN m j).2.1.length<=n:=fun j=>(a5L hs j).ech.le;refine⟨35^n*B,hB,fun j _=>(h.eN hs j).mono (Nat.mul_le_mul_right _ ?_),fun t ht=>(((h.eN hs c).dN (a5L hs c).shp (a5L hs c).ech t ht)).mono ?_⟩
 ·exact Nat.le_trans (a6j 5 (by omega) (hle j)) (Nat.pow_le_pow_left (by omega) n)
 ·rw[<-Nat.mul_assoc]
  refine Nat.mul_le_mul_right _ ?_;rw[show(35:Nat)=7*5 from rfl,Nat.mul_pow];exact Nat.mul_le_mul (a6j 7 (by omega) (Nat.le_trans ht (hle c))) (a6j 5 (by omega) (hle c))
def b7f (m:Mat) (c:Nat):Prop:=∃B,7*B<=68719476736/\∀j,j<=c->HB B (eN m j).1
theorem b4q.e {m:Mat} {c:Nat} (h:b4q m c):b7f m c:=let ⟨B,h1,h2,_⟩:=h;⟨B,h1,h2⟩
theorem HB.app {B:Nat} {a b:Mat} (ha:HB B a) (hb:HB B b):HB B (a++b):=by
 intro i j;unfold ent;by_cases hi:i<a.length
 ·rw[show(a++b).getD i []=a.getD i []by simp[List.getD_eq_getElem?_getD,List.getElem?_append_left hi]];exact ha i j
 ·rw[show(a++b).getD i []=b.getD (i - a.length) []by simp[List.getD_eq_getElem?_getD,List.getElem?_append_right (Nat.le_of_not_lt hi)]];exact hb _ j
def a3L (l m:List Rat):Nat->Rat
 |0=>0
 |k+1=>a3L l m k+l.getD k 0*m.getD k 0
def a2d (l m:List Rat):Rat:=a3L l m l.length
theorem a6k (l m:List Rat) (k:Nat):a3L l m k=sm k fun q=>l.getD q 0*m.getD q 0:=by
 induction k with
 |zero=>rfl
 |succ k ih=>unfold a3L sm;rw[ih]
theorem b1Z (l m:List Rat) (k:Nat):a3L l m k=a3L m l k:=by
 rw[a6k,a6k];exact a0g fun q _=>by grind
theorem b7g {l m:List Rat} {B:Nat} (hl:Go.Rep.BR B l) (hm:Go.Rep.BR B m) (hB:1<=B) (k:Nat):hq (a3L l m k)<=1+k*(2*B+1):=by
 have hg:∀(x:List Rat),Go.Rep.BR B x->∀q,hq (x.getD q 0)<=B:=fun x hx q=>by
  by_cases h:q<x.length
  ·rw[List.getD_eq_getElem?_getD,List.getElem?_eq_getElem h];exact hx _ (List.getElem_mem h)
  ·rw[List.getD_eq_getElem?_getD,List.getElem?_eq_none (by omega)]
   show hq 0<=B
   rw[a0Y];exact hB
 induction k with
 |zero=>show hq 0<=_;rw[a0Y];omega
 |succ k ih=>
  have h1:=hq_mul (l.getD k 0) (m.getD k 0);have h2:=a9M (a3L l m k) (l.getD k 0*m.getD k 0);have h3:=hg l hl k;have h4:=hg m hm k
  show hq (a3L l m k+l.getD k 0*m.getD k 0)<=_
  rw[Nat.add_mul,Nat.one_mul];omega
def trL (m:Mat) (n c:Nat):Mat:=(List.range c).map fun q=>(List.range n).map fun p=>ent m p q
def trN (m:Mat) (n c i j:Nat):Mat:=(List.range c).map fun q=>(List.range n).map fun p=>if p<i\/(p=i/\q<j)then ent m p q else 0
theorem b4r (m:Mat) (n c:Nat):trN m n c 0 0=List.replicate c (List.replicate n 0):=by
 refine List.ext_getElem (by simp[trN]) fun q h1 h2=>List.ext_getElem (by simp[trN]) fun p h3 h4=>by simp[trN]
theorem b4s (m:Mat) (n c i:Nat):trN m n c i c=trN m n c (i+1) 0:=by
 refine List.ext_getElem (by simp[trN]) fun q h1 h2=>List.ext_getElem (by simp[trN]) fun p h3 h4=>?_;simp[trN]at h1;simp only[trN,List.getElem_map,List.getElem_range];by_cases a:p<i
 ·rw[if_pos (.inl a),if_pos (.inl (by omega))]
 ·by_cases b:p=i
  ·rw[if_pos (.inr ⟨b,by omega⟩),if_pos (.inl (by omega))]
  ·rw[if_neg (by omega),if_neg (by omega)]
theorem b4t (m:Mat) (n c:Nat):trN m n c n 0=trL m n c:=by
 refine List.ext_getElem (by simp[trN,trL]) fun q h1 h2=>List.ext_getElem (by simp[trN,trL]) fun p h3 h4=>?_;simp[trN]at h3;simp only[trN,trL,List.getElem_map,List.getElem_range];rw[if_pos (.inl h3)]
theorem b7h (m:Mat) (n c i j:Nat):(trN m n c i j).length=c:=by simp[trN]
theorem a7z (m:Mat) (n c i j q:Nat) (h:q<(trN m n c i j).length):(trN m n c i j)[q].length=n:=by simp[trN]
theorem b7i {m:Mat} {n c i j:Nat} (h:j<(trN m n c i j).length):(trN m n c i j).set j ((trN m n c i j)[j].set i (ent m i j))=trN m n c i (j+1):=by
 refine List.ext_getElem (by simp[trN]) fun q h1 h2=>List.ext_getElem ?_ fun p h3 h4=>?_
 ·rw[List.getElem_set];split<;>simp[trN]
 ·simp only[List.getElem_set]
  by_cases a:j=q
  ·subst a
   simp only[if_true,List.getElem_set];by_cases b:i=p
   ·subst b;simp[trN]
   ·rw[if_neg b]
    simp only[trN,List.getElem_map,List.getElem_range];by_cases d:p<i
    ·rw[if_pos (.inl d),if_pos (.inl d)]
    ·rw[if_neg (by omega),if_neg (by omega)]
  ·simp only[a,if_false]
   simp only[trN,List.getElem_map,List.getElem_range];by_cases d:p<i
   ·rw[if_pos (.inl d),if_pos (.inl d)]
   ·by_cases b:p=i/\q<j
    ·rw[if_pos (.inr b),if_pos (.inr (by omega))]
    ·rw[if_neg (by omega),if_neg (by omega)]
theorem a1R (m:Mat) (n c:Nat):Shp c n (trL m n c):=⟨by simp[trL],fun r hr=>by
 obtain⟨q,_,rfl⟩:=List.mem_map.1 hr;simp⟩
theorem a7A (m:Mat) (n c:Nat):Eqm c n (ent (trL m n c)) fun i j=>ent m j i:=fun i hi j hj=>by
 simp[ent,trL,List.getD_eq_getElem?_getD,hi,hj]
theorem b5S {m:Mat} {n c B:Nat} (h:HB B m):HB B (trL m n c):=fun i j=>by
 by_cases hi:i<c
 ·by_cases hj:j<n
  ·rw[a7A m n c i hi j hj];exact h j i
  ·rw[a1L (a1R m n c) (.inr (by omega)),a0Y];exact h.pos
 ·rw[a1L (a1R m n c) (.inl (by omega)),a0Y];exact h.pos
def a2Z (m:Mat) (v:List Rat):List Rat:=m.map fun r=>a2d r v
def a9X (a b:Mat) (n c:Nat):Mat:=a.map fun r=>a2Z (trL b n c) r
theorem a4O (m:Mat) (v:List Rat):(a2Z m v).length=m.length:=by simp[a2Z]
theorem b4u {a b:Mat} {k n c:Nat} (ha:a.length=k):Shp k c (a9X a b n c):=⟨by simp[a9X,ha],fun r hr=>by
 obtain⟨x,_,rfl⟩:=List.mem_map.1 hr;simp[a2Z,trL]⟩
theorem b4v {a b:Mat} {k n c:Nat} (ha:Shp k n a):Eqm k c (ent (a9X a b n c)) (mul n (ent a) (ent b)):=fun i hi j hj=>by
 have hil:i<a.length:=by rw[ha.1];exact hi
 have hrl:(a[i]).length=n:=ha.2 _ (List.getElem_mem _);have e1:ent (a9X a b n c) i j=a2d ((trL b n c).getD j []) (a[i]):=by
  unfold ent a9X;rw[List.getD_eq_getElem?_getD (l:=List.map _ _),List.getElem?_map,List.getElem?_eq_getElem hil];have hj2:j<(trL b n c).length:=by simp[trL,hj]
  simp[a2Z,List.getD_eq_getElem?_getD,hj2]
 rw[e1];unfold a2d;rw[(a1R b n c).row hj,a6k];unfold mul;refine a0g fun q hq=>?_;have e2:=a7A b n c j hj q hq;unfold ent at e2 |-;rw[e2,show a.getD i []=a[i]by simp[List.getD_eq_getElem?_getD,hil]];grind
theorem a9c {m:Mat} {v:List Rat} {n c:Nat} (hs:Shp n c m) (i:Nat) (hi:i<n):(a2Z m v).getD i 0=sm c fun j=>ent m i j*v.getD j 0:=by
 have hil:i<m.length:=by rw[hs.1];exact hi
 have hrl:(m[i]).length=c:=hs.2 _ (List.getElem_mem _);have e:(a2Z m v).getD i 0=a2d m[i] v:=by simp[a2Z,List.getD_eq_getElem?_getD,hil]
 rw[e];unfold a2d;rw[hrl,a6k];unfold ent;rw[show m.getD i []=m[i]by simp[List.getD_eq_getElem?_getD,hil]]
open Go.Rep
end Go.Lin
namespace Go.Proofs.YtidbbddagfnfbaaGreat
open Go.RowKit Go.Rep Go.Lim Go.Lin
end Go.Proofs.YtidbbddagfnfbaaGreat
namespace Go.Lin
open Go.Lim Go.Rep
def a2L (z:Mat) (s:List Int):Mat:=s.map fun i=>z.getD i.toNat []
theorem a4P (z:Mat) (s:List Int):(a2L z s).length=s.length:=by simp[a2L]
theorem b2a {z:Mat} {s:List Int} {j:Nat} (hj:j<(a2L z s).length) (hs:j<s.length) {i:Nat} (hi:i<z.length) (h:s[j]=(i:Int)):(a2L z s)[j]=z[i]:=by
 simp[a2L,h,List.getD_eq_getElem?_getD,hi]
theorem b2b {z:Mat} {s:List Int} (hb:∀x∈s,0<=x/\x<(z.length:Int)):∀r∈a2L z s,r∈z:=fun r hr=>by
 unfold a2L at hr;obtain⟨x,hx,rfl⟩:=List.mem_map.1 hr;have:=hb x hx;have hl:x.toNat<z.length:=by omega
 rw[show z.getD x.toNat []=z[x.toNat]by simp[List.getD_eq_getElem?_getD,hl]];exact List.getElem_mem _
end Go.Lin
namespace Go.Proofs.YtidbbddagfnfbaaGreat
open Go.RowKit Go.Rep Go.Lim Go.Lin
def b7j (X:Nat->Bool) (w:World) (m:Mat) (e:Ending) (w':World):Prop:=Ext w w'/\∃(ao:Option Addr) (cap:Nat),e= .returned (.slice ao m.length cap)/\OL RV 1 X w.heap.size 24 w' ao cap m
set_option maxRecDepth 100000 in
theorem b2c (X:Nat->Bool) (w:World) (u:Value) (z:Mat) (ro:Option Addr) (s:List Int) (rc:Nat) (hX:HX X w) (hu:MV (mk X w) u z) (hs:Sl (a0w .i64) 1 w.cell? ro s) (hb:∀x∈s,0<=x/\x<(z.length:Int)) (hl:s.length<=1000):Calls Tryz.prog 119 #[u, .slice ro s.length rc] w (b7j X w (a2L z s)):=by
 rw[<-a2v]at hs;obtain⟨ao,ca,rfl,hca,hsa⟩:=hu;have hha:=hsa.hd;have hhs:=hs.hd;obtain⟨M,hM⟩:∃M,a2L z s=M:=⟨_,rfl⟩;have hMl:M.length=s.length:=by rw[<-hM];exact a4P z s
 have hMi:=hid (show∀j (h1:j<M.length) (h2:j<s.length) (i:Nat) (h3:i<z.length),s[j]=(i:Int)->M[j]=z[i]from fun j h1 h2 i h3 h=>by subst hM;exact b2a h1 h2 h3 h);rw[hM];have hb':=hid hb;obtain⟨n,hn⟩:∃n,z.length=n:=⟨_,rfl⟩;have hn':=hid hn;obtain⟨k,hk⟩:∃k,s.length=k:=⟨_,rfl⟩;have hk':=hid hk;rw[hk]at hhs hl hMl |-;rw[hn]at hha hca |-;have hMl':=hid hMl;have hMl1:M.length<=k:=by omega
 have hMl2:k<=M.length:=by omega
 clear hM hb hn hk hMl;go_enter Tryz.func119,Tryz.ntmps119
 go_wp2_with fail
 go_loopw [5,10] (fun o cc wr=>∃(i:Nat) (oo:Option Addr) (co:Nat),cc= .int .i64 i/\o= .slice oo i co/\i<=k/\OL RV 1 X w.heap.size 24 wr oo co (M.take i)/\Ext w wr) (fun _ cc _=>k - (intOf cc).toNat)
 case atStart=>exact⟨0,none,0,rfl,rfl,Nat.zero_le _,OL.nil _ _ _ _ _ _,ExtX.refl _⟩
 case round=>
  obtain⟨i,oo,co,rfl,rfl,hi,hO,hE⟩:=hrel;have hXr:HX X wr:=hX.ext hE;have hbase:=hE.size;by_cases hlt:i<k
  ·have his:i<s.length:=by rw[hk'.out];exact hlt
   have hiM:i<M.length:=by omega
   have htk:=hid (a0N M i hiM);have hln:=hid (a1a (l:=M) (i:=i) (by omega));have hc:=(hs.mono (a0w.mono _) (a0p hE)).int i his;obtain⟨h1,h2⟩:=hb'.out s[i] (List.getElem_mem _);obtain⟨q,hq⟩:=Int.eq_ofNat_of_zero_le h1;rw[hn'.out]at h2;have hqn:q<n:=by omega
   have hqz:q<z.length:=by rw[hn'.out];exact hqn
   have hMq:=hMi.out i hiM his q hqz hq;rw[hq]at hc;have hsr:Sl RV 1 (mk (un X oo) wr) ao z:=hsa.old RV.mono hE (fun j hj=>hO.ob_lt hj);obtain⟨a1,c1,hX1,hc1,hcl1,hq1⟩:=hsr.row q hqz;have k00:=hc1.out noY wr (ExtX.refl _) rfl;obtain⟨r,hr⟩:∃r,z[q]=r:=⟨_,rfl⟩;rw[hr]at k00 hcl1 hq1 hMq;rw[hMq]at htk;have hRV:RV (mk (un X oo) wr) (.slice a1 r.length c1) r:=⟨a1,c1,rfl,hcl1,hq1⟩;obtain⟨d,hd⟩:∃d,r.length=d:=⟨_,rfl⟩;rw[hd]at k00 hRV;clear hr hc1 hcl1 hq1 hMq hd h1 h2 hq;go_wp2_with (first
    |(with_reducible refine a0t a4o (by omega) (by assumption) ?_)
    |(with_reducible refine a0t a0r (by omega) (by assumption) ?_)
    |(at_builtin;refine a0v (l:=M.take i) a0r rfl RV.elem hbase hXr i hln.out rfl rfl hO (.slice a1 d c1) r rfl hRV (by omega) (by omega) ?_;intro oo2 co2 w7 hO7 hE7 hor))
   have hE8:=hE.own hO (Nat.le_refl _) hE7;rw[htk.out]at hO7;go_roundw
   case rel=>exact⟨i+1,oo2,co2,by go_num,by go_num,by omega,hO7,hE8⟩
   case measure=>simp[intOf];omega
  ·have hil:i=k:=by omega
   subst hil;rw[List.take_of_length_le (by omega)]at hO;go_wp2_with fail
   go_ret
   exact⟨hE,oo,co,by rw[hMl'.out];rfl,hO⟩
end Go.Proofs.YtidbbddagfnfbaaGreat
namespace Go.Lin
open Go.Lim Go.Rep
def a2M (l:List Rat) (s:List Int):List Rat:=s.map fun i=>l.getD i.toNat 0
theorem a3M (l:List Rat) (s:List Int):(a2M l s).length=s.length:=by simp[a2M]
theorem a8i {l:List Rat} {s:List Int} {j:Nat} (hj:j<(a2M l s).length) (hs:j<s.length) {i:Nat} (hi:i<l.length) (h:s[j]=(i:Int)):(a2M l s)[j]=l[i]:=by
 simp[a2M,h,List.getD_eq_getElem?_getD,hi]
def a0Z (m:Mat) (s:List Int):Mat:=m.map fun r=>a2M r s
theorem a3N (m:Mat) (s:List Int):(a0Z m s).length=m.length:=by simp[a0Z]
theorem a8j (m:Mat) (s:List Int) (i:Nat) (h:i<(a0Z m s).length) (h2:i<m.length):(a0Z m s)[i]=a2M m[i] s:=by simp[a0Z]
end Go.Lin
namespace Go.Proofs.YtidbbddagfnfbaaGreat
open Go.RowKit Go.Rep Go.Lim Go.Lin
set_option maxRecDepth 100000 in
theorem a6Z (X:Nat->Bool) (w:World) (u:Value) (z:List Rat) (ro:Option Addr) (s:List Int) (rc:Nat) (hX:HX X w) (hu:RV (mk X w) u z) (hs:Sl (a0w .i64) 1 (mk noY w) ro s) (hb:∀x∈s,0<=x/\x<(z.length:Int)) (hl:s.length<=1000):Calls Tryz.prog 120 #[u, .slice ro s.length rc] w (fun e w'=>Ext w w'/\∃(ao:Option Addr) (cap:Nat),e= .returned (.slice ao s.length cap)/\OL QV 3 X w.heap.size 45 w' ao cap (a2M z s)):=by
 obtain⟨ao,ca,rfl,hca,hsa⟩:=hu;have hha:=hsa.hd;have hhs:=hs.hd;obtain⟨M,hM⟩:∃M,a2M z s=M:=⟨_,rfl⟩;have hMl:M.length=s.length:=by rw[<-hM];exact a3M z s
 have hMi:=hid (show∀j (h1:j<M.length) (h2:j<s.length) (i:Nat) (h3:i<z.length),s[j]=(i:Int)->M[j]=z[i]from fun j h1 h2 i h3 h=>by subst hM;exact a8i h1 h2 h3 h);rw[hM];have hb':=hid hb;obtain⟨n,hn⟩:∃n,z.length=n:=⟨_,rfl⟩;have hn':=hid hn;obtain⟨k,hk⟩:∃k,s.length=k:=⟨_,rfl⟩;have hk':=hid hk;rw[hk]at hhs hl hMl |-;rw[hn]at hha hca |-;have hMl1:M.length<=k:=by omega
 have hMl2:k<=M.length:=by omega
 clear hM hb hn hk hMl;go_enter Tryz.func120,Tryz.ntmps120
 go_wp2_with fail
 go_loopw [5,10] (fun o cc wr=>∃(i:Nat) (oo:Option Addr) (co:Nat),cc= .int .i64 i/\o= .slice oo i co/\i<=k/\OL QV 3 X w.heap.size 45 wr oo co (M.take i)/\Ext w wr) (fun _ cc _=>k - (intOf cc).toNat)
 case atStart=>exact⟨0,none,0,rfl,rfl,Nat.zero_le _,OL.nil _ _ _ _ _ _,ExtX.refl _⟩
 case round=>
  obtain⟨i,oo,co,rfl,rfl,hi,hO,hE⟩:=hrel;have hXr:HX X wr:=hX.ext hE;have hbase:=hE.size;by_cases hlt:i<k
  ·have his:i<s.length:=by rw[hk'.out];exact hlt
   have hiM:i<M.length:=by omega
   have htk:=hid (a0N M i hiM);have hln:=hid (a1a (l:=M) (i:=i) (by omega));have hc:=(hs.mono (a0w.mono _) (a0p hE)).int i his;obtain⟨h1,h2⟩:=hb'.out s[i] (List.getElem_mem _);obtain⟨q,hq⟩:=Int.eq_ofNat_of_zero_le h1;rw[hn'.out]at h2;have hqn:q<n:=by omega
   have hqz:q<z.length:=by rw[hn'.out];exact hqn
   have hMq:=hid (hMi.out i hiM his q hqz hq);rw[hq]at hc;have hsr:Sl QV 3 (mk (un X oo) wr) ao z:=hsa.old QV.mono hE (fun j hj=>hO.ob_lt hj);clear h1 h2 hq;go_wp2_with (first
    |(with_reducible refine a0t a4o (by omega) (by assumption) ?_)
    |(with_reducible refine a2a a0D (by omega) (by assumption) ?_)
    |((with_reducible show wpList _ _ _ (⟨_, .load 45 _,_,_,_,_⟩::_) _ _);refine a0P a0u q hsr hqz rfl (by simp) QV.agg ?_;intro u5 hu5;rw[<-hMq.out]at hu5;obtain⟨s5,a5,n5,c5,d5,m5,e5,rfl⟩:=hu5.shape)
    |(at_builtin;refine a0v (l:=M.take i) a0D rfl QV.elem hbase hXr i hln.out rfl rfl hO (.agg #[.bool s5, .slice a5 n5 c5, .slice d5 m5 e5]) M[i] rfl hu5 (by omega) (by omega) ?_;intro oo2 co2 w7 hO7 hE7 hor))
   have hE8:=hE.own hO (Nat.le_refl _) hE7;rw[htk.out]at hO7;go_roundw
   case rel=>exact⟨i+1,oo2,co2,by go_num,by go_num,by omega,hO7,hE8⟩
   case measure=>simp[intOf];omega
  ·have hil:i=k:=by omega
   subst hil;rw[List.take_of_length_le (by omega)]at hO;go_wp2_with fail
   go_ret
   exact⟨hE,oo,co,rfl,hO⟩
set_option maxRecDepth 100000 in
theorem b2d (X:Nat->Bool) (w:World) (u:Value) (z:Mat) (ro:Option Addr) (s:List Int) (rc:Nat) (hX:HX X w) (hu:MV (mk X w) u z) (hs:Sl (a0w .i64) 1 (mk noY w) ro s) (hb:∀r∈z,∀x∈s,0<=x/\x<(r.length:Int)) (hl:s.length<=1000) (hzl:z.length<=1000):Calls Tryz.prog 158 #[u, .slice ro s.length rc] w (fun e w'=>Ext w w'/\∃(ao:Option Addr) (cap:Nat),e= .returned (.slice ao z.length cap)/\OL RV 1 X w.heap.size 24 w' ao cap (a0Z z s)):=by
 obtain⟨ao,ca,rfl,hca,hsa⟩:=hu;have hha:=hsa.hd;have hrow:=hid (fun(Y:Nat->Bool) (w':World) (v:Value) (r:List Rat) (hY:HX Y w') (hv:RV (mk Y w') v r) (hE:Ext w w') (hr:r∈z)=>a6Z Y w' v r ro s rc hY hv (hs.mono (a0w.mono _) (a0p hE)) (hb r hr) hl);have hnl:=hid (fun r:List Rat=>a3M r s);obtain⟨M,hM⟩:∃M,a0Z z s=M:=⟨_,rfl⟩;have hMl:M.length=z.length:=by rw[<-hM];exact a3N z s
 have hMi:=hid (show∀j (h1:j<M.length) (h2:j<z.length),M[j]=a2M z[j] s from fun j h1 h2=>by subst hM;exact a8j z s j h1 h2);rw[hM];obtain⟨n,hn⟩:∃n,z.length=n:=⟨_,rfl⟩;have hn':=hid hn;obtain⟨k,hk⟩:∃k,s.length=k:=⟨_,rfl⟩;rw[hk]at hl hrow hnl |-;rw[hn]at hha hca hMl hzl |-;have hMl1:M.length<=n:=by omega
 have hMl2:n<=M.length:=by omega
 clear hM hb hn hk hMl hs;go_enter Tryz.func158,Tryz.ntmps158
 go_wp2_with fail
 go_loopw [5,10] (fun o cc wr=>∃(i:Nat) (oo:Option Addr) (co:Nat),cc= .int .i64 i/\o= .slice oo i co/\i<=n/\OL RV 1 X w.heap.size 24 wr oo co (M.take i)/\Ext w wr) (fun _ cc _=>n - (intOf cc).toNat)
 case atStart=>exact⟨0,none,0,rfl,rfl,Nat.zero_le _,OL.nil _ _ _ _ _ _,ExtX.refl _⟩
 case round=>
  obtain⟨i,oo,co,rfl,rfl,hi,hO,hE⟩:=hrel;have hXr:HX X wr:=hX.ext hE;by_cases hlt:i<n
  ·have hiz:i<z.length:=by rw[hn'.out];exact hlt
   have hiM:i<M.length:=by omega
   have htk:=hid (a0N M i hiM);have hln:=hid (a1a (l:=M) (i:=i) (by omega));have hMq:=hid (hMi.out i hiM hiz);have hXu:=hO.unX hXr;have hsr:Sl RV 1 (mk (un X oo) wr) ao z:=hsa.old RV.mono hE (fun j hj=>hO.ob_lt hj);obtain⟨a1,c1,hX1,hc1,hcl1,hq1⟩:=hsr.row i hiz;have k00:=hc1.out noY wr (ExtX.refl _) rfl;have hcall:=hid (hrow.out (un X oo) wr (.slice a1 z[i].length c1) z[i] hXu ⟨a1,c1,rfl,hcl1,hq1⟩ hE (List.getElem_mem _));have hnl1:=hid (hnl.out z[i]);obtain⟨r,hr⟩:∃r,z[i]=r:=⟨_,rfl⟩;rw[hr]at k00 hcall hMq hnl1;obtain⟨d,hd⟩:∃d,r.length=d:=⟨_,rfl⟩;rw[hd]at k00 hcall;obtain⟨v,hv⟩:∃v,a2M r s=v:=⟨_,rfl⟩;rw[hv]at hcall hMq hnl1;clear hr hc1 hcl1 hq1 hd hv;go_wp2_with (with_reducible refine a0t a0r (by omega) (by assumption) ?_)
   refine hcall.out.mono ?_;rintro e w5 ⟨hE5,bo,bc,rfl,hB⟩;have hO5:=hO.ext0 RV.elem hE5;have hE05:=hE.trans hE5;have hX5:=hX.ext hE05;have hb5:=hE05.size;have hRV:RV (mk (un X oo) w5) (.slice bo k bc) M[i]:=by
    rw[hMq.out];have hc:=hB.lenCap;rw[hnl1.out]at hc;exact⟨bo,bc,by rw[hnl1.out],by rw[hnl1.out];exact hc,hB.sl QV.elem⟩
   clear hB hO k00 hcall;go_wp2_with (at_builtin;refine a0v (l:=M.take i) a0r rfl RV.elem hb5 hX5 i hln.out rfl rfl hO5 (.slice bo k bc) M[i] rfl hRV (by omega) (by omega) ?_;intro oo2 co2 w7 hO7 hE7 hor)
   have hE8:=hE05.own hO5 (Nat.le_refl _) hE7;rw[htk.out]at hO7;go_roundw
   case rel=>exact⟨i+1,oo2,co2,by go_num,by go_num,by omega,hO7,hE8⟩
   case measure=>simp[intOf];omega
  ·have hil:i=n:=by omega
   subst hil;rw[List.take_of_length_le (by omega)]at hO;go_wp2_with fail
   go_ret
   exact⟨hE,oo,co,rfl,hO⟩
end Go.Proofs.YtidbbddagfnfbaaGreat
namespace Go.Lin
theorem b5T (a:Rat):0<=a*a:=by
 rcases Rat.le_total (a:=0) (b:=a)with h|h
 ·exact Rat.mul_nonneg h h
 ·have h2:0<= -a:=by grind
  have:=Rat.mul_nonneg h2 h2;grind
theorem b7k (n:Nat) (f:Nat->Rat):0<=sm n fun i=>f i*f i:=by
 induction n with
 |zero=>unfold sm;grind
 |succ n ih=>unfold sm;have:=b5T (f n);grind
theorem b0M {n:Nat} {f:Nat->Rat} (h:sm n (fun i=>f i*f i)=0):∀i,i<n->f i=0:=by
 induction n with
 |zero=>intro i hi;omega
 |succ n ih=>
  unfold sm at h;have h1:=b7k n f;have h2:=b5T (f n);have h3:sm n (fun i=>f i*f i)=0:=by grind
  have h4:f n*f n=0:=by grind
  intro i hi;by_cases e:i=n
  ·subst e;rcases Rat.mul_eq_zero.1 h4 with h|h<;>exact h
  ·exact ih h3 i (by omega)
def app (c:Nat) (f:F2) (x:Nat->Rat) (i:Nat):Rat:=sm c fun j=>f i j*x j
def gr (n:Nat) (f:F2):F2:=fun i j=>sm n fun r=>f r i*f r j
def gy (n:Nat) (f:F2) (y:Nat->Rat):Nat->Rat:=fun i=>sm n fun r=>f r i*y r
theorem b8T (n:Nat) (f:F2) (i j:Nat):gr n f i j=gr n f j i:=a0g fun r _=>by grind
theorem a9Y (n c:Nat) (f:F2) (x:Nat->Rat) (i:Nat):sm c (fun j=>gr n f i j*x j)=sm n fun r=>f r i*app c f x r:=by
 have e:∀j,j<c->gr n f i j*x j=sm n fun r=>f r i*(f r j*x j):=fun j _=>by
  have:gr n f i j*x j=x j*gr n f i j:=by grind
  rw[this];unfold gr;rw[<-a1w];exact a0g fun r _=>by grind
 rw[a0g e,a2u];exact a0g fun r _=>by rw[a1w];rfl
theorem a8k {n c:Nat} {f:F2} {x:Nat->Rat}:Nul c c (gr n f) x↔Nul n c f x:=by
 constructor
 ·intro h
  have h1:sm c (fun i=>x i*sm c (fun j=>gr n f i j*x j))=0:=a1Q fun i hi=>by rw[h i hi];grind
  have h2:sm c (fun i=>x i*sm c (fun j=>gr n f i j*x j))=sm n fun r=>app c f x r*app c f x r:=by
   rw[a0g (g:=fun i=>sm n fun r=>app c f x r*(f r i*x i)) fun i _=>by rw[a9Y,<-a1w];exact a0g fun r _=>by grind];rw[a2u];exact a0g fun r _=>by rw[a1w];rfl
  rw[h2]at h1;exact fun i hi=>b0M h1 i hi
 ·intro h i _
  rw[a9Y];exact a1Q fun r hr=>by rw[show app c f x r=0 from h r hr];grind
def NS (n c:Nat) (f:F2) (y b:Nat->Rat):Prop:=∀i,i<c->sm c (fun j=>gr n f i j*b j)=gy n f y i
theorem a9d {n c:Nat} {f:F2} {y b:Nat->Rat}:NS n c f y b↔∀i,i<c->sm n (fun r=>f r i*(y r - app c f b r))=0:=by
 have key:∀i,sm n (fun r=>f r i*(y r - app c f b r))=gy n f y i - sm c (fun j=>gr n f i j*b j):=fun i=>by
  rw[a9Y];rw[a0g (g:=fun r=>f r i*y r - f r i*app c f b r) fun r _=>by grind,a6V];rfl
 constructor
 ·intro h i hi;rw[key,h i hi];grind
 ·intro h i hi;have:=h i hi;rw[key]at this;grind
theorem b7l (c:Nat) (f:F2) (x y:Nat->Rat) (i:Nat):app c f (fun j=>x j - y j) i=app c f x i - app c f y i:=by
 unfold app;rw[<-a6V];exact a0g fun j _=>by grind
theorem b8U {n c:Nat} {f:F2} {y b b':Nat->Rat} (h:NS n c f y b) (h':NS n c f y b'):Nul n c f (fun j=>b j - b' j):=a8k.1 fun i hi=>by
 rw[a0g (g:=fun j=>gr n f i j*b j - gr n f i j*b' j) fun j _=>by grind,a6V,h i hi,h' i hi];grind
theorem a9Z {n c:Nat} {f g:F2} {p:List Nat} {d:Rat} (hg:Rref n c g p) (he:RE n c f g d) {x:Nat->Rat} (hx:Nul n c f x) (h0:∀j,j<c->j∉p->x j=0) (j:Nat) (hj:j<c):x j=0:=by
 by_cases hp:j∈p
 ·obtain⟨k,hk,rfl⟩:=List.getElem_of_mem hp
  have h1:=(he.nul x).1 hx k (Nat.lt_of_lt_of_le hk hg.le);have h2:sm c (fun j=>if j∈p then 0 else g k j*x j)=0:=a1Q fun j hj=>by
   by_cases hj2:j∈p
   ·simp[hj2]
   ·simp[hj2,h0 j hj hj2]
  rw[hg.row k hk,h2]at h1;grind
 ·exact h0 j hj hp
theorem b8V {n c:Nat} {f g:F2} {p:List Nat} {d:Rat} (hg:Rref n c g p) (he:RE n c f g d) {y b b':Nat->Rat} (h:NS n c f y b) (h':NS n c f y b') (hb:∀j,j<c->j∉p->b j=0) (hb':∀j,j<c->j∉p->b' j=0) (j:Nat) (hj:j<c):b j=b' j:=by
 have:=a9Z hg he (b8U h h') (fun j hj hp=>by rw[hb j hj hp,hb' j hj hp];grind) j hj;grind
theorem Rref.sub2 {n m c:Nat} {f g:F2} {p q:List Nat} (hf:Rref n c f p) (hg:Rref m c g q) (hn:∀x,Nul n c f x->Nul m c g x) (j:Nat) (hj:j∈q):j∈p:=by
 refine Classical.byContradiction fun hjp=>?_;obtain⟨k,hk,rfl⟩:=List.getElem_of_mem hj;have h1:=hn _ (hf.nv_nul hjp (hg.lt k hk)) k (Nat.lt_of_lt_of_le hk hg.le);rw[a1x q[k] (hg.lt k hk)]at h1
 ·rw[hg.one k hk,a3I]at h1;grind
 ·intro x _ hx
  rcases Nat.lt_or_gt_of_ne hx with a|a
  ·rw[hg.left k hk x a];grind
  ·rw[hf.nv_supp hjp a];grind
theorem Rref.piv2 {n m c:Nat} {f g:F2} {p q:List Nat} (hf:Rref n c f p) (hg:Rref m c g q) (hn:∀x,Nul n c f x↔Nul m c g x):p=q:=
 a9R p q hf.pw hg.pw fun x=>⟨hg.sub2 hf (fun x h=>(hn x).2 h) x,hf.sub2 hg (fun x h=>(hn x).1 h) x⟩
theorem Rref.drop {n c:Nat} {f:F2} {p:List Nat} (h:Rref n (c+1) f p) (hc:c∉p):Rref n c f p:=
 ⟨h.le,fun i hi=>by
  have h1:=h.lt i hi;have h2:p[i]≠c:=by rintro rfl;exact hc (List.getElem_mem _)
  omega,h.inc,h.left,h.one,h.zero,fun i h1 h2 j hj=>h.below i h1 h2 j (by omega)⟩
theorem b4w {n c:Nat} {f:F2} {b:Nat->Rat} {r:F2} {d:Rat} (h:RE n (c+1) (a2Y c f b) r d) (x:Nat->Rat):Nul n c f x↔Nul n c r x:=by
 have e:∀(g:F2),Nul n (c+1) g (fun j=>if j=c then 0 else x j)↔Nul n c g x:=fun g=>by
  constructor
  ·intro h i hi
   have h1:=h i hi;unfold sm at h1;rw[a0g (g:=fun j=>g i j*x j) fun j hj=>by simp[show j≠c by omega]]at h1;simp at h1;grind
  ·intro h i hi
   unfold sm;rw[a0g (g:=fun j=>g i j*x j) fun j hj=>by simp[show j≠c by omega],h i hi];simp;grind
 have e2:Nul n (c+1) (a2Y c f b) (fun j=>if j=c then 0 else x j)↔Nul n c f x:=by
  constructor
  ·intro h i hi
   have h1:=h i hi;unfold sm at h1;rw[a0g (g:=fun j=>f i j*x j) fun j hj=>by simp[a2Y,show j≠c by omega]]at h1;simp at h1;grind
  ·intro h i hi
   unfold sm;rw[a0g (g:=fun j=>f i j*x j) fun j hj=>by simp[a2Y,show j≠c by omega],h i hi];simp;grind
 rw[<-e2,<-e r];exact h.nul _
theorem b2e {n c:Nat} {f r:F2} {y:Nat->Rat} {q:List Nat} {d:Rat} (hr:Rref c (c+1) r q) (h:RE c (c+1) (a2Y c (gr n f) (gy n f y)) r d):c∉q:=by
 intro hq;obtain⟨k,hk,hkc⟩:=List.getElem_of_mem hq;have hkn:k<c:=Nat.lt_of_lt_of_le hk hr.le;obtain⟨a,ha⟩:=h.factor (r:=c) (a2Y c (gr n f) (gy n f y)) ⟨fun i j=>if i=j then 1 else 0,fun i hi j hj=>by
  unfold mul;rw[a1x i hi fun x _ hx=>by simp[Ne.symm hx]];simp⟩
 have h0:∀j,j<c->sm c (fun i=>gr n f j i*a k i)=0:=fun j hj=>by
  have h1:=ha k hkn j (by omega);rw[hr.left k hk j (by omega)]at h1;unfold mul at h1;rw[h1];exact a0g fun i _=>by simp[a2Y,show j≠c by omega];rw[b8T];grind
 have h1:=a8k.1 (show Nul c c (gr n f) (a k)from h0);have h2:=ha k hkn c (by omega);have h3:=hr.one k hk;rw[hkc]at h3;rw[h3]at h2;unfold mul at h2;rw[a0g (g:=fun i=>sm n fun r=>y r*(f r i*a k i)) fun i _=>by
  simp only[a2Y,if_true];unfold gy;rw[<-a1w];exact a0g fun r _=>by grind]at h2
 rw[a2u,a1Q fun r hr=>by rw[a1w,h1 r hr];grind]at h2;grind
theorem b7m {n c:Nat} {f g r:F2} {y:Nat->Rat} {p q:List Nat} {d e:Rat} (hg:Rref n c g p) (he:RE n c f g e) (hr:Rref c (c+1) r q) (h:RE c (c+1) (a2Y c (gr n f) (gy n f y)) r d):
  q=p/\NS n c f y (b1Q r q c)/\∀j,j<c->j∉p->b1Q r q c j=0:=by
 have hc:=b2e hr h;have hd:=hr.drop hc;have hqp:q=p:=hd.piv2 hg fun x=>((b4w h x).symm.trans a8k).trans (he.nul x);refine⟨hqp,b8N hr h hc,fun j _ hp=>?_⟩;unfold b1Q;rw[a5P (by rw[hqp];exact hp)]
theorem b2f {n c:Nat} {f:F2} {y b:Nat->Rat} (h:NS n c f y b) (x:Nat->Rat):sm n (fun r=>(y r - app c f x r)*(y r - app c f x r))=sm n (fun r=>(y r - app c f b r)*(y r - app c f b r))+sm n (fun r=>app c f (fun j=>b j - x j) r*app c f (fun j=>b j - x j) r):=by
 have h0:=a9d.1 h;have h1:sm n (fun r=>(y r - app c f b r)*app c f (fun j=>b j - x j) r)=0:=by
  rw[a0g (g:=fun r=>sm c fun j=>(b j - x j)*(f r j*(y r - app c f b r))) fun r _=>by
   unfold app;rw[<-a1w];exact a0g fun j _=>by grind]
  rw[a2u];exact a1Q fun j hj=>by rw[a1w,h0 j hj];grind
 rw[a0g (g:=fun r=>(y r - app c f b r)*(y r - app c f b r)+(2*((y r - app c f b r)*app c f (fun j=>b j - x j) r)+app c f (fun j=>b j - x j) r*app c f (fun j=>b j - x j) r)) fun r _=>by rw[b7l];grind];rw[a5C,a5C,a1w,h1];grind
theorem b4x {n c:Nat} {f:F2} {y b:Nat->Rat} (h:NS n c f y b) (x:Nat->Rat):sm n (fun r=>(y r - app c f b r)*(y r - app c f b r))<=sm n (fun r=>(y r - app c f x r)*(y r - app c f x r)):=by
 rw[b2f h x];have:=b7k n (app c f (fun j=>b j - x j));grind
theorem b8W {n c:Nat} {f:F2} {y b:Nat->Rat} (h:NS n c f y b):sm n (fun r=>(y r - app c f b r)*(y r - app c f b r))=sm n (fun r=>y r*y r) - sm c (fun j=>b j*gy n f y j):=by
 have h0:=b2f h (fun _=>0);have e1:∀r,app c f (fun _=>0) r=0:=fun r=>a1Q fun j _=>by grind
 have e2:∀r,app c f (fun j=>b j - 0) r=app c f b r:=fun r=>by
  have:(fun j=>b j - 0)=b:=funext fun j=>by grind
  rw[this]
 rw[a0g (g:=fun r=>y r*y r) fun r _=>by rw[e1];grind]at h0;rw[a0g (f:=fun r=>app c f (fun j=>b j - 0) r*app c f (fun j=>b j - 0) r) (g:=fun r=>app c f b r*app c f b r) fun r _=>by rw[e2]]at h0;have h2:sm n (fun r=>app c f b r*app c f b r)=sm c (fun j=>b j*gy n f y j):=by
  rw[a0g (f:=fun j=>b j*gy n f y j) (g:=fun j=>b j*sm c (fun k=>gr n f j k*b k)) fun j hj=>by rw[h j hj]];rw[a0g (f:=fun j=>b j*sm c (fun k=>gr n f j k*b k)) (g:=fun j=>sm n fun r=>app c f b r*(f r j*b j)) fun j _=>by rw[a9Y,<-a1w];exact a0g fun r _=>by grind];rw[a2u];exact a0g fun r _=>by rw[a1w];rfl
 rw[h2]at h0;grind
def usd (f:F2) (p:List Nat):F2:=fun r a=>f r (p.getD a 0)
def b3w (p:List Nat) (z:Nat->Rat):Nat->Rat:=fun j=>match p.findIdx? (· ==j)with|some a=>z a|none=>0
theorem a6l {n c:Nat} {g:F2} {p:List Nat} (hg:Rref n c g p) (z:Nat->Rat) (a:Nat) (ha:a<p.length):b3w p z p[a]=z a:=by
 unfold b3w;rw[hg.idx a ha]
theorem a4Q {p:List Nat} (z:Nat->Rat) {j:Nat} (hj:j∉p):b3w p z j=0:=by
 unfold b3w;rw[a5P hj]
theorem b8X {n c:Nat} {g:F2} {p:List Nat} (hg:Rref n c g p) (F:Nat->Rat) (h0:∀j,j<c->j∉p->F j=0):sm c F=sm p.length fun a=>F (p.getD a 0):=by
 have hp:∀k (hk:k<p.length),p.getD k 0=p[k]:=fun k hk=>by simp[List.getD_eq_getElem?_getD,hk]
 have e:∀j,j<c->F j=sm p.length fun a=>if j=p.getD a 0 then F j else 0:=fun j hj=>by
  by_cases hjp:j∈p
  ·obtain⟨k,hk,rfl⟩:=List.getElem_of_mem hjp
   rw[a1x k hk fun i hi hik=>by
    rw[hp i hi,if_neg];intro e2;rcases Nat.lt_or_gt_of_ne hik with a|a
    ·have:=hg.inc i k a hk;omega
    ·have:=hg.inc k i a hi;omega]
   rw[hp k hk,if_pos rfl]
  ·rw[h0 j hj hjp,a1Q fun i hi=>by split<;>rfl]
 rw[a0g e,a2u];exact a0g fun a ha=>by
  rw[hp a ha,a1x p[a] (hg.lt a ha) fun j _ hj=>by rw[if_neg hj],if_pos rfl]
theorem b0a {n c:Nat} {f g:F2} {p:List Nat} (hg:Rref n c g p) (z:Nat->Rat) (r:Nat):app c f (b3w p z) r=app p.length (usd f p) z r:=by
 unfold app;rw[b8X hg _ fun j _ hj=>by rw[a4Q z hj];grind];exact a0g fun a ha=>by
  have hp:p.getD a 0=p[a]:=by simp[List.getD_eq_getElem?_getD,ha]
  unfold usd;rw[hp,a6l hg z a ha]
theorem b8Y {n c:Nat} {f g:F2} {p:List Nat} {d:Rat} (hg:Rref n c g p) (he:RE n c f g d) {z:Nat->Rat} (hz:Nul n p.length (usd f p) z) (a:Nat) (ha:a<p.length):z a=0:=by
 have h1:Nul n c f (b3w p z):=fun r hr=>(b0a (f:=f) hg z r).trans (hz r hr);have:=a9Z hg he h1 (fun j _ hj=>a4Q z hj) p[a] (hg.lt a ha);rwa[a6l hg z a ha]at this
theorem b8Z {n c:Nat} {f g:F2} {p:List Nat} {d:Rat} (hg:Rref n c g p) (he:RE n c f g d) {y z:Nat->Rat} (hz:NS n p.length (usd f p) y z):NS n c f y (b3w p z):=by
 refine a9d.2 fun i hi=>?_;have h0:=a9d.1 hz;have hf:=b0J hg he;rw[a0g (g:=fun r=>sm p.length fun k=>g k i*(usd f p r k*(y r - app p.length (usd f p) z r))) fun r hr=>by
  rw[b0a hg,hf r hr i hi];unfold mul;have:∀(A B:Rat),A*B=B*A:=fun A B=>by grind
  rw[this,<-a1w];exact a0g fun k _=>by unfold usd;grind]
 rw[a2u];exact a1Q fun k hk=>by rw[a1w,h0 k hk];grind
def Inv (m:Nat) (G v:F2):Prop:=(∀a,a<m->∀b,b<m->sm m (fun k=>G a k*v k b)=if a=b then 1 else 0)/\∀a,a<m->∀b,b<m->sm m (fun k=>v a k*G k b)=if a=b then 1 else 0
theorem b9a {n m:Nat} {u v:F2} (h:Inv m (gr n u) v) (y:Nat->Rat):NS n m u y fun a=>sm m fun b=>v a b*gy n u y b:=fun i hi=>by
 rw[a0g (g:=fun j=>sm m fun b=>gy n u y b*(gr n u i j*v j b)) fun j _=>by rw[<-a1w];exact a0g fun b _=>by grind];rw[a2u,a0g (g:=fun b=>gy n u y b*if i=b then 1 else 0) fun b hb=>by rw[a1w,h.1 i hi b hb]];rw[a1x i hi fun b _ hb=>by simp[Ne.symm hb]];simp
def hat (m:Nat) (u v:F2):F2:=fun i j=>sm m fun a=>u i a*sm m fun b=>v a b*u j b
open Go.Lim
def a2N (m:Mat) (b:List Rat) (n:Nat):Mat:=(List.range n).map fun i=>m.getD i []++[b.getD i 0]
theorem a2e {m:Mat} {b:List Rat} {n c:Nat} (hs:Shp n c m):Shp n (c+1) (a2N m b n):=⟨by simp[a2N],fun r hr=>by
 obtain⟨i,hi,rfl⟩:=List.mem_map.1 hr;rw[List.length_append,hs.row (List.mem_range.1 hi)];rfl⟩
theorem b2g {m:Mat} {b:List Rat} {n i:Nat} (h:i<(a2N m b n).length) (hi:i<m.length) (hb:i<b.length):(a2N m b n)[i]=m[i]++[b[i]]:=by
 simp[a2N,hi,hb,List.getD_eq_getElem?_getD]
theorem a8l {m:Mat} {b:List Rat} {n c:Nat} (hs:Shp n c m):Eqm n (c+1) (ent (a2N m b n)) (a2Y c (ent m) fun i=>b.getD i 0):=fun i hi j hj=>by
 have hr:=hs.row hi;have e:(a2N m b n).getD i []=m.getD i []++[b.getD i 0]:=by simp[a2N,List.getD_eq_getElem?_getD,hi]
 show((a2N m b n).getD i []).getD j 0=_
 unfold a2Y;rw[e,List.getD_eq_getElem?_getD];by_cases h:j=c
 ·rw[if_pos h,List.getElem?_append_right (by omega),hr];subst h;simp
 ·rw[if_neg h,List.getElem?_append_left (by omega),<-List.getD_eq_getElem?_getD];rfl
theorem b0b (k:Nat):eN [] k=([],[],false):=by
 induction k with
 |zero=>rfl
 |succ k ih=>unfold eN;rw[ih];rfl
theorem b0c (k:Nat):a1b [] k=([],[]):=by unfold a1b;rw[b0b];rfl
theorem b2h {n c:Nat} {m:Mat} (hs:Shp n c m) (c':Nat) (h:0<n->c'=c):a1b m c'=a1b m c:=by
 by_cases h0:n=0
 ·have:m= []:=List.eq_nil_of_length_eq_zero (by rw[hs.1];exact h0)
  subst this;rw[b0c,b0c]
 ·rw[h (by omega)]
theorem b2i {n c:Nat} {m:Mat} (hs:Shp n c m) (c':Nat) (h:0<n->c'=c) (hT:b4q m c):b4q m c':=by
 by_cases h0:n=0
 ·have:m= []:=List.eq_nil_of_length_eq_zero (by rw[hs.1];exact h0)
  subst this;obtain⟨B,h1,h2,_⟩:=hT;have h3:=h2 0 (Nat.zero_le _);rw[b0b]at h3;refine⟨B,h1,fun j _=>by rw[b0b];exact h3,fun t ht=>?_⟩;rw[b0b]at ht |-;have:t=0:=by simpa using ht
  subst this;exact h3
 ·rw[h (by omega)];exact hT
def sN (R:Mat) (p:List Nat) (c:Nat):Nat->List Rat
 |0=>List.replicate c 0
 |i+1=>(sN R p c i).set (p.getD i 0) (ent R i c)
theorem b0d (R:Mat) (p:List Nat) (c i:Nat):(sN R p c i).length=c:=by
 induction i with
 |zero=>exact List.length_replicate
 |succ i ih=>show((sN R p c i).set _ _).length=c;rw[List.length_set,ih]
theorem b9b {n c:Nat} {R:Mat} {p:List Nat} (hr:Rref n (c+1) (ent R) p) (i:Nat) (hi:i<=p.length) (x:Nat) (hx:x<c):(sN R p c i).getD x 0=match p.findIdx? (· ==x)with|some k=>if k<i then ent R k c else 0|none=>0:=by
 induction i with
 |zero=>
  show(List.replicate c (0:Rat)).getD x 0=_
  have:(List.replicate c (0:Rat)).getD x 0=0:=by simp[List.getD_eq_getElem?_getD,hx]
  rw[this];cases p.findIdx? (· ==x)<;>simp
 |succ i ih=>
  have hip:i<p.length:=by omega
  have hpi:p.getD i 0=p[i]:=by simp[List.getD_eq_getElem?_getD,hip]
  show((sN R p c i).set (p.getD i 0) (ent R i c)).getD x 0=_
  rw[hpi,List.getD_eq_getElem?_getD,List.getElem?_set,b0d];by_cases h:p[i]=x
  ·rw[if_pos h,if_pos (by omega),<-h,hr.idx i hip];simp
  ·rw[if_neg h,<-List.getD_eq_getElem?_getD,ih (by omega)]
   cases hf:p.findIdx? (· ==x)with
   |none=>rfl
   |some k=>
    have hk:=List.findIdx?_eq_some_iff_getElem.1 hf;obtain⟨hk1,hk2,_⟩:=hk;have hki:k≠i:=by rintro rfl;exact h (by simpa using hk2)
    dsimp only
    by_cases h2:k<i
    ·rw[if_pos h2,if_pos (by omega)]
    ·rw[if_neg h2,if_neg (by omega)]
def b5U (R:Mat) (p:List Nat) (c:Nat):List Rat:=sN R p c p.length
theorem b0e {n c:Nat} {R:Mat} {p:List Nat} (hr:Rref n (c+1) (ent R) p) (x:Nat) (hx:x<c):(b5U R p c).getD x 0=b1Q (ent R) p c x:=by
 unfold b5U b1Q;rw[b9b hr _ (Nat.le_refl _) x hx];cases hf:p.findIdx? (· ==x)with
 |none=>rfl
 |some k=>
  obtain⟨hk1,_⟩:=List.findIdx?_eq_some_iff_getElem.1 hf
  dsimp only
  rw[if_pos hk1]
noncomputable def b8m (m:Mat) (n:Nat):Rat:=if(eN m n).2.2 then - pr n (fun i=>ent (eN m n).1 i i)else pr n (fun i=>ent (eN m n).1 i i)
theorem a7B {n:Nat} {m:Mat} (hn:n<=4) (hs:Shp n n m):b8m m n=det n (ent m):=by
 have hk:=a5L hs n;have h1:=hk.ech.det hn;have h2:=hk.re.det_same hn;unfold b8m;rw[<-h1,h2];split<;>grind
noncomputable def a8m (m:Mat) (c:Nat):Nat:=(eN m c).2.1.length
theorem a8n (m:Mat) (c:Nat):a8m m c=(a1b m c).2.length:=rfl
theorem b2j {n:Nat} {m:Mat} (hn:n<=4) (hs:Shp n n m):a8m m n=n↔b8m m n≠0:=by
 rw[a7B hn hs,a8n];obtain⟨h1,h2,d,h3⟩:=a1o hs (c:=n);have h4:=h3.det_same hn;have h5:=h2.det hn;have h6:=h3.ne;by_cases e:(a1b m n).2.length=n
 ·rw[if_pos e]at h5
  refine⟨fun _ h=>?_,fun _=>e⟩;rw[h5,h]at h4;grind
 ·rw[if_neg e]at h5
  refine⟨fun h=>absurd h e,fun h=>?_⟩;rw[h5]at h4;rcases Rat.mul_eq_zero.1 h4.symm with h7|h7
  ·exact absurd h7 h6
  ·exact absurd h7 h
end Go.Lin
