/- Determinants of at most four rows: row operations, products, the transposed matrix, triangles. Conditions: none. Ranks, null vectors and solutions, read off the reduced form. Conditions: none. Least squares: the normal equations, over functions of row and column. Conditions: none. Least squares: the fit by the used columns, and the leverages, over functions. Conditions: none. How large the numbers of an elimination grow. Conditions: none. Matrices whose elimination stays small: those of small numbers, and those that are reduced. Conditions: none. Solve, as lists. Conditions: none. Products of rows and matrices, the transposed matrix, over lists. Conditions: none. The determinants and ranks that the program computes. Conditions: at most four rows for determinants. rational.Valid, value. Conditions: at most 2^36 digits. rational.times, lowest, FromInt. Conditions: at most 2^38 digits. rational.Add. Conditions: at most 2^36 digits. -/
import Derived.Test.YtkddecjkfdogiaaGreatLkF
namespace Go.Lin
def det:Nat->F2->Rat
 |0,_=>1
 |n+1,f=>sm (n+1) fun i=>(if i%2=0 then 1 else -1)*f i 0*det n fun r c=>f (if r<i then r else r+1) (c+1)
theorem a0Y {n:Nat} {f g:F2} (h:Eqm n n f g):det n f=det n g:=by
 induction n generalizing f g with
 |zero=>rfl
 |succ n ih=>
  unfold det;refine a0k fun i hi=>?_;rw[h i hi 0 (by omega),ih (g:=fun r c=>g (if r<i then r else r+1) (c+1)) fun r hr c hc=>h _ (by split<;>omega) _ (by omega)]
theorem b5S (f:F2):det 0 f=1:=rfl
theorem a6K (f:F2):det 1 f=f 0 0:=by simp[det,sm];grind
theorem a6L (f:F2):det 2 f=f 0 0*f 1 1 - f 1 0*f 0 1:=by simp[det,sm];grind
theorem a6M (f:F2):det 3 f=f 0 0*(f 1 1*f 2 2 - f 2 1*f 1 2) - f 1 0*(f 0 1*f 2 2 - f 2 1*f 0 2)+f 2 0*(f 0 1*f 1 2 - f 1 1*f 0 2):=by
 simp[det,sm];grind
theorem a6N (f:F2):det 4 f=f 0 0*(f 1 1*(f 2 2*f 3 3 - f 3 2*f 2 3) - f 2 1*(f 1 2*f 3 3 - f 3 2*f 1 3)+f 3 1*(f 1 2*f 2 3 - f 2 2*f 1 3))
  - f 1 0*(f 0 1*(f 2 2*f 3 3 - f 3 2*f 2 3) - f 2 1*(f 0 2*f 3 3 - f 3 2*f 0 3)+f 3 1*(f 0 2*f 2 3 - f 2 2*f 0 3))
  +f 2 0*(f 0 1*(f 1 2*f 3 3 - f 3 2*f 1 3) - f 1 1*(f 0 2*f 3 3 - f 3 2*f 0 3)+f 3 1*(f 0 2*f 1 3 - f 1 2*f 0 3))
  - f 3 0*(f 0 1*(f 1 2*f 2 3 - f 2 2*f 1 3) - f 1 1*(f 0 2*f 2 3 - f 2 2*f 0 3)+f 2 1*(f 0 2*f 1 3 - f 1 2*f 0 3)):=by
 simp[det,sm];grind
theorem lt4 {P:Nat->Prop} (h0:P 0) (h1:P 1) (h2:P 2) (h3:P 3) (i:Nat) (hi:i<4):P i:=by
 match i,hi with
 |0,_=>exact h0
 |1,_=>exact h1
 |2,_=>exact h2
 |3,_=>exact h3
theorem lt1 {P:Nat->Prop} (h0:P 0) (i:Nat) (hi:i<1):P i:=by
 match i,hi with
 |0,_=>exact h0
theorem b0b (f g:F2) (i k:Nat) (hi:i<1) (hk:k<1) (hik:i≠k) (h1:∀j,j<1->g i j=f k j) (h2:∀j,j<1->g k j=f i j) (h3:∀r,r<1->r≠i->r≠k->∀j,j<1->g r j=f r j):det 1 g= - det 1 f:=by
 have e:Eqm 1 1 g (fun r j=>if r=i then f k j else if r=k then f i j else f r j):=fun r hr j hj=>by
  dsimp only;split
  ·subst_vars;exact h1 j hj
  ·split
   ·subst_vars;exact h2 j hj
   ·exact h3 r hr (by assumption) (by assumption) j hj
 rw[a0Y e];clear e h1 h2 h3
 revert hik
 revert k
 revert i
 refine lt1 ?_<;>refine lt1 ?_<;>intro hik<;>first|exact absurd rfl hik|(rw[a6K,a6K];simp;try grind)
theorem a8X (f g:F2) (i:Nat) (a:Rat) (hi:i<1) (h1:∀j,j<1->g i j=a*f i j) (h3:∀r,r<1->r≠i->∀j,j<1->g r j=f r j):det 1 g=a*det 1 f:=by
 have e:Eqm 1 1 g (fun r j=>if r=i then a*f i j else f r j):=fun r hr j hj=>by
  dsimp only;split
  ·subst_vars;exact h1 j hj
  ·exact h3 r hr (by assumption) j hj
 rw[a0Y e];clear e h1 h3
 revert i
 refine lt1 ?_<;>(rw[a6K,a6K];simp;try grind)
theorem b1s (f g:F2) (i k:Nat) (a:Rat) (hi:i<1) (hk:k<1) (hik:i≠k) (h1:∀j,j<1->g i j=f i j+a*f k j) (h3:∀r,r<1->r≠i->∀j,j<1->g r j=f r j):det 1 g=det 1 f:=by
 have e:Eqm 1 1 g (fun r j=>if r=i then f i j+a*f k j else f r j):=fun r hr j hj=>by
  dsimp only;split
  ·subst_vars;exact h1 j hj
  ·exact h3 r hr (by assumption) j hj
 rw[a0Y e];clear e h1 h3
 revert hik
 revert k
 revert i
 refine lt1 ?_<;>refine lt1 ?_<;>intro hik<;>first|exact absurd rfl hik|(rw[a6K,a6K];simp;try grind)
theorem b1t (f:F2) (_h:∀i j,i<1->j<i->f i j=0):det 1 f=f 0 0:=by
 rw[a6K]
theorem lt2 {P:Nat->Prop} (h0:P 0) (h1:P 1) (i:Nat) (hi:i<2):P i:=by
 match i,hi with
 |0,_=>exact h0
 |1,_=>exact h1
theorem b0c (f g:F2) (i k:Nat) (hi:i<2) (hk:k<2) (hik:i≠k) (h1:∀j,j<2->g i j=f k j) (h2:∀j,j<2->g k j=f i j) (h3:∀r,r<2->r≠i->r≠k->∀j,j<2->g r j=f r j):det 2 g= - det 2 f:=by
 have e:Eqm 2 2 g (fun r j=>if r=i then f k j else if r=k then f i j else f r j):=fun r hr j hj=>by
  dsimp only;split
  ·subst_vars;exact h1 j hj
  ·split
   ·subst_vars;exact h2 j hj
   ·exact h3 r hr (by assumption) (by assumption) j hj
 rw[a0Y e];clear e h1 h2 h3
 revert hik
 revert k
 revert i
 refine lt2 ?_ ?_<;>refine lt2 ?_ ?_<;>intro hik<;>first|exact absurd rfl hik|(rw[a6L,a6L];simp;try grind)
theorem a8Y (f g:F2) (i:Nat) (a:Rat) (hi:i<2) (h1:∀j,j<2->g i j=a*f i j) (h3:∀r,r<2->r≠i->∀j,j<2->g r j=f r j):det 2 g=a*det 2 f:=by
 have e:Eqm 2 2 g (fun r j=>if r=i then a*f i j else f r j):=fun r hr j hj=>by
  dsimp only;split
  ·subst_vars;exact h1 j hj
  ·exact h3 r hr (by assumption) j hj
 rw[a0Y e];clear e h1 h3
 revert i
 refine lt2 ?_ ?_<;>(rw[a6L,a6L];simp;try grind)
theorem b1u (f g:F2) (i k:Nat) (a:Rat) (hi:i<2) (hk:k<2) (hik:i≠k) (h1:∀j,j<2->g i j=f i j+a*f k j) (h3:∀r,r<2->r≠i->∀j,j<2->g r j=f r j):det 2 g=det 2 f:=by
 have e:Eqm 2 2 g (fun r j=>if r=i then f i j+a*f k j else f r j):=fun r hr j hj=>by
  dsimp only;split
  ·subst_vars;exact h1 j hj
  ·exact h3 r hr (by assumption) j hj
 rw[a0Y e];clear e h1 h3
 revert hik
 revert k
 revert i
 refine lt2 ?_ ?_<;>refine lt2 ?_ ?_<;>intro hik<;>first|exact absurd rfl hik|(rw[a6L,a6L];simp;try grind)
theorem b1v (f:F2) (h:∀i j,i<2->j<i->f i j=0):det 2 f=f 0 0*f 1 1:=by
 have z10:=h 1 0 (by omega) (by omega);rw[a6L];simp[z10];try grind
theorem lt3 {P:Nat->Prop} (h0:P 0) (h1:P 1) (h2:P 2) (i:Nat) (hi:i<3):P i:=by
 match i,hi with
 |0,_=>exact h0
 |1,_=>exact h1
 |2,_=>exact h2
theorem b0d (f g:F2) (i k:Nat) (hi:i<3) (hk:k<3) (hik:i≠k) (h1:∀j,j<3->g i j=f k j) (h2:∀j,j<3->g k j=f i j) (h3:∀r,r<3->r≠i->r≠k->∀j,j<3->g r j=f r j):det 3 g= - det 3 f:=by
 have e:Eqm 3 3 g (fun r j=>if r=i then f k j else if r=k then f i j else f r j):=fun r hr j hj=>by
  dsimp only;split
  ·subst_vars;exact h1 j hj
  ·split
   ·subst_vars;exact h2 j hj
   ·exact h3 r hr (by assumption) (by assumption) j hj
 rw[a0Y e];clear e h1 h2 h3
 revert hik
 revert k
 revert i
 refine lt3 ?_ ?_ ?_<;>refine lt3 ?_ ?_ ?_<;>intro hik<;>first|exact absurd rfl hik|(rw[a6M,a6M];simp;try grind)
theorem a8Z (f g:F2) (i:Nat) (a:Rat) (hi:i<3) (h1:∀j,j<3->g i j=a*f i j) (h3:∀r,r<3->r≠i->∀j,j<3->g r j=f r j):det 3 g=a*det 3 f:=by
 have e:Eqm 3 3 g (fun r j=>if r=i then a*f i j else f r j):=fun r hr j hj=>by
  dsimp only;split
  ·subst_vars;exact h1 j hj
  ·exact h3 r hr (by assumption) j hj
 rw[a0Y e];clear e h1 h3
 revert i
 refine lt3 ?_ ?_ ?_<;>(rw[a6M,a6M];simp;try grind)
theorem b1w (f g:F2) (i k:Nat) (a:Rat) (hi:i<3) (hk:k<3) (hik:i≠k) (h1:∀j,j<3->g i j=f i j+a*f k j) (h3:∀r,r<3->r≠i->∀j,j<3->g r j=f r j):det 3 g=det 3 f:=by
 have e:Eqm 3 3 g (fun r j=>if r=i then f i j+a*f k j else f r j):=fun r hr j hj=>by
  dsimp only;split
  ·subst_vars;exact h1 j hj
  ·exact h3 r hr (by assumption) j hj
 rw[a0Y e];clear e h1 h3
 revert hik
 revert k
 revert i
 refine lt3 ?_ ?_ ?_<;>refine lt3 ?_ ?_ ?_<;>intro hik<;>first|exact absurd rfl hik|(rw[a6M,a6M];simp;try grind)
theorem b1x (f:F2) (h:∀i j,i<3->j<i->f i j=0):det 3 f=f 0 0*f 1 1*f 2 2:=by
 have z10:=h 1 0 (by omega) (by omega);have z20:=h 2 0 (by omega) (by omega);have z21:=h 2 1 (by omega) (by omega);rw[a6M];simp[z10,z20,z21];try grind
theorem b0e (f g:F2) (i k:Nat) (hi:i<4) (hk:k<4) (hik:i≠k) (h1:∀j,j<4->g i j=f k j) (h2:∀j,j<4->g k j=f i j) (h3:∀r,r<4->r≠i->r≠k->∀j,j<4->g r j=f r j):det 4 g= - det 4 f:=by
 have e:Eqm 4 4 g (fun r j=>if r=i then f k j else if r=k then f i j else f r j):=fun r hr j hj=>by
  dsimp only;split
  ·subst_vars;exact h1 j hj
  ·split
   ·subst_vars;exact h2 j hj
   ·exact h3 r hr (by assumption) (by assumption) j hj
 rw[a0Y e];clear e h1 h2 h3
 revert hik
 revert k
 revert i
 refine lt4 ?_ ?_ ?_ ?_<;>refine lt4 ?_ ?_ ?_ ?_<;>intro hik<;>first|exact absurd rfl hik|(rw[a6N,a6N];simp;try grind)
theorem a9a (f g:F2) (i:Nat) (a:Rat) (hi:i<4) (h1:∀j,j<4->g i j=a*f i j) (h3:∀r,r<4->r≠i->∀j,j<4->g r j=f r j):det 4 g=a*det 4 f:=by
 have e:Eqm 4 4 g (fun r j=>if r=i then a*f i j else f r j):=fun r hr j hj=>by
  dsimp only;split
  ·subst_vars;exact h1 j hj
  ·exact h3 r hr (by assumption) j hj
 rw[a0Y e];clear e h1 h3
 revert i
 refine lt4 ?_ ?_ ?_ ?_<;>(rw[a6N,a6N];simp;try grind)
theorem b1y (f g:F2) (i k:Nat) (a:Rat) (hi:i<4) (hk:k<4) (hik:i≠k) (h1:∀j,j<4->g i j=f i j+a*f k j) (h3:∀r,r<4->r≠i->∀j,j<4->g r j=f r j):det 4 g=det 4 f:=by
 have e:Eqm 4 4 g (fun r j=>if r=i then f i j+a*f k j else f r j):=fun r hr j hj=>by
  dsimp only;split
  ·subst_vars;exact h1 j hj
  ·exact h3 r hr (by assumption) j hj
 rw[a0Y e];clear e h1 h3
 revert hik
 revert k
 revert i
 refine lt4 ?_ ?_ ?_ ?_<;>refine lt4 ?_ ?_ ?_ ?_<;>intro hik<;>first|exact absurd rfl hik|(rw[a6N,a6N];simp;try grind)
theorem b1z (f:F2) (h:∀i j,i<4->j<i->f i j=0):det 4 f=f 0 0*f 1 1*f 2 2*f 3 3:=by
 have z10:=h 1 0 (by omega) (by omega);have z20:=h 2 0 (by omega) (by omega);have z21:=h 2 1 (by omega) (by omega);have z30:=h 3 0 (by omega) (by omega);have z31:=h 3 1 (by omega) (by omega);have z32:=h 3 2 (by omega) (by omega);rw[a6N];simp[z10,z20,z21,z30,z31,z32];try grind
theorem RE.det_same {n:Nat} {f g:F2} {d:Rat} (hn:n<=4) (h:RE n n f g d):det n g=d*det n f:=by
 induction h with
 |same h=>rw[a0Y h];grind
 |swap i k hi hk hik h1 h2 h3=>
  match n,hn with
  |1,_=>rw[b0b _ _ i k hi hk hik h1 h2 h3];grind
  |2,_=>rw[b0c _ _ i k hi hk hik h1 h2 h3];grind
  |3,_=>rw[b0d _ _ i k hi hk hik h1 h2 h3];grind
  |4,_=>rw[b0e _ _ i k hi hk hik h1 h2 h3];grind
 |scale i a hi ha h1 h3=>
  match n,hn with
  |1,_=>exact a8X _ _ i a hi h1 h3
  |2,_=>exact a8Y _ _ i a hi h1 h3
  |3,_=>exact a8Z _ _ i a hi h1 h3
  |4,_=>exact a9a _ _ i a hi h1 h3
 |add i k a hi hk hik h1 h3=>
  match n,hn with
  |1,_=>rw[b1s _ _ i k a hi hk hik h1 h3];grind
  |2,_=>rw[b1u _ _ i k a hi hk hik h1 h3];grind
  |3,_=>rw[b1w _ _ i k a hi hk hik h1 h3];grind
  |4,_=>rw[b1y _ _ i k a hi hk hik h1 h3];grind
 |trans _ _ ih1 ih2=>rw[ih2,ih1];grind
def pr:Nat->(Nat->Rat)->Rat
 |0,_=>1
 |n+1,f=>pr n f*f n
theorem b3w {n:Nat} (hn:n<=4) (f:F2) (h:∀i j,i<n->j<i->f i j=0):det n f=pr n fun i=>f i i:=by
 match n,hn with
 |0,_=>rfl
 |1,_=>rw[b1t f h];simp[pr];try grind
 |2,_=>rw[b1v f h];simp[pr];try grind
 |3,_=>rw[b1x f h];simp[pr];try grind
 |4,_=>rw[b1z f h];simp[pr];try grind
theorem a8j {n:Nat} (hn:n<=4) (f:F2) (i:Nat) (hi:i<n) (h:∀j,j<n->f i j=0):det n f=0:=by
 have:=(RE.scale (n:=n) (c:=n) (f:=f) (g:=f) i 2 hi (by grind) (fun j hj=>by rw[h j hj];grind) (fun _ _ _ _ _=>rfl)).det_same hn;grind
theorem Ech.ge {n k:Nat} {f:F2} {p:List Nat} (h:Ech n k f p) (i:Nat) (hi:i<p.length):i<=p[i]:=by
 induction i with
 |zero=>omega
 |succ i ih=>have:=ih (by omega);have:=h.inc i (i+1) (by omega) hi;omega
theorem Ech.det {n:Nat} {f:F2} {p:List Nat} (hn:n<=4) (h:Ech n n f p):Lin.det n f=pr n fun i=>f i i:=
 b3w hn f fun i j hi hj=>by
  by_cases a:i<p.length
  ·exact h.left i a j (by have:=h.ge i a;omega)
  ·exact h.below i (by omega) hi j (by omega)
theorem Rref.ge {n k:Nat} {f:F2} {p:List Nat} (h:Rref n k f p) (i:Nat) (hi:i<p.length):i<=p[i]:=by
 induction i with
 |zero=>omega
 |succ i ih=>have:=ih (by omega);have:=h.inc i (i+1) (by omega) hi;omega
theorem Rref.diag {n c:Nat} {f:F2} {p:List Nat} (h:Rref n c f p) (hp:p.length=n) (hc:∀i (hi:i<p.length),p[i]<n) (i:Nat) (hi:i<n):p[i]'(by omega)=i:=by
 have h1:∀q,q<n->∀hq:n - 1 - q<p.length,p[n - 1 - q]<=n - 1 - q:=by
  intro q
  induction q with
  |zero=>intro h0 hq;have:=hc _ hq;omega
  |succ q ih=>
   intro h0 hq;have h2:=ih (by omega) (by omega);have h3:=h.inc (n - 1 - (q+1)) (n - 1 - q) (by omega) (by omega);omega
 have h2:=h1 (n - 1 - i) (by omega) (by omega);have h3:=h.ge i (by omega);have e:n - 1 - (n - 1 - i)=i:=by omega
 simp only[e]at h2;omega
theorem Rref.unit {n c:Nat} {f:F2} {p:List Nat} (h:Rref n c f p) (hp:p.length=n) (hc:∀i (hi:i<p.length),p[i]<n):Eqm n n f fun i j=>if i=j then 1 else 0:=fun i hi j hj=>by
 have hd:=h.diag hp hc j hj;by_cases e:i=j
 ·subst e
  have:=h.one i (by omega);rw[hd]at this;simpa using this
 ·have:=h.zero j (by omega) i hi e;rw[hd]at this;simpa[e]using this
theorem a8k {n:Nat} (hn:n<=4):det n (fun i j=>if i=j then 1 else 0)=1:=by
 match n,hn with
 |0,_=>rfl
 |1,_=>rw[a6K];simp
 |2,_=>rw[a6L];simp;try grind
 |3,_=>rw[a6M];simp;try grind
 |4,_=>rw[a6N];simp;try grind
theorem Rref.det {n:Nat} {f:F2} {p:List Nat} (hn:n<=4) (h:Rref n n f p):Lin.det n f=if p.length=n then 1 else 0:=by
 have hle:=h.le;split
 ·rename_i e
  rw[a0Y (h.unit e h.lt),a8k hn]
 ·exact a8j hn f p.length (by omega) (h.below _ (Nat.le_refl _) (by omega))
def mul (n:Nat) (f g:F2):F2:=fun i j=>sm n fun k=>f i k*g k j
def ofF (n c:Nat) (f:F2):Mat:=(List.range n).map fun i=>(List.range c).map (f i)
theorem a7y (n c:Nat) (f:F2):Shp n c (ofF n c f):=⟨by simp[ofF],fun r hr=>by
 obtain⟨i,_,rfl⟩:=List.mem_map.1 hr;simp⟩
theorem a7z (n c:Nat) (f:F2):Eqm n c (ent (ofF n c f)) f:=fun i hi j hj=>by simp[ent,ofF,List.getD_eq_getElem?_getD,hi,hj]
theorem RE.congr {n c:Nat} {f f' g:F2} {d:Rat} (h:RE n c f g d) (e:Eqm n c f' f):RE n c f' g d:=(RE.same e).then_ h (by grind)
theorem RE.factor {n c r:Nat} {f g:F2} {d:Rat} (h:RE n c f g d) (b:F2) (hf:∃a,Eqm n c f (mul r a b)):∃a,Eqm n c g (mul r a b):=by
 induction h with
 |same h=>obtain⟨a,ha⟩:=hf;exact⟨a,fun i hi j hj=>(h i hi j hj).symm.trans (ha i hi j hj)⟩
 |swap i k hi hk hik h1 h2 h3=>
  obtain⟨a,ha⟩:=hf;refine⟨fun q=>if q=i then a k else if q=k then a i else a q,fun q hq j hj=>?_⟩;by_cases e:q=i
  ·subst e;rw[h1 j hj,ha k hk j hj];simp[mul]
  ·by_cases e2:q=k
   ·subst e2;rw[h2 j hj,ha i hi j hj];simp[mul,e]
   ·rw[h3 q hq e e2 j hj,ha q hq j hj];simp[mul,e,e2]
 |scale i x hi hx h1 h3=>
  obtain⟨a,ha⟩:=hf;refine⟨fun q=>if q=i then fun k=>x*a i k else a q,fun q hq j hj=>?_⟩;by_cases e:q=i
  ·subst e;rw[h1 j hj,ha q hq j hj];simp only[mul,if_true];rw[<-a2Z];exact a0k fun k _=>by grind
  ·rw[h3 q hq e j hj,ha q hq j hj];simp[mul,e]
 |add i k x hi hk hik h1 h3=>
  obtain⟨a,ha⟩:=hf;refine⟨fun q=>if q=i then fun y=>a i y+x*a k y else a q,fun q hq j hj=>?_⟩;by_cases e:q=i
  ·subst e;rw[h1 j hj,ha q hq j hj,ha k hk j hj];simp only[mul,if_true];rw[<-a2Z,<-a6F];exact a0k fun k _=>by grind
  ·rw[h3 q hq e j hj,ha q hq j hj];simp[mul,e]
 |trans _ _ ih1 ih2=>exact ih2 (ih1 hf)
theorem LI.full {n c:Nat} {f r:F2} {p:List Nat} {d:Rat} (hf:LI n c f) (hr:Rref n c r p) (h:RE n c f r d):p.length=n:=by
 have hle:=hr.le;refine Classical.byContradiction fun hne=>?_;have:=(h.li hf) (fun i=>if i=p.length then 1 else 0) (fun j hj=>by
  unfold cmb;rw[a1U p.length (by omega) fun i _ hi=>by simp[hi]];rw[hr.below _ (Nat.le_refl _) (by omega) j hj];grind) p.length (by omega)
 simp at this
def b0f (r:F2) (p:List Nat) (c:Nat):Nat->Rat:=fun x=>match p.findIdx? (· ==x)with|some i=>r i c|none=>0
def a2H (c:Nat) (f:F2) (b:Nat->Rat):F2:=fun i j=>if j=c then b i else f i j
theorem b1A {n c:Nat} {f:F2} {b:Nat->Rat} (x:Nat->Rat):Nul n (c+1) (a2H c f b) (fun j=>if j=c then -1 else x j)↔∀i,i<n->sm c (fun j=>f i j*x j)=b i:=by
 have key:∀i,sm (c+1) (fun j=>a2H c f b i j*(if j=c then -1 else x j))=sm c (fun j=>f i j*x j) - b i:=fun i=>by
  show sm c _+_=_
  rw[a0k (g:=fun j=>f i j*x j) fun j hj=>by simp[a2H,show j≠c by omega]];simp[a2H];grind
 constructor
 ·intro h i hi;have:=h i hi;rw[key]at this;grind
 ·intro h i hi;rw[key,h i hi];grind
theorem b4U {n c:Nat} {f r:F2} {b:Nat->Rat} {p:List Nat} {d:Rat} (hr:Rref n (c+1) r p) (h:RE n (c+1) (a2H c f b) r d) (hp:c∉p):∀i,i<n->sm c (fun j=>f i j*b0f r p c j)=b i:=by
 refine(b1A (b0f r p c)).1 ((h.nul _).2 fun i hi=>?_);by_cases hip:i<p.length
 ·rw[hr.row i hip]
  have h1:p[i]≠c:=by rintro rfl;exact hp (List.getElem_mem _)
  rw[if_neg h1,a1U c (by omega) fun k hk hkc=>?_]
  ·simp only[b0f,hr.idx i hip,hp,if_false,if_true];grind
  ·split
   ·rfl
   ·rename_i hkp
    simp only[b0f,a4O hkp];grind
 ·exact a2U fun j hj=>by rw[hr.below i (by omega) hi j hj];grind
theorem b2C (a:Rat):0<=a*a:=by
 rcases Rat.le_total (a:=0) (b:=a)with h|h
 ·exact Rat.mul_nonneg h h
 ·have h2:0<= -a:=by grind
  have:=Rat.mul_nonneg h2 h2;grind
theorem b5T (n:Nat) (f:Nat->Rat):0<=sm n fun i=>f i*f i:=by
 induction n with
 |zero=>unfold sm;grind
 |succ n ih=>unfold sm;have:=b2C (f n);grind
theorem a9b {n:Nat} {f:Nat->Rat} (h:sm n (fun i=>f i*f i)=0):∀i,i<n->f i=0:=by
 induction n with
 |zero=>intro i hi;omega
 |succ n ih=>
  unfold sm at h;have h1:=b5T n f;have h2:=b2C (f n);have h3:sm n (fun i=>f i*f i)=0:=by grind
  have h4:f n*f n=0:=by grind
  intro i hi;by_cases e:i=n
  ·subst e;rcases Rat.mul_eq_zero.1 h4 with h|h<;>exact h
  ·exact ih h3 i (by omega)
def app (c:Nat) (f:F2) (x:Nat->Rat) (i:Nat):Rat:=sm c fun j=>f i j*x j
def gr (n:Nat) (f:F2):F2:=fun i j=>sm n fun r=>f r i*f r j
def gy (n:Nat) (f:F2) (y:Nat->Rat):Nat->Rat:=fun i=>sm n fun r=>f r i*y r
theorem b4V (n:Nat) (f:F2) (i j:Nat):gr n f i j=gr n f j i:=a0k fun r _=>by grind
theorem b2D (n c:Nat) (f:F2) (x:Nat->Rat) (i:Nat):sm c (fun j=>gr n f i j*x j)=sm n fun r=>f r i*app c f x r:=by
 have e:∀j,j<c->gr n f i j*x j=sm n fun r=>f r i*(f r j*x j):=fun j _=>by
  have:gr n f i j*x j=x j*gr n f i j:=by grind
  rw[this];unfold gr;rw[<-a2Z];exact a0k fun r _=>by grind
 rw[a0k e,a5e];exact a0k fun r _=>by rw[a2Z];rfl
theorem a8l {n c:Nat} {f:F2} {x:Nat->Rat}:Nul c c (gr n f) x↔Nul n c f x:=by
 constructor
 ·intro h
  have h1:sm c (fun i=>x i*sm c (fun j=>gr n f i j*x j))=0:=a2U fun i hi=>by rw[h i hi];grind
  have h2:sm c (fun i=>x i*sm c (fun j=>gr n f i j*x j))=sm n fun r=>app c f x r*app c f x r:=by
   rw[a0k (g:=fun i=>sm n fun r=>app c f x r*(f r i*x i)) fun i _=>by rw[b2D,<-a2Z];exact a0k fun r _=>by grind];rw[a5e];exact a0k fun r _=>by rw[a2Z];rfl
  rw[h2]at h1;exact fun i hi=>a9b h1 i hi
 ·intro h i _
  rw[b2D];exact a2U fun r hr=>by rw[show app c f x r=0 from h r hr];grind
def NS (n c:Nat) (f:F2) (y b:Nat->Rat):Prop:=∀i,i<c->sm c (fun j=>gr n f i j*b j)=gy n f y i
theorem b1B {n c:Nat} {f g:F2} {p:List Nat} {d:Rat} (hg:Rref n c g p) (he:RE n c f g d) {x:Nat->Rat} (hx:Nul n c f x) (h0:∀j,j<c->j∉p->x j=0) (j:Nat) (hj:j<c):x j=0:=by
 by_cases hp:j∈p
 ·obtain⟨k,hk,rfl⟩:=List.getElem_of_mem hp
  have h1:=(he.nul x).1 hx k (Nat.lt_of_lt_of_le hk hg.le);have h2:sm c (fun j=>if j∈p then 0 else g k j*x j)=0:=a2U fun j hj=>by
   by_cases hj2:j∈p
   ·simp[hj2]
   ·simp[hj2,h0 j hj hj2]
  rw[hg.row k hk,h2]at h1;grind
 ·exact h0 j hj hp
theorem Rref.sub2 {n m c:Nat} {f g:F2} {p q:List Nat} (hf:Rref n c f p) (hg:Rref m c g q) (hn:∀x,Nul n c f x->Nul m c g x) (j:Nat) (hj:j∈q):j∈p:=by
 refine Classical.byContradiction fun hjp=>?_;obtain⟨k,hk,rfl⟩:=List.getElem_of_mem hj;have h1:=hn _ (hf.nv_nul hjp (hg.lt k hk)) k (Nat.lt_of_lt_of_le hk hg.le);rw[a1U q[k] (hg.lt k hk)]at h1
 ·rw[hg.one k hk,a5f]at h1;grind
 ·intro x _ hx
  rcases Nat.lt_or_gt_of_ne hx with a|a
  ·rw[hg.left k hk x a];grind
  ·rw[hf.nv_supp hjp a];grind
theorem Rref.piv2 {n m c:Nat} {f g:F2} {p q:List Nat} (hf:Rref n c f p) (hg:Rref m c g q) (hn:∀x,Nul n c f x↔Nul m c g x):p=q:=
 a8g p q hf.pw hg.pw fun x=>⟨hg.sub2 hf (fun x h=>(hn x).2 h) x,hf.sub2 hg (fun x h=>(hn x).1 h) x⟩
theorem Rref.drop {n c:Nat} {f:F2} {p:List Nat} (h:Rref n (c+1) f p) (hc:c∉p):Rref n c f p:=
 ⟨h.le,fun i hi=>by
  have h1:=h.lt i hi;have h2:p[i]≠c:=by rintro rfl;exact hc (List.getElem_mem _)
  omega,h.inc,h.left,h.one,h.zero,fun i h1 h2 j hj=>h.below i h1 h2 j (by omega)⟩
theorem b1C {n c:Nat} {f:F2} {b:Nat->Rat} {r:F2} {d:Rat} (h:RE n (c+1) (a2H c f b) r d) (x:Nat->Rat):Nul n c f x↔Nul n c r x:=by
 have e:∀(g:F2),Nul n (c+1) g (fun j=>if j=c then 0 else x j)↔Nul n c g x:=fun g=>by
  constructor
  ·intro h i hi
   have h1:=h i hi;unfold sm at h1;rw[a0k (g:=fun j=>g i j*x j) fun j hj=>by simp[show j≠c by omega]]at h1;simp at h1;grind
  ·intro h i hi
   unfold sm;rw[a0k (g:=fun j=>g i j*x j) fun j hj=>by simp[show j≠c by omega],h i hi];simp;grind
 have e2:Nul n (c+1) (a2H c f b) (fun j=>if j=c then 0 else x j)↔Nul n c f x:=by
  constructor
  ·intro h i hi
   have h1:=h i hi;unfold sm at h1;rw[a0k (g:=fun j=>f i j*x j) fun j hj=>by simp[a2H,show j≠c by omega]]at h1;simp at h1;grind
  ·intro h i hi
   unfold sm;rw[a0k (g:=fun j=>f i j*x j) fun j hj=>by simp[a2H,show j≠c by omega],h i hi];simp;grind
 rw[<-e2,<-e r];exact h.nul _
theorem b0g {n c:Nat} {f r:F2} {y:Nat->Rat} {q:List Nat} {d:Rat} (hr:Rref c (c+1) r q) (h:RE c (c+1) (a2H c (gr n f) (gy n f y)) r d):c∉q:=by
 intro hq;obtain⟨k,hk,hkc⟩:=List.getElem_of_mem hq;have hkn:k<c:=Nat.lt_of_lt_of_le hk hr.le;obtain⟨a,ha⟩:=h.factor (r:=c) (a2H c (gr n f) (gy n f y)) ⟨fun i j=>if i=j then 1 else 0,fun i hi j hj=>by
  unfold mul;rw[a1U i hi fun x _ hx=>by simp[Ne.symm hx]];simp⟩
 have h0:∀j,j<c->sm c (fun i=>gr n f j i*a k i)=0:=fun j hj=>by
  have h1:=ha k hkn j (by omega);rw[hr.left k hk j (by omega)]at h1;unfold mul at h1;rw[h1];exact a0k fun i _=>by simp[a2H,show j≠c by omega];rw[b4V];grind
 have h1:=a8l.1 (show Nul c c (gr n f) (a k)from h0);have h2:=ha k hkn c (by omega);have h3:=hr.one k hk;rw[hkc]at h3;rw[h3]at h2;unfold mul at h2;rw[a0k (g:=fun i=>sm n fun r=>y r*(f r i*a k i)) fun i _=>by
  simp only[a2H,if_true];unfold gy;rw[<-a2Z];exact a0k fun r _=>by grind]at h2
 rw[a5e,a2U fun r hr=>by rw[a2Z,h1 r hr];grind]at h2;grind
theorem b3x {n c:Nat} {f g r:F2} {y:Nat->Rat} {p q:List Nat} {d e:Rat} (hg:Rref n c g p) (he:RE n c f g e) (hr:Rref c (c+1) r q) (h:RE c (c+1) (a2H c (gr n f) (gy n f y)) r d):
  q=p/\NS n c f y (b0f r q c)/\∀j,j<c->j∉p->b0f r q c j=0:=by
 have hc:=b0g hr h;have hd:=hr.drop hc;have hqp:q=p:=hd.piv2 hg fun x=>((b1C h x).symm.trans a8l).trans (he.nul x);refine⟨hqp,b4U hr h hc,fun j _ hp=>?_⟩;unfold b0f;rw[a4O (by rw[hqp];exact hp)]
def usd (f:F2) (p:List Nat):F2:=fun r a=>f r (p.getD a 0)
def b4p (p:List Nat) (z:Nat->Rat):Nat->Rat:=fun j=>match p.findIdx? (· ==j)with|some a=>z a|none=>0
theorem a8m {n c:Nat} {g:F2} {p:List Nat} (hg:Rref n c g p) (z:Nat->Rat) (a:Nat) (ha:a<p.length):b4p p z p[a]=z a:=by
 unfold b4p;rw[hg.idx a ha]
theorem a6O {p:List Nat} (z:Nat->Rat) {j:Nat} (hj:j∉p):b4p p z j=0:=by
 unfold b4p;rw[a4O hj]
theorem b4W {n c:Nat} {g:F2} {p:List Nat} (hg:Rref n c g p) (F:Nat->Rat) (h0:∀j,j<c->j∉p->F j=0):sm c F=sm p.length fun a=>F (p.getD a 0):=by
 have hp:∀k (hk:k<p.length),p.getD k 0=p[k]:=fun k hk=>by simp[List.getD_eq_getElem?_getD,hk]
 have e:∀j,j<c->F j=sm p.length fun a=>if j=p.getD a 0 then F j else 0:=fun j hj=>by
  by_cases hjp:j∈p
  ·obtain⟨k,hk,rfl⟩:=List.getElem_of_mem hjp
   rw[a1U k hk fun i hi hik=>by
    rw[hp i hi,if_neg];intro e2;rcases Nat.lt_or_gt_of_ne hik with a|a
    ·have:=hg.inc i k a hk;omega
    ·have:=hg.inc k i a hi;omega]
   rw[hp k hk,if_pos rfl]
  ·rw[h0 j hj hjp,a2U fun i hi=>by split<;>rfl]
 rw[a0k e,a5e];exact a0k fun a ha=>by
  rw[hp a ha,a1U p[a] (hg.lt a ha) fun j _ hj=>by rw[if_neg hj],if_pos rfl]
theorem b1D {n c:Nat} {f g:F2} {p:List Nat} (hg:Rref n c g p) (z:Nat->Rat) (r:Nat):app c f (b4p p z) r=app p.length (usd f p) z r:=by
 unfold app;rw[b4W hg _ fun j _ hj=>by rw[a6O z hj];grind];exact a0k fun a ha=>by
  have hp:p.getD a 0=p[a]:=by simp[List.getD_eq_getElem?_getD,ha]
  unfold usd;rw[hp,a8m hg z a ha]
theorem b4X {n c:Nat} {f g:F2} {p:List Nat} {d:Rat} (hg:Rref n c g p) (he:RE n c f g d) {z:Nat->Rat} (hz:Nul n p.length (usd f p) z) (a:Nat) (ha:a<p.length):z a=0:=by
 have h1:Nul n c f (b4p p z):=fun r hr=>(b1D (f:=f) hg z r).trans (hz r hr);have:=b1B hg he h1 (fun j _ hj=>a6O z hj) p[a] (hg.lt a ha);rwa[a8m hg z a ha]at this
def Inv (m:Nat) (G v:F2):Prop:=(∀a,a<m->∀b,b<m->sm m (fun k=>G a k*v k b)=if a=b then 1 else 0)/\∀a,a<m->∀b,b<m->sm m (fun k=>v a k*G k b)=if a=b then 1 else 0
def hat (m:Nat) (u v:F2):F2:=fun i j=>sm m fun a=>u i a*sm m fun b=>v a b*u j b
open Go.Lim
def HB (B:Nat) (m:Mat):Prop:=∀i j,hq (ent m i j)<=B
theorem HB.pos {B:Nat} {m:Mat} (h:HB B m):1<=B:=Nat.le_trans (a6C _) (h 0 0)
theorem HB.mono {B C:Nat} {m:Mat} (h:HB B m) (hBC:B<=C):HB C m:=fun i j=>Nat.le_trans (h i j) hBC
theorem HB.swap {n c B:Nat} {m:Mat} (h:HB B m) (hs:Shp n c m) {i k:Nat} (hi:i<n) (hk:k<n):HB B (a1f m i k):=fun r j=>by
 rw[a3A hs hi hk];split
 ·exact h _ _
 ·split
  ·exact h _ _
  ·exact h _ _
theorem b3y {x y z u:Rat} {B:Nat} (hx:hq x<=B) (hy:hq y<=B) (hz:hq z<=B) (hu:hq u<=B):hq (y/z)<=2*B/\hq (y/z*u)<=3*B/\hq (x - y/z*u)<=5*B:=by
 have h1:=hq_div y z;have h2:=hq_mul (y/z) u;have h3:=a9O x (y/z*u);have h4:=a6C x;omega
theorem HB.clear {n c B:Nat} {m:Mat} (h:HB B m) (hs:Shp n c m) {t:Nat} (ht:t<n) (col s:Nat):HB (5*B) (clear m t col s):=fun i j=>by
 rw[a4d hs ht];split
 ·exact(b3y (h _ _) (h _ _) (h _ _) (h _ _)).2.2
 ·have:=h i j;omega
theorem HB.eN {n c B:Nat} {m:Mat} (h:HB B m) (hs:Shp n c m) (k:Nat):HB (5^(eN m k).2.1.length*B) (eN m k).1:=by
 induction k with
 |zero=>simpa[Lin.eN]using h
 |succ k ih=>
  have hk:=a4K hs k
  show HB (5^(a5g (Lin.eN m k) k).2.1.length*B) (a5g (Lin.eN m k) k).1
  generalize Lin.eN m k=s at ih hk |-;obtain⟨M,p,odd⟩:=s;have hM:Shp n c M:=hk.shp;have hl:=hM.1;have hle:p.length<=n:=hk.ech.le;unfold a5g
  dsimp only at ih |-
  split
  ·exact ih
  ·split
   ·exact ih
   ·rename_i e _ q hz
    obtain⟨h1,h2⟩:=a3p hz;have:=(ih.swap hM (show p.length<n by omega) (show p.length+q<n by omega)).clear (hM.swap (by omega) (by omega)) (show p.length<n by omega) k M.length;refine this.mono ?_;rw[List.length_append,List.length_singleton,Nat.pow_succ,Nat.mul_comm _ 5,Nat.mul_assoc];exact Nat.le_refl _
theorem HB.divL {n c B:Nat} {m:Mat} (h:HB B m) (hs:Shp n c m) {i:Nat} (hi:i<n) (col:Nat):HB (2*B) (divL m i col):=fun k j=>by
 rw[a2V hs hi];split
 ·have:=hq_div (ent m i j) (ent m i col);have:=h i j;have:=h i col;omega
 ·have:=h k j;omega
theorem b1E {x y z u:Rat} {B:Nat} (hx:hq x<=B) (hy:hq y<=B) (hz:hq z<=2*B) (hu:hq u<=2*B):hq (y/z)<=3*B/\hq (y/z*u)<=5*B/\hq (x - y/z*u)<=7*B:=by
 have h1:=hq_div y z;have h2:=hq_mul (y/z) u;have h3:=a9O x (y/z*u);have h4:=a6C x;omega
theorem HB.dStep {n c B:Nat} {m:Mat} (h:HB B m) (hs:Shp n c m) {t:Nat} (ht:t<n) (col s:Nat):HB (7*B) (above (Lin.divL m t col) t col s):=fun i j=>by
 have hd:=hs.divL ht col;have h2:=h.divL hs ht col;rw[a4e hd ht];split
 ·refine(b1E ?_ ?_ (h2 _ _) (h2 _ _)).2.2
  ·rw[a2V hs ht,if_neg (by omega)];exact h _ _
  ·rw[a2V hs ht,if_neg (by omega)];exact h _ _
 ·have:=h2 i j;omega
theorem HB.dN {n c B:Nat} {m:Mat} {p:List Nat} (h:HB B m) (hs:Shp n c m) (he:Ech n c (ent m) p) (t:Nat) (ht:t<=p.length):HB (7^t*B) (dN m p t):=by
 induction t with
 |zero=>simpa[Lin.dN]using h
 |succ t ih=>
  have hk:=b3u hs he t (by omega);have hle:=he.le;refine((ih (by omega)).dStep hk.shp (show t<n by omega) (p.getD t 0) t).mono ?_;rw[Nat.pow_succ,Nat.mul_comm _ 7,Nat.mul_assoc];exact Nat.le_refl _
theorem HB.pv {n c B:Nat} {m:Mat} (h:HB B m) (hs:Shp n c m) {i:Nat} (hi:i<n) (col:Nat):HB (3*B) (pv m i col):=fun k j=>by
 rw[a9Z hs hi];split
 ·have h1:=hq_mul (ent m i j) (1/ent m i col);have h2:=hq_div 1 (ent m i col);have:=h i j;have:=h i col;have:=a6C (ent m i j)
  have h3:hq 1=1:=by decide+kernel
  omega
 ·have:=h k j;omega
theorem HB.out {n c B:Nat} {m:Mat} (h:HB B m) (hs:Shp n c m) {t:Nat} (ht:t<n) (col s:Nat):HB (6*B) (Lin.out (Lin.pv m t col) t col s):=fun i j=>by
 have hd:=hs.pv ht col;have h2:=h.pv hs ht col;rw[a8i hd ht];split
 ·rename_i a
  have e:∀j,ent (Lin.pv m t col) i j=ent m i j:=fun j=>by rw[a9Z hs ht,if_neg a.1]
  rw[e,e];have h3:=hq_mul (ent (Lin.pv m t col) t j) (- ent m i col);have h4:=a8b (ent m i j) (ent (Lin.pv m t col) t j* - ent m i col);rw[a8c]at h3;have:=h2 t j;have:=h i j;have:=h i col;have:=h.pos;omega
 ·have:=h2 i j;omega
theorem HB.rN {n c B:Nat} {m:Mat} (h:HB B m) (hs:Shp n c m) (k:Nat):HB (6^(rN m k).2.1.length*B) (rN m k).1/\hq (rN m k).2.2<=6^(rN m k).2.1.length*B:=by
 induction k with
 |zero=>exact⟨by simpa[Lin.rN]using h,by simp[Lin.rN];exact h.pos⟩
 |succ k ih=>
  have hk:=b0a hs k
  show HB (6^(a6J (Lin.rN m k) k).2.1.length*B) (a6J (Lin.rN m k) k).1/\hq (a6J (Lin.rN m k) k).2.2<=6^(a6J (Lin.rN m k) k).2.1.length*B
  generalize Lin.rN m k=s at ih hk |-;obtain⟨M,p,fac⟩:=s;have hM:Shp n c M:=hk.shp;have hl:=hM.1;have hle:p.length<=n:=hk.ref.le;unfold a6J
  dsimp only at ih |-
  split
  ·exact ih
  ·rename_i e q hz
   obtain⟨h1,h2⟩:=a3p hz;have hsw:=(ih.1.swap hM (show p.length+q<n by omega) (show p.length<n by omega));have:=hsw.out (hM.swap (by omega) (by omega)) (show p.length<n by omega) k M.length;have he:6*(6^p.length*B)=6^(p++[k]).length*B:=by
    rw[List.length_append,List.length_singleton,Nat.pow_succ,Nat.mul_comm _ 6,Nat.mul_assoc]
   refine⟨this.mono (Nat.le_of_eq he),?_⟩
   dsimp only
   rw[<-he];have h3:=hsw p.length k;have h4:hq (if q=0 then fac else -fac)<=6^p.length*B:=by
    split
    ·exact ih.2
    ·rw[a8c];exact ih.2
   have h5:=hq_mul (if q=0 then fac else -fac) (ent (a1f M (p.length+q) p.length) p.length k);omega
def a9x (m:Mat) (c:Nat):Prop:=∃B,7*B<=68719476736/\(∀j,j<=c->HB B (eN m j).1)/\∀t,t<=(eN m c).2.1.length->HB B (dN (eN m c).1 (eN m c).2.1 t)
theorem a5h (a:Nat) {i n:Nat} (ha:0<a) (h:i<=n):a^i<=a^n:=Nat.pow_le_pow_right ha h
theorem b3z {n c B:Nat} {m:Mat} (hs:Shp n c m) (h:HB B m) (hB:7*(35^n*B)<=68719476736):a9x m c:=by
 have hle:∀j,(eN m j).2.1.length<=n:=fun j=>(a4K hs j).ech.le;refine⟨35^n*B,hB,fun j _=>(h.eN hs j).mono (Nat.mul_le_mul_right _ ?_),fun t ht=>(((h.eN hs c).dN (a4K hs c).shp (a4K hs c).ech t ht)).mono ?_⟩
 ·exact Nat.le_trans (a5h 5 (by omega) (hle j)) (Nat.pow_le_pow_left (by omega) n)
 ·rw[<-Nat.mul_assoc]
  refine Nat.mul_le_mul_right _ ?_;rw[show(35:Nat)=7*5 from rfl,Nat.mul_pow];exact Nat.mul_le_mul (a5h 7 (by omega) (Nat.le_trans ht (hle c))) (a5h 5 (by omega) (hle c))
def b3A (m:Mat) (c:Nat):Prop:=∃B,7*B<=68719476736/\∀j,j<=c->HB B (eN m j).1
theorem a9x.e {m:Mat} {c:Nat} (h:a9x m c):b3A m c:=let ⟨B,h1,h2,_⟩:=h;⟨B,h1,h2⟩
def a2y (m:Mat) (b:List Rat) (n:Nat):Mat:=(List.range n).map fun i=>m.getD i []++[b.getD i 0]
theorem a1V {m:Mat} {b:List Rat} {n c:Nat} (hs:Shp n c m):Shp n (c+1) (a2y m b n):=⟨by simp[a2y],fun r hr=>by
 obtain⟨i,hi,rfl⟩:=List.mem_map.1 hr;rw[List.length_append,hs.row (List.mem_range.1 hi)];rfl⟩
theorem b0h {m:Mat} {b:List Rat} {n i:Nat} (h:i<(a2y m b n).length) (hi:i<m.length) (hb:i<b.length):(a2y m b n)[i]=m[i]++[b[i]]:=by
 simp[a2y,hi,hb,List.getD_eq_getElem?_getD]
theorem a6P {m:Mat} {b:List Rat} {n c:Nat} (hs:Shp n c m):Eqm n (c+1) (ent (a2y m b n)) (a2H c (ent m) fun i=>b.getD i 0):=fun i hi j hj=>by
 have hr:=hs.row hi;have e:(a2y m b n).getD i []=m.getD i []++[b.getD i 0]:=by simp[a2y,List.getD_eq_getElem?_getD,hi]
 show((a2y m b n).getD i []).getD j 0=_
 unfold a2H;rw[e,List.getD_eq_getElem?_getD];by_cases h:j=c
 ·rw[if_pos h,List.getElem?_append_right (by omega),hr];subst h;simp
 ·rw[if_neg h,List.getElem?_append_left (by omega),<-List.getD_eq_getElem?_getD];rfl
theorem a8n (k:Nat):eN [] k=([],[],false):=by
 induction k with
 |zero=>rfl
 |succ k ih=>unfold eN;rw[ih];rfl
theorem a8o (k:Nat):a1i [] k=([],[]):=by unfold a1i;rw[a8n];rfl
theorem b0i {n c:Nat} {m:Mat} (hs:Shp n c m) (c':Nat) (h:0<n->c'=c):a1i m c'=a1i m c:=by
 by_cases h0:n=0
 ·have:m= []:=List.eq_nil_of_length_eq_zero (by rw[hs.1];exact h0)
  subst this;rw[a8o,a8o]
 ·rw[h (by omega)]
theorem b0j {n c:Nat} {m:Mat} (hs:Shp n c m) (c':Nat) (h:0<n->c'=c) (hT:a9x m c):a9x m c':=by
 by_cases h0:n=0
 ·have:m= []:=List.eq_nil_of_length_eq_zero (by rw[hs.1];exact h0)
  subst this;obtain⟨B,h1,h2,_⟩:=hT;have h3:=h2 0 (Nat.zero_le _);rw[a8n]at h3;refine⟨B,h1,fun j _=>by rw[a8n];exact h3,fun t ht=>?_⟩;rw[a8n]at ht |-;have:t=0:=by simpa using ht
  subst this;exact h3
 ·rw[h (by omega)];exact hT
def sN (R:Mat) (p:List Nat) (c:Nat):Nat->List Rat
 |0=>List.replicate c 0
 |i+1=>(sN R p c i).set (p.getD i 0) (ent R i c)
theorem a8p (R:Mat) (p:List Nat) (c i:Nat):(sN R p c i).length=c:=by
 induction i with
 |zero=>exact List.length_replicate
 |succ i ih=>show((sN R p c i).set _ _).length=c;rw[List.length_set,ih]
theorem b4Y {n c:Nat} {R:Mat} {p:List Nat} (hr:Rref n (c+1) (ent R) p) (i:Nat) (hi:i<=p.length) (x:Nat) (hx:x<c):(sN R p c i).getD x 0=match p.findIdx? (· ==x)with|some k=>if k<i then ent R k c else 0|none=>0:=by
 induction i with
 |zero=>
  show(List.replicate c (0:Rat)).getD x 0=_
  have:(List.replicate c (0:Rat)).getD x 0=0:=by simp[List.getD_eq_getElem?_getD,hx]
  rw[this];cases p.findIdx? (· ==x)<;>simp
 |succ i ih=>
  have hip:i<p.length:=by omega
  have hpi:p.getD i 0=p[i]:=by simp[List.getD_eq_getElem?_getD,hip]
  show((sN R p c i).set (p.getD i 0) (ent R i c)).getD x 0=_
  rw[hpi,List.getD_eq_getElem?_getD,List.getElem?_set,a8p];by_cases h:p[i]=x
  ·rw[if_pos h,if_pos (by omega),<-h,hr.idx i hip];simp
  ·rw[if_neg h,<-List.getD_eq_getElem?_getD,ih (by omega)]
   cases hf:p.findIdx? (· ==x)with
   |none=>rfl
   |some k=>
    have hk:=List.findIdx?_eq_some_iff_getElem.1 hf;obtain⟨hk1,hk2,_⟩:=hk;have hki:k≠i:=by rintro rfl;exact h (by simpa using hk2)
    dsimp only
    by_cases h2:k<i
    ·rw[if_pos h2,if_pos (by omega)]
    ·rw[if_neg h2,if_neg (by omega)]
def b2E (R:Mat) (p:List Nat) (c:Nat):List Rat:=sN R p c p.length
theorem a8q {n c:Nat} {R:Mat} {p:List Nat} (hr:Rref n (c+1) (ent R) p) (x:Nat) (hx:x<c):(b2E R p c).getD x 0=b0f (ent R) p c x:=by
 unfold b2E b0f;rw[b4Y hr _ (Nat.le_refl _) x hx];cases hf:p.findIdx? (· ==x)with
 |none=>rfl
 |some k=>
  obtain⟨hk1,_⟩:=List.findIdx?_eq_some_iff_getElem.1 hf
  dsimp only
  rw[if_pos hk1]
def a4P (l m:List Rat):Nat->Rat
 |0=>0
 |k+1=>a4P l m k+l.getD k 0*m.getD k 0
def a3q (l m:List Rat):Rat:=a4P l m l.length
theorem a7A (l m:List Rat) (k:Nat):a4P l m k=sm k fun q=>l.getD q 0*m.getD q 0:=by
 induction k with
 |zero=>rfl
 |succ k ih=>unfold a4P sm;rw[ih]
theorem b3B {l m:List Rat} {B:Nat} (hl:Go.Rep.BR B l) (hm:Go.Rep.BR B m) (hB:1<=B) (k:Nat):hq (a4P l m k)<=1+k*(2*B+1):=by
 have hg:∀(x:List Rat),Go.Rep.BR B x->∀q,hq (x.getD q 0)<=B:=fun x hx q=>by
  by_cases h:q<x.length
  ·rw[List.getD_eq_getElem?_getD,List.getElem?_eq_getElem h];exact hx _ (List.getElem_mem h)
  ·rw[List.getD_eq_getElem?_getD,List.getElem?_eq_none (by omega)]
   show hq 0<=B
   rw[a0Q];exact hB
 induction k with
 |zero=>show hq 0<=_;rw[a0Q];omega
 |succ k ih=>
  have h1:=hq_mul (l.getD k 0) (m.getD k 0);have h2:=a8b (a4P l m k) (l.getD k 0*m.getD k 0);have h3:=hg l hl k;have h4:=hg m hm k
  show hq (a4P l m k+l.getD k 0*m.getD k 0)<=_
  rw[Nat.add_mul,Nat.one_mul];omega
def trL (m:Mat) (n c:Nat):Mat:=(List.range c).map fun q=>(List.range n).map fun p=>ent m p q
def trN (m:Mat) (n c i j:Nat):Mat:=(List.range c).map fun q=>(List.range n).map fun p=>if p<i\/(p=i/\q<j)then ent m p q else 0
theorem b1F (m:Mat) (n c:Nat):trN m n c 0 0=List.replicate c (List.replicate n 0):=by
 refine List.ext_getElem (by simp[trN]) fun q h1 h2=>List.ext_getElem (by simp[trN]) fun p h3 h4=>by simp[trN]
theorem b1G (m:Mat) (n c i:Nat):trN m n c i c=trN m n c (i+1) 0:=by
 refine List.ext_getElem (by simp[trN]) fun q h1 h2=>List.ext_getElem (by simp[trN]) fun p h3 h4=>?_;simp[trN]at h1;simp only[trN,List.getElem_map,List.getElem_range];by_cases a:p<i
 ·rw[if_pos (.inl a),if_pos (.inl (by omega))]
 ·by_cases b:p=i
  ·rw[if_pos (.inr ⟨b,by omega⟩),if_pos (.inl (by omega))]
  ·rw[if_neg (by omega),if_neg (by omega)]
theorem b1H (m:Mat) (n c:Nat):trN m n c n 0=trL m n c:=by
 refine List.ext_getElem (by simp[trN,trL]) fun q h1 h2=>List.ext_getElem (by simp[trN,trL]) fun p h3 h4=>?_;simp[trN]at h3;simp only[trN,trL,List.getElem_map,List.getElem_range];rw[if_pos (.inl h3)]
theorem b3C (m:Mat) (n c i j:Nat):(trN m n c i j).length=c:=by simp[trN]
theorem a6f (m:Mat) (n c i j q:Nat) (h:q<(trN m n c i j).length):(trN m n c i j)[q].length=n:=by simp[trN]
theorem b3D {m:Mat} {n c i j:Nat} (h:j<(trN m n c i j).length):(trN m n c i j).set j ((trN m n c i j)[j].set i (ent m i j))=trN m n c i (j+1):=by
 refine List.ext_getElem (by simp[trN]) fun q h1 h2=>List.ext_getElem ?_ fun p h3 h4=>?_
 ·rw[List.getElem_set];split<;>simp[trN]
 ·simp only[List.getElem_set]
  by_cases a:j=q
  ·subst a
   simp only[if_true,List.getElem_set];by_cases b:i=p
   ·subst b;simp[trN]
   ·rw[if_neg b]
    simp only[trN,List.getElem_map,List.getElem_range];by_cases d:p<i
    ·rw[if_pos (.inl d),if_pos (.inl d)]
    ·rw[if_neg (by omega),if_neg (by omega)]
  ·simp only[a,if_false]
   simp only[trN,List.getElem_map,List.getElem_range];by_cases d:p<i
   ·rw[if_pos (.inl d),if_pos (.inl d)]
   ·by_cases b:p=i/\q<j
    ·rw[if_pos (.inr b),if_pos (.inr (by omega))]
    ·rw[if_neg (by omega),if_neg (by omega)]
theorem a2j (m:Mat) (n c:Nat):Shp c n (trL m n c):=⟨by simp[trL],fun r hr=>by
 obtain⟨q,_,rfl⟩:=List.mem_map.1 hr;simp⟩
theorem a7B (m:Mat) (n c:Nat):Eqm c n (ent (trL m n c)) fun i j=>ent m j i:=fun i hi j hj=>by
 simp[ent,trL,List.getD_eq_getElem?_getD,hi,hj]
theorem b2F {m:Mat} {n c B:Nat} (h:HB B m):HB B (trL m n c):=fun i j=>by
 by_cases hi:i<c
 ·by_cases hj:j<n
  ·rw[a7B m n c i hi j hj];exact h j i
  ·rw[a1s (a2j m n c) (.inr (by omega)),a0Q];exact h.pos
 ·rw[a1s (a2j m n c) (.inl (by omega)),a0Q];exact h.pos
def a3B (m:Mat) (v:List Rat):List Rat:=m.map fun r=>a3q r v
def a5n (a b:Mat) (n c:Nat):Mat:=a.map fun r=>a3B (trL b n c) r
theorem a6g (m:Mat) (v:List Rat):(a3B m v).length=m.length:=by simp[a3B]
theorem b1I {a b:Mat} {k n c:Nat} (ha:a.length=k):Shp k c (a5n a b n c):=⟨by simp[a5n,ha],fun r hr=>by
 obtain⟨x,_,rfl⟩:=List.mem_map.1 hr;simp[a3B,trL]⟩
theorem b1J {a b:Mat} {k n c:Nat} (ha:Shp k n a):Eqm k c (ent (a5n a b n c)) (mul n (ent a) (ent b)):=fun i hi j hj=>by
 have hil:i<a.length:=by rw[ha.1];exact hi
 have hrl:(a[i]).length=n:=ha.2 _ (List.getElem_mem _);have e1:ent (a5n a b n c) i j=a3q ((trL b n c).getD j []) (a[i]):=by
  unfold ent a5n;rw[List.getD_eq_getElem?_getD (l:=List.map _ _),List.getElem?_map,List.getElem?_eq_getElem hil];have hj2:j<(trL b n c).length:=by simp[trL,hj]
  simp[a3B,List.getD_eq_getElem?_getD,hj2]
 rw[e1];unfold a3q;rw[(a2j b n c).row hj,a7A];unfold mul;refine a0k fun q hq=>?_;have e2:=a7B b n c j hj q hq;unfold ent at e2 |-;rw[e2,show a.getD i []=a[i]by simp[List.getD_eq_getElem?_getD,hil]];grind
theorem b3E {m:Mat} {v:List Rat} {n c:Nat} (hs:Shp n c m) (i:Nat) (hi:i<n):(a3B m v).getD i 0=sm c fun j=>ent m i j*v.getD j 0:=by
 have hil:i<m.length:=by rw[hs.1];exact hi
 have hrl:(m[i]).length=c:=hs.2 _ (List.getElem_mem _);have e:(a3B m v).getD i 0=a3q m[i] v:=by simp[a3B,List.getD_eq_getElem?_getD,hil]
 rw[e];unfold a3q;rw[hrl,a7A];unfold ent;rw[show m.getD i []=m[i]by simp[List.getD_eq_getElem?_getD,hil]]
noncomputable def b5H (m:Mat) (n:Nat):Rat:=if(eN m n).2.2 then - pr n (fun i=>ent (eN m n).1 i i)else pr n (fun i=>ent (eN m n).1 i i)
theorem a8r {n:Nat} {m:Mat} (hn:n<=4) (hs:Shp n n m):b5H m n=det n (ent m):=by
 have hk:=a4K hs n;have h1:=hk.ech.det hn;have h2:=hk.re.det_same hn;unfold b5H;rw[<-h1,h2];split<;>grind
noncomputable def a6Q (m:Mat) (c:Nat):Nat:=(eN m c).2.1.length
theorem a6R (m:Mat) (c:Nat):a6Q m c=(a1i m c).2.length:=rfl
theorem b0k {n:Nat} {m:Mat} (hn:n<=4) (hs:Shp n n m):a6Q m n=n↔b5H m n≠0:=by
 rw[a8r hn hs,a6R];obtain⟨h1,h2,d,h3⟩:=a0X hs (c:=n);have h4:=h3.det_same hn;have h5:=h2.det hn;have h6:=h3.ne;by_cases e:(a1i m n).2.length=n
 ·rw[if_pos e]at h5
  refine⟨fun _ h=>?_,fun _=>e⟩;rw[h5,h]at h4;grind
 ·rw[if_neg e]at h5
  refine⟨fun h=>absurd h e,fun h=>?_⟩;rw[h5]at h4;rcases Rat.mul_eq_zero.1 h4.symm with h7|h7
  ·exact absurd h7 h6
  ·exact absurd h7 h
end Go.Lin
namespace Go.Lim
theorem a6h (a b:Nat):(a3a a b==0)=decide (a=b):=by
 rw[Bool.eq_iff_iff];simp only[beq_iff_eq,decide_eq_true_eq];exact b2W a b
end Go.Lim
namespace Go.Proofs.YtkddecjkfdogiaaGreat
open Go.RowKit Go.Rep Go.Lim
set_option maxRecDepth 100000 in
theorem b2G (X:Nat->Bool) (w:World) (s:Bool) (ao bo:Option Addr) (c e:Nat) (m d:List Nat) (hX:HX X w) (hm:Sl (a0b .u32) 1 (mk X w) ao m) (hd:Sl (a0b .u32) 1 (mk X w) bo d) (hml:m.length<=68719476736) (hdl:d.length<=68719476736) (hmd:Dig m) (hdd:Dig d) (hmc:m.length<=c) (hdc:d.length<=e):
  Calls Tryz.prog 228 #[.agg #[.bool s, .slice ao m.length c, .slice bo d.length e]] w (a9V w (a1K s m d)):=by
 obtain⟨W,hW,hE,b0,hz⟩:=a1L w #[.bool s, .slice ao m.length c, .slice bo d.length e] 32;have hXW:HX X W:=hX.ext hE;have hmW:=hm.mono (a0b.mono _) (a0o hE);have hdW:=hd.mono (a0b.mono _) (a0o hE);obtain⟨b,hb⟩:∃b,w.heap.size=b:=⟨_,rfl⟩;rw[hb]at b0 hz;have k00:=b0.cell 0 rfl;have k01:=b0.cell 1 rfl;have k02:=b0.cell 2 rfl;have hdef:Hid (a1K s m d=(a1g s m&&a1n d&&(decide (d.length=0)||(decide (0<m.length)&& !(nv d==1)&&(Nat.gcd (nv m) (nv d)==1))))):=hid rfl;clear hX hm hd hz;cases hv:a1g s m
 ·have hf:Hid (a1K s m d=false):=hid (by rw[hdef.out,hv];rfl)
  have hv':=hid hv;clear hv hdef;go_enter Tryz.func228,Tryz.ntmps228
  go_wp2_with fail
  refine(a5B X W s ao c m hmW (by omega)).mono ?_;rintro e w1 ⟨hE1,rfl⟩;rw[hv'.out];clear k00 k01 k02;go_wp2_with fail
  go_ret
  exact⟨hE.trans hE1,a0l hf.out.symm⟩
 ·cases hl:a1n d
  ·have hf:Hid (a1K s m d=false):=hid (by rw[hdef.out,hv,hl];rfl)
   have hv':=hid hv;have hl':=hid hl;clear hv hdef hl;go_enter Tryz.func228,Tryz.ntmps228
   go_wp2_with fail
   refine(a5B X W s ao c m hmW (by omega)).mono ?_;rintro e w1 ⟨hE1,rfl⟩;rw[hv'.out];have j02:=(b0.ext0 hE1).cell 2 rfl;have hd1:=hdW.mono (a0b.mono _) (a0o hE1);clear k00 k01 k02;go_wp2_with fail
   refine(a1T X _ _ _ _ hd1 (by omega)).mono ?_;rintro e w2 ⟨rfl,rfl⟩;rw[hl'.out];clear j02;go_wp2_with fail
   go_ret
   exact⟨hE.trans hE1,a0l hf.out.symm⟩
  ·have hf:Hid (a1K s m d=(decide (d.length=0)||(decide (0<m.length)&& !(nv d==1)&&(Nat.gcd (nv m) (nv d)==1)))):=hid (by rw[hdef.out,hv,hl];rfl)
   have hv':=hid hv;have hl':=hid hl;have hmv:a1n m=true:=by unfold a1g at hv;simp at hv;exact hv.1
   have hcm:=hid (show a0A m (nv m)from⟨hmd,hmv,rfl⟩);have hcd:=hid (show a0A d (nv d)from⟨hdd,hl,rfl⟩);clear hv hdef hl hmv;by_cases h0:d.length=0
   ·have hf2:Hid (a1K s m d=true):=hid (by rw[hf.out,decide_eq_true h0];rfl)
    obtain rfl:d= []:=List.eq_nil_of_length_eq_zero h0;clear h0 hf;simp only[List.length_nil]at hW b0 k02 |-;go_enter Tryz.func228,Tryz.ntmps228
    go_wp2_with fail
    refine(a5B X W s ao c m hmW (by omega)).mono ?_;rintro e w1 ⟨hE1,rfl⟩;rw[hv'.out];have j02:=(b0.ext0 hE1).cell 2 rfl;have hd1:=hdW.mono (a0b.mono _) (a0o hE1);clear k00 k01 k02;go_wp2_with fail
    refine(a1T X _ [] _ _ hd1 (by simp)).mono ?_;rintro e w2 ⟨rfl,rfl⟩;rw[hl'.out];go_wp2_with fail
    go_ret
    exact⟨hE.trans hE1,a0l hf2.out.symm⟩
   ·have hdI:((d.length:Int)==0)=false:=a3E (by omega)
    have hfd:Hid (a1K s m d=(decide (0<m.length)&& !(nv d==1)&&(Nat.gcd (nv m) (nv d)==1))):=hid (by rw[hf.out,decide_eq_false h0];rfl);clear hf;go_enter Tryz.func228,Tryz.ntmps228
    go_wp2_with fail
    refine(a5B X W s ao c m hmW (by omega)).mono ?_;rintro e' w1 ⟨hE1,rfl⟩;rw[hv'.out];have b1:=b0.ext0 hE1;have j02:=b1.cell 2 rfl;have j01:=b1.cell 1 rfl;have hd1:=hdW.mono (a0b.mono _) (a0o hE1);have hm1:=hmW.mono (a0b.mono _) (a0o hE1);have hX1:=hXW.ext hE1;have hmn:NV (mk X w1) (.slice ao m.length c) (nv m):=⟨ao,c,m,rfl,hmc,hmd,by omega,hm1,by unfold val;rw[a0A.vl hcm.out]⟩;have hdn:NV (mk X w1) (.slice bo d.length e) (nv d):=⟨bo,e,d,rfl,hdc,hdd,by omega,hd1,by unfold val;rw[a0A.vl hcd.out]⟩;clear k00 k01 k02;have hB:=hid b1;have hEd:Ext w1 w1.drew:=(ExtX.refl w1).drew;have hXd:HX X w1.drew:=hX1;have hdnd:NV (mk X w1.drew) (.slice bo d.length e) (nv d):=hdn;by_cases hm0:m.length=0
    ·have hf2:Hid (a1K s m d=false):=hid (by rw[hfd.out,decide_eq_false (by omega)];rfl)
     obtain rfl:m= []:=List.eq_nil_of_length_eq_zero hm0;clear hfd hm0 h0;simp only[List.length_nil]at b1 j01 hB |-;go_wp2_with fail
     refine(a1T X _ _ _ _ hd1 (by omega)).mono ?_;rintro e' w2 ⟨rfl,rfl⟩;rw[hl'.out];go_wp2_with fail
     try go_quiet (fail)
     go_wp2_with fail
     go_ret
     exact⟨hE.trans (hE1.trans ((ExtX.refl w1).drewN _)),a0l hf2.out.symm⟩
    ·have hmI:((m.length:Int)==0)=false:=a3E (by omega)
     have hfm:Hid (a1K s m d=(!(nv d==1)&&(Nat.gcd (nv m) (nv d)==1))):=hid (by rw[hfd.out,decide_eq_true (by omega)];rfl);clear hfd hm0 h0;go_wp2_with fail
     refine(a1T X _ _ _ _ hd1 (by omega)).mono ?_;rintro e' w2 ⟨rfl,rfl⟩;rw[hl'.out];go_wp2_with fail
     go_region_held3 (fun w'=>w'.cell? ⟨b,1,none⟩=some (.slice ao m.length c)/\w'.cell? ⟨b,2,none⟩=some (.slice bo d.length e))
      (first|exact⟨(hB.out.ext0 (hEd.trans hE5)).cell 1 rfl,(hB.out.ext0 (hEd.trans hE5)).cell 2 rfl⟩|exact⟨(hB.out.ext0 (hEd.trans (hE5.trans hE6))).cell 1 rfl,(hB.out.ext0 (hEd.trans (hE5.trans hE6))).cell 2 rfl⟩|go_keep)
      (first|(go_at_call 230;(with_reducible refine(b5G X w1.drew hXd).mono ?_);rintro e5 w5 ⟨hE5,u5,rfl,hu5⟩;have hu5n:=hu5.nv (by rw[a3k];decide))|(go_at_call 155;(with_reducible refine(b5N (mkx NV.mono hdnd hE5) hu5n).mono ?_);rintro e6 w6 ⟨hE6,rfl⟩))
     have hE6':=hEd.trans (hE5.trans hE6);have b6:=hB.out.ext0 hE6';have hm6:=mkx NV.mono hmn hE6';have hd6:=mkx NV.mono hdn hE6';have hX6:=hX1.ext hE6';clear j01 j02;have j01:=b6.cell 1 rfl;have j02:=b6.cell 2 rfl;rw[a6h];by_cases h1:nv d=1
     ·have hf2:Hid (a1K s m d=false):=hid (by rw[hfm.out,h1];rfl)
      have hI1:decide (nv d=1)=true:=decide_eq_true h1;rw[hI1];clear h1 hI1 hfm;go_wp2_with fail
      go_ret
      exact⟨hE.trans (hE1.trans hE6'),a0l hf2.out.symm⟩
     ·have hf2:Hid (a1K s m d=decide (Nat.gcd (nv m) (nv d)=1)):=hid (by
       rw[hfm.out,Bool.eq_iff_iff];simp[h1])
      have hI1:decide (nv d=1)=false:=decide_eq_false h1;rw[hI1];clear h1 hI1 hfm;go_wp2_with fail
      refine(b6n hX6 hm6 hd6).mono ?_;rintro e7 w7 ⟨hE7,u7,rfl,hu7⟩;have hX7:=hX6.ext hE7;have hg7:lg (Nat.gcd (nv m) (nv d))<=1099511627776:=by
       have h1:Nat.gcd (nv m) (nv d)<=nv d\/nv d=0:=by
        by_cases h:nv d=0
        ·exact .inr h
        ·exact .inl (Nat.gcd_le_right _ (by omega))
       rcases h1 with h1|h1
       ·exact Nat.le_trans (a1a h1) hdn.lg
       ·rw[h1,Nat.gcd_zero_right];exact hmn.lg
      have hg7':=hid hg7;clear j01 j02 hg7;go_wp2_with fail
      refine(b5G X w7 hX7).mono ?_;rintro e8 w8 ⟨hE8,u8,rfl,hu8⟩;have h7n:=mkx NV.mono (hu7.nv hg7'.out) hE8;go_wp2_with fail
      refine(b5N h7n (hu8.nv (by rw[a3k];decide))).mono ?_;rintro e9 w9 ⟨hE9,rfl⟩;have hcq:Hid ((a3a (Nat.gcd (nv m) (nv d)) 1==0)=a1K s m d):=hid (by rw[a6h,hf2.out]);generalize a3a (Nat.gcd (nv m) (nv d)) 1=cc at*;go_wp2_with fail
      go_ret
      exact⟨hE.trans (hE1.trans (hE6'.trans (hE7.trans (hE8.trans hE9)))),a0l hcq.out⟩
set_option maxRecDepth 100000 in
theorem a4I (X:Nat->Bool) (w:World) (u:Value) (q:Rat) (hX:HX X w) (hu:QV (mk X w) u q):Calls Tryz.prog 170 #[u] w (a2w X w QC q):=by
 obtain⟨s,ao,c,m,bo,e,d,rfl,h1,h2,h3,h4,h5,h6,h7,h8,rfl⟩:=hu;obtain⟨W,hW,hE,b0,b1,hz⟩:=a1Y w #[.bool s, .slice ao m.length c, .slice bo d.length e] #[.bool false, .slice none 0 0, .slice none 0 0] 32 32;have hXW:HX (a0i X w.heap.size 2) W:=hX.boxes hz;have hs1:Sl (a0b .u32) 1 (mk (a0i X w.heap.size 2) W) ao m:=h7.mono (a0b.mono _) (a0s hE);have hs2:Sl (a0b .u32) 1 (mk (a0i X w.heap.size 2) W) bo d:=h8.mono (a0b.mono _) (a0s hE);obtain⟨b,hb⟩:∃b,w.heap.size=b:=⟨_,rfl⟩;have hbw:w.heap.size<=b:=by omega
 rw[hb]at b0 b1 hz hs1 hs2 hXW;have c0:=b0.cell 0 rfl;have c1:=b0.cell 1 rfl;have c2:=b0.cell 2 rfl;cases hv:a1K s m d
 ·have hz0:=hid (a4E hv)
  have hv':=hid hv;clear hv;go_enter Tryz.func170,Tryz.ntmps170
  go_wp2_with fail
  refine(b2G (a0i X b 2) W s ao bo c e m d hXW hs1 hs2 h5 h6 h3 h4 h1 h2).mono ?_;rintro e1 w1 ⟨hE1,rfl⟩;rw[hv'.out];have b1':=b1.ext0 hE1;clear c0 c1 c2;go_wp2_with ((with_reducible show wpList _ _ _ (⟨_, .store _ _ _,_,_,_,_⟩::_) _ _);refine a0c a0w rfl rfl b1' rfl rfl (a3n _ _ _ _ _ _ _) ?_;intro w2 b2 hE2)
  exact bodyPost_ret (a0f rfl rfl a0w b2 rfl) rfl ⟨ExtX.box (hE.trans hE1) hE2 (by omega),_,rfl,by rw[hz0.out];exact QC.zero _⟩
 ·have hv':=hid hv
  clear hv;go_enter Tryz.func170,Tryz.ntmps170
  go_wp2_with fail
  refine(b2G (a0i X b 2) W s ao bo c e m d hXW hs1 hs2 h5 h6 h3 h4 h1 h2).mono ?_;rintro e1 w1 ⟨hE1,rfl⟩;rw[hv'.out];have b0':=b0.ext0 hE1;have b1':=b1.ext0 hE1;clear c0 c1 c2;have c0:=b0'.cell 0 rfl;have c1:=b0'.cell 1 rfl;have c2:=b0'.cell 2 rfl;go_wp2_with ((with_reducible show wpList _ _ _ (⟨_, .store _ _ _,_,_,_,_⟩::_) _ _);refine a0c a0w rfl rfl b1' rfl rfl (a3n _ _ _ _ _ _ _) ?_;intro w2 b2 hE2)
  have hs3:=((hs1.mono (a0b.mono _) (a0o hE1)).mono (a0b.mono _) (a0h hE2 (by omega) (by omega))).mono (a0b.mono _) a0m;have hs4:=((hs2.mono (a0b.mono _) (a0o hE1)).mono (a0b.mono _) (a0h hE2 (by omega) (by omega))).mono (a0b.mono _) a0m;exact bodyPost_ret (a0f rfl rfl a0w b2 rfl) rfl ⟨ExtX.box (hE.trans hE1) hE2 (by omega),_,rfl,s,ao,c,m,bo,e,d,rfl,h1,h2,a4N.of_valid h3 h4 hv'.out,hs3,hs4⟩
theorem _root_.Go.Rep.NC.asZ {M:Mem} {u:Value} {n:Nat} (hu:NC M u n) (hn:lg n<=549755813888):∃ao k c,u= .slice ao k c/\ZV M (.agg #[.bool false, .slice ao k c]) (n:Int):=by
 obtain⟨ao,c,l,rfl,h1,h2,h3⟩:=hu;refine⟨ao,_,c,rfl,false,ao,c,l,rfl,h1,h2.1,by rw[h2.len];exact hn,h3,?_⟩;unfold a5W a1g;rw[h2.2.1,h2.2.2];simp
theorem a3N {X:Nat->Bool} {w w6:World} {b nb:Nat} {x0 x1 x2 y0 y1 y2:Value} {T U:TypeId} (h0:Bx w6 b #[x0,x1,x2] T) (h1:Bx w6 (b+1) #[y0,y1,y2] U) (hE:Ext w w6) (hb:w.heap.size<=b) (hn:2<=nb) (v0 v1 v2 u0 u1 u2:Value):
  ∃wf,((((((w6.setCell ⟨b,0,none⟩ v0).setCell ⟨b,1,none⟩ v1).setCell ⟨b,2,none⟩ v2).setCell ⟨b+1,0,none⟩ u0).setCell ⟨b+1,1,none⟩ u1).setCell ⟨b+1,2,none⟩ u2)=wf/\Bx wf b #[v0,v1,v2] T/\Bx wf (b+1) #[u0,u1,u2] U/\(∀k cs V,k≠b->k≠b+1->Bx w6 k cs V->Bx wf k cs V)/\Ext w wf/\Le (mk (a0i X b nb) w6) (mk (a0i X b nb) wf):=by
 obtain⟨r1,r2⟩:=h0.set3 v0 v1 v2;have h1':=h1.ext r2 (a0e (by omega));obtain⟨r3,r4⟩:=h1'.set3 u0 u1 u2;refine⟨_,rfl,r1.ext r4 (a0e (by omega)),r3,fun k cs V k1 k2 h=>(h.ext r2 (a0e k1)).ext r4 (a0e k2),ExtX.box (ExtX.box hE r2 hb) r4 (by omega),(a0h r2 (Nat.le_refl _) (by omega)).trans (a0h r4 (by omega) (by omega))⟩
theorem a5G (X:Nat->Bool) (w:World) (u v:Value) (x:Int) (n:Nat) (hX:HX X w) (hu:ZC (mk X w) u x) (hv:NC (mk X w) v n) (hx:lg x.natAbs<=549755813888) (hn:lg n<=549755813888):Calls Tryz.prog 172 #[u,v] w (a2w X w ZC (x*n)):=by
 obtain⟨bo,k,e,rfl,hv2⟩:=hv.asZ hn;have huz:=hu.zv hx;obtain⟨s,ao,c,l,rfl,h1,h2,h3⟩:=hu;obtain⟨W,hW,hE,b0,b1,hz⟩:=a1Y w #[.bool s, .slice ao l.length c] #[.bool false, .slice none 0 0] 30 30;have hXW:HX (a0i X w.heap.size 2) W:=hX.boxes hz;have hu1:=ZV.mono _ _ _ _ (a0s (nb:=2) hE) huz;have hv1:=ZV.mono _ _ _ _ (a0s (nb:=2) hE) hv2;obtain⟨b,hb⟩:∃b,w.heap.size=b:=⟨_,rfl⟩;have hbw:w.heap.size<=b:=by omega
 rw[hb]at b0 b1 hz hXW hu1 hv1;have c0:=b0.cell 0 rfl;have c1:=b0.cell 1 rfl;clear hx hn;go_enter Tryz.func172,Tryz.ntmps172
 go_wp2_with fail
 refine(b5F (a0i X b 2) W _ _ _ _ hXW hu1 hv1).mono ?_;rintro e1 w1 ⟨hE1,u1,rfl,s6,a6,c6,l6,rfl,h61,h62,h63⟩;have b1':=b1.ext0 hE1;clear c0 c1;go_wp2_with ((with_reducible show wpList _ _ _ (⟨_, .store _ _ _,_,_,_,_⟩::_) _ _);refine a0c a0C rfl rfl b1' rfl rfl (a2F _ _ _ _) ?_;intro w7 r1 r2)
 have h7:=(h63.mono (a0b.mono _) (a0h r2 (by omega) (by omega))).mono (a0b.mono _) a0m;exact bodyPost_ret (a0f rfl rfl a0C r1 rfl) rfl ⟨ExtX.box (hE.trans hE1) r2 (by omega),_,rfl,s6,a6,c6,l6,rfl,h61,h62,h7⟩
set_option maxRecDepth 100000 in
theorem a4q (X:Nat->Bool) (w:World) (u v:Value) (z:Int) (k:Nat) (hX:HX X w) (hu:ZC (mk X w) u z) (hv:NC (mk X w) v k) (hz:lg z.natAbs<=549755813888) (hk:lg k<=549755813888) (hk0:0<k):Calls Tryz.prog 211 #[u,v] w (a2w X w QC (mkRat z k)):=by
 obtain⟨s,ao,c,l,rfl,h1,h2,h3⟩:=hu;have hvn:=hv.nv (by omega:lg k<=1099511627776);obtain⟨bo,e,m,rfl,g1,g2,g3⟩:=hv;obtain⟨W,hW,hE,b0,b1,hzz⟩:=a1Y w #[.bool s, .slice ao l.length c] #[.bool false, .slice none 0 0, .slice none 0 0] 30 32;have hXW:HX (a0i X w.heap.size 2) W:=hX.boxes hzz;have hu1:NV (mk (a0i X w.heap.size 2) W) (.slice ao l.length c) z.natAbs:=NC.nv ⟨ao,c,l,rfl,h1,h2.2,h3.mono (a0b.mono _) (a0s hE)⟩ (by omega);have hv1:=NV.mono _ _ _ _ (a0s (nb:=2) hE) hvn;obtain⟨b,hb⟩:∃b,w.heap.size=b:=⟨_,rfl⟩;have hbw:w.heap.size<=b:=by omega
 rw[hb]at b0 b1 hzz hXW hu1 hv1;have c0:=b0.cell 0 rfl;have c1:=b0.cell 1 rfl;obtain⟨g,hg⟩:∃g,Nat.gcd z.natAbs k=g:=⟨_,rfl⟩;have hg0:Hid (0<g):=hid (by rw[<-hg];exact Nat.gcd_pos_of_pos_right _ hk0);have hgl:Hid (lg g<=1099511627776):=hid (by rw[<-hg];exact Nat.le_trans (a1a (Nat.gcd_le_right _ hk0)) (by omega));have hlow:=hid (fun(n d:List Nat) (hn:a0A n (z.natAbs/g)) (hd:a0A d (k/g))=>by
  have:=a4N.lowest (s:=s) (z:=z) (k:=k) (n:=n) (d:=d) (by omega) h2.1 (by rw[hg];exact hn) (by rw[hg];exact hd);rw[hg]at this;exact this)
 have hdl:Hid (lg (k/g)<=1099511627776):=hid (Nat.le_trans (a1a (Nat.div_le_self _ _)) (by omega));have hg':=hid hg;clear hz hk hk0 h2 g2 hvn hg;go_enter Tryz.func211,Tryz.ntmps211
 go_wp2_with fail
 refine(b6n hXW hu1 hv1).mono ?_;rintro e1 w1 ⟨hE1,ug,rfl,hug⟩;rw[hg'.out]at hug;have hX1:=hXW.ext hE1;have b01:=b0.ext0 hE1;have j0:=b01.cell 0 rfl;have j1:=b01.cell 1 rfl;clear c0 c1;go_wp2_with fail
 refine(b6p hX1 (mkx NV.mono hu1 hE1) (hug.nv hgl.out) hg0.out).mono ?_;rintro e2 w2 ⟨hE2,qu,ru,rfl,hqu,hru⟩;have hX2:=hX1.ext hE2;have b02:=b01.ext0 hE2;clear j0 j1;go_wp2_with fail
 refine(b6p hX2 (mkx NV.mono hv1 (hE1.trans hE2)) (mkx NV.mono (hug.nv hgl.out) hE2) hg0.out).mono ?_;rintro e3 w3 ⟨hE3,du,ru2,rfl,hdu,hru2⟩;have hX3:=hX2.ext hE3;go_wp2_with fail
 refine(b5G (a0i X b 2) w3 hX3).mono ?_;rintro e4 w4 ⟨hE4,ou,rfl,hou⟩;go_wp2_with fail
 refine(b5N (mkx NV.mono (hdu.nv hdl.out) hE4) (hou.nv (by rw[a3k];decide))).mono ?_;rintro e5 w5 ⟨hE5,rfl⟩;have hcq:Hid ((a3a (k/g) 1==0)=decide (k/g=1)):=hid (a6h _ _);have hqu5:=mkx NC.mono hqu (hE3.trans (hE4.trans hE5));have hdu5:=mkx NC.mono hdu (hE4.trans hE5);have hEE:=hE2.trans (hE3.trans (hE4.trans hE5));have b05:=b01.ext0 hEE;have b15:=b1.ext0 (hE1.trans hEE);have j0:=b05.cell 0 rfl;have j1:=b05.cell 1 rfl;obtain⟨qa,qc,ql,rfl,q1,q2,q3⟩:=hqu5;obtain⟨da,dc,dl,rfl,d1,d2,d3⟩:=hdu5;have hfin:=hid (hlow.out ql dl q2 d2);have hEf:=hE.trans (hE1.trans hEE);clear hqu hdu hru hru2 hou hug hlow q2 d2;by_cases h1':k/g=1
 ·have hf:=hfin.out
  rw[if_pos h1']at hf;have hI:(a3a (k/g) 1==0)=true:=by rw[hcq.out];exact decide_eq_true h1'
  generalize a3a (k/g) 1=cc at*;clear hcq h1' hfin;go_wp2_with ((with_reducible show wpList _ _ _ (⟨_, .store _ _ _,_,_,_,_⟩::_) _ _);refine a0c a0w rfl rfl b15 rfl rfl (a3n _ _ _ _ _ _ _) ?_;intro w7 r1 r2)
  have h7:=(q3.mono (a0b.mono _) (a0h r2 (by omega) (by omega))).mono (a0b.mono _) a0m;exact bodyPost_ret (a0f rfl rfl a0w r1 rfl) rfl ⟨ExtX.box hEf r2 (by omega),_,rfl,s,qa,qc,ql,none,0,[],rfl,q1,Nat.le_refl _,hf,h7,Sl.nil _ _ _ _⟩
 ·have hf:=hfin.out
  rw[if_neg h1']at hf;have hI:(a3a (k/g) 1==0)=false:=by rw[hcq.out];exact decide_eq_false h1'
  generalize a3a (k/g) 1=cc at*;clear hcq h1' hfin;go_wp2_with ((with_reducible show wpList _ _ _ (⟨_, .store _ _ _,_,_,_,_⟩::_) _ _);refine a0c a0w rfl rfl b15 rfl rfl (a3n _ _ _ _ _ _ _) ?_;intro w7 r1 r2)
  have h7:=(q3.mono (a0b.mono _) (a0h r2 (by omega) (by omega))).mono (a0b.mono _) a0m;have h8:=(d3.mono (a0b.mono _) (a0h r2 (by omega) (by omega))).mono (a0b.mono _) a0m;exact bodyPost_ret (a0f rfl rfl a0w r1 rfl) rfl ⟨ExtX.box hEf r2 (by omega),_,rfl,s,qa,qc,ql,da,dc,dl,rfl,q1,d1,hf,h7,h8⟩
theorem b4Z (X:Nat->Bool) (w:World) (v:Int) (hX:HX X w) (h1: -9223372036854775808<=v) (h2:v<=9223372036854775807):Calls Tryz.prog 144 #[.int .i64 v] w (a2w X w QC v):=by
 obtain⟨W,hW,hE,b0,hz⟩:=a1L w #[.bool false, .slice none 0 0, .slice none 0 0] 32;have hXW:HX (a0i X w.heap.size 1) W:=hX.boxes hz;obtain⟨b,hb⟩:∃b,w.heap.size=b:=⟨_,rfl⟩;have hbw:w.heap.size<=b:=by omega
 rw[hb]at b0 hz hXW;have h1':=hid h1;have h2':=hid h2;clear h1 h2;go_enter Tryz.func144,Tryz.ntmps144
 go_wp2_with fail
 refine(b5R (a0i X b 1) W v hXW h1'.out h2'.out).mono ?_;rintro e1 w1 ⟨hE1,u1,rfl,s6,a6,c6,l6,rfl,h61,h62,h63⟩;have b1':=b0.ext0 hE1;have hcq:=a4N.ofInt h62;go_wp2_with ((with_reducible show wpList _ _ _ (⟨_, .store _ _ _,_,_,_,_⟩::_) _ _);refine a0c a0w rfl rfl b1' rfl rfl (a3n _ _ _ _ _ _ _) ?_;intro w7 r1 r2)
 have h7:=(h63.mono (a0b.mono _) (a0h r2 (by omega) (by omega))).mono (a0b.mono _) a0m;exact bodyPost_ret (a0f rfl rfl a0w r1 rfl) rfl ⟨ExtX.box (hE.trans hE1) r2 (by omega),_,rfl,s6,a6,c6,l6,none,0,[],rfl,h61,Nat.le_refl _,hcq,h7,Sl.nil _ _ _ _⟩
set_option maxRecDepth 100000 in
set_option maxHeartbeats 1600000 in
theorem b2H (X:Nat->Bool) (w:World) (u v:Value) (x y:Rat) (hX:HX X w) (hu:QV (mk X w) u x) (hv:QV (mk X w) v y):Calls Tryz.prog 146 #[u,v] w (a2w X w QC (x+y)):=by
 have hlx:=hid hu.hq;have hly:=hid hv.hq;obtain⟨s1,a1,n1,c1,d1,k1,e1,rfl⟩:=hu.shape;obtain⟨s2,a2,n2,c2,d2,k2,e2,rfl⟩:=hv.shape;obtain⟨W,hW,hE,b0,b1,b2,hz⟩:=a3m w #[.bool s1, .slice a1 n1 c1, .slice d1 k1 e1] #[.bool s2, .slice a2 n2 c2, .slice d2 k2 e2] #[.bool false, .slice none 0 0, .slice none 0 0] 32 32 32;have hXW:HX (a0i X w.heap.size 3) W:=hX.boxes hz;have hu1:=QV.mono _ _ _ _ (a0s (nb:=3) hE) hu;have hv1:=QV.mono _ _ _ _ (a0s (nb:=3) hE) hv;obtain⟨b,hb⟩:∃b,w.heap.size=b:=⟨_,rfl⟩;have hbw:w.heap.size<=b:=by omega
 rw[hb]at b0 b1 b2 hz hXW hu1 hv1;have hEd:Ext W W.drew:=(ExtX.refl W).drew;have hXd:HX (a0i X b 3) W.drew:=hXW;have hud:QV (mk (a0i X b 3) W.drew) (.agg #[.bool s1, .slice a1 n1 c1, .slice d1 k1 e1]) x:=hu1;have hvd:QV (mk (a0i X b 3) W.drew) (.agg #[.bool s2, .slice a2 n2 c2, .slice d2 k2 e2]) y:=hv1;have k00:=b0.cell 0 rfl;have k01:=b0.cell 1 rfl;have k02:=b0.cell 2 rfl;have k10:=b1.cell 0 rfl;have k11:=b1.cell 1 rfl;have k12:=b1.cell 2 rfl;clear hu hv;go_enter Tryz.func146,Tryz.ntmps146
 go_upto_region 1 with(fail)
 go_cut []from 5 to 8 (fun wx=>∃s3 a3 n3 c3 d3 k3 e3 s4 a4 n4 c4 d4 k4 e4,Bx wx b #[.bool s3, .slice a3 n3 c3, .slice d3 k3 e3] 32/\Bx wx (b+1) #[.bool s4, .slice a4 n4 c4, .slice d4 k4 e4] 32/\Bx wx (b+1+1) #[.bool false, .slice none 0 0, .slice none 0 0] 32/\QC (mk (a0i X b 3) wx) (.agg #[.bool s3, .slice a3 n3 c3, .slice d3 k3 e3]) x/\QC (mk (a0i X b 3) wx) (.agg #[.bool s4, .slice a4 n4 c4, .slice d4 k4 e4]) y/\Ext w wx)
 case first=>
  go_region_with (first|(go_at_call 170;(with_reducible refine(a4I (a0i X b 3) W.drew _ x hXd hud).mono ?_);rintro ee w5 ⟨hE5,u5,rfl,hq5⟩;obtain⟨s5,a5,n5,c5,d5,k5,e5,rfl⟩:=hq5.shape;have bb0:=b0.ext0 (hEd.trans hE5);have bb1:=b1.ext0 (hEd.trans hE5);have e00:=bb0.cell 0 rfl;have e01:=bb0.cell 1 rfl;have e02:=bb0.cell 2 rfl;have e10:=bb1.cell 0 rfl;have e11:=bb1.cell 1 rfl;have e12:=bb1.cell 2 rfl)|(go_at_call 170;(with_reducible refine(a4I (a0i X b 3) w5 _ y (HX.ext hXd hE5) (mkx QV.mono hvd hE5)).mono ?_);rintro ee w6 ⟨hE6,u6,rfl,hq6⟩;obtain⟨s6,a6,n6,c6,d6,k6,e6,rfl⟩:=hq6.shape;have bb2:=bb0.ext0 hE6;have bb3:=bb1.ext0 hE6;have g00:=bb2.cell 0 rfl;have g01:=bb2.cell 1 rfl;have g02:=bb2.cell 2 rfl;have g10:=bb3.cell 0 rfl;have g11:=bb3.cell 1 rfl;have g12:=bb3.cell 2 rfl;have fr0:=bb2.frozen 0;have fr1:=bb2.frozen 1;have fr4:=bb2.frozen 2;have fr2:=bb3.frozen 0;have fr3:=bb3.frozen 1;have fr5:=bb3.frozen 2))
  all_goals
   obtain⟨wf,hwf,q0,q1,q2,q3,q4⟩:=a3N (X:=X) (nb:=3) bb2 bb3 (hE.trans ((hEd.trans hE5).trans hE6)) hbw (by omega) (.bool s5) (.slice a5 n5 c5) (.slice d5 k5 e5) (.bool s6) (.slice a6 n6 c6) (.slice d6 k6 e6);rw[hwf];have hfx:QC (mk (a0i X b 3) wf) (.agg #[.bool s5, .slice a5 n5 c5, .slice d5 k5 e5]) x:=QC.mono _ _ _ _ q4 (mkx QC.mono hq5 hE6);have hfy:QC (mk (a0i X b 3) wf) (.agg #[.bool s6, .slice a6 n6 c6, .slice d6 k6 e6]) y:=QC.mono _ _ _ _ q4 hq6;have q5:=q2 (b+1+1) _ _ (by omega) (by omega) ((b2.ext0 (hEd.trans hE5)).ext0 hE6);clear e00 e01 e02 e10 e11 e12 g00 g01 g02 g10 g11 g12 fr0 fr1 fr2 fr3 fr4 fr5 k00 k01 k02 k10 k11 k12 hwf;go_wp2_with fail
   go_meet
   exact⟨_,_,_,_,_,_,_,_,_,_,_,_,_,_,q0,q1,q5,hfx,hfy,q3⟩
 case rest=>
  clear k00 k01 k02 k10 k11 k12 b0 b1 b2 hu1 hv1 hud hvd hXd hEd hW;obtain⟨s3,a3,n3,c3,d3,k3,e3,s4,a4,n4,c4,d4,k4,e4,b0,b1,b2,hx,hy,hE1⟩:=hcut;have hzz:w.heap.size+3<=wc.heap.size:=by have:=b2.lt;omega
  obtain⟨hxz,hxm,hxdn⟩:=hx.num;obtain⟨hyz,hym,hydn⟩:=hy.num;have hXc:HX (a0i X b 3) wc:=hX.boxes' hE1 (by have:=hzz;omega) hzz;have k00:=b0.cell 0 rfl;have k01:=b0.cell 1 rfl;have k02:=b0.cell 2 rfl;have k10:=b1.cell 0 rfl;have k11:=b1.cell 1 rfl;have k12:=b1.cell 2 rfl;have hEd:Ext wc wc.drew:=(ExtX.refl wc).drew;have hXd:HX (a0i X b 3) wc.drew:=hXc;have hxd:QC (mk (a0i X b 3) wc.drew) (.agg #[.bool s3, .slice a3 n3 c3, .slice d3 k3 e3]) x:=hx;have hyd:QC (mk (a0i X b 3) wc.drew) (.agg #[.bool s4, .slice a4 n4 c4, .slice d4 k4 e4]) y:=hy;have hxzd:ZC (mk (a0i X b 3) wc.drew) (.agg #[.bool s3, .slice a3 n3 c3]) x.num:=hxz;have hyzd:ZC (mk (a0i X b 3) wc.drew) (.agg #[.bool s4, .slice a4 n4 c4]) y.num:=hyz;have bxn:lg x.num.natAbs<=549755813888:=Nat.le_trans (Nat.le_trans (a1k x) hlx.out) (by omega);have byn:lg y.num.natAbs<=549755813888:=Nat.le_trans (Nat.le_trans (a1k y) hly.out) (by omega);have bxd:lg x.den<=549755813888:=Nat.le_trans (Nat.le_trans (a1l x) hlx.out) (by omega);have byd:lg y.den<=549755813888:=Nat.le_trans (Nat.le_trans (a1l y) hly.out) (by omega);have bp1:lg (x.num*(y.den:Int)).natAbs<=274877906944:=by rw[Int.natAbs_mul,Int.natAbs_natCast];have:=a1R x.num.natAbs y.den;have:=a1k x;have:=a1l y;have:=hlx.out;have:=hly.out;omega
  have bp2:lg (y.num*(x.den:Int)).natAbs<=274877906944:=by rw[Int.natAbs_mul,Int.natAbs_natCast];have:=a1R y.num.natAbs x.den;have:=a1k y;have:=a1l x;have:=hlx.out;have:=hly.out;omega
  have bdd:lg (x.den*y.den)<=274877906944:=by have:=a1R x.den y.den;have:=a1l x;have:=a1l y;have:=hlx.out;have:=hly.out;omega
  have bnn:lg (x.num*y.num).natAbs<=274877906944:=by rw[Int.natAbs_mul];have:=a1R x.num.natAbs y.num.natAbs;have:=a1k x;have:=a1k y;have:=hlx.out;have:=hly.out;omega
  have bd0:0<x.den*y.den:=Nat.mul_pos x.den_pos y.den_pos;have hB:=hid (And.intro b0 b1);have hS:Hid (∀W',Ext wc.drew W'->W'.cell? ⟨b,0,none⟩=some (.bool s3)/\W'.cell? ⟨b,1,none⟩=some (.slice a3 n3 c3)/\W'.cell? ⟨b,2,none⟩=some (.slice d3 k3 e3)/\W'.cell? ⟨b+1,0,none⟩=some (.bool s4)/\W'.cell? ⟨b+1,1,none⟩=some (.slice a4 n4 c4)/\W'.cell? ⟨b+1,2,none⟩=some (.slice d4 k4 e4)):=
   hid fun W' h=>⟨(b0.ext0 (hEd.trans h)).cell 0 rfl,(b0.ext0 (hEd.trans h)).cell 1 rfl,(b0.ext0 (hEd.trans h)).cell 2 rfl,(b1.ext0 (hEd.trans h)).cell 0 rfl,(b1.ext0 (hEd.trans h)).cell 1 rfl,(b1.ext0 (hEd.trans h)).cell 2 rfl⟩
  have hl3:=hxdn.len0;have hl4:=hydn.len0;rw[a3M]at hl3 hl4;have bsum:lg (x.num*(y.den:Int)+y.num*(x.den:Int)).natAbs<=549755813888:=by
   have h1:=a1a (Int.natAbs_add_le (x.num*(y.den:Int)) (y.num*(x.den:Int)));have h2:=a9B (x.num*(y.den:Int)).natAbs (y.num*(x.den:Int)).natAbs;omega
  have hfin:Hid (mkRat (x.num*(y.den:Int)+y.num*(x.den:Int)) (x.den*y.den)=x+y):=hid (Rat.add_def' x y).symm;by_cases hk:k3=0/\k4=0
  ·have hd3:=hid (hl3.1 hk.1)
   have hd4:=hid (hl4.1 hk.2);obtain⟨rfl,rfl⟩:=hk;have hsum:Hid (((x.num+y.num:Int):Rat)=x+y):=hid (by
    rw[Rat.intCast_add]
    conv=>rhs;rw[<-Rat.mkRat_self x,<-Rat.mkRat_self y]
    rw[hd3.out,hd4.out,<-Rat.mk_den_one,<-Rat.mk_den_one,Rat.mk_eq_mkRat,Rat.mk_eq_mkRat])
   clear hl3 hl4;go_wp2_with fail
   refine(b4P (a0i X b 3) wc _ _ _ _ hXc (hxz.zv bxn) (hyz.zv byn)).mono ?_;rintro ee w5 ⟨hE5,u5,rfl,s6,a6,c6,l6,rfl,h61,h62,h63⟩;have b2':=b2.ext0 hE5;have hcq:=a4N.ofInt h62;rw[hsum.out]at hcq;clear k00 k01 k02 k10 k11 k12;go_wp2_with ((with_reducible show wpList _ _ _ (⟨_, .store _ _ _,_,_,_,_⟩::_) _ _);refine a0c a0w rfl rfl b2' rfl rfl (a3n _ _ _ _ _ _ _) ?_;intro w7 r1 r2)
   have h7:=(h63.mono (a0b.mono _) (a0h r2 (by omega) (by omega))).mono (a0b.mono _) a0m;exact bodyPost_ret (a0f rfl rfl a0w r1 rfl) rfl ⟨ExtX.box (hE1.trans hE5) r2 (by omega),_,rfl,s6,a6,c6,l6,none,0,[],rfl,h61,Nat.le_refl _,hcq,h7,Sl.nil _ _ _ _⟩
  ·have hk3:Hid (¬(k3=0/\k4=0)):=hid hk
   rcases(by omega:¬k3=0\/(k3=0/\¬k4=0))with h3|⟨h3,h4⟩
   ·have hI:((k3:Int)==0)=false:=a3E (by omega)
    clear hk hl3 hl4 h3;go_wp2_with fail
    go_region_held3 (fun w'=>w'.cell? ⟨b,0,none⟩=some (.bool s3)/\w'.cell? ⟨b,1,none⟩=some (.slice a3 n3 c3)/\w'.cell? ⟨b,2,none⟩=some (.slice d3 k3 e3)/\w'.cell? ⟨b+1,0,none⟩=some (.bool s4)/\w'.cell? ⟨b+1,1,none⟩=some (.slice a4 n4 c4)/\w'.cell? ⟨b+1,2,none⟩=some (.slice d4 k4 e4))
     (first|exact hS.out _ t1|exact hS.out _ t2|exact hS.out _ t3|exact hS.out _ t4|exact hS.out _ t5|exact hS.out _ t6|exact hS.out _ t7|exact hS.out _ t8|exact hS.out _ t9|exact⟨((hB.out.1.ext0 (hEd.trans t9)).ext (bb2.set3 _ _ _).2 (a0e (by omega))).cell 0 rfl,((hB.out.1.ext0 (hEd.trans t9)).ext (bb2.set3 _ _ _).2 (a0e (by omega))).cell 1 rfl,((hB.out.1.ext0 (hEd.trans t9)).ext (bb2.set3 _ _ _).2 (a0e (by omega))).cell 2 rfl,((hB.out.2.ext0 (hEd.trans t9)).ext (bb2.set3 _ _ _).2 (a0e (by omega))).cell 0 rfl,((hB.out.2.ext0 (hEd.trans t9)).ext (bb2.set3 _ _ _).2 (a0e (by omega))).cell 1 rfl,((hB.out.2.ext0 (hEd.trans t9)).ext (bb2.set3 _ _ _).2 (a0e (by omega))).cell 2 rfl⟩|go_keep)
     (first|(go_at_call 173;(with_reducible refine(a8e (a0i X b 3) wc.drew _ y hXd hyd).mono ?_);rintro ee w5 ⟨t1,u5,rfl,hu5⟩;have hX5:=HX.ext hXd t1;have hx5:=mkx ZC.mono hxzd t1)|(go_at_call 172;(with_reducible refine(a5G (a0i X b 3) w5 _ _ x.num y.den hX5 hx5 hu5 bxn byd).mono ?_);rintro ee w6 ⟨hE6,u6,rfl,hu6⟩;have t2:=t1.trans hE6;have hX6:=HX.ext hXd t2;have hx6:=mkx QC.mono hxd t2)|(go_at_call 173;(with_reducible refine(a8e (a0i X b 3) w6 _ x hX6 hx6).mono ?_);rintro ee w7 ⟨hE7,u7,rfl,hu7⟩;have t3:=t2.trans hE7;have hX7:=HX.ext hXd t3;have hy7:=mkx ZC.mono hyzd t3)|(go_at_call 172;(with_reducible refine(a5G (a0i X b 3) w7 _ _ y.num x.den hX7 hy7 hu7 byn bxd).mono ?_);rintro ee w8 ⟨hE8,u8,rfl,hu8⟩;have t4:=t3.trans hE8;have hX8:=HX.ext hXd t4;have hz6:=(mkx ZC.mono hu6 (hE7.trans hE8)).zv (Nat.le_trans bp1 (by decide));have hz8:=hu8.zv (Nat.le_trans bp2 (by decide)))|(go_at_call 210;(with_reducible refine(b4P (a0i X b 3) w8 _ _ _ _ hX8 hz6 hz8).mono ?_);rintro ee w9 ⟨hE9,u9,rfl,hu9⟩;have t5:=t4.trans hE9;have hX9:=HX.ext hXd t5;have hx9:=mkx QC.mono hxd t5)|(go_at_call 173;(with_reducible refine(a8e (a0i X b 3) w9 _ x hX9 hx9).mono ?_);rintro ee w10 ⟨hE10,u10,rfl,hu10⟩;have t6:=t5.trans hE10;have hX10:=HX.ext hXd t6;have hy10:=mkx QC.mono hyd t6)|(go_at_call 173;(with_reducible refine(a8e (a0i X b 3) w10 _ y hX10 hy10).mono ?_);rintro ee w11 ⟨hE11,u11,rfl,hu11⟩;have t7:=t6.trans hE11;have hX11:=HX.ext hXd t7;have hm10:=(mkx NC.mono hu10 hE11).nv (Nat.le_trans bxd (by decide));have hm11:=hu11.nv (Nat.le_trans byd (by decide)))|(go_at_call 212;(with_reducible refine(b2u hX11 hm10 hm11).mono ?_);rintro ee w12 ⟨hE12,u12,rfl,hu12⟩;have t8:=t7.trans hE12;have hX12:=HX.ext hXd t8;have hz9:=mkx ZC.mono hu9 (hE10.trans (hE11.trans hE12)))|(go_at_call 211;(with_reducible refine(a4q (a0i X b 3) w12 _ _ _ _ hX12 hz9 hu12 bsum (Nat.le_trans bdd (by decide)) bd0).mono ?_);rintro ee w13 ⟨hE13,u13,rfl,hu13⟩;obtain⟨s13,a13,n13,c13,d13,k13,e13,rfl⟩:=hu13.shape;have t9:=t8.trans hE13;have bb2:=b2.ext0 (hEd.trans t9);have g0:=bb2.cell 0 rfl;have g1:=bb2.cell 1 rfl;have g2:=bb2.cell 2 rfl;have f0:=bb2.frozen 0;have f1:=bb2.frozen 1;have f2:=bb2.frozen 2))
    obtain⟨r1,r2⟩:=bb2.set3 (.bool s13) (.slice a13 n13 c13) (.slice d13 k13 e13);have h7:=QC.mono _ _ _ _ a0m (QC.mono _ _ _ _ (a0h r2 (by omega) (by omega)) hu13);rw[hfin.out]at h7;have hEf:Ext w _:=ExtX.box (hE1.trans (hEd.trans t9)) r2 (by omega);clear g0 g1 g2 f0 f1 f2 k00 k01 k02 k10 k11 k12 hS hB;go_wp2_with fail
    exact bodyPost_ret (a0f rfl rfl a0w r1 rfl) rfl ⟨hEf,_,rfl,h7⟩
   ·have hI:((k4:Int)==0)=false:=a3E (by omega)
    subst h3;clear hk hl3 hl4 h4;go_wp2_with fail
    go_region_held3 (fun w'=>w'.cell? ⟨b,0,none⟩=some (.bool s3)/\w'.cell? ⟨b,1,none⟩=some (.slice a3 n3 c3)/\w'.cell? ⟨b,2,none⟩=some (.slice d3 0 e3)/\w'.cell? ⟨b+1,0,none⟩=some (.bool s4)/\w'.cell? ⟨b+1,1,none⟩=some (.slice a4 n4 c4)/\w'.cell? ⟨b+1,2,none⟩=some (.slice d4 k4 e4))
     (first|exact hS.out _ t1|exact hS.out _ t2|exact hS.out _ t3|exact hS.out _ t4|exact hS.out _ t5|exact hS.out _ t6|exact hS.out _ t7|exact hS.out _ t8|exact hS.out _ t9|exact⟨((hB.out.1.ext0 (hEd.trans t9)).ext (bb2.set3 _ _ _).2 (a0e (by omega))).cell 0 rfl,((hB.out.1.ext0 (hEd.trans t9)).ext (bb2.set3 _ _ _).2 (a0e (by omega))).cell 1 rfl,((hB.out.1.ext0 (hEd.trans t9)).ext (bb2.set3 _ _ _).2 (a0e (by omega))).cell 2 rfl,((hB.out.2.ext0 (hEd.trans t9)).ext (bb2.set3 _ _ _).2 (a0e (by omega))).cell 0 rfl,((hB.out.2.ext0 (hEd.trans t9)).ext (bb2.set3 _ _ _).2 (a0e (by omega))).cell 1 rfl,((hB.out.2.ext0 (hEd.trans t9)).ext (bb2.set3 _ _ _).2 (a0e (by omega))).cell 2 rfl⟩|go_keep)
     (first|(go_at_call 173;(with_reducible refine(a8e (a0i X b 3) wc.drew _ y hXd hyd).mono ?_);rintro ee w5 ⟨t1,u5,rfl,hu5⟩;have hX5:=HX.ext hXd t1;have hx5:=mkx ZC.mono hxzd t1)|(go_at_call 172;(with_reducible refine(a5G (a0i X b 3) w5 _ _ x.num y.den hX5 hx5 hu5 bxn byd).mono ?_);rintro ee w6 ⟨hE6,u6,rfl,hu6⟩;have t2:=t1.trans hE6;have hX6:=HX.ext hXd t2;have hx6:=mkx QC.mono hxd t2)|(go_at_call 173;(with_reducible refine(a8e (a0i X b 3) w6 _ x hX6 hx6).mono ?_);rintro ee w7 ⟨hE7,u7,rfl,hu7⟩;have t3:=t2.trans hE7;have hX7:=HX.ext hXd t3;have hy7:=mkx ZC.mono hyzd t3)|(go_at_call 172;(with_reducible refine(a5G (a0i X b 3) w7 _ _ y.num x.den hX7 hy7 hu7 byn bxd).mono ?_);rintro ee w8 ⟨hE8,u8,rfl,hu8⟩;have t4:=t3.trans hE8;have hX8:=HX.ext hXd t4;have hz6:=(mkx ZC.mono hu6 (hE7.trans hE8)).zv (Nat.le_trans bp1 (by decide));have hz8:=hu8.zv (Nat.le_trans bp2 (by decide)))|(go_at_call 210;(with_reducible refine(b4P (a0i X b 3) w8 _ _ _ _ hX8 hz6 hz8).mono ?_);rintro ee w9 ⟨hE9,u9,rfl,hu9⟩;have t5:=t4.trans hE9;have hX9:=HX.ext hXd t5;have hx9:=mkx QC.mono hxd t5)|(go_at_call 173;(with_reducible refine(a8e (a0i X b 3) w9 _ x hX9 hx9).mono ?_);rintro ee w10 ⟨hE10,u10,rfl,hu10⟩;have t6:=t5.trans hE10;have hX10:=HX.ext hXd t6;have hy10:=mkx QC.mono hyd t6)|(go_at_call 173;(with_reducible refine(a8e (a0i X b 3) w10 _ y hX10 hy10).mono ?_);rintro ee w11 ⟨hE11,u11,rfl,hu11⟩;have t7:=t6.trans hE11;have hX11:=HX.ext hXd t7;have hm10:=(mkx NC.mono hu10 hE11).nv (Nat.le_trans bxd (by decide));have hm11:=hu11.nv (Nat.le_trans byd (by decide)))|(go_at_call 212;(with_reducible refine(b2u hX11 hm10 hm11).mono ?_);rintro ee w12 ⟨hE12,u12,rfl,hu12⟩;have t8:=t7.trans hE12;have hX12:=HX.ext hXd t8;have hz9:=mkx ZC.mono hu9 (hE10.trans (hE11.trans hE12)))|(go_at_call 211;(with_reducible refine(a4q (a0i X b 3) w12 _ _ _ _ hX12 hz9 hu12 bsum (Nat.le_trans bdd (by decide)) bd0).mono ?_);rintro ee w13 ⟨hE13,u13,rfl,hu13⟩;obtain⟨s13,a13,n13,c13,d13,k13,e13,rfl⟩:=hu13.shape;have t9:=t8.trans hE13;have bb2:=b2.ext0 (hEd.trans t9);have g0:=bb2.cell 0 rfl;have g1:=bb2.cell 1 rfl;have g2:=bb2.cell 2 rfl;have f0:=bb2.frozen 0;have f1:=bb2.frozen 1;have f2:=bb2.frozen 2))
    obtain⟨r1,r2⟩:=bb2.set3 (.bool s13) (.slice a13 n13 c13) (.slice d13 k13 e13);have h7:=QC.mono _ _ _ _ a0m (QC.mono _ _ _ _ (a0h r2 (by omega) (by omega)) hu13);rw[hfin.out]at h7;have hEf:Ext w _:=ExtX.box (hE1.trans (hEd.trans t9)) r2 (by omega);clear g0 g1 g2 f0 f1 f2 k00 k01 k02 k10 k11 k12 hS hB;go_wp2_with fail
    exact bodyPost_ret (a0f rfl rfl a0w r1 rfl) rfl ⟨hEf,_,rfl,h7⟩
end Go.Proofs.YtkddecjkfdogiaaGreat
