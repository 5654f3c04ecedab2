/- Parts of a proof: each theorem states what it proves, and its conditions. -/
import Derived.Test.YtgbbpgflopajaaaGreatSpF
set_option maxRecDepth 100000
namespace Go.Lin
abbrev Mat:=List (List Rat)
def ent(m:Mat):F2:=fun i j=>(m.getD i []).getD j 0
def Shp(n c:Nat)(m:Mat):Prop:=m.length=n/\∀r∈m,r.length=c
theorem Shp.row{n c:Nat}{m:Mat}(h:Shp n c m){i:Nat}(hi:i<n):(m.getD i []).length=c:=by
 have:i<m.length:=by rw[h.1];exact hi
 simp[List.getD_eq_getElem?_getD,this,h.2]
theorem a1S{n c:Nat}{m:Mat}(h:Shp n c m){i j:Nat}(a:n<=i\/c<=j):ent m i j=0:=by
 unfold ent;by_cases hi:i<n
 ·have:=h.row hi
  rw[List.getD_eq_getElem?_getD,List.getElem?_eq_none (by omega)];rfl
 ·have:=h.1
  rw[List.getD_eq_getElem?_getD (l:=m),List.getElem?_eq_none (by omega)];simp
theorem Shp.ext{n c:Nat}{m e:Mat}(h:Shp n c m)(f:Shp n c e)(o:Eqm n c (ent m) (ent e)):m=e:=by
 refine List.ext_getElem (h.1.trans f.1.symm) fun i a g=>?_;have b:=h.2 _ (List.getElem_mem a);have d:=f.2 _ (List.getElem_mem g);refine List.ext_getElem (b.trans d.symm) fun j k l=>?_;have:=o i (by rw[<-h.1];exact a) j (by omega);simpa[ent,List.getD_eq_getElem?_getD,a,g,k,l]using this
theorem Shp.set{n c:Nat}{m:Mat}(h:Shp n c m)(i:Nat){r:List Rat}(b:r.length=c):Shp n c (m.set i r):=by
 refine⟨by simp[h.1],fun x hx=>?_⟩;rcases List.mem_or_eq_of_mem_set hx with a|a
 ·exact h.2 _ a
 ·rw[a];exact b
theorem a8c{m:Mat}{i:Nat}{r:List Rat}(hi:i<m.length)(k j:Nat):ent (m.set i r) k j=if k=i then r.getD j 0 else ent m k j:=by
 unfold ent;simp only[List.getD_eq_getElem?_getD,List.getElem?_set];by_cases e:k=i
 ·subst e;simp[hi]
 ·simp[e,Ne.symm e]
def rows(m:Mat)(f:Nat->List Rat->List Rat):Mat:=m.mapIdx f
theorem Shp.rows{n c:Nat}{m:Mat}(h:Shp n c m){f:Nat->List Rat->List Rat}(a:∀i,i<n->∀r:List Rat,r.length=c->(f i r).length=c):Shp n c (rows m f):=by
 refine⟨by simp[Lin.rows,h.1],fun x hx=>?_⟩;obtain⟨i,hi,rfl⟩:=List.getElem_of_mem hx;simp only[Lin.rows,List.length_mapIdx,List.getElem_mapIdx]at hi |-;exact a i (by rw[<-h.1];exact hi) _ (h.2 _ (List.getElem_mem _))
theorem a8d{m:Mat}{f:Nat->List Rat->List Rat}{i:Nat}(hi:i<m.length)(j:Nat):ent (rows m f) i j=(f i (m.getD i [])).getD j 0:=by
 simp[ent,rows,List.getD_eq_getElem?_getD,hi]
def a1j(m:Mat)(i k:Nat):Mat:=(m.set i (m.getD k [])).set k (m.getD i [])
theorem Shp.swap{n c:Nat}{m:Mat}(h:Shp n c m){i k:Nat}(hi:i<n)(a:k<n):Shp n c (a1j m i k):=(h.set i (h.row a)).set k (h.row hi)
theorem a3H{n c:Nat}{m:Mat}(h:Shp n c m){i k:Nat}(hi:i<n)(a:k<n)(r j:Nat):ent (a1j m i k) r j=if r=k then ent m i j else if r=i then ent m k j else ent m r j:=by
 unfold a1j;rw[a8c (by simp[h.1,a]),a8c (by simp[h.1,hi])];rfl
theorem a5M(m:Mat)(i:Nat)(hi:i<m.length):a1j m i i=m:=by
 unfold a1j;simp[List.getD_eq_getElem?_getD,hi]
theorem b2V{n c:Nat}{m:Mat}(h:Shp n c m){i k:Nat}(hi:i<n)(e:k<n)(d:i≠k):RE n c (ent m) (ent (a1j m i k)) (-1):=
 .swap i k hi e d (fun j _=>by rw[a3H h hi e];simp[d]) (fun j _=>by rw[a3H h hi e];simp) (fun r _ a b j _=>by rw[a3H h hi e];simp[a,b])
def a3r(row piv:List Rat)(col:Nat):List Rat:=List.zipWith (fun a x=>a - (row.getD col 0/piv.getD col 0)*x) row piv
theorem a4g(row a:List Rat)(col:Nat)(h:row.length=a.length):(a3r row a col).length=a.length:=by simp[a3r,h]
theorem a8J(row a:List Rat)(col j:Nat)(h:row.length=a.length):(a3r row a col).getD j 0=row.getD j 0 - (row.getD col 0/a.getD col 0)*a.getD j 0:=by
 unfold a3r;simp only[List.getD_eq_getElem?_getD,List.getElem?_zipWith];by_cases b:j<row.length
 ·simp[b,show j<a.length by omega]
 ·simp[show¬j<row.length by omega,show¬j<a.length by omega];grind
theorem b1J(row a:List Rat)(col:Nat)(h:row.length=a.length)(b:row.getD col 0/a.getD col 0=0):a3r row a col=row:=by
 refine List.ext_getElem (by simp[a3r,h]) fun i c d=>?_;simp only[a3r,List.getElem_zipWith,b];grind
abbrev St:=Mat×List Nat×Bool
def clear(m:Mat)(t col:Nat)(s:Nat):Mat:=rows m fun i r=>if t<i/\i<t+1+s then a3r r (m.getD t []) col else r
noncomputable def b2W(m:Mat)(t col:Nat):Option Nat:=(m.drop t).findIdx? fun r=>decide (r.getD col 0≠0)
noncomputable def a6K(s:St)(col:Nat):St:=
 if s.2.1.length=s.1.length then s else
 match b2W s.1 s.2.1.length col with
 |none=>s
 |some k=>(clear (a1j s.1 s.2.1.length (s.2.1.length+k)) s.2.1.length col s.1.length,s.2.1++[col],s.2.2 !=decide (k≠0))
noncomputable def eN(m:Mat):Nat->St
 |0=>(m,[],false)
 |k+1=>a6K (eN m k) k
theorem Shp.clear{n c:Nat}{m:Mat}(h:Shp n c m){t:Nat}(b:t<n)(col s:Nat):Shp n c (clear m t col s):=
 h.rows fun i hi r a=>by
  split
  ·rw[a4g _ _ _ (by rw[a,h.row b]),h.row b]
  ·exact a
theorem a5k{n c:Nat}{m:Mat}(h:Shp n c m){t:Nat}(d:t<n)(col s i j:Nat):ent (clear m t col s) i j=if t<i/\i<t+1+s/\i<n then ent m i j - (ent m i col/ent m t col)*ent m t j else ent m i j:=by
 by_cases hi:i<n
 ·unfold Lin.clear
  rw[a8d (by rw[h.1];exact hi)];by_cases a:t<i/\i<t+1+s
  ·simp only[a,and_self,if_true,hi]
   rw[a8J _ _ _ _ (by rw[h.row hi,h.row d])];rfl
  ·rw[if_neg a,if_neg (fun b=>a ⟨b.1,b.2.1⟩)];rfl
 ·rw[a1S (h.clear d col s) (.inl (by omega)),if_neg (by omega),a1S h (.inl (by omega))]
theorem b5f{n c:Nat}{m:Mat}(h:Shp n c m){t:Nat}(a:t<n)(col s:Nat):RE n c (ent m) (ent (clear m t col s)) 1:=
 .addmany t a (fun i=>if t<i/\i<t+1+s/\i<n then - (ent m i col/ent m t col)else 0)
  (fun i hi e j b=>by rw[a5k h a];split<;>grind) (fun j b=>by rw[a5k h a];simp)
theorem a8K{m:Mat}{t col:Nat}(h:b2W m t col=none)(i:Nat)(hi:t<=i):ent m i col=0:=by
 unfold b2W at h;rw[List.findIdx?_eq_none_iff]at h;by_cases a:i<m.length
 ·have:=h (m[i]) (by rw[List.mem_drop_iff_getElem];exact⟨i - t,by omega,by congr 1;omega⟩)
  unfold ent;simp only[List.getD_eq_getElem?_getD,a,getElem?_pos,Option.getD_some]at this |-;simpa using this
 ·unfold ent;rw[List.getD_eq_getElem?_getD (l:=m),List.getElem?_eq_none (by omega)];simp
theorem a4h{m:Mat}{t col k:Nat}(h:b2W m t col=some k):t+k<m.length/\ent m (t+k) col≠0:=by
 unfold b2W at h;rw[List.findIdx?_eq_some_iff_getElem]at h;obtain⟨c,b,_⟩:=h;simp at c;refine⟨by omega,?_⟩;unfold ent;simp only[List.getElem_drop]at b;have a:t+k<m.length:=by omega
 simp only[List.getD_eq_getElem?_getD,a,getElem?_pos,Option.getD_some]at b |-;simpa using b
structure EOk (n c k:Nat) (m:Mat) (s:St):Prop where
 shp:Shp n c s.1
 ech:Ech n k (ent s.1) s.2.1
 re:RE n c (ent m) (ent s.1) (if s.2.2 then -1 else 1)
theorem EOk.zero{n c:Nat}{m:Mat}(h:Shp n c m):EOk n c 0 m (m,[],false):=⟨h,Ech.nil _ _, .same fun _ _ _ _=>rfl⟩
theorem EOk.step{n c k:Nat}{m:Mat}{s:St}(h:EOk n c k m s):EOk n c (k+1) m (a6K s k):=by
 obtain⟨M,p,t⟩:=s;have hs:Shp n c M:=h.shp;have g:Ech n k (ent M) p:=h.ech;have v:RE n c (ent m) (ent M) (if t then -1 else 1):=h.re;have A:=hs.1;unfold a6K
 dsimp only
 split
 ·rename_i e
  exact⟨hs,g.skip fun i hi o=>by omega,v⟩
 ·rename_i e
  split
  ·rename_i hz
   exact⟨hs,g.skip fun i hi _=>a8K hz i hi,v⟩
  ·rename_i q hz
   obtain⟨z,y⟩:=a4h hz;have d:p.length<n:=by have:=g.le;omega
   have f:p.length+q<n:=by omega
   have r:=hs.swap d f;have l:=fun i j=>a3H hs d f i j;have a:=fun i j=>a5k r d k M.length i j;have u:ent (a1j M p.length (p.length+q)) p.length k≠0:=by
    rw[l];by_cases b:q=0
    ·subst b;simpa using y
    ·simp[b];exact y
   refine⟨r.clear d _ _,g.push d (fun i hi j=>?_) (fun i hi o j x=>?_) ?_ (fun i hi o=>?_),?_⟩
   ·rw[a,if_neg (by omega),l,if_neg (by omega),if_neg (by omega)]
   ·have hz:∀i,p.length<=i->i<n->ent (a1j M p.length (p.length+q)) i j=0:=fun i hi o=>by
     rw[l];split
     ·exact g.below _ (by omega) d j x
     ·split
      ·exact g.below _ (by omega) f j x
      ·exact g.below _ hi o j x
    rw[a];split
    ·rw[hz i hi o,hz p.length (Nat.le_refl _) d];grind
    ·exact hz i hi o
   ·rw[a,if_neg (by omega)];exact u
   ·rw[a,if_pos ⟨hi,by omega,o⟩];grind
   ·have w:=b5f r d k M.length
    by_cases b:q=0
    ·subst b
     rw[Nat.add_zero,a5M M _ (by omega)]at w |-;exact v.then_ w (by cases t<;>simp)
    ·exact v.then_ ((b2V hs d f (by omega)).then_ w rfl) (by cases t<;>simp[b];grind)
theorem a6o{n c:Nat}{m:Mat}(h:Shp n c m)(k:Nat):EOk n c k m (eN m k):=by
 induction k with
 |zero=>exact EOk.zero h
 |succ k ih=>exact ih.step
theorem b8h(m:Mat)(k:Nat)(h:(eN m k).2.1.length=(eN m k).1.length)(k':Nat)(hk:k<=k'):eN m k'=eN m k:=by
 induction k' with
 |zero=>
      have:k=0:=by omega
      subst this;rfl
 |succ k' ih=>
  by_cases e:k=k'+1
  ·subst e;rfl
  ·have:=ih (by omega)
   show a6K (eN m k') k'=_
   rw[this];unfold a6K;rw[if_pos h]
def divL(m:Mat)(i col:Nat):Mat:=m.set i ((m.getD i []).map (· /ent m i col))
def above(m:Mat)(i col s:Nat):Mat:=rows m fun k r=>if k<i/\k<s then a3r r (m.getD i []) col else r
def dStep(m:Mat)(i col:Nat):Mat:=above (divL m i col) i col i
theorem a8L(r:List Rat)(a:Rat)(j:Nat):(r.map (· /a)).getD j 0=r.getD j 0/a:=by
 simp only[List.getD_eq_getElem?_getD,List.getElem?_map];cases r[j]? with
 |none=>simp;grind
 |some x=>simp
theorem Shp.divL{n c:Nat}{m:Mat}(h:Shp n c m){i:Nat}(hi:i<n)(col:Nat):Shp n c (divL m i col):=h.set i (by rw[List.length_map];exact h.row hi)
theorem a3I{n c:Nat}{m:Mat}(h:Shp n c m){i:Nat}(hi:i<n)(col k j:Nat):ent (divL m i col) k j=if k=i then ent m i j/ent m i col else ent m k j:=by
 unfold divL;rw[a8c (by rw[h.1];exact hi),a8L];rfl
theorem Shp.above{n c:Nat}{m:Mat}(h:Shp n c m){t:Nat}(b:t<n)(col s:Nat):Shp n c (above m t col s):=
 h.rows fun i hi r a=>by
  split
  ·rw[a4g _ _ _ (by rw[a,h.row b]),h.row b]
  ·exact a
theorem a5l{n c:Nat}{m:Mat}(h:Shp n c m){t:Nat}(b:t<n)(col s i j:Nat):ent (above m t col s) i j=if i<t/\i<s then ent m i j - (ent m i col/ent m t col)*ent m t j else ent m i j:=by
 by_cases hi:i<n
 ·unfold Lin.above
  rw[a8d (by rw[h.1];exact hi)];by_cases a:i<t/\i<s
  ·simp only[a,and_self,if_true]
   rw[a8J _ _ _ _ (by rw[h.row hi,h.row b])];rfl
  ·rw[if_neg a,if_neg a];rfl
 ·rw[a1S (h.above b col s) (.inl (by omega)),if_neg (by omega),a1S h (.inl (by omega))]
theorem b5g{n c:Nat}{m:Mat}(h:Shp n c m){t:Nat}(a:t<n)(col s:Nat):RE n c (ent m) (ent (above m t col s)) 1:=
 .addmany t a (fun i=>if i<t/\i<s then - (ent m i col/ent m t col)else 0)
  (fun i hi e j b=>by rw[a5l h a];split<;>grind) (fun j b=>by rw[a5l h a];simp)
theorem b8i{n c:Nat}{m:Mat}(h:Shp n c m){i:Nat}(hi:i<n)(col:Nat)(hne:ent m i col≠0):RE n c (ent m) (ent (divL m i col)) (1/ent m i col):=
 .scale i _ hi (by intro e;grind) (fun j _=>by rw[a3I h hi];simp;grind) (fun r _ a j _=>by rw[a3I h hi,if_neg a])
noncomputable def dN(m:Mat)(p:List Nat):Nat->Mat
 |0=>m
 |t+1=>dStep (dN m p t) t (p.getD t 0)
structure DOk (n c t:Nat) (m:Mat) (p:List Nat) (s:Mat):Prop where
 shp:Shp n c s
 ech:Ech n c (ent s) p
 red:Red n t (ent s) p
 re:∃d,RE n c (ent m) (ent s) d
theorem DOk.step{n c t:Nat}{m:Mat}{p:List Nat}{s:Mat}(h:DOk n c t m p s)(l:t<p.length):DOk n c (t+1) m p (dStep s t (p.getD t 0)):=by
 have a:t<n:=Nat.lt_of_lt_of_le l h.ech.le;have u:p.getD t 0=p[t]:=by simp[List.getD_eq_getElem?_getD,l]
 rw[u];have hd:=h.shp.divL a p[t];have q:=h.ech.piv t l;have e:=fun k j=>a3I h.shp a p[t] k j;have o:=fun i j=>a5l hd a p[t] t i j;obtain⟨d,r⟩:=h.re;have f:ent (divL s t p[t]) t p[t]=1:=by rw[e];simp;grind
 have b:∀j,ent (dStep s t p[t]) t j=ent s t j/ent s t p[t]:=fun j=>by
  unfold dStep;rw[o,if_neg (by omega),e];simp
 have:=Red.step (g:=ent (dStep s t p[t])) h.ech h.red l b (fun i hi j=>by
   rw[b];unfold dStep;rw[o,if_pos ⟨hi,hi⟩,f,e,e,e,if_neg (by omega),if_neg (by omega),if_pos rfl];grind) (fun i hi j=>by
   unfold dStep;rw[o,if_neg (by omega),e,if_neg (by omega)])
 exact⟨hd.above a _ _,this.1,this.2,_,r.trans ((b8i h.shp a _ q).trans (b5g hd a _ _))⟩
theorem b8j{n c:Nat}{m:Mat}{p:List Nat}(h:Shp n c m)(he:Ech n c (ent m) p)(t:Nat)(ht:t<=p.length):DOk n c t m p (dN m p t):=by
 induction t with
 |zero=>exact⟨h,he,⟨by intros;omega,by intros;omega⟩,1, .same fun _ _ _ _=>rfl⟩
 |succ t ih=>exact(ih (by omega)).step (by omega)
noncomputable def a0J(m:Mat)(c:Nat):Mat×List Nat:=(dN (eN m c).1 (eN m c).2.1 (eN m c).2.1.length,(eN m c).2.1)
theorem a1d{n c:Nat}{m:Mat}(h:Shp n c m):Shp n c (a0J m c).1/\Rref n c (ent (a0J m c).1) (a0J m c).2/\∃d,RE n c (ent m) (ent (a0J m c).1) d:=by
 have b:=a6o h c;have a:=b8j b.shp b.ech _ (Nat.le_refl _);obtain⟨d,e⟩:=a.re;exact⟨a.shp,a.ech.rref a.red,_,b.re.trans e⟩
abbrev Sr:=Mat×List Nat×Rat
def pv(m:Mat)(t col:Nat):Mat:=m.set t ((m.getD t []).map (· *(1/ent m t col)))
def out(m:Mat)(t col:Nat)(s:Nat):Mat:=rows m fun i r=>if i≠t/\i<s then List.zipWith (· + ·) r ((m.getD t []).map (· * - r.getD col 0))else r
noncomputable def a6L(s:Sr)(col:Nat):Sr:=
 match b2W s.1 s.2.1.length col with
 |none=>s
 |some k=>(out (pv (a1j s.1 (s.2.1.length+k) s.2.1.length) s.2.1.length col) s.2.1.length col s.1.length,s.2.1++[col],(if k=0 then s.2.2 else - s.2.2)*ent (a1j s.1 (s.2.1.length+k) s.2.1.length) s.2.1.length col)
noncomputable def rN(m:Mat):Nat->Sr
 |0=>(m,[],1)
 |k+1=>a6L (rN m k) k
theorem a6g(r:List Rat)(a:Rat)(j:Nat):(r.map (· *a)).getD j 0=r.getD j 0*a:=by
 simp only[List.getD_eq_getElem?_getD,List.getElem?_map];cases r[j]? with
 |none=>simp
 |some x=>simp
theorem b8k(a b:List Rat)(h:a.length=b.length)(j:Nat):(List.zipWith (· + ·) a b).getD j 0=a.getD j 0+b.getD j 0:=by
 simp only[List.getD_eq_getElem?_getD,List.getElem?_zipWith];by_cases c:j<a.length
 ·simp[c,show j<b.length by omega]
 ·simp[show¬j<a.length by omega,show¬j<b.length by omega];grind
theorem Shp.pv{n c:Nat}{m:Mat}(h:Shp n c m){i:Nat}(hi:i<n)(col:Nat):Shp n c (pv m i col):=h.set i (by rw[List.length_map];exact h.row hi)
theorem b2X{n c:Nat}{m:Mat}(h:Shp n c m){i:Nat}(hi:i<n)(col k j:Nat):ent (pv m i col) k j=if k=i then ent m i j*(1/ent m i col)else ent m k j:=by
 unfold pv;rw[a8c (by rw[h.1];exact hi),a6g];rfl
theorem Shp.out{n c:Nat}{m:Mat}(h:Shp n c m){t:Nat}(b:t<n)(col s:Nat):Shp n c (out m t col s):=
 h.rows fun i hi r a=>by
  split
  ·rw[List.length_zipWith,List.length_map,a,h.row b];omega
  ·exact a
theorem b0L{n c:Nat}{m:Mat}(h:Shp n c m){t:Nat}(d:t<n)(col s i j:Nat):ent (out m t col s) i j=if i≠t/\i<s/\i<n then ent m i j+ent m t j* - ent m i col else ent m i j:=by
 by_cases hi:i<n
 ·unfold Lin.out
  rw[a8d (by rw[h.1];exact hi)];by_cases a:i≠t/\i<s
  ·rw[if_pos a,if_pos ⟨a.1,a.2,hi⟩,b8k _ _ (by rw[List.length_map,h.row hi,h.row d]),a6g];rfl
  ·rw[if_neg a,if_neg (fun b=>a ⟨b.1,b.2.1⟩)];rfl
 ·rw[a1S (h.out d col s) (.inl (by omega)),if_neg (by omega),a1S h (.inl (by omega))]
structure ROk (n c k:Nat) (m:Mat) (s:Sr):Prop where
 shp:Shp n c s.1
 ref:Rref n k (ent s.1) s.2.1
 re:∃d,RE n c (ent m) (ent s.1) d/\s.2.2*d=1
theorem ROk.step{n c k:Nat}{m:Mat}{s:Sr}(h:ROk n c k m s):ROk n c (k+1) m (a6L s k):=by
 obtain⟨M,p,G⟩:=s;have hs:Shp n c M:=h.shp;have g:Rref n k (ent M) p:=h.ref;obtain⟨d,C,hd⟩:∃d,RE n c (ent m) (ent M) d/\G*d=1:=h.re;have O:=hs.1;unfold a6L
 dsimp only
 split
 ·rename_i hz
  exact⟨hs,g.skip fun i hi _=>a8K hz i hi,d,C,hd⟩
 ·rename_i q hz
  obtain⟨N,K⟩:=a4h hz;have l:p.length<n:=by omega
  have w:p.length+q<n:=by omega
  have D:=hs.swap w l;have z:=fun i j=>a3H hs w l i j;have E:=D.pv l k;have f:=fun i j=>b2X D l k i j;have v:=fun i j=>b0L E l k M.length i j;have x:ent (a1j M (p.length+q) p.length) p.length k≠0:=by rw[z,if_pos rfl];exact K
  have I:Rref n k (ent (a1j M (p.length+q) p.length)) p:=by
   have B:∀i,i<p.length->∀j,ent (a1j M (p.length+q) p.length) i j=ent M i j:=fun i hi j=>by
    rw[z,if_neg (by omega),if_neg (by omega)]
   have F:∀i,p.length<=i->i<n->∀j,j<k->ent (a1j M (p.length+q) p.length) i j=0:=fun i hi L j A=>by
    rw[z];split
    ·exact g.below _ (by omega) w j A
    ·split
     ·exact g.below _ (by omega) l j A
     ·exact g.below _ hi L j A
   refine⟨g.le,g.lt,g.inc,fun i hi j A=>by rw[B i hi];exact g.left i hi j A,fun i hi=>by rw[B i hi];exact g.one i hi,fun t J i hi H=>?_,F⟩;by_cases a:i<p.length
   ·rw[B i a];exact g.zero t J i hi H
   ·exact F i (by omega) hi _ (g.lt t J)
  have y:∀j,ent (out (pv (a1j M (p.length+q) p.length) p.length k) p.length k M.length) p.length j=ent (a1j M (p.length+q) p.length) p.length j*(1/ent (a1j M (p.length+q) p.length) p.length k):=fun j=>by
   rw[v,if_neg (by omega),f,if_pos rfl]
  refine⟨E.out l _ _,I.push l x y (fun i hi hne j=>?_),?_⟩
  ·rw[y,v,if_pos ⟨hne,by omega,hi⟩,f,f,f,if_neg hne,if_neg hne,if_pos rfl]
  ·have o:RE n c (ent (a1j M (p.length+q) p.length)) (ent (pv (a1j M (p.length+q) p.length) p.length k)) (1/ent (a1j M (p.length+q) p.length) p.length k):=
    .scale p.length _ l (by intro e;grind) (fun j _=>by rw[f];simp;grind) (fun r _ C j _=>by rw[f,if_neg C])
   have u:RE n c (ent (pv (a1j M (p.length+q) p.length) p.length k)) (ent (out (pv (a1j M (p.length+q) p.length) p.length k) p.length k M.length)) 1:=
    .addmany p.length l (fun i=>if i≠p.length/\i<M.length/\i<n then - ent (pv (a1j M (p.length+q) p.length) p.length k) i k else 0)
     (fun i hi e j A=>by rw[v];split<;>grind) (fun j A=>by rw[v];simp)
   by_cases b:q=0
   ·subst b
    rw[Nat.add_zero,a5M M _ (by omega)]at o u x |-;exact⟨_,C.trans (o.trans u),by simp;grind⟩
   ·exact⟨_,C.trans ((b2V hs w l (by omega)).trans (o.trans u)),by simp[b];grind⟩
theorem a6p{n c:Nat}{m:Mat}(h:Shp n c m)(k:Nat):ROk n c k m (rN m k):=by
 induction k with
 |zero=>exact⟨h,Rref.nil _ _,1, .same fun _ _ _ _=>rfl,by show(1:Rat)*1=1;grind⟩
 |succ k ih=>exact ih.step
theorem b0M{n c:Nat}{m:Mat}(h:Shp n c m):(a0J m c).1=(rN m c).1/\(a0J m c).2=(rN m c).2.1:=by
 obtain⟨b,f,d,g⟩:=a1d h;have a:=a6p h c;obtain⟨e,i,_⟩:=a.re;have:=f.unique a.ref fun x=>((g.nul x).symm.trans (i.nul x));exact⟨b.ext a.shp this.2,this.1⟩
open Go.Lim
def HB(B:Nat)(m:Mat):Prop:=∀i j,hq (ent m i j)<=B
theorem HB.pos{B:Nat}{m:Mat}(h:HB B m):1<=B:=Nat.le_trans (a7w _) (h 0 0)
theorem HB.mono{B C:Nat}{m:Mat}(h:HB B m)(a:B<=C):HB C m:=fun i j=>Nat.le_trans (h i j) a
theorem HB.swap{n c B:Nat}{m:Mat}(h:HB B m)(hs:Shp n c m){i k:Nat}(hi:i<n)(a:k<n):HB B (a1j m i k):=fun r j=>by
 rw[a3H hs hi a];split
 ·exact h _ _
 ·split
  ·exact h _ _
  ·exact h _ _
theorem b8l{x y z u:Rat}{B:Nat}(hx:hq x<=B)(f:hq y<=B)(hz:hq z<=B)(e:hq u<=B):hq (y/z)<=2*B/\hq (y/z*u)<=3*B/\hq (x - y/z*u)<=5*B:=by
 have a:=hq_div y z;have b:=hq_mul (y/z) u;have c:=a6a x (y/z*u);have d:=a7w x;omega
theorem HB.clear{n c B:Nat}{m:Mat}(h:HB B m)(hs:Shp n c m){t:Nat}(a:t<n)(col s:Nat):HB (5*B) (clear m t col s):=fun i j=>by
 rw[a5k hs a];split
 ·exact(b8l (h _ _) (h _ _) (h _ _) (h _ _)).2.2
 ·have:=h i j;omega
theorem HB.eN{n c B:Nat}{m:Mat}(h:HB B m)(hs:Shp n c m)(k:Nat):HB (5^(eN m k).2.1.length*B) (eN m k).1:=by
 induction k with
 |zero=>simpa[Lin.eN]using h
 |succ k ih=>
  have hk:=a6o hs k
  show HB (5^(a6K (Lin.eN m k) k).2.1.length*B) (a6K (Lin.eN m k) k).1
  generalize Lin.eN m k=s at ih hk |-;obtain⟨M,p,odd⟩:=s;have hM:Shp n c M:=hk.shp;have hl:=hM.1;have hle:p.length<=n:=hk.ech.le;unfold a6K
  dsimp only at ih |-
  split
  ·exact ih
  ·split
   ·exact ih
   ·rename_i e _ q hz
    obtain⟨h1,h2⟩:=a4h hz;have:=(ih.swap hM (show p.length<n by omega) (show p.length+q<n by omega)).clear (hM.swap (by omega) (by omega)) (show p.length<n by omega) k M.length;refine this.mono ?_;rw[List.length_append,List.length_singleton,Nat.pow_succ,Nat.mul_comm _ 5,Nat.mul_assoc];exact Nat.le_refl _
theorem HB.divL{n c B:Nat}{m:Mat}(h:HB B m)(hs:Shp n c m){i:Nat}(hi:i<n)(col:Nat):HB (2*B) (divL m i col):=fun k j=>by
 rw[a3I hs hi];split
 ·have:=hq_div (ent m i j) (ent m i col);have:=h i j;have:=h i col;omega
 ·have:=h k j;omega
theorem b5h{x y z u:Rat}{B:Nat}(hx:hq x<=B)(f:hq y<=B)(hz:hq z<=2*B)(e:hq u<=2*B):hq (y/z)<=3*B/\hq (y/z*u)<=5*B/\hq (x - y/z*u)<=7*B:=by
 have a:=hq_div y z;have b:=hq_mul (y/z) u;have c:=a6a x (y/z*u);have d:=a7w x;omega
theorem HB.dStep{n c B:Nat}{m:Mat}(h:HB B m)(hs:Shp n c m){t:Nat}(a:t<n)(col s:Nat):HB (7*B) (above (Lin.divL m t col) t col s):=fun i j=>by
 have hd:=hs.divL a col;have b:=h.divL hs a col;rw[a5l hd a];split
 ·refine(b5h ?_ ?_ (b _ _) (b _ _)).2.2
  ·rw[a3I hs a,if_neg (by omega)];exact h _ _
  ·rw[a3I hs a,if_neg (by omega)];exact h _ _
 ·have:=b i j;omega
theorem HB.dN{n c B:Nat}{m:Mat}{p:List Nat}(h:HB B m)(hs:Shp n c m)(he:Ech n c (ent m) p)(t:Nat)(ht:t<=p.length):HB (7^t*B) (dN m p t):=by
 induction t with
 |zero=>simpa[Lin.dN]using h
 |succ t ih=>
  have hk:=b8j hs he t (by omega);have hle:=he.le;refine((ih (by omega)).dStep hk.shp (show t<n by omega) (p.getD t 0) t).mono ?_;rw[Nat.pow_succ,Nat.mul_comm _ 7,Nat.mul_assoc];exact Nat.le_refl _
theorem HB.pv{n c B:Nat}{m:Mat}(h:HB B m)(hs:Shp n c m){i:Nat}(hi:i<n)(col:Nat):HB (3*B) (pv m i col):=fun k j=>by
 rw[b2X hs hi];split
 ·have a:=hq_mul (ent m i j) (1/ent m i col);have b:=hq_div 1 (ent m i col);have:=h i j;have:=h i col;have:=a7w (ent m i j)
  have d:hq 1=1:=by decide+kernel
  omega
 ·have:=h k j;omega
theorem HB.out{n c B:Nat}{m:Mat}(h:HB B m)(hs:Shp n c m){t:Nat}(b:t<n)(col s:Nat):HB (6*B) (Lin.out (Lin.pv m t col) t col s):=fun i j=>by
 have hd:=hs.pv b col;have d:=h.pv hs b col;rw[b0L hd b];split
 ·rename_i a
  have e:∀j,ent (Lin.pv m t col) i j=ent m i j:=fun j=>by rw[b2X hs b,if_neg a.1]
  rw[e,e];have f:=hq_mul (ent (Lin.pv m t col) t j) (- ent m i col);have g:=a8F (ent m i j) (ent (Lin.pv m t col) t j* - ent m i col);rw[a5Z]at f;have:=d t j;have:=h i j;have:=h i col;have:=h.pos;omega
 ·have:=d i j;omega
theorem HB.rN{n c B:Nat}{m:Mat}(h:HB B m)(hs:Shp n c m)(k:Nat):HB (6^(rN m k).2.1.length*B) (rN m k).1/\hq (rN m k).2.2<=6^(rN m k).2.1.length*B:=by
 induction k with
 |zero=>exact⟨by simpa[Lin.rN]using h,by simp[Lin.rN];exact h.pos⟩
 |succ k ih=>
  have hk:=a6p hs k
  show HB (6^(a6L (Lin.rN m k) k).2.1.length*B) (a6L (Lin.rN m k) k).1/\hq (a6L (Lin.rN m k) k).2.2<=6^(a6L (Lin.rN m k) k).2.1.length*B
  generalize Lin.rN m k=s at ih hk |-;obtain⟨M,p,fac⟩:=s;have hM:Shp n c M:=hk.shp;have hl:=hM.1;have hle:p.length<=n:=hk.ref.le;unfold a6L
  dsimp only at ih |-
  split
  ·exact ih
  ·rename_i e q hz
   obtain⟨h1,h2⟩:=a4h hz;have hsw:=(ih.1.swap hM (show p.length+q<n by omega) (show p.length<n by omega));have:=hsw.out (hM.swap (by omega) (by omega)) (show p.length<n by omega) k M.length;have he:6*(6^p.length*B)=6^(p++[k]).length*B:=by
    rw[List.length_append,List.length_singleton,Nat.pow_succ,Nat.mul_comm _ 6,Nat.mul_assoc]
   refine⟨this.mono (Nat.le_of_eq he),?_⟩
   dsimp only
   rw[<-he];have h3:=hsw p.length k;have h4:hq (if q=0 then fac else -fac)<=6^p.length*B:=by
    split
    ·exact ih.2
    ·rw[a5Z];exact ih.2
   have h5:=hq_mul (if q=0 then fac else -fac) (ent (a1j M (p.length+q) p.length) p.length k);omega
def det:Nat->F2->Rat
 |0,_=>1
 |n+1,f=>sm (n+1) fun i=>(if i%2=0 then 1 else -1)*f i 0*det n fun r c=>f (if r<i then r else r+1) (c+1)
theorem a1u{n:Nat}{f g:F2}(h:Eqm n n f g):det n f=det n g:=by
 induction n generalizing f g with
 |zero=>rfl
 |succ n ih=>
  unfold det;refine a0f fun i hi=>?_;rw[h i hi 0 (by omega),ih (g:=fun r c=>g (if r<i then r else r+1) (c+1)) fun r hr c hc=>h _ (by split<;>omega) _ (by omega)]
theorem c1l(f:F2):det 0 f=1:=rfl
theorem a8M(f:F2):det 1 f=f 0 0:=by simp[det,sm];grind
theorem a8N(f:F2):det 2 f=f 0 0*f 1 1 - f 1 0*f 0 1:=by simp[det,sm];grind
theorem a8O(f:F2):det 3 f=f 0 0*(f 1 1*f 2 2 - f 2 1*f 1 2) - f 1 0*(f 0 1*f 2 2 - f 2 1*f 0 2)+f 2 0*(f 0 1*f 1 2 - f 1 1*f 0 2):=by
 simp[det,sm];grind
theorem a8P(f:F2):det 4 f=f 0 0*(f 1 1*(f 2 2*f 3 3 - f 3 2*f 2 3) - f 2 1*(f 1 2*f 3 3 - f 3 2*f 1 3)+f 3 1*(f 1 2*f 2 3 - f 2 2*f 1 3)) - f 1 0*(f 0 1*(f 2 2*f 3 3 - f 3 2*f 2 3) - f 2 1*(f 0 2*f 3 3 - f 3 2*f 0 3)+f 3 1*(f 0 2*f 2 3 - f 2 2*f 0 3)) +f 2 0*(f 0 1*(f 1 2*f 3 3 - f 3 2*f 1 3) - f 1 1*(f 0 2*f 3 3 - f 3 2*f 0 3)+f 3 1*(f 0 2*f 1 3 - f 1 2*f 0 3)) - f 3 0*(f 0 1*(f 1 2*f 2 3 - f 2 2*f 1 3) - f 1 1*(f 0 2*f 2 3 - f 2 2*f 0 3)+f 2 1*(f 0 2*f 1 3 - f 1 2*f 0 3)):=by
 simp[det,sm];grind
theorem lt4{P:Nat->Prop}(h0:P 0)(h1:P 1)(h2:P 2)(h3:P 3)(i:Nat)(hi:i<4):P i:=by
 match i,hi with
 |0,_=>exact h0
 |1,_=>exact h1
 |2,_=>exact h2
 |3,_=>exact h3
theorem lt1{P:Nat->Prop}(h0:P 0)(i:Nat)(hi:i<1):P i:=by
 match i,hi with
 |0,_=>exact h0
theorem b2Y(f g:F2)(i k:Nat)(hi:i<1)(m:k<1)(a:i≠k)(c:∀j,j<1->g i j=f k j)(d:∀j,j<1->g k j=f i j)(h:∀r,r<1->r≠i->r≠k->∀j,j<1->g r j=f r j):det 1 g= - det 1 f:=by
 have e:Eqm 1 1 g (fun r j=>if r=i then f k j else if r=k then f i j else f r j):=fun r l j b=>by
  dsimp only;split
  ·subst_vars;exact c j b
  ·split
   ·subst_vars;exact d j b
   ·exact h r l (by assumption) (by assumption) j b
 rw[a1u e];clear e c d h
 revert a
 revert k
 revert i
 refine lt1 ?_<;>refine lt1 ?_<;>intro a<;>first|exact absurd rfl a|(rw[a8M,a8M];simp;try grind)
theorem b1K(f g:F2)(i:Nat)(a:Rat)(hi:i<1)(b:∀j,j<1->g i j=a*f i j)(c:∀r,r<1->r≠i->∀j,j<1->g r j=f r j):det 1 g=a*det 1 f:=by
 have e:Eqm 1 1 g (fun r j=>if r=i then a*f i j else f r j):=fun r h j d=>by
  dsimp only;split
  ·subst_vars;exact b j d
  ·exact c r h (by assumption) j d
 rw[a1u e];clear e b c
 revert i
 refine lt1 ?_<;>(rw[a8M,a8M];simp;try grind)
theorem b5i(f g:F2)(i k:Nat)(a:Rat)(hi:i<1)(m:k<1)(b:i≠k)(c:∀j,j<1->g i j=f i j+a*f k j)(d:∀r,r<1->r≠i->∀j,j<1->g r j=f r j):det 1 g=det 1 f:=by
 have e:Eqm 1 1 g (fun r j=>if r=i then f i j+a*f k j else f r j):=fun r l j h=>by
  dsimp only;split
  ·subst_vars;exact c j h
  ·exact d r l (by assumption) j h
 rw[a1u e];clear e c d
 revert b
 revert k
 revert i
 refine lt1 ?_<;>refine lt1 ?_<;>intro b<;>first|exact absurd rfl b|(rw[a8M,a8M];simp;try grind)
theorem b5j(f:F2)(_:∀i j,i<1->j<i->f i j=0):det 1 f=f 0 0:=by
 rw[a8M]
theorem lt2{P:Nat->Prop}(h0:P 0)(h1:P 1)(i:Nat)(hi:i<2):P i:=by
 match i,hi with
 |0,_=>exact h0
 |1,_=>exact h1
theorem b2Z(f g:F2)(i k:Nat)(hi:i<2)(m:k<2)(a:i≠k)(c:∀j,j<2->g i j=f k j)(d:∀j,j<2->g k j=f i j)(h:∀r,r<2->r≠i->r≠k->∀j,j<2->g r j=f r j):det 2 g= - det 2 f:=by
 have e:Eqm 2 2 g (fun r j=>if r=i then f k j else if r=k then f i j else f r j):=fun r l j b=>by
  dsimp only;split
  ·subst_vars;exact c j b
  ·split
   ·subst_vars;exact d j b
   ·exact h r l (by assumption) (by assumption) j b
 rw[a1u e];clear e c d h
 revert a
 revert k
 revert i
 refine lt2 ?_ ?_<;>refine lt2 ?_ ?_<;>intro a<;>first|exact absurd rfl a|(rw[a8N,a8N];simp;try grind)
theorem b1L(f g:F2)(i:Nat)(a:Rat)(hi:i<2)(b:∀j,j<2->g i j=a*f i j)(c:∀r,r<2->r≠i->∀j,j<2->g r j=f r j):det 2 g=a*det 2 f:=by
 have e:Eqm 2 2 g (fun r j=>if r=i then a*f i j else f r j):=fun r h j d=>by
  dsimp only;split
  ·subst_vars;exact b j d
  ·exact c r h (by assumption) j d
 rw[a1u e];clear e b c
 revert i
 refine lt2 ?_ ?_<;>(rw[a8N,a8N];simp;try grind)
theorem b5k(f g:F2)(i k:Nat)(a:Rat)(hi:i<2)(m:k<2)(b:i≠k)(c:∀j,j<2->g i j=f i j+a*f k j)(d:∀r,r<2->r≠i->∀j,j<2->g r j=f r j):det 2 g=det 2 f:=by
 have e:Eqm 2 2 g (fun r j=>if r=i then f i j+a*f k j else f r j):=fun r l j h=>by
  dsimp only;split
  ·subst_vars;exact c j h
  ·exact d r l (by assumption) j h
 rw[a1u e];clear e c d
 revert b
 revert k
 revert i
 refine lt2 ?_ ?_<;>refine lt2 ?_ ?_<;>intro b<;>first|exact absurd rfl b|(rw[a8N,a8N];simp;try grind)
theorem b5l(f:F2)(h:∀i j,i<2->j<i->f i j=0):det 2 f=f 0 0*f 1 1:=by
 have a:=h 1 0 (by omega) (by omega);rw[a8N];simp[a];try grind
theorem lt3{P:Nat->Prop}(h0:P 0)(h1:P 1)(h2:P 2)(i:Nat)(hi:i<3):P i:=by
 match i,hi with
 |0,_=>exact h0
 |1,_=>exact h1
 |2,_=>exact h2
theorem b3a(f g:F2)(i k:Nat)(hi:i<3)(m:k<3)(a:i≠k)(c:∀j,j<3->g i j=f k j)(d:∀j,j<3->g k j=f i j)(h:∀r,r<3->r≠i->r≠k->∀j,j<3->g r j=f r j):det 3 g= - det 3 f:=by
 have e:Eqm 3 3 g (fun r j=>if r=i then f k j else if r=k then f i j else f r j):=fun r l j b=>by
  dsimp only;split
  ·subst_vars;exact c j b
  ·split
   ·subst_vars;exact d j b
   ·exact h r l (by assumption) (by assumption) j b
 rw[a1u e];clear e c d h
 revert a
 revert k
 revert i
 refine lt3 ?_ ?_ ?_<;>refine lt3 ?_ ?_ ?_<;>intro a<;>first|exact absurd rfl a|(rw[a8O,a8O];simp;try grind)
theorem b1M(f g:F2)(i:Nat)(a:Rat)(hi:i<3)(b:∀j,j<3->g i j=a*f i j)(c:∀r,r<3->r≠i->∀j,j<3->g r j=f r j):det 3 g=a*det 3 f:=by
 have e:Eqm 3 3 g (fun r j=>if r=i then a*f i j else f r j):=fun r h j d=>by
  dsimp only;split
  ·subst_vars;exact b j d
  ·exact c r h (by assumption) j d
 rw[a1u e];clear e b c
 revert i
 refine lt3 ?_ ?_ ?_<;>(rw[a8O,a8O];simp;try grind)
theorem b5m(f g:F2)(i k:Nat)(a:Rat)(hi:i<3)(m:k<3)(b:i≠k)(c:∀j,j<3->g i j=f i j+a*f k j)(d:∀r,r<3->r≠i->∀j,j<3->g r j=f r j):det 3 g=det 3 f:=by
 have e:Eqm 3 3 g (fun r j=>if r=i then f i j+a*f k j else f r j):=fun r l j h=>by
  dsimp only;split
  ·subst_vars;exact c j h
  ·exact d r l (by assumption) j h
 rw[a1u e];clear e c d
 revert b
 revert k
 revert i
 refine lt3 ?_ ?_ ?_<;>refine lt3 ?_ ?_ ?_<;>intro b<;>first|exact absurd rfl b|(rw[a8O,a8O];simp;try grind)
theorem b5n(f:F2)(h:∀i j,i<3->j<i->f i j=0):det 3 f=f 0 0*f 1 1*f 2 2:=by
 have a:=h 1 0 (by omega) (by omega);have b:=h 2 0 (by omega) (by omega);have c:=h 2 1 (by omega) (by omega);rw[a8O];simp[a,b,c];try grind
theorem b3b(f g:F2)(i k:Nat)(hi:i<4)(m:k<4)(a:i≠k)(c:∀j,j<4->g i j=f k j)(d:∀j,j<4->g k j=f i j)(h:∀r,r<4->r≠i->r≠k->∀j,j<4->g r j=f r j):det 4 g= - det 4 f:=by
 have e:Eqm 4 4 g (fun r j=>if r=i then f k j else if r=k then f i j else f r j):=fun r l j b=>by
  dsimp only;split
  ·subst_vars;exact c j b
  ·split
   ·subst_vars;exact d j b
   ·exact h r l (by assumption) (by assumption) j b
 rw[a1u e];clear e c d h
 revert a
 revert k
 revert i
 refine lt4 ?_ ?_ ?_ ?_<;>refine lt4 ?_ ?_ ?_ ?_<;>intro a<;>first|exact absurd rfl a|(rw[a8P,a8P];simp;try grind)
theorem b1N(f g:F2)(i:Nat)(a:Rat)(hi:i<4)(b:∀j,j<4->g i j=a*f i j)(c:∀r,r<4->r≠i->∀j,j<4->g r j=f r j):det 4 g=a*det 4 f:=by
 have e:Eqm 4 4 g (fun r j=>if r=i then a*f i j else f r j):=fun r h j d=>by
  dsimp only;split
  ·subst_vars;exact b j d
  ·exact c r h (by assumption) j d
 rw[a1u e];clear e b c
 revert i
 refine lt4 ?_ ?_ ?_ ?_<;>(rw[a8P,a8P];simp;try grind)
theorem b5o(f g:F2)(i k:Nat)(a:Rat)(hi:i<4)(m:k<4)(b:i≠k)(c:∀j,j<4->g i j=f i j+a*f k j)(d:∀r,r<4->r≠i->∀j,j<4->g r j=f r j):det 4 g=det 4 f:=by
 have e:Eqm 4 4 g (fun r j=>if r=i then f i j+a*f k j else f r j):=fun r l j h=>by
  dsimp only;split
  ·subst_vars;exact c j h
  ·exact d r l (by assumption) j h
 rw[a1u e];clear e c d
 revert b
 revert k
 revert i
 refine lt4 ?_ ?_ ?_ ?_<;>refine lt4 ?_ ?_ ?_ ?_<;>intro b<;>first|exact absurd rfl b|(rw[a8P,a8P];simp;try grind)
theorem b5p(f:F2)(h:∀i j,i<4->j<i->f i j=0):det 4 f=f 0 0*f 1 1*f 2 2*f 3 3:=by
 have a:=h 1 0 (by omega) (by omega);have b:=h 2 0 (by omega) (by omega);have c:=h 2 1 (by omega) (by omega);have d:=h 3 0 (by omega) (by omega);have e:=h 3 1 (by omega) (by omega);have g:=h 3 2 (by omega) (by omega);rw[a8P];simp[a,b,c,d,e,g];try grind
theorem RE.det_same{n:Nat}{f g:F2}{d:Rat}(hn:n<=4)(h:RE n n f g d):det n g=d*det n f:=by
 induction h with
 |same h=>rw[a1u h];grind
 |swap i k hi hk hik h1 h2 h3=>
  match n,hn with
  |1,_=>rw[b2Y _ _ i k hi hk hik h1 h2 h3];grind
  |2,_=>rw[b2Z _ _ i k hi hk hik h1 h2 h3];grind
  |3,_=>rw[b3a _ _ i k hi hk hik h1 h2 h3];grind
  |4,_=>rw[b3b _ _ i k hi hk hik h1 h2 h3];grind
 |scale i a hi ha h1 h3=>
  match n,hn with
  |1,_=>exact b1K _ _ i a hi h1 h3
  |2,_=>exact b1L _ _ i a hi h1 h3
  |3,_=>exact b1M _ _ i a hi h1 h3
  |4,_=>exact b1N _ _ i a hi h1 h3
 |add i k a hi hk hik h1 h3=>
  match n,hn with
  |1,_=>rw[b5i _ _ i k a hi hk hik h1 h3];grind
  |2,_=>rw[b5k _ _ i k a hi hk hik h1 h3];grind
  |3,_=>rw[b5m _ _ i k a hi hk hik h1 h3];grind
  |4,_=>rw[b5o _ _ i k a hi hk hik h1 h3];grind
 |trans _ _ ih1 ih2=>rw[ih2,ih1];grind
def pr:Nat->(Nat->Rat)->Rat
 |0,_=>1
 |n+1,f=>pr n f*f n
theorem b8m{n:Nat}(hn:n<=4)(f:F2)(h:∀i j,i<n->j<i->f i j=0):det n f=pr n fun i=>f i i:=by
 match n,hn with
 |0,_=>rfl
 |1,_=>rw[b5j f h];simp[pr];try grind
 |2,_=>rw[b5l f h];simp[pr];try grind
 |3,_=>rw[b5n f h];simp[pr];try grind
 |4,_=>rw[b5p f h];simp[pr];try grind
theorem b0N{n:Nat}(b:n<=4)(f:F2)(i:Nat)(hi:i<n)(h:∀j,j<n->f i j=0):det n f=0:=by
 have:=(RE.scale (n:=n) (c:=n) (f:=f) (g:=f) i 2 hi (by grind) (fun j a=>by rw[h j a];grind) (fun _ _ _ _ _=>rfl)).det_same b;grind
theorem Ech.ge{n k:Nat}{f:F2}{p:List Nat}(h:Ech n k f p)(i:Nat)(hi:i<p.length):i<=p[i]:=by
 induction i with
 |zero=>omega
 |succ i ih=>have:=ih (by omega);have:=h.inc i (i+1) (by omega) hi;omega
theorem Ech.det{n:Nat}{f:F2}{p:List Nat}(b:n<=4)(h:Ech n n f p):Lin.det n f=pr n fun i=>f i i:=
 b8m b f fun i j hi c=>by
  by_cases a:i<p.length
  ·exact h.left i a j (by have:=h.ge i a;omega)
  ·exact h.below i (by omega) hi j (by omega)
theorem Rref.ge{n k:Nat}{f:F2}{p:List Nat}(h:Rref n k f p)(i:Nat)(hi:i<p.length):i<=p[i]:=by
 induction i with
 |zero=>omega
 |succ i ih=>have:=ih (by omega);have:=h.inc i (i+1) (by omega) hi;omega
theorem Rref.diag{n c:Nat}{f:F2}{p:List Nat}(h:Rref n c f p)(hp:p.length=n)(hc:∀i (hi:i<p.length),p[i]<n)(i:Nat)(hi:i<n):p[i]'(by omega)=i:=by
 have h1:∀q,q<n->∀hq:n - 1 - q<p.length,p[n - 1 - q]<=n - 1 - q:=by
  intro q
  induction q with
  |zero=>intro h0 hq;have:=hc _ hq;omega
  |succ q ih=>
   intro h0 hq;have h2:=ih (by omega) (by omega);have h3:=h.inc (n - 1 - (q+1)) (n - 1 - q) (by omega) (by omega);omega
 have h2:=h1 (n - 1 - i) (by omega) (by omega);have h3:=h.ge i (by omega);have e:n - 1 - (n - 1 - i)=i:=by omega
 simp only[e]at h2;omega
theorem Rref.unit{n c:Nat}{f:F2}{p:List Nat}(h:Rref n c f p)(d:p.length=n)(a:∀i (hi:i<p.length),p[i]<n):Eqm n n f fun i j=>if i=j then 1 else 0:=fun i hi j b=>by
 have hd:=h.diag d a j b;by_cases e:i=j
 ·subst e
  have:=h.one i (by omega);rw[hd]at this;simpa using this
 ·have:=h.zero j (by omega) i hi e;rw[hd]at this;simpa[e]using this
theorem b0O{n:Nat}(hn:n<=4):det n (fun i j=>if i=j then 1 else 0)=1:=by
 match n,hn with
 |0,_=>rfl
 |1,_=>rw[a8M];simp
 |2,_=>rw[a8N];simp;try grind
 |3,_=>rw[a8O];simp;try grind
 |4,_=>rw[a8P];simp;try grind
theorem Rref.det{n:Nat}{f:F2}{p:List Nat}(a:n<=4)(h:Rref n n f p):Lin.det n f=if p.length=n then 1 else 0:=by
 have b:=h.le;split
 ·rename_i e
  rw[a1u (h.unit e h.lt),b0O a]
 ·exact b0N a f p.length (by omega) (h.below _ (Nat.le_refl _) (by omega))
def mul(n:Nat)(f g:F2):F2:=fun i j=>sm n fun k=>f i k*g k j
def ofF(n c:Nat)(f:F2):Mat:=(List.range n).map fun i=>(List.range c).map (f i)
theorem a9L(n c:Nat)(f:F2):Shp n c (ofF n c f):=⟨by simp[ofF],fun r a=>by
 obtain⟨i,_,rfl⟩:=List.mem_map.1 a;simp⟩
theorem b3c(n c:Nat)(f:F2):Eqm n c (ent (ofF n c f)) f:=fun i hi j a=>by simp[ent,ofF,List.getD_eq_getElem?_getD,hi,a]
theorem RE.congr{n c:Nat}{f a g:F2}{d:Rat}(h:RE n c f g d)(e:Eqm n c a f):RE n c a g d:=(RE.same e).then_ h (by grind)
theorem a9M(n c:Nat)(f:F2):∃r p d,Rref n c r p/\RE n c f r d:=by
 obtain⟨_,a,d,b⟩:=a1d (a9L n c f);exact⟨_,_,d,a,b.congr fun i hi j e=>(b3c n c f i hi j e).symm⟩
theorem RE.factor{n c r:Nat}{f g:F2}{d:Rat}(h:RE n c f g d)(b:F2)(hf:∃a,Eqm n c f (mul r a b)):∃a,Eqm n c g (mul r a b):=by
 induction h with
 |same h=>obtain⟨a,ha⟩:=hf;exact⟨a,fun i hi j hj=>(h i hi j hj).symm.trans (ha i hi j hj)⟩
 |swap i k hi hk hik h1 h2 h3=>
  obtain⟨a,ha⟩:=hf;refine⟨fun q=>if q=i then a k else if q=k then a i else a q,fun q hq j hj=>?_⟩;by_cases e:q=i
  ·subst e;rw[h1 j hj,ha k hk j hj];simp[mul]
  ·by_cases e2:q=k
   ·subst e2;rw[h2 j hj,ha i hi j hj];simp[mul,e]
   ·rw[h3 q hq e e2 j hj,ha q hq j hj];simp[mul,e,e2]
 |scale i x hi hx h1 h3=>
  obtain⟨a,ha⟩:=hf;refine⟨fun q=>if q=i then fun k=>x*a i k else a q,fun q hq j hj=>?_⟩;by_cases e:q=i
  ·subst e;rw[h1 j hj,ha q hq j hj];simp only[mul,if_true];rw[<-a1l];exact a0f fun k _=>by grind
  ·rw[h3 q hq e j hj,ha q hq j hj];simp[mul,e]
 |add i k x hi hk hik h1 h3=>
  obtain⟨a,ha⟩:=hf;refine⟨fun q=>if q=i then fun y=>a i y+x*a k y else a q,fun q hq j hj=>?_⟩;by_cases e:q=i
  ·subst e;rw[h1 j hj,ha q hq j hj,ha k hk j hj];simp only[mul,if_true];rw[<-a1l,<-a5j];exact a0f fun k _=>by grind
  ·rw[h3 q hq e j hj,ha q hq j hj];simp[mul,e]
 |trans _ _ ih1 ih2=>exact ih2 (ih1 hf)
theorem b8n{n c r:Nat}{f g:F2}{p:List Nat}{d:Rat}(o:Rref n c g p)(h:RE n c f g d)(a b:F2)(D:Eqm n c f (mul r a b)):p.length<=r:=by
 refine Classical.byContradiction fun F=>?_;obtain⟨t,G⟩:=h.factor b ⟨a,D⟩;obtain⟨s,q,e,hs,C⟩:=a9M r p.length (fun k i=>t i k);have hq:∃j,j<p.length/\j∉q:=by
  refine Classical.byContradiction fun y=>?_;have m:∀j,j<p.length->j∈q:=fun j l=>Classical.byContradiction fun h=>y ⟨j,l,h⟩;have u:(List.range p.length).length<=q.length:=(List.nodup_range).length_le_of_subset fun j l=>m j (List.mem_range.1 l);rw[List.length_range]at u;have:=hs.le;omega
 obtain⟨j,l,w⟩:=hq;have u:=(C.nul _).2 (hs.nv_nul w l);have B:∀x,x<c->sm p.length (fun i=>nv s q j i*g i x)=0:=fun x hx=>by
  have A:sm p.length (fun i=>nv s q j i*g i x)=sm p.length (fun i=>sm r fun k=>(t i k*nv s q j i)*b k x):=a0f fun i hi=>by
   have:=o.le;rw[G i (by omega) x hx];unfold mul;rw[<-a1l];exact a0f fun k _=>by grind
  rw[A,a2w];exact a2b fun k E=>by
   have:=u k E;rw[a0f (g:=fun i=>b k x*(t i k*nv s q j i)) fun i _=>by grind,a1l,this];grind
 have z:=B p[j] (o.lt j l);rw[a1E j l fun i hi v=>by rw[o.zero j l i (by have:=o.le;omega) v];grind]at z;rw[a4f,o.one j l]at z;grind
theorem b1O{n c:Nat}{f g:F2}{p:List Nat}{d:Rat}(b:Rref n c g p)(h:RE n c f g d):Eqm n c f (mul p.length (fun i k=>f i (p.getD k 0)) g):=by
 intro i hi j o;have m:∀k (a:k<p.length),p.getD k 0=p[k]:=fun k a=>by simp[List.getD_eq_getElem?_getD,a]
 have v:=b.le;have l:∀(F:F2) (i:Nat),sm c (fun x=>F i x*((if x=j then 1 else 0) - sm p.length fun k=>if x=p.getD k 0 then g k j else 0))=F i j - sm p.length (fun k=>F i (p.getD k 0)*g k j):=fun F i=>by
  have r:sm c (fun x=>F i x*((if x=j then 1 else 0) - sm p.length fun k=>if x=p.getD k 0 then g k j else 0))=sm c (fun x=>(if x=j then F i j else 0) - sm p.length fun k=>if x=p.getD k 0 then F i x*g k j else 0):=a0f fun x _=>by
   have:F i x*sm p.length (fun k=>if x=p.getD k 0 then g k j else 0)=sm p.length fun k=>if x=p.getD k 0 then F i x*g k j else 0:=by
    rw[<-a1l];exact a0f fun k _=>by split<;>grind
   rw[<-this];split
   ·subst_vars;grind
   ·grind
  rw[r,a6I,a1E j o fun x _ hx=>by simp[hx],a2w];simp only[if_true]
  congr 1
  exact a0f fun k a=>by
   rw[m k a,a1E p[k] (b.lt k a) fun x _ hx=>by simp[hx]];simp
 have u:Nul n c g (fun x=>(if x=j then 1 else 0) - sm p.length fun k=>if x=p.getD k 0 then g k j else 0):=fun q hq=>by
  rw[l g q];by_cases e:q<p.length
  ·rw[a1E q e fun k a t=>by rw[m k a,b.zero k a q hq (by omega)];grind]
   rw[m q e,b.one q e];grind
  ·rw[b.below q (by omega) hq j o,a2b fun k a=>by rw[m k a,b.below q (by omega) hq _ (b.lt k a)];grind];grind
 have s:=(h.nul _).2 u i hi;rw[l f i]at s
 show f i j=sm p.length fun k=>f i (p.getD k 0)*g k j
 grind
theorem LI.full{n c:Nat}{f r:F2}{p:List Nat}{d:Rat}(b:LI n c f)(a:Rref n c r p)(h:RE n c f r d):p.length=n:=by
 have g:=a.le;refine Classical.byContradiction fun hne=>?_;have:=(h.li b) (fun i=>if i=p.length then 1 else 0) (fun j e=>by
  unfold cmb;rw[a1E p.length (by omega) fun i _ hi=>by simp[hi]];rw[a.below _ (Nat.le_refl _) (by omega) j e];grind) p.length (by omega)
 simp at this
def a4v(r:F2)(p:List Nat)(c:Nat):Mat:=((List.range c).filter (· ∉p)).map fun j=>(List.range c).map (nv r p j)
theorem b5q(r:F2)(p:List Nat)(c:Nat):LI (a4v r p c).length c (ent (a4v r p c)):=by
 intro y q i hi;have d:i<((List.range c).filter (· ∉p)).length:=by simpa[a4v]using hi
 have b:=List.getElem_mem d;rw[List.mem_filter,List.mem_range]at b;have n:=q _ b.1;have m:((List.range c).filter (· ∉p))[i]∉p:=by simpa using b.2
 have o:∀k (h:k<((List.range c).filter (· ∉p)).length),ent (a4v r p c) k ((List.range c).filter (· ∉p))[i]=nv r p ((List.range c).filter (· ∉p))[k] ((List.range c).filter (· ∉p))[i]:=fun k h=>by
  unfold ent a4v;rw[List.getD_eq_getElem?_getD (l:=List.map _ _),List.getElem?_map,List.getElem?_eq_getElem h];simp only[Option.map_some,Option.getD_some];rw[List.getD_eq_getElem?_getD,List.getElem?_map,List.getElem?_range b.1];rfl
 unfold cmb at n;rw[a1E i hi fun k h j=>by
  have f:k<((List.range c).filter (· ∉p)).length:=by simpa[a4v]using h
  have hne:((List.range c).filter (· ∉p))[i]≠((List.range c).filter (· ∉p))[k]:=fun e=>by
   have g:((List.range c).filter (· ∉p)).Pairwise (· < ·):=List.Pairwise.filter _ List.pairwise_lt_range;rw[List.pairwise_iff_getElem]at g;rcases Nat.lt_or_gt_of_ne j with a|a
   ·have:=g k i f d a;omega
   ·have:=g i k d f a;omega
  rw[o k f,a6J m hne];grind,o i d,a4f]at n
 grind
def b3d(r:F2)(p:List Nat)(c:Nat):Nat->Rat:=fun x=>match p.findIdx? (· ==x)with|some i=>r i c|none=>0
def a3s(c:Nat)(f:F2)(b:Nat->Rat):F2:=fun i j=>if j=c then b i else f i j
theorem b5r{n c:Nat}{f:F2}{b:Nat->Rat}(x:Nat->Rat):Nul n (c+1) (a3s c f b) (fun j=>if j=c then -1 else x j)↔∀i,i<n->sm c (fun j=>f i j*x j)=b i:=by
 have a:∀i,sm (c+1) (fun j=>a3s c f b i j*(if j=c then -1 else x j))=sm c (fun j=>f i j*x j) - b i:=fun i=>by
  show sm c _+_=_
  rw[a0f (g:=fun j=>f i j*x j) fun j d=>by simp[a3s,show j≠c by omega]];simp[a3s];grind
 constructor
 ·intro h i hi;have:=h i hi;rw[a]at this;grind
 ·intro h i hi;rw[a,h i hi];grind
theorem b9T{n c:Nat}{f r:F2}{b:Nat->Rat}{p:List Nat}{d:Rat}(g:Rref n (c+1) r p)(h:RE n (c+1) (a3s c f b) r d)(l:c∉p):∀i,i<n->sm c (fun j=>f i j*b3d r p c j)=b i:=by
 refine(b5r (b3d r p c)).1 ((h.nul _).2 fun i hi=>?_);by_cases a:i<p.length
 ·rw[g.row i a]
  have m:p[i]≠c:=by rintro rfl;exact l (List.getElem_mem _)
  rw[if_neg m,a1E c (by omega) fun k s q=>?_]
  ·simp only[b3d,g.idx i a,l,if_false,if_true];grind
  ·split
   ·rfl
   ·rename_i e
    simp only[b3d,a6v e];grind
 ·exact a2b fun j o=>by rw[g.below i (by omega) hi j o];grind
def a0y{α:Type}(m:List (List α)):Bool:=decide (m.length<=96)&&m.all fun r=>decide (1<=r.length/\r.length<=96/\r.length=(m.getD 0 []).length)
def colsL{α:Type}(m:List (List α)):Nat:=(m.getD 0 []).length
theorem a1L{α:Type}{m:List (List α)}:a0y m=true↔m.length<=96/\∀i (hi:i<m.length),1<=m[i].length/\m[i].length<=96/\m[i].length=colsL m:=by
 unfold a0y colsL;rw[Bool.and_eq_true,decide_eq_true_eq,List.all_eq_true];constructor
 ·rintro ⟨a,b⟩
  exact⟨a,fun i hi=>by simpa using b _ (List.getElem_mem hi)⟩
 ·rintro ⟨a,b⟩
  refine⟨a,fun r c=>?_⟩;obtain⟨i,hi,rfl⟩:=List.getElem_of_mem c;simpa using b i hi
theorem a5m{α:Type}{m:List (List α)}(i:Nat)(hi:i<m.length)(h:¬(1<=m[i].length/\m[i].length<=96/\m[i].length=colsL m)):false=a0y m:=by
 symm;cases a:a0y m
 ·rfl
 ·exact absurd ((a1L.1 a).2 i hi) h
theorem a2d{α:Type}{m:List (List α)}(h:0<m.length):colsL m=m[0].length:=by simp[colsL,List.getD_eq_getElem?_getD,h]
theorem a0D{m:List (List Rat)}(h:a0y m=true):Shp m.length (colsL m) m/\m.length<=96/\colsL m<=96/\(0<m.length->1<=colsL m)/\(m.length=0->colsL m=0):=by
 have b:=a1L.1 h;refine⟨⟨rfl,fun r c=>?_⟩,b.1,?_,fun a=>?_,fun a=>?_⟩
 ·obtain⟨i,hi,rfl⟩:=List.getElem_of_mem c
  exact(b.2 i hi).2.2
 ·by_cases a:0<m.length
  ·have:=b.2 0 a;omega
  ·have:m= []:=List.eq_nil_of_length_eq_zero (by omega)
   subst this;simp[colsL]
 ·have:=b.2 0 a;omega
 ·have:m= []:=List.eq_nil_of_length_eq_zero a
  subst this;rfl
end Go.Lin
namespace Go.Proofs.YtgbbpgflopajaaaGreat
open Go.RowKit Go.Rep Go.Lim Go.Lin
theorem a2i{R:Mem->Value->Rat->Prop}(X:Nat->Bool)(w:World)(u:Value)(m:List (List Rat))(l:SlV (SlV R 3) 1 (mk X w) u m):Calls Tryz.prog 304 #[u] w (fun e o=>o=w/\e= .returned (.int .i64 (colsL m:Int))):=by
 obtain⟨ao,r,rfl,i,a⟩:=l;have j:=a.hd;by_cases h:0<m.length
 ·obtain⟨p,q,g,c,d,k⟩:=a.row 0 h
  have n:=c.out noY w (ExtX.refl _) rfl;have b:=hid (a2d h);have f:((m.length:Int)==0)=false:=a2H (by omega);go_enter Tryz.func304,Tryz.ntmps304
  go_wp2_with (with_reducible refine a0s a0p (by omega) (by assumption) ?_)
  go_ret
  exact⟨rfl,a0O (by rw[b.out])⟩
 ·have b:Hid (colsL m=0):=hid (by
   have:m= []:=List.eq_nil_of_length_eq_zero (by omega);subst this;rfl)
  have f:((m.length:Int)==0)=true:=a7k (by omega);go_enter Tryz.func304,Tryz.ntmps304
  go_wp2_with (with_reducible refine a0s a0p (by omega) (by assumption) ?_)
  go_ret
  exact⟨rfl,a0O (by rw[b.out];rfl)⟩
theorem a2l{R:Mem->Value->Rat->Prop}(X:Nat->Bool)(w:World)(u:Value)(m:List (List Rat))(O:SlV (SlV R 3) 1 (mk X w) u m)(Y:m.length<=1099511627776):Calls Tryz.prog 300 #[u] w (fun e Q=>Q=w/\e= .returned (.bool (a0y m))):=by
 obtain⟨ao,W,rfl,L,g⟩:=O;have N:=g.hd;by_cases H:96<m.length
 ·have b:Hid (false=a0y m):=hid (by
   symm;cases M:a0y m
   ·rfl
   ·have:=(a1L.1 M).1;omega)
  have I:(96:Int)<(m.length:Int):=by omega
  go_enter Tryz.func300,Tryz.ntmps300
  go_wp2_with fail
  go_ret
  exact⟨rfl,a0n b.out⟩
 ·have I:¬(96:Int)<(m.length:Int):=by omega
  go_enter Tryz.func300,Tryz.ntmps300
  go_wp2_with fail
  go_loop [10] (fun c=>∃(i:Nat),c= .int .i64 i/\i<=m.length/\Hid (∀q,q<i->∀hq:q<m.length,1<=m[q].length/\m[q].length<=96/\m[q].length=colsL m)) (fun c=>m.length - (intOf c).toNat)
  case atStart=>exact⟨0,rfl,Nat.zero_le _,fun q hq=>by omega⟩
  case round=>
   obtain⟨i,rfl,hi,r⟩:=hrel;by_cases p:i<m.length
   ·have D:0<m.length:=by omega
    obtain⟨S,U,J,k,n,v⟩:=g.row i p;obtain⟨T,V,K,l,o,z⟩:=g.row 0 D;have C:=k.out noY w (ExtX.refl _) rfl;have t:=l.out noY w (ExtX.refl _) rfl;have f:=a2d D;have a:=hid (a5m i p);rw[<-f]at t;obtain⟨x,hx⟩:∃x,m[i].length=x:=⟨_,rfl⟩;obtain⟨y,B⟩:∃y,colsL m=y:=⟨_,rfl⟩;rw[hx]at C a;rw[B]at t a;have A:Hid (1<=x/\x<=96/\x=y->∀hq:i<m.length,1<=m[i].length/\m[i].length<=96/\m[i].length=colsL m):=hid fun h hq=>by rw[hx,B];exact h
    clear hx B f k l v z n o;by_cases d:x=0
    ·have E:((x:Int)==0)=true:=a7k (by omega)
     have b:=hid (a.out (by omega));clear d;go_wp2_with (with_reducible refine a0s a0p (by omega) (by assumption) ?_)
     go_ret
     exact⟨rfl,a0n b.out⟩
    ·have E:((x:Int)==0)=false:=a2H (by omega)
     by_cases P:96<x
     ·have F:(96:Int)<(x:Int):=by omega
      have b:=hid (a.out (by omega));clear d;go_wp2_with (with_reducible refine a0s a0p (by omega) (by assumption) ?_)
      go_ret
      exact⟨rfl,a0n b.out⟩
     ·have F:¬(96:Int)<(x:Int):=by omega
      by_cases j:x=y
      ·have G:((x:Int) !=(y:Int))=false:=a8D (by omega)
       have s:=hid (A.out ⟨by omega,by omega,j⟩);clear d j;go_wp2_with (with_reducible refine a0s a0p (by omega) (by assumption) ?_)
       go_round
       case rel=>exact⟨i+1,by go_num,by omega,a3p r.out s.out⟩
       case measure=>simp[intOf];omega
      ·have G:((x:Int) !=(y:Int))=true:=a8A (by omega)
       have b:=hid (a.out (by omega));clear d j;go_wp2_with (with_reducible refine a0s a0p (by omega) (by assumption) ?_)
       go_ret
       exact⟨rfl,a0n b.out⟩
   ·have b:Hid (true=a0y m):=hid (by
     symm;exact a1L.2 ⟨by omega,fun q hq=>r.out q (by omega) hq⟩)
    go_wp2_with fail
    go_ret
    exact⟨rfl,a0n b.out⟩
end Go.Proofs.YtgbbpgflopajaaaGreat
namespace Go.Lin
open Go.Rep
def a6M{α:Type}(m:List (List α))(lo hi:Nat):Bool:=decide (∀i (h:i<m.length),m[i].length=colsL m/\lo<=m[i].length/\m[i].length<=hi)
theorem a4r{α:Type}{m:List (List α)}{lo hi:Nat}:a6M m lo hi=true↔∀i (h:i<m.length),m[i].length=colsL m/\lo<=m[i].length/\m[i].length<=hi:=by unfold a6M;simp
theorem a9N{α:Type}{m:List (List α)}{lo hi:Nat}(i:Nat)(h:i<m.length)(a:¬(m[i].length=colsL m/\lo<=m[i].length/\m[i].length<=hi)):false=a6M m lo hi:=by
 symm;cases hs:a6M m lo hi
 ·rfl
 ·exact absurd (a4r.1 hs i h) a
def c1P{α:Type}(m:List (List α)):Bool:=decide (1<=m.length)&&(decide (m.length<=64)&&a6M m 1 3)
end Go.Lin
namespace Go.Proofs.YtgbbpgflopajaaaGreat
open Go.RowKit Go.Rep Go.Lim Go.Lin
theorem b3e{R:Mem->Value->Rat->Prop}(X:Nat->Bool)(w:World)(u:Value)(m:List (List Rat))(lo hi:Nat)(L:SlV (SlV R 3) 1 (mk X w) u m)(V:m.length<=1099511627776):Calls Tryz.prog 194 #[u, .int .i64 (lo:Int), .int .i64 (hi:Int)] w (fun e O=>O=w/\e= .returned (.bool (a6M m lo hi))):=by
 obtain⟨ao,U,rfl,I,f⟩:=L;have J:=f.hd;go_enter Tryz.func194,Tryz.ntmps194
 go_wp2_with fail
 go_loop [11] (fun c=>∃(i:Nat),c= .int .i64 i/\i<=m.length/\Hid (∀q,q<i->∀hq:q<m.length,m[q].length=colsL m/\lo<=m[q].length/\m[q].length<=hi)) (fun c=>m.length - (intOf c).toNat)
 case atStart=>exact⟨0,rfl,Nat.zero_le _,fun q hq=>by omega⟩
 case round=>
  obtain⟨i,rfl,K,p⟩:=hrel;by_cases o:i<m.length
  ·have C:0<m.length:=by omega
   obtain⟨P,S,G,j,l,t⟩:=f.row i o;obtain⟨Q,T,H,k,n,v⟩:=f.row 0 C;have B:=j.out noY w (ExtX.refl _) rfl;have s:=k.out noY w (ExtX.refl _) rfl;have d:=a2d C;have a:=hid (a9N (lo:=lo) (hi:=hi) i o);rw[<-d]at s;obtain⟨x,hx⟩:∃x,m[i].length=x:=⟨_,rfl⟩;obtain⟨y,A⟩:∃y,colsL m=y:=⟨_,rfl⟩;rw[hx]at B a;rw[A]at s a;have z:Hid (x=y/\lo<=x/\x<=hi->∀hq:i<m.length,m[i].length=colsL m/\lo<=m[i].length/\m[i].length<=hi):=hid fun h hq=>by rw[hx,A];exact h
   clear hx A d j k t v l n;by_cases b:x=y
   ·have F:((x:Int) !=(y:Int))=false:=a8D (by omega)
    by_cases M:x<lo
    ·have D:(x:Int)<(lo:Int):=by omega
     have g:=hid (a.out (by omega));clear b;go_wp2_with (with_reducible refine a0s a0p (by omega) (by assumption) ?_)
     go_ret
     exact⟨rfl,a0n g.out⟩
    ·have D:¬(x:Int)<(lo:Int):=by omega
     by_cases N:hi<x
     ·have E:(hi:Int)<(x:Int):=by omega
      have g:=hid (a.out (by omega));clear b;go_wp2_with (with_reducible refine a0s a0p (by omega) (by assumption) ?_)
      go_ret
      exact⟨rfl,a0n g.out⟩
     ·have E:¬(hi:Int)<(x:Int):=by omega
      have r:=hid (z.out ⟨b,by omega,by omega⟩);clear b;go_wp2_with (with_reducible refine a0s a0p (by omega) (by assumption) ?_)
      go_round
      case rel=>exact⟨i+1,by go_num,by omega,a3p p.out r.out⟩
      case measure=>simp[intOf];omega
   ·have F:((x:Int) !=(y:Int))=true:=a8A (by omega)
    have g:=hid (a.out (by omega));clear b;go_wp2_with (with_reducible refine a0s a0p (by omega) (by assumption) ?_)
    go_ret
    exact⟨rfl,a0n g.out⟩
  ·have g:Hid (true=a6M m lo hi):=hid (by
    symm;exact a4r.2 fun q hq=>p.out q (by omega) hq)
   go_wp2_with fail
   go_ret
   exact⟨rfl,a0n g.out⟩
end Go.Proofs.YtgbbpgflopajaaaGreat
namespace Go.Lin
abbrev Vec:=Nat->Rat
def dot(c:Nat)(u v:Vec):Rat:=sm c fun j=>u j*v j
def nz(c:Nat)(u:Vec):Prop:=∃j,j<c/\u j≠0
theorem a2x(c:Nat)(u v:Vec):dot c u v=dot c v u:=a0f fun j _=>by grind
theorem b8o(c:Nat)(u v x:Vec):dot c (fun j=>u j+v j) x=dot c u x+dot c v x:=by
 unfold dot;rw[<-a5j];exact a0f fun j _=>by grind
theorem b8p(c:Nat)(a:Rat)(u x:Vec):dot c (fun j=>a*u j) x=a*dot c u x:=by
 unfold dot;rw[<-a1l];exact a0f fun j _=>by grind
theorem a6N(c:Nat)(u v:Vec)(t:Rat)(x:Vec):dot c (fun j=>u j+t*v j) x=dot c u x+t*dot c v x:=by
 rw[b8o c u (fun j=>t*v j),b8p]
theorem a8Q{c:Nat}{u u' v:Vec}(h:∀j,j<c->u j=u' j):dot c u v=dot c u' v:=a0f fun j a=>by rw[h j a]
theorem a3J{c:Nat}{u v:Vec}(h:∀j,j<c->u j=0):dot c u v=0:=a2b fun j a=>by rw[h j a];grind
theorem b3f{n:Nat}{f:Nat->Rat}(h:∀i,i<n->0<=f i):0<=sm n f:=by
 induction n with
 |zero=>exact Rat.le_refl
 |succ n ih=>unfold sm;have:=ih fun i hi=>h i (by omega);have:=h n (by omega);grind
theorem a9O{n:Nat}{f:Nat->Rat}(h:∀i,i<n->0<=f i)(h0:sm n f=0):∀i,i<n->f i=0:=by
 induction n with
 |zero=>intro i hi;omega
 |succ n ih=>
  unfold sm at h0;have h1:=b3f (n:=n) fun i hi=>h i (by omega);have h2:=h n (by omega);have h3:sm n f=0:=by grind
  have h4:f n=0:=by grind
  intro i hi;by_cases e:i=n
  ·subst e;exact h4
  ·exact ih (fun i hi=>h i (by omega)) h3 i (by omega)
theorem b3g(a:Rat):0<=a*a:=by
 rcases Rat.le_total (a:=0) (b:=a)with h|h
 ·exact Rat.mul_nonneg h h
 ·have:0<=(-a)*(-a):=Rat.mul_nonneg (by grind) (by grind)
  grind
theorem b5s{c:Nat}{u:Vec}(h:dot c u u=0):∀j,j<c->u j=0:=fun j a=>by
 have:=a9O (fun i _=>b3g (u i)) h j a;rcases Rat.mul_eq_zero.1 this with e|e<;>exact e
theorem b9U{c:Nat}{u:Vec}(h:¬∀j,j<c->u j=0):nz c u:=by
 apply Classical.byContradiction;intro b;exact h fun j a=>Classical.byContradiction fun e=>b ⟨j,a,e⟩
theorem nz.not{c:Nat}{u:Vec}(h:nz c u):¬∀j,j<c->u j=0:=fun k=>let ⟨j,a,e⟩:=h;e (k j a)
theorem b9V{c:Nat}{u v:Vec}(h:dot c u v≠0):nz c u:=b9U fun k=>h (a3J k)
def a4O(c:Nat)(u:Vec)(z:List Vec):Nat:=z.countP fun v=>decide (0<=dot c u v)
def a9P(c:Nat)(u:Vec)(z:List Vec):Nat:=z.countP fun v=>decide (0<dot c u v)
def onL(c:Nat)(u:Vec)(z:List Vec):List Vec:=z.filter fun v=>decide (dot c u v=0)
def a4w(c:Nat)(z:List Vec)(k:Nat):Prop:=(∃u,nz c u/\a4O c u z=k)/\∀u,nz c u->k<=a4O c u z
theorem b5t{P:Nat->Prop}(n:Nat)(h:P n):∃k,P k/\∀m,P m->k<=m:=by
 induction n using Nat.strongRecOn with
 |_ n ih=>
  by_cases hs:∃m,m<n/\P m
  ·obtain⟨m,h1,h2⟩:=hs;exact ih m h1 h2
  ·exact⟨n,h,fun m hm=>by
    rcases Nat.lt_or_ge m n with h1|h1
    ·exact absurd ⟨m,h1,hm⟩ hs
    ·exact h1⟩
theorem b9W{c:Nat}(d:0<c)(z:List Vec):∃k,a4w c z k:=by
 obtain⟨k,a,b⟩:=b5t (P:=fun k=>∃u,nz c u/\a4O c u z=k) (a4O c (fun _=>1) z) ⟨fun _=>1,⟨0,d,by grind⟩,rfl⟩;exact⟨k,a,fun u e=>b _ ⟨u,e,rfl⟩⟩
theorem b5u(c:Nat)(u:Vec)(z:List Vec):a4O c u z<=z.length:=List.countP_le_length
theorem a4w.le{c:Nat}{z:List Vec}{k:Nat}(h:a4w c z k):k<=z.length:=by
 obtain⟨⟨u,_,a⟩,_⟩:=h;rw[<-a];exact b5u _ _ _
def c0Z(c:Nat)(u y:Vec)(z:List Vec)(e:Rat):Prop:=∀v∈z,(0<dot c u v->∀t,0<t->t<=e->0<dot c u v+t*dot c y v)/\(dot c u v<0->∀t,0<t->t<=e->dot c u v+t*dot c y v<0)
theorem b9X(a b:Rat):∃e,0<e/\(0<a->∀t,0<t->t<=e->0<a+t*b):=by
 by_cases f:0<a
 ·by_cases j:0<=b
  ·exact⟨1,by decide,fun _ t d _=>by have:=Rat.mul_nonneg (a:=t) (b:=b) (by grind) j;grind⟩
  ·have c:0< -b:=by grind
   refine⟨a/(2* -b),?_,fun _ t d g=>?_⟩
   ·rw[Rat.div_def];exact Rat.mul_pos f (Rat.inv_pos.2 (by grind))
   ·have i:t*(2* -b)<=a/(2* -b)*(2* -b):=Rat.mul_le_mul_of_nonneg_right g (by grind)
    rw[Rat.div_mul_cancel (by grind)]at i;have k:=Rat.mul_pos d c;grind
 ·exact⟨1,by decide,fun h=>absurd h f⟩
theorem c0Z.le{c:Nat}{u y:Vec}{z:List Vec}{e d:Rat}(h:c0Z c u y z e)(hd:d<=e):c0Z c u y z d:=fun v g=>
 ⟨fun a t b f=>(h v g).1 a t b (Rat.le_trans f hd),fun a t b f=>(h v g).2 a t b (Rat.le_trans f hd)⟩
theorem b8q(c:Nat)(u y:Vec)(z:List Vec):∃e,0<e/\c0Z c u y z e:=by
 induction z with
 |nil=>exact⟨1,by decide,fun v hv=>by simp at hv⟩
 |cons v z ih=>
  obtain⟨e1,h1,h2⟩:=ih;obtain⟨e2,h3,h4⟩:=b9X (dot c u v) (dot c y v);obtain⟨e3,h5,h6⟩:=b9X (-dot c u v) (-dot c y v);obtain⟨e,he,l1,l2,l3⟩:∃e,0<e/\e<=e1/\e<=e2/\e<=e3:=by
   by_cases a:e1<=e2
   ·by_cases b:e1<=e3
    ·exact⟨e1,h1,Rat.le_refl,a,b⟩
    ·exact⟨e3,h5,by grind,by grind,Rat.le_refl⟩
   ·by_cases b:e2<=e3
    ·exact⟨e2,h3,by grind,Rat.le_refl,b⟩
    ·exact⟨e3,h5,by grind,by grind,Rat.le_refl⟩
  refine⟨e,he,fun w hw=>?_⟩;rcases List.mem_cons.1 hw with rfl|hw
  ·refine⟨fun g t g1 g2=>h4 g t g1 (Rat.le_trans g2 l2),fun g t g1 g2=>?_⟩
   have:=h6 (by grind) t g1 (Rat.le_trans g2 l3);grind
  ·exact(h2.le l1) w hw
theorem b3h(c:Nat)(u u' u2:Vec)(z:List Vec)(h:∀v∈z,(0<dot c u v->0<dot c u2 v)/\(dot c u v<0->dot c u2 v<0)/\(dot c u v=0->(0<=dot c u2 v↔0<=dot c u' v))):a4O c u2 z=a9P c u z+a4O c u' (onL c u z):=by
 induction z with
 |nil=>rfl
 |cons v z ih=>
  have ih:=ih fun w hw=>h w (List.mem_cons_of_mem _ hw);obtain⟨h1,h2,h3⟩:=h v List.mem_cons_self;unfold a4O a9P onL at*;rw[List.countP_cons,List.countP_cons,List.filter_cons,ih];by_cases a:0<dot c u v
  ·have b:=h1 a
   rw[if_pos (by simp;grind),if_pos (by simpa using a),if_neg (by simp;grind)];omega
  ·by_cases b:dot c u v=0
   ·have k:=h3 b
    rw[if_neg (c:=decide (0<dot c u v)=true) (by simpa using a),if_pos (c:=decide (dot c u v=0)=true) (by simpa using b),List.countP_cons];by_cases g:0<=dot c u2 v
    ·rw[if_pos (by simpa using g),if_pos (by simpa using k.1 g)];omega
    ·rw[if_neg (by simpa using g),if_neg (by simpa using fun x=>g (k.2 x))];omega
   ·have k:=h2 (by grind)
    rw[if_neg (by simp;grind),if_neg (by simpa using a),if_neg (by simpa using b)];omega
theorem c2d{c:Nat}{u u':Vec}(n:nz c u)(z:List Vec):∃l,nz c l/\a4O c l z=a9P c u z+a4O c u' (onL c u z):=by
 obtain⟨j,m,hne⟩:=n;have b:dot c u (fun i=>if i=j then 1 else 0)=u j:=by
  unfold dot;rw[a1E j m (fun i _ h=>by simp[h])];simp
 obtain⟨e,a,d⟩:=b8q c u u' ((fun i=>if i=j then 1 else 0)::z);refine⟨fun i=>u i+e*u' i,?_,b3h c u u' _ z fun v k=>⟨fun h=>?_,fun h=>?_,fun h=>?_⟩⟩
 ·have f:=d _ List.mem_cons_self
  rw[b]at f;apply b9V (v:=fun i=>if i=j then 1 else 0);rw[a6N,b];by_cases h:0<u j
  ·have:=f.1 h e a Rat.le_refl;grind
  ·have:=f.2 (by grind) e a Rat.le_refl;grind
 ·rw[a6N];exact(d v (List.mem_cons_of_mem _ k)).1 h e a Rat.le_refl
 ·rw[a6N];exact(d v (List.mem_cons_of_mem _ k)).2 h e a Rat.le_refl
 ·rw[a6N,h]
  constructor
  ·intro g
   apply Classical.byContradiction;intro o;have:=Rat.mul_pos a (show 0< - dot c u' v by grind);grind
  ·intro g;have:=Rat.mul_nonneg (Rat.le_of_lt a) g;grind
theorem a4w.lower{c:Nat}{z:List Vec}{k l:Nat}(h:a4w c z k){u:Vec}(d:nz c u)(b:a4w c (onL c u z) l):k<=a9P c u z+l:=by
 obtain⟨⟨u',f,g⟩,_⟩:=b;obtain⟨e,a,i⟩:=c2d (u':=u') d z;have:=h.2 e a;omega
def Ort(c:Nat)(M:List Vec)(y:Vec):Prop:=∀v∈M,dot c v y=0
theorem Ort.app{c:Nat}{M L:List Vec}{y:Vec}:Ort c (M++L) y↔Ort c M y/\Ort c L y:=by
 constructor
 ·exact fun h=>⟨fun v a=>h v (List.mem_append_left _ a),fun v a=>h v (List.mem_append_right _ a)⟩
 ·rintro ⟨b,d⟩ v a
  rcases List.mem_append.1 a with a|a
  ·exact b v a
  ·exact d v a
theorem a8e(c:Nat)(v u y:Vec)(t:Rat):dot c v (fun j=>u j+t*y j)=dot c v u+t*dot c v y:=by
 rw[a2x,a6N,a2x c u v,a2x c y v]
theorem Ort.lin{c:Nat}{M:List Vec}{u y:Vec}(t:Rat)(b:Ort c M u)(d:Ort c M y):Ort c M (fun j=>u j+t*y j):=fun v a=>by
 rw[a8e,b v a,d v a];grind
theorem Ort.congr{c:Nat}{M:List Vec}{u y:Vec}(h:∀j,j<c->u j=y j)(a:Ort c M u):Ort c M y:=fun v b=>by
 rw[a2x,<-a8Q h,a2x];exact a v b
theorem b8r(c k:Nat)(f:F2)(a:Vec)(v:Vec):dot c v (fun j=>cmb k f a j)=sm k fun i=>a i*dot c v (f i):=by
 unfold dot cmb;rw[a0f (g:=fun j=>sm k fun i=>v j*(a i*f i j)) fun j _=>(a1l k (v j) _).symm,a2w];exact a0f fun i _=>by rw[<-a1l];exact a0f fun j _=>by grind
structure Basis (c:Nat) (P:Vec->Prop) (k:Nat) (f:F2):Prop where
 mem:∀i,i<k->P (f i)
 li:LI k c f
 span:∀y,P y->∃a:Vec,∀j,j<c->y j=cmb k f a j
theorem b3i{k m c:Nat}{f g:F2}(o:LI k c f)(h:∀i,i<k->∃a:Vec,∀j,j<c->f i j=cmb m g a j):k<=m:=by
 obtain⟨r,p,d,l,b⟩:=a9M k c f;have s:=o.full l b;have e:∀i,∃a:Vec,i<k->∀j,j<c->f i j=cmb m g a j:=fun i=>by
  by_cases hi:i<k
  ·obtain⟨a,n⟩:=h i hi;exact⟨a,fun _=>n⟩
  ·exact⟨fun _=>0,fun h=>absurd h hi⟩
 have:=b8n l b (fun i=>(e i).choose) g fun i hi j q=>(e i).choose_spec hi j q;omega
theorem Basis.le{c:Nat}{P Q:Vec->Prop}{k m:Nat}{f g:F2}(h:Basis c P k f)(b:Basis c Q m g)(a:∀y,P y->Q y):k<=m:=
 b3i h.li fun i hi=>b.span _ (a _ (h.mem i hi))
theorem b5v{n c:Nat}{r:F2}{p:List Nat}(h:Rref n c r p){x:Vec}(hx:Nul n c r x)(j:Nat)(hj:j<c):x j=cmb (a4v r p c).length (ent (a4v r p c)) (fun i=>x (((List.range c).filter (· ∉p)).getD i 0)) j:=by
 obtain⟨F,hF⟩:∃F,(List.range c).filter (· ∉p)=F:=⟨_,rfl⟩;have hlen:(a4v r p c).length=F.length:=by rw[<-hF];simp[a4v]
 have he:∀i (hi:i<F.length),ent (a4v r p c) i j=nv r p F[i] j:=fun i hi=>by
  unfold ent a4v;rw[hF,List.getD_eq_getElem?_getD (l:=List.map _ _),List.getElem?_map,List.getElem?_eq_getElem hi];simp only[Option.map_some,Option.getD_some];rw[List.getD_eq_getElem?_getD,List.getElem?_map,List.getElem?_range hj];rfl
 have hFm:∀q,q∈F↔q<c/\q∉p:=fun q=>by rw[<-hF];simp
 have hnd:F.Pairwise (· < ·):=by rw[<-hF];exact List.Pairwise.filter _ List.pairwise_lt_range
 have hgd:∀i (hi:i<F.length),F.getD i 0=F[i]:=fun i hi=>by simp[List.getD_eq_getElem?_getD,hi]
 rw[hF,hlen];unfold cmb;rw[a0f (g:=fun i=>x (F.getD i 0)*nv r p (F.getD i 0) j) fun i hi=>by rw[he i hi];dsimp only;rw[hgd i hi]];by_cases hjp:j∈p
 ·obtain⟨i0,hi0,rfl⟩:=List.getElem_of_mem hjp
  have hn:∀q,q∉p->nv r p q p[i0]= - r i0 q:=fun q hq=>h.nv_piv hq i0 hi0;have hrow:=h.row i0 hi0 x;have h0:=hx i0 (by have:=h.le;omega);rw[hrow]at h0;have key:∀(g:Nat->Rat),sm F.length (fun i=>g (F.getD i 0))=sm c (fun q=>if q∈p then 0 else g q):=fun g=>by
   have gen:∀(k:Nat) (G:List Nat),G=(List.range k).filter (· ∉p)->sm G.length (fun i=>g (G.getD i 0))=sm k (fun q=>if q∈p then 0 else g q):=by
    intro k
    induction k with
    |zero=>intro G hG;subst hG;rfl
    |succ k ih=>
     intro G hG;rw[List.range_succ,List.filter_append]at hG;have ih:=ih _ rfl
     show _=sm k _+_
     by_cases hk:k∈p
     ·have:(List.filter (· ∉p) [k])= []:=by simp[hk]
      rw[this,List.append_nil]at hG;subst hG;rw[ih];simp[hk];grind
     ·have:(List.filter (· ∉p) [k])= [k]:=by simp[hk]
      rw[this]at hG;subst hG;obtain⟨H,hH⟩:∃H,List.filter (· ∉p) (List.range k)=H:=⟨_,rfl⟩;rw[hH]at ih |-;rw[List.length_append,<-ih]
      show sm H.length _+_=_
      congr 1
      ·exact a0f fun i hi=>by simp[List.getD_eq_getElem?_getD,List.getElem?_append_left hi]
      ·simp[hk,List.getD_eq_getElem?_getD]
   exact gen c F hF.symm
  have k1:=key (fun q=>x q* - r i0 q);have k2:sm c (fun q=>if q∈p then 0 else x q* - r i0 q)= - sm c (fun q=>if q∈p then 0 else r i0 q*x q):=by
   have:=a1l c (-1) (fun q=>if q∈p then 0 else r i0 q*x q);rw[show -sm c (fun q=>if q∈p then 0 else r i0 q*x q)= -1*sm c (fun q=>if q∈p then 0 else r i0 q*x q)by grind,<-this];exact a0f fun q _=>by split<;>grind
  have k3:sm F.length (fun i=>x (F.getD i 0)*nv r p (F.getD i 0) p[i0])=sm F.length (fun i=>x (F.getD i 0)* - r i0 (F.getD i 0)):=a0f fun i hi=>by
   rw[hgd i hi,hn _ ((hFm _).1 (List.getElem_mem hi)).2]
  rw[k3,k1,k2];grind
 ·obtain⟨i0,hi0,hij⟩:=List.getElem_of_mem ((hFm j).2 ⟨hj,hjp⟩)
  rw[a1E i0 hi0 fun i hi hne=>by
   rw[hgd i hi];have:F[i]≠j:=fun e=>by
    rw[List.pairwise_iff_getElem]at hnd;rcases Nat.lt_or_gt_of_ne hne with a|a
    ·have:=hnd i i0 hi hi0 a;omega
    ·have:=hnd i0 i hi0 hi a;omega
   rw[a6J hjp (Ne.symm this)];grind]
  rw[hgd i0 hi0,hij,a4f];grind
theorem b1P{n c:Nat}{f r:F2}{p:List Nat}{d:Rat}(k:Rref n c r p)(h:RE n c f r d):Basis c (Nul n c f) (a4v r p c).length (ent (a4v r p c)):=by
 refine⟨fun i hi=>?_,b5q r p c,fun y o=>⟨_,fun j b=>b5v k ((h.nul y).1 o) j b⟩⟩;have a:i<((List.range c).filter (· ∉p)).length:=by simpa[a4v]using hi
 have e:=List.getElem_mem a;rw[List.mem_filter,List.mem_range]at e;have g:((List.range c).filter (· ∉p))[i]∉p:=by simpa using e.2
 have m:=(h.nul _).2 (k.nv_nul g e.1);intro q hq;rw[<-m q hq];refine a0f fun j b=>?_
 congr 1
 unfold ent a4v;rw[List.getD_eq_getElem?_getD (l:=List.map _ _),List.getElem?_map,List.getElem?_eq_getElem a];simp only[Option.map_some,Option.getD_some];rw[List.getD_eq_getElem?_getD,List.getElem?_map,List.getElem?_range b];rfl
def fL(M:List Vec):F2:=fun i=>M.getD i fun _=>0
theorem b8s(c:Nat)(M:List Vec)(y:Vec):Ort c M y↔Nul M.length c (fL M) y:=by
 constructor
 ·intro h i hi
  have:=h M[i] (List.getElem_mem hi);unfold dot at this;rw[<-this];exact a0f fun j _=>by simp[fL,List.getD_eq_getElem?_getD,hi]
 ·intro h v a
  obtain⟨i,hi,rfl⟩:=List.getElem_of_mem a;have:=h i hi;unfold dot;rw[<-this];exact a0f fun j _=>by simp[fL,List.getD_eq_getElem?_getD,hi]
def Dim(c:Nat)(M:List Vec)(k:Nat):Prop:=∃f,Basis c (Ort c M) k f
theorem Basis.of_iff{c:Nat}{P Q:Vec->Prop}{k:Nat}{f:F2}(h:Basis c P k f)(a:∀y,P y↔Q y):Basis c Q k f:=
 ⟨fun i hi=>(a _).1 (h.mem i hi),h.li,fun y b=>h.span y ((a y).2 b)⟩
theorem b3j(c:Nat)(M:List Vec):∃k,Dim c M k:=by
 obtain⟨r,p,d,a,h⟩:=a9M M.length c (fL M);exact⟨_,_,(b1P a h).of_iff fun y=>(b8s c M y).symm⟩
theorem Dim.iff{c:Nat}{M L:List Vec}{k:Nat}(h:Dim c M k)(a:∀y,Ort c M y↔Ort c L y):Dim c L k:=let ⟨f,b⟩:=h;⟨f,b.of_iff a⟩
theorem Dim.more{c:Nat}{M:List Vec}{k:Nat}(h:Dim c M (k+1)){v y:Vec}(z:Ort c M y)(E:dot c v y≠0):Dim c (M++[v]) k:=by
 obtain⟨f,r⟩:=h;obtain⟨m,g,s⟩:=b3j c (M++[v]);have b:∀a j,cmb (m+1) (fun i=>if i<m then g i else y) a j=cmb m g a j+a m*y j:=fun a j=>by
  unfold cmb
  show sm m _+_=_
  congr 1
  ·exact a0f fun i hi=>by simp[hi]
  ·simp
 have p:∀i,i<m->Ort c M (g i)/\dot c v (g i)=0:=fun i hi=>by
  have:=Ort.app.1 (s.mem i hi);exact⟨this.1,this.2 v (by simp)⟩
 have G:m+1<=k+1:=by
  refine b3i (c:=c) (f:=fun i=>if i<m then g i else y) (g:=f) (fun a l=>?_) fun i hi=>?_
  ·have A:dot c v (fun j=>cmb m g a j+a m*y j)=0:=by
    rw[a2x];exact a3J fun j d=>by rw[<-b];exact l j d
   rw[a8e c v (fun j=>cmb m g a j) y (a m),b8r,a2b fun i hi=>by rw[(p i hi).2];grind]at A;have o:a m=0:=by
    have:a m*dot c v y=0:=by grind
    rcases Rat.mul_eq_zero.1 this with e|e
    ·exact e
    ·contradiction
   have x:=s.li a fun j d=>by have:=l j d;rw[b,o]at this;grind
   intro i hi;by_cases e:i=m
   ·subst e;exact o
   ·exact x i (by omega)
  ·by_cases n:i<m
   ·obtain⟨a,l⟩:=r.span _ (p i n).1
    exact⟨a,fun j d=>by simp only[n,if_true];exact l j d⟩
   ·obtain⟨a,l⟩:=r.span _ z
    exact⟨a,fun j d=>by simp only[n,if_false];exact l j d⟩
 have x:k+1<=m+1:=by
  refine b3i (c:=c) (f:=f) (g:=fun i=>if i<m then g i else y) r.li fun i hi=>?_;have u:=r.mem i hi;obtain⟨t,C⟩:∃t,dot c v (f i)/dot c v y=t:=⟨_,rfl⟩;have D:t*dot c v y=dot c v (f i):=by rw[<-C];exact Rat.div_mul_cancel E
  obtain⟨a,l⟩:=s.span (fun j=>f i j+ -t*y j) (Ort.app.2 ⟨u.lin (-t) z,fun w F=>by
   have:w=v:=by simpa using F
   subst this;rw[a8e];grind⟩)
  refine⟨fun q=>if q<m then a q else t,fun j d=>?_⟩;rw[b];have H:=l j d;have B:cmb m g (fun q=>if q<m then a q else t) j=cmb m g a j:=a0f fun q hq=>by simp[hq]
  simp only[Nat.lt_irrefl,if_false];rw[B];grind
 have:m=k:=by omega
 subst this;exact⟨g,s⟩
theorem Dim.one{c:Nat}{M:List Vec}(h:Dim c M 1){x:Vec}(hx:Ort c M x)(n:nz c x)(y:Vec)(o:Ort c M y):∃t:Rat,∀j,j<c->y j=t*x j:=by
 obtain⟨f,l⟩:=h;obtain⟨a,k⟩:=l.span x hx;obtain⟨b,m⟩:=l.span y o;have g:∀(a:Vec) j,cmb 1 f a j=a 0*f 0 j:=fun a j=>by unfold cmb sm sm;grind
 have i:a 0≠0:=fun e=>n.not fun j d=>by rw[k j d,g,e];grind
 refine⟨b 0/a 0,fun j d=>?_⟩;rw[m j d,k j d,g,g,<-Rat.mul_assoc,Rat.div_mul_cancel i]
theorem Dim.two{c k:Nat}{M:List Vec}(h:Dim c M (k+2))(x:Vec):∃y,Ort c M y/\∀t:Rat,¬∀j,j<c->y j=t*x j:=by
 apply Classical.byContradiction;intro n;have a:∀y,Ort c M y->∃t:Rat,∀j,j<c->y j=t*x j:=fun y o=>Classical.byContradiction fun e=>n ⟨y,o,fun t b=>e ⟨t,b⟩⟩;obtain⟨f,d⟩:=h;have:=b3i (m:=1) (g:=fun _=>x) d.li fun i hi=>by
  obtain⟨t,b⟩:=a _ (d.mem i hi);exact⟨fun _=>t,fun j l=>by rw[b j l];unfold cmb sm sm;grind⟩
 omega
def z0:Vec:=fun _=>0
def b9Y(z:List Vec)(I:List Nat):List Vec:=I.map fun i=>z.getD i z0
theorem b3k{c:Nat}{u x:Vec}(h:∀j,j<c->u j=x j)(z:List Vec):a9P c u z=a9P c x z/\onL c u z=onL c x z/\a4O c u z=a4O c x z:=by
 have:∀v,dot c u v=dot c x v:=fun v=>a8Q h;unfold a9P onL a4O;simp only[this];exact⟨trivial,trivial,trivial⟩
def a6O(c:Nat):List Vec->Vec->Bool
 | [],_=>true
 |u::us,v=>decide (0<dot c u v)||(decide (dot c u v=0)&&a6O c us v)
def b1Q(c:Nat)(us:List Vec)(z:List Vec):Nat:=z.countP fun v=>a6O c us v
theorem b5w(c:Nat)(z:List Vec):b1Q c [] z=z.length:=by simp[b1Q,a6O]
theorem a5n(c:Nat)(u:Vec)(us z:List Vec):b1Q c (u::us) z=a9P c u z+b1Q c us (onL c u z):=by
 induction z with
 |nil=>rfl
 |cons v z ih=>
  unfold b1Q a9P onL at*;rw[List.countP_cons,List.countP_cons,List.filter_cons,ih];by_cases a:0<dot c u v
  ·rw[if_pos (by simp[a6O,a]),if_pos (by simpa using a),if_neg (by simp;grind)];omega
  ·by_cases b:dot c u v=0
   ·rw[if_neg (c:=decide (0<dot c u v)=true) (by simpa using a),if_pos (c:=decide (dot c u v=0)=true) (by simpa using b),List.countP_cons]
    have e:a6O c (u::us) v=a6O c us v:=by simp[a6O,b]
    rw[e];omega
   ·rw[if_neg (by simp[a6O,a,b]),if_neg (by simpa using a),if_neg (by simpa using b)];omega
theorem b0P{c:Nat}{u:Vec}(h:¬nz c u)(z:List Vec):a9P c u z=0/\onL c u z=z:=by
 have b:∀j,j<c->u j=0:=fun j d=>Classical.byContradiction fun e=>h ⟨j,d,e⟩;have hd:∀v,dot c u v=0:=fun v=>a3J b;unfold a9P onL;simp only[hd];refine⟨?_,List.filter_eq_self.2 fun _ _=>by simp⟩;rw[List.countP_eq_zero];intro a _;simp
theorem a8R(c:Nat):∀(us z:List Vec),(∀u∈us,¬nz c u)->b1Q c us z=z.length
 | [],z,_=>b5w c z
 |u::us,z,h=>by
  obtain⟨h1,h2⟩:=b0P (h u List.mem_cons_self) z;rw[a5n,h1,h2,a8R c us z fun u hu=>h u (List.mem_cons_of_mem _ hu)];omega
theorem a5N{c:Nat}:∀(us z:List Vec) (k:Nat),a4w c z k->(∃u∈us,nz c u)->k<=b1Q c us z
 | [],_,_,_,h=>by obtain⟨_,h,_⟩:=h;simp at h
 |u::us,z,k,hk,h=>by
  rw[a5n];by_cases hu:nz c u
  ·obtain⟨l,hl⟩:=b9W (c:=c) (by obtain⟨j,hj,_⟩:=hu;omega) (onL c u z)
   have h1:=hk.lower hu hl;have h2:l<=b1Q c us (onL c u z):=by
    by_cases hs:∃u∈us,nz c u
    ·exact a5N us _ l hl hs
    ·rw[a8R c us _ fun u hu hn=>hs ⟨u,hu,hn⟩];exact hl.le
   omega
  ·obtain⟨h1,h2⟩:=b0P hu z
   rw[h1,h2];have:=a5N us z k hk (by
    obtain⟨x,hx,hn⟩:=h;rcases List.mem_cons.1 hx with rfl|hx
    ·exact absurd hn hu
    ·exact⟨x,hx,hn⟩)
   omega
theorem a7B{c:Nat}{v:Vec}(h:¬nz c v):∀us:List Vec,a6O c us v=true
 | []=>rfl
 |u::us=>by
  have h0:dot c u v=0:=by
   rw[a2x];exact a3J fun j hj=>Classical.byContradiction fun e=>h ⟨j,hj,e⟩
  simp[a6O,h0,a7B h us]
open Classical in
noncomputable def nzL(c:Nat)(z:List Vec):List Vec:=z.filter fun v=>decide (nz c v)
open Classical in
theorem a7C{c:Nat}{p:Vec->Bool}(hp:∀v,¬nz c v->p v=true)(z:List Vec):z.countP p=(nzL c z).countP p+(z.length - (nzL c z).length):=by
 induction z with
 |nil=>rfl
 |cons v z ih=>
  have hle:(nzL c z).length<=z.length:=List.length_filter_le ..;unfold nzL at*;rw[List.filter_cons,List.countP_cons];by_cases h:nz c v
  ·rw[if_pos (c:=decide (nz c v)=true) (by simpa using h),List.countP_cons,List.length_cons,List.length_cons,ih];omega
  ·rw[if_neg (c:=decide (nz c v)=true) (by simpa using h),List.length_cons,if_pos (hp v h),ih];omega
theorem b5x(c:Nat)(a z:List Vec):b1Q c a z=b1Q c a (nzL c z)+(z.length - (nzL c z).length):=a7C (fun _ h=>a7B h a) z
theorem a8S(c:Nat)(u:Vec)(z:List Vec):a4O c u z=a4O c u (nzL c z)+(z.length - (nzL c z).length):=a7C (fun v h=>by
 have a:dot c u v=0:=by rw[a2x];exact a3J fun j b=>Classical.byContradiction fun e=>h ⟨j,b,e⟩
 simp[a]) z
theorem a4w.nzL{c k:Nat}{z:List Vec}(h:a4w c (nzL c z) k):a4w c z (k+(z.length - (nzL c z).length)):=by
 obtain⟨⟨u,a,b⟩,d⟩:=h;refine⟨⟨u,a,by rw[a8S,b]⟩,fun v e=>?_⟩;rw[a8S];have:=d v e;omega
structure Wit (c:Nat) (z:List Vec) (n:Nat) (us:List Vec):Prop where
 head:∃u t,us=u::t/\nz c u
 cnt:b1Q c us z=n
 few:∀k,Dim c z k->us.length+k<=c\/us.length=1
theorem Wit.least{c n k:Nat}{z d:List Vec}(h:Wit c z n d)(a:a4w c z k):k<=n:=by
 obtain⟨u,t,rfl,b⟩:=h.head;rw[<-h.cnt];exact a5N _ _ _ a ⟨u,List.mem_cons_self,b⟩
theorem Wit.one{c:Nat}{z:List Vec}{u:Vec}(b:nz c u)(a:onL c u z= []):Wit c z (a9P c u z) [u]:=
 ⟨⟨u,[],rfl,b⟩,by rw[a5n,a];rfl,fun _ _=>Or.inr rfl⟩
theorem Dim.lt{c k m:Nat}{z L:List Vec}{u:Vec}(h:Dim c z k)(d:Dim c L m)(hs:∀v∈L,v∈z)(e:Ort c L u)(p:∃v∈z,dot c v u≠0):k<m:=by
 obtain⟨v,q,hne⟩:=p;rcases m with _|m
 ·obtain⟨f,b⟩:=d
  obtain⟨a,l⟩:=b.span u e;exact absurd (by rw[a2x];exact a3J fun j o=>by rw[l j o];rfl) hne
 ·obtain⟨g,n⟩:=d.more e hne
  obtain⟨f,b⟩:=h;have:=b.le n fun y i=>Ort.app.2 ⟨fun x hx=>i x (hs x hx),fun x hx=>by simp at hx;subst hx;exact i _ q⟩;omega
theorem Dim.lt_c{c k:Nat}{z:List Vec}(h:Dim c z k)(hz:∃v∈z,nz c v):k<c:=by
 obtain⟨v,n,l⟩:=hz;obtain⟨m,a⟩:=b3j c [];have o:=h.lt a (by simp) (u:=v) (by simp[Ort]) ⟨v,n,fun e=>l.not (b5s e)⟩;obtain⟨f,b⟩:=a;have:=b3i (m:=c) (g:=fun i j=>if j=i then 1 else 0) b.li fun i _=>⟨f i,fun j d=>by unfold cmb;rw[a1E j d fun i _ hi=>by simp[Ne.symm hi]];simp⟩;omega
theorem Wit.more{c l:Nat}{z d:List Vec}{u:Vec}(j:nz c u)(h:Wit c (onL c u z) l d)(i:∃v∈onL c u z,nz c v)(g:∃v∈z,dot c v u≠0):Wit c z (a9P c u z+l) (u::d):=
 ⟨⟨u,d,rfl,j⟩,by rw[a5n,h.cnt],fun k f=>by
  obtain⟨m,a⟩:=b3j c (onL c u z);have n:=f.lt a (fun v b=>(List.mem_filter.1 b).1) (u:=u) (fun v b=>by rw[a2x];simpa using(List.mem_filter.1 b).2) g;have o:=a.lt_c i;rcases h.few m a with e|e
  ·left;simp;omega
  ·left;simp;omega⟩
def b5y(c:Nat)(z O:List Vec)(cnt:Nat)(I:List Nat):Prop:=Dim c (b9Y z I++O) 1->∀x,nz c x->Ort c (b9Y z I++O) x->∀l,a4w c (onL c x z) l->cnt<=a9P c x z+l
theorem b5y.le{c:Nat}{z O:List Vec}{m n:Nat}{I:List Nat}(h:b5y c z O n I)(f:m<=n):b5y c z O m I:=fun a x b d l e=>Nat.le_trans f (h a x b d l e)
def vec(l:List Rat):Vec:=fun j=>l.getD j 0
def a5o(m:Mat):List Vec:=m.map vec
section
variable {n c:Nat} {m:Mat} (hs:Shp n c m)
include hs
end
end Go.Lin
namespace Go.Lin
theorem a9Q{z:Mat}{p:List Rat->Bool}{q:Vec->Bool}(h:∀r∈z,p r=q (vec r)):a5o (z.filter p)=(a5o z).filter q:=by
 unfold a5o;rw[List.filter_map];exact congrArg _ (List.filter_congr fun r a=>h r a)
def b3l(r:List Rat):Bool:=r.all fun x=>decide (x=0)
theorem b7c{c:Nat}{r:List Rat}(d:r.length=c):nz c (vec r)↔b3l r=false:=by
 constructor
 ·rintro ⟨j,b,hne⟩
  rw[<-Bool.not_eq_true];intro h;unfold b3l at h;rw[List.all_eq_true]at h;have a:j<r.length:=by omega
  have:=h r[j] (List.getElem_mem a);apply hne;unfold vec;rw[List.getD_eq_getElem?_getD,List.getElem?_eq_getElem a];simpa using this
 ·intro h
  apply b9U;intro hz;rw[<-Bool.not_eq_true]at h;apply h;unfold b3l;rw[List.all_eq_true];intro x hx;obtain⟨j,b,rfl⟩:=List.getElem_of_mem hx;have:=hz j (by omega);unfold vec at this;rw[List.getD_eq_getElem?_getD,List.getElem?_eq_getElem b]at this;simpa using this
def a7D(z:Mat):Mat:=z.filter fun r=> !b3l r
theorem a6P{n c:Nat}{z:Mat}(hs:Shp n c z):a5o (a7D z)=nzL c (a5o z):=a9Q fun r a=>by
 by_cases h:b3l r=false
 ·rw[h];have:=(b7c (hs.2 r a)).2 h;simp[this]
 ·have b:¬nz c (vec r):=fun k=>h ((b7c (hs.2 r a)).1 k)
  simp[b];simpa using h
def b8t(c:Nat)(z:Mat)(cnt:Nat)(us:Mat):Prop:=(cnt=z.length+1/\us= [])\/Wit c (a5o z) cnt (a5o us)
section
variable {n c:Nat} {z:Mat} (hs:Shp n c z) (hz:∀v∈a5o z,nz c v) (hne:z≠[])
include hs hz hne
end
theorem c2n{n c a:Nat}{z i:Mat}(hs:Shp n c z)(h:a4w c (a5o (a7D z)) a)(b:Wit c (a5o (a7D z)) a (a5o i)):a4w c (a5o z) (a+(z.length - (a7D z).length))/\Wit c (a5o z) (a+(z.length - (a7D z).length)) (a5o i):=by
 have e:(a7D z).length=(nzL c (a5o z)).length:=by rw[<-a6P hs];simp[a5o]
 have l:z.length=(a5o z).length:=by simp[a5o]
 rw[e,l];rw[a6P hs]at h b;refine⟨h.nzL,b.head,by rw[b5x,b.cnt],fun k o=>b.few k (o.iff fun y=>⟨fun f v d=>f v (List.mem_filter.1 d).1,fun f v d=>?_⟩)⟩;by_cases g:nz c v
 ·exact f v (List.mem_filter.2 ⟨d,by simpa using g⟩)
 ·exact a3J fun j m=>Classical.byContradiction fun e=>g ⟨j,m,e⟩
end Go.Lin
namespace Go.Lin
def c1m(c:Nat)(p:Mat)(x:List Rat):Mat:=p.map fun r=>(List.range c).map fun j=>r.getD j 0 - x.getD j 0
open Go.Lim
def b2p(m:Mat)(c:Nat):Prop:=∃B,7*B<=68719476736/\(∀j,j<=c->HB B (eN m j).1)/\∀t,t<=(eN m c).2.1.length->HB B (dN (eN m c).1 (eN m c).2.1 t)
theorem a6Q(a:Nat){i n:Nat}(b:0<a)(h:i<=n):a^i<=a^n:=Nat.pow_le_pow_right b h
theorem b8u{n c B:Nat}{m:Mat}(hs:Shp n c m)(h:HB B m)(d:7*(35^n*B)<=68719476736):b2p m c:=by
 have a:∀j,(eN m j).2.1.length<=n:=fun j=>(a6o hs j).ech.le;refine⟨35^n*B,d,fun j _=>(h.eN hs j).mono (Nat.mul_le_mul_right _ ?_),fun t b=>(((h.eN hs c).dN (a6o hs c).shp (a6o hs c).ech t b)).mono ?_⟩
 ·exact Nat.le_trans (a6Q 5 (by omega) (a j)) (Nat.pow_le_pow_left (by omega) n)
 ·rw[<-Nat.mul_assoc]
  refine Nat.mul_le_mul_right _ ?_;rw[show(35:Nat)=7*5 from rfl,Nat.mul_pow];exact Nat.mul_le_mul (a6Q 7 (by omega) (Nat.le_trans b (a c))) (a6Q 5 (by omega) (a c))
def b8v(m:Mat)(c:Nat):Prop:=∃B,7*B<=68719476736/\∀j,j<=c->HB B (eN m j).1
theorem b2p.e{m:Mat}{c:Nat}(h:b2p m c):b8v m c:=let ⟨B,a,b,_⟩:=h;⟨B,a,b⟩
theorem HB.app{B:Nat}{a b:Mat}(c:HB B a)(d:HB B b):HB B (a++b):=by
 intro i j;unfold ent;by_cases hi:i<a.length
 ·rw[show(a++b).getD i []=a.getD i []by simp[List.getD_eq_getElem?_getD,List.getElem?_append_left hi]];exact c i j
 ·rw[show(a++b).getD i []=b.getD (i - a.length) []by simp[List.getD_eq_getElem?_getD,List.getElem?_append_right (Nat.le_of_not_lt hi)]];exact d _ j
def a2U(l m:List Rat):Nat->Rat
 |0=>0
 |k+1=>a2U l m k+l.getD k 0*m.getD k 0
def a1Z(l m:List Rat):Rat:=a2U l m l.length
theorem a6R(l m:List Rat)(k:Nat):a2U l m k=sm k fun q=>l.getD q 0*m.getD q 0:=by
 induction k with
 |zero=>rfl
 |succ k ih=>unfold a2U sm;rw[ih]
theorem b3m(l m:List Rat)(k:Nat):a2U l m k=a2U m l k:=by
 rw[a6R,a6R];exact a0f fun q _=>by grind
theorem b8w{l m:List Rat}{B:Nat}(hl:Go.Rep.BR B l)(hm:Go.Rep.BR B m)(hB:1<=B)(k:Nat):hq (a2U l m k)<=1+k*(2*B+1):=by
 have hg:∀(x:List Rat),Go.Rep.BR B x->∀q,hq (x.getD q 0)<=B:=fun x hx q=>by
  by_cases h:q<x.length
  ·rw[List.getD_eq_getElem?_getD,List.getElem?_eq_getElem h];exact hx _ (List.getElem_mem h)
  ·rw[List.getD_eq_getElem?_getD,List.getElem?_eq_none (by omega)]
   show hq 0<=B
   rw[a0X];exact hB
 induction k with
 |zero=>show hq 0<=_;rw[a0X];omega
 |succ k ih=>
  have h1:=hq_mul (l.getD k 0) (m.getD k 0);have h2:=a8F (a2U l m k) (l.getD k 0*m.getD k 0);have h3:=hg l hl k;have h4:=hg m hm k
  show hq (a2U l m k+l.getD k 0*m.getD k 0)<=_
  rw[Nat.add_mul,Nat.one_mul];omega
def trL(m:Mat)(n c:Nat):Mat:=(List.range c).map fun q=>(List.range n).map fun p=>ent m p q
def trN(m:Mat)(n c i j:Nat):Mat:=(List.range c).map fun q=>(List.range n).map fun p=>if p<i\/(p=i/\q<j)then ent m p q else 0
theorem b5z(m:Mat)(n c:Nat):trN m n c 0 0=List.replicate c (List.replicate n 0):=by
 refine List.ext_getElem (by simp[trN]) fun q a b=>List.ext_getElem (by simp[trN]) fun p d e=>by simp[trN]
theorem b5A(m:Mat)(n c i:Nat):trN m n c i c=trN m n c (i+1) 0:=by
 refine List.ext_getElem (by simp[trN]) fun q d e=>List.ext_getElem (by simp[trN]) fun p f g=>?_;simp[trN]at d;simp only[trN,List.getElem_map,List.getElem_range];by_cases a:p<i
 ·rw[if_pos (.inl a),if_pos (.inl (by omega))]
 ·by_cases b:p=i
  ·rw[if_pos (.inr ⟨b,by omega⟩),if_pos (.inl (by omega))]
  ·rw[if_neg (by omega),if_neg (by omega)]
theorem b5B(m:Mat)(n c:Nat):trN m n c n 0=trL m n c:=by
 refine List.ext_getElem (by simp[trN,trL]) fun q b d=>List.ext_getElem (by simp[trN,trL]) fun p a e=>?_;simp[trN]at a;simp only[trN,trL,List.getElem_map,List.getElem_range];rw[if_pos (.inl a)]
theorem b8x(m:Mat)(n c i j:Nat):(trN m n c i j).length=c:=by simp[trN]
theorem a8f(m:Mat)(n c i j q:Nat)(h:q<(trN m n c i j).length):(trN m n c i j)[q].length=n:=by simp[trN]
theorem b8y{m:Mat}{n c i j:Nat}(h:j<(trN m n c i j).length):(trN m n c i j).set j ((trN m n c i j)[j].set i (ent m i j))=trN m n c i (j+1):=by
 refine List.ext_getElem (by simp[trN]) fun q e f=>List.ext_getElem ?_ fun p g k=>?_
 ·rw[List.getElem_set];split<;>simp[trN]
 ·simp only[List.getElem_set]
  by_cases a:j=q
  ·subst a
   simp only[if_true,List.getElem_set];by_cases b:i=p
   ·subst b;simp[trN]
   ·rw[if_neg b]
    simp only[trN,List.getElem_map,List.getElem_range];by_cases d:p<i
    ·rw[if_pos (.inl d),if_pos (.inl d)]
    ·rw[if_neg (by omega),if_neg (by omega)]
  ·simp only[a,if_false]
   simp only[trN,List.getElem_map,List.getElem_range];by_cases d:p<i
   ·rw[if_pos (.inl d),if_pos (.inl d)]
   ·by_cases b:p=i/\q<j
    ·rw[if_pos (.inr b),if_pos (.inr (by omega))]
    ·rw[if_neg (by omega),if_neg (by omega)]
theorem a1y(m:Mat)(n c:Nat):Shp c n (trL m n c):=⟨by simp[trL],fun r a=>by
 obtain⟨q,_,rfl⟩:=List.mem_map.1 a;simp⟩
theorem a8g(m:Mat)(n c:Nat):Eqm c n (ent (trL m n c)) fun i j=>ent m j i:=fun i hi j a=>by
 simp[ent,trL,List.getD_eq_getElem?_getD,hi,a]
theorem b0Q{m:Mat}{n c B:Nat}(h:HB B m):HB B (trL m n c):=fun i j=>by
 by_cases hi:i<c
 ·by_cases a:j<n
  ·rw[a8g m n c i hi j a];exact h j i
  ·rw[a1S (a1y m n c) (.inr (by omega)),a0X];exact h.pos
 ·rw[a1S (a1y m n c) (.inl (by omega)),a0X];exact h.pos
def a2s(m:Mat)(v:List Rat):List Rat:=m.map fun r=>a1Z r v
def a6q(a b:Mat)(n c:Nat):Mat:=a.map fun r=>a2s (trL b n c) r
theorem a3i(m:Mat)(v:List Rat):(a2s m v).length=m.length:=by simp[a2s]
theorem b5C{a b:Mat}{k n c:Nat}(d:a.length=k):Shp k c (a6q a b n c):=⟨by simp[a6q,d],fun r e=>by
 obtain⟨x,_,rfl⟩:=List.mem_map.1 e;simp[a2s,trL]⟩
theorem b5D{a b:Mat}{k n c:Nat}(h:Shp k n a):Eqm k c (ent (a6q a b n c)) (mul n (ent a) (ent b)):=fun i hi j e=>by
 have d:i<a.length:=by rw[h.1];exact hi
 have o:(a[i]).length=n:=h.2 _ (List.getElem_mem _);have m:ent (a6q a b n c) i j=a1Z ((trL b n c).getD j []) (a[i]):=by
  unfold ent a6q;rw[List.getD_eq_getElem?_getD (l:=List.map _ _),List.getElem?_map,List.getElem?_eq_getElem d];have f:j<(trL b n c).length:=by simp[trL,e]
  simp[a2s,List.getD_eq_getElem?_getD,f]
 rw[m];unfold a1Z;rw[(a1y b n c).row e,a6R];unfold mul;refine a0f fun q hq=>?_;have g:=a8g b n c j e q hq;unfold ent at g |-;rw[g,show a.getD i []=a[i]by simp[List.getD_eq_getElem?_getD,d]];grind
theorem a9R{m:Mat}{v:List Rat}{n c:Nat}(hs:Shp n c m)(i:Nat)(hi:i<n):(a2s m v).getD i 0=sm c fun j=>ent m i j*v.getD j 0:=by
 have a:i<m.length:=by rw[hs.1];exact hi
 have b:(m[i]).length=c:=hs.2 _ (List.getElem_mem _);have e:(a2s m v).getD i 0=a1Z m[i] v:=by simp[a2s,List.getD_eq_getElem?_getD,a]
 rw[e];unfold a1Z;rw[b,a6R];unfold ent;rw[show m.getD i []=m[i]by simp[List.getD_eq_getElem?_getD,a]]
open Go.Rep
theorem brD{D:Nat}{x:List Rat}(hx:BR D x)(a:1<=D)(q:Nat):hq (x.getD q 0)<=D:=by
 rw[List.getD_eq_getElem?_getD];by_cases h:q<x.length
 ·rw[List.getElem?_eq_getElem h];exact hx _ (List.getElem_mem _)
 ·rw[List.getElem?_eq_none (by omega)];simp[a0X,a]
theorem a9S{B C:Nat}{l m:List Rat}(hl:BR B l)(hm:BR C m)(hB:1<=B)(hC:1<=C)(hB2:1+l.length*(B+C+1)<=68719476736):(∀k,k<=l.length->hq (a2U l m k)<=68719476736)/\∀k,k<l.length->hq (l.getD k 0*m.getD k 0)<=68719476736:=by
 have g:∀{D:Nat} {x:List Rat},BR D x->1<=D->∀q,hq (x.getD q 0)<=D:=fun hx hD q=>brD hx hD q;have hp:∀k,hq (l.getD k 0*m.getD k 0)<=B+C:=fun k=>by
  have:=hq_mul (l.getD k 0) (m.getD k 0);have:=g hl hB k;have:=g hm hC k;omega
 have hd:∀k,hq (a2U l m k)<=1+k*(B+C+1):=fun k=>by
  induction k with
  |zero=>simp[a2U,a0X]
  |succ k ih=>
   have:=a8F (a2U l m k) (l.getD k 0*m.getD k 0);have:=hp k
   show hq (a2U l m k+l.getD k 0*m.getD k 0)<=_
   rw[Nat.succ_mul];omega
 refine⟨fun k hk=>Nat.le_trans (hd k) (Nat.le_trans (Nat.add_le_add_left (Nat.mul_le_mul_right _ hk) 1) hB2),fun k hk=>?_⟩;have:=hp k;have:B+C+1<=l.length*(B+C+1):=Nat.le_mul_of_pos_left _ (by omega);omega
end Go.Lin
namespace Go.Proofs.YtgbbpgflopajaaaGreat
open Go.RowKit Go.Rep Go.Lim Go.Lin
end Go.Proofs.YtgbbpgflopajaaaGreat
namespace Go.Lin
open Go.Lim Go.Rep
def a3d(z:Mat)(s:List Int):Mat:=s.map fun i=>z.getD i.toNat []
theorem a5p(z:Mat)(s:List Int):(a3d z s).length=s.length:=by simp[a3d]
theorem b3n{z:Mat}{s:List Int}{j:Nat}(a:j<(a3d z s).length)(hs:j<s.length){i:Nat}(hi:i<z.length)(h:s[j]=(i:Int)):(a3d z s)[j]=z[i]:=by
 simp[a3d,h,List.getD_eq_getElem?_getD,hi]
theorem b3o{z:Mat}{s:List Int}(b:∀x∈s,0<=x/\x<(z.length:Int)):∀r∈a3d z s,r∈z:=fun r a=>by
 unfold a3d at a;obtain⟨x,hx,rfl⟩:=List.mem_map.1 a;have:=b x hx;have c:x.toNat<z.length:=by omega
 rw[show z.getD x.toNat []=z[x.toNat]by simp[List.getD_eq_getElem?_getD,c]];exact List.getElem_mem _
end Go.Lin
namespace Go.Proofs.YtgbbpgflopajaaaGreat
open Go.RowKit Go.Rep Go.Lim Go.Lin
def b8z(X:Nat->Bool)(w:World)(m:Mat)(e:Ending)(w':World):Prop:=Ext w w'/\∃(ao:Option Addr) (cap:Nat),e= .returned (.slice ao m.length cap)/\OL RV 1 X w.heap.size 25 w' ao cap m
theorem b3p(X:Nat->Bool)(w:World)(u:Value)(z:Mat)(ro:Option Addr)(s:List Int)(rc:Nat)(hX:HX X w)(hu:MV (mk X w) u z)(hs:Sl (a0u .i64) 1 w.cell? ro s)(hb:∀x∈s,0<=x/\x<(z.length:Int))(hl:s.length<=1000):Calls Tryz.prog 106 #[u, .slice ro s.length rc] w (b8z X w (a3d z s)):=by
 rw[<-a2m]at hs;obtain⟨ao,ca,rfl,hca,hsa⟩:=hu;have hha:=hsa.hd;have hhs:=hs.hd;obtain⟨M,hM⟩:∃M,a3d z s=M:=⟨_,rfl⟩;have hMl:M.length=s.length:=by rw[<-hM];exact a5p z s
 have hMi:=hid (show∀j (h1:j<M.length) (h2:j<s.length) (i:Nat) (h3:i<z.length),s[j]=(i:Int)->M[j]=z[i]from fun j h1 h2 i h3 h=>by subst hM;exact b3n h1 h2 h3 h);rw[hM];have hb':=hid hb;obtain⟨n,hn⟩:∃n,z.length=n:=⟨_,rfl⟩;have hn':=hid hn;obtain⟨k,hk⟩:∃k,s.length=k:=⟨_,rfl⟩;have hk':=hid hk;rw[hk]at hhs hl hMl |-;rw[hn]at hha hca |-;have hMl':=hid hMl;have hMl1:M.length<=k:=by omega
 have hMl2:k<=M.length:=by omega
 clear hM hb hn hk hMl;go_enter Tryz.func106,Tryz.ntmps106
 go_wp2_with fail
 go_loopw [5,10] (fun o cc wr=>∃(i:Nat) (oo:Option Addr) (co:Nat),cc= .int .i64 i/\o= .slice oo i co/\i<=k/\OL RV 1 X w.heap.size 25 wr oo co (M.take i)/\Ext w wr) (fun _ cc _=>k - (intOf cc).toNat)
 case atStart=>exact⟨0,none,0,rfl,rfl,Nat.zero_le _,OL.nil _ _ _ _ _ _,ExtX.refl _⟩
 case round=>
  obtain⟨i,oo,co,rfl,rfl,hi,hO,hE⟩:=hrel;have hXr:HX X wr:=hX.ext hE;have hbase:=hE.size;by_cases hlt:i<k
  ·have his:i<s.length:=by rw[hk'.out];exact hlt
   have hiM:i<M.length:=by omega
   have htk:=hid (a0L M i hiM);have hln:=hid (a0V (l:=M) (i:=i) (by omega));have hc:=(hs.mono (a0u.mono _) (a0m hE)).int i his;obtain⟨h1,h2⟩:=hb'.out s[i] (List.getElem_mem _);obtain⟨q,hq⟩:=Int.eq_ofNat_of_zero_le h1;rw[hn'.out]at h2;have hqn:q<n:=by omega
   have hqz:q<z.length:=by rw[hn'.out];exact hqn
   have hMq:=hMi.out i hiM his q hqz hq;rw[hq]at hc;have hsr:Sl RV 1 (mk (un X oo) wr) ao z:=hsa.old RV.mono hE (fun j hj=>hO.ob_lt hj);obtain⟨a1,c1,hX1,hc1,hcl1,hq1⟩:=hsr.row q hqz;have k00:=hc1.out noY wr (ExtX.refl _) rfl;obtain⟨r,hr⟩:∃r,z[q]=r:=⟨_,rfl⟩;rw[hr]at k00 hcl1 hq1 hMq;rw[hMq]at htk;have hRV:RV (mk (un X oo) wr) (.slice a1 r.length c1) r:=⟨a1,c1,rfl,hcl1,hq1⟩;obtain⟨d,hd⟩:∃d,r.length=d:=⟨_,rfl⟩;rw[hd]at k00 hRV;clear hr hc1 hcl1 hq1 hMq hd h1 h2 hq;go_wp2_with (first
    |(with_reducible refine a0s a2J (by omega) (by assumption) ?_)
    |(with_reducible refine a0s a0p (by omega) (by assumption) ?_)
    |(at_builtin;refine a0t (l:=M.take i) a0p rfl RV.elem hbase hXr i hln.out rfl rfl hO (.slice a1 d c1) r rfl hRV (by omega) (by omega) ?_;intro oo2 co2 w7 hO7 hE7 hor))
   have hE8:=hE.own hO (Nat.le_refl _) hE7;rw[htk.out]at hO7;go_roundw
   case rel=>exact⟨i+1,oo2,co2,by go_num,by go_num,by omega,hO7,hE8⟩
   case measure=>simp[intOf];omega
  ·have hil:i=k:=by omega
   subst hil;rw[List.take_of_length_le (by omega)]at hO;go_wp2_with fail
   go_ret
   exact⟨hE,oo,co,by rw[hMl'.out];rfl,hO⟩
end Go.Proofs.YtgbbpgflopajaaaGreat
namespace Go.Lin
open Go.Lim Go.Rep
def a3e(l:List Rat)(s:List Int):List Rat:=s.map fun i=>l.getD i.toNat 0
theorem a4i(l:List Rat)(s:List Int):(a3e l s).length=s.length:=by simp[a3e]
theorem a8T{l:List Rat}{s:List Int}{j:Nat}(a:j<(a3e l s).length)(hs:j<s.length){i:Nat}(hi:i<l.length)(h:s[j]=(i:Int)):(a3e l s)[j]=l[i]:=by
 simp[a3e,h,List.getD_eq_getElem?_getD,hi]
def a1f(m:Mat)(s:List Int):Mat:=m.map fun r=>a3e r s
theorem a3t(m:Mat)(s:List Int):(a1f m s).length=m.length:=by simp[a1f]
theorem a8U(m:Mat)(s:List Int)(i:Nat)(h:i<(a1f m s).length)(a:i<m.length):(a1f m s)[i]=a3e m[i] s:=by simp[a1f]
end Go.Lin
namespace Go.Proofs.YtgbbpgflopajaaaGreat
open Go.RowKit Go.Rep Go.Lim Go.Lin
theorem a7E(X:Nat->Bool)(w:World)(u:Value)(z:List Rat)(ro:Option Addr)(s:List Int)(rc:Nat)(hX:HX X w)(hu:RV (mk X w) u z)(hs:Sl (a0u .i64) 1 (mk noY w) ro s)(hb:∀x∈s,0<=x/\x<(z.length:Int))(hl:s.length<=1000):Calls Tryz.prog 107 #[u, .slice ro s.length rc] w (fun e w'=>Ext w w'/\∃(ao:Option Addr) (cap:Nat),e= .returned (.slice ao s.length cap)/\OL QV 3 X w.heap.size 38 w' ao cap (a3e z s)):=by
 obtain⟨ao,ca,rfl,hca,hsa⟩:=hu;have hha:=hsa.hd;have hhs:=hs.hd;obtain⟨M,hM⟩:∃M,a3e z s=M:=⟨_,rfl⟩;have hMl:M.length=s.length:=by rw[<-hM];exact a4i z s
 have hMi:=hid (show∀j (h1:j<M.length) (h2:j<s.length) (i:Nat) (h3:i<z.length),s[j]=(i:Int)->M[j]=z[i]from fun j h1 h2 i h3 h=>by subst hM;exact a8T h1 h2 h3 h);rw[hM];have hb':=hid hb;obtain⟨n,hn⟩:∃n,z.length=n:=⟨_,rfl⟩;have hn':=hid hn;obtain⟨k,hk⟩:∃k,s.length=k:=⟨_,rfl⟩;have hk':=hid hk;rw[hk]at hhs hl hMl |-;rw[hn]at hha hca |-;have hMl1:M.length<=k:=by omega
 have hMl2:k<=M.length:=by omega
 clear hM hb hn hk hMl;go_enter Tryz.func107,Tryz.ntmps107
 go_wp2_with fail
 go_loopw [5,10] (fun o cc wr=>∃(i:Nat) (oo:Option Addr) (co:Nat),cc= .int .i64 i/\o= .slice oo i co/\i<=k/\OL QV 3 X w.heap.size 38 wr oo co (M.take i)/\Ext w wr) (fun _ cc _=>k - (intOf cc).toNat)
 case atStart=>exact⟨0,none,0,rfl,rfl,Nat.zero_le _,OL.nil _ _ _ _ _ _,ExtX.refl _⟩
 case round=>
  obtain⟨i,oo,co,rfl,rfl,hi,hO,hE⟩:=hrel;have hXr:HX X wr:=hX.ext hE;have hbase:=hE.size;by_cases hlt:i<k
  ·have his:i<s.length:=by rw[hk'.out];exact hlt
   have hiM:i<M.length:=by omega
   have htk:=hid (a0L M i hiM);have hln:=hid (a0V (l:=M) (i:=i) (by omega));have hc:=(hs.mono (a0u.mono _) (a0m hE)).int i his;obtain⟨h1,h2⟩:=hb'.out s[i] (List.getElem_mem _);obtain⟨q,hq⟩:=Int.eq_ofNat_of_zero_le h1;rw[hn'.out]at h2;have hqn:q<n:=by omega
   have hqz:q<z.length:=by rw[hn'.out];exact hqn
   have hMq:=hid (hMi.out i hiM his q hqz hq);rw[hq]at hc;have hsr:Sl QV 3 (mk (un X oo) wr) ao z:=hsa.old QV.mono hE (fun j hj=>hO.ob_lt hj);clear h1 h2 hq;go_wp2_with (first
    |(with_reducible refine a0s a2J (by omega) (by assumption) ?_)
    |(with_reducible refine a1I a0w (by omega) (by assumption) ?_)
    |((with_reducible show wpList _ _ _ (⟨_, .load 38 _,_,_,_,_⟩::_) _ _);refine a0C a0o q hsr hqz rfl (by simp) QV.agg ?_;intro u5 hu5;rw[<-hMq.out]at hu5;obtain⟨s5,a5,n5,c5,d5,m5,e5,rfl⟩:=hu5.shape)
    |(at_builtin;refine a0t (l:=M.take i) a0w rfl QV.elem hbase hXr i hln.out rfl rfl hO (.agg #[.bool s5, .slice a5 n5 c5, .slice d5 m5 e5]) M[i] rfl hu5 (by omega) (by omega) ?_;intro oo2 co2 w7 hO7 hE7 hor))
   have hE8:=hE.own hO (Nat.le_refl _) hE7;rw[htk.out]at hO7;go_roundw
   case rel=>exact⟨i+1,oo2,co2,by go_num,by go_num,by omega,hO7,hE8⟩
   case measure=>simp[intOf];omega
  ·have hil:i=k:=by omega
   subst hil;rw[List.take_of_length_le (by omega)]at hO;go_wp2_with fail
   go_ret
   exact⟨hE,oo,co,rfl,hO⟩
theorem a8V(X:Nat->Bool)(w:World)(u:Value)(z:Mat)(ro:Option Addr)(s:List Int)(rc:Nat)(hX:HX X w)(hu:MV (mk X w) u z)(hs:Sl (a0u .i64) 1 (mk noY w) ro s)(hb:∀r∈z,∀x∈s,0<=x/\x<(r.length:Int))(hl:s.length<=1000)(b4:z.length<=1000):Calls Tryz.prog 204 #[u, .slice ro s.length rc] w (fun e t=>Ext w t/\∃(ao:Option Addr) (A:Nat),e= .returned (.slice ao z.length A)/\OL RV 1 X w.heap.size 25 t ao A (a1f z s)):=by
 obtain⟨ao,ca,rfl,a6,K⟩:=hu;have a7:=K.hd;have g:=hid (fun(Y:Nat->Bool) (t:World) (v:Value) (r:List Rat) (hY:HX Y t) (P:RV (mk Y t) v r) (h:Ext w t) (O:r∈z)=>a7E Y t v r ro s rc hY P (hs.mono (a0u.mono _) (a0m h)) (hb r O) hl);have I:=hid (fun r:List Rat=>a4i r s);obtain⟨M,N⟩:∃M,a1f z s=M:=⟨_,rfl⟩;have C:M.length=z.length:=by rw[<-N];exact a3t z s
 have Z:=hid (show∀j (h1:j<M.length) (h2:j<z.length),M[j]=a3e z[j] s from fun j h1 h2=>by subst N;exact a8U z s j h1 h2);rw[N];obtain⟨n,hn⟩:∃n,z.length=n:=⟨_,rfl⟩;have b1:=hid hn;obtain⟨k,hk⟩:∃k,s.length=k:=⟨_,rfl⟩;rw[hk]at hl g I |-;rw[hn]at a7 a6 C b4 |-;have b6:M.length<=n:=by omega
 have b7:n<=M.length:=by omega
 clear N hb hn hk C hs;go_enter Tryz.func204,Tryz.ntmps204
 go_wp2_with fail
 go_loopw [5,10] (fun o S wr=>∃(i:Nat) (q:Option Addr) (L:Nat),S= .int .i64 i/\o= .slice q i L/\i<=n/\OL RV 1 X w.heap.size 25 wr q L (M.take i)/\Ext w wr) (fun _ S _=>n - (intOf S).toNat)
 case atStart=>exact⟨0,none,0,rfl,rfl,Nat.zero_le _,OL.nil _ _ _ _ _ _,ExtX.refl _⟩
 case round=>
  obtain⟨i,q,L,rfl,rfl,hi,y,h⟩:=hrel;have a3:HX X wr:=hX.ext h;by_cases b0:i<n
  ·have H:i<z.length:=by rw[b1.out];exact b0
   have G:i<M.length:=by omega
   have b3:=hid (a0L M i G);have a9:=hid (a0V (l:=M) (i:=i) (by omega));have m:=hid (Z.out i G H);have a4:=y.unX a3;have b2:Sl RV 1 (mk (un X q) wr) ao z:=K.old RV.mono h (fun j hj=>y.ob_lt hj);obtain⟨a1,c1,b8,F,f,J⟩:=b2.row i H;have p:=F.out noY wr (ExtX.refl _) rfl;have a:=hid (g.out (un X q) wr (.slice a1 z[i].length c1) z[i] a4 ⟨a1,c1,rfl,f,J⟩ h (List.getElem_mem _));have b:=hid (I.out z[i]);obtain⟨r,O⟩:∃r,z[i]=r:=⟨_,rfl⟩;rw[O]at p a m b;obtain⟨d,hd⟩:∃d,r.length=d:=⟨_,rfl⟩;rw[hd]at p a;obtain⟨v,P⟩:∃v,a3e r s=v:=⟨_,rfl⟩;rw[P]at a m b;clear O F f J hd P;go_wp2_with (with_reducible refine a0s a0p (by omega) (by assumption) ?_)
   refine a.out.mono ?_;rintro e w5 ⟨B,R,Q,rfl,U⟩;have D:=y.ext0 RV.elem B;have c:=h.trans B;have a2:=hX.ext c;have a5:=c.size;have a0:RV (mk (un X q) w5) (.slice R k Q) M[i]:=by
    rw[m.out];have hc:=U.lenCap;rw[b.out]at hc;exact⟨R,Q,by rw[b.out],by rw[b.out];exact hc,U.sl QV.elem⟩
   clear U y p a;go_wp2_with (at_builtin;refine a0t (l:=M.take i) a0p rfl RV.elem a5 a2 i a9.out rfl rfl D (.slice R k Q) M[i] rfl a0 (by omega) (by omega) ?_;intro b5 T w7 E V b9)
   have W:=c.own D (Nat.le_refl _) V;rw[b3.out]at E;go_roundw
   case rel=>exact⟨i+1,b5,T,by go_num,by go_num,by omega,E,W⟩
   case measure=>simp[intOf];omega
  ·have a8:i=n:=by omega
   subst a8;rw[List.take_of_length_le (by omega)]at y;go_wp2_with fail
   go_ret
   exact⟨h,q,L,rfl,y⟩
end Go.Proofs.YtgbbpgflopajaaaGreat
