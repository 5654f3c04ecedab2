/- Parts of a proof: each theorem states what it proves, and its conditions. -/
import Derived.Test.YtidbbddagfnfbaaGreatSgG
namespace Go.Rep
open Go.RowKit Go.Lim
abbrev Hdr:=Option Addr×Nat×Nat
def HdR:Mem->Value->Hdr->Prop:=fun _ u x=>u= .slice x.1 x.2.1 x.2.2
theorem HdR.elem:Elem HdR 1:=⟨fun _ _ _ _ _ h=>h,by rintro h u x rfl;rfl,by
 rintro h u x rfl c a;simp[a0i,Value.cells]at a;subst a;rfl,Nat.one_pos⟩
theorem HdR.one:a3u HdR:=by rintro h u x rfl;rfl
theorem HdR.pure:∀h a u x,HdR h u x->HdR a u x:=fun _ _ _ _ h=>h
theorem OL.frame {α:Type} {R:Mem->Value->α->Prop} {sz:Nat} {X:Nat->Bool} {base:Nat} {e:TypeId} {w w':World} {ao:Option Addr} {cap:Nat} {l:List α} (b:∀h t u x,R h u x->R t u x) {Y Z:Nat->Bool} (h:OL R sz X base e w ao cap l) (p:ExtX Y w w') (y:∀k,ob ao k=true->Y k=false) (z:∀k,ob ao k=true->Z k=false):OL R sz Z base e w' ao cap l:=by
 have A:=fun k (a:ob ao k=true)=>h.block a;obtain⟨hx,C,s,D,j,n,q⟩:=h;refine⟨z,C,s,D,j,?_,fun i hi d=>b _ _ _ _ (q i hi d)⟩;refine⟨n.1,?_⟩;rcases n.2 with r|⟨g,c,m,f,B,o,v⟩
 ·exact .inl r
 ·refine .inr ⟨g,c,m,f,B,?_,v⟩
  simp at f;obtain⟨rfl,rfl⟩:=f;have a:ob (some ⟨g,0,none⟩) g=true:=by simp[ob]
  rw[p.block g (A g a).2 (y g a),o]
def cut (Z:Nat->Bool) (ao:Option Addr):Nat->Bool:=fun k=>Z k&& !ob ao k
theorem a5T {Z:Nat->Bool} {ao:Option Addr} (h:∀k,ob ao k=true->Z k=true):un (cut Z ao) ao=Z:=by
 funext k
 have:=h k;unfold un cut;cases a:ob ao k<;>cases hz:Z k<;>simp_all
theorem b0U {Z:Nat->Bool} {ao:Option Addr} {k:Nat} (h:cut Z ao k=true):Z k=true/\ob ao k=false:=by simpa[cut]using h
theorem a5a {Z:Nat->Bool} {ao:Option Addr} {k:Nat} (h:Z k=true) (a:ob ao k=false):cut Z ao k=true:=by simp[cut,h,a]
def obs (hs:List Hdr):Nat->Bool:=fun k=>hs.any fun h=>ob h.1 k
theorem a1I {hs:List Hdr} {i:Nat} (hi:i<hs.length) {k:Nat} (h:ob hs[i].1 k=true):obs hs k=true:=by
 unfold obs;rw[List.any_eq_true];exact⟨_,List.getElem_mem hi,h⟩
theorem a5b {hs:List Hdr} {k:Nat} (h:obs hs k=true):∃i,∃hi:i<hs.length,ob hs[i].1 k=true:=by
 unfold obs at h;rw[List.any_eq_true]at h;obtain⟨x,hx,a⟩:=h;obtain⟨i,hi,rfl⟩:=List.getElem_of_mem hx;exact⟨i,hi,a⟩
def mz (X:Nat->Bool) (ao:Option Addr) (hs:List Hdr):Nat->Bool:=fun k=>X k||ob ao k||obs hs k
def mb (ao:Option Addr) (hs:List Hdr):Nat->Bool:=fun k=>ob ao k||obs hs k
theorem a1V {X:Nat->Bool} {ao:Option Addr} {hs:List Hdr} {k:Nat}:mz X ao hs k=true↔X k=true\/ob ao k=true\/obs hs k=true:=by simp[mz,or_assoc]
theorem a2t {ao:Option Addr} {hs:List Hdr} {k:Nat}:mb ao hs k=true↔ob ao k=true\/obs hs k=true:=by simp[mb]
structure MO (X:Nat->Bool) (base:Nat) (e1 e2:TypeId) (w:World) (ao:Option Addr) (cap:Nat) (hs:List Hdr) (m:List (List Rat)):Prop where
 outer:OL HdR 1 X base e1 w ao cap hs
 len:hs.length=m.length
 rlen:∀i (hi:i<hs.length) (hi':i<m.length),hs[i].2.1=m[i].length
 row:∀i (hi:i<hs.length) (hi':i<m.length),OL QC 3 (cut (mz X ao hs) hs[i].1) base e2 w hs[i].1 hs[i].2.2 m[i]
 sep:∀i (hi:i<hs.length) k,ob hs[i].1 k=true->X k=false/\ob ao k=false
 dis:∀i j (hi:i<hs.length) (hj:j<hs.length),i≠j->∀k,ob hs[i].1 k=true->ob hs[j].1 k=false
section
variable {X:Nat->Bool} {base:Nat} {e1 e2:TypeId} {w w':World} {ao:Option Addr} {cap:Nat} {hs:List Hdr} {m:List (List Rat)}
theorem MO.out_sep (h:MO X base e1 e2 w ao cap hs m) {k:Nat} (a:ob ao k=true):X k=false/\obs hs k=false:=by
 refine⟨h.outer.1 k a,?_⟩;cases c:obs hs k
 ·rfl
 ·obtain⟨i,hi,b⟩:=a5b c
  have:=(h.sep i hi k b).2;rw[a]at this;simp at this
theorem MO.obs_sep (h:MO X base e1 e2 w ao cap hs m) {k:Nat} (b:obs hs k=true):X k=false/\ob ao k=false:=by
 obtain⟨i,hi,a⟩:=a5b b;exact h.sep i hi k a
theorem MO.mb_X (h:MO X base e1 e2 w ao cap hs m) {k:Nat} (b:mb ao hs k=true):X k=false:=by
 rcases a2t.1 b with a|a
 ·exact(h.out_sep a).1
 ·exact(h.obs_sep a).1
theorem MO.mb_block (h:MO X base e1 e2 w ao cap hs m) {k:Nat} (c:mb ao hs k=true):base<=k/\k<w.heap.size:=by
 rcases a2t.1 c with a|a
 ·exact h.outer.block a
 ·obtain⟨i,hi,b⟩:=a5b a
  exact(h.row i hi (by have:=h.len;omega)).block b
theorem MO.mz_sub (_:MO X base e1 e2 w ao cap hs m) {i:Nat} (hi:i<hs.length) (k:Nat) (a:ob hs[i].1 k=true):mz X ao hs k=true:=a1V.2 (.inr (.inr (a1I hi a)))
theorem MO.hz (h:MO X base e1 e2 w ao cap hs m) (b:HX X w):HX (mz X ao hs) w:=fun k c=>by
 rcases a1V.1 c with a|a
 ·exact b k a
 ·exact(h.mb_block (a2t.2 a)).2
theorem MO.ext (h:MO X base e1 e2 w ao cap hs m) {Y X':Nat->Bool} (n:ExtX Y w w') (l:∀k,k<w.heap.size->Y k=true->X k=true) (d:∀k,k<w.heap.size->X' k=true->X k=true):MO X' base e1 e2 w' ao cap hs m:=by
 have f:∀k,mb ao hs k=true->X' k=false:=fun k b=>by
  cases e:X' k
  ·rfl
  ·have:=d k (h.mb_block b).2 e;rw[h.mb_X b]at this;simp at this
 have g:∀k,mb ao hs k=true->Y k=false:=fun k b=>by
  cases e:Y k
  ·rfl
  ·have:=l k (h.mb_block b).2 e;rw[h.mb_X b]at this;simp at this
 refine⟨h.outer.ext HdR.elem n l d,h.len,h.rlen,fun i hi j=>?_,fun i hi k b=>⟨f k (a2t.2 (.inr (a1I hi b))),(h.sep i hi k b).2⟩,h.dis⟩;refine(h.row i hi j).ext QC.elem n (fun k b c=>a5a (a1V.2 (.inl (l k b c))) ?_) (fun k b c=>?_)
 ·cases p:ob hs[i].1 k
  ·rfl
  ·have:=g k (a2t.2 (.inr (a1I hi p)));rw[c]at this;simp at this
 ·obtain⟨o,q⟩:=b0U c
  refine a5a (a1V.2 ?_) q;rcases a1V.1 o with a|a
  ·exact .inl (d k b a)
  ·exact .inr a
theorem MO.ext0 (h:MO X base e1 e2 w ao cap hs m) (b:Ext w w'):MO X base e1 e2 w' ao cap hs m:=
 h.ext b (fun k _ a=>by simp[noY]at a) (fun _ _ h=>h)
theorem MO.upd (h:MO X base e1 e2 w ao cap hs m) {i:Nat} (hi:i<hs.length) {l:List Rat} (d:ExtX (ob hs[i].1) w w') (f:∀n:i<m.length,l.length=m[i].length) (g:OL QC 3 (cut (mz X ao hs) hs[i].1) base e2 w' hs[i].1 hs[i].2.2 l):MO X base e1 e2 w' ao cap hs (m.set i l):=by
 refine⟨h.outer.frame HdR.pure d (fun k b=>?_) h.outer.1,by rw[List.length_set];exact h.len,fun j c a=>?_,fun j c a=>?_,h.sep,h.dis⟩
 ·cases o:ob hs[i].1 k
  ·rfl
  ·have:=(h.sep i hi k o).2;rw[b]at this;simp at this
 ·rw[List.getElem_set]
  split
  ·subst_vars;rw[f (by have:=h.len;omega)];exact h.rlen _ c (by have:=h.len;omega)
  ·exact h.rlen j c (by simpa using a)
 ·rw[List.getElem_set]
  split
  ·subst_vars;exact g
  ·rename_i e
   exact(h.row j c (by simpa using a)).ext QC.elem d (fun k _ b=>a5a (h.mz_sub hi k b) (h.dis i j hi c e k b)) (fun _ _ b=>b)
theorem MO.perm (h:MO X base e1 e2 w ao cap hs m) {b:List Hdr} {r:List (List Rat)} (f:Nat->Nat) (n:∀i,i<hs.length->f i<hs.length) (q:∀i j,i<hs.length->j<hs.length->f i=f j->i=j) (g:∀i,i<hs.length->∃j,j<hs.length/\f j=i)
  (C:b.length=hs.length) (y:r.length=m.length) (l:∀i (hi:i<b.length) (d:f i<hs.length),b[i]=hs[f i]) (u:∀i (hi:i<r.length) (d:f i<m.length),r[i]=m[f i])
  (z:ExtX (ob ao) w w') (A:OL HdR 1 X base e1 w' ao cap b):MO X base e1 e2 w' ao cap b r:=by
 have x:=h.len;have o:∀k,obs b k=true↔obs hs k=true:=fun k=>by
  constructor
  ·intro c
   obtain⟨i,hi,s⟩:=a5b c;have a:=n i (by omega);rw[l i hi a]at s;exact a1I a s
  ·intro c
   obtain⟨i,hi,s⟩:=a5b c;obtain⟨j,v,rfl⟩:=g i hi;refine a1I (i:=j) (by omega) ?_;rw[l j (by omega) hi];exact s
 have hz:mz X ao b=mz X ao hs:=by
  funext k
  rw[Bool.eq_iff_iff,a1V,a1V,o]
 refine⟨A,by omega,fun i hi d=>?_,fun i hi d=>?_,fun i hi k c=>?_,fun i j hi v t k c=>?_⟩
 ·have a:=n i (by omega)
  rw[l i hi a,u i d (by omega)];exact h.rlen _ a (by omega)
 ·have a:=n i (by omega)
  rw[hz,l i hi a,u i d (by omega)];exact(h.row _ a (by omega)).ext QC.elem z (fun k _ c=>a5a (a1V.2 (.inr (.inl c))) (by
   cases B:ob hs[f i].1 k
   ·rfl
   ·have:=(h.sep _ a k B).2;rw[c]at this;simp at this)) (fun _ _ c=>c)
 ·have a:=n i (by omega)
  rw[l i hi a]at c;exact h.sep _ a k c
 ·have a:=n i (by omega)
  have p:=n j (by omega);rw[l i hi a]at c;rw[l j v p];exact h.dis _ _ a p (fun e=>t (q i j (by omega) (by omega) e)) k c
theorem MO.put (h:MO X base e1 e2 w ao cap hs m) {i:Nat} (hi:i<hs.length) (I:hs[i].1=none) {a:Option Addr} {c:Nat} {l:List Rat} {A:World}
  (C:Ext w A) (n:∀k,ob a k=true->w.heap.size<=k) (H:OL QC 3 (mz X ao hs) base e2 A a c l) (G:HX X w)
  (F:ExtX (ob ao) A w') (J:OL HdR 1 X base e1 w' ao cap (hs.set i (a,l.length,c))):MO X base e1 e2 w' ao cap (hs.set i (a,l.length,c)) (m.set i l):=by
 have x:=h.len;have D:ExtX (ob ao) w w':=(ExtX.of C).trans F;have u:∀k,obs (hs.set i (a,l.length,c)) k=true↔obs hs k=true\/ob a k=true:=fun k=>by
  constructor
  ·intro b
   obtain⟨j,g,d⟩:=a5b b;rw[List.getElem_set]at d;split at d
   ·exact .inr d
   ·exact .inl (a1I (by simpa using g) d)
  ·rintro (b|b)
   ·obtain⟨j,g,d⟩:=a5b b
    refine a1I (i:=j) (by simpa using g) ?_;rw[List.getElem_set];split
    ·subst_vars;rw[I]at d;simp[ob]at d
    ·exact d
   ·refine a1I (i:=i) (by simpa using hi) ?_
    rw[List.getElem_set];simpa using b
 have v:∀k,mz X ao (hs.set i (a,l.length,c)) k=true↔mz X ao hs k=true\/ob a k=true:=fun k=>by
  rw[a1V,a1V,u];constructor
  ·rintro (h|h|h|h)
   ·exact .inl (.inl h)
   ·exact .inl (.inr (.inl h))
   ·exact .inl (.inr (.inr h))
   ·exact .inr h
  ·rintro ((h|h|h)|h)
   ·exact .inl h
   ·exact .inr (.inl h)
   ·exact .inr (.inr (.inl h))
   ·exact .inr (.inr (.inr h))
 have o:∀k,mb ao hs k=true->ob a k=false:=fun k b=>by
  cases p:ob a k
  ·rfl
  ·have:=n k p;have:=(h.mb_block b).2;omega
 have s:∀k,ob a k=true->ob ao k=false:=fun k b=>by
  cases p:ob ao k
  ·rfl
  ·have:=o k (a2t.2 (.inl p));rw[b]at this;simp at this
 refine⟨J,by simp[x],fun j g t=>?_,fun j g t=>?_,fun j g k b=>?_,fun j q g hq E k b=>?_⟩
 ·rw[List.getElem_set,List.getElem_set]
  split
  ·rfl
  ·exact h.rlen j (by simpa using g) (by simpa using t)
 ·have f:j<hs.length:=by simpa using g
  have z:j<m.length:=by simpa using t
  by_cases e:i=j
  ·subst e
   simp only[List.getElem_set_self];refine H.ext QC.elem F (fun k _ b=>a1V.2 (.inr (.inl b))) (fun k b hz=>?_);obtain⟨B,d⟩:=b0U hz;rcases(v k).1 B with r|r
   ·exact r
   ·rw[d]at r;simp at r
  ·simp only[List.getElem_set_ne e]
   refine(h.row j f z).ext QC.elem D (fun k _ b=>a5a (a1V.2 (.inr (.inl b))) ?_) (fun k b hz=>?_)
   ·cases p:ob hs[j].1 k
    ·rfl
    ·have:=(h.sep j f k p).2;rw[b]at this;simp at this
   ·obtain⟨B,d⟩:=b0U hz
    rcases(v k).1 B with r|r
    ·exact a5a r d
    ·have:=n k r;omega
 ·rw[List.getElem_set]at b
  split at b
  ·exact⟨by
    cases p:X k
    ·rfl
    ·have:=G k p;have:=n k b;omega,s k b⟩
  ·exact h.sep j (by simpa using g) k b
 ·have f:j<hs.length:=by simpa using g
  have y:q<hs.length:=by simpa using hq
  rw[List.getElem_set]at b |-;split at b
  ·rw[if_neg (by omega)]
   cases p:ob hs[q].1 k
   ·rfl
   ·have:=o k (a2t.2 (.inr (a1I y p)));dsimp only at b;rw[b]at this;simp at this
  ·split
   ·exact o k (a2t.2 (.inr (a1I f b)))
   ·exact h.dis j q f y E k b
theorem MO.hdr (h:MO X base e1 e2 w ao cap hs m) (i:Nat) (hi:i<hs.length):w.cell? (adr ao i)=some (.slice hs[i].1 hs[i].2.1 hs[i].2.2)/\w.frozen? (adr ao i)=false:=by
 obtain⟨u,b,a,rfl⟩:=h.outer.cell HdR.one i hi;exact⟨b,a⟩
theorem MO.rowS (h:MO X base e1 e2 w ao cap hs m) {i:Nat} (hi:i<hs.length) (a:i<m.length):Sl QC 3 (_root_.Go.Rep.mk (cut (mz X ao hs) hs[i].1) w) hs[i].1 m[i]:=(h.row i hi a).sl QC.elem
theorem MO.rowX (h:MO X base e1 e2 w ao cap hs m) {i:Nat} (hi:i<hs.length) (a:i<m.length):Sl QC 3 (_root_.Go.Rep.mk X w) hs[i].1 m[i]:=(h.rowS hi a).mono QC.mono (a1u fun k _ b=>a5a (a1V.2 (.inl b)) (by
 cases c:ob hs[i].1 k
 ·rfl
 ·have:=(h.sep i hi k c).1;rw[b]at this;simp at this))
theorem MO.capLen (h:MO X base e1 e2 w ao cap hs m):m.length<=cap:=by rw[<-h.len];exact h.outer.lenCap
theorem MO.mc (h:MO X base e1 e2 w ao cap hs m):MC (_root_.Go.Rep.mk X w) (.slice ao m.length cap) m:=by
 have c:=h.len;refine⟨ao,cap,rfl,h.capLen,fun e=>?_,fun i hi=>?_⟩
 ·have:=h.outer.hd;rw[c]at this;exact this e
 ·obtain⟨l,_⟩:=h.hdr i (by omega)
  have f:=h.rowX (i:=i) (by omega) hi;refine⟨.slice hs[i].1 hs[i].2.1 hs[i].2.2,rfl,fun j g=>?_,?_⟩
  ·have a:j=0:=by simp[Value.cells]at g;omega
   subst a;unfold _root_.Go.Rep.mk;have d:X (adr ao (i*1+0)).block=false:=by
    obtain⟨b,k,rfl⟩:=h.outer.hd (by omega);exact h.outer.1 _ (by simp[ob,adr])
   rw[d];simpa[Value.cells]using l
  ·rw[h.rlen i (by omega) hi]
   exact⟨_,_,rfl,by have:=(h.row i (by omega) hi).lenCap;exact this,f⟩
theorem MO.start {n:Nat} (d:OL HdR 1 X base e1 w ao cap (List.replicate n (none,0,0))) (e2:TypeId):MO X base e1 e2 w ao cap (List.replicate n (none,0,0)) (List.replicate n []):=by
 refine⟨d,by simp,fun i hi a=>by simp,fun i hi a=>?_,fun i hi k b=>?_,fun i j hi e c k b=>?_⟩
 ·simp only[List.getElem_replicate];exact OL.nil _ _ _ _ _ _
 ·simp[ob]at b
 ·simp[ob]at b
end
end Go.Rep
namespace Go.Rep
open Go.RowKit Go.Lim
section
variable {P:Program} {α:Type} {R:Mem->Value->α->Prop} {X:Nat->Bool} {base:Nat} {e:TypeId} {w:World} {ao:Option Addr} {cap:Nat} {l:List α}
theorem OL.cell3 (h:OL R 3 X base e w ao cap l) (i:Nat) (hi:i<l.length) {g o:Nat} (hg:adr ao (i*3)=⟨g,o,none⟩):
  ∃u v0 v1 v2,a0i u= [v0,v1,v2]/\(w.cell? ⟨g,o,none⟩=some v0/\w.frozen? ⟨g,o,none⟩=false)/\(w.cell? ⟨g,o+1,none⟩=some v1/\w.frozen? ⟨g,o+1,none⟩=false)/\(w.cell? ⟨g,o+2,none⟩=some v2/\w.frozen? ⟨g,o+2,none⟩=false)/\R (mk (un X ao) w) u l[i]:=by
 obtain⟨us,h1,h2,_,h3,h5⟩:=h.cells;have hi':i<us.length:=by omega
 have hsz:us[i].cells.size=3:=h2 _ (List.getElem_mem _);have hlen:(a0i us[i]).length=3:=by simp[a0i,hsz]
 obtain⟨v0,v1,v2,hv⟩:∃v0 v1 v2,a0i us[i]= [v0,v1,v2]:=by
  match hc:a0i us[i],hlen with
  | [a,b,c],_=>exact⟨a,b,c,rfl⟩
 have ha:∀j,adr ao (i*3+j)=⟨g,o+j,none⟩:=fun j=>by rw[<-a9I,hg,Addr.add_lit]
 have key:∀j v,j<3->(a0i us[i])[j]? =some v->w.cell? ⟨g,o+j,none⟩=some v/\w.frozen? ⟨g,o+j,none⟩=false:=fun j v hj hjv=>by
  have hget:=a3v us i j hi' h2 hj;rw[hjv]at hget;have:=h3 _ _ hget;rwa[ha]at this
 exact⟨us[i],v0,v1,v2,hv,key 0 v0 (by omega) (by rw[hv];rfl),key 1 v1 (by omega) (by rw[hv];rfl),key 2 v2 (by omega) (by rw[hv];rfl),h5 i hi' hi⟩
theorem a5A {P:Program} {w:World} {a:Addr} {u v:Value} (d:v.oneCell'=true) (b:w.cell? a=some u) (c:w.frozen? a=false):(store a v).run P w= .ok () (w.setCell a v):=by
 rw[run_store P w a v _ d,b];simp[c]
theorem OL.set3 {t:TypeId} (D:TyI P t 3) (k:Elem R 3) (h:OL R 3 X base e w ao cap l) (i:Nat) (hi:i<l.length) {g o:Nat} (d:adr ao (i*3)=⟨g,o,none⟩) {v0 v1 v2:Value} {x:α} (j:R (mk (un X ao) w) (.agg #[v0,v1,v2]) x):
  OL R 3 X base e (((w.setCell ⟨g,o,none⟩ v0).setCell ⟨g,o+1,none⟩ v1).setCell ⟨g,o+2,none⟩ v2) ao cap (l.set i x)/\ExtX (ob ao) w (((w.setCell ⟨g,o,none⟩ v0).setCell ⟨g,o+1,none⟩ v1).setCell ⟨g,o+2,none⟩ v2):=by
 obtain⟨N,f,b⟩:=D;obtain⟨_,M,E,u,_,⟨J,H⟩,⟨v,G⟩,⟨K,A⟩,_⟩:=h.cell3 i hi d;obtain⟨w',c,C,s⟩:=h.run_store (P:=P) f b k i hi _ x j;have a:=k.one _ _ _ j;rw[d]at c;have n:v0.oneCell'=true:=a v0 (by simp[a0i,Value.cells]);have p:v1.oneCell'=true:=a v1 (by simp[a0i,Value.cells]);have q:v2.oneCell'=true:=a v2 (by simp[a0i,Value.cells]);have m:(w.setCell ⟨g,o,none⟩ v0).cell? ⟨g,o+1,none⟩=some E:=by rw[World.cell?_setCell_other (h:=by simp)];exact v
 have F:((w.setCell ⟨g,o,none⟩ v0).setCell ⟨g,o+1,none⟩ v1).cell? ⟨g,o+2,none⟩=some u:=by rw[World.cell?_setCell_other (h:=by simp),World.cell?_setCell_other (h:=by simp)];exact K
 have I:(w.setCell ⟨g,o,none⟩ v0).frozen? ⟨g,o+1,none⟩=false:=by rw[World.frozen?_setCell];exact G
 have r:((w.setCell ⟨g,o,none⟩ v0).setCell ⟨g,o+1,none⟩ v1).frozen? ⟨g,o+2,none⟩=false:=by rw[World.frozen?_setCell,World.frozen?_setCell];exact A
 have L:w'=((w.setCell ⟨g,o,none⟩ v0).setCell ⟨g,o+1,none⟩ v1).setCell ⟨g,o+2,none⟩ v2:=by
  have z:=a5A (P:=P) n J H;have B:=a5A (P:=P) p m I;have y:=a5A (P:=P) q F r;simp[storeVar,sizeOf,typeInfo,f,b,Value.cells,storeCells,Addr.add_lit,z,B,y]at c;exact c.symm
 subst L;exact⟨C,s⟩
end
section
variable {X:Nat->Bool} {base:Nat} {e1 e2:TypeId} {w w':World} {ao:Option Addr} {cap:Nat} {hs:List Hdr} {m:List (List Rat)}
theorem MO.old {α:Type} {R:Mem->Value->α->Prop} (i:a3E R) {u:Value} {x:α} {d:Nat->Bool} {b:World} (h:MO X base e1 e2 w ao cap hs m) (f:R (_root_.Go.Rep.mk d b) u x) (e:Ext b w) (j:b.heap.size<=base) (g:∀k,k<b.heap.size->X k=true->d k=true):R (_root_.Go.Rep.mk (mz X ao hs) w) u x:=
 i _ _ _ _ (a0T e (fun k _ c=>by simp[noY]at c) fun k c hz=>by
  rcases a1V.1 hz with a|a
  ·exact g k c a
  ·have:=(h.mb_block (a2t.2 a)).1;omega) f
theorem MO.less {α:Type} {R:Mem->Value->α->Prop} (a:a3E R) {u:Value} {x:α} (_:MO X base e1 e2 w ao cap hs m) (b:R (_root_.Go.Rep.mk (mz X ao hs) w) u x):R (_root_.Go.Rep.mk X w) u x:=
 a _ _ _ _ (a1u fun _ _ c=>a1V.2 (.inl c)) b
theorem MO.ext_from {a:World} (h:MO X base e1 e2 w ao cap hs m) (c:Ext a w) (e:a.heap.size<=base) (b:ExtX (mb ao hs) w w'):Ext a w':=
 c.then_ b fun i hi _=>by
  cases d:mb ao hs i
  ·rfl
  ·have:=(h.mb_block d).1;omega
theorem b8L {ao:Option Addr} {hs:List Hdr} {k:Nat} (h:mb ao hs k=false):ob ao k=false/\∀i (hi:i<hs.length),ob hs[i].1 k=false:=by
 refine⟨?_,fun i hi=>?_⟩
 ·cases a:ob ao k
  ·rfl
  ·rw[a2t.2 (.inl a)]at h;simp at h
 ·cases a:ob hs[i].1 k
  ·rfl
  ·rw[a2t.2 (.inr (a1I hi a))]at h;simp at h
theorem ExtX.row {i:Nat} (hi:i<hs.length) (h:ExtX (ob hs[i].1) w w'):ExtX (mb ao hs) w w':=h.weaken fun _ _ a=>(b8L a).2 i hi
theorem ExtX.outer (h:ExtX (ob ao) w w'):ExtX (mb ao hs) w w':=h.weaken fun _ _ a=>(b8L a).1
theorem b3i {hs a:List Hdr} (h:∀k,obs hs k=obs a k):mb ao hs=mb ao a/\mz X ao hs=mz X ao a:=by
 constructor<;>(funext k;simp[mb,mz,h])
def c2g (X:Nat->Bool) (e1 e2:TypeId) (w:World) (m:List (List Rat)) (e:Ending) (w':World):Prop:=Ext w w'/\∃ao cap hs,e= .returned (.slice ao m.length cap)/\MO X w.heap.size e1 e2 w' ao cap hs m
end
end Go.Rep
namespace Go.Proofs.YtidbbddagfnfbaaGreat
open Go.RowKit Go.Rep Go.Lim Go.Lin
theorem b0V {α:Type} (r i:Nat) (z:α) (x:α) (hi:i<r):((List.range r).map fun q=>if q<i then z else x).set i z=(List.range r).map fun q=>if q<i+1 then z else x:=by
 refine List.ext_getElem (by simp) fun q b c=>?_;simp at b;rw[List.getElem_set];simp only[List.getElem_map,List.getElem_range];split
 ·subst_vars;simp
 ·by_cases a:q<i
  ·simp[a,show q<i+1 by omega]
  ·simp[a,show¬q<i+1 by omega]
theorem a8O {α:Type} (r:Nat) (z x:α):((List.range r).map fun q=>if q<0 then z else x)=List.replicate r x:=by
 refine List.ext_getElem (by simp) fun q b a=>by simp
theorem a8P {α:Type} (r:Nat) (z x:α):((List.range r).map fun q=>if q<r then z else x)=List.replicate r z:=by
 refine List.ext_getElem (by simp) fun q a b=>?_;simp at a;simp[a]
set_option maxRecDepth 100000 in
theorem a8f (X:Nat->Bool) (w:World) (r c:Nat) (D:HX X w) (N:r<=1000) (L:c<=1000):Calls Tryz.prog 274 #[.int .i64 (r:Int), .int .i64 (c:Int)] w (c2g X 24 45 w (List.replicate r (List.replicate c 0))):=by
 go_enter Tryz.func274,Tryz.ntmps274
 go_wp2_with ((with_reducible show wpList _ _ _ (⟨_, .makeSlice _ _ _,_,_,_,_⟩::_) _ _);refine a2y (R:=HdR) a0s HdR.elem (none,0,0) (fun _=>rfl) X D w.heap.size (Nat.le_refl _) r rfl rfl rfl (by omega) (by omega) ?_;intro ao M d v)
 have p:=MO.start d 45;have G:=d.hd;simp only[List.length_replicate]at G;have E:List.replicate r ([]:List Rat)=(List.range r).map fun q=>if q<0 then List.replicate c 0 else[]:=(a8O r _ _).symm
 rw[E]at p;clear d E;go_loopw [11] (fun k wr=>∃(i:Nat) (hs:List Hdr),k= .int .i64 i/\i<=r/\Hid (∀q (hq:q<hs.length),i<=q->hs[q].1=none)/\MO X w.heap.size 24 45 wr ao r hs ((List.range r).map fun q=>if q<i then List.replicate c 0 else[])/\Ext w wr) (fun k _=>r - (intOf k).toNat)
 case atStart=>exact⟨0,_,rfl,Nat.zero_le _,hid (fun q hq _=>by simp),p,v⟩
 case round=>
  obtain⟨i,hs,rfl,hi,a,e,u⟩:=hrel;have n:HX X wr:=D.ext u;have y:=e.hz n;have s:=hid e.len;have z:Hid (((List.range r).map fun q=>if q<i then List.replicate c (0:Rat)else[]).length=r):=hid (by simp);by_cases o:i<r
  ·have f:i<hs.length:=by rw[s.out,z.out];exact o
   have x:=hid (b0V r i (List.replicate c (0:Rat)) [] o);have I:=a.out i f (Nat.le_refl _);go_wp2_with (first|(with_reducible refine a0q a0s (by omega) (by assumption) ?_)|((with_reducible show wpList _ _ _ (⟨_, .makeSlice _ _ _,_,_,_,_⟩::_) _ _);refine a2y (R:=QC) a0B QC.elem (0:Rat) (fun _=>QC.zero _) (mz X ao hs) y wr.heap.size (Nat.le_refl _) c rfl rfl rfl (by omega) (by omega) ?_;intro t O j g)|((with_reducible show wpList _ _ _ (⟨_, .store _ _ _,_,_,_,_⟩::_) _ _);refine a2F a3Y HdR.elem i rfl (by simp) (e.outer.ext0 HdR.elem g) f (.slice t c c) (t,c,c) rfl rfl ?_;intro K B m))
   have h:=e.put (l:=List.replicate c 0) f I g (fun k F=>(j.block F).1) (j.base_le u.size) n m (by simpa using B);rw[x.out]at h;have C:Ext w K:=(u.trans g).then_ m fun k F _=>by
    cases J:ob ao k
    ·rfl
    ·have:=(e.outer.block J).1;omega
   have b:Hid (∀q (hq:q<(hs.set i (t,(List.replicate c (0:Rat)).length,c)).length),i+1<=q->(hs.set i (t,(List.replicate c (0:Rat)).length,c))[q].1=none):=hid fun q hq H=>by
    rw[List.getElem_set_ne (by omega)];exact a.out q (by simpa using hq) (by omega)
   go_roundw
   case rel=>exact⟨i+1,_,by go_num,by omega,b,h,C⟩
   case measure=>simp[intOf];omega
  ·have A:i=r:=by omega
   subst A;rw[a8P]at e;go_wp2_with fail
   go_ret
   exact⟨u,ao,i,hs,by simp,e⟩
end Go.Proofs.YtidbbddagfnfbaaGreat
namespace Go.Lin
def mix {α:Type} (a b:List α) (i:Nat):List α:=a.take i++b.drop i
theorem a2r {α:Type} {a b:List α} (h:a.length=b.length) (i:Nat):(mix a b i).length=a.length:=by simp[mix];omega
theorem a5c {α:Type} (a b:List α):mix a b 0=b:=by simp[mix]
theorem a5d {α:Type} {a b:List α} {i:Nat} (d:a.length<=i) (c:b.length<=i):mix a b i=a:=by simp[mix,List.take_of_length_le d,List.drop_of_length_le c]
theorem a2d {α:Type} {a b:List α} (h:a.length=b.length) (i q:Nat) (hq:q<(mix a b i).length):(mix a b i)[q]=if q<i then a[q]'(by rw[a2r h]at hq;exact hq)else b[q]'(by rw[a2r h]at hq;omega):=by
 have d:=hq;rw[a2r h]at d;have c:q<(a.take i++b.drop i).length:=hq
 show(a.take i++b.drop i)[q]'c=_
 rw[List.getElem_append];by_cases e:q<i
 ·rw[dif_pos (by simp;omega),if_pos e,List.getElem_take]
 ·rw[dif_neg (by simp;omega),if_neg e,List.getElem_drop]
  congr 1
  simp;omega
theorem a6C {α:Type} {a b:List α} (h:a.length=b.length) {i:Nat} (hi:i<a.length):(mix a b i).set i a[i]=mix a b (i+1):=by
 refine List.ext_getElem (by simp[a2r h]) fun q e d=>?_;rw[List.getElem_set];split
 ·subst_vars;rw[a2d h,if_pos (by omega)]
 ·rw[a2d h,a2d h]
  by_cases c:q<i
  ·rw[if_pos c,if_pos (by omega)]
  ·rw[if_neg c,if_neg (by omega)]
theorem c0o {α:Type} {a b:List α} (h:a.length=b.length) {i:Nat} (hi:i<b.length):(mix a b i).set i b[i]=mix a b i:=by
 refine List.ext_getElem (by simp) fun q d c=>?_;rw[List.getElem_set];split
 ·subst_vars;rw[a2d h,if_neg (by omega)]
 ·rfl
end Go.Lin
namespace Go.Proofs.YtidbbddagfnfbaaGreat
open Go.RowKit Go.Rep Go.Lim Go.Lin
set_option maxRecDepth 100000 in
set_option maxHeartbeats 800000 in
theorem a5B (X:Nat->Bool) (w:World) (u:Value) (m:List (List Rat)) (n c:Nat) (hX:HX X w) (hu:MV (mk X w) u m) (T:Shp n c m) (hc:a0x m=c) (hn:n<=1000) (e0:c<=1000):Calls Tryz.prog 275 #[u] w (c2g X 24 45 w m):=by
 have v:=a3z X w u m hu;obtain⟨h6,ca,rfl,e1,a8⟩:=hu;have d8:=a8.hd;rw[hc]at v;have G:=hid T.1;have d9:=hid T.2;rw[G.out]at e1 d8 v |-;obtain⟨A,hA⟩:∃A,List.replicate n (List.replicate c (0:Rat))=A:=⟨_,rfl⟩;have r:Hid (A.length=n):=hid (by rw[<-hA];simp);have a7:Hid (∀i (hi:i<A.length),A[i]=List.replicate c (0:Rat)):=hid fun i hi=>by subst hA;simp
 have a2:Hid (m.length=A.length):=hid (by rw[G.out,r.out]);have S:=a8f X w n c hX hn e0;rw[hA]at S;clear hA T hc;go_enter Tryz.func275,Tryz.ntmps275
 go_wp2_with fail
 refine v.mono ?_;rintro e w1 ⟨rfl,rfl⟩;go_wp2_with fail
 refine S.mono ?_;rintro e w2 ⟨e8,ao,cap,hs,rfl,F⟩;rw[r.out];have H:=hid (F.len.trans r.out);have h0:n<=cap:=by have:=F.capLen;rw[r.out]at this;exact this
 have c0:Hd ao n:=by have:=F.outer.hd;rw[H.out]at this;exact this
 have c3:Hid (∀i (hi:i<hs.length),hs[i].2.1=c):=hid fun i hi=>by
  have h1:i<A.length:=by rw[r.out,<-H.out];exact hi
  rw[F.rlen i hi h1,a7.out i h1];simp
 clear v S;go_wp2_with fail
 go_loopw [15] (fun k wr=>∃(i:Nat),k= .int .i64 i/\i<=n/\MO X w1.heap.size 24 45 wr ao cap hs (mix m A i)/\Ext w1 wr) (fun k _=>n - (intOf k).toNat)
 case atStart=>exact⟨0,rfl,Nat.zero_le _,by rw[a5c];exact F,e8⟩
 case round=>
  obtain⟨i,rfl,hi,p,L⟩:=hrel;by_cases U:i<n
  ·have a3:i<m.length:=by rw[G.out];exact U
   have c9:i<A.length:=by rw[r.out];exact U
   have s:i<hs.length:=by rw[H.out];exact U
   obtain⟨a1,c1,h5,d0,E,J⟩:=a8.row i a3;have N:=d0.out noY wr L rfl;obtain⟨x,hx⟩:∃x,m[i]=x:=⟨_,rfl⟩;obtain⟨z,hz⟩:∃z,A[i]=z:=⟨_,rfl⟩;rw[hx]at N E J;have f:Hid (x.length=c):=hid (by rw[<-hx];exact d9.out _ (List.getElem_mem _));have c2:Hid (z.length=c):=hid (by rw[<-hz,a7.out i c9];simp);have K:Hid (x.length=z.length):=hid (by rw[f.out,c2.out]);rw[f.out]at N E;have g5:Hid ((mix m A i).set i z=mix m A i):=hid (by rw[<-hz];exact c0o a2.out c9);have b2:Hid ((mix m A i).set i x=mix m A (i+1)):=hid (by rw[<-hx];exact a6C a2.out a3);have d3:Hid (i<(mix m A i).length):=hid (by rw[a2r a2.out];exact a3);have h2:Hd a1 c:=by have:=J.hd;rw[f.out]at this;exact this
   have a4:RV (mk X w1) (.slice a1 c c1) x:=⟨a1,c1,by rw[f.out],by rw[f.out];exact E,J⟩;obtain⟨a,y,cr,V⟩:∃a y cr,hs[i]=(a,y,cr):=⟨_,_,_,rfl⟩;have f8:y=c:=by have:=c3.out i s;rw[V]at this;exact this
   subst f8;have d:=hid V;rw[<-g5.out]at p;have e4:MO X w1.heap.size 24 45 wr ao cap hs ((mix m A i).set i (mix x z 0)):=by rw[a5c];exact p
   clear hx hz d0 J V p;obtain⟨wo,g3⟩:∃wo,wo=wr:=⟨_,rfl⟩;subst g3;go_wp2_with (with_reducible refine a0q a0s (by omega) (by assumption) ?_)
   go_loopw [22] (fun k wr=>∃(j:Nat),k= .int .i64 j/\j<=y/\MO X w1.heap.size 24 45 wr ao cap hs ((mix m A i).set i (mix x z j))/\Ext w1 wr) (fun k _=>y - (intOf k).toNat)
   case atStart=>exact⟨0,rfl,Nat.zero_le _,e4,L⟩
   case round=>
    obtain⟨j,rfl,hj,p,L⟩:=hrel;by_cases P:j<y
    ·have d1:j<x.length:=by rw[f.out];exact P
     have f5:HX X wr:=hX.ext L;have c4:=p.hz f5;have b6:Sl QV 3 (mk (mz X ao hs) wr) a1 x:=by
      obtain⟨_,_,c7,_,h3⟩:=p.old RV.mono a4 L (Nat.le_refl _) (fun _ _ h=>h);simp only[Value.slice.injEq]at c7;obtain⟨rfl,_,rfl⟩:=c7;exact h3
     have d4:Hid (i<((mix m A i).set i (mix x z j)).length):=hid (by rw[List.length_set];exact d3.out);have Q:Hid ((mix x z j).length=y):=hid (by rw[a2r K.out,f.out]);have B:=p.row i s d4.out;rw[List.getElem_set_self]at B;simp only[d.out]at B;have g6:Hd a y:=by have:=B.hd;rw[Q.out]at this;exact this
     have b9:Hid (un (cut (mz X ao hs) a) a=mz X ao hs):=hid (a5T fun k hk=>by have:=p.mz_sub s k;rw[d.out]at this;exact this hk);have O:Hid (ob a (adr ao i).block=false):=hid (by
      cases hb:ob a (adr ao i).block
      ·rfl
      ·have h1:=(p.sep i s (adr ao i).block (by rw[d.out];exact hb)).2
       obtain⟨b0,o0,rfl⟩:=c0 (by omega);simp[ob,adr]at h1)
     have D:Hid (ob a wr.heap.size=false):=hid (B.ob_ge (Nat.le_refl _));obtain⟨g,o,hg⟩:∃g o,adr a (j*3)=⟨g,o,none⟩:=⟨_,_,rfl⟩;have i2:∀W,(Instr.indexAt 23 (.slice ao n cap) (.int .i64 (i:Int))).run Tryz.prog W= .ok (.pointer (some (adr ao i))) W:=a0z a0s ao n cap .i64 i c0 (by omega) rfl;have i3:∀W,(Instr.indexAt 24 (.slice a y cr) (.int .i64 (j:Int))).run Tryz.prog W= .ok (.pointer (some ⟨g,o,none⟩)) W:=by rw[<-hg];exact a0m a0B a y cr .i64 j g6 (by omega)
     have bx:=Bx.new wr #[.bool false, .slice none 0 0, .slice none 0 0] 45;obtain⟨Z,hZ⟩:∃Z,mz X ao hs=Z:=⟨_,rfl⟩;have f4:=hid hZ;rw[hZ]at c4 b6 B b9;have e2:Hid ((mix x z j).set j x[j]=mix x z (j+1)):=hid (a6C K.out d1);have R:Hid (x[j]+0=x[j]):=hid (Rat.add_zero _);have t:=(p.hdr i s).1;rw[d.out]at t
     dsimp only at t
     clear hZ N;go_wp2_with (first|(with_reducible refine a1M a0B (by omega) (by assumption) ?_)|((with_reducible show wpList _ _ _ (⟨_, .load _ _,_,_,_,_⟩::_) _ _);refine a0G a0t j b6 d1 rfl (by simp) QV.agg ?_;intro u5 d2;obtain⟨s5,a5,n5,c5,d5,k5,e5,rfl⟩:=d2.shape)|((with_reducible show wpList _ _ _ (⟨_, .store _ _ _,_,_,_,_⟩::_) _ _);refine a0a a0t rfl rfl bx rfl rfl (a1Q _ _ _ _ _ _ _) ?_;intro I r1 r2))
     have C:Ext wr I:=ExtX.box ((ExtX.refl wr).alloc _) r2 (Nat.le_refl _);have q:Ext I I.drew:=(ExtX.refl I).drew;have f6:=p.ext0 C;have e9:=B.ext0 QC.elem C;have f7:QV (mk Z I.drew) (.agg #[.bool s5, .slice a5 n5 c5, .slice d5 k5 e5]) x[j]:=mkx QV.mono d2 (C.trans q);have e7:QV (mk Z I.drew) (.agg #[.bool false, .slice none 0 0, .slice none 0 0]) 0:=(QC.zero _).qv (by rw[a0Z];decide);have f9:HX Z I.drew:=c4.ext (C.trans q);have hS:Hid (∀Y W',ExtX Y I.drew W'->Y (adr ao i).block=false->Y wr.heap.size=false->W'.cell? (adr ao i)=some (.slice a y cr)/\W'.cell? ⟨wr.heap.size,0,none⟩=some (.bool s5)/\W'.cell? ⟨wr.heap.size,1,none⟩=some (.slice a5 n5 c5)/\W'.cell? ⟨wr.heap.size,2,none⟩=some (.slice d5 k5 e5)):=hid fun Y W' h g4 g8=>by
      have b1:=(r1.ext0 q).ext h g8;exact⟨h.cellY ((C.trans q).cell t) g4,b1.cell 0 rfl,b1.cell 1 rfl,b1.cell 2 rfl⟩
     obtain⟨g7,c8,a9,b8⟩:=hS.out noY I.drew (ExtX.refl _) rfl rfl;obtain⟨bw,g9⟩:∃bw,wr.heap.size=bw:=⟨_,rfl⟩;rw[g9]at hS c8 a9 b8 D |-;clear t r1 bx;go_wp2_with fail
     go_region_held3 (fun w'=>w'.cell? (adr ao i)=some (.slice a y cr)/\w'.cell? ⟨bw,0,none⟩=some (.bool s5)/\w'.cell? ⟨bw,1,none⟩=some (.slice a5 n5 c5)/\w'.cell? ⟨bw,2,none⟩=some (.slice d5 k5 e5))
      (first|exact hS.out noY _ t1 rfl rfl|exact hS.out (ob a) _ ((ExtX.of t1).trans M.2) O.out D.out|go_keep)
      ((go_at_call 101;(with_reducible refine(b7p Z I.drew _ _ _ 0 f9 f7 e7).mono ?_);rintro ee w6 ⟨t1,u6,rfl,a0⟩;obtain⟨s6,a6,n6,c6,d6,k6,e6,rfl⟩:=a0.shape;rw[R.out]at a0;have b5:=e9.ext0 QC.elem (q.trans t1);obtain⟨_,v0,v1,v2,_,⟨g0,f0⟩,⟨g1,f1⟩,⟨g2,f2⟩,_⟩:=b5.cell3 j (by rw[Q.out];exact P) hg;have M:=b5.set3 a7a QC.elem j (by rw[Q.out];exact P) hg (v0:= .bool s6) (v1:= .slice a6 n6 c6) (v2:= .slice d6 k6 e6) (x:=x[j]) (by rw[b9.out];exact a0)))
     obtain⟨q1,q2⟩:=M;rw[e2.out]at q1;have b3:ExtX (ob hs[i].1) w6 (((w6.setCell ⟨g,o,none⟩ (.bool s6)).setCell ⟨g,o+1,none⟩ (.slice a6 n6 c6)).setCell ⟨g,o+2,none⟩ (.slice d6 k6 e6)):=by rw[d.out];exact q2
     have b7:=f6.ext0 (q.trans t1);have b4:=b7.upd s (l:=mix x z (j+1)) b3 (fun h4=>by rw[List.getElem_set_self,a2r K.out,a2r K.out]) (by rw[f4.out,d.out];exact q1);rw[List.set_set]at b4;have f3:=b7.ext_from ((L.trans C).trans (q.trans t1)) (Nat.le_refl _) (ExtX.row s b3);clear g7 c8 a9 b8 g0 g1 g2 f0 f1 f2 i2 i3;go_wp2_with fail
     go_roundw
     case rel=>exact⟨j+1,by go_num,by omega,b4,f3⟩
     case measure=>simp[intOf];omega
    ·have d7:j=y:=by omega
     subst d7;rw[a5d (a:=x) (b:=z) (by rw[f.out];exact Nat.le_refl _) (by rw[c2.out];exact Nat.le_refl _),b2.out]at p;go_wp2_with fail
     go_roundw
     case rel=>exact⟨i+1,by go_num,by omega,p,L⟩
     case measure=>simp[intOf];omega
  ·have e3:i=n:=by omega
   subst e3;rw[a5d (by rw[G.out];exact Nat.le_refl _) (by rw[r.out];exact Nat.le_refl _)]at p;go_wp2_with fail
   go_ret
   exact⟨L,ao,cap,hs,by rw[G.out];rfl,p⟩
end Go.Proofs.YtidbbddagfnfbaaGreat
namespace Go.Rep
open Go.RowKit Go.Lim
section
variable {P:Program} {ops:Array Oper} {Q:Exit->Act->World->Prop} {rest:List Oper} {a:Act} {w:World}
variable {α:Type} {R:Mem->Value->α->Prop} {sz:Nat} {X:Nat->Bool} {base:Nat} {e:TypeId} {ao:Option Addr} {cap:Nat} {l:List α}
variable {d:Option Tmp} {ty:TypeId} {ps:String} {af:Array Edge}
theorem a5e {t:TypeId} {x:Operand} {k:Nat} (D:a1D P t sz) (i:Nat) (h:OL R sz X base e w ao cap l) (hi:i<l.length) (hx:a.eval x= .pointer (some (adr ao k))) (I:k=i*sz) (q:∀h u y,R h u y->∃g,u= .agg g)
  (K:∀u,R (mk (un X ao) w) u l[i]->wpList P ops Q rest (a.put d u) w):
  wpList P ops Q (⟨d, .load t x,ty,ps,af,none⟩::rest) a w:=by
 refine wpList_plain rfl fun L r=>?_;subst I;obtain⟨M,N,C,H,E⟩:=D;obtain⟨p,J,B,_,F,G⟩:=h.cells;have f:i<p.length:=by omega
 have o:=G i f hi;obtain⟨g,c⟩:=q _ _ _ o;have m:g.toList.length=sz:=by have:=B p[i] (List.getElem_mem _);rw[c]at this;simpa[Value.cells]using this
 have A:=run_loadCells_list (P:=P) w (adr ao (i*sz)) g.toList (fun j v z=>by
  rw[a9I];have n:j<sz:=by rw[<-m];exact(List.getElem?_eq_some_iff.1 z).1
  have b:=a3v p i j f B n;rw[c]at b;have s:(a0i (.agg g))[j]? =some v:=by simpa[a0i,Value.cells]using z
  rw[s]at b;exact(F _ _ b).1)
 rw[m]at A;unfold Oper.wp;simp[execOp,hx,Instr.loadAt,Instr.sureAddr,loadVar,isAgg,run_underlying C,sizeOf,typeInfo,H,E,A,Result.andThen];rw[c]at o;exact r _ _ (K _ o)
end
theorem OL.rat {R:Mem->Value->Rat->Prop} (v:b0P R) {X:Nat->Bool} {base:Nat} {e:TypeId} {w:World} {ao:Option Addr} {cap:Nat} {l:List Rat} (h:OL R 3 X base e w ao cap l) (i:Nat) (hi:i<l.length):
  ∃g o sg a n c d k e,adr ao (i*3)=⟨g,o,none⟩/\ob ao g=true/\Hid (∀Y W',ExtX Y w W'->Y g=false->W'.cell? ⟨g,o,none⟩=some (.bool sg)/\W'.cell? ⟨g,o+1,none⟩=some (.slice a n c)/\W'.cell? ⟨g,o+2,none⟩=some (.slice d k e))/\R (mk (un X ao) w) (.agg #[.bool sg, .slice a n c, .slice d k e]) l[i]:=by
 obtain⟨t,r,b⟩:=h.hd (by omega);have m:adr ao (i*3)=⟨t,r+i*3,none⟩:=by rw[b];rfl
 obtain⟨u,v0,v1,v2,q,⟨x,_⟩,⟨s,_⟩,⟨y,_⟩,p⟩:=h.cell3 i hi m;obtain⟨sg,a,n,c,d,k,e,rfl⟩:=v _ _ _ p;simp only[a0i,Value.cells,List.cons.injEq,and_true]at q;obtain⟨rfl,rfl,rfl⟩:=q;exact⟨_,_,sg,a,n,c,d,k,e,m,by rw[b];simp[ob],hid fun Y W' f j=>⟨f.cellY x j,f.cellY s j,f.cellY y j⟩,p⟩
end Go.Rep
namespace Go.Proofs.YtidbbddagfnfbaaGreat
open Go.RowKit Go.Rep Go.Lim Go.Lin
def c2u (Z:Nat->Bool) (base:Nat) (e:TypeId) (w:World) (a:Option Addr) (cap:Nat) (l:List Rat) (ee:Ending) (w':World):Prop:=ee= .returned (.tuple #[])/\ExtX (ob a) w w'/\OL QC 3 (cut Z a) base e w' a cap l
set_option maxRecDepth 100000 in
set_option maxHeartbeats 1600000 in
theorem a5f (Z:Nat->Bool) (base:Nat) (w:World) (l L:Option Addr) (c1 c2 n col:Nat) (row b:List Rat) (hX:HX Z w) (h1:OL QC 3 (cut Z l) base 45 w l c1 row) (h2:OL QC 3 (cut Z L) base 45 w L c2 b)
  (c9:∀k,ob l k=true->Z k=true) (l7:∀k,ob L k=true->Z k=true) (b4:∀k,ob l k=true->ob L k=false) (a9:row.length=n) (U:b.length=n) (hn:n<=1000) (c4:col<n)
  (i5:BR 68719476736 row) (g5:BR 68719476736 b) (d3:hq (row.getD col 0/b.getD col 0)<=68719476736) (e4:∀x∈b,hq (row.getD col 0/b.getD col 0*x)<=68719476736):
  Calls Tryz.prog 303 #[.slice l n c1, .slice L n c2, .int .i64 (col:Int)] w (c2u Z base 45 w l c1 (a3c row b col)):=by
 have f3:=hid (a5T c9);have j1:=hid (a5T l7);have n3:∀k,ob L k=true->ob l k=false:=fun k C=>by
  cases hb:ob l k
  ·rfl
  ·rw[b4 k hb]at C;simp at C
 have j5:Hd l n:=by have:=h1.hd;rw[a9]at this;exact this
 have n8:Hd L n:=by have:=h2.hd;rw[U]at this;exact this
 have b9:col<row.length:=by omega
 have b0:col<b.length:=by omega
 have g1:Hid (row.getD col 0=row[col]):=hid (by simp[List.getD_eq_getElem?_getD,b9]);have g2:Hid (b.getD col 0=b[col]):=hid (by simp[List.getD_eq_getElem?_getD,b0]);obtain⟨E,V⟩:∃E,a3c row b col=E:=⟨_,rfl⟩;have a3:Hid (E.length=n):=hid (by rw[<-V,a3J _ _ _ (by omega)];exact U);have f6:Hid (∀j (hj:j<row.length) (l3:j<b.length) (m6:j<E.length),E[j]=row[j] - (row.getD col 0/b.getD col 0)*b[j]):=hid fun j hj l3 m6=>by subst V;simp[a3c]
 have i0:Hid (row.getD col 0/b.getD col 0=0->E=row):=hid fun h=>by rw[<-V];exact b1y _ _ _ (by omega) h
 have e8:Hid (E.length=row.length):=hid (by rw[a3.out,a9]);have b1:=hid a9;have j0:=hid U;have b2:=hid i5;have b3:=hid g5;obtain⟨f,hf⟩:∃f,row.getD col 0/b.getD col 0=f:=⟨_,rfl⟩;rw[hf]at d3 i0 f6 e4;have h6:=hid d3;have h3:=hid e4;have j6:Hid (row[col]/b[col]=f):=hid (by rw[<-g1.out,<-g2.out];exact hf);rw[V];obtain⟨m,t,s1,p1,n1,q1,d1,k1,e1,i8,o3,c0,d8⟩:=h1.rat QC.shaped col b9;obtain⟨p,u,s2,p2,n2,q2,d2,k2,e2,j2,o5,c3,c8⟩:=h2.rat QC.shaped col b0;rw[f3.out]at d8;rw[j1.out]at c8;have i1:∀W,(Instr.indexAt 24 (.slice l n c1) (.int .i64 (col:Int))).run Tryz.prog W= .ok (.pointer (some ⟨m,t,none⟩)) W:=by rw[<-i8];exact a0m a0B l n c1 .i64 col j5 c4
 have i2:∀W,(Instr.indexAt 24 (.slice L n c2) (.int .i64 (col:Int))).run Tryz.prog W= .ok (.pointer (some ⟨p,u,none⟩)) W:=by rw[<-j2];exact a0m a0B L n c2 .i64 col n8 c4
 have o:Ext w w.drew:=(ExtX.refl w).drew;have R:Hid (∀Y W',ExtX Y w.drew W'->Y m=false->Y p=false->W'.cell? ⟨m,t,none⟩=some (.bool s1)/\W'.cell? ⟨m,t+1,none⟩=some (.slice p1 n1 q1)/\W'.cell? ⟨m,t+2,none⟩=some (.slice d1 k1 e1)/\W'.cell? ⟨p,u,none⟩=some (.bool s2)/\W'.cell? ⟨p,u+1,none⟩=some (.slice p2 n2 q2)/\W'.cell? ⟨p,u+2,none⟩=some (.slice d2 k2 e2)):=hid fun Y W' h e9 f4=>by
  have z1:=c0.out Y W' ((ExtX.of o).trans h) e9;have z2:=c3.out Y W' ((ExtX.of o).trans h) f4;exact⟨z1.1,z1.2.1,z1.2.2,z2.1,z2.2.1,z2.2.2⟩
 obtain⟨A,P,H,B,O,K⟩:=R.out noY w.drew (ExtX.refl _) rfl rfl;have o2:m<w.heap.size:=a2p A;have o4:p<w.heap.size:=a2p B;have a8:HX Z w.drew:=hX;have f9:QV (mk Z w.drew) (.agg #[.bool s1, .slice p1 n1 q1, .slice d1 k1 e1]) row[col]:=d8.qv (b2.out _ (List.getElem_mem _));have j3:QV (mk Z w.drew) (.agg #[.bool s2, .slice p2 n2 q2, .slice d2 k2 e2]) b[col]:=c8.qv (b3.out _ (List.getElem_mem _));obtain⟨ec,e0⟩:∃ec,e5 (decide (b[col]=0))=ec:=⟨_,rfl⟩;have qd:=c1w Z w.drew _ _ _ _ a8 f9 j3;rw[e0,j6.out]at qd;have I:Ext w.drew (w.alloc (.cells #[.bool false, .slice none 0 0, .slice none 0 0] 45)).drew:=⟨rfl,rfl,rfl,((ExtX.refl (Y:=noY) w).alloc _).size,((ExtX.refl (Y:=noY) w).alloc _).block⟩;have bA:Bx (w.alloc (.cells #[.bool false, .slice none 0 0, .slice none 0 0] 45)).drew w.heap.size #[.bool false, .slice none 0 0, .slice none 0 0] 45:=Bx.new w _ _;have z:Ext w (w.alloc (.cells #[.bool false, .slice none 0 0, .slice none 0 0] 45)).drew:=o.trans I;have n9:HX (un Z (some ⟨w.heap.size,0,none⟩)) (w.alloc (.cells #[.bool false, .slice none 0 0, .slice none 0 0] 45)).drew:=fun k C=>by
  have h9:(w.alloc (.cells #[.bool false, .slice none 0 0, .slice none 0 0] 45)).drew.heap.size=w.heap.size+1:=by show(w.alloc _).heap.size=_;simp
  rw[h9];by_cases hz:Z k=true
  ·have:=hX k hz;omega
  ·have:w.heap.size=k:=by simpa[un,hz,ob]using C
   omega
 have S:∀j,j<w.heap.size->ob (some ⟨w.heap.size,0,none⟩) j=false:=fun j hj=>a0b (by omega);have d4:=c1w (un Z (some ⟨w.heap.size,0,none⟩)) (w.alloc (.cells #[.bool false, .slice none 0 0, .slice none 0 0] 45)).drew _ _ _ _ n9 (a5Q (w:=w) QV.mono f9 z S) (a5Q (w:=w) QV.mono j3 z S);rw[e0,j6.out]at d4;clear i8 j2 c0 c3 d8 c8 hf V a9 U i5 g5 d3 e4 e0;go_enter Tryz.func303,Tryz.ntmps303
 go_upto_region 0 with(fail)
 go_cut [6,7]from 10 to 21 (fun b6 _ wx=>∃N s a n' c d k e,b6= .pointer (some ⟨N,0,none⟩)/\Bx wx N #[.bool s, .slice a n' c, .slice d k e] 45/\w.heap.size<=N/\QC (mk Z wx) (.agg #[.bool s, .slice a n' c, .slice d k e]) f/\Ext w wx)
 case first=>
  go_region_held3 (fun w'=>w'.cell? ⟨m,t,none⟩=some (.bool s1)/\w'.cell? ⟨m,t+1,none⟩=some (.slice p1 n1 q1)/\w'.cell? ⟨m,t+2,none⟩=some (.slice d1 k1 e1)/\w'.cell? ⟨p,u,none⟩=some (.bool s2)/\w'.cell? ⟨p,u+1,none⟩=some (.slice p2 n2 q2)/\w'.cell? ⟨p,u+2,none⟩=some (.slice d2 k2 e2))
   (first|exact R.out noY _ G rfl rfl|exact R.out noY _ (ExtX.alloc G _) rfl rfl|exact R.out noY _ I rfl rfl|exact R.out noY _ (I.trans T) rfl rfl|exact R.out (ob (some ⟨w.heap.size,0,none⟩)) _ ((ExtX.of (I.trans T)).trans F.2) (a0b (by omega)) (a0b (by omega))|exact R.out (ob (some ⟨w6.heap.size,0,none⟩)) _ ((ExtX.of (G.alloc _)).trans F.2) (a0b (by have:=G.size;have h9:w.drew.heap.size=w.heap.size:=rfl;omega)) (a0b (by have:=G.size;have h9:w.drew.heap.size=w.heap.size:=rfl;omega))|go_keep)
   (first|(go_at_call 208;(with_reducible refine qd.mono ?_);rintro ee w6 ⟨G,u6,rfl,q⟩;obtain⟨s6,a6,n6,c6,d6,k6,e6,rfl⟩:=q.shape;have F:=(Bx.new w6 #[.bool false, .slice none 0 0, .slice none 0 0] 45).set3 (.bool s6) (.slice a6 n6 c6) (.slice d6 k6 e6))|(go_at_call 208;(with_reducible refine d4.mono ?_);rintro ee w6 ⟨T,u6,rfl,q⟩;obtain⟨s6,a6,n6,c6,d6,k6,e6,rfl⟩:=q.shape;have bb:=bA.ext0 T;have y0:=bb.cell 0 rfl;have y1:=bb.cell 1 rfl;have y2:=bb.cell 2 rfl;have z0:=bb.frozen 0;have z1:=bb.frozen 1;have z2:=bb.frozen 2;have F:=bb.set3 (.bool s6) (.slice a6 n6 c6) (.slice d6 k6 e6)))
  ·clear A P H B O K
   go_wp2_with fail
   go_meet
   case rel=>exact⟨w6.heap.size,_,_,_,_,_,_,_,rfl,Bx.new w6 _ _,(o.trans G).size,QC.mono _ _ _ _ (a0l ((ExtX.refl w6).alloc _)) q,(o.trans G).alloc _⟩
  ·have n4:=QC.mono _ _ _ _ (a1u (X:=Z) fun k _ C=>a0f C) (QC.mono _ _ _ _ (a0w F.2 fun k C=>a0r C) q)
   have i:Ext w _:=ExtX.box (z.trans T) F.2 (Nat.le_refl _);clear A P H B O K y0 y1 y2 z0 z1 z2;go_wp2_with fail
   go_meet
   case rel=>exact⟨w.heap.size,_,_,_,_,_,_,_,rfl,F.1,Nat.le_refl _,n4,i⟩
 case rest=>
  obtain⟨N,sf,af,nf,cf,df,kf,ef,rfl,b6,o8,l9,M⟩:=hcut;clear A P H B O K i1 i2 qd d4 R bA I z;have i9:=hX.ext M;have h7:=h1.ext0 QC.elem M;have m5:=h2.ext0 QC.elem M;have f0:=b6.cell 0 rfl;have f1:=b6.cell 1 rfl;have f2:=b6.cell 2 rfl;have e3:=l9.qv h6.out;by_cases h0:f=0
  ·have hr:=hid (i0.out h0)
   have g3:Hid (f.num.sign=0):=hid (by rw[h0];rfl);clear h0;go_wp2_with fail
   refine(b5F Z wc _ f i9 e3).mono ?_;rintro e w7 ⟨i,rfl⟩;rw[g3.out];clear f0 f1 f2;go_wp2_with fail
   refine bodyPost_ret (results_none rfl _ _ _) rfl ?_;exact⟨rfl,ExtX.of (M.trans i),by rw[hr.out];exact h7.ext0 QC.elem i⟩
  ·have g3:((f.num.sign:Int)==0)=false:=a2w (by intro h;exact h0 (Rat.num_eq_zero.1 (Int.sign_eq_zero_iff_zero.1 h)))
   clear h0;go_wp2_with fail
   refine(b5F Z wc _ f i9 e3).mono ?_;rintro e w7 ⟨i,rfl⟩;have b7:=b6.ext0 i;have J:=mkx QV.mono e3 i;have f7:=M.trans i;have o0:=h7.ext0 QC.elem i;have l6:=m5.ext0 QC.elem i;clear f0 f1 f2 b6;go_wp2_with fail
   go_loopw [27] (fun k wr=>∃(j:Nat),k= .int .i64 j/\j<=n/\OL QC 3 (cut Z l) base 45 wr l c1 (mix E row j)/\OL QC 3 (cut Z L) base 45 wr L c2 b/\Bx wr N #[.bool sf, .slice af nf cf, .slice df kf ef] 45/\QV (mk Z wr) (.agg #[.bool sf, .slice af nf cf, .slice df kf ef]) f/\ExtX (ob l) w wr) (fun k _=>n - (intOf k).toNat)
   case atStart=>exact⟨0,rfl,Nat.zero_le _,by rw[a5c];exact o0,l6,b7,J,ExtX.of f7⟩
   case round=>
    obtain⟨j,rfl,hj,D,i3,b7,J,V⟩:=hrel;have l8:=hX.ext V;by_cases a0:j<n
    ·have k9:j<row.length:=by rw[b1.out];exact a0
     have f8:j<b.length:=by rw[j0.out];exact a0
     have g6:j<E.length:=by rw[a3.out];exact a0
     have j4:Hid ((mix E row j).length=n):=hid (by rw[a2r e8.out,a3.out]);have a4:j<(mix E row j).length:=by rw[j4.out];exact a0
     have i6:Hid ((mix E row j)[j]=row[j]):=hid (by rw[a2d e8.out,if_neg (by omega)]);have h4:Hid ((mix E row j).set j E[j]=mix E row (j+1)):=hid (a6C e8.out g6);have h8:Hid (row[j] - f*b[j]=E[j]):=hid (f6.out j k9 f8 g6).symm;have g8:=hid (b3.out b[j] (List.getElem_mem _));have j7:=hid (b2.out row[j] (List.getElem_mem _));have g7:=hid (h3.out b[j] (List.getElem_mem _));obtain⟨x,hx⟩:∃x,b[j]=x:=⟨_,rfl⟩;obtain⟨y,hy⟩:∃y,row[j]=y:=⟨_,rfl⟩;obtain⟨v,hv⟩:∃v,E[j]=v:=⟨_,rfl⟩;obtain⟨r,hr⟩:∃r,mix E row j=r:=⟨_,rfl⟩;obtain⟨gg,oo,sg,ap,np,cp,dp,kp,ep,hg,o9,g4,i4⟩:=D.rat QC.shaped j a4;rw[i6.out,hy,f3.out]at i4;rw[hx,hy,hv]at h8;rw[hx]at g8 g7;rw[hy]at j7;rw[hv,hr]at h4;rw[hr]at D a4 j4;have l0:=hid hx;have i1:∀W,(Instr.indexAt 24 (.slice l n c1) (.int .i64 (j:Int))).run Tryz.prog W= .ok (.pointer (some ⟨gg,oo,none⟩)) W:=by rw[<-hg];exact a0m a0B l n c1 .i64 j j5 (by omega)
     have bx:=Bx.new wr #[.bool false, .slice none 0 0, .slice none 0 0] 45;clear hx hy hv hr i6;go_wp2_with (first|(with_reducible refine a1M a0B (by omega) (by assumption) ?_)|((with_reducible show wpList _ _ _ (⟨_, .load _ _,_,_,_,_⟩::_) _ _);refine a5e a0t j i3 f8 rfl (by simp) QC.agg ?_;intro u5 f5;rw[l0.out,j1.out]at f5;obtain⟨s5,a5,n5,c5,d5,k5,e5,rfl⟩:=f5.shape)|((with_reducible show wpList _ _ _ (⟨_, .store _ _ _,_,_,_,_⟩::_) _ _);refine a0a a0t rfl rfl bx rfl rfl (a1Q _ _ _ _ _ _ _) ?_;intro Q r1 r2))
     have l1:Ext wr Q:=ExtX.box ((ExtX.refl wr).alloc _) r2 (Nat.le_refl _);have o:Ext Q Q.drew:=(ExtX.refl Q).drew;have g:=l1.trans o;have l5:=D.ext0 QC.elem g;have l4:=i3.ext0 QC.elem g;have b5:=b7.ext0 g;have m3:QV (mk Z Q.drew) (.agg #[.bool s5, .slice a5 n5 c5, .slice d5 k5 e5]) x:=(mkx QC.mono f5 g).qv g8.out;have k4:QV (mk Z Q.drew) (.agg #[.bool sg, .slice ap np cp, .slice dp kp ep]) y:=(mkx QC.mono i4 g).qv j7.out;have i7:QV (mk Z Q.drew) (.agg #[.bool sf, .slice af nf cf, .slice df kf ef]) f:=mkx QV.mono J g;have a8:HX Z Q.drew:=l8.ext g;obtain⟨bw,d9⟩:∃bw,wr.heap.size=bw:=⟨_,rfl⟩;have o6:Hid (ob l bw=false):=hid (by rw[<-d9];exact D.ob_ge (Nat.le_refl _));have k8:Hid (ob l N=false):=hid (by
      cases hb:ob l N
      ·rfl
      ·have:=(h1.block hb).2;omega)
     rw[d9]at r1;have R:Hid (∀Y W',ExtX Y Q.drew W'->Y gg=false->Y N=false->Y bw=false->W'.cell? ⟨gg,oo,none⟩=some (.bool sg)/\W'.cell? ⟨gg,oo+1,none⟩=some (.slice ap np cp)/\W'.cell? ⟨gg,oo+2,none⟩=some (.slice dp kp ep)/\W'.cell? ⟨N,0,none⟩=some (.bool sf)/\W'.cell? ⟨N,1,none⟩=some (.slice af nf cf)/\W'.cell? ⟨N,2,none⟩=some (.slice df kf ef)/\W'.cell? ⟨bw,0,none⟩=some (.bool s5)/\W'.cell? ⟨bw,1,none⟩=some (.slice a5 n5 c5)/\W'.cell? ⟨bw,2,none⟩=some (.slice d5 k5 e5)):=hid fun Y W' h e9 f4 n0=>by
      have z1:=g4.out Y W' ((ExtX.of g).trans h) e9;have z2:=b5.ext h f4;have z3:=(r1.ext0 o).ext h n0;exact⟨z1.1,z1.2.1,z1.2.2,z2.cell 0 rfl,z2.cell 1 rfl,z2.cell 2 rfl,z3.cell 0 rfl,z3.cell 1 rfl,z3.cell 2 rfl⟩
     obtain⟨A,P,H,B,O,K,m9,m8,j8⟩:=R.out noY Q.drew (ExtX.refl _) rfl rfl rfl;have o7:=r1.ext0 o;clear r1 bx g4;rw[d9];go_wp2_with fail
     go_region_with (first|(go_at_call 133;(with_reducible refine(b8D Z Q.drew _ _ _ _ a8 i7 m3).mono ?_);rintro ee w6 ⟨G,u6,rfl,q⟩;obtain⟨s6,a6,n6,c6,d6,k6,e6,rfl⟩:=q.shape;have m7:=a8.ext G;have j9:=mkx QV.mono k4 G;have o1:=q.qv g7.out;obtain⟨m0,m1,m2,_⟩:=R.out noY w6 G rfl rfl rfl)|(go_at_call 100;(with_reducible refine(c2e Z w6 _ _ _ _ m7 j9 o1).mono ?_);rintro ee w7 ⟨t7,u7,rfl,d0⟩;obtain⟨s7,a7,n7,c7,d7,k7,e7,rfl⟩:=d0.shape;rw[h8.out]at d0;have T:=G.trans t7;have g9:=l5.ext0 QC.elem T;obtain⟨_,v0,v1,v2,_,⟨g0,f0⟩,⟨g1,f1⟩,⟨g2,f2⟩,_⟩:=g9.cell3 j a4 hg;have h5:=g9.set3 a7a QC.elem j a4 hg (v0:= .bool s7) (v1:= .slice a7 n7 c7) (v2:= .slice d7 k7 e7) (x:=v) (by rw[f3.out];exact d0)))
     all_goals
      obtain⟨q1,q2⟩:=h5;rw[h4.out]at q1;have m4:=(l4.ext0 QC.elem T).ext QC.elem q2 (fun k _ C=>a5a (c9 k C) (b4 k C)) (fun _ _ C=>C);have b8:=(b5.ext0 T).ext q2 k8.out;have k0:QV (mk Z _) _ _:=QV.mono _ _ _ _ (a0w q2 c9) (mkx QV.mono i7 T);have l2:=(V.trans (ExtX.of (g.trans T))).trans q2;clear A P H B O K m9 m8 j8 m0 m1 m2 g0 g1 g2 f0 f1 f2 i1;go_wp2_with fail
      go_roundw
      case rel=>exact⟨j+1,by go_num,by omega,q1,m4,b8,k0,l2⟩
      case measure=>simp[intOf];omega
    ·have k3:j=n:=by omega
     subst k3;rw[a5d (by rw[a3.out];exact Nat.le_refl _) (by rw[b1.out];exact Nat.le_refl _)]at D;go_wp2_with fail
     go_end0
     exact⟨rfl,V,D⟩
end Go.Proofs.YtidbbddagfnfbaaGreat
namespace Go.Lin
def c1A:Option Nat->Int
 |none=> -1
 |some k=>k
end Go.Lin
namespace Go.Proofs.YtidbbddagfnfbaaGreat
open Go.RowKit Go.Rep Go.Lim Go.Lin
theorem a9S (X:Nat->Bool) (w:World) (a:Option Addr) (l:List Rat) (n c col b:Nat) (p:HX X w) (hs:Sl QC 3 (mk X w) a l) (q:l.length=n) (s:col<n) (r:BR 68719476736 l) (F:w.cell? ⟨b,0,none⟩=some (.int .i64 (col:Int))):
  Calls Tryz.prog 304 #[.slice a n c, .pointer (some ⟨b,0,none⟩)] w (a8K w (decide (l.getD col 0≠0))):=by
 have E:Hd a n:=by have:=hs.hd;rw[q]at this;exact this
 have i:col<l.length:=by omega
 have k:=hs.qv r;obtain⟨x,hx⟩:∃x,l[col]=x:=⟨_,rfl⟩;have u:Hid (l.getD col 0=x):=hid (by simp[List.getD_eq_getElem?_getD,i,hx]);have m:=hid hx;clear q r hx;rw[u.out];by_cases j:x=0
 ·have o:Hid (decide (x≠0)=false):=hid (by simp[j])
  have g:Hid (x.num.sign=0):=hid (by rw[j];rfl);rw[o.out];clear j;go_enter Tryz.func304,Tryz.ntmps304
  go_wp2_with (first|(with_reducible refine a1M a0B (by omega) (by assumption) ?_)|((with_reducible show wpList _ _ _ (⟨_, .load 45 _,_,_,_,_⟩::_) _ _);refine a0G a0t col k i rfl (by simp) QV.agg ?_;intro C d;rw[m.out]at d;obtain⟨y,D,z,B,t,A,e5,rfl⟩:=d.shape))
  refine(b5F X w _ x p d).mono ?_;rintro e v ⟨f,rfl⟩;rw[g.out];go_wp2_with fail
  go_ret
  exact⟨f,rfl⟩
 ·have o:Hid (decide (x≠0)=true):=hid (by simp[j])
  have g:((x.num.sign:Int) !=0)=true:=a6X (by intro h;exact j (Rat.num_eq_zero.1 (Int.sign_eq_zero_iff_zero.1 h)));rw[o.out];clear j;go_enter Tryz.func304,Tryz.ntmps304
  go_wp2_with (first|(with_reducible refine a1M a0B (by omega) (by assumption) ?_)|((with_reducible show wpList _ _ _ (⟨_, .load 45 _,_,_,_,_⟩::_) _ _);refine a0G a0t col k i rfl (by simp) QV.agg ?_;intro C d;rw[m.out]at d;obtain⟨y,D,z,B,t,A,e5,rfl⟩:=d.shape))
  refine(b5F X w _ x p d).mono ?_;rintro e v ⟨f,rfl⟩;generalize x.num.sign=sg at g;go_wp2_with fail
  go_ret
  exact⟨f,rfl⟩
set_option maxRecDepth 100000 in
theorem a8g (X:Nat->Bool) (w:World) (a:Option Addr) (l:List (List Rat)) (n c K col b:Nat) (R:HX X w) (hs:Sl RC 1 (mk X w) a l) (H:l.length=n) (Y:n<=1000000) (D:∀r∈l,r.length=K) (C:col<K) (N:BM 68719476736 l) (T:w.cell? ⟨b,0,none⟩=some (.int .i64 (col:Int))):
  Calls Tryz.prog 302 #[.slice a n c, .func (.func 304) #[] #[.pointer (some ⟨b,0,none⟩)]] w (fun e w'=>Ext w w'/\e= .returned (.int .i64 (c1A (l.findIdx? fun r=>decide (r.getD col 0≠0))))):=by
 have W:Hd a n:=by have:=hs.hd;rw[H]at this;exact this
 have A:=hid H;have G:=hid D;have J:=hid N;have g:Hid (∀i (hi:i<l.length),(∀q (hq:q<l.length),q<i->l[q].getD col 0=0)->l[i].getD col 0≠0->l.findIdx? (fun r=>decide (r.getD col 0≠0))=some i):=hid fun i hi E U=>by
  rw[List.findIdx?_eq_some_iff_getElem];exact⟨hi,by simpa using U,fun q hq=>by simpa using E q (by omega) hq⟩
 have f:Hid ((∀q (hq:q<l.length),l[q].getD col 0=0)->l.findIdx? (fun r=>decide (r.getD col 0≠0))=none):=hid fun E=>by
  rw[List.findIdx?_eq_none_iff];intro r D;obtain⟨q,hq,rfl⟩:=List.getElem_of_mem D;simpa using E q hq
 obtain⟨F,hF⟩:∃F,l.findIdx? (fun r=>decide (r.getD col 0≠0))=F:=⟨_,rfl⟩;rw[hF]at g f |-;clear H D N hF;go_enter Tryz.func302,Tryz.ntmps302
 go_wp2_with fail
 go_loopw [8] (fun k wr=>∃(i:Nat),k= .int .i64 i/\i<=n/\Hid (∀q (hq:q<l.length),q<i->l[q].getD col 0=0)/\Ext w wr) (fun k _=>n - (intOf k).toNat)
 case atStart=>exact⟨0,rfl,Nat.zero_le _,hid (fun q hq h=>by omega),ExtX.refl _⟩
 case round=>
  obtain⟨i,rfl,hi,o,u⟩:=hrel;by_cases I:i<n
  ·have x:i<l.length:=by rw[A.out];exact I
   obtain⟨P,S,Q,p,O,m⟩:=(hs.mono RC.mono (a0l u)).row i x;have s:=p.out noY wr (ExtX.refl _) rfl;have B:=hid (G.out l[i] (List.getElem_mem _));have L:=hid (J.out l[i] (List.getElem_mem _));rw[B.out]at s;have j:=u.cell T;have d:=a9S X wr P l[i] K S col b (R.ext u) m B.out C L.out j;by_cases v:l[i].getD col 0=0
   ·have hd:Hid (decide (l[i].getD col 0≠0)=false):=hid (decide_eq_false (fun h=>h v))
    rw[hd.out]at d;have z:Hid (∀q (hq:q<l.length),q<i+1->l[q].getD col 0=0):=hid fun q hq y=>by
     by_cases e:q=i
     ·subst e;exact v
     ·exact o.out q hq (by omega)
    clear v p m;go_wp2_with (with_reducible refine a0q a0s (by omega) (by assumption) ?_)
    refine d.mono ?_;rintro e V ⟨t,rfl⟩;clear s;go_wp2_with fail
    go_roundw
    case rel=>exact⟨i+1,by go_num,by omega,z,u.trans t⟩
    case measure=>simp[intOf];omega
   ·have hd:Hid (decide (l[i].getD col 0≠0)=true):=hid (decide_eq_true v)
    rw[hd.out]at d;have M:=hid (g.out i x (fun q hq y=>o.out q hq y) v);clear v p m;go_wp2_with (with_reducible refine a0q a0s (by omega) (by assumption) ?_)
    refine d.mono ?_;rintro e V ⟨t,rfl⟩;clear s;go_wp2_with fail
    go_ret
    exact⟨u.trans t,a0P (by rw[M.out];rfl)⟩
  ·have M:=hid (f.out fun q hq=>o.out q hq (by rw[A.out]at hq;omega))
   go_wp2_with fail
   go_ret
   exact⟨u,a0P (by rw[M.out];rfl)⟩
end Go.Proofs.YtidbbddagfnfbaaGreat
namespace Go.Lin
theorem a2G {m:Mat} {i:Nat} (h:i<m.length):m.getD i []=m[i]:=by simp[List.getD_eq_getElem?_getD,h]
theorem b1L (m:Mat) (t col:Nat):clear m t col 0=m:=by
 unfold clear rows;refine List.ext_getElem (by simp) fun q b a=>?_;rw[List.getElem_mapIdx,if_neg (by omega)]
theorem a2N {m:Mat} {t col s i:Nat} (h:i<(clear m t col s).length) (a:i<m.length):(clear m t col s)[i]=if t<i/\i<t+1+s then a3c m[i] (m.getD t []) col else m[i]:=by
 show(m.mapIdx _)[i]'(by simpa using a)=_
 rw[List.getElem_mapIdx]
theorem a2u (m:Mat) (t col s:Nat):(clear m t col s).length=m.length:=by simp[clear,rows]
theorem b3j {m:Mat} {t col s:Nat} (h:t+1+s<m.length):(clear m t col s).set (t+1+s) (a3c m[t+1+s] (m.getD t []) col)=clear m t col (s+1):=by
 refine List.ext_getElem (by simp[a2u]) fun q c b=>?_;have hq:q<m.length:=by rw[a2u]at b;exact b
 rw[List.getElem_set,a2N b hq];split
 ·subst_vars;rw[if_pos (by omega)]
 ·rw[a2N (by simpa[a2u]using hq) hq]
  by_cases a:t<q/\q<t+1+s
  ·rw[if_pos a,if_pos (by omega)]
  ·rw[if_neg a,if_neg (by omega)]
theorem b1M {m:Mat} {t col s c:Nat} (h:m.length<=t+1+s) (e:m.length<=t+1+c):clear m t col s=clear m t col c:=by
 refine List.ext_getElem (by simp[a2u]) fun q d b=>?_;have hq:q<m.length:=by rw[a2u]at b;exact b
 rw[a2N d hq,a2N b hq];by_cases a:t<q
 ·rw[if_pos (by omega),if_pos (by omega)]
 ·rw[if_neg (by omega),if_neg (by omega)]
theorem b1N (m:Mat) (t col:Nat):above m t col 0=m:=by
 unfold above rows;refine List.ext_getElem (by simp) fun q b a=>?_;rw[List.getElem_mapIdx,if_neg (by omega)]
theorem a4a {m:Mat} {t col s i:Nat} (h:i<(above m t col s).length) (a:i<m.length):(above m t col s)[i]=if i<t/\i<s then a3c m[i] (m.getD t []) col else m[i]:=by
 show(m.mapIdx _)[i]'(by simpa using a)=_
 rw[List.getElem_mapIdx]
theorem a4b (m:Mat) (t col s:Nat):(above m t col s).length=m.length:=by simp[above,rows]
theorem b3k {m:Mat} {t col s:Nat} (h:s<m.length) (c:s<t):(above m t col s).set s (a3c m[s] (m.getD t []) col)=above m t col (s+1):=by
 refine List.ext_getElem (by simp[a4b]) fun q d b=>?_;have hq:q<m.length:=by rw[a4b]at b;exact b
 rw[List.getElem_set,a4a b hq];split
 ·subst_vars;rw[if_pos (by omega)]
 ·rw[a4a (by simpa[a4b]using hq) hq]
  by_cases a:q<t/\q<s
  ·rw[if_pos a,if_pos (by omega)]
  ·rw[if_neg a,if_neg (by omega)]
end Go.Lin
namespace Go.Rep
open Go.RowKit Go.Lim Go.Lin
theorem b5N {hs:List Hdr} {i k:Nat} (hi:i<hs.length) (d:k<hs.length):obs ((hs.set i hs[k]).set k hs[i])=obs hs:=by
 funext b
 rw[Bool.eq_iff_iff];constructor
 ·intro h
  obtain⟨q,hq,c⟩:=a5b h;simp only[List.length_set]at hq;rw[List.getElem_set]at c;split at c
  ·exact a1I hi c
  ·rw[List.getElem_set]at c
   split at c
   ·exact a1I d c
   ·exact a1I hq c
 ·intro h
  obtain⟨q,hq,c⟩:=a5b h;by_cases a:q=i
  ·subst a
   refine a1I (i:=k) (by simpa using d) ?_;rw[List.getElem_set_self];exact c
  ·by_cases b':q=k
   ·subst b'
    refine a1I (i:=i) (by simpa using hi) ?_;rw[List.getElem_set_ne (by omega),List.getElem_set_self];exact c
   ·refine a1I (i:=q) (by simpa using hq) ?_
    rw[List.getElem_set_ne (by omega),List.getElem_set_ne (by omega)];exact c
section
variable {X:Nat->Bool} {base:Nat} {e1 e2:TypeId} {w w':World} {ao:Option Addr} {cap:Nat} {hs:List Hdr} {m:List (List Rat)}
theorem b3l {m:Mat} {i k q:Nat} (hi:i<m.length) (c:k<m.length) (hq:q<(a1f m i k).length):(a1f m i k)[q]=if q=k then m[i]else if q=i then m[k]else m[q]'(by simpa[a1f]using hq):=by
 simp only[a1f,a2G hi,a2G c];rw[List.getElem_set];by_cases a:k=q
 ·rw[if_pos a,if_pos a.symm]
 ·rw[if_neg a,if_neg (Ne.symm a),List.getElem_set]
  by_cases b:i=q
  ·rw[if_pos b,if_pos b.symm]
  ·rw[if_neg b,if_neg (Ne.symm b)]
theorem b5O {hs:List Hdr} {i k q:Nat} (hi:i<hs.length) (c:k<hs.length) (hq:q<((hs.set i hs[k]).set k hs[i]).length):((hs.set i hs[k]).set k hs[i])[q]=if q=k then hs[i]else if q=i then hs[k]else hs[q]'(by simpa using hq):=by
 rw[List.getElem_set];by_cases a:k=q
 ·rw[if_pos a,if_pos a.symm]
 ·rw[if_neg a,if_neg (Ne.symm a),List.getElem_set]
  by_cases b:i=q
  ·rw[if_pos b,if_pos b.symm]
  ·rw[if_neg b,if_neg (Ne.symm b)]
theorem MO.swap (h:MO X base e1 e2 w ao cap hs m) {i k:Nat} (hi:i<hs.length) (e:k<hs.length) (g:ExtX (ob ao) w w') (j:OL HdR 1 X base e1 w' ao cap ((hs.set i hs[k]).set k hs[i])):MO X base e1 e2 w' ao cap ((hs.set i hs[k]).set k hs[i]) (a1f m i k):=by
 have l:=h.len;refine h.perm (fun q=>if q=k then i else if q=i then k else q) (fun q hq=>?_) (fun a b n o d=>?_) (fun q hq=>?_) (by simp) (by simp[a1f]) (fun q hq f=>?_) (fun q hq f=>?_) g j
 ·split
  ·exact hi
  ·split
   ·exact e
   ·exact hq
 ·split at d<;>split at d<;>(try split at d)<;>(try split at d)<;>omega
 ·by_cases a:q=i
  ·exact⟨k,e,by simp[a]⟩
  ·by_cases b:q=k
   ·refine⟨i,hi,?_⟩
    by_cases c:i=k
    ·omega
    ·simp[c,b]
   ·exact⟨q,hq,by simp[a,b]⟩
 ·rw[b5O hi e hq]
  by_cases a:q=k
  ·simp[a]
  ·by_cases b:q=i
   ·subst b;simp[a]
   ·simp[a,b]
 ·rw[b3l (by omega) (by omega) hq]
  by_cases a:q=k
  ·simp[a]
  ·by_cases b:q=i
   ·subst b;simp[a]
   ·simp[a,b]
end
section
variable {P:Program} {ops:Array Oper} {Q:Exit->Act->World->Prop} {rest:List Oper} {a:Act} {w:World}
variable {d:Option Tmp} {ty:TypeId} {ps:String} {af:Array Edge}
theorem b5P {t e h:Nat} {z:Value} {x lo:Operand} {o:IntKind} {m:Int} {ao:Option Addr} {cap:Nat} (T:SliceT P t e 1 h z) (n i:Nat) (hx:a.eval x= .slice ao n cap) (j:a.eval lo= .int o m) (f:m=(i:Int)) (hd:Hd ao n) (hi:i<=n) (q:n<=cap)
  (K:∀c,(∀k,k<n - i->adr c k=adr ao (i+k))->Hd c (n - i)->wpList P ops Q rest (a.put d (.slice c (n - i) (cap - i))) w):
  wpList P ops Q (⟨d, .slice t x (some lo) none none,ty,ps,af,none⟩::rest) a w:=by
 refine wpList_plain rfl fun r l=>?_;subst f;have p:=a6r (P:=P) (ao:=ao) T n cap o i hi q w;have:=K (a2z ao i cap 1) (fun k u=>by
  obtain⟨b,g,rfl⟩:=hd (by omega);have f:¬cap=i:=by omega
  simp[a2z,f,Addr.add_lit,adr,Nat.add_assoc]) (fun s=>by
  obtain⟨b,g,rfl⟩:=hd (by omega);have f:¬cap=i:=by omega
  exact⟨b,g+i*1,by simp[a2z,f,Addr.add_lit]⟩)
 unfold Oper.wp;simp[execOp,hx,j,p,Result.andThen];exact l _ _ this
end
end Go.Rep
namespace Go.Lin
theorem b3m (m:Mat) (k:Nat):eN m (k+1)=a6i (eN m k) k:=rfl
theorem a9T {n c B t i col:Nat} {m:Mat} (_:Shp n c m) (h:HB B m) (_:t<n) (_:i<n) (g:5*B<=68719476736):
  Go.Rep.BR 68719476736 (m.getD i [])/\Go.Rep.BR 68719476736 (m.getD t [])/\Go.Lim.hq ((m.getD i []).getD col 0/(m.getD t []).getD col 0)<=68719476736/\∀x∈m.getD t [],Go.Lim.hq ((m.getD i []).getD col 0/(m.getD t []).getD col 0*x)<=68719476736:=by
 have a:∀k,Go.Rep.BR B (m.getD k []):=fun k q hq=>by
  obtain⟨j,b,rfl⟩:=List.getElem_of_mem hq;have e:(m.getD k []).getD j 0=(m.getD k [])[j]:=by rw[List.getD_eq_getElem?_getD,List.getElem?_eq_getElem b];rfl
  rw[<-e];exact h k j
 have d:=h i col;have f:=h t col;unfold ent at d f;have p:=Go.Lim.hq_div ((m.getD i []).getD col 0) ((m.getD t []).getD col 0);refine⟨fun q hq=>Nat.le_trans (a i q hq) (by omega),fun q hq=>Nat.le_trans (a t q hq) (by omega),by omega,fun x hx=>?_⟩;have o:=a t x hx;have l:=Go.Lim.hq_mul ((m.getD i []).getD col 0/(m.getD t []).getD col 0) x;omega
theorem HB.bm {B:Nat} {m:Mat} (h:HB B m):Go.Rep.BM B m:=fun r a q hq=>by
 obtain⟨i,hi,rfl⟩:=List.getElem_of_mem a;obtain⟨j,b,rfl⟩:=List.getElem_of_mem hq;have:=h i j;simpa[ent,List.getD_eq_getElem?_getD,hi,b]using this
end Go.Lin
namespace Go.Rep
theorem Sl.fromA {α:Type} {R:Mem->Value->α->Prop} {h:Mem} {ao a:Option Addr} {l:List α} (s:Sl R 1 h ao l) (i:Nat) (g:∀k,k<l.length - i->adr a k=adr ao (i+k)) (hd:Hd a (l.length - i)):Sl R 1 h a (l.drop i):=by
 refine⟨by rw[List.length_drop];exact hd,fun k c=>?_⟩;rw[List.length_drop]at c;obtain⟨u,e,f,m⟩:=s.2 (i+k) (by omega);refine⟨u,e,fun j d=>?_,by simpa using m⟩;have b:j=0:=by omega
 subst b;have:=f 0 d;simp only[Nat.mul_one,Nat.add_zero]at this |-;rw[g k c];exact this
theorem b8M {ao:Option Addr} {n i:Nat} (hd:Hd ao n) (c:0<n) (k:Nat):adr (Option.map (fun x=>x.add i) ao) k=adr ao (i+k):=by
 obtain⟨b,a,rfl⟩:=hd c;simp[Addr.add_lit,adr,Nat.add_assoc]
theorem a0c.pure (k:IntKind):∀h a u x,a0c k h u x->a0c k a u x:=fun _ _ _ _ h=>h
theorem c0p {ao:Option Addr} {n i m:Nat} (hd:Hd ao n) (c:0<n):Hd (Option.map (fun x=>x.add i) ao) m:=fun _=>by
 obtain⟨b,a,rfl⟩:=hd c;exact⟨b,a+i,by simp[Addr.add_lit]⟩
end Go.Rep
namespace Go.Proofs.YtidbbddagfnfbaaGreat
open Go.RowKit Go.Rep Go.Lim Go.Lin
def c1B (X:Nat->Bool) (base:Nat) (w:World) (ao:Option Addr) (cap:Nat) (hs:List Hdr) (s:St) (e:Ending) (w':World):Prop:=
 ExtX (mb ao hs) w w'/\∃po pc hs',e= .returned (.tuple #[.slice po s.2.1.length pc, .bool s.2.2])/\mb ao hs'=mb ao hs/\MO (un X po) base 24 45 w' ao cap hs' s.1/\OL (a0c .i64) 1 (mz X ao hs) w.heap.size 3 w' po pc s.2.1
set_option maxRecDepth 100000 in
set_option maxHeartbeats 1600000 in
theorem a6D (X:Nat->Bool) (base:Nat) (w:World) (ao:Option Addr) (cap n c:Nat) (hs:List Hdr) (m:List (List Rat)) (hX:HX X w) (hM:MO X base 24 45 w ao cap hs m) (hsh:Shp n c m) (hc:a0x m=c) (hn:n<=900) (hcc:c<=900) (hT:b8h m c):
  Calls Tryz.prog 277 #[.slice ao n cap] w (c1B X base w ao cap hs (eN m c)):=by
 have hml:=hid hsh.1;have hmc:MC (mk X w) (.slice ao n cap) m:=by have:=hM.mc;rw[hml.out]at this;exact this
 have hcol:=a3z X w _ m hmc;rw[hc]at hcol;have hlen:=hid (hM.len.trans hml.out);have hcap:n<=cap:=by have:=hM.capLen;rw[hml.out]at this;exact this
 have hhO:Hd ao n:=by have:=hM.outer.hd;rw[hlen.out]at this;exact this
 have hn0:Hid (n=0->c=0):=hid fun h=>by
  have:m= []:=List.eq_nil_of_length_eq_zero (by rw[hml.out];exact h);rw[<-hc,this];rfl
 have hsh':=hid hsh;obtain⟨B,hB7,hBj⟩:=hT;have hB':=hid hBj;have hBB':=hid hB7;have hund:un X none=X:=by funext k;simp[un,ob]
 have hMu:MO (un X none) base 24 45 w ao cap hs m:=by rw[hund];exact hM
 have hXz:=hM.hz hX;clear hsh hBj hB7 hc hmc;go_enter Tryz.func277,Tryz.ntmps277
 go_wp2_with fail
 refine hcol.mono ?_;rintro e w1 ⟨rfl,rfl⟩;clear hcol;go_wp2_with fail
 go_loopw [2,3,11] (fun p o k wr=>∃(j:Nat) (po:Option Addr) (pc pl:Nat) (hs':List Hdr) (M:Mat) (P:List Nat) (od:Bool),k= .int .i64 j/\p= .slice po pl pc/\o= .bool od/\j<=c/\Hid (P.length=pl)/\Hid (eN m j=(M,P,od))/\Hid (j<c->pl<n)/\MO (un X po) base 24 45 wr ao cap hs' M/\OL (a0c .i64) 1 (mz X ao hs) w1.heap.size 3 wr po pc P/\Hid (mb ao hs'=mb ao hs)/\ExtX (mb ao hs) w1 wr) (fun _ _ k _=>c - (intOf k).toNat)
 case atStart=>exact⟨0,none,0,0,hs,m,[],false,rfl,rfl,rfl,Nat.zero_le _,hid rfl,hid rfl,hid (fun h=>by have:=hn0.out;omega),hMu,OL.nil _ _ _ _ _ _,hid rfl,ExtX.refl _⟩
 case round=>
  obtain⟨j,po,pc,pl,hs',M,P,od,rfl,rfl,rfl,hj,hpl,hst,hpn,hM,hP,hmb,hE⟩:=hrel;by_cases hlj:j<c
  ·have hpn2:=hpn.out hlj
   have hok:=a5Y hsh'.out j;rw[hst.out]at hok;have hshM:Shp n c M:=hok.shp;have hMl:=hid hshM.1;have hhl:=hid (hM.len.trans hMl.out);have hXr:HX X wr:=hX.ext hE;have hXu:HX (un X po) wr:=fun k hk=>by
    by_cases hx:X k=true
    ·exact hXr k hx
    ·exact(hP.block (by simpa[un,hx]using hk)).2
   have hBM:HB B M:=by have:=hB'.out j (by omega);rw[hst.out]at this;exact this
   have hb5':5*B<=68719476736:=by have:=hBB'.out;omega
   have hBM2:=hid (hBM.bm);have hEb:Ext wr (wr.alloc (.cells #[.int .i64 (j:Int)] 3)):=(ExtX.refl wr).alloc _;have hbx:(wr.alloc (.cells #[.int .i64 (j:Int)] 3)).cell? ⟨wr.heap.size,0,none⟩=some (.int .i64 (j:Int)):=b5j 0 rfl;have hM1:=hM.ext0 hEb;have hP1:=hP.ext0 (a0c.elem _) hEb;have hX1:=hXu.ext hEb;have hSl:Sl RC 1 (mk (un X po) (wr.alloc (.cells #[.int .i64 (j:Int)] 3))) ao M:=by
    obtain⟨_,_,heq,_,h3⟩:=hM1.mc;simp only[Value.slice.injEq]at heq;obtain⟨rfl,_,rfl⟩:=heq;exact h3
   obtain⟨bw,hbw⟩:∃bw,wr.heap.size=bw:=⟨_,rfl⟩;obtain⟨w2,hw2⟩:∃w2,wr.alloc (.cells #[.int .i64 (j:Int)] 3)=w2:=⟨_,rfl⟩;rw[hw2]at hEb hbx hM1 hP1 hX1 hSl;rw[hbw]at hbx;have hpbw:Hid (ob po bw=false):=hid (by rw[<-hbw];exact hP.ob_ge (Nat.le_refl _));have hobw:Hid (ob ao bw=false):=hid (by rw[<-hbw];exact hM.outer.ob_ge (Nat.le_refl _));have hw2':=hid hw2;have hbw':=hid hbw;have hn1:0<n:=by omega
   have hmd:Hid (n - pl=(M.drop pl).length):=hid (by rw[List.length_drop,hMl.out]);have hSd:Sl RC 1 (mk (un X po) w2) (Option.map (fun x=>x.add pl) ao) (M.drop pl):=hSl.fromA pl (fun k _=>b8M hhO hn1 k) (c0p hhO hn1);have hrows:Hid (∀r∈M.drop pl,r.length=c):=hid fun r hr=>hshM.2 r (List.mem_of_mem_drop hr);have hbmd:Hid (BM 68719476736 (M.drop pl)):=hid fun r hr q hq=>Nat.le_trans (hBM2.out r (List.mem_of_mem_drop hr) q hq) (by omega);have hix:=a8g (un X po) w2 _ (M.drop pl) (n - pl) (cap - pl) c j bw hX1 hSd hmd.out.symm (by omega) hrows.out hlj hbmd.out hbx;obtain⟨F,hF⟩:∃F,(M.drop pl).findIdx? (fun r=>decide (r.getD j 0≠0))=F:=⟨_,rfl⟩;rw[hF]at hix;have hnz:Hid (b2n M P.length j=F):=hid (by rw[hpl.out];exact hF);clear hF hSd hSl;go_wp2_with fail
   refine hix.mono ?_;rintro e w3 ⟨hE3,rfl⟩;have hM3:=hM1.ext0 hE3;have hP3:=hP1.ext0 (a0c.elem _) hE3;have hb3:=hE3.cell hbx;have hE03:=hE.trans (ExtX.of (hEb.trans hE3));clear hM1 hP1 hix hbx hw2
   match F,hnz with
   |none,hnz=>
    have hst2:Hid (eN m (j+1)=(M,P,od)):=hid (by
     rw[b3m,hst.out];unfold a6i;dsimp only;split
     ·rfl
     ·rw[hnz.out])
    simp only[c1A];go_wp2_with fail
    go_roundw
    case rel=>exact⟨j+1,po,pc,pl,hs',M,P,od,by go_num,rfl,rfl,by omega,hpl,hst2,hid (fun _=>hpn2),hM3,hP3,hmb,hE03⟩
    case measure=>simp[intOf];omega
   |some q,hnz=>
    obtain⟨hq1,hq2⟩:=a3K hnz.out;rw[hpl.out,hMl.out]at hq1;have hq0:¬(q:Int)<0:=by omega
    simp only[c1A];clear hq2;have hr1:pl+q<hs'.length:=by rw[hhl.out];exact hq1
    have hr2:pl<hs'.length:=by rw[hhl.out];exact hpn2
    obtain⟨a1,n1,c1,hh1⟩:∃a n c,hs'[pl]=(a,n,c):=⟨_,_,_,rfl⟩;obtain⟨a2,n2,c2,hh2⟩:∃a n c,hs'[pl+q]=(a,n,c):=⟨_,_,_,rfl⟩;have hO0:=hM3.outer;obtain⟨z1,zf1⟩:=hM3.hdr pl hr2;obtain⟨z2,zf2⟩:=hM3.hdr (pl+q) hr1;rw[hh1]at z1;rw[hh2]at z2
    dsimp only at z1 z2
    have k1:w3.cell? (adr ao pl)=some (.slice a1 n1 c1):=z1;have k2:w3.cell? (adr ao (pl+q))=some (.slice a2 n2 c2):=z2;have f1:w3.frozen? (adr ao pl)=false:=zf1;have f2:w3.frozen? (adr ao (pl+q))=false:=zf2;obtain⟨hO1,hE4⟩:=hO0.set1 a3Y HdR.elem HdR.one pl hr2 (.slice a2 n2 c2) (a2,n2,c2) rfl;obtain⟨u3,k3,f3,hu3⟩:=hO1.cell HdR.one (pl+q) (by simpa using hr1);have hu3':u3= .slice a2 n2 c2:=by
     have e:(hs'.set pl (a2,n2,c2))[pl+q]'(by simpa using hr1)=(a2,n2,c2):=by
      rw[List.getElem_set];split
      ·rfl
      ·exact hh2
     rw[e]at hu3;exact hu3
    rw[hu3']at k3;obtain⟨hO2,hE5⟩:=hO1.set1 a3Y HdR.elem HdR.one (pl+q) (by simpa using hr1) (.slice a1 n1 c1) (a1,n1,c1) rfl;have hE6:=(hE4.trans hE5).drew;have hO2:=hO2.ext0 HdR.elem (ExtX.refl (Y:=noY) _).drew;rw[<-hh1,<-hh2]at hO2;have i1:∀W,(Instr.indexAt 23 (.slice ao n cap) (.int .i64 (pl:Int))).run Tryz.prog W= .ok (.pointer (some (adr ao pl))) W:=a0z a0s ao n cap .i64 pl hhO (by omega) rfl;have i2:∀W,(Instr.indexAt 23 (.slice ao n cap) (.int .i64 ((pl:Int)+(q:Int)))).run Tryz.prog W= .ok (.pointer (some (adr ao (pl+q)))) W:=a0z a0s ao n cap .i64 (pl+q) hhO (by omega) (by omega);have ew:IntKind.i64.wrap ((pl:Int)+(q:Int))=(pl:Int)+(q:Int):=IntWalk.i64_in _ (by omega);have hM5:=hM3.swap hr2 hr1 hE6 hO2;have hX5:=hX1.ext hE3;have hP5:OL (a0c .i64) 1 (mz X ao hs) w1.heap.size 3 _ po pc P:=hP3.frame (a0c.pure _) hE6 (fun k hk=>by
     cases hb:ob ao k
     ·rfl
     ·have:=(hM3.out_sep hb).1;rw[a0r hk]at this;simp at this) hP3.1
    have hb5:=hE6.cellY hb3 hobw.out;clear hu3 hu3' hO0 hO1 hO2 z1 z2 zf1 zf2 hh1 hh2 hE4 hE5;go_wp2_with fail
    go_region
    obtain⟨w5,hw5⟩:∃w5,((w3.setCell (adr ao pl) (.slice a2 n2 c2)).setCell (adr ao (pl+q)) (.slice a1 n1 c1)).drew=w5:=⟨_,rfl⟩;rw[hw5]at hM5 hP5 hb5 hE6 |-;have hE05:=hE03.trans (ExtX.weaken hE6 fun k _ hk=>(b8L hk).1);have hX5:=hX5.ext hE6;have hXz5:=hXz.ext hE05;have hbase5:=hE05.size;clear k1 k2 k3 f1 f2 f3 i1 i2 hw5 hb3;have hpl5:pl+1<=n:=hpn2;go_wp2_with (first|((with_reducible show wpList _ _ _ (⟨_, .slice _ _ _ _ _,_,_,_,_⟩::_) _ _);refine b5P a0s n (pl+1) rfl rfl (by omega) hhO hpl5 hcap ?_;intro ao3 ha3 hd3;replace ha3:=hid ha3)|(at_builtin;refine a0u (l:=P) a2h rfl (a0c.elem .i64) hbase5 hXz5 pl hpl.out rfl rfl hP5 (.int .i64 (j:Int)) j rfl rfl (by omega) (by omega) ?_;intro po2 pc2 w6 hP6 hE7 hor;have b6:=hE7.cellY hb5 hpbw.out))
    have hM6:MO (un X po2) base 24 45 w6 ao cap _ _:=hM5.ext (X':=un X po2) hE7 (fun k _ hk=>a0r hk) (fun k hk hz=>by
     by_cases hx:X k=true
     ·exact a0f hx
     ·have h2:ob po2 k=true:=by simpa[un,hx]using hz
      rcases hor with rfl|⟨g,rfl,hg⟩
      ·exact a0r h2
      ·have:g=k:=by simpa[ob]using h2
       omega)
    have hE06:ExtX (mb ao hs) w1 w6:=hE05.then_ hE7 fun k hk _=>hP5.ob_lt hk;have hmb2:Hid (mb ao ((hs'.set pl hs'[pl+q]).set (pl+q) hs'[pl])=mb ao hs):=hid (by rw[<-hmb.out];exact(b3i (X:=X) fun k=>by rw[b5N hr2 hr1]).1);have hh2l:Hid (((hs'.set pl hs'[pl+q]).set (pl+q) hs'[pl]).length=n):=hid (by simp[hhl.out]);have hsh2:Shp n c (a1f M pl (pl+q)):=hshM.swap hpn2 hq1;have hBM2':HB B (a1f M pl (pl+q)):=hBM.swap hshM hpn2 hq1;have hst2:Hid (eN m (j+1)=(clear (a1f M pl (pl+q)) pl j n,P++[j],od !=decide (q≠0))):=hid (by
     rw[b3m,hst.out];unfold a6i;dsimp only;rw[if_neg (by rw[hpl.out,hMl.out];omega),hnz.out]
     dsimp only
     rw[hpl.out,hMl.out])
    have hbnd:Hid (∀i,i<n->BR 68719476736 ((a1f M pl (pl+q)).getD i [])/\BR 68719476736 ((a1f M pl (pl+q)).getD pl [])/\hq (((a1f M pl (pl+q)).getD i []).getD j 0/((a1f M pl (pl+q)).getD pl []).getD j 0)<=68719476736/\∀x∈(a1f M pl (pl+q)).getD pl [],hq (((a1f M pl (pl+q)).getD i []).getD j 0/((a1f M pl (pl+q)).getD pl []).getD j 0*x)<=68719476736):=hid fun i hi=>a9T hsh2 hBM2' hpn2 hi hb5';have hmbw:Hid (mb ao hs bw=false):=hid (by
     rw[<-hmb.out];cases hb:mb ao hs' bw
     ·rfl
     ·have:=(hM.mb_block hb).2;omega)
    obtain⟨hs2,hhs2⟩:∃hs2,(hs'.set pl hs'[pl+q]).set (pl+q) hs'[pl]=hs2:=⟨_,rfl⟩;obtain⟨M2,hM2⟩:∃M2,a1f M pl (pl+q)=M2:=⟨_,rfl⟩;rw[hhs2]at hM6 hmb2 hh2l;rw[hM2]at hM6 hsh2 hBM2' hst2 hbnd;clear hhs2 hM2;have hM2l:=hid hsh2.1;have hX6:HX X w6:=hX.ext hE06;have hM6':MO (un X po2) base 24 45 w6 ao cap hs2 (clear M2 pl j 0):=by rw[b1L];exact hM6
    go_loopw [54] (fun k wx=>∃(s:Nat),k= .int .i64 s/\s<=n - (pl+1)/\MO (un X po2) base 24 45 wx ao cap hs2 (clear M2 pl j s)/\OL (a0c .i64) 1 (mz X ao hs) w1.heap.size 3 wx po2 pc2 (P++[j])/\ExtX (mb ao hs) w1 wx/\wx.cell? ⟨bw,0,none⟩=some (.int .i64 (j:Int))) (fun k _=>n - (pl+1) - (intOf k).toNat)
    case atStart=>exact⟨0,rfl,Nat.zero_le _,hM6',hP6,hE06,b6⟩
    case round=>
     obtain⟨s,rfl,hs9,hM8,hP8,hE8,b8⟩:=hrel;by_cases hls:s<n - (pl+1)
     ·obtain⟨t,ht⟩:∃t,pl+1+s=t:=⟨_,rfl⟩
      have htn:t<n:=by omega
      have hth:t<hs2.length:=by rw[hh2l.out];exact htn
      have hph:pl<hs2.length:=by rw[hh2l.out];exact hpn2
      have htm:t<M2.length:=by rw[hM2l.out];exact htn
      have hpm:pl<M2.length:=by rw[hM2l.out];exact hpn2
      have htc:t<(clear M2 pl j s).length:=by rw[a2u];exact htm
      have hpc:pl<(clear M2 pl j s).length:=by rw[a2u];exact hpm
      obtain⟨a1,n1,c1,hh1⟩:∃a n c,hs2[t]=(a,n,c):=⟨_,_,_,rfl⟩;obtain⟨a2,n2,c2,hh2⟩:∃a n c,hs2[pl]=(a,n,c):=⟨_,_,_,rfl⟩;have hg1:(clear M2 pl j s)[t]=M2[t]:=by rw[a2N htc htm,if_neg (by omega)]
      have hg2:(clear M2 pl j s)[pl]=M2[pl]:=by rw[a2N hpc hpm,if_neg (by omega)]
      have hn1':n1=c:=by
       have:=hM8.rlen t hth htc;rw[hh1,hg1,hsh2.2 _ (List.getElem_mem _)]at this;exact this
      have hn2':n2=c:=by
       have:=hM8.rlen pl hph hpc;rw[hh2,hg2,hsh2.2 _ (List.getElem_mem _)]at this;exact this
      subst hn1';subst hn2';have hR1:=hM8.row t hth htc;have hR2:=hM8.row pl hph hpc;rw[hg1]at hR1;rw[hg2]at hR2;simp only[hh1]at hR1;simp only[hh2]at hR2;have hz1:=fun k (hk:ob a1 k=true)=>hM8.mz_sub hth k (by rw[hh1];exact hk);have hz2:=fun k (hk:ob a2 k=true)=>hM8.mz_sub hph k (by rw[hh2];exact hk);have hds:∀k,ob a1 k=true->ob a2 k=false:=fun k hk=>by
       have:=hM8.dis t pl hth hph (by omega) k (by rw[hh1];exact hk);rw[hh2]at this;exact this
      have hsp:=fun k (hk:ob a1 k=true)=>hM8.sep t hth k (by rw[hh1];exact hk);have hBn:=hbnd.out t htn;rw[a2G htm]at hBn;have hcs:Hid ((clear M2 pl j s).set t (a3c M2[t] (M2.getD pl []) j)=clear M2 pl j (s+1)):=hid (by subst ht;exact b3j htm);have hpe:M2.getD pl []=M2[pl]:=a2G hpm;rw[<-hpe]at hR2;have hrl1:=hid (hsh2.2 M2[t] (List.getElem_mem _));have hrl2:=hid (show(M2.getD pl []).length=n2 by rw[hpe];exact hsh2.2 _ (List.getElem_mem _));obtain⟨row,hrow⟩:∃row,M2[t]=row:=⟨_,rfl⟩;obtain⟨piv,hpiv⟩:∃piv,M2.getD pl []=piv:=⟨_,rfl⟩;rw[hrow,hpiv]at hcs;rw[hrow]at hR1 hrl1;rw[hpiv]at hR2 hrl2;rw[hrow,hpiv]at hBn;have hX8:HX (un X po2) wr:=fun k hk=>by
       by_cases hx:X k=true
       ·exact hX.ext hE8 k hx
       ·exact(hP8.block (by simpa[un,hx]using hk)).2
      have hZ8:=hM8.hz hX8;have hEd:Ext wr wr.drew:=(ExtX.refl wr).drew;have hel:=a5f (mz (un X po2) ao hs2) base wr.drew a1 a2 c1 c2 n2 j row piv hZ8 (hR1.ext0 QC.elem hEd) (hR2.ext0 QC.elem hEd) hz1 hz2 hds hrl1.out hrl2.out (by omega) hlj hBn.1 hBn.2.1 hBn.2.2.1 hBn.2.2.2;have y1:wr.cell? (adr ao3 s)=some (.slice a1 n2 c1):=by
       have:=(hM8.hdr t hth).1;rw[hh1,<-ht]at this;rw[ha3.out s hls];exact this
      have y2:wr.drew.cell? (adr ao pl)=some (.slice a2 n2 c2):=by
       have:=(hM8.hdr pl hph).1;rw[hh2]at this;exact this
      have y3:wr.drew.cell? ⟨bw,0,none⟩=some (.int .i64 (j:Int)):=b8;have haob:Hid (ob a1 (adr ao pl).block=false):=hid (by
       cases hb:ob a1 (adr ao pl).block
       ·rfl
       ·have h1:=(hsp _ hb).2
        obtain⟨b0,o0,rfl⟩:=hhO (by omega);simp[ob,adr]at h1)
      have habw:Hid (ob a1 bw=false):=hid (by
       cases hb:ob a1 bw
       ·rfl
       ·have h5:mb ao hs2 bw=true:=a2t.2 (.inr (a1I hth (show ob hs2[t].1 bw=true by rw[hh1];exact hb)))
        rw[hmb2.out,hmbw.out]at h5;simp at h5)
      have i1:∀W,(Instr.indexAt 23 (.slice ao n cap) (.int .i64 (pl:Int))).run Tryz.prog W= .ok (.pointer (some (adr ao pl))) W:=a0z a0s ao n cap .i64 pl hhO (by omega) rfl;have hh1':=hid hh1
      replace ht:=hid ht
      clear hg1 hg2 hpe hrow hpiv hh1 hh2 hR1 hR2 hBn;go_wp2_with (with_reducible refine a0q a0s (by omega) (by assumption) ?_)
      go_region_held3 (fun w'=>w'.cell? (adr ao pl)=some (.slice a2 n2 c2)/\w'.cell? ⟨bw,0,none⟩=some (.int .i64 (j:Int)))
       (first|exact⟨t1.cellY y2 haob.out,t1.cellY y3 habw.out⟩|go_keep)
       ((go_at_call 303;(with_reducible refine hel.mono ?_);rintro ee w7 ⟨rfl,t1,hO7⟩))
      have b9:=t1.cellY y3 habw.out;have hEr:ExtX (ob hs2[t].1) wr.drew w7:=by rw[hh1'.out];exact t1
      have hM9:=(hM8.ext0 hEd).upd hth (l:=a3c row piv j) hEr (fun hi'=>by
       rw[a2N htc htm,if_neg (by have:=ht.out;omega),a3J _ _ _ (by rw[hrl1.out,hrl2.out]),hrl2.out];exact(hsh2.2 _ (List.getElem_mem _)).symm) (by rw[hh1'.out];exact hO7)
      rw[hcs.out]at hM9;have hP9:=(hP8.ext0 (a0c.elem _) hEd).frame (a0c.pure _) t1 (fun k hk=>by
       cases hb:ob a1 k
       ·rfl
       ·have:=(hsp k hb).1;rw[a0r hk]at this;simp at this) hP8.1
      have hE9:=(hE8.trans (ExtX.of hEd)).trans (by rw[<-hmb2.out];exact ExtX.row hth hEr);clear y1 y2 y3 i1;go_wp2_with fail
      go_roundw
      case rel=>exact⟨s+1,by go_num,by omega,hM9,hP9,hE9,b9⟩
      case measure=>simp[intOf];omega
     ·have hfin:Hid (clear M2 pl j s=clear M2 pl j n):=hid (b1M (by rw[hM2l.out];omega) (by rw[hM2l.out];omega))
      rw[hfin.out]at hM8;have hodd:Hid ((!(od==((q:Int) !=0)))=(od !=decide (q≠0))):=hid (by cases od<;>by_cases h:q=0<;>simp[h]);have hpl2:Hid ((P++[j]).length=pl+1):=hid (by simp[hpl.out]);by_cases hfull:pl+1=n
      ·have hne:(((pl+1:Nat):Int)==(n:Int))=true:=a7q (by omega)
       have hne2:(((pl:Int)+1)==(n:Int))=true:=a7q (by omega);have hstop:Hid (eN m c=(clear M2 pl j n,P++[j],od !=decide (q≠0))):=hid (by
        rw[b7Q m (j+1) (by rw[hst2.out];dsimp only;rw[hpl2.out,a2u,hM2l.out];exact hfull) c (by omega)];exact hst2.out)
       clear hfull;go_wp2_with fail
       go_ret2
       rw[hstop.out];exact⟨hE8,po2,pc2,hs2,by rw[hpl2.out,<-hodd.out];rfl,hmb2.out,hM8,hP8⟩
      ·have hne:(((pl+1:Nat):Int)==(n:Int))=false:=a2w (by omega)
       have hne2:(((pl:Int)+1)==(n:Int))=false:=a2w (by omega);have hpn3:Hid (j+1<c->pl+1<n):=hid fun _=>by omega
       clear hfull;go_wp2_with fail
       go_roundw
       case rel=>exact⟨j+1,po2,pc2,pl+1,hs2,_,_,_,by go_num,rfl,by rw[hodd.out],by omega,hpl2,hst2,hpn3,hM8,hP8,hmb2,hE8⟩
       case measure=>simp[intOf];omega
  ·have hjc:j=c:=by omega
   subst hjc;go_wp2_with fail
   go_ret2
   rw[hst.out];exact⟨hE,po,pc,hs',by rw[hpl.out];rfl,hmb.out,hM,hP⟩
end Go.Proofs.YtidbbddagfnfbaaGreat
namespace Go.Lin
theorem a8Q {n c B t i col:Nat} {m:Mat} (hs:Shp n c m) (h:HB B m) (d:t<n) (_:i<n) (b:i≠t) (l:7*B<=68719476736):
  Go.Rep.BR 68719476736 ((divL m t col).getD i [])/\Go.Rep.BR 68719476736 ((divL m t col).getD t [])/\Go.Lim.hq (((divL m t col).getD i []).getD col 0/((divL m t col).getD t []).getD col 0)<=68719476736/\∀x∈(divL m t col).getD t [],Go.Lim.hq (((divL m t col).getD i []).getD col 0/((divL m t col).getD t []).getD col 0*x)<=68719476736:=by
 have f:=h.divL hs d col;have a:∀k,Go.Rep.BR (2*B) ((divL m t col).getD k []):=fun k q hq=>by
  obtain⟨j,g,rfl⟩:=List.getElem_of_mem hq;have e:((divL m t col).getD k []).getD j 0=((divL m t col).getD k [])[j]:=by rw[List.getD_eq_getElem?_getD,List.getElem?_eq_getElem g];rfl
  rw[<-e];exact f k j
 have s:Go.Lim.hq (((divL m t col).getD i []).getD col 0)<=B:=by
  have:=a3r hs d col i col;rw[if_neg b]at this;unfold ent at this;rw[this];exact h i col
 have u:Go.Lim.hq (((divL m t col).getD t []).getD col 0)<=2*B:=f t col;have p:=Go.Lim.hq_div (((divL m t col).getD i []).getD col 0) (((divL m t col).getD t []).getD col 0);refine⟨fun q hq=>Nat.le_trans (a i q hq) (by omega),fun q hq=>Nat.le_trans (a t q hq) (by omega),by omega,fun x hx=>?_⟩;have o:=a t x hx;have r:=Go.Lim.hq_mul (((divL m t col).getD i []).getD col 0/((divL m t col).getD t []).getD col 0) x;omega
end Go.Lin
namespace Go.Rep
theorem a8R {P:Program} {t e sz a:Nat} {z:Value} {ao:Option Addr} (T:SliceT P t e sz a z) (len cap:Nat) (f:IntKind) (i:Nat) (g:i<=cap) (w:World):
  (Instr.sliceAt t (.slice ao len cap) none (some (.int f (i:Int))) none).run P w= .ok (.slice ao i cap) w:=by
 obtain⟨h,hi,hz,d,c⟩:=info_parts T.info;have b:(i:Int)<=cap:=by omega
 cases ao<;>simp[Instr.sliceAt,Instr.slice,run_underlying T.und,Instr.sliceBounds,run_sliceBound,b,sizeOf,typeInfo,hi,Addr.add_zero']
end Go.Rep
namespace Go.Proofs.YtidbbddagfnfbaaGreat
open Go.RowKit Go.Rep Go.Lim Go.Lin
def c1C (X:Nat->Bool) (base:Nat) (w:World) (ao:Option Addr) (cap:Nat) (hs:List Hdr) (s:Mat×List Nat) (e:Ending) (w':World):Prop:=
 ExtX (mb ao hs) w w'/\∃po pc hs',e= .returned (.slice po s.2.length pc)/\mb ao hs'=mb ao hs/\MO (un X po) base 24 45 w' ao cap hs' s.1/\OL (a0c .i64) 1 (mz X ao hs) w.heap.size 3 w' po pc s.2
set_option maxRecDepth 100000 in
set_option maxHeartbeats 1600000 in
theorem a9U (X:Nat->Bool) (base:Nat) (w:World) (ao:Option Addr) (cap n c:Nat) (hs:List Hdr) (m:List (List Rat)) (hX:HX X w) (F:MO X base 24 45 w ao cap hs m) (b6:Shp n c m) (hc:a0x m=c) (hn:n<=900) (q4:c<=900) (hT:b5i m c):
  Calls Tryz.prog 276 #[.slice ao n cap] w (c1C X base w ao cap hs (a1d m c)):=by
 have c0:=a6D X base w ao cap n c hs m hX F b6 hc hn q4 hT.e;obtain⟨B,b7,_,c8⟩:=hT;have e1:=a5Y b6 c;have t6:n<=cap:=by have:=F.capLen;rw[b6.1]at this;exact this
 have h7:Hd ao n:=by have:=F.outer.hd;rw[F.len,b6.1]at this;exact this
 have b3:a1d m c=(dN (eN m c).1 (eN m c).2.1 (eN m c).2.1.length,(eN m c).2.1):=rfl;obtain⟨⟨E,p,od⟩,hS⟩:∃S,eN m c=S:=⟨_,rfl⟩;rw[hS]at c0 e1 c8 b3;rw[b3]
 dsimp only at c8 |-
 obtain⟨pl,e2⟩:∃pl,p.length=pl:=⟨_,rfl⟩;have i8:Shp n c E:=e1.shp;have d1:Ech n c (ent E) p:=e1.ech;have u2:pl<=n:=by have:=d1.le;omega
 have l4:=hid (b7S i8 d1);have s3:Hid (∀t,t<=p.length->HB B (dN E p t)):=hid c8;have o4:=hid b7;have k2:Hid (∀i (hi:i<p.length),p[i]<c):=hid d1.lt;have L:=hid e2;have m6:Hid (HX X w):=hid hX;clear b6 c8 b7 b3 hS e1 d1 hc;go_enter Tryz.func276,Tryz.ntmps276
 go_wp2_with fail
 refine c0.mono ?_;rintro e w1 ⟨r7,G,pc,d,rfl,k4,f8,i0⟩
 dsimp only at f8 i0 |-
 rw[e2];have N:=hid k4;have f5:=hid (f8.len.trans i8.1);have t9:Hd G pl:=by have:=i0.hd;rw[e2]at this;exact this
 clear c0 k4 e2 F;go_wp2_with fail
 go_loopw [19] (fun k wr=>∃(i:Nat),k= .int .i64 i/\i<=pl/\MO (un X G) base 24 45 wr ao cap d (dN E p i)/\OL (a0c .i64) 1 (mz X ao hs) w.heap.size 3 wr G pc p/\ExtX (mb ao hs) w wr) (fun k _=>pl - (intOf k).toNat)
 case atStart=>exact⟨0,rfl,Nat.zero_le _,f8,i0,r7⟩
 case round=>
  obtain⟨i,rfl,hi,F,hP,hE⟩:=hrel;by_cases o8:i<pl
  ·have h4:i<p.length:=by rw[L.out];exact o8
   have b1:i<n:=by omega
   have g4:=k2.out i h4;have o5:=(hP.sl (a0c.elem _)).nat i h4;have hD:=l4.out i (by rw[L.out];omega);have Z:=s3.out i (by rw[L.out];omega);have k0:=o4.out;have q6:Hid (p.getD i 0=p[i]):=hid (by simp[List.getD_eq_getElem?_getD,h4]);have f7:Hid (dN E p (i+1)=dStep (dN E p i) i p[i]):=hid (by rw[<-q6.out];rfl);obtain⟨D,l2⟩:∃D,dN E p i=D:=⟨_,rfl⟩;obtain⟨col,b4⟩:∃col,p[i]=col:=⟨_,rfl⟩;rw[l2]at F hD Z f7;rw[b4]at o5 g4 f7;have e3:Shp n c D:=hD.shp;have p5:=hid e3.1;have z:i<d.length:=by rw[f5.out];exact b1
   have b8:i<D.length:=by rw[p5.out];exact b1
   obtain⟨a,O,cr,V⟩:∃a O cr,d[i]=(a,O,cr):=⟨_,_,_,rfl⟩;obtain⟨row,C⟩:∃row,D[i]=row:=⟨_,rfl⟩;have U:Hid (row.length=c):=hid (by rw[<-C];exact e3.2 _ (List.getElem_mem _));have o7:O=c:=by
    have:=F.rlen i z b8;rw[V,C,U.out]at this;exact this
   subst o7;have hR:=F.row i z b8;rw[C]at hR;simp only[V]at hR;have l3:=fun k (H:ob a k=true)=>F.mz_sub z k (by rw[V];exact H);have g3:=fun k (H:ob a k=true)=>F.sep i z k (by rw[V];exact H);have t0:Hd a O:=by have:=hR.hd;rw[U.out]at this;exact this
   have h6:Hid (un (cut (mz (un X G) ao d) a) a=mz (un X G) ao d):=hid (a5T l3);have j9:Hid (ob a (adr ao i).block=false):=hid (by
    cases hb:ob a (adr ao i).block
    ·rfl
    ·have h1:=(g3 _ hb).2
     obtain⟨b0,o0,rfl⟩:=h7 (by omega);simp[ob,adr]at h1)
   have y1:wr.cell? (adr ao i)=some (.slice a O cr):=by
    have:=(F.hdr i z).1;rw[V]at this;exact this
   have k3:col<row.length:=by rw[U.out];exact g4
   have j8:Hid (row[col]=ent D i col):=hid (by
    unfold ent;rw[a2G b8];simp[C,List.getD_eq_getElem?_getD,k3])
   obtain⟨Q,a2⟩:∃b,ent D i col=b:=⟨_,rfl⟩;have r5:Hid (hq Q<=68719476736):=hid (by rw[<-a2];exact Nat.le_trans (Z i col) (by omega));have i3:Hid (BR 68719476736 row):=hid fun q hq=>by
    obtain⟨x,hx,rfl⟩:=List.getElem_of_mem hq;have:=Z.bm D[i] (List.getElem_mem _) row[x] (by rw[C];exact List.getElem_mem _);omega
   have e8:Hid (D.set i (row.map (· /Q))=divL D i col):=hid (by
    unfold divL;rw[a2G b8,C,a2])
   rw[a2]at j8;have bx:=Bx.new wr #[.bool false, .slice none 0 0, .slice none 0 0] 45;have y:=hid V;have f6:=hid C;clear V C l2 b4 a2;go_wp2_with (first|(with_reducible refine a0q a2h (by omega) (by assumption) ?_)|(with_reducible refine a0q a0s (by omega) (by assumption) ?_)|(with_reducible refine a1M a0B (by omega) (by assumption) ?_)|((with_reducible show wpList _ _ _ (⟨_, .load 45 _,_,_,_,_⟩::_) _ _);refine a5e a0t col hR k3 rfl (by simp) QC.agg ?_;intro u5 d3;rw[j8.out,h6.out]at d3;obtain⟨s5,a5,n5,c5,d5,k5,e5,rfl⟩:=d3.shape)|((with_reducible show wpList _ _ _ (⟨_, .store _ _ _,_,_,_,_⟩::_) _ _);refine a0a a0t rfl rfl bx rfl rfl (a1Q _ _ _ _ _ _ _) ?_;intro w5 r1 r2;have y2:=(ExtX.box ((ExtX.refl wr).alloc _) r2 (Nat.le_refl _):Ext wr w5).cell y1))
   have d9:Ext wr w5:=ExtX.box ((ExtX.refl wr).alloc _) r2 (Nat.le_refl _);have m2:=F.ext0 d9;have o2:=hP.ext0 (a0c.elem _) d9;have s0:QV (mk (mz (un X G) ao d) w5) (.agg #[.bool s5, .slice a5 n5 c5, .slice d5 k5 e5]) Q:=(mkx QC.mono d3 d9).qv r5.out;have m3:=hE.trans (ExtX.of (Y:=mb ao hs) d9);obtain⟨P,s1⟩:∃P,wr.heap.size=P:=⟨_,rfl⟩;rw[s1]at r1 |-;have m1:Hid (mb ao hs P=false):=hid (by
    rw[<-N.out];cases hb:mb ao d P
    ·rfl
    ·have:=(F.mb_block hb).2;omega)
   obtain⟨R,d2⟩:∃R,row.map (· /Q)=R:=⟨_,rfl⟩;have d4:Hid (R.length=O):=hid (by rw[<-d2,List.length_map];exact U.out);have c4:Hid (R.length=row.length):=hid (by rw[d4.out,U.out]);have n0:Hid (∀j (h1:j<row.length) (h2:j<R.length),R[j]=row[j]/Q):=hid fun j h1 h2=>by subst d2;simp
   rw[d2]at e8;have j0:MO (un X G) base 24 45 w5 ao cap d (D.set i (mix R row 0)):=by
    rw[a5c,<-f6.out,List.set_getElem_self];exact m2
   clear hR d2 bx y1 y2 m2 d3 F hP;go_loopw [36] (fun k wx=>∃(j:Nat),k= .int .i64 j/\j<=O/\MO (un X G) base 24 45 wx ao cap d (D.set i (mix R row j))/\OL (a0c .i64) 1 (mz X ao hs) w.heap.size 3 wx G pc p/\Bx wx P #[.bool s5, .slice a5 n5 c5, .slice d5 k5 e5] 45/\QV (mk (mz (un X G) ao d) wx) (.agg #[.bool s5, .slice a5 n5 c5, .slice d5 k5 e5]) Q/\ExtX (mb ao hs) w wx) (fun k _=>O - (intOf k).toNat)
   case atStart=>exact⟨0,rfl,Nat.zero_le _,j0,o2,r1,s0,m3⟩
   case round=>
    obtain⟨j,rfl,hj,F,hP,b7,m5,hE⟩:=hrel;by_cases f9:j<O
    ·have n9:j<row.length:=by rw[U.out];exact f9
     have i6:j<R.length:=by rw[d4.out];exact f9
     have p4:Hid ((mix R row j).length=O):=hid (by rw[a2r c4.out,d4.out]);have h8:j<(mix R row j).length:=by rw[p4.out];exact f9
     have k1:Hid ((mix R row j)[j]=row[j]):=hid (by rw[a2d c4.out,if_neg (by omega)]);have j2:Hid ((mix R row j).set j R[j]=mix R row (j+1)):=hid (a6C c4.out i6);have b9:=hid (n0.out j n9 i6);have m8:=hid (i3.out row[j] (List.getElem_mem _));have g9:Hid (i<(D.set i (mix R row j)).length):=hid (by rw[List.length_set];exact b8);have hR:=F.row i z g9.out;rw[List.getElem_set_self]at hR;simp only[y.out]at hR;obtain⟨x,hx⟩:∃x,row[j]=x:=⟨_,rfl⟩;obtain⟨v,hv⟩:∃v,R[j]=v:=⟨_,rfl⟩;rw[hx]at k1 m8 b9;rw[hv]at j2 b9;have r6:HX X wr:=m6.out.ext hE;have o9:HX (un X G) wr:=fun k H=>by
      by_cases hx:X k=true
      ·exact r6 k hx
      ·exact(hP.block (by simpa[un,hx]using H)).2
     have r8:=F.hz o9;obtain⟨g,o,hg⟩:∃g o,adr a (j*3)=⟨g,o,none⟩:=⟨_,_,rfl⟩;have i1:∀W,(Instr.indexAt 23 (.slice ao n cap) (.int .i64 (i:Int))).run Tryz.prog W= .ok (.pointer (some (adr ao i))) W:=a0z a0s ao n cap .i64 i h7 (by omega) rfl;have bx:=Bx.new wr #[.bool false, .slice none 0 0, .slice none 0 0] 45;have y1:wr.cell? (adr ao i)=some (.slice a O cr):=by
      have:=(F.hdr i z).1;rw[y.out]at this;exact this
     have i5:=hid g3
     replace hg:=hid hg
     clear hx hv g3;go_wp2_with (first|(with_reducible refine a1M a0B (by omega) (by assumption) ?_)|((with_reducible show wpList _ _ _ (⟨_, .load 45 _,_,_,_,_⟩::_) _ _);refine a5e a0t j hR h8 rfl (by simp) QC.agg ?_;intro u6 g6;rw[k1.out,h6.out]at g6;obtain⟨s6,a6,n6,c6,d6,k6,e6,rfl⟩:=g6.shape)|((with_reducible show wpList _ _ _ (⟨_, .store _ _ _,_,_,_,_⟩::_) _ _);refine a0a a0t rfl rfl bx rfl rfl (a1Q _ _ _ _ _ _ _) ?_;intro w6 r3 r4))
     have i2:∀W,(Instr.indexAt 24 (.slice a O cr) (.int .i64 (j:Int))).run Tryz.prog W= .ok (.pointer (some ⟨g,o,none⟩)) W:=by rw[<-hg.out];exact a0m a0B a O cr .i64 j t0 (by omega)
     have t2:Ext wr w6:=ExtX.box ((ExtX.refl wr).alloc _) r4 (Nat.le_refl _);have j6:Ext w6 w6.drew:=(ExtX.refl w6).drew;have r:=t2.trans j6;have o3:=F.ext0 r;have p9:=hP.ext0 (a0c.elem _) r;have r0:=hR.ext0 QC.elem r;have k8:=b7.ext0 r;have p6:QV (mk (mz (un X G) ao d) w6.drew) (.agg #[.bool s6, .slice a6 n6 c6, .slice d6 k6 e6]) x:=(mkx QC.mono g6 r).qv m8.out;have i4:QV (mk (mz (un X G) ao d) w6.drew) (.agg #[.bool s5, .slice a5 n5 c5, .slice d5 k5 e5]) Q:=mkx QV.mono m5 r;have s4:=r8.ext r;have k9:=r3.ext0 j6;obtain⟨bw,g7⟩:∃bw,wr.heap.size=bw:=⟨_,rfl⟩;rw[g7]at k9;have p8:Hid (ob a bw=false):=hid (by rw[<-g7];exact hR.ob_ge (Nat.le_refl _));have f4:Hid (ob a P=false):=hid (by
      cases hb:ob a P
      ·rfl
      ·have h5:mb ao d P=true:=a2t.2 (.inr (a1I z (show ob d[i].1 P=true by rw[y.out];exact hb)))
       rw[N.out,m1.out]at h5;simp at h5)
     have hS:Hid (∀Y W',ExtX Y w6.drew W'->Y (adr ao i).block=false->Y bw=false->Y P=false->W'.cell? (adr ao i)=some (.slice a O cr)/\W'.cell? ⟨bw,0,none⟩=some (.bool s6)/\W'.cell? ⟨bw,1,none⟩=some (.slice a6 n6 c6)/\W'.cell? ⟨bw,2,none⟩=some (.slice d6 k6 e6)/\W'.cell? ⟨P,0,none⟩=some (.bool s5)/\W'.cell? ⟨P,1,none⟩=some (.slice a5 n5 c5)/\W'.cell? ⟨P,2,none⟩=some (.slice d5 k5 e5)):=hid fun Y W' h s8 t4 p3=>by
      have z2:=k9.ext h t4;have z3:=k8.ext h p3;exact⟨h.cellY (r.cell y1) s8,z2.cell 0 rfl,z2.cell 1 rfl,z2.cell 2 rfl,z3.cell 0 rfl,z3.cell 1 rfl,z3.cell 2 rfl⟩
     obtain⟨n2,n4,p0,q8,t3,p2,m9⟩:=hS.out noY w6.drew (ExtX.refl _) rfl rfl rfl;have qd:=c1w (mz (un X G) ao d) w6.drew _ _ _ _ s4 p6 i4;rw[<-b9.out]at qd;have p1:Calls Tryz.prog 208 #[.agg #[.bool s6, .slice a6 n6 c6, .slice d6 k6 e6], .agg #[.bool s5, .slice a5 n5 c5, .slice d5 k5 e5]] w6.drew (fun e w'=>Ext w6.drew w'/\∃u ec,e= .returned (.tuple #[u, .int .i64 ec])/\QC (mk (mz (un X G) ao d) w') u v):=qd.mono fun e w' ⟨q1,u,q2,q3⟩=>⟨q1,u,_,q2,q3⟩;clear qd r3 bx y1;rw[g7];go_wp2_with fail
     go_region_held3 (fun w'=>w'.cell? (adr ao i)=some (.slice a O cr)/\w'.cell? ⟨bw,0,none⟩=some (.bool s6)/\w'.cell? ⟨bw,1,none⟩=some (.slice a6 n6 c6)/\w'.cell? ⟨bw,2,none⟩=some (.slice d6 k6 e6)/\w'.cell? ⟨P,0,none⟩=some (.bool s5)/\w'.cell? ⟨P,1,none⟩=some (.slice a5 n5 c5)/\w'.cell? ⟨P,2,none⟩=some (.slice d5 k5 e5))
      (first|exact hS.out noY _ t1 rfl rfl rfl|exact hS.out (ob a) _ ((ExtX.of t1).trans e9.2) j9.out p8.out f4.out|go_keep)
      ((go_at_call 208;(with_reducible refine p1.mono ?_);rintro ee w7 ⟨t1,u7,t8,rfl,i7⟩;obtain⟨s7,a7,n7,c7,d7,k7,e7,rfl⟩:=i7.shape;have d0:=r0.ext0 QC.elem t1;obtain⟨_,v0,v1,v2,_,⟨g0,f0⟩,⟨g1,f1⟩,⟨g2,f2⟩,_⟩:=d0.cell3 j h8 hg.out;have e9:=d0.set3 a7a QC.elem j h8 hg.out (v0:= .bool s7) (v1:= .slice a7 n7 c7) (v2:= .slice d7 k7 e7) (x:=v) (by rw[h6.out];exact i7)))
     obtain⟨q1,q2⟩:=e9;rw[j2.out]at q1;obtain⟨w8,j7⟩:∃w8,((w7.setCell ⟨g,o,none⟩ (.bool s7)).setCell ⟨g,o+1,none⟩ (.slice a7 n7 c7)).setCell ⟨g,o+2,none⟩ (.slice d7 k7 e7)=w8:=⟨_,rfl⟩;rw[j7]at q1 q2 |-;have l7:ExtX (ob d[i].1) w7 w8:=by rw[y.out];exact q2
     have l8:=(o3.ext0 t1).upd z (l:=mix R row (j+1)) l7 (fun o6=>by rw[List.getElem_set_self,a2r c4.out,a2r c4.out]) (by rw[y.out];exact q1);rw[List.set_set]at l8;have a8:=(p9.ext0 (a0c.elem _) t1).frame (a0c.pure _) q2 (fun k H=>by
      cases hb:ob a k
      ·rfl
      ·have:=(i5.out k hb).1;rw[a0r H]at this;simp at this) hP.1
     have s2:=(k8.ext0 t1).ext q2 f4.out;have r9:=QV.mono _ _ _ _ (a0w q2 l3) (mkx QV.mono i4 t1);have b2:=(hE.trans (ExtX.of (r.trans t1))).trans (show ExtX (mb ao hs) w7 w8 by rw[<-N.out];exact ExtX.row z l7);clear n2 n4 p0 q8 t3 p2 m9 g0 g1 g2 f0 f1 f2 i1 i2 j7;go_wp2_with fail
     go_roundw
     case rel=>exact⟨j+1,by go_num,by omega,l8,a8,s2,r9,b2⟩
     case measure=>simp[intOf];omega
    ·have q0:j=O:=by omega
     subst q0;rw[a5d (by rw[d4.out];exact Nat.le_refl _) (by rw[U.out];exact Nat.le_refl _),e8.out]at F;obtain⟨f,b5⟩:∃f,divL D i col=f:=⟨_,rfl⟩;have K:Shp n j f:=by rw[<-b5];exact e3.divL b1 col
     have j1:Hid (∀t,t<i->BR 68719476736 (f.getD t [])/\BR 68719476736 (f.getD i [])/\hq ((f.getD t []).getD col 0/(f.getD i []).getD col 0)<=68719476736/\∀x∈f.getD i [],hq ((f.getD t []).getD col 0/(f.getD i []).getD col 0*x)<=68719476736):=hid fun t ht=>by
      rw[<-b5];exact a8Q e3 Z b1 (by omega) (by omega) k0
     have j3:Hid (above f i col i=dN E p (i+1)):=hid (by rw[f7.out];unfold dStep;rw[b5]);rw[b5]at F;have e4:=hid K.1;have n8:MO (un X G) base 24 45 wr ao cap d (above f i col 0):=by rw[b1N];exact F
     have g5:i<=cap:=by omega
     have f1:∀W,(Instr.sliceAt 23 (.slice ao n cap) none (some (.int .i64 (i:Int))) none).run Tryz.prog W= .ok (.slice ao i cap) W:=a8R a0s n cap .i64 i g5;have t7:Hd ao i:=fun h0=>h7 (by omega);clear F b5 b7 m5;go_wp2_with fail
     go_loopw [58] (fun k wx=>∃(s:Nat),k= .int .i64 s/\s<=i/\MO (un X G) base 24 45 wx ao cap d (above f i col s)/\OL (a0c .i64) 1 (mz X ao hs) w.heap.size 3 wx G pc p/\ExtX (mb ao hs) w wx) (fun k _=>i - (intOf k).toNat)
     case atStart=>exact⟨0,rfl,Nat.zero_le _,n8,hP,hE⟩
     case round=>
      obtain⟨s,rfl,u1,A,a8,b2⟩:=hrel;by_cases m0:s<i
      ·have l1:s<n:=by omega
       have J:s<d.length:=by rw[f5.out];exact l1
       have c3:s<f.length:=by rw[e4.out];exact l1
       have g8:i<f.length:=by rw[e4.out];exact b1
       have d8:s<(above f i col s).length:=by rw[a4b];exact c3
       have l6:i<(above f i col s).length:=by rw[a4b];exact g8
       obtain⟨a1,n1,c1,M⟩:∃a n c,d[s]=(a,n,c):=⟨_,_,_,rfl⟩;have h9:(above f i col s)[s]=f[s]:=by rw[a4a d8 c3,if_neg (by omega)]
       have l0:(above f i col s)[i]=f[i]:=by rw[a4a l6 g8,if_neg (by omega)]
       have j4:n1=j:=by
        have:=A.rlen s J d8;rw[M,h9,K.2 _ (List.getElem_mem _)]at this;exact this
       subst j4;have a9:=A.row s J d8;have a4:=A.row i z l6;rw[h9]at a9;rw[l0]at a4;simp only[M]at a9;simp only[y.out]at a4;have j5:=fun k (H:ob a1 k=true)=>A.mz_sub J k (by rw[M];exact H);have m4:=fun k (H:ob a k=true)=>A.mz_sub z k (by rw[y.out];exact H);have s9:∀k,ob a1 k=true->ob a k=false:=fun k H=>by
        have:=A.dis s i J z (by omega) k (by rw[M];exact H);rw[y.out]at this;exact this
       have l5:=fun k (H:ob a1 k=true)=>A.sep s J k (by rw[M];exact H);have T:=j1.out s m0;rw[a2G c3]at T;have m7:Hid ((above f i col s).set s (a3c f[s] (f.getD i []) col)=above f i col (s+1)):=hid (b3k c3 m0);have h3:f.getD i []=f[i]:=a2G g8;rw[<-h3]at a4;have c2:=hid (K.2 f[s] (List.getElem_mem _));have a3:=hid (show(f.getD i []).length=n1 by rw[h3];exact K.2 _ (List.getElem_mem _));obtain⟨c9,I⟩:∃c9,f[s]=c9:=⟨_,rfl⟩;obtain⟨e0,a0⟩:∃e0,f.getD i []=e0:=⟨_,rfl⟩;rw[I,a0]at m7;rw[I]at a9 c2;rw[a0]at a4 a3;rw[I,a0]at T;have o1:HX (un X G) wr:=fun k H=>by
        by_cases hx:X k=true
        ·exact m6.out.ext b2 k hx
        ·exact(a8.block (by simpa[un,hx]using H)).2
       have t5:=A.hz o1;have p7:=a5f (mz (un X G) ao d) base wr a1 a c1 cr n1 col c9 e0 t5 a9 a4 j5 m4 s9 c2.out a3.out (by omega) g4 T.1 T.2.1 T.2.2.1 T.2.2.2;have y1:wr.cell? (adr ao s)=some (.slice a1 n1 c1):=by
        have:=(A.hdr s J).1;rw[M]at this;exact this
       have y2:wr.cell? (adr ao i)=some (.slice a n1 cr):=by
        have:=(A.hdr i z).1;rw[y.out]at this;exact this
       have f3:=hid M;clear h9 l0 h3 I a0 M a9 a4 T f1;go_wp2_with (with_reducible refine a0q a0s (by omega) (by assumption) ?_)
       refine p7.mono ?_;rintro ee w7 ⟨rfl,t1,d0⟩;have l9:ExtX (ob d[s].1) wr w7:=by rw[f3.out];exact t1
       have i9:=A.upd J (l:=a3c c9 e0 col) l9 (fun o6=>by
        rw[a4a d8 c3,if_neg (by omega),a3J _ _ _ (by rw[c2.out,a3.out]),a3.out];exact(K.2 _ (List.getElem_mem _)).symm) (by rw[f3.out];exact d0)
       rw[m7.out]at i9;have n3:=a8.frame (a0c.pure _) t1 (fun k H=>by
        cases hb:ob a1 k
        ·rfl
        ·have:=(l5 k hb).1;rw[a0r H]at this;simp at this) a8.1
       have q9:=b2.trans (show ExtX (mb ao hs) wr w7 by rw[<-N.out];exact ExtX.row J l9);clear y1 y2;go_wp2_with fail
       go_roundw
       case rel=>exact⟨s+1,by go_num,by omega,i9,n3,q9⟩
       case measure=>simp[intOf];omega
      ·have q7:s=i:=by omega
       subst q7;rw[j3.out]at A;go_wp2_with fail
       go_roundw
       case rel=>exact⟨s+1,by go_num,by omega,A,a8,b2⟩
       case measure=>simp[intOf];omega
  ·have q5:i=pl:=by omega
   subst q5;rw[<-L.out]at F;go_wp2_with fail
   go_ret
   exact⟨hE,G,pc,d,by rw[L.out];rfl,N.out,F,hP⟩
end Go.Proofs.YtidbbddagfnfbaaGreat
