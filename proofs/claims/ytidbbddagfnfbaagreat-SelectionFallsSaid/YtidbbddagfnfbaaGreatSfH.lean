/- Matrices that a call has made itself, row by row, and writes into: what they are, and what each step leaves of them. Conditions: none. Stores into rows and matrices that a call has made itself, as the walk writes them; readings beside them. Conditions: none. matrix: zero. Conditions: few rows and columns. matrix: copied. Conditions: few rows and columns. Elements of rows that a call has made itself: loads. Conditions: none. matrix: Transpose. Conditions: few rows and columns, numbers of at most 2^36 digits. matrix: dot. Conditions: few numbers of at most 2^36 digits. matrix: Apply, Mul. Conditions: few rows and columns, numbers of few digits. Bounds of determinants and products, for law 06. Conditions: none. matrix: eliminate. Conditions: numbers of at most 2^36 digits. matrix: echelon's closure, slices.IndexFunc over it. Conditions: numbers of at most 2^36 digits. Rows exchanged, rows cleared: steps on matrices that a call has made itself. Conditions: none. matrix: echelon. Conditions: few rows and columns, numbers of at most 2^36 digits. -/
import Derived.Test.YtidbbddagfnfbaaGreatSfG
import Derived.BigRegion
namespace Go.Rep
open Go.RowKit Go.Lim
abbrev Hdr:=Option Addr×Nat×Nat
def HdR:Mem->Value->Hdr->Prop:=fun _ u x=>u= .slice x.1 x.2.1 x.2.2
theorem HdR.elem:Elem HdR 1:=⟨fun _ _ _ _ _ h=>h,by rintro h u x rfl;rfl,by
 rintro h u x rfl c hc;simp[a0j,Value.cells]at hc;subst hc;rfl,Nat.one_pos⟩
theorem HdR.one:a3h HdR:=by rintro h u x rfl;rfl
theorem HdR.pure:∀h h' u x,HdR h u x->HdR h' u x:=fun _ _ _ _ h=>h
theorem OL.frame {α:Type} {R:Mem->Value->α->Prop} {sz:Nat} {X:Nat->Bool} {base:Nat} {e:TypeId} {w w':World} {ao:Option Addr} {cap:Nat} {l:List α} (hR0:∀h h' u x,R h u x->R h' u x) {Y Z:Nat->Bool} (h:OL R sz X base e w ao cap l) (hE:ExtX Y w w') (hY:∀k,ob ao k=true->Y k=false) (hZ:∀k,ob ao k=true->Z k=false):OL R sz Z base e w' ao cap l:=by
 have hb:=fun k (hk:ob ao k=true)=>h.block hk;obtain⟨hx,us,h1,h2,h22,h3,h5⟩:=h;refine⟨hZ,us,h1,h2,h22,?_,fun i hi hi'=>hR0 _ _ _ _ (h5 i hi hi')⟩;refine⟨h3.1,?_⟩;rcases h3.2 with h4|⟨g,c,cur,hv,h6,h7,h8⟩
 ·exact .inl h4
 ·refine .inr ⟨g,c,cur,hv,h6,?_,h8⟩
  simp at hv;obtain⟨rfl,rfl⟩:=hv;have hk:ob (some ⟨g,0,none⟩) g=true:=by simp[ob]
  rw[hE.block g (hb g hk).2 (hY g hk),h7]
def cut (Z:Nat->Bool) (ao:Option Addr):Nat->Bool:=fun k=>Z k&& !ob ao k
theorem a5E {Z:Nat->Bool} {ao:Option Addr} (h:∀k,ob ao k=true->Z k=true):un (cut Z ao) ao=Z:=by
 funext k
 have:=h k;unfold un cut;cases hb:ob ao k<;>cases hz:Z k<;>simp_all
theorem b0f {Z:Nat->Bool} {ao:Option Addr} {k:Nat} (h:cut Z ao k=true):Z k=true/\ob ao k=false:=by simpa[cut]using h
theorem a4R {Z:Nat->Bool} {ao:Option Addr} {k:Nat} (h:Z k=true) (h2:ob ao k=false):cut Z ao k=true:=by simp[cut,h,h2]
def obs (hs:List Hdr):Nat->Bool:=fun k=>hs.any fun h=>ob h.1 k
theorem a1H {hs:List Hdr} {i:Nat} (hi:i<hs.length) {k:Nat} (h:ob hs[i].1 k=true):obs hs k=true:=by
 unfold obs;rw[List.any_eq_true];exact⟨_,List.getElem_mem hi,h⟩
theorem a4S {hs:List Hdr} {k:Nat} (h:obs hs k=true):∃i,∃hi:i<hs.length,ob hs[i].1 k=true:=by
 unfold obs at h;rw[List.any_eq_true]at h;obtain⟨x,hx,h2⟩:=h;obtain⟨i,hi,rfl⟩:=List.getElem_of_mem hx;exact⟨i,hi,h2⟩
def mz (X:Nat->Bool) (ao:Option Addr) (hs:List Hdr):Nat->Bool:=fun k=>X k||ob ao k||obs hs k
def mb (ao:Option Addr) (hs:List Hdr):Nat->Bool:=fun k=>ob ao k||obs hs k
theorem a1N {X:Nat->Bool} {ao:Option Addr} {hs:List Hdr} {k:Nat}:mz X ao hs k=true↔X k=true\/ob ao k=true\/obs hs k=true:=by simp[mz,or_assoc]
theorem a2n {ao:Option Addr} {hs:List Hdr} {k:Nat}:mb ao hs k=true↔ob ao k=true\/obs hs k=true:=by simp[mb]
structure MO (X:Nat->Bool) (base:Nat) (e1 e2:TypeId) (w:World) (ao:Option Addr) (cap:Nat) (hs:List Hdr) (m:List (List Rat)):Prop where
 outer:OL HdR 1 X base e1 w ao cap hs
 len:hs.length=m.length
 rlen:∀i (hi:i<hs.length) (hi':i<m.length),hs[i].2.1=m[i].length
 row:∀i (hi:i<hs.length) (hi':i<m.length),OL QC 3 (cut (mz X ao hs) hs[i].1) base e2 w hs[i].1 hs[i].2.2 m[i]
 sep:∀i (hi:i<hs.length) k,ob hs[i].1 k=true->X k=false/\ob ao k=false
 dis:∀i j (hi:i<hs.length) (hj:j<hs.length),i≠j->∀k,ob hs[i].1 k=true->ob hs[j].1 k=false
section
variable {X:Nat->Bool} {base:Nat} {e1 e2:TypeId} {w w':World} {ao:Option Addr} {cap:Nat} {hs:List Hdr} {m:List (List Rat)}
theorem MO.out_sep (h:MO X base e1 e2 w ao cap hs m) {k:Nat} (hk:ob ao k=true):X k=false/\obs hs k=false:=by
 refine⟨h.outer.1 k hk,?_⟩;cases ho:obs hs k
 ·rfl
 ·obtain⟨i,hi,h2⟩:=a4S ho
  have:=(h.sep i hi k h2).2;rw[hk]at this;simp at this
theorem MO.obs_sep (h:MO X base e1 e2 w ao cap hs m) {k:Nat} (hk:obs hs k=true):X k=false/\ob ao k=false:=by
 obtain⟨i,hi,h2⟩:=a4S hk;exact h.sep i hi k h2
theorem MO.mb_X (h:MO X base e1 e2 w ao cap hs m) {k:Nat} (hk:mb ao hs k=true):X k=false:=by
 rcases a2n.1 hk with a|a
 ·exact(h.out_sep a).1
 ·exact(h.obs_sep a).1
theorem MO.mb_block (h:MO X base e1 e2 w ao cap hs m) {k:Nat} (hk:mb ao hs k=true):base<=k/\k<w.heap.size:=by
 rcases a2n.1 hk with a|a
 ·exact h.outer.block a
 ·obtain⟨i,hi,h2⟩:=a4S a
  exact(h.row i hi (by have:=h.len;omega)).block h2
theorem MO.mz_sub (_h:MO X base e1 e2 w ao cap hs m) {i:Nat} (hi:i<hs.length) (k:Nat) (hk:ob hs[i].1 k=true):mz X ao hs k=true:=a1N.2 (.inr (.inr (a1H hi hk)))
theorem MO.hz (h:MO X base e1 e2 w ao cap hs m) (hX:HX X w):HX (mz X ao hs) w:=fun k hk=>by
 rcases a1N.1 hk with a|a
 ·exact hX k a
 ·exact(h.mb_block (a2n.2 a)).2
theorem MO.ext (h:MO X base e1 e2 w ao cap hs m) {Y X':Nat->Bool} (hE:ExtX Y w w') (hY:∀k,k<w.heap.size->Y k=true->X k=true) (hZ:∀k,k<w.heap.size->X' k=true->X k=true):MO X' base e1 e2 w' ao cap hs m:=by
 have hX':∀k,mb ao hs k=true->X' k=false:=fun k hk=>by
  cases hh:X' k
  ·rfl
  ·have:=hZ k (h.mb_block hk).2 hh;rw[h.mb_X hk]at this;simp at this
 have hYm:∀k,mb ao hs k=true->Y k=false:=fun k hk=>by
  cases hh:Y k
  ·rfl
  ·have:=hY k (h.mb_block hk).2 hh;rw[h.mb_X hk]at this;simp at this
 refine⟨h.outer.ext HdR.elem hE hY hZ,h.len,h.rlen,fun i hi hi'=>?_,fun i hi k hk=>⟨hX' k (a2n.2 (.inr (a1H hi hk))),(h.sep i hi k hk).2⟩,h.dis⟩;refine(h.row i hi hi').ext QC.elem hE (fun k hk hy=>a4R (a1N.2 (.inl (hY k hk hy))) ?_) (fun k hk hy=>?_)
 ·cases hb:ob hs[i].1 k
  ·rfl
  ·have:=hYm k (a2n.2 (.inr (a1H hi hb)));rw[hy]at this;simp at this
 ·obtain⟨h1,h2⟩:=b0f hy
  refine a4R (a1N.2 ?_) h2;rcases a1N.1 h1 with a|a
  ·exact .inl (hZ k hk a)
  ·exact .inr a
theorem MO.ext0 (h:MO X base e1 e2 w ao cap hs m) (hE:Ext w w'):MO X base e1 e2 w' ao cap hs m:=
 h.ext hE (fun k _ hk=>by simp[noY]at hk) (fun _ _ h=>h)
theorem MO.upd (h:MO X base e1 e2 w ao cap hs m) {i:Nat} (hi:i<hs.length) {l:List Rat} (hE:ExtX (ob hs[i].1) w w') (hl:∀hi':i<m.length,l.length=m[i].length) (hr:OL QC 3 (cut (mz X ao hs) hs[i].1) base e2 w' hs[i].1 hs[i].2.2 l):MO X base e1 e2 w' ao cap hs (m.set i l):=by
 refine⟨h.outer.frame HdR.pure hE (fun k hk=>?_) h.outer.1,by rw[List.length_set];exact h.len,fun j hj hj'=>?_,fun j hj hj'=>?_,h.sep,h.dis⟩
 ·cases hb:ob hs[i].1 k
  ·rfl
  ·have:=(h.sep i hi k hb).2;rw[hk]at this;simp at this
 ·rw[List.getElem_set]
  split
  ·subst_vars;rw[hl (by have:=h.len;omega)];exact h.rlen _ hj (by have:=h.len;omega)
  ·exact h.rlen j hj (by simpa using hj')
 ·rw[List.getElem_set]
  split
  ·subst_vars;exact hr
  ·rename_i e
   exact(h.row j hj (by simpa using hj')).ext QC.elem hE (fun k _ hk=>a4R (h.mz_sub hi k hk) (h.dis i j hi hj e k hk)) (fun _ _ hk=>hk)
theorem MO.perm (h:MO X base e1 e2 w ao cap hs m) {hs':List Hdr} {m':List (List Rat)} (f:Nat->Nat) (hf:∀i,i<hs.length->f i<hs.length) (hinj:∀i j,i<hs.length->j<hs.length->f i=f j->i=j) (hsurj:∀i,i<hs.length->∃j,j<hs.length/\f j=i)
  (hl:hs'.length=hs.length) (hlm:m'.length=m.length) (hh:∀i (hi:i<hs'.length) (hi':f i<hs.length),hs'[i]=hs[f i]) (hm:∀i (hi:i<m'.length) (hi':f i<m.length),m'[i]=m[f i])
  (hE:ExtX (ob ao) w w') (ho:OL HdR 1 X base e1 w' ao cap hs'):MO X base e1 e2 w' ao cap hs' m':=by
 have hlen:=h.len;have hobs:∀k,obs hs' k=true↔obs hs k=true:=fun k=>by
  constructor
  ·intro hk
   obtain⟨i,hi,h2⟩:=a4S hk;have hfi:=hf i (by omega);rw[hh i hi hfi]at h2;exact a1H hfi h2
  ·intro hk
   obtain⟨i,hi,h2⟩:=a4S hk;obtain⟨j,hj,rfl⟩:=hsurj i hi;refine a1H (i:=j) (by omega) ?_;rw[hh j (by omega) hi];exact h2
 have hz:mz X ao hs'=mz X ao hs:=by
  funext k
  rw[Bool.eq_iff_iff,a1N,a1N,hobs]
 refine⟨ho,by omega,fun i hi hi'=>?_,fun i hi hi'=>?_,fun i hi k hk=>?_,fun i j hi hj hij k hk=>?_⟩
 ·have hfi:=hf i (by omega)
  rw[hh i hi hfi,hm i hi' (by omega)];exact h.rlen _ hfi (by omega)
 ·have hfi:=hf i (by omega)
  rw[hz,hh i hi hfi,hm i hi' (by omega)];exact(h.row _ hfi (by omega)).ext QC.elem hE (fun k _ hk=>a4R (a1N.2 (.inr (.inl hk))) (by
   cases hb:ob hs[f i].1 k
   ·rfl
   ·have:=(h.sep _ hfi k hb).2;rw[hk]at this;simp at this)) (fun _ _ hk=>hk)
 ·have hfi:=hf i (by omega)
  rw[hh i hi hfi]at hk;exact h.sep _ hfi k hk
 ·have hfi:=hf i (by omega)
  have hfj:=hf j (by omega);rw[hh i hi hfi]at hk;rw[hh j hj hfj];exact h.dis _ _ hfi hfj (fun e=>hij (hinj i j (by omega) (by omega) e)) k hk
theorem MO.put (h:MO X base e1 e2 w ao cap hs m) {i:Nat} (hi:i<hs.length) (hn:hs[i].1=none) {a:Option Addr} {c:Nat} {l:List Rat} {w1:World}
  (hE1:Ext w w1) (hnew:∀k,ob a k=true->w.heap.size<=k) (hr:OL QC 3 (mz X ao hs) base e2 w1 a c l) (hX:HX X w)
  (hE:ExtX (ob ao) w1 w') (ho:OL HdR 1 X base e1 w' ao cap (hs.set i (a,l.length,c))):MO X base e1 e2 w' ao cap (hs.set i (a,l.length,c)) (m.set i l):=by
 have hlen:=h.len;have hE':ExtX (ob ao) w w':=(ExtX.of hE1).trans hE;have hobs:∀k,obs (hs.set i (a,l.length,c)) k=true↔obs hs k=true\/ob a k=true:=fun k=>by
  constructor
  ·intro hk
   obtain⟨j,hj,h2⟩:=a4S hk;rw[List.getElem_set]at h2;split at h2
   ·exact .inr h2
   ·exact .inl (a1H (by simpa using hj) h2)
  ·rintro (hk|hk)
   ·obtain⟨j,hj,h2⟩:=a4S hk
    refine a1H (i:=j) (by simpa using hj) ?_;rw[List.getElem_set];split
    ·subst_vars;rw[hn]at h2;simp[ob]at h2
    ·exact h2
   ·refine a1H (i:=i) (by simpa using hi) ?_
    rw[List.getElem_set];simpa using hk
 have hmz:∀k,mz X ao (hs.set i (a,l.length,c)) k=true↔mz X ao hs k=true\/ob a k=true:=fun k=>by
  rw[a1N,a1N,hobs];constructor
  ·rintro (h|h|h|h)
   ·exact .inl (.inl h)
   ·exact .inl (.inr (.inl h))
   ·exact .inl (.inr (.inr h))
   ·exact .inr h
  ·rintro ((h|h|h)|h)
   ·exact .inl h
   ·exact .inr (.inl h)
   ·exact .inr (.inr (.inl h))
   ·exact .inr (.inr (.inr h))
 have hold:∀k,mb ao hs k=true->ob a k=false:=fun k hk=>by
  cases hb:ob a k
  ·rfl
  ·have:=hnew k hb;have:=(h.mb_block hk).2;omega
 have hobao:∀k,ob a k=true->ob ao k=false:=fun k hk=>by
  cases hb:ob ao k
  ·rfl
  ·have:=hold k (a2n.2 (.inl hb));rw[hk]at this;simp at this
 refine⟨ho,by simp[hlen],fun j hj hj'=>?_,fun j hj hj'=>?_,fun j hj k hk=>?_,fun j q hj hq hjq k hk=>?_⟩
 ·rw[List.getElem_set,List.getElem_set]
  split
  ·rfl
  ·exact h.rlen j (by simpa using hj) (by simpa using hj')
 ·have hj0:j<hs.length:=by simpa using hj
  have hj1:j<m.length:=by simpa using hj'
  by_cases e:i=j
  ·subst e
   simp only[List.getElem_set_self];refine hr.ext QC.elem hE (fun k _ hk=>a1N.2 (.inr (.inl hk))) (fun k hk hz=>?_);obtain⟨h1,h2⟩:=b0f hz;rcases(hmz k).1 h1 with h3|h3
   ·exact h3
   ·rw[h2]at h3;simp at h3
  ·simp only[List.getElem_set_ne e]
   refine(h.row j hj0 hj1).ext QC.elem hE' (fun k _ hk=>a4R (a1N.2 (.inr (.inl hk))) ?_) (fun k hk hz=>?_)
   ·cases hb:ob hs[j].1 k
    ·rfl
    ·have:=(h.sep j hj0 k hb).2;rw[hk]at this;simp at this
   ·obtain⟨h1,h2⟩:=b0f hz
    rcases(hmz k).1 h1 with h3|h3
    ·exact a4R h3 h2
    ·have:=hnew k h3;omega
 ·rw[List.getElem_set]at hk
  split at hk
  ·exact⟨by
    cases hb:X k
    ·rfl
    ·have:=hX k hb;have:=hnew k hk;omega,hobao k hk⟩
  ·exact h.sep j (by simpa using hj) k hk
 ·have hj0:j<hs.length:=by simpa using hj
  have hq0:q<hs.length:=by simpa using hq
  rw[List.getElem_set]at hk |-;split at hk
  ·rw[if_neg (by omega)]
   cases hb:ob hs[q].1 k
   ·rfl
   ·have:=hold k (a2n.2 (.inr (a1H hq0 hb)));dsimp only at hk;rw[hk]at this;simp at this
  ·split
   ·exact hold k (a2n.2 (.inr (a1H hj0 hk)))
   ·exact h.dis j q hj0 hq0 hjq k hk
theorem MO.hdr (h:MO X base e1 e2 w ao cap hs m) (i:Nat) (hi:i<hs.length):w.cell? (adr ao i)=some (.slice hs[i].1 hs[i].2.1 hs[i].2.2)/\w.frozen? (adr ao i)=false:=by
 obtain⟨u,h1,h2,rfl⟩:=h.outer.cell HdR.one i hi;exact⟨h1,h2⟩
theorem MO.rowS (h:MO X base e1 e2 w ao cap hs m) {i:Nat} (hi:i<hs.length) (hi':i<m.length):Sl QC 3 (_root_.Go.Rep.mk (cut (mz X ao hs) hs[i].1) w) hs[i].1 m[i]:=(h.row i hi hi').sl QC.elem
theorem MO.rowX (h:MO X base e1 e2 w ao cap hs m) {i:Nat} (hi:i<hs.length) (hi':i<m.length):Sl QC 3 (_root_.Go.Rep.mk X w) hs[i].1 m[i]:=(h.rowS hi hi').mono QC.mono (a1E fun k _ hk=>a4R (a1N.2 (.inl hk)) (by
 cases hb:ob hs[i].1 k
 ·rfl
 ·have:=(h.sep i hi k hb).1;rw[hk]at this;simp at this))
theorem MO.capLen (h:MO X base e1 e2 w ao cap hs m):m.length<=cap:=by rw[<-h.len];exact h.outer.lenCap
theorem MO.mc (h:MO X base e1 e2 w ao cap hs m):MC (_root_.Go.Rep.mk X w) (.slice ao m.length cap) m:=by
 have hl:=h.len;refine⟨ao,cap,rfl,h.capLen,fun hp=>?_,fun i hi=>?_⟩
 ·have:=h.outer.hd;rw[hl]at this;exact this hp
 ·obtain⟨h1,_⟩:=h.hdr i (by omega)
  have hr:=h.rowX (i:=i) (by omega) hi;refine⟨.slice hs[i].1 hs[i].2.1 hs[i].2.2,rfl,fun j hj=>?_,?_⟩
  ·have hj0:j=0:=by simp[Value.cells]at hj;omega
   subst hj0;unfold _root_.Go.Rep.mk;have hX:X (adr ao (i*1+0)).block=false:=by
    obtain⟨b,off,rfl⟩:=h.outer.hd (by omega);exact h.outer.1 _ (by simp[ob,adr])
   rw[hX];simpa[Value.cells]using h1
  ·rw[h.rlen i (by omega) hi]
   exact⟨_,_,rfl,by have:=(h.row i (by omega) hi).lenCap;exact this,hr⟩
theorem MO.start {n:Nat} (ho:OL HdR 1 X base e1 w ao cap (List.replicate n (none,0,0))) (e2:TypeId):MO X base e1 e2 w ao cap (List.replicate n (none,0,0)) (List.replicate n []):=by
 refine⟨ho,by simp,fun i hi hi'=>by simp,fun i hi hi'=>?_,fun i hi k hk=>?_,fun i j hi hj hij k hk=>?_⟩
 ·simp only[List.getElem_replicate];exact OL.nil _ _ _ _ _ _
 ·simp[ob]at hk
 ·simp[ob]at hk
end
end Go.Rep
namespace Go.Rep
open Go.RowKit Go.Lim
section
variable {P:Program} {α:Type} {R:Mem->Value->α->Prop} {X:Nat->Bool} {base:Nat} {e:TypeId} {w:World} {ao:Option Addr} {cap:Nat} {l:List α}
theorem OL.cell3 (h:OL R 3 X base e w ao cap l) (i:Nat) (hi:i<l.length) {g o:Nat} (hg:adr ao (i*3)=⟨g,o,none⟩):
  ∃u v0 v1 v2,a0j u= [v0,v1,v2]/\(w.cell? ⟨g,o,none⟩=some v0/\w.frozen? ⟨g,o,none⟩=false)/\(w.cell? ⟨g,o+1,none⟩=some v1/\w.frozen? ⟨g,o+1,none⟩=false)/\(w.cell? ⟨g,o+2,none⟩=some v2/\w.frozen? ⟨g,o+2,none⟩=false)/\R (mk (un X ao) w) u l[i]:=by
 obtain⟨us,h1,h2,_,h3,h5⟩:=h.cells;have hi':i<us.length:=by omega
 have hsz:us[i].cells.size=3:=h2 _ (List.getElem_mem _);have hlen:(a0j us[i]).length=3:=by simp[a0j,hsz]
 obtain⟨v0,v1,v2,hv⟩:∃v0 v1 v2,a0j us[i]= [v0,v1,v2]:=by
  match hc:a0j us[i],hlen with
  | [a,b,c],_=>exact⟨a,b,c,rfl⟩
 have ha:∀j,adr ao (i*3+j)=⟨g,o+j,none⟩:=fun j=>by rw[<-a8N,hg,Addr.add_lit]
 have key:∀j v,j<3->(a0j us[i])[j]? =some v->w.cell? ⟨g,o+j,none⟩=some v/\w.frozen? ⟨g,o+j,none⟩=false:=fun j v hj hjv=>by
  have hget:=a3i us i j hi' h2 hj;rw[hjv]at hget;have:=h3 _ _ hget;rwa[ha]at this
 exact⟨us[i],v0,v1,v2,hv,key 0 v0 (by omega) (by rw[hv];rfl),key 1 v1 (by omega) (by rw[hv];rfl),key 2 v2 (by omega) (by rw[hv];rfl),h5 i hi' hi⟩
theorem a5n {P:Program} {w:World} {a:Addr} {u v:Value} (h1:v.oneCell'=true) (hc:w.cell? a=some u) (hf:w.frozen? a=false):(store a v).run P w= .ok () (w.setCell a v):=by
 rw[run_store P w a v _ h1,hc];simp[hf]
theorem OL.set3 {t:TypeId} (hT:TyI P t 3) (hR:Elem R 3) (h:OL R 3 X base e w ao cap l) (i:Nat) (hi:i<l.length) {g o:Nat} (hg:adr ao (i*3)=⟨g,o,none⟩) {v0 v1 v2:Value} {x:α} (hu:R (mk (un X ao) w) (.agg #[v0,v1,v2]) x):
  OL R 3 X base e (((w.setCell ⟨g,o,none⟩ v0).setCell ⟨g,o+1,none⟩ v1).setCell ⟨g,o+2,none⟩ v2) ao cap (l.set i x)/\ExtX (ob ao) w (((w.setCell ⟨g,o,none⟩ v0).setCell ⟨g,o+1,none⟩ v1).setCell ⟨g,o+2,none⟩ v2):=by
 obtain⟨ti,ht,hts⟩:=hT;obtain⟨_,c0,c1,c2,_,⟨h0,f0⟩,⟨h1,f1⟩,⟨h2,f2⟩,_⟩:=h.cell3 i hi hg;obtain⟨w',hr,h3,h4⟩:=h.run_store (P:=P) ht hts hR i hi _ x hu;have hone:=hR.one _ _ _ hu;rw[hg]at hr;have o0:v0.oneCell'=true:=hone v0 (by simp[a0j,Value.cells]);have o1:v1.oneCell'=true:=hone v1 (by simp[a0j,Value.cells]);have o2:v2.oneCell'=true:=hone v2 (by simp[a0j,Value.cells]);have a1:(w.setCell ⟨g,o,none⟩ v0).cell? ⟨g,o+1,none⟩=some c1:=by rw[World.cell?_setCell_other (h:=by simp)];exact h1
 have a2:((w.setCell ⟨g,o,none⟩ v0).setCell ⟨g,o+1,none⟩ v1).cell? ⟨g,o+2,none⟩=some c2:=by rw[World.cell?_setCell_other (h:=by simp),World.cell?_setCell_other (h:=by simp)];exact h2
 have b1:(w.setCell ⟨g,o,none⟩ v0).frozen? ⟨g,o+1,none⟩=false:=by rw[World.frozen?_setCell];exact f1
 have b2:((w.setCell ⟨g,o,none⟩ v0).setCell ⟨g,o+1,none⟩ v1).frozen? ⟨g,o+2,none⟩=false:=by rw[World.frozen?_setCell,World.frozen?_setCell];exact f2
 have hw:w'=((w.setCell ⟨g,o,none⟩ v0).setCell ⟨g,o+1,none⟩ v1).setCell ⟨g,o+2,none⟩ v2:=by
  have s0:=a5n (P:=P) o0 h0 f0;have s1:=a5n (P:=P) o1 a1 b1;have s2:=a5n (P:=P) o2 a2 b2;simp[storeVar,sizeOf,typeInfo,ht,hts,Value.cells,storeCells,Addr.add_lit,s0,s1,s2]at hr;exact hr.symm
 subst hw;exact⟨h3,h4⟩
end
section
variable {X:Nat->Bool} {base:Nat} {e1 e2:TypeId} {w w':World} {ao:Option Addr} {cap:Nat} {hs:List Hdr} {m:List (List Rat)}
theorem MO.old {α:Type} {R:Mem->Value->α->Prop} (hR:a3v R) {u:Value} {x:α} {X0:Nat->Bool} {w0:World} (h:MO X base e1 e2 w ao cap hs m) (hu:R (_root_.Go.Rep.mk X0 w0) u x) (hE:Ext w0 w) (hb:w0.heap.size<=base) (hX:∀k,k<w0.heap.size->X k=true->X0 k=true):R (_root_.Go.Rep.mk (mz X ao hs) w) u x:=
 hR _ _ _ _ (a1f hE (fun k _ hk=>by simp[noY]at hk) fun k hk hz=>by
  rcases a1N.1 hz with a|a
  ·exact hX k hk a
  ·have:=(h.mb_block (a2n.2 a)).1;omega) hu
theorem MO.less {α:Type} {R:Mem->Value->α->Prop} (hR:a3v R) {u:Value} {x:α} (_h:MO X base e1 e2 w ao cap hs m) (hu:R (_root_.Go.Rep.mk (mz X ao hs) w) u x):R (_root_.Go.Rep.mk X w) u x:=
 hR _ _ _ _ (a1E fun _ _ hk=>a1N.2 (.inl hk)) hu
theorem MO.ext_from {w0:World} (h:MO X base e1 e2 w ao cap hs m) (hE:Ext w0 w) (hb:w0.heap.size<=base) (hE2:ExtX (mb ao hs) w w'):Ext w0 w':=
 hE.then_ hE2 fun i hi _=>by
  cases hk:mb ao hs i
  ·rfl
  ·have:=(h.mb_block hk).1;omega
theorem b7n {ao:Option Addr} {hs:List Hdr} {k:Nat} (h:mb ao hs k=false):ob ao k=false/\∀i (hi:i<hs.length),ob hs[i].1 k=false:=by
 refine⟨?_,fun i hi=>?_⟩
 ·cases hb:ob ao k
  ·rfl
  ·rw[a2n.2 (.inl hb)]at h;simp at h
 ·cases hb:ob hs[i].1 k
  ·rfl
  ·rw[a2n.2 (.inr (a1H hi hb))]at h;simp at h
theorem ExtX.row {i:Nat} (hi:i<hs.length) (h:ExtX (ob hs[i].1) w w'):ExtX (mb ao hs) w w':=h.weaken fun _ _ hk=>(b7n hk).2 i hi
theorem ExtX.outer (h:ExtX (ob ao) w w'):ExtX (mb ao hs) w w':=h.weaken fun _ _ hk=>(b7n hk).1
theorem b2k {hs hs':List Hdr} (h:∀k,obs hs k=obs hs' k):mb ao hs=mb ao hs'/\mz X ao hs=mz X ao hs':=by
 constructor<;>(funext k;simp[mb,mz,h])
def c0L (X:Nat->Bool) (e1 e2:TypeId) (w:World) (m:List (List Rat)) (e:Ending) (w':World):Prop:=Ext w w'/\∃ao cap hs,e= .returned (.slice ao m.length cap)/\MO X w.heap.size e1 e2 w' ao cap hs m
end
end Go.Rep
namespace Go.Proofs.YtidbbddagfnfbaaGreat
open Go.RowKit Go.Rep Go.Lim Go.Lin
theorem b0g {α:Type} (r i:Nat) (z:α) (x:α) (hi:i<r):((List.range r).map fun q=>if q<i then z else x).set i z=(List.range r).map fun q=>if q<i+1 then z else x:=by
 refine List.ext_getElem (by simp) fun q h1 h2=>?_;simp at h1;rw[List.getElem_set];simp only[List.getElem_map,List.getElem_range];split
 ·subst_vars;simp
 ·by_cases a:q<i
  ·simp[a,show q<i+1 by omega]
  ·simp[a,show¬q<i+1 by omega]
theorem a8o {α:Type} (r:Nat) (z x:α):((List.range r).map fun q=>if q<0 then z else x)=List.replicate r x:=by
 refine List.ext_getElem (by simp) fun q h1 h2=>by simp
theorem a8p {α:Type} (r:Nat) (z x:α):((List.range r).map fun q=>if q<r then z else x)=List.replicate r z:=by
 refine List.ext_getElem (by simp) fun q h1 h2=>?_;simp at h1;simp[h1]
set_option maxRecDepth 100000 in
theorem a7C (X:Nat->Bool) (w:World) (r c:Nat) (hX:HX X w) (hr:r<=1000) (hc:c<=1000):Calls Tryz.prog 274 #[.int .i64 (r:Int), .int .i64 (c:Int)] w (c0L X 24 45 w (List.replicate r (List.replicate c 0))):=by
 go_enter Tryz.func274,Tryz.ntmps274
 go_wp2_with ((with_reducible show wpList _ _ _ (⟨_, .makeSlice _ _ _,_,_,_,_⟩::_) _ _);refine a2C (R:=HdR) a0r HdR.elem (none,0,0) (fun _=>rfl) X hX w.heap.size (Nat.le_refl _) r rfl rfl rfl (by omega) (by omega) ?_;intro ao w1 hO1 hE1)
 have hM1:=MO.start hO1 45;have hh:=hO1.hd;simp only[List.length_replicate]at hh;have h0:List.replicate r ([]:List Rat)=(List.range r).map fun q=>if q<0 then List.replicate c 0 else[]:=(a8o r _ _).symm
 rw[h0]at hM1;clear hO1 h0;go_loopw [11] (fun k wr=>∃(i:Nat) (hs:List Hdr),k= .int .i64 i/\i<=r/\Hid (∀q (hq:q<hs.length),i<=q->hs[q].1=none)/\MO X w.heap.size 24 45 wr ao r hs ((List.range r).map fun q=>if q<i then List.replicate c 0 else[])/\Ext w wr) (fun k _=>r - (intOf k).toNat)
 case atStart=>exact⟨0,_,rfl,Nat.zero_le _,hid (fun q hq _=>by simp),hM1,hE1⟩
 case round=>
  obtain⟨i,hs,rfl,hi,hnil,hM,hE⟩:=hrel;have hXr:HX X wr:=hX.ext hE;have hXz:=hM.hz hXr;have hlen:=hid hM.len;have hml:Hid (((List.range r).map fun q=>if q<i then List.replicate c (0:Rat)else[]).length=r):=hid (by simp);by_cases hlt:i<r
  ·have hih:i<hs.length:=by rw[hlen.out,hml.out];exact hlt
   have hps:=hid (b0g r i (List.replicate c (0:Rat)) [] hlt);have hn:=hnil.out i hih (Nat.le_refl _);go_wp2_with (first|(with_reducible refine a0t a0r (by omega) (by assumption) ?_)|((with_reducible show wpList _ _ _ (⟨_, .makeSlice _ _ _,_,_,_,_⟩::_) _ _);refine a2C (R:=QC) a0D QC.elem (0:Rat) (fun _=>QC.zero _) (mz X ao hs) hXz wr.heap.size (Nat.le_refl _) c rfl rfl rfl (by omega) (by omega) ?_;intro a1 w2 hO2 hE2)|((with_reducible show wpList _ _ _ (⟨_, .store _ _ _,_,_,_,_⟩::_) _ _);refine a3V a5z HdR.elem i rfl (by simp) (hM.outer.ext0 HdR.elem hE2) hih (.slice a1 c c) (a1,c,c) rfl rfl ?_;intro w3 hO3 hE3))
   have hM3:=hM.put (l:=List.replicate c 0) hih hn hE2 (fun k hk=>(hO2.block hk).1) (hO2.base_le hE.size) hXr hE3 (by simpa using hO3);rw[hps.out]at hM3;have hE4:Ext w w3:=(hE.trans hE2).then_ hE3 fun k hk _=>by
    cases hb:ob ao k
    ·rfl
    ·have:=(hM.outer.block hb).1;omega
   have hnil2:Hid (∀q (hq:q<(hs.set i (a1,(List.replicate c (0:Rat)).length,c)).length),i+1<=q->(hs.set i (a1,(List.replicate c (0:Rat)).length,c))[q].1=none):=hid fun q hq hiq=>by
    rw[List.getElem_set_ne (by omega)];exact hnil.out q (by simpa using hq) (by omega)
   go_roundw
   case rel=>exact⟨i+1,_,by go_num,by omega,hnil2,hM3,hE4⟩
   case measure=>simp[intOf];omega
  ·have hir:i=r:=by omega
   subst hir;rw[a8p]at hM;go_wp2_with fail
   go_ret
   exact⟨hE,ao,i,hs,by simp,hM⟩
end Go.Proofs.YtidbbddagfnfbaaGreat
namespace Go.Lin
def mix {α:Type} (a b:List α) (i:Nat):List α:=a.take i++b.drop i
theorem a2j {α:Type} {a b:List α} (h:a.length=b.length) (i:Nat):(mix a b i).length=a.length:=by simp[mix];omega
theorem a4T {α:Type} (a b:List α):mix a b 0=b:=by simp[mix]
theorem a4U {α:Type} {a b:List α} {i:Nat} (h1:a.length<=i) (h2:b.length<=i):mix a b i=a:=by simp[mix,List.take_of_length_le h1,List.drop_of_length_le h2]
theorem a1W {α:Type} {a b:List α} (h:a.length=b.length) (i q:Nat) (hq:q<(mix a b i).length):(mix a b i)[q]=if q<i then a[q]'(by rw[a2j h]at hq;exact hq)else b[q]'(by rw[a2j h]at hq;omega):=by
 have hq':=hq;rw[a2j h]at hq';have hq2:q<(a.take i++b.drop i).length:=hq
 show(a.take i++b.drop i)[q]'hq2=_
 rw[List.getElem_append];by_cases a1:q<i
 ·rw[dif_pos (by simp;omega),if_pos a1,List.getElem_take]
 ·rw[dif_neg (by simp;omega),if_neg a1,List.getElem_drop]
  congr 1
  simp;omega
theorem a6m {α:Type} {a b:List α} (h:a.length=b.length) {i:Nat} (hi:i<a.length):(mix a b i).set i a[i]=mix a b (i+1):=by
 refine List.ext_getElem (by simp[a2j h]) fun q h1 h2=>?_;rw[List.getElem_set];split
 ·subst_vars;rw[a1W h,if_pos (by omega)]
 ·rw[a1W h,a1W h]
  by_cases a1:q<i
  ·rw[if_pos a1,if_pos (by omega)]
  ·rw[if_neg a1,if_neg (by omega)]
theorem b9c {α:Type} {a b:List α} (h:a.length=b.length) {i:Nat} (hi:i<b.length):(mix a b i).set i b[i]=mix a b i:=by
 refine List.ext_getElem (by simp) fun q h1 h2=>?_;rw[List.getElem_set];split
 ·subst_vars;rw[a1W h,if_neg (by omega)]
 ·rfl
end Go.Lin
namespace Go.Proofs.YtidbbddagfnfbaaGreat
open Go.RowKit Go.Rep Go.Lim Go.Lin
set_option maxRecDepth 100000 in
set_option maxHeartbeats 800000 in
theorem a5o (X:Nat->Bool) (w:World) (u:Value) (m:List (List Rat)) (n c:Nat) (hX:HX X w) (hu:MV (mk X w) u m) (hsh:Shp n c m) (hc:a0B m=c) (hn:n<=1000) (hcc:c<=1000):Calls Tryz.prog 275 #[u] w (c0L X 24 45 w m):=by
 have hcol:=a3p X w u m hu;obtain⟨ao0,ca,rfl,hca,hsa⟩:=hu;have hha:=hsa.hd;rw[hc]at hcol;have hml:=hid hsh.1;have hrl:=hid hsh.2;rw[hml.out]at hca hha hcol |-;obtain⟨A,hA⟩:∃A,List.replicate n (List.replicate c (0:Rat))=A:=⟨_,rfl⟩;have hAl:Hid (A.length=n):=hid (by rw[<-hA];simp);have hAi:Hid (∀i (hi:i<A.length),A[i]=List.replicate c (0:Rat)):=hid fun i hi=>by subst hA;simp
 have hmA:Hid (m.length=A.length):=hid (by rw[hml.out,hAl.out]);have hz0:=a7C X w n c hX hn hcc;rw[hA]at hz0;clear hA hsh hc;go_enter Tryz.func275,Tryz.ntmps275
 go_wp2_with fail
 refine hcol.mono ?_;rintro e w1 ⟨rfl,rfl⟩;go_wp2_with fail
 refine hz0.mono ?_;rintro e w2 ⟨hE2,ao,cap,hs,rfl,hM2⟩;rw[hAl.out];have hlen:=hid (hM2.len.trans hAl.out);have hcap:n<=cap:=by have:=hM2.capLen;rw[hAl.out]at this;exact this
 have hhO:Hd ao n:=by have:=hM2.outer.hd;rw[hlen.out]at this;exact this
 have hrl2:Hid (∀i (hi:i<hs.length),hs[i].2.1=c):=hid fun i hi=>by
  have h1:i<A.length:=by rw[hAl.out,<-hlen.out];exact hi
  rw[hM2.rlen i hi h1,hAi.out i h1];simp
 clear hcol hz0;go_wp2_with fail
 go_loopw [15] (fun k wr=>∃(i:Nat),k= .int .i64 i/\i<=n/\MO X w1.heap.size 24 45 wr ao cap hs (mix m A i)/\Ext w1 wr) (fun k _=>n - (intOf k).toNat)
 case atStart=>exact⟨0,rfl,Nat.zero_le _,by rw[a4T];exact hM2,hE2⟩
 case round=>
  obtain⟨i,rfl,hi,hM,hE⟩:=hrel;by_cases hlt:i<n
  ·have him:i<m.length:=by rw[hml.out];exact hlt
   have hiA:i<A.length:=by rw[hAl.out];exact hlt
   have hih:i<hs.length:=by rw[hlen.out];exact hlt
   obtain⟨a1,c1,hX1,hc1,hcl1,hq1⟩:=hsa.row i him;have k00:=hc1.out noY wr hE rfl;obtain⟨x,hx⟩:∃x,m[i]=x:=⟨_,rfl⟩;obtain⟨z,hz⟩:∃z,A[i]=z:=⟨_,rfl⟩;rw[hx]at k00 hcl1 hq1;have hxl:Hid (x.length=c):=hid (by rw[<-hx];exact hrl.out _ (List.getElem_mem _));have hzl:Hid (z.length=c):=hid (by rw[<-hz,hAi.out i hiA];simp);have hxz:Hid (x.length=z.length):=hid (by rw[hxl.out,hzl.out]);rw[hxl.out]at k00 hcl1;have hst:Hid ((mix m A i).set i z=mix m A i):=hid (by rw[<-hz];exact b9c hmA.out hiA);have hfin:Hid ((mix m A i).set i x=mix m A (i+1)):=hid (by rw[<-hx];exact a6m hmA.out him);have hmi:Hid (i<(mix m A i).length):=hid (by rw[a2j hmA.out];exact him);have hh1:Hd a1 c:=by have:=hq1.hd;rw[hxl.out]at this;exact this
   have hrow:RV (mk X w1) (.slice a1 c c1) x:=⟨a1,c1,by rw[hxl.out],by rw[hxl.out];exact hcl1,hq1⟩;obtain⟨a,na,cr,hhd⟩:∃a na cr,hs[i]=(a,na,cr):=⟨_,_,_,rfl⟩;have hna:na=c:=by have:=hrl2.out i hih;rw[hhd]at this;exact this
   subst hna;have hhd':=hid hhd;rw[<-hst.out]at hM;have hM':MO X w1.heap.size 24 45 wr ao cap hs ((mix m A i).set i (mix x z 0)):=by rw[a4T];exact hM
   clear hx hz hc1 hq1 hhd hM;obtain⟨wo,hwo⟩:∃wo,wo=wr:=⟨_,rfl⟩;subst hwo;go_wp2_with (with_reducible refine a0t a0r (by omega) (by assumption) ?_)
   go_loopw [22] (fun k wr=>∃(j:Nat),k= .int .i64 j/\j<=na/\MO X w1.heap.size 24 45 wr ao cap hs ((mix m A i).set i (mix x z j))/\Ext w1 wr) (fun k _=>na - (intOf k).toNat)
   case atStart=>exact⟨0,rfl,Nat.zero_le _,hM',hE⟩
   case round=>
    obtain⟨j,rfl,hj,hM,hE⟩:=hrel;by_cases hlj:j<na
    ·have hjx:j<x.length:=by rw[hxl.out];exact hlj
     have hXr:HX X wr:=hX.ext hE;have hXz:=hM.hz hXr;have hsr:Sl QV 3 (mk (mz X ao hs) wr) a1 x:=by
      obtain⟨_,_,heq,_,h3⟩:=hM.old RV.mono hrow hE (Nat.le_refl _) (fun _ _ h=>h);simp only[Value.slice.injEq]at heq;obtain⟨rfl,_,rfl⟩:=heq;exact h3
     have hmx:Hid (i<((mix m A i).set i (mix x z j)).length):=hid (by rw[List.length_set];exact hmi.out);have hjl:Hid ((mix x z j).length=na):=hid (by rw[a2j hxz.out,hxl.out]);have hOr:=hM.row i hih hmx.out;rw[List.getElem_set_self]at hOr;simp only[hhd'.out]at hOr;have hda:Hd a na:=by have:=hOr.hd;rw[hjl.out]at this;exact this
     have hun:Hid (un (cut (mz X ao hs) a) a=mz X ao hs):=hid (a5E fun k hk=>by have:=hM.mz_sub hih k;rw[hhd'.out]at this;exact this hk);have hbsep:Hid (ob a (adr ao i).block=false):=hid (by
      cases hb:ob a (adr ao i).block
      ·rfl
      ·have h1:=(hM.sep i hih (adr ao i).block (by rw[hhd'.out];exact hb)).2
       obtain⟨b0,o0,rfl⟩:=hhO (by omega);simp[ob,adr]at h1)
     have hbnew:Hid (ob a wr.heap.size=false):=hid (hOr.ob_ge (Nat.le_refl _));obtain⟨g,o,hg⟩:∃g o,adr a (j*3)=⟨g,o,none⟩:=⟨_,_,rfl⟩;have i2:∀W,(Instr.indexAt 23 (.slice ao n cap) (.int .i64 (i:Int))).run Tryz.prog W= .ok (.pointer (some (adr ao i))) W:=a0C a0r ao n cap .i64 i hhO (by omega) rfl;have i3:∀W,(Instr.indexAt 24 (.slice a na cr) (.int .i64 (j:Int))).run Tryz.prog W= .ok (.pointer (some ⟨g,o,none⟩)) W:=by rw[<-hg];exact a0h a0D a na cr .i64 j hda (by omega)
     have bx:=Bx.new wr #[.bool false, .slice none 0 0, .slice none 0 0] 45;obtain⟨Z,hZ⟩:∃Z,mz X ao hs=Z:=⟨_,rfl⟩;have hZ':=hid hZ;rw[hZ]at hXz hsr hOr hun;have hjs:Hid ((mix x z j).set j x[j]=mix x z (j+1)):=hid (a6m hxz.out hjx);have hadd0:Hid (x[j]+0=x[j]):=hid (Rat.add_zero _);have hhdr:=(hM.hdr i hih).1;rw[hhd'.out]at hhdr
     dsimp only at hhdr
     clear hZ k00;go_wp2_with (first|(with_reducible refine a2a a0D (by omega) (by assumption) ?_)|((with_reducible show wpList _ _ _ (⟨_, .load _ _,_,_,_,_⟩::_) _ _);refine a0P a0u j hsr hjx rfl (by simp) QV.agg ?_;intro u5 hu5;obtain⟨s5,a5,n5,c5,d5,k5,e5,rfl⟩:=hu5.shape)|((with_reducible show wpList _ _ _ (⟨_, .store _ _ _,_,_,_,_⟩::_) _ _);refine a0c a0u rfl rfl bx rfl rfl (a2g _ _ _ _ _ _ _) ?_;intro w5 r1 r2))
     have hE5:Ext wr w5:=ExtX.box ((ExtX.refl wr).alloc _) r2 (Nat.le_refl _);have hEd:Ext w5 w5.drew:=(ExtX.refl w5).drew;have hM5:=hM.ext0 hE5;have hO5:=hOr.ext0 QC.elem hE5;have hx5:QV (mk Z w5.drew) (.agg #[.bool s5, .slice a5 n5 c5, .slice d5 k5 e5]) x[j]:=mkx QV.mono hu5 (hE5.trans hEd);have h00:QV (mk Z w5.drew) (.agg #[.bool false, .slice none 0 0, .slice none 0 0]) 0:=(QC.zero _).qv (by rw[a0Y];decide);have hXd:HX Z w5.drew:=hXz.ext (hE5.trans hEd);have hS:Hid (∀Y W',ExtX Y w5.drew W'->Y (adr ao i).block=false->Y wr.heap.size=false->W'.cell? (adr ao i)=some (.slice a na cr)/\W'.cell? ⟨wr.heap.size,0,none⟩=some (.bool s5)/\W'.cell? ⟨wr.heap.size,1,none⟩=some (.slice a5 n5 c5)/\W'.cell? ⟨wr.heap.size,2,none⟩=some (.slice d5 k5 e5)):=hid fun Y W' h hy1 hy2=>by
      have b1:=(r1.ext0 hEd).ext h hy2;exact⟨h.cellY ((hE5.trans hEd).cell hhdr) hy1,b1.cell 0 rfl,b1.cell 1 rfl,b1.cell 2 rfl⟩
     obtain⟨k20,k30,k31,k32⟩:=hS.out noY w5.drew (ExtX.refl _) rfl rfl;obtain⟨bw,hbw⟩:∃bw,wr.heap.size=bw:=⟨_,rfl⟩;rw[hbw]at hS k30 k31 k32 hbnew |-;clear hhdr r1 bx;go_wp2_with fail
     go_region_held3 (fun w'=>w'.cell? (adr ao i)=some (.slice a na cr)/\w'.cell? ⟨bw,0,none⟩=some (.bool s5)/\w'.cell? ⟨bw,1,none⟩=some (.slice a5 n5 c5)/\w'.cell? ⟨bw,2,none⟩=some (.slice d5 k5 e5))
      (first|exact hS.out noY _ t1 rfl rfl|exact hS.out (ob a) _ ((ExtX.of t1).trans hset.2) hbsep.out hbnew.out|go_keep)
      ((go_at_call 101;(with_reducible refine(b5L Z w5.drew _ _ _ 0 hXd hx5 h00).mono ?_);rintro ee w6 ⟨t1,u6,rfl,hu6⟩;obtain⟨s6,a6,n6,c6,d6,k6,e6,rfl⟩:=hu6.shape;rw[hadd0.out]at hu6;have hO6:=hO5.ext0 QC.elem (hEd.trans t1);obtain⟨_,v0,v1,v2,_,⟨g0,f0⟩,⟨g1,f1⟩,⟨g2,f2⟩,_⟩:=hO6.cell3 j (by rw[hjl.out];exact hlj) hg;have hset:=hO6.set3 a6E QC.elem j (by rw[hjl.out];exact hlj) hg (v0:= .bool s6) (v1:= .slice a6 n6 c6) (v2:= .slice d6 k6 e6) (x:=x[j]) (by rw[hun.out];exact hu6)))
     obtain⟨q1,q2⟩:=hset;rw[hjs.out]at q1;have q2':ExtX (ob hs[i].1) w6 (((w6.setCell ⟨g,o,none⟩ (.bool s6)).setCell ⟨g,o+1,none⟩ (.slice a6 n6 c6)).setCell ⟨g,o+2,none⟩ (.slice d6 k6 e6)):=by rw[hhd'.out];exact q2
     have hM6:=hM5.ext0 (hEd.trans t1);have hM7:=hM6.upd hih (l:=mix x z (j+1)) q2' (fun hi'=>by rw[List.getElem_set_self,a2j hxz.out,a2j hxz.out]) (by rw[hZ'.out,hhd'.out];exact q1);rw[List.set_set]at hM7;have hE7:=hM6.ext_from ((hE.trans hE5).trans (hEd.trans t1)) (Nat.le_refl _) (ExtX.row hih q2');clear k20 k30 k31 k32 g0 g1 g2 f0 f1 f2 i2 i3;go_wp2_with fail
     go_roundw
     case rel=>exact⟨j+1,by go_num,by omega,hM7,hE7⟩
     case measure=>simp[intOf];omega
    ·have hjn:j=na:=by omega
     subst hjn;rw[a4U (a:=x) (b:=z) (by rw[hxl.out];exact Nat.le_refl _) (by rw[hzl.out];exact Nat.le_refl _),hfin.out]at hM;go_wp2_with fail
     go_roundw
     case rel=>exact⟨i+1,by go_num,by omega,hM,hE⟩
     case measure=>simp[intOf];omega
  ·have hin:i=n:=by omega
   subst hin;rw[a4U (by rw[hml.out];exact Nat.le_refl _) (by rw[hAl.out];exact Nat.le_refl _)]at hM;go_wp2_with fail
   go_ret
   exact⟨hE,ao,cap,hs,by rw[hml.out];rfl,hM⟩
end Go.Proofs.YtidbbddagfnfbaaGreat
namespace Go.Rep
open Go.RowKit Go.Lim
section
variable {P:Program} {ops:Array Oper} {Q:Exit->Act->World->Prop} {rest:List Oper} {a:Act} {w:World}
variable {α:Type} {R:Mem->Value->α->Prop} {sz:Nat} {X:Nat->Bool} {base:Nat} {e:TypeId} {ao:Option Addr} {cap:Nat} {l:List α}
variable {d:Option Tmp} {ty:TypeId} {ps:String} {af:Array Edge}
theorem a4V {t:TypeId} {x:Operand} {k:Nat} (hT:a1A P t sz) (i:Nat) (h:OL R sz X base e w ao cap l) (hi:i<l.length) (hx:a.eval x= .pointer (some (adr ao k))) (hk:k=i*sz) (hag:∀h u y,R h u y->∃cs,u= .agg cs)
  (K:∀u,R (mk (un X ao) w) u l[i]->wpList P ops Q rest (a.put d u) w):
  wpList P ops Q (⟨d, .load t x,ty,ps,af,none⟩::rest) a w:=by
 refine wpList_plain rfl fun K' hK'=>?_;subst hk;obtain⟨fs,ti,h1,h2,h3⟩:=hT;obtain⟨us,p1,p2,_,p3,p5⟩:=h.cells;have hi':i<us.length:=by omega
 have h6:=p5 i hi' hi;obtain⟨cs,hcs⟩:=hag _ _ _ h6;have hsz:cs.toList.length=sz:=by have:=p2 us[i] (List.getElem_mem _);rw[hcs]at this;simpa[Value.cells]using this
 have hl:=run_loadCells_list (P:=P) w (adr ao (i*sz)) cs.toList (fun j v hj=>by
  rw[a8N];have hj1:j<sz:=by rw[<-hsz];exact(List.getElem?_eq_some_iff.1 hj).1
  have hget:=a3i us i j hi' p2 hj1;rw[hcs]at hget;have hj2:(a0j (.agg cs))[j]? =some v:=by simpa[a0j,Value.cells]using hj
  rw[hj2]at hget;exact(p3 _ _ hget).1)
 rw[hsz]at hl;unfold Oper.wp;simp[execOp,hx,Instr.loadAt,Instr.sureAddr,loadVar,isAgg,run_underlying h1,sizeOf,typeInfo,h2,h3,hl,Result.andThen];rw[hcs]at h6;exact hK' _ _ (K _ h6)
end
theorem OL.rat {R:Mem->Value->Rat->Prop} (hR:a9O R) {X:Nat->Bool} {base:Nat} {e:TypeId} {w:World} {ao:Option Addr} {cap:Nat} {l:List Rat} (h:OL R 3 X base e w ao cap l) (i:Nat) (hi:i<l.length):
  ∃g o sg a n c d k e,adr ao (i*3)=⟨g,o,none⟩/\ob ao g=true/\Hid (∀Y W',ExtX Y w W'->Y g=false->W'.cell? ⟨g,o,none⟩=some (.bool sg)/\W'.cell? ⟨g,o+1,none⟩=some (.slice a n c)/\W'.cell? ⟨g,o+2,none⟩=some (.slice d k e))/\R (mk (un X ao) w) (.agg #[.bool sg, .slice a n c, .slice d k e]) l[i]:=by
 obtain⟨b0,o0,hb0⟩:=h.hd (by omega);have hg:adr ao (i*3)=⟨b0,o0+i*3,none⟩:=by rw[hb0];rfl
 obtain⟨u,v0,v1,v2,hu,⟨h0,_⟩,⟨h1,_⟩,⟨h2,_⟩,h3⟩:=h.cell3 i hi hg;obtain⟨sg,a,n,c,d,k,e,rfl⟩:=hR _ _ _ h3;simp only[a0j,Value.cells,List.cons.injEq,and_true]at hu;obtain⟨rfl,rfl,rfl⟩:=hu;exact⟨_,_,sg,a,n,c,d,k,e,hg,by rw[hb0];simp[ob],hid fun Y W' hE hY=>⟨hE.cellY h0 hY,hE.cellY h1 hY,hE.cellY h2 hY⟩,h3⟩
end Go.Rep
namespace Go.Proofs.YtidbbddagfnfbaaGreat
open Go.RowKit Go.Rep Go.Lim Go.Lin
def b7o (X:Nat->Bool) (w:World) (m:List (List Rat)) (e:Ending) (w':World):Prop:=Ext w w'/\∃u,e= .returned (.tuple #[u, .int .i64 0])/\MC (mk X w') u m
theorem a5F (X:Nat->Bool) (w:World) (u:Value) (m:List (List Rat)) (hu:MV (mk X w) u m) (hl:m.length<=1099511627776) (hf:a0G m=false):Calls Tryz.prog 256 #[u] w (fun e w'=>w'=w/\e= .returned (.tuple #[.slice none 0 0, .int .i64 6])):=by
 have hfo:=a3Y X w u m hu hl;rw[hf]at hfo;clear hf;go_enter Tryz.func256,Tryz.ntmps256
 go_wp2_with fail
 refine hfo.mono ?_;rintro e w1 ⟨rfl,rfl⟩;go_wp2_with fail
 go_ret2
 exact⟨rfl,rfl⟩
set_option maxRecDepth 100000 in
set_option maxHeartbeats 1600000 in
theorem a5G (X:Nat->Bool) (w:World) (u:Value) (m:List (List Rat)) (n c:Nat) (hX:HX X w) (hu:MV (mk X w) u m) (hf:a0G m=true) (hnn:m.length=n) (hcc:a0B m=c):Calls Tryz.prog 256 #[u] w (b7o X w (trL m n c)):=by
 obtain⟨hsh,h96,hc96,_,_⟩:=a0Q hf;rw[hnn,hcc]at hsh;rw[hnn]at h96;rw[hcc]at hc96;have hfo:=a3Y X w u m hu (by omega);rw[hf]at hfo;have hcol:=a3p X w u m hu;rw[hcc]at hcol;have hsh':=hid hsh;have hnn':=hid hnn;have hcc':=hid hcc;obtain⟨ua,uca,rfl,huca,hua⟩:=hu;have hu:MV (mk X w) (.slice ua m.length uca) m:=⟨ua,uca,rfl,huca,hua⟩;rw[hnn]at hfo hcol hu |-;clear hf hnn hcc hsh huca hua;go_enter Tryz.func256,Tryz.ntmps256
 go_wp2_with fail
 refine hfo.mono ?_;rintro e w1 ⟨rfl,rfl⟩;go_wp2_with fail
 refine hcol.mono ?_;rintro e w2 ⟨rfl,rfl⟩;go_wp2_with fail
 refine(a7C X w2 c n hX (by omega) (by omega)).mono ?_;rintro e w3 ⟨hE3,ao,cap,hs,rfl,hM3⟩;rw[List.length_replicate];have hlen:Hid (hs.length=c):=hid (by rw[hM3.len];simp);have hhO:Hd ao c:=by have:=hM3.outer.hd;rw[hlen.out]at this;exact this
 have hX3:=hX.ext hE3;have hZ3:=hM3.hz hX3;have hu3:=hM3.old MV.mono hu hE3 (Nat.le_refl _) (fun _ _ h=>h);rw[<-b4r m n c]at hM3;have hco:=a5o (mz X ao hs) w3 _ m n c hZ3 hu3 hsh'.out hcc'.out (by omega) (by omega);clear hfo hcol hu hu3;go_wp2_with fail
 refine hco.mono ?_;rintro e w4 ⟨hE4,bo,capb,hs4,rfl,hM4⟩;have hmc4:=hM4.mc;rw[hnn'.out]at hmc4 |-;have hM34:=hM3.ext0 hE4;have hE04:=hE3.trans hE4;obtain⟨ba,bca,heq,hbca,hsb⟩:=hmc4;simp only[Value.slice.injEq]at heq;obtain⟨rfl,hx9,rfl⟩:=heq;clear hx9;have hhb:=hsb.hd;rw[hnn'.out]at hhb;obtain⟨Z,hZe⟩:∃Z,mz X ao hs=Z:=⟨_,rfl⟩;have hZ':=hid hZe;rw[hZe]at hsb hZ3;clear hco hM3 hM4 hZe;go_wp2_with fail
 go_loopw [20] (fun k wr=>∃(i:Nat),k= .int .i64 i/\i<=n/\MO X w2.heap.size 24 45 wr ao cap hs (trN m n c i 0)/\Sl RC 1 (mk Z wr) bo m/\Ext w2 wr) (fun k _=>n - (intOf k).toNat)
 case atStart=>exact⟨0,rfl,Nat.zero_le _,hM34,hsb,hE04⟩
 case round=>
  obtain⟨i,rfl,hi,hM,hsb,hE⟩:=hrel;by_cases hlt:i<n
  ·have him:i<m.length:=by rw[hnn'.out];exact hlt
   obtain⟨a1,c1,hX1,hc1,hcl1,hq1⟩:=hsb.row i him;have k00:=hc1.out noY wr (ExtX.refl _) rfl;have hxl:Hid (m[i].length=c):=hid (hsh'.out.2 _ (List.getElem_mem _));have hei:Hid (∀j (hj:j<m[i].length),m[i][j]=ent m i j):=hid fun j hj=>by
    unfold ent;rw[show m.getD i []=m[i]by simp[List.getD_eq_getElem?_getD,him],List.getD_eq_getElem?_getD,List.getElem?_eq_getElem hj];rfl
   obtain⟨x,hx⟩:∃x,m[i]=x:=⟨_,rfl⟩;rw[hx]at k00 hcl1 hq1 hxl hei;rw[hxl.out]at k00 hcl1;have hh1:Hd a1 c:=by have:=hq1.hd;rw[hxl.out]at this;exact this
   clear hc1 hx;obtain⟨wo,hwo⟩:∃wo,wo=wr:=⟨_,rfl⟩;subst hwo;go_wp2_with (with_reducible refine a0t a0r (by omega) (by assumption) ?_)
   go_loopw [27] (fun k wr=>∃(j:Nat),k= .int .i64 j/\j<=c/\MO X w2.heap.size 24 45 wr ao cap hs (trN m n c i j)/\Sl QC 3 (mk Z wr) a1 x/\Sl RC 1 (mk Z wr) bo m/\Ext w2 wr) (fun k _=>c - (intOf k).toNat)
   case atStart=>exact⟨0,rfl,Nat.zero_le _,hM,hq1,hsb,hE⟩
   case round=>
    obtain⟨j,rfl,hj,hM,hq1,hsb,hE⟩:=hrel;by_cases hlj:j<c
    ·have hjx:j<x.length:=by rw[hxl.out];exact hlj
     have hjh:j<hs.length:=by rw[hlen.out];exact hlj
     have hjt:j<(trN m n c i j).length:=by rw[b7h];exact hlj
     obtain⟨a,na,cr,hhd⟩:∃a na cr,hs[j]=(a,na,cr):=⟨_,_,_,rfl⟩;have hna:na=n:=by
      have:=hM.rlen j hjh hjt;rw[hhd,a7z]at this;exact this
     subst hna;have hR:=hM.row j hjh hjt;simp only[hhd]at hR;have hz1:=fun k (hk:ob a k=true)=>hM.mz_sub hjh k (by rw[hhd];exact hk);have hsp:=fun k (hk:ob a k=true)=>hM.sep j hjh k (by rw[hhd];exact hk);have hun:Hid (un (cut (mz X ao hs) a) a=mz X ao hs):=hid (a5E hz1);have hil:i<((trN m na c i j)[j]).length:=by rw[a7z];exact hlt
     have hda:Hd a na:=by have:=hR.hd;rw[a7z]at this;exact this
     have hvj:=hid (hei.out j hjx);have hset9:=hid (b7i (m:=m) (n:=na) (c:=c) (i:=i) (j:=j) hjt);obtain⟨v,hv⟩:∃v,ent m i j=v:=⟨_,rfl⟩;rw[hv]at hvj hset9;have y1:wr.cell? (adr ao j)=some (.slice a na cr):=by
      have:=(hM.hdr j hjh).1;rw[hhd]at this;exact this
     have haob:Hid (ob a (adr ao j).block=false):=hid (by
      cases hb:ob a (adr ao j).block
      ·rfl
      ·have h1:=(hsp _ hb).2
       obtain⟨b0,o0,rfl⟩:=hhO (by omega);simp[ob,adr]at h1)
     have i1:∀W,(Instr.indexAt 23 (.slice ao c cap) (.int .i64 (j:Int))).run Tryz.prog W= .ok (.pointer (some (adr ao j))) W:=a0C a0r ao c cap .i64 j hhO (by omega) rfl;have bx:=Bx.new wr #[.bool false, .slice none 0 0, .slice none 0 0] 45;have hhd':=hid hhd;clear hhd hv k00;go_wp2_with (first|(with_reducible refine a2a a0D (by omega) (by assumption) ?_)|((with_reducible show wpList _ _ _ (⟨_, .load 45 _,_,_,_,_⟩::_) _ _);refine a0P a0u j hq1 hjx rfl (by simp) QC.agg ?_;intro u5 hu5;rw[hvj.out]at hu5;obtain⟨s5,a5,n5,c5,d5,k5,e5,rfl⟩:=hu5.shape)|((with_reducible show wpList _ _ _ (⟨_, .store _ _ _,_,_,_,_⟩::_) _ _);refine a0c a0u rfl rfl bx rfl rfl (a2g _ _ _ _ _ _ _) ?_;intro w5 r1 r2))
     have hE5:Ext wr w5:=ExtX.box ((ExtX.refl wr).alloc _) r2 (Nat.le_refl _);obtain⟨g,o,hg⟩:∃g o,adr a (i*3)=⟨g,o,none⟩:=⟨_,_,rfl⟩;have i2:∀W,(Instr.indexAt 24 (.slice a na cr) (.int .i64 (i:Int))).run Tryz.prog W= .ok (.pointer (some ⟨g,o,none⟩)) W:=by rw[<-hg];exact a0h a0D a na cr .i64 i hda (by omega)
     have hM5:=hM.ext0 hE5;have hR5:=hR.ext0 QC.elem hE5;have hu5':=mkx QC.mono hu5 hE5;have z1:=hE5.cell y1;have k30:=r1.cell 0 rfl;have k31:=r1.cell 1 rfl;have k32:=r1.cell 2 rfl;obtain⟨_,v0,v1,v2,_,⟨g0,f0⟩,⟨g1,f1⟩,⟨g2,f2⟩,_⟩:=hR5.cell3 i hil hg;have hset:=hR5.set3 a6E QC.elem i hil hg (v0:= .bool s5) (v1:= .slice a5 n5 c5) (v2:= .slice d5 k5 e5) (x:=v) (by rw[hun.out,hZ'.out];exact hu5');clear y1 bx r1;go_wp2_with fail
     go_region
     all_goals
      obtain⟨q1,q2⟩:=hset;have q2d:=q2.drew;have q1d:=q1.ext0 QC.elem ((ExtX.refl (Y:=noY) _).drew);obtain⟨w8,hw8⟩:∃w8,(((w5.setCell ⟨g,o,none⟩ (.bool s5)).setCell ⟨g,o+1,none⟩ (.slice a5 n5 c5)).setCell ⟨g,o+2,none⟩ (.slice d5 k5 e5)).drew=w8:=⟨_,rfl⟩;rw[hw8]at q1d q2d |-;have q2':ExtX (ob hs[j].1) w5 w8:=by rw[hhd'.out];exact q2d
      have hM7:=hM5.upd hjh q2' (fun hi'=>List.length_set) (by rw[hhd'.out];exact q1d);rw[hset9.out]at hM7;have hzz:∀k,ob a k=true->Z k=true:=fun k hk=>by rw[<-hZ'.out];exact hz1 k hk
      have hq8:=(hq1.mono QC.mono (a0p hE5)).mono QC.mono (a0x q2d hzz);have hs8:=(hsb.mono RC.mono (a0p hE5)).mono RC.mono (a0x q2d hzz);have hE8:=hM5.ext_from (hE.trans hE5) (Nat.le_refl _) (ExtX.row hjh q2');clear z1 k30 k31 k32 g0 g1 g2 f0 f1 f2 i1 i2 hw8 q1 q2;go_wp2_with fail
      go_roundw
      case rel=>exact⟨j+1,by go_num,by omega,hM7,hq8,hs8,hE8⟩
      case measure=>simp[intOf];omega
    ·have hjc:j=c:=by omega
     subst hjc;rw[b4s]at hM;go_wp2_with fail
     go_roundw
     case rel=>exact⟨i+1,by go_num,by omega,hM,hsb,hE⟩
     case measure=>simp[intOf];omega
  ·have hin:i=n:=by omega
   subst hin;rw[b4t]at hM;have hmc:=hM.mc;go_wp2_with fail
   go_ret2
   exact⟨hE,_,rfl,by rw[(a1R m i c).1]at hmc;exact hmc⟩
end Go.Proofs.YtidbbddagfnfbaaGreat
namespace Go.Lin
open Go.Lim
theorem b7p {n c:Nat} {m:Mat} (h:Shp n c m) (hn:1<=n):a0B m=c:=by
 rw[a1S (by rw[h.1];exact hn)];exact h.2 _ (List.getElem_mem _)
theorem b8n {n c:Nat} {m:Mat} (h:Shp n c m) (hn:n<=96) (hc:1<=c) (hc2:c<=96):a0G m=true:=by
 refine a1G.2 ⟨by rw[h.1];exact hn,fun i hi=>?_⟩;have h1:=h.2 _ (List.getElem_mem hi);refine⟨by omega,by omega,?_⟩;rw[h1,b7p h (by have:=h.1;omega)]
theorem a8q {B:Nat} {m:Mat} (h:Go.Rep.BM B m) (hB:1<=B):HB B m:=fun i j=>by
 unfold ent;by_cases hi:i<m.length
 ·have e:m.getD i []=m[i]:=by simp[List.getD_eq_getElem?_getD,hi]
  rw[e];by_cases hj:j<(m[i]).length
  ·have:=h m[i] (List.getElem_mem _) (m[i])[j] (List.getElem_mem _)
   simpa[List.getD_eq_getElem?_getD,hj]using this
  ·rw[List.getD_eq_getElem?_getD,List.getElem?_eq_none (by omega)]
   show hq 0<=B
   rw[a0Y];exact hB
 ·rw[List.getD_eq_getElem?_getD (l:=m),List.getElem?_eq_none (by omega)]
  show hq 0<=B
  rw[a0Y];exact hB
theorem a7D {B:Nat} {m:Mat} (h:HB B m):Go.Rep.BM B m:=fun r hr q hq=>by
 obtain⟨i,hi,rfl⟩:=List.getElem_of_mem hr;obtain⟨j,hj,rfl⟩:=List.getElem_of_mem hq;have:=h i j;simpa[ent,List.getD_eq_getElem?_getD,hi,hj]using this
theorem a5H {m:Mat} {v:List Rat} {i:Nat} (hi:i<m.length) (h:i<(a2Z m v).length):(a2Z m v)[i]=a2d m[i] v:=by simp[a2Z]
theorem a8r {a b:Mat} {n c i:Nat} (hi:i<a.length) (h:i<(a9X a b n c).length):(a9X a b n c)[i]=a2Z (trL b n c) a[i]:=by simp[a9X]
theorem b4y (a b:Mat) (n c:Nat):(a9X a b n c).length=a.length:=by simp[a9X]
theorem b2l {B:Nat} {x:List Rat} (hx:Go.Rep.BR B x) (hB:1<=B) (q:Nat):hq (x.getD q 0)<=B:=by
 by_cases h:q<x.length
 ·rw[List.getD_eq_getElem?_getD,List.getElem?_eq_getElem h];exact hx _ (List.getElem_mem h)
 ·rw[List.getD_eq_getElem?_getD,List.getElem?_eq_none (by omega)]
  show hq 0<=B
  rw[a0Y];exact hB
theorem a1Y {B:Nat} {l m:List Rat} (hl:Go.Rep.BR B l) (hm:Go.Rep.BR B m) (hB:1<=B) (hn:l.length<=96) (hBB:200*B<=68000000000):(∀k,k<=l.length->hq (a3L l m k)<=68719476736)/\∀k,k<l.length->hq (l.getD k 0*m.getD k 0)<=68719476736:=by
 refine⟨fun k hk=>?_,fun k hk=>?_⟩
 ·have h1:=b7g hl hm hB k
  have h2:k*(2*B+1)<=96*(2*B+1):=Nat.mul_le_mul_right _ (by omega);omega
 ·have h1:=hq_mul (l.getD k 0) (m.getD k 0)
  have h2:=b2l hl hB k;have h3:=b2l hm hB k;omega
end Go.Lin
namespace Go.Proofs.YtidbbddagfnfbaaGreat
open Go.RowKit Go.Rep Go.Lim Go.Lin
def c0g (X:Nat->Bool) (w:World) (l:List Rat) (e:Ending) (w':World):Prop:=Ext w w'/\∃u,e= .returned (.tuple #[u, .int .i64 0])/\RC (mk X w') u l
end Go.Proofs.YtidbbddagfnfbaaGreat
namespace Go.Lin
open Go.Lim
end Go.Lin
namespace Go.Proofs.YtidbbddagfnfbaaGreat
open Go.RowKit Go.Rep Go.Lim Go.Lin
def c0Z (Z:Nat->Bool) (base:Nat) (e:TypeId) (w:World) (a:Option Addr) (cap:Nat) (l:List Rat) (ee:Ending) (w':World):Prop:=ee= .returned (.tuple #[])/\ExtX (ob a) w w'/\OL QC 3 (cut Z a) base e w' a cap l
set_option maxRecDepth 100000 in
set_option maxHeartbeats 1600000 in
theorem a4W (Z:Nat->Bool) (base:Nat) (w:World) (a1 a2:Option Addr) (c1 c2 n col:Nat) (row piv:List Rat) (hX:HX Z w) (h1:OL QC 3 (cut Z a1) base 45 w a1 c1 row) (h2:OL QC 3 (cut Z a2) base 45 w a2 c2 piv)
  (hz1:∀k,ob a1 k=true->Z k=true) (hz2:∀k,ob a2 k=true->Z k=true) (hdis:∀k,ob a1 k=true->ob a2 k=false) (hl1:row.length=n) (hl2:piv.length=n) (hn:n<=1000) (hcol:col<n)
  (hb1:BR 68719476736 row) (hb2:BR 68719476736 piv) (hb3:hq (row.getD col 0/piv.getD col 0)<=68719476736) (hb4:∀x∈piv,hq (row.getD col 0/piv.getD col 0*x)<=68719476736):
  Calls Tryz.prog 303 #[.slice a1 n c1, .slice a2 n c2, .int .i64 (col:Int)] w (c0Z Z base 45 w a1 c1 (a2X row piv col)):=by
 have hu1:=hid (a5E hz1);have hu2:=hid (a5E hz2);have hdis2:∀k,ob a2 k=true->ob a1 k=false:=fun k hk=>by
  cases hb:ob a1 k
  ·rfl
  ·rw[hdis k hb]at hk;simp at hk
 have hd1:Hd a1 n:=by have:=h1.hd;rw[hl1]at this;exact this
 have hd2:Hd a2 n:=by have:=h2.hd;rw[hl2]at this;exact this
 have hc1r:col<row.length:=by omega
 have hc2r:col<piv.length:=by omega
 have g1:Hid (row.getD col 0=row[col]):=hid (by simp[List.getD_eq_getElem?_getD,hc1r]);have g2:Hid (piv.getD col 0=piv[col]):=hid (by simp[List.getD_eq_getElem?_getD,hc2r]);obtain⟨E,hE⟩:∃E,a2X row piv col=E:=⟨_,rfl⟩;have hEl:Hid (E.length=n):=hid (by rw[<-hE,a3J _ _ _ (by omega)];exact hl2);have hEi:Hid (∀j (hj:j<row.length) (hj2:j<piv.length) (hj3:j<E.length),E[j]=row[j] - (row.getD col 0/piv.getD col 0)*piv[j]):=hid fun j hj hj2 hj3=>by subst hE;simp[a2X]
 have hE0:Hid (row.getD col 0/piv.getD col 0=0->E=row):=hid fun h=>by rw[<-hE];exact b0E _ _ _ (by omega) h
 have hrE:Hid (E.length=row.length):=hid (by rw[hEl.out,hl1]);have hl1':=hid hl1;have hl2':=hid hl2;have hb1':=hid hb1;have hb2':=hid hb2;obtain⟨f,hf⟩:∃f,row.getD col 0/piv.getD col 0=f:=⟨_,rfl⟩;rw[hf]at hb3 hE0 hEi hb4;have hb3':=hid hb3;have hb4':=hid hb4;have hff:Hid (row[col]/piv[col]=f):=hid (by rw[<-g1.out,<-g2.out];exact hf);rw[hE];obtain⟨gg1,oo1,s1,p1,n1,q1,d1,k1,e1,hg1,hog1,hcc1,hr1⟩:=h1.rat QC.shaped col hc1r;obtain⟨gg2,oo2,s2,p2,n2,q2,d2,k2,e2,hg2,hog2,hcc2,hr2⟩:=h2.rat QC.shaped col hc2r;rw[hu1.out]at hr1;rw[hu2.out]at hr2;have i1:∀W,(Instr.indexAt 24 (.slice a1 n c1) (.int .i64 (col:Int))).run Tryz.prog W= .ok (.pointer (some ⟨gg1,oo1,none⟩)) W:=by rw[<-hg1];exact a0h a0D a1 n c1 .i64 col hd1 hcol
 have i2:∀W,(Instr.indexAt 24 (.slice a2 n c2) (.int .i64 (col:Int))).run Tryz.prog W= .ok (.pointer (some ⟨gg2,oo2,none⟩)) W:=by rw[<-hg2];exact a0h a0D a2 n c2 .i64 col hd2 hcol
 have hEd:Ext w w.drew:=(ExtX.refl w).drew;have hS:Hid (∀Y W',ExtX Y w.drew W'->Y gg1=false->Y gg2=false->W'.cell? ⟨gg1,oo1,none⟩=some (.bool s1)/\W'.cell? ⟨gg1,oo1+1,none⟩=some (.slice p1 n1 q1)/\W'.cell? ⟨gg1,oo1+2,none⟩=some (.slice d1 k1 e1)/\W'.cell? ⟨gg2,oo2,none⟩=some (.bool s2)/\W'.cell? ⟨gg2,oo2+1,none⟩=some (.slice p2 n2 q2)/\W'.cell? ⟨gg2,oo2+2,none⟩=some (.slice d2 k2 e2)):=hid fun Y W' h hy1 hy2=>by
  have z1:=hcc1.out Y W' ((ExtX.of hEd).trans h) hy1;have z2:=hcc2.out Y W' ((ExtX.of hEd).trans h) hy2;exact⟨z1.1,z1.2.1,z1.2.2,z2.1,z2.2.1,z2.2.2⟩
 obtain⟨k00,k01,k02,k10,k11,k12⟩:=hS.out noY w.drew (ExtX.refl _) rfl rfl;have hlt1:gg1<w.heap.size:=a2h k00;have hlt2:gg2<w.heap.size:=a2h k10;have hXd:HX Z w.drew:=hX;have hx1:QV (mk Z w.drew) (.agg #[.bool s1, .slice p1 n1 q1, .slice d1 k1 e1]) row[col]:=hr1.qv (hb1'.out _ (List.getElem_mem _));have hx2:QV (mk Z w.drew) (.agg #[.bool s2, .slice p2 n2 q2, .slice d2 k2 e2]) piv[col]:=hr2.qv (hb2'.out _ (List.getElem_mem _));obtain⟨ec,hec⟩:∃ec,e5 (decide (piv[col]=0))=ec:=⟨_,rfl⟩;have qd:=c0a Z w.drew _ _ _ _ hXd hx1 hx2;rw[hec,hff.out]at qd;have hEA:Ext w.drew (w.alloc (.cells #[.bool false, .slice none 0 0, .slice none 0 0] 45)).drew:=⟨rfl,rfl,rfl,((ExtX.refl (Y:=noY) w).alloc _).size,((ExtX.refl (Y:=noY) w).alloc _).block⟩;have bA:Bx (w.alloc (.cells #[.bool false, .slice none 0 0, .slice none 0 0] 45)).drew w.heap.size #[.bool false, .slice none 0 0, .slice none 0 0] 45:=Bx.new w _ _;have hEA2:Ext w (w.alloc (.cells #[.bool false, .slice none 0 0, .slice none 0 0] 45)).drew:=hEd.trans hEA;have hXA:HX (un Z (some ⟨w.heap.size,0,none⟩)) (w.alloc (.cells #[.bool false, .slice none 0 0, .slice none 0 0] 45)).drew:=fun k hk=>by
  have h9:(w.alloc (.cells #[.bool false, .slice none 0 0, .slice none 0 0] 45)).drew.heap.size=w.heap.size+1:=by show(w.alloc _).heap.size=_;simp
  rw[h9];by_cases hz:Z k=true
  ·have:=hX k hz;omega
  ·have:w.heap.size=k:=by simpa[un,hz,ob]using hk
   omega
 have hnewb:∀j,j<w.heap.size->ob (some ⟨w.heap.size,0,none⟩) j=false:=fun j hj=>a0b (by omega);have qdA:=c0a (un Z (some ⟨w.heap.size,0,none⟩)) (w.alloc (.cells #[.bool false, .slice none 0 0, .slice none 0 0] 45)).drew _ _ _ _ hXA (a6b (w:=w) QV.mono hx1 hEA2 hnewb) (a6b (w:=w) QV.mono hx2 hEA2 hnewb);rw[hec,hff.out]at qdA;clear hg1 hg2 hcc1 hcc2 hr1 hr2 hf hE hl1 hl2 hb1 hb2 hb3 hb4 hec;go_enter Tryz.func303,Tryz.ntmps303
 go_upto_region 0 with(fail)
 go_cut [6,7]from 10 to 21 (fun b6 _ wx=>∃bf s a n' c d k e,b6= .pointer (some ⟨bf,0,none⟩)/\Bx wx bf #[.bool s, .slice a n' c, .slice d k e] 45/\w.heap.size<=bf/\QC (mk Z wx) (.agg #[.bool s, .slice a n' c, .slice d k e]) f/\Ext w wx)
 case first=>
  go_region_held3 (fun w'=>w'.cell? ⟨gg1,oo1,none⟩=some (.bool s1)/\w'.cell? ⟨gg1,oo1+1,none⟩=some (.slice p1 n1 q1)/\w'.cell? ⟨gg1,oo1+2,none⟩=some (.slice d1 k1 e1)/\w'.cell? ⟨gg2,oo2,none⟩=some (.bool s2)/\w'.cell? ⟨gg2,oo2+1,none⟩=some (.slice p2 n2 q2)/\w'.cell? ⟨gg2,oo2+2,none⟩=some (.slice d2 k2 e2))
   (first|exact hS.out noY _ t1 rfl rfl|exact hS.out noY _ (ExtX.alloc t1 _) rfl rfl|exact hS.out noY _ hEA rfl rfl|exact hS.out noY _ (hEA.trans t2) rfl rfl|exact hS.out (ob (some ⟨w.heap.size,0,none⟩)) _ ((ExtX.of (hEA.trans t2)).trans hst.2) (a0b (by omega)) (a0b (by omega))|exact hS.out (ob (some ⟨w6.heap.size,0,none⟩)) _ ((ExtX.of (t1.alloc _)).trans hst.2) (a0b (by have:=t1.size;have h9:w.drew.heap.size=w.heap.size:=rfl;omega)) (a0b (by have:=t1.size;have h9:w.drew.heap.size=w.heap.size:=rfl;omega))|go_keep)
   (first|(go_at_call 208;(with_reducible refine qd.mono ?_);rintro ee w6 ⟨t1,u6,rfl,hu6⟩;obtain⟨s6,a6,n6,c6,d6,k6,e6,rfl⟩:=hu6.shape;have hst:=(Bx.new w6 #[.bool false, .slice none 0 0, .slice none 0 0] 45).set3 (.bool s6) (.slice a6 n6 c6) (.slice d6 k6 e6))|(go_at_call 208;(with_reducible refine qdA.mono ?_);rintro ee w6 ⟨t2,u6,rfl,hu6⟩;obtain⟨s6,a6,n6,c6,d6,k6,e6,rfl⟩:=hu6.shape;have bb:=bA.ext0 t2;have y0:=bb.cell 0 rfl;have y1:=bb.cell 1 rfl;have y2:=bb.cell 2 rfl;have z0:=bb.frozen 0;have z1:=bb.frozen 1;have z2:=bb.frozen 2;have hst:=bb.set3 (.bool s6) (.slice a6 n6 c6) (.slice d6 k6 e6)))
  ·clear k00 k01 k02 k10 k11 k12
   go_wp2_with fail
   go_meet
   case rel=>exact⟨w6.heap.size,_,_,_,_,_,_,_,rfl,Bx.new w6 _ _,(hEd.trans t1).size,QC.mono _ _ _ _ (a0p ((ExtX.refl w6).alloc _)) hu6,(hEd.trans t1).alloc _⟩
  ·have hq7:=QC.mono _ _ _ _ (a1E (X:=Z) fun k _ hk=>a0k hk) (QC.mono _ _ _ _ (a0x hst.2 fun k hk=>a0q hk) hu6)
   have hE7:Ext w _:=ExtX.box (hEA2.trans t2) hst.2 (Nat.le_refl _);clear k00 k01 k02 k10 k11 k12 y0 y1 y2 z0 z1 z2;go_wp2_with fail
   go_meet
   case rel=>exact⟨w.heap.size,_,_,_,_,_,_,_,rfl,hst.1,Nat.le_refl _,hq7,hE7⟩
 case rest=>
  obtain⟨bf,sf,af,nf,cf,df,kf,ef,rfl,b6,hbf,hqf,hEw⟩:=hcut;clear k00 k01 k02 k10 k11 k12 i1 i2 qd qdA hS bA hEA hEA2;have hXc:=hX.ext hEw;have h1c:=h1.ext0 QC.elem hEw;have h2c:=h2.ext0 QC.elem hEw;have f0:=b6.cell 0 rfl;have f1:=b6.cell 1 rfl;have f2:=b6.cell 2 rfl;have hqv:=hqf.qv hb3'.out;by_cases h0:f=0
  ·have hr:=hid (hE0.out h0)
   have hs0:Hid (f.num.sign=0):=hid (by rw[h0];rfl);clear h0;go_wp2_with fail
   refine(b3S Z wc _ f hXc hqv).mono ?_;rintro e w7 ⟨hE7,rfl⟩;rw[hs0.out];clear f0 f1 f2;go_wp2_with fail
   refine bodyPost_ret (results_none rfl _ _ _) rfl ?_;exact⟨rfl,ExtX.of (hEw.trans hE7),by rw[hr.out];exact h1c.ext0 QC.elem hE7⟩
  ·have hs0:((f.num.sign:Int)==0)=false:=a2I (by intro h;exact h0 (Rat.num_eq_zero.1 (Int.sign_eq_zero_iff_zero.1 h)))
   clear h0;go_wp2_with fail
   refine(b3S Z wc _ f hXc hqv).mono ?_;rintro e w7 ⟨hE7,rfl⟩;have b7:=b6.ext0 hE7;have hqf7:=mkx QV.mono hqv hE7;have hE07:=hEw.trans hE7;have h17:=h1c.ext0 QC.elem hE7;have h27:=h2c.ext0 QC.elem hE7;clear f0 f1 f2 b6;go_wp2_with fail
   go_loopw [27] (fun k wr=>∃(j:Nat),k= .int .i64 j/\j<=n/\OL QC 3 (cut Z a1) base 45 wr a1 c1 (mix E row j)/\OL QC 3 (cut Z a2) base 45 wr a2 c2 piv/\Bx wr bf #[.bool sf, .slice af nf cf, .slice df kf ef] 45/\QV (mk Z wr) (.agg #[.bool sf, .slice af nf cf, .slice df kf ef]) f/\ExtX (ob a1) w wr) (fun k _=>n - (intOf k).toNat)
   case atStart=>exact⟨0,rfl,Nat.zero_le _,by rw[a4T];exact h17,h27,b7,hqf7,ExtX.of hE07⟩
   case round=>
    obtain⟨j,rfl,hj,hO1,hO2,b7,hqf7,hE⟩:=hrel;have hXr:=hX.ext hE;by_cases hlj:j<n
    ·have hjr:j<row.length:=by rw[hl1'.out];exact hlj
     have hjp:j<piv.length:=by rw[hl2'.out];exact hlj
     have hjE:j<E.length:=by rw[hEl.out];exact hlj
     have hml:Hid ((mix E row j).length=n):=hid (by rw[a2j hrE.out,hEl.out]);have hjm:j<(mix E row j).length:=by rw[hml.out];exact hlj
     have hmg:Hid ((mix E row j)[j]=row[j]):=hid (by rw[a1W hrE.out,if_neg (by omega)]);have hjs:Hid ((mix E row j).set j E[j]=mix E row (j+1)):=hid (a6m hrE.out hjE);have hEj:Hid (row[j] - f*piv[j]=E[j]):=hid (hEi.out j hjr hjp hjE).symm;have hbp:=hid (hb2'.out piv[j] (List.getElem_mem _));have hbr:=hid (hb1'.out row[j] (List.getElem_mem _));have hbm:=hid (hb4'.out piv[j] (List.getElem_mem _));obtain⟨x,hx⟩:∃x,piv[j]=x:=⟨_,rfl⟩;obtain⟨y,hy⟩:∃y,row[j]=y:=⟨_,rfl⟩;obtain⟨v,hv⟩:∃v,E[j]=v:=⟨_,rfl⟩;obtain⟨r,hr⟩:∃r,mix E row j=r:=⟨_,rfl⟩;obtain⟨gg,oo,sg,ap,np,cp,dp,kp,ep,hg,hog,hcc,hrr⟩:=hO1.rat QC.shaped j hjm;rw[hmg.out,hy,hu1.out]at hrr;rw[hx,hy,hv]at hEj;rw[hx]at hbp hbm;rw[hy]at hbr;rw[hv,hr]at hjs;rw[hr]at hO1 hjm hml;have hxp:=hid hx;have i1:∀W,(Instr.indexAt 24 (.slice a1 n c1) (.int .i64 (j:Int))).run Tryz.prog W= .ok (.pointer (some ⟨gg,oo,none⟩)) W:=by rw[<-hg];exact a0h a0D a1 n c1 .i64 j hd1 (by omega)
     have bx:=Bx.new wr #[.bool false, .slice none 0 0, .slice none 0 0] 45;clear hx hy hv hr hmg;go_wp2_with (first|(with_reducible refine a2a a0D (by omega) (by assumption) ?_)|((with_reducible show wpList _ _ _ (⟨_, .load _ _,_,_,_,_⟩::_) _ _);refine a4V a0u j hO2 hjp rfl (by simp) QC.agg ?_;intro u5 hu5;rw[hxp.out,hu2.out]at hu5;obtain⟨s5,a5,n5,c5,d5,k5,e5,rfl⟩:=hu5.shape)|((with_reducible show wpList _ _ _ (⟨_, .store _ _ _,_,_,_,_⟩::_) _ _);refine a0c a0u rfl rfl bx rfl rfl (a2g _ _ _ _ _ _ _) ?_;intro w5 r1 r2))
     have hE5:Ext wr w5:=ExtX.box ((ExtX.refl wr).alloc _) r2 (Nat.le_refl _);have hEd:Ext w5 w5.drew:=(ExtX.refl w5).drew;have hE5d:=hE5.trans hEd;have hO5:=hO1.ext0 QC.elem hE5d;have hP5:=hO2.ext0 QC.elem hE5d;have b5:=b7.ext0 hE5d;have hx5:QV (mk Z w5.drew) (.agg #[.bool s5, .slice a5 n5 c5, .slice d5 k5 e5]) x:=(mkx QC.mono hu5 hE5d).qv hbp.out;have hy5:QV (mk Z w5.drew) (.agg #[.bool sg, .slice ap np cp, .slice dp kp ep]) y:=(mkx QC.mono hrr hE5d).qv hbr.out;have hf5:QV (mk Z w5.drew) (.agg #[.bool sf, .slice af nf cf, .slice df kf ef]) f:=mkx QV.mono hqf7 hE5d;have hXd:HX Z w5.drew:=hXr.ext hE5d;obtain⟨bw,hbw⟩:∃bw,wr.heap.size=bw:=⟨_,rfl⟩;have hab:Hid (ob a1 bw=false):=hid (by rw[<-hbw];exact hO1.ob_ge (Nat.le_refl _));have haf:Hid (ob a1 bf=false):=hid (by
      cases hb:ob a1 bf
      ·rfl
      ·have:=(h1.block hb).2;omega)
     rw[hbw]at r1;have hS:Hid (∀Y W',ExtX Y w5.drew W'->Y gg=false->Y bf=false->Y bw=false->W'.cell? ⟨gg,oo,none⟩=some (.bool sg)/\W'.cell? ⟨gg,oo+1,none⟩=some (.slice ap np cp)/\W'.cell? ⟨gg,oo+2,none⟩=some (.slice dp kp ep)/\W'.cell? ⟨bf,0,none⟩=some (.bool sf)/\W'.cell? ⟨bf,1,none⟩=some (.slice af nf cf)/\W'.cell? ⟨bf,2,none⟩=some (.slice df kf ef)/\W'.cell? ⟨bw,0,none⟩=some (.bool s5)/\W'.cell? ⟨bw,1,none⟩=some (.slice a5 n5 c5)/\W'.cell? ⟨bw,2,none⟩=some (.slice d5 k5 e5)):=hid fun Y W' h hy1 hy2 hy3=>by
      have z1:=hcc.out Y W' ((ExtX.of hE5d).trans h) hy1;have z2:=b5.ext h hy2;have z3:=(r1.ext0 hEd).ext h hy3;exact⟨z1.1,z1.2.1,z1.2.2,z2.cell 0 rfl,z2.cell 1 rfl,z2.cell 2 rfl,z3.cell 0 rfl,z3.cell 1 rfl,z3.cell 2 rfl⟩
     obtain⟨k00,k01,k02,k10,k11,k12,k20,k21,k22⟩:=hS.out noY w5.drew (ExtX.refl _) rfl rfl rfl;have hR5:=r1.ext0 hEd;clear r1 bx hcc;rw[hbw];go_wp2_with fail
     go_region_with (first|(go_at_call 133;(with_reducible refine(b6M Z w5.drew _ _ _ _ hXd hf5 hx5).mono ?_);rintro ee w6 ⟨t1,u6,rfl,hu6⟩;obtain⟨s6,a6,n6,c6,d6,k6,e6,rfl⟩:=hu6.shape;have hX6:=hXd.ext t1;have hy6:=mkx QV.mono hy5 t1;have hm6:=hu6.qv hbm.out;obtain⟨m0,m1,m2,_⟩:=hS.out noY w6 t1 rfl rfl rfl)|(go_at_call 100;(with_reducible refine(c0J Z w6 _ _ _ _ hX6 hy6 hm6).mono ?_);rintro ee w7 ⟨t7,u7,rfl,hu7⟩;obtain⟨s7,a7,n7,c7,d7,k7,e7,rfl⟩:=hu7.shape;rw[hEj.out]at hu7;have t2:=t1.trans t7;have hO7:=hO5.ext0 QC.elem t2;obtain⟨_,v0,v1,v2,_,⟨g0,f0⟩,⟨g1,f1⟩,⟨g2,f2⟩,_⟩:=hO7.cell3 j hjm hg;have hset:=hO7.set3 a6E QC.elem j hjm hg (v0:= .bool s7) (v1:= .slice a7 n7 c7) (v2:= .slice d7 k7 e7) (x:=v) (by rw[hu1.out];exact hu7)))
     all_goals
      obtain⟨q1,q2⟩:=hset;rw[hjs.out]at q1;have hP8:=(hP5.ext0 QC.elem t2).ext QC.elem q2 (fun k _ hk=>a4R (hz1 k hk) (hdis k hk)) (fun _ _ hk=>hk);have b8:=(b5.ext0 t2).ext q2 haf.out;have hf8:QV (mk Z _) _ _:=QV.mono _ _ _ _ (a0x q2 hz1) (mkx QV.mono hf5 t2);have hE8:=(hE.trans (ExtX.of (hE5d.trans t2))).trans q2;clear k00 k01 k02 k10 k11 k12 k20 k21 k22 m0 m1 m2 g0 g1 g2 f0 f1 f2 i1;go_wp2_with fail
      go_roundw
      case rel=>exact⟨j+1,by go_num,by omega,q1,hP8,b8,hf8,hE8⟩
      case measure=>simp[intOf];omega
    ·have hjn:j=n:=by omega
     subst hjn;rw[a4U (by rw[hEl.out];exact Nat.le_refl _) (by rw[hl1'.out];exact Nat.le_refl _)]at hO1;go_wp2_with fail
     go_end0
     exact⟨rfl,hE,hO1⟩
end Go.Proofs.YtidbbddagfnfbaaGreat
namespace Go.Lin
def c0h:Option Nat->Int
 |none=> -1
 |some k=>k
end Go.Lin
namespace Go.Proofs.YtidbbddagfnfbaaGreat
open Go.RowKit Go.Rep Go.Lim Go.Lin
theorem a9e (X:Nat->Bool) (w:World) (a:Option Addr) (l:List Rat) (n c col b:Nat) (hX:HX X w) (hs:Sl QC 3 (mk X w) a l) (hl:l.length=n) (hcol:col<n) (hB:BR 68719476736 l) (hb:w.cell? ⟨b,0,none⟩=some (.int .i64 (col:Int))):
  Calls Tryz.prog 304 #[.slice a n c, .pointer (some ⟨b,0,none⟩)] w (b1A w (decide (l.getD col 0≠0))):=by
 have hh:Hd a n:=by have:=hs.hd;rw[hl]at this;exact this
 have hcl:col<l.length:=by omega
 have hsv:=hs.qv hB;obtain⟨x,hx⟩:∃x,l[col]=x:=⟨_,rfl⟩;have hg:Hid (l.getD col 0=x):=hid (by simp[List.getD_eq_getElem?_getD,hcl,hx]);have hx':=hid hx;clear hl hB hx;rw[hg.out];by_cases h0:x=0
 ·have hr:Hid (decide (x≠0)=false):=hid (by simp[h0])
  have hs0:Hid (x.num.sign=0):=hid (by rw[h0];rfl);rw[hr.out];clear h0;go_enter Tryz.func304,Tryz.ntmps304
  go_wp2_with (first|(with_reducible refine a2a a0D (by omega) (by assumption) ?_)|((with_reducible show wpList _ _ _ (⟨_, .load 45 _,_,_,_,_⟩::_) _ _);refine a0P a0u col hsv hcl rfl (by simp) QV.agg ?_;intro u5 hu5;rw[hx'.out]at hu5;obtain⟨s5,a5,n5,c5,d5,k5,e5,rfl⟩:=hu5.shape))
  refine(b3S X w _ x hX hu5).mono ?_;rintro e w7 ⟨hE7,rfl⟩;rw[hs0.out];go_wp2_with fail
  go_ret
  exact⟨hE7,rfl⟩
 ·have hr:Hid (decide (x≠0)=true):=hid (by simp[h0])
  have hs0:((x.num.sign:Int) !=0)=true:=a7R (by intro h;exact h0 (Rat.num_eq_zero.1 (Int.sign_eq_zero_iff_zero.1 h)));rw[hr.out];clear h0;go_enter Tryz.func304,Tryz.ntmps304
  go_wp2_with (first|(with_reducible refine a2a a0D (by omega) (by assumption) ?_)|((with_reducible show wpList _ _ _ (⟨_, .load 45 _,_,_,_,_⟩::_) _ _);refine a0P a0u col hsv hcl rfl (by simp) QV.agg ?_;intro u5 hu5;rw[hx'.out]at hu5;obtain⟨s5,a5,n5,c5,d5,k5,e5,rfl⟩:=hu5.shape))
  refine(b3S X w _ x hX hu5).mono ?_;rintro e w7 ⟨hE7,rfl⟩;generalize x.num.sign=sg at hs0;go_wp2_with fail
  go_ret
  exact⟨hE7,rfl⟩
set_option maxRecDepth 100000 in
theorem a7E (X:Nat->Bool) (w:World) (a:Option Addr) (l:List (List Rat)) (n c nc col b:Nat) (hX:HX X w) (hs:Sl RC 1 (mk X w) a l) (hl:l.length=n) (hn:n<=1000000) (hr:∀r∈l,r.length=nc) (hcol:col<nc) (hB:BM 68719476736 l) (hb:w.cell? ⟨b,0,none⟩=some (.int .i64 (col:Int))):
  Calls Tryz.prog 302 #[.slice a n c, .func (.func 304) #[] #[.pointer (some ⟨b,0,none⟩)]] w (fun e w'=>Ext w w'/\e= .returned (.int .i64 (c0h (l.findIdx? fun r=>decide (r.getD col 0≠0))))):=by
 have hh:Hd a n:=by have:=hs.hd;rw[hl]at this;exact this
 have hl':=hid hl;have hr':=hid hr;have hB':=hid hB;have hres1:Hid (∀i (hi:i<l.length),(∀q (hq:q<l.length),q<i->l[q].getD col 0=0)->l[i].getD col 0≠0->l.findIdx? (fun r=>decide (r.getD col 0≠0))=some i):=hid fun i hi h1 h2=>by
  rw[List.findIdx?_eq_some_iff_getElem];exact⟨hi,by simpa using h2,fun q hq=>by simpa using h1 q (by omega) hq⟩
 have hres2:Hid ((∀q (hq:q<l.length),l[q].getD col 0=0)->l.findIdx? (fun r=>decide (r.getD col 0≠0))=none):=hid fun h1=>by
  rw[List.findIdx?_eq_none_iff];intro r hr;obtain⟨q,hq,rfl⟩:=List.getElem_of_mem hr;simpa using h1 q hq
 obtain⟨F,hF⟩:∃F,l.findIdx? (fun r=>decide (r.getD col 0≠0))=F:=⟨_,rfl⟩;rw[hF]at hres1 hres2 |-;clear hl hr hB hF;go_enter Tryz.func302,Tryz.ntmps302
 go_wp2_with fail
 go_loopw [8] (fun k wr=>∃(i:Nat),k= .int .i64 i/\i<=n/\Hid (∀q (hq:q<l.length),q<i->l[q].getD col 0=0)/\Ext w wr) (fun k _=>n - (intOf k).toNat)
 case atStart=>exact⟨0,rfl,Nat.zero_le _,hid (fun q hq h=>by omega),ExtX.refl _⟩
 case round=>
  obtain⟨i,rfl,hi,hok,hE⟩:=hrel;by_cases hlt:i<n
  ·have hil:i<l.length:=by rw[hl'.out];exact hlt
   obtain⟨a1,c1,hX1,hc1,hcl1,hq1⟩:=(hs.mono RC.mono (a0p hE)).row i hil;have k00:=hc1.out noY wr (ExtX.refl _) rfl;have hrl:=hid (hr'.out l[i] (List.getElem_mem _));have hbl:=hid (hB'.out l[i] (List.getElem_mem _));rw[hrl.out]at k00;have hcell:=hE.cell hb;have hcall:=a9e X wr a1 l[i] nc c1 col b (hX.ext hE) hq1 hrl.out hcol hbl.out hcell;by_cases h0:l[i].getD col 0=0
   ·have hd:Hid (decide (l[i].getD col 0≠0)=false):=hid (decide_eq_false (fun h=>h h0))
    rw[hd.out]at hcall;have hok2:Hid (∀q (hq:q<l.length),q<i+1->l[q].getD col 0=0):=hid fun q hq hqi=>by
     by_cases e:q=i
     ·subst e;exact h0
     ·exact hok.out q hq (by omega)
    clear h0 hc1 hq1;go_wp2_with (with_reducible refine a0t a0r (by omega) (by assumption) ?_)
    refine hcall.mono ?_;rintro e w5 ⟨hE5,rfl⟩;clear k00;go_wp2_with fail
    go_roundw
    case rel=>exact⟨i+1,by go_num,by omega,hok2,hE.trans hE5⟩
    case measure=>simp[intOf];omega
   ·have hd:Hid (decide (l[i].getD col 0≠0)=true):=hid (decide_eq_true h0)
    rw[hd.out]at hcall;have hf:=hid (hres1.out i hil (fun q hq hqi=>hok.out q hq hqi) h0);clear h0 hc1 hq1;go_wp2_with (with_reducible refine a0t a0r (by omega) (by assumption) ?_)
    refine hcall.mono ?_;rintro e w5 ⟨hE5,rfl⟩;clear k00;go_wp2_with fail
    go_ret
    exact⟨hE.trans hE5,a0J (by rw[hf.out];rfl)⟩
  ·have hf:=hid (hres2.out fun q hq=>hok.out q hq (by rw[hl'.out]at hq;omega))
   go_wp2_with fail
   go_ret
   exact⟨hE,a0J (by rw[hf.out];rfl)⟩
end Go.Proofs.YtidbbddagfnfbaaGreat
namespace Go.Lin
theorem a2z {m:Mat} {i:Nat} (h:i<m.length):m.getD i []=m[i]:=by simp[List.getD_eq_getElem?_getD,h]
theorem b0N (m:Mat) (t col:Nat):clear m t col 0=m:=by
 unfold clear rows;refine List.ext_getElem (by simp) fun q h1 h2=>?_;rw[List.getElem_mapIdx,if_neg (by omega)]
theorem a2E {m:Mat} {t col s i:Nat} (h:i<(clear m t col s).length) (h2:i<m.length):(clear m t col s)[i]=if t<i/\i<t+1+s then a2X m[i] (m.getD t []) col else m[i]:=by
 show(m.mapIdx _)[i]'(by simpa using h2)=_
 rw[List.getElem_mapIdx]
theorem a2o (m:Mat) (t col s:Nat):(clear m t col s).length=m.length:=by simp[clear,rows]
theorem b2m {m:Mat} {t col s:Nat} (h:t+1+s<m.length):(clear m t col s).set (t+1+s) (a2X m[t+1+s] (m.getD t []) col)=clear m t col (s+1):=by
 refine List.ext_getElem (by simp[a2o]) fun q h1 h2=>?_;have hq:q<m.length:=by rw[a2o]at h2;exact h2
 rw[List.getElem_set,a2E h2 hq];split
 ·subst_vars;rw[if_pos (by omega)]
 ·rw[a2E (by simpa[a2o]using hq) hq]
  by_cases a:t<q/\q<t+1+s
  ·rw[if_pos a,if_pos (by omega)]
  ·rw[if_neg a,if_neg (by omega)]
theorem b0O {m:Mat} {t col s s':Nat} (h:m.length<=t+1+s) (h':m.length<=t+1+s'):clear m t col s=clear m t col s':=by
 refine List.ext_getElem (by simp[a2o]) fun q h1 h2=>?_;have hq:q<m.length:=by rw[a2o]at h2;exact h2
 rw[a2E h1 hq,a2E h2 hq];by_cases a:t<q
 ·rw[if_pos (by omega),if_pos (by omega)]
 ·rw[if_neg (by omega),if_neg (by omega)]
theorem b0P (m:Mat) (t col:Nat):above m t col 0=m:=by
 unfold above rows;refine List.ext_getElem (by simp) fun q h1 h2=>?_;rw[List.getElem_mapIdx,if_neg (by omega)]
theorem a3O {m:Mat} {t col s i:Nat} (h:i<(above m t col s).length) (h2:i<m.length):(above m t col s)[i]=if i<t/\i<s then a2X m[i] (m.getD t []) col else m[i]:=by
 show(m.mapIdx _)[i]'(by simpa using h2)=_
 rw[List.getElem_mapIdx]
theorem a3P (m:Mat) (t col s:Nat):(above m t col s).length=m.length:=by simp[above,rows]
theorem b2n {m:Mat} {t col s:Nat} (h:s<m.length) (hst:s<t):(above m t col s).set s (a2X m[s] (m.getD t []) col)=above m t col (s+1):=by
 refine List.ext_getElem (by simp[a3P]) fun q h1 h2=>?_;have hq:q<m.length:=by rw[a3P]at h2;exact h2
 rw[List.getElem_set,a3O h2 hq];split
 ·subst_vars;rw[if_pos (by omega)]
 ·rw[a3O (by simpa[a3P]using hq) hq]
  by_cases a:q<t/\q<s
  ·rw[if_pos a,if_pos (by omega)]
  ·rw[if_neg a,if_neg (by omega)]
end Go.Lin
namespace Go.Rep
open Go.RowKit Go.Lim Go.Lin
theorem b4z {hs:List Hdr} {i k:Nat} (hi:i<hs.length) (hk:k<hs.length):obs ((hs.set i hs[k]).set k hs[i])=obs hs:=by
 funext b
 rw[Bool.eq_iff_iff];constructor
 ·intro h
  obtain⟨q,hq,h2⟩:=a4S h;simp only[List.length_set]at hq;rw[List.getElem_set]at h2;split at h2
  ·exact a1H hi h2
  ·rw[List.getElem_set]at h2
   split at h2
   ·exact a1H hk h2
   ·exact a1H hq h2
 ·intro h
  obtain⟨q,hq,h2⟩:=a4S h;by_cases a:q=i
  ·subst a
   refine a1H (i:=k) (by simpa using hk) ?_;rw[List.getElem_set_self];exact h2
  ·by_cases b':q=k
   ·subst b'
    refine a1H (i:=i) (by simpa using hi) ?_;rw[List.getElem_set_ne (by omega),List.getElem_set_self];exact h2
   ·refine a1H (i:=q) (by simpa using hq) ?_
    rw[List.getElem_set_ne (by omega),List.getElem_set_ne (by omega)];exact h2
section
variable {X:Nat->Bool} {base:Nat} {e1 e2:TypeId} {w w':World} {ao:Option Addr} {cap:Nat} {hs:List Hdr} {m:List (List Rat)}
theorem b2o {m:Mat} {i k q:Nat} (hi:i<m.length) (hk:k<m.length) (hq:q<(a1d m i k).length):(a1d m i k)[q]=if q=k then m[i]else if q=i then m[k]else m[q]'(by simpa[a1d]using hq):=by
 simp only[a1d,a2z hi,a2z hk];rw[List.getElem_set];by_cases a:k=q
 ·rw[if_pos a,if_pos a.symm]
 ·rw[if_neg a,if_neg (Ne.symm a),List.getElem_set]
  by_cases b:i=q
  ·rw[if_pos b,if_pos b.symm]
  ·rw[if_neg b,if_neg (Ne.symm b)]
theorem b4A {hs:List Hdr} {i k q:Nat} (hi:i<hs.length) (hk:k<hs.length) (hq:q<((hs.set i hs[k]).set k hs[i]).length):((hs.set i hs[k]).set k hs[i])[q]=if q=k then hs[i]else if q=i then hs[k]else hs[q]'(by simpa using hq):=by
 rw[List.getElem_set];by_cases a:k=q
 ·rw[if_pos a,if_pos a.symm]
 ·rw[if_neg a,if_neg (Ne.symm a),List.getElem_set]
  by_cases b:i=q
  ·rw[if_pos b,if_pos b.symm]
  ·rw[if_neg b,if_neg (Ne.symm b)]
theorem MO.swap (h:MO X base e1 e2 w ao cap hs m) {i k:Nat} (hi:i<hs.length) (hk:k<hs.length) (hE:ExtX (ob ao) w w') (ho:OL HdR 1 X base e1 w' ao cap ((hs.set i hs[k]).set k hs[i])):MO X base e1 e2 w' ao cap ((hs.set i hs[k]).set k hs[i]) (a1d m i k):=by
 have hl:=h.len;refine h.perm (fun q=>if q=k then i else if q=i then k else q) (fun q hq=>?_) (fun a b ha hb hab=>?_) (fun q hq=>?_) (by simp) (by simp[a1d]) (fun q hq hq'=>?_) (fun q hq hq'=>?_) hE ho
 ·split
  ·exact hi
  ·split
   ·exact hk
   ·exact hq
 ·split at hab<;>split at hab<;>(try split at hab)<;>(try split at hab)<;>omega
 ·by_cases a:q=i
  ·exact⟨k,hk,by simp[a]⟩
  ·by_cases b:q=k
   ·refine⟨i,hi,?_⟩
    by_cases c:i=k
    ·omega
    ·simp[c,b]
   ·exact⟨q,hq,by simp[a,b]⟩
 ·rw[b4A hi hk hq]
  by_cases a:q=k
  ·simp[a]
  ·by_cases b:q=i
   ·subst b;simp[a]
   ·simp[a,b]
 ·rw[b2o (by omega) (by omega) hq]
  by_cases a:q=k
  ·simp[a]
  ·by_cases b:q=i
   ·subst b;simp[a]
   ·simp[a,b]
end
section
variable {P:Program} {ops:Array Oper} {Q:Exit->Act->World->Prop} {rest:List Oper} {a:Act} {w:World}
variable {d:Option Tmp} {ty:TypeId} {ps:String} {af:Array Edge}
theorem b4B {t e by_:Nat} {z:Value} {x lo:Operand} {k1:IntKind} {m:Int} {ao:Option Addr} {cap:Nat} (T:SliceT P t e 1 by_ z) (n i:Nat) (hx:a.eval x= .slice ao n cap) (hlo:a.eval lo= .int k1 m) (hm:m=(i:Int)) (hd:Hd ao n) (hi:i<=n) (hc:n<=cap)
  (K:∀ao',(∀k,k<n - i->adr ao' k=adr ao (i+k))->Hd ao' (n - i)->wpList P ops Q rest (a.put d (.slice ao' (n - i) (cap - i))) w):
  wpList P ops Q (⟨d, .slice t x (some lo) none none,ty,ps,af,none⟩::rest) a w:=by
 refine wpList_plain rfl fun K' hK'=>?_;subst hm;have hr:=a5S (P:=P) (ao:=ao) T n cap k1 i hi hc w;have:=K (a2r ao i cap 1) (fun k hk=>by
  obtain⟨b,off,rfl⟩:=hd (by omega);have hm:¬cap=i:=by omega
  simp[a2r,hm,Addr.add_lit,adr,Nat.add_assoc]) (fun hn=>by
  obtain⟨b,off,rfl⟩:=hd (by omega);have hm:¬cap=i:=by omega
  exact⟨b,off+i*1,by simp[a2r,hm,Addr.add_lit]⟩)
 unfold Oper.wp;simp[execOp,hx,hlo,hr,Result.andThen];exact hK' _ _ this
end
end Go.Rep
namespace Go.Lin
theorem b2p (m:Mat) (k:Nat):eN m (k+1)=a6d (eN m k) k:=rfl
theorem a9f {n c B t i col:Nat} {m:Mat} (_hs:Shp n c m) (h:HB B m) (_ht:t<n) (_hi:i<n) (hB:5*B<=68719476736):
  Go.Rep.BR 68719476736 (m.getD i [])/\Go.Rep.BR 68719476736 (m.getD t [])/\Go.Lim.hq ((m.getD i []).getD col 0/(m.getD t []).getD col 0)<=68719476736/\∀x∈m.getD t [],Go.Lim.hq ((m.getD i []).getD col 0/(m.getD t []).getD col 0*x)<=68719476736:=by
 have hrow:∀k,Go.Rep.BR B (m.getD k []):=fun k q hq=>by
  obtain⟨j,hj,rfl⟩:=List.getElem_of_mem hq;have e:(m.getD k []).getD j 0=(m.getD k [])[j]:=by rw[List.getD_eq_getElem?_getD,List.getElem?_eq_getElem hj];rfl
  rw[<-e];exact h k j
 have h1:=h i col;have h2:=h t col;unfold ent at h1 h2;have h3:=Go.Lim.hq_div ((m.getD i []).getD col 0) ((m.getD t []).getD col 0);refine⟨fun q hq=>Nat.le_trans (hrow i q hq) (by omega),fun q hq=>Nat.le_trans (hrow t q hq) (by omega),by omega,fun x hx=>?_⟩;have h4:=hrow t x hx;have h5:=Go.Lim.hq_mul ((m.getD i []).getD col 0/(m.getD t []).getD col 0) x;omega
theorem HB.bm {B:Nat} {m:Mat} (h:HB B m):Go.Rep.BM B m:=fun r hr q hq=>by
 obtain⟨i,hi,rfl⟩:=List.getElem_of_mem hr;obtain⟨j,hj,rfl⟩:=List.getElem_of_mem hq;have:=h i j;simpa[ent,List.getD_eq_getElem?_getD,hi,hj]using this
end Go.Lin
namespace Go.Rep
theorem Sl.fromA {α:Type} {R:Mem->Value->α->Prop} {h:Mem} {ao ao':Option Addr} {l:List α} (s:Sl R 1 h ao l) (i:Nat) (ha:∀k,k<l.length - i->adr ao' k=adr ao (i+k)) (hd:Hd ao' (l.length - i)):Sl R 1 h ao' (l.drop i):=by
 refine⟨by rw[List.length_drop];exact hd,fun k hk=>?_⟩;rw[List.length_drop]at hk;obtain⟨u,h1,h2,h3⟩:=s.2 (i+k) (by omega);refine⟨u,h1,fun j hj=>?_,by simpa using h3⟩;have hj0:j=0:=by omega
 subst hj0;have:=h2 0 hj;simp only[Nat.mul_one,Nat.add_zero]at this |-;rw[ha k hk];exact this
theorem b7q {ao:Option Addr} {n i:Nat} (hd:Hd ao n) (hn:0<n) (k:Nat):adr (Option.map (fun x=>x.add i) ao) k=adr ao (i+k):=by
 obtain⟨b,off,rfl⟩:=hd hn;simp[Addr.add_lit,adr,Nat.add_assoc]
theorem a0d.pure (k:IntKind):∀h h' u x,a0d k h u x->a0d k h' u x:=fun _ _ _ _ h=>h
theorem b9d {ao:Option Addr} {n i m:Nat} (hd:Hd ao n) (hn:0<n):Hd (Option.map (fun x=>x.add i) ao) m:=fun _=>by
 obtain⟨b,off,rfl⟩:=hd hn;exact⟨b,off+i,by simp[Addr.add_lit]⟩
end Go.Rep
namespace Go.Proofs.YtidbbddagfnfbaaGreat
open Go.RowKit Go.Rep Go.Lim Go.Lin
def c0i (X:Nat->Bool) (base:Nat) (w:World) (ao:Option Addr) (cap:Nat) (hs:List Hdr) (s:St) (e:Ending) (w':World):Prop:=
 ExtX (mb ao hs) w w'/\∃po pc hs',e= .returned (.tuple #[.slice po s.2.1.length pc, .bool s.2.2])/\mb ao hs'=mb ao hs/\MO (un X po) base 24 45 w' ao cap hs' s.1/\OL (a0d .i64) 1 (mz X ao hs) w.heap.size 3 w' po pc s.2.1
set_option maxRecDepth 100000 in
set_option maxHeartbeats 1600000 in
theorem a6n (X:Nat->Bool) (base:Nat) (w:World) (ao:Option Addr) (cap n c:Nat) (hs:List Hdr) (m:List (List Rat)) (hX:HX X w) (hM:MO X base 24 45 w ao cap hs m) (hsh:Shp n c m) (hc:a0B m=c) (hn:n<=900) (hcc:c<=900) (hT:b7f m c):
  Calls Tryz.prog 277 #[.slice ao n cap] w (c0i X base w ao cap hs (eN m c)):=by
 have hml:=hid hsh.1;have hmc:MC (mk X w) (.slice ao n cap) m:=by have:=hM.mc;rw[hml.out]at this;exact this
 have hcol:=a3p X w _ m hmc;rw[hc]at hcol;have hlen:=hid (hM.len.trans hml.out);have hcap:n<=cap:=by have:=hM.capLen;rw[hml.out]at this;exact this
 have hhO:Hd ao n:=by have:=hM.outer.hd;rw[hlen.out]at this;exact this
 have hn0:Hid (n=0->c=0):=hid fun h=>by
  have:m= []:=List.eq_nil_of_length_eq_zero (by rw[hml.out];exact h);rw[<-hc,this];rfl
 have hsh':=hid hsh;obtain⟨B,hB7,hBj⟩:=hT;have hB':=hid hBj;have hBB':=hid hB7;have hund:un X none=X:=by funext k;simp[un,ob]
 have hMu:MO (un X none) base 24 45 w ao cap hs m:=by rw[hund];exact hM
 have hXz:=hM.hz hX;clear hsh hBj hB7 hc hmc;go_enter Tryz.func277,Tryz.ntmps277
 go_wp2_with fail
 refine hcol.mono ?_;rintro e w1 ⟨rfl,rfl⟩;clear hcol;go_wp2_with fail
 go_loopw [2,3,11] (fun p o k wr=>∃(j:Nat) (po:Option Addr) (pc pl:Nat) (hs':List Hdr) (M:Mat) (P:List Nat) (od:Bool),k= .int .i64 j/\p= .slice po pl pc/\o= .bool od/\j<=c/\Hid (P.length=pl)/\Hid (eN m j=(M,P,od))/\Hid (j<c->pl<n)/\MO (un X po) base 24 45 wr ao cap hs' M/\OL (a0d .i64) 1 (mz X ao hs) w1.heap.size 3 wr po pc P/\Hid (mb ao hs'=mb ao hs)/\ExtX (mb ao hs) w1 wr) (fun _ _ k _=>c - (intOf k).toNat)
 case atStart=>exact⟨0,none,0,0,hs,m,[],false,rfl,rfl,rfl,Nat.zero_le _,hid rfl,hid rfl,hid (fun h=>by have:=hn0.out;omega),hMu,OL.nil _ _ _ _ _ _,hid rfl,ExtX.refl _⟩
 case round=>
  obtain⟨j,po,pc,pl,hs',M,P,od,rfl,rfl,rfl,hj,hpl,hst,hpn,hM,hP,hmb,hE⟩:=hrel;by_cases hlj:j<c
  ·have hpn2:=hpn.out hlj
   have hok:=a5L hsh'.out j;rw[hst.out]at hok;have hshM:Shp n c M:=hok.shp;have hMl:=hid hshM.1;have hhl:=hid (hM.len.trans hMl.out);have hXr:HX X wr:=hX.ext hE;have hXu:HX (un X po) wr:=fun k hk=>by
    by_cases hx:X k=true
    ·exact hXr k hx
    ·exact(hP.block (by simpa[un,hx]using hk)).2
   have hBM:HB B M:=by have:=hB'.out j (by omega);rw[hst.out]at this;exact this
   have hb5':5*B<=68719476736:=by have:=hBB'.out;omega
   have hBM2:=hid (hBM.bm);have hEb:Ext wr (wr.alloc (.cells #[.int .i64 (j:Int)] 3)):=(ExtX.refl wr).alloc _;have hbx:(wr.alloc (.cells #[.int .i64 (j:Int)] 3)).cell? ⟨wr.heap.size,0,none⟩=some (.int .i64 (j:Int)):=b3z 0 rfl;have hM1:=hM.ext0 hEb;have hP1:=hP.ext0 (a0d.elem _) hEb;have hX1:=hXu.ext hEb;have hSl:Sl RC 1 (mk (un X po) (wr.alloc (.cells #[.int .i64 (j:Int)] 3))) ao M:=by
    obtain⟨_,_,heq,_,h3⟩:=hM1.mc;simp only[Value.slice.injEq]at heq;obtain⟨rfl,_,rfl⟩:=heq;exact h3
   obtain⟨bw,hbw⟩:∃bw,wr.heap.size=bw:=⟨_,rfl⟩;obtain⟨w2,hw2⟩:∃w2,wr.alloc (.cells #[.int .i64 (j:Int)] 3)=w2:=⟨_,rfl⟩;rw[hw2]at hEb hbx hM1 hP1 hX1 hSl;rw[hbw]at hbx;have hpbw:Hid (ob po bw=false):=hid (by rw[<-hbw];exact hP.ob_ge (Nat.le_refl _));have hobw:Hid (ob ao bw=false):=hid (by rw[<-hbw];exact hM.outer.ob_ge (Nat.le_refl _));have hw2':=hid hw2;have hbw':=hid hbw;have hn1:0<n:=by omega
   have hmd:Hid (n - pl=(M.drop pl).length):=hid (by rw[List.length_drop,hMl.out]);have hSd:Sl RC 1 (mk (un X po) w2) (Option.map (fun x=>x.add pl) ao) (M.drop pl):=hSl.fromA pl (fun k _=>b7q hhO hn1 k) (b9d hhO hn1);have hrows:Hid (∀r∈M.drop pl,r.length=c):=hid fun r hr=>hshM.2 r (List.mem_of_mem_drop hr);have hbmd:Hid (BM 68719476736 (M.drop pl)):=hid fun r hr q hq=>Nat.le_trans (hBM2.out r (List.mem_of_mem_drop hr) q hq) (by omega);have hix:=a7E (un X po) w2 _ (M.drop pl) (n - pl) (cap - pl) c j bw hX1 hSd hmd.out.symm (by omega) hrows.out hlj hbmd.out hbx;obtain⟨F,hF⟩:∃F,(M.drop pl).findIdx? (fun r=>decide (r.getD j 0≠0))=F:=⟨_,rfl⟩;rw[hF]at hix;have hnz:Hid (b1I M P.length j=F):=hid (by rw[hpl.out];exact hF);clear hF hSd hSl;go_wp2_with fail
   refine hix.mono ?_;rintro e w3 ⟨hE3,rfl⟩;have hM3:=hM1.ext0 hE3;have hP3:=hP1.ext0 (a0d.elem _) hE3;have hb3:=hE3.cell hbx;have hE03:=hE.trans (ExtX.of (hEb.trans hE3));clear hM1 hP1 hix hbx hw2
   match F,hnz with
   |none,hnz=>
    have hst2:Hid (eN m (j+1)=(M,P,od)):=hid (by
     rw[b2p,hst.out];unfold a6d;dsimp only;split
     ·rfl
     ·rw[hnz.out])
    simp only[c0h];go_wp2_with fail
    go_roundw
    case rel=>exact⟨j+1,po,pc,pl,hs',M,P,od,by go_num,rfl,rfl,by omega,hpl,hst2,hid (fun _=>hpn2),hM3,hP3,hmb,hE03⟩
    case measure=>simp[intOf];omega
   |some q,hnz=>
    obtain⟨hq1,hq2⟩:=a3K hnz.out;rw[hpl.out,hMl.out]at hq1;have hq0:¬(q:Int)<0:=by omega
    simp only[c0h];clear hq2;have hr1:pl+q<hs'.length:=by rw[hhl.out];exact hq1
    have hr2:pl<hs'.length:=by rw[hhl.out];exact hpn2
    obtain⟨a1,n1,c1,hh1⟩:∃a n c,hs'[pl]=(a,n,c):=⟨_,_,_,rfl⟩;obtain⟨a2,n2,c2,hh2⟩:∃a n c,hs'[pl+q]=(a,n,c):=⟨_,_,_,rfl⟩;have hO0:=hM3.outer;obtain⟨z1,zf1⟩:=hM3.hdr pl hr2;obtain⟨z2,zf2⟩:=hM3.hdr (pl+q) hr1;rw[hh1]at z1;rw[hh2]at z2
    dsimp only at z1 z2
    have k1:w3.cell? (adr ao pl)=some (.slice a1 n1 c1):=z1;have k2:w3.cell? (adr ao (pl+q))=some (.slice a2 n2 c2):=z2;have f1:w3.frozen? (adr ao pl)=false:=zf1;have f2:w3.frozen? (adr ao (pl+q))=false:=zf2;obtain⟨hO1,hE4⟩:=hO0.set1 a5z HdR.elem HdR.one pl hr2 (.slice a2 n2 c2) (a2,n2,c2) rfl;obtain⟨u3,k3,f3,hu3⟩:=hO1.cell HdR.one (pl+q) (by simpa using hr1);have hu3':u3= .slice a2 n2 c2:=by
     have e:(hs'.set pl (a2,n2,c2))[pl+q]'(by simpa using hr1)=(a2,n2,c2):=by
      rw[List.getElem_set];split
      ·rfl
      ·exact hh2
     rw[e]at hu3;exact hu3
    rw[hu3']at k3;obtain⟨hO2,hE5⟩:=hO1.set1 a5z HdR.elem HdR.one (pl+q) (by simpa using hr1) (.slice a1 n1 c1) (a1,n1,c1) rfl;have hE6:=(hE4.trans hE5).drew;have hO2:=hO2.ext0 HdR.elem (ExtX.refl (Y:=noY) _).drew;rw[<-hh1,<-hh2]at hO2;have i1:∀W,(Instr.indexAt 23 (.slice ao n cap) (.int .i64 (pl:Int))).run Tryz.prog W= .ok (.pointer (some (adr ao pl))) W:=a0C a0r ao n cap .i64 pl hhO (by omega) rfl;have i2:∀W,(Instr.indexAt 23 (.slice ao n cap) (.int .i64 ((pl:Int)+(q:Int)))).run Tryz.prog W= .ok (.pointer (some (adr ao (pl+q)))) W:=a0C a0r ao n cap .i64 (pl+q) hhO (by omega) (by omega);have ew:IntKind.i64.wrap ((pl:Int)+(q:Int))=(pl:Int)+(q:Int):=IntWalk.i64_in _ (by omega);have hM5:=hM3.swap hr2 hr1 hE6 hO2;have hX5:=hX1.ext hE3;have hP5:OL (a0d .i64) 1 (mz X ao hs) w1.heap.size 3 _ po pc P:=hP3.frame (a0d.pure _) hE6 (fun k hk=>by
     cases hb:ob ao k
     ·rfl
     ·have:=(hM3.out_sep hb).1;rw[a0q hk]at this;simp at this) hP3.1
    have hb5:=hE6.cellY hb3 hobw.out;clear hu3 hu3' hO0 hO1 hO2 z1 z2 zf1 zf2 hh1 hh2 hE4 hE5;go_wp2_with fail
    go_region
    obtain⟨w5,hw5⟩:∃w5,((w3.setCell (adr ao pl) (.slice a2 n2 c2)).setCell (adr ao (pl+q)) (.slice a1 n1 c1)).drew=w5:=⟨_,rfl⟩;rw[hw5]at hM5 hP5 hb5 hE6 |-;have hE05:=hE03.trans (ExtX.weaken hE6 fun k _ hk=>(b7n hk).1);have hX5:=hX5.ext hE6;have hXz5:=hXz.ext hE05;have hbase5:=hE05.size;clear k1 k2 k3 f1 f2 f3 i1 i2 hw5 hb3;have hpl5:pl+1<=n:=hpn2;go_wp2_with (first|((with_reducible show wpList _ _ _ (⟨_, .slice _ _ _ _ _,_,_,_,_⟩::_) _ _);refine b4B a0r n (pl+1) rfl rfl (by omega) hhO hpl5 hcap ?_;intro ao3 ha3 hd3;replace ha3:=hid ha3)|(at_builtin;refine a0v (l:=P) a4o rfl (a0d.elem .i64) hbase5 hXz5 pl hpl.out rfl rfl hP5 (.int .i64 (j:Int)) j rfl rfl (by omega) (by omega) ?_;intro po2 pc2 w6 hP6 hE7 hor;have b6:=hE7.cellY hb5 hpbw.out))
    have hM6:MO (un X po2) base 24 45 w6 ao cap _ _:=hM5.ext (X':=un X po2) hE7 (fun k _ hk=>a0q hk) (fun k hk hz=>by
     by_cases hx:X k=true
     ·exact a0k hx
     ·have h2:ob po2 k=true:=by simpa[un,hx]using hz
      rcases hor with rfl|⟨g,rfl,hg⟩
      ·exact a0q h2
      ·have:g=k:=by simpa[ob]using h2
       omega)
    have hE06:ExtX (mb ao hs) w1 w6:=hE05.then_ hE7 fun k hk _=>hP5.ob_lt hk;have hmb2:Hid (mb ao ((hs'.set pl hs'[pl+q]).set (pl+q) hs'[pl])=mb ao hs):=hid (by rw[<-hmb.out];exact(b2k (X:=X) fun k=>by rw[b4z hr2 hr1]).1);have hh2l:Hid (((hs'.set pl hs'[pl+q]).set (pl+q) hs'[pl]).length=n):=hid (by simp[hhl.out]);have hsh2:Shp n c (a1d M pl (pl+q)):=hshM.swap hpn2 hq1;have hBM2':HB B (a1d M pl (pl+q)):=hBM.swap hshM hpn2 hq1;have hst2:Hid (eN m (j+1)=(clear (a1d M pl (pl+q)) pl j n,P++[j],od !=decide (q≠0))):=hid (by
     rw[b2p,hst.out];unfold a6d;dsimp only;rw[if_neg (by rw[hpl.out,hMl.out];omega),hnz.out]
     dsimp only
     rw[hpl.out,hMl.out])
    have hbnd:Hid (∀i,i<n->BR 68719476736 ((a1d M pl (pl+q)).getD i [])/\BR 68719476736 ((a1d M pl (pl+q)).getD pl [])/\hq (((a1d M pl (pl+q)).getD i []).getD j 0/((a1d M pl (pl+q)).getD pl []).getD j 0)<=68719476736/\∀x∈(a1d M pl (pl+q)).getD pl [],hq (((a1d M pl (pl+q)).getD i []).getD j 0/((a1d M pl (pl+q)).getD pl []).getD j 0*x)<=68719476736):=hid fun i hi=>a9f hsh2 hBM2' hpn2 hi hb5';have hmbw:Hid (mb ao hs bw=false):=hid (by
     rw[<-hmb.out];cases hb:mb ao hs' bw
     ·rfl
     ·have:=(hM.mb_block hb).2;omega)
    obtain⟨hs2,hhs2⟩:∃hs2,(hs'.set pl hs'[pl+q]).set (pl+q) hs'[pl]=hs2:=⟨_,rfl⟩;obtain⟨M2,hM2⟩:∃M2,a1d M pl (pl+q)=M2:=⟨_,rfl⟩;rw[hhs2]at hM6 hmb2 hh2l;rw[hM2]at hM6 hsh2 hBM2' hst2 hbnd;clear hhs2 hM2;have hM2l:=hid hsh2.1;have hX6:HX X w6:=hX.ext hE06;have hM6':MO (un X po2) base 24 45 w6 ao cap hs2 (clear M2 pl j 0):=by rw[b0N];exact hM6
    go_loopw [54] (fun k wx=>∃(s:Nat),k= .int .i64 s/\s<=n - (pl+1)/\MO (un X po2) base 24 45 wx ao cap hs2 (clear M2 pl j s)/\OL (a0d .i64) 1 (mz X ao hs) w1.heap.size 3 wx po2 pc2 (P++[j])/\ExtX (mb ao hs) w1 wx/\wx.cell? ⟨bw,0,none⟩=some (.int .i64 (j:Int))) (fun k _=>n - (pl+1) - (intOf k).toNat)
    case atStart=>exact⟨0,rfl,Nat.zero_le _,hM6',hP6,hE06,b6⟩
    case round=>
     obtain⟨s,rfl,hs9,hM8,hP8,hE8,b8⟩:=hrel;by_cases hls:s<n - (pl+1)
     ·obtain⟨t,ht⟩:∃t,pl+1+s=t:=⟨_,rfl⟩
      have htn:t<n:=by omega
      have hth:t<hs2.length:=by rw[hh2l.out];exact htn
      have hph:pl<hs2.length:=by rw[hh2l.out];exact hpn2
      have htm:t<M2.length:=by rw[hM2l.out];exact htn
      have hpm:pl<M2.length:=by rw[hM2l.out];exact hpn2
      have htc:t<(clear M2 pl j s).length:=by rw[a2o];exact htm
      have hpc:pl<(clear M2 pl j s).length:=by rw[a2o];exact hpm
      obtain⟨a1,n1,c1,hh1⟩:∃a n c,hs2[t]=(a,n,c):=⟨_,_,_,rfl⟩;obtain⟨a2,n2,c2,hh2⟩:∃a n c,hs2[pl]=(a,n,c):=⟨_,_,_,rfl⟩;have hg1:(clear M2 pl j s)[t]=M2[t]:=by rw[a2E htc htm,if_neg (by omega)]
      have hg2:(clear M2 pl j s)[pl]=M2[pl]:=by rw[a2E hpc hpm,if_neg (by omega)]
      have hn1':n1=c:=by
       have:=hM8.rlen t hth htc;rw[hh1,hg1,hsh2.2 _ (List.getElem_mem _)]at this;exact this
      have hn2':n2=c:=by
       have:=hM8.rlen pl hph hpc;rw[hh2,hg2,hsh2.2 _ (List.getElem_mem _)]at this;exact this
      subst hn1';subst hn2';have hR1:=hM8.row t hth htc;have hR2:=hM8.row pl hph hpc;rw[hg1]at hR1;rw[hg2]at hR2;simp only[hh1]at hR1;simp only[hh2]at hR2;have hz1:=fun k (hk:ob a1 k=true)=>hM8.mz_sub hth k (by rw[hh1];exact hk);have hz2:=fun k (hk:ob a2 k=true)=>hM8.mz_sub hph k (by rw[hh2];exact hk);have hds:∀k,ob a1 k=true->ob a2 k=false:=fun k hk=>by
       have:=hM8.dis t pl hth hph (by omega) k (by rw[hh1];exact hk);rw[hh2]at this;exact this
      have hsp:=fun k (hk:ob a1 k=true)=>hM8.sep t hth k (by rw[hh1];exact hk);have hBn:=hbnd.out t htn;rw[a2z htm]at hBn;have hcs:Hid ((clear M2 pl j s).set t (a2X M2[t] (M2.getD pl []) j)=clear M2 pl j (s+1)):=hid (by subst ht;exact b2m htm);have hpe:M2.getD pl []=M2[pl]:=a2z hpm;rw[<-hpe]at hR2;have hrl1:=hid (hsh2.2 M2[t] (List.getElem_mem _));have hrl2:=hid (show(M2.getD pl []).length=n2 by rw[hpe];exact hsh2.2 _ (List.getElem_mem _));obtain⟨row,hrow⟩:∃row,M2[t]=row:=⟨_,rfl⟩;obtain⟨piv,hpiv⟩:∃piv,M2.getD pl []=piv:=⟨_,rfl⟩;rw[hrow,hpiv]at hcs;rw[hrow]at hR1 hrl1;rw[hpiv]at hR2 hrl2;rw[hrow,hpiv]at hBn;have hX8:HX (un X po2) wr:=fun k hk=>by
       by_cases hx:X k=true
       ·exact hX.ext hE8 k hx
       ·exact(hP8.block (by simpa[un,hx]using hk)).2
      have hZ8:=hM8.hz hX8;have hEd:Ext wr wr.drew:=(ExtX.refl wr).drew;have hel:=a4W (mz (un X po2) ao hs2) base wr.drew a1 a2 c1 c2 n2 j row piv hZ8 (hR1.ext0 QC.elem hEd) (hR2.ext0 QC.elem hEd) hz1 hz2 hds hrl1.out hrl2.out (by omega) hlj hBn.1 hBn.2.1 hBn.2.2.1 hBn.2.2.2;have y1:wr.cell? (adr ao3 s)=some (.slice a1 n2 c1):=by
       have:=(hM8.hdr t hth).1;rw[hh1,<-ht]at this;rw[ha3.out s hls];exact this
      have y2:wr.drew.cell? (adr ao pl)=some (.slice a2 n2 c2):=by
       have:=(hM8.hdr pl hph).1;rw[hh2]at this;exact this
      have y3:wr.drew.cell? ⟨bw,0,none⟩=some (.int .i64 (j:Int)):=b8;have haob:Hid (ob a1 (adr ao pl).block=false):=hid (by
       cases hb:ob a1 (adr ao pl).block
       ·rfl
       ·have h1:=(hsp _ hb).2
        obtain⟨b0,o0,rfl⟩:=hhO (by omega);simp[ob,adr]at h1)
      have habw:Hid (ob a1 bw=false):=hid (by
       cases hb:ob a1 bw
       ·rfl
       ·have h5:mb ao hs2 bw=true:=a2n.2 (.inr (a1H hth (show ob hs2[t].1 bw=true by rw[hh1];exact hb)))
        rw[hmb2.out,hmbw.out]at h5;simp at h5)
      have i1:∀W,(Instr.indexAt 23 (.slice ao n cap) (.int .i64 (pl:Int))).run Tryz.prog W= .ok (.pointer (some (adr ao pl))) W:=a0C a0r ao n cap .i64 pl hhO (by omega) rfl;have hh1':=hid hh1
      replace ht:=hid ht
      clear hg1 hg2 hpe hrow hpiv hh1 hh2 hR1 hR2 hBn;go_wp2_with (with_reducible refine a0t a0r (by omega) (by assumption) ?_)
      go_region_held3 (fun w'=>w'.cell? (adr ao pl)=some (.slice a2 n2 c2)/\w'.cell? ⟨bw,0,none⟩=some (.int .i64 (j:Int)))
       (first|exact⟨t1.cellY y2 haob.out,t1.cellY y3 habw.out⟩|go_keep)
       ((go_at_call 303;(with_reducible refine hel.mono ?_);rintro ee w7 ⟨rfl,t1,hO7⟩))
      have b9:=t1.cellY y3 habw.out;have hEr:ExtX (ob hs2[t].1) wr.drew w7:=by rw[hh1'.out];exact t1
      have hM9:=(hM8.ext0 hEd).upd hth (l:=a2X row piv j) hEr (fun hi'=>by
       rw[a2E htc htm,if_neg (by have:=ht.out;omega),a3J _ _ _ (by rw[hrl1.out,hrl2.out]),hrl2.out];exact(hsh2.2 _ (List.getElem_mem _)).symm) (by rw[hh1'.out];exact hO7)
      rw[hcs.out]at hM9;have hP9:=(hP8.ext0 (a0d.elem _) hEd).frame (a0d.pure _) t1 (fun k hk=>by
       cases hb:ob a1 k
       ·rfl
       ·have:=(hsp k hb).1;rw[a0q hk]at this;simp at this) hP8.1
      have hE9:=(hE8.trans (ExtX.of hEd)).trans (by rw[<-hmb2.out];exact ExtX.row hth hEr);clear y1 y2 y3 i1;go_wp2_with fail
      go_roundw
      case rel=>exact⟨s+1,by go_num,by omega,hM9,hP9,hE9,b9⟩
      case measure=>simp[intOf];omega
     ·have hfin:Hid (clear M2 pl j s=clear M2 pl j n):=hid (b0O (by rw[hM2l.out];omega) (by rw[hM2l.out];omega))
      rw[hfin.out]at hM8;have hodd:Hid ((!(od==((q:Int) !=0)))=(od !=decide (q≠0))):=hid (by cases od<;>by_cases h:q=0<;>simp[h]);have hpl2:Hid ((P++[j]).length=pl+1):=hid (by simp[hpl.out]);by_cases hfull:pl+1=n
      ·have hne:(((pl+1:Nat):Int)==(n:Int))=true:=a7e (by omega)
       have hne2:(((pl:Int)+1)==(n:Int))=true:=a7e (by omega);have hstop:Hid (eN m c=(clear M2 pl j n,P++[j],od !=decide (q≠0))):=hid (by
        rw[b6R m (j+1) (by rw[hst2.out];dsimp only;rw[hpl2.out,a2o,hM2l.out];exact hfull) c (by omega)];exact hst2.out)
       clear hfull;go_wp2_with fail
       go_ret2
       rw[hstop.out];exact⟨hE8,po2,pc2,hs2,by rw[hpl2.out,<-hodd.out];rfl,hmb2.out,hM8,hP8⟩
      ·have hne:(((pl+1:Nat):Int)==(n:Int))=false:=a2I (by omega)
       have hne2:(((pl:Int)+1)==(n:Int))=false:=a2I (by omega);have hpn3:Hid (j+1<c->pl+1<n):=hid fun _=>by omega
       clear hfull;go_wp2_with fail
       go_roundw
       case rel=>exact⟨j+1,po2,pc2,pl+1,hs2,_,_,_,by go_num,rfl,by rw[hodd.out],by omega,hpl2,hst2,hpn3,hM8,hP8,hmb2,hE8⟩
       case measure=>simp[intOf];omega
  ·have hjc:j=c:=by omega
   subst hjc;go_wp2_with fail
   go_ret2
   rw[hst.out];exact⟨hE,po,pc,hs',by rw[hpl.out];rfl,hmb.out,hM,hP⟩
end Go.Proofs.YtidbbddagfnfbaaGreat
