/- Structs of more cells in boxes; masks of a fresh box. Conditions: none. The memory of the reference's elimination: rows, pivots, factor, and what each step leaves of them. Conditions: none. reference 06: what its elimination needs of plain lists. Conditions: none. Least squares: bounds of digits. Conditions: at most 8 rows and 4 columns of numbers of at most 370 digits. reference 06: Columns, Formed. Conditions: lengths far below any machine's. reference 06: reduce. Conditions: few rows and columns, numbers of few digits. reference 06: Reduce, Rank, Det. Conditions: few rows and columns, numbers of few digits. reference 06: SameInts. Conditions: lengths far below any machine's. slices.Index, slices.Contains of integers; design: Alias; reference 12: Alias. Conditions: numbers of few digits. A drawn region with two appends: the append as one operation, its literal made before; masks of two lists. Conditions: none. -/
import Derived.Test.YtkddecjkfdogiaaGreatLdH
import Derived.Deep.DrawnRows
import Derived.Deep.LoopGhost
import Derived.BigQuiet
namespace Go.Rep
open Go.RowKit Go.Lim
theorem a1U {X:Nat->Bool} {w w':World} {g:Nat} (hE:Ext w w') (hg:w.heap.size<=g):Le (mk X w) (mk (un X (some ⟨g,0,none⟩)) w'):=
 a1s hE (fun k _ hk=>by simp[noY]at hk) fun k hk hz=>by
  by_cases hx:X k=true
  ·exact hx
  ·have:g=k:=by simpa[un,hx,ob]using hz
   omega
theorem a1j {X:Nat->Bool} {w:World} {g:Nat} (hX:HX X w) (hg:g<w.heap.size):HX (un X (some ⟨g,0,none⟩)) w:=fun k hk=>by
 by_cases hx:X k=true
 ·exact hX k hx
 ·have:g=k:=by simpa[un,hx,ob]using hk
  omega
section
variable {P:Program} {ops:Array Oper} {Q:Exit->Act->World->Prop} {rest:List Oper} {a:Act} {w:World}
variable {d:Option Tmp} {ty:TypeId} {ps:String} {af:Array Edge}
theorem a0B {o:Oper} {K:Act->World->Prop} {E:Prop} {t:TypeId} {x y:Operand} {n b:Nat} {cs vs:Array Value} {T:TypeId} (hg:o.guard=none) (hop:o.op= .store t x y) (hT:a1Q P t n) (hx:a.eval x= .pointer (some ⟨b,0,none⟩)) (hy:a.eval y= .agg vs) (hb:Bx w b cs T) (hcs:cs.size=n) (hvs:vs.size=n) (hone:∀v∈vs.toList,v.oneCell'=true)
  (hK:∀w',Bx w' b vs T->ExtX (ob (some ⟨b,0,none⟩)) w w'->K (a.put o.dst undef) w'):
  if Region.wanted o (yielded ops a.tmps)=true then Oper.wp P o a w K Q else E:=by
 have hw:Region.wanted o (yielded ops a.tmps)=true:=by simp[Region.wanted,hg]
 rw[if_pos hw];obtain⟨w',hr,h1,h2⟩:=a5k (P:=P) hT hb hcs hvs hone;unfold Oper.wp execOp;rw[hop];simp[hx,hy,Instr.storeAt,Instr.sureAddr,hr,Result.andThen];exact hK w' h1 h2
theorem a1C {t:TypeId} {x y:Operand} {b i:Nat} {cs:Array Value} {v:Value} {T:TypeId} (hT:TyI P t 1) (hx:a.eval x= .pointer (some ⟨b,i,none⟩)) (hy:a.eval y=v) (hv:v.cells=#[v]) (hone:v.oneCell'=true) (hb:Bx w b cs T) (hi:i<cs.size)
  (K:∀w',Bx w' b (cs.set i v) T->ExtX (ob (some ⟨b,0,none⟩)) w w'->wpList P ops Q rest (a.put d undef) w'):
  wpList P ops Q (⟨d, .store t x y,ty,ps,af,none⟩::rest) a w:=by
 refine wpList_plain rfl fun K' hK'=>?_;obtain⟨ti,ht,hts⟩:=hT;obtain⟨h1,h2⟩:=a1i hb v hi;have hc:=hb.cell i (u:=cs[i]) (by simp[hi]);have hf:=hb.frozen i;unfold Oper.wp;subst hy;have hr:=run_store P w ⟨b,i,none⟩ (a.eval y) .plain hone;rw[hc,hf]at hr;simp only[Bool.false_eq_true,if_false]at hr;simp[execOp,hx,Instr.storeAt,Instr.sureAddr,storeVar,sizeOf,typeInfo,ht,hts,hv,Result.andThen,storeCells,Addr.add_zero',hr];exact hK' _ _ (K _ h1 h2)
theorem a6d {o:Oper} {K:Act->World->Prop} {E:Prop} {t:TypeId} {x y:Operand} {b i:Nat} {cs:Array Value} {v:Value} {T:TypeId} (hg:o.guard=none) (hop:o.op= .store t x y) (hT:TyI P t 1) (hx:a.eval x= .pointer (some ⟨b,i,none⟩)) (hy:a.eval y=v) (hv:v.cells=#[v]) (hone:v.oneCell'=true) (hb:Bx w b cs T) (hi:i<cs.size)
  (hK:∀w',Bx w' b (cs.set i v) T->ExtX (ob (some ⟨b,0,none⟩)) w w'->K (a.put o.dst undef) w'):
  if Region.wanted o (yielded ops a.tmps)=true then Oper.wp P o a w K Q else E:=by
 have hw:Region.wanted o (yielded ops a.tmps)=true:=by simp[Region.wanted,hg]
 rw[if_pos hw];obtain⟨ti,ht,hts⟩:=hT;obtain⟨h1,h2⟩:=a1i hb v hi;have hc:=hb.cell i (u:=cs[i]) (by simp[hi]);have hf:=hb.frozen i;unfold Oper.wp execOp;rw[hop];subst hy;have hr:=run_store P w ⟨b,i,none⟩ (a.eval y) .plain hone;rw[hc,hf]at hr;simp only[Bool.false_eq_true,if_false]at hr;simp[hx,Instr.storeAt,Instr.sureAddr,storeVar,sizeOf,typeInfo,ht,hts,hv,Result.andThen,storeCells,Addr.add_zero',hr];exact hK _ h1 h2
theorem b4D {X Z:Nat->Bool} {w w':World} (hE:Ext w w') (h:∀k,k<w.heap.size->Z k=true->X k=true):Le (mk X w) (mk Z w'):=
 a1s hE (fun k _ hk=>by simp[noY]at hk) h
theorem a3J {X Y Z:Nat->Bool} {w w':World} (hE:ExtX Y w w') (hY:∀k,Y k=true->Z k=true) (hX:∀k,X k=true->Z k=true):Le (mk Z w) (mk X w'):=fun a u h=>a1E (fun k _ hk=>hX k hk) a u (a0F hE hY a u h)
theorem a0Q (X:Nat->Bool) (a b:Option Addr):un (un X a) b=un (un X b) a:=by
 funext k;simp only[un];cases X k<;>cases ob a k<;>cases ob b k<;>rfl
theorem a2O {X:Nat->Bool} {w:World} {ao:Option Addr} (hX:HX X w) (h:∀k,ob ao k=true->k<w.heap.size):HX (un X ao) w:=fun k hk=>by
 by_cases hx:X k=true
 ·exact hX k hx
 ·exact h k (by simpa[un,hx]using hk)
theorem b1j (X:Nat->Bool):un X none=X:=by funext k;simp[un,ob]
end
end Go.Rep
namespace Go.Proofs.YtkddecjkfdogiaaGreat
open Go.RowKit Go.Rep
theorem a3h:a1Q Tryz.prog 83 6:=by
 have h:(Tryz.prog.info? 83).map (fun i=>(i.zero,i.size,i.bytes))=some (some (.agg #[.int .i64 0, .slice none 0 0, .slice none 0 0, .bool false, .slice none 0 0, .slice none 0 0]),6,112):=by kernel_rfl
 obtain⟨ti,h1,_,h2,_⟩:=info_parts h;exact⟨_,ti,Tryz.underlying83,h1,h2⟩
theorem b4E:(Tryz.prog.info? 45).map (fun i=>(i.zero,i.size,i.bytes))=some (some (.slice none 0 0),1,24):=by kernel_rfl
theorem a7M:TyI Tryz.prog 45 1:=let ⟨i,h,_,h2,_⟩:=info_parts b4E;⟨i,h,h2⟩
theorem b4F:(Tryz.prog.info? 25).map (fun i=>(i.zero,i.size,i.bytes))=some (some (.slice none 0 0),1,24):=by kernel_rfl
theorem b6a:TyI Tryz.prog 25 1:=let ⟨i,h,_,h2,_⟩:=info_parts b4F;⟨i,h,h2⟩
theorem a3m:a1Q Tryz.prog 63 8:=by
 have h:(Tryz.prog.info? 63).map (fun i=>(i.zero,i.size,i.bytes))=some (some (.agg #[.int .i64 0, .slice none 0 0, .slice none 0 0, .slice none 0 0, .bool false, .slice none 0 0, .slice none 0 0, .slice none 0 0]),8,160):=by kernel_rfl
 obtain⟨ti,h1,_,h2,_⟩:=info_parts h;exact⟨_,ti,Tryz.underlying63,h1,h2⟩
end Go.Proofs.YtkddecjkfdogiaaGreat
namespace Go.Rep
open Go.RowKit Go.Lim
abbrev a8o (X:Nat->Bool) (fb:Nat):Nat->Bool:=un X (some ⟨fb,0,none⟩)
abbrev a5Q (X:Nat->Bool) (fb:Nat) (po oo:Option Addr):Nat->Bool:=un (un (a8o X fb) po) oo
structure RS (X:Nat->Bool) (w0:World) (b fb base:Nat) (T1 T2 T3:TypeId) (w:World) (oo:Option Addr) (co:Nat) (po:Option Addr) (pc:Nat) (M:List (List Rat)) (p:List Nat) (f:Rat):Prop where
 rows:OL RC 1 (un (a8o X fb) po) base T1 w oo co M
 piv:OL (a0c .i64) 1 (un (a8o X fb) oo) base T3 w po pc p
 fac:∃s a n c d k e,Bx w fb #[.bool s, .slice a n c, .slice d k e] T2/\QC (mk (a5Q X fb po oo) w) (.agg #[.bool s, .slice a n c, .slice d k e]) f
 hx:HX X w
 res:Bx w b #[.bool false, .slice none 0 0, .slice none 0 0] T2
 rb:X b=true
 fb0:fb≠b
 ext:Ext w0 w
 low:w0.heap.size<=base
 lowf:w0.heap.size<=fb
section
variable {X:Nat->Bool} {w0 w w':World} {b fb base:Nat} {T1 T2 T3:TypeId} {oo po:Option Addr} {co pc:Nat} {M M':List (List Rat)} {p:List Nat} {f f':Rat}
theorem RS.oF (h:RS X w0 b fb base T1 T2 T3 w oo co po pc M p f):ob oo fb=false:=by
 cases hb:ob oo fb
 ·rfl
 ·have:=h.rows.1 fb hb;rw[a0m (a0s (a8d fb))]at this;simp at this
theorem RS.pF (h:RS X w0 b fb base T1 T2 T3 w oo co po pc M p f):ob po fb=false:=by
 cases hb:ob po fb
 ·rfl
 ·have:=h.piv.1 fb hb;rw[a0m (a0s (a8d fb))]at this;simp at this
theorem RS.oB (h:RS X w0 b fb base T1 T2 T3 w oo co po pc M p f):ob oo b=false:=by
 cases hb:ob oo b
 ·rfl
 ·have:=h.rows.1 b hb;rw[a0m (a0m h.rb)]at this;simp at this
theorem RS.pB (h:RS X w0 b fb base T1 T2 T3 w oo co po pc M p f):ob po b=false:=by
 cases hb:ob po b
 ·rfl
 ·have:=h.piv.1 b hb;rw[a0m (a0m h.rb)]at this;simp at this
theorem RS.po_oo (h:RS X w0 b fb base T1 T2 T3 w oo co po pc M p f) (k:Nat) (hk:ob po k=true):ob oo k=false:=(a0S (h.piv.1 k hk)).2
theorem RS.flt (h:RS X w0 b fb base T1 T2 T3 w oo co po pc M p f):fb<w.heap.size:=by
 obtain⟨_,_,_,_,_,_,_,h1,_⟩:=h.fac;exact h1.lt
theorem RS.hz (h:RS X w0 b fb base T1 T2 T3 w oo co po pc M p f):HX (a5Q X fb po oo) w:=fun k hk=>by
 by_cases h1:ob oo k=true
 ·exact(h.rows.block h1).2
 ·by_cases h2:ob po k=true
  ·exact(h.piv.block h2).2
  ·by_cases h3:X k=true
   ·exact h.hx k h3
   ·have h1':ob oo k=false:=by simpa using h1
    have h2':ob po k=false:=by simpa using h2
    have h3':X k=false:=by simpa using h3
    have h4:ob (some ⟨fb,0,none⟩) k=true:=by simpa[a5Q,a8o,un,h1',h2',h3']using hk
    have:fb=k:=by simpa[ob]using h4
    rw[<-this];exact h.flt
theorem RS.row (h:RS X w0 b fb base T1 T2 T3 w oo co po pc M p f) (i:Nat) (hi:i<M.length):∃a c,w.cell? (adr oo i)=some (.slice a M[i].length c)/\w.frozen? (adr oo i)=false/\M[i].length<=c/\Sl QC 3 (_root_.Go.Rep.mk (a5Q X fb po oo) w) a M[i]:=by
 obtain⟨u,h1,h2,a,c,rfl,h4,h5⟩:=h.rows.cell SlV.one i hi;exact⟨a,c,h1,h2,h4,h5⟩
theorem RS.ext0 (h:RS X w0 b fb base T1 T2 T3 w oo co po pc M p f) (hE:Ext w w'):RS X w0 b fb base T1 T2 T3 w' oo co po pc M p f:=by
 obtain⟨s,a,n,c,d,k,e,h1,h2⟩:=h.fac;exact⟨h.rows.ext0 RC.elem hE,h.piv.ext0 (a0c.elem _) hE,⟨s,a,n,c,d,k,e,h1.ext0 hE,mkx QC.mono h2 hE⟩,h.hx.ext hE,h.res.ext0 hE,h.rb,h.fb0,h.ext.trans hE,h.low,h.lowf⟩
theorem RS.setRows (h:RS X w0 b fb base T1 T2 T3 w oo co po pc M p f) (hE:ExtX (ob oo) w w') (hO:OL RC 1 (un (a8o X fb) po) base T1 w' oo co M'):RS X w0 b fb base T1 T2 T3 w' oo co po pc M' p f:=by
 obtain⟨s,a,n,c,d,k,e,h1,h2⟩:=h.fac;exact⟨hO,h.piv.frame (a0c.pure _) hE (fun k hk=>h.po_oo k hk) h.piv.1,⟨s,a,n,c,d,k,e,h1.ext hE h.oF,QC.mono _ _ _ _ (a0F hE fun k hk=>a0s hk) h2⟩,h.hx.ext hE,h.res.ext hE h.oB,h.rb,h.fb0,h.ext.own h.rows h.low hE,h.low,h.lowf⟩
theorem RS.setFac (h:RS X w0 b fb base T1 T2 T3 w oo co po pc M p f) (hE:ExtX (ob (some ⟨fb,0,none⟩)) w w') {s:Bool} {a:Option Addr} {n c:Nat} {d:Option Addr} {k e:Nat} (hB:Bx w' fb #[.bool s, .slice a n c, .slice d k e] T2) (hq:QC (_root_.Go.Rep.mk (a5Q X fb po oo) w') (.agg #[.bool s, .slice a n c, .slice d k e]) f'):RS X w0 b fb base T1 T2 T3 w' oo co po pc M p f':=by
 have hf:∀k,ob (some ⟨fb,0,none⟩) k=true->k=fb:=fun k hk=>by
  have:fb=k:=by simpa[ob]using hk
  exact this.symm
 refine⟨h.rows.ext RC.elem hE (fun k _ hk=>a0m (a0s hk)) (fun _ _ h=>h),h.piv.frame (a0c.pure _) hE (fun k hk=>?_) h.piv.1,⟨s,a,n,c,d,k,e,hB,hq⟩,h.hx.ext hE,h.res.ext hE (a0d (Ne.symm h.fb0)),h.rb,h.fb0,h.ext.then_ hE fun k hk _=>?_,h.low,h.lowf⟩
 ·cases hb:ob (some ⟨fb,0,none⟩) k
  ·rfl
  ·have:=hf k hb;subst this;rw[h.pF]at hk;simp at hk
 ·cases hb:ob (some ⟨fb,0,none⟩) k
  ·rfl
  ·have:=hf k hb;have:=h.lowf;omega
theorem RS.push (h:RS X w0 b fb base T1 T2 T3 w oo co po pc M p f) {po2:Option Addr} {pc2 j:Nat} (hE:ExtX (ob po) w w') (hP:OL (a0c .i64) 1 (un (a8o X fb) oo) base T3 w' po2 pc2 (p++[j])) (hor:po2=po\/∃g,po2=some ⟨g,0,none⟩/\w.heap.size<=g):RS X w0 b fb base T1 T2 T3 w' oo co po2 pc2 M (p++[j]) f:=by
 obtain⟨s,a,n,c,d,k,e,h1,h2⟩:=h.fac;have hold:∀k,k<w.heap.size->ob po2 k=true->ob po k=true:=fun k hk h9=>by
  rcases hor with rfl|⟨g,rfl,hg⟩
  ·exact h9
  ·have:g=k:=by simpa[ob]using h9
   omega
 have hF:∀k,k<w.heap.size->un (a8o X fb) po2 k=true->un (a8o X fb) po k=true:=fun k hk hz=>by
  by_cases hx:a8o X fb k=true
  ·exact a0m hx
  ·exact a0s (hold k hk (by simpa[un,hx]using hz))
 refine⟨h.rows.ext RC.elem hE (fun k _ hk=>a0s hk) hF,hP,⟨s,a,n,c,d,k,e,h1.ext hE h.pF,QC.mono _ _ _ _ (a1s hE (fun k _ hk=>a0m (a0s hk)) fun k hk hz=>?_) h2⟩,h.hx.ext hE,h.res.ext hE h.pB,h.rb,h.fb0,h.ext.own h.piv h.low hE,h.low,h.lowf⟩;by_cases ho:ob oo k=true
 ·exact a0s ho
 ·exact a0m (hF k hk (by simpa[un,ho]using hz))
end
end Go.Rep
namespace Go.Lin
open Go.Lim
def a6e (m:Mat) (c:Nat):Prop:=∃B,6*B<=68719476736/\∀j,j<=c->HB B (rN m j).1/\hq (rN m j).2.2<=B
theorem b1k {n c:Nat} {m:Mat} (hs:Shp n c m) (k:Nat):(rN m k).2.1.length<=n:=(a5t hs k).ref.le
theorem b2Q {n c B:Nat} {m:Mat} (hs:Shp n c m) (h:HB B m) (hB:6*(6^n*B)<=68719476736):a6e m c:=
 ⟨6^n*B,hB,fun j _=>by
  obtain⟨h1,h2⟩:=h.rN hs j;have hp:6^(rN m j).2.1.length*B<=6^n*B:=Nat.mul_le_mul_right _ (Nat.pow_le_pow_right (by decide) (b1k hs j));exact⟨h1.mono hp,Nat.le_trans h2 hp⟩⟩
theorem b1l (m:Mat) (k:Nat):rN m (k+1)=a5K (rN m k) k:=rfl
theorem a2U {m:Mat} {i:Nat} (h:i<m.length):m.getD i []=m[i]:=by simp[List.getD_eq_getElem?_getD,h]
theorem a8p {m:Mat} {i:Nat} (h:i<m.length) (j:Nat):ent m i j=(m[i]).getD j 0:=by unfold ent;rw[a2U h]
theorem b4G {m:Mat} {n t col:Nat} (hl:m.length=n) (h:∀q,t<=q->q<n->ent m q col=0):b0D m t col=none:=by
 unfold b0D;rw[List.findIdx?_eq_none_iff];intro r hr;obtain⟨i,hi,rfl⟩:=List.getElem_of_mem hr;rw[List.length_drop]at hi;have:=h (t+i) (by omega) (by omega);rw[a8p (by omega)]at this;simpa using this
theorem b4H {m:Mat} {n t col a:Nat} (hl:m.length=n) (h:∀q,t<=q->q<t+a->ent m q col=0) (ha:t+a<n) (hne:ent m (t+a) col≠0):b0D m t col=some a:=by
 unfold b0D;rw[List.findIdx?_eq_some_iff_getElem];refine⟨by rw[List.length_drop];omega,?_,fun j hj=>?_⟩
 ·rw[List.getElem_drop,<-a8p (by omega)];simpa using hne
 ·rw[List.getElem_drop,<-a8p (by omega)];simpa using h (t+j) (by omega) (by omega)
theorem b2R (m:Mat) (t col:Nat):out m t col 0=m:=by
 unfold out rows;refine List.ext_getElem (by simp) fun q h1 h2=>?_;rw[List.getElem_mapIdx,if_neg (by omega)]
theorem a4g (m:Mat) (t col s:Nat):(out m t col s).length=m.length:=by simp[out,rows]
theorem a4Y {m:Mat} {t col s i:Nat} (h:i<(out m t col s).length) (h2:i<m.length):(out m t col s)[i]=if i≠t/\i<s then List.zipWith (· + ·) m[i] ((m.getD t []).map (· * - m[i].getD col 0))else m[i]:=by
 show(m.mapIdx _)[i]'(by simpa using h2)=_
 rw[List.getElem_mapIdx]
theorem b4I {m:Mat} {t col s:Nat} (h:s<m.length) (hst:s≠t):(out m t col s).set s (List.zipWith (· + ·) m[s] ((m.getD t []).map (· * - m[s].getD col 0)))=out m t col (s+1):=by
 refine List.ext_getElem (by simp[a4g]) fun q h1 h2=>?_;have hq:q<m.length:=by rw[a4g]at h2;exact h2
 rw[List.getElem_set,a4Y h2 hq];split
 ·subst_vars;rw[if_pos ⟨hst,by omega⟩]
 ·rw[a4Y (by simpa[a4g]using hq) hq]
  by_cases a:q≠t/\q<s
  ·rw[if_pos a,if_pos ⟨a.1,by omega⟩]
  ·rw[if_neg a,if_neg (by omega)]
theorem b2S {m:Mat} {t col:Nat}:out m t col t=out m t col (t+1):=by
 refine List.ext_getElem (by simp[a4g]) fun q h1 h2=>?_;have hq:q<m.length:=by rw[a4g]at h2;exact h2
 rw[a4Y h1 hq,a4Y h2 hq];by_cases a:q≠t/\q<t
 ·rw[if_pos a,if_pos ⟨a.1,by omega⟩]
 ·rw[if_neg a,if_neg (by omega)]
theorem b1m {m:Mat} {i k:Nat} (hi:i<m.length) (hk:k<m.length):(m.set i m[k]).set k m[i]=a1a m i k:=by
 unfold a1a;rw[a2U hi,a2U hk]
theorem b6b {n c:Nat} {m M:Mat} {P:List Nat} {f:Rat} {j pl a:Nat} (hs:Shp n c m) (hst:rN m j=(M,P,f)) (hpl:P.length=pl) (hz:∀q,pl<=q->q<pl+a->ent M q j=0) (ha:pl+a<n) (hne:ent M (pl+a) j≠0):
  rN m (j+1)=(out (pv (a1a M (pl+a) pl) pl j) pl j n,P++[j],(if a=0 then f else - f)*ent (a1a M (pl+a) pl) pl j):=by
 have hM:Shp n c M:=by have:=(a5t hs j).shp;rw[hst]at this;exact this
 subst hpl;rw[b1l,hst];unfold a5K
 dsimp only
 rw[b4H hM.1 hz ha hne]
 dsimp only
 rw[hM.1]
theorem b4J {n c:Nat} {m M:Mat} {P:List Nat} {f:Rat} {j pl:Nat} (hs:Shp n c m) (hst:rN m j=(M,P,f)) (hpl:P.length=pl) (hz:∀q,pl<=q->q<n->ent M q j=0):rN m (j+1)=(M,P,f):=by
 have hM:Shp n c M:=by have:=(a5t hs j).shp;rw[hst]at this;exact this
 subst hpl;rw[b1l,hst];unfold a5K
 dsimp only
 rw[b4G hM.1 hz]
end Go.Lin
namespace Go.Rep
open Go.RowKit
theorem b1n {X:Nat->Bool} {b k:Nat} (h:X b=true) (hk:ob (some ⟨b,0,none⟩) k=true):X k=true:=by
 have:b=k:=by simpa[ob]using hk
 subst this;exact h
section
variable {P:Program} {w:World}
theorem a8q {fn:Func} {tmps:Array Value} {c d e:Tmp} {t:TypeId} {n b:Nat} {cs:Array Value} {T:TypeId} (h:fn.results=#[.tmp d, .tmp e, .cell c t]) (hp:tmps.getD c undef= .pointer (some ⟨b,0,none⟩)) (hT:a1Q P t n) (hb:Bx w b cs T) (hcs:cs.size=n):
  (results fn tmps).run P w= .ok (.tuple #[tmps.getD d undef,tmps.getD e undef, .agg cs]) w:=by
 have hl:=a2i (P:=P) hT hb hcs;rw[Array.getD_eq_getD_getElem?]at hp;simp[results,h,hp,asAddr,hl]
end
end Go.Rep
namespace Go.Lin
open Go.Lim Go.Rep
theorem b1o {p:List Nat} {c:Nat} (h1:∀i (hi:i<p.length),p[i]<c) (h2:∀i k (hik:i<k) (hk:k<p.length),p[i]<p[k]):p.length<=c:=by
 have hpw:p.Pairwise (· < ·):=List.pairwise_iff_getElem.2 fun i j hi hj hij=>h2 i j hij hj;have hnd:p.Nodup:=hpw.imp fun h=>Nat.ne_of_lt h;have h3:p.length<=(List.range c).length:=hnd.length_le_of_subset fun j hj=>by
  obtain⟨k,hk,rfl⟩:=List.getElem_of_mem hj;exact List.mem_range.2 (h1 k hk)
 rwa[List.length_range]at h3
theorem a6v {n c B:Nat} {m:Mat} (hs:Shp n c m) (h:HB B m) (hc:c<=4) (hBB:B<=6000):b0d m c/\a6e m c:=by
 have hle:∀j,j<=c->(eN m j).2.1.length<=4:=fun j hj=>Nat.le_trans (b1o (a5s hs j).ech.lt (a5s hs j).ech.inc) (by omega);have hle2:∀j,j<=c->(rN m j).2.1.length<=4:=fun j hj=>Nat.le_trans (b1o (a5t hs j).ref.lt (a5t hs j).ref.inc) (by omega);have p5:∀k,k<=4->5^k<=625:=fun k hk=>Nat.le_trans (a5L 5 (by omega) hk) (by decide);have p7:∀k,k<=4->7^k<=2401:=fun k hk=>Nat.le_trans (a5L 7 (by omega) hk) (by decide);have p6:∀k,k<=4->6^k<=1296:=fun k hk=>Nat.le_trans (a5L 6 (by omega) hk) (by decide);refine⟨⟨1500625*B,by omega,fun j hj=>(h.eN hs j).mono (Nat.mul_le_mul_right _ (Nat.le_trans (p5 _ (hle j hj)) (by decide))),fun t ht=>(((h.eN hs c).dN (a5s hs c).shp (a5s hs c).ech t ht)).mono ?_⟩,⟨1296*B,by omega,fun j hj=>?_⟩⟩
 ·rw[<-Nat.mul_assoc]
  refine Nat.mul_le_mul_right _ ?_;exact Nat.mul_le_mul (p7 t (Nat.le_trans ht (hle c (Nat.le_refl _)))) (p5 _ (hle c (Nat.le_refl _)))
 ·obtain⟨h1,h2⟩:=h.rN hs j
  have hp:=Nat.mul_le_mul_right B (p6 _ (hle2 j hj));exact⟨h1.mono hp,Nat.le_trans h2 hp⟩
theorem a2V {n c B:Nat} {m:Mat} (hs:Shp n c m) (h:HB B m) (hn:n<=4) (hBB:B<=6000):b0d m c/\a6e m c:=by
 have h35:=b5W hn;have h6:6^n<=1296:=Nat.le_trans (Nat.pow_le_pow_right (by omega) hn) (by decide);have h1:=Nat.mul_le_mul h35 hBB;have h2:=Nat.mul_le_mul h6 hBB;exact⟨b4q hs h (by omega),b2Q hs h (by omega)⟩
theorem b1p {n c B:Nat} {m:Mat} (hs:Shp n c m) (h:HB B m) (hn:n<=4):HB (1296*B) (a0K m c).1:=by
 rw[(a8S hs).1];refine(h.rN hs c).1.mono (Nat.mul_le_mul_right _ ?_);exact Nat.le_trans (a5L 6 (by omega) (Nat.le_trans (b1k hs c) hn)) (by decide)
theorem b1q {n B:Nat} {f:Nat->Rat} (h:∀i,i<n->hq (f i)<=B):hq (sm n f)<=1+n*(B+1):=by
 induction n with
 |zero=>unfold sm;rw[a0Z];omega
 |succ n ih=>
  unfold sm;have h1:=ih fun i hi=>h i (by omega);have h2:=a8M (sm n f) (f n);have h3:=h n (by omega);have e:(n+1)*(B+1)=n*(B+1)+(B+1):=Nat.succ_mul _ _;omega
theorem b4K {l:List Rat} {B:Nat} (h:BR B l) (hB:1<=B) (i:Nat):hq (fn l i)<=B:=a7F h hB i
theorem a7N {l m:List Rat} {c B C:Nat} (hl:l.length=c) (h1:BR B l) (h2:BR C m) (hB:1<=B) (hC:1<=C):hq (a2x l m)<=1+c*(B+C+1):=by
 rw[b1d hl];refine b1q fun i hi=>Nat.le_trans (hq_mul _ _) ?_;have:=a7F h1 hB i;have:=a7F h2 hC i;omega
theorem b6c {x:Mat} {n B:Nat} (h:HB B x) (i j:Nat):hq (gr n (ent x) i j)<=1+n*(2*B+1):=b1q fun r _=>Nat.le_trans (hq_mul _ _) (by have:=h r i;have:=h r j;omega)
theorem b6M {x:Mat} {y:List Rat} {n B:Nat} (h:HB B x) (hy:BR B y) (i:Nat):hq (gy n (ent x) (fn y) i)<=1+n*(2*B+1):=b1q fun r _=>Nat.le_trans (hq_mul _ _) (by have:=h r i;have:=b4K hy h.pos r;omega)
theorem a4I {n B:Nat} (hn:n<=8) (hB:B<=370):1+n*(2*B+1)<=5929:=by
 have:=Nat.mul_le_mul hn (show 2*B+1<=741 by omega);omega
theorem b1r {x:Mat} {n c B:Nat} (h:HB B x) (hn:n<=8) (hB:B<=370):HB 5929 (gmL x n c):=fun i j=>by
 by_cases hi:i<c
 ·by_cases hj:j<c
  ·rw[a6Y x n c i hi j hj];exact Nat.le_trans (b6c h i j) (a4I hn hB)
  ·rw[a1I (a2N x n c) (.inr (by omega)),a0Z];decide
 ·rw[a1I (a2N x n c) (.inl (by omega)),a0Z];decide
theorem b1s {x:Mat} {y:List Rat} {n c B:Nat} (h:HB B x) (hy:BR B y) (hn:n<=8) (hB:B<=370):BR 5929 (gyL x y n c):=fun q hq=>by
 obtain⟨i,_,rfl⟩:=List.mem_map.1 hq;exact Nat.le_trans (b6M h hy i) (a4I hn hB)
theorem b1t {m:Mat} {b:List Rat} {n c B:Nat} (hs:Shp n c m) (hm:HB B m) (hb:BR B b) (hn:n<=4):BR (1296*B) (b3w (a0K (a2H m b n) (c+1)).1 (a0K (a2H m b n) (c+1)).2 c):=b6L fun x hx=>by
 obtain⟨_,h2,_⟩:=a1b (a2e (b:=b) hs);have h5:=b1p (a2e hs) (a9j hs hm hb) hn;rw[a8j]at hx;rw[a9a h2 x hx];unfold b0K;split
 ·exact h5 _ _
 ·rw[a0Z];exact h5.pos
theorem a8r {x:Mat} {y:List Rat} {n c B:Nat} (h:HB B x) (hy:BR B y) (hn:n<=8) (hc:c<=4) (hB:B<=370):BR 8000000 (a1v x y n c):=fun q hq=>
 Nat.le_trans (b1t (a2N x n c) (b1r h hn hB) (b1s h hy hn hB) hc q hq) (by decide)
theorem b6d {l:List Rat} {B i:Nat} (h:BR B l) (hi:i<l.length):hq l[i]<=B:=h _ (List.getElem_mem hi)
theorem b3E {x:Mat} {y b:List Rat} {n c B C:Nat} (hs:Shp n c x) (h:BM B x) (hy:BR B y) (hb:BR C b) (hB1:1<=B) (hC1:1<=C):BR (B+c*(B+C+1)+2) (a2K x y b):=fun q hq=>by
 obtain⟨i,hi,rfl⟩:=List.getElem_of_mem hq;have h1:i<x.length:=by unfold a2K at hi;rw[List.length_zipWith]at hi;omega
 have h2:i<y.length:=by unfold a2K at hi;rw[List.length_zipWith]at hi;omega
 rw[a5P hi h1 h2];have a1:=b0t y[i] (a2x x[i] b);have a2:=b6d hy h2;have a3:=a7N (hs.2 _ (List.getElem_mem h1)) (h _ (List.getElem_mem h1)) hb hB1 hC1;omega
theorem a8s {x:Mat} {y b:List Rat} {n c B:Nat} (hs:Shp n c x) (h:BM B x) (hy:BR B y) (hb:BR 8000000 b) (hB1:1<=B) (hc:c<=4) (hB:B<=370):BR 33000000 (a2K x y b):=fun q hq=>by
 have h1:=b3E hs h hy hb hB1 (by decide) q hq;have:=Nat.mul_le_mul hc (show B+8000000+1<=8000371 by omega);omega
theorem b6e {l:List Rat} (h:BR 33000000 l) (hn:l.length<=8):hq (a2x l l)<=600000000:=by
 have h1:=a7N rfl h h (by decide) (by decide);have:=Nat.mul_le_mul hn (Nat.le_refl (33000000+33000000+1));omega
theorem b1u {x:Mat} {p:List Nat} {B:Nat} (h:BM B x) (hB:1<=B):BM B (pkL x p):=fun r hr q hq=>by
 obtain⟨s,hs,rfl⟩:=List.mem_map.1 hr;obtain⟨j,_,rfl⟩:=List.mem_map.1 hq;exact a7F (h s hs) hB j
theorem a7a {u:Mat} {n m B:Nat} (h:HB B u) (hn:n<=8) (hB:B<=370):HB 5929 (a1z u n m):=fun i j=>by
 by_cases hi:i<m
 ·by_cases hj:j<m
  ·rw[a7I u n m i hi j hj];exact Nat.le_trans (b6c h i j) (a4I hn hB)
  ·rw[a1I (a0C u n m) (.inr (by omega)),a0Z];decide
 ·rw[a1I (a0C u n m) (.inl (by omega)),a0Z];decide
theorem a5x {m:Mat} {n B:Nat} (hs:Shp n n m) (h:HB B m):HB B (a1e m n):=fun i j=>by
 have h1:=h.pos;by_cases hi:i<n
 ·by_cases hj:j<2*n
  ·rw[a2T hs i hi j hj]
   split
   ·exact h i j
   ·split
    ·have:hq (1:Rat)<=1:=by decide+kernel
     omega
    ·rw[a0Z];exact h1
  ·rw[a1I (a1g hs) (.inr (by omega)),a0Z];exact h1
 ·rw[a1I (a1g hs) (.inl (by omega)),a0Z];exact h1
theorem b4L {m:Mat} {n B:Nat} (hs:Shp n n m) (h:HB B m) (hn:n<=4):HB (1296*B) (a2l m n):=fun i j=>by
 have h5:=b1p (a1g hs) (a5x hs h) hn;by_cases hi:i<n
 ·rw[a9m hs i hi j];exact h5 _ _
 ·rw[a1I (a1M hs) (.inl (by omega)),a0Z];exact h5.pos
theorem a8t {u:Mat} {n m B:Nat} (h:HB B u) (hn:n<=8) (hm:m<=4) (hB:B<=370):BM 8000000 (a2l (a1z u n m) m):=fun r hr q hq=>
 Nat.le_trans (a4W (b4L (a0C u n m) (a7a h hn hB) hm) r hr q hq) (by decide)
theorem b1v {m:Mat} {v:List Rat} {n c B C:Nat} (hs:Shp n c m) (h:BM B m) (hv:BR C v) (hB:1<=B) (hC:1<=C):BR (1+c*(B+C+1)) (a2g m v):=fun q hq=>by
 obtain⟨r,hr,rfl⟩:=List.mem_map.1 hq;exact a7N (hs.2 r hr) (h r hr) hv hB hC
theorem a8u {u:Mat} {n m B:Nat} (hu:BM B u) (hn:n<=8) (hm:m<=4) (hB1:1<=B) (hB:B<=370) {r:List Rat} (hr:r∈u):BR 33000000 (a2g (a2l (a1z u n m) m) r):=fun q hq=>by
 have h1:=b1v (a1M (a0C u n m)) (a8t (a6b hu hB1) hn hm hB) (hu r hr) (by decide) hB1 q hq;have:=Nat.mul_le_mul hm (show 8000000+B+1<=8000371 by omega);omega
theorem b6f {u:Mat} {n m B:Nat} (hs:Shp n m u) (hu:BM B u) (hn:n<=8) (hm:m<=4) (hB1:1<=B) (hB:B<=370):BR 140000000 (a4N u n m):=fun q hq=>by
 obtain⟨r,hr,rfl⟩:=List.mem_map.1 hq;have h1:=a7N (hs.2 r hr) (hu r hr) (a8u hu hn hm hB1 hB hr) hB1 (by decide);have:=Nat.mul_le_mul hm (show B+33000000+1<=33000371 by omega);omega
theorem a9q {m:Mat} {i j:Nat} (hi:i<m.length) (hj:j<m[i].length):m[i][j]=ent m i j:=by
 unfold ent;rw[show m.getD i []=m[i]by simp[List.getD_eq_getElem?_getD,hi],List.getD_eq_getElem?_getD,List.getElem?_eq_getElem hj];rfl
theorem a7O {m:Mat} {n c:Nat} (h:Shp n c m) (hc:n=0->c=0):colsL m=c:=by
 by_cases hn:0<n
 ·have h0:0<m.length:=by rw[h.1];exact hn
  rw[a1R h0];exact h.2 _ (List.getElem_mem _)
 ·have:m= []:=List.eq_nil_of_length_eq_zero (by rw[h.1];omega)
  subst this;rw[hc (by omega)];rfl
end Go.Lin
namespace Go.Proofs.YtkddecjkfdogiaaGreat
open Go.RowKit Go.Rep Go.Lim Go.Lin
theorem a3Q {R:Mem->Value->Rat->Prop} (X:Nat->Bool) (w:World) (u:Value) (m:List (List Rat)) (hu:SlV (SlV R 3) 1 (mk X w) u m):Calls Tryz.prog 116 #[u] w (fun e w'=>w'=w/\e= .returned (.int .i64 (colsL m:Int))):=by
 obtain⟨ao,ca,rfl,hca,hsa⟩:=hu;have hha:=hsa.hd;by_cases h:0<m.length
 ·obtain⟨a1,c1,hX1,hc1,hcl1,hq1⟩:=hsa.row 0 h
  have k00:=hc1.out noY w (ExtX.refl _) rfl;have hc:=hid (a1R h);have hI:((m.length:Int)==0)=false:=a2X (by omega);go_enter Tryz.func116,Tryz.ntmps116
  go_wp2_with (with_reducible refine a0t a0r (by omega) (by assumption) ?_)
  go_ret
  exact⟨rfl,a0W (by rw[hc.out])⟩
 ·have hc:Hid (colsL m=0):=hid (by
   have:m= []:=List.eq_nil_of_length_eq_zero (by omega);subst this;rfl)
  have hI:((m.length:Int)==0)=true:=a5Y (by omega);go_enter Tryz.func116,Tryz.ntmps116
  go_wp2_with (with_reducible refine a0t a0r (by omega) (by assumption) ?_)
  go_ret
  exact⟨rfl,a0W (by rw[hc.out];rfl)⟩
set_option maxRecDepth 100000 in
theorem a3K {R:Mem->Value->Rat->Prop} (hR:a3n R) (X:Nat->Bool) (w:World) (u:Value) (m:List (List Rat)) (hu:SlV (SlV R 3) 1 (mk X w) u m) (hl:m.length<=1099511627776):Calls Tryz.prog 115 #[u] w (a7U w (a0v m)):=by
 obtain⟨ao,ca,rfl,hca,hsa⟩:=hu;have hha:=hsa.hd;by_cases h96:96<m.length
 ·have hv:Hid (false=a0v m):=hid (by
   symm;cases hf:a0v m
   ·rfl
   ·have:=(a1J.1 hf).1;omega)
  have hI:(96:Int)<(m.length:Int):=by omega
  go_enter Tryz.func115,Tryz.ntmps115
  go_wp2_with fail
  go_ret
  exact⟨ExtX.refl _,a0j hv.out⟩
 ·have hI:¬(96:Int)<(m.length:Int):=by omega
  obtain⟨n,hn⟩:∃n,m.length=n:=⟨_,rfl⟩;have hn':=hid hn;have hn6:n<=96:=by omega
  rw[hn]at hha hI |-;clear hn hl h96 hca;go_enter Tryz.func115,Tryz.ntmps115
  go_wp2_with fail
  go_loopw [3] (fun c wr=>∃(i:Nat),c= .int .i64 i/\i<=n/\Hid (∀q,q<i->∀hq:q<m.length,1<=m[q].length/\m[q].length<=96/\m[q].length=colsL m)/\Ext w wr) (fun c _=>n - (intOf c).toNat)
  case atStart=>exact⟨0,rfl,Nat.zero_le _,hid (fun q hq=>by omega),ExtX.refl _⟩
  case round=>
   obtain⟨i,rfl,hi,hok,hE⟩:=hrel;by_cases hlt:i<n
   ·have hil:i<m.length:=by rw[hn'.out];exact hlt
    have h0:0<m.length:=by omega
    have hsr:=hsa.mono (SlV.mono hR 3) (a0p hE);obtain⟨a1,c1,hX1,hc1,hcl1,hq1⟩:=hsr.row i hil;obtain⟨a2,c2,hX2,hc2,hcl2,hq2⟩:=hsr.row 0 h0;have k00:=hc1.out noY wr (ExtX.refl _) rfl;have k10:=hc2.out noY wr (ExtX.refl _) rfl;have i1:∀W,(Instr.indexAt 25 (.slice ao n ca) (.int .i64 (i:Int))).run Tryz.prog W= .ok (.pointer (some (adr ao i))) W:=a0z a0r ao n ca .i64 i hha (by omega) rfl;have i0:∀W,(Instr.indexAt 25 (.slice ao n ca) (.int .i64 0)).run Tryz.prog W= .ok (.pointer (some (adr ao 0))) W:=a0z a0r ao n ca .i64 0 hha (by omega) rfl;have hcol:=a1R h0;have hno:=hid (a4C i hil);rw[<-hcol]at k10;obtain⟨x,hx⟩:∃x,m[i].length=x:=⟨_,rfl⟩;obtain⟨y,hy⟩:∃y,colsL m=y:=⟨_,rfl⟩;rw[hx]at k00 hno;rw[hy]at k10 hno;have hst:Hid (1<=x/\x<=96/\x=y->∀hq:i<m.length,1<=m[i].length/\m[i].length<=96/\m[i].length=colsL m):=hid fun h hq=>by rw[hx,hy];exact h
    clear hx hy hcol hc1 hc2 hq1 hq2 hcl1 hcl2 h0 hil;by_cases hx0:x=0
    ·have d0:decide ((x:Int)<1)=true:=decide_eq_true (by omega)
     have hv:=hid (hno.out (by omega));clear hx0 hno hst;go_wp2_with fail
     go_region
     all_goals
      clear k00 k10 i1 i0;go_wp2_with fail
      go_ret
      exact⟨hE.trans (ExtX.refl wr).drew,a0j hv.out⟩
    ·have d0:decide ((x:Int)<1)=false:=decide_eq_false (by omega)
     by_cases hx1:96<x
     ·have d1:decide ((96:Int)<(x:Int))=true:=decide_eq_true (by omega)
      have hv:=hid (hno.out (by omega));clear hx0 hno hst;go_wp2_with fail
      go_region
      all_goals
       clear k00 k10 i1 i0;go_wp2_with fail
       go_ret
       exact⟨hE.trans (ExtX.refl wr).drew,a0j hv.out⟩
     ·have d1:decide ((96:Int)<(x:Int))=false:=decide_eq_false (by omega)
      by_cases hxy:x=y
      ·have d2:((x:Int) !=(y:Int))=false:=a7j (by omega)
       have hst2:=hid (hst.out ⟨by omega,by omega,hxy⟩);clear hx0 hxy hno hst hx1;go_wp2_with fail
       go_region
       all_goals
        clear k00 k10 i1 i0;go_wp2_with fail
        go_roundw
        case rel=>exact⟨i+1,by go_num,by omega,hid (a5E hok.out hst2.out),hE.trans (ExtX.refl wr).drew⟩
        case measure=>simp[intOf];omega
      ·have d2:((x:Int) !=(y:Int))=true:=a7g (by omega)
       have hv:=hid (hno.out (by omega));clear hx0 hxy hno hst hx1;go_wp2_with fail
       go_region
       all_goals
        clear k00 k10 i1 i0;go_wp2_with fail
        go_ret
        exact⟨hE.trans (ExtX.refl wr).drew,a0j hv.out⟩
   ·have hv:Hid (true=a0v m):=hid (by
     symm;exact a1J.2 ⟨by rw[hn'.out];omega,fun q hq=>hok.out q (by rw[hn'.out]at hq;omega) hq⟩)
    go_wp2_with fail
    go_ret
    exact⟨hE,a0j hv.out⟩
attribute [local go_sem↓] Go.wp_at_zero Go.wp_at_succ
def b3F (X:Nat->Bool) (w:World) (S:Sr) (e:Ending) (w':World):Prop:=Ext w w'/\∃oo co po pc uf,e= .returned (.tuple #[.slice oo S.1.length co, .slice po S.2.1.length pc,uf])/\S.1.length<=co/\S.2.1.length<=pc/\Sl RC 1 (mk X w') oo S.1/\Sl (a0c .i64) 1 (mk X w') po S.2.1/\QC (mk X w') uf S.2.2
set_option maxRecDepth 100000 in
set_option maxHeartbeats 1600000 in
theorem a4h (X:Nat->Bool) (w:World) (u:Value) (m:List (List Rat)) (n c:Nat) (hX:HX X w) (hu:MV (mk X w) u m) (hsh:Shp n c m) (hc:colsL m=c) (hn:n<=900) (hcc:c<=900) (hT:a6e m c):Calls Tryz.prog 174 #[u] w (b3F X w (rN m c)):=by
 obtain⟨W,hW,hEW,b0,hz⟩:=a1A w #[.bool false, .slice none 0 0, .slice none 0 0] 32;have hX1:HX (a0g X w.heap.size 1) W:=hX.boxes hz;have hu1:MV (mk (a0g X w.heap.size 1) W) u m:=MV.mono _ _ _ _ (a0q hEW) hu;have htk:=b4y (a0g X w.heap.size 1) W u m hX1 hu1 (by rw[hsh.1];omega) (fun r hr=>by rw[hsh.2 r hr];omega);have hml:=hid hsh.1;have hsh':=hid hsh;have hn0:Hid (n=0->c=0):=hid fun h=>by
  have:m= []:=List.eq_nil_of_length_eq_zero (by rw[hml.out];exact h);rw[<-hc,this];rfl
 obtain⟨B,hB6,hBj⟩:=hT;have hBj':=hid hBj;have hB6':=hid hB6;have hunb:Hid (∀w',Le (mk (a0g X w.heap.size 1) w') (mk X w')):=hid fun w'=>a0k;have hrb:Hid (a0g X w.heap.size 1 w.heap.size=true):=hid (a4R (Nat.le_refl _) (by omega));obtain⟨X1,hX1e⟩:∃X1,a0g X w.heap.size 1=X1:=⟨_,rfl⟩;obtain⟨b,hb⟩:∃b,w.heap.size=b:=⟨_,rfl⟩;rw[hX1e]at hX1 htk hunb hrb;rw[hb]at b0 hrb;have hbW:W.heap.size=b+1:=by rw[<-hb];exact hz
 have hbw':Hid (w.heap.size=b):=hid hb;clear hu hu1 hX1e hz hb hsh hBj hB6;go_enter Tryz.func174,Tryz.ntmps174
 go_wp2_with fail
 refine htk.mono ?_;rintro e w1 ⟨hE1,oo,co,rfl,hO1⟩;have hXu1:HX (un X1 oo) w1:=hO1.unX (hX1.ext hE1);clear hW;rw[hml.out];go_wp2_with fail
 refine(a3W (un X1 oo) w1 1 hXu1 (by decide) (by decide)).mono ?_;rintro e w2 ⟨hE2,u2,rfl,hu2⟩;obtain⟨s2,a2,n2,c2,d2,k2,e2,rfl⟩:=hu2.shape;have bf:=Bx.new w2 #[.bool false, .slice none 0 0, .slice none 0 0] 32;go_wp2_with ((with_reducible show wpList _ _ _ (⟨_, .store _ _ _,_,_,_,_⟩::_) _ _);refine a0b a0u rfl rfl bf rfl rfl (a2B _ _ _ _ _ _ _) ?_;intro w3 r1 r2)
 have hE3:Ext w2 w3:=ExtX.box ((ExtX.refl w2).alloc _) r2 (Nat.le_refl _);have hO2:=hO1.ext0 RC.elem hE2;have hob2:∀k,ob oo k=true->k<w2.heap.size:=fun k hk=>(hO2.block hk).2;obtain⟨fb,hfb⟩:∃fb,w2.heap.size=fb:=⟨_,rfl⟩;obtain⟨base,hbase⟩:∃base,W.heap.size=base:=⟨_,rfl⟩;have hs1:=hE1.size;have hs2:=hE2.size;have hR0:RS X1 w b fb base 45 32 3 w3 oo co none 0 m [] 1:=by
  subst hfb hbase;refine⟨hO2.ext RC.elem hE3 (fun k _ h=>by simp[noY]at h) (fun k hk hz=>?_),OL.nil _ _ _ _ _ _,⟨s2,a2,n2,c2,d2,k2,e2,r1,QC.mono _ _ _ _ (a1s hE3 (fun k _ h=>by simp[noY]at h) fun k hk hz=>?_) hu2⟩,hX1.ext (hE1.trans (hE2.trans hE3)),b0.ext0 (hE1.trans (hE2.trans hE3)),hrb.out,?_,hEW.trans (hE1.trans (hE2.trans hE3)),?_,?_⟩
  ·by_cases h:X1 k=true
   ·exact h
   ·have h':X1 k=false:=by simpa using h
    have:w2.heap.size=k:=by simpa[un,a8o,ob,h']using hz
    omega
  ·by_cases h:un X1 oo k=true
   ·exact h
   ·have h':un X1 oo k=false:=by simpa using h
    obtain⟨h1,h2⟩:=a0S h';have e1:ob (none:Option Addr) k=false:=rfl;have e2:ob (some ⟨w2.heap.size,0,none⟩) k=(w2.heap.size==k):=rfl;have:w2.heap.size=k:=by simpa[un,a5Q,a8o,h1,h2,e1,e2]using hz
    omega
  ·omega
  ·have:=hEW.size;omega
  ·have:=hEW.size;omega
 have hcap:n<=co:=by have:=hO1.lenCap;rw[hml.out]at this;exact this
 have hhO:Hd oo n:=by have:=hO1.hd;rw[hml.out]at this;exact this
 rw[hfb,hbw'.out];clear hO1 hO2 hob2 hu2 bf r1 r2 hE1 hE2 hE3 hs1 hs2 htk b0 hX1 hXu1 hEW hfb hbase hbW;go_loopg [5,7] c (fun g p k wr=>∃(j:Nat) (po:Option Addr) (pc pl:Nat) (M:Mat) (P:List Nat) (f:Rat),k= .int .i64 j/\p= .slice po pl pc/\j+g=c/\Hid (P.length=pl)/\Hid (rN m j=(M,P,f))/\RS X1 w b fb base 45 32 3 wr oo co po pc M P f)
 case atStart=>exact⟨0,none,0,0,m,[],1,rfl,rfl,by omega,hid rfl,hid rfl,hR0⟩
 case round=>
  obtain⟨j,po,pc,pl,M,P,f,rfl,rfl,hj,hpl,hst,hR⟩:=hrel;have hok:=a5t hsh'.out j;rw[hst.out]at hok;have hM:=hid hok.shp;have hMl:Hid (M.length=n):=hid hM.out.1;have hpn:pl<=n:=by have h1:P.length<=n:=hok.ref.le;rw[hpl.out]at h1;exact h1
  have hBM:=hid (hBj'.out j (by omega));rw[hst.out]at hBM;have hcolM:colsL M=c:=a7O hM.out hn0.out;have hco:=a3Q (R:=QC) (un (a8o X1 fb) po) wr (.slice oo n co) M ⟨oo,co,by rw[hMl.out],by rw[hMl.out];exact hcap,hR.rows.sl RC.elem⟩;rw[hcolM]at hco;clear hok hcolM;by_cases hlj:j<c
  ·go_wp2_with fail
   refine hco.mono ?_;rintro e w2 ⟨rfl,rfl⟩;clear hco;go_wp2_with fail
   go_loopw [9] (fun a wx=>∃(t:Nat),a= .int .i64 t/\pl<=t/\t<=n/\Hid (∀i,pl<=i->i<t->ent M i j=0)/\RS X1 w b fb base 45 32 3 wx oo co po pc M P f) (fun a _=>n - (intOf a).toNat)
   case atStart=>exact⟨pl,rfl,Nat.le_refl _,hpn,hid (fun i h1 h2=>by omega),hR⟩
   case round=>
    clear hR;obtain⟨t,rfl,htl,htn,hzz,hR⟩:=hrel;by_cases htt:t<n
    ·have htM:t<M.length:=by rw[hMl.out];exact htt
     obtain⟨a1,c1,k00,f00,hcl1,hq1⟩:=hR.row t htM;have hrl:Hid (M[t].length=c):=hid (hM.out.2 _ (List.getElem_mem _));have hjr:j<M[t].length:=by rw[hrl.out];exact hlj
     have hei:=hid (a9q htM hjr);rw[hrl.out]at k00 hcl1;have hh1:Hd a1 c:=by have:=hq1.hd;rw[hrl.out]at this;exact this
     have hxB:=hid (hBM.out.1 t j);have hZr:=hR.hz;obtain⟨g9,o9,s5,a5,n5,c5,d5,k5,e5,hg9,hX9,hc9,hu5⟩:=hq1.rat QC.shaped j hjr;rw[hei.out]at hu5;obtain⟨x,hx⟩:∃x,ent M t j=x:=⟨_,rfl⟩;rw[hx]at hei hxB hu5;have hx':=hid hx;obtain⟨k10,k11,k12⟩:=hc9.out noY wr (ExtX.refl _) rfl;have i1:∀W,(Instr.indexAt 25 (.slice oo n co) (.int .i64 (t:Int))).run Tryz.prog W= .ok (.pointer (some (adr oo t))) W:=a0z a0r oo n co .i64 t hhO (by omega) rfl;have i2:∀W,(Instr.indexAt 45 (.slice a1 c c1) (.int .i64 (j:Int))).run Tryz.prog W= .ok (.pointer (some ⟨g9,o9,none⟩)) W:=by rw[<-hg9];exact a0i a0A a1 c c1 .i64 j hh1 (by omega)
     clear hx f00 hc9 hg9 hX9;by_cases h0:x=0
     ·have hs0:(x.num.sign==(0:Int))=true:=by rw[h0];rfl
      have hzz2:Hid (∀i,pl<=i->i<t+1->ent M i j=0):=hid fun i h1 h2=>by
       by_cases e:i=t
       ·subst e;rw[hx'.out];exact h0
       ·exact hzz.out i h1 (by omega)
      clear h0;go_wp2_with fail
      refine(a9e (a5Q X1 fb po oo) wr _ x hZr (hu5.qv (by have:=hxB.out;have:=hB6'.out;omega))).mono ?_;rintro e w5 ⟨hE5,rfl⟩;have hR5:=hR.ext0 hE5;clear k00 k10 k11 k12 i1 i2;go_wp2_with fail
      go_roundw
      case rel=>exact⟨t+1,by go_num,by omega,by omega,hzz2,hR5⟩
      case measure=>simp[intOf];omega
     ·have hs0:(x.num.sign==(0:Int))=false:=a2X (by intro h;exact h0 (Rat.num_eq_zero.1 (Int.sign_eq_zero_iff_zero.1 h)))
      have hx0:=hid h0;have hne:((t:Int)==(n:Int))=false:=a2X (by omega);clear h0;go_wp2_with fail
      refine(a9e (a5Q X1 fb po oo) wr _ x hZr (hu5.qv (by have:=hxB.out;have:=hB6'.out;omega))).mono ?_;rintro e w5 ⟨hE5,rfl⟩;have hR5:=hR.ext0 hE5;clear k00 k10 k11 k12 i1 i2 hR hE5 hZr hq1 hu5 hh1
      go_upto_if 46 with(fail)
      have hplM:pl<M.length:=by rw[hMl.out];omega
      have hpn2:pl<n:=by omega
      have hsw:=hid (b1m htM hplM);have hpiv:Hid (rN m (j+1)=(out (pv (a1a M t pl) pl j) pl j n,P++[j],(if t - pl=0 then f else - f)*ent (a1a M t pl) pl j)):=hid (by
       have e1:pl+(t - pl)=t:=by omega
       have:=b6b hsh'.out hst.out hpl.out (a:=t - pl) (by rw[e1];exact hzz.out) (by omega) (by rw[e1,hx'.out];exact hx0.out);rw[e1]at this;exact this)
      have hM1s:=hid (hM.out.swap htt hpn2);have hB1s:=hid (hBM.out.1.swap hM.out htt hpn2);have hp1:Hid (ent (a1a M t pl) pl j≠0):=hid (by rw[a3c hM.out htt hpn2,if_pos rfl,hx'.out];exact hx0.out);have hfB:=hid hBM.out.2;clear hs0 hne hxB hx0 hei hcl1;go_cut []from 14 to 122 (fun wx=>∃f1,Hid (f1=if t - pl=0 then f else - f)/\RS X1 w b fb base 45 32 3 wx oo co po pc (a1a M t pl) P f1)
      case first=>
       by_cases htp:t=pl
       ·have hne2:((t:Int) !=(pl:Int))=false:=a7j (by omega)
        have hRs:RS X1 w b fb base 45 32 3 w5 oo co po pc (a1a M t pl) P f:=by rw[htp,a4S M pl hplM];exact hR5
        have hff:Hid (f=if t - pl=0 then f else - f):=hid (if_pos (by omega)).symm;clear htp hR5;go_wp2_with fail
        go_meet
        case rel=>exact⟨f,hff,hRs⟩
       ·have hne2:((t:Int) !=(pl:Int))=true:=a7g (by omega)
        have hff:Hid (- f=if t - pl=0 then f else - f):=hid (if_neg (by omega)).symm;obtain⟨ap,cp,y1,fy1,hclp,hqp⟩:=hR5.row pl hplM;obtain⟨ax,cx,y2,fy2,hclx,hqx⟩:=hR5.row t htM;obtain⟨hO1,hE1⟩:=hR5.rows.set1 a4x RC.elem SlV.one t htM (.slice ap M[pl].length cp) M[pl] ⟨ap,cp,rfl,hclp,hqp⟩;obtain⟨u3,k3,f3,hu3⟩:=hO1.cell SlV.one pl (by simpa using hplM);obtain⟨hO2,hE2⟩:=hO1.set1 a4x RC.elem SlV.one pl (by simpa using hplM) (.slice ax M[t].length cx) M[t] ⟨ax,cx,rfl,hclx,hqx.mono QC.mono (a0F hE1 fun k hk=>a0s hk)⟩;have hE6:=(hE1.trans hE2).drew;have hO2:=hO2.ext0 RC.elem (ExtX.refl (Y:=noY) _).drew;rw[hsw.out]at hO2;have hR6:=hR5.setRows hE6 hO2;have i1:∀W,(Instr.indexAt 25 (.slice oo n co) (.int .i64 (t:Int))).run Tryz.prog W= .ok (.pointer (some (adr oo t))) W:=a0z a0r oo n co .i64 t hhO (by omega) rfl;have i2:∀W,(Instr.indexAt 25 (.slice oo n co) (.int .i64 (pl:Int))).run Tryz.prog W= .ok (.pointer (some (adr oo pl))) W:=a0z a0r oo n co .i64 pl hhO (by omega) rfl;clear htp hu3 hO1 hO2 hE1 hE2 hR5 hqp hqx;go_wp2_with fail
        go_region
        obtain⟨w6,hw6⟩:∃w6,((w5.setCell (adr oo t) (.slice ap M[pl].length cp)).setCell (adr oo pl) (.slice ax M[t].length cx)).drew=w6:=⟨_,rfl⟩;rw[hw6]at hR6 |-;obtain⟨sf,af,nf,cf,df,kf,ef,bF,hqF⟩:=hR6.fac;have z0:=bF.cell 0 rfl;have z1:=bF.cell 1 rfl;have z2:=bF.cell 2 rfl;have hZ6:=hR6.hz;clear y1 y2 fy1 fy2 k3 f3 i1 i2 hw6 hE6;go_wp2_with fail
        refine(b4v (a5Q X1 fb po oo) w6 _ f hZ6 (hqF.qv (by have:=hfB.out;have:=hB6'.out;omega))).mono ?_;rintro e w7 ⟨hE7,u7,rfl,hu7⟩;obtain⟨s7,a7,n7,c7,d7,k7,e7,rfl⟩:=hu7.shape;have bF7:=bF.ext0 hE7;have hR7:=hR6.ext0 hE7;clear z0 z1 z2 bF;go_wp2_with ((with_reducible show wpList _ _ _ (⟨_, .store _ _ _,_,_,_,_⟩::_) _ _);refine a0b a0u rfl rfl bF7 rfl rfl (a2B _ _ _ _ _ _ _) ?_;intro w8 r1 r2)
        have hR8:=hR7.setFac r2 r1 (QC.mono _ _ _ _ (a0F r2 fun k hk=>a0m (a0m (a0s hk))) hu7)
        go_meet
        case rel=>exact⟨- f,hff,hR8⟩
      case rest=>
       obtain⟨f1,hf1,hR1⟩:=hcut;rw[<-hf1.out]at hpiv;have hf1B:Hid (hq f1<=B):=hid (by rw[hf1.out];split;exact hfB.out;rw[a5j];exact hfB.out);obtain⟨w6,hw6⟩:∃w6,w6=wc:=⟨_,rfl⟩;subst hw6;obtain⟨M1,hM1e⟩:∃M1,a1a M t pl=M1:=⟨_,rfl⟩;rw[hM1e]at hpiv hM1s hB1s hp1 hR1;have hM1l:Hid (M1.length=n):=hid hM1s.out.1;have hpM1:pl<M1.length:=by rw[hM1l.out];exact hpn2
       have hrl1:Hid (M1[pl].length=c):=hid (hM1s.out.2 _ (List.getElem_mem _));have hjp:j<M1[pl].length:=by rw[hrl1.out];exact hlj
       have hei:=hid (a9q hpM1 hjp);have hxB:=hid (hB1s.out pl j);have hpe:Hid (M1.getD pl []=M1[pl]):=hid (a2U hpM1);obtain⟨y,hy⟩:∃y,ent M1 pl j=y:=⟨_,rfl⟩;have hpvd:Hid (pv M1 pl j=M1.set pl (M1[pl].map (· *(((1:Int):Rat)/y)))):=hid (by unfold pv;rw[hpe.out,hy];rfl);rw[hy]at hei hxB hp1 hpiv;have hM2s:=hid (hM1s.out.pv hpn2 j);have hB2s:=hid (hB1s.out.pv hM1s.out hpn2 j);have hrowB:Hid (BR B M1[pl]):=hid (a4W hB1s.out _ (List.getElem_mem _));have i1:∀W,(Instr.indexAt 25 (.slice oo n co) (.int .i64 (pl:Int))).run Tryz.prog W= .ok (.pointer (some (adr oo pl))) W:=a0z a0r oo n co .i64 pl hhO (by omega) rfl;have hEd:Ext w6 w6.drew:=(ExtX.refl w6).drew;clear hR5 hM1e hy hx' hsw;go_upto_region 15 with(fail)
       go_cut []from 14 to 122 (fun wx=>RS X1 w b fb base 45 32 3 wx oo co po pc M1 P (f1*y))
       case first=>
        obtain⟨ap,cp,y1,fy1,hclp,hqp⟩:=hR1.row pl hpM1;obtain⟨g,o,s5,a5,n5,c5,d5,k5,e5,hg,hXg,hcg,hqg⟩:=hqp.rat QC.shaped j hjp;obtain⟨sf,af,nf,cf,df,kf,ef,bF,hqF⟩:=hR1.fac;rw[hei.out]at hqg;rw[hrl1.out]at y1 hclp;have hhp:Hd ap c:=by have:=hqp.hd;rw[hrl1.out]at this;exact this
        have i2:∀W,(Instr.indexAt 45 (.slice ap c cp) (.int .i64 (j:Int))).run Tryz.prog W= .ok (.pointer (some ⟨g,o,none⟩)) W:=by rw[<-hg];exact a0i a0A ap c cp .i64 j hhp (by omega)
        have bFd:=bF.ext0 hEd;have z0:=bFd.cell 0 rfl;have z1:=bFd.cell 1 rfl;have z2:=bFd.cell 2 rfl;obtain⟨k0,k1,k2⟩:=hcg.out noY w6.drew hEd rfl;have y1d:w6.drew.cell? (adr oo pl)=some (.slice ap c cp):=y1;have hRd:=hR1.ext0 hEd;have hZd:=hRd.hz;have hqFv:QV (mk (a5Q X1 fb po oo) w6.drew) (.agg #[.bool sf, .slice af nf cf, .slice df kf ef]) f1:=hqF.qv (by have:=hf1B.out;have:=hB6'.out;omega);have hqgv:QV (mk (a5Q X1 fb po oo) w6.drew) (.agg #[.bool s5, .slice a5 n5 c5, .slice d5 k5 e5]) y:=hqg.qv (by have:=hxB.out;have:=hB6'.out;omega);clear hqp hg hcg hR1 y1 fy1 bF;go_wp2_with fail
        go_region_with ((go_at_call 59;(with_reducible refine(b4x (a5Q X1 fb po oo) w6.drew _ _ f1 y hZd hqFv hqgv).mono ?_);rintro ee w7 ⟨t1,u7,rfl,hu7⟩;obtain⟨s7,a7,n7,c7,d7,k7,e7,rfl⟩:=hu7.shape;have bF7:=bFd.ext0 t1;have g0:=bF7.cell 0 rfl;have g1:=bF7.cell 1 rfl;have g2:=bF7.cell 2 rfl;have h0:=bF7.frozen 0;have h1:=bF7.frozen 1;have h2:=bF7.frozen 2))
        all_goals
         obtain⟨q1,q2⟩:=bF7.set3 (.bool s7) (.slice a7 n7 c7) (.slice d7 k7 e7);have hR8:=(hRd.ext0 t1).setFac q2 q1 (QC.mono _ _ _ _ (a0F q2 fun k hk=>a0m (a0m (a0s hk))) hu7);clear z0 z1 z2 k0 k1 k2 y1d g0 g1 g2 h0 h1 h2 i2;go_wp2_with fail
         go_meet
         case rel=>exact hR8
       case rest=>
        have hf2B:Hid (hq (f1*y)<=2*B):=hid (by have:=hq_mul f1 y;have:=hf1B.out;have:=hxB.out;omega);obtain⟨f2,hf2⟩:∃f2,f1*y=f2:=⟨_,rfl⟩;rw[hf2]at hf2B hcut hpiv;clear hR1 hEd hf2;obtain⟨w7,hw7⟩:∃w7,w7=wc:=⟨_,rfl⟩;subst hw7;have hR2:=hcut;have hEd:Ext w7 w7.drew:=(ExtX.refl w7).drew;clear hcut;go_upto_region 16 with(fail)
        go_cut []from 14 to 122 (fun wx=>RS X1 w b fb base 45 32 3 wx oo co po pc (pv M1 pl j) P f2)
        case first=>
         obtain⟨ap,cp,y1,fy1,hclp,hqp⟩:=hR2.row pl hpM1;obtain⟨g,o,s5,a5,n5,c5,d5,k5,e5,hg,hXg,hcg,hqg⟩:=hqp.rat QC.shaped j hjp;rw[hei.out]at hqg;have hhp:Hd ap c:=by have:=hqp.hd;rw[hrl1.out]at this;exact this
         have i2:∀W,(Instr.indexAt 45 (.slice ap c cp) (.int .i64 (j:Int))).run Tryz.prog W= .ok (.pointer (some ⟨g,o,none⟩)) W:=by rw[<-hg];exact a0i a0A ap c cp .i64 j hhp (by omega)
         have hrp:RV (mk (a5Q X1 fb po oo) w7.drew) (.slice ap c cp) M1[pl]:=by
          rw[<-hrl1.out];exact⟨ap,cp,rfl,hclp,hqp.qv fun q hq=>Nat.le_trans (hrowB.out q hq) (by have:=hB6'.out;omega)⟩
         rw[hrl1.out]at y1 hclp;have hS:Hid (∀W',Ext w7.drew W'->W'.cell? (adr oo pl)=some (.slice ap c cp)/\W'.cell? ⟨g,o,none⟩=some (.bool s5)/\W'.cell? ⟨g,o+1,none⟩=some (.slice a5 n5 c5)/\W'.cell? ⟨g,o+2,none⟩=some (.slice d5 k5 e5)):=hid fun W' h=>by
          obtain⟨k0,k1,k2⟩:=hcg.out noY W' (hEd.trans h) rfl;exact⟨(hEd.trans h).cell y1,k0,k1,k2⟩
         obtain⟨y1d,k0,k1,k2⟩:=hS.out w7.drew (ExtX.refl _);have hRd:=hR2.ext0 hEd;have hZd:=hRd.hz;have hqgv:QV (mk (a5Q X1 fb po oo) w7.drew) (.agg #[.bool s5, .slice a5 n5 c5, .slice d5 k5 e5]) y:=hqg.qv (by have:=hxB.out;have:=hB6'.out;omega);have h1q:Hid (hq (((1:Int):Rat))<=68719476736):=hid (by decide+kernel);have hqb:Hid (hq (((1:Int):Rat)/y)<=68719476736):=hid (by have h3:=hq_div ((1:Int):Rat) y;have h4:hq (((1:Int):Rat))=1:=(by decide+kernel);have:=hxB.out;have:=hB6'.out;have:=a6o y;omega);have hrl3:Hid (M1[pl].length<=1000000):=hid (by rw[hrl1.out];omega);clear hqp hg hcg hR2 y1 fy1;go_wp2_with fail
         refine a0N 17 (fun w'=>w'.cell? (adr oo pl)=some (.slice ap c cp)/\w'.cell? ⟨g,o,none⟩=some (.bool s5)/\w'.cell? ⟨g,o+1,none⟩=some (.slice a5 n5 c5)/\w'.cell? ⟨g,o+2,none⟩=some (.slice d5 k5 e5)) (by kernel_rfl) (by kernel_rfl) (hS.out _ (ExtX.refl _)) (fun hHeld hOnce=>?_);clear y1d k0 k1 k2;refine a0a hOnce (i:=0) (oi:=⟨_,_,_,_,_,_⟩) (v:=?_) rfl (by kernel_rfl) (fun _ _ _ h=>h) (by assumption) (by rfl) (fun w hSw=>?_) ?_
         rotate_left
         ·(try dsimp only at hSw)
          go_simp
          all_goals with_reducible rfl
         (try simp only[Act.put,List.setIfInBounds_toArray,List.set_cons_zero,List.set_cons_succ])
         refine a0a hOnce (i:=1) (oi:=⟨_,_,_,_,_,_⟩) (v:=?_) rfl (by kernel_rfl) (fun _ _ _ h=>h) (by assumption) (by rfl) (fun w hSw=>?_) ?_
         rotate_left
         ·(try dsimp only at hSw)
          go_simp
          all_goals with_reducible rfl
         (try simp only[Act.put,List.setIfInBounds_toArray,List.set_cons_zero,List.set_cons_succ])
         refine a0a hOnce (i:=2) (oi:=⟨_,_,_,_,_,_⟩) (v:=?_) rfl (by kernel_rfl) (fun _ _ _ h=>h) (by assumption) (by rfl) (fun w hSw=>?_) ?_
         rotate_left
         ·(try dsimp only at hSw)
          go_simp
          all_goals with_reducible rfl
         (try simp only[Act.put,List.setIfInBounds_toArray,List.set_cons_zero,List.set_cons_succ])
         refine a0a hOnce (i:=3) (oi:=⟨_,_,_,_,_,_⟩) (v:=?_) rfl (by kernel_rfl) (fun _ _ _ h=>h) (by assumption) (by rfl) (fun w hSw=>?_) ?_
         rotate_left
         ·(try dsimp only at hSw)
          go_simp
          all_goals with_reducible rfl
         (try simp only[Act.put,List.setIfInBounds_toArray,List.set_cons_zero,List.set_cons_succ])
         refine a0a hOnce (i:=4) (oi:=⟨_,_,_,_,_,_⟩) (v:=?_) rfl (by kernel_rfl) (fun _ _ _ h=>h) (by assumption) (by rfl) (fun w hSw=>?_) ?_
         rotate_left
         ·(try dsimp only at hSw)
          go_simp
          all_goals with_reducible rfl
         (try simp only[Act.put,List.setIfInBounds_toArray,List.set_cons_zero,List.set_cons_succ])
         refine a0a hOnce (i:=5) (oi:=⟨_,_,_,_,_,_⟩) (v:=?_) rfl (by kernel_rfl) (fun _ _ _ h=>h) (by assumption) (by rfl) (fun w hSw=>?_) ?_
         rotate_left
         ·(try dsimp only at hSw)
          go_simp
          all_goals with_reducible rfl
         (try simp only[Act.put,List.setIfInBounds_toArray,List.set_cons_zero,List.set_cons_succ])
         refine a0a hOnce (i:=7) (oi:=⟨_,_,_,_,_,_⟩) (v:=?_) rfl (by kernel_rfl) (fun _ _ _ h=>h) (by assumption) (by rfl) (fun w hSw=>?_) ?_
         rotate_left
         ·(try dsimp only at hSw)
          go_simp
          all_goals with_reducible rfl
         (try simp only[Act.put,List.setIfInBounds_toArray,List.set_cons_zero,List.set_cons_succ])
         refine a0a hOnce (i:=8) (oi:=⟨_,_,_,_,_,_⟩) (v:=?_) rfl (by kernel_rfl) (fun _ _ _ h=>h) (by assumption) (by rfl) (fun w hSw=>?_) ?_
         rotate_left
         ·(try dsimp only at hSw)
          go_simp
          all_goals with_reducible rfl
         (try simp only[Act.put,List.setIfInBounds_toArray,List.set_cons_zero,List.set_cons_succ])
         refine a0a hOnce (i:=9) (oi:=⟨_,_,_,_,_,_⟩) (v:=?_) rfl (by kernel_rfl) (fun _ _ _ h=>h) (by assumption) (by rfl) (fun w hSw=>?_) ?_
         rotate_left
         ·(try dsimp only at hSw)
          go_simp
          all_goals with_reducible rfl
         (try simp only[Act.put,List.setIfInBounds_toArray,List.set_cons_zero,List.set_cons_succ])
         refine a0a hOnce (i:=10) (oi:=⟨_,_,_,_,_,_⟩) (v:=?_) rfl (by kernel_rfl) (fun _ _ _ h=>h) (by assumption) (by rfl) (fun w hSw=>?_) ?_
         rotate_left
         ·(try dsimp only at hSw)
          go_simp
          all_goals with_reducible rfl
         (try simp only[Act.put,List.setIfInBounds_toArray,List.set_cons_zero,List.set_cons_succ])
         refine a0a hOnce (i:=11) (oi:=⟨_,_,_,_,_,_⟩) (v:=?_) rfl (by kernel_rfl) (fun _ _ _ h=>h) (by assumption) (by rfl) (fun w hSw=>?_) ?_
         rotate_left
         ·(try dsimp only at hSw)
          go_simp
          all_goals with_reducible rfl
         (try simp only[Act.put,List.setIfInBounds_toArray,List.set_cons_zero,List.set_cons_succ])
         refine a0a hOnce (i:=12) (oi:=⟨_,_,_,_,_,_⟩) (v:=?_) rfl (by kernel_rfl) (fun _ _ _ h=>h) (by assumption) (by rfl) (fun w hSw=>?_) ?_
         rotate_left
         ·(try dsimp only at hSw)
          go_simp
          all_goals with_reducible rfl
         (try simp only[Act.put,List.setIfInBounds_toArray,List.set_cons_zero,List.set_cons_succ])
         refine a0a hOnce (i:=13) (oi:=⟨_,_,_,_,_,_⟩) (v:=?_) rfl (by kernel_rfl) (fun _ _ _ h=>h) (by assumption) (by rfl) (fun w hSw=>?_) ?_
         rotate_left
         ·(try dsimp only at hSw)
          go_simp
          all_goals with_reducible rfl
         (try simp only[Act.put,List.setIfInBounds_toArray,List.set_cons_zero,List.set_cons_succ])
         refine a0e (i:=6) (o:=⟨_,_,_,_,_,_⟩) (by kernel_rfl) rfl (fun K hK=>?_);go_simp
         (go_at_call 48;(with_reducible refine(a3W (a5Q X1 fb po oo) w7.drew 1 hZd (by decide) (by decide)).mono ?_);rintro ee w8 ⟨t1,u8,rfl,hu8⟩)
         refine hK.out _ _ (hS.out w8 t1) (fun hHeld=>?_);clear hK K
         (try simp only[Act.put,List.setIfInBounds_toArray,List.set_cons_zero,List.set_cons_succ])
         obtain⟨s8,a8,n8,c8,d8,k8,e8,rfl⟩:=hu8.shape;have hX8:=hZd.ext t1;have hx8:=mkx QV.mono hqgv t1;have hu8v:=hu8.qv h1q.out;refine a0e (i:=14) (o:=⟨_,_,_,_,_,_⟩) (by kernel_rfl) rfl (fun K hK=>?_);go_simp
         (go_at_call 232;(with_reducible refine(b6D (a5Q X1 fb po oo) w8 _ _ _ y hX8 hu8v hx8 hp1.out).mono ?_);rintro ee w9 ⟨t2,u9,rfl,hu9⟩)
         refine hK.out _ _ (hS.out w9 (t1.trans t2)) (fun hHeld=>?_);clear hK K
         (try simp only[Act.put,List.setIfInBounds_toArray,List.set_cons_zero,List.set_cons_succ])
         obtain⟨s9,a9,n9,c9,d9,k9,e9,rfl⟩:=hu9.shape;have t12:=t1.trans t2;have hX9:=hZd.ext t12;have hr9:=mkx RV.mono hrp t12;have hu9v:=hu9.qv hqb.out;refine a0e (i:=15) (o:=⟨_,_,_,_,_,_⟩) (by kernel_rfl) rfl (fun K hK=>?_);go_simp
         (go_at_call 58;(with_reducible refine(b3D (a5Q X1 fb po oo) w9 _ _ _ _ hX9 hr9 hu9v hrl3.out).mono ?_);rintro ee w10 ⟨t3,u10,rfl,hu10⟩)
         refine hK.out _ _ (hS.out w10 (t12.trans t3)) (fun hHeld=>?_);clear hK K
         (try simp only[Act.put,List.setIfInBounds_toArray,List.set_cons_zero,List.set_cons_succ])
         obtain⟨a10,c10,rfl,hcl10,hs10⟩:=hu10;have t13:=t12.trans t3;have hR10:=hRd.ext0 t13;obtain⟨_,_,p0,fz,_,_⟩:=hR10.row pl hpM1;refine a0a hOnce (i:=16) (oi:=⟨_,_,_,_,_,_⟩) (v:=?_) rfl (by kernel_rfl) (fun _ _ _ h=>h) (by assumption) (by rfl) (fun w hSw=>?_) ?_
         rotate_left
         ·(try dsimp only at hSw)
          go_simp
          all_goals with_reducible rfl
         (try simp only[Act.put,List.setIfInBounds_toArray,List.set_cons_zero,List.set_cons_succ])
         refine a0o (i:=17) (o:=⟨_,_,_,_,_,_⟩) (by kernel_rfl) rfl (by decide) (by kernel_rfl) (fun K hK=>?_);go_simp
         refine hK.out _ _ ?_;clear hK K;obtain⟨hO11,hE11⟩:=hR10.rows.set1 a4x RC.elem SlV.one pl hpM1 (.slice a10 M1[pl].length c10) (M1[pl].map (· *(((1:Int):Rat)/y))) ⟨a10,c10,by rw[List.length_map],hcl10,hs10⟩;have hR11:=hR10.setRows hE11 hO11;have hR12:=hR11;rw[<-hpvd.out]at hR12;clear p0 fz i2 hO11 hE11 hR11 hHeld hOnce;go_wp2_with fail
         go_meet
         case rel=>exact hR12
        case rest=>
         have hR3:=hcut;clear hcut hR2 hEd i1;obtain⟨w8,hw8⟩:∃w8,w8=wc:=⟨_,rfl⟩;subst hw8;obtain⟨M2,hM2e⟩:∃M2,pv M1 pl j=M2:=⟨_,rfl⟩;rw[hM2e]at hR3 hpiv hM2s hB2s;have hM2l:Hid (M2.length=n):=hid hM2s.out.1;have hR4:RS X1 w b fb base 45 32 3 w8 oo co po pc (out M2 pl j 0) P f2:=by rw[b2R];exact hR3
         have hbm2:=hid (a4W hB2s.out);have hb0:Hid (∀wx,OL RC 1 (un (a8o X1 fb) po) base 45 wx oo co (out M2 pl j n)->base<=wx.heap.size):=hid fun wx h=>by
          obtain⟨b0,o0,hb0⟩:=hhO (by omega);have:=h.block (k:=b0) (by rw[hb0];simp[ob]);omega
         have i1:∀W,(Instr.indexAt 25 (.slice oo n co) (.int .i64 (pl:Int))).run Tryz.prog W= .ok (.pointer (some (adr oo pl))) W:=a0z a0r oo n co .i64 pl hhO (by omega) rfl;clear hM2e hR3 hjp hrl1 hei hxB hpvd hrowB hp1;go_wp2_with fail
         go_loopw [10] (fun a wx=>∃(i:Nat),a= .int .i64 i/\i<=n/\RS X1 w b fb base 45 32 3 wx oo co po pc (out M2 pl j i) P f2) (fun a _=>n - (intOf a).toNat)
         case atStart=>exact⟨0,rfl,Nat.zero_le _,hR4⟩
         case round=>
          clear hR4;obtain⟨i,rfl,hi,hR⟩:=hrel;by_cases hlt:i<n
          ·by_cases hip:i=pl
           ·have hne3:((i:Int) !=(pl:Int))=false:=a7j (by omega)
            have hRn:RS X1 w b fb base 45 32 3 wr oo co po pc (out M2 pl j (i+1)) P f2:=by subst hip;rw[<-b2S];exact hR
            clear hip hR;go_wp2_with fail
            go_roundw
            case rel=>exact⟨i+1,by go_num,by omega,hRn⟩
            case measure=>simp[intOf];omega
           ·have hne3:((i:Int) !=(pl:Int))=true:=a7g (by omega)
            have hiM:i<M2.length:=by rw[hM2l.out];exact hlt
            have hpM:pl<M2.length:=by rw[hM2l.out];exact hpn2
            have hiO:i<(out M2 pl j i).length:=by rw[a4g];exact hiM
            have hpO:pl<(out M2 pl j i).length:=by rw[a4g];exact hpM
            have hgi:(out M2 pl j i)[i]=M2[i]:=by rw[a4Y hiO hiM,if_neg (by omega)]
            have hgp:(out M2 pl j i)[pl]=M2[pl]:=by rw[a4Y hpO hpM,if_neg (by omega)]
            have hset:=hid (b4I (m:=M2) (t:=pl) (col:=j) hiM hip);rw[a2U hpM]at hset;obtain⟨ai,ci,y1,fy1,hcli,hqi⟩:=hR.row i hiO;obtain⟨ap,cp,y2,fy2,hclp,hqp⟩:=hR.row pl hpO;rw[hgi]at y1 hcli hqi;rw[hgp]at y2 hclp hqp;have hrli:Hid (M2[i].length=c):=hid (hM2s.out.2 _ (List.getElem_mem _));have hrlp:Hid (M2[pl].length=c):=hid (hM2s.out.2 _ (List.getElem_mem _));have hBi:=hid (hbm2.out M2[i] (List.getElem_mem _));have hBp:=hid (hbm2.out M2[pl] (List.getElem_mem _));have hji:j<M2[i].length:=by rw[hrli.out];exact hlj
            obtain⟨g,o,s5,a5,n5,c5,d5,k5,e5,hg,hXg,hcg,hqg⟩:=hqi.rat QC.shaped j hji;have hvv:M2[i].getD j 0=M2[i][j]:=by rw[List.getD_eq_getElem?_getD,List.getElem?_eq_getElem hji];rfl
            rw[hvv]at hset;have hvB:=hid (hBi.out M2[i][j] (List.getElem_mem _));obtain⟨v,hv⟩:∃v,M2[i][j]=v:=⟨_,rfl⟩;rw[hv]at hset hqg hvB;clear hv hvv hgi hgp;obtain⟨row,hrow⟩:∃row,M2[i]=row:=⟨_,rfl⟩;rw[hrow]at hset hqi y1 hcli hrli hBi;obtain⟨piv,hpv⟩:∃piv,M2[pl]=piv:=⟨_,rfl⟩;rw[hpv]at hset hqp y2 hclp hrlp hBp;have hhi:Hd ai c:=by have:=hqi.hd;rw[hrli.out]at this;exact this
            have hEd:Ext wr wr.drew:=(ExtX.refl wr).drew;have i2:∀W,(Instr.indexAt 45 (.slice ai c ci) (.int .i64 (j:Int))).run Tryz.prog W= .ok (.pointer (some ⟨g,o,none⟩)) W:=by rw[<-hg];exact a0i a0A ai c ci .i64 j hhi (by omega)
            have i3:∀W,(Instr.indexAt 25 (.slice oo n co) (.int .i64 (i:Int))).run Tryz.prog W= .ok (.pointer (some (adr oo i))) W:=a0z a0r oo n co .i64 i hhO (by omega) rfl;have hri:RV (mk (a5Q X1 fb po oo) wr.drew) (.slice ai c ci) row:=by
             rw[<-hrli.out];exact⟨ai,ci,rfl,hcli,hqi.qv fun q hq=>Nat.le_trans (hBi.out q hq) (by have:=hB6'.out;omega)⟩
            have hrp:RV (mk (a5Q X1 fb po oo) wr.drew) (.slice ap c cp) piv:=by
             rw[<-hrlp.out];exact⟨ap,cp,rfl,hclp,hqp.qv fun q hq=>Nat.le_trans (hBp.out q hq) (by have:=hB6'.out;omega)⟩
            rw[hrli.out]at y1;rw[hrlp.out]at y2;have hS:Hid (∀W',Ext wr.drew W'->W'.cell? (adr oo i)=some (.slice ai c ci)/\W'.cell? (adr oo pl)=some (.slice ap c cp)/\W'.cell? ⟨g,o,none⟩=some (.bool s5)/\W'.cell? ⟨g,o+1,none⟩=some (.slice a5 n5 c5)/\W'.cell? ⟨g,o+2,none⟩=some (.slice d5 k5 e5)):=hid fun W' h=>by
             obtain⟨k0,k1,k2⟩:=hcg.out noY W' (hEd.trans h) rfl;exact⟨(hEd.trans h).cell y1,(hEd.trans h).cell y2,k0,k1,k2⟩
            obtain⟨y1d,y2d,k0,k1,k2⟩:=hS.out wr.drew (ExtX.refl _);have hRd:=hR.ext0 hEd;have hZd:=hRd.hz;have hqgv:QV (mk (a5Q X1 fb po oo) wr.drew) (.agg #[.bool s5, .slice a5 n5 c5, .slice d5 k5 e5]) v:=hqg.qv (by have:=hvB.out;have:=hB6'.out;omega);have hnb:Hid (hq (-v)<=68719476736):=hid (by rw[a5j];have:=hvB.out;have:=hB6'.out;omega);have hprod:Hid (BR 68719476736 (piv.map (· * -v))):=hid fun q hq=>by
             obtain⟨x,hx,rfl⟩:=List.mem_map.1 hq;have h1:=hBp.out x hx;have h2:=hq_mul x (-v);rw[a5j]at h2;have:=hvB.out;have:=hB6'.out;omega
            have hl1:Hid (piv.length<=1000000):=hid (by rw[hrlp.out];omega);have hl2:Hid (row.length<=1000000):=hid (by rw[hrli.out];omega);have hl3:Hid ((piv.map (· * -v)).length=row.length):=hid (by rw[List.length_map,hrlp.out,hrli.out]);have hiO':=hid hiO;obtain⟨PR,hPR⟩:∃PR,piv.map (· * -v)=PR:=⟨_,rfl⟩;have hPR':=hid hPR;rw[hPR]at hset hprod hl3;obtain⟨NR,hNR⟩:∃NR,List.zipWith (· + ·) row PR=NR:=⟨_,rfl⟩;have hNR':=hid hNR;rw[hNR]at hset;clear hqi hqp hg hcg hR y1 fy1 y2 fy2 hrow hpv hip hiM hpM hpO hqg hiO hji hcli hclp hPR hNR;go_wp2_with fail
            refine a0N 21 (fun w'=>w'.cell? (adr oo i)=some (.slice ai c ci)/\w'.cell? (adr oo pl)=some (.slice ap c cp)/\w'.cell? ⟨g,o,none⟩=some (.bool s5)/\w'.cell? ⟨g,o+1,none⟩=some (.slice a5 n5 c5)/\w'.cell? ⟨g,o+2,none⟩=some (.slice d5 k5 e5)) (by kernel_rfl) (by kernel_rfl) (hS.out _ (ExtX.refl _)) (fun hHeld hOnce=>?_);clear y1d y2d k0 k1 k2;refine a0a hOnce (i:=0) (oi:=⟨_,_,_,_,_,_⟩) (v:=?_) rfl (by kernel_rfl) (fun _ _ _ h=>h) (by assumption) (by rfl) (fun w hSw=>?_) ?_
            rotate_left
            ·(try dsimp only at hSw)
             go_simp
             all_goals with_reducible rfl
            (try simp only[Act.put,List.setIfInBounds_toArray,List.set_cons_zero,List.set_cons_succ])
            refine a0a hOnce (i:=1) (oi:=⟨_,_,_,_,_,_⟩) (v:=?_) rfl (by kernel_rfl) (fun _ _ _ h=>h) (by assumption) (by rfl) (fun w hSw=>?_) ?_
            rotate_left
            ·(try dsimp only at hSw)
             go_simp
             all_goals with_reducible rfl
            (try simp only[Act.put,List.setIfInBounds_toArray,List.set_cons_zero,List.set_cons_succ])
            refine a0a hOnce (i:=2) (oi:=⟨_,_,_,_,_,_⟩) (v:=?_) rfl (by kernel_rfl) (fun _ _ _ h=>h) (by assumption) (by rfl) (fun w hSw=>?_) ?_
            rotate_left
            ·(try dsimp only at hSw)
             go_simp
             all_goals with_reducible rfl
            (try simp only[Act.put,List.setIfInBounds_toArray,List.set_cons_zero,List.set_cons_succ])
            refine a0a hOnce (i:=3) (oi:=⟨_,_,_,_,_,_⟩) (v:=?_) rfl (by kernel_rfl) (fun _ _ _ h=>h) (by assumption) (by rfl) (fun w hSw=>?_) ?_
            rotate_left
            ·(try dsimp only at hSw)
             go_simp
             all_goals with_reducible rfl
            (try simp only[Act.put,List.setIfInBounds_toArray,List.set_cons_zero,List.set_cons_succ])
            refine a0a hOnce (i:=4) (oi:=⟨_,_,_,_,_,_⟩) (v:=?_) rfl (by kernel_rfl) (fun _ _ _ h=>h) (by assumption) (by rfl) (fun w hSw=>?_) ?_
            rotate_left
            ·(try dsimp only at hSw)
             go_simp
             all_goals with_reducible rfl
            (try simp only[Act.put,List.setIfInBounds_toArray,List.set_cons_zero,List.set_cons_succ])
            refine a0a hOnce (i:=5) (oi:=⟨_,_,_,_,_,_⟩) (v:=?_) rfl (by kernel_rfl) (fun _ _ _ h=>h) (by assumption) (by rfl) (fun w hSw=>?_) ?_
            rotate_left
            ·(try dsimp only at hSw)
             go_simp
             all_goals with_reducible rfl
            (try simp only[Act.put,List.setIfInBounds_toArray,List.set_cons_zero,List.set_cons_succ])
            refine a0a hOnce (i:=6) (oi:=⟨_,_,_,_,_,_⟩) (v:=?_) rfl (by kernel_rfl) (fun _ _ _ h=>h) (by assumption) (by rfl) (fun w hSw=>?_) ?_
            rotate_left
            ·(try dsimp only at hSw)
             go_simp
             all_goals with_reducible rfl
            (try simp only[Act.put,List.setIfInBounds_toArray,List.set_cons_zero,List.set_cons_succ])
            refine a0a hOnce (i:=7) (oi:=⟨_,_,_,_,_,_⟩) (v:=?_) rfl (by kernel_rfl) (fun _ _ _ h=>h) (by assumption) (by rfl) (fun w hSw=>?_) ?_
            rotate_left
            ·(try dsimp only at hSw)
             go_simp
             all_goals with_reducible rfl
            (try simp only[Act.put,List.setIfInBounds_toArray,List.set_cons_zero,List.set_cons_succ])
            refine a0a hOnce (i:=8) (oi:=⟨_,_,_,_,_,_⟩) (v:=?_) rfl (by kernel_rfl) (fun _ _ _ h=>h) (by assumption) (by rfl) (fun w hSw=>?_) ?_
            rotate_left
            ·(try dsimp only at hSw)
             go_simp
             all_goals with_reducible rfl
            (try simp only[Act.put,List.setIfInBounds_toArray,List.set_cons_zero,List.set_cons_succ])
            refine a0a hOnce (i:=9) (oi:=⟨_,_,_,_,_,_⟩) (v:=?_) rfl (by kernel_rfl) (fun _ _ _ h=>h) (by assumption) (by rfl) (fun w hSw=>?_) ?_
            rotate_left
            ·(try dsimp only at hSw)
             go_simp
             all_goals with_reducible rfl
            (try simp only[Act.put,List.setIfInBounds_toArray,List.set_cons_zero,List.set_cons_succ])
            refine a0a hOnce (i:=10) (oi:=⟨_,_,_,_,_,_⟩) (v:=?_) rfl (by kernel_rfl) (fun _ _ _ h=>h) (by assumption) (by rfl) (fun w hSw=>?_) ?_
            rotate_left
            ·(try dsimp only at hSw)
             go_simp
             all_goals with_reducible rfl
            (try simp only[Act.put,List.setIfInBounds_toArray,List.set_cons_zero,List.set_cons_succ])
            refine a0a hOnce (i:=11) (oi:=⟨_,_,_,_,_,_⟩) (v:=?_) rfl (by kernel_rfl) (fun _ _ _ h=>h) (by assumption) (by rfl) (fun w hSw=>?_) ?_
            rotate_left
            ·(try dsimp only at hSw)
             go_simp
             all_goals with_reducible rfl
            (try simp only[Act.put,List.setIfInBounds_toArray,List.set_cons_zero,List.set_cons_succ])
            refine a0a hOnce (i:=12) (oi:=⟨_,_,_,_,_,_⟩) (v:=?_) rfl (by kernel_rfl) (fun _ _ _ h=>h) (by assumption) (by rfl) (fun w hSw=>?_) ?_
            rotate_left
            ·(try dsimp only at hSw)
             go_simp
             all_goals with_reducible rfl
            (try simp only[Act.put,List.setIfInBounds_toArray,List.set_cons_zero,List.set_cons_succ])
            refine a0a hOnce (i:=13) (oi:=⟨_,_,_,_,_,_⟩) (v:=?_) rfl (by kernel_rfl) (fun _ _ _ h=>h) (by assumption) (by rfl) (fun w hSw=>?_) ?_
            rotate_left
            ·(try dsimp only at hSw)
             go_simp
             all_goals with_reducible rfl
            (try simp only[Act.put,List.setIfInBounds_toArray,List.set_cons_zero,List.set_cons_succ])
            refine a0a hOnce (i:=14) (oi:=⟨_,_,_,_,_,_⟩) (v:=?_) rfl (by kernel_rfl) (fun _ _ _ h=>h) (by assumption) (by rfl) (fun w hSw=>?_) ?_
            rotate_left
            ·(try dsimp only at hSw)
             go_simp
             all_goals with_reducible rfl
            (try simp only[Act.put,List.setIfInBounds_toArray,List.set_cons_zero,List.set_cons_succ])
            refine a0a hOnce (i:=15) (oi:=⟨_,_,_,_,_,_⟩) (v:=?_) rfl (by kernel_rfl) (fun _ _ _ h=>h) (by assumption) (by rfl) (fun w hSw=>?_) ?_
            rotate_left
            ·(try dsimp only at hSw)
             go_simp
             all_goals with_reducible rfl
            (try simp only[Act.put,List.setIfInBounds_toArray,List.set_cons_zero,List.set_cons_succ])
            refine a0a hOnce (i:=16) (oi:=⟨_,_,_,_,_,_⟩) (v:=?_) rfl (by kernel_rfl) (fun _ _ _ h=>h) (by assumption) (by rfl) (fun w hSw=>?_) ?_
            rotate_left
            ·(try dsimp only at hSw)
             go_simp
             all_goals with_reducible rfl
            (try simp only[Act.put,List.setIfInBounds_toArray,List.set_cons_zero,List.set_cons_succ])
            refine a0e (i:=17) (o:=⟨_,_,_,_,_,_⟩) (by kernel_rfl) rfl (fun K hK=>?_);go_simp
            (go_at_call 148;(with_reducible refine(b4v (a5Q X1 fb po oo) wr.drew _ v hZd hqgv).mono ?_);rintro ee w9 ⟨t1,u9,rfl,hu9⟩)
            refine hK.out _ _ (hS.out w9 t1) (fun hHeld=>?_);clear hK K
            (try simp only[Act.put,List.setIfInBounds_toArray,List.set_cons_zero,List.set_cons_succ])
            obtain⟨s9,a9,n9,c9,d9,k9,e9,rfl⟩:=hu9.shape;have hX9:=hZd.ext t1;have hr9:=mkx RV.mono hrp t1;have hu9v:=hu9.qv hnb.out;refine a0e (i:=18) (o:=⟨_,_,_,_,_,_⟩) (by kernel_rfl) rfl (fun K hK=>?_);go_simp
            (go_at_call 58;(with_reducible refine(b3D (a5Q X1 fb po oo) w9 _ _ piv (-v) hX9 hr9 hu9v hl1.out).mono ?_);rintro ee w10 ⟨t2,u10,rfl,hu10⟩)
            refine hK.out _ _ (hS.out w10 (t1.trans t2)) (fun hHeld=>?_);clear hK K
            (try simp only[Act.put,List.setIfInBounds_toArray,List.set_cons_zero,List.set_cons_succ])
            rw[hPR'.out]at hu10;have hu10v:=hu10.rv hprod.out;obtain⟨a10,c10,rfl,hcl10,hs10⟩:=hu10;have t12:=t1.trans t2;have hX10:=hZd.ext t12;have hr10:=mkx RV.mono hri t12;refine a0e (i:=19) (o:=⟨_,_,_,_,_,_⟩) (by kernel_rfl) rfl (fun K hK=>?_);go_simp
            (go_at_call 134;(with_reducible refine(b6E (a5Q X1 fb po oo) w10 _ _ row _ hX10 hr10 hu10v hl2.out hl3.out).mono ?_);rintro ee w11 ⟨t3,u11,rfl,hu11⟩)
            refine hK.out _ _ (hS.out w11 (t12.trans t3)) (fun hHeld=>?_);clear hK K
            (try simp only[Act.put,List.setIfInBounds_toArray,List.set_cons_zero,List.set_cons_succ])
            rw[hNR'.out]at hu11;obtain⟨a11,c11,rfl,hcl11,hs11⟩:=hu11;have hR11:=hRd.ext0 (t12.trans t3);obtain⟨_,_,p0,fz,_,_⟩:=hR11.row i hiO'.out;refine a0a hOnce (i:=20) (oi:=⟨_,_,_,_,_,_⟩) (v:=?_) rfl (by kernel_rfl) (fun _ _ _ h=>h) (by assumption) (by rfl) (fun w hSw=>?_) ?_
            rotate_left
            ·(try dsimp only at hSw)
             go_simp
             all_goals with_reducible rfl
            (try simp only[Act.put,List.setIfInBounds_toArray,List.set_cons_zero,List.set_cons_succ])
            refine a0o (i:=21) (o:=⟨_,_,_,_,_,_⟩) (by kernel_rfl) rfl (by decide) (by kernel_rfl) (fun K hK=>?_);go_simp
            refine hK.out _ _ ?_;clear hK K;obtain⟨hO12,hE12⟩:=hR11.rows.set1 a4x RC.elem SlV.one i hiO'.out (.slice a11 NR.length c11) NR ⟨a11,c11,rfl,hcl11,hs11⟩;have hR12:=hR11.setRows hE12 hO12;rw[hset.out]at hR12;clear p0 fz i2 i3 hO12 hE12 hR11 hHeld hOnce;go_wp2_with fail
            go_roundw
            case rel=>exact⟨i+1,by go_num,by omega,hR12⟩
            case measure=>simp[intOf];omega
          ·have hin:i=n:=by omega
           subst hin;have hbase:=hb0.out wr hR.rows;have hXz:∀k,un (a8o X1 fb) oo k=true->k<wr.heap.size:=fun k hk=>hR.hz k (by
            by_cases h:a8o X1 fb k=true
            ·exact a0m (a0m h)
            ·exact a0s (by simpa[un,h]using hk))
           have hP:=hR.piv;have hpl2:Hid ((P++[j]).length=pl+1):=hid (by rw[List.length_append,hpl.out];rfl);clear i1 hb0;go_wp2_with (at_builtin;refine a0x (l:=P) a6y rfl (a0c.elem .i64) hbase hXz pl hpl.out rfl rfl hP (.int .i64 (j:Int)) j rfl rfl (by omega) (by omega) ?_;intro po2 pc2 w10 hP6 hE7 hor)
           have hR9:=hR.push hE7 hP6 hor;go_roundg (c - (j+1))
           case measure=>omega
           case rel=>exact⟨j+1,po2,pc2,pl+1,_,_,_,by go_num,rfl,by omega,hpl2,hpiv,hR9⟩
    ·have hin:t=n:=by omega
     subst hin;have hne:((t:Int)==(t:Int))=true:=a5Y rfl;have hst2:=hid (b4J hsh'.out hst.out hpl.out hzz.out);clear hzz;go_wp2_with fail
     go_roundg (c - (j+1))
     case measure=>omega
     case rel=>exact⟨j+1,po,pc,pl,M,P,f,by go_num,rfl,by omega,hpl,hst2,hR⟩
  ·have hjc:j=c:=by omega
   subst hjc;go_wp2_with fail
   refine hco.mono ?_;rintro e w2 ⟨rfl,rfl⟩;obtain⟨sf,af,nf,cf,df,kf,ef,bF,hqF⟩:=hR.fac;have hres:=hR.res;have z0:=bF.cell 0 rfl;have z1:=bF.cell 1 rfl;have z2:=bF.cell 2 rfl;have g0:=hres.cell 0 rfl;have g1:=hres.cell 1 rfl;have g2:=hres.cell 2 rfl;have h0:=hres.frozen 0;have h1:=hres.frozen 1;have h2:=hres.frozen 2;obtain⟨q1,q2⟩:=hres.set3 (.bool sf) (.slice af nf cf) (.slice df kf ef);have q1d:=q1.ext0 (ExtX.refl (Y:=noY) _).drew;have q2d:=q2.drew;have hqf:QC (mk X _) (.agg #[.bool sf, .slice af nf cf, .slice df kf ef]) f:=QC.mono _ _ _ _ (hunb.out _) (QC.mono _ _ _ _ (a0F q2d fun k hk=>b1n hrb.out hk) (QC.mono _ _ _ _ (a1E fun k _ hk=>a0m (a0m (a0m hk))) hqF));have hEf:Ext w _:=ExtX.box hR.ext q2d (by rw[hbw'.out];exact Nat.le_refl _);have hsr:Sl RC 1 (mk X _) oo M:=(((hR.rows.sl RC.elem).mono RC.mono (a1E fun k _ hk=>a0m (a0m hk))).mono RC.mono (a0F q2d fun k hk=>b1n hrb.out hk)).mono RC.mono (hunb.out _);have hsp:Sl (a0c .i64) 1 (mk X _) po P:=(((hR.piv.sl (a0c.elem _)).mono (a0c.mono _) (a1E fun k _ hk=>a0m (a0m hk))).mono (a0c.mono _) (a0F q2d fun k hk=>b1n hrb.out hk)).mono (a0c.mono _) (hunb.out _);have hpc:P.length<=pc:=hR.piv.lenCap;clear hres bF hR hqF q1 q2 q2d;go_wp2_with fail
   go_region
   go_wp2_with fail
   refine bodyPost_ret (a8q (P:=Tryz.prog) (c:=4) (d:=2) (e:=3) rfl rfl a0u q1d rfl) rfl ?_;have hRO:∀w9,Ext w w9->Sl RC 1 (mk X w9) oo M->Sl (a0c .i64) 1 (mk X w9) po P->QC (mk X w9) (.agg #[.bool sf, .slice af nf cf, .slice df kf ef]) f->b3F X w (rN m j) (.returned (.tuple #[.slice oo n co, .slice po pl pc, .agg #[.bool sf, .slice af nf cf, .slice df kf ef]])) w9:=fun w9 hEf hsr hsp hqf=>by
    rw[hst.out];exact⟨hEf,oo,co,po,pc,_,by rw[hMl.out,hpl.out],by rw[hMl.out];exact hcap,hpc,hsr,hsp,hqf⟩
   exact hRO _ hEf hsr hsp hqf
end Go.Proofs.YtkddecjkfdogiaaGreat
namespace Go.Lin
open Go.Lim
noncomputable def a7V (m:Mat) (n:Nat):Rat:=if(rN m n).2.1.length<n then 0 else(rN m n).2.2
theorem b2T {n:Nat} {m:Mat} (hn:n<=4) (hs:Shp n n m):a7V m n=det n (ent m):=by
 have h:=a5t hs n;obtain⟨d,h1,h2⟩:=h.re;have h3:=h1.det_same hn;have h4:=h.ref.det hn;unfold a7V;by_cases hp:(rN m n).2.1.length=n
 ·rw[if_pos hp]at h4
  rw[if_neg (by omega)];rw[h4]at h3;grind
 ·have:=h.ref.le
  rw[if_neg hp]at h4;rw[if_pos (by omega)];rw[h4]at h3;have:=h1.ne;grind
theorem b1w {n:Nat} {m:Mat} (hn:n<=4) (hs:Shp n n m):a7V m n=b5O m n:=by rw[b2T hn hs,a6V hn hs]
end Go.Lin
namespace Go.Proofs.YtkddecjkfdogiaaGreat
open Go.RowKit Go.Rep Go.Lim Go.Lin
def b6g (X:Nat->Bool) (w:World) (S:Mat×List Nat) (e:Ending) (w':World):Prop:=Ext w w'/\∃oo co po pc,e= .returned (.tuple #[.slice oo S.1.length co, .slice po S.2.length pc, .int .i64 0])/\S.1.length<=co/\S.2.length<=pc/\Sl RC 1 (mk X w') oo S.1/\Sl (a0c .i64) 1 (mk X w') po S.2
theorem b2U (X:Nat->Bool) (w:World) (u:Value) (m:List (List Rat)) (n c:Nat) (hX:HX X w) (hu:MV (mk X w) u m) (hf:a0v m=true) (hnn:m.length=n) (hcc:colsL m=c) (hT:a6e m c):Calls Tryz.prog 120 #[u] w (b6g X w ((rN m c).1,(rN m c).2.1)):=by
 obtain⟨hsh,h96,hc96,_,_⟩:=a0w hf;rw[hnn,hcc]at hsh;rw[hnn]at h96;rw[hcc]at hc96;have hfo:=a3K QV.mono X w u m hu (by omega);rw[hf]at hfo;have hre:=hid (fun w' (h:Ext w w')=>a4h X w' u m n c (hX.ext h) (mkx MV.mono hu h) hsh hcc (by omega) (by omega) hT);obtain⟨S,hS⟩:∃S,rN m c=S:=⟨_,rfl⟩;rw[hS]at hre |-;clear hf hS;go_enter Tryz.func120,Tryz.ntmps120
 go_wp2_with fail
 refine hfo.mono ?_;rintro e w1 ⟨hE1,rfl⟩;have h1:=hre.out w1 hE1;clear hfo;go_wp2_with fail
 refine h1.mono ?_;rintro e w2 ⟨hE2,oo,co,po,pc,uf,rfl,hco,hpc,hso,hsp,huf⟩;obtain⟨s2,a2,n2,c2,d2,k2,e2,rfl⟩:=huf.shape;have bx:=Bx.new w2 #[.bool false, .slice none 0 0, .slice none 0 0] 32;clear h1;go_wp2_with ((with_reducible show wpList _ _ _ (⟨_, .store _ _ _,_,_,_,_⟩::_) _ _);refine a0b a0u rfl rfl bx rfl rfl (a2B _ _ _ _ _ _ _) ?_;intro w3 r1 r2)
 have hE3:Ext w2 w3:=ExtX.box ((ExtX.refl w2).alloc _) r2 (Nat.le_refl _);go_ret3
 exact⟨hE1.trans (hE2.trans hE3),oo,co,po,pc,rfl,hco,hpc,hso.mono RC.mono (a0p hE3),hsp.mono (a0c.mono _) (a0p hE3)⟩
set_option maxRecDepth 100000 in
theorem b4M (X:Nat->Bool) (w:World) (u:Value) (m:List (List Rat)) (n:Nat) (hX:HX X w) (hu:MV (mk X w) u m) (hf:a0v m=true) (hnn:m.length=n) (hcc:colsL m=n) (hT:a6e m n):Calls Tryz.prog 163 #[u] w (fun e w'=>Ext w w'/\∃u,e= .returned (.tuple #[u, .int .i64 0])/\QC (mk X w') u (a7V m n)):=by
 obtain⟨hsh,h96,hc96,_,_⟩:=a0w hf;rw[hnn,hcc]at hsh;rw[hnn]at h96;obtain⟨W,hW,hEW,b0,hz⟩:=a1A w #[.bool false, .slice none 0 0, .slice none 0 0] 32;have hXW:HX (a0g X w.heap.size 1) W:=hX.boxes hz;have huW:MV (mk (a0g X w.heap.size 1) W) u m:=MV.mono _ _ _ _ (a0q hEW) hu;have hfo:=a3K QV.mono _ W u m huW (by omega);rw[hf]at hfo;have hcol:=hid (fun w' (h:Ext W w')=>a3Q _ w' u m (mkx MV.mono huW h));rw[hcc]at hcol;have hre:=hid (fun w' (h:Ext W w')=>a4h _ w' u m n n (hXW.ext h) (mkx MV.mono huW h) hsh hcc (by omega) (by omega) hT);have hdr:Hid (a7V m n=if(rN m n).2.1.length<n then 0 else(rN m n).2.2):=hid rfl;have hlen:=hid ((a5t hsh n).ref.le);obtain⟨S,hS⟩:∃S,rN m n=S:=⟨_,rfl⟩;rw[hS]at hre hdr hlen;obtain⟨M,P,f⟩:=S
 dsimp only at hdr hlen
 obtain⟨ua,uca,rfl,huca,hua⟩:=hu;rw[hnn]at hfo hcol hre |-;have hne:((n:Int) !=(n:Int))=false:=a7j rfl;clear hf hS hsh huW hua;go_enter Tryz.func163,Tryz.ntmps163
 go_wp2_with fail
 refine hfo.mono ?_;rintro e w1 ⟨hE1,rfl⟩;have h1:=hcol.out w1 hE1;clear hfo;go_wp2_with fail
 refine h1.mono ?_;rintro e w2 ⟨rfl,rfl⟩;have h2:=hre.out w2 hE1;clear h1;go_wp2_with fail
 refine h2.mono ?_;rintro e w3 ⟨hE3,oo,co,po,pc,uf,rfl,hco,hpc,hso,hsp,huf⟩
 dsimp only at hpc huf |-
 obtain⟨s2,a2,n2,c2,d2,k2,e2,rfl⟩:=huf.shape;have bx:=Bx.new w3 #[.bool false, .slice none 0 0, .slice none 0 0] 32;have b3:=b0.ext0 (hE1.trans hE3);obtain⟨pl,hpl⟩:∃pl,P.length=pl:=⟨_,rfl⟩;rw[hpl]at hdr hlen |-;clear h2 hso hsp hpc hpl;by_cases hlt:pl<n
 ·have hd0:Hid (a7V m n=0):=hid (by rw[hdr.out,if_pos hlt])
  go_wp2_with ((with_reducible show wpList _ _ _ (⟨_, .store _ _ _,_,_,_,_⟩::_) _ _);first|(refine a0b a0u rfl rfl bx rfl rfl (a2B _ _ _ _ _ _ _) ?_;intro w4 r1 r2;have b4:=b3.ext0 (ExtX.box ((ExtX.refl w3).alloc _) r2 (Nat.le_refl _)))|(refine a0b a0u rfl rfl b4 rfl rfl (a2B _ _ _ _ _ _ _) ?_;intro w5 r3 r4))
  have hE4:Ext w3 w4:=ExtX.box ((ExtX.refl w3).alloc _) r2 (Nat.le_refl _);exact bodyPost_ret (a0V rfl rfl a0u r3 rfl) rfl ⟨ExtX.box (hEW.trans (hE1.trans (hE3.trans hE4))) r4 (by omega),_,rfl,by rw[hd0.out];exact QC.zero _⟩
 ·have hd0:Hid (a7V m n=f):=hid (by rw[hdr.out,if_neg hlt])
  go_wp2_with ((with_reducible show wpList _ _ _ (⟨_, .store _ _ _,_,_,_,_⟩::_) _ _);first|(refine a0b a0u rfl rfl bx rfl rfl (a2B _ _ _ _ _ _ _) ?_;intro w4 r1 r2;have b4:=b3.ext0 (ExtX.box ((ExtX.refl w3).alloc _) r2 (Nat.le_refl _));have k0:=r1.cell 0 rfl;have k1:=r1.cell 1 rfl;have k2:=r1.cell 2 rfl)|(refine a0b a0u rfl rfl b4 rfl rfl (a2B _ _ _ _ _ _ _) ?_;intro w5 r3 r4))
  have hE4:Ext w3 w4:=ExtX.box ((ExtX.refl w3).alloc _) r2 (Nat.le_refl _);have h7:=QC.mono _ _ _ _ a0k (QC.mono _ _ _ _ (a0h r4 (Nat.le_refl _) (by omega)) (mkx QC.mono huf hE4));exact bodyPost_ret (a0V rfl rfl a0u r3 rfl) rfl ⟨ExtX.box (hEW.trans (hE1.trans (hE3.trans hE4))) r4 (by omega),_,rfl,by rw[hd0.out];exact h7⟩
end Go.Proofs.YtkddecjkfdogiaaGreat
namespace Go.Rep
open Go.RowKit Go.Lim
theorem a5R {P:Program} {t e sz by_:Nat} {z:Value} {ao:Option Addr} (T:SliceT P t e sz by_ z) (len cap i:Nat) (k1 k2:IntKind) (h:i<=cap) (w:World):
  (Instr.sliceAt t (.slice ao len cap) none (some (.int k1 (i:Int))) (some (.int k2 (i:Int)))).run P w= .ok (.slice ao i i) w:=by
 obtain⟨ti,hi,hz,hsz,hby⟩:=info_parts T.info;have h1':(i:Int)<=cap:=by omega
 cases ao<;>simp[Instr.sliceAt,Instr.slice,run_underlying T.und,Instr.sliceBounds,run_sliceBound,h1',sizeOf,typeInfo,hi,Addr.add_zero']
end Go.Rep
namespace Go.Proofs.YtkddecjkfdogiaaGreat
open Go.RowKit Go.Rep Go.Lim Go.Lin
theorem a5S:SliceT Tryz.prog 61 4 1 1 (.bool false):=⟨Tryz.underlying61,by kernel_rfl⟩
def b5g (l:List Nat) (v:Nat) (r:Int):Prop:=decide ((0:Int)<=r)=decide (v∈l)
set_option maxRecDepth 100000 in
theorem a9O (X:Nat->Bool) (w:World) (ao:Option Addr) (l:List Nat) (ca v:Nat) (hs:Sl (a0c .i64) 1 (mk X w) ao l) (hl:l.length<=1099511627776):
  Calls Tryz.prog 233 #[.slice ao l.length ca, .int .i64 (v:Int)] w (fun e w'=>w'=w/\∃r:Int,e= .returned (.int .i64 r)/\b5g l v r):=by
 have hh:=hs.hd;obtain⟨n,hn⟩:∃n,l.length=n:=⟨_,rfl⟩;have hn':=hid hn;rw[hn]at hl hh |-;clear hn;go_enter Tryz.func233,Tryz.ntmps233
 go_wp2_with fail
 go_loop [8] (fun c=>∃i:Nat,c= .int .i64 i/\i<=n/\Hid (∀q,q<i->∀hq:q<l.length,l[q]≠v)) (fun c=>n - (intOf c).toNat)
 case atStart=>exact⟨0,rfl,Nat.zero_le _,hid fun q hq=>by omega⟩
 case round=>
  obtain⟨i,rfl,hi,hok⟩:=hrel;by_cases hlt:i<n
  ·have hil:i<l.length:=by rw[hn'.out];exact hlt
   have k00:=hs.nat i hil;have i1:∀W,(Instr.indexAt 22 (.slice ao n ca) (.int .i64 (i:Int))).run Tryz.prog W= .ok (.pointer (some (adr ao i))) W:=a0z a6y ao n ca .i64 i hh (by omega) rfl;obtain⟨y,hy⟩:∃y,l[i]=y:=⟨_,rfl⟩;rw[hy]at k00;by_cases hv:y=v
   ·have hb:((v:Int)==(y:Int))=true:=a5Y (by omega)
    have hr:b5g l v (i:Int):=(by
     unfold b5g;rw[decide_eq_true (by omega),decide_eq_true (by rw[<-hv,<-hy];exact List.getElem_mem _)])
    clear hv hy;go_wp2_with fail
    go_ret
    exact⟨rfl,_,rfl,hr⟩
   ·have hb:((v:Int)==(y:Int))=false:=a2X (by omega)
    have hok2:Hid (∀q,q<i+1->∀hq:q<l.length,l[q]≠v):=hid fun q hq h=>by
     by_cases e:q=i
     ·subst e;rw[hy];exact hv
     ·exact hok.out q (by omega) h
    clear hv hy;go_wp2_with fail
    go_round
    case rel=>exact⟨i+1,by go_num,by omega,hok2⟩
    case measure=>simp[intOf];omega
  ·have hr:b5g l v (-1):=(by
    unfold b5g;rw[decide_eq_false (by omega),decide_eq_false fun h=>by
     obtain⟨q,hq,e⟩:=List.getElem_of_mem h;exact hok.out q (by have:=hn'.out;omega) hq e])
   go_wp2_with fail
   go_ret
   exact⟨rfl,_,rfl,hr⟩
set_option maxRecDepth 100000 in
theorem a7b (X:Nat->Bool) (w:World) (ao:Option Addr) (l:List Nat) (ca v:Nat) (hs:Sl (a0c .i64) 1 (mk X w) ao l) (hl:l.length<=1099511627776):
  Calls Tryz.prog 178 #[.slice ao l.length ca, .int .i64 (v:Int)] w (fun e w'=>w'=w/\e= .returned (.bool (decide (v∈l)))):=by
 have h0:=a9O X w ao l ca v hs hl;obtain⟨b,hb⟩:∃b,decide (v∈l)=b:=⟨_,rfl⟩;unfold b5g at h0;rw[hb]at h0 |-;clear hb;go_enter Tryz.func178,Tryz.ntmps178
 go_wp2_with fail
 refine h0.mono ?_;rintro e w1 ⟨rfl,r,rfl,hr0⟩;have hr:=hid hr0.symm;clear h0 hr0;go_wp2_with fail
 go_ret
 exact⟨rfl,a0j hr.out.symm⟩
theorem un_or {X:Nat->Bool} {oo oo2:Option Addr} {w:World} (hor:oo2=oo\/∃g,oo2=some ⟨g,0,none⟩/\w.heap.size<=g):∀k,k<w.heap.size->un X oo2 k=true->un X oo k=true:=fun k hk h=>by
 rcases hor with rfl|⟨g,rfl,hg⟩
 ·exact h
 ·by_cases hx:X k=true
  ·exact a0m hx
  ·exfalso
   have:g=k:=by simpa[un,hx,ob]using h
   omega
def b2V (X:Nat->Bool) (w:World) (p:List Nat) (c:Nat) (e:Ending) (w':World):Prop:=Ext w w'/\∃uo uc v,e= .returned (.tuple #[.slice uo c uc,v, .int .i64 0])/\c<=uc/\Sl BlR 1 (mk X w') uo (usedL p c)
set_option maxRecDepth 100000 in
set_option maxHeartbeats 800000 in
theorem b1x (X:Nat->Bool) (w:World) (u:Value) (x:Mat) (n c:Nat) (hX:HX X w) (hu:MV (mk X w) u x) (hf:a0v x=true) (hnx:x.length=n) (hcx:colsL x=c) (hn1:1<=n) (hT:b0d x c) (hbm:BM 68719476736 (a0K x c).1):Calls Tryz.prog 110 #[u] w (b2V X w (a0K x c).2 c):=by
 obtain⟨hsh,h96,hc96,hpos,_⟩:=a0w hf;rw[hnx,hcx]at hsh;rw[hnx]at h96;rw[hcx]at hc96 hpos;have hc1:=hpos (by omega);have hre:=a9N X w u x hX hu hf (by rw[hcx];exact hT);rw[hcx]at hre;obtain⟨hs2,hg,_⟩:=a1b hsh;have hpl:=hg.le;obtain⟨R,hR⟩:∃R,(a0K x c).1=R:=⟨_,rfl⟩;obtain⟨p,hp⟩:∃p,(a0K x c).2=p:=⟨_,rfl⟩;rw[hR]at hs2 hbm;rw[hp]at hpl;rw[hR,hp]at hre;have hfR:a0v R=true:=b0V hs2 h96 hc1 hc96;have hcR:colsL R=c:=a9g hs2 hn1;have htr:=hid fun w' v (h:MC (mk X w') v R) (hX:HX X w')=>a2p X w' v R n c hX (h.mv hbm) hfR hs2.1 hcR;have hts:=hid (a1t R n c);obtain⟨T,hT2⟩:∃T,trL R n c=T:=⟨_,rfl⟩;rw[hT2]at htr hts;rw[hp];obtain⟨pl,hpl2⟩:∃pl,p.length=pl:=⟨_,rfl⟩;have hpl':=hid hpl2;rw[hpl2]at hpl;clear hR hp hfR hcR hT2 hs2 hg hbm hT hsh hu hnx hcx hpl2;go_enter Tryz.func110,Tryz.ntmps110
 go_wp2_with fail
 refine hre.mono ?_;rintro e w1 ⟨hE1,r,v,rfl,hr,po,pc,rfl,hpc,hps⟩;have hX1:=hX.ext hE1;have ht1:=htr.out w1 r hr hX1;rw[hpl'.out]at hpc;obtain⟨ro,rc,rfl,_,_⟩:=hr;clear hre htr;rw[hpl'.out];go_wp2_with fail
 refine ht1.mono ?_;rintro e w2 ⟨hE2,tv,rfl,tvo,tc,rfl,htc,hts2⟩;have hX2:=hX1.ext hE2;have hps2:=hps.mono (a0c.mono _) (a0p hE2);have hE12:=hE1.trans hE2;have htl:=hid hts.out.1;rw[hts.out.1]at htc;have hht:=hts2.hd;rw[htl.out]at hht |-;clear ht1;go_wp2_with fail
 go_loopw [2,3,27] (fun o b k wr=>∃(j:Nat) (oo:Option Addr) (co:Nat) (bo:Option Addr) (cb:Nat) (hs:List Hdr),k= .int .i64 j/\o= .slice oo j co/\b= .slice bo j cb/\j<=c/\OL BlR 1 X w2.heap.size 4 wr oo co (usedL p j)/\hs.length=j/\OL HdR 1 (un X oo) w2.heap.size 45 wr bo cb hs/\Ext w2 wr) (fun _ _ k _=>c - (intOf k).toNat)
 case atStart=>exact⟨0,none,0,none,0,[],rfl,rfl,rfl,Nat.zero_le _,OL.nil _ _ _ _ _ _,rfl,OL.nil _ _ _ _ _ _,ExtX.refl _⟩
 case round=>
  obtain⟨j,oo,co,bo,cb,hs,rfl,rfl,rfl,hj,hO,hhs,hB,hE⟩:=hrel;have hXr:HX X wr:=hX2.ext hE;have hbase:=hE.size;by_cases hlt:j<c
  ·have hjT:j<T.length:=by rw[htl.out];exact hlt
   obtain⟨a1,c1,hX1',hc1',hcl1,hq1⟩:=hts2.row j hjT;have hrl:=hts.out.2 T[j] (List.getElem_mem _);rw[hrl]at hc1' hcl1;have k00:=hc1'.out noY wr hE rfl;have hco:=a7b X wr po p pc j (hps2.mono (a0c.mono _) (a0p hE)) (by rw[hpl'.out];omega);rw[hpl'.out]at hco;have hus:=hid (a6u p j);have hul:=hid (a1K p j);obtain⟨bb,hbb⟩:∃bb,decide (j∈p)=bb:=⟨_,rfl⟩;rw[hbb]at hco hus;have hht':=hht;clear hc1' hq1 hrl hbb;have hhs':=hid hhs;have f1:∀W,(Instr.sliceAt 45 (.slice a1 n c1) none (some (.int .i64 (pl:Int))) (some (.int .i64 (pl:Int)))).run Tryz.prog W= .ok (.slice a1 pl pl) W:=a5R a0A n c1 pl .i64 .i64 (by omega);clear hhs;go_wp2_with (with_reducible refine a0t a0r (by omega) (by assumption) ?_)
   refine hco.mono ?_;rintro e w5 ⟨rfl,rfl⟩;clear hco k00;go_wp2_with (first
    |(at_builtin;refine a0x (l:=usedL p j) a5S rfl BlR.elem hbase hXr j hul.out rfl rfl hO (.bool bb) bb rfl rfl (by omega) (by omega) ?_;intro oo2 co2 w7 hO7 hE7 hor;have hB7:=hB.ext HdR.elem (Z:=un X oo2) hE7 (fun k _ hk=>a0s hk) (un_or hor);have hE27:=hE.own hO (Nat.le_refl _) hE7;have hb7:=hE27.size;have hX7:=hO7.unX (hX2.ext hE27))
    |(at_builtin;refine a0x (l:=hs) a0r rfl HdR.elem hb7 hX7 j hhs'.out rfl rfl hB7 (.slice a1 pl pl) (a1,pl,pl) rfl rfl (by omega) (by omega) ?_;intro bo2 cb2 w8 hB8 hE8 hor2))
   have hO8:=hO7.frame (fun _ _ _ _ h=>h) hE8 (fun k hk=>by
    cases hbk:ob bo k
    ·rfl
    ·have:=(a0S (hB7.1 k hbk)).2;rw[hk]at this;cases this) hO7.1
   have hE28:=hE27.own hB7 (Nat.le_refl _) hE8;rw[<-hus.out]at hO8;have hl8:(hs++[(a1,pl,pl)]).length=j+1:=by rw[List.length_append,hhs'.out];rfl
   go_roundw
   case rel=>exact⟨j+1,oo2,co2,bo2,cb2,_,by go_num,by go_num,by go_num,by omega,hO8,hl8,hB8,hE28⟩
   case measure=>simp[intOf];omega
  ·have hjc:j=c:=by omega
   subst hjc;have hc:=hO.lenCap;rw[a1K]at hc;have hs:=hO.sl BlR.elem;go_wp2_with fail
   go_ret3
   exact⟨hE12.trans hE,_,_,_,rfl,hc,hs⟩
theorem a8v {p:List Nat} {i j:Nat} (h:i<p.length):decide (j∈p.take (i+1))=(decide (j∈p.take i)||decide (p[i]=j)):=by
 have e:j∈p.take (i+1)↔(j∈p.take i\/p[i]=j):=by
  rw[<-List.take_append_getElem h,List.mem_append,List.mem_singleton];exact or_congr Iff.rfl eq_comm
 rw[<-Bool.decide_or];exact decide_eq_decide.2 e
set_option maxRecDepth 100000 in
set_option maxHeartbeats 1600000 in
theorem a9P (X:Nat->Bool) (w:World) (u:Value) (x:Mat) (n c:Nat) (hX:HX X w) (hu:MV (mk X w) u x) (hf:a0v x=true) (hnx:x.length=n) (hcx:colsL x=c) (hn1:1<=n) (hT:a6e x c):Calls Tryz.prog 101 #[u] w (b2V X w (a0K x c).2 c):=by
 obtain⟨hsh,h96,hc96,hpos,_⟩:=a0w hf;rw[hnx,hcx]at hsh;rw[hnx]at h96;rw[hcx]at hc96 hpos;have hc1:=hpos (by omega);have hre:=b2U X w u x n c hX hu hf hnx hcx hT;have hco:=hid fun w' (h:Ext w w')=>a3Q X w' u x (mkx MV.mono hu h);rw[hcx]at hco;have hok:=a5t hsh c;have hs2:=hok.shp;have hpl:=hok.ref.le;rw[(a8S hsh).2];obtain⟨R,hR⟩:∃R,(rN x c).1=R:=⟨_,rfl⟩;obtain⟨p,hp⟩:∃p,(rN x c).2.1=p:=⟨_,rfl⟩;rw[hR]at hs2;rw[hp]at hpl;rw[hR,hp]at hre;rw[hp];obtain⟨pl,hpl2⟩:∃pl,p.length=pl:=⟨_,rfl⟩;have hpl':=hid hpl2;rw[hpl2]at hpl;have hRs:=hid hs2;obtain⟨ua,uca,rfl,huca,hua⟩:=hu;clear hR hp hs2 hT hsh hnx hcx hpl2 hok hf huca hua;go_enter Tryz.func101,Tryz.ntmps101
 go_wp2_with fail
 refine hre.mono ?_;rintro e w1 ⟨hE1,ro,rc,po,pc,rfl,hrc,hpc,hrs,hps⟩;have hX1:=hX.ext hE1
 dsimp only at hrc hpc hrs hps |-
 rw[hpl'.out]at hpc |-;have hRl:=hid hRs.out.1;have hhr:=hrs.hd;have hhp:=hps.hd;rw[hRl.out]at hrc hhr |-;rw[hpl'.out]at hhp;clear hre;go_wp2_with fail
 go_loopw [8,9,10] (fun o b k wr=>∃(j:Nat) (oo:Option Addr) (co:Nat) (bo:Option Addr) (cb:Nat) (hs:List Hdr),k= .int .i64 j/\o= .slice oo j co/\b= .slice bo j cb/\j<=c/\OL BlR 1 X w1.heap.size 4 wr oo co (usedL p j)/\hs.length=j/\OL HdR 1 (un X oo) w1.heap.size 45 wr bo cb hs/\Ext w1 wr) (fun _ _ k _=>c - (intOf k).toNat)
 case atStart=>exact⟨0,none,0,none,0,[],rfl,rfl,rfl,Nat.zero_le _,OL.nil _ _ _ _ _ _,rfl,OL.nil _ _ _ _ _ _,ExtX.refl _⟩
 case round=>
  obtain⟨j,oo,co,bo,cb,hs,rfl,rfl,rfl,hj,hO,hhs,hB,hE⟩:=hrel;have hXr:HX X wr:=hX1.ext hE;have hbase:=hE.size;have hcr:=hco.out wr (hE1.trans hE);by_cases hlt:j<c
  ·have hus:=hid (a6u p j)
   have hul:=hid (a1K p j);have hhs':=hid hhs;clear hhs;have hXu:HX (un X oo) wr:=hO.unX hXr;have hXb:HX (un (un X oo) bo) wr:=hB.unX hXu;go_wp2_with fail
   refine hcr.mono ?_;rintro e w5 ⟨rfl,rfl⟩;clear hcr;obtain⟨wo,hwo⟩:∃wo,wo=w5:=⟨_,rfl⟩;subst hwo;go_wp2_with fail
   go_loopw [11,12,13] (fun o l k wr=>∃(i:Nat) (bb:Bool) (lo:Option Addr) (lc:Nat) (L:List Rat),k= .int .i64 i/\o= .bool bb/\l= .slice lo i lc/\i<=pl/\Hid (bb=decide (j∈p.take i))/\L.length=i/\OL QC 3 (un (un X oo) bo) wo.heap.size 32 wr lo lc L/\Ext wo wr) (fun _ _ k _=>pl - (intOf k).toNat)
   case atStart=>exact⟨0,false,none,0,[],rfl,rfl,rfl,Nat.zero_le _,hid (by simp),rfl,OL.nil _ _ _ _ _ _,ExtX.refl _⟩
   case round=>
    obtain⟨i,bb,lo,lc,L,rfl,rfl,rfl,hi,hbb,hLl,hL,hEi⟩:=hrel;have hXi:HX (un (un X oo) bo) wr:=hXb.ext hEi;have hbi:=hEi.size;by_cases hli:i<pl
    ·have hip:i<p.length:=by rw[hpl'.out];exact hli
     have hiR:i<R.length:=by rw[hRl.out];omega
     have hLl':=hid hLl;have hrl:=hRs.out.2 R[i] (List.getElem_mem _);have hjr:j<R[i].length:=by rw[hrl];exact hlt
     have k00:=(hps.mono (a0c.mono _) (a0p (hE.trans hEi))).nat i hip;have hEl:Ext w1 wr:=hE.trans hEi;have hrs1:Sl RC 1 (mk (un (un (un X oo) bo) lo) wr) ro R:=hrs.mono RC.mono (a1s hEl (fun k _ hk=>by simp[noY]at hk) fun k hk hz=>by
      by_cases hx:X k=true
      ·exact hx
      ·exfalso
       have e1:ob oo k=false:=hO.ob_lt hk;have e2:ob bo k=false:=hB.ob_lt hk;have e3:ob lo k=false:=hL.ob_lt (Nat.lt_of_lt_of_le hk hE.size);simp[un,hx,e1,e2,e3]at hz)
     obtain⟨a1,c1,hX1',hc1',hcl1,hq1⟩:=hrs1.row i hiR;have k10:=hc1'.out noY wr (ExtX.refl _) rfl;rw[hrl]at k10;have hh1:Hd a1 c:=by have:=hq1.hd;rw[hrl]at this;exact this
     have hbn:=hid (a8v (j:=j) hip);obtain⟨y,hy⟩:∃y,p[i]=y:=⟨_,rfl⟩;rw[hy]at k00 hbn;have ip:∀W,(Instr.indexAt 22 (.slice po pl pc) (.int .i64 (i:Int))).run Tryz.prog W= .ok (.pointer (some (adr po i))) W:=a0z a6y po pl pc .i64 i hhp (by omega) rfl;have ir:∀W,(Instr.indexAt 25 (.slice ro n rc) (.int .i64 (i:Int))).run Tryz.prog W= .ok (.pointer (some (adr ro i))) W:=a0z a0r ro n rc .i64 i hhr (by omega) rfl;have hdl:∀b2,Hid (b2=decide (j∈p.take (i+1)))->∀{lo2:Option Addr} {lc2:Nat} {w9:World},OL QC 3 (un (un X oo) bo) wo.heap.size 32 w9 lo2 lc2 (L++[R[i][j]])->Ext wo w9->∃(i':Nat) (bb:Bool) (lo:Option Addr) (lc:Nat) (L:List Rat),Value.int IntKind.i64 ((i+1:Nat):Int)= .int .i64 i'/\Value.bool b2= .bool bb/\Value.slice lo2 (i+1) lc2= .slice lo i' lc/\i'<=pl/\Hid (bb=decide (j∈p.take i'))/\L.length=i'/\OL QC 3 (un (un X oo) bo) wo.heap.size 32 w9 lo lc L/\Ext wo w9:=fun b2 hb2 lo2 lc2 w9 h1 h2=>⟨i+1,b2,lo2,lc2,_,rfl,rfl,rfl,by omega,hb2,by rw[List.length_append,hLl'.out];rfl,h1,h2⟩;clear hc1' hrl hy hLl;cases bb
     ·by_cases hyj:y=j
      ·have hd:((y:Int)==(j:Int))=true:=a5Y (by omega)
       have hb2:Hid (true=decide (j∈p.take (i+1))):=hid (by rw[hbn.out,decide_eq_true hyj,Bool.or_true]);clear hyj;go_wp2_with (first|(with_reducible refine a1N a0A (by omega) (by assumption) ?_)|((with_reducible show wpList _ _ _ (⟨_, .load 32 _,_,_,_,_⟩::_) _ _);refine a0J a0u j hq1 hjr rfl (by simp) QC.agg ?_;intro u5 hu5;obtain⟨s5,a5,n5,c5,d5,m5,e5,rfl⟩:=hu5.shape)|(at_builtin;refine a0x (l:=L) a0A rfl QC.elem hbi hXi i hLl'.out rfl rfl hL (.agg #[.bool s5, .slice a5 n5 c5, .slice d5 m5 e5]) R[i][j] rfl hu5 (by omega) (by omega) ?_;intro lo2 lc2 w7 hL7 hE7 hor))
       go_roundw
       case rel=>exact hdl true hb2 hL7 (hEi.own hL (Nat.le_refl _) hE7)
       case measure=>simp[intOf];omega
      ·have hd:((y:Int)==(j:Int))=false:=a2X (by omega)
       have hb2:Hid (false=decide (j∈p.take (i+1))):=hid (by rw[hbn.out,decide_eq_false hyj,<-hbb.out];rfl);clear hyj;go_wp2_with (first|(with_reducible refine a1N a0A (by omega) (by assumption) ?_)|((with_reducible show wpList _ _ _ (⟨_, .load 32 _,_,_,_,_⟩::_) _ _);refine a0J a0u j hq1 hjr rfl (by simp) QC.agg ?_;intro u5 hu5;obtain⟨s5,a5,n5,c5,d5,m5,e5,rfl⟩:=hu5.shape)|(at_builtin;refine a0x (l:=L) a0A rfl QC.elem hbi hXi i hLl'.out rfl rfl hL (.agg #[.bool s5, .slice a5 n5 c5, .slice d5 m5 e5]) R[i][j] rfl hu5 (by omega) (by omega) ?_;intro lo2 lc2 w7 hL7 hE7 hor))
       go_roundw
       case rel=>exact hdl false hb2 hL7 (hEi.own hL (Nat.le_refl _) hE7)
       case measure=>simp[intOf];omega
     ·have hb2:Hid (true=decide (j∈p.take (i+1))):=hid (by rw[hbn.out,<-hbb.out];rfl)
      go_wp2_with (first|(with_reducible refine a1N a0A (by omega) (by assumption) ?_)|((with_reducible show wpList _ _ _ (⟨_, .load 32 _,_,_,_,_⟩::_) _ _);refine a0J a0u j hq1 hjr rfl (by simp) QC.agg ?_;intro u5 hu5;obtain⟨s5,a5,n5,c5,d5,m5,e5,rfl⟩:=hu5.shape)|(at_builtin;refine a0x (l:=L) a0A rfl QC.elem hbi hXi i hLl'.out rfl rfl hL (.agg #[.bool s5, .slice a5 n5 c5, .slice d5 m5 e5]) R[i][j] rfl hu5 (by omega) (by omega) ?_;intro lo2 lc2 w7 hL7 hE7 hor))
      go_roundw
      case rel=>exact hdl true hb2 hL7 (hEi.own hL (Nat.le_refl _) hE7)
      case measure=>simp[intOf];omega
    ·have hip:i=pl:=by omega
     subst hip;have hbb2:=hid hbb.out;rw[List.take_of_length_le (by rw[hpl'.out];exact Nat.le_refl _)]at hbb2;have hO2:=hO.ext0 BlR.elem hEi;have hB2:=hB.ext0 HdR.elem hEi;have hE2:=hE.trans hEi;have hX2:=hX1.ext hE2;have hb2:=hE2.size;clear hL hbb;go_wp2_with (first
      |(at_builtin;refine a0x (l:=usedL p j) a5S rfl BlR.elem hb2 hX2 j hul.out rfl rfl hO2 (.bool bb) bb rfl rfl (by omega) (by omega) ?_;intro oo2 co2 w7 hO7 hE7 hor;have hB7:=hB2.ext HdR.elem (Z:=un X oo2) hE7 (fun k _ hk=>a0s hk) (un_or hor);have hE27:=hE2.own hO2 (Nat.le_refl _) hE7;have hb7:=hE27.size;have hX7:=hO7.unX (hX1.ext hE27))
      |(at_builtin;refine a0x (l:=hs) a0r rfl HdR.elem hb7 hX7 j hhs'.out rfl rfl hB7 (.slice lo i lc) (lo,i,lc) rfl rfl (by omega) (by omega) ?_;intro bo2 cb2 w8 hB8 hE8 hor2))
     have hO8:=hO7.frame (fun _ _ _ _ h=>h) hE8 (fun k hk=>by
      cases hbk:ob bo k
      ·rfl
      ·have:=(a0S (hB7.1 k hbk)).2;rw[hk]at this;cases this) hO7.1
     have hE28:=hE27.own hB7 (Nat.le_refl _) hE8;rw[hbb2.out,<-hus.out]at hO8;have hl8:(hs++[(lo,i,lc)]).length=j+1:=by rw[List.length_append,hhs'.out];rfl
     go_roundw
     case rel=>exact⟨j+1,oo2,co2,bo2,cb2,_,by go_num,by go_num,by go_num,by omega,hO8,hl8,hB8,hE28⟩
     case measure=>simp[intOf];omega
  ·have hjc:j=c:=by omega
   subst hjc;have hc:=hO.lenCap;rw[a1K]at hc;have hs:=hO.sl BlR.elem;go_wp2_with fail
   refine hcr.mono ?_;rintro e w5 ⟨rfl,rfl⟩;go_wp2_with fail
   go_ret3
   exact⟨hE1.trans hE,_,_,_,rfl,hc,hs⟩
end Go.Proofs.YtkddecjkfdogiaaGreat
namespace Go.Rep
open Go.RowKit Go.Lim
def two (a b:Option Addr):Nat->Bool:=fun k=>ob a k||ob b k
theorem b4N {a b:Option Addr} {w:World} (h:a=b\/∃g,a=some ⟨g,0,none⟩/\w.heap.size<=g) {k:Nat} (hk:k<w.heap.size) (hb:ob a k=true):ob b k=true:=by
 rcases h with rfl|⟨g,rfl,hg⟩
 ·exact hb
 ·have:g=k:=by simpa[ob]using hb
  omega
theorem b4O {X:Nat->Bool} {a:Option Addr} {k:Nat} (h:un X a k=true):X k=true\/ob a k=true:=by simpa[un]using h
theorem b6h {A:Nat->Bool} {w:World} {xo yo xo' yo':Option Addr} (h1:xo'=xo\/∃g,xo'=some ⟨g,0,none⟩/\w.heap.size<=g) (h2:yo'=yo\/∃g,yo'=some ⟨g,0,none⟩/\w.heap.size<=g):∀k,k<w.heap.size->un (un A xo') yo' k=true->un (un A xo) yo k=true:=fun k hk h=>by
 rcases b4O h with h|h
 ·rcases b4O h with h|h
  ·exact a0m (a0m h)
  ·exact a0m (a0s (b4N h1 hk h))
 ·exact a0s (b4N h2 hk h)
theorem b6i {A:Nat->Bool} {xo yo:Option Addr}:∀k,two xo yo k=true->un (un A xo) yo k=true:=fun k h=>by
 unfold two at h;rcases Bool.or_eq_true _ _|>.mp h with h|h
 ·exact a0m (a0s h)
 ·exact a0s h
section
variable {P:Program} {ops:Array Oper} {Q:Exit->Act->World->Prop} {a:Act} {w:World}
variable {α:Type} {R:Mem->Value->α->Prop} {sz:Nat} {X:Nat->Bool} {base:Nat} {e:TypeId} {ao:Option Addr} {cap:Nat} {l:List α}
theorem OL.after {A:Nat->Bool} {xo xo' yo:Option Addr} {cy:Nat} {w':World} (hR:Elem R sz) (h:OL R sz (un A xo) base e w yo cy l) (hE:ExtX (ob xo) w w') (hor:xo'=xo\/∃g,xo'=some ⟨g,0,none⟩/\w.heap.size<=g):OL R sz (un A xo') base e w' yo cy l:=
 h.ext hR hE (fun k _ hk=>a0s hk) fun k hk h=>by
  rcases b4O h with h|h
  ·exact a0m h
  ·exact a0s (b4N hor hk h)
end
end Go.Rep
