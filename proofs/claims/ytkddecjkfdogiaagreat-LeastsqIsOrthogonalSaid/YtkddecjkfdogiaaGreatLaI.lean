/- Least squares, as lists: what the program and the reference return. Conditions: at most four columns. Least squares: moments row by row, in any order; responses that are changed. Conditions: none. Readings for least squares: lists of booleans, moments, fits. Conditions: none. Structs of more cells in boxes; masks of a fresh box. Conditions: none. The memory of the reference's elimination: rows, pivots, factor, and what each step leaves of them. Conditions: none. reference 06: what its elimination needs of plain lists. Conditions: none. Least squares: bounds of digits. Conditions: at most 8 rows and 4 columns of numbers of at most 370 digits. A drawn region whose last operation waits for all others: the loads are taken first under a condition that need not hold behind the last operation. Conditions: none. reference 06: Columns, Formed. Conditions: lengths far below any machine's. reference 06: reduce. Conditions: few rows and columns, numbers of few digits. reference 06: Reduce, Rank, Det. Conditions: few rows and columns, numbers of few digits. reference 06: SameInts. Conditions: lengths far below any machine's. -/
import Derived.Test.YtkddecjkfdogiaaGreatLaH
import Derived.OrdersHeld
import Derived.StillTail
import Derived.Deep.RegionHeld
import Derived.WalkKit
import Derived.Deep.DrawnRows
import Derived.Deep.LoopGhost
import Derived.BigQuiet
namespace Go.Lin
open Go.Lim
def fn (l:List Rat):Nat->Rat:=fun i=>l.getD i 0
def gmL (x:Mat) (n c:Nat):Mat:=ofF c c (gr n (ent x))
def gyL (x:Mat) (y:List Rat) (n c:Nat):List Rat:=(List.range c).map (gy n (ent x) (fn y))
theorem a2R (x:Mat) (n c:Nat):Shp c c (gmL x n c):=b0t _ _ _
theorem a6S (x:Mat) (n c:Nat):Eqm c c (ent (gmL x n c)) (gr n (ent x)):=b4f c c _
theorem b1i (x:Mat) (y:List Rat) (n c:Nat):(gyL x y n c).length=c:=by simp[gyL]
theorem b1j (x:Mat) (y:List Rat) (n c:Nat) {i:Nat} (hi:i<c):(gyL x y n c).getD i 0=gy n (ent x) (fn y) i:=by
 simp[gyL,List.getD_eq_getElem?_getD,hi]
noncomputable def lsS (x:Mat) (y:List Rat) (n c:Nat):Mat×List Nat:=a0K (a2K (gmL x n c) (gyL x y n c) c) (c+1)
noncomputable def a0Q (x:Mat) (y:List Rat) (n c:Nat):List Rat:=b3t (lsS x y n c).1 (lsS x y n c).2 c
theorem a2G (x:Mat) (y:List Rat) (n c:Nat):(a0Q x y n c).length=c:=a8i _ _ _
theorem NS.congr {n c:Nat} {f f':F2} {y y' b b':Nat->Rat} (h:NS n c f y b) (hf:Eqm n c f f') (hy:∀i,i<n->y i=y' i) (hb:∀j,j<c->b j=b' j):NS n c f' y' b':=fun i hi=>by
 have e1:∀j,j<c->gr n f i j=gr n f' i j:=fun j hj=>a0h fun r hr=>by rw[hf r hr i hi,hf r hr j hj]
 have e2:gy n f y i=gy n f' y' i:=a0h fun r hr=>by rw[hf r hr i hi,hy r hr]
 rw[<-e2,<-h i hi];exact a0h fun j hj=>by rw[e1 j hj,hb j hj]
theorem a6T {x:Mat} {y:List Rat} {n c:Nat} (hs:Shp n c x):
  c∉(lsS x y n c).2/\(lsS x y n c).2=(a0K x c).2/\NS n c (ent x) (fn y) (fn (a0Q x y n c))/\∀j,j<c->j∉(a0K x c).2->fn (a0Q x y n c) j=0:=by
 obtain⟨_,hg,e,he⟩:=a1f hs;obtain⟨_,hr,_⟩:=a1f (a2f (b:=gyL x y n c) (a2R x n c));obtain⟨d,hd⟩:=b2N (b:=gyL x y n c) (a2R x n c);have hd2:RE c (c+1) (a2U c (gr n (ent x)) (gy n (ent x) (fn y))) (ent (lsS x y n c).1) d:=hd.congr fun i hi j hj=>by
  unfold a2U;by_cases h:j=c
  ·rw[if_pos h,if_pos h];exact(b1j x y n c hi).symm
  ·rw[if_neg h,if_neg h,a6S x n c i hi j (by omega)]
 obtain⟨h1,h2,h3⟩:=b4i hg he hr hd2;have hg2:∀j,j<c->fn (a0Q x y n c) j=b0u (ent (lsS x y n c).1) (lsS x y n c).2 c j:=fun j hj=>a8R hr j hj;refine⟨b0x hr hd2,h1,h2.congr (fun _ _ _ _=>rfl) (fun _ _=>rfl) (fun j hj=>(hg2 j hj).symm),fun j hj hp=>?_⟩;rw[hg2 j hj];exact h3 j hj hp
theorem b6p {x:Mat} {n c:Nat} (hs:Shp n c x):(a0K (gmL x n c) c).2=(a0K x c).2:=by
 obtain⟨_,hg,e,he⟩:=a1f hs;obtain⟨_,hr,d,hd⟩:=a1f (a2R x n c);refine hr.piv2 hg fun v=>?_;have e1:Nul c c (ent (gmL x n c)) v↔Nul c c (gr n (ent x)) v:=(RE.same (a6S x n c)).nul v;exact((hd.nul v).symm.trans e1).trans (a8H.trans (he.nul v))
theorem a5H {l m:List Rat} {c:Nat} (h:l.length=c):a2k l m=sm c fun q=>l.getD q 0*m.getD q 0:=by
 unfold a2k;rw[a8f,h]
theorem a8k {x:Mat} {i:Nat} (hi:i<x.length):x[i]=x.getD i []:=by simp[List.getD_eq_getElem?_getD,hi]
def a1R (x:Mat) (y b:List Rat):List Rat:=List.zipWith (fun r v=>v - a2k r b) x y
theorem a2i {x:Mat} {y b:List Rat} (h:y.length=x.length):(a1R x y b).length=x.length:=by simp[a1R,h]
theorem a4C {x:Mat} {y b:List Rat} {i:Nat} (h:i<(a1R x y b).length) (h1:i<x.length) (h2:i<y.length):(a1R x y b)[i]=y[i] - a2k x[i] b:=by simp[a1R]
theorem a9n {x:Mat} {y b:List Rat} {n c:Nat} (hs:Shp n c x) (hy:y.length=n) {i:Nat} (hi:i<n):fn (a1R x y b) i=fn y i - app c (ent x) (fn b) i:=by
 have h1:i<x.length:=by rw[hs.1];exact hi
 have h2:i<y.length:=by omega
 have h3:i<(a1R x y b).length:=by rw[a2i (by rw[hy,hs.1])];exact h1
 have e1:fn (a1R x y b) i=(a1R x y b)[i]:=by simp[fn,List.getD_eq_getElem?_getD,h3]
 have e2:fn y i=y[i]:=by simp[fn,List.getD_eq_getElem?_getD,h2]
 rw[e1,e2,a4C h3 h1 h2,a5H (hs.2 _ (List.getElem_mem h1)),a8k h1];rfl
theorem b4Y {l m:List Rat} {n:Nat} (h:l.length=n):a2k l m=sm n fun i=>fn l i*fn m i:=a5H h
def pkL (x:Mat) (p:List Nat):Mat:=x.map fun r=>p.map fun j=>r.getD j 0
theorem a4N (x:Mat) (p:List Nat):(pkL x p).length=x.length:=by simp[pkL]
theorem a4O {x:Mat} {n c:Nat} (hs:Shp n c x) (p:List Nat):Shp n p.length (pkL x p):=⟨by rw[a4N];exact hs.1,fun r hr=>by
 obtain⟨s,_,rfl⟩:=List.mem_map.1 hr;simp⟩
theorem b4Z {x:Mat} {n c:Nat} (hs:Shp n c x) (p:List Nat):Eqm n p.length (ent (pkL x p)) (usd (ent x) p):=fun i hi a ha=>by
 have h1:i<x.length:=by rw[hs.1];exact hi
 simp[ent,pkL,usd,List.getD_eq_getElem?_getD,h1,ha]
def a3a (u:Mat) (n m:Nat):Mat:=a5Q (trL u n m) u n m
theorem a1p (u:Mat) (n m:Nat):Shp m m (a3a u n m):=b2D (a1U u n m).1
theorem a7I (u:Mat) (n m:Nat):Eqm m m (ent (a3a u n m)) (gr n (ent u)):=fun i hi j hj=>by
 unfold a3a;rw[b2E (a1U u n m) i hi j hj];exact a0h fun k hk=>by rw[a6M u n m i hi k hk]
theorem b2R {n c:Nat} {g:F2} {p:List Nat} (hg:Rref n c g p) (h:∀z,Nul n c g z->∀a,a<c->z a=0):p.length=c:=by
 have h1:∀j,j<c->j∈p:=fun j hj=>Classical.byContradiction fun hn=>by
  have:=h _ (hg.nv_nul hn hj) j hj;rw[a5r]at this;grind
 have h2:(List.range c).length<=p.length:=(List.nodup_range).length_le_of_subset fun j hj=>h1 j (List.mem_range.1 hj);have hnd:p.Nodup:=hg.pw.imp fun h=>Nat.ne_of_lt h;have h3:p.length<=(List.range c).length:=hnd.length_le_of_subset fun j hj=>by
  obtain⟨k,hk,rfl⟩:=List.getElem_of_mem hj;exact List.mem_range.2 (hg.lt k hk)
 rw[List.length_range]at h2 h3;omega
theorem b6q {G:Mat} {H:F2} {m:Nat} (hm:m<=4) (hs:Shp m m G) (hG:Eqm m m (ent G) H) (hN:∀z,Nul m m H z->∀a,a<m->z a=0):¬a4c G m/\Inv m H (ent (a3H G m)):=by
 have hns:¬a4c G m:=by
  rw[b2P hm hs];refine(b0W hm hs).1 ?_;obtain⟨_,hg,d,hd⟩:=a1f hs;exact b2R hg fun z hz=>hN z ((RE.same hG).nul z|>.1 ((hd.nul z).2 hz))
 refine⟨hns,fun a ha b hb=>?_,fun a ha b hb=>?_⟩
 ·have:=a9m hs hns a ha b hb
  rw[show(if a=b then(1:Rat)else 0)=a3i a b from rfl,<-this];exact a0h fun k hk=>by rw[hG a ha k hk]
 ·have:=b2Q hs hns a ha b hb
  rw[show(if a=b then(1:Rat)else 0)=a3i a b from rfl,<-this];exact a0h fun k hk=>by rw[hG k hk b hb]
theorem Nul.congr {n c:Nat} {f f':F2} {x:Nat->Rat} (h:Nul n c f x) (e:Eqm n c f f'):Nul n c f' x:=((RE.same e).nul x).1 h
theorem a8l {x:Mat} {n c:Nat} (hs:Shp n c x) (hp:(a0K x c).2.length<=4):
  ¬a4c (a3a (pkL x (a0K x c).2) n (a0K x c).2.length) (a0K x c).2.length/\Inv (a0K x c).2.length (gr n (ent (pkL x (a0K x c).2))) (ent (a3H (a3a (pkL x (a0K x c).2) n (a0K x c).2.length) (a0K x c).2.length)):=by
 obtain⟨_,hg,e,he⟩:=a1f hs;refine b6q hp (a1p _ _ _) (a7I _ _ _) fun z hz a ha=>?_;exact b5J hg he ((a8H.1 hz).congr (b4Z hs _)) a ha
theorem a5I {x:Mat} {n c:Nat} (hs:Shp n c x):(a0K x c).2.length<=c:=by
 obtain⟨_,hg,_⟩:=a1f hs;have hnd:(a0K x c).2.Nodup:=hg.pw.imp fun h=>Nat.ne_of_lt h;have h3:(a0K x c).2.length<=(List.range c).length:=hnd.length_le_of_subset fun j hj=>by
  obtain⟨k,hk,rfl⟩:=List.getElem_of_mem hj;exact List.mem_range.2 (hg.lt k hk)
 rwa[List.length_range]at h3
noncomputable def a3R (u:Mat) (n m:Nat):List Rat:=u.map fun r=>a2k r (a3O (a3H (a3a u n m) m) r)
theorem a3j (u:Mat) (n m:Nat):(a3R u n m).length=u.length:=by simp[a3R]
theorem a7J {u:Mat} {n m i:Nat} (hi:i<u.length) (h:i<(a3R u n m).length):(a3R u n m)[i]=a2k u[i] (a3O (a3H (a3a u n m) m) u[i]):=by simp[a3R]
theorem a6U {u:Mat} {n m:Nat} (hs:Shp n m u) {i:Nat} (hi:i<n):fn (a3R u n m) i=hat m (ent u) (ent (a3H (a3a u n m) m)) i i:=by
 have h1:i<u.length:=by rw[hs.1];exact hi
 have h2:i<(a3R u n m).length:=by rw[a3j];exact h1
 have e1:fn (a3R u n m) i=(a3R u n m)[i]:=by simp[fn,List.getD_eq_getElem?_getD,h2]
 rw[e1,a7J h1 h2,a5H (hs.2 _ (List.getElem_mem h1)),a8k h1];refine a0h fun a ha=>?_;rw[b4N (a3h (a1p u n m)) a ha];rfl
theorem b1k {u:Mat} {n:Nat} (hs:Shp n 0 u):a3R u n 0=List.replicate n 0:=by
 refine b1h (n:=n) (by rw[a3j];exact hs.1) List.length_replicate fun i hi=>?_;have:=a6U hs hi;unfold fn at this;rw[this,List.getD_eq_getElem?_getD,List.getElem?_replicate,if_pos hi];rfl
theorem b1l {x:Mat} {n c:Nat} (hs:Shp n c x) (hc:c<=4) {i:Nat} (hi:i<n):0<=fn (a3R (pkL x (a0K x c).2) n (a0K x c).2.length) i/\fn (a3R (pkL x (a0K x c).2) n (a0K x c).2.length) i<=1:=by
 obtain⟨_,hI⟩:=a8l hs (Nat.le_trans (a5I hs) hc);rw[a6U (a4O hs _) hi];exact b0y hI i hi
theorem b5a {x:Mat} {n c:Nat} (hs:Shp n c x) (hc:c<=4):sm n (fn (a3R (pkL x (a0K x c).2) n (a0K x c).2.length))=sm (a0K x c).2.length fun _=>1:=by
 obtain⟨_,hI⟩:=a8l hs (Nat.le_trans (a5I hs) hc);rw[a0h fun i hi=>a6U (a4O hs _) hi];exact b5K hI
theorem b5b (m:Nat):sm m (fun _=>1)=((m:Int):Rat):=by
 induction m with
 |zero=>rfl
 |succ m ih=>unfold sm;rw[ih,Int.natCast_add,Rat.intCast_add];rfl
theorem b2S {x:Mat} {y:List Rat} {n c:Nat} (hs:Shp n c x) (hy:y.length=n) {j:Nat} (hj:j<c):a2k ((trL x n c).getD j []) (a1R x y (a0Q x y n c))=0:=by
 obtain⟨_,_,h3,_⟩:=a6T (y:=y) hs;rw[a5H ((a1U x n c).row hj)];refine Eq.trans ?_ (b0w.1 h3 j hj);exact a0h fun r hr=>by
  rw[show((trL x n c).getD j []).getD r 0=ent x r j from a6M x n c j hj r hr];rw[show(a1R x y (a0Q x y n c)).getD r 0=fn (a1R x y (a0Q x y n c)) r from rfl,a9n hs hy hr]
theorem b3O {x:Mat} {y b:List Rat} {n c:Nat} (hs:Shp n c x) (hy:y.length=n):a2k (a1R x y b) (a1R x y b)=sm n fun r=>(fn y r - app c (ent x) (fn b) r)*(fn y r - app c (ent x) (fn b) r):=by
 rw[b4Y (n:=n) (by rw[a2i (by rw[hy,hs.1]),hs.1])];exact a0h fun r hr=>by rw[a9n hs hy hr]
theorem b1m {x:Mat} {y:List Rat} {n c:Nat} (hs:Shp n c x) (hy:y.length=n) (b:List Rat):a2k (a1R x y (a0Q x y n c)) (a1R x y (a0Q x y n c))<=a2k (a1R x y b) (a1R x y b):=by
 obtain⟨_,_,h3,_⟩:=a6T (y:=y) hs;rw[b3O hs hy,b3O hs hy];exact b2f h3 _
structure Mom where
 n:Int
 xx:Mat
 xy:List Rat
 yy:Rat
def shM (m:Mom) (row:List Rat) (v:Rat) (s:Int):Mom:=
 ⟨m.n+s,ofF row.length row.length fun j k=>ent m.xx j k+(s:Rat)*fn row j*fn row k,(List.range row.length).map fun j=>fn m.xy j+(s:Rat)*fn row j*v,m.yy+(s:Rat)*(v*v)⟩
def gmM (x:Mat) (y:List Rat) (c i:Nat):Mom:=⟨(i:Int),gmL x i c,gyL x y i c,sm i fun r=>fn y r*fn y r⟩
theorem a2H {α:Type} {c:Nat} {f g:Nat->α} (h:∀j,j<c->f j=g j):(List.range c).map f=(List.range c).map g:=
 List.map_congr_left fun j hj=>h j (List.mem_range.1 hj)
theorem b1n {n c:Nat} {f g:F2} (h:Eqm n c f g):ofF n c f=ofF n c g:=
 a2H fun i hi=>a2H fun j hj=>h i hi j hj
theorem b2T (x:Mat) (y:List Rat) (c:Nat):gmM x y c 0=⟨0,List.replicate c (List.replicate c 0),List.replicate c 0,0⟩:=by
 have e:∀(α:Type) (a:α),(List.range c).map (fun _=>a)=List.replicate c a:=fun α a=>by simp[List.map_const']
 unfold gmM gmL gyL ofF
 congr 1
 ·rw[<-e,<-e];rfl
 ·rw[<-e];rfl
theorem b2U {x:Mat} {y:List Rat} {n c i:Nat} (hs:Shp n c x) (hi:i<n):shM (gmM x y c i) (x.getD i []) (y.getD i 0) 1=gmM x y c (i+1):=by
 have hr:(x.getD i []).length=c:=hs.row hi;have one:((1:Int):Rat)=1:=rfl;unfold shM gmM;rw[hr]
 congr 1
 ·exact b1n fun j hj k hk=>by
   show ent (gmL x i c) j k+_=gr (i+1) (ent x) j k
   rw[a6S x i c j hj k hk]
   show gr i (ent x) j k+((1:Int):Rat)*ent x i j*ent x i k=gr i (ent x) j k+ent x i j*ent x i k
   rw[one];grind
 ·exact a2H fun j hj=>by
   show(gyL x y i c).getD j 0+_=gy (i+1) (ent x) (fn y) j
   rw[b1j x y i c hj]
   show gy i (ent x) (fn y) j+((1:Int):Rat)*ent x i j*fn y i=gy i (ent x) (fn y) j+ent x i j*fn y i
   rw[one];grind
 ·show sm i (fun r=>fn y r*fn y r)+((1:Int):Rat)*(fn y i*fn y i)=_
  rw[one]
  show _=sm i (fun r=>fn y r*fn y r)+fn y i*fn y i
  grind
end Go.Lin
namespace Go.Rep
open Go.RowKit Go.Lim
def BlR:Mem->Value->Bool->Prop:=fun _ u b=>u= .bool b
theorem BlR.mono:a3o BlR:=fun _ _ _ _ _ h=>h
theorem BlR.elem:Elem BlR 1:=⟨fun _ _ _ _ _ h=>h,by rintro h u x rfl;rfl,by
 rintro h u x rfl c hc;simp[a0n,Value.cells]at hc;subst hc;rfl,Nat.one_pos⟩
theorem BlR.one:a3u BlR:=by rintro h u x rfl;rfl
theorem Sl.bl {h:Mem} {ao:Option Addr} {l:List Bool} (s:Sl BlR 1 h ao l) (i:Nat) (hi:i<l.length):h (adr ao i)=some (.bool l[i]):=by
 obtain⟨u,h1,rfl⟩:=s.cell BlR.one i hi;exact h1
def usedL (p:List Nat) (c:Nat):List Bool:=(List.range c).map fun j=>decide (j∈p)
theorem a1H (p:List Nat) (c:Nat):(usedL p c).length=c:=by simp[usedL]
theorem b1o (p:List Nat) (c j:Nat) (h:j<(usedL p c).length):(usedL p c)[j]=decide (j∈p):=by simp[usedL]
theorem a9N (p:List Nat) (c:Nat):usedL p (c+1)=usedL p c++[decide (c∈p)]:=by simp[usedL,List.range_succ]
def b5E (A:Mem->Value->List (List Rat)->Prop) (B:Mem->Value->List Rat->Prop) (C:Mem->Value->Rat->Prop) (h:Mem) (u:Value) (m:Go.Lin.Mom):Prop:=
 ∃xo xl xc yo yl yc s a n c d k e,u= .agg #[.int .i64 m.n, .slice xo xl xc, .slice yo yl yc, .bool s, .slice a n c, .slice d k e]/\A h (.slice xo xl xc) m.xx/\B h (.slice yo yl yc) m.xy/\C h (.agg #[.bool s, .slice a n c, .slice d k e]) m.yy
def b5c:=b5E MV RV QV
def a7K:=b5E MC RC QC
theorem b5E.mono {A:Mem->Value->List (List Rat)->Prop} {B:Mem->Value->List Rat->Prop} {C:Mem->Value->Rat->Prop} (hA:a3o A) (hB:a3o B) (hC:a3o C):a3o (b5E A B C):=by
 rintro h h' u m hl ⟨xo,xl,xc,yo,yl,yc,s,a,n,c,d,k,e,rfl,h1,h2,h3⟩;exact⟨xo,xl,xc,yo,yl,yc,s,a,n,c,d,k,e,rfl,hA _ _ _ _ hl h1,hB _ _ _ _ hl h2,hC _ _ _ _ hl h3⟩
theorem b5c.mono:a3o b5c:=b5E.mono MV.mono RV.mono QV.mono
theorem a7K.mono:a3o a7K:=b5E.mono MC.mono RC.mono QC.mono
def BMo (B:Nat) (m:Go.Lin.Mom):Prop:=BM B m.xx/\BR B m.xy/\hq m.yy<=B
theorem a7K.mv {h:Mem} {u:Value} {m:Go.Lin.Mom} (s:a7K h u m) (hb:BMo 68719476736 m):b5c h u m:=by
 obtain⟨xo,xl,xc,yo,yl,yc,s,a,n,c,d,k,e,rfl,h1,h2,h3⟩:=s;exact⟨xo,xl,xc,yo,yl,yc,s,a,n,c,d,k,e,rfl,h1.mv hb.1,h2.rv hb.2.1,h3.qv hb.2.2⟩
end Go.Rep
namespace Go.Lin
structure Fit where
 rank:Nat
 used:List Bool
 coef:List Rat
 res:List Rat
 rss:Rat
 lev:List Rat
end Go.Lin
namespace Go.Rep
def b7g (h:Mem) (v:Value) (f:Go.Lin.Fit):Prop:=
 ∃uo uc co cl cc ro rl rc s a n c d k e lo ll lc,v= .agg #[.int .i64 (f.rank:Int), .slice uo f.used.length uc, .slice co cl cc, .slice ro rl rc, .bool s, .slice a n c, .slice d k e, .slice lo ll lc]/\f.used.length<=uc/\Sl BlR 1 h uo f.used/\RC h (.slice co cl cc) f.coef/\RC h (.slice ro rl rc) f.res/\QC h (.agg #[.bool s, .slice a n c, .slice d k e]) f.rss/\RC h (.slice lo ll lc) f.lev
theorem b7g.mono:a3o b7g:=by
 rintro h h' u f hl ⟨uo,uc,co,cl,cc,ro,rl,rc,s,a,n,c,d,k,e,lo,ll,lc,rfl,h0,h1,h2,h3,h4,h5⟩;exact⟨uo,uc,co,cl,cc,ro,rl,rc,s,a,n,c,d,k,e,lo,ll,lc,rfl,h0,h1.mono BlR.mono hl,RC.mono _ _ _ _ hl h2,RC.mono _ _ _ _ hl h3,QC.mono _ _ _ _ hl h4,RC.mono _ _ _ _ hl h5⟩
open Go.RowKit Go.Lim
theorem a1L {X:Nat->Bool} {w w':World} {g:Nat} (hE:Ext w w') (hg:w.heap.size<=g):Le (mk X w) (mk (un X (some ⟨g,0,none⟩)) w'):=
 a1l hE (fun k _ hk=>by simp[noY]at hk) fun k hk hz=>by
  by_cases hx:X k=true
  ·exact hx
  ·have:g=k:=by simpa[un,hx,ob]using hz
   omega
theorem a1A {X:Nat->Bool} {w:World} {g:Nat} (hX:HX X w) (hg:g<w.heap.size):HX (un X (some ⟨g,0,none⟩)) w:=fun k hk=>by
 by_cases hx:X k=true
 ·exact hX k hx
 ·have:g=k:=by simpa[un,hx,ob]using hk
  omega
section
variable {P:Program} {ops:Array Oper} {Q:Exit->Act->World->Prop} {rest:List Oper} {a:Act} {w:World}
variable {d:Option Tmp} {ty:TypeId} {ps:String} {af:Array Edge}
theorem a0P {o:Oper} {K:Act->World->Prop} {E:Prop} {t:TypeId} {x y:Operand} {n b:Nat} {cs vs:Array Value} {T:TypeId} (hg:o.guard=none) (hop:o.op= .store t x y) (hT:a1O P t n) (hx:a.eval x= .pointer (some ⟨b,0,none⟩)) (hy:a.eval y= .agg vs) (hb:Bx w b cs T) (hcs:cs.size=n) (hvs:vs.size=n) (hone:∀v∈vs.toList,v.oneCell'=true)
  (hK:∀w',Bx w' b vs T->ExtX (ob (some ⟨b,0,none⟩)) w w'->K (a.put o.dst undef) w'):
  if Region.wanted o (yielded ops a.tmps)=true then Oper.wp P o a w K Q else E:=by
 have hw:Region.wanted o (yielded ops a.tmps)=true:=by simp[Region.wanted,hg]
 rw[if_pos hw];obtain⟨w',hr,h1,h2⟩:=a4Z (P:=P) hT hb hcs hvs hone;unfold Oper.wp execOp;rw[hop];simp[hx,hy,Instr.storeAt,Instr.sureAddr,hr,Result.andThen];exact hK w' h1 h2
theorem a2b {t:TypeId} {x y:Operand} {b i:Nat} {cs:Array Value} {v:Value} {T:TypeId} (hT:TyI P t 1) (hx:a.eval x= .pointer (some ⟨b,i,none⟩)) (hy:a.eval y=v) (hv:v.cells=#[v]) (hone:v.oneCell'=true) (hb:Bx w b cs T) (hi:i<cs.size)
  (K:∀w',Bx w' b (cs.set i v) T->ExtX (ob (some ⟨b,0,none⟩)) w w'->wpList P ops Q rest (a.put d undef) w'):
  wpList P ops Q (⟨d, .store t x y,ty,ps,af,none⟩::rest) a w:=by
 refine wpList_plain rfl fun K' hK'=>?_;obtain⟨ti,ht,hts⟩:=hT;obtain⟨h1,h2⟩:=a1b hb v hi;have hc:=hb.cell i (u:=cs[i]) (by simp[hi]);have hf:=hb.frozen i;unfold Oper.wp;subst hy;have hr:=run_store P w ⟨b,i,none⟩ (a.eval y) .plain hone;rw[hc,hf]at hr;simp only[Bool.false_eq_true,if_false]at hr;simp[execOp,hx,Instr.storeAt,Instr.sureAddr,storeVar,sizeOf,typeInfo,ht,hts,hv,Result.andThen,storeCells,Addr.add_zero',hr];exact hK' _ _ (K _ h1 h2)
theorem a5T {o:Oper} {K:Act->World->Prop} {E:Prop} {t:TypeId} {x y:Operand} {b i:Nat} {cs:Array Value} {v:Value} {T:TypeId} (hg:o.guard=none) (hop:o.op= .store t x y) (hT:TyI P t 1) (hx:a.eval x= .pointer (some ⟨b,i,none⟩)) (hy:a.eval y=v) (hv:v.cells=#[v]) (hone:v.oneCell'=true) (hb:Bx w b cs T) (hi:i<cs.size)
  (hK:∀w',Bx w' b (cs.set i v) T->ExtX (ob (some ⟨b,0,none⟩)) w w'->K (a.put o.dst undef) w'):
  if Region.wanted o (yielded ops a.tmps)=true then Oper.wp P o a w K Q else E:=by
 have hw:Region.wanted o (yielded ops a.tmps)=true:=by simp[Region.wanted,hg]
 rw[if_pos hw];obtain⟨ti,ht,hts⟩:=hT;obtain⟨h1,h2⟩:=a1b hb v hi;have hc:=hb.cell i (u:=cs[i]) (by simp[hi]);have hf:=hb.frozen i;unfold Oper.wp execOp;rw[hop];subst hy;have hr:=run_store P w ⟨b,i,none⟩ (a.eval y) .plain hone;rw[hc,hf]at hr;simp only[Bool.false_eq_true,if_false]at hr;simp[hx,Instr.storeAt,Instr.sureAddr,storeVar,sizeOf,typeInfo,ht,hts,hv,Result.andThen,storeCells,Addr.add_zero',hr];exact hK _ h1 h2
theorem b6r {X Z:Nat->Bool} {w w':World} (hE:Ext w w') (h:∀k,k<w.heap.size->Z k=true->X k=true):Le (mk X w) (mk Z w'):=
 a1l hE (fun k _ hk=>by simp[noY]at hk) h
theorem a4P {X Y Z:Nat->Bool} {w w':World} (hE:ExtX Y w w') (hY:∀k,Y k=true->Z k=true) (hX:∀k,X k=true->Z k=true):Le (mk Z w) (mk X w'):=fun a u h=>a1u (fun k _ hk=>hX k hk) a u (a0H hE hY a u h)
theorem a1W (X:Nat->Bool) (a b:Option Addr):un (un X a) b=un (un X b) a:=by
 funext k;simp only[un];cases X k<;>cases ob a k<;>cases ob b k<;>rfl
theorem a2o {X:Nat->Bool} {w:World} {ao:Option Addr} (hX:HX X w) (h:∀k,ob ao k=true->k<w.heap.size):HX (un X ao) w:=fun k hk=>by
 by_cases hx:X k=true
 ·exact hX k hx
 ·exact h k (by simpa[un,hx]using hk)
theorem a6V (X:Nat->Bool):un X none=X:=by funext k;simp[un,ob]
end
end Go.Rep
namespace Go.Proofs.YtkddecjkfdogiaaGreat
open Go.RowKit Go.Rep
theorem a3S:a1O Tryz.prog 83 6:=by
 have h:(Tryz.prog.info? 83).map (fun i=>(i.zero,i.size,i.bytes))=some (some (.agg #[.int .i64 0, .slice none 0 0, .slice none 0 0, .bool false, .slice none 0 0, .slice none 0 0]),6,112):=by kernel_rfl
 obtain⟨ti,h1,_,h2,_⟩:=info_parts h;exact⟨_,ti,Tryz.underlying83,h1,h2⟩
theorem b5d:(Tryz.prog.info? 45).map (fun i=>(i.zero,i.size,i.bytes))=some (some (.slice none 0 0),1,24):=by kernel_rfl
theorem a9o:TyI Tryz.prog 45 1:=let ⟨i,h,_,h2,_⟩:=info_parts b5d;⟨i,h,h2⟩
theorem b5e:(Tryz.prog.info? 25).map (fun i=>(i.zero,i.size,i.bytes))=some (some (.slice none 0 0),1,24):=by kernel_rfl
theorem b6s:TyI Tryz.prog 25 1:=let ⟨i,h,_,h2,_⟩:=info_parts b5e;⟨i,h,h2⟩
theorem a8m:a1O Tryz.prog 63 8:=by
 have h:(Tryz.prog.info? 63).map (fun i=>(i.zero,i.size,i.bytes))=some (some (.agg #[.int .i64 0, .slice none 0 0, .slice none 0 0, .slice none 0 0, .bool false, .slice none 0 0, .slice none 0 0, .slice none 0 0]),8,160):=by kernel_rfl
 obtain⟨ti,h1,_,h2,_⟩:=info_parts h;exact⟨_,ti,Tryz.underlying63,h1,h2⟩
end Go.Proofs.YtkddecjkfdogiaaGreat
namespace Go.Rep
open Go.RowKit Go.Lim
abbrev a8n (X:Nat->Bool) (fb:Nat):Nat->Bool:=un X (some ⟨fb,0,none⟩)
abbrev a5J (X:Nat->Bool) (fb:Nat) (po oo:Option Addr):Nat->Bool:=un (un (a8n X fb) po) oo
structure RS (X:Nat->Bool) (w0:World) (b fb base:Nat) (T1 T2 T3:TypeId) (w:World) (oo:Option Addr) (co:Nat) (po:Option Addr) (pc:Nat) (M:List (List Rat)) (p:List Nat) (f:Rat):Prop where
 rows:OL RC 1 (un (a8n X fb) po) base T1 w oo co M
 piv:OL (a0b .i64) 1 (un (a8n X fb) oo) base T3 w po pc p
 fac:∃s a n c d k e,Bx w fb #[.bool s, .slice a n c, .slice d k e] T2/\QC (mk (a5J X fb po oo) w) (.agg #[.bool s, .slice a n c, .slice d k e]) f
 hx:HX X w
 res:Bx w b #[.bool false, .slice none 0 0, .slice none 0 0] T2
 rb:X b=true
 fb0:fb≠b
 ext:Ext w0 w
 low:w0.heap.size<=base
 lowf:w0.heap.size<=fb
section
variable {X:Nat->Bool} {w0 w w':World} {b fb base:Nat} {T1 T2 T3:TypeId} {oo po:Option Addr} {co pc:Nat} {M M':List (List Rat)} {p:List Nat} {f f':Rat}
theorem RS.oF (h:RS X w0 b fb base T1 T2 T3 w oo co po pc M p f):ob oo fb=false:=by
 cases hb:ob oo fb
 ·rfl
 ·have:=h.rows.1 fb hb;rw[a0o (a0s (a8d fb))]at this;simp at this
theorem RS.pF (h:RS X w0 b fb base T1 T2 T3 w oo co po pc M p f):ob po fb=false:=by
 cases hb:ob po fb
 ·rfl
 ·have:=h.piv.1 fb hb;rw[a0o (a0s (a8d fb))]at this;simp at this
theorem RS.oB (h:RS X w0 b fb base T1 T2 T3 w oo co po pc M p f):ob oo b=false:=by
 cases hb:ob oo b
 ·rfl
 ·have:=h.rows.1 b hb;rw[a0o (a0o h.rb)]at this;simp at this
theorem RS.pB (h:RS X w0 b fb base T1 T2 T3 w oo co po pc M p f):ob po b=false:=by
 cases hb:ob po b
 ·rfl
 ·have:=h.piv.1 b hb;rw[a0o (a0o h.rb)]at this;simp at this
theorem RS.po_oo (h:RS X w0 b fb base T1 T2 T3 w oo co po pc M p f) (k:Nat) (hk:ob po k=true):ob oo k=false:=(a0X (h.piv.1 k hk)).2
theorem RS.flt (h:RS X w0 b fb base T1 T2 T3 w oo co po pc M p f):fb<w.heap.size:=by
 obtain⟨_,_,_,_,_,_,_,h1,_⟩:=h.fac;exact h1.lt
theorem RS.hz (h:RS X w0 b fb base T1 T2 T3 w oo co po pc M p f):HX (a5J X fb po oo) w:=fun k hk=>by
 by_cases h1:ob oo k=true
 ·exact(h.rows.block h1).2
 ·by_cases h2:ob po k=true
  ·exact(h.piv.block h2).2
  ·by_cases h3:X k=true
   ·exact h.hx k h3
   ·have h1':ob oo k=false:=by simpa using h1
    have h2':ob po k=false:=by simpa using h2
    have h3':X k=false:=by simpa using h3
    have h4:ob (some ⟨fb,0,none⟩) k=true:=by simpa[a5J,a8n,un,h1',h2',h3']using hk
    have:fb=k:=by simpa[ob]using h4
    rw[<-this];exact h.flt
theorem RS.row (h:RS X w0 b fb base T1 T2 T3 w oo co po pc M p f) (i:Nat) (hi:i<M.length):∃a c,w.cell? (adr oo i)=some (.slice a M[i].length c)/\w.frozen? (adr oo i)=false/\M[i].length<=c/\Sl QC 3 (_root_.Go.Rep.mk (a5J X fb po oo) w) a M[i]:=by
 obtain⟨u,h1,h2,a,c,rfl,h4,h5⟩:=h.rows.cell SlV.one i hi;exact⟨a,c,h1,h2,h4,h5⟩
theorem RS.ext0 (h:RS X w0 b fb base T1 T2 T3 w oo co po pc M p f) (hE:Ext w w'):RS X w0 b fb base T1 T2 T3 w' oo co po pc M p f:=by
 obtain⟨s,a,n,c,d,k,e,h1,h2⟩:=h.fac;exact⟨h.rows.ext0 RC.elem hE,h.piv.ext0 (a0b.elem _) hE,⟨s,a,n,c,d,k,e,h1.ext0 hE,mkx QC.mono h2 hE⟩,h.hx.ext hE,h.res.ext0 hE,h.rb,h.fb0,h.ext.trans hE,h.low,h.lowf⟩
theorem RS.setRows (h:RS X w0 b fb base T1 T2 T3 w oo co po pc M p f) (hE:ExtX (ob oo) w w') (hO:OL RC 1 (un (a8n X fb) po) base T1 w' oo co M'):RS X w0 b fb base T1 T2 T3 w' oo co po pc M' p f:=by
 obtain⟨s,a,n,c,d,k,e,h1,h2⟩:=h.fac;exact⟨hO,h.piv.frame (a0b.pure _) hE (fun k hk=>h.po_oo k hk) h.piv.1,⟨s,a,n,c,d,k,e,h1.ext hE h.oF,QC.mono _ _ _ _ (a0H hE fun k hk=>a0s hk) h2⟩,h.hx.ext hE,h.res.ext hE h.oB,h.rb,h.fb0,h.ext.own h.rows h.low hE,h.low,h.lowf⟩
theorem RS.setFac (h:RS X w0 b fb base T1 T2 T3 w oo co po pc M p f) (hE:ExtX (ob (some ⟨fb,0,none⟩)) w w') {s:Bool} {a:Option Addr} {n c:Nat} {d:Option Addr} {k e:Nat} (hB:Bx w' fb #[.bool s, .slice a n c, .slice d k e] T2) (hq:QC (_root_.Go.Rep.mk (a5J X fb po oo) w') (.agg #[.bool s, .slice a n c, .slice d k e]) f'):RS X w0 b fb base T1 T2 T3 w' oo co po pc M p f':=by
 have hf:∀k,ob (some ⟨fb,0,none⟩) k=true->k=fb:=fun k hk=>by
  have:fb=k:=by simpa[ob]using hk
  exact this.symm
 refine⟨h.rows.ext RC.elem hE (fun k _ hk=>a0o (a0s hk)) (fun _ _ h=>h),h.piv.frame (a0b.pure _) hE (fun k hk=>?_) h.piv.1,⟨s,a,n,c,d,k,e,hB,hq⟩,h.hx.ext hE,h.res.ext hE (a0c (Ne.symm h.fb0)),h.rb,h.fb0,h.ext.then_ hE fun k hk _=>?_,h.low,h.lowf⟩
 ·cases hb:ob (some ⟨fb,0,none⟩) k
  ·rfl
  ·have:=hf k hb;subst this;rw[h.pF]at hk;simp at hk
 ·cases hb:ob (some ⟨fb,0,none⟩) k
  ·rfl
  ·have:=hf k hb;have:=h.lowf;omega
theorem RS.push (h:RS X w0 b fb base T1 T2 T3 w oo co po pc M p f) {po2:Option Addr} {pc2 j:Nat} (hE:ExtX (ob po) w w') (hP:OL (a0b .i64) 1 (un (a8n X fb) oo) base T3 w' po2 pc2 (p++[j])) (hor:po2=po\/∃g,po2=some ⟨g,0,none⟩/\w.heap.size<=g):RS X w0 b fb base T1 T2 T3 w' oo co po2 pc2 M (p++[j]) f:=by
 obtain⟨s,a,n,c,d,k,e,h1,h2⟩:=h.fac;have hold:∀k,k<w.heap.size->ob po2 k=true->ob po k=true:=fun k hk h9=>by
  rcases hor with rfl|⟨g,rfl,hg⟩
  ·exact h9
  ·have:g=k:=by simpa[ob]using h9
   omega
 have hF:∀k,k<w.heap.size->un (a8n X fb) po2 k=true->un (a8n X fb) po k=true:=fun k hk hz=>by
  by_cases hx:a8n X fb k=true
  ·exact a0o hx
  ·exact a0s (hold k hk (by simpa[un,hx]using hz))
 refine⟨h.rows.ext RC.elem hE (fun k _ hk=>a0s hk) hF,hP,⟨s,a,n,c,d,k,e,h1.ext hE h.pF,QC.mono _ _ _ _ (a1l hE (fun k _ hk=>a0o (a0s hk)) fun k hk hz=>?_) h2⟩,h.hx.ext hE,h.res.ext hE h.pB,h.rb,h.fb0,h.ext.own h.piv h.low hE,h.low,h.lowf⟩;by_cases ho:ob oo k=true
 ·exact a0s ho
 ·exact a0o (hF k hk (by simpa[un,ho]using hz))
end
end Go.Rep
namespace Go.Lin
open Go.Lim
def a9O (m:Mat) (c:Nat):Prop:=∃B,6*B<=68719476736/\∀j,j<=c->HB B (rN m j).1/\hq (rN m j).2.2<=B
theorem b1p {n c:Nat} {m:Mat} (hs:Shp n c m) (k:Nat):(rN m k).2.1.length<=n:=(a7l hs k).ref.le
theorem b2V {n c B:Nat} {m:Mat} (hs:Shp n c m) (h:HB B m) (hB:6*(6^n*B)<=68719476736):a9O m c:=
 ⟨6^n*B,hB,fun j _=>by
  obtain⟨h1,h2⟩:=h.rN hs j;have hp:6^(rN m j).2.1.length*B<=6^n*B:=Nat.mul_le_mul_right _ (Nat.pow_le_pow_right (by decide) (b1p hs j));exact⟨h1.mono hp,Nat.le_trans h2 hp⟩⟩
theorem b1q (m:Mat) (k:Nat):rN m (k+1)=a5t (rN m k) k:=rfl
theorem a3I {m:Mat} {i:Nat} (h:i<m.length):m.getD i []=m[i]:=by simp[List.getD_eq_getElem?_getD,h]
theorem a8o {m:Mat} {i:Nat} (h:i<m.length) (j:Nat):ent m i j=(m[i]).getD j 0:=by unfold ent;rw[a3I h]
theorem b5f {m:Mat} {n t col:Nat} (hl:m.length=n) (h:∀q,t<=q->q<n->ent m q col=0):b0m m t col=none:=by
 unfold b0m;rw[List.findIdx?_eq_none_iff];intro r hr;obtain⟨i,hi,rfl⟩:=List.getElem_of_mem hr;rw[List.length_drop]at hi;have:=h (t+i) (by omega) (by omega);rw[a8o (by omega)]at this;simpa using this
theorem b5g {m:Mat} {n t col a:Nat} (hl:m.length=n) (h:∀q,t<=q->q<t+a->ent m q col=0) (ha:t+a<n) (hne:ent m (t+a) col≠0):b0m m t col=some a:=by
 unfold b0m;rw[List.findIdx?_eq_some_iff_getElem];refine⟨by rw[List.length_drop];omega,?_,fun j hj=>?_⟩
 ·rw[List.getElem_drop,<-a8o (by omega)];simpa using hne
 ·rw[List.getElem_drop,<-a8o (by omega)];simpa using h (t+j) (by omega) (by omega)
theorem b2W (m:Mat) (t col:Nat):out m t col 0=m:=by
 unfold out rows;refine List.ext_getElem (by simp) fun q h1 h2=>?_;rw[List.getElem_mapIdx,if_neg (by omega)]
theorem a4d (m:Mat) (t col s:Nat):(out m t col s).length=m.length:=by simp[out,rows]
theorem a4Q {m:Mat} {t col s i:Nat} (h:i<(out m t col s).length) (h2:i<m.length):(out m t col s)[i]=if i≠t/\i<s then List.zipWith (· + ·) m[i] ((m.getD t []).map (· * - m[i].getD col 0))else m[i]:=by
 show(m.mapIdx _)[i]'(by simpa using h2)=_
 rw[List.getElem_mapIdx]
theorem b5h {m:Mat} {t col s:Nat} (h:s<m.length) (hst:s≠t):(out m t col s).set s (List.zipWith (· + ·) m[s] ((m.getD t []).map (· * - m[s].getD col 0)))=out m t col (s+1):=by
 refine List.ext_getElem (by simp[a4d]) fun q h1 h2=>?_;have hq:q<m.length:=by rw[a4d]at h2;exact h2
 rw[List.getElem_set,a4Q h2 hq];split
 ·subst_vars;rw[if_pos ⟨hst,by omega⟩]
 ·rw[a4Q (by simpa[a4d]using hq) hq]
  by_cases a:q≠t/\q<s
  ·rw[if_pos a,if_pos ⟨a.1,by omega⟩]
  ·rw[if_neg a,if_neg (by omega)]
theorem b2X {m:Mat} {t col:Nat}:out m t col t=out m t col (t+1):=by
 refine List.ext_getElem (by simp[a4d]) fun q h1 h2=>?_;have hq:q<m.length:=by rw[a4d]at h2;exact h2
 rw[a4Q h1 hq,a4Q h2 hq];by_cases a:q≠t/\q<t
 ·rw[if_pos a,if_pos ⟨a.1,by omega⟩]
 ·rw[if_neg a,if_neg (by omega)]
theorem b1r {m:Mat} {i k:Nat} (hi:i<m.length) (hk:k<m.length):(m.set i m[k]).set k m[i]=a0U m i k:=by
 unfold a0U;rw[a3I hi,a3I hk]
theorem b6t {n c:Nat} {m M:Mat} {P:List Nat} {f:Rat} {j pl a:Nat} (hs:Shp n c m) (hst:rN m j=(M,P,f)) (hpl:P.length=pl) (hz:∀q,pl<=q->q<pl+a->ent M q j=0) (ha:pl+a<n) (hne:ent M (pl+a) j≠0):
  rN m (j+1)=(out (pv (a0U M (pl+a) pl) pl j) pl j n,P++[j],(if a=0 then f else - f)*ent (a0U M (pl+a) pl) pl j):=by
 have hM:Shp n c M:=by have:=(a7l hs j).shp;rw[hst]at this;exact this
 subst hpl;rw[b1q,hst];unfold a5t
 dsimp only
 rw[b5g hM.1 hz ha hne]
 dsimp only
 rw[hM.1]
theorem b5i {n c:Nat} {m M:Mat} {P:List Nat} {f:Rat} {j pl:Nat} (hs:Shp n c m) (hst:rN m j=(M,P,f)) (hpl:P.length=pl) (hz:∀q,pl<=q->q<n->ent M q j=0):rN m (j+1)=(M,P,f):=by
 have hM:Shp n c M:=by have:=(a7l hs j).shp;rw[hst]at this;exact this
 subst hpl;rw[b1q,hst];unfold a5t
 dsimp only
 rw[b5f hM.1 hz]
end Go.Lin
namespace Go.Rep
open Go.RowKit
theorem b1s {X:Nat->Bool} {b k:Nat} (h:X b=true) (hk:ob (some ⟨b,0,none⟩) k=true):X k=true:=by
 have:b=k:=by simpa[ob]using hk
 subst this;exact h
section
variable {P:Program} {w:World}
theorem a8p {fn:Func} {tmps:Array Value} {c d e:Tmp} {t:TypeId} {n b:Nat} {cs:Array Value} {T:TypeId} (h:fn.results=#[.tmp d, .tmp e, .cell c t]) (hp:tmps.getD c undef= .pointer (some ⟨b,0,none⟩)) (hT:a1O P t n) (hb:Bx w b cs T) (hcs:cs.size=n):
  (results fn tmps).run P w= .ok (.tuple #[tmps.getD d undef,tmps.getD e undef, .agg cs]) w:=by
 have hl:=a2m (P:=P) hT hb hcs;rw[Array.getD_eq_getD_getElem?]at hp;simp[results,h,hp,asAddr,hl]
end
end Go.Rep
namespace Go.Lin
open Go.Lim Go.Rep
theorem b1t {p:List Nat} {c:Nat} (h1:∀i (hi:i<p.length),p[i]<c) (h2:∀i k (hik:i<k) (hk:k<p.length),p[i]<p[k]):p.length<=c:=by
 have hpw:p.Pairwise (· < ·):=List.pairwise_iff_getElem.2 fun i j hi hj hij=>h2 i j hij hj;have hnd:p.Nodup:=hpw.imp fun h=>Nat.ne_of_lt h;have h3:p.length<=(List.range c).length:=hnd.length_le_of_subset fun j hj=>by
  obtain⟨k,hk,rfl⟩:=List.getElem_of_mem hj;exact List.mem_range.2 (h1 k hk)
 rwa[List.length_range]at h3
theorem a6k {n c B:Nat} {m:Mat} (hs:Shp n c m) (h:HB B m) (hc:c<=4) (hBB:B<=6000):b0h m c/\a9O m c:=by
 have hle:∀j,j<=c->(eN m j).2.1.length<=4:=fun j hj=>Nat.le_trans (b1t (a5g hs j).ech.lt (a5g hs j).ech.inc) (by omega);have hle2:∀j,j<=c->(rN m j).2.1.length<=4:=fun j hj=>Nat.le_trans (b1t (a7l hs j).ref.lt (a7l hs j).ref.inc) (by omega);have p5:∀k,k<=4->5^k<=625:=fun k hk=>Nat.le_trans (a5w 5 (by omega) hk) (by decide);have p7:∀k,k<=4->7^k<=2401:=fun k hk=>Nat.le_trans (a5w 7 (by omega) hk) (by decide);have p6:∀k,k<=4->6^k<=1296:=fun k hk=>Nat.le_trans (a5w 6 (by omega) hk) (by decide);refine⟨⟨1500625*B,by omega,fun j hj=>(h.eN hs j).mono (Nat.mul_le_mul_right _ (Nat.le_trans (p5 _ (hle j hj)) (by decide))),fun t ht=>(((h.eN hs c).dN (a5g hs c).shp (a5g hs c).ech t ht)).mono ?_⟩,⟨1296*B,by omega,fun j hj=>?_⟩⟩
 ·rw[<-Nat.mul_assoc]
  refine Nat.mul_le_mul_right _ ?_;exact Nat.mul_le_mul (p7 t (Nat.le_trans ht (hle c (Nat.le_refl _)))) (p5 _ (hle c (Nat.le_refl _)))
 ·obtain⟨h1,h2⟩:=h.rN hs j
  have hp:=Nat.mul_le_mul_right B (p6 _ (hle2 j hj));exact⟨h1.mono hp,Nat.le_trans h2 hp⟩
theorem a4R {n c B:Nat} {m:Mat} (hs:Shp n c m) (h:HB B m) (hn:n<=4) (hBB:B<=6000):b0h m c/\a9O m c:=by
 have h35:=b6o hn;have h6:6^n<=1296:=Nat.le_trans (Nat.pow_le_pow_right (by omega) hn) (by decide);have h1:=Nat.mul_le_mul h35 hBB;have h2:=Nat.mul_le_mul h6 hBB;exact⟨b4p hs h (by omega),b2V hs h (by omega)⟩
theorem b1u {n c B:Nat} {m:Mat} (hs:Shp n c m) (h:HB B m) (hn:n<=4):HB (1296*B) (a0K m c).1:=by
 rw[(b0o hs).1];refine(h.rN hs c).1.mono (Nat.mul_le_mul_right _ ?_);exact Nat.le_trans (a5w 6 (by omega) (Nat.le_trans (b1p hs c) hn)) (by decide)
theorem a9P {n B:Nat} {f:Nat->Rat} (h:∀i,i<n->hq (f i)<=B):hq (sm n f)<=1+n*(B+1):=by
 induction n with
 |zero=>unfold sm;rw[a0Y];omega
 |succ n ih=>
  unfold sm;have h1:=ih fun i hi=>h i (by omega);have h2:=a8N (sm n f) (f n);have h3:=h n (by omega);have e:(n+1)*(B+1)=n*(B+1)+(B+1):=Nat.succ_mul _ _;omega
theorem b2Y {l:List Rat} {B:Nat} (h:BR B l) (hB:1<=B) (i:Nat):hq (fn l i)<=B:=a7F h hB i
theorem a6l {l m:List Rat} {c B C:Nat} (hl:l.length=c) (h1:BR B l) (h2:BR C m) (hB:1<=B) (hC:1<=C):hq (a2k l m)<=1+c*(B+C+1):=by
 rw[a5H hl];refine a9P fun i hi=>Nat.le_trans (hq_mul _ _) ?_;have:=a7F h1 hB i;have:=a7F h2 hC i;omega
theorem b6u {x:Mat} {n B:Nat} (h:HB B x) (i j:Nat):hq (gr n (ent x) i j)<=1+n*(2*B+1):=a9P fun r _=>Nat.le_trans (hq_mul _ _) (by have:=h r i;have:=h r j;omega)
theorem b7h {x:Mat} {y:List Rat} {n B:Nat} (h:HB B x) (hy:BR B y) (i:Nat):hq (gy n (ent x) (fn y) i)<=1+n*(2*B+1):=a9P fun r _=>Nat.le_trans (hq_mul _ _) (by have:=h r i;have:=b2Y hy h.pos r;omega)
theorem a4D {n B:Nat} (hn:n<=8) (hB:B<=370):1+n*(2*B+1)<=5929:=by
 have:=Nat.mul_le_mul hn (show 2*B+1<=741 by omega);omega
theorem b1v {x:Mat} {n c B:Nat} (h:HB B x) (hn:n<=8) (hB:B<=370):HB 5929 (gmL x n c):=fun i j=>by
 by_cases hi:i<c
 ·by_cases hj:j<c
  ·rw[a6S x n c i hi j hj];exact Nat.le_trans (b6u h i j) (a4D hn hB)
  ·rw[a1B (a2R x n c) (.inr (by omega)),a0Y];decide
 ·rw[a1B (a2R x n c) (.inl (by omega)),a0Y];decide
theorem b1w {x:Mat} {y:List Rat} {n c B:Nat} (h:HB B x) (hy:BR B y) (hn:n<=8) (hB:B<=370):BR 5929 (gyL x y n c):=fun q hq=>by
 obtain⟨i,_,rfl⟩:=List.mem_map.1 hq;exact Nat.le_trans (b7h h hy i) (a4D hn hB)
theorem b1x {m:Mat} {b:List Rat} {n c B:Nat} (hs:Shp n c m) (hm:HB B m) (hb:BR B b) (hn:n<=4):BR (1296*B) (b3t (a0K (a2K m b n) (c+1)).1 (a0K (a2K m b n) (c+1)).2 c):=b7f fun x hx=>by
 obtain⟨_,h2,_⟩:=a1f (a2f (b:=b) hs);have h5:=b1u (a2f hs) (a9i hs hm hb) hn;rw[a8i]at hx;rw[a8R h2 x hx];unfold b0u;split
 ·exact h5 _ _
 ·rw[a0Y];exact h5.pos
theorem a6W {x:Mat} {y:List Rat} {n c B:Nat} (h:HB B x) (hy:BR B y) (hn:n<=8) (hc:c<=4) (hB:B<=370):BR 8000000 (a0Q x y n c):=fun q hq=>
 Nat.le_trans (b1x (a2R x n c) (b1v h hn hB) (b1w h hy hn hB) hc q hq) (by decide)
theorem b6v {l:List Rat} {B i:Nat} (h:BR B l) (hi:i<l.length):hq l[i]<=B:=h _ (List.getElem_mem hi)
theorem b3P {x:Mat} {y b:List Rat} {n c B C:Nat} (hs:Shp n c x) (h:BM B x) (hy:BR B y) (hb:BR C b) (hB1:1<=B) (hC1:1<=C):BR (B+c*(B+C+1)+2) (a1R x y b):=fun q hq=>by
 obtain⟨i,hi,rfl⟩:=List.getElem_of_mem hq;have h1:i<x.length:=by unfold a1R at hi;rw[List.length_zipWith]at hi;omega
 have h2:i<y.length:=by unfold a1R at hi;rw[List.length_zipWith]at hi;omega
 rw[a4C hi h1 h2];have a1:=a7r y[i] (a2k x[i] b);have a2:=b6v hy h2;have a3:=a6l (hs.2 _ (List.getElem_mem h1)) (h _ (List.getElem_mem h1)) hb hB1 hC1;omega
theorem a6X {x:Mat} {y b:List Rat} {n c B:Nat} (hs:Shp n c x) (h:BM B x) (hy:BR B y) (hb:BR 8000000 b) (hB1:1<=B) (hc:c<=4) (hB:B<=370):BR 33000000 (a1R x y b):=fun q hq=>by
 have h1:=b3P hs h hy hb hB1 (by decide) q hq;have:=Nat.mul_le_mul hc (show B+8000000+1<=8000371 by omega);omega
theorem b3Q {l:List Rat} (h:BR 33000000 l) (hn:l.length<=8):hq (a2k l l)<=600000000:=by
 have h1:=a6l rfl h h (by decide) (by decide);have:=Nat.mul_le_mul hn (Nat.le_refl (33000000+33000000+1));omega
theorem a9p {x:Mat} {p:List Nat} {B:Nat} (h:BM B x) (hB:1<=B):BM B (pkL x p):=fun r hr q hq=>by
 obtain⟨s,hs,rfl⟩:=List.mem_map.1 hr;obtain⟨j,_,rfl⟩:=List.mem_map.1 hq;exact a7F (h s hs) hB j
theorem a9q {u:Mat} {n m B:Nat} (h:HB B u) (hn:n<=8) (hB:B<=370):HB 5929 (a3a u n m):=fun i j=>by
 by_cases hi:i<m
 ·by_cases hj:j<m
  ·rw[a7I u n m i hi j hj];exact Nat.le_trans (b6u h i j) (a4D hn hB)
  ·rw[a1B (a1p u n m) (.inr (by omega)),a0Y];decide
 ·rw[a1B (a1p u n m) (.inl (by omega)),a0Y];decide
theorem a9r {m:Mat} {n B:Nat} (hs:Shp n n m) (h:HB B m):HB B (a1P m n):=fun i j=>by
 have h1:=h.pos;by_cases hi:i<n
 ·by_cases hj:j<2*n
  ·rw[a2Z hs i hi j hj]
   split
   ·exact h i j
   ·split
    ·have:hq (1:Rat)<=1:=by decide+kernel
     omega
    ·rw[a0Y];exact h1
  ·rw[a1B (a1s hs) (.inr (by omega)),a0Y];exact h1
 ·rw[a1B (a1s hs) (.inl (by omega)),a0Y];exact h1
theorem b5j {m:Mat} {n B:Nat} (hs:Shp n n m) (h:HB B m) (hn:n<=4):HB (1296*B) (a3H m n):=fun i j=>by
 have h5:=b1u (a1s hs) (a9r hs h) hn;by_cases hi:i<n
 ·rw[a9k hs i hi j];exact h5 _ _
 ·rw[a1B (a3h hs) (.inl (by omega)),a0Y];exact h5.pos
theorem b1y {u:Mat} {n m B:Nat} (h:HB B u) (hn:n<=8) (hm:m<=4) (hB:B<=370):BM 8000000 (a3H (a3a u n m) m):=fun r hr q hq=>
 Nat.le_trans (a6Q (b5j (a1p u n m) (a9q h hn hB) hm) r hr q hq) (by decide)
theorem b6w {m:Mat} {v:List Rat} {n c B C:Nat} (hs:Shp n c m) (h:BM B m) (hv:BR C v) (hB:1<=B) (hC:1<=C):BR (1+c*(B+C+1)) (a3O m v):=fun q hq=>by
 obtain⟨r,hr,rfl⟩:=List.mem_map.1 hq;exact a6l (hs.2 r hr) (h r hr) hv hB hC
theorem b1z {u:Mat} {n m B:Nat} (hu:BM B u) (hn:n<=8) (hm:m<=4) (hB1:1<=B) (hB:B<=370) {r:List Rat} (hr:r∈u):BR 33000000 (a3O (a3H (a3a u n m) m) r):=fun q hq=>by
 have h1:=b6w (a3h (a1p u n m)) (b1y (a5F hu hB1) hn hm hB) (hu r hr) (by decide) hB1 q hq;have:=Nat.mul_le_mul hm (show 8000000+B+1<=8000371 by omega);omega
theorem b1A {u:Mat} {n m B:Nat} (hs:Shp n m u) (hu:BM B u) (hn:n<=8) (hm:m<=4) (hB1:1<=B) (hB:B<=370):BR 140000000 (a3R u n m):=fun q hq=>by
 obtain⟨r,hr,rfl⟩:=List.mem_map.1 hq;have h1:=a6l (hs.2 r hr) (hu r hr) (b1z hu hn hm hB1 hB hr) hB1 (by decide);have:=Nat.mul_le_mul hm (show B+33000000+1<=33000371 by omega);omega
end Go.Lin
namespace Go
section
variable {P:Program} {ops:Array Oper} {Q:Exit->Act->World->Prop} {md:Region.Mode} {S:World->Prop} {n:Nat}
def a2j (P:Program) (md:Region.Mode) (ops:Array Oper) (Q:Exit->Act->World->Prop) (S:World->Prop) (n:Nat):Nat->Array Bool->Act->World->Prop
 |0,listed,a,w=>Region.ready md ops listed= []/\Q .normal a w
 |fuel+1,listed,a,w=>
  (Region.ready md ops listed= []->Q .normal a w)/\
  ∀i∈Region.ready md ops listed,wpOp P ops Q i (fun a' w'=>(i<n->S w')/\a2j P md ops Q S n fuel (listed.setIfInBounds i true) a' w') a w
theorem a6m:∀(fuel:Nat) (listed:Array Bool) (a:Act) (w:World),a2j P md ops Q S n fuel listed a w->wpAny P md ops Q fuel listed a w
 |0,_,_,_,h=>h
 |fuel+1,_,_,_,h=>⟨h.1,fun i hi=>wpOp_mono (fun a' w' h'=>a6m fuel _ a' w' h'.2) (h.2 i hi)⟩
theorem a5f {i:Nat} {oi:Oper} {v:Value} (hs:Region.sinkB md ops n=true) (hc:Region.chainB md ops n=true) (hn:n<ops.size) (hin:i<n) (hi:ops[i]? =some oi) (hsel:∀(j:Nat) (o:Oper) cs b,ops[j]? =some o->o.op≠ .select cs b)
  (hQ:∀c a w,Q (.panic c) (a.put oi.dst v) w->Q (.panic c) a w):
  ∀(fuel:Nat) (listed:Array Bool) (a:Act) (w:World),HeadInv md ops n listed->
   (∀j oj,ops[j]? =some oj->j≠i->listed.getD j true=false->(∀e∈oj.after,Region.binds md e=true->e.on≠i)->oi.apart ops oj=true)->
   i∈Region.ready md ops listed->YieldsIf P ops S oi v a->S w->
   a2j P md ops Q S n fuel (listed.setIfInBounds i true) (a.put oi.dst v) w->a2j P md ops Q S n (fuel+1) listed a w:=by
 intro fuel
 induction fuel with
 |zero=>
  intro listed a w _ _ hr hy hS H;refine⟨fun h=>(by rw[h]at hr;cases hr),fun j hj=>?_⟩;by_cases hji:j=i
  ·subst hji;exact hy.wpOp hi hS ⟨fun _=>hS,H⟩
  ·have:=ready_mono hj hji
   rw[H.1]at this;cases this
 |succ fuel ih=>
  intro listed a w inv hfree hr hy hS H;refine⟨fun h=>(by rw[h]at hr;cases hr),fun j hj=>?_⟩;by_cases hji:j=i
  ·subst hji;exact hy.wpOp hi hS ⟨fun _=>hS,H⟩
  ·have hjn:j<n:=by
    rcases Nat.lt_or_ge j n with h|h
    ·exact h
    ·exact absurd hj (tail_waits hs hc hn inv (n - i) i rfl hin (mem_ready.1 hr).1 j h)
   have h1:=H.2 j (ready_mono hj hji);obtain⟨hjun,oj,hoj,hall⟩:=mem_ready.1 hj;have hnot:∀e∈oj.after,Region.binds md e=true->e.on≠i:=fun e he hb heq=>by
    have h1:=hall e he hb;have h0:=(mem_ready.1 hr).1;rw[heq]at h1;rcases Nat.lt_or_ge i listed.size with h'|h'
    ·simp[h']at h0 h1;rw[h0]at h1;cases h1
    ·simp[Array.getElem?_eq_none h']at h1
   have h2:=wpOp_putIf hoj (hfree j oj hoj hji hjun hnot) (fun cs b=>hsel i oi cs b hi) (fun cs b=>hsel j oj cs b hoj) hQ hy h1;have hfree':∀k ok,ops[k]? =some ok->k≠i->(listed.setIfInBounds j true).getD k true=false->
     (∀e∈ok.after,Region.binds md e=true->e.on≠i)->oi.apart ops ok=true:=fun k ok hk hki hun hno=>by
    refine hfree k ok hk hki ?_ hno;by_cases hjk:j=k
    ·subst hjk;exact hjun
    ·rw[getD_set_ne true hjk]at hun;exact hun
   refine wpOp_mono (fun a' w' h3=>⟨h3.2.1,ih (listed.setIfInBounds j true) a' w' (inv.set hj hjn) hfree' (ready_mono hr (Ne.symm hji)) h3.1 (h3.2.1 hjn) ?_⟩) h2;rw[Array.setIfInBounds_comm _ _ hji];exact h3.2.2
def b5k (md:Region.Mode) (ops:Array Oper) (n:Nat) (listed:Array Bool):Bool:=
 decide (listed.size=ops.size)&&
 ((List.range ops.size).all fun j=> !listed.getD j false||(match ops[j]? with|some o=>o.after.all fun e=> !Region.binds md e||listed.getD e.on false|none=>true))&&
 ((List.range ops.size).all fun t=>decide (t<n)|| !listed.getD t true)
theorem a7L {listed:Array Bool} (h:b5k md ops n listed=true):HeadInv md ops n listed:=by
 unfold b5k at h;simp only[Bool.and_eq_true,decide_eq_true_eq]at h;obtain⟨⟨h1,h2⟩,h3⟩:=h;refine⟨h1,fun j oj hj hl e he hb=>?_,fun t ht ht'=>?_⟩
 ·have hlt:j<ops.size:=(Array.getElem?_eq_some_iff.1 hj).1
  have h4:=List.all_eq_true.1 h2 j (List.mem_range.2 hlt);rw[hl,hj]at h4;simp only[Bool.not_true,Bool.false_or]at h4;have h5:=Array.all_eq_true_iff_forall_mem.1 h4 e he;rw[hb]at h5;simpa using h5
 ·have h4:=List.all_eq_true.1 h3 t (List.mem_range.2 ht')
  simp only[Bool.or_eq_true,decide_eq_true_eq,Bool.not_eq_true']at h4;rcases h4 with h4|h4
  ·omega
  ·exact h4
def b2Z (md:Region.Mode) (ops:Array Oper) (n i:Nat) (listed:Array Bool):Bool:=
 decide (i<n)&&b5k md ops n listed&&Region.free md ops listed i&&(Region.ready md ops listed).contains i
def a9Q (md:Region.Mode) (ops:Array Oper) (n:Nat):Bool:=Region.sinkB md ops n&&Region.chainB md ops n&&decide (n<ops.size)&&Region.noSelect ops
theorem a0a {i:Nat} {oi:Oper} {v:Value} {fuel:Nat} {listed:Array Bool} {a:Act} {w:World} (hO:Shut (a9Q md ops n=true)) (hi:ops[i]? =some oi)
  (hB:b2Z md ops n i listed=true)
  (hQ:∀c a w,Q (.panic c) (a.put oi.dst v) w->Q (.panic c) a w) (hS:S w) (hw:Region.wanted oi (yielded ops a.tmps)=true) (hy:∀w,S w->(execOp a.eval oi).run P w= .ok (.value v) w)
  (h:a2j P md ops Q S n fuel (listed.setIfInBounds i true) (a.put oi.dst v) w):a2j P md ops Q S n (fuel+1) listed a w:=by
 unfold b2Z at hB;simp only[Bool.and_eq_true,decide_eq_true_eq]at hB;obtain⟨⟨⟨b4,b5⟩,b7⟩,b8⟩:=hB;have hO:=hO.out;unfold a9Q at hO;simp only[Bool.and_eq_true,decide_eq_true_eq]at hO;obtain⟨⟨⟨b1,b2⟩,b3⟩,b6⟩:=hO;exact a5f b1 b2 b3 b4 hi (Region.noSelect_spec b6) hQ fuel listed a w (a7L b5) (Region.free_spec hi b7) (by simpa using b8) (.inl ⟨hw,hy⟩) hS h
theorem a0e {i:Nat} {o:Oper} {fuel:Nat} {listed:Array Bool} {a:Act} {w:World} (hr:Region.ready md ops listed= [i]) (ho:ops[i]? =some o)
  (h:∀K':Act->World->Prop,Shut (∀a w,S w->(S w->a2j P md ops Q S n fuel (listed.setIfInBounds i true) a w)->K' a w)->if Region.wanted o (yielded ops a.tmps)=true then Oper.wp P o a w K' Q else K' (a.put o.dst undef) w):a2j P md ops Q S n (fuel+1) listed a w:=by
 refine⟨fun h0=>(by rw[hr]at h0;cases h0),fun j hj=>?_⟩;rw[hr]at hj;have:j=i:=by simpa using hj
 subst this;exact wpOp_step ho (fun K' hK=>h K' (fun a w hS hW=>hK a w ⟨fun _=>hS,hW hS⟩))
theorem a0M {i j:Nat} {oi oj:Oper} {fuel:Nat} {listed:Array Bool} {a:Act} {w:World} (hr:Region.ready md ops listed= [i,j]) (hi:ops[i]? =some oi) (hj:ops[j]? =some oj)
  (h1:∀K':Act->World->Prop,Shut (∀a w,S w->(S w->a2j P md ops Q S n fuel (listed.setIfInBounds i true) a w)->K' a w)->if Region.wanted oi (yielded ops a.tmps)=true then Oper.wp P oi a w K' Q else K' (a.put oi.dst undef) w)
  (h2:∀K':Act->World->Prop,Shut (∀a w,S w->(S w->a2j P md ops Q S n fuel (listed.setIfInBounds j true) a w)->K' a w)->if Region.wanted oj (yielded ops a.tmps)=true then Oper.wp P oj a w K' Q else K' (a.put oj.dst undef) w):a2j P md ops Q S n (fuel+1) listed a w:=by
 refine⟨fun h0=>(by rw[hr]at h0;cases h0),fun k hk=>?_⟩;rw[hr]at hk;rcases List.mem_cons.1 hk with rfl|hk
 ·exact wpOp_step hi (fun K' hK=>h1 K' (fun a w hS hW=>hK a w ⟨fun _=>hS,hW hS⟩))
 ·obtain rfl:k=j:=by simpa using hk
  exact wpOp_step hj (fun K' hK=>h2 K' (fun a w hS hW=>hK a w ⟨fun _=>hS,hW hS⟩))
theorem a0k {i:Nat} {o:Oper} {fuel:Nat} {listed:Array Bool} {a:Act} {w:World} (hr:Region.ready md ops listed= [i]) (ho:ops[i]? =some o) (hin:n<=i)
  (hd:Region.ready md ops (listed.setIfInBounds i true)= [])
  (h:∀K':Act->World->Prop,Shut (∀a w,Q .normal a w->K' a w)->if Region.wanted o (yielded ops a.tmps)=true then Oper.wp P o a w K' Q else K' (a.put o.dst undef) w):a2j P md ops Q S n (fuel+1) listed a w:=by
 refine⟨fun h0=>(by rw[hr]at h0;cases h0),fun j hj=>?_⟩;rw[hr]at hj;have:j=i:=by simpa using hj
 subst this;refine wpOp_step ho (fun K' hK=>h K' (fun a w hq=>hK a w ⟨fun hlt=>absurd hlt (Nat.not_lt.2 hin),?_⟩));cases fuel with
 |zero=>exact⟨hd,hq⟩
 |succ f=>exact⟨fun _=>hq,by rw[hd];simp⟩
theorem a0y {id:Nat} {a:Act} {w:World} (n:Nat) (S:World->Prop) (hm:P.follows .mixedOrders=true) (hO:a9Q .any ops n=true) (hS:S w.drew)
  (h:S w.drew->Shut (a9Q .any ops n=true)->a2j P .any ops Q S n ops.size (Array.replicate ops.size false) a w.drew):(Code.region id ops true).wp P Q a w:=
 wp_region_any hm (a6m _ _ _ _ (h hS hO))
end
end Go
namespace Go.Lin
theorem a9s {m:Mat} {i j:Nat} (hi:i<m.length) (hj:j<m[i].length):m[i][j]=ent m i j:=by
 unfold ent;rw[show m.getD i []=m[i]by simp[List.getD_eq_getElem?_getD,hi],List.getD_eq_getElem?_getD,List.getElem?_eq_getElem hj];rfl
theorem b1B {m:Mat} {n c:Nat} (h:Shp n c m) (hc:n=0->c=0):colsL m=c:=by
 by_cases hn:0<n
 ·have h0:0<m.length:=by rw[h.1];exact hn
  rw[a1Q h0];exact h.2 _ (List.getElem_mem _)
 ·have:m= []:=List.eq_nil_of_length_eq_zero (by rw[h.1];omega)
  subst this;rw[hc (by omega)];rfl
end Go.Lin
namespace Go.Proofs.YtkddecjkfdogiaaGreat
open Go.RowKit Go.Rep Go.Lim Go.Lin
theorem a9t {R:Mem->Value->Rat->Prop} (X:Nat->Bool) (w:World) (u:Value) (m:List (List Rat)) (hu:SlV (SlV R 3) 1 (mk X w) u m):Calls Tryz.prog 116 #[u] w (fun e w'=>w'=w/\e= .returned (.int .i64 (colsL m:Int))):=by
 obtain⟨ao,ca,rfl,hca,hsa⟩:=hu;have hha:=hsa.hd;by_cases h:0<m.length
 ·obtain⟨a1,c1,hX1,hc1,hcl1,hq1⟩:=hsa.row 0 h
  have k00:=hc1.out noY w (ExtX.refl _) rfl;have hc:=hid (a1Q h);have hI:((m.length:Int)==0)=false:=a3l (by omega);go_enter Tryz.func116,Tryz.ntmps116
  go_wp2_with (with_reducible refine a0t a0r (by omega) (by assumption) ?_)
  go_ret
  exact⟨rfl,a0I (by rw[hc.out])⟩
 ·have hc:Hid (colsL m=0):=hid (by
   have:m= []:=List.eq_nil_of_length_eq_zero (by omega);subst this;rfl)
  have hI:((m.length:Int)==0)=true:=a6w (by omega);go_enter Tryz.func116,Tryz.ntmps116
  go_wp2_with (with_reducible refine a0t a0r (by omega) (by assumption) ?_)
  go_ret
  exact⟨rfl,a0I (by rw[hc.out];rfl)⟩
set_option maxRecDepth 100000 in
theorem a6Y {R:Mem->Value->Rat->Prop} (hR:a3o R) (X:Nat->Bool) (w:World) (u:Value) (m:List (List Rat)) (hu:SlV (SlV R 3) 1 (mk X w) u m) (hl:m.length<=1099511627776):Calls Tryz.prog 115 #[u] w (a7S w (a0x m)):=by
 obtain⟨ao,ca,rfl,hca,hsa⟩:=hu;have hha:=hsa.hd;by_cases h96:96<m.length
 ·have hv:Hid (false=a0x m):=hid (by
   symm;cases hf:a0x m
   ·rfl
   ·have:=(a1F.1 hf).1;omega)
  have hI:(96:Int)<(m.length:Int):=by omega
  go_enter Tryz.func115,Tryz.ntmps115
  go_wp2_with fail
  go_ret
  exact⟨ExtX.refl _,a0m hv.out⟩
 ·have hI:¬(96:Int)<(m.length:Int):=by omega
  obtain⟨n,hn⟩:∃n,m.length=n:=⟨_,rfl⟩;have hn':=hid hn;have hn6:n<=96:=by omega
  rw[hn]at hha hI |-;clear hn hl h96 hca;go_enter Tryz.func115,Tryz.ntmps115
  go_wp2_with fail
  go_loopw [3] (fun c wr=>∃(i:Nat),c= .int .i64 i/\i<=n/\Hid (∀q,q<i->∀hq:q<m.length,1<=m[q].length/\m[q].length<=96/\m[q].length=colsL m)/\Ext w wr) (fun c _=>n - (intOf c).toNat)
  case atStart=>exact⟨0,rfl,Nat.zero_le _,hid (fun q hq=>by omega),ExtX.refl _⟩
  case round=>
   obtain⟨i,rfl,hi,hok,hE⟩:=hrel;by_cases hlt:i<n
   ·have hil:i<m.length:=by rw[hn'.out];exact hlt
    have h0:0<m.length:=by omega
    have hsr:=hsa.mono (SlV.mono hR 3) (a0q hE);obtain⟨a1,c1,hX1,hc1,hcl1,hq1⟩:=hsr.row i hil;obtain⟨a2,c2,hX2,hc2,hcl2,hq2⟩:=hsr.row 0 h0;have k00:=hc1.out noY wr (ExtX.refl _) rfl;have k10:=hc2.out noY wr (ExtX.refl _) rfl;have i1:∀W,(Instr.indexAt 25 (.slice ao n ca) (.int .i64 (i:Int))).run Tryz.prog W= .ok (.pointer (some (adr ao i))) W:=a0w a0r ao n ca .i64 i hha (by omega) rfl;have i0:∀W,(Instr.indexAt 25 (.slice ao n ca) (.int .i64 0)).run Tryz.prog W= .ok (.pointer (some (adr ao 0))) W:=a0w a0r ao n ca .i64 0 hha (by omega) rfl;have hcol:=a1Q h0;have hno:=hid (a4x i hil);rw[<-hcol]at k10;obtain⟨x,hx⟩:∃x,m[i].length=x:=⟨_,rfl⟩;obtain⟨y,hy⟩:∃y,colsL m=y:=⟨_,rfl⟩;rw[hx]at k00 hno;rw[hy]at k10 hno;have hst:Hid (1<=x/\x<=96/\x=y->∀hq:i<m.length,1<=m[i].length/\m[i].length<=96/\m[i].length=colsL m):=hid fun h hq=>by rw[hx,hy];exact h
    clear hx hy hcol hc1 hc2 hq1 hq2 hcl1 hcl2 h0 hil;by_cases hx0:x=0
    ·have d0:decide ((x:Int)<1)=true:=decide_eq_true (by omega)
     have hv:=hid (hno.out (by omega));clear hx0 hno hst;go_wp2_with fail
     go_region
     all_goals
      clear k00 k10 i1 i0;go_wp2_with fail
      go_ret
      exact⟨hE.trans (ExtX.refl wr).drew,a0m hv.out⟩
    ·have d0:decide ((x:Int)<1)=false:=decide_eq_false (by omega)
     by_cases hx1:96<x
     ·have d1:decide ((96:Int)<(x:Int))=true:=decide_eq_true (by omega)
      have hv:=hid (hno.out (by omega));clear hx0 hno hst;go_wp2_with fail
      go_region
      all_goals
       clear k00 k10 i1 i0;go_wp2_with fail
       go_ret
       exact⟨hE.trans (ExtX.refl wr).drew,a0m hv.out⟩
     ·have d1:decide ((96:Int)<(x:Int))=false:=decide_eq_false (by omega)
      by_cases hxy:x=y
      ·have d2:((x:Int) !=(y:Int))=false:=a8S (by omega)
       have hst2:=hid (hst.out ⟨by omega,by omega,hxy⟩);clear hx0 hxy hno hst hx1;go_wp2_with fail
       go_region
       all_goals
        clear k00 k10 i1 i0;go_wp2_with fail
        go_roundw
        case rel=>exact⟨i+1,by go_num,by omega,hid (a5A hok.out hst2.out),hE.trans (ExtX.refl wr).drew⟩
        case measure=>simp[intOf];omega
      ·have d2:((x:Int) !=(y:Int))=true:=a7h (by omega)
       have hv:=hid (hno.out (by omega));clear hx0 hxy hno hst hx1;go_wp2_with fail
       go_region
       all_goals
        clear k00 k10 i1 i0;go_wp2_with fail
        go_ret
        exact⟨hE.trans (ExtX.refl wr).drew,a0m hv.out⟩
   ·have hv:Hid (true=a0x m):=hid (by
     symm;exact a1F.2 ⟨by rw[hn'.out];omega,fun q hq=>hok.out q (by rw[hn'.out]at hq;omega) hq⟩)
    go_wp2_with fail
    go_ret
    exact⟨hE,a0m hv.out⟩
attribute [local go_sem↓] Go.wp_at_zero Go.wp_at_succ
def b3R (X:Nat->Bool) (w:World) (S:Sr) (e:Ending) (w':World):Prop:=Ext w w'/\∃oo co po pc uf,e= .returned (.tuple #[.slice oo S.1.length co, .slice po S.2.1.length pc,uf])/\S.1.length<=co/\S.2.1.length<=pc/\Sl RC 1 (mk X w') oo S.1/\Sl (a0b .i64) 1 (mk X w') po S.2.1/\QC (mk X w') uf S.2.2
set_option maxRecDepth 100000 in
set_option maxHeartbeats 1600000 in
theorem a8q (X:Nat->Bool) (w:World) (u:Value) (m:List (List Rat)) (n c:Nat) (hX:HX X w) (hu:MV (mk X w) u m) (hsh:Shp n c m) (hc:colsL m=c) (hn:n<=900) (hcc:c<=900) (hT:a9O m c):Calls Tryz.prog 174 #[u] w (b3R X w (rN m c)):=by
 obtain⟨W,hW,hEW,b0,hz⟩:=a1t w #[.bool false, .slice none 0 0, .slice none 0 0] 32;have hX1:HX (a0g X w.heap.size 1) W:=hX.boxes hz;have hu1:MV (mk (a0g X w.heap.size 1) W) u m:=MV.mono _ _ _ _ (a0p hEW) hu;have htk:=b4T (a0g X w.heap.size 1) W u m hX1 hu1 (by rw[hsh.1];omega) (fun r hr=>by rw[hsh.2 r hr];omega);have hml:=hid hsh.1;have hsh':=hid hsh;have hn0:Hid (n=0->c=0):=hid fun h=>by
  have:m= []:=List.eq_nil_of_length_eq_zero (by rw[hml.out];exact h);rw[<-hc,this];rfl
 obtain⟨B,hB6,hBj⟩:=hT;have hBj':=hid hBj;have hB6':=hid hB6;have hunb:Hid (∀w',Le (mk (a0g X w.heap.size 1) w') (mk X w')):=hid fun w'=>a0l;have hrb:Hid (a0g X w.heap.size 1 w.heap.size=true):=hid (a5D (Nat.le_refl _) (by omega));obtain⟨X1,hX1e⟩:∃X1,a0g X w.heap.size 1=X1:=⟨_,rfl⟩;obtain⟨b,hb⟩:∃b,w.heap.size=b:=⟨_,rfl⟩;rw[hX1e]at hX1 htk hunb hrb;rw[hb]at b0 hrb;have hbW:W.heap.size=b+1:=by rw[<-hb];exact hz
 have hbw':Hid (w.heap.size=b):=hid hb;clear hu hu1 hX1e hz hb hsh hBj hB6;go_enter Tryz.func174,Tryz.ntmps174
 go_wp2_with fail
 refine htk.mono ?_;rintro e w1 ⟨hE1,oo,co,rfl,hO1⟩;have hXu1:HX (un X1 oo) w1:=hO1.unX (hX1.ext hE1);clear hW;rw[hml.out];go_wp2_with fail
 refine(a3D (un X1 oo) w1 1 hXu1 (by decide) (by decide)).mono ?_;rintro e w2 ⟨hE2,u2,rfl,hu2⟩;obtain⟨s2,a2,n2,c2,d2,k2,e2,rfl⟩:=hu2.shape;have bf:=Bx.new w2 #[.bool false, .slice none 0 0, .slice none 0 0] 32;go_wp2_with ((with_reducible show wpList _ _ _ (⟨_, .store _ _ _,_,_,_,_⟩::_) _ _);refine a0d a0v rfl rfl bf rfl rfl (a2S _ _ _ _ _ _ _) ?_;intro w3 r1 r2)
 have hE3:Ext w2 w3:=ExtX.box ((ExtX.refl w2).alloc _) r2 (Nat.le_refl _);have hO2:=hO1.ext0 RC.elem hE2;have hob2:∀k,ob oo k=true->k<w2.heap.size:=fun k hk=>(hO2.block hk).2;obtain⟨fb,hfb⟩:∃fb,w2.heap.size=fb:=⟨_,rfl⟩;obtain⟨base,hbase⟩:∃base,W.heap.size=base:=⟨_,rfl⟩;have hs1:=hE1.size;have hs2:=hE2.size;have hR0:RS X1 w b fb base 45 32 3 w3 oo co none 0 m [] 1:=by
  subst hfb hbase;refine⟨hO2.ext RC.elem hE3 (fun k _ h=>by simp[noY]at h) (fun k hk hz=>?_),OL.nil _ _ _ _ _ _,⟨s2,a2,n2,c2,d2,k2,e2,r1,QC.mono _ _ _ _ (a1l hE3 (fun k _ h=>by simp[noY]at h) fun k hk hz=>?_) hu2⟩,hX1.ext (hE1.trans (hE2.trans hE3)),b0.ext0 (hE1.trans (hE2.trans hE3)),hrb.out,?_,hEW.trans (hE1.trans (hE2.trans hE3)),?_,?_⟩
  ·by_cases h:X1 k=true
   ·exact h
   ·have h':X1 k=false:=by simpa using h
    have:w2.heap.size=k:=by simpa[un,a8n,ob,h']using hz
    omega
  ·by_cases h:un X1 oo k=true
   ·exact h
   ·have h':un X1 oo k=false:=by simpa using h
    obtain⟨h1,h2⟩:=a0X h';have e1:ob (none:Option Addr) k=false:=rfl;have e2:ob (some ⟨w2.heap.size,0,none⟩) k=(w2.heap.size==k):=rfl;have:w2.heap.size=k:=by simpa[un,a5J,a8n,h1,h2,e1,e2]using hz
    omega
  ·omega
  ·have:=hEW.size;omega
  ·have:=hEW.size;omega
 have hcap:n<=co:=by have:=hO1.lenCap;rw[hml.out]at this;exact this
 have hhO:Hd oo n:=by have:=hO1.hd;rw[hml.out]at this;exact this
 rw[hfb,hbw'.out];clear hO1 hO2 hob2 hu2 bf r1 r2 hE1 hE2 hE3 hs1 hs2 htk b0 hX1 hXu1 hEW hfb hbase hbW;go_loopg [5,7] c (fun g p k wr=>∃(j:Nat) (po:Option Addr) (pc pl:Nat) (M:Mat) (P:List Nat) (f:Rat),k= .int .i64 j/\p= .slice po pl pc/\j+g=c/\Hid (P.length=pl)/\Hid (rN m j=(M,P,f))/\RS X1 w b fb base 45 32 3 wr oo co po pc M P f)
 case atStart=>exact⟨0,none,0,0,m,[],1,rfl,rfl,by omega,hid rfl,hid rfl,hR0⟩
 case round=>
  obtain⟨j,po,pc,pl,M,P,f,rfl,rfl,hj,hpl,hst,hR⟩:=hrel;have hok:=a7l hsh'.out j;rw[hst.out]at hok;have hM:=hid hok.shp;have hMl:Hid (M.length=n):=hid hM.out.1;have hpn:pl<=n:=by have h1:P.length<=n:=hok.ref.le;rw[hpl.out]at h1;exact h1
  have hBM:=hid (hBj'.out j (by omega));rw[hst.out]at hBM;have hcolM:colsL M=c:=b1B hM.out hn0.out;have hco:=a9t (R:=QC) (un (a8n X1 fb) po) wr (.slice oo n co) M ⟨oo,co,by rw[hMl.out],by rw[hMl.out];exact hcap,hR.rows.sl RC.elem⟩;rw[hcolM]at hco;clear hok hcolM;by_cases hlj:j<c
  ·go_wp2_with fail
   refine hco.mono ?_;rintro e w2 ⟨rfl,rfl⟩;clear hco;go_wp2_with fail
   go_loopw [9] (fun a wx=>∃(t:Nat),a= .int .i64 t/\pl<=t/\t<=n/\Hid (∀i,pl<=i->i<t->ent M i j=0)/\RS X1 w b fb base 45 32 3 wx oo co po pc M P f) (fun a _=>n - (intOf a).toNat)
   case atStart=>exact⟨pl,rfl,Nat.le_refl _,hpn,hid (fun i h1 h2=>by omega),hR⟩
   case round=>
    clear hR;obtain⟨t,rfl,htl,htn,hzz,hR⟩:=hrel;by_cases htt:t<n
    ·have htM:t<M.length:=by rw[hMl.out];exact htt
     obtain⟨a1,c1,k00,f00,hcl1,hq1⟩:=hR.row t htM;have hrl:Hid (M[t].length=c):=hid (hM.out.2 _ (List.getElem_mem _));have hjr:j<M[t].length:=by rw[hrl.out];exact hlj
     have hei:=hid (a9s htM hjr);rw[hrl.out]at k00 hcl1;have hh1:Hd a1 c:=by have:=hq1.hd;rw[hrl.out]at this;exact this
     have hxB:=hid (hBM.out.1 t j);have hZr:=hR.hz;obtain⟨g9,o9,s5,a5,n5,c5,d5,k5,e5,hg9,hX9,hc9,hu5⟩:=hq1.rat QC.shaped j hjr;rw[hei.out]at hu5;obtain⟨x,hx⟩:∃x,ent M t j=x:=⟨_,rfl⟩;rw[hx]at hei hxB hu5;have hx':=hid hx;obtain⟨k10,k11,k12⟩:=hc9.out noY wr (ExtX.refl _) rfl;have i1:∀W,(Instr.indexAt 25 (.slice oo n co) (.int .i64 (t:Int))).run Tryz.prog W= .ok (.pointer (some (adr oo t))) W:=a0w a0r oo n co .i64 t hhO (by omega) rfl;have i2:∀W,(Instr.indexAt 45 (.slice a1 c c1) (.int .i64 (j:Int))).run Tryz.prog W= .ok (.pointer (some ⟨g9,o9,none⟩)) W:=by rw[<-hg9];exact a0i a0B a1 c c1 .i64 j hh1 (by omega)
     clear hx f00 hc9 hg9 hX9;by_cases h0:x=0
     ·have hs0:(x.num.sign==(0:Int))=true:=by rw[h0];rfl
      have hzz2:Hid (∀i,pl<=i->i<t+1->ent M i j=0):=hid fun i h1 h2=>by
       by_cases e:i=t
       ·subst e;rw[hx'.out];exact h0
       ·exact hzz.out i h1 (by omega)
      clear h0;go_wp2_with fail
      refine(a7y (a5J X1 fb po oo) wr _ x hZr (hu5.qv (by have:=hxB.out;have:=hB6'.out;omega))).mono ?_;rintro e w5 ⟨hE5,rfl⟩;have hR5:=hR.ext0 hE5;clear k00 k10 k11 k12 i1 i2;go_wp2_with fail
      go_roundw
      case rel=>exact⟨t+1,by go_num,by omega,by omega,hzz2,hR5⟩
      case measure=>simp[intOf];omega
     ·have hs0:(x.num.sign==(0:Int))=false:=a3l (by intro h;exact h0 (Rat.num_eq_zero.1 (Int.sign_eq_zero_iff_zero.1 h)))
      have hx0:=hid h0;have hne:((t:Int)==(n:Int))=false:=a3l (by omega);clear h0;go_wp2_with fail
      refine(a7y (a5J X1 fb po oo) wr _ x hZr (hu5.qv (by have:=hxB.out;have:=hB6'.out;omega))).mono ?_;rintro e w5 ⟨hE5,rfl⟩;have hR5:=hR.ext0 hE5;clear k00 k10 k11 k12 i1 i2 hR hE5 hZr hq1 hu5 hh1
      go_upto_if 46 with(fail)
      have hplM:pl<M.length:=by rw[hMl.out];omega
      have hpn2:pl<n:=by omega
      have hsw:=hid (b1r htM hplM);have hpiv:Hid (rN m (j+1)=(out (pv (a0U M t pl) pl j) pl j n,P++[j],(if t - pl=0 then f else - f)*ent (a0U M t pl) pl j)):=hid (by
       have e1:pl+(t - pl)=t:=by omega
       have:=b6t hsh'.out hst.out hpl.out (a:=t - pl) (by rw[e1];exact hzz.out) (by omega) (by rw[e1,hx'.out];exact hx0.out);rw[e1]at this;exact this)
      have hM1s:=hid (hM.out.swap htt hpn2);have hB1s:=hid (hBM.out.1.swap hM.out htt hpn2);have hp1:Hid (ent (a0U M t pl) pl j≠0):=hid (by rw[a3b hM.out htt hpn2,if_pos rfl,hx'.out];exact hx0.out);have hfB:=hid hBM.out.2;clear hs0 hne hxB hx0 hei hcl1;go_cut []from 14 to 122 (fun wx=>∃f1,Hid (f1=if t - pl=0 then f else - f)/\RS X1 w b fb base 45 32 3 wx oo co po pc (a0U M t pl) P f1)
      case first=>
       by_cases htp:t=pl
       ·have hne2:((t:Int) !=(pl:Int))=false:=a8S (by omega)
        have hRs:RS X1 w b fb base 45 32 3 w5 oo co po pc (a0U M t pl) P f:=by rw[htp,a4G M pl hplM];exact hR5
        have hff:Hid (f=if t - pl=0 then f else - f):=hid (if_pos (by omega)).symm;clear htp hR5;go_wp2_with fail
        go_meet
        case rel=>exact⟨f,hff,hRs⟩
       ·have hne2:((t:Int) !=(pl:Int))=true:=a7h (by omega)
        have hff:Hid (- f=if t - pl=0 then f else - f):=hid (if_neg (by omega)).symm;obtain⟨ap,cp,y1,fy1,hclp,hqp⟩:=hR5.row pl hplM;obtain⟨ax,cx,y2,fy2,hclx,hqx⟩:=hR5.row t htM;obtain⟨hO1,hE1⟩:=hR5.rows.set1 a4v RC.elem SlV.one t htM (.slice ap M[pl].length cp) M[pl] ⟨ap,cp,rfl,hclp,hqp⟩;obtain⟨u3,k3,f3,hu3⟩:=hO1.cell SlV.one pl (by simpa using hplM);obtain⟨hO2,hE2⟩:=hO1.set1 a4v RC.elem SlV.one pl (by simpa using hplM) (.slice ax M[t].length cx) M[t] ⟨ax,cx,rfl,hclx,hqx.mono QC.mono (a0H hE1 fun k hk=>a0s hk)⟩;have hE6:=(hE1.trans hE2).drew;have hO2:=hO2.ext0 RC.elem (ExtX.refl (Y:=noY) _).drew;rw[hsw.out]at hO2;have hR6:=hR5.setRows hE6 hO2;have i1:∀W,(Instr.indexAt 25 (.slice oo n co) (.int .i64 (t:Int))).run Tryz.prog W= .ok (.pointer (some (adr oo t))) W:=a0w a0r oo n co .i64 t hhO (by omega) rfl;have i2:∀W,(Instr.indexAt 25 (.slice oo n co) (.int .i64 (pl:Int))).run Tryz.prog W= .ok (.pointer (some (adr oo pl))) W:=a0w a0r oo n co .i64 pl hhO (by omega) rfl;clear htp hu3 hO1 hO2 hE1 hE2 hR5 hqp hqx;go_wp2_with fail
        go_region
        obtain⟨w6,hw6⟩:∃w6,((w5.setCell (adr oo t) (.slice ap M[pl].length cp)).setCell (adr oo pl) (.slice ax M[t].length cx)).drew=w6:=⟨_,rfl⟩;rw[hw6]at hR6 |-;obtain⟨sf,af,nf,cf,df,kf,ef,bF,hqF⟩:=hR6.fac;have z0:=bF.cell 0 rfl;have z1:=bF.cell 1 rfl;have z2:=bF.cell 2 rfl;have hZ6:=hR6.hz;clear y1 y2 fy1 fy2 k3 f3 i1 i2 hw6 hE6;go_wp2_with fail
        refine(b4R (a5J X1 fb po oo) w6 _ f hZ6 (hqF.qv (by have:=hfB.out;have:=hB6'.out;omega))).mono ?_;rintro e w7 ⟨hE7,u7,rfl,hu7⟩;obtain⟨s7,a7,n7,c7,d7,k7,e7,rfl⟩:=hu7.shape;have bF7:=bF.ext0 hE7;have hR7:=hR6.ext0 hE7;clear z0 z1 z2 bF;go_wp2_with ((with_reducible show wpList _ _ _ (⟨_, .store _ _ _,_,_,_,_⟩::_) _ _);refine a0d a0v rfl rfl bF7 rfl rfl (a2S _ _ _ _ _ _ _) ?_;intro w8 r1 r2)
        have hR8:=hR7.setFac r2 r1 (QC.mono _ _ _ _ (a0H r2 fun k hk=>a0o (a0o (a0s hk))) hu7)
        go_meet
        case rel=>exact⟨- f,hff,hR8⟩
      case rest=>
       obtain⟨f1,hf1,hR1⟩:=hcut;rw[<-hf1.out]at hpiv;have hf1B:Hid (hq f1<=B):=hid (by rw[hf1.out];split;exact hfB.out;rw[a4Y];exact hfB.out);obtain⟨w6,hw6⟩:∃w6,w6=wc:=⟨_,rfl⟩;subst hw6;obtain⟨M1,hM1e⟩:∃M1,a0U M t pl=M1:=⟨_,rfl⟩;rw[hM1e]at hpiv hM1s hB1s hp1 hR1;have hM1l:Hid (M1.length=n):=hid hM1s.out.1;have hpM1:pl<M1.length:=by rw[hM1l.out];exact hpn2
       have hrl1:Hid (M1[pl].length=c):=hid (hM1s.out.2 _ (List.getElem_mem _));have hjp:j<M1[pl].length:=by rw[hrl1.out];exact hlj
       have hei:=hid (a9s hpM1 hjp);have hxB:=hid (hB1s.out pl j);have hpe:Hid (M1.getD pl []=M1[pl]):=hid (a3I hpM1);obtain⟨y,hy⟩:∃y,ent M1 pl j=y:=⟨_,rfl⟩;have hpvd:Hid (pv M1 pl j=M1.set pl (M1[pl].map (· *(((1:Int):Rat)/y)))):=hid (by unfold pv;rw[hpe.out,hy];rfl);rw[hy]at hei hxB hp1 hpiv;have hM2s:=hid (hM1s.out.pv hpn2 j);have hB2s:=hid (hB1s.out.pv hM1s.out hpn2 j);have hrowB:Hid (BR B M1[pl]):=hid (a6Q hB1s.out _ (List.getElem_mem _));have i1:∀W,(Instr.indexAt 25 (.slice oo n co) (.int .i64 (pl:Int))).run Tryz.prog W= .ok (.pointer (some (adr oo pl))) W:=a0w a0r oo n co .i64 pl hhO (by omega) rfl;have hEd:Ext w6 w6.drew:=(ExtX.refl w6).drew;clear hR5 hM1e hy hx' hsw;go_upto_region 15 with(fail)
       go_cut []from 14 to 122 (fun wx=>RS X1 w b fb base 45 32 3 wx oo co po pc M1 P (f1*y))
       case first=>
        obtain⟨ap,cp,y1,fy1,hclp,hqp⟩:=hR1.row pl hpM1;obtain⟨g,o,s5,a5,n5,c5,d5,k5,e5,hg,hXg,hcg,hqg⟩:=hqp.rat QC.shaped j hjp;obtain⟨sf,af,nf,cf,df,kf,ef,bF,hqF⟩:=hR1.fac;rw[hei.out]at hqg;rw[hrl1.out]at y1 hclp;have hhp:Hd ap c:=by have:=hqp.hd;rw[hrl1.out]at this;exact this
        have i2:∀W,(Instr.indexAt 45 (.slice ap c cp) (.int .i64 (j:Int))).run Tryz.prog W= .ok (.pointer (some ⟨g,o,none⟩)) W:=by rw[<-hg];exact a0i a0B ap c cp .i64 j hhp (by omega)
        have bFd:=bF.ext0 hEd;have z0:=bFd.cell 0 rfl;have z1:=bFd.cell 1 rfl;have z2:=bFd.cell 2 rfl;obtain⟨k0,k1,k2⟩:=hcg.out noY w6.drew hEd rfl;have y1d:w6.drew.cell? (adr oo pl)=some (.slice ap c cp):=y1;have hRd:=hR1.ext0 hEd;have hZd:=hRd.hz;have hqFv:QV (mk (a5J X1 fb po oo) w6.drew) (.agg #[.bool sf, .slice af nf cf, .slice df kf ef]) f1:=hqF.qv (by have:=hf1B.out;have:=hB6'.out;omega);have hqgv:QV (mk (a5J X1 fb po oo) w6.drew) (.agg #[.bool s5, .slice a5 n5 c5, .slice d5 k5 e5]) y:=hqg.qv (by have:=hxB.out;have:=hB6'.out;omega);clear hqp hg hcg hR1 y1 fy1 bF;go_wp2_with fail
        go_region_with ((go_at_call 59;(with_reducible refine(b4S (a5J X1 fb po oo) w6.drew _ _ f1 y hZd hqFv hqgv).mono ?_);rintro ee w7 ⟨t1,u7,rfl,hu7⟩;obtain⟨s7,a7,n7,c7,d7,k7,e7,rfl⟩:=hu7.shape;have bF7:=bFd.ext0 t1;have g0:=bF7.cell 0 rfl;have g1:=bF7.cell 1 rfl;have g2:=bF7.cell 2 rfl;have h0:=bF7.frozen 0;have h1:=bF7.frozen 1;have h2:=bF7.frozen 2))
        all_goals
         obtain⟨q1,q2⟩:=bF7.set3 (.bool s7) (.slice a7 n7 c7) (.slice d7 k7 e7);have hR8:=(hRd.ext0 t1).setFac q2 q1 (QC.mono _ _ _ _ (a0H q2 fun k hk=>a0o (a0o (a0s hk))) hu7);clear z0 z1 z2 k0 k1 k2 y1d g0 g1 g2 h0 h1 h2 i2;go_wp2_with fail
         go_meet
         case rel=>exact hR8
       case rest=>
        have hf2B:Hid (hq (f1*y)<=2*B):=hid (by have:=hq_mul f1 y;have:=hf1B.out;have:=hxB.out;omega);obtain⟨f2,hf2⟩:∃f2,f1*y=f2:=⟨_,rfl⟩;rw[hf2]at hf2B hcut hpiv;clear hR1 hEd hf2;obtain⟨w7,hw7⟩:∃w7,w7=wc:=⟨_,rfl⟩;subst hw7;have hR2:=hcut;have hEd:Ext w7 w7.drew:=(ExtX.refl w7).drew;clear hcut;go_upto_region 16 with(fail)
        go_cut []from 14 to 122 (fun wx=>RS X1 w b fb base 45 32 3 wx oo co po pc (pv M1 pl j) P f2)
        case first=>
         obtain⟨ap,cp,y1,fy1,hclp,hqp⟩:=hR2.row pl hpM1;obtain⟨g,o,s5,a5,n5,c5,d5,k5,e5,hg,hXg,hcg,hqg⟩:=hqp.rat QC.shaped j hjp;rw[hei.out]at hqg;have hhp:Hd ap c:=by have:=hqp.hd;rw[hrl1.out]at this;exact this
         have i2:∀W,(Instr.indexAt 45 (.slice ap c cp) (.int .i64 (j:Int))).run Tryz.prog W= .ok (.pointer (some ⟨g,o,none⟩)) W:=by rw[<-hg];exact a0i a0B ap c cp .i64 j hhp (by omega)
         have hrp:RV (mk (a5J X1 fb po oo) w7.drew) (.slice ap c cp) M1[pl]:=by
          rw[<-hrl1.out];exact⟨ap,cp,rfl,hclp,hqp.qv fun q hq=>Nat.le_trans (hrowB.out q hq) (by have:=hB6'.out;omega)⟩
         rw[hrl1.out]at y1 hclp;have hS:Hid (∀W',Ext w7.drew W'->W'.cell? (adr oo pl)=some (.slice ap c cp)/\W'.cell? ⟨g,o,none⟩=some (.bool s5)/\W'.cell? ⟨g,o+1,none⟩=some (.slice a5 n5 c5)/\W'.cell? ⟨g,o+2,none⟩=some (.slice d5 k5 e5)):=hid fun W' h=>by
          obtain⟨k0,k1,k2⟩:=hcg.out noY W' (hEd.trans h) rfl;exact⟨(hEd.trans h).cell y1,k0,k1,k2⟩
         obtain⟨y1d,k0,k1,k2⟩:=hS.out w7.drew (ExtX.refl _);have hRd:=hR2.ext0 hEd;have hZd:=hRd.hz;have hqgv:QV (mk (a5J X1 fb po oo) w7.drew) (.agg #[.bool s5, .slice a5 n5 c5, .slice d5 k5 e5]) y:=hqg.qv (by have:=hxB.out;have:=hB6'.out;omega);have h1q:Hid (hq (((1:Int):Rat))<=68719476736):=hid (by decide+kernel);have hqb:Hid (hq (((1:Int):Rat)/y)<=68719476736):=hid (by have h3:=hq_div ((1:Int):Rat) y;have h4:hq (((1:Int):Rat))=1:=(by decide+kernel);have:=hxB.out;have:=hB6'.out;have:=a6a y;omega);have hrl3:Hid (M1[pl].length<=1000000):=hid (by rw[hrl1.out];omega);clear hqp hg hcg hR2 y1 fy1;go_wp2_with fail
         refine a0y 17 (fun w'=>w'.cell? (adr oo pl)=some (.slice ap c cp)/\w'.cell? ⟨g,o,none⟩=some (.bool s5)/\w'.cell? ⟨g,o+1,none⟩=some (.slice a5 n5 c5)/\w'.cell? ⟨g,o+2,none⟩=some (.slice d5 k5 e5)) (by kernel_rfl) (by kernel_rfl) (hS.out _ (ExtX.refl _)) (fun hHeld hOnce=>?_);clear y1d k0 k1 k2;refine a0a hOnce (i:=0) (oi:=⟨_,_,_,_,_,_⟩) (v:=?_) rfl (by kernel_rfl) (fun _ _ _ h=>h) (by assumption) (by rfl) (fun w hSw=>?_) ?_
         rotate_left
         ·(try dsimp only at hSw)
          go_simp
          all_goals with_reducible rfl
         (try simp only[Act.put,List.setIfInBounds_toArray,List.set_cons_zero,List.set_cons_succ])
         refine a0a hOnce (i:=1) (oi:=⟨_,_,_,_,_,_⟩) (v:=?_) rfl (by kernel_rfl) (fun _ _ _ h=>h) (by assumption) (by rfl) (fun w hSw=>?_) ?_
         rotate_left
         ·(try dsimp only at hSw)
          go_simp
          all_goals with_reducible rfl
         (try simp only[Act.put,List.setIfInBounds_toArray,List.set_cons_zero,List.set_cons_succ])
         refine a0a hOnce (i:=2) (oi:=⟨_,_,_,_,_,_⟩) (v:=?_) rfl (by kernel_rfl) (fun _ _ _ h=>h) (by assumption) (by rfl) (fun w hSw=>?_) ?_
         rotate_left
         ·(try dsimp only at hSw)
          go_simp
          all_goals with_reducible rfl
         (try simp only[Act.put,List.setIfInBounds_toArray,List.set_cons_zero,List.set_cons_succ])
         refine a0a hOnce (i:=3) (oi:=⟨_,_,_,_,_,_⟩) (v:=?_) rfl (by kernel_rfl) (fun _ _ _ h=>h) (by assumption) (by rfl) (fun w hSw=>?_) ?_
         rotate_left
         ·(try dsimp only at hSw)
          go_simp
          all_goals with_reducible rfl
         (try simp only[Act.put,List.setIfInBounds_toArray,List.set_cons_zero,List.set_cons_succ])
         refine a0a hOnce (i:=4) (oi:=⟨_,_,_,_,_,_⟩) (v:=?_) rfl (by kernel_rfl) (fun _ _ _ h=>h) (by assumption) (by rfl) (fun w hSw=>?_) ?_
         rotate_left
         ·(try dsimp only at hSw)
          go_simp
          all_goals with_reducible rfl
         (try simp only[Act.put,List.setIfInBounds_toArray,List.set_cons_zero,List.set_cons_succ])
         refine a0a hOnce (i:=5) (oi:=⟨_,_,_,_,_,_⟩) (v:=?_) rfl (by kernel_rfl) (fun _ _ _ h=>h) (by assumption) (by rfl) (fun w hSw=>?_) ?_
         rotate_left
         ·(try dsimp only at hSw)
          go_simp
          all_goals with_reducible rfl
         (try simp only[Act.put,List.setIfInBounds_toArray,List.set_cons_zero,List.set_cons_succ])
         refine a0a hOnce (i:=7) (oi:=⟨_,_,_,_,_,_⟩) (v:=?_) rfl (by kernel_rfl) (fun _ _ _ h=>h) (by assumption) (by rfl) (fun w hSw=>?_) ?_
         rotate_left
         ·(try dsimp only at hSw)
          go_simp
          all_goals with_reducible rfl
         (try simp only[Act.put,List.setIfInBounds_toArray,List.set_cons_zero,List.set_cons_succ])
         refine a0a hOnce (i:=8) (oi:=⟨_,_,_,_,_,_⟩) (v:=?_) rfl (by kernel_rfl) (fun _ _ _ h=>h) (by assumption) (by rfl) (fun w hSw=>?_) ?_
         rotate_left
         ·(try dsimp only at hSw)
          go_simp
          all_goals with_reducible rfl
         (try simp only[Act.put,List.setIfInBounds_toArray,List.set_cons_zero,List.set_cons_succ])
         refine a0a hOnce (i:=9) (oi:=⟨_,_,_,_,_,_⟩) (v:=?_) rfl (by kernel_rfl) (fun _ _ _ h=>h) (by assumption) (by rfl) (fun w hSw=>?_) ?_
         rotate_left
         ·(try dsimp only at hSw)
          go_simp
          all_goals with_reducible rfl
         (try simp only[Act.put,List.setIfInBounds_toArray,List.set_cons_zero,List.set_cons_succ])
         refine a0a hOnce (i:=10) (oi:=⟨_,_,_,_,_,_⟩) (v:=?_) rfl (by kernel_rfl) (fun _ _ _ h=>h) (by assumption) (by rfl) (fun w hSw=>?_) ?_
         rotate_left
         ·(try dsimp only at hSw)
          go_simp
          all_goals with_reducible rfl
         (try simp only[Act.put,List.setIfInBounds_toArray,List.set_cons_zero,List.set_cons_succ])
         refine a0a hOnce (i:=11) (oi:=⟨_,_,_,_,_,_⟩) (v:=?_) rfl (by kernel_rfl) (fun _ _ _ h=>h) (by assumption) (by rfl) (fun w hSw=>?_) ?_
         rotate_left
         ·(try dsimp only at hSw)
          go_simp
          all_goals with_reducible rfl
         (try simp only[Act.put,List.setIfInBounds_toArray,List.set_cons_zero,List.set_cons_succ])
         refine a0a hOnce (i:=12) (oi:=⟨_,_,_,_,_,_⟩) (v:=?_) rfl (by kernel_rfl) (fun _ _ _ h=>h) (by assumption) (by rfl) (fun w hSw=>?_) ?_
         rotate_left
         ·(try dsimp only at hSw)
          go_simp
          all_goals with_reducible rfl
         (try simp only[Act.put,List.setIfInBounds_toArray,List.set_cons_zero,List.set_cons_succ])
         refine a0a hOnce (i:=13) (oi:=⟨_,_,_,_,_,_⟩) (v:=?_) rfl (by kernel_rfl) (fun _ _ _ h=>h) (by assumption) (by rfl) (fun w hSw=>?_) ?_
         rotate_left
         ·(try dsimp only at hSw)
          go_simp
          all_goals with_reducible rfl
         (try simp only[Act.put,List.setIfInBounds_toArray,List.set_cons_zero,List.set_cons_succ])
         refine a0e (i:=6) (o:=⟨_,_,_,_,_,_⟩) (by kernel_rfl) rfl (fun K hK=>?_);go_simp
         (go_at_call 48;(with_reducible refine(a3D (a5J X1 fb po oo) w7.drew 1 hZd (by decide) (by decide)).mono ?_);rintro ee w8 ⟨t1,u8,rfl,hu8⟩)
         refine hK.out _ _ (hS.out w8 t1) (fun hHeld=>?_);clear hK K
         (try simp only[Act.put,List.setIfInBounds_toArray,List.set_cons_zero,List.set_cons_succ])
         obtain⟨s8,a8,n8,c8,d8,k8,e8,rfl⟩:=hu8.shape;have hX8:=hZd.ext t1;have hx8:=mkx QV.mono hqgv t1;have hu8v:=hu8.qv h1q.out;refine a0e (i:=14) (o:=⟨_,_,_,_,_,_⟩) (by kernel_rfl) rfl (fun K hK=>?_);go_simp
         (go_at_call 232;(with_reducible refine(b6W (a5J X1 fb po oo) w8 _ _ _ y hX8 hu8v hx8 hp1.out).mono ?_);rintro ee w9 ⟨t2,u9,rfl,hu9⟩)
         refine hK.out _ _ (hS.out w9 (t1.trans t2)) (fun hHeld=>?_);clear hK K
         (try simp only[Act.put,List.setIfInBounds_toArray,List.set_cons_zero,List.set_cons_succ])
         obtain⟨s9,a9,n9,c9,d9,k9,e9,rfl⟩:=hu9.shape;have t12:=t1.trans t2;have hX9:=hZd.ext t12;have hr9:=mkx RV.mono hrp t12;have hu9v:=hu9.qv hqb.out;refine a0e (i:=15) (o:=⟨_,_,_,_,_,_⟩) (by kernel_rfl) rfl (fun K hK=>?_);go_simp
         (go_at_call 58;(with_reducible refine(b3L (a5J X1 fb po oo) w9 _ _ _ _ hX9 hr9 hu9v hrl3.out).mono ?_);rintro ee w10 ⟨t3,u10,rfl,hu10⟩)
         refine hK.out _ _ (hS.out w10 (t12.trans t3)) (fun hHeld=>?_);clear hK K
         (try simp only[Act.put,List.setIfInBounds_toArray,List.set_cons_zero,List.set_cons_succ])
         obtain⟨a10,c10,rfl,hcl10,hs10⟩:=hu10;have t13:=t12.trans t3;have hR10:=hRd.ext0 t13;obtain⟨_,_,p0,fz,_,_⟩:=hR10.row pl hpM1;refine a0a hOnce (i:=16) (oi:=⟨_,_,_,_,_,_⟩) (v:=?_) rfl (by kernel_rfl) (fun _ _ _ h=>h) (by assumption) (by rfl) (fun w hSw=>?_) ?_
         rotate_left
         ·(try dsimp only at hSw)
          go_simp
          all_goals with_reducible rfl
         (try simp only[Act.put,List.setIfInBounds_toArray,List.set_cons_zero,List.set_cons_succ])
         refine a0k (i:=17) (o:=⟨_,_,_,_,_,_⟩) (by kernel_rfl) rfl (by decide) (by kernel_rfl) (fun K hK=>?_);go_simp
         refine hK.out _ _ ?_;clear hK K;obtain⟨hO11,hE11⟩:=hR10.rows.set1 a4v RC.elem SlV.one pl hpM1 (.slice a10 M1[pl].length c10) (M1[pl].map (· *(((1:Int):Rat)/y))) ⟨a10,c10,by rw[List.length_map],hcl10,hs10⟩;have hR11:=hR10.setRows hE11 hO11;have hR12:=hR11;rw[<-hpvd.out]at hR12;clear p0 fz i2 hO11 hE11 hR11 hHeld hOnce;go_wp2_with fail
         go_meet
         case rel=>exact hR12
        case rest=>
         have hR3:=hcut;clear hcut hR2 hEd i1;obtain⟨w8,hw8⟩:∃w8,w8=wc:=⟨_,rfl⟩;subst hw8;obtain⟨M2,hM2e⟩:∃M2,pv M1 pl j=M2:=⟨_,rfl⟩;rw[hM2e]at hR3 hpiv hM2s hB2s;have hM2l:Hid (M2.length=n):=hid hM2s.out.1;have hR4:RS X1 w b fb base 45 32 3 w8 oo co po pc (out M2 pl j 0) P f2:=by rw[b2W];exact hR3
         have hbm2:=hid (a6Q hB2s.out);have hb0:Hid (∀wx,OL RC 1 (un (a8n X1 fb) po) base 45 wx oo co (out M2 pl j n)->base<=wx.heap.size):=hid fun wx h=>by
          obtain⟨b0,o0,hb0⟩:=hhO (by omega);have:=h.block (k:=b0) (by rw[hb0];simp[ob]);omega
         have i1:∀W,(Instr.indexAt 25 (.slice oo n co) (.int .i64 (pl:Int))).run Tryz.prog W= .ok (.pointer (some (adr oo pl))) W:=a0w a0r oo n co .i64 pl hhO (by omega) rfl;clear hM2e hR3 hjp hrl1 hei hxB hpvd hrowB hp1;go_wp2_with fail
         go_loopw [10] (fun a wx=>∃(i:Nat),a= .int .i64 i/\i<=n/\RS X1 w b fb base 45 32 3 wx oo co po pc (out M2 pl j i) P f2) (fun a _=>n - (intOf a).toNat)
         case atStart=>exact⟨0,rfl,Nat.zero_le _,hR4⟩
         case round=>
          clear hR4;obtain⟨i,rfl,hi,hR⟩:=hrel;by_cases hlt:i<n
          ·by_cases hip:i=pl
           ·have hne3:((i:Int) !=(pl:Int))=false:=a8S (by omega)
            have hRn:RS X1 w b fb base 45 32 3 wr oo co po pc (out M2 pl j (i+1)) P f2:=by subst hip;rw[<-b2X];exact hR
            clear hip hR;go_wp2_with fail
            go_roundw
            case rel=>exact⟨i+1,by go_num,by omega,hRn⟩
            case measure=>simp[intOf];omega
           ·have hne3:((i:Int) !=(pl:Int))=true:=a7h (by omega)
            have hiM:i<M2.length:=by rw[hM2l.out];exact hlt
            have hpM:pl<M2.length:=by rw[hM2l.out];exact hpn2
            have hiO:i<(out M2 pl j i).length:=by rw[a4d];exact hiM
            have hpO:pl<(out M2 pl j i).length:=by rw[a4d];exact hpM
            have hgi:(out M2 pl j i)[i]=M2[i]:=by rw[a4Q hiO hiM,if_neg (by omega)]
            have hgp:(out M2 pl j i)[pl]=M2[pl]:=by rw[a4Q hpO hpM,if_neg (by omega)]
            have hset:=hid (b5h (m:=M2) (t:=pl) (col:=j) hiM hip);rw[a3I hpM]at hset;obtain⟨ai,ci,y1,fy1,hcli,hqi⟩:=hR.row i hiO;obtain⟨ap,cp,y2,fy2,hclp,hqp⟩:=hR.row pl hpO;rw[hgi]at y1 hcli hqi;rw[hgp]at y2 hclp hqp;have hrli:Hid (M2[i].length=c):=hid (hM2s.out.2 _ (List.getElem_mem _));have hrlp:Hid (M2[pl].length=c):=hid (hM2s.out.2 _ (List.getElem_mem _));have hBi:=hid (hbm2.out M2[i] (List.getElem_mem _));have hBp:=hid (hbm2.out M2[pl] (List.getElem_mem _));have hji:j<M2[i].length:=by rw[hrli.out];exact hlj
            obtain⟨g,o,s5,a5,n5,c5,d5,k5,e5,hg,hXg,hcg,hqg⟩:=hqi.rat QC.shaped j hji;have hvv:M2[i].getD j 0=M2[i][j]:=by rw[List.getD_eq_getElem?_getD,List.getElem?_eq_getElem hji];rfl
            rw[hvv]at hset;have hvB:=hid (hBi.out M2[i][j] (List.getElem_mem _));obtain⟨v,hv⟩:∃v,M2[i][j]=v:=⟨_,rfl⟩;rw[hv]at hset hqg hvB;clear hv hvv hgi hgp;obtain⟨row,hrow⟩:∃row,M2[i]=row:=⟨_,rfl⟩;rw[hrow]at hset hqi y1 hcli hrli hBi;obtain⟨piv,hpv⟩:∃piv,M2[pl]=piv:=⟨_,rfl⟩;rw[hpv]at hset hqp y2 hclp hrlp hBp;have hhi:Hd ai c:=by have:=hqi.hd;rw[hrli.out]at this;exact this
            have hEd:Ext wr wr.drew:=(ExtX.refl wr).drew;have i2:∀W,(Instr.indexAt 45 (.slice ai c ci) (.int .i64 (j:Int))).run Tryz.prog W= .ok (.pointer (some ⟨g,o,none⟩)) W:=by rw[<-hg];exact a0i a0B ai c ci .i64 j hhi (by omega)
            have i3:∀W,(Instr.indexAt 25 (.slice oo n co) (.int .i64 (i:Int))).run Tryz.prog W= .ok (.pointer (some (adr oo i))) W:=a0w a0r oo n co .i64 i hhO (by omega) rfl;have hri:RV (mk (a5J X1 fb po oo) wr.drew) (.slice ai c ci) row:=by
             rw[<-hrli.out];exact⟨ai,ci,rfl,hcli,hqi.qv fun q hq=>Nat.le_trans (hBi.out q hq) (by have:=hB6'.out;omega)⟩
            have hrp:RV (mk (a5J X1 fb po oo) wr.drew) (.slice ap c cp) piv:=by
             rw[<-hrlp.out];exact⟨ap,cp,rfl,hclp,hqp.qv fun q hq=>Nat.le_trans (hBp.out q hq) (by have:=hB6'.out;omega)⟩
            rw[hrli.out]at y1;rw[hrlp.out]at y2;have hS:Hid (∀W',Ext wr.drew W'->W'.cell? (adr oo i)=some (.slice ai c ci)/\W'.cell? (adr oo pl)=some (.slice ap c cp)/\W'.cell? ⟨g,o,none⟩=some (.bool s5)/\W'.cell? ⟨g,o+1,none⟩=some (.slice a5 n5 c5)/\W'.cell? ⟨g,o+2,none⟩=some (.slice d5 k5 e5)):=hid fun W' h=>by
             obtain⟨k0,k1,k2⟩:=hcg.out noY W' (hEd.trans h) rfl;exact⟨(hEd.trans h).cell y1,(hEd.trans h).cell y2,k0,k1,k2⟩
            obtain⟨y1d,y2d,k0,k1,k2⟩:=hS.out wr.drew (ExtX.refl _);have hRd:=hR.ext0 hEd;have hZd:=hRd.hz;have hqgv:QV (mk (a5J X1 fb po oo) wr.drew) (.agg #[.bool s5, .slice a5 n5 c5, .slice d5 k5 e5]) v:=hqg.qv (by have:=hvB.out;have:=hB6'.out;omega);have hnb:Hid (hq (-v)<=68719476736):=hid (by rw[a4Y];have:=hvB.out;have:=hB6'.out;omega);have hprod:Hid (BR 68719476736 (piv.map (· * -v))):=hid fun q hq=>by
             obtain⟨x,hx,rfl⟩:=List.mem_map.1 hq;have h1:=hBp.out x hx;have h2:=hq_mul x (-v);rw[a4Y]at h2;have:=hvB.out;have:=hB6'.out;omega
            have hl1:Hid (piv.length<=1000000):=hid (by rw[hrlp.out];omega);have hl2:Hid (row.length<=1000000):=hid (by rw[hrli.out];omega);have hl3:Hid ((piv.map (· * -v)).length=row.length):=hid (by rw[List.length_map,hrlp.out,hrli.out]);have hiO':=hid hiO;obtain⟨PR,hPR⟩:∃PR,piv.map (· * -v)=PR:=⟨_,rfl⟩;have hPR':=hid hPR;rw[hPR]at hset hprod hl3;obtain⟨NR,hNR⟩:∃NR,List.zipWith (· + ·) row PR=NR:=⟨_,rfl⟩;have hNR':=hid hNR;rw[hNR]at hset;clear hqi hqp hg hcg hR y1 fy1 y2 fy2 hrow hpv hip hiM hpM hpO hqg hiO hji hcli hclp hPR hNR;go_wp2_with fail
            refine a0y 21 (fun w'=>w'.cell? (adr oo i)=some (.slice ai c ci)/\w'.cell? (adr oo pl)=some (.slice ap c cp)/\w'.cell? ⟨g,o,none⟩=some (.bool s5)/\w'.cell? ⟨g,o+1,none⟩=some (.slice a5 n5 c5)/\w'.cell? ⟨g,o+2,none⟩=some (.slice d5 k5 e5)) (by kernel_rfl) (by kernel_rfl) (hS.out _ (ExtX.refl _)) (fun hHeld hOnce=>?_);clear y1d y2d k0 k1 k2;refine a0a hOnce (i:=0) (oi:=⟨_,_,_,_,_,_⟩) (v:=?_) rfl (by kernel_rfl) (fun _ _ _ h=>h) (by assumption) (by rfl) (fun w hSw=>?_) ?_
            rotate_left
            ·(try dsimp only at hSw)
             go_simp
             all_goals with_reducible rfl
            (try simp only[Act.put,List.setIfInBounds_toArray,List.set_cons_zero,List.set_cons_succ])
            refine a0a hOnce (i:=1) (oi:=⟨_,_,_,_,_,_⟩) (v:=?_) rfl (by kernel_rfl) (fun _ _ _ h=>h) (by assumption) (by rfl) (fun w hSw=>?_) ?_
            rotate_left
            ·(try dsimp only at hSw)
             go_simp
             all_goals with_reducible rfl
            (try simp only[Act.put,List.setIfInBounds_toArray,List.set_cons_zero,List.set_cons_succ])
            refine a0a hOnce (i:=2) (oi:=⟨_,_,_,_,_,_⟩) (v:=?_) rfl (by kernel_rfl) (fun _ _ _ h=>h) (by assumption) (by rfl) (fun w hSw=>?_) ?_
            rotate_left
            ·(try dsimp only at hSw)
             go_simp
             all_goals with_reducible rfl
            (try simp only[Act.put,List.setIfInBounds_toArray,List.set_cons_zero,List.set_cons_succ])
            refine a0a hOnce (i:=3) (oi:=⟨_,_,_,_,_,_⟩) (v:=?_) rfl (by kernel_rfl) (fun _ _ _ h=>h) (by assumption) (by rfl) (fun w hSw=>?_) ?_
            rotate_left
            ·(try dsimp only at hSw)
             go_simp
             all_goals with_reducible rfl
            (try simp only[Act.put,List.setIfInBounds_toArray,List.set_cons_zero,List.set_cons_succ])
            refine a0a hOnce (i:=4) (oi:=⟨_,_,_,_,_,_⟩) (v:=?_) rfl (by kernel_rfl) (fun _ _ _ h=>h) (by assumption) (by rfl) (fun w hSw=>?_) ?_
            rotate_left
            ·(try dsimp only at hSw)
             go_simp
             all_goals with_reducible rfl
            (try simp only[Act.put,List.setIfInBounds_toArray,List.set_cons_zero,List.set_cons_succ])
            refine a0a hOnce (i:=5) (oi:=⟨_,_,_,_,_,_⟩) (v:=?_) rfl (by kernel_rfl) (fun _ _ _ h=>h) (by assumption) (by rfl) (fun w hSw=>?_) ?_
            rotate_left
            ·(try dsimp only at hSw)
             go_simp
             all_goals with_reducible rfl
            (try simp only[Act.put,List.setIfInBounds_toArray,List.set_cons_zero,List.set_cons_succ])
            refine a0a hOnce (i:=6) (oi:=⟨_,_,_,_,_,_⟩) (v:=?_) rfl (by kernel_rfl) (fun _ _ _ h=>h) (by assumption) (by rfl) (fun w hSw=>?_) ?_
            rotate_left
            ·(try dsimp only at hSw)
             go_simp
             all_goals with_reducible rfl
            (try simp only[Act.put,List.setIfInBounds_toArray,List.set_cons_zero,List.set_cons_succ])
            refine a0a hOnce (i:=7) (oi:=⟨_,_,_,_,_,_⟩) (v:=?_) rfl (by kernel_rfl) (fun _ _ _ h=>h) (by assumption) (by rfl) (fun w hSw=>?_) ?_
            rotate_left
            ·(try dsimp only at hSw)
             go_simp
             all_goals with_reducible rfl
            (try simp only[Act.put,List.setIfInBounds_toArray,List.set_cons_zero,List.set_cons_succ])
            refine a0a hOnce (i:=8) (oi:=⟨_,_,_,_,_,_⟩) (v:=?_) rfl (by kernel_rfl) (fun _ _ _ h=>h) (by assumption) (by rfl) (fun w hSw=>?_) ?_
            rotate_left
            ·(try dsimp only at hSw)
             go_simp
             all_goals with_reducible rfl
            (try simp only[Act.put,List.setIfInBounds_toArray,List.set_cons_zero,List.set_cons_succ])
            refine a0a hOnce (i:=9) (oi:=⟨_,_,_,_,_,_⟩) (v:=?_) rfl (by kernel_rfl) (fun _ _ _ h=>h) (by assumption) (by rfl) (fun w hSw=>?_) ?_
            rotate_left
            ·(try dsimp only at hSw)
             go_simp
             all_goals with_reducible rfl
            (try simp only[Act.put,List.setIfInBounds_toArray,List.set_cons_zero,List.set_cons_succ])
            refine a0a hOnce (i:=10) (oi:=⟨_,_,_,_,_,_⟩) (v:=?_) rfl (by kernel_rfl) (fun _ _ _ h=>h) (by assumption) (by rfl) (fun w hSw=>?_) ?_
            rotate_left
            ·(try dsimp only at hSw)
             go_simp
             all_goals with_reducible rfl
            (try simp only[Act.put,List.setIfInBounds_toArray,List.set_cons_zero,List.set_cons_succ])
            refine a0a hOnce (i:=11) (oi:=⟨_,_,_,_,_,_⟩) (v:=?_) rfl (by kernel_rfl) (fun _ _ _ h=>h) (by assumption) (by rfl) (fun w hSw=>?_) ?_
            rotate_left
            ·(try dsimp only at hSw)
             go_simp
             all_goals with_reducible rfl
            (try simp only[Act.put,List.setIfInBounds_toArray,List.set_cons_zero,List.set_cons_succ])
            refine a0a hOnce (i:=12) (oi:=⟨_,_,_,_,_,_⟩) (v:=?_) rfl (by kernel_rfl) (fun _ _ _ h=>h) (by assumption) (by rfl) (fun w hSw=>?_) ?_
            rotate_left
            ·(try dsimp only at hSw)
             go_simp
             all_goals with_reducible rfl
            (try simp only[Act.put,List.setIfInBounds_toArray,List.set_cons_zero,List.set_cons_succ])
            refine a0a hOnce (i:=13) (oi:=⟨_,_,_,_,_,_⟩) (v:=?_) rfl (by kernel_rfl) (fun _ _ _ h=>h) (by assumption) (by rfl) (fun w hSw=>?_) ?_
            rotate_left
            ·(try dsimp only at hSw)
             go_simp
             all_goals with_reducible rfl
            (try simp only[Act.put,List.setIfInBounds_toArray,List.set_cons_zero,List.set_cons_succ])
            refine a0a hOnce (i:=14) (oi:=⟨_,_,_,_,_,_⟩) (v:=?_) rfl (by kernel_rfl) (fun _ _ _ h=>h) (by assumption) (by rfl) (fun w hSw=>?_) ?_
            rotate_left
            ·(try dsimp only at hSw)
             go_simp
             all_goals with_reducible rfl
            (try simp only[Act.put,List.setIfInBounds_toArray,List.set_cons_zero,List.set_cons_succ])
            refine a0a hOnce (i:=15) (oi:=⟨_,_,_,_,_,_⟩) (v:=?_) rfl (by kernel_rfl) (fun _ _ _ h=>h) (by assumption) (by rfl) (fun w hSw=>?_) ?_
            rotate_left
            ·(try dsimp only at hSw)
             go_simp
             all_goals with_reducible rfl
            (try simp only[Act.put,List.setIfInBounds_toArray,List.set_cons_zero,List.set_cons_succ])
            refine a0a hOnce (i:=16) (oi:=⟨_,_,_,_,_,_⟩) (v:=?_) rfl (by kernel_rfl) (fun _ _ _ h=>h) (by assumption) (by rfl) (fun w hSw=>?_) ?_
            rotate_left
            ·(try dsimp only at hSw)
             go_simp
             all_goals with_reducible rfl
            (try simp only[Act.put,List.setIfInBounds_toArray,List.set_cons_zero,List.set_cons_succ])
            refine a0e (i:=17) (o:=⟨_,_,_,_,_,_⟩) (by kernel_rfl) rfl (fun K hK=>?_);go_simp
            (go_at_call 148;(with_reducible refine(b4R (a5J X1 fb po oo) wr.drew _ v hZd hqgv).mono ?_);rintro ee w9 ⟨t1,u9,rfl,hu9⟩)
            refine hK.out _ _ (hS.out w9 t1) (fun hHeld=>?_);clear hK K
            (try simp only[Act.put,List.setIfInBounds_toArray,List.set_cons_zero,List.set_cons_succ])
            obtain⟨s9,a9,n9,c9,d9,k9,e9,rfl⟩:=hu9.shape;have hX9:=hZd.ext t1;have hr9:=mkx RV.mono hrp t1;have hu9v:=hu9.qv hnb.out;refine a0e (i:=18) (o:=⟨_,_,_,_,_,_⟩) (by kernel_rfl) rfl (fun K hK=>?_);go_simp
            (go_at_call 58;(with_reducible refine(b3L (a5J X1 fb po oo) w9 _ _ piv (-v) hX9 hr9 hu9v hl1.out).mono ?_);rintro ee w10 ⟨t2,u10,rfl,hu10⟩)
            refine hK.out _ _ (hS.out w10 (t1.trans t2)) (fun hHeld=>?_);clear hK K
            (try simp only[Act.put,List.setIfInBounds_toArray,List.set_cons_zero,List.set_cons_succ])
            rw[hPR'.out]at hu10;have hu10v:=hu10.rv hprod.out;obtain⟨a10,c10,rfl,hcl10,hs10⟩:=hu10;have t12:=t1.trans t2;have hX10:=hZd.ext t12;have hr10:=mkx RV.mono hri t12;refine a0e (i:=19) (o:=⟨_,_,_,_,_,_⟩) (by kernel_rfl) rfl (fun K hK=>?_);go_simp
            (go_at_call 134;(with_reducible refine(b6X (a5J X1 fb po oo) w10 _ _ row _ hX10 hr10 hu10v hl2.out hl3.out).mono ?_);rintro ee w11 ⟨t3,u11,rfl,hu11⟩)
            refine hK.out _ _ (hS.out w11 (t12.trans t3)) (fun hHeld=>?_);clear hK K
            (try simp only[Act.put,List.setIfInBounds_toArray,List.set_cons_zero,List.set_cons_succ])
            rw[hNR'.out]at hu11;obtain⟨a11,c11,rfl,hcl11,hs11⟩:=hu11;have hR11:=hRd.ext0 (t12.trans t3);obtain⟨_,_,p0,fz,_,_⟩:=hR11.row i hiO'.out;refine a0a hOnce (i:=20) (oi:=⟨_,_,_,_,_,_⟩) (v:=?_) rfl (by kernel_rfl) (fun _ _ _ h=>h) (by assumption) (by rfl) (fun w hSw=>?_) ?_
            rotate_left
            ·(try dsimp only at hSw)
             go_simp
             all_goals with_reducible rfl
            (try simp only[Act.put,List.setIfInBounds_toArray,List.set_cons_zero,List.set_cons_succ])
            refine a0k (i:=21) (o:=⟨_,_,_,_,_,_⟩) (by kernel_rfl) rfl (by decide) (by kernel_rfl) (fun K hK=>?_);go_simp
            refine hK.out _ _ ?_;clear hK K;obtain⟨hO12,hE12⟩:=hR11.rows.set1 a4v RC.elem SlV.one i hiO'.out (.slice a11 NR.length c11) NR ⟨a11,c11,rfl,hcl11,hs11⟩;have hR12:=hR11.setRows hE12 hO12;rw[hset.out]at hR12;clear p0 fz i2 i3 hO12 hE12 hR11 hHeld hOnce;go_wp2_with fail
            go_roundw
            case rel=>exact⟨i+1,by go_num,by omega,hR12⟩
            case measure=>simp[intOf];omega
          ·have hin:i=n:=by omega
           subst hin;have hbase:=hb0.out wr hR.rows;have hXz:∀k,un (a8n X1 fb) oo k=true->k<wr.heap.size:=fun k hk=>hR.hz k (by
            by_cases h:a8n X1 fb k=true
            ·exact a0o (a0o h)
            ·exact a0s (by simpa[un,h]using hk))
           have hP:=hR.piv;have hpl2:Hid ((P++[j]).length=pl+1):=hid (by rw[List.length_append,hpl.out];rfl);clear i1 hb0;go_wp2_with (at_builtin;refine a0J (l:=P) a6x rfl (a0b.elem .i64) hbase hXz pl hpl.out rfl rfl hP (.int .i64 (j:Int)) j rfl rfl (by omega) (by omega) ?_;intro po2 pc2 w10 hP6 hE7 hor)
           have hR9:=hR.push hE7 hP6 hor;go_roundg (c - (j+1))
           case measure=>omega
           case rel=>exact⟨j+1,po2,pc2,pl+1,_,_,_,by go_num,rfl,by omega,hpl2,hpiv,hR9⟩
    ·have hin:t=n:=by omega
     subst hin;have hne:((t:Int)==(t:Int))=true:=a6w rfl;have hst2:=hid (b5i hsh'.out hst.out hpl.out hzz.out);clear hzz;go_wp2_with fail
     go_roundg (c - (j+1))
     case measure=>omega
     case rel=>exact⟨j+1,po,pc,pl,M,P,f,by go_num,rfl,by omega,hpl,hst2,hR⟩
  ·have hjc:j=c:=by omega
   subst hjc;go_wp2_with fail
   refine hco.mono ?_;rintro e w2 ⟨rfl,rfl⟩;obtain⟨sf,af,nf,cf,df,kf,ef,bF,hqF⟩:=hR.fac;have hres:=hR.res;have z0:=bF.cell 0 rfl;have z1:=bF.cell 1 rfl;have z2:=bF.cell 2 rfl;have g0:=hres.cell 0 rfl;have g1:=hres.cell 1 rfl;have g2:=hres.cell 2 rfl;have h0:=hres.frozen 0;have h1:=hres.frozen 1;have h2:=hres.frozen 2;obtain⟨q1,q2⟩:=hres.set3 (.bool sf) (.slice af nf cf) (.slice df kf ef);have q1d:=q1.ext0 (ExtX.refl (Y:=noY) _).drew;have q2d:=q2.drew;have hqf:QC (mk X _) (.agg #[.bool sf, .slice af nf cf, .slice df kf ef]) f:=QC.mono _ _ _ _ (hunb.out _) (QC.mono _ _ _ _ (a0H q2d fun k hk=>b1s hrb.out hk) (QC.mono _ _ _ _ (a1u fun k _ hk=>a0o (a0o (a0o hk))) hqF));have hEf:Ext w _:=ExtX.box hR.ext q2d (by rw[hbw'.out];exact Nat.le_refl _);have hsr:Sl RC 1 (mk X _) oo M:=(((hR.rows.sl RC.elem).mono RC.mono (a1u fun k _ hk=>a0o (a0o hk))).mono RC.mono (a0H q2d fun k hk=>b1s hrb.out hk)).mono RC.mono (hunb.out _);have hsp:Sl (a0b .i64) 1 (mk X _) po P:=(((hR.piv.sl (a0b.elem _)).mono (a0b.mono _) (a1u fun k _ hk=>a0o (a0o hk))).mono (a0b.mono _) (a0H q2d fun k hk=>b1s hrb.out hk)).mono (a0b.mono _) (hunb.out _);have hpc:P.length<=pc:=hR.piv.lenCap;clear hres bF hR hqF q1 q2 q2d;go_wp2_with fail
   go_region
   go_wp2_with fail
   refine bodyPost_ret (a8p (P:=Tryz.prog) (c:=4) (d:=2) (e:=3) rfl rfl a0v q1d rfl) rfl ?_;have hRO:∀w9,Ext w w9->Sl RC 1 (mk X w9) oo M->Sl (a0b .i64) 1 (mk X w9) po P->QC (mk X w9) (.agg #[.bool sf, .slice af nf cf, .slice df kf ef]) f->b3R X w (rN m j) (.returned (.tuple #[.slice oo n co, .slice po pl pc, .agg #[.bool sf, .slice af nf cf, .slice df kf ef]])) w9:=fun w9 hEf hsr hsp hqf=>by
    rw[hst.out];exact⟨hEf,oo,co,po,pc,_,by rw[hMl.out,hpl.out],by rw[hMl.out];exact hcap,hpc,hsr,hsp,hqf⟩
   exact hRO _ hEf hsr hsp hqf
end Go.Proofs.YtkddecjkfdogiaaGreat
namespace Go.Lin
open Go.Lim
end Go.Lin
namespace Go.Proofs.YtkddecjkfdogiaaGreat
open Go.RowKit Go.Rep Go.Lim Go.Lin
def b6x (X:Nat->Bool) (w:World) (S:Mat×List Nat) (e:Ending) (w':World):Prop:=Ext w w'/\∃oo co po pc,e= .returned (.tuple #[.slice oo S.1.length co, .slice po S.2.length pc, .int .i64 0])/\S.1.length<=co/\S.2.length<=pc/\Sl RC 1 (mk X w') oo S.1/\Sl (a0b .i64) 1 (mk X w') po S.2
theorem b3a (X:Nat->Bool) (w:World) (u:Value) (m:List (List Rat)) (n c:Nat) (hX:HX X w) (hu:MV (mk X w) u m) (hf:a0x m=true) (hnn:m.length=n) (hcc:colsL m=c) (hT:a9O m c):Calls Tryz.prog 120 #[u] w (b6x X w ((rN m c).1,(rN m c).2.1)):=by
 obtain⟨hsh,h96,hc96,_,_⟩:=a0E hf;rw[hnn,hcc]at hsh;rw[hnn]at h96;rw[hcc]at hc96;have hfo:=a6Y QV.mono X w u m hu (by omega);rw[hf]at hfo;have hre:=hid (fun w' (h:Ext w w')=>a8q X w' u m n c (hX.ext h) (mkx MV.mono hu h) hsh hcc (by omega) (by omega) hT);obtain⟨S,hS⟩:∃S,rN m c=S:=⟨_,rfl⟩;rw[hS]at hre |-;clear hf hS;go_enter Tryz.func120,Tryz.ntmps120
 go_wp2_with fail
 refine hfo.mono ?_;rintro e w1 ⟨hE1,rfl⟩;have h1:=hre.out w1 hE1;clear hfo;go_wp2_with fail
 refine h1.mono ?_;rintro e w2 ⟨hE2,oo,co,po,pc,uf,rfl,hco,hpc,hso,hsp,huf⟩;obtain⟨s2,a2,n2,c2,d2,k2,e2,rfl⟩:=huf.shape;have bx:=Bx.new w2 #[.bool false, .slice none 0 0, .slice none 0 0] 32;clear h1;go_wp2_with ((with_reducible show wpList _ _ _ (⟨_, .store _ _ _,_,_,_,_⟩::_) _ _);refine a0d a0v rfl rfl bx rfl rfl (a2S _ _ _ _ _ _ _) ?_;intro w3 r1 r2)
 have hE3:Ext w2 w3:=ExtX.box ((ExtX.refl w2).alloc _) r2 (Nat.le_refl _);go_ret3
 exact⟨hE1.trans (hE2.trans hE3),oo,co,po,pc,rfl,hco,hpc,hso.mono RC.mono (a0q hE3),hsp.mono (a0b.mono _) (a0q hE3)⟩
theorem b3b (X:Nat->Bool) (w:World) (u:Value) (m:List (List Rat)) (n c:Nat) (hX:HX X w) (hu:MV (mk X w) u m) (hf:a0x m=true) (hnn:m.length=n) (hcc:colsL m=c) (hT:a9O m c):Calls Tryz.prog 46 #[u] w (fun e w'=>Ext w w'/\e= .returned (.tuple #[.int .i64 (a5S m c:Int), .int .i64 0])):=by
 obtain⟨hsh,h96,hc96,_,_⟩:=a0E hf;rw[hnn,hcc]at hsh;have hre:=b3a X w u m n c hX hu hf hnn hcc hT;have hrk:Hid ((rN m c).2.1.length=a5S m c):=hid (by rw[a4w,(b0o hsh).2]);obtain⟨S,hS⟩:∃S,rN m c=S:=⟨_,rfl⟩;rw[hS]at hre hrk;clear hf hS;go_enter Tryz.func46,Tryz.ntmps46
 go_wp2_with fail
 refine hre.mono ?_;rintro e w1 ⟨hE1,oo,co,po,pc,rfl,hco,hpc,hso,hsp⟩;rw[hrk.out];go_wp2_with fail
 go_ret2
 exact⟨hE1,rfl⟩
end Go.Proofs.YtkddecjkfdogiaaGreat
