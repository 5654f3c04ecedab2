/- Least squares: moments row by row, in any order; responses that are changed. Conditions: none. Readings for least squares: lists of booleans, moments, fits. Conditions: none. Structs of more cells in boxes; masks of a fresh box. Conditions: none. The memory of the reference's elimination: rows, pivots, factor, and what each step leaves of them. Conditions: none. reference 06: what its elimination needs of plain lists. Conditions: none. Least squares: bounds of digits. Conditions: at most 8 rows and 4 columns of numbers of at most 370 digits. A drawn region whose last operation waits for all others: the loads are taken first under a condition that need not hold behind the last operation. Conditions: none. reference 06: Columns, Formed. Conditions: lengths far below any machine's. reference 06: reduce. Conditions: few rows and columns, numbers of few digits. reference 06: Reduce, Rank, Det. Conditions: few rows and columns, numbers of few digits. reference 06: SameInts. Conditions: lengths far below any machine's. slices.Index, slices.Contains of integers; design: Alias; reference 12: Alias. Conditions: numbers of few digits. leastsq: shift. Conditions: at most 12 columns, numbers of few digits. -/
import Derived.Test.YtkddecjkfdogiaaGreatLbH
import Derived.OrdersHeld
import Derived.StillTail
import Derived.Deep.RegionHeld
import Derived.WalkKit
import Derived.Deep.DrawnRows
import Derived.Deep.LoopGhost
import Derived.BigQuiet
namespace Go.Lin
open Go.Lim
structure Mom where
 n:Int
 xx:Mat
 xy:List Rat
 yy:Rat
def shM (m:Mom) (row:List Rat) (v:Rat) (s:Int):Mom:=
 ⟨m.n+s,ofF row.length row.length fun j k=>ent m.xx j k+(s:Rat)*fn row j*fn row k,(List.range row.length).map fun j=>fn m.xy j+(s:Rat)*fn row j*v,m.yy+(s:Rat)*(v*v)⟩
def gmM (x:Mat) (y:List Rat) (c i:Nat):Mom:=⟨(i:Int),gmL x i c,gyL x y i c,sm i fun r=>fn y r*fn y r⟩
theorem a2f {α:Type} {c:Nat} {f g:Nat->α} (h:∀j,j<c->f j=g j):(List.range c).map f=(List.range c).map g:=
 List.map_congr_left fun j hj=>h j (List.mem_range.1 hj)
theorem a7B {n c:Nat} {f g:F2} (h:Eqm n c f g):ofF n c f=ofF n c g:=
 a2f fun i hi=>a2f fun j hj=>h i hi j hj
theorem b2O (x:Mat) (y:List Rat) (c:Nat):gmM x y c 0=⟨0,List.replicate c (List.replicate c 0),List.replicate c 0,0⟩:=by
 have e:∀(α:Type) (a:α),(List.range c).map (fun _=>a)=List.replicate c a:=fun α a=>by simp[List.map_const']
 unfold gmM gmL gyL ofF
 congr 1
 ·rw[<-e,<-e];rfl
 ·rw[<-e];rfl
theorem b2P {x:Mat} {y:List Rat} {n c i:Nat} (hs:Shp n c x) (hi:i<n):shM (gmM x y c i) (x.getD i []) (y.getD i 0) 1=gmM x y c (i+1):=by
 have hr:(x.getD i []).length=c:=hs.row hi;have one:((1:Int):Rat)=1:=rfl;unfold shM gmM;rw[hr]
 congr 1
 ·exact a7B fun j hj k hk=>by
   show ent (gmL x i c) j k+_=gr (i+1) (ent x) j k
   rw[a6E x i c j hj k hk]
   show gr i (ent x) j k+((1:Int):Rat)*ent x i j*ent x i k=gr i (ent x) j k+ent x i j*ent x i k
   rw[one];grind
 ·exact a2f fun j hj=>by
   show(gyL x y i c).getD j 0+_=gy (i+1) (ent x) (fn y) j
   rw[a8i x y i c hj]
   show gy i (ent x) (fn y) j+((1:Int):Rat)*ent x i j*fn y i=gy i (ent x) (fn y) j+ent x i j*fn y i
   rw[one];grind
 ·show sm i (fun r=>fn y r*fn y r)+((1:Int):Rat)*(fn y i*fn y i)=_
  rw[one]
  show _=sm i (fun r=>fn y r*fn y r)+fn y i*fn y i
  grind
def a7P (f:Nat->Rat):List Nat->Rat
 | []=>0
 |a::l=>f a+a7P f l
theorem b1m {f:Nat->Rat} {a b:List Nat} (h:a.Perm b):a7P f a=a7P f b:=by
 induction h with
 |nil=>rfl
 |cons x _ ih=>show _+_=_+_;rw[ih]
 |swap x y l=>show f y+(f x+a7P f l)=f x+(f y+a7P f l);grind
 |trans _ _ ih1 ih2=>rw[ih1,ih2]
theorem a8j (f:Nat->Rat) (a b:List Nat):a7P f (a++b)=a7P f a+a7P f b:=by
 induction a with
 |nil=>show a7P f b=0+a7P f b;grind
 |cons x a ih=>show f x+a7P f (a++b)=f x+a7P f a+a7P f b;rw[ih];grind
theorem b1n (f:Nat->Rat) (l:List Nat):a7P f l=sm l.length fun i=>f (l.getD i 0):=by
 have key:∀k,k<=l.length->a7P f (l.take k)=sm k fun i=>f (l.getD i 0):=fun k hk=>by
  induction k with
  |zero=>rfl
  |succ k ih=>
   have hk2:k<l.length:=by omega
   rw[<-List.take_append_getElem hk2,a8j,ih (by omega)]
   show _+(f l[k]+0)=_+f (l.getD k 0)
   rw[show l.getD k 0=l[k]by simp[List.getD_eq_getElem?_getD,hk2]];grind
 have:=key l.length (Nat.le_refl _);rwa[List.take_length]at this
theorem a9O (f:Nat->Rat) (n:Nat):a7P f (List.range n)=sm n f:=by
 rw[b1n,List.length_range];exact a0i fun i hi=>by simp[List.getD_eq_getElem?_getD,hi]
theorem a8k {n:Nat} {p:List Nat} (h:p.Perm (List.range n)) (f:Nat->Rat):(sm n fun i=>f (p.getD i 0))=sm n f:=by
 have hl:p.length=n:=by rw[h.length_eq,List.length_range]
 have h1:=b1n f p;rw[hl]at h1;rw[<-h1,b1m h,a9O]
def a3Z (x:Mat) (p:List Nat):Mat:=p.map fun i=>x.getD i []
def a4a (y:List Rat) (p:List Nat):List Rat:=p.map fun i=>y.getD i 0
theorem b1o {x:Mat} {n c:Nat} {p:List Nat} (hs:Shp n c x) (h:p.Perm (List.range n)):Shp n c (a3Z x p):=by
 refine⟨by rw[a3Z,List.length_map,h.length_eq,List.length_range],fun r hr=>?_⟩;obtain⟨i,hi,rfl⟩:=List.mem_map.1 hr;exact hs.row (List.mem_range.1 ((h.mem_iff).1 hi))
theorem a5F {x:Mat} {n:Nat} {p:List Nat} (h:p.Perm (List.range n)) {i:Nat} (hi:i<n) (j:Nat):ent (a3Z x p) i j=ent x (p.getD i 0) j:=by
 have hl:p.length=n:=by rw[h.length_eq,List.length_range]
 have:i<p.length:=by omega
 simp[ent,a3Z,List.getD_eq_getElem?_getD,this]
theorem a9m {y:List Rat} {n:Nat} {p:List Nat} (h:p.Perm (List.range n)) {i:Nat} (hi:i<n):fn (a4a y p) i=fn y (p.getD i 0):=by
 have hl:p.length=n:=by rw[h.length_eq,List.length_range]
 have:i<p.length:=by omega
 simp[fn,a4a,List.getD_eq_getElem?_getD,this]
theorem b2Q {x:Mat} {y:List Rat} {n c:Nat} {p:List Nat} (h:p.Perm (List.range n)):gmM (a3Z x p) (a4a y p) c n=gmM x y c n:=by
 unfold gmM
 congr 1
 ·exact a7B fun j hj k hk=>by
   unfold gr;rw[a0i (g:=fun r=>(fun q=>ent x q j*ent x q k) (p.getD r 0)) fun r hr=>by rw[a5F h hr,a5F h hr]];exact a8k h (fun q=>ent x q j*ent x q k)
 ·exact a2f fun j hj=>by
   unfold gy;rw[a0i (g:=fun r=>(fun q=>ent x q j*fn y q) (p.getD r 0)) fun r hr=>by rw[a5F h hr,a9m h hr]];exact a8k h (fun q=>ent x q j*fn y q)
 ·rw[a0i (g:=fun r=>(fun q=>fn y q*fn y q) (p.getD r 0)) fun r hr=>by rw[a9m h hr]]
  exact a8k h (fun q=>fn y q*fn y q)
theorem b2R {x:Mat} {y v:List Rat} {n c:Nat} (hs:Shp n c x) (hy:y.length=n) {y':List Rat} (hy':y'.length=n) (h:∀i,i<n->fn y' i=app c (ent x) (fn v) i+fn y i):
  a2k x y' (a0G x y' n c)=a2k x y (a0G x y n c):=by
 obtain⟨_,_,h3,_⟩:=a4J (y:=y) hs;obtain⟨_,_,h3',_⟩:=a4J (y:=y') hs;have hN:NS n c (ent x) (fn y') (fun j=>fn (a0G x y n c) j+fn v j):=a5p.2 fun i hi=>by
  rw[<-a5p.1 h3 i hi];exact a0i fun r hr=>by rw[h r hr,b0w];grind
 refine a5C (n:=n) (by rw[a2o (by rw[hy',hs.1]),hs.1]) (by rw[a2o (by rw[hy,hs.1]),hs.1]) fun i hi=>?_
 show fn _ i=fn _ i
 rw[a6H hs hy' hi,a6H hs hy hi,h i hi,b4d h3' hN i hi,b0w];grind
theorem a6c {x:Mat} {y:List Rat} {n c:Nat} (a:Rat) (hs:Shp n c x) {y':List Rat} (h:∀i,i<n->fn y' i=fn y i*a):a0G x y' n c=(a0G x y n c).map (· *a):=by
 obtain⟨_,hg,e,he⟩:=a0U hs;obtain⟨_,_,h3,h4⟩:=a4J (y:=y) hs;obtain⟨_,_,h3',h4'⟩:=a4J (y:=y') hs;have hN:NS n c (ent x) (fn y') (fun j=>a*fn (a0G x y n c) j):=a5p.2 fun i hi=>by
  rw[a0i (g:=fun r=>a*(ent x r i*(fn y r - app c (ent x) (fn (a0G x y n c)) r))) fun r hr=>by rw[h r hr,b0x];grind,a1T,a5p.1 h3 i hi];grind
 refine a5C (n:=c) (a1O _ _ _ _) (by rw[List.length_map,a1O]) fun j hj=>?_;have h5:=b5w hg he h3' hN h4' (fun j hj hp=>by rw[h4 j hj hp];grind) j hj
 show fn (a0G x y' n c) j=_
 rw[h5];have hjl:j<(a0G x y n c).length:=by rw[a1O];exact hj
 simp[fn,List.getD_eq_getElem?_getD,hjl];grind
theorem b1p {x:Mat} {y:List Rat} {n c:Nat} (a:Rat) (hs:Shp n c x) (hy:y.length=n) {y':List Rat} (hy':y'.length=n) (h:∀i,i<n->fn y' i=fn y i*a):
  a2l (a2k x y' (a0G x y' n c)) (a2k x y' (a0G x y' n c))=a*a*a2l (a2k x y (a0G x y n c)) (a2k x y (a0G x y n c)):=by
 rw[b1l hs hy',b1l hs hy,<-a1T];have e:∀r,app c (ent x) (fn (a0G x y' n c)) r=a*app c (ent x) (fn (a0G x y n c)) r:=fun r=>by
  rw[<-b0x,a6c a hs h];exact a0i fun j hj=>by
   have hjl:j<(a0G x y n c).length:=by rw[a1O];exact hj
   simp[fn,List.getD_eq_getElem?_getD,hjl];grind
 exact a0i fun r hr=>by rw[e,h r hr];grind
end Go.Lin
namespace Go.Rep
open Go.RowKit Go.Lim
def BlR:Mem->Value->Bool->Prop:=fun _ u b=>u= .bool b
theorem BlR.mono:a3n BlR:=fun _ _ _ _ _ h=>h
theorem BlR.elem:Elem BlR 1:=⟨fun _ _ _ _ _ h=>h,by rintro h u x rfl;rfl,by
 rintro h u x rfl c hc;simp[a0k,Value.cells]at hc;subst hc;rfl,Nat.one_pos⟩
theorem BlR.one:a3u BlR:=by rintro h u x rfl;rfl
theorem Sl.bl {h:Mem} {ao:Option Addr} {l:List Bool} (s:Sl BlR 1 h ao l) (i:Nat) (hi:i<l.length):h (adr ao i)=some (.bool l[i]):=by
 obtain⟨u,h1,rfl⟩:=s.cell BlR.one i hi;exact h1
def usedL (p:List Nat) (c:Nat):List Bool:=(List.range c).map fun j=>decide (j∈p)
theorem a2Z (p:List Nat) (c:Nat):(usedL p c).length=c:=by simp[usedL]
theorem a9P (p:List Nat) (c:Nat):usedL p (c+1)=usedL p c++[decide (c∈p)]:=by simp[usedL,List.range_succ]
def b5r (A:Mem->Value->List (List Rat)->Prop) (B:Mem->Value->List Rat->Prop) (C:Mem->Value->Rat->Prop) (h:Mem) (u:Value) (m:Go.Lin.Mom):Prop:=
 ∃xo xl xc yo yl yc s a n c d k e,u= .agg #[.int .i64 m.n, .slice xo xl xc, .slice yo yl yc, .bool s, .slice a n c, .slice d k e]/\A h (.slice xo xl xc) m.xx/\B h (.slice yo yl yc) m.xy/\C h (.agg #[.bool s, .slice a n c, .slice d k e]) m.yy
def b4R:=b5r MV RV QV
def a5f:=b5r MC RC QC
theorem b5r.mono {A:Mem->Value->List (List Rat)->Prop} {B:Mem->Value->List Rat->Prop} {C:Mem->Value->Rat->Prop} (hA:a3n A) (hB:a3n B) (hC:a3n C):a3n (b5r A B C):=by
 rintro h h' u m hl ⟨xo,xl,xc,yo,yl,yc,s,a,n,c,d,k,e,rfl,h1,h2,h3⟩;exact⟨xo,xl,xc,yo,yl,yc,s,a,n,c,d,k,e,rfl,hA _ _ _ _ hl h1,hB _ _ _ _ hl h2,hC _ _ _ _ hl h3⟩
theorem b4R.mono:a3n b4R:=b5r.mono MV.mono RV.mono QV.mono
theorem a5f.mono:a3n a5f:=b5r.mono MC.mono RC.mono QC.mono
def BMo (B:Nat) (m:Go.Lin.Mom):Prop:=BM B m.xx/\BR B m.xy/\hq m.yy<=B
theorem a5f.mv {h:Mem} {u:Value} {m:Go.Lin.Mom} (s:a5f h u m) (hb:BMo 68719476736 m):b4R h u m:=by
 obtain⟨xo,xl,xc,yo,yl,yc,s,a,n,c,d,k,e,rfl,h1,h2,h3⟩:=s;exact⟨xo,xl,xc,yo,yl,yc,s,a,n,c,d,k,e,rfl,h1.mv hb.1,h2.rv hb.2.1,h3.qv hb.2.2⟩
end Go.Rep
namespace Go.Lin
structure Fit where
 rank:Nat
 used:List Bool
 coef:List Rat
 res:List Rat
 rss:Rat
 lev:List Rat
end Go.Lin
namespace Go.Rep
def b6D (h:Mem) (v:Value) (f:Go.Lin.Fit):Prop:=
 ∃uo uc co cl cc ro rl rc s a n c d k e lo ll lc,v= .agg #[.int .i64 (f.rank:Int), .slice uo f.used.length uc, .slice co cl cc, .slice ro rl rc, .bool s, .slice a n c, .slice d k e, .slice lo ll lc]/\f.used.length<=uc/\Sl BlR 1 h uo f.used/\RC h (.slice co cl cc) f.coef/\RC h (.slice ro rl rc) f.res/\QC h (.agg #[.bool s, .slice a n c, .slice d k e]) f.rss/\RC h (.slice lo ll lc) f.lev
theorem b6D.mono:a3n b6D:=by
 rintro h h' u f hl ⟨uo,uc,co,cl,cc,ro,rl,rc,s,a,n,c,d,k,e,lo,ll,lc,rfl,h0,h1,h2,h3,h4,h5⟩;exact⟨uo,uc,co,cl,cc,ro,rl,rc,s,a,n,c,d,k,e,lo,ll,lc,rfl,h0,h1.mono BlR.mono hl,RC.mono _ _ _ _ hl h2,RC.mono _ _ _ _ hl h3,QC.mono _ _ _ _ hl h4,RC.mono _ _ _ _ hl h5⟩
open Go.RowKit Go.Lim
theorem a1P {X:Nat->Bool} {w w':World} {g:Nat} (hE:Ext w w') (hg:w.heap.size<=g):Le (mk X w) (mk (un X (some ⟨g,0,none⟩)) w'):=
 a1f hE (fun k _ hk=>by simp[noY]at hk) fun k hk hz=>by
  by_cases hx:X k=true
  ·exact hx
  ·have:g=k:=by simpa[un,hx,ob]using hz
   omega
theorem a1I {X:Nat->Bool} {w:World} {g:Nat} (hX:HX X w) (hg:g<w.heap.size):HX (un X (some ⟨g,0,none⟩)) w:=fun k hk=>by
 by_cases hx:X k=true
 ·exact hX k hx
 ·have:g=k:=by simpa[un,hx,ob]using hk
  omega
section
variable {P:Program} {ops:Array Oper} {Q:Exit->Act->World->Prop} {rest:List Oper} {a:Act} {w:World}
variable {d:Option Tmp} {ty:TypeId} {ps:String} {af:Array Edge}
theorem a0N {o:Oper} {K:Act->World->Prop} {E:Prop} {t:TypeId} {x y:Operand} {n b:Nat} {cs vs:Array Value} {T:TypeId} (hg:o.guard=none) (hop:o.op= .store t x y) (hT:a1R P t n) (hx:a.eval x= .pointer (some ⟨b,0,none⟩)) (hy:a.eval y= .agg vs) (hb:Bx w b cs T) (hcs:cs.size=n) (hvs:vs.size=n) (hone:∀v∈vs.toList,v.oneCell'=true)
  (hK:∀w',Bx w' b vs T->ExtX (ob (some ⟨b,0,none⟩)) w w'->K (a.put o.dst undef) w'):
  if Region.wanted o (yielded ops a.tmps)=true then Oper.wp P o a w K Q else E:=by
 have hw:Region.wanted o (yielded ops a.tmps)=true:=by simp[Region.wanted,hg]
 rw[if_pos hw];obtain⟨w',hr,h1,h2⟩:=a4U (P:=P) hT hb hcs hvs hone;unfold Oper.wp execOp;rw[hop];simp[hx,hy,Instr.storeAt,Instr.sureAddr,hr,Result.andThen];exact hK w' h1 h2
theorem a1Y {t:TypeId} {x y:Operand} {b i:Nat} {cs:Array Value} {v:Value} {T:TypeId} (hT:TyI P t 1) (hx:a.eval x= .pointer (some ⟨b,i,none⟩)) (hy:a.eval y=v) (hv:v.cells=#[v]) (hone:v.oneCell'=true) (hb:Bx w b cs T) (hi:i<cs.size)
  (K:∀w',Bx w' b (cs.set i v) T->ExtX (ob (some ⟨b,0,none⟩)) w w'->wpList P ops Q rest (a.put d undef) w'):
  wpList P ops Q (⟨d, .store t x y,ty,ps,af,none⟩::rest) a w:=by
 refine wpList_plain rfl fun K' hK'=>?_;obtain⟨ti,ht,hts⟩:=hT;obtain⟨h1,h2⟩:=a0X hb v hi;have hc:=hb.cell i (u:=cs[i]) (by simp[hi]);have hf:=hb.frozen i;unfold Oper.wp;subst hy;have hr:=run_store P w ⟨b,i,none⟩ (a.eval y) .plain hone;rw[hc,hf]at hr;simp only[Bool.false_eq_true,if_false]at hr;simp[execOp,hx,Instr.storeAt,Instr.sureAddr,storeVar,sizeOf,typeInfo,ht,hts,hv,Result.andThen,storeCells,Addr.add_zero',hr];exact hK' _ _ (K _ h1 h2)
theorem a5O {o:Oper} {K:Act->World->Prop} {E:Prop} {t:TypeId} {x y:Operand} {b i:Nat} {cs:Array Value} {v:Value} {T:TypeId} (hg:o.guard=none) (hop:o.op= .store t x y) (hT:TyI P t 1) (hx:a.eval x= .pointer (some ⟨b,i,none⟩)) (hy:a.eval y=v) (hv:v.cells=#[v]) (hone:v.oneCell'=true) (hb:Bx w b cs T) (hi:i<cs.size)
  (hK:∀w',Bx w' b (cs.set i v) T->ExtX (ob (some ⟨b,0,none⟩)) w w'->K (a.put o.dst undef) w'):
  if Region.wanted o (yielded ops a.tmps)=true then Oper.wp P o a w K Q else E:=by
 have hw:Region.wanted o (yielded ops a.tmps)=true:=by simp[Region.wanted,hg]
 rw[if_pos hw];obtain⟨ti,ht,hts⟩:=hT;obtain⟨h1,h2⟩:=a0X hb v hi;have hc:=hb.cell i (u:=cs[i]) (by simp[hi]);have hf:=hb.frozen i;unfold Oper.wp execOp;rw[hop];subst hy;have hr:=run_store P w ⟨b,i,none⟩ (a.eval y) .plain hone;rw[hc,hf]at hr;simp only[Bool.false_eq_true,if_false]at hr;simp[hx,Instr.storeAt,Instr.sureAddr,storeVar,sizeOf,typeInfo,ht,hts,hv,Result.andThen,storeCells,Addr.add_zero',hr];exact hK _ h1 h2
theorem b6m {X Z:Nat->Bool} {w w':World} (hE:Ext w w') (h:∀k,k<w.heap.size->Z k=true->X k=true):Le (mk X w) (mk Z w'):=
 a1f hE (fun k _ hk=>by simp[noY]at hk) h
theorem a4K {X Y Z:Nat->Bool} {w w':World} (hE:ExtX Y w w') (hY:∀k,Y k=true->Z k=true) (hX:∀k,X k=true->Z k=true):Le (mk Z w) (mk X w'):=fun a u h=>a1v (fun k _ hk=>hX k hk) a u (a0W hE hY a u h)
theorem a1L (X:Nat->Bool) (a b:Option Addr):un (un X a) b=un (un X b) a:=by
 funext k;simp only[un];cases X k<;>cases ob a k<;>cases ob b k<;>rfl
theorem a1M {X:Nat->Bool} {w:World} {ao:Option Addr} (hX:HX X w) (h:∀k,ob ao k=true->k<w.heap.size):HX (un X ao) w:=fun k hk=>by
 by_cases hx:X k=true
 ·exact hX k hx
 ·exact h k (by simpa[un,hx]using hk)
theorem a6J (X:Nat->Bool):un X none=X:=by funext k;simp[un,ob]
end
end Go.Rep
namespace Go.Proofs.YtkddecjkfdogiaaGreat
open Go.RowKit Go.Rep
theorem a3l:a1R Tryz.prog 83 6:=by
 have h:(Tryz.prog.info? 83).map (fun i=>(i.zero,i.size,i.bytes))=some (some (.agg #[.int .i64 0, .slice none 0 0, .slice none 0 0, .bool false, .slice none 0 0, .slice none 0 0]),6,112):=by kernel_rfl
 obtain⟨ti,h1,_,h2,_⟩:=info_parts h;exact⟨_,ti,Tryz.underlying83,h1,h2⟩
theorem b4S:(Tryz.prog.info? 45).map (fun i=>(i.zero,i.size,i.bytes))=some (some (.slice none 0 0),1,24):=by kernel_rfl
theorem a9n:TyI Tryz.prog 45 1:=let ⟨i,h,_,h2,_⟩:=info_parts b4S;⟨i,h,h2⟩
theorem b4T:(Tryz.prog.info? 25).map (fun i=>(i.zero,i.size,i.bytes))=some (some (.slice none 0 0),1,24):=by kernel_rfl
theorem b6n:TyI Tryz.prog 25 1:=let ⟨i,h,_,h2,_⟩:=info_parts b4T;⟨i,h,h2⟩
theorem a7C:a1R Tryz.prog 63 8:=by
 have h:(Tryz.prog.info? 63).map (fun i=>(i.zero,i.size,i.bytes))=some (some (.agg #[.int .i64 0, .slice none 0 0, .slice none 0 0, .slice none 0 0, .bool false, .slice none 0 0, .slice none 0 0, .slice none 0 0]),8,160):=by kernel_rfl
 obtain⟨ti,h1,_,h2,_⟩:=info_parts h;exact⟨_,ti,Tryz.underlying63,h1,h2⟩
end Go.Proofs.YtkddecjkfdogiaaGreat
namespace Go.Rep
open Go.RowKit Go.Lim
abbrev b3N (X:Nat->Bool) (fb:Nat):Nat->Bool:=un X (some ⟨fb,0,none⟩)
abbrev b6E (X:Nat->Bool) (fb:Nat) (po oo:Option Addr):Nat->Bool:=un (un (b3N X fb) po) oo
structure RS (X:Nat->Bool) (w0:World) (b fb base:Nat) (T1 T2 T3:TypeId) (w:World) (oo:Option Addr) (co:Nat) (po:Option Addr) (pc:Nat) (M:List (List Rat)) (p:List Nat) (f:Rat):Prop where
 rows:OL RC 1 (un (b3N X fb) po) base T1 w oo co M
 piv:OL (a0b .i64) 1 (un (b3N X fb) oo) base T3 w po pc p
 fac:∃s a n c d k e,Bx w fb #[.bool s, .slice a n c, .slice d k e] T2/\QC (mk (b6E X fb po oo) w) (.agg #[.bool s, .slice a n c, .slice d k e]) f
 hx:HX X w
 res:Bx w b #[.bool false, .slice none 0 0, .slice none 0 0] T2
 rb:X b=true
 fb0:fb≠b
 ext:Ext w0 w
 low:w0.heap.size<=base
 lowf:w0.heap.size<=fb
section
variable {X:Nat->Bool} {w0 w w':World} {b fb base:Nat} {T1 T2 T3:TypeId} {oo po:Option Addr} {co pc:Nat} {M M':List (List Rat)} {p:List Nat} {f f':Rat}
theorem RS.pF (h:RS X w0 b fb base T1 T2 T3 w oo co po pc M p f):ob po fb=false:=by
 cases hb:ob po fb
 ·rfl
 ·have:=h.piv.1 fb hb;rw[a0q (a0s (b0U fb))]at this;simp at this
theorem RS.pB (h:RS X w0 b fb base T1 T2 T3 w oo co po pc M p f):ob po b=false:=by
 cases hb:ob po b
 ·rfl
 ·have:=h.piv.1 b hb;rw[a0q (a0q h.rb)]at this;simp at this
theorem RS.flt (h:RS X w0 b fb base T1 T2 T3 w oo co po pc M p f):fb<w.heap.size:=by
 obtain⟨_,_,_,_,_,_,_,h1,_⟩:=h.fac;exact h1.lt
theorem RS.hz (h:RS X w0 b fb base T1 T2 T3 w oo co po pc M p f):HX (b6E X fb po oo) w:=fun k hk=>by
 by_cases h1:ob oo k=true
 ·exact(h.rows.block h1).2
 ·by_cases h2:ob po k=true
  ·exact(h.piv.block h2).2
  ·by_cases h3:X k=true
   ·exact h.hx k h3
   ·have h1':ob oo k=false:=by simpa using h1
    have h2':ob po k=false:=by simpa using h2
    have h3':X k=false:=by simpa using h3
    have h4:ob (some ⟨fb,0,none⟩) k=true:=by simpa[b6E,b3N,un,h1',h2',h3']using hk
    have:fb=k:=by simpa[ob]using h4
    rw[<-this];exact h.flt
theorem RS.row (h:RS X w0 b fb base T1 T2 T3 w oo co po pc M p f) (i:Nat) (hi:i<M.length):∃a c,w.cell? (adr oo i)=some (.slice a M[i].length c)/\w.frozen? (adr oo i)=false/\M[i].length<=c/\Sl QC 3 (_root_.Go.Rep.mk (b6E X fb po oo) w) a M[i]:=by
 obtain⟨u,h1,h2,a,c,rfl,h4,h5⟩:=h.rows.cell SlV.one i hi;exact⟨a,c,h1,h2,h4,h5⟩
theorem RS.ext0 (h:RS X w0 b fb base T1 T2 T3 w oo co po pc M p f) (hE:Ext w w'):RS X w0 b fb base T1 T2 T3 w' oo co po pc M p f:=by
 obtain⟨s,a,n,c,d,k,e,h1,h2⟩:=h.fac;exact⟨h.rows.ext0 RC.elem hE,h.piv.ext0 (a0b.elem _) hE,⟨s,a,n,c,d,k,e,h1.ext0 hE,mkx QC.mono h2 hE⟩,h.hx.ext hE,h.res.ext0 hE,h.rb,h.fb0,h.ext.trans hE,h.low,h.lowf⟩
theorem RS.push (h:RS X w0 b fb base T1 T2 T3 w oo co po pc M p f) {po2:Option Addr} {pc2 j:Nat} (hE:ExtX (ob po) w w') (hP:OL (a0b .i64) 1 (un (b3N X fb) oo) base T3 w' po2 pc2 (p++[j])) (hor:po2=po\/∃g,po2=some ⟨g,0,none⟩/\w.heap.size<=g):RS X w0 b fb base T1 T2 T3 w' oo co po2 pc2 M (p++[j]) f:=by
 obtain⟨s,a,n,c,d,k,e,h1,h2⟩:=h.fac;have hold:∀k,k<w.heap.size->ob po2 k=true->ob po k=true:=fun k hk h9=>by
  rcases hor with rfl|⟨g,rfl,hg⟩
  ·exact h9
  ·have:g=k:=by simpa[ob]using h9
   omega
 have hF:∀k,k<w.heap.size->un (b3N X fb) po2 k=true->un (b3N X fb) po k=true:=fun k hk hz=>by
  by_cases hx:b3N X fb k=true
  ·exact a0q hx
  ·exact a0s (hold k hk (by simpa[un,hx]using hz))
 refine⟨h.rows.ext RC.elem hE (fun k _ hk=>a0s hk) hF,hP,⟨s,a,n,c,d,k,e,h1.ext hE h.pF,QC.mono _ _ _ _ (a1f hE (fun k _ hk=>a0q (a0s hk)) fun k hk hz=>?_) h2⟩,h.hx.ext hE,h.res.ext hE h.pB,h.rb,h.fb0,h.ext.own h.piv h.low hE,h.low,h.lowf⟩;by_cases ho:ob oo k=true
 ·exact a0s ho
 ·exact a0q (hF k hk (by simpa[un,ho]using hz))
end
end Go.Rep
namespace Go.Lin
open Go.Lim
def b4U (m:Mat) (c:Nat):Prop:=∃B,6*B<=68719476736/\∀j,j<=c->HB B (rN m j).1/\hq (rN m j).2.2<=B
theorem b1q {n c:Nat} {m:Mat} (hs:Shp n c m) (k:Nat):(rN m k).2.1.length<=n:=(b0o hs k).ref.le
theorem b2S {n c B:Nat} {m:Mat} (hs:Shp n c m) (h:HB B m) (hB:6*(6^n*B)<=68719476736):b4U m c:=
 ⟨6^n*B,hB,fun j _=>by
  obtain⟨h1,h2⟩:=h.rN hs j;have hp:6^(rN m j).2.1.length*B<=6^n*B:=Nat.mul_le_mul_right _ (Nat.pow_le_pow_right (by decide) (b1q hs j));exact⟨h1.mono hp,Nat.le_trans h2 hp⟩⟩
end Go.Lin
namespace Go.Rep
open Go.RowKit
section
variable {P:Program} {w:World}
end
end Go.Rep
namespace Go.Lin
open Go.Lim Go.Rep
theorem b1r {p:List Nat} {c:Nat} (h1:∀i (hi:i<p.length),p[i]<c) (h2:∀i k (hik:i<k) (hk:k<p.length),p[i]<p[k]):p.length<=c:=by
 have hpw:p.Pairwise (· < ·):=List.pairwise_iff_getElem.2 fun i j hi hj hij=>h2 i j hij hj;have hnd:p.Nodup:=hpw.imp fun h=>Nat.ne_of_lt h;have h3:p.length<=(List.range c).length:=hnd.length_le_of_subset fun j hj=>by
  obtain⟨k,hk,rfl⟩:=List.getElem_of_mem hj;exact List.mem_range.2 (h1 k hk)
 rwa[List.length_range]at h3
theorem a9Q {n c B:Nat} {m:Mat} (hs:Shp n c m) (h:HB B m) (hc:c<=4) (hBB:B<=6000):b0g m c/\b4U m c:=by
 have hle:∀j,j<=c->(eN m j).2.1.length<=4:=fun j hj=>Nat.le_trans (b1r (a5c hs j).ech.lt (a5c hs j).ech.inc) (by omega);have hle2:∀j,j<=c->(rN m j).2.1.length<=4:=fun j hj=>Nat.le_trans (b1r (b0o hs j).ref.lt (b0o hs j).ref.inc) (by omega);have p5:∀k,k<=4->5^k<=625:=fun k hk=>Nat.le_trans (a5s 5 (by omega) hk) (by decide);have p7:∀k,k<=4->7^k<=2401:=fun k hk=>Nat.le_trans (a5s 7 (by omega) hk) (by decide);have p6:∀k,k<=4->6^k<=1296:=fun k hk=>Nat.le_trans (a5s 6 (by omega) hk) (by decide);refine⟨⟨1500625*B,by omega,fun j hj=>(h.eN hs j).mono (Nat.mul_le_mul_right _ (Nat.le_trans (p5 _ (hle j hj)) (by decide))),fun t ht=>(((h.eN hs c).dN (a5c hs c).shp (a5c hs c).ech t ht)).mono ?_⟩,⟨1296*B,by omega,fun j hj=>?_⟩⟩
 ·rw[<-Nat.mul_assoc]
  refine Nat.mul_le_mul_right _ ?_;exact Nat.mul_le_mul (p7 t (Nat.le_trans ht (hle c (Nat.le_refl _)))) (p5 _ (hle c (Nat.le_refl _)))
 ·obtain⟨h1,h2⟩:=h.rN hs j
  have hp:=Nat.mul_le_mul_right B (p6 _ (hle2 j hj));exact⟨h1.mono hp,Nat.le_trans h2 hp⟩
theorem a4L {n c B:Nat} {m:Mat} (hs:Shp n c m) (h:HB B m) (hn:n<=4) (hBB:B<=6000):b0g m c/\b4U m c:=by
 have h35:=b6j hn;have h6:6^n<=1296:=Nat.le_trans (Nat.pow_le_pow_right (by omega) hn) (by decide);have h1:=Nat.mul_le_mul h35 hBB;have h2:=Nat.mul_le_mul h6 hBB;exact⟨b4j hs h (by omega),b2S hs h (by omega)⟩
theorem b1s {n c B:Nat} {m:Mat} (hs:Shp n c m) (h:HB B m) (hn:n<=4):HB (1296*B) (a1a m c).1:=by
 rw[(b3r hs).1];refine(h.rN hs c).1.mono (Nat.mul_le_mul_right _ ?_);exact Nat.le_trans (a5s 6 (by omega) (Nat.le_trans (b1q hs c) hn)) (by decide)
theorem a9R {n B:Nat} {f:Nat->Rat} (h:∀i,i<n->hq (f i)<=B):hq (sm n f)<=1+n*(B+1):=by
 induction n with
 |zero=>unfold sm;rw[a0S];omega
 |succ n ih=>
  unfold sm;have h1:=ih fun i hi=>h i (by omega);have h2:=a7f (sm n f) (f n);have h3:=h n (by omega);have e:(n+1)*(B+1)=n*(B+1)+(B+1):=Nat.succ_mul _ _;omega
theorem b2T {l:List Rat} {B:Nat} (h:BR B l) (hB:1<=B) (i:Nat):hq (fn l i)<=B:=a7w h hB i
theorem a7D {l m:List Rat} {c B C:Nat} (hl:l.length=c) (h1:BR B l) (h2:BR C m) (hB:1<=B) (hC:1<=C):hq (a2l l m)<=1+c*(B+C+1):=by
 rw[a6F hl];refine a9R fun i hi=>Nat.le_trans (hq_mul _ _) ?_;have:=a7w h1 hB i;have:=a7w h2 hC i;omega
theorem b6o {x:Mat} {n B:Nat} (h:HB B x) (i j:Nat):hq (gr n (ent x) i j)<=1+n*(2*B+1):=a9R fun r _=>Nat.le_trans (hq_mul _ _) (by have:=h r i;have:=h r j;omega)
theorem b6Y {x:Mat} {y:List Rat} {n B:Nat} (h:HB B x) (hy:BR B y) (i:Nat):hq (gy n (ent x) (fn y) i)<=1+n*(2*B+1):=a9R fun r _=>Nat.le_trans (hq_mul _ _) (by have:=h r i;have:=b2T hy h.pos r;omega)
theorem a4y {n B:Nat} (hn:n<=8) (hB:B<=370):1+n*(2*B+1)<=5929:=by
 have:=Nat.mul_le_mul hn (show 2*B+1<=741 by omega);omega
theorem a9o {x:Mat} {n c B:Nat} (h:HB B x) (hn:n<=8) (hB:B<=370):HB 5929 (gmL x n c):=fun i j=>by
 by_cases hi:i<c
 ·by_cases hj:j<c
  ·rw[a6E x n c i hi j hj];exact Nat.le_trans (b6o h i j) (a4y hn hB)
  ·rw[a1z (a2G x n c) (.inr (by omega)),a0S];decide
 ·rw[a1z (a2G x n c) (.inl (by omega)),a0S];decide
theorem a9p {x:Mat} {y:List Rat} {n c B:Nat} (h:HB B x) (hy:BR B y) (hn:n<=8) (hB:B<=370):BR 5929 (gyL x y n c):=fun q hq=>by
 obtain⟨i,_,rfl⟩:=List.mem_map.1 hq;exact Nat.le_trans (b6Y h hy i) (a4y hn hB)
theorem b1t {m:Mat} {b:List Rat} {n c B:Nat} (hs:Shp n c m) (hm:HB B m) (hb:BR B b) (hn:n<=4):BR (1296*B) (b3x (a1a (a2J m b n) (c+1)).1 (a1a (a2J m b n) (c+1)).2 c):=b6X fun x hx=>by
 obtain⟨_,h2,_⟩:=a0U (a2c (b:=b) hs);have h5:=b1s (a2c hs) (a9h hs hm hb) hn;rw[a8f]at hx;rw[a8Q h2 x hx];unfold b0u;split
 ·exact h5 _ _
 ·rw[a0S];exact h5.pos
theorem a8l {x:Mat} {y:List Rat} {n c B:Nat} (h:HB B x) (hy:BR B y) (hn:n<=8) (hc:c<=4) (hB:B<=370):BR 8000000 (a0G x y n c):=fun q hq=>
 Nat.le_trans (b1t (a2G x n c) (a9o h hn hB) (a9p h hy hn hB) hc q hq) (by decide)
theorem b6p {l:List Rat} {B i:Nat} (h:BR B l) (hi:i<l.length):hq l[i]<=B:=h _ (List.getElem_mem hi)
theorem b6q {x:Mat} {y b:List Rat} {n c B C:Nat} (hs:Shp n c x) (h:BM B x) (hy:BR B y) (hb:BR C b) (hB1:1<=B) (hC1:1<=C):BR (B+c*(B+C+1)+2) (a2k x y b):=fun q hq=>by
 obtain⟨i,hi,rfl⟩:=List.getElem_of_mem hq;have h1:i<x.length:=by unfold a2k at hi;rw[List.length_zipWith]at hi;omega
 have h2:i<y.length:=by unfold a2k at hi;rw[List.length_zipWith]at hi;omega
 rw[a5D hi h1 h2];have a1:=b0C y[i] (a2l x[i] b);have a2:=b6p hy h2;have a3:=a7D (hs.2 _ (List.getElem_mem h1)) (h _ (List.getElem_mem h1)) hb hB1 hC1;omega
theorem a8m {x:Mat} {y b:List Rat} {n c B:Nat} (hs:Shp n c x) (h:BM B x) (hy:BR B y) (hb:BR 8000000 b) (hB1:1<=B) (hc:c<=4) (hB:B<=370):BR 33000000 (a2k x y b):=fun q hq=>by
 have h1:=b6q hs h hy hb hB1 (by decide) q hq;have:=Nat.mul_le_mul hc (show B+8000000+1<=8000371 by omega);omega
theorem b3O {l:List Rat} (h:BR 33000000 l) (hn:l.length<=8):hq (a2l l l)<=600000000:=by
 have h1:=a7D rfl h h (by decide) (by decide);have:=Nat.mul_le_mul hn (Nat.le_refl (33000000+33000000+1));omega
theorem b3P {x:Mat} {p:List Nat} {B:Nat} (h:BM B x) (hB:1<=B):BM B (pkL x p):=fun r hr q hq=>by
 obtain⟨s,hs,rfl⟩:=List.mem_map.1 hr;obtain⟨j,_,rfl⟩:=List.mem_map.1 hq;exact a7w (h s hs) hB j
theorem a9q {u:Mat} {n m B:Nat} (h:HB B u) (hn:n<=8) (hB:B<=370):HB 5929 (a2Y u n m):=fun i j=>by
 by_cases hi:i<m
 ·by_cases hj:j<m
  ·rw[a7z u n m i hi j hj];exact Nat.le_trans (b6o h i j) (a4y hn hB)
  ·rw[a1z (a1l u n m) (.inr (by omega)),a0S];decide
 ·rw[a1z (a1l u n m) (.inl (by omega)),a0S];decide
theorem a9r {m:Mat} {n B:Nat} (hs:Shp n n m) (h:HB B m):HB B (a1K m n):=fun i j=>by
 have h1:=h.pos;by_cases hi:i<n
 ·by_cases hj:j<2*n
  ·rw[a2X hs i hi j hj]
   split
   ·exact h i j
   ·split
    ·have:hq (1:Rat)<=1:=by decide+kernel
     omega
    ·rw[a0S];exact h1
  ·rw[a1z (a1s hs) (.inr (by omega)),a0S];exact h1
 ·rw[a1z (a1s hs) (.inl (by omega)),a0S];exact h1
theorem b4V {m:Mat} {n B:Nat} (hs:Shp n n m) (h:HB B m) (hn:n<=4):HB (1296*B) (a3G m n):=fun i j=>by
 have h5:=b1s (a1s hs) (a9r hs h) hn;by_cases hi:i<n
 ·rw[a9j hs i hi j];exact h5 _ _
 ·rw[a1z (a3g hs) (.inl (by omega)),a0S];exact h5.pos
theorem b1u {u:Mat} {n m B:Nat} (h:HB B u) (hn:n<=8) (hm:m<=4) (hB:B<=370):BM 8000000 (a3G (a2Y u n m) m):=fun r hr q hq=>
 Nat.le_trans (a7s (b4V (a1l u n m) (a9q h hn hB) hm) r hr q hq) (by decide)
theorem b1v {m:Mat} {v:List Rat} {n c B C:Nat} (hs:Shp n c m) (h:BM B m) (hv:BR C v) (hB:1<=B) (hC:1<=C):BR (1+c*(B+C+1)) (a2m m v):=fun q hq=>by
 obtain⟨r,hr,rfl⟩:=List.mem_map.1 hq;exact a7D (hs.2 r hr) (h r hr) hv hB hC
theorem b1w {u:Mat} {n m B:Nat} (hu:BM B u) (hn:n<=8) (hm:m<=4) (hB1:1<=B) (hB:B<=370) {r:List Rat} (hr:r∈u):BR 33000000 (a2m (a3G (a2Y u n m) m) r):=fun q hq=>by
 have h1:=b1v (a3g (a1l u n m)) (b1u (a6C hu hB1) hn hm hB) (hu r hr) (by decide) hB1 q hq;have:=Nat.mul_le_mul hm (show 8000000+B+1<=8000371 by omega);omega
theorem b6r {u:Mat} {n m B:Nat} (hs:Shp n m u) (hu:BM B u) (hn:n<=8) (hm:m<=4) (hB1:1<=B) (hB:B<=370):BR 140000000 (a5b u n m):=fun q hq=>by
 obtain⟨r,hr,rfl⟩:=List.mem_map.1 hq;have h1:=a7D (hs.2 r hr) (hu r hr) (b1w hu hn hm hB1 hB hr) hB1 (by decide);have:=Nat.mul_le_mul hm (show B+33000000+1<=33000371 by omega);omega
end Go.Lin
namespace Go
section
variable {P:Program} {ops:Array Oper} {Q:Exit->Act->World->Prop} {md:Region.Mode} {S:World->Prop} {n:Nat}
def a2s (P:Program) (md:Region.Mode) (ops:Array Oper) (Q:Exit->Act->World->Prop) (S:World->Prop) (n:Nat):Nat->Array Bool->Act->World->Prop
 |0,listed,a,w=>Region.ready md ops listed= []/\Q .normal a w
 |fuel+1,listed,a,w=>
  (Region.ready md ops listed= []->Q .normal a w)/\
  ∀i∈Region.ready md ops listed,wpOp P ops Q i (fun a' w'=>(i<n->S w')/\a2s P md ops Q S n fuel (listed.setIfInBounds i true) a' w') a w
theorem a6d:∀(fuel:Nat) (listed:Array Bool) (a:Act) (w:World),a2s P md ops Q S n fuel listed a w->wpAny P md ops Q fuel listed a w
 |0,_,_,_,h=>h
 |fuel+1,_,_,_,h=>⟨h.1,fun i hi=>wpOp_mono (fun a' w' h'=>a6d fuel _ a' w' h'.2) (h.2 i hi)⟩
theorem a7E {i:Nat} {oi:Oper} {v:Value} (hs:Region.sinkB md ops n=true) (hc:Region.chainB md ops n=true) (hn:n<ops.size) (hin:i<n) (hi:ops[i]? =some oi) (hsel:∀(j:Nat) (o:Oper) cs b,ops[j]? =some o->o.op≠ .select cs b)
  (hQ:∀c a w,Q (.panic c) (a.put oi.dst v) w->Q (.panic c) a w):
  ∀(fuel:Nat) (listed:Array Bool) (a:Act) (w:World),HeadInv md ops n listed->
   (∀j oj,ops[j]? =some oj->j≠i->listed.getD j true=false->(∀e∈oj.after,Region.binds md e=true->e.on≠i)->oi.apart ops oj=true)->
   i∈Region.ready md ops listed->YieldsIf P ops S oi v a->S w->
   a2s P md ops Q S n fuel (listed.setIfInBounds i true) (a.put oi.dst v) w->a2s P md ops Q S n (fuel+1) listed a w:=by
 intro fuel
 induction fuel with
 |zero=>
  intro listed a w _ _ hr hy hS H;refine⟨fun h=>(by rw[h]at hr;cases hr),fun j hj=>?_⟩;by_cases hji:j=i
  ·subst hji;exact hy.wpOp hi hS ⟨fun _=>hS,H⟩
  ·have:=ready_mono hj hji
   rw[H.1]at this;cases this
 |succ fuel ih=>
  intro listed a w inv hfree hr hy hS H;refine⟨fun h=>(by rw[h]at hr;cases hr),fun j hj=>?_⟩;by_cases hji:j=i
  ·subst hji;exact hy.wpOp hi hS ⟨fun _=>hS,H⟩
  ·have hjn:j<n:=by
    rcases Nat.lt_or_ge j n with h|h
    ·exact h
    ·exact absurd hj (tail_waits hs hc hn inv (n - i) i rfl hin (mem_ready.1 hr).1 j h)
   have h1:=H.2 j (ready_mono hj hji);obtain⟨hjun,oj,hoj,hall⟩:=mem_ready.1 hj;have hnot:∀e∈oj.after,Region.binds md e=true->e.on≠i:=fun e he hb heq=>by
    have h1:=hall e he hb;have h0:=(mem_ready.1 hr).1;rw[heq]at h1;rcases Nat.lt_or_ge i listed.size with h'|h'
    ·simp[h']at h0 h1;rw[h0]at h1;cases h1
    ·simp[Array.getElem?_eq_none h']at h1
   have h2:=wpOp_putIf hoj (hfree j oj hoj hji hjun hnot) (fun cs b=>hsel i oi cs b hi) (fun cs b=>hsel j oj cs b hoj) hQ hy h1;have hfree':∀k ok,ops[k]? =some ok->k≠i->(listed.setIfInBounds j true).getD k true=false->
     (∀e∈ok.after,Region.binds md e=true->e.on≠i)->oi.apart ops ok=true:=fun k ok hk hki hun hno=>by
    refine hfree k ok hk hki ?_ hno;by_cases hjk:j=k
    ·subst hjk;exact hjun
    ·rw[getD_set_ne true hjk]at hun;exact hun
   refine wpOp_mono (fun a' w' h3=>⟨h3.2.1,ih (listed.setIfInBounds j true) a' w' (inv.set hj hjn) hfree' (ready_mono hr (Ne.symm hji)) h3.1 (h3.2.1 hjn) ?_⟩) h2;rw[Array.setIfInBounds_comm _ _ hji];exact h3.2.2
def b4W (md:Region.Mode) (ops:Array Oper) (n:Nat) (listed:Array Bool):Bool:=
 decide (listed.size=ops.size)&&
 ((List.range ops.size).all fun j=> !listed.getD j false||(match ops[j]? with|some o=>o.after.all fun e=> !Region.binds md e||listed.getD e.on false|none=>true))&&
 ((List.range ops.size).all fun t=>decide (t<n)|| !listed.getD t true)
theorem b1x {listed:Array Bool} (h:b4W md ops n listed=true):HeadInv md ops n listed:=by
 unfold b4W at h;simp only[Bool.and_eq_true,decide_eq_true_eq]at h;obtain⟨⟨h1,h2⟩,h3⟩:=h;refine⟨h1,fun j oj hj hl e he hb=>?_,fun t ht ht'=>?_⟩
 ·have hlt:j<ops.size:=(Array.getElem?_eq_some_iff.1 hj).1
  have h4:=List.all_eq_true.1 h2 j (List.mem_range.2 hlt);rw[hl,hj]at h4;simp only[Bool.not_true,Bool.false_or]at h4;have h5:=Array.all_eq_true_iff_forall_mem.1 h4 e he;rw[hb]at h5;simpa using h5
 ·have h4:=List.all_eq_true.1 h3 t (List.mem_range.2 ht')
  simp only[Bool.or_eq_true,decide_eq_true_eq,Bool.not_eq_true']at h4;rcases h4 with h4|h4
  ·omega
  ·exact h4
def b6s (md:Region.Mode) (ops:Array Oper) (n i:Nat) (listed:Array Bool):Bool:=
 decide (i<n)&&b4W md ops n listed&&Region.free md ops listed i&&(Region.ready md ops listed).contains i
def b2U (md:Region.Mode) (ops:Array Oper) (n:Nat):Bool:=Region.sinkB md ops n&&Region.chainB md ops n&&decide (n<ops.size)&&Region.noSelect ops
theorem a0a {i:Nat} {oi:Oper} {v:Value} {fuel:Nat} {listed:Array Bool} {a:Act} {w:World} (hO:Shut (b2U md ops n=true)) (hi:ops[i]? =some oi)
  (hB:b6s md ops n i listed=true)
  (hQ:∀c a w,Q (.panic c) (a.put oi.dst v) w->Q (.panic c) a w) (hS:S w) (hw:Region.wanted oi (yielded ops a.tmps)=true) (hy:∀w,S w->(execOp a.eval oi).run P w= .ok (.value v) w)
  (h:a2s P md ops Q S n fuel (listed.setIfInBounds i true) (a.put oi.dst v) w):a2s P md ops Q S n (fuel+1) listed a w:=by
 unfold b6s at hB;simp only[Bool.and_eq_true,decide_eq_true_eq]at hB;obtain⟨⟨⟨b4,b5⟩,b7⟩,b8⟩:=hB;have hO:=hO.out;unfold b2U at hO;simp only[Bool.and_eq_true,decide_eq_true_eq]at hO;obtain⟨⟨⟨b1,b2⟩,b3⟩,b6⟩:=hO;exact a7E b1 b2 b3 b4 hi (Region.noSelect_spec b6) hQ fuel listed a w (b1x b5) (Region.free_spec hi b7) (by simpa using b8) (.inl ⟨hw,hy⟩) hS h
theorem a0e {i:Nat} {o:Oper} {fuel:Nat} {listed:Array Bool} {a:Act} {w:World} (hr:Region.ready md ops listed= [i]) (ho:ops[i]? =some o)
  (h:∀K':Act->World->Prop,Shut (∀a w,S w->(S w->a2s P md ops Q S n fuel (listed.setIfInBounds i true) a w)->K' a w)->if Region.wanted o (yielded ops a.tmps)=true then Oper.wp P o a w K' Q else K' (a.put o.dst undef) w):a2s P md ops Q S n (fuel+1) listed a w:=by
 refine⟨fun h0=>(by rw[hr]at h0;cases h0),fun j hj=>?_⟩;rw[hr]at hj;have:j=i:=by simpa using hj
 subst this;exact wpOp_step ho (fun K' hK=>h K' (fun a w hS hW=>hK a w ⟨fun _=>hS,hW hS⟩))
theorem a0E {i j:Nat} {oi oj:Oper} {fuel:Nat} {listed:Array Bool} {a:Act} {w:World} (hr:Region.ready md ops listed= [i,j]) (hi:ops[i]? =some oi) (hj:ops[j]? =some oj)
  (h1:∀K':Act->World->Prop,Shut (∀a w,S w->(S w->a2s P md ops Q S n fuel (listed.setIfInBounds i true) a w)->K' a w)->if Region.wanted oi (yielded ops a.tmps)=true then Oper.wp P oi a w K' Q else K' (a.put oi.dst undef) w)
  (h2:∀K':Act->World->Prop,Shut (∀a w,S w->(S w->a2s P md ops Q S n fuel (listed.setIfInBounds j true) a w)->K' a w)->if Region.wanted oj (yielded ops a.tmps)=true then Oper.wp P oj a w K' Q else K' (a.put oj.dst undef) w):a2s P md ops Q S n (fuel+1) listed a w:=by
 refine⟨fun h0=>(by rw[hr]at h0;cases h0),fun k hk=>?_⟩;rw[hr]at hk;rcases List.mem_cons.1 hk with rfl|hk
 ·exact wpOp_step hi (fun K' hK=>h1 K' (fun a w hS hW=>hK a w ⟨fun _=>hS,hW hS⟩))
 ·obtain rfl:k=j:=by simpa using hk
  exact wpOp_step hj (fun K' hK=>h2 K' (fun a w hS hW=>hK a w ⟨fun _=>hS,hW hS⟩))
theorem a0n {i:Nat} {o:Oper} {fuel:Nat} {listed:Array Bool} {a:Act} {w:World} (hr:Region.ready md ops listed= [i]) (ho:ops[i]? =some o) (hin:n<=i)
  (hd:Region.ready md ops (listed.setIfInBounds i true)= [])
  (h:∀K':Act->World->Prop,Shut (∀a w,Q .normal a w->K' a w)->if Region.wanted o (yielded ops a.tmps)=true then Oper.wp P o a w K' Q else K' (a.put o.dst undef) w):a2s P md ops Q S n (fuel+1) listed a w:=by
 refine⟨fun h0=>(by rw[hr]at h0;cases h0),fun j hj=>?_⟩;rw[hr]at hj;have:j=i:=by simpa using hj
 subst this;refine wpOp_step ho (fun K' hK=>h K' (fun a w hq=>hK a w ⟨fun hlt=>absurd hlt (Nat.not_lt.2 hin),?_⟩));cases fuel with
 |zero=>exact⟨hd,hq⟩
 |succ f=>exact⟨fun _=>hq,by rw[hd];simp⟩
theorem a0O {id:Nat} {a:Act} {w:World} (n:Nat) (S:World->Prop) (hm:P.follows .mixedOrders=true) (hO:b2U .any ops n=true) (hS:S w.drew)
  (h:S w.drew->Shut (b2U .any ops n=true)->a2s P .any ops Q S n ops.size (Array.replicate ops.size false) a w.drew):(Code.region id ops true).wp P Q a w:=
 wp_region_any hm (a6d _ _ _ _ (h hS hO))
end
end Go
namespace Go.Lin
theorem b6t {m:Mat} {i j:Nat} (hi:i<m.length) (hj:j<m[i].length):m[i][j]=ent m i j:=by
 unfold ent;rw[show m.getD i []=m[i]by simp[List.getD_eq_getElem?_getD,hi],List.getD_eq_getElem?_getD,List.getElem?_eq_getElem hj];rfl
end Go.Lin
namespace Go.Proofs.YtkddecjkfdogiaaGreat
open Go.RowKit Go.Rep Go.Lim Go.Lin
theorem b2V {R:Mem->Value->Rat->Prop} (X:Nat->Bool) (w:World) (u:Value) (m:List (List Rat)) (hu:SlV (SlV R 3) 1 (mk X w) u m):Calls Tryz.prog 116 #[u] w (fun e w'=>w'=w/\e= .returned (.int .i64 (colsL m:Int))):=by
 obtain⟨ao,ca,rfl,hca,hsa⟩:=hu;have hha:=hsa.hd;by_cases h:0<m.length
 ·obtain⟨a1,c1,hX1,hc1,hcl1,hq1⟩:=hsa.row 0 h
  have k00:=hc1.out noY w (ExtX.refl _) rfl;have hc:=hid (a2T h);have hI:((m.length:Int)==0)=false:=a3t (by omega);go_enter Tryz.func116,Tryz.ntmps116
  go_wp2_with (with_reducible refine a0t a0r (by omega) (by assumption) ?_)
  go_ret
  exact⟨rfl,a0I (by rw[hc.out])⟩
 ·have hc:Hid (colsL m=0):=hid (by
   have:m= []:=List.eq_nil_of_length_eq_zero (by omega);subst this;rfl)
  have hI:((m.length:Int)==0)=true:=a7i (by omega);go_enter Tryz.func116,Tryz.ntmps116
  go_wp2_with (with_reducible refine a0t a0r (by omega) (by assumption) ?_)
  go_ret
  exact⟨rfl,a0I (by rw[hc.out];rfl)⟩
set_option maxRecDepth 100000 in
theorem b4X {R:Mem->Value->Rat->Prop} (hR:a3n R) (X:Nat->Bool) (w:World) (u:Value) (m:List (List Rat)) (hu:SlV (SlV R 3) 1 (mk X w) u m) (hl:m.length<=1099511627776):Calls Tryz.prog 115 #[u] w (a8V w (a0x m)):=by
 obtain⟨ao,ca,rfl,hca,hsa⟩:=hu;have hha:=hsa.hd;by_cases h96:96<m.length
 ·have hv:Hid (false=a0x m):=hid (by
   symm;cases hf:a0x m
   ·rfl
   ·have:=(a1D.1 hf).1;omega)
  have hI:(96:Int)<(m.length:Int):=by omega
  go_enter Tryz.func115,Tryz.ntmps115
  go_wp2_with fail
  go_ret
  exact⟨ExtX.refl _,a0m hv.out⟩
 ·have hI:¬(96:Int)<(m.length:Int):=by omega
  obtain⟨n,hn⟩:∃n,m.length=n:=⟨_,rfl⟩;have hn':=hid hn;have hn6:n<=96:=by omega
  rw[hn]at hha hI |-;clear hn hl h96 hca;go_enter Tryz.func115,Tryz.ntmps115
  go_wp2_with fail
  go_loopw [3] (fun c wr=>∃(i:Nat),c= .int .i64 i/\i<=n/\Hid (∀q,q<i->∀hq:q<m.length,1<=m[q].length/\m[q].length<=96/\m[q].length=colsL m)/\Ext w wr) (fun c _=>n - (intOf c).toNat)
  case atStart=>exact⟨0,rfl,Nat.zero_le _,hid (fun q hq=>by omega),ExtX.refl _⟩
  case round=>
   obtain⟨i,rfl,hi,hok,hE⟩:=hrel;by_cases hlt:i<n
   ·have hil:i<m.length:=by rw[hn'.out];exact hlt
    have h0:0<m.length:=by omega
    have hsr:=hsa.mono (SlV.mono hR 3) (a0o hE);obtain⟨a1,c1,hX1,hc1,hcl1,hq1⟩:=hsr.row i hil;obtain⟨a2,c2,hX2,hc2,hcl2,hq2⟩:=hsr.row 0 h0;have k00:=hc1.out noY wr (ExtX.refl _) rfl;have k10:=hc2.out noY wr (ExtX.refl _) rfl;have i1:∀W,(Instr.indexAt 25 (.slice ao n ca) (.int .i64 (i:Int))).run Tryz.prog W= .ok (.pointer (some (adr ao i))) W:=a0w a0r ao n ca .i64 i hha (by omega) rfl;have i0:∀W,(Instr.indexAt 25 (.slice ao n ca) (.int .i64 0)).run Tryz.prog W= .ok (.pointer (some (adr ao 0))) W:=a0w a0r ao n ca .i64 0 hha (by omega) rfl;have hcol:=a2T h0;have hno:=hid (a4s i hil);rw[<-hcol]at k10;obtain⟨x,hx⟩:∃x,m[i].length=x:=⟨_,rfl⟩;obtain⟨y,hy⟩:∃y,colsL m=y:=⟨_,rfl⟩;rw[hx]at k00 hno;rw[hy]at k10 hno;have hst:Hid (1<=x/\x<=96/\x=y->∀hq:i<m.length,1<=m[i].length/\m[i].length<=96/\m[i].length=colsL m):=hid fun h hq=>by rw[hx,hy];exact h
    clear hx hy hcol hc1 hc2 hq1 hq2 hcl1 hcl2 h0 hil;by_cases hx0:x=0
    ·have d0:decide ((x:Int)<1)=true:=decide_eq_true (by omega)
     have hv:=hid (hno.out (by omega));clear hx0 hno hst;go_wp2_with fail
     go_region
     all_goals
      clear k00 k10 i1 i0;go_wp2_with fail
      go_ret
      exact⟨hE.trans (ExtX.refl wr).drew,a0m hv.out⟩
    ·have d0:decide ((x:Int)<1)=false:=decide_eq_false (by omega)
     by_cases hx1:96<x
     ·have d1:decide ((96:Int)<(x:Int))=true:=decide_eq_true (by omega)
      have hv:=hid (hno.out (by omega));clear hx0 hno hst;go_wp2_with fail
      go_region
      all_goals
       clear k00 k10 i1 i0;go_wp2_with fail
       go_ret
       exact⟨hE.trans (ExtX.refl wr).drew,a0m hv.out⟩
     ·have d1:decide ((96:Int)<(x:Int))=false:=decide_eq_false (by omega)
      by_cases hxy:x=y
      ·have d2:((x:Int) !=(y:Int))=false:=b0h (by omega)
       have hst2:=hid (hst.out ⟨by omega,by omega,hxy⟩);clear hx0 hxy hno hst hx1;go_wp2_with fail
       go_region
       all_goals
        clear k00 k10 i1 i0;go_wp2_with fail
        go_roundw
        case rel=>exact⟨i+1,by go_num,by omega,hid (a4p hok.out hst2.out),hE.trans (ExtX.refl wr).drew⟩
        case measure=>simp[intOf];omega
      ·have d2:((x:Int) !=(y:Int))=true:=a7T (by omega)
       have hv:=hid (hno.out (by omega));clear hx0 hxy hno hst hx1;go_wp2_with fail
       go_region
       all_goals
        clear k00 k10 i1 i0;go_wp2_with fail
        go_ret
        exact⟨hE.trans (ExtX.refl wr).drew,a0m hv.out⟩
   ·have hv:Hid (true=a0x m):=hid (by
     symm;exact a1D.2 ⟨by rw[hn'.out];omega,fun q hq=>hok.out q (by rw[hn'.out]at hq;omega) hq⟩)
    go_wp2_with fail
    go_ret
    exact⟨hE,a0m hv.out⟩
attribute [local go_sem↓] Go.wp_at_zero Go.wp_at_succ
end Go.Proofs.YtkddecjkfdogiaaGreat
namespace Go.Lin
open Go.Lim
end Go.Lin
namespace Go.Proofs.YtkddecjkfdogiaaGreat
open Go.RowKit Go.Rep Go.Lim Go.Lin
end Go.Proofs.YtkddecjkfdogiaaGreat
namespace Go.Rep
open Go.RowKit Go.Lim
theorem a2H {P:Program} {t e sz by_:Nat} {z:Value} {ao:Option Addr} (T:SliceT P t e sz by_ z) (len cap i:Nat) (k1 k2:IntKind) (h:i<=cap) (w:World):
  (Instr.sliceAt t (.slice ao len cap) none (some (.int k1 (i:Int))) (some (.int k2 (i:Int)))).run P w= .ok (.slice ao i i) w:=by
 obtain⟨ti,hi,hz,hsz,hby⟩:=info_parts T.info;have h1':(i:Int)<=cap:=by omega
 cases ao<;>simp[Instr.sliceAt,Instr.slice,run_underlying T.und,Instr.sliceBounds,run_sliceBound,h1',sizeOf,typeInfo,hi,Addr.add_zero']
end Go.Rep
namespace Go.Proofs.YtkddecjkfdogiaaGreat
open Go.RowKit Go.Rep Go.Lim Go.Lin
theorem b3Q:SliceT Tryz.prog 61 4 1 1 (.bool false):=⟨Tryz.underlying61,by kernel_rfl⟩
def b5s (l:List Nat) (v:Nat) (r:Int):Prop:=decide ((0:Int)<=r)=decide (v∈l)
set_option maxRecDepth 100000 in
theorem a9S (X:Nat->Bool) (w:World) (ao:Option Addr) (l:List Nat) (ca v:Nat) (hs:Sl (a0b .i64) 1 (mk X w) ao l) (hl:l.length<=1099511627776):
  Calls Tryz.prog 233 #[.slice ao l.length ca, .int .i64 (v:Int)] w (fun e w'=>w'=w/\∃r:Int,e= .returned (.int .i64 r)/\b5s l v r):=by
 have hh:=hs.hd;obtain⟨n,hn⟩:∃n,l.length=n:=⟨_,rfl⟩;have hn':=hid hn;rw[hn]at hl hh |-;clear hn;go_enter Tryz.func233,Tryz.ntmps233
 go_wp2_with fail
 go_loop [8] (fun c=>∃i:Nat,c= .int .i64 i/\i<=n/\Hid (∀q,q<i->∀hq:q<l.length,l[q]≠v)) (fun c=>n - (intOf c).toNat)
 case atStart=>exact⟨0,rfl,Nat.zero_le _,hid fun q hq=>by omega⟩
 case round=>
  obtain⟨i,rfl,hi,hok⟩:=hrel;by_cases hlt:i<n
  ·have hil:i<l.length:=by rw[hn'.out];exact hlt
   have k00:=hs.nat i hil;have i1:∀W,(Instr.indexAt 22 (.slice ao n ca) (.int .i64 (i:Int))).run Tryz.prog W= .ok (.pointer (some (adr ao i))) W:=a0w a5e ao n ca .i64 i hh (by omega) rfl;obtain⟨y,hy⟩:∃y,l[i]=y:=⟨_,rfl⟩;rw[hy]at k00;by_cases hv:y=v
   ·have hb:((v:Int)==(y:Int))=true:=a7i (by omega)
    have hr:b5s l v (i:Int):=(by
     unfold b5s;rw[decide_eq_true (by omega),decide_eq_true (by rw[<-hv,<-hy];exact List.getElem_mem _)])
    clear hv hy;go_wp2_with fail
    go_ret
    exact⟨rfl,_,rfl,hr⟩
   ·have hb:((v:Int)==(y:Int))=false:=a3t (by omega)
    have hok2:Hid (∀q,q<i+1->∀hq:q<l.length,l[q]≠v):=hid fun q hq h=>by
     by_cases e:q=i
     ·subst e;rw[hy];exact hv
     ·exact hok.out q (by omega) h
    clear hv hy;go_wp2_with fail
    go_round
    case rel=>exact⟨i+1,by go_num,by omega,hok2⟩
    case measure=>simp[intOf];omega
  ·have hr:b5s l v (-1):=(by
    unfold b5s;rw[decide_eq_false (by omega),decide_eq_false fun h=>by
     obtain⟨q,hq,e⟩:=List.getElem_of_mem h;exact hok.out q (by have:=hn'.out;omega) hq e])
   go_wp2_with fail
   go_ret
   exact⟨rfl,_,rfl,hr⟩
set_option maxRecDepth 100000 in
theorem a6K (X:Nat->Bool) (w:World) (ao:Option Addr) (l:List Nat) (ca v:Nat) (hs:Sl (a0b .i64) 1 (mk X w) ao l) (hl:l.length<=1099511627776):
  Calls Tryz.prog 178 #[.slice ao l.length ca, .int .i64 (v:Int)] w (fun e w'=>w'=w/\e= .returned (.bool (decide (v∈l)))):=by
 have h0:=a9S X w ao l ca v hs hl;obtain⟨b,hb⟩:∃b,decide (v∈l)=b:=⟨_,rfl⟩;unfold b5s at h0;rw[hb]at h0 |-;clear hb;go_enter Tryz.func178,Tryz.ntmps178
 go_wp2_with fail
 refine h0.mono ?_;rintro e w1 ⟨rfl,r,rfl,hr0⟩;have hr:=hid hr0.symm;clear h0 hr0;go_wp2_with fail
 go_ret
 exact⟨rfl,a0m hr.out.symm⟩
theorem un_or {X:Nat->Bool} {oo oo2:Option Addr} {w:World} (hor:oo2=oo\/∃g,oo2=some ⟨g,0,none⟩/\w.heap.size<=g):∀k,k<w.heap.size->un X oo2 k=true->un X oo k=true:=fun k hk h=>by
 rcases hor with rfl|⟨g,rfl,hg⟩
 ·exact h
 ·by_cases hx:X k=true
  ·exact a0q hx
  ·exfalso
   have:g=k:=by simpa[un,hx,ob]using h
   omega
def b6u (X:Nat->Bool) (w:World) (p:List Nat) (c:Nat) (e:Ending) (w':World):Prop:=Ext w w'/\∃uo uc v,e= .returned (.tuple #[.slice uo c uc,v, .int .i64 0])/\c<=uc/\Sl BlR 1 (mk X w') uo (usedL p c)
set_option maxRecDepth 100000 in
set_option maxHeartbeats 800000 in
theorem b1y (X:Nat->Bool) (w:World) (u:Value) (x:Mat) (n c:Nat) (hX:HX X w) (hu:MV (mk X w) u x) (hf:a0x x=true) (hnx:x.length=n) (hcx:colsL x=c) (hn1:1<=n) (hT:b0g x c) (hbm:BM 68719476736 (a1a x c).1):Calls Tryz.prog 110 #[u] w (b6u X w (a1a x c).2 c):=by
 obtain⟨hsh,h96,hc96,hpos,_⟩:=a0M hf;rw[hnx,hcx]at hsh;rw[hnx]at h96;rw[hcx]at hc96 hpos;have hc1:=hpos (by omega);have hre:=a9N X w u x hX hu hf (by rw[hcx];exact hT);rw[hcx]at hre;obtain⟨hs2,hg,_⟩:=a0U hsh;have hpl:=hg.le;obtain⟨R,hR⟩:∃R,(a1a x c).1=R:=⟨_,rfl⟩;obtain⟨p,hp⟩:∃p,(a1a x c).2=p:=⟨_,rfl⟩;rw[hR]at hs2 hbm;rw[hp]at hpl;rw[hR,hp]at hre;have hfR:a0x R=true:=b2D hs2 h96 hc1 hc96;have hcR:colsL R=c:=b0i hs2 hn1;have htr:=hid fun w' v (h:MC (mk X w') v R) (hX:HX X w')=>a2q X w' v R n c hX (h.mv hbm) hfR hs2.1 hcR;have hts:=hid (a2v R n c);obtain⟨T,hT2⟩:∃T,trL R n c=T:=⟨_,rfl⟩;rw[hT2]at htr hts;rw[hp];obtain⟨pl,hpl2⟩:∃pl,p.length=pl:=⟨_,rfl⟩;have hpl':=hid hpl2;rw[hpl2]at hpl;clear hR hp hfR hcR hT2 hs2 hg hbm hT hsh hu hnx hcx hpl2;go_enter Tryz.func110,Tryz.ntmps110
 go_wp2_with fail
 refine hre.mono ?_;rintro e w1 ⟨hE1,r,v,rfl,hr,po,pc,rfl,hpc,hps⟩;have hX1:=hX.ext hE1;have ht1:=htr.out w1 r hr hX1;rw[hpl'.out]at hpc;obtain⟨ro,rc,rfl,_,_⟩:=hr;clear hre htr;rw[hpl'.out];go_wp2_with fail
 refine ht1.mono ?_;rintro e w2 ⟨hE2,tv,rfl,tvo,tc,rfl,htc,hts2⟩;have hX2:=hX1.ext hE2;have hps2:=hps.mono (a0b.mono _) (a0o hE2);have hE12:=hE1.trans hE2;have htl:=hid hts.out.1;rw[hts.out.1]at htc;have hht:=hts2.hd;rw[htl.out]at hht |-;clear ht1;go_wp2_with fail
 go_loopw [2,3,27] (fun o b k wr=>∃(j:Nat) (oo:Option Addr) (co:Nat) (bo:Option Addr) (cb:Nat) (hs:List Hdr),k= .int .i64 j/\o= .slice oo j co/\b= .slice bo j cb/\j<=c/\OL BlR 1 X w2.heap.size 4 wr oo co (usedL p j)/\hs.length=j/\OL HdR 1 (un X oo) w2.heap.size 45 wr bo cb hs/\Ext w2 wr) (fun _ _ k _=>c - (intOf k).toNat)
 case atStart=>exact⟨0,none,0,none,0,[],rfl,rfl,rfl,Nat.zero_le _,OL.nil _ _ _ _ _ _,rfl,OL.nil _ _ _ _ _ _,ExtX.refl _⟩
 case round=>
  obtain⟨j,oo,co,bo,cb,hs,rfl,rfl,rfl,hj,hO,hhs,hB,hE⟩:=hrel;have hXr:HX X wr:=hX2.ext hE;have hbase:=hE.size;by_cases hlt:j<c
  ·have hjT:j<T.length:=by rw[htl.out];exact hlt
   obtain⟨a1,c1,hX1',hc1',hcl1,hq1⟩:=hts2.row j hjT;have hrl:=hts.out.2 T[j] (List.getElem_mem _);rw[hrl]at hc1' hcl1;have k00:=hc1'.out noY wr hE rfl;have hco:=a6K X wr po p pc j (hps2.mono (a0b.mono _) (a0o hE)) (by rw[hpl'.out];omega);rw[hpl'.out]at hco;have hus:=hid (a9P p j);have hul:=hid (a2Z p j);obtain⟨bb,hbb⟩:∃bb,decide (j∈p)=bb:=⟨_,rfl⟩;rw[hbb]at hco hus;have hht':=hht;clear hc1' hq1 hrl hbb;have hhs':=hid hhs;have f1:∀W,(Instr.sliceAt 45 (.slice a1 n c1) none (some (.int .i64 (pl:Int))) (some (.int .i64 (pl:Int)))).run Tryz.prog W= .ok (.slice a1 pl pl) W:=a2H a0B n c1 pl .i64 .i64 (by omega);clear hhs;go_wp2_with (with_reducible refine a0t a0r (by omega) (by assumption) ?_)
   refine hco.mono ?_;rintro e w5 ⟨rfl,rfl⟩;clear hco k00;go_wp2_with (first
    |(at_builtin;refine a0T (l:=usedL p j) b3Q rfl BlR.elem hbase hXr j hul.out rfl rfl hO (.bool bb) bb rfl rfl (by omega) (by omega) ?_;intro oo2 co2 w7 hO7 hE7 hor;have hB7:=hB.ext HdR.elem (Z:=un X oo2) hE7 (fun k _ hk=>a0s hk) (un_or hor);have hE27:=hE.own hO (Nat.le_refl _) hE7;have hb7:=hE27.size;have hX7:=hO7.unX (hX2.ext hE27))
    |(at_builtin;refine a0T (l:=hs) a0r rfl HdR.elem hb7 hX7 j hhs'.out rfl rfl hB7 (.slice a1 pl pl) (a1,pl,pl) rfl rfl (by omega) (by omega) ?_;intro bo2 cb2 w8 hB8 hE8 hor2))
   have hO8:=hO7.frame (fun _ _ _ _ h=>h) hE8 (fun k hk=>by
    cases hbk:ob bo k
    ·rfl
    ·have:=(a1p (hB7.1 k hbk)).2;rw[hk]at this;cases this) hO7.1
   have hE28:=hE27.own hB7 (Nat.le_refl _) hE8;rw[<-hus.out]at hO8;have hl8:(hs++[(a1,pl,pl)]).length=j+1:=by rw[List.length_append,hhs'.out];rfl
   go_roundw
   case rel=>exact⟨j+1,oo2,co2,bo2,cb2,_,by go_num,by go_num,by go_num,by omega,hO8,hl8,hB8,hE28⟩
   case measure=>simp[intOf];omega
  ·have hjc:j=c:=by omega
   subst hjc;have hc:=hO.lenCap;rw[a2Z]at hc;have hs:=hO.sl BlR.elem;go_wp2_with fail
   go_ret3
   exact⟨hE12.trans hE,_,_,_,rfl,hc,hs⟩
set_option maxRecDepth 100000 in
set_option maxHeartbeats 12800000 in
theorem a9T (X:Nat->Bool) (w:World) (u r t:Value) (m:Mom) (row:List Rat) (v:Rat) (sg:Int) (n B:Nat) (hX:HX X w) (hu:b4R (mk X w) u m) (hr:RV (mk X w) r row) (ht:QV (mk X w) t v)
  (hsx:Shp n n m.xx) (hsy:m.xy.length=n) (hrl:row.length=n) (hn:n<=12) (hN1: -1<=m.n) (hN2:m.n<=1099511627777) (hsg:sg=1\/sg= -1) (_hBm:BMo B m) (hBr:BR B row) (hBv:hq v<=B) (hB:B<=1000000):
  Calls Tryz.prog 128 #[u,r,t, .int .i64 sg] w (a2h X w a5f (shM m row v sg)):=by
 obtain⟨xo,xl,xc,yo,yl,yc,s,a,n0,c,d,k,e,rfl,hx,hy,hqq⟩:=hu;obtain⟨s2,a2,n2,c2,d2,k2,e2,rfl⟩:=ht.shape;obtain⟨W,hW,hE,b0,b1,b2,hz⟩:=a2M w #[.int .i64 m.n, .slice xo xl xc, .slice yo yl yc, .bool s, .slice a n0 c, .slice d k e] #[.bool s2, .slice a2 n2 c2, .slice d2 k2 e2] #[.int .i64 0, .slice none 0 0, .slice none 0 0, .bool false, .slice none 0 0, .slice none 0 0] 83 32 83;have hXW:HX (a0g X w.heap.size 3) W:=hX.boxes hz;have hle:Hid (∀w',Ext W w'->Le (mk X w) (mk (a0g X w.heap.size 3) w')):=hid fun w' h=>a0p (hE.trans h);have hun:Hid (∀w',Le (mk (a0g X w.heap.size 3) w') (mk X w')):=hid fun w'=>a0l;obtain⟨b,hb⟩:∃b,w.heap.size=b:=⟨_,rfl⟩;rw[hb]at b0 b1 b2 hz hXW hle hun;have hbw:w.heap.size<=b:=by omega
 obtain⟨Z0,hZ0⟩:∃Z0,a0g X b 3=Z0:=⟨_,rfl⟩;rw[hZ0]at hXW hle hun;have hsgq:hq ((sg:Int):Rat)<=1:=by rcases hsg with rfl|rfl<;>decide+kernel
 have hB2:hq (v*v)<=2000000:=Nat.le_trans (hq_mul _ _) (by omega);have hB3:hq ((sg:Rat)*(v*v))<=2000001:=Nat.le_trans (hq_mul _ _) (by omega);have hwr:IntKind.i64.wrap (m.n+sg)=m.n+sg:=IntWalk.i64_in _ (by rcases hsg with rfl|rfl<;>omega);have hsg1: -9223372036854775808<=sg/\sg<=9223372036854775807:=by rcases hsg with rfl|rfl<;>omega
 obtain⟨N,hN⟩:∃N,m.n=N:=⟨_,rfl⟩;rw[hN]at b0 hW hwr |-;obtain⟨N',hN'⟩:∃N',N+sg=N':=⟨_,rfl⟩;have hNs:=hid hN';have hNe:Hid (m.n+sg=N'):=hid (by rw[hN,hN']);clear hN1 hN2 hsg hN hN';have hf:=b5Z Z0 W sg hXW hsg1.1 hsg1.2;clear hsg1;obtain⟨F,hF⟩:∃F,a2h X w a5f (shM m row v sg)=F:=⟨_,rfl⟩;rw[hF];have hF':=hid hF;clear hF;go_enter Tryz.func128,Tryz.ntmps128
 go_wp2_with fail
 refine hf.mono ?_;rintro ee w2 ⟨hE2,u2,rfl,hu2⟩;obtain⟨s9,a9,n9,c9,d9,k9,e9,rfl⟩:=hu2.shape;have bf:=Bx.new w2 #[.bool false, .slice none 0 0, .slice none 0 0] 32;clear hf;go_upto_region 1 with((with_reducible show wpList _ _ _ (⟨_, .store 32 _ _,_,_,_,_⟩::_) _ _);refine a0c a0v rfl rfl bf rfl rfl (a3f _ _ _ _ _ _ _) ?_;intro w3 y1 y2)
 have hE23:Ext w2 w3:=ExtX.box ((ExtX.refl w2).alloc _) y2 (Nat.le_refl _);have hEW3:=hE2.trans hE23;have hs3:=mkx QC.mono hu2 hE23;have hX3:HX Z0 w3:=hXW.ext hEW3;have m3:=b0.ext0 hEW3;have v3:=b1.ext0 hEW3;have t3:=b2.ext0 hEW3;obtain⟨fb,hfb⟩:∃fb,w2.heap.size=fb:=⟨_,rfl⟩;rw[hfb]at y1 |-;have hxv:=MV.mono _ _ _ _ (hle.out w3 hEW3) hx;have hyv:=RV.mono _ _ _ _ (hle.out w3 hEW3) hy;have hqv:=QV.mono _ _ _ _ (hle.out w3 hEW3) hqq;have htv:=QV.mono _ _ _ _ (hle.out w3 hEW3) ht;have hrv:=RV.mono _ _ _ _ (hle.out w3 hEW3) hr;have hsv:QV (mk Z0 w3) (.agg #[.bool s9, .slice a9 n9 c9, .slice d9 k9 e9]) (sg:Rat):=hs3.qv (by omega);have hE03:Ext w w3:=hE.trans hEW3;have hE0:Ext w3 w3.drew:=(ExtX.refl w3).drew;have hX0:HX Z0 w3.drew:=hX3.ext hE0;have hc0:=hid fun Z w' (hZ:HX Z w') (hl:Le (mk Z0 w3.drew) (mk Z w'))=>b3J Z w' _ _ v v hZ (QV.mono _ _ _ _ hl (mkx QV.mono htv hE0)) (QV.mono _ _ _ _ hl (mkx QV.mono htv hE0));have hc1:=hid fun Z w' (hZ:HX Z w') (hl:Le (mk Z0 w3.drew) (mk Z w')) (u:Value) (h:QC (mk Z w') u (v*v))=>b3J Z w' _ u _ _ hZ (QV.mono _ _ _ _ hl (mkx QV.mono hsv hE0)) (h.qv (Nat.le_trans hB2 (by decide)));have hc2:=hid fun Z w' (hZ:HX Z w') (hl:Le (mk Z0 w3.drew) (mk Z w')) (u:Value) (h:QC (mk Z w') u ((sg:Rat)*(v*v)))=>b3I Z w' _ u _ _ hZ (QV.mono _ _ _ _ hl (mkx QV.mono hqv hE0)) (h.qv (Nat.le_trans hB3 (by decide)));have hS:Hid (∀w',Ext w3.drew w'->w'.cell? ⟨b,0,none⟩=some (.int .i64 N)/\(w'.cell? ⟨b,3,none⟩=some (.bool s)/\w'.cell? ⟨b,3+1,none⟩=some (.slice a n0 c)/\w'.cell? ⟨b,3+2,none⟩=some (.slice d k e))/\(w'.cell? ⟨fb,0,none⟩=some (.bool s9)/\w'.cell? ⟨fb,0+1,none⟩=some (.slice a9 n9 c9)/\w'.cell? ⟨fb,0+2,none⟩=some (.slice d9 k9 e9))/\(w'.cell? ⟨b+1,0,none⟩=some (.bool s2)/\w'.cell? ⟨b+1,0+1,none⟩=some (.slice a2 n2 c2)/\w'.cell? ⟨b+1,0+2,none⟩=some (.slice d2 k2 e2))):=hid fun w' h=>by
  have q0:=m3.ext0 (hE0.trans h);have q1:=v3.ext0 (hE0.trans h);have q2:=y1.ext0 (hE0.trans h);exact⟨q0.cell 0 rfl,⟨q0.cell 3 rfl,q0.cell 4 rfl,q0.cell 5 rfl⟩,⟨q2.cell 0 rfl,q2.cell 1 rfl,q2.cell 2 rfl⟩,⟨q1.cell 0 rfl,q1.cell 1 rfl,q1.cell 2 rfl⟩⟩
 obtain⟨D,hD⟩:∃D,m.yy+(sg:Rat)*(v*v)=D:=⟨_,rfl⟩;obtain⟨V1,hV1⟩:∃V1,v*v=V1:=⟨_,rfl⟩;rw[hV1]at hc0 hc1 hc2 hD;obtain⟨V2,hV2⟩:∃V2,(sg:Rat)*V1=V2:=⟨_,rfl⟩;rw[hV2]at hc1 hc2 hD;rw[hD]at hc2;have hDe:Hid (m.yy+(sg:Rat)*(v*v)=D):=hid (by rw[hV1,hV2,hD]);clear hV1 hV2 hD hu2 bf y2 hE2 hE23 b0 b1 b2 hqq ht hx hy hr
 (try simp only[Act.put])
 go_cut [10]from 19 to 31 (fun bv wx=>∃(g:Nat) (sd:Bool) (ad:Option Addr) (nd cd:Nat) (dd:Option Addr) (kd ed:Nat),bv= .pointer (some ⟨g,0,none⟩)/\Bx wx g #[.int .i64 N', .slice none 0 0, .slice none 0 0, .bool sd, .slice ad nd cd, .slice dd kd ed] 83/\QC (mk (un Z0 (some ⟨g,0,none⟩)) wx) (.agg #[.bool sd, .slice ad nd cd, .slice dd kd ed]) D/\w3.heap.size<=g/\g<wx.heap.size/\Ext w3 wx)
 case first=>
  refine a0O 14 (fun w'=>w'.cell? ⟨b,0,none⟩=some (.int .i64 N)/\(w'.cell? ⟨b,3,none⟩=some (.bool s)/\w'.cell? ⟨b,3+1,none⟩=some (.slice a n0 c)/\w'.cell? ⟨b,3+2,none⟩=some (.slice d k e))/\(w'.cell? ⟨fb,0,none⟩=some (.bool s9)/\w'.cell? ⟨fb,0+1,none⟩=some (.slice a9 n9 c9)/\w'.cell? ⟨fb,0+2,none⟩=some (.slice d9 k9 e9))/\(w'.cell? ⟨b+1,0,none⟩=some (.bool s2)/\w'.cell? ⟨b+1,0+1,none⟩=some (.slice a2 n2 c2)/\w'.cell? ⟨b+1,0+2,none⟩=some (.slice d2 k2 e2))) (by kernel_rfl) (by kernel_rfl) (hS.out _ (ExtX.refl _)) (fun hHeld hOnce=>?_);refine a0a hOnce (i:=0) (oi:=⟨_,_,_,_,_,_⟩) (v:=?_) rfl (by kernel_rfl) (fun _ _ _ h=>h) (by assumption) (by rfl) (fun w hSw=>?_) ?_
  rotate_left
  ·(try dsimp only at hSw)
   go_simp
   all_goals with_reducible rfl
  (try simp only[Act.put,List.setIfInBounds_toArray,List.set_cons_zero,List.set_cons_succ])
  refine a0a hOnce (i:=1) (oi:=⟨_,_,_,_,_,_⟩) (v:=?_) rfl (by kernel_rfl) (fun _ _ _ h=>h) (by assumption) (by rfl) (fun w hSw=>?_) ?_
  rotate_left
  ·(try dsimp only at hSw)
   go_simp
   all_goals with_reducible rfl
  (try simp only[Act.put,List.setIfInBounds_toArray,List.set_cons_zero,List.set_cons_succ])
  refine a0a hOnce (i:=2) (oi:=⟨_,_,_,_,_,_⟩) (v:=?_) rfl (by kernel_rfl) (fun _ _ _ h=>h) (by assumption) (by rfl) (fun w hSw=>?_) ?_
  rotate_left
  ·(try dsimp only at hSw)
   go_simp
   all_goals with_reducible rfl
  (try simp only[Act.put,List.setIfInBounds_toArray,List.set_cons_zero,List.set_cons_succ])
  refine a0a hOnce (i:=3) (oi:=⟨_,_,_,_,_,_⟩) (v:=?_) rfl (by kernel_rfl) (fun _ _ _ h=>h) (by assumption) (by rfl) (fun w hSw=>?_) ?_
  rotate_left
  ·(try dsimp only at hSw)
   go_simp
   all_goals with_reducible rfl
  (try simp only[Act.put,List.setIfInBounds_toArray,List.set_cons_zero,List.set_cons_succ])
  refine a0a hOnce (i:=4) (oi:=⟨_,_,_,_,_,_⟩) (v:=?_) rfl (by kernel_rfl) (fun _ _ _ h=>h) (by assumption) (by rfl) (fun w hSw=>?_) ?_
  rotate_left
  ·(try dsimp only at hSw)
   go_simp
   all_goals with_reducible rfl
  (try simp only[Act.put,List.setIfInBounds_toArray,List.set_cons_zero,List.set_cons_succ])
  refine a0a hOnce (i:=5) (oi:=⟨_,_,_,_,_,_⟩) (v:=?_) rfl (by kernel_rfl) (fun _ _ _ h=>h) (by assumption) (by rfl) (fun w hSw=>?_) ?_
  rotate_left
  ·(try dsimp only at hSw)
   go_simp
   all_goals with_reducible rfl
  (try simp only[Act.put,List.setIfInBounds_toArray,List.set_cons_zero,List.set_cons_succ])
  refine a0a hOnce (i:=6) (oi:=⟨_,_,_,_,_,_⟩) (v:=?_) rfl (by kernel_rfl) (fun _ _ _ h=>h) (by assumption) (by rfl) (fun w hSw=>?_) ?_
  rotate_left
  ·(try dsimp only at hSw)
   go_simp
   all_goals with_reducible rfl
  (try simp only[Act.put,List.setIfInBounds_toArray,List.set_cons_zero,List.set_cons_succ])
  refine a0a hOnce (i:=7) (oi:=⟨_,_,_,_,_,_⟩) (v:=?_) rfl (by kernel_rfl) (fun _ _ _ h=>h) (by assumption) (by rfl) (fun w hSw=>?_) ?_
  rotate_left
  ·(try dsimp only at hSw)
   go_simp
   all_goals with_reducible rfl
  (try simp only[Act.put,List.setIfInBounds_toArray,List.set_cons_zero,List.set_cons_succ])
  refine a0a hOnce (i:=8) (oi:=⟨_,_,_,_,_,_⟩) (v:=?_) rfl (by kernel_rfl) (fun _ _ _ h=>h) (by assumption) (by rfl) (fun w hSw=>?_) ?_
  rotate_left
  ·(try dsimp only at hSw)
   go_simp
   all_goals with_reducible rfl
  (try simp only[Act.put,List.setIfInBounds_toArray,List.set_cons_zero,List.set_cons_succ])
  refine a0E (i:=9) (j:=13) (oi:=⟨_,_,_,_,_,_⟩) (oj:=⟨_,_,_,_,_,_⟩) (by kernel_rfl) rfl rfl (fun K hK=>?_) (fun K hK=>?_)
  ·skip
   go_simp
   (go_at_call 147;(with_reducible refine(hc0.out Z0 w3.drew (hX0.ext (ExtX.refl (Y:=noY) w3.drew)) (a0o (ExtX.refl (Y:=noY) w3.drew))).mono ?_);rintro ee w40 ⟨r0,x0,rfl,g0⟩)
   refine hK.out _ _ (hS.out w40 ((ExtX.refl (Y:=noY) w3.drew).trans r0)) (fun hHeld=>?_);clear hK K
   (try simp only[Act.put,List.setIfInBounds_toArray,List.set_cons_zero,List.set_cons_succ])
   have R0:Ext w3.drew w40:=(ExtX.refl (Y:=noY) w3.drew).trans r0;refine a0E (i:=10) (j:=13) (oi:=⟨_,_,_,_,_,_⟩) (oj:=⟨_,_,_,_,_,_⟩) (by kernel_rfl) rfl rfl (fun K hK=>?_) (fun K hK=>?_)
   ·skip
    go_simp
    (go_at_call 147;(with_reducible refine(hc1.out Z0 w40 (hX0.ext R0) (a0o R0) _ g0).mono ?_);rintro ee w41 ⟨r1,x1,rfl,g1⟩)
    refine hK.out _ _ (hS.out w41 (R0.trans r1)) (fun hHeld=>?_);clear hK K
    (try simp only[Act.put,List.setIfInBounds_toArray,List.set_cons_zero,List.set_cons_succ])
    have R1:Ext w3.drew w41:=R0.trans r1;refine a0E (i:=11) (j:=13) (oi:=⟨_,_,_,_,_,_⟩) (oj:=⟨_,_,_,_,_,_⟩) (by kernel_rfl) rfl rfl (fun K hK=>?_) (fun K hK=>?_)
    ·skip
     go_simp
     (go_at_call 146;(with_reducible refine(hc2.out Z0 w41 (hX0.ext R1) (a0o R1) _ g1).mono ?_);rintro ee w42 ⟨r2,x2,rfl,g2⟩)
     refine hK.out _ _ (hS.out w42 (R1.trans r2)) (fun hHeld=>?_);clear hK K
     (try simp only[Act.put,List.setIfInBounds_toArray,List.set_cons_zero,List.set_cons_succ])
     have R2:Ext w3.drew w42:=R1.trans r2;obtain⟨sd,ad,nd,cd,dd,kd,ed,rfl⟩:=g2.shape;refine a0a hOnce (i:=12) (oi:=⟨_,_,_,_,_,_⟩) (v:=?_) rfl (by kernel_rfl) (fun _ _ _ h=>h) (by assumption) (by rfl) (fun w hSw=>?_) ?_
     rotate_left
     ·(try dsimp only at hSw)
      go_simp
      all_goals with_reducible rfl
     (try simp only[Act.put,List.setIfInBounds_toArray,List.set_cons_zero,List.set_cons_succ])
     have EA:Ext w42 (w42.alloc (.cells #[.int .i64 0, .slice none 0 0, .slice none 0 0, .bool false, .slice none 0 0, .slice none 0 0] 83)):=(ExtX.refl _).alloc _;have bA:Bx (w42.alloc (.cells #[.int .i64 0, .slice none 0 0, .slice none 0 0, .bool false, .slice none 0 0, .slice none 0 0] 83)) w42.heap.size #[.int .i64 0, .slice none 0 0, .slice none 0 0, .bool false, .slice none 0 0, .slice none 0 0] 83:=Bx.new w42 _ _;have hAs:(w42.alloc (.cells #[.int .i64 0, .slice none 0 0, .slice none 0 0, .bool false, .slice none 0 0, .slice none 0 0] 83)).heap.size=w42.heap.size+1:=by simp
     refine a0e (i:=13) (o:=⟨_,_,_,_,_,_⟩) (by kernel_rfl) rfl (fun K hK=>?_);go_simp
     skip
     refine hK.out _ _ (hS.out _ (R2.trans EA)) (fun hHeld=>?_);clear hK K
     (try simp only[Act.put,List.setIfInBounds_toArray,List.set_cons_zero,List.set_cons_succ])
     have hdA:=QC.mono _ _ _ _ (a1P EA (Nat.le_refl _)) g2;refine a0n (i:=14) (o:=⟨_,_,_,_,_,_⟩) (by kernel_rfl) rfl (by decide) (by kernel_rfl) (fun K hK=>?_)
     (refine a0N rfl rfl a3l rfl rfl bA rfl rfl (by intro v hv;simp at hv;rcases hv with rfl|rfl|rfl|rfl|rfl|rfl<;>rfl) ?_;intro w9 y1 y2)
     refine hK.out _ _ ?_;clear hK K
     (try simp only[Act.put])
     have hQ9:=QC.mono _ _ _ _ (a0W y2 fun k hk=>a0s hk) hdA;have hE9:Ext w3 w9:=ExtX.box (hE0.trans (R2.trans EA)) y2 R2.size;have hlt9:=Nat.lt_of_lt_of_le (show w42.heap.size<_ by rw[hAs];exact Nat.lt_succ_self _) y2.size;rw[hNs.out]at y1;go_wp2_with fail
     go_meet
     case rel=>exact⟨w42.heap.size,sd,ad,nd,cd,dd,kd,ed,rfl,y1,hQ9,R2.size,hlt9,hE9⟩
    ·skip
     have EA:Ext w41 (w41.alloc (.cells #[.int .i64 0, .slice none 0 0, .slice none 0 0, .bool false, .slice none 0 0, .slice none 0 0] 83)):=(ExtX.refl _).alloc _;have bA:Bx (w41.alloc (.cells #[.int .i64 0, .slice none 0 0, .slice none 0 0, .bool false, .slice none 0 0, .slice none 0 0] 83)) w41.heap.size #[.int .i64 0, .slice none 0 0, .slice none 0 0, .bool false, .slice none 0 0, .slice none 0 0] 83:=Bx.new w41 _ _;have hAs:(w41.alloc (.cells #[.int .i64 0, .slice none 0 0, .slice none 0 0, .bool false, .slice none 0 0, .slice none 0 0] 83)).heap.size=w41.heap.size+1:=by simp
     go_simp
     skip
     refine hK.out _ _ (hS.out _ (R1.trans EA)) (fun hHeld=>?_);clear hK K
     (try simp only[Act.put,List.setIfInBounds_toArray,List.set_cons_zero,List.set_cons_succ])
     obtain⟨wA,hwA⟩:∃wA,w41.alloc (.cells #[.int .i64 0, .slice none 0 0, .slice none 0 0, .bool false, .slice none 0 0, .slice none 0 0] 83)=wA:=⟨_,rfl⟩;have tA:Ext w3.drew wA:=by rw[<-hwA];exact R1.trans EA
     have prA:=QC.mono _ _ _ _ (a1P EA (Nat.le_refl _)) g1;rw[hwA]at EA bA hAs prA |-;obtain⟨gA,hgA⟩:∃gA,w41.heap.size=gA:=⟨_,rfl⟩;have hvg:w3.heap.size<=gA:=by rw[<-hgA];exact R1.size
     have hvgd:w3.drew.heap.size<=gA:=by have h9:w3.drew.heap.size=w3.heap.size:=rfl;rw[h9];exact hvg
     rw[hgA]at bA hAs prA |-;have glwA:gA<wA.heap.size:=by omega
     have xA2:=a1I (hX0.ext tA) glwA;refine a0e (i:=11) (o:=⟨_,_,_,_,_,_⟩) (by kernel_rfl) rfl (fun K hK=>?_);go_simp
     (go_at_call 146;(with_reducible refine(hc2.out (un Z0 (some ⟨gA,0,none⟩)) wA xA2 (a1P tA hvgd) _ prA).mono ?_);rintro ee v2 ⟨q2,u2,rfl,h2⟩)
     refine hK.out _ _ (hS.out v2 (tA.trans q2)) (fun hHeld=>?_);clear hK K
     (try simp only[Act.put,List.setIfInBounds_toArray,List.set_cons_zero,List.set_cons_succ])
     have T2:=tA.trans q2;have b2:=bA.ext0 q2;have glv2:gA<v2.heap.size:=Nat.lt_of_lt_of_le glwA q2.size;obtain⟨sd,ad,nd,cd,dd,kd,ed,rfl⟩:=h2.shape;refine a0a hOnce (i:=12) (oi:=⟨_,_,_,_,_,_⟩) (v:=?_) rfl (by kernel_rfl) (fun _ _ _ h=>h) (by assumption) (by rfl) (fun w hSw=>?_) ?_
     rotate_left
     ·(try dsimp only at hSw)
      go_simp
      all_goals with_reducible rfl
     (try simp only[Act.put,List.setIfInBounds_toArray,List.set_cons_zero,List.set_cons_succ])
     refine a0n (i:=14) (o:=⟨_,_,_,_,_,_⟩) (by kernel_rfl) rfl (by decide) (by kernel_rfl) (fun K hK=>?_)
     (refine a0N rfl rfl a3l rfl rfl b2 rfl rfl (by intro v hv;simp at hv;rcases hv with rfl|rfl|rfl|rfl|rfl|rfl<;>rfl) ?_;intro w9 y1 y2)
     refine hK.out _ _ ?_;clear hK K
     (try simp only[Act.put])
     have hQ9:=QC.mono _ _ _ _ (a0W y2 fun k hk=>a0s hk) h2;have hE9:Ext w3 w9:=ExtX.box (hE0.trans T2) y2 hvg;have hlt9:=Nat.lt_of_lt_of_le glv2 y2.size;rw[hNs.out]at y1;go_wp2_with fail
     go_meet
     case rel=>exact⟨gA,sd,ad,nd,cd,dd,kd,ed,rfl,y1,hQ9,hvg,hlt9,hE9⟩
   ·skip
    have EA:Ext w40 (w40.alloc (.cells #[.int .i64 0, .slice none 0 0, .slice none 0 0, .bool false, .slice none 0 0, .slice none 0 0] 83)):=(ExtX.refl _).alloc _;have bA:Bx (w40.alloc (.cells #[.int .i64 0, .slice none 0 0, .slice none 0 0, .bool false, .slice none 0 0, .slice none 0 0] 83)) w40.heap.size #[.int .i64 0, .slice none 0 0, .slice none 0 0, .bool false, .slice none 0 0, .slice none 0 0] 83:=Bx.new w40 _ _;have hAs:(w40.alloc (.cells #[.int .i64 0, .slice none 0 0, .slice none 0 0, .bool false, .slice none 0 0, .slice none 0 0] 83)).heap.size=w40.heap.size+1:=by simp
    go_simp
    skip
    refine hK.out _ _ (hS.out _ (R0.trans EA)) (fun hHeld=>?_);clear hK K
    (try simp only[Act.put,List.setIfInBounds_toArray,List.set_cons_zero,List.set_cons_succ])
    obtain⟨wA,hwA⟩:∃wA,w40.alloc (.cells #[.int .i64 0, .slice none 0 0, .slice none 0 0, .bool false, .slice none 0 0, .slice none 0 0] 83)=wA:=⟨_,rfl⟩;have tA:Ext w3.drew wA:=by rw[<-hwA];exact R0.trans EA
    have prA:=QC.mono _ _ _ _ (a1P EA (Nat.le_refl _)) g0;rw[hwA]at EA bA hAs prA |-;obtain⟨gA,hgA⟩:∃gA,w40.heap.size=gA:=⟨_,rfl⟩;have hvg:w3.heap.size<=gA:=by rw[<-hgA];exact R0.size
    have hvgd:w3.drew.heap.size<=gA:=by have h9:w3.drew.heap.size=w3.heap.size:=rfl;rw[h9];exact hvg
    rw[hgA]at bA hAs prA |-;have glwA:gA<wA.heap.size:=by omega
    have xA1:=a1I (hX0.ext tA) glwA;refine a0e (i:=10) (o:=⟨_,_,_,_,_,_⟩) (by kernel_rfl) rfl (fun K hK=>?_);go_simp
    (go_at_call 147;(with_reducible refine(hc1.out (un Z0 (some ⟨gA,0,none⟩)) wA xA1 (a1P tA hvgd) _ prA).mono ?_);rintro ee v1 ⟨q1,u1,rfl,h1⟩)
    refine hK.out _ _ (hS.out v1 (tA.trans q1)) (fun hHeld=>?_);clear hK K
    (try simp only[Act.put,List.setIfInBounds_toArray,List.set_cons_zero,List.set_cons_succ])
    have T1:=tA.trans q1;have b1:=bA.ext0 q1;have glv1:gA<v1.heap.size:=Nat.lt_of_lt_of_le glwA q1.size;have xA2:=a1I (hX0.ext T1) glv1;refine a0e (i:=11) (o:=⟨_,_,_,_,_,_⟩) (by kernel_rfl) rfl (fun K hK=>?_);go_simp
    (go_at_call 146;(with_reducible refine(hc2.out (un Z0 (some ⟨gA,0,none⟩)) v1 xA2 (a1P T1 hvgd) _ h1).mono ?_);rintro ee v2 ⟨q2,u2,rfl,h2⟩)
    refine hK.out _ _ (hS.out v2 (T1.trans q2)) (fun hHeld=>?_);clear hK K
    (try simp only[Act.put,List.setIfInBounds_toArray,List.set_cons_zero,List.set_cons_succ])
    have T2:=T1.trans q2;have b2:=b1.ext0 q2;have glv2:gA<v2.heap.size:=Nat.lt_of_lt_of_le glv1 q2.size;obtain⟨sd,ad,nd,cd,dd,kd,ed,rfl⟩:=h2.shape;refine a0a hOnce (i:=12) (oi:=⟨_,_,_,_,_,_⟩) (v:=?_) rfl (by kernel_rfl) (fun _ _ _ h=>h) (by assumption) (by rfl) (fun w hSw=>?_) ?_
    rotate_left
    ·(try dsimp only at hSw)
     go_simp
     all_goals with_reducible rfl
    (try simp only[Act.put,List.setIfInBounds_toArray,List.set_cons_zero,List.set_cons_succ])
    refine a0n (i:=14) (o:=⟨_,_,_,_,_,_⟩) (by kernel_rfl) rfl (by decide) (by kernel_rfl) (fun K hK=>?_)
    (refine a0N rfl rfl a3l rfl rfl b2 rfl rfl (by intro v hv;simp at hv;rcases hv with rfl|rfl|rfl|rfl|rfl|rfl<;>rfl) ?_;intro w9 y1 y2)
    refine hK.out _ _ ?_;clear hK K
    (try simp only[Act.put])
    have hQ9:=QC.mono _ _ _ _ (a0W y2 fun k hk=>a0s hk) h2;have hE9:Ext w3 w9:=ExtX.box (hE0.trans T2) y2 hvg;have hlt9:=Nat.lt_of_lt_of_le glv2 y2.size;rw[hNs.out]at y1;go_wp2_with fail
    go_meet
    case rel=>exact⟨gA,sd,ad,nd,cd,dd,kd,ed,rfl,y1,hQ9,hvg,hlt9,hE9⟩
  ·skip
   have EA:Ext w3.drew (w3.alloc (.cells #[.int .i64 0, .slice none 0 0, .slice none 0 0, .bool false, .slice none 0 0, .slice none 0 0] 83)).drew:=⟨rfl,rfl,rfl,((ExtX.refl (Y:=noY) w3).alloc _).size,((ExtX.refl (Y:=noY) w3).alloc _).block⟩;have bA:Bx (w3.alloc (.cells #[.int .i64 0, .slice none 0 0, .slice none 0 0, .bool false, .slice none 0 0, .slice none 0 0] 83)).drew w3.heap.size #[.int .i64 0, .slice none 0 0, .slice none 0 0, .bool false, .slice none 0 0, .slice none 0 0] 83:=Bx.new w3 _ _;have hAs:(w3.alloc (.cells #[.int .i64 0, .slice none 0 0, .slice none 0 0, .bool false, .slice none 0 0, .slice none 0 0] 83)).drew.heap.size=w3.heap.size+1:=by show(w3.alloc _).heap.size=_;simp
   go_simp
   skip
   refine hK.out _ _ (hS.out _ ((ExtX.refl (Y:=noY) w3.drew).trans EA)) (fun hHeld=>?_);clear hK K
   (try simp only[Act.put,List.setIfInBounds_toArray,List.set_cons_zero,List.set_cons_succ])
   obtain⟨wA,hwA⟩:∃wA,(w3.alloc (.cells #[.int .i64 0, .slice none 0 0, .slice none 0 0, .bool false, .slice none 0 0, .slice none 0 0] 83)).drew=wA:=⟨_,rfl⟩;have tA:Ext w3.drew wA:=by rw[<-hwA];exact EA
   rw[hwA]at EA bA hAs |-;obtain⟨gA,hgA⟩:∃gA,w3.heap.size=gA:=⟨_,rfl⟩;have hvg:w3.heap.size<=gA:=by rw[<-hgA];exact Nat.le_refl _
   have hvgd:w3.drew.heap.size<=gA:=by have h9:w3.drew.heap.size=w3.heap.size:=rfl;rw[h9];exact hvg
   rw[hgA]at bA hAs |-;have glwA:gA<wA.heap.size:=by omega
   have xA0:=a1I (hX0.ext tA) glwA;refine a0e (i:=9) (o:=⟨_,_,_,_,_,_⟩) (by kernel_rfl) rfl (fun K hK=>?_);go_simp
   (go_at_call 147;(with_reducible refine(hc0.out (un Z0 (some ⟨gA,0,none⟩)) wA xA0 (a1P tA hvgd)).mono ?_);rintro ee v0 ⟨q0,u0,rfl,h0⟩)
   refine hK.out _ _ (hS.out v0 (tA.trans q0)) (fun hHeld=>?_);clear hK K
   (try simp only[Act.put,List.setIfInBounds_toArray,List.set_cons_zero,List.set_cons_succ])
   have T0:=tA.trans q0;have b0:=bA.ext0 q0;have glv0:gA<v0.heap.size:=Nat.lt_of_lt_of_le glwA q0.size;have xA1:=a1I (hX0.ext T0) glv0;refine a0e (i:=10) (o:=⟨_,_,_,_,_,_⟩) (by kernel_rfl) rfl (fun K hK=>?_);go_simp
   (go_at_call 147;(with_reducible refine(hc1.out (un Z0 (some ⟨gA,0,none⟩)) v0 xA1 (a1P T0 hvgd) _ h0).mono ?_);rintro ee v1 ⟨q1,u1,rfl,h1⟩)
   refine hK.out _ _ (hS.out v1 (T0.trans q1)) (fun hHeld=>?_);clear hK K
   (try simp only[Act.put,List.setIfInBounds_toArray,List.set_cons_zero,List.set_cons_succ])
   have T1:=T0.trans q1;have b1:=b0.ext0 q1;have glv1:gA<v1.heap.size:=Nat.lt_of_lt_of_le glv0 q1.size;have xA2:=a1I (hX0.ext T1) glv1;refine a0e (i:=11) (o:=⟨_,_,_,_,_,_⟩) (by kernel_rfl) rfl (fun K hK=>?_);go_simp
   (go_at_call 146;(with_reducible refine(hc2.out (un Z0 (some ⟨gA,0,none⟩)) v1 xA2 (a1P T1 hvgd) _ h1).mono ?_);rintro ee v2 ⟨q2,u2,rfl,h2⟩)
   refine hK.out _ _ (hS.out v2 (T1.trans q2)) (fun hHeld=>?_);clear hK K
   (try simp only[Act.put,List.setIfInBounds_toArray,List.set_cons_zero,List.set_cons_succ])
   have T2:=T1.trans q2;have b2:=b1.ext0 q2;have glv2:gA<v2.heap.size:=Nat.lt_of_lt_of_le glv1 q2.size;obtain⟨sd,ad,nd,cd,dd,kd,ed,rfl⟩:=h2.shape;refine a0a hOnce (i:=12) (oi:=⟨_,_,_,_,_,_⟩) (v:=?_) rfl (by kernel_rfl) (fun _ _ _ h=>h) (by assumption) (by rfl) (fun w hSw=>?_) ?_
   rotate_left
   ·(try dsimp only at hSw)
    go_simp
    all_goals with_reducible rfl
   (try simp only[Act.put,List.setIfInBounds_toArray,List.set_cons_zero,List.set_cons_succ])
   refine a0n (i:=14) (o:=⟨_,_,_,_,_,_⟩) (by kernel_rfl) rfl (by decide) (by kernel_rfl) (fun K hK=>?_)
   (refine a0N rfl rfl a3l rfl rfl b2 rfl rfl (by intro v hv;simp at hv;rcases hv with rfl|rfl|rfl|rfl|rfl|rfl<;>rfl) ?_;intro w9 y1 y2)
   refine hK.out _ _ ?_;clear hK K
   (try simp only[Act.put])
   have hQ9:=QC.mono _ _ _ _ (a0W y2 fun k hk=>a0s hk) h2;have hE9:Ext w3 w9:=ExtX.box (hE0.trans T2) y2 hvg;have hlt9:=Nat.lt_of_lt_of_le glv2 y2.size;rw[hNs.out]at y1;go_wp2_with fail
   go_meet
   case rel=>exact⟨gA,sd,ad,nd,cd,dd,kd,ed,rfl,y1,hQ9,hvg,hlt9,hE9⟩
 case rest=>
  obtain⟨g,sd,ad,nd,cd,dd,kd,ed,rfl,bg,hQ,hge,hglt,hEc⟩:=hcut;clear hc0 hc1 hc2 hS hwr hE0 hX0;obtain⟨Z1,hZ1⟩:∃Z1,un Z0 (some ⟨g,0,none⟩)=Z1:=⟨_,rfl⟩;have hgZ:∀k,ob (some ⟨g,0,none⟩) k=true->Z1 k=true:=fun k hk=>by rw[<-hZ1];exact a0s hk
  have hgg:Z1 g=true:=hgZ g (by simp[ob]);have hZ10:Hid (∀k,k<w3.heap.size->Z1 k=true->Z0 k=true):=hid fun k hk h=>by
   rw[<-hZ1]at h;by_cases h0:Z0 k=true
   ·exact h0
   ·have:g=k:=by simpa[un,h0,ob]using h
    omega
  have hXZ:Hid (∀k,X k=true->Z1 k=true):=hid fun k hk=>by
   rw[<-hZ1,<-hZ0];exact a0q (by simp[a0g,hk])
  have hb3:Hid (∀k,ob (some ⟨b+1+1,0,none⟩) k=true->Z1 k=true):=hid fun k hk=>by
   have hk2:b+1+1=k:=by simpa[ob]using hk
   rw[<-hZ1,<-hZ0];exact a0q (a6y (by omega) (by omega))
  have hX1:HX Z1 wc:=fun k hk=>by
   rw[<-hZ1]at hk;by_cases h0:Z0 k=true
   ·exact hX3.ext hEc k h0
   ·have:g=k:=by simpa[un,h0,ob]using hk
    omega
  rw[hZ1]at hQ;obtain⟨ro,rc,rfl,hrc,hrs⟩:=hrv;obtain⟨xo',xc',he,hxc,hxs⟩:=hxv;simp only[Value.slice.injEq]at he;obtain⟨rfl,rfl,rfl⟩:=he;obtain⟨yo',yc',he,hyc,hys⟩:=hyv;simp only[Value.slice.injEq]at he;obtain⟨rfl,rfl,rfl⟩:=he;have hhr:=hrs.hd;have hhx:=hxs.hd;have hhy:=hys.hd;have hrl':=hid hrl;have hxl':=hid hsx.1;have hxr':=hid hsx.2;have hyl':=hid hsy;rw[hrl]at hhr hrc |-;rw[hsx.1]at hhx hxc m3 |-;rw[hsy]at hhy hyc m3 |-;obtain⟨XD,hXD⟩:∃XD,(shM m row v sg).xx=XD:=⟨_,rfl⟩;obtain⟨YD,hYD⟩:∃YD,(shM m row v sg).xy=YD:=⟨_,rfl⟩;have hXl:Hid (XD.length=n):=hid (by rw[<-hXD];show(ofF row.length row.length _).length=n;rw[hrl];exact(b0t _ _ _).1);have hYl:Hid (YD.length=n):=hid (by rw[<-hYD];simp[shM,hrl]);have hXr:Hid (∀j (h:j<XD.length),XD[j]=(List.range n).map fun k=>ent m.xx j k+(sg:Rat)*fn row j*fn row k):=hid fun j h=>by subst hXD;simp[shM,ofF,hrl]
  have hYi:Hid (∀j (h:j<YD.length),YD[j]=fn m.xy j+(sg:Rat)*fn row j*v):=hid fun j h=>by subst hYD;simp[shM]
  have hfin:Hid (∀w' (s0:Bool) (a0:Option Addr) (k0 c0:Nat) (d0:Option Addr) (p0 e0:Nat) xo2 xc2 yo2 yc2,Ext w w'->MC (mk X w') (.slice xo2 n xc2) XD->RC (mk X w') (.slice yo2 n yc2) YD->QC (mk X w') (.agg #[.bool s0, .slice a0 k0 c0, .slice d0 p0 e0]) D->F (.returned (.agg #[.int .i64 N', .slice xo2 n xc2, .slice yo2 n yc2, .bool s0, .slice a0 k0 c0, .slice d0 p0 e0])) w'):=hid fun w' s0 a0 k0 c0 d0 p0 e0 xo2 xc2 yo2 yc2 h1 h2 h3 h4=>by
   rw[<-hF'.out];refine⟨h1,_,rfl,xo2,n,xc2,yo2,n,yc2,s0,a0,k0,c0,d0,p0,e0,?_,by rw[hXD];exact h2,by rw[hYD];exact h3,?_⟩
   ·show _=Value.agg #[.int .i64 (m.n+sg),_,_,_,_,_]
    rw[hNe.out]
   ·show QC _ _ (m.yy+(sg:Rat)*(v*v))
    rw[hDe.out];exact h4
  have hent:Hid (∀j k (hj:j<m.xx.length) (hk:k<m.xx[j].length),ent m.xx j k=m.xx[j][k]):=hid fun j k hj hk=>(b6t hj hk).symm;have hfr:Hid (∀j (h:j<row.length),fn row j=row[j]):=hid fun j h=>by simp[fn,List.getD_eq_getElem?_getD,h]
  have hfy:Hid (∀j (h:j<m.xy.length),fn m.xy j=m.xy[j]):=hid fun j h=>by simp[fn,List.getD_eq_getElem?_getD,h]
  have hbr:Hid (∀j (h:j<row.length),hq row[j]<=B):=hid fun j h=>hBr _ (List.getElem_mem _);clear hXD hYD hF' hZ1 hsx hsy hrl _hBm hBr hDe hNe hZ0;have hrow0:∀Z wr,Ext w3 wr->(∀k,k<w3.heap.size->Z k=true->Z1 k=true)->Le (mk Z0 w3) (mk Z wr):=fun Z wr h h1=>b6m h fun k hk hz=>hZ10.out k hk (h1 k hk hz);have hrow:=hid hrow0;clear hrow0;go_wp2_with fail
  go_loopw [34] (fun q wr=>∃(j:Nat) (xo2:Option Addr) (xc2:Nat) (yo2:Option Addr) (yc2:Nat),q= .int .i64 j/\j<=n/\Bx wr g #[.int .i64 N', .slice xo2 j xc2, .slice yo2 j yc2, .bool sd, .slice ad nd cd, .slice dd kd ed] 83/\OL RC 1 (un Z1 yo2) w3.heap.size 45 wr xo2 xc2 (XD.take j)/\OL QC 3 (un Z1 xo2) w3.heap.size 32 wr yo2 yc2 (YD.take j)/\QC (mk (un (un Z1 xo2) yo2) wr) (.agg #[.bool sd, .slice ad nd cd, .slice dd kd ed]) D/\HX Z1 wr/\Ext w3 wr) (fun q _=>n - (intOf q).toNat)
  case atStart=>exact⟨0,none,0,none,0,rfl,Nat.zero_le _,bg,OL.nil _ _ _ _ _ _,OL.nil _ _ _ _ _ _,by rw[a6J,a6J];exact hQ,hX1,hEc⟩
  case round=>
   clear hQ hX1 bg hEc;obtain⟨j,xo2,xc2,yo2,yc2,rfl,hj,bg,hOX,hOY,hQ,hXr1,hEr⟩:=hrel;by_cases hlt:j<n
   ·have hjr:j<row.length:=by rw[hrl'.out];exact hlt
    have hjx:j<m.xx.length:=by rw[hxl'.out];exact hlt
    have hjy:j<m.xy.length:=by rw[hyl'.out];exact hlt
    have hjX:j<XD.length:=by rw[hXl.out];exact hlt
    have hjY:j<YD.length:=by rw[hYl.out];exact hlt
    have htX:=hid (a1r XD j hjX);have htY:=hid (a1r YD j hjY);have hlX:=hid (a1H (l:=XD) (i:=j) (by omega));have hlY:=hid (a1H (l:=YD) (i:=j) (by omega));have hXj:=hXr.out j hjX;have hYj:=hYi.out j hjY;rw[hfr.out j hjr]at hXj;rw[hfr.out j hjr,hfy.out j hjy]at hYj;have hobX:∀k,k<w3.heap.size->ob xo2 k=false:=fun k hk=>hOX.ob_lt hk;have hobY:∀k,k<w3.heap.size->ob yo2 k=false:=fun k hk=>hOY.ob_lt hk;obtain⟨ZJ,hZJ⟩:∃ZJ,un (un Z1 xo2) yo2=ZJ:=⟨_,rfl⟩;have hXJ:HX ZJ wr:=by rw[<-hZJ];exact a1M (a1M hXr1 fun k hk=>(hOX.block hk).2) fun k hk=>(hOY.block hk).2
    have hsub3:∀k,k<w3.heap.size->ZJ k=true->Z1 k=true:=fun k hk hz=>by
     rw[<-hZJ]at hz;have e1:=hobX k hk;have e2:=hobY k hk;cases h0:Z1 k
     ·simp[un,h0,e1,e2]at hz
     ·rfl
    have hl3:=hrow.out ZJ wr hEr hsub3;have hrsj:=hrs.mono QV.mono hl3;have hsJ:=QV.mono _ _ _ _ hl3 hsv;have bx:=Bx.new wr #[.bool false, .slice none 0 0, .slice none 0 0] 32;have hf3:=y1.ext0 hEr;have hrq:=hid (hbr.out j hjr);obtain⟨rj,hrj⟩:∃rj,row[j]=rj:=⟨_,rfl⟩;have hrj':=hid hrj;rw[hrj]at hXj hYj hrq;clear hrj;go_wp2_with (first|(with_reducible refine a2B a0B (by omega) (by assumption) ?_)|((with_reducible show wpList _ _ _ (⟨_, .load 32 _,_,_,_,_⟩::_) _ _);refine a1n a0v j hrsj hjr rfl (by simp) QV.agg ?_;intro u5 hu5;rw[hrj'.out]at hu5;obtain⟨s5,a5,n5,c5,d5,m5,e5,rfl⟩:=hu5.shape)|((with_reducible show wpList _ _ _ (⟨_, .store 32 _ _,_,_,_,_⟩::_) _ _);refine a0c a0v rfl rfl bx rfl rfl (a3f _ _ _ _ _ _ _) ?_;intro w5 z1 z2;have hE5:Ext wr w5:=ExtX.box ((ExtX.refl wr).alloc _) z2 (Nat.le_refl _);have k10:=z1.cell 0 rfl;have k11:=z1.cell 1 rfl;have k12:=z1.cell 2 rfl;have hf5:=hf3.ext0 hE5;have k20:=hf5.cell 0 rfl;have k21:=hf5.cell 1 rfl;have k22:=hf5.cell 2 rfl;have hu6:=mkx QV.mono hu5 hE5;have hs6:=mkx QV.mono hsJ hE5))
    refine(b3J ZJ w5 _ _ _ _ (hXJ.ext hE5) hs6 hu6).mono ?_;rintro ee w6 ⟨hE6,u7,rfl,hu7⟩;obtain⟨s7,a7,n7,c7,d7,k7,e7,rfl⟩:=hu7.shape;have bx2:=Bx.new w6 #[.bool false, .slice none 0 0, .slice none 0 0] 32;clear k10 k11 k12 k20 k21 k22;go_wp2_with ((with_reducible show wpList _ _ _ (⟨_, .store 32 _ _,_,_,_,_⟩::_) _ _);refine a0c a0v rfl rfl bx2 rfl rfl (a3f _ _ _ _ _ _ _) ?_;intro wj x1 x2)
    have hE6j:Ext w6 wj:=ExtX.box ((ExtX.refl w6).alloc _) x2 (Nat.le_refl _);have hEj:Ext wr wj:=(hE5.trans hE6).trans hE6j;have hwv:=mkx QC.mono hu7 hE6j;have hXwj:HX ZJ wj:=hXJ.ext hEj;have hE3j:=hEr.trans hEj;have hwq:Hid (hq ((sg:Rat)*rj)<=1000001):=hid (Nat.le_trans (hq_mul _ _) (by have:=hrq.out;omega));obtain⟨jb,hjb⟩:∃jb,w6.heap.size=jb:=⟨_,rfl⟩;rw[hjb]at x1 |-;obtain⟨SW,hSW⟩:∃SW,(sg:Rat)*rj=SW:=⟨_,rfl⟩;rw[hSW]at hwv hwq hXj hYj;obtain⟨LJ,hLJ⟩:∃LJ,XD[j]=LJ:=⟨_,rfl⟩;rw[hLJ]at hXj htX;have hLl:Hid (LJ.length=n):=hid (by rw[hXj];simp);have hLi:Hid (∀k (h:k<LJ.length),LJ[k]=ent m.xx j k+SW*fn row k):=hid fun k h=>by subst hXj;simp
    obtain⟨rxo,rxc,_,hcx,hclx,hqx⟩:=hxs.row j hjx;have hxrl:=hid (hxr'.out m.xx[j] (List.getElem_mem _));rw[hxrl.out]at hcx hclx;have hhrx:Hd rxo n:=by have:=hqx.hd;rw[hxrl.out]at this;exact this
    have hbg0:=bg.ext0 hEj;have hX0j:=hOX.ext0 RC.elem hEj;have hY0j:=hOY.ext0 QC.elem hEj;have hQj:=mkx QC.mono hQ hEj;have hX1j:HX Z1 wj:=hXr1.ext hEj;have hobj:ob xo2 jb=false:=by
     cases hc:ob xo2 jb
     ·rfl
     ·have:=(hOX.block hc).2;have:=(hE5.trans hE6).size;omega
    have hoyj:ob yo2 jb=false:=by
     cases hc:ob yo2 jb
     ·rfl
     ·have:=(hOY.block hc).2;have:=(hE5.trans hE6).size;omega
    have hgj:g≠jb:=by have h9:g<wr.heap.size:=a1A (bg.cell 0 rfl);have:=(hE5.trans hE6).size;omega
    clear hXj hLJ hSW hjb hu7 bx bx2 x2 z1 z2 hf3 hf5 hs6 hu6 hu5 hE5 hE6 hE6j hrsj hsJ hl3 hOX hOY hQ bg;go_wp2_with fail
    go_loopw [14,44] (fun l q wr=>∃(k:Nat) (lo:Option Addr) (lc:Nat),q= .int .i64 k/\l= .slice lo k lc/\k<=n/\OL QC 3 ZJ wj.heap.size 32 wr lo lc (LJ.take k)/\Ext wj wr) (fun _ q _=>n - (intOf q).toNat)
    case atStart=>exact⟨0,none,0,rfl,rfl,Nat.zero_le _,OL.nil _ _ _ _ _ _,ExtX.refl _⟩
    case round=>
     obtain⟨k,lo,lc,rfl,rfl,hk,hL,hEk⟩:=hrel;have hXk:HX ZJ wr:=hXwj.ext hEk;have hbk:=hEk.size;by_cases hlk:k<n
     ·have hkr:k<row.length:=by rw[hrl'.out];exact hlk
      have hkx:k<m.xx[j].length:=by rw[hxrl.out];exact hlk
      have hkL:k<LJ.length:=by rw[hLl.out];exact hlk
      have htk:=hid (a1r LJ k hkL);have hlk2:=hid (a1H (l:=LJ) (i:=k) (by omega));have hLk:=hLi.out k hkL;rw[hfr.out k hkr,hent.out j k hjx hkx]at hLk;have hE3k:=hE3j.trans hEk;have hobL:∀q,q<wj.heap.size->ob lo q=false:=fun q hq=>hL.ob_lt hq;obtain⟨ZK,hZK⟩:∃ZK,un ZJ lo=ZK:=⟨_,rfl⟩;have hXK:HX ZK wr:=by rw[<-hZK];exact hL.unX hXk
      have hsubK:∀q,q<w3.heap.size->ZK q=true->Z1 q=true:=fun q hq hz=>by
       rw[<-hZK]at hz;have e1:=hobL q (Nat.lt_of_lt_of_le hq hE3j.size);refine hsub3 q hq ?_;cases h0:ZJ q
       ·simp[un,h0,e1]at hz
       ·rfl
      have hlK:=hrow.out ZK wr hE3k hsubK;have hrsk:=hrs.mono QV.mono hlK;have hwk:QC (mk ZK wr) (.agg #[.bool s7, .slice a7 n7 c7, .slice d7 k7 e7]) SW:=by rw[<-hZK];exact a4W (w:=wj) QC.mono hwv hEk hobL
      have hqk:=hqx.mono QV.mono hlK;obtain⟨gx,ox,sx,px,nx,qx,dx,kx,ex,hgx,hXx,hcxx,hqxx⟩:=hqk.rat QV.shaped k hkx;have bx:=Bx.new wr #[.bool false, .slice none 0 0, .slice none 0 0] 32;have hrqk:=hid (hbr.out k hkr);obtain⟨rk,hrk⟩:∃rk,row[k]=rk:=⟨_,rfl⟩;obtain⟨xk,hxk⟩:∃xk,m.xx[j][k]=xk:=⟨_,rfl⟩;obtain⟨lk,hlk3⟩:∃lk,LJ[k]=lk:=⟨_,rfl⟩;have hrk':=hid hrk;rw[hrk]at hLk hrqk;rw[hxk]at hLk hqxx;rw[hlk3]at hLk htk;have hLk':=hid hLk;have hx1:=x1.ext0 hEk;have hm3:=m3.ext0 hE3k;have hcell:=hcx.out noY wr hE3k rfl;have hwrk:Hid (hq (SW*rk)<=68719476736):=hid (Nat.le_trans (hq_mul _ _) (by have:=hwq.out;have:=hrqk.out;omega));clear hrk hxk hlk3 hLk;go_wp2_with (first|(with_reducible refine a2B a0B (by omega) (by assumption) ?_)|((with_reducible show wpList _ _ _ (⟨_, .load 32 _,_,_,_,_⟩::_) _ _);refine a1n a0v k hrsk hkr rfl (by simp) QV.agg ?_;intro u5 hu5;rw[hrk'.out]at hu5;obtain⟨s5,a5,n5,c5,d5,m5,e5,rfl⟩:=hu5.shape)|((with_reducible show wpList _ _ _ (⟨_, .store 32 _ _,_,_,_,_⟩::_) _ _);refine a0c a0v rfl rfl bx rfl rfl (a3f _ _ _ _ _ _ _) ?_;intro w5 z1 z2;have hE5:Ext wr w5:=ExtX.box ((ExtX.refl wr).alloc _) z2 (Nat.le_refl _)))
      have hEd:Ext wr w5.drew:=hE5.drew;have hXd:HX ZK w5.drew:=hXK.ext hEd;have hwd:=(mkx QC.mono hwk hEd).qv (Nat.le_trans hwq.out (by decide));have hud:=mkx QV.mono hu5 hEd;have hxd:=mkx QV.mono hqxx hEd;have hLd:=hL.ext0 QC.elem hEd;have hXJd:HX ZJ w5.drew:=hXk.ext hEd;obtain⟨b16,hb16⟩:∃b16,wr.heap.size=b16:=⟨_,rfl⟩;rw[hb16]at z1 |-;have o1:ob lo (adr xo j).block=false:=hobL _ (Nat.lt_of_lt_of_le (a1A (hcx.out noY w3 (ExtX.refl _) rfl)) hE3j.size);have o2:ob lo gx=false:=by rw[<-hZK]at hXx;exact(a1p hXx).2
      have o3:ob lo jb=false:=hobL _ (a1A (x1.cell 0 rfl));have o4:ob lo b16=false:=by
       cases hc:ob lo b16
       ·rfl
       ·have:=(hL.block hc).2;omega
      have o5:ob lo b=false:=hobL _ (Nat.lt_of_lt_of_le (a1A (m3.cell 0 rfl)) hE3j.size);have hS:Hid (∀Y W',ExtX Y w5.drew W'->Y b=false->Y (adr xo j).block=false->Y gx=false->Y jb=false->Y b16=false->W'.cell? ⟨b,1,none⟩=some (.slice xo n xc)/\W'.cell? (adr xo j)=some (.slice rxo n rxc)/\(W'.cell? ⟨gx,ox,none⟩=some (.bool sx)/\W'.cell? ⟨gx,ox+1,none⟩=some (.slice px nx qx)/\W'.cell? ⟨gx,ox+2,none⟩=some (.slice dx kx ex))/\(W'.cell? ⟨jb,0,none⟩=some (.bool s7)/\W'.cell? ⟨jb,0+1,none⟩=some (.slice a7 n7 c7)/\W'.cell? ⟨jb,0+2,none⟩=some (.slice d7 k7 e7))/\(W'.cell? ⟨b16,0,none⟩=some (.bool s5)/\W'.cell? ⟨b16,0+1,none⟩=some (.slice a5 n5 c5)/\W'.cell? ⟨b16,0+2,none⟩=some (.slice d5 m5 e5))):=hid fun Y W' h h1 h2 h3 h4 h5=>by
       have q1:=(hm3.ext0 hEd).ext h h1;have q3:=(hx1.ext0 hEd).ext h h4;have q4:=(z1.ext0 (ExtX.refl w5).drew).ext h h5;exact⟨q1.cell 1 rfl,hcx.out Y W' ((ExtX.of (hE3k.trans hEd)).trans h) h2,hcxx.out Y W' ((ExtX.of hEd).trans h) h3,⟨q3.cell 0 rfl,q3.cell 1 rfl,q3.cell 2 rfl⟩,⟨q4.cell 0 rfl,q4.cell 1 rfl,q4.cell 2 rfl⟩⟩
      obtain⟨f00,f01,⟨f02,f03,f04⟩,⟨f05,f06,f07⟩,⟨f08,f09,f10⟩⟩:=hS.out noY w5.drew (ExtX.refl _) rfl rfl rfl rfl rfl;have i1:∀W,(Instr.indexAt 25 (.slice xo n xc) (.int .i64 (j:Int))).run Tryz.prog W= .ok (.pointer (some (adr xo j))) W:=a0w a0r xo n xc .i64 j hhx (by omega) rfl;have i2:∀W,(Instr.indexAt 45 (.slice rxo n rxc) (.int .i64 (k:Int))).run Tryz.prog W= .ok (.pointer (some ⟨gx,ox,none⟩)) W:=by rw[<-hgx];exact a0j a0B rxo n rxc .i64 k hhrx (by omega)
      clear hcell hgx hu5 z2 hwk hqxx hqk hrsk bx;go_region_held3 (fun w'=>w'.cell? ⟨b,1,none⟩=some (.slice xo n xc)/\w'.cell? (adr xo j)=some (.slice rxo n rxc)/\(w'.cell? ⟨gx,ox,none⟩=some (.bool sx)/\w'.cell? ⟨gx,ox+1,none⟩=some (.slice px nx qx)/\w'.cell? ⟨gx,ox+2,none⟩=some (.slice dx kx ex))/\(w'.cell? ⟨jb,0,none⟩=some (.bool s7)/\w'.cell? ⟨jb,0+1,none⟩=some (.slice a7 n7 c7)/\w'.cell? ⟨jb,0+2,none⟩=some (.slice d7 k7 e7))/\(w'.cell? ⟨b16,0,none⟩=some (.bool s5)/\w'.cell? ⟨b16,0+1,none⟩=some (.slice a5 n5 c5)/\w'.cell? ⟨b16,0+2,none⟩=some (.slice d5 m5 e5)))
       (first|exact hS.out noY _ t1 rfl rfl rfl rfl rfl|exact hS.out noY _ t2 rfl rfl rfl rfl rfl|exact hS.out noY _ (ExtX.alloc t2 _) rfl rfl rfl rfl rfl|exact hS.out (ob lo) _ ((ExtX.of t2).trans hE7) o5 o1 o2 o3 o4|go_keep)
       (first|(go_at_call 147;(with_reducible refine(b3J ZK w5.drew _ _ _ _ hXd hwd hud).mono ?_);rintro ee w6 ⟨t1,u6,rfl,hu6⟩;have hX6:=HX.ext hXd t1;have hx6:=mkx QV.mono hxd t1;have hu6v:=hu6.qv hwrk.out)|(go_at_call 146;(with_reducible refine(b3I ZK w6 _ _ _ _ hX6 hx6 hu6v).mono ?_);rintro ee w8 ⟨t7,u8,rfl,hu8⟩;have t2:=t1.trans t7;obtain⟨s8,a8,n8,c8,d8,k8,e8,rfl⟩:=hu8.shape;rw[<-hLk'.out,<-hZK]at hu8;have hL8:=hLd.ext0 QC.elem t2;have hb8:=(hEk.trans (hEd.trans t2)).size;have hX8:=HX.ext hXJd t2)|(refine a1W (l:=LJ.take k) rfl (by rfl) a0B rfl QC.elem hb8 hX8 k hlk2.out rfl rfl hL8 (.agg #[.bool s8, .slice a8 n8 c8, .slice d8 k8 e8]) lk rfl hu8 (by omega) (by omega) ?_;intro lo2 lc2 w7 hL7 hE7 hor))
      have hE8:=(hEk.trans (hEd.trans t2)).own hL8 (Nat.le_refl _) hE7;rw[htk.out]at hL7;clear f00 f01 f02 f03 f04 f05 f06 f07 f08 f09 f10 i1 i2;go_wp2_with fail
      go_roundw
      case rel=>exact⟨k+1,lo2,lc2,by go_num,by go_num,by omega,hL7,hE8⟩
      case measure=>simp[intOf];omega
     ·have hkn:n=k:=by omega
      subst hkn;rw[List.take_of_length_le (by rw[hLl.out];exact Nat.le_refl _)]at hL;have hLs:=hL.sl QC.elem;have hLc:=hL.lenCap;rw[hLl.out]at hLc;have hbg1:=hbg0.ext0 hEk;have hX1':=hX0j.ext0 RC.elem hEk;have hY1':=hY0j.ext0 QC.elem hEk;have hQ1:=mkx QC.mono hQj hEk;have hw1:=mkx QC.mono hwv hEk;have hX1k:HX (un Z1 yo2) wr:=a1M (hX1j.ext hEk) fun q hq=>(hY1'.block hq).2;have hE3k:=hE3j.trans hEk;have hRC:RC (mk (un (un Z1 yo2) xo2) wr) (.slice lo n lc) LJ:=⟨lo,lc,by rw[hLl.out],by rw[hLl.out];exact hLc,hLs.mono QC.mono (a1v fun q _ hq=>by rw[<-hZJ,a1L];exact hq)⟩;have hogx:ob xo2 g=false:=by
       cases hc:ob xo2 g
       ·rfl
       ·have:=(a1p (hX1'.1 g hc)).1;rw[hgg]at this;cases this
      have q1:=hbg1.cell 1 rfl;have hj1:=x1.ext0 hEk;clear hX0j hY0j hQj hwv hbg0 hL hLs;go_wp2_with (first
       |(at_builtin;refine a0T (l:=XD.take j) a0r rfl RC.elem hE3k.size hX1k j hlX.out rfl rfl hX1' (.slice lo n lc) LJ rfl hRC (by omega) (by omega) ?_;intro xo7 xc7 w7 hX7 hE7 hor7;have bg7:=hbg1.ext hE7 hogx)
       |(refine a1Y (v:= .slice xo7 (j+1) xc7) b6n rfl rfl rfl rfl bg7 (by simp) ?_;intro w8 bg8 hE8))
      have bg8':Bx w8 g #[.int .i64 N', .slice xo7 (j+1) xc7, .slice yo2 j yc2, .bool sd, .slice ad nd cd, .slice dd kd ed] 83:=by simpa using bg8
      have hE37:=hE3k.own hX1' (Nat.le_refl _) hE7;have hE38:Ext w3 w8:=ExtX.box hE37 hE8 hge;rw[htX.out]at hX7;have hX8:=hX7.ext RC.elem (Z:=un Z1 yo2) hE8 (fun q _ hq=>a0q (hgZ q hq)) (fun _ _ h=>h);have hY7:=hY1'.ext QC.elem (Z:=un Z1 xo7) hE7 (fun q _ hq=>a0s hq) (un_or hor7);have hY8:=hY7.ext QC.elem (Z:=un Z1 xo7) hE8 (fun q _ hq=>a0q (hgZ q hq)) (fun _ _ h=>h);obtain⟨Z8,hZ8⟩:∃Z8,un (un Z1 xo7) yo2=Z8:=⟨_,rfl⟩;have hle8:Le (mk ZJ wr) (mk Z8 w8):=fun A U h=>by
       have h1:=a1f (Z:=Z8) hE7 (fun q _ hq=>by rw[<-hZJ];exact a0q (a0s hq)) (fun q hq hz=>by
        rw[<-hZ8,a1L]at hz;rw[<-hZJ,a1L];exact un_or (X:=un Z1 yo2) hor7 q hq hz) A U h
       exact a1f hE8 (fun q _ hq=>by rw[<-hZ8];exact a0q (a0q (hgZ q hq))) (fun _ _ h=>h) A U h1
      have hQ8:=QC.mono _ _ _ _ hle8 (by rw[<-hZJ];exact hQ1);have hw8:=QC.mono _ _ _ _ hle8 hw1;have hj8:=(hj1.ext hE7 hobj).ext hE8 (a0d hgj.symm);have hm8:=m3.ext0 hE38;have hv8:=v3.ext0 hE38;have hXZ1:HX Z1 w8:=fun q hq=>Nat.lt_of_lt_of_le (hX1j q hq) (Nat.le_trans hbk (Nat.le_trans hE7.size hE8.size));have hXZ8:HX Z8 w8:=by rw[<-hZ8];exact a1M (a1M hXZ1 fun q hq=>(hX8.block hq).2) fun q hq=>(hY8.block hq).2
      have hob78:∀q,q<w3.heap.size->Z8 q=true->Z1 q=true:=fun q hq hz=>by
       rw[<-hZ8]at hz;have e1:ob xo7 q=false:=hX8.ob_lt hq;have e2:ob yo2 q=false:=hY8.ob_lt hq;cases h0:Z1 q
       ·simp[un,h0,e1,e2]at hz
       ·rfl
      have hl38:=hrow.out Z8 w8 hE38 hob78;have hys8:=hys.mono QV.mono hl38;have htv8:=QV.mono _ _ _ _ hl38 htv;obtain⟨gy,oy,sy,py,ny,qy,dy,ky,ey,hgy,hXy,hcy,hqy⟩:=hys8.rat QV.shaped j hjy;obtain⟨yj,hyj⟩:∃yj,m.xy[j]=yj:=⟨_,rfl⟩;obtain⟨YJ,hYJ⟩:∃YJ,YD[j]=YJ:=⟨_,rfl⟩;rw[hyj]at hqy hYj;rw[hYJ]at hYj htY;have hYj':=hid hYj;have hEd:Ext w8 w8.drew:=(ExtX.refl w8).drew;have hwv:Hid (hq (SW*v)<=68719476736):=hid (Nat.le_trans (hq_mul _ _) (by have:=hwq.out;omega));have hwd:=(mkx QC.mono hw8 hEd).qv (Nat.le_trans hwq.out (by decide));have htd:=mkx QV.mono htv8 hEd;have hyd:=mkx QV.mono hqy hEd;have hYd:=hY8.ext0 QC.elem hEd;have hXd:HX Z8 w8.drew:=hXZ8.ext hEd;have hXu7:HX (un Z1 xo7) w8.drew:=a1M (hXZ1.ext hEd) fun q hq=>(hX8.block hq).2;have ogy:ob yo2 g=false:=by
       cases hc:ob yo2 g
       ·rfl
       ·have:=(a1p (hY8.1 g hc)).1;rw[hgg]at this;cases this
      have o1:ob yo2 b=false:=hY8.ob_lt (a1A (m3.cell 0 rfl));have o2:ob yo2 (b+1)=false:=hY8.ob_lt (a1A (v3.cell 0 rfl));have o3:ob yo2 gy=false:=by rw[<-hZ8]at hXy;exact(a1p hXy).2
      have hS:Hid (∀Y W',ExtX Y w8.drew W'->Y g=false->Y b=false->Y gy=false->Y jb=false->Y (b+1)=false->W'.cell? ⟨g,2,none⟩=some (.slice yo2 j yc2)/\W'.cell? ⟨b,2,none⟩=some (.slice yo n yc)/\(W'.cell? ⟨gy,oy,none⟩=some (.bool sy)/\W'.cell? ⟨gy,oy+1,none⟩=some (.slice py ny qy)/\W'.cell? ⟨gy,oy+2,none⟩=some (.slice dy ky ey))/\(W'.cell? ⟨jb,0,none⟩=some (.bool s7)/\W'.cell? ⟨jb,0+1,none⟩=some (.slice a7 n7 c7)/\W'.cell? ⟨jb,0+2,none⟩=some (.slice d7 k7 e7))/\(W'.cell? ⟨b+1,0,none⟩=some (.bool s2)/\W'.cell? ⟨b+1,0+1,none⟩=some (.slice a2 n2 c2)/\W'.cell? ⟨b+1,0+2,none⟩=some (.slice d2 k2 e2))):=hid fun Y W' h h1 h2 h3 h4 h5=>by
       have p1:=(bg8'.ext0 hEd).ext h h1;have p2:=(hm8.ext0 hEd).ext h h2;have p3:=(hj8.ext0 hEd).ext h h4;have p4:=(hv8.ext0 hEd).ext h h5;exact⟨p1.cell 2 rfl,p2.cell 2 rfl,hcy.out Y W' ((ExtX.of hEd).trans h) h3,⟨p3.cell 0 rfl,p3.cell 1 rfl,p3.cell 2 rfl⟩,⟨p4.cell 0 rfl,p4.cell 1 rfl,p4.cell 2 rfl⟩⟩
      have iy:∀W,(Instr.indexAt 45 (.slice yo n yc) (.int .i64 (j:Int))).run Tryz.prog W= .ok (.pointer (some ⟨gy,oy,none⟩)) W:=by rw[<-hgy];exact a0j a0B yo n yc .i64 j hhy (by omega)
      have hbY:w3.heap.size<=w8.drew.heap.size:=(hE38.trans hEd).size;clear q1 hgy hqy hys8 hcy hm8 hv8 hj8 hj1 hRC bg8 bg7 hY7 hX1' hY1' hQ1 hw1 hYj;refine a0O 14 (fun W'=>W'.cell? ⟨g,2,none⟩=some (.slice yo2 j yc2)/\W'.cell? ⟨b,2,none⟩=some (.slice yo n yc)/\(W'.cell? ⟨gy,oy,none⟩=some (.bool sy)/\W'.cell? ⟨gy,oy+1,none⟩=some (.slice py ny qy)/\W'.cell? ⟨gy,oy+2,none⟩=some (.slice dy ky ey))/\(W'.cell? ⟨jb,0,none⟩=some (.bool s7)/\W'.cell? ⟨jb,0+1,none⟩=some (.slice a7 n7 c7)/\W'.cell? ⟨jb,0+2,none⟩=some (.slice d7 k7 e7))/\(W'.cell? ⟨b+1,0,none⟩=some (.bool s2)/\W'.cell? ⟨b+1,0+1,none⟩=some (.slice a2 n2 c2)/\W'.cell? ⟨b+1,0+2,none⟩=some (.slice d2 k2 e2))) (by kernel_rfl) (by kernel_rfl) (hS.out noY _ (ExtX.refl _) rfl rfl rfl rfl rfl) (fun hHeld hOnce=>?_);refine a0a hOnce (i:=0) (oi:=⟨_,_,_,_,_,_⟩) (v:=?_) rfl (by kernel_rfl) (fun _ _ _ h=>h) (by assumption) (by rfl) (fun w hSw=>?_) ?_
      rotate_left
      ·(try dsimp only at hSw)
       go_simp
       all_goals with_reducible rfl
      (try simp only[Act.put,List.setIfInBounds_toArray,List.set_cons_zero,List.set_cons_succ])
      refine a0a hOnce (i:=1) (oi:=⟨_,_,_,_,_,_⟩) (v:=?_) rfl (by kernel_rfl) (fun _ _ _ h=>h) (by assumption) (by rfl) (fun w hSw=>?_) ?_
      rotate_left
      ·(try dsimp only at hSw)
       go_simp
       all_goals with_reducible rfl
      (try simp only[Act.put,List.setIfInBounds_toArray,List.set_cons_zero,List.set_cons_succ])
      refine a0a hOnce (i:=2) (oi:=⟨_,_,_,_,_,_⟩) (v:=?_) rfl (by kernel_rfl) (fun _ _ _ h=>h) (by assumption) (by rfl) (fun w hSw=>?_) ?_
      rotate_left
      ·(try dsimp only at hSw)
       go_simp
       all_goals with_reducible rfl
      (try simp only[Act.put,List.setIfInBounds_toArray,List.set_cons_zero,List.set_cons_succ])
      refine a0a hOnce (i:=3) (oi:=⟨_,_,_,_,_,_⟩) (v:=?_) rfl (by kernel_rfl) (fun _ _ _ h=>h) (by assumption) (by rfl) (fun w hSw=>?_) ?_
      rotate_left
      ·(try dsimp only at hSw)
       go_simp
       all_goals with_reducible rfl
      (try simp only[Act.put,List.setIfInBounds_toArray,List.set_cons_zero,List.set_cons_succ])
      refine a0a hOnce (i:=4) (oi:=⟨_,_,_,_,_,_⟩) (v:=?_) rfl (by kernel_rfl) (fun _ _ _ h=>h) (by assumption) (by rfl) (fun w hSw=>?_) ?_
      rotate_left
      ·(try dsimp only at hSw)
       go_simp
       all_goals with_reducible rfl
      (try simp only[Act.put,List.setIfInBounds_toArray,List.set_cons_zero,List.set_cons_succ])
      refine a0a hOnce (i:=5) (oi:=⟨_,_,_,_,_,_⟩) (v:=?_) rfl (by kernel_rfl) (fun _ _ _ h=>h) (by assumption) (by rfl) (fun w hSw=>?_) ?_
      rotate_left
      ·(try dsimp only at hSw)
       go_simp
       all_goals with_reducible rfl
      (try simp only[Act.put,List.setIfInBounds_toArray,List.set_cons_zero,List.set_cons_succ])
      refine a0a hOnce (i:=6) (oi:=⟨_,_,_,_,_,_⟩) (v:=?_) rfl (by kernel_rfl) (fun _ _ _ h=>h) (by assumption) (by rfl) (fun w hSw=>?_) ?_
      rotate_left
      ·(try dsimp only at hSw)
       go_simp
       all_goals with_reducible rfl
      (try simp only[Act.put,List.setIfInBounds_toArray,List.set_cons_zero,List.set_cons_succ])
      refine a0a hOnce (i:=7) (oi:=⟨_,_,_,_,_,_⟩) (v:=?_) rfl (by kernel_rfl) (fun _ _ _ h=>h) (by assumption) (by rfl) (fun w hSw=>?_) ?_
      rotate_left
      ·(try dsimp only at hSw)
       go_simp
       all_goals with_reducible rfl
      (try simp only[Act.put,List.setIfInBounds_toArray,List.set_cons_zero,List.set_cons_succ])
      refine a0a hOnce (i:=8) (oi:=⟨_,_,_,_,_,_⟩) (v:=?_) rfl (by kernel_rfl) (fun _ _ _ h=>h) (by assumption) (by rfl) (fun w hSw=>?_) ?_
      rotate_left
      ·(try dsimp only at hSw)
       go_simp
       all_goals with_reducible rfl
      (try simp only[Act.put,List.setIfInBounds_toArray,List.set_cons_zero,List.set_cons_succ])
      refine a0e (i:=9) (o:=⟨_,_,_,_,_,_⟩) (by kernel_rfl) rfl (fun K hK=>?_);go_simp
      (go_at_call 147;(with_reducible refine(b3J Z8 w8.drew _ _ _ _ hXd hwd htd).mono ?_);rintro ee w10 ⟨t1,u10,rfl,hu10⟩)
      refine hK.out _ _ (hS.out noY w10 t1 rfl rfl rfl rfl rfl) (fun hHeld=>?_);clear hK K
      (try simp only[Act.put,List.setIfInBounds_toArray,List.set_cons_zero,List.set_cons_succ])
      have hX10:=HX.ext hXd t1;have hy10:=mkx QV.mono hyd t1;have hu10v:=hu10.qv hwv.out;refine a0e (i:=10) (o:=⟨_,_,_,_,_,_⟩) (by kernel_rfl) rfl (fun K hK=>?_);go_simp
      (go_at_call 146;(with_reducible refine(b3I Z8 w10 _ _ _ _ hX10 hy10 hu10v).mono ?_);rintro ee w11 ⟨t2,u11,rfl,hu11⟩)
      refine hK.out _ _ (hS.out noY w11 (t1.trans t2) rfl rfl rfl rfl rfl) (fun hHeld=>?_);clear hK K
      (try simp only[Act.put,List.setIfInBounds_toArray,List.set_cons_zero,List.set_cons_succ])
      have t12:=t1.trans t2;obtain⟨s11,a11,n11,c11,d11,k11,e11,rfl⟩:=hu11.shape;rw[<-hYj'.out,<-hZ8]at hu11;have hY11:=hYd.ext0 QC.elem t12;have hX11:=hXu7.ext t12;have hb11:=Nat.le_trans hbY t12.size;refine a0e (i:=11) (o:=⟨_,_,_,_,_,_⟩) (by kernel_rfl) rfl (fun K hK=>?_);go_simp
      skip
      refine hK.out _ _ (hS.out noY _ (t12.alloc _) rfl rfl rfl rfl rfl) (fun hHeld=>?_);clear hK K
      (try simp only[Act.put,List.setIfInBounds_toArray,List.set_cons_zero,List.set_cons_succ])
      refine a0e (i:=12) (o:=⟨_,_,_,_,_,_⟩) (by kernel_rfl) rfl (fun K hK=>?_)
      (refine a1W (l:=YD.take j) rfl (by rfl) a0B rfl QC.elem hb11 hX11 j hlY.out rfl rfl hY11 (.agg #[.bool s11, .slice a11 n11 c11, .slice d11 k11 e11]) YJ rfl hu11 (by omega) (by omega) ?_;intro yo9 yc9 w12 hY12 hE12 hor12)
      refine hK.out _ _ (hS.out (ob yo2) w12 ((ExtX.of t12).trans hE12) ogy o1 o3 hoyj o2) (fun hHeld=>?_);clear hK K
      (try simp only[Act.put,List.setIfInBounds_toArray,List.set_cons_zero,List.set_cons_succ])
      have bg12:=(bg8'.ext0 (hEd.trans t12)).ext hE12 ogy;refine a0a hOnce (i:=13) (oi:=⟨_,_,_,_,_,_⟩) (v:=?_) rfl (by kernel_rfl) (fun _ _ _ h=>h) (by assumption) (by rfl) (fun w hSw=>?_) ?_
      rotate_left
      ·(try dsimp only at hSw)
       go_simp
       all_goals with_reducible rfl
      (try simp only[Act.put,List.setIfInBounds_toArray,List.set_cons_zero,List.set_cons_succ])
      refine a0n (i:=14) (o:=⟨_,_,_,_,_,_⟩) (by kernel_rfl) rfl (by decide) (by kernel_rfl) (fun K hK=>?_)
      (refine a5O (v:= .slice yo9 (j+1) yc9) rfl rfl a9n rfl rfl rfl rfl bg12 (by simp) ?_;intro w13 bg13 hE13)
      refine hK.out _ _ ?_;clear hK K
      (try simp only[Act.put])
      have bg13':Bx w13 g #[.int .i64 N', .slice xo7 (j+1) xc7, .slice yo9 (j+1) yc9, .bool sd, .slice ad nd cd, .slice dd kd ed] 83:=by simpa using bg13
      rw[htY.out]at hY12;have hE8t:=hEd.trans t12;have hX13:=((hX8.ext0 RC.elem hE8t).ext RC.elem (Z:=un Z1 yo9) hE12 (fun q _ hq=>a0s hq) (un_or hor12)).ext RC.elem (Z:=un Z1 yo9) hE13 (fun q _ hq=>a0q (hgZ q hq)) (fun _ _ h=>h);have hY13:=hY12.ext QC.elem (Z:=un Z1 xo7) hE13 (fun q _ hq=>a0q (hgZ q hq)) (fun _ _ h=>h);have hQ13:QC (mk (un (un Z1 xo7) yo9) w13) (.agg #[.bool sd, .slice ad nd cd, .slice dd kd ed]) D:=QC.mono _ _ _ _ (a1f hE13 (fun q _ hq=>a0q (a0q (hgZ q hq))) (fun _ _ h=>h)) (QC.mono _ _ _ _ (a1f (Z:=un (un Z1 xo7) yo9) hE12 (fun q _ hq=>by rw[<-hZ8];exact a0s hq) (fun q hq hz=>by rw[<-hZ8];exact un_or (X:=un Z1 xo7) hor12 q hq hz)) (mkx QC.mono hQ8 hE8t));have hE3z:Ext w3 w13:=ExtX.box ((hE38.trans hE8t).own hY11 (Nat.le_refl _) hE12) hE13 hge;have hXz:HX Z1 w13:=fun q hq=>Nat.lt_of_lt_of_le (hXZ1 q hq) (Nat.le_trans hE8t.size (Nat.le_trans hE12.size hE13.size));go_wp2_with fail
      go_roundw
      case rel=>exact⟨j+1,xo7,xc7,yo9,yc9,by go_num,by omega,bg13',hX13,hY13,hQ13,hXz,hE3z⟩
      case measure=>simp[intOf];omega
   ·have hjn:j=n:=by omega
    subst hjn;rw[List.take_of_length_le (by rw[hXl.out];exact Nat.le_refl _)]at hOX;rw[List.take_of_length_le (by rw[hYl.out];exact Nat.le_refl _)]at hOY;have hXs:=hOX.sl RC.elem;have hXc:=hOX.lenCap;have hYs:=hOY.sl QC.elem;have hYc:=hOY.lenCap;rw[hXl.out]at hXc;rw[hYl.out]at hYc;have q0:=bg.cell 0 rfl;have q1:=bg.cell 1 rfl;have q2:=bg.cell 2 rfl;have q3:=bg.cell 3 rfl;have q4:=bg.cell 4 rfl;have q5:=bg.cell 5 rfl;have tr:=t3.ext0 hEr;clear bg;go_wp2_with (refine a0c a3l rfl rfl tr rfl rfl (by intro v hv;simp at hv;rcases hv with rfl|rfl|rfl|rfl|rfl|rfl<;>rfl) ?_;intro w7 r1 r2)
    have hE7:Ext w w7:=ExtX.box (hE03.trans hEr) r2 (by omega);have hl7:Le (mk (un Z1 yo2) wr) (mk X w7):=a4K r2 (fun k hk=>a0q (hb3.out k hk)) (fun k hk=>a0q (hXZ.out k hk));have hl8:Le (mk (un Z1 xo2) wr) (mk X w7):=a4K r2 (fun k hk=>a0q (hb3.out k hk)) (fun k hk=>a0q (hXZ.out k hk));have hl9:Le (mk (un (un Z1 xo2) yo2) wr) (mk X w7):=a4K r2 (fun k hk=>a0q (a0q (hb3.out k hk))) (fun k hk=>a0q (a0q (hXZ.out k hk)));refine bodyPost_ret (a0f rfl rfl a3l r1 rfl) rfl (hfin.out w7 _ _ _ _ _ _ _ _ _ _ _ hE7 ⟨_,_,by rw[hXl.out],by rw[hXl.out];exact hXc,hXs.mono RC.mono hl7⟩ ⟨_,_,by rw[hYl.out],by rw[hYl.out];exact hYc,hYs.mono QC.mono hl8⟩ (QC.mono _ _ _ _ hl9 hQ))
end Go.Proofs.YtkddecjkfdogiaaGreat
