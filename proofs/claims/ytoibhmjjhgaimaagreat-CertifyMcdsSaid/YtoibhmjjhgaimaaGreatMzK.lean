/- Counting by directions over lists: what both texts' Count return; bounds. Conditions: none. halfspace: zero, unit. exact: Rows of lists. Conditions: at most 1000 rows and columns. exact: Rows of lists of lists. Conditions: at most 1000 rows. The search for the depth over lists: its steps as the program takes them. Conditions: none. The search for the depth, round by round: counts of prefixes, signs, one column; what one round of either text leaves. Conditions: none. halfspace: centred. Conditions: at most 1000 rows and columns. exact: Dot. Conditions: few numbers of at most 2^36 digits. halfspace: Count. Conditions: numbers of at most 10^10 digits. append where there is room; a list that is cut. Conditions: none. exact.Subsets, over whatever its callback keeps. Conditions: small numbers. halfspace: the search for the depth: what lies in its boxes, one choice of vectors. Conditions: at most 64 vectors of at most 3 numbers of few digits. Small matrices are formed; a literal of one number. Conditions: none. certify.choose. Conditions: k <= n <= 64. Lists of integers in slices: ascending, common elements, equality. Conditions: lengths far below any machine's. The tape of choices: New, Mod, Next, Bool, Pick, Count. What is drawn is some number in the range. Conditions: none beyond small ranges. The tape of choices: New, Bool, Pick, Count, Subset, OddSubset. What is drawn is something in the range. Conditions: none beyond small ranges. The tape of choices: Subset, OddSubset. What is drawn is some list of numbers, laid in new blocks. Conditions: none beyond small ranges. halfspace: the search's callback. Conditions: at most 64 vectors of at most 3 numbers of few digits. halfspace: the search for the depth, whole. Conditions: at most 64 vectors of at most 3 numbers of few digits. halfspace: Depth. Conditions: numbers of few digits. exact: Clean, List, Matrix; halfspace: Witness. Conditions: numbers of few digits. mcd: Scatter. Conditions: at most 6 rows, numbers of few digits. certify.apart, certify.read, within. Conditions: lengths far below any machine's. certify.Cover. Conditions: lengths far below any machine's. certify: Mcd. Conditions: at most 6 rows, numbers of few digits. -/
import Derived.Test.YtoibhmjjhgaimaaGreatMzJ
import Derived.WalkMore
import Derived.WalkKit
import Derived.Deep.RegionHeld3
import Derived.Deep.RegionLaw
import Derived.Deep.AppendLies
import Derived.BigRegion
namespace Go.Lin
open Go.Lim Go.Rep
theorem b0d (x:Rat):(0<x/\x.num.sign=1)\/(x=0/\x.num.sign=0)\/(x<0/\x.num.sign= -1):=by
 have hn:0<=x.num↔0<=x:=Rat.num_nonneg;have hz:x.num=0↔x=0:=Rat.num_eq_zero;rcases Int.lt_trichotomy x.num 0 with h|h|h
 ·refine .inr (.inr ⟨?_,Int.sign_eq_neg_one_of_neg h⟩)
  have:¬0<=x:=fun h2=>by have:=hn.2 h2;omega
  grind
 ·exact .inr (.inl ⟨hz.1 h,by rw[h];rfl⟩)
 ·refine .inl ⟨?_,Int.sign_eq_one_of_pos h⟩
  have h1:0<=x:=hn.1 (by omega);have h2:¬x=0:=fun h2=>by have:=hz.2 h2;omega
  grind
end Go.Lin
namespace Go.Proofs.YtoibhmjjhgaimaaGreat
open Go.RowKit Go.Rep Go.Lim Go.Lin
end Go.Proofs.YtoibhmjjhgaimaaGreat
namespace Go.Lin
open Go.Lim Go.Rep
def b7h (z:Mat) (s:List Int):Mat:=s.map fun i=>z.getD i.toNat []
end Go.Lin
namespace Go.Proofs.YtoibhmjjhgaimaaGreat
open Go.RowKit Go.Rep Go.Lim Go.Lin
end Go.Proofs.YtoibhmjjhgaimaaGreat
namespace Go.Lim
end Go.Lim
namespace Go.Lin
open Go.Lim Go.Rep
def Bd (c:Nat) (z:Mat) (cnt:Nat) (x:Vec):Prop:=∀l,a6a c (onL c x (a4C z)) l->cnt<=b0m c x (a4C z)+l
theorem Bd.le {c cnt n:Nat} {z:Mat} {x:Vec} (h:Bd c z cnt x) (hn:n<=cnt):Bd c z n x:=fun l hl=>Nat.le_trans hn (h l hl)
theorem Bd.congr {c cnt:Nat} {z:Mat} {x y:Vec} (h:Bd c z cnt x) (he:∀j,j<c->x j=y j):Bd c z cnt y:=fun l hl=>by
 obtain⟨h1,h2,_⟩:=b1z he (a4C z);have:=h l (by rw[h2];exact hl);rwa[h1]at this
section
variable {n c:Nat} {z:Mat} (hs:Shp n c z)
include hs
end
theorem b5r.le {c cnt:Nat} {z us:Mat} (h:b5r c z cnt us):cnt<=z.length+1:=by
 rcases h with⟨rfl,_⟩|h
 ·exact Nat.le_refl _
 ·have:cnt=b4f c (a4C us) (a4C z):=h.cnt.symm
  rw[this];have:=List.countP_le_length (p:=fun v=>a6b c (a4C us) v) (l:=a4C z);unfold b4f;simp[a4C]at this |-;omega
end Go.Lin
namespace Go.Lin
open Go.Lim Go.Rep
end Go.Lin
namespace Go.Proofs.YtoibhmjjhgaimaaGreat
open Go.RowKit Go.Rep Go.Lim Go.Lin
end Go.Proofs.YtoibhmjjhgaimaaGreat
namespace Go.Rep
open Go.RowKit
section
variable {P:Program} {ops:Array Oper} {Q:Exit->Act->World->Prop} {rest:List Oper} {a:Act} {w:World}
variable {α:Type} {R:Mem->Value->α->Prop} {sz:Nat} {X:Nat->Bool} {base:Nat} {e:TypeId} {ao:Option Addr} {cap:Nat} {l:List α}
variable {d:Option Tmp} {ty:TypeId} {ps:String} {af:Array Edge}
theorem OL.take (h:OL R sz X base e w ao cap l) (_hsz:∀m u x,R m u x->u.cells.size=sz) (n:Nat):OL R sz X base e w ao cap (l.take n):=by
 have hf:=h.form;obtain⟨hx,us,h1,h2,h22,⟨h3,h4⟩,h5⟩:=h;have hus:∀u∈us.take n,u.cells.size=sz:=fun u hu=>h2 u (List.mem_of_mem_take hu);refine⟨hx,us.take n,by simp[h1],hus,fun u hu=>h22 u (List.mem_of_mem_take hu),⟨by rw[a0J _ hus];simp[h1],?_⟩,fun i hi hi'=>?_⟩
 ·rcases h4 with⟨hv,hn⟩|⟨g,c,cur,hv,q1,q2,q3,q4,q5,q6⟩
  ·simp at hv
   obtain⟨rfl,h0,rfl⟩:=hv;refine .inl ⟨by simp[h0],by simp[h0]⟩
  ·simp at hv
   obtain⟨rfl,rfl⟩:=hv;refine .inr ⟨g,cap,cur,by simp,q1,q2,by simp;omega,q4,q5,?_⟩;have e1:(us.take n).flatMap a0n=(us.flatMap a0n).take ((l.take n).length*sz):=by
    have e2:us.flatMap a0n=(us.take n).flatMap a0n++(us.drop n).flatMap a0n:=by
     rw[<-List.flatMap_append,List.take_append_drop]
    rw[e2];have e3:(l.take n).length*sz=((us.take n).flatMap a0n).length:=by rw[a0J _ hus];simp[h1]
    rw[e3,List.take_left]
   rw[e1,<-q6,List.take_take]
   congr 1
   have:(l.take n).length<=l.length:=by simp;omega
   exact(Nat.min_eq_left (Nat.mul_le_mul_right _ this)).symm
 ·simp only[List.getElem_take]
  exact h5 i (by simp at hi;omega) (by simp at hi';omega)
end
end Go.Rep
namespace Go.Rep
open Go.RowKit
end Go.Rep
namespace Go.Lim
end Go.Lim
namespace Go.Proofs.YtoibhmjjhgaimaaGreat
open Go.RowKit Go.Rep Go.Lim
def a9w (base:Nat):Nat->Bool:=fun k=>decide (base<=k)&&decide (k<base+6)
def hbB (W:World) (g:Nat):Nat->Bool:=fun k=>decide (k<W.heap.size)&& !(k==g)
structure FromSt (base n k:Nat) (fv:Value) (W:World) (Q:List Int):Prop where
 bn:W.heap[base]? =some (.cells #[.int .i64 (n:Int)] 3 (0,0))
 bk:W.heap[base+1]? =some (.cells #[.int .i64 (k:Int)] 3 (0,0))
 bf:W.heap[base+2]? =some (.cells #[fv] 126 (0,0))
 bl:W.heap[base+4]? =some (.cells #[.slice (some ⟨base+3,0,none⟩) Q.length k] 22 (0,0))
 br:W.heap[base+5]? =some (.cells #[.func (.func 139) #[] #[.pointer (some ⟨base+4,0,none⟩), .pointer (some ⟨base+1,0,none⟩), .pointer (some ⟨base+2,0,none⟩), .pointer (some ⟨base,0,none⟩), .pointer (some ⟨base+5,0,none⟩)]] 167 (0,0))
 ol:OL (a0i .i64) 1 (hbB W (base+3)) base 3 W (some ⟨base+3,0,none⟩) k Q
 sz:base+6<=W.heap.size
def b6O (base:Nat) (W W':World):Prop:=W.heap.size<=W'.heap.size/\∀k,a9w base k=true->W'.heap[k]? =W.heap[k]?
theorem ob3 {base k:Nat} (h:ob (some ⟨base,0,none⟩) k=true):base=k:=by simpa[ob]using h
theorem b6y {W:World} {base k:Nat} (h:ob (some ⟨base,0,none⟩) k=true):hbB W base k=false:=by
 have:=ob3 h;subst this;simp[hbB]
theorem b6z:∀(h h':Mem) (u:Value) (x:Int),a0i .i64 h u x->a0i .i64 h' u x:=fun _ _ _ _ h=>h
theorem FromSt.set {base n k:Nat} {fv:Value} {W W1:World} {Q Q':List Int} (h:FromSt base n k fv W Q) (hE:ExtX (ob (some ⟨base+3,0,none⟩)) W W1) {X:Nat->Bool} (hO:OL (a0i .i64) 1 X base 3 W1 (some ⟨base+3,0,none⟩) k Q') (m:Nat) (hm:m=Q'.length):
  FromSt base n k fv (W1.setCell ⟨base+4,0,none⟩ (.slice (some ⟨base+3,0,none⟩) m k)) Q'/\ExtX (a9w base) W (W1.setCell ⟨base+4,0,none⟩ (.slice (some ⟨base+3,0,none⟩) m k))/\
   W1.cell? ⟨base+4,0,none⟩=some (.slice (some ⟨base+3,0,none⟩) Q.length k)/\W1.frozen? ⟨base+4,0,none⟩=false:=by
 subst hm;have hsz:=h.sz;have hE2:ExtX (fun j=>j==base+4) W1 (W1.setCell ⟨base+4,0,none⟩ (.slice (some ⟨base+3,0,none⟩) Q'.length k)):=
  ⟨rfl,rfl,rfl,by simp[World.setCell],fun j hj hy=>Below.heap_setCell _ _ _ _ (fun e=>by subst e;simp at hy)⟩
 have h1:∀j,j<W.heap.size->j≠base+3->W1.heap[j]? =W.heap[j]?:=fun j hj hn=>hE.block j hj (by
  cases hh:ob (some ⟨base+3,0,none⟩) j
  ·rfl
  ·exact absurd (ob3 hh).symm hn)
 have h2:∀j,j<W.heap.size->j≠base+3->j≠base+4->(W1.setCell ⟨base+4,0,none⟩ (.slice (some ⟨base+3,0,none⟩) Q'.length k)).heap[j]? =W.heap[j]?:=fun j hj hn hn2=>by
  rw[hE2.block j (Nat.lt_of_lt_of_le hj hE.size) (by simpa using hn2),h1 j hj hn]
 have hbl:=h1 (base+4) (by omega) (by omega);rw[h.bl]at hbl;have hnew:(W1.setCell ⟨base+4,0,none⟩ (.slice (some ⟨base+3,0,none⟩) Q'.length k)).heap[base+4]? =some (.cells #[.slice (some ⟨base+3,0,none⟩) Q'.length k] 22 (0,0)):=by
  simp only[World.setCell,Array.getElem?_modify,hbl];simp
 refine⟨⟨by rw[h2 base (by omega) (by omega) (by omega)];exact h.bn,by rw[h2 _ (by omega) (by omega) (by omega)];exact h.bk,by rw[h2 _ (by omega) (by omega) (by omega)];exact h.bf,hnew,by rw[h2 _ (by omega) (by omega) (by omega)];exact h.br,?_,by simp[World.setCell];have:=hE.size;omega⟩,?_,by simp[World.cell?,hbl],by simp[World.frozen?,hbl]⟩
 ·obtain⟨hx,us,g1,g2,g22,⟨g3,g4⟩,g5⟩:=hO
  refine⟨fun k hk=>b6y hk,us,g1,g2,g22,⟨g3,?_⟩,fun i hi hi'=>b6z _ _ _ _ (g5 i hi hi')⟩;rcases g4 with g4|⟨g,c,cur,hv,q1,q2,q3⟩
  ·exact .inl g4
  ·simp at hv
   obtain⟨rfl,rfl⟩:=hv;have hlt:base+3<W1.heap.size:=by have:=hE.size;omega
   exact .inr ⟨base+3,k,cur,by simp,q1,by rw[hE2.block _ hlt (by simp)];exact q2,q3⟩
 ·refine⟨hE2.os.trans hE.os,hE2.tape.trans hE.tape,hE2.output.trans hE.output,Nat.le_trans hE.size hE2.size,fun j hj hy=>h2 j hj ?_ ?_⟩
  ·intro e;subst e;simp[a9w]at hy
  ·intro e;subst e;simp[a9w]at hy
section
variable (cb base n k:Nat) (caps:Array Value) (Inv:List (List Int)->World->Prop)
end
theorem FromSt.start {w wb wc wd:World} {n k:Nat} {fv:Value} {X:Nat->Bool} (hEb:Ext w wb) (hzb:wb.heap.size=w.heap.size+3)
  (b0:wb.heap[w.heap.size]? =some (.cells #[.int .i64 (n:Int)] 3 (0,0))) (b1:wb.heap[w.heap.size+1]? =some (.cells #[.int .i64 (k:Int)] 3 (0,0))) (b2:wb.heap[w.heap.size+2]? =some (.cells #[fv] 126 (0,0)))
  (hEc:Ext wb wc) (hzc:wc.heap.size=wb.heap.size+1) (hOc:OL (a0i .i64) 1 X w.heap.size 3 wc (some ⟨wb.heap.size,0,none⟩) k []) (hEd:Ext wc wd)
  (d4:wd.heap[w.heap.size+3+1]? =some (.cells #[.slice (some ⟨w.heap.size+3,0,none⟩) 0 k] 22 (0,0))) (d5:wd.heap[w.heap.size+3+1+1]? =some (.cells #[.nilFunc] 167 (0,0))) (hzd:wd.heap.size=w.heap.size+6):
  FromSt w.heap.size n k fv (wd.setCell ⟨w.heap.size+3+1+1,0,none⟩ (.func (.func 139) #[] #[.pointer (some ⟨w.heap.size+3+1,0,none⟩), .pointer (some ⟨w.heap.size+1,0,none⟩), .pointer (some ⟨w.heap.size+1+1,0,none⟩), .pointer (some ⟨w.heap.size,0,none⟩), .pointer (some ⟨w.heap.size+3+1+1,0,none⟩)])) []/\
   ExtX (a9w w.heap.size) w (wd.setCell ⟨w.heap.size+3+1+1,0,none⟩ (.func (.func 139) #[] #[.pointer (some ⟨w.heap.size+3+1,0,none⟩), .pointer (some ⟨w.heap.size+1,0,none⟩), .pointer (some ⟨w.heap.size+1+1,0,none⟩), .pointer (some ⟨w.heap.size,0,none⟩), .pointer (some ⟨w.heap.size+3+1+1,0,none⟩)])):=by
 obtain⟨f,hf⟩:∃f,Value.func (.func 139) #[] #[.pointer (some ⟨w.heap.size+3+1,0,none⟩), .pointer (some ⟨w.heap.size+1,0,none⟩), .pointer (some ⟨w.heap.size+1+1,0,none⟩), .pointer (some ⟨w.heap.size,0,none⟩), .pointer (some ⟨w.heap.size+3+1+1,0,none⟩)]=f:=⟨_,rfl⟩;rw[hf];have hother:∀j,j≠w.heap.size+5->(wd.setCell ⟨w.heap.size+3+1+1,0,none⟩ f).heap[j]? =wd.heap[j]?:=fun j hj=>Below.heap_setCell _ _ _ _ (fun e=>hj e);have hE:Ext wb wd:=hEc.trans hEd;have hn5:(wd.setCell ⟨w.heap.size+3+1+1,0,none⟩ f).heap[w.heap.size+3+1+1]? =some (.cells #[f] 167 (0,0)):=by
  simp only[World.setCell,Array.getElem?_modify,d5];simp
 refine⟨⟨?_,?_,?_,?_,?_,?_,by simp[World.setCell,hzd]⟩,?_⟩
 ·rw[hother _ (by omega),hE.block _ (by omega) rfl];exact b0
 ·rw[hother _ (by omega),hE.block _ (by omega) rfl];exact b1
 ·rw[hother _ (by omega),hE.block _ (by omega) rfl];exact b2
 ·rw[hother _ (by omega)];exact d4
 ·rw[<-hf]at hn5 |-;exact hn5
 ·rw[hzb]at hOc
  obtain⟨hx,us,g1,g2,g22,⟨g3,g4⟩,g5⟩:=hOc;refine⟨fun k hk=>b6y hk,us,g1,g2,g22,⟨g3,?_⟩,fun i hi hi'=>b6z _ _ _ _ (g5 i hi hi')⟩;rcases g4 with g4|⟨g,c,cur,hv,q1,q2,q3⟩
  ·exact .inl g4
  ·simp at hv
   obtain⟨rfl,rfl⟩:=hv;exact .inr ⟨w.heap.size+3,k,cur,by simp,q1,by rw[hother _ (by omega),hEd.block _ (by omega) rfl];exact q2,q3⟩
 ·refine⟨hEd.os.trans (hEc.os.trans hEb.os),hEd.tape.trans (hEc.tape.trans hEb.tape),hEd.output.trans (hEc.output.trans hEb.output),by simp[World.setCell,hzd],fun j hj _=>?_⟩
  rw[hother _ (by omega),(hEb.trans hE).block j hj rfl]
end Go.Proofs.YtoibhmjjhgaimaaGreat
namespace Go.Rep
open Go.RowKit Go.Lim
section
variable {P:Program} {ops:Array Oper} {Q:Exit->Act->World->Prop} {a:Act} {w:World}
variable {α:Type} {R:Mem->Value->α->Prop} {sz:Nat} {X:Nat->Bool} {base:Nat} {e:TypeId} {ao:Option Addr} {cap:Nat} {l:List α}
theorem a7Q {o:Oper} {K:Act->World->Prop} {E:Prop} {t by_:Nat} {z:Value} {s x:Operand} {ax:Option Addr} {cs:Nat}
  (hg:o.guard=none) (hop:o.op=Op.call {callee:=Callee.builtin Builtin.append,args:=#[s,x],argTypes:=#[t,t]}) (T:SliceT P t e sz by_ z) (hzs:z.cells.size=sz) (hR:Elem R sz) (hbase:base<=w.heap.size) (hX:∀k,X k=true->k<w.heap.size) (xs:List α) (n m:Nat) (hn:l.length=n) (hm:xs.length=m)
  (hs:a.eval s= .slice ao n cap) (hx:a.eval x= .slice ax m cs) (h:OL R sz X base e w ao cap l)
  (hxs:Sl R sz (mk (un X ao) w) ax xs) (hroom:(n+m)*by_<=140737488355328) (hmax:n+m<=9223372036854775807)
  (hK:∀ao' cap' w',OL R sz X base e w' ao' cap' (l++xs)->ExtX (ob ao) w w'->(ao'=ao\/∃g,ao'=some ⟨g,0,none⟩/\w.heap.size<=g)->K (a.put o.dst (.slice ao' (n+m) cap')) w'):
  if Region.wanted o (yielded ops a.tmps)=true then Oper.wp P o a w K Q else E:=by
 have hw:Region.wanted o (yielded ops a.tmps)=true:=by simp[Region.wanted,hg]
 rw[if_pos hw];subst hn hm;obtain⟨us,h1,h2,h3⟩:=hxs.at_ hR;obtain⟨ao',cap',w',hr,h2,h3,h4⟩:=h.run_append (P:=P) T hzs hR hbase hX ax cs us xs h2 h1 h3 hroom hmax o.type;unfold Oper.wp execOp;rw[hop];simp only[resolve,invoke,builtin,Sem.run_bind,Sem.run_pure,Result.andThen_ok,List.map_toArray,List.map_cons,List.map_nil,hs,hx];rw[hr];have:=hK ao' cap' w' h2 h3 h4;rw[show(l++xs).length=l.length+xs.length from by simp];exact this
end
end Go.Rep
namespace Go.Proofs.YtoibhmjjhgaimaaGreat
open Go.RowKit Go.Rep Go.Lim Go.Lin
theorem b3i:(Tryz.prog.info? 25).map (fun i=>(i.zero,i.size,i.bytes))=some (some (.slice none 0 0),1,24):=by kernel_rfl
theorem b5s:TyI Tryz.prog 25 1:=let ⟨i,h,_,h2,_⟩:=info_parts b3i;⟨i,h,h2⟩
def uB:Nat:=10000000000
def a8E (bc bs:Nat):Nat->Bool:=fun k=>(k==bc)||(k==bs)
def b2a (X:Nat->Bool) (bc bs B0:Nat):Nat->Bool:=fun k=>X k||a8E bc bs k||a9w B0 k
structure Lay (lo bo bu bc bd bs B0:Nat):Prop where
 lo1:lo<=bo
 lo2:lo<=bu
 lo3:lo<=bc
 lo4:lo<=bd
 lo5:lo<=bs
 hi1:bo<B0
 hi2:bu<B0
 hi3:bc<B0
 hi4:bd<B0
 hi5:bs<B0
 ne1:bo≠bc
 ne2:bo≠bs
 ne3:bu≠bc
 ne4:bu≠bs
 ne5:bd≠bc
 ne6:bd≠bs
 ne7:bc≠bs
structure BSt (X:Nat->Bool) (w0:World) (bo bu bc bd bs B0 c:Nat) (oo:Option Addr) (n oc:Nat) (ov:Value) (z N:Mat) (cnt:Nat) (dv:Value) (us:Mat) (W:World):Prop where
 ext:Ext w0 W
 b1:Bx W bo #[.slice oo n oc] 25
 b2:Bx W bu #[ov] 25
 b3:Bx W bc #[.int .i64 (cnt:Int)] 3
 b4:Bx W bd #[.int .i64 (c:Int)] 3
 b5:Bx W bs #[dv] 25
 r1:MV (mk (b2a X bc bs B0) W) (.slice oo n oc) z
 r2:MV (mk (b2a X bc bs B0) W) ov N
 r3:MV (mk (b2a X bc bs B0) W) dv us
section
variable {X:Nat->Bool} {w0 W W':World} {bo bu bc bd bs B0 c:Nat} {oo:Option Addr} {n oc:Nat} {ov:Value} {z N:Mat} {cnt:Nat} {dv:Value} {us:Mat}
theorem BSt.hx (_h:BSt X w0 bo bu bc bd bs B0 c oo n oc ov z N cnt dv us W) (hX:HX X w0) (hl:Lay w0.heap.size bo bu bc bd bs B0) (hB:B0+6<=W.heap.size):HX (b2a X bc bs B0) W:=fun k hk=>by
 have h1:=hl.hi3;have h2:=hl.hi5;have h0:=hl.lo1;have h00:=hl.hi1;simp only[b2a,a8E,a9w,Bool.or_eq_true,Bool.and_eq_true,beq_iff_eq,decide_eq_true_eq]at hk;rcases hk with(h|h|h)|h
 ·have:=hX k h;omega
 ·omega
 ·omega
 ·omega
theorem BSt.hxs (h:BSt X w0 bo bu bc bd bs B0 c oo n oc ov z N cnt dv us W) (hX:HX X w0):HX (fun k=>X k||a8E bc bs k) W:=fun k hk=>by
 have h3:=h.b3.lt;have h5:=h.b5.lt;have h0:=h.ext.size;simp only[a8E,Bool.or_eq_true,beq_iff_eq]at hk;rcases hk with h|h|h
 ·have:=hX k h;omega
 ·omega
 ·omega
theorem BSt.step (h:BSt X w0 bo bu bc bd bs B0 c oo n oc ov z N cnt dv us W) (hE:Ext W W'):BSt X w0 bo bu bc bd bs B0 c oo n oc ov z N cnt dv us W':=
 ⟨h.ext.trans hE,h.b1.ext0 hE,h.b2.ext0 hE,h.b3.ext0 hE,h.b4.ext0 hE,h.b5.ext0 hE,mkx MV.mono h.r1 hE,mkx MV.mono h.r2 hE,mkx MV.mono h.r3 hE⟩
theorem BSt.own (h:BSt X w0 bo bu bc bd bs B0 c oo n oc ov z N cnt dv us W) (hl:Lay w0.heap.size bo bu bc bd bs B0) (hE:ExtX (a9w B0) W W'):BSt X w0 bo bu bc bd bs B0 c oo n oc ov z N cnt dv us W':=by
 have no:∀j,j<B0->a9w B0 j=false:=fun j hj=>by simp[a9w];omega
 have hm:=a0w (X:=b2a X bc bs B0) hE fun k hk=>by simp[b2a,hk]
 have:=hl.lo1;have:=hl.hi1;exact⟨h.ext.then_ hE fun i hi _=>no i (by omega),h.b1.ext hE (no _ hl.hi1),h.b2.ext hE (no _ hl.hi2),h.b3.ext hE (no _ hl.hi3),h.b4.ext hE (no _ hl.hi4),h.b5.ext hE (no _ hl.hi5),MV.mono _ _ _ _ hm h.r1,MV.mono _ _ _ _ hm h.r2,MV.mono _ _ _ _ hm h.r3⟩
theorem BSt.put (h:BSt X w0 bo bu bc bd bs B0 c oo n oc ov z N cnt dv us W) (hl:Lay w0.heap.size bo bu bc bd bs B0) (cnt':Nat) (dv':Value) (us':Mat) (hr:MV (_root_.Go.Rep.mk (b2a X bc bs B0) W) dv' us'):
  (W.setCell ⟨bc,0,none⟩ (.int .i64 (cnt':Int))).cell? ⟨bs,0,none⟩=some dv/\(W.setCell ⟨bc,0,none⟩ (.int .i64 (cnt':Int))).frozen? ⟨bs,0,none⟩=false/\
  BSt X w0 bo bu bc bd bs B0 c oo n oc ov z N cnt' dv' us' ((W.setCell ⟨bc,0,none⟩ (.int .i64 (cnt':Int))).setCell ⟨bs,0,none⟩ dv')/\ExtX (a8E bc bs) W ((W.setCell ⟨bc,0,none⟩ (.int .i64 (cnt':Int))).setCell ⟨bs,0,none⟩ dv'):=by
 obtain⟨p1,p2⟩:=a0D h.b3 (.int .i64 (cnt':Int)) (i:=0) (by simp);have p5:=h.b5.ext p2 (a0c hl.ne7.symm);obtain⟨q1,q2⟩:=a0D p5 dv' (i:=0) (by simp);have hE:ExtX (a8E bc bs) W ((W.setCell ⟨bc,0,none⟩ (.int .i64 (cnt':Int))).setCell ⟨bs,0,none⟩ dv'):=by
  refine(p2.weaken fun k _ hk=>?_).trans (q2.weaken fun k _ hk=>?_)
  ·refine a0c fun e=>?_
   subst e;simp[a8E]at hk
  ·refine a0c fun e=>?_
   subst e;simp[a8E]at hk
 have hm:=a0w (X:=b2a X bc bs B0) hE fun k hk=>by simp[b2a,hk]
 have n1:a8E bc bs bo=false:=by simp[a8E,hl.ne1,hl.ne2]
 have n2:a8E bc bs bu=false:=by simp[a8E,hl.ne3,hl.ne4]
 have n3:a8E bc bs bd=false:=by simp[a8E,hl.ne5,hl.ne6]
 have hlo3:=hl.lo3;have hlo5:=hl.lo5;refine⟨p5.cell 0 rfl,p5.frozen 0,⟨h.ext.then_ hE fun i hi _=>?_,h.b1.ext hE n1,h.b2.ext hE n2,?_,h.b4.ext hE n3,by simpa using q1,MV.mono _ _ _ _ hm h.r1,MV.mono _ _ _ _ hm h.r2,MV.mono _ _ _ _ hm hr⟩,hE⟩
 ·simp[a8E];omega
 ·have:=p1.ext q2 (a0c hl.ne7)
  simpa using this
end
def b7i (X:Nat->Bool) (w0:World) (bo bu bc bd bs B0 c:Nat) (oo:Option Addr) (n oc:Nat) (ov:Value) (z N:Mat) (done:List (List Int)) (W:World):Prop:=
 ∃(cnt:Nat) (dv:Value) (us:Mat),BSt X w0 bo bu bc bd bs B0 c oo n oc ov z N cnt dv us W/\b5r c z cnt us/\BM uB us/\(∀r∈us,r.length=c)/\∀s∈done,b3h c (a4C z) (a4C N) cnt (s.map Int.toNat)
theorem b7i.own {X:Nat->Bool} {w0 W W':World} {bo bu bc bd bs B0 c:Nat} {oo:Option Addr} {n oc:Nat} {ov:Value} {z N:Mat} {done:List (List Int)} (h:b7i X w0 bo bu bc bd bs B0 c oo n oc ov z N done W) (hl:Lay w0.heap.size bo bu bc bd bs B0) (hE:ExtX (a9w B0) W W'):b7i X w0 bo bu bc bd bs B0 c oo n oc ov z N done W':=by
 obtain⟨cnt,dv,us,h1,h2⟩:=h;exact⟨cnt,dv,us,h1.own hl hE,h2⟩
theorem b6O.trans {B0:Nat} {A B C:World} (h:b6O B0 A B) (k:b6O B0 B C):b6O B0 A C:=⟨Nat.le_trans h.1 k.1,fun i hi=>(k.2 i hi).trans (h.2 i hi)⟩
end Go.Proofs.YtoibhmjjhgaimaaGreat
namespace Go.Lin
open Go.Lim Go.Rep Go.Proofs.YtoibhmjjhgaimaaGreat
end Go.Lin
namespace Go.Proofs.YtoibhmjjhgaimaaGreat
open Go.RowKit Go.Rep Go.Lim Go.Lin
theorem BM.sub {B:Nat} {m l:List (List Rat)} (h:BM B m) (hs:∀r∈l,r∈m):BM B l:=fun r hr=>h r (hs r hr)
theorem a3C (X:Nat->Bool) (m:Int) (n:Nat) (w:World) (hm:m=(n:Int)) (hn:n<4294967296) (hX:∀k,X k=true->k<w.heap.size):
  Calls Tryz.prog 189 #[.int .u64 m] w (a2v X w n):=by
 subst hm;exact a2H X n w (by omega) hX
theorem a6z (X:Nat->Bool) (n k:Nat) (w:World) (hk:k<=n) (hn:n<=64) (hX:∀k,X k=true->k<w.heap.size):
  Calls Tryz.prog 123 #[.int .i64 n, .int .i64 k] w (a2v X w (ch n k)):=by
 go_enter Tryz.func123,Tryz.ntmps123
 go_wp2_with fail
 refine(a3C X 1 1 w (by decide) (by decide) hX).mono ?_;rintro e w1 ⟨hE1,ao1,ca1,l1,rfl,hc1,hcan1,hs1⟩;go_wp2_with fail
 go_loopw [5,6] (fun s c wr=>∃(i:Nat) (ao:Option Addr) (cap:Nat) (l:List Nat),c= .int .i64 i/\s= .slice ao l.length cap/\0<i/\i<=k+1/\l.length<=cap/\a0E l (ch (n - k+(i - 1)) (i - 1))/\Sl (a0b .u32) 1 (mk X wr) ao l/\Ext w wr) (fun _ c _=>k+1 - (intOf c).toNat)
 case atStart=>exact⟨1,ao1,ca1,l1,rfl,rfl,by decide,by omega,hc1,by rw[Nat.sub_self,a2y];exact hcan1,hs1,hE1⟩
 case round=>
  clear hE1 hc1 hcan1 hs1;obtain⟨i,ao,cap,l,rfl,rfl,hi0,hik,hcap,hcan,hs,hE⟩:=hrel;have hXr:∀k,X k=true->k<wr.heap.size:=fun k hk=>Nat.lt_of_lt_of_le (hX k hk) hE.size;by_cases hlt:i<=k
  ·have hl3:l.length<=3:=by rw[hcan.len];exact a7t (by omega)
   have hst:=hid (b4A (n - k) i hi0);have hlg:=a7t (n:=n - k+(i - 1)) (k:=i - 1) (by omega);generalize ch (n - k+(i - 1)) (i - 1)=c at hcan hst hlg;go_wp2_with fail
   refine(a3C X _ (n - k+i) _ (by omega) (by omega) hXr).mono ?_;rintro e w2 ⟨hE2,ao2,ca2,l2,rfl,hc2,hcan2,hs2⟩;have hX2:∀k,X k=true->k<w2.heap.size:=fun k hk=>Nat.lt_of_lt_of_le (hXr k hk) hE2.size;have hl2:l2.length<=1:=by rw[hcan2.len];exact a1Z.2 (by rw[Nat.pow_one,a1a];omega)
   go_wp2_with fail
   refine(b0I X _ _ _ _ _ _ _ (hs.mono (a0b.mono _) (a0h hE2)) hs2 hcan.1 hcan2.1 (by omega) (by omega) hcap hc2 hX2 c (n - k+i) hcan.val hcan2.val).mono ?_;rintro e w3 ⟨hE3,ao3,ca3,l3,rfl,hc3,hcan3,hs3⟩;have hX3:∀k,X k=true->k<w3.heap.size:=fun k hk=>Nat.lt_of_lt_of_le (hX2 k hk) hE3.size;have hl3':l3.length<=4:=by
    rw[hcan3.len];have h1:=a0T c (n - k+i);have h2:lg (n - k+i)<=1:=a1Z.2 (by rw[Nat.pow_one,a1a];omega);omega
   go_wp2_with fail
   refine(a3C X _ i _ (by omega) (by omega) hX3).mono ?_;rintro e w4 ⟨hE4,ao4,ca4,l4,rfl,hc4,hcan4,hs4⟩;have hX4:∀k,X k=true->k<w4.heap.size:=fun k hk=>Nat.lt_of_lt_of_le (hX3 k hk) hE4.size;have hl4:l4.length<=1:=by rw[hcan4.len];exact a1Z.2 (by rw[Nat.pow_one,a1a];omega)
   go_wp2_with fail
   refine(a8Z X _ _ _ _ _ _ _ (hs3.mono (a0b.mono _) (a0h hE4)) hs4 hcan3.1 hcan4.1 (by omega) (by omega) hc3 hc4 hX4 _ _ hcan3.val hcan4.val hi0 (by omega)).mono ?_;rintro e w5 ⟨hE5,ao5,ca5,l5,bo5,cb5,m5,rfl,hc5,hcan5,hs5,_,_,_⟩;go_wp2_with fail
   go_roundw
   case rel=>exact⟨i+1,ao5,ca5,l5,by go_num,rfl,by omega,by omega,hc5,by rw[hst.out]at hcan5;exact hcan5,hs5,(((hE.trans hE2).trans hE3).trans hE4).trans hE5⟩
   case measure=>simp[intOf];omega
  ·have hik':i=k+1:=by omega
   subst hik';have he:n - k+(k+1 - 1)=n:=by omega
   rw[he,Nat.add_sub_cancel]at hcan;go_wp2_with fail
   go_ret
   exact⟨hE,ao,cap,l,rfl,hcap,hcan,hs⟩
def a5W:Mem->Value->Nat->Prop:=fun h u n=>∃ao cap l,u= .slice ao l.length cap/\l.length<=cap/\a0E l n/\Sl (a0b .u32) 1 h ao l
theorem a5W.mono:a3i a5W:=by
 rintro h h' u x hl ⟨ao,cap,l,rfl,h1,h2,h3⟩;exact⟨ao,cap,l,rfl,h1,h2,h3.mono (a0b.mono _) hl⟩
theorem a5W.one:a2W a5W:=by rintro h u x ⟨ao,cap,l,rfl,_⟩;rfl
theorem a5W.elem:Elem a5W 1:=⟨a5W.mono,by rintro h u x ⟨ao,cap,l,rfl,_⟩;rfl,by rintro h u x ⟨ao,cap,l,rfl,_⟩ c hc;simp[a0n,Value.cells]at hc;subst hc;rfl,Nat.one_pos⟩
theorem a5W.zero (h:Mem):a5W h (.slice none 0 0) 0:=⟨none,0,[],rfl,by simp,a0E.nil,Sl.nil _ _ _ _⟩
theorem a5T (X:Nat->Bool) (n k:Nat) (w:World) (hk:k<=n) (hn:n<=64) (hX:∀k,X k=true->k<w.heap.size):
  Calls Tryz.prog 194 #[.int .i64 n, .int .i64 k] w (a2v X w (ch n k)):=by
 have ht:decide (n<k)=false:=decide_eq_false (by omega);have ht2:decide ((k:Int)<0)=false:=decide_eq_false (by omega);go_enter Tryz.func194,Tryz.ntmps194
 go_wp2_with (at_make;refine a1S a7s a5W.elem 0 a5W.zero X hX w.heap.size (Nat.le_refl _) (k+1) rfl rfl (by omega) (by omega) (by omega) ?_;intro oo w1 hO1 hE1;have hX1:∀k,X k=true->k<w1.heap.size:=fun k hk=>Nat.lt_of_lt_of_le (hX k hk) hE1.size)
 refine(a4u (un X oo) 1 w1 (by decide) (hO1.unX hX1)).mono ?_;rintro e w2 ⟨hE2,ao1,ca1,l1,rfl,hc1,hcan1,hs1⟩;have hO2:=hO1.ext0 a5W.elem hE2;have hho:Hd oo (k+1):=by have:=hO2.hd;simpa using this
 go_wp2_with (first|(with_reducible refine a0o a7s (by omega) (by assumption) ?_)|((with_reducible show wpList _ _ _ (⟨_, .store _ _ _,_,_,_,_⟩::_) _ _);refine a2G b0D a5W.elem 0 rfl rfl hO2 (by simp) _ 1 rfl ⟨ao1,ca1,l1,rfl,hc1,hcan1,hs1⟩ ?_;intro w3 hO3 hE3))
 have hE0:=(hE1.trans hE2).own hO2 (Nat.le_refl _) hE3;go_loopw [6] (fun c wr=>∃(i:Nat) (r:List Nat),c= .int .i64 i/\i<=n/\a2p r k i k/\OL a5W 1 X w.heap.size 28 wr oo (k+1) r/\Ext w wr) (fun c _=>n - (intOf c).toNat)
 case atStart=>exact⟨0,_,rfl,by omega,a2p.start k,hO3,hE0⟩
 case round=>
  clear hE1 hE2 hE3 hO1 hO2 hO3 hE0 hX1 hs1;obtain⟨i,r,rfl,hi,hinv,hO,hE⟩:=hrel;by_cases hlt:i<n
  ·obtain⟨wo,rfl⟩:∃wo:World,wo=wr:=⟨_,rfl⟩
   go_wp2_with fail
   go_loopw [7] (fun c wr=>∃(j:Nat) (r:List Nat),c= .int .i64 j/\j<=k/\a2p r k i j/\OL a5W 1 X w.heap.size 28 wr oo (k+1) r/\Ext w wr) (fun c _=>(intOf c).toNat)
   case atStart=>exact⟨k,r,rfl,by omega,hinv,hO,hE⟩
   case round=>
    clear hinv hO hE;clear r;obtain⟨j,r,rfl,hj,hinv,hO,hE⟩:=hrel;have hrl:=hid hinv.1;have hXr:∀k,X k=true->k<wr.heap.size:=fun k hk=>Nat.lt_of_lt_of_le (hX k hk) hE.size;have hXu:=hO.unX hXr;by_cases hj0:0<j
    ·have hjl:j<r.length:=by rw[hrl.out];omega
     have hjl2:j - 1<r.length:=by rw[hrl.out];omega
     obtain⟨u1,c1,f1,a1,p1,l1,rfl,hp1,hn1,hs1⟩:=hO.cell a5W.one j hjl;obtain⟨u2,c2,f2,a2,p2,l2,rfl,hp2,hn2,hs2⟩:=hO.cell a5W.one (j - 1) hjl2;have hl1:l1.length<=3:=by rw[hn1.len];exact hinv.le j hjl (by omega)
     have hl2:l2.length<=3:=by rw[hn2.len];exact hinv.le (j - 1) hjl2 (by omega)
     have i1:∀W,(Instr.indexAt 231 (.slice oo (k+1) (k+1)) (.int .i64 (j:Int))).run Tryz.prog W= .ok (.pointer (some (adr oo j))) W:=a0I a7s oo (k+1) (k+1) .i64 j hho (by omega) rfl;have i2:∀W,(Instr.indexAt 231 (.slice oo (k+1) (k+1)) (.int .i64 ((j:Int) - 1))).run Tryz.prog W= .ok (.pointer (some (adr oo (j - 1)))) W:=a0I a7s oo (k+1) (k+1) .i64 (j - 1) hho (by omega) (by omega);have ew:IntKind.i64.wrap ((j:Int) - 1)=(j:Int) - 1:=IntWalk.i64_in _ (by omega);go_wp2_with fail
     go_region_law (first|(go_simp;go_at_call 179;refine(a6T (un X oo) a1 a2 l1 l2 p1 p2 wr.drew hs1 hs2 hn1.1 hn2.1 (by omega) (by omega) hXu r[j] r[j - 1] hn1.val hn2.val).mono ?_;rintro e w2 ⟨hE2,a3,p3,l3,rfl,hp3,hn3,hs3⟩;have hO2:=hO.ext0 a5W.elem (((ExtX.refl wr).drew).trans hE2);obtain⟨u4,c4,f4,_⟩:=hO2.cell a5W.one j hjl;have k1:=hE2.cell (show wr.drew.cell? _=_ from c1);have k2:=hE2.cell (show wr.drew.cell? _=_ from c2);clear c4))
     all_goals
      have hO3:=hO2.set1 b0D a5W.elem a5W.one j hjl (.slice a3 l3.length p3) (r[j]+r[j - 1]) ⟨a3,p3,l3,rfl,hp3,hn3,hs3⟩;have hst:=hinv.step hj0 hj rfl rfl;have hEE:Ext w w2:=(hE.drew).trans hE2;clear k1 k2 c1 c2 f1 f2 f4 i1 i2;go_wp2_with fail
      go_roundw
      case rel=>exact⟨j - 1,_,by go_num,by omega,hst,hO3.1,hEE.own hO2 (Nat.le_refl _) hO3.2⟩
      case measure=>simp[intOf];omega
    ·have hj00:j=0:=by omega
     subst hj00;go_wp2_with fail
     go_roundw
     case rel=>exact⟨i+1,r,by go_num,by omega,hinv.next,hO,hE⟩
     case measure=>simp[intOf];omega
  ·have hin:i=n:=by omega
   subst hin;have hrl:=hid hinv.1;have hkl:k<r.length:=by rw[hrl.out];omega
   obtain⟨u1,c1,f1,a1,p1,l1,rfl,hp1,hn1,hs1⟩:=hO.cell a5W.one k hkl;rw[hinv.done hkl]at hn1;go_wp2_with (with_reducible refine a0o a7s (by omega) (by assumption) ?_)
   go_ret
   exact⟨hE,a1,p1,l1,rfl,hp1,hn1,hs1.mono (a0b.mono _) (a1N fun k _ hk=>a0p hk)⟩
set_option maxHeartbeats 400000 in
theorem a0V (X:Nat->Bool) (ao:Option Addr) (l:List Int) (cap:Nat) (n:Int) (w:World) (hs:Sl (a0i .i64) 1 (mk X w) ao l) (hl:l.length<=1099511627776):
  Calls Tryz.prog 125 #[.slice ao l.length cap, .int .i64 n] w fun e w'=>w=w'/\e= .returned (.bool (a2N l n)):=by
 have hh:=hs.hd;go_enter Tryz.func125,Tryz.ntmps125
 go_wp2_with fail
 go_loop [9] (fun c=>∃i:Nat,c= .int .i64 i/\i<=l.length/\Hid (∀j,j<i->a4r l n j=true)) (fun c=>l.length - (intOf c).toNat)
 case atStart=>exact⟨0,rfl,Nat.zero_le _,fun j hj=>by omega⟩
 case round=>
  obtain⟨i,rfl,hi,hok⟩:=hrel;by_cases hlt:i<l.length
  ·have hc:=hs.int i hlt
   have hc2:=hs.int (i - 1) (by omega);have e1:=a1K hlt;have e2:=a1K (l:=l) (i:=i - 1) (by omega);obtain⟨x,hx⟩:∃x,l[i]=x:=⟨_,rfl⟩;obtain⟨y,hy⟩:∃y,l[i - 1]'(by omega)=y:=⟨_,rfl⟩;rw[hx]at hc e1;rw[hy]at hc2 e2;have he:=hid (a9a (n:=n) e1 e2);clear e1 e2 hx hy;have bad:Hid (a4r l n i=false->a2N l n=false):=hid fun h=>a1h i hlt h;by_cases h1:x<0
   ·have hv:a2N l n=false:=bad.out (by rw[he.out];simp;omega)
    have hv':=hid hv;clear hv;go_wp2_with (with_reducible refine a0o a0S (by omega) (by assumption) ?_)
    go_ret
    exact⟨rfl,a0j hv'.out.symm⟩
   by_cases h2:n<=x
   ·have hv:a2N l n=false:=bad.out (by rw[he.out];simp;omega)
    have hv':=hid hv;clear hv;go_wp2_with (with_reducible refine a0o a0S (by omega) (by assumption) ?_)
    go_ret
    exact⟨rfl,a0j hv'.out.symm⟩
   by_cases h3:0<i
   ·by_cases h4:x<=y
    ·have hv:a2N l n=false:=bad.out (by rw[he.out];simp;omega)
     have hv':=hid hv;clear hv;go_wp2_with (with_reducible refine a0o a0S (by omega) (by assumption) ?_)
     go_ret
     exact⟨rfl,a0j hv'.out.symm⟩
    ·have hg:a4r l n i=true:=by rw[he.out];simp;omega
     have hg':=hid hg;clear hg;go_wp2_with (with_reducible refine a0o a0S (by omega) (by assumption) ?_)
     go_round
     case rel=>exact⟨i+1,by go_num,by omega,a0Y hok.out hg'.out⟩
     case measure=>simp[intOf];omega
   ·have hg:a4r l n i=true:=by rw[he.out];simp;omega
    have hg':=hid hg;clear hg;go_wp2_with (with_reducible refine a0o a0S (by omega) (by assumption) ?_)
    go_round
    case rel=>exact⟨i+1,by go_num,by omega,a0Y hok.out hg'.out⟩
    case measure=>simp[intOf];omega
  ·have hv:Hid (a2N l n=true):=hid (a1G fun j hj=>hok.out j (by omega))
   go_wp2_with fail
   go_ret
   exact⟨rfl,a0j hv.out.symm⟩
set_option maxHeartbeats 400000 in
theorem a5U (X:Nat->Bool) (ao:Option Addr) (l:List Int) (cap:Nat) (n:Int) (w:World) (hs:Sl (a0i .i64) 1 (mk X w) ao l) (hl:l.length<=1099511627776):
  Calls Tryz.prog 129 #[.slice ao l.length cap, .int .i64 n] w fun e w'=>w=w'/\e= .returned (.bool (a2N l n&&decide (0<l.length))):=by
 have hh:=hs.hd;go_enter Tryz.func129,Tryz.ntmps129
 go_wp2_with fail
 go_loop [9] (fun c=>∃i:Nat,c= .int .i64 i/\i<=l.length/\Hid (∀j,j<i->a4r l n j=true)) (fun c=>l.length - (intOf c).toNat)
 case atStart=>exact⟨0,rfl,Nat.zero_le _,fun j hj=>by omega⟩
 case round=>
  obtain⟨i,rfl,hi,hok⟩:=hrel;by_cases hlt:i<l.length
  ·have hc:=hs.int i hlt
   have hc2:=hs.int (i - 1) (by omega);have e1:=a1K hlt;have e2:=a1K (l:=l) (i:=i - 1) (by omega);obtain⟨x,hx⟩:∃x,l[i]=x:=⟨_,rfl⟩;obtain⟨y,hy⟩:∃y,l[i - 1]'(by omega)=y:=⟨_,rfl⟩;rw[hx]at hc e1;rw[hy]at hc2 e2;have he:=hid (a9a (n:=n) e1 e2);clear e1 e2 hx hy;have bad:Hid (a4r l n i=false->a2N l n=false):=hid fun h=>a1h i hlt h;by_cases h1:x<0
   ·have hv:a2N l n=false:=bad.out (by rw[he.out];simp;omega)
    have hv':=hid hv;clear hv;go_wp2_with (with_reducible refine a0o a0S (by omega) (by assumption) ?_)
    go_ret
    exact⟨rfl,a0j (by rw[hv'.out];rfl)⟩
   by_cases h2:n<=x
   ·have hv:a2N l n=false:=bad.out (by rw[he.out];simp;omega)
    have hv':=hid hv;clear hv;go_wp2_with (with_reducible refine a0o a0S (by omega) (by assumption) ?_)
    go_ret
    exact⟨rfl,a0j (by rw[hv'.out];rfl)⟩
   by_cases h3:0<i
   ·by_cases h4:x<=y
    ·have hv:a2N l n=false:=bad.out (by rw[he.out];simp;omega)
     have hv':=hid hv;clear hv;go_wp2_with (with_reducible refine a0o a0S (by omega) (by assumption) ?_)
     go_ret
     exact⟨rfl,a0j (by rw[hv'.out];rfl)⟩
    ·have hg:a4r l n i=true:=by rw[he.out];simp;omega
     have hg':=hid hg;clear hg;go_wp2_with (with_reducible refine a0o a0S (by omega) (by assumption) ?_)
     go_round
     case rel=>exact⟨i+1,by go_num,by omega,a0Y hok.out hg'.out⟩
     case measure=>simp[intOf];omega
   ·have hg:a4r l n i=true:=by rw[he.out];simp;omega
    have hg':=hid hg;clear hg;go_wp2_with (with_reducible refine a0o a0S (by omega) (by assumption) ?_)
    go_round
    case rel=>exact⟨i+1,by go_num,by omega,a0Y hok.out hg'.out⟩
    case measure=>simp[intOf];omega
  ·have hv:Hid (a2N l n=true):=hid (a1G fun j hj=>hok.out j (by omega))
   go_wp2_with fail
   go_ret
   exact⟨rfl,a0j (by rw[hv.out];simp)⟩
theorem a2c (X:Nat->Bool) (ao bo:Option Addr) (a b:List Int) (ca cb:Nat) (w:World) (hsa:Sl (a0i .i64) 1 (mk X w) ao a) (hsb:Sl (a0i .i64) 1 (mk X w) bo b) (hla:a.length<=1099511627776) (hlb:b.length<=1099511627776):
  Calls Tryz.prog 193 #[.slice ao a.length ca, .slice bo b.length cb] w fun e w'=>w=w'/\e= .returned (.bool (a2O a b)):=by
 have hha:=hsa.hd;have hhb:=hsb.hd;go_enter Tryz.func193,Tryz.ntmps193
 go_wp2_with fail
 go_loop [11] (fun c=>∃i:Nat,c= .int .i64 i/\i<=a.length/\Hid (∀p,p<i->∀(hp:p<a.length) q (hq:q<b.length),a[p]≠b[q])) (fun c=>a.length - (intOf c).toNat)
 case atStart=>exact⟨0,rfl,Nat.zero_le _,fun p hp=>by omega⟩
 case round=>
  obtain⟨i,rfl,hi,hok⟩:=hrel;by_cases hlt:i<a.length
  ·have hc:=hsa.int i hlt
   obtain⟨x,hx⟩:∃x,a[i]=x:=⟨_,rfl⟩;rw[hx]at hc;have hx':=hid hx;clear hx;go_wp2_with (with_reducible refine a0o a0S (by omega) (by assumption) ?_)
   go_loop [17] (fun c=>∃j:Nat,c= .int .i64 j/\j<=b.length/\Hid (∀q,q<j->∀(hq:q<b.length),x≠b[q])) (fun c=>b.length - (intOf c).toNat)
   case atStart=>exact⟨0,rfl,Nat.zero_le _,fun p hp=>by omega⟩
   case round=>
    obtain⟨j,rfl,hj,hok2⟩:=hrel;by_cases hlj:j<b.length
    ·have hc2:=hsb.int j hlj
     obtain⟨y,hy⟩:∃y,b[j]=y:=⟨_,rfl⟩;rw[hy]at hc2;have hy':=hid hy;clear hy;by_cases hxy:x=y
     ·have hv:Hid (a2O a b=true):=hid (b0M hlt hlj (by rw[hx'.out,hy'.out,hxy]))
      have hb:(x==y)=true:=a8d hxy;have hxy':=hid hxy;clear hxy;go_wp2_with (with_reducible refine a0o a0S (by omega) (by assumption) ?_)
      go_ret
      exact⟨rfl,a0j (by rw[hv.out]<;>rfl)⟩
     ·have hb:(x==y)=false:=a2f hxy
      have hn:Hid (∀hq:j<b.length,x≠b[j]):=hid fun _=>by rw[hy'.out];exact hxy
      clear hxy;go_wp2_with (with_reducible refine a0o a0S (by omega) (by assumption) ?_)
      go_round
      case rel=>exact⟨j+1,by go_num,by omega,a0Y hok2.out hn.out⟩
      case measure=>simp[intOf];omega
    ·have hn:Hid (∀(hp:i<a.length) q (hq:q<b.length),a[i]≠b[q]):=hid fun _ q hq=>by rw[hx'.out];exact hok2.out q (by omega) hq
     go_wp2_with fail
     go_round
     case rel=>exact⟨i+1,by go_num,by omega,a0Y hok.out hn.out⟩
     case measure=>simp[intOf];omega
  ·have hv:Hid (a2O a b=false):=hid (a9P fun p hp q hq=>hok.out p (by omega) hp q hq)
   go_wp2_with fail
   go_ret
   exact⟨rfl,a0j (by rw[hv.out]<;>rfl)⟩
theorem a2D (X:Nat->Bool) (ao:Option Addr) (l:List Int) (cap:Nat) (n m:Int) (w:World) (hs:Sl (a0i .i64) 1 (mk X w) ao l) (hl:l.length<=1099511627776):
  Calls Tryz.prog 192 #[.slice ao l.length cap, .int .i64 n, .int .i64 m] w fun e w'=>w=w'/\e= .returned (.bool (decide ((l.length:Int)<=m)&&a2N l n)):=by
 by_cases hm:(l.length:Int)<=m
 ·by_cases h0:l.length=0
  ·have hv:Hid (a2N l n=true):=hid (by
                         have:l= []:=List.eq_nil_of_length_eq_zero h0;subst this;rfl)
   have hb:((l.length:Int)==0)=true:=a8d (by omega);have hd:decide ((l.length:Int)<=m)=true:=decide_eq_true hm;have h0':=hid h0;clear h0;go_enter Tryz.func192,Tryz.ntmps192
   go_wp2_with fail
   go_ret
   exact⟨rfl,a0j (by rw[hv.out];simpa using hm)⟩
  ·have hb:((l.length:Int)==0)=false:=a2f (by omega)
   have hd:decide ((l.length:Int)<=m)=true:=decide_eq_true hm;have hp:Hid (decide (0<l.length)=true):=hid (decide_eq_true (by omega));go_enter Tryz.func192,Tryz.ntmps192
   go_wp2_with fail
   refine(a5U X ao l cap n w hs hl).mono ?_;rintro e w' ⟨rfl,rfl⟩;rw[hp.out,Bool.and_true];go_wp2_with fail
   go_ret
   exact⟨rfl,a0j (by simp[hm])⟩
 ·have hd:decide ((l.length:Int)<=m)=false:=decide_eq_false hm
  go_enter Tryz.func192,Tryz.ntmps192
  go_wp2_with fail
  go_ret
  exact⟨rfl,a0j rfl⟩
def tbm (tb:Nat):Nat->Bool:=fun k=>k==tb
theorem b3j (tb:Nat):tbm tb tb=true:=by simp[tbm]
theorem a2T {tb k:Nat} (h:k≠tb):tbm tb k=false:=by simpa[tbm]using h
def a0z (X:Nat->Bool) (tb:Nat) (w:World):Prop:=
 X tb=true/\∃(lo:Option Addr) (l:List Int) (cap at_:Nat),w.heap[tb]? =some (.cells #[.slice lo l.length cap, .int .i64 (at_:Int)] 99 (0,0))/\l.length<=400/\at_<=l.length/\Sl (a0i .i64) 1 (mk X w) lo l
theorem a1n {X:Nat->Bool} {tb:Nat} (h:X tb=true):∀k,tbm tb k=true->X k=true:=fun k hk=>by
 have:k=tb:=by simpa[tbm]using hk
 rw[this];exact h
theorem a0z.lt {X:Nat->Bool} {tb:Nat} {w:World} (h:a0z X tb w):tb<w.heap.size:=by
 obtain⟨_,lo,l,cap,at_,h1,_⟩:=h;by_cases hl:tb<w.heap.size
 ·exact hl
 ·rw[Array.getElem?_eq_none (by omega)]at h1;simp at h1
theorem a0z.ext {X:Nat->Bool} {tb:Nat} {w w':World} (h:a0z X tb w) (hE:Ext w w'):a0z X tb w':=by
 have hlt:=h.lt;obtain⟨hX,lo,l,cap,at_,h1,h2,h3,h4⟩:=h;exact⟨hX,lo,l,cap,at_,by rw[hE.block tb hlt rfl];exact h1,h2,h3,h4.mono (a0i.mono _) (a0h hE)⟩
theorem a0z.extY {X Y:Nat->Bool} {tb:Nat} {w w':World} (h:a0z X tb w) (hE:ExtX Y w w') (hY:∀k,Y k=true->X k=true) (ht:Y tb=false):a0z X tb w':=by
 have hlt:=h.lt;obtain⟨hX,lo,l,cap,at_,h1,h2,h3,h4⟩:=h;exact⟨hX,lo,l,cap,at_,by rw[hE.block tb hlt ht];exact h1,h2,h3,h4.mono (a0i.mono _) (a0w hE hY)⟩
def b5t (X:Nat->Bool) (tb:Nat) (w:World) (n:Int) (e:Ending) (w':World):Prop:=
 ExtX (tbm tb) w w'/\a0z X tb w'/\∃m:Nat,e= .returned (.int .i64 (m:Int))/\((m:Int)<n\/m=0)
theorem b3k (v n:Int) (w:World) (h1:1<=n) (h2:n<=1099511627776):
  Calls Tryz.prog 102 #[.int .i64 v, .int .i64 n] w (fun e w'=>e= .returned (.int .i64 (v%n))/\w'=w):=by
 have hn0:(n==0)=false:=a2f (by omega);have hlo: -n<v.tmod n:=Int.lt_tmod_of_pos v (by omega);have hhi:v.tmod n<n:=Int.tmod_lt_of_pos v (by omega);have hem:(v.tmod n<0->v.tmod n+n=v%n)/\(0<=v.tmod n->v.tmod n=v%n):=by
  have h:=Int.tmod_eq_emod (a:=v) (b:=n);have e0:=Int.emod_nonneg v (show n≠0 by omega);have e1:=Int.emod_lt_of_pos v (show 0<n by omega);split at h<;>omega
 have hem':=hid hem;clear hem;go_enter Tryz.func102,Tryz.ntmps102
 go_wp2_with fail
 ·go_ret
  exact⟨a0K (hem'.out.1 (by assumption)),rfl⟩
 ·go_ret
  exact⟨a0K (hem'.out.2 (by assumption)),rfl⟩
theorem a0z.cells {X:Nat->Bool} {tb:Nat} {w:World} (h:a0z X tb w):∃(lo:Option Addr) (l:List Int) (cap at_:Nat),w.cell? ⟨tb,0,none⟩=some (.slice lo l.length cap)/\w.cell? ⟨tb,1,none⟩=some (.int .i64 (at_:Int))/\w.frozen? ⟨tb,1,none⟩=false/\l.length<=400/\at_<=l.length/\Sl (a0i .i64) 1 (mk X w) lo l/\
  ∀at':Nat,at'<=l.length->a0z X tb (w.setCell ⟨tb,1,none⟩ (.int .i64 (at':Int)))/\ExtX (tbm tb) w (w.setCell ⟨tb,1,none⟩ (.int .i64 (at':Int)))/\
   (w.setCell ⟨tb,1,none⟩ (.int .i64 (at':Int))).cell? ⟨tb,0,none⟩=some (.slice lo l.length cap)/\(w.setCell ⟨tb,1,none⟩ (.int .i64 (at':Int))).cell? ⟨tb,1,none⟩=some (.int .i64 (at':Int)):=by
 have hlt:=h.lt;obtain⟨hX,lo,l,cap,at_,h1,h2,h3,h4⟩:=h;refine⟨lo,l,cap,at_,by simp[World.cell?,h1],by simp[World.cell?,h1],by simp[World.frozen?,h1],h2,h3,h4,fun at' ha=>?_⟩;have hE:ExtX (tbm tb) w (w.setCell ⟨tb,1,none⟩ (.int .i64 (at':Int))):=
  ⟨rfl,rfl,rfl,by simp[World.setCell],fun k hk hy=>Below.heap_setCell _ _ _ _ (fun e=>by subst e;simp[tbm]at hy)⟩
 have hn:(w.setCell ⟨tb,1,none⟩ (.int .i64 (at':Int))).heap[tb]? =some (.cells #[.slice lo l.length cap, .int .i64 (at':Int)] 99 (0,0)):=by
  simp only[World.setCell,Array.getElem?_modify,h1];simp
 exact⟨⟨hX,lo,l,cap,at',hn,h2,ha,h4.mono (a0i.mono _) (a0w hE (a1n hX))⟩,hE,by unfold World.cell?;rw[hn];rfl,by unfold World.cell?;rw[hn];rfl⟩
theorem a0z.drewN {X:Nat->Bool} {tb:Nat} {w:World} (h:a0z X tb w) (n:Nat):a0z X tb (w.drewN n):=h
set_option maxHeartbeats 800000 in
theorem a0R (X:Nat->Bool) (tb:Nat) (n:Int) (w:World) (ht:a0z X tb w) (hn:n<=1099511627776):
  Calls Tryz.prog 40 #[.pointer (some ⟨tb,0,none⟩), .int .i64 n] w (b5t X tb w n):=by
 obtain⟨lo,l,cap,at_,c0,c1,f1,hl,hat,hs,hset⟩:=ht.cells;have hh:=hs.hd;by_cases h1:n<1
 ·have hd:decide (n<1)=true:=decide_eq_true h1
  go_enter Tryz.func40,Tryz.ntmps40
  go_wp2_with fail
  go_quiet (fail)
  go_wp2_with fail
  go_ret
  exact⟨(ExtX.refl _).drewN _,ht.drewN _,0,rfl, .inr rfl⟩
 have hd:decide (n<1)=false:=decide_eq_false h1;by_cases h2:at_<l.length
 ·obtain⟨ht2,hE2,k0,k1⟩:=hset (at_+1) (by omega)
  have hs2:=(hs.mono (a0i.mono _) (a0w hE2 (a1n ht.1))).int at_ h2;obtain⟨x,hx⟩:∃x,l[at_]=x:=⟨_,rfl⟩;rw[hx]at hs2;clear hx hset;have e1:((at_+1:Nat):Int)=(at_:Int)+1:=by omega
  rw[e1]at k0 k1 hs2 ht2 hE2;have kk0:∀N,((w.drewN N).setCell ⟨tb,1,none⟩ (.int .i64 ((at_:Int)+1))).cell? ⟨tb,0,none⟩=some (.slice lo l.length cap):=fun _=>k0;have kk1:∀N,((w.drewN N).setCell ⟨tb,1,none⟩ (.int .i64 ((at_:Int)+1))).cell? ⟨tb,1,none⟩=some (.int .i64 ((at_:Int)+1)):=fun _=>k1;have kk2:∀N,((w.drewN N).setCell ⟨tb,1,none⟩ (.int .i64 ((at_:Int)+1))).cell? (adr lo at_)=some (.int .i64 x):=fun _=>hs2;have ew:IntKind.i64.wrap ((at_:Int)+1 - 1)=(at_:Int):=by rw[IntWalk.i64_in _ (by omega)];omega
  have ht3:∀N,a0z X tb ((w.drewN N).setCell ⟨tb,1,none⟩ (.int .i64 ((at_:Int)+1))):=fun _=>ht2;have hE3:∀N,ExtX (tbm tb) w ((w.drewN N).setCell ⟨tb,1,none⟩ (.int .i64 ((at_:Int)+1))):=fun _=>⟨hE2.os,hE2.tape,hE2.output,hE2.size,hE2.block⟩;have ht4:=hid ht3;have hE4:=hid hE3;clear e1 ht2 hE2 k0 k1 ht3 hE3;have hd2:decide ((l.length:Int)<=(at_:Int))=false:=decide_eq_false (by omega);have i1:∀W,(Instr.indexAt 22 (.slice lo l.length cap) (.int .i64 (at_:Int))).run Tryz.prog W= .ok (.pointer (some (adr lo at_))) W:=a0I a0S lo l.length cap .i64 at_ hh h2 rfl;go_enter Tryz.func40,Tryz.ntmps40
  go_wp2_with fail
  go_quiet (fail)
  go_wp2_with fail
  have hm0:=Int.emod_nonneg x (show n≠0 by omega);have hm1:=Int.emod_lt_of_pos x (show 0<n by omega);obtain⟨m,hm⟩:=Int.eq_ofNat_of_zero_le hm0;have hm':=hid hm;have hm2:Hid ((m:Int)<n):=hid (by rw[<-hm];exact hm1);clear hm hm0 hm1
  go_quiet ((go_at_call 102;exact Calls.quiet_of_same (b3k x n _ (by omega) (by omega))))
  go_wp2_with fail
  go_ret
  exact⟨(hE4.out _).drewN _,(ht4.out _).drewN _,m,a0K hm'.out, .inl hm2.out⟩
 ·have hd2:decide ((l.length:Int)<=(at_:Int))=true:=decide_eq_true (by omega)
  go_enter Tryz.func40,Tryz.ntmps40
  go_wp2_with fail
  go_quiet (fail)
  go_wp2_with fail
  go_ret
  exact⟨(ExtX.refl _).drewN _,ht.drewN _,0,rfl, .inr rfl⟩
def b3l (X:Nat->Bool) (tb:Nat) (w:World) (e:Ending) (w':World):Prop:=ExtX (tbm tb) w w'/\a0z X tb w'/\∃b:Bool,e= .returned (.bool b)
def a8F (X:Nat->Bool) (tb:Nat) (w:World) (lo hi:Int) (e:Ending) (w':World):Prop:=ExtX (tbm tb) w w'/\a0z X tb w'/\∃m:Int,e= .returned (.int .i64 m)/\lo<=m/\m<=hi
theorem a4D (X:Nat->Bool) (tb:Nat) (n:Int) (w:World) (ht:a0z X tb w) (h1: -1000<=n) (hn:n<=1099511627776):
  Calls Tryz.prog 21 #[.pointer (some ⟨tb,0,none⟩), .int .i64 n] w (b3l X tb w):=by
 go_enter Tryz.func21,Tryz.ntmps21
 go_wp2_with fail
 refine(a0R X tb n _ ht hn).mono ?_;rintro e w1 ⟨hE,ht1,m,rfl,hm⟩;go_wp2_with fail
 go_ret
 exact⟨hE,ht1,_,rfl⟩
theorem b3m (X:Nat->Bool) (tb:Nat) (lo:Option Addr) (l:List Int) (cap:Nat) (w:World) (a b:Int) (ht:a0z X tb w) (hs:Sl (a0i .i64) 1 (mk X w) lo l) (h0:0<l.length) (hl:l.length<=1000) (hab:Hid (∀x∈l,a<=x/\x<=b)):
  Calls Tryz.prog 29 #[.pointer (some ⟨tb,0,none⟩), .slice lo l.length cap] w (a8F X tb w a b):=by
 have hh:=hs.hd;go_enter Tryz.func29,Tryz.ntmps29
 go_wp2_with fail
 refine(a0R X tb _ _ ht (by omega)).mono ?_;rintro e w1 ⟨hE,ht1,m,rfl,hm⟩;have hml:m<l.length:=by omega
 have hc:=(hs.mono (a0i.mono _) (a0w hE (a1n ht.1))).int m hml;have hr:=hab.out l[m] (List.getElem_mem hml);obtain⟨x,hx⟩:∃x,l[m]=x:=⟨_,rfl⟩;rw[hx]at hc hr;clear hx;go_wp2_with (with_reducible refine a0o a0S (by omega) (by assumption) ?_)
 go_ret
 exact⟨hE,ht1,x,rfl,hr.1,hr.2⟩
theorem b3n (lo:Option Addr) (l:List Int) (cap:Nat) (w:World) (hs:Sl (a0i .i64) 1 w.cell? lo l) (hl:l.length<=cap) (hb:l.length<=9223372036854775807):
  Calls Tryz.prog 13 #[.slice lo l.length cap] w (fun e w'=>e= .returned (.pointer (some ⟨w.heap.size,0,none⟩))/\Ext w w'/\a0z (tbm w.heap.size) w.heap.size w'/\w'.heap.size=w.heap.size+1):=by
 have key:∀(l:List Int),l.length<=400->Sl (a0i .i64) 1 w.cell? lo l->a0z (tbm w.heap.size) w.heap.size (w.alloc (.cells #[.slice lo l.length cap, .int .i64 0] 99)):=by
  intro l hl hs;refine⟨b3j _,lo,l,cap,0,heap_alloc_new w _,hl,Nat.zero_le _,?_⟩;rw[<-a6k]at hs;refine hs.mono (a0i.mono _) (a0N ((ExtX.refl (Y:=noY) w).alloc _) (fun k _ hk=>by simp[noY]at hk) fun k hk hz=>?_);have:k=w.heap.size:=by simpa[tbm]using hz
  omega
 have hE:∀u v,Ext w (w.alloc (.cells #[u,v] 99)):=fun u v=>(ExtX.refl w).alloc _;by_cases h4:400<l.length
 ·have ht:=hid (key (l.take 400) (by simp;omega) (hs.take 400))
  have hlen:(l.take 400).length=400:=by simp;omega
  rw[hlen]at ht;clear key hlen;go_enter Tryz.func13,Tryz.ntmps13
  go_wp2_with fail
  go_ret
  exact⟨rfl,hE _ _,ht.out,by simp⟩
 ·have ht:=hid (key l (by omega) hs)
  clear key;go_enter Tryz.func13,Tryz.ntmps13
  go_wp2_with fail
  go_ret
  exact⟨rfl,hE _ _,ht.out,by simp⟩
theorem b1C (l:List Int):(l.map (Value.int .i64)).flatMap a0n=l.map (Value.int .i64):=by
 induction l with
 |nil=>rfl
 |cons x l ih=>simp only[List.map_cons,List.flatMap_cons,ih];rfl
theorem a9x (X:Nat->Bool) (w:World) (l:List Int) (e:TypeId) (arr:Array Value) (harr:arr=(l.map (Value.int .i64)).toArray) (hX:∀k,X k=true->k<w.heap.size) (hl:l.length<=1000):
  OL (a0i .i64) 1 X w.heap.size e (w.alloc (.cells arr e)) (some ⟨w.heap.size,0,none⟩) l.length l:=by
 refine OL.lit (a0i.elem .i64) hX (Nat.le_refl _) (l.map (Value.int .i64)) l arr ?_ (by simp) (fun i hi hi'=>by simp[a0i]) (by omega);rw[harr,b1C]
theorem a3I (X:Nat->Bool) (tb:Nat) (l:List Int) (arr:Array Value) (e:TypeId) (len:Nat) (w:World) (a b:Int) (ht:a0z X tb w) (hX:∀k,X k=true->k<w.heap.size) (harr:arr=(l.map (Value.int .i64)).toArray) (hlen:len=l.length) (h0:0<l.length) (hl:l.length<=1000) (hab:Hid (∀x∈l,a<=x/\x<=b)):
  Calls Tryz.prog 29 #[.pointer (some ⟨tb,0,none⟩), .slice (some ⟨w.heap.size,0,none⟩) len len] (w.alloc (.cells arr e)) (a8F X tb w a b):=by
 subst hlen;have hE:Ext w (w.alloc (.cells arr e)):=(ExtX.refl w).alloc _;refine(b3m X tb _ l _ _ a b (ht.ext hE) (OL.sl (a0i.elem .i64) (a9x X w l e arr harr hX hl)) h0 hl hab).mono ?_;rintro e' w' ⟨hE',ht',r⟩;exact⟨(ExtX.of hE).trans hE',ht',r⟩
theorem b1D (X:Nat->Bool) (tb:Nat) (n:Int) (w:World) (ht:a0z X tb w) (hX:∀k,X k=true->k<w.heap.size) (h1: -1000<=n) (hn:n<=1099511627776):
  Calls Tryz.prog 17 #[.pointer (some ⟨tb,0,none⟩), .int .i64 n] w (a8F X tb w (min (-1) n) (max 1 (n+1))):=by
 go_enter Tryz.func17,Tryz.ntmps17
 go_wp2_with fail
 refine(a0R X tb 4 _ ht (by omega)).mono ?_;rintro e w1 ⟨hE,ht1,m,rfl,hm⟩;have hX1:∀k,X k=true->k<w1.heap.size:=fun k hk=>Nat.lt_of_lt_of_le (hX k hk) hE.size;by_cases h2:m<3
 ·by_cases h3:0<n
  ·go_wp2_with fail
   refine(a0R X tb n _ ht1 hn).mono ?_;rintro e w2 ⟨hE2,ht2,m2,rfl,hm2⟩;go_wp2_with fail
   go_ret
   exact⟨hE.trans hE2,ht2,_,rfl,by omega,by omega⟩
  ·go_wp2_with fail
   refine(a3I X tb [0,n,n+1,-1,1] _ _ _ w1 (min (-1) n) (max 1 (n+1)) ht1 hX1 rfl rfl (by simp) (by simp) (hid (by simp;omega))).mono ?_;rintro e w2 ⟨hE2,ht2,m2,rfl,hm2,hm3⟩;go_wp2_with fail
   go_ret
   exact⟨hE.trans hE2,ht2,_,rfl,hm2,hm3⟩
 ·go_wp2_with fail
  refine(a3I X tb [0,n,n+1,-1,1] _ _ _ w1 (min (-1) n) (max 1 (n+1)) ht1 hX1 rfl rfl (by simp) (by simp) (hid (by simp;omega))).mono ?_;rintro e w2 ⟨hE2,ht2,m2,rfl,hm2,hm3⟩;go_wp2_with fail
  go_ret
  exact⟨hE.trans hE2,ht2,_,rfl,hm2,hm3⟩
def a9y (X:Nat->Bool) (tb:Nat) (w:World) (m:Nat) (e:Ending) (w':World):Prop:=ExtX (tbm tb) w w'/\∃(ao:Option Addr) (l:List Int) (cap:Nat),e= .returned (.slice ao l.length cap)/\l.length<=cap/\l.length<=m/\a0z (un X ao) tb w'/\OL (a0i .i64) 1 X w.heap.size 3 w' ao cap l
theorem a0z.unstep {X:Nat->Bool} {tb:Nat} {w w':World} {oo oo':Option Addr} (h:a0z (un X oo) tb w) (hb:ob oo tb=false) (hE:ExtX (ob oo) w w') (ho:oo'=oo\/∃g,oo'=some ⟨g,0,none⟩/\w.heap.size<=g):a0z (un X oo') tb w':=by
 have hlt:=h.lt;obtain⟨hX,lo,l,cap,at_,h1,h2,h3,h4⟩:=h;refine⟨?_,lo,l,cap,at_,by rw[hE.block tb hlt hb];exact h1,h2,h3,h4.unstep (a0i.mono _) hE ho⟩;have:X tb=true:=by simpa[un,hb]using hX
 exact a0p this
theorem a0z.unX {X:Nat->Bool} {tb:Nat} {w:World} {oo:Option Addr} (h:a0z (un X oo) tb w) (hX:X tb=true):a0z X tb w:=by
 obtain⟨_,lo,l,cap,at_,h1,h2,h3,h4⟩:=h;exact⟨hX,lo,l,cap,at_,h1,h2,h3,h4.unX (a0i.mono _)⟩
theorem a8x (X:Nat->Bool):un X none=X:=by funext k;simp[un,ob]
theorem a0z.none {X:Nat->Bool} {tb:Nat} {w:World} (h:a0z X tb w):a0z (un X none) tb w:=by rw[a8x];exact h
theorem a0z.old {X:Nat->Bool} {tb:Nat} {w w':World} {oo:Option Addr} (h:a0z X tb w) (hE:Ext w w') (hb:∀j,j<w.heap.size->ob oo j=false):a0z (un X oo) tb w':=by
 have hlt:=h.lt;obtain⟨hX,lo,l,cap,at_,h1,h2,h3,h4⟩:=h;exact⟨a0p hX,lo,l,cap,at_,by rw[hE.block tb hlt rfl];exact h1,h2,h3,h4.old (a0i.mono _) hE hb⟩
theorem _root_.Go.Rep.OL.not_ob {α:Type} {R:Mem->Value->α->Prop} {sz base cap:Nat} {e:TypeId} {ao:Option Addr} {l:List α} {X:Nat->Bool} {w:World} (ho:OL R sz X base e w ao cap l) {k:Nat} (hk:X k=true):ob ao k=false:=by
 have h:∀k,ob ao k=true->X k=false:=ho.1;cases hh:ob ao k
 ·rfl
 ·rw[h k hh]at hk;simp at hk
theorem a3U (w:World):∀j,j<w.heap.size->ob (some ⟨w.heap.size,0,none⟩) j=false:=fun j hj=>by
 cases hh:ob (some ⟨w.heap.size,0,none⟩) j
 ·rfl
 ·have:w.heap.size=j:=by simpa[ob]using hh
  omega
theorem b0e (X:Nat->Bool) (tb:Nat) (n:Int) (w:World) (ht:a0z X tb w) (hX:∀k,X k=true->k<w.heap.size) (h1: -1000<=n) (hn:n<=1000):
  Calls Tryz.prog 128 #[.pointer (some ⟨tb,0,none⟩), .int .i64 n] w (a9y X tb w (max n.toNat 1)):=by
 have hsub:=a1n ht.1;go_enter Tryz.func128,Tryz.ntmps128
 go_wp2_with fail
 go_loopw [5,6] (fun s c wr=>∃(i:Nat) (ao:Option Addr) (cap:Nat) (l:List Int),c= .int .i64 i/\s= .slice ao l.length cap/\l.length<=cap/\l.length<=i/\i<=n.toNat/\OL (a0i .i64) 1 X w.heap.size 3 wr ao cap l/\a0z (un X ao) tb wr/\ExtX (tbm tb) w wr) (fun _ c _=>n.toNat - (intOf c).toNat)
 case atStart=>exact⟨0,none,0,[],rfl,rfl,Nat.zero_le _,Nat.zero_le _,Nat.zero_le _,OL.nil _ _ _ _ _ _,ht.none,ExtX.refl _⟩
 case round=>
  obtain⟨i,ao,cap,l,rfl,rfl,hc,hli,hin,hO,htr,hE⟩:=hrel;by_cases hlt:(i:Int)<n
  ·go_wp2_with fail
   refine(a4D (un X ao) tb 2 _ htr (by omega) (by omega)).mono ?_;rintro e w2 ⟨hE2,ht2,b,rfl⟩;have hO2:=hO.ext (a0i.elem .i64) hE2 (fun k _ hk=>hsub k hk) (fun _ _ h=>h);have hXr:∀k,X k=true->k<w2.heap.size:=fun k hk=>Nat.lt_of_lt_of_le (hX k hk) (hE.trans hE2).size;have hE3:=hE.trans hE2;have hbase:=hE3.size;clear hO htr hE hE2;cases b
   ·go_wp2_with fail
    go_roundw
    case rel=>exact⟨i+1,ao,cap,l,by go_num,rfl,hc,by omega,by omega,hO2,ht2,hE3⟩
    case measure=>simp[intOf];omega
   ·go_wp2_with (at_builtin;refine a1O a0S rfl (a0i.elem .i64) hbase hXr rfl rfl hO2 (.int .i64 i) (i:Int) rfl rfl (by omega) (by omega) ?_;intro ao' cap' w3 hO3 hE4 hor)
    have hE5:=hE3.own hO2 (Nat.le_refl _) hE4;have ht3:=ht2.unstep (hO2.not_ob ht.1) hE4 hor;have hc3:=hO3.lenCap;have hl3:(l++[(i:Int)]).length<=i+1:=by simp;omega
    go_roundw
    case rel=>exact⟨i+1,ao',cap',_,by go_num,by rw[List.length_append];rfl,hc3,hl3,by omega,hO3,ht3,hE5⟩
    case measure=>simp[intOf];omega
  ·have hbase:=hE.size
   have hXr:∀k,X k=true->k<wr.heap.size:=fun k hk=>Nat.lt_of_lt_of_le (hX k hk) hE.size;by_cases h0:l.length=0
   ·by_cases hn0:0<n
    ·go_wp2_with fail
     refine(a0R (un X ao) tb n _ htr (by omega)).mono ?_;rintro e w2 ⟨hE2,ht2,m,rfl,hm⟩;have hXr2:∀k,X k=true->k<w2.heap.size:=fun k hk=>Nat.lt_of_lt_of_le (hXr k hk) hE2.size;have hO2:=(a9x X w2 [(m:Int)] 3 _ rfl hXr2 (by simp)).base_le (b':=w.heap.size) (by have:=hE2.size;omega);go_wp2_with fail
     go_ret
     exact⟨(hE.trans hE2).alloc _,_,[(m:Int)],_,rfl,by simp,by simp;omega,(ht2.unX ht.1).old ((ExtX.refl _).alloc _) (a3U _),hO2⟩
    ·go_wp2_with fail
     go_ret
     exact⟨hE,_,l,_,a0X h0.symm,hc,by omega,htr,hO⟩
   ·go_wp2_with fail
    go_ret
    exact⟨hE,_,l,_,rfl,hc,by omega,htr,hO⟩
theorem a9z (X:Nat->Bool) (tb:Nat) (n:Int) (w:World) (ht:a0z X tb w) (hX:∀k,X k=true->k<w.heap.size) (h1: -1000<=n) (hn:n<=1000):
  Calls Tryz.prog 66 #[.pointer (some ⟨tb,0,none⟩), .int .i64 n] w (a9y X tb w (max n.toNat 1+1)):=by
 have hsub:=a1n ht.1;go_enter Tryz.func66,Tryz.ntmps66
 go_wp2_with fail
 refine(b0e X tb n w ht hX h1 hn).mono ?_;rintro e w1 ⟨hE1,ao,l,cap,rfl,hc,hl,ht1,hO⟩;go_wp2_with fail
 refine(a0R (un X ao) tb 8 w1 ht1 (by omega)).mono ?_;rintro e w2 ⟨hE2,ht2,m,rfl,hm⟩;have hO2:=hO.ext (a0i.elem .i64) hE2 (fun k _ hk=>hsub k hk) (fun _ _ h=>h);have hE3:=hE1.trans hE2;have hbase:=hE3.size;have hX2:∀k,X k=true->k<w2.heap.size:=fun k hk=>Nat.lt_of_lt_of_le (hX k hk) hE3.size;have hXu:=hO2.unX hX2;have hm8:m<8:=by omega
 clear hO ht1 hE1 hE2 hm;rcases(by omega:m<4\/m=4\/m=5\/m=6\/m=7)with h|rfl|rfl|rfl|rfl
 ·go_wp2_with fail
  go_ret
  exact⟨hE3,_,l,_,rfl,hc,by omega,ht2,hO2⟩
 ·go_wp2_with fail
  refine(a3I (un X ao) tb [n,-1,0] _ _ _ w2 (min (-1) n) (max 0 n) ht2 hXu rfl rfl (by simp) (by simp) (hid (by simp;omega))).mono ?_;rintro e w3 ⟨hE4,ht3,x,rfl,hx1,hx2⟩;have hO3:=hO2.ext (a0i.elem .i64) hE4 (fun k _ hk=>hsub k hk) (fun _ _ h=>h);have hE5:=hE3.trans hE4;have hX3:∀k,X k=true->k<w3.heap.size:=fun k hk=>Nat.lt_of_lt_of_le (hX k hk) hE5.size;have hb3:=hE5.size;go_wp2_with (at_builtin;refine a1O a0S rfl (a0i.elem .i64) hb3 hX3 rfl rfl hO3 (.int .i64 x) x rfl rfl (by omega) (by omega) ?_;intro ao' cap' w4 hO4 hE6 hor)
  have ht4:=ht3.unstep (hO3.not_ob ht.1) hE6 hor;have hE7:=hE5.own hO3 (Nat.le_refl _) hE6;have hc4:=hO4.lenCap;go_ret
  exact⟨hE7,_,l++[x],_,a0X (by rw[List.length_append];rfl),hc4,by simp;omega,ht4,hO4⟩
 ·go_wp2_with fail
  go_ret
  exact⟨hE3,_,[],0,rfl,by simp,by simp,(ht2.unX ht.1).none,OL.nil _ _ _ _ _ _⟩
 ·by_cases hl1:1<l.length
  ·obtain⟨g,cur,rfl,_⟩:∃g,∃cur,ao=some ⟨g,0,none⟩/\w2.heap[g]? =some (.cells cur 3 (0,0)):=by
    rcases hO2.form with⟨_,_,rfl⟩|⟨g,cur,rfl,_,hg,_⟩
    ·simp at hl1
    ·exact⟨g,cur,rfl,hg⟩
   obtain⟨u0,c0,f0,r0⟩:=hO2.cell (a0i.one _) 0 (by omega);obtain⟨u1,c1,f1,r1⟩:=hO2.cell (a0i.one _) 1 (by omega);obtain⟨x0,hx0⟩:∃x,l[0]=x:=⟨_,rfl⟩;obtain⟨x1,hx1⟩:∃x,l[1]=x:=⟨_,rfl⟩;rw[hx0]at r0;rw[hx1]at r1;cases r0;cases r1
   clear hx0 hx1;have c0':w2.cell? ⟨g,0,none⟩=some (.int .i64 x0):=by simpa[adr]using c0
   have f0':w2.frozen? ⟨g,0,none⟩=false:=by simpa[adr]using f0
   have c1':w2.cell? ⟨g,1,none⟩=some (.int .i64 x1):=by simpa[adr]using c1
   have f1':w2.frozen? ⟨g,1,none⟩=false:=by simpa[adr]using f1
   clear c0 f0 c1 f1;obtain⟨hOa,hEa⟩:=hO2.set1 a8f (a0i.elem _) (a0i.one _) 0 (by omega) (.int .i64 x1) x1 rfl;obtain⟨hOb,hEb⟩:=hOa.set1 a8f (a0i.elem _) (a0i.one _) 1 (by simp;omega) (.int .i64 x0) x0 rfl;have hEc:=(hEa.trans hEb).drew;have hOc:=hOb.ext0 (a0i.elem _) (ExtX.refl _).drew;have a0:adr (some (⟨g,0,none⟩:Addr)) 0=⟨g,0,none⟩:=by simp[adr]
   have a1:adr (some (⟨g,0,none⟩:Addr)) 1=⟨g,1,none⟩:=by simp[adr]
   rw[a0,a1]at hEc hOc;have ht3:=ht2.unstep (hO2.not_ob ht.1) hEc (.inl rfl);have hE4:=hE3.own hO2 (Nat.le_refl _) hEc;clear hOa hOb hEa hEb;go_wp2_with fail
   go_region
   go_wp2_with fail
   go_ret
   exact⟨hE4,_,(l.set 0 x1).set 1 x0,_,a0X (by simp),by simpa using hc,by simp;omega,ht3,hOc⟩
  ·go_wp2_with fail
   go_ret
   exact⟨hE3,_,l,_,rfl,hc,by omega,ht2,hO2⟩
 ·go_wp2_with fail
  refine(a3I (un X ao) tb [-1,0] _ _ _ w2 (-1) 0 ht2 hXu rfl rfl (by simp) (by simp) (hid (by simp))).mono ?_;rintro e w3 ⟨hE4,ht3,x,rfl,hx1,hx2⟩;have hO3:=hO2.ext (a0i.elem .i64) hE4 (fun k _ hk=>hsub k hk) (fun _ _ h=>h);have hE5:=hE3.trans hE4;have hX3:∀k,X k=true->k<w3.heap.size:=fun k hk=>Nat.lt_of_lt_of_le (hX k hk) hE5.size;have hb3:=hE5.size;have hA:Ext w3 (w3.alloc (.cells #[.int .i64 x] 3)):=(ExtX.refl _).alloc _;have hL:=(a9x X w3 [x] 3 _ rfl hX3 (by simp)).base_le (b':=w.heap.size) hb3;have hs:=(hO3.sl (a0i.elem .i64)).old (a0i.mono _) hA (a3U w3);have hX4:∀k,X k=true->k<(w3.alloc (.cells #[.int .i64 x] 3)).heap.size:=fun k hk=>Nat.lt_of_lt_of_le (hX3 k hk) hA.size;go_wp2_with (at_builtin;refine a1P (l:=[x]) a0S rfl (a0i.elem .i64) (Nat.le_trans hb3 hA.size) hX4 l rfl rfl hL hs (by simp;omega) (by simp;omega) ?_;intro ao' cap' w4 hO4 hE6 hor)
  have ht4:=((ht3.unX ht.1).old hA (a3U w3)).unstep (hL.not_ob ht.1) hE6 hor;have hE7:=(hE5.alloc _).own hL (Nat.le_refl _) hE6;have hc4:=hO4.lenCap;go_ret
  exact⟨hE7,_,[x]++l,_,a0X rfl,hc4,by simp;omega,ht4,hO4⟩
end Go.Proofs.YtoibhmjjhgaimaaGreat
namespace Go.Lin
open Go.Lim Go.Rep
end Go.Lin
namespace Go.Proofs.YtoibhmjjhgaimaaGreat
open Go.RowKit Go.Rep Go.Lim Go.Lin
end Go.Proofs.YtoibhmjjhgaimaaGreat
namespace Go.Rep
open Go.RowKit
end Go.Rep
namespace Go.Lin
open Go.Lim Go.Rep
end Go.Lin
namespace Go.Proofs.YtoibhmjjhgaimaaGreat
open Go.RowKit Go.Rep Go.Lim Go.Lin
theorem Bx.store {w:World} {b:Nat} {v0:Value} {T:TypeId} (h:Bx w b #[v0] T) (v:Value):Bx (w.setCell ⟨b,0,none⟩ v) b #[v] T/\ExtX (ob (some ⟨b,0,none⟩)) w (w.setCell ⟨b,0,none⟩ v):=by
 obtain⟨h1,h2⟩:=a0D h v (i:=0) (by simp);exact⟨by simpa using h1,h2⟩
end Go.Proofs.YtoibhmjjhgaimaaGreat
namespace Go.Lin
open Go.Lim Go.Rep
open Classical in
noncomputable def b7P (c:Nat) (z:List Vec):Nat:=if h:∃k,a6a c z k then h.choose else 0
def b7j (p:Mat) (y:List Rat):Bool:=a3B p&&decide (y.length=a0L p)
noncomputable def b7Q (p:Mat) (y:List Rat):Nat:=if b7j p y then b7P (a0L p) (a4C (b7g (a0L p) p y))else 0
end Go.Lin
namespace Go.Proofs.YtoibhmjjhgaimaaGreat
open Go.RowKit Go.Rep Go.Lim Go.Lin
set_option maxRecDepth 100000 in
theorem b6A (X:Nat->Bool) (w:World) (u:Value) (x:Rat) (hX:HX X w) (hu:QV (mk X w) u x):Calls Tryz.prog 85 #[u] w (a1W X w QC x):=by
 obtain⟨s1,a1,n1,c1,d1,k1,e1,rfl⟩:=hu.shape;obtain⟨W,hW,hE,b0,b1,hz⟩:=a1I w #[.bool s1, .slice a1 n1 c1, .slice d1 k1 e1] #[.bool false, .slice none 0 0, .slice none 0 0] 32 32;have hXW:HX (a0f X w.heap.size 2) W:=hX.boxes hz;have hu1:=QV.mono _ _ _ _ (a0m (nb:=2) hE) hu;obtain⟨b,hb⟩:∃b,w.heap.size=b:=⟨_,rfl⟩;have hbw:w.heap.size<=b:=by omega
 rw[hb]at b0 b1 hz hXW hu1;have k00:=b0.cell 0 rfl;have k01:=b0.cell 1 rfl;have k02:=b0.cell 2 rfl;have h0:QV (mk (a0f X b 2) W) (.agg #[.bool false, .slice none 0 0, .slice none 0 0]) 0:=(QC.zero _).qv (by decide+kernel);have hx0:x+0=x:=by grind
 clear hu;go_enter Tryz.func85,Tryz.ntmps85
 go_wp2_with fail
 refine(b6i (a0f X b 2) W _ _ x 0 hXW hu1 h0).mono ?_;rintro ee w5 ⟨hE5,u5,rfl,hq5⟩;rw[hx0]at hq5;obtain⟨s5,a5,n5,c5,d5,k5,e5,rfl⟩:=hq5.shape;have b1':=b1.ext0 hE5;clear k00 k01 k02;go_wp2_with ((with_reducible show wpList _ _ _ (⟨_, .store 32 _ _,_,_,_,_⟩::_) _ _);refine a0d a0s rfl rfl b1' rfl rfl (a2n _ _ _ _ _ _ _) ?_;intro w7 r1 r2)
 have h7:=QC.mono _ _ _ _ a0l (QC.mono _ _ _ _ (a0g r2 (by omega) (by omega)) hq5);exact bodyPost_ret (a0e rfl rfl a0s r1 rfl) rfl ⟨ExtX.box (hE.trans hE5) r2 (by omega),_,rfl,h7⟩
set_option maxRecDepth 100000 in
set_option maxHeartbeats 800000 in
theorem b7k (X:Nat->Bool) (w:World) (u:Value) (l:List Rat) (hX:HX X w) (hu:RV (mk X w) u l) (hl:l.length<=1000):Calls Tryz.prog 163 #[u] w (a1W X w RC l):=by
 obtain⟨ao,ca,rfl,hca,hsa⟩:=hu;have hha:=hsa.hd;obtain⟨n,hn⟩:∃n,l.length=n:=⟨_,rfl⟩;have hn':=hid hn;rw[hn]at hl hca hha |-;clear hn;go_enter Tryz.func163,Tryz.ntmps163
 go_wp2_with fail
 go_loopw [3,8] (fun o cc wr=>∃(i:Nat) (oo:Option Addr) (co:Nat),cc= .int .i64 i/\o= .slice oo i co/\i<=n/\OL QC 3 X w.heap.size 32 wr oo co (l.take i)/\Ext w wr) (fun _ cc _=>n - (intOf cc).toNat)
 case atStart=>exact⟨0,none,0,rfl,rfl,Nat.zero_le _,OL.nil _ _ _ _ _ _,ExtX.refl _⟩
 case round=>
  obtain⟨i,oo,co,rfl,rfl,hi,hO,hE⟩:=hrel;have hXr:HX X wr:=hX.ext hE;have hXu:HX (un X oo) wr:=hO.unX hXr;have hbase:=hE.size;by_cases hlt:i<n
  ·have hil:i<l.length:=by rw[hn'.out];exact hlt
   have htk:=hid (a1V l i hil);have hln:=hid (a2s (l:=l) (i:=i) (Nat.le_of_lt hil));have hq2:Sl QV 3 (mk (un X oo) wr) ao l:=hsa.old QV.mono hE (fun j hj=>hO.ob_lt hj);have bx:=Bx.new wr #[.bool false, .slice none 0 0, .slice none 0 0] 32;obtain⟨v,hv⟩:∃v,l[i]=v:=⟨_,rfl⟩;rw[hv]at htk;have hv':=hid hv;clear hv;go_wp2_with (first|(with_reducible refine a1E a1c (by omega) (by assumption) ?_)|((with_reducible show wpList _ _ _ (⟨_, .load 32 _,_,_,_,_⟩::_) _ _);refine a0M a0s i hq2 hil rfl (by simp) QV.agg ?_;intro u5 hu5;rw[hv'.out]at hu5;obtain⟨s5,a5,n5,c5,d5,m5,e5,rfl⟩:=hu5.shape)|((with_reducible show wpList _ _ _ (⟨_, .store 32 _ _,_,_,_,_⟩::_) _ _);refine a0d a0s rfl rfl bx rfl rfl (a2n _ _ _ _ _ _ _) ?_;intro w5 r1 r2;have hE5:Ext wr w5:=ExtX.box ((ExtX.refl wr).alloc _) r2 (Nat.le_refl _);have k10:=r1.cell 0 rfl;have k11:=r1.cell 1 rfl;have k12:=r1.cell 2 rfl;have hX5:=hXu.ext hE5;have hu6:=mkx QV.mono hu5 hE5))
   refine(b6A (un X oo) _ _ _ hX5 hu6).mono ?_;rintro e w7 ⟨hE7,u7,rfl,hu7⟩;obtain⟨s7,a7,n7,c7,d7,m7,e7,rfl⟩:=hu7.shape;have hE57:=hE5.trans hE7;have hO7:=hO.ext0 QC.elem hE57;have hb7:=(hE.trans hE57).size;have hX7:HX X w7:=hXr.ext hE57;clear k10 k11 k12;go_wp2_with (at_builtin;refine a0H (l:=l.take i) a1c rfl QC.elem hb7 hX7 i hln.out rfl rfl hO7 (.agg #[.bool s7, .slice a7 n7 c7, .slice d7 m7 e7]) v rfl hu7 (by omega) (by omega) ?_;intro oo2 co2 w9 hO9 hE9 hor)
   have hE10:=(hE.trans hE57).own hO7 (Nat.le_refl _) hE9;rw[htk.out]at hO9;go_roundw
   case rel=>exact⟨i+1,oo2,co2,by go_num,by go_num,by omega,hO9,hE10⟩
   case measure=>simp[intOf];omega
  ·have hin:i=n:=by omega
   rw[List.take_of_length_le (by rw[hn'.out];omega)]at hO;subst hin;have hc:=hO.lenCap;have hs:=hO.sl QC.elem;go_wp2_with fail
   go_ret
   exact⟨hE,_,rfl,oo,co,by rw[hn'.out];rfl,hc,hs⟩
set_option maxRecDepth 100000 in
set_option maxHeartbeats 800000 in
theorem b5u (X:Nat->Bool) (w:World) (u:Value) (m:List (List Rat)) (hX:HX X w) (hu:MV (mk X w) u m) (hl:m.length<=1000) (hr:∀r∈m,r.length<=1000):Calls Tryz.prog 127 #[u] w (a1W X w MC m):=by
 obtain⟨ao,ca,rfl,hca,hsa⟩:=hu;have hha:=hsa.hd;obtain⟨n,hn⟩:∃n,m.length=n:=⟨_,rfl⟩;have hn':=hid hn;have hr':=hid hr;rw[hn]at hl hca hha |-;clear hn hr;go_enter Tryz.func127,Tryz.ntmps127
 go_wp2_with fail
 go_loopw [3,8] (fun o cc wr=>∃(i:Nat) (oo:Option Addr) (co:Nat),cc= .int .i64 i/\o= .slice oo i co/\i<=n/\OL RC 1 X w.heap.size 45 wr oo co (m.take i)/\Ext w wr) (fun _ cc _=>n - (intOf cc).toNat)
 case atStart=>exact⟨0,none,0,rfl,rfl,Nat.zero_le _,OL.nil _ _ _ _ _ _,ExtX.refl _⟩
 case round=>
  obtain⟨i,oo,co,rfl,rfl,hi,hO,hE⟩:=hrel;have hXr:HX X wr:=hX.ext hE;have hXu:HX (un X oo) wr:=hO.unX hXr;have hbase:=hE.size;by_cases hlt:i<n
  ·have hil:i<m.length:=by rw[hn'.out];exact hlt
   have htk:=hid (a1V m i hil);have hln:=hid (a2s (l:=m) (i:=i) (Nat.le_of_lt hil));have hq2:Sl RV 1 (mk (un X oo) wr) ao m:=hsa.old RV.mono hE (fun j hj=>hO.ob_lt hj);obtain⟨a1,c1,hX1,hc1,hcl1,hq1⟩:=hq2.row i hil;have k00:=hc1.out noY wr (ExtX.refl _) rfl;have hls:=b7k (un X oo) wr (.slice a1 m[i].length c1) m[i] hXu ⟨a1,c1,rfl,hcl1,hq1⟩ (hr'.out _ (List.getElem_mem _));obtain⟨v,hv⟩:∃v,m[i]=v:=⟨_,rfl⟩;rw[hv]at htk hls k00;obtain⟨vl,hvl⟩:∃vl,v.length=vl:=⟨_,rfl⟩;have hvl':=hid hvl;rw[hvl]at hls k00;clear hc1 hcl1 hq1 hv hvl;go_wp2_with (with_reducible refine a0o a0A (by omega) (by assumption) ?_)
   refine hls.mono ?_;rintro e w7 ⟨hE7,u7,rfl,ro,cr,rfl,hcr,hsr⟩;have hRC:RC (mk (un X oo) w7) (.slice ro v.length cr) v:=⟨ro,cr,rfl,hcr,hsr⟩;rw[hvl'.out]at hRC |-;have hO7:=hO.ext0 RC.elem hE7;have hb7:=(hE.trans hE7).size;have hX7:HX X w7:=hXr.ext hE7;clear k00 hls;go_wp2_with (at_builtin;refine a0H (l:=m.take i) a0A rfl RC.elem hb7 hX7 i hln.out rfl rfl hO7 (.slice ro vl cr) v rfl hRC (by omega) (by omega) ?_;intro oo2 co2 w9 hO9 hE9 hor)
   have hE10:=(hE.trans hE7).own hO7 (Nat.le_refl _) hE9;rw[htk.out]at hO9;go_roundw
   case rel=>exact⟨i+1,oo2,co2,by go_num,by go_num,by omega,hO9,hE10⟩
   case measure=>simp[intOf];omega
  ·have hin:i=n:=by omega
   rw[List.take_of_length_le (by rw[hn'.out];omega)]at hO;subst hin;have hc:=hO.lenCap;have hs:=hO.sl RC.elem;go_wp2_with fail
   go_ret
   exact⟨hE,_,rfl,oo,co,by rw[hn'.out];rfl,hc,hs⟩
end Go.Proofs.YtoibhmjjhgaimaaGreat
namespace Go.Lim
theorem b1E {l:List Int} {n:Int} (h:a2N l n=true):∀(i:Nat) (hi:i<l.length),(i:Int)<=l[i]
 |0,hi=>(a4s h 0 hi).1
 |i+1,hi=>by
  have h1:=b1E h i (by omega);have h2:=a5D h i hi;omega
theorem a5q {l:List Int} {n:Nat} (h:a2N l (n:Int)=true):l.length<=n:=by
 rcases Nat.eq_zero_or_pos l.length with h0|h0
 ·omega
 ·have h1:=b1E h (l.length - 1) (by omega)
  have h2:=(a4s h (l.length - 1) (by omega)).2;omega
end Go.Lim
namespace Go.Lin
open Go.Lim Go.Rep
def scE (p:Mat) (rows:List Int):Int:=if a3B p then(if a2N rows (p.length:Int)&&decide (0<rows.length)then 0 else 1)else 6
noncomputable def scV (p:Mat) (rows:List Int):Rat:=if scE p rows=0 then b5g p (rows.map Int.toNat) (a0L p)else 0
end Go.Lin
namespace Go.Proofs.YtoibhmjjhgaimaaGreat
open Go.RowKit Go.Rep Go.Lim Go.Lin
def b6B (h:Mem) (u:Value) (q:Rat):Prop:=∃ro rl rc co cl cc mo ml mc s a n c d k f,u= .agg #[.slice ro rl rc, .slice co cl cc, .slice mo ml mc, .bool s, .slice a n c, .slice d k f]/\QC h (.agg #[.bool s, .slice a n c, .slice d k f]) q
theorem b6B.mono:a3i b6B:=by
 rintro h h' u q hl ⟨ro,rl,rc,co,cl,cc,mo,ml,mc,s,a,n,c,d,k,f,rfl,h1⟩;exact⟨ro,rl,rc,co,cl,cc,mo,ml,mc,s,a,n,c,d,k,f,rfl,QC.mono _ _ _ _ hl h1⟩
def a2L (X:Nat->Bool) (w:World) (p:Mat) (rows:List Int) (e:Ending) (w':World):Prop:=Ext w w'/\∃u,e= .returned (.tuple #[u, .int .i64 (scE p rows)])/\b6B (mk X w') u (scV p rows)
theorem a2L.no {X:Nat->Bool} {w w':World} {p:Mat} {rows:List Int} {c:Int} (hE:Ext w w') (hc:c≠0) (h:scE p rows=c):a2L X w p rows (.returned (.tuple #[.agg b4e, .int .i64 c])) w':=by
 refine⟨hE,_,by rw[h],?_⟩;have:scV p rows=0:=by unfold scV;rw[h,if_neg hc]
 rw[this];exact⟨_,_,_,_,_,_,_,_,_,_,_,_,_,_,_,_,rfl,QC.zero _⟩
set_option maxRecDepth 100000 in
set_option maxHeartbeats 800000 in
theorem b1F (X:Nat->Bool) (w:World) (u:Value) (ro:Option Addr) (rows:List Int) (rc:Nat) (p:Mat) (B:Nat) (hX:HX X w) (hu:MV (mk X w) u p) (hr:Sl (a0i .i64) 1 (mk X w) ro rows) (hrl:rows.length<=1099511627776) (hp6:p.length<=6\/p.length=65) (hpB:BM B p) (hB1:1<=B) (hB:B<=510):
  Calls Tryz.prog 63 #[u, .slice ro rows.length rc] w (a2L X w p rows):=by
 obtain⟨W,hW,hE,b0,hz⟩:=a1m w b4e 105;obtain⟨b,hb⟩:∃b,w.heap.size=b:=⟨_,rfl⟩;have hXZ:HX (a0f X w.heap.size 1) W:=hX.boxes hz;have huZ:=MV.mono _ _ _ _ (a0m (nb:=1) hE) hu;have hrZ:=hr.mono (a0i.mono _) (a0m (nb:=1) hE);rw[hb]at b0 hz hXZ huZ hrZ;have hbw:w.heap.size<=b:=by omega
 have hpt:=a5S X W u p (mkx MV.mono hu hE) (by omega);cases hpts:a3B p
 ·have he:Hid (scE p rows=6):=hid (by unfold scE;rw[hpts];rfl)
  rw[hpts]at hpt;clear hpts;go_enter Tryz.func63,Tryz.ntmps63
  go_wp2_with fail
  refine hpt.mono ?_;rintro e w1 ⟨rfl,rfl⟩;clear hpt;go_wp2_with ((with_reducible show wpList _ _ _ (⟨_, .store 105 _ _,_,_,_,_⟩::_) _ _);refine a0d a2S rfl rfl b0 rfl rfl (b1Z _ _ _ _ _ _ _ _ _ _ _ _ _ _ _ _) ?_;intro w7 r1 r2)
  exact bodyPost_ret (a0C rfl rfl a2S r1 rfl) rfl (a2L.no (ExtX.box hE r2 hbw) (by decide) he.out)
 rw[hpts]at hpt;obtain⟨g1,g2,g3,g4,g5⟩:=a1J.1 hpts;have hn6:p.length<=6:=by omega
 have has:=a0V X ro rows rc (p.length:Int) W (hr.mono (a0i.mono _) (a0h hE)) hrl;cases hok:(a2N rows (p.length:Int)&&decide (0<rows.length))
 ·have he:Hid (scE p rows=1):=hid (by unfold scE;rw[hpts,if_pos rfl,hok];rfl)
  obtain⟨ua,uc,rfl,huc,hua⟩:=id hu;obtain⟨n,hn⟩:∃n,p.length=n:=⟨_,rfl⟩;by_cases h0:rows.length=0
  ·have hz0:((rows.length:Int)==0)=true:=a8d (by omega)
   rw[hn]at hpt |-;clear hpts hok has h0 hn g1 g2 g3 g4 g5;go_enter Tryz.func63,Tryz.ntmps63
   go_wp2_with fail
   refine hpt.mono ?_;rintro e w1 ⟨rfl,rfl⟩;clear hpt;go_wp2_with ((with_reducible show wpList _ _ _ (⟨_, .store 105 _ _,_,_,_,_⟩::_) _ _);refine a0d a2S rfl rfl b0 rfl rfl (b1Z _ _ _ _ _ _ _ _ _ _ _ _ _ _ _ _) ?_;intro w7 r1 r2)
   exact bodyPost_ret (a0C rfl rfl a2S r1 rfl) rfl (a2L.no (ExtX.box hE r2 hbw) (by decide) he.out)
  ·have hz0:((rows.length:Int)==0)=false:=a2f (by omega)
   have hb:a2N rows (p.length:Int)=false:=by
    rw[decide_eq_true (show 0<rows.length by omega),Bool.and_true]at hok;exact hok
   rw[hb]at has;rw[hn]at hpt has |-;clear hpts hok h0 hn g1 g2 g3 g4 g5 hb;go_enter Tryz.func63,Tryz.ntmps63
   go_wp2_with fail
   refine hpt.mono ?_;rintro e w1 ⟨rfl,rfl⟩;clear hpt;go_wp2_with fail
   refine has.mono ?_;rintro e w2 ⟨rfl,rfl⟩;clear has;go_wp2_with ((with_reducible show wpList _ _ _ (⟨_, .store 105 _ _,_,_,_,_⟩::_) _ _);refine a0d a2S rfl rfl b0 rfl rfl (b1Z _ _ _ _ _ _ _ _ _ _ _ _ _ _ _ _) ?_;intro w7 r1 r2)
   exact bodyPost_ret (a0C rfl rfl a2S r1 rfl) rfl (a2L.no (ExtX.box hE r2 hbw) (by decide) he.out)
 have hok2:=hok;rw[Bool.and_eq_true,decide_eq_true_eq]at hok2;obtain⟨ha,hl0⟩:=hok2;have hlen:=a5q ha;rw[ha]at has;have he:scE p rows=0:=by unfold scE;rw[hpts,if_pos rfl,hok];rfl
 have hv:scV p rows=b5g p (rows.map Int.toNat) (a0L p):=by unfold scV;rw[he,if_pos rfl]
 have hema:=hid (fun w' (h:Ext W w')=>b5u (a0f X b 1) w' u p (hXZ.ext h) (mkx MV.mono huZ h) (by omega) (fun r hr=>by
  obtain⟨i,hi,rfl⟩:=List.getElem_of_mem hr;rw[g5 i hi];omega))
 have hsct:=hid (fun w' um (h:Ext W w') (hm:MC (mk (a0f X b 1) w') um p)=>(by
  have:=b0b (a0f X b 1) w' um ro rows rc p p.length (a0L p) B (hXZ.ext h) (hm.mv fun r hr q hq=>Nat.le_trans (hpB r hr q hq) (by omega)) (hrZ.mono (a0i.mono _) (a0h h)) (a9v hpts) g1 hn6 g3 g4 (fun r hr=>a5m ha hr) (by omega) hpB hB1 hB;rw[<-hv]at this;exact this:Calls Tryz.prog 126 #[um, .slice ro rows.length rc] w' (b6t (a0f X b 1) w' (scV p rows))))
 have hfin:=hid (fun(e:Ending) (w':World) (hE:Ext w w') u (h:e= .returned (.tuple #[u, .int .i64 0])) (hs:b6B (mk X w') u (scV p rows))=>show a2L X w p rows e w' from⟨hE,u,by rw[h,he],hs⟩);obtain⟨q,hq⟩:∃q,scV p rows=q:=⟨_,rfl⟩;rw[hq]at hsct hfin;obtain⟨ua,uc,rfl,huc,hua⟩:=id hu;obtain⟨n,hn⟩:∃n,p.length=n:=⟨_,rfl⟩;have hz0:((rows.length:Int)==0)=false:=a2f (by omega);rw[hn]at hpt has hema |-;clear hpts hok hq hn g1 g2 g3 g4 g5 ha he hv hl0 hlen;go_enter Tryz.func63,Tryz.ntmps63
 go_wp2_with fail
 refine hpt.mono ?_;rintro e w1 ⟨rfl,rfl⟩;clear hpt;go_wp2_with fail
 refine has.mono ?_;rintro e w2 ⟨rfl,rfl⟩;clear has;go_wp2_with fail
 refine(hema.out _ (ExtX.refl _)).mono ?_;rintro e w3 ⟨hE3,um,rfl,hm⟩;have hs3:=hsct.out w3 um hE3 hm;clear hema hsct;go_wp2_with fail
 refine hs3.mono ?_;rintro e w4 ⟨hE4,ro1,rl1,rc1,co1,cl1,cc1,mo1,ml1,mc1,s1,a1,n1,c1,d1,k1,f1,rfl,hq4⟩;have b4:=b0.ext0 (hE3.trans hE4);clear hs3;go_wp2_with ((with_reducible show wpList _ _ _ (⟨_, .store 105 _ _,_,_,_,_⟩::_) _ _);refine a0d a2S rfl rfl b4 rfl rfl (b1Z _ _ _ _ _ _ _ _ _ _ _ _ _ _ _ _) ?_;intro w7 r1 r2)
 have hq7:=QC.mono _ _ _ _ a0l (QC.mono _ _ _ _ (a0g r2 (by omega) (by omega)) hq4);exact bodyPost_ret (a0C rfl rfl a2S r1 rfl) rfl (hfin.out _ _ (ExtX.box (hE.trans (hE3.trans hE4)) r2 hbw) _ rfl ⟨_,_,_,_,_,_,_,_,_,_,_,_,_,_,_,_,rfl,hq7⟩)
theorem a6A (X:Nat->Bool) (ao bo:Option Addr) (a b:List Int) (ca cb:Nat) (w:World) (hsa:Sl (a0i .i64) 1 (mk X w) ao a) (hsb:Sl (a0i .i64) 1 (mk X w) bo b) (hla:a.length<=1099511627776) (hlb:a.length<=b.length)
  (hra:Hid (∀i (h:i<a.length),0<=a[i]/\a[i]<=2)) (hrb:Hid (∀i (h:i<b.length),0<=b[i]/\b[i]<=2)):
  Calls Tryz.prog 121 #[.slice ao a.length ca, .slice bo b.length cb] w fun e w'=>w=w'/\e= .returned (.bool (a7u a b)):=by
 have hha:=hsa.hd;have hhb:=hsb.hd;go_enter Tryz.func121,Tryz.ntmps121
 go_wp2_with fail
 go_loop [9] (fun c=>∃i:Nat,c= .int .i64 i/\i<=a.length/\Hid (∀p,p<i->((a.getD p 0+b.getD p 0==3)&&(a.getD p 0 !=0)&&(b.getD p 0 !=0))=false)) (fun c=>a.length - (intOf c).toNat)
 case atStart=>exact⟨0,rfl,Nat.zero_le _,fun p hp=>by omega⟩
 case round=>
  obtain⟨i,rfl,hi,hok⟩:=hrel;by_cases hlt:i<a.length
  ·have hlt2:i<b.length:=by omega
   have c1:=hsa.int i hlt;have c2:=hsb.int i hlt2;have e1:=a1K hlt;have e2:=a1K hlt2;have r1:=hra.out i hlt;have r2:=hrb.out i hlt2;obtain⟨x,hx⟩:∃x,a[i]=x:=⟨_,rfl⟩;obtain⟨y,hy⟩:∃y,b[i]=y:=⟨_,rfl⟩;rw[hx]at c1 e1 r1;rw[hy]at c2 e2 r2;have e1':=hid e1;have e2':=hid e2;obtain⟨r11,r12⟩:=r1;obtain⟨r21,r22⟩:=r2;clear hx hy e1 e2;have bad:Hid (((x+y==3)&&(x !=0)&&(y !=0))=true->a7u a b=true):=hid fun h=>a5Y i hlt (by rw[e1'.out,e2'.out];exact h);have good:Hid (((x+y==3)&&(x !=0)&&(y !=0))=false->∀p,p<i+1->((a.getD p 0+b.getD p 0==3)&&(a.getD p 0 !=0)&&(b.getD p 0 !=0))=false):=hid fun h=>a0Y hok.out (by rw[e1'.out,e2'.out];exact h);by_cases h1:x+y=3
   ·have b1:(x+y==3)=true:=a8d h1
    by_cases h2:x=0
    ·omega
    ·have b2:(x !=0)=true:=a7i h2
     by_cases h3:y=0
     ·omega
     ·have b3:(y !=0)=true:=a7i h3
      have hv:=hid (bad.out (by rw[b1,b2,b3];rfl));clear h1 h2 h3;go_wp2_with (with_reducible refine a0o a0S (by omega) (by assumption) ?_)
      go_ret
      exact⟨rfl,a0j hv.out.symm⟩
   ·have b1:(x+y==3)=false:=a2f h1
    have hv:=hid (good.out (by rw[b1];rfl));clear h1;go_wp2_with (with_reducible refine a0o a0S (by omega) (by assumption) ?_)
    go_round
    case rel=>exact⟨i+1,by go_num,by omega,hv.out⟩
    case measure=>simp[intOf];omega
  ·have hv:Hid (a7u a b=false):=hid (a5E fun p hp=>hok.out p (by omega))
   go_wp2_with fail
   go_ret
   exact⟨rfl,a0j hv.out.symm⟩
def b5v (X:Nat->Bool) (w:World) (n h:Nat) (x:a2X) (e:Ending) (w':World):Prop:=
 Ext w w'/\((a1y n h x=false/\e= .returned (.tuple #[.slice none 0 0, .bool false]))\/
  (a1y n h x=true/\∃ao cap,e= .returned (.tuple #[.slice ao n cap, .bool true])/\n<=cap/\Sl (a0i .i64) 1 (mk X w') ao (a1H n x.1 x.2)))
set_option maxRecDepth 100000 in
set_option maxHeartbeats 800000 in
theorem b3o (X:Nat->Bool) (ao bo:Option Addr) (I O:List Int) (ca cb n h:Nat) (w:World) (hsa:Sl (a0i .i64) 1 (mk X w) ao I) (hsb:Sl (a0i .i64) 1 (mk X w) bo O) (hla:I.length<=1099511627776) (hlb:O.length<=1099511627776)
  (hn:n<=64) (hh:h<=n) (hX:∀k,X k=true->k<w.heap.size):
  Calls Tryz.prog 120 #[.int .i64 n, .int .i64 h, .agg #[.slice ao I.length ca, .slice bo O.length cb]] w (b5v X w n h (I,O)):=by
 have hha:=hsa.hd;have hhb:=hsb.hd;have hE0:Ext w (w.alloc (.cells #[.slice ao I.length ca, .slice bo O.length cb] 103)):=(ExtX.refl w).alloc _;have hsa1:=hsa.mono (a0i.mono _) (a0h hE0);have hsb1:=hsb.mono (a0i.mono _) (a0h hE0);have hX1:∀k,X k=true->k<(w.alloc (.cells #[.slice ao I.length ca, .slice bo O.length cb] 103)).heap.size:=fun k hk=>Nat.lt_of_lt_of_le (hX k hk) hE0.size;have hlf:Hid (a1y n h (I,O)=(a2N I n&&a2N O n&&decide ((I.length:Int)<=h)&&decide ((O.length:Int)<=n - h)&& !a2O I O)):=hid rfl;cases h1:a2N I n
 ·have hv:Hid (a1y n h (I,O)=false):=hid (by rw[hlf.out,h1];rfl)
  have h1':=hid h1;clear h1;go_enter Tryz.func120,Tryz.ntmps120
  go_wp2_with (first|(go_at_call 125;refine(a0V X ao I ca n _ hsa1 hla).mono ?_;rintro e w' ⟨rfl,rfl⟩;rw[h1'.out]))
  go_ret2
  exact⟨hE0, .inl ⟨hv.out,rfl⟩⟩
 have h1':=hid h1;cases h2:a2N O n
 ·have hv:Hid (a1y n h (I,O)=false):=hid (by rw[hlf.out,h1,h2];rfl)
  have h2':=hid h2;clear h1 h2;go_enter Tryz.func120,Tryz.ntmps120
  go_wp2_with fail
  refine(a0V X ao I ca n _ hsa1 hla).mono ?_;rintro e w' ⟨rfl,rfl⟩;rw[h1'.out];go_wp2_with fail
  refine(a0V X bo O cb n _ hsb1 hlb).mono ?_;rintro e w' ⟨rfl,rfl⟩;rw[h2'.out];go_wp2_with fail
  go_ret2
  exact⟨hE0, .inl ⟨hv.out,rfl⟩⟩
 have h2':=hid h2;by_cases h3:h<I.length
 ·have hv:Hid (a1y n h (I,O)=false):=hid (by rw[hlf.out,h1,h2,decide_eq_false (by omega)];rfl)
  clear h1 h2;go_enter Tryz.func120,Tryz.ntmps120
  go_wp2_with fail
  refine(a0V X ao I ca n _ hsa1 hla).mono ?_;rintro e w' ⟨rfl,rfl⟩;rw[h1'.out];go_wp2_with fail
  refine(a0V X bo O cb n _ hsb1 hlb).mono ?_;rintro e w' ⟨rfl,rfl⟩;rw[h2'.out];go_wp2_with fail
  go_ret2
  exact⟨hE0, .inl ⟨hv.out,rfl⟩⟩
 by_cases h4:n<O.length+h
 ·have hv:Hid (a1y n h (I,O)=false):=hid (by rw[hlf.out,h1,h2,decide_eq_true (by omega),decide_eq_false (by omega)];rfl)
  clear h1 h2;go_enter Tryz.func120,Tryz.ntmps120
  go_wp2_with fail
  refine(a0V X ao I ca n _ hsa1 hla).mono ?_;rintro e w' ⟨rfl,rfl⟩;rw[h1'.out];go_wp2_with fail
  refine(a0V X bo O cb n _ hsb1 hlb).mono ?_;rintro e w' ⟨rfl,rfl⟩;rw[h2'.out];go_wp2_with fail
  go_ret2
  exact⟨hE0, .inl ⟨hv.out,rfl⟩⟩
 have hlf2:Hid (a1y n h (I,O)= !a2O I O):=hid (by rw[hlf.out,h1,h2,decide_eq_true (by omega),decide_eq_true (by omega)];rfl);clear hlf;go_enter Tryz.func120,Tryz.ntmps120
 have cl1:=h1;have cl2:=h2;have h1:=hid cl1;have h2:=hid cl2;clear cl1 cl2;go_wp2_with fail
 refine(a0V X ao I ca n _ hsa1 hla).mono ?_;rintro e w' ⟨rfl,rfl⟩;rw[h1'.out];go_wp2_with fail
 refine(a0V X bo O cb n _ hsb1 hlb).mono ?_;rintro e w' ⟨rfl,rfl⟩;rw[h2'.out];go_wp2_with (at_make;refine a1S a0S (a0i.elem .i64) 0 (fun _=>rfl) X hX1 _ (Nat.le_refl _) n rfl rfl rfl (by omega) (by omega) ?_;intro oo w1 hO1 hE1;have hc1:w1.cell? ⟨w.heap.size,0,none⟩=some (.slice ao I.length ca):=hE1.cell (a1u (w:=w) (cs:=#[.slice ao I.length ca, .slice bo O.length cb]) (e:=103) 0 rfl);have hc2:w1.cell? ⟨w.heap.size,1,none⟩=some (.slice bo O.length cb):=hE1.cell (a1u (w:=w) (cs:=#[.slice ao I.length ca, .slice bo O.length cb]) (e:=103) 1 rfl))
 have hho:Hd oo n:=by have:=hO1.hd;simpa using this
 rw[<-a9Q]at hO1;have hE01:Ext w w1:=hE0.trans hE1;have hB:w.heap.size<=(w.alloc (.cells #[.slice ao I.length ca, .slice bo O.length cb] 103)).heap.size:=hE0.size;have hBl:w.heap.size<(w.alloc (.cells #[.slice ao I.length ca, .slice bo O.length cb] 103)).heap.size:=by simp
 generalize (w.alloc (.cells #[.slice ao I.length ca, .slice bo O.length cb] 103)).heap.size=B at hO1 hB hBl;clear hsa1 hsb1 hX1 hE0 hE1 hc1;go_loopw [46] (fun c wr=>∃k:Nat,c= .int .i64 k/\k<=I.length/\OL (a0i .i64) 1 X B 3 wr oo n (a1H n (I.take k) [])/\wr.cell? ⟨w.heap.size,1,none⟩=some (.slice bo O.length cb)/\Ext w wr) (fun c _=>I.length - (intOf c).toNat)
 case atStart=>exact⟨0,rfl,Nat.zero_le _,hO1,hc2,hE01⟩
 case round=>
  clear hO1 hc2 hE01;obtain⟨k,rfl,hk,hO,hcO,hE⟩:=hrel;by_cases hlt:k<I.length
  ·have c1:=(hsa.mono (a0i.mono _) (a0h hE)).int k hlt
   obtain⟨hx0,hxn⟩:=a4s h1'.out k hlt;obtain⟨x,hx⟩:=Int.eq_ofNat_of_zero_le hx0;rw[hx]at c1 hxn;have hst:=hid (b2A (n:=n) hlt hx);clear hx hx0;have hxl:x<(a1H n (I.take k) []).length:=by rw[a0t];omega
   go_wp2_with (first|(with_reducible refine a0o a0S (by omega) (by assumption) ?_)|((with_reducible show wpList _ _ _ (⟨_, .store _ _ _,_,_,_,_⟩::_) _ _);refine a2u a8f x 1 rfl (by omega) hO hxl rfl rfl ?_;intro w3 hO3 hE3))
   rw[hst.out]at hO3;have hcO3:=hE3.cellY hcO (hO.ob_lt hBl);go_wp2_with fail
   go_roundw
   case rel=>exact⟨k+1,by go_num,by omega,hO3,hcO3,hE.own hO hB hE3⟩
   case measure=>simp[intOf];omega
  ·have hke:k=I.length:=by omega
   subst hke;rw[List.take_length]at hO;have hO2:OL (a0i .i64) 1 X B 3 wr oo n (a1H n I (O.take 0)):=hO;go_wp2_with fail
   go_loopw [57] (fun c wr=>∃k:Nat,c= .int .i64 k/\k<=O.length/\Hid (∀q,q<k->∀hq:q<O.length,¬O[q]∈I)/\OL (a0i .i64) 1 X B 3 wr oo n (a1H n I (O.take k))/\Ext w wr) (fun c _=>O.length - (intOf c).toNat)
   case atStart=>exact⟨0,rfl,Nat.zero_le _,fun q hq=>by omega,hO2,hE⟩
   case round=>
    clear hO hO2 hE hcO;obtain⟨k,rfl,hk,hok,hO,hE⟩:=hrel;by_cases hlt:k<O.length
    ·have c1:=(hsb.mono (a0i.mono _) (a0h hE)).int k hlt
     obtain⟨hx0,hxn⟩:=a4s h2'.out k hlt;obtain⟨x,hx⟩:=Int.eq_ofNat_of_zero_le hx0;rw[hx]at c1 hxn;have hxl:x<(a1H n I (O.take k)).length:=by rw[a0t];omega
     have c2:=(hO.sl (a0i.elem _)).int x hxl;rw[a1r]at c2;by_cases hm:(x:Int)∈I
     ·rw[if_pos hm]at c2
      have hv:Hid (a1y n h (I,O)=false):=hid (by rw[hlf2.out,a2x.2 ⟨_,hm,by rw[<-hx];exact List.getElem_mem hlt⟩];rfl);clear hx hm hx0;go_wp2_with (with_reducible refine a0o a0S (by omega) (by assumption) ?_)
      go_ret2
      exact⟨hE, .inl ⟨hv.out,rfl⟩⟩
     ·rw[if_neg hm]at c2
      have hnt:¬(x:Int)∈O.take k:=by
       intro hmem;obtain⟨j,hj,hje⟩:=List.getElem_of_mem hmem;simp at hj;have:=b4B h2'.out j k (by omega) hlt;rw[List.getElem_take]at hje;omega
      rw[if_neg hnt]at c2;have hst:=hid (b0N (n:=n) (I:=I) hlt hx hm);have hok':=hid (a0Y hok.out (fun hq=>by rw[hx];exact hm));clear hx hx0 hm hnt;go_wp2_with (first|(with_reducible refine a0o a0S (by omega) (by assumption) ?_)|((with_reducible show wpList _ _ _ (⟨_, .store _ _ _,_,_,_,_⟩::_) _ _);refine a2u a8f x 2 rfl (by omega) hO hxl rfl rfl ?_;intro w3 hO3 hE3))
      rw[hst.out]at hO3;go_wp2_with fail
      go_roundw
      case rel=>exact⟨k+1,by go_num,by omega,hok'.out,hO3,hE.own hO hB hE3⟩
      case measure=>simp[intOf];omega
    ·have hke:k=O.length:=by omega
     subst hke;rw[List.take_length]at hO;have hv:Hid (a1y n h (I,O)=true):=hid (by
      rw[hlf2.out];cases hm:a2O I O
      ·rfl
      ·obtain⟨v,hv1,hv2⟩:=a2x.1 hm
       obtain⟨j,hj,rfl⟩:=List.getElem_of_mem hv2;exact absurd hv1 (hok.out j hj hj))
     go_wp2_with fail
     go_ret2
     exact⟨hE, .inr ⟨hv.out,oo,n,rfl,Nat.le_refl _,hO.sl (a0i.elem _)⟩⟩
theorem a1t:SliceT Tryz.prog 35 103 2 48 (.agg #[.slice none 0 0, .slice none 0 0]):=⟨Tryz.underlying35,by kernel_rfl⟩
theorem a3h:SliceT Tryz.prog 41 22 1 24 (.slice none 0 0):=⟨Tryz.underlying41,by kernel_rfl⟩
theorem a3D:a1L Tryz.prog 103 2:=by
 have h:(Tryz.prog.info? 103).map (fun i=>(i.zero,i.size,i.bytes))=some (some (.agg #[.slice none 0 0, .slice none 0 0]),2,48):=by kernel_rfl
 obtain⟨ti,h1,_,h2,_⟩:=info_parts h;exact⟨_,ti,Tryz.underlying103,h1,h2⟩
def a8G (w:World) (b:Bool) (e:Ending) (w':World):Prop:=Ext w w'/\e= .returned (.bool b)
theorem b0f (X:Nat->Bool) (m1 m2:Int) (n k:Nat) (w:World) (h1:m1=(n:Int)) (h2:m2=(k:Int)) (hk:k<=n) (hn:n<=64) (hX:∀k,X k=true->k<w.heap.size):
  Calls Tryz.prog 123 #[.int .i64 m1, .int .i64 m2] w (a2v X w (ch n k)):=by
 subst h1;subst h2;exact a6z X n k w hk hn hX
set_option maxRecDepth 100000 in
set_option maxHeartbeats 1600000 in
theorem a4E (X:Nat->Bool) (lo:Option Addr) (L:List a2X) (cl:Nat) (n h:Int) (w:World) (hs:Sl a0G 2 (mk X w) lo L) (hL:L.length<=1099511627776) (hLl:Hid (∀x∈L,x.1.length<=1099511627776/\x.2.length<=1099511627776)) (hX:∀k,X k=true->k<w.heap.size):
  Calls Tryz.prog 62 #[.int .i64 n, .int .i64 h, .slice lo L.length cl] w (a8G w (a1l n h L)):=by
 have hhl:=hs.hd;have hdef:Hid (a1l n h L=(decide (1<=n)&&decide (n<=64)&&decide (0<=h)&&decide (h<=n)&&decide (L.length<=4096)&&(List.range L.length).all (a2z n h L)&&decide (a6l n.toNat h.toNat L=ch n.toNat h.toNat))):=hid rfl;by_cases hn1:n<1
 ·have hv:Hid (a1l n h L=false):=hid (by rw[hdef.out,decide_eq_false (by omega)];rfl)
  go_enter Tryz.func62,Tryz.ntmps62
  go_wp2_with fail
  go_ret
  exact⟨ExtX.refl _,a0j hv.out.symm⟩
 by_cases hn2:64<n
 ·have hv:Hid (a1l n h L=false):=hid (by rw[hdef.out,decide_eq_true (by omega),decide_eq_false (by omega)];rfl)
  go_enter Tryz.func62,Tryz.ntmps62
  go_wp2_with fail
  go_ret
  exact⟨ExtX.refl _,a0j hv.out.symm⟩
 by_cases hh1:h<0
 ·have hv:Hid (a1l n h L=false):=hid (by rw[hdef.out,decide_eq_false (show¬0<=h by omega)];simp)
  go_enter Tryz.func62,Tryz.ntmps62
  go_wp2_with fail
  go_ret
  exact⟨ExtX.refl _,a0j hv.out.symm⟩
 by_cases hh2:n<h
 ·have hv:Hid (a1l n h L=false):=hid (by rw[hdef.out,decide_eq_false (show¬h<=n by omega)];simp)
  go_enter Tryz.func62,Tryz.ntmps62
  go_wp2_with fail
  go_ret
  exact⟨ExtX.refl _,a0j hv.out.symm⟩
 by_cases hl4:4096<L.length
 ·have hv:Hid (a1l n h L=false):=hid (by rw[hdef.out,decide_eq_false (show¬L.length<=4096 by omega)];simp)
  go_enter Tryz.func62,Tryz.ntmps62
  go_wp2_with fail
  go_ret
  exact⟨ExtX.refl _,a0j hv.out.symm⟩
 obtain⟨N,rfl⟩:=Int.eq_ofNat_of_zero_le (show 0<=n by omega);obtain⟨H,rfl⟩:=Int.eq_ofNat_of_zero_le (show 0<=h by omega);have hN:N<=64:=by omega
 have hHN:H<=N:=by omega
 have hdef2:Hid (a1l N H L=((List.range L.length).all (a2z N H L)&&decide (a6l N H L=ch N H))):=hid (by
  rw[hdef.out,decide_eq_true (by omega),decide_eq_true (by omega),decide_eq_true (by omega),decide_eq_true (by omega),decide_eq_true (by omega)];rfl)
 clear hdef;go_enter Tryz.func62,Tryz.ntmps62
 go_wp2_with fail
 go_loopw [7,8,37] (fun s7 s8 c wr=>∃(k:Nat) (oo:Option Addr) (co:Nat) (so:Option Addr) (cs:Nat) (sl:List Nat),c= .int .i64 k/\s7= .slice oo k co/\s8= .slice so sl.length cs/\k<=L.length/\
   OL (SlV (a0i .i64) 1) 1 X w.heap.size 22 wr oo co (a2I N (L.take k))/\sl.length<=cs/\a0E sl (a6l N H (L.take k))/\Sl (a0b .u32) 1 (mk (un X oo) wr) so sl/\Hid (∀j,j<k->a2z N H L j=true)/\Ext w wr) (fun _ _ c _=>L.length - (intOf c).toNat)
 case atStart=>exact⟨0,none,0,none,0,[],rfl,rfl,rfl,Nat.zero_le _,OL.nil _ _ _ _ _ _,by simp,a0E.nil,Sl.nil _ _ _ _,fun j hj=>by omega,ExtX.refl _⟩
 case round=>
  obtain⟨k,oo,co,so,cs,sl,rfl,rfl,rfl,hk,hO,hsc,hcan,hss,hgood,hE⟩:=hrel;have hXr:∀k,X k=true->k<wr.heap.size:=fun k hk=>Nat.lt_of_lt_of_le (hX k hk) hE.size;have hXu:=hO.unX hXr;have hol:Hid ((a2I N (L.take k)).length=k):=hid (by rw[a6M];simp;omega);have hho:Hd oo k:=hol.out▸hO.hd;by_cases hlt:k<L.length
  ·have hs1:=hs.old a0G.mono hE (oo:=oo) (fun j hj=>hO.ob_lt hj)
   have hlen:=hLl.out L[k] (List.getElem_mem hlt);obtain⟨I,O,hx⟩:∃I O,L[k]=(I,O):=⟨_,_,rfl⟩;rw[hx]at hlen;obtain⟨hlI,hlO⟩:=hlen;simp only at hlI hlO;have hx':=hid hx;clear hx;go_wp2_with (first|(first|(with_reducible refine a0o a0S (by omega) (by assumption) ?_)|(with_reducible refine a1E a1t (by omega) (by assumption) ?_)|(with_reducible refine a0o a3h (by omega) (by assumption) ?_))|((with_reducible show wpList _ _ _ (⟨_, .load _ _,_,_,_,_⟩::_) _ _);refine a0M a3D k hs1 hlt rfl (by omega) a0G.agg ?_;rintro u hu;rw[hx'.out]at hu;obtain⟨a1,c1,a2,c2,rfl,hc1,hc2,hs2,hs3⟩:=hu))
   have hEn:Ext wr (wr.alloc (.cells #[.slice a1 I.length c1, .slice a2 O.length c2] 103)):=(ExtX.refl wr).alloc _;have k1:(wr.alloc (.cells #[.slice a1 I.length c1, .slice a2 O.length c2] 103)).cell? ⟨wr.heap.size,0,none⟩=some (.slice a1 I.length c1):=a1u 0 rfl;have k2:(wr.alloc (.cells #[.slice a1 I.length c1, .slice a2 O.length c2] 103)).cell? ⟨wr.heap.size,1,none⟩=some (.slice a2 O.length c2):=a1u 1 rfl;generalize wr.alloc (.cells #[.slice a1 I.length c1, .slice a2 O.length c2] 103)=W at hEn k1 k2 |-;have hXW:∀k,un X oo k=true->k<W.heap.size:=fun k hk=>Nat.lt_of_lt_of_le (hXu k hk) hEn.size;refine(b3o (un X oo) a1 a2 I O c1 c2 N H W (hs2.mono (a0i.mono _) (a0h hEn)) (hs3.mono (a0i.mono _) (a0h hEn)) hlI hlO hN hHN hXW).mono ?_;rintro e w2 ⟨hE2,(⟨hbad,rfl⟩|⟨hokl,sd,cd,rfl,hcd,hsd⟩)⟩
   ·have hv:Hid (a1l N H L=false):=hid (by rw[hdef2.out,a1h k hlt (a6m hlt hx'.out hbad)];rfl)
    have hbad':=hid hbad;clear hbad;go_wp2_with fail
    go_ret
    exact⟨(hE.trans hEn).trans hE2,a0j hv.out.symm⟩
   ·have hokl':=hid hokl
    clear hokl;have hE02:Ext wr w2:=hEn.trans hE2;have hO2:=hO.ext0 (SlV.elem (a0i.elem .i64)) hE02;have k1':=hE2.cell k1;have k2':=hE2.cell k2;have hss2:=hss.mono (a0b.mono _) (a0h hE02);have hEw2:Ext w w2:=hE.trans hE02;have hobw:ob oo wr.heap.size=false:=hO.ob_ge (Nat.le_refl _);have hXw2:∀k,X k=true->k<w2.heap.size:=fun k hk=>Nat.lt_of_lt_of_le (hX k hk) hEw2.size;clear hO hss hs1 hs2 hs3 hE hEn hE2 k1 k2 hE02;go_wp2_with fail
    go_loop [52] (fun c=>∃j:Nat,c= .int .i64 j/\j<=k/\Hid (∀q,q<j->∀hq:q<L.length,a3r (I,O) L[q]=true)) (fun c=>k - (intOf c).toNat)
    case atStart=>exact⟨0,rfl,Nat.zero_le _,fun q hq=>by omega⟩
    case round=>
     obtain⟨j,rfl,hj,hap⟩:=hrel;by_cases hjk:j<k
     ·have hjl:j<(a2I N (L.take k)).length:=by rw[hol.out];exact hjk
      obtain⟨a3,c3,f3,h3,s3⟩:=(hO2.sl (SlV.elem (a0i.elem .i64))).slice j hjl;have hjL:j<L.length:=by omega
      have hgj:=hid (b0O hjL (hgood.out j hjk));rw[a9R,List.getElem_take]at f3 h3 s3;have hap2:=hid (a7v (n:=N) (h:=H) (x:=(I,O)) (y:=L[j]) hokl'.out hgj.out);obtain⟨y,hy⟩:∃y,L[j]=y:=⟨_,rfl⟩;rw[hy]at f3 h3 s3;have hy':=hid hy;clear hy;rw[a0t]at f3 h3;have hsd2:=hsd.unX (a0i.mono _);have hg0:=hid (a5F N I O);have hg1:=hid (a5F N y.1 y.2);cases hb:a3r (I,O) y
      ·have hv:Hid (a1l N H L=false):=hid (by rw[hdef2.out,a1h k hlt (a6n hlt hx'.out hjk (by rw[hy'.out];exact hb))];rfl)
       have hb':=hid hb;clear hb;go_wp2_with (first|(with_reducible refine a0o a0S (by omega) (by assumption) ?_)|(with_reducible refine a1E a1t (by omega) (by assumption) ?_)|(with_reducible refine a0o a3h (by omega) (by assumption) ?_))
       have hca:=a6A X sd a3 (a1H N I O) (a1H N y.1 y.2) cd c3 w2 hsd2 s3 (by rw[a0t];omega) (by rw[a0t,a0t];exact Nat.le_refl _) hg0 hg1;rw[a0t,a0t]at hca;refine hca.mono ?_;rintro e w' ⟨rfl,rfl⟩;have hval:=hap2.out;rw[hy'.out,hb'.out]at hval;rw[hval];clear hca hval;go_wp2_with fail
       go_ret
       exact⟨hEw2,a0j hv.out.symm⟩
      ·have hb':=hid hb
       clear hb;go_wp2_with (first|(with_reducible refine a0o a0S (by omega) (by assumption) ?_)|(with_reducible refine a1E a1t (by omega) (by assumption) ?_)|(with_reducible refine a0o a3h (by omega) (by assumption) ?_))
       have hca:=a6A X sd a3 (a1H N I O) (a1H N y.1 y.2) cd c3 w2 hsd2 s3 (by rw[a0t];omega) (by rw[a0t,a0t];exact Nat.le_refl _) hg0 hg1;rw[a0t,a0t]at hca;refine hca.mono ?_;rintro e w' ⟨rfl,rfl⟩;have hval:=hap2.out;rw[hy'.out,hb'.out]at hval;rw[hval];clear hca hval;go_wp2_with fail
       go_round
       case rel=>exact⟨j+1,by go_num,by omega,a0Y hap.out (fun hq=>by rw[hy'.out];exact hb'.out)⟩
       case measure=>simp[intOf];omega
     ·have hjk':j=k:=by omega
      subst hjk';have hgk:=hid (a6o (N:=(N:Int)) (H:=(H:Int)) hlt hx'.out hokl'.out fun q hq=>hap.out q hq (by omega));obtain⟨hI1,hO1,hI2,hO3,hmt⟩:=a5e hokl'.out;clear hI1 hO1 hmt;have hst1:=hid (a8i N L j hlt);have hst2:=hid (a7w N H L j hlt);go_wp2_with (at_builtin;refine a0H (l:=a2I N (L.take j)) a3h rfl (SlV.elem (a0i.elem .i64)) hEw2.size hXw2 j hol.out rfl rfl hO2 (.slice sd N cd) (a1H N I O) rfl ⟨sd,cd,by rw[a0t],by rw[a0t];exact hcd,hsd⟩ (by omega) (by omega) ?_;intro oo4 co4 w4 hO4 hE4 hoo4;have k14:=hE4.cellY k1' hobw;have k24:=hE4.cellY k2' hobw)
      have hEw4:=hEw2.own hO2 (Nat.le_refl _) hE4;have hss4:=hss2.unstep (a0b.mono _) hE4 hoo4;have hX4:=hO4.unX (fun k hk=>Nat.lt_of_lt_of_le (hXw2 k hk) hE4.size);refine(b0f (un X oo4) _ _ (N - I.length - O.length) (H - I.length) w4 (by omega) (by omega) (by omega) (by omega) hX4).mono ?_;rintro e w5 ⟨hE5,a5,c5,l5,rfl,hc5,hcan5,hs5⟩;have hss5:=hss4.mono (a0b.mono _) (a0h hE5);have hO5:=hO4.ext0 (SlV.elem (a0i.elem .i64)) hE5;have hX5:=hO5.unX (fun k hk=>Nat.lt_of_lt_of_le (hXw2 k hk) (Nat.le_trans hE4.size hE5.size));have hls:=a6N (N:=N) (H:=H) hN (L.take j) (by simp;omega);have hlc:=a7t (n:=N - I.length - O.length) (k:=H - I.length) (by omega);rw[<-hcan.len]at hls;rw[<-hcan5.len]at hlc;go_wp2_with fail
      refine(b0F (un X oo4) so a5 sl l5 cs c5 w5 hss5 hs5 hcan.1 hcan5.1 (by omega) (by omega) hsc hc5 hX5 _ _ hcan.val hcan5.val).mono ?_;rintro e w6 ⟨hE6,a6,c6,l6,rfl,hc6,hcan6,hs6⟩;have hO6:=hO5.ext0 (SlV.elem (a0i.elem .i64)) hE6;have hL1:Hid (L[j].1=I/\L[j].2=O):=hid (by rw[hx'.out];exact⟨rfl,rfl⟩);rw[<-hL1.out.1,<-hL1.out.2,<-hst1.out]at hO6;have hcan6':a0E l6 (a6l N H (L.take (j+1))):=by
       rw[hst2.out,hL1.out.1,hL1.out.2];exact hcan6
      have hgood':=hid (a0Y hgood.out hgk.out);go_wp2_with fail
      go_roundw
      case rel=>exact⟨j+1,oo4,co4,a6,c6,l6,by go_num,rfl,rfl,by omega,hO6,hc6,hcan6',hs6,hgood'.out,(hEw4.trans hE5).trans hE6⟩
      case measure=>simp[intOf];omega
  ·have hke:k=L.length:=by omega
   subst hke;rw[List.take_length]at hcan;have hall:=hid (a1G hgood.out);have hls:=a6N (N:=N) (H:=H) hN L (by omega);rw[<-hcan.len]at hls;have hss0:=hss.unX (a0b.mono _);go_wp2_with fail
   refine(a6z X N H wr hHN hN hXr).mono ?_;rintro e w5 ⟨hE5,a5,c5,l5,rfl,hc5,hcan5,hs5⟩;have hlc:=a7t (n:=N) (k:=H) (by omega);rw[<-hcan5.len]at hlc;go_wp2_with fail
   refine(a2w X so a5 sl l5 cs c5 w5 (hss0.mono (a0b.mono _) (a0h hE5)) hs5 hcan.1 hcan5.1 (by omega) (by omega) hsc hc5 _ _ hcan.val hcan5.val).mono ?_;rintro e w6 ⟨hE6,rfl⟩;have hv:Hid ((a2t (a6l N H L) (ch N H)==0)=a1l N H L):=hid (by
    rw[hdef2.out,hall.out,Bool.true_and,Bool.eq_iff_iff];simp[a8b])
   generalize a2t (a6l N H L) (ch N H)=c at hv |-;go_wp2_with fail
   go_ret
   exact⟨(hE.trans hE5).trans hE6,a0j hv.out⟩
end Go.Proofs.YtoibhmjjhgaimaaGreat
namespace Go.Lin
open Go.Lim Go.Rep
theorem b6C {p:Mat} {rows:List Int} {B:Nat} (hpB:BM B p) (hB1:1<=B) (hB:B<=510) (hp6:p.length<=6\/p.length=65):hq (scV p rows)<=68719476736:=by
 unfold scV;split
 ·rename_i h0
  have hpts:a3B p=true:=by
   cases h:a3B p
   ·unfold scE at h0;rw[h]at h0;cases h0
   ·rfl
  have hasc:a2N rows (p.length:Int)=true:=by
   unfold scE at h0;rw[hpts,if_pos rfl]at h0;cases h:a2N rows (p.length:Int)
   ·rw[h]at h0;cases h0
   ·rfl
  obtain⟨g1,g2,g3,g4,g5⟩:=a1J.1 hpts;have hlen:=a5q hasc;have hrl:(rows.map Int.toNat).length<=6:=by rw[List.length_map];omega
  have hH:=b2Q hpB hB1;have hcB:=a6Z (p:=p) (rows:=rows.map Int.toNat) (d:=a0L p) hH (by omega);have hZ3:B+(2+(rows.map Int.toNat).length*(B+1))+1<=3579:=by
   have:=Nat.mul_le_mul hrl (show B+1<=511 by omega);omega
  have hHB:HB 60000 (a5l p (rows.map Int.toNat) (a0L p) (rows.map Int.toNat).length):=fun i j=>Nat.le_trans (a7a (fun r=>a3z (r:=r) hpB hcB) (by omega) i j) (by
   have:=Nat.mul_le_mul hrl (show 2*(B+(2+(rows.map Int.toNat).length*(B+1))+1)+1<=7159 by omega);omega)
  exact b4V (a4z (a3a _ _ _ _) g4 hHB).1 (by omega)
 ·rw[a2k];decide
noncomputable def a7f (p:Mat) (h:Int) (det:Rat) (L:List a2X):Bool:=a3B p&&(a1l (p.length:Int) h L&&L.all fun x=>decide (scE p x.1=0)&&decide (det<=scV p x.1))
theorem b1G {p:Mat} {h:Int} {det:Rat} {L:List a2X} (k:Nat) (hk:k<L.length) (h2:scE p L[k].1≠0\/scV p L[k].1<det):a7f p h det L=false:=by
 have:(L.all fun x=>decide (scE p x.1=0)&&decide (det<=scV p x.1))=false:=by
  rw[List.all_eq_false];refine⟨L[k],List.getElem_mem _,?_⟩;rw[Bool.and_eq_true,decide_eq_true_eq,decide_eq_true_eq];rintro ⟨h3,h4⟩;rcases h2 with h2|h2
  ·exact h2 h3
  ·exact absurd h4 (Rat.not_le.2 h2)
 unfold a7f;rw[this];simp
theorem a9A {p:Mat} {h:Int} {det:Rat} {L:List a2X} (h1:a3B p=true) (h2:a1l (p.length:Int) h L=true) (h3:∀k (hk:k<L.length),scE p L[k].1=0/\det<=scV p L[k].1):a7f p h det L=true:=by
 unfold a7f;rw[h1,h2,Bool.true_and,Bool.true_and,List.all_eq_true];intro x hx;obtain⟨k,hk,rfl⟩:=List.getElem_of_mem hx;obtain⟨a,b⟩:=h3 k hk;rw[decide_eq_true a,decide_eq_true b];rfl
end Go.Lin
namespace Go.Proofs.YtoibhmjjhgaimaaGreat
open Go.RowKit Go.Rep Go.Lim Go.Lin
theorem b1H {x y:Rat}:b3W x y<0↔x<y:=by
 unfold b3W;split
 ·rename_i h;simp[h]
 ·rename_i h
  constructor
  ·intro h2;split at h2<;>omega
  ·intro h2;exact absurd h2 h
set_option maxRecDepth 100000 in
set_option maxHeartbeats 1600000 in
theorem a9B (X:Nat->Bool) (w:World) (u dv:Value) (lo:Option Addr) (L:List a2X) (cl:Nat) (h:Int) (p:Mat) (det:Rat) (B:Nat) (hX:HX X w) (hu:MV (mk X w) u p) (hd:QV (mk X w) dv det) (hs:Sl a0G 2 (mk X w) lo L) (hL:L.length<=1099511627776) (hLl:Hid (∀x∈L,x.1.length<=1099511627776/\x.2.length<=1099511627776)) (hp6:p.length<=6\/p.length=65) (hpB:BM B p) (hB1:1<=B) (hB:B<=510):
  Calls Tryz.prog 15 #[u, .int .i64 h,dv, .slice lo L.length cl] w (b2F w (a7f p h det L)):=by
 obtain⟨s0,a0,n0,c0,d0,k0,e0,rfl⟩:=hd.shape;obtain⟨W,hW,hE,b0,hz⟩:=a1m w #[.bool s0, .slice a0 n0 c0, .slice d0 k0 e0] 32;obtain⟨b,hb⟩:∃b,w.heap.size=b:=⟨_,rfl⟩;rw[hb]at b0 hz;have hpt:=a5S X W u p (mkx MV.mono hu hE) (by omega);have hhl:=hs.hd;cases hpts:a3B p
 ·have he:Hid (a7f p h det L=false):=hid (by unfold a7f;rw[hpts];rfl)
  rw[hpts]at hpt;clear hpts;go_enter Tryz.func15,Tryz.ntmps15
  go_wp2_with fail
  refine hpt.mono ?_;rintro e w1 ⟨rfl,rfl⟩;clear hpt;go_wp2_with fail
  go_ret
  exact⟨hE,a0j he.out.symm⟩
 rw[hpts]at hpt;have hcov:=hid (fun w' (h':Ext w w')=>a4E X lo L cl (p.length:Int) h w' (hs.mono a0G.mono (a0h h')) hL hLl (hX.ext h'));have hno:=hid (fun k hk h2=>b1G (p:=p) (h:=h) (det:=det) (L:=L) k hk h2);have hsc:=hid (fun w' a c (I:List Int) (h':Ext w w') (hI:Sl (a0i .i64) 1 (mk X w') a I) (hIl:I.length<=1099511627776)=>b1F X w' u a I c p B (hX.ext h') (mkx MV.mono hu h') hI hIl hp6 hpB hB1 hB);have hscq:=hid (fun I=>b6C (rows:=I) hpB hB1 hB hp6);cases hcv:a1l (p.length:Int) h L
 ·have he:Hid (a7f p h det L=false):=hid (by unfold a7f;rw[hcv];simp)
  have hc:=hcov.out W hE;rw[hcv]at hc;obtain⟨ua,uc,rfl,huc,hua⟩:=id hu;obtain⟨n,hn⟩:∃n,p.length=n:=⟨_,rfl⟩;rw[hn]at hpt hc |-;clear hpts hcv hcov hno hsc hn;go_enter Tryz.func15,Tryz.ntmps15
  go_wp2_with fail
  refine hpt.mono ?_;rintro e w1 ⟨rfl,rfl⟩;clear hpt;go_wp2_with fail
  refine hc.mono ?_;rintro e w2 ⟨hE2,rfl⟩;clear hc;go_wp2_with fail
  go_ret
  exact⟨hE.trans hE2,a0j he.out.symm⟩
 have hyes:=hid (fun h3=>a9A (det:=det) hpts hcv h3);have hc:=hcov.out W hE;rw[hcv]at hc;obtain⟨ua,uc,rfl,huc,hua⟩:=id hu;obtain⟨n,hn⟩:∃n,p.length=n:=⟨_,rfl⟩;rw[hn]at hpt hc hsc |-;clear hpts hcv hcov hn;go_enter Tryz.func15,Tryz.ntmps15
 go_wp2_with fail
 refine hpt.mono ?_;rintro e w1 ⟨rfl,rfl⟩;clear hpt;go_wp2_with fail
 refine hc.mono ?_;rintro e w2 ⟨hE2,rfl⟩;clear hc;have hE02:=hE.trans hE2;go_wp2_with fail
 go_loopw [26] (fun q wr=>∃k:Nat,q= .int .i64 k/\k<=L.length/\Hid (∀j (hj:j<L.length),j<k->scE p L[j].1=0/\det<=scV p L[j].1)/\Ext w2 wr) (fun q _=>L.length - (intOf q).toNat)
 case atStart=>exact⟨0,rfl,Nat.zero_le _,hid (fun j hj h=>by omega),ExtX.refl _⟩
 case round=>
  obtain⟨k,rfl,hk,hok,hEr⟩:=hrel;have hEw:=hE02.trans hEr;by_cases hlt:k<L.length
  ·have hs1:=hs.mono a0G.mono (a0h hEw)
   have hlen:=(hLl.out L[k] (List.getElem_mem hlt)).1;have hno1:=hid (hno.out k hlt);have hok1:=hid (fun(h1:scE p L[k].1=0) (h2:det<=scV p L[k].1)=>(fun j hj hjk=>(by
    by_cases e:j=k
    ·subst e;exact⟨h1,h2⟩
    ·exact hok.out j hj (by omega)):∀j (hj:j<L.length),j<k+1->scE p L[j].1=0/\det<=scV p L[j].1))
   obtain⟨I,O,hx⟩:∃I O,L[k]=(I,O):=⟨_,_,rfl⟩;rw[hx]at hlen hno1 hok1
   dsimp only at hlen hno1 hok1
   have hx':=hid hx;have hscI:=hid (hscq.out I);clear hx;go_wp2_with (first|(with_reducible refine a1E a1t (by omega) (by assumption) ?_)|((with_reducible show wpList _ _ _ (⟨_, .load 103 _,_,_,_,_⟩::_) _ _);refine a0M a3D k hs1 hlt rfl (by omega) a0G.agg ?_;rintro u hu;rw[hx'.out]at hu;obtain⟨a1,c1,a2,c2,rfl,hc1,hc2,hs2,hs3⟩:=hu))
   have hEn:Ext wr (wr.alloc (.cells #[.slice a1 I.length c1, .slice a2 O.length c2] 103)):=(ExtX.refl wr).alloc _;have k1:(wr.alloc (.cells #[.slice a1 I.length c1, .slice a2 O.length c2] 103)).cell? ⟨wr.heap.size,0,none⟩=some (.slice a1 I.length c1):=a1u 0 rfl;obtain⟨g,hg⟩:∃g,wr.heap.size=g:=⟨_,rfl⟩;rw[hg]at k1 |-;generalize wr.alloc (.cells #[.slice a1 I.length c1, .slice a2 O.length c2] 103)=W3 at hEn k1 |-;have hE3:=hEw.trans hEn;have hsI:=hsc.out W3 a1 c1 I hE3 (hs2.mono (a0i.mono _) (a0h hEn)) hlen;unfold a2L at hsI;obtain⟨E,hEe⟩:∃E,scE p I=E:=⟨_,rfl⟩;obtain⟨V,hVe⟩:∃V,scV p I=V:=⟨_,rfl⟩;rw[hEe,hVe]at hsI hno1 hok1;rw[hVe]at hscI;clear hEe hVe hs2 hs3 hs1 hg;go_wp2_with fail
   refine hsI.mono ?_;rintro e w5 ⟨hE5,us,rfl,ro1,rl1,rc1,co1,cl1,cc1,mo1,ml1,mc1,s1,a3,n1,c3,d1,k3,f1,rfl,hq⟩;clear hsI;have bS:=Bx.new w5 #[.slice ro1 rl1 rc1, .slice co1 cl1 cc1, .slice mo1 ml1 mc1, .bool s1, .slice a3 n1 c3, .slice d1 k3 f1] 105;have hEa:Ext w5 (w5.alloc (.cells #[.slice ro1 rl1 rc1, .slice co1 cl1 cc1, .slice mo1 ml1 mc1, .bool s1, .slice a3 n1 c3, .slice d1 k3 f1] 105)):=(ExtX.refl w5).alloc _;obtain⟨wS,hwS⟩:∃wS,w5.alloc (.cells #[.slice ro1 rl1 rc1, .slice co1 cl1 cc1, .slice mo1 ml1 mc1, .bool s1, .slice a3 n1 c3, .slice d1 k3 f1] 105)=wS:=⟨_,rfl⟩;obtain⟨gS,hgS⟩:∃gS,w5.heap.size=gS:=⟨_,rfl⟩;rw[hwS]at bS hEa;rw[hgS]at bS;have hE0S:=hE3.trans (hE5.trans hEa);have bd:=b0.ext0 (hE2.trans (hEr.trans (hEn.trans (hE5.trans hEa))));have q3:wS.cell? ⟨gS,3,none⟩=some (.bool s1):=bS.cell 3 rfl;have q4:wS.cell? ⟨gS,3+1,none⟩=some (.slice a3 n1 c3):=bS.cell 4 rfl;have q5:wS.cell? ⟨gS,3+2,none⟩=some (.slice d1 k3 f1):=bS.cell 5 rfl;have r3:=bd.cell 0 rfl;have r4:=bd.cell 1 rfl;have r5:=bd.cell 2 rfl;by_cases hE0:E=0
   ·have hls:=b7e X wS _ _ V det (hX.ext hE0S) ((mkx QC.mono hq hEa).qv hscI.out) (mkx QV.mono hd hE0S)
    subst hE0;by_cases hlt2:V<det
    ·have hv:=hid (hno1.out (.inr hlt2))
     rw[decide_eq_true (b1H.2 hlt2)]at hls;clear hlt2 hok1 hno1;go_wp2_with fail
     refine hls.mono ?_;rintro e w6 ⟨hE6,rfl⟩;go_wp2_with fail
     go_ret
     exact⟨hE0S.trans hE6,a0j hv.out.symm⟩
    ·have hv:=hid (hok1.out rfl (Rat.not_lt.1 hlt2))
     rw[decide_eq_false (fun hh=>hlt2 (b1H.1 hh))]at hls;clear hlt2 hok1 hno1;go_wp2_with fail
     refine hls.mono ?_;rintro e w6 ⟨hE6,rfl⟩;have hE9:=hEr.trans (hEn.trans (hE5.trans (hEa.trans hE6)));go_wp2_with fail
     go_roundw
     case rel=>exact⟨k+1,by go_num,by omega,hv,hE9⟩
     case measure=>simp[intOf];omega
   ·have hv:=hid (hno1.out (.inl hE0))
    have hEb:((E:Int) !=0)=true:=a7i hE0;clear hE0 hok1 hno1;go_wp2_with fail
    go_ret
    exact⟨hE0S,a0j hv.out.symm⟩
  ·have hv:=hid (hyes.out fun j hj=>hok.out j hj (by omega))
   go_wp2_with fail
   go_ret
   exact⟨hEw,a0j hv.out.symm⟩
end Go.Proofs.YtoibhmjjhgaimaaGreat
