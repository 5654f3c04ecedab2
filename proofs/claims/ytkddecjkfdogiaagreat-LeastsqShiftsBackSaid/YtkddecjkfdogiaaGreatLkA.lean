/- A drawn region whose last operation waits for all others: the loads are taken first under a condition that need not hold behind the last operation. Conditions: none. Readings of Go values as lists: what a slice's cells hold, what a call leaves as it was; rules for the walk over them. Conditions: none. Slices that a call has made itself, read as lists: make, append, store, and the rules of the walk for them. Conditions: none. Steps of the walk over lists in slices: append, make, store, a slice of a slice, loads. Conditions: none. Closed facts on the program's types. Conditions: none. -/
import Derived.OrdersHeld
import Derived.StillTail
import Derived.Deep.RegionHeld
import Derived.WalkKit
import Derived.WalkSpells
import Derived.WalkLawsBesides
import Derived.Deep.DeepCutAuto
import Derived.Laws.CopyOwn
import Derived.Test.YtkddecjkfdogiaaGreatRows
namespace Go
section
variable {P:Program} {ops:Array Oper} {Q:Exit->Act->World->Prop} {md:Region.Mode} {S:World->Prop} {n:Nat}
def a1y (P:Program) (md:Region.Mode) (ops:Array Oper) (Q:Exit->Act->World->Prop) (S:World->Prop) (n:Nat):Nat->Array Bool->Act->World->Prop
 |0,listed,a,w=>Region.ready md ops listed= []/\Q .normal a w
 |fuel+1,listed,a,w=>
  (Region.ready md ops listed= []->Q .normal a w)/\
  ∀i∈Region.ready md ops listed,wpOp P ops Q i (fun a' w'=>(i<n->S w')/\a1y P md ops Q S n fuel (listed.setIfInBounds i true) a' w') a w
theorem a5s:∀(fuel:Nat) (listed:Array Bool) (a:Act) (w:World),a1y P md ops Q S n fuel listed a w->wpAny P md ops Q fuel listed a w
 |0,_,_,_,h=>h
 |fuel+1,_,_,_,h=>⟨h.1,fun i hi=>wpOp_mono (fun a' w' h'=>a5s fuel _ a' w' h'.2) (h.2 i hi)⟩
theorem a6x {i:Nat} {oi:Oper} {v:Value} (hs:Region.sinkB md ops n=true) (hc:Region.chainB md ops n=true) (hn:n<ops.size) (hin:i<n) (hi:ops[i]? =some oi) (hsel:∀(j:Nat) (o:Oper) cs b,ops[j]? =some o->o.op≠ .select cs b)
  (hQ:∀c a w,Q (.panic c) (a.put oi.dst v) w->Q (.panic c) a w):
  ∀(fuel:Nat) (listed:Array Bool) (a:Act) (w:World),HeadInv md ops n listed->
   (∀j oj,ops[j]? =some oj->j≠i->listed.getD j true=false->(∀e∈oj.after,Region.binds md e=true->e.on≠i)->oi.apart ops oj=true)->
   i∈Region.ready md ops listed->YieldsIf P ops S oi v a->S w->
   a1y P md ops Q S n fuel (listed.setIfInBounds i true) (a.put oi.dst v) w->a1y P md ops Q S n (fuel+1) listed a w:=by
 intro fuel
 induction fuel with
 |zero=>
  intro listed a w _ _ hr hy hS H;refine⟨fun h=>(by rw[h]at hr;cases hr),fun j hj=>?_⟩;by_cases hji:j=i
  ·subst hji;exact hy.wpOp hi hS ⟨fun _=>hS,H⟩
  ·have:=ready_mono hj hji
   rw[H.1]at this;cases this
 |succ fuel ih=>
  intro listed a w inv hfree hr hy hS H;refine⟨fun h=>(by rw[h]at hr;cases hr),fun j hj=>?_⟩;by_cases hji:j=i
  ·subst hji;exact hy.wpOp hi hS ⟨fun _=>hS,H⟩
  ·have hjn:j<n:=by
    rcases Nat.lt_or_ge j n with h|h
    ·exact h
    ·exact absurd hj (tail_waits hs hc hn inv (n - i) i rfl hin (mem_ready.1 hr).1 j h)
   have h1:=H.2 j (ready_mono hj hji);obtain⟨hjun,oj,hoj,hall⟩:=mem_ready.1 hj;have hnot:∀e∈oj.after,Region.binds md e=true->e.on≠i:=fun e he hb heq=>by
    have h1:=hall e he hb;have h0:=(mem_ready.1 hr).1;rw[heq]at h1;rcases Nat.lt_or_ge i listed.size with h'|h'
    ·simp[h']at h0 h1;rw[h0]at h1;cases h1
    ·simp[Array.getElem?_eq_none h']at h1
   have h2:=wpOp_putIf hoj (hfree j oj hoj hji hjun hnot) (fun cs b=>hsel i oi cs b hi) (fun cs b=>hsel j oj cs b hoj) hQ hy h1;have hfree':∀k ok,ops[k]? =some ok->k≠i->(listed.setIfInBounds j true).getD k true=false->
     (∀e∈ok.after,Region.binds md e=true->e.on≠i)->oi.apart ops ok=true:=fun k ok hk hki hun hno=>by
    refine hfree k ok hk hki ?_ hno;by_cases hjk:j=k
    ·subst hjk;exact hjun
    ·rw[getD_set_ne true hjk]at hun;exact hun
   refine wpOp_mono (fun a' w' h3=>⟨h3.2.1,ih (listed.setIfInBounds j true) a' w' (inv.set hj hjn) hfree' (ready_mono hr (Ne.symm hji)) h3.1 (h3.2.1 hjn) ?_⟩) h2;rw[Array.setIfInBounds_comm _ _ hji];exact h3.2.2
def b2V (md:Region.Mode) (ops:Array Oper) (n:Nat) (listed:Array Bool):Bool:=
 decide (listed.size=ops.size)&&
 ((List.range ops.size).all fun j=> !listed.getD j false||(match ops[j]? with|some o=>o.after.all fun e=> !Region.binds md e||listed.getD e.on false|none=>true))&&
 ((List.range ops.size).all fun t=>decide (t<n)|| !listed.getD t true)
theorem a9A {listed:Array Bool} (h:b2V md ops n listed=true):HeadInv md ops n listed:=by
 unfold b2V at h;simp only[Bool.and_eq_true,decide_eq_true_eq]at h;obtain⟨⟨h1,h2⟩,h3⟩:=h;refine⟨h1,fun j oj hj hl e he hb=>?_,fun t ht ht'=>?_⟩
 ·have hlt:j<ops.size:=(Array.getElem?_eq_some_iff.1 hj).1
  have h4:=List.all_eq_true.1 h2 j (List.mem_range.2 hlt);rw[hl,hj]at h4;simp only[Bool.not_true,Bool.false_or]at h4;have h5:=Array.all_eq_true_iff_forall_mem.1 h4 e he;rw[hb]at h5;simpa using h5
 ·have h4:=List.all_eq_true.1 h3 t (List.mem_range.2 ht')
  simp only[Bool.or_eq_true,decide_eq_true_eq,Bool.not_eq_true']at h4;rcases h4 with h4|h4
  ·omega
  ·exact h4
def b4u (md:Region.Mode) (ops:Array Oper) (n i:Nat) (listed:Array Bool):Bool:=
 decide (i<n)&&b2V md ops n listed&&Region.free md ops listed i&&(Region.ready md ops listed).contains i
def b0Z (md:Region.Mode) (ops:Array Oper) (n:Nat):Bool:=Region.sinkB md ops n&&Region.chainB md ops n&&decide (n<ops.size)&&Region.noSelect ops
theorem a0a {i:Nat} {oi:Oper} {v:Value} {fuel:Nat} {listed:Array Bool} {a:Act} {w:World} (hO:Shut (b0Z md ops n=true)) (hi:ops[i]? =some oi)
  (hB:b4u md ops n i listed=true)
  (hQ:∀c a w,Q (.panic c) (a.put oi.dst v) w->Q (.panic c) a w) (hS:S w) (hw:Region.wanted oi (yielded ops a.tmps)=true) (hy:∀w,S w->(execOp a.eval oi).run P w= .ok (.value v) w)
  (h:a1y P md ops Q S n fuel (listed.setIfInBounds i true) (a.put oi.dst v) w):a1y P md ops Q S n (fuel+1) listed a w:=by
 unfold b4u at hB;simp only[Bool.and_eq_true,decide_eq_true_eq]at hB;obtain⟨⟨⟨b4,b5⟩,b7⟩,b8⟩:=hB;have hO:=hO.out;unfold b0Z at hO;simp only[Bool.and_eq_true,decide_eq_true_eq]at hO;obtain⟨⟨⟨b1,b2⟩,b3⟩,b6⟩:=hO;exact a6x b1 b2 b3 b4 hi (Region.noSelect_spec b6) hQ fuel listed a w (a9A b5) (Region.free_spec hi b7) (by simpa using b8) (.inl ⟨hw,hy⟩) hS h
theorem a0d {i:Nat} {o:Oper} {fuel:Nat} {listed:Array Bool} {a:Act} {w:World} (hr:Region.ready md ops listed= [i]) (ho:ops[i]? =some o)
  (h:∀K':Act->World->Prop,Shut (∀a w,S w->(S w->a1y P md ops Q S n fuel (listed.setIfInBounds i true) a w)->K' a w)->if Region.wanted o (yielded ops a.tmps)=true then Oper.wp P o a w K' Q else K' (a.put o.dst undef) w):a1y P md ops Q S n (fuel+1) listed a w:=by
 refine⟨fun h0=>(by rw[hr]at h0;cases h0),fun j hj=>?_⟩;rw[hr]at hj;have:j=i:=by simpa using hj
 subst this;exact wpOp_step ho (fun K' hK=>h K' (fun a w hS hW=>hK a w ⟨fun _=>hS,hW hS⟩))
theorem a0F {i j:Nat} {oi oj:Oper} {fuel:Nat} {listed:Array Bool} {a:Act} {w:World} (hr:Region.ready md ops listed= [i,j]) (hi:ops[i]? =some oi) (hj:ops[j]? =some oj)
  (h1:∀K':Act->World->Prop,Shut (∀a w,S w->(S w->a1y P md ops Q S n fuel (listed.setIfInBounds i true) a w)->K' a w)->if Region.wanted oi (yielded ops a.tmps)=true then Oper.wp P oi a w K' Q else K' (a.put oi.dst undef) w)
  (h2:∀K':Act->World->Prop,Shut (∀a w,S w->(S w->a1y P md ops Q S n fuel (listed.setIfInBounds j true) a w)->K' a w)->if Region.wanted oj (yielded ops a.tmps)=true then Oper.wp P oj a w K' Q else K' (a.put oj.dst undef) w):a1y P md ops Q S n (fuel+1) listed a w:=by
 refine⟨fun h0=>(by rw[hr]at h0;cases h0),fun k hk=>?_⟩;rw[hr]at hk;rcases List.mem_cons.1 hk with rfl|hk
 ·exact wpOp_step hi (fun K' hK=>h1 K' (fun a w hS hW=>hK a w ⟨fun _=>hS,hW hS⟩))
 ·obtain rfl:k=j:=by simpa using hk
  exact wpOp_step hj (fun K' hK=>h2 K' (fun a w hS hW=>hK a w ⟨fun _=>hS,hW hS⟩))
theorem a0j {i:Nat} {o:Oper} {fuel:Nat} {listed:Array Bool} {a:Act} {w:World} (hr:Region.ready md ops listed= [i]) (ho:ops[i]? =some o) (hin:n<=i)
  (hd:Region.ready md ops (listed.setIfInBounds i true)= [])
  (h:∀K':Act->World->Prop,Shut (∀a w,Q .normal a w->K' a w)->if Region.wanted o (yielded ops a.tmps)=true then Oper.wp P o a w K' Q else K' (a.put o.dst undef) w):a1y P md ops Q S n (fuel+1) listed a w:=by
 refine⟨fun h0=>(by rw[hr]at h0;cases h0),fun j hj=>?_⟩;rw[hr]at hj;have:j=i:=by simpa using hj
 subst this;refine wpOp_step ho (fun K' hK=>h K' (fun a w hq=>hK a w ⟨fun hlt=>absurd hlt (Nat.not_lt.2 hin),?_⟩));cases fuel with
 |zero=>exact⟨hd,hq⟩
 |succ f=>exact⟨fun _=>hq,by rw[hd];simp⟩
theorem a0L {id:Nat} {a:Act} {w:World} (n:Nat) (S:World->Prop) (hm:P.follows .mixedOrders=true) (hO:b0Z .any ops n=true) (hS:S w.drew)
  (h:S w.drew->Shut (b0Z .any ops n=true)->a1y P .any ops Q S n ops.size (Array.replicate ops.size false) a w.drew):(Code.region id ops true).wp P Q a w:=
 wp_region_any hm (a5s _ _ _ _ (h hS hO))
end
end Go
namespace Go.Rep
open Go.RowKit
def lenOf:Value->Nat| .slice _ n _=>n|_=>0
theorem hid {p:Prop} (h:p):Hid p:=h
theorem a3Q {a:Option Addr} {n m c:Nat} (h:n=m):Ending.returned (.slice a n c)= .returned (.slice a m c):=by rw[h]
theorem a0I {k:IntKind} {a b:Int} (h:a=b):Ending.returned (.int k a)= .returned (.int k b):=by rw[h]
theorem a0l {a b:Bool} (h:a=b):Ending.returned (.bool a)= .returned (.bool b):=by rw[h]
theorem a6y (n:Nat):((n:Int) !=0)=(n !=0):=by rw[Bool.eq_iff_iff];simp
theorem a5t (n:Nat) (h:n<4294967296):(n:Int)%4294967296=n:=by omega
theorem a3E {a b:Int} (h:a≠b):(a==b)=false:=by simpa using h
theorem a8S {a b:Int} (h:a=b):(a !=b)=false:=by simpa using h
theorem a7n {a b:Int} (h:a=b):(a==b)=true:=by simpa using h
theorem a7p {a b:Int} (h:a≠b):(a !=b)=true:=by simpa using h
abbrev Mem:=Addr->Option Value
def Le (h h':Mem):Prop:=∀a u,h a=some u->h' a=some u
theorem Le.refl (h:Mem):Le h h:=fun _ _ x=>x
theorem Le.trans {a b c:Mem} (h:Le a b) (k:Le b c):Le a c:=fun x u e=>k x u (h x u e)
theorem a2g {w:World} {a:Addr} {u:Value} (h:w.cell? a=some u):a.block<w.heap.size:=by
 unfold World.cell? at h;by_cases hl:a.block<w.heap.size
 ·exact hl
 ·rw[Array.getElem?_eq_none (by omega)]at h;simp at h
structure ExtX (Y:Nat->Bool) (w w':World):Prop where
 os:w'.os=w.os
 tape:w'.tape=w.tape
 output:w'.output=w.output
 size:w.heap.size<=w'.heap.size
 block:∀k,k<w.heap.size->Y k=false->w'.heap[k]? =w.heap[k]?
def noY:Nat->Bool:=fun _=>false
abbrev Ext (w w':World):Prop:=ExtX noY w w'
theorem ExtX.refl {Y:Nat->Bool} (w:World):ExtX Y w w:=⟨rfl,rfl,rfl,Nat.le_refl _,fun _ _ _=>rfl⟩
theorem ExtX.trans {Y:Nat->Bool} {a b c:World} (h:ExtX Y a b) (k:ExtX Y b c):ExtX Y a c:=
 ⟨k.os.trans h.os,k.tape.trans h.tape,k.output.trans h.output,Nat.le_trans h.size k.size,fun i hi hy=>(k.block i (Nat.lt_of_lt_of_le hi h.size) hy).trans (h.block i hi hy)⟩
theorem ExtX.weaken {Y Z:Nat->Bool} {a b:World} (h:ExtX Y a b) (hz:∀k,k<a.heap.size->Z k=false->Y k=false):ExtX Z a b:=
 ⟨h.os,h.tape,h.output,h.size,fun k hk hy=>h.block k hk (hz k hk hy)⟩
theorem ExtX.of {Y:Nat->Bool} {a b:World} (h:Ext a b):ExtX Y a b:=h.weaken fun _ _ _=>rfl
theorem ExtX.alloc {Y:Nat->Bool} {a w:World} (h:ExtX Y a w) (o:Obj):ExtX Y a (w.alloc o):=
 h.trans ⟨rfl,rfl,rfl,by simp,fun k hk _=>Below.heap_alloc _ _ _ hk⟩
theorem ExtX.drew {Y:Nat->Bool} {a w:World} (h:ExtX Y a w):ExtX Y a w.drew:=⟨h.os,h.tape,h.output,h.size,h.block⟩
theorem ExtX.drewN {Y:Nat->Bool} {a w:World} (h:ExtX Y a w) (n:Nat):ExtX Y a (w.drewN n):=⟨h.os,h.tape,h.output,h.size,h.block⟩
theorem ExtX.then_ {Y Z:Nat->Bool} {a b c:World} (h:ExtX Y a b) (k:ExtX Z b c) (hz:∀i,i<a.heap.size->Y i=false->Z i=false):ExtX Y a c:=
 ⟨k.os.trans h.os,k.tape.trans h.tape,k.output.trans h.output,Nat.le_trans h.size k.size,fun i hi hy=>(k.block i (Nat.lt_of_lt_of_le hi h.size) (hz i hi hy)).trans (h.block i hi hy)⟩
theorem ExtX.below {w w':World} (h:Ext w w'):Below w.heap.size w w':=⟨h.os,h.tape,h.output,h.size,fun k hk=>h.block k hk rfl⟩
def mk (X:Nat->Bool) (w:World):Mem:=fun a=>if X a.block then none else w.cell? a
theorem a1q {X:Nat->Bool} {w:World} {a:Addr} {u:Value} (h:mk X w a=some u):w.cell? a=some u:=by
 unfold mk at h;split at h
 ·simp at h
 ·exact h
theorem b4v (X:Nat->Bool) (w:World):Le (mk X w) w.cell?:=fun _ _ h=>a1q h
theorem a5u (w:World):mk noY w=w.cell?:=by funext a;simp[mk,noY]
theorem a0O {X Y:Nat->Bool} {w w':World} (h:ExtX Y w w') (hY:∀k,Y k=true->X k=true):Le (mk X w) (mk X w'):=by
 intro a u e;have hc:=a1q e;have hl:=a2g hc;unfold mk at e |-;by_cases hx:X a.block=true
 ·simp[hx]at e
 ·rw[if_neg hx]
  have hy:Y a.block=false:=by
   cases hh:Y a.block
   ·rfl
   ·exact absurd (hY _ hh) hx
  rw[World.cell?_of_block (h.block a.block hl hy)];exact hc
theorem a0o {X:Nat->Bool} {w w':World} (h:Ext w w'):Le (mk X w) (mk X w'):=a0O h (fun k hk=>by simp[noY]at hk)
theorem a1m {X Z:Nat->Bool} {w:World} (h:∀k,k<w.heap.size->X k=true->Z k=true):Le (mk Z w) (mk X w):=by
 intro a u e;have hl:=a2g (a1q e);have hc:=a1q e;unfold mk at e |-;by_cases hx:X a.block=true
 ·simp[h _ hl hx]at e
 ·rw[if_neg hx];exact hc
theorem a0R {X Y Z:Nat->Bool} {w w':World} (h:ExtX Y w w') (hY:∀k,k<w.heap.size->Y k=true->X k=true) (hZ:∀k,k<w.heap.size->Z k=true->X k=true):Le (mk X w) (mk Z w'):=by
 intro a u e;have hc:=a1q e;have hl:=a2g hc;unfold mk at e |-;by_cases hx:X a.block=true
 ·simp[hx]at e
 ·have hz:¬Z a.block=true:=fun hz=>hx (hZ _ hl hz)
  rw[if_neg hz];have hy:Y a.block=false:=by
   cases hh:Y a.block
   ·rfl
   ·exact absurd (hY _ hl hh) hx
  rw[World.cell?_of_block (h.block a.block hl hy)];exact hc
theorem ExtX.cell {w w':World} (h:Ext w w') {a:Addr} {u:Value} (hc:w.cell? a=some u):w'.cell? a=some u:=by
 have:=a0o (X:=noY) h a u (by rw[a5u];exact hc);rwa[a5u]at this
theorem ExtX.cellY {Y:Nat->Bool} {w w':World} (h:ExtX Y w w') {a:Addr} {u:Value} (hc:w.cell? a=some u) (hy:Y a.block=false):w'.cell? a=some u:=by
 rw[World.cell?_of_block (h.block a.block (a2g hc) hy)];exact hc
theorem b1a {w:World} {cs:Array Value} {e:TypeId} (j:Nat) {u:Value} (h:cs[j]? =some u):(w.alloc (.cells cs e)).cell? ⟨w.heap.size,j,none⟩=some u:=by
 unfold World.cell?;rw[heap_alloc_new w];simpa using h
def ob (ao:Option Addr):Nat->Bool:=fun k=>match ao with|some a=>a.block==k|none=>false
def un (X:Nat->Bool) (ao:Option Addr):Nat->Bool:=fun k=>X k||ob ao k
theorem a0p {X:Nat->Bool} {ao:Option Addr} {k:Nat} (h:X k=true):un X ao k=true:=by simp[un,h]
theorem a0q {X:Nat->Bool} {ao:Option Addr} {k:Nat} (h:ob ao k=true):un X ao k=true:=by simp[un,h]
theorem a1v {X:Nat->Bool} {ao:Option Addr} {k:Nat} (h:un X ao k=false):X k=false/\ob ao k=false:=by simpa[un]using h
def adr (ao:Option Addr) (k:Nat):Addr:=⟨(ao.getD ⟨0,0,none⟩).block,(ao.getD ⟨0,0,none⟩).off+k,none⟩
@[go_sem] theorem a7q (ao:Option Addr) (k j:Nat):(adr ao k).add j=adr ao (k+j):=by
 unfold adr;rw[Addr.add_lit,Nat.add_assoc]
theorem a1h (b o k:Nat):adr (some ⟨b,o,none⟩) k=⟨b,o+k,none⟩:=rfl
def Hd (ao:Option Addr) (n:Nat):Prop:=0<n->∃b off,ao=some ⟨b,off,none⟩
def Sl {α:Type} (R:Mem->Value->α->Prop) (sz:Nat) (h:Mem) (ao:Option Addr) (l:List α):Prop:=
 Hd ao l.length/\∀i (hi:i<l.length),∃u:Value,u.cells.size=sz/\(∀j (hj:j<u.cells.size),h (adr ao (i*sz+j))=some u.cells[j])/\R h u l[i]
def a3c {α:Type} (R:Mem->Value->α->Prop):Prop:=∀(h h':Mem) (u:Value) (x:α),Le h h'->R h u x->R h' u x
def a3d {α:Type} (R:Mem->Value->α->Prop):Prop:=∀(h:Mem) (u:Value) (x:α),R h u x->u.cells=#[u]
theorem Sl.hd {α:Type} {R:Mem->Value->α->Prop} {sz:Nat} {h:Mem} {ao:Option Addr} {l:List α} (s:Sl R sz h ao l):Hd ao l.length:=s.1
theorem Sl.mono {α:Type} {R:Mem->Value->α->Prop} (hR:a3c R) {sz:Nat} {h h':Mem} {ao:Option Addr} {l:List α} (hl:Le h h') (s:Sl R sz h ao l):Sl R sz h' ao l:=by
 refine⟨s.1,fun i hi=>?_⟩;obtain⟨u,h1,h2,h3⟩:=s.2 i hi;exact⟨u,h1,fun j hj=>hl _ _ (h2 j hj),hR _ _ _ _ hl h3⟩
theorem Sl.nil {α:Type} (R:Mem->Value->α->Prop) (sz:Nat) (h:Mem) (ao:Option Addr):Sl R sz h ao []:=
 ⟨fun h=>by simp at h,fun i hi=>by simp at hi⟩
theorem Sl.take {α:Type} {R:Mem->Value->α->Prop} {sz:Nat} {h:Mem} {ao:Option Addr} {l:List α} (s:Sl R sz h ao l) (n:Nat):Sl R sz h ao (l.take n):=by
 refine⟨fun hn=>s.1 (by simp at hn;omega),fun i hi=>?_⟩;have hi':i<l.length:=by simp at hi;omega
 obtain⟨u,h1,h2,h3⟩:=s.2 i hi';exact⟨u,h1,h2,by simpa using h3⟩
def SlV {α:Type} (R:Mem->Value->α->Prop) (sz:Nat) (h:Mem) (v:Value) (l:List α):Prop:=
 ∃ao cap,v= .slice ao l.length cap/\l.length<=cap/\Sl R sz h ao l
theorem SlV.mono {α:Type} {R:Mem->Value->α->Prop} (hR:a3c R) (sz:Nat):a3c (SlV R sz):=by
 rintro h h' u x hl ⟨ao,cap,rfl,hc,hs⟩;exact⟨ao,cap,rfl,hc,hs.mono hR hl⟩
theorem SlV.one {α:Type} {R:Mem->Value->α->Prop} {sz:Nat}:a3d (SlV R sz):=by
 rintro h u x ⟨ao,cap,rfl,_⟩;rfl
theorem SlV.zero {α:Type} (R:Mem->Value->α->Prop) (sz:Nat) (h:Mem):SlV R sz h (.slice none 0 0) []:=
 ⟨none,0,rfl,Nat.le_refl _,Sl.nil _ _ _ _⟩
def a0b (k:IntKind):Mem->Value->Nat->Prop:=fun _ u x=>u= .int k (x:Int)
theorem a0b.mono (k:IntKind):a3c (a0b k):=fun _ _ _ _ _ h=>h
theorem a0b.one (k:IntKind):a3d (a0b k):=by rintro h u x rfl;rfl
def a1P (k:IntKind):Mem->Value->Int->Prop:=fun _ u x=>u= .int k x
theorem a1P.mono (k:IntKind):a3c (a1P k):=fun _ _ _ _ _ h=>h
theorem a1P.one (k:IntKind):a3d (a1P k):=by rintro h u x rfl;rfl
theorem Sl.cell {α:Type} {R:Mem->Value->α->Prop} {h:Mem} {ao:Option Addr} {l:List α} (s:Sl R 1 h ao l) (h1:a3d R) (i:Nat) (hi:i<l.length):
  ∃u,h (adr ao i)=some u/\R h u l[i]:=by
 obtain⟨u,_,h2,h3⟩:=s.2 i hi;have hc:=h1 _ _ _ h3;have h4:=h2 0 (by rw[hc];exact Nat.one_pos);refine⟨u,?_,h3⟩;rw[Nat.mul_one,Nat.add_zero]at h4;rw[h4];simp[hc]
theorem Sl.nat {k:IntKind} {X:Nat->Bool} {w:World} {ao:Option Addr} {l:List Nat} (s:Sl (a0b k) 1 (mk X w) ao l) (i:Nat) (hi:i<l.length):w.cell? (adr ao i)=some (.int k (l[i]:Int)):=by
 obtain⟨u,h1,rfl⟩:=s.cell (a0b.one k) i hi;exact a1q h1
theorem Sl.int {k:IntKind} {X:Nat->Bool} {w:World} {ao:Option Addr} {l:List Int} (s:Sl (a1P k) 1 (mk X w) ao l) (i:Nat) (hi:i<l.length):w.cell? (adr ao i)=some (.int k l[i]):=by
 obtain⟨u,h1,rfl⟩:=s.cell (a1P.one k) i hi;exact a1q h1
theorem Sl.slice {α:Type} {R:Mem->Value->α->Prop} {sz:Nat} {X:Nat->Bool} {w:World} {ao:Option Addr} {l:List (List α)} (s:Sl (SlV R sz) 1 (mk X w) ao l) (i:Nat) (hi:i<l.length):
  ∃a c,w.cell? (adr ao i)=some (.slice a l[i].length c)/\l[i].length<=c/\Sl R sz (mk X w) a l[i]:=by
 obtain⟨u,h1,a,c,rfl,h2,h3⟩:=s.cell SlV.one i hi;exact⟨a,c,a1q h1,h2,h3⟩
structure SliceT (P:Program) (t e sz by_:Nat) (z:Value):Prop where
 und:P.underlying t=some (.slice e)
 info:(P.info? e).map (fun i=>(i.zero,i.size,i.bytes))=some (some z,sz,by_)
def TyI (P:Program) (t sz:Nat):Prop:=∃ti,P.info? t=some ti/\ti.size=sz
section
variable {P:Program} {ops:Array Oper} {Q:Exit->Act->World->Prop} {rest:List Oper} {a:Act} {w:World}
theorem a0n {t e sz by_:Nat} {z:Value} (T:SliceT P t e sz by_ z) (ao:Option Addr) (len cap:Nat) (k:IntKind) (n:Nat)
  (hb:Hd ao len) (hn:n<len) (w:World):
  (Instr.indexAt t (.slice ao len cap) (.int k (n:Int))).run P w= .ok (.pointer (some (adr ao (n*sz)))) w:=by
 obtain⟨i,hi,hz,hsz,hby⟩:=info_parts T.info;obtain⟨b,off,rfl⟩:=hb (by omega);subst hsz;have e:(⟨b,off,none⟩:Addr).add (n*i.size)=⟨b,off+n*i.size,none⟩:=Addr.add_lit _ _ _;simp[Instr.indexAt,asIntOf,Sem.run_bind,run_underlying T.und,Result.andThen,hn,sizeOf,typeInfo,hi,adr,e]
theorem a0z {t e by_:Nat} {z:Value} (T:SliceT P t e 1 by_ z) (ao:Option Addr) (len cap:Nat) (k:IntKind) (n:Nat) {m:Int} (hb:Hd ao len) (hn:n<len) (hm:m=(n:Int)) (w:World):
  (Instr.indexAt t (.slice ao len cap) (.int k m)).run P w= .ok (.pointer (some (adr ao n))) w:=by
 subst hm;rw[a0n (P:=P) T ao len cap k n hb hn w,Nat.mul_one]
theorem a0t {o:Oper} {K:Act->World->Prop} {t e by_:Nat} {z:Value} (T:SliceT P t e 1 by_ z) {ao:Option Addr} {len cap:Nat} {k:IntKind} {m:Int}
  (h0:0<=m/\m<(len:Int)) (hb:Hd ao len) (h:K (a.put o.dst (.pointer (some (adr ao m.toNat)))) w):
  o.upon P a K Q ((Sem.run P (Instr.indexAt t (.slice ao len cap) (.int k m)) w).andThen fun v w=> .ok (.value v) w):=by
 obtain⟨n,rfl⟩:=Int.eq_ofNat_of_zero_le h0.1;rw[a0n (P:=P) T ao len cap k n hb (by omega) w,Nat.mul_one];exact h
theorem a2r {o:Oper} {K:Act->World->Prop} {t e sz by_:Nat} {z:Value} (T:SliceT P t e sz by_ z) {ao:Option Addr} {len cap:Nat} {k:IntKind} {m:Int}
  (h0:0<=m/\m<(len:Int)) (hb:Hd ao len) (h:K (a.put o.dst (.pointer (some (adr ao (m.toNat*sz))))) w):
  o.upon P a K Q ((Sem.run P (Instr.indexAt t (.slice ao len cap) (.int k m)) w).andThen fun v w=> .ok (.value v) w):=by
 obtain⟨n,rfl⟩:=Int.eq_ofNat_of_zero_le h0.1;rw[a0n (P:=P) T ao len cap k n hb (by omega) w];exact h
end
end Go.Rep
namespace Go.Rep
open Go.RowKit
def a0g (u:Value):List Value:=u.cells.toList
theorem a0M {sz:Nat}:∀(us:List Value),(∀u∈us,u.cells.size=sz)->(us.flatMap a0g).length=us.length*sz
 | [],_=>by simp
 |u::us,h=>by
  rw[List.flatMap_cons,List.length_append,a0M us (fun x hx=>h x (List.mem_cons_of_mem _ hx)),List.length_cons,Nat.succ_mul];have:(a0g u).length=sz:=by simp[a0g,h u (List.mem_cons_self ..)]
  omega
theorem a3w {sz:Nat}:∀(us:List Value) (i j:Nat) (hi:i<us.length),(∀u∈us,u.cells.size=sz)->j<sz->(us.flatMap a0g)[i*sz+j]? =(a0g us[i])[j]?
 |u::us,i,j,hi,h,hj=>by
  have hu:(a0g u).length=sz:=by simp[a0g,h u (List.mem_cons_self ..)]
  rw[List.flatMap_cons]
  match i with
  |0=>
   simp only[Nat.zero_mul,Nat.zero_add,List.getElem_cons_zero];rw[List.getElem?_append_left (by omega)]
  |i+1=>
   rw[List.getElem?_append_right (by rw[hu,Nat.succ_mul];omega),hu];have e:(i+1)*sz+j - sz=i*sz+j:=by rw[Nat.succ_mul];omega
   rw[e];simpa using a3w us i j (by simpa using hi) (fun x hx=>h x (List.mem_cons_of_mem _ hx)) hj
theorem a7U {sz:Nat}:∀(us:List Value) (i:Nat) (u:Value),i<us.length->(∀u∈us,u.cells.size=sz)->u.cells.size=sz->
  (us.set i u).flatMap a0g=(us.flatMap a0g).take (i*sz)++a0g u++(us.flatMap a0g).drop (i*sz+sz)
 |v::us,i,u,hi,h,hu=>by
  have hv:(a0g v).length=sz:=by simp[a0g,h v (List.mem_cons_self ..)]
  match i with
  |0=>
   simp only[List.set_cons_zero,List.flatMap_cons,Nat.zero_mul,List.take_zero,List.nil_append,Nat.zero_add];rw[List.drop_append_of_le_length (by omega),List.drop_of_length_le (by omega),List.nil_append]
  |i+1=>
   have ih:=a7U us i u (by simpa using hi) (fun x hx=>h x (List.mem_cons_of_mem _ hx)) hu;simp only[List.set_cons_succ,List.flatMap_cons];have e1:(i+1)*sz=(a0g v).length+i*sz:=by rw[Nat.succ_mul];omega
   rw[ih,e1,List.take_length_add_append,Nat.add_assoc,List.drop_length_add_append];simp only[List.append_assoc]
structure Elem {α:Type} (R:Mem->Value->α->Prop) (sz:Nat):Prop where
 mono:a3c R
 size:∀(h:Mem) (u:Value) (x:α),R h u x->u.cells.size=sz
 one:∀(h:Mem) (u:Value) (x:α),R h u x->∀c∈a0g u,c.oneCell'=true
 pos:0<sz
theorem a0b.elem (k:IntKind):Elem (a0b k) 1:=⟨a0b.mono k,by rintro h u x rfl;rfl,by rintro h u x rfl c hc;simp[a0g,Value.cells]at hc;subst hc;rfl,Nat.one_pos⟩
theorem a1P.elem (k:IntKind):Elem (a1P k) 1:=⟨a1P.mono k,by rintro h u x rfl;rfl,by rintro h u x rfl c hc;simp[a0g,Value.cells]at hc;subst hc;rfl,Nat.one_pos⟩
theorem SlV.elem {α:Type} {R:Mem->Value->α->Prop} {sz:Nat} (h:Elem R sz):Elem (SlV R sz) 1:=
 ⟨SlV.mono h.mono sz,by rintro h u x ⟨ao,cap,rfl,_⟩;rfl,by rintro h u x ⟨ao,cap,rfl,_⟩ c hc;simp[a0g,Value.cells]at hc;subst hc;rfl,Nat.one_pos⟩
def OL {α:Type} (R:Mem->Value->α->Prop) (sz:Nat) (X:Nat->Bool) (base:Nat) (e:TypeId) (w:World) (ao:Option Addr) (cap:Nat) (l:List α):Prop:=
 (∀k,ob ao k=true->X k=false)/\
 ∃us:List Value,us.length=l.length/\(∀u∈us,u.cells.size=sz)/\(∀u∈us,∀c∈a0g u,c.oneCell'=true)/\w.ownsRow base e sz (.slice ao l.length cap) l.length (us.flatMap a0g)/\
  ∀i (hi:i<us.length) (hi':i<l.length),R (mk (un X ao) w) us[i] l[i]
section
variable {α:Type} {R:Mem->Value->α->Prop} {sz:Nat} {X:Nat->Bool} {base:Nat} {e:TypeId} {w:World} {ao:Option Addr} {cap:Nat} {l:List α}
theorem OL.nil (R:Mem->Value->α->Prop) (sz:Nat) (X:Nat->Bool) (base:Nat) (e:TypeId) (w:World):OL R sz X base e w none 0 []:=
 ⟨fun _ h=>by simp[ob]at h,[],rfl,by simp,by simp,World.ownsRow_nil w base e sz,fun i hi=>by simp at hi⟩
theorem OL.form (h:OL R sz X base e w ao cap l):(ao=none/\cap=0/\l= [])\/∃g cur,ao=some ⟨g,0,none⟩/\base<=g/\w.heap[g]? =some (.cells cur e (0,0))/\l.length<=cap/\cap<=maxLen/\cur.size=cap*sz:=by
 obtain⟨_,us,h1,h2,_,⟨h3,h4⟩,h5⟩:=h;rcases h4 with⟨hv,hn⟩|⟨g,c,cur,hv,h6,h7,h8,h9,h10,h11⟩
 ·left
  simp at hv;exact⟨hv.1,hv.2.2,List.eq_nil_of_length_eq_zero hn⟩
 ·right
  simp at hv;obtain⟨rfl,rfl⟩:=hv;exact⟨g,cur,rfl,h6,h7,h8,h9,h10⟩
theorem OL.block (h:OL R sz X base e w ao cap l) {k:Nat} (hk:ob ao k=true):base<=k/\k<w.heap.size:=by
 rcases h.form with⟨rfl,_⟩|⟨g,cur,rfl,h6,h7,_⟩
 ·simp[ob]at hk
 ·have:g=k:=by simpa[ob]using hk
  subst this;refine⟨h6,?_⟩;by_cases hl:g<w.heap.size
  ·exact hl
  ·rw[Array.getElem?_eq_none (by omega)]at h7;simp at h7
theorem OL.ob_lt (h:OL R sz X base e w ao cap l) {k:Nat} (hk:k<base):ob ao k=false:=by
 cases hb:ob ao k
 ·rfl
 ·have:=h.block hb;omega
theorem OL.lenCap (h:OL R sz X base e w ao cap l):l.length<=cap:=by
 rcases h.form with⟨_,_,rfl⟩|⟨g,cur,_,_,_,h8,_⟩
 ·simp
 ·exact h8
theorem OL.hd (h:OL R sz X base e w ao cap l):Hd ao l.length:=by
 intro hn;rcases h.form with⟨_,_,rfl⟩|⟨g,cur,rfl,_⟩
 ·simp at hn
 ·exact⟨g,0,rfl⟩
theorem OL.cells (h:OL R sz X base e w ao cap l):∃us:List Value,us.length=l.length/\(∀u∈us,u.cells.size=sz)/\(∀u∈us,∀c∈a0g u,c.oneCell'=true)/\
  (∀j u,(us.flatMap a0g)[j]? =some u->w.cell? (adr ao j)=some u/\w.frozen? (adr ao j)=false)/\∀i (hi:i<us.length) (hi':i<l.length),R (mk (un X ao) w) us[i] l[i]:=by
 have hf:=h.form;obtain⟨hx,us,h1,h2,h22,⟨h3,h4⟩,h5⟩:=h;refine⟨us,h1,h2,h22,fun j u hj=>?_,h5⟩;have hlt:j<l.length*sz:=by
  rw[<-h3];exact(List.getElem?_eq_some_iff.1 hj).1
 rcases hf with⟨_,_,rfl⟩|⟨g,cur,rfl,h6,h7,h8,h9,h10⟩
 ·simp at hlt
 rcases h4 with⟨hv,hn⟩|⟨g',c,cur',hv,_,h7',_,_,_,h11⟩
 ·simp at hv
 simp at hv;obtain⟨rfl,rfl⟩:=hv;rw[h7]at h7';obtain rfl:cur=cur':=by simpa using h7'
 rw[<-h11,List.getElem?_take_of_lt hlt]at hj;have hadr:adr (some ⟨g,0,none⟩) j=⟨g,j,none⟩:=by simp[adr]
 rw[hadr];simp only[Array.getElem?_toList]at hj;simp[World.cell?,World.frozen?,h7,hj]
theorem OL.sl (hR:Elem R sz) (h:OL R sz X base e w ao cap l):Sl R sz (mk X w) ao l:=by
 refine⟨h.hd,fun i hi=>?_⟩;have hf:=h.form;have hx:=h.1;obtain⟨us,h1,h2,_,h3,h5⟩:=h.cells;have hi':i<us.length:=by omega
 refine⟨us[i],h2 _ (List.getElem_mem _),fun j hj=>?_,hR.mono _ _ _ _ (a1m fun k _ hk=>a0p hk) (h5 i hi' hi)⟩;have hsz:us[i].cells.size=sz:=h2 _ (List.getElem_mem _);have hget:=a3w us i j hi' h2 (by omega);have hc:(a0g us[i])[j]? =some us[i].cells[j]:=by simp[a0g,hj]
 rw[hc]at hget;have hg:=(h3 _ _ hget).1;unfold mk;have:X (adr ao (i*sz+j)).block=false:=by
  rcases hf with⟨_,_,rfl⟩|⟨g,cur,rfl,_⟩
  ·simp at hi
  ·exact hx _ (by simp[ob,adr])
 rw[this];simpa using hg
theorem OL.cell (h1c:a3d R) (h:OL R 1 X base e w ao cap l) (i:Nat) (hi:i<l.length):
  ∃u,w.cell? (adr ao i)=some u/\w.frozen? (adr ao i)=false/\R (mk (un X ao) w) u l[i]:=by
 obtain⟨us,h1,h2,_,h3,h5⟩:=h.cells;have hi':i<us.length:=by omega
 have hsz:us[i].cells.size=1:=h2 _ (List.getElem_mem _);have hget:=a3w us i 0 hi' h2 (by omega);have hc:(a0g us[i])[0]? =some us[i].cells[0]:=by simp[a0g]
 rw[hc]at hget;have hu:=h1c _ _ _ (h5 i hi' hi);have:=h3 _ _ hget;simp only[Nat.mul_one,Nat.add_zero,hu]at this;exact⟨us[i],this.1,this.2,h5 i hi' hi⟩
theorem OL.ext (hR:Elem R sz) {Y Z:Nat->Bool} {w':World} (h:OL R sz X base e w ao cap l) (hE:ExtX Y w w') (hY:∀k,k<w.heap.size->Y k=true->X k=true) (hZ:∀k,k<w.heap.size->Z k=true->X k=true):OL R sz Z base e w' ao cap l:=by
 have hb:=fun k (hk:ob ao k=true)=>h.block hk;obtain⟨hx,us,h1,h2,h22,h3,h5⟩:=h;refine⟨fun k hk=>?_,us,h1,h2,h22,?_,fun i hi hi'=>hR.mono _ _ _ _ (a0R hE (fun k hk hy=>a0p (hY k hk hy)) (fun k hk hz=>?_)) (h5 i hi hi')⟩
 ·cases hh:Z k
  ·rfl
  ·have:=hZ k (hb k hk).2 hh;rw[hx k hk]at this;simp at this
 ·refine⟨h3.1,?_⟩
  rcases h3.2 with h4|⟨g,c,cur,hv,h6,h7,h8⟩
  ·exact .inl h4
  ·refine .inr ⟨g,c,cur,hv,h6,?_,h8⟩
   simp at hv;obtain⟨rfl,rfl⟩:=hv;have hk:ob (some ⟨g,0,none⟩) g=true:=by simp[ob]
   rw[hE.block g (hb g hk).2,h7];cases hh:Y g
   ·rfl
   ·have:=hY g (hb g hk).2 hh;rw[hx g hk]at this;simp at this
 ·cases hh:Z k
  ·simp[un,hh]at hz;exact a0q hz
  ·exact a0p (hZ k hk hh)
theorem OL.ext0 (hR:Elem R sz) {w':World} (h:OL R sz X base e w ao cap l) (hE:Ext w w'):OL R sz X base e w' ao cap l:=
 h.ext hR hE (fun k _ hk=>by simp[noY]at hk) (fun _ _ h=>h)
theorem ExtX.own {Y:Nat->Bool} {w0 w':World} (h:ExtX Y w0 w) (ho:OL R sz X base e w ao cap l) (hb:w0.heap.size<=base) (hE:ExtX (ob ao) w w'):ExtX Y w0 w':=
 h.then_ hE fun i hi _=>by
  cases hk:ob ao i
  ·rfl
  ·have:=ho.block hk;omega
theorem OL.unX (h:OL R sz X base e w ao cap l) (hX:∀k,X k=true->k<w.heap.size):∀k,un X ao k=true->k<w.heap.size:=by
 intro k hk;by_cases hx:X k=true
 ·exact hX k hx
 ·have:ob ao k=true:=by simpa[un,hx]using hk
  exact(h.block this).2
theorem OL.base_le (h:OL R sz X base e w ao cap l) {b':Nat} (hb:b'<=base):OL R sz X b' e w ao cap l:=by
 obtain⟨hx,us,h1,h2,h22,h3,h5⟩:=h;refine⟨hx,us,h1,h2,h22,⟨h3.1,?_⟩,h5⟩;rcases h3.2 with h4|⟨g,c,cur,hv,h6,h8⟩
 ·exact .inl h4
 ·exact .inr ⟨g,c,cur,hv,by omega,h8⟩
end
section
variable {α:Type} {R:Mem->Value->α->Prop} {sz:Nat} {X:Nat->Bool} {base:Nat} {e:TypeId} {w:World} {ao:Option Addr} {cap:Nat} {l:List α} {P:Program}
def At (w:World) (ao:Option Addr) (us:List Value):Prop:=Hd ao us.length/\∀j u,(us.flatMap a0g)[j]? =some u->w.cell? (adr ao j)=some u
theorem Sl.at_ (hR:Elem R sz) (h:Sl R sz (mk X w) ao l):∃us:List Value,us.length=l.length/\At w ao us/\∀i (hi:i<us.length) (hi':i<l.length),R (mk X w) us[i] l[i]:=by
 have hpos:=hR.pos;have key:∀n,n<=l.length->∃us:List Value,us.length=n/\(∀j u,(us.flatMap a0g)[j]? =some u->w.cell? (adr ao j)=some u)/\∀i (hi:i<us.length) (hi':i<l.length),R (mk X w) us[i] l[i]:=by
  intro n
  induction n with
  |zero=>intro _;exact⟨[],rfl,by simp,by simp⟩
  |succ n ih=>
   intro hn;obtain⟨us,h1,h2,h3⟩:=ih (by omega);obtain⟨u,h4,h5,h6⟩:=h.2 n (by omega);have hsz:∀v∈us,v.cells.size=sz:=by
    intro v hv;obtain⟨i,hi,rfl⟩:=List.getElem_of_mem hv;exact hR.size _ _ _ (h3 i hi (by omega))
   refine⟨us++[u],by simp[h1],fun j x hj=>?_,fun i hi hi'=>?_⟩
   ·rw[List.flatMap_append]at hj
    have hfl:=a0M us hsz;by_cases hlt:j<us.length*sz
    ·rw[List.getElem?_append_left (by omega)]at hj;exact h2 j x hj
    ·rw[List.getElem?_append_right (by omega),hfl]at hj
     simp only[List.flatMap_cons,List.flatMap_nil,List.append_nil,a0g]at hj;obtain⟨hj1,hj2⟩:=List.getElem?_eq_some_iff.1 hj;have:=h5 (j - us.length*sz) (by simpa using hj1);have ee:n*sz+(j - us.length*sz)=j:=by rw[h1]at hlt |-;omega
     rw[ee]at this;rw[a1q this];simp[<-hj2]
   ·by_cases hlt:i<us.length
    ·simpa[List.getElem_append_left hlt]using h3 i hlt hi'
    ·have:i=n:=by simp at hi;omega
     subst this;simpa[List.getElem_append_right,h1]using h6
 obtain⟨us,h1,h2,h3⟩:=key l.length (Nat.le_refl _);exact⟨us,h1,⟨by rw[h1];exact h.1,h2⟩,h3⟩
theorem a7V {ad:Addr} (h:ad.spot=none) (j:Nat):adr (some ad) j=ad.add j:=by
 cases ad;simp at h;subst h;rw[Addr.add_lit];rfl
theorem a3R {w':World} {ao':Option Addr} (hE:ExtX (ob ao) w w') (ho:ao'=ao\/∃g,ao'=some ⟨g,0,none⟩/\w.heap.size<=g):Le (mk (un X ao) w) (mk (un X ao') w'):=by
 refine a0R hE (fun k _ hk=>a0q hk) fun k hk hz=>?_;rcases ho with rfl|⟨g,rfl,hg⟩
 ·exact hz
 ·by_cases hx:X k=true
  ·exact a0p hx
  ·have:g=k:=by simpa[un,hx,ob]using hz
   omega
theorem OL.run_append {t by_:Nat} {z:Value} (T:SliceT P t e sz by_ z) (hzs:z.cells.size=sz) (hR:Elem R sz) (h:OL R sz X base e w ao cap l) (hbase:base<=w.heap.size) (hX:∀k,X k=true->k<w.heap.size)
  (asl:Option Addr) (cs:Nat) (us':List Value) (xs:List α) (hat:At w asl us') (hlen:us'.length=xs.length) (hxs:∀i (hi:i<us'.length) (hi':i<xs.length),R (mk (un X ao) w) us'[i] xs[i])
  (hroom:(l.length+xs.length)*by_<=140737488355328) (hmax:l.length+xs.length<=9223372036854775807) (ty:TypeId):
  ∃ao' cap' w',(Builtin.append_ #[t,t] ty #[.slice ao l.length cap, .slice asl xs.length cs]).run P w= .ok (.slice ao' (l++xs).length cap') w'/\OL R sz X base e w' ao' cap' (l++xs)/\ExtX (ob ao) w w'/\
   (ao'=ao\/∃g,ao'=some ⟨g,0,none⟩/\w.heap.size<=g):=by
 obtain⟨i,hi,hz,hsz,hby⟩:=info_parts T.info;have hpos:=hR.pos;have hus':∀u∈us',u.cells.size=sz:=by
  intro v hv;obtain⟨i,hi,rfl⟩:=List.getElem_of_mem hv;exact hR.size _ _ _ (hxs i hi (by omega))
 have hone':∀u∈us'.flatMap a0g,u.oneCell'=true:=by
  intro c hc;obtain⟨v,hv,hcv⟩:=List.mem_flatMap.1 hc;obtain⟨i,hi,rfl⟩:=List.getElem_of_mem hv;exact hR.one _ _ _ (hxs i hi (by omega)) c hcv
 by_cases hxe:xs= []
 ·subst hxe
  have hu0:us'= []:=List.eq_nil_of_length_eq_zero (by simpa using hlen);subst hu0;refine⟨ao,cap,w,?_,by simpa using h,ExtX.refl w, .inl rfl⟩;have hlc:=h.lenCap;have hsz':=hsz;subst hsz;cases asl with
  |none=>cases ao<;>simp[Builtin.append_,run_underlying T.und,sizeOf,typeInfo,hi,Builtin.lenOf,Builtin.firstCells,hlc,storeCells]
  |some asl=>cases ao<;>simp[Builtin.append_,run_underlying T.und,sizeOf,typeInfo,hi,Builtin.lenOf,Builtin.firstCells,loadCells,loadCellsFrom,hlc,storeCells]
 have hxpos:0<xs.length:=by
  cases xs with
  |nil=>exact absurd rfl hxe
  |cons x xs=>simp
 obtain⟨sb,so,rfl⟩:=hat.1 (by omega);have hnews:∀j u,(us'.flatMap a0g)[j]? =some u->w.cell? ((⟨sb,so,none⟩:Addr).add j)=some u:=by
  intro j u hj;rw[<-a7V rfl];exact hat.2 j u hj
 have hnl:(us'.flatMap a0g).length=xs.length*i.size:=by rw[a0M us' hus',hlen,hsz]
 have hx:=h.1;have hcells:=h.cells;have hform:=h.form;obtain⟨_,us,h1,h2,h22,h3,h5⟩:=h;have hul:(us.flatMap a0g).length=l.length*i.size:=by rw[a0M us h2,h1,hsz]
 have hfl:(us++us').flatMap a0g=us.flatMap a0g++us'.flatMap a0g:=List.flatMap_append;have hnew:∀u∈us++us',u.cells.size=sz:=by
  intro u hu;rcases List.mem_append.1 hu with hu|hu
  ·exact h2 u hu
  ·exact hus' u hu
 have hnew1:∀u∈us++us',∀c∈a0g u,c.oneCell'=true:=by
  intro u hu c hc;rcases List.mem_append.1 hu with hu|hu
  ·exact h22 u hu c hc
  ·exact hone' c (List.mem_flatMap.2 ⟨u,hu,hc⟩)
 have hRs:∀(ao':Option Addr) (w':World),ExtX (ob ao) w w'->(ao'=ao\/∃g,ao'=some ⟨g,0,none⟩/\w.heap.size<=g)->
   ∀i (hi:i<(us++us').length) (hi':i<(l++xs).length),R (mk (un X ao') w') (us++us')[i] (l++xs)[i]:=by
  intro ao' w' hE ho i hi hi';have hle:=a3R (X:=X) hE ho;by_cases hlt:i<us.length
  ·simpa[List.getElem_append_left hlt,List.getElem_append_left (show i<l.length by omega)]using hR.mono _ _ _ _ hle (h5 i hlt (by omega))
  ·have hb1:i - us.length<us'.length:=by simp at hi;omega
   have:=hR.mono _ _ _ _ hle (hxs (i - us.length) hb1 (by omega));simpa[List.getElem_append_right (show us.length<=i by omega),List.getElem_append_right (show l.length<=i by omega),h1]using this
 have grown:∀old,old<l.length+xs.length->∃g cur,g=w.heap.size/\cur=(us.flatMap a0g).toArray++(us'.flatMap a0g).toArray++Builtin.zeroCells z.cells (grownCap w (l.length+xs.length) old e - (l.length+xs.length))/\
   OL R sz X base e (w.drew.alloc (.cells cur e)) (some ⟨g,0,none⟩) (grownCap w (l.length+xs.length) old e) (l++xs)/\ExtX (ob ao) w (w.drew.alloc (.cells cur e)):=by
  intro old ho;refine⟨_,_,rfl,rfl,?_,?_⟩
  ·have hge:=grownCap_ge w (l.length+xs.length) old e
   have hcm:grownCap w (l.length+xs.length) old e<=maxLen:=grownCap_le_maxLen w (l.length+xs.length) old e (by simpa[maxLen]using hmax);have hE:ExtX (ob ao) w (w.drew.alloc (.cells ((us.flatMap a0g).toArray++(us'.flatMap a0g).toArray++Builtin.zeroCells z.cells (grownCap w (l.length+xs.length) old e - (l.length+xs.length))) e)):=((ExtX.refl w).drew).alloc _;refine⟨fun k hk=>?_,us++us',by simp[h1,hlen],hnew,hnew1,⟨by rw[hfl];simp[hul,hnl,hsz,Nat.add_mul], .inr ⟨w.heap.size,_,_,by simp,hbase,heap_alloc_new w.drew _,by simpa using hge,hcm,?_,?_⟩⟩,hRs _ _ hE (.inr ⟨_,rfl,Nat.le_refl _⟩)⟩
   ·have:w.heap.size=k:=by simpa[ob]using hk
    cases hh:X k
    ·rfl
    ·have:=hX k hh;omega
   ·simp only[Array.size_append,List.size_toArray,size_zeroCells,hzs,hul,hnl,hsz,<-Nat.add_mul]
    congr 1;omega
   ·rw[hfl]
    simp only[Array.toList_append,List.length_append];have hll:(l.length+xs.length)*sz=(us.flatMap a0g++us'.flatMap a0g).length:=by simp[hul,hnl,hsz,Nat.add_mul]
    rw[hll];exact List.take_left
  ·exact((ExtX.refl w).drew).alloc _
 have hll:(l++xs).length=l.length+xs.length:=List.length_append;rcases hform with⟨rfl,rfl,rfl⟩|⟨g,cur,rfl,h6,h7,h8,h9,h10⟩
 ·have hu0:us= []:=List.eq_nil_of_length_eq_zero (by simpa using h1)
  subst hu0;obtain⟨g,cur,rfl,hcur,hOL,hE⟩:=grown 0 (by simp;omega);have hr:=run_append_nil (P:=P) w t ty e i z T.und hi hz ⟨sb,so,none⟩ xs.length cs (us'.flatMap a0g) hnl hnews hxpos (by simp at hmax;omega) (by simp at hroom;rw[hby];omega);simp only[List.flatMap_nil,List.length_nil,Nat.zero_add,List.nil_append,Array.empty_append]at hOL hE hcur hr |-;subst hcur;exact⟨_,_,_,hr,hOL,hE, .inr ⟨_,rfl,Nat.le_refl _⟩⟩
 ·by_cases hroom':l.length+xs.length<=cap
  ·have hfit:l.length*i.size+(us'.flatMap a0g).length<=cur.size:=by rw[hnl,h10,<-hsz,<-Nat.add_mul];exact Nat.mul_le_mul_right _ hroom'
   have hr:=run_append_room (P:=P) w t ty e i T.und hi g l.length cap cur h7 ⟨sb,so,none⟩ xs.length cs (us'.flatMap a0g) hnl hnews hone' hroom' hfit;have hE:ExtX (ob (some ⟨g,0,none⟩)) w (w.setRow g (cur.toList.take (l.length*i.size)++us'.flatMap a0g++cur.toList.drop (l.length*i.size+(us'.flatMap a0g).length)).toArray):=
    ⟨rfl,rfl,rfl,by simp,fun k _ hk=>setRow_other w g k _ (fun ek=>by subst ek;simp[ob]at hk)⟩
   refine⟨_,_,_,by rw[hll];exact hr,⟨hx,us++us',by simp[h1,hlen],hnew,hnew1,⟨by rw[hfl];simp[hul,hnl,hsz,Nat.add_mul], .inr ⟨g,cap,_,by rw[hll],h6,setRow_heap w g cur _ e _ h7,by rw[hll];exact hroom',h9,?_,?_⟩⟩,hRs _ _ hE (.inl rfl)⟩,hE, .inl rfl⟩
   ·simp only[List.size_toArray,List.length_append,List.length_take,List.length_drop,Array.length_toList];omega
   ·rw[hfl,hll]
    rcases h3.2 with⟨hv,_⟩|⟨g',c',cur',hv,_,h7',_,_,_,h11⟩
    ·simp at hv
    simp at hv;obtain⟨rfl,rfl⟩:=hv;rw[h7]at h7';obtain rfl:cur=cur':=by simpa using h7'
    have e1:cur.toList.take (l.length*i.size)=us.flatMap a0g:=by rw[hsz];exact h11
    rw[e1];have hll2:(l.length+xs.length)*sz=(us.flatMap a0g++us'.flatMap a0g).length:=by simp[hul,hnl,hsz,Nat.add_mul]
    rw[hll2];exact List.take_left
  ·have holds:∀j u,(us.flatMap a0g)[j]? =some u->w.cell? ((⟨g,0,none⟩:Addr).add j)=some u:=h3.cells (g:=g) rfl
   have hr:=run_append_grow (P:=P) w t ty e i z T.und hi hz ⟨g,0,none⟩ l.length cap (us.flatMap a0g) hul holds ⟨sb,so,none⟩ xs.length cs (us'.flatMap a0g) hnl hnews (by omega) (by omega) (growslice_fits (by omega) (by rw[hby];exact hroom));obtain⟨g',cur',rfl,hcur,hOL,hE⟩:=grown cap (by omega);subst hcur;exact⟨_,_,_,by rw[hll];exact hr,hOL,hE, .inr ⟨_,rfl,Nat.le_refl _⟩⟩
theorem OL.run_make {t by_:Nat} {z:Value} (T:SliceT P t e sz by_ z) (hR:Elem R sz) (x0:α) (hz:∀h,R h z x0) (hX:∀k,X k=true->k<w.heap.size) (hbase:base<=w.heap.size)
  (kl kc:IntKind) (n:Nat) (hroom:by_*n<=281474976710656) (hmax:n<=9223372036854775807):
  ∃ao w',(Instr.makeSlice t (.int kl (n:Int)) (.int kc (n:Int))).run P w= .ok (.slice ao n n) w'/\OL R sz X base e w' ao n (List.replicate n x0)/\Ext w w':=by
 obtain⟨i,hi,hiz,hsz,hby⟩:=info_parts T.info;have hzs:z.cells.size=sz:=hR.size (fun _=>none) z x0 (hz _);have hpos:=hR.pos;have hr:=Go.run_make (P:=P) w t e i z T.und hi hiz kl kc n n (by omega) (Int.le_refl _) (by rw[hby,<-Int.natCast_mul];omega) (by omega);simp only[Int.toNat_natCast]at hr;refine⟨_,_,hr,⟨fun k hk=>?_,List.replicate n z,by simp,by intro u hu;rw[List.eq_of_mem_replicate hu];exact hzs,by intro u hu;rw[List.eq_of_mem_replicate hu];exact hR.one (fun _=>none) z x0 (hz _),⟨?_, .inr ⟨w.heap.size,n,_,by simp,hbase,heap_alloc_new w _,by simp,by simpa[maxLen]using hmax,by rw[size_madeCells,hsz],?_⟩⟩,fun i hi hi'=>by simpa using hz _⟩,(ExtX.refl w).alloc _⟩
 ·have:w.heap.size=k:=by simpa[ob]using hk
  cases hh:X k
  ·rfl
  ·have:=hX k hh;omega
 ·rw[a0M (sz:=sz) _ (by intro u hu;rw[List.eq_of_mem_replicate hu];exact hzs)]
  simp
 ·apply List.ext_getElem?
  intro j;simp only[List.length_replicate];by_cases hj:j<n*sz
  ·rw[List.getElem?_take_of_lt hj]
   have hg:=a3w (sz:=sz) (List.replicate n z) (j/sz) (j%sz) (by simpa using Nat.div_lt_of_lt_mul (by rw[Nat.mul_comm];exact hj)) (by intro u hu;rw[List.eq_of_mem_replicate hu];exact hzs) (Nat.mod_lt _ hpos);have ej:j/sz*sz+j%sz=j:=by rw[Nat.mul_comm];exact Nat.div_add_mod j sz
   rw[ej]at hg;rw[hg];simp[madeCells,hsz,hj,a0g,hzs];rw[Array.getElem?_eq_getElem (by rw[hzs];exact Nat.mod_lt _ hpos)];rw[getElem!_pos]
  ·rw[List.getElem?_eq_none (by simp[size_madeCells,hsz];omega),List.getElem?_eq_none]
   rw[a0M (sz:=sz) _ (by intro u hu;rw[List.eq_of_mem_replicate hu];exact hzs)];simp;omega
theorem OL.run_store {t:TypeId} {ti:TypeInfo} (ht:P.info? t=some ti) (hts:ti.size=sz) (hR:Elem R sz) (h:OL R sz X base e w ao cap l) (i:Nat) (hi:i<l.length) (u:Value) (x:α) (hu:R (mk (un X ao) w) u x):
  ∃w',(storeVar t (adr ao (i*sz)) u).run P w= .ok () w'/\OL R sz X base e w' ao cap (l.set i x)/\ExtX (ob ao) w w':=by
 have hus:=hR.size _ _ _ hu;have hu1:=hR.one _ _ _ hu;have hform:=h.form;obtain⟨hx,us,h1,h2,h22,h3,h5⟩:=h;rcases hform with⟨rfl,rfl,rfl⟩|⟨g,cur,rfl,h6,h7,h8,h9,h10⟩
 ·simp at hi
 have hadr:adr (some ⟨g,0,none⟩) (i*sz)=⟨g,i*sz,none⟩:=by simp[adr]
 have hsub:(i+1)*sz<=l.length*sz:=Nat.mul_le_mul_right _ hi;have hsub2:l.length*sz<=cap*sz:=Nat.mul_le_mul_right _ h8;rw[Nat.succ_mul]at hsub;have hst:=run_storeCells_at P g (i*sz) e (a0g u) 0 cur w h7 (by simp[a0g,hus,h10];omega) hu1;have hE:ExtX (ob (some ⟨g,0,none⟩)) w (w.setRow g (cur.toList.take (i*sz+0)++a0g u++cur.toList.drop (i*sz+0+(a0g u).length)).toArray):=
  ⟨rfl,rfl,rfl,by simp,fun k _ hk=>setRow_other w g k _ (fun ek=>by subst ek;simp[ob]at hk)⟩
 have hne:∀v∈us.set i u,v.cells.size=sz:=by
  intro v hv;rcases List.mem_or_eq_of_mem_set hv with hv|rfl
  ·exact h2 v hv
  ·exact hus
 refine⟨_,?_,⟨hx,us.set i u,by simp[h1],hne,?_,⟨?_, .inr ⟨g,cap,_,by simp,h6,setRow_heap w g cur _ e _ h7,by simpa using h8,h9,?_,?_⟩⟩,?_⟩,hE⟩
 ·rw[hadr]
  simp[storeVar,sizeOf,typeInfo,ht,hts,hus];simpa[a0g]using hst
 ·intro v hv
  rcases List.mem_or_eq_of_mem_set hv with hv|rfl
  ·exact h22 v hv
  ·exact hu1
 ·rw[a0M _ hne];simp[h1]
 ·have hlu:(a0g u).length=sz:=by simp[a0g,hus]
  simp only[List.size_toArray,List.length_append,List.length_take,List.length_drop,Array.length_toList,hlu,h10,Nat.add_zero];omega
 ·rcases h3.2 with⟨hv,_⟩|⟨g',c',cur',hv,_,h7',_,_,_,h11⟩
  ·simp at hv
  simp at hv;obtain⟨rfl,rfl⟩:=hv;rw[h7]at h7';obtain rfl:cur=cur':=by simpa using h7'
  have hlu:(a0g u).length=sz:=by simp[a0g,hus]
  have hcl:cur.toList.length=cap*sz:=by simp[h10]
  rw[a7U us i u (by omega) h2 hus,<-h11];simp only[List.length_set,Nat.add_zero];have hA:(cur.toList.take (i*sz)).length=i*sz:=by rw[List.length_take,hcl];omega
  rw[hlu,List.take_append,List.take_of_length_le (by rw[List.length_append,hA,hlu];omega),List.length_append,hA,hlu,List.take_take,Nat.min_eq_left (by omega),List.drop_take]
 ·intro j hj hj'
  have hle:Le (mk (un X (some ⟨g,0,none⟩)) w) (mk (un X (some ⟨g,0,none⟩)) _):=a3R hE (.inl rfl);by_cases hji:i=j
  ·subst hji;simpa using hR.mono _ _ _ _ hle hu
  ·have:=hR.mono _ _ _ _ hle (h5 j (by simpa using hj) (by simpa using hj'))
   simpa[List.getElem_set,hji]using this
end
end Go.Rep
namespace Go.Rep
open Go.RowKit
section
variable {P:Program} {ops:Array Oper} {Q:Exit->Act->World->Prop} {rest:List Oper} {a:Act} {w:World}
variable {α:Type} {R:Mem->Value->α->Prop} {sz:Nat} {X:Nat->Bool} {base:Nat} {e:TypeId} {ao:Option Addr} {cap:Nat} {l:List α}
variable {d:Option Tmp} {ty:TypeId} {ps:String} {af:Array Edge}
theorem OL.lit (hR:Elem R sz) (hX:∀k,X k=true->k<w.heap.size) (hbase:base<=w.heap.size) (us:List Value) (l:List α) (arr:Array Value) (harr:arr=(us.flatMap a0g).toArray) (hlen:us.length=l.length)
  (hu:∀i (hi:i<us.length) (hi':i<l.length),R (mk X w) us[i] l[i]) (hmax:l.length<=9223372036854775807):
  OL R sz X base e (w.alloc (.cells arr e)) (some ⟨w.heap.size,0,none⟩) l.length l:=by
 subst harr;have hsz:∀u∈us,u.cells.size=sz:=by
  intro v hv;obtain⟨i,hi,rfl⟩:=List.getElem_of_mem hv;exact hR.size _ _ _ (hu i hi (by omega))
 have hE:Ext w (w.alloc (.cells (us.flatMap a0g).toArray e)):=(ExtX.refl w).alloc _;refine⟨fun k hk=>?_,us,hlen,hsz,?_,⟨by rw[a0M us hsz,hlen], .inr ⟨w.heap.size,_,_,rfl,hbase,heap_alloc_new w _,Nat.le_refl _,by unfold maxLen;exact hmax,by simp[a0M us hsz,hlen],?_⟩⟩,fun i hi hi'=>?_⟩
 ·have:w.heap.size=k:=by simpa[ob]using hk
  cases hh:X k
  ·rfl
  ·have:=hX k hh;omega
 ·intro v hv
  obtain⟨i,hi,rfl⟩:=List.getElem_of_mem hv;exact hR.one _ _ _ (hu i hi (by omega))
 ·rw[List.take_of_length_le]
  simp[a0M us hsz,hlen]
 ·refine hR.mono _ _ _ _ (a0R hE (fun k _ hk=>by simp[noY]at hk) fun k hk hz=>?_) (hu i hi hi')
  by_cases hx:X k=true
  ·exact hx
  ·have:w.heap.size=k:=by simpa[un,hx,ob]using hz
   omega
theorem b4w (X:Nat->Bool) (w:World) (o:Obj):Le (mk X w) (mk (un X (some ⟨w.heap.size,0,none⟩)) (w.alloc o)):=
 a0R ((ExtX.refl (Y:=noY) w).alloc o) (fun k _ hk=>by simp[noY]at hk) fun k hk hz=>by
  by_cases hx:X k=true
  ·exact hx
  ·have:w.heap.size=k:=by simpa[un,hx,ob]using hz
   omega
theorem b2o (w:World) (arr:Array Value) (e:TypeId) (u:Value) (harr:arr=u.cells):At (w.alloc (.cells arr e)) (some ⟨w.heap.size,0,none⟩) [u]:=by
 subst harr;refine⟨fun _=>⟨_,_,rfl⟩,fun j c hj=>?_⟩;simp only[List.flatMap_cons,List.flatMap_nil,List.append_nil,a0g,Array.getElem?_toList]at hj;have h0:adr (some ⟨w.heap.size,0,none⟩) j=⟨w.heap.size,j,none⟩:=by simp[adr]
 have h1:=heap_alloc_new w (.cells u.cells e);rw[h0];unfold World.cell?;rw[h1];simpa using hj
theorem a3x {t by_:Nat} {z:Value} {arr:Array Value} {s x:Operand} (T:SliceT P t e sz by_ z) (hzs:z.cells.size=sz) (hR:Elem R sz) (hbase:base<=w.heap.size) (hX:∀k,X k=true->k<w.heap.size)
  (hs:a.eval s= .slice ao l.length cap) (hx:a.eval x= .slice (some ⟨w.heap.size,0,none⟩) 1 1) (h:OL R sz X base e w ao cap l)
  (u:Value) (y:α) (harr:arr=u.cells) (hu:R (mk (un X ao) w) u y) (hroom:(l.length+1)*by_<=140737488355328) (hmax:l.length+1<=9223372036854775807)
  (K:∀ao' cap' w',OL R sz X base e w' ao' cap' (l++[y])->ExtX (ob ao) w w'->(ao'=ao\/∃g,ao'=some ⟨g,0,none⟩/\w.heap.size<=g)->wpList P ops Q rest (a.put d (.slice ao' (l++[y]).length cap')) w'):
  wpList P ops Q (⟨d, .call {callee:= .builtin .append,args:=#[s,x],argTypes:=#[t,t]},ty,ps,af,none⟩::rest) a (w.alloc (.cells arr e)):=by
 refine wpList_plain rfl fun K' hK'=>?_;have hE:Ext w (w.alloc (.cells arr e)):=(ExtX.refl w).alloc _;have hsz:w.heap.size+1=(w.alloc (.cells arr e)).heap.size:=by simp
 obtain⟨ao',cap',w',hr,h2,h3,h4⟩:=(h.ext0 hR hE).run_append (P:=P) T hzs hR (by omega) (fun k hk=>by have:=hX k hk;omega) (some ⟨w.heap.size,0,none⟩) 1 [u] [y] (b2o w arr e u harr) rfl
  (fun i hi _=>by
           have:i=0:=by simpa using hi
           subst this;exact hR.mono _ _ _ _ (a0o hE) hu) (by simpa using hroom) (by simpa using hmax) ty
 unfold Oper.wp execOp;simp only[resolve,invoke,builtin,Sem.run_bind,Sem.run_pure,Result.andThen_ok,List.map_toArray,List.map_cons,List.map_nil,hs,hx];rw[show([y]:List α).length=1 from rfl]at hr;rw[hr];refine hK' _ _ (K ao' cap' w' h2 ((ExtX.of hE).trans h3) ?_);rcases h4 with h4|⟨g,h4,h5⟩
 ·exact .inl h4
 ·exact .inr ⟨g,h4,by omega⟩
theorem a5v {t by_:Nat} {z:Value} {s x:Operand} {asl:Option Addr} {cs:Nat} (T:SliceT P t e sz by_ z) (hzs:z.cells.size=sz) (hR:Elem R sz) (hbase:base<=w.heap.size) (hX:∀k,X k=true->k<w.heap.size)
  (xs:List α) (hs:a.eval s= .slice ao l.length cap) (hx:a.eval x= .slice asl xs.length cs) (h:OL R sz X base e w ao cap l)
  (hxs:Sl R sz (mk (un X ao) w) asl xs) (hroom:(l.length+xs.length)*by_<=140737488355328) (hmax:l.length+xs.length<=9223372036854775807)
  (K:∀ao' cap' w',OL R sz X base e w' ao' cap' (l++xs)->ExtX (ob ao) w w'->(ao'=ao\/∃g,ao'=some ⟨g,0,none⟩/\w.heap.size<=g)->wpList P ops Q rest (a.put d (.slice ao' (l++xs).length cap')) w'):
  wpList P ops Q (⟨d, .call {callee:= .builtin .append,args:=#[s,x],argTypes:=#[t,t]},ty,ps,af,none⟩::rest) a w:=by
 refine wpList_plain rfl fun K' hK'=>?_;obtain⟨us,h1,h2,h3⟩:=hxs.at_ hR;obtain⟨ao',cap',w',hr,h2,h3,h4⟩:=h.run_append (P:=P) T hzs hR hbase hX asl cs us xs h2 h1 h3 hroom hmax ty;unfold Oper.wp execOp;simp only[resolve,invoke,builtin,Sem.run_bind,Sem.run_pure,Result.andThen_ok,List.map_toArray,List.map_cons,List.map_nil,hs,hx,hr];exact hK' _ _ (K ao' cap' w' h2 h3 h4)
theorem a1Z {t by_:Nat} {z:Value} {x y:Operand} {kl kc:IntKind} {m:Int} (T:SliceT P t e sz by_ z) (hR:Elem R sz) (x0:α) (hz:∀h,R h z x0) (X:Nat->Bool) (hX:∀k,X k=true->k<w.heap.size) (base:Nat) (hbase:base<=w.heap.size)
  (n:Nat) (hl:a.eval x= .int kl m) (hc:a.eval y= .int kc m) (hm:m=(n:Int)) (hroom:by_*n<=281474976710656) (hmax:n<=9223372036854775807)
  (K:∀ao w',OL R sz X base e w' ao n (List.replicate n x0)->Ext w w'->wpList P ops Q rest (a.put d (.slice ao n n)) w'):
  wpList P ops Q (⟨d, .makeSlice t x y,ty,ps,af,none⟩::rest) a w:=by
 refine wpList_plain rfl fun K' hK'=>?_;subst hm;obtain⟨ao,w',hr,h2,h3⟩:=OL.run_make (P:=P) T hR x0 hz hX hbase kl kc n hroom hmax;unfold Oper.wp;simp[execOp,hl,hc,hr,Result.andThen];exact hK' _ _ (K ao w' h2 h3)
theorem a2O {t:TypeId} {x y:Operand} {k:Nat} (hT:TyI P t sz) (hR:Elem R sz) (i:Nat) (hx:a.eval x= .pointer (some (adr ao k))) (hk:k=i*sz)
  (h:OL R sz X base e w ao cap l) (hi:i<l.length) (u:Value) (v:α) (hy:a.eval y=u) (hu:R (mk (un X ao) w) u v)
  (K:∀w',OL R sz X base e w' ao cap (l.set i v)->ExtX (ob ao) w w'->wpList P ops Q rest (a.put d undef) w'):
  wpList P ops Q (⟨d, .store t x y,ty,ps,af,none⟩::rest) a w:=by
 refine wpList_plain rfl fun K' hK'=>?_;subst hk;obtain⟨ti,ht,hts⟩:=hT;obtain⟨w',hr,h2,h3⟩:=h.run_store (P:=P) ht hts hR i hi u v hu;unfold Oper.wp;simp[execOp,hx,hy,Instr.storeAt,Instr.sureAddr,hr,Result.andThen];exact hK' _ _ (K w' h2 h3)
def a1Q (ao:Option Addr) (i m sz:Nat):Option Addr:=if m=i then ao else ao.map (·.add (i*sz))
theorem Sl.sub {h:Mem} (s:Sl R sz h ao l) (i j m:Nat) (hij:i<=j) (hjm:j<=m) (hjl:j<=l.length):Sl R sz h (a1Q ao i m sz) ((l.take j).drop i):=by
 refine⟨fun hn=>?_,fun k hk=>?_⟩
 ·simp at hn
  obtain⟨b,off,rfl⟩:=s.1 (by omega);have hm:¬m=i:=by omega
  simp[a1Q,hm,Addr.add_lit]
 ·simp at hk
  obtain⟨b,off,rfl⟩:=s.1 (by omega);have hm:¬m=i:=by omega
  obtain⟨u,h1,h2,h3⟩:=s.2 (i+k) (by omega);refine⟨u,h1,fun q hq=>?_,by simpa using h3⟩;have:=h2 q hq;simp only[a1Q,hm,if_false,Option.map_some,Addr.add_lit,adr,Option.getD_some]at this |-;rw[<-this,Nat.add_mul]
  congr 2
  omega
theorem a4U {t by_:Nat} {z:Value} (T:SliceT P t e sz by_ z) (len cap:Nat) (k1:IntKind) (i:Nat) (h1:i<=len) (_h2:len<=cap) (w:World):
  (Instr.sliceAt t (.slice ao len cap) (some (.int k1 (i:Int))) none none).run P w= .ok (.slice (a1Q ao i cap sz) (len - i) (cap - i)) w:=by
 obtain⟨ti,hi,hz,hsz,hby⟩:=info_parts T.info;have h1':(i:Int)<=len:=by omega
 simp[Instr.sliceAt,Instr.slice,run_underlying T.und,Instr.sliceBounds,run_sliceBound,h1',sizeOf,typeInfo,hi,hsz,a1Q]
theorem a6z {t by_:Nat} {z:Value} (T:SliceT P t e sz by_ z) (len cap:Nat) (k1 k2:IntKind) (i j:Nat) (h1:i<=j) (h2:j<=cap) (w:World):
  (Instr.sliceAt t (.slice ao len cap) (some (.int k1 (i:Int))) (some (.int k2 (j:Int))) none).run P w= .ok (.slice (a1Q ao i cap sz) (j - i) (cap - i)) w:=by
 obtain⟨ti,hi,hz,hsz,hby⟩:=info_parts T.info;have h1':(i:Int)<=j:=by omega
 have h2':(j:Int)<=cap:=by omega
 simp[Instr.sliceAt,Instr.slice,run_underlying T.und,Instr.sliceBounds,run_sliceBound,h1',h2',sizeOf,typeInfo,hi,hsz,a1Q]
theorem a0J {t:TypeId} {x y:Operand} {k:Nat} {kd:IntKind} {l:List Nat} {m:Int} (hT:TyI P t 1) (i:Nat) (v:Nat) (hx:a.eval x= .pointer (some (adr ao k))) (hk:k=i)
  (h:OL (a0b kd) 1 X base e w ao cap l) (hi:i<l.length) (hy:a.eval y= .int kd m) (hm:m=(v:Int))
  (K:∀w',OL (a0b kd) 1 X base e w' ao cap (l.set i v)->ExtX (ob ao) w w'->wpList P ops Q rest (a.put d undef) w'):
  wpList P ops Q (⟨d, .store t x y,ty,ps,af,none⟩::rest) a w:=
 a2O hT (a0b.elem kd) i hx (by omega) h hi (.int kd m) v hy (by rw[hm];rfl) K
theorem OL.set1 {t:TypeId} (hT:TyI P t 1) (hR:Elem R 1) (h1c:a3d R) (h:OL R 1 X base e w ao cap l) (i:Nat) (hi:i<l.length) (u:Value) (x:α) (hu:R (mk (un X ao) w) u x):
  OL R 1 X base e (w.setCell (adr ao i) u) ao cap (l.set i x)/\ExtX (ob ao) w (w.setCell (adr ao i) u):=by
 obtain⟨ti,ht,hts⟩:=hT;obtain⟨v,hc,hf,_⟩:=h.cell h1c i hi;obtain⟨w',hr,h2,h3⟩:=h.run_store (P:=P) ht hts hR i hi u x hu;have hcells:=h1c _ _ _ hu;have hone:=hR.one _ _ _ hu u (by simp[a0g,hcells]);rw[Nat.mul_one]at hr;have hw:w'=w.setCell (adr ao i) u:=by
  simp only[storeVar,sizeOf,typeInfo,Sem.run_bind]at hr;cases u<;>simp[Value.oneCell']at hone<;>simp[program,Sem.run,ht,hts,Result.andThen,Value.cells,storeCells,store,Addr.add_zero',hc,hf]at hr<;>exact hr.symm
 subst hw;exact⟨h2,h3⟩
end
end Go.Rep
namespace Go.Proofs.YtkddecjkfdogiaaGreat
open Go.RowKit Go.Rep
theorem a0G:SliceT Tryz.prog 28 118 1 4 (.int .u32 0):=⟨Tryz.underlying28,by kernel_rfl⟩
theorem a6A:SliceT Tryz.prog 22 3 1 8 (.int .i64 0):=⟨Tryz.underlying22,by kernel_rfl⟩
theorem b4x:(Tryz.prog.info? 118).map (fun i=>(i.zero,i.size,i.bytes))=some (some (.int .u32 0),1,4):=by kernel_rfl
theorem b4y:(Tryz.prog.info? 3).map (fun i=>(i.zero,i.size,i.bytes))=some (some (.int .i64 0),1,8):=by kernel_rfl
theorem a3e:TyI Tryz.prog 118 1:=let ⟨i,h,_,h2,_⟩:=info_parts b4x;⟨i,h,h2⟩
theorem b5J:TyI Tryz.prog 3 1:=let ⟨i,h,_,h2,_⟩:=info_parts b4y;⟨i,h,h2⟩
end Go.Proofs.YtkddecjkfdogiaaGreat
