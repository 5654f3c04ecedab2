/- Readings of Go values as lists: what a slice's cells hold, what a call leaves as it was; rules for the walk over them. Conditions: none. Slices that a call has made itself, read as lists: make, append, store, and the rules of the walk for them. Conditions: none. Steps of the walk over lists in slices: append, make, store, a slice of a slice, loads. Conditions: none. Closed facts on the program's types. Conditions: none. Natural numbers as lists of digits to the base 2^32, lowest first. Plain mathematics. Conditions: none. natural.Valid, value, trimmed, FromUint, Compare, bits.Add32, Add. Conditions: lengths far below any machine's. natural.Compare, bits.Div32, natural.short, Mul, slices.Clone, Div by one digit. Conditions: lengths far below any machine's. slices.Clone, natural.Div by one digit, and the reference's Valid, Take, trim, limb, FromUint, Add, Compare. Conditions: lengths far below any machine's. -/
import Derived.WalkKit
import Derived.WalkSpells
import Derived.WalkLawsBesides
import Derived.Deep.DeepCutAuto
import Derived.Laws.CopyOwn
import Derived.Test.YtidbbddagfnfbaaGreatRows
import Derived.Deep.QuietTactic
import Derived.BigQuiet
namespace Go.Rep
open Go.RowKit
def lenOf:Value->Nat| .slice _ n _=>n|_=>0
theorem hid {p:Prop} (h:p):Hid p:=h
theorem a4v {a:Option Addr} {n m c:Nat} (h:n=m):Ending.returned (.slice a n c)= .returned (.slice a m c):=by rw[h]
theorem a0J {k:IntKind} {a b:Int} (h:a=b):Ending.returned (.int k a)= .returned (.int k b):=by rw[h]
theorem a0n {a b:Bool} (h:a=b):Ending.returned (.bool a)= .returned (.bool b):=by rw[h]
theorem a7T (n:Nat):((n:Int) !=0)=(n !=0):=by rw[Bool.eq_iff_iff];simp
theorem a6K (n:Nat) (h:n<4294967296):(n:Int)%4294967296=n:=by omega
theorem a2I {a b:Int} (h:a≠b):(a==b)=false:=by simpa using h
theorem a7U {a b:Int} (h:a=b):(a !=b)=false:=by simpa using h
theorem a7e {a b:Int} (h:a=b):(a==b)=true:=by simpa using h
theorem a7R {a b:Int} (h:a≠b):(a !=b)=true:=by simpa using h
abbrev Mem:=Addr->Option Value
def Le (h h':Mem):Prop:=∀a u,h a=some u->h' a=some u
theorem Le.refl (h:Mem):Le h h:=fun _ _ x=>x
theorem Le.trans {a b c:Mem} (h:Le a b) (k:Le b c):Le a c:=fun x u e=>k x u (h x u e)
theorem a2h {w:World} {a:Addr} {u:Value} (h:w.cell? a=some u):a.block<w.heap.size:=by
 unfold World.cell? at h;by_cases hl:a.block<w.heap.size
 ·exact hl
 ·rw[Array.getElem?_eq_none (by omega)]at h;simp at h
structure ExtX (Y:Nat->Bool) (w w':World):Prop where
 os:w'.os=w.os
 tape:w'.tape=w.tape
 output:w'.output=w.output
 size:w.heap.size<=w'.heap.size
 block:∀k,k<w.heap.size->Y k=false->w'.heap[k]? =w.heap[k]?
def noY:Nat->Bool:=fun _=>false
abbrev Ext (w w':World):Prop:=ExtX noY w w'
theorem ExtX.refl {Y:Nat->Bool} (w:World):ExtX Y w w:=⟨rfl,rfl,rfl,Nat.le_refl _,fun _ _ _=>rfl⟩
theorem ExtX.trans {Y:Nat->Bool} {a b c:World} (h:ExtX Y a b) (k:ExtX Y b c):ExtX Y a c:=
 ⟨k.os.trans h.os,k.tape.trans h.tape,k.output.trans h.output,Nat.le_trans h.size k.size,fun i hi hy=>(k.block i (Nat.lt_of_lt_of_le hi h.size) hy).trans (h.block i hi hy)⟩
theorem ExtX.weaken {Y Z:Nat->Bool} {a b:World} (h:ExtX Y a b) (hz:∀k,k<a.heap.size->Z k=false->Y k=false):ExtX Z a b:=
 ⟨h.os,h.tape,h.output,h.size,fun k hk hy=>h.block k hk (hz k hk hy)⟩
theorem ExtX.of {Y:Nat->Bool} {a b:World} (h:Ext a b):ExtX Y a b:=h.weaken fun _ _ _=>rfl
theorem ExtX.alloc {Y:Nat->Bool} {a w:World} (h:ExtX Y a w) (o:Obj):ExtX Y a (w.alloc o):=
 h.trans ⟨rfl,rfl,rfl,by simp,fun k hk _=>Below.heap_alloc _ _ _ hk⟩
theorem ExtX.drew {Y:Nat->Bool} {a w:World} (h:ExtX Y a w):ExtX Y a w.drew:=⟨h.os,h.tape,h.output,h.size,h.block⟩
theorem ExtX.drewN {Y:Nat->Bool} {a w:World} (h:ExtX Y a w) (n:Nat):ExtX Y a (w.drewN n):=⟨h.os,h.tape,h.output,h.size,h.block⟩
theorem ExtX.then_ {Y Z:Nat->Bool} {a b c:World} (h:ExtX Y a b) (k:ExtX Z b c) (hz:∀i,i<a.heap.size->Y i=false->Z i=false):ExtX Y a c:=
 ⟨k.os.trans h.os,k.tape.trans h.tape,k.output.trans h.output,Nat.le_trans h.size k.size,fun i hi hy=>(k.block i (Nat.lt_of_lt_of_le hi h.size) (hz i hi hy)).trans (h.block i hi hy)⟩
theorem ExtX.below {w w':World} (h:Ext w w'):Below w.heap.size w w':=⟨h.os,h.tape,h.output,h.size,fun k hk=>h.block k hk rfl⟩
def mk (X:Nat->Bool) (w:World):Mem:=fun a=>if X a.block then none else w.cell? a
theorem a1e {X:Nat->Bool} {w:World} {a:Addr} {u:Value} (h:mk X w a=some u):w.cell? a=some u:=by
 unfold mk at h;split at h
 ·simp at h
 ·exact h
theorem b8p (X:Nat->Bool) (w:World):Le (mk X w) w.cell?:=fun _ _ h=>a1e h
theorem a2v (w:World):mk noY w=w.cell?:=by funext a;simp[mk,noY]
theorem a0x {X Y:Nat->Bool} {w w':World} (h:ExtX Y w w') (hY:∀k,Y k=true->X k=true):Le (mk X w) (mk X w'):=by
 intro a u e;have hc:=a1e e;have hl:=a2h hc;unfold mk at e |-;by_cases hx:X a.block=true
 ·simp[hx]at e
 ·rw[if_neg hx]
  have hy:Y a.block=false:=by
   cases hh:Y a.block
   ·rfl
   ·exact absurd (hY _ hh) hx
  rw[World.cell?_of_block (h.block a.block hl hy)];exact hc
theorem a0p {X:Nat->Bool} {w w':World} (h:Ext w w'):Le (mk X w) (mk X w'):=a0x h (fun k hk=>by simp[noY]at hk)
theorem a1E {X Z:Nat->Bool} {w:World} (h:∀k,k<w.heap.size->X k=true->Z k=true):Le (mk Z w) (mk X w):=by
 intro a u e;have hl:=a2h (a1e e);have hc:=a1e e;unfold mk at e |-;by_cases hx:X a.block=true
 ·simp[h _ hl hx]at e
 ·rw[if_neg hx];exact hc
theorem a1f {X Y Z:Nat->Bool} {w w':World} (h:ExtX Y w w') (hY:∀k,k<w.heap.size->Y k=true->X k=true) (hZ:∀k,k<w.heap.size->Z k=true->X k=true):Le (mk X w) (mk Z w'):=by
 intro a u e;have hc:=a1e e;have hl:=a2h hc;unfold mk at e |-;by_cases hx:X a.block=true
 ·simp[hx]at e
 ·have hz:¬Z a.block=true:=fun hz=>hx (hZ _ hl hz)
  rw[if_neg hz];have hy:Y a.block=false:=by
   cases hh:Y a.block
   ·rfl
   ·exact absurd (hY _ hl hh) hx
  rw[World.cell?_of_block (h.block a.block hl hy)];exact hc
theorem ExtX.cell {w w':World} (h:Ext w w') {a:Addr} {u:Value} (hc:w.cell? a=some u):w'.cell? a=some u:=by
 have:=a0p (X:=noY) h a u (by rw[a2v];exact hc);rwa[a2v]at this
theorem ExtX.cellY {Y:Nat->Bool} {w w':World} (h:ExtX Y w w') {a:Addr} {u:Value} (hc:w.cell? a=some u) (hy:Y a.block=false):w'.cell? a=some u:=by
 rw[World.cell?_of_block (h.block a.block (a2h hc) hy)];exact hc
theorem b3z {w:World} {cs:Array Value} {e:TypeId} (j:Nat) {u:Value} (h:cs[j]? =some u):(w.alloc (.cells cs e)).cell? ⟨w.heap.size,j,none⟩=some u:=by
 unfold World.cell?;rw[heap_alloc_new w];simpa using h
def ob (ao:Option Addr):Nat->Bool:=fun k=>match ao with|some a=>a.block==k|none=>false
def un (X:Nat->Bool) (ao:Option Addr):Nat->Bool:=fun k=>X k||ob ao k
theorem a0k {X:Nat->Bool} {ao:Option Addr} {k:Nat} (h:X k=true):un X ao k=true:=by simp[un,h]
theorem a0q {X:Nat->Bool} {ao:Option Addr} {k:Nat} (h:ob ao k=true):un X ao k=true:=by simp[un,h]
theorem a1q {X:Nat->Bool} {ao:Option Addr} {k:Nat} (h:un X ao k=false):X k=false/\ob ao k=false:=by simpa[un]using h
def adr (ao:Option Addr) (k:Nat):Addr:=⟨(ao.getD ⟨0,0,none⟩).block,(ao.getD ⟨0,0,none⟩).off+k,none⟩
@[go_sem] theorem a8N (ao:Option Addr) (k j:Nat):(adr ao k).add j=adr ao (k+j):=by
 unfold adr;rw[Addr.add_lit,Nat.add_assoc]
theorem a1z (b o k:Nat):adr (some ⟨b,o,none⟩) k=⟨b,o+k,none⟩:=rfl
def Hd (ao:Option Addr) (n:Nat):Prop:=0<n->∃b off,ao=some ⟨b,off,none⟩
def Sl {α:Type} (R:Mem->Value->α->Prop) (sz:Nat) (h:Mem) (ao:Option Addr) (l:List α):Prop:=
 Hd ao l.length/\∀i (hi:i<l.length),∃u:Value,u.cells.size=sz/\(∀j (hj:j<u.cells.size),h (adr ao (i*sz+j))=some u.cells[j])/\R h u l[i]
def a3v {α:Type} (R:Mem->Value->α->Prop):Prop:=∀(h h':Mem) (u:Value) (x:α),Le h h'->R h u x->R h' u x
def a3h {α:Type} (R:Mem->Value->α->Prop):Prop:=∀(h:Mem) (u:Value) (x:α),R h u x->u.cells=#[u]
theorem Sl.hd {α:Type} {R:Mem->Value->α->Prop} {sz:Nat} {h:Mem} {ao:Option Addr} {l:List α} (s:Sl R sz h ao l):Hd ao l.length:=s.1
theorem Sl.mono {α:Type} {R:Mem->Value->α->Prop} (hR:a3v R) {sz:Nat} {h h':Mem} {ao:Option Addr} {l:List α} (hl:Le h h') (s:Sl R sz h ao l):Sl R sz h' ao l:=by
 refine⟨s.1,fun i hi=>?_⟩;obtain⟨u,h1,h2,h3⟩:=s.2 i hi;exact⟨u,h1,fun j hj=>hl _ _ (h2 j hj),hR _ _ _ _ hl h3⟩
theorem Sl.nil {α:Type} (R:Mem->Value->α->Prop) (sz:Nat) (h:Mem) (ao:Option Addr):Sl R sz h ao []:=
 ⟨fun h=>by simp at h,fun i hi=>by simp at hi⟩
theorem Sl.take {α:Type} {R:Mem->Value->α->Prop} {sz:Nat} {h:Mem} {ao:Option Addr} {l:List α} (s:Sl R sz h ao l) (n:Nat):Sl R sz h ao (l.take n):=by
 refine⟨fun hn=>s.1 (by simp at hn;omega),fun i hi=>?_⟩;have hi':i<l.length:=by simp at hi;omega
 obtain⟨u,h1,h2,h3⟩:=s.2 i hi';exact⟨u,h1,h2,by simpa using h3⟩
def SlV {α:Type} (R:Mem->Value->α->Prop) (sz:Nat) (h:Mem) (v:Value) (l:List α):Prop:=
 ∃ao cap,v= .slice ao l.length cap/\l.length<=cap/\Sl R sz h ao l
theorem SlV.mono {α:Type} {R:Mem->Value->α->Prop} (hR:a3v R) (sz:Nat):a3v (SlV R sz):=by
 rintro h h' u x hl ⟨ao,cap,rfl,hc,hs⟩;exact⟨ao,cap,rfl,hc,hs.mono hR hl⟩
theorem SlV.one {α:Type} {R:Mem->Value->α->Prop} {sz:Nat}:a3h (SlV R sz):=by
 rintro h u x ⟨ao,cap,rfl,_⟩;rfl
theorem SlV.zero {α:Type} (R:Mem->Value->α->Prop) (sz:Nat) (h:Mem):SlV R sz h (.slice none 0 0) []:=
 ⟨none,0,rfl,Nat.le_refl _,Sl.nil _ _ _ _⟩
def a0d (k:IntKind):Mem->Value->Nat->Prop:=fun _ u x=>u= .int k (x:Int)
theorem a0d.mono (k:IntKind):a3v (a0d k):=fun _ _ _ _ _ h=>h
theorem a0d.one (k:IntKind):a3h (a0d k):=by rintro h u x rfl;rfl
def a0w (k:IntKind):Mem->Value->Int->Prop:=fun _ u x=>u= .int k x
theorem a0w.mono (k:IntKind):a3v (a0w k):=fun _ _ _ _ _ h=>h
theorem a0w.one (k:IntKind):a3h (a0w k):=by rintro h u x rfl;rfl
theorem Sl.cell {α:Type} {R:Mem->Value->α->Prop} {h:Mem} {ao:Option Addr} {l:List α} (s:Sl R 1 h ao l) (h1:a3h R) (i:Nat) (hi:i<l.length):
  ∃u,h (adr ao i)=some u/\R h u l[i]:=by
 obtain⟨u,_,h2,h3⟩:=s.2 i hi;have hc:=h1 _ _ _ h3;have h4:=h2 0 (by rw[hc];exact Nat.one_pos);refine⟨u,?_,h3⟩;rw[Nat.mul_one,Nat.add_zero]at h4;rw[h4];simp[hc]
theorem Sl.nat {k:IntKind} {X:Nat->Bool} {w:World} {ao:Option Addr} {l:List Nat} (s:Sl (a0d k) 1 (mk X w) ao l) (i:Nat) (hi:i<l.length):w.cell? (adr ao i)=some (.int k (l[i]:Int)):=by
 obtain⟨u,h1,rfl⟩:=s.cell (a0d.one k) i hi;exact a1e h1
theorem Sl.int {k:IntKind} {X:Nat->Bool} {w:World} {ao:Option Addr} {l:List Int} (s:Sl (a0w k) 1 (mk X w) ao l) (i:Nat) (hi:i<l.length):w.cell? (adr ao i)=some (.int k l[i]):=by
 obtain⟨u,h1,rfl⟩:=s.cell (a0w.one k) i hi;exact a1e h1
theorem Sl.slice {α:Type} {R:Mem->Value->α->Prop} {sz:Nat} {X:Nat->Bool} {w:World} {ao:Option Addr} {l:List (List α)} (s:Sl (SlV R sz) 1 (mk X w) ao l) (i:Nat) (hi:i<l.length):
  ∃a c,w.cell? (adr ao i)=some (.slice a l[i].length c)/\l[i].length<=c/\Sl R sz (mk X w) a l[i]:=by
 obtain⟨u,h1,a,c,rfl,h2,h3⟩:=s.cell SlV.one i hi;exact⟨a,c,a1e h1,h2,h3⟩
structure SliceT (P:Program) (t e sz by_:Nat) (z:Value):Prop where
 und:P.underlying t=some (.slice e)
 info:(P.info? e).map (fun i=>(i.zero,i.size,i.bytes))=some (some z,sz,by_)
def TyI (P:Program) (t sz:Nat):Prop:=∃ti,P.info? t=some ti/\ti.size=sz
section
variable {P:Program} {ops:Array Oper} {Q:Exit->Act->World->Prop} {rest:List Oper} {a:Act} {w:World}
theorem a0h {t e sz by_:Nat} {z:Value} (T:SliceT P t e sz by_ z) (ao:Option Addr) (len cap:Nat) (k:IntKind) (n:Nat)
  (hb:Hd ao len) (hn:n<len) (w:World):
  (Instr.indexAt t (.slice ao len cap) (.int k (n:Int))).run P w= .ok (.pointer (some (adr ao (n*sz)))) w:=by
 obtain⟨i,hi,hz,hsz,hby⟩:=info_parts T.info;obtain⟨b,off,rfl⟩:=hb (by omega);subst hsz;have e:(⟨b,off,none⟩:Addr).add (n*i.size)=⟨b,off+n*i.size,none⟩:=Addr.add_lit _ _ _;simp[Instr.indexAt,asIntOf,Sem.run_bind,run_underlying T.und,Result.andThen,hn,sizeOf,typeInfo,hi,adr,e]
theorem a0C {t e by_:Nat} {z:Value} (T:SliceT P t e 1 by_ z) (ao:Option Addr) (len cap:Nat) (k:IntKind) (n:Nat) {m:Int} (hb:Hd ao len) (hn:n<len) (hm:m=(n:Int)) (w:World):
  (Instr.indexAt t (.slice ao len cap) (.int k m)).run P w= .ok (.pointer (some (adr ao n))) w:=by
 subst hm;rw[a0h (P:=P) T ao len cap k n hb hn w,Nat.mul_one]
theorem a0t {o:Oper} {K:Act->World->Prop} {t e by_:Nat} {z:Value} (T:SliceT P t e 1 by_ z) {ao:Option Addr} {len cap:Nat} {k:IntKind} {m:Int}
  (h0:0<=m/\m<(len:Int)) (hb:Hd ao len) (h:K (a.put o.dst (.pointer (some (adr ao m.toNat)))) w):
  o.upon P a K Q ((Sem.run P (Instr.indexAt t (.slice ao len cap) (.int k m)) w).andThen fun v w=> .ok (.value v) w):=by
 obtain⟨n,rfl⟩:=Int.eq_ofNat_of_zero_le h0.1;rw[a0h (P:=P) T ao len cap k n hb (by omega) w,Nat.mul_one];exact h
theorem a2a {o:Oper} {K:Act->World->Prop} {t e sz by_:Nat} {z:Value} (T:SliceT P t e sz by_ z) {ao:Option Addr} {len cap:Nat} {k:IntKind} {m:Int}
  (h0:0<=m/\m<(len:Int)) (hb:Hd ao len) (h:K (a.put o.dst (.pointer (some (adr ao (m.toNat*sz))))) w):
  o.upon P a K Q ((Sem.run P (Instr.indexAt t (.slice ao len cap) (.int k m)) w).andThen fun v w=> .ok (.value v) w):=by
 obtain⟨n,rfl⟩:=Int.eq_ofNat_of_zero_le h0.1;rw[a0h (P:=P) T ao len cap k n hb (by omega) w];exact h
end
end Go.Rep
namespace Go.Rep
open Go.RowKit
def a0j (u:Value):List Value:=u.cells.toList
theorem a0L {sz:Nat}:∀(us:List Value),(∀u∈us,u.cells.size=sz)->(us.flatMap a0j).length=us.length*sz
 | [],_=>by simp
 |u::us,h=>by
  rw[List.flatMap_cons,List.length_append,a0L us (fun x hx=>h x (List.mem_cons_of_mem _ hx)),List.length_cons,Nat.succ_mul];have:(a0j u).length=sz:=by simp[a0j,h u (List.mem_cons_self ..)]
  omega
theorem a3i {sz:Nat}:∀(us:List Value) (i j:Nat) (hi:i<us.length),(∀u∈us,u.cells.size=sz)->j<sz->(us.flatMap a0j)[i*sz+j]? =(a0j us[i])[j]?
 |u::us,i,j,hi,h,hj=>by
  have hu:(a0j u).length=sz:=by simp[a0j,h u (List.mem_cons_self ..)]
  rw[List.flatMap_cons]
  match i with
  |0=>
   simp only[Nat.zero_mul,Nat.zero_add,List.getElem_cons_zero];rw[List.getElem?_append_left (by omega)]
  |i+1=>
   rw[List.getElem?_append_right (by rw[hu,Nat.succ_mul];omega),hu];have e:(i+1)*sz+j - sz=i*sz+j:=by rw[Nat.succ_mul];omega
   rw[e];simpa using a3i us i j (by simpa using hi) (fun x hx=>h x (List.mem_cons_of_mem _ hx)) hj
theorem a9F {sz:Nat}:∀(us:List Value) (i:Nat) (u:Value),i<us.length->(∀u∈us,u.cells.size=sz)->u.cells.size=sz->
  (us.set i u).flatMap a0j=(us.flatMap a0j).take (i*sz)++a0j u++(us.flatMap a0j).drop (i*sz+sz)
 |v::us,i,u,hi,h,hu=>by
  have hv:(a0j v).length=sz:=by simp[a0j,h v (List.mem_cons_self ..)]
  match i with
  |0=>
   simp only[List.set_cons_zero,List.flatMap_cons,Nat.zero_mul,List.take_zero,List.nil_append,Nat.zero_add];rw[List.drop_append_of_le_length (by omega),List.drop_of_length_le (by omega),List.nil_append]
  |i+1=>
   have ih:=a9F us i u (by simpa using hi) (fun x hx=>h x (List.mem_cons_of_mem _ hx)) hu;simp only[List.set_cons_succ,List.flatMap_cons];have e1:(i+1)*sz=(a0j v).length+i*sz:=by rw[Nat.succ_mul];omega
   rw[ih,e1,List.take_length_add_append,Nat.add_assoc,List.drop_length_add_append];simp only[List.append_assoc]
structure Elem {α:Type} (R:Mem->Value->α->Prop) (sz:Nat):Prop where
 mono:a3v R
 size:∀(h:Mem) (u:Value) (x:α),R h u x->u.cells.size=sz
 one:∀(h:Mem) (u:Value) (x:α),R h u x->∀c∈a0j u,c.oneCell'=true
 pos:0<sz
theorem a0d.elem (k:IntKind):Elem (a0d k) 1:=⟨a0d.mono k,by rintro h u x rfl;rfl,by rintro h u x rfl c hc;simp[a0j,Value.cells]at hc;subst hc;rfl,Nat.one_pos⟩
theorem a0w.elem (k:IntKind):Elem (a0w k) 1:=⟨a0w.mono k,by rintro h u x rfl;rfl,by rintro h u x rfl c hc;simp[a0j,Value.cells]at hc;subst hc;rfl,Nat.one_pos⟩
theorem SlV.elem {α:Type} {R:Mem->Value->α->Prop} {sz:Nat} (h:Elem R sz):Elem (SlV R sz) 1:=
 ⟨SlV.mono h.mono sz,by rintro h u x ⟨ao,cap,rfl,_⟩;rfl,by rintro h u x ⟨ao,cap,rfl,_⟩ c hc;simp[a0j,Value.cells]at hc;subst hc;rfl,Nat.one_pos⟩
def OL {α:Type} (R:Mem->Value->α->Prop) (sz:Nat) (X:Nat->Bool) (base:Nat) (e:TypeId) (w:World) (ao:Option Addr) (cap:Nat) (l:List α):Prop:=
 (∀k,ob ao k=true->X k=false)/\
 ∃us:List Value,us.length=l.length/\(∀u∈us,u.cells.size=sz)/\(∀u∈us,∀c∈a0j u,c.oneCell'=true)/\w.ownsRow base e sz (.slice ao l.length cap) l.length (us.flatMap a0j)/\
  ∀i (hi:i<us.length) (hi':i<l.length),R (mk (un X ao) w) us[i] l[i]
section
variable {α:Type} {R:Mem->Value->α->Prop} {sz:Nat} {X:Nat->Bool} {base:Nat} {e:TypeId} {w:World} {ao:Option Addr} {cap:Nat} {l:List α}
theorem OL.nil (R:Mem->Value->α->Prop) (sz:Nat) (X:Nat->Bool) (base:Nat) (e:TypeId) (w:World):OL R sz X base e w none 0 []:=
 ⟨fun _ h=>by simp[ob]at h,[],rfl,by simp,by simp,World.ownsRow_nil w base e sz,fun i hi=>by simp at hi⟩
theorem OL.form (h:OL R sz X base e w ao cap l):(ao=none/\cap=0/\l= [])\/∃g cur,ao=some ⟨g,0,none⟩/\base<=g/\w.heap[g]? =some (.cells cur e (0,0))/\l.length<=cap/\cap<=maxLen/\cur.size=cap*sz:=by
 obtain⟨_,us,h1,h2,_,⟨h3,h4⟩,h5⟩:=h;rcases h4 with⟨hv,hn⟩|⟨g,c,cur,hv,h6,h7,h8,h9,h10,h11⟩
 ·left
  simp at hv;exact⟨hv.1,hv.2.2,List.eq_nil_of_length_eq_zero hn⟩
 ·right
  simp at hv;obtain⟨rfl,rfl⟩:=hv;exact⟨g,cur,rfl,h6,h7,h8,h9,h10⟩
theorem OL.block (h:OL R sz X base e w ao cap l) {k:Nat} (hk:ob ao k=true):base<=k/\k<w.heap.size:=by
 rcases h.form with⟨rfl,_⟩|⟨g,cur,rfl,h6,h7,_⟩
 ·simp[ob]at hk
 ·have:g=k:=by simpa[ob]using hk
  subst this;refine⟨h6,?_⟩;by_cases hl:g<w.heap.size
  ·exact hl
  ·rw[Array.getElem?_eq_none (by omega)]at h7;simp at h7
theorem OL.ob_lt (h:OL R sz X base e w ao cap l) {k:Nat} (hk:k<base):ob ao k=false:=by
 cases hb:ob ao k
 ·rfl
 ·have:=h.block hb;omega
theorem OL.lenCap (h:OL R sz X base e w ao cap l):l.length<=cap:=by
 rcases h.form with⟨_,_,rfl⟩|⟨g,cur,_,_,_,h8,_⟩
 ·simp
 ·exact h8
theorem OL.hd (h:OL R sz X base e w ao cap l):Hd ao l.length:=by
 intro hn;rcases h.form with⟨_,_,rfl⟩|⟨g,cur,rfl,_⟩
 ·simp at hn
 ·exact⟨g,0,rfl⟩
theorem OL.cells (h:OL R sz X base e w ao cap l):∃us:List Value,us.length=l.length/\(∀u∈us,u.cells.size=sz)/\(∀u∈us,∀c∈a0j u,c.oneCell'=true)/\
  (∀j u,(us.flatMap a0j)[j]? =some u->w.cell? (adr ao j)=some u/\w.frozen? (adr ao j)=false)/\∀i (hi:i<us.length) (hi':i<l.length),R (mk (un X ao) w) us[i] l[i]:=by
 have hf:=h.form;obtain⟨hx,us,h1,h2,h22,⟨h3,h4⟩,h5⟩:=h;refine⟨us,h1,h2,h22,fun j u hj=>?_,h5⟩;have hlt:j<l.length*sz:=by
  rw[<-h3];exact(List.getElem?_eq_some_iff.1 hj).1
 rcases hf with⟨_,_,rfl⟩|⟨g,cur,rfl,h6,h7,h8,h9,h10⟩
 ·simp at hlt
 rcases h4 with⟨hv,hn⟩|⟨g',c,cur',hv,_,h7',_,_,_,h11⟩
 ·simp at hv
 simp at hv;obtain⟨rfl,rfl⟩:=hv;rw[h7]at h7';obtain rfl:cur=cur':=by simpa using h7'
 rw[<-h11,List.getElem?_take_of_lt hlt]at hj;have hadr:adr (some ⟨g,0,none⟩) j=⟨g,j,none⟩:=by simp[adr]
 rw[hadr];simp only[Array.getElem?_toList]at hj;simp[World.cell?,World.frozen?,h7,hj]
theorem OL.sl (hR:Elem R sz) (h:OL R sz X base e w ao cap l):Sl R sz (mk X w) ao l:=by
 refine⟨h.hd,fun i hi=>?_⟩;have hf:=h.form;have hx:=h.1;obtain⟨us,h1,h2,_,h3,h5⟩:=h.cells;have hi':i<us.length:=by omega
 refine⟨us[i],h2 _ (List.getElem_mem _),fun j hj=>?_,hR.mono _ _ _ _ (a1E fun k _ hk=>a0k hk) (h5 i hi' hi)⟩;have hsz:us[i].cells.size=sz:=h2 _ (List.getElem_mem _);have hget:=a3i us i j hi' h2 (by omega);have hc:(a0j us[i])[j]? =some us[i].cells[j]:=by simp[a0j,hj]
 rw[hc]at hget;have hg:=(h3 _ _ hget).1;unfold mk;have:X (adr ao (i*sz+j)).block=false:=by
  rcases hf with⟨_,_,rfl⟩|⟨g,cur,rfl,_⟩
  ·simp at hi
  ·exact hx _ (by simp[ob,adr])
 rw[this];simpa using hg
theorem OL.cell (h1c:a3h R) (h:OL R 1 X base e w ao cap l) (i:Nat) (hi:i<l.length):
  ∃u,w.cell? (adr ao i)=some u/\w.frozen? (adr ao i)=false/\R (mk (un X ao) w) u l[i]:=by
 obtain⟨us,h1,h2,_,h3,h5⟩:=h.cells;have hi':i<us.length:=by omega
 have hsz:us[i].cells.size=1:=h2 _ (List.getElem_mem _);have hget:=a3i us i 0 hi' h2 (by omega);have hc:(a0j us[i])[0]? =some us[i].cells[0]:=by simp[a0j]
 rw[hc]at hget;have hu:=h1c _ _ _ (h5 i hi' hi);have:=h3 _ _ hget;simp only[Nat.mul_one,Nat.add_zero,hu]at this;exact⟨us[i],this.1,this.2,h5 i hi' hi⟩
theorem OL.ext (hR:Elem R sz) {Y Z:Nat->Bool} {w':World} (h:OL R sz X base e w ao cap l) (hE:ExtX Y w w') (hY:∀k,k<w.heap.size->Y k=true->X k=true) (hZ:∀k,k<w.heap.size->Z k=true->X k=true):OL R sz Z base e w' ao cap l:=by
 have hb:=fun k (hk:ob ao k=true)=>h.block hk;obtain⟨hx,us,h1,h2,h22,h3,h5⟩:=h;refine⟨fun k hk=>?_,us,h1,h2,h22,?_,fun i hi hi'=>hR.mono _ _ _ _ (a1f hE (fun k hk hy=>a0k (hY k hk hy)) (fun k hk hz=>?_)) (h5 i hi hi')⟩
 ·cases hh:Z k
  ·rfl
  ·have:=hZ k (hb k hk).2 hh;rw[hx k hk]at this;simp at this
 ·refine⟨h3.1,?_⟩
  rcases h3.2 with h4|⟨g,c,cur,hv,h6,h7,h8⟩
  ·exact .inl h4
  ·refine .inr ⟨g,c,cur,hv,h6,?_,h8⟩
   simp at hv;obtain⟨rfl,rfl⟩:=hv;have hk:ob (some ⟨g,0,none⟩) g=true:=by simp[ob]
   rw[hE.block g (hb g hk).2,h7];cases hh:Y g
   ·rfl
   ·have:=hY g (hb g hk).2 hh;rw[hx g hk]at this;simp at this
 ·cases hh:Z k
  ·simp[un,hh]at hz;exact a0q hz
  ·exact a0k (hZ k hk hh)
theorem OL.ext0 (hR:Elem R sz) {w':World} (h:OL R sz X base e w ao cap l) (hE:Ext w w'):OL R sz X base e w' ao cap l:=
 h.ext hR hE (fun k _ hk=>by simp[noY]at hk) (fun _ _ h=>h)
theorem ExtX.own {Y:Nat->Bool} {w0 w':World} (h:ExtX Y w0 w) (ho:OL R sz X base e w ao cap l) (hb:w0.heap.size<=base) (hE:ExtX (ob ao) w w'):ExtX Y w0 w':=
 h.then_ hE fun i hi _=>by
  cases hk:ob ao i
  ·rfl
  ·have:=ho.block hk;omega
theorem OL.unX (h:OL R sz X base e w ao cap l) (hX:∀k,X k=true->k<w.heap.size):∀k,un X ao k=true->k<w.heap.size:=by
 intro k hk;by_cases hx:X k=true
 ·exact hX k hx
 ·have:ob ao k=true:=by simpa[un,hx]using hk
  exact(h.block this).2
theorem OL.base_le (h:OL R sz X base e w ao cap l) {b':Nat} (hb:b'<=base):OL R sz X b' e w ao cap l:=by
 obtain⟨hx,us,h1,h2,h22,h3,h5⟩:=h;refine⟨hx,us,h1,h2,h22,⟨h3.1,?_⟩,h5⟩;rcases h3.2 with h4|⟨g,c,cur,hv,h6,h8⟩
 ·exact .inl h4
 ·exact .inr ⟨g,c,cur,hv,by omega,h8⟩
end
section
variable {α:Type} {R:Mem->Value->α->Prop} {sz:Nat} {X:Nat->Bool} {base:Nat} {e:TypeId} {w:World} {ao:Option Addr} {cap:Nat} {l:List α} {P:Program}
def At (w:World) (ao:Option Addr) (us:List Value):Prop:=Hd ao us.length/\∀j u,(us.flatMap a0j)[j]? =some u->w.cell? (adr ao j)=some u
theorem Sl.at_ (hR:Elem R sz) (h:Sl R sz (mk X w) ao l):∃us:List Value,us.length=l.length/\At w ao us/\∀i (hi:i<us.length) (hi':i<l.length),R (mk X w) us[i] l[i]:=by
 have hpos:=hR.pos;have key:∀n,n<=l.length->∃us:List Value,us.length=n/\(∀j u,(us.flatMap a0j)[j]? =some u->w.cell? (adr ao j)=some u)/\∀i (hi:i<us.length) (hi':i<l.length),R (mk X w) us[i] l[i]:=by
  intro n
  induction n with
  |zero=>intro _;exact⟨[],rfl,by simp,by simp⟩
  |succ n ih=>
   intro hn;obtain⟨us,h1,h2,h3⟩:=ih (by omega);obtain⟨u,h4,h5,h6⟩:=h.2 n (by omega);have hsz:∀v∈us,v.cells.size=sz:=by
    intro v hv;obtain⟨i,hi,rfl⟩:=List.getElem_of_mem hv;exact hR.size _ _ _ (h3 i hi (by omega))
   refine⟨us++[u],by simp[h1],fun j x hj=>?_,fun i hi hi'=>?_⟩
   ·rw[List.flatMap_append]at hj
    have hfl:=a0L us hsz;by_cases hlt:j<us.length*sz
    ·rw[List.getElem?_append_left (by omega)]at hj;exact h2 j x hj
    ·rw[List.getElem?_append_right (by omega),hfl]at hj
     simp only[List.flatMap_cons,List.flatMap_nil,List.append_nil,a0j]at hj;obtain⟨hj1,hj2⟩:=List.getElem?_eq_some_iff.1 hj;have:=h5 (j - us.length*sz) (by simpa using hj1);have ee:n*sz+(j - us.length*sz)=j:=by rw[h1]at hlt |-;omega
     rw[ee]at this;rw[a1e this];simp[<-hj2]
   ·by_cases hlt:i<us.length
    ·simpa[List.getElem_append_left hlt]using h3 i hlt hi'
    ·have:i=n:=by simp at hi;omega
     subst this;simpa[List.getElem_append_right,h1]using h6
 obtain⟨us,h1,h2,h3⟩:=key l.length (Nat.le_refl _);exact⟨us,h1,⟨by rw[h1];exact h.1,h2⟩,h3⟩
theorem a7f {ad:Addr} (h:ad.spot=none) (j:Nat):adr (some ad) j=ad.add j:=by
 cases ad;simp at h;subst h;rw[Addr.add_lit];rfl
theorem a2U {w':World} {ao':Option Addr} (hE:ExtX (ob ao) w w') (ho:ao'=ao\/∃g,ao'=some ⟨g,0,none⟩/\w.heap.size<=g):Le (mk (un X ao) w) (mk (un X ao') w'):=by
 refine a1f hE (fun k _ hk=>a0q hk) fun k hk hz=>?_;rcases ho with rfl|⟨g,rfl,hg⟩
 ·exact hz
 ·by_cases hx:X k=true
  ·exact a0k hx
  ·have:g=k:=by simpa[un,hx,ob]using hz
   omega
theorem OL.run_append {t by_:Nat} {z:Value} (T:SliceT P t e sz by_ z) (hzs:z.cells.size=sz) (hR:Elem R sz) (h:OL R sz X base e w ao cap l) (hbase:base<=w.heap.size) (hX:∀k,X k=true->k<w.heap.size)
  (asl:Option Addr) (cs:Nat) (us':List Value) (xs:List α) (hat:At w asl us') (hlen:us'.length=xs.length) (hxs:∀i (hi:i<us'.length) (hi':i<xs.length),R (mk (un X ao) w) us'[i] xs[i])
  (hroom:(l.length+xs.length)*by_<=140737488355328) (hmax:l.length+xs.length<=9223372036854775807) (ty:TypeId):
  ∃ao' cap' w',(Builtin.append_ #[t,t] ty #[.slice ao l.length cap, .slice asl xs.length cs]).run P w= .ok (.slice ao' (l++xs).length cap') w'/\OL R sz X base e w' ao' cap' (l++xs)/\ExtX (ob ao) w w'/\
   (ao'=ao\/∃g,ao'=some ⟨g,0,none⟩/\w.heap.size<=g):=by
 obtain⟨i,hi,hz,hsz,hby⟩:=info_parts T.info;have hpos:=hR.pos;have hus':∀u∈us',u.cells.size=sz:=by
  intro v hv;obtain⟨i,hi,rfl⟩:=List.getElem_of_mem hv;exact hR.size _ _ _ (hxs i hi (by omega))
 have hone':∀u∈us'.flatMap a0j,u.oneCell'=true:=by
  intro c hc;obtain⟨v,hv,hcv⟩:=List.mem_flatMap.1 hc;obtain⟨i,hi,rfl⟩:=List.getElem_of_mem hv;exact hR.one _ _ _ (hxs i hi (by omega)) c hcv
 by_cases hxe:xs= []
 ·subst hxe
  have hu0:us'= []:=List.eq_nil_of_length_eq_zero (by simpa using hlen);subst hu0;refine⟨ao,cap,w,?_,by simpa using h,ExtX.refl w, .inl rfl⟩;have hlc:=h.lenCap;have hsz':=hsz;subst hsz;cases asl with
  |none=>cases ao<;>simp[Builtin.append_,run_underlying T.und,sizeOf,typeInfo,hi,Builtin.lenOf,Builtin.firstCells,hlc,storeCells]
  |some asl=>cases ao<;>simp[Builtin.append_,run_underlying T.und,sizeOf,typeInfo,hi,Builtin.lenOf,Builtin.firstCells,loadCells,loadCellsFrom,hlc,storeCells]
 have hxpos:0<xs.length:=by
  cases xs with
  |nil=>exact absurd rfl hxe
  |cons x xs=>simp
 obtain⟨sb,so,rfl⟩:=hat.1 (by omega);have hnews:∀j u,(us'.flatMap a0j)[j]? =some u->w.cell? ((⟨sb,so,none⟩:Addr).add j)=some u:=by
  intro j u hj;rw[<-a7f rfl];exact hat.2 j u hj
 have hnl:(us'.flatMap a0j).length=xs.length*i.size:=by rw[a0L us' hus',hlen,hsz]
 have hx:=h.1;have hcells:=h.cells;have hform:=h.form;obtain⟨_,us,h1,h2,h22,h3,h5⟩:=h;have hul:(us.flatMap a0j).length=l.length*i.size:=by rw[a0L us h2,h1,hsz]
 have hfl:(us++us').flatMap a0j=us.flatMap a0j++us'.flatMap a0j:=List.flatMap_append;have hnew:∀u∈us++us',u.cells.size=sz:=by
  intro u hu;rcases List.mem_append.1 hu with hu|hu
  ·exact h2 u hu
  ·exact hus' u hu
 have hnew1:∀u∈us++us',∀c∈a0j u,c.oneCell'=true:=by
  intro u hu c hc;rcases List.mem_append.1 hu with hu|hu
  ·exact h22 u hu c hc
  ·exact hone' c (List.mem_flatMap.2 ⟨u,hu,hc⟩)
 have hRs:∀(ao':Option Addr) (w':World),ExtX (ob ao) w w'->(ao'=ao\/∃g,ao'=some ⟨g,0,none⟩/\w.heap.size<=g)->
   ∀i (hi:i<(us++us').length) (hi':i<(l++xs).length),R (mk (un X ao') w') (us++us')[i] (l++xs)[i]:=by
  intro ao' w' hE ho i hi hi';have hle:=a2U (X:=X) hE ho;by_cases hlt:i<us.length
  ·simpa[List.getElem_append_left hlt,List.getElem_append_left (show i<l.length by omega)]using hR.mono _ _ _ _ hle (h5 i hlt (by omega))
  ·have hb1:i - us.length<us'.length:=by simp at hi;omega
   have:=hR.mono _ _ _ _ hle (hxs (i - us.length) hb1 (by omega));simpa[List.getElem_append_right (show us.length<=i by omega),List.getElem_append_right (show l.length<=i by omega),h1]using this
 have grown:∀old,old<l.length+xs.length->∃g cur,g=w.heap.size/\cur=(us.flatMap a0j).toArray++(us'.flatMap a0j).toArray++Builtin.zeroCells z.cells (grownCap w (l.length+xs.length) old e - (l.length+xs.length))/\
   OL R sz X base e (w.drew.alloc (.cells cur e)) (some ⟨g,0,none⟩) (grownCap w (l.length+xs.length) old e) (l++xs)/\ExtX (ob ao) w (w.drew.alloc (.cells cur e)):=by
  intro old ho;refine⟨_,_,rfl,rfl,?_,?_⟩
  ·have hge:=grownCap_ge w (l.length+xs.length) old e
   have hcm:grownCap w (l.length+xs.length) old e<=maxLen:=grownCap_le_maxLen w (l.length+xs.length) old e (by simpa[maxLen]using hmax);have hE:ExtX (ob ao) w (w.drew.alloc (.cells ((us.flatMap a0j).toArray++(us'.flatMap a0j).toArray++Builtin.zeroCells z.cells (grownCap w (l.length+xs.length) old e - (l.length+xs.length))) e)):=((ExtX.refl w).drew).alloc _;refine⟨fun k hk=>?_,us++us',by simp[h1,hlen],hnew,hnew1,⟨by rw[hfl];simp[hul,hnl,hsz,Nat.add_mul], .inr ⟨w.heap.size,_,_,by simp,hbase,heap_alloc_new w.drew _,by simpa using hge,hcm,?_,?_⟩⟩,hRs _ _ hE (.inr ⟨_,rfl,Nat.le_refl _⟩)⟩
   ·have:w.heap.size=k:=by simpa[ob]using hk
    cases hh:X k
    ·rfl
    ·have:=hX k hh;omega
   ·simp only[Array.size_append,List.size_toArray,size_zeroCells,hzs,hul,hnl,hsz,<-Nat.add_mul]
    congr 1;omega
   ·rw[hfl]
    simp only[Array.toList_append,List.length_append];have hll:(l.length+xs.length)*sz=(us.flatMap a0j++us'.flatMap a0j).length:=by simp[hul,hnl,hsz,Nat.add_mul]
    rw[hll];exact List.take_left
  ·exact((ExtX.refl w).drew).alloc _
 have hll:(l++xs).length=l.length+xs.length:=List.length_append;rcases hform with⟨rfl,rfl,rfl⟩|⟨g,cur,rfl,h6,h7,h8,h9,h10⟩
 ·have hu0:us= []:=List.eq_nil_of_length_eq_zero (by simpa using h1)
  subst hu0;obtain⟨g,cur,rfl,hcur,hOL,hE⟩:=grown 0 (by simp;omega);have hr:=run_append_nil (P:=P) w t ty e i z T.und hi hz ⟨sb,so,none⟩ xs.length cs (us'.flatMap a0j) hnl hnews hxpos (by simp at hmax;omega) (by simp at hroom;rw[hby];omega);simp only[List.flatMap_nil,List.length_nil,Nat.zero_add,List.nil_append,Array.empty_append]at hOL hE hcur hr |-;subst hcur;exact⟨_,_,_,hr,hOL,hE, .inr ⟨_,rfl,Nat.le_refl _⟩⟩
 ·by_cases hroom':l.length+xs.length<=cap
  ·have hfit:l.length*i.size+(us'.flatMap a0j).length<=cur.size:=by rw[hnl,h10,<-hsz,<-Nat.add_mul];exact Nat.mul_le_mul_right _ hroom'
   have hr:=run_append_room (P:=P) w t ty e i T.und hi g l.length cap cur h7 ⟨sb,so,none⟩ xs.length cs (us'.flatMap a0j) hnl hnews hone' hroom' hfit;have hE:ExtX (ob (some ⟨g,0,none⟩)) w (w.setRow g (cur.toList.take (l.length*i.size)++us'.flatMap a0j++cur.toList.drop (l.length*i.size+(us'.flatMap a0j).length)).toArray):=
    ⟨rfl,rfl,rfl,by simp,fun k _ hk=>setRow_other w g k _ (fun ek=>by subst ek;simp[ob]at hk)⟩
   refine⟨_,_,_,by rw[hll];exact hr,⟨hx,us++us',by simp[h1,hlen],hnew,hnew1,⟨by rw[hfl];simp[hul,hnl,hsz,Nat.add_mul], .inr ⟨g,cap,_,by rw[hll],h6,setRow_heap w g cur _ e _ h7,by rw[hll];exact hroom',h9,?_,?_⟩⟩,hRs _ _ hE (.inl rfl)⟩,hE, .inl rfl⟩
   ·simp only[List.size_toArray,List.length_append,List.length_take,List.length_drop,Array.length_toList];omega
   ·rw[hfl,hll]
    rcases h3.2 with⟨hv,_⟩|⟨g',c',cur',hv,_,h7',_,_,_,h11⟩
    ·simp at hv
    simp at hv;obtain⟨rfl,rfl⟩:=hv;rw[h7]at h7';obtain rfl:cur=cur':=by simpa using h7'
    have e1:cur.toList.take (l.length*i.size)=us.flatMap a0j:=by rw[hsz];exact h11
    rw[e1];have hll2:(l.length+xs.length)*sz=(us.flatMap a0j++us'.flatMap a0j).length:=by simp[hul,hnl,hsz,Nat.add_mul]
    rw[hll2];exact List.take_left
  ·have holds:∀j u,(us.flatMap a0j)[j]? =some u->w.cell? ((⟨g,0,none⟩:Addr).add j)=some u:=h3.cells (g:=g) rfl
   have hr:=run_append_grow (P:=P) w t ty e i z T.und hi hz ⟨g,0,none⟩ l.length cap (us.flatMap a0j) hul holds ⟨sb,so,none⟩ xs.length cs (us'.flatMap a0j) hnl hnews (by omega) (by omega) (growslice_fits (by omega) (by rw[hby];exact hroom));obtain⟨g',cur',rfl,hcur,hOL,hE⟩:=grown cap (by omega);subst hcur;exact⟨_,_,_,by rw[hll];exact hr,hOL,hE, .inr ⟨_,rfl,Nat.le_refl _⟩⟩
theorem OL.run_make {t by_:Nat} {z:Value} (T:SliceT P t e sz by_ z) (hR:Elem R sz) (x0:α) (hz:∀h,R h z x0) (hX:∀k,X k=true->k<w.heap.size) (hbase:base<=w.heap.size)
  (kl kc:IntKind) (n:Nat) (hroom:by_*n<=281474976710656) (hmax:n<=9223372036854775807):
  ∃ao w',(Instr.makeSlice t (.int kl (n:Int)) (.int kc (n:Int))).run P w= .ok (.slice ao n n) w'/\OL R sz X base e w' ao n (List.replicate n x0)/\Ext w w':=by
 obtain⟨i,hi,hiz,hsz,hby⟩:=info_parts T.info;have hzs:z.cells.size=sz:=hR.size (fun _=>none) z x0 (hz _);have hpos:=hR.pos;have hr:=Go.run_make (P:=P) w t e i z T.und hi hiz kl kc n n (by omega) (Int.le_refl _) (by rw[hby,<-Int.natCast_mul];omega) (by omega);simp only[Int.toNat_natCast]at hr;refine⟨_,_,hr,⟨fun k hk=>?_,List.replicate n z,by simp,by intro u hu;rw[List.eq_of_mem_replicate hu];exact hzs,by intro u hu;rw[List.eq_of_mem_replicate hu];exact hR.one (fun _=>none) z x0 (hz _),⟨?_, .inr ⟨w.heap.size,n,_,by simp,hbase,heap_alloc_new w _,by simp,by simpa[maxLen]using hmax,by rw[size_madeCells,hsz],?_⟩⟩,fun i hi hi'=>by simpa using hz _⟩,(ExtX.refl w).alloc _⟩
 ·have:w.heap.size=k:=by simpa[ob]using hk
  cases hh:X k
  ·rfl
  ·have:=hX k hh;omega
 ·rw[a0L (sz:=sz) _ (by intro u hu;rw[List.eq_of_mem_replicate hu];exact hzs)]
  simp
 ·apply List.ext_getElem?
  intro j;simp only[List.length_replicate];by_cases hj:j<n*sz
  ·rw[List.getElem?_take_of_lt hj]
   have hg:=a3i (sz:=sz) (List.replicate n z) (j/sz) (j%sz) (by simpa using Nat.div_lt_of_lt_mul (by rw[Nat.mul_comm];exact hj)) (by intro u hu;rw[List.eq_of_mem_replicate hu];exact hzs) (Nat.mod_lt _ hpos);have ej:j/sz*sz+j%sz=j:=by rw[Nat.mul_comm];exact Nat.div_add_mod j sz
   rw[ej]at hg;rw[hg];simp[madeCells,hsz,hj,a0j,hzs];rw[Array.getElem?_eq_getElem (by rw[hzs];exact Nat.mod_lt _ hpos)];rw[getElem!_pos]
  ·rw[List.getElem?_eq_none (by simp[size_madeCells,hsz];omega),List.getElem?_eq_none]
   rw[a0L (sz:=sz) _ (by intro u hu;rw[List.eq_of_mem_replicate hu];exact hzs)];simp;omega
theorem OL.run_store {t:TypeId} {ti:TypeInfo} (ht:P.info? t=some ti) (hts:ti.size=sz) (hR:Elem R sz) (h:OL R sz X base e w ao cap l) (i:Nat) (hi:i<l.length) (u:Value) (x:α) (hu:R (mk (un X ao) w) u x):
  ∃w',(storeVar t (adr ao (i*sz)) u).run P w= .ok () w'/\OL R sz X base e w' ao cap (l.set i x)/\ExtX (ob ao) w w':=by
 have hus:=hR.size _ _ _ hu;have hu1:=hR.one _ _ _ hu;have hform:=h.form;obtain⟨hx,us,h1,h2,h22,h3,h5⟩:=h;rcases hform with⟨rfl,rfl,rfl⟩|⟨g,cur,rfl,h6,h7,h8,h9,h10⟩
 ·simp at hi
 have hadr:adr (some ⟨g,0,none⟩) (i*sz)=⟨g,i*sz,none⟩:=by simp[adr]
 have hsub:(i+1)*sz<=l.length*sz:=Nat.mul_le_mul_right _ hi;have hsub2:l.length*sz<=cap*sz:=Nat.mul_le_mul_right _ h8;rw[Nat.succ_mul]at hsub;have hst:=run_storeCells_at P g (i*sz) e (a0j u) 0 cur w h7 (by simp[a0j,hus,h10];omega) hu1;have hE:ExtX (ob (some ⟨g,0,none⟩)) w (w.setRow g (cur.toList.take (i*sz+0)++a0j u++cur.toList.drop (i*sz+0+(a0j u).length)).toArray):=
  ⟨rfl,rfl,rfl,by simp,fun k _ hk=>setRow_other w g k _ (fun ek=>by subst ek;simp[ob]at hk)⟩
 have hne:∀v∈us.set i u,v.cells.size=sz:=by
  intro v hv;rcases List.mem_or_eq_of_mem_set hv with hv|rfl
  ·exact h2 v hv
  ·exact hus
 refine⟨_,?_,⟨hx,us.set i u,by simp[h1],hne,?_,⟨?_, .inr ⟨g,cap,_,by simp,h6,setRow_heap w g cur _ e _ h7,by simpa using h8,h9,?_,?_⟩⟩,?_⟩,hE⟩
 ·rw[hadr]
  simp[storeVar,sizeOf,typeInfo,ht,hts,hus];simpa[a0j]using hst
 ·intro v hv
  rcases List.mem_or_eq_of_mem_set hv with hv|rfl
  ·exact h22 v hv
  ·exact hu1
 ·rw[a0L _ hne];simp[h1]
 ·have hlu:(a0j u).length=sz:=by simp[a0j,hus]
  simp only[List.size_toArray,List.length_append,List.length_take,List.length_drop,Array.length_toList,hlu,h10,Nat.add_zero];omega
 ·rcases h3.2 with⟨hv,_⟩|⟨g',c',cur',hv,_,h7',_,_,_,h11⟩
  ·simp at hv
  simp at hv;obtain⟨rfl,rfl⟩:=hv;rw[h7]at h7';obtain rfl:cur=cur':=by simpa using h7'
  have hlu:(a0j u).length=sz:=by simp[a0j,hus]
  have hcl:cur.toList.length=cap*sz:=by simp[h10]
  rw[a9F us i u (by omega) h2 hus,<-h11];simp only[List.length_set,Nat.add_zero];have hA:(cur.toList.take (i*sz)).length=i*sz:=by rw[List.length_take,hcl];omega
  rw[hlu,List.take_append,List.take_of_length_le (by rw[List.length_append,hA,hlu];omega),List.length_append,hA,hlu,List.take_take,Nat.min_eq_left (by omega),List.drop_take]
 ·intro j hj hj'
  have hle:Le (mk (un X (some ⟨g,0,none⟩)) w) (mk (un X (some ⟨g,0,none⟩)) _):=a2U hE (.inl rfl);by_cases hji:i=j
  ·subst hji;simpa using hR.mono _ _ _ _ hle hu
  ·have:=hR.mono _ _ _ _ hle (h5 j (by simpa using hj) (by simpa using hj'))
   simpa[List.getElem_set,hji]using this
end
end Go.Rep
namespace Go.Rep
open Go.RowKit
section
variable {P:Program} {ops:Array Oper} {Q:Exit->Act->World->Prop} {rest:List Oper} {a:Act} {w:World}
variable {α:Type} {R:Mem->Value->α->Prop} {sz:Nat} {X:Nat->Bool} {base:Nat} {e:TypeId} {ao:Option Addr} {cap:Nat} {l:List α}
variable {d:Option Tmp} {ty:TypeId} {ps:String} {af:Array Edge}
theorem OL.lit (hR:Elem R sz) (hX:∀k,X k=true->k<w.heap.size) (hbase:base<=w.heap.size) (us:List Value) (l:List α) (arr:Array Value) (harr:arr=(us.flatMap a0j).toArray) (hlen:us.length=l.length)
  (hu:∀i (hi:i<us.length) (hi':i<l.length),R (mk X w) us[i] l[i]) (hmax:l.length<=9223372036854775807):
  OL R sz X base e (w.alloc (.cells arr e)) (some ⟨w.heap.size,0,none⟩) l.length l:=by
 subst harr;have hsz:∀u∈us,u.cells.size=sz:=by
  intro v hv;obtain⟨i,hi,rfl⟩:=List.getElem_of_mem hv;exact hR.size _ _ _ (hu i hi (by omega))
 have hE:Ext w (w.alloc (.cells (us.flatMap a0j).toArray e)):=(ExtX.refl w).alloc _;refine⟨fun k hk=>?_,us,hlen,hsz,?_,⟨by rw[a0L us hsz,hlen], .inr ⟨w.heap.size,_,_,rfl,hbase,heap_alloc_new w _,Nat.le_refl _,by unfold maxLen;exact hmax,by simp[a0L us hsz,hlen],?_⟩⟩,fun i hi hi'=>?_⟩
 ·have:w.heap.size=k:=by simpa[ob]using hk
  cases hh:X k
  ·rfl
  ·have:=hX k hh;omega
 ·intro v hv
  obtain⟨i,hi,rfl⟩:=List.getElem_of_mem hv;exact hR.one _ _ _ (hu i hi (by omega))
 ·rw[List.take_of_length_le]
  simp[a0L us hsz,hlen]
 ·refine hR.mono _ _ _ _ (a1f hE (fun k _ hk=>by simp[noY]at hk) fun k hk hz=>?_) (hu i hi hi')
  by_cases hx:X k=true
  ·exact hx
  ·have:w.heap.size=k:=by simpa[un,hx,ob]using hz
   omega
theorem b8q (X:Nat->Bool) (w:World) (o:Obj):Le (mk X w) (mk (un X (some ⟨w.heap.size,0,none⟩)) (w.alloc o)):=
 a1f ((ExtX.refl (Y:=noY) w).alloc o) (fun k _ hk=>by simp[noY]at hk) fun k hk hz=>by
  by_cases hx:X k=true
  ·exact hx
  ·have:w.heap.size=k:=by simpa[un,hx,ob]using hz
   omega
theorem b1i (w:World) (arr:Array Value) (e:TypeId) (u:Value) (harr:arr=u.cells):At (w.alloc (.cells arr e)) (some ⟨w.heap.size,0,none⟩) [u]:=by
 subst harr;refine⟨fun _=>⟨_,_,rfl⟩,fun j c hj=>?_⟩;simp only[List.flatMap_cons,List.flatMap_nil,List.append_nil,a0j,Array.getElem?_toList]at hj;have h0:adr (some ⟨w.heap.size,0,none⟩) j=⟨w.heap.size,j,none⟩:=by simp[adr]
 have h1:=heap_alloc_new w (.cells u.cells e);rw[h0];unfold World.cell?;rw[h1];simpa using hj
theorem a3T {t by_:Nat} {z:Value} {arr:Array Value} {s x:Operand} (T:SliceT P t e sz by_ z) (hzs:z.cells.size=sz) (hR:Elem R sz) (hbase:base<=w.heap.size) (hX:∀k,X k=true->k<w.heap.size)
  (hs:a.eval s= .slice ao l.length cap) (hx:a.eval x= .slice (some ⟨w.heap.size,0,none⟩) 1 1) (h:OL R sz X base e w ao cap l)
  (u:Value) (y:α) (harr:arr=u.cells) (hu:R (mk (un X ao) w) u y) (hroom:(l.length+1)*by_<=140737488355328) (hmax:l.length+1<=9223372036854775807)
  (K:∀ao' cap' w',OL R sz X base e w' ao' cap' (l++[y])->ExtX (ob ao) w w'->(ao'=ao\/∃g,ao'=some ⟨g,0,none⟩/\w.heap.size<=g)->wpList P ops Q rest (a.put d (.slice ao' (l++[y]).length cap')) w'):
  wpList P ops Q (⟨d, .call {callee:= .builtin .append,args:=#[s,x],argTypes:=#[t,t]},ty,ps,af,none⟩::rest) a (w.alloc (.cells arr e)):=by
 refine wpList_plain rfl fun K' hK'=>?_;have hE:Ext w (w.alloc (.cells arr e)):=(ExtX.refl w).alloc _;have hsz:w.heap.size+1=(w.alloc (.cells arr e)).heap.size:=by simp
 obtain⟨ao',cap',w',hr,h2,h3,h4⟩:=(h.ext0 hR hE).run_append (P:=P) T hzs hR (by omega) (fun k hk=>by have:=hX k hk;omega) (some ⟨w.heap.size,0,none⟩) 1 [u] [y] (b1i w arr e u harr) rfl
  (fun i hi _=>by
           have:i=0:=by simpa using hi
           subst this;exact hR.mono _ _ _ _ (a0p hE) hu) (by simpa using hroom) (by simpa using hmax) ty
 unfold Oper.wp execOp;simp only[resolve,invoke,builtin,Sem.run_bind,Sem.run_pure,Result.andThen_ok,List.map_toArray,List.map_cons,List.map_nil,hs,hx];rw[show([y]:List α).length=1 from rfl]at hr;rw[hr];refine hK' _ _ (K ao' cap' w' h2 ((ExtX.of hE).trans h3) ?_);rcases h4 with h4|⟨g,h4,h5⟩
 ·exact .inl h4
 ·exact .inr ⟨g,h4,by omega⟩
theorem a3U {t by_:Nat} {z:Value} {s x:Operand} {asl:Option Addr} {cs:Nat} (T:SliceT P t e sz by_ z) (hzs:z.cells.size=sz) (hR:Elem R sz) (hbase:base<=w.heap.size) (hX:∀k,X k=true->k<w.heap.size)
  (xs:List α) (hs:a.eval s= .slice ao l.length cap) (hx:a.eval x= .slice asl xs.length cs) (h:OL R sz X base e w ao cap l)
  (hxs:Sl R sz (mk (un X ao) w) asl xs) (hroom:(l.length+xs.length)*by_<=140737488355328) (hmax:l.length+xs.length<=9223372036854775807)
  (K:∀ao' cap' w',OL R sz X base e w' ao' cap' (l++xs)->ExtX (ob ao) w w'->(ao'=ao\/∃g,ao'=some ⟨g,0,none⟩/\w.heap.size<=g)->wpList P ops Q rest (a.put d (.slice ao' (l++xs).length cap')) w'):
  wpList P ops Q (⟨d, .call {callee:= .builtin .append,args:=#[s,x],argTypes:=#[t,t]},ty,ps,af,none⟩::rest) a w:=by
 refine wpList_plain rfl fun K' hK'=>?_;obtain⟨us,h1,h2,h3⟩:=hxs.at_ hR;obtain⟨ao',cap',w',hr,h2,h3,h4⟩:=h.run_append (P:=P) T hzs hR hbase hX asl cs us xs h2 h1 h3 hroom hmax ty;unfold Oper.wp execOp;simp only[resolve,invoke,builtin,Sem.run_bind,Sem.run_pure,Result.andThen_ok,List.map_toArray,List.map_cons,List.map_nil,hs,hx,hr];exact hK' _ _ (K ao' cap' w' h2 h3 h4)
theorem a2C {t by_:Nat} {z:Value} {x y:Operand} {kl kc:IntKind} {m:Int} (T:SliceT P t e sz by_ z) (hR:Elem R sz) (x0:α) (hz:∀h,R h z x0) (X:Nat->Bool) (hX:∀k,X k=true->k<w.heap.size) (base:Nat) (hbase:base<=w.heap.size)
  (n:Nat) (hl:a.eval x= .int kl m) (hc:a.eval y= .int kc m) (hm:m=(n:Int)) (hroom:by_*n<=281474976710656) (hmax:n<=9223372036854775807)
  (K:∀ao w',OL R sz X base e w' ao n (List.replicate n x0)->Ext w w'->wpList P ops Q rest (a.put d (.slice ao n n)) w'):
  wpList P ops Q (⟨d, .makeSlice t x y,ty,ps,af,none⟩::rest) a w:=by
 refine wpList_plain rfl fun K' hK'=>?_;subst hm;obtain⟨ao,w',hr,h2,h3⟩:=OL.run_make (P:=P) T hR x0 hz hX hbase kl kc n hroom hmax;unfold Oper.wp;simp[execOp,hl,hc,hr,Result.andThen];exact hK' _ _ (K ao w' h2 h3)
theorem a3V {t:TypeId} {x y:Operand} {k:Nat} (hT:TyI P t sz) (hR:Elem R sz) (i:Nat) (hx:a.eval x= .pointer (some (adr ao k))) (hk:k=i*sz)
  (h:OL R sz X base e w ao cap l) (hi:i<l.length) (u:Value) (v:α) (hy:a.eval y=u) (hu:R (mk (un X ao) w) u v)
  (K:∀w',OL R sz X base e w' ao cap (l.set i v)->ExtX (ob ao) w w'->wpList P ops Q rest (a.put d undef) w'):
  wpList P ops Q (⟨d, .store t x y,ty,ps,af,none⟩::rest) a w:=by
 refine wpList_plain rfl fun K' hK'=>?_;subst hk;obtain⟨ti,ht,hts⟩:=hT;obtain⟨w',hr,h2,h3⟩:=h.run_store (P:=P) ht hts hR i hi u v hu;unfold Oper.wp;simp[execOp,hx,hy,Instr.storeAt,Instr.sureAddr,hr,Result.andThen];exact hK' _ _ (K w' h2 h3)
def a2r (ao:Option Addr) (i m sz:Nat):Option Addr:=if m=i then ao else ao.map (·.add (i*sz))
theorem Sl.sub {h:Mem} (s:Sl R sz h ao l) (i j m:Nat) (hij:i<=j) (hjm:j<=m) (hjl:j<=l.length):Sl R sz h (a2r ao i m sz) ((l.take j).drop i):=by
 refine⟨fun hn=>?_,fun k hk=>?_⟩
 ·simp at hn
  obtain⟨b,off,rfl⟩:=s.1 (by omega);have hm:¬m=i:=by omega
  simp[a2r,hm,Addr.add_lit]
 ·simp at hk
  obtain⟨b,off,rfl⟩:=s.1 (by omega);have hm:¬m=i:=by omega
  obtain⟨u,h1,h2,h3⟩:=s.2 (i+k) (by omega);refine⟨u,h1,fun q hq=>?_,by simpa using h3⟩;have:=h2 q hq;simp only[a2r,hm,if_false,Option.map_some,Addr.add_lit,adr,Option.getD_some]at this |-;rw[<-this,Nat.add_mul]
  congr 2
  omega
theorem a5S {t by_:Nat} {z:Value} (T:SliceT P t e sz by_ z) (len cap:Nat) (k1:IntKind) (i:Nat) (h1:i<=len) (_h2:len<=cap) (w:World):
  (Instr.sliceAt t (.slice ao len cap) (some (.int k1 (i:Int))) none none).run P w= .ok (.slice (a2r ao i cap sz) (len - i) (cap - i)) w:=by
 obtain⟨ti,hi,hz,hsz,hby⟩:=info_parts T.info;have h1':(i:Int)<=len:=by omega
 simp[Instr.sliceAt,Instr.slice,run_underlying T.und,Instr.sliceBounds,run_sliceBound,h1',sizeOf,typeInfo,hi,hsz,a2r]
theorem a7V {t by_:Nat} {z:Value} (T:SliceT P t e sz by_ z) (len cap:Nat) (k1 k2:IntKind) (i j:Nat) (h1:i<=j) (h2:j<=cap) (w:World):
  (Instr.sliceAt t (.slice ao len cap) (some (.int k1 (i:Int))) (some (.int k2 (j:Int))) none).run P w= .ok (.slice (a2r ao i cap sz) (j - i) (cap - i)) w:=by
 obtain⟨ti,hi,hz,hsz,hby⟩:=info_parts T.info;have h1':(i:Int)<=j:=by omega
 have h2':(j:Int)<=cap:=by omega
 simp[Instr.sliceAt,Instr.slice,run_underlying T.und,Instr.sliceBounds,run_sliceBound,h1',h2',sizeOf,typeInfo,hi,hsz,a2r]
theorem b6n {t by_:Nat} {z:Value} {x lo:Operand} {k1:IntKind} {m:Int} {M:Mem} (T:SliceT P t e sz by_ z) (i:Nat) (hx:a.eval x= .slice ao l.length cap) (hlo:a.eval lo= .int k1 m) (hm:m=(i:Int))
  (h:Sl R sz M ao l) (hi:i<=l.length) (hc:l.length<=cap)
  (K:∀ao',Sl R sz M ao' (l.drop i)->wpList P ops Q rest (a.put d (.slice ao' (l.drop i).length (cap - i))) w):
  wpList P ops Q (⟨d, .slice t x (some lo) none none,ty,ps,af,none⟩::rest) a w:=by
 refine wpList_plain rfl fun K' hK'=>?_;subst hm;have hr:=a5S (P:=P) (ao:=ao) T l.length cap k1 i hi hc w;have hs:=h.sub i l.length cap hi hc (Nat.le_refl _);rw[List.take_length]at hs;have:=K _ hs;rw[List.length_drop]at this;unfold Oper.wp;simp[execOp,hx,hlo,hr,Result.andThen];exact hK' _ _ this
theorem a0W {t:TypeId} {x y:Operand} {k:Nat} {kd:IntKind} {l:List Nat} {m:Int} (hT:TyI P t 1) (i:Nat) (v:Nat) (hx:a.eval x= .pointer (some (adr ao k))) (hk:k=i)
  (h:OL (a0d kd) 1 X base e w ao cap l) (hi:i<l.length) (hy:a.eval y= .int kd m) (hm:m=(v:Int))
  (K:∀w',OL (a0d kd) 1 X base e w' ao cap (l.set i v)->ExtX (ob ao) w w'->wpList P ops Q rest (a.put d undef) w'):
  wpList P ops Q (⟨d, .store t x y,ty,ps,af,none⟩::rest) a w:=
 a3V hT (a0d.elem kd) i hx (by omega) h hi (.int kd m) v hy (by rw[hm];rfl) K
theorem OL.set1 {t:TypeId} (hT:TyI P t 1) (hR:Elem R 1) (h1c:a3h R) (h:OL R 1 X base e w ao cap l) (i:Nat) (hi:i<l.length) (u:Value) (x:α) (hu:R (mk (un X ao) w) u x):
  OL R 1 X base e (w.setCell (adr ao i) u) ao cap (l.set i x)/\ExtX (ob ao) w (w.setCell (adr ao i) u):=by
 obtain⟨ti,ht,hts⟩:=hT;obtain⟨v,hc,hf,_⟩:=h.cell h1c i hi;obtain⟨w',hr,h2,h3⟩:=h.run_store (P:=P) ht hts hR i hi u x hu;have hcells:=h1c _ _ _ hu;have hone:=hR.one _ _ _ hu u (by simp[a0j,hcells]);rw[Nat.mul_one]at hr;have hw:w'=w.setCell (adr ao i) u:=by
  simp only[storeVar,sizeOf,typeInfo,Sem.run_bind]at hr;cases u<;>simp[Value.oneCell']at hone<;>simp[program,Sem.run,ht,hts,Result.andThen,Value.cells,storeCells,store,Addr.add_zero',hc,hf]at hr<;>exact hr.symm
 subst hw;exact⟨h2,h3⟩
end
end Go.Rep
namespace Go.Proofs.YtidbbddagfnfbaaGreat
open Go.RowKit Go.Rep
theorem a0R:SliceT Tryz.prog 41 147 1 4 (.int .u32 0):=⟨Tryz.underlying41,by kernel_rfl⟩
theorem a4o:SliceT Tryz.prog 22 3 1 8 (.int .i64 0):=⟨Tryz.underlying22,by kernel_rfl⟩
theorem b8r:(Tryz.prog.info? 147).map (fun i=>(i.zero,i.size,i.bytes))=some (some (.int .u32 0),1,4):=by kernel_rfl
theorem b8s:(Tryz.prog.info? 3).map (fun i=>(i.zero,i.size,i.bytes))=some (some (.int .i64 0),1,8):=by kernel_rfl
theorem a3w:TyI Tryz.prog 147 1:=let ⟨i,h,_,h2,_⟩:=info_parts b8r;⟨i,h,h2⟩
theorem b0y:TyI Tryz.prog 3 1:=let ⟨i,h,_,h2,_⟩:=info_parts b8s;⟨i,h,h2⟩
end Go.Proofs.YtidbbddagfnfbaaGreat
namespace Go.Lim
theorem c0C:∃n:Nat,n=4294967296:=⟨_,rfl⟩
noncomputable def B:Nat:=Classical.choose c0C
theorem a1l:B=4294967296:=Classical.choose_spec c0C
theorem a2m:0<B:=by rw[a1l];decide
noncomputable def nv:List Nat->Nat
 | []=>0
 |d::l=>d+B*nv l
def Dig (l:List Nat):Prop:=∀d∈l,d<B
def a1u (l:List Nat):Bool:= !(l.getLast?==some 0)
def vl (l:List Nat):List Nat:=if a1u l then l else[]
noncomputable def val (l:List Nat):Nat:=nv (vl l)
def a0I (l:List Nat) (n:Nat):Prop:=Dig l/\a1u l=true/\nv l=n
theorem a3x (a b:List Nat):nv (a++b)=nv a+B^a.length*nv b:=by
 induction a with
 |nil=>simp[nv]
 |cons d a ih=>simp only[List.cons_append,nv,ih,List.length_cons,Nat.pow_succ,Nat.mul_add];rw[Nat.mul_comm (B^a.length) B,Nat.mul_assoc,Nat.add_assoc]
theorem a1P (a:List Nat) (d:Nat):nv (a++[d])=nv a+B^a.length*d:=by rw[a3x];simp[nv]
theorem a9G (n:Nat):nv (List.replicate n 0)=0:=by
 induction n with
 |zero=>rfl
 |succ n ih=>simp[List.replicate_succ,nv,ih]
theorem Dig.nil:Dig []:=by intro d h;simp at h
theorem Dig.cons {d:Nat} {l:List Nat} (hd:d<B) (h:Dig l):Dig (d::l):=by
 intro x hx;rcases List.mem_cons.1 hx with rfl|hx
 ·exact hd
 ·exact h x hx
theorem Dig.append {a b:List Nat} (ha:Dig a) (hb:Dig b):Dig (a++b):=by
 intro x hx;rcases List.mem_append.1 hx with h|h
 ·exact ha x h
 ·exact hb x h
theorem Dig.take {a:List Nat} (ha:Dig a) (n:Nat):Dig (a.take n):=fun x hx=>ha x (List.mem_of_mem_take hx)
theorem Dig.drop {a:List Nat} (ha:Dig a) (n:Nat):Dig (a.drop n):=fun x hx=>ha x (List.mem_of_mem_drop hx)
theorem Dig.get {a:List Nat} (ha:Dig a) (i:Nat) (h:i<a.length):a[i]<B:=ha _ (List.getElem_mem h)
theorem Dig.set {a:List Nat} (ha:Dig a) (i d:Nat) (hd:d<B):Dig (a.set i d):=by
 intro x hx;rcases List.mem_or_eq_of_mem_set hx with h|rfl
 ·exact ha x h
 ·exact hd
theorem Dig.zeros (n:Nat):Dig (List.replicate n 0):=by intro x hx;rw[List.eq_of_mem_replicate hx];exact a2m
theorem a4w {l:List Nat} (h:Dig l):nv l<B^l.length:=by
 induction l with
 |nil=>simp[nv]
 |cons d l ih=>
  have h1:=ih (fun x hx=>h x (List.mem_cons_of_mem _ hx));have h2:=h d (List.mem_cons_self ..);simp only[nv,List.length_cons,Nat.pow_succ];have:B*nv l+B<=B^l.length*B:=by rw[<-Nat.mul_succ,Nat.mul_comm];exact Nat.mul_le_mul_right _ h1
  omega
theorem a4p (l:List Nat) (d:Nat):a1u (l++[d])=(d !=0):=by simp[a1u,bne]
theorem a3j {l:List Nat} (h:0<l.length):a1u l=(l[l.length - 1] !=0):=by
 unfold a1u;rw[List.getLast?_eq_getElem?,List.getElem?_eq_getElem (by omega)];simp[bne]
theorem b3A (l:List Nat):a1u (vl l)=true:=by
 unfold vl;split
 ·assumption
 ·rfl
theorem b8t {l:List Nat} (h:Dig l):Dig (vl l):=by
 unfold vl;split
 ·exact h
 ·exact Dig.nil
theorem b8u (l:List Nat):(vl l).length<=l.length:=by unfold vl;split<;>simp
theorem a4x {l:List Nat} (h:Dig l):a0I (vl l) (val l):=⟨b8t h,b3A l,rfl⟩
theorem a0I.vl {l:List Nat} {n:Nat} (h:a0I l n):vl l=l:=by unfold Lim.vl;rw[h.2.1];rfl
theorem a0I.val {l:List Nat} {n:Nat} (h:a0I l n):val l=n:=by unfold Lim.val;rw[h.vl];exact h.2.2
theorem a0I.nil:a0I [] 0:=⟨Dig.nil,rfl,rfl⟩
theorem a8O {P:List Nat->Prop} (h0:P []) (hs:∀l d,P l->P (l++[d])) (l:List Nat):P l:=by
 have:∀m:List Nat,P m.reverse:=by
  intro m
  induction m with
  |nil=>exact h0
  |cons d m ih=>rw[List.reverse_cons];exact hs _ _ ih
 simpa using this l.reverse
def Cut (l:List Nat) (k:Nat):Prop:=k<=l.length/\nv (l.take k)=nv l
theorem Cut.all (l:List Nat):Cut l l.length:=⟨Nat.le_refl _,by rw[List.take_length]⟩
theorem Cut.less {l:List Nat} {k:Nat} (h:Cut l k) (hk:0<k) (h0:l[k - 1]'(by have:=h.1;omega)=0):Cut l (k - 1):=by
 refine⟨by have:=h.1;omega,?_⟩;have h1:=h.1;have e:l.take k=l.take (k - 1)++[l[k - 1]'(by omega)]:=by
  conv=>lhs;rw[show k=(k - 1)+1 from by omega]
  exact List.take_succ_eq_append_getElem (by omega)
 rw[<-h.2,e,a1P,h0];simp
theorem Cut.canon {l:List Nat} {k:Nat} (h:Cut l k) (hd:Dig l) (hv:k=0\/∃h':k - 1<l.length,l[k - 1]≠0):a0I (l.take k) (nv l):=by
 refine⟨hd.take k,?_,h.2⟩;have h1:=h.1;rcases hv with rfl|⟨h',h2⟩
 ·rfl
 ·by_cases hk:k=0
  ·subst hk;rfl
  rw[a3j (by simp;omega)];have:(l.take k).length=k:=by simp;omega
  simp[this,h2]
theorem a0I.unique {a b:List Nat} {n:Nat} (ha:a0I a n) (hb:a0I b n):a=b:=by
 induction a generalizing b n with
 |nil=>
  obtain⟨h1,h2,h3⟩:=hb;have hn:n=0:=ha.2.2.symm;subst hn;clear ha
  induction b using a8O with
  |h0=>rfl
  |hs l d ih=>
   rw[a1P]at h3;rw[a4p]at h2;have:0<B^l.length:=Nat.pow_pos a2m;have hd:0<d:=by simp at h2;omega
   have:=Nat.mul_pos this hd;omega
 |cons d a ih=>
  have cv:∀{d:Nat} {l:List Nat},a1u (d::l)=true->a1u l=true:=by
   intro d l h;cases l with
   |nil=>rfl
   |cons x l=>simpa[a1u]using h
  obtain⟨h1,h2,h3⟩:=ha;obtain⟨g1,g2,g3⟩:=hb;cases b with
  |nil=>
   have hn:n=0:=g3.symm;have:a0I (d::a) 0:=⟨h1,h2,by rw[h3,hn]⟩;clear ih
   exfalso
   have key:∀l:List Nat,a0I l 0->l= []:=by
    intro l
    induction l using a8O with
    |h0=>intro _;rfl
    |hs l d _=>
     rintro ⟨_,k2,k3⟩;rw[a1P]at k3;rw[a4p]at k2;have p1:0<B^l.length:=Nat.pow_pos a2m;have hd:0<d:=by simp at k2;omega
     have:=Nat.mul_pos p1 hd;omega
   simpa using key _ this
  |cons c b=>
   have hd:=h1 d (List.mem_cons_self ..);have hc:=g1 c (List.mem_cons_self ..);simp only[nv]at h3 g3;have e:d+B*nv a=c+B*nv b:=by omega
   have hdc:d=c:=by
    have:=congrArg (· %B) e;simpa[Nat.add_mul_mod_self_left,Nat.mod_eq_of_lt hd,Nat.mod_eq_of_lt hc]using this
   subst hdc;have:B*nv a=B*nv b:=by omega
   have hab:nv a=nv b:=Nat.eq_of_mul_eq_mul_left a2m this;rw[ih (n:=nv a) (b:=b) ⟨fun x hx=>h1 x (List.mem_cons_of_mem _ hx),cv h2,rfl⟩ ⟨fun x hx=>g1 x (List.mem_cons_of_mem _ hx),cv g2,hab.symm⟩]
def a4y (a b o:List Nat) (i c:Nat):Prop:=o.length=a.length+1/\Dig o/\c<=1/\nv (o.take i)+B^i*c=nv (a.take i)+nv (b.take i)
theorem a1s (o:List Nat) (i d:Nat) (h:i<o.length):(o.set i d).take (i+1)=o.take i++[d]:=by
 rw[List.take_succ_eq_append_getElem (by simpa using h),List.take_set,List.getElem_set_self]
 congr 1
 rw[List.set_eq_of_length_le (by simp;omega)]
theorem a0F (a:List Nat) (i:Nat) (h:i<a.length):nv (a.take (i+1))=nv (a.take i)+B^i*a[i]:=by
 rw[List.take_succ_eq_append_getElem h,a1P];congr 3;simp;omega
theorem a6L (a:List Nat) (i:Nat) (h:a.length<=i):nv (a.take (i+1))=nv (a.take i):=by
 rw[List.take_of_length_le (by omega),List.take_of_length_le h]
theorem a4y.start (a b:List Nat):a4y a b (List.replicate (a.length+1) 0) 0 0:=⟨by simp,Dig.zeros _,by omega,by simp[nv]⟩
theorem a4y.step {a b o:List Nat} {i c y:Nat} (h:a4y a b o i c) (hi:i<a.length) (hy:(∃h:i<b.length,b[i]=y)\/(b.length<=i/\y=0)) (ha:Dig a) (hb:Dig b):
  a4y a b (o.set i ((a[i]+y+c)%4294967296)) (i+1) ((a[i]+y+c)/4294967296):=by
 obtain⟨h1,h2,h3,h4⟩:=h;have hai:=ha.get i hi;have hyB:y<B:=by
  rcases hy with⟨h,rfl⟩|⟨_,rfl⟩
  ·exact hb.get i h
  ·exact a2m
 rw[a1l]at hai hyB;refine⟨by simpa using h1,h2.set _ _ (by rw[a1l];exact Nat.mod_lt _ (by decide)),by omega,?_⟩;have hb2:nv (b.take (i+1))=nv (b.take i)+B^i*y:=by
  rcases hy with⟨h,rfl⟩|⟨h,rfl⟩
  ·exact a0F b i h
  ·rw[a6L b i h];simp
 rw[a1s o i _ (by omega),a1P,a0F a i hi,hb2,List.length_take,Nat.min_eq_left (by omega),Nat.pow_succ,Nat.mul_assoc];have e:(a[i]+y+c)%4294967296+B*((a[i]+y+c)/4294967296)=a[i]+y+c:=by rw[a1l];omega
 have e2:B^i*((a[i]+y+c)%4294967296)+B^i*(B*((a[i]+y+c)/4294967296))=B^i*a[i]+B^i*y+B^i*c:=by rw[<-Nat.mul_add,e,Nat.mul_add,Nat.mul_add]
 omega
theorem a4y.done {a b o:List Nat} {c:Nat} (h:a4y a b o a.length c) (hab:b.length<=a.length):Dig (o.set a.length c)/\nv (o.set a.length c)=nv a+nv b/\(o.set a.length c).length=a.length+1:=by
 obtain⟨h1,h2,h3,h4⟩:=h;refine⟨h2.set _ _ (by rw[a1l];omega),?_,by simpa using h1⟩;have e:o.set a.length c=(o.set a.length c).take (a.length+1):=by rw[List.take_of_length_le (by simp;omega)]
 rw[e,a1s o _ _ (by omega),a1P,List.length_take,Nat.min_eq_left (by omega),h4,List.take_of_length_le (Nat.le_refl _),List.take_of_length_le hab]
def lg (n:Nat):Nat:=if n=0 then 0 else Nat.log2 n/32+1
theorem b3B (m:Nat):B^m=2^(32*m):=by rw[Nat.pow_mul,a1l]
theorem a2J {n m:Nat}:lg n<=m↔n<B^m:=by
 unfold lg;by_cases h:n=0
 ·subst h;simp[Nat.pow_pos a2m]
 ·rw[if_neg h,b3B,<-Nat.log2_lt h];omega
theorem a0I.len {l:List Nat} {n:Nat} (h:a0I l n):l.length=lg n:=by
 have h1:lg n<=l.length:=a2J.2 (by rw[<-h.2.2];exact a4w h.1);obtain⟨hd,hv,rfl⟩:=h
 induction l using a8O with
 |h0=>rfl
 |hs l d _=>
  rw[a4p]at hv;have hd:0<d:=by simp at hv;omega
  have:¬lg (nv (l++[d]))<=l.length:=by
   rw[a2J,a1P];have:=Nat.mul_le_mul_left (B^l.length) hd;omega
  simp at h1 |-;omega
theorem a5T:lg 0=0:=rfl
theorem a1h {a b:Nat} (h:a<=b):lg a<=lg b:=a2J.2 (Nat.lt_of_le_of_lt h (a2J.1 (Nat.le_refl _)))
theorem a9H (a b:Nat):lg (a+b)<=max (lg a) (lg b)+1:=by
 rw[a2J];have h1:=(a2J (n:=a) (m:=max (lg a) (lg b))).1 (Nat.le_max_left _ _);have h2:=(a2J (n:=b) (m:=max (lg a) (lg b))).1 (Nat.le_max_right _ _);rw[Nat.pow_succ];have:0<B^max (lg a) (lg b):=Nat.pow_pos a2m;have:=a1l;generalize B^max (lg a) (lg b)=p at*;rw[a1l];omega
theorem a0X (a b:Nat):lg (a*b)<=lg a+lg b:=by
 rw[a2J,Nat.pow_add];exact Nat.mul_lt_mul'' (a2J.1 (Nat.le_refl _)) (a2J.1 (Nat.le_refl _))
theorem b5y {a:Nat} (h:0<a):0<lg a:=by unfold lg;rw[if_neg (by omega)];omega
theorem b1j (l:List Nat) (h:Dig l):lg (val l)<=l.length:=by
 have:=(a4x h).len;have:=b8u l;omega
def a2R (a b:Nat):Int:=if a<b then -1 else if b<a then 1 else 0
theorem a4g {a b:List Nat} {m n:Nat} (ha:a0I a m) (hb:a0I b n) (h:a.length<b.length):a2R m n= -1:=by
 have:m<n:=by
  rcases Nat.lt_or_ge m n with h1|h1
  ·exact h1
  ·have:=a1h h1;rw[<-ha.len,<-hb.len]at this;omega
 simp[a2R,this]
theorem a4h {a b:List Nat} {m n:Nat} (ha:a0I a m) (hb:a0I b n) (h:b.length<a.length):a2R m n=1:=by
 have:n<m:=by
  rcases Nat.lt_or_ge n m with h1|h1
  ·exact h1
  ·have:=a1h h1;rw[<-ha.len,<-hb.len]at this;omega
 simp[a2R,this,Nat.lt_asymm this]
theorem a2b (a:List Nat) (k:Nat) (hk:k<=a.length):nv a=nv (a.take k)+B^k*nv (a.drop k):=by
 have:=a3x (a.take k) (a.drop k);rw[List.take_append_drop,List.length_take,Nat.min_eq_left hk]at this;exact this
theorem a5U {a b:List Nat} (ha:Dig a) {k:Nat} (hl:a.length=b.length) (h0:0<k) (hk:k<=a.length) (hd:a.drop k=b.drop k) (h:a[k - 1]'(by omega)<b[k - 1]'(by omega)):nv a<nv b:=by
 rw[a2b a k hk,a2b b k (by omega),hd];have ha1:=a0F a (k - 1) (by omega);have hb1:=a0F b (k - 1) (by omega);rw[show k - 1+1=k from by omega]at ha1 hb1;have h1:=a4w (ha.take (k - 1));rw[List.length_take,Nat.min_eq_left (by omega)]at h1;have h2:B^(k - 1)*a[k - 1]'(by omega)+B^(k - 1)<=B^(k - 1)*b[k - 1]'(by omega):=by rw[<-Nat.mul_succ];exact Nat.mul_le_mul_left _ h
 omega
theorem a6M {a b:List Nat} {m n k:Nat} (ha:a0I a m) (hb:a0I b n) (hl:a.length=b.length) (h0:0<k) (hk:k<=a.length) (hd:a.drop k=b.drop k) (h:a[k - 1]'(by omega)<b[k - 1]'(by omega)):a2R m n= -1:=by
 have:=a5U ha.1 hl h0 hk hd h;rw[ha.2.2,hb.2.2]at this;simp[a2R,this]
theorem a6N {a b:List Nat} {m n k:Nat} (ha:a0I a m) (hb:a0I b n) (hl:a.length=b.length) (h0:0<k) (hk:k<=a.length) (hd:a.drop k=b.drop k) (h:b[k - 1]'(by omega)<a[k - 1]'(by omega)):a2R m n=1:=by
 have:=a5U hb.1 hl.symm h0 (by omega) hd.symm h;rw[ha.2.2,hb.2.2]at this;simp[a2R,this,Nat.lt_asymm this]
theorem a5s {a b:List Nat} {k:Nat} (hl:a.length=b.length) (h0:0<k) (hk:k<=a.length) (hd:a.drop k=b.drop k) (h:a[k - 1]'(by omega)=b[k - 1]'(by omega)):a.drop (k - 1)=b.drop (k - 1):=by
 have h1:=List.drop_eq_getElem_cons (l:=a) (i:=k - 1) (by omega);have h2:=List.drop_eq_getElem_cons (l:=b) (i:=k - 1) (by omega);rw[h1,h2,show k - 1+1=k from by omega,hd,h]
theorem a6O {a b:List Nat} {m n k:Nat} (ha:a0I a m) (hb:a0I b n) (hk:k=0) (hd:a.drop k=b.drop k):a2R m n=0:=by
 subst hk;have:a=b:=by simpa using hd
 have:m=n:=by rw[<-ha.2.2,<-hb.2.2,this]
 simp[a2R,this]
theorem a3y (a b:Nat):a2R a b<0↔a<b:=by unfold a2R;split<;>(try split)<;>simp_all
theorem b6o (a b:Nat):a2R a b=0↔a=b:=by unfold a2R;split<;>(try split)<;>simp_all<;>omega
def a2y (l q:List Nat) (d k r:Nat):Prop:=q.length=l.length/\Dig q/\r<d/\nv (l.drop k)=d*nv (q.drop k)+r
theorem a2y.start (l:List Nat) (d:Nat) (hd:0<d):a2y l (List.replicate l.length 0) d l.length 0:=
 ⟨by simp,Dig.zeros _,hd,by simp[nv]⟩
theorem a7g (q:List Nat) (k x:Nat) (h0:0<k) (hk:k<=q.length):(q.set (k - 1) x).drop (k - 1)=x::q.drop k:=by
 rw[List.drop_eq_getElem_cons (by simp;omega),List.getElem_set_self,show k - 1+1=k from by omega,List.drop_set_of_lt (by omega)]
theorem a2y.step {l q:List Nat} {d k r:Nat} (h:a2y l q d k r) (h0:0<k) (hk:k<=l.length) (hl:Dig l):
  a2y l (q.set (k - 1) ((r*4294967296+l[k - 1])/d)) d (k - 1) ((r*4294967296+l[k - 1])%d):=by
 obtain⟨h1,h2,h3,h4⟩:=h;have hlk:=hl.get (k - 1) (by omega);rw[a1l]at hlk;have hx:(r*4294967296+l[k - 1])/d<4294967296:=by
  rw[Nat.div_lt_iff_lt_mul (by omega)];have:(r+1)*4294967296<=d*4294967296:=Nat.mul_le_mul_right _ h3;rw[Nat.mul_comm 4294967296 d];omega
 refine⟨by simpa using h1,h2.set _ _ (by rw[a1l];exact hx),Nat.mod_lt _ (by omega),?_⟩;rw[a7g q k _ h0 (by omega),List.drop_eq_getElem_cons (l:=l) (i:=k - 1) (by omega),show k - 1+1=k from by omega];simp only[nv];rw[h4];have e:=Nat.div_add_mod (r*4294967296+l[k - 1]) d;rw[a1l];generalize (r*4294967296+l[k - 1])/d=x at*;generalize (r*4294967296+l[k - 1])%d=y at*;generalize nv (q.drop k)=z at*;have e2:4294967296*(d*z+r)=d*(4294967296*z)+r*4294967296:=by rw[Nat.mul_add,<-Nat.mul_assoc,<-Nat.mul_assoc,Nat.mul_comm 4294967296 d,Nat.mul_comm 4294967296 r]
 rw[e2,Nat.mul_add];omega
theorem a2y.done {l q:List Nat} {d r:Nat} (h:a2y l q d 0 r):nv q=nv l/d/\r=nv l%d:=by
 obtain⟨h1,h2,h3,h4⟩:=h;simp only[List.drop_zero]at h4;rw[h4,Nat.mul_add_div (by omega),Nat.div_eq_of_lt h3,Nat.mul_add_mod,Nat.mod_eq_of_lt h3];exact⟨rfl,rfl⟩
theorem b5z (o:List Nat) (k d:Nat) (h:k<o.length):nv (o.set k d)+B^k*o[k]=nv o+B^k*d:=by
 induction o generalizing k with
 |nil=>simp at h
 |cons x o ih=>
  match k with
  |0=>simp[nv];omega
  |k+1=>
   have:=ih k (by simpa using h);simp only[List.set_cons_succ,nv,List.getElem_cons_succ,Nat.pow_succ];have e1:B^k*B*o[k]'(by simpa using h)=B*(B^k*o[k]'(by simpa using h)):=by rw[Nat.mul_comm (B^k) B,Nat.mul_assoc]
   have e2:B^k*B*d=B*(B^k*d):=by rw[Nat.mul_comm (B^k) B,Nat.mul_assoc]
   rw[e1,e2,Nat.add_assoc,<-Nat.mul_add,this,Nat.mul_add,Nat.add_assoc]
def a2w (a b o:List Nat) (i j c:Nat):Prop:=o.length=a.length+b.length/\Dig o/\c<B/\(∀p (h:p<o.length),i+b.length<=p->o[p]=0)/\
 nv o+B^(i+j)*c=nv (a.take i)*nv b+(a.getD i 0)*B^i*nv (b.take j)
theorem a2w.start (a b:List Nat):a2w a b (List.replicate (a.length+b.length) 0) 0 0 0:=
 ⟨by simp,Dig.zeros _,a2m,by simp,by simp[nv,a9G]⟩
theorem a2w.step {a b o:List Nat} {i j c:Nat} (h:a2w a b o i j c) (hi:i<a.length) (hj:j<b.length) (ha:Dig a) (hb:Dig b) (hij:i+j<o.length):
  a2w a b (o.set (i+j) ((c+(a[i]*b[j]+o[i+j]))%4294967296)) i (j+1) ((c+(a[i]*b[j]+o[i+j]))/4294967296)/\c+(a[i]*b[j]+o[i+j])<18446744073709551616/\a[i]*b[j]+o[i+j]<18446744073709551616/\a[i]*b[j]<18446744073709551616:=by
 obtain⟨h1,h2,h3,h4,h5⟩:=h;have hai:=ha.get i hi;have hbj:=hb.get j hj;have hoj:=h2.get (i+j) hij;rw[a1l]at hai hbj hoj h3;have hm:a[i]*b[j]<=4294967295*4294967295:=Nat.mul_le_mul (by omega) (by omega);have hs:=b5z o (i+j) ((c+(a[i]*b[j]+o[i+j]))%4294967296) hij;have hD:a.getD i 0=a[i]:=by simp[List.getD,hi]
 refine⟨⟨by simpa using h1,h2.set _ _ (by rw[a1l];exact Nat.mod_lt _ (by decide)),by rw[a1l];omega,?_,?_⟩,by omega,by omega,by omega⟩
 ·intro p hp hpp
  rw[List.getElem_set,if_neg (by omega)];exact h4 p (by simpa using hp) hpp
 ·rw[hD]at h5 |-
  rw[a0F b j hj,show i+(j+1)=(i+j)+1 from rfl,Nat.pow_succ];have e:=Nat.div_add_mod (c+(a[i]*b[j]+o[i+j])) 4294967296;generalize (c+(a[i]*b[j]+o[i+j]))/4294967296=x at*;generalize (c+(a[i]*b[j]+o[i+j]))%4294967296=y at*;generalize nv (o.set (i+j) y)=no at*;have e3:B^(i+j)*B*x=B^(i+j)*(4294967296*x):=by rw[a1l,Nat.mul_assoc]
  have e4:a[i]*B^i*(nv (b.take j)+B^j*b[j])=a[i]*B^i*nv (b.take j)+B^(i+j)*(a[i]*b[j]):=by
   rw[Nat.mul_add,Nat.pow_add]
   congr 1
   ac_rfl
  rw[e3,e4];have e5:B^(i+j)*(4294967296*x)+B^(i+j)*y=B^(i+j)*c+(B^(i+j)*(a[i]*b[j])+B^(i+j)*o[i+j]):=by
   rw[<-Nat.mul_add,e,Nat.mul_add,Nat.mul_add]
  omega
theorem a2w.row {a b o:List Nat} {i c:Nat} (h:a2w a b o i b.length c) (hi:i<a.length):a2w a b (o.set (i+b.length) c) (i+1) 0 0:=by
 obtain⟨h1,h2,h3,h4,h5⟩:=h;have hs:=b5z o (i+b.length) c (by omega);have hz:=h4 (i+b.length) (by omega) (by omega);rw[hz,Nat.mul_zero,Nat.add_zero]at hs;have hD:a.getD i 0=a[i]:=by simp[List.getD,hi]
 refine⟨by simpa using h1,h2.set _ _ h3,a2m,?_,?_⟩
 ·intro p hp hpp
  rw[List.getElem_set,if_neg (by omega)];exact h4 p (by simpa using hp) (by omega)
 ·rw[List.take_zero,show nv []=0 from rfl,Nat.mul_zero,Nat.mul_zero,Nat.add_zero,Nat.add_zero,hs,h5,hD,List.take_of_length_le (Nat.le_refl b.length),a0F a i hi,Nat.add_mul,Nat.mul_comm (B^i) a[i]]
theorem a2w.done {a b o:List Nat} {c:Nat} (h:a2w a b o a.length 0 c) (hc:c=0):nv o=nv a*nv b:=by
 obtain⟨h1,h2,h3,h4,h5⟩:=h;subst hc;simpa[nv]using h5
theorem a2V {n:Nat} (h0:0<n) (h:n<4294967296):lg n=1:=by
 have h1:lg n<=1:=a2J.2 (by rw[Nat.pow_one,a1l];exact h);have:=b5y h0;omega
theorem b1k {l:List Nat} {n:Nat} (h:a0I l n) (h0:0<n) (h1:n<4294967296):l= [n]:=by
 have h2:=h.len;rw[a2V h0 h1]at h2
 match l,h2 with
 | [d],_=>have:=h.2.2;simp[nv]at this;rw[this]
theorem a9I {n:Nat} (h0:0<n) (h1:n<4294967296):a0I [n] n:=⟨Dig.cons (by rw[a1l];exact h1) Dig.nil,by simp[a1u];omega,by simp[nv]⟩
theorem a7h {l:List Nat} {n:Nat} (h:a0I l n):l= []↔n=0:=by
 constructor
 ·rintro rfl;exact h.2.2.symm
 ·intro hn;have:=h.len;rw[hn]at this;exact List.eq_nil_of_length_eq_zero this
theorem a2w.step' {a b o:List Nat} {i j c x y z:Nat} (h:a2w a b o i j c) (hi:i<a.length) (hj:j<b.length) (ha:Dig a) (hb:Dig b) (hij:i+j<o.length) (hx:a[i]=x) (hy:b[j]=y) (hz:o[i+j]=z):
  a2w a b (o.set (i+j) ((c+(x*y+z))%4294967296)) i (j+1) ((c+(x*y+z))/4294967296)/\c+(x*y+z)<18446744073709551616:=by
 subst hx;subst hy;subst hz;exact⟨(h.step hi hj ha hb hij).1,(h.step hi hj ha hb hij).2.1⟩
def a2S (a b o:List Nat) (i c:Nat):Prop:=o.length=i/\Dig o/\c<=1/\nv o+B^i*c=nv (a.take i)+nv (b.take i)
theorem a2S.start (a b:List Nat):a2S a b [] 0 0:=⟨rfl,Dig.nil,by omega,by simp[nv]⟩
theorem a1i (a:List Nat) (i:Nat):nv (a.take (i+1))=nv (a.take i)+B^i*a.getD i 0:=by
 by_cases h:i<a.length
 ·rw[a0F a i h];simp[List.getD,h]
 ·rw[a6L a i (by omega)];simp[List.getD,h]
theorem Dig.getD {a:List Nat} (ha:Dig a) (i:Nat):a.getD i 0<B:=by
 by_cases h:i<a.length
 ·simpa[List.getD,h]using ha.get i h
 ·simpa[List.getD,h]using a2m
theorem a2S.step {a b o:List Nat} {i c:Nat} (h:a2S a b o i c) (ha:Dig a) (hb:Dig b):
  a2S a b (o++[(a.getD i 0+b.getD i 0+c)%4294967296]) (i+1) ((a.getD i 0+b.getD i 0+c)/4294967296):=by
 obtain⟨h1,h2,h3,h4⟩:=h;have hx:=ha.getD i;have hy:=hb.getD i;have ea:=a1i a i;have eb:=a1i b i;unfold a2S;rw[ea,eb];clear ea eb;generalize a.getD i 0=x at*;generalize b.getD i 0=y at*;rw[a1l]at hx hy;refine⟨by simp[h1],h2.append (Dig.cons (by rw[a1l];exact Nat.mod_lt _ (by decide)) Dig.nil),by omega,?_⟩;rw[a1P,h1,Nat.pow_succ,Nat.mul_assoc];have e:(x+y+c)%4294967296+B*((x+y+c)/4294967296)=x+y+c:=by rw[a1l];omega
 have e2:B^i*((x+y+c)%4294967296)+B^i*(B*((x+y+c)/4294967296))=B^i*x+B^i*y+B^i*c:=by rw[<-Nat.mul_add,e,Nat.mul_add,Nat.mul_add]
 omega
theorem a2S.done {a b o:List Nat} {c m:Nat} (h:a2S a b o (m+1) c) (ha:Dig a) (hb:Dig b) (hal:a.length<=m) (hbl:b.length<=m):nv o=nv a+nv b:=by
 obtain⟨h1,h2,h3,h4⟩:=h;rw[List.take_of_length_le (by omega),List.take_of_length_le (by omega)]at h4;have ha1:=Nat.lt_of_lt_of_le (a4w ha) (Nat.pow_le_pow_right a2m hal);have hb1:=Nat.lt_of_lt_of_le (a4w hb) (Nat.pow_le_pow_right a2m hbl);rw[Nat.pow_succ]at h4;have hc:c=0:=by
  rcases Nat.eq_zero_or_pos c with h|h
  ·exact h
  ·exfalso
   have h5:B^m*B<=B^m*B*c:=Nat.le_mul_of_pos_right _ h;generalize B^m=p at*;rw[a1l]at h5 h4;omega
 subst hc;simpa using h4
end Go.Lim
namespace Go.Proofs.YtidbbddagfnfbaaGreat
open Go.RowKit Go.Rep Go.Lim
theorem a2c (X:Nat->Bool) (ao:Option Addr) (l:List Nat) (cap:Nat) (w:World) (hs:Sl (a0d .u32) 1 (mk X w) ao l) (hl:l.length<=4398046511104):
  Calls Tryz.prog 279 #[.slice ao l.length cap] w fun e w'=>w=w'/\e= .returned (.bool (a1u l)):=by
 have hh:=hs.hd;by_cases h0:l.length=0
 ·have hl0:l= []:=List.eq_nil_of_length_eq_zero h0
  subst hl0;clear hs hh hl h0;simp only[List.length_nil];go_enter Tryz.func279,Tryz.ntmps279
  go_wp2_with fail
  go_ret
  exact⟨rfl,rfl⟩
 ·have hc:=hs.nat (l.length - 1) (by omega)
  have hv:=hid (a3j (l:=l) (by omega));have hz:((l.length:Int)==0)=false:=a2I (by omega);go_enter Tryz.func279,Tryz.ntmps279
  go_wp2_with (with_reducible refine a0t a0R (by omega) (by assumption) ?_)
  go_ret
  exact⟨rfl,a0n (by rw[hv.out];exact a7T _)⟩
def a4i (X:Nat->Bool) (w:World) (n:Nat) (e:Ending) (w':World):Prop:=
 Ext w w'/\∃ao cap l,e= .returned (.slice ao l.length cap)/\l.length<=cap/\a0I l n/\Sl (a0d .u32) 1 (mk X w') ao l
def b1l (X:Nat->Bool) (w:World) (ao:Option Addr) (l:List Nat) (cap:Nat) (e:Ending) (w':World):Prop:=
 w=w'/\∃l',e= .returned (.slice ao l'.length cap)/\l'.length<=l.length/\a0I l' (nv l)/\Sl (a0d .u32) 1 (mk X w) ao l'
def b8v (X:Nat->Bool) (w:World) (l:List Nat) (e:Ending) (w':World):Prop:=
 w=w'/\∃ao cap l',e= .returned (.slice ao l'.length cap)/\l'.length<=cap/\l'.length<=l.length/\a0I l' (val l)/\Sl (a0d .u32) 1 (mk X w) ao l'
theorem a1J (X:Nat->Bool) (ao:Option Addr) (l:List Nat) (cap:Nat) (w:World) (hs:Sl (a0d .u32) 1 (mk X w) ao l) (hd:Dig l) (hl:l.length<=4398046511104) (hcap:l.length<=cap):
  Calls Tryz.prog 247 #[.slice ao l.length cap] w (b1l X w ao l cap):=by
 have hh:=hs.hd;go_enter Tryz.func247,Tryz.ntmps247
 go_wp2_with fail
 go_loop [3] (fun n=>∃k:Nat,n= .int .i64 k/\Cut l k) (fun n=>(intOf n).toNat)
 case atStart=>exact⟨_,rfl,Cut.all l⟩
 case round=>
  obtain⟨k,rfl,hk⟩:=hrel;have hkl:=hk.1;by_cases hlt:0<k
  ·have hc:=hs.nat (k - 1) (by omega)
   by_cases hz:l[k - 1]=0
   ·have hk':=hk.less hlt hz
    have hz':=hid hz;rw[hz]at hc;clear hz;go_wp2_with (with_reducible refine a0t a0R (by omega) (by assumption) ?_)
    go_round
    case rel=>exact⟨k - 1,by go_num,hk'⟩
    case measure=>simp[intOf];omega
   ·have hcn:=hk.canon hd (.inr ⟨by omega,hz⟩)
    have hz':((l[k - 1]:Int)==0)=false:=a2I (by omega);go_wp2_with (with_reducible refine a0t a0R (by omega) (by assumption) ?_)
    go_ret
    exact⟨rfl,l.take k,a4v (by simp;omega),by simp;omega,hcn,hs.take k⟩
  ·have hcn:=hk.canon hd (.inl (by omega))
   go_wp2_with fail
   go_ret
   exact⟨rfl,l.take k,a4v (by simp;omega),by simp;omega,hcn,hs.take k⟩
theorem a1m (X:Nat->Bool) (ao:Option Addr) (l:List Nat) (cap:Nat) (w:World) (hs:Sl (a0d .u32) 1 (mk X w) ao l) (hd:Dig l) (hl:l.length<=4398046511104) (hcap:l.length<=cap):
  Calls Tryz.prog 246 #[.slice ao l.length cap] w (b8v X w l):=by
 cases hv:a1u l
 ·have hv':=hid hv
  go_enter Tryz.func246,Tryz.ntmps246
  go_wp2_with (go_at_call 279;refine(a2c X _ _ _ _ hs hl).mono ?_;rintro e w' ⟨rfl,rfl⟩)
  go_ret
  have:vl l= []:=by unfold vl;rw[hv];rfl
  exact⟨rfl,none,0,[],rfl,by simp,by simp,this▸a4x hd,Sl.nil _ _ _ _⟩
 ·have hv':=hid hv
  go_enter Tryz.func246,Tryz.ntmps246
  go_wp2_with (go_at_call 279;refine(a2c X _ _ _ _ hs hl).mono ?_;rintro e w' ⟨rfl,rfl⟩)
  go_ret
  have:vl l=l:=by unfold vl;rw[hv];rfl
  have hc:=a4x hd;rw[this]at hc;exact⟨rfl,ao,cap,l,rfl,hcap,Nat.le_refl _,hc,hs⟩
theorem a3z (X:Nat->Bool) (n:Nat) (w:World) (hn:n<18446744073709551616) (hX:∀k,X k=true->k<w.heap.size):
  Calls Tryz.prog 241 #[.int .u64 n] w (a4i X w n):=by
 have hO:OL (a0d .u32) 1 X w.heap.size 147 (w.alloc (.cells #[.int .u32 ((n:Int)%4294967296), .int .u32 ((n:Int)/4294967296)] 147)) (some ⟨w.heap.size,0,none⟩) 2 [n%4294967296,n/4294967296]:=
  OL.lit (a0d.elem .u32) hX (Nat.le_refl _) [.int .u32 ((n%4294967296:Nat):Int), .int .u32 ((n/4294967296:Nat):Int)] [n%4294967296,n/4294967296] _ (by simp[a0j,Value.cells]) rfl
   (fun i hi _=>by
            match i,hi with
            |0,_=>rfl
            |1,_=>rfl) (by simp)
 go_enter Tryz.func241,Tryz.ntmps241
 go_wp2_with fail
 refine(a1J X _ [n%4294967296,n/4294967296] _ _ (hO.sl (a0d.elem .u32)) (Dig.cons (by rw[a1l];exact Nat.mod_lt _ (by decide)) (Dig.cons (by rw[a1l];omega) Dig.nil)) (by simp) (by simp)).mono ?_;rintro e w' ⟨rfl,l',rfl,hl',hc,hs'⟩;go_wp2_with fail
 go_ret
 have hv:nv [n%4294967296,n/4294967296]=n:=by simp only[nv,a1l];omega
 rw[hv]at hc;exact⟨(ExtX.refl w).alloc _,_,2,_,rfl,by simpa using hl',hc,hs'⟩
theorem a4z (x y c:Nat) (w:World) (hx:x<4294967296) (hy:y<4294967296) (hc:c<=1):
  Calls Tryz.prog 254 #[.int .u32 x, .int .u32 y, .int .u32 c] w fun e w'=>w=w'/\e= .returned (.tuple #[.int .u32 ((x+y+c)%4294967296:Nat), .int .u32 ((x+y+c)/4294967296:Nat)]):=by
 go_enter Tryz.func254,Tryz.ntmps254
 go_wp2
 go_ret2
 exact⟨rfl,by simp⟩
theorem b6p (X:Nat->Bool) (ao bo:Option Addr) (la lb:List Nat) (ca cb:Nat) (w:World) (hsa:Sl (a0d .u32) 1 (mk X w) ao la) (hsb:Sl (a0d .u32) 1 (mk X w) bo lb)
  (hda:Dig la) (hdb:Dig lb) (hla:la.length<=1099511627776) (hlb:lb.length<=1099511627776) (hca:la.length<=ca) (hcb:lb.length<=cb) (hX:∀k,X k=true->k<w.heap.size) (na nb:Nat) (hna:val la=na) (hnb:val lb=nb):
  Calls Tryz.prog 194 #[.slice ao la.length ca, .slice bo lb.length cb] w (a4i X w (na+nb)):=by
 go_enter Tryz.func194,Tryz.ntmps194
 go_wp2_with fail
 refine(a1m X _ _ _ _ hsa hda (by omega) hca).mono ?_;rintro e w' ⟨rfl,ao1,ca1,a,rfl,hca1,hal,hcan,hsa1⟩;go_wp2_with fail
 refine(a1m X _ _ _ _ hsb hdb (by omega) hcb).mono ?_;rintro e w' ⟨rfl,bo1,cb1,b,rfl,hcb1,hbl,hcbn,hsb1⟩;rw[hna]at hcan;rw[hnb]at hcbn;have hal':a.length<=1099511627776:=Nat.le_trans hal hla;have hbl':b.length<=1099511627776:=Nat.le_trans hbl hlb;clear hna hnb hal hbl hsa hsb hla hlb hca hcb
 go_upto_if 18 with(fail)
 go_cut [0,1] (fun s0 s1 wx=>wx=w/\∃ao bo a b ca cb,s0= .slice ao a.length ca/\s1= .slice bo b.length cb/\b.length<=a.length/\a.length<=1099511627776/\Sl (a0d .u32) 1 (mk X w) ao a/\Sl (a0d .u32) 1 (mk X w) bo b/\Dig a/\Dig b/\Hid (nv a+nv b=na+nb))
 case first=>
  go_wp2_with fail
  all_goals go_meet
  all_goals case rel=>first|exact⟨rfl,_,_,_,_,_,_,rfl,rfl,by omega,hbl',hsb1,hsa1,hcbn.1,hcan.1,hid (by rw[hcan.2.2,hcbn.2.2,Nat.add_comm])⟩|exact⟨rfl,_,_,_,_,_,_,rfl,rfl,by omega,hal',hsa1,hsb1,hcan.1,hcbn.1,hid (by rw[hcan.2.2,hcbn.2.2])⟩
 case rest=>
  clear hca1 hcan hsa1 hcb1 hcbn hsb1 hal' hbl' hda hdb;clear a b ao1 bo1 ca1 cb1 ao bo la lb ca cb;obtain⟨rfl,ao,bo,a,b,ca,cb,rfl,rfl,hab,hal,hsa,hsb,hda,hdb,hsum⟩:=hcut;have hha:=hsa.hd;have hhb:=hsb.hd;go_wp2_with (at_make;refine a2C a0R (a0d.elem .u32) 0 (fun _=>rfl) X hX wc.heap.size (Nat.le_refl _) (a.length+1) rfl rfl (by omega) (by omega) (by omega) ?_;intro oo w1 hO hE1)
  go_loopw [6,27] (fun c i wr=>∃(k:Nat) (o:List Nat) (cy:Nat),i= .int .i64 k/\c= .int .u32 cy/\k<=a.length/\a4y a b o k cy/\OL (a0d .u32) 1 X wc.heap.size 147 wr oo (a.length+1) o/\Ext wc wr) (fun _ i _=>a.length - (intOf i).toNat)
  case atStart=>exact⟨0,_,0,rfl,rfl,by omega,a4y.start a b,hO,hE1⟩
  case round=>
   obtain⟨k,o,cy,rfl,rfl,hk,hinv,hOr,hEr⟩:=hrel;clear hO hE1;have hcy:=hinv.2.2.1;have hol:=hid hinv.1;have hho:Hd oo (a.length+1):=hol.out▸hOr.hd;by_cases hlt:k<a.length
   ·have hca:=(hsa.mono (a0d.mono _) (a0p hEr)).nat k hlt
    have hak:=hda.get k hlt;rw[a1l]at hak;by_cases hkb:k<b.length
    ·have hcb:=(hsb.mono (a0d.mono _) (a0p hEr)).nat k hkb
     have hbk:=hdb.get k hkb;rw[a1l]at hbk;have hst:=hinv.step hlt (.inl ⟨hkb,rfl⟩) hda hdb;go_wp2_with (first|(with_reducible refine a0t a0R (by omega) (by assumption) ?_)|(go_at_call 254;refine(a4z _ _ _ _ hak hbk hcy).mono ?_;rintro e w' ⟨rfl,rfl⟩)|((with_reducible show wpList _ _ _ (⟨_, .store _ _ _,_,_,_,_⟩::_) _ _);refine a3V a3w (a0d.elem .u32) k rfl (Nat.mul_one k).symm hOr (by rw[hol.out];omega) _ ((a[k]+b[k]+cy)%4294967296) rfl rfl ?_;intro w2 hO2 hE2))
     go_roundw
     case rel=>exact⟨k+1,_,_,by go_num,rfl,by omega,hst,hO2,hEr.own hOr (Nat.le_refl _) hE2⟩
     case measure=>simp[intOf];omega
    ·have hst:=hinv.step (y:=0) hlt (.inr ⟨by omega,rfl⟩) hda hdb
     go_wp2_with (first|(with_reducible refine a0t a0R (by omega) (by assumption) ?_)|(go_at_call 254;refine(a4z _ 0 _ _ hak (by omega) hcy).mono ?_;rintro e w' ⟨rfl,rfl⟩)|((with_reducible show wpList _ _ _ (⟨_, .store _ _ _,_,_,_,_⟩::_) _ _);refine a3V a3w (a0d.elem .u32) k rfl (Nat.mul_one k).symm hOr (by rw[hol.out];omega) _ ((a[k]+0+cy)%4294967296) rfl rfl ?_;intro w2 hO2 hE2))
     go_roundw
     case rel=>exact⟨k+1,_,_,by go_num,rfl,by omega,hst,hO2,hEr.own hOr (Nat.le_refl _) hE2⟩
     case measure=>simp[intOf];omega
   ·have hke:k=a.length:=by omega
    subst hke;have hdn:=hinv.done hab;go_wp2_with (first|(with_reducible refine a0t a0R (by omega) (by assumption) ?_)|((with_reducible show wpList _ _ _ (⟨_, .store _ _ _,_,_,_,_⟩::_) _ _);refine a3V a3w (a0d.elem .u32) a.length rfl (Nat.mul_one _).symm hOr (by rw[hol.out];omega) _ cy rfl rfl ?_;intro w2 hO2 hE2))
    obtain⟨hd1,hd2,hd3⟩:=hdn;have hd3':=hid hd3;have hs3:=hO2.sl (a0d.elem .u32);have hEE:=hEr.own hOr (Nat.le_refl _) hE2;rw[<-hd3];clear hd3;refine(a1J X _ _ _ _ hs3 hd1 (by rw[hd3'.out];omega) (by rw[hd3'.out];omega)).mono ?_;rintro e w' ⟨rfl,l',rfl,hl',hc,hs'⟩;go_wp2_with fail
    go_ret
    rw[hd2,hsum.out]at hc;exact⟨hEE,_,_,_,rfl,by have h1:=hol.out;have h2:=hl';(try simp only[List.length_set]at h2);omega,hc,hs'⟩
def a4j (w:World) (v:Int) (e:Ending) (w':World):Prop:=Ext w w'/\e= .returned (.int .i64 v)
theorem a3k (X:Nat->Bool) (ao bo:Option Addr) (la lb:List Nat) (ca cb:Nat) (w:World) (hsa:Sl (a0d .u32) 1 (mk X w) ao la) (hsb:Sl (a0d .u32) 1 (mk X w) bo lb)
  (hda:Dig la) (hdb:Dig lb) (hla:la.length<=1099511627776) (hlb:lb.length<=1099511627776) (hca:la.length<=ca) (hcb:lb.length<=cb) (na nb:Nat) (hna:val la=na) (hnb:val lb=nb):
  Calls Tryz.prog 196 #[.slice ao la.length ca, .slice bo lb.length cb] w (a4j w (a2R na nb)):=by
 go_enter Tryz.func196,Tryz.ntmps196
 go_wp2_with fail
 refine(a1m X _ _ _ _ hsa hda (by omega) hca).mono ?_;rintro e w' ⟨rfl,ao1,ca1,a,rfl,hca1,hal,hcan,hsa1⟩;go_wp2_with fail
 refine(a1m X _ _ _ _ hsb hdb (by omega) hcb).mono ?_;rintro e w' ⟨rfl,bo1,cb1,b,rfl,hcb1,hbl,hcbn,hsb1⟩;rw[hna]at hcan;rw[hnb]at hcbn;have hal':a.length<=1099511627776:=Nat.le_trans hal hla;have hbl':b.length<=1099511627776:=Nat.le_trans hbl hlb;clear hna hnb hal hbl hsa hsb hla hlb hca hcb;have hha:=hsa1.hd;have hhb:=hsb1.hd;by_cases hlt:a.length<b.length
 ·have hv:=hid (a4g hcan hcbn hlt)
  have hne:((a.length:Int) !=b.length)=true:=a7R (by omega);go_wp2_with fail
  go_ret
  exact⟨ExtX.refl _,a0J hv.out.symm⟩
 by_cases hgt:b.length<a.length
 ·have hv:=hid (a4h hcan hcbn hgt)
  have hne:((a.length:Int) !=b.length)=true:=a7R (by omega);go_wp2_with fail
  go_ret
  exact⟨ExtX.refl _,a0J hv.out.symm⟩
 have hne:((a.length:Int) !=b.length)=false:=a7U (by omega);have heq:Hid (a.length=b.length):=hid (by omega);have hbl:b.length<=a.length:=by omega
 have hab:a.length<=b.length:=by omega
 clear hlt hgt;go_wp2_with fail
 go_loopw [5] (fun i wr=>∃k:Nat,i= .int .i64 ((k:Int) - 1)/\k<=a.length/\Hid (a.drop k=b.drop k)/\Ext w wr) (fun i _=>(intOf i+1).toNat)
 case atStart=>exact⟨a.length,rfl,Nat.le_refl _,hid (by rw[List.drop_of_length_le (Nat.le_refl _),List.drop_of_length_le hbl]),ExtX.refl _⟩
 case round=>
  obtain⟨k,rfl,hk,hdr,hE⟩:=hrel;by_cases hlt:0<k
  ·have c1:=(hsa1.mono (a0d.mono _) (a0p hE)).nat (k - 1) (by omega)
   have c2:=(hsb1.mono (a0d.mono _) (a0p hE)).nat (k - 1) (by omega);have i1:∀W,(Instr.indexAt 41 (.slice ao1 a.length ca1) (.int .i64 ((k:Int) - 1))).run Tryz.prog W= .ok (.pointer (some (adr ao1 (k - 1)))) W:=a0C a0R ao1 a.length ca1 .i64 (k - 1) hha (by omega) (by omega);have i2:∀W,(Instr.indexAt 41 (.slice bo1 b.length cb1) (.int .i64 ((k:Int) - 1))).run Tryz.prog W= .ok (.pointer (some (adr bo1 (k - 1)))) W:=a0C a0R bo1 b.length cb1 .i64 (k - 1) hhb (by omega) (by omega);by_cases h1:a[k - 1]<b[k - 1]
   ·have hv:=hid (a6M hcan hcbn heq.out hlt hk hdr.out h1)
    have t1:((a[k - 1]:Int)<(b[k - 1]:Int)):=by omega
    go_wp2_with fail
    go_quiet (fail)
    go_wp2_with fail
    go_ret
    exact⟨hE.drewN _,a0J hv.out.symm⟩
   by_cases h2:b[k - 1]<a[k - 1]
   ·have hv:=hid (a6N hcan hcbn heq.out hlt hk hdr.out h2)
    go_wp2_with fail
    go_quiet (fail)
    go_wp2_with fail
    go_quiet (fail)
    go_wp2_with fail
    go_ret
    exact⟨(hE.drewN _).drewN _,a0J hv.out.symm⟩
   ·have hdr':=hid (a5s heq.out hlt hk hdr.out (by omega))
    go_wp2_with fail
    go_quiet (fail)
    go_wp2_with fail
    go_quiet (fail)
    go_wp2_with fail
    go_roundw
    case rel=>exact⟨k - 1,by go_num,by omega,hdr',hE.drewN _⟩
    case measure=>simp[intOf];omega
  ·have hv:=hid (a6O hcan hcbn (k:=k) (by omega) hdr.out)
   go_wp2_with fail
   go_ret
   exact⟨hE,a0J hv.out.symm⟩
theorem b1m (hi lo y:Nat) (w:World) (h1:hi<y) (h2:y<4294967296) (h3:lo<4294967296):
  Calls Tryz.prog 306 #[.int .u32 hi, .int .u32 lo, .int .u32 y] w (fun e w'=>Ext w w'/\e= .returned (.tuple #[.int .u32 ((hi*4294967296+lo)/y:Nat), .int .u32 ((hi*4294967296+lo)%y:Nat)])):=by
 have t1:((y:Int)==0)=false:=a2I (by omega);have t2:((y:Int) !=0)=true:=a7R (by omega);have hor:bits BinOp.or IntKind.u64 ((hi:Int)*4294967296) (lo:Int)=(hi:Int)*4294967296+lo:=by
  have e:=bits_or_u64_nat (hi*4294967296) lo (by omega) (by omega);have e2:=Nat.two_pow_add_eq_or_of_lt (i:=32) (b:=lo) (by omega) hi;rw[Nat.mul_comm]at e2;rw[<-e2]at e;simpa using e
 have hq:(hi*4294967296+lo)/y<4294967296:=by
  rw[Nat.div_lt_iff_lt_mul (by omega)];have:(hi+1)*4294967296<=y*4294967296:=Nat.mul_le_mul_right _ h1;rw[Nat.mul_comm 4294967296 y];omega
 have hr:(hi*4294967296+lo)%y<y:=Nat.mod_lt _ (by omega);have hq':=hid hq;have hr':=hid hr;clear hq hr;go_enter Tryz.func306,Tryz.ntmps306
 go_wp2_with fail
 go_quiet (fail)
 go_wp2_with fail
 go_ret2
 refine⟨(ExtX.refl _).drewN _,?_⟩;have e1:(((hi*4294967296+lo)/y:Nat):Int)%4294967296=(((hi*4294967296+lo)/y:Nat):Int):=a6K _ hq'.out;have e2:(((hi*4294967296+lo)%y:Nat):Int)%4294967296=(((hi*4294967296+lo)%y:Nat):Int):=a6K _ (Nat.lt_trans hr'.out h2);simp only[Int.natCast_ediv,Int.natCast_emod,Int.natCast_add,Int.natCast_mul,Int.cast_ofNat_Int]at e1 e2 |-;simp[e1,e2]
def b3C (X:Nat->Bool) (w:World) (q r:Nat) (e:Ending) (w':World):Prop:=
 Ext w w'/\∃ao cap l,e= .returned (.tuple #[.slice ao l.length cap, .int .u32 r])/\l.length<=cap/\a0I l q/\Sl (a0d .u32) 1 (mk X w') ao l
theorem b1n (X:Nat->Bool) (ao:Option Addr) (l:List Nat) (cap d:Nat) (w:World) (hs:Sl (a0d .u32) 1 (mk X w) ao l) (hd:Dig l) (hl:l.length<=1099511627776) (hX:∀k,X k=true->k<w.heap.size) (h0:0<d) (h1:d<4294967296):
  Calls Tryz.prog 296 #[.slice ao l.length cap, .int .u32 d] w (b3C X w (nv l/d) (nv l%d)):=by
 have hh:=hs.hd;go_enter Tryz.func296,Tryz.ntmps296
 go_wp2_with (at_make;refine a2C a0R (a0d.elem .u32) 0 (fun _=>rfl) X hX w.heap.size (Nat.le_refl _) l.length rfl rfl (by omega) (by omega) (by omega) ?_;intro oo w1 hO hE1)
 go_loopw [5,6] (fun c i wr=>∃(k:Nat) (q:List Nat) (r:Nat),i= .int .i64 ((k:Int) - 1)/\c= .int .u32 r/\k<=l.length/\a2y l q d k r/\OL (a0d .u32) 1 X w.heap.size 147 wr oo l.length q/\Ext w wr) (fun _ i _=>(intOf i+1).toNat)
 case atStart=>exact⟨l.length,_,0,rfl,rfl,by omega,a2y.start l d h0,hO,hE1⟩
 case round=>
  obtain⟨k,q,r,rfl,rfl,hk,hinv,hOr,hEr⟩:=hrel;clear hO hE1;have hql:=hid hinv.1;have hrd:=hinv.2.2.1;have hho:Hd oo l.length:=hql.out▸hOr.hd;by_cases hlt:0<k
  ·have hc:=(hs.mono (a0d.mono _) (a0p hEr)).nat (k - 1) (by omega)
   have hak:=hd.get (k - 1) (by omega);rw[a1l]at hak;have hst:=hinv.step hlt hk hd;go_wp2_with (first|(with_reducible refine a0t a0R (by omega) (by assumption) ?_)|(go_at_call 306;refine(b1m r l[k - 1] d _ hrd h1 hak).mono ?_;rintro e w2 ⟨hE2,rfl⟩;have hO2:=hOr.ext0 (a0d.elem _) hE2)|((with_reducible show wpList _ _ _ (⟨_, .store _ _ _,_,_,_,_⟩::_) _ _);refine a0W a3w (k - 1) ((r*4294967296+l[k - 1])/d) rfl (by omega) hO2 (by rw[hql.out];omega) rfl (by simp) ?_;intro w3 hO3 hE3))
   go_roundw
   case rel=>exact⟨k - 1,_,_,by go_num,by simp,by omega,hst,hO3,(hEr.trans hE2).own hO2 (Nat.le_refl _) hE3⟩
   case measure=>simp[intOf];omega
  ·obtain rfl:k=0:=by omega
   obtain⟨hd1,hd2⟩:=hinv.done;have hd1':=hid hd1;have hd2':=hid hd2;have hqd:=hinv.2.1;have hs3:=hOr.sl (a0d.elem .u32);clear hd1 hd2;go_wp2_with fail
   rw[<-hql.out];refine(a1J X _ _ _ _ hs3 hqd (by rw[hql.out];omega) (by omega)).mono ?_;rintro e w' ⟨rfl,l',rfl,hl',hc,hs'⟩;go_wp2_with fail
   go_ret2
   rw[hd1'.out]at hc;exact⟨hEr,_,_,_,by rw[<-hd2'.out];rfl,hl',hc,hs'⟩
set_option maxRecDepth 100000 in
theorem b6q (X:Nat->Bool) (ao bo:Option Addr) (la lb:List Nat) (ca cb:Nat) (w:World) (hsa:Sl (a0d .u32) 1 (mk X w) ao la) (hsb:Sl (a0d .u32) 1 (mk X w) bo lb)
  (hda:Dig la) (hdb:Dig lb) (hla:la.length<=1099511627776) (hlb:lb.length<=1099511627776) (hca:la.length<=ca) (hcb:lb.length<=cb) (hX:∀k,X k=true->k<w.heap.size) (na nb:Nat) (hna:val la=na) (hnb:val lb=nb):
  Calls Tryz.prog 179 #[.slice ao la.length ca, .slice bo lb.length cb] w (a4i X w (na*nb)):=by
 go_enter Tryz.func179,Tryz.ntmps179
 go_wp2_with fail
 refine(a1m X _ _ _ _ hsa hda (by omega) hca).mono ?_;rintro e w' ⟨rfl,ao1,ca1,a,rfl,hca1,hal,hcan,hsa1⟩;go_wp2_with fail
 refine(a1m X _ _ _ _ hsb hdb (by omega) hcb).mono ?_;rintro e w' ⟨rfl,bo1,cb1,b,rfl,hcb1,hbl,hcbn,hsb1⟩;rw[hna]at hcan;rw[hnb]at hcbn;have hal':a.length<=1099511627776:=Nat.le_trans hal hla;have hbl':b.length<=1099511627776:=Nat.le_trans hbl hlb;have hsum:Hid (nv a*nv b=na*nb):=hid (by rw[hcan.2.2,hcbn.2.2]);have hda1:=hcan.1;have hdb1:=hcbn.1;clear hna hnb hal hbl hsa hsb hla hlb hca hcb hcan hcbn hda hdb;have hha:=hsa1.hd;have hhb:=hsb1.hd;go_wp2_with (at_make;refine a2C a0R (a0d.elem .u32) 0 (fun _=>rfl) X hX w.heap.size (Nat.le_refl _) (a.length+b.length) rfl rfl (by omega) (by omega) (by omega) ?_;intro oo w1 hO hE1)
 go_loopw [23] (fun i wr=>∃(k:Nat) (o:List Nat),i= .int .i64 k/\k<=a.length/\a2w a b o k 0 0/\OL (a0d .u32) 1 X w.heap.size 147 wr oo (a.length+b.length) o/\Ext w wr) (fun i _=>a.length - (intOf i).toNat)
 case atStart=>exact⟨0,_,rfl,by omega,a2w.start a b,hO,hE1⟩
 case round=>
  obtain⟨k,o,rfl,hk,hinv,hOr,hEr⟩:=hrel;clear hO hE1;have hol:=hid hinv.1;by_cases hlt:k<a.length
  ·have hca:=(hsa1.mono (a0d.mono _) (a0p hEr)).nat k hlt
   have hak:=hda1.get k hlt;rw[a1l]at hak;obtain⟨x,hx⟩:∃x,a[k]=x:=⟨_,rfl⟩;rw[hx]at hca hak;have hx':=hid hx;clear hx;obtain⟨wo,rfl⟩:∃wo:World,wo=wr:=⟨_,rfl⟩;go_wp2_with (with_reducible refine a0t a0R (by omega) (by assumption) ?_)
   go_loopw [8,30] (fun c j wr=>∃(m:Nat) (o:List Nat) (cy:Nat),j= .int .i64 m/\c= .int .u64 cy/\m<=b.length/\a2w a b o k m cy/\OL (a0d .u32) 1 X w.heap.size 147 wr oo (a.length+b.length) o/\Ext w wr) (fun _ j _=>b.length - (intOf j).toNat)
   case atStart=>exact⟨0,o,0,rfl,rfl,by omega,hinv,hOr,hEr⟩
   case round=>
    clear hinv hOr hEr hol hca;clear o;obtain⟨m,o,cy,rfl,rfl,hm,hinv,hOr,hEr⟩:=hrel;have hol:=hid hinv.1;have hho:Hd oo (a.length+b.length):=hol.out▸hOr.hd;have hcy:=hinv.2.2.1;rw[a1l]at hcy;by_cases hmt:m<b.length
    ·have hcb:=(hsb1.mono (a0d.mono _) (a0p hEr)).nat m hmt
     have hij:k+m<o.length:=by rw[hol.out];omega
     have hoc:=(hOr.sl (a0d.elem _)).nat (k+m) hij;have hbk:=hdb1.get m hmt;have hok:=hinv.2.1.get (k+m) hij;rw[a1l]at hbk hok;obtain⟨y,hy⟩:∃y,b[m]=y:=⟨_,rfl⟩;obtain⟨z,hz⟩:∃z,o[k+m]=z:=⟨_,rfl⟩;obtain⟨hst,hb1⟩:=hinv.step' hlt hmt hda1 hdb1 hij hx'.out hy hz;rw[hy]at hcb hbk;rw[hz]at hoc hok;clear hy hz;have hx0:(0:Int)<=(x:Int)*(y:Int):=Int.mul_nonneg (by omega) (by omega);have hx3:(cy:Int)+((x:Int)*(y:Int)+(z:Int))<18446744073709551616:=by rw[<-Int.natCast_mul];omega
     have hw1:IntKind.u64.wrap ((x:Int)*(y:Int))=(x:Int)*(y:Int):=IntWalk.u64_in _ (by omega);have hw2:IntKind.u64.wrap ((x:Int)*(y:Int)+(z:Int))=(x:Int)*(y:Int)+(z:Int):=IntWalk.u64_in _ (by omega);have hw3:IntKind.u64.wrap ((cy:Int)+((x:Int)*(y:Int)+(z:Int)))=(cy:Int)+((x:Int)*(y:Int)+(z:Int)):=IntWalk.u64_in _ (by omega);clear hb1 hx3 hx0;have hoc2:wr.cell? (adr oo ((k:Int)+(m:Int)).toNat)=some (.int .u32 z):=hoc;go_wp2_with (first|(with_reducible refine a0t a0R (by omega) (by assumption) ?_)|((with_reducible show wpList _ _ _ (⟨_, .store _ _ _,_,_,_,_⟩::_) _ _);refine a0W a3w (k+m) ((cy+(x*y+z))%4294967296) rfl (by omega) hOr hij rfl (by simp) ?_;intro w3 hO3 hE3))
     go_roundw
     case rel=>exact⟨m+1,_,_,by go_num,by simp,by omega,hst,hO3,hEr.own hOr (Nat.le_refl _) hE3⟩
     case measure=>simp[intOf];omega
    ·have hme:m=b.length:=by omega
     subst hme;have hst:=hinv.row hlt;have hij:k+b.length<o.length:=by rw[hol.out];omega
     go_wp2_with (first|(with_reducible refine a0t a0R (by omega) (by assumption) ?_)|((with_reducible show wpList _ _ _ (⟨_, .store _ _ _,_,_,_,_⟩::_) _ _);refine a0W a3w (k+b.length) cy rfl (by omega) hOr hij rfl (by omega) ?_;intro w3 hO3 hE3))
     go_roundw
     case rel=>exact⟨k+1,_,by go_num,by omega,hst,hO3,hEr.own hOr (Nat.le_refl _) hE3⟩
     case measure=>simp[intOf];omega
  ·have hke:k=a.length:=by omega
   subst hke;have hdn:=hinv.done rfl;have hod:=hinv.2.1;have hs3:=hOr.sl (a0d.elem .u32);have hdn':=hid hdn;clear hdn;go_wp2_with fail
   rw[<-hol.out];refine(a1J X _ _ _ _ hs3 hod (by rw[hol.out];omega) (by omega)).mono ?_;rintro e w' ⟨rfl,l',rfl,hl',hc,hs'⟩;go_wp2_with fail
   go_ret
   rw[hdn'.out,hsum.out]at hc;exact⟨hEr,_,_,_,rfl,hl',hc,hs'⟩
theorem a5V (X:Nat->Bool) (ao:Option Addr) (l:List Nat) (cap:Nat) (w:World) (n:Nat) (hs:Sl (a0d .u32) 1 (mk X w) ao l) (hc:a0I l n) (hl:l.length<=4398046511104) (hX:∀k,X k=true->k<w.heap.size):
  Calls Tryz.prog 295 #[.slice ao l.length cap] w (a4i X w n):=by
 have hnil:=fun wx=>Lib.run_eql_slice_nil (P:=Tryz.prog) wx 41 147 ao l.length cap 0 0 Tryz.underlying41;cases ao with
 |none=>
  have hl0:l= []:=by
   cases l with
   |nil=>rfl
   |cons x l=>obtain⟨b,o,h⟩:=hs.1 (by simp);simp at h
  subst hl0;simp only[List.length_nil,Option.isNone_none]at hnil |-;go_enter Tryz.func295,Tryz.ntmps295
  go_wp2_with fail
  go_ret
  exact⟨ExtX.refl _,none,0,[],rfl,by simp,hc,Sl.nil _ _ _ _⟩
 |some ad=>
  have hO:OL (a0d .u32) 1 X w.heap.size 147 (w.alloc (.cells #[] 147)) (some ⟨w.heap.size,0,none⟩) 0 []:=
   OL.lit (a0d.elem .u32) hX (Nat.le_refl _) [] [] _ rfl rfl (fun i hi=>by simp at hi) (by simp)
  have hs2:=hs.mono (a0d.mono _) (b8q X w (.cells #[] 147));have hX2:∀k,X k=true->k<(w.alloc (.cells #[] 147)).heap.size:=fun k hk=>by have:=hX k hk;simp;omega
  go_enter Tryz.func295,Tryz.ntmps295
  go_wp2_with (at_builtin;refine a3U (l:=[]) a0R rfl (a0d.elem .u32) (by simp) hX2 l rfl rfl hO hs2 (by simp;omega) (by simp;omega) ?_;intro ao2 cap2 w2 hO2 hE2 _)
  go_ret
  exact⟨((ExtX.refl w).alloc _).own hO (Nat.le_refl _) hE2,_,_,l,rfl,by have:=hO2.lenCap;simpa using this,hc,by simpa using hO2.sl (a0d.elem _)⟩
def b5A (X:Nat->Bool) (w:World) (q r:Nat) (e:Ending) (w':World):Prop:=
 Ext w w'/\∃ao cap l bo cbp m,e= .returned (.tuple #[.slice ao l.length cap, .slice bo m.length cbp, .bool true])/\l.length<=cap/\a0I l q/\Sl (a0d .u32) 1 (mk X w') ao l/\m.length<=cbp/\a0I m r/\Sl (a0d .u32) 1 (mk X w') bo m
theorem b3D (X:Nat->Bool) (ao bo:Option Addr) (la lb:List Nat) (ca cb:Nat) (w:World) (hsa:Sl (a0d .u32) 1 (mk X w) ao la) (hsb:Sl (a0d .u32) 1 (mk X w) bo lb)
  (hda:Dig la) (hdb:Dig lb) (hla:la.length<=1099511627776) (hlb:lb.length<=1099511627776) (hca:la.length<=ca) (hcb:lb.length<=cb) (hX:∀k,X k=true->k<w.heap.size) (na nb:Nat) (hna:val la=na) (hnb:val lb=nb)
  (h0:0<nb) (h1:nb<4294967296):
  Calls Tryz.prog 245 #[.slice ao la.length ca, .slice bo lb.length cb] w (b5A X w (na/nb) (na%nb)):=by
 go_enter Tryz.func245,Tryz.ntmps245
 go_wp2_with fail
 refine(a1m X _ _ _ _ hsa hda (by omega) hca).mono ?_;rintro e w' ⟨rfl,ao1,ca1,a,rfl,hca1,hal,hcan,hsa1⟩;go_wp2_with fail
 refine(a1m X _ _ _ _ hsb hdb (by omega) hcb).mono ?_;rintro e w' ⟨rfl,bo1,cb1,b,rfl,hcb1,hbl,hcbn,hsb1⟩;rw[hna]at hcan;rw[hnb]at hcbn;have hb1:=b1k hcbn h0 h1;subst hb1;have hal':a.length<=1099511627776:=Nat.le_trans hal hla;have hva:=hid hcan.val;have hvb:=hid hcbn.val;have hdb1:=hcbn.1;have hda1:=hcan.1;clear hna hnb hal hbl hsa hsb hla hlb hca hcb;have hha:=hsa1.hd;have hhb:=hsb1.hd;simp only[List.length_cons,List.length_nil,Nat.zero_add]at hhb hcb1 |-;go_wp2_with fail
 refine(a3k X ao1 bo1 a [nb] ca1 cb1 w hsa1 hsb1 hda1 hdb1 hal' (by simp) hca1 hcb1 na nb hva.out hvb.out).mono ?_;rintro e w2 ⟨hE2,rfl⟩;have hsa2:=hsa1.mono (a0d.mono _) (a0p hE2);have hsb2:=hsb1.mono (a0d.mono _) (a0p hE2);have hX2:∀k,X k=true->k<w2.heap.size:=fun k hk=>Nat.lt_of_lt_of_le (hX k hk) hE2.size;by_cases hlt:na<nb
 ·have hcl:a2R na nb<0:=(a3y na nb).2 hlt
  have hq:=hid (Nat.div_eq_of_lt hlt);have hr:=hid (Nat.mod_eq_of_lt hlt);generalize a2R na nb=c at hcl;go_wp2_with fail
  refine(a5V X _ _ _ _ na hsa2 hcan (by omega) hX2).mono ?_;rintro e w3 ⟨hE3,ao3,ca3,l3,rfl,hc3,hcan3,hs3⟩;go_wp2_with fail
  go_ret3
  refine⟨hE2.trans hE3,none,0,[],ao3,ca3,l3,rfl,by simp,?_,Sl.nil _ _ _ _,hc3,?_,hs3⟩
  ·rw[hq.out];exact a0I.nil
  ·rw[hr.out];exact hcan3
 ·have hcl:¬a2R na nb<0:=fun h=>hlt ((a3y na nb).1 h)
  generalize a2R na nb=c at hcl;have hcell:=hsb2.nat 0 (by simp);simp only[List.getElem_cons_zero]at hcell;go_wp2_with (with_reducible refine a0t a0R (by omega) (by assumption) ?_)
  refine(b1n X ao1 a ca1 nb w2 hsa2 hda1 hal' hX2 h0 h1).mono ?_;rintro e w3 ⟨hE3,ao3,ca3,l3,rfl,hc3,hcan3,hs3⟩;have hX3:∀k,X k=true->k<w3.heap.size:=fun k hk=>Nat.lt_of_lt_of_le (hX2 k hk) hE3.size;have hrl:nv a%nb<nb:=Nat.mod_lt _ h0;obtain⟨r,hr⟩:∃r,nv a%nb=r:=⟨_,rfl⟩;rw[hr]at hrl |-;have hr':=hid hr;clear hr;go_wp2_with fail
  refine(a3z X r _ (by omega) hX3).mono ?_;rintro e w4 ⟨hE4,bo4,cb4,l4,rfl,hc4,hcan4,hs4⟩;go_wp2_with fail
  go_ret3
  have hs3':=hs3.mono (a0d.mono _) (a0p hE4);have hnv:=hcan.2.2;rw[hnv]at hcan3;have hr2:=hr'.out;rw[hnv]at hr2;rw[<-hr2]at hcan4;exact⟨(hE2.trans hE3).trans hE4,ao3,ca3,l3,bo4,cb4,l4,rfl,hc3,hcan3,hs3',hc4,hcan4,hs4⟩
end Go.Proofs.YtidbbddagfnfbaaGreat
