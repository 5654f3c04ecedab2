/- Parts of a proof: each theorem states what it proves, and its conditions. -/
import Derived.WalkKit
import Derived.WalkSpells
import Derived.WalkLawsBesides
import Derived.Deep.DeepCutAuto
import Derived.Laws.CopyOwn
import Derived.Test.YtnnpfhoigmegcaaGreatRows
import Derived.Deep.QuietTactic
import Derived.BigQuiet
set_option maxRecDepth 100000
namespace Go.Rep
open Go.RowKit
def lenOf:Value->Nat| .slice _ n _=>n|_=>0
theorem hid{p:Prop}(h:p):Hid p:=h
theorem a3I{a:Option Addr}{n m c:Nat}(h:n=m):Ending.returned (.slice a n c)= .returned (.slice a m c):=by rw[h]
theorem a0y{k:IntKind}{a b:Int}(h:a=b):Ending.returned (.int k a)= .returned (.int k b):=by rw[h]
theorem a0q{a b:Bool}(h:a=b):Ending.returned (.bool a)= .returned (.bool b):=by rw[h]
theorem a6M(n:Nat):((n:Int) !=0)=(n !=0):=by rw[Bool.eq_iff_iff];simp
theorem a5F(n:Nat)(h:n<4294967296):(n:Int)%4294967296=n:=by omega
theorem a2S{a b:Int}(h:a≠b):(a==b)=false:=by simpa using h
theorem b6E{a b:Int}(h:a=b):(a !=b)=false:=by simpa using h
theorem b5A{a b:Int}(h:a=b):(a==b)=true:=by simpa using h
theorem a9E{a b:Int}(h:a≠b):(a !=b)=true:=by simpa using h
abbrev Mem:=Addr->Option Value
def Le(h h':Mem):Prop:=∀a u,h a=some u->h' a=some u
theorem Le.refl(h:Mem):Le h h:=fun _ _ x=>x
theorem Le.trans{a b c:Mem}(h:Le a b)(k:Le b c):Le a c:=fun x u e=>k x u (h x u e)
theorem a4h{w:World}{a:Addr}{u:Value}(h:w.cell? a=some u):a.block<w.heap.size:=by
 unfold World.cell? at h;by_cases b:a.block<w.heap.size
 ·exact b
 ·rw[Array.getElem?_eq_none (by omega)]at h;simp at h
structure ExtX (Y:Nat->Bool) (w w':World):Prop where
 os:w'.os=w.os
 tape:w'.tape=w.tape
 output:w'.output=w.output
 size:w.heap.size<=w'.heap.size
 block:∀k,k<w.heap.size->Y k=false->w'.heap[k]? =w.heap[k]?
def noY:Nat->Bool:=fun _=>false
abbrev Ext(w w':World):Prop:=ExtX noY w w'
theorem ExtX.refl{Y:Nat->Bool}(w:World):ExtX Y w w:=⟨rfl,rfl,rfl,Nat.le_refl _,fun _ _ _=>rfl⟩
theorem ExtX.trans{Y:Nat->Bool}{a b c:World}(h:ExtX Y a b)(k:ExtX Y b c):ExtX Y a c:=
 ⟨k.os.trans h.os,k.tape.trans h.tape,k.output.trans h.output,Nat.le_trans h.size k.size,fun i hi d=>(k.block i (Nat.lt_of_lt_of_le hi h.size) d).trans (h.block i hi d)⟩
theorem ExtX.weaken{Y Z:Nat->Bool}{a b:World}(h:ExtX Y a b)(hz:∀k,k<a.heap.size->Z k=false->Y k=false):ExtX Z a b:=
 ⟨h.os,h.tape,h.output,h.size,fun k c d=>h.block k c (hz k c d)⟩
theorem ExtX.of{Y:Nat->Bool}{a b:World}(h:Ext a b):ExtX Y a b:=h.weaken fun _ _ _=>rfl
theorem ExtX.alloc{Y:Nat->Bool}{a w:World}(h:ExtX Y a w)(o:Obj):ExtX Y a (w.alloc o):=
 h.trans ⟨rfl,rfl,rfl,by simp,fun k b _=>Below.heap_alloc _ _ _ b⟩
theorem ExtX.drew{Y:Nat->Bool}{a w:World}(h:ExtX Y a w):ExtX Y a w.drew:=⟨h.os,h.tape,h.output,h.size,h.block⟩
theorem ExtX.drewN{Y:Nat->Bool}{a w:World}(h:ExtX Y a w)(n:Nat):ExtX Y a (w.drewN n):=⟨h.os,h.tape,h.output,h.size,h.block⟩
theorem ExtX.then_{Y Z:Nat->Bool}{a b c:World}(h:ExtX Y a b)(k:ExtX Z b c)(hz:∀i,i<a.heap.size->Y i=false->Z i=false):ExtX Y a c:=
 ⟨k.os.trans h.os,k.tape.trans h.tape,k.output.trans h.output,Nat.le_trans h.size k.size,fun i hi d=>(k.block i (Nat.lt_of_lt_of_le hi h.size) (hz i hi d)).trans (h.block i hi d)⟩
theorem ExtX.below{w a:World}(h:Ext w a):Below w.heap.size w a:=⟨h.os,h.tape,h.output,h.size,fun k b=>h.block k b rfl⟩
def mk(X:Nat->Bool)(w:World):Mem:=fun a=>if X a.block then none else w.cell? a
theorem a1o{X:Nat->Bool}{w:World}{a:Addr}{u:Value}(h:mk X w a=some u):w.cell? a=some u:=by
 unfold mk at h;split at h
 ·simp at h
 ·exact h
theorem b5E(X:Nat->Bool)(w:World):Le (mk X w) w.cell?:=fun _ _ h=>a1o h
theorem a4u(w:World):mk noY w=w.cell?:=by funext a;simp[mk,noY]
theorem a0E{X Y:Nat->Bool}{w c:World}(h:ExtX Y w c)(d:∀k,Y k=true->X k=true):Le (mk X w) (mk X c):=by
 intro a u e;have b:=a1o e;have g:=a4h b;unfold mk at e |-;by_cases hx:X a.block=true
 ·simp[hx]at e
 ·rw[if_neg hx]
  have i:Y a.block=false:=by
   cases f:Y a.block
   ·rfl
   ·exact absurd (d _ f) hx
  rw[World.cell?_of_block (h.block a.block g i)];exact b
theorem a0k{X:Nat->Bool}{w a:World}(h:Ext w a):Le (mk X w) (mk X a):=a0E h (fun k b=>by simp[noY]at b)
theorem a2T{X Z:Nat->Bool}{w:World}(h:∀k,k<w.heap.size->X k=true->Z k=true):Le (mk Z w) (mk X w):=by
 intro a u e;have c:=a4h (a1o e);have b:=a1o e;unfold mk at e |-;by_cases hx:X a.block=true
 ·simp[h _ c hx]at e
 ·rw[if_neg hx];exact b
theorem a0Z{X Y Z:Nat->Bool}{w d:World}(h:ExtX Y w d)(f:∀k,k<w.heap.size->Y k=true->X k=true)(g:∀k,k<w.heap.size->Z k=true->X k=true):Le (mk X w) (mk Z d):=by
 intro a u e;have c:=a1o e;have b:=a4h c;unfold mk at e |-;by_cases hx:X a.block=true
 ·simp[hx]at e
 ·have hz:¬Z a.block=true:=fun hz=>hx (g _ b hz)
  rw[if_neg hz];have j:Y a.block=false:=by
   cases i:Y a.block
   ·rfl
   ·exact absurd (f _ b i) hx
  rw[World.cell?_of_block (h.block a.block b j)];exact c
theorem ExtX.cell{w b:World}(h:Ext w b){a:Addr}{u:Value}(c:w.cell? a=some u):b.cell? a=some u:=by
 have:=a0k (X:=noY) h a u (by rw[a4u];exact c);rwa[a4u]at this
theorem ExtX.cellY{Y:Nat->Bool}{w c:World}(h:ExtX Y w c){a:Addr}{u:Value}(b:w.cell? a=some u)(d:Y a.block=false):c.cell? a=some u:=by
 rw[World.cell?_of_block (h.block a.block (a4h b) d)];exact b
theorem a3J{w:World}{a:Array Value}{e:TypeId}(j:Nat){u:Value}(h:a[j]? =some u):(w.alloc (.cells a e)).cell? ⟨w.heap.size,j,none⟩=some u:=by
 unfold World.cell?;rw[heap_alloc_new w];simpa using h
def ob(ao:Option Addr):Nat->Bool:=fun k=>match ao with|some a=>a.block==k|none=>false
def un(X:Nat->Bool)(ao:Option Addr):Nat->Bool:=fun k=>X k||ob ao k
theorem a0v{X:Nat->Bool}{ao:Option Addr}{k:Nat}(h:X k=true):un X ao k=true:=by simp[un,h]
theorem a0A{X:Nat->Bool}{ao:Option Addr}{k:Nat}(h:ob ao k=true):un X ao k=true:=by simp[un,h]
def adr(ao:Option Addr)(k:Nat):Addr:=⟨(ao.getD ⟨0,0,none⟩).block,(ao.getD ⟨0,0,none⟩).off+k,none⟩
@[go_sem] theorem a6c (ao:Option Addr) (k j:Nat):(adr ao k).add j=adr ao (k+j):=by
 unfold adr;rw[Addr.add_lit,Nat.add_assoc]
theorem a1c(b o k:Nat):adr (some ⟨b,o,none⟩) k=⟨b,o+k,none⟩:=rfl
def Hd(ao:Option Addr)(n:Nat):Prop:=0<n->∃b off,ao=some ⟨b,off,none⟩
def Sl{α:Type}(R:Mem->Value->α->Prop)(sz:Nat)(h:Mem)(ao:Option Addr)(l:List α):Prop:=
 Hd ao l.length/\∀i (hi:i<l.length),∃u:Value,u.cells.size=sz/\(∀j (hj:j<u.cells.size),h (adr ao (i*sz+j))=some u.cells[j])/\R h u l[i]
def a2Q{α:Type}(R:Mem->Value->α->Prop):Prop:=∀(h h':Mem) (u:Value) (x:α),Le h h'->R h u x->R h' u x
def a2D{α:Type}(R:Mem->Value->α->Prop):Prop:=∀(h:Mem) (u:Value) (x:α),R h u x->u.cells=#[u]
theorem Sl.hd{α:Type}{R:Mem->Value->α->Prop}{sz:Nat}{h:Mem}{ao:Option Addr}{l:List α}(s:Sl R sz h ao l):Hd ao l.length:=s.1
theorem Sl.mono{α:Type}{R:Mem->Value->α->Prop}(f:a2Q R){sz:Nat}{h a:Mem}{ao:Option Addr}{l:List α}(b:Le h a)(s:Sl R sz h ao l):Sl R sz a ao l:=by
 refine⟨s.1,fun i hi=>?_⟩;obtain⟨u,c,d,e⟩:=s.2 i hi;exact⟨u,c,fun j g=>b _ _ (d j g),f _ _ _ _ b e⟩
theorem Sl.nil{α:Type}(R:Mem->Value->α->Prop)(sz:Nat)(h:Mem)(ao:Option Addr):Sl R sz h ao []:=
 ⟨fun h=>by simp at h,fun i hi=>by simp at hi⟩
theorem Sl.take{α:Type}{R:Mem->Value->α->Prop}{sz:Nat}{h:Mem}{ao:Option Addr}{l:List α}(s:Sl R sz h ao l)(n:Nat):Sl R sz h ao (l.take n):=by
 refine⟨fun e=>s.1 (by simp at e;omega),fun i hi=>?_⟩;have a:i<l.length:=by simp at hi;omega
 obtain⟨u,b,c,d⟩:=s.2 i a;exact⟨u,b,c,by simpa using d⟩
def SlV{α:Type}(R:Mem->Value->α->Prop)(sz:Nat)(h:Mem)(v:Value)(l:List α):Prop:=
 ∃ao cap,v= .slice ao l.length cap/\l.length<=cap/\Sl R sz h ao l
theorem SlV.mono{α:Type}{R:Mem->Value->α->Prop}(a:a2Q R)(sz:Nat):a2Q (SlV R sz):=by
 rintro h e u x c ⟨ao,cap,rfl,b,d⟩;exact⟨ao,cap,rfl,b,d.mono a c⟩
theorem SlV.one{α:Type}{R:Mem->Value->α->Prop}{sz:Nat}:a2D (SlV R sz):=by
 rintro h u x ⟨ao,cap,rfl,_⟩;rfl
theorem SlV.zero{α:Type}(R:Mem->Value->α->Prop)(sz:Nat)(h:Mem):SlV R sz h (.slice none 0 0) []:=
 ⟨none,0,rfl,Nat.le_refl _,Sl.nil _ _ _ _⟩
def a0c(k:IntKind):Mem->Value->Nat->Prop:=fun _ u x=>u= .int k (x:Int)
theorem a0c.mono(k:IntKind):a2Q (a0c k):=fun _ _ _ _ _ h=>h
theorem a0c.one(k:IntKind):a2D (a0c k):=by rintro h u x rfl;rfl
def a0M(k:IntKind):Mem->Value->Int->Prop:=fun _ u x=>u= .int k x
theorem a0M.mono(k:IntKind):a2Q (a0M k):=fun _ _ _ _ _ h=>h
theorem a0M.one(k:IntKind):a2D (a0M k):=by rintro h u x rfl;rfl
theorem Sl.cell{α:Type}{R:Mem->Value->α->Prop}{h:Mem}{ao:Option Addr}{l:List α}(s:Sl R 1 h ao l)(d:a2D R)(i:Nat)(hi:i<l.length):∃u,h (adr ao i)=some u/\R h u l[i]:=by
 obtain⟨u,_,e,a⟩:=s.2 i hi;have c:=d _ _ _ a;have b:=e 0 (by rw[c];exact Nat.one_pos);refine⟨u,?_,a⟩;rw[Nat.mul_one,Nat.add_zero]at b;rw[b];simp[c]
theorem Sl.nat{k:IntKind}{X:Nat->Bool}{w:World}{ao:Option Addr}{l:List Nat}(s:Sl (a0c k) 1 (mk X w) ao l)(i:Nat)(hi:i<l.length):w.cell? (adr ao i)=some (.int k (l[i]:Int)):=by
 obtain⟨u,a,rfl⟩:=s.cell (a0c.one k) i hi;exact a1o a
theorem Sl.int{k:IntKind}{X:Nat->Bool}{w:World}{ao:Option Addr}{l:List Int}(s:Sl (a0M k) 1 (mk X w) ao l)(i:Nat)(hi:i<l.length):w.cell? (adr ao i)=some (.int k l[i]):=by
 obtain⟨u,a,rfl⟩:=s.cell (a0M.one k) i hi;exact a1o a
theorem Sl.slice{α:Type}{R:Mem->Value->α->Prop}{sz:Nat}{X:Nat->Bool}{w:World}{ao:Option Addr}{l:List (List α)}(s:Sl (SlV R sz) 1 (mk X w) ao l)(i:Nat)(hi:i<l.length):∃a c,w.cell? (adr ao i)=some (.slice a l[i].length c)/\l[i].length<=c/\Sl R sz (mk X w) a l[i]:=by
 obtain⟨u,b,a,c,rfl,d,e⟩:=s.cell SlV.one i hi;exact⟨a,c,a1o b,d,e⟩
structure SliceT (P:Program) (t e sz by_:Nat) (z:Value):Prop where
 und:P.underlying t=some (.slice e)
 info:(P.info? e).map (fun i=>(i.zero,i.size,i.bytes))=some (some z,sz,by_)
def TyI(P:Program)(t sz:Nat):Prop:=∃ti,P.info? t=some ti/\ti.size=sz
section
variable {P:Program} {ops:Array Oper} {Q:Exit->Act->World->Prop} {rest:List Oper} {a:Act} {w:World}
theorem a0o{t e sz c:Nat}{z:Value}(T:SliceT P t e sz c z)(ao:Option Addr)(len cap:Nat)(k:IntKind)(n:Nat)(f:Hd ao len)(h:n<len)(w:World):(Instr.indexAt t (.slice ao len cap) (.int k (n:Int))).run P w= .ok (.pointer (some (adr ao (n*sz)))) w:=by
 obtain⟨i,hi,hz,d,g⟩:=info_parts T.info;obtain⟨b,a,rfl⟩:=f (by omega);subst d;have e:(⟨b,a,none⟩:Addr).add (n*i.size)=⟨b,a+n*i.size,none⟩:=Addr.add_lit _ _ _;simp[Instr.indexAt,asIntOf,Sem.run_bind,run_underlying T.und,Result.andThen,h,sizeOf,typeInfo,hi,adr,e]
theorem a1f{t e a:Nat}{z:Value}(T:SliceT P t e 1 a z)(ao:Option Addr)(len cap:Nat)(k:IntKind)(n:Nat){m:Int}(b:Hd ao len)(d:n<len)(c:m=(n:Int))(w:World):(Instr.indexAt t (.slice ao len cap) (.int k m)).run P w= .ok (.pointer (some (adr ao n))) w:=by
 subst c;rw[a0o (P:=P) T ao len cap k n b d w,Nat.mul_one]
theorem a0n{o:Oper}{K:Act->World->Prop}{t e b:Nat}{z:Value}(T:SliceT P t e 1 b z){ao:Option Addr}{len cap:Nat}{k:IntKind}{m:Int}(c:0<=m/\m<(len:Int))(d:Hd ao len)(h:K (a.put o.dst (.pointer (some (adr ao m.toNat)))) w):o.upon P a K Q ((Sem.run P (Instr.indexAt t (.slice ao len cap) (.int k m)) w).andThen fun v w=> .ok (.value v) w):=by
 obtain⟨n,rfl⟩:=Int.eq_ofNat_of_zero_le c.1;rw[a0o (P:=P) T ao len cap k n d (by omega) w,Nat.mul_one];exact h
theorem a1E{o:Oper}{K:Act->World->Prop}{t e sz b:Nat}{z:Value}(T:SliceT P t e sz b z){ao:Option Addr}{len cap:Nat}{k:IntKind}{m:Int}(c:0<=m/\m<(len:Int))(d:Hd ao len)(h:K (a.put o.dst (.pointer (some (adr ao (m.toNat*sz))))) w):o.upon P a K Q ((Sem.run P (Instr.indexAt t (.slice ao len cap) (.int k m)) w).andThen fun v w=> .ok (.value v) w):=by
 obtain⟨n,rfl⟩:=Int.eq_ofNat_of_zero_le c.1;rw[a0o (P:=P) T ao len cap k n d (by omega) w];exact h
end
end Go.Rep
namespace Go.Rep
open Go.RowKit
def a0g(u:Value):List Value:=u.cells.toList
theorem a0C{sz:Nat}:∀(us:List Value),(∀u∈us,u.cells.size=sz)->(us.flatMap a0g).length=us.length*sz
 | [],_=>by simp
 |u::us,h=>by
  rw[List.flatMap_cons,List.length_append,a0C us (fun x hx=>h x (List.mem_cons_of_mem _ hx)),List.length_cons,Nat.succ_mul];have:(a0g u).length=sz:=by simp[a0g,h u (List.mem_cons_self ..)]
  omega
theorem a2p{sz:Nat}:∀(us:List Value) (i j:Nat) (hi:i<us.length),(∀u∈us,u.cells.size=sz)->j<sz->(us.flatMap a0g)[i*sz+j]? =(a0g us[i])[j]?
 |u::us,i,j,hi,h,hj=>by
  have hu:(a0g u).length=sz:=by simp[a0g,h u (List.mem_cons_self ..)]
  rw[List.flatMap_cons]
  match i with
  |0=>
   simp only[Nat.zero_mul,Nat.zero_add,List.getElem_cons_zero];rw[List.getElem?_append_left (by omega)]
  |i+1=>
   rw[List.getElem?_append_right (by rw[hu,Nat.succ_mul];omega),hu];have e:(i+1)*sz+j - sz=i*sz+j:=by rw[Nat.succ_mul];omega
   rw[e];simpa using a2p us i j (by simpa using hi) (fun x hx=>h x (List.mem_cons_of_mem _ hx)) hj
theorem a8l{sz:Nat}:∀(us:List Value) (i:Nat) (u:Value),i<us.length->(∀u∈us,u.cells.size=sz)->u.cells.size=sz-> (us.set i u).flatMap a0g=(us.flatMap a0g).take (i*sz)++a0g u++(us.flatMap a0g).drop (i*sz+sz)
 |v::us,i,u,hi,h,hu=>by
  have hv:(a0g v).length=sz:=by simp[a0g,h v (List.mem_cons_self ..)]
  match i with
  |0=>
   simp only[List.set_cons_zero,List.flatMap_cons,Nat.zero_mul,List.take_zero,List.nil_append,Nat.zero_add];rw[List.drop_append_of_le_length (by omega),List.drop_of_length_le (by omega),List.nil_append]
  |i+1=>
   have ih:=a8l us i u (by simpa using hi) (fun x hx=>h x (List.mem_cons_of_mem _ hx)) hu;simp only[List.set_cons_succ,List.flatMap_cons];have e1:(i+1)*sz=(a0g v).length+i*sz:=by rw[Nat.succ_mul];omega
   rw[ih,e1,List.take_length_add_append,Nat.add_assoc,List.drop_length_add_append];simp only[List.append_assoc]
structure Elem {α:Type} (R:Mem->Value->α->Prop) (sz:Nat):Prop where
 mono:a2Q R
 size:∀(h:Mem) (u:Value) (x:α),R h u x->u.cells.size=sz
 one:∀(h:Mem) (u:Value) (x:α),R h u x->∀c∈a0g u,c.oneCell'=true
 pos:0<sz
theorem a0c.elem(k:IntKind):Elem (a0c k) 1:=⟨a0c.mono k,by rintro h u x rfl;rfl,by rintro h u x rfl c a;simp[a0g,Value.cells]at a;subst a;rfl,Nat.one_pos⟩
theorem a0M.elem(k:IntKind):Elem (a0M k) 1:=⟨a0M.mono k,by rintro h u x rfl;rfl,by rintro h u x rfl c a;simp[a0g,Value.cells]at a;subst a;rfl,Nat.one_pos⟩
theorem SlV.elem{α:Type}{R:Mem->Value->α->Prop}{sz:Nat}(h:Elem R sz):Elem (SlV R sz) 1:=
 ⟨SlV.mono h.mono sz,by rintro h u x ⟨ao,cap,rfl,_⟩;rfl,by rintro h u x ⟨ao,cap,rfl,_⟩ c a;simp[a0g,Value.cells]at a;subst a;rfl,Nat.one_pos⟩
def OL{α:Type}(R:Mem->Value->α->Prop)(sz:Nat)(X:Nat->Bool)(base:Nat)(e:TypeId)(w:World)(ao:Option Addr)(cap:Nat)(l:List α):Prop:=
 (∀k,ob ao k=true->X k=false)/\
 ∃us:List Value,us.length=l.length/\(∀u∈us,u.cells.size=sz)/\(∀u∈us,∀c∈a0g u,c.oneCell'=true)/\w.ownsRow base e sz (.slice ao l.length cap) l.length (us.flatMap a0g)/\
  ∀i (hi:i<us.length) (hi':i<l.length),R (mk (un X ao) w) us[i] l[i]
section
variable {α:Type} {R:Mem->Value->α->Prop} {sz:Nat} {X:Nat->Bool} {base:Nat} {e:TypeId} {w:World} {ao:Option Addr} {cap:Nat} {l:List α}
theorem OL.nil(R:Mem->Value->α->Prop)(sz:Nat)(X:Nat->Bool)(base:Nat)(e:TypeId)(w:World):OL R sz X base e w none 0 []:=
 ⟨fun _ h=>by simp[ob]at h,[],rfl,by simp,by simp,World.ownsRow_nil w base e sz,fun i hi=>by simp at hi⟩
theorem OL.form(h:OL R sz X base e w ao cap l):(ao=none/\cap=0/\l= [])\/∃g a,ao=some ⟨g,0,none⟩/\base<=g/\w.heap[g]? =some (.cells a e (0,0))/\l.length<=cap/\cap<=maxLen/\a.size=cap*sz:=by
 obtain⟨_,us,p,q,_,⟨r,i⟩,s⟩:=h;rcases i with⟨b,o⟩|⟨g,c,a,b,j,k,m,n,d,f⟩
 ·left
  simp at b;exact⟨b.1,b.2.2,List.eq_nil_of_length_eq_zero o⟩
 ·right
  simp at b;obtain⟨rfl,rfl⟩:=b;exact⟨g,a,rfl,j,k,m,n,d⟩
theorem OL.block(h:OL R sz X base e w ao cap l){k:Nat}(b:ob ao k=true):base<=k/\k<w.heap.size:=by
 rcases h.form with⟨rfl,_⟩|⟨g,c,rfl,d,a,_⟩
 ·simp[ob]at b
 ·have:g=k:=by simpa[ob]using b
  subst this;refine⟨d,?_⟩;by_cases f:g<w.heap.size
  ·exact f
  ·rw[Array.getElem?_eq_none (by omega)]at a;simp at a
theorem OL.ob_lt(h:OL R sz X base e w ao cap l){k:Nat}(b:k<base):ob ao k=false:=by
 cases a:ob ao k
 ·rfl
 ·have:=h.block a;omega
theorem OL.lenCap(h:OL R sz X base e w ao cap l):l.length<=cap:=by
 rcases h.form with⟨_,_,rfl⟩|⟨g,a,_,_,_,b,_⟩
 ·simp
 ·exact b
theorem OL.hd(h:OL R sz X base e w ao cap l):Hd ao l.length:=by
 intro b;rcases h.form with⟨_,_,rfl⟩|⟨g,a,rfl,_⟩
 ·simp at b
 ·exact⟨g,0,rfl⟩
theorem OL.cells(h:OL R sz X base e w ao cap l):∃us:List Value,us.length=l.length/\(∀u∈us,u.cells.size=sz)/\(∀u∈us,∀c∈a0g u,c.oneCell'=true)/\ (∀j u,(us.flatMap a0g)[j]? =some u->w.cell? (adr ao j)=some u/\w.frozen? (adr ao j)=false)/\∀i (hi:i<us.length) (A:i<l.length),R (mk (un X ao) w) us[i] l[i]:=by
 have z:=h.form;obtain⟨hx,us,r,t,p,⟨v,x⟩,y⟩:=h;refine⟨us,r,t,p,fun j u k=>?_,y⟩;have f:j<l.length*sz:=by
  rw[<-v];exact(List.getElem?_eq_some_iff.1 k).1
 rcases z with⟨_,_,rfl⟩|⟨g,n,rfl,C,q,D,E,s⟩
 ·simp at f
 rcases x with⟨m,F⟩|⟨B,c,a,m,_,b,_,_,_,o⟩
 ·simp at m
 simp at m;obtain⟨rfl,rfl⟩:=m;rw[q]at b;obtain rfl:n=a:=by simpa using b
 rw[<-o,List.getElem?_take_of_lt f]at k;have d:adr (some ⟨g,0,none⟩) j=⟨g,j,none⟩:=by simp[adr]
 rw[d];simp only[Array.getElem?_toList]at k;simp[World.cell?,World.frozen?,q,k]
theorem OL.sl(n:Elem R sz)(h:OL R sz X base e w ao cap l):Sl R sz (mk X w) ao l:=by
 refine⟨h.hd,fun i hi=>?_⟩;have p:=h.form;have hx:=h.1;obtain⟨us,u,c,_,f,m⟩:=h.cells;have b:i<us.length:=by omega
 refine⟨us[i],c _ (List.getElem_mem _),fun j r=>?_,n.mono _ _ _ _ (a2T fun k _ s=>a0v s) (m i b hi)⟩;have t:us[i].cells.size=sz:=c _ (List.getElem_mem _);have a:=a2p us i j b c (by omega);have o:(a0g us[i])[j]? =some us[i].cells[j]:=by simp[a0g,r]
 rw[o]at a;have q:=(f _ _ a).1;unfold mk;have:X (adr ao (i*sz+j)).block=false:=by
  rcases p with⟨_,_,rfl⟩|⟨g,d,rfl,_⟩
  ·simp at hi
  ·exact hx _ (by simp[ob,adr])
 rw[this];simpa using q
theorem OL.cell(c:a2D R)(h:OL R 1 X base e w ao cap l)(i:Nat)(hi:i<l.length):∃u,w.cell? (adr ao i)=some u/\w.frozen? (adr ao i)=false/\R (mk (un X ao) w) u l[i]:=by
 obtain⟨us,n,d,_,g,f⟩:=h.cells;have b:i<us.length:=by omega
 have k:us[i].cells.size=1:=d _ (List.getElem_mem _);have a:=a2p us i 0 b d (by omega);have j:(a0g us[i])[0]? =some us[i].cells[0]:=by simp[a0g]
 rw[j]at a;have m:=c _ _ _ (f i b hi);have:=g _ _ a;simp only[Nat.mul_one,Nat.add_zero,m]at this;exact⟨us[i],this.1,this.2,f i b hi⟩
theorem OL.ext(B:Elem R sz){Y Z:Nat->Bool}{s:World}(h:OL R sz X base e w ao cap l)(p:ExtX Y w s)(q:∀k,k<w.heap.size->Y k=true->X k=true)(r:∀k,k<w.heap.size->Z k=true->X k=true):OL R sz Z base e s ao cap l:=by
 have j:=fun k (a:ob ao k=true)=>h.block a;obtain⟨hx,us,t,u,f,o,x⟩:=h;refine⟨fun k a=>?_,us,t,u,f,?_,fun i hi m=>B.mono _ _ _ _ (a0Z p (fun k a C=>a0v (q k a C)) (fun k a hz=>?_)) (x i hi m)⟩
 ·cases b:Z k
  ·rfl
  ·have:=r k (j k a).2 b;rw[hx k a]at this;simp at this
 ·refine⟨o.1,?_⟩
  rcases o.2 with v|⟨g,c,d,n,y,z,A⟩
  ·exact .inl v
  ·refine .inr ⟨g,c,d,n,y,?_,A⟩
   simp at n;obtain⟨rfl,rfl⟩:=n;have a:ob (some ⟨g,0,none⟩) g=true:=by simp[ob]
   rw[p.block g (j g a).2,z];cases b:Y g
   ·rfl
   ·have:=q g (j g a).2 b;rw[hx g a]at this;simp at this
 ·cases b:Z k
  ·simp[un,b]at hz;exact a0A hz
  ·exact a0v (r k a b)
theorem OL.ext0(c:Elem R sz){a:World}(h:OL R sz X base e w ao cap l)(b:Ext w a):OL R sz X base e a ao cap l:=
 h.ext c b (fun k _ d=>by simp[noY]at d) (fun _ _ h=>h)
theorem ExtX.own{Y:Nat->Bool}{a b:World}(h:ExtX Y a w)(f:OL R sz X base e w ao cap l)(g:a.heap.size<=base)(c:ExtX (ob ao) w b):ExtX Y a b:=
 h.then_ c fun i hi _=>by
  cases d:ob ao i
  ·rfl
  ·have:=f.block d;omega
theorem OL.unX(h:OL R sz X base e w ao cap l)(a:∀k,X k=true->k<w.heap.size):∀k,un X ao k=true->k<w.heap.size:=by
 intro k b;by_cases hx:X k=true
 ·exact a k hx
 ·have:ob ao k=true:=by simpa[un,hx]using b
  exact(h.block this).2
theorem OL.base_le(h:OL R sz X base e w ao cap l){b':Nat}(p:b'<=base):OL R sz X b' e w ao cap l:=by
 obtain⟨hx,us,f,i,b,d,k⟩:=h;refine⟨hx,us,f,i,b,⟨d.1,?_⟩,k⟩;rcases d.2 with j|⟨g,c,a,n,o,m⟩
 ·exact .inl j
 ·exact .inr ⟨g,c,a,n,by omega,m⟩
end
section
variable {α:Type} {R:Mem->Value->α->Prop} {sz:Nat} {X:Nat->Bool} {base:Nat} {e:TypeId} {w:World} {ao:Option Addr} {cap:Nat} {l:List α} {P:Program}
def At(w:World)(ao:Option Addr)(us:List Value):Prop:=Hd ao us.length/\∀j u,(us.flatMap a0g)[j]? =some u->w.cell? (adr ao j)=some u
theorem Sl.at_(hR:Elem R sz)(h:Sl R sz (mk X w) ao l):∃us:List Value,us.length=l.length/\At w ao us/\∀i (hi:i<us.length) (hi':i<l.length),R (mk X w) us[i] l[i]:=by
 have hpos:=hR.pos;have key:∀n,n<=l.length->∃us:List Value,us.length=n/\(∀j u,(us.flatMap a0g)[j]? =some u->w.cell? (adr ao j)=some u)/\∀i (hi:i<us.length) (hi':i<l.length),R (mk X w) us[i] l[i]:=by
  intro n
  induction n with
  |zero=>intro _;exact⟨[],rfl,by simp,by simp⟩
  |succ n ih=>
   intro hn;obtain⟨us,h1,h2,h3⟩:=ih (by omega);obtain⟨u,h4,h5,h6⟩:=h.2 n (by omega);have hsz:∀v∈us,v.cells.size=sz:=by
    intro v hv;obtain⟨i,hi,rfl⟩:=List.getElem_of_mem hv;exact hR.size _ _ _ (h3 i hi (by omega))
   refine⟨us++[u],by simp[h1],fun j x hj=>?_,fun i hi hi'=>?_⟩
   ·rw[List.flatMap_append]at hj
    have hfl:=a0C us hsz;by_cases hlt:j<us.length*sz
    ·rw[List.getElem?_append_left (by omega)]at hj;exact h2 j x hj
    ·rw[List.getElem?_append_right (by omega),hfl]at hj
     simp only[List.flatMap_cons,List.flatMap_nil,List.append_nil,a0g]at hj;obtain⟨hj1,hj2⟩:=List.getElem?_eq_some_iff.1 hj;have:=h5 (j - us.length*sz) (by simpa using hj1);have ee:n*sz+(j - us.length*sz)=j:=by rw[h1]at hlt |-;omega
     rw[ee]at this;rw[a1o this];simp[<-hj2]
   ·by_cases hlt:i<us.length
    ·simpa[List.getElem_append_left hlt]using h3 i hlt hi'
    ·have:i=n:=by simp at hi;omega
     subst this;simpa[List.getElem_append_right,h1]using h6
 obtain⟨us,h1,h2,h3⟩:=key l.length (Nat.le_refl _);exact⟨us,h1,⟨by rw[h1];exact h.1,h2⟩,h3⟩
theorem a8m{a:Addr}(h:a.spot=none)(j:Nat):adr (some a) j=a.add j:=by
 cases a;simp at h;subst h;rw[Addr.add_lit];rfl
theorem a2f{c:World}{a:Option Addr}(d:ExtX (ob ao) w c)(e:a=ao\/∃g,a=some ⟨g,0,none⟩/\w.heap.size<=g):Le (mk (un X ao) w) (mk (un X a) c):=by
 refine a0Z d (fun k _ b=>a0A b) fun k b hz=>?_;rcases e with rfl|⟨g,rfl,f⟩
 ·exact hz
 ·by_cases hx:X k=true
  ·exact a0v hx
  ·have:g=k:=by simpa[un,hx,ob]using hz
   omega
theorem OL.run_append{t by_:Nat}{z:Value}(T:SliceT P t e sz by_ z)(hzs:z.cells.size=sz)(hR:Elem R sz)(h:OL R sz X base e w ao cap l)(hbase:base<=w.heap.size)(hX:∀k,X k=true->k<w.heap.size)(asl:Option Addr)(cs:Nat)(us':List Value)(xs:List α)(hat:At w asl us')(hlen:us'.length=xs.length)(hxs:∀i (hi:i<us'.length) (hi':i<xs.length),R (mk (un X ao) w) us'[i] xs[i])(hroom:(l.length+xs.length)*by_<=140737488355328)(hmax:l.length+xs.length<=9223372036854775807)(ty:TypeId):∃ao' cap' w',(Builtin.append_ #[t,t] ty #[.slice ao l.length cap, .slice asl xs.length cs]).run P w= .ok (.slice ao' (l++xs).length cap') w'/\OL R sz X base e w' ao' cap' (l++xs)/\ExtX (ob ao) w w'/\ (ao'=ao\/∃g,ao'=some ⟨g,0,none⟩/\w.heap.size<=g):=by
 obtain⟨i,hi,hz,hsz,hby⟩:=info_parts T.info;have hpos:=hR.pos;have hus':∀u∈us',u.cells.size=sz:=by
  intro v hv;obtain⟨i,hi,rfl⟩:=List.getElem_of_mem hv;exact hR.size _ _ _ (hxs i hi (by omega))
 have hone':∀u∈us'.flatMap a0g,u.oneCell'=true:=by
  intro c hc;obtain⟨v,hv,hcv⟩:=List.mem_flatMap.1 hc;obtain⟨i,hi,rfl⟩:=List.getElem_of_mem hv;exact hR.one _ _ _ (hxs i hi (by omega)) c hcv
 by_cases hxe:xs= []
 ·subst hxe
  have hu0:us'= []:=List.eq_nil_of_length_eq_zero (by simpa using hlen);subst hu0;refine⟨ao,cap,w,?_,by simpa using h,ExtX.refl w, .inl rfl⟩;have hlc:=h.lenCap;have hsz':=hsz;subst hsz;cases asl with
  |none=>cases ao<;>simp[Builtin.append_,run_underlying T.und,sizeOf,typeInfo,hi,Builtin.lenOf,Builtin.firstCells,hlc,storeCells]
  |some asl=>cases ao<;>simp[Builtin.append_,run_underlying T.und,sizeOf,typeInfo,hi,Builtin.lenOf,Builtin.firstCells,loadCells,loadCellsFrom,hlc,storeCells]
 have hxpos:0<xs.length:=by
  cases xs with
  |nil=>exact absurd rfl hxe
  |cons x xs=>simp
 obtain⟨sb,so,rfl⟩:=hat.1 (by omega);have hnews:∀j u,(us'.flatMap a0g)[j]? =some u->w.cell? ((⟨sb,so,none⟩:Addr).add j)=some u:=by
  intro j u hj;rw[<-a8m rfl];exact hat.2 j u hj
 have hnl:(us'.flatMap a0g).length=xs.length*i.size:=by rw[a0C us' hus',hlen,hsz]
 have hx:=h.1;have hcells:=h.cells;have hform:=h.form;obtain⟨_,us,h1,h2,h22,h3,h5⟩:=h;have hul:(us.flatMap a0g).length=l.length*i.size:=by rw[a0C us h2,h1,hsz]
 have hfl:(us++us').flatMap a0g=us.flatMap a0g++us'.flatMap a0g:=List.flatMap_append;have hnew:∀u∈us++us',u.cells.size=sz:=by
  intro u hu;rcases List.mem_append.1 hu with hu|hu
  ·exact h2 u hu
  ·exact hus' u hu
 have hnew1:∀u∈us++us',∀c∈a0g u,c.oneCell'=true:=by
  intro u hu c hc;rcases List.mem_append.1 hu with hu|hu
  ·exact h22 u hu c hc
  ·exact hone' c (List.mem_flatMap.2 ⟨u,hu,hc⟩)
 have hRs:∀(ao':Option Addr) (w':World),ExtX (ob ao) w w'->(ao'=ao\/∃g,ao'=some ⟨g,0,none⟩/\w.heap.size<=g)->
   ∀i (hi:i<(us++us').length) (hi':i<(l++xs).length),R (mk (un X ao') w') (us++us')[i] (l++xs)[i]:=by
  intro ao' w' hE ho i hi hi';have hle:=a2f (X:=X) hE ho;by_cases hlt:i<us.length
  ·simpa[List.getElem_append_left hlt,List.getElem_append_left (show i<l.length by omega)]using hR.mono _ _ _ _ hle (h5 i hlt (by omega))
  ·have hb1:i - us.length<us'.length:=by simp at hi;omega
   have:=hR.mono _ _ _ _ hle (hxs (i - us.length) hb1 (by omega));simpa[List.getElem_append_right (show us.length<=i by omega),List.getElem_append_right (show l.length<=i by omega),h1]using this
 have grown:∀old,old<l.length+xs.length->∃g cur,g=w.heap.size/\cur=(us.flatMap a0g).toArray++(us'.flatMap a0g).toArray++Builtin.zeroCells z.cells (grownCap w (l.length+xs.length) old e - (l.length+xs.length))/\
   OL R sz X base e (w.drew.alloc (.cells cur e)) (some ⟨g,0,none⟩) (grownCap w (l.length+xs.length) old e) (l++xs)/\ExtX (ob ao) w (w.drew.alloc (.cells cur e)):=by
  intro old ho;refine⟨_,_,rfl,rfl,?_,?_⟩
  ·have hge:=grownCap_ge w (l.length+xs.length) old e
   have hcm:grownCap w (l.length+xs.length) old e<=maxLen:=grownCap_le_maxLen w (l.length+xs.length) old e (by simpa[maxLen]using hmax);have hE:ExtX (ob ao) w (w.drew.alloc (.cells ((us.flatMap a0g).toArray++(us'.flatMap a0g).toArray++Builtin.zeroCells z.cells (grownCap w (l.length+xs.length) old e - (l.length+xs.length))) e)):=((ExtX.refl w).drew).alloc _;refine⟨fun k hk=>?_,us++us',by simp[h1,hlen],hnew,hnew1,⟨by rw[hfl];simp[hul,hnl,hsz,Nat.add_mul], .inr ⟨w.heap.size,_,_,by simp,hbase,heap_alloc_new w.drew _,by simpa using hge,hcm,?_,?_⟩⟩,hRs _ _ hE (.inr ⟨_,rfl,Nat.le_refl _⟩)⟩
   ·have:w.heap.size=k:=by simpa[ob]using hk
    cases hh:X k
    ·rfl
    ·have:=hX k hh;omega
   ·simp only[Array.size_append,List.size_toArray,size_zeroCells,hzs,hul,hnl,hsz,<-Nat.add_mul]
    congr 1;omega
   ·rw[hfl]
    simp only[Array.toList_append,List.length_append];have hll:(l.length+xs.length)*sz=(us.flatMap a0g++us'.flatMap a0g).length:=by simp[hul,hnl,hsz,Nat.add_mul]
    rw[hll];exact List.take_left
  ·exact((ExtX.refl w).drew).alloc _
 have hll:(l++xs).length=l.length+xs.length:=List.length_append;rcases hform with⟨rfl,rfl,rfl⟩|⟨g,cur,rfl,h6,h7,h8,h9,h10⟩
 ·have hu0:us= []:=List.eq_nil_of_length_eq_zero (by simpa using h1)
  subst hu0;obtain⟨g,cur,rfl,hcur,hOL,hE⟩:=grown 0 (by simp;omega);have hr:=run_append_nil (P:=P) w t ty e i z T.und hi hz ⟨sb,so,none⟩ xs.length cs (us'.flatMap a0g) hnl hnews hxpos (by simp at hmax;omega) (by simp at hroom;rw[hby];omega);simp only[List.flatMap_nil,List.length_nil,Nat.zero_add,List.nil_append,Array.empty_append]at hOL hE hcur hr |-;subst hcur;exact⟨_,_,_,hr,hOL,hE, .inr ⟨_,rfl,Nat.le_refl _⟩⟩
 ·by_cases hroom':l.length+xs.length<=cap
  ·have hfit:l.length*i.size+(us'.flatMap a0g).length<=cur.size:=by rw[hnl,h10,<-hsz,<-Nat.add_mul];exact Nat.mul_le_mul_right _ hroom'
   have hr:=run_append_room (P:=P) w t ty e i T.und hi g l.length cap cur h7 ⟨sb,so,none⟩ xs.length cs (us'.flatMap a0g) hnl hnews hone' hroom' hfit;have hE:ExtX (ob (some ⟨g,0,none⟩)) w (w.setRow g (cur.toList.take (l.length*i.size)++us'.flatMap a0g++cur.toList.drop (l.length*i.size+(us'.flatMap a0g).length)).toArray):=
    ⟨rfl,rfl,rfl,by simp,fun k _ hk=>setRow_other w g k _ (fun ek=>by subst ek;simp[ob]at hk)⟩
   refine⟨_,_,_,by rw[hll];exact hr,⟨hx,us++us',by simp[h1,hlen],hnew,hnew1,⟨by rw[hfl];simp[hul,hnl,hsz,Nat.add_mul], .inr ⟨g,cap,_,by rw[hll],h6,setRow_heap w g cur _ e _ h7,by rw[hll];exact hroom',h9,?_,?_⟩⟩,hRs _ _ hE (.inl rfl)⟩,hE, .inl rfl⟩
   ·simp only[List.size_toArray,List.length_append,List.length_take,List.length_drop,Array.length_toList];omega
   ·rw[hfl,hll]
    rcases h3.2 with⟨hv,_⟩|⟨g',c',cur',hv,_,h7',_,_,_,h11⟩
    ·simp at hv
    simp at hv;obtain⟨rfl,rfl⟩:=hv;rw[h7]at h7';obtain rfl:cur=cur':=by simpa using h7'
    have e1:cur.toList.take (l.length*i.size)=us.flatMap a0g:=by rw[hsz];exact h11
    rw[e1];have hll2:(l.length+xs.length)*sz=(us.flatMap a0g++us'.flatMap a0g).length:=by simp[hul,hnl,hsz,Nat.add_mul]
    rw[hll2];exact List.take_left
  ·have holds:∀j u,(us.flatMap a0g)[j]? =some u->w.cell? ((⟨g,0,none⟩:Addr).add j)=some u:=h3.cells (g:=g) rfl
   have hr:=run_append_grow (P:=P) w t ty e i z T.und hi hz ⟨g,0,none⟩ l.length cap (us.flatMap a0g) hul holds ⟨sb,so,none⟩ xs.length cs (us'.flatMap a0g) hnl hnews (by omega) (by omega) (growslice_fits (by omega) (by rw[hby];exact hroom));obtain⟨g',cur',rfl,hcur,hOL,hE⟩:=grown cap (by omega);subst hcur;exact⟨_,_,_,by rw[hll];exact hr,hOL,hE, .inr ⟨_,rfl,Nat.le_refl _⟩⟩
theorem OL.run_make{t g:Nat}{z:Value}(T:SliceT P t e sz g z)(o:Elem R sz)(m:α)(hz:∀h,R h z m)(C:∀k,X k=true->k<w.heap.size)(d:base<=w.heap.size)(kl A:IntKind)(n:Nat)(s:g*n<=281474976710656)(l:n<=9223372036854775807):∃ao v,(Instr.makeSlice t (.int kl (n:Int)) (.int A (n:Int))).run P w= .ok (.slice ao n n) v/\OL R sz X base e v ao n (List.replicate n m)/\Ext w v:=by
 obtain⟨i,hi,q,f,p⟩:=info_parts T.info;have a:z.cells.size=sz:=o.size (fun _=>none) z m (hz _);have c:=o.pos;have y:=Go.run_make (P:=P) w t e i z T.und hi q kl A n n (by omega) (Int.le_refl _) (by rw[p,<-Int.natCast_mul];omega) (by omega);simp only[Int.toNat_natCast]at y;refine⟨_,_,y,⟨fun k F=>?_,List.replicate n z,by simp,by intro u b;rw[List.eq_of_mem_replicate b];exact a,by intro u b;rw[List.eq_of_mem_replicate b];exact o.one (fun _=>none) z m (hz _),⟨?_, .inr ⟨w.heap.size,n,_,by simp,d,heap_alloc_new w _,by simp,by simpa[maxLen]using l,by rw[size_madeCells,f],?_⟩⟩,fun i hi E=>by simpa using hz _⟩,(ExtX.refl w).alloc _⟩
 ·have:w.heap.size=k:=by simpa[ob]using F
  cases D:X k
  ·rfl
  ·have:=C k D;omega
 ·rw[a0C (sz:=sz) _ (by intro u b;rw[List.eq_of_mem_replicate b];exact a)]
  simp
 ·apply List.ext_getElem?
  intro j;simp only[List.length_replicate];by_cases r:j<n*sz
  ·rw[List.getElem?_take_of_lt r]
   have x:=a2p (sz:=sz) (List.replicate n z) (j/sz) (j%sz) (by simpa using Nat.div_lt_of_lt_mul (by rw[Nat.mul_comm];exact r)) (by intro u b;rw[List.eq_of_mem_replicate b];exact a) (Nat.mod_lt _ c);have B:j/sz*sz+j%sz=j:=by rw[Nat.mul_comm];exact Nat.div_add_mod j sz
   rw[B]at x;rw[x];simp[madeCells,f,r,a0g,a];rw[Array.getElem?_eq_getElem (by rw[a];exact Nat.mod_lt _ c)];rw[getElem!_pos]
  ·rw[List.getElem?_eq_none (by simp[size_madeCells,f];omega),List.getElem?_eq_none]
   rw[a0C (sz:=sz) _ (by intro u b;rw[List.eq_of_mem_replicate b];exact a)];simp;omega
theorem OL.run_store{t:TypeId}{ti:TypeInfo}(ht:P.info? t=some ti)(I:ti.size=sz)(A:Elem R sz)(h:OL R sz X base e w ao cap l)(i:Nat)(hi:i<l.length)(u:Value)(x:α)(J:R (mk (un X ao) w) u x):∃K,(storeVar t (adr ao (i*sz)) u).run P w= .ok () K/\OL R sz X base e K ao cap (l.set i x)/\ExtX (ob ao) w K:=by
 have b:=A.size _ _ _ J;have z:=A.one _ _ _ J;have m:=h.form;obtain⟨hx,us,L,M,C,T,U⟩:=h;rcases m with⟨rfl,rfl,rfl⟩|⟨g,a,rfl,V,D,N,W,f⟩
 ·simp at hi
 have p:adr (some ⟨g,0,none⟩) (i*sz)=⟨g,i*sz,none⟩:=by simp[adr]
 have y:(i+1)*sz<=l.length*sz:=Nat.mul_le_mul_right _ hi;have H:l.length*sz<=cap*sz:=Nat.mul_le_mul_right _ N;rw[Nat.succ_mul]at y;have G:=run_storeCells_at P g (i*sz) e (a0g u) 0 a w D (by simp[a0g,b,f];omega) z;have Q:ExtX (ob (some ⟨g,0,none⟩)) w (w.setRow g (a.toList.take (i*sz+0)++a0g u++a.toList.drop (i*sz+0+(a0g u).length)).toArray):=
  ⟨rfl,rfl,rfl,by simp,fun k _ Z=>setRow_other w g k _ (fun S=>by subst S;simp[ob]at Z)⟩
 have s:∀v∈us.set i u,v.cells.size=sz:=by
  intro v c;rcases List.mem_or_eq_of_mem_set c with c|rfl
  ·exact M v c
  ·exact b
 refine⟨_,?_,⟨hx,us.set i u,by simp[L],s,?_,⟨?_, .inr ⟨g,cap,_,by simp,V,setRow_heap w g a _ e _ D,by simpa using N,W,?_,?_⟩⟩,?_⟩,Q⟩
 ·rw[p]
  simp[storeVar,sizeOf,typeInfo,ht,I,b];simpa[a0g]using G
 ·intro v c
  rcases List.mem_or_eq_of_mem_set c with c|rfl
  ·exact C v c
  ·exact z
 ·rw[a0C _ s];simp[L]
 ·have d:(a0g u).length=sz:=by simp[a0g,b]
  simp only[List.size_toArray,List.length_append,List.length_take,List.length_drop,Array.length_toList,d,f,Nat.add_zero];omega
 ·rcases T.2 with⟨c,_⟩|⟨g',c',n,c,_,o,_,_,_,B⟩
  ·simp at c
  simp at c;obtain⟨rfl,rfl⟩:=c;rw[D]at o;obtain rfl:a=n:=by simpa using o
  have d:(a0g u).length=sz:=by simp[a0g,b]
  have E:a.toList.length=cap*sz:=by simp[f]
  rw[a8l us i u (by omega) M b,<-B];simp only[List.length_set,Nat.add_zero];have O:(a.toList.take (i*sz)).length=i*sz:=by rw[List.length_take,E];omega
  rw[d,List.take_append,List.take_of_length_le (by rw[List.length_append,O,d];omega),List.length_append,O,d,List.take_take,Nat.min_eq_left (by omega),List.drop_take]
 ·intro j Y F
  have r:Le (mk (un X (some ⟨g,0,none⟩)) w) (mk (un X (some ⟨g,0,none⟩)) _):=a2f Q (.inl rfl);by_cases q:i=j
  ·subst q;simpa using A.mono _ _ _ _ r J
  ·have:=A.mono _ _ _ _ r (U j (by simpa using Y) (by simpa using F))
   simpa[List.getElem_set,q]using this
end
end Go.Rep
namespace Go.Rep
open Go.RowKit
section
variable {P:Program} {ops:Array Oper} {Q:Exit->Act->World->Prop} {rest:List Oper} {a:Act} {w:World}
variable {α:Type} {R:Mem->Value->α->Prop} {sz:Nat} {X:Nat->Bool} {base:Nat} {e:TypeId} {ao:Option Addr} {cap:Nat} {l:List α}
variable {d:Option Tmp} {ty:TypeId} {ps:String} {af:Array Edge}
theorem OL.lit(m:Elem R sz)(q:∀k,X k=true->k<w.heap.size)(c:base<=w.heap.size)(us:List Value)(l:List α)(d:Array Value)(f:d=(us.flatMap a0g).toArray)(a:us.length=l.length)(n:∀i (hi:i<us.length) (g:i<l.length),R (mk X w) us[i] l[i])(h:l.length<=9223372036854775807):OL R sz X base e (w.alloc (.cells d e)) (some ⟨w.heap.size,0,none⟩) l.length l:=by
 subst f;have b:∀u∈us,u.cells.size=sz:=by
  intro v o;obtain⟨i,hi,rfl⟩:=List.getElem_of_mem o;exact m.size _ _ _ (n i hi (by omega))
 have p:Ext w (w.alloc (.cells (us.flatMap a0g).toArray e)):=(ExtX.refl w).alloc _;refine⟨fun k j=>?_,us,a,b,?_,⟨by rw[a0C us b,a], .inr ⟨w.heap.size,_,_,rfl,c,heap_alloc_new w _,Nat.le_refl _,by unfold maxLen;exact h,by simp[a0C us b,a],?_⟩⟩,fun i hi g=>?_⟩
 ·have:w.heap.size=k:=by simpa[ob]using j
  cases r:X k
  ·rfl
  ·have:=q k r;omega
 ·intro v o
  obtain⟨i,hi,rfl⟩:=List.getElem_of_mem o;exact m.one _ _ _ (n i hi (by omega))
 ·rw[List.take_of_length_le]
  simp[a0C us b,a]
 ·refine m.mono _ _ _ _ (a0Z p (fun k _ j=>by simp[noY]at j) fun k j hz=>?_) (n i hi g)
  by_cases hx:X k=true
  ·exact hx
  ·have:w.heap.size=k:=by simpa[un,hx,ob]using hz
   omega
theorem b5F(X:Nat->Bool)(w:World)(o:Obj):Le (mk X w) (mk (un X (some ⟨w.heap.size,0,none⟩)) (w.alloc o)):=
 a0Z ((ExtX.refl (Y:=noY) w).alloc o) (fun k _ a=>by simp[noY]at a) fun k a hz=>by
  by_cases hx:X k=true
  ·exact hx
  ·have:w.heap.size=k:=by simpa[un,hx,ob]using hz
   omega
theorem b3l(w:World)(a:Array Value)(e:TypeId)(u:Value)(b:a=u.cells):At (w.alloc (.cells a e)) (some ⟨w.heap.size,0,none⟩) [u]:=by
 subst b;refine⟨fun _=>⟨_,_,rfl⟩,fun j c d=>?_⟩;simp only[List.flatMap_cons,List.flatMap_nil,List.append_nil,a0g,Array.getElem?_toList]at d;have f:adr (some ⟨w.heap.size,0,none⟩) j=⟨w.heap.size,j,none⟩:=by simp[adr]
 have g:=heap_alloc_new w (.cells u.cells e);rw[f];unfold World.cell?;rw[g];simpa using d
theorem a3p{t m:Nat}{z:Value}{f:Array Value}{s x:Operand}(T:SliceT P t e sz m z)(C:z.cells.size=sz)(A:Elem R sz)(B:base<=w.heap.size)(G:∀k,X k=true->k<w.heap.size)(I:a.eval s= .slice ao l.length cap)(hx:a.eval x= .slice (some ⟨w.heap.size,0,none⟩) 1 1)(h:OL R sz X base e w ao cap l)(u:Value)(y:α)(o:f=u.cells)(L:R (mk (un X ao) w) u y)(j:(l.length+1)*m<=140737488355328)(p:l.length+1<=9223372036854775807)(K:∀c b q,OL R sz X base e q c b (l++[y])->ExtX (ob ao) w q->(c=ao\/∃g,c=some ⟨g,0,none⟩/\w.heap.size<=g)->wpList P ops Q rest (a.put d (.slice c (l++[y]).length b)) q):wpList P ops Q (⟨d, .call {callee:= .builtin .append,args:=#[s,x],argTypes:=#[t,t]},ty,ps,af,none⟩::rest) a (w.alloc (.cells f e)):=by
 refine wpList_plain rfl fun M v=>?_;have r:Ext w (w.alloc (.cells f e)):=(ExtX.refl w).alloc _;have J:w.heap.size+1=(w.alloc (.cells f e)).heap.size:=by simp
 obtain⟨c,b,q,D,E,F,n⟩:=(h.ext0 A r).run_append (P:=P) T C A (by omega) (fun k H=>by have:=G k H;omega) (some ⟨w.heap.size,0,none⟩) 1 [u] [y] (b3l w f e u o) rfl
  (fun i hi _=>by
           have:i=0:=by simpa using hi
           subst this;exact A.mono _ _ _ _ (a0k r) L) (by simpa using j) (by simpa using p) ty
 unfold Oper.wp execOp;simp only[resolve,invoke,builtin,Sem.run_bind,Sem.run_pure,Result.andThen_ok,List.map_toArray,List.map_cons,List.map_nil,I,hx];rw[show([y]:List α).length=1 from rfl]at D;rw[D];refine v _ _ (K c b q E ((ExtX.of r).trans F) ?_);rcases n with n|⟨g,n,N⟩
 ·exact .inl n
 ·exact .inr ⟨g,n,by omega⟩
theorem a4i{t n:Nat}{z:Value}{s x:Operand}{f:Option Addr}{y:Nat}(T:SliceT P t e sz n z)(v:z.cells.size=sz)(A:Elem R sz)(i:base<=w.heap.size)(D:∀k,X k=true->k<w.heap.size)(m:List α)(F:a.eval s= .slice ao l.length cap)(hx:a.eval x= .slice f m.length y)(h:OL R sz X base e w ao cap l)(hxs:Sl R sz (mk (un X ao) w) f m)(j:(l.length+m.length)*n<=140737488355328)(o:l.length+m.length<=9223372036854775807)(K:∀c b p,OL R sz X base e p c b (l++m)->ExtX (ob ao) w p->(c=ao\/∃g,c=some ⟨g,0,none⟩/\w.heap.size<=g)->wpList P ops Q rest (a.put d (.slice c (l++m).length b)) p):wpList P ops Q (⟨d, .call {callee:= .builtin .append,args:=#[s,x],argTypes:=#[t,t]},ty,ps,af,none⟩::rest) a w:=by
 refine wpList_plain rfl fun G u=>?_;obtain⟨us,B,q,r⟩:=hxs.at_ A;obtain⟨c,b,p,E,q,r,C⟩:=h.run_append (P:=P) T v A i D f y us m q B r j o ty;unfold Oper.wp execOp;simp only[resolve,invoke,builtin,Sem.run_bind,Sem.run_pure,Result.andThen_ok,List.map_toArray,List.map_cons,List.map_nil,F,hx,E];exact u _ _ (K c b p q r C)
theorem a1S{t f:Nat}{z:Value}{x y:Operand}{kl o:IntKind}{m:Int}(T:SliceT P t e sz f z)(r:Elem R sz)(l:α)(hz:∀h,R h z l)(X:Nat->Bool)(s:∀k,X k=true->k<w.heap.size)(base:Nat)(b:base<=w.heap.size)(n:Nat)(v:a.eval x= .int kl m)(u:a.eval y= .int o m)(A:m=(n:Int))(c:f*n<=281474976710656)(g:n<=9223372036854775807)(K:∀ao i,OL R sz X base e i ao n (List.replicate n l)->Ext w i->wpList P ops Q rest (a.put d (.slice ao n n)) i):wpList P ops Q (⟨d, .makeSlice t x y,ty,ps,af,none⟩::rest) a w:=by
 refine wpList_plain rfl fun C j=>?_;subst A;obtain⟨ao,i,B,p,q⟩:=OL.run_make (P:=P) T r l hz s b kl o n c g;unfold Oper.wp;simp[execOp,v,u,B,Result.andThen];exact j _ _ (K ao i p q)
theorem a1O{t:TypeId}{x y:Operand}{k:Nat}(n:TyI P t sz)(m:Elem R sz)(i:Nat)(hx:a.eval x= .pointer (some (adr ao k)))(o:k=i*sz)(h:OL R sz X base e w ao cap l)(hi:i<l.length)(u:Value)(v:α)(s:a.eval y=u)(r:R (mk (un X ao) w) u v)(K:∀b,OL R sz X base e b ao cap (l.set i v)->ExtX (ob ao) w b->wpList P ops Q rest (a.put d undef) b):wpList P ops Q (⟨d, .store t x y,ty,ps,af,none⟩::rest) a w:=by
 refine wpList_plain rfl fun z c=>?_;subst o;obtain⟨ti,q,f⟩:=n;obtain⟨b,p,g,j⟩:=h.run_store (P:=P) q f m i hi u v r;unfold Oper.wp;simp[execOp,hx,s,Instr.storeAt,Instr.sureAddr,p,Result.andThen];exact c _ _ (K b g j)
def a0z(ao:Option Addr)(i m sz:Nat):Option Addr:=if m=i then ao else ao.map (·.add (i*sz))
theorem Sl.sub{h:Mem}(s:Sl R sz h ao l)(i j m:Nat)(g:i<=j)(o:j<=m)(n:j<=l.length):Sl R sz h (a0z ao i m sz) ((l.take j).drop i):=by
 refine⟨fun r=>?_,fun k p=>?_⟩
 ·simp at r
  obtain⟨b,c,rfl⟩:=s.1 (by omega);have a:¬m=i:=by omega
  simp[a0z,a,Addr.add_lit]
 ·simp at p
  obtain⟨b,c,rfl⟩:=s.1 (by omega);have a:¬m=i:=by omega
  obtain⟨u,d,e,f⟩:=s.2 (i+k) (by omega);refine⟨u,d,fun q hq=>?_,by simpa using f⟩;have:=e q hq;simp only[a0z,a,if_false,Option.map_some,Addr.add_lit,adr,Option.getD_some]at this |-;rw[<-this,Nat.add_mul]
  congr 2
  omega
theorem a3C{t a:Nat}{z:Value}(T:SliceT P t e sz a z)(len cap:Nat)(f:IntKind)(i:Nat)(g:i<=len)(_:len<=cap)(w:World):(Instr.sliceAt t (.slice ao len cap) (some (.int f (i:Int))) none none).run P w= .ok (.slice (a0z ao i cap sz) (len - i) (cap - i)) w:=by
 obtain⟨ti,hi,hz,c,d⟩:=info_parts T.info;have b:(i:Int)<=len:=by omega
 simp[Instr.sliceAt,Instr.slice,run_underlying T.und,Instr.sliceBounds,run_sliceBound,b,sizeOf,typeInfo,hi,c,a0z]
theorem a4v{t a:Nat}{z:Value}(T:SliceT P t e sz a z)(len cap:Nat)(g h:IntKind)(i j:Nat)(k:i<=j)(l:j<=cap)(w:World):(Instr.sliceAt t (.slice ao len cap) (some (.int g (i:Int))) (some (.int h (j:Int))) none).run P w= .ok (.slice (a0z ao i cap sz) (j - i) (cap - i)) w:=by
 obtain⟨ti,hi,hz,d,f⟩:=info_parts T.info;have b:(i:Int)<=j:=by omega
 have c:(j:Int)<=cap:=by omega
 simp[Instr.sliceAt,Instr.slice,run_underlying T.und,Instr.sliceBounds,run_sliceBound,b,c,sizeOf,typeInfo,hi,d,a0z]
theorem a0H{t:TypeId}{x y:Operand}{k:Nat}{b:IntKind}{l:List Nat}{m:Int}(f:TyI P t 1)(i:Nat)(v:Nat)(hx:a.eval x= .pointer (some (adr ao k)))(n:k=i)(h:OL (a0c b) 1 X base e w ao cap l)(hi:i<l.length)(j:a.eval y= .int b m)(g:m=(v:Int))(K:∀c,OL (a0c b) 1 X base e c ao cap (l.set i v)->ExtX (ob ao) w c->wpList P ops Q rest (a.put d undef) c):wpList P ops Q (⟨d, .store t x y,ty,ps,af,none⟩::rest) a w:=
 a1O f (a0c.elem b) i hx (by omega) h hi (.int b m) v j (by rw[g];rfl) K
theorem OL.set1{t:TypeId}(o:TyI P t 1)(j:Elem R 1)(b:a2D R)(h:OL R 1 X base e w ao cap l)(i:Nat)(hi:i<l.length)(u:Value)(x:α)(g:R (mk (un X ao) w) u x):OL R 1 X base e (w.setCell (adr ao i) u) ao cap (l.set i x)/\ExtX (ob ao) w (w.setCell (adr ao i) u):=by
 obtain⟨ti,k,d⟩:=o;obtain⟨v,p,q,_⟩:=h.cell b i hi;obtain⟨s,f,m,n⟩:=h.run_store (P:=P) k d j i hi u x g;have a:=b _ _ _ g;have c:=j.one _ _ _ g u (by simp[a0g,a]);rw[Nat.mul_one]at f;have r:s=w.setCell (adr ao i) u:=by
  simp only[storeVar,sizeOf,typeInfo,Sem.run_bind]at f;cases u<;>simp[Value.oneCell']at c<;>simp[program,Sem.run,k,d,Result.andThen,Value.cells,storeCells,store,Addr.add_zero',p,q]at f<;>exact f.symm
 subst r;exact⟨m,n⟩
end
end Go.Rep
namespace Go.Proofs.YtnnpfhoigmegcaaGreat
open Go.RowKit Go.Rep
theorem a0F:SliceT Tryz.prog 37 110 1 4 (.int .u32 0):=⟨Tryz.underlying37,by kernel_rfl⟩
theorem a5w:SliceT Tryz.prog 22 3 1 8 (.int .i64 0):=⟨Tryz.underlying22,by kernel_rfl⟩
theorem b5G:(Tryz.prog.info? 110).map (fun i=>(i.zero,i.size,i.bytes))=some (some (.int .u32 0),1,4):=by kernel_rfl
theorem b5H:(Tryz.prog.info? 3).map (fun i=>(i.zero,i.size,i.bytes))=some (some (.int .i64 0),1,8):=by kernel_rfl
theorem a2U:TyI Tryz.prog 110 1:=let ⟨i,h,_,a,_⟩:=info_parts b5G;⟨i,h,a⟩
theorem b6N:TyI Tryz.prog 3 1:=let ⟨i,h,_,a,_⟩:=info_parts b5H;⟨i,h,a⟩
end Go.Proofs.YtnnpfhoigmegcaaGreat
namespace Go.Lim
theorem b7w:∃n:Nat,n=4294967296:=⟨_,rfl⟩
noncomputable def B:Nat:=Classical.choose b7w
theorem a0S:B=4294967296:=Classical.choose_spec b7w
theorem a2g:0<B:=by rw[a0S];decide
noncomputable def nv:List Nat->Nat
 | []=>0
 |d::l=>d+B*nv l
def Dig(l:List Nat):Prop:=∀d∈l,d<B
def a1i(l:List Nat):Bool:= !(l.getLast?==some 0)
def vl(l:List Nat):List Nat:=if a1i l then l else[]
noncomputable def val(l:List Nat):Nat:=nv (vl l)
def a0w(l:List Nat)(n:Nat):Prop:=Dig l/\a1i l=true/\nv l=n
theorem a2V(a b:List Nat):nv (a++b)=nv a+B^a.length*nv b:=by
 induction a with
 |nil=>simp[nv]
 |cons d a ih=>simp only[List.cons_append,nv,ih,List.length_cons,Nat.pow_succ,Nat.mul_add];rw[Nat.mul_comm (B^a.length) B,Nat.mul_assoc,Nat.add_assoc]
theorem a1x(a:List Nat)(d:Nat):nv (a++[d])=nv a+B^a.length*d:=by rw[a2V];simp[nv]
theorem a8n(n:Nat):nv (List.replicate n 0)=0:=by
 induction n with
 |zero=>rfl
 |succ n ih=>simp[List.replicate_succ,nv,ih]
theorem Dig.nil:Dig []:=by intro d h;simp at h
theorem Dig.cons{d:Nat}{l:List Nat}(hd:d<B)(h:Dig l):Dig (d::l):=by
 intro x hx;rcases List.mem_cons.1 hx with rfl|hx
 ·exact hd
 ·exact h x hx
theorem Dig.append{a b:List Nat}(c:Dig a)(d:Dig b):Dig (a++b):=by
 intro x hx;rcases List.mem_append.1 hx with h|h
 ·exact c x h
 ·exact d x h
theorem Dig.take{a:List Nat}(b:Dig a)(n:Nat):Dig (a.take n):=fun x hx=>b x (List.mem_of_mem_take hx)
theorem Dig.drop{a:List Nat}(b:Dig a)(n:Nat):Dig (a.drop n):=fun x hx=>b x (List.mem_of_mem_drop hx)
theorem Dig.get{a:List Nat}(b:Dig a)(i:Nat)(h:i<a.length):a[i]<B:=b _ (List.getElem_mem h)
theorem Dig.set{a:List Nat}(b:Dig a)(i d:Nat)(hd:d<B):Dig (a.set i d):=by
 intro x hx;rcases List.mem_or_eq_of_mem_set hx with h|rfl
 ·exact b x h
 ·exact hd
theorem Dig.zeros(n:Nat):Dig (List.replicate n 0):=by intro x hx;rw[List.eq_of_mem_replicate hx];exact a2g
theorem a3K{l:List Nat}(h:Dig l):nv l<B^l.length:=by
 induction l with
 |nil=>simp[nv]
 |cons d l ih=>
  have h1:=ih (fun x hx=>h x (List.mem_cons_of_mem _ hx));have h2:=h d (List.mem_cons_self ..);simp only[nv,List.length_cons,Nat.pow_succ];have:B*nv l+B<=B^l.length*B:=by rw[<-Nat.mul_succ,Nat.mul_comm];exact Nat.mul_le_mul_right _ h1
  omega
theorem a7x(l:List Nat)(d:Nat):a1i (l++[d])=(d !=0):=by simp[a1i,bne]
theorem a2E{l:List Nat}(h:0<l.length):a1i l=(l[l.length - 1] !=0):=by
 unfold a1i;rw[List.getLast?_eq_getElem?,List.getElem?_eq_getElem (by omega)];simp[bne]
theorem b1A(l:List Nat):a1i (vl l)=true:=by
 unfold vl;split
 ·assumption
 ·rfl
theorem b5I{l:List Nat}(h:Dig l):Dig (vl l):=by
 unfold vl;split
 ·exact h
 ·exact Dig.nil
theorem b5J(l:List Nat):(vl l).length<=l.length:=by unfold vl;split<;>simp
theorem a3L{l:List Nat}(h:Dig l):a0w (vl l) (val l):=⟨b5I h,b1A l,rfl⟩
theorem a0w.vl{l:List Nat}{n:Nat}(h:a0w l n):vl l=l:=by unfold Lim.vl;rw[h.2.1];rfl
theorem a0w.val{l:List Nat}{n:Nat}(h:a0w l n):val l=n:=by unfold Lim.val;rw[h.vl];exact h.2.2
theorem a0w.nil:a0w [] 0:=⟨Dig.nil,rfl,rfl⟩
theorem b3O{P:List Nat->Prop}(h0:P [])(hs:∀l d,P l->P (l++[d]))(l:List Nat):P l:=by
 have:∀m:List Nat,P m.reverse:=by
  intro m
  induction m with
  |nil=>exact h0
  |cons d m ih=>rw[List.reverse_cons];exact hs _ _ ih
 simpa using this l.reverse
def Cut(l:List Nat)(k:Nat):Prop:=k<=l.length/\nv (l.take k)=nv l
theorem Cut.all(l:List Nat):Cut l l.length:=⟨Nat.le_refl _,by rw[List.take_length]⟩
theorem Cut.less{l:List Nat}{k:Nat}(h:Cut l k)(c:0<k)(a:l[k - 1]'(by have:=h.1;omega)=0):Cut l (k - 1):=by
 refine⟨by have:=h.1;omega,?_⟩;have b:=h.1;have e:l.take k=l.take (k - 1)++[l[k - 1]'(by omega)]:=by
  conv=>lhs;rw[show k=(k - 1)+1 from by omega]
  exact List.take_succ_eq_append_getElem (by omega)
 rw[<-h.2,e,a1x,a];simp
theorem Cut.canon{l:List Nat}{k:Nat}(h:Cut l k)(hd:Dig l)(d:k=0\/∃a:k - 1<l.length,l[k - 1]≠0):a0w (l.take k) (nv l):=by
 refine⟨hd.take k,?_,h.2⟩;have e:=h.1;rcases d with rfl|⟨a,b⟩
 ·rfl
 ·by_cases c:k=0
  ·subst c;rfl
  rw[a2E (by simp;omega)];have:(l.take k).length=k:=by simp;omega
  simp[this,b]
def a3M(a b o:List Nat)(i c:Nat):Prop:=o.length=a.length+1/\Dig o/\c<=1/\nv (o.take i)+B^i*c=nv (a.take i)+nv (b.take i)
theorem a0Y(o:List Nat)(i d:Nat)(h:i<o.length):(o.set i d).take (i+1)=o.take i++[d]:=by
 rw[List.take_succ_eq_append_getElem (by simpa using h),List.take_set,List.getElem_set_self]
 congr 1
 rw[List.set_eq_of_length_le (by simp;omega)]
theorem a0p(a:List Nat)(i:Nat)(h:i<a.length):nv (a.take (i+1))=nv (a.take i)+B^i*a[i]:=by
 rw[List.take_succ_eq_append_getElem h,a1x];congr 3;simp;omega
theorem a5G(a:List Nat)(i:Nat)(h:a.length<=i):nv (a.take (i+1))=nv (a.take i):=by
 rw[List.take_of_length_le (by omega),List.take_of_length_le h]
theorem a3M.start(a b:List Nat):a3M a b (List.replicate (a.length+1) 0) 0 0:=⟨by simp,Dig.zeros _,by omega,by simp[nv]⟩
theorem a3M.step{a b o:List Nat}{i c y:Nat}(h:a3M a b o i c)(hi:i<a.length)(j:(∃h:i<b.length,b[i]=y)\/(b.length<=i/\y=0))(m:Dig a)(n:Dig b):a3M a b (o.set i ((a[i]+y+c)%4294967296)) (i+1) ((a[i]+y+c)/4294967296):=by
 obtain⟨k,l,q,r⟩:=h;have d:=m.get i hi;have g:y<B:=by
  rcases j with⟨h,rfl⟩|⟨_,rfl⟩
  ·exact n.get i h
  ·exact a2g
 rw[a0S]at d g;refine⟨by simpa using k,l.set _ _ (by rw[a0S];exact Nat.mod_lt _ (by decide)),by omega,?_⟩;have f:nv (b.take (i+1))=nv (b.take i)+B^i*y:=by
  rcases j with⟨h,rfl⟩|⟨h,rfl⟩
  ·exact a0p b i h
  ·rw[a5G b i h];simp
 rw[a0Y o i _ (by omega),a1x,a0p a i hi,f,List.length_take,Nat.min_eq_left (by omega),Nat.pow_succ,Nat.mul_assoc];have e:(a[i]+y+c)%4294967296+B*((a[i]+y+c)/4294967296)=a[i]+y+c:=by rw[a0S];omega
 have p:B^i*((a[i]+y+c)%4294967296)+B^i*(B*((a[i]+y+c)/4294967296))=B^i*a[i]+B^i*y+B^i*c:=by rw[<-Nat.mul_add,e,Nat.mul_add,Nat.mul_add]
 omega
theorem a3M.done{a b o:List Nat}{c:Nat}(h:a3M a b o a.length c)(d:b.length<=a.length):Dig (o.set a.length c)/\nv (o.set a.length c)=nv a+nv b/\(o.set a.length c).length=a.length+1:=by
 obtain⟨f,g,j,i⟩:=h;refine⟨g.set _ _ (by rw[a0S];omega),?_,by simpa using f⟩;have e:o.set a.length c=(o.set a.length c).take (a.length+1):=by rw[List.take_of_length_le (by simp;omega)]
 rw[e,a0Y o _ _ (by omega),a1x,List.length_take,Nat.min_eq_left (by omega),i,List.take_of_length_le (Nat.le_refl _),List.take_of_length_le d]
def lg(n:Nat):Nat:=if n=0 then 0 else Nat.log2 n/32+1
theorem b1B(m:Nat):B^m=2^(32*m):=by rw[Nat.pow_mul,a0S]
theorem a2n{n m:Nat}:lg n<=m↔n<B^m:=by
 unfold lg;by_cases h:n=0
 ·subst h;simp[Nat.pow_pos a2g]
 ·rw[if_neg h,b1B,<-Nat.log2_lt h];omega
theorem a0w.len{l:List Nat}{n:Nat}(h:a0w l n):l.length=lg n:=by
 have h1:lg n<=l.length:=a2n.2 (by rw[<-h.2.2];exact a3K h.1);obtain⟨hd,hv,rfl⟩:=h
 induction l using b3O with
 |h0=>rfl
 |hs l d _=>
  rw[a7x]at hv;have hd:0<d:=by simp at hv;omega
  have:¬lg (nv (l++[d]))<=l.length:=by
   rw[a2n,a1x];have:=Nat.mul_le_mul_left (B^l.length) hd;omega
  simp at h1 |-;omega
theorem a4N:lg 0=0:=rfl
theorem a0P{a b:Nat}(h:a<=b):lg a<=lg b:=a2n.2 (Nat.lt_of_le_of_lt h (a2n.1 (Nat.le_refl _)))
theorem a8o(a b:Nat):lg (a+b)<=max (lg a) (lg b)+1:=by
 rw[a2n];have c:=(a2n (n:=a) (m:=max (lg a) (lg b))).1 (Nat.le_max_left _ _);have d:=(a2n (n:=b) (m:=max (lg a) (lg b))).1 (Nat.le_max_right _ _);rw[Nat.pow_succ];have:0<B^max (lg a) (lg b):=Nat.pow_pos a2g;have:=a0S;generalize B^max (lg a) (lg b)=p at*;rw[a0S];omega
theorem a0N(a b:Nat):lg (a*b)<=lg a+lg b:=by
 rw[a2n,Nat.pow_add];exact Nat.mul_lt_mul'' (a2n.1 (Nat.le_refl _)) (a2n.1 (Nat.le_refl _))
theorem b3m{a:Nat}(h:0<a):0<lg a:=by unfold lg;rw[if_neg (by omega)];omega
theorem a9F(l:List Nat)(h:Dig l):lg (val l)<=l.length:=by
 have:=(a3L h).len;have:=b5J l;omega
def a2v(a b:Nat):Int:=if a<b then -1 else if b<a then 1 else 0
theorem a3w{a b:List Nat}{m n:Nat}(d:a0w a m)(e:a0w b n)(h:a.length<b.length):a2v m n= -1:=by
 have:m<n:=by
  rcases Nat.lt_or_ge m n with c|c
  ·exact c
  ·have:=a0P c;rw[<-d.len,<-e.len]at this;omega
 simp[a2v,this]
theorem a3x{a b:List Nat}{m n:Nat}(d:a0w a m)(e:a0w b n)(h:b.length<a.length):a2v m n=1:=by
 have:n<m:=by
  rcases Nat.lt_or_ge n m with c|c
  ·exact c
  ·have:=a0P c;rw[<-d.len,<-e.len]at this;omega
 simp[a2v,this,Nat.lt_asymm this]
theorem a1y(a:List Nat)(k:Nat)(b:k<=a.length):nv a=nv (a.take k)+B^k*nv (a.drop k):=by
 have:=a2V (a.take k) (a.drop k);rw[List.take_append_drop,List.length_take,Nat.min_eq_left b]at this;exact this
theorem a4O{a b:List Nat}(f:Dig a){k:Nat}(l:a.length=b.length)(i:0<k)(g:k<=a.length)(hd:a.drop k=b.drop k)(h:a[k - 1]'(by omega)<b[k - 1]'(by omega)):nv a<nv b:=by
 rw[a1y a k g,a1y b k (by omega),hd];have c:=a0p a (k - 1) (by omega);have d:=a0p b (k - 1) (by omega);rw[show k - 1+1=k from by omega]at c d;have e:=a3K (f.take (k - 1));rw[List.length_take,Nat.min_eq_left (by omega)]at e;have j:B^(k - 1)*a[k - 1]'(by omega)+B^(k - 1)<=B^(k - 1)*b[k - 1]'(by omega):=by rw[<-Nat.mul_succ];exact Nat.mul_le_mul_left _ h
 omega
theorem a5H{a b:List Nat}{m n k:Nat}(c:a0w a m)(e:a0w b n)(g:a.length=b.length)(d:0<k)(f:k<=a.length)(hd:a.drop k=b.drop k)(h:a[k - 1]'(by omega)<b[k - 1]'(by omega)):a2v m n= -1:=by
 have:=a4O c.1 g d f hd h;rw[c.2.2,e.2.2]at this;simp[a2v,this]
theorem a5I{a b:List Nat}{m n k:Nat}(e:a0w a m)(c:a0w b n)(f:a.length=b.length)(d:0<k)(g:k<=a.length)(hd:a.drop k=b.drop k)(h:b[k - 1]'(by omega)<a[k - 1]'(by omega)):a2v m n=1:=by
 have:=a4O c.1 f.symm d (by omega) hd.symm h;rw[e.2.2,c.2.2]at this;simp[a2v,this,Nat.lt_asymm this]
theorem a4w{a b:List Nat}{k:Nat}(g:a.length=b.length)(e:0<k)(f:k<=a.length)(hd:a.drop k=b.drop k)(h:a[k - 1]'(by omega)=b[k - 1]'(by omega)):a.drop (k - 1)=b.drop (k - 1):=by
 have c:=List.drop_eq_getElem_cons (l:=a) (i:=k - 1) (by omega);have d:=List.drop_eq_getElem_cons (l:=b) (i:=k - 1) (by omega);rw[c,d,show k - 1+1=k from by omega,hd,h]
theorem a5J{a b:List Nat}{m n k:Nat}(c:a0w a m)(d:a0w b n)(e:k=0)(hd:a.drop k=b.drop k):a2v m n=0:=by
 subst e;have:a=b:=by simpa using hd
 have:m=n:=by rw[<-c.2.2,<-d.2.2,this]
 simp[a2v,this]
theorem a2W(a b:Nat):a2v a b<0↔a<b:=by unfold a2v;split<;>(try split)<;>simp_all
theorem b3P(a b:Nat):a2v a b=0↔a=b:=by unfold a2v;split<;>(try split)<;>simp_all<;>omega
def a2a(l q:List Nat)(d k r:Nat):Prop:=q.length=l.length/\Dig q/\r<d/\nv (l.drop k)=d*nv (q.drop k)+r
theorem a2a.start(l:List Nat)(d:Nat)(hd:0<d):a2a l (List.replicate l.length 0) d l.length 0:=
 ⟨by simp,Dig.zeros _,hd,by simp[nv]⟩
theorem a6d(q:List Nat)(k x:Nat)(a:0<k)(b:k<=q.length):(q.set (k - 1) x).drop (k - 1)=x::q.drop k:=by
 rw[List.drop_eq_getElem_cons (by simp;omega),List.getElem_set_self,show k - 1+1=k from by omega,List.drop_set_of_lt (by omega)]
theorem a2a.step{l q:List Nat}{d k r:Nat}(h:a2a l q d k r)(c:0<k)(o:k<=l.length)(n:Dig l):a2a l (q.set (k - 1) ((r*4294967296+l[k - 1])/d)) d (k - 1) ((r*4294967296+l[k - 1])%d):=by
 obtain⟨f,g,j,m⟩:=h;have a:=n.get (k - 1) (by omega);rw[a0S]at a;have hx:(r*4294967296+l[k - 1])/d<4294967296:=by
  rw[Nat.div_lt_iff_lt_mul (by omega)];have:(r+1)*4294967296<=d*4294967296:=Nat.mul_le_mul_right _ j;rw[Nat.mul_comm 4294967296 d];omega
 refine⟨by simpa using f,g.set _ _ (by rw[a0S];exact hx),Nat.mod_lt _ (by omega),?_⟩;rw[a6d q k _ c (by omega),List.drop_eq_getElem_cons (l:=l) (i:=k - 1) (by omega),show k - 1+1=k from by omega];simp only[nv];rw[m];have e:=Nat.div_add_mod (r*4294967296+l[k - 1]) d;rw[a0S];generalize (r*4294967296+l[k - 1])/d=x at*;generalize (r*4294967296+l[k - 1])%d=y at*;generalize nv (q.drop k)=z at*;have b:4294967296*(d*z+r)=d*(4294967296*z)+r*4294967296:=by rw[Nat.mul_add,<-Nat.mul_assoc,<-Nat.mul_assoc,Nat.mul_comm 4294967296 d,Nat.mul_comm 4294967296 r]
 rw[b,Nat.mul_add];omega
theorem a2a.done{l q:List Nat}{d r:Nat}(h:a2a l q d 0 r):nv q=nv l/d/\r=nv l%d:=by
 obtain⟨c,e,a,b⟩:=h;simp only[List.drop_zero]at b;rw[b,Nat.mul_add_div (by omega),Nat.div_eq_of_lt a,Nat.mul_add_mod,Nat.mod_eq_of_lt a];exact⟨rfl,rfl⟩
theorem b3n(o:List Nat)(k d:Nat)(h:k<o.length):nv (o.set k d)+B^k*o[k]=nv o+B^k*d:=by
 induction o generalizing k with
 |nil=>simp at h
 |cons x o ih=>
  match k with
  |0=>simp[nv];omega
  |k+1=>
   have:=ih k (by simpa using h);simp only[List.set_cons_succ,nv,List.getElem_cons_succ,Nat.pow_succ];have e1:B^k*B*o[k]'(by simpa using h)=B*(B^k*o[k]'(by simpa using h)):=by rw[Nat.mul_comm (B^k) B,Nat.mul_assoc]
   have e2:B^k*B*d=B*(B^k*d):=by rw[Nat.mul_comm (B^k) B,Nat.mul_assoc]
   rw[e1,e2,Nat.add_assoc,<-Nat.mul_add,this,Nat.mul_add,Nat.add_assoc]
def a1X(a b o:List Nat)(i j c:Nat):Prop:=o.length=a.length+b.length/\Dig o/\c<B/\(∀p (h:p<o.length),i+b.length<=p->o[p]=0)/\
 nv o+B^(i+j)*c=nv (a.take i)*nv b+(a.getD i 0)*B^i*nv (b.take j)
theorem a1X.start(a b:List Nat):a1X a b (List.replicate (a.length+b.length) 0) 0 0 0:=
 ⟨by simp,Dig.zeros _,a2g,by simp,by simp[nv,a8n]⟩
theorem a1X.step{a b o:List Nat}{i j c:Nat}(h:a1X a b o i j c)(hi:i<a.length)(n:j<b.length)(z:Dig a)(A:Dig b)(d:i+j<o.length):a1X a b (o.set (i+j) ((c+(a[i]*b[j]+o[i+j]))%4294967296)) i (j+1) ((c+(a[i]*b[j]+o[i+j]))/4294967296)/\c+(a[i]*b[j]+o[i+j])<18446744073709551616/\a[i]*b[j]+o[i+j]<18446744073709551616/\a[i]*b[j]<18446744073709551616:=by
 obtain⟨s,m,t,u,v⟩:=h;have f:=z.get i hi;have g:=A.get j n;have k:=m.get (i+j) d;rw[a0S]at f g k t;have D:a[i]*b[j]<=4294967295*4294967295:=Nat.mul_le_mul (by omega) (by omega);have E:=b3n o (i+j) ((c+(a[i]*b[j]+o[i+j]))%4294967296) d;have w:a.getD i 0=a[i]:=by simp[List.getD,hi]
 refine⟨⟨by simpa using s,m.set _ _ (by rw[a0S];exact Nat.mod_lt _ (by decide)),by rw[a0S];omega,?_,?_⟩,by omega,by omega,by omega⟩
 ·intro p C l
  rw[List.getElem_set,if_neg (by omega)];exact u p (by simpa using C) l
 ·rw[w]at v |-
  rw[a0p b j n,show i+(j+1)=(i+j)+1 from rfl,Nat.pow_succ];have e:=Nat.div_add_mod (c+(a[i]*b[j]+o[i+j])) 4294967296;generalize (c+(a[i]*b[j]+o[i+j]))/4294967296=x at*;generalize (c+(a[i]*b[j]+o[i+j]))%4294967296=y at*;generalize nv (o.set (i+j) y)=F at*;have q:B^(i+j)*B*x=B^(i+j)*(4294967296*x):=by rw[a0S,Nat.mul_assoc]
  have r:a[i]*B^i*(nv (b.take j)+B^j*b[j])=a[i]*B^i*nv (b.take j)+B^(i+j)*(a[i]*b[j]):=by
   rw[Nat.mul_add,Nat.pow_add]
   congr 1
   ac_rfl
  rw[q,r];have e5:B^(i+j)*(4294967296*x)+B^(i+j)*y=B^(i+j)*c+(B^(i+j)*(a[i]*b[j])+B^(i+j)*o[i+j]):=by
   rw[<-Nat.mul_add,e,Nat.mul_add,Nat.mul_add]
  omega
theorem a1X.row{a b o:List Nat}{i c:Nat}(h:a1X a b o i b.length c)(hi:i<a.length):a1X a b (o.set (i+b.length) c) (i+1) 0 0:=by
 obtain⟨f,g,j,d,k⟩:=h;have e:=b3n o (i+b.length) c (by omega);have hz:=d (i+b.length) (by omega) (by omega);rw[hz,Nat.mul_zero,Nat.add_zero]at e;have l:a.getD i 0=a[i]:=by simp[List.getD,hi]
 refine⟨by simpa using f,g.set _ _ j,a2g,?_,?_⟩
 ·intro p m n
  rw[List.getElem_set,if_neg (by omega)];exact d p (by simpa using m) (by omega)
 ·rw[List.take_zero,show nv []=0 from rfl,Nat.mul_zero,Nat.mul_zero,Nat.add_zero,Nat.add_zero,e,k,l,List.take_of_length_le (Nat.le_refl b.length),a0p a i hi,Nat.add_mul,Nat.mul_comm (B^i) a[i]]
theorem a1X.done{a b o:List Nat}{c:Nat}(h:a1X a b o a.length 0 c)(e:c=0):nv o=nv a*nv b:=by
 obtain⟨f,g,i,j,d⟩:=h;subst e;simpa[nv]using d
theorem a1G{n:Nat}(a:0<n)(h:n<4294967296):lg n=1:=by
 have b:lg n<=1:=a2n.2 (by rw[Nat.pow_one,a0S];exact h);have:=b3m a;omega
theorem a9G{l:List Nat}{n:Nat}(h:a0w l n)(h0:0<n)(h1:n<4294967296):l= [n]:=by
 have h2:=h.len;rw[a1G h0 h1]at h2
 match l,h2 with
 | [d],_=>have:=h.2.2;simp[nv]at this;rw[this]
theorem a8p{n:Nat}(b:0<n)(a:n<4294967296):a0w [n] n:=⟨Dig.cons (by rw[a0S];exact a) Dig.nil,by simp[a1i];omega,by simp[nv]⟩
theorem a6e{l:List Nat}{n:Nat}(h:a0w l n):l= []↔n=0:=by
 constructor
 ·rintro rfl;exact h.2.2.symm
 ·intro a;have:=h.len;rw[a]at this;exact List.eq_nil_of_length_eq_zero this
theorem a1X.step'{a b o:List Nat}{i j c x y z:Nat}(h:a1X a b o i j c)(hi:i<a.length)(g:j<b.length)(e:Dig a)(f:Dig b)(d:i+j<o.length)(hx:a[i]=x)(k:b[j]=y)(hz:o[i+j]=z):a1X a b (o.set (i+j) ((c+(x*y+z))%4294967296)) i (j+1) ((c+(x*y+z))/4294967296)/\c+(x*y+z)<18446744073709551616:=by
 subst hx;subst k;subst hz;exact⟨(h.step hi g e f d).1,(h.step hi g e f d).2.1⟩
def a2w(a b o:List Nat)(i c:Nat):Prop:=o.length=i/\Dig o/\c<=1/\nv o+B^i*c=nv (a.take i)+nv (b.take i)
theorem a2w.start(a b:List Nat):a2w a b [] 0 0:=⟨rfl,Dig.nil,by omega,by simp[nv]⟩
theorem a0Q(a:List Nat)(i:Nat):nv (a.take (i+1))=nv (a.take i)+B^i*a.getD i 0:=by
 by_cases h:i<a.length
 ·rw[a0p a i h];simp[List.getD,h]
 ·rw[a5G a i (by omega)];simp[List.getD,h]
theorem Dig.getD{a:List Nat}(b:Dig a)(i:Nat):a.getD i 0<B:=by
 by_cases h:i<a.length
 ·simpa[List.getD,h]using b.get i h
 ·simpa[List.getD,h]using a2g
theorem a2w.step{a b o:List Nat}{i c:Nat}(h:a2w a b o i c)(k:Dig a)(l:Dig b):a2w a b (o++[(a.getD i 0+b.getD i 0+c)%4294967296]) (i+1) ((a.getD i 0+b.getD i 0+c)/4294967296):=by
 obtain⟨g,j,p,q⟩:=h;have hx:=k.getD i;have m:=l.getD i;have d:=a0Q a i;have f:=a0Q b i;unfold a2w;rw[d,f];clear d f;generalize a.getD i 0=x at*;generalize b.getD i 0=y at*;rw[a0S]at hx m;refine⟨by simp[g],j.append (Dig.cons (by rw[a0S];exact Nat.mod_lt _ (by decide)) Dig.nil),by omega,?_⟩;rw[a1x,g,Nat.pow_succ,Nat.mul_assoc];have e:(x+y+c)%4294967296+B*((x+y+c)/4294967296)=x+y+c:=by rw[a0S];omega
 have n:B^i*((x+y+c)%4294967296)+B^i*(B*((x+y+c)/4294967296))=B^i*x+B^i*y+B^i*c:=by rw[<-Nat.mul_add,e,Nat.mul_add,Nat.mul_add]
 omega
theorem a2w.done{a b o:List Nat}{c m:Nat}(h:a2w a b o (m+1) c)(i:Dig a)(k:Dig b)(e:a.length<=m)(f:b.length<=m):nv o=nv a+nv b:=by
 obtain⟨q,r,s,d⟩:=h;rw[List.take_of_length_le (by omega),List.take_of_length_le (by omega)]at d;have j:=Nat.lt_of_lt_of_le (a3K i) (Nat.pow_le_pow_right a2g e);have l:=Nat.lt_of_lt_of_le (a3K k) (Nat.pow_le_pow_right a2g f);rw[Nat.pow_succ]at d;have n:c=0:=by
  rcases Nat.eq_zero_or_pos c with h|h
  ·exact h
  ·exfalso
   have g:B^m*B<=B^m*B*c:=Nat.le_mul_of_pos_right _ h;generalize B^m=p at*;rw[a0S]at g d;omega
 subst n;simpa using d
end Go.Lim
namespace Go.Proofs.YtnnpfhoigmegcaaGreat
open Go.RowKit Go.Rep Go.Lim
theorem a1z(X:Nat->Bool)(ao:Option Addr)(l:List Nat)(cap:Nat)(w:World)(b:Sl (a0c .u32) 1 (mk X w) ao l)(f:l.length<=4398046511104):Calls Tryz.prog 297 #[.slice ao l.length cap] w fun e h=>w=h/\e= .returned (.bool (a1i l)):=by
 have d:=b.hd;by_cases c:l.length=0
 ·have a:l= []:=List.eq_nil_of_length_eq_zero c
  subst a;clear b d f c;simp only[List.length_nil];go_enter Tryz.func297,Tryz.ntmps297
  go_wp2_with fail
  go_ret
  exact⟨rfl,rfl⟩
 ·have i:=b.nat (l.length - 1) (by omega)
  have g:=hid (a2E (l:=l) (by omega));have hz:((l.length:Int)==0)=false:=a2S (by omega);go_enter Tryz.func297,Tryz.ntmps297
  go_wp2_with (with_reducible refine a0n a0F (by omega) (by assumption) ?_)
  go_ret
  exact⟨rfl,a0q (by rw[g.out];exact a6M _)⟩
def a3y(X:Nat->Bool)(w:World)(n:Nat)(e:Ending)(w':World):Prop:=
 Ext w w'/\∃ao cap l,e= .returned (.slice ao l.length cap)/\l.length<=cap/\a0w l n/\Sl (a0c .u32) 1 (mk X w') ao l
def a9H(X:Nat->Bool)(w:World)(ao:Option Addr)(l:List Nat)(cap:Nat)(e:Ending)(w':World):Prop:=
 w=w'/\∃l',e= .returned (.slice ao l'.length cap)/\l'.length<=l.length/\a0w l' (nv l)/\Sl (a0c .u32) 1 (mk X w) ao l'
def b5K(X:Nat->Bool)(w:World)(l:List Nat)(e:Ending)(w':World):Prop:=
 w=w'/\∃ao cap l',e= .returned (.slice ao l'.length cap)/\l'.length<=cap/\l'.length<=l.length/\a0w l' (val l)/\Sl (a0c .u32) 1 (mk X w) ao l'
theorem a1p(X:Nat->Bool)(ao:Option Addr)(l:List Nat)(cap:Nat)(w:World)(c:Sl (a0c .u32) 1 (mk X w) ao l)(hd:Dig l)(m:l.length<=4398046511104)(g:l.length<=cap):Calls Tryz.prog 243 #[.slice ao l.length cap] w (a9H X w ao l cap):=by
 have j:=c.hd;go_enter Tryz.func243,Tryz.ntmps243
 go_wp2_with fail
 go_loop [3] (fun n=>∃k:Nat,n= .int .i64 k/\Cut l k) (fun n=>(intOf n).toNat)
 case atStart=>exact⟨_,rfl,Cut.all l⟩
 case round=>
  obtain⟨k,rfl,b⟩:=hrel;have i:=b.1;by_cases e:0<k
  ·have h:=c.nat (k - 1) (by omega)
   by_cases hz:l[k - 1]=0
   ·have d:=b.less e hz
    have f:=hid hz;rw[hz]at h;clear hz;go_wp2_with (with_reducible refine a0n a0F (by omega) (by assumption) ?_)
    go_round
    case rel=>exact⟨k - 1,by go_num,d⟩
    case measure=>simp[intOf];omega
   ·have a:=b.canon hd (.inr ⟨by omega,hz⟩)
    have f:((l[k - 1]:Int)==0)=false:=a2S (by omega);go_wp2_with (with_reducible refine a0n a0F (by omega) (by assumption) ?_)
    go_ret
    exact⟨rfl,l.take k,a3I (by simp;omega),by simp;omega,a,c.take k⟩
  ·have a:=b.canon hd (.inl (by omega))
   go_wp2_with fail
   go_ret
   exact⟨rfl,l.take k,a3I (by simp;omega),by simp;omega,a,c.take k⟩
theorem a0T(X:Nat->Bool)(ao:Option Addr)(l:List Nat)(cap:Nat)(w:World)(c:Sl (a0c .u32) 1 (mk X w) ao l)(hd:Dig l)(g:l.length<=4398046511104)(a:l.length<=cap):Calls Tryz.prog 241 #[.slice ao l.length cap] w (b5K X w l):=by
 cases b:a1i l
 ·have d:=hid b
  go_enter Tryz.func241,Tryz.ntmps241
  go_wp2_with (go_at_call 297;refine(a1z X _ _ _ _ c g).mono ?_;rintro e h ⟨rfl,rfl⟩)
  go_ret
  have:vl l= []:=by unfold vl;rw[b];rfl
  exact⟨rfl,none,0,[],rfl,by simp,by simp,this▸a3L hd,Sl.nil _ _ _ _⟩
 ·have d:=hid b
  go_enter Tryz.func241,Tryz.ntmps241
  go_wp2_with (go_at_call 297;refine(a1z X _ _ _ _ c g).mono ?_;rintro e h ⟨rfl,rfl⟩)
  go_ret
  have:vl l=l:=by unfold vl;rw[b];rfl
  have f:=a3L hd;rw[this]at f;exact⟨rfl,ao,cap,l,rfl,a,Nat.le_refl _,f,c⟩
theorem a2X(X:Nat->Bool)(n:Nat)(w:World)(hn:n<18446744073709551616)(hX:∀k,X k=true->k<w.heap.size):Calls Tryz.prog 244 #[.int .u64 n] w (a3y X w n):=by
 have hO:OL (a0c .u32) 1 X w.heap.size 110 (w.alloc (.cells #[.int .u32 ((n:Int)%4294967296), .int .u32 ((n:Int)/4294967296)] 110)) (some ⟨w.heap.size,0,none⟩) 2 [n%4294967296,n/4294967296]:=
  OL.lit (a0c.elem .u32) hX (Nat.le_refl _) [.int .u32 ((n%4294967296:Nat):Int), .int .u32 ((n/4294967296:Nat):Int)] [n%4294967296,n/4294967296] _ (by simp[a0g,Value.cells]) rfl
   (fun i hi _=>by
            match i,hi with
            |0,_=>rfl
            |1,_=>rfl) (by simp)
 go_enter Tryz.func244,Tryz.ntmps244
 go_wp2_with fail
 refine(a1p X _ [n%4294967296,n/4294967296] _ _ (hO.sl (a0c.elem .u32)) (Dig.cons (by rw[a0S];exact Nat.mod_lt _ (by decide)) (Dig.cons (by rw[a0S];omega) Dig.nil)) (by simp) (by simp)).mono ?_;rintro e w' ⟨rfl,l',rfl,hl',hc,hs'⟩;go_wp2_with fail
 go_ret
 have hv:nv [n%4294967296,n/4294967296]=n:=by simp only[nv,a0S];omega
 rw[hv]at hc;exact⟨(ExtX.refl w).alloc _,_,2,_,rfl,by simpa using hl',hc,hs'⟩
theorem a3N(x y c:Nat)(w:World)(hx:x<4294967296)(d:y<4294967296)(b:c<=1):Calls Tryz.prog 242 #[.int .u32 x, .int .u32 y, .int .u32 c] w fun e a=>w=a/\e= .returned (.tuple #[.int .u32 ((x+y+c)%4294967296:Nat), .int .u32 ((x+y+c)/4294967296:Nat)]):=by
 go_enter Tryz.func242,Tryz.ntmps242
 go_wp2
 go_ret2
 exact⟨rfl,by simp⟩
theorem b3Q(X:Nat->Bool)(ao B:Option Addr)(J K:List Nat)(L M:Nat)(w:World)(r:Sl (a0c .u32) 1 (mk X w) ao J)(t:Sl (a0c .u32) 1 (mk X w) B K)(j:Dig J)(l:Dig K)(U:J.length<=1099511627776)(V:K.length<=1099511627776)(E:J.length<=L)(F:K.length<=M)(hX:∀k,X k=true->k<w.heap.size)(na nb:Nat)(W:val J=na)(Y:val K=nb):Calls Tryz.prog 166 #[.slice ao J.length L, .slice B K.length M] w (a3y X w (na+nb)):=by
 go_enter Tryz.func166,Tryz.ntmps166
 go_wp2_with fail
 refine(a0T X _ _ _ _ r j (by omega) E).mono ?_;rintro e w' ⟨rfl,a0,a2,a,rfl,R,D,d,s⟩;go_wp2_with fail
 refine(a0T X _ _ _ _ t l (by omega) F).mono ?_;rintro e w' ⟨rfl,a1,a3,b,rfl,S,Q,f,u⟩;rw[W]at d;rw[Y]at f;have x:a.length<=1099511627776:=Nat.le_trans D U;have z:b.length<=1099511627776:=Nat.le_trans Q V;clear W Y D Q r t U V E F
 go_upto_if 18 with(fail)
 go_cut [0,1] (fun s0 s1 wx=>wx=w/\∃ao B a b L M,s0= .slice ao a.length L/\s1= .slice B b.length M/\b.length<=a.length/\a.length<=1099511627776/\Sl (a0c .u32) 1 (mk X w) ao a/\Sl (a0c .u32) 1 (mk X w) B b/\Dig a/\Dig b/\Hid (nv a+nv b=na+nb))
 case first=>
  go_wp2_with fail
  all_goals go_meet
  all_goals case rel=>first|exact⟨rfl,_,_,_,_,_,_,rfl,rfl,by omega,z,u,s,f.1,d.1,hid (by rw[d.2.2,f.2.2,Nat.add_comm])⟩|exact⟨rfl,_,_,_,_,_,_,rfl,rfl,by omega,x,s,u,d.1,f.1,hid (by rw[d.2.2,f.2.2])⟩
 case rest=>
  clear R d s S f u x z j l;clear a b a0 a1 a2 a3 ao B J K L M;obtain⟨rfl,ao,B,a,b,L,M,rfl,rfl,a5,D,r,t,j,l,Z⟩:=hcut;have b3:=r.hd;have b4:=t.hd;go_wp2_with (at_make;refine a1S a0F (a0c.elem .u32) 0 (fun _=>rfl) X hX wc.heap.size (Nat.le_refl _) (a.length+1) rfl rfl (by omega) (by omega) (by omega) ?_;intro oo w1 hO O)
  go_loopw [6,27] (fun c i wr=>∃(k:Nat) (o:List Nat) (N:Nat),i= .int .i64 k/\c= .int .u32 N/\k<=a.length/\a3M a b o k N/\OL (a0c .u32) 1 X wc.heap.size 110 wr oo (a.length+1) o/\Ext wc wr) (fun _ i _=>a.length - (intOf i).toNat)
  case atStart=>exact⟨0,_,0,rfl,rfl,by omega,a3M.start a b,hO,O⟩
  case round=>
   obtain⟨k,o,N,rfl,rfl,hk,g,h,n⟩:=hrel;clear hO O;have T:=g.2.2.1;have q:=hid g.1;have b5:Hd oo (a.length+1):=q.out▸h.hd;by_cases v:k<a.length
   ·have E:=(r.mono (a0c.mono _) (a0k n)).nat k v
    have C:=j.get k v;rw[a0S]at C;by_cases H:k<b.length
    ·have F:=(t.mono (a0c.mono _) (a0k n)).nat k H
     have P:=l.get k H;rw[a0S]at P;have I:=g.step v (.inl ⟨H,rfl⟩) j l;go_wp2_with (first|(with_reducible refine a0n a0F (by omega) (by assumption) ?_)|(go_at_call 242;refine(a3N _ _ _ _ C P T).mono ?_;rintro e w' ⟨rfl,rfl⟩)|((with_reducible show wpList _ _ _ (⟨_, .store _ _ _,_,_,_,_⟩::_) _ _);refine a1O a2U (a0c.elem .u32) k rfl (Nat.mul_one k).symm h (by rw[q.out];omega) _ ((a[k]+b[k]+N)%4294967296) rfl rfl ?_;intro w2 p m))
     go_roundw
     case rel=>exact⟨k+1,_,_,by go_num,rfl,by omega,I,p,n.own h (Nat.le_refl _) m⟩
     case measure=>simp[intOf];omega
    ·have I:=g.step (y:=0) v (.inr ⟨by omega,rfl⟩) j l
     go_wp2_with (first|(with_reducible refine a0n a0F (by omega) (by assumption) ?_)|(go_at_call 242;refine(a3N _ 0 _ _ C (by omega) T).mono ?_;rintro e w' ⟨rfl,rfl⟩)|((with_reducible show wpList _ _ _ (⟨_, .store _ _ _,_,_,_,_⟩::_) _ _);refine a1O a2U (a0c.elem .u32) k rfl (Nat.mul_one k).symm h (by rw[q.out];omega) _ ((a[k]+0+N)%4294967296) rfl rfl ?_;intro w2 p m))
     go_roundw
     case rel=>exact⟨k+1,_,_,by go_num,rfl,by omega,I,p,n.own h (Nat.le_refl _) m⟩
     case measure=>simp[intOf];omega
   ·have a9:k=a.length:=by omega
    subst a9;have a8:=g.done a5;go_wp2_with (first|(with_reducible refine a0n a0F (by omega) (by assumption) ?_)|((with_reducible show wpList _ _ _ (⟨_, .store _ _ _,_,_,_,_⟩::_) _ _);refine a1O a2U (a0c.elem .u32) a.length rfl (Nat.mul_one _).symm h (by rw[q.out];omega) _ N rfl rfl ?_;intro w2 p m))
    obtain⟨a6,a7,G⟩:=a8;have A:=hid G;have b2:=p.sl (a0c.elem .u32);have a4:=n.own h (Nat.le_refl _) m;rw[<-G];clear G;refine(a1p X _ _ _ _ b2 a6 (by rw[A.out];omega) (by rw[A.out];omega)).mono ?_;rintro e w' ⟨rfl,l',rfl,b0,hc,b1⟩;go_wp2_with fail
    go_ret
    rw[a7,Z.out]at hc;exact⟨a4,_,_,_,rfl,by have h1:=q.out;have h2:=b0;(try simp only[List.length_set]at h2);omega,hc,b1⟩
def a2L(w:World)(v:Int)(e:Ending)(w':World):Prop:=Ext w w'/\e= .returned (.int .i64 v)
theorem a2F(X:Nat->Bool)(ao M:Option Addr)(q r:List Nat)(N O:Nat)(w:World)(F:Sl (a0c .u32) 1 (mk X w) ao q)(G:Sl (a0c .u32) 1 (mk X w) M r)(H:Dig q)(I:Dig r)(A:q.length<=1099511627776)(B:r.length<=1099511627776)(v:q.length<=N)(x:r.length<=O)(T nb:Nat)(C:val q=T)(D:val r=nb):Calls Tryz.prog 168 #[.slice ao q.length N, .slice M r.length O] w (a2L w (a2v T nb)):=by
 go_enter Tryz.func168,Tryz.ntmps168
 go_wp2_with fail
 refine(a0T X _ _ _ _ F H (by omega) v).mono ?_;rintro e Z ⟨rfl,m,s,a,rfl,R,u,c,j⟩;go_wp2_with fail
 refine(a0T X _ _ _ _ G I (by omega) x).mono ?_;rintro e Z ⟨rfl,n,t,b,rfl,S,g,d,l⟩;rw[C]at c;rw[D]at d;have P:a.length<=1099511627776:=Nat.le_trans u A;have Q:b.length<=1099511627776:=Nat.le_trans g B;clear C D u g F G A B v x;have J:=j.hd;have K:=l.hd;by_cases f:a.length<b.length
 ·have h:=hid (a3w c d f)
  have E:((a.length:Int) !=b.length)=true:=a9E (by omega);go_wp2_with fail
  go_ret
  exact⟨ExtX.refl _,a0y h.out.symm⟩
 by_cases z:b.length<a.length
 ·have h:=hid (a3x c d z)
  have E:((a.length:Int) !=b.length)=true:=a9E (by omega);go_wp2_with fail
  go_ret
  exact⟨ExtX.refl _,a0y h.out.symm⟩
 have E:((a.length:Int) !=b.length)=false:=b6E (by omega);have o:Hid (a.length=b.length):=hid (by omega);have g:b.length<=a.length:=by omega
 have Y:a.length<=b.length:=by omega
 clear f z;go_wp2_with fail
 go_loopw [5] (fun i wr=>∃k:Nat,i= .int .i64 ((k:Int) - 1)/\k<=a.length/\Hid (a.drop k=b.drop k)/\Ext w wr) (fun i _=>(intOf i+1).toNat)
 case atStart=>exact⟨a.length,rfl,Nat.le_refl _,hid (by rw[List.drop_of_length_le (Nat.le_refl _),List.drop_of_length_le g]),ExtX.refl _⟩
 case round=>
  obtain⟨k,rfl,L,hdr,p⟩:=hrel;by_cases f:0<k
  ·have c1:=(j.mono (a0c.mono _) (a0k p)).nat (k - 1) (by omega)
   have c2:=(l.mono (a0c.mono _) (a0k p)).nat (k - 1) (by omega);have i1:∀W,(Instr.indexAt 37 (.slice m a.length s) (.int .i64 ((k:Int) - 1))).run Tryz.prog W= .ok (.pointer (some (adr m (k - 1)))) W:=a1f a0F m a.length s .i64 (k - 1) J (by omega) (by omega);have i2:∀W,(Instr.indexAt 37 (.slice n b.length t) (.int .i64 ((k:Int) - 1))).run Tryz.prog W= .ok (.pointer (some (adr n (k - 1)))) W:=a1f a0F n b.length t .i64 (k - 1) K (by omega) (by omega);by_cases U:a[k - 1]<b[k - 1]
   ·have h:=hid (a5H c d o.out f L hdr.out U)
    have t1:((a[k - 1]:Int)<(b[k - 1]:Int)):=by omega
    go_wp2_with fail
    go_quiet (fail)
    go_wp2_with fail
    go_ret
    exact⟨p.drewN _,a0y h.out.symm⟩
   by_cases V:b[k - 1]<a[k - 1]
   ·have h:=hid (a5I c d o.out f L hdr.out V)
    go_wp2_with fail
    go_quiet (fail)
    go_wp2_with fail
    go_quiet (fail)
    go_wp2_with fail
    go_ret
    exact⟨(p.drewN _).drewN _,a0y h.out.symm⟩
   ·have y:=hid (a4w o.out f L hdr.out (by omega))
    go_wp2_with fail
    go_quiet (fail)
    go_wp2_with fail
    go_quiet (fail)
    go_wp2_with fail
    go_roundw
    case rel=>exact⟨k - 1,by go_num,by omega,y,p.drewN _⟩
    case measure=>simp[intOf];omega
  ·have h:=hid (a5J c d (k:=k) (by omega) hdr.out)
   go_wp2_with fail
   go_ret
   exact⟨p,a0y h.out.symm⟩
theorem a9I(hi lo y:Nat)(w:World)(h:hi<y)(j:y<4294967296)(m:lo<4294967296):Calls Tryz.prog 328 #[.int .u32 hi, .int .u32 lo, .int .u32 y] w (fun e l=>Ext w l/\e= .returned (.tuple #[.int .u32 ((hi*4294967296+lo)/y:Nat), .int .u32 ((hi*4294967296+lo)%y:Nat)])):=by
 have n:((y:Int)==0)=false:=a2S (by omega);have o:((y:Int) !=0)=true:=a9E (by omega);have k:bits BinOp.or IntKind.u64 ((hi:Int)*4294967296) (lo:Int)=(hi:Int)*4294967296+lo:=by
  have e:=bits_or_u64_nat (hi*4294967296) lo (by omega) (by omega);have a:=Nat.two_pow_add_eq_or_of_lt (i:=32) (b:=lo) (by omega) hi;rw[Nat.mul_comm]at a;rw[<-a]at e;simpa using e
 have hq:(hi*4294967296+lo)/y<4294967296:=by
  rw[Nat.div_lt_iff_lt_mul (by omega)];have:(hi+1)*4294967296<=y*4294967296:=Nat.mul_le_mul_right _ h;rw[Nat.mul_comm 4294967296 y];omega
 have g:(hi*4294967296+lo)%y<y:=Nat.mod_lt _ (by omega);have c:=hid hq;have d:=hid g;clear hq g;go_enter Tryz.func328,Tryz.ntmps328
 go_wp2_with fail
 go_quiet (fail)
 go_wp2_with fail
 go_ret2
 refine⟨(ExtX.refl _).drewN _,?_⟩;have f:(((hi*4294967296+lo)/y:Nat):Int)%4294967296=(((hi*4294967296+lo)/y:Nat):Int):=a5F _ c.out;have a:(((hi*4294967296+lo)%y:Nat):Int)%4294967296=(((hi*4294967296+lo)%y:Nat):Int):=a5F _ (Nat.lt_trans d.out j);simp only[Int.natCast_ediv,Int.natCast_emod,Int.natCast_add,Int.natCast_mul,Int.cast_ofNat_Int]at f a |-;simp[f,a]
def b1C(X:Nat->Bool)(w:World)(q r:Nat)(e:Ending)(w':World):Prop:=
 Ext w w'/\∃ao cap l,e= .returned (.tuple #[.slice ao l.length cap, .int .u32 r])/\l.length<=cap/\a0w l q/\Sl (a0c .u32) 1 (mk X w') ao l
theorem a9J(X:Nat->Bool)(ao:Option Addr)(l:List Nat)(cap d:Nat)(w:World)(G:Sl (a0c .u32) 1 (mk X w) ao l)(hd:Dig l)(N:l.length<=1099511627776)(J:∀k,X k=true->k<w.heap.size)(H:0<d)(I:d<4294967296):Calls Tryz.prog 299 #[.slice ao l.length cap, .int .u32 d] w (b1C X w (nv l/d) (nv l%d)):=by
 have M:=G.hd;go_enter Tryz.func299,Tryz.ntmps299
 go_wp2_with (at_make;refine a1S a0F (a0c.elem .u32) 0 (fun _=>rfl) X J w.heap.size (Nat.le_refl _) l.length rfl rfl (by omega) (by omega) (by omega) ?_;intro oo Q F h)
 go_loopw [5,6] (fun c i wr=>∃(k:Nat) (q:List Nat) (r:Nat),i= .int .i64 ((k:Int) - 1)/\c= .int .u32 r/\k<=l.length/\a2a l q d k r/\OL (a0c .u32) 1 X w.heap.size 110 wr oo l.length q/\Ext w wr) (fun _ i _=>(intOf i+1).toNat)
 case atStart=>exact⟨l.length,_,0,rfl,rfl,by omega,a2a.start l d H,F,h⟩
 case round=>
  obtain⟨k,q,r,rfl,rfl,L,a,g,f⟩:=hrel;clear F h;have b:=hid a.1;have B:=a.2.2.1;have K:Hd oo l.length:=b.out▸g.hd;by_cases z:0<k
  ·have x:=(G.mono (a0c.mono _) (a0k f)).nat (k - 1) (by omega)
   have n:=hd.get (k - 1) (by omega);rw[a0S]at n;have E:=a.step z L hd;go_wp2_with (first|(with_reducible refine a0n a0F (by omega) (by assumption) ?_)|(go_at_call 328;refine(a9I r l[k - 1] d _ B I n).mono ?_;rintro e R ⟨j,rfl⟩;have m:=g.ext0 (a0c.elem _) j)|((with_reducible show wpList _ _ _ (⟨_, .store _ _ _,_,_,_,_⟩::_) _ _);refine a0H a2U (k - 1) ((r*4294967296+l[k - 1])/d) rfl (by omega) m (by rw[b.out];omega) rfl (by simp) ?_;intro S v u))
   go_roundw
   case rel=>exact⟨k - 1,_,_,by go_num,by simp,by omega,E,v,(f.trans j).own m (Nat.le_refl _) u⟩
   case measure=>simp[intOf];omega
  ·obtain rfl:k=0:=by omega
   obtain⟨o,s⟩:=a.done;have p:=hid o;have t:=hid s;have A:=a.2.1;have D:=g.sl (a0c.elem .u32);clear o s;go_wp2_with fail
   rw[<-b.out];refine(a1p X _ _ _ _ D A (by rw[b.out];omega) (by omega)).mono ?_;rintro e P ⟨rfl,O,rfl,y,x,C⟩;go_wp2_with fail
   go_ret2
   rw[p.out]at x;exact⟨f,_,_,_,by rw[<-t.out];rfl,y,x,C⟩
theorem b3R(X:Nat->Bool)(ao bo:Option Addr)(G H:List Nat)(ca cb:Nat)(w:World)(Y:Sl (a0c .u32) 1 (mk X w) ao G)(Z:Sl (a0c .u32) 1 (mk X w) bo H)(N:Dig G)(O:Dig H)(R:G.length<=1099511627776)(S:H.length<=1099511627776)(q:G.length<=ca)(r:H.length<=cb)(hX:∀k,X k=true->k<w.heap.size)(na nb:Nat)(T:val G=na)(U:val H=nb):Calls Tryz.prog 234 #[.slice ao G.length ca, .slice bo H.length cb] w (a3y X w (na*nb)):=by
 go_enter Tryz.func234,Tryz.ntmps234
 go_wp2_with fail
 refine(a0T X _ _ _ _ Y N (by omega) q).mono ?_;rintro e w' ⟨rfl,b7,b9,a,rfl,b4,K,l,A⟩;go_wp2_with fail
 refine(a0T X _ _ _ _ Z O (by omega) r).mono ?_;rintro e w' ⟨rfl,b8,c0,b,rfl,b5,M,n,B⟩;rw[T]at l;rw[U]at n;have b2:a.length<=1099511627776:=Nat.le_trans K R;have b3:b.length<=1099511627776:=Nat.le_trans M S;have a0:Hid (nv a*nv b=na*nb):=hid (by rw[l.2.2,n.2.2]);have u:=l.1;have v:=n.1;clear T U K M Y Z R S q r l n N O;have c1:=A.hd;have c2:=B.hd;go_wp2_with (at_make;refine a1S a0F (a0c.elem .u32) 0 (fun _=>rfl) X hX w.heap.size (Nat.le_refl _) (a.length+b.length) rfl rfl (by omega) (by omega) (by omega) ?_;intro oo w1 hO I)
 go_loopw [23] (fun i wr=>∃(k:Nat) (o:List Nat),i= .int .i64 k/\k<=a.length/\a1X a b o k 0 0/\OL (a0c .u32) 1 X w.heap.size 110 wr oo (a.length+b.length) o/\Ext w wr) (fun i _=>a.length - (intOf i).toNat)
 case atStart=>exact⟨0,_,rfl,by omega,a1X.start a b,hO,I⟩
 case round=>
  obtain⟨k,o,rfl,hk,d,f,g⟩:=hrel;clear hO I;have h:=hid d.1;by_cases s:k<a.length
  ·have q:=(A.mono (a0c.mono _) (a0k g)).nat k s
   have J:=u.get k s;rw[a0S]at J;obtain⟨x,hx⟩:∃x,a[k]=x:=⟨_,rfl⟩;rw[hx]at q J;have a9:=hid hx;clear hx;obtain⟨wo,rfl⟩:∃wo:World,wo=wr:=⟨_,rfl⟩;go_wp2_with (with_reducible refine a0n a0F (by omega) (by assumption) ?_)
   go_loopw [8,30] (fun c j wr=>∃(m:Nat) (o:List Nat) (t:Nat),j= .int .i64 m/\c= .int .u64 t/\m<=b.length/\a1X a b o k m t/\OL (a0c .u32) 1 X w.heap.size 110 wr oo (a.length+b.length) o/\Ext w wr) (fun _ j _=>b.length - (intOf j).toNat)
   case atStart=>exact⟨0,o,0,rfl,rfl,by omega,d,f,g⟩
   case round=>
    clear d f g h q;clear o;obtain⟨m,o,t,rfl,rfl,hm,d,f,g⟩:=hrel;have h:=hid d.1;have c3:Hd oo (a.length+b.length):=h.out▸f.hd;have a2:=d.2.2.1;rw[a0S]at a2;by_cases E:m<b.length
    ·have r:=(B.mono (a0c.mono _) (a0k g)).nat m E
     have p:k+m<o.length:=by rw[h.out];omega
     have V:=(f.sl (a0c.elem _)).nat (k+m) p;have L:=v.get m E;have W:=d.2.1.get (k+m) p;rw[a0S]at L W;obtain⟨y,hy⟩:∃y,b[m]=y:=⟨_,rfl⟩;obtain⟨z,hz⟩:∃z,o[k+m]=z:=⟨_,rfl⟩;obtain⟨F,a1⟩:=d.step' s E u v p a9.out hy hz;rw[hy]at r L;rw[hz]at V W;clear hy hz;have b0:(0:Int)<=(x:Int)*(y:Int):=Int.mul_nonneg (by omega) (by omega);have b1:(t:Int)+((x:Int)*(y:Int)+(z:Int))<18446744073709551616:=by rw[<-Int.natCast_mul];omega
     have c4:IntKind.u64.wrap ((x:Int)*(y:Int))=(x:Int)*(y:Int):=IntWalk.u64_in _ (by omega);have c5:IntKind.u64.wrap ((x:Int)*(y:Int)+(z:Int))=(x:Int)*(y:Int)+(z:Int):=IntWalk.u64_in _ (by omega);have c6:IntKind.u64.wrap ((t:Int)+((x:Int)*(y:Int)+(z:Int)))=(t:Int)+((x:Int)*(y:Int)+(z:Int)):=IntWalk.u64_in _ (by omega);clear a1 b1 b0;have b6:wr.cell? (adr oo ((k:Int)+(m:Int)).toNat)=some (.int .u32 z):=V;go_wp2_with (first|(with_reducible refine a0n a0F (by omega) (by assumption) ?_)|((with_reducible show wpList _ _ _ (⟨_, .store _ _ _,_,_,_,_⟩::_) _ _);refine a0H a2U (k+m) ((t+(x*y+z))%4294967296) rfl (by omega) f p rfl (by simp) ?_;intro w3 D C))
     go_roundw
     case rel=>exact⟨m+1,_,_,by go_num,by simp,by omega,F,D,g.own f (Nat.le_refl _) C⟩
     case measure=>simp[intOf];omega
    ·have a5:m=b.length:=by omega
     subst a5;have F:=d.row s;have p:k+b.length<o.length:=by rw[h.out];omega
     go_wp2_with (first|(with_reducible refine a0n a0F (by omega) (by assumption) ?_)|((with_reducible show wpList _ _ _ (⟨_, .store _ _ _,_,_,_,_⟩::_) _ _);refine a0H a2U (k+b.length) t rfl (by omega) f p rfl (by omega) ?_;intro w3 D C))
     go_roundw
     case rel=>exact⟨k+1,_,by go_num,by omega,F,D,g.own f (Nat.le_refl _) C⟩
     case measure=>simp[intOf];omega
  ·have a3:k=a.length:=by omega
   subst a3;have P:=d.done rfl;have a6:=d.2.1;have a8:=f.sl (a0c.elem .u32);have Q:=hid P;clear P;go_wp2_with fail
   rw[<-h.out];refine(a1p X _ _ _ _ a8 a6 (by rw[h.out];omega) (by omega)).mono ?_;rintro e w' ⟨rfl,l',rfl,a4,hc,a7⟩;go_wp2_with fail
   go_ret
   rw[Q.out,a0.out]at hc;exact⟨g,_,_,_,rfl,a4,hc,a7⟩
theorem a4P(X:Nat->Bool)(ao:Option Addr)(l:List Nat)(cap:Nat)(w:World)(n:Nat)(hs:Sl (a0c .u32) 1 (mk X w) ao l)(hc:a0w l n)(hl:l.length<=4398046511104)(hX:∀k,X k=true->k<w.heap.size):Calls Tryz.prog 298 #[.slice ao l.length cap] w (a3y X w n):=by
 have hnil:=fun wx=>Lib.run_eql_slice_nil (P:=Tryz.prog) wx 37 110 ao l.length cap 0 0 Tryz.underlying37;cases ao with
 |none=>
  have hl0:l= []:=by
   cases l with
   |nil=>rfl
   |cons x l=>obtain⟨b,o,h⟩:=hs.1 (by simp);simp at h
  subst hl0;simp only[List.length_nil,Option.isNone_none]at hnil |-;go_enter Tryz.func298,Tryz.ntmps298
  go_wp2_with fail
  go_ret
  exact⟨ExtX.refl _,none,0,[],rfl,by simp,hc,Sl.nil _ _ _ _⟩
 |some ad=>
  have hO:OL (a0c .u32) 1 X w.heap.size 110 (w.alloc (.cells #[] 110)) (some ⟨w.heap.size,0,none⟩) 0 []:=
   OL.lit (a0c.elem .u32) hX (Nat.le_refl _) [] [] _ rfl rfl (fun i hi=>by simp at hi) (by simp)
  have hs2:=hs.mono (a0c.mono _) (b5F X w (.cells #[] 110));have hX2:∀k,X k=true->k<(w.alloc (.cells #[] 110)).heap.size:=fun k hk=>by have:=hX k hk;simp;omega
  go_enter Tryz.func298,Tryz.ntmps298
  go_wp2_with (at_builtin;refine a4i (l:=[]) a0F rfl (a0c.elem .u32) (by simp) hX2 l rfl rfl hO hs2 (by simp;omega) (by simp;omega) ?_;intro ao2 cap2 w2 hO2 hE2 _)
  go_ret
  exact⟨((ExtX.refl w).alloc _).own hO (Nat.le_refl _) hE2,_,_,l,rfl,by have:=hO2.lenCap;simpa using this,hc,by simpa using hO2.sl (a0c.elem _)⟩
def b3o(X:Nat->Bool)(w:World)(q r:Nat)(e:Ending)(w':World):Prop:=
 Ext w w'/\∃ao cap l bo cbp m,e= .returned (.tuple #[.slice ao l.length cap, .slice bo m.length cbp, .bool true])/\l.length<=cap/\a0w l q/\Sl (a0c .u32) 1 (mk X w') ao l/\m.length<=cbp/\a0w m r/\Sl (a0c .u32) 1 (mk X w') bo m
theorem b1D(X:Nat->Bool)(ao bo:Option Addr)(D E:List Nat)(ca cb:Nat)(w:World)(U:Sl (a0c .u32) 1 (mk X w) ao D)(V:Sl (a0c .u32) 1 (mk X w) bo E)(a6:Dig D)(a7:Dig E)(N:D.length<=1099511627776)(a9:E.length<=1099511627776)(J:D.length<=ca)(L:E.length<=cb)(hX:∀k,X k=true->k<w.heap.size)(i nb:Nat)(O:val D=i)(P:val E=nb)(h0:0<nb)(h1:nb<4294967296):Calls Tryz.prog 245 #[.slice ao D.length ca, .slice bo E.length cb] w (b3o X w (i/nb) (i%nb)):=by
 go_enter Tryz.func245,Tryz.ntmps245
 go_wp2_with fail
 refine(a0T X _ _ _ _ U a6 (by omega) J).mono ?_;rintro e w' ⟨rfl,F,G,a,rfl,K,I,f,m⟩;go_wp2_with fail
 refine(a0T X _ _ _ _ V a7 (by omega) L).mono ?_;rintro e w' ⟨rfl,Y,a0,b,rfl,s,a4,g,n⟩;rw[O]at f;rw[P]at g;have a3:=a9G g h0 h1;subst a3;have q:a.length<=1099511627776:=Nat.le_trans I N;have b3:=hid f.val;have b4:=hid g.val;have M:=g.1;have t:=f.1;clear O P I a4 U V N a9 J L;have b5:=m.hd;have a8:=n.hd;simp only[List.length_cons,List.length_nil,Nat.zero_add]at a8 s |-;go_wp2_with fail
 refine(a2F X F Y a [nb] G a0 w m n t M q (by simp) K s i nb b3.out b4.out).mono ?_;rintro e w2 ⟨j,rfl⟩;have u:=m.mono (a0c.mono _) (a0k j);have W:=n.mono (a0c.mono _) (a0k j);have y:∀k,X k=true->k<w2.heap.size:=fun k hk=>Nat.lt_of_lt_of_le (hX k hk) j.size;by_cases p:i<nb
 ·have B:a2v i nb<0:=(a2W i nb).2 p
  have hq:=hid (Nat.div_eq_of_lt p);have R:=hid (Nat.mod_eq_of_lt p);generalize a2v i nb=c at B;go_wp2_with fail
  refine(a4P X _ _ _ _ i u f (by omega) y).mono ?_;rintro e w3 ⟨o,v,x,l3,rfl,z,d,C⟩;go_wp2_with fail
  go_ret3
  refine⟨j.trans o,none,0,[],v,x,l3,rfl,by simp,?_,Sl.nil _ _ _ _,z,?_,C⟩
  ·rw[hq.out];exact a0w.nil
  ·rw[R.out];exact d
 ·have B:¬a2v i nb<0:=fun h=>p ((a2W i nb).1 h)
  generalize a2v i nb=c at B;have A:=W.nat 0 (by simp);simp only[List.getElem_cons_zero]at A;go_wp2_with (with_reducible refine a0n a0F (by omega) (by assumption) ?_)
  refine(a9J X F a G nb w2 u t q y h0 h1).mono ?_;rintro e w3 ⟨o,v,x,l3,rfl,z,d,C⟩;have a2:∀k,X k=true->k<w3.heap.size:=fun k hk=>Nat.lt_of_lt_of_le (y k hk) o.size;have b1:nv a%nb<nb:=Nat.mod_lt _ h0;obtain⟨r,R⟩:∃r,nv a%nb=r:=⟨_,rfl⟩;rw[R]at b1 |-;have b0:=hid R;clear R;go_wp2_with fail
  refine(a2X X r _ (by omega) a2).mono ?_;rintro e w4 ⟨H,Z,a1,l4,rfl,a5,l,b2⟩;go_wp2_with fail
  go_ret3
  have T:=C.mono (a0c.mono _) (a0k H);have Q:=f.2.2;rw[Q]at d;have S:=b0.out;rw[Q]at S;rw[<-S]at l;exact⟨(j.trans o).trans H,v,x,l3,Z,a1,l4,rfl,z,d,T,a5,l,b2⟩
end Go.Proofs.YtnnpfhoigmegcaaGreat
