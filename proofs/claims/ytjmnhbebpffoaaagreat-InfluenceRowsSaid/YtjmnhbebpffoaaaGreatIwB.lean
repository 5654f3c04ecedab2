/- Parts of a proof: each theorem states what it proves, and its conditions. -/
import Derived.Test.YtjmnhbebpffoaaaGreatIwA
import Derived.WalkKit
import Derived.WalkSpells
import Derived.WalkLawsBesides
import Derived.Deep.DeepCutAuto
import Derived.Laws.CopyOwn
import Derived.Test.YtjmnhbebpffoaaaGreatRows
import Derived.Deep.QuietTactic
import Derived.BigQuiet
set_option maxRecDepth 100000
namespace Go.Proofs.YtjmnhbebpffoaaaGreat
open Go.RowKit
def a2Z(m:Mat)(b:List Rat)(n:Nat):Mat:=(List.range n).map fun i=>m.getD i []++[b.getD i 0]
theorem a2u{m:Mat}{b:List Rat}{n c:Nat}(e:Shp n c m):Shp n (c+1) (a2Z m b n):=⟨by simp[a2Z],fun r d=>by
 obtain⟨i,a,rfl⟩:=List.mem_map.1 d;rw[List.length_append,e.row (List.mem_range.1 a)];rfl⟩
theorem b2z{m:Mat}{b:List Rat}{n i:Nat}(h:i<(a2Z m b n).length)(c:i<m.length)(a:i<b.length):(a2Z m b n)[i]=m[i]++[b[i]]:=by
 simp[a2Z,c,a,List.getD_eq_getElem?_getD]
theorem a8A{m:Mat}{b:List Rat}{n c:Nat}(f:Shp n c m):Eqm n (c+1) (ent (a2Z m b n)) (a3k c (ent m) fun i=>b.getD i 0):=fun i a j g=>by
 have d:=f.row a;have e:(a2Z m b n).getD i []=m.getD i []++[b.getD i 0]:=by simp[a2Z,List.getD_eq_getElem?_getD,a]
 show((a2Z m b n).getD i []).getD j 0=_
 unfold a3k;rw[e,List.getD_eq_getElem?_getD];by_cases h:j=c
 ·rw[if_pos h,List.getElem?_append_right (by omega),d];subst h;simp
 ·rw[if_neg h,List.getElem?_append_left (by omega),<-List.getD_eq_getElem?_getD];rfl
theorem b0x(k:Nat):eN [] k=([],[],false):=by
 induction k with
 |zero=>rfl
 |succ k ih=>unfold eN;rw[ih];rfl
theorem b0y(k:Nat):a0J [] k=([],[]):=by unfold a0J;rw[b0x];rfl
theorem b2A{n c:Nat}{m:Mat}(d:Shp n c m)(a:Nat)(h:0<n->a=c):a0J m a=a0J m c:=by
 by_cases b:n=0
 ·have:m= []:=List.eq_nil_of_length_eq_zero (by rw[d.1];exact b)
  subst this;rw[b0y,b0y]
 ·rw[h (by omega)]
theorem b2B{n c:Nat}{m:Mat}(k:Shp n c m)(b:Nat)(h:0<n->b=c)(d:b2h m c):b2h m b:=by
 by_cases f:n=0
 ·have:m= []:=List.eq_nil_of_length_eq_zero (by rw[k.1];exact f)
  subst this;obtain⟨B,g,i,_⟩:=d;have a:=i 0 (Nat.zero_le _);rw[b0x]at a;refine⟨B,g,fun j _=>by rw[b0x];exact a,fun t e=>?_⟩;rw[b0x]at e |-;have:t=0:=by simpa using e
  subst this;exact a
 ·rw[h (by omega)];exact d
def sN(R:Mat)(p:List Nat)(c:Nat):Nat->List Rat
 |0=>List.replicate c 0
 |i+1=>(sN R p c i).set (p.getD i 0) (ent R i c)
theorem b0z(R:Mat)(p:List Nat)(c i:Nat):(sN R p c i).length=c:=by
 induction i with
 |zero=>exact List.length_replicate
 |succ i ih=>show((sN R p c i).set _ _).length=c;rw[List.length_set,ih]
theorem b8O{n c:Nat}{R:Mat}{p:List Nat}(hr:Rref n (c+1) (ent R) p)(i:Nat)(hi:i<=p.length)(x:Nat)(hx:x<c):(sN R p c i).getD x 0=match p.findIdx? (· ==x)with|some k=>if k<i then ent R k c else 0|none=>0:=by
 induction i with
 |zero=>
  show(List.replicate c (0:Rat)).getD x 0=_
  have:(List.replicate c (0:Rat)).getD x 0=0:=by simp[List.getD_eq_getElem?_getD,hx]
  rw[this];cases p.findIdx? (· ==x)<;>simp
 |succ i ih=>
  have hip:i<p.length:=by omega
  have hpi:p.getD i 0=p[i]:=by simp[List.getD_eq_getElem?_getD,hip]
  show((sN R p c i).set (p.getD i 0) (ent R i c)).getD x 0=_
  rw[hpi,List.getD_eq_getElem?_getD,List.getElem?_set,b0z];by_cases h:p[i]=x
  ·rw[if_pos h,if_pos (by omega),<-h,hr.idx i hip];simp
  ·rw[if_neg h,<-List.getD_eq_getElem?_getD,ih (by omega)]
   cases hf:p.findIdx? (· ==x)with
   |none=>rfl
   |some k=>
    have hk:=List.findIdx?_eq_some_iff_getElem.1 hf;obtain⟨hk1,hk2,_⟩:=hk;have hki:k≠i:=by rintro rfl;exact h (by simpa using hk2)
    dsimp only
    by_cases h2:k<i
    ·rw[if_pos h2,if_pos (by omega)]
    ·rw[if_neg h2,if_neg (by omega)]
def b6j(R:Mat)(p:List Nat)(c:Nat):List Rat:=sN R p c p.length
theorem b0A{n c:Nat}{R:Mat}{p:List Nat}(hr:Rref n (c+1) (ent R) p)(x:Nat)(hx:x<c):(b6j R p c).getD x 0=b2s (ent R) p c x:=by
 unfold b6j b2s;rw[b8O hr _ (c1B _) x hx];cases hf:p.findIdx? (· ==x)with
 |none=>rfl
 |some k=>
  obtain⟨hk1,_⟩:=List.findIdx?_eq_some_iff_getElem.1 hf
  dsimp only
  rw[if_pos hk1]
def lenOf:Value->Nat| .slice _ n _=>n|_=>0
theorem hid{p:Prop}(h:p):Hid p:=h
theorem a4T{a:Option Addr}{n m c:Nat}(h:n=m):Ending.returned (.slice a n c)=.returned (.slice a m c):=by rw[h]
theorem a0N{k:IntKind}{a b:Int}(h:a=b):Ending.returned (.int k a)=.returned (.int k b):=by rw[h]
theorem a0m{a b:Bool}(h:a=b):Ending.returned (.bool a)=.returned (.bool b):=by rw[h]
theorem a8B(n:Nat):((n:Int) !=0)=(n !=0):=by rw[Bool.eq_iff_iff];simp
theorem a7q(n:Nat)(h:n<4294967296):(n:Int)%4294967296=n:=by omega
theorem a2C{a b:Int}(h:a≠b):(a==b)=false:=by simpa using h
theorem b0B{a b:Int}(h:a=b):(a !=b)=false:=by simpa using h
theorem a6u{a b:Int}(h:a=b):(a==b)=true:=by simpa using h
theorem a7c{a b:Int}(h:a≠b):(a !=b)=true:=by simpa using h
abbrev Mem:=Addr->Option Value
def Le(h h':Mem):Prop:=∀a u,h a=some u->h' a=some u
theorem Le.refl(h:Mem):Le h h:=fun _ _ x=>x
theorem Le.trans{a b c:Mem}(h:Le a b)(k:Le b c):Le a c:=fun x u e=>k x u (h x u e)
theorem a1Z{w:World}{a:Addr}{u:Value}(h:w.cell? a=some u):a.block<w.heap.size:=by
 unfold World.cell? at h;by_cases b:a.block<w.heap.size
 ·exact b
 ·rw[Array.getElem?_eq_none (by omega)]at h;simp at h
structure ExtX (Y:Nat->Bool) (w w':World):Prop where
 os:w'.os=w.os
 tape:w'.tape=w.tape
 output:w'.output=w.output
 size:w.heap.size<=w'.heap.size
 block:∀k,k<w.heap.size->Y k=false->w'.heap[k]? =w.heap[k]?
def noY:Nat->Bool:=fun _=>false
abbrev Ext(w w':World):Prop:=ExtX noY w w'
theorem ExtX.refl{Y:Nat->Bool}(w:World):ExtX Y w w:=⟨rfl,rfl,rfl,c1B _,fun _ _ _=>rfl⟩
theorem ExtX.trans{Y:Nat->Bool}{a b c:World}(h:ExtX Y a b)(k:ExtX Y b c):ExtX Y a c:=
 ⟨k.os.trans h.os,k.tape.trans h.tape,k.output.trans h.output,c1A h.size k.size,fun i d e=>(k.block i (c1C d h.size) e).trans (h.block i d e)⟩
theorem ExtX.weaken{Y Z:Nat->Bool}{a b:World}(h:ExtX Y a b)(hz:∀k,k<a.heap.size->Z k=false->Y k=false):ExtX Z a b:=
 ⟨h.os,h.tape,h.output,h.size,fun k c d=>h.block k c (hz k c d)⟩
theorem ExtX.of{Y:Nat->Bool}{a b:World}(h:Ext a b):ExtX Y a b:=h.weaken fun _ _ _=>rfl
theorem ExtX.alloc{Y:Nat->Bool}{a w:World}(h:ExtX Y a w)(o:Obj):ExtX Y a (w.alloc o):=
 h.trans ⟨rfl,rfl,rfl,by simp,fun k b _=>Below.heap_alloc _ _ _ b⟩
theorem ExtX.drew{Y:Nat->Bool}{a w:World}(h:ExtX Y a w):ExtX Y a w.drew:=⟨h.os,h.tape,h.output,h.size,h.block⟩
theorem ExtX.drewN{Y:Nat->Bool}{a w:World}(h:ExtX Y a w)(n:Nat):ExtX Y a (w.drewN n):=⟨h.os,h.tape,h.output,h.size,h.block⟩
theorem ExtX.then_{Y Z:Nat->Bool}{a b c:World}(h:ExtX Y a b)(k:ExtX Z b c)(hz:∀i,i<a.heap.size->Y i=false->Z i=false):ExtX Y a c:=
 ⟨k.os.trans h.os,k.tape.trans h.tape,k.output.trans h.output,c1A h.size k.size,fun i d e=>(k.block i (c1C d h.size) (hz i d e)).trans (h.block i d e)⟩
theorem ExtX.below{w a:World}(h:Ext w a):Below w.heap.size w a:=⟨h.os,h.tape,h.output,h.size,fun k b=>h.block k b rfl⟩
def mk(X:Nat->Bool)(w:World):Mem:=fun a=>if X a.block then none else w.cell? a
theorem a1H{X:Nat->Bool}{w:World}{a:Addr}{u:Value}(h:mk X w a=some u):w.cell? a=some u:=by
 unfold mk at h;split at h
 ·simp at h
 ·exact h
theorem b8P(X:Nat->Bool)(w:World):Le (mk X w) w.cell?:=fun _ _ h=>a1H h
theorem a4U(w:World):mk noY w=w.cell?:=by funext a;simp[mk,noY]
theorem a0s{X Y:Nat->Bool}{w d:World}(h:ExtX Y w d)(f:∀k,Y k=true->X k=true):Le (mk X w) (mk X d):=by
 intro a u e;have c:=a1H e;have i:=a1Z c;unfold mk at e |-;by_cases b:X a.block=true
 ·simp[b]at e
 ·rw[if_neg b]
  have j:Y a.block=false:=by
   cases g:Y a.block
   ·rfl
   ·exact absurd (f _ g) b
  rw[World.cell?_of_block (h.block a.block i j)];exact c
theorem a0k{X:Nat->Bool}{w a:World}(h:Ext w a):Le (mk X w) (mk X a):=a0s h (fun k b=>by simp[noY]at b)
theorem a1a{X Z:Nat->Bool}{w:World}(h:∀k,k<w.heap.size->X k=true->Z k=true):Le (mk Z w) (mk X w):=by
 intro a u e;have d:=a1Z (a1H e);have c:=a1H e;unfold mk at e |-;by_cases b:X a.block=true
 ·simp[h _ d b]at e
 ·rw[if_neg b];exact c
theorem a1g{X Y Z:Nat->Bool}{w f:World}(h:ExtX Y w f)(g:∀k,k<w.heap.size->Y k=true->X k=true)(i:∀k,k<w.heap.size->Z k=true->X k=true):Le (mk X w) (mk Z f):=by
 intro a u e;have d:=a1H e;have b:=a1Z d;unfold mk at e |-;by_cases c:X a.block=true
 ·simp[c]at e
 ·have hz:¬Z a.block=true:=fun hz=>c (i _ b hz)
  rw[if_neg hz];have l:Y a.block=false:=by
   cases j:Y a.block
   ·rfl
   ·exact absurd (g _ b j) c
  rw[World.cell?_of_block (h.block a.block b l)];exact d
theorem ExtX.cell{w b:World}(h:Ext w b){a:Addr}{u:Value}(c:w.cell? a=some u):b.cell? a=some u:=by
 have:=a0k (X:=noY) h a u (by rw[a4U];exact c);rwa[a4U]at this
theorem ExtX.cellY{Y:Nat->Bool}{w c:World}(h:ExtX Y w c){a:Addr}{u:Value}(b:w.cell? a=some u)(d:Y a.block=false):c.cell? a=some u:=by
 rw[World.cell?_of_block (h.block a.block (a1Z b) d)];exact b
theorem a4o{w:World}{a:Array Value}{e:TypeId}(j:Nat){u:Value}(h:a[j]? =some u):(w.alloc (.cells a e)).cell? ⟨w.heap.size,j,none⟩=some u:=by
 unfold World.cell?;rw[heap_alloc_new w];simpa using h
def ob(ao:Option Addr):Nat->Bool:=fun k=>match ao with|some a=>a.block==k|none=>false
def un(X:Nat->Bool)(ao:Option Addr):Nat->Bool:=fun k=>X k||ob ao k
theorem a0j{X:Nat->Bool}{ao:Option Addr}{k:Nat}(h:X k=true):un X ao k=true:=by simp[un,h]
theorem a0u{X:Nat->Bool}{ao:Option Addr}{k:Nat}(h:ob ao k=true):un X ao k=true:=by simp[un,h]
theorem a0V{X:Nat->Bool}{ao:Option Addr}{k:Nat}(h:un X ao k=false):X k=false/\ob ao k=false:=by simpa[un]using h
def adr(ao:Option Addr)(k:Nat):Addr:=⟨(ao.getD ⟨0,0,none⟩).block,(ao.getD ⟨0,0,none⟩).off+k,none⟩
@[go_sem] theorem a3y (ao:Option Addr) (k j:Nat):(adr ao k).add j=adr ao (k+j):=by
 unfold adr;rw[Addr.add_lit,Nat.add_assoc]
theorem a2d(b o k:Nat):adr (some ⟨b,o,none⟩) k=⟨b,o+k,none⟩:=rfl
def Hd(ao:Option Addr)(n:Nat):Prop:=0<n->∃b off,ao=some ⟨b,off,none⟩
def Sl{α:Type}(R:Mem->Value->α->Prop)(sz:Nat)(h:Mem)(ao:Option Addr)(l:List α):Prop:=
 Hd ao l.length/\∀i (hi:i<l.length),∃u:Value,u.cells.size=sz/\(∀j (hj:j<u.cells.size),h (adr ao (i*sz+j))=some u.cells[j])/\R h u l[i]
def a3K{α:Type}(R:Mem->Value->α->Prop):Prop:=∀(h h':Mem) (u:Value) (x:α),Le h h'->R h u x->R h' u x
def a3T{α:Type}(R:Mem->Value->α->Prop):Prop:=∀(h:Mem) (u:Value) (x:α),R h u x->u.cells=#[u]
theorem Sl.hd{α:Type}{R:Mem->Value->α->Prop}{sz:Nat}{h:Mem}{ao:Option Addr}{l:List α}(s:Sl R sz h ao l):Hd ao l.length:=s.1
theorem Sl.mono{α:Type}{R:Mem->Value->α->Prop}(f:a3K R){sz:Nat}{h a:Mem}{ao:Option Addr}{l:List α}(b:Le h a)(s:Sl R sz h ao l):Sl R sz a ao l:=by
 refine⟨s.1,fun i g=>?_⟩;obtain⟨u,c,d,e⟩:=s.2 i g;exact⟨u,c,fun j k=>b _ _ (d j k),f _ _ _ _ b e⟩
theorem Sl.nil{α:Type}(R:Mem->Value->α->Prop)(sz:Nat)(h:Mem)(ao:Option Addr):Sl R sz h ao []:=
 ⟨fun h=>by simp at h,fun i a=>by simp at a⟩
theorem Sl.take{α:Type}{R:Mem->Value->α->Prop}{sz:Nat}{h:Mem}{ao:Option Addr}{l:List α}(s:Sl R sz h ao l)(n:Nat):Sl R sz h ao (l.take n):=by
 refine⟨fun f=>s.1 (by simp at f;omega),fun i e=>?_⟩;have a:i<l.length:=by simp at e;omega
 obtain⟨u,b,c,d⟩:=s.2 i a;exact⟨u,b,c,by simpa using d⟩
def SlV{α:Type}(R:Mem->Value->α->Prop)(sz:Nat)(h:Mem)(v:Value)(l:List α):Prop:=
 ∃ao cap,v=.slice ao l.length cap/\l.length<=cap/\Sl R sz h ao l
theorem SlV.mono{α:Type}{R:Mem->Value->α->Prop}(a:a3K R)(sz:Nat):a3K (SlV R sz):=by
 rintro h e u x c ⟨ao,cap,rfl,b,d⟩;exact⟨ao,cap,rfl,b,d.mono a c⟩
theorem SlV.one{α:Type}{R:Mem->Value->α->Prop}{sz:Nat}:a3T (SlV R sz):=by
 rintro h u x ⟨ao,cap,rfl,_⟩;rfl
theorem SlV.zero{α:Type}(R:Mem->Value->α->Prop)(sz:Nat)(h:Mem):SlV R sz h (.slice none 0 0) []:=
 ⟨none,0,rfl,c1B _,Sl.nil _ _ _ _⟩
def a0c(k:IntKind):Mem->Value->Nat->Prop:=fun _ u x=>u=.int k (x:Int)
theorem a0c.mono(k:IntKind):a3K (a0c k):=fun _ _ _ _ _ h=>h
theorem a0c.one(k:IntKind):a3T (a0c k):=by rintro h u x rfl;rfl
def a1U(k:IntKind):Mem->Value->Int->Prop:=fun _ u x=>u=.int k x
theorem a1U.mono(k:IntKind):a3K (a1U k):=fun _ _ _ _ _ h=>h
theorem a1U.one(k:IntKind):a3T (a1U k):=by rintro h u x rfl;rfl
theorem Sl.cell{α:Type}{R:Mem->Value->α->Prop}{h:Mem}{ao:Option Addr}{l:List α}(s:Sl R 1 h ao l)(d:a3T R)(i:Nat)(f:i<l.length):∃u,h (adr ao i)=some u/\R h u l[i]:=by
 obtain⟨u,_,e,a⟩:=s.2 i f;have c:=d _ _ _ a;have b:=e 0 (by rw[c];exact Nat.one_pos);refine⟨u,?_,a⟩;rw[Nat.mul_one,Nat.add_zero]at b;rw[b];simp[c]
theorem Sl.nat{k:IntKind}{X:Nat->Bool}{w:World}{ao:Option Addr}{l:List Nat}(s:Sl (a0c k) 1 (mk X w) ao l)(i:Nat)(b:i<l.length):w.cell? (adr ao i)=some (.int k (l[i]:Int)):=by
 obtain⟨u,a,rfl⟩:=s.cell (a0c.one k) i b;exact a1H a
theorem Sl.int{k:IntKind}{X:Nat->Bool}{w:World}{ao:Option Addr}{l:List Int}(s:Sl (a1U k) 1 (mk X w) ao l)(i:Nat)(b:i<l.length):w.cell? (adr ao i)=some (.int k l[i]):=by
 obtain⟨u,a,rfl⟩:=s.cell (a1U.one k) i b;exact a1H a
structure SliceT (P:Program) (t e sz by_:Nat) (z:Value):Prop where
 und:P.underlying t=some (.slice e)
 info:(P.info? e).map (fun i=>(i.zero,i.size,i.bytes))=some (some z,sz,by_)
def TyI(P:Program)(t sz:Nat):Prop:=∃ti,P.info? t=some ti/\ti.size=sz
section
variable {P:Program} {ops:Array Oper} {Q:Exit->Act->World->Prop} {rest:List Oper} {a:Act} {w:World}
theorem a0e{t e sz c:Nat}{z:Value}(T:SliceT P t e sz c z)(ao:Option Addr)(len cap:Nat)(k:IntKind)(n:Nat)(f:Hd ao len)(j:n<len)(w:World):(Instr.indexAt t (.slice ao len cap) (.int k (n:Int))).run P w=.ok (.pointer (some (adr ao (n*sz)))) w:=by
 obtain⟨i,h,hz,d,g⟩:=info_parts T.info;obtain⟨b,a,rfl⟩:=f (by omega);subst d;have e:(⟨b,a,none⟩:Addr).add (n*i.size)=⟨b,a+n*i.size,none⟩:=Addr.add_lit _ _ _;simp[Instr.indexAt,asIntOf,Sem.run_bind,run_underlying T.und,Result.andThen,j,sizeOf,typeInfo,h,adr,e]
theorem a0y{t e a:Nat}{z:Value}(T:SliceT P t e 1 a z)(ao:Option Addr)(len cap:Nat)(k:IntKind)(n:Nat){m:Int}(b:Hd ao len)(d:n<len)(c:m=(n:Int))(w:World):(Instr.indexAt t (.slice ao len cap) (.int k m)).run P w=.ok (.pointer (some (adr ao n))) w:=by
 subst c;rw[a0e (P:=P) T ao len cap k n b d w,Nat.mul_one]
theorem b8Q{o:Oper}{K:Act->World->Prop}{t e b:Nat}{z:Value}(T:SliceT P t e 1 b z){ao:Option Addr}{len cap:Nat}{k:IntKind}{m:Int}(c:0<=m/\m<(len:Int))(d:Hd ao len)(h:K (a.put o.dst (.pointer (some (adr ao m.toNat)))) w):o.upon P a K Q ((Sem.run P (Instr.indexAt t (.slice ao len cap) (.int k m)) w).andThen fun v w=> .ok (.value v) w):=by
 obtain⟨n,rfl⟩:=Int.eq_ofNat_of_zero_le c.1;rw[a0e (P:=P) T ao len cap k n d (by omega) w,Nat.mul_one];exact h
theorem a0v{o:Oper}{K:Act->World->Prop}{t e b:Nat}{z:Value}(T:SliceT P t e 1 b z){ao:Option Addr}{len cap:Nat}{k:IntKind}{m:Int}(h:K (a.put o.dst (.pointer (some (adr ao m.toNat)))) w)(c:0<=m/\m<(len:Int):=by omega)(d:Hd ao len:=by assumption):o.upon P a K Q ((Sem.run P (Instr.indexAt t (.slice ao len cap) (.int k m)) w).andThen fun v w=> .ok (.value v) w):=b8Q T c d h
theorem b8R{o:Oper}{K:Act->World->Prop}{t e sz b:Nat}{z:Value}(T:SliceT P t e sz b z){ao:Option Addr}{len cap:Nat}{k:IntKind}{m:Int}(c:0<=m/\m<(len:Int))(d:Hd ao len)(h:K (a.put o.dst (.pointer (some (adr ao (m.toNat*sz))))) w):o.upon P a K Q ((Sem.run P (Instr.indexAt t (.slice ao len cap) (.int k m)) w).andThen fun v w=> .ok (.value v) w):=by
 obtain⟨n,rfl⟩:=Int.eq_ofNat_of_zero_le c.1;rw[a0e (P:=P) T ao len cap k n d (by omega) w];exact h
theorem a1w{o:Oper}{K:Act->World->Prop}{t e sz b:Nat}{z:Value}(T:SliceT P t e sz b z){ao:Option Addr}{len cap:Nat}{k:IntKind}{m:Int}(h:K (a.put o.dst (.pointer (some (adr ao (m.toNat*sz))))) w)(c:0<=m/\m<(len:Int):=by omega)(d:Hd ao len:=by assumption):o.upon P a K Q ((Sem.run P (Instr.indexAt t (.slice ao len cap) (.int k m)) w).andThen fun v w=> .ok (.value v) w):=b8R T c d h
end
def a0g(u:Value):List Value:=u.cells.toList
theorem a1c{sz:Nat}:∀(us:List Value),(∀u∈us,u.cells.size=sz)->(us.flatMap a0g).length=us.length*sz
 | [],_=>by simp
 |u::us,h=>by
  rw[List.flatMap_cons,List.length_append,a1c us (fun x hx=>h x (List.mem_cons_of_mem _ hx)),List.length_cons,Nat.succ_mul];have:(a0g u).length=sz:=by simp[a0g,h u (List.mem_cons_self ..)]
  omega
theorem a3b{sz:Nat}:∀(us:List Value) (i j:Nat) (hi:i<us.length),(∀u∈us,u.cells.size=sz)->j<sz->(us.flatMap a0g)[i*sz+j]? =(a0g us[i])[j]?
 |u::us,i,j,hi,h,hj=>by
  have hu:(a0g u).length=sz:=by simp[a0g,h u (List.mem_cons_self ..)]
  rw[List.flatMap_cons]
  match i with
  |0=>
   simp only[Nat.zero_mul,Nat.zero_add,List.getElem_cons_zero];rw[List.getElem?_append_left (by omega)]
  |i+1=>
   rw[List.getElem?_append_right (by rw[hu,Nat.succ_mul];omega),hu];have e:(i+1)*sz+j - sz=i*sz+j:=by rw[Nat.succ_mul];omega
   rw[e];simpa using a3b us i j (by simpa using hi) (fun x hx=>h x (List.mem_cons_of_mem _ hx)) hj
theorem b0C{sz:Nat}:∀(us:List Value) (i:Nat) (u:Value),i<us.length->(∀u∈us,u.cells.size=sz)->u.cells.size=sz-> (us.set i u).flatMap a0g=(us.flatMap a0g).take (i*sz)++a0g u++(us.flatMap a0g).drop (i*sz+sz)
 |v::us,i,u,hi,h,hu=>by
  have hv:(a0g v).length=sz:=by simp[a0g,h v (List.mem_cons_self ..)]
  match i with
  |0=>
   simp only[c1H,List.flatMap_cons,Nat.zero_mul,List.take_zero,List.nil_append,Nat.zero_add];rw[List.drop_append_of_le_length (by omega),List.drop_of_length_le (by omega),List.nil_append]
  |i+1=>
   have ih:=b0C us i u (by simpa using hi) (fun x hx=>h x (List.mem_cons_of_mem _ hx)) hu;simp only[c1I,List.flatMap_cons];have e1:(i+1)*sz=(a0g v).length+i*sz:=by rw[Nat.succ_mul];omega
   rw[ih,e1,List.take_length_add_append,Nat.add_assoc,List.drop_length_add_append];simp only[List.append_assoc]
structure Elem {α:Type} (R:Mem->Value->α->Prop) (sz:Nat):Prop where
 mono:a3K R
 size:∀(h:Mem) (u:Value) (x:α),R h u x->u.cells.size=sz
 one:∀(h:Mem) (u:Value) (x:α),R h u x->∀c∈a0g u,c.oneCell'=true
 pos:0<sz
theorem a0c.elem(k:IntKind):Elem (a0c k) 1:=⟨a0c.mono k,by rintro h u x rfl;rfl,by rintro h u x rfl c a;simp[a0g,Value.cells]at a;subst a;rfl,Nat.one_pos⟩
theorem a1U.elem(k:IntKind):Elem (a1U k) 1:=⟨a1U.mono k,by rintro h u x rfl;rfl,by rintro h u x rfl c a;simp[a0g,Value.cells]at a;subst a;rfl,Nat.one_pos⟩
theorem SlV.elem{α:Type}{R:Mem->Value->α->Prop}{sz:Nat}(h:Elem R sz):Elem (SlV R sz) 1:=
 ⟨SlV.mono h.mono sz,by rintro h u x ⟨ao,cap,rfl,_⟩;rfl,by rintro h u x ⟨ao,cap,rfl,_⟩ c a;simp[a0g,Value.cells]at a;subst a;rfl,Nat.one_pos⟩
def OL{α:Type}(R:Mem->Value->α->Prop)(sz:Nat)(X:Nat->Bool)(base:Nat)(e:TypeId)(w:World)(ao:Option Addr)(cap:Nat)(l:List α):Prop:=
 (∀k,ob ao k=true->X k=false)/\
 ∃us:List Value,us.length=l.length/\(∀u∈us,u.cells.size=sz)/\(∀u∈us,∀c∈a0g u,c.oneCell'=true)/\w.ownsRow base e sz (.slice ao l.length cap) l.length (us.flatMap a0g)/\
  ∀i (hi:i<us.length) (hi':i<l.length),R (mk (un X ao) w) us[i] l[i]
section
variable {α:Type} {R:Mem->Value->α->Prop} {sz:Nat} {X:Nat->Bool} {base:Nat} {e:TypeId} {w:World} {ao:Option Addr} {cap:Nat} {l:List α}
theorem OL.nil(R:Mem->Value->α->Prop)(sz:Nat)(X:Nat->Bool)(base:Nat)(e:TypeId)(w:World):OL R sz X base e w none 0 []:=
 ⟨fun _ h=>by simp[ob]at h,[],rfl,by simp,by simp,World.ownsRow_nil w base e sz,fun i a=>by simp at a⟩
theorem OL.form(h:OL R sz X base e w ao cap l):(ao=none/\cap=0/\l= [])\/∃g a,ao=some ⟨g,0,none⟩/\base<=g/\w.heap[g]? =some (.cells a e (0,0))/\l.length<=cap/\cap<=maxLen/\a.size=cap*sz:=by
 obtain⟨_,t,p,q,_,⟨r,i⟩,s⟩:=h;rcases i with⟨b,o⟩|⟨g,c,a,b,j,k,m,n,d,f⟩
 ·left
  simp at b;exact⟨b.1,b.2.2,List.eq_nil_of_length_eq_zero o⟩
 ·right
  simp at b;obtain⟨rfl,rfl⟩:=b;exact⟨g,a,rfl,j,k,m,n,d⟩
theorem OL.block(h:OL R sz X base e w ao cap l){k:Nat}(b:ob ao k=true):base<=k/\k<w.heap.size:=by
 rcases h.form with⟨rfl,_⟩|⟨g,c,rfl,d,a,_⟩
 ·simp[ob]at b
 ·have:g=k:=by simpa[ob]using b
  subst this;refine⟨d,?_⟩;by_cases f:g<w.heap.size
  ·exact f
  ·rw[Array.getElem?_eq_none (by omega)]at a;simp at a
theorem OL.ob_lt(h:OL R sz X base e w ao cap l){k:Nat}(b:k<base):ob ao k=false:=by
 cases a:ob ao k
 ·rfl
 ·have:=h.block a;omega
theorem OL.lenCap(h:OL R sz X base e w ao cap l):l.length<=cap:=by
 rcases h.form with⟨_,_,rfl⟩|⟨g,a,_,_,_,b,_⟩
 ·simp
 ·exact b
theorem OL.hd(h:OL R sz X base e w ao cap l):Hd ao l.length:=by
 intro b;rcases h.form with⟨_,_,rfl⟩|⟨g,a,rfl,_⟩
 ·simp at b
 ·exact⟨g,0,rfl⟩
theorem OL.cells(h:OL R sz X base e w ao cap l):∃a:List Value,a.length=l.length/\(∀u∈a,u.cells.size=sz)/\(∀u∈a,∀c∈a0g u,c.oneCell'=true)/\ (∀j u,(a.flatMap a0g)[j]? =some u->w.cell? (adr ao j)=some u/\w.frozen? (adr ao j)=false)/\∀i (G:i<a.length) (B:i<l.length),R (mk (un X ao) w) a[i] l[i]:=by
 have A:=h.form;obtain⟨I,a,s,v,q,⟨x,y⟩,z⟩:=h;refine⟨a,s,v,q,fun j u m=>?_,z⟩;have k:j<l.length*sz:=by
  rw[<-x];exact(List.getElem?_eq_some_iff.1 m).1
 rcases A with⟨_,_,rfl⟩|⟨g,o,rfl,D,r,E,F,t⟩
 ·simp at k
 rcases y with⟨n,H⟩|⟨C,c,b,n,_,d,_,_,_,p⟩
 ·simp at n
 simp at n;obtain⟨rfl,rfl⟩:=n;rw[r]at d;obtain rfl:o=b:=by simpa using d
 rw[<-p,List.getElem?_take_of_lt k]at m;have f:adr (some ⟨g,0,none⟩) j=⟨g,j,none⟩:=by simp[adr]
 rw[f];simp only[Array.getElem?_toList]at m;simp[World.cell?,World.frozen?,r,m]
theorem OL.sl(p:Elem R sz)(h:OL R sz X base e w ao cap l):Sl R sz (mk X w) ao l:=by
 refine⟨h.hd,fun i f=>?_⟩;have r:=h.form;have x:=h.1;obtain⟨b,y,d,_,n,o⟩:=h.cells;have c:i<b.length:=by omega
 refine⟨b[i],d _ (c1E _),fun j t=>?_,p.mono _ _ _ _ (a1a fun k _ u=>a0j u) (o i c f)⟩;have v:b[i].cells.size=sz:=d _ (c1E _);have a:=a3b b i j c d (by omega);have q:(a0g b[i])[j]? =some b[i].cells[j]:=by simp[a0g,t]
 rw[q]at a;have s:=(n _ _ a).1;unfold mk;have:X (adr ao (i*sz+j)).block=false:=by
  rcases r with⟨_,_,rfl⟩|⟨g,m,rfl,_⟩
  ·simp at f
  ·exact x _ (by simp[ob,adr])
 rw[this];simpa using s
theorem OL.cell(d:a3T R)(h:OL R 1 X base e w ao cap l)(i:Nat)(j:i<l.length):∃u,w.cell? (adr ao i)=some u/\w.frozen? (adr ao i)=false/\R (mk (un X ao) w) u l[i]:=by
 obtain⟨c,p,f,_,k,g⟩:=h.cells;have b:i<c.length:=by omega
 have n:c[i].cells.size=1:=f _ (c1E _);have a:=a3b c i 0 b f (by omega);have m:(a0g c[i])[0]? =some c[i].cells[0]:=by simp[a0g]
 rw[m]at a;have o:=d _ _ _ (g i b j);have:=k _ _ a;simp only[Nat.mul_one,Nat.add_zero,o]at this;exact⟨c[i],this.1,this.2,g i b j⟩
theorem OL.ext(C:Elem R sz){Y Z:Nat->Bool}{t:World}(h:OL R sz X base e w ao cap l)(p:ExtX Y w t)(q:∀k,k<w.heap.size->Y k=true->X k=true)(r:∀k,k<w.heap.size->Z k=true->X k=true):OL R sz Z base e t ao cap l:=by
 have j:=fun k (a:ob ao k=true)=>h.block a;obtain⟨s,F,u,v,f,o,y⟩:=h;refine⟨fun k a=>?_,F,u,v,f,?_,fun i D m=>C.mono _ _ _ _ (a1g p (fun k a E=>a0j (q k a E)) (fun k a hz=>?_)) (y i D m)⟩
 ·cases b:Z k
  ·rfl
  ·have:=r k (j k a).2 b;rw[s k a]at this;simp at this
 ·refine⟨o.1,?_⟩
  rcases o.2 with x|⟨g,c,d,n,z,A,B⟩
  ·exact .inl x
  ·refine .inr ⟨g,c,d,n,z,?_,B⟩
   simp at n;obtain⟨rfl,rfl⟩:=n;have a:ob (some ⟨g,0,none⟩) g=true:=by simp[ob]
   rw[p.block g (j g a).2,A];cases b:Y g
   ·rfl
   ·have:=q g (j g a).2 b;rw[s g a]at this;simp at this
 ·cases b:Z k
  ·simp[un,b]at hz;exact a0u hz
  ·exact a0j (r k a b)
theorem OL.ext0(c:Elem R sz){a:World}(h:OL R sz X base e w ao cap l)(b:Ext w a):OL R sz X base e a ao cap l:=
 h.ext c b (fun k _ d=>by simp[noY]at d) (fun _ _ h=>h)
theorem ExtX.own{Y:Nat->Bool}{a b:World}(h:ExtX Y a w)(f:OL R sz X base e w ao cap l)(g:a.heap.size<=base)(c:ExtX (ob ao) w b):ExtX Y a b:=
 h.then_ c fun i j _=>by
  cases d:ob ao i
  ·rfl
  ·have:=f.block d;omega
theorem OL.unX(h:OL R sz X base e w ao cap l)(b:∀k,X k=true->k<w.heap.size):∀k,un X ao k=true->k<w.heap.size:=by
 intro k c;by_cases a:X k=true
 ·exact b k a
 ·have:ob ao k=true:=by simpa[un,a]using c
  exact(h.block this).2
theorem OL.base_le(h:OL R sz X base e w ao cap l){b':Nat}(r:b'<=base):OL R sz X b' e w ao cap l:=by
 obtain⟨o,p,f,i,b,d,k⟩:=h;refine⟨o,p,f,i,b,⟨d.1,?_⟩,k⟩;rcases d.2 with j|⟨g,c,a,n,q,m⟩
 ·exact .inl j
 ·exact .inr ⟨g,c,a,n,by omega,m⟩
end
section
variable {α:Type} {R:Mem->Value->α->Prop} {sz:Nat} {X:Nat->Bool} {base:Nat} {e:TypeId} {w:World} {ao:Option Addr} {cap:Nat} {l:List α} {P:Program}
def At(w:World)(ao:Option Addr)(us:List Value):Prop:=Hd ao us.length/\∀j u,(us.flatMap a0g)[j]? =some u->w.cell? (adr ao j)=some u
theorem Sl.at_(hR:Elem R sz)(h:Sl R sz (mk X w) ao l):∃us:List Value,us.length=l.length/\At w ao us/\∀i (hi:i<us.length) (hi':i<l.length),R (mk X w) us[i] l[i]:=by
 have key:∀n,n<=l.length->∃us:List Value,us.length=n/\(∀j u,(us.flatMap a0g)[j]? =some u->w.cell? (adr ao j)=some u)/\∀i (hi:i<us.length) (hi':i<l.length),R (mk X w) us[i] l[i]:=by
  intro n
  induction n with
  |zero=>intro _;exact⟨[],rfl,by simp,by simp⟩
  |succ n ih=>
   intro hn;obtain⟨us,h1,h2,h3⟩:=ih (by omega);obtain⟨u,h4,h5,h6⟩:=h.2 n (by omega);have hsz:∀v∈us,v.cells.size=sz:=by
    intro v hv;obtain⟨i,hi,rfl⟩:=List.getElem_of_mem hv;exact hR.size _ _ _ (h3 i hi (by omega))
   refine⟨us++[u],by simp[h1],fun j x hj=>?_,fun i hi hi'=>?_⟩
   ·rw[List.flatMap_append]at hj
    have hfl:=a1c us hsz;by_cases hlt:j<us.length*sz
    ·rw[List.getElem?_append_left (by omega)]at hj;exact h2 j x hj
    ·rw[List.getElem?_append_right (by omega),hfl]at hj
     simp only[List.flatMap_cons,List.flatMap_nil,List.append_nil,a0g]at hj;obtain⟨hj1,hj2⟩:=List.getElem?_eq_some_iff.1 hj;have:=h5 (j - us.length*sz) (by simpa using hj1);have ee:n*sz+(j - us.length*sz)=j:=by rw[h1]at hlt |-;omega
     rw[ee]at this;rw[a1H this];simp[<-hj2]
   ·by_cases hlt:i<us.length
    ·simpa[List.getElem_append_left hlt]using h3 i hlt hi'
    ·have:i=n:=by simp at hi;omega
     subst this;simpa[List.getElem_append_right,h1]using h6
 obtain⟨us,h1,h2,h3⟩:=key l.length (c1B _);exact⟨us,h1,⟨by rw[h1];exact h.1,h2⟩,h3⟩
theorem b0D{a:Addr}(h:a.spot=none)(j:Nat):adr (some a) j=a.add j:=by
 cases a;simp at h;subst h;rw[Addr.add_lit];rfl
theorem a3U{d:World}{a:Option Addr}(e:ExtX (ob ao) w d)(f:a=ao\/∃g,a=some ⟨g,0,none⟩/\w.heap.size<=g):Le (mk (un X ao) w) (mk (un X a) d):=by
 refine a1g e (fun k _ b=>a0u b) fun k b hz=>?_;rcases f with rfl|⟨g,rfl,h⟩
 ·exact hz
 ·by_cases c:X k=true
  ·exact a0j c
  ·have:g=k:=by simpa[un,c,ob]using hz
   omega
theorem OL.run_append{t by_:Nat}{z:Value}(T:SliceT P t e sz by_ z)(hzs:z.cells.size=sz)(hR:Elem R sz)(h:OL R sz X base e w ao cap l)(hbase:base<=w.heap.size)(hX:∀k,X k=true->k<w.heap.size)(asl:Option Addr)(cs:Nat)(us':List Value)(xs:List α)(hat:At w asl us')(hlen:us'.length=xs.length)(hxs:∀i (hi:i<us'.length) (hi':i<xs.length),R (mk (un X ao) w) us'[i] xs[i])(hroom:(l.length+xs.length)*by_<=140737488355328)(hmax:l.length+xs.length<=9223372036854775807)(ty:TypeId):∃ao' cap' w',(Builtin.append_ #[t,t] ty #[.slice ao l.length cap,.slice asl xs.length cs]).run P w=.ok (.slice ao' (l++xs).length cap') w'/\OL R sz X base e w' ao' cap' (l++xs)/\ExtX (ob ao) w w'/\ (ao'=ao\/∃g,ao'=some ⟨g,0,none⟩/\w.heap.size<=g):=by
 obtain⟨i,hi,hz,hsz,hby⟩:=info_parts T.info;have hpos:=hR.pos;have hus':∀u∈us',u.cells.size=sz:=by
  intro v hv;obtain⟨i,hi,rfl⟩:=List.getElem_of_mem hv;exact hR.size _ _ _ (hxs i hi (by omega))
 have hone':∀u∈us'.flatMap a0g,u.oneCell'=true:=by
  intro c hc;obtain⟨v,hv,hcv⟩:=List.mem_flatMap.1 hc;obtain⟨i,hi,rfl⟩:=List.getElem_of_mem hv;exact hR.one _ _ _ (hxs i hi (by omega)) c hcv
 by_cases hxe:xs= []
 ·subst hxe
  have hu0:us'= []:=List.eq_nil_of_length_eq_zero (by simpa using hlen);subst hu0;refine⟨ao,cap,w,?_,by simpa using h,ExtX.refl w,.inl rfl⟩;have hlc:=h.lenCap;have hsz':=hsz;subst hsz;cases asl with
  |none=>cases ao<;>simp[Builtin.append_,run_underlying T.und,sizeOf,typeInfo,hi,Builtin.lenOf,Builtin.firstCells,hlc,storeCells]
  |some asl=>cases ao<;>simp[Builtin.append_,run_underlying T.und,sizeOf,typeInfo,hi,Builtin.lenOf,Builtin.firstCells,loadCells,loadCellsFrom,hlc,storeCells]
 have hxpos:0<xs.length:=by
  cases xs with
  |nil=>exact absurd rfl hxe
  |cons x xs=>simp
 obtain⟨sb,so,rfl⟩:=hat.1 (by omega);have hnews:∀j u,(us'.flatMap a0g)[j]? =some u->w.cell? ((⟨sb,so,none⟩:Addr).add j)=some u:=by
  intro j u hj;rw[<-b0D rfl];exact hat.2 j u hj
 have hnl:(us'.flatMap a0g).length=xs.length*i.size:=by rw[a1c us' hus',hlen,hsz]
 have hx:=h.1;have hcells:=h.cells;have hform:=h.form;obtain⟨_,us,h1,h2,h22,h3,h5⟩:=h;have hul:(us.flatMap a0g).length=l.length*i.size:=by rw[a1c us h2,h1,hsz]
 have hfl:(us++us').flatMap a0g=us.flatMap a0g++us'.flatMap a0g:=List.flatMap_append;have hnew:∀u∈us++us',u.cells.size=sz:=by
  intro u hu;rcases List.mem_append.1 hu with hu|hu
  ·exact h2 u hu
  ·exact hus' u hu
 have hnew1:∀u∈us++us',∀c∈a0g u,c.oneCell'=true:=by
  intro u hu c hc;rcases List.mem_append.1 hu with hu|hu
  ·exact h22 u hu c hc
  ·exact hone' c (List.mem_flatMap.2 ⟨u,hu,hc⟩)
 have hRs:∀(ao':Option Addr) (w':World),ExtX (ob ao) w w'->(ao'=ao\/∃g,ao'=some ⟨g,0,none⟩/\w.heap.size<=g)->
   ∀i (hi:i<(us++us').length) (hi':i<(l++xs).length),R (mk (un X ao') w') (us++us')[i] (l++xs)[i]:=by
  intro ao' w' hE ho i hi hi';have hle:=a3U (X:=X) hE ho;by_cases hlt:i<us.length
  ·simpa[List.getElem_append_left hlt,List.getElem_append_left (show i<l.length by omega)]using hR.mono _ _ _ _ hle (h5 i hlt (by omega))
  ·have hb1:i - us.length<us'.length:=by simp at hi;omega
   have:=hR.mono _ _ _ _ hle (hxs (i - us.length) hb1 (by omega));simpa[List.getElem_append_right (show us.length<=i by omega),List.getElem_append_right (show l.length<=i by omega),h1]using this
 have grown:∀old,old<l.length+xs.length->∃g cur,g=w.heap.size/\cur=(us.flatMap a0g).toArray++(us'.flatMap a0g).toArray++Builtin.zeroCells z.cells (grownCap w (l.length+xs.length) old e - (l.length+xs.length))/\
   OL R sz X base e (w.drew.alloc (.cells cur e)) (some ⟨g,0,none⟩) (grownCap w (l.length+xs.length) old e) (l++xs)/\ExtX (ob ao) w (w.drew.alloc (.cells cur e)):=by
  intro old ho;refine⟨_,_,rfl,rfl,?_,?_⟩
  ·have hge:=grownCap_ge w (l.length+xs.length) old e
   have hcm:grownCap w (l.length+xs.length) old e<=maxLen:=grownCap_le_maxLen w (l.length+xs.length) old e (by simpa[maxLen]using hmax);have hE:ExtX (ob ao) w (w.drew.alloc (.cells ((us.flatMap a0g).toArray++(us'.flatMap a0g).toArray++Builtin.zeroCells z.cells (grownCap w (l.length+xs.length) old e - (l.length+xs.length))) e)):=((ExtX.refl w).drew).alloc _;refine⟨fun k hk=>?_,us++us',by simp[h1,hlen],hnew,hnew1,⟨by rw[hfl];simp[hul,hnl,hsz,Nat.add_mul],.inr ⟨w.heap.size,_,_,by simp,hbase,heap_alloc_new w.drew _,by simpa using hge,hcm,?_,?_⟩⟩,hRs _ _ hE (.inr ⟨_,rfl,c1B _⟩)⟩
   ·have:w.heap.size=k:=by simpa[ob]using hk
    cases hh:X k
    ·rfl
    ·have:=hX k hh;omega
   ·simp only[Array.size_append,List.size_toArray,size_zeroCells,hzs,hul,hnl,hsz,<-Nat.add_mul]
    congr 1;omega
   ·rw[hfl]
    simp only[Array.toList_append,List.length_append];have hll:(l.length+xs.length)*sz=(us.flatMap a0g++us'.flatMap a0g).length:=by simp[hul,hnl,hsz,Nat.add_mul]
    rw[hll];exact List.take_left
  ·exact((ExtX.refl w).drew).alloc _
 have hll:(l++xs).length=l.length+xs.length:=List.length_append;rcases hform with⟨rfl,rfl,rfl⟩|⟨g,cur,rfl,h6,h7,h8,h9,h10⟩
 ·have hu0:us= []:=List.eq_nil_of_length_eq_zero (by simpa using h1)
  subst hu0;obtain⟨g,cur,rfl,hcur,hOL,hE⟩:=grown 0 (by simp;omega);have hr:=run_append_nil (P:=P) w t ty e i z T.und hi hz ⟨sb,so,none⟩ xs.length cs (us'.flatMap a0g) hnl hnews hxpos (by simp at hmax;omega) (by simp at hroom;rw[hby];omega);simp only[List.flatMap_nil,List.length_nil,Nat.zero_add,List.nil_append,Array.empty_append]at hOL hE hcur hr |-;subst hcur;exact⟨_,_,_,hr,hOL,hE,.inr ⟨_,rfl,c1B _⟩⟩
 ·by_cases hroom':l.length+xs.length<=cap
  ·have hfit:l.length*i.size+(us'.flatMap a0g).length<=cur.size:=by rw[hnl,h10,<-hsz,<-Nat.add_mul];exact Nat.mul_le_mul_right _ hroom'
   have hr:=run_append_room (P:=P) w t ty e i T.und hi g l.length cap cur h7 ⟨sb,so,none⟩ xs.length cs (us'.flatMap a0g) hnl hnews hone' hroom' hfit;have hE:ExtX (ob (some ⟨g,0,none⟩)) w (w.setRow g (cur.toList.take (l.length*i.size)++us'.flatMap a0g++cur.toList.drop (l.length*i.size+(us'.flatMap a0g).length)).toArray):=
    ⟨rfl,rfl,rfl,by simp,fun k _ hk=>setRow_other w g k _ (fun ek=>by subst ek;simp[ob]at hk)⟩
   refine⟨_,_,_,by rw[hll];exact hr,⟨hx,us++us',by simp[h1,hlen],hnew,hnew1,⟨by rw[hfl];simp[hul,hnl,hsz,Nat.add_mul],.inr ⟨g,cap,_,by rw[hll],h6,setRow_heap w g cur _ e _ h7,by rw[hll];exact hroom',h9,?_,?_⟩⟩,hRs _ _ hE (.inl rfl)⟩,hE,.inl rfl⟩
   ·simp only[List.size_toArray,List.length_append,List.length_take,List.length_drop,Array.length_toList];omega
   ·rw[hfl,hll]
    rcases h3.2 with⟨hv,_⟩|⟨g',c',cur',hv,_,h7',_,_,_,h11⟩
    ·simp at hv
    simp at hv;obtain⟨rfl,rfl⟩:=hv;rw[h7]at h7';obtain rfl:cur=cur':=by simpa using h7'
    have e1:cur.toList.take (l.length*i.size)=us.flatMap a0g:=by rw[hsz];exact h11
    rw[e1];have hll2:(l.length+xs.length)*sz=(us.flatMap a0g++us'.flatMap a0g).length:=by simp[hul,hnl,hsz,Nat.add_mul]
    rw[hll2];exact List.take_left
  ·have holds:∀j u,(us.flatMap a0g)[j]? =some u->w.cell? ((⟨g,0,none⟩:Addr).add j)=some u:=h3.cells (g:=g) rfl
   have hr:=run_append_grow (P:=P) w t ty e i z T.und hi hz ⟨g,0,none⟩ l.length cap (us.flatMap a0g) hul holds ⟨sb,so,none⟩ xs.length cs (us'.flatMap a0g) hnl hnews (by omega) (by omega) (growslice_fits (by omega) (by rw[hby];exact hroom));obtain⟨g',cur',rfl,hcur,hOL,hE⟩:=grown cap (by omega);subst hcur;exact⟨_,_,_,by rw[hll];exact hr,hOL,hE,.inr ⟨_,rfl,c1B _⟩⟩
theorem OL.run_make{t g:Nat}{z:Value}(T:SliceT P t e sz g z)(o:Elem R sz)(m:α)(hz:∀h,R h z m)(D:∀k,X k=true->k<w.heap.size)(d:base<=w.heap.size)(kl B:IntKind)(n:Nat)(s:g*n<=281474976710656)(l:n<=9223372036854775807):∃ao v,(Instr.makeSlice t (.int kl (n:Int)) (.int B (n:Int))).run P w=.ok (.slice ao n n) v/\OL R sz X base e v ao n (List.replicate n m)/\Ext w v:=by
 obtain⟨i,y,q,f,p⟩:=info_parts T.info;have a:z.cells.size=sz:=o.size (fun _=>none) z m (hz _);have c:=o.pos;have A:=Go.run_make (P:=P) w t e i z T.und y q kl B n n (by omega) (Int.le_refl _) (by rw[p,<-Int.natCast_mul];omega) (by omega);simp only[Int.toNat_natCast]at A;refine⟨_,_,A,⟨fun k G=>?_,List.replicate n z,by simp,by intro u b;rw[List.eq_of_mem_replicate b];exact a,by intro u b;rw[List.eq_of_mem_replicate b];exact o.one (fun _=>none) z m (hz _),⟨?_,.inr ⟨w.heap.size,n,_,by simp,d,heap_alloc_new w _,by simp,by simpa[maxLen]using l,by rw[size_madeCells,f],?_⟩⟩,fun i y F=>by simpa using hz _⟩,(ExtX.refl w).alloc _⟩
 ·have:w.heap.size=k:=by simpa[ob]using G
  cases E:X k
  ·rfl
  ·have:=D k E;omega
 ·rw[a1c (sz:=sz) _ (by intro u b;rw[List.eq_of_mem_replicate b];exact a)]
  simp
 ·apply List.ext_getElem?
  intro j;simp only[List.length_replicate];by_cases r:j<n*sz
  ·rw[List.getElem?_take_of_lt r]
   have x:=a3b (sz:=sz) (List.replicate n z) (j/sz) (j%sz) (by simpa using Nat.div_lt_of_lt_mul (by rw[Nat.mul_comm];exact r)) (by intro u b;rw[List.eq_of_mem_replicate b];exact a) (Nat.mod_lt _ c);have C:j/sz*sz+j%sz=j:=by rw[Nat.mul_comm];exact Nat.div_add_mod j sz
   rw[C]at x;rw[x];simp[madeCells,f,r,a0g,a];rw[Array.getElem?_eq_getElem (by rw[a];exact Nat.mod_lt _ c)];rw[getElem!_pos]
  ·rw[List.getElem?_eq_none (by simp[size_madeCells,f];omega),List.getElem?_eq_none]
   rw[a1c (sz:=sz) _ (by intro u b;rw[List.eq_of_mem_replicate b];exact a)];simp;omega
theorem OL.run_store{t:TypeId}{ti:TypeInfo}(ht:P.info? t=some ti)(I:ti.size=sz)(A:Elem R sz)(h:OL R sz X base e w ao cap l)(i:Nat)(T:i<l.length)(u:Value)(x:α)(J:R (mk (un X ao) w) u x):∃L,(storeVar t (adr ao (i*sz)) u).run P w=.ok () L/\OL R sz X base e L ao cap (l.set i x)/\ExtX (ob ao) w L:=by
 have b:=A.size _ _ _ J;have z:=A.one _ _ _ J;have m:=h.form;obtain⟨hx,K,M,N,C,V,W⟩:=h;rcases m with⟨rfl,rfl,rfl⟩|⟨g,a,rfl,Y,D,O,Z,f⟩
 ·simp at T
 have p:adr (some ⟨g,0,none⟩) (i*sz)=⟨g,i*sz,none⟩:=by simp[adr]
 have y:(i+1)*sz<=l.length*sz:=Nat.mul_le_mul_right _ T;have H:l.length*sz<=cap*sz:=Nat.mul_le_mul_right _ O;rw[Nat.succ_mul]at y;have G:=run_storeCells_at P g (i*sz) e (a0g u) 0 a w D (by simp[a0g,b,f];omega) z;have S:ExtX (ob (some ⟨g,0,none⟩)) w (w.setRow g (a.toList.take (i*sz+0)++a0g u++a.toList.drop (i*sz+0+(a0g u).length)).toArray):=
  ⟨rfl,rfl,rfl,by simp,fun k _ hk=>setRow_other w g k _ (fun U=>by subst U;simp[ob]at hk)⟩
 have s:∀v∈K.set i u,v.cells.size=sz:=by
  intro v c;rcases List.mem_or_eq_of_mem_set c with c|rfl
  ·exact N v c
  ·exact b
 refine⟨_,?_,⟨hx,K.set i u,by simp[M],s,?_,⟨?_,.inr ⟨g,cap,_,by simp,Y,setRow_heap w g a _ e _ D,by simpa using O,Z,?_,?_⟩⟩,?_⟩,S⟩
 ·rw[p]
  simp[storeVar,sizeOf,typeInfo,ht,I,b];simpa[a0g]using G
 ·intro v c
  rcases List.mem_or_eq_of_mem_set c with c|rfl
  ·exact C v c
  ·exact z
 ·rw[a1c _ s];simp[M]
 ·have d:(a0g u).length=sz:=by simp[a0g,b]
  simp only[List.size_toArray,List.length_append,List.length_take,List.length_drop,Array.length_toList,d,f,Nat.add_zero];omega
 ·rcases V.2 with⟨c,_⟩|⟨g',c',n,c,_,o,_,_,_,B⟩
  ·simp at c
  simp at c;obtain⟨rfl,rfl⟩:=c;rw[D]at o;obtain rfl:a=n:=by simpa using o
  have d:(a0g u).length=sz:=by simp[a0g,b]
  have E:a.toList.length=cap*sz:=by simp[f]
  rw[b0C K i u (by omega) N b,<-B];simp only[List.length_set,Nat.add_zero];have Q:(a.toList.take (i*sz)).length=i*sz:=by rw[List.length_take,E];omega
  rw[d,List.take_append,c1D (by rw[List.length_append,Q,d];omega),List.length_append,Q,d,List.take_take,Nat.min_eq_left (by omega),List.drop_take]
 ·intro j hj F
  have r:Le (mk (un X (some ⟨g,0,none⟩)) w) (mk (un X (some ⟨g,0,none⟩)) _):=a3U S (.inl rfl);by_cases q:i=j
  ·subst q;simpa using A.mono _ _ _ _ r J
  ·have:=A.mono _ _ _ _ r (W j (by simpa using hj) (by simpa using F))
   simpa[List.getElem_set,q]using this
end
section
variable {P:Program} {ops:Array Oper} {Q:Exit->Act->World->Prop} {rest:List Oper} {a:Act} {w:World}
variable {α:Type} {R:Mem->Value->α->Prop} {sz:Nat} {X:Nat->Bool} {base:Nat} {e:TypeId} {ao:Option Addr} {cap:Nat} {l:List α}
variable {d:Option Tmp} {ty:TypeId} {ps:String} {af:Array Edge}
theorem OL.lit(o:Elem R sz)(t:∀k,X k=true->k<w.heap.size)(d:base<=w.heap.size)(b:List Value)(l:List α)(g:Array Value)(h:g=(b.flatMap a0g).toArray)(a:b.length=l.length)(p:∀i (f:i<b.length) (j:i<l.length),R (mk X w) b[i] l[i])(m:l.length<=9223372036854775807):OL R sz X base e (w.alloc (.cells g e)) (some ⟨w.heap.size,0,none⟩) l.length l:=by
 subst h;have c:∀u∈b,u.cells.size=sz:=by
  intro v q;obtain⟨i,f,rfl⟩:=List.getElem_of_mem q;exact o.size _ _ _ (p i f (by omega))
 have s:Ext w (w.alloc (.cells (b.flatMap a0g).toArray e)):=(ExtX.refl w).alloc _;refine⟨fun k n=>?_,b,a,c,?_,⟨by rw[a1c b c,a],.inr ⟨w.heap.size,_,_,rfl,d,heap_alloc_new w _,c1B _,by unfold maxLen;exact m,by simp[a1c b c,a],?_⟩⟩,fun i f j=>?_⟩
 ·have:w.heap.size=k:=by simpa[ob]using n
  cases x:X k
  ·rfl
  ·have:=t k x;omega
 ·intro v q
  obtain⟨i,f,rfl⟩:=List.getElem_of_mem q;exact o.one _ _ _ (p i f (by omega))
 ·rw[c1D]
  simp[a1c b c,a]
 ·refine o.mono _ _ _ _ (a1g s (fun k _ n=>by simp[noY]at n) fun k n hz=>?_) (p i f j)
  by_cases r:X k=true
  ·exact r
  ·have:w.heap.size=k:=by simpa[un,r,ob]using hz
   omega
theorem b8S(X:Nat->Bool)(w:World)(o:Obj):Le (mk X w) (mk (un X (some ⟨w.heap.size,0,none⟩)) (w.alloc o)):=
 a1g ((ExtX.refl (Y:=noY) w).alloc o) (fun k _ a=>by simp[noY]at a) fun k a hz=>by
  by_cases b:X k=true
  ·exact b
  ·have:w.heap.size=k:=by simpa[un,b,ob]using hz
   omega
theorem b6k(w:World)(a:Array Value)(e:TypeId)(u:Value)(b:a=u.cells):At (w.alloc (.cells a e)) (some ⟨w.heap.size,0,none⟩) [u]:=by
 subst b;refine⟨fun _=>⟨_,_,rfl⟩,fun j c d=>?_⟩;simp only[List.flatMap_cons,List.flatMap_nil,List.append_nil,a0g,Array.getElem?_toList]at d;have f:adr (some ⟨w.heap.size,0,none⟩) j=⟨w.heap.size,j,none⟩:=by simp[adr]
 have g:=heap_alloc_new w (.cells u.cells e);rw[f];unfold World.cell?;rw[g];simpa using d
theorem a3l{t m:Nat}{z:Value}{f:Array Value}{s x:Operand}(T:SliceT P t e sz m z)(C:z.cells.size=sz)(A:Elem R sz)(B:base<=w.heap.size)(G:∀k,X k=true->k<w.heap.size)(J:a.eval s=.slice ao l.length cap)(N:a.eval x=.slice (some ⟨w.heap.size,0,none⟩) 1 1)(h:OL R sz X base e w ao cap l)(u:Value)(y:α)(o:f=u.cells)(M:R (mk (un X ao) w) u y)(j:(l.length+1)*m<=140737488355328)(p:l.length+1<=9223372036854775807)(K:∀c b q,OL R sz X base e q c b (l++[y])->ExtX (ob ao) w q->(c=ao\/∃g,c=some ⟨g,0,none⟩/\w.heap.size<=g)->wpList P ops Q rest (a.put d (.slice c (l++[y]).length b)) q):wpList P ops Q (⟨d,.call {callee:= .builtin .append,args:=#[s,x],argTypes:=#[t,t]},ty,ps,af,none⟩::rest) a (w.alloc (.cells f e)):=by
 refine wpList_plain rfl fun O v=>?_;have r:Ext w (w.alloc (.cells f e)):=(ExtX.refl w).alloc _;have L:w.heap.size+1=(w.alloc (.cells f e)).heap.size:=by simp
 obtain⟨c,b,q,D,E,F,n⟩:=(h.ext0 A r).run_append (P:=P) T C A (by omega) (fun k I=>by have:=G k I;omega) (some ⟨w.heap.size,0,none⟩) 1 [u] [y] (b6k w f e u o) rfl
  (fun i H _=>by
           have:i=0:=by simpa using H
           subst this;exact A.mono _ _ _ _ (a0k r) M) (by simpa using j) (by simpa using p) ty
 unfold Oper.wp execOp;simp only[resolve,invoke,builtin,Sem.run_bind,Sem.run_pure,Result.andThen_ok,List.map_toArray,List.map_cons,List.map_nil,J,N];rw[show([y]:List α).length=1 from rfl]at D;rw[D];refine v _ _ (K c b q E ((ExtX.of r).trans F) ?_);rcases n with n|⟨g,n,S⟩
 ·exact .inl n
 ·exact .inr ⟨g,n,by omega⟩
theorem a3m{t n:Nat}{z:Value}{s x:Operand}{f:Option Addr}{A:Nat}(T:SliceT P t e sz n z)(y:z.cells.size=sz)(B:Elem R sz)(i:base<=w.heap.size)(E:∀k,X k=true->k<w.heap.size)(m:List α)(G:a.eval s=.slice ao l.length cap)(H:a.eval x=.slice f m.length A)(h:OL R sz X base e w ao cap l)(v:Sl R sz (mk (un X ao) w) f m)(j:(l.length+m.length)*n<=140737488355328)(o:l.length+m.length<=9223372036854775807)(K:∀c b p,OL R sz X base e p c b (l++m)->ExtX (ob ao) w p->(c=ao\/∃g,c=some ⟨g,0,none⟩/\w.heap.size<=g)->wpList P ops Q rest (a.put d (.slice c (l++m).length b)) p):wpList P ops Q (⟨d,.call {callee:= .builtin .append,args:=#[s,x],argTypes:=#[t,t]},ty,ps,af,none⟩::rest) a w:=by
 refine wpList_plain rfl fun J u=>?_;obtain⟨I,C,q,r⟩:=v.at_ B;obtain⟨c,b,p,F,q,r,D⟩:=h.run_append (P:=P) T y B i E f A I m q C r j o ty;unfold Oper.wp execOp;simp only[resolve,invoke,builtin,Sem.run_bind,Sem.run_pure,Result.andThen_ok,List.map_toArray,List.map_cons,List.map_nil,G,H,F];exact u _ _ (K c b p q r D)
theorem a2x{t f:Nat}{z:Value}{x y:Operand}{kl o:IntKind}{m:Int}(T:SliceT P t e sz f z)(r:Elem R sz)(l:α)(hz:∀h,R h z l)(X:Nat->Bool)(s:∀k,X k=true->k<w.heap.size)(base:Nat)(b:base<=w.heap.size)(n:Nat)(v:a.eval x=.int kl m)(u:a.eval y=.int o m)(A:m=(n:Int))(c:f*n<=281474976710656)(g:n<=9223372036854775807)(K:∀ao i,OL R sz X base e i ao n (List.replicate n l)->Ext w i->wpList P ops Q rest (a.put d (.slice ao n n)) i):wpList P ops Q (⟨d,.makeSlice t x y,ty,ps,af,none⟩::rest) a w:=by
 refine wpList_plain rfl fun C j=>?_;subst A;obtain⟨ao,i,B,p,q⟩:=OL.run_make (P:=P) T r l hz s b kl o n c g;unfold Oper.wp;simp[execOp,v,u,B,Result.andThen];exact j _ _ (K ao i p q)
theorem a2L{t:TypeId}{x y:Operand}{k:Nat}(n:TyI P t sz)(m:Elem R sz)(i:Nat)(z:a.eval x=.pointer (some (adr ao k)))(p:k=i*sz)(h:OL R sz X base e w ao cap l)(o:i<l.length)(u:Value)(v:α)(A:a.eval y=u)(s:R (mk (un X ao) w) u v)(K:∀b,OL R sz X base e b ao cap (l.set i v)->ExtX (ob ao) w b->wpList P ops Q rest (a.put d undef) b):wpList P ops Q (⟨d,.store t x y,ty,ps,af,none⟩::rest) a w:=by
 refine wpList_plain rfl fun B c=>?_;subst p;obtain⟨ti,r,f⟩:=n;obtain⟨b,q,g,j⟩:=h.run_store (P:=P) r f m i o u v s;unfold Oper.wp;simp[execOp,z,A,Instr.storeAt,Instr.sureAddr,q,Result.andThen];exact c _ _ (K b g j)
def a1b(ao:Option Addr)(i m sz:Nat):Option Addr:=if m=i then ao else ao.map (·.add (i*sz))
theorem Sl.sub{h:Mem}(s:Sl R sz h ao l)(i j m:Nat)(g:i<=j)(o:j<=m)(n:j<=l.length):Sl R sz h (a1b ao i m sz) ((l.take j).drop i):=by
 refine⟨fun r=>?_,fun k p=>?_⟩
 ·simp at r
  obtain⟨b,c,rfl⟩:=s.1 (by omega);have a:¬m=i:=by omega
  simp[a1b,a,Addr.add_lit]
 ·simp at p
  obtain⟨b,c,rfl⟩:=s.1 (by omega);have a:¬m=i:=by omega
  obtain⟨u,d,e,f⟩:=s.2 (i+k) (by omega);refine⟨u,d,fun q hq=>?_,by simpa using f⟩;have:=e q hq;simp only[a1b,a,if_false,Option.map_some,Addr.add_lit,adr,Option.getD_some]at this |-;rw[<-this,Nat.add_mul]
  congr 2
  omega
theorem a2l{t a:Nat}{z:Value}(T:SliceT P t e sz a z)(len cap:Nat)(g:IntKind)(i:Nat)(h:i<=len)(_:len<=cap)(w:World):(Instr.sliceAt t (.slice ao len cap) (some (.int g (i:Int))) none none).run P w=.ok (.slice (a1b ao i cap sz) (len - i) (cap - i)) w:=by
 obtain⟨ti,f,hz,c,d⟩:=info_parts T.info;have b:(i:Int)<=len:=by omega
 simp[Instr.sliceAt,Instr.slice,run_underlying T.und,Instr.sliceBounds,run_sliceBound,b,sizeOf,typeInfo,f,c,a1b]
theorem a5S{t a:Nat}{z:Value}(T:SliceT P t e sz a z)(len cap:Nat)(h k:IntKind)(i j:Nat)(l:i<=j)(m:j<=cap)(w:World):(Instr.sliceAt t (.slice ao len cap) (some (.int h (i:Int))) (some (.int k (j:Int))) none).run P w=.ok (.slice (a1b ao i cap sz) (j - i) (cap - i)) w:=by
 obtain⟨ti,g,hz,d,f⟩:=info_parts T.info;have b:(i:Int)<=j:=by omega
 have c:(j:Int)<=cap:=by omega
 simp[Instr.sliceAt,Instr.slice,run_underlying T.und,Instr.sliceBounds,run_sliceBound,b,c,sizeOf,typeInfo,g,d,a1b]
theorem b7e{t c:Nat}{z:Value}{x lo:Operand}{o:IntKind}{m:Int}{M:Mem}(T:SliceT P t e sz c z)(i:Nat)(r:a.eval x=.slice ao l.length cap)(g:a.eval lo=.int o m)(p:m=(i:Int))(h:Sl R sz M ao l)(k:i<=l.length)(j:l.length<=cap)(K:∀b,Sl R sz M b (l.drop i)->wpList P ops Q rest (a.put d (.slice b (l.drop i).length (cap - i))) w):wpList P ops Q (⟨d,.slice t x (some lo) none none,ty,ps,af,none⟩::rest) a w:=by
 refine wpList_plain rfl fun s f=>?_;subst p;have q:=a2l (P:=P) (ao:=ao) T l.length cap o i k j w;have n:=h.sub i l.length cap k j (c1B _);rw[List.take_length]at n;have:=K _ n;rw[List.length_drop]at this;unfold Oper.wp;simp[execOp,r,g,q,Result.andThen];exact f _ _ this
theorem a0W{t:TypeId}{x y:Operand}{k:Nat}{b:IntKind}{l:List Nat}{m:Int}(f:TyI P t 1)(i:Nat)(v:Nat)(n:a.eval x=.pointer (some (adr ao k)))(p:k=i)(h:OL (a0c b) 1 X base e w ao cap l)(g:i<l.length)(o:a.eval y=.int b m)(j:m=(v:Int))(K:∀c,OL (a0c b) 1 X base e c ao cap (l.set i v)->ExtX (ob ao) w c->wpList P ops Q rest (a.put d undef) c):wpList P ops Q (⟨d,.store t x y,ty,ps,af,none⟩::rest) a w:=
 a2L f (a0c.elem b) i n (by omega) h g (.int b m) v o (by rw[j];rfl) K
theorem OL.set1{t:TypeId}(p:TyI P t 1)(j:Elem R 1)(b:a3T R)(h:OL R 1 X base e w ao cap l)(i:Nat)(k:i<l.length)(u:Value)(x:α)(g:R (mk (un X ao) w) u x):OL R 1 X base e (w.setCell (adr ao i) u) ao cap (l.set i x)/\ExtX (ob ao) w (w.setCell (adr ao i) u):=by
 obtain⟨ti,m,d⟩:=p;obtain⟨v,q,r,_⟩:=h.cell b i k;obtain⟨y,f,n,o⟩:=h.run_store (P:=P) m d j i k u x g;have a:=b _ _ _ g;have c:=j.one _ _ _ g u (by simp[a0g,a]);rw[Nat.mul_one]at f;have s:y=w.setCell (adr ao i) u:=by
  simp only[storeVar,sizeOf,typeInfo,Sem.run_bind]at f;cases u<;>simp[Value.oneCell']at c<;>simp[program,Sem.run,m,d,Result.andThen,Value.cells,storeCells,store,Addr.add_zero',q,r]at f<;>exact f.symm
 subst s;exact⟨n,o⟩
end
theorem a0Q:SliceT Tryz.prog 43 114 1 4 (.int .u32 0):=⟨Tryz.underlying43,by kernel_rfl⟩
theorem a6e:SliceT Tryz.prog 22 3 1 8 (.int .i64 0):=⟨Tryz.underlying22,by kernel_rfl⟩
theorem b8T:(Tryz.prog.info? 114).map (fun i=>(i.zero,i.size,i.bytes))=some (some (.int .u32 0),1,4):=by kernel_rfl
theorem b8U:(Tryz.prog.info? 3).map (fun i=>(i.zero,i.size,i.bytes))=some (some (.int .i64 0),1,8):=by kernel_rfl
theorem a3V:TyI Tryz.prog 114 1:=let ⟨i,h,_,a,_⟩:=info_parts b8T;⟨i,h,a⟩
theorem b8V:TyI Tryz.prog 3 1:=let ⟨i,h,_,a,_⟩:=info_parts b8U;⟨i,h,a⟩
theorem b7f:(Tryz.prog.info? 43).map (fun i=>(i.zero,i.size,i.bytes))=some (some (.slice none 0 0),1,24):=by kernel_rfl
theorem b8W:TyI Tryz.prog 43 1:=let ⟨i,h,_,a,_⟩:=info_parts b7f;⟨i,h,a⟩
theorem a2v(X:Nat->Bool)(ao:Option Addr)(l:List Nat)(cap:Nat)(w:World)(b:Sl (a0c .u32) 1 (mk X w) ao l)(f:l.length<=4398046511104):Calls Tryz.prog 166 #[.slice ao l.length cap] w fun e h=>w=h/\e=.returned (.bool (a1J l)):=by
 have d:=b.hd;by_cases c:l.length=0
 ·have a:l= []:=List.eq_nil_of_length_eq_zero c
  subst a;clear b d f c;simp only[List.length_nil];go_enter Tryz.func166,Tryz.ntmps166
  go_wp2_with fail
  go_ret
  exact⟨rfl,rfl⟩
 ·have i:=b.nat (l.length - 1) (by omega)
  have g:=hid (a3x (l:=l) (by omega));have hz:((l.length:Int)==0)=false:=a2C (by omega);go_enter Tryz.func166,Tryz.ntmps166
  go_wp2_with (with_reducible refine a0v a0Q ?_)
  go_ret
  exact⟨rfl,a0m (by rw[g.out];exact a8B _)⟩
def a4z(X:Nat->Bool)(w:World)(n:Nat)(e:Ending)(w':World):Prop:=
 Ext w w'/\∃ao cap l,e=.returned (.slice ao l.length cap)/\l.length<=cap/\a0M l n/\Sl (a0c .u32) 1 (mk X w') ao l
def b2C(X:Nat->Bool)(w:World)(ao:Option Addr)(l:List Nat)(cap:Nat)(e:Ending)(w':World):Prop:=
 w=w'/\∃l',e=.returned (.slice ao l'.length cap)/\l'.length<=l.length/\a0M l' (nv l)/\Sl (a0c .u32) 1 (mk X w) ao l'
def b8X(X:Nat->Bool)(w:World)(l:List Nat)(e:Ending)(w':World):Prop:=
 w=w'/\∃ao cap l',e=.returned (.slice ao l'.length cap)/\l'.length<=cap/\l'.length<=l.length/\a0M l' (val l)/\Sl (a0c .u32) 1 (mk X w) ao l'
theorem a2a(X:Nat->Bool)(ao:Option Addr)(l:List Nat)(cap:Nat)(w:World)(c:Sl (a0c .u32) 1 (mk X w) ao l)(hd:Dig l)(m:l.length<=4398046511104)(g:l.length<=cap):Calls Tryz.prog 130 #[.slice ao l.length cap] w (b2C X w ao l cap):=by
 have j:=c.hd;go_enter Tryz.func130,Tryz.ntmps130
 go_wp2_with fail
 go_loop [3] (fun n=>∃k:Nat,n=.int .i64 k/\Cut l k) (fun n=>(intOf n).toNat)
 case atStart=>exact⟨_,rfl,Cut.all l⟩
 case round=>
  obtain⟨k,rfl,b⟩:=hrel;have i:=b.1;by_cases e:0<k
  ·have h:=c.nat (k - 1) (by omega)
   by_cases hz:l[k - 1]=0
   ·have d:=b.less e hz
    have f:=hid hz;rw[hz]at h;clear hz;go_wp2_with (with_reducible refine a0v a0Q ?_)
    go_round
    case rel=>exact⟨k - 1,by go_num,d⟩
    case measure=>simp[intOf];omega
   ·have a:=b.canon hd (.inr ⟨by omega,hz⟩)
    have f:((l[k - 1]:Int)==0)=false:=a2C (by omega);go_wp2_with (with_reducible refine a0v a0Q ?_)
    go_ret
    exact⟨rfl,l.take k,a4T (by simp;omega),by simp;omega,a,c.take k⟩
  ·have a:=b.canon hd (.inl (by omega))
   go_wp2_with fail
   go_ret
   exact⟨rfl,l.take k,a4T (by simp;omega),by simp;omega,a,c.take k⟩
theorem a1x(X:Nat->Bool)(ao:Option Addr)(l:List Nat)(cap:Nat)(w:World)(c:Sl (a0c .u32) 1 (mk X w) ao l)(hd:Dig l)(g:l.length<=4398046511104)(a:l.length<=cap):Calls Tryz.prog 129 #[.slice ao l.length cap] w (b8X X w l):=by
 cases b:a1J l
 ·have d:=hid b
  go_enter Tryz.func129,Tryz.ntmps129
  go_wp2_with (go_at_call 166;refine(a2v X _ _ _ _ c g).mono ?_;rintro e h ⟨rfl,rfl⟩)
  go_ret
  have:vl l= []:=by unfold vl;rw[b];rfl
  exact⟨rfl,none,0,[],rfl,by simp,by simp,this▸a4R hd,Sl.nil _ _ _ _⟩
 ·have d:=hid b
  go_enter Tryz.func129,Tryz.ntmps129
  go_wp2_with (go_at_call 166;refine(a2v X _ _ _ _ c g).mono ?_;rintro e h ⟨rfl,rfl⟩)
  go_ret
  have:vl l=l:=by unfold vl;rw[b];rfl
  have f:=a4R hd;rw[this]at f;exact⟨rfl,ao,cap,l,rfl,a,c1B _,f,c⟩
theorem a3W(X:Nat->Bool)(n:Nat)(w:World)(hn:n<18446744073709551616)(hX:∀k,X k=true->k<w.heap.size):Calls Tryz.prog 124 #[.int .u64 n] w (a4z X w n):=by
 have hO:OL (a0c .u32) 1 X w.heap.size 114 (w.alloc (.cells #[.int .u32 ((n:Int)%4294967296),.int .u32 ((n:Int)/4294967296)] 114)) (some ⟨w.heap.size,0,none⟩) 2 [n%4294967296,n/4294967296]:=
  OL.lit (a0c.elem .u32) hX (c1B _) [.int .u32 ((n%4294967296:Nat):Int),.int .u32 ((n/4294967296:Nat):Int)] [n%4294967296,n/4294967296] _ (by simp[a0g,Value.cells]) rfl
   (fun i hi _=>by
            match i,hi with
            |0,_=>rfl
            |1,_=>rfl) (by simp)
 go_enter Tryz.func124,Tryz.ntmps124
 go_wp2_with fail
 refine(a2a X _ [n%4294967296,n/4294967296] _ _ (hO.sl (a0c.elem .u32)) (Dig.cons (by rw[a1t];exact Nat.mod_lt _ (by decide)) (Dig.cons (by rw[a1t];omega) Dig.nil)) (by simp) (by simp)).mono ?_;rintro e w' ⟨rfl,l',rfl,hl',hc,hs'⟩;go_wp2_with fail
 go_ret
 have hv:nv [n%4294967296,n/4294967296]=n:=by simp only[nv,a1t];omega
 rw[hv]at hc;exact⟨(ExtX.refl w).alloc _,_,2,_,rfl,by simpa using hl',hc,hs'⟩
theorem a4V(x y c:Nat)(w:World)(d:x<4294967296)(f:y<4294967296)(b:c<=1):Calls Tryz.prog 173 #[.int .u32 x,.int .u32 y,.int .u32 c] w fun e a=>w=a/\e=.returned (.tuple #[.int .u32 ((x+y+c)%4294967296:Nat),.int .u32 ((x+y+c)/4294967296:Nat)]):=by
 go_enter Tryz.func173,Tryz.ntmps173
 go_wp2
 go_ret2
 exact⟨rfl,by simp⟩
theorem c1J{P:Program}{ops:Array Oper}{Q:Exit->Act->World->Prop}{rest:List Oper}{a:Act}{w:World}{d:Option Tmp}{ty:TypeId}{ps:String}{af:Array Edge}{g}{t:TypeId}{x y:Operand}(h:wpList P ops Q (⟨d,.store t x y,ty,ps,af,g⟩::rest) a w):wpList P ops Q (⟨d,.store t x y,ty,ps,af,g⟩::rest) a w:=h
theorem b7g(X:Nat->Bool)(ao B:Option Addr)(J K:List Nat)(L M:Nat)(w:World)(r:Sl (a0c .u32) 1 (mk X w) ao J)(t:Sl (a0c .u32) 1 (mk X w) B K)(j:Dig J)(l:Dig K)(U:J.length<=1099511627776)(V:K.length<=1099511627776)(E:J.length<=L)(F:K.length<=M)(hX:∀k,X k=true->k<w.heap.size)(na nb:Nat)(W:val J=na)(Y:val K=nb):Calls Tryz.prog 133 #[.slice ao J.length L,.slice B K.length M] w (a4z X w (na+nb)):=by
 go_enter Tryz.func133,Tryz.ntmps133
 go_wp2_with fail
 refine(a1x X _ _ _ _ r j (by omega) E).mono ?_;rintro e w' ⟨rfl,a0,a2,a,rfl,R,D,d,s⟩;go_wp2_with fail
 refine(a1x X _ _ _ _ t l (by omega) F).mono ?_;rintro e w' ⟨rfl,a1,a3,b,rfl,S,Q,f,u⟩;rw[W]at d;rw[Y]at f;have x:a.length<=1099511627776:=c1A D U;have z:b.length<=1099511627776:=c1A Q V;clear W Y D Q r t U V E F
 go_upto_if 18 with(fail)
 go_cut [0,1] (fun s0 s1 wx=>wx=w/\∃ao B a b L M,s0=.slice ao a.length L/\s1=.slice B b.length M/\b.length<=a.length/\a.length<=1099511627776/\Sl (a0c .u32) 1 (mk X w) ao a/\Sl (a0c .u32) 1 (mk X w) B b/\Dig a/\Dig b/\Hid (nv a+nv b=na+nb))
 case first=>
  go_wp2_with fail
  all_goals go_meet
  all_goals case rel=>first|exact⟨rfl,_,_,_,_,_,_,rfl,rfl,by omega,z,u,s,f.1,d.1,hid (by rw[d.2.2,f.2.2,Nat.add_comm])⟩|exact⟨rfl,_,_,_,_,_,_,rfl,rfl,by omega,x,s,u,d.1,f.1,hid (by rw[d.2.2,f.2.2])⟩
 case rest=>
  clear R d s S f u x z j l;clear a b a0 a1 a2 a3 ao B J K L M;obtain⟨rfl,ao,B,a,b,L,M,rfl,rfl,a5,D,r,t,j,l,Z⟩:=hcut;have b3:=r.hd;have b4:=t.hd;go_wp2_with (at_make;refine a2x a0Q (a0c.elem .u32) 0 (fun _=>rfl) X hX wc.heap.size (c1B _) (a.length+1) rfl rfl (by omega) (by omega) (by omega) ?_;intro oo w1 hO O)
  go_loopw [6,27] (fun c i wr=>∃(k:Nat) (o:List Nat) (N:Nat),i=.int .i64 k/\c=.int .u32 N/\k<=a.length/\a4S a b o k N/\OL (a0c .u32) 1 X wc.heap.size 114 wr oo (a.length+1) o/\Ext wc wr) (fun _ i _=>a.length - (intOf i).toNat)
  case atStart=>exact⟨0,_,0,rfl,rfl,by omega,a4S.start a b,hO,O⟩
  case round=>
   obtain⟨k,o,N,rfl,rfl,hk,g,h,n⟩:=hrel;clear hO O;have T:=g.2.2.1;have q:=hid g.1;have b5:Hd oo (a.length+1):=q.out▸h.hd;by_cases v:k<a.length
   ·have E:=(r.mono (a0c.mono _) (a0k n)).nat k v
    have C:=j.get k v;rw[a1t]at C;by_cases H:k<b.length
    ·have F:=(t.mono (a0c.mono _) (a0k n)).nat k H
     have P:=l.get k H;rw[a1t]at P;have I:=g.step v (.inl ⟨H,rfl⟩) j l;go_wp2_with (first|(with_reducible refine a0v a0Q ?_)|(go_at_call 173;refine(a4V _ _ _ _ C P T).mono ?_;rintro e w' ⟨rfl,rfl⟩)|((with_reducible refine c1J ?_);refine a2L a3V (a0c.elem .u32) k rfl (Nat.mul_one k).symm h (by rw[q.out];omega) _ ((a[k]+b[k]+N)%4294967296) rfl rfl ?_;intro w2 p m))
     go_roundw
     case rel=>exact⟨k+1,_,_,by go_num,rfl,by omega,I,p,n.own h (c1B _) m⟩
     case measure=>simp[intOf];omega
    ·have I:=g.step (y:=0) v (.inr ⟨by omega,rfl⟩) j l
     go_wp2_with (first|(with_reducible refine a0v a0Q ?_)|(go_at_call 173;refine(a4V _ 0 _ _ C (by omega) T).mono ?_;rintro e w' ⟨rfl,rfl⟩)|((with_reducible refine c1J ?_);refine a2L a3V (a0c.elem .u32) k rfl (Nat.mul_one k).symm h (by rw[q.out];omega) _ ((a[k]+0+N)%4294967296) rfl rfl ?_;intro w2 p m))
     go_roundw
     case rel=>exact⟨k+1,_,_,by go_num,rfl,by omega,I,p,n.own h (c1B _) m⟩
     case measure=>simp[intOf];omega
   ·have a9:k=a.length:=by omega
    subst a9;have a8:=g.done a5;go_wp2_with (first|(with_reducible refine a0v a0Q ?_)|((with_reducible refine c1J ?_);refine a2L a3V (a0c.elem .u32) a.length rfl (Nat.mul_one _).symm h (by rw[q.out];omega) _ N rfl rfl ?_;intro w2 p m))
    obtain⟨a6,a7,G⟩:=a8;have A:=hid G;have b2:=p.sl (a0c.elem .u32);have a4:=n.own h (c1B _) m;rw[<-G];clear G;refine(a2a X _ _ _ _ b2 a6 (by rw[A.out];omega) (by rw[A.out];omega)).mono ?_;rintro e w' ⟨rfl,l',rfl,b0,hc,b1⟩;go_wp2_with fail
    go_ret
    rw[a7,Z.out]at hc;exact⟨a4,_,_,_,rfl,by have h1:=q.out;have h2:=b0;(try simp only[List.length_set]at h2);omega,hc,b1⟩
def a4A(w:World)(v:Int)(e:Ending)(w':World):Prop:=Ext w w'/\e=.returned (.int .i64 v)
theorem a3z(X:Nat->Bool)(ao M:Option Addr)(q r:List Nat)(N O:Nat)(w:World)(D:Sl (a0c .u32) 1 (mk X w) ao q)(E:Sl (a0c .u32) 1 (mk X w) M r)(G:Dig q)(H:Dig r)(L:q.length<=1099511627776)(z:r.length<=1099511627776)(u:q.length<=N)(v:r.length<=O)(S nb:Nat)(A:val q=S)(B:val r=nb):Calls Tryz.prog 127 #[.slice ao q.length N,.slice M r.length O] w (a4A w (a3f S nb)):=by
 go_enter Tryz.func127,Tryz.ntmps127
 go_wp2_with fail
 refine(a1x X _ _ _ _ D G (by omega) u).mono ?_;rintro e Y ⟨rfl,m,s,a,rfl,Q,F,c,j⟩;go_wp2_with fail
 refine(a1x X _ _ _ _ E H (by omega) v).mono ?_;rintro e Y ⟨rfl,n,t,b,rfl,R,g,d,l⟩;rw[A]at c;rw[B]at d;have P:b.length<=1099511627776:=c1A g z;clear A B F g D E L z u v;have I:=j.hd;have J:=l.hd;by_cases f:a.length<b.length
 ·have h:=hid (a4w c d f)
  have C:((a.length:Int) !=b.length)=true:=a7c (by omega);go_wp2_with fail
  go_ret
  exact⟨ExtX.refl _,a0N h.out.symm⟩
 by_cases y:b.length<a.length
 ·have h:=hid (a4x c d y)
  have C:((a.length:Int) !=b.length)=true:=a7c (by omega);go_wp2_with fail
  go_ret
  exact⟨ExtX.refl _,a0N h.out.symm⟩
 have C:((a.length:Int) !=b.length)=false:=b0B (by omega);have o:Hid (a.length=b.length):=hid (by omega);have g:b.length<=a.length:=by omega
 have V:a.length<=b.length:=by omega
 clear f y;go_wp2_with fail
 go_loopw [5] (fun i wr=>∃k:Nat,i=.int .i64 ((k:Int) - 1)/\k<=a.length/\Hid (a.drop k=b.drop k)/\Ext w wr) (fun i _=>(intOf i+1).toNat)
 case atStart=>exact⟨a.length,rfl,c1B _,hid (by rw[List.drop_of_length_le (c1B _),List.drop_of_length_le g]),ExtX.refl _⟩
 case round=>
  obtain⟨k,rfl,K,hdr,p⟩:=hrel;by_cases f:0<k
  ·have Z:=(j.mono (a0c.mono _) (a0k p)).nat (k - 1) (by omega)
   have c2:=(l.mono (a0c.mono _) (a0k p)).nat (k - 1) (by omega);have i1:∀W,(Instr.indexAt 43 (.slice m a.length s) (.int .i64 ((k:Int) - 1))).run Tryz.prog W=.ok (.pointer (some (adr m (k - 1)))) W:=a0y a0Q m a.length s .i64 (k - 1) I (by omega) (by omega);have i2:∀W,(Instr.indexAt 43 (.slice n b.length t) (.int .i64 ((k:Int) - 1))).run Tryz.prog W=.ok (.pointer (some (adr n (k - 1)))) W:=a0y a0Q n b.length t .i64 (k - 1) J (by omega) (by omega);by_cases T:a[k - 1]<b[k - 1]
   ·have h:=hid (a7l c d o.out f K hdr.out T)
    have t1:((a[k - 1]:Int)<(b[k - 1]:Int)):=by omega
    go_wp2_with fail
    go_quiet (fail)
    go_wp2_with fail
    go_ret
    exact⟨p.drewN _,a0N h.out.symm⟩
   by_cases U:b[k - 1]<a[k - 1]
   ·have h:=hid (a7m c d o.out f K hdr.out U)
    go_wp2_with fail
    go_quiet (fail)
    go_wp2_with fail
    go_quiet (fail)
    go_wp2_with fail
    go_ret
    exact⟨(p.drewN _).drewN _,a0N h.out.symm⟩
   ·have x:=hid (a5O o.out f K hdr.out (by omega))
    go_wp2_with fail
    go_quiet (fail)
    go_wp2_with fail
    go_quiet (fail)
    go_wp2_with fail
    go_roundw
    case rel=>exact⟨k - 1,by go_num,by omega,x,p.drewN _⟩
    case measure=>simp[intOf];omega
  ·have h:=hid (a7n c d (k:=k) (by omega) hdr.out)
   go_wp2_with fail
   go_ret
   exact⟨p,a0N h.out.symm⟩
theorem b2D(a lo y:Nat)(w:World)(j:a<y)(k:y<4294967296)(n:lo<4294967296):Calls Tryz.prog 199 #[.int .u32 a,.int .u32 lo,.int .u32 y] w (fun e m=>Ext w m/\e=.returned (.tuple #[.int .u32 ((a*4294967296+lo)/y:Nat),.int .u32 ((a*4294967296+lo)%y:Nat)])):=by
 have o:((y:Int) !=0)=true:=a7c (by omega);have l:bits BinOp.or IntKind.u64 ((a:Int)*4294967296) (lo:Int)=(a:Int)*4294967296+lo:=by
  have e:=bits_or_u64_nat (a*4294967296) lo (by omega) (by omega);have c:=Nat.two_pow_add_eq_or_of_lt (i:=32) (b:=lo) (by omega) a;rw[Nat.mul_comm]at c;rw[<-c]at e;simpa using e
 have hq:(a*4294967296+lo)/y<4294967296:=by
  rw[Nat.div_lt_iff_lt_mul (by omega)];have:(a+1)*4294967296<=y*4294967296:=Nat.mul_le_mul_right _ j;rw[Nat.mul_comm 4294967296 y];omega
 have h:(a*4294967296+lo)%y<y:=Nat.mod_lt _ (by omega);have d:=hid hq;have f:=hid h;clear hq h;go_enter Tryz.func199,Tryz.ntmps199
 go_wp2_with fail
 go_quiet (fail)
 go_wp2_with fail
 go_ret2
 refine⟨(ExtX.refl _).drewN _,?_⟩;have g:(((a*4294967296+lo)/y:Nat):Int)%4294967296=(((a*4294967296+lo)/y:Nat):Int):=a7q _ d.out;have c:(((a*4294967296+lo)%y:Nat):Int)%4294967296=(((a*4294967296+lo)%y:Nat):Int):=a7q _ (Nat.lt_trans f.out k);simp only[Int.natCast_ediv,Int.natCast_emod,Int.natCast_add,Int.natCast_mul,Int.cast_ofNat_Int]at g c |-;simp[g,c]
def b4E(X:Nat->Bool)(w:World)(q r:Nat)(e:Ending)(w':World):Prop:=
 Ext w w'/\∃ao cap l,e=.returned (.tuple #[.slice ao l.length cap,.int .u32 r])/\l.length<=cap/\a0M l q/\Sl (a0c .u32) 1 (mk X w') ao l
theorem b2E(X:Nat->Bool)(ao:Option Addr)(l:List Nat)(cap d:Nat)(w:World)(G:Sl (a0c .u32) 1 (mk X w) ao l)(hd:Dig l)(N:l.length<=1099511627776)(J:∀k,X k=true->k<w.heap.size)(H:0<d)(I:d<4294967296):Calls Tryz.prog 170 #[.slice ao l.length cap,.int .u32 d] w (b4E X w (nv l/d) (nv l%d)):=by
 have M:=G.hd;go_enter Tryz.func170,Tryz.ntmps170
 go_wp2_with (at_make;refine a2x a0Q (a0c.elem .u32) 0 (fun _=>rfl) X J w.heap.size (c1B _) l.length rfl rfl (by omega) (by omega) (by omega) ?_;intro oo Q F h)
 go_loopw [5,6] (fun c i wr=>∃(k:Nat) (q:List Nat) (r:Nat),i=.int .i64 ((k:Int) - 1)/\c=.int .u32 r/\k<=l.length/\a2K l q d k r/\OL (a0c .u32) 1 X w.heap.size 114 wr oo l.length q/\Ext w wr) (fun _ i _=>(intOf i+1).toNat)
 case atStart=>exact⟨l.length,_,0,rfl,rfl,by omega,a2K.start l d H,F,h⟩
 case round=>
  obtain⟨k,q,r,rfl,rfl,L,a,g,f⟩:=hrel;clear F h;have b:=hid a.1;have B:=a.2.2.1;have K:Hd oo l.length:=b.out▸g.hd;by_cases z:0<k
  ·have x:=(G.mono (a0c.mono _) (a0k f)).nat (k - 1) (by omega)
   have n:=hd.get (k - 1) (by omega);rw[a1t]at n;have E:=a.step z L hd;go_wp2_with (first|(with_reducible refine a0v a0Q ?_)|(go_at_call 199;refine(b2D r l[k - 1] d _ B I n).mono ?_;rintro e R ⟨j,rfl⟩;have m:=g.ext0 (a0c.elem _) j)|((with_reducible refine c1J ?_);refine a0W a3V (k - 1) ((r*4294967296+l[k - 1])/d) rfl (by omega) m (by rw[b.out];omega) rfl (by simp) ?_;intro S v u))
   go_roundw
   case rel=>exact⟨k - 1,_,_,by go_num,by simp,by omega,E,v,(f.trans j).own m (c1B _) u⟩
   case measure=>simp[intOf];omega
  ·obtain rfl:k=0:=by omega
   obtain⟨o,s⟩:=a.done;have p:=hid o;have t:=hid s;have A:=a.2.1;have D:=g.sl (a0c.elem .u32);clear o s;go_wp2_with fail
   rw[<-b.out];refine(a2a X _ _ _ _ D A (by rw[b.out];omega) (by omega)).mono ?_;rintro e P ⟨rfl,O,rfl,y,x,C⟩;go_wp2_with fail
   go_ret2
   rw[p.out]at x;exact⟨f,_,_,_,by rw[<-t.out];rfl,y,x,C⟩
theorem b7h(X:Nat->Bool)(ao bo:Option Addr)(G H:List Nat)(ca cb:Nat)(w:World)(Y:Sl (a0c .u32) 1 (mk X w) ao G)(Z:Sl (a0c .u32) 1 (mk X w) bo H)(N:Dig G)(O:Dig H)(R:G.length<=1099511627776)(S:H.length<=1099511627776)(q:G.length<=ca)(r:H.length<=cb)(hX:∀k,X k=true->k<w.heap.size)(na nb:Nat)(T:val G=na)(U:val H=nb):Calls Tryz.prog 77 #[.slice ao G.length ca,.slice bo H.length cb] w (a4z X w (na*nb)):=by
 go_enter Tryz.func77,Tryz.ntmps77
 go_wp2_with fail
 refine(a1x X _ _ _ _ Y N (by omega) q).mono ?_;rintro e w' ⟨rfl,b6,b8,a,rfl,b3,K,l,A⟩;go_wp2_with fail
 refine(a1x X _ _ _ _ Z O (by omega) r).mono ?_;rintro e w' ⟨rfl,b7,b9,b,rfl,b4,M,n,B⟩;rw[T]at l;rw[U]at n;have b1:a.length<=1099511627776:=c1A K R;have b2:b.length<=1099511627776:=c1A M S;have a0:Hid (nv a*nv b=na*nb):=hid (by rw[l.2.2,n.2.2]);have u:=l.1;have v:=n.1;clear T U K M Y Z R S q r l n N O;have c0:=A.hd;have c1:=B.hd;go_wp2_with (at_make;refine a2x a0Q (a0c.elem .u32) 0 (fun _=>rfl) X hX w.heap.size (c1B _) (a.length+b.length) rfl rfl (by omega) (by omega) (by omega) ?_;intro oo w1 hO I)
 go_loopw [23] (fun i wr=>∃(k:Nat) (o:List Nat),i=.int .i64 k/\k<=a.length/\a2J a b o k 0 0/\OL (a0c .u32) 1 X w.heap.size 114 wr oo (a.length+b.length) o/\Ext w wr) (fun i _=>a.length - (intOf i).toNat)
 case atStart=>exact⟨0,_,rfl,by omega,a2J.start a b,hO,I⟩
 case round=>
  obtain⟨k,o,rfl,hk,d,f,g⟩:=hrel;clear hO I;have h:=hid d.1;by_cases s:k<a.length
  ·have q:=(A.mono (a0c.mono _) (a0k g)).nat k s
   have J:=u.get k s;rw[a1t]at J;obtain⟨x,hx⟩:=c1F (a[k]);rw[hx]at q J;have a9:=hid hx;clear hx;obtain⟨wo,rfl⟩:∃wo:World,wo=wr:=⟨_,rfl⟩;go_wp2_with (with_reducible refine a0v a0Q ?_)
   go_loopw [8,30] (fun c j wr=>∃(m:Nat) (o:List Nat) (t:Nat),j=.int .i64 m/\c=.int .u64 t/\m<=b.length/\a2J a b o k m t/\OL (a0c .u32) 1 X w.heap.size 114 wr oo (a.length+b.length) o/\Ext w wr) (fun _ j _=>b.length - (intOf j).toNat)
   case atStart=>exact⟨0,o,0,rfl,rfl,by omega,d,f,g⟩
   case round=>
    clear d f g h q;clear o;obtain⟨m,o,t,rfl,rfl,hm,d,f,g⟩:=hrel;have h:=hid d.1;have c2:Hd oo (a.length+b.length):=h.out▸f.hd;have a2:=d.2.2.1;rw[a1t]at a2;by_cases E:m<b.length
    ·have r:=(B.mono (a0c.mono _) (a0k g)).nat m E
     have p:k+m<o.length:=by rw[h.out];omega
     have V:=(f.sl (a0c.elem _)).nat (k+m) p;have L:=v.get m E;have W:=d.2.1.get (k+m) p;rw[a1t]at L W;obtain⟨y,hy⟩:=c1F (b[m]);obtain⟨z,hz⟩:=c1F (o[k+m]);obtain⟨F,a1⟩:=d.step' s E u v p a9.out hy hz;rw[hy]at r L;rw[hz]at V W;clear hy hz;have b0:(t:Int)+((x:Int)*(y:Int)+(z:Int))<18446744073709551616:=by rw[<-Int.natCast_mul];omega
     have c3:IntKind.u64.wrap ((x:Int)*(y:Int))=(x:Int)*(y:Int):=IntWalk.u64_in _ (by omega);have c4:IntKind.u64.wrap ((x:Int)*(y:Int)+(z:Int))=(x:Int)*(y:Int)+(z:Int):=IntWalk.u64_in _ (by omega);have c5:IntKind.u64.wrap ((t:Int)+((x:Int)*(y:Int)+(z:Int)))=(t:Int)+((x:Int)*(y:Int)+(z:Int)):=IntWalk.u64_in _ (by omega);clear a1 b0;have b5:wr.cell? (adr oo ((k:Int)+(m:Int)).toNat)=some (.int .u32 z):=V;go_wp2_with (first|(with_reducible refine a0v a0Q ?_)|((with_reducible refine c1J ?_);refine a0W a3V (k+m) ((t+(x*y+z))%4294967296) rfl (by omega) f p rfl (by simp) ?_;intro w3 D C))
     go_roundw
     case rel=>exact⟨m+1,_,_,by go_num,by simp,by omega,F,D,g.own f (c1B _) C⟩
     case measure=>simp[intOf];omega
    ·have a5:m=b.length:=by omega
     subst a5;have F:=d.row s;have p:k+b.length<o.length:=by rw[h.out];omega
     go_wp2_with (first|(with_reducible refine a0v a0Q ?_)|((with_reducible refine c1J ?_);refine a0W a3V (k+b.length) t rfl (by omega) f p rfl (by omega) ?_;intro w3 D C))
     go_roundw
     case rel=>exact⟨k+1,_,by go_num,by omega,F,D,g.own f (c1B _) C⟩
     case measure=>simp[intOf];omega
  ·have a3:k=a.length:=by omega
   subst a3;have P:=d.done rfl;have a6:=d.2.1;have a8:=f.sl (a0c.elem .u32);have Q:=hid P;clear P;go_wp2_with fail
   rw[<-h.out];refine(a2a X _ _ _ _ a8 a6 (by rw[h.out];omega) (by omega)).mono ?_;rintro e w' ⟨rfl,l',rfl,a4,hc,a7⟩;go_wp2_with fail
   go_ret
   rw[Q.out,a0.out]at hc;exact⟨g,_,_,_,rfl,a4,hc,a7⟩
theorem a6v(X:Nat->Bool)(ao:Option Addr)(l:List Nat)(cap:Nat)(w:World)(n:Nat)(hs:Sl (a0c .u32) 1 (mk X w) ao l)(hc:a0M l n)(hl:l.length<=4398046511104)(hX:∀k,X k=true->k<w.heap.size):Calls Tryz.prog 169 #[.slice ao l.length cap] w (a4z X w n):=by
 have hnil:=fun wx=>Lib.run_eql_slice_nil (P:=Tryz.prog) wx 43 114 ao l.length cap 0 0 Tryz.underlying43;cases ao with
 |none=>
  have hl0:l= []:=by
   cases l with
   |nil=>rfl
   |cons x l=>obtain⟨b,o,h⟩:=hs.1 (by simp);simp at h
  subst hl0;simp only[List.length_nil,Option.isNone_none]at hnil |-;go_enter Tryz.func169,Tryz.ntmps169
  go_wp2_with fail
  go_ret
  exact⟨ExtX.refl _,none,0,[],rfl,by simp,hc,Sl.nil _ _ _ _⟩
 |some ad=>
  have hO:OL (a0c .u32) 1 X w.heap.size 114 (w.alloc (.cells #[] 114)) (some ⟨w.heap.size,0,none⟩) 0 []:=
   OL.lit (a0c.elem .u32) hX (c1B _) [] [] _ rfl rfl (fun i hi=>by simp at hi) (by simp)
  have hs2:=hs.mono (a0c.mono _) (b8S X w (.cells #[] 114));have hX2:∀k,X k=true->k<(w.alloc (.cells #[] 114)).heap.size:=fun k hk=>by have:=hX k hk;simp;omega
  go_enter Tryz.func169,Tryz.ntmps169
  go_wp2_with (at_builtin;refine a3m (l:=[]) a0Q rfl (a0c.elem .u32) (by simp) hX2 l rfl rfl hO hs2 (by simp;omega) (by simp;omega) ?_;intro ao2 cap2 w2 hO2 hE2 _)
  go_ret
  exact⟨((ExtX.refl w).alloc _).own hO (c1B _) hE2,_,_,l,rfl,by have:=hO2.lenCap;simpa using this,hc,by simpa using hO2.sl (a0c.elem _)⟩
def b6l(X:Nat->Bool)(w:World)(q r:Nat)(e:Ending)(w':World):Prop:=
 Ext w w'/\∃ao cap l bo cbp m,e=.returned (.tuple #[.slice ao l.length cap,.slice bo m.length cbp,.bool true])/\l.length<=cap/\a0M l q/\Sl (a0c .u32) 1 (mk X w') ao l/\m.length<=cbp/\a0M m r/\Sl (a0c .u32) 1 (mk X w') bo m
theorem b4F(X:Nat->Bool)(ao bo:Option Addr)(D E:List Nat)(ca cb:Nat)(w:World)(U:Sl (a0c .u32) 1 (mk X w) ao D)(V:Sl (a0c .u32) 1 (mk X w) bo E)(a6:Dig D)(a7:Dig E)(N:D.length<=1099511627776)(a9:E.length<=1099511627776)(J:D.length<=ca)(L:E.length<=cb)(hX:∀k,X k=true->k<w.heap.size)(i nb:Nat)(O:val D=i)(P:val E=nb)(h0:0<nb)(h1:nb<4294967296):Calls Tryz.prog 126 #[.slice ao D.length ca,.slice bo E.length cb] w (b6l X w (i/nb) (i%nb)):=by
 go_enter Tryz.func126,Tryz.ntmps126
 go_wp2_with fail
 refine(a1x X _ _ _ _ U a6 (by omega) J).mono ?_;rintro e w' ⟨rfl,F,G,a,rfl,K,I,f,t⟩;go_wp2_with fail
 refine(a1x X _ _ _ _ V a7 (by omega) L).mono ?_;rintro e w' ⟨rfl,Y,a0,b,rfl,q,a4,g,m⟩;rw[O]at f;rw[P]at g;have a3:=b2x g h0 h1;subst a3;have p:a.length<=1099511627776:=c1A I N;have b3:=hid f.val;have b4:=hid g.val;have M:=g.1;have s:=f.1;clear O P I a4 U V N a9 J L;have a8:=m.hd;simp only[List.length_cons,List.length_nil,Nat.zero_add]at a8 q |-;go_wp2_with fail
 refine(a3z X F Y a [nb] G a0 w t m s M p (by simp) K q i nb b3.out b4.out).mono ?_;rintro e w2 ⟨j,rfl⟩;have u:=t.mono (a0c.mono _) (a0k j);have W:=m.mono (a0c.mono _) (a0k j);have y:∀k,X k=true->k<w2.heap.size:=fun k hk=>c1C (hX k hk) j.size;by_cases o:i<nb
 ·have B:a3f i nb<0:=(a3R i nb).2 o
  have hq:=hid (Nat.div_eq_of_lt o);have R:=hid (Nat.mod_eq_of_lt o);generalize a3f i nb=c at B;go_wp2_with fail
  refine(a6v X _ _ _ _ i u f (by omega) y).mono ?_;rintro e w3 ⟨n,v,x,l3,rfl,z,d,C⟩;go_wp2_with fail
  go_ret3
  refine⟨j.trans n,none,0,[],v,x,l3,rfl,by simp,?_,Sl.nil _ _ _ _,z,?_,C⟩
  ·rw[hq.out];exact a0M.nil
  ·rw[R.out];exact d
 ·have B:¬a3f i nb<0:=fun h=>o ((a3R i nb).1 h)
  generalize a3f i nb=c at B;have A:=W.nat 0 (by simp);simp only[List.getElem_cons_zero]at A;go_wp2_with (with_reducible refine a0v a0Q ?_)
  refine(b2E X F a G nb w2 u s p y h0 h1).mono ?_;rintro e w3 ⟨n,v,x,l3,rfl,z,d,C⟩;have a2:∀k,X k=true->k<w3.heap.size:=fun k hk=>c1C (y k hk) n.size;have b1:nv a%nb<nb:=Nat.mod_lt _ h0;obtain⟨r,R⟩:=c1F (nv a%nb);rw[R]at b1 |-;have b0:=hid R;clear R;go_wp2_with fail
  refine(a3W X r _ (by omega) a2).mono ?_;rintro e w4 ⟨H,Z,a1,l4,rfl,a5,l,b2⟩;go_wp2_with fail
  go_ret3
  have T:=C.mono (a0c.mono _) (a0k H);have Q:=f.2.2;rw[Q]at d;have S:=b0.out;rw[Q]at S;rw[<-S]at l;exact⟨(j.trans n).trans H,v,x,l3,Z,a1,l4,rfl,z,d,T,a5,l,b2⟩
end Go.Proofs.YtjmnhbebpffoaaaGreat
