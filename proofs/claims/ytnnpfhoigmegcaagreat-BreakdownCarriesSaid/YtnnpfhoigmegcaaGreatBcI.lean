/- Parts of a proof: each theorem states what it proves, and its conditions. -/
import Derived.Test.YtnnpfhoigmegcaaGreatBcH
import Derived.ArgAppend
import Derived.WalkKit
import Derived.Deep.RegionHeld3
import Derived.BigRegion
import Derived.Sort.LotA
set_option maxRecDepth 100000
set_option maxHeartbeats 1600000
namespace Go.Rep
open Go.RowKit
section
variable {P:Program} {ops:Array Oper} {Q:Exit->Act->World->Prop} {rest:List Oper} {a:Act} {w:World}
variable {α:Type} {R:Mem->Value->α->Prop} {sz:Nat} {X:Nat->Bool} {base:Nat} {e:TypeId} {ao:Option Addr} {cap:Nat} {l:List α}
variable {d:Option Tmp} {ty:TypeId} {ps:String} {af:Array Edge}
theorem OL.field(C:Elem R sz)(h:OL R sz X base e w ao cap l)(i j:Nat)(hi:i<l.length)(A:j<sz)(v:Value)(y:α)(O:∀u,R (mk (un X ao) w) u l[i]->∃u',a0g u'=(a0g u).set j v/\R (mk (un X ao) w) u' y):(∃v0,w.cell? (adr ao (i*sz+j))=some v0)/\w.frozen? (adr ao (i*sz+j))=false/\Sl R sz (mk X (w.setCell (adr ao (i*sz+j)) v)) ao (l.set i y)/\ExtX (ob ao) w (w.setCell (adr ao (i*sz+j)) v):=by
 obtain⟨us,K,m,L,M,G⟩:=h.cells;have t:(i+1)*sz<=us.length*sz:=Nat.mul_le_mul_right _ (by omega);rw[Nat.succ_mul]at t;have a:∀k (d:k<us.length) q (hq:q<sz),w.cell? (adr ao (k*sz+q))=some (us[k].cells[q]'(by rw[m _ (List.getElem_mem _)];exact hq))/\w.frozen? (adr ao (k*sz+q))=false:=by
  intro k d q hq;have hz:us[k].cells.size=sz:=m _ (List.getElem_mem _);have J:=a2p us k q d m hq;have n:(a0g us[k])[q]? =some (us[k].cells[q]'(by rw[hz];exact hq)):=by simp[a0g,hz,hq]
  rw[n]at J;exact M _ _ J
 have H:ExtX (ob ao) w (w.setCell (adr ao (i*sz+j)) v):=
  ⟨rfl,rfl,rfl,by simp[World.setCell],fun k d P=>Below.heap_setCell _ _ _ _ (fun e=>by
   have D:=h.form;rcases D with⟨_,_,rfl⟩|⟨g,B,rfl,_⟩
   ·simp at hi
   ·subst e;simp[ob]at P)⟩
 have I:∀q,X (adr ao q).block=false:=by
  intro q;have D:=h.form;have hx:=h.1;rcases D with⟨_,_,rfl⟩|⟨g,B,rfl,_⟩
  ·simp at hi
  ·exact hx _ (by simp[ob,adr])
 have o:i<us.length:=by omega
 refine⟨⟨_,(a i o j A).1⟩,(a i o j A).2,⟨by simpa using h.hd,fun k d=>?_⟩,H⟩;have c:k<us.length:=by simpa[K]using d
 have p:Le (mk (un X ao) w) (mk X (w.setCell (adr ao (i*sz+j)) v)):=a0Z H (fun k _ d=>a0A d) fun k _ d=>a0v d;by_cases f:k=i
 ·subst f
  obtain⟨u',F,z⟩:=O us[k] (G k c (by omega));have x:=C.size _ _ _ z;refine⟨u',x,fun q hq=>?_,by simpa using C.mono _ _ _ _ p z⟩;have r:q<sz:=by omega
  have b:(a0g u')[q]? =some u'.cells[q]:=by simp[a0g,hq]
  rw[F,List.getElem?_set]at b;unfold mk;rw[I];by_cases s:j=q
  ·subst s
   rw[if_pos rfl,if_pos (by simp[a0g,m _ (List.getElem_mem c),A])]at b;have:u'.cells[j]=v:=by simpa using b.symm
   rw[this];exact World.cell?_setCell_same' w _ v (by rw[(a k c j A).1];rfl)
  ·rw[if_neg s]at b
   have n:=(a k c q r).1;have:us[k].cells[q]'(by rw[m _ (List.getElem_mem _)];exact r)=u'.cells[q]:=by
    simpa[a0g]using(List.getElem?_eq_some_iff.1 b).2
   rw[this]at n;rw[<-n];exact World.cell?_setCell_other w _ _ v (by simp[adr])
 ·have hz:us[k].cells.size=sz:=m _ (List.getElem_mem _)
  refine⟨us[k],hz,fun q hq=>?_,by simpa[List.getElem_set,Ne.symm f]using C.mono _ _ _ _ p (G k c (by simpa using d))⟩;have n:=(a k c q (by omega)).1;unfold mk;rw[I,<-n];refine World.cell?_setCell_other w _ _ v ?_;have N:k*sz+q≠i*sz+j:=by
   intro Q;rcases Nat.lt_or_gt_of_ne f with E|E
   ·have:=Nat.mul_le_mul_right sz (show k+1<=i by omega)
    rw[Nat.succ_mul]at this;omega
   ·have:=Nat.mul_le_mul_right sz (show i+1<=k by omega)
    rw[Nat.succ_mul]at this;omega
  simp[adr]
theorem b4S{t:TypeId}{x y:Operand}{A:Addr}{v v0:Value}(g:TyI P t 1)(hx:a.eval x= .pointer (some A))(l:a.eval y=v)(k:v.cells=#[v])(b:v.oneCell'=true)(h:w.cell? A=some v0)(i:w.frozen? A=false)(K:wpList P ops Q rest (a.put d undef) (w.setCell A v)):wpList P ops Q (⟨d, .store t x y,ty,ps,af,none⟩::rest) a w:=by
 refine wpList_plain rfl fun m c=>?_;obtain⟨ti,j,f⟩:=g;unfold Oper.wp;subst l;have e:=run_store P w A (a.eval y) .plain b;rw[h,i]at e;simp only[Bool.false_eq_true,if_false]at e;simp[execOp,hx,Instr.storeAt,Instr.sureAddr,storeVar,sizeOf,typeInfo,j,f,k,Result.andThen,storeCells,Addr.add_zero',e];exact c _ _ K
end
end Go.Rep
namespace Go.Rep
open Go.RowKit
section
variable {P:Program} {ops:Array Oper} {Q:Exit->Act->World->Prop} {rest:List Oper} {a:Act} {w:World}
variable {α:Type} {R:Mem->Value->α->Prop} {sz:Nat} {X:Nat->Bool} {e:TypeId}
variable {d:Option Tmp} {ty:TypeId} {ps:String} {af:Array Edge}
theorem b4T{t h:Nat}{z:Value}{s x:Operand}{g:Option Addr}{p m:Nat}(T:SliceT P t e sz h z)(o:z.cells.size=sz)(y:Elem R sz)(A:∀k,X k=true->k<w.heap.size)(j:List α)(C:a.eval s= .slice none 0 0)(hx:a.eval x= .slice g m p)(B:m=j.length)(hxs:Sl R sz (mk X w) g j)(f:m*h<=140737488355328)(i:m<=9223372036854775807)(K:∀c b w',OL R sz X w.heap.size e w' c b j->Ext w w'->wpList P ops Q rest (a.put d (.slice c m b)) w'):wpList P ops Q (⟨d, .call {callee:= .builtin .append,args:=#[s,x],argTypes:=#[t,t]},ty,ps,af,none⟩::rest) a w:=by
 subst B;have q:OL R sz X w.heap.size e w none 0 []:=OL.nil _ _ _ _ _ _;have n:un X none=X:=by funext k;simp[un,ob]
 refine a4i (l:=[]) T o y (Nat.le_refl _) A j C hx q (by rw[n];exact hxs) (by simpa using f) (by simpa using i) ?_;intro c b w' r u D;have v:Ext w w':=u.weaken fun k _ _=>by simp[ob]
 exact K c b w' r v
theorem OL.beside{base cap:Nat}{ao oo a:Option Addr}{l:List α}{w':World}(d:Elem R sz)(h:OL R sz (un X oo) base e w ao cap l)(c:ExtX (ob oo) w w')(f:a=oo\/∃g,a=some ⟨g,0,none⟩/\w.heap.size<=g):OL R sz (un X a) base e w' ao cap l:=
 h.ext d c (fun k _ b=>a0A b) fun k b hz=>by
  rcases f with rfl|⟨g,rfl,i⟩
  ·exact hz
  ·by_cases hx:X k=true
   ·exact a0v hx
   ·have:g=k:=by simpa[un,hx,ob]using hz
    omega
end
end Go.Rep
namespace Go.Rep
open Go.RowKit
section
variable {P:Program} {ops:Array Oper} {Q:Exit->Act->World->Prop} {rest:List Oper} {a:Act} {w:World}
variable {α:Type} {R:Mem->Value->α->Prop} {sz:Nat} {X:Nat->Bool} {base:Nat} {e:TypeId} {ao:Option Addr} {cap:Nat} {l:List α}
variable {d:Option Tmp} {ty:TypeId} {ps:String} {af:Array Edge}
theorem OL.take(h:OL R sz X base e w ao cap l)(_:∀m u x,R m u x->u.cells.size=sz)(n:Nat):OL R sz X base e w ao cap (l.take n):=by
 have F:=h.form;obtain⟨hx,us,f,t,j,⟨E,v⟩,y⟩:=h;have a:∀u∈us.take n,u.cells.size=sz:=fun u o=>t u (List.mem_of_mem_take o);refine⟨hx,us.take n,by simp[f],a,fun u o=>j u (List.mem_of_mem_take o),⟨by rw[a0C _ a];simp[f],?_⟩,fun i hi k=>?_⟩
 ·rcases v with⟨b,G⟩|⟨g,c,d,b,z,A,H,B,C,D⟩
  ·simp at b
   obtain⟨rfl,p,rfl⟩:=b;refine .inl ⟨by simp[p],by simp[p]⟩
  ·simp at b
   obtain⟨rfl,rfl⟩:=b;refine .inr ⟨g,cap,d,by simp,z,A,by simp;omega,B,C,?_⟩;have q:(us.take n).flatMap a0g=(us.flatMap a0g).take ((l.take n).length*sz):=by
    have r:us.flatMap a0g=(us.take n).flatMap a0g++(us.drop n).flatMap a0g:=by
     rw[<-List.flatMap_append,List.take_append_drop]
    rw[r];have s:(l.take n).length*sz=((us.take n).flatMap a0g).length:=by rw[a0C _ a];simp[f]
    rw[s,List.take_left]
   rw[q,<-D,List.take_take]
   congr 1
   have:(l.take n).length<=l.length:=by simp;omega
   exact(Nat.min_eq_left (Nat.mul_le_mul_right _ this)).symm
 ·simp only[List.getElem_take]
  exact y i (by simp at hi;omega) (by simp at k;omega)
theorem a5z{t a0:Nat}{z:Value}{m:Array Value}{s x:Operand}{g n:Nat}(T:SliceT P t e sz a0 z)(E:Elem R sz)(hs:a.eval s= .slice (some ⟨g,0,none⟩) n cap)(hn:l.length=n)(hx:a.eval x= .slice (some ⟨w.heap.size,0,none⟩) 1 1)(h:OL R sz X base e w (some ⟨g,0,none⟩) cap l)(u:Value)(y:α)(I:m=u.cells)(hu:R (mk (un X (some ⟨g,0,none⟩)) w) u y)(o:n+1<=cap)(K:∀w',OL R sz X base e w' (some ⟨g,0,none⟩) cap (l++[y])->ExtX (ob (some ⟨g,0,none⟩)) w w'->wpList P ops Q rest (a.put d (.slice (some ⟨g,0,none⟩) (n+1) cap)) w'):wpList P ops Q (⟨d, .call {callee:= .builtin .append,args:=#[s,x],argTypes:=#[t,t]},ty,ps,af,none⟩::rest) a (w.alloc (.cells m e)):=by
 subst hn;refine wpList_plain rfl fun K' a4=>?_;have Z:Ext w (w.alloc (.cells m e)):=(ExtX.refl w).alloc _;have h':=h.ext0 E Z;obtain⟨i,hi,hz,p,a8⟩:=info_parts T.info;have hat:=b3l w m e u I;have B:=E.size _ _ _ hu;have U:=E.one _ _ _ hu;have V:R (mk (un X (some ⟨g,0,none⟩)) (w.alloc (.cells m e))) u y:=E.mono _ _ _ _ (a0k Z) hu;have A:(a0g u).length=1*i.size:=by simp[a0g,B,p]
 have r:∀j v,(a0g u)[j]? =some v->(w.alloc (.cells m e)).cell? ((⟨w.heap.size,0,none⟩:Addr).add j)=some v:=by
  intro j v hj;rw[<-a8m rfl];exact hat.2 j v (by simpa using hj)
 have q:=h'.form;generalize hW:w.alloc (.cells m e)=W at Z h' V r q;obtain⟨a7,us,h1,h2,a3,h3,h5⟩:=h';rcases q with⟨b,_⟩|⟨g',f,b,h6,h7,h8,h9,a1⟩
 ·simp at b
 simp at b;subst b;have Y:(us.flatMap a0g).length=l.length*i.size:=by rw[a0C us h2,h1,p]
 have L:(us++[u]).flatMap a0g=us.flatMap a0g++a0g u:=by simp
 have S:∀v∈us++[u],v.cells.size=sz:=by
  intro v b;rcases List.mem_append.1 b with b|b
  ·exact h2 v b
  ·rw[List.mem_singleton.1 b];exact B
 have D:∀v∈us++[u],∀c∈a0g v,c.oneCell'=true:=by
  intro v b c hc;rcases List.mem_append.1 b with b|b
  ·exact a3 v b c hc
  ·rw[List.mem_singleton.1 b]at hc;exact U c hc
 have J:l.length*i.size+(a0g u).length<=f.size:=by rw[A,a1,<-p,<-Nat.add_mul];exact Nat.mul_le_mul_right _ o
 have hr:=run_append_room (P:=P) W t ty e i T.und hi g l.length cap f h7 ⟨w.heap.size,0,none⟩ 1 1 (a0g u) A r U o J;have H:ExtX (ob (some ⟨g,0,none⟩)) W (W.setRow g (f.toList.take (l.length*i.size)++a0g u++f.toList.drop (l.length*i.size+(a0g u).length)).toArray):=
  ⟨rfl,rfl,rfl,by simp,fun k _ hk=>setRow_other W g k _ (fun ek=>by subst ek;simp[ob]at hk)⟩
 have C:(l++[y]).length=l.length+1:=by simp
 have a5:OL R sz X base e (W.setRow g (f.toList.take (l.length*i.size)++a0g u++f.toList.drop (l.length*i.size+(a0g u).length)).toArray) (some ⟨g,0,none⟩) cap (l++[y]):=by
  refine⟨a7,us++[u],by simp[h1],S,D,⟨by rw[L];simp[Y,A,p,Nat.add_mul], .inr ⟨g,cap,_,by rw[C],h6,setRow_heap W g f _ e _ h7,by rw[C];exact o,h9,?_,?_⟩⟩,?_⟩
  ·simp only[List.size_toArray,List.length_append,List.length_take,List.length_drop,Array.length_toList];omega
  ·rw[L,C]
   rcases h3.2 with⟨b,_⟩|⟨g',c',F,b,_,G,_,_,_,a2⟩
   ·simp at b
   simp at b;obtain⟨rfl,rfl⟩:=b;rw[h7]at G;obtain rfl:f=F:=by simpa using G
   have e1:f.toList.take (l.length*i.size)=us.flatMap a0g:=by rw[p];exact a2
   rw[e1];have N:(l.length+1)*sz=(us.flatMap a0g++a0g u).length:=by simp only[List.length_append,Y,A,p,Nat.add_mul]
   rw[N];exact List.take_left
  ·intro k hk a9
   have M:Le (mk (un X (some ⟨g,0,none⟩)) W) (mk (un X (some ⟨g,0,none⟩)) _):=a2f H (.inl rfl);by_cases O:k<us.length
   ·simpa[List.getElem_append_left O,List.getElem_append_left (show k<l.length by omega)]using E.mono _ _ _ _ M (h5 k O (by omega))
   ·have a6:k=us.length:=by simp at hk;omega
    subst a6;have:=E.mono _ _ _ _ M V;simpa[List.getElem_append_right,h1]using this
 unfold Oper.wp execOp;simp only[resolve,invoke,builtin,Sem.run_bind,Sem.run_pure,Result.andThen_ok,List.map_toArray,List.map_cons,List.map_nil,hs,hx];rw[hr];exact a4 _ _ (K _ a5 ((ExtX.of Z).trans H))
theorem b2B{t c:Nat}{z:Value}{x y:Operand}{kl r:IntKind}{m s:Int}(T:SliceT P t e sz c z)(_:z.cells.size=sz)(X:Nat->Bool)(u:∀k,X k=true->k<w.heap.size)(base:Nat)(b:base<=w.heap.size)(n:Nat)(C:a.eval x= .int kl s)(l:s=0)(v:a.eval y= .int r m)(D:m=(n:Int))(o:c*n<=281474976710656)(f:n<=9223372036854775807)(K:∀w',OL R sz X base e w' (some ⟨w.heap.size,0,none⟩) n []->Ext w w'->w'.heap.size=w.heap.size+1->wpList P ops Q rest (a.put d (.slice (some ⟨w.heap.size,0,none⟩) 0 n)) w'):wpList P ops Q (⟨d, .makeSlice t x y,ty,ps,af,none⟩::rest) a w:=by
 refine wpList_plain rfl fun E g=>?_;subst D;subst l;obtain⟨i,hi,j,p,h⟩:=info_parts T.info;have q:=Go.run_make (P:=P) w t e i z T.und hi j kl r 0 n (by omega) (by omega) (by rw[h,<-Int.natCast_mul];omega) (by omega);simp only[Int.toNat_natCast,Int.toNat_zero]at q;unfold Oper.wp;simp[execOp,C,v,q,Result.andThen];refine g _ _ (K _ ⟨fun k B=>?_,[],rfl,by simp,by simp,⟨by simp, .inr ⟨w.heap.size,n,_,by simp,b,heap_alloc_new w _,by simp,by simpa[maxLen]using f,by rw[size_madeCells,p],by simp⟩⟩,fun i hi=>by simp at hi⟩ ((ExtX.refl w).alloc _) (by simp));have:w.heap.size=k:=by simpa[ob]using B
 cases A:X k
 ·rfl
 ·have:=u k A;omega
end
end Go.Rep
namespace Go.Rep
open Go.RowKit
theorem OL.hide0{α:Type}{R:Mem->Value->α->Prop}{sz base cap:Nat}{X Z:Nat->Bool}{e:TypeId}{w:World}{ao:Option Addr}{l:List α}(h:OL R sz X base e w ao cap l)(b:∀h d u x,R h u x->R d u x)(hz:∀k,ob ao k=true->Z k=false):OL R sz Z base e w ao cap l:=by
 obtain⟨hx,us,f,g,a,j,m⟩:=h;exact⟨hz,us,f,g,a,j,fun i hi c=>b _ _ _ _ (m i hi c)⟩
end Go.Rep
namespace Go.Lim
theorem b0N{m h:Nat}{lo:Int}(a:m<h):a1e m h lo= []:=List.eq_nil_of_length_eq_zero (by rw[a3h,b3S m h a])
end Go.Lim
namespace Go.Proofs.YtnnpfhoigmegcaaGreat
open Go.RowKit Go.Rep Go.Lim
def a5v(base:Nat):Nat->Bool:=fun k=>decide (base<=k)&&decide (k<base+6)
def hbB(W:World)(g:Nat):Nat->Bool:=fun k=>decide (k<W.heap.size)&& !(k==g)
structure FromSt (base n k:Nat) (fv:Value) (W:World) (Q:List Int):Prop where
 bn:W.heap[base]? =some (.cells #[.int .i64 (n:Int)] 3 (0,0))
 bk:W.heap[base+1]? =some (.cells #[.int .i64 (k:Int)] 3 (0,0))
 bf:W.heap[base+2]? =some (.cells #[fv] 155 (0,0))
 bl:W.heap[base+4]? =some (.cells #[.slice (some ⟨base+3,0,none⟩) Q.length k] 22 (0,0))
 br:W.heap[base+5]? =some (.cells #[.func (.func 222) #[] #[.pointer (some ⟨base+4,0,none⟩), .pointer (some ⟨base+1,0,none⟩), .pointer (some ⟨base+2,0,none⟩), .pointer (some ⟨base,0,none⟩), .pointer (some ⟨base+5,0,none⟩)]] 209 (0,0))
 ol:OL (a0M .i64) 1 (hbB W (base+3)) base 3 W (some ⟨base+3,0,none⟩) k Q
 sz:base+6<=W.heap.size
def b2C(base:Nat)(W W':World):Prop:=W.heap.size<=W'.heap.size/\∀k,a5v base k=true->W'.heap[k]? =W.heap[k]?
theorem ob3{base k:Nat}(h:ob (some ⟨base,0,none⟩) k=true):base=k:=by simpa[ob]using h
theorem b4U{W:World}{base k:Nat}(h:ob (some ⟨base,0,none⟩) k=true):hbB W base k=false:=by
 have:=ob3 h;subst this;simp[hbB]
theorem b2D:∀(h a:Mem) (u:Value) (x:Int),a0M .i64 h u x->a0M .i64 a u x:=fun _ _ _ _ h=>h
theorem FromSt.keep{base n k:Nat}{fv:Value}{W W':World}{Q:List Int}(h:FromSt base n k fv W Q)(b:b2C base W W'):FromSt base n k fv W' Q:=by
 have a:∀d,d<6->W'.heap[base+d]? =W.heap[base+d]?:=fun d hd=>b.2 _ (by simp[a5v];omega);refine⟨by have:=a 0 (by omega);simp only[Nat.add_zero]at this;rw[this];exact h.bn,by rw[a 1 (by omega)];exact h.bk,by rw[a 2 (by omega)];exact h.bf,by rw[a 4 (by omega)];exact h.bl,by rw[a 5 (by omega)];exact h.br,?_,Nat.le_trans h.sz b.1⟩;have o:=h.ol;obtain⟨hx,us,p,q,f,⟨r,j⟩,s⟩:=o;refine⟨fun k b=>b4U b,us,p,q,f,⟨r,?_⟩,fun i hi l=>b2D _ _ _ _ (s i hi l)⟩;rcases j with j|⟨g,c,e,m,t,u,v⟩
 ·exact .inl j
 ·simp at m
  obtain⟨rfl,rfl⟩:=m;exact .inr ⟨base+3,k,e,by simp,t,by rw[a 3 (by omega)];exact u,v⟩
theorem FromSt.set{base n k:Nat}{fv:Value}{W b:World}{Q l:List Int}(h:FromSt base n k fv W Q)(f:ExtX (ob (some ⟨base+3,0,none⟩)) W b){X:Nat->Bool}(F:OL (a0M .i64) 1 X base 3 b (some ⟨base+3,0,none⟩) k l)(m:Nat)(I:m=l.length):FromSt base n k fv (b.setCell ⟨base+4,0,none⟩ (.slice (some ⟨base+3,0,none⟩) m k)) l/\ExtX (a5v base) W (b.setCell ⟨base+4,0,none⟩ (.slice (some ⟨base+3,0,none⟩) m k))/\ b.cell? ⟨base+4,0,none⟩=some (.slice (some ⟨base+3,0,none⟩) Q.length k)/\b.frozen? ⟨base+4,0,none⟩=false:=by
 subst I;have J:=h.sz;have a:ExtX (fun j=>j==base+4) b (b.setCell ⟨base+4,0,none⟩ (.slice (some ⟨base+3,0,none⟩) l.length k)):=
  ⟨rfl,rfl,rfl,by simp[World.setCell],fun j o r=>Below.heap_setCell _ _ _ _ (fun e=>by subst e;simp at r)⟩
 have z:∀j,j<W.heap.size->j≠base+3->b.heap[j]? =W.heap[j]?:=fun j o x=>f.block j o (by
  cases G:ob (some ⟨base+3,0,none⟩) j
  ·rfl
  ·exact absurd (ob3 G).symm x)
 have p:∀j,j<W.heap.size->j≠base+3->j≠base+4->(b.setCell ⟨base+4,0,none⟩ (.slice (some ⟨base+3,0,none⟩) l.length k)).heap[j]? =W.heap[j]?:=fun j o x y=>by
  rw[a.block j (Nat.lt_of_lt_of_le o f.size) (by simpa using y),z j o x]
 have d:=z (base+4) (by omega) (by omega);rw[h.bl]at d;have q:(b.setCell ⟨base+4,0,none⟩ (.slice (some ⟨base+3,0,none⟩) l.length k)).heap[base+4]? =some (.cells #[.slice (some ⟨base+3,0,none⟩) l.length k] 22 (0,0)):=by
  simp only[World.setCell,Array.getElem?_modify,d];simp
 refine⟨⟨by rw[p base (by omega) (by omega) (by omega)];exact h.bn,by rw[p _ (by omega) (by omega) (by omega)];exact h.bk,by rw[p _ (by omega) (by omega) (by omega)];exact h.bf,q,by rw[p _ (by omega) (by omega) (by omega)];exact h.br,?_,by simp[World.setCell];have:=f.size;omega⟩,?_,by simp[World.cell?,d],by simp[World.frozen?,d]⟩
 ·obtain⟨hx,us,B,C,t,⟨D,u⟩,E⟩:=F
  refine⟨fun k H=>b4U H,us,B,C,t,⟨D,?_⟩,fun i hi v=>b2D _ _ _ _ (E i hi v)⟩;rcases u with u|⟨g,c,s,A,K,L,M⟩
  ·exact .inl u
  ·simp at A
   obtain⟨rfl,rfl⟩:=A;have w:base+3<b.heap.size:=by have:=f.size;omega
   exact .inr ⟨base+3,k,s,by simp,K,by rw[a.block _ w (by simp)];exact L,M⟩
 ·refine⟨a.os.trans f.os,a.tape.trans f.tape,a.output.trans f.output,Nat.le_trans f.size a.size,fun j o r=>p j o ?_ ?_⟩
  ·intro e;subst e;simp[a5v]at r
  ·intro e;subst e;simp[a5v]at r
section
variable (cb base n k:Nat) (caps:Array Value) (Inv:List (List Int)->World->Prop)
theorem b2E(hcf:∀(args:Array Value) (W:World),Sem.run Tryz.prog (callFunc cb args) W= .ok (.enter cb args) W)(hn:n<=64)(hk:k<=64)(hInv:∀done W W',Inv done W->ExtX (a5v base) W W'->Inv done W')(hCB:∀(done:List (List Int)) (s:List Int) (W:World),Inv done W->(∃rest,done++[s]++rest=a1e n k 0)->Sl (a0M .i64) 1 W.cell? (some ⟨base+3,0,none⟩) s->base+6<=W.heap.size->
   Calls Tryz.prog cb (#[.slice (some ⟨base+3,0,none⟩) s.length k]++caps) W (fun e W'=>e= .returned (.tuple #[])/\Inv (done++[s]) W'/\b2C base W W')) (g:Nat):
  ∀(i:Nat) (Q:List Int) (done:List (List Int)) (W:World),Q.length+g=k->i<=n+1->FromSt base n k (.func (.func cb) #[] caps) W Q->Inv done W->Hid (∃rest,done++(a1e (n - i) g i).map (Q++ ·)++rest=a1e n k 0)->
  Calls Tryz.prog 222 #[.int .i64 (i:Int), .pointer (some ⟨base+4,0,none⟩), .pointer (some ⟨base+1,0,none⟩), .pointer (some ⟨base+2,0,none⟩), .pointer (some ⟨base,0,none⟩), .pointer (some ⟨base+5,0,none⟩)] W
   (fun e W'=>e= .returned (.tuple #[])/\FromSt base n k (.func (.func cb) #[] caps) W' Q/\Inv (done++(a1e (n - i) g i).map (Q++ ·)) W'):=by
 induction g with
 |zero=>
  intro i Q done W hQ hi hst hiv hpre;have cl:W.cell? ⟨base+4,0,none⟩=some (.slice (some ⟨base+3,0,none⟩) Q.length k):=by simp[World.cell?,hst.bl]
  have ck:W.cell? ⟨base+1,0,none⟩=some (.int .i64 (k:Int)):=by simp[World.cell?,hst.bk]
  have cf:W.cell? ⟨base+2,0,none⟩=some (.func (.func cb) #[] caps):=by simp[World.cell?,hst.bf]
  have hs:Sl (a0M .i64) 1 W.cell? (some ⟨base+3,0,none⟩) Q:=by
   have:=(hst.ol.hide0 b2D (Z:=noY) (fun k hk=>rfl)).sl (a0M.elem _);rw[a4u]at this;exact this
  have hQk:Q.length=k:=by omega
  go_enter Tryz.func222,Tryz.ntmps222
  go_wp2_with fail
  have hcb:=hCB done Q W hiv (by obtain⟨rest,hr⟩:=hpre.out;rw[a3u]at hr;exact⟨rest,by simpa using hr⟩) hs hst.sz;rw[hQk]at hcb;refine hcb.mono ?_;rintro e w1 ⟨rfl,hiv1,hkp⟩;have hst1:=hst.keep hkp;have hfin:Hid (done++(a1e (n - i) 0 i).map (Q++ ·)=done++[Q]):=hid (by rw[a3u];simp);clear hst hs cl ck cf hcb;go_wp2_with fail
  refine bodyPost_ret (results_none rfl _ _ _) rfl ?_;rw[hfin.out];exact⟨rfl,hst1,hiv1⟩
 |succ g ih=>
  intro i Q done W hQ hi hst hiv hpre;have cl:W.cell? ⟨base+4,0,none⟩=some (.slice (some ⟨base+3,0,none⟩) Q.length k):=by simp[World.cell?,hst.bl]
  have ck:W.cell? ⟨base+1,0,none⟩=some (.int .i64 (k:Int)):=by simp[World.cell?,hst.bk]
  have hQk:((Q.length:Int)==(k:Int))=false:=a2S (by omega);go_enter Tryz.func222,Tryz.ntmps222
  go_wp2_with fail
  go_loopw [0] (fun c wr=>∃(j:Nat) (D:List (List Int)),c= .int .i64 j/\j<=n+1/\FromSt base n k (.func (.func cb) #[] caps) wr Q/\Inv D wr/\Hid (D++(a1e (n - j) (g+1) j).map (Q++ ·)=done++(a1e (n - i) (g+1) i).map (Q++ ·))) (fun c _=>n+1 - (intOf c).toNat)
  case atStart=>exact⟨i,done,rfl,hi,hst,hiv,hid rfl⟩
  case round=>
   obtain⟨j,D,rfl,hj,hst1,hiv1,hDe⟩:=hrel;clear cl ck hst hiv;have cl:wr.cell? ⟨base+4,0,none⟩=some (.slice (some ⟨base+3,0,none⟩) Q.length k):=by simp[World.cell?,hst1.bl]
   have ck:wr.cell? ⟨base+1,0,none⟩=some (.int .i64 (k:Int)):=by simp[World.cell?,hst1.bk]
   have cn:wr.cell? ⟨base,0,none⟩=some (.int .i64 (n:Int)):=by simp[World.cell?,hst1.bn]
   by_cases hlt:j+g+1<=n
   ·obtain⟨m,hm⟩:∃m,n - j=m+1:=⟨n - j - 1,by omega⟩
    have hmn:n - (j+1)=m:=by omega
    go_wp2_with (at_builtin;refine a5z a5w (a0M.elem .i64) rfl rfl rfl hst1.ol (.int .i64 j) (j:Int) rfl rfl (by omega) ?_;intro w2 hO2 hE2;obtain⟨hst2,hE3,cl2,fl2⟩:=hst1.set hE2 hO2 (Q.length+1) (by simp);have cr:=cell_of_one hst2.br)
    have hiv2:=hInv _ _ _ hiv1 hE3;have hih:=ih (j+1) (Q++[(j:Int)]) D _ (by simp;omega) (by omega) hst2 hiv2 (hid (by
     obtain⟨rest,hr⟩:=hpre.out;refine⟨(a1e (n - (j+1)) (g+1) ((j+1:Nat):Int)).map (Q++ ·)++rest,?_⟩;rw[<-hr,<-hDe.out,hm,hmn,a1e,show((j+1:Nat):Int)=(j:Int)+1 by omega];have hmm:(a1e m g ((j:Int)+1)).map ((Q++[(j:Int)])++ ·)=((a1e m g ((j:Int)+1)).map ((j:Int):: ·)).map (Q++ ·):=by
      rw[List.map_map];apply List.map_congr_left;intro r _;simp
     rw[hmm,List.map_append];simp only[List.append_assoc]))
    rw[show((j+1:Nat):Int)=(j:Int)+1 by omega]at hih;refine hih.mono ?_;rintro e w4 ⟨rfl,hst4,hiv4⟩;clear hih;have cl4:=cell_of_one hst4.bl;rw[show(Q++[(j:Int)]).length=Q.length+1 by simp]at cl4;have htk:=hst4.ol.take (a0M.elem .i64).size Q.length;rw[List.take_left]at htk;obtain⟨hst5,hE5,_,fl4⟩:=hst4.set (ExtX.refl _) htk Q.length rfl;have hiv5:=hInv _ _ _ hiv4 hE5;have hDe2:Hid ((D++(a1e (n - (j+1)) g ((j:Int)+1)).map ((Q++[(j:Int)])++ ·))++(a1e (n - (j+1)) (g+1) ((j+1:Nat):Int)).map (Q++ ·)=done++(a1e (n - i) (g+1) i).map (Q++ ·)):=hid (by
     rw[<-hDe.out,hm,hmn,a1e,show((j+1:Nat):Int)=(j:Int)+1 by omega];have hmm:(a1e m g ((j:Int)+1)).map ((Q++[(j:Int)])++ ·)=((a1e m g ((j:Int)+1)).map ((j:Int):: ·)).map (Q++ ·):=by
      rw[List.map_map];apply List.map_congr_left;intro r _;simp
     rw[hmm,List.map_append,List.append_assoc])
    clear cl ck cn hst1 hiv1 hO2 hE2 hst2 hE3 cl2 fl2 cr hiv2 hm hmn;go_wp2_with fail
    go_roundw
    case rel=>exact⟨j+1,_,by go_num,by omega,hst5,hiv5,hDe2⟩
    case measure=>simp[intOf];omega
   ·have hnil:Hid (D=done++(a1e (n - i) (g+1) i).map (Q++ ·)):=hid (by
     have:=hDe.out;rw[b0N (by omega)]at this;simpa using this)
    go_wp2_with fail
    go_end0
    rw[<-hnil.out];exact⟨rfl,hst1,hiv1⟩
end
theorem b4V(w:World)(u v:Value)(b c:TypeId)(a:World)(h:(w.alloc (.cells #[u] b)).alloc (.cells #[v] c)=a):Ext w a/\a.heap[w.heap.size]? =some (.cells #[u] b (0,0))/\a.heap[w.heap.size+1]? =some (.cells #[v] c (0,0))/\a.heap.size=w.heap.size+2:=by
 subst h;refine⟨((ExtX.refl w).alloc _).alloc _,?_,?_,by simp⟩
 ·rw[Below.heap_alloc _ _ _ (by simp)];exact heap_alloc_new w _
 ·have:=heap_alloc_new (w.alloc (.cells #[u] b)) (.cells #[v] c (0,0))
  simpa using this
theorem b7k:(Tryz.prog.info? 209).map (fun i=>(i.zero,i.size,i.bytes))=some (some .nilFunc,1,8):=by kernel_rfl
theorem b7W:TyI Tryz.prog 209 1:=let ⟨i,h,_,a,_⟩:=info_parts b7k;⟨i,h,a⟩
theorem b6j(W:World)(g:Nat):∀j,hbB W g j=true->j<W.heap.size:=fun j a=>by
 have h:j<W.heap.size/\¬j=g:=by simpa[hbB]using a
 exact h.1
theorem a9w{w d wc a:World}{l u v:Value}{q j k:TypeId}(n:d.heap.size=w.heap.size+3)(e:Ext d wc)(o:wc.heap.size=d.heap.size+1)(f:(wc.alloc (.cells #[u] j)).alloc (.cells #[v] k)=a)(m:d.heap[w.heap.size+1]? =some (.cells #[l] q (0,0))):Ext wc a/\a.cell? ⟨w.heap.size+3+1+1,0,none⟩=some v/\a.frozen? ⟨w.heap.size+3+1+1,0,none⟩=false/\a.cell? ⟨w.heap.size+1,0,none⟩=some l/\ a.heap[w.heap.size+3+1]? =some (.cells #[u] j (0,0))/\a.heap[w.heap.size+3+1+1]? =some (.cells #[v] k (0,0))/\a.heap.size=w.heap.size+6:=by
 obtain⟨b,h,c,p⟩:=b4V wc _ _ _ _ a f;have g:wc.heap.size=w.heap.size+3+1:=by omega
 rw[g]at h c;have i:=(e.trans b).block (w.heap.size+1) (by omega) rfl;rw[m]at i;exact⟨b,cell_of_one c,free_of_one c,cell_of_one i,h,c,by omega⟩
theorem FromSt.start{w m wc d:World}{n k:Nat}{fv:Value}{X:Nat->Bool}(h:Ext w m)(y:m.heap.size=w.heap.size+3)(B:m.heap[w.heap.size]? =some (.cells #[.int .i64 (n:Int)] 3 (0,0)))(C:m.heap[w.heap.size+1]? =some (.cells #[.int .i64 (k:Int)] 3 (0,0)))(D:m.heap[w.heap.size+2]? =some (.cells #[fv] 155 (0,0)))(l:Ext m wc)(L:wc.heap.size=m.heap.size+1)(o:OL (a0M .i64) 1 X w.heap.size 3 wc (some ⟨m.heap.size,0,none⟩) k [])(b:Ext wc d)(E:d.heap[w.heap.size+3+1]? =some (.cells #[.slice (some ⟨w.heap.size+3,0,none⟩) 0 k] 22 (0,0)))(F:d.heap[w.heap.size+3+1+1]? =some (.cells #[.nilFunc] 209 (0,0)))(q:d.heap.size=w.heap.size+6):FromSt w.heap.size n k fv (d.setCell ⟨w.heap.size+3+1+1,0,none⟩ (.func (.func 222) #[] #[.pointer (some ⟨w.heap.size+3+1,0,none⟩), .pointer (some ⟨w.heap.size+1,0,none⟩), .pointer (some ⟨w.heap.size+1+1,0,none⟩), .pointer (some ⟨w.heap.size,0,none⟩), .pointer (some ⟨w.heap.size+3+1+1,0,none⟩)])) []/\ ExtX (a5v w.heap.size) w (d.setCell ⟨w.heap.size+3+1+1,0,none⟩ (.func (.func 222) #[] #[.pointer (some ⟨w.heap.size+3+1,0,none⟩), .pointer (some ⟨w.heap.size+1,0,none⟩), .pointer (some ⟨w.heap.size+1+1,0,none⟩), .pointer (some ⟨w.heap.size,0,none⟩), .pointer (some ⟨w.heap.size+3+1+1,0,none⟩)])):=by
 obtain⟨f,z⟩:∃f,Value.func (.func 222) #[] #[.pointer (some ⟨w.heap.size+3+1,0,none⟩), .pointer (some ⟨w.heap.size+1,0,none⟩), .pointer (some ⟨w.heap.size+1+1,0,none⟩), .pointer (some ⟨w.heap.size,0,none⟩), .pointer (some ⟨w.heap.size+3+1+1,0,none⟩)]=f:=⟨_,rfl⟩;rw[z];have a:∀j,j≠w.heap.size+5->(d.setCell ⟨w.heap.size+3+1+1,0,none⟩ f).heap[j]? =d.heap[j]?:=fun j x=>Below.heap_setCell _ _ _ _ (fun e=>x e);have r:Ext m d:=l.trans b;have p:(d.setCell ⟨w.heap.size+3+1+1,0,none⟩ f).heap[w.heap.size+3+1+1]? =some (.cells #[f] 209 (0,0)):=by
  simp only[World.setCell,Array.getElem?_modify,F];simp
 refine⟨⟨?_,?_,?_,?_,?_,?_,by simp[World.setCell,q]⟩,?_⟩
 ·rw[a _ (by omega),r.block _ (by omega) rfl];exact B
 ·rw[a _ (by omega),r.block _ (by omega) rfl];exact C
 ·rw[a _ (by omega),r.block _ (by omega) rfl];exact D
 ·rw[a _ (by omega)];exact E
 ·rw[<-z]at p |-;exact p
 ·rw[y]at o
  obtain⟨hx,us,G,H,t,⟨I,u⟩,J⟩:=o;refine⟨fun k K=>b4U K,us,G,H,t,⟨I,?_⟩,fun i hi v=>b2D _ _ _ _ (J i hi v)⟩;rcases u with u|⟨g,c,s,A,M,N,O⟩
  ·exact .inl u
  ·simp at A
   obtain⟨rfl,rfl⟩:=A;exact .inr ⟨w.heap.size+3,k,s,by simp,M,by rw[a _ (by omega),b.block _ (by omega) rfl];exact N,O⟩
 ·refine⟨b.os.trans (l.os.trans h.os),b.tape.trans (l.tape.trans h.tape),b.output.trans (l.output.trans h.output),by simp[World.setCell,q],fun j x _=>?_⟩
  rw[a _ (by omega),(h.trans r).block j x rfl]
theorem a7W(cb n k:Nat)(caps:Array Value)(Inv:List (List Int)->World->Prop)(w:World)(x:∀(args:Array Value) (W:World),Sem.run Tryz.prog (callFunc cb args) W= .ok (.enter cb args) W)(K:n<=64)(I:k<=64)(c:∀done W W',Inv done W->ExtX (a5v w.heap.size) W W'->Inv done W')(v:∀(done:List (List Int)) (s:List Int) (W:World),Inv done W->(∃rest,done++[s]++rest=a1e n k 0)->Sl (a0M .i64) 1 W.cell? (some ⟨w.heap.size+3,0,none⟩) s->w.heap.size+6<=W.heap.size->
   Calls Tryz.prog cb (#[.slice (some ⟨w.heap.size+3,0,none⟩) s.length k]++caps) W (fun e W'=>e= .returned (.tuple #[])/\Inv (done++[s]) W'/\b2C w.heap.size W W'))
  (H:Inv [] w):
  Calls Tryz.prog 138 #[.int .i64 (n:Int), .int .i64 (k:Int), .func (.func cb) #[] caps] w (fun e W'=>e= .returned (.tuple #[])/\Inv (a1e n k 0) W'):=by
 have J:∀(fn:Fn) (first cap:Array Value) (w:World),(Instr.makeFunc fn first cap).run Tryz.prog w= .ok (.func fn first cap) w:=fun _ _ _ _=>rfl;obtain⟨b,a⟩:∃b,(((w.alloc (.cells #[.int .i64 (n:Int)] 3)).alloc (.cells #[.int .i64 (k:Int)] 3)).alloc (.cells #[.func (.func cb) #[] caps] 155))=b:=⟨_,rfl⟩;have f:Ext w b:=by rw[<-a];exact(((ExtX.refl w).alloc _).alloc _).alloc _
 have q:b.heap.size=w.heap.size+3:=by rw[<-a];simp
 have z:b.heap[w.heap.size]? =some (.cells #[.int .i64 (n:Int)] 3 (0,0)):=by
  rw[<-a,Below.heap_alloc _ _ _ (by simp;omega),Below.heap_alloc _ _ _ (by simp)];exact heap_alloc_new w _
 have t:b.heap[w.heap.size+1]? =some (.cells #[.int .i64 (k:Int)] 3 (0,0)):=by
  rw[<-a,Below.heap_alloc _ _ _ (by simp)];have:=heap_alloc_new (w.alloc (.cells #[.int .i64 (n:Int)] 3)) (.cells #[.int .i64 (k:Int)] 3 (0,0));simpa using this
 have A:b.heap[w.heap.size+2]? =some (.cells #[.func (.func cb) #[] caps] 155 (0,0)):=by
  rw[<-a];have:=heap_alloc_new ((w.alloc (.cells #[.int .i64 (n:Int)] 3)).alloc (.cells #[.int .i64 (k:Int)] 3)) (.cells #[.func (.func cb) #[] caps] 155 (0,0));simpa using this
 have G:=cell_of_one t;go_enter Tryz.func138,Tryz.ntmps138
 go_wp2_with (first|((with_reducible show wpList _ _ _ (⟨_, .store _ _ _,_,_,_,_⟩::_) _ _);refine b4S b7W rfl rfl rfl rfl B E ?_)|(at_make;refine b2B (R:=a0M .i64) a5w rfl (hbB b (w.heap.size+3)) (b6j b _) w.heap.size f.size k rfl rfl rfl rfl (by omega) (by omega) ?_;intro wc j g r;obtain⟨F,p⟩:∃F,(wc.alloc (.cells #[.slice (some ⟨w.heap.size+3,0,none⟩) 0 k] 22)).alloc (.cells #[.nilFunc] 209)=F:=⟨_,rfl⟩;obtain⟨h,B,E,u,C,D,y⟩:=a9w q g r p t))
 obtain⟨d,i⟩:=FromSt.start (fv:= .func (.func cb) #[] caps) f q z t A g r j h C D y;have o:Hid (∃rest,([]:List (List Int))++(a1e (n - 0) k ((0:Nat):Int)).map (([]:List Int)++ ·)++rest=a1e n k 0):=hid ⟨[],by simp⟩;refine(b2E cb w.heap.size n k caps Inv x K I c v k 0 [] [] _ (by simp) (by omega) d (c _ _ _ H i) o).mono ?_;rintro e L ⟨rfl,_,m⟩;have l:Hid (([]:List (List Int))++(a1e (n - 0) k ((0:Nat):Int)).map (([]:List Int)++ ·)=a1e n k 0):=hid (by simp);rw[l.out]at m;clear d i B E u C D h j g z t A f G p a;go_wp2_with fail
 go_end0
 exact⟨rfl,m⟩
end Go.Proofs.YtnnpfhoigmegcaaGreat
namespace Go.Rep
open Go.RowKit Go.Lim
section
variable {P:Program} {ops:Array Oper} {Q:Exit->Act->World->Prop} {a:Act} {w:World}
variable {α:Type} {R:Mem->Value->α->Prop} {sz:Nat} {X:Nat->Bool} {base:Nat} {e:TypeId} {ao:Option Addr} {cap:Nat} {l:List α}
end
end Go.Rep
namespace Go.Proofs.YtnnpfhoigmegcaaGreat
open Go.RowKit Go.Rep Go.Lim Go.Lin
def uB:Nat:=10000000000
def a7X(bc bs:Nat):Nat->Bool:=fun k=>(k==bc)||(k==bs)
def b1y(X:Nat->Bool)(bc bs B0:Nat):Nat->Bool:=fun k=>X k||a7X bc bs k||a5v B0 k
structure Lay (lo bo bu bc bd bs B0:Nat):Prop where
 lo1:lo<=bo
 lo2:lo<=bu
 lo3:lo<=bc
 lo4:lo<=bd
 lo5:lo<=bs
 hi1:bo<B0
 hi2:bu<B0
 hi3:bc<B0
 hi4:bd<B0
 hi5:bs<B0
 ne1:bo≠bc
 ne2:bo≠bs
 ne3:bu≠bc
 ne4:bu≠bs
 ne5:bd≠bc
 ne6:bd≠bs
 ne7:bc≠bs
structure BSt (X:Nat->Bool) (w0:World) (bo bu bc bd bs B0 c:Nat) (oo:Option Addr) (n oc:Nat) (ov:Value) (z N:Mat) (cnt:Nat) (dv:Value) (us:Mat) (W:World):Prop where
 ext:Ext w0 W
 b1:Bx W bo #[.slice oo n oc] 25
 b2:Bx W bu #[ov] 25
 b3:Bx W bc #[.int .i64 (cnt:Int)] 3
 b4:Bx W bd #[.int .i64 (c:Int)] 3
 b5:Bx W bs #[dv] 25
 r1:MV (mk (b1y X bc bs B0) W) (.slice oo n oc) z
 r2:MV (mk (b1y X bc bs B0) W) ov N
 r3:MV (mk (b1y X bc bs B0) W) dv us
section
variable {X:Nat->Bool} {w0 W W':World} {bo bu bc bd bs B0 c:Nat} {oo:Option Addr} {n oc:Nat} {ov:Value} {z N:Mat} {cnt:Nat} {dv:Value} {us:Mat}
theorem BSt.hx(_:BSt X w0 bo bu bc bd bs B0 c oo n oc ov z N cnt dv us W)(e:HX X w0)(a:Lay w0.heap.size bo bu bc bd bs B0)(j:B0+6<=W.heap.size):HX (b1y X bc bs B0) W:=fun k b=>by
 have g:=a.hi3;have i:=a.hi5;have f:=a.lo1;have d:=a.hi1;simp only[b1y,a7X,a5v,Bool.or_eq_true,Bool.and_eq_true,beq_iff_eq,decide_eq_true_eq]at b;rcases b with(h|h|h)|h
 ·have:=e k h;omega
 ·omega
 ·omega
 ·omega
theorem BSt.hxs(h:BSt X w0 bo bu bc bd bs B0 c oo n oc ov z N cnt dv us W)(b:HX X w0):HX (fun k=>X k||a7X bc bs k) W:=fun k a=>by
 have e:=h.b3.lt;have f:=h.b5.lt;have d:=h.ext.size;simp only[a7X,Bool.or_eq_true,beq_iff_eq]at a;rcases a with h|h|h
 ·have:=b k h;omega
 ·omega
 ·omega
theorem BSt.step(h:BSt X w0 bo bu bc bd bs B0 c oo n oc ov z N cnt dv us W)(a:Ext W W'):BSt X w0 bo bu bc bd bs B0 c oo n oc ov z N cnt dv us W':=
 ⟨h.ext.trans a,h.b1.ext0 a,h.b2.ext0 a,h.b3.ext0 a,h.b4.ext0 a,h.b5.ext0 a,mkx MV.mono h.r1 a,mkx MV.mono h.r2 a,mkx MV.mono h.r3 a⟩
theorem BSt.own(h:BSt X w0 bo bu bc bd bs B0 c oo n oc ov z N cnt dv us W)(b:Lay w0.heap.size bo bu bc bd bs B0)(a:ExtX (a5v B0) W W'):BSt X w0 bo bu bc bd bs B0 c oo n oc ov z N cnt dv us W':=by
 have d:∀j,j<B0->a5v B0 j=false:=fun j g=>by simp[a5v];omega
 have e:=a0E (X:=b1y X bc bs B0) a fun k f=>by simp[b1y,f]
 have:=b.lo1;have:=b.hi1;exact⟨h.ext.then_ a fun i hi _=>d i (by omega),h.b1.ext a (d _ b.hi1),h.b2.ext a (d _ b.hi2),h.b3.ext a (d _ b.hi3),h.b4.ext a (d _ b.hi4),h.b5.ext a (d _ b.hi5),MV.mono _ _ _ _ e h.r1,MV.mono _ _ _ _ e h.r2,MV.mono _ _ _ _ e h.r3⟩
theorem BSt.put(h:BSt X w0 bo bu bc bd bs B0 c oo n oc ov z N cnt dv us W)(d:Lay w0.heap.size bo bu bc bd bs B0)(a:Nat)(b:Value)(j:Mat)(s:MV (_root_.Go.Rep.mk (b1y X bc bs B0) W) b j):(W.setCell ⟨bc,0,none⟩ (.int .i64 (a:Int))).cell? ⟨bs,0,none⟩=some dv/\(W.setCell ⟨bc,0,none⟩ (.int .i64 (a:Int))).frozen? ⟨bs,0,none⟩=false/\ BSt X w0 bo bu bc bd bs B0 c oo n oc ov z N a b j ((W.setCell ⟨bc,0,none⟩ (.int .i64 (a:Int))).setCell ⟨bs,0,none⟩ b)/\ExtX (a7X bc bs) W ((W.setCell ⟨bc,0,none⟩ (.int .i64 (a:Int))).setCell ⟨bs,0,none⟩ b):=by
 obtain⟨w,q⟩:=a0x h.b3 (.int .i64 (a:Int)) (i:=0) (by simp);have m:=h.b5.ext q (a0b d.ne7.symm);obtain⟨x,r⟩:=a0x m b (i:=0) (by simp);have f:ExtX (a7X bc bs) W ((W.setCell ⟨bc,0,none⟩ (.int .i64 (a:Int))).setCell ⟨bs,0,none⟩ b):=by
  refine(q.weaken fun k _ g=>?_).trans (r.weaken fun k _ g=>?_)
  ·refine a0b fun e=>?_
   subst e;simp[a7X]at g
  ·refine a0b fun e=>?_
   subst e;simp[a7X]at g
 have l:=a0E (X:=b1y X bc bs B0) f fun k g=>by simp[b1y,g]
 have t:a7X bc bs bo=false:=by simp[a7X,d.ne1,d.ne2]
 have u:a7X bc bs bu=false:=by simp[a7X,d.ne3,d.ne4]
 have v:a7X bc bs bd=false:=by simp[a7X,d.ne5,d.ne6]
 have o:=d.lo3;have p:=d.lo5;refine⟨m.cell 0 rfl,m.frozen 0,⟨h.ext.then_ f fun i hi _=>?_,h.b1.ext f t,h.b2.ext f u,?_,h.b4.ext f v,by simpa using x,MV.mono _ _ _ _ l h.r1,MV.mono _ _ _ _ l h.r2,MV.mono _ _ _ _ l s⟩,f⟩
 ·simp[a7X];omega
 ·have:=w.ext r (a0b d.ne7)
  simpa using this
end
def b7l(X:Nat->Bool)(w0:World)(bo bu bc bd bs B0 c:Nat)(oo:Option Addr)(n oc:Nat)(ov:Value)(z N:Mat)(done:List (List Int))(W:World):Prop:=
 ∃(cnt:Nat) (dv:Value) (us:Mat),BSt X w0 bo bu bc bd bs B0 c oo n oc ov z N cnt dv us W/\b4H c z cnt us/\BM uB us/\(∀r∈us,r.length=c)/\∀s∈done,b2m c (a1D z) (a1D N) cnt (s.map Int.toNat)
theorem b7l.own{X:Nat->Bool}{w0 W W':World}{bo bu bc bd bs B0 c:Nat}{oo:Option Addr}{n oc:Nat}{ov:Value}{z N:Mat}{done:List (List Int)}(h:b7l X w0 bo bu bc bd bs B0 c oo n oc ov z N done W)(e:Lay w0.heap.size bo bu bc bd bs B0)(d:ExtX (a5v B0) W W'):b7l X w0 bo bu bc bd bs B0 c oo n oc ov z N done W':=by
 obtain⟨cnt,dv,us,a,b⟩:=h;exact⟨cnt,dv,us,a.own e d,b⟩
theorem b2C.trans{B0:Nat}{A B C:World}(h:b2C B0 A B)(k:b2C B0 B C):b2C B0 A C:=⟨Nat.le_trans h.1 k.1,fun i hi=>(k.2 i hi).trans (h.2 i hi)⟩
end Go.Proofs.YtnnpfhoigmegcaaGreat
namespace Go.Lin
open Go.Lim Go.Rep
end Go.Lin
namespace Go.Proofs.YtnnpfhoigmegcaaGreat
open Go.RowKit Go.Rep Go.Lim Go.Lin
theorem b4W(X:Nat->Bool)(w:World)(u:Value)(m:List (List Rat))(k:HX X w)(n:MV (mk X w) u m)(i:a1M m=true)(r:b4J m (a0u m)):Calls Tryz.prog 189 #[u] w (fun e w'=>Ext w w'/\e= .returned (.tuple #[.int .i64 (b4L m (a0u m):Int), .int .i64 0])):=by
 obtain⟨d,o,l,_,_⟩:=a3G i;have c:=a5T X w u m n (by omega);rw[i]at c;have h:=a5V X w u m m.length (a0u m) k n d rfl (by omega) (by omega);have j:Hid ((eN m (a0u m)).2.1.length=b4L m (a0u m)):=hid rfl;clear i;go_enter Tryz.func189,Tryz.ntmps189
 go_wp2_with fail
 refine c.mono ?_;rintro e y ⟨rfl,rfl⟩;go_wp2_with fail
 refine h.mono ?_;rintro e x ⟨a,ao,cap,t,rfl,b⟩;go_wp2_with fail
 refine(a5f X _ x ao cap m.length (a0u m) t m (k.ext a) b d rfl (by omega) (by omega) r).mono ?_;rintro e z ⟨f,po,pc,v,rfl,s,p,q⟩;have g:=b.ext_from a (Nat.le_refl _) f;rw[j.out];go_wp2_with fail
 go_ret2
 exact⟨g,rfl⟩
end Go.Proofs.YtnnpfhoigmegcaaGreat
namespace Go.Rep
open Go.RowKit
end Go.Rep
namespace Go.Lin
open Go.Lim Go.Rep
end Go.Lin
namespace Go.Proofs.YtnnpfhoigmegcaaGreat
open Go.RowKit Go.Rep Go.Lim Go.Lin
theorem Bx.store{w:World}{b:Nat}{v0:Value}{T:TypeId}(h:Bx w b #[v0] T)(v:Value):Bx (w.setCell ⟨b,0,none⟩ v) b #[v] T/\ExtX (ob (some ⟨b,0,none⟩)) w (w.setCell ⟨b,0,none⟩ v):=by
 obtain⟨a,c⟩:=a0x h v (i:=0) (by simp);exact⟨by simpa using a,c⟩
end Go.Proofs.YtnnpfhoigmegcaaGreat
namespace Go.Lin
open Go.Lim Go.Rep
end Go.Lin
namespace Go.Proofs.YtnnpfhoigmegcaaGreat
open Go.RowKit Go.Rep Go.Lim Go.Lin
theorem b6k(X:Nat->Bool)(w:World)(u:Value)(x:Rat)(y:HX X w)(h:QV (mk X w) u x):Calls Tryz.prog 109 #[u] w (a1u X w QC x):=by
 obtain⟨E,p,C,q,r,B,s,rfl⟩:=h.shape;obtain⟨W,J,n,f,m,hz⟩:=a0W w #[.bool E, .slice p C q, .slice r B s] #[.bool false, .slice none 0 0, .slice none 0 0] 41 41;have d:HX (a0e X w.heap.size 2) W:=y.boxes hz;have e:=QV.mono _ _ _ _ (a0i (nb:=2) n) h;obtain⟨b,z⟩:∃b,w.heap.size=b:=⟨_,rfl⟩;have A:w.heap.size<=b:=by omega
 rw[z]at f m hz d e;have j:=f.cell 0 rfl;have k:=f.cell 1 rfl;have l:=f.cell 2 rfl;have t:QV (mk (a0e X b 2) W) (.agg #[.bool false, .slice none 0 0, .slice none 0 0]) 0:=(QC.zero _).qv (by decide+kernel);have i:x+0=x:=by grind
 clear h;go_enter Tryz.func109,Tryz.ntmps109
 go_wp2_with fail
 refine(b5B (a0e X b 2) W _ _ x 0 d e t).mono ?_;rintro I O ⟨c,N,rfl,a⟩;rw[i]at a;obtain⟨M,F,L,G,H,K,e5,rfl⟩:=a.shape;have g:=m.ext0 c;clear j k l;go_wp2_with ((with_reducible show wpList _ _ _ (⟨_, .store 41 _ _,_,_,_,_⟩::_) _ _);refine a0a a0j rfl rfl g rfl rfl (a1q _ _ _ _ _ _ _) ?_;intro P D o)
 have v:=QC.mono _ _ _ _ a0h (QC.mono _ _ _ _ (a0f o (by omega) (by omega)) a);exact bodyPost_ret (a0d rfl rfl a0j D rfl) rfl ⟨ExtX.box (n.trans c) o (by omega),_,rfl,v⟩
theorem b7m(X:Nat->Bool)(w:World)(u v:Value)(x y:Rat)(hX:HX X w)(H:QV (mk X w) u x)(I:QV (mk X w) v y):Calls Tryz.prog 163 #[u,v] w (b4q X w (x/y) (e5 (decide (y=0)))):=by
 have a3:=hid H.hq;have a4:=hid I.hq;obtain⟨s1,T,n1,Y,d1,k1,e1,rfl⟩:=H.shape;obtain⟨s2,U,n2,Z,d2,k2,e2,rfl⟩:=I.shape;obtain⟨W,hW,G,A,B,V,hz⟩:=a1F w #[.bool s1, .slice T n1 Y, .slice d1 k1 e1] #[.bool s2, .slice U n2 Z, .slice d2 k2 e2] #[.bool false, .slice none 0 0, .slice none 0 0] 41 41 41;have f:HX (a0e X w.heap.size 3) W:=hX.boxes hz;have m:=QV.mono _ _ _ _ (a0i (nb:=3) G) H;have g:=QV.mono _ _ _ _ (a0i (nb:=3) G) I;obtain⟨b,hb⟩:∃b,w.heap.size=b:=⟨_,rfl⟩;have a0:w.heap.size<=b:=by omega
 rw[hb]at A B V hz f m g;have L:Ext W W.drew:=(ExtX.refl W).drew;have M:HX (a0e X b 3) W.drew:=f;have O:QV (mk (a0e X b 3) W.drew) (.agg #[.bool s1, .slice T n1 Y, .slice d1 k1 e1]) x:=m;have P:QV (mk (a0e X b 3) W.drew) (.agg #[.bool s2, .slice U n2 Z, .slice d2 k2 e2]) y:=g;have o:=A.cell 0 rfl;have p:=A.cell 1 rfl;have r:=A.cell 2 rfl;have s:=B.cell 0 rfl;have t:=B.cell 1 rfl;have z:=B.cell 2 rfl;clear H I;obtain⟨F,c⟩:∃F:Int,e5 (decide (y=0))=F:=⟨_,rfl⟩;obtain⟨q,d⟩:∃q:Rat,x/y=q:=⟨_,rfl⟩;rw[c,d];clear L M O P;go_enter Tryz.func163,Tryz.ntmps163
 go_wp2_with fail
 refine(b0j (a0e X b 3) W _ y f g).mono ?_;rintro e w5 ⟨a,rfl⟩;have j:=A.ext0 a;have k:=B.ext0 a;have C:=V.ext0 a;clear o p r s t z;by_cases i:y=0
 ·have l:Hid ((5:Int)=F):=hid (by rw[<-c,decide_eq_true i];rfl)
  have E:Hid ((0:Rat)=q):=hid (by rw[<-d,i,Rat.div_def,Rat.inv_zero,Rat.mul_zero]);have hI:(y.num.sign==0)=true:=by rw[i];rfl
  generalize y.num.sign=S at*;clear i c d;go_wp2_with ((with_reducible show wpList _ _ _ (⟨_, .store _ _ _,_,_,_,_⟩::_) _ _);refine a0a a0j rfl rfl C rfl rfl (a1q _ _ _ _ _ _ _) ?_;intro w7 R J)
  exact bodyPost_ret (a0I rfl rfl a0j R rfl) rfl ⟨ExtX.box (G.trans a) J (by omega),_,by rw[<-l.out];rfl,by rw[<-E.out];exact QC.zero _⟩
 ·have l:Hid ((0:Int)=F):=hid (by rw[<-c,decide_eq_false i];rfl)
  have hI:(y.num.sign==0)=false:=by
   rw[beq_eq_false_iff_ne];intro h;exact i (Rat.num_eq_zero.1 (Int.sign_eq_zero_iff_zero.1 h))
  have Q:=hid i;have N:=hid d;generalize y.num.sign=S at*;have o:=j.cell 0 rfl;have p:=j.cell 1 rfl;have r:=j.cell 2 rfl;have s:=k.cell 0 rfl;have t:=k.cell 1 rfl;have z:=k.cell 2 rfl;clear i c d;go_wp2_with fail
  refine(b7b (a0e X b 3) w5 _ _ x y (f.ext a) (mkx QV.mono m a) (mkx QV.mono g a) Q.out).mono ?_;rintro e w6 ⟨D,u6,rfl,n⟩;obtain⟨s5,a5,n5,c5,d5,k5,e5,rfl⟩:=n.shape;rw[N.out]at n;have K:=C.ext0 D;clear o p r s t z;go_wp2_with ((with_reducible show wpList _ _ _ (⟨_, .store _ _ _,_,_,_,_⟩::_) _ _);refine a0a a0j rfl rfl K rfl rfl (a1q _ _ _ _ _ _ _) ?_;intro w7 R J)
  have h7:=QC.mono _ _ _ _ a0h (QC.mono _ _ _ _ (a0f J (by omega) (by omega)) n);exact bodyPost_ret (a0I rfl rfl a0j R rfl) rfl ⟨ExtX.box (G.trans (a.trans D)) J (by omega),_,by rw[<-l.out];rfl,h7⟩
end Go.Proofs.YtnnpfhoigmegcaaGreat
namespace Go.Lin
open Go.Lim
structure Mom where
 n:Int
 xx:Mat
 xy:List Rat
 yy:Rat
end Go.Lin
namespace Go.Rep
open Go.RowKit Go.Lim
def BlR:Mem->Value->Bool->Prop:=fun _ u b=>u= .bool b
theorem BlR.mono:a2Q BlR:=fun _ _ _ _ _ h=>h
theorem BlR.elem:Elem BlR 1:=⟨fun _ _ _ _ _ h=>h,by rintro h u x rfl;rfl,by
 rintro h u x rfl c a;simp[a0g,Value.cells]at a;subst a;rfl,Nat.one_pos⟩
theorem BlR.one:a2D BlR:=by rintro h u x rfl;rfl
theorem Sl.bl{h:Mem}{ao:Option Addr}{l:List Bool}(s:Sl BlR 1 h ao l)(i:Nat)(hi:i<l.length):h (adr ao i)=some (.bool l[i]):=by
 obtain⟨u,a,rfl⟩:=s.cell BlR.one i hi;exact a
def b5D(A:Mem->Value->List (List Rat)->Prop)(B:Mem->Value->List Rat->Prop)(C:Mem->Value->Rat->Prop)(h:Mem)(u:Value)(m:Go.Lin.Mom):Prop:=
 ∃xo xl xc yo yl yc s a n c d k e,u= .agg #[.int .i64 m.n, .slice xo xl xc, .slice yo yl yc, .bool s, .slice a n c, .slice d k e]/\A h (.slice xo xl xc) m.xx/\B h (.slice yo yl yc) m.xy/\C h (.agg #[.bool s, .slice a n c, .slice d k e]) m.yy
def b7F:=b5D MV RV QV
def b7G:=b5D MC RC QC
theorem b5D.mono{A:Mem->Value->List (List Rat)->Prop}{B:Mem->Value->List Rat->Prop}{C:Mem->Value->Rat->Prop}(j:a2Q A)(l:a2Q B)(o:a2Q C):a2Q (b5D A B C):=by
 rintro h x u m b ⟨r,q,p,w,v,t,s,a,n,c,d,k,e,rfl,f,g,i⟩;exact⟨r,q,p,w,v,t,s,a,n,c,d,k,e,rfl,j _ _ _ _ b f,l _ _ _ _ b g,o _ _ _ _ b i⟩
theorem b7F.mono:a2Q b7F:=b5D.mono MV.mono RV.mono QV.mono
theorem b7G.mono:a2Q b7G:=b5D.mono MC.mono RC.mono QC.mono
end Go.Rep
namespace Go.Lin
structure Fit where
 rank:Nat
 used:List Bool
 coef:List Rat
 res:List Rat
 rss:Rat
 lev:List Rat
end Go.Lin
namespace Go.Rep
def b7H(h:Mem)(v:Value)(f:Go.Lin.Fit):Prop:=
 ∃uo uc co cl cc ro rl rc s a n c d k e lo ll lc,v= .agg #[.int .i64 (f.rank:Int), .slice uo f.used.length uc, .slice co cl cc, .slice ro rl rc, .bool s, .slice a n c, .slice d k e, .slice lo ll lc]/\f.used.length<=uc/\Sl BlR 1 h uo f.used/\RC h (.slice co cl cc) f.coef/\RC h (.slice ro rl rc) f.res/\QC h (.agg #[.bool s, .slice a n c, .slice d k e]) f.rss/\RC h (.slice lo ll lc) f.lev
theorem b7H.mono:a2Q b7H:=by
 rintro h A u f b ⟨z,y,co,i,g,x,w,v,s,a,n,c,d,k,e,lo,t,r,rfl,j,l,m,o,p,q⟩;exact⟨z,y,co,i,g,x,w,v,s,a,n,c,d,k,e,lo,t,r,rfl,j,l.mono BlR.mono b,RC.mono _ _ _ _ b m,RC.mono _ _ _ _ b o,QC.mono _ _ _ _ b p,RC.mono _ _ _ _ b q⟩
open Go.RowKit Go.Lim
theorem b2F{X:Nat->Bool}{w w':World}{g:Nat}(b:Ext w w')(c:w.heap.size<=g):Le (mk X w) (mk (un X (some ⟨g,0,none⟩)) w'):=
 a0Z b (fun k _ a=>by simp[noY]at a) fun k a hz=>by
  by_cases hx:X k=true
  ·exact hx
  ·have:g=k:=by simpa[un,hx,ob]using hz
   omega
section
variable {P:Program} {ops:Array Oper} {Q:Exit->Act->World->Prop} {rest:List Oper} {a:Act} {w:World}
variable {d:Option Tmp} {ty:TypeId} {ps:String} {af:Array Edge}
theorem a4f{o:Oper}{K:Act->World->Prop}{E:Prop}{t:TypeId}{x y:Operand}{n b:Nat}{h d:Array Value}{T:TypeId}(p:o.guard=none)(f:o.op= .store t x y)(l:a1H P t n)(hx:a.eval x= .pointer (some ⟨b,0,none⟩))(s:a.eval y= .agg d)(m:Bx w b h T)(e:h.size=n)(g:d.size=n)(c:∀v∈d.toList,v.oneCell'=true)(k:∀w',Bx w' b d T->ExtX (ob (some ⟨b,0,none⟩)) w w'->K (a.put o.dst undef) w'):if Region.wanted o (yielded ops a.tmps)=true then Oper.wp P o a w K Q else E:=by
 have r:Region.wanted o (yielded ops a.tmps)=true:=by simp[Region.wanted,p]
 rw[if_pos r];obtain⟨w',q,i,j⟩:=a4z (P:=P) l m e g c;unfold Oper.wp execOp;rw[f];simp[hx,s,Instr.storeAt,Instr.sureAddr,q,Result.andThen];exact k w' i j
theorem a7o{t:TypeId}{x y:Operand}{b i:Nat}{e:Array Value}{v:Value}{T:TypeId}(m:TyI P t 1)(hx:a.eval x= .pointer (some ⟨b,i,none⟩))(r:a.eval y=v)(q:v.cells=#[v])(c:v.oneCell'=true)(g:Bx w b e T)(hi:i<e.size)(K:∀w',Bx w' b (e.set i v) T->ExtX (ob (some ⟨b,0,none⟩)) w w'->wpList P ops Q rest (a.put d undef) w'):wpList P ops Q (⟨d, .store t x y,ty,ps,af,none⟩::rest) a w:=by
 refine wpList_plain rfl fun s f=>?_;obtain⟨ti,p,j⟩:=m;obtain⟨k,l⟩:=a0x g v hi;have n:=g.cell i (u:=e[i]) (by simp[hi]);have o:=g.frozen i;unfold Oper.wp;subst r;have h:=run_store P w ⟨b,i,none⟩ (a.eval y) .plain c;rw[n,o]at h;simp only[Bool.false_eq_true,if_false]at h;simp[execOp,hx,Instr.storeAt,Instr.sureAddr,storeVar,sizeOf,typeInfo,p,j,q,Result.andThen,storeCells,Addr.add_zero',h];exact f _ _ (K _ k l)
theorem a5A{o:Oper}{K:Act->World->Prop}{E:Prop}{t:TypeId}{x y:Operand}{b i:Nat}{d:Array Value}{v:Value}{T:TypeId}(q:o.guard=none)(f:o.op= .store t x y)(m:TyI P t 1)(hx:a.eval x= .pointer (some ⟨b,i,none⟩))(A:a.eval y=v)(s:v.cells=#[v])(c:v.oneCell'=true)(e:Bx w b d T)(hi:i<d.size)(l:∀w',Bx w' b (d.set i v) T->ExtX (ob (some ⟨b,0,none⟩)) w w'->K (a.put o.dst undef) w'):if Region.wanted o (yielded ops a.tmps)=true then Oper.wp P o a w K Q else E:=by
 have z:Region.wanted o (yielded ops a.tmps)=true:=by simp[Region.wanted,q]
 rw[if_pos z];obtain⟨ti,r,h⟩:=m;obtain⟨j,k⟩:=a0x e v hi;have n:=e.cell i (u:=d[i]) (by simp[hi]);have p:=e.frozen i;unfold Oper.wp execOp;rw[f];subst A;have g:=run_store P w ⟨b,i,none⟩ (a.eval y) .plain c;rw[n,p]at g;simp only[Bool.false_eq_true,if_false]at g;simp[hx,Instr.storeAt,Instr.sureAddr,storeVar,sizeOf,typeInfo,r,h,s,Result.andThen,storeCells,Addr.add_zero',g];exact l _ j k
theorem a6C(X:Nat->Bool)(a b:Option Addr):un (un X a) b=un (un X b) a:=by
 funext k;simp only[un];cases X k<;>cases ob a k<;>cases ob b k<;>rfl
theorem a9N(X:Nat->Bool):un X none=X:=by funext k;simp[un,ob]
end
end Go.Rep
namespace Go.Proofs.YtnnpfhoigmegcaaGreat
open Go.RowKit Go.Rep
open Go.Lim
theorem b4X(X:Nat->Bool)(w:World)(u v:Value)(x y:Rat)(Q:HX X w)(i:QV (mk X w) u x)(j:QV (mk X w) v y):Calls Tryz.prog 94 #[u,v] w (b3s w (decide (b0g x y<0))):=by
 have T:=hid i.hq;have U:=hid j.hq;obtain⟨O,B,M,D,F,K,H,rfl⟩:=i.shape;obtain⟨P,C,N,E,G,L,I,rfl⟩:=j.shape;obtain⟨W,V,k,g,h,hz⟩:=a0W w #[.bool O, .slice B M D, .slice F K H] #[.bool P, .slice C N E, .slice G L I] 41 41;have a:HX (a0e X w.heap.size 2) W:=Q.boxes hz;have d:=QV.mono _ _ _ _ (a0i (nb:=2) k) i;have f:=QV.mono _ _ _ _ (a0i (nb:=2) k) j;obtain⟨b,R⟩:∃b,w.heap.size=b:=⟨_,rfl⟩;have S:w.heap.size<=b:=by omega
 rw[R]at g h hz a d f;have m:Ext W W.drew:=(ExtX.refl W).drew;have n:HX (a0e X b 2) W.drew:=a;have o:QV (mk (a0e X b 2) W.drew) (.agg #[.bool O, .slice B M D, .slice F K H]) x:=d;have p:QV (mk (a0e X b 2) W.drew) (.agg #[.bool P, .slice C N E, .slice G L I]) y:=f;have q:=g.cell 0 rfl;have r:=g.cell 1 rfl;have s:=g.cell 2 rfl;have t:=h.cell 0 rfl;have z:=h.cell 1 rfl;have A:=h.cell 2 rfl;clear i j;obtain⟨c,J⟩:∃c:Int,b0g x y=c:=⟨_,rfl⟩;have hq:=b1Y (a0e X b 2) W _ _ x y a d f;rw[J]at hq |-;clear m n o p J;go_enter Tryz.func94,Tryz.ntmps94
 go_wp2_with fail
 refine hq.mono ?_;rintro e Y ⟨l,rfl⟩;clear q r s t z A hq;go_wp2_with fail
 go_ret
 exact⟨k.trans l,rfl⟩
theorem b6l(X:Nat->Bool)(w:World)(u v:Value)(x y:Rat)(hX:HX X w)(l:QV (mk X w) u x)(m:QV (mk X w) v y):Calls Tryz.prog 152 #[u,v] w (a1u X w QC (x/y)):=by
 have a3:=hid l.hq;have a4:=hid m.hq;obtain⟨s1,H,n1,L,O,V,R,rfl⟩:=l.shape;obtain⟨s2,I,n2,M,P,Y,S,rfl⟩:=m.shape;obtain⟨W,hW,o,j,k,K,hz⟩:=a1F w #[.bool s1, .slice H n1 L, .slice O V R] #[.bool s2, .slice I n2 M, .slice P Y S] #[.bool false, .slice none 0 0, .slice none 0 0] 41 41 41;have a:HX (a0e X w.heap.size 3) W:=hX.boxes hz;have c:=QV.mono _ _ _ _ (a0i (nb:=3) o) l;have d:=QV.mono _ _ _ _ (a0i (nb:=3) o) m;obtain⟨b,hb⟩:∃b,w.heap.size=b:=⟨_,rfl⟩;have a0:w.heap.size<=b:=by omega
 rw[hb]at j k K hz a c d;have p:Ext W W.drew:=(ExtX.refl W).drew;have r:HX (a0e X b 3) W.drew:=a;have s:QV (mk (a0e X b 3) W.drew) (.agg #[.bool s1, .slice H n1 L, .slice O V R]) x:=c;have t:QV (mk (a0e X b 3) W.drew) (.agg #[.bool s2, .slice I n2 M, .slice P Y S]) y:=d;have z:=j.cell 0 rfl;have A:=j.cell 1 rfl;have B:=j.cell 2 rfl;have C:=k.cell 0 rfl;have D:=k.cell 1 rfl;have E:=k.cell 2 rfl;clear l m;obtain⟨T,g⟩:∃T:Int,e5 (decide (y=0))=T:=⟨_,rfl⟩;obtain⟨q,hq⟩:∃q:Rat,x/y=q:=⟨_,rfl⟩;have hd:=b6I (a0e X b 3) W _ _ x y a c d;rw[g,hq]at hd;rw[hq];clear p r s t g hq;go_enter Tryz.func152,Tryz.ntmps152
 go_wp2_with fail
 refine hd.mono ?_;rintro e F ⟨f,u5,rfl,h⟩;have i:=hid h;obtain⟨s5,J,n5,N,Q,Z,U,rfl⟩:=h.shape;have b5:=K.ext0 f;have n:Ext F (F.alloc (.cells #[.bool s5, .slice J n5 N, .slice Q Z U] 41)):=(ExtX.refl _).alloc _;have G:=Bx.new F #[.bool s5, .slice J n5 N, .slice Q Z U] 41;have p0:=G.cell 0 rfl;have p1:=G.cell 1 rfl;have p2:=G.cell 2 rfl;have b6:=b5.ext0 n;clear z A B C D E hd;go_wp2_with ((with_reducible show wpList _ _ _ (⟨_, .store 41 _ _,_,_,_,_⟩::_) _ _);refine a0a a0j rfl rfl b6 rfl rfl (a1q _ _ _ _ _ _ _) ?_;intro w7 r1 r2)
 have h7:=QC.mono _ _ _ _ a0h (QC.mono _ _ _ _ (a0f r2 (by omega) (by omega)) (mkx QC.mono i.out n));exact bodyPost_ret (a0d rfl rfl a0j r1 rfl) rfl ⟨ExtX.box (o.trans (f.trans n)) r2 (by omega),_,rfl,h7⟩
theorem b2G(X:Nat->Bool)(w:World)(u v:Value)(x y:Rat)(hX:HX X w)(l:QV (mk X w) u x)(m:QV (mk X w) v y):Calls Tryz.prog 78 #[u,v] w (a1u X w QC (x/y)):=by
 have a3:=hid l.hq;have a4:=hid m.hq;obtain⟨s1,H,n1,L,O,V,R,rfl⟩:=l.shape;obtain⟨s2,I,n2,M,P,Y,S,rfl⟩:=m.shape;obtain⟨W,hW,o,j,k,K,hz⟩:=a1F w #[.bool s1, .slice H n1 L, .slice O V R] #[.bool s2, .slice I n2 M, .slice P Y S] #[.bool false, .slice none 0 0, .slice none 0 0] 41 41 41;have a:HX (a0e X w.heap.size 3) W:=hX.boxes hz;have c:=QV.mono _ _ _ _ (a0i (nb:=3) o) l;have d:=QV.mono _ _ _ _ (a0i (nb:=3) o) m;obtain⟨b,hb⟩:∃b,w.heap.size=b:=⟨_,rfl⟩;have a0:w.heap.size<=b:=by omega
 rw[hb]at j k K hz a c d;have p:Ext W W.drew:=(ExtX.refl W).drew;have r:HX (a0e X b 3) W.drew:=a;have s:QV (mk (a0e X b 3) W.drew) (.agg #[.bool s1, .slice H n1 L, .slice O V R]) x:=c;have t:QV (mk (a0e X b 3) W.drew) (.agg #[.bool s2, .slice I n2 M, .slice P Y S]) y:=d;have z:=j.cell 0 rfl;have A:=j.cell 1 rfl;have B:=j.cell 2 rfl;have C:=k.cell 0 rfl;have D:=k.cell 1 rfl;have E:=k.cell 2 rfl;clear l m;obtain⟨T,g⟩:∃T:Int,e5 (decide (y=0))=T:=⟨_,rfl⟩;obtain⟨q,hq⟩:∃q:Rat,x/y=q:=⟨_,rfl⟩;have hd:=b7m (a0e X b 3) W _ _ x y a c d;rw[g,hq]at hd;rw[hq];clear p r s t g hq;go_enter Tryz.func78,Tryz.ntmps78
 go_wp2_with fail
 refine hd.mono ?_;rintro e F ⟨f,u5,rfl,h⟩;have i:=hid h;obtain⟨s5,J,n5,N,Q,Z,U,rfl⟩:=h.shape;have b5:=K.ext0 f;have n:Ext F (F.alloc (.cells #[.bool s5, .slice J n5 N, .slice Q Z U] 41)):=(ExtX.refl _).alloc _;have G:=Bx.new F #[.bool s5, .slice J n5 N, .slice Q Z U] 41;have p0:=G.cell 0 rfl;have p1:=G.cell 1 rfl;have p2:=G.cell 2 rfl;have b6:=b5.ext0 n;clear z A B C D E hd;go_wp2_with ((with_reducible show wpList _ _ _ (⟨_, .store 41 _ _,_,_,_,_⟩::_) _ _);refine a0a a0j rfl rfl b6 rfl rfl (a1q _ _ _ _ _ _ _) ?_;intro w7 r1 r2)
 have h7:=QC.mono _ _ _ _ a0h (QC.mono _ _ _ _ (a0f r2 (by omega) (by omega)) (mkx QC.mono i.out n));exact bodyPost_ret (a0d rfl rfl a0j r1 rfl) rfl ⟨ExtX.box (o.trans (f.trans n)) r2 (by omega),_,rfl,h7⟩
open Go.Lin Go.Sort Go.Lib Go.Extern
def ltQ(x y:Rat):Bool:=decide (b0g x y<0)
theorem a2l{x y:Rat}:ltQ x y=true↔x<y:=by
 unfold ltQ b0g;simp only[decide_eq_true_eq];split
 ·rename_i h;simp[h]
 ·rename_i h
  constructor
  ·intro a;split at a<;>omega
  ·intro a;exact absurd a h
theorem a3n{x y:Rat}:ltQ x y=false↔y<=x:=by
 rw[<-Rat.not_lt,<-a2l];simp
theorem b4Y:SWO ltQ:=
 ⟨fun x=>a3n.2 Rat.le_refl,fun x y z a b=>a2l.2 (by have:=a2l.1 a;have:=a2l.1 b;grind),fun x y z a b=>a3n.2 (Rat.le_trans (a3n.1 b) (a3n.1 a))⟩
structure Sorting (X:Nat->Bool) (base:Nat) (ao:Option Addr) (cap n b:Nat) (d:Array Rat) (w:World):Prop where
 own:OL QC 3 X base 41 w ao cap d.toList
 size:d.size=n
 var:w.cell? ⟨b,0,none⟩=some (.slice ao n cap)
 off:ob ao b=false
 hid:HX X w
 br:BR 68719476736 d.toList
theorem Sorting.ext{X:Nat->Bool}{base:Nat}{ao:Option Addr}{cap n b:Nat}{d:Array Rat}{w w':World}(h:Sorting X base ao cap n b d w)(a:Ext w w'):Sorting X base ao cap n b d w':=
 ⟨h.own.ext0 QC.elem a,h.size,a.cell h.var,h.off,h.hid.ext a,h.br⟩
noncomputable def b0O:TypeInfo:=(Tryz.prog.info? 26).get (by kernel_rfl)
noncomputable def a5B:TypeInfo:=(Tryz.prog.info? 41).get (by kernel_rfl)
theorem swK(n:Nat):swapperK n a5B 25=if n=0 then 1 else if n=1 then 2 else 9:=by
 have a:a5B.hasPointers=true:=by kernel_rfl
 have b:(a5B.bytes==8)=false:=by kernel_rfl
 unfold swapperK;by_cases c:n=0
 ·simp[c]
 ·by_cases d:n=1
  ·simp[d]
  ·simp[c,d,a,b]
end Go.Proofs.YtnnpfhoigmegcaaGreat
namespace Go.Rep
open Go.RowKit Go.Lim
abbrev b3F(X:Nat->Bool)(fb:Nat):Nat->Bool:=un X (some ⟨fb,0,none⟩)
abbrev b6K(X:Nat->Bool)(fb:Nat)(po oo:Option Addr):Nat->Bool:=un (un (b3F X fb) po) oo
structure RS (X:Nat->Bool) (w0:World) (b fb base:Nat) (T1 T2 T3:TypeId) (w:World) (oo:Option Addr) (co:Nat) (po:Option Addr) (pc:Nat) (M:List (List Rat)) (p:List Nat) (f:Rat):Prop where
 rows:OL RC 1 (un (b3F X fb) po) base T1 w oo co M
 piv:OL (a0c .i64) 1 (un (b3F X fb) oo) base T3 w po pc p
 fac:∃s a n c d k e,Bx w fb #[.bool s, .slice a n c, .slice d k e] T2/\QC (mk (b6K X fb po oo) w) (.agg #[.bool s, .slice a n c, .slice d k e]) f
 hx:HX X w
 res:Bx w b #[.bool false, .slice none 0 0, .slice none 0 0] T2
 rb:X b=true
 fb0:fb≠b
 ext:Ext w0 w
 low:w0.heap.size<=base
 lowf:w0.heap.size<=fb
section
variable {X:Nat->Bool} {w0 w w':World} {b fb base:Nat} {T1 T2 T3:TypeId} {oo po:Option Addr} {co pc:Nat} {M M':List (List Rat)} {p:List Nat} {f f':Rat}
theorem RS.pF(h:RS X w0 b fb base T1 T2 T3 w oo co po pc M p f):ob po fb=false:=by
 cases a:ob po fb
 ·rfl
 ·have:=h.piv.1 fb a;rw[a0v (a0A (b0a fb))]at this;simp at this
theorem RS.pB(h:RS X w0 b fb base T1 T2 T3 w oo co po pc M p f):ob po b=false:=by
 cases a:ob po b
 ·rfl
 ·have:=h.piv.1 b a;rw[a0v (a0v h.rb)]at this;simp at this
theorem RS.flt(h:RS X w0 b fb base T1 T2 T3 w oo co po pc M p f):fb<w.heap.size:=by
 obtain⟨_,_,_,_,_,_,_,a,_⟩:=h.fac;exact a.lt
theorem RS.hz(h:RS X w0 b fb base T1 T2 T3 w oo co po pc M p f):HX (b6K X fb po oo) w:=fun k l=>by
 by_cases e:ob oo k=true
 ·exact(h.rows.block e).2
 ·by_cases g:ob po k=true
  ·exact(h.piv.block g).2
  ·by_cases i:X k=true
   ·exact h.hx k i
   ·have a:ob oo k=false:=by simpa using e
    have c:ob po k=false:=by simpa using g
    have d:X k=false:=by simpa using i
    have j:ob (some ⟨fb,0,none⟩) k=true:=by simpa[b6K,b3F,un,a,c,d]using l
    have:fb=k:=by simpa[ob]using j
    rw[<-this];exact h.flt
theorem RS.row(h:RS X w0 b fb base T1 T2 T3 w oo co po pc M p f)(i:Nat)(hi:i<M.length):∃a c,w.cell? (adr oo i)=some (.slice a M[i].length c)/\w.frozen? (adr oo i)=false/\M[i].length<=c/\Sl QC 3 (_root_.Go.Rep.mk (b6K X fb po oo) w) a M[i]:=by
 obtain⟨u,d,e,a,c,rfl,g,j⟩:=h.rows.cell SlV.one i hi;exact⟨a,c,d,e,g,j⟩
theorem RS.ext0(h:RS X w0 b fb base T1 T2 T3 w oo co po pc M p f)(g:Ext w w'):RS X w0 b fb base T1 T2 T3 w' oo co po pc M p f:=by
 obtain⟨s,a,n,c,d,k,e,i,j⟩:=h.fac;exact⟨h.rows.ext0 RC.elem g,h.piv.ext0 (a0c.elem _) g,⟨s,a,n,c,d,k,e,i.ext0 g,mkx QC.mono j g⟩,h.hx.ext g,h.res.ext0 g,h.rb,h.fb0,h.ext.trans g,h.low,h.lowf⟩
theorem RS.push(h:RS X w0 b fb base T1 T2 T3 w oo co po pc M p f){i:Option Addr}{q j:Nat}(m:ExtX (ob po) w w')(y:OL (a0c .i64) 1 (un (b3F X fb) oo) base T3 w' i q (p++[j]))(r:i=po\/∃g,i=some ⟨g,0,none⟩/\w.heap.size<=g):RS X w0 b fb base T1 T2 T3 w' oo co i q M (p++[j]) f:=by
 obtain⟨s,a,n,c,d,k,e,v,x⟩:=h.fac;have o:∀k,k<w.heap.size->ob i k=true->ob po k=true:=fun k l t=>by
  rcases r with rfl|⟨g,rfl,z⟩
  ·exact t
  ·have:g=k:=by simpa[ob]using t
   omega
 have hF:∀k,k<w.heap.size->un (b3F X fb) i k=true->un (b3F X fb) po k=true:=fun k l hz=>by
  by_cases hx:b3F X fb k=true
  ·exact a0v hx
  ·exact a0A (o k l (by simpa[un,hx]using hz))
 refine⟨h.rows.ext RC.elem m (fun k _ l=>a0A l) hF,y,⟨s,a,n,c,d,k,e,v.ext m h.pF,QC.mono _ _ _ _ (a0Z m (fun k _ l=>a0v (a0A l)) fun k l hz=>?_) x⟩,h.hx.ext m,h.res.ext m h.pB,h.rb,h.fb0,h.ext.own h.piv h.low m,h.low,h.lowf⟩;by_cases u:ob oo k=true
 ·exact a0A u
 ·exact a0v (hF k l (by simpa[un,u]using hz))
end
end Go.Rep
namespace Go.Lin
open Go.Lim
def b4Z(m:Mat)(c:Nat):Prop:=∃B,6*B<=68719476736/\∀j,j<=c->HB B (rN m j).1/\hq (rN m j).2.2<=B
end Go.Lin
namespace Go.Rep
open Go.RowKit
section
variable {P:Program} {w:World}
end
end Go.Rep
namespace Go.Lin
open Go.Lim Go.Rep
theorem b6m{n B:Nat}{f:Nat->Rat}(h:∀i,i<n->hq (f i)<=B):hq (sm n f)<=1+n*(B+1):=by
 induction n with
 |zero=>unfold sm;rw[a1J];omega
 |succ n ih=>
  unfold sm;have h1:=ih fun i hi=>h i (by omega);have h2:=a9W (sm n f) (f n);have h3:=h n (by omega);have e:(n+1)*(B+1)=n*(B+1)+(B+1):=Nat.succ_mul _ _;omega
end Go.Lin
namespace Go.Proofs.YtnnpfhoigmegcaaGreat
open Go.RowKit Go.Rep Go.Lim Go.Lin
theorem b2H(X:Nat->Bool)(w:World)(u:Value)(l:List Rat)(hX:HX X w)(hu:RV (mk X w) u l)(hn:l.length<=1000000)(r:∀k,k<=l.length->hq (sm k (fn l))<=68719476736):Calls Tryz.prog 188 #[u] w (a1u X w QC (sm l.length (fn l))):=by
 obtain⟨ao,ca,rfl,Z,J⟩:=hu;have a0:=J.hd;obtain⟨W,hW,hE,A,o,hz⟩:=a0W w #[.bool false, .slice none 0 0, .slice none 0 0] #[.bool false, .slice none 0 0, .slice none 0 0] 41 41;have E:HX (a0e X w.heap.size 2) W:=hX.boxes hz;have h0:QC (mk (a0e X w.heap.size 2) W) (.agg #[.bool false, .slice none 0 0, .slice none 0 0]) (sm 0 (fn l)):=QC.zero _;obtain⟨n,t⟩:∃n,l.length=n:=⟨_,rfl⟩;rw[t]at hn r Z a0 |-;have f:=hid t;have G:=hid r;clear t r;go_enter Tryz.func188,Tryz.ntmps188
 go_wp2_with fail
 obtain⟨b,hb⟩:∃b,w.heap.size=b:=⟨_,rfl⟩;have a2:Hid (∀wr,Ext w wr->Le (mk X w) (mk (a0e X b 2) wr)):=hid fun wr h=>by rw[<-hb];exact a0i h
 have b5:w.heap.size<=b:=by omega
 rw[hb]at A o E h0 |-;clear hW;go_loopw [8] (fun k wr=>∃(i:Nat) (s:Bool) (a:Option Addr) (O B:Nat) (d:Option Addr) (N e:Nat),k= .int .i64 i/\i<=n/\Bx wr b #[.bool false, .slice none 0 0, .slice none 0 0] 41/\Bx wr (b+1) #[.bool s, .slice a O B, .slice d N e] 41/\QC (mk (a0e X b 2) wr) (.agg #[.bool s, .slice a O B, .slice d N e]) (sm i (fn l))/\HX (a0e X b 2) wr/\Ext w wr) (fun k _=>n - (intOf k).toNat)
 case atStart=>exact⟨0,_,_,_,_,_,_,_,rfl,Nat.zero_le _,A,o,h0,E,hE⟩
 case round=>
  obtain⟨i,s,a,O,B,d,N,e,rfl,hi,A,o,hq,Y,q⟩:=hrel;by_cases a3:i<n
  ·have I:i<l.length:=by rw[f.out];exact a3
   have a6:=J.mono QV.mono (a2.out wr q);have gl:Hid (fn l i=l[i]):=hid (by simp[fn,List.getD_eq_getElem?_getD,I]);have m:Hid (sm i (fn l)+l[i]=sm (i+1) (fn l)):=hid (by rw[<-gl.out];rfl);have H:=hid (G.out i hi);obtain⟨x,hx⟩:∃x,l[i]=x:=⟨_,rfl⟩;rw[hx]at m;have a8:=hid hx;have bx:=Bx.new wr #[.bool false, .slice none 0 0, .slice none 0 0] 41;obtain⟨D,hD⟩:∃D,sm i (fn l)=D:=⟨_,rfl⟩;obtain⟨D2,p⟩:∃D2,sm (i+1) (fn l)=D2:=⟨_,rfl⟩;rw[hD]at hq m H;rw[p]at m;have C:=hid p;clear hx hD p;go_wp2_with (first|(with_reducible refine a1E a1b (by omega) (by assumption) ?_)|((with_reducible show wpList _ _ _ (⟨_, .load 41 _,_,_,_,_⟩::_) _ _);refine a1g a0j i a6 I rfl (by simp) QV.agg ?_;intro u5 v;rw[a8.out]at v;obtain⟨s5,a5,n5,c5,d5,k5,e5,rfl⟩:=v.shape)|((with_reducible show wpList _ _ _ (⟨_, .store _ _ _,_,_,_,_⟩::_) _ _);refine a0a a0j rfl rfl bx rfl rfl (a1q _ _ _ _ _ _ _) ?_;intro g z P;have c:Ext wr g:=ExtX.box ((ExtX.refl wr).alloc _) P (Nat.le_refl _);have j:=o.ext0 c;have K:g.cell? ⟨b+1,0,none⟩=some (.bool s):=j.cell 0 rfl;have L:g.cell? ⟨b+1,1,none⟩=some (.slice a O B):=j.cell 1 rfl;have M:g.cell? ⟨b+1,2,none⟩=some (.slice d N e):=j.cell 2 rfl;have b2:g.cell? ⟨wr.heap.size,0,none⟩=some (.bool s5):=z.cell 0 rfl;have b3:g.cell? ⟨wr.heap.size,1,none⟩=some (.slice a5 n5 c5):=z.cell 1 rfl;have b4:g.cell? ⟨wr.heap.size,2,none⟩=some (.slice d5 k5 e5):=z.cell 2 rfl;have F:=Y.ext c;have a9:QV (mk (a0e X b 2) g) (.agg #[.bool s5, .slice a5 n5 c5, .slice d5 k5 e5]) x:=mkx QV.mono v c;have a4:QV (mk (a0e X b 2) g) (.agg #[.bool s, .slice a O B, .slice d N e]) D:=(mkx QC.mono hq c).qv H.out;clear bx z)|(go_at_call 182;(with_reducible refine(b5B (a0e X b 2) g _ _ _ _ F a4 a9).mono ?_);rintro ee w7 ⟨Q,u7,rfl,y⟩;obtain⟨s7,a7,n7,c7,d7,k7,e7,rfl⟩:=y.shape;rw[m.out]at y;have T:=j.ext0 Q;clear K L M b2 b3 b4)|((with_reducible show wpList _ _ _ (⟨_, .store _ _ _,_,_,_,_⟩::_) _ _);refine a0a a0j rfl rfl T rfl rfl (a1q _ _ _ _ _ _ _) ?_;intro w8 z1 R))
   have h8:=QC.mono _ _ _ _ (a0f (lo:=b) (nb:=2) R (by omega) (by omega)) y;have S:=((A.ext0 c).ext0 Q).ext R (a0b (by omega));have U:Ext w _:=ExtX.box (q.trans (c.trans Q)) R (by omega);have V:=(F.ext Q).ext R;rw[<-C.out]at h8;go_roundw
   case rel=>exact⟨i+1,_,_,_,_,_,_,_,by go_num,by omega,S,z1,h8,V,U⟩
   case measure=>simp[intOf];omega
  ·have a1:i=n:=by omega
   subst a1;rw[<-f.out]at hq;have K:=o.cell 0 rfl;have L:=o.cell 1 rfl;have M:=o.cell 2 rfl;go_wp2_with ((with_reducible show wpList _ _ _ (⟨_, .store _ _ _,_,_,_,_⟩::_) _ _);refine a0a a0j rfl rfl A rfl rfl (a1q _ _ _ _ _ _ _) ?_;intro w7 z P)
   have h7:=QC.mono _ _ _ _ a0h (QC.mono _ _ _ _ (a0f P (by omega) (by omega)) hq);rw[f.out]at h7;exact bodyPost_ret (a0d rfl rfl a0j z rfl) rfl ⟨ExtX.box q P (by omega),_,rfl,h7⟩
end Go.Proofs.YtnnpfhoigmegcaaGreat
namespace Go.Rep
open Go.RowKit Go.Lim
section
variable {P:Program} {ops:Array Oper} {Q:Exit->Act->World->Prop} {a:Act} {w:World}
variable {α:Type} {R:Mem->Value->α->Prop} {sz:Nat} {X:Nat->Bool} {base:Nat} {e:TypeId} {ao:Option Addr} {cap:Nat} {l:List α}
theorem a5C{o:Oper}{K:Act->World->Prop}{E:Prop}{t j:Nat}{z:Value}{s x:Operand}{q:Option Addr}{A:Nat}(H:o.guard=none)(v:o.op=Op.call {callee:=Callee.builtin Builtin.append,args:=#[s,x],argTypes:=#[t,t]})(T:SliceT P t e sz j z)(y:z.cells.size=sz)(B:Elem R sz)(d:base<=w.heap.size)(G:∀k,X k=true->k<w.heap.size)(i:List α)(n m:Nat)(J:l.length=n)(I:i.length=m)(M:a.eval s= .slice ao n cap)(hx:a.eval x= .slice q m A)(h:OL R sz X base e w ao cap l)(hxs:Sl R sz (mk (un X ao) w) q i)(f:(n+m)*j<=140737488355328)(p:n+m<=9223372036854775807)(F:∀c b w',OL R sz X base e w' c b (l++i)->ExtX (ob ao) w w'->(c=ao\/∃g,c=some ⟨g,0,none⟩/\w.heap.size<=g)->K (a.put o.dst (.slice c (n+m) b)) w'):if Region.wanted o (yielded ops a.tmps)=true then Oper.wp P o a w K Q else E:=by
 have N:Region.wanted o (yielded ops a.tmps)=true:=by simp[Region.wanted,H]
 rw[if_pos N];subst J I;obtain⟨us,C,r,u⟩:=hxs.at_ B;obtain⟨c,b,w',L,r,u,D⟩:=h.run_append (P:=P) T y B d G q A us i r C u f p o.type;unfold Oper.wp execOp;rw[v];simp only[resolve,invoke,builtin,Sem.run_bind,Sem.run_pure,Result.andThen_ok,List.map_toArray,List.map_cons,List.map_nil,M,hx];rw[L];have:=F c b w' r u D;rw[show(l++i).length=l.length+i.length from by simp];exact this
end
end Go.Rep
namespace Go.Rep
open Go.RowKit Go.Lim
theorem b6n{α:Type}{R:Mem->Value->α->Prop}{sz:Nat}{Y:Nat->Bool}{w:World}{g:Nat}{u:Value}{T:TypeId}{y:α}(b:Bx w g u.cells T)(a:Y g=false)(f:R (mk Y w) u y)(e:u.cells.size=sz):Sl R sz (mk Y w) (some ⟨g,0,none⟩) [y]:=
 ⟨fun _=>⟨g,0,rfl⟩,fun i hi=>by
  have:i=0:=by simpa using hi
  subst this;refine⟨u,e,fun j d=>?_,f⟩;have c:=b.cell j (Array.getElem?_eq_getElem d);simp only[adr,Option.getD_some,Nat.zero_mul,Nat.zero_add];simp[mk,a,c]⟩
end Go.Rep
namespace Go.Lin
open Go.Lim Go.Rep
theorem b2I(s:List Rat)(a b:Nat):a5h s a b=(s.take b).drop a:=by unfold a5h;rw[List.drop_take]
theorem b5a{l:List Rat}{x:Rat}:x∈srt l↔x∈l:=(a1l l).mem_iff
theorem b3G{B:Nat}{l:List Rat}(h:BR B l):BR B (srt l):=fun x hx=>h x (b5a.1 hx)
theorem b0P{B:Nat}{s:List Rat}(h:BR B s)(a b:Nat):BR B (a5h s a b):=fun x hx=>h x (List.mem_of_mem_drop (List.mem_of_mem_take hx))
theorem a4s{B n:Nat}{l:List Rat}(h:BR B l)(d:l.length<=n):∀k,k<=l.length->hq (sm k (fn l))<=1+n*(B+1):=fun k c=>by
 have:=b6m (n:=k) (B:=B) (f:=fn l) fun i hi=>by
  have a:i<l.length:=by omega
  rw[show fn l i=l[i]by simp[fn,List.getD_eq_getElem?_getD,a]];exact h _ (List.getElem_mem a)
 have b:k*(B+1)<=n*(B+1):=Nat.mul_le_mul_right _ (by omega);omega
end Go.Lin
namespace Go.Proofs.YtnnpfhoigmegcaaGreat
open Go.RowKit Go.Rep Go.Lim Go.Lin
theorem a6D:a1H Tryz.prog 53 2:=by
 have h:(Tryz.prog.info? 53).map (fun i=>(i.zero,i.size,i.bytes))=some (some (.agg #[.int .i64 0, .int .i64 0]),2,16):=by kernel_rfl
 obtain⟨ti,a,_,b,_⟩:=info_parts h;exact⟨_,ti,Tryz.underlying53,a,b⟩
end Go.Proofs.YtnnpfhoigmegcaaGreat
namespace Go.Lin
open Go.Lim
end Go.Lin
namespace Go
open Go.Rep
structure AS where
 op:Nat
 slot:Nat
 T:TypeId
 z:Array Value
def ptr(g:Nat):Value:= .pointer (some ⟨g,0,none⟩)
def a3o(B:Act):List AS->(Nat->Value)->Act
 | [],_=>B
 |a::bs,ps=>a3o (B.put (some a.slot) (ps 0)) bs fun i=>ps (i+1)
theorem b2J{a:Act}{i j:Nat}(h:i≠j)(v u:Value):(a.put (some i) v).put (some j) u=(a.put (some j) u).put (some i) v:=by
 simp only[Act.put];rw[Array.setIfInBounds_comm _ _ h]
theorem b5b{a:Act}{i:Nat}(v u:Value):(a.put (some i) v).put (some i) u=a.put (some i) u:=by
 simp only[Act.put,Array.setIfInBounds_setIfInBounds]
theorem a6E{s:Nat}{v:Value}:∀{bs:List AS} {B:Act} {ps:Nat->Value},(∀a∈bs,a.slot≠s)->(a3o B bs ps).put (some s) v=a3o (B.put (some s) v) bs ps
 | [],_,_,_=>rfl
 |a::bs,B,ps,h=>by
  show(a3o (B.put (some a.slot) (ps 0)) bs fun i=>ps (i+1)).put (some s) v=a3o ((B.put (some s) v).put (some a.slot) (ps 0)) bs fun i=>ps (i+1)
  rw[a6E fun b hb=>h b (List.mem_cons_of_mem _ hb),b2J (h a List.mem_cons_self)]
theorem a8K{u:Value}:∀{bs:List AS} {B:Act} {ps:Nat->Value} {k:Nat} {a:AS},bs.Pairwise (fun(a b:AS)=>a.slot≠b.slot)->bs[k]? =some a->(a3o B bs ps).put (some a.slot) u=a3o B bs fun i=>if i=k then u else ps i
 | [],_,_,_,_,_,h=>by simp at h
 |b::bs,B,ps,0,a,hp,h=>by
  simp at h;subst h;rw[List.pairwise_cons]at hp
  show(a3o (B.put (some b.slot) (ps 0)) bs fun i=>ps (i+1)).put (some b.slot) u=a3o (B.put (some b.slot) u) bs fun i=>ps (i+1)
  rw[a6E fun c hc=>(hp.1 c hc).symm,b5b]
 |b::bs,B,ps,k+1,a,hp,h=>by
  rw[List.pairwise_cons]at hp
  show(a3o (B.put (some b.slot) (ps 0)) bs fun i=>ps (i+1)).put (some a.slot) u=a3o (B.put (some b.slot) (ps 0)) bs fun i=>if i+1=k+1 then u else ps (i+1)
  rw[a8K hp.2 (by simpa using h)]
  congr 1
  funext i
  by_cases hi:i=k<;>simp[hi]
theorem upx{α:Type}{R:Mem->Value->α->Prop}(b:a2Q R){h a:Mem}{u:Value}{x:α}(c:Le h a)(d:R h u x):R a u x:=b _ _ _ _ c d
def Up(Φ:Mem->Prop):Prop:=∀h h',Le h h'->Φ h->Φ h'
section
variable (P:Program) (md:Region.Mode) (ops:Array Oper) (Q:Exit->Act->World->Prop) (S:World->Prop) (n fe:Nat) (le:Array Bool) (bs:List AS) (Z:Nat->Bool) (W0:World)
def ChG:List Nat->Act->(Mem->Prop)->Prop
 | [],B,Φ=>∀M w (gs:Nat->Nat),HX M w->(∀k,Z k=true->M k=true)->Ext W0 w->Φ (mk M w)->S w->(∀(i:Nat) (a:AS),bs[i]? =some a->Bx w (gs i) a.z a.T/\M (gs i)=true/\W0.heap.size<=gs i)->(∀i j,i<j->j<bs.length->gs i≠gs j)->
   a0X P md ops Q S n fe le (a3o B bs fun i=>ptr (gs i)) w
 |c::cs,B,Φ=>Up Φ->∀M w ps,HX M w->(∀k,Z k=true->M k=true)->Ext W0 w->Φ (mk M w)->S w->
   wpOp P ops Q c (fun a' w'=>∃(s:Nat) (v:Value) (Ψ:Mem->Prop),(∀a∈bs,a.slot≠s)/\Ext w w'/\Up Ψ/\Ψ (mk M w')/\a'=(a3o B bs ps).put (some s) v/\ChG cs (B.put (some s) v) Ψ) (a3o B bs ps) w
end
def okC(md:Region.Mode)(ops:Array Oper)(le:Array Bool):Nat->Array Bool->List Nat->List Nat->Bool
 |0,l,cs,rem=>cs.isEmpty&&rem.isEmpty&&decide (l=le)
 |f+1,l,cs,rem=> !(Region.ready md ops l).isEmpty&&(Region.ready md ops l).all fun i=>
   (match cs with|c::cs'=>decide (i=c)&&okC md ops le f (l.setIfInBounds i true) cs' rem| []=>false)||(rem.contains i&&okC md ops le f (l.setIfInBounds i true) cs (rem.erase i))
section
variable {P:Program} {md:Region.Mode} {ops:Array Oper} {Q:Exit->Act->World->Prop} {S:World->Prop} {n fe:Nat} {le:Array Bool} {bs:List AS} {Z:Nat->Bool} {W0:World}
theorem a5j{c:Nat}{j:List Nat}{B:Act}{Φ:Mem->Prop}{s:Nat}{f:Op}{ty:TypeId}{i:String}{af:Array Edge}{g:Option (Nat×Bool)}(h:∀M w ps,HX M w->(∀k,Z k=true->M k=true)->Ext W0 w->Φ (mk M w)->S w->∀K:Act->World->Prop,Shut (∀{α:Type} (R:Mem->Value->α->Prop) (v:Value) (x:α) d w',a2Q R->Ext w w'->R (mk M w') v x->d=(a3o B bs ps).put (some s) v->
   ChG P md ops Q S n fe le bs Z W0 j (B.put (some s) v) (fun h=>Φ h/\R h v x)->K d w')->
   if Region.wanted ⟨some s,f,ty,i,af,g⟩ (yielded ops (a3o B bs ps).tmps)=true then Oper.wp P ⟨some s,f,ty,i,af,g⟩ (a3o B bs ps) w K Q else K ((a3o B bs ps).put (some s) undef) w)
  (D:ops[c]? =some ⟨some s,f,ty,i,af,g⟩:=by rfl) (F:(bs.all fun a=>a.slot !=s)=true:=by decide):ChG P md ops Q S n fe le bs Z W0 (c::j) B Φ:=fun l M w ps z A r p y=>by
 refine wpOp_step D fun q t=>h M w ps z A r p y q fun{α} R v x d w' u b E e C=>t d w' ⟨s,v,fun h=>Φ h/\R h v x,fun a e=>?_,b,fun h G o m=>⟨l _ _ o m.1,u _ _ _ _ o m.2⟩,⟨l _ _ (a0k b) p,E⟩,e,C⟩;have:=List.all_eq_true.1 F a e;simpa using this
theorem a9x(hS:∀w w',S w->Ext w w'->S w')(hp:bs.Pairwise fun(a b:AS)=>a.slot≠b.slot)(hA:∀(i:Nat) (a:AS),bs[i]? =some a->∀(K:Act->World->Prop) b w,K (b.put (some a.slot) (ptr w.heap.size)) (w.alloc (.cells a.z a.T))->wpOp P ops Q a.op K b w):∀(f:Nat) (l:Array Bool) (cs rem:List Nat) (B:Act) (Φ:Mem->Prop) (M:Nat->Bool) (w:World) (ps:Nat->Value) (gs:Nat->Nat),okC md ops le f l cs rem=true->rem.Nodup->Up Φ->HX M w->(∀k,Z k=true->M k=true)->Ext W0 w->Φ (mk M w)->S w-> (∀(i:Nat) (a:AS),bs[i]? =some a->(a.op∈rem\/(ps i=ptr (gs i)/\Bx w (gs i) a.z a.T/\M (gs i)=true/\W0.heap.size<=gs i)))-> (∀(i j:Nat) (a b:AS),bs[i]? =some a->bs[j]? =some b->i<j->a.op∉rem->b.op∉rem->gs i≠gs j)-> (∀o∈rem,∃(i:Nat) (a:AS),bs[i]? =some a/\a.op=o)->(∀(i j:Nat) (a b:AS),bs[i]? =some a->bs[j]? =some b->a.op=b.op->i=j)-> ChG P md ops Q S n fe le bs Z W0 cs B Φ->a0X P md ops Q S n (f+fe) l (a3o B bs ps) w:=by
 intro f
 induction f with
 |zero=>
  intro l cs rem B Φ M w ps gs hok _ _ hX hZ hE hΦ hSw hd hne _ _ hg;unfold okC at hok;simp only[Bool.and_eq_true,List.isEmpty_iff,decide_eq_true_eq]at hok;obtain⟨⟨rfl,rfl⟩,rfl⟩:=hok;have key:∀(i:Nat) (a:AS),bs[i]? =some a->ps i=ptr (gs i)/\Bx w (gs i) a.z a.T/\M (gs i)=true/\W0.heap.size<=gs i:=fun i a ha=>by
   rcases hd i a ha with h|h
   ·simp at h
   ·exact h
  have e:a3o B bs ps=a3o B bs fun i=>ptr (gs i):=by
   have aux:∀(xs:List AS) (B:Act) (ps qs:Nat->Value),(∀i,i<xs.length->ps i=qs i)->a3o B xs ps=a3o B xs qs:=by
    intro xs
    induction xs with
    |nil=>intro _ _ _ _;rfl
    |cons a xs ih=>
     intro B ps qs h
     show a3o (B.put (some a.slot) (ps 0)) xs _=a3o (B.put (some a.slot) (qs 0)) xs _
     rw[h 0 (by simp),ih _ _ _ fun i hi=>h (i+1) (by simpa using hi)]
   exact aux bs B ps _ fun i hi=>(key i bs[i] (List.getElem?_eq_getElem hi)).1
  rw[e,Nat.zero_add];exact hg M w gs hX hZ hE hΦ hSw (fun i a ha=>(key i a ha).2) fun i j hij hj=>hne i j bs[i] bs[j] (List.getElem?_eq_getElem (by omega)) (List.getElem?_eq_getElem hj) hij (by simp) (by simp)
 |succ f ih=>
  intro l cs rem B Φ M w ps gs hok hnd hU hX hZ hE hΦ hSw hd hne hr hu hg;unfold okC at hok;simp only[Bool.and_eq_true,Bool.not_eq_true',List.all_eq_true,Bool.or_eq_true]at hok;obtain⟨hne0,hall⟩:=hok;rw[Nat.add_right_comm];refine⟨fun h0=>(by rw[h0]at hne0;cases hne0),fun i hi=>?_⟩;rcases hall i hi with h1|h1
  ·cases cs with
   |nil=>cases h1
   |cons c cs=>
    simp only[Bool.and_eq_true,decide_eq_true_eq]at h1;obtain⟨rfl,hok'⟩:=h1;refine wpOp_mono ?_ (hg hU M w ps hX hZ hE hΦ hSw);rintro a' w' ⟨s,v,Ψ,hs,hE',hUp,hΨ,rfl,hg'⟩;have hS':=hS _ _ hSw hE';refine⟨fun _=>hS',?_⟩;rw[a6E hs];exact ih _ cs rem _ Ψ M w' ps gs hok' hnd hUp (hX.ext hE') hZ (hE.trans hE') hΨ hS' (fun j a ha=>(hd j a ha).imp id fun h=>⟨h.1,h.2.1.ext0 hE',h.2.2⟩) hne hr hu hg'
  ·simp only[List.contains_iff_mem]at h1
   obtain⟨hmem,hok'⟩:=h1;obtain⟨k,a,hka,rfl⟩:=hr i hmem;refine hA k a hka _ _ _ ⟨fun _=>hS _ _ hSw ((ExtX.refl w).alloc _),?_⟩;have hEa:Ext w (w.alloc (.cells a.z a.T)):=(ExtX.refl w).alloc _;have hbx:=Bx.new w a.z a.T;rw[a8K hp hka];refine ih _ cs (rem.erase a.op) B Φ (un M (some ⟨w.heap.size,0,none⟩)) _ (fun i=>if i=k then ptr w.heap.size else ps i) (fun i=>if i=k then w.heap.size else gs i) hok' (hnd.erase _) hU ?_ (fun q hq=>a0v (hZ q hq)) (hE.trans hEa) (hU _ _ (b2F hEa (Nat.le_refl _)) hΦ) (hS _ _ hSw hEa) ?_ ?_ (fun o ho=>hr o (List.mem_of_mem_erase ho)) hu hg
   ·intro q hq
    simp only[un,Bool.or_eq_true]at hq;rcases hq with h|h
    ·exact(hX.ext hEa) q h
    ·have:w.heap.size=q:=by simpa[ob]using h
     rw[<-this];exact hbx.lt
   ·intro j b hb
    by_cases hj:j=k
    ·subst hj
     rw[hka]at hb;cases hb;exact Or.inr ⟨by simp,by simpa using hbx,by simp[un,ob],by simpa using hE.size⟩
    ·simp only[if_neg hj]
     rcases hd j b hb with h|h
     ·exact Or.inl ((List.mem_erase_of_ne fun e=>hj (hu j k b a hb hka e)).2 h)
     ·exact Or.inr ⟨h.1,h.2.1.ext0 hEa,a0v h.2.2.1,h.2.2.2⟩
   ·intro p q x y hx hy hpq h1 h2
    have old:∀(j:Nat) (b:AS),bs[j]? =some b->j≠k->b.op∉rem.erase a.op->gs j<w.heap.size/\b.op∉rem:=fun j b hb hj hn=>by
     have hb':b.op∉rem:=fun h=>hn ((List.mem_erase_of_ne fun e=>hj (hu j k b a hb hka e)).2 h);exact⟨((hd j b hb).resolve_left hb').2.1.lt,hb'⟩
    by_cases hpk:p=k
    ·have hqk:q≠k:=by omega
     simp only[if_pos hpk,if_neg hqk];have:=(old q y hy hqk h2).1;omega
    ·by_cases hqk:q=k
     ·simp only[if_pos hqk,if_neg hpk]
      have:=(old p x hx hpk h1).1;omega
     ·simp only[if_neg hpk,if_neg hqk]
      exact hne p q x y hx hy hpq (old p x hx hpk h1).2 (old q y hy hqk h2).2
theorem a8L:∀(bs:List AS) (B:Act),a3o B bs (fun i=>match bs[i]? with|some a=>B.tmps.getD a.slot undef|none=>undef)=B
 | [],_=>rfl
 |a::bs,B=>by
  show a3o (B.put (some a.slot) (B.tmps.getD a.slot undef)) bs (fun i=>match bs[i]? with|some a=>B.tmps.getD a.slot undef|none=>undef)=B
  have e:B.put (some a.slot) (B.tmps.getD a.slot undef)=B:=by
   cases B with
   |mk t d=>
    simp only[Act.put]
    congr 1
    refine Array.ext (by simp) fun i h1 h2=>?_;rw[Array.getElem_setIfInBounds];split
    ·rename_i h;subst h;simp[h2]
    ·rfl
  rw[e];exact a8L bs B
def b7n(P:Program)(ops:Array Oper)(Q:Exit->Act->World->Prop):List AS->Prop
 | []=>True
 |a::bs=>(∀(K:Act->World->Prop) b w,K (b.put (some a.slot) (ptr w.heap.size)) (w.alloc (.cells a.z a.T))->wpOp P ops Q a.op K b w)/\b7n P ops Q bs
theorem a8M:∀{bs:List AS},b7n P ops Q bs->∀(i:Nat) (a:AS),bs[i]? =some a->∀(K:Act->World->Prop) b w,K (b.put (some a.slot) (ptr w.heap.size)) (w.alloc (.cells a.z a.T))->wpOp P ops Q a.op K b w
 | [],_,_,_,h=>by simp at h
 |a::bs,h,0,b,hb=>by simp at hb;subst hb;exact h.1
 |a::bs,h,i+1,b,hb=>a8M h.2 i b (by simpa using hb)
def b7I(l:Array Bool)(cs:List Nat)(bs:List AS):Array Bool:=(cs++bs.map (·.op)).foldl (fun l i=>l.setIfInBounds i true) l
theorem a7Y{fuel:Nat}{l:Array Bool}{a:Act}{w:World}(cs:List Nat)(bs:List AS)(Z:Nat->Bool)(fe:Nat)(hX:HX Z w)(hw:S w)(hS:∀w w',S w->Ext w w'->S w')(hg:ChG P md ops Q S n fe (b7I l cs bs) bs Z w cs a (Le (mk Z w)))(hf:cs.length+bs.length+fe=fuel:=by rfl)(hok:okC md ops (b7I l cs bs) (cs.length+bs.length) l cs (bs.map (·.op))=true:=by kernel_rfl)(hnd:(bs.map (·.op)).Nodup:=by decide)(hp:(bs.map (·.slot)).Nodup:=by decide)(hA:b7n P ops Q bs:=by first|exact trivial|(refine⟨?_,trivial⟩;intro K b w h;refine wpOp_step (o:=⟨_,_,_,_,_,_⟩) (by rfl) (fun K' hK=>?_);go_simp;exact hK _ _ h)|(refine⟨?_,?_,trivial⟩<;>(intro K b w h;refine wpOp_step (o:=⟨_,_,_,_,_,_⟩) (by rfl) (fun K' hK=>?_);go_simp;exact hK _ _ h))):a0X P md ops Q S n fuel l a w:=by
 subst hf;have hops:∀(i j:Nat) (x y:AS),bs[i]? =some x->bs[j]? =some y->x.op=y.op->i=j:=fun i j x y hx hy he=>by
  have h1:(bs.map (·.op))[i]? =some x.op:=by simp[hx]
  have h2:(bs.map (·.op))[j]? =some x.op:=by simp[hy,he]
  have hi:=(List.getElem?_eq_some_iff.1 h1).1;have:=(List.getElem?_inj hi hnd).1 (h1.trans h2.symm);exact this
 have hsl:bs.Pairwise fun(a b:AS)=>a.slot≠b.slot:=by
  have:=hp;rw[List.nodup_iff_pairwise_ne,List.pairwise_map]at this;exact this
 have h:=a9x (fe:=fe) (W0:=w) hS hsl (a8M hA) (cs.length+bs.length) l cs (bs.map (·.op)) a (Le (mk Z w)) Z w (fun i=>match bs[i]? with|some b=>a.tmps.getD b.slot undef|none=>undef) (fun _=>0) hok hnd (fun _ _ hl h=>h.trans hl) hX (fun _ h=>h) (ExtX.refl w) (Le.refl _) hw
  (fun i b hb=>Or.inl (List.mem_map.2 ⟨b,List.mem_of_getElem? hb,rfl⟩)) (fun i j x y hx _ _ hn _=>absurd (List.mem_map.2 ⟨x,List.mem_of_getElem? hx,rfl⟩) hn)
  (fun o ho=>by
   obtain⟨b,hb,rfl⟩:=List.mem_map.1 ho;obtain⟨i,hi⟩:=List.mem_iff_getElem?.1 hb;exact⟨i,b,hi,rfl⟩) hops hg
 rwa[a8L]at h
theorem b5c{B:Act}{Φ:Mem->Prop}(h:∀M w (b:Nat->Nat),HX M w->(∀k,Z k=true->M k=true)->Ext W0 w->Φ (mk M w)->S w->(∀(i:Nat) (a:AS),bs[i]? =some a->Bx w (b i) a.z a.T/\M (b i)=true/\W0.heap.size<=b i)->(∀i j,i<j->j<bs.length->b i≠b j)->
  a0X P md ops Q S n fe le (a3o B bs fun i=>ptr (b i)) w):ChG P md ops Q S n fe le bs Z W0 [] B Φ:=h
end
end Go
namespace Go.Lin
open Go.Lim
end Go.Lin
namespace Go.Proofs.YtnnpfhoigmegcaaGreat
open Go.RowKit Go.Rep Go.Lim Go.Lin
def b7X(lo hi:Bool)(s1:Bool)(a1:Option Addr)(n1 c1:Nat)(d1:Option Addr)(k1 e1:Nat)(s2:Bool)(a2:Option Addr)(n2 c2:Nat)(d2:Option Addr)(k2 e2:Nat):Array Value:=
 #[.bool false, .slice none 0 0, .slice none 0 0, .bool false, .slice none 0 0, .slice none 0 0, .bool lo, .bool hi, .bool s1, .slice a1 n1 c1, .slice d1 k1 e1, .bool s2, .slice a2 n2 c2, .slice d2 k2 e2]
def b7J(h:Mem)(v:Value)(p:Rat×Rat):Prop:=∃s1 a1 n1 c1 d1 k1 e1 s2 a2 n2 c2 d2 k2 e2,v= .agg (b7X false false s1 a1 n1 c1 d1 k1 e1 s2 a2 n2 c2 d2 k2 e2)/\QC h (.agg #[.bool s1, .slice a1 n1 c1, .slice d1 k1 e1]) p.1/\QC h (.agg #[.bool s2, .slice a2 n2 c2, .slice d2 k2 e2]) p.2
theorem b7J.mono:a2Q b7J:=by
 rintro h m u p a ⟨s,d,q,f,i,n,k,t,e,r,g,j,o,l,rfl,b,c⟩;exact⟨_,_,_,_,_,_,_,_,_,_,_,_,_,_,rfl,QC.mono _ _ _ _ a b,QC.mono _ _ _ _ a c⟩
end Go.Proofs.YtnnpfhoigmegcaaGreat
namespace Go.Lin
end Go.Lin
namespace Go.Proofs.YtnnpfhoigmegcaaGreat
open Go.RowKit Go.Rep Go.Lim Go.Lin
def b5d(X:Nat->Bool)(tb n:Nat)(w:World)(e:Ending)(w':World):Prop:=ExtX (tbm tb) w w'/\a0G X tb w'/\∃k t:Int,e= .returned (.agg #[.int .i64 k, .int .i64 t])/\a1B k t/\a2J k t n/\t<=n
theorem a6C(X:Nat->Bool)(a b:Option Addr):un (un X a) b=un (un X b) a:=by
 funext k
 simp only[un];cases X k<;>cases ob a k<;>cases ob b k<;>rfl
theorem a7p(X:Nat->Bool)(tb n:Nat)(w:World)(ht:a0G X tb w)(hX:HX X w)(hn1:1<=n)(hn:n<=64):Calls Tryz.prog 53 #[.pointer (some ⟨tb,0,none⟩), .int .i64 (n:Int)] w (b5d X tb n w):=by
 have htb:=ht.lt;have htX:=ht.1;obtain⟨W,hW,hE,b0,hz⟩:=a0J w #[.int .i64 0, .int .i64 0] 53;have hXW:HX (a0e X w.heap.size 1) W:=hX.boxes hz;have htW:a0G (a0e X w.heap.size 1) tb W:=ht.box hE;obtain⟨b,hb⟩:∃b,w.heap.size=b:=⟨_,rfl⟩;have hbw:w.heap.size<=b:=by omega
 have htb':tb≠b:=by omega
 have hbt:b≠tb:=by omega
 rw[hb]at b0 hz hXW htW;have hEb:ExtX (tbm tb) w W:=ExtX.of hE;have eq1:Int.tdiv ((n:Int) - 1) 2=((n:Int) - 1)/2:=Int.tdiv_eq_ediv_of_nonneg (by omega);clear hE;go_enter Tryz.func53,Tryz.ntmps53
 go_wp2_with fail
 refine(a1A (a0e X b 1) tb 5 _ htW (by omega)).mono ?_;rintro e w1 ⟨hE1,ht1,m,rfl,hm⟩;have b1:=b0.ext hE1 (a2N hbt);have hX1:=hXW.ext hE1;have hF1:=hEb.trans hE1;have bx:=Bx.new w1 #[.int .i64 0, .int .i64 0] 53;obtain⟨bo,hbo⟩:∃bo,w1.heap.size=bo:=⟨_,rfl⟩;rw[hbo]at bx;have hbob:b<bo:=by have:=b1.lt;omega
 have htbo:tb<bo:=by have:=ht1.lt;omega
 clear b0 hXW htW hEb hE1;by_cases h4:m=4
 ·subst h4
  have ew0:IntKind.i64.wrap ((n:Int) - 1)=(n:Int) - 1:=IntWalk.i64_in _ (by omega);have ew1:IntKind.i64.wrap (((n:Int) - 1)/2+1)=((n:Int) - 1)/2+1:=IntWalk.i64_in _ (by omega);have hn0:decide ((0:Int)<(n:Int))=true:=decide_eq_true (by omega);go_wp2_with ((with_reducible show wpList _ _ _ (⟨_, .store 53 _ _,_,_,_,_⟩::_) _ _);refine a0a a6D rfl rfl bx rfl rfl (by simp[Value.oneCell']) ?_;intro w2 r1 r2;have k0:w2.cell? ⟨bo,0,none⟩=some (.int .i64 5):=r1.cell 0 rfl)
  have hE2:Ext w1 w2:=ExtX.box ((ExtX.refl w1).alloc _) r2 (by omega);have hbnew:∀j,j<w1.heap.size->ob (some ⟨bo,0,none⟩) j=false:=fun j hj=>a0b (by omega);have ht2:a0G (un (a0e X b 1) (some ⟨bo,0,none⟩)) tb w2:=ht1.old hE2 hbnew;have b2:=b1.ext0 hE2;have hF2:=hF1.trans (ExtX.of hE2);refine(a1A (un (a0e X b 1) (some ⟨bo,0,none⟩)) tb (((n:Int) - 1)/2+1) w2 ht2 (by omega)).mono ?_;rintro e w3 ⟨hE3,ht3,m3,rfl,hm3⟩;have r3:=r1.ext hE3 (a2N (by omega));have b3:=b2.ext hE3 (a2N hbt);have hF3:=hF2.trans hE3;clear k0 b1 b2 r1 r2 bx ht1 ht2 hE3 hF1 hF2 hX1;go_wp2_with (first
   |((with_reducible show wpList _ _ _ (⟨_, .store 3 _ _,_,_,_,_⟩::_) _ _);refine a7o (v:= .int .i64 (m3:Int)) b6N rfl rfl rfl rfl r3 (by decide) ?_;intro w4 r4 y4;have b4:=b3.ext y4 (a0b (by omega)))
   |((with_reducible show wpList _ _ _ (⟨_, .load 53 _,_,_,_,_⟩::_) _ _);refine a3r a6D rfl r4 rfl ?_)
   |((with_reducible show wpList _ _ _ (⟨_, .store 53 _ _,_,_,_,_⟩::_) _ _);refine a0a a6D rfl rfl b4 rfl rfl (by simp[Value.oneCell']) ?_;intro w5 r5 y5))
  have hbw1:w.heap.size<=b:=hbw;have ht4:a0G (un (a0e X b 1) (some ⟨bo,0,none⟩)) tb w4:=ht3.extY y4 (fun k hk=>a0A hk) (a0b (by omega));have ht5:=((ht4.unX (by rw[b0b htX])).store y5 (by omega) htb').unbox htX;have hF4:ExtX (tbm tb) w w4:=hF3.then_ y4 fun i hi _=>a0b (by omega);exact bodyPost_ret (a0d rfl rfl a6D r5 rfl) rfl ⟨hF4.tbox y5 hbw,ht5,5,(m3:Int),rfl,⟨by omega,by omega,by omega,Or.inl rfl⟩,⟨hn1,Or.inr (by omega)⟩,by omega⟩
 ·have h5:(1+(m:Int)==5)=false:=a2S (by omega)
  go_wp2_with (first
   |((with_reducible show wpList _ _ _ (⟨_, .store 53 _ _,_,_,_,_⟩::_) _ _);refine a0a a6D rfl rfl bx rfl rfl (by simp[Value.oneCell']) ?_;intro w2 r1 r2;have k0:w2.cell? ⟨bo,0,none⟩=some (.int .i64 (1+(m:Int))):=r1.cell 0 rfl;have hE2:Ext w1 w2:=ExtX.box ((ExtX.refl w1).alloc _) r2 (by omega);have b2:=b1.ext0 hE2;clear bx)
   |((with_reducible show wpList _ _ _ (⟨_, .load 53 _,_,_,_,_⟩::_) _ _);refine a3r a6D rfl r1 rfl ?_)
   |((with_reducible show wpList _ _ _ (⟨_, .store 53 _ _,_,_,_,_⟩::_) _ _);refine a0a a6D rfl rfl b2 rfl rfl (by simp[Value.oneCell']) ?_;intro w5 r5 y5))
  have ht5:=((ht1.ext hE2).store y5 (by omega) htb').unbox htX;have hF2:=hF1.trans (ExtX.of hE2);exact bodyPost_ret (a0d rfl rfl a6D r5 rfl) rfl ⟨hF2.tbox y5 hbw,ht5,1+(m:Int),0,rfl,⟨by omega,by omega,by omega,Or.inr rfl⟩,⟨hn1,Or.inl (by omega)⟩,by omega⟩
end Go.Proofs.YtnnpfhoigmegcaaGreat
namespace Go.Lin
open Go.Lim
noncomputable def a5D(x:Mat)(c:Nat)(s:List Int):Option (List Rat):=match a1j (s.map fun i=>x.getD i.toNat []) c with| [d]=>some d|_=>none
noncomputable def a1m(x:Mat)(c:Nat):List (List Rat):=if c=1 then[[1]]else(a1e x.length (c - 1) 0).filterMap (a5D x c)
def a4t(x:Mat)(c:Nat)(d:List Rat):Nat:=x.countP fun r=>decide (dot c (vec d) (vec r)=0)
def b0Q(l:List Nat):Nat:=l.foldl max 0
noncomputable def a4g(x:Mat)(c:Nat):Nat:=if(a1P x c).2.length<c then x.length else b0Q ((a1m x c).map (a4t x c))
theorem b5e(l:List Nat):∀a,a<=l.foldl max a/\(∀k∈l,k<=l.foldl max a)/\(l.foldl max a=a\/l.foldl max a∈l):=by
 induction l with
 |nil=>intro a;simp
 |cons b l ih=>
  intro a;obtain⟨h1,h2,h3⟩:=ih (max a b);refine⟨by simp only[List.foldl_cons];omega,fun k hk=>?_,?_⟩
  ·simp only[List.foldl_cons]
   rcases List.mem_cons.1 hk with rfl|hk
   ·omega
   ·exact h2 k hk
  ·simp only[List.foldl_cons]
   rcases h3 with h3|h3
   ·rw[h3]
    rcases Nat.le_total a b with h|h
    ·right;rw[Nat.max_eq_right h];exact List.mem_cons_self
    ·left;exact Nat.max_eq_left h
   ·exact Or.inr (List.mem_cons_of_mem _ h3)
theorem b0R{l:List Nat}{m:Nat}(h:∀k∈l,k<=m):b0Q l<=m:=by
 rcases(b5e l 0).2.2 with e|e
 ·unfold b0Q;rw[e];exact Nat.zero_le _
 ·exact h _ e
theorem a6F(x:Mat)(c:Nat)(d:List Rat):a4t x c d<=x.length:=List.countP_le_length
theorem b2K(x:Mat)(c:Nat):a4g x c<=x.length:=by
 unfold a4g;split
 ·exact Nat.le_refl _
 ·exact b0R fun k a=>by obtain⟨d,_,rfl⟩:=List.mem_map.1 a;exact a6F x c d
def a7Z(x:Mat)(c:Nat):Prop:=∀y:Vec,(∀v∈a1D x,dot c y v=0)->∀j,j<c->y j=0
theorem b5f{n c:Nat}{x:Mat}(b:Shp n c x)(h:¬(a1P x c).2.length<c):a7Z x c:=fun y i j f=>by
 have d:(a1j x c).length=0:=by rw[a5b b];omega
 obtain⟨a,e⟩:=(a3t b).span y (fun v g=>by rw[a1d];exact i v g);rw[e j f,d];rfl
theorem a8N(x:Mat):(a1D x).length=x.length:=by simp[a1D]
theorem a6G:∀(m h:Nat) (lo:Int) (l:List Int),l.length=h->l.Pairwise (· < ·)->(∀i∈l,lo<=i/\i<lo+m)->l∈a1e m h lo
 |m,0,lo,l,hl,_,_=>by
  obtain rfl:=List.length_eq_zero_iff.1 hl;rw[a3u];simp
 |0,h+1,lo,l,hl,_,hr=>by
  cases l with
  |nil=>simp at hl
  |cons a l=>have:=hr a List.mem_cons_self;omega
 |m+1,h+1,lo,l,hl,hp,hr=>by
  cases l with
  |nil=>simp at hl
  |cons a l=>
   rw[List.pairwise_cons]at hp;simp only[List.length_cons,Nat.add_right_cancel_iff]at hl;unfold a1e;rw[List.mem_append];by_cases ha:a=lo
   ·subst ha
    exact Or.inl (List.mem_map.2 ⟨l,a6G m h _ l hl hp.2 fun i hi=>by
     have:=hp.1 i hi;have:=hr i (List.mem_cons_of_mem _ hi);omega,rfl⟩)
   ·exact Or.inr (a6G m (h+1) _ (a::l) (by simp[hl]) (List.pairwise_cons.2 hp) fun i hi=>by
     have h1:=hr i hi;have h2:=hr a List.mem_cons_self;rcases List.mem_cons.1 hi with rfl|hi
     ·omega
     ·have:=hp.1 i hi
      omega)
theorem b3H{n c:Nat}{x:Mat}(P:Shp n c x)(S:0<c){u:Vec}(C:nz c u)(D:∀y:Vec,(∀v∈onL c u (a1D x),dot c y v=0)->∃t:Rat,∀j,j<c->y j=t*u j):∃d∈a1m x c,∃t:Rat,t≠0/\∀j,j<c->vec d j=t*u j:=by
 by_cases G:c=1
 ·subst G
  obtain⟨j,w,f⟩:=C;obtain rfl:j=0:=by omega
  refine⟨[1],by simp[a1m],(u 0)⁻¹,fun h=>f (by have:=Rat.inv_mul_cancel _ f;rw[h]at this;grind),fun j w=>?_⟩;obtain rfl:j=0:=by omega
  rw[Rat.inv_mul_cancel _ f];rfl
 ·obtain⟨r,rfl⟩:∃r,c=r+1:=⟨c - 1,by omega⟩
  obtain⟨I,E,L,o,F⟩:=sel (a1D x) u C r [] (b2p _) (by simp[Ort]) fun y _ h=>D y h;obtain⟨J,K,R,m⟩:=asc (n:=(a1D x).length) L fun i hi=>(o i hi).1;have a:∀i∈J,i<x.length:=fun i hi=>by have:=(o i ((m i).1 hi)).1;rwa[a8N]at this
  have b:Shp (r:Nat) (r+1) (J.map fun i=>x.getD i []):=⟨by simp[K,E],fun l O=>by
   obtain⟨i,hi,rfl⟩:=List.mem_map.1 O;have:=a i hi;rw[List.getD_eq_getElem?_getD,List.getElem?_eq_getElem this];exact P.2 _ (List.getElem_mem _)⟩
  have g:a1D (J.map fun i=>x.getD i [])=a7H (a1D x) J:=by
   unfold a1D a7H;rw[List.map_map];refine List.map_congr_left fun i hi=>?_;have:=a i hi;simp[List.getD_eq_getElem?_getD,this]
  have A:Ort (r+1) (a7H (a1D x) J) u:=fun v D=>by
   obtain⟨i,hi,rfl⟩:=List.mem_map.1 D;exact(o i ((m i).1 hi)).2.1
  have q:Dim (r+1) (a7H (a1D x) J) 1:=a9l C A fun y Q=>F y (by simp[Ort]) fun i hi=>Q _ (List.mem_map.2 ⟨i,(m i).2 hi,rfl⟩);have z:(a1j (J.map fun i=>x.getD i []) (r+1)).length=1:=by
   have:=a8D b;rw[g]at this;exact this.uniq q
  obtain⟨d,hd⟩:=List.length_eq_one_iff.1 z;have p:=a3t b;rw[g,hd]at p;have s:Ort (r+1) (a7H (a1D x) J) (vec d):=p.mem 0 (by simp);obtain⟨t,H⟩:=F (vec d) (by simp[Ort]) fun i hi=>s _ (List.mem_map.2 ⟨i,(m i).2 hi,rfl⟩);have B:t≠0:=fun M=>by
   have:=p.li (fun _=>1) (fun j w=>by
    show cmb 1 _ _ j=0
    unfold cmb
    show(0:Rat)+1*ent [d] 0 j=0
    have e:ent [d] 0 j=vec d j:=rfl;rw[e,H j w,M];grind) 0 (by simp)
   exact absurd this (by decide)
  refine⟨d,?_,t,B,H⟩;unfold a1m;rw[if_neg G];refine List.mem_filterMap.2 ⟨J.map Int.ofNat,a6G _ _ _ _ (by simp[K,E]) ?_ fun i hi=>?_,?_⟩
  ·rw[List.pairwise_map];exact R.imp fun h=>by simpa using h
  ·obtain⟨k,N,rfl⟩:=List.mem_map.1 hi
   have:=a k N;constructor
   ·exact Int.natCast_nonneg _
   ·show((k:Nat):Int)<0+(x.length:Int);omega
  ·unfold a5D
   rw[List.map_map];have:(List.map ((fun i=>x.getD i.toNat [])∘Int.ofNat) J)=J.map fun i=>x.getD i []:=List.map_congr_left fun i _=>rfl;rw[this,hd]
end Go.Lin
