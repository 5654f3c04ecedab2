/- Parts of a proof: each theorem states what it proves, and its conditions. -/
import Derived.OrdersHeld
import Derived.StillTail
import Derived.Deep.RegionHeld
import Derived.WalkKit
namespace Go
section
variable {P:Program} {ops:Array Oper} {Q:Exit->Act->World->Prop} {md:Region.Mode} {S:World->Prop} {n:Nat}
def a1y (P:Program) (md:Region.Mode) (ops:Array Oper) (Q:Exit->Act->World->Prop) (S:World->Prop) (n:Nat):Nat->Array Bool->Act->World->Prop
 |0,listed,a,w=>Region.ready md ops listed= []/\Q .normal a w
 |fuel+1,listed,a,w=>
  (Region.ready md ops listed= []->Q .normal a w)/\
  ∀i∈Region.ready md ops listed,wpOp P ops Q i (fun a' w'=>(i<n->S w')/\a1y P md ops Q S n fuel (listed.setIfInBounds i true) a' w') a w
theorem a7e:∀(fuel:Nat) (listed:Array Bool) (a:Act) (w:World),a1y P md ops Q S n fuel listed a w->wpAny P md ops Q fuel listed a w
 |0,_,_,_,h=>h
 |fuel+1,_,_,_,h=>⟨h.1,fun i hi=>wpOp_mono (fun a' w' h'=>a7e fuel _ a' w' h'.2) (h.2 i hi)⟩
theorem a5G {i:Nat} {oi:Oper} {v:Value} (hs:Region.sinkB md ops n=true) (hc:Region.chainB md ops n=true) (hn:n<ops.size) (hin:i<n) (hi:ops[i]? =some oi) (hsel:∀(j:Nat) (o:Oper) cs b,ops[j]? =some o->o.op≠ .select cs b)
  (hQ:∀c a w,Q (.panic c) (a.put oi.dst v) w->Q (.panic c) a w):
  ∀(fuel:Nat) (listed:Array Bool) (a:Act) (w:World),HeadInv md ops n listed->
   (∀j oj,ops[j]? =some oj->j≠i->listed.getD j true=false->(∀e∈oj.after,Region.binds md e=true->e.on≠i)->oi.apart ops oj=true)->
   i∈Region.ready md ops listed->YieldsIf P ops S oi v a->S w->
   a1y P md ops Q S n fuel (listed.setIfInBounds i true) (a.put oi.dst v) w->a1y P md ops Q S n (fuel+1) listed a w:=by
 intro fuel
 induction fuel with
 |zero=>
  intro listed a w _ _ hr hy hS H;refine⟨fun h=>(by rw[h]at hr;cases hr),fun j hj=>?_⟩;by_cases hji:j=i
  ·subst hji;exact hy.wpOp hi hS ⟨fun _=>hS,H⟩
  ·have:=ready_mono hj hji
   rw[H.1]at this;cases this
 |succ fuel ih=>
  intro listed a w inv hfree hr hy hS H;refine⟨fun h=>(by rw[h]at hr;cases hr),fun j hj=>?_⟩;by_cases hji:j=i
  ·subst hji;exact hy.wpOp hi hS ⟨fun _=>hS,H⟩
  ·have hjn:j<n:=by
    rcases Nat.lt_or_ge j n with h|h
    ·exact h
    ·exact absurd hj (tail_waits hs hc hn inv (n - i) i rfl hin (mem_ready.1 hr).1 j h)
   have h1:=H.2 j (ready_mono hj hji);obtain⟨hjun,oj,hoj,hall⟩:=mem_ready.1 hj;have hnot:∀e∈oj.after,Region.binds md e=true->e.on≠i:=fun e he hb heq=>by
    have h1:=hall e he hb;have h0:=(mem_ready.1 hr).1;rw[heq]at h1;rcases Nat.lt_or_ge i listed.size with h'|h'
    ·simp[h']at h0 h1;rw[h0]at h1;cases h1
    ·simp[Array.getElem?_eq_none h']at h1
   have h2:=wpOp_putIf hoj (hfree j oj hoj hji hjun hnot) (fun cs b=>hsel i oi cs b hi) (fun cs b=>hsel j oj cs b hoj) hQ hy h1;have hfree':∀k ok,ops[k]? =some ok->k≠i->(listed.setIfInBounds j true).getD k true=false->
     (∀e∈ok.after,Region.binds md e=true->e.on≠i)->oi.apart ops ok=true:=fun k ok hk hki hun hno=>by
    refine hfree k ok hk hki ?_ hno;by_cases hjk:j=k
    ·subst hjk;exact hjun
    ·rw[getD_set_ne true hjk]at hun;exact hun
   refine wpOp_mono (fun a' w' h3=>⟨h3.2.1,ih (listed.setIfInBounds j true) a' w' (inv.set hj hjn) hfree' (ready_mono hr (Ne.symm hji)) h3.1 (h3.2.1 hjn) ?_⟩) h2;rw[Array.setIfInBounds_comm _ _ hji];exact h3.2.2
def b7O (md:Region.Mode) (ops:Array Oper) (n:Nat) (listed:Array Bool):Bool:=
 decide (listed.size=ops.size)&&
 ((List.range ops.size).all fun j=> !listed.getD j false||(match ops[j]? with|some o=>o.after.all fun e=> !Region.binds md e||listed.getD e.on false|none=>true))&&
 ((List.range ops.size).all fun t=>decide (t<n)|| !listed.getD t true)
theorem a8v {a:Array Bool} (h:b7O md ops n a=true):HeadInv md ops n a:=by
 unfold b7O at h;simp only[Bool.and_eq_true,decide_eq_true_eq]at h;obtain⟨⟨p,i⟩,o⟩:=h;refine⟨p,fun j oj g k e m l=>?_,fun t q d=>?_⟩
 ·have c:j<ops.size:=(Array.getElem?_eq_some_iff.1 g).1
  have b:=List.all_eq_true.1 i j (List.mem_range.2 c);rw[k,g]at b;simp only[Bool.not_true,Bool.false_or]at b;have f:=Array.all_eq_true_iff_forall_mem.1 b e m;rw[l]at f;simpa using f
 ·have b:=List.all_eq_true.1 o t (List.mem_range.2 d)
  simp only[Bool.or_eq_true,decide_eq_true_eq,Bool.not_eq_true']at b;rcases b with b|b
  ·omega
  ·exact b
def b1x (md:Region.Mode) (ops:Array Oper) (n i:Nat) (listed:Array Bool):Bool:=
 decide (i<n)&&b7O md ops n listed&&Region.free md ops listed i&&(Region.ready md ops listed).contains i
def a8w (md:Region.Mode) (ops:Array Oper) (n:Nat):Bool:=Region.sinkB md ops n&&Region.chainB md ops n&&decide (n<ops.size)&&Region.noSelect ops
theorem a9z {i:Nat} {oi:Oper} {v:Value} {d:Nat} {b:Array Bool} {a:Act} {w:World} (e:Shut (a8w md ops n=true)) (hi:ops[i]? =some oi)
  (f:b1x md ops n i b=true)
  (g:∀c a w,Q (.panic c) (a.put oi.dst v) w->Q (.panic c) a w) (p:S w) (l:Region.wanted oi (yielded ops a.tmps)=true) (o:∀w,S w->(execOp a.eval oi).run P w= .ok (.value v) w)
  (h:a1y P md ops Q S n d (b.setIfInBounds i true) (a.put oi.dst v) w):a1y P md ops Q S n (d+1) b a w:=by
 unfold b1x at f;simp only[Bool.and_eq_true,decide_eq_true_eq]at f;obtain⟨⟨⟨s,r⟩,k⟩,t⟩:=f;have e:=e.out;unfold a8w at e;simp only[Bool.and_eq_true,decide_eq_true_eq]at e;obtain⟨⟨⟨m,j⟩,u⟩,q⟩:=e;exact a5G m j u s hi (Region.noSelect_spec q) g d b a w (a8v r) (Region.free_spec hi k) (by simpa using t) (.inl ⟨l,o⟩) p h
theorem a0k {i:Nat} {o:Oper} {c:Nat} {b:Array Bool} {a:Act} {w:World} (g:Region.ready md ops b= [i]) (l:ops[i]? =some o)
  (h:∀d:Act->World->Prop,Shut (∀a w,S w->(S w->a1y P md ops Q S n c (b.setIfInBounds i true) a w)->d a w)->if Region.wanted o (yielded ops a.tmps)=true then Oper.wp P o a w d Q else d (a.put o.dst undef) w):a1y P md ops Q S n (c+1) b a w:=by
 refine⟨fun e=>(by rw[g]at e;cases e),fun j k=>?_⟩;rw[g]at k;have:j=i:=by simpa using k
 subst this;exact wpOp_step l (fun d m=>h d (fun a w f p=>m a w ⟨fun _=>f,p f⟩))
theorem a1m {i j:Nat} {oi oj:Oper} {d:Nat} {b:Array Bool} {a:Act} {w:World} (m:Region.ready md ops b= [i,j]) (hi:ops[i]? =some oi) (p:ops[j]? =some oj)
  (q:∀c:Act->World->Prop,Shut (∀a w,S w->(S w->a1y P md ops Q S n d (b.setIfInBounds i true) a w)->c a w)->if Region.wanted oi (yielded ops a.tmps)=true then Oper.wp P oi a w c Q else c (a.put oi.dst undef) w)
  (o:∀c:Act->World->Prop,Shut (∀a w,S w->(S w->a1y P md ops Q S n d (b.setIfInBounds j true) a w)->c a w)->if Region.wanted oj (yielded ops a.tmps)=true then Oper.wp P oj a w c Q else c (a.put oj.dst undef) w):a1y P md ops Q S n (d+1) b a w:=by
 refine⟨fun l=>(by rw[m]at l;cases l),fun k f=>?_⟩;rw[m]at f;rcases List.mem_cons.1 f with rfl|f
 ·exact wpOp_step hi (fun c g=>q c (fun a w e h=>g a w ⟨fun _=>e,h e⟩))
 ·obtain rfl:k=j:=by simpa using f
  exact wpOp_step p (fun c g=>o c (fun a w e h=>g a w ⟨fun _=>e,h e⟩))
theorem a0v {i:Nat} {o:Oper} {fuel:Nat} {listed:Array Bool} {a:Act} {w:World} (hr:Region.ready md ops listed= [i]) (ho:ops[i]? =some o) (hin:n<=i)
  (hd:Region.ready md ops (listed.setIfInBounds i true)= [])
  (h:∀K':Act->World->Prop,Shut (∀a w,Q .normal a w->K' a w)->if Region.wanted o (yielded ops a.tmps)=true then Oper.wp P o a w K' Q else K' (a.put o.dst undef) w):a1y P md ops Q S n (fuel+1) listed a w:=by
 refine⟨fun h0=>(by rw[hr]at h0;cases h0),fun j hj=>?_⟩;rw[hr]at hj;have:j=i:=by simpa using hj
 subst this;refine wpOp_step ho (fun K' hK=>h K' (fun a w hq=>hK a w ⟨fun hlt=>absurd hlt (Nat.not_lt.2 hin),?_⟩));cases fuel with
 |zero=>exact⟨hd,hq⟩
 |succ f=>exact⟨fun _=>hq,by rw[hd];simp⟩
theorem a0O {c:Nat} {a:Act} {w:World} (n:Nat) (S:World->Prop) (e:P.follows .mixedOrders=true) (b:a8w .any ops n=true) (d:S w.drew)
  (h:S w.drew->Shut (a8w .any ops n=true)->a1y P .any ops Q S n ops.size (Array.replicate ops.size false) a w.drew):(Code.region c ops true).wp P Q a w:=
 wp_region_any e (a7e _ _ _ _ (h d b))
end
end Go
namespace Go
section
variable {P:Program} {ops:Array Oper} {Q:Exit->Act->World->Prop} {md:Region.Mode} {S:World->Prop} {n:Nat}
theorem a9A {i:Nat} {oi:Oper} {d:Nat} {b:Array Bool} {a:Act} {w:World} (e:Shut (a8w md ops n=true)) (hi:ops[i]? =some oi)
  (f:b1x md ops n i b=true)
  (g:∀c a w,Q (.panic c) (a.put oi.dst undef) w->Q (.panic c) a w) (o:S w) (l:Region.wanted oi (yielded ops a.tmps)=false)
  (h:a1y P md ops Q S n d (b.setIfInBounds i true) (a.put oi.dst undef) w):a1y P md ops Q S n (d+1) b a w:=by
 unfold b1x at f;simp only[Bool.and_eq_true,decide_eq_true_eq]at f;obtain⟨⟨⟨r,q⟩,k⟩,s⟩:=f;have e:=e.out;unfold a8w at e;simp only[Bool.and_eq_true,decide_eq_true_eq]at e;obtain⟨⟨⟨m,j⟩,t⟩,p⟩:=e;exact a5G m j t r hi (Region.noSelect_spec p) g d b a w (a8v q) (Region.free_spec hi k) (by simpa using s) (.inr ⟨l,rfl⟩) o h
end
end Go
namespace Go
section
variable {P:Program} {ops:Array Oper} {Q:Exit->Act->World->Prop} {md:Region.Mode} {S:World->Prop} {n:Nat}
theorem kt (i:Nat) {d:Option Tmp} {f:Op} {l:TypeId} {m:String} {k:Array Edge} {g:Option (Nat×Bool)} {v:Value} {e:Nat} {b o:Array Bool} {a p:Act} {w:World} (q:Shut (a8w md ops n=true))
  (h:a1y P md ops Q S n e o p w)
  (hi:ops[i]? =some ⟨d,f,l,m,k,g⟩:=by rfl)
  (u:b1x md ops n i b=true:=by kernel_rfl)
  (y:S w:=by assumption) (s:Region.wanted ⟨d,f,l,m,k,g⟩ (yielded ops a.tmps)=true:=by rfl)
  (x:∀w,S w->(execOp a.eval ⟨d,f,l,m,k,g⟩).run P w= .ok (.value v) w:=by
   intro w j
   (try dsimp only at j)
   go_simp
   all_goals with_reducible rfl)
  (r:∀c a w,Q (.panic c) (a.put d v) w->Q (.panic c) a w:=by exact fun _ _ _ h=>h)
  (t:b.setIfInBounds i true=o:=by first|(simp only[List.setIfInBounds_toArray,List.set_cons_zero,List.set_cons_succ];rfl)|rfl)
  (z:a.put d v=p:=by simp only[Act.put,List.setIfInBounds_toArray,List.set_cons_zero,List.set_cons_succ];rfl):a1y P md ops Q S n (e+1) b a w:=
 a9z q hi u r y s x (by rw[t,z];exact h)
theorem ku (i:Nat) {d:Option Tmp} {j:Op} {m:TypeId} {o:String} {l:Array Edge} {g:Option (Nat×Bool)} {e:Nat} {b f:Array Bool} {a k:Act} {w:World} (p:Shut (a8w md ops n=true))
  (h:a1y P md ops Q S n e f k w)
  (hi:ops[i]? =some ⟨d,j,m,o,l,g⟩:=by rfl)
  (t:b1x md ops n i b=true:=by kernel_rfl)
  (u:S w:=by assumption) (r:Region.wanted ⟨d,j,m,o,l,g⟩ (yielded ops a.tmps)=false:=by rfl)
  (q:∀c a w,Q (.panic c) (a.put d undef) w->Q (.panic c) a w:=by exact fun _ _ _ h=>h)
  (s:b.setIfInBounds i true=f:=by first|(simp only[List.setIfInBounds_toArray,List.set_cons_zero,List.set_cons_succ];rfl)|rfl)
  (v:a.put d undef=k:=by simp only[Act.put,List.setIfInBounds_toArray,List.set_cons_zero,List.set_cons_succ];rfl):a1y P md ops Q S n (e+1) b a w:=
 a9A p hi t q u r (by rw[s,v];exact h)
end
end Go
namespace Go.Lin
def sm:Nat->(Nat->Rat)->Rat
 |0,_=>0
 |n+1,f=>sm n f+f n
theorem a0g {n:Nat} {f g:Nat->Rat} (h:∀i,i<n->f i=g i):sm n f=sm n g:=by
 induction n with
 |zero=>rfl
 |succ n ih=>unfold sm;rw[ih fun i hi=>h i (by omega),h n (by omega)]
theorem a1W {n:Nat} {f:Nat->Rat} (h:∀i,i<n->f i=0):sm n f=0:=by
 induction n with
 |zero=>rfl
 |succ n ih=>unfold sm;rw[ih fun i hi=>h i (by omega),h n (by omega)];grind
theorem a5H (n:Nat) (f g:Nat->Rat):sm n (fun i=>f i+g i)=sm n f+sm n g:=by
 induction n with
 |zero=>unfold sm;grind
 |succ n ih=>unfold sm;rw[ih];grind
theorem a1z (n:Nat) (a:Rat) (f:Nat->Rat):sm n (fun i=>a*f i)=a*sm n f:=by
 induction n with
 |zero=>unfold sm;grind
 |succ n ih=>unfold sm;rw[ih];grind
theorem a2x (n m:Nat) (f:Nat->Nat->Rat):sm n (fun i=>sm m (fun j=>f i j))=sm m (fun j=>sm n (fun i=>f i j)):=by
 induction n with
 |zero=>simp only[sm];rw[a1W];intros;rfl
 |succ n ih=>simp only[sm];rw[ih,a5H]
theorem a1A {n:Nat} {f:Nat->Rat} (k:Nat) (hk:k<n) (h:∀i,i<n->i≠k->f i=0):sm n f=f k:=by
 induction n with
 |zero=>omega
 |succ n ih=>
  unfold sm;by_cases e:k=n
  ·subst e;rw[a1W fun i hi=>h i (by omega) (by omega)];grind
  ·rw[ih (by omega) fun i hi hik=>h i (by omega) hik,h n (by omega) (by omega)];grind
theorem a7f (n:Nat) (f g:Nat->Rat):sm n (fun i=>f i - g i)=sm n f - sm n g:=by
 induction n with
 |zero=>unfold sm;grind
 |succ n ih=>unfold sm;rw[ih];grind
theorem b7P {n:Nat} {f g:Nat->Rat} (k:Nat) (b:k<n) (h:∀i,i<n->i≠k->f i=g i) (a:f k=g k):sm n f=sm n g:=
 a0g fun i hi=>by
             by_cases e:i=k
             ·subst e;exact a
             ·exact h i hi e
theorem b7a {n:Nat} {f g:Nat->Rat} (i k:Nat) (hi:i<n) (j:k<n) (d:i≠k) (h:∀r,r<n->r≠i->r≠k->f r=g r) (m:f i+f k=g i+g k):sm n f=sm n g:=by
 have e:sm n (fun r=>f r - g r)=0:=by
  have l:∀r,r<n->(fun r=>f r - g r) r=(fun r=>(if r=i then f i - g i else 0)+(if r=k then f k - g k else 0)) r:=by
   intro r c
   show f r - g r=_
   by_cases a:r=i
   ·subst a;simp[d];grind
   ·by_cases b:r=k
    ·subst b;simp[a];grind
    ·simp[a,b];rw[h r c a b];grind
  rw[a0g l,a5H,a1A i hi (fun r _ c=>by simp[c]),a1A k j (fun r _ c=>by simp[c])];simp;grind
 rw[a7f]at e;grind
abbrev F2:=Nat->Nat->Rat
def Eqm (n c:Nat) (f g:F2):Prop:=∀i,i<n->∀j,j<c->f i j=g i j
def Nul (n c:Nat) (f:F2) (x:Nat->Rat):Prop:=∀i,i<n->sm c (fun j=>f i j*x j)=0
inductive RE (n c:Nat):F2->F2->Rat->Prop
 |same {f g:F2} (h:Eqm n c f g):RE n c f g 1
 |swap {f g:F2} (i k:Nat) (hi:i<n) (hk:k<n) (hik:i≠k) (h1:∀j,j<c->g i j=f k j) (h2:∀j,j<c->g k j=f i j) (h3:∀r,r<n->r≠i->r≠k->∀j,j<c->g r j=f r j):RE n c f g (-1)
 |scale {f g:F2} (i:Nat) (a:Rat) (hi:i<n) (ha:a≠0) (h1:∀j,j<c->g i j=a*f i j) (h3:∀r,r<n->r≠i->∀j,j<c->g r j=f r j):RE n c f g a
 |add {f g:F2} (i k:Nat) (a:Rat) (hi:i<n) (hk:k<n) (hik:i≠k) (h1:∀j,j<c->g i j=f i j+a*f k j) (h3:∀r,r<n->r≠i->∀j,j<c->g r j=f r j):RE n c f g 1
 |trans {f g h:F2} {a b:Rat} (h1:RE n c f g a) (h2:RE n c g h b):RE n c f h (a*b)
theorem RE.ne {n c:Nat} {f g:F2} {d:Rat} (h:RE n c f g d):d≠0:=by
 induction h with
 |same=>grind
 |swap=>grind
 |scale=>assumption
 |add=>grind
 |trans _ _ ih1 ih2=>intro e;rcases Rat.mul_eq_zero.1 e with h|h<;>contradiction
theorem RE.nul {n c:Nat} {f g:F2} {d:Rat} (h:RE n c f g d) (x:Nat->Rat):Nul n c f x↔Nul n c g x:=by
 induction h with
 |same h=>
  constructor
  ·intro hn i hi;rw[<-hn i hi];exact a0g fun j hj=>by rw[h i hi j hj]
  ·intro hn i hi;rw[<-hn i hi];exact a0g fun j hj=>by rw[h i hi j hj]
 |swap i k hi hk hik h1 h2 h3=>
  constructor
  ·intro hn r hr
   by_cases a:r=i
   ·subst a;rw[<-hn k hk];exact a0g fun j hj=>by rw[h1 j hj]
   ·by_cases b:r=k
    ·subst b;rw[<-hn i hi];exact a0g fun j hj=>by rw[h2 j hj]
    ·rw[<-hn r hr];exact a0g fun j hj=>by rw[h3 r hr a b j hj]
  ·intro hn r hr
   by_cases a:r=i
   ·subst a;rw[<-hn k hk];exact a0g fun j hj=>by rw[h2 j hj]
   ·by_cases b:r=k
    ·subst b;rw[<-hn i hi];exact a0g fun j hj=>by rw[h1 j hj]
    ·rw[<-hn r hr];exact a0g fun j hj=>by rw[h3 r hr a b j hj]
 |@scale f g i a hi ha h1 h3=>
  have key:sm c (fun j=>g i j*x j)=a*sm c (fun j=>f i j*x j):=by
   rw[<-a1z];exact a0g fun j hj=>by rw[h1 j hj];grind
  constructor
  ·intro hn r hr
   by_cases e:r=i
   ·subst e;rw[key,hn r hr];grind
   ·rw[<-hn r hr];exact a0g fun j hj=>by rw[h3 r hr e j hj]
  ·intro hn r hr
   by_cases e:r=i
   ·subst e;have:=hn r hr;rw[key]at this;rcases Rat.mul_eq_zero.1 this with h|h
    ·contradiction
    ·exact h
   ·rw[<-hn r hr];exact a0g fun j hj=>by rw[h3 r hr e j hj]
 |@add f g i k a hi hk hik h1 h3=>
  have key:sm c (fun j=>g i j*x j)=sm c (fun j=>f i j*x j)+a*sm c (fun j=>f k j*x j):=by
   rw[<-a1z,<-a5H];exact a0g fun j hj=>by rw[h1 j hj];grind
  constructor
  ·intro hn r hr
   by_cases e:r=i
   ·subst e;rw[key,hn r hr,hn k hk];grind
   ·rw[<-hn r hr];exact a0g fun j hj=>by rw[h3 r hr e j hj]
  ·intro hn r hr
   by_cases e:r=i
   ·subst e
    have h4:=hn r hr;rw[key]at h4;have h5:=hn k hk;rw[show sm c (fun j=>g k j*x j)=sm c (fun j=>f k j*x j)from a0g fun j hj=>by rw[h3 k hk (by omega) j hj]]at h5;rw[h5]at h4;grind
   ·rw[<-hn r hr];exact a0g fun j hj=>by rw[h3 r hr e j hj]
 |trans _ _ ih1 ih2=>exact ih1.trans ih2
def cmb (n:Nat) (f:F2) (y:Nat->Rat) (j:Nat):Rat:=sm n fun i=>y i*f i j
def LI (n c:Nat) (f:F2):Prop:=∀y:Nat->Rat,(∀j,j<c->cmb n f y j=0)->∀i,i<n->y i=0
theorem RE.li {n c:Nat} {f g:F2} {d:Rat} (h:RE n c f g d) (hf:LI n c f):LI n c g:=by
 induction h with
 |same h=>
  intro y hy;exact hf y fun j hj=>by rw[<-hy j hj];exact a0g fun i hi=>by rw[h i hi j hj]
 |@swap f g i k hi hk hik h1 h2 h3=>
  intro y hy;have:=hf (fun r=>if r=i then y k else if r=k then y i else y r) fun j hj=>by
   rw[<-hy j hj];refine b7a i k hi hk hik (fun r hr a b=>?_) ?_
   ·simp[a,b,h3 r hr a b j hj]
   ·simp[hik.symm,h1 j hj,h2 j hj];grind
  intro r hr;by_cases a:r=i
  ·subst a;simpa[hik.symm]using this k hk
  ·by_cases b:r=k
   ·subst b;simpa using this i hi
   ·simpa[a,b]using this r hr
 |@scale f g i a hi ha h1 h3=>
  intro y hy;have:=hf (fun r=>if r=i then a*y i else y r) fun j hj=>by
   rw[<-hy j hj];refine b7P i hi (fun r hr e=>?_) ?_
   ·simp[e,h3 r hr e j hj]
   ·simp[h1 j hj];grind
  intro r hr;by_cases e:r=i
  ·subst e
   have h4:=this r hr;simp only[if_true]at h4;rcases Rat.mul_eq_zero.1 h4 with h4|h4
   ·contradiction
   ·exact h4
  ·simpa[e]using this r hr
 |@add f g i k a hi hk hik h1 h3=>
  intro y hy;have:=hf (fun r=>if r=k then y k+a*y i else y r) fun j hj=>by
   rw[<-hy j hj];refine b7a i k hi hk hik (fun r hr a b=>?_) ?_
   ·simp[b,h3 r hr a j hj]
   ·simp[hik,h1 j hj,h3 k hk hik.symm j hj];grind
  intro r hr;have hyi:y i=0:=by simpa[hik]using this i hi
  by_cases e:r=k
  ·subst e
   have h4:=this r hr;simp[hyi]at h4;grind
  ·simpa[e]using this r hr
 |trans _ _ ih1 ih2=>exact ih2 (ih1 hf)
structure Rref (n c:Nat) (f:F2) (p:List Nat):Prop where
 le:p.length<=n
 lt:∀i (hi:i<p.length),p[i]<c
 inc:∀i k (hik:i<k) (hk:k<p.length),p[i]<p[k]
 left:∀i (hi:i<p.length),∀j,j<p[i]->f i j=0
 one:∀i (hi:i<p.length),f i p[i]=1
 zero:∀k (hk:k<p.length),∀i,i<n->i≠k->f i p[k]=0
 below:∀i,p.length<=i->i<n->∀j,j<c->f i j=0
def nv (f:F2) (p:List Nat) (j:Nat):Nat->Rat:=fun x=>if x=j then 1 else match p.findIdx? (· ==x)with|some i=> - f i j|none=>0
theorem Rref.idx {n c:Nat} {f:F2} {p:List Nat} (h:Rref n c f p) (i:Nat) (hi:i<p.length):p.findIdx? (· ==p[i])=some i:=by
 rw[List.findIdx?_eq_some_iff_getElem];refine⟨hi,by simp,fun j a=>?_⟩;have:=h.inc j i a hi;simp;omega
theorem a6e {p:List Nat} {x:Nat} (h:x∉p):p.findIdx? (· ==x)=none:=by
 rw[List.findIdx?_eq_none_iff];intro y a;simp;rintro rfl;exact h a
theorem Rref.nv_piv {n c:Nat} {f:F2} {p:List Nat} (h:Rref n c f p) {j:Nat} (a:j∉p) (i:Nat) (hi:i<p.length):nv f p j p[i]= - f i j:=by
 unfold nv;rw[if_neg (by rintro e;exact a (e▸List.getElem_mem _)),h.idx i hi]
theorem a3I {f:F2} {p:List Nat} (j:Nat):nv f p j j=1:=by simp[nv]
theorem a6h {f:F2} {p:List Nat} {j x:Nat} (a:x∉p) (b:x≠j):nv f p j x=0:=by
 unfold nv;rw[if_neg b,a6e a]
theorem Rref.row {n c:Nat} {f:F2} {p:List Nat} (h:Rref n c f p) (i:Nat) (hi:i<p.length) (x:Nat->Rat):sm c (fun j=>f i j*x j)=x p[i]+sm c (fun j=>if j∈p then 0 else f i j*x j):=by
 have e:sm c (fun j=>f i j*x j)=sm c (fun j=>(if j=p[i]then x p[i]else 0)+(if j∈p then 0 else f i j*x j)):=by
  refine a0g fun j l=>?_;by_cases d:j∈p
  ·obtain⟨k,g,rfl⟩:=List.getElem_of_mem d
   by_cases b:i=k
   ·subst b;simp[h.one i hi];grind
   ·have hne:p[k]≠p[i]:=by
     rcases Nat.lt_or_gt_of_ne b with a|a
     ·have:=h.inc i k a g;omega
     ·have:=h.inc k i a hi;omega
    simp[hne,h.zero k g i (Nat.lt_of_lt_of_le hi h.le) b];grind
  ·have hne:j≠p[i]:=by rintro rfl;exact d (List.getElem_mem _)
   simp[d,hne];grind
 rw[e,a5H,a1A p[i] (h.lt i hi) (fun j _ l=>by simp[l])];simp
theorem Rref.nv_nul {n c:Nat} {f:F2} {p:List Nat} (h:Rref n c f p) {j:Nat} (g:j∉p) (b:j<c):Nul n c f (nv f p j):=by
 intro i hi;by_cases a:i<p.length
 ·rw[h.row i a,h.nv_piv g i a,a1A j b]
  ·simp[g,a3I];grind
  ·intro k _ d
   by_cases e:k∈p
   ·simp[e]
   ·simp[e,a6h e d]
 ·exact a1W fun k l=>by rw[h.below i (by omega) hi k l];grind
theorem Rref.nv_supp {n c:Nat} {f:F2} {p:List Nat} (h:Rref n c f p) {j:Nat} (e:j∉p) {x:Nat} (d:j<x):nv f p j x=0:=by
 by_cases b:x∈p
 ·obtain⟨k,a,rfl⟩:=List.getElem_of_mem b
  rw[h.nv_piv e k a,h.left k a j d];grind
 ·exact a6h b (by omega)
theorem Rref.sub {n c:Nat} {f g:F2} {p q:List Nat} (h:Rref n c f p) (e:Rref n c g q) (l:∀x,Nul n c f x->Nul n c g x) (j:Nat) (o:j∈q):j∈p:=by
 refine Classical.byContradiction fun b=>?_;obtain⟨k,d,rfl⟩:=List.getElem_of_mem o;have i:=l _ (h.nv_nul b (e.lt k d)) k (Nat.lt_of_lt_of_le d e.le);rw[a1A q[k] (e.lt k d)]at i
 ·rw[e.one k d,a3I]at i;grind
 ·intro x _ m
  rcases Nat.lt_or_gt_of_ne m with a|a
  ·rw[e.left k d x a];grind
  ·rw[h.nv_supp b a];grind
theorem b0B:∀(p q:List Nat),p.Pairwise (· < ·)->q.Pairwise (· < ·)->(∀x,x∈p↔x∈q)->p=q
 | [],[],_,_,_=>rfl
 | [],b::q,_,_,h=>by have:=(h b).2 (by simp);simp at this
 |a::p,[],_,_,h=>by have:=(h a).1 (by simp);simp at this
 |a::p,b::q,hp,hq,h=>by
  rw[List.pairwise_cons]at hp hq;have hab:a=b:=by
   have h1:=(h a).1 (by simp);have h2:=(h b).2 (by simp);simp at h1 h2;rcases h1 with h1|h1
   ·exact h1
   ·rcases h2 with h2|h2
    ·exact h2.symm
    ·have:=hq.1 a h1;have:=hp.1 b h2;omega
  subst hab;rw[b0B p q hp.2 hq.2];intro x;have h3:=h x;simp at h3;constructor
  ·intro hx
   have:=hp.1 x hx;rcases h3.1 (.inr hx)with e|e
   ·omega
   ·exact e
  ·intro hx
   have:=hq.1 x hx;rcases h3.2 (.inr hx)with e|e
   ·omega
   ·exact e
theorem Rref.pw {n c:Nat} {f:F2} {p:List Nat} (h:Rref n c f p):p.Pairwise (· < ·):=by
 rw[List.pairwise_iff_getElem];intro i j hi b a;exact h.inc i j a b
theorem Rref.unique {n c:Nat} {f g:F2} {p q:List Nat} (d:Rref n c f p) (l:Rref n c g q) (o:∀x,Nul n c f x↔Nul n c g x):p=q/\Eqm n c f g:=by
 have t:p=q:=b0B p q d.pw l.pw fun x=>⟨l.sub d (fun x h=>(o x).2 h) x,d.sub l (fun x h=>(o x).1 h) x⟩;subst t;refine⟨rfl,fun i hi j m=>?_⟩;by_cases b:i<p.length
 ·by_cases a:j∈p
  ·obtain⟨k,u,rfl⟩:=List.getElem_of_mem a
   by_cases e:i=k
   ·subst e;rw[d.one i b,l.one i b]
   ·rw[d.zero k u i hi e,l.zero k u i hi e]
  ·have v:=(o _).1 (d.nv_nul a m) i hi
   rw[l.row i b,d.nv_piv a i b,a1A j m]at v
   ·simp[a,a3I]at v;grind
   ·intro k _ r
    by_cases s:k∈p
    ·simp[s]
    ·simp[s,a6h s r]
 ·rw[d.below i (by omega) hi j m,l.below i (by omega) hi j m]
theorem RE.cast {n c:Nat} {f g:F2} {a b:Rat} (h:RE n c f g a) (e:a=b):RE n c f g b:=e▸h
theorem RE.then_ {n c:Nat} {f g h:F2} {a b d:Rat} (j:RE n c f g a) (i:RE n c g h b) (e:a*b=d):RE n c f h d:=e▸j.trans i
theorem RE.addmany {n c:Nat} {f g:F2} (k:Nat) (hk:k<n) (a:Nat->Rat) (h1:∀i,i<n->i≠k->∀j,j<c->g i j=f i j+a i*f k j) (h2:∀j,j<c->g k j=f k j):RE n c f g 1:=by
 have key:∀t,t<=n->RE n c f (fun i j=>if i<t then g i j else f i j) 1:=by
  intro t
  induction t with
  |zero=>intro _;exact .same fun i _ j _=>by simp
  |succ t ih=>
   intro ht;refine(ih (by omega)).then_ (b:=1) ?_ (by grind);by_cases e:t=k
   ·subst e
    refine .same fun i hi j hj=>?_;by_cases a:i<t
    ·simp[a,show i<t+1 by omega]
    ·by_cases b:i=t
     ·subst b;simp[h2 j hj]
     ·simp[a,show¬i<t+1 by omega]
   ·refine .add t k (a t) (by omega) hk e (fun j hj=>?_) (fun r hr hrt j hj=>?_)
    ·have h3:=h1 t (by omega) e j hj
     by_cases b:k<t
     ·simp[b,h3,h2 j hj]
     ·simp[b,h3]
    ·by_cases a:r<t
     ·simp[a,show r<t+1 by omega]
     ·simp[a,show¬r<t+1 by omega]
 refine(key n (Nat.le_refl _)).then_ (.same fun i hi j hj=>?_) (by grind);simp[hi]
structure Ech (n k:Nat) (f:F2) (p:List Nat):Prop where
 le:p.length<=n
 lt:∀i (hi:i<p.length),p[i]<k
 inc:∀i k (hik:i<k) (hk:k<p.length),p[i]<p[k]
 left:∀i (hi:i<p.length),∀j,j<p[i]->f i j=0
 piv:∀i (hi:i<p.length),f i p[i]≠0
 below:∀i,p.length<=i->i<n->∀j,j<k->f i j=0
theorem Ech.nil (n:Nat) (f:F2):Ech n 0 f []:=⟨by simp,by simp,by simp,by simp,by simp,by intros;omega⟩
theorem Ech.skip {n k:Nat} {f:F2} {p:List Nat} (h:Ech n k f p) (hz:∀i,p.length<=i->i<n->f i k=0):Ech n (k+1) f p:=
 ⟨h.le,fun i hi=>Nat.lt_succ_of_lt (h.lt i hi),h.inc,h.left,h.piv,fun i hi a j b=>by
  by_cases e:j=k
  ·subst e;exact hz i hi a
  ·exact h.below i hi a j (by omega)⟩
theorem b2l {p:List Nat} {k:Nat} (h:∀i (hi:i<p.length),p[i]<k) (i:Nat) (hi:i<(p++[k]).length):(p++[k])[i]<k+1:=by
 rw[List.getElem_append];split
 ·have:=h i (by assumption);omega
 ·simp
theorem b0C {p:List Nat} {c:Nat} (h:∀i (hi:i<p.length),p[i]<c) (e:∀i k (b:i<k) (d:k<p.length),p[i]<p[k]) (i k:Nat) (b:i<k) (d:k<(p++[c]).length):(p++[c])[i]<(p++[c])[k]:=by
 simp at d;rw[List.getElem_append,List.getElem_append];by_cases a:k<p.length
 ·simp[a,show i<p.length by omega];exact e i k b a
 ·simp[a,show i<p.length by omega];exact h i (by omega)
theorem Ech.push {n k:Nat} {f g:F2} {p:List Nat} (h:Ech n k f p) (m:p.length<n) (d:∀i,i<p.length->∀j,g i j=f i j)
  (hz:∀i,p.length<=i->i<n->∀j,j<k->g i j=0) (hne:g p.length k≠0) (l:∀i,p.length<i->i<n->g i k=0):Ech n (k+1) g (p++[k]):=by
 refine⟨by simp;omega,b2l h.lt,b0C h.lt h.inc,fun i hi j b=>?_,fun i hi=>?_,fun i hi c j b=>?_⟩
 ·simp at hi
  rw[List.getElem_append]at b;by_cases a:i<p.length
  ·simp[a]at b;rw[d i a];exact h.left i a j b
  ·simp[a]at b;exact hz i (by omega) (by omega) j b
 ·simp at hi
  rw[List.getElem_append];by_cases a:i<p.length
  ·simp only[a,dite_true];rw[d i a];exact h.piv i a
  ·obtain rfl:i=p.length:=by omega
   simpa using hne
 ·simp at hi
  by_cases e:j=k
  ·subst e;exact l i (by omega) c
  ·exact hz i (by omega) c j (by omega)
structure Red (n t:Nat) (f:F2) (p:List Nat):Prop where
 one:∀i (hi:i<p.length),i<t->f i p[i]=1
 zero:∀k (hk:k<p.length),k<t->∀i,i<n->i≠k->f i p[k]=0
theorem Ech.rref {n c:Nat} {f:F2} {p:List Nat} (h:Ech n c f p) (b:Red n p.length f p):Rref n c f p:=
 ⟨h.le,h.lt,h.inc,h.left,fun i hi=>b.one i hi hi,fun k a=>b.zero k a a,h.below⟩
theorem Ech.under {n c:Nat} {f:F2} {p:List Nat} (h:Ech n c f p) (k:Nat) (d:k<p.length) (i:Nat) (hi:i<n) (b:k<i):f i p[k]=0:=by
 by_cases a:i<p.length
 ·exact h.left i a _ (h.inc k i b a)
 ·exact h.below i (by omega) hi _ (h.lt k d)
theorem Red.step {n c t:Nat} {f g:F2} {p:List Nat} (h:Ech n c f p) (u:Red n t f p) (l:t<p.length)
  (v:∀j,g t j=f t j/f t p[t]) (m:∀i,i<t->∀j,g i j=f i j - f i p[t]*g t j) (q:∀i,t<i->∀j,g i j=f i j):Ech n c g p/\Red n (t+1) g p:=by
 have x:=h.piv t l;have hz:∀j,j<p[t]->g t j=0:=fun j e=>by rw[v,h.left t l j e];grind
 have d:g t p[t]=1:=by rw[v];grind
 refine⟨⟨h.le,h.lt,h.inc,fun i hi j e=>?_,fun i hi=>?_,fun i hi w j e=>?_⟩,⟨fun i hi z=>?_,fun k s y i hi r=>?_⟩⟩
 ·rcases Nat.lt_trichotomy i t with a|a|a
  ·rw[m i a,h.left i hi j e,hz j (by have:=h.inc i t a l;omega)];grind
  ·subst a;exact hz j e
  ·rw[q i a];exact h.left i hi j e
 ·rcases Nat.lt_trichotomy i t with a|a|a
  ·rw[m i a,hz _ (h.inc i t a l)];have:=h.piv i hi;grind
  ·subst a;rw[d];grind
  ·rw[q i a];exact h.piv i hi
 ·rw[q i (by omega)];exact h.below i hi w j e
 ·rcases Nat.lt_trichotomy i t with a|a|a
  ·rw[m i a,hz _ (h.inc i t a l),u.one i hi a];grind
  ·subst a;exact d
  ·omega
 ·rcases Nat.lt_trichotomy k t with b|b|b
  ·have o:g t p[k]=0:=hz _ (h.inc k t b l)
   rcases Nat.lt_trichotomy i t with a|a|a
   ·rw[m i a,o,u.zero k s b i hi r];grind
   ·subst a;exact o
   ·rw[q i a];exact u.zero k s b i hi r
  ·subst b
   rcases Nat.lt_trichotomy i k with a|a|a
   ·rw[m i a,d];grind
   ·omega
   ·rw[q i a];exact h.under k s i hi a
  ·omega
theorem Rref.skip {n k:Nat} {f:F2} {p:List Nat} (h:Rref n k f p) (hz:∀i,p.length<=i->i<n->f i k=0):Rref n (k+1) f p:=
 ⟨h.le,fun i hi=>Nat.lt_succ_of_lt (h.lt i hi),h.inc,h.left,h.one,h.zero,fun i hi a j b=>by
  by_cases e:j=k
  ·subst e;exact hz i hi a
  ·exact h.below i hi a j (by omega)⟩
theorem Rref.nil (n:Nat) (f:F2):Rref n 0 f []:=⟨by simp,by simp,by simp,by simp,by simp,by simp,by intros;omega⟩
theorem Rref.push {n k:Nat} {f g:F2} {p:List Nat} (h:Rref n k f p) (o:p.length<n) (hne:f p.length k≠0)
  (s:∀j,g p.length j=f p.length j*(1/f p.length k)) (r:∀i,i<n->i≠p.length->∀j,g i j=f i j+g p.length j* - f i k):Rref n (k+1) g (p++[k]):=by
 have hz:∀j,j<k->g p.length j=0:=fun j b=>by rw[s,h.below _ (Nat.le_refl _) o j b];grind
 have c:g p.length k=1:=by rw[s];grind
 have d:∀i,i<n->i≠p.length->g i k=0:=fun i hi e=>by rw[r i hi e,c];grind
 have hs:∀i,i<n->∀j,j<k->g i j=f i j:=fun i hi j b=>by
  by_cases e:i=p.length
  ·subst e;rw[hz j b,h.below _ (Nat.le_refl _) o j b]
  ·rw[r i hi e,hz j b];grind
 refine⟨by simp;omega,b2l h.lt,b0C h.lt h.inc,fun i hi j b=>?_,fun i hi=>?_,fun q t i hi l=>?_,fun i hi m j b=>?_⟩
 ·simp at hi
  rw[List.getElem_append]at b;by_cases a:i<p.length
  ·simp[a]at b;rw[hs i (by omega) j (by have:=h.lt i a;omega)];exact h.left i a j b
  ·simp[a]at b;obtain rfl:i=p.length:=by omega
   exact hz j b
 ·simp at hi
  rw[List.getElem_append];by_cases a:i<p.length
  ·simp only[a,dite_true];rw[hs i (by omega) _ (h.lt i a)];exact h.one i a
  ·obtain rfl:i=p.length:=by omega
   simpa using c
 ·simp at t
  rw[List.getElem_append];by_cases a:q<p.length
  ·simp only[a,dite_true];rw[hs i hi _ (h.lt q a)];exact h.zero q a i hi l
  ·obtain rfl:q=p.length:=by omega
   simpa using d i hi l
 ·simp at hi
  by_cases e:j=k
  ·subst e;exact d i m (by omega)
  ·rw[hs i m j (by omega)];exact h.below i (by omega) m j (by omega)
abbrev Mat:=List (List Rat)
def ent (m:Mat):F2:=fun i j=>(m.getD i []).getD j 0
def Shp (n c:Nat) (m:Mat):Prop:=m.length=n/\∀r∈m,r.length=c
theorem Shp.row {n c:Nat} {m:Mat} (h:Shp n c m) {i:Nat} (hi:i<n):(m.getD i []).length=c:=by
 have:i<m.length:=by rw[h.1];exact hi
 simp[List.getD_eq_getElem?_getD,this,h.2]
theorem a1O {n c:Nat} {m:Mat} (h:Shp n c m) {i j:Nat} (a:n<=i\/c<=j):ent m i j=0:=by
 unfold ent;by_cases hi:i<n
 ·have:=h.row hi
  rw[List.getD_eq_getElem?_getD,List.getElem?_eq_none (by omega)];rfl
 ·have:=h.1
  rw[List.getD_eq_getElem?_getD (l:=m),List.getElem?_eq_none (by omega)];simp
theorem Shp.ext {n c:Nat} {m a:Mat} (h:Shp n c m) (f:Shp n c a) (k:Eqm n c (ent m) (ent a)):m=a:=by
 refine List.ext_getElem (h.1.trans f.1.symm) fun i e g=>?_;have d:=h.2 _ (List.getElem_mem e);have b:=f.2 _ (List.getElem_mem g);refine List.ext_getElem (d.trans b.symm) fun j o l=>?_;have:=k i (by rw[<-h.1];exact e) j (by omega);simpa[ent,List.getD_eq_getElem?_getD,e,g,o,l]using this
theorem Shp.set {n c:Nat} {m:Mat} (h:Shp n c m) (i:Nat) {r:List Rat} (d:r.length=c):Shp n c (m.set i r):=by
 refine⟨by simp[h.1],fun x b=>?_⟩;rcases List.mem_or_eq_of_mem_set b with a|a
 ·exact h.2 _ a
 ·rw[a];exact d
theorem a7F {m:Mat} {i:Nat} {r:List Rat} (hi:i<m.length) (k j:Nat):ent (m.set i r) k j=if k=i then r.getD j 0 else ent m k j:=by
 unfold ent;simp only[List.getD_eq_getElem?_getD,List.getElem?_set];by_cases e:k=i
 ·subst e;simp[hi]
 ·simp[e,Ne.symm e]
def rows (m:Mat) (f:Nat->List Rat->List Rat):Mat:=m.mapIdx f
theorem Shp.rows {n c:Nat} {m:Mat} (h:Shp n c m) {f:Nat->List Rat->List Rat} (a:∀i,i<n->∀r:List Rat,r.length=c->(f i r).length=c):Shp n c (rows m f):=by
 refine⟨by simp[Lin.rows,h.1],fun x b=>?_⟩;obtain⟨i,hi,rfl⟩:=List.getElem_of_mem b;simp only[Lin.rows,List.length_mapIdx,List.getElem_mapIdx]at hi |-;exact a i (by rw[<-h.1];exact hi) _ (h.2 _ (List.getElem_mem _))
theorem a7G {m:Mat} {f:Nat->List Rat->List Rat} {i:Nat} (hi:i<m.length) (j:Nat):ent (rows m f) i j=(f i (m.getD i [])).getD j 0:=by
 simp[ent,rows,List.getD_eq_getElem?_getD,hi]
def a1f (m:Mat) (i k:Nat):Mat:=(m.set i (m.getD k [])).set k (m.getD i [])
theorem Shp.swap {n c:Nat} {m:Mat} (h:Shp n c m) {i k:Nat} (hi:i<n) (a:k<n):Shp n c (a1f m i k):=(h.set i (h.row a)).set k (h.row hi)
theorem a3q {n c:Nat} {m:Mat} (h:Shp n c m) {i k:Nat} (hi:i<n) (a:k<n) (r j:Nat):ent (a1f m i k) r j=if r=k then ent m i j else if r=i then ent m k j else ent m r j:=by
 unfold a1f;rw[a7F (by simp[h.1,a]),a7F (by simp[h.1,hi])];rfl
theorem a5u (m:Mat) (i:Nat) (hi:i<m.length):a1f m i i=m:=by
 unfold a1f;simp[List.getD_eq_getElem?_getD,hi]
theorem b2m {n c:Nat} {m:Mat} (h:Shp n c m) {i k:Nat} (hi:i<n) (e:k<n) (d:i≠k):RE n c (ent m) (ent (a1f m i k)) (-1):=
 .swap i k hi e d (fun j _=>by rw[a3q h hi e];simp[d]) (fun j _=>by rw[a3q h hi e];simp) (fun r _ a b j _=>by rw[a3q h hi e];simp[a,b])
def a3c (row piv:List Rat) (col:Nat):List Rat:=List.zipWith (fun a x=>a - (row.getD col 0/piv.getD col 0)*x) row piv
theorem a3J (b a:List Rat) (col:Nat) (h:b.length=a.length):(a3c b a col).length=a.length:=by simp[a3c,h]
theorem a8x (a b:List Rat) (col j:Nat) (h:a.length=b.length):(a3c a b col).getD j 0=a.getD j 0 - (a.getD col 0/b.getD col 0)*b.getD j 0:=by
 unfold a3c;simp only[List.getD_eq_getElem?_getD,List.getElem?_zipWith];by_cases c:j<a.length
 ·simp[c,show j<b.length by omega]
 ·simp[show¬j<a.length by omega,show¬j<b.length by omega];grind
theorem b1y (a b:List Rat) (col:Nat) (h:a.length=b.length) (c:a.getD col 0/b.getD col 0=0):a3c a b col=a:=by
 refine List.ext_getElem (by simp[a3c,h]) fun i e d=>?_;simp only[a3c,List.getElem_zipWith,c];grind
abbrev St:=Mat×List Nat×Bool
def clear (m:Mat) (t col:Nat) (s:Nat):Mat:=rows m fun i r=>if t<i/\i<t+1+s then a3c r (m.getD t []) col else r
noncomputable def b2n (m:Mat) (t col:Nat):Option Nat:=(m.drop t).findIdx? fun r=>decide (r.getD col 0≠0)
noncomputable def a6i (s:St) (col:Nat):St:=
 if s.2.1.length=s.1.length then s else
 match b2n s.1 s.2.1.length col with
 |none=>s
 |some k=>(clear (a1f s.1 s.2.1.length (s.2.1.length+k)) s.2.1.length col s.1.length,s.2.1++[col],s.2.2 !=decide (k≠0))
noncomputable def eN (m:Mat):Nat->St
 |0=>(m,[],false)
 |k+1=>a6i (eN m k) k
theorem Shp.clear {n c:Nat} {m:Mat} (h:Shp n c m) {t:Nat} (a:t<n) (col s:Nat):Shp n c (clear m t col s):=
 h.rows fun i hi r b=>by
  split
  ·rw[a3J _ _ _ (by rw[b,h.row a]),h.row a]
  ·exact b
theorem a4G {n c:Nat} {m:Mat} (h:Shp n c m) {t:Nat} (d:t<n) (col s i j:Nat):ent (clear m t col s) i j=if t<i/\i<t+1+s/\i<n then ent m i j - (ent m i col/ent m t col)*ent m t j else ent m i j:=by
 by_cases hi:i<n
 ·unfold Lin.clear
  rw[a7G (by rw[h.1];exact hi)];by_cases a:t<i/\i<t+1+s
  ·simp only[a,and_self,if_true,hi]
   rw[a8x _ _ _ _ (by rw[h.row hi,h.row d])];rfl
  ·rw[if_neg a,if_neg (fun b=>a ⟨b.1,b.2.1⟩)];rfl
 ·rw[a1O (h.clear d col s) (.inl (by omega)),if_neg (by omega),a1O h (.inl (by omega))]
theorem b4M {n c:Nat} {m:Mat} (h:Shp n c m) {t:Nat} (a:t<n) (col s:Nat):RE n c (ent m) (ent (clear m t col s)) 1:=
 .addmany t a (fun i=>if t<i/\i<t+1+s/\i<n then - (ent m i col/ent m t col)else 0)
  (fun i hi e j b=>by rw[a4G h a];split<;>grind) (fun j b=>by rw[a4G h a];simp)
theorem a8y {m:Mat} {t col:Nat} (h:b2n m t col=none) (i:Nat) (hi:t<=i):ent m i col=0:=by
 unfold b2n at h;rw[List.findIdx?_eq_none_iff]at h;by_cases a:i<m.length
 ·have:=h (m[i]) (by rw[List.mem_drop_iff_getElem];exact⟨i - t,by omega,by congr 1;omega⟩)
  unfold ent;simp only[List.getD_eq_getElem?_getD,a,getElem?_pos,Option.getD_some]at this |-;simpa using this
 ·unfold ent;rw[List.getD_eq_getElem?_getD (l:=m),List.getElem?_eq_none (by omega)];simp
theorem a3K {m:Mat} {t col k:Nat} (h:b2n m t col=some k):t+k<m.length/\ent m (t+k) col≠0:=by
 unfold b2n at h;rw[List.findIdx?_eq_some_iff_getElem]at h;obtain⟨c,b,_⟩:=h;simp at c;refine⟨by omega,?_⟩;unfold ent;simp only[List.getElem_drop]at b;have a:t+k<m.length:=by omega
 simp only[List.getD_eq_getElem?_getD,a,getElem?_pos,Option.getD_some]at b |-;simpa using b
structure EOk (n c k:Nat) (m:Mat) (s:St):Prop where
 shp:Shp n c s.1
 ech:Ech n k (ent s.1) s.2.1
 re:RE n c (ent m) (ent s.1) (if s.2.2 then -1 else 1)
theorem EOk.zero {n c:Nat} {m:Mat} (h:Shp n c m):EOk n c 0 m (m,[],false):=⟨h,Ech.nil _ _, .same fun _ _ _ _=>rfl⟩
theorem EOk.step {n c k:Nat} {m:Mat} {s:St} (h:EOk n c k m s):EOk n c (k+1) m (a6i s k):=by
 obtain⟨M,p,g⟩:=s;have hs:Shp n c M:=h.shp;have r:Ech n k (ent M) p:=h.ech;have v:RE n c (ent m) (ent M) (if g then -1 else 1):=h.re;have z:=hs.1;unfold a6i
 dsimp only
 split
 ·rename_i e
  exact⟨hs,r.skip fun i hi l=>by omega,v⟩
 ·rename_i e
  split
  ·rename_i hz
   exact⟨hs,r.skip fun i hi _=>a8y hz i hi,v⟩
  ·rename_i q hz
   obtain⟨A,y⟩:=a3K hz;have d:p.length<n:=by have:=r.le;omega
   have f:p.length+q<n:=by omega
   have o:=hs.swap d f;have t:=fun i j=>a3q hs d f i j;have a:=fun i j=>a4G o d k M.length i j;have u:ent (a1f M p.length (p.length+q)) p.length k≠0:=by
    rw[t];by_cases b:q=0
    ·subst b;simpa using y
    ·simp[b];exact y
   refine⟨o.clear d _ _,r.push d (fun i hi j=>?_) (fun i hi l j w=>?_) ?_ (fun i hi l=>?_),?_⟩
   ·rw[a,if_neg (by omega),t,if_neg (by omega),if_neg (by omega)]
   ·have hz:∀i,p.length<=i->i<n->ent (a1f M p.length (p.length+q)) i j=0:=fun i hi l=>by
     rw[t];split
     ·exact r.below _ (by omega) d j w
     ·split
      ·exact r.below _ (by omega) f j w
      ·exact r.below _ hi l j w
    rw[a];split
    ·rw[hz i hi l,hz p.length (Nat.le_refl _) d];grind
    ·exact hz i hi l
   ·rw[a,if_neg (by omega)];exact u
   ·rw[a,if_pos ⟨hi,by omega,l⟩];grind
   ·have x:=b4M o d k M.length
    by_cases b:q=0
    ·subst b
     rw[Nat.add_zero,a5u M _ (by omega)]at x |-;exact v.then_ x (by cases g<;>simp)
    ·exact v.then_ ((b2m hs d f (by omega)).then_ x rfl) (by cases g<;>simp[b];grind)
theorem a5Y {n c:Nat} {m:Mat} (h:Shp n c m) (k:Nat):EOk n c k m (eN m k):=by
 induction k with
 |zero=>exact EOk.zero h
 |succ k ih=>exact ih.step
theorem b7Q (m:Mat) (k:Nat) (h:(eN m k).2.1.length=(eN m k).1.length) (k':Nat) (hk:k<=k'):eN m k'=eN m k:=by
 induction k' with
 |zero=>
      have:k=0:=by omega
      subst this;rfl
 |succ k' ih=>
  by_cases e:k=k'+1
  ·subst e;rfl
  ·have:=ih (by omega)
   show a6i (eN m k') k'=_
   rw[this];unfold a6i;rw[if_pos h]
def divL (m:Mat) (i col:Nat):Mat:=m.set i ((m.getD i []).map (· /ent m i col))
def above (m:Mat) (i col s:Nat):Mat:=rows m fun k r=>if k<i/\k<s then a3c r (m.getD i []) col else r
def dStep (m:Mat) (i col:Nat):Mat:=above (divL m i col) i col i
theorem a8z (r:List Rat) (a:Rat) (j:Nat):(r.map (· /a)).getD j 0=r.getD j 0/a:=by
 simp only[List.getD_eq_getElem?_getD,List.getElem?_map];cases r[j]? with
 |none=>simp;grind
 |some x=>simp
theorem Shp.divL {n c:Nat} {m:Mat} (h:Shp n c m) {i:Nat} (hi:i<n) (col:Nat):Shp n c (divL m i col):=h.set i (by rw[List.length_map];exact h.row hi)
theorem a3r {n c:Nat} {m:Mat} (h:Shp n c m) {i:Nat} (hi:i<n) (col k j:Nat):ent (divL m i col) k j=if k=i then ent m i j/ent m i col else ent m k j:=by
 unfold divL;rw[a7F (by rw[h.1];exact hi),a8z];rfl
theorem Shp.above {n c:Nat} {m:Mat} (h:Shp n c m) {t:Nat} (a:t<n) (col s:Nat):Shp n c (above m t col s):=
 h.rows fun i hi r b=>by
  split
  ·rw[a3J _ _ _ (by rw[b,h.row a]),h.row a]
  ·exact b
theorem a4H {n c:Nat} {m:Mat} (h:Shp n c m) {t:Nat} (b:t<n) (col s i j:Nat):ent (above m t col s) i j=if i<t/\i<s then ent m i j - (ent m i col/ent m t col)*ent m t j else ent m i j:=by
 by_cases hi:i<n
 ·unfold Lin.above
  rw[a7G (by rw[h.1];exact hi)];by_cases a:i<t/\i<s
  ·simp only[a,and_self,if_true]
   rw[a8x _ _ _ _ (by rw[h.row hi,h.row b])];rfl
  ·rw[if_neg a,if_neg a];rfl
 ·rw[a1O (h.above b col s) (.inl (by omega)),if_neg (by omega),a1O h (.inl (by omega))]
theorem b4N {n c:Nat} {m:Mat} (h:Shp n c m) {t:Nat} (a:t<n) (col s:Nat):RE n c (ent m) (ent (above m t col s)) 1:=
 .addmany t a (fun i=>if i<t/\i<s then - (ent m i col/ent m t col)else 0)
  (fun i hi e j b=>by rw[a4H h a];split<;>grind) (fun j b=>by rw[a4H h a];simp)
theorem b7R {n c:Nat} {m:Mat} (h:Shp n c m) {i:Nat} (hi:i<n) (col:Nat) (hne:ent m i col≠0):RE n c (ent m) (ent (divL m i col)) (1/ent m i col):=
 .scale i _ hi (by intro e;grind) (fun j _=>by rw[a3r h hi];simp;grind) (fun r _ a j _=>by rw[a3r h hi,if_neg a])
noncomputable def dN (m:Mat) (p:List Nat):Nat->Mat
 |0=>m
 |t+1=>dStep (dN m p t) t (p.getD t 0)
structure DOk (n c t:Nat) (m:Mat) (p:List Nat) (s:Mat):Prop where
 shp:Shp n c s
 ech:Ech n c (ent s) p
 red:Red n t (ent s) p
 re:∃d,RE n c (ent m) (ent s) d
theorem DOk.step {n c t:Nat} {m:Mat} {p:List Nat} {s:Mat} (h:DOk n c t m p s) (l:t<p.length):DOk n c (t+1) m p (dStep s t (p.getD t 0)):=by
 have a:t<n:=Nat.lt_of_lt_of_le l h.ech.le;have v:p.getD t 0=p[t]:=by simp[List.getD_eq_getElem?_getD,l]
 rw[v];have u:=h.shp.divL a p[t];have r:=h.ech.piv t l;have e:=fun k j=>a3r h.shp a p[t] k j;have o:=fun i j=>a4H u a p[t] t i j;obtain⟨d,q⟩:=h.re;have f:ent (divL s t p[t]) t p[t]=1:=by rw[e];simp;grind
 have b:∀j,ent (dStep s t p[t]) t j=ent s t j/ent s t p[t]:=fun j=>by
  unfold dStep;rw[o,if_neg (by omega),e];simp
 have:=Red.step (g:=ent (dStep s t p[t])) h.ech h.red l b (fun i hi j=>by
   rw[b];unfold dStep;rw[o,if_pos ⟨hi,hi⟩,f,e,e,e,if_neg (by omega),if_neg (by omega),if_pos rfl];grind) (fun i hi j=>by
   unfold dStep;rw[o,if_neg (by omega),e,if_neg (by omega)])
 exact⟨u.above a _ _,this.1,this.2,_,q.trans ((b7R h.shp a _ r).trans (b4N u a _ _))⟩
theorem b7S {n c:Nat} {m:Mat} {p:List Nat} (h:Shp n c m) (he:Ech n c (ent m) p) (t:Nat) (ht:t<=p.length):DOk n c t m p (dN m p t):=by
 induction t with
 |zero=>exact⟨h,he,⟨by intros;omega,by intros;omega⟩,1, .same fun _ _ _ _=>rfl⟩
 |succ t ih=>exact(ih (by omega)).step (by omega)
noncomputable def a1d (m:Mat) (c:Nat):Mat×List Nat:=(dN (eN m c).1 (eN m c).2.1 (eN m c).2.1.length,(eN m c).2.1)
theorem a1p {n c:Nat} {m:Mat} (h:Shp n c m):Shp n c (a1d m c).1/\Rref n c (ent (a1d m c).1) (a1d m c).2/\∃d,RE n c (ent m) (ent (a1d m c).1) d:=by
 have b:=a5Y h c;have a:=b7S b.shp b.ech _ (Nat.le_refl _);obtain⟨d,e⟩:=a.re;exact⟨a.shp,a.ech.rref a.red,_,b.re.trans e⟩
abbrev Sr:=Mat×List Nat×Rat
def pv (m:Mat) (t col:Nat):Mat:=m.set t ((m.getD t []).map (· *(1/ent m t col)))
def out (m:Mat) (t col:Nat) (s:Nat):Mat:=rows m fun i r=>if i≠t/\i<s then List.zipWith (· + ·) r ((m.getD t []).map (· * - r.getD col 0))else r
noncomputable def a6j (s:Sr) (col:Nat):Sr:=
 match b2n s.1 s.2.1.length col with
 |none=>s
 |some k=>(out (pv (a1f s.1 (s.2.1.length+k) s.2.1.length) s.2.1.length col) s.2.1.length col s.1.length,s.2.1++[col],(if k=0 then s.2.2 else - s.2.2)*ent (a1f s.1 (s.2.1.length+k) s.2.1.length) s.2.1.length col)
noncomputable def rN (m:Mat):Nat->Sr
 |0=>(m,[],1)
 |k+1=>a6j (rN m k) k
theorem a5I (r:List Rat) (a:Rat) (j:Nat):(r.map (· *a)).getD j 0=r.getD j 0*a:=by
 simp only[List.getD_eq_getElem?_getD,List.getElem?_map];cases r[j]? with
 |none=>simp
 |some x=>simp
theorem b7T (a b:List Rat) (h:a.length=b.length) (j:Nat):(List.zipWith (· + ·) a b).getD j 0=a.getD j 0+b.getD j 0:=by
 simp only[List.getD_eq_getElem?_getD,List.getElem?_zipWith];by_cases c:j<a.length
 ·simp[c,show j<b.length by omega]
 ·simp[show¬j<a.length by omega,show¬j<b.length by omega];grind
theorem Shp.pv {n c:Nat} {m:Mat} (h:Shp n c m) {i:Nat} (hi:i<n) (col:Nat):Shp n c (pv m i col):=h.set i (by rw[List.length_map];exact h.row hi)
theorem b2o {n c:Nat} {m:Mat} (h:Shp n c m) {i:Nat} (hi:i<n) (col k j:Nat):ent (pv m i col) k j=if k=i then ent m i j*(1/ent m i col)else ent m k j:=by
 unfold pv;rw[a7F (by rw[h.1];exact hi),a5I];rfl
theorem Shp.out {n c:Nat} {m:Mat} (h:Shp n c m) {t:Nat} (b:t<n) (col s:Nat):Shp n c (out m t col s):=
 h.rows fun i hi r a=>by
  split
  ·rw[List.length_zipWith,List.length_map,a,h.row b];omega
  ·exact a
theorem b0D {n c:Nat} {m:Mat} (h:Shp n c m) {t:Nat} (d:t<n) (col s i j:Nat):ent (out m t col s) i j=if i≠t/\i<s/\i<n then ent m i j+ent m t j* - ent m i col else ent m i j:=by
 by_cases hi:i<n
 ·unfold Lin.out
  rw[a7G (by rw[h.1];exact hi)];by_cases a:i≠t/\i<s
  ·rw[if_pos a,if_pos ⟨a.1,a.2,hi⟩,b7T _ _ (by rw[List.length_map,h.row hi,h.row d]),a5I];rfl
  ·rw[if_neg a,if_neg (fun b=>a ⟨b.1,b.2.1⟩)];rfl
 ·rw[a1O (h.out d col s) (.inl (by omega)),if_neg (by omega),a1O h (.inl (by omega))]
structure ROk (n c k:Nat) (m:Mat) (s:Sr):Prop where
 shp:Shp n c s.1
 ref:Rref n k (ent s.1) s.2.1
 re:∃d,RE n c (ent m) (ent s.1) d/\s.2.2*d=1
theorem ROk.step {n c k:Nat} {m:Mat} {s:Sr} (h:ROk n c k m s):ROk n c (k+1) m (a6j s k):=by
 obtain⟨M,p,I⟩:=s;have hs:Shp n c M:=h.shp;have u:Rref n k (ent M) p:=h.ref;obtain⟨d,C,N⟩:∃d,RE n c (ent m) (ent M) d/\I*d=1:=h.re;have P:=hs.1;unfold a6j
 dsimp only
 split
 ·rename_i hz
  exact⟨hs,u.skip fun i hi _=>a8y hz i hi,d,C,N⟩
 ·rename_i q hz
  obtain⟨O,K⟩:=a3K hz;have g:p.length<n:=by omega
  have w:p.length+q<n:=by omega
  have F:=hs.swap w g;have B:=fun i j=>a3q hs w g i j;have D:=F.pv g k;have f:=fun i j=>b2o F g k i j;have v:=fun i j=>b0D D g k M.length i j;have x:ent (a1f M (p.length+q) p.length) p.length k≠0:=by rw[B,if_pos rfl];exact K
  have G:Rref n k (ent (a1f M (p.length+q) p.length)) p:=by
   have z:∀i,i<p.length->∀j,ent (a1f M (p.length+q) p.length) i j=ent M i j:=fun i hi j=>by
    rw[B,if_neg (by omega),if_neg (by omega)]
   have E:∀i,p.length<=i->i<n->∀j,j<k->ent (a1f M (p.length+q) p.length) i j=0:=fun i hi L j A=>by
    rw[B];split
    ·exact u.below _ (by omega) w j A
    ·split
     ·exact u.below _ (by omega) g j A
     ·exact u.below _ hi L j A
   refine⟨u.le,u.lt,u.inc,fun i hi j A=>by rw[z i hi];exact u.left i hi j A,fun i hi=>by rw[z i hi];exact u.one i hi,fun t J i hi H=>?_,E⟩;by_cases a:i<p.length
   ·rw[z i a];exact u.zero t J i hi H
   ·exact E i (by omega) hi _ (u.lt t J)
  have y:∀j,ent (out (pv (a1f M (p.length+q) p.length) p.length k) p.length k M.length) p.length j=ent (a1f M (p.length+q) p.length) p.length j*(1/ent (a1f M (p.length+q) p.length) p.length k):=fun j=>by
   rw[v,if_neg (by omega),f,if_pos rfl]
  refine⟨D.out g _ _,G.push g x y (fun i hi hne j=>?_),?_⟩
  ·rw[y,v,if_pos ⟨hne,by omega,hi⟩,f,f,f,if_neg hne,if_neg hne,if_pos rfl]
  ·have o:RE n c (ent (a1f M (p.length+q) p.length)) (ent (pv (a1f M (p.length+q) p.length) p.length k)) (1/ent (a1f M (p.length+q) p.length) p.length k):=
    .scale p.length _ g (by intro e;grind) (fun j _=>by rw[f];simp;grind) (fun r _ C j _=>by rw[f,if_neg C])
   have l:RE n c (ent (pv (a1f M (p.length+q) p.length) p.length k)) (ent (out (pv (a1f M (p.length+q) p.length) p.length k) p.length k M.length)) 1:=
    .addmany p.length g (fun i=>if i≠p.length/\i<M.length/\i<n then - ent (pv (a1f M (p.length+q) p.length) p.length k) i k else 0)
     (fun i hi e j A=>by rw[v];split<;>grind) (fun j A=>by rw[v];simp)
   by_cases b:q=0
   ·subst b
    rw[Nat.add_zero,a5u M _ (by omega)]at o l x |-;exact⟨_,C.trans (o.trans l),by simp;grind⟩
   ·exact⟨_,C.trans ((b2m hs w g (by omega)).trans (o.trans l)),by simp[b];grind⟩
theorem a5Z {n c:Nat} {m:Mat} (h:Shp n c m) (k:Nat):ROk n c k m (rN m k):=by
 induction k with
 |zero=>exact⟨h,Rref.nil _ _,1, .same fun _ _ _ _=>rfl,by show(1:Rat)*1=1;grind⟩
 |succ k ih=>exact ih.step
theorem b2p {n c:Nat} {m:Mat} (h:Shp n c m):(a1d m c).1=(rN m c).1/\(a1d m c).2=(rN m c).2.1:=by
 obtain⟨i,f,d,g⟩:=a1p h;have a:=a5Z h c;obtain⟨e,b,_⟩:=a.re;have:=f.unique a.ref fun x=>((g.nul x).symm.trans (b.nul x));exact⟨i.ext a.shp this.2,this.1⟩
def det:Nat->F2->Rat
 |0,_=>1
 |n+1,f=>sm (n+1) fun i=>(if i%2=0 then 1 else -1)*f i 0*det n fun r c=>f (if r<i then r else r+1) (c+1)
theorem a1q {n:Nat} {f g:F2} (h:Eqm n n f g):det n f=det n g:=by
 induction n generalizing f g with
 |zero=>rfl
 |succ n ih=>
  unfold det;refine a0g fun i hi=>?_;rw[h i hi 0 (by omega),ih (g:=fun r c=>g (if r<i then r else r+1) (c+1)) fun r hr c hc=>h _ (by split<;>omega) _ (by omega)]
theorem c1m (f:F2):det 0 f=1:=rfl
theorem a8A (f:F2):det 1 f=f 0 0:=by simp[det,sm];grind
theorem a8B (f:F2):det 2 f=f 0 0*f 1 1 - f 1 0*f 0 1:=by simp[det,sm];grind
theorem a8C (f:F2):det 3 f=f 0 0*(f 1 1*f 2 2 - f 2 1*f 1 2) - f 1 0*(f 0 1*f 2 2 - f 2 1*f 0 2)+f 2 0*(f 0 1*f 1 2 - f 1 1*f 0 2):=by
 simp[det,sm];grind
theorem a8D (f:F2):det 4 f=f 0 0*(f 1 1*(f 2 2*f 3 3 - f 3 2*f 2 3) - f 2 1*(f 1 2*f 3 3 - f 3 2*f 1 3)+f 3 1*(f 1 2*f 2 3 - f 2 2*f 1 3))
  - f 1 0*(f 0 1*(f 2 2*f 3 3 - f 3 2*f 2 3) - f 2 1*(f 0 2*f 3 3 - f 3 2*f 0 3)+f 3 1*(f 0 2*f 2 3 - f 2 2*f 0 3))
  +f 2 0*(f 0 1*(f 1 2*f 3 3 - f 3 2*f 1 3) - f 1 1*(f 0 2*f 3 3 - f 3 2*f 0 3)+f 3 1*(f 0 2*f 1 3 - f 1 2*f 0 3))
  - f 3 0*(f 0 1*(f 1 2*f 2 3 - f 2 2*f 1 3) - f 1 1*(f 0 2*f 2 3 - f 2 2*f 0 3)+f 2 1*(f 0 2*f 1 3 - f 1 2*f 0 3)):=by
 simp[det,sm];grind
theorem lt4 {P:Nat->Prop} (h0:P 0) (h1:P 1) (h2:P 2) (h3:P 3) (i:Nat) (hi:i<4):P i:=by
 match i,hi with
 |0,_=>exact h0
 |1,_=>exact h1
 |2,_=>exact h2
 |3,_=>exact h3
theorem lt1 {P:Nat->Prop} (h0:P 0) (i:Nat) (hi:i<1):P i:=by
 match i,hi with
 |0,_=>exact h0
theorem b2q (f g:F2) (i k:Nat) (hi:i<1) (m:k<1) (a:i≠k) (h:∀j,j<1->g i j=f k j) (c:∀j,j<1->g k j=f i j) (d:∀r,r<1->r≠i->r≠k->∀j,j<1->g r j=f r j):det 1 g= - det 1 f:=by
 have e:Eqm 1 1 g (fun r j=>if r=i then f k j else if r=k then f i j else f r j):=fun r l j b=>by
  dsimp only;split
  ·subst_vars;exact h j b
  ·split
   ·subst_vars;exact c j b
   ·exact d r l (by assumption) (by assumption) j b
 rw[a1q e];clear e h c d
 revert a
 revert k
 revert i
 refine lt1 ?_<;>refine lt1 ?_<;>intro a<;>first|exact absurd rfl a|(rw[a8A,a8A];simp;try grind)
theorem b1z (f g:F2) (i:Nat) (a:Rat) (hi:i<1) (c:∀j,j<1->g i j=a*f i j) (b:∀r,r<1->r≠i->∀j,j<1->g r j=f r j):det 1 g=a*det 1 f:=by
 have e:Eqm 1 1 g (fun r j=>if r=i then a*f i j else f r j):=fun r h j d=>by
  dsimp only;split
  ·subst_vars;exact c j d
  ·exact b r h (by assumption) j d
 rw[a1q e];clear e c b
 revert i
 refine lt1 ?_<;>(rw[a8A,a8A];simp;try grind)
theorem b4O (f g:F2) (i k:Nat) (a:Rat) (hi:i<1) (m:k<1) (b:i≠k) (h:∀j,j<1->g i j=f i j+a*f k j) (d:∀r,r<1->r≠i->∀j,j<1->g r j=f r j):det 1 g=det 1 f:=by
 have e:Eqm 1 1 g (fun r j=>if r=i then f i j+a*f k j else f r j):=fun r l j c=>by
  dsimp only;split
  ·subst_vars;exact h j c
  ·exact d r l (by assumption) j c
 rw[a1q e];clear e h d
 revert b
 revert k
 revert i
 refine lt1 ?_<;>refine lt1 ?_<;>intro b<;>first|exact absurd rfl b|(rw[a8A,a8A];simp;try grind)
theorem b4P (f:F2) (_:∀i j,i<1->j<i->f i j=0):det 1 f=f 0 0:=by
 rw[a8A]
theorem lt2 {P:Nat->Prop} (h0:P 0) (h1:P 1) (i:Nat) (hi:i<2):P i:=by
 match i,hi with
 |0,_=>exact h0
 |1,_=>exact h1
theorem b2r (f g:F2) (i k:Nat) (hi:i<2) (m:k<2) (a:i≠k) (h:∀j,j<2->g i j=f k j) (c:∀j,j<2->g k j=f i j) (d:∀r,r<2->r≠i->r≠k->∀j,j<2->g r j=f r j):det 2 g= - det 2 f:=by
 have e:Eqm 2 2 g (fun r j=>if r=i then f k j else if r=k then f i j else f r j):=fun r l j b=>by
  dsimp only;split
  ·subst_vars;exact h j b
  ·split
   ·subst_vars;exact c j b
   ·exact d r l (by assumption) (by assumption) j b
 rw[a1q e];clear e h c d
 revert a
 revert k
 revert i
 refine lt2 ?_ ?_<;>refine lt2 ?_ ?_<;>intro a<;>first|exact absurd rfl a|(rw[a8B,a8B];simp;try grind)
theorem b1A (f g:F2) (i:Nat) (a:Rat) (hi:i<2) (c:∀j,j<2->g i j=a*f i j) (b:∀r,r<2->r≠i->∀j,j<2->g r j=f r j):det 2 g=a*det 2 f:=by
 have e:Eqm 2 2 g (fun r j=>if r=i then a*f i j else f r j):=fun r h j d=>by
  dsimp only;split
  ·subst_vars;exact c j d
  ·exact b r h (by assumption) j d
 rw[a1q e];clear e c b
 revert i
 refine lt2 ?_ ?_<;>(rw[a8B,a8B];simp;try grind)
theorem b4Q (f g:F2) (i k:Nat) (a:Rat) (hi:i<2) (m:k<2) (b:i≠k) (h:∀j,j<2->g i j=f i j+a*f k j) (d:∀r,r<2->r≠i->∀j,j<2->g r j=f r j):det 2 g=det 2 f:=by
 have e:Eqm 2 2 g (fun r j=>if r=i then f i j+a*f k j else f r j):=fun r l j c=>by
  dsimp only;split
  ·subst_vars;exact h j c
  ·exact d r l (by assumption) j c
 rw[a1q e];clear e h d
 revert b
 revert k
 revert i
 refine lt2 ?_ ?_<;>refine lt2 ?_ ?_<;>intro b<;>first|exact absurd rfl b|(rw[a8B,a8B];simp;try grind)
theorem b4R (f:F2) (h:∀i j,i<2->j<i->f i j=0):det 2 f=f 0 0*f 1 1:=by
 have a:=h 1 0 (by omega) (by omega);rw[a8B];simp[a];try grind
theorem lt3 {P:Nat->Prop} (h0:P 0) (h1:P 1) (h2:P 2) (i:Nat) (hi:i<3):P i:=by
 match i,hi with
 |0,_=>exact h0
 |1,_=>exact h1
 |2,_=>exact h2
theorem b2s (f g:F2) (i k:Nat) (hi:i<3) (m:k<3) (a:i≠k) (h:∀j,j<3->g i j=f k j) (c:∀j,j<3->g k j=f i j) (d:∀r,r<3->r≠i->r≠k->∀j,j<3->g r j=f r j):det 3 g= - det 3 f:=by
 have e:Eqm 3 3 g (fun r j=>if r=i then f k j else if r=k then f i j else f r j):=fun r l j b=>by
  dsimp only;split
  ·subst_vars;exact h j b
  ·split
   ·subst_vars;exact c j b
   ·exact d r l (by assumption) (by assumption) j b
 rw[a1q e];clear e h c d
 revert a
 revert k
 revert i
 refine lt3 ?_ ?_ ?_<;>refine lt3 ?_ ?_ ?_<;>intro a<;>first|exact absurd rfl a|(rw[a8C,a8C];simp;try grind)
theorem b1B (f g:F2) (i:Nat) (a:Rat) (hi:i<3) (c:∀j,j<3->g i j=a*f i j) (b:∀r,r<3->r≠i->∀j,j<3->g r j=f r j):det 3 g=a*det 3 f:=by
 have e:Eqm 3 3 g (fun r j=>if r=i then a*f i j else f r j):=fun r h j d=>by
  dsimp only;split
  ·subst_vars;exact c j d
  ·exact b r h (by assumption) j d
 rw[a1q e];clear e c b
 revert i
 refine lt3 ?_ ?_ ?_<;>(rw[a8C,a8C];simp;try grind)
theorem b4S (f g:F2) (i k:Nat) (a:Rat) (hi:i<3) (m:k<3) (b:i≠k) (h:∀j,j<3->g i j=f i j+a*f k j) (d:∀r,r<3->r≠i->∀j,j<3->g r j=f r j):det 3 g=det 3 f:=by
 have e:Eqm 3 3 g (fun r j=>if r=i then f i j+a*f k j else f r j):=fun r l j c=>by
  dsimp only;split
  ·subst_vars;exact h j c
  ·exact d r l (by assumption) j c
 rw[a1q e];clear e h d
 revert b
 revert k
 revert i
 refine lt3 ?_ ?_ ?_<;>refine lt3 ?_ ?_ ?_<;>intro b<;>first|exact absurd rfl b|(rw[a8C,a8C];simp;try grind)
theorem b4T (f:F2) (h:∀i j,i<3->j<i->f i j=0):det 3 f=f 0 0*f 1 1*f 2 2:=by
 have a:=h 1 0 (by omega) (by omega);have c:=h 2 0 (by omega) (by omega);have b:=h 2 1 (by omega) (by omega);rw[a8C];simp[a,c,b];try grind
theorem b2t (f g:F2) (i k:Nat) (hi:i<4) (m:k<4) (a:i≠k) (h:∀j,j<4->g i j=f k j) (c:∀j,j<4->g k j=f i j) (d:∀r,r<4->r≠i->r≠k->∀j,j<4->g r j=f r j):det 4 g= - det 4 f:=by
 have e:Eqm 4 4 g (fun r j=>if r=i then f k j else if r=k then f i j else f r j):=fun r l j b=>by
  dsimp only;split
  ·subst_vars;exact h j b
  ·split
   ·subst_vars;exact c j b
   ·exact d r l (by assumption) (by assumption) j b
 rw[a1q e];clear e h c d
 revert a
 revert k
 revert i
 refine lt4 ?_ ?_ ?_ ?_<;>refine lt4 ?_ ?_ ?_ ?_<;>intro a<;>first|exact absurd rfl a|(rw[a8D,a8D];simp;try grind)
theorem b1C (f g:F2) (i:Nat) (a:Rat) (hi:i<4) (c:∀j,j<4->g i j=a*f i j) (b:∀r,r<4->r≠i->∀j,j<4->g r j=f r j):det 4 g=a*det 4 f:=by
 have e:Eqm 4 4 g (fun r j=>if r=i then a*f i j else f r j):=fun r h j d=>by
  dsimp only;split
  ·subst_vars;exact c j d
  ·exact b r h (by assumption) j d
 rw[a1q e];clear e c b
 revert i
 refine lt4 ?_ ?_ ?_ ?_<;>(rw[a8D,a8D];simp;try grind)
theorem b4U (f g:F2) (i k:Nat) (a:Rat) (hi:i<4) (m:k<4) (b:i≠k) (h:∀j,j<4->g i j=f i j+a*f k j) (d:∀r,r<4->r≠i->∀j,j<4->g r j=f r j):det 4 g=det 4 f:=by
 have e:Eqm 4 4 g (fun r j=>if r=i then f i j+a*f k j else f r j):=fun r l j c=>by
  dsimp only;split
  ·subst_vars;exact h j c
  ·exact d r l (by assumption) j c
 rw[a1q e];clear e h d
 revert b
 revert k
 revert i
 refine lt4 ?_ ?_ ?_ ?_<;>refine lt4 ?_ ?_ ?_ ?_<;>intro b<;>first|exact absurd rfl b|(rw[a8D,a8D];simp;try grind)
theorem b4V (f:F2) (h:∀i j,i<4->j<i->f i j=0):det 4 f=f 0 0*f 1 1*f 2 2*f 3 3:=by
 have d:=h 1 0 (by omega) (by omega);have b:=h 2 0 (by omega) (by omega);have e:=h 2 1 (by omega) (by omega);have g:=h 3 0 (by omega) (by omega);have a:=h 3 1 (by omega) (by omega);have c:=h 3 2 (by omega) (by omega);rw[a8D];simp[d,b,e,g,a,c];try grind
theorem RE.det_same {n:Nat} {f g:F2} {d:Rat} (hn:n<=4) (h:RE n n f g d):det n g=d*det n f:=by
 induction h with
 |same h=>rw[a1q h];grind
 |swap i k hi hk hik h1 h2 h3=>
  match n,hn with
  |1,_=>rw[b2q _ _ i k hi hk hik h1 h2 h3];grind
  |2,_=>rw[b2r _ _ i k hi hk hik h1 h2 h3];grind
  |3,_=>rw[b2s _ _ i k hi hk hik h1 h2 h3];grind
  |4,_=>rw[b2t _ _ i k hi hk hik h1 h2 h3];grind
 |scale i a hi ha h1 h3=>
  match n,hn with
  |1,_=>exact b1z _ _ i a hi h1 h3
  |2,_=>exact b1A _ _ i a hi h1 h3
  |3,_=>exact b1B _ _ i a hi h1 h3
  |4,_=>exact b1C _ _ i a hi h1 h3
 |add i k a hi hk hik h1 h3=>
  match n,hn with
  |1,_=>rw[b4O _ _ i k a hi hk hik h1 h3];grind
  |2,_=>rw[b4Q _ _ i k a hi hk hik h1 h3];grind
  |3,_=>rw[b4S _ _ i k a hi hk hik h1 h3];grind
  |4,_=>rw[b4U _ _ i k a hi hk hik h1 h3];grind
 |trans _ _ ih1 ih2=>rw[ih2,ih1];grind
def pr:Nat->(Nat->Rat)->Rat
 |0,_=>1
 |n+1,f=>pr n f*f n
theorem b7U {n:Nat} (hn:n<=4) (f:F2) (h:∀i j,i<n->j<i->f i j=0):det n f=pr n fun i=>f i i:=by
 match n,hn with
 |0,_=>rfl
 |1,_=>rw[b4P f h];simp[pr];try grind
 |2,_=>rw[b4R f h];simp[pr];try grind
 |3,_=>rw[b4T f h];simp[pr];try grind
 |4,_=>rw[b4V f h];simp[pr];try grind
theorem b0E {n:Nat} (a:n<=4) (f:F2) (i:Nat) (hi:i<n) (h:∀j,j<n->f i j=0):det n f=0:=by
 have:=(RE.scale (n:=n) (c:=n) (f:=f) (g:=f) i 2 hi (by grind) (fun j b=>by rw[h j b];grind) (fun _ _ _ _ _=>rfl)).det_same a;grind
theorem Ech.ge {n k:Nat} {f:F2} {p:List Nat} (h:Ech n k f p) (i:Nat) (hi:i<p.length):i<=p[i]:=by
 induction i with
 |zero=>omega
 |succ i ih=>have:=ih (by omega);have:=h.inc i (i+1) (by omega) hi;omega
theorem Ech.det {n:Nat} {f:F2} {p:List Nat} (b:n<=4) (h:Ech n n f p):Lin.det n f=pr n fun i=>f i i:=
 b7U b f fun i j hi c=>by
  by_cases a:i<p.length
  ·exact h.left i a j (by have:=h.ge i a;omega)
  ·exact h.below i (by omega) hi j (by omega)
theorem Rref.ge {n k:Nat} {f:F2} {p:List Nat} (h:Rref n k f p) (i:Nat) (hi:i<p.length):i<=p[i]:=by
 induction i with
 |zero=>omega
 |succ i ih=>have:=ih (by omega);have:=h.inc i (i+1) (by omega) hi;omega
theorem Rref.diag {n c:Nat} {f:F2} {p:List Nat} (h:Rref n c f p) (hp:p.length=n) (hc:∀i (hi:i<p.length),p[i]<n) (i:Nat) (hi:i<n):p[i]'(by omega)=i:=by
 have h1:∀q,q<n->∀hq:n - 1 - q<p.length,p[n - 1 - q]<=n - 1 - q:=by
  intro q
  induction q with
  |zero=>intro h0 hq;have:=hc _ hq;omega
  |succ q ih=>
   intro h0 hq;have h2:=ih (by omega) (by omega);have h3:=h.inc (n - 1 - (q+1)) (n - 1 - q) (by omega) (by omega);omega
 have h2:=h1 (n - 1 - i) (by omega) (by omega);have h3:=h.ge i (by omega);have e:n - 1 - (n - 1 - i)=i:=by omega
 simp only[e]at h2;omega
theorem Rref.unit {n c:Nat} {f:F2} {p:List Nat} (h:Rref n c f p) (b:p.length=n) (d:∀i (hi:i<p.length),p[i]<n):Eqm n n f fun i j=>if i=j then 1 else 0:=fun i hi j g=>by
 have a:=h.diag b d j g;by_cases e:i=j
 ·subst e
  have:=h.one i (by omega);rw[a]at this;simpa using this
 ·have:=h.zero j (by omega) i hi e;rw[a]at this;simpa[e]using this
theorem b0F {n:Nat} (hn:n<=4):det n (fun i j=>if i=j then 1 else 0)=1:=by
 match n,hn with
 |0,_=>rfl
 |1,_=>rw[a8A];simp
 |2,_=>rw[a8B];simp;try grind
 |3,_=>rw[a8C];simp;try grind
 |4,_=>rw[a8D];simp;try grind
theorem Rref.det {n:Nat} {f:F2} {p:List Nat} (a:n<=4) (h:Rref n n f p):Lin.det n f=if p.length=n then 1 else 0:=by
 have b:=h.le;split
 ·rename_i e
  rw[a1q (h.unit e h.lt),b0F a]
 ·exact b0E a f p.length (by omega) (h.below _ (Nat.le_refl _) (by omega))
def mul (n:Nat) (f g:F2):F2:=fun i j=>sm n fun k=>f i k*g k j
def ofF (n c:Nat) (f:F2):Mat:=(List.range n).map fun i=>(List.range c).map (f i)
theorem a9B (n c:Nat) (f:F2):Shp n c (ofF n c f):=⟨by simp[ofF],fun r a=>by
 obtain⟨i,_,rfl⟩:=List.mem_map.1 a;simp⟩
theorem b2u (n c:Nat) (f:F2):Eqm n c (ent (ofF n c f)) f:=fun i hi j a=>by simp[ent,ofF,List.getD_eq_getElem?_getD,hi,a]
theorem RE.congr {n c:Nat} {f a g:F2} {d:Rat} (h:RE n c f g d) (e:Eqm n c a f):RE n c a g d:=(RE.same e).then_ h (by grind)
theorem a9C (n c:Nat) (f:F2):∃r p d,Rref n c r p/\RE n c f r d:=by
 obtain⟨_,a,d,b⟩:=a1p (a9B n c f);exact⟨_,_,d,a,b.congr fun i hi j e=>(b2u n c f i hi j e).symm⟩
theorem RE.factor {n c r:Nat} {f g:F2} {d:Rat} (h:RE n c f g d) (b:F2) (hf:∃a,Eqm n c f (mul r a b)):∃a,Eqm n c g (mul r a b):=by
 induction h with
 |same h=>obtain⟨a,ha⟩:=hf;exact⟨a,fun i hi j hj=>(h i hi j hj).symm.trans (ha i hi j hj)⟩
 |swap i k hi hk hik h1 h2 h3=>
  obtain⟨a,ha⟩:=hf;refine⟨fun q=>if q=i then a k else if q=k then a i else a q,fun q hq j hj=>?_⟩;by_cases e:q=i
  ·subst e;rw[h1 j hj,ha k hk j hj];simp[mul]
  ·by_cases e2:q=k
   ·subst e2;rw[h2 j hj,ha i hi j hj];simp[mul,e]
   ·rw[h3 q hq e e2 j hj,ha q hq j hj];simp[mul,e,e2]
 |scale i x hi hx h1 h3=>
  obtain⟨a,ha⟩:=hf;refine⟨fun q=>if q=i then fun k=>x*a i k else a q,fun q hq j hj=>?_⟩;by_cases e:q=i
  ·subst e;rw[h1 j hj,ha q hq j hj];simp only[mul,if_true];rw[<-a1z];exact a0g fun k _=>by grind
  ·rw[h3 q hq e j hj,ha q hq j hj];simp[mul,e]
 |add i k x hi hk hik h1 h3=>
  obtain⟨a,ha⟩:=hf;refine⟨fun q=>if q=i then fun y=>a i y+x*a k y else a q,fun q hq j hj=>?_⟩;by_cases e:q=i
  ·subst e;rw[h1 j hj,ha q hq j hj,ha k hk j hj];simp only[mul,if_true];rw[<-a1z,<-a5H];exact a0g fun k _=>by grind
  ·rw[h3 q hq e j hj,ha q hq j hj];simp[mul,e]
 |trans _ _ ih1 ih2=>exact ih2 (ih1 hf)
theorem b7V {n c r:Nat} {f g:F2} {p:List Nat} {d:Rat} (o:Rref n c g p) (h:RE n c f g d) (a b:F2) (C:Eqm n c f (mul r a b)):p.length<=r:=by
 refine Classical.byContradiction fun E=>?_;obtain⟨t,A⟩:=h.factor b ⟨a,C⟩;obtain⟨s,q,e,hs,H⟩:=a9C r p.length (fun k i=>t i k);have G:∃j,j<p.length/\j∉q:=by
  refine Classical.byContradiction fun u=>?_;have m:∀j,j<p.length->j∈q:=fun j l=>Classical.byContradiction fun h=>u ⟨j,l,h⟩;have y:(List.range p.length).length<=q.length:=(List.nodup_range).length_le_of_subset fun j l=>m j (List.mem_range.1 l);rw[List.length_range]at y;have:=hs.le;omega
 obtain⟨j,l,w⟩:=G;have y:=(H.nul _).2 (hs.nv_nul w l);have B:∀x,x<c->sm p.length (fun i=>nv s q j i*g i x)=0:=fun x F=>by
  have I:sm p.length (fun i=>nv s q j i*g i x)=sm p.length (fun i=>sm r fun k=>(t i k*nv s q j i)*b k x):=a0g fun i hi=>by
   have:=o.le;rw[A i (by omega) x F];unfold mul;rw[<-a1z];exact a0g fun k _=>by grind
  rw[I,a2x];exact a1W fun k D=>by
   have:=y k D;rw[a0g (g:=fun i=>b k x*(t i k*nv s q j i)) fun i _=>by grind,a1z,this];grind
 have z:=B p[j] (o.lt j l);rw[a1A j l fun i hi v=>by rw[o.zero j l i (by have:=o.le;omega) v];grind]at z;rw[a3I,o.one j l]at z;grind
theorem b1D {n c:Nat} {f g:F2} {p:List Nat} {d:Rat} (e:Rref n c g p) (h:RE n c f g d):Eqm n c f (mul p.length (fun i k=>f i (p.getD k 0)) g):=by
 intro i hi j s;have m:∀k (a:k<p.length),p.getD k 0=p[k]:=fun k a=>by simp[List.getD_eq_getElem?_getD,a]
 have u:=e.le;have l:∀(F:F2) (i:Nat),sm c (fun x=>F i x*((if x=j then 1 else 0) - sm p.length fun k=>if x=p.getD k 0 then g k j else 0))=F i j - sm p.length (fun k=>F i (p.getD k 0)*g k j):=fun F i=>by
  have y:sm c (fun x=>F i x*((if x=j then 1 else 0) - sm p.length fun k=>if x=p.getD k 0 then g k j else 0))=sm c (fun x=>(if x=j then F i j else 0) - sm p.length fun k=>if x=p.getD k 0 then F i x*g k j else 0):=a0g fun x _=>by
   have:F i x*sm p.length (fun k=>if x=p.getD k 0 then g k j else 0)=sm p.length fun k=>if x=p.getD k 0 then F i x*g k j else 0:=by
    rw[<-a1z];exact a0g fun k _=>by split<;>grind
   rw[<-this];split
   ·subst_vars;grind
   ·grind
  rw[y,a7f,a1A j s fun x _ o=>by simp[o],a2x];simp only[if_true]
  congr 1
  exact a0g fun k a=>by
   rw[m k a,a1A p[k] (e.lt k a) fun x _ o=>by simp[o]];simp
 have t:Nul n c g (fun x=>(if x=j then 1 else 0) - sm p.length fun k=>if x=p.getD k 0 then g k j else 0):=fun q r=>by
  rw[l g q];by_cases b:q<p.length
  ·rw[a1A q b fun k a v=>by rw[m k a,e.zero k a q r (by omega)];grind]
   rw[m q b,e.one q b];grind
  ·rw[e.below q (by omega) r j s,a1W fun k a=>by rw[m k a,e.below q (by omega) r _ (e.lt k a)];grind];grind
 have w:=(h.nul _).2 t i hi;rw[l f i]at w
 show f i j=sm p.length fun k=>f i (p.getD k 0)*g k j
 grind
theorem LI.full {n c:Nat} {f r:F2} {p:List Nat} {d:Rat} (e:LI n c f) (a:Rref n c r p) (h:RE n c f r d):p.length=n:=by
 have b:=a.le;refine Classical.byContradiction fun hne=>?_;have:=(h.li e) (fun i=>if i=p.length then 1 else 0) (fun j g=>by
  unfold cmb;rw[a1A p.length (by omega) fun i _ hi=>by simp[hi]];rw[a.below _ (Nat.le_refl _) (by omega) j g];grind) p.length (by omega)
 simp at this
def a4p (r:F2) (p:List Nat) (c:Nat):Mat:=((List.range c).filter (· ∉p)).map fun j=>(List.range c).map (nv r p j)
theorem b4W (r:F2) (p:List Nat) (c:Nat):LI (a4p r p c).length c (ent (a4p r p c)):=by
 intro y q i hi;have d:i<((List.range c).filter (· ∉p)).length:=by simpa[a4p]using hi
 have b:=List.getElem_mem d;rw[List.mem_filter,List.mem_range]at b;have o:=q _ b.1;have m:((List.range c).filter (· ∉p))[i]∉p:=by simpa using b.2
 have n:∀k (h:k<((List.range c).filter (· ∉p)).length),ent (a4p r p c) k ((List.range c).filter (· ∉p))[i]=nv r p ((List.range c).filter (· ∉p))[k] ((List.range c).filter (· ∉p))[i]:=fun k h=>by
  unfold ent a4p;rw[List.getD_eq_getElem?_getD (l:=List.map _ _),List.getElem?_map,List.getElem?_eq_getElem h];simp only[Option.map_some,Option.getD_some];rw[List.getD_eq_getElem?_getD,List.getElem?_map,List.getElem?_range b.1];rfl
 unfold cmb at o;rw[a1A i hi fun k h j=>by
  have f:k<((List.range c).filter (· ∉p)).length:=by simpa[a4p]using h
  have hne:((List.range c).filter (· ∉p))[i]≠((List.range c).filter (· ∉p))[k]:=fun e=>by
   have g:((List.range c).filter (· ∉p)).Pairwise (· < ·):=List.Pairwise.filter _ List.pairwise_lt_range;rw[List.pairwise_iff_getElem]at g;rcases Nat.lt_or_gt_of_ne j with a|a
   ·have:=g k i f d a;omega
   ·have:=g i k d f a;omega
  rw[n k f,a6h m hne];grind,n i d,a3I]at o
 grind
def b2v (r:F2) (p:List Nat) (c:Nat):Nat->Rat:=fun x=>match p.findIdx? (· ==x)with|some i=>r i c|none=>0
def a3d (c:Nat) (f:F2) (b:Nat->Rat):F2:=fun i j=>if j=c then b i else f i j
theorem b4X {n c:Nat} {f:F2} {b:Nat->Rat} (x:Nat->Rat):Nul n (c+1) (a3d c f b) (fun j=>if j=c then -1 else x j)↔∀i,i<n->sm c (fun j=>f i j*x j)=b i:=by
 have a:∀i,sm (c+1) (fun j=>a3d c f b i j*(if j=c then -1 else x j))=sm c (fun j=>f i j*x j) - b i:=fun i=>by
  show sm c _+_=_
  rw[a0g (g:=fun j=>f i j*x j) fun j d=>by simp[a3d,show j≠c by omega]];simp[a3d];grind
 constructor
 ·intro h i hi;have:=h i hi;rw[a]at this;grind
 ·intro h i hi;rw[a,h i hi];grind
theorem b9K {n c:Nat} {f r:F2} {b:Nat->Rat} {p:List Nat} {d:Rat} (g:Rref n (c+1) r p) (h:RE n (c+1) (a3d c f b) r d) (l:c∉p):∀i,i<n->sm c (fun j=>f i j*b2v r p c j)=b i:=by
 refine(b4X (b2v r p c)).1 ((h.nul _).2 fun i hi=>?_);by_cases a:i<p.length
 ·rw[g.row i a]
  have q:p[i]≠c:=by rintro rfl;exact l (List.getElem_mem _)
  rw[if_neg q,a1A c (by omega) fun k s o=>?_]
  ·simp only[b2v,g.idx i a,l,if_false,if_true];grind
  ·split
   ·rfl
   ·rename_i e
    simp only[b2v,a6e e];grind
 ·exact a1W fun j m=>by rw[g.below i (by omega) hi j m];grind
abbrev Vec:=Nat->Rat
def dot (c:Nat) (u v:Vec):Rat:=sm c fun j=>u j*v j
def nz (c:Nat) (u:Vec):Prop:=∃j,j<c/\u j≠0
theorem a2s (c:Nat) (u v:Vec):dot c u v=dot c v u:=a0g fun j _=>by grind
theorem b7W (c:Nat) (u v x:Vec):dot c (fun j=>u j+v j) x=dot c u x+dot c v x:=by
 unfold dot;rw[<-a5H];exact a0g fun j _=>by grind
theorem b7X (c:Nat) (a:Rat) (u x:Vec):dot c (fun j=>a*u j) x=a*dot c u x:=by
 unfold dot;rw[<-a1z];exact a0g fun j _=>by grind
theorem a6k (c:Nat) (u v:Vec) (t:Rat) (x:Vec):dot c (fun j=>u j+t*v j) x=dot c u x+t*dot c v x:=by
 rw[b7W c u (fun j=>t*v j),b7X]
theorem a8E {c:Nat} {u u' v:Vec} (h:∀j,j<c->u j=u' j):dot c u v=dot c u' v:=a0g fun j a=>by rw[h j a]
theorem a3s {c:Nat} {u v:Vec} (h:∀j,j<c->u j=0):dot c u v=0:=a1W fun j a=>by rw[h j a];grind
theorem b2w {n:Nat} {f:Nat->Rat} (h:∀i,i<n->0<=f i):0<=sm n f:=by
 induction n with
 |zero=>exact Rat.le_refl
 |succ n ih=>unfold sm;have:=ih fun i hi=>h i (by omega);have:=h n (by omega);grind
theorem a9D {n:Nat} {f:Nat->Rat} (h:∀i,i<n->0<=f i) (h0:sm n f=0):∀i,i<n->f i=0:=by
 induction n with
 |zero=>intro i hi;omega
 |succ n ih=>
  unfold sm at h0;have h1:=b2w (n:=n) fun i hi=>h i (by omega);have h2:=h n (by omega);have h3:sm n f=0:=by grind
  have h4:f n=0:=by grind
  intro i hi;by_cases e:i=n
  ·subst e;exact h4
  ·exact ih (fun i hi=>h i (by omega)) h3 i (by omega)
theorem b2x (a:Rat):0<=a*a:=by
 rcases Rat.le_total (a:=0) (b:=a)with h|h
 ·exact Rat.mul_nonneg h h
 ·have:0<=(-a)*(-a):=Rat.mul_nonneg (by grind) (by grind)
  grind
theorem b4Y {c:Nat} {u:Vec} (h:dot c u u=0):∀j,j<c->u j=0:=fun j a=>by
 have:=a9D (fun i _=>b2x (u i)) h j a;rcases Rat.mul_eq_zero.1 this with e|e<;>exact e
theorem b9L {c:Nat} {u:Vec} (h:¬∀j,j<c->u j=0):nz c u:=by
 apply Classical.byContradiction;intro a;exact h fun j b=>Classical.byContradiction fun e=>a ⟨j,b,e⟩
theorem nz.not {c:Nat} {u:Vec} (h:nz c u):¬∀j,j<c->u j=0:=fun k=>let ⟨j,a,e⟩:=h;e (k j a)
theorem b9M {c:Nat} {u v:Vec} (h:dot c u v≠0):nz c u:=b9L fun k=>h (a3s k)
def a4A (c:Nat) (u:Vec) (z:List Vec):Nat:=z.countP fun v=>decide (0<=dot c u v)
def a9E (c:Nat) (u:Vec) (z:List Vec):Nat:=z.countP fun v=>decide (0<dot c u v)
def onL (c:Nat) (u:Vec) (z:List Vec):List Vec:=z.filter fun v=>decide (dot c u v=0)
def a4q (c:Nat) (z:List Vec) (k:Nat):Prop:=(∃u,nz c u/\a4A c u z=k)/\∀u,nz c u->k<=a4A c u z
theorem b4Z {P:Nat->Prop} (n:Nat) (h:P n):∃k,P k/\∀m,P m->k<=m:=by
 induction n using Nat.strongRecOn with
 |_ n ih=>
  by_cases hs:∃m,m<n/\P m
  ·obtain⟨m,h1,h2⟩:=hs;exact ih m h1 h2
  ·exact⟨n,h,fun m hm=>by
    rcases Nat.lt_or_ge m n with h1|h1
    ·exact absurd ⟨m,h1,hm⟩ hs
    ·exact h1⟩
theorem b9N {c:Nat} (d:0<c) (z:List Vec):∃k,a4q c z k:=by
 obtain⟨k,e,b⟩:=b4Z (P:=fun k=>∃u,nz c u/\a4A c u z=k) (a4A c (fun _=>1) z) ⟨fun _=>1,⟨0,d,by grind⟩,rfl⟩;exact⟨k,e,fun u a=>b _ ⟨u,a,rfl⟩⟩
theorem b5a (c:Nat) (u:Vec) (z:List Vec):a4A c u z<=z.length:=List.countP_le_length
theorem a4q.le {c:Nat} {z:List Vec} {k:Nat} (h:a4q c z k):k<=z.length:=by
 obtain⟨⟨u,_,a⟩,_⟩:=h;rw[<-a];exact b5a _ _ _
def c1g (c:Nat) (u y:Vec) (z:List Vec) (e:Rat):Prop:=∀v∈z,(0<dot c u v->∀t,0<t->t<=e->0<dot c u v+t*dot c y v)/\(dot c u v<0->∀t,0<t->t<=e->dot c u v+t*dot c y v<0)
theorem b9O (a b:Rat):∃e,0<e/\(0<a->∀t,0<t->t<=e->0<a+t*b):=by
 by_cases d:0<a
 ·by_cases g:0<=b
  ·exact⟨1,by decide,fun _ t f _=>by have:=Rat.mul_nonneg (a:=t) (b:=b) (by grind) g;grind⟩
  ·have c:0< -b:=by grind
   refine⟨a/(2* -b),?_,fun _ t f i=>?_⟩
   ·rw[Rat.div_def];exact Rat.mul_pos d (Rat.inv_pos.2 (by grind))
   ·have j:t*(2* -b)<=a/(2* -b)*(2* -b):=Rat.mul_le_mul_of_nonneg_right i (by grind)
    rw[Rat.div_mul_cancel (by grind)]at j;have k:=Rat.mul_pos f c;grind
 ·exact⟨1,by decide,fun h=>absurd h d⟩
theorem c1g.le {c:Nat} {u y:Vec} {z:List Vec} {e d:Rat} (h:c1g c u y z e) (i:d<=e):c1g c u y z d:=fun v g=>
 ⟨fun f t a b=>(h v g).1 f t a (Rat.le_trans b i),fun f t a b=>(h v g).2 f t a (Rat.le_trans b i)⟩
theorem b7Y (c:Nat) (u y:Vec) (z:List Vec):∃e,0<e/\c1g c u y z e:=by
 induction z with
 |nil=>exact⟨1,by decide,fun v hv=>by simp at hv⟩
 |cons v z ih=>
  obtain⟨e1,h1,h2⟩:=ih;obtain⟨e2,h3,h4⟩:=b9O (dot c u v) (dot c y v);obtain⟨e3,h5,h6⟩:=b9O (-dot c u v) (-dot c y v);obtain⟨e,he,l1,l2,l3⟩:∃e,0<e/\e<=e1/\e<=e2/\e<=e3:=by
   by_cases a:e1<=e2
   ·by_cases b:e1<=e3
    ·exact⟨e1,h1,Rat.le_refl,a,b⟩
    ·exact⟨e3,h5,by grind,by grind,Rat.le_refl⟩
   ·by_cases b:e2<=e3
    ·exact⟨e2,h3,by grind,Rat.le_refl,b⟩
    ·exact⟨e3,h5,by grind,by grind,Rat.le_refl⟩
  refine⟨e,he,fun w hw=>?_⟩;rcases List.mem_cons.1 hw with rfl|hw
  ·refine⟨fun g t g1 g2=>h4 g t g1 (Rat.le_trans g2 l2),fun g t g1 g2=>?_⟩
   have:=h6 (by grind) t g1 (Rat.le_trans g2 l3);grind
  ·exact(h2.le l1) w hw
theorem b2y (c:Nat) (u u' u2:Vec) (z:List Vec) (h:∀v∈z,(0<dot c u v->0<dot c u2 v)/\(dot c u v<0->dot c u2 v<0)/\(dot c u v=0->(0<=dot c u2 v↔0<=dot c u' v))):a4A c u2 z=a9E c u z+a4A c u' (onL c u z):=by
 induction z with
 |nil=>rfl
 |cons v z ih=>
  have ih:=ih fun w hw=>h w (List.mem_cons_of_mem _ hw);obtain⟨h1,h2,h3⟩:=h v List.mem_cons_self;unfold a4A a9E onL at*;rw[List.countP_cons,List.countP_cons,List.filter_cons,ih];by_cases a:0<dot c u v
  ·have b:=h1 a
   rw[if_pos (by simp;grind),if_pos (by simpa using a),if_neg (by simp;grind)];omega
  ·by_cases b:dot c u v=0
   ·have k:=h3 b
    rw[if_neg (c:=decide (0<dot c u v)=true) (by simpa using a),if_pos (c:=decide (dot c u v=0)=true) (by simpa using b),List.countP_cons];by_cases g:0<=dot c u2 v
    ·rw[if_pos (by simpa using g),if_pos (by simpa using k.1 g)];omega
    ·rw[if_neg (by simpa using g),if_neg (by simpa using fun x=>g (k.2 x))];omega
   ·have k:=h2 (by grind)
    rw[if_neg (by simp;grind),if_neg (by simpa using a),if_neg (by simpa using b)];omega
theorem c2k {c:Nat} {u u':Vec} (m:nz c u) (z:List Vec):∃k,nz c k/\a4A c k z=a9E c u z+a4A c u' (onL c u z):=by
 obtain⟨j,n,hne⟩:=m;have b:dot c u (fun i=>if i=j then 1 else 0)=u j:=by
  unfold dot;rw[a1A j n (fun i _ h=>by simp[h])];simp
 obtain⟨e,a,f⟩:=b7Y c u u' ((fun i=>if i=j then 1 else 0)::z);refine⟨fun i=>u i+e*u' i,?_,b2y c u u' _ z fun v g=>⟨fun h=>?_,fun h=>?_,fun h=>?_⟩⟩
 ·have d:=f _ List.mem_cons_self
  rw[b]at d;apply b9M (v:=fun i=>if i=j then 1 else 0);rw[a6k,b];by_cases h:0<u j
  ·have:=d.1 h e a Rat.le_refl;grind
  ·have:=d.2 (by grind) e a Rat.le_refl;grind
 ·rw[a6k];exact(f v (List.mem_cons_of_mem _ g)).1 h e a Rat.le_refl
 ·rw[a6k];exact(f v (List.mem_cons_of_mem _ g)).2 h e a Rat.le_refl
 ·rw[a6k,h]
  constructor
  ·intro l
   apply Classical.byContradiction;intro o;have:=Rat.mul_pos a (show 0< - dot c u' v by grind);grind
  ·intro l;have:=Rat.mul_nonneg (Rat.le_of_lt a) l;grind
theorem a4q.lower {c:Nat} {z:List Vec} {k l:Nat} (h:a4q c z k) {u:Vec} (d:nz c u) (a:a4q c (onL c u z) l):k<=a9E c u z+l:=by
 obtain⟨⟨u',i,g⟩,_⟩:=a;obtain⟨b,e,f⟩:=c2k (u':=u') d z;have:=h.2 b e;omega
def Ort (c:Nat) (M:List Vec) (y:Vec):Prop:=∀v∈M,dot c v y=0
theorem Ort.app {c:Nat} {M L:List Vec} {y:Vec}:Ort c (M++L) y↔Ort c M y/\Ort c L y:=by
 constructor
 ·exact fun h=>⟨fun v a=>h v (List.mem_append_left _ a),fun v a=>h v (List.mem_append_right _ a)⟩
 ·rintro ⟨d,b⟩ v a
  rcases List.mem_append.1 a with a|a
  ·exact d v a
  ·exact b v a
theorem a7H (c:Nat) (v u y:Vec) (t:Rat):dot c v (fun j=>u j+t*y j)=dot c v u+t*dot c v y:=by
 rw[a2s,a6k,a2s c u v,a2s c y v]
theorem Ort.lin {c:Nat} {M:List Vec} {u y:Vec} (t:Rat) (d:Ort c M u) (b:Ort c M y):Ort c M (fun j=>u j+t*y j):=fun v a=>by
 rw[a7H,d v a,b v a];grind
theorem Ort.congr {c:Nat} {M:List Vec} {u y:Vec} (h:∀j,j<c->u j=y j) (b:Ort c M u):Ort c M y:=fun v a=>by
 rw[a2s,<-a8E h,a2s];exact b v a
theorem b7Z (c k:Nat) (f:F2) (a:Vec) (v:Vec):dot c v (fun j=>cmb k f a j)=sm k fun i=>a i*dot c v (f i):=by
 unfold dot cmb;rw[a0g (g:=fun j=>sm k fun i=>v j*(a i*f i j)) fun j _=>(a1z k (v j) _).symm,a2x];exact a0g fun i _=>by rw[<-a1z];exact a0g fun j _=>by grind
structure Basis (c:Nat) (P:Vec->Prop) (k:Nat) (f:F2):Prop where
 mem:∀i,i<k->P (f i)
 li:LI k c f
 span:∀y,P y->∃a:Vec,∀j,j<c->y j=cmb k f a j
theorem b2z {k m c:Nat} {f g:F2} (o:LI k c f) (h:∀i,i<k->∃a:Vec,∀j,j<c->f i j=cmb m g a j):k<=m:=by
 obtain⟨r,p,d,e,l⟩:=a9C k c f;have s:=o.full e l;have b:∀i,∃a:Vec,i<k->∀j,j<c->f i j=cmb m g a j:=fun i=>by
  by_cases hi:i<k
  ·obtain⟨a,q⟩:=h i hi;exact⟨a,fun _=>q⟩
  ·exact⟨fun _=>0,fun h=>absurd h hi⟩
 have:=b7V e l (fun i=>(b i).choose) g fun i hi j n=>(b i).choose_spec hi j n;omega
theorem Basis.le {c:Nat} {P Q:Vec->Prop} {k m:Nat} {f g:F2} (h:Basis c P k f) (b:Basis c Q m g) (a:∀y,P y->Q y):k<=m:=
 b2z h.li fun i hi=>b.span _ (a _ (h.mem i hi))
theorem b5b {n c:Nat} {r:F2} {p:List Nat} (h:Rref n c r p) {x:Vec} (hx:Nul n c r x) (j:Nat) (hj:j<c):x j=cmb (a4p r p c).length (ent (a4p r p c)) (fun i=>x (((List.range c).filter (· ∉p)).getD i 0)) j:=by
 obtain⟨F,hF⟩:∃F,(List.range c).filter (· ∉p)=F:=⟨_,rfl⟩;have hlen:(a4p r p c).length=F.length:=by rw[<-hF];simp[a4p]
 have he:∀i (hi:i<F.length),ent (a4p r p c) i j=nv r p F[i] j:=fun i hi=>by
  unfold ent a4p;rw[hF,List.getD_eq_getElem?_getD (l:=List.map _ _),List.getElem?_map,List.getElem?_eq_getElem hi];simp only[Option.map_some,Option.getD_some];rw[List.getD_eq_getElem?_getD,List.getElem?_map,List.getElem?_range hj];rfl
 have hFm:∀q,q∈F↔q<c/\q∉p:=fun q=>by rw[<-hF];simp
 have hnd:F.Pairwise (· < ·):=by rw[<-hF];exact List.Pairwise.filter _ List.pairwise_lt_range
 have hgd:∀i (hi:i<F.length),F.getD i 0=F[i]:=fun i hi=>by simp[List.getD_eq_getElem?_getD,hi]
 rw[hF,hlen];unfold cmb;rw[a0g (g:=fun i=>x (F.getD i 0)*nv r p (F.getD i 0) j) fun i hi=>by rw[he i hi];dsimp only;rw[hgd i hi]];by_cases hjp:j∈p
 ·obtain⟨i0,hi0,rfl⟩:=List.getElem_of_mem hjp
  have hn:∀q,q∉p->nv r p q p[i0]= - r i0 q:=fun q hq=>h.nv_piv hq i0 hi0;have hrow:=h.row i0 hi0 x;have h0:=hx i0 (by have:=h.le;omega);rw[hrow]at h0;have key:∀(g:Nat->Rat),sm F.length (fun i=>g (F.getD i 0))=sm c (fun q=>if q∈p then 0 else g q):=fun g=>by
   have gen:∀(k:Nat) (G:List Nat),G=(List.range k).filter (· ∉p)->sm G.length (fun i=>g (G.getD i 0))=sm k (fun q=>if q∈p then 0 else g q):=by
    intro k
    induction k with
    |zero=>intro G hG;subst hG;rfl
    |succ k ih=>
     intro G hG;rw[List.range_succ,List.filter_append]at hG;have ih:=ih _ rfl
     show _=sm k _+_
     by_cases hk:k∈p
     ·have:(List.filter (· ∉p) [k])= []:=by simp[hk]
      rw[this,List.append_nil]at hG;subst hG;rw[ih];simp[hk];grind
     ·have:(List.filter (· ∉p) [k])= [k]:=by simp[hk]
      rw[this]at hG;subst hG;obtain⟨H,hH⟩:∃H,List.filter (· ∉p) (List.range k)=H:=⟨_,rfl⟩;rw[hH]at ih |-;rw[List.length_append,<-ih]
      show sm H.length _+_=_
      congr 1
      ·exact a0g fun i hi=>by simp[List.getD_eq_getElem?_getD,List.getElem?_append_left hi]
      ·simp[hk,List.getD_eq_getElem?_getD]
   exact gen c F hF.symm
  have k1:=key (fun q=>x q* - r i0 q);have k2:sm c (fun q=>if q∈p then 0 else x q* - r i0 q)= - sm c (fun q=>if q∈p then 0 else r i0 q*x q):=by
   have:=a1z c (-1) (fun q=>if q∈p then 0 else r i0 q*x q);rw[show -sm c (fun q=>if q∈p then 0 else r i0 q*x q)= -1*sm c (fun q=>if q∈p then 0 else r i0 q*x q)by grind,<-this];exact a0g fun q _=>by split<;>grind
  have k3:sm F.length (fun i=>x (F.getD i 0)*nv r p (F.getD i 0) p[i0])=sm F.length (fun i=>x (F.getD i 0)* - r i0 (F.getD i 0)):=a0g fun i hi=>by
   rw[hgd i hi,hn _ ((hFm _).1 (List.getElem_mem hi)).2]
  rw[k3,k1,k2];grind
 ·obtain⟨i0,hi0,hij⟩:=List.getElem_of_mem ((hFm j).2 ⟨hj,hjp⟩)
  rw[a1A i0 hi0 fun i hi hne=>by
   rw[hgd i hi];have:F[i]≠j:=fun e=>by
    rw[List.pairwise_iff_getElem]at hnd;rcases Nat.lt_or_gt_of_ne hne with a|a
    ·have:=hnd i i0 hi hi0 a;omega
    ·have:=hnd i0 i hi0 hi a;omega
   rw[a6h hjp (Ne.symm this)];grind]
  rw[hgd i0 hi0,hij,a3I];grind
theorem b1E {n c:Nat} {f r:F2} {p:List Nat} {d:Rat} (k:Rref n c r p) (h:RE n c f r d):Basis c (Nul n c f) (a4p r p c).length (ent (a4p r p c)):=by
 refine⟨fun i hi=>?_,b4W r p c,fun y o=>⟨_,fun j g=>b5b k ((h.nul y).1 o) j g⟩⟩;have a:i<((List.range c).filter (· ∉p)).length:=by simpa[a4p]using hi
 have b:=List.getElem_mem a;rw[List.mem_filter,List.mem_range]at b;have e:((List.range c).filter (· ∉p))[i]∉p:=by simpa using b.2
 have s:=(h.nul _).2 (k.nv_nul e b.1);intro q m;rw[<-s q m];refine a0g fun j g=>?_
 congr 1
 unfold ent a4p;rw[List.getD_eq_getElem?_getD (l:=List.map _ _),List.getElem?_map,List.getElem?_eq_getElem a];simp only[Option.map_some,Option.getD_some];rw[List.getD_eq_getElem?_getD,List.getElem?_map,List.getElem?_range g];rfl
def fL (M:List Vec):F2:=fun i=>M.getD i fun _=>0
theorem b8a (c:Nat) (M:List Vec) (y:Vec):Ort c M y↔Nul M.length c (fL M) y:=by
 constructor
 ·intro h i hi
  have:=h M[i] (List.getElem_mem hi);unfold dot at this;rw[<-this];exact a0g fun j _=>by simp[fL,List.getD_eq_getElem?_getD,hi]
 ·intro h v a
  obtain⟨i,hi,rfl⟩:=List.getElem_of_mem a;have:=h i hi;unfold dot;rw[<-this];exact a0g fun j _=>by simp[fL,List.getD_eq_getElem?_getD,hi]
def Dim (c:Nat) (M:List Vec) (k:Nat):Prop:=∃f,Basis c (Ort c M) k f
theorem Basis.of_iff {c:Nat} {P Q:Vec->Prop} {k:Nat} {f:F2} (h:Basis c P k f) (a:∀y,P y↔Q y):Basis c Q k f:=
 ⟨fun i hi=>(a _).1 (h.mem i hi),h.li,fun y b=>h.span y ((a y).2 b)⟩
theorem b2A (c:Nat) (M:List Vec):∃k,Dim c M k:=by
 obtain⟨r,p,d,a,h⟩:=a9C M.length c (fL M);exact⟨_,_,(b1E a h).of_iff fun y=>(b8a c M y).symm⟩
theorem Dim.iff {c:Nat} {M L:List Vec} {k:Nat} (h:Dim c M k) (a:∀y,Ort c M y↔Ort c L y):Dim c L k:=let ⟨f,b⟩:=h;⟨f,b.of_iff a⟩
theorem Dim.more {c:Nat} {M:List Vec} {k:Nat} (h:Dim c M (k+1)) {v y:Vec} (z:Ort c M y) (A:dot c v y≠0):Dim c (M++[v]) k:=by
 obtain⟨f,r⟩:=h;obtain⟨m,g,s⟩:=b2A c (M++[v]);have b:∀a j,cmb (m+1) (fun i=>if i<m then g i else y) a j=cmb m g a j+a m*y j:=fun a j=>by
  unfold cmb
  show sm m _+_=_
  congr 1
  ·exact a0g fun i hi=>by simp[hi]
  ·simp
 have o:∀i,i<m->Ort c M (g i)/\dot c v (g i)=0:=fun i hi=>by
  have:=Ort.app.1 (s.mem i hi);exact⟨this.1,this.2 v (by simp)⟩
 have I:m+1<=k+1:=by
  refine b2z (c:=c) (f:=fun i=>if i<m then g i else y) (g:=f) (fun a l=>?_) fun i hi=>?_
  ·have G:dot c v (fun j=>cmb m g a j+a m*y j)=0:=by
    rw[a2s];exact a3s fun j d=>by rw[<-b];exact l j d
   rw[a7H c v (fun j=>cmb m g a j) y (a m),b7Z,a1W fun i hi=>by rw[(o i hi).2];grind]at G;have p:a m=0:=by
    have:a m*dot c v y=0:=by grind
    rcases Rat.mul_eq_zero.1 this with e|e
    ·exact e
    ·contradiction
   have x:=s.li a fun j d=>by have:=l j d;rw[b,p]at this;grind
   intro i hi;by_cases e:i=m
   ·subst e;exact p
   ·exact x i (by omega)
  ·by_cases n:i<m
   ·obtain⟨a,l⟩:=r.span _ (o i n).1
    exact⟨a,fun j d=>by simp only[n,if_true];exact l j d⟩
   ·obtain⟨a,l⟩:=r.span _ z
    exact⟨a,fun j d=>by simp only[n,if_false];exact l j d⟩
 have x:k+1<=m+1:=by
  refine b2z (c:=c) (f:=f) (g:=fun i=>if i<m then g i else y) r.li fun i hi=>?_;have u:=r.mem i hi;obtain⟨t,B⟩:∃t,dot c v (f i)/dot c v y=t:=⟨_,rfl⟩;have C:t*dot c v y=dot c v (f i):=by rw[<-B];exact Rat.div_mul_cancel A
  obtain⟨a,l⟩:=s.span (fun j=>f i j+ -t*y j) (Ort.app.2 ⟨u.lin (-t) z,fun w E=>by
   have:w=v:=by simpa using E
   subst this;rw[a7H];grind⟩)
  refine⟨fun q=>if q<m then a q else t,fun j d=>?_⟩;rw[b];have H:=l j d;have D:cmb m g (fun q=>if q<m then a q else t) j=cmb m g a j:=a0g fun q F=>by simp[F]
  simp only[Nat.lt_irrefl,if_false];rw[D];grind
 have:m=k:=by omega
 subst this;exact⟨g,s⟩
theorem Dim.one {c:Nat} {M:List Vec} (h:Dim c M 1) {x:Vec} (n:Ort c M x) (m:nz c x) (y:Vec) (p:Ort c M y):∃t:Rat,∀j,j<c->y j=t*x j:=by
 obtain⟨f,k⟩:=h;obtain⟨a,l⟩:=k.span x n;obtain⟨b,o⟩:=k.span y p;have i:∀(a:Vec) j,cmb 1 f a j=a 0*f 0 j:=fun a j=>by unfold cmb sm sm;grind
 have g:a 0≠0:=fun e=>m.not fun j d=>by rw[l j d,i,e];grind
 refine⟨b 0/a 0,fun j d=>?_⟩;rw[o j d,l j d,i,i,<-Rat.mul_assoc,Rat.div_mul_cancel g]
theorem Dim.two {c k:Nat} {M:List Vec} (h:Dim c M (k+2)) (x:Vec):∃y,Ort c M y/\∀t:Rat,¬∀j,j<c->y j=t*x j:=by
 apply Classical.byContradiction;intro e;have a:∀y,Ort c M y->∃t:Rat,∀j,j<c->y j=t*x j:=fun y l=>Classical.byContradiction fun n=>e ⟨y,l,fun t b=>n ⟨t,b⟩⟩;obtain⟨f,d⟩:=h;have:=b2z (m:=1) (g:=fun _=>x) d.li fun i hi=>by
  obtain⟨t,b⟩:=a _ (d.mem i hi);exact⟨fun _=>t,fun j o=>by rw[b j o];unfold cmb sm sm;grind⟩
 omega
def z0:Vec:=fun _=>0
def b9P (z:List Vec) (I:List Nat):List Vec:=I.map fun i=>z.getD i z0
theorem b2B {c:Nat} {u x:Vec} (h:∀j,j<c->u j=x j) (z:List Vec):a9E c u z=a9E c x z/\onL c u z=onL c x z/\a4A c u z=a4A c x z:=by
 have:∀v,dot c u v=dot c x v:=fun v=>a8E h;unfold a9E onL a4A;simp only[this];exact⟨trivial,trivial,trivial⟩
def a6l (c:Nat):List Vec->Vec->Bool
 | [],_=>true
 |u::us,v=>decide (0<dot c u v)||(decide (dot c u v=0)&&a6l c us v)
def b1F (c:Nat) (us:List Vec) (z:List Vec):Nat:=z.countP fun v=>a6l c us v
theorem b5c (c:Nat) (z:List Vec):b1F c [] z=z.length:=by simp[b1F,a6l]
theorem a4I (c:Nat) (u:Vec) (us z:List Vec):b1F c (u::us) z=a9E c u z+b1F c us (onL c u z):=by
 induction z with
 |nil=>rfl
 |cons v z ih=>
  unfold b1F a9E onL at*;rw[List.countP_cons,List.countP_cons,List.filter_cons,ih];by_cases a:0<dot c u v
  ·rw[if_pos (by simp[a6l,a]),if_pos (by simpa using a),if_neg (by simp;grind)];omega
  ·by_cases b:dot c u v=0
   ·rw[if_neg (c:=decide (0<dot c u v)=true) (by simpa using a),if_pos (c:=decide (dot c u v=0)=true) (by simpa using b),List.countP_cons]
    have e:a6l c (u::us) v=a6l c us v:=by simp[a6l,b]
    rw[e];omega
   ·rw[if_neg (by simp[a6l,a,b]),if_neg (by simpa using a),if_neg (by simpa using b)];omega
theorem b0G {c:Nat} {u:Vec} (h:¬nz c u) (z:List Vec):a9E c u z=0/\onL c u z=z:=by
 have b:∀j,j<c->u j=0:=fun j f=>Classical.byContradiction fun e=>h ⟨j,f,e⟩;have d:∀v,dot c u v=0:=fun v=>a3s b;unfold a9E onL;simp only[d];refine⟨?_,List.filter_eq_self.2 fun _ _=>by simp⟩;rw[List.countP_eq_zero];intro a _;simp
theorem a8F (c:Nat):∀(us z:List Vec),(∀u∈us,¬nz c u)->b1F c us z=z.length
 | [],z,_=>b5c c z
 |u::us,z,h=>by
  obtain⟨h1,h2⟩:=b0G (h u List.mem_cons_self) z;rw[a4I,h1,h2,a8F c us z fun u hu=>h u (List.mem_cons_of_mem _ hu)];omega
theorem a5v {c:Nat}:∀(us z:List Vec) (k:Nat),a4q c z k->(∃u∈us,nz c u)->k<=b1F c us z
 | [],_,_,_,h=>by obtain⟨_,h,_⟩:=h;simp at h
 |u::us,z,k,hk,h=>by
  rw[a4I];by_cases hu:nz c u
  ·obtain⟨l,hl⟩:=b9N (c:=c) (by obtain⟨j,hj,_⟩:=hu;omega) (onL c u z)
   have h1:=hk.lower hu hl;have h2:l<=b1F c us (onL c u z):=by
    by_cases hs:∃u∈us,nz c u
    ·exact a5v us _ l hl hs
    ·rw[a8F c us _ fun u hu hn=>hs ⟨u,hu,hn⟩];exact hl.le
   omega
  ·obtain⟨h1,h2⟩:=b0G hu z
   rw[h1,h2];have:=a5v us z k hk (by
    obtain⟨x,hx,hn⟩:=h;rcases List.mem_cons.1 hx with rfl|hx
    ·exact absurd hn hu
    ·exact⟨x,hx,hn⟩)
   omega
theorem a7g {c:Nat} {v:Vec} (h:¬nz c v):∀us:List Vec,a6l c us v=true
 | []=>rfl
 |u::us=>by
  have h0:dot c u v=0:=by
   rw[a2s];exact a3s fun j hj=>Classical.byContradiction fun e=>h ⟨j,hj,e⟩
  simp[a6l,h0,a7g h us]
open Classical in
noncomputable def nzL (c:Nat) (z:List Vec):List Vec:=z.filter fun v=>decide (nz c v)
open Classical in
theorem a7h {c:Nat} {p:Vec->Bool} (hp:∀v,¬nz c v->p v=true) (z:List Vec):z.countP p=(nzL c z).countP p+(z.length - (nzL c z).length):=by
 induction z with
 |nil=>rfl
 |cons v z ih=>
  have hle:(nzL c z).length<=z.length:=List.length_filter_le ..;unfold nzL at*;rw[List.filter_cons,List.countP_cons];by_cases h:nz c v
  ·rw[if_pos (c:=decide (nz c v)=true) (by simpa using h),List.countP_cons,List.length_cons,List.length_cons,ih];omega
  ·rw[if_neg (c:=decide (nz c v)=true) (by simpa using h),List.length_cons,if_pos (hp v h),ih];omega
theorem b5d (c:Nat) (a z:List Vec):b1F c a z=b1F c a (nzL c z)+(z.length - (nzL c z).length):=a7h (fun _ h=>a7g h a) z
theorem a8G (c:Nat) (u:Vec) (z:List Vec):a4A c u z=a4A c u (nzL c z)+(z.length - (nzL c z).length):=a7h (fun v h=>by
 have a:dot c u v=0:=by rw[a2s];exact a3s fun j b=>Classical.byContradiction fun e=>h ⟨j,b,e⟩
 simp[a]) z
theorem a4q.nzL {c k:Nat} {z:List Vec} (h:a4q c (nzL c z) k):a4q c z (k+(z.length - (nzL c z).length)):=by
 obtain⟨⟨u,e,b⟩,d⟩:=h;refine⟨⟨u,e,by rw[a8G,b]⟩,fun v a=>?_⟩;rw[a8G];have:=d v a;omega
structure Wit (c:Nat) (z:List Vec) (n:Nat) (us:List Vec):Prop where
 head:∃u t,us=u::t/\nz c u
 cnt:b1F c us z=n
 few:∀k,Dim c z k->us.length+k<=c\/us.length=1
theorem Wit.least {c n k:Nat} {z d:List Vec} (h:Wit c z n d) (a:a4q c z k):k<=n:=by
 obtain⟨u,t,rfl,b⟩:=h.head;rw[<-h.cnt];exact a5v _ _ _ a ⟨u,List.mem_cons_self,b⟩
theorem Wit.one {c:Nat} {z:List Vec} {u:Vec} (a:nz c u) (b:onL c u z= []):Wit c z (a9E c u z) [u]:=
 ⟨⟨u,[],rfl,a⟩,by rw[a4I,b];rfl,fun _ _=>Or.inr rfl⟩
theorem Dim.lt {c k m:Nat} {z L:List Vec} {u:Vec} (h:Dim c z k) (l:Dim c L m) (hs:∀v∈L,v∈z) (e:Ort c L u) (o:∃v∈z,dot c v u≠0):k<m:=by
 obtain⟨v,n,hne⟩:=o;rcases m with _|m
 ·obtain⟨f,d⟩:=l
  obtain⟨a,q⟩:=d.span u e;exact absurd (by rw[a2s];exact a3s fun j p=>by rw[q j p];rfl) hne
 ·obtain⟨g,r⟩:=l.more e hne
  obtain⟨f,d⟩:=h;have:=d.le r fun y i=>Ort.app.2 ⟨fun x b=>i x (hs x b),fun x b=>by simp at b;subst b;exact i _ n⟩;omega
theorem Dim.lt_c {c k:Nat} {z:List Vec} (h:Dim c z k) (hz:∃v∈z,nz c v):k<c:=by
 obtain⟨v,b,d⟩:=hz;obtain⟨m,a⟩:=b2A c [];have o:=h.lt a (by simp) (u:=v) (by simp[Ort]) ⟨v,b,fun e=>d.not (b4Y e)⟩;obtain⟨f,l⟩:=a;have:=b2z (m:=c) (g:=fun i j=>if j=i then 1 else 0) l.li fun i _=>⟨f i,fun j n=>by unfold cmb;rw[a1A j n fun i _ hi=>by simp[Ne.symm hi]];simp⟩;omega
theorem Wit.more {c l:Nat} {z b:List Vec} {u:Vec} (g:nz c u) (h:Wit c (onL c u z) l b) (j:∃v∈onL c u z,nz c v) (e:∃v∈z,dot c v u≠0):Wit c z (a9E c u z+l) (u::b):=
 ⟨⟨u,b,rfl,g⟩,by rw[a4I,h.cnt],fun k f=>by
  obtain⟨m,d⟩:=b2A c (onL c u z);have n:=f.lt d (fun v a=>(List.mem_filter.1 a).1) (u:=u) (fun v a=>by rw[a2s];simpa using(List.mem_filter.1 a).2) e;have o:=d.lt_c j;rcases h.few m d with i|i
  ·left;simp;omega
  ·left;simp;omega⟩
def b5e (c:Nat) (z O:List Vec) (cnt:Nat) (I:List Nat):Prop:=Dim c (b9P z I++O) 1->∀x,nz c x->Ort c (b9P z I++O) x->∀l,a4q c (onL c x z) l->cnt<=a9E c x z+l
theorem b5e.le {c:Nat} {z O:List Vec} {m n:Nat} {I:List Nat} (h:b5e c z O n I) (f:m<=n):b5e c z O m I:=fun e x b d l a=>Nat.le_trans f (h e x b d l a)
def vec (l:List Rat):Vec:=fun j=>l.getD j 0
def a4J (m:Mat):List Vec:=m.map vec
section
variable {n c:Nat} {m:Mat} (hs:Shp n c m)
include hs
end
end Go.Lin
namespace Go.Lin
theorem a9F {z:Mat} {p:List Rat->Bool} {q:Vec->Bool} (h:∀r∈z,p r=q (vec r)):a4J (z.filter p)=(a4J z).filter q:=by
 unfold a4J;rw[List.filter_map];exact congrArg _ (List.filter_congr fun r a=>h r a)
def b2C (r:List Rat):Bool:=r.all fun x=>decide (x=0)
theorem b7b {c:Nat} {r:List Rat} (e:r.length=c):nz c (vec r)↔b2C r=false:=by
 constructor
 ·rintro ⟨j,b,hne⟩
  rw[<-Bool.not_eq_true];intro h;unfold b2C at h;rw[List.all_eq_true]at h;have a:j<r.length:=by omega
  have:=h r[j] (List.getElem_mem a);apply hne;unfold vec;rw[List.getD_eq_getElem?_getD,List.getElem?_eq_getElem a];simpa using this
 ·intro h
  apply b9L;intro hz;rw[<-Bool.not_eq_true]at h;apply h;unfold b2C;rw[List.all_eq_true];intro x d;obtain⟨j,b,rfl⟩:=List.getElem_of_mem d;have:=hz j (by omega);unfold vec at this;rw[List.getD_eq_getElem?_getD,List.getElem?_eq_getElem b]at this;simpa using this
def a7i (z:Mat):Mat:=z.filter fun r=> !b2C r
theorem a6m {n c:Nat} {z:Mat} (hs:Shp n c z):a4J (a7i z)=nzL c (a4J z):=a9F fun r a=>by
 by_cases h:b2C r=false
 ·rw[h];have:=(b7b (hs.2 r a)).2 h;simp[this]
 ·have b:¬nz c (vec r):=fun k=>h ((b7b (hs.2 r a)).1 k)
  simp[b];simpa using h
def b8b (c:Nat) (z:Mat) (cnt:Nat) (us:Mat):Prop:=(cnt=z.length+1/\us= [])\/Wit c (a4J z) cnt (a4J us)
section
variable {n c:Nat} {z:Mat} (hs:Shp n c z) (hz:∀v∈a4J z,nz c v) (hne:z≠[])
include hs hz hne
end
theorem c2E {n c a:Nat} {z i:Mat} (hs:Shp n c z) (h:a4q c (a4J (a7i z)) a) (b:Wit c (a4J (a7i z)) a (a4J i)):
  a4q c (a4J z) (a+(z.length - (a7i z).length))/\Wit c (a4J z) (a+(z.length - (a7i z).length)) (a4J i):=by
 have e:(a7i z).length=(nzL c (a4J z)).length:=by rw[<-a6m hs];simp[a4J]
 have l:z.length=(a4J z).length:=by simp[a4J]
 rw[e,l];rw[a6m hs]at h b;refine⟨h.nzL,b.head,by rw[b5d,b.cnt],fun k m=>b.few k (m.iff fun y=>⟨fun f v d=>f v (List.mem_filter.1 d).1,fun f v d=>?_⟩)⟩;by_cases g:nz c v
 ·exact f v (List.mem_filter.2 ⟨d,by simpa using g⟩)
 ·exact a3s fun j o=>Classical.byContradiction fun e=>g ⟨j,o,e⟩
end Go.Lin
