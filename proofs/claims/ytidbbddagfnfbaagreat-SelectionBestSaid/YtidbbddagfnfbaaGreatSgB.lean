/- Parts of a proof: each theorem states what it proves, and its conditions. -/
import Derived.Test.YtidbbddagfnfbaaGreatSgA
import Derived.WalkKit
import Derived.WalkSpells
import Derived.WalkLawsBesides
import Derived.Deep.DeepCutAuto
import Derived.Laws.CopyOwn
import Derived.Test.YtidbbddagfnfbaaGreatRows
namespace Go.Lim
theorem c1X:∃n:Nat,n=4294967296:=⟨_,rfl⟩
noncomputable def B:Nat:=Classical.choose c1X
theorem a1n:B=4294967296:=Classical.choose_spec c1X
theorem a2o:0<B:=by rw[a1n];decide
noncomputable def nv:List Nat->Nat
 | []=>0
 |d::l=>d+B*nv l
def Dig (l:List Nat):Prop:=∀d∈l,d<B
def a1B (l:List Nat):Bool:= !(l.getLast?==some 0)
def vl (l:List Nat):List Nat:=if a1B l then l else[]
noncomputable def val (l:List Nat):Nat:=nv (vl l)
def a0M (l:List Nat) (n:Nat):Prop:=Dig l/\a1B l=true/\nv l=n
theorem a3L (a b:List Nat):nv (a++b)=nv a+B^a.length*nv b:=by
 induction a with
 |nil=>simp[nv]
 |cons d a ih=>simp only[List.cons_append,nv,ih,List.length_cons,Nat.pow_succ,Nat.mul_add];rw[Nat.mul_comm (B^a.length) B,Nat.mul_assoc,Nat.add_assoc]
theorem a1X (a:List Nat) (d:Nat):nv (a++[d])=nv a+B^a.length*d:=by rw[a3L];simp[nv]
theorem b0H (n:Nat):nv (List.replicate n 0)=0:=by
 induction n with
 |zero=>rfl
 |succ n ih=>simp[List.replicate_succ,nv,ih]
theorem Dig.nil:Dig []:=by intro d h;simp at h
theorem Dig.cons {d:Nat} {l:List Nat} (b:d<B) (h:Dig l):Dig (d::l):=by
 intro x a;rcases List.mem_cons.1 a with rfl|a
 ·exact b
 ·exact h x a
theorem Dig.append {a b:List Nat} (c:Dig a) (d:Dig b):Dig (a++b):=by
 intro x e;rcases List.mem_append.1 e with h|h
 ·exact c x h
 ·exact d x h
theorem Dig.take {a:List Nat} (b:Dig a) (n:Nat):Dig (a.take n):=fun x c=>b x (List.mem_of_mem_take c)
theorem Dig.drop {a:List Nat} (b:Dig a) (n:Nat):Dig (a.drop n):=fun x c=>b x (List.mem_of_mem_drop c)
theorem Dig.get {a:List Nat} (b:Dig a) (i:Nat) (h:i<a.length):a[i]<B:=b _ (List.getElem_mem h)
theorem Dig.set {a:List Nat} (b:Dig a) (i d:Nat) (c:d<B):Dig (a.set i d):=by
 intro x e;rcases List.mem_or_eq_of_mem_set e with h|rfl
 ·exact b x h
 ·exact c
theorem Dig.zeros (n:Nat):Dig (List.replicate n 0):=by intro x a;rw[List.eq_of_mem_replicate a];exact a2o
theorem a4K {l:List Nat} (h:Dig l):nv l<B^l.length:=by
 induction l with
 |nil=>simp[nv]
 |cons d l ih=>
  have h1:=ih (fun x hx=>h x (List.mem_cons_of_mem _ hx));have h2:=h d (List.mem_cons_self ..);simp only[nv,List.length_cons,Nat.pow_succ];have:B*nv l+B<=B^l.length*B:=by rw[<-Nat.mul_succ,Nat.mul_comm];exact Nat.mul_le_mul_right _ h1
  omega
theorem a4B (l:List Nat) (d:Nat):a1B (l++[d])=(d !=0):=by simp[a1B,bne]
theorem a3t {l:List Nat} (h:0<l.length):a1B l=(l[l.length - 1] !=0):=by
 unfold a1B;rw[List.getLast?_eq_getElem?,List.getElem?_eq_getElem (by omega)];simp[bne]
theorem b5f (l:List Nat):a1B (vl l)=true:=by
 unfold vl;split
 ·assumption
 ·rfl
theorem b9Q {l:List Nat} (h:Dig l):Dig (vl l):=by
 unfold vl;split
 ·exact h
 ·exact Dig.nil
theorem b9R (l:List Nat):(vl l).length<=l.length:=by unfold vl;split<;>simp
theorem a4L {l:List Nat} (h:Dig l):a0M (vl l) (val l):=⟨b9Q h,b5f l,rfl⟩
theorem a0M.vl {l:List Nat} {n:Nat} (h:a0M l n):vl l=l:=by unfold Lim.vl;rw[h.2.1];rfl
theorem a0M.val {l:List Nat} {n:Nat} (h:a0M l n):val l=n:=by unfold Lim.val;rw[h.vl];exact h.2.2
theorem a0M.nil:a0M [] 0:=⟨Dig.nil,rfl,rfl⟩
theorem a9G {P:List Nat->Prop} (h0:P []) (hs:∀l d,P l->P (l++[d])) (l:List Nat):P l:=by
 have:∀m:List Nat,P m.reverse:=by
  intro m
  induction m with
  |nil=>exact h0
  |cons d m ih=>rw[List.reverse_cons];exact hs _ _ ih
 simpa using this l.reverse
def Cut (l:List Nat) (k:Nat):Prop:=k<=l.length/\nv (l.take k)=nv l
theorem Cut.all (l:List Nat):Cut l l.length:=⟨Nat.le_refl _,by rw[List.take_length]⟩
theorem Cut.less {l:List Nat} {k:Nat} (h:Cut l k) (b:0<k) (a:l[k - 1]'(by have:=h.1;omega)=0):Cut l (k - 1):=by
 refine⟨by have:=h.1;omega,?_⟩;have c:=h.1;have e:l.take k=l.take (k - 1)++[l[k - 1]'(by omega)]:=by
  conv=>lhs;rw[show k=(k - 1)+1 from by omega]
  exact List.take_succ_eq_append_getElem (by omega)
 rw[<-h.2,e,a1X,a];simp
theorem Cut.canon {l:List Nat} {k:Nat} (h:Cut l k) (e:Dig l) (a:k=0\/∃c:k - 1<l.length,l[k - 1]≠0):a0M (l.take k) (nv l):=by
 refine⟨e.take k,?_,h.2⟩;have f:=h.1;rcases a with rfl|⟨c,d⟩
 ·rfl
 ·by_cases b:k=0
  ·subst b;rfl
  rw[a3t (by simp;omega)];have:(l.take k).length=k:=by simp;omega
  simp[this,d]
theorem a0M.unique {a b:List Nat} {n:Nat} (ha:a0M a n) (hb:a0M b n):a=b:=by
 induction a generalizing b n with
 |nil=>
  obtain⟨h1,h2,h3⟩:=hb;have hn:n=0:=ha.2.2.symm;subst hn;clear ha
  induction b using a9G with
  |h0=>rfl
  |hs l d ih=>
   rw[a1X]at h3;rw[a4B]at h2;have:0<B^l.length:=Nat.pow_pos a2o;have hd:0<d:=by simp at h2;omega
   have:=Nat.mul_pos this hd;omega
 |cons d a ih=>
  have cv:∀{d:Nat} {l:List Nat},a1B (d::l)=true->a1B l=true:=by
   intro d l h;cases l with
   |nil=>rfl
   |cons x l=>simpa[a1B]using h
  obtain⟨h1,h2,h3⟩:=ha;obtain⟨g1,g2,g3⟩:=hb;cases b with
  |nil=>
   have hn:n=0:=g3.symm;have:a0M (d::a) 0:=⟨h1,h2,by rw[h3,hn]⟩;clear ih
   exfalso
   have key:∀l:List Nat,a0M l 0->l= []:=by
    intro l
    induction l using a9G with
    |h0=>intro _;rfl
    |hs l d _=>
     rintro ⟨_,k2,k3⟩;rw[a1X]at k3;rw[a4B]at k2;have p1:0<B^l.length:=Nat.pow_pos a2o;have hd:0<d:=by simp at k2;omega
     have:=Nat.mul_pos p1 hd;omega
   simpa using key _ this
  |cons c b=>
   have hd:=h1 d (List.mem_cons_self ..);have hc:=g1 c (List.mem_cons_self ..);simp only[nv]at h3 g3;have e:d+B*nv a=c+B*nv b:=by omega
   have hdc:d=c:=by
    have:=congrArg (· %B) e;simpa[Nat.add_mul_mod_self_left,Nat.mod_eq_of_lt hd,Nat.mod_eq_of_lt hc]using this
   subst hdc;have:B*nv a=B*nv b:=by omega
   have hab:nv a=nv b:=Nat.eq_of_mul_eq_mul_left a2o this;rw[ih (n:=nv a) (b:=b) ⟨fun x hx=>h1 x (List.mem_cons_of_mem _ hx),cv h2,rfl⟩ ⟨fun x hx=>g1 x (List.mem_cons_of_mem _ hx),cv g2,hab.symm⟩]
def a4M (a b o:List Nat) (i c:Nat):Prop:=o.length=a.length+1/\Dig o/\c<=1/\nv (o.take i)+B^i*c=nv (a.take i)+nv (b.take i)
theorem a1w (o:List Nat) (i d:Nat) (h:i<o.length):(o.set i d).take (i+1)=o.take i++[d]:=by
 rw[List.take_succ_eq_append_getElem (by simpa using h),List.take_set,List.getElem_set_self]
 congr 1
 rw[List.set_eq_of_length_le (by simp;omega)]
theorem a0F (a:List Nat) (i:Nat) (h:i<a.length):nv (a.take (i+1))=nv (a.take i)+B^i*a[i]:=by
 rw[List.take_succ_eq_append_getElem h,a1X];congr 3;simp;omega
theorem a7j (a:List Nat) (i:Nat) (h:a.length<=i):nv (a.take (i+1))=nv (a.take i):=by
 rw[List.take_of_length_le (by omega),List.take_of_length_le h]
theorem a4M.start (a b:List Nat):a4M a b (List.replicate (a.length+1) 0) 0 0:=⟨by simp,Dig.zeros _,by omega,by simp[nv]⟩
theorem a4M.step {a b o:List Nat} {i c y:Nat} (h:a4M a b o i c) (hi:i<a.length) (j:(∃h:i<b.length,b[i]=y)\/(b.length<=i/\y=0)) (m:Dig a) (l:Dig b):
  a4M a b (o.set i ((a[i]+y+c)%4294967296)) (i+1) ((a[i]+y+c)/4294967296):=by
 obtain⟨n,k,r,q⟩:=h;have d:=m.get i hi;have g:y<B:=by
  rcases j with⟨h,rfl⟩|⟨_,rfl⟩
  ·exact l.get i h
  ·exact a2o
 rw[a1n]at d g;refine⟨by simpa using n,k.set _ _ (by rw[a1n];exact Nat.mod_lt _ (by decide)),by omega,?_⟩;have f:nv (b.take (i+1))=nv (b.take i)+B^i*y:=by
  rcases j with⟨h,rfl⟩|⟨h,rfl⟩
  ·exact a0F b i h
  ·rw[a7j b i h];simp
 rw[a1w o i _ (by omega),a1X,a0F a i hi,f,List.length_take,Nat.min_eq_left (by omega),Nat.pow_succ,Nat.mul_assoc];have e:(a[i]+y+c)%4294967296+B*((a[i]+y+c)/4294967296)=a[i]+y+c:=by rw[a1n];omega
 have p:B^i*((a[i]+y+c)%4294967296)+B^i*(B*((a[i]+y+c)/4294967296))=B^i*a[i]+B^i*y+B^i*c:=by rw[<-Nat.mul_add,e,Nat.mul_add,Nat.mul_add]
 omega
theorem a4M.done {a b o:List Nat} {c:Nat} (h:a4M a b o a.length c) (d:b.length<=a.length):Dig (o.set a.length c)/\nv (o.set a.length c)=nv a+nv b/\(o.set a.length c).length=a.length+1:=by
 obtain⟨i,g,j,f⟩:=h;refine⟨g.set _ _ (by rw[a1n];omega),?_,by simpa using i⟩;have e:o.set a.length c=(o.set a.length c).take (a.length+1):=by rw[List.take_of_length_le (by simp;omega)]
 rw[e,a1w o _ _ (by omega),a1X,List.length_take,Nat.min_eq_left (by omega),f,List.take_of_length_le (Nat.le_refl _),List.take_of_length_le d]
def lg (n:Nat):Nat:=if n=0 then 0 else Nat.log2 n/32+1
theorem b5g (m:Nat):B^m=2^(32*m):=by rw[Nat.pow_mul,a1n]
theorem a2T {n m:Nat}:lg n<=m↔n<B^m:=by
 unfold lg;by_cases h:n=0
 ·subst h;simp[Nat.pow_pos a2o]
 ·rw[if_neg h,b5g,<-Nat.log2_lt h];omega
theorem a0M.len {l:List Nat} {n:Nat} (h:a0M l n):l.length=lg n:=by
 have h1:lg n<=l.length:=a2T.2 (by rw[<-h.2.2];exact a4K h.1);obtain⟨hd,hv,rfl⟩:=h
 induction l using a9G with
 |h0=>rfl
 |hs l d _=>
  rw[a4B]at hv;have hd:0<d:=by simp at hv;omega
  have:¬lg (nv (l++[d]))<=l.length:=by
   rw[a2T,a1X];have:=Nat.mul_le_mul_left (B^l.length) hd;omega
  simp at h1 |-;omega
theorem a6n:lg 0=0:=rfl
theorem a1i {a b:Nat} (h:a<=b):lg a<=lg b:=a2T.2 (Nat.lt_of_le_of_lt h (a2T.1 (Nat.le_refl _)))
theorem b0I (a b:Nat):lg (a+b)<=max (lg a) (lg b)+1:=by
 rw[a2T];have d:=(a2T (n:=a) (m:=max (lg a) (lg b))).1 (Nat.le_max_left _ _);have c:=(a2T (n:=b) (m:=max (lg a) (lg b))).1 (Nat.le_max_right _ _);rw[Nat.pow_succ];have:0<B^max (lg a) (lg b):=Nat.pow_pos a2o;have:=a1n;generalize B^max (lg a) (lg b)=p at*;rw[a1n];omega
theorem a1b (a b:Nat):lg (a*b)<=lg a+lg b:=by
 rw[a2T,Nat.pow_add];exact Nat.mul_lt_mul'' (a2T.1 (Nat.le_refl _)) (a2T.1 (Nat.le_refl _))
theorem b7c {a:Nat} (h:0<a):0<lg a:=by unfold lg;rw[if_neg (by omega)];omega
theorem b2D (l:List Nat) (h:Dig l):lg (val l)<=l.length:=by
 have:=(a4L h).len;have:=b9R l;omega
def a3a (a b:Nat):Int:=if a<b then -1 else if b<a then 1 else 0
theorem a4s {a b:List Nat} {m n:Nat} (e:a0M a m) (d:a0M b n) (h:a.length<b.length):a3a m n= -1:=by
 have:m<n:=by
  rcases Nat.lt_or_ge m n with c|c
  ·exact c
  ·have:=a1i c;rw[<-e.len,<-d.len]at this;omega
 simp[a3a,this]
theorem a4t {a b:List Nat} {m n:Nat} (e:a0M a m) (d:a0M b n) (h:b.length<a.length):a3a m n=1:=by
 have:n<m:=by
  rcases Nat.lt_or_ge n m with c|c
  ·exact c
  ·have:=a1i c;rw[<-e.len,<-d.len]at this;omega
 simp[a3a,this,Nat.lt_asymm this]
theorem a2i (a:List Nat) (k:Nat) (b:k<=a.length):nv a=nv (a.take k)+B^k*nv (a.drop k):=by
 have:=a3L (a.take k) (a.drop k);rw[List.take_append_drop,List.length_take,Nat.min_eq_left b]at this;exact this
theorem a6o {a b:List Nat} (f:Dig a) {k:Nat} (j:a.length=b.length) (l:0<k) (e:k<=a.length) (i:a.drop k=b.drop k) (h:a[k - 1]'(by omega)<b[k - 1]'(by omega)):nv a<nv b:=by
 rw[a2i a k e,a2i b k (by omega),i];have c:=a0F a (k - 1) (by omega);have d:=a0F b (k - 1) (by omega);rw[show k - 1+1=k from by omega]at c d;have g:=a4K (f.take (k - 1));rw[List.length_take,Nat.min_eq_left (by omega)]at g;have m:B^(k - 1)*a[k - 1]'(by omega)+B^(k - 1)<=B^(k - 1)*b[k - 1]'(by omega):=by rw[<-Nat.mul_succ];exact Nat.mul_le_mul_left _ h
 omega
theorem a7k {a b:List Nat} {m n k:Nat} (c:a0M a m) (e:a0M b n) (d:a.length=b.length) (f:0<k) (g:k<=a.length) (i:a.drop k=b.drop k) (h:a[k - 1]'(by omega)<b[k - 1]'(by omega)):a3a m n= -1:=by
 have:=a6o c.1 d f g i h;rw[c.2.2,e.2.2]at this;simp[a3a,this]
theorem a7l {a b:List Nat} {m n k:Nat} (f:a0M a m) (c:a0M b n) (d:a.length=b.length) (e:0<k) (i:k<=a.length) (g:a.drop k=b.drop k) (h:b[k - 1]'(by omega)<a[k - 1]'(by omega)):a3a m n=1:=by
 have:=a6o c.1 d.symm e (by omega) g.symm h;rw[f.2.2,c.2.2]at this;simp[a3a,this,Nat.lt_asymm this]
theorem a5J {a b:List Nat} {k:Nat} (f:a.length=b.length) (j:0<k) (g:k<=a.length) (e:a.drop k=b.drop k) (h:a[k - 1]'(by omega)=b[k - 1]'(by omega)):a.drop (k - 1)=b.drop (k - 1):=by
 have d:=List.drop_eq_getElem_cons (l:=a) (i:=k - 1) (by omega);have c:=List.drop_eq_getElem_cons (l:=b) (i:=k - 1) (by omega);rw[d,c,show k - 1+1=k from by omega,e,h]
theorem a7m {a b:List Nat} {m n k:Nat} (e:a0M a m) (c:a0M b n) (d:k=0) (f:a.drop k=b.drop k):a3a m n=0:=by
 subst d;have:a=b:=by simpa using f
 have:m=n:=by rw[<-e.2.2,<-c.2.2,this]
 simp[a3a,this]
theorem a3M (a b:Nat):a3a a b<0↔a<b:=by unfold a3a;split<;>(try split)<;>simp_all
theorem b8c (a b:Nat):a3a a b=0↔a=b:=by unfold a3a;split<;>(try split)<;>simp_all<;>omega
def a2E (l q:List Nat) (d k r:Nat):Prop:=q.length=l.length/\Dig q/\r<d/\nv (l.drop k)=d*nv (q.drop k)+r
theorem a2E.start (l:List Nat) (d:Nat) (a:0<d):a2E l (List.replicate l.length 0) d l.length 0:=
 ⟨by simp,Dig.zeros _,a,by simp[nv]⟩
theorem a7I (q:List Nat) (k x:Nat) (b:0<k) (a:k<=q.length):(q.set (k - 1) x).drop (k - 1)=x::q.drop k:=by
 rw[List.drop_eq_getElem_cons (by simp;omega),List.getElem_set_self,show k - 1+1=k from by omega,List.drop_set_of_lt (by omega)]
theorem a2E.step {l q:List Nat} {d k r:Nat} (h:a2E l q d k r) (m:0<k) (p:k<=l.length) (j:Dig l):
  a2E l (q.set (k - 1) ((r*4294967296+l[k - 1])/d)) d (k - 1) ((r*4294967296+l[k - 1])%d):=by
 obtain⟨n,f,o,c⟩:=h;have a:=j.get (k - 1) (by omega);rw[a1n]at a;have g:(r*4294967296+l[k - 1])/d<4294967296:=by
  rw[Nat.div_lt_iff_lt_mul (by omega)];have:(r+1)*4294967296<=d*4294967296:=Nat.mul_le_mul_right _ o;rw[Nat.mul_comm 4294967296 d];omega
 refine⟨by simpa using n,f.set _ _ (by rw[a1n];exact g),Nat.mod_lt _ (by omega),?_⟩;rw[a7I q k _ m (by omega),List.drop_eq_getElem_cons (l:=l) (i:=k - 1) (by omega),show k - 1+1=k from by omega];simp only[nv];rw[c];have e:=Nat.div_add_mod (r*4294967296+l[k - 1]) d;rw[a1n];generalize (r*4294967296+l[k - 1])/d=x at*;generalize (r*4294967296+l[k - 1])%d=y at*;generalize nv (q.drop k)=z at*;have b:4294967296*(d*z+r)=d*(4294967296*z)+r*4294967296:=by rw[Nat.mul_add,<-Nat.mul_assoc,<-Nat.mul_assoc,Nat.mul_comm 4294967296 d,Nat.mul_comm 4294967296 r]
 rw[b,Nat.mul_add];omega
theorem a2E.done {l q:List Nat} {d r:Nat} (h:a2E l q d 0 r):nv q=nv l/d/\r=nv l%d:=by
 obtain⟨e,c,b,a⟩:=h;simp only[List.drop_zero]at a;rw[a,Nat.mul_add_div (by omega),Nat.div_eq_of_lt b,Nat.mul_add_mod,Nat.mod_eq_of_lt b];exact⟨rfl,rfl⟩
theorem b7d (o:List Nat) (k d:Nat) (h:k<o.length):nv (o.set k d)+B^k*o[k]=nv o+B^k*d:=by
 induction o generalizing k with
 |nil=>simp at h
 |cons x o ih=>
  match k with
  |0=>simp[nv];omega
  |k+1=>
   have:=ih k (by simpa using h);simp only[List.set_cons_succ,nv,List.getElem_cons_succ,Nat.pow_succ];have e1:B^k*B*o[k]'(by simpa using h)=B*(B^k*o[k]'(by simpa using h)):=by rw[Nat.mul_comm (B^k) B,Nat.mul_assoc]
   have e2:B^k*B*d=B*(B^k*d):=by rw[Nat.mul_comm (B^k) B,Nat.mul_assoc]
   rw[e1,e2,Nat.add_assoc,<-Nat.mul_add,this,Nat.mul_add,Nat.add_assoc]
def a2C (a b o:List Nat) (i j c:Nat):Prop:=o.length=a.length+b.length/\Dig o/\c<B/\(∀p (h:p<o.length),i+b.length<=p->o[p]=0)/\
 nv o+B^(i+j)*c=nv (a.take i)*nv b+(a.getD i 0)*B^i*nv (b.take j)
theorem a2C.start (a b:List Nat):a2C a b (List.replicate (a.length+b.length) 0) 0 0 0:=
 ⟨by simp,Dig.zeros _,a2o,by simp,by simp[nv,b0H]⟩
theorem a2C.step {a b o:List Nat} {i j c:Nat} (h:a2C a b o i j c) (hi:i<a.length) (n:j<b.length) (z:Dig a) (w:Dig b) (d:i+j<o.length):
  a2C a b (o.set (i+j) ((c+(a[i]*b[j]+o[i+j]))%4294967296)) i (j+1) ((c+(a[i]*b[j]+o[i+j]))/4294967296)/\c+(a[i]*b[j]+o[i+j])<18446744073709551616/\a[i]*b[j]+o[i+j]<18446744073709551616/\a[i]*b[j]<18446744073709551616:=by
 obtain⟨C,m,A,u,r⟩:=h;have f:=z.get i hi;have g:=w.get j n;have k:=m.get (i+j) d;rw[a1n]at f g k A;have F:a[i]*b[j]<=4294967295*4294967295:=Nat.mul_le_mul (by omega) (by omega);have G:=b7d o (i+j) ((c+(a[i]*b[j]+o[i+j]))%4294967296) d;have q:a.getD i 0=a[i]:=by simp[List.getD,hi]
 refine⟨⟨by simpa using C,m.set _ _ (by rw[a1n];exact Nat.mod_lt _ (by decide)),by rw[a1n];omega,?_,?_⟩,by omega,by omega,by omega⟩
 ·intro p t l
  rw[List.getElem_set,if_neg (by omega)];exact u p (by simpa using t) l
 ·rw[q]at r |-
  rw[a0F b j n,show i+(j+1)=(i+j)+1 from rfl,Nat.pow_succ];have e:=Nat.div_add_mod (c+(a[i]*b[j]+o[i+j])) 4294967296;generalize (c+(a[i]*b[j]+o[i+j]))/4294967296=x at*;generalize (c+(a[i]*b[j]+o[i+j]))%4294967296=y at*;generalize nv (o.set (i+j) y)=E at*;have s:B^(i+j)*B*x=B^(i+j)*(4294967296*x):=by rw[a1n,Nat.mul_assoc]
  have v:a[i]*B^i*(nv (b.take j)+B^j*b[j])=a[i]*B^i*nv (b.take j)+B^(i+j)*(a[i]*b[j]):=by
   rw[Nat.mul_add,Nat.pow_add]
   congr 1
   ac_rfl
  rw[s,v];have D:B^(i+j)*(4294967296*x)+B^(i+j)*y=B^(i+j)*c+(B^(i+j)*(a[i]*b[j])+B^(i+j)*o[i+j]):=by
   rw[<-Nat.mul_add,e,Nat.mul_add,Nat.mul_add]
  omega
theorem a2C.row {a b o:List Nat} {i c:Nat} (h:a2C a b o i b.length c) (hi:i<a.length):a2C a b (o.set (i+b.length) c) (i+1) 0 0:=by
 obtain⟨q,k,m,d,g⟩:=h;have e:=b7d o (i+b.length) c (by omega);have j:=d (i+b.length) (by omega) (by omega);rw[j,Nat.mul_zero,Nat.add_zero]at e;have f:a.getD i 0=a[i]:=by simp[List.getD,hi]
 refine⟨by simpa using q,k.set _ _ m,a2o,?_,?_⟩
 ·intro p l n
  rw[List.getElem_set,if_neg (by omega)];exact d p (by simpa using l) (by omega)
 ·rw[List.take_zero,show nv []=0 from rfl,Nat.mul_zero,Nat.mul_zero,Nat.add_zero,Nat.add_zero,e,g,f,List.take_of_length_le (Nat.le_refl b.length),a0F a i hi,Nat.add_mul,Nat.mul_comm (B^i) a[i]]
theorem a2C.done {a b o:List Nat} {c:Nat} (h:a2C a b o a.length 0 c) (e:c=0):nv o=nv a*nv b:=by
 obtain⟨j,g,i,f,d⟩:=h;subst e;simpa[nv]using d
theorem a3e {n:Nat} (a:0<n) (h:n<4294967296):lg n=1:=by
 have b:lg n<=1:=a2T.2 (by rw[Nat.pow_one,a1n];exact h);have:=b7c a;omega
theorem b2E {l:List Nat} {n:Nat} (h:a0M l n) (h0:0<n) (h1:n<4294967296):l= [n]:=by
 have h2:=h.len;rw[a3e h0 h1]at h2
 match l,h2 with
 | [d],_=>have:=h.2.2;simp[nv]at this;rw[this]
theorem b0J {n:Nat} (b:0<n) (a:n<4294967296):a0M [n] n:=⟨Dig.cons (by rw[a1n];exact a) Dig.nil,by simp[a1B];omega,by simp[nv]⟩
theorem a7J {l:List Nat} {n:Nat} (h:a0M l n):l= []↔n=0:=by
 constructor
 ·rintro rfl;exact h.2.2.symm
 ·intro a;have:=h.len;rw[a]at this;exact List.eq_nil_of_length_eq_zero this
theorem a2C.step' {a b o:List Nat} {i j c x y z:Nat} (h:a2C a b o i j c) (hi:i<a.length) (e:j<b.length) (g:Dig a) (f:Dig b) (d:i+j<o.length) (k:a[i]=x) (l:b[j]=y) (m:o[i+j]=z):
  a2C a b (o.set (i+j) ((c+(x*y+z))%4294967296)) i (j+1) ((c+(x*y+z))/4294967296)/\c+(x*y+z)<18446744073709551616:=by
 subst k;subst l;subst m;exact⟨(h.step hi e g f d).1,(h.step hi e g f d).2.1⟩
def a3b (a b o:List Nat) (i c:Nat):Prop:=o.length=i/\Dig o/\c<=1/\nv o+B^i*c=nv (a.take i)+nv (b.take i)
theorem a3b.start (a b:List Nat):a3b a b [] 0 0:=⟨rfl,Dig.nil,by omega,by simp[nv]⟩
theorem a1k (a:List Nat) (i:Nat):nv (a.take (i+1))=nv (a.take i)+B^i*a.getD i 0:=by
 by_cases h:i<a.length
 ·rw[a0F a i h];simp[List.getD,h]
 ·rw[a7j a i (by omega)];simp[List.getD,h]
theorem Dig.getD {a:List Nat} (b:Dig a) (i:Nat):a.getD i 0<B:=by
 by_cases h:i<a.length
 ·simpa[List.getD,h]using b.get i h
 ·simpa[List.getD,h]using a2o
theorem a3b.step {a b o:List Nat} {i c:Nat} (h:a3b a b o i c) (n:Dig a) (l:Dig b):
  a3b a b (o++[(a.getD i 0+b.getD i 0+c)%4294967296]) (i+1) ((a.getD i 0+b.getD i 0+c)/4294967296):=by
 obtain⟨f,j,r,q⟩:=h;have k:=n.getD i;have m:=l.getD i;have d:=a1k a i;have g:=a1k b i;unfold a3b;rw[d,g];clear d g;generalize a.getD i 0=x at*;generalize b.getD i 0=y at*;rw[a1n]at k m;refine⟨by simp[f],j.append (Dig.cons (by rw[a1n];exact Nat.mod_lt _ (by decide)) Dig.nil),by omega,?_⟩;rw[a1X,f,Nat.pow_succ,Nat.mul_assoc];have e:(x+y+c)%4294967296+B*((x+y+c)/4294967296)=x+y+c:=by rw[a1n];omega
 have p:B^i*((x+y+c)%4294967296)+B^i*(B*((x+y+c)/4294967296))=B^i*x+B^i*y+B^i*c:=by rw[<-Nat.mul_add,e,Nat.mul_add,Nat.mul_add]
 omega
theorem a3b.done {a b o:List Nat} {c m:Nat} (h:a3b a b o (m+1) c) (l:Dig a) (j:Dig b) (f:a.length<=m) (e:b.length<=m):nv o=nv a+nv b:=by
 obtain⟨s,q,r,d⟩:=h;rw[List.take_of_length_le (by omega),List.take_of_length_le (by omega)]at d;have g:=Nat.lt_of_lt_of_le (a4K l) (Nat.pow_le_pow_right a2o f);have k:=Nat.lt_of_lt_of_le (a4K j) (Nat.pow_le_pow_right a2o e);rw[Nat.pow_succ]at d;have n:c=0:=by
  rcases Nat.eq_zero_or_pos c with h|h
  ·exact h
  ·exfalso
   have i:B^m*B<=B^m*B*c:=Nat.le_mul_of_pos_right _ h;generalize B^m=p at*;rw[a1n]at i d;omega
 subst n;simpa using d
theorem a1o {l:List Nat} {n:Nat} (h:a0M l n):l.length=0↔n=0:=by
 rw[<-a7J h];exact List.length_eq_zero_iff
def a1r (s:Bool) (m:List Nat):Bool:=a1B m&&(decide (0<m.length)|| !s)
noncomputable def a7K (s:Bool) (m:List Nat):Int:=if a1r s m then(if s then -(nv m:Int)else nv m)else 0
def a5K (s:Bool) (m:List Nat) (z:Int):Prop:=s=decide (z<0)/\a0M m z.natAbs
theorem a5K.of_valid {s:Bool} {m:List Nat} (f:Dig m) (h:a1r s m=true):a5K s m (a7K s m):=by
 have c:a1B m=true:=by unfold a1r at h;simp at h;exact h.1
 have b:a0M m (nv m):=⟨f,c,rfl⟩;have a:=a1o b;unfold a7K;rw[if_pos h];cases s
 ·simp only[Bool.false_eq_true,if_false]
  exact⟨by simp,by simpa using b⟩
 ·have d:0<m.length:=by unfold a1r at h;simpa[c]using h
  simp only[if_true];refine⟨?_,by simpa using b⟩;have:nv m≠0:=fun e=>by rw[e]at a;simp at a;simp[a]at d
  symm;rw[decide_eq_true_eq];omega
theorem a5K.valid {s:Bool} {m:List Nat} {z:Int} (h:a5K s m z):a1r s m=true:=by
 obtain⟨b,a⟩:=h;have d:=a1o a;unfold a1r;rw[a.2.1];by_cases c:z<0
 ·have:0<m.length:=by omega
  simp[this]
 ·simp[b,c]
theorem a5K.val {s:Bool} {m:List Nat} {z:Int} (h:a5K s m z):a7K s m=z:=by
 unfold a7K;rw[if_pos h.valid];obtain⟨a,c⟩:=h;rw[c.2.2];by_cases b:z<0
 ·simp only[a,b,decide_true,if_true];omega
 ·simp only[a,b,decide_false,Bool.false_eq_true,if_false];omega
theorem a5K.zero:a5K false [] 0:=⟨rfl,a0M.nil⟩
theorem a5K.len {s:Bool} {m:List Nat} {z:Int} (h:a5K s m z):m.length=lg z.natAbs:=h.2.len
theorem a5K.len0 {s:Bool} {m:List Nat} {z:Int} (h:a5K s m z):m.length=0↔z=0:=by
 have:=a1o h.2;omega
theorem b8d (s:Bool) (m:List Nat) (h:Dig m):lg (a7K s m).natAbs<=m.length:=by
 cases a:a1r s m
 ·unfold a7K;rw[a];simp[a6n]
 ·exact Nat.le_of_eq (a5K.of_valid h a).len.symm
theorem a5L {s:Bool} {m:List Nat} (h:a1r s m=false):a7K s m=0:=by unfold a7K;rw[h];rfl
def dn (q:Rat):Nat:=if q.den=1 then 0 else q.den
def a6a (s:Bool) (m d:List Nat) (q:Rat):Prop:=a5K s m q.num/\a0M d (dn q)
noncomputable def a1t (s:Bool) (m d:List Nat):Bool:=a1r s m&&a1B d&&(decide (d.length=0)||(decide (0<m.length)&& !(nv d==1)&&(Nat.gcd (nv m) (nv d)==1)))
noncomputable def b2F (s:Bool) (m d:List Nat):Rat:=if a1t s m d then mkRat (a7K s m) (if d.length=0 then 1 else nv d)else 0
theorem a6a.of_valid {s:Bool} {m d:List Nat} (r:Dig m) (p:Dig d) (h:a1t s m d=true):a6a s m d (b2F s m d):=by
 have i:=h;unfold a1t at i;simp only[Bool.and_eq_true]at i;obtain⟨⟨u,q⟩,k⟩:=i;have g:=a5K.of_valid r u;have a:a0M d (nv d):=⟨p,q,rfl⟩;have j:=a1o a;unfold b2F;rw[if_pos h];by_cases c:d.length=0
 ·rw[if_pos c]
  have e:mkRat (a7K s m) 1=((a7K s m:Int):Rat):=by rw[<-Rat.mk_den_one];rw[Rat.mk_eq_mkRat]
  rw[e];refine⟨by simpa using g,?_⟩;have:nv d=0:=j.1 c;simp only[dn,Rat.den_intCast,if_true];rw[this]at a;exact a
 ·rw[if_neg c]
  have f:nv d≠0:=fun e=>c (j.2 e);simp[c]at k;obtain⟨⟨w,o⟩,t⟩:=k;have b:(a7K s m).natAbs=nv m:=by have:=g.2.2.2;omega
  have l:(nv d).gcd (a7K s m).natAbs=1:=by rw[b,Nat.gcd_comm];exact t
  have v:(mkRat (a7K s m) (nv d)).num=a7K s m:=by rw[Rat.num_mkRat,if_neg f,l];simp
  have n:(mkRat (a7K s m) (nv d)).den=nv d:=by rw[Rat.den_mkRat,if_neg f,l];simp
  exact⟨by rw[v];exact g,by unfold dn;rw[n,if_neg o];exact a⟩
theorem a6a.valid {s:Bool} {m d:List Nat} {q:Rat} (h:a6a s m d q):a1t s m d=true:=by
 obtain⟨f,c⟩:=h;have g:=a1o c;have n:=f.len0;have a:=q.reduced;have l:=q.den_nz;unfold a1t;rw[f.valid,c.2.1,c.2.2,f.2.2.2];by_cases b:q.den=1
 ·have:d.length=0:=by rw[g];unfold dn;rw[if_pos b]
  simp[this]
 ·have e:dn q=q.den:=by unfold dn;rw[if_neg b]
  rw[e]at g |-;have k:q.num≠0:=fun e=>by rw[e]at a;simp[Nat.Coprime]at a;exact b a
  have j:0<m.length:=by omega
  have i:q.num.natAbs.gcd q.den=1:=a;simp[j,b,i]
theorem a6a.val {s:Bool} {m d:List Nat} {q:Rat} (h:a6a s m d q):b2F s m d=q:=by
 unfold b2F;rw[if_pos h.valid];obtain⟨g,b⟩:=h;have c:=a1o b;rw[g.val,b.2.2];by_cases a:q.den=1
 ·have:d.length=0:=by rw[c];unfold dn;rw[if_pos a]
  rw[if_pos this]
  conv=>rhs;rw[<-Rat.mkRat_self q]
  rw[a]
 ·have e:dn q=q.den:=by unfold dn;rw[if_neg a]
  have f:d.length≠0:=by rw[e]at c;have:=q.den_nz;omega
  rw[if_neg f,e,Rat.mkRat_self]
theorem a6a.unique {s e:Bool} {m d b c:List Nat} {q:Rat} (h:a6a s m d q) (a:a6a e b c q):s=e/\m=b/\d=c:=
 ⟨h.1.1.trans a.1.1.symm,h.1.2.unique a.1.2,h.2.unique a.2⟩
theorem a6a.zero:a6a false [] [] 0:=⟨a5K.zero,by simp[dn];exact a0M.nil⟩
theorem a6a.ofInt {s:Bool} {m:List Nat} {z:Int} (h:a5K s m z):a6a s m [] (z:Rat):=⟨by simpa using h,by simp[dn];exact a0M.nil⟩
theorem a3N {s:Bool} {m d:List Nat} (h:a1t s m d=false):b2F s m d=0:=by unfold b2F;rw[h];rfl
def hq (q:Rat):Nat:=max (lg q.num.natAbs) (lg q.den)
theorem a0D (q:Rat):lg q.num.natAbs<=hq q:=Nat.le_max_left _ _
theorem a0E (q:Rat):lg q.den<=hq q:=Nat.le_max_right _ _
theorem b8e (q:Rat):lg (dn q)<=hq q:=by
 unfold dn;split
 ·simp[a6n]
 ·exact a0E q
theorem a3D:lg 1=1:=a3e (by omega) (by omega)
theorem a7L {n:Nat} (h:0<n):1<=lg n:=b7c h
theorem a7n (q:Rat):1<=hq q:=Nat.le_trans (a7L q.den_pos) (a0E q)
theorem b0K (z:Int) (d k:Nat) (e:lg z.natAbs<=k) (b:lg d<=k) (c:1<=k):hq (mkRat z d)<=k:=by
 by_cases a:d=0
 ·subst a;rw[Rat.mkRat_zero];unfold hq;simp[a6n,a3D];exact c
 ·unfold hq
  rw[Rat.num_mkRat,Rat.den_mkRat,if_neg a,if_neg a];refine Nat.max_le.2 ⟨Nat.le_trans (a1i ?_) e,Nat.le_trans (a1i (Nat.div_le_self _ _)) b⟩;exact Int.natAbs_ediv_le_natAbs _ _
theorem b0L (x y:Rat):hq (x+y)<=hq x+hq y+1:=by
 rw[Rat.add_def'];refine b0K _ _ _ ?_ (Nat.le_trans (a1b _ _) (by have:=a0E x;have:=a0E y;omega)) (by omega);refine Nat.le_trans (a1i (Int.natAbs_add_le _ _)) ?_;refine Nat.le_trans (b0I _ _) ?_;rw[Int.natAbs_mul,Int.natAbs_mul,Int.natAbs_natCast,Int.natAbs_natCast];have a:=a1b x.num.natAbs y.den;have b:=a1b y.num.natAbs x.den;have:=a0D x;have:=a0D y;have:=a0E x;have:=a0E y;omega
theorem hq_mul (x y:Rat):hq (x*y)<=hq x+hq y:=by
 rw[Rat.mul_def'];refine b0K _ _ _ ?_ (Nat.le_trans (a1b _ _) (by have:=a0E x;have:=a0E y;omega)) (by have:=a7n x;omega);rw[Int.natAbs_mul];have:=a1b x.num.natAbs y.num.natAbs;have:=a0D x;have:=a0D y;omega
theorem a5M (x:Rat):hq (-x)=hq x:=by unfold hq;simp
theorem a8H (x y:Rat):hq (x - y)<=hq x+hq y+1:=by
 rw[Rat.sub_eq_add_neg,<-a5M y];exact b0L _ _
theorem a0Z:hq 0=1:=by unfold hq;simp[a6n,a3D]
theorem b9S (x:Rat):hq x⁻¹<=hq x:=by
 by_cases h:x=0
 ·subst h;simp
 ·have a:x.num≠0:=fun e=>h (Rat.num_eq_zero.1 e)
  unfold hq;rw[Rat.num_inv,Rat.den_inv,if_neg a,Int.natAbs_mul,Int.natAbs_sign_of_ne_zero a,Nat.one_mul,Int.natAbs_natCast,Nat.max_comm];exact Nat.le_refl _
theorem hq_div (x y:Rat):hq (x/y)<=hq x+hq y:=by
 rw[Rat.div_def];exact Nat.le_trans (hq_mul _ _) (by have:=b9S y;omega)
theorem a7o (z:Int) (k:Nat) (h:lg z.natAbs<=k) (a:1<=k):hq (z:Rat)<=k:=by
 unfold hq;rw[Rat.num_intCast,Rat.den_intCast,a3D];exact Nat.max_le.2 ⟨h,a⟩
theorem a9H (s:Bool) (m d:List Nat) (k:Nat) (g:Dig m) (f:Dig d) (j:m.length<=k) (i:d.length<=k) (c:1<=k):hq (b2F s m d)<=k:=by
 cases a:a1t s m d
 ·rw[a3N a,a0Z];exact c
 ·have e:=a6a.of_valid g f a
  have l:=e.1.len;have b:=e.2.len;unfold hq;refine Nat.max_le.2 ⟨by omega,?_⟩;unfold dn at b;split at b
  ·rename_i h;rw[h,a3D];exact c
  ·omega
theorem a6a.lowest {s:Bool} {n d:List Nat} {z:Int} {k:Nat} (e:k≠0) (o:s=decide (z<0)) (j:a0M n (z.natAbs/Nat.gcd z.natAbs k)) (m:a0M d (k/Nat.gcd z.natAbs k)):a6a s n (if k/Nat.gcd z.natAbs k=1 then[]else d) (mkRat z k):=by
 have q:0<Nat.gcd z.natAbs k:=Nat.gcd_pos_of_pos_right _ (by omega);have f:(mkRat z k).num=z/(Nat.gcd z.natAbs k:Nat):=by rw[Rat.num_mkRat,if_neg e,Nat.gcd_comm]
 have i:(mkRat z k).den=k/Nat.gcd z.natAbs k:=by rw[Rat.den_mkRat,if_neg e,Nat.gcd_comm]
 have a:((Nat.gcd z.natAbs k:Nat):Int)∣z:=Int.ofNat_dvd_left.2 (Nat.gcd_dvd_left _ _);have l:(mkRat z k).num.natAbs=z.natAbs/Nat.gcd z.natAbs k:=by rw[f,Int.natAbs_ediv_of_dvd a,Int.natAbs_natCast]
 refine⟨⟨?_,by rw[l];exact j⟩,?_⟩
 ·rw[o,Bool.eq_iff_iff]
  simp only[decide_eq_true_eq];rw[f];obtain⟨g,b⟩:∃g,Nat.gcd z.natAbs k=g:=⟨_,rfl⟩;rw[b]at a q |-;obtain⟨c,rfl⟩:=a;rw[Int.mul_ediv_cancel_left _ (by omega)];constructor
  ·intro h
   by_cases p:c<0
   ·exact p
   ·have:=Int.mul_nonneg (Int.natCast_nonneg g) (show 0<=c by omega);omega
  ·intro h
   exact Int.mul_neg_of_pos_of_neg (by omega) h
 ·unfold dn
  rw[i];split
  ·exact a0M.nil
  ·exact m
end Go.Lim
namespace Go.Lin
open Go.Lim
def HB (B:Nat) (m:Mat):Prop:=∀i j,hq (ent m i j)<=B
theorem HB.pos {B:Nat} {m:Mat} (h:HB B m):1<=B:=Nat.le_trans (a7n _) (h 0 0)
theorem HB.mono {B C:Nat} {m:Mat} (h:HB B m) (a:B<=C):HB C m:=fun i j=>Nat.le_trans (h i j) a
theorem HB.swap {n c B:Nat} {m:Mat} (h:HB B m) (b:Shp n c m) {i k:Nat} (hi:i<n) (a:k<n):HB B (a1f m i k):=fun r j=>by
 rw[a3q b hi a];split
 ·exact h _ _
 ·split
  ·exact h _ _
  ·exact h _ _
theorem b8f {x y z u:Rat} {B:Nat} (h:hq x<=B) (a:hq y<=B) (g:hq z<=B) (d:hq u<=B):hq (y/z)<=2*B/\hq (y/z*u)<=3*B/\hq (x - y/z*u)<=5*B:=by
 have f:=hq_div y z;have c:=hq_mul (y/z) u;have e:=a8H x (y/z*u);have b:=a7n x;omega
theorem HB.clear {n c B:Nat} {m:Mat} (h:HB B m) (b:Shp n c m) {t:Nat} (a:t<n) (col s:Nat):HB (5*B) (clear m t col s):=fun i j=>by
 rw[a4G b a];split
 ·exact(b8f (h _ _) (h _ _) (h _ _) (h _ _)).2.2
 ·have:=h i j;omega
theorem HB.eN {n c B:Nat} {m:Mat} (h:HB B m) (hs:Shp n c m) (k:Nat):HB (5^(eN m k).2.1.length*B) (eN m k).1:=by
 induction k with
 |zero=>simpa[Lin.eN]using h
 |succ k ih=>
  have hk:=a5Y hs k
  show HB (5^(a6i (Lin.eN m k) k).2.1.length*B) (a6i (Lin.eN m k) k).1
  generalize Lin.eN m k=s at ih hk |-;obtain⟨M,p,odd⟩:=s;have hM:Shp n c M:=hk.shp;have hl:=hM.1;have hle:p.length<=n:=hk.ech.le;unfold a6i
  dsimp only at ih |-
  split
  ·exact ih
  ·split
   ·exact ih
   ·rename_i e _ q hz
    obtain⟨h1,h2⟩:=a3K hz;have:=(ih.swap hM (show p.length<n by omega) (show p.length+q<n by omega)).clear (hM.swap (by omega) (by omega)) (show p.length<n by omega) k M.length;refine this.mono ?_;rw[List.length_append,List.length_singleton,Nat.pow_succ,Nat.mul_comm _ 5,Nat.mul_assoc];exact Nat.le_refl _
theorem HB.divL {n c B:Nat} {m:Mat} (h:HB B m) (a:Shp n c m) {i:Nat} (hi:i<n) (col:Nat):HB (2*B) (divL m i col):=fun k j=>by
 rw[a3r a hi];split
 ·have:=hq_div (ent m i j) (ent m i col);have:=h i j;have:=h i col;omega
 ·have:=h k j;omega
theorem b5h {x y z u:Rat} {B:Nat} (h:hq x<=B) (a:hq y<=B) (g:hq z<=2*B) (d:hq u<=2*B):hq (y/z)<=3*B/\hq (y/z*u)<=5*B/\hq (x - y/z*u)<=7*B:=by
 have f:=hq_div y z;have c:=hq_mul (y/z) u;have e:=a8H x (y/z*u);have b:=a7n x;omega
theorem HB.dStep {n c B:Nat} {m:Mat} (h:HB B m) (b:Shp n c m) {t:Nat} (a:t<n) (col s:Nat):HB (7*B) (above (Lin.divL m t col) t col s):=fun i j=>by
 have e:=b.divL a col;have d:=h.divL b a col;rw[a4H e a];split
 ·refine(b5h ?_ ?_ (d _ _) (d _ _)).2.2
  ·rw[a3r b a,if_neg (by omega)];exact h _ _
  ·rw[a3r b a,if_neg (by omega)];exact h _ _
 ·have:=d i j;omega
theorem HB.dN {n c B:Nat} {m:Mat} {p:List Nat} (h:HB B m) (hs:Shp n c m) (he:Ech n c (ent m) p) (t:Nat) (ht:t<=p.length):HB (7^t*B) (dN m p t):=by
 induction t with
 |zero=>simpa[Lin.dN]using h
 |succ t ih=>
  have hk:=b7S hs he t (by omega);have hle:=he.le;refine((ih (by omega)).dStep hk.shp (show t<n by omega) (p.getD t 0) t).mono ?_;rw[Nat.pow_succ,Nat.mul_comm _ 7,Nat.mul_assoc];exact Nat.le_refl _
theorem HB.pv {n c B:Nat} {m:Mat} (h:HB B m) (a:Shp n c m) {i:Nat} (hi:i<n) (col:Nat):HB (3*B) (pv m i col):=fun k j=>by
 rw[b2o a hi];split
 ·have e:=hq_mul (ent m i j) (1/ent m i col);have b:=hq_div 1 (ent m i col);have:=h i j;have:=h i col;have:=a7n (ent m i j)
  have d:hq 1=1:=by decide+kernel
  omega
 ·have:=h k j;omega
theorem HB.out {n c B:Nat} {m:Mat} (h:HB B m) (d:Shp n c m) {t:Nat} (b:t<n) (col s:Nat):HB (6*B) (Lin.out (Lin.pv m t col) t col s):=fun i j=>by
 have k:=d.pv b col;have f:=h.pv d b col;rw[b0D k b];split
 ·rename_i a
  have e:∀j,ent (Lin.pv m t col) i j=ent m i j:=fun j=>by rw[b2o d b,if_neg a.1]
  rw[e,e];have g:=hq_mul (ent (Lin.pv m t col) t j) (- ent m i col);have l:=b0L (ent m i j) (ent (Lin.pv m t col) t j* - ent m i col);rw[a5M]at g;have:=f t j;have:=h i j;have:=h i col;have:=h.pos;omega
 ·have:=f i j;omega
theorem HB.rN {n c B:Nat} {m:Mat} (h:HB B m) (hs:Shp n c m) (k:Nat):HB (6^(rN m k).2.1.length*B) (rN m k).1/\hq (rN m k).2.2<=6^(rN m k).2.1.length*B:=by
 induction k with
 |zero=>exact⟨by simpa[Lin.rN]using h,by simp[Lin.rN];exact h.pos⟩
 |succ k ih=>
  have hk:=a5Z hs k
  show HB (6^(a6j (Lin.rN m k) k).2.1.length*B) (a6j (Lin.rN m k) k).1/\hq (a6j (Lin.rN m k) k).2.2<=6^(a6j (Lin.rN m k) k).2.1.length*B
  generalize Lin.rN m k=s at ih hk |-;obtain⟨M,p,fac⟩:=s;have hM:Shp n c M:=hk.shp;have hl:=hM.1;have hle:p.length<=n:=hk.ref.le;unfold a6j
  dsimp only at ih |-
  split
  ·exact ih
  ·rename_i e q hz
   obtain⟨h1,h2⟩:=a3K hz;have hsw:=(ih.1.swap hM (show p.length+q<n by omega) (show p.length<n by omega));have:=hsw.out (hM.swap (by omega) (by omega)) (show p.length<n by omega) k M.length;have he:6*(6^p.length*B)=6^(p++[k]).length*B:=by
    rw[List.length_append,List.length_singleton,Nat.pow_succ,Nat.mul_comm _ 6,Nat.mul_assoc]
   refine⟨this.mono (Nat.le_of_eq he),?_⟩
   dsimp only
   rw[<-he];have h3:=hsw p.length k;have h4:hq (if q=0 then fac else -fac)<=6^p.length*B:=by
    split
    ·exact ih.2
    ·rw[a5M];exact ih.2
   have h5:=hq_mul (if q=0 then fac else -fac) (ent (a1f M (p.length+q) p.length) p.length k);omega
def b5i (m:Mat) (c:Nat):Prop:=∃B,7*B<=68719476736/\(∀j,j<=c->HB B (eN m j).1)/\∀t,t<=(eN m c).2.1.length->HB B (dN (eN m c).1 (eN m c).2.1 t)
theorem a6p (a:Nat) {i n:Nat} (b:0<a) (h:i<=n):a^i<=a^n:=Nat.pow_le_pow_right b h
theorem b8g {n c B:Nat} {m:Mat} (b:Shp n c m) (h:HB B m) (e:7*(35^n*B)<=68719476736):b5i m c:=by
 have a:∀j,(eN m j).2.1.length<=n:=fun j=>(a5Y b j).ech.le;refine⟨35^n*B,e,fun j _=>(h.eN b j).mono (Nat.mul_le_mul_right _ ?_),fun t d=>(((h.eN b c).dN (a5Y b c).shp (a5Y b c).ech t d)).mono ?_⟩
 ·exact Nat.le_trans (a6p 5 (by omega) (a j)) (Nat.pow_le_pow_left (by omega) n)
 ·rw[<-Nat.mul_assoc]
  refine Nat.mul_le_mul_right _ ?_;rw[show(35:Nat)=7*5 from rfl,Nat.mul_pow];exact Nat.mul_le_mul (a6p 7 (by omega) (Nat.le_trans d (a c))) (a6p 5 (by omega) (a c))
def b8h (m:Mat) (c:Nat):Prop:=∃B,7*B<=68719476736/\∀j,j<=c->HB B (eN m j).1
theorem b5i.e {m:Mat} {c:Nat} (h:b5i m c):b8h m c:=let ⟨B,b,a,_⟩:=h;⟨B,b,a⟩
theorem HB.app {B:Nat} {a b:Mat} (d:HB B a) (c:HB B b):HB B (a++b):=by
 intro i j;unfold ent;by_cases hi:i<a.length
 ·rw[show(a++b).getD i []=a.getD i []by simp[List.getD_eq_getElem?_getD,List.getElem?_append_left hi]];exact d i j
 ·rw[show(a++b).getD i []=b.getD (i - a.length) []by simp[List.getD_eq_getElem?_getD,List.getElem?_append_right (Nat.le_of_not_lt hi)]];exact c _ j
def c1n (c:Nat) (p:Mat) (x:List Rat):Mat:=p.map fun r=>(List.range c).map fun j=>r.getD j 0 - x.getD j 0
end Go.Lin
namespace Go.Rep
open Go.RowKit
def lenOf:Value->Nat| .slice _ n _=>n|_=>0
theorem hid {p:Prop} (h:p):Hid p:=h
theorem a3O {a:Option Addr} {n m c:Nat} (h:n=m):Ending.returned (.slice a n c)= .returned (.slice a m c):=by rw[h]
theorem a0P {k:IntKind} {a b:Int} (h:a=b):Ending.returned (.int k a)= .returned (.int k b):=by rw[h]
theorem a0j {a b:Bool} (h:a=b):Ending.returned (.bool a)= .returned (.bool b):=by rw[h]
theorem a8I (n:Nat):((n:Int) !=0)=(n !=0):=by rw[Bool.eq_iff_iff];simp
theorem a7p (n:Nat) (h:n<4294967296):(n:Int)%4294967296=n:=by omega
theorem a2w {a b:Int} (h:a≠b):(a==b)=false:=by simpa using h
theorem a6q {a b:Int} (h:a=b):(a !=b)=false:=by simpa using h
theorem a7q {a b:Int} (h:a=b):(a==b)=true:=by simpa using h
theorem a6X {a b:Int} (h:a≠b):(a !=b)=true:=by simpa using h
abbrev Mem:=Addr->Option Value
def Le (h h':Mem):Prop:=∀a u,h a=some u->h' a=some u
theorem Le.refl (h:Mem):Le h h:=fun _ _ x=>x
theorem Le.trans {a b c:Mem} (h:Le a b) (k:Le b c):Le a c:=fun x u e=>k x u (h x u e)
theorem a2p {w:World} {a:Addr} {u:Value} (h:w.cell? a=some u):a.block<w.heap.size:=by
 unfold World.cell? at h;by_cases b:a.block<w.heap.size
 ·exact b
 ·rw[Array.getElem?_eq_none (by omega)]at h;simp at h
structure ExtX (Y:Nat->Bool) (w w':World):Prop where
 os:w'.os=w.os
 tape:w'.tape=w.tape
 output:w'.output=w.output
 size:w.heap.size<=w'.heap.size
 block:∀k,k<w.heap.size->Y k=false->w'.heap[k]? =w.heap[k]?
def noY:Nat->Bool:=fun _=>false
abbrev Ext (w w':World):Prop:=ExtX noY w w'
theorem ExtX.refl {Y:Nat->Bool} (w:World):ExtX Y w w:=⟨rfl,rfl,rfl,Nat.le_refl _,fun _ _ _=>rfl⟩
theorem ExtX.trans {Y:Nat->Bool} {a b c:World} (h:ExtX Y a b) (k:ExtX Y b c):ExtX Y a c:=
 ⟨k.os.trans h.os,k.tape.trans h.tape,k.output.trans h.output,Nat.le_trans h.size k.size,fun i hi d=>(k.block i (Nat.lt_of_lt_of_le hi h.size) d).trans (h.block i hi d)⟩
theorem ExtX.weaken {Y Z:Nat->Bool} {a b:World} (h:ExtX Y a b) (e:∀k,k<a.heap.size->Z k=false->Y k=false):ExtX Z a b:=
 ⟨h.os,h.tape,h.output,h.size,fun k c d=>h.block k c (e k c d)⟩
theorem ExtX.of {Y:Nat->Bool} {a b:World} (h:Ext a b):ExtX Y a b:=h.weaken fun _ _ _=>rfl
theorem ExtX.alloc {Y:Nat->Bool} {a w:World} (h:ExtX Y a w) (o:Obj):ExtX Y a (w.alloc o):=
 h.trans ⟨rfl,rfl,rfl,by simp,fun k b _=>Below.heap_alloc _ _ _ b⟩
theorem ExtX.drew {Y:Nat->Bool} {a w:World} (h:ExtX Y a w):ExtX Y a w.drew:=⟨h.os,h.tape,h.output,h.size,h.block⟩
theorem ExtX.drewN {Y:Nat->Bool} {a w:World} (h:ExtX Y a w) (n:Nat):ExtX Y a (w.drewN n):=⟨h.os,h.tape,h.output,h.size,h.block⟩
theorem ExtX.then_ {Y Z:Nat->Bool} {a b c:World} (h:ExtX Y a b) (k:ExtX Z b c) (e:∀i,i<a.heap.size->Y i=false->Z i=false):ExtX Y a c:=
 ⟨k.os.trans h.os,k.tape.trans h.tape,k.output.trans h.output,Nat.le_trans h.size k.size,fun i hi d=>(k.block i (Nat.lt_of_lt_of_le hi h.size) (e i hi d)).trans (h.block i hi d)⟩
theorem ExtX.below {w a:World} (h:Ext w a):Below w.heap.size w a:=⟨h.os,h.tape,h.output,h.size,fun k b=>h.block k b rfl⟩
def mk (X:Nat->Bool) (w:World):Mem:=fun a=>if X a.block then none else w.cell? a
theorem a0S {X:Nat->Bool} {w:World} {a:Addr} {u:Value} (h:mk X w a=some u):w.cell? a=some u:=by
 unfold mk at h;split at h
 ·simp at h
 ·exact h
theorem b9T (X:Nat->Bool) (w:World):Le (mk X w) w.cell?:=fun _ _ h=>a0S h
theorem a1U (w:World):mk noY w=w.cell?:=by funext a;simp[mk,noY]
theorem a0w {X Y:Nat->Bool} {w c:World} (h:ExtX Y w c) (g:∀k,Y k=true->X k=true):Le (mk X w) (mk X c):=by
 intro a u e;have d:=a0S e;have f:=a2p d;unfold mk at e |-;by_cases b:X a.block=true
 ·simp[b]at e
 ·rw[if_neg b]
  have i:Y a.block=false:=by
   cases j:Y a.block
   ·rfl
   ·exact absurd (g _ j) b
  rw[World.cell?_of_block (h.block a.block f i)];exact d
theorem a0l {X:Nat->Bool} {w a:World} (h:Ext w a):Le (mk X w) (mk X a):=a0w h (fun k b=>by simp[noY]at b)
theorem a1u {X Z:Nat->Bool} {w:World} (h:∀k,k<w.heap.size->X k=true->Z k=true):Le (mk Z w) (mk X w):=by
 intro a u e;have c:=a2p (a0S e);have d:=a0S e;unfold mk at e |-;by_cases b:X a.block=true
 ·simp[h _ c b]at e
 ·rw[if_neg b];exact d
theorem a0T {X Y Z:Nat->Bool} {w f:World} (h:ExtX Y w f) (i:∀k,k<w.heap.size->Y k=true->X k=true) (j:∀k,k<w.heap.size->Z k=true->X k=true):Le (mk X w) (mk Z f):=by
 intro a u e;have g:=a0S e;have b:=a2p g;unfold mk at e |-;by_cases c:X a.block=true
 ·simp[c]at e
 ·have d:¬Z a.block=true:=fun d=>c (j _ b d)
  rw[if_neg d];have l:Y a.block=false:=by
   cases m:Y a.block
   ·rfl
   ·exact absurd (i _ b m) c
  rw[World.cell?_of_block (h.block a.block b l)];exact g
theorem ExtX.cell {w b:World} (h:Ext w b) {a:Addr} {u:Value} (c:w.cell? a=some u):b.cell? a=some u:=by
 have:=a0l (X:=noY) h a u (by rw[a1U];exact c);rwa[a1U]at this
theorem ExtX.cellY {Y:Nat->Bool} {w b:World} (h:ExtX Y w b) {a:Addr} {u:Value} (c:w.cell? a=some u) (d:Y a.block=false):b.cell? a=some u:=by
 rw[World.cell?_of_block (h.block a.block (a2p c) d)];exact c
theorem b5j {w:World} {a:Array Value} {e:TypeId} (j:Nat) {u:Value} (h:a[j]? =some u):(w.alloc (.cells a e)).cell? ⟨w.heap.size,j,none⟩=some u:=by
 unfold World.cell?;rw[heap_alloc_new w];simpa using h
def ob (ao:Option Addr):Nat->Bool:=fun k=>match ao with|some a=>a.block==k|none=>false
def un (X:Nat->Bool) (ao:Option Addr):Nat->Bool:=fun k=>X k||ob ao k
theorem a0f {X:Nat->Bool} {ao:Option Addr} {k:Nat} (h:X k=true):un X ao k=true:=by simp[un,h]
theorem a0r {X:Nat->Bool} {ao:Option Addr} {k:Nat} (h:ob ao k=true):un X ao k=true:=by simp[un,h]
theorem a1j {X:Nat->Bool} {ao:Option Addr} {k:Nat} (h:un X ao k=false):X k=false/\ob ao k=false:=by simpa[un]using h
def adr (ao:Option Addr) (k:Nat):Addr:=⟨(ao.getD ⟨0,0,none⟩).block,(ao.getD ⟨0,0,none⟩).off+k,none⟩
@[go_sem] theorem a9I (ao:Option Addr) (k j:Nat):(adr ao k).add j=adr ao (k+j):=by
 unfold adr;rw[Addr.add_lit,Nat.add_assoc]
theorem a1h (b o k:Nat):adr (some ⟨b,o,none⟩) k=⟨b,o+k,none⟩:=rfl
def Hd (ao:Option Addr) (n:Nat):Prop:=0<n->∃b off,ao=some ⟨b,off,none⟩
def Sl {α:Type} (R:Mem->Value->α->Prop) (sz:Nat) (h:Mem) (ao:Option Addr) (l:List α):Prop:=
 Hd ao l.length/\∀i (hi:i<l.length),∃u:Value,u.cells.size=sz/\(∀j (hj:j<u.cells.size),h (adr ao (i*sz+j))=some u.cells[j])/\R h u l[i]
def a3E {α:Type} (R:Mem->Value->α->Prop):Prop:=∀(h h':Mem) (u:Value) (x:α),Le h h'->R h u x->R h' u x
def a3u {α:Type} (R:Mem->Value->α->Prop):Prop:=∀(h:Mem) (u:Value) (x:α),R h u x->u.cells=#[u]
theorem Sl.hd {α:Type} {R:Mem->Value->α->Prop} {sz:Nat} {h:Mem} {ao:Option Addr} {l:List α} (s:Sl R sz h ao l):Hd ao l.length:=s.1
theorem Sl.mono {α:Type} {R:Mem->Value->α->Prop} (c:a3E R) {sz:Nat} {h b:Mem} {ao:Option Addr} {l:List α} (a:Le h b) (s:Sl R sz h ao l):Sl R sz b ao l:=by
 refine⟨s.1,fun i hi=>?_⟩;obtain⟨u,f,d,e⟩:=s.2 i hi;exact⟨u,f,fun j g=>a _ _ (d j g),c _ _ _ _ a e⟩
theorem Sl.nil {α:Type} (R:Mem->Value->α->Prop) (sz:Nat) (h:Mem) (ao:Option Addr):Sl R sz h ao []:=
 ⟨fun h=>by simp at h,fun i hi=>by simp at hi⟩
theorem Sl.take {α:Type} {R:Mem->Value->α->Prop} {sz:Nat} {h:Mem} {ao:Option Addr} {l:List α} (s:Sl R sz h ao l) (n:Nat):Sl R sz h ao (l.take n):=by
 refine⟨fun b=>s.1 (by simp at b;omega),fun i hi=>?_⟩;have a:i<l.length:=by simp at hi;omega
 obtain⟨u,e,c,d⟩:=s.2 i a;exact⟨u,e,c,by simpa using d⟩
def SlV {α:Type} (R:Mem->Value->α->Prop) (sz:Nat) (h:Mem) (v:Value) (l:List α):Prop:=
 ∃ao cap,v= .slice ao l.length cap/\l.length<=cap/\Sl R sz h ao l
theorem SlV.mono {α:Type} {R:Mem->Value->α->Prop} (b:a3E R) (sz:Nat):a3E (SlV R sz):=by
 rintro h e u x a ⟨ao,cap,rfl,c,d⟩;exact⟨ao,cap,rfl,c,d.mono b a⟩
theorem SlV.one {α:Type} {R:Mem->Value->α->Prop} {sz:Nat}:a3u (SlV R sz):=by
 rintro h u x ⟨ao,cap,rfl,_⟩;rfl
theorem SlV.zero {α:Type} (R:Mem->Value->α->Prop) (sz:Nat) (h:Mem):SlV R sz h (.slice none 0 0) []:=
 ⟨none,0,rfl,Nat.le_refl _,Sl.nil _ _ _ _⟩
def a0c (k:IntKind):Mem->Value->Nat->Prop:=fun _ u x=>u= .int k (x:Int)
theorem a0c.mono (k:IntKind):a3E (a0c k):=fun _ _ _ _ _ h=>h
theorem a0c.one (k:IntKind):a3u (a0c k):=by rintro h u x rfl;rfl
def a0p (k:IntKind):Mem->Value->Int->Prop:=fun _ u x=>u= .int k x
theorem a0p.mono (k:IntKind):a3E (a0p k):=fun _ _ _ _ _ h=>h
theorem a0p.one (k:IntKind):a3u (a0p k):=by rintro h u x rfl;rfl
theorem Sl.cell {α:Type} {R:Mem->Value->α->Prop} {h:Mem} {ao:Option Addr} {l:List α} (s:Sl R 1 h ao l) (e:a3u R) (i:Nat) (hi:i<l.length):
  ∃u,h (adr ao i)=some u/\R h u l[i]:=by
 obtain⟨u,_,d,c⟩:=s.2 i hi;have b:=e _ _ _ c;have a:=d 0 (by rw[b];exact Nat.one_pos);refine⟨u,?_,c⟩;rw[Nat.mul_one,Nat.add_zero]at a;rw[a];simp[b]
theorem Sl.nat {k:IntKind} {X:Nat->Bool} {w:World} {ao:Option Addr} {l:List Nat} (s:Sl (a0c k) 1 (mk X w) ao l) (i:Nat) (hi:i<l.length):w.cell? (adr ao i)=some (.int k (l[i]:Int)):=by
 obtain⟨u,a,rfl⟩:=s.cell (a0c.one k) i hi;exact a0S a
theorem Sl.int {k:IntKind} {X:Nat->Bool} {w:World} {ao:Option Addr} {l:List Int} (s:Sl (a0p k) 1 (mk X w) ao l) (i:Nat) (hi:i<l.length):w.cell? (adr ao i)=some (.int k l[i]):=by
 obtain⟨u,a,rfl⟩:=s.cell (a0p.one k) i hi;exact a0S a
theorem Sl.slice {α:Type} {R:Mem->Value->α->Prop} {sz:Nat} {X:Nat->Bool} {w:World} {ao:Option Addr} {l:List (List α)} (s:Sl (SlV R sz) 1 (mk X w) ao l) (i:Nat) (hi:i<l.length):
  ∃a c,w.cell? (adr ao i)=some (.slice a l[i].length c)/\l[i].length<=c/\Sl R sz (mk X w) a l[i]:=by
 obtain⟨u,e,a,c,rfl,b,d⟩:=s.cell SlV.one i hi;exact⟨a,c,a0S e,b,d⟩
structure SliceT (P:Program) (t e sz by_:Nat) (z:Value):Prop where
 und:P.underlying t=some (.slice e)
 info:(P.info? e).map (fun i=>(i.zero,i.size,i.bytes))=some (some z,sz,by_)
def TyI (P:Program) (t sz:Nat):Prop:=∃ti,P.info? t=some ti/\ti.size=sz
section
variable {P:Program} {ops:Array Oper} {Q:Exit->Act->World->Prop} {rest:List Oper} {a:Act} {w:World}
theorem a0m {t e sz d:Nat} {z:Value} (T:SliceT P t e sz d z) (ao:Option Addr) (a cap:Nat) (k:IntKind) (n:Nat)
  (j:Hd ao a) (g:n<a) (w:World):
  (Instr.indexAt t (.slice ao a cap) (.int k (n:Int))).run P w= .ok (.pointer (some (adr ao (n*sz)))) w:=by
 obtain⟨i,hi,l,f,h⟩:=info_parts T.info;obtain⟨b,c,rfl⟩:=j (by omega);subst f;have e:(⟨b,c,none⟩:Addr).add (n*i.size)=⟨b,c+n*i.size,none⟩:=Addr.add_lit _ _ _;simp[Instr.indexAt,asIntOf,Sem.run_bind,run_underlying T.und,Result.andThen,g,sizeOf,typeInfo,hi,adr,e]
theorem a0z {t e b:Nat} {z:Value} (T:SliceT P t e 1 b z) (ao:Option Addr) (a cap:Nat) (k:IntKind) (n:Nat) {m:Int} (d:Hd ao a) (c:n<a) (f:m=(n:Int)) (w:World):
  (Instr.indexAt t (.slice ao a cap) (.int k m)).run P w= .ok (.pointer (some (adr ao n))) w:=by
 subst f;rw[a0m (P:=P) T ao a cap k n d c w,Nat.mul_one]
theorem a0q {o:Oper} {K:Act->World->Prop} {t e c:Nat} {z:Value} (T:SliceT P t e 1 c z) {ao:Option Addr} {b cap:Nat} {k:IntKind} {m:Int}
  (f:0<=m/\m<(b:Int)) (d:Hd ao b) (h:K (a.put o.dst (.pointer (some (adr ao m.toNat)))) w):
  o.upon P a K Q ((Sem.run P (Instr.indexAt t (.slice ao b cap) (.int k m)) w).andThen fun v w=> .ok (.value v) w):=by
 obtain⟨n,rfl⟩:=Int.eq_ofNat_of_zero_le f.1;rw[a0m (P:=P) T ao b cap k n d (by omega) w,Nat.mul_one];exact h
theorem a1M {o:Oper} {K:Act->World->Prop} {t e sz c:Nat} {z:Value} (T:SliceT P t e sz c z) {ao:Option Addr} {b cap:Nat} {k:IntKind} {m:Int}
  (f:0<=m/\m<(b:Int)) (d:Hd ao b) (h:K (a.put o.dst (.pointer (some (adr ao (m.toNat*sz))))) w):
  o.upon P a K Q ((Sem.run P (Instr.indexAt t (.slice ao b cap) (.int k m)) w).andThen fun v w=> .ok (.value v) w):=by
 obtain⟨n,rfl⟩:=Int.eq_ofNat_of_zero_le f.1;rw[a0m (P:=P) T ao b cap k n d (by omega) w];exact h
end
end Go.Rep
namespace Go.Rep
open Go.RowKit
def a0i (u:Value):List Value:=u.cells.toList
theorem a0Q {sz:Nat}:∀(us:List Value),(∀u∈us,u.cells.size=sz)->(us.flatMap a0i).length=us.length*sz
 | [],_=>by simp
 |u::us,h=>by
  rw[List.flatMap_cons,List.length_append,a0Q us (fun x hx=>h x (List.mem_cons_of_mem _ hx)),List.length_cons,Nat.succ_mul];have:(a0i u).length=sz:=by simp[a0i,h u (List.mem_cons_self ..)]
  omega
theorem a3v {sz:Nat}:∀(us:List Value) (i j:Nat) (hi:i<us.length),(∀u∈us,u.cells.size=sz)->j<sz->(us.flatMap a0i)[i*sz+j]? =(a0i us[i])[j]?
 |u::us,i,j,hi,h,hj=>by
  have hu:(a0i u).length=sz:=by simp[a0i,h u (List.mem_cons_self ..)]
  rw[List.flatMap_cons]
  match i with
  |0=>
   simp only[Nat.zero_mul,Nat.zero_add,List.getElem_cons_zero];rw[List.getElem?_append_left (by omega)]
  |i+1=>
   rw[List.getElem?_append_right (by rw[hu,Nat.succ_mul];omega),hu];have e:(i+1)*sz+j - sz=i*sz+j:=by rw[Nat.succ_mul];omega
   rw[e];simpa using a3v us i j (by simpa using hi) (fun x hx=>h x (List.mem_cons_of_mem _ hx)) hj
theorem b0M {sz:Nat}:∀(us:List Value) (i:Nat) (u:Value),i<us.length->(∀u∈us,u.cells.size=sz)->u.cells.size=sz->
  (us.set i u).flatMap a0i=(us.flatMap a0i).take (i*sz)++a0i u++(us.flatMap a0i).drop (i*sz+sz)
 |v::us,i,u,hi,h,hu=>by
  have hv:(a0i v).length=sz:=by simp[a0i,h v (List.mem_cons_self ..)]
  match i with
  |0=>
   simp only[List.set_cons_zero,List.flatMap_cons,Nat.zero_mul,List.take_zero,List.nil_append,Nat.zero_add];rw[List.drop_append_of_le_length (by omega),List.drop_of_length_le (by omega),List.nil_append]
  |i+1=>
   have ih:=b0M us i u (by simpa using hi) (fun x hx=>h x (List.mem_cons_of_mem _ hx)) hu;simp only[List.set_cons_succ,List.flatMap_cons];have e1:(i+1)*sz=(a0i v).length+i*sz:=by rw[Nat.succ_mul];omega
   rw[ih,e1,List.take_length_add_append,Nat.add_assoc,List.drop_length_add_append];simp only[List.append_assoc]
structure Elem {α:Type} (R:Mem->Value->α->Prop) (sz:Nat):Prop where
 mono:a3E R
 size:∀(h:Mem) (u:Value) (x:α),R h u x->u.cells.size=sz
 one:∀(h:Mem) (u:Value) (x:α),R h u x->∀c∈a0i u,c.oneCell'=true
 pos:0<sz
theorem a0c.elem (k:IntKind):Elem (a0c k) 1:=⟨a0c.mono k,by rintro h u x rfl;rfl,by rintro h u x rfl c a;simp[a0i,Value.cells]at a;subst a;rfl,Nat.one_pos⟩
theorem a0p.elem (k:IntKind):Elem (a0p k) 1:=⟨a0p.mono k,by rintro h u x rfl;rfl,by rintro h u x rfl c a;simp[a0i,Value.cells]at a;subst a;rfl,Nat.one_pos⟩
theorem SlV.elem {α:Type} {R:Mem->Value->α->Prop} {sz:Nat} (h:Elem R sz):Elem (SlV R sz) 1:=
 ⟨SlV.mono h.mono sz,by rintro h u x ⟨ao,cap,rfl,_⟩;rfl,by rintro h u x ⟨ao,cap,rfl,_⟩ c a;simp[a0i,Value.cells]at a;subst a;rfl,Nat.one_pos⟩
def OL {α:Type} (R:Mem->Value->α->Prop) (sz:Nat) (X:Nat->Bool) (base:Nat) (e:TypeId) (w:World) (ao:Option Addr) (cap:Nat) (l:List α):Prop:=
 (∀k,ob ao k=true->X k=false)/\
 ∃us:List Value,us.length=l.length/\(∀u∈us,u.cells.size=sz)/\(∀u∈us,∀c∈a0i u,c.oneCell'=true)/\w.ownsRow base e sz (.slice ao l.length cap) l.length (us.flatMap a0i)/\
  ∀i (hi:i<us.length) (hi':i<l.length),R (mk (un X ao) w) us[i] l[i]
section
variable {α:Type} {R:Mem->Value->α->Prop} {sz:Nat} {X:Nat->Bool} {base:Nat} {e:TypeId} {w:World} {ao:Option Addr} {cap:Nat} {l:List α}
theorem OL.nil (R:Mem->Value->α->Prop) (sz:Nat) (X:Nat->Bool) (base:Nat) (e:TypeId) (w:World):OL R sz X base e w none 0 []:=
 ⟨fun _ h=>by simp[ob]at h,[],rfl,by simp,by simp,World.ownsRow_nil w base e sz,fun i hi=>by simp at hi⟩
theorem OL.form (h:OL R sz X base e w ao cap l):(ao=none/\cap=0/\l= [])\/∃g a,ao=some ⟨g,0,none⟩/\base<=g/\w.heap[g]? =some (.cells a e (0,0))/\l.length<=cap/\cap<=maxLen/\a.size=cap*sz:=by
 obtain⟨_,r,t,q,_,⟨s,j⟩,p⟩:=h;rcases j with⟨b,f⟩|⟨g,c,a,b,m,n,k,o,d,i⟩
 ·left
  simp at b;exact⟨b.1,b.2.2,List.eq_nil_of_length_eq_zero f⟩
 ·right
  simp at b;obtain⟨rfl,rfl⟩:=b;exact⟨g,a,rfl,m,n,k,o,d⟩
theorem OL.block (h:OL R sz X base e w ao cap l) {k:Nat} (a:ob ao k=true):base<=k/\k<w.heap.size:=by
 rcases h.form with⟨rfl,_⟩|⟨g,f,rfl,d,b,_⟩
 ·simp[ob]at a
 ·have:g=k:=by simpa[ob]using a
  subst this;refine⟨d,?_⟩;by_cases c:g<w.heap.size
  ·exact c
  ·rw[Array.getElem?_eq_none (by omega)]at b;simp at b
theorem OL.ob_lt (h:OL R sz X base e w ao cap l) {k:Nat} (b:k<base):ob ao k=false:=by
 cases a:ob ao k
 ·rfl
 ·have:=h.block a;omega
theorem OL.lenCap (h:OL R sz X base e w ao cap l):l.length<=cap:=by
 rcases h.form with⟨_,_,rfl⟩|⟨g,b,_,_,_,a,_⟩
 ·simp
 ·exact a
theorem OL.hd (h:OL R sz X base e w ao cap l):Hd ao l.length:=by
 intro a;rcases h.form with⟨_,_,rfl⟩|⟨g,b,rfl,_⟩
 ·simp at a
 ·exact⟨g,0,rfl⟩
theorem OL.cells (h:OL R sz X base e w ao cap l):∃a:List Value,a.length=l.length/\(∀u∈a,u.cells.size=sz)/\(∀u∈a,∀c∈a0i u,c.oneCell'=true)/\
  (∀j u,(a.flatMap a0i)[j]? =some u->w.cell? (adr ao j)=some u/\w.frozen? (adr ao j)=false)/\∀i (hi:i<a.length) (s:i<l.length),R (mk (un X ao) w) a[i] l[i]:=by
 have z:=h.form;obtain⟨E,a,B,y,p,⟨A,x⟩,t⟩:=h;refine⟨a,B,y,p,fun j u n=>?_,t⟩;have d:j<l.length*sz:=by
  rw[<-A];exact(List.getElem?_eq_some_iff.1 n).1
 rcases z with⟨_,_,rfl⟩|⟨g,q,rfl,G,r,F,H,v⟩
 ·simp at d
 rcases x with⟨m,C⟩|⟨D,c,f,m,_,b,_,_,_,o⟩
 ·simp at m
 simp at m;obtain⟨rfl,rfl⟩:=m;rw[r]at b;obtain rfl:q=f:=by simpa using b
 rw[<-o,List.getElem?_take_of_lt d]at n;have k:adr (some ⟨g,0,none⟩) j=⟨g,j,none⟩:=by simp[adr]
 rw[k];simp only[Array.getElem?_toList]at n;simp[World.cell?,World.frozen?,r,n]
theorem OL.sl (f:Elem R sz) (h:OL R sz X base e w ao cap l):Sl R sz (mk X w) ao l:=by
 refine⟨h.hd,fun i hi=>?_⟩;have s:=h.form;have p:=h.1;obtain⟨b,x,d,_,u,m⟩:=h.cells;have c:i<b.length:=by omega
 refine⟨b[i],d _ (List.getElem_mem _),fun j q=>?_,f.mono _ _ _ _ (a1u fun k _ n=>a0f n) (m i c hi)⟩;have r:b[i].cells.size=sz:=d _ (List.getElem_mem _);have a:=a3v b i j c d (by omega);have t:(a0i b[i])[j]? =some b[i].cells[j]:=by simp[a0i,q]
 rw[t]at a;have v:=(u _ _ a).1;unfold mk;have:X (adr ao (i*sz+j)).block=false:=by
  rcases s with⟨_,_,rfl⟩|⟨g,o,rfl,_⟩
  ·simp at hi
  ·exact p _ (by simp[ob,adr])
 rw[this];simpa using v
theorem OL.cell (d:a3u R) (h:OL R 1 X base e w ao cap l) (i:Nat) (hi:i<l.length):
  ∃u,w.cell? (adr ao i)=some u/\w.frozen? (adr ao i)=false/\R (mk (un X ao) w) u l[i]:=by
 obtain⟨c,o,g,_,m,f⟩:=h.cells;have b:i<c.length:=by omega
 have j:c[i].cells.size=1:=g _ (List.getElem_mem _);have a:=a3v c i 0 b g (by omega);have n:(a0i c[i])[0]? =some c[i].cells[0]:=by simp[a0i]
 rw[n]at a;have k:=d _ _ _ (f i b hi);have:=m _ _ a;simp only[Nat.mul_one,Nat.add_zero,k]at this;exact⟨c[i],this.1,this.2,f i b hi⟩
theorem OL.ext (v:Elem R sz) {Y Z:Nat->Bool} {o:World} (h:OL R sz X base e w ao cap l) (q:ExtX Y w o) (s:∀k,k<w.heap.size->Y k=true->X k=true) (p:∀k,k<w.heap.size->Z k=true->X k=true):OL R sz Z base e o ao cap l:=by
 have n:=fun k (a:ob ao k=true)=>h.block a;obtain⟨r,E,D,z,j,t,x⟩:=h;refine⟨fun k a=>?_,E,D,z,j,?_,fun i hi f=>v.mono _ _ _ _ (a0T q (fun k a C=>a0f (s k a C)) (fun k a u=>?_)) (x i hi f)⟩
 ·cases b:Z k
  ·rfl
  ·have:=p k (n k a).2 b;rw[r k a]at this;simp at this
 ·refine⟨t.1,?_⟩
  rcases t.2 with y|⟨g,c,m,d,B,F,A⟩
  ·exact .inl y
  ·refine .inr ⟨g,c,m,d,B,?_,A⟩
   simp at d;obtain⟨rfl,rfl⟩:=d;have a:ob (some ⟨g,0,none⟩) g=true:=by simp[ob]
   rw[q.block g (n g a).2,F];cases b:Y g
   ·rfl
   ·have:=s g (n g a).2 b;rw[r g a]at this;simp at this
 ·cases b:Z k
  ·simp[un,b]at u;exact a0r u
  ·exact a0f (p k a b)
theorem OL.ext0 (b:Elem R sz) {a:World} (h:OL R sz X base e w ao cap l) (c:Ext w a):OL R sz X base e a ao cap l:=
 h.ext b c (fun k _ d=>by simp[noY]at d) (fun _ _ h=>h)
theorem ExtX.own {Y:Nat->Bool} {a b:World} (h:ExtX Y a w) (f:OL R sz X base e w ao cap l) (g:a.heap.size<=base) (d:ExtX (ob ao) w b):ExtX Y a b:=
 h.then_ d fun i hi _=>by
  cases c:ob ao i
  ·rfl
  ·have:=f.block c;omega
theorem OL.unX (h:OL R sz X base e w ao cap l) (c:∀k,X k=true->k<w.heap.size):∀k,un X ao k=true->k<w.heap.size:=by
 intro k b;by_cases a:X k=true
 ·exact c k a
 ·have:ob ao k=true:=by simpa[un,a]using b
  exact(h.block this).2
theorem OL.base_le (h:OL R sz X base e w ao cap l) {b':Nat} (r:b'<=base):OL R sz X b' e w ao cap l:=by
 obtain⟨p,n,o,m,b,d,j⟩:=h;refine⟨p,n,o,m,b,⟨d.1,?_⟩,j⟩;rcases d.2 with k|⟨g,c,a,f,q,i⟩
 ·exact .inl k
 ·exact .inr ⟨g,c,a,f,by omega,i⟩
end
section
variable {α:Type} {R:Mem->Value->α->Prop} {sz:Nat} {X:Nat->Bool} {base:Nat} {e:TypeId} {w:World} {ao:Option Addr} {cap:Nat} {l:List α} {P:Program}
def At (w:World) (ao:Option Addr) (us:List Value):Prop:=Hd ao us.length/\∀j u,(us.flatMap a0i)[j]? =some u->w.cell? (adr ao j)=some u
theorem Sl.at_ (hR:Elem R sz) (h:Sl R sz (mk X w) ao l):∃us:List Value,us.length=l.length/\At w ao us/\∀i (hi:i<us.length) (hi':i<l.length),R (mk X w) us[i] l[i]:=by
 have hpos:=hR.pos;have key:∀n,n<=l.length->∃us:List Value,us.length=n/\(∀j u,(us.flatMap a0i)[j]? =some u->w.cell? (adr ao j)=some u)/\∀i (hi:i<us.length) (hi':i<l.length),R (mk X w) us[i] l[i]:=by
  intro n
  induction n with
  |zero=>intro _;exact⟨[],rfl,by simp,by simp⟩
  |succ n ih=>
   intro hn;obtain⟨us,h1,h2,h3⟩:=ih (by omega);obtain⟨u,h4,h5,h6⟩:=h.2 n (by omega);have hsz:∀v∈us,v.cells.size=sz:=by
    intro v hv;obtain⟨i,hi,rfl⟩:=List.getElem_of_mem hv;exact hR.size _ _ _ (h3 i hi (by omega))
   refine⟨us++[u],by simp[h1],fun j x hj=>?_,fun i hi hi'=>?_⟩
   ·rw[List.flatMap_append]at hj
    have hfl:=a0Q us hsz;by_cases hlt:j<us.length*sz
    ·rw[List.getElem?_append_left (by omega)]at hj;exact h2 j x hj
    ·rw[List.getElem?_append_right (by omega),hfl]at hj
     simp only[List.flatMap_cons,List.flatMap_nil,List.append_nil,a0i]at hj;obtain⟨hj1,hj2⟩:=List.getElem?_eq_some_iff.1 hj;have:=h5 (j - us.length*sz) (by simpa using hj1);have ee:n*sz+(j - us.length*sz)=j:=by rw[h1]at hlt |-;omega
     rw[ee]at this;rw[a0S this];simp[<-hj2]
   ·by_cases hlt:i<us.length
    ·simpa[List.getElem_append_left hlt]using h3 i hlt hi'
    ·have:i=n:=by simp at hi;omega
     subst this;simpa[List.getElem_append_right,h1]using h6
 obtain⟨us,h1,h2,h3⟩:=key l.length (Nat.le_refl _);exact⟨us,h1,⟨by rw[h1];exact h.1,h2⟩,h3⟩
theorem a7M {a:Addr} (h:a.spot=none) (j:Nat):adr (some a) j=a.add j:=by
 cases a;simp at h;subst h;rw[Addr.add_lit];rfl
theorem a2j {b:World} {a:Option Addr} (f:ExtX (ob ao) w b) (h:a=ao\/∃g,a=some ⟨g,0,none⟩/\w.heap.size<=g):Le (mk (un X ao) w) (mk (un X a) b):=by
 refine a0T f (fun k _ c=>a0r c) fun k c d=>?_;rcases h with rfl|⟨g,rfl,i⟩
 ·exact d
 ·by_cases e:X k=true
  ·exact a0f e
  ·have:g=k:=by simpa[un,e,ob]using d
   omega
theorem OL.run_append {t by_:Nat} {z:Value} (T:SliceT P t e sz by_ z) (hzs:z.cells.size=sz) (hR:Elem R sz) (h:OL R sz X base e w ao cap l) (hbase:base<=w.heap.size) (hX:∀k,X k=true->k<w.heap.size)
  (asl:Option Addr) (cs:Nat) (us':List Value) (xs:List α) (hat:At w asl us') (hlen:us'.length=xs.length) (hxs:∀i (hi:i<us'.length) (hi':i<xs.length),R (mk (un X ao) w) us'[i] xs[i])
  (hroom:(l.length+xs.length)*by_<=140737488355328) (hmax:l.length+xs.length<=9223372036854775807) (ty:TypeId):
  ∃ao' cap' w',(Builtin.append_ #[t,t] ty #[.slice ao l.length cap, .slice asl xs.length cs]).run P w= .ok (.slice ao' (l++xs).length cap') w'/\OL R sz X base e w' ao' cap' (l++xs)/\ExtX (ob ao) w w'/\
   (ao'=ao\/∃g,ao'=some ⟨g,0,none⟩/\w.heap.size<=g):=by
 obtain⟨i,hi,hz,hsz,hby⟩:=info_parts T.info;have hpos:=hR.pos;have hus':∀u∈us',u.cells.size=sz:=by
  intro v hv;obtain⟨i,hi,rfl⟩:=List.getElem_of_mem hv;exact hR.size _ _ _ (hxs i hi (by omega))
 have hone':∀u∈us'.flatMap a0i,u.oneCell'=true:=by
  intro c hc;obtain⟨v,hv,hcv⟩:=List.mem_flatMap.1 hc;obtain⟨i,hi,rfl⟩:=List.getElem_of_mem hv;exact hR.one _ _ _ (hxs i hi (by omega)) c hcv
 by_cases hxe:xs= []
 ·subst hxe
  have hu0:us'= []:=List.eq_nil_of_length_eq_zero (by simpa using hlen);subst hu0;refine⟨ao,cap,w,?_,by simpa using h,ExtX.refl w, .inl rfl⟩;have hlc:=h.lenCap;have hsz':=hsz;subst hsz;cases asl with
  |none=>cases ao<;>simp[Builtin.append_,run_underlying T.und,sizeOf,typeInfo,hi,Builtin.lenOf,Builtin.firstCells,hlc,storeCells]
  |some asl=>cases ao<;>simp[Builtin.append_,run_underlying T.und,sizeOf,typeInfo,hi,Builtin.lenOf,Builtin.firstCells,loadCells,loadCellsFrom,hlc,storeCells]
 have hxpos:0<xs.length:=by
  cases xs with
  |nil=>exact absurd rfl hxe
  |cons x xs=>simp
 obtain⟨sb,so,rfl⟩:=hat.1 (by omega);have hnews:∀j u,(us'.flatMap a0i)[j]? =some u->w.cell? ((⟨sb,so,none⟩:Addr).add j)=some u:=by
  intro j u hj;rw[<-a7M rfl];exact hat.2 j u hj
 have hnl:(us'.flatMap a0i).length=xs.length*i.size:=by rw[a0Q us' hus',hlen,hsz]
 have hx:=h.1;have hcells:=h.cells;have hform:=h.form;obtain⟨_,us,h1,h2,h22,h3,h5⟩:=h;have hul:(us.flatMap a0i).length=l.length*i.size:=by rw[a0Q us h2,h1,hsz]
 have hfl:(us++us').flatMap a0i=us.flatMap a0i++us'.flatMap a0i:=List.flatMap_append;have hnew:∀u∈us++us',u.cells.size=sz:=by
  intro u hu;rcases List.mem_append.1 hu with hu|hu
  ·exact h2 u hu
  ·exact hus' u hu
 have hnew1:∀u∈us++us',∀c∈a0i u,c.oneCell'=true:=by
  intro u hu c hc;rcases List.mem_append.1 hu with hu|hu
  ·exact h22 u hu c hc
  ·exact hone' c (List.mem_flatMap.2 ⟨u,hu,hc⟩)
 have hRs:∀(ao':Option Addr) (w':World),ExtX (ob ao) w w'->(ao'=ao\/∃g,ao'=some ⟨g,0,none⟩/\w.heap.size<=g)->
   ∀i (hi:i<(us++us').length) (hi':i<(l++xs).length),R (mk (un X ao') w') (us++us')[i] (l++xs)[i]:=by
  intro ao' w' hE ho i hi hi';have hle:=a2j (X:=X) hE ho;by_cases hlt:i<us.length
  ·simpa[List.getElem_append_left hlt,List.getElem_append_left (show i<l.length by omega)]using hR.mono _ _ _ _ hle (h5 i hlt (by omega))
  ·have hb1:i - us.length<us'.length:=by simp at hi;omega
   have:=hR.mono _ _ _ _ hle (hxs (i - us.length) hb1 (by omega));simpa[List.getElem_append_right (show us.length<=i by omega),List.getElem_append_right (show l.length<=i by omega),h1]using this
 have grown:∀old,old<l.length+xs.length->∃g cur,g=w.heap.size/\cur=(us.flatMap a0i).toArray++(us'.flatMap a0i).toArray++Builtin.zeroCells z.cells (grownCap w (l.length+xs.length) old e - (l.length+xs.length))/\
   OL R sz X base e (w.drew.alloc (.cells cur e)) (some ⟨g,0,none⟩) (grownCap w (l.length+xs.length) old e) (l++xs)/\ExtX (ob ao) w (w.drew.alloc (.cells cur e)):=by
  intro old ho;refine⟨_,_,rfl,rfl,?_,?_⟩
  ·have hge:=grownCap_ge w (l.length+xs.length) old e
   have hcm:grownCap w (l.length+xs.length) old e<=maxLen:=grownCap_le_maxLen w (l.length+xs.length) old e (by simpa[maxLen]using hmax);have hE:ExtX (ob ao) w (w.drew.alloc (.cells ((us.flatMap a0i).toArray++(us'.flatMap a0i).toArray++Builtin.zeroCells z.cells (grownCap w (l.length+xs.length) old e - (l.length+xs.length))) e)):=((ExtX.refl w).drew).alloc _;refine⟨fun k hk=>?_,us++us',by simp[h1,hlen],hnew,hnew1,⟨by rw[hfl];simp[hul,hnl,hsz,Nat.add_mul], .inr ⟨w.heap.size,_,_,by simp,hbase,heap_alloc_new w.drew _,by simpa using hge,hcm,?_,?_⟩⟩,hRs _ _ hE (.inr ⟨_,rfl,Nat.le_refl _⟩)⟩
   ·have:w.heap.size=k:=by simpa[ob]using hk
    cases hh:X k
    ·rfl
    ·have:=hX k hh;omega
   ·simp only[Array.size_append,List.size_toArray,size_zeroCells,hzs,hul,hnl,hsz,<-Nat.add_mul]
    congr 1;omega
   ·rw[hfl]
    simp only[Array.toList_append,List.length_append];have hll:(l.length+xs.length)*sz=(us.flatMap a0i++us'.flatMap a0i).length:=by simp[hul,hnl,hsz,Nat.add_mul]
    rw[hll];exact List.take_left
  ·exact((ExtX.refl w).drew).alloc _
 have hll:(l++xs).length=l.length+xs.length:=List.length_append;rcases hform with⟨rfl,rfl,rfl⟩|⟨g,cur,rfl,h6,h7,h8,h9,h10⟩
 ·have hu0:us= []:=List.eq_nil_of_length_eq_zero (by simpa using h1)
  subst hu0;obtain⟨g,cur,rfl,hcur,hOL,hE⟩:=grown 0 (by simp;omega);have hr:=run_append_nil (P:=P) w t ty e i z T.und hi hz ⟨sb,so,none⟩ xs.length cs (us'.flatMap a0i) hnl hnews hxpos (by simp at hmax;omega) (by simp at hroom;rw[hby];omega);simp only[List.flatMap_nil,List.length_nil,Nat.zero_add,List.nil_append,Array.empty_append]at hOL hE hcur hr |-;subst hcur;exact⟨_,_,_,hr,hOL,hE, .inr ⟨_,rfl,Nat.le_refl _⟩⟩
 ·by_cases hroom':l.length+xs.length<=cap
  ·have hfit:l.length*i.size+(us'.flatMap a0i).length<=cur.size:=by rw[hnl,h10,<-hsz,<-Nat.add_mul];exact Nat.mul_le_mul_right _ hroom'
   have hr:=run_append_room (P:=P) w t ty e i T.und hi g l.length cap cur h7 ⟨sb,so,none⟩ xs.length cs (us'.flatMap a0i) hnl hnews hone' hroom' hfit;have hE:ExtX (ob (some ⟨g,0,none⟩)) w (w.setRow g (cur.toList.take (l.length*i.size)++us'.flatMap a0i++cur.toList.drop (l.length*i.size+(us'.flatMap a0i).length)).toArray):=
    ⟨rfl,rfl,rfl,by simp,fun k _ hk=>setRow_other w g k _ (fun ek=>by subst ek;simp[ob]at hk)⟩
   refine⟨_,_,_,by rw[hll];exact hr,⟨hx,us++us',by simp[h1,hlen],hnew,hnew1,⟨by rw[hfl];simp[hul,hnl,hsz,Nat.add_mul], .inr ⟨g,cap,_,by rw[hll],h6,setRow_heap w g cur _ e _ h7,by rw[hll];exact hroom',h9,?_,?_⟩⟩,hRs _ _ hE (.inl rfl)⟩,hE, .inl rfl⟩
   ·simp only[List.size_toArray,List.length_append,List.length_take,List.length_drop,Array.length_toList];omega
   ·rw[hfl,hll]
    rcases h3.2 with⟨hv,_⟩|⟨g',c',cur',hv,_,h7',_,_,_,h11⟩
    ·simp at hv
    simp at hv;obtain⟨rfl,rfl⟩:=hv;rw[h7]at h7';obtain rfl:cur=cur':=by simpa using h7'
    have e1:cur.toList.take (l.length*i.size)=us.flatMap a0i:=by rw[hsz];exact h11
    rw[e1];have hll2:(l.length+xs.length)*sz=(us.flatMap a0i++us'.flatMap a0i).length:=by simp[hul,hnl,hsz,Nat.add_mul]
    rw[hll2];exact List.take_left
  ·have holds:∀j u,(us.flatMap a0i)[j]? =some u->w.cell? ((⟨g,0,none⟩:Addr).add j)=some u:=h3.cells (g:=g) rfl
   have hr:=run_append_grow (P:=P) w t ty e i z T.und hi hz ⟨g,0,none⟩ l.length cap (us.flatMap a0i) hul holds ⟨sb,so,none⟩ xs.length cs (us'.flatMap a0i) hnl hnews (by omega) (by omega) (growslice_fits (by omega) (by rw[hby];exact hroom));obtain⟨g',cur',rfl,hcur,hOL,hE⟩:=grown cap (by omega);subst hcur;exact⟨_,_,_,by rw[hll];exact hr,hOL,hE, .inr ⟨_,rfl,Nat.le_refl _⟩⟩
theorem OL.run_make {t g:Nat} {z:Value} (T:SliceT P t e sz g z) (p:Elem R sz) (m:α) (x:∀h,R h z m) (F:∀k,X k=true->k<w.heap.size) (d:base<=w.heap.size)
  (y A:IntKind) (n:Nat) (v:g*n<=281474976710656) (l:n<=9223372036854775807):
  ∃ao o,(Instr.makeSlice t (.int y (n:Int)) (.int A (n:Int))).run P w= .ok (.slice ao n n) o/\OL R sz X base e o ao n (List.replicate n m)/\Ext w o:=by
 obtain⟨i,hi,r,f,q⟩:=info_parts T.info;have a:z.cells.size=sz:=p.size (fun _=>none) z m (x _);have c:=p.pos;have B:=Go.run_make (P:=P) w t e i z T.und hi r y A n n (by omega) (Int.le_refl _) (by rw[q,<-Int.natCast_mul];omega) (by omega);simp only[Int.toNat_natCast]at B;refine⟨_,_,B,⟨fun k E=>?_,List.replicate n z,by simp,by intro u b;rw[List.eq_of_mem_replicate b];exact a,by intro u b;rw[List.eq_of_mem_replicate b];exact p.one (fun _=>none) z m (x _),⟨?_, .inr ⟨w.heap.size,n,_,by simp,d,heap_alloc_new w _,by simp,by simpa[maxLen]using l,by rw[size_madeCells,f],?_⟩⟩,fun i hi D=>by simpa using x _⟩,(ExtX.refl w).alloc _⟩
 ·have:w.heap.size=k:=by simpa[ob]using E
  cases G:X k
  ·rfl
  ·have:=F k G;omega
 ·rw[a0Q (sz:=sz) _ (by intro u b;rw[List.eq_of_mem_replicate b];exact a)]
  simp
 ·apply List.ext_getElem?
  intro j;simp only[List.length_replicate];by_cases s:j<n*sz
  ·rw[List.getElem?_take_of_lt s]
   have C:=a3v (sz:=sz) (List.replicate n z) (j/sz) (j%sz) (by simpa using Nat.div_lt_of_lt_mul (by rw[Nat.mul_comm];exact s)) (by intro u b;rw[List.eq_of_mem_replicate b];exact a) (Nat.mod_lt _ c);have H:j/sz*sz+j%sz=j:=by rw[Nat.mul_comm];exact Nat.div_add_mod j sz
   rw[H]at C;rw[C];simp[madeCells,f,s,a0i,a];rw[Array.getElem?_eq_getElem (by rw[a];exact Nat.mod_lt _ c)];rw[getElem!_pos]
  ·rw[List.getElem?_eq_none (by simp[size_madeCells,f];omega),List.getElem?_eq_none]
   rw[a0Q (sz:=sz) _ (by intro u b;rw[List.eq_of_mem_replicate b];exact a)];simp;omega
theorem OL.run_store {t:TypeId} {S:TypeInfo} (U:P.info? t=some S) (F:S.size=sz) (A:Elem R sz) (h:OL R sz X base e w ao cap l) (i:Nat) (hi:i<l.length) (u:Value) (x:α) (K:R (mk (un X ao) w) u x):
  ∃B,(storeVar t (adr ao (i*sz)) u).run P w= .ok () B/\OL R sz X base e B ao cap (l.set i x)/\ExtX (ob ao) w B:=by
 have b:=A.size _ _ _ K;have s:=A.one _ _ _ K;have f:=h.form;obtain⟨hx,G,T,O,D,h3,V⟩:=h;rcases f with⟨rfl,rfl,rfl⟩|⟨g,a,rfl,h6,L,Q,Y,m⟩
 ·simp at hi
 have y:adr (some ⟨g,0,none⟩) (i*sz)=⟨g,i*sz,none⟩:=by simp[adr]
 have p:(i+1)*sz<=l.length*sz:=Nat.mul_le_mul_right _ hi;have C:l.length*sz<=cap*sz:=Nat.mul_le_mul_right _ Q;rw[Nat.succ_mul]at p;have H:=run_storeCells_at P g (i*sz) e (a0i u) 0 a w L (by simp[a0i,b,m];omega) s;have N:ExtX (ob (some ⟨g,0,none⟩)) w (w.setRow g (a.toList.take (i*sz+0)++a0i u++a.toList.drop (i*sz+0+(a0i u).length)).toArray):=
  ⟨rfl,rfl,rfl,by simp,fun k _ Z=>setRow_other w g k _ (fun W=>by subst W;simp[ob]at Z)⟩
 have o:∀v∈G.set i u,v.cells.size=sz:=by
  intro v c;rcases List.mem_or_eq_of_mem_set c with c|rfl
  ·exact O v c
  ·exact b
 refine⟨_,?_,⟨hx,G.set i u,by simp[T],o,?_,⟨?_, .inr ⟨g,cap,_,by simp,h6,setRow_heap w g a _ e _ L,by simpa using Q,Y,?_,?_⟩⟩,?_⟩,N⟩
 ·rw[y]
  simp[storeVar,sizeOf,typeInfo,U,F,b];simpa[a0i]using H
 ·intro v c
  rcases List.mem_or_eq_of_mem_set c with c|rfl
  ·exact D v c
  ·exact s
 ·rw[a0Q _ o];simp[T]
 ·have d:(a0i u).length=sz:=by simp[a0i,b]
  simp only[List.size_toArray,List.length_append,List.length_take,List.length_drop,Array.length_toList,d,m,Nat.add_zero];omega
 ·rcases h3.2 with⟨c,_⟩|⟨g',c',n,c,_,q,_,_,_,J⟩
  ·simp at c
  simp at c;obtain⟨rfl,rfl⟩:=c;rw[L]at q;obtain rfl:a=n:=by simpa using q
  have d:(a0i u).length=sz:=by simp[a0i,b]
  have I:a.toList.length=cap*sz:=by simp[m]
  rw[b0M G i u (by omega) O b,<-J];simp only[List.length_set,Nat.add_zero];have M:(a.toList.take (i*sz)).length=i*sz:=by rw[List.length_take,I];omega
  rw[d,List.take_append,List.take_of_length_le (by rw[List.length_append,M,d];omega),List.length_append,M,d,List.take_take,Nat.min_eq_left (by omega),List.drop_take]
 ·intro j hj E
  have r:Le (mk (un X (some ⟨g,0,none⟩)) w) (mk (un X (some ⟨g,0,none⟩)) _):=a2j N (.inl rfl);by_cases z:i=j
  ·subst z;simpa using A.mono _ _ _ _ r K
  ·have:=A.mono _ _ _ _ r (V j (by simpa using hj) (by simpa using E))
   simpa[List.getElem_set,z]using this
end
end Go.Rep
namespace Go.Rep
open Go.RowKit
section
variable {P:Program} {ops:Array Oper} {Q:Exit->Act->World->Prop} {rest:List Oper} {a:Act} {w:World}
variable {α:Type} {R:Mem->Value->α->Prop} {sz:Nat} {X:Nat->Bool} {base:Nat} {e:TypeId} {ao:Option Addr} {cap:Nat} {l:List α}
variable {d:Option Tmp} {ty:TypeId} {ps:String} {af:Array Edge}
theorem OL.lit (n:Elem R sz) (q:∀k,X k=true->k<w.heap.size) (d:base<=w.heap.size) (b:List Value) (l:List α) (arr:Array Value) (h:arr=(b.flatMap a0i).toArray) (a:b.length=l.length)
  (o:∀i (hi:i<b.length) (f:i<l.length),R (mk X w) b[i] l[i]) (g:l.length<=9223372036854775807):
  OL R sz X base e (w.alloc (.cells arr e)) (some ⟨w.heap.size,0,none⟩) l.length l:=by
 subst h;have c:∀u∈b,u.cells.size=sz:=by
  intro v m;obtain⟨i,hi,rfl⟩:=List.getElem_of_mem m;exact n.size _ _ _ (o i hi (by omega))
 have r:Ext w (w.alloc (.cells (b.flatMap a0i).toArray e)):=(ExtX.refl w).alloc _;refine⟨fun k j=>?_,b,a,c,?_,⟨by rw[a0Q b c,a], .inr ⟨w.heap.size,_,_,rfl,d,heap_alloc_new w _,Nat.le_refl _,by unfold maxLen;exact g,by simp[a0Q b c,a],?_⟩⟩,fun i hi f=>?_⟩
 ·have:w.heap.size=k:=by simpa[ob]using j
  cases s:X k
  ·rfl
  ·have:=q k s;omega
 ·intro v m
  obtain⟨i,hi,rfl⟩:=List.getElem_of_mem m;exact n.one _ _ _ (o i hi (by omega))
 ·rw[List.take_of_length_le]
  simp[a0Q b c,a]
 ·refine n.mono _ _ _ _ (a0T r (fun k _ j=>by simp[noY]at j) fun k j t=>?_) (o i hi f)
  by_cases p:X k=true
  ·exact p
  ·have:w.heap.size=k:=by simpa[un,p,ob]using t
   omega
theorem b9U (X:Nat->Bool) (w:World) (o:Obj):Le (mk X w) (mk (un X (some ⟨w.heap.size,0,none⟩)) (w.alloc o)):=
 a0T ((ExtX.refl (Y:=noY) w).alloc o) (fun k _ a=>by simp[noY]at a) fun k a c=>by
  by_cases b:X k=true
  ·exact b
  ·have:w.heap.size=k:=by simpa[un,b,ob]using c
   omega
theorem b2G (w:World) (arr:Array Value) (e:TypeId) (u:Value) (a:arr=u.cells):At (w.alloc (.cells arr e)) (some ⟨w.heap.size,0,none⟩) [u]:=by
 subst a;refine⟨fun _=>⟨_,_,rfl⟩,fun j c b=>?_⟩;simp only[List.flatMap_cons,List.flatMap_nil,List.append_nil,a0i,Array.getElem?_toList]at b;have d:adr (some ⟨w.heap.size,0,none⟩) j=⟨w.heap.size,j,none⟩:=by simp[adr]
 have f:=heap_alloc_new w (.cells u.cells e);rw[d];unfold World.cell?;rw[f];simpa using b
theorem a3f {t m:Nat} {z:Value} {arr:Array Value} {s x:Operand} (T:SliceT P t e sz m z) (v:z.cells.size=sz) (A:Elem R sz) (B:base<=w.heap.size) (D:∀k,X k=true->k<w.heap.size)
  (F:a.eval s= .slice ao l.length cap) (I:a.eval x= .slice (some ⟨w.heap.size,0,none⟩) 1 1) (h:OL R sz X base e w ao cap l)
  (u:Value) (y:α) (p:arr=u.cells) (H:R (mk (un X ao) w) u y) (f:(l.length+1)*m<=140737488355328) (o:l.length+1<=9223372036854775807)
  (K:∀c b j,OL R sz X base e j c b (l++[y])->ExtX (ob ao) w j->(c=ao\/∃g,c=some ⟨g,0,none⟩/\w.heap.size<=g)->wpList P ops Q rest (a.put d (.slice c (l++[y]).length b)) j):
  wpList P ops Q (⟨d, .call {callee:= .builtin .append,args:=#[s,x],argTypes:=#[t,t]},ty,ps,af,none⟩::rest) a (w.alloc (.cells arr e)):=by
 refine wpList_plain rfl fun N r=>?_;have q:Ext w (w.alloc (.cells arr e)):=(ExtX.refl w).alloc _;have J:w.heap.size+1=(w.alloc (.cells arr e)).heap.size:=by simp
 obtain⟨c,b,j,C,E,L,n⟩:=(h.ext0 A q).run_append (P:=P) T v A (by omega) (fun k G=>by have:=D k G;omega) (some ⟨w.heap.size,0,none⟩) 1 [u] [y] (b2G w arr e u p) rfl
  (fun i hi _=>by
           have:i=0:=by simpa using hi
           subst this;exact A.mono _ _ _ _ (a0l q) H) (by simpa using f) (by simpa using o) ty
 unfold Oper.wp execOp;simp only[resolve,invoke,builtin,Sem.run_bind,Sem.run_pure,Result.andThen_ok,List.map_toArray,List.map_cons,List.map_nil,F,I];rw[show([y]:List α).length=1 from rfl]at C;rw[C];refine r _ _ (K c b j E ((ExtX.of q).trans L) ?_);rcases n with n|⟨g,n,M⟩
 ·exact .inl n
 ·exact .inr ⟨g,n,by omega⟩
theorem a3g {t o:Nat} {z:Value} {s x:Operand} {f:Option Addr} {A:Nat} (T:SliceT P t e sz o z) (v:z.cells.size=sz) (B:Elem R sz) (j:base<=w.heap.size) (C:∀k,X k=true->k<w.heap.size)
  (m:List α) (D:a.eval s= .slice ao l.length cap) (H:a.eval x= .slice f m.length A) (h:OL R sz X base e w ao cap l)
  (q:Sl R sz (mk (un X ao) w) f m) (i:(l.length+m.length)*o<=140737488355328) (p:l.length+m.length<=9223372036854775807)
  (K:∀c b n,OL R sz X base e n c b (l++m)->ExtX (ob ao) w n->(c=ao\/∃g,c=some ⟨g,0,none⟩/\w.heap.size<=g)->wpList P ops Q rest (a.put d (.slice c (l++m).length b)) n):
  wpList P ops Q (⟨d, .call {callee:= .builtin .append,args:=#[s,x],argTypes:=#[t,t]},ty,ps,af,none⟩::rest) a w:=by
 refine wpList_plain rfl fun J u=>?_;obtain⟨E,I,r,y⟩:=q.at_ B;obtain⟨c,b,n,F,r,y,G⟩:=h.run_append (P:=P) T v B j C f A E m r I y i p ty;unfold Oper.wp execOp;simp only[resolve,invoke,builtin,Sem.run_bind,Sem.run_pure,Result.andThen_ok,List.map_toArray,List.map_cons,List.map_nil,D,H,F];exact u _ _ (K c b n r y G)
theorem a2y {t g:Nat} {z:Value} {x y:Operand} {o p:IntKind} {m:Int} (T:SliceT P t e sz g z) (u:Elem R sz) (l:α) (D:∀h,R h z l) (X:Nat->Bool) (q:∀k,X k=true->k<w.heap.size) (base:Nat) (c:base<=w.heap.size)
  (n:Nat) (A:a.eval x= .int o m) (B:a.eval y= .int p m) (v:m=(n:Int)) (b:g*n<=281474976710656) (i:n<=9223372036854775807)
  (K:∀ao f,OL R sz X base e f ao n (List.replicate n l)->Ext w f->wpList P ops Q rest (a.put d (.slice ao n n)) f):
  wpList P ops Q (⟨d, .makeSlice t x y,ty,ps,af,none⟩::rest) a w:=by
 refine wpList_plain rfl fun E j=>?_;subst v;obtain⟨ao,f,s,r,C⟩:=OL.run_make (P:=P) T u l D q c o p n b i;unfold Oper.wp;simp[execOp,A,B,s,Result.andThen];exact j _ _ (K ao f r C)
theorem a2F {t:TypeId} {x y:Operand} {k:Nat} (g:TyI P t sz) (m:Elem R sz) (i:Nat) (q:a.eval x= .pointer (some (adr ao k))) (n:k=i*sz)
  (h:OL R sz X base e w ao cap l) (hi:i<l.length) (u:Value) (v:α) (r:a.eval y=u) (o:R (mk (un X ao) w) u v)
  (K:∀b,OL R sz X base e b ao cap (l.set i v)->ExtX (ob ao) w b->wpList P ops Q rest (a.put d undef) b):
  wpList P ops Q (⟨d, .store t x y,ty,ps,af,none⟩::rest) a w:=by
 refine wpList_plain rfl fun B c=>?_;subst n;obtain⟨A,j,f⟩:=g;obtain⟨b,z,p,s⟩:=h.run_store (P:=P) j f m i hi u v o;unfold Oper.wp;simp[execOp,q,r,Instr.storeAt,Instr.sureAddr,z,Result.andThen];exact c _ _ (K b p s)
def a2z (ao:Option Addr) (i m sz:Nat):Option Addr:=if m=i then ao else ao.map (·.add (i*sz))
theorem Sl.sub {h:Mem} (s:Sl R sz h ao l) (i j m:Nat) (o:i<=j) (g:j<=m) (f:j<=l.length):Sl R sz h (a2z ao i m sz) ((l.take j).drop i):=by
 refine⟨fun d=>?_,fun k e=>?_⟩
 ·simp at d
  obtain⟨b,a,rfl⟩:=s.1 (by omega);have c:¬m=i:=by omega
  simp[a2z,c,Addr.add_lit]
 ·simp at e
  obtain⟨b,a,rfl⟩:=s.1 (by omega);have c:¬m=i:=by omega
  obtain⟨u,t,n,r⟩:=s.2 (i+k) (by omega);refine⟨u,t,fun q p=>?_,by simpa using r⟩;have:=n q p;simp only[a2z,c,if_false,Option.map_some,Addr.add_lit,adr,Option.getD_some]at this |-;rw[<-this,Nat.add_mul]
  congr 2
  omega
theorem a6r {t b:Nat} {z:Value} (T:SliceT P t e sz b z) (a cap:Nat) (g:IntKind) (i:Nat) (j:i<=a) (_:a<=cap) (w:World):
  (Instr.sliceAt t (.slice ao a cap) (some (.int g (i:Int))) none none).run P w= .ok (.slice (a2z ao i cap sz) (a - i) (cap - i)) w:=by
 obtain⟨h,hi,k,c,f⟩:=info_parts T.info;have d:(i:Int)<=a:=by omega
 simp[Instr.sliceAt,Instr.slice,run_underlying T.und,Instr.sliceBounds,run_sliceBound,d,sizeOf,typeInfo,hi,c,a2z]
theorem a8J {t a:Nat} {z:Value} (T:SliceT P t e sz a z) (b cap:Nat) (h k:IntKind) (i j:Nat) (n:i<=j) (m:j<=cap) (w:World):
  (Instr.sliceAt t (.slice ao b cap) (some (.int h (i:Int))) (some (.int k (j:Int))) none).run P w= .ok (.slice (a2z ao i cap sz) (j - i) (cap - i)) w:=by
 obtain⟨l,hi,o,c,g⟩:=info_parts T.info;have f:(i:Int)<=j:=by omega
 have d:(j:Int)<=cap:=by omega
 simp[Instr.sliceAt,Instr.slice,run_underlying T.und,Instr.sliceBounds,run_sliceBound,f,d,sizeOf,typeInfo,hi,c,a2z]
theorem b8i {t c:Nat} {z:Value} {x lo:Operand} {n:IntKind} {m:Int} {M:Mem} (T:SliceT P t e sz c z) (i:Nat) (p:a.eval x= .slice ao l.length cap) (g:a.eval lo= .int n m) (o:m=(i:Int))
  (h:Sl R sz M ao l) (hi:i<=l.length) (k:l.length<=cap)
  (K:∀b,Sl R sz M b (l.drop i)->wpList P ops Q rest (a.put d (.slice b (l.drop i).length (cap - i))) w):
  wpList P ops Q (⟨d, .slice t x (some lo) none none,ty,ps,af,none⟩::rest) a w:=by
 refine wpList_plain rfl fun r f=>?_;subst o;have q:=a6r (P:=P) (ao:=ao) T l.length cap n i hi k w;have j:=h.sub i l.length cap hi k (Nat.le_refl _);rw[List.take_length]at j;have:=K _ j;rw[List.length_drop]at this;unfold Oper.wp;simp[execOp,p,g,q,Result.andThen];exact f _ _ this
theorem a1a {t:TypeId} {x y:Operand} {k:Nat} {b:IntKind} {l:List Nat} {m:Int} (f:TyI P t 1) (i:Nat) (v:Nat) (j:a.eval x= .pointer (some (adr ao k))) (o:k=i)
  (h:OL (a0c b) 1 X base e w ao cap l) (hi:i<l.length) (n:a.eval y= .int b m) (g:m=(v:Int))
  (K:∀c,OL (a0c b) 1 X base e c ao cap (l.set i v)->ExtX (ob ao) w c->wpList P ops Q rest (a.put d undef) c):
  wpList P ops Q (⟨d, .store t x y,ty,ps,af,none⟩::rest) a w:=
 a2F f (a0c.elem b) i j (by omega) h hi (.int b m) v n (by rw[g];rfl) K
theorem a4C {t:TypeId} {x y:Operand} {k:Nat} {b:IntKind} {l:List Int} {m:Int} (f:TyI P t 1) (i:Nat) (v:Int) (j:a.eval x= .pointer (some (adr ao k))) (o:k=i)
  (h:OL (a0p b) 1 X base e w ao cap l) (hi:i<l.length) (n:a.eval y= .int b m) (g:m=v)
  (K:∀c,OL (a0p b) 1 X base e c ao cap (l.set i v)->ExtX (ob ao) w c->wpList P ops Q rest (a.put d undef) c):
  wpList P ops Q (⟨d, .store t x y,ty,ps,af,none⟩::rest) a w:=
 a2F f (a0p.elem b) i j (by omega) h hi (.int b m) v n (by rw[g];rfl) K
theorem OL.set1 {t:TypeId} (n:TyI P t 1) (k:Elem R 1) (d:a3u R) (h:OL R 1 X base e w ao cap l) (i:Nat) (hi:i<l.length) (u:Value) (x:α) (g:R (mk (un X ao) w) u x):
  OL R 1 X base e (w.setCell (adr ao i) u) ao cap (l.set i x)/\ExtX (ob ao) w (w.setCell (adr ao i) u):=by
 obtain⟨y,j,c⟩:=n;obtain⟨v,r,q,_⟩:=h.cell d i hi;obtain⟨m,f,o,s⟩:=h.run_store (P:=P) j c k i hi u x g;have a:=d _ _ _ g;have b:=k.one _ _ _ g u (by simp[a0i,a]);rw[Nat.mul_one]at f;have p:m=w.setCell (adr ao i) u:=by
  simp only[storeVar,sizeOf,typeInfo,Sem.run_bind]at f;cases u<;>simp[Value.oneCell']at b<;>simp[program,Sem.run,j,c,Result.andThen,Value.cells,storeCells,store,Addr.add_zero',r,q]at f<;>exact f.symm
 subst p;exact⟨o,s⟩
end
end Go.Rep
namespace Go.Proofs.YtidbbddagfnfbaaGreat
open Go.RowKit Go.Rep
theorem a0R:SliceT Tryz.prog 41 147 1 4 (.int .u32 0):=⟨Tryz.underlying41,by kernel_rfl⟩
theorem a2h:SliceT Tryz.prog 22 3 1 8 (.int .i64 0):=⟨Tryz.underlying22,by kernel_rfl⟩
theorem b9V:(Tryz.prog.info? 147).map (fun i=>(i.zero,i.size,i.bytes))=some (some (.int .u32 0),1,4):=by kernel_rfl
theorem b9W:(Tryz.prog.info? 3).map (fun i=>(i.zero,i.size,i.bytes))=some (some (.int .i64 0),1,8):=by kernel_rfl
theorem a3P:TyI Tryz.prog 147 1:=let ⟨i,h,_,a,_⟩:=info_parts b9V;⟨i,h,a⟩
theorem a7N:TyI Tryz.prog 3 1:=let ⟨i,h,_,a,_⟩:=info_parts b9W;⟨i,h,a⟩
theorem b8j:(Tryz.prog.info? 41).map (fun i=>(i.zero,i.size,i.bytes))=some (some (.slice none 0 0),1,24):=by kernel_rfl
theorem b9X:TyI Tryz.prog 41 1:=let ⟨i,h,_,a,_⟩:=info_parts b8j;⟨i,h,a⟩
open Go.Lim
theorem a2k (X:Nat->Bool) (ao:Option Addr) (l:List Nat) (cap:Nat) (w:World) (b:Sl (a0c .u32) 1 (mk X w) ao l) (g:l.length<=4398046511104):
  Calls Tryz.prog 279 #[.slice ao l.length cap] w fun e d=>w=d/\e= .returned (.bool (a1B l)):=by
 have h:=b.hd;by_cases c:l.length=0
 ·have a:l= []:=List.eq_nil_of_length_eq_zero c
  subst a;clear b h g c;simp only[List.length_nil];go_enter Tryz.func279,Tryz.ntmps279
  go_wp2_with fail
  go_ret
  exact⟨rfl,rfl⟩
 ·have i:=b.nat (l.length - 1) (by omega)
  have f:=hid (a3t (l:=l) (by omega));have j:((l.length:Int)==0)=false:=a2w (by omega);go_enter Tryz.func279,Tryz.ntmps279
  go_wp2_with (with_reducible refine a0q a0R (by omega) (by assumption) ?_)
  go_ret
  exact⟨rfl,a0j (by rw[f.out];exact a8I _)⟩
def a4u (X:Nat->Bool) (w:World) (n:Nat) (e:Ending) (w':World):Prop:=
 Ext w w'/\∃ao cap l,e= .returned (.slice ao l.length cap)/\l.length<=cap/\a0M l n/\Sl (a0c .u32) 1 (mk X w') ao l
def b2H (X:Nat->Bool) (w:World) (ao:Option Addr) (l:List Nat) (cap:Nat) (e:Ending) (w':World):Prop:=
 w=w'/\∃l',e= .returned (.slice ao l'.length cap)/\l'.length<=l.length/\a0M l' (nv l)/\Sl (a0c .u32) 1 (mk X w) ao l'
def b9Y (X:Nat->Bool) (w:World) (l:List Nat) (e:Ending) (w':World):Prop:=
 w=w'/\∃ao cap l',e= .returned (.slice ao l'.length cap)/\l'.length<=cap/\l'.length<=l.length/\a0M l' (val l)/\Sl (a0c .u32) 1 (mk X w) ao l'
theorem a1P (X:Nat->Bool) (ao:Option Addr) (l:List Nat) (cap:Nat) (w:World) (d:Sl (a0c .u32) 1 (mk X w) ao l) (i:Dig l) (p:l.length<=4398046511104) (h:l.length<=cap):
  Calls Tryz.prog 247 #[.slice ao l.length cap] w (b2H X w ao l cap):=by
 have o:=d.hd;go_enter Tryz.func247,Tryz.ntmps247
 go_wp2_with fail
 go_loop [3] (fun n=>∃k:Nat,n= .int .i64 k/\Cut l k) (fun n=>(intOf n).toNat)
 case atStart=>exact⟨_,rfl,Cut.all l⟩
 case round=>
  obtain⟨k,rfl,c⟩:=hrel;have j:=c.1;by_cases e:0<k
  ·have m:=d.nat (k - 1) (by omega)
   by_cases b:l[k - 1]=0
   ·have f:=c.less e b
    have g:=hid b;rw[b]at m;clear b;go_wp2_with (with_reducible refine a0q a0R (by omega) (by assumption) ?_)
    go_round
    case rel=>exact⟨k - 1,by go_num,f⟩
    case measure=>simp[intOf];omega
   ·have a:=c.canon i (.inr ⟨by omega,b⟩)
    have g:((l[k - 1]:Int)==0)=false:=a2w (by omega);go_wp2_with (with_reducible refine a0q a0R (by omega) (by assumption) ?_)
    go_ret
    exact⟨rfl,l.take k,a3O (by simp;omega),by simp;omega,a,d.take k⟩
  ·have a:=c.canon i (.inl (by omega))
   go_wp2_with fail
   go_ret
   exact⟨rfl,l.take k,a3O (by simp;omega),by simp;omega,a,d.take k⟩
theorem a1s (X:Nat->Bool) (ao:Option Addr) (l:List Nat) (cap:Nat) (w:World) (d:Sl (a0c .u32) 1 (mk X w) ao l) (h:Dig l) (f:l.length<=4398046511104) (a:l.length<=cap):
  Calls Tryz.prog 246 #[.slice ao l.length cap] w (b9Y X w l):=by
 cases b:a1B l
 ·have c:=hid b
  go_enter Tryz.func246,Tryz.ntmps246
  go_wp2_with (go_at_call 279;refine(a2k X _ _ _ _ d f).mono ?_;rintro e i ⟨rfl,rfl⟩)
  go_ret
  have:vl l= []:=by unfold vl;rw[b];rfl
  exact⟨rfl,none,0,[],rfl,by simp,by simp,this▸a4L h,Sl.nil _ _ _ _⟩
 ·have c:=hid b
  go_enter Tryz.func246,Tryz.ntmps246
  go_wp2_with (go_at_call 279;refine(a2k X _ _ _ _ d f).mono ?_;rintro e i ⟨rfl,rfl⟩)
  go_ret
  have:vl l=l:=by unfold vl;rw[b];rfl
  have g:=a4L h;rw[this]at g;exact⟨rfl,ao,cap,l,rfl,a,Nat.le_refl _,g,d⟩
theorem a3Q (X:Nat->Bool) (n:Nat) (w:World) (hn:n<18446744073709551616) (hX:∀k,X k=true->k<w.heap.size):
  Calls Tryz.prog 241 #[.int .u64 n] w (a4u X w n):=by
 have hO:OL (a0c .u32) 1 X w.heap.size 147 (w.alloc (.cells #[.int .u32 ((n:Int)%4294967296), .int .u32 ((n:Int)/4294967296)] 147)) (some ⟨w.heap.size,0,none⟩) 2 [n%4294967296,n/4294967296]:=
  OL.lit (a0c.elem .u32) hX (Nat.le_refl _) [.int .u32 ((n%4294967296:Nat):Int), .int .u32 ((n/4294967296:Nat):Int)] [n%4294967296,n/4294967296] _ (by simp[a0i,Value.cells]) rfl
   (fun i hi _=>by
            match i,hi with
            |0,_=>rfl
            |1,_=>rfl) (by simp)
 go_enter Tryz.func241,Tryz.ntmps241
 go_wp2_with fail
 refine(a1P X _ [n%4294967296,n/4294967296] _ _ (hO.sl (a0c.elem .u32)) (Dig.cons (by rw[a1n];exact Nat.mod_lt _ (by decide)) (Dig.cons (by rw[a1n];omega) Dig.nil)) (by simp) (by simp)).mono ?_;rintro e w' ⟨rfl,l',rfl,hl',hc,hs'⟩;go_wp2_with fail
 go_ret
 have hv:nv [n%4294967296,n/4294967296]=n:=by simp only[nv,a1n];omega
 rw[hv]at hc;exact⟨(ExtX.refl w).alloc _,_,2,_,rfl,by simpa using hl',hc,hs'⟩
theorem a4N (x y c:Nat) (w:World) (f:x<4294967296) (b:y<4294967296) (d:c<=1):
  Calls Tryz.prog 254 #[.int .u32 x, .int .u32 y, .int .u32 c] w fun e a=>w=a/\e= .returned (.tuple #[.int .u32 ((x+y+c)%4294967296:Nat), .int .u32 ((x+y+c)/4294967296:Nat)]):=by
 go_enter Tryz.func254,Tryz.ntmps254
 go_wp2
 go_ret2
 exact⟨rfl,by simp⟩
theorem b8k (X:Nat->Bool) (ao G:Option Addr) (C J:List Nat) (M N:Nat) (w:World) (n:Sl (a0c .u32) 1 (mk X w) ao C) (r:Sl (a0c .u32) 1 (mk X w) G J)
  (l:Dig C) (j:Dig J) (Z:C.length<=1099511627776) (P:J.length<=1099511627776) (E:C.length<=M) (D:J.length<=N) (hX:∀k,X k=true->k<w.heap.size) (na nb:Nat) (S:val C=na) (U:val J=nb):
  Calls Tryz.prog 194 #[.slice ao C.length M, .slice G J.length N] w (a4u X w (na+nb)):=by
 go_enter Tryz.func194,Tryz.ntmps194
 go_wp2_with fail
 refine(a1s X _ _ _ _ n l (by omega) E).mono ?_;rintro e w' ⟨rfl,a8,a1,a,rfl,O,B,d,p⟩;go_wp2_with fail
 refine(a1s X _ _ _ _ r j (by omega) D).mono ?_;rintro e w' ⟨rfl,b0,b1,b,rfl,T,R,f,q⟩;rw[S]at d;rw[U]at f;have z:a.length<=1099511627776:=Nat.le_trans B Z;have x:b.length<=1099511627776:=Nat.le_trans R P;clear S U B R n r Z P E D
 go_upto_if 18 with(fail)
 go_cut [0,1] (fun s0 s1 wx=>wx=w/\∃ao G a b M N,s0= .slice ao a.length M/\s1= .slice G b.length N/\b.length<=a.length/\a.length<=1099511627776/\Sl (a0c .u32) 1 (mk X w) ao a/\Sl (a0c .u32) 1 (mk X w) G b/\Dig a/\Dig b/\Hid (nv a+nv b=na+nb))
 case first=>
  go_wp2_with fail
  all_goals go_meet
  all_goals case rel=>first|exact⟨rfl,_,_,_,_,_,_,rfl,rfl,by omega,x,q,p,f.1,d.1,hid (by rw[d.2.2,f.2.2,Nat.add_comm])⟩|exact⟨rfl,_,_,_,_,_,_,rfl,rfl,by omega,z,p,q,d.1,f.1,hid (by rw[d.2.2,f.2.2])⟩
 case rest=>
  clear O d p T f q z x l j;clear a b a8 b0 a1 b1 ao G C J M N;obtain⟨rfl,ao,G,a,b,M,N,rfl,rfl,a3,B,n,r,l,j,W⟩:=hcut;have b3:=n.hd;have b4:=r.hd;go_wp2_with (at_make;refine a2y a0R (a0c.elem .u32) 0 (fun _=>rfl) X hX wc.heap.size (Nat.le_refl _) (a.length+1) rfl rfl (by omega) (by omega) (by omega) ?_;intro oo w1 hO Q)
  go_loopw [6,27] (fun c i wr=>∃(k:Nat) (o:List Nat) (L:Nat),i= .int .i64 k/\c= .int .u32 L/\k<=a.length/\a4M a b o k L/\OL (a0c .u32) 1 X wc.heap.size 147 wr oo (a.length+1) o/\Ext wc wr) (fun _ i _=>a.length - (intOf i).toNat)
  case atStart=>exact⟨0,_,0,rfl,rfl,by omega,a4M.start a b,hO,Q⟩
  case round=>
   obtain⟨k,o,L,rfl,rfl,hk,g,h,m⟩:=hrel;clear hO Q;have Y:=g.2.2.1;have s:=hid g.1;have b5:Hd oo (a.length+1):=s.out▸h.hd;by_cases v:k<a.length
   ·have E:=(n.mono (a0c.mono _) (a0l m)).nat k v
    have F:=l.get k v;rw[a1n]at F;by_cases I:k<b.length
    ·have D:=(r.mono (a0c.mono _) (a0l m)).nat k I
     have V:=j.get k I;rw[a1n]at V;have K:=g.step v (.inl ⟨I,rfl⟩) l j;go_wp2_with (first|(with_reducible refine a0q a0R (by omega) (by assumption) ?_)|(go_at_call 254;refine(a4N _ _ _ _ F V Y).mono ?_;rintro e w' ⟨rfl,rfl⟩)|((with_reducible show wpList _ _ _ (⟨_, .store _ _ _,_,_,_,_⟩::_) _ _);refine a2F a3P (a0c.elem .u32) k rfl (Nat.mul_one k).symm h (by rw[s.out];omega) _ ((a[k]+b[k]+L)%4294967296) rfl rfl ?_;intro w2 t u))
     go_roundw
     case rel=>exact⟨k+1,_,_,by go_num,rfl,by omega,K,t,m.own h (Nat.le_refl _) u⟩
     case measure=>simp[intOf];omega
    ·have K:=g.step (y:=0) v (.inr ⟨by omega,rfl⟩) l j
     go_wp2_with (first|(with_reducible refine a0q a0R (by omega) (by assumption) ?_)|(go_at_call 254;refine(a4N _ 0 _ _ F (by omega) Y).mono ?_;rintro e w' ⟨rfl,rfl⟩)|((with_reducible show wpList _ _ _ (⟨_, .store _ _ _,_,_,_,_⟩::_) _ _);refine a2F a3P (a0c.elem .u32) k rfl (Nat.mul_one k).symm h (by rw[s.out];omega) _ ((a[k]+0+L)%4294967296) rfl rfl ?_;intro w2 t u))
     go_roundw
     case rel=>exact⟨k+1,_,_,by go_num,rfl,by omega,K,t,m.own h (Nat.le_refl _) u⟩
     case measure=>simp[intOf];omega
   ·have a2:k=a.length:=by omega
    subst a2;have b2:=g.done a3;go_wp2_with (first|(with_reducible refine a0q a0R (by omega) (by assumption) ?_)|((with_reducible show wpList _ _ _ (⟨_, .store _ _ _,_,_,_,_⟩::_) _ _);refine a2F a3P (a0c.elem .u32) a.length rfl (Nat.mul_one _).symm h (by rw[s.out];omega) _ L rfl rfl ?_;intro w2 t u))
    obtain⟨a7,a5,H⟩:=b2;have A:=hid H;have a6:=t.sl (a0c.elem .u32);have a0:=m.own h (Nat.le_refl _) u;rw[<-H];clear H;refine(a1P X _ _ _ _ a6 a7 (by rw[A.out];omega) (by rw[A.out];omega)).mono ?_;rintro e w' ⟨rfl,l',rfl,a4,hc,a9⟩;go_wp2_with fail
    go_ret
    rw[a5,W.out]at hc;exact⟨a0,_,_,_,rfl,by have h1:=s.out;have h2:=a4;(try simp only[List.length_set]at h2);omega,hc,a9⟩
end Go.Proofs.YtidbbddagfnfbaaGreat
