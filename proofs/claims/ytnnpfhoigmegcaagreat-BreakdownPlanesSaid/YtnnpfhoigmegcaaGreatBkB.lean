/- Parts of a proof: each theorem states what it proves, and its conditions. -/
import Derived.Test.YtnnpfhoigmegcaaGreatBkA
import Derived.WalkKit
import Derived.WalkSpells
import Derived.WalkLawsBesides
import Derived.Deep.DeepCutAuto
import Derived.Laws.CopyOwn
import Derived.Test.YtnnpfhoigmegcaaGreatRows
namespace Go.Lim
theorem b8K:∃n:Nat,n=4294967296:=⟨_,rfl⟩
noncomputable def B:Nat:=Classical.choose b8K
theorem a1b:B=4294967296:=Classical.choose_spec b8K
theorem a1S:0<B:=by rw[a1b];decide
noncomputable def nv:List Nat->Nat
 | []=>0
 |d::l=>d+B*nv l
def Dig(l:List Nat):Prop:=∀d∈l,d<B
def a1l(l:List Nat):Bool:= !(l.getLast?==some 0)
def vl(l:List Nat):List Nat:=if a1l l then l else[]
noncomputable def val(l:List Nat):Nat:=nv (vl l)
def a0F(l:List Nat)(n:Nat):Prop:=Dig l/\a1l l=true/\nv l=n
theorem a3s(a b:List Nat):nv (a++b)=nv a+B^a.length*nv b:=by
 induction a with
 |nil=>simp[nv]
 |cons d a ih=>simp only[List.cons_append,nv,ih,List.length_cons,Nat.pow_succ,Nat.mul_add];rw[Nat.mul_comm (B^a.length) B,Nat.mul_assoc,Nat.add_assoc]
theorem a1B(a:List Nat)(d:Nat):nv (a++[d])=nv a+B^a.length*d:=by rw[a3s];simp[nv]
theorem a9s(n:Nat):nv (List.replicate n 0)=0:=by
 induction n with
 |zero=>rfl
 |succ n ih=>simp[List.replicate_succ,nv,ih]
theorem Dig.nil:Dig []:=by intro d h;simp at h
theorem Dig.cons{d:Nat}{l:List Nat}(hd:d<B)(h:Dig l):Dig (d::l):=by
 intro x hx;rcases List.mem_cons.1 hx with rfl|hx
 ·exact hd
 ·exact h x hx
theorem Dig.append{a b:List Nat}(c:Dig a)(d:Dig b):Dig (a++b):=by
 intro x hx;rcases List.mem_append.1 hx with h|h
 ·exact c x h
 ·exact d x h
theorem Dig.take{a:List Nat}(b:Dig a)(n:Nat):Dig (a.take n):=fun x hx=>b x (List.mem_of_mem_take hx)
theorem Dig.drop{a:List Nat}(b:Dig a)(n:Nat):Dig (a.drop n):=fun x hx=>b x (List.mem_of_mem_drop hx)
theorem Dig.get{a:List Nat}(b:Dig a)(i:Nat)(h:i<a.length):a[i]<B:=b _ (List.getElem_mem h)
theorem Dig.set{a:List Nat}(b:Dig a)(i d:Nat)(hd:d<B):Dig (a.set i d):=by
 intro x hx;rcases List.mem_or_eq_of_mem_set hx with h|rfl
 ·exact b x h
 ·exact hd
theorem Dig.zeros(n:Nat):Dig (List.replicate n 0):=by intro x hx;rw[List.eq_of_mem_replicate hx];exact a1S
theorem a4o{l:List Nat}(h:Dig l):nv l<B^l.length:=by
 induction l with
 |nil=>simp[nv]
 |cons d l ih=>
  have h1:=ih (fun x hx=>h x (List.mem_cons_of_mem _ hx));have h2:=h d (List.mem_cons_self ..);simp only[nv,List.length_cons,Nat.pow_succ];have:B*nv l+B<=B^l.length*B:=by rw[<-Nat.mul_succ,Nat.mul_comm];exact Nat.mul_le_mul_right _ h1
  omega
theorem a4b(l:List Nat)(d:Nat):a1l (l++[d])=(d !=0):=by simp[a1l,bne]
theorem a2V{l:List Nat}(h:0<l.length):a1l l=(l[l.length - 1] !=0):=by
 unfold a1l;rw[List.getLast?_eq_getElem?,List.getElem?_eq_getElem (by omega)];simp[bne]
theorem b3e(l:List Nat):a1l (vl l)=true:=by
 unfold vl;split
 ·assumption
 ·rfl
theorem b6W{l:List Nat}(h:Dig l):Dig (vl l):=by
 unfold vl;split
 ·exact h
 ·exact Dig.nil
theorem b6X(l:List Nat):(vl l).length<=l.length:=by unfold vl;split<;>simp
theorem a4p{l:List Nat}(h:Dig l):a0F (vl l) (val l):=⟨b6W h,b3e l,rfl⟩
theorem a0F.vl{l:List Nat}{n:Nat}(h:a0F l n):vl l=l:=by unfold Lim.vl;rw[h.2.1];rfl
theorem a0F.val{l:List Nat}{n:Nat}(h:a0F l n):val l=n:=by unfold Lim.val;rw[h.vl];exact h.2.2
theorem a0F.nil:a0F [] 0:=⟨Dig.nil,rfl,rfl⟩
theorem a8u{P:List Nat->Prop}(h0:P [])(hs:∀l d,P l->P (l++[d]))(l:List Nat):P l:=by
 have:∀m:List Nat,P m.reverse:=by
  intro m
  induction m with
  |nil=>exact h0
  |cons d m ih=>rw[List.reverse_cons];exact hs _ _ ih
 simpa using this l.reverse
def Cut(l:List Nat)(k:Nat):Prop:=k<=l.length/\nv (l.take k)=nv l
theorem Cut.all(l:List Nat):Cut l l.length:=⟨Nat.le_refl _,by rw[List.take_length]⟩
theorem Cut.less{l:List Nat}{k:Nat}(h:Cut l k)(c:0<k)(a:l[k - 1]'(by have:=h.1;omega)=0):Cut l (k - 1):=by
 refine⟨by have:=h.1;omega,?_⟩;have b:=h.1;have e:l.take k=l.take (k - 1)++[l[k - 1]'(by omega)]:=by
  conv=>lhs;rw[show k=(k - 1)+1 from by omega]
  exact List.take_succ_eq_append_getElem (by omega)
 rw[<-h.2,e,a1B,a];simp
theorem Cut.canon{l:List Nat}{k:Nat}(h:Cut l k)(hd:Dig l)(d:k=0\/∃a:k - 1<l.length,l[k - 1]≠0):a0F (l.take k) (nv l):=by
 refine⟨hd.take k,?_,h.2⟩;have e:=h.1;rcases d with rfl|⟨a,b⟩
 ·rfl
 ·by_cases c:k=0
  ·subst c;rfl
  rw[a2V (by simp;omega)];have:(l.take k).length=k:=by simp;omega
  simp[this,b]
theorem a0F.unique{a b:List Nat}{n:Nat}(ha:a0F a n)(hb:a0F b n):a=b:=by
 induction a generalizing b n with
 |nil=>
  obtain⟨h1,h2,h3⟩:=hb;have hn:n=0:=ha.2.2.symm;subst hn;clear ha
  induction b using a8u with
  |h0=>rfl
  |hs l d ih=>
   rw[a1B]at h3;rw[a4b]at h2;have:0<B^l.length:=Nat.pow_pos a1S;have hd:0<d:=by simp at h2;omega
   have:=Nat.mul_pos this hd;omega
 |cons d a ih=>
  have cv:∀{d:Nat} {l:List Nat},a1l (d::l)=true->a1l l=true:=by
   intro d l h;cases l with
   |nil=>rfl
   |cons x l=>simpa[a1l]using h
  obtain⟨h1,h2,h3⟩:=ha;obtain⟨g1,g2,g3⟩:=hb;cases b with
  |nil=>
   have hn:n=0:=g3.symm;have:a0F (d::a) 0:=⟨h1,h2,by rw[h3,hn]⟩;clear ih
   exfalso
   have key:∀l:List Nat,a0F l 0->l= []:=by
    intro l
    induction l using a8u with
    |h0=>intro _;rfl
    |hs l d _=>
     rintro ⟨_,k2,k3⟩;rw[a1B]at k3;rw[a4b]at k2;have p1:0<B^l.length:=Nat.pow_pos a1S;have hd:0<d:=by simp at k2;omega
     have:=Nat.mul_pos p1 hd;omega
   simpa using key _ this
  |cons c b=>
   have hd:=h1 d (List.mem_cons_self ..);have hc:=g1 c (List.mem_cons_self ..);simp only[nv]at h3 g3;have e:d+B*nv a=c+B*nv b:=by omega
   have hdc:d=c:=by
    have:=congrArg (· %B) e;simpa[Nat.add_mul_mod_self_left,Nat.mod_eq_of_lt hd,Nat.mod_eq_of_lt hc]using this
   subst hdc;have:B*nv a=B*nv b:=by omega
   have hab:nv a=nv b:=Nat.eq_of_mul_eq_mul_left a1S this;rw[ih (n:=nv a) (b:=b) ⟨fun x hx=>h1 x (List.mem_cons_of_mem _ hx),cv h2,rfl⟩ ⟨fun x hx=>g1 x (List.mem_cons_of_mem _ hx),cv g2,hab.symm⟩]
def a4q(a b o:List Nat)(i c:Nat):Prop:=o.length=a.length+1/\Dig o/\c<=1/\nv (o.take i)+B^i*c=nv (a.take i)+nv (b.take i)
theorem a1k(o:List Nat)(i d:Nat)(h:i<o.length):(o.set i d).take (i+1)=o.take i++[d]:=by
 rw[List.take_succ_eq_append_getElem (by simpa using h),List.take_set,List.getElem_set_self]
 congr 1
 rw[List.set_eq_of_length_le (by simp;omega)]
theorem a0A(a:List Nat)(i:Nat)(h:i<a.length):nv (a.take (i+1))=nv (a.take i)+B^i*a[i]:=by
 rw[List.take_succ_eq_append_getElem h,a1B];congr 3;simp;omega
theorem a6v(a:List Nat)(i:Nat)(h:a.length<=i):nv (a.take (i+1))=nv (a.take i):=by
 rw[List.take_of_length_le (by omega),List.take_of_length_le h]
theorem a4q.start(a b:List Nat):a4q a b (List.replicate (a.length+1) 0) 0 0:=⟨by simp,Dig.zeros _,by omega,by simp[nv]⟩
theorem a4q.step{a b o:List Nat}{i c y:Nat}(h:a4q a b o i c)(hi:i<a.length)(j:(∃h:i<b.length,b[i]=y)\/(b.length<=i/\y=0))(m:Dig a)(n:Dig b):a4q a b (o.set i ((a[i]+y+c)%4294967296)) (i+1) ((a[i]+y+c)/4294967296):=by
 obtain⟨k,l,q,r⟩:=h;have d:=m.get i hi;have g:y<B:=by
  rcases j with⟨h,rfl⟩|⟨_,rfl⟩
  ·exact n.get i h
  ·exact a1S
 rw[a1b]at d g;refine⟨by simpa using k,l.set _ _ (by rw[a1b];exact Nat.mod_lt _ (by decide)),by omega,?_⟩;have f:nv (b.take (i+1))=nv (b.take i)+B^i*y:=by
  rcases j with⟨h,rfl⟩|⟨h,rfl⟩
  ·exact a0A b i h
  ·rw[a6v b i h];simp
 rw[a1k o i _ (by omega),a1B,a0A a i hi,f,List.length_take,Nat.min_eq_left (by omega),Nat.pow_succ,Nat.mul_assoc];have e:(a[i]+y+c)%4294967296+B*((a[i]+y+c)/4294967296)=a[i]+y+c:=by rw[a1b];omega
 have p:B^i*((a[i]+y+c)%4294967296)+B^i*(B*((a[i]+y+c)/4294967296))=B^i*a[i]+B^i*y+B^i*c:=by rw[<-Nat.mul_add,e,Nat.mul_add,Nat.mul_add]
 omega
theorem a4q.done{a b o:List Nat}{c:Nat}(h:a4q a b o a.length c)(d:b.length<=a.length):Dig (o.set a.length c)/\nv (o.set a.length c)=nv a+nv b/\(o.set a.length c).length=a.length+1:=by
 obtain⟨f,g,j,i⟩:=h;refine⟨g.set _ _ (by rw[a1b];omega),?_,by simpa using f⟩;have e:o.set a.length c=(o.set a.length c).take (a.length+1):=by rw[List.take_of_length_le (by simp;omega)]
 rw[e,a1k o _ _ (by omega),a1B,List.length_take,Nat.min_eq_left (by omega),i,List.take_of_length_le (Nat.le_refl _),List.take_of_length_le d]
def lg(n:Nat):Nat:=if n=0 then 0 else Nat.log2 n/32+1
theorem b3f(m:Nat):B^m=2^(32*m):=by rw[Nat.pow_mul,a1b]
theorem a2t{n m:Nat}:lg n<=m↔n<B^m:=by
 unfold lg;by_cases h:n=0
 ·subst h;simp[Nat.pow_pos a1S]
 ·rw[if_neg h,b3f,<-Nat.log2_lt h];omega
theorem a0F.len{l:List Nat}{n:Nat}(h:a0F l n):l.length=lg n:=by
 have h1:lg n<=l.length:=a2t.2 (by rw[<-h.2.2];exact a4o h.1);obtain⟨hd,hv,rfl⟩:=h
 induction l using a8u with
 |h0=>rfl
 |hs l d _=>
  rw[a4b]at hv;have hd:0<d:=by simp at hv;omega
  have:¬lg (nv (l++[d]))<=l.length:=by
   rw[a2t,a1B];have:=Nat.mul_le_mul_left (B^l.length) hd;omega
  simp at h1 |-;omega
theorem a5K:lg 0=0:=rfl
theorem a0Y{a b:Nat}(h:a<=b):lg a<=lg b:=a2t.2 (Nat.lt_of_le_of_lt h (a2t.1 (Nat.le_refl _)))
theorem a9t(a b:Nat):lg (a+b)<=max (lg a) (lg b)+1:=by
 rw[a2t];have c:=(a2t (n:=a) (m:=max (lg a) (lg b))).1 (Nat.le_max_left _ _);have d:=(a2t (n:=b) (m:=max (lg a) (lg b))).1 (Nat.le_max_right _ _);rw[Nat.pow_succ];have:0<B^max (lg a) (lg b):=Nat.pow_pos a1S;have:=a1b;generalize B^max (lg a) (lg b)=p at*;rw[a1b];omega
theorem a0P(a b:Nat):lg (a*b)<=lg a+lg b:=by
 rw[a2t,Nat.pow_add];exact Nat.mul_lt_mul'' (a2t.1 (Nat.le_refl _)) (a2t.1 (Nat.le_refl _))
theorem b4B{a:Nat}(h:0<a):0<lg a:=by unfold lg;rw[if_neg (by omega)];omega
theorem b0Z(l:List Nat)(h:Dig l):lg (val l)<=l.length:=by
 have:=(a4p h).len;have:=b6X l;omega
def a2D(a b:Nat):Int:=if a<b then -1 else if b<a then 1 else 0
theorem a3R{a b:List Nat}{m n:Nat}(d:a0F a m)(e:a0F b n)(h:a.length<b.length):a2D m n= -1:=by
 have:m<n:=by
  rcases Nat.lt_or_ge m n with c|c
  ·exact c
  ·have:=a0Y c;rw[<-d.len,<-e.len]at this;omega
 simp[a2D,this]
theorem a3S{a b:List Nat}{m n:Nat}(d:a0F a m)(e:a0F b n)(h:b.length<a.length):a2D m n=1:=by
 have:n<m:=by
  rcases Nat.lt_or_ge n m with c|c
  ·exact c
  ·have:=a0Y c;rw[<-d.len,<-e.len]at this;omega
 simp[a2D,this,Nat.lt_asymm this]
theorem a1L(a:List Nat)(k:Nat)(b:k<=a.length):nv a=nv (a.take k)+B^k*nv (a.drop k):=by
 have:=a3s (a.take k) (a.drop k);rw[List.take_append_drop,List.length_take,Nat.min_eq_left b]at this;exact this
theorem a5L{a b:List Nat}(f:Dig a){k:Nat}(l:a.length=b.length)(i:0<k)(g:k<=a.length)(hd:a.drop k=b.drop k)(h:a[k - 1]'(by omega)<b[k - 1]'(by omega)):nv a<nv b:=by
 rw[a1L a k g,a1L b k (by omega),hd];have c:=a0A a (k - 1) (by omega);have d:=a0A b (k - 1) (by omega);rw[show k - 1+1=k from by omega]at c d;have e:=a4o (f.take (k - 1));rw[List.length_take,Nat.min_eq_left (by omega)]at e;have j:B^(k - 1)*a[k - 1]'(by omega)+B^(k - 1)<=B^(k - 1)*b[k - 1]'(by omega):=by rw[<-Nat.mul_succ];exact Nat.mul_le_mul_left _ h
 omega
theorem a6w{a b:List Nat}{m n k:Nat}(c:a0F a m)(e:a0F b n)(g:a.length=b.length)(d:0<k)(f:k<=a.length)(hd:a.drop k=b.drop k)(h:a[k - 1]'(by omega)<b[k - 1]'(by omega)):a2D m n= -1:=by
 have:=a5L c.1 g d f hd h;rw[c.2.2,e.2.2]at this;simp[a2D,this]
theorem a6x{a b:List Nat}{m n k:Nat}(e:a0F a m)(c:a0F b n)(f:a.length=b.length)(d:0<k)(g:k<=a.length)(hd:a.drop k=b.drop k)(h:b[k - 1]'(by omega)<a[k - 1]'(by omega)):a2D m n=1:=by
 have:=a5L c.1 f.symm d (by omega) hd.symm h;rw[e.2.2,c.2.2]at this;simp[a2D,this,Nat.lt_asymm this]
theorem a5i{a b:List Nat}{k:Nat}(g:a.length=b.length)(e:0<k)(f:k<=a.length)(hd:a.drop k=b.drop k)(h:a[k - 1]'(by omega)=b[k - 1]'(by omega)):a.drop (k - 1)=b.drop (k - 1):=by
 have c:=List.drop_eq_getElem_cons (l:=a) (i:=k - 1) (by omega);have d:=List.drop_eq_getElem_cons (l:=b) (i:=k - 1) (by omega);rw[c,d,show k - 1+1=k from by omega,hd,h]
theorem a6y{a b:List Nat}{m n k:Nat}(c:a0F a m)(d:a0F b n)(e:k=0)(hd:a.drop k=b.drop k):a2D m n=0:=by
 subst e;have:a=b:=by simpa using hd
 have:m=n:=by rw[<-c.2.2,<-d.2.2,this]
 simp[a2D,this]
theorem a3t(a b:Nat):a2D a b<0↔a<b:=by unfold a2D;split<;>(try split)<;>simp_all
theorem b5o(a b:Nat):a2D a b=0↔a=b:=by unfold a2D;split<;>(try split)<;>simp_all<;>omega
def a2i(l q:List Nat)(d k r:Nat):Prop:=q.length=l.length/\Dig q/\r<d/\nv (l.drop k)=d*nv (q.drop k)+r
theorem a2i.start(l:List Nat)(d:Nat)(hd:0<d):a2i l (List.replicate l.length 0) d l.length 0:=
 ⟨by simp,Dig.zeros _,hd,by simp[nv]⟩
theorem a6V(q:List Nat)(k x:Nat)(a:0<k)(b:k<=q.length):(q.set (k - 1) x).drop (k - 1)=x::q.drop k:=by
 rw[List.drop_eq_getElem_cons (by simp;omega),List.getElem_set_self,show k - 1+1=k from by omega,List.drop_set_of_lt (by omega)]
theorem a2i.step{l q:List Nat}{d k r:Nat}(h:a2i l q d k r)(c:0<k)(o:k<=l.length)(n:Dig l):a2i l (q.set (k - 1) ((r*4294967296+l[k - 1])/d)) d (k - 1) ((r*4294967296+l[k - 1])%d):=by
 obtain⟨f,g,j,m⟩:=h;have a:=n.get (k - 1) (by omega);rw[a1b]at a;have hx:(r*4294967296+l[k - 1])/d<4294967296:=by
  rw[Nat.div_lt_iff_lt_mul (by omega)];have:(r+1)*4294967296<=d*4294967296:=Nat.mul_le_mul_right _ j;rw[Nat.mul_comm 4294967296 d];omega
 refine⟨by simpa using f,g.set _ _ (by rw[a1b];exact hx),Nat.mod_lt _ (by omega),?_⟩;rw[a6V q k _ c (by omega),List.drop_eq_getElem_cons (l:=l) (i:=k - 1) (by omega),show k - 1+1=k from by omega];simp only[nv];rw[m];have e:=Nat.div_add_mod (r*4294967296+l[k - 1]) d;rw[a1b];generalize (r*4294967296+l[k - 1])/d=x at*;generalize (r*4294967296+l[k - 1])%d=y at*;generalize nv (q.drop k)=z at*;have b:4294967296*(d*z+r)=d*(4294967296*z)+r*4294967296:=by rw[Nat.mul_add,<-Nat.mul_assoc,<-Nat.mul_assoc,Nat.mul_comm 4294967296 d,Nat.mul_comm 4294967296 r]
 rw[b,Nat.mul_add];omega
theorem a2i.done{l q:List Nat}{d r:Nat}(h:a2i l q d 0 r):nv q=nv l/d/\r=nv l%d:=by
 obtain⟨c,e,a,b⟩:=h;simp only[List.drop_zero]at b;rw[b,Nat.mul_add_div (by omega),Nat.div_eq_of_lt a,Nat.mul_add_mod,Nat.mod_eq_of_lt a];exact⟨rfl,rfl⟩
theorem b4C(o:List Nat)(k d:Nat)(h:k<o.length):nv (o.set k d)+B^k*o[k]=nv o+B^k*d:=by
 induction o generalizing k with
 |nil=>simp at h
 |cons x o ih=>
  match k with
  |0=>simp[nv];omega
  |k+1=>
   have:=ih k (by simpa using h);simp only[List.set_cons_succ,nv,List.getElem_cons_succ,Nat.pow_succ];have e1:B^k*B*o[k]'(by simpa using h)=B*(B^k*o[k]'(by simpa using h)):=by rw[Nat.mul_comm (B^k) B,Nat.mul_assoc]
   have e2:B^k*B*d=B*(B^k*d):=by rw[Nat.mul_comm (B^k) B,Nat.mul_assoc]
   rw[e1,e2,Nat.add_assoc,<-Nat.mul_add,this,Nat.mul_add,Nat.add_assoc]
def a2g(a b o:List Nat)(i j c:Nat):Prop:=o.length=a.length+b.length/\Dig o/\c<B/\(∀p (h:p<o.length),i+b.length<=p->o[p]=0)/\
 nv o+B^(i+j)*c=nv (a.take i)*nv b+(a.getD i 0)*B^i*nv (b.take j)
theorem a2g.start(a b:List Nat):a2g a b (List.replicate (a.length+b.length) 0) 0 0 0:=
 ⟨by simp,Dig.zeros _,a1S,by simp,by simp[nv,a9s]⟩
theorem a2g.step{a b o:List Nat}{i j c:Nat}(h:a2g a b o i j c)(hi:i<a.length)(n:j<b.length)(z:Dig a)(A:Dig b)(d:i+j<o.length):a2g a b (o.set (i+j) ((c+(a[i]*b[j]+o[i+j]))%4294967296)) i (j+1) ((c+(a[i]*b[j]+o[i+j]))/4294967296)/\c+(a[i]*b[j]+o[i+j])<18446744073709551616/\a[i]*b[j]+o[i+j]<18446744073709551616/\a[i]*b[j]<18446744073709551616:=by
 obtain⟨s,m,t,u,v⟩:=h;have f:=z.get i hi;have g:=A.get j n;have k:=m.get (i+j) d;rw[a1b]at f g k t;have D:a[i]*b[j]<=4294967295*4294967295:=Nat.mul_le_mul (by omega) (by omega);have E:=b4C o (i+j) ((c+(a[i]*b[j]+o[i+j]))%4294967296) d;have w:a.getD i 0=a[i]:=by simp[List.getD,hi]
 refine⟨⟨by simpa using s,m.set _ _ (by rw[a1b];exact Nat.mod_lt _ (by decide)),by rw[a1b];omega,?_,?_⟩,by omega,by omega,by omega⟩
 ·intro p C l
  rw[List.getElem_set,if_neg (by omega)];exact u p (by simpa using C) l
 ·rw[w]at v |-
  rw[a0A b j n,show i+(j+1)=(i+j)+1 from rfl,Nat.pow_succ];have e:=Nat.div_add_mod (c+(a[i]*b[j]+o[i+j])) 4294967296;generalize (c+(a[i]*b[j]+o[i+j]))/4294967296=x at*;generalize (c+(a[i]*b[j]+o[i+j]))%4294967296=y at*;generalize nv (o.set (i+j) y)=F at*;have q:B^(i+j)*B*x=B^(i+j)*(4294967296*x):=by rw[a1b,Nat.mul_assoc]
  have r:a[i]*B^i*(nv (b.take j)+B^j*b[j])=a[i]*B^i*nv (b.take j)+B^(i+j)*(a[i]*b[j]):=by
   rw[Nat.mul_add,Nat.pow_add]
   congr 1
   ac_rfl
  rw[q,r];have e5:B^(i+j)*(4294967296*x)+B^(i+j)*y=B^(i+j)*c+(B^(i+j)*(a[i]*b[j])+B^(i+j)*o[i+j]):=by
   rw[<-Nat.mul_add,e,Nat.mul_add,Nat.mul_add]
  omega
theorem a2g.row{a b o:List Nat}{i c:Nat}(h:a2g a b o i b.length c)(hi:i<a.length):a2g a b (o.set (i+b.length) c) (i+1) 0 0:=by
 obtain⟨f,g,j,d,k⟩:=h;have e:=b4C o (i+b.length) c (by omega);have hz:=d (i+b.length) (by omega) (by omega);rw[hz,Nat.mul_zero,Nat.add_zero]at e;have l:a.getD i 0=a[i]:=by simp[List.getD,hi]
 refine⟨by simpa using f,g.set _ _ j,a1S,?_,?_⟩
 ·intro p m n
  rw[List.getElem_set,if_neg (by omega)];exact d p (by simpa using m) (by omega)
 ·rw[List.take_zero,show nv []=0 from rfl,Nat.mul_zero,Nat.mul_zero,Nat.add_zero,Nat.add_zero,e,k,l,List.take_of_length_le (Nat.le_refl b.length),a0A a i hi,Nat.add_mul,Nat.mul_comm (B^i) a[i]]
theorem a2g.done{a b o:List Nat}{c:Nat}(h:a2g a b o a.length 0 c)(e:c=0):nv o=nv a*nv b:=by
 obtain⟨f,g,i,j,d⟩:=h;subst e;simpa[nv]using d
theorem a2I{n:Nat}(a:0<n)(h:n<4294967296):lg n=1:=by
 have b:lg n<=1:=a2t.2 (by rw[Nat.pow_one,a1b];exact h);have:=b4B a;omega
theorem b1a{l:List Nat}{n:Nat}(h:a0F l n)(h0:0<n)(h1:n<4294967296):l= [n]:=by
 have h2:=h.len;rw[a2I h0 h1]at h2
 match l,h2 with
 | [d],_=>have:=h.2.2;simp[nv]at this;rw[this]
theorem a9u{n:Nat}(b:0<n)(a:n<4294967296):a0F [n] n:=⟨Dig.cons (by rw[a1b];exact a) Dig.nil,by simp[a1l];omega,by simp[nv]⟩
theorem a6W{l:List Nat}{n:Nat}(h:a0F l n):l= []↔n=0:=by
 constructor
 ·rintro rfl;exact h.2.2.symm
 ·intro a;have:=h.len;rw[a]at this;exact List.eq_nil_of_length_eq_zero this
theorem a2g.step'{a b o:List Nat}{i j c x y z:Nat}(h:a2g a b o i j c)(hi:i<a.length)(g:j<b.length)(e:Dig a)(f:Dig b)(d:i+j<o.length)(hx:a[i]=x)(k:b[j]=y)(hz:o[i+j]=z):a2g a b (o.set (i+j) ((c+(x*y+z))%4294967296)) i (j+1) ((c+(x*y+z))/4294967296)/\c+(x*y+z)<18446744073709551616:=by
 subst hx;subst k;subst hz;exact⟨(h.step hi g e f d).1,(h.step hi g e f d).2.1⟩
def a2E(a b o:List Nat)(i c:Nat):Prop:=o.length=i/\Dig o/\c<=1/\nv o+B^i*c=nv (a.take i)+nv (b.take i)
theorem a2E.start(a b:List Nat):a2E a b [] 0 0:=⟨rfl,Dig.nil,by omega,by simp[nv]⟩
theorem a0Z(a:List Nat)(i:Nat):nv (a.take (i+1))=nv (a.take i)+B^i*a.getD i 0:=by
 by_cases h:i<a.length
 ·rw[a0A a i h];simp[List.getD,h]
 ·rw[a6v a i (by omega)];simp[List.getD,h]
theorem Dig.getD{a:List Nat}(b:Dig a)(i:Nat):a.getD i 0<B:=by
 by_cases h:i<a.length
 ·simpa[List.getD,h]using b.get i h
 ·simpa[List.getD,h]using a1S
theorem a2E.step{a b o:List Nat}{i c:Nat}(h:a2E a b o i c)(k:Dig a)(l:Dig b):a2E a b (o++[(a.getD i 0+b.getD i 0+c)%4294967296]) (i+1) ((a.getD i 0+b.getD i 0+c)/4294967296):=by
 obtain⟨g,j,p,q⟩:=h;have hx:=k.getD i;have m:=l.getD i;have d:=a0Z a i;have f:=a0Z b i;unfold a2E;rw[d,f];clear d f;generalize a.getD i 0=x at*;generalize b.getD i 0=y at*;rw[a1b]at hx m;refine⟨by simp[g],j.append (Dig.cons (by rw[a1b];exact Nat.mod_lt _ (by decide)) Dig.nil),by omega,?_⟩;rw[a1B,g,Nat.pow_succ,Nat.mul_assoc];have e:(x+y+c)%4294967296+B*((x+y+c)/4294967296)=x+y+c:=by rw[a1b];omega
 have n:B^i*((x+y+c)%4294967296)+B^i*(B*((x+y+c)/4294967296))=B^i*x+B^i*y+B^i*c:=by rw[<-Nat.mul_add,e,Nat.mul_add,Nat.mul_add]
 omega
theorem a2E.done{a b o:List Nat}{c m:Nat}(h:a2E a b o (m+1) c)(i:Dig a)(k:Dig b)(e:a.length<=m)(f:b.length<=m):nv o=nv a+nv b:=by
 obtain⟨q,r,s,d⟩:=h;rw[List.take_of_length_le (by omega),List.take_of_length_le (by omega)]at d;have j:=Nat.lt_of_lt_of_le (a4o i) (Nat.pow_le_pow_right a1S e);have l:=Nat.lt_of_lt_of_le (a4o k) (Nat.pow_le_pow_right a1S f);rw[Nat.pow_succ]at d;have n:c=0:=by
  rcases Nat.eq_zero_or_pos c with h|h
  ·exact h
  ·exfalso
   have g:B^m*B<=B^m*B*c:=Nat.le_mul_of_pos_right _ h;generalize B^m=p at*;rw[a1b]at g d;omega
 subst n;simpa using d
def ch:Nat->Nat->Nat
 |_,0=>1
 |0,_+1=>0
 |n+1,k+1=>ch n k+ch n (k+1)
theorem a5M(n:Nat):ch n 0=1:=by cases n<;>rfl
theorem b5p:∀(n k:Nat),n<k->ch n k=0
 |_,0,h=>by omega
 |0,_+1,_=>rfl
 |n+1,k+1,h=>by rw[ch,b5p n k (by omega),b5p n (k+1) (by omega)]
theorem b1b:∀(n k:Nat),ch n k<=2^n
 |n,0=>by rw[a5M];exact Nat.one_le_two_pow
 |0,_+1=>by simp[ch]
 |n+1,k+1=>by
  have h1:=b1b n k;have h2:=b1b n (k+1);rw[ch,Nat.pow_succ];omega
theorem b5q{n k:Nat}(h:n<=64):ch n k<B^3:=by
 rw[b3f];have:=b1b n k;have a:(2:Nat)^n<=2^64:=Nat.pow_le_pow_right (by decide) h;have b:(2:Nat)^64<2^(32*3):=Nat.pow_lt_pow_right (by decide) (by decide);omega
theorem b6Y{n k:Nat}(h:n<=64):lg (ch n k)<=3:=a2t.2 (b5q h)
def a3h(r:List Nat)(k i j:Nat):Prop:=r.length=k+1/\∀p (_:p<r.length),r[p]=if j<p then ch (i+1) p else ch i p
theorem a3h.start(k:Nat):a3h ((List.replicate (k+1) 0).set 0 1) k 0 k:=by
 refine⟨by simp,fun p h=>?_⟩;simp at h;rw[if_neg (by omega),List.getElem_set];split
 ·subst_vars;rw[a5M]
 ·cases p with
  |zero=>omega
  |succ p=>simp[ch]
theorem a3h.step{r:List Nat}{k i j:Nat}(h:a3h r k i j)(m:0<j)(n:j<=k){x y:Nat}(hx:r[j]'(by rw[h.1];omega)=x)(l:r[j - 1]'(by rw[h.1];omega)=y):a3h (r.set j (x+y)) k i (j - 1):=by
 obtain⟨f,c⟩:=h;refine⟨by simpa using f,fun p g=>?_⟩;have d:=c j (by omega);have e:=c (j - 1) (by omega);rw[if_neg (by omega),hx]at d;rw[if_neg (by omega),l]at e;rw[List.getElem_set];by_cases a:j=p
 ·subst a
  rw[if_pos rfl,if_pos (by omega),d,e];obtain⟨q,rfl⟩:∃q,j=q+1:=⟨j - 1,by omega⟩;rw[ch];simp[Nat.add_comm]
 ·rw[if_neg a,c p (by simpa using g)]
  by_cases b:j<p
  ·rw[if_pos b,if_pos (by omega)]
  ·rw[if_neg b,if_neg (by omega)]
theorem a3h.next{r:List Nat}{k i:Nat}(h:a3h r k i 0):a3h r k (i+1) k:=by
 refine⟨h.1,fun p a=>?_⟩;rw[h.2 p a,if_neg (by have:=h.1;omega:¬k<p)];split
 ·rfl
 ·obtain rfl:p=0:=by omega
  rw[a5M,a5M]
theorem a3h.done{r:List Nat}{k i:Nat}(h:a3h r k i k)(a:k<r.length):r[k]=ch i k:=by
 rw[h.2 k a,if_neg (by omega)]
theorem a3h.le{r:List Nat}{k i j:Nat}(h:a3h r k i j)(p:Nat)(a:p<r.length)(hi:i<64):lg r[p]<=3:=by
 rw[h.2 p a];split
 ·exact b6Y (by omega)
 ·exact b6Y (by omega)
theorem a4r{p:Nat->Prop}{i:Nat}(h:∀j,j<i->p j)(hi:p i):∀j,j<i+1->p j:=fun j b=>by
 by_cases a:j<i
 ·exact h j a
 ·obtain rfl:j=i:=by omega
  exact hi
def b8W(a b:List Int):Bool:=a.any fun x=>b.any fun y=>x==y
abbrev b8f:=List Int×List Int
def a1K(n h:Nat)(L:List b8f):Nat:=(L.map fun x=>ch (n - x.1.length - x.2.length) (h - x.1.length)).sum
def a0z:Nat->Nat->Int->List (List Int)
 |_,0,_=>[[]]
 |0,_+1,_=>[]
 |m+1,h+1,lo=>(a0z m h (lo+1)).map (lo:: ·)++a0z m (h+1) (lo+1)
theorem a1I:∀(m h:Nat) (lo:Int),(a0z m h lo).length=ch m h
 |m,0,lo=>by rw[a5M];cases m<;>rfl
 |0,h+1,lo=>rfl
 |m+1,h+1,lo=>by rw[a0z,ch,List.length_append,List.length_map,a1I m h,a1I m (h+1)]
def up(lo:Int):Nat->List Int
 |0=>[]
 |k+1=>lo::up (lo+1) k
theorem a5N:∀(k:Nat) (lo:Int),(up lo k).length=k
 |0,_=>rfl
 |k+1,lo=>by rw[up,List.length_cons,a5N k]
theorem b1c:∀(k:Nat) (lo:Int) (i:Nat) (hi:i<(up lo k).length),(up lo k)[i]=lo+i
 |0,lo,i,hi=>by simp[up]at hi
 |k+1,lo,0,hi=>by simp[up]
 |k+1,lo,i+1,hi=>by
  simp only[up,List.getElem_cons_succ];rw[b1c k (lo+1) i];omega
theorem a1T(m:Nat)(lo:Int):a0z m 0 lo= [[]]:=by cases m<;>rfl
theorem a2W:∀(m h:Nat) (lo:Int),(a0z m h lo)[0]? =if h<=m then some (up lo h)else none
 |m,0,lo=>by rw[a1T];simp[up]
 |0,h+1,lo=>by simp[a0z]
 |m+1,h+1,lo=>by
  rw[a0z];have h1:=a2W m h (lo+1);by_cases hm:h<=m
  ·rw[if_pos hm]at h1
   obtain⟨hl,h2⟩:=List.getElem?_eq_some_iff.1 h1;rw[List.getElem?_append_left (by simpa using hl),List.getElem?_map,h1,if_pos (by omega)];rfl
  ·rw[if_neg hm]at h1
   have he:a0z m h (lo+1)= []:=by
    rw[List.getElem?_eq_none_iff]at h1;exact List.eq_nil_of_length_eq_zero (by omega)
   rw[he,List.map_nil,List.nil_append,a2W m (h+1),if_neg (by omega),if_neg (by omega)]
theorem a1M:∀(m h:Nat) (lo:Int) (l:List Int),l∈a0z m h lo->l.length=h/\(∀x∈l,lo<=x/\x<lo+m)/\l.Pairwise (· < ·)
 |m,0,lo,l,hl=>by
  rw[a1T,List.mem_singleton]at hl;subst hl;simp
 |0,h+1,lo,l,hl=>by simp[a0z]at hl
 |m+1,h+1,lo,l,hl=>by
  rw[a0z,List.mem_append,List.mem_map]at hl;rcases hl with⟨r,hr,rfl⟩|hl
  ·obtain⟨h1,h2,h3⟩:=a1M m h (lo+1) r hr
   refine⟨by simp[h1],fun x hx=>?_,List.pairwise_cons.2 ⟨fun x hx=>?_,h3⟩⟩
   ·rcases List.mem_cons.1 hx with rfl|hx
    ·omega
    ·have:=h2 x hx;omega
   ·have:=h2 x hx;omega
  ·obtain⟨h1,h2,h3⟩:=a1M m (h+1) (lo+1) l hl
   exact⟨h1,fun x hx=>by have:=h2 x hx;omega,h3⟩
def nxt(n:Int):List Int->Option (List Int)
 | []=>none
 |x::r=>match nxt n r with
  |some r'=>some (x::r')
  |none=>if x+r.length+1<n then some (up (x+1) (r.length+1))else none
theorem a4s:∀(m h:Nat) (lo:Int) (k:Nat) (hk:k<(a0z m h lo).length),nxt (lo+m) (a0z m h lo)[k]=(a0z m h lo)[k+1]?
 |m,0,lo,k,hk=>by
  have:(a0z m 0 lo).length=1:=by rw[a1T];rfl
  have hk0:k=0:=by omega
  subst hk0;simp[a1T,nxt]
 |0,h+1,lo,k,hk=>by simp[a0z]at hk
 |m+1,h+1,lo,k,hk=>by
  have hA:(List.map (fun x=>lo::x) (a0z m h (lo+1))).length=(a0z m h (lo+1)).length:=List.length_map ..;have e1:lo+((m+1:Nat):Int)=lo+1+m:=by omega
  rw[e1];by_cases hlt:k<(a0z m h (lo+1)).length
  ·have h1:=a4s m h (lo+1) k hlt
   have hlen:=(a1M m h (lo+1) _ (List.getElem_mem hlt)).1;simp only[a0z];rw[List.getElem_append_left (by rw[hA];exact hlt),List.getElem_map,nxt,h1];by_cases hlt2:k+1<(a0z m h (lo+1)).length
   ·rw[List.getElem?_append_left (by rw[hA];exact hlt2),List.getElem?_map,List.getElem?_eq_getElem hlt2]
    rfl
   ·rw[List.getElem?_eq_none (by omega)]
    rw[List.getElem?_append_right (by rw[hA];omega),show k+1 - (List.map (fun x=>lo::x) (a0z m h (lo+1))).length=0 by rw[hA];omega,a2W m (h+1)];simp only[hlen];by_cases hm:h+1<=m
    ·rw[if_pos hm,if_pos (by omega)]
    ·rw[if_neg hm,if_neg (by omega)]
  ·have hk':k - (a0z m h (lo+1)).length<(a0z m (h+1) (lo+1)).length:=by
    simp only[a0z,List.length_append,List.length_map]at hk;omega
   have h1:=a4s m (h+1) (lo+1) _ hk';simp only[a0z];rw[List.getElem_append_right (by rw[hA];omega),List.getElem?_append_right (by rw[hA];omega)];simp only[hA];rw[h1,show k+1 - (a0z m h (lo+1)).length=k - (a0z m h (lo+1)).length+1 by omega]
theorem a6X(n:Int):∀(l:List Int),(∀q (hq:q<l.length),l[q]=n - l.length+q)->nxt n l=none
 | [],_=>rfl
 |x::r,h=>by
  have h0:=h 0 (by simp);have hr:=a6X n r (fun q hq=>by
   have:=h (q+1) (by simpa using hq);simp only[List.getElem_cons_succ,List.length_cons]at this;rw[this];omega)
  simp only[List.getElem_cons_zero,List.length_cons]at h0;rw[nxt,hr];simp only;rw[if_neg (by omega)]
theorem a9v(n:Int):∀(l:List Int) (p:Nat) (hp:p<l.length),l[p]<n - l.length+p->(∀q (hq:q<l.length),p<q->l[q]=n - l.length+q)->nxt n l=some (l.take p++up (l[p]+1) (l.length - p))
 | [],p,hp,_,_=>by simp at hp
 |x::r,0,hp,h0,h=>by
  have hr:=a6X n r (fun q hq=>by
   have:=h (q+1) (by simpa using hq) (by omega);simp only[List.getElem_cons_succ,List.length_cons]at this;rw[this];omega)
  simp only[List.getElem_cons_zero,List.length_cons]at h0;rw[nxt,hr];simp only;rw[if_pos (by omega)];simp
 |x::r,p+1,hp,h0,h=>by
  simp only[List.getElem_cons_succ,List.length_cons]at h0;have hr:=a9v n r p (by simpa using hp) (by omega) (fun q hq hpq=>by
   have:=h (q+1) (by simpa using hq) (by omega);simp only[List.getElem_cons_succ,List.length_cons]at this;rw[this];omega)
  rw[nxt,hr];simp
theorem b1d(m h:Nat)(lo:Int):∀l∈a0z m h lo,∀q (hq:q<l.length),l[q]<=lo+m - h+q:=by
 intro l hl q hq;obtain⟨h1,h2,h3⟩:=a1M m h lo l hl;have key:∀d,q+d<l.length->l[q]+d<=l[q+d]! :=by
  intro d
  induction d with
  |zero=>intro hd;simp[getElem!_pos,hq]
  |succ d ih=>
   intro hd;have e:=ih (by omega);have e2:=List.pairwise_iff_getElem.1 h3 (q+d) (q+d+1) (by omega) (by omega) (by omega);rw[getElem!_pos l (q+d) (by omega)]at e;rw[getElem!_pos l (q+(d+1)) (by omega)];have e3:l[q+(d+1)]'(by omega)=l[q+d+1]'(by omega):=rfl;rw[e3];omega
 have e:=key (l.length - 1 - q) (by omega);rw[getElem!_pos l _ (by omega)]at e;have e2:=(h2 _ (List.getElem_mem (show q+(l.length - 1 - q)<l.length by omega))).2;omega
end Go.Lim
namespace Go.Lin
open Go.Lim
noncomputable def a4c(x:Mat)(c:Nat)(s:List Int):Option (List Rat):=match a1j (s.map fun i=>x.getD i.toNat []) c with| [d]=>some d|_=>none
noncomputable def a0R(x:Mat)(c:Nat):List (List Rat):=if c=1 then[[1]]else(a0z x.length (c - 1) 0).filterMap (a4c x c)
def a2u(x:Mat)(c:Nat)(d:List Rat):Nat:=x.countP fun r=>decide (dot c (vec d) (vec r)=0)
def a7L(l:List Nat):Nat:=l.foldl max 0
noncomputable def a3u(x:Mat)(c:Nat):Nat:=if(a1C x c).2.length<c then x.length else a7L ((a0R x c).map (a2u x c))
theorem b5r(l:List Nat):∀a,a<=l.foldl max a/\(∀k∈l,k<=l.foldl max a)/\(l.foldl max a=a\/l.foldl max a∈l):=by
 induction l with
 |nil=>intro a;simp
 |cons b l ih=>
  intro a;obtain⟨h1,h2,h3⟩:=ih (max a b);refine⟨by simp only[List.foldl_cons];omega,fun k hk=>?_,?_⟩
  ·simp only[List.foldl_cons]
   rcases List.mem_cons.1 hk with rfl|hk
   ·omega
   ·exact h2 k hk
  ·simp only[List.foldl_cons]
   rcases h3 with h3|h3
   ·rw[h3]
    rcases Nat.le_total a b with h|h
    ·right;rw[Nat.max_eq_right h];exact List.mem_cons_self
    ·left;exact Nat.max_eq_left h
   ·exact Or.inr (List.mem_cons_of_mem _ h3)
theorem a8v{l:List Nat}{m:Nat}(h:∀k∈l,k<=m):a7L l<=m:=by
 rcases(b5r l 0).2.2 with e|e
 ·unfold a7L;rw[e];exact Nat.zero_le _
 ·exact h _ e
theorem a5O(x:Mat)(c:Nat)(d:List Rat):a2u x c d<=x.length:=List.countP_le_length
theorem a6Y(x:Mat)(c:Nat):a3u x c<=x.length:=by
 unfold a3u;split
 ·exact Nat.le_refl _
 ·exact a8v fun k a=>by obtain⟨d,_,rfl⟩:=List.mem_map.1 a;exact a5O x c d
def a8w(x:Mat)(c:Nat):Prop:=∀y:Vec,(∀v∈a1R x,dot c y v=0)->∀j,j<c->y j=0
theorem b1e{n c:Nat}{x:Mat}(b:Shp n c x)(h:¬(a1C x c).2.length<c):a8w x c:=fun y i j f=>by
 have d:(a1j x c).length=0:=by rw[a5J b];omega
 obtain⟨a,e⟩:=(a3N b).span y (fun v g=>by rw[a1m];exact i v g);rw[e j f,d];rfl
theorem a9w(x:Mat):(a1R x).length=x.length:=by simp[a1R]
theorem a6Z:∀(m h:Nat) (lo:Int) (l:List Int),l.length=h->l.Pairwise (· < ·)->(∀i∈l,lo<=i/\i<lo+m)->l∈a0z m h lo
 |m,0,lo,l,hl,_,_=>by
  obtain rfl:=List.length_eq_zero_iff.1 hl;rw[a1T];simp
 |0,h+1,lo,l,hl,_,hr=>by
  cases l with
  |nil=>simp at hl
  |cons a l=>have:=hr a List.mem_cons_self;omega
 |m+1,h+1,lo,l,hl,hp,hr=>by
  cases l with
  |nil=>simp at hl
  |cons a l=>
   rw[List.pairwise_cons]at hp;simp only[List.length_cons,Nat.add_right_cancel_iff]at hl;unfold a0z;rw[List.mem_append];by_cases ha:a=lo
   ·subst ha
    exact Or.inl (List.mem_map.2 ⟨l,a6Z m h _ l hl hp.2 fun i hi=>by
     have:=hp.1 i hi;have:=hr i (List.mem_cons_of_mem _ hi);omega,rfl⟩)
   ·exact Or.inr (a6Z m (h+1) _ (a::l) (by simp[hl]) (List.pairwise_cons.2 hp) fun i hi=>by
     have h1:=hr i hi;have h2:=hr a List.mem_cons_self;rcases List.mem_cons.1 hi with rfl|hi
     ·omega
     ·have:=hp.1 i hi
      omega)
theorem b4D{n c:Nat}{x:Mat}(P:Shp n c x)(S:0<c){u:Vec}(C:nz c u)(D:∀y:Vec,(∀v∈onL c u (a1R x),dot c y v=0)->∃t:Rat,∀j,j<c->y j=t*u j):∃d∈a0R x c,∃t:Rat,t≠0/\∀j,j<c->vec d j=t*u j:=by
 by_cases G:c=1
 ·subst G
  obtain⟨j,w,f⟩:=C;obtain rfl:j=0:=by omega
  refine⟨[1],by simp[a0R],(u 0)⁻¹,fun h=>f (by have:=Rat.inv_mul_cancel _ f;rw[h]at this;grind),fun j w=>?_⟩;obtain rfl:j=0:=by omega
  rw[Rat.inv_mul_cancel _ f];rfl
 ·obtain⟨r,rfl⟩:∃r,c=r+1:=⟨c - 1,by omega⟩
  obtain⟨I,E,L,o,F⟩:=sel (a1R x) u C r [] (b3d _) (by simp[Ort]) fun y _ h=>D y h;obtain⟨J,K,R,m⟩:=asc (n:=(a1R x).length) L fun i hi=>(o i hi).1;have a:∀i∈J,i<x.length:=fun i hi=>by have:=(o i ((m i).1 hi)).1;rwa[a9w]at this
  have b:Shp (r:Nat) (r+1) (J.map fun i=>x.getD i []):=⟨by simp[K,E],fun l O=>by
   obtain⟨i,hi,rfl⟩:=List.mem_map.1 O;have:=a i hi;rw[List.getD_eq_getElem?_getD,List.getElem?_eq_getElem this];exact P.2 _ (List.getElem_mem _)⟩
  have g:a1R (J.map fun i=>x.getD i [])=a8t (a1R x) J:=by
   unfold a1R a8t;rw[List.map_map];refine List.map_congr_left fun i hi=>?_;have:=a i hi;simp[List.getD_eq_getElem?_getD,this]
  have A:Ort (r+1) (a8t (a1R x) J) u:=fun v D=>by
   obtain⟨i,hi,rfl⟩:=List.mem_map.1 D;exact(o i ((m i).1 hi)).2.1
  have q:Dim (r+1) (a8t (a1R x) J) 1:=b0n C A fun y Q=>F y (by simp[Ort]) fun i hi=>Q _ (List.mem_map.2 ⟨i,(m i).2 hi,rfl⟩);have z:(a1j (J.map fun i=>x.getD i []) (r+1)).length=1:=by
   have:=a9r b;rw[g]at this;exact this.uniq q
  obtain⟨d,hd⟩:=List.length_eq_one_iff.1 z;have p:=a3N b;rw[g,hd]at p;have s:Ort (r+1) (a8t (a1R x) J) (vec d):=p.mem 0 (by simp);obtain⟨t,H⟩:=F (vec d) (by simp[Ort]) fun i hi=>s _ (List.mem_map.2 ⟨i,(m i).2 hi,rfl⟩);have B:t≠0:=fun M=>by
   have:=p.li (fun _=>1) (fun j w=>by
    show cmb 1 _ _ j=0
    unfold cmb
    show(0:Rat)+1*ent [d] 0 j=0
    have e:ent [d] 0 j=vec d j:=rfl;rw[e,H j w,M];grind) 0 (by simp)
   exact absurd this (by decide)
  refine⟨d,?_,t,B,H⟩;unfold a0R;rw[if_neg G];refine List.mem_filterMap.2 ⟨J.map Int.ofNat,a6Z _ _ _ _ (by simp[K,E]) ?_ fun i hi=>?_,?_⟩
  ·rw[List.pairwise_map];exact R.imp fun h=>by simpa using h
  ·obtain⟨k,N,rfl⟩:=List.mem_map.1 hi
   have:=a k N;constructor
   ·exact Int.natCast_nonneg _
   ·show((k:Nat):Int)<0+(x.length:Int);omega
  ·unfold a4c
   rw[List.map_map];have:(List.map ((fun i=>x.getD i.toNat [])∘Int.ofNat) J)=J.map fun i=>x.getD i []:=List.map_congr_left fun i _=>rfl;rw[this,hd]
def app(c:Nat)(f:F2)(x:Nat->Rat)(i:Nat):Rat:=sm c fun j=>f i j*x j
def gr(n:Nat)(f:F2):F2:=fun i j=>sm n fun r=>f r i*f r j
def gy(n:Nat)(f:F2)(y:Nat->Rat):Nat->Rat:=fun i=>sm n fun r=>f r i*y r
def NS(n c:Nat)(f:F2)(y b:Nat->Rat):Prop:=∀i,i<c->sm c (fun j=>gr n f i j*b j)=gy n f y i
theorem Rref.drop{n c:Nat}{f:F2}{p:List Nat}(h:Rref n (c+1) f p)(d:c∉p):Rref n c f p:=
 ⟨h.le,fun i hi=>by
  have a:=h.lt i hi;have b:p[i]≠c:=by rintro rfl;exact d (List.getElem_mem _)
  omega,h.inc,h.left,h.one,h.zero,fun i a b j e=>h.below i a b j (by omega)⟩
def Inv(m:Nat)(G v:F2):Prop:=(∀a,a<m->∀b,b<m->sm m (fun k=>G a k*v k b)=if a=b then 1 else 0)/\∀a,a<m->∀b,b<m->sm m (fun k=>v a k*G k b)=if a=b then 1 else 0
def hat(m:Nat)(u v:F2):F2:=fun i j=>sm m fun a=>u i a*sm m fun b=>v a b*u j b
end Go.Lin
namespace Go.Lim
theorem a1c{l:List Nat}{n:Nat}(h:a0F l n):l.length=0↔n=0:=by
 rw[<-a6W h];exact List.length_eq_zero_iff
def a1d(s:Bool)(m:List Nat):Bool:=a1l m&&(decide (0<m.length)|| !s)
noncomputable def a7a(s:Bool)(m:List Nat):Int:=if a1d s m then(if s then -(nv m:Int)else nv m)else 0
def a5j(s:Bool)(m:List Nat)(z:Int):Prop:=s=decide (z<0)/\a0F m z.natAbs
theorem a5j.of_valid{s:Bool}{m:List Nat}(hd:Dig m)(h:a1d s m=true):a5j s m (a7a s m):=by
 have c:a1l m=true:=by unfold a1d at h;simp at h;exact h.1
 have b:a0F m (nv m):=⟨hd,c,rfl⟩;have a:=a1c b;unfold a7a;rw[if_pos h];cases s
 ·simp only[Bool.false_eq_true,if_false]
  exact⟨by simp,by simpa using b⟩
 ·have d:0<m.length:=by unfold a1d at h;simpa[c]using h
  simp only[if_true];refine⟨?_,by simpa using b⟩;have:nv m≠0:=fun e=>by rw[e]at a;simp at a;simp[a]at d
  symm;rw[decide_eq_true_eq];omega
theorem a5j.valid{s:Bool}{m:List Nat}{z:Int}(h:a5j s m z):a1d s m=true:=by
 obtain⟨b,a⟩:=h;have c:=a1c a;unfold a1d;rw[a.2.1];by_cases hz:z<0
 ·have:0<m.length:=by omega
  simp[this]
 ·simp[b,hz]
theorem a5j.val{s:Bool}{m:List Nat}{z:Int}(h:a5j s m z):a7a s m=z:=by
 unfold a7a;rw[if_pos h.valid];obtain⟨a,b⟩:=h;rw[b.2.2];by_cases hz:z<0
 ·simp only[a,hz,decide_true,if_true];omega
 ·simp only[a,hz,decide_false,Bool.false_eq_true,if_false];omega
theorem a5j.zero:a5j false [] 0:=⟨rfl,a0F.nil⟩
theorem a5j.len{s:Bool}{m:List Nat}{z:Int}(h:a5j s m z):m.length=lg z.natAbs:=h.2.len
theorem a5j.len0{s:Bool}{m:List Nat}{z:Int}(h:a5j s m z):m.length=0↔z=0:=by
 have:=a1c h.2;omega
theorem b5s(s:Bool)(m:List Nat)(h:Dig m):lg (a7a s m).natAbs<=m.length:=by
 cases a:a1d s m
 ·unfold a7a;rw[a];simp[a5K]
 ·exact Nat.le_of_eq (a5j.of_valid h a).len.symm
theorem a5k{s:Bool}{m:List Nat}(h:a1d s m=false):a7a s m=0:=by unfold a7a;rw[h];rfl
def dn(q:Rat):Nat:=if q.den=1 then 0 else q.den
def a5z(s:Bool)(m d:List Nat)(q:Rat):Prop:=a5j s m q.num/\a0F d (dn q)
noncomputable def a1h(s:Bool)(m d:List Nat):Bool:=a1d s m&&a1l d&&(decide (d.length=0)||(decide (0<m.length)&& !(nv d==1)&&(Nat.gcd (nv m) (nv d)==1)))
noncomputable def b1f(s:Bool)(m d:List Nat):Rat:=if a1h s m d then mkRat (a7a s m) (if d.length=0 then 1 else nv d)else 0
theorem a5z.of_valid{s:Bool}{m d:List Nat}(t:Dig m)(hd:Dig d)(h:a1h s m d=true):a5z s m d (b1f s m d):=by
 have g:=h;unfold a1h at g;simp only[Bool.and_eq_true]at g;obtain⟨⟨o,p⟩,j⟩:=g;have hz:=a5j.of_valid t o;have a:a0F d (nv d):=⟨hd,p,rfl⟩;have i:=a1c a;unfold b1f;rw[if_pos h];by_cases c:d.length=0
 ·rw[if_pos c]
  have e:mkRat (a7a s m) 1=((a7a s m:Int):Rat):=by rw[<-Rat.mk_den_one];rw[Rat.mk_eq_mkRat]
  rw[e];refine⟨by simpa using hz,?_⟩;have:nv d=0:=i.1 c;simp only[dn,Rat.den_intCast,if_true];rw[this]at a;exact a
 ·rw[if_neg c]
  have f:nv d≠0:=fun e=>c (i.2 e);simp[c]at j;obtain⟨⟨u,q⟩,r⟩:=j;have b:(a7a s m).natAbs=nv m:=by have:=hz.2.2.2;omega
  have k:(nv d).gcd (a7a s m).natAbs=1:=by rw[b,Nat.gcd_comm];exact r
  have l:(mkRat (a7a s m) (nv d)).num=a7a s m:=by rw[Rat.num_mkRat,if_neg f,k];simp
  have n:(mkRat (a7a s m) (nv d)).den=nv d:=by rw[Rat.den_mkRat,if_neg f,k];simp
  exact⟨by rw[l];exact hz,by unfold dn;rw[n,if_neg q];exact a⟩
theorem a5z.valid{s:Bool}{m d:List Nat}{q:Rat}(h:a5z s m d q):a1h s m d=true:=by
 obtain⟨b,c⟩:=h;have f:=a1c c;have j:=b.len0;have a:=q.reduced;have k:=q.den_nz;unfold a1h;rw[b.valid,c.2.1,c.2.2,b.2.2.2];by_cases hd:q.den=1
 ·have:d.length=0:=by rw[f];unfold dn;rw[if_pos hd]
  simp[this]
 ·have e:dn q=q.den:=by unfold dn;rw[if_neg hd]
  rw[e]at f |-;have l:q.num≠0:=fun e=>by rw[e]at a;simp[Nat.Coprime]at a;exact hd a
  have i:0<m.length:=by omega
  have g:q.num.natAbs.gcd q.den=1:=a;simp[i,hd,g]
theorem a5z.val{s:Bool}{m d:List Nat}{q:Rat}(h:a5z s m d q):b1f s m d=q:=by
 unfold b1f;rw[if_pos h.valid];obtain⟨c,a⟩:=h;have b:=a1c a;rw[c.val,a.2.2];by_cases hd:q.den=1
 ·have:d.length=0:=by rw[b];unfold dn;rw[if_pos hd]
  rw[if_pos this]
  conv=>rhs;rw[<-Rat.mkRat_self q]
  rw[hd]
 ·have e:dn q=q.den:=by unfold dn;rw[if_neg hd]
  have f:d.length≠0:=by rw[e]at b;have:=q.den_nz;omega
  rw[if_neg f,e,Rat.mkRat_self]
theorem a5z.unique{s e:Bool}{m d c b:List Nat}{q:Rat}(h:a5z s m d q)(a:a5z e c b q):s=e/\m=c/\d=b:=
 ⟨h.1.1.trans a.1.1.symm,h.1.2.unique a.1.2,h.2.unique a.2⟩
theorem a5z.zero:a5z false [] [] 0:=⟨a5j.zero,by simp[dn];exact a0F.nil⟩
theorem a5z.ofInt{s:Bool}{m:List Nat}{z:Int}(h:a5j s m z):a5z s m [] (z:Rat):=⟨by simpa using h,by simp[dn];exact a0F.nil⟩
theorem a3v{s:Bool}{m d:List Nat}(h:a1h s m d=false):b1f s m d=0:=by unfold b1f;rw[h];rfl
def hq(q:Rat):Nat:=max (lg q.num.natAbs) (lg q.den)
theorem a0w(q:Rat):lg q.num.natAbs<=hq q:=Nat.le_max_left _ _
theorem a0y(q:Rat):lg q.den<=hq q:=Nat.le_max_right _ _
theorem b5t(q:Rat):lg (dn q)<=hq q:=by
 unfold dn;split
 ·simp[a5K]
 ·exact a0y q
theorem a3i:lg 1=1:=a2I (by omega) (by omega)
theorem a7b{n:Nat}(h:0<n):1<=lg n:=b4B h
theorem a6z(q:Rat):1<=hq q:=Nat.le_trans (a7b q.den_pos) (a0y q)
theorem a9x(z:Int)(d k:Nat)(a:lg z.natAbs<=k)(b:lg d<=k)(c:1<=k):hq (mkRat z d)<=k:=by
 by_cases hd:d=0
 ·subst hd;rw[Rat.mkRat_zero];unfold hq;simp[a5K,a3i];exact c
 ·unfold hq
  rw[Rat.num_mkRat,Rat.den_mkRat,if_neg hd,if_neg hd];refine Nat.max_le.2 ⟨Nat.le_trans (a0Y ?_) a,Nat.le_trans (a0Y (Nat.div_le_self _ _)) b⟩;exact Int.natAbs_ediv_le_natAbs _ _
theorem b1g(x y:Rat):hq (x+y)<=hq x+hq y+1:=by
 rw[Rat.add_def'];refine a9x _ _ _ ?_ (Nat.le_trans (a0P _ _) (by have:=a0y x;have:=a0y y;omega)) (by omega);refine Nat.le_trans (a0Y (Int.natAbs_add_le _ _)) ?_;refine Nat.le_trans (a9t _ _) ?_;rw[Int.natAbs_mul,Int.natAbs_mul,Int.natAbs_natCast,Int.natAbs_natCast];have a:=a0P x.num.natAbs y.den;have b:=a0P y.num.natAbs x.den;have:=a0w x;have:=a0w y;have:=a0y x;have:=a0y y;omega
theorem hq_mul(x y:Rat):hq (x*y)<=hq x+hq y:=by
 rw[Rat.mul_def'];refine a9x _ _ _ ?_ (Nat.le_trans (a0P _ _) (by have:=a0y x;have:=a0y y;omega)) (by have:=a6z x;omega);rw[Int.natAbs_mul];have:=a0P x.num.natAbs y.num.natAbs;have:=a0w x;have:=a0w y;omega
theorem a3j(x:Rat):hq (-x)=hq x:=by unfold hq;simp
theorem a7M(x y:Rat):hq (x - y)<=hq x+hq y+1:=by
 rw[Rat.sub_eq_add_neg,<-a3j y];exact b1g _ _
theorem a1r:hq 0=1:=by unfold hq;simp[a5K,a3i]
theorem b6Z(x:Rat):hq x⁻¹<=hq x:=by
 by_cases h:x=0
 ·subst h;simp
 ·have a:x.num≠0:=fun e=>h (Rat.num_eq_zero.1 e)
  unfold hq;rw[Rat.num_inv,Rat.den_inv,if_neg a,Int.natAbs_mul,Int.natAbs_sign_of_ne_zero a,Nat.one_mul,Int.natAbs_natCast,Nat.max_comm];exact Nat.le_refl _
theorem hq_div(x y:Rat):hq (x/y)<=hq x+hq y:=by
 rw[Rat.div_def];exact Nat.le_trans (hq_mul _ _) (by have:=b6Z y;omega)
theorem a5l(z:Int)(k:Nat)(h:lg z.natAbs<=k)(a:1<=k):hq (z:Rat)<=k:=by
 unfold hq;rw[Rat.num_intCast,Rat.den_intCast,a3i];exact Nat.max_le.2 ⟨h,a⟩
theorem a8x(s:Bool)(m d:List Nat)(k:Nat)(f:Dig m)(hd:Dig d)(i:m.length<=k)(j:d.length<=k)(c:1<=k):hq (b1f s m d)<=k:=by
 cases e:a1h s m d
 ·rw[a3v e,a1r];exact c
 ·have b:=a5z.of_valid f hd e
  have g:=b.1.len;have a:=b.2.len;unfold hq;refine Nat.max_le.2 ⟨by omega,?_⟩;unfold dn at a;split at a
  ·rename_i h;rw[h,a3i];exact c
  ·omega
theorem a5z.lowest{s:Bool}{n d:List Nat}{z:Int}{k:Nat}(f:k≠0)(p:s=decide (z<0))(o:a0F n (z.natAbs/Nat.gcd z.natAbs k))(hd:a0F d (k/Nat.gcd z.natAbs k)):a5z s n (if k/Nat.gcd z.natAbs k=1 then[]else d) (mkRat z k):=by
 have m:0<Nat.gcd z.natAbs k:=Nat.gcd_pos_of_pos_right _ (by omega);have e:(mkRat z k).num=z/(Nat.gcd z.natAbs k:Nat):=by rw[Rat.num_mkRat,if_neg f,Nat.gcd_comm]
 have i:(mkRat z k).den=k/Nat.gcd z.natAbs k:=by rw[Rat.den_mkRat,if_neg f,Nat.gcd_comm]
 have a:((Nat.gcd z.natAbs k:Nat):Int)∣z:=Int.ofNat_dvd_left.2 (Nat.gcd_dvd_left _ _);have j:(mkRat z k).num.natAbs=z.natAbs/Nat.gcd z.natAbs k:=by rw[e,Int.natAbs_ediv_of_dvd a,Int.natAbs_natCast]
 refine⟨⟨?_,by rw[j];exact o⟩,?_⟩
 ·rw[p,Bool.eq_iff_iff]
  simp only[decide_eq_true_eq];rw[e];obtain⟨g,b⟩:∃g,Nat.gcd z.natAbs k=g:=⟨_,rfl⟩;rw[b]at a m |-;obtain⟨c,rfl⟩:=a;rw[Int.mul_ediv_cancel_left _ (by omega)];constructor
  ·intro h
   by_cases l:c<0
   ·exact l
   ·have:=Int.mul_nonneg (Int.natCast_nonneg g) (show 0<=c by omega);omega
  ·intro h
   exact Int.mul_neg_of_pos_of_neg (by omega) h
 ·unfold dn
  rw[i];split
  ·exact a0F.nil
  ·exact hd
end Go.Lim
namespace Go.Lin
open Go.Lim
def HB(B:Nat)(m:Mat):Prop:=∀i j,hq (ent m i j)<=B
theorem HB.pos{B:Nat}{m:Mat}(h:HB B m):1<=B:=Nat.le_trans (a6z _) (h 0 0)
theorem HB.mono{B C:Nat}{m:Mat}(h:HB B m)(a:B<=C):HB C m:=fun i j=>Nat.le_trans (h i j) a
theorem HB.swap{n c B:Nat}{m:Mat}(h:HB B m)(b:Shp n c m){i k:Nat}(hi:i<n)(a:k<n):HB B (a0S m i k):=fun r j=>by
 rw[a2S b hi a];split
 ·exact h _ _
 ·split
  ·exact h _ _
  ·exact h _ _
theorem b5u{x y z u:Rat}{B:Nat}(hx:hq x<=B)(f:hq y<=B)(hz:hq z<=B)(e:hq u<=B):hq (y/z)<=2*B/\hq (y/z*u)<=3*B/\hq (x - y/z*u)<=5*B:=by
 have a:=hq_div y z;have b:=hq_mul (y/z) u;have c:=a7M x (y/z*u);have d:=a6z x;omega
theorem HB.clear{n c B:Nat}{m:Mat}(h:HB B m)(a:Shp n c m){t:Nat}(b:t<n)(col s:Nat):HB (5*B) (clear m t col s):=fun i j=>by
 rw[a4k a b];split
 ·exact(b5u (h _ _) (h _ _) (h _ _) (h _ _)).2.2
 ·have:=h i j;omega
theorem HB.eN{n c B:Nat}{m:Mat}(h:HB B m)(hs:Shp n c m)(k:Nat):HB (5^(eN m k).2.1.length*B) (eN m k).1:=by
 induction k with
 |zero=>simpa[Lin.eN]using h
 |succ k ih=>
  have hk:=a5y hs k
  show HB (5^(a4P (Lin.eN m k) k).2.1.length*B) (a4P (Lin.eN m k) k).1
  generalize Lin.eN m k=s at ih hk |-;obtain⟨M,p,odd⟩:=s;have hM:Shp n c M:=hk.shp;have hl:=hM.1;have hle:p.length<=n:=hk.ech.le;unfold a4P
  dsimp only at ih |-
  split
  ·exact ih
  ·split
   ·exact ih
   ·rename_i e _ q hz
    obtain⟨h1,h2⟩:=a3r hz;have:=(ih.swap hM (show p.length<n by omega) (show p.length+q<n by omega)).clear (hM.swap (by omega) (by omega)) (show p.length<n by omega) k M.length;refine this.mono ?_;rw[List.length_append,List.length_singleton,Nat.pow_succ,Nat.mul_comm _ 5,Nat.mul_assoc];exact Nat.le_refl _
theorem HB.divL{n c B:Nat}{m:Mat}(h:HB B m)(a:Shp n c m){i:Nat}(hi:i<n)(col:Nat):HB (2*B) (divL m i col):=fun k j=>by
 rw[a2T a hi];split
 ·have:=hq_div (ent m i j) (ent m i col);have:=h i j;have:=h i col;omega
 ·have:=h k j;omega
theorem b3g{x y z u:Rat}{B:Nat}(hx:hq x<=B)(f:hq y<=B)(hz:hq z<=2*B)(e:hq u<=2*B):hq (y/z)<=3*B/\hq (y/z*u)<=5*B/\hq (x - y/z*u)<=7*B:=by
 have a:=hq_div y z;have b:=hq_mul (y/z) u;have c:=a7M x (y/z*u);have d:=a6z x;omega
theorem HB.dStep{n c B:Nat}{m:Mat}(h:HB B m)(b:Shp n c m){t:Nat}(a:t<n)(col s:Nat):HB (7*B) (above (Lin.divL m t col) t col s):=fun i j=>by
 have hd:=b.divL a col;have d:=h.divL b a col;rw[a4l hd a];split
 ·refine(b3g ?_ ?_ (d _ _) (d _ _)).2.2
  ·rw[a2T b a,if_neg (by omega)];exact h _ _
  ·rw[a2T b a,if_neg (by omega)];exact h _ _
 ·have:=d i j;omega
theorem HB.dN{n c B:Nat}{m:Mat}{p:List Nat}(h:HB B m)(hs:Shp n c m)(he:Ech n c (ent m) p)(t:Nat)(ht:t<=p.length):HB (7^t*B) (dN m p t):=by
 induction t with
 |zero=>simpa[Lin.dN]using h
 |succ t ih=>
  have hk:=b5f hs he t (by omega);have hle:=he.le;refine((ih (by omega)).dStep hk.shp (show t<n by omega) (p.getD t 0) t).mono ?_;rw[Nat.pow_succ,Nat.mul_comm _ 7,Nat.mul_assoc];exact Nat.le_refl _
theorem HB.pv{n c B:Nat}{m:Mat}(h:HB B m)(a:Shp n c m){i:Nat}(hi:i<n)(col:Nat):HB (3*B) (pv m i col):=fun k j=>by
 rw[b0Q a hi];split
 ·have b:=hq_mul (ent m i j) (1/ent m i col);have d:=hq_div 1 (ent m i col);have:=h i j;have:=h i col;have:=a6z (ent m i j)
  have e:hq 1=1:=by decide+kernel
  omega
 ·have:=h k j;omega
theorem HB.out{n c B:Nat}{m:Mat}(h:HB B m)(d:Shp n c m){t:Nat}(b:t<n)(col s:Nat):HB (6*B) (Lin.out (Lin.pv m t col) t col s):=fun i j=>by
 have hd:=d.pv b col;have f:=h.pv d b col;rw[a9n hd b];split
 ·rename_i a
  have e:∀j,ent (Lin.pv m t col) i j=ent m i j:=fun j=>by rw[b0Q d b,if_neg a.1]
  rw[e,e];have g:=hq_mul (ent (Lin.pv m t col) t j) (- ent m i col);have k:=b1g (ent m i j) (ent (Lin.pv m t col) t j* - ent m i col);rw[a3j]at g;have:=f t j;have:=h i j;have:=h i col;have:=h.pos;omega
 ·have:=f i j;omega
theorem HB.rN{n c B:Nat}{m:Mat}(h:HB B m)(hs:Shp n c m)(k:Nat):HB (6^(rN m k).2.1.length*B) (rN m k).1/\hq (rN m k).2.2<=6^(rN m k).2.1.length*B:=by
 induction k with
 |zero=>exact⟨by simpa[Lin.rN]using h,by simp[Lin.rN];exact h.pos⟩
 |succ k ih=>
  have hk:=a8p hs k
  show HB (6^(a5F (Lin.rN m k) k).2.1.length*B) (a5F (Lin.rN m k) k).1/\hq (a5F (Lin.rN m k) k).2.2<=6^(a5F (Lin.rN m k) k).2.1.length*B
  generalize Lin.rN m k=s at ih hk |-;obtain⟨M,p,fac⟩:=s;have hM:Shp n c M:=hk.shp;have hl:=hM.1;have hle:p.length<=n:=hk.ref.le;unfold a5F
  dsimp only at ih |-
  split
  ·exact ih
  ·rename_i e q hz
   obtain⟨h1,h2⟩:=a3r hz;have hsw:=(ih.1.swap hM (show p.length+q<n by omega) (show p.length<n by omega));have:=hsw.out (hM.swap (by omega) (by omega)) (show p.length<n by omega) k M.length;have he:6*(6^p.length*B)=6^(p++[k]).length*B:=by
    rw[List.length_append,List.length_singleton,Nat.pow_succ,Nat.mul_comm _ 6,Nat.mul_assoc]
   refine⟨this.mono (Nat.le_of_eq he),?_⟩
   dsimp only
   rw[<-he];have h3:=hsw p.length k;have h4:hq (if q=0 then fac else -fac)<=6^p.length*B:=by
    split
    ·exact ih.2
    ·rw[a3j];exact ih.2
   have h5:=hq_mul (if q=0 then fac else -fac) (ent (a0S M (p.length+q) p.length) p.length k);omega
def b2M(m:Mat)(c:Nat):Prop:=∃B,7*B<=68719476736/\(∀j,j<=c->HB B (eN m j).1)/\∀t,t<=(eN m c).2.1.length->HB B (dN (eN m c).1 (eN m c).2.1 t)
theorem a5m(a:Nat){i n:Nat}(b:0<a)(h:i<=n):a^i<=a^n:=Nat.pow_le_pow_right b h
def b5v(m:Mat)(c:Nat):Prop:=∃B,7*B<=68719476736/\∀j,j<=c->HB B (eN m j).1
theorem b2M.e{m:Mat}{c:Nat}(h:b2M m c):b5v m c:=let ⟨B,a,b,_⟩:=h;⟨B,a,b⟩
end Go.Lin
namespace Go.Rep
open Go.RowKit
def lenOf:Value->Nat| .slice _ n _=>n|_=>0
theorem hid{p:Prop}(h:p):Hid p:=h
theorem a3w{a:Option Addr}{n m c:Nat}(h:n=m):Ending.returned (.slice a n c)= .returned (.slice a m c):=by rw[h]
theorem a0I{k:IntKind}{a b:Int}(h:a=b):Ending.returned (.int k a)= .returned (.int k b):=by rw[h]
theorem a0p{a b:Bool}(h:a=b):Ending.returned (.bool a)= .returned (.bool b):=by rw[h]
theorem a7N(n:Nat):((n:Int) !=0)=(n !=0):=by rw[Bool.eq_iff_iff];simp
theorem a6A(n:Nat)(h:n<4294967296):(n:Int)%4294967296=n:=by omega
theorem a2v{a b:Int}(h:a≠b):(a==b)=false:=by simpa using h
theorem b2N{a b:Int}(h:a=b):(a !=b)=false:=by simpa using h
theorem b3h{a b:Int}(h:a=b):(a==b)=true:=by simpa using h
theorem a7B{a b:Int}(h:a≠b):(a !=b)=true:=by simpa using h
abbrev Mem:=Addr->Option Value
def Le(h h':Mem):Prop:=∀a u,h a=some u->h' a=some u
theorem Le.refl(h:Mem):Le h h:=fun _ _ x=>x
theorem Le.trans{a b c:Mem}(h:Le a b)(k:Le b c):Le a c:=fun x u e=>k x u (h x u e)
theorem a4R{w:World}{a:Addr}{u:Value}(h:w.cell? a=some u):a.block<w.heap.size:=by
 unfold World.cell? at h;by_cases b:a.block<w.heap.size
 ·exact b
 ·rw[Array.getElem?_eq_none (by omega)]at h;simp at h
structure ExtX (Y:Nat->Bool) (w w':World):Prop where
 os:w'.os=w.os
 tape:w'.tape=w.tape
 output:w'.output=w.output
 size:w.heap.size<=w'.heap.size
 block:∀k,k<w.heap.size->Y k=false->w'.heap[k]? =w.heap[k]?
def noY:Nat->Bool:=fun _=>false
abbrev Ext(w w':World):Prop:=ExtX noY w w'
theorem ExtX.refl{Y:Nat->Bool}(w:World):ExtX Y w w:=⟨rfl,rfl,rfl,Nat.le_refl _,fun _ _ _=>rfl⟩
theorem ExtX.trans{Y:Nat->Bool}{a b c:World}(h:ExtX Y a b)(k:ExtX Y b c):ExtX Y a c:=
 ⟨k.os.trans h.os,k.tape.trans h.tape,k.output.trans h.output,Nat.le_trans h.size k.size,fun i hi d=>(k.block i (Nat.lt_of_lt_of_le hi h.size) d).trans (h.block i hi d)⟩
theorem ExtX.weaken{Y Z:Nat->Bool}{a b:World}(h:ExtX Y a b)(hz:∀k,k<a.heap.size->Z k=false->Y k=false):ExtX Z a b:=
 ⟨h.os,h.tape,h.output,h.size,fun k c d=>h.block k c (hz k c d)⟩
theorem ExtX.of{Y:Nat->Bool}{a b:World}(h:Ext a b):ExtX Y a b:=h.weaken fun _ _ _=>rfl
theorem ExtX.alloc{Y:Nat->Bool}{a w:World}(h:ExtX Y a w)(o:Obj):ExtX Y a (w.alloc o):=
 h.trans ⟨rfl,rfl,rfl,by simp,fun k b _=>Below.heap_alloc _ _ _ b⟩
theorem ExtX.drew{Y:Nat->Bool}{a w:World}(h:ExtX Y a w):ExtX Y a w.drew:=⟨h.os,h.tape,h.output,h.size,h.block⟩
theorem ExtX.drewN{Y:Nat->Bool}{a w:World}(h:ExtX Y a w)(n:Nat):ExtX Y a (w.drewN n):=⟨h.os,h.tape,h.output,h.size,h.block⟩
theorem ExtX.then_{Y Z:Nat->Bool}{a b c:World}(h:ExtX Y a b)(k:ExtX Z b c)(hz:∀i,i<a.heap.size->Y i=false->Z i=false):ExtX Y a c:=
 ⟨k.os.trans h.os,k.tape.trans h.tape,k.output.trans h.output,Nat.le_trans h.size k.size,fun i hi d=>(k.block i (Nat.lt_of_lt_of_le hi h.size) (hz i hi d)).trans (h.block i hi d)⟩
theorem ExtX.below{w a:World}(h:Ext w a):Below w.heap.size w a:=⟨h.os,h.tape,h.output,h.size,fun k b=>h.block k b rfl⟩
def mk(X:Nat->Bool)(w:World):Mem:=fun a=>if X a.block then none else w.cell? a
theorem a1i{X:Nat->Bool}{w:World}{a:Addr}{u:Value}(h:mk X w a=some u):w.cell? a=some u:=by
 unfold mk at h;split at h
 ·simp at h
 ·exact h
theorem b7a(X:Nat->Bool)(w:World):Le (mk X w) w.cell?:=fun _ _ h=>a1i h
theorem a3k(w:World):mk noY w=w.cell?:=by funext a;simp[mk,noY]
theorem a0r{X Y:Nat->Bool}{w c:World}(h:ExtX Y w c)(d:∀k,Y k=true->X k=true):Le (mk X w) (mk X c):=by
 intro a u e;have b:=a1i e;have g:=a4R b;unfold mk at e |-;by_cases hx:X a.block=true
 ·simp[hx]at e
 ·rw[if_neg hx]
  have i:Y a.block=false:=by
   cases f:Y a.block
   ·rfl
   ·exact absurd (d _ f) hx
  rw[World.cell?_of_block (h.block a.block g i)];exact b
theorem a0l{X:Nat->Bool}{w a:World}(h:Ext w a):Le (mk X w) (mk X a):=a0r h (fun k b=>by simp[noY]at b)
theorem a1N{X Z:Nat->Bool}{w:World}(h:∀k,k<w.heap.size->X k=true->Z k=true):Le (mk Z w) (mk X w):=by
 intro a u e;have c:=a4R (a1i e);have b:=a1i e;unfold mk at e |-;by_cases hx:X a.block=true
 ·simp[h _ c hx]at e
 ·rw[if_neg hx];exact b
theorem a0T{X Y Z:Nat->Bool}{w d:World}(h:ExtX Y w d)(f:∀k,k<w.heap.size->Y k=true->X k=true)(g:∀k,k<w.heap.size->Z k=true->X k=true):Le (mk X w) (mk Z d):=by
 intro a u e;have c:=a1i e;have b:=a4R c;unfold mk at e |-;by_cases hx:X a.block=true
 ·simp[hx]at e
 ·have hz:¬Z a.block=true:=fun hz=>hx (g _ b hz)
  rw[if_neg hz];have j:Y a.block=false:=by
   cases i:Y a.block
   ·rfl
   ·exact absurd (f _ b i) hx
  rw[World.cell?_of_block (h.block a.block b j)];exact c
theorem ExtX.cell{w b:World}(h:Ext w b){a:Addr}{u:Value}(c:w.cell? a=some u):b.cell? a=some u:=by
 have:=a0l (X:=noY) h a u (by rw[a3k];exact c);rwa[a3k]at this
theorem ExtX.cellY{Y:Nat->Bool}{w c:World}(h:ExtX Y w c){a:Addr}{u:Value}(b:w.cell? a=some u)(d:Y a.block=false):c.cell? a=some u:=by
 rw[World.cell?_of_block (h.block a.block (a4R b) d)];exact b
theorem a4t{w:World}{a:Array Value}{e:TypeId}(j:Nat){u:Value}(h:a[j]? =some u):(w.alloc (.cells a e)).cell? ⟨w.heap.size,j,none⟩=some u:=by
 unfold World.cell?;rw[heap_alloc_new w];simpa using h
def ob(ao:Option Addr):Nat->Bool:=fun k=>match ao with|some a=>a.block==k|none=>false
def un(X:Nat->Bool)(ao:Option Addr):Nat->Bool:=fun k=>X k||ob ao k
theorem a0o{X:Nat->Bool}{ao:Option Addr}{k:Nat}(h:X k=true):un X ao k=true:=by simp[un,h]
theorem a0t{X:Nat->Bool}{ao:Option Addr}{k:Nat}(h:ob ao k=true):un X ao k=true:=by simp[un,h]
theorem a1E{X:Nat->Bool}{ao:Option Addr}{k:Nat}(h:un X ao k=false):X k=false/\ob ao k=false:=by simpa[un]using h
def adr(ao:Option Addr)(k:Nat):Addr:=⟨(ao.getD ⟨0,0,none⟩).block,(ao.getD ⟨0,0,none⟩).off+k,none⟩
@[go_sem] theorem a7c (ao:Option Addr) (k j:Nat):(adr ao k).add j=adr ao (k+j):=by
 unfold adr;rw[Addr.add_lit,Nat.add_assoc]
theorem a0U(b o k:Nat):adr (some ⟨b,o,none⟩) k=⟨b,o+k,none⟩:=rfl
def Hd(ao:Option Addr)(n:Nat):Prop:=0<n->∃b off,ao=some ⟨b,off,none⟩
def Sl{α:Type}(R:Mem->Value->α->Prop)(sz:Nat)(h:Mem)(ao:Option Addr)(l:List α):Prop:=
 Hd ao l.length/\∀i (hi:i<l.length),∃u:Value,u.cells.size=sz/\(∀j (hj:j<u.cells.size),h (adr ao (i*sz+j))=some u.cells[j])/\R h u l[i]
def a2X{α:Type}(R:Mem->Value->α->Prop):Prop:=∀(h h':Mem) (u:Value) (x:α),Le h h'->R h u x->R h' u x
def a2Y{α:Type}(R:Mem->Value->α->Prop):Prop:=∀(h:Mem) (u:Value) (x:α),R h u x->u.cells=#[u]
theorem Sl.hd{α:Type}{R:Mem->Value->α->Prop}{sz:Nat}{h:Mem}{ao:Option Addr}{l:List α}(s:Sl R sz h ao l):Hd ao l.length:=s.1
theorem Sl.mono{α:Type}{R:Mem->Value->α->Prop}(f:a2X R){sz:Nat}{h a:Mem}{ao:Option Addr}{l:List α}(b:Le h a)(s:Sl R sz h ao l):Sl R sz a ao l:=by
 refine⟨s.1,fun i hi=>?_⟩;obtain⟨u,c,d,e⟩:=s.2 i hi;exact⟨u,c,fun j g=>b _ _ (d j g),f _ _ _ _ b e⟩
theorem Sl.nil{α:Type}(R:Mem->Value->α->Prop)(sz:Nat)(h:Mem)(ao:Option Addr):Sl R sz h ao []:=
 ⟨fun h=>by simp at h,fun i hi=>by simp at hi⟩
theorem Sl.take{α:Type}{R:Mem->Value->α->Prop}{sz:Nat}{h:Mem}{ao:Option Addr}{l:List α}(s:Sl R sz h ao l)(n:Nat):Sl R sz h ao (l.take n):=by
 refine⟨fun e=>s.1 (by simp at e;omega),fun i hi=>?_⟩;have a:i<l.length:=by simp at hi;omega
 obtain⟨u,b,c,d⟩:=s.2 i a;exact⟨u,b,c,by simpa using d⟩
def SlV{α:Type}(R:Mem->Value->α->Prop)(sz:Nat)(h:Mem)(v:Value)(l:List α):Prop:=
 ∃ao cap,v= .slice ao l.length cap/\l.length<=cap/\Sl R sz h ao l
theorem SlV.mono{α:Type}{R:Mem->Value->α->Prop}(a:a2X R)(sz:Nat):a2X (SlV R sz):=by
 rintro h e u x c ⟨ao,cap,rfl,b,d⟩;exact⟨ao,cap,rfl,b,d.mono a c⟩
theorem SlV.one{α:Type}{R:Mem->Value->α->Prop}{sz:Nat}:a2Y (SlV R sz):=by
 rintro h u x ⟨ao,cap,rfl,_⟩;rfl
theorem SlV.zero{α:Type}(R:Mem->Value->α->Prop)(sz:Nat)(h:Mem):SlV R sz h (.slice none 0 0) []:=
 ⟨none,0,rfl,Nat.le_refl _,Sl.nil _ _ _ _⟩
def a0b(k:IntKind):Mem->Value->Nat->Prop:=fun _ u x=>u= .int k (x:Int)
theorem a0b.mono(k:IntKind):a2X (a0b k):=fun _ _ _ _ _ h=>h
theorem a0b.one(k:IntKind):a2Y (a0b k):=by rintro h u x rfl;rfl
def a0v(k:IntKind):Mem->Value->Int->Prop:=fun _ u x=>u= .int k x
theorem a0v.mono(k:IntKind):a2X (a0v k):=fun _ _ _ _ _ h=>h
theorem a0v.one(k:IntKind):a2Y (a0v k):=by rintro h u x rfl;rfl
theorem Sl.cell{α:Type}{R:Mem->Value->α->Prop}{h:Mem}{ao:Option Addr}{l:List α}(s:Sl R 1 h ao l)(d:a2Y R)(i:Nat)(hi:i<l.length):∃u,h (adr ao i)=some u/\R h u l[i]:=by
 obtain⟨u,_,e,a⟩:=s.2 i hi;have c:=d _ _ _ a;have b:=e 0 (by rw[c];exact Nat.one_pos);refine⟨u,?_,a⟩;rw[Nat.mul_one,Nat.add_zero]at b;rw[b];simp[c]
theorem Sl.nat{k:IntKind}{X:Nat->Bool}{w:World}{ao:Option Addr}{l:List Nat}(s:Sl (a0b k) 1 (mk X w) ao l)(i:Nat)(hi:i<l.length):w.cell? (adr ao i)=some (.int k (l[i]:Int)):=by
 obtain⟨u,a,rfl⟩:=s.cell (a0b.one k) i hi;exact a1i a
theorem Sl.int{k:IntKind}{X:Nat->Bool}{w:World}{ao:Option Addr}{l:List Int}(s:Sl (a0v k) 1 (mk X w) ao l)(i:Nat)(hi:i<l.length):w.cell? (adr ao i)=some (.int k l[i]):=by
 obtain⟨u,a,rfl⟩:=s.cell (a0v.one k) i hi;exact a1i a
theorem Sl.slice{α:Type}{R:Mem->Value->α->Prop}{sz:Nat}{X:Nat->Bool}{w:World}{ao:Option Addr}{l:List (List α)}(s:Sl (SlV R sz) 1 (mk X w) ao l)(i:Nat)(hi:i<l.length):∃a c,w.cell? (adr ao i)=some (.slice a l[i].length c)/\l[i].length<=c/\Sl R sz (mk X w) a l[i]:=by
 obtain⟨u,b,a,c,rfl,d,e⟩:=s.cell SlV.one i hi;exact⟨a,c,a1i b,d,e⟩
structure SliceT (P:Program) (t e sz by_:Nat) (z:Value):Prop where
 und:P.underlying t=some (.slice e)
 info:(P.info? e).map (fun i=>(i.zero,i.size,i.bytes))=some (some z,sz,by_)
def TyI(P:Program)(t sz:Nat):Prop:=∃ti,P.info? t=some ti/\ti.size=sz
section
variable {P:Program} {ops:Array Oper} {Q:Exit->Act->World->Prop} {rest:List Oper} {a:Act} {w:World}
theorem a0j{t e sz c:Nat}{z:Value}(T:SliceT P t e sz c z)(ao:Option Addr)(len cap:Nat)(k:IntKind)(n:Nat)(f:Hd ao len)(h:n<len)(w:World):(Instr.indexAt t (.slice ao len cap) (.int k (n:Int))).run P w= .ok (.pointer (some (adr ao (n*sz)))) w:=by
 obtain⟨i,hi,hz,d,g⟩:=info_parts T.info;obtain⟨b,a,rfl⟩:=f (by omega);subst d;have e:(⟨b,a,none⟩:Addr).add (n*i.size)=⟨b,a+n*i.size,none⟩:=Addr.add_lit _ _ _;simp[Instr.indexAt,asIntOf,Sem.run_bind,run_underlying T.und,Result.andThen,h,sizeOf,typeInfo,hi,adr,e]
theorem a0E{t e a:Nat}{z:Value}(T:SliceT P t e 1 a z)(ao:Option Addr)(len cap:Nat)(k:IntKind)(n:Nat){m:Int}(b:Hd ao len)(d:n<len)(c:m=(n:Int))(w:World):(Instr.indexAt t (.slice ao len cap) (.int k m)).run P w= .ok (.pointer (some (adr ao n))) w:=by
 subst c;rw[a0j (P:=P) T ao len cap k n b d w,Nat.mul_one]
theorem a0m{o:Oper}{K:Act->World->Prop}{t e b:Nat}{z:Value}(T:SliceT P t e 1 b z){ao:Option Addr}{len cap:Nat}{k:IntKind}{m:Int}(c:0<=m/\m<(len:Int))(d:Hd ao len)(h:K (a.put o.dst (.pointer (some (adr ao m.toNat)))) w):o.upon P a K Q ((Sem.run P (Instr.indexAt t (.slice ao len cap) (.int k m)) w).andThen fun v w=> .ok (.value v) w):=by
 obtain⟨n,rfl⟩:=Int.eq_ofNat_of_zero_le c.1;rw[a0j (P:=P) T ao len cap k n d (by omega) w,Nat.mul_one];exact h
theorem a1D{o:Oper}{K:Act->World->Prop}{t e sz b:Nat}{z:Value}(T:SliceT P t e sz b z){ao:Option Addr}{len cap:Nat}{k:IntKind}{m:Int}(c:0<=m/\m<(len:Int))(d:Hd ao len)(h:K (a.put o.dst (.pointer (some (adr ao (m.toNat*sz))))) w):o.upon P a K Q ((Sem.run P (Instr.indexAt t (.slice ao len cap) (.int k m)) w).andThen fun v w=> .ok (.value v) w):=by
 obtain⟨n,rfl⟩:=Int.eq_ofNat_of_zero_le c.1;rw[a0j (P:=P) T ao len cap k n d (by omega) w];exact h
end
end Go.Rep
namespace Go.Rep
open Go.RowKit
def a0g(u:Value):List Value:=u.cells.toList
theorem a0N{sz:Nat}:∀(us:List Value),(∀u∈us,u.cells.size=sz)->(us.flatMap a0g).length=us.length*sz
 | [],_=>by simp
 |u::us,h=>by
  rw[List.flatMap_cons,List.length_append,a0N us (fun x hx=>h x (List.mem_cons_of_mem _ hx)),List.length_cons,Nat.succ_mul];have:(a0g u).length=sz:=by simp[a0g,h u (List.mem_cons_self ..)]
  omega
theorem a2x{sz:Nat}:∀(us:List Value) (i j:Nat) (hi:i<us.length),(∀u∈us,u.cells.size=sz)->j<sz->(us.flatMap a0g)[i*sz+j]? =(a0g us[i])[j]?
 |u::us,i,j,hi,h,hj=>by
  have hu:(a0g u).length=sz:=by simp[a0g,h u (List.mem_cons_self ..)]
  rw[List.flatMap_cons]
  match i with
  |0=>
   simp only[Nat.zero_mul,Nat.zero_add,List.getElem_cons_zero];rw[List.getElem?_append_left (by omega)]
  |i+1=>
   rw[List.getElem?_append_right (by rw[hu,Nat.succ_mul];omega),hu];have e:(i+1)*sz+j - sz=i*sz+j:=by rw[Nat.succ_mul];omega
   rw[e];simpa using a2x us i j (by simpa using hi) (fun x hx=>h x (List.mem_cons_of_mem _ hx)) hj
theorem a9y{sz:Nat}:∀(us:List Value) (i:Nat) (u:Value),i<us.length->(∀u∈us,u.cells.size=sz)->u.cells.size=sz-> (us.set i u).flatMap a0g=(us.flatMap a0g).take (i*sz)++a0g u++(us.flatMap a0g).drop (i*sz+sz)
 |v::us,i,u,hi,h,hu=>by
  have hv:(a0g v).length=sz:=by simp[a0g,h v (List.mem_cons_self ..)]
  match i with
  |0=>
   simp only[List.set_cons_zero,List.flatMap_cons,Nat.zero_mul,List.take_zero,List.nil_append,Nat.zero_add];rw[List.drop_append_of_le_length (by omega),List.drop_of_length_le (by omega),List.nil_append]
  |i+1=>
   have ih:=a9y us i u (by simpa using hi) (fun x hx=>h x (List.mem_cons_of_mem _ hx)) hu;simp only[List.set_cons_succ,List.flatMap_cons];have e1:(i+1)*sz=(a0g v).length+i*sz:=by rw[Nat.succ_mul];omega
   rw[ih,e1,List.take_length_add_append,Nat.add_assoc,List.drop_length_add_append];simp only[List.append_assoc]
structure Elem {α:Type} (R:Mem->Value->α->Prop) (sz:Nat):Prop where
 mono:a2X R
 size:∀(h:Mem) (u:Value) (x:α),R h u x->u.cells.size=sz
 one:∀(h:Mem) (u:Value) (x:α),R h u x->∀c∈a0g u,c.oneCell'=true
 pos:0<sz
theorem a0b.elem(k:IntKind):Elem (a0b k) 1:=⟨a0b.mono k,by rintro h u x rfl;rfl,by rintro h u x rfl c a;simp[a0g,Value.cells]at a;subst a;rfl,Nat.one_pos⟩
theorem a0v.elem(k:IntKind):Elem (a0v k) 1:=⟨a0v.mono k,by rintro h u x rfl;rfl,by rintro h u x rfl c a;simp[a0g,Value.cells]at a;subst a;rfl,Nat.one_pos⟩
theorem SlV.elem{α:Type}{R:Mem->Value->α->Prop}{sz:Nat}(h:Elem R sz):Elem (SlV R sz) 1:=
 ⟨SlV.mono h.mono sz,by rintro h u x ⟨ao,cap,rfl,_⟩;rfl,by rintro h u x ⟨ao,cap,rfl,_⟩ c a;simp[a0g,Value.cells]at a;subst a;rfl,Nat.one_pos⟩
def OL{α:Type}(R:Mem->Value->α->Prop)(sz:Nat)(X:Nat->Bool)(base:Nat)(e:TypeId)(w:World)(ao:Option Addr)(cap:Nat)(l:List α):Prop:=
 (∀k,ob ao k=true->X k=false)/\
 ∃us:List Value,us.length=l.length/\(∀u∈us,u.cells.size=sz)/\(∀u∈us,∀c∈a0g u,c.oneCell'=true)/\w.ownsRow base e sz (.slice ao l.length cap) l.length (us.flatMap a0g)/\
  ∀i (hi:i<us.length) (hi':i<l.length),R (mk (un X ao) w) us[i] l[i]
section
variable {α:Type} {R:Mem->Value->α->Prop} {sz:Nat} {X:Nat->Bool} {base:Nat} {e:TypeId} {w:World} {ao:Option Addr} {cap:Nat} {l:List α}
theorem OL.nil(R:Mem->Value->α->Prop)(sz:Nat)(X:Nat->Bool)(base:Nat)(e:TypeId)(w:World):OL R sz X base e w none 0 []:=
 ⟨fun _ h=>by simp[ob]at h,[],rfl,by simp,by simp,World.ownsRow_nil w base e sz,fun i hi=>by simp at hi⟩
theorem OL.form(h:OL R sz X base e w ao cap l):(ao=none/\cap=0/\l= [])\/∃g a,ao=some ⟨g,0,none⟩/\base<=g/\w.heap[g]? =some (.cells a e (0,0))/\l.length<=cap/\cap<=maxLen/\a.size=cap*sz:=by
 obtain⟨_,us,p,q,_,⟨r,i⟩,s⟩:=h;rcases i with⟨b,o⟩|⟨g,c,a,b,j,k,m,n,d,f⟩
 ·left
  simp at b;exact⟨b.1,b.2.2,List.eq_nil_of_length_eq_zero o⟩
 ·right
  simp at b;obtain⟨rfl,rfl⟩:=b;exact⟨g,a,rfl,j,k,m,n,d⟩
theorem OL.block(h:OL R sz X base e w ao cap l){k:Nat}(b:ob ao k=true):base<=k/\k<w.heap.size:=by
 rcases h.form with⟨rfl,_⟩|⟨g,c,rfl,d,a,_⟩
 ·simp[ob]at b
 ·have:g=k:=by simpa[ob]using b
  subst this;refine⟨d,?_⟩;by_cases f:g<w.heap.size
  ·exact f
  ·rw[Array.getElem?_eq_none (by omega)]at a;simp at a
theorem OL.ob_lt(h:OL R sz X base e w ao cap l){k:Nat}(b:k<base):ob ao k=false:=by
 cases a:ob ao k
 ·rfl
 ·have:=h.block a;omega
theorem OL.lenCap(h:OL R sz X base e w ao cap l):l.length<=cap:=by
 rcases h.form with⟨_,_,rfl⟩|⟨g,a,_,_,_,b,_⟩
 ·simp
 ·exact b
theorem OL.hd(h:OL R sz X base e w ao cap l):Hd ao l.length:=by
 intro b;rcases h.form with⟨_,_,rfl⟩|⟨g,a,rfl,_⟩
 ·simp at b
 ·exact⟨g,0,rfl⟩
theorem OL.cells(h:OL R sz X base e w ao cap l):∃us:List Value,us.length=l.length/\(∀u∈us,u.cells.size=sz)/\(∀u∈us,∀c∈a0g u,c.oneCell'=true)/\ (∀j u,(us.flatMap a0g)[j]? =some u->w.cell? (adr ao j)=some u/\w.frozen? (adr ao j)=false)/\∀i (hi:i<us.length) (A:i<l.length),R (mk (un X ao) w) us[i] l[i]:=by
 have z:=h.form;obtain⟨hx,us,r,t,p,⟨v,x⟩,y⟩:=h;refine⟨us,r,t,p,fun j u k=>?_,y⟩;have f:j<l.length*sz:=by
  rw[<-v];exact(List.getElem?_eq_some_iff.1 k).1
 rcases z with⟨_,_,rfl⟩|⟨g,n,rfl,C,q,D,E,s⟩
 ·simp at f
 rcases x with⟨m,F⟩|⟨B,c,a,m,_,b,_,_,_,o⟩
 ·simp at m
 simp at m;obtain⟨rfl,rfl⟩:=m;rw[q]at b;obtain rfl:n=a:=by simpa using b
 rw[<-o,List.getElem?_take_of_lt f]at k;have d:adr (some ⟨g,0,none⟩) j=⟨g,j,none⟩:=by simp[adr]
 rw[d];simp only[Array.getElem?_toList]at k;simp[World.cell?,World.frozen?,q,k]
theorem OL.sl(n:Elem R sz)(h:OL R sz X base e w ao cap l):Sl R sz (mk X w) ao l:=by
 refine⟨h.hd,fun i hi=>?_⟩;have p:=h.form;have hx:=h.1;obtain⟨us,u,c,_,f,m⟩:=h.cells;have b:i<us.length:=by omega
 refine⟨us[i],c _ (List.getElem_mem _),fun j r=>?_,n.mono _ _ _ _ (a1N fun k _ s=>a0o s) (m i b hi)⟩;have t:us[i].cells.size=sz:=c _ (List.getElem_mem _);have a:=a2x us i j b c (by omega);have o:(a0g us[i])[j]? =some us[i].cells[j]:=by simp[a0g,r]
 rw[o]at a;have q:=(f _ _ a).1;unfold mk;have:X (adr ao (i*sz+j)).block=false:=by
  rcases p with⟨_,_,rfl⟩|⟨g,d,rfl,_⟩
  ·simp at hi
  ·exact hx _ (by simp[ob,adr])
 rw[this];simpa using q
theorem OL.cell(c:a2Y R)(h:OL R 1 X base e w ao cap l)(i:Nat)(hi:i<l.length):∃u,w.cell? (adr ao i)=some u/\w.frozen? (adr ao i)=false/\R (mk (un X ao) w) u l[i]:=by
 obtain⟨us,n,d,_,g,f⟩:=h.cells;have b:i<us.length:=by omega
 have k:us[i].cells.size=1:=d _ (List.getElem_mem _);have a:=a2x us i 0 b d (by omega);have j:(a0g us[i])[0]? =some us[i].cells[0]:=by simp[a0g]
 rw[j]at a;have m:=c _ _ _ (f i b hi);have:=g _ _ a;simp only[Nat.mul_one,Nat.add_zero,m]at this;exact⟨us[i],this.1,this.2,f i b hi⟩
theorem OL.ext(B:Elem R sz){Y Z:Nat->Bool}{s:World}(h:OL R sz X base e w ao cap l)(p:ExtX Y w s)(q:∀k,k<w.heap.size->Y k=true->X k=true)(r:∀k,k<w.heap.size->Z k=true->X k=true):OL R sz Z base e s ao cap l:=by
 have j:=fun k (a:ob ao k=true)=>h.block a;obtain⟨hx,us,t,u,f,o,x⟩:=h;refine⟨fun k a=>?_,us,t,u,f,?_,fun i hi m=>B.mono _ _ _ _ (a0T p (fun k a C=>a0o (q k a C)) (fun k a hz=>?_)) (x i hi m)⟩
 ·cases b:Z k
  ·rfl
  ·have:=r k (j k a).2 b;rw[hx k a]at this;simp at this
 ·refine⟨o.1,?_⟩
  rcases o.2 with v|⟨g,c,d,n,y,z,A⟩
  ·exact .inl v
  ·refine .inr ⟨g,c,d,n,y,?_,A⟩
   simp at n;obtain⟨rfl,rfl⟩:=n;have a:ob (some ⟨g,0,none⟩) g=true:=by simp[ob]
   rw[p.block g (j g a).2,z];cases b:Y g
   ·rfl
   ·have:=q g (j g a).2 b;rw[hx g a]at this;simp at this
 ·cases b:Z k
  ·simp[un,b]at hz;exact a0t hz
  ·exact a0o (r k a b)
theorem OL.ext0(c:Elem R sz){a:World}(h:OL R sz X base e w ao cap l)(b:Ext w a):OL R sz X base e a ao cap l:=
 h.ext c b (fun k _ d=>by simp[noY]at d) (fun _ _ h=>h)
theorem ExtX.own{Y:Nat->Bool}{a b:World}(h:ExtX Y a w)(f:OL R sz X base e w ao cap l)(g:a.heap.size<=base)(c:ExtX (ob ao) w b):ExtX Y a b:=
 h.then_ c fun i hi _=>by
  cases d:ob ao i
  ·rfl
  ·have:=f.block d;omega
theorem OL.unX(h:OL R sz X base e w ao cap l)(a:∀k,X k=true->k<w.heap.size):∀k,un X ao k=true->k<w.heap.size:=by
 intro k b;by_cases hx:X k=true
 ·exact a k hx
 ·have:ob ao k=true:=by simpa[un,hx]using b
  exact(h.block this).2
theorem OL.base_le(h:OL R sz X base e w ao cap l){d:Nat}(q:d<=base):OL R sz X d e w ao cap l:=by
 obtain⟨hx,us,i,j,b,f,m⟩:=h;refine⟨hx,us,i,j,b,⟨f.1,?_⟩,m⟩;rcases f.2 with k|⟨g,c,a,o,p,n⟩
 ·exact .inl k
 ·exact .inr ⟨g,c,a,o,by omega,n⟩
end
section
variable {α:Type} {R:Mem->Value->α->Prop} {sz:Nat} {X:Nat->Bool} {base:Nat} {e:TypeId} {w:World} {ao:Option Addr} {cap:Nat} {l:List α} {P:Program}
def At(w:World)(ao:Option Addr)(us:List Value):Prop:=Hd ao us.length/\∀j u,(us.flatMap a0g)[j]? =some u->w.cell? (adr ao j)=some u
theorem Sl.at_(hR:Elem R sz)(h:Sl R sz (mk X w) ao l):∃us:List Value,us.length=l.length/\At w ao us/\∀i (hi:i<us.length) (hi':i<l.length),R (mk X w) us[i] l[i]:=by
 have hpos:=hR.pos;have key:∀n,n<=l.length->∃us:List Value,us.length=n/\(∀j u,(us.flatMap a0g)[j]? =some u->w.cell? (adr ao j)=some u)/\∀i (hi:i<us.length) (hi':i<l.length),R (mk X w) us[i] l[i]:=by
  intro n
  induction n with
  |zero=>intro _;exact⟨[],rfl,by simp,by simp⟩
  |succ n ih=>
   intro hn;obtain⟨us,h1,h2,h3⟩:=ih (by omega);obtain⟨u,h4,h5,h6⟩:=h.2 n (by omega);have hsz:∀v∈us,v.cells.size=sz:=by
    intro v hv;obtain⟨i,hi,rfl⟩:=List.getElem_of_mem hv;exact hR.size _ _ _ (h3 i hi (by omega))
   refine⟨us++[u],by simp[h1],fun j x hj=>?_,fun i hi hi'=>?_⟩
   ·rw[List.flatMap_append]at hj
    have hfl:=a0N us hsz;by_cases hlt:j<us.length*sz
    ·rw[List.getElem?_append_left (by omega)]at hj;exact h2 j x hj
    ·rw[List.getElem?_append_right (by omega),hfl]at hj
     simp only[List.flatMap_cons,List.flatMap_nil,List.append_nil,a0g]at hj;obtain⟨hj1,hj2⟩:=List.getElem?_eq_some_iff.1 hj;have:=h5 (j - us.length*sz) (by simpa using hj1);have ee:n*sz+(j - us.length*sz)=j:=by rw[h1]at hlt |-;omega
     rw[ee]at this;rw[a1i this];simp[<-hj2]
   ·by_cases hlt:i<us.length
    ·simpa[List.getElem_append_left hlt]using h3 i hlt hi'
    ·have:i=n:=by simp at hi;omega
     subst this;simpa[List.getElem_append_right,h1]using h6
 obtain⟨us,h1,h2,h3⟩:=key l.length (Nat.le_refl _);exact⟨us,h1,⟨by rw[h1];exact h.1,h2⟩,h3⟩
theorem a9z{a:Addr}(h:a.spot=none)(j:Nat):adr (some a) j=a.add j:=by
 cases a;simp at h;subst h;rw[Addr.add_lit];rfl
theorem a2n{c:World}{a:Option Addr}(d:ExtX (ob ao) w c)(e:a=ao\/∃g,a=some ⟨g,0,none⟩/\w.heap.size<=g):Le (mk (un X ao) w) (mk (un X a) c):=by
 refine a0T d (fun k _ b=>a0t b) fun k b hz=>?_;rcases e with rfl|⟨g,rfl,f⟩
 ·exact hz
 ·by_cases hx:X k=true
  ·exact a0o hx
  ·have:g=k:=by simpa[un,hx,ob]using hz
   omega
theorem OL.run_append{t by_:Nat}{z:Value}(T:SliceT P t e sz by_ z)(hzs:z.cells.size=sz)(hR:Elem R sz)(h:OL R sz X base e w ao cap l)(hbase:base<=w.heap.size)(hX:∀k,X k=true->k<w.heap.size)(asl:Option Addr)(cs:Nat)(us':List Value)(xs:List α)(hat:At w asl us')(hlen:us'.length=xs.length)(hxs:∀i (hi:i<us'.length) (hi':i<xs.length),R (mk (un X ao) w) us'[i] xs[i])(hroom:(l.length+xs.length)*by_<=140737488355328)(hmax:l.length+xs.length<=9223372036854775807)(ty:TypeId):∃ao' cap' w',(Builtin.append_ #[t,t] ty #[.slice ao l.length cap, .slice asl xs.length cs]).run P w= .ok (.slice ao' (l++xs).length cap') w'/\OL R sz X base e w' ao' cap' (l++xs)/\ExtX (ob ao) w w'/\ (ao'=ao\/∃g,ao'=some ⟨g,0,none⟩/\w.heap.size<=g):=by
 obtain⟨i,hi,hz,hsz,hby⟩:=info_parts T.info;have hpos:=hR.pos;have hus':∀u∈us',u.cells.size=sz:=by
  intro v hv;obtain⟨i,hi,rfl⟩:=List.getElem_of_mem hv;exact hR.size _ _ _ (hxs i hi (by omega))
 have hone':∀u∈us'.flatMap a0g,u.oneCell'=true:=by
  intro c hc;obtain⟨v,hv,hcv⟩:=List.mem_flatMap.1 hc;obtain⟨i,hi,rfl⟩:=List.getElem_of_mem hv;exact hR.one _ _ _ (hxs i hi (by omega)) c hcv
 by_cases hxe:xs= []
 ·subst hxe
  have hu0:us'= []:=List.eq_nil_of_length_eq_zero (by simpa using hlen);subst hu0;refine⟨ao,cap,w,?_,by simpa using h,ExtX.refl w, .inl rfl⟩;have hlc:=h.lenCap;have hsz':=hsz;subst hsz;cases asl with
  |none=>cases ao<;>simp[Builtin.append_,run_underlying T.und,sizeOf,typeInfo,hi,Builtin.lenOf,Builtin.firstCells,hlc,storeCells]
  |some asl=>cases ao<;>simp[Builtin.append_,run_underlying T.und,sizeOf,typeInfo,hi,Builtin.lenOf,Builtin.firstCells,loadCells,loadCellsFrom,hlc,storeCells]
 have hxpos:0<xs.length:=by
  cases xs with
  |nil=>exact absurd rfl hxe
  |cons x xs=>simp
 obtain⟨sb,so,rfl⟩:=hat.1 (by omega);have hnews:∀j u,(us'.flatMap a0g)[j]? =some u->w.cell? ((⟨sb,so,none⟩:Addr).add j)=some u:=by
  intro j u hj;rw[<-a9z rfl];exact hat.2 j u hj
 have hnl:(us'.flatMap a0g).length=xs.length*i.size:=by rw[a0N us' hus',hlen,hsz]
 have hx:=h.1;have hcells:=h.cells;have hform:=h.form;obtain⟨_,us,h1,h2,h22,h3,h5⟩:=h;have hul:(us.flatMap a0g).length=l.length*i.size:=by rw[a0N us h2,h1,hsz]
 have hfl:(us++us').flatMap a0g=us.flatMap a0g++us'.flatMap a0g:=List.flatMap_append;have hnew:∀u∈us++us',u.cells.size=sz:=by
  intro u hu;rcases List.mem_append.1 hu with hu|hu
  ·exact h2 u hu
  ·exact hus' u hu
 have hnew1:∀u∈us++us',∀c∈a0g u,c.oneCell'=true:=by
  intro u hu c hc;rcases List.mem_append.1 hu with hu|hu
  ·exact h22 u hu c hc
  ·exact hone' c (List.mem_flatMap.2 ⟨u,hu,hc⟩)
 have hRs:∀(ao':Option Addr) (w':World),ExtX (ob ao) w w'->(ao'=ao\/∃g,ao'=some ⟨g,0,none⟩/\w.heap.size<=g)->
   ∀i (hi:i<(us++us').length) (hi':i<(l++xs).length),R (mk (un X ao') w') (us++us')[i] (l++xs)[i]:=by
  intro ao' w' hE ho i hi hi';have hle:=a2n (X:=X) hE ho;by_cases hlt:i<us.length
  ·simpa[List.getElem_append_left hlt,List.getElem_append_left (show i<l.length by omega)]using hR.mono _ _ _ _ hle (h5 i hlt (by omega))
  ·have hb1:i - us.length<us'.length:=by simp at hi;omega
   have:=hR.mono _ _ _ _ hle (hxs (i - us.length) hb1 (by omega));simpa[List.getElem_append_right (show us.length<=i by omega),List.getElem_append_right (show l.length<=i by omega),h1]using this
 have grown:∀old,old<l.length+xs.length->∃g cur,g=w.heap.size/\cur=(us.flatMap a0g).toArray++(us'.flatMap a0g).toArray++Builtin.zeroCells z.cells (grownCap w (l.length+xs.length) old e - (l.length+xs.length))/\
   OL R sz X base e (w.drew.alloc (.cells cur e)) (some ⟨g,0,none⟩) (grownCap w (l.length+xs.length) old e) (l++xs)/\ExtX (ob ao) w (w.drew.alloc (.cells cur e)):=by
  intro old ho;refine⟨_,_,rfl,rfl,?_,?_⟩
  ·have hge:=grownCap_ge w (l.length+xs.length) old e
   have hcm:grownCap w (l.length+xs.length) old e<=maxLen:=grownCap_le_maxLen w (l.length+xs.length) old e (by simpa[maxLen]using hmax);have hE:ExtX (ob ao) w (w.drew.alloc (.cells ((us.flatMap a0g).toArray++(us'.flatMap a0g).toArray++Builtin.zeroCells z.cells (grownCap w (l.length+xs.length) old e - (l.length+xs.length))) e)):=((ExtX.refl w).drew).alloc _;refine⟨fun k hk=>?_,us++us',by simp[h1,hlen],hnew,hnew1,⟨by rw[hfl];simp[hul,hnl,hsz,Nat.add_mul], .inr ⟨w.heap.size,_,_,by simp,hbase,heap_alloc_new w.drew _,by simpa using hge,hcm,?_,?_⟩⟩,hRs _ _ hE (.inr ⟨_,rfl,Nat.le_refl _⟩)⟩
   ·have:w.heap.size=k:=by simpa[ob]using hk
    cases hh:X k
    ·rfl
    ·have:=hX k hh;omega
   ·simp only[Array.size_append,List.size_toArray,size_zeroCells,hzs,hul,hnl,hsz,<-Nat.add_mul]
    congr 1;omega
   ·rw[hfl]
    simp only[Array.toList_append,List.length_append];have hll:(l.length+xs.length)*sz=(us.flatMap a0g++us'.flatMap a0g).length:=by simp[hul,hnl,hsz,Nat.add_mul]
    rw[hll];exact List.take_left
  ·exact((ExtX.refl w).drew).alloc _
 have hll:(l++xs).length=l.length+xs.length:=List.length_append;rcases hform with⟨rfl,rfl,rfl⟩|⟨g,cur,rfl,h6,h7,h8,h9,h10⟩
 ·have hu0:us= []:=List.eq_nil_of_length_eq_zero (by simpa using h1)
  subst hu0;obtain⟨g,cur,rfl,hcur,hOL,hE⟩:=grown 0 (by simp;omega);have hr:=run_append_nil (P:=P) w t ty e i z T.und hi hz ⟨sb,so,none⟩ xs.length cs (us'.flatMap a0g) hnl hnews hxpos (by simp at hmax;omega) (by simp at hroom;rw[hby];omega);simp only[List.flatMap_nil,List.length_nil,Nat.zero_add,List.nil_append,Array.empty_append]at hOL hE hcur hr |-;subst hcur;exact⟨_,_,_,hr,hOL,hE, .inr ⟨_,rfl,Nat.le_refl _⟩⟩
 ·by_cases hroom':l.length+xs.length<=cap
  ·have hfit:l.length*i.size+(us'.flatMap a0g).length<=cur.size:=by rw[hnl,h10,<-hsz,<-Nat.add_mul];exact Nat.mul_le_mul_right _ hroom'
   have hr:=run_append_room (P:=P) w t ty e i T.und hi g l.length cap cur h7 ⟨sb,so,none⟩ xs.length cs (us'.flatMap a0g) hnl hnews hone' hroom' hfit;have hE:ExtX (ob (some ⟨g,0,none⟩)) w (w.setRow g (cur.toList.take (l.length*i.size)++us'.flatMap a0g++cur.toList.drop (l.length*i.size+(us'.flatMap a0g).length)).toArray):=
    ⟨rfl,rfl,rfl,by simp,fun k _ hk=>setRow_other w g k _ (fun ek=>by subst ek;simp[ob]at hk)⟩
   refine⟨_,_,_,by rw[hll];exact hr,⟨hx,us++us',by simp[h1,hlen],hnew,hnew1,⟨by rw[hfl];simp[hul,hnl,hsz,Nat.add_mul], .inr ⟨g,cap,_,by rw[hll],h6,setRow_heap w g cur _ e _ h7,by rw[hll];exact hroom',h9,?_,?_⟩⟩,hRs _ _ hE (.inl rfl)⟩,hE, .inl rfl⟩
   ·simp only[List.size_toArray,List.length_append,List.length_take,List.length_drop,Array.length_toList];omega
   ·rw[hfl,hll]
    rcases h3.2 with⟨hv,_⟩|⟨g',c',cur',hv,_,h7',_,_,_,h11⟩
    ·simp at hv
    simp at hv;obtain⟨rfl,rfl⟩:=hv;rw[h7]at h7';obtain rfl:cur=cur':=by simpa using h7'
    have e1:cur.toList.take (l.length*i.size)=us.flatMap a0g:=by rw[hsz];exact h11
    rw[e1];have hll2:(l.length+xs.length)*sz=(us.flatMap a0g++us'.flatMap a0g).length:=by simp[hul,hnl,hsz,Nat.add_mul]
    rw[hll2];exact List.take_left
  ·have holds:∀j u,(us.flatMap a0g)[j]? =some u->w.cell? ((⟨g,0,none⟩:Addr).add j)=some u:=h3.cells (g:=g) rfl
   have hr:=run_append_grow (P:=P) w t ty e i z T.und hi hz ⟨g,0,none⟩ l.length cap (us.flatMap a0g) hul holds ⟨sb,so,none⟩ xs.length cs (us'.flatMap a0g) hnl hnews (by omega) (by omega) (growslice_fits (by omega) (by rw[hby];exact hroom));obtain⟨g',cur',rfl,hcur,hOL,hE⟩:=grown cap (by omega);subst hcur;exact⟨_,_,_,by rw[hll];exact hr,hOL,hE, .inr ⟨_,rfl,Nat.le_refl _⟩⟩
theorem OL.run_make{t g:Nat}{z:Value}(T:SliceT P t e sz g z)(o:Elem R sz)(m:α)(hz:∀h,R h z m)(C:∀k,X k=true->k<w.heap.size)(d:base<=w.heap.size)(kl A:IntKind)(n:Nat)(s:g*n<=281474976710656)(l:n<=9223372036854775807):∃ao v,(Instr.makeSlice t (.int kl (n:Int)) (.int A (n:Int))).run P w= .ok (.slice ao n n) v/\OL R sz X base e v ao n (List.replicate n m)/\Ext w v:=by
 obtain⟨i,hi,q,f,p⟩:=info_parts T.info;have a:z.cells.size=sz:=o.size (fun _=>none) z m (hz _);have c:=o.pos;have y:=Go.run_make (P:=P) w t e i z T.und hi q kl A n n (by omega) (Int.le_refl _) (by rw[p,<-Int.natCast_mul];omega) (by omega);simp only[Int.toNat_natCast]at y;refine⟨_,_,y,⟨fun k F=>?_,List.replicate n z,by simp,by intro u b;rw[List.eq_of_mem_replicate b];exact a,by intro u b;rw[List.eq_of_mem_replicate b];exact o.one (fun _=>none) z m (hz _),⟨?_, .inr ⟨w.heap.size,n,_,by simp,d,heap_alloc_new w _,by simp,by simpa[maxLen]using l,by rw[size_madeCells,f],?_⟩⟩,fun i hi E=>by simpa using hz _⟩,(ExtX.refl w).alloc _⟩
 ·have:w.heap.size=k:=by simpa[ob]using F
  cases D:X k
  ·rfl
  ·have:=C k D;omega
 ·rw[a0N (sz:=sz) _ (by intro u b;rw[List.eq_of_mem_replicate b];exact a)]
  simp
 ·apply List.ext_getElem?
  intro j;simp only[List.length_replicate];by_cases r:j<n*sz
  ·rw[List.getElem?_take_of_lt r]
   have x:=a2x (sz:=sz) (List.replicate n z) (j/sz) (j%sz) (by simpa using Nat.div_lt_of_lt_mul (by rw[Nat.mul_comm];exact r)) (by intro u b;rw[List.eq_of_mem_replicate b];exact a) (Nat.mod_lt _ c);have B:j/sz*sz+j%sz=j:=by rw[Nat.mul_comm];exact Nat.div_add_mod j sz
   rw[B]at x;rw[x];simp[madeCells,f,r,a0g,a];rw[Array.getElem?_eq_getElem (by rw[a];exact Nat.mod_lt _ c)];rw[getElem!_pos]
  ·rw[List.getElem?_eq_none (by simp[size_madeCells,f];omega),List.getElem?_eq_none]
   rw[a0N (sz:=sz) _ (by intro u b;rw[List.eq_of_mem_replicate b];exact a)];simp;omega
theorem OL.run_store{t:TypeId}{ti:TypeInfo}(ht:P.info? t=some ti)(I:ti.size=sz)(A:Elem R sz)(h:OL R sz X base e w ao cap l)(i:Nat)(hi:i<l.length)(u:Value)(x:α)(J:R (mk (un X ao) w) u x):∃K,(storeVar t (adr ao (i*sz)) u).run P w= .ok () K/\OL R sz X base e K ao cap (l.set i x)/\ExtX (ob ao) w K:=by
 have b:=A.size _ _ _ J;have z:=A.one _ _ _ J;have m:=h.form;obtain⟨hx,us,L,M,C,T,U⟩:=h;rcases m with⟨rfl,rfl,rfl⟩|⟨g,a,rfl,V,D,N,W,f⟩
 ·simp at hi
 have p:adr (some ⟨g,0,none⟩) (i*sz)=⟨g,i*sz,none⟩:=by simp[adr]
 have y:(i+1)*sz<=l.length*sz:=Nat.mul_le_mul_right _ hi;have H:l.length*sz<=cap*sz:=Nat.mul_le_mul_right _ N;rw[Nat.succ_mul]at y;have G:=run_storeCells_at P g (i*sz) e (a0g u) 0 a w D (by simp[a0g,b,f];omega) z;have Q:ExtX (ob (some ⟨g,0,none⟩)) w (w.setRow g (a.toList.take (i*sz+0)++a0g u++a.toList.drop (i*sz+0+(a0g u).length)).toArray):=
  ⟨rfl,rfl,rfl,by simp,fun k _ Z=>setRow_other w g k _ (fun S=>by subst S;simp[ob]at Z)⟩
 have s:∀v∈us.set i u,v.cells.size=sz:=by
  intro v c;rcases List.mem_or_eq_of_mem_set c with c|rfl
  ·exact M v c
  ·exact b
 refine⟨_,?_,⟨hx,us.set i u,by simp[L],s,?_,⟨?_, .inr ⟨g,cap,_,by simp,V,setRow_heap w g a _ e _ D,by simpa using N,W,?_,?_⟩⟩,?_⟩,Q⟩
 ·rw[p]
  simp[storeVar,sizeOf,typeInfo,ht,I,b];simpa[a0g]using G
 ·intro v c
  rcases List.mem_or_eq_of_mem_set c with c|rfl
  ·exact C v c
  ·exact z
 ·rw[a0N _ s];simp[L]
 ·have d:(a0g u).length=sz:=by simp[a0g,b]
  simp only[List.size_toArray,List.length_append,List.length_take,List.length_drop,Array.length_toList,d,f,Nat.add_zero];omega
 ·rcases T.2 with⟨c,_⟩|⟨g',c',n,c,_,o,_,_,_,B⟩
  ·simp at c
  simp at c;obtain⟨rfl,rfl⟩:=c;rw[D]at o;obtain rfl:a=n:=by simpa using o
  have d:(a0g u).length=sz:=by simp[a0g,b]
  have E:a.toList.length=cap*sz:=by simp[f]
  rw[a9y us i u (by omega) M b,<-B];simp only[List.length_set,Nat.add_zero];have O:(a.toList.take (i*sz)).length=i*sz:=by rw[List.length_take,E];omega
  rw[d,List.take_append,List.take_of_length_le (by rw[List.length_append,O,d];omega),List.length_append,O,d,List.take_take,Nat.min_eq_left (by omega),List.drop_take]
 ·intro j Y F
  have r:Le (mk (un X (some ⟨g,0,none⟩)) w) (mk (un X (some ⟨g,0,none⟩)) _):=a2n Q (.inl rfl);by_cases q:i=j
  ·subst q;simpa using A.mono _ _ _ _ r J
  ·have:=A.mono _ _ _ _ r (U j (by simpa using Y) (by simpa using F))
   simpa[List.getElem_set,q]using this
end
end Go.Rep
namespace Go.Rep
open Go.RowKit
section
variable {P:Program} {ops:Array Oper} {Q:Exit->Act->World->Prop} {rest:List Oper} {a:Act} {w:World}
variable {α:Type} {R:Mem->Value->α->Prop} {sz:Nat} {X:Nat->Bool} {base:Nat} {e:TypeId} {ao:Option Addr} {cap:Nat} {l:List α}
variable {d:Option Tmp} {ty:TypeId} {ps:String} {af:Array Edge}
theorem OL.lit(m:Elem R sz)(q:∀k,X k=true->k<w.heap.size)(c:base<=w.heap.size)(us:List Value)(l:List α)(d:Array Value)(f:d=(us.flatMap a0g).toArray)(a:us.length=l.length)(n:∀i (hi:i<us.length) (g:i<l.length),R (mk X w) us[i] l[i])(h:l.length<=9223372036854775807):OL R sz X base e (w.alloc (.cells d e)) (some ⟨w.heap.size,0,none⟩) l.length l:=by
 subst f;have b:∀u∈us,u.cells.size=sz:=by
  intro v o;obtain⟨i,hi,rfl⟩:=List.getElem_of_mem o;exact m.size _ _ _ (n i hi (by omega))
 have p:Ext w (w.alloc (.cells (us.flatMap a0g).toArray e)):=(ExtX.refl w).alloc _;refine⟨fun k j=>?_,us,a,b,?_,⟨by rw[a0N us b,a], .inr ⟨w.heap.size,_,_,rfl,c,heap_alloc_new w _,Nat.le_refl _,by unfold maxLen;exact h,by simp[a0N us b,a],?_⟩⟩,fun i hi g=>?_⟩
 ·have:w.heap.size=k:=by simpa[ob]using j
  cases r:X k
  ·rfl
  ·have:=q k r;omega
 ·intro v o
  obtain⟨i,hi,rfl⟩:=List.getElem_of_mem o;exact m.one _ _ _ (n i hi (by omega))
 ·rw[List.take_of_length_le]
  simp[a0N us b,a]
 ·refine m.mono _ _ _ _ (a0T p (fun k _ j=>by simp[noY]at j) fun k j hz=>?_) (n i hi g)
  by_cases hx:X k=true
  ·exact hx
  ·have:w.heap.size=k:=by simpa[un,hx,ob]using hz
   omega
theorem b7b(X:Nat->Bool)(w:World)(o:Obj):Le (mk X w) (mk (un X (some ⟨w.heap.size,0,none⟩)) (w.alloc o)):=
 a0T ((ExtX.refl (Y:=noY) w).alloc o) (fun k _ a=>by simp[noY]at a) fun k a hz=>by
  by_cases hx:X k=true
  ·exact hx
  ·have:w.heap.size=k:=by simpa[un,hx,ob]using hz
   omega
theorem b1h(w:World)(a:Array Value)(e:TypeId)(u:Value)(b:a=u.cells):At (w.alloc (.cells a e)) (some ⟨w.heap.size,0,none⟩) [u]:=by
 subst b;refine⟨fun _=>⟨_,_,rfl⟩,fun j c d=>?_⟩;simp only[List.flatMap_cons,List.flatMap_nil,List.append_nil,a0g,Array.getElem?_toList]at d;have f:adr (some ⟨w.heap.size,0,none⟩) j=⟨w.heap.size,j,none⟩:=by simp[adr]
 have g:=heap_alloc_new w (.cells u.cells e);rw[f];unfold World.cell?;rw[g];simpa using d
theorem a2J{t m:Nat}{z:Value}{f:Array Value}{s x:Operand}(T:SliceT P t e sz m z)(C:z.cells.size=sz)(A:Elem R sz)(B:base<=w.heap.size)(G:∀k,X k=true->k<w.heap.size)(I:a.eval s= .slice ao l.length cap)(hx:a.eval x= .slice (some ⟨w.heap.size,0,none⟩) 1 1)(h:OL R sz X base e w ao cap l)(u:Value)(y:α)(o:f=u.cells)(L:R (mk (un X ao) w) u y)(j:(l.length+1)*m<=140737488355328)(p:l.length+1<=9223372036854775807)(K:∀c b q,OL R sz X base e q c b (l++[y])->ExtX (ob ao) w q->(c=ao\/∃g,c=some ⟨g,0,none⟩/\w.heap.size<=g)->wpList P ops Q rest (a.put d (.slice c (l++[y]).length b)) q):wpList P ops Q (⟨d, .call {callee:= .builtin .append,args:=#[s,x],argTypes:=#[t,t]},ty,ps,af,none⟩::rest) a (w.alloc (.cells f e)):=by
 refine wpList_plain rfl fun M v=>?_;have r:Ext w (w.alloc (.cells f e)):=(ExtX.refl w).alloc _;have J:w.heap.size+1=(w.alloc (.cells f e)).heap.size:=by simp
 obtain⟨c,b,q,D,E,F,n⟩:=(h.ext0 A r).run_append (P:=P) T C A (by omega) (fun k H=>by have:=G k H;omega) (some ⟨w.heap.size,0,none⟩) 1 [u] [y] (b1h w f e u o) rfl
  (fun i hi _=>by
           have:i=0:=by simpa using hi
           subst this;exact A.mono _ _ _ _ (a0l r) L) (by simpa using j) (by simpa using p) ty
 unfold Oper.wp execOp;simp only[resolve,invoke,builtin,Sem.run_bind,Sem.run_pure,Result.andThen_ok,List.map_toArray,List.map_cons,List.map_nil,I,hx];rw[show([y]:List α).length=1 from rfl]at D;rw[D];refine v _ _ (K c b q E ((ExtX.of r).trans F) ?_);rcases n with n|⟨g,n,N⟩
 ·exact .inl n
 ·exact .inr ⟨g,n,by omega⟩
theorem a2K{t n:Nat}{z:Value}{s x:Operand}{f:Option Addr}{y:Nat}(T:SliceT P t e sz n z)(v:z.cells.size=sz)(A:Elem R sz)(i:base<=w.heap.size)(D:∀k,X k=true->k<w.heap.size)(m:List α)(F:a.eval s= .slice ao l.length cap)(hx:a.eval x= .slice f m.length y)(h:OL R sz X base e w ao cap l)(hxs:Sl R sz (mk (un X ao) w) f m)(j:(l.length+m.length)*n<=140737488355328)(o:l.length+m.length<=9223372036854775807)(K:∀c b p,OL R sz X base e p c b (l++m)->ExtX (ob ao) w p->(c=ao\/∃g,c=some ⟨g,0,none⟩/\w.heap.size<=g)->wpList P ops Q rest (a.put d (.slice c (l++m).length b)) p):wpList P ops Q (⟨d, .call {callee:= .builtin .append,args:=#[s,x],argTypes:=#[t,t]},ty,ps,af,none⟩::rest) a w:=by
 refine wpList_plain rfl fun G u=>?_;obtain⟨us,B,q,r⟩:=hxs.at_ A;obtain⟨c,b,p,E,q,r,C⟩:=h.run_append (P:=P) T v A i D f y us m q B r j o ty;unfold Oper.wp execOp;simp only[resolve,invoke,builtin,Sem.run_bind,Sem.run_pure,Result.andThen_ok,List.map_toArray,List.map_cons,List.map_nil,F,hx,E];exact u _ _ (K c b p q r C)
theorem a1G{t f:Nat}{z:Value}{x y:Operand}{kl o:IntKind}{m:Int}(T:SliceT P t e sz f z)(r:Elem R sz)(l:α)(hz:∀h,R h z l)(X:Nat->Bool)(s:∀k,X k=true->k<w.heap.size)(base:Nat)(b:base<=w.heap.size)(n:Nat)(v:a.eval x= .int kl m)(u:a.eval y= .int o m)(A:m=(n:Int))(c:f*n<=281474976710656)(g:n<=9223372036854775807)(K:∀ao i,OL R sz X base e i ao n (List.replicate n l)->Ext w i->wpList P ops Q rest (a.put d (.slice ao n n)) i):wpList P ops Q (⟨d, .makeSlice t x y,ty,ps,af,none⟩::rest) a w:=by
 refine wpList_plain rfl fun C j=>?_;subst A;obtain⟨ao,i,B,p,q⟩:=OL.run_make (P:=P) T r l hz s b kl o n c g;unfold Oper.wp;simp[execOp,v,u,B,Result.andThen];exact j _ _ (K ao i p q)
theorem a1t{t:TypeId}{x y:Operand}{k:Nat}(n:TyI P t sz)(m:Elem R sz)(i:Nat)(hx:a.eval x= .pointer (some (adr ao k)))(o:k=i*sz)(h:OL R sz X base e w ao cap l)(hi:i<l.length)(u:Value)(v:α)(s:a.eval y=u)(r:R (mk (un X ao) w) u v)(K:∀b,OL R sz X base e b ao cap (l.set i v)->ExtX (ob ao) w b->wpList P ops Q rest (a.put d undef) b):wpList P ops Q (⟨d, .store t x y,ty,ps,af,none⟩::rest) a w:=by
 refine wpList_plain rfl fun z c=>?_;subst o;obtain⟨ti,q,f⟩:=n;obtain⟨b,p,g,j⟩:=h.run_store (P:=P) q f m i hi u v r;unfold Oper.wp;simp[execOp,hx,s,Instr.storeAt,Instr.sureAddr,p,Result.andThen];exact c _ _ (K b g j)
def a0L(ao:Option Addr)(i m sz:Nat):Option Addr:=if m=i then ao else ao.map (·.add (i*sz))
theorem Sl.sub{h:Mem}(s:Sl R sz h ao l)(i j m:Nat)(g:i<=j)(o:j<=m)(n:j<=l.length):Sl R sz h (a0L ao i m sz) ((l.take j).drop i):=by
 refine⟨fun r=>?_,fun k p=>?_⟩
 ·simp at r
  obtain⟨b,c,rfl⟩:=s.1 (by omega);have a:¬m=i:=by omega
  simp[a0L,a,Addr.add_lit]
 ·simp at p
  obtain⟨b,c,rfl⟩:=s.1 (by omega);have a:¬m=i:=by omega
  obtain⟨u,d,e,f⟩:=s.2 (i+k) (by omega);refine⟨u,d,fun q hq=>?_,by simpa using f⟩;have:=e q hq;simp only[a0L,a,if_false,Option.map_some,Addr.add_lit,adr,Option.getD_some]at this |-;rw[<-this,Nat.add_mul]
  congr 2
  omega
theorem a2Z{t a:Nat}{z:Value}(T:SliceT P t e sz a z)(len cap:Nat)(f:IntKind)(i:Nat)(g:i<=len)(_:len<=cap)(w:World):(Instr.sliceAt t (.slice ao len cap) (some (.int f (i:Int))) none none).run P w= .ok (.slice (a0L ao i cap sz) (len - i) (cap - i)) w:=by
 obtain⟨ti,hi,hz,c,d⟩:=info_parts T.info;have b:(i:Int)<=len:=by omega
 simp[Instr.sliceAt,Instr.slice,run_underlying T.und,Instr.sliceBounds,run_sliceBound,b,sizeOf,typeInfo,hi,c,a0L]
theorem a7O{t a:Nat}{z:Value}(T:SliceT P t e sz a z)(len cap:Nat)(g h:IntKind)(i j:Nat)(k:i<=j)(l:j<=cap)(w:World):(Instr.sliceAt t (.slice ao len cap) (some (.int g (i:Int))) (some (.int h (j:Int))) none).run P w= .ok (.slice (a0L ao i cap sz) (j - i) (cap - i)) w:=by
 obtain⟨ti,hi,hz,d,f⟩:=info_parts T.info;have b:(i:Int)<=j:=by omega
 have c:(j:Int)<=cap:=by omega
 simp[Instr.sliceAt,Instr.slice,run_underlying T.und,Instr.sliceBounds,run_sliceBound,b,c,sizeOf,typeInfo,hi,d,a0L]
theorem a0O{t:TypeId}{x y:Operand}{k:Nat}{b:IntKind}{l:List Nat}{m:Int}(f:TyI P t 1)(i:Nat)(v:Nat)(hx:a.eval x= .pointer (some (adr ao k)))(n:k=i)(h:OL (a0b b) 1 X base e w ao cap l)(hi:i<l.length)(j:a.eval y= .int b m)(g:m=(v:Int))(K:∀c,OL (a0b b) 1 X base e c ao cap (l.set i v)->ExtX (ob ao) w c->wpList P ops Q rest (a.put d undef) c):wpList P ops Q (⟨d, .store t x y,ty,ps,af,none⟩::rest) a w:=
 a1t f (a0b.elem b) i hx (by omega) h hi (.int b m) v j (by rw[g];rfl) K
theorem a4d{t:TypeId}{x y:Operand}{k:Nat}{b:IntKind}{l:List Int}{m:Int}(f:TyI P t 1)(i:Nat)(v:Int)(hx:a.eval x= .pointer (some (adr ao k)))(n:k=i)(h:OL (a0v b) 1 X base e w ao cap l)(hi:i<l.length)(j:a.eval y= .int b m)(g:m=v)(K:∀c,OL (a0v b) 1 X base e c ao cap (l.set i v)->ExtX (ob ao) w c->wpList P ops Q rest (a.put d undef) c):wpList P ops Q (⟨d, .store t x y,ty,ps,af,none⟩::rest) a w:=
 a1t f (a0v.elem b) i hx (by omega) h hi (.int b m) v j (by rw[g];rfl) K
theorem OL.set1{t:TypeId}(o:TyI P t 1)(j:Elem R 1)(b:a2Y R)(h:OL R 1 X base e w ao cap l)(i:Nat)(hi:i<l.length)(u:Value)(x:α)(g:R (mk (un X ao) w) u x):OL R 1 X base e (w.setCell (adr ao i) u) ao cap (l.set i x)/\ExtX (ob ao) w (w.setCell (adr ao i) u):=by
 obtain⟨ti,k,d⟩:=o;obtain⟨v,p,q,_⟩:=h.cell b i hi;obtain⟨s,f,m,n⟩:=h.run_store (P:=P) k d j i hi u x g;have a:=b _ _ _ g;have c:=j.one _ _ _ g u (by simp[a0g,a]);rw[Nat.mul_one]at f;have r:s=w.setCell (adr ao i) u:=by
  simp only[storeVar,sizeOf,typeInfo,Sem.run_bind]at f;cases u<;>simp[Value.oneCell']at c<;>simp[program,Sem.run,k,d,Result.andThen,Value.cells,storeCells,store,Addr.add_zero',p,q]at f<;>exact f.symm
 subst r;exact⟨m,n⟩
end
end Go.Rep
namespace Go.Proofs.YtnnpfhoigmegcaaGreat
open Go.RowKit Go.Rep
theorem a0M:SliceT Tryz.prog 37 110 1 4 (.int .u32 0):=⟨Tryz.underlying37,by kernel_rfl⟩
theorem a2b:SliceT Tryz.prog 22 3 1 8 (.int .i64 0):=⟨Tryz.underlying22,by kernel_rfl⟩
theorem b7c:(Tryz.prog.info? 110).map (fun i=>(i.zero,i.size,i.bytes))=some (some (.int .u32 0),1,4):=by kernel_rfl
theorem b7d:(Tryz.prog.info? 3).map (fun i=>(i.zero,i.size,i.bytes))=some (some (.int .i64 0),1,8):=by kernel_rfl
theorem a3x:TyI Tryz.prog 110 1:=let ⟨i,h,_,a,_⟩:=info_parts b7c;⟨i,h,a⟩
theorem b5w:TyI Tryz.prog 3 1:=let ⟨i,h,_,a,_⟩:=info_parts b7d;⟨i,h,a⟩
theorem b5x:(Tryz.prog.info? 37).map (fun i=>(i.zero,i.size,i.bytes))=some (some (.slice none 0 0),1,24):=by kernel_rfl
theorem b7e:TyI Tryz.prog 37 1:=let ⟨i,h,_,a,_⟩:=info_parts b5x;⟨i,h,a⟩
end Go.Proofs.YtnnpfhoigmegcaaGreat
