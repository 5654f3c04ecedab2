/- Natural numbers as lists of digits to the base 2^32, lowest first. Plain mathematics. Conditions: none. natural.Valid, value, trimmed, FromUint, Compare, bits.Add32, Add. Conditions: lengths far below any machine's. natural.Compare, bits.Div32, natural.short, Mul, slices.Clone, Div by one digit. Conditions: lengths far below any machine's. slices.Clone, natural.Div by one digit, and the reference's Valid, Take, trim, limb, FromUint, Add, Compare. Conditions: lengths far below any machine's. -/
import Derived.Test.YtkddecjkfdogiaaGreatLkA
import Derived.Deep.QuietTactic
import Derived.BigQuiet
namespace Go.Lim
theorem b6l:∃n:Nat,n=4294967296:=⟨_,rfl⟩
noncomputable def B:Nat:=Classical.choose b6l
theorem a0Z:B=4294967296:=Classical.choose_spec b6l
theorem a2n:0<B:=by rw[a0Z];decide
noncomputable def nv:List Nat->Nat
 | []=>0
 |d::l=>d+B*nv l
def Dig (l:List Nat):Prop:=∀d∈l,d<B
def a1n (l:List Nat):Bool:= !(l.getLast?==some 0)
def vl (l:List Nat):List Nat:=if a1n l then l else[]
noncomputable def val (l:List Nat):Nat:=nv (vl l)
def a0A (l:List Nat) (n:Nat):Prop:=Dig l/\a1n l=true/\nv l=n
theorem a3f (a b:List Nat):nv (a++b)=nv a+B^a.length*nv b:=by
 induction a with
 |nil=>simp[nv]
 |cons d a ih=>simp only[List.cons_append,nv,ih,List.length_cons,Nat.pow_succ,Nat.mul_add];rw[Nat.mul_comm (B^a.length) B,Nat.mul_assoc,Nat.add_assoc]
theorem a1z (a:List Nat) (d:Nat):nv (a++[d])=nv a+B^a.length*d:=by rw[a3f];simp[nv]
theorem a7W (n:Nat):nv (List.replicate n 0)=0:=by
 induction n with
 |zero=>rfl
 |succ n ih=>simp[List.replicate_succ,nv,ih]
theorem Dig.nil:Dig []:=by intro d h;simp at h
theorem Dig.cons {d:Nat} {l:List Nat} (hd:d<B) (h:Dig l):Dig (d::l):=by
 intro x hx;rcases List.mem_cons.1 hx with rfl|hx
 ·exact hd
 ·exact h x hx
theorem Dig.append {a b:List Nat} (ha:Dig a) (hb:Dig b):Dig (a++b):=by
 intro x hx;rcases List.mem_append.1 hx with h|h
 ·exact ha x h
 ·exact hb x h
theorem Dig.take {a:List Nat} (ha:Dig a) (n:Nat):Dig (a.take n):=fun x hx=>ha x (List.mem_of_mem_take hx)
theorem Dig.drop {a:List Nat} (ha:Dig a) (n:Nat):Dig (a.drop n):=fun x hx=>ha x (List.mem_of_mem_drop hx)
theorem Dig.get {a:List Nat} (ha:Dig a) (i:Nat) (h:i<a.length):a[i]<B:=ha _ (List.getElem_mem h)
theorem Dig.set {a:List Nat} (ha:Dig a) (i d:Nat) (hd:d<B):Dig (a.set i d):=by
 intro x hx;rcases List.mem_or_eq_of_mem_set hx with h|rfl
 ·exact ha x h
 ·exact hd
theorem Dig.zeros (n:Nat):Dig (List.replicate n 0):=by intro x hx;rw[List.eq_of_mem_replicate hx];exact a2n
theorem a3S {l:List Nat} (h:Dig l):nv l<B^l.length:=by
 induction l with
 |nil=>simp[nv]
 |cons d l ih=>
  have h1:=ih (fun x hx=>h x (List.mem_cons_of_mem _ hx));have h2:=h d (List.mem_cons_self ..);simp only[nv,List.length_cons,Nat.pow_succ];have:B*nv l+B<=B^l.length*B:=by rw[<-Nat.mul_succ,Nat.mul_comm];exact Nat.mul_le_mul_right _ h1
  omega
theorem a3K (l:List Nat) (d:Nat):a1n (l++[d])=(d !=0):=by simp[a1n,bne]
theorem a2P {l:List Nat} (h:0<l.length):a1n l=(l[l.length - 1] !=0):=by
 unfold a1n;rw[List.getLast?_eq_getElem?,List.getElem?_eq_getElem (by omega)];simp[bne]
theorem b1b (l:List Nat):a1n (vl l)=true:=by
 unfold vl;split
 ·assumption
 ·rfl
theorem b4z {l:List Nat} (h:Dig l):Dig (vl l):=by
 unfold vl;split
 ·exact h
 ·exact Dig.nil
theorem b4A (l:List Nat):(vl l).length<=l.length:=by unfold vl;split<;>simp
theorem a3T {l:List Nat} (h:Dig l):a0A (vl l) (val l):=⟨b4z h,b1b l,rfl⟩
theorem a0A.vl {l:List Nat} {n:Nat} (h:a0A l n):vl l=l:=by unfold Lim.vl;rw[h.2.1];rfl
theorem a0A.val {l:List Nat} {n:Nat} (h:a0A l n):val l=n:=by unfold Lim.val;rw[h.vl];exact h.2.2
theorem a0A.nil:a0A [] 0:=⟨Dig.nil,rfl,rfl⟩
theorem a7r {P:List Nat->Prop} (h0:P []) (hs:∀l d,P l->P (l++[d])) (l:List Nat):P l:=by
 have:∀m:List Nat,P m.reverse:=by
  intro m
  induction m with
  |nil=>exact h0
  |cons d m ih=>rw[List.reverse_cons];exact hs _ _ ih
 simpa using this l.reverse
def Cut (l:List Nat) (k:Nat):Prop:=k<=l.length/\nv (l.take k)=nv l
theorem Cut.all (l:List Nat):Cut l l.length:=⟨Nat.le_refl _,by rw[List.take_length]⟩
theorem Cut.less {l:List Nat} {k:Nat} (h:Cut l k) (hk:0<k) (h0:l[k - 1]'(by have:=h.1;omega)=0):Cut l (k - 1):=by
 refine⟨by have:=h.1;omega,?_⟩;have h1:=h.1;have e:l.take k=l.take (k - 1)++[l[k - 1]'(by omega)]:=by
  conv=>lhs;rw[show k=(k - 1)+1 from by omega]
  exact List.take_succ_eq_append_getElem (by omega)
 rw[<-h.2,e,a1z,h0];simp
theorem Cut.canon {l:List Nat} {k:Nat} (h:Cut l k) (hd:Dig l) (hv:k=0\/∃h':k - 1<l.length,l[k - 1]≠0):a0A (l.take k) (nv l):=by
 refine⟨hd.take k,?_,h.2⟩;have h1:=h.1;rcases hv with rfl|⟨h',h2⟩
 ·rfl
 ·by_cases hk:k=0
  ·subst hk;rfl
  rw[a2P (by simp;omega)];have:(l.take k).length=k:=by simp;omega
  simp[this,h2]
theorem a0A.unique {a b:List Nat} {n:Nat} (ha:a0A a n) (hb:a0A b n):a=b:=by
 induction a generalizing b n with
 |nil=>
  obtain⟨h1,h2,h3⟩:=hb;have hn:n=0:=ha.2.2.symm;subst hn;clear ha
  induction b using a7r with
  |h0=>rfl
  |hs l d ih=>
   rw[a1z]at h3;rw[a3K]at h2;have:0<B^l.length:=Nat.pow_pos a2n;have hd:0<d:=by simp at h2;omega
   have:=Nat.mul_pos this hd;omega
 |cons d a ih=>
  have cv:∀{d:Nat} {l:List Nat},a1n (d::l)=true->a1n l=true:=by
   intro d l h;cases l with
   |nil=>rfl
   |cons x l=>simpa[a1n]using h
  obtain⟨h1,h2,h3⟩:=ha;obtain⟨g1,g2,g3⟩:=hb;cases b with
  |nil=>
   have hn:n=0:=g3.symm;have:a0A (d::a) 0:=⟨h1,h2,by rw[h3,hn]⟩;clear ih
   exfalso
   have key:∀l:List Nat,a0A l 0->l= []:=by
    intro l
    induction l using a7r with
    |h0=>intro _;rfl
    |hs l d _=>
     rintro ⟨_,k2,k3⟩;rw[a1z]at k3;rw[a3K]at k2;have p1:0<B^l.length:=Nat.pow_pos a2n;have hd:0<d:=by simp at k2;omega
     have:=Nat.mul_pos p1 hd;omega
   simpa using key _ this
  |cons c b=>
   have hd:=h1 d (List.mem_cons_self ..);have hc:=g1 c (List.mem_cons_self ..);simp only[nv]at h3 g3;have e:d+B*nv a=c+B*nv b:=by omega
   have hdc:d=c:=by
    have:=congrArg (· %B) e;simpa[Nat.add_mul_mod_self_left,Nat.mod_eq_of_lt hd,Nat.mod_eq_of_lt hc]using this
   subst hdc;have:B*nv a=B*nv b:=by omega
   have hab:nv a=nv b:=Nat.eq_of_mul_eq_mul_left a2n this;rw[ih (n:=nv a) (b:=b) ⟨fun x hx=>h1 x (List.mem_cons_of_mem _ hx),cv h2,rfl⟩ ⟨fun x hx=>g1 x (List.mem_cons_of_mem _ hx),cv g2,hab.symm⟩]
def a3U (a b o:List Nat) (i c:Nat):Prop:=o.length=a.length+1/\Dig o/\c<=1/\nv (o.take i)+B^i*c=nv (a.take i)+nv (b.take i)
theorem a1b (o:List Nat) (i d:Nat) (h:i<o.length):(o.set i d).take (i+1)=o.take i++[d]:=by
 rw[List.take_succ_eq_append_getElem (by simpa using h),List.take_set,List.getElem_set_self]
 congr 1
 rw[List.set_eq_of_length_le (by simp;omega)]
theorem a0v (a:List Nat) (i:Nat) (h:i<a.length):nv (a.take (i+1))=nv (a.take i)+B^i*a[i]:=by
 rw[List.take_succ_eq_append_getElem h,a1z];congr 3;simp;omega
theorem a5w (a:List Nat) (i:Nat) (h:a.length<=i):nv (a.take (i+1))=nv (a.take i):=by
 rw[List.take_of_length_le (by omega),List.take_of_length_le h]
theorem a3U.start (a b:List Nat):a3U a b (List.replicate (a.length+1) 0) 0 0:=⟨by simp,Dig.zeros _,by omega,by simp[nv]⟩
theorem a3U.step {a b o:List Nat} {i c y:Nat} (h:a3U a b o i c) (hi:i<a.length) (hy:(∃h:i<b.length,b[i]=y)\/(b.length<=i/\y=0)) (ha:Dig a) (hb:Dig b):
  a3U a b (o.set i ((a[i]+y+c)%4294967296)) (i+1) ((a[i]+y+c)/4294967296):=by
 obtain⟨h1,h2,h3,h4⟩:=h;have hai:=ha.get i hi;have hyB:y<B:=by
  rcases hy with⟨h,rfl⟩|⟨_,rfl⟩
  ·exact hb.get i h
  ·exact a2n
 rw[a0Z]at hai hyB;refine⟨by simpa using h1,h2.set _ _ (by rw[a0Z];exact Nat.mod_lt _ (by decide)),by omega,?_⟩;have hb2:nv (b.take (i+1))=nv (b.take i)+B^i*y:=by
  rcases hy with⟨h,rfl⟩|⟨h,rfl⟩
  ·exact a0v b i h
  ·rw[a5w b i h];simp
 rw[a1b o i _ (by omega),a1z,a0v a i hi,hb2,List.length_take,Nat.min_eq_left (by omega),Nat.pow_succ,Nat.mul_assoc];have e:(a[i]+y+c)%4294967296+B*((a[i]+y+c)/4294967296)=a[i]+y+c:=by rw[a0Z];omega
 have e2:B^i*((a[i]+y+c)%4294967296)+B^i*(B*((a[i]+y+c)/4294967296))=B^i*a[i]+B^i*y+B^i*c:=by rw[<-Nat.mul_add,e,Nat.mul_add,Nat.mul_add]
 omega
theorem a3U.done {a b o:List Nat} {c:Nat} (h:a3U a b o a.length c) (hab:b.length<=a.length):Dig (o.set a.length c)/\nv (o.set a.length c)=nv a+nv b/\(o.set a.length c).length=a.length+1:=by
 obtain⟨h1,h2,h3,h4⟩:=h;refine⟨h2.set _ _ (by rw[a0Z];omega),?_,by simpa using h1⟩;have e:o.set a.length c=(o.set a.length c).take (a.length+1):=by rw[List.take_of_length_le (by simp;omega)]
 rw[e,a1b o _ _ (by omega),a1z,List.length_take,Nat.min_eq_left (by omega),h4,List.take_of_length_le (Nat.le_refl _),List.take_of_length_le hab]
def lg (n:Nat):Nat:=if n=0 then 0 else Nat.log2 n/32+1
theorem b1c (m:Nat):B^m=2^(32*m):=by rw[Nat.pow_mul,a0Z]
theorem a2Q {n m:Nat}:lg n<=m↔n<B^m:=by
 unfold lg;by_cases h:n=0
 ·subst h;simp[Nat.pow_pos a2n]
 ·rw[if_neg h,b1c,<-Nat.log2_lt h];omega
theorem a0A.len {l:List Nat} {n:Nat} (h:a0A l n):l.length=lg n:=by
 have h1:lg n<=l.length:=a2Q.2 (by rw[<-h.2.2];exact a3S h.1);obtain⟨hd,hv,rfl⟩:=h
 induction l using a7r with
 |h0=>rfl
 |hs l d _=>
  rw[a3K]at hv;have hd:0<d:=by simp at hv;omega
  have:¬lg (nv (l++[d]))<=l.length:=by
   rw[a2Q,a1z];have:=Nat.mul_le_mul_left (B^l.length) hd;omega
  simp at h1 |-;omega
theorem a4V:lg 0=0:=rfl
theorem a1a {a b:Nat} (h:a<=b):lg a<=lg b:=a2Q.2 (Nat.lt_of_le_of_lt h (a2Q.1 (Nat.le_refl _)))
theorem a9B (a b:Nat):lg (a+b)<=max (lg a) (lg b)+1:=by
 rw[a2Q];have h1:=(a2Q (n:=a) (m:=max (lg a) (lg b))).1 (Nat.le_max_left _ _);have h2:=(a2Q (n:=b) (m:=max (lg a) (lg b))).1 (Nat.le_max_right _ _);rw[Nat.pow_succ];have:0<B^max (lg a) (lg b):=Nat.pow_pos a2n;have:=a0Z;generalize B^max (lg a) (lg b)=p at*;rw[a0Z];omega
theorem a1R (a b:Nat):lg (a*b)<=lg a+lg b:=by
 rw[a2Q,Nat.pow_add];exact Nat.mul_lt_mul'' (a2Q.1 (Nat.le_refl _)) (a2Q.1 (Nat.le_refl _))
theorem b2p {a:Nat} (h:0<a):0<lg a:=by unfold lg;rw[if_neg (by omega)];omega
theorem a9C (l:List Nat) (h:Dig l):lg (val l)<=l.length:=by
 have:=(a3T h).len;have:=b4A l;omega
def a3a (a b:Nat):Int:=if a<b then -1 else if b<a then 1 else 0
theorem a3F {a b:List Nat} {m n:Nat} (ha:a0A a m) (hb:a0A b n) (h:a.length<b.length):a3a m n= -1:=by
 have:m<n:=by
  rcases Nat.lt_or_ge m n with h1|h1
  ·exact h1
  ·have:=a1a h1;rw[<-ha.len,<-hb.len]at this;omega
 simp[a3a,this]
theorem a3G {a b:List Nat} {m n:Nat} (ha:a0A a m) (hb:a0A b n) (h:b.length<a.length):a3a m n=1:=by
 have:n<m:=by
  rcases Nat.lt_or_ge n m with h1|h1
  ·exact h1
  ·have:=a1a h1;rw[<-ha.len,<-hb.len]at this;omega
 simp[a3a,this,Nat.lt_asymm this]
theorem a1S (a:List Nat) (k:Nat) (hk:k<=a.length):nv a=nv (a.take k)+B^k*nv (a.drop k):=by
 have:=a3f (a.take k) (a.drop k);rw[List.take_append_drop,List.length_take,Nat.min_eq_left hk]at this;exact this
theorem a4W {a b:List Nat} (ha:Dig a) {k:Nat} (hl:a.length=b.length) (h0:0<k) (hk:k<=a.length) (hd:a.drop k=b.drop k) (h:a[k - 1]'(by omega)<b[k - 1]'(by omega)):nv a<nv b:=by
 rw[a1S a k hk,a1S b k (by omega),hd];have ha1:=a0v a (k - 1) (by omega);have hb1:=a0v b (k - 1) (by omega);rw[show k - 1+1=k from by omega]at ha1 hb1;have h1:=a3S (ha.take (k - 1));rw[List.length_take,Nat.min_eq_left (by omega)]at h1;have h2:B^(k - 1)*a[k - 1]'(by omega)+B^(k - 1)<=B^(k - 1)*b[k - 1]'(by omega):=by rw[<-Nat.mul_succ];exact Nat.mul_le_mul_left _ h
 omega
theorem a5x {a b:List Nat} {m n k:Nat} (ha:a0A a m) (hb:a0A b n) (hl:a.length=b.length) (h0:0<k) (hk:k<=a.length) (hd:a.drop k=b.drop k) (h:a[k - 1]'(by omega)<b[k - 1]'(by omega)):a3a m n= -1:=by
 have:=a4W ha.1 hl h0 hk hd h;rw[ha.2.2,hb.2.2]at this;simp[a3a,this]
theorem a5y {a b:List Nat} {m n k:Nat} (ha:a0A a m) (hb:a0A b n) (hl:a.length=b.length) (h0:0<k) (hk:k<=a.length) (hd:a.drop k=b.drop k) (h:b[k - 1]'(by omega)<a[k - 1]'(by omega)):a3a m n=1:=by
 have:=a4W hb.1 hl.symm h0 (by omega) hd.symm h;rw[ha.2.2,hb.2.2]at this;simp[a3a,this,Nat.lt_asymm this]
theorem a4B {a b:List Nat} {k:Nat} (hl:a.length=b.length) (h0:0<k) (hk:k<=a.length) (hd:a.drop k=b.drop k) (h:a[k - 1]'(by omega)=b[k - 1]'(by omega)):a.drop (k - 1)=b.drop (k - 1):=by
 have h1:=List.drop_eq_getElem_cons (l:=a) (i:=k - 1) (by omega);have h2:=List.drop_eq_getElem_cons (l:=b) (i:=k - 1) (by omega);rw[h1,h2,show k - 1+1=k from by omega,hd,h]
theorem a5z {a b:List Nat} {m n k:Nat} (ha:a0A a m) (hb:a0A b n) (hk:k=0) (hd:a.drop k=b.drop k):a3a m n=0:=by
 subst hk;have:a=b:=by simpa using hd
 have:m=n:=by rw[<-ha.2.2,<-hb.2.2,this]
 simp[a3a,this]
theorem a3g (a b:Nat):a3a a b<0↔a<b:=by unfold a3a;split<;>(try split)<;>simp_all
theorem b2W (a b:Nat):a3a a b=0↔a=b:=by unfold a3a;split<;>(try split)<;>simp_all<;>omega
def a2o (l q:List Nat) (d k r:Nat):Prop:=q.length=l.length/\Dig q/\r<d/\nv (l.drop k)=d*nv (q.drop k)+r
theorem a2o.start (l:List Nat) (d:Nat) (hd:0<d):a2o l (List.replicate l.length 0) d l.length 0:=
 ⟨by simp,Dig.zeros _,hd,by simp[nv]⟩
theorem a5L (q:List Nat) (k x:Nat) (h0:0<k) (hk:k<=q.length):(q.set (k - 1) x).drop (k - 1)=x::q.drop k:=by
 rw[List.drop_eq_getElem_cons (by simp;omega),List.getElem_set_self,show k - 1+1=k from by omega,List.drop_set_of_lt (by omega)]
theorem a2o.step {l q:List Nat} {d k r:Nat} (h:a2o l q d k r) (h0:0<k) (hk:k<=l.length) (hl:Dig l):
  a2o l (q.set (k - 1) ((r*4294967296+l[k - 1])/d)) d (k - 1) ((r*4294967296+l[k - 1])%d):=by
 obtain⟨h1,h2,h3,h4⟩:=h;have hlk:=hl.get (k - 1) (by omega);rw[a0Z]at hlk;have hx:(r*4294967296+l[k - 1])/d<4294967296:=by
  rw[Nat.div_lt_iff_lt_mul (by omega)];have:(r+1)*4294967296<=d*4294967296:=Nat.mul_le_mul_right _ h3;rw[Nat.mul_comm 4294967296 d];omega
 refine⟨by simpa using h1,h2.set _ _ (by rw[a0Z];exact hx),Nat.mod_lt _ (by omega),?_⟩;rw[a5L q k _ h0 (by omega),List.drop_eq_getElem_cons (l:=l) (i:=k - 1) (by omega),show k - 1+1=k from by omega];simp only[nv];rw[h4];have e:=Nat.div_add_mod (r*4294967296+l[k - 1]) d;rw[a0Z];generalize (r*4294967296+l[k - 1])/d=x at*;generalize (r*4294967296+l[k - 1])%d=y at*;generalize nv (q.drop k)=z at*;have e2:4294967296*(d*z+r)=d*(4294967296*z)+r*4294967296:=by rw[Nat.mul_add,<-Nat.mul_assoc,<-Nat.mul_assoc,Nat.mul_comm 4294967296 d,Nat.mul_comm 4294967296 r]
 rw[e2,Nat.mul_add];omega
theorem a2o.done {l q:List Nat} {d r:Nat} (h:a2o l q d 0 r):nv q=nv l/d/\r=nv l%d:=by
 obtain⟨h1,h2,h3,h4⟩:=h;simp only[List.drop_zero]at h4;rw[h4,Nat.mul_add_div (by omega),Nat.div_eq_of_lt h3,Nat.mul_add_mod,Nat.mod_eq_of_lt h3];exact⟨rfl,rfl⟩
theorem b2q (o:List Nat) (k d:Nat) (h:k<o.length):nv (o.set k d)+B^k*o[k]=nv o+B^k*d:=by
 induction o generalizing k with
 |nil=>simp at h
 |cons x o ih=>
  match k with
  |0=>simp[nv];omega
  |k+1=>
   have:=ih k (by simpa using h);simp only[List.set_cons_succ,nv,List.getElem_cons_succ,Nat.pow_succ];have e1:B^k*B*o[k]'(by simpa using h)=B*(B^k*o[k]'(by simpa using h)):=by rw[Nat.mul_comm (B^k) B,Nat.mul_assoc]
   have e2:B^k*B*d=B*(B^k*d):=by rw[Nat.mul_comm (B^k) B,Nat.mul_assoc]
   rw[e1,e2,Nat.add_assoc,<-Nat.mul_add,this,Nat.mul_add,Nat.add_assoc]
def a2m (a b o:List Nat) (i j c:Nat):Prop:=o.length=a.length+b.length/\Dig o/\c<B/\(∀p (h:p<o.length),i+b.length<=p->o[p]=0)/\
 nv o+B^(i+j)*c=nv (a.take i)*nv b+(a.getD i 0)*B^i*nv (b.take j)
theorem a2m.start (a b:List Nat):a2m a b (List.replicate (a.length+b.length) 0) 0 0 0:=
 ⟨by simp,Dig.zeros _,a2n,by simp,by simp[nv,a7W]⟩
theorem a2m.step {a b o:List Nat} {i j c:Nat} (h:a2m a b o i j c) (hi:i<a.length) (hj:j<b.length) (ha:Dig a) (hb:Dig b) (hij:i+j<o.length):
  a2m a b (o.set (i+j) ((c+(a[i]*b[j]+o[i+j]))%4294967296)) i (j+1) ((c+(a[i]*b[j]+o[i+j]))/4294967296)/\c+(a[i]*b[j]+o[i+j])<18446744073709551616/\a[i]*b[j]+o[i+j]<18446744073709551616/\a[i]*b[j]<18446744073709551616:=by
 obtain⟨h1,h2,h3,h4,h5⟩:=h;have hai:=ha.get i hi;have hbj:=hb.get j hj;have hoj:=h2.get (i+j) hij;rw[a0Z]at hai hbj hoj h3;have hm:a[i]*b[j]<=4294967295*4294967295:=Nat.mul_le_mul (by omega) (by omega);have hs:=b2q o (i+j) ((c+(a[i]*b[j]+o[i+j]))%4294967296) hij;have hD:a.getD i 0=a[i]:=by simp[List.getD,hi]
 refine⟨⟨by simpa using h1,h2.set _ _ (by rw[a0Z];exact Nat.mod_lt _ (by decide)),by rw[a0Z];omega,?_,?_⟩,by omega,by omega,by omega⟩
 ·intro p hp hpp
  rw[List.getElem_set,if_neg (by omega)];exact h4 p (by simpa using hp) hpp
 ·rw[hD]at h5 |-
  rw[a0v b j hj,show i+(j+1)=(i+j)+1 from rfl,Nat.pow_succ];have e:=Nat.div_add_mod (c+(a[i]*b[j]+o[i+j])) 4294967296;generalize (c+(a[i]*b[j]+o[i+j]))/4294967296=x at*;generalize (c+(a[i]*b[j]+o[i+j]))%4294967296=y at*;generalize nv (o.set (i+j) y)=no at*;have e3:B^(i+j)*B*x=B^(i+j)*(4294967296*x):=by rw[a0Z,Nat.mul_assoc]
  have e4:a[i]*B^i*(nv (b.take j)+B^j*b[j])=a[i]*B^i*nv (b.take j)+B^(i+j)*(a[i]*b[j]):=by
   rw[Nat.mul_add,Nat.pow_add]
   congr 1
   ac_rfl
  rw[e3,e4];have e5:B^(i+j)*(4294967296*x)+B^(i+j)*y=B^(i+j)*c+(B^(i+j)*(a[i]*b[j])+B^(i+j)*o[i+j]):=by
   rw[<-Nat.mul_add,e,Nat.mul_add,Nat.mul_add]
  omega
theorem a2m.row {a b o:List Nat} {i c:Nat} (h:a2m a b o i b.length c) (hi:i<a.length):a2m a b (o.set (i+b.length) c) (i+1) 0 0:=by
 obtain⟨h1,h2,h3,h4,h5⟩:=h;have hs:=b2q o (i+b.length) c (by omega);have hz:=h4 (i+b.length) (by omega) (by omega);rw[hz,Nat.mul_zero,Nat.add_zero]at hs;have hD:a.getD i 0=a[i]:=by simp[List.getD,hi]
 refine⟨by simpa using h1,h2.set _ _ h3,a2n,?_,?_⟩
 ·intro p hp hpp
  rw[List.getElem_set,if_neg (by omega)];exact h4 p (by simpa using hp) (by omega)
 ·rw[List.take_zero,show nv []=0 from rfl,Nat.mul_zero,Nat.mul_zero,Nat.add_zero,Nat.add_zero,hs,h5,hD,List.take_of_length_le (Nat.le_refl b.length),a0v a i hi,Nat.add_mul,Nat.mul_comm (B^i) a[i]]
theorem a2m.done {a b o:List Nat} {c:Nat} (h:a2m a b o a.length 0 c) (hc:c=0):nv o=nv a*nv b:=by
 obtain⟨h1,h2,h3,h4,h5⟩:=h;subst hc;simpa[nv]using h5
theorem a2E {n:Nat} (h0:0<n) (h:n<4294967296):lg n=1:=by
 have h1:lg n<=1:=a2Q.2 (by rw[Nat.pow_one,a0Z];exact h);have:=b2p h0;omega
theorem a9D {l:List Nat} {n:Nat} (h:a0A l n) (h0:0<n) (h1:n<4294967296):l= [n]:=by
 have h2:=h.len;rw[a2E h0 h1]at h2
 match l,h2 with
 | [d],_=>have:=h.2.2;simp[nv]at this;rw[this]
theorem a7X {n:Nat} (h0:0<n) (h1:n<4294967296):a0A [n] n:=⟨Dig.cons (by rw[a0Z];exact h1) Dig.nil,by simp[a1n];omega,by simp[nv]⟩
theorem a5M {l:List Nat} {n:Nat} (h:a0A l n):l= []↔n=0:=by
 constructor
 ·rintro rfl;exact h.2.2.symm
 ·intro hn;have:=h.len;rw[hn]at this;exact List.eq_nil_of_length_eq_zero this
theorem a2m.step' {a b o:List Nat} {i j c x y z:Nat} (h:a2m a b o i j c) (hi:i<a.length) (hj:j<b.length) (ha:Dig a) (hb:Dig b) (hij:i+j<o.length) (hx:a[i]=x) (hy:b[j]=y) (hz:o[i+j]=z):
  a2m a b (o.set (i+j) ((c+(x*y+z))%4294967296)) i (j+1) ((c+(x*y+z))/4294967296)/\c+(x*y+z)<18446744073709551616:=by
 subst hx;subst hy;subst hz;exact⟨(h.step hi hj ha hb hij).1,(h.step hi hj ha hb hij).2.1⟩
def a2D (a b o:List Nat) (i c:Nat):Prop:=o.length=i/\Dig o/\c<=1/\nv o+B^i*c=nv (a.take i)+nv (b.take i)
theorem a2D.start (a b:List Nat):a2D a b [] 0 0:=⟨rfl,Dig.nil,by omega,by simp[nv]⟩
theorem a0U (a:List Nat) (i:Nat):nv (a.take (i+1))=nv (a.take i)+B^i*a.getD i 0:=by
 by_cases h:i<a.length
 ·rw[a0v a i h];simp[List.getD,h]
 ·rw[a5w a i (by omega)];simp[List.getD,h]
theorem Dig.getD {a:List Nat} (ha:Dig a) (i:Nat):a.getD i 0<B:=by
 by_cases h:i<a.length
 ·simpa[List.getD,h]using ha.get i h
 ·simpa[List.getD,h]using a2n
theorem a2D.step {a b o:List Nat} {i c:Nat} (h:a2D a b o i c) (ha:Dig a) (hb:Dig b):
  a2D a b (o++[(a.getD i 0+b.getD i 0+c)%4294967296]) (i+1) ((a.getD i 0+b.getD i 0+c)/4294967296):=by
 obtain⟨h1,h2,h3,h4⟩:=h;have hx:=ha.getD i;have hy:=hb.getD i;have ea:=a0U a i;have eb:=a0U b i;unfold a2D;rw[ea,eb];clear ea eb;generalize a.getD i 0=x at*;generalize b.getD i 0=y at*;rw[a0Z]at hx hy;refine⟨by simp[h1],h2.append (Dig.cons (by rw[a0Z];exact Nat.mod_lt _ (by decide)) Dig.nil),by omega,?_⟩;rw[a1z,h1,Nat.pow_succ,Nat.mul_assoc];have e:(x+y+c)%4294967296+B*((x+y+c)/4294967296)=x+y+c:=by rw[a0Z];omega
 have e2:B^i*((x+y+c)%4294967296)+B^i*(B*((x+y+c)/4294967296))=B^i*x+B^i*y+B^i*c:=by rw[<-Nat.mul_add,e,Nat.mul_add,Nat.mul_add]
 omega
theorem a2D.done {a b o:List Nat} {c m:Nat} (h:a2D a b o (m+1) c) (ha:Dig a) (hb:Dig b) (hal:a.length<=m) (hbl:b.length<=m):nv o=nv a+nv b:=by
 obtain⟨h1,h2,h3,h4⟩:=h;rw[List.take_of_length_le (by omega),List.take_of_length_le (by omega)]at h4;have ha1:=Nat.lt_of_lt_of_le (a3S ha) (Nat.pow_le_pow_right a2n hal);have hb1:=Nat.lt_of_lt_of_le (a3S hb) (Nat.pow_le_pow_right a2n hbl);rw[Nat.pow_succ]at h4;have hc:c=0:=by
  rcases Nat.eq_zero_or_pos c with h|h
  ·exact h
  ·exfalso
   have h5:B^m*B<=B^m*B*c:=Nat.le_mul_of_pos_right _ h;generalize B^m=p at*;rw[a0Z]at h5 h4;omega
 subst hc;simpa using h4
end Go.Lim
namespace Go.Proofs.YtkddecjkfdogiaaGreat
open Go.RowKit Go.Rep Go.Lim
theorem a1T (X:Nat->Bool) (ao:Option Addr) (l:List Nat) (cap:Nat) (w:World) (hs:Sl (a0b .u32) 1 (mk X w) ao l) (hl:l.length<=4398046511104):
  Calls Tryz.prog 251 #[.slice ao l.length cap] w fun e w'=>w=w'/\e= .returned (.bool (a1n l)):=by
 have hh:=hs.hd;by_cases h0:l.length=0
 ·have hl0:l= []:=List.eq_nil_of_length_eq_zero h0
  subst hl0;clear hs hh hl h0;simp only[List.length_nil];go_enter Tryz.func251,Tryz.ntmps251
  go_wp2_with fail
  go_ret
  exact⟨rfl,rfl⟩
 ·have hc:=hs.nat (l.length - 1) (by omega)
  have hv:=hid (a2P (l:=l) (by omega));have hz:((l.length:Int)==0)=false:=a3E (by omega);go_enter Tryz.func251,Tryz.ntmps251
  go_wp2_with (with_reducible refine a0t a0G (by omega) (by assumption) ?_)
  go_ret
  exact⟨rfl,a0l (by rw[hv.out];exact a6y _)⟩
def a3H (X:Nat->Bool) (w:World) (n:Nat) (e:Ending) (w':World):Prop:=
 Ext w w'/\∃ao cap l,e= .returned (.slice ao l.length cap)/\l.length<=cap/\a0A l n/\Sl (a0b .u32) 1 (mk X w') ao l
def a9E (X:Nat->Bool) (w:World) (ao:Option Addr) (l:List Nat) (cap:Nat) (e:Ending) (w':World):Prop:=
 w=w'/\∃l',e= .returned (.slice ao l'.length cap)/\l'.length<=l.length/\a0A l' (nv l)/\Sl (a0b .u32) 1 (mk X w) ao l'
def b4B (X:Nat->Bool) (w:World) (l:List Nat) (e:Ending) (w':World):Prop:=
 w=w'/\∃ao cap l',e= .returned (.slice ao l'.length cap)/\l'.length<=cap/\l'.length<=l.length/\a0A l' (val l)/\Sl (a0b .u32) 1 (mk X w) ao l'
theorem a1r (X:Nat->Bool) (ao:Option Addr) (l:List Nat) (cap:Nat) (w:World) (hs:Sl (a0b .u32) 1 (mk X w) ao l) (hd:Dig l) (hl:l.length<=4398046511104) (hcap:l.length<=cap):
  Calls Tryz.prog 216 #[.slice ao l.length cap] w (a9E X w ao l cap):=by
 have hh:=hs.hd;go_enter Tryz.func216,Tryz.ntmps216
 go_wp2_with fail
 go_loop [3] (fun n=>∃k:Nat,n= .int .i64 k/\Cut l k) (fun n=>(intOf n).toNat)
 case atStart=>exact⟨_,rfl,Cut.all l⟩
 case round=>
  obtain⟨k,rfl,hk⟩:=hrel;have hkl:=hk.1;by_cases hlt:0<k
  ·have hc:=hs.nat (k - 1) (by omega)
   by_cases hz:l[k - 1]=0
   ·have hk':=hk.less hlt hz
    have hz':=hid hz;rw[hz]at hc;clear hz;go_wp2_with (with_reducible refine a0t a0G (by omega) (by assumption) ?_)
    go_round
    case rel=>exact⟨k - 1,by go_num,hk'⟩
    case measure=>simp[intOf];omega
   ·have hcn:=hk.canon hd (.inr ⟨by omega,hz⟩)
    have hz':((l[k - 1]:Int)==0)=false:=a3E (by omega);go_wp2_with (with_reducible refine a0t a0G (by omega) (by assumption) ?_)
    go_ret
    exact⟨rfl,l.take k,a3Q (by simp;omega),by simp;omega,hcn,hs.take k⟩
  ·have hcn:=hk.canon hd (.inl (by omega))
   go_wp2_with fail
   go_ret
   exact⟨rfl,l.take k,a3Q (by simp;omega),by simp;omega,hcn,hs.take k⟩
theorem a0W (X:Nat->Bool) (ao:Option Addr) (l:List Nat) (cap:Nat) (w:World) (hs:Sl (a0b .u32) 1 (mk X w) ao l) (hd:Dig l) (hl:l.length<=4398046511104) (hcap:l.length<=cap):
  Calls Tryz.prog 214 #[.slice ao l.length cap] w (b4B X w l):=by
 cases hv:a1n l
 ·have hv':=hid hv
  go_enter Tryz.func214,Tryz.ntmps214
  go_wp2_with (go_at_call 251;refine(a1T X _ _ _ _ hs hl).mono ?_;rintro e w' ⟨rfl,rfl⟩)
  go_ret
  have:vl l= []:=by unfold vl;rw[hv];rfl
  exact⟨rfl,none,0,[],rfl,by simp,by simp,this▸a3T hd,Sl.nil _ _ _ _⟩
 ·have hv':=hid hv
  go_enter Tryz.func214,Tryz.ntmps214
  go_wp2_with (go_at_call 251;refine(a1T X _ _ _ _ hs hl).mono ?_;rintro e w' ⟨rfl,rfl⟩)
  go_ret
  have:vl l=l:=by unfold vl;rw[hv];rfl
  have hc:=a3T hd;rw[this]at hc;exact⟨rfl,ao,cap,l,rfl,hcap,Nat.le_refl _,hc,hs⟩
theorem a3h (X:Nat->Bool) (n:Nat) (w:World) (hn:n<18446744073709551616) (hX:∀k,X k=true->k<w.heap.size):
  Calls Tryz.prog 217 #[.int .u64 n] w (a3H X w n):=by
 have hO:OL (a0b .u32) 1 X w.heap.size 118 (w.alloc (.cells #[.int .u32 ((n:Int)%4294967296), .int .u32 ((n:Int)/4294967296)] 118)) (some ⟨w.heap.size,0,none⟩) 2 [n%4294967296,n/4294967296]:=
  OL.lit (a0b.elem .u32) hX (Nat.le_refl _) [.int .u32 ((n%4294967296:Nat):Int), .int .u32 ((n/4294967296:Nat):Int)] [n%4294967296,n/4294967296] _ (by simp[a0g,Value.cells]) rfl
   (fun i hi _=>by
            match i,hi with
            |0,_=>rfl
            |1,_=>rfl) (by simp)
 go_enter Tryz.func217,Tryz.ntmps217
 go_wp2_with fail
 refine(a1r X _ [n%4294967296,n/4294967296] _ _ (hO.sl (a0b.elem .u32)) (Dig.cons (by rw[a0Z];exact Nat.mod_lt _ (by decide)) (Dig.cons (by rw[a0Z];omega) Dig.nil)) (by simp) (by simp)).mono ?_;rintro e w' ⟨rfl,l',rfl,hl',hc,hs'⟩;go_wp2_with fail
 go_ret
 have hv:nv [n%4294967296,n/4294967296]=n:=by simp only[nv,a0Z];omega
 rw[hv]at hc;exact⟨(ExtX.refl w).alloc _,_,2,_,rfl,by simpa using hl',hc,hs'⟩
theorem a3V (x y c:Nat) (w:World) (hx:x<4294967296) (hy:y<4294967296) (hc:c<=1):
  Calls Tryz.prog 215 #[.int .u32 x, .int .u32 y, .int .u32 c] w fun e w'=>w=w'/\e= .returned (.tuple #[.int .u32 ((x+y+c)%4294967296:Nat), .int .u32 ((x+y+c)/4294967296:Nat)]):=by
 go_enter Tryz.func215,Tryz.ntmps215
 go_wp2
 go_ret2
 exact⟨rfl,by simp⟩
theorem b2X (X:Nat->Bool) (ao bo:Option Addr) (la lb:List Nat) (ca cb:Nat) (w:World) (hsa:Sl (a0b .u32) 1 (mk X w) ao la) (hsb:Sl (a0b .u32) 1 (mk X w) bo lb)
  (hda:Dig la) (hdb:Dig lb) (hla:la.length<=1099511627776) (hlb:lb.length<=1099511627776) (hca:la.length<=ca) (hcb:lb.length<=cb) (hX:∀k,X k=true->k<w.heap.size) (na nb:Nat) (hna:val la=na) (hnb:val lb=nb):
  Calls Tryz.prog 153 #[.slice ao la.length ca, .slice bo lb.length cb] w (a3H X w (na+nb)):=by
 go_enter Tryz.func153,Tryz.ntmps153
 go_wp2_with fail
 refine(a0W X _ _ _ _ hsa hda (by omega) hca).mono ?_;rintro e w' ⟨rfl,ao1,ca1,a,rfl,hca1,hal,hcan,hsa1⟩;go_wp2_with fail
 refine(a0W X _ _ _ _ hsb hdb (by omega) hcb).mono ?_;rintro e w' ⟨rfl,bo1,cb1,b,rfl,hcb1,hbl,hcbn,hsb1⟩;rw[hna]at hcan;rw[hnb]at hcbn;have hal':a.length<=1099511627776:=Nat.le_trans hal hla;have hbl':b.length<=1099511627776:=Nat.le_trans hbl hlb;clear hna hnb hal hbl hsa hsb hla hlb hca hcb
 go_upto_if 18 with(fail)
 go_cut [0,1] (fun s0 s1 wx=>wx=w/\∃ao bo a b ca cb,s0= .slice ao a.length ca/\s1= .slice bo b.length cb/\b.length<=a.length/\a.length<=1099511627776/\Sl (a0b .u32) 1 (mk X w) ao a/\Sl (a0b .u32) 1 (mk X w) bo b/\Dig a/\Dig b/\Hid (nv a+nv b=na+nb))
 case first=>
  go_wp2_with fail
  all_goals go_meet
  all_goals case rel=>first|exact⟨rfl,_,_,_,_,_,_,rfl,rfl,by omega,hbl',hsb1,hsa1,hcbn.1,hcan.1,hid (by rw[hcan.2.2,hcbn.2.2,Nat.add_comm])⟩|exact⟨rfl,_,_,_,_,_,_,rfl,rfl,by omega,hal',hsa1,hsb1,hcan.1,hcbn.1,hid (by rw[hcan.2.2,hcbn.2.2])⟩
 case rest=>
  clear hca1 hcan hsa1 hcb1 hcbn hsb1 hal' hbl' hda hdb;clear a b ao1 bo1 ca1 cb1 ao bo la lb ca cb;obtain⟨rfl,ao,bo,a,b,ca,cb,rfl,rfl,hab,hal,hsa,hsb,hda,hdb,hsum⟩:=hcut;have hha:=hsa.hd;have hhb:=hsb.hd;go_wp2_with (at_make;refine a1Z a0G (a0b.elem .u32) 0 (fun _=>rfl) X hX wc.heap.size (Nat.le_refl _) (a.length+1) rfl rfl (by omega) (by omega) (by omega) ?_;intro oo w1 hO hE1)
  go_loopw [6,27] (fun c i wr=>∃(k:Nat) (o:List Nat) (cy:Nat),i= .int .i64 k/\c= .int .u32 cy/\k<=a.length/\a3U a b o k cy/\OL (a0b .u32) 1 X wc.heap.size 118 wr oo (a.length+1) o/\Ext wc wr) (fun _ i _=>a.length - (intOf i).toNat)
  case atStart=>exact⟨0,_,0,rfl,rfl,by omega,a3U.start a b,hO,hE1⟩
  case round=>
   obtain⟨k,o,cy,rfl,rfl,hk,hinv,hOr,hEr⟩:=hrel;clear hO hE1;have hcy:=hinv.2.2.1;have hol:=hid hinv.1;have hho:Hd oo (a.length+1):=hol.out▸hOr.hd;by_cases hlt:k<a.length
   ·have hca:=(hsa.mono (a0b.mono _) (a0o hEr)).nat k hlt
    have hak:=hda.get k hlt;rw[a0Z]at hak;by_cases hkb:k<b.length
    ·have hcb:=(hsb.mono (a0b.mono _) (a0o hEr)).nat k hkb
     have hbk:=hdb.get k hkb;rw[a0Z]at hbk;have hst:=hinv.step hlt (.inl ⟨hkb,rfl⟩) hda hdb;go_wp2_with (first|(with_reducible refine a0t a0G (by omega) (by assumption) ?_)|(go_at_call 215;refine(a3V _ _ _ _ hak hbk hcy).mono ?_;rintro e w' ⟨rfl,rfl⟩)|((with_reducible show wpList _ _ _ (⟨_, .store _ _ _,_,_,_,_⟩::_) _ _);refine a2O a3e (a0b.elem .u32) k rfl (Nat.mul_one k).symm hOr (by rw[hol.out];omega) _ ((a[k]+b[k]+cy)%4294967296) rfl rfl ?_;intro w2 hO2 hE2))
     go_roundw
     case rel=>exact⟨k+1,_,_,by go_num,rfl,by omega,hst,hO2,hEr.own hOr (Nat.le_refl _) hE2⟩
     case measure=>simp[intOf];omega
    ·have hst:=hinv.step (y:=0) hlt (.inr ⟨by omega,rfl⟩) hda hdb
     go_wp2_with (first|(with_reducible refine a0t a0G (by omega) (by assumption) ?_)|(go_at_call 215;refine(a3V _ 0 _ _ hak (by omega) hcy).mono ?_;rintro e w' ⟨rfl,rfl⟩)|((with_reducible show wpList _ _ _ (⟨_, .store _ _ _,_,_,_,_⟩::_) _ _);refine a2O a3e (a0b.elem .u32) k rfl (Nat.mul_one k).symm hOr (by rw[hol.out];omega) _ ((a[k]+0+cy)%4294967296) rfl rfl ?_;intro w2 hO2 hE2))
     go_roundw
     case rel=>exact⟨k+1,_,_,by go_num,rfl,by omega,hst,hO2,hEr.own hOr (Nat.le_refl _) hE2⟩
     case measure=>simp[intOf];omega
   ·have hke:k=a.length:=by omega
    subst hke;have hdn:=hinv.done hab;go_wp2_with (first|(with_reducible refine a0t a0G (by omega) (by assumption) ?_)|((with_reducible show wpList _ _ _ (⟨_, .store _ _ _,_,_,_,_⟩::_) _ _);refine a2O a3e (a0b.elem .u32) a.length rfl (Nat.mul_one _).symm hOr (by rw[hol.out];omega) _ cy rfl rfl ?_;intro w2 hO2 hE2))
    obtain⟨hd1,hd2,hd3⟩:=hdn;have hd3':=hid hd3;have hs3:=hO2.sl (a0b.elem .u32);have hEE:=hEr.own hOr (Nat.le_refl _) hE2;rw[<-hd3];clear hd3;refine(a1r X _ _ _ _ hs3 hd1 (by rw[hd3'.out];omega) (by rw[hd3'.out];omega)).mono ?_;rintro e w' ⟨rfl,l',rfl,hl',hc,hs'⟩;go_wp2_with fail
    go_ret
    rw[hd2,hsum.out]at hc;exact⟨hEE,_,_,_,rfl,by have h1:=hol.out;have h2:=hl';(try simp only[List.length_set]at h2);omega,hc,hs'⟩
def a5A (w:World) (v:Int) (e:Ending) (w':World):Prop:=Ext w w'/\e= .returned (.int .i64 v)
theorem a2R (X:Nat->Bool) (ao bo:Option Addr) (la lb:List Nat) (ca cb:Nat) (w:World) (hsa:Sl (a0b .u32) 1 (mk X w) ao la) (hsb:Sl (a0b .u32) 1 (mk X w) bo lb)
  (hda:Dig la) (hdb:Dig lb) (hla:la.length<=1099511627776) (hlb:lb.length<=1099511627776) (hca:la.length<=ca) (hcb:lb.length<=cb) (na nb:Nat) (hna:val la=na) (hnb:val lb=nb):
  Calls Tryz.prog 155 #[.slice ao la.length ca, .slice bo lb.length cb] w (a5A w (a3a na nb)):=by
 go_enter Tryz.func155,Tryz.ntmps155
 go_wp2_with fail
 refine(a0W X _ _ _ _ hsa hda (by omega) hca).mono ?_;rintro e w' ⟨rfl,ao1,ca1,a,rfl,hca1,hal,hcan,hsa1⟩;go_wp2_with fail
 refine(a0W X _ _ _ _ hsb hdb (by omega) hcb).mono ?_;rintro e w' ⟨rfl,bo1,cb1,b,rfl,hcb1,hbl,hcbn,hsb1⟩;rw[hna]at hcan;rw[hnb]at hcbn;have hal':a.length<=1099511627776:=Nat.le_trans hal hla;have hbl':b.length<=1099511627776:=Nat.le_trans hbl hlb;clear hna hnb hal hbl hsa hsb hla hlb hca hcb;have hha:=hsa1.hd;have hhb:=hsb1.hd;by_cases hlt:a.length<b.length
 ·have hv:=hid (a3F hcan hcbn hlt)
  have hne:((a.length:Int) !=b.length)=true:=a7p (by omega);go_wp2_with fail
  go_ret
  exact⟨ExtX.refl _,a0I hv.out.symm⟩
 by_cases hgt:b.length<a.length
 ·have hv:=hid (a3G hcan hcbn hgt)
  have hne:((a.length:Int) !=b.length)=true:=a7p (by omega);go_wp2_with fail
  go_ret
  exact⟨ExtX.refl _,a0I hv.out.symm⟩
 have hne:((a.length:Int) !=b.length)=false:=a8S (by omega);have heq:Hid (a.length=b.length):=hid (by omega);have hbl:b.length<=a.length:=by omega
 have hab:a.length<=b.length:=by omega
 clear hlt hgt;go_wp2_with fail
 go_loopw [5] (fun i wr=>∃k:Nat,i= .int .i64 ((k:Int) - 1)/\k<=a.length/\Hid (a.drop k=b.drop k)/\Ext w wr) (fun i _=>(intOf i+1).toNat)
 case atStart=>exact⟨a.length,rfl,Nat.le_refl _,hid (by rw[List.drop_of_length_le (Nat.le_refl _),List.drop_of_length_le hbl]),ExtX.refl _⟩
 case round=>
  obtain⟨k,rfl,hk,hdr,hE⟩:=hrel;by_cases hlt:0<k
  ·have c1:=(hsa1.mono (a0b.mono _) (a0o hE)).nat (k - 1) (by omega)
   have c2:=(hsb1.mono (a0b.mono _) (a0o hE)).nat (k - 1) (by omega);have i1:∀W,(Instr.indexAt 28 (.slice ao1 a.length ca1) (.int .i64 ((k:Int) - 1))).run Tryz.prog W= .ok (.pointer (some (adr ao1 (k - 1)))) W:=a0z a0G ao1 a.length ca1 .i64 (k - 1) hha (by omega) (by omega);have i2:∀W,(Instr.indexAt 28 (.slice bo1 b.length cb1) (.int .i64 ((k:Int) - 1))).run Tryz.prog W= .ok (.pointer (some (adr bo1 (k - 1)))) W:=a0z a0G bo1 b.length cb1 .i64 (k - 1) hhb (by omega) (by omega);by_cases h1:a[k - 1]<b[k - 1]
   ·have hv:=hid (a5x hcan hcbn heq.out hlt hk hdr.out h1)
    have t1:((a[k - 1]:Int)<(b[k - 1]:Int)):=by omega
    go_wp2_with fail
    go_quiet (fail)
    go_wp2_with fail
    go_ret
    exact⟨hE.drewN _,a0I hv.out.symm⟩
   by_cases h2:b[k - 1]<a[k - 1]
   ·have hv:=hid (a5y hcan hcbn heq.out hlt hk hdr.out h2)
    go_wp2_with fail
    go_quiet (fail)
    go_wp2_with fail
    go_quiet (fail)
    go_wp2_with fail
    go_ret
    exact⟨(hE.drewN _).drewN _,a0I hv.out.symm⟩
   ·have hdr':=hid (a4B heq.out hlt hk hdr.out (by omega))
    go_wp2_with fail
    go_quiet (fail)
    go_wp2_with fail
    go_quiet (fail)
    go_wp2_with fail
    go_roundw
    case rel=>exact⟨k - 1,by go_num,by omega,hdr',hE.drewN _⟩
    case measure=>simp[intOf];omega
  ·have hv:=hid (a5z hcan hcbn (k:=k) (by omega) hdr.out)
   go_wp2_with fail
   go_ret
   exact⟨hE,a0I hv.out.symm⟩
theorem a9F (hi lo y:Nat) (w:World) (h1:hi<y) (h2:y<4294967296) (h3:lo<4294967296):
  Calls Tryz.prog 263 #[.int .u32 hi, .int .u32 lo, .int .u32 y] w (fun e w'=>Ext w w'/\e= .returned (.tuple #[.int .u32 ((hi*4294967296+lo)/y:Nat), .int .u32 ((hi*4294967296+lo)%y:Nat)])):=by
 have t1:((y:Int)==0)=false:=a3E (by omega);have t2:((y:Int) !=0)=true:=a7p (by omega);have hor:bits BinOp.or IntKind.u64 ((hi:Int)*4294967296) (lo:Int)=(hi:Int)*4294967296+lo:=by
  have e:=bits_or_u64_nat (hi*4294967296) lo (by omega) (by omega);have e2:=Nat.two_pow_add_eq_or_of_lt (i:=32) (b:=lo) (by omega) hi;rw[Nat.mul_comm]at e2;rw[<-e2]at e;simpa using e
 have hq:(hi*4294967296+lo)/y<4294967296:=by
  rw[Nat.div_lt_iff_lt_mul (by omega)];have:(hi+1)*4294967296<=y*4294967296:=Nat.mul_le_mul_right _ h1;rw[Nat.mul_comm 4294967296 y];omega
 have hr:(hi*4294967296+lo)%y<y:=Nat.mod_lt _ (by omega);have hq':=hid hq;have hr':=hid hr;clear hq hr;go_enter Tryz.func263,Tryz.ntmps263
 go_wp2_with fail
 go_quiet (fail)
 go_wp2_with fail
 go_ret2
 refine⟨(ExtX.refl _).drewN _,?_⟩;have e1:(((hi*4294967296+lo)/y:Nat):Int)%4294967296=(((hi*4294967296+lo)/y:Nat):Int):=a5t _ hq'.out;have e2:(((hi*4294967296+lo)%y:Nat):Int)%4294967296=(((hi*4294967296+lo)%y:Nat):Int):=a5t _ (Nat.lt_trans hr'.out h2);simp only[Int.natCast_ediv,Int.natCast_emod,Int.natCast_add,Int.natCast_mul,Int.cast_ofNat_Int]at e1 e2 |-;simp[e1,e2]
def b1d (X:Nat->Bool) (w:World) (q r:Nat) (e:Ending) (w':World):Prop:=
 Ext w w'/\∃ao cap l,e= .returned (.tuple #[.slice ao l.length cap, .int .u32 r])/\l.length<=cap/\a0A l q/\Sl (a0b .u32) 1 (mk X w') ao l
theorem a9G (X:Nat->Bool) (ao:Option Addr) (l:List Nat) (cap d:Nat) (w:World) (hs:Sl (a0b .u32) 1 (mk X w) ao l) (hd:Dig l) (hl:l.length<=1099511627776) (hX:∀k,X k=true->k<w.heap.size) (h0:0<d) (h1:d<4294967296):
  Calls Tryz.prog 253 #[.slice ao l.length cap, .int .u32 d] w (b1d X w (nv l/d) (nv l%d)):=by
 have hh:=hs.hd;go_enter Tryz.func253,Tryz.ntmps253
 go_wp2_with (at_make;refine a1Z a0G (a0b.elem .u32) 0 (fun _=>rfl) X hX w.heap.size (Nat.le_refl _) l.length rfl rfl (by omega) (by omega) (by omega) ?_;intro oo w1 hO hE1)
 go_loopw [5,6] (fun c i wr=>∃(k:Nat) (q:List Nat) (r:Nat),i= .int .i64 ((k:Int) - 1)/\c= .int .u32 r/\k<=l.length/\a2o l q d k r/\OL (a0b .u32) 1 X w.heap.size 118 wr oo l.length q/\Ext w wr) (fun _ i _=>(intOf i+1).toNat)
 case atStart=>exact⟨l.length,_,0,rfl,rfl,by omega,a2o.start l d h0,hO,hE1⟩
 case round=>
  obtain⟨k,q,r,rfl,rfl,hk,hinv,hOr,hEr⟩:=hrel;clear hO hE1;have hql:=hid hinv.1;have hrd:=hinv.2.2.1;have hho:Hd oo l.length:=hql.out▸hOr.hd;by_cases hlt:0<k
  ·have hc:=(hs.mono (a0b.mono _) (a0o hEr)).nat (k - 1) (by omega)
   have hak:=hd.get (k - 1) (by omega);rw[a0Z]at hak;have hst:=hinv.step hlt hk hd;go_wp2_with (first|(with_reducible refine a0t a0G (by omega) (by assumption) ?_)|(go_at_call 263;refine(a9F r l[k - 1] d _ hrd h1 hak).mono ?_;rintro e w2 ⟨hE2,rfl⟩;have hO2:=hOr.ext0 (a0b.elem _) hE2)|((with_reducible show wpList _ _ _ (⟨_, .store _ _ _,_,_,_,_⟩::_) _ _);refine a0J a3e (k - 1) ((r*4294967296+l[k - 1])/d) rfl (by omega) hO2 (by rw[hql.out];omega) rfl (by simp) ?_;intro w3 hO3 hE3))
   go_roundw
   case rel=>exact⟨k - 1,_,_,by go_num,by simp,by omega,hst,hO3,(hEr.trans hE2).own hO2 (Nat.le_refl _) hE3⟩
   case measure=>simp[intOf];omega
  ·obtain rfl:k=0:=by omega
   obtain⟨hd1,hd2⟩:=hinv.done;have hd1':=hid hd1;have hd2':=hid hd2;have hqd:=hinv.2.1;have hs3:=hOr.sl (a0b.elem .u32);clear hd1 hd2;go_wp2_with fail
   rw[<-hql.out];refine(a1r X _ _ _ _ hs3 hqd (by rw[hql.out];omega) (by omega)).mono ?_;rintro e w' ⟨rfl,l',rfl,hl',hc,hs'⟩;go_wp2_with fail
   go_ret2
   rw[hd1'.out]at hc;exact⟨hEr,_,_,_,by rw[<-hd2'.out];rfl,hl',hc,hs'⟩
set_option maxRecDepth 100000 in
theorem b2Y (X:Nat->Bool) (ao bo:Option Addr) (la lb:List Nat) (ca cb:Nat) (w:World) (hsa:Sl (a0b .u32) 1 (mk X w) ao la) (hsb:Sl (a0b .u32) 1 (mk X w) bo lb)
  (hda:Dig la) (hdb:Dig lb) (hla:la.length<=1099511627776) (hlb:lb.length<=1099511627776) (hca:la.length<=ca) (hcb:lb.length<=cb) (hX:∀k,X k=true->k<w.heap.size) (na nb:Nat) (hna:val la=na) (hnb:val lb=nb):
  Calls Tryz.prog 212 #[.slice ao la.length ca, .slice bo lb.length cb] w (a3H X w (na*nb)):=by
 go_enter Tryz.func212,Tryz.ntmps212
 go_wp2_with fail
 refine(a0W X _ _ _ _ hsa hda (by omega) hca).mono ?_;rintro e w' ⟨rfl,ao1,ca1,a,rfl,hca1,hal,hcan,hsa1⟩;go_wp2_with fail
 refine(a0W X _ _ _ _ hsb hdb (by omega) hcb).mono ?_;rintro e w' ⟨rfl,bo1,cb1,b,rfl,hcb1,hbl,hcbn,hsb1⟩;rw[hna]at hcan;rw[hnb]at hcbn;have hal':a.length<=1099511627776:=Nat.le_trans hal hla;have hbl':b.length<=1099511627776:=Nat.le_trans hbl hlb;have hsum:Hid (nv a*nv b=na*nb):=hid (by rw[hcan.2.2,hcbn.2.2]);have hda1:=hcan.1;have hdb1:=hcbn.1;clear hna hnb hal hbl hsa hsb hla hlb hca hcb hcan hcbn hda hdb;have hha:=hsa1.hd;have hhb:=hsb1.hd;go_wp2_with (at_make;refine a1Z a0G (a0b.elem .u32) 0 (fun _=>rfl) X hX w.heap.size (Nat.le_refl _) (a.length+b.length) rfl rfl (by omega) (by omega) (by omega) ?_;intro oo w1 hO hE1)
 go_loopw [23] (fun i wr=>∃(k:Nat) (o:List Nat),i= .int .i64 k/\k<=a.length/\a2m a b o k 0 0/\OL (a0b .u32) 1 X w.heap.size 118 wr oo (a.length+b.length) o/\Ext w wr) (fun i _=>a.length - (intOf i).toNat)
 case atStart=>exact⟨0,_,rfl,by omega,a2m.start a b,hO,hE1⟩
 case round=>
  obtain⟨k,o,rfl,hk,hinv,hOr,hEr⟩:=hrel;clear hO hE1;have hol:=hid hinv.1;by_cases hlt:k<a.length
  ·have hca:=(hsa1.mono (a0b.mono _) (a0o hEr)).nat k hlt
   have hak:=hda1.get k hlt;rw[a0Z]at hak;obtain⟨x,hx⟩:∃x,a[k]=x:=⟨_,rfl⟩;rw[hx]at hca hak;have hx':=hid hx;clear hx;obtain⟨wo,rfl⟩:∃wo:World,wo=wr:=⟨_,rfl⟩;go_wp2_with (with_reducible refine a0t a0G (by omega) (by assumption) ?_)
   go_loopw [8,30] (fun c j wr=>∃(m:Nat) (o:List Nat) (cy:Nat),j= .int .i64 m/\c= .int .u64 cy/\m<=b.length/\a2m a b o k m cy/\OL (a0b .u32) 1 X w.heap.size 118 wr oo (a.length+b.length) o/\Ext w wr) (fun _ j _=>b.length - (intOf j).toNat)
   case atStart=>exact⟨0,o,0,rfl,rfl,by omega,hinv,hOr,hEr⟩
   case round=>
    clear hinv hOr hEr hol hca;clear o;obtain⟨m,o,cy,rfl,rfl,hm,hinv,hOr,hEr⟩:=hrel;have hol:=hid hinv.1;have hho:Hd oo (a.length+b.length):=hol.out▸hOr.hd;have hcy:=hinv.2.2.1;rw[a0Z]at hcy;by_cases hmt:m<b.length
    ·have hcb:=(hsb1.mono (a0b.mono _) (a0o hEr)).nat m hmt
     have hij:k+m<o.length:=by rw[hol.out];omega
     have hoc:=(hOr.sl (a0b.elem _)).nat (k+m) hij;have hbk:=hdb1.get m hmt;have hok:=hinv.2.1.get (k+m) hij;rw[a0Z]at hbk hok;obtain⟨y,hy⟩:∃y,b[m]=y:=⟨_,rfl⟩;obtain⟨z,hz⟩:∃z,o[k+m]=z:=⟨_,rfl⟩;obtain⟨hst,hb1⟩:=hinv.step' hlt hmt hda1 hdb1 hij hx'.out hy hz;rw[hy]at hcb hbk;rw[hz]at hoc hok;clear hy hz;have hx0:(0:Int)<=(x:Int)*(y:Int):=Int.mul_nonneg (by omega) (by omega);have hx3:(cy:Int)+((x:Int)*(y:Int)+(z:Int))<18446744073709551616:=by rw[<-Int.natCast_mul];omega
     have hw1:IntKind.u64.wrap ((x:Int)*(y:Int))=(x:Int)*(y:Int):=IntWalk.u64_in _ (by omega);have hw2:IntKind.u64.wrap ((x:Int)*(y:Int)+(z:Int))=(x:Int)*(y:Int)+(z:Int):=IntWalk.u64_in _ (by omega);have hw3:IntKind.u64.wrap ((cy:Int)+((x:Int)*(y:Int)+(z:Int)))=(cy:Int)+((x:Int)*(y:Int)+(z:Int)):=IntWalk.u64_in _ (by omega);clear hb1 hx3 hx0;have hoc2:wr.cell? (adr oo ((k:Int)+(m:Int)).toNat)=some (.int .u32 z):=hoc;go_wp2_with (first|(with_reducible refine a0t a0G (by omega) (by assumption) ?_)|((with_reducible show wpList _ _ _ (⟨_, .store _ _ _,_,_,_,_⟩::_) _ _);refine a0J a3e (k+m) ((cy+(x*y+z))%4294967296) rfl (by omega) hOr hij rfl (by simp) ?_;intro w3 hO3 hE3))
     go_roundw
     case rel=>exact⟨m+1,_,_,by go_num,by simp,by omega,hst,hO3,hEr.own hOr (Nat.le_refl _) hE3⟩
     case measure=>simp[intOf];omega
    ·have hme:m=b.length:=by omega
     subst hme;have hst:=hinv.row hlt;have hij:k+b.length<o.length:=by rw[hol.out];omega
     go_wp2_with (first|(with_reducible refine a0t a0G (by omega) (by assumption) ?_)|((with_reducible show wpList _ _ _ (⟨_, .store _ _ _,_,_,_,_⟩::_) _ _);refine a0J a3e (k+b.length) cy rfl (by omega) hOr hij rfl (by omega) ?_;intro w3 hO3 hE3))
     go_roundw
     case rel=>exact⟨k+1,_,by go_num,by omega,hst,hO3,hEr.own hOr (Nat.le_refl _) hE3⟩
     case measure=>simp[intOf];omega
  ·have hke:k=a.length:=by omega
   subst hke;have hdn:=hinv.done rfl;have hod:=hinv.2.1;have hs3:=hOr.sl (a0b.elem .u32);have hdn':=hid hdn;clear hdn;go_wp2_with fail
   rw[<-hol.out];refine(a1r X _ _ _ _ hs3 hod (by rw[hol.out];omega) (by omega)).mono ?_;rintro e w' ⟨rfl,l',rfl,hl',hc,hs'⟩;go_wp2_with fail
   go_ret
   rw[hdn'.out,hsum.out]at hc;exact⟨hEr,_,_,_,rfl,hl',hc,hs'⟩
theorem a4X (X:Nat->Bool) (ao:Option Addr) (l:List Nat) (cap:Nat) (w:World) (n:Nat) (hs:Sl (a0b .u32) 1 (mk X w) ao l) (hc:a0A l n) (hl:l.length<=4398046511104) (hX:∀k,X k=true->k<w.heap.size):
  Calls Tryz.prog 252 #[.slice ao l.length cap] w (a3H X w n):=by
 have hnil:=fun wx=>Lib.run_eql_slice_nil (P:=Tryz.prog) wx 28 118 ao l.length cap 0 0 Tryz.underlying28;cases ao with
 |none=>
  have hl0:l= []:=by
   cases l with
   |nil=>rfl
   |cons x l=>obtain⟨b,o,h⟩:=hs.1 (by simp);simp at h
  subst hl0;simp only[List.length_nil,Option.isNone_none]at hnil |-;go_enter Tryz.func252,Tryz.ntmps252
  go_wp2_with fail
  go_ret
  exact⟨ExtX.refl _,none,0,[],rfl,by simp,hc,Sl.nil _ _ _ _⟩
 |some ad=>
  have hO:OL (a0b .u32) 1 X w.heap.size 118 (w.alloc (.cells #[] 118)) (some ⟨w.heap.size,0,none⟩) 0 []:=
   OL.lit (a0b.elem .u32) hX (Nat.le_refl _) [] [] _ rfl rfl (fun i hi=>by simp at hi) (by simp)
  have hs2:=hs.mono (a0b.mono _) (b4w X w (.cells #[] 118));have hX2:∀k,X k=true->k<(w.alloc (.cells #[] 118)).heap.size:=fun k hk=>by have:=hX k hk;simp;omega
  go_enter Tryz.func252,Tryz.ntmps252
  go_wp2_with (at_builtin;refine a5v (l:=[]) a0G rfl (a0b.elem .u32) (by simp) hX2 l rfl rfl hO hs2 (by simp;omega) (by simp;omega) ?_;intro ao2 cap2 w2 hO2 hE2 _)
  go_ret
  exact⟨((ExtX.refl w).alloc _).own hO (Nat.le_refl _) hE2,_,_,l,rfl,by have:=hO2.lenCap;simpa using this,hc,by simpa using hO2.sl (a0b.elem _)⟩
def b2r (X:Nat->Bool) (w:World) (q r:Nat) (e:Ending) (w':World):Prop:=
 Ext w w'/\∃ao cap l bo cbp m,e= .returned (.tuple #[.slice ao l.length cap, .slice bo m.length cbp, .bool true])/\l.length<=cap/\a0A l q/\Sl (a0b .u32) 1 (mk X w') ao l/\m.length<=cbp/\a0A m r/\Sl (a0b .u32) 1 (mk X w') bo m
theorem b1e (X:Nat->Bool) (ao bo:Option Addr) (la lb:List Nat) (ca cb:Nat) (w:World) (hsa:Sl (a0b .u32) 1 (mk X w) ao la) (hsb:Sl (a0b .u32) 1 (mk X w) bo lb)
  (hda:Dig la) (hdb:Dig lb) (hla:la.length<=1099511627776) (hlb:lb.length<=1099511627776) (hca:la.length<=ca) (hcb:lb.length<=cb) (hX:∀k,X k=true->k<w.heap.size) (na nb:Nat) (hna:val la=na) (hnb:val lb=nb)
  (h0:0<nb) (h1:nb<4294967296):
  Calls Tryz.prog 218 #[.slice ao la.length ca, .slice bo lb.length cb] w (b2r X w (na/nb) (na%nb)):=by
 go_enter Tryz.func218,Tryz.ntmps218
 go_wp2_with fail
 refine(a0W X _ _ _ _ hsa hda (by omega) hca).mono ?_;rintro e w' ⟨rfl,ao1,ca1,a,rfl,hca1,hal,hcan,hsa1⟩;go_wp2_with fail
 refine(a0W X _ _ _ _ hsb hdb (by omega) hcb).mono ?_;rintro e w' ⟨rfl,bo1,cb1,b,rfl,hcb1,hbl,hcbn,hsb1⟩;rw[hna]at hcan;rw[hnb]at hcbn;have hb1:=a9D hcbn h0 h1;subst hb1;have hal':a.length<=1099511627776:=Nat.le_trans hal hla;have hva:=hid hcan.val;have hvb:=hid hcbn.val;have hdb1:=hcbn.1;have hda1:=hcan.1;clear hna hnb hal hbl hsa hsb hla hlb hca hcb;have hha:=hsa1.hd;have hhb:=hsb1.hd;simp only[List.length_cons,List.length_nil,Nat.zero_add]at hhb hcb1 |-;go_wp2_with fail
 refine(a2R X ao1 bo1 a [nb] ca1 cb1 w hsa1 hsb1 hda1 hdb1 hal' (by simp) hca1 hcb1 na nb hva.out hvb.out).mono ?_;rintro e w2 ⟨hE2,rfl⟩;have hsa2:=hsa1.mono (a0b.mono _) (a0o hE2);have hsb2:=hsb1.mono (a0b.mono _) (a0o hE2);have hX2:∀k,X k=true->k<w2.heap.size:=fun k hk=>Nat.lt_of_lt_of_le (hX k hk) hE2.size;by_cases hlt:na<nb
 ·have hcl:a3a na nb<0:=(a3g na nb).2 hlt
  have hq:=hid (Nat.div_eq_of_lt hlt);have hr:=hid (Nat.mod_eq_of_lt hlt);generalize a3a na nb=c at hcl;go_wp2_with fail
  refine(a4X X _ _ _ _ na hsa2 hcan (by omega) hX2).mono ?_;rintro e w3 ⟨hE3,ao3,ca3,l3,rfl,hc3,hcan3,hs3⟩;go_wp2_with fail
  go_ret3
  refine⟨hE2.trans hE3,none,0,[],ao3,ca3,l3,rfl,by simp,?_,Sl.nil _ _ _ _,hc3,?_,hs3⟩
  ·rw[hq.out];exact a0A.nil
  ·rw[hr.out];exact hcan3
 ·have hcl:¬a3a na nb<0:=fun h=>hlt ((a3g na nb).1 h)
  generalize a3a na nb=c at hcl;have hcell:=hsb2.nat 0 (by simp);simp only[List.getElem_cons_zero]at hcell;go_wp2_with (with_reducible refine a0t a0G (by omega) (by assumption) ?_)
  refine(a9G X ao1 a ca1 nb w2 hsa2 hda1 hal' hX2 h0 h1).mono ?_;rintro e w3 ⟨hE3,ao3,ca3,l3,rfl,hc3,hcan3,hs3⟩;have hX3:∀k,X k=true->k<w3.heap.size:=fun k hk=>Nat.lt_of_lt_of_le (hX2 k hk) hE3.size;have hrl:nv a%nb<nb:=Nat.mod_lt _ h0;obtain⟨r,hr⟩:∃r,nv a%nb=r:=⟨_,rfl⟩;rw[hr]at hrl |-;have hr':=hid hr;clear hr;go_wp2_with fail
  refine(a3h X r _ (by omega) hX3).mono ?_;rintro e w4 ⟨hE4,bo4,cb4,l4,rfl,hc4,hcan4,hs4⟩;go_wp2_with fail
  go_ret3
  have hs3':=hs3.mono (a0b.mono _) (a0o hE4);have hnv:=hcan.2.2;rw[hnv]at hcan3;have hr2:=hr'.out;rw[hnv]at hr2;rw[<-hr2]at hcan4;exact⟨(hE2.trans hE3).trans hE4,ao3,ca3,l3,bo4,cb4,l4,rfl,hc3,hcan3,hs3',hc4,hcan4,hs4⟩
end Go.Proofs.YtkddecjkfdogiaaGreat
