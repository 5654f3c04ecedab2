/- Parts of a proof: each theorem states what it proves, and its conditions. -/
import Derived.Test.YtjmnhbebpffoaaaGreatIwB
import Derived.Laws.Bits64b
import Derived.BigQuiet
import Derived.Lib.BitFns
import Derived.StillTailTactics
import Derived.Lib.Strings
import Derived.Lib.Slices
import Derived.Lib.Small
import Derived.Lib.Walk
set_option maxRecDepth 100000
set_option maxHeartbeats 4000000
namespace Go.Proofs.YtjmnhbebpffoaaaGreat
open Go.RowKit
theorem a2e{l:List Nat}(h:Dig l)(k:Nat):nv (l.take k)<B^k:=by
 refine c1C (a4Q (h.take k)) (Nat.pow_le_pow_right a2B ?_);simp;omega
theorem a7J{l:List Nat}{k:Nat}(h:nv l<B^k):nv (l.take k)=nv l:=by
 by_cases d:k<=l.length
 ·have b:=a2t l k d
  have c:nv (l.drop k)=0:=by
   by_cases a:nv (l.drop k)=0
   ·exact a
   ·have:B^k*1<=B^k*nv (l.drop k):=Nat.mul_le_mul_left _ (by omega)
    omega
  rw[c]at b;omega
 ·rw[c1D (by omega)]
theorem a0B{l:List Nat}{i:Nat}(h:i<l.length):l.getD i 0=l[i]:=by simp[List.getD,h]
theorem a4p{l:List Nat}{i:Nat}(h:l.length<=i):l.getD i 0=0:=by simp[List.getD,h]
def a4H(x y c:Nat):Nat:=(x+4294967296 - y - c)%4294967296
def a6w(x y c:Nat):Nat:=if x<y+c then 1 else 0
theorem a9w{x y c:Nat}(b:x<B)(d:y<B)(a:c<=1):a4H x y c+y+c=x+B*a6w x y c/\a4H x y c<B/\a6w x y c<=1:=by
 rw[a1t]at*;unfold a4H a6w;split<;>omega
def a4W(a b o:List Nat)(i c:Nat):Prop:=o.length=a.length/\Dig o/\c<=1/\nv (o.take i)+nv (b.take i)=nv (a.take i)+B^i*c
theorem a4W.start(a b:List Nat):a4W a b (List.replicate a.length 0) 0 0:=⟨by simp,Dig.zeros _,by omega,by simp[nv]⟩
theorem a4W.step{a b o:List Nat}{i c x y:Nat}(h:a4W a b o i c)(g:i<a.length)(j:a[i]=x)(k:b.getD i 0=y)(u:Dig a)(v:Dig b):a4W a b (o.set i (a4H x y c)) (i+1) (a6w x y c):=by
 obtain⟨r,s,t,w⟩:=h;have e:=u.get i g;have f:=v.getD i;rw[j]at e;rw[k]at f;obtain⟨m,n,p⟩:=a9w e f t;refine⟨by simpa using r,s.set _ _ n,p,?_⟩;rw[a1F o i _ (by omega),a2i,a0F a i g,a1o,j,k,List.length_take,Nat.min_eq_left (by omega),Nat.pow_succ];generalize a4H x y c=d at*;generalize a6w x y c=l at*;have q:B^i*(d+y+c)=B^i*(x+B*l):=by rw[m]
 rw[Nat.mul_add,Nat.mul_add,Nat.mul_add]at q;rw[Nat.mul_assoc];omega
theorem a4W.done{a b o:List Nat}{c:Nat}(h:a4W a b o a.length c)(d:b.length<=a.length)(l:nv b<=nv a):nv o=nv a - nv b:=by
 obtain⟨e,g,m,i⟩:=h;rw[c1D (Nat.le_of_eq e),c1D d,c1D (c1B _)]at i;have j:=a4Q g;rw[e]at j;have k:c=0:=by
  by_cases f:c=0
  ·exact f
  ·have:c=1:=by omega
   subst this;omega
 subst k;omega
def a4X(W V:List Nat)(x:Nat)(o:List Nat)(k cy bo:Nat):Prop:=
 o.length=W.length/\Dig o/\o.drop k=W.drop k/\bo<=1/\cy<B/\(∃L,L<B^k/\x*nv (V.take k)=L+B^k*cy)/\nv (o.take k)+x*nv (V.take k)=nv (W.take k)+B^k*(cy+bo)
theorem a4X.start{W V:List Nat}{x:Nat}(a:Dig W):a4X W V x W 0 0 0:=⟨rfl,a,rfl,by omega,a2B,⟨0,by simp,by simp[nv]⟩,by simp[nv]⟩
theorem a4X.step{W V o:List Nat}{x k a f y z:Nat}(h:a4X W V x o k a f)(K:k<W.length)(v:V.getD k 0=y)(hz:o.getD k 0=z)(J:Dig V)(M:x<B):a4X W V x (o.set k (a4H z ((a+x*y)%4294967296) f)) (k+1) ((a+x*y)/4294967296) (a6w z ((a+x*y)%4294967296) f)/\a+x*y<18446744073709551616/\z<4294967296:=by
 obtain⟨F,s,t,G,u,⟨L,N,H⟩,I⟩:=h;have m:=J.getD k;rw[v]at m;have b:=s.getD k;rw[hz]at b;have p:W[k]=z:=by
  have q:(o.drop k)[0]'(by simp;omega)=(W.drop k)[0]'(by simp;omega):=by simp only[t]
  simp at q;rw[<-q,<-hz,a0B (by omega)]
 have O:x*y<=4294967295*4294967295:=Nat.mul_le_mul (by rw[a1t]at M;omega) (by rw[a1t]at m;omega);obtain⟨lo,e⟩:=c1F ((a+x*y)%4294967296);obtain⟨l,i⟩:=c1F ((a+x*y)/4294967296);have n:B*l+lo=a+x*y:=by rw[<-e,<-i,a1t];exact Nat.div_add_mod _ _
 have c:lo<B:=by rw[<-e,a1t];exact Nat.mod_lt _ (by decide)
 have j:l<B:=by rw[a1t]at u |-;omega
 rw[e,i];obtain⟨A,C,D⟩:=a9w b c G;have g:nv (V.take (k+1))=nv (V.take k)+B^k*y:=by rw[a1o,v]
 have e5:B^k*(B*l+lo)=B^k*(a+x*y):=by rw[n]
 rw[Nat.mul_add,Nat.mul_add]at e5;have r:x*(nv (V.take k)+B^k*y)=x*nv (V.take k)+B^k*(x*y):=by rw[Nat.mul_add,Nat.mul_left_comm]
 refine⟨⟨by simpa using F,s.set _ _ C,?_,D,j,⟨L+B^k*lo,?_,?_⟩,?_⟩,by rw[a1t]at u;omega,by rw[a1t]at b;exact b⟩
 ·rw[List.drop_set_of_lt (by omega)]
  have:(o.drop k).drop 1=(W.drop k).drop 1:=by rw[t]
  simpa using this
 ·rw[Nat.pow_succ]
  have:B^k*lo+B^k<=B^k*B:=by rw[<-Nat.mul_succ];exact Nat.mul_le_mul_left _ c
  omega
 ·rw[g,r,H,Nat.pow_succ,Nat.mul_assoc];omega
 ·rw[a1F o k _ (by omega),a2i,a0F W k K,p,g,r,List.length_take,Nat.min_eq_left (by omega),Nat.pow_succ,Nat.mul_assoc,Nat.mul_add]
  rw[Nat.mul_add]at I;generalize a4H z lo f=d at*;generalize a6w z lo f=w at*;have E:B^k*(d+lo+f)=B^k*(z+B*w):=by rw[A]
  rw[Nat.mul_add,Nat.mul_add,Nat.mul_add]at E;rw[Nat.mul_add];omega
theorem a4X.done{W V o:List Nat}{x d a n:Nat}(h:a4X W V x o W.length d a)(k:W.length=n+1)(q:V.length=n)(e:Dig V)(r:x<B):o.length=n+1/\Dig o/\((a=0/\nv o+x*nv V=nv W)\/(a=1/\nv W<x*nv V/\nv o+x*nv V=nv W+B^(n+1))):=by
 obtain⟨m,i,t,u,v,⟨L,p,j⟩,b⟩:=h;have c:=a4Q e;rw[q]at c;have g:=a4Q i;rw[m,k]at g;rw[c1D (by omega)]at j;rw[c1D (by omega),c1D (by omega),c1D (c1B _)]at b;rw[k]at p j b;have s:x*nv V<B^(n+1):=by
  rw[Nat.pow_succ,Nat.mul_comm (B^n)];exact Nat.lt_of_le_of_lt (Nat.mul_le_mul_right _ (Nat.le_of_lt r)) (Nat.mul_lt_mul_of_pos_left c a2B)
 have f:d=0:=by
  by_cases l:d=0
  ·exact l
  ·have:B^(n+1)*1<=B^(n+1)*d:=Nat.mul_le_mul_left _ (by omega)
   omega
 subst f;refine⟨by omega,i,?_⟩;rcases(show a=0\/a=1 by omega)with rfl|rfl
 ·left;exact⟨rfl,by simpa using b⟩
 ·right
  rw[Nat.zero_add,Nat.mul_one]at b;exact⟨rfl,by omega,b⟩
def a4Y(W V:List Nat)(o:List Nat)(k c:Nat):Prop:=
 o.length=W.length/\Dig o/\o.drop k=W.drop k/\c<=1/\nv (o.take k)+B^k*c=nv (W.take k)+nv (V.take k)
theorem a4Y.start{W V:List Nat}(a:Dig W):a4Y W V W 0 0:=⟨rfl,a,rfl,by omega,by simp[nv]⟩
theorem a4Y.step{W V o:List Nat}{k c y z:Nat}(h:a4Y W V o k c)(n:k<W.length)(j:V.getD k 0=y)(hz:o.getD k 0=z)(m:Dig V):a4Y W V (o.set k ((z+y+c)%4294967296)) (k+1) ((z+y+c)/4294967296)/\z<4294967296:=by
 obtain⟨l,g,i,q,r⟩:=h;have b:=m.getD k;rw[j,a1t]at b;have a:=g.getD k;rw[hz,a1t]at a;have d:W[k]=z:=by
  have f:(o.drop k)[0]'(by simp;omega)=(W.drop k)[0]'(by simp;omega):=by simp only[i]
  simp at f;rw[<-f,<-hz,a0B (by omega)]
 refine⟨⟨by simpa using l,g.set _ _ (by rw[a1t];exact Nat.mod_lt _ (by decide)),?_,by omega,?_⟩,a⟩
 ·rw[List.drop_set_of_lt (by omega)]
  have:(o.drop k).drop 1=(W.drop k).drop 1:=by rw[i]
  simpa using this
 ·rw[a1F o k _ (by omega),a2i,a0F W k n,d,a1o,j,List.length_take,Nat.min_eq_left (by omega),Nat.pow_succ,Nat.mul_assoc]
  have e:(z+y+c)%4294967296+B*((z+y+c)/4294967296)=z+y+c:=by rw[a1t];omega
  have p:B^k*((z+y+c)%4294967296)+B^k*(B*((z+y+c)/4294967296))=B^k*z+B^k*y+B^k*c:=by rw[<-Nat.mul_add,e,Nat.mul_add,Nat.mul_add]
  omega
theorem a4Y.done{W V o:List Nat}{c n:Nat}(h:a4Y W V o W.length c)(e:W.length=n+1)(i:V.length=n):o.length=n+1/\Dig o/\c<=1/\nv o+B^(n+1)*c=nv W+nv V:=by
 obtain⟨f,b,g,d,a⟩:=h;rw[c1D (by omega),c1D (c1B _),c1D (by omega),e]at a;exact⟨by omega,b,d,a⟩
def a7K(a o:List Nat)(s k:Nat):Prop:=o.length=a.length+1/\Dig o/\(∀p,k<p->o.getD p 0=0)/\o.getD k 0<2^s/\nv (o.take (k+1))=nv (a.take k)*2^s
theorem a7K.start(a:List Nat)(s:Nat):a7K a (List.replicate (a.length+1) 0) s 0:=
 ⟨by simp,Dig.zeros _,fun p _=>by by_cases h:p<a.length+1<;>simp[List.getD,h],by simp[List.getD];exact Nat.two_pow_pos _,by rw[a1o];simp[nv,List.getD]⟩
theorem b4G{lo x s:Nat}(a:lo<2^s)(b:s<32):lo|||(x*2^s)%4294967296=lo+(x*2^s)%4294967296:=by
 have e:(x*2^s)%4294967296=2^s*(x%2^(32 - s)):=by
  rw[show(4294967296:Nat)=2^s*2^(32 - s)by rw[<-Nat.pow_add,show s+(32 - s)=32 by omega],Nat.mul_comm x,Nat.mul_mod_mul_left]
 rw[e,Nat.or_comm,<-Nat.two_pow_add_eq_or_of_lt a,Nat.add_comm]
theorem a7K.step{a o:List Nat}{s k x lo:Nat}(h:a7K a o s k)(n:k<a.length)(r:a[k]=x)(f:o.getD k 0=lo)(w:Dig a)(y:s<32):a7K a ((o.set k (lo|||(x*2^s)%4294967296)).set (k+1) (x*2^s/4294967296)) s (k+1)/\(lo|||(x*2^s)%4294967296)<4294967296/\x*2^s<18446744073709551616/\x*2^s/4294967296<4294967296:=by
 obtain⟨l,t,u,m,v⟩:=h;have c:=w.get k n;rw[r,a1t]at c;rw[f]at m;rw[b4G m y];have q:(2:Nat)^s<=2^31:=Nat.pow_le_pow_right (by omega) (by omega);have d:x*2^s/4294967296<2^s:=Nat.div_lt_of_lt_mul (Nat.mul_lt_mul_of_pos_right c (Nat.two_pow_pos _));have b:lo+(x*2^s)%4294967296<4294967296:=by
  have e:(x*2^s)%4294967296=2^s*(x%2^(32 - s)):=by
   rw[show(4294967296:Nat)=2^s*2^(32 - s)by rw[<-Nat.pow_add,show s+(32 - s)=32 by omega],Nat.mul_comm x,Nat.mul_mod_mul_left]
  have j:x%2^(32 - s)<2^(32 - s):=Nat.mod_lt _ (Nat.two_pow_pos _);have z:2^s*(x%2^(32 - s))+2^s<=2^s*2^(32 - s):=by rw[<-Nat.mul_succ];exact Nat.mul_le_mul_left _ j
  have A:2^s*2^(32 - s)=4294967296:=by rw[<-Nat.pow_add,show s+(32 - s)=32 by omega]
  omega
 have i:x*2^s<18446744073709551616:=by
  have:x*2^s<=x*2^31:=Nat.mul_le_mul_left _ q;omega
 refine⟨⟨by simpa using l,(t.set _ _ (by rw[a1t];exact b)).set _ _ (by rw[a1t];omega),fun p q=>?_,?_,?_⟩,b,i,by omega⟩
 ·have:=u p (by omega)
  simp only[List.getD_eq_getElem?_getD]at this |-;rw[List.getElem?_set_ne (by omega),List.getElem?_set_ne (by omega)];exact this
 ·rw[a0B (by simp;omega),List.getElem_set_self];exact d
 ·rw[a1F _ _ _ (by simp;omega),a2i,a1F _ _ _ (by omega),a2i]
  simp only[List.length_append,List.length_take,List.length_singleton,l];rw[Nat.min_eq_left (by omega),a0F a k n,r,Nat.add_mul];rw[a1o,f]at v;have e:=Nat.div_add_mod (x*2^s) 4294967296;have g:min (k+1) (a.length+1)=k+1:=by omega
  rw[Nat.mul_add,Nat.pow_succ,Nat.mul_assoc (B^k)]
  try rw[g]
  have j:B^k*(B*(x*2^s/4294967296))+B^k*(x*2^s%4294967296)=B^k*x*2^s:=by rw[<-Nat.mul_add,a1t,e,Nat.mul_assoc]
  omega
theorem a7K.done{a o:List Nat}{s:Nat}(h:a7K a o s a.length):o.length=a.length+1/\Dig o/\o.getD a.length 0<2^s/\nv o=nv a*2^s:=by
 obtain⟨c,d,f,e,b⟩:=h;rw[c1D (by omega),c1D (c1B _)]at b;exact⟨c,d,e,b⟩
def a7L(b u2 u1 u0 v1 v0:Nat):Nat:=min ((u2*(b*b)+u1*b+u0)/(v1*b+v0)) (b - 1)
def a7d(b u2 u1 u0 v1 v0 q r:Nat):Prop:=q*v1+r=u2*b+u1/\a7L b u2 u1 u0 v1 v0<=q/\q<=b+1
theorem a7d.start{b a c u0 v1 v0:Nat}(j:b<=2*v1)(i:2<=b)(f:a<=v1)(h:c<b)(g:u0<b):a7d b a c u0 v1 v0 ((a*b+c)/v1) ((a*b+c)%v1):=by
 refine⟨by rw[Nat.mul_comm];exact Nat.div_add_mod _ _,?_,?_⟩
 ·unfold a7L
  refine c1A (Nat.min_le_left _ _) ?_;rw[Nat.le_div_iff_mul_le (by omega)];generalize hq:(a*(b*b)+c*b+u0)/(v1*b+v0)=q;have e:q*(v1*b+v0)<=a*(b*b)+c*b+u0:=by rw[<-hq];exact Nat.div_mul_le_self _ _
  have d:q*v1*b<(a*b+c+1)*b:=by
   rw[Nat.mul_add,<-Nat.mul_assoc]at e;rw[Nat.add_mul,Nat.add_mul,Nat.mul_assoc a,Nat.one_mul];omega
  have:=Nat.lt_of_mul_lt_mul_right d;omega
 ·have:(a*b+c)/v1<b+2:=by
   rw[Nat.div_lt_iff_lt_mul (by omega)];have:a*b<=v1*b:=Nat.mul_le_mul_right _ f;rw[Nat.add_mul,Nat.mul_comm b v1];omega
  omega
theorem a7d.more{b a c u0 v1 v0 q r:Nat}(h:a7d b a c u0 v1 v0 q r)(l:2<=b)(d:b<=q\/r*b+u0<q*v0)(i:0<v1):1<=q/\a7d b a c u0 v1 v0 (q - 1) (r+v1):=by
 obtain⟨f,j,k⟩:=h;have g:a7L b a c u0 v1 v0<q:=by
  rcases d with d|d
  ·unfold a7L;omega
  ·unfold a7L
   refine Nat.lt_of_le_of_lt (Nat.min_le_left _ _) ?_;have m:0<v1*b:=Nat.mul_pos i (by omega);have e5:q*(v1*b+v0)=q*v1*b+q*v0:=by rw[Nat.mul_add,Nat.mul_assoc]
   rw[Nat.div_lt_iff_lt_mul (by omega),e5];have e:(q*v1+r)*b=(a*b+c)*b:=by rw[f]
   rw[Nat.add_mul,Nat.add_mul,Nat.mul_assoc a]at e;omega
 refine⟨by omega,?_,by omega,by omega⟩;obtain⟨p,rfl⟩:∃p,q=p+1:=⟨q - 1,by omega⟩;rw[Nat.succ_mul]at f;rw[show p+1 - 1=p from rfl];omega
theorem a7d.less{b c d u0 v1 v0 q r:Nat}(h:a7d b c d u0 v1 v0 q r)(p:2<=b)(t:b<=2*v1)(f:c<=v1)(m:d<b)(n:v0<b)(a:b<=r\/(q<b/\q*v0<=r*b+u0)):q=a7L b c d u0 v1 v0:=by
 obtain⟨k,l,o⟩:=h;have hq:q<b:=by
  rcases a with a|a
  ·by_cases hq:q<b
   ·exact hq
   ·have g:b*v1<=q*v1:=Nat.mul_le_mul_right _ (by omega)
    have j:c*b<=v1*b:=Nat.mul_le_mul_right _ f;rw[Nat.mul_comm b]at g;omega
  ·exact a.1
 have i:q*v0<=r*b+u0:=by
  rcases a with a|a
  ·have g:q*v0<=b*b:=Nat.mul_le_mul (by omega) (by omega)
   have j:b*b<=r*b:=Nat.mul_le_mul_right _ a;omega
  ·exact a.2
 refine Nat.le_antisymm ?_ l;unfold a7L;refine Nat.le_min.2 ⟨?_,by omega⟩;have s:0<v1*b:=Nat.mul_pos (by omega) (by omega);rw[Nat.le_div_iff_mul_le (by omega),Nat.mul_add,<-Nat.mul_assoc];have e:(q*v1+r)*b=(c*b+d)*b:=by rw[k]
 rw[Nat.add_mul,Nat.add_mul,Nat.mul_assoc c]at e;omega
theorem b7i{W:List Nat}{n:Nat}(i:W.length=n+3):nv W=nv (W.take n)+B^n*(W[n+2]*(B*B)+W[n+1]*B+W[n]):=by
 have e:W.take (n+3)=W:=c1D (by omega);have g:nv (W.take (n+1))=nv (W.take n)+B^n*W[n]:=a0F W n (by omega);have h:nv (W.take (n+2))=nv (W.take (n+1))+B^(n+1)*W[n+1]:=a0F W (n+1) (by omega);have a:nv (W.take (n+3))=nv (W.take (n+2))+B^(n+2)*W[n+2]:=a0F W (n+2) (by omega);rw[e]at a;rw[a,h,g,show B^(n+2)=B^n*B*B by rw[Nat.pow_succ,Nat.pow_succ],show B^(n+1)=B^n*B from Nat.pow_succ ..];generalize W[n]=j;generalize W[n+1]=b;generalize W[n+2]=c;generalize B^n=q;simp only[Nat.mul_add];have d:q*B*B*c=q*(c*(B*B)):=by ac_rfl
 have f:q*B*b=q*(b*B):=by ac_rfl
 rw[d,f];omega
theorem b7j{V:List Nat}{n:Nat}(f:V.length=n+2):nv V=nv (V.take n)+B^n*(V[n+1]*B+V[n]):=by
 have e:V.take (n+2)=V:=c1D (by omega);have d:=a0F V n (by omega);have a:=a0F V (n+1) (by omega);rw[show n+1+1=n+2 from rfl,e,Nat.pow_succ]at a;rw[a,d];generalize V[n]=g;generalize V[n+1]=b;generalize B^n=q;simp only[Nat.mul_add];have c:q*B*b=q*(b*B):=by ac_rfl
 rw[c];omega
theorem b7k{b Q u2 u1 u0 v1 v0 lw lv W V:Nat}(hb:2<=b)(_hQ:0<Q)(eW:W=lw+Q*(u2*(b*b)+u1*b+u0))(eV:V=lv+Q*(v1*b+v0))(lW:lw<Q)(lV:lv<Q)(_d2:u2<b)(d1:u1<b)(f0:v0<b)(hn:b<=2*v1)(hlt:W<V*b):u2<=v1/\W/V<=a7L b u2 u1 u0 v1 v0/\a7L b u2 u1 u0 v1 v0<=W/V+1:=by
 have hv1:0<v1:=by omega
 have hp:0<v1*b:=Nat.mul_pos hv1 (by omega);have hVpos:0<V:=by
  have:Q*1<=Q*(v1*b+v0):=Nat.mul_le_mul_left _ (by omega);omega
 obtain⟨v2,hv2⟩:=c1F (v1*b+v0);obtain⟨u3,hu3⟩:=c1F (u2*(b*b)+u1*b+u0);have hest:a7L b u2 u1 u0 v1 v0=min (u3/v2) (b - 1):=by unfold a7L;rw[hv2,hu3]
 rw[hest];rw[hv2]at eV;rw[hu3]at eW;have hU3:u3<(v2+1)*b:=by
  have:Q*u3<Q*((v2+1)*b):=by
   have e0:Q*((v2+1)*b)=(Q*v2+Q)*b:=by rw[<-Nat.mul_assoc,Nat.mul_add Q v2 1,Nat.mul_one]
   have e1:(lv+Q*v2)*b<=(Q*v2+Q)*b:=Nat.mul_le_mul_right _ (by omega);rw[eV]at hlt;omega
  exact Nat.lt_of_mul_lt_mul_left this
 refine⟨?_,?_,?_⟩
 ·by_cases h:u2<=v1
  ·exact h
  ·have e1:(v1+1)*(b*b)<=u2*(b*b):=Nat.mul_le_mul_right _ (by omega)
   have e2:(v2+1)*b<=(v1*b+b)*b:=Nat.mul_le_mul_right _ (by omega);rw[Nat.add_mul,Nat.one_mul]at e1;have e3:(v1*b+b)*b=v1*(b*b)+b*b:=by rw[Nat.add_mul,Nat.mul_assoc]
   omega
 ·refine Nat.le_min.2 ⟨?_,?_⟩
  ·have hv2p:0<v2:=by omega
   rw[Nat.le_div_iff_mul_le hv2p];generalize hq:W/V=q;have h1:q*V<=W:=by rw[<-hq];exact Nat.div_mul_le_self _ _
   have h2:Q*(q*v2)<Q*(u3+1):=by
    have e1:q*(Q*v2)<=q*V:=Nat.mul_le_mul_left _ (by omega);rw[Nat.mul_left_comm,Nat.mul_add Q,Nat.mul_one];omega
   have:=Nat.lt_of_mul_lt_mul_left h2;omega
  ·have:W/V<b:=by rw[Nat.div_lt_iff_lt_mul hVpos,Nat.mul_comm];exact hlt
   omega
 ·generalize hx:min (u3/v2) (b - 1)=x
  have hxB:x<b:=by omega
  have hxV:x*v2<=u3:=by
   rw[<-hx];exact c1A (Nat.mul_le_mul_right _ (Nat.min_le_left _ _)) (Nat.div_mul_le_self _ _)
  clear hx;cases x with
  |zero=>exact Nat.zero_le _
  |succ y=>
   rw[Nat.add_le_add_iff_right,Nat.le_div_iff_mul_le hVpos];have h1:(y+1)*V<=W+V:=by
    have e1:(y+1)*V=(y+1)*lv+Q*((y+1)*v2):=by rw[eV,Nat.mul_add,Nat.mul_left_comm]
    have e2:Q*((y+1)*v2)<=Q*u3:=Nat.mul_le_mul_left _ hxV;have e3:(y+1)*lv<=b*Q:=Nat.mul_le_mul (by omega) (by omega);have e4:b*Q<=Q*v2:=by
     rw[Nat.mul_comm];refine Nat.mul_le_mul_left _ ?_;have:1*b<=v1*b:=Nat.mul_le_mul_right _ (by omega);omega
    omega
   rw[Nat.succ_mul]at h1;omega
theorem b8Y{W V:List Nat}{n:Nat}(e:W.length=n+3)(d:V.length=n+2)(a:Dig W)(b:Dig V)(f:B<=2*V[n+1])(c:nv W<nv V*B):W[n+2]<=V[n+1]/\nv W/nv V<=a7L B W[n+2] W[n+1] W[n] V[n+1] V[n]/\a7L B W[n+2] W[n+1] W[n] V[n+1] V[n]<=nv W/nv V+1:=
 b7k (by rw[a1t];decide) (Nat.pow_pos a2B) (b7i e) (b7j d) (a2e a n) (a2e b n) (a.get _ _) (a.get _ _) (b.get _ _) f c
theorem b2F{u:List Nat}{s i:Nat}(l:s<32)(k:i+1<u.length)(hd:Dig u):(nv u/2^s)%B^(i+1)=(nv u/2^s)%B^i+B^i*((u[i+1]*4294967296+u[i])/2^s%4294967296):=by
 have f:nv u=nv (u.take i)+B^i*(u[i]+B*(u[i+1]+B*nv (u.drop (i+2)))):=by
  have e:=a2t u i (by omega);rw[List.drop_eq_getElem_cons (show i<u.length by omega),List.drop_eq_getElem_cons (show i+1<u.length by omega)]at e;exact e
 obtain⟨c,h⟩:∃c,2^s*c=4294967296:=⟨2^(32 - s),by rw[<-Nat.pow_add,show s+(32 - s)=32 by omega]⟩;have j:0<2^s:=Nat.two_pow_pos _;have b:=a2e hd i;have g:0<B^i:=Nat.pow_pos a2B;have a:nv u/B^i=u[i]+B*(u[i+1]+B*nv (u.drop (i+2))):=by
  rw[f,Nat.add_mul_div_left _ _ g,Nat.div_eq_of_lt b,Nat.zero_add]
 rw[Nat.pow_succ,Nat.mod_mul,Nat.div_div_eq_div_mul,Nat.mul_comm (2^s),<-Nat.div_div_eq_div_mul,a];have e:u[i]+B*(u[i+1]+B*nv (u.drop (i+2)))=(u[i+1]*4294967296+u[i])+2^s*(B*(c*nv (u.drop (i+2)))):=by
  have d:2^s*(B*(c*nv (u.drop (i+2))))=B*(B*nv (u.drop (i+2))):=by
   rw[Nat.mul_left_comm,<-Nat.mul_assoc (2^s),h,<-a1t]
  rw[d,Nat.mul_add,a1t];omega
 rw[e,Nat.add_mul_div_left _ _ j,Nat.add_mul_mod_self_left,<-a1t]
def a4Z(u o:List Nat)(s n i:Nat):Prop:=o.length=n/\Dig o/\nv (o.take i)=(nv u/2^s)%B^i
theorem a4Z.start(u:List Nat)(s n:Nat):a4Z u (List.replicate n 0) s n 0:=⟨by simp,Dig.zeros _,by simp[nv,Nat.mod_one]⟩
theorem a4Z.step{u o:List Nat}{s n i x y:Nat}(h:a4Z u o s n i)(j:i<n)(d:s<32)(e:i+1<u.length)(hd:Dig u)(f:u[i+1]=x)(g:u[i]=y):a4Z u (o.set i ((x*4294967296+y)/2^s%4294967296)) s n (i+1):=by
 obtain⟨a,b,c⟩:=h;refine⟨by simpa using a,b.set _ _ (by rw[a1t];exact Nat.mod_lt _ (by decide)),?_⟩;rw[a1F o i _ (by omega),a2i,c,b2F d e hd,f,g,List.length_take,Nat.min_eq_left (by omega)]
theorem a4Z.done{u o:List Nat}{s n:Nat}(h:a4Z u o s n n)(a:nv u/2^s<B^n):nv o=nv u/2^s:=by
 obtain⟨c,d,b⟩:=h;rw[c1D (by omega),Nat.mod_eq_of_lt a]at b;exact b
def a3X(N:Nat)(V U Q:List Nat)(k:Nat):Prop:=Dig U/\Dig Q/\nv (U.drop k)<nv V/\nv U+nv V*(B^k*nv (Q.drop k))=N
theorem a5C{U:List Nat}{j:Nat}(h:j<U.length):nv (U.drop j)=U[j]+B*nv (U.drop (j+1)):=by
 rw[List.drop_eq_getElem_cons h];rfl
theorem a3X.win{N:Nat}{V U Q:List Nat}{j n:Nat}(h:a3X N V U Q (j+1))(r:j+(n+1)<=U.length)(o:V.length=n)(d:Dig V):((U.drop j).take (n+1)).length=n+1/\Dig ((U.drop j).take (n+1))/\nv ((U.drop j).take (n+1))<nv V*B/\nv (U.drop (j+(n+1)))=0/\U=U.take j++(U.drop j).take (n+1)++U.drop (j+(n+1))/\nv U=nv (U.take j)+B^j*nv ((U.drop j).take (n+1))/\(U.take j).length=j:=by
 obtain⟨g,p,l,q⟩:=h;have e:=a5C (show j<U.length by omega);have hd:=g.get j (by omega);have a:=a4Q d;rw[o]at a;have b:nv (U.drop j)<nv V*B:=by
  rw[e];have:B*(nv (U.drop (j+1))+1)<=B*nv V:=Nat.mul_le_mul_left _ l;rw[Nat.mul_add,Nat.mul_one]at this;rw[Nat.mul_comm (nv V)];omega
 have c:nv (U.drop j)<B^(n+1):=by
  rw[Nat.pow_succ];exact c1C b (Nat.mul_le_mul_right _ (Nat.le_of_lt a))
 have i:=a7J c;have f:=a2t (U.drop j) (n+1) (by simp;omega);rw[List.drop_drop]at f;have m:nv (U.drop (j+(n+1)))=0:=by
  by_cases k:nv (U.drop (j+(n+1)))=0
  ·exact k
  ·have:B^(n+1)*1<=B^(n+1)*nv (U.drop (j+(n+1))):=Nat.mul_le_mul_left _ (by omega)
   omega
 refine⟨by simp;omega,(g.drop j).take _,by rw[i];exact b,m,?_,?_,by simp;omega⟩
 ·rw[List.append_assoc]
  conv=>lhs;rw[<-List.take_append_drop j U]
  congr 1
  rw[<-List.drop_drop,List.take_append_drop]
 ·rw[i];exact a2t U j (by omega)
theorem a3X.next{N:Nat}{V U Q W':List Nat}{j n:Nat}(h:a3X N V U Q (j+1))(u:j+(n+1)<=U.length)(f:j<Q.length)(t:V.length=n)(c:Dig V)(d:Dig W')(E:W'.length=n+1)(b:nv W'=nv ((U.drop j).take (n+1))%nv V):a3X N V (U.take j++W'++U.drop (j+(n+1))) (Q.set j (nv ((U.drop j).take (n+1))/nv V)) j/\(U.take j++W'++U.drop (j+(n+1))).length=U.length:=by
 obtain⟨F,G,v,m,H,w,z⟩:=h.win u t c;obtain⟨k,o,D,l⟩:=h;have a:0<nv V:=by omega
 have hq:nv ((U.drop j).take (n+1))/nv V<B:=by rw[Nat.div_lt_iff_lt_mul a,Nat.mul_comm];exact v
 have hdr:(U.take j++W'++U.drop (j+(n+1))).drop j=W'++U.drop (j+(n+1)):=by
  rw[List.append_assoc,List.drop_append_of_le_length (by omega),List.drop_of_length_le (by omega),List.nil_append]
 have g:nv ((U.take j++W'++U.drop (j+(n+1))).drop j)=nv W':=by rw[hdr,a3Q,m];simp
 have i:nv (U.take j++W'++U.drop (j+(n+1)))=nv (U.take j)+B^j*nv W':=by
  rw[List.append_assoc,a3Q,a3Q,m,z];simp
 refine⟨⟨((k.take j).append d).append (k.drop _),o.set _ _ hq,?_,?_⟩,by simp;omega⟩
 ·rw[g,b];exact Nat.mod_lt _ a
 ·have s:nv ((Q.set j (nv ((U.drop j).take (n+1))/nv V)).drop j)=nv ((U.drop j).take (n+1))/nv V+B*nv (Q.drop (j+1)):=by
   rw[a5C (by simpa using f),List.getElem_set_self,List.drop_set_of_lt (by omega)]
  rw[i,s,b];rw[w]at l;rw[Nat.pow_succ]at l;have e:=Nat.div_add_mod (nv ((U.drop j).take (n+1))) (nv V);generalize nv ((U.drop j).take (n+1))/nv V=q at*;generalize nv ((U.drop j).take (n+1))%nv V=r at*;generalize nv ((U.drop j).take (n+1))=x at*;generalize nv (Q.drop (j+1))=y at*;generalize B^j=p at*;have A:nv V*(p*(q+B*y))=p*(nv V*q)+nv V*(p*B*y):=by
   rw[Nat.mul_add,Nat.mul_add,Nat.mul_left_comm (nv V) p q,Nat.mul_assoc p B y]
  have C:p*x=p*(nv V*q)+p*r:=by rw[<-e,Nat.mul_add]
  omega
theorem a3X.done{N a b s:Nat}{V U Q:List Nat}(h:a3X N V U Q 0)(l:N=a*2^s)(i:nv V=b*2^s):nv Q=a/b/\nv U/2^s=a%b/\nv U<nv V:=by
 obtain⟨n,o,f,d⟩:=h;simp only[List.drop_zero,Nat.pow_zero,Nat.one_mul]at f d;have j:0<2^s:=Nat.two_pow_pos s;rw[i]at f d;rw[l]at d;have e:nv U=2^s*(nv U/2^s):=by
  have p:nv U%2^s=0:=by
   have:(nv U+b*2^s*nv Q)%2^s=0:=by rw[d];exact Nat.mul_mod_left _ _
   rw[Nat.mul_right_comm,Nat.add_mul_mod_self_right]at this;exact this
  have:=Nat.div_add_mod (nv U) (2^s);omega
 have g:nv U/2^s<b:=by rw[Nat.div_lt_iff_lt_mul j];exact f
 have c:a=b*nv Q+nv U/2^s:=by
  have:a*2^s=(b*nv Q+nv U/2^s)*2^s:=by
   have k:b*nv Q*2^s=b*2^s*nv Q:=Nat.mul_right_comm _ _ _;rw[<-d,Nat.add_mul,k,Nat.mul_comm (nv U/2^s)];omega
  exact Nat.eq_of_mul_eq_mul_right j this
 have m:0<b:=Nat.lt_of_le_of_lt (Nat.zero_le _) g;refine⟨?_,?_,by rw[i];exact f⟩
 ·conv=>rhs;rw[c,Nat.mul_add_div m,Nat.div_eq_of_lt g,Nat.add_zero]
 ·conv=>rhs;rw[c,Nat.mul_add_mod,Nat.mod_eq_of_lt g]
theorem a3X.start{a s n m:Nat}{V U:List Nat}(f:Dig U)(j:U.length=m+1+n)(p:0<n)(b:nv U=a*2^s)(g:U.getD (m+n) 0<2^s)(r:s<32)(o:V.length=n)(c:B<=2*V.getD (n - 1) 0):a3X (a*2^s) V U (List.replicate (m+1) 0) (m+1):=by
 refine⟨f,Dig.zeros _,?_,?_⟩
 ·have k:(U.drop (m+1)).length=n:=by simp;omega
  have d:=a2t (U.drop (m+1)) (n - 1) (by omega);have e:=a2t V (n - 1) (by omega);have l:=a2e (f.drop (m+1)) (n - 1);have h:(U.drop (m+1)).drop (n - 1)= [U.getD (m+n) 0]:=by
   rw[List.drop_drop,List.drop_eq_getElem_cons (by omega),List.drop_of_length_le (by omega),a0B (by omega)]
   congr 2;omega
  have i:V.drop (n - 1)= [V.getD (n - 1) 0]:=by
   rw[List.drop_eq_getElem_cons (by omega),List.drop_of_length_le (by omega),a0B (by omega)]
  rw[h]at d;rw[i]at e;simp only[nv,Nat.mul_zero,Nat.add_zero]at d e;have q:(2:Nat)^s<=2^31:=Nat.pow_le_pow_right (by omega) (by omega);rw[a1t]at c;have:B^(n - 1)*(U.getD (m+n) 0+1)<=B^(n - 1)*V.getD (n - 1) 0:=Nat.mul_le_mul_left _ (by omega);rw[Nat.mul_add,Nat.mul_one]at this;omega
 ·rw[List.drop_of_length_le (by simp)];simpa[nv]using b
theorem a9x{x c W V W':Nat}{e:Nat}(g:0<V)(i:W/V<=x)(j:x<=W/V+1)(a:(c=0/\W'+x*V=W)\/(c=1/\W<x*V/\W'+x*V=W+e)):(c=0->x=W/V/\W'=W%V)/\(c=1->1<=x/\x - 1=W/V/\W'+V=W%V+e):=by
 have hd:=Nat.div_add_mod W V;have k:=Nat.mod_lt W g;generalize W/V=q at*;generalize W%V=r at*;refine⟨fun h=>?_,fun h=>?_⟩
 ·rcases a with⟨_,b⟩|⟨d,_⟩
  ·rcases(by omega:x=q\/x=q+1)with rfl|rfl
   ·refine⟨rfl,?_⟩;rw[Nat.mul_comm]at hd;omega
   ·rw[Nat.succ_mul,Nat.mul_comm q]at b;omega
  ·omega
 ·rcases a with⟨d,_⟩|⟨_,b,f⟩
  ·omega
  ·rcases(by omega:x=q\/x=q+1)with rfl|rfl
   ·rw[Nat.mul_comm]at hd;omega
   ·refine⟨by omega,by omega,?_⟩
    rw[Nat.succ_mul,Nat.mul_comm q]at f;omega
theorem b4H{b V:List Nat}{n t s:Nat}(p:Dig b)(q:b.length=n)(D:0<n)(y:b.getD (n - 1) 0=t)(E:s<32)(C:4294967296<=2*(t*2^s))(m:t*2^s<4294967296)(c:a0M V (nv b*2^s)):V.length=n/\B<=2*V.getD (n - 1) 0:=by
 have e:=a2t b (n - 1) (by omega);have o:=a2e p (n - 1);have j:b.drop (n - 1)= [t]:=by
  rw[List.drop_eq_getElem_cons (by omega),List.drop_of_length_le (by omega),<-y,a0B (by omega)]
 rw[j]at e;simp only[nv,Nat.mul_zero,Nat.add_zero]at e;have a:B^n=B^(n - 1)*B:=by rw[<-Nat.pow_succ];congr 1;omega
 have i:2^s*2^(32 - s)=4294967296:=by rw[<-Nat.pow_add,show s+(32 - s)=32 by omega]
 have x:0<2^s:=Nat.two_pow_pos _;have f:(t+1)*2^s<=B:=by
  have:t<2^(32 - s):=by
   have:2^s*t<2^s*2^(32 - s):=by rw[i,Nat.mul_comm];exact m
   exact Nat.lt_of_mul_lt_mul_left this
  have:2^s*(t+1)<=2^s*2^(32 - s):=Nat.mul_le_mul_left _ this;rw[i,Nat.mul_comm]at this;rw[a1t];exact this
 have h:nv b*2^s=nv (b.take (n - 1))*2^s+B^(n - 1)*(t*2^s):=by rw[e,Nat.add_mul,Nat.mul_assoc]
 have g:nv b*2^s<B^n:=by
  have z:nv (b.take (n - 1))*2^s<B^(n - 1)*2^s:=Nat.mul_lt_mul_of_pos_right o x;have k:B^(n - 1)*((t+1)*2^s)<=B^(n - 1)*B:=Nat.mul_le_mul_left _ f;rw[Nat.add_mul,Nat.one_mul,Nat.mul_add]at k;rw[a,h];omega
 have w:B^(n - 1)*(t*2^s)<=nv b*2^s:=by rw[h];omega
 have u:V.length<=n:=by rw[c.len];exact a3e.2 g
 have v:¬V.length<=n - 1:=by
  rw[c.len,a3e];have:B^(n - 1)*1<=B^(n - 1)*(t*2^s):=Nat.mul_le_mul_left _ (by omega);omega
 have r:V.length=n:=by omega
 refine⟨r,?_⟩;have d:=a2t V (n - 1) (by omega);have A:=a2e c.1 (n - 1);have l:V.drop (n - 1)= [V.getD (n - 1) 0]:=by
  rw[List.drop_eq_getElem_cons (by omega),List.drop_of_length_le (by omega),a0B (by omega)]
 rw[l]at d;simp only[nv,Nat.mul_zero,Nat.add_zero]at d;rw[c.2.2]at d;have:B^(n - 1)*(t*2^s)<B^(n - 1)*(V.getD (n - 1) 0+1):=by rw[Nat.mul_add,Nat.mul_one];omega
 have:=Nat.lt_of_mul_lt_mul_left this;rw[a1t];omega
theorem b7l{W V:List Nat}{n:Nat}(f:W.length=n+1)(e:V.length=n)(g:2<=n)(b:Dig W)(a:Dig V)(d:B<=2*V.getD (n - 1) 0)(c:nv W<nv V*B):W.getD n 0<=V.getD (n - 1) 0/\nv W/nv V<=a7L B (W.getD n 0) (W.getD (n - 1) 0) (W.getD (n - 2) 0) (V.getD (n - 1) 0) (V.getD (n - 2) 0)/\a7L B (W.getD n 0) (W.getD (n - 1) 0) (W.getD (n - 2) 0) (V.getD (n - 1) 0) (V.getD (n - 2) 0)<=nv W/nv V+1:=by
 obtain⟨p,rfl⟩:∃p,n=p+2:=⟨n - 2,by omega⟩;rw[show p+2 - 1=p+1 from rfl,show p+2 - 2=p from rfl]at*;rw[a0B (l:=V) (i:=p+1) (by omega)]at d;rw[a0B (l:=W) (i:=p+2) (by omega),a0B (l:=W) (i:=p+1) (by omega),a0B (l:=W) (i:=p) (by omega),a0B (l:=V) (i:=p+1) (by omega),a0B (l:=V) (i:=p) (by omega)];exact b8Y f e b a d c
theorem b7m{b a u0 v1 v0:Nat}:a7L B b a u0 v1 v0<4294967296:=by unfold a7L;rw[a1t];omega
theorem b4I{U:List Nat}{j n i:Nat}(a:i<=n):((U.drop j).take (n+1)).getD i 0=U.getD (j+i) 0:=by
 simp only[List.getD_eq_getElem?_getD,List.getElem?_take_of_lt (Nat.lt_succ_of_le a),List.getElem?_drop]
theorem b4J{V o a:List Nat}{W n c:Nat}(_:Dig V)(_:V.length=n)(b:0<nv V)(g:nv o+nv V=W%nv V+B^(n+1))(h:nv a+B^(n+1)*c=nv o+nv V)(k:c<=1)(f:Dig a)(e:a.length=n+1):nv a=W%nv V:=by
 have d:=a4Q f;rw[e]at d;have i:=Nat.mod_lt W b;have j:B^n<=B^(n+1):=Nat.pow_le_pow_right a2B (by omega);rcases(by omega:c=0\/c=1)with rfl|rfl
 ·omega
 ·omega
theorem a3Y(a b:Nat)(e:a<4294967296)(f:b<4294967296):bits .or .u32 (a:Int) (b:Int)=((a|||b:Nat):Int):=by
 have g:a|||b<2^32:=Nat.or_lt_two_pow (by omega) (by omega);have c:(BitVec.ofInt 32 (a:Int)).toNat=a:=by
  rw[BitVec.ofInt_natCast,BitVec.toNat_ofNat];exact Nat.mod_eq_of_lt (by omega)
 have d:(BitVec.ofInt 32 (b:Int)).toNat=b:=by
  rw[BitVec.ofInt_natCast,BitVec.toNat_ofNat];exact Nat.mod_eq_of_lt (by omega)
 show IntKind.u32.wrap ((BitVec.ofInt 32 (a:Int)|||BitVec.ofInt 32 (b:Int)).toNat:Int)=_
 rw[BitVec.toNat_or,c,d,IntKind.wrap_u32];omega
theorem a2H(a b:Nat)(e:a<4294967296)(f:b<4294967296):bits .xor .u32 (a:Int) (b:Int)=((a^^^b:Nat):Int):=by
 have g:a^^^b<2^32:=Nat.xor_lt_two_pow (by omega) (by omega);have c:(BitVec.ofInt 32 (a:Int)).toNat=a:=by
  rw[BitVec.ofInt_natCast,BitVec.toNat_ofNat];exact Nat.mod_eq_of_lt (by omega)
 have d:(BitVec.ofInt 32 (b:Int)).toNat=b:=by
  rw[BitVec.ofInt_natCast,BitVec.toNat_ofNat];exact Nat.mod_eq_of_lt (by omega)
 show IntKind.u32.wrap ((BitVec.ofInt 32 (a:Int)^^^BitVec.ofInt 32 (b:Int)).toNat:Int)=_
 rw[BitVec.toNat_xor,c,d,IntKind.wrap_u32];omega
theorem a2I(a b:Nat)(e:a<4294967296)(f:b<4294967296):bits .and .u32 (a:Int) (b:Int)=((a&&&b:Nat):Int):=by
 have g:a&&&b<2^32:=Nat.and_lt_two_pow _ (by omega);have c:(BitVec.ofInt 32 (a:Int)).toNat=a:=by
  rw[BitVec.ofInt_natCast,BitVec.toNat_ofNat];exact Nat.mod_eq_of_lt (by omega)
 have d:(BitVec.ofInt 32 (b:Int)).toNat=b:=by
  rw[BitVec.ofInt_natCast,BitVec.toNat_ofNat];exact Nat.mod_eq_of_lt (by omega)
 show IntKind.u32.wrap ((BitVec.ofInt 32 (a:Int)&&&BitVec.ofInt 32 (b:Int)).toNat:Int)=_
 rw[BitVec.toNat_and,c,d,IntKind.wrap_u32];omega
theorem a7M(n:Nat)(h:n<4294967296):n/2147483648=(n.testBit 31).toNat:=by
 rw[Nat.testBit_eq_decide_div_mod_eq,show(2:Nat)^31=2147483648 from rfl];by_cases a:n/2147483648%2=1
 ·rw[decide_eq_true a];simp;omega
 ·rw[decide_eq_false a];simp;omega
theorem b2G(n:Nat):(4294967295^^^n).testBit 31= !n.testBit 31:=by
 rw[Nat.testBit_xor,show(4294967295:Nat)=2^32 - 1 from rfl,Nat.testBit_two_pow_sub_one];cases n.testBit 31<;>rfl
theorem b2H(x y d c:Nat)(m:x<4294967296)(h:y<4294967296)(o:c<=1)(hd:d=a4H x y c):(((4294967295^^^x)&&&y)|||((4294967295^^^(x^^^y))&&&d))/2147483648=a6w x y c:=by
 have a:d<4294967296:=by rw[hd];unfold a4H;omega
 have k:(4294967295^^^x)&&&y<4294967296:=Nat.and_lt_two_pow (n:=32) _ h;have l:(4294967295^^^(x^^^y))&&&d<4294967296:=Nat.and_lt_two_pow (n:=32) _ a;rw[a7M _ (Nat.or_lt_two_pow (n:=32) k l),Nat.testBit_or,Nat.testBit_and,Nat.testBit_and,b2G x,b2G,Nat.testBit_xor];have i:=a7M x m;have j:=a7M y h;have g:=a7M d a;rw[hd]at g |-;unfold a6w;unfold a4H at*;cases e:x.testBit 31<;>cases f:y.testBit 31<;>cases b:((x+4294967296 - y - c)%4294967296).testBit 31<;>simp[e,f,b]at i j g |- <;>omega
theorem a5a(x y c:Nat)(w:World)(b:x<4294967296)(f:y<4294967296)(k:c<=1):Calls Tryz.prog 185 #[.int .u32 x,.int .u32 y,.int .u32 c] w fun e m=>w=m/\e=.returned (.tuple #[.int .u32 (a4H x y c:Nat),.int .u32 (a6w x y c:Nat)]):=by
 have j:=hid (b2H x y (a4H x y c) c b f k rfl);go_enter Tryz.func185,Tryz.ntmps185
 go_wp2_with fail
 go_ret2
 refine⟨rfl,?_⟩;have d:x^^^y<4294967296:=Nat.xor_lt_two_pow (n:=32) b f;have g:∀n:Nat,n<4294967296->4294967295^^^n<4294967296:=fun n h=>Nat.xor_lt_two_pow (n:=32) (by omega) h;have l:IntKind.u32.max=((4294967295:Nat):Int):=rfl;have hd:((x:Int) - y - c)%4294967296=(a4H x y c:Nat):=by unfold a4H;omega
 have a:a4H x y c<4294967296:=by unfold a4H;omega
 rw[l,hd,a2H _ _ (by decide) b,a2H _ _ b f,a2H _ _ (by decide) d,a2I _ _ (g _ b) f,a2I _ _ (g _ d) a,
  a3Y _ _ (Nat.and_lt_two_pow (n:=32) _ f) (Nat.and_lt_two_pow (n:=32) _ a)]
 have i:((((4294967295^^^x)&&&y|||(4294967295^^^(x^^^y))&&&a4H x y c:Nat):Int)/2147483648)=(a6w x y c:Nat):=by rw[<-j.out];rfl
 simp[i]
theorem a5b{p:Nat->Prop}{i:Nat}(h:∀j,j<i->p j)(b:p i):∀j,j<i+1->p j:=fun j c=>by
 by_cases a:j<i
 ·exact h j a
 ·obtain rfl:j=i:=by omega
  exact b
theorem Sl.unstep{α:Type}{R:Mem->Value->α->Prop}(d:a3K R){sz:Nat}{X:Nat->Bool}{w b:World}{oo a ao:Option Addr}{l:List α}(s:Sl R sz (mk (un X oo) w) ao l)(c:ExtX (ob oo) w b)(e:a=oo\/∃g,a=some ⟨g,0,none⟩/\w.heap.size<=g):Sl R sz (mk (un X a) b) ao l:=
 s.mono d (a3U c e)
theorem Sl.unX{α:Type}{R:Mem->Value->α->Prop}(a:a3K R){sz:Nat}{X:Nat->Bool}{w:World}{oo ao:Option Addr}{l:List α}(s:Sl R sz (mk (un X oo) w) ao l):Sl R sz (mk X w) ao l:=
 s.mono a (a1a fun _ _ b=>a0j b)
theorem Sl.old{α:Type}{R:Mem->Value->α->Prop}(d:a3K R){sz:Nat}{X:Nat->Bool}{w b:World}{oo ao:Option Addr}{l:List α}(s:Sl R sz (mk X w) ao l)(c:Ext w b)(e:∀j,j<w.heap.size->ob oo j=false):Sl R sz (mk (un X oo) b) ao l:=
 s.mono d (a1g c (fun k _ a=>by simp[noY]at a) fun j a hz=>by simpa[un,e j a]using hz)
def a1M(P:Program)(t sz:Nat):Prop:=∃fs ti,P.underlying t=some (.struct fs)/\P.info? t=some ti/\ti.size=sz
section
variable {P:Program} {ops:Array Oper} {Q:Exit->Act->World->Prop} {rest:List Oper} {a:Act} {w:World}
variable {α:Type} {R:Mem->Value->α->Prop} {sz:Nat} {X:Nat->Bool} {ao:Option Addr} {l:List α}
variable {d:Option Tmp} {ty:TypeId} {ps:String} {af:Array Edge}
theorem a0z{t:TypeId}{x:Operand}{k:Nat}(A:a1M P t sz)(i:Nat)(E:Sl R sz (mk X w) ao l)(B:i<l.length)(F:a.eval x=.pointer (some (adr ao k)))(D:k=i*sz)(f:∀h u y,R h u y->∃c,u=.agg c)(K:∀u,R (mk X w) u l[i]->wpList P ops Q rest (a.put d u) w):wpList P ops Q (⟨d,.load t x,ty,ps,af,none⟩::rest) a w:=by
 refine wpList_plain rfl fun G e=>?_;subst D;obtain⟨H,ti,p,q,r⟩:=A;obtain⟨u,s,z,n⟩:=E.2 i B;obtain⟨c,rfl⟩:=f _ _ _ n;have o:=run_loadCells_list (P:=P) w (adr ao (i*sz)) c.toList (fun j v C=>by
  rw[a3y];obtain⟨g,b⟩:=List.getElem?_eq_some_iff.1 C;have:=a1H (z j (by simpa[Value.cells]using g));rw[this];simp[Value.cells]at b |-;exact b)
 have m:c.toList.length=sz:=by simpa[Value.cells]using s
 rw[m]at o;unfold Oper.wp;simp[execOp,F,Instr.loadAt,Instr.sureAddr,loadVar,isAgg,run_underlying p,sizeOf,typeInfo,q,r,o,Result.andThen];exact e _ _ (K _ n)
end
theorem OL.ob_ge{α:Type}{R:Mem->Value->α->Prop}{sz:Nat}{X:Nat->Bool}{base:Nat}{e:TypeId}{w:World}{ao:Option Addr}{a:Nat}{l:List α}(h:OL R sz X base e w ao a l){k:Nat}(c:w.heap.size<=k):ob ao k=false:=by
 cases b:ob ao k
 ·rfl
 ·have:=h.block b;omega
theorem a0t{P:Program}{ops:Array Oper}{Q:Exit->Act->World->Prop}{rest:List Oper}{a:Act}{w:World}{α:Type}{R:Mem->Value->α->Prop}{sz:Nat}{X:Nat->Bool}{base:Nat}{e:TypeId}{ao:Option Addr}{o:Nat}{l:List α}{d:Option Tmp}{ty:TypeId}{ps:String}{af:Array Edge}{t m:Nat}{z:Value}{j:Array Value}{s x:Operand}(T:SliceT P t e sz m z)(v:z.cells.size=sz)(D:Elem R sz)(f:base<=w.heap.size)(E:∀k,X k=true->k<w.heap.size)(n:Nat)(F:l.length=n)(G:a.eval s=.slice ao n o)(I:a.eval x=.slice (some ⟨w.heap.size,0,none⟩) 1 1)(h:OL R sz X base e w ao o l)(u:Value)(y:α)(p:j=u.cells)(H:R (mk (un X ao) w) u y)(i:(n+1)*m<=140737488355328)(q:n+1<=9223372036854775807)(K:∀c b r,OL R sz X base e r c b (l++[y])->ExtX (ob ao) w r->(c=ao\/∃g,c=some ⟨g,0,none⟩/\w.heap.size<=g)->wpList P ops Q rest (a.put d (.slice c (n+1) b)) r):wpList P ops Q (⟨d,.call {callee:= .builtin .append,args:=#[s,x],argTypes:=#[t,t]},ty,ps,af,none⟩::rest) a (w.alloc (.cells j e)):=by
 subst F;exact a3l T v D f E G I h u y p H i q fun c b r A B C=>by
  have:=K c b r A B C;rwa[show l.length+1=(l++[y]).length from by simp]at this
def b0E(w:World)(k:IntKind)(n:Nat)(e:Ending)(w':World):Prop:=e=.returned (.int k n)/\∃m,w'=w.drewN m
theorem a7N(a b:Nat)(d:a<4294967296)(f:b<4294967296):bits BinOp.or IntKind.u64 ((a:Int)*4294967296) (b:Int)=(a:Int)*4294967296+b:=by
 have e:=bits_or_u64_nat (a*4294967296) b (by omega) (by omega);have c:=Nat.two_pow_add_eq_or_of_lt (i:=32) (b:=b) (by omega) a;rw[Nat.mul_comm]at c;rw[<-c]at e;simpa using e
theorem b2I(j i u0 v1 v0:Nat)(w:World)(A:2147483648<=v1)(s:v1<4294967296)(n:j<=v1)(m:i<4294967296)(t:u0<4294967296)(g:v0<4294967296):Calls Tryz.prog 202 #[.int .u32 j,.int .u32 i,.int .u32 u0,.int .u32 v1,.int .u32 v0] w (b0E w .u64 (a7L B j i u0 v1 v0)):=by
 have H:((v1:Int) !=0)=true:=a7c (by omega);have o:=a7N j i (by omega) m;have a:=hid a1t;have p:Hid (a7d B j i u0 v1 v0 ((j*4294967296+i)/v1) ((j*4294967296+i)%v1)):=hid (by
  have:=a7d.start (b:=B) (u0:=u0) (v0:=v0) (by rw[a1t];omega) (by rw[a1t];omega) n (by rw[a1t];exact m) (by rw[a1t];exact t);rwa[a1t]at this |-)
 go_enter Tryz.func202,Tryz.ntmps202
 go_wp2_with fail
 go_quiet (fail)
 go_wp2_with fail
 go_loop [12,13] (fun x y=>∃(q r:Nat),x=.int .u64 q/\y=.int .u64 r/\Hid (a7d B j i u0 v1 v0 q r)) (fun x _=>(intOf x).toNat)
 case atStart=>exact⟨_,_,by rw[Int.natCast_ediv];simp,by rw[Int.natCast_emod];simp,p⟩
 case round=>
  obtain⟨q,r,rfl,rfl,d⟩:=hrel;have hq:q<=4294967297:=by have:=d.out.2.2;rw[a.out]at this;exact this
  clear o H p;have E:(q:Int)<=4294967297:=by omega
  by_cases I:(r:Int)<4294967296
  ·have o:=a7N r u0 (by omega) t
   by_cases f:4294967296<=q
   ·obtain⟨l,c⟩:=d.out.more (by rw[a.out];omega) (.inl (by rw[a.out];exact f)) (by omega)
    have k:=hid c;have h:(4294967296:Int)<=(q:Int):=by omega
    clear c f hq;go_wp2_with fail
    go_round
    case rel=>exact⟨q - 1,r+v1,by rw[Int.natCast_sub l];rfl,rfl,k⟩
    case measure=>simp[intOf];omega
   ·have v:q*v0<=4294967295*4294967295:=Nat.mul_le_mul (by omega) (by omega)
    have G:IntKind.u64.wrap ((q:Int)*(v0:Int))=(q:Int)*(v0:Int):=IntWalk.u64_in _ (by rw[<-Int.natCast_mul];omega);by_cases u:r*4294967296+u0<q*v0
    ·obtain⟨l,c⟩:=d.out.more (by rw[a.out];omega) (.inr (by rw[a.out];exact u)) (by omega)
     have k:=hid c;have F:decide ((r:Int)*4294967296+(u0:Int)<(q:Int)*(v0:Int))=true:=by rw[decide_eq_true_eq,<-Int.natCast_mul];omega
     have h:(q:Int)<4294967296:=by omega
     clear c v u f hq;go_wp2_with fail
     go_round
     case rel=>exact⟨q - 1,r+v1,by rw[Int.natCast_sub l];rfl,rfl,k⟩
     case measure=>simp[intOf];omega
    ·have h:(q:Int)<4294967296:=by omega
     have e:=hid (d.out.less (by rw[a.out];omega) (by rw[a.out];omega) n (by rw[a.out];exact m) (by rw[a.out];exact g) (.inr ⟨by rw[a.out];omega,by rw[a.out];omega⟩));have F:decide ((r:Int)*4294967296+(u0:Int)<(q:Int)*(v0:Int))=false:=by rw[decide_eq_false_iff_not,<-Int.natCast_mul];omega
     have z:decide ((4294967296:Int)<=(q:Int))=false:=decide_eq_false (by omega);have D:(u0:Int)<4294967296:=by omega
     have C:(v0:Int)<4294967296:=by omega
     clear v u f hq A s n m t g;go_wp2_with fail
     go_ret
     exact⟨a0N (congrArg Nat.cast e.out),_,rfl⟩
  ·have e:=hid (d.out.less (by rw[a.out];omega) (by rw[a.out];omega) n (by rw[a.out];exact m) (by rw[a.out];exact g) (.inl (by rw[a.out];omega)))
   clear hq A s n m t g;go_wp2_with fail
   go_ret
   exact⟨a0N (congrArg Nat.cast e.out),_,rfl⟩
theorem a6x(X:Nat->Bool)(ao:Option Addr)(l:List Nat)(y s:Nat)(w:World)(N:Sl (a0c .u32) 1 (mk X w) ao l)(hd:Dig l)(U:l.length<=1099511627776)(I:s<32)(P:∀k,X k=true->k<w.heap.size):Calls Tryz.prog 201 #[.slice ao l.length y,.int .i64 s] w (fun e O=>Ext w O/\∃oo o,e=.returned (.slice oo o.length o.length)/\OL (a0c .u32) 1 X w.heap.size 114 O oo o.length o/\Hid (o.length=l.length+1/\Dig o/\o.getD l.length 0<2^s/\nv o=nv l*2^s)):=by
 have S:=N.hd;go_enter Tryz.func201,Tryz.ntmps201
 go_wp2_with (at_make;refine a2x a0Q (a0c.elem .u32) 0 (fun _=>rfl) X P w.heap.size (c1B _) (l.length+1) rfl rfl (by omega) (by omega) (by omega) ?_;intro oo W M n)
 go_loopw [15] (fun c wr=>∃(k:Nat) (o:List Nat),c=.int .i64 k/\k<=l.length/\Hid (a7K l o s k)/\Hid (o.length=l.length+1)/\OL (a0c .u32) 1 X w.heap.size 114 wr oo (l.length+1) o/\Ext w wr) (fun c _=>l.length - (intOf c).toNat)
 case atStart=>exact⟨0,_,rfl,by omega,hid (a7K.start l s),hid (by simp),M,n⟩
 case round=>
  obtain⟨k,o,rfl,T,a,d,b,i⟩:=hrel;clear M n;have Q:Hd oo (l.length+1):=d.out▸b.hd;by_cases j:k<l.length
  ·have C:=(N.mono (a0c.mono _) (a0k i)).nat k j
   have f:k<o.length:=by rw[d.out];omega
   have D:=(b.sl (a0c.elem _)).nat k f;obtain⟨x,u⟩:=c1F (l[k]);obtain⟨lo,g⟩:=c1F (o[k]);obtain⟨m,K,L,v⟩:=a.out.step (lo:=lo) j u ((a0B f).trans g) hd I;have J:=hd.get k j;rw[u,a1t]at J;rw[u]at C;rw[g]at D;have h:=a.out.2.1.get k f;rw[g,a1t]at h;obtain⟨p,H⟩:=c1F (x*2^s);rw[H]at m K L v;have t:=hid m;have V:IntKind.u64.wrap ((x:Int)*2^s)=(p:Int):=by
    have e:(x:Int)*2^s=(p:Int):=by rw[<-H];simp
    rw[e];exact IntWalk.u64_in _ (by omega)
   have R:bits BinOp.or IntKind.u32 (lo:Int) ((p:Int)%4294967296)=((lo|||p%4294967296:Nat):Int):=by
    have:=a3Y lo (p%4294967296) h (Nat.mod_lt _ (by decide));simpa using this
   have F:=hid v;clear u g a H m K L v;go_wp2_with (first|(with_reducible refine a0v a0Q ?_)|((with_reducible refine c1J ?_);first|(refine a0W a3V k (lo|||p%4294967296) rfl rfl b f rfl rfl ?_;intro Y q z)|(refine a0W a3V (k+1) (p/4294967296) rfl rfl q (by simp;rw[d.out];omega) rfl (by have:=F.out;omega) ?_;intro Z B A)))
   have r:Hid (((o.set k (lo|||p%4294967296)).set (k+1) (p/4294967296)).length=l.length+1):=hid (by simp;exact d.out);go_roundw
   case rel=>exact⟨k+1,_,by go_num,by omega,t,r,B,(i.own b (c1B _) z).own q (c1B _) A⟩
   case measure=>simp[intOf];omega
  ·have G:k=l.length:=by omega
   subst G;have E:=hid a.out.done;rw[<-d.out]at b |-;go_wp2_with fail
   go_ret
   exact⟨i,_,o,rfl,b,E⟩
def b6m(X:Nat->Bool)(base g cU:Nat)(w:World)(A R:List Nat)(P:List Nat->Ending->Prop)(e:Ending)(w':World):Prop:=
 ExtX (ob (some ⟨g,0,none⟩)) w w'/\∃o:List Nat,P o e/\OL (a0c .u32) 1 X base 114 w' (some ⟨g,0,none⟩) cU (A++o++R)
theorem b2J{A o R:List Nat}{k:Nat}(h:k<o.length):(A++o++R)[A.length+k]'(by simp;omega)=o[k]:=by
 rw[List.getElem_append_left (by simp;omega),List.getElem_append_right (by omega)];simp
theorem a7O{A o R:List Nat}{k d:Nat}(h:k<o.length):(A++o++R).set (A.length+k) d=A++o.set k d++R:=by
 rw[List.append_assoc,List.set_append_right _ _ (by omega),List.append_assoc]
 congr 1
 rw[show A.length+k - A.length=k by omega,List.set_append_left _ _ h]
theorem a7P(g a k:Nat):Value.pointer (some (⟨g,a+k,none⟩:Addr))=.pointer (some (adr (some ⟨g,0,none⟩) (a+k))):=by rw[a2d,Nat.zero_add]
def c1n(W V:List Nat)(x n:Nat)(o:List Nat)(e:Ending):Prop:=∃bo:Nat,e=.returned (.bool (decide (bo=1)))/\o.length=n+1/\Dig o/\((bo=0/\nv o+x*nv V=nv W)\/(bo=1/\nv W<x*nv V/\nv o+x*nv V=nv W+B^(n+1)))
theorem b1t(X:Nat->Bool)(base g cU cw:Nat)(A W R V:List Nat)(vo:Option Addr)(cv x n:Nat)(w:World)(hU:OL (a0c .u32) 1 X base 114 w (some ⟨g,0,none⟩) cU (A++W++R))(U:Sl (a0c .u32) 1 (mk (un X (some ⟨g,0,none⟩)) w) vo V)(hW:W.length=n+1)(hV:V.length=n)(F:Dig V)(a1:Dig W)(hx:x<4294967296)(_:A.length<=1099511627776)(hn:n<=1099511627776):Calls Tryz.prog 203 #[.slice (some ⟨g,A.length,none⟩) W.length cw,.slice vo V.length cv,.int .u64 x] w (b6m X base g cU w A R (c1n W V x n)):=by
 have b0:=U.hd;have b2:Hd (some (⟨g,A.length,none⟩:Addr)) W.length:=fun _=>⟨_,_,rfl⟩;have a2:=hid hW;have a0:=hid hV;have O:Hid (x<B):=hid (by rw[a1t];exact hx);have a9:W.length<=1099511627777:=by omega
 clear hW hV;go_enter Tryz.func203,Tryz.ntmps203
 go_wp2_with fail
 go_loopw [7,8,13] (fun a b c wr=>∃(k E l:Nat) (o:List Nat),a=.int .u64 E/\b=.int .u32 l/\c=.int .i64 k/\k<=W.length/\E<4294967296/\l<=1/\Hid (a4X W V x o k E l)/\Hid (o.length=W.length)/\OL (a0c .u32) 1 X base 114 wr (some ⟨g,0,none⟩) cU (A++o++R)/\ExtX (ob (some ⟨g,0,none⟩)) w wr) (fun _ _ c _=>W.length - (intOf c).toNat)
 case atStart=>exact⟨0,0,0,W,rfl,rfl,rfl,by omega,by omega,by omega,hid (a4X.start a1),hid rfl,hU,ExtX.refl _⟩
 case round=>
  obtain⟨k,E,l,o,rfl,rfl,rfl,hk,K,Y,f,N,q,m⟩:=hrel;clear hU;by_cases M:k<W.length
  ·have v:k<o.length:=by rw[N.out];exact M
   have s:A.length+k<(A++o++R).length:=by simp;omega
   have j:=(q.sl (a0c.elem _)).nat (A.length+k) s;rw[b2J v]at j;obtain⟨z,hz⟩:=c1F (o[k]);rw[hz]at j;have a8:wr.cell? ⟨g,A.length+k,none⟩=some (.int .u32 z):=by rw[a2d,Nat.zero_add]at j;exact j
   have r:=U.unstep (a0c.mono _) m (.inl rfl);by_cases L:k<V.length
   ·have a3:=r.nat k L
    obtain⟨y,hy⟩:=c1F (V[k]);rw[hy]at a3;obtain⟨h,b1,P⟩:=f.out.step (y:=y) (z:=z) M ((a0B L).trans hy) ((a0B v).trans hz) F O.out;have a7:=F.get k L;rw[hy,a1t]at a7;obtain⟨t,ht⟩:=c1F (E+x*y);rw[ht]at h b1;have i:=hid h;have b3:IntKind.u64.wrap ((x:Int)*(y:Int))=(x:Int)*(y:Int):=IntWalk.u64_in _ (by rw[<-Int.natCast_mul];omega);have b4:IntKind.u64.wrap ((E:Int)+(x:Int)*(y:Int))=(t:Int):=by
     rw[<-ht,Int.natCast_add,Int.natCast_mul];exact IntWalk.u64_in _ (by rw[<-Int.natCast_mul];omega)
    have a6:(t:Int)%4294967296=((t%4294967296:Nat):Int):=by omega
    have G:t%4294967296<4294967296:=Nat.mod_lt _ (by decide);obtain⟨Q,H⟩:=c1F (t%4294967296);rw[H]at a6 G i;have D:=hid (a7O (A:=A) (R:=R) (d:=a4H z Q l) v);have Z:t/4294967296<4294967296:=by omega
    have u:a6w z Q l<=1:=by unfold a6w;split<;>omega
    have C:Hid ((o.set k (a4H z Q l)).length=W.length):=hid (by rw[List.length_set];exact N.out);clear h hz hy f ht b1 r j H;go_wp2_with (first|(with_reducible refine a0v a0Q ?_)|(go_at_call 185;refine(a5a _ _ _ _ P G Y).mono ?_;rintro e w' ⟨rfl,rfl⟩)|((with_reducible refine c1J ?_);refine a0W a3V (A.length+k) (a4H z Q l) (a7P g A.length k) rfl q s rfl rfl ?_;intro w3 p J))
    rw[D.out]at p;go_roundw
    case rel=>exact⟨k+1,_,_,_,by simp,rfl,by go_num,by omega,Z,u,i,C,p,m.trans J⟩
    case measure=>simp[intOf];omega
   ·obtain⟨h,b1,P⟩:=f.out.step (y:=0) (z:=z) M (a4p (by omega)) ((a0B v).trans hz) F O.out
    rw[Nat.mul_zero,Nat.add_zero,Nat.mod_eq_of_lt K,Nat.div_eq_of_lt K]at h;have i:=hid h;have D:=hid (a7O (A:=A) (R:=R) (d:=a4H z E l) v);have u:a6w z E l<=1:=by unfold a6w;split<;>omega
    have C:Hid ((o.set k (a4H z E l)).length=W.length):=hid (by rw[List.length_set];exact N.out);clear h hz f b1 r j;go_wp2_with (first|(with_reducible refine a0v a0Q ?_)|(go_at_call 185;refine(a5a _ _ _ _ P K Y).mono ?_;rintro e w' ⟨rfl,rfl⟩)|((with_reducible refine c1J ?_);refine a0W a3V (A.length+k) (a4H z E l) (a7P g A.length k) rfl q s rfl rfl ?_;intro w3 p J))
    rw[D.out]at p;go_roundw
    case rel=>exact⟨k+1,0,_,_,congrArg (Value.int .u64) (Int.ediv_eq_zero_of_lt (by omega) (by omega)),rfl,by go_num,by omega,by omega,u,i,C,p,m.trans J⟩
    case measure=>simp[intOf];omega
  ·have a5:k=W.length:=by omega
   subst a5;have a4:=f.out.done a2.out a0.out F O.out;clear f;obtain⟨d1,d2,d3⟩:=a4;have S:=hid d1;clear d1;rcases d3 with⟨rfl,T⟩|⟨rfl,T⟩
   ·have I:=hid T
    clear T;go_wp2_with fail
    go_ret
    exact⟨m,o,⟨0,rfl,S.out,d2,.inl ⟨rfl,I.out⟩⟩,q⟩
   ·have I:=hid T
    clear T;go_wp2_with fail
    go_ret
    exact⟨m,o,⟨1,rfl,S.out,d2,.inr ⟨rfl,I.out⟩⟩,q⟩
def c1o(W V:List Nat)(n:Nat)(o:List Nat)(e:Ending):Prop:=∃c:Nat,e=.returned (.tuple #[])/\o.length=n+1/\Dig o/\c<=1/\nv o+B^(n+1)*c=nv W+nv V
theorem a9y(X:Nat->Bool)(base g K cw:Nat)(A W R V:List Nat)(Z:Option Addr)(cv n:Nat)(w:World)(S:OL (a0c .u32) 1 X base 114 w (some ⟨g,0,none⟩) K (A++W++R))(G:Sl (a0c .u32) 1 (mk (un X (some ⟨g,0,none⟩)) w) Z V)(U:W.length=n+1)(T:V.length=n)(B:Dig V)(M:Dig W)(_:A.length<=1099511627776)(hn:n<=1099511627776):Calls Tryz.prog 204 #[.slice (some ⟨g,A.length,none⟩) W.length cw,.slice Z V.length cv] w (b6m X base g K w A R (c1o W V n)):=by
 have a1:=G.hd;have a2:Hd (some (⟨g,A.length,none⟩:Addr)) W.length:=fun _=>⟨_,_,rfl⟩;have N:=hid U;have L:=hid T;have a0:W.length<=1099511627777:=by omega
 clear U T;go_enter Tryz.func204,Tryz.ntmps204
 go_wp2_with fail
 go_loopw [4,9] (fun a c wr=>∃(k f:Nat) (o:List Nat),a=.int .u32 f/\c=.int .i64 k/\k<=W.length/\f<=1/\Hid (a4Y W V o k f)/\Hid (o.length=W.length)/\OL (a0c .u32) 1 X base 114 wr (some ⟨g,0,none⟩) K (A++o++R)/\ExtX (ob (some ⟨g,0,none⟩)) w wr) (fun _ c _=>W.length - (intOf c).toNat)
 case atStart=>exact⟨0,0,W,rfl,rfl,by omega,by omega,hid (a4Y.start M),hid rfl,S,ExtX.refl _⟩
 case round=>
  obtain⟨k,f,o,rfl,rfl,hk,H,b,E,v,u⟩:=hrel;clear S;by_cases D:k<W.length
  ·have p:k<o.length:=by rw[E.out];exact D
   have l:A.length+k<(A++o++R).length:=by simp;omega
   have h:=(v.sl (a0c.elem _)).nat (A.length+k) l;rw[b2J p]at h;obtain⟨z,hz⟩:=c1F (o[k]);rw[hz]at h;have Y:wr.cell? ⟨g,A.length+k,none⟩=some (.int .u32 z):=by rw[a2d,Nat.zero_add]at h;exact h
   have j:=G.unstep (a0c.mono _) u (.inl rfl);by_cases C:k<V.length
   ·have O:=j.nat k C
    obtain⟨y,J⟩:=c1F (V[k]);rw[J]at O;obtain⟨s,F⟩:=b.out.step (y:=y) (z:=z) D ((a0B C).trans J) ((a0B p).trans hz) B;have I:=B.get k C;rw[J,a1t]at I;have t:=hid s;have r:=hid (a7O (A:=A) (R:=R) (d:=(z+y+f)%4294967296) p);have m:(z+y+f)/4294967296<=1:=by omega
    have q:Hid ((o.set k ((z+y+f)%4294967296)).length=W.length):=hid (by rw[List.length_set];exact E.out);clear s hz J b j h;go_wp2_with (first|(with_reducible refine a0v a0Q ?_)|(go_at_call 173;refine(a4V _ _ _ _ F I H).mono ?_;rintro e w' ⟨rfl,rfl⟩)|((with_reducible refine c1J ?_);refine a0W a3V (A.length+k) ((z+y+f)%4294967296) (a7P g A.length k) rfl v l rfl rfl ?_;intro w3 i x))
    rw[r.out]at i;go_roundw
    case rel=>exact⟨k+1,_,_,rfl,by go_num,by omega,m,t,q,i,u.trans x⟩
    case measure=>simp[intOf];omega
   ·obtain⟨s,F⟩:=b.out.step (y:=0) (z:=z) D (a4p (by omega)) ((a0B p).trans hz) B
    have t:=hid s;have r:=hid (a7O (A:=A) (R:=R) (d:=(z+0+f)%4294967296) p);have m:(z+0+f)/4294967296<=1:=by omega
    have q:Hid ((o.set k ((z+0+f)%4294967296)).length=W.length):=hid (by rw[List.length_set];exact E.out);clear s hz b j h;go_wp2_with (first|(with_reducible refine a0v a0Q ?_)|(go_at_call 173;refine(a4V _ 0 _ _ F (by omega) H).mono ?_;rintro e w' ⟨rfl,rfl⟩)|((with_reducible refine c1J ?_);refine a0W a3V (A.length+k) ((z+0+f)%4294967296) (a7P g A.length k) rfl v l rfl rfl ?_;intro w3 i x))
    rw[r.out]at i;go_roundw
    case rel=>exact⟨k+1,_,_,rfl,by go_num,by omega,m,t,q,i,u.trans x⟩
    case measure=>simp[intOf];omega
  ·have Q:k=W.length:=by omega
   subst Q;have P:=hid (b.out.done N.out L.out);go_wp2_with fail
   exact bodyPost_end (results_none rfl _ _ _) rfl ⟨u,o,⟨f,rfl,P.out⟩,v⟩
def b8Z(X:Nat->Bool)(w:World)(na nb:Nat)(e:Ending)(w':World):Prop:=
 Ext w w'/\∃ao cap l,e=.returned (.tuple #[.slice ao l.length cap,.bool (decide (nb<=na))])/\l.length<=cap/\a0M l (na - nb)/\Sl (a0c .u32) 1 (mk X w') ao l
theorem b7n(X:Nat->Bool)(ao bo:Option Addr)(G H:List Nat)(ca cb:Nat)(w:World)(V:Sl (a0c .u32) 1 (mk X w) ao G)(Y:Sl (a0c .u32) 1 (mk X w) bo H)(p:Dig G)(q:Dig H)(R:G.length<=1099511627776)(S:H.length<=1099511627776)(z:G.length<=ca)(A:H.length<=cb)(hX:∀k,X k=true->k<w.heap.size)(u nb:Nat)(T:val G=u)(U:val H=nb):Calls Tryz.prog 141 #[.slice ao G.length ca,.slice bo H.length cb] w (b8Z X w u nb):=by
 go_enter Tryz.func141,Tryz.ntmps141
 go_wp2_with fail
 refine(a1x X _ _ _ _ V p (by omega) z).mono ?_;rintro e w' ⟨rfl,b2,b4,a,rfl,O,K,d,l⟩;go_wp2_with fail
 refine(a1x X _ _ _ _ Y q (by omega) A).mono ?_;rintro e w' ⟨rfl,b3,b5,b,rfl,P,M,f,m⟩;rw[T]at d;rw[U]at f;have L:a.length<=1099511627776:=c1A K R;have N:b.length<=1099511627776:=c1A M S;have a1:=hid d.val;have a2:=hid f.val;clear T U K M V Y R S z A p q;go_wp2_with fail
 refine(a3z X _ _ _ _ _ _ _ l m d.1 f.1 L N O P u nb a1.out a2.out).mono ?_;rintro e w1 ⟨s,rfl⟩;by_cases j:u<nb
 ·have hc:a3f u nb<0:=(a3R _ _).2 j
  have hd:Hid (decide (nb<=u)=false):=hid (decide_eq_false (by omega));have hz:Hid (u - nb=0):=hid (by omega);clear j;go_wp2_with fail
  go_ret2
  exact⟨s,none,0,[],by rw[hd.out];rfl,by simp,by rw[hz.out];exact a0M.nil,Sl.nil _ _ _ _⟩
 ·have hc:¬a3f u nb<0:=fun h=>j ((a3R _ _).1 h)
  have hd:Hid (decide (nb<=u)=true):=hid (decide_eq_true (by omega));have a4:b.length<=a.length:=by rw[d.len,f.len];exact a1l (by omega)
  have a8:Hid (nv b<=nv a):=hid (by rw[d.2.2,f.2.2];omega);have a0:Hid (nv a - nv b=u - nb):=hid (by rw[d.2.2,f.2.2]);have a3:∀k,X k=true->k<w1.heap.size:=fun k hk=>c1C (hX k hk) s.size;have W:=l.mono (a0c.mono _) (a0k s);have Z:=m.mono (a0c.mono _) (a0k s);have p:=d.1;have q:=f.1;have b6:=l.hd;have b7:=m.hd;clear j d f a1 a2 l m;go_wp2_with (at_make;refine a2x a0Q (a0c.elem .u32) 0 (fun _=>rfl) X a3 w1.heap.size (c1B _) a.length rfl rfl (by omega) (by omega) (by omega) ?_;intro oo w2 hO J)
  go_loopw [7,24] (fun c i wr=>∃(k:Nat) (o:List Nat) (I:Nat),i=.int .i64 k/\c=.int .u32 I/\k<=a.length/\a4W a b o k I/\OL (a0c .u32) 1 X w1.heap.size 114 wr oo a.length o/\Ext w1 wr) (fun _ i _=>a.length - (intOf i).toNat)
  case atStart=>exact⟨0,_,0,rfl,rfl,by omega,a4W.start a b,hO,J⟩
  case round=>
   obtain⟨k,o,I,rfl,rfl,hk,g,n,t⟩:=hrel;clear hO J;have Q:=g.2.2.1;have r:=hid g.1;have b8:Hd oo a.length:=r.out▸n.hd;by_cases j:k<a.length
   ·have z:=(W.mono (a0c.mono _) (a0k t)).nat k j
    have v:=p.get k j;obtain⟨x,hx⟩:=c1F (a[k]);rw[hx]at z v;rw[a1t]at v;by_cases E:k<b.length
    ·have A:=(Z.mono (a0c.mono _) (a0k t)).nat k E
     have D:=q.get k E;obtain⟨y,hy⟩:=c1F (b[k]);rw[hy]at A D;rw[a1t]at D;have F:=g.step (y:=y) j hx ((a0B E).trans hy) p q;clear hx hy;go_wp2_with (first|(with_reducible refine a0v a0Q ?_)|(go_at_call 185;refine(a5a _ _ _ _ v D Q).mono ?_;rintro e w' ⟨rfl,rfl⟩)|((with_reducible refine c1J ?_);refine a0W a3V k (a4H x y I) rfl (by omega) n (by rw[r.out];omega) rfl rfl ?_;intro w3 C B))
     go_roundw
     case rel=>exact⟨k+1,_,_,by go_num,rfl,by omega,F,C,t.own n (c1B _) B⟩
     case measure=>simp[intOf];omega
    ·have F:=g.step j hx (a4p (by omega)) p q
     clear hx;go_wp2_with (first|(with_reducible refine a0v a0Q ?_)|(go_at_call 185;refine(a5a _ 0 _ _ v (by omega) Q).mono ?_;rintro e w' ⟨rfl,rfl⟩)|((with_reducible refine c1J ?_);refine a0W a3V k (a4H x 0 I) rfl (by omega) n (by rw[r.out];omega) rfl rfl ?_;intro w3 C B))
     go_roundw
     case rel=>exact⟨k+1,_,_,by go_num,rfl,by omega,F,C,t.own n (c1B _) B⟩
     case measure=>simp[intOf];omega
   ·have a6:k=a.length:=by omega
    subst a6;have a5:=hid (g.done a4 a8.out);have a9:=g.2.1;have b1:=n.sl (a0c.elem .u32);go_wp2_with fail
    rw[<-r.out];refine(a2a X _ _ _ _ b1 a9 (by rw[r.out];omega) (by rw[r.out];exact c1B _)).mono ?_;rintro e w' ⟨rfl,l',rfl,a7,hc,b0⟩;go_wp2_with fail
    go_ret2
    rw[a5.out,a0.out]at hc;exact⟨s.trans t,_,o.length,l',by rw[hd.out];rfl,a7,hc,b0⟩
theorem a7Q:Lib.len8tab.size=256:=by decide+kernel
theorem b7o:∀n:Fin 256,(Lib.len8tab[n.val]'(by rw[a7Q];exact n.isLt)).toNat=Lib.bitLen n.val:=by decide+kernel
theorem b0F(i:Nat)(h:i<Lib.len8tab.size):(Lib.len8tab[i]).toNat=Lib.bitLen i:=b7o ⟨i,by rw[a7Q]at h;exact h⟩
theorem b7p(b:Nat)(h:b<=64):wrap64 (b:Int)=b:=by unfold wrap64;omega
theorem b2K(k b:Nat)(h:b<=64)(a:k<=64):wrap64 ((k:Int)+wrap64 (b:Int))=((k+b:Nat):Int):=by rw[b7p b h];unfold wrap64;omega
theorem c1p(x:Int)(_:0<=x)(h:16777216<=x)(b:x<=4294967295)(c:(x/65536/256).toNat<Lib.len8tab.size)(n:Int)(a:n=24):wrap64 (n+wrap64 ((Lib.len8tab[(x/65536/256).toNat].toNat:Nat):Int))=(Lib.bitLen x.toNat:Int):=by
 subst a;rw[b0F];have e:(x/65536/256).toNat=x.toNat/16777216:=by omega
 rw[e,Lib.bitLen_shift24 x.toNat (by omega) (by omega)];exact b2K 24 _ (c1A (Lib.bitLen_le _ 8 (by omega) (by omega)) (by omega)) (by omega)
theorem c1q(x:Int)(_:0<=x)(h:65536<=x)(b:x<16777216)(c:(x/65536).toNat<Lib.len8tab.size)(n:Int)(a:n=16):wrap64 (n+wrap64 ((Lib.len8tab[(x/65536).toNat].toNat:Nat):Int))=(Lib.bitLen x.toNat:Int):=by
 subst a;rw[b0F];have e:(x/65536).toNat=x.toNat/65536:=by omega
 rw[e,Lib.bitLen_shift16 x.toNat (by omega) (by omega)];exact b2K 16 _ (c1A (Lib.bitLen_le _ 8 (by omega) (by omega)) (by omega)) (by omega)
theorem c1r(x:Int)(_:0<=x)(h:256<=x)(b:x<65536)(c:(x/256).toNat<Lib.len8tab.size)(n:Int)(a:n=8):wrap64 (n+wrap64 ((Lib.len8tab[(x/256).toNat].toNat:Nat):Int))=(Lib.bitLen x.toNat:Int):=by
 subst a;rw[b0F];have e:(x/256).toNat=x.toNat/256:=by omega
 rw[e,Lib.bitLen_shift8 x.toNat (by omega) (by omega)];exact b2K 8 _ (c1A (Lib.bitLen_le _ 8 (by omega) (by omega)) (by omega)) (by omega)
theorem c1s(x:Int)(a:0<=x)(b:x<256)(c:x.toNat<Lib.len8tab.size):wrap64 (wrap64 ((Lib.len8tab[x.toNat].toNat:Nat):Int))=(Lib.bitLen x.toNat:Int):=by
 rw[b0F];have:=Lib.bitLen_le x.toNat 8 (by omega) (by omega);rw[b7p _ (by omega),b7p _ (by omega)]
theorem b2L(x:Int)(w:World)(a:0<=x)(b:x<=4294967295):Calls Tryz.prog 209 #[.int .u32 x] w fun e c=>e=.returned (.int .i64 (Lib.bitLen x.toNat))/\c=w:=by
 have d:=a7Q;go_enter Tryz.func209,Tryz.ntmps209
 go_wp2
 ·go_ret
  exact⟨congrArg Ending.returned (congrArg (Value.int IntKind.i64) (c1p x a (by omega) b _ _ rfl)),rfl⟩
 ·go_ret
  exact⟨congrArg Ending.returned (congrArg (Value.int IntKind.i64) (c1q x a (by omega) (by omega) _ _ rfl)),rfl⟩
 ·go_ret
  exact⟨congrArg Ending.returned (congrArg (Value.int IntKind.i64) (c1r x a (by omega) (by omega) _ _ rfl)),rfl⟩
 ·go_ret
  exact⟨congrArg Ending.returned (congrArg (Value.int IntKind.i64) (c1s x a (by omega) _)),rfl⟩
def lz(x:Nat):Nat:=32 - Lib.bitLen x
theorem a4B:∀(f x:Nat),0<x->x<2^f->2^(Lib.bitLenAux f x)<=2*x/\x<2^(Lib.bitLenAux f x)/\Lib.bitLenAux f x<=f
 |0,x,h,h2=>by simp at h2;omega
 |f+1,x,h,h2=>by
  simp only[Lib.bitLenAux];rw[if_neg (by omega)];by_cases h1:x=1
  ·subst h1
   have:Lib.bitLenAux f (1/2)=0:=by cases f<;>simp[Lib.bitLenAux]
   rw[this];simp
  ·obtain⟨a,b,c⟩:=a4B f (x/2) (by omega) (by rw[Nat.pow_succ]at h2;omega)
   rw[Nat.add_comm 1,Nat.pow_succ];exact⟨by omega,by omega,by omega⟩
theorem b7q{x:Nat}(f:0<x)(i:x<4294967296):lz x<32/\4294967296<=2*(x*2^lz x)/\x*2^lz x<4294967296:=by
 obtain⟨a,b,c⟩:=a4B 64 x f (by omega);have g:Lib.bitLen x<=32:=Lib.bitLen_le x 32 (by omega) (by omega);have d:1<=Lib.bitLen x:=by
  by_cases h:Lib.bitLen x=0
  ·unfold Lib.bitLen at h;rw[h]at b;simp at b;omega
  ·omega
 change 2^Lib.bitLen x<=2*x at a
 change x<2^Lib.bitLen x at b
 have e:2^Lib.bitLen x*2^lz x=4294967296:=by rw[<-Nat.pow_add];unfold lz;rw[show Lib.bitLen x+(32 - Lib.bitLen x)=32 by omega]
 refine⟨by unfold lz;omega,?_,?_⟩
 ·rw[<-e,<-Nat.mul_assoc];exact Nat.mul_le_mul_right _ a
 ·rw[<-e];exact Nat.mul_lt_mul_of_pos_right b (Nat.two_pow_pos _)
theorem b9a(x:Nat)(w:World)(c:0<x)(d:x<4294967296):Calls Tryz.prog 200 #[.int .u32 x] w fun e a=>w=a/\e=.returned (.int .i64 (lz x:Nat)):=by
 have b:Lib.bitLen x<=32:=Lib.bitLen_le x 32 (by omega) (by omega);have hz:Hid ((32:Int) - (Lib.bitLen x:Nat)=(lz x:Nat)):=hid (by unfold lz;omega);go_enter Tryz.func200,Tryz.ntmps200
 go_wp2_with fail
 refine(b2L (x:Int) w (by omega) (by omega)).mono ?_;rintro e a ⟨rfl,rfl⟩;rw[Int.toNat_natCast];go_wp2_with fail
 go_ret
 exact⟨rfl,a0N hz.out⟩
theorem a5D{k:IntKind}:∀(h a:Mem) (u:Value) (x:Nat),a0c k h u x->a0c k a u x:=fun _ _ _ _ h=>h
theorem OL.remask{α:Type}{R:Mem->Value->α->Prop}{sz:Nat}{X Z:Nat->Bool}{base:Nat}{e:TypeId}{w:World}{ao:Option Addr}{a:Nat}{l:List α}(b:∀h d u x,R h u x->R d u x)(h:OL R sz X base e w ao a l)(hz:∀k,ob ao k=true->Z k=false):OL R sz Z base e w ao a l:=by
 obtain⟨_,p,f,g,j,m,n⟩:=h;exact⟨hz,p,f,g,j,m,fun i o c=>b _ _ _ _ (n i o c)⟩
theorem OL.skip{α:Type}{R:Mem->Value->α->Prop}{sz:Nat}{X Y:Nat->Bool}{base:Nat}{e:TypeId}{w c:World}{ao:Option Addr}{a:Nat}{l:List α}(g:Elem R sz)(b:∀h d u x,R h u x->R d u x)(h:OL R sz X base e w ao a l)(f:ExtX Y w c)(hd:∀k,ob ao k=true->Y k=false):OL R sz X base e c ao a l:=
 ((h.remask b (Z:=Y) hd).ext g f (Z:=Y) (fun _ _ h=>h) (fun _ _ h=>h)).remask b h.1
theorem a6j{g k:Nat}(h:ob (some ⟨g,0,none⟩) k=true):k=g:=by
 have e:g=k:=by simpa[ob]using h
 exact e.symm
theorem b4K{g k:Nat}(h:k≠g):ob (some ⟨g,0,none⟩) k=false:=by
 cases a:ob (some ⟨g,0,none⟩) k
 ·rfl
 ·exact absurd (a6j a) h
theorem OL.at_block{α:Type}{R:Mem->Value->α->Prop}{sz:Nat}{X:Nat->Bool}{base:Nat}{e:TypeId}{w:World}{ao:Option Addr}{a:Nat}{l:List α}(h:OL R sz X base e w ao a l)(f:0<l.length):∃g,ao=some ⟨g,0,none⟩/\base<=g/\g<w.heap.size:=by
 rcases h.form with⟨_,_,rfl⟩|⟨g,b,rfl,c,d,_⟩
 ·simp at f
 ·exact⟨g,rfl,c,(Array.getElem?_eq_some_iff.1 d).1⟩
theorem b6n{P:Program}{ops:Array Oper}{Q:Exit->Act->World->Prop}{rest:List Oper}{a:Act}{w:World}{d:Option Tmp}{ty:TypeId}{ps:String}{af:Array Edge}{t e f:Nat}{z:Value}{x lo c:Operand}{p q:IntKind}{m n:Int}{g len b:Nat}(T:SliceT P t e 1 f z)(i j:Nat)(A:a.eval x=.slice (some ⟨g,0,none⟩) len b)(l:a.eval lo=.int p m)(v:m=(i:Int))(k:a.eval c=.int q n)(y:n=(j:Int))(s:i<j)(u:j<=b)(K:wpList P ops Q rest (a.put d (.slice (some ⟨g,i,none⟩) (j - i) (b - i))) w):wpList P ops Q (⟨d,.slice t x (some lo) (some c) none,ty,ps,af,none⟩::rest) a w:=by
 refine wpList_plain rfl fun B h=>?_;subst v;subst y;have o:=a5S (P:=P) (ao:=some ⟨g,0,none⟩) T len b p q i j (by omega) u w;have r:a1b (some ⟨g,0,none⟩) i b 1=some ⟨g,i,none⟩:=by
  have:¬b=i:=by omega
  simp[a1b,this,Addr.add_lit]
 rw[r]at o;unfold Oper.wp;simp[execOp,A,l,k,o,Result.andThen];exact h _ _ K
def c0p(X:Nat->Bool)(w:World)(q r:Nat)(e:Ending)(w':World):Prop:=
 Ext w w'/\∃ao cap l bo cbp m,e=.returned (.tuple #[.slice ao l.length cap,.slice bo m.length cbp])/\l.length<=cap/\a0M l q/\Sl (a0c .u32) 1 (mk X w') ao l/\m.length<=cbp/\a0M m r/\Sl (a0c .u32) 1 (mk X w') bo m
theorem b1u(X:Nat->Bool)(ao bo:Option Addr)(a b:List Nat)(ca cb:Nat)(w:World)(hsa:Sl (a0c .u32) 1 (mk X w) ao a)(hsb:Sl (a0c .u32) 1 (mk X w) bo b)(na nb:Nat)(hca:a0M a na)(hcb:a0M b nb)(hle:nb<=na)(hb2:2<=b.length)(hal:a.length<=1099511627776)(hX:∀k,X k=true->k<w.heap.size):Calls Tryz.prog 171 #[.slice ao a.length ca,.slice bo b.length cb] w (c0p X w (na/nb) (na%nb)):=by
 have hhb:=hsb.hd;have hcbl:=hsb.nat (b.length - 1) (by omega);have hbl:b.length<=a.length:=by rw[hca.len,hcb.len];exact a1l hle
 obtain⟨t,ht⟩:=c1F (b[b.length - 1]'(by omega));have htB:=hcb.1.get (b.length - 1) (by omega);have ht0:t≠0:=by
  have:=hcb.2.1;rw[a3x (by omega)]at this;rw[<-ht];simpa using this
 rw[ht]at hcbl;rw[ht,a1t]at htB;obtain⟨s,hs⟩:=c1F (lz t);have hlz:=b7q (show 0<t by omega) htB;rw[hs]at hlz;obtain⟨hs32,hn1,hn2⟩:=hlz;have ht':=hid ht;have hlz1:=hid hn1;have hlz2:=hid hn2;have hlzc:∀W,Calls Tryz.prog 200 #[.int .u32 t] W fun e w'=>W=w'/\e=.returned (.int .i64 (s:Nat)):=fun W=>by rw[<-hs];exact b9a t W (by omega) htB
 clear hn1 hn2 ht;go_enter Tryz.func171,Tryz.ntmps171
 go_wp2_with (first|(with_reducible refine a0v a0Q ?_)|(go_at_call 200;refine(hlzc _).mono ?_;rintro e w' ⟨rfl,rfl⟩))
 clear hs hlzc hcbl;refine(a6x noY ao a ca s w (hsa.mono (a0c.mono _) (by rw[a4U];exact b8P X w)) hca.1 hal hs32 (fun k hk=>by simp[noY]at hk)).mono ?_;rintro e w1 ⟨hE1,uo,U,rfl,hU,hUf⟩;have hsb1:=hsb.mono (a0c.mono _) (a0k hE1);go_wp2_with fail
 refine(a6x noY bo b cb s w1 (hsb1.mono (a0c.mono _) (by rw[a4U];exact b8P X w1)) hcb.1 (by omega) hs32 (fun k hk=>by simp[noY]at hk)).mono ?_;rintro e w2 ⟨hE2,vo,V0,rfl,hV0,hVf⟩;have hV0l:V0.length<=1099511627777:=by rw[hVf.out.1];omega
 obtain⟨gu,rfl,hgu1,hgu2⟩:=hU.at_block (by rw[hUf.out.1];omega);have hV1:Sl (a0c .u32) 1 (mk (ob (some ⟨gu,0,none⟩)) w2) vo V0:=(hV0.remask a5D (Z:=ob (some ⟨gu,0,none⟩)) (fun k hk=>b4K (by have:=(hV0.block hk).1;omega))).sl (a0c.elem _);go_wp2_with fail
 refine(a2a (ob (some ⟨gu,0,none⟩)) vo V0 V0.length w2 hV1 hVf.out.2.1 (by omega) (c1B _)).mono ?_;rintro e w' ⟨rfl,V,rfl,hVl',hVc,hVs⟩;obtain⟨m,hm⟩:∃m,a.length=m+b.length:=⟨a.length - b.length,by omega⟩;obtain⟨n,hn⟩:=c1F b.length;rw[hVf.out.2.2.2]at hVc;have hnorm:=b4H hcb.1 hn (by omega) ((a0B (by omega)).trans (by rw[<-ht'.out];congr 1;omega)) hs32 hlz1.out hlz2.out hVc;have hna:nv a=na:=hca.2.2;have hnb:nv b=nb:=hcb.2.2;have hnvV:=hVc.2.2;rw[hnb]at hnvV;have hVd:=hVc.1;have hUl:U.length=m+1+n:=by rw[hUf.out.1,hm,hn];omega
 have hUd:=hUf.out.2.1;have hst0:=a3X.start (m:=m) (n:=n) (a:=na) hUd hUl (by omega) (by rw[hUf.out.2.2.2,hna]) (by have:=hUf.out.2.2.1;rw[hm,hn]at this;exact this) hs32 hnorm.1 hnorm.2;obtain⟨hVn,hVt⟩:=hnorm;have hst:=hid hst0;have hUo:=hU.ext0 (a0c.elem _) hE2;rw[hn]at hm |-;rw[hm];have hmb:m<=1099511627776:=by omega
 have hnb2:2<=n:=by omega
 have hnb3:n<=1099511627776:=by omega
 have hVt':=hid hVt;have hVn':=hid hVn;have hUl':=hid hUl;have hnvV':=hid hnvV;have hE12:=hE1.trans hE2;clear hst0 hVt hVn hUl hnvV hna hnb hV1 hUf hVf hV0l hU hsa hsb hsb1 hcb hca hle hb2 hbl hal hhb ht0 htB ht' hlz1 hlz2 hVc hVl' hV0 hUd;go_wp2_with (at_make;refine a2x a0Q (a0c.elem .u32) 0 (fun _=>rfl) noY (fun k hk=>by simp[noY]at hk) w2.heap.size (c1B _) (m+1) rfl rfl (by omega) (by omega) (by omega) ?_;intro qo w3 hQ hE3)
 have hqb:∀k,ob qo k=true->w2.heap.size<=k:=fun k hk=>(hQ.block hk).1;have hgq:ob qo gu=false:=by
  cases hh:ob qo gu
  ·rfl
  ·have:=hqb gu hh;have:=hE2.size;omega
 have hU3:OL (a0c .u32) 1 (un noY qo) w.heap.size 114 w3 (some ⟨gu,0,none⟩) U.length U:=(hUo.ext0 (a0c.elem _) hE3).remask a5D (fun k hk=>by have:=a6j hk;subst this;simp[un,noY,hgq]);have hQ3:OL (a0c .u32) 1 (un noY (some ⟨gu,0,none⟩)) w2.heap.size 114 w3 qo (m+1) (List.replicate (m+1) 0):=hQ.remask a5D (fun k hk=>by
  have h1:=hqb k hk;have h2:ob (some ⟨gu,0,none⟩) k=false:=b4K (by have:=hE2.size;omega);simp[un,noY,h2])
 have hV3:Sl (a0c .u32) 1 (mk (un (un noY qo) (some ⟨gu,0,none⟩)) w3) vo V:=hVs.mono (a0c.mono _) (a1g hE3 (fun k _ hk=>by simp[noY]at hk) fun k hk hz=>by
  have h1:ob qo k=false:=by
   cases hh:ob qo k
   ·rfl
   ·have:=hqb k hh;omega
  simpa[un,noY,h1]using hz)
 have hE13:=hE12.trans hE3;have hwq:w.heap.size<=w2.heap.size:=hE12.size;have hqX:∀k,ob qo k=true->X k=false:=fun k hk=>by
  cases hh:X k
  ·rfl
  ·have:=hX k hh;have:=hqb k hk;omega
 have hgw:gu<w2.heap.size:=c1C hgu2 hE2.size;have hUc:m+1+n<=U.length:=by rw[hUl'.out];exact c1B _
 have hhv:=hVs.hd;clear hUo hQ hVs hE1 hE2 hE3 hE12 hm hn;go_loopw [10] (fun c wr=>∃(k:Nat) (x:Int) (U' Q:List Nat),c=.int .i64 x/\x=(k:Int) - 1/\k<=m+1/\Hid (a3X (na*2^s) V U' Q k)/\Hid (U'.length=m+1+n)/\Hid (Q.length=m+1)/\OL (a0c .u32) 1 (un noY qo) w.heap.size 114 wr (some ⟨gu,0,none⟩) U.length U'/\
  OL (a0c .u32) 1 (un noY (some ⟨gu,0,none⟩)) w2.heap.size 114 wr qo (m+1) Q/\Sl (a0c .u32) 1 (mk (un (un noY qo) (some ⟨gu,0,none⟩)) wr) vo V/\Ext w wr) (fun c _=>(intOf c+1).toNat)
 case atStart=>exact⟨m+1,_,U,_,rfl,by omega,by omega,hst,hUl',hid (by simp),hU3,hQ3,hV3,hE13⟩
 case round=>
  obtain⟨k,x,U',Q,rfl,hx,hk,hinv,hUl2,hQl,hUr,hQr,hVr,hEr⟩:=hrel;clear hU3 hQ3 hV3 hE13 hst;have hhq:Hd qo (m+1):=by have:=hQr.hd;rwa[hQl.out]at this
  cases k with
  |zero=>
   obtain rfl:x= -1:=by omega
   obtain⟨hd1,hd2,hd3⟩:=hinv.out.done rfl hnvV'.out;have hUd:=hinv.out.1;have hQd:=hinv.out.2.1;have hd1':=hid hd1;have hd2':=hid hd2;have hlast:Hid (nv U'/2^s<B^n):=hid (Nat.lt_of_le_of_lt (Nat.div_le_self _ _) (Nat.lt_trans hd3 (by have:=a4Q hVd;rwa[hVn'.out]at this)));have hUr2:=hUr.remask a5D (Z:=noY) (fun k hk=>rfl);have hub:∀k,ob (some ⟨gu,0,none⟩) k=true->k<wr.heap.size:=fun k hk=>(hUr.block hk).2;have hqb2:∀k,ob qo k=true->k<wr.heap.size:=fun k hk=>(hQr.block hk).2;have hwr:w.heap.size<=wr.heap.size:=hEr.size;have hQr2:=hQr.remask a5D (Z:=noY) (fun k hk=>rfl);clear hx hd1 hd2 hd3 hinv hUr hQr hVr hqb hgq hwq hgw hgu1 hgu2 hhv;go_wp2_with (at_make;refine a2x a0Q (a0c.elem .u32) 0 (fun _=>rfl) noY (fun k hk=>by simp[noY]at hk) wr.heap.size (c1B _) n rfl rfl (by omega) (by omega) (by omega) ?_;intro ro w4 hR hE4)
   have hU4:=hUr2.ext0 (a0c.elem _) hE4;have hQ4:=hQr2.ext0 (a0c.elem _) hE4;have hE5:=hEr.trans hE4;have hrb:∀k,ob ro k=true->wr.heap.size<=k:=fun k hk=>(hR.block hk).1;have hrX:∀k,ob ro k=true->X k=false:=fun k hk=>by
    cases hh:X k
    ·rfl
    ·have:=hX k hh;have:=hrb k hk;omega
   clear hUr2 hQr2 hE4 hEr;go_loopw [103] (fun c wx=>∃(i:Nat) (o:List Nat),c=.int .i64 i/\i<=n/\Hid (a4Z U' o s n i)/\Hid (o.length=n)/\OL (a0c .u32) 1 noY wr.heap.size 114 wx ro n o/\ExtX (ob ro) w4 wx/\Ext w wx) (fun c _=>n - (intOf c).toNat)
   case atStart=>exact⟨0,_,rfl,by omega,hid (a4Z.start U' s n),hid (by simp),hR,ExtX.refl _,hE5⟩
   case round=>
    obtain⟨i,o,rfl,hi,hinv,hol,hO,hEx,hEw⟩:=hrel;clear hR hE5;have hho:Hd ro n:=by have:=hO.hd;rwa[hol.out]at this
    have hUx:=hU4.skip (a0c.elem _) a5D hEx (fun k hk=>by
     cases hh:ob ro k
     ·rfl
     ·have:=hrb k hh;have:=hub k hk;omega)
    by_cases hlt:i<n
    ·have hi1:i+1<U'.length:=by rw[hUl2.out];omega
     have hs:=hUx.sl (a0c.elem _);have c1:=hs.nat (i+1) hi1;have c0:=hs.nat i (by omega);obtain⟨x,hx⟩:=c1F (U'[i+1]);obtain⟨y,hy⟩:=c1F (U'[i]'(by omega));have bx:=hUd.get (i+1) hi1;have by_:=hUd.get i (by omega);rw[hx,a1t]at bx;rw[hy,a1t]at by_;rw[hx,a2d,Nat.zero_add]at c1;rw[hy,a2d,Nat.zero_add]at c0;have hst:=hid (hinv.out.step hlt hs32 hi1 hUd hx hy);have hhu:Hd (some (⟨gu,0,none⟩:Addr)) U.length:=fun _=>⟨_,_,rfl⟩;have i1:∀W,(Instr.indexAt 43 (.slice (some ⟨gu,0,none⟩) U.length U.length) (.int .i64 ((i:Int)+1))).run Tryz.prog W=.ok (.pointer (some ⟨gu,i+1,none⟩)) W:=fun W=>by
      have:=a0y a0Q (some ⟨gu,0,none⟩) U.length U.length .i64 (i+1) (m:=(i:Int)+1) hhu (by omega) (by omega) W;rwa[a2d,Nat.zero_add]at this
     have i2:∀W,(Instr.indexAt 43 (.slice (some ⟨gu,0,none⟩) U.length U.length) (.int .i64 (i:Int))).run Tryz.prog W=.ok (.pointer (some ⟨gu,i,none⟩)) W:=fun W=>by
      have:=a0y a0Q (some ⟨gu,0,none⟩) U.length U.length .i64 i (m:=(i:Int)) hhu (by omega) rfl W;rwa[a2d,Nat.zero_add]at this
     have i3:∀W,(Instr.indexAt 43 (.slice ro n n) (.int .i64 (i:Int))).run Tryz.prog W=.ok (.pointer (some (adr ro i))) W:=a0y a0Q ro n n .i64 i hho hlt rfl;have s1:IntKind.i64.wrap ((i:Int)+1)=(i:Int)+1:=IntWalk.i64_in _ (by omega);have hor:=a7N x y bx by_;have hval:Hid (IntKind.u32.wrap (bits BinOp.or IntKind.u64 (IntKind.u64.wrap (IntKind.u64.wrap (x:Int)*4294967296)) (IntKind.u64.wrap (y:Int))/2^s)=(((x*4294967296+y)/2^s%4294967296:Nat):Int)):=hid (by
      rw[IntWalk.u64_in (x:Int) (by omega),IntWalk.u64_in ((x:Int)*4294967296) (by omega),IntWalk.u64_in (y:Int) (by omega),hor,IntKind.wrap_u32];simp)
     clear hx hy hinv hs;go_wp2_with fail
     go_still_tail 19,(by kernel_rfl)
     change wpList _ _ _ _ _ wr.drew
     have hEd:ExtX noY wr wr.drew:=(ExtX.refl wr).drew;have hOd:=hO.ext0 (a0c.elem _) hEd;have hExd:=hEx.trans (ExtX.of hEd);have hEwd:=hEw.trans hEd;generalize wr.drew=wd at hOd hExd hEwd |-;clear i1 i2 i3 c1 c0 hor s1 hEd hO hEx hEw;go_wp2_with ((with_reducible refine c1J ?_);refine a0W a3V i ((x*4294967296+y)/2^s%4294967296) rfl rfl hOd (by rw[hol.out];exact hlt) rfl hval.out ?_;intro w6 hO6 hE6)
     have hol2:Hid ((o.set i ((x*4294967296+y)/2^s%4294967296)).length=n):=hid (by rw[List.length_set];exact hol.out);go_roundw
     case rel=>exact⟨i+1,_,by go_num,by omega,hst,hol2,hO6,hExd.trans hE6,hEwd.own hOd hwr hE6⟩
     case measure=>simp[intOf];omega
    ·have hin:i=n:=by omega
     subst hin;have hQx:=hQ4.skip (a0c.elem _) a5D hEx (fun k hk=>by
      cases hh:ob ro k
      ·rfl
      ·have:=hrb k hh;have:=hqb2 k hk;omega)
     have hfin:=hid (hinv.out.done hlast.out);have hRd:=hinv.out.2.1;have hQs:Sl (a0c .u32) 1 (mk X wr) qo Q:=(hQx.remask a5D (Z:=X) hqX).sl (a0c.elem _);have hOs:Sl (a0c .u32) 1 (mk X wr) ro o:=(hO.remask a5D (Z:=X) hrX).sl (a0c.elem _);have hT1:=a2a X qo Q (m+1) wr hQs hQd (by rw[hQl.out];omega) (by rw[hQl.out];exact c1B _);have hT2:=a2a X ro o i wr hOs hRd (by rw[hol.out];omega) (by rw[hol.out];exact c1B _);rw[hQl.out]at hT1;rw[hol.out]at hT2;have hl1:Q.length<=m+1:=by rw[hQl.out];exact c1B _
     have hl2:o.length<=i:=by rw[hol.out];exact c1B _
     clear hinv hU4 hQ4 hUx hQx hUd;go_wp2_with fail
     refine hT1.mono ?_;rintro e w' ⟨rfl,l1,rfl,h11,h12,h13⟩;go_wp2_with fail
     refine hT2.mono ?_;rintro e w' ⟨rfl,l2,rfl,h21,h22,h23⟩;clear hT1 hT2;go_wp2_with fail
     go_ret2
     rw[hd1'.out]at h12;rw[hfin.out,hd2'.out]at h22;exact⟨hEw,_,_,l1,_,_,l2,rfl,c1A h11 hl1,h12,h13,c1A h21 hl2,h22,h23⟩
  |succ j=>
   obtain rfl:x=(j:Int):=by omega
   clear hx;have hjU:j+(n+1)<=U'.length:=by rw[hUl2.out];omega
   obtain⟨w1,w2',w3',w4,w5,w6,w7⟩:=hinv.out.win hjU hVn'.out hVd;obtain⟨W,hW⟩:=c1F ((U'.drop j).take (n+1));have hge:∀i,i<=n->U'.getD (j+i) 0=W.getD i 0:=fun i hi=>by rw[<-hW];exact(b4I hi).symm
   have hnx:=fun(o:List Nat) h1 h2 h3=>(fun(p:_/\_)=>And.intro p.1 (p.2.trans hUl2.out)) (hinv.out.next (W':=o) hjU (by rw[hQl.out];omega) hVn'.out hVd h1 h2 h3);rw[hW]at w1 w2' w3' w5 w6;simp only[hW]at hnx;obtain⟨A,hA⟩:=c1F (U'.take j);obtain⟨R,hR⟩:=c1F (U'.drop (j+(n+1)));rw[hA]at w5 w7;rw[hR]at w5;simp only[hA,hR]at hnx;obtain⟨e1,e2,e3⟩:=b7l w1 hVn'.out hnb2 w2' hVd hVt'.out w3';have hVp:0<nv V:=by
    by_cases h:nv V=0
    ·rw[h]at w3';omega
    ·omega
   have hUs:=hUr.sl (a0c.elem _);have c2:=hUs.nat (j+n) (by rw[hUl2.out];omega);have c1:=hUs.nat (j+(n - 1)) (by rw[hUl2.out];omega);have c0:=hUs.nat (j+(n - 2)) (by rw[hUl2.out];omega);rw[<-a0B,hge n (by omega),a2d,Nat.zero_add]at c2;rw[<-a0B,hge (n - 1) (by omega),a2d,Nat.zero_add]at c1;rw[<-a0B,hge (n - 2) (by omega),a2d,Nat.zero_add]at c0;have d1:=hVr.nat (n - 1) (by rw[hVn'.out];omega);have d0:=hVr.nat (n - 2) (by rw[hVn'.out];omega);rw[<-a0B]at d1 d0;have b1:=w2'.getD (n - 1);have b0:=w2'.getD (n - 2);have f1:=hVd.getD (n - 1);have f0:=hVd.getD (n - 2);have hvt:=hVt'.out;generalize W.getD n 0=u2 at*;generalize W.getD (n - 1) 0=u1 at*;generalize W.getD (n - 2) 0=u0 at*;generalize V.getD (n - 1) 0=v1 at*;generalize V.getD (n - 2) 0=v0 at*;rw[a1t]at b1 b0 f1 f0 hvt;obtain⟨x,hx⟩:=c1F (a7L B u2 u1 u0 v1 v0);have hx32:x<4294967296:=by rw[<-hx];exact b7m
   have hgs:∀q,Calls Tryz.prog 202 #[.int .u32 u2,.int .u32 u1,.int .u32 u0,.int .u32 v1,.int .u32 v0] (wr.drewN q) fun e w'=>e=.returned (.int .u64 (x:Nat))/\∃m,w'=(wr.drewN q).drewN m:=fun q=>by rw[<-hx];exact b2I u2 u1 u0 v1 v0 _ (by omega) f1 e1 b1 b0 f0
   rw[hx]at e2 e3;have hkk:=hid (fun(c W':Nat)=>a9x (c:=c) (W':=W') hVp e2 e3 (e:=B^(n+1)));have hVp':=hid hVp;have s1:IntKind.i64.wrap ((j:Int)+(n:Int))=(j:Int)+(n:Int):=IntWalk.i64_in _ (by omega);have s2:IntKind.i64.wrap ((j:Int)+(n:Int) - 1)=(j:Int)+(n:Int) - 1:=IntWalk.i64_in _ (by omega);have s3:IntKind.i64.wrap ((j:Int)+(n:Int) - 2)=(j:Int)+(n:Int) - 2:=IntWalk.i64_in _ (by omega);have s4:IntKind.i64.wrap ((n:Int) - 1)=(n:Int) - 1:=IntWalk.i64_in _ (by omega);have s5:IntKind.i64.wrap ((n:Int) - 2)=(n:Int) - 2:=IntWalk.i64_in _ (by omega);have hhu:Hd (some (⟨gu,0,none⟩:Addr)) U.length:=fun _=>⟨_,_,rfl⟩;have i1:∀W,(Instr.indexAt 43 (.slice (some ⟨gu,0,none⟩) U.length U.length) (.int .i64 ((j:Int)+(n:Int)))).run Tryz.prog W=.ok (.pointer (some ⟨gu,j+n,none⟩)) W:=fun W=>by
    have:=a0y a0Q (some ⟨gu,0,none⟩) U.length U.length .i64 (j+n) (m:=(j:Int)+(n:Int)) hhu (by omega) (by omega) W;rwa[a2d,Nat.zero_add]at this
   have i2:∀W,(Instr.indexAt 43 (.slice (some ⟨gu,0,none⟩) U.length U.length) (.int .i64 ((j:Int)+(n:Int) - 1))).run Tryz.prog W=.ok (.pointer (some ⟨gu,j+(n - 1),none⟩)) W:=fun W=>by
    have:=a0y a0Q (some ⟨gu,0,none⟩) U.length U.length .i64 (j+(n - 1)) (m:=(j:Int)+(n:Int) - 1) hhu (by omega) (by omega) W;rwa[a2d,Nat.zero_add]at this
   have i3:∀W,(Instr.indexAt 43 (.slice (some ⟨gu,0,none⟩) U.length U.length) (.int .i64 ((j:Int)+(n:Int) - 2))).run Tryz.prog W=.ok (.pointer (some ⟨gu,j+(n - 2),none⟩)) W:=fun W=>by
    have:=a0y a0Q (some ⟨gu,0,none⟩) U.length U.length .i64 (j+(n - 2)) (m:=(j:Int)+(n:Int) - 2) hhu (by omega) (by omega) W;rwa[a2d,Nat.zero_add]at this
   have hVle:n<=V.length:=by rw[hVn'.out];exact c1B _
   have i4:∀W,(Instr.indexAt 43 (.slice vo V.length V0.length) (.int .i64 ((n:Int) - 1))).run Tryz.prog W=.ok (.pointer (some (adr vo (n - 1)))) W:=a0y a0Q vo V.length V0.length .i64 (n - 1) hhv (by omega) (by omega);have i5:∀W,(Instr.indexAt 43 (.slice vo V.length V0.length) (.int .i64 ((n:Int) - 2))).run Tryz.prog W=.ok (.pointer (some (adr vo (n - 2)))) W:=a0y a0Q vo V.length V0.length .i64 (n - 2) hhv (by omega) (by omega);have hWh:=hid w1;have hAl:=hid w7;have hUr2:OL (a0c .u32) 1 (un noY qo) w.heap.size 114 wr (some ⟨gu,0,none⟩) U.length (A++W++R):=by rw[<-w5];exact hUr
   have hnx':=hid hnx;clear hnx hinv w1 w3' w4 w5 w6 w7 hge hUs hx e1 e2 e3 b1 b0 f1 f0 hvt hA hR hW hVp hUr hUl2 hjU;clear U';go_wp2_with fail
   go_quiet ((go_at_call 202;with_reducible exact Calls.quiet_of (hgs _)))
   clear c2 c1 c0 d1 d0 i1 i2 i3 i4 i5 hgs s2 s3 s4 s5;have hjn:j+n+1<=U.length:=by omega
   have hwl:j+n+1 - j=W.length:=by rw[hWh.out];omega
   have hEd:ExtX noY wr (wr.drewN nq):=(ExtX.refl wr).drewN nq;have hUd:=hUr2.ext0 (a0c.elem _) hEd;have hQd:=hQr.ext0 (a0c.elem _) hEd;have hVd2:Sl (a0c .u32) 1 (mk (un (un noY qo) (some ⟨gu,0,none⟩)) (wr.drewN nq)) vo V:=hVr;have hEn:=hEr.trans hEd;clear hUr2 hQr hVr hEr;generalize wr.drewN nq=wd at*;go_wp2_with (first|((with_reducible show wpList _ _ _ (⟨_,.slice _ _ _ _ _,_,_,_,_⟩::_) _ _);refine b6n a0Q j (j+n+1) rfl rfl rfl rfl (by omega) (by omega) (by omega) ?_))
   have hr:=b1t (un noY qo) w.heap.size gu U.length (U.length - j) A W R V vo V0.length x n wd hUd hVd2 hWh.out hVn'.out hVd w2' hx32 (by rw[hAl.out];omega) hnb3;rw[hAl.out]at hr;refine hr.mono ?_;clear hr;rintro e w6 ⟨hE6,o,⟨bo,rfl,hol,hod,hcs⟩,hU6⟩;have hdf:=hkk.out bo (nv o) hcs;have hol':=hid hol;have hV6:=hVd2.unstep (a0c.mono _) hE6 (.inl rfl);have hQ6:=hQd.skip (a0c.elem _) a5D hE6 (fun k hk=>b4K (by have:=hqb k hk;omega));have hE7:=hEn.own hUd (c1B _) hE6;clear hkk hol hE6 hUd hQd hVd2 hEn;rcases hcs with⟨rfl,_⟩|⟨rfl,_⟩
   ·obtain⟨k1,k2⟩:=hdf.1 rfl
    have hn1:=hid (hnx'.out o hod hol'.out k2);rw[<-k1]at hn1;clear hdf k1 k2 hnx';go_wp2_with (first|(with_reducible refine a0v a0Q ?_)|((with_reducible refine c1J ?_);refine a0W a3V j x rfl rfl hQ6 (by rw[hQl.out];omega) rfl (by omega) ?_;intro w8 hQ8 hE8))
    have hU8:=hU6.skip (a0c.elem _) a5D hE8 (fun k hk=>by have:=a6j hk;subst this;exact hgq);have hV8:Sl (a0c .u32) 1 (mk (un (un noY qo) (some ⟨gu,0,none⟩)) w8) vo V:=hV6.mono (a0c.mono _) (a0s hE8 (fun k hk=>a0j (a0u hk)));go_roundw
    case rel=>exact⟨j,_,_,_,rfl,rfl,by omega,hid hn1.out.1,hid hn1.out.2,hid (by rw[List.length_set];exact hQl.out),hU8,hQ8,hV8,hE7.own hQ6 hwq hE8⟩
    case measure=>simp[intOf]
   ·obtain⟨k0,k1,k2⟩:=hdf.2 rfl
    have k2':=hid k2;clear hdf k2;go_wp2_with (first|((with_reducible show wpList _ _ _ (⟨_,.slice _ _ _ _ _,_,_,_,_⟩::_) _ _);refine b6n a0Q j (j+n+1) rfl rfl rfl rfl (by omega) (by omega) (by omega) ?_))
    have hr:=a9y (un noY qo) w.heap.size gu U.length (U.length - j) A o R V vo V0.length n w6 hU6 hV6 hol'.out hVn'.out hVd hod (by rw[hAl.out];omega) hnb3;rw[hAl.out]at hr;rw[show o.length=W.length by rw[hol'.out,hWh.out]]at hr;refine hr.mono ?_;clear hr;rintro e w7 ⟨hE9,o2,⟨c,rfl,hl2,hd2,hc,hs2⟩,hU7⟩;have hn1:=hid (hnx'.out o2 hd2 hl2 (b4J hVd hVn'.out hVp'.out k2'.out hs2 hc hd2 hl2));rw[<-k1]at hn1;have hV7:=hV6.unstep (a0c.mono _) hE9 (.inl rfl);have hQ7:=hQ6.skip (a0c.elem _) a5D hE9 (fun k hk=>b4K (by have:=hqb k hk;omega));have hE10:=hE7.own hU6 (c1B _) hE9;clear k1 hnx' hl2 hs2 hU6 hV6 hQ6 hE9 hE7;go_wp2_with (first|(with_reducible refine a0v a0Q ?_)|((with_reducible refine c1J ?_);refine a0W a3V j (x - 1) rfl rfl hQ7 (by rw[hQl.out];omega) rfl (by omega) ?_;intro w8 hQ8 hE8))
    have hU8:=hU7.skip (a0c.elem _) a5D hE8 (fun k hk=>by have:=a6j hk;subst this;exact hgq);have hV8:Sl (a0c .u32) 1 (mk (un (un noY qo) (some ⟨gu,0,none⟩)) w8) vo V:=hV7.mono (a0c.mono _) (a0s hE8 (fun k hk=>a0j (a0u hk)));go_roundw
    case rel=>exact⟨j,_,_,_,rfl,rfl,by omega,hid hn1.out.1,hid hn1.out.2,hid (by rw[List.length_set];exact hQl.out),hU8,hQ8,hV8,hE10.own hQ7 hwq hE8⟩
    case measure=>simp[intOf]
theorem b9b{n:Nat}(a:4294967296<=n):2<=lg n:=by
 by_cases h:lg n<=1
 ·rw[a3e,Nat.pow_one,a1t]at h;omega
 ·omega
theorem a9z(X:Nat->Bool)(ao V:Option Addr)(I J:List Nat)(Y Z:Nat)(w:World)(G:Sl (a0c .u32) 1 (mk X w) ao I)(H:Sl (a0c .u32) 1 (mk X w) V J)(z:Dig I)(A:Dig J)(B:I.length<=1099511627776)(C:J.length<=1099511627776)(u:I.length<=Y)(x:J.length<=Z)(hX:∀k,X k=true->k<w.heap.size)(i nb:Nat)(D:val I=i)(E:val J=nb)(h0:0<nb):Calls Tryz.prog 126 #[.slice ao I.length Y,.slice V J.length Z] w (b6l X w (i/nb) (i%nb)):=by
 by_cases h1:nb<4294967296
 ·exact b4F X ao V I J Y Z w G H z A B C u x hX i nb D E h0 h1
 have h2:=b9b (show 4294967296<=nb by omega);clear h1;go_enter Tryz.func126,Tryz.ntmps126
 go_wp2_with fail
 refine(a1x X _ _ _ _ G z (by omega) u).mono ?_;rintro e w' ⟨rfl,K,M,a,rfl,S,P,d,n⟩;go_wp2_with fail
 refine(a1x X _ _ _ _ H A (by omega) x).mono ?_;rintro e w' ⟨rfl,L,N,b,rfl,T,Q,f,p⟩;rw[D]at d;rw[E]at f;have a1:2<=b.length:=by rw[f.len];exact h2
 have m:a.length<=1099511627776:=c1A P B;have R:b.length<=1099511627776:=c1A Q C;have a4:=hid d.val;have a5:=hid f.val;clear D E P Q G H B C u x h2 z A;go_wp2_with fail
 refine(a3z X K L a b M N w n p d.1 f.1 m R S T i nb a4.out a5.out).mono ?_;rintro e w2 ⟨j,rfl⟩;have o:=n.mono (a0c.mono _) (a0k j);have U:=p.mono (a0c.mono _) (a0k j);have O:∀k,X k=true->k<w2.heap.size:=fun k hk=>c1C (hX k hk) j.size;by_cases l:i<nb
 ·have y:a3f i nb<0:=(a3R i nb).2 l
  have hq:=hid (Nat.div_eq_of_lt l);have hr:=hid (Nat.mod_eq_of_lt l);generalize a3f i nb=c at y;go_wp2_with fail
  refine(a6v X _ _ _ _ i o d (by omega) O).mono ?_;rintro e w3 ⟨s,q,r,l3,rfl,t,g,F⟩;go_wp2_with fail
  go_ret3
  refine⟨j.trans s,none,0,[],q,r,l3,rfl,by simp,?_,Sl.nil _ _ _ _,t,?_,F⟩
  ·rw[hq.out];exact a0M.nil
  ·rw[hr.out];exact g
 ·have y:¬a3f i nb<0:=fun h=>l ((a3R i nb).1 h)
  generalize a3f i nb=c at y;go_wp2_with fail
  refine(b1u X K L a b M N w2 o U i nb d f (by omega) a1 m O).mono ?_;rintro e w3 ⟨s,q,r,l3,W,a0,l4,rfl,t,g,F,a2,v,a3⟩;go_wp2_with fail
  go_ret3
  exact⟨j.trans s,q,r,l3,W,a0,l4,rfl,t,g,F,a2,v,a3⟩
def b7r(w:World)(n:Nat)(e:Ending)(w':World):Prop:=
 w=w'/\((n<18446744073709551616/\e=.returned (.tuple #[.int .u64 n,.bool true]))\/(18446744073709551616<=n/\e=.returned (.tuple #[.int .u64 0,.bool false])))
theorem a7R(X:Nat->Bool)(ao:Option Addr)(l:List Nat)(c:Nat)(w:World)(R:Sl (a0c .u32) 1 (mk X w) ao l)(hd:Dig l)(P:l.length<=1099511627776)(N:l.length<=c)(n:Nat)(Q:val l=n):Calls Tryz.prog 167 #[.slice ao l.length c] w (b7r w n):=by
 go_enter Tryz.func167,Tryz.ntmps167
 go_wp2_with fail
 refine(a1x X _ _ _ _ R hd (by omega) N).mono ?_;rintro e w' ⟨rfl,z,U,a,rfl,O,A,o,t⟩;rw[Q]at o;have M:a.length<=1099511627776:=c1A A P;have Y:=t.hd;have H:=hid o.2.2;have B:=o.1;have s:=hid o.len;clear Q R hd P N A;by_cases h2:2<a.length
 ·have r:18446744073709551616<=n:=by
   by_cases h:n<18446744073709551616
   ·have:lg n<=2:=by rw[a3e,a1t];omega
    have:=s.out;omega
   ·omega
  have E:=hid r;clear r;go_wp2_with fail
  go_ret2
  exact⟨rfl,.inr ⟨E.out,rfl⟩⟩
 ·have J:Hid (n<18446744073709551616):=hid (by
   have:lg n<=2:=by rw[<-s.out];omega
   rw[a3e,a1t]at this;omega)
  go_wp2_with fail
  go_loop [2,13] (fun v i=>∃k:Nat,i=.int .i64 k/\v=.int .u64 (nv (a.take k):Nat)/\k<=a.length) (fun _ i=>a.length - (intOf i).toNat)
  case atStart=>exact⟨0,rfl,rfl,by omega⟩
  case round=>
   obtain⟨k,rfl,rfl,hk⟩:=hrel;by_cases y:k<a.length
   ·have j:=t.nat k y
    have K:=B.get k y;have d:=a0F a k y;obtain⟨x,D⟩:=c1F (a[k]);rw[D]at j K d;rw[a1t]at K d;have g:=a2e B k;obtain⟨v,S⟩:=c1F (nv (a.take k));rw[S]at d g |-;have u:=hid d;clear d D S;rcases(by omega:k=0\/k=1)with rfl|rfl
    ·rw[Nat.pow_zero]at g
     obtain rfl:v=0:=by omega
     clear g;have I:bits BinOp.or IntKind.u64 0 (x:Int)=(x:Int):=by
      have:=bits_or_u64_nat 0 x (by omega) (by omega);rw[Nat.zero_or]at this;exact this
     have q:w.cell? (adr z 0)=some (.int .u32 x):=j;go_wp2_with (with_reducible refine a0v a0Q ?_)
     have f:nv (a.take 1)=x:=by have:=u.out;simpa using this
     go_round
     case rel=>exact⟨1,rfl,by rw[f],by omega⟩
     case measure=>simp[intOf];omega
    ·rw[Nat.pow_one,a1t]at g
     have p:bits BinOp.or IntKind.u64 (v:Int) ((x:Int)*4294967296)=((v+4294967296*x:Nat):Int):=by
      have e:=bits_or_u64_nat v (x*4294967296) (by omega) (by omega);have V:=Nat.two_pow_add_eq_or_of_lt (i:=32) (b:=v) (by omega) x;rw[Nat.or_comm,Nat.mul_comm x,show(4294967296:Nat)*x=2^32*x from rfl,<-V]at e;have W:((2^32*x:Nat):Int)=(x:Int)*4294967296:=by omega
      rw[W]at e;rw[e];omega
     have m:nv (a.take 2)=v+4294967296*x:=by have:=u.out;simpa using this
     obtain⟨T,L⟩:=c1F (v+4294967296*x);rw[L]at p m;have f:=hid m;have I:=p;clear p L m;have q:w.cell? (adr z 1)=some (.int .u32 x):=j;have Z:(x:Int)<4294967296:=by omega
     clear g K;have C:(1:Int)<(a.length:Int):=by omega
     have G:decide ((1:Int)<(a.length:Int))=true:=decide_eq_true C;go_wp2_with (with_reducible refine a0v a0Q ?_)
     go_round
     case rel=>exact⟨2,rfl,by rw[f.out],by omega⟩
     case measure=>simp[intOf];omega
   ·have F:k=a.length:=by omega
    have f:nv (a.take k)=n:=by rw[F,List.take_length];exact H.out
    rw[f];go_wp2_with fail
    go_ret2
    exact⟨rfl,.inl ⟨J.out,rfl⟩⟩
theorem b2M(a b:Nat)(w:World)(_ha:a<18446744073709551616)(j:b<18446744073709551616):Calls Tryz.prog 168 #[.int .u64 a,.int .u64 b] w (b0E w .u64 (Nat.gcd a b)):=by
 obtain⟨g,e⟩:=c1F (Nat.gcd a b);rw[e];have f:=hid e;clear e;have k:Hid (b<18446744073709551616):=hid j;clear _ha j;go_enter Tryz.func168,Tryz.ntmps168
 go_wp2_with fail
 go_loopw [0,1] (fun x y wr=>∃p q m:Nat,x=.int .u64 p/\y=.int .u64 q/\Hid (Nat.gcd p q=g)/\wr=w.drewN m) (fun _ y _=>(intOf y).toNat)
 case atStart=>exact⟨a,b,0,rfl,rfl,f,rfl⟩
 case round=>
  obtain⟨p,q,m,rfl,rfl,d,rfl⟩:=hrel;by_cases hq:q=0
  ·subst hq
   have c:=hid (by have:=d.out;rwa[Nat.gcd_zero_right]at this);have n:(((0:Nat):Int) !=0)=false:=rfl;go_wp2_with fail
   go_ret
   exact⟨a0N (congrArg Nat.cast c.out),m,rfl⟩
  ·have n:((q:Int)==0)=false:=a2C (by omega)
   have o:((q:Int) !=0)=true:=a7c (by omega);have i:Hid (Nat.gcd q (p%q)=g):=hid (by rw[Nat.gcd_comm,<-Nat.gcd_rec,Nat.gcd_comm];exact d.out);have h:p%q<q:=Nat.mod_lt _ (by omega);have l:=hid hq;clear hq;go_wp2_with fail
   go_quiet (fail)
   go_wp2_with fail
   go_roundw
   case rel=>exact⟨q,p%q,_,rfl,by rw[Int.natCast_emod],i,World.drewN_drewN _ _ _⟩
   case measure=>
    simp only[intOf,Int.toNat_natCast];rw[<-Int.natCast_emod,Int.toNat_natCast];exact h
noncomputable def c0q(w:World):Value->Nat
 | .slice ao n _=>nv ((List.range n).map fun i=>match w.cell? (adr ao i)with|some (.int _ x)=>x.toNat|_=>0)
 |_=>0
theorem a5E{X:Nat->Bool}{w:World}{ao:Option Addr}{l:List Nat}(c:Nat)(b:Sl (a0c .u32) 1 (mk X w) ao l):c0q w (.slice ao l.length c)=nv l:=by
 show nv _=nv l
 congr 1
 apply List.ext_getElem
 ·simp
 ·intro i d a
  simp only[List.getElem_map,List.getElem_range,b.nat i a,Int.toNat_natCast]
theorem b7s(X:Nat->Bool)(ao bo:Option Addr)(la lb:List Nat)(ca cb:Nat)(w:World)(u:Sl (a0c .u32) 1 (mk X w) ao la)(h:Sl (a0c .u32) 1 (mk X w) bo lb)(b4:Dig la)(b5:Dig lb)(b8:la.length<=1099511627776)(b9:lb.length<=1099511627776)(B:la.length<=ca)(n:lb.length<=cb)(hX:∀k,X k=true->k<w.heap.size)(na nb:Nat)(c0:val la=na)(c1:val lb=nb):Calls Tryz.prog 125 #[.slice ao la.length ca,.slice bo lb.length cb] w (a4z X w (Nat.gcd na nb)):=by
 go_enter Tryz.func125,Tryz.ntmps125
 go_wp2_with fail
 refine(a1x X _ _ _ _ u b4 (by omega) B).mono ?_;rintro e w' ⟨rfl,c7,c9,a,rfl,Y,z,G,a0⟩;go_wp2_with fail
 refine(a1x X _ _ _ _ h b5 (by omega) n).mono ?_;rintro e w' ⟨rfl,c8,d0,b,rfl,Z,j,H,a1⟩;rw[c0]at G;rw[c1]at H;have U:a.length<=1099511627776:=c1A z b8;have V:b.length<=1099511627776:=c1A j b9;obtain⟨g,O⟩:=c1F (Nat.gcd na nb);rw[O];have a7:=hid O;have A:=hid G;have f:=hid H;clear c0 c1 z j u h b8 b9 B n b4 b5 O G H;go_wp2_with fail
 go_loopw [0,1] (fun x y wr=>∃(p q:Nat) (ao bo:Option Addr) (a b:List Nat) (ca cb:Nat),x=.slice ao a.length ca/\y=.slice bo b.length cb/\a.length<=ca/\b.length<=cb/\a.length<=1099511627776/\b.length<=1099511627776/\Hid (a0M a p)/\Hid (a0M b q)/\Hid (Nat.gcd p q=g)/\
  Sl (a0c .u32) 1 (mk X wr) ao a/\Sl (a0c .u32) 1 (mk X wr) bo b/\Ext w wr) (fun _ y W=>c0q W y)
 case atStart=>exact⟨na,nb,_,_,_,_,_,_,rfl,rfl,Y,Z,U,V,A,f,a7,a0,a1,ExtX.refl _⟩
 case round=>
  clear A f a0 a1 Y Z U V;obtain⟨p,q,P,Q,a2,b2,R,v,rfl,rfl,B,n,z,j,A,f,O,u,h,hE⟩:=hrel;have S:∀k,X k=true->k<wr.heap.size:=fun k hk=>c1C (hX k hk) hE.size;by_cases hq:0<b2.length
  ·have o:Hid (0<q):=hid (by have:=a1r f.out;omega)
   have a5:=A.out.1;have T:=f.out.1;have N:=hid A.out.val;have C:=hid f.out.val;go_wp2_with fail
   refine(a7R X P a2 R wr u a5 z B p N.out).mono ?_;rintro e w' ⟨rfl,c4⟩;rcases c4 with⟨u1,rfl⟩|⟨u1,rfl⟩
   ·have c5:=hid u1
    clear u1;go_wp2_with fail
    refine(a7R X Q b2 v wr h T j n q C.out).mono ?_;rintro e w' ⟨rfl,b3⟩;rcases b3 with⟨u2,rfl⟩|⟨u2,rfl⟩
    ·have a8:Nat.gcd p q<18446744073709551616:=Nat.lt_of_le_of_lt (Nat.gcd_le_right _ o.out) u2
     rw[O.out]at a8;have c6:=hid u2;have b7:=hid a8;have b6:=b2M p q wr c5.out c6.out;rw[O.out]at b6;clear u2 a8;go_wp2_with fail
     refine b6.mono ?_;rintro e w2 ⟨rfl,m,rfl⟩;go_wp2_with fail
     refine(a3W X g (wr.drewN m) b7.out S).mono ?_;rintro e w3 ⟨i,D,E,l3,rfl,F,d,t⟩;go_wp2_with fail
     go_ret
     exact⟨hE.trans (((ExtX.refl wr).drewN m).trans i),D,E,l3,rfl,F,by rw[a7.out];exact d,t⟩
    ·clear u2
     go_wp2_with fail
     refine(a9z X P Q a2 b2 R v wr u h a5 T z j B n S p q N.out C.out o.out).mono ?_;rintro e w3 ⟨i,D,E,l3,c2,a3,l4,rfl,F,d,t,a4,c,L⟩;go_wp2_with fail
     have a9:l4.length<=1099511627776:=by
      have h1:l4.length<=b2.length:=by rw[c.len,f.out.len];exact a1l (Nat.le_of_lt (Nat.mod_lt _ o.out))
      omega
     have b1:Hid (Nat.gcd q (p%q)=g):=hid (by rw[Nat.gcd_comm,<-Nat.gcd_rec,Nat.gcd_comm];exact O.out);have M:=h.mono (a0c.mono _) (a0k i);have r:=a5E a3 L;have s:=a5E v h;rw[c.2.2]at r;rw[f.out.2.2]at s;have b0:=Nat.mod_lt p o.out;have l:=hid c;have J:=hid r;have K:=hid s;clear d t c r s N C;go_roundw
     case rel=>exact⟨q,p%q,_,_,_,_,_,_,rfl,rfl,n,a4,j,a9,f,l,b1,M,L,hE.trans i⟩
     case measure=>rw[J.out,K.out];exact b0
   ·clear u1
    go_wp2_with fail
    refine(a7R X Q b2 v wr h T j n q C.out).mono ?_;rintro e w' ⟨rfl,b3⟩;rcases b3 with⟨u2,rfl⟩|⟨u2,rfl⟩
    all_goals
     clear u2;go_wp2_with fail
     refine(a9z X P Q a2 b2 R v wr u h a5 T z j B n S p q N.out C.out o.out).mono ?_;rintro e w3 ⟨i,D,E,l3,c2,a3,l4,rfl,F,d,t,a4,c,L⟩;go_wp2_with fail
     have a9:l4.length<=1099511627776:=by
      have h1:l4.length<=b2.length:=by rw[c.len,f.out.len];exact a1l (Nat.le_of_lt (Nat.mod_lt _ o.out))
      omega
     have b1:Hid (Nat.gcd q (p%q)=g):=hid (by rw[Nat.gcd_comm,<-Nat.gcd_rec,Nat.gcd_comm];exact O.out);have M:=h.mono (a0c.mono _) (a0k i);have r:=a5E a3 L;have s:=a5E v h;rw[c.2.2]at r;rw[f.out.2.2]at s;have b0:=Nat.mod_lt p o.out;have l:=hid c;have J:=hid r;have K:=hid s;clear d t c r s N C;go_roundw
     case rel=>exact⟨q,p%q,_,_,_,_,_,_,rfl,rfl,n,a4,j,a9,f,l,b1,M,L,hE.trans i⟩
     case measure=>rw[J.out,K.out];exact b0
  ·have o:q=0:=by have:=a1r f.out;omega
   subst o;have I:=O.out;rw[Nat.gcd_zero_right]at I;have a6:=hid I;clear I;have c3:=A.out;clear O f;go_wp2_with fail
   refine(a6v X P a2 R wr p u c3 (by omega) S).mono ?_;rintro e w3 ⟨i,D,E,l3,rfl,F,d,t⟩;go_wp2_with fail
   go_ret
   exact⟨hE.trans i,D,E,l3,rfl,F,by rw[a7.out,<-a6.out];exact d,t⟩
end Go.Proofs.YtjmnhbebpffoaaaGreat
