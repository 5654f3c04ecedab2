/- Subtraction, shifts and long division of lists of digits: invariants of the loops, and Knuth's estimate of a digit. Plain mathematics. Conditions: none. bits.Sub32, natural.Sub. Conditions: lengths far below any machine's. Lists of integers: ascending, without a common element. Plain mathematics. Conditions: none. Numbers of subsets. Plain mathematics. Conditions: none. Leaves: which lists of leaves cover all subsets. Plain mathematics. Conditions: none. More readings: leaves; lists under a new mask. Conditions: none. natural.guess, shifted, reduce, restore: parts of the long division. Conditions: lengths far below any machine's. natural.Sub. Conditions: lengths far below any machine's. bits.Len32, LeadingZeros32; natural.divide, Div: long division. Conditions: lengths far below any machine's. Integers and rational numbers as a sign and lists of digits, their only form, and their size. Conditions: none. -/
import Derived.Test.YtidbbddagfnfbaaGreatSfA
import Derived.Laws.Bits64b
import Derived.BigQuiet
import Derived.Lib.BitFns
import Derived.StillTailTactics
import Derived.Lib.Strings
import Derived.Lib.Slices
import Derived.Lib.Small
import Derived.Lib.Walk
namespace Go.Lim
theorem a1M {l:List Nat} (h:Dig l) (k:Nat):nv (l.take k)<B^k:=by
 refine Nat.lt_of_lt_of_le (a4w (h.take k)) (Nat.pow_le_pow_right a2m ?_);simp;omega
theorem a7i {l:List Nat} {k:Nat} (h:nv l<B^k):nv (l.take k)=nv l:=by
 by_cases hk:k<=l.length
 ·have h1:=a2b l k hk
  have h2:nv (l.drop k)=0:=by
   by_cases h0:nv (l.drop k)=0
   ·exact h0
   ·have:B^k*1<=B^k*nv (l.drop k):=Nat.mul_le_mul_left _ (by omega)
    omega
  rw[h2]at h1;omega
 ·rw[List.take_of_length_le (by omega)]
theorem a0y {l:List Nat} {i:Nat} (h:i<l.length):l.getD i 0=l[i]:=by simp[List.getD,h]
theorem a3W {l:List Nat} {i:Nat} (h:l.length<=i):l.getD i 0=0:=by simp[List.getD,h]
def a4q (x y c:Nat):Nat:=(x+4294967296 - y - c)%4294967296
def a5W (x y c:Nat):Nat:=if x<y+c then 1 else 0
theorem a8P {x y c:Nat} (hx:x<B) (hy:y<B) (hc:c<=1):a4q x y c+y+c=x+B*a5W x y c/\a4q x y c<B/\a5W x y c<=1:=by
 rw[a1l]at*;unfold a4q a5W;split<;>omega
def a4A (a b o:List Nat) (i c:Nat):Prop:=o.length=a.length/\Dig o/\c<=1/\nv (o.take i)+nv (b.take i)=nv (a.take i)+B^i*c
theorem a4A.start (a b:List Nat):a4A a b (List.replicate a.length 0) 0 0:=⟨by simp,Dig.zeros _,by omega,by simp[nv]⟩
theorem a4A.step {a b o:List Nat} {i c x y:Nat} (h:a4A a b o i c) (hi:i<a.length) (hx:a[i]=x) (hy:b.getD i 0=y) (ha:Dig a) (hb:Dig b):
  a4A a b (o.set i (a4q x y c)) (i+1) (a5W x y c):=by
 obtain⟨h1,h2,h3,h4⟩:=h;have hai:=ha.get i hi;have hyB:=hb.getD i;rw[hx]at hai;rw[hy]at hyB;obtain⟨e1,e2,e3⟩:=a8P hai hyB h3;refine⟨by simpa using h1,h2.set _ _ e2,e3,?_⟩;rw[a1s o i _ (by omega),a1P,a0F a i hi,a1i,hx,hy,List.length_take,Nat.min_eq_left (by omega),Nat.pow_succ];generalize a4q x y c=d at*;generalize a5W x y c=c' at*;have e4:B^i*(d+y+c)=B^i*(x+B*c'):=by rw[e1]
 rw[Nat.mul_add,Nat.mul_add,Nat.mul_add]at e4;rw[Nat.mul_assoc];omega
theorem a4A.done {a b o:List Nat} {c:Nat} (h:a4A a b o a.length c) (hab:b.length<=a.length) (hle:nv b<=nv a):nv o=nv a - nv b:=by
 obtain⟨h1,h2,h3,h4⟩:=h;rw[List.take_of_length_le (Nat.le_of_eq h1),List.take_of_length_le hab,List.take_of_length_le (Nat.le_refl _)]at h4;have h5:=a4w h2;rw[h1]at h5;have h6:c=0:=by
  by_cases h0:c=0
  ·exact h0
  ·have:c=1:=by omega
   subst this;omega
 subst h6;omega
def a4B (W V:List Nat) (x:Nat) (o:List Nat) (k cy bo:Nat):Prop:=
 o.length=W.length/\Dig o/\o.drop k=W.drop k/\bo<=1/\cy<B/\(∃L,L<B^k/\x*nv (V.take k)=L+B^k*cy)/\nv (o.take k)+x*nv (V.take k)=nv (W.take k)+B^k*(cy+bo)
theorem a4B.start {W V:List Nat} {x:Nat} (hW:Dig W):a4B W V x W 0 0 0:=⟨rfl,hW,rfl,by omega,a2m,⟨0,by simp,by simp[nv]⟩,by simp[nv]⟩
theorem a4B.step {W V o:List Nat} {x k cy bo y z:Nat} (h:a4B W V x o k cy bo) (hk:k<W.length) (hy:V.getD k 0=y) (hz:o.getD k 0=z) (hV:Dig V) (hx:x<B):
  a4B W V x (o.set k (a4q z ((cy+x*y)%4294967296) bo)) (k+1) ((cy+x*y)/4294967296) (a5W z ((cy+x*y)%4294967296) bo)/\cy+x*y<18446744073709551616/\z<4294967296:=by
 obtain⟨h1,h2,h3,h4,h5,⟨L,h6,h7⟩,h8⟩:=h;have hyB:=hV.getD k;rw[hy]at hyB;have hzB:=h2.getD k;rw[hz]at hzB;have hzW:W[k]=z:=by
  have e0:(o.drop k)[0]'(by simp;omega)=(W.drop k)[0]'(by simp;omega):=by simp only[h3]
  simp at e0;rw[<-e0,<-hz,a0y (by omega)]
 have hm:x*y<=4294967295*4294967295:=Nat.mul_le_mul (by rw[a1l]at hx;omega) (by rw[a1l]at hyB;omega);obtain⟨lo,hlo⟩:∃lo,(cy+x*y)%4294967296=lo:=⟨_,rfl⟩;obtain⟨hi,hhi⟩:∃hi,(cy+x*y)/4294967296=hi:=⟨_,rfl⟩;have hdm:B*hi+lo=cy+x*y:=by rw[<-hlo,<-hhi,a1l];exact Nat.div_add_mod _ _
 have hloB:lo<B:=by rw[<-hlo,a1l];exact Nat.mod_lt _ (by decide)
 have hhiB:hi<B:=by rw[a1l]at h5 |-;omega
 rw[hlo,hhi];obtain⟨e1,e2,e3⟩:=a8P hzB hloB h4;have hV1:nv (V.take (k+1))=nv (V.take k)+B^k*y:=by rw[a1i,hy]
 have e5:B^k*(B*hi+lo)=B^k*(cy+x*y):=by rw[hdm]
 rw[Nat.mul_add,Nat.mul_add]at e5;have e6:x*(nv (V.take k)+B^k*y)=x*nv (V.take k)+B^k*(x*y):=by rw[Nat.mul_add,Nat.mul_left_comm]
 refine⟨⟨by simpa using h1,h2.set _ _ e2,?_,e3,hhiB,⟨L+B^k*lo,?_,?_⟩,?_⟩,by rw[a1l]at h5;omega,by rw[a1l]at hzB;exact hzB⟩
 ·rw[List.drop_set_of_lt (by omega)]
  have:(o.drop k).drop 1=(W.drop k).drop 1:=by rw[h3]
  simpa using this
 ·rw[Nat.pow_succ]
  have:B^k*lo+B^k<=B^k*B:=by rw[<-Nat.mul_succ];exact Nat.mul_le_mul_left _ hloB
  omega
 ·rw[hV1,e6,h7,Nat.pow_succ,Nat.mul_assoc];omega
 ·rw[a1s o k _ (by omega),a1P,a0F W k hk,hzW,hV1,e6,List.length_take,Nat.min_eq_left (by omega),Nat.pow_succ,Nat.mul_assoc,Nat.mul_add]
  rw[Nat.mul_add]at h8;generalize a4q z lo bo=d at*;generalize a5W z lo bo=c' at*;have e7:B^k*(d+lo+bo)=B^k*(z+B*c'):=by rw[e1]
  rw[Nat.mul_add,Nat.mul_add,Nat.mul_add]at e7;rw[Nat.mul_add];omega
theorem a4B.done {W V o:List Nat} {x cy bo n:Nat} (h:a4B W V x o W.length cy bo) (hW:W.length=n+1) (hV:V.length=n) (hVd:Dig V) (hx:x<B):
  o.length=n+1/\Dig o/\((bo=0/\nv o+x*nv V=nv W)\/(bo=1/\nv W<x*nv V/\nv o+x*nv V=nv W+B^(n+1))):=by
 obtain⟨h1,h2,h3,h4,h5,⟨L,h6,h7⟩,h8⟩:=h;have hVl:=a4w hVd;rw[hV]at hVl;have hol:=a4w h2;rw[h1,hW]at hol;rw[List.take_of_length_le (by omega)]at h7;rw[List.take_of_length_le (by omega),List.take_of_length_le (by omega),List.take_of_length_le (Nat.le_refl _)]at h8;rw[hW]at h6 h7 h8;have hxv:x*nv V<B^(n+1):=by
  rw[Nat.pow_succ,Nat.mul_comm (B^n)];exact Nat.lt_of_le_of_lt (Nat.mul_le_mul_right _ (Nat.le_of_lt hx)) (Nat.mul_lt_mul_of_pos_left hVl a2m)
 have hcy:cy=0:=by
  by_cases h0:cy=0
  ·exact h0
  ·have:B^(n+1)*1<=B^(n+1)*cy:=Nat.mul_le_mul_left _ (by omega)
   omega
 subst hcy;refine⟨by omega,h2,?_⟩;rcases(show bo=0\/bo=1 by omega)with rfl|rfl
 ·left;exact⟨rfl,by simpa using h8⟩
 ·right
  rw[Nat.zero_add,Nat.mul_one]at h8;exact⟨rfl,by omega,h8⟩
def a4C (W V:List Nat) (o:List Nat) (k c:Nat):Prop:=
 o.length=W.length/\Dig o/\o.drop k=W.drop k/\c<=1/\nv (o.take k)+B^k*c=nv (W.take k)+nv (V.take k)
theorem a4C.start {W V:List Nat} (hW:Dig W):a4C W V W 0 0:=⟨rfl,hW,rfl,by omega,by simp[nv]⟩
theorem a4C.step {W V o:List Nat} {k c y z:Nat} (h:a4C W V o k c) (hk:k<W.length) (hy:V.getD k 0=y) (hz:o.getD k 0=z) (hV:Dig V):
  a4C W V (o.set k ((z+y+c)%4294967296)) (k+1) ((z+y+c)/4294967296)/\z<4294967296:=by
 obtain⟨h1,h2,h3,h4,h8⟩:=h;have hyB:=hV.getD k;rw[hy,a1l]at hyB;have hzB:=h2.getD k;rw[hz,a1l]at hzB;have hzW:W[k]=z:=by
  have e0:(o.drop k)[0]'(by simp;omega)=(W.drop k)[0]'(by simp;omega):=by simp only[h3]
  simp at e0;rw[<-e0,<-hz,a0y (by omega)]
 refine⟨⟨by simpa using h1,h2.set _ _ (by rw[a1l];exact Nat.mod_lt _ (by decide)),?_,by omega,?_⟩,hzB⟩
 ·rw[List.drop_set_of_lt (by omega)]
  have:(o.drop k).drop 1=(W.drop k).drop 1:=by rw[h3]
  simpa using this
 ·rw[a1s o k _ (by omega),a1P,a0F W k hk,hzW,a1i,hy,List.length_take,Nat.min_eq_left (by omega),Nat.pow_succ,Nat.mul_assoc]
  have e:(z+y+c)%4294967296+B*((z+y+c)/4294967296)=z+y+c:=by rw[a1l];omega
  have e2:B^k*((z+y+c)%4294967296)+B^k*(B*((z+y+c)/4294967296))=B^k*z+B^k*y+B^k*c:=by rw[<-Nat.mul_add,e,Nat.mul_add,Nat.mul_add]
  omega
theorem a4C.done {W V o:List Nat} {c n:Nat} (h:a4C W V o W.length c) (hW:W.length=n+1) (hV:V.length=n):o.length=n+1/\Dig o/\c<=1/\nv o+B^(n+1)*c=nv W+nv V:=by
 obtain⟨h1,h2,h3,h4,h8⟩:=h;rw[List.take_of_length_le (by omega),List.take_of_length_le (Nat.le_refl _),List.take_of_length_le (by omega),hW]at h8;exact⟨by omega,h2,h4,h8⟩
def a7j (a o:List Nat) (s k:Nat):Prop:=o.length=a.length+1/\Dig o/\(∀p,k<p->o.getD p 0=0)/\o.getD k 0<2^s/\nv (o.take (k+1))=nv (a.take k)*2^s
theorem a7j.start (a:List Nat) (s:Nat):a7j a (List.replicate (a.length+1) 0) s 0:=
 ⟨by simp,Dig.zeros _,fun p _=>by by_cases h:p<a.length+1<;>simp[List.getD,h],by simp[List.getD];exact Nat.two_pow_pos _,by rw[a1i];simp[nv,List.getD]⟩
theorem b3E {lo x s:Nat} (hlo:lo<2^s) (hs:s<32):lo|||(x*2^s)%4294967296=lo+(x*2^s)%4294967296:=by
 have e:(x*2^s)%4294967296=2^s*(x%2^(32 - s)):=by
  rw[show(4294967296:Nat)=2^s*2^(32 - s)by rw[<-Nat.pow_add,show s+(32 - s)=32 by omega],Nat.mul_comm x,Nat.mul_mod_mul_left]
 rw[e,Nat.or_comm,<-Nat.two_pow_add_eq_or_of_lt hlo,Nat.add_comm]
theorem a7j.step {a o:List Nat} {s k x lo:Nat} (h:a7j a o s k) (hk:k<a.length) (hx:a[k]=x) (hlo:o.getD k 0=lo) (ha:Dig a) (hs:s<32):
  a7j a ((o.set k (lo|||(x*2^s)%4294967296)).set (k+1) (x*2^s/4294967296)) s (k+1)/\(lo|||(x*2^s)%4294967296)<4294967296/\x*2^s<18446744073709551616/\x*2^s/4294967296<4294967296:=by
 obtain⟨h1,h2,h3,h4,h5⟩:=h;have hai:=ha.get k hk;rw[hx,a1l]at hai;rw[hlo]at h4;rw[b3E h4 hs];have hp:(2:Nat)^s<=2^31:=Nat.pow_le_pow_right (by omega) (by omega);have hdiv:x*2^s/4294967296<2^s:=Nat.div_lt_of_lt_mul (Nat.mul_lt_mul_of_pos_right hai (Nat.two_pow_pos _));have hsum:lo+(x*2^s)%4294967296<4294967296:=by
  have e:(x*2^s)%4294967296=2^s*(x%2^(32 - s)):=by
   rw[show(4294967296:Nat)=2^s*2^(32 - s)by rw[<-Nat.pow_add,show s+(32 - s)=32 by omega],Nat.mul_comm x,Nat.mul_mod_mul_left]
  have e2:x%2^(32 - s)<2^(32 - s):=Nat.mod_lt _ (Nat.two_pow_pos _);have e3:2^s*(x%2^(32 - s))+2^s<=2^s*2^(32 - s):=by rw[<-Nat.mul_succ];exact Nat.mul_le_mul_left _ e2
  have e4:2^s*2^(32 - s)=4294967296:=by rw[<-Nat.pow_add,show s+(32 - s)=32 by omega]
  omega
 have hxs:x*2^s<18446744073709551616:=by
  have:x*2^s<=x*2^31:=Nat.mul_le_mul_left _ hp;omega
 refine⟨⟨by simpa using h1,(h2.set _ _ (by rw[a1l];exact hsum)).set _ _ (by rw[a1l];omega),fun p hp=>?_,?_,?_⟩,hsum,hxs,by omega⟩
 ·have:=h3 p (by omega)
  simp only[List.getD_eq_getElem?_getD]at this |-;rw[List.getElem?_set_ne (by omega),List.getElem?_set_ne (by omega)];exact this
 ·rw[a0y (by simp;omega),List.getElem_set_self];exact hdiv
 ·rw[a1s _ _ _ (by simp;omega),a1P,a1s _ _ _ (by omega),a1P]
  simp only[List.length_append,List.length_take,List.length_singleton,h1];rw[Nat.min_eq_left (by omega),a0F a k hk,hx,Nat.add_mul];rw[a1i,hlo]at h5;have e:=Nat.div_add_mod (x*2^s) 4294967296;have hmin:min (k+1) (a.length+1)=k+1:=by omega
  rw[Nat.mul_add,Nat.pow_succ,Nat.mul_assoc (B^k)]
  try rw[hmin]
  have e2:B^k*(B*(x*2^s/4294967296))+B^k*(x*2^s%4294967296)=B^k*x*2^s:=by rw[<-Nat.mul_add,a1l,e,Nat.mul_assoc]
  omega
theorem a7j.done {a o:List Nat} {s:Nat} (h:a7j a o s a.length):o.length=a.length+1/\Dig o/\o.getD a.length 0<2^s/\nv o=nv a*2^s:=by
 obtain⟨h1,h2,h3,h4,h5⟩:=h;rw[List.take_of_length_le (by omega),List.take_of_length_le (Nat.le_refl _)]at h5;exact⟨h1,h2,h4,h5⟩
def a7k (b u2 u1 u0 v1 v0:Nat):Nat:=min ((u2*(b*b)+u1*b+u0)/(v1*b+v0)) (b - 1)
def a6D (b u2 u1 u0 v1 v0 q r:Nat):Prop:=q*v1+r=u2*b+u1/\a7k b u2 u1 u0 v1 v0<=q/\q<=b+1
theorem a6D.start {b u2 u1 u0 v1 v0:Nat} (hv:b<=2*v1) (hb:2<=b) (h2:u2<=v1) (h1:u1<b) (h0:u0<b):a6D b u2 u1 u0 v1 v0 ((u2*b+u1)/v1) ((u2*b+u1)%v1):=by
 refine⟨by rw[Nat.mul_comm];exact Nat.div_add_mod _ _,?_,?_⟩
 ·unfold a7k
  refine Nat.le_trans (Nat.min_le_left _ _) ?_;rw[Nat.le_div_iff_mul_le (by omega)];generalize hq:(u2*(b*b)+u1*b+u0)/(v1*b+v0)=q;have e:q*(v1*b+v0)<=u2*(b*b)+u1*b+u0:=by rw[<-hq];exact Nat.div_mul_le_self _ _
  have e1:q*v1*b<(u2*b+u1+1)*b:=by
   rw[Nat.mul_add,<-Nat.mul_assoc]at e;rw[Nat.add_mul,Nat.add_mul,Nat.mul_assoc u2,Nat.one_mul];omega
  have:=Nat.lt_of_mul_lt_mul_right e1;omega
 ·have:(u2*b+u1)/v1<b+2:=by
   rw[Nat.div_lt_iff_lt_mul (by omega)];have:u2*b<=v1*b:=Nat.mul_le_mul_right _ h2;rw[Nat.add_mul,Nat.mul_comm b v1];omega
  omega
theorem a6D.more {b u2 u1 u0 v1 v0 q r:Nat} (h:a6D b u2 u1 u0 v1 v0 q r) (hb:2<=b) (hc:b<=q\/r*b+u0<q*v0) (hv:0<v1):1<=q/\a6D b u2 u1 u0 v1 v0 (q - 1) (r+v1):=by
 obtain⟨h1,h2,h3⟩:=h;have hlt:a7k b u2 u1 u0 v1 v0<q:=by
  rcases hc with hc|hc
  ·unfold a7k;omega
  ·unfold a7k
   refine Nat.lt_of_le_of_lt (Nat.min_le_left _ _) ?_;have hp:0<v1*b:=Nat.mul_pos hv (by omega);have e5:q*(v1*b+v0)=q*v1*b+q*v0:=by rw[Nat.mul_add,Nat.mul_assoc]
   rw[Nat.div_lt_iff_lt_mul (by omega),e5];have e:(q*v1+r)*b=(u2*b+u1)*b:=by rw[h1]
   rw[Nat.add_mul,Nat.add_mul,Nat.mul_assoc u2]at e;omega
 refine⟨by omega,?_,by omega,by omega⟩;obtain⟨p,rfl⟩:∃p,q=p+1:=⟨q - 1,by omega⟩;rw[Nat.succ_mul]at h1;rw[show p+1 - 1=p from rfl];omega
theorem a6D.less {b u2 u1 u0 v1 v0 q r:Nat} (h:a6D b u2 u1 u0 v1 v0 q r) (hb:2<=b) (hv:b<=2*v1) (h2':u2<=v1) (hu1:u1<b) (hv0:v0<b) (hc:b<=r\/(q<b/\q*v0<=r*b+u0)):q=a7k b u2 u1 u0 v1 v0:=by
 obtain⟨h1,h2,h3⟩:=h;have hq:q<b:=by
  rcases hc with hc|hc
  ·by_cases hq:q<b
   ·exact hq
   ·have e1:b*v1<=q*v1:=Nat.mul_le_mul_right _ (by omega)
    have e2:u2*b<=v1*b:=Nat.mul_le_mul_right _ h2';rw[Nat.mul_comm b]at e1;omega
  ·exact hc.1
 have hv0':q*v0<=r*b+u0:=by
  rcases hc with hc|hc
  ·have e1:q*v0<=b*b:=Nat.mul_le_mul (by omega) (by omega)
   have e2:b*b<=r*b:=Nat.mul_le_mul_right _ hc;omega
  ·exact hc.2
 refine Nat.le_antisymm ?_ h2;unfold a7k;refine Nat.le_min.2 ⟨?_,by omega⟩;have hp:0<v1*b:=Nat.mul_pos (by omega) (by omega);rw[Nat.le_div_iff_mul_le (by omega),Nat.mul_add,<-Nat.mul_assoc];have e:(q*v1+r)*b=(u2*b+u1)*b:=by rw[h1]
 rw[Nat.add_mul,Nat.add_mul,Nat.mul_assoc u2]at e;omega
theorem b6r {W:List Nat} {n:Nat} (hW:W.length=n+3):nv W=nv (W.take n)+B^n*(W[n+2]*(B*B)+W[n+1]*B+W[n]):=by
 have e:W.take (n+3)=W:=List.take_of_length_le (by omega);have h0:nv (W.take (n+1))=nv (W.take n)+B^n*W[n]:=a0F W n (by omega);have h1:nv (W.take (n+2))=nv (W.take (n+1))+B^(n+1)*W[n+1]:=a0F W (n+1) (by omega);have h2:nv (W.take (n+3))=nv (W.take (n+2))+B^(n+2)*W[n+2]:=a0F W (n+2) (by omega);rw[e]at h2;rw[h2,h1,h0,show B^(n+2)=B^n*B*B by rw[Nat.pow_succ,Nat.pow_succ],show B^(n+1)=B^n*B from Nat.pow_succ ..];generalize W[n]=x0;generalize W[n+1]=x1;generalize W[n+2]=x2;generalize B^n=q;simp only[Nat.mul_add];have e1:q*B*B*x2=q*(x2*(B*B)):=by ac_rfl
 have e2:q*B*x1=q*(x1*B):=by ac_rfl
 rw[e1,e2];omega
theorem b6s {V:List Nat} {n:Nat} (hV:V.length=n+2):nv V=nv (V.take n)+B^n*(V[n+1]*B+V[n]):=by
 have e:V.take (n+2)=V:=List.take_of_length_le (by omega);have h0:=a0F V n (by omega);have h1:=a0F V (n+1) (by omega);rw[show n+1+1=n+2 from rfl,e,Nat.pow_succ]at h1;rw[h1,h0];generalize V[n]=x0;generalize V[n+1]=x1;generalize B^n=q;simp only[Nat.mul_add];have e2:q*B*x1=q*(x1*B):=by ac_rfl
 rw[e2];omega
theorem b6t {b Q u2 u1 u0 v1 v0 lw lv W V:Nat} (hb:2<=b) (_hQ:0<Q) (eW:W=lw+Q*(u2*(b*b)+u1*b+u0)) (eV:V=lv+Q*(v1*b+v0)) (lW:lw<Q) (lV:lv<Q)
  (_d2:u2<b) (d1:u1<b) (f0:v0<b) (hn:b<=2*v1) (hlt:W<V*b):u2<=v1/\W/V<=a7k b u2 u1 u0 v1 v0/\a7k b u2 u1 u0 v1 v0<=W/V+1:=by
 have hv1:0<v1:=by omega
 have hp:0<v1*b:=Nat.mul_pos hv1 (by omega);have hVpos:0<V:=by
  have:Q*1<=Q*(v1*b+v0):=Nat.mul_le_mul_left _ (by omega);omega
 obtain⟨v2,hv2⟩:∃v2,v1*b+v0=v2:=⟨_,rfl⟩;obtain⟨u3,hu3⟩:∃u3,u2*(b*b)+u1*b+u0=u3:=⟨_,rfl⟩;have hest:a7k b u2 u1 u0 v1 v0=min (u3/v2) (b - 1):=by unfold a7k;rw[hv2,hu3]
 rw[hest];rw[hv2]at eV;rw[hu3]at eW;have hU3:u3<(v2+1)*b:=by
  have:Q*u3<Q*((v2+1)*b):=by
   have e0:Q*((v2+1)*b)=(Q*v2+Q)*b:=by rw[<-Nat.mul_assoc,Nat.mul_add Q v2 1,Nat.mul_one]
   have e1:(lv+Q*v2)*b<=(Q*v2+Q)*b:=Nat.mul_le_mul_right _ (by omega);rw[eV]at hlt;omega
  exact Nat.lt_of_mul_lt_mul_left this
 refine⟨?_,?_,?_⟩
 ·by_cases h:u2<=v1
  ·exact h
  ·have e1:(v1+1)*(b*b)<=u2*(b*b):=Nat.mul_le_mul_right _ (by omega)
   have e2:(v2+1)*b<=(v1*b+b)*b:=Nat.mul_le_mul_right _ (by omega);rw[Nat.add_mul,Nat.one_mul]at e1;have e3:(v1*b+b)*b=v1*(b*b)+b*b:=by rw[Nat.add_mul,Nat.mul_assoc]
   omega
 ·refine Nat.le_min.2 ⟨?_,?_⟩
  ·have hv2p:0<v2:=by omega
   rw[Nat.le_div_iff_mul_le hv2p];generalize hq:W/V=q;have h1:q*V<=W:=by rw[<-hq];exact Nat.div_mul_le_self _ _
   have h2:Q*(q*v2)<Q*(u3+1):=by
    have e1:q*(Q*v2)<=q*V:=Nat.mul_le_mul_left _ (by omega);rw[Nat.mul_left_comm,Nat.mul_add Q,Nat.mul_one];omega
   have:=Nat.lt_of_mul_lt_mul_left h2;omega
  ·have:W/V<b:=by rw[Nat.div_lt_iff_lt_mul hVpos,Nat.mul_comm];exact hlt
   omega
 ·generalize hx:min (u3/v2) (b - 1)=x
  have hxB:x<b:=by omega
  have hxV:x*v2<=u3:=by
   rw[<-hx];exact Nat.le_trans (Nat.mul_le_mul_right _ (Nat.min_le_left _ _)) (Nat.div_mul_le_self _ _)
  clear hx;cases x with
  |zero=>exact Nat.zero_le _
  |succ y=>
   rw[Nat.add_le_add_iff_right,Nat.le_div_iff_mul_le hVpos];have h1:(y+1)*V<=W+V:=by
    have e1:(y+1)*V=(y+1)*lv+Q*((y+1)*v2):=by rw[eV,Nat.mul_add,Nat.mul_left_comm]
    have e2:Q*((y+1)*v2)<=Q*u3:=Nat.mul_le_mul_left _ hxV;have e3:(y+1)*lv<=b*Q:=Nat.mul_le_mul (by omega) (by omega);have e4:b*Q<=Q*v2:=by
     rw[Nat.mul_comm];refine Nat.mul_le_mul_left _ ?_;have:1*b<=v1*b:=Nat.mul_le_mul_right _ (by omega);omega
    omega
   rw[Nat.succ_mul]at h1;omega
theorem b8w {W V:List Nat} {n:Nat} (hW:W.length=n+3) (hV:V.length=n+2) (hWd:Dig W) (hVd:Dig V) (hn:B<=2*V[n+1]) (hlt:nv W<nv V*B):
  W[n+2]<=V[n+1]/\nv W/nv V<=a7k B W[n+2] W[n+1] W[n] V[n+1] V[n]/\a7k B W[n+2] W[n+1] W[n] V[n+1] V[n]<=nv W/nv V+1:=
 b6t (by rw[a1l];decide) (Nat.pow_pos a2m) (b6r hW) (b6s hV) (a1M hWd n) (a1M hVd n) (hWd.get _ _) (hWd.get _ _) (hVd.get _ _) hn hlt
theorem b1o {u:List Nat} {s i:Nat} (hs:s<32) (hi:i+1<u.length) (hd:Dig u):
  (nv u/2^s)%B^(i+1)=(nv u/2^s)%B^i+B^i*((u[i+1]*4294967296+u[i])/2^s%4294967296):=by
 have h1:nv u=nv (u.take i)+B^i*(u[i]+B*(u[i+1]+B*nv (u.drop (i+2)))):=by
  have e:=a2b u i (by omega);rw[List.drop_eq_getElem_cons (show i<u.length by omega),List.drop_eq_getElem_cons (show i+1<u.length by omega)]at e;exact e
 obtain⟨c,hc⟩:∃c,2^s*c=4294967296:=⟨2^(32 - s),by rw[<-Nat.pow_add,show s+(32 - s)=32 by omega]⟩;have hp:0<2^s:=Nat.two_pow_pos _;have hlo:=a1M hd i;have hQ:0<B^i:=Nat.pow_pos a2m;have hdiv:nv u/B^i=u[i]+B*(u[i+1]+B*nv (u.drop (i+2))):=by
  rw[h1,Nat.add_mul_div_left _ _ hQ,Nat.div_eq_of_lt hlo,Nat.zero_add]
 rw[Nat.pow_succ,Nat.mod_mul,Nat.div_div_eq_div_mul,Nat.mul_comm (2^s),<-Nat.div_div_eq_div_mul,hdiv];have e:u[i]+B*(u[i+1]+B*nv (u.drop (i+2)))=(u[i+1]*4294967296+u[i])+2^s*(B*(c*nv (u.drop (i+2)))):=by
  have e1:2^s*(B*(c*nv (u.drop (i+2))))=B*(B*nv (u.drop (i+2))):=by
   rw[Nat.mul_left_comm,<-Nat.mul_assoc (2^s),hc,<-a1l]
  rw[e1,Nat.mul_add,a1l];omega
 rw[e,Nat.add_mul_div_left _ _ hp,Nat.add_mul_mod_self_left,<-a1l]
def a4D (u o:List Nat) (s n i:Nat):Prop:=o.length=n/\Dig o/\nv (o.take i)=(nv u/2^s)%B^i
theorem a4D.start (u:List Nat) (s n:Nat):a4D u (List.replicate n 0) s n 0:=⟨by simp,Dig.zeros _,by simp[nv,Nat.mod_one]⟩
theorem a4D.step {u o:List Nat} {s n i x y:Nat} (h:a4D u o s n i) (hi:i<n) (hs:s<32) (hu:i+1<u.length) (hd:Dig u) (hx:u[i+1]=x) (hy:u[i]=y):a4D u (o.set i ((x*4294967296+y)/2^s%4294967296)) s n (i+1):=by
 obtain⟨h1,h2,h3⟩:=h;refine⟨by simpa using h1,h2.set _ _ (by rw[a1l];exact Nat.mod_lt _ (by decide)),?_⟩;rw[a1s o i _ (by omega),a1P,h3,b1o hs hu hd,hx,hy,List.length_take,Nat.min_eq_left (by omega)]
theorem a4D.done {u o:List Nat} {s n:Nat} (h:a4D u o s n n) (hlt:nv u/2^s<B^n):nv o=nv u/2^s:=by
 obtain⟨h1,h2,h3⟩:=h;rw[List.take_of_length_le (by omega),Nat.mod_eq_of_lt hlt]at h3;exact h3
def a3A (N:Nat) (V U Q:List Nat) (k:Nat):Prop:=Dig U/\Dig Q/\nv (U.drop k)<nv V/\nv U+nv V*(B^k*nv (Q.drop k))=N
theorem a5g {U:List Nat} {j:Nat} (h:j<U.length):nv (U.drop j)=U[j]+B*nv (U.drop (j+1)):=by
 rw[List.drop_eq_getElem_cons h];rfl
theorem a3A.win {N:Nat} {V U Q:List Nat} {j n:Nat} (h:a3A N V U Q (j+1)) (hj:j+(n+1)<=U.length) (hV:V.length=n) (hVd:Dig V):
  ((U.drop j).take (n+1)).length=n+1/\Dig ((U.drop j).take (n+1))/\nv ((U.drop j).take (n+1))<nv V*B/\nv (U.drop (j+(n+1)))=0/\U=U.take j++(U.drop j).take (n+1)++U.drop (j+(n+1))/\nv U=nv (U.take j)+B^j*nv ((U.drop j).take (n+1))/\(U.take j).length=j:=by
 obtain⟨h1,h2,h3,h4⟩:=h;have e:=a5g (show j<U.length by omega);have hd:=h1.get j (by omega);have hVl:=a4w hVd;rw[hV]at hVl;have hlt:nv (U.drop j)<nv V*B:=by
  rw[e];have:B*(nv (U.drop (j+1))+1)<=B*nv V:=Nat.mul_le_mul_left _ h3;rw[Nat.mul_add,Nat.mul_one]at this;rw[Nat.mul_comm (nv V)];omega
 have hlt2:nv (U.drop j)<B^(n+1):=by
  rw[Nat.pow_succ];exact Nat.lt_of_lt_of_le hlt (Nat.mul_le_mul_right _ (Nat.le_of_lt hVl))
 have ht:=a7i hlt2;have hsp:=a2b (U.drop j) (n+1) (by simp;omega);rw[List.drop_drop]at hsp;have hR:nv (U.drop (j+(n+1)))=0:=by
  by_cases h0:nv (U.drop (j+(n+1)))=0
  ·exact h0
  ·have:B^(n+1)*1<=B^(n+1)*nv (U.drop (j+(n+1))):=Nat.mul_le_mul_left _ (by omega)
   omega
 refine⟨by simp;omega,(h1.drop j).take _,by rw[ht];exact hlt,hR,?_,?_,by simp;omega⟩
 ·rw[List.append_assoc]
  conv=>lhs;rw[<-List.take_append_drop j U]
  congr 1
  rw[<-List.drop_drop,List.take_append_drop]
 ·rw[ht];exact a2b U j (by omega)
theorem a3A.next {N:Nat} {V U Q W':List Nat} {j n:Nat} (h:a3A N V U Q (j+1)) (hj:j+(n+1)<=U.length) (hjq:j<Q.length) (hV:V.length=n) (hVd:Dig V) (hW':Dig W') (hl:W'.length=n+1)
  (heq:nv W'=nv ((U.drop j).take (n+1))%nv V):a3A N V (U.take j++W'++U.drop (j+(n+1))) (Q.set j (nv ((U.drop j).take (n+1))/nv V)) j/\(U.take j++W'++U.drop (j+(n+1))).length=U.length:=by
 obtain⟨w1,w2,w3,w4,w5,w6,w7⟩:=h.win hj hV hVd;obtain⟨h1,h2,h3,h4⟩:=h;have hVp:0<nv V:=by omega
 have hq:nv ((U.drop j).take (n+1))/nv V<B:=by rw[Nat.div_lt_iff_lt_mul hVp,Nat.mul_comm];exact w3
 have hdr:(U.take j++W'++U.drop (j+(n+1))).drop j=W'++U.drop (j+(n+1)):=by
  rw[List.append_assoc,List.drop_append_of_le_length (by omega),List.drop_of_length_le (by omega),List.nil_append]
 have hnd:nv ((U.take j++W'++U.drop (j+(n+1))).drop j)=nv W':=by rw[hdr,a3x,w4];simp
 have hnu:nv (U.take j++W'++U.drop (j+(n+1)))=nv (U.take j)+B^j*nv W':=by
  rw[List.append_assoc,a3x,a3x,w4,w7];simp
 refine⟨⟨((h1.take j).append hW').append (h1.drop _),h2.set _ _ hq,?_,?_⟩,by simp;omega⟩
 ·rw[hnd,heq];exact Nat.mod_lt _ hVp
 ·have hQ:nv ((Q.set j (nv ((U.drop j).take (n+1))/nv V)).drop j)=nv ((U.drop j).take (n+1))/nv V+B*nv (Q.drop (j+1)):=by
   rw[a5g (by simpa using hjq),List.getElem_set_self,List.drop_set_of_lt (by omega)]
  rw[hnu,hQ,heq];rw[w6]at h4;rw[Nat.pow_succ]at h4;have e:=Nat.div_add_mod (nv ((U.drop j).take (n+1))) (nv V);generalize nv ((U.drop j).take (n+1))/nv V=q at*;generalize nv ((U.drop j).take (n+1))%nv V=r at*;generalize nv ((U.drop j).take (n+1))=x at*;generalize nv (Q.drop (j+1))=y at*;generalize B^j=p at*;have e1:nv V*(p*(q+B*y))=p*(nv V*q)+nv V*(p*B*y):=by
   rw[Nat.mul_add,Nat.mul_add,Nat.mul_left_comm (nv V) p q,Nat.mul_assoc p B y]
  have e2:p*x=p*(nv V*q)+p*r:=by rw[<-e,Nat.mul_add]
  omega
theorem a3A.done {N a b s:Nat} {V U Q:List Nat} (h:a3A N V U Q 0) (hN:N=a*2^s) (hV:nv V=b*2^s):nv Q=a/b/\nv U/2^s=a%b/\nv U<nv V:=by
 obtain⟨h1,h2,h3,h4⟩:=h;simp only[List.drop_zero,Nat.pow_zero,Nat.one_mul]at h3 h4;have hp:0<2^s:=Nat.two_pow_pos s;rw[hV]at h3 h4;rw[hN]at h4;have e:nv U=2^s*(nv U/2^s):=by
  have hm:nv U%2^s=0:=by
   have:(nv U+b*2^s*nv Q)%2^s=0:=by rw[h4];exact Nat.mul_mod_left _ _
   rw[Nat.mul_right_comm,Nat.add_mul_mod_self_right]at this;exact this
  have:=Nat.div_add_mod (nv U) (2^s);omega
 have hr:nv U/2^s<b:=by rw[Nat.div_lt_iff_lt_mul hp];exact h3
 have hsum:a=b*nv Q+nv U/2^s:=by
  have:a*2^s=(b*nv Q+nv U/2^s)*2^s:=by
   have e2:b*nv Q*2^s=b*2^s*nv Q:=Nat.mul_right_comm _ _ _;rw[<-h4,Nat.add_mul,e2,Nat.mul_comm (nv U/2^s)];omega
  exact Nat.eq_of_mul_eq_mul_right hp this
 have hb:0<b:=Nat.lt_of_le_of_lt (Nat.zero_le _) hr;refine⟨?_,?_,by rw[hV];exact h3⟩
 ·conv=>rhs;rw[hsum,Nat.mul_add_div hb,Nat.div_eq_of_lt hr,Nat.add_zero]
 ·conv=>rhs;rw[hsum,Nat.mul_add_mod,Nat.mod_eq_of_lt hr]
theorem a3A.start {a s n m:Nat} {V U:List Nat} (hU:Dig U) (hUl:U.length=m+1+n) (hn:0<n) (hUv:nv U=a*2^s) (htop:U.getD (m+n) 0<2^s) (hs:s<32) (hV:V.length=n) (hVt:B<=2*V.getD (n - 1) 0):
  a3A (a*2^s) V U (List.replicate (m+1) 0) (m+1):=by
 refine⟨hU,Dig.zeros _,?_,?_⟩
 ·have h1:(U.drop (m+1)).length=n:=by simp;omega
  have h2:=a2b (U.drop (m+1)) (n - 1) (by omega);have h3:=a2b V (n - 1) (by omega);have h4:=a1M (hU.drop (m+1)) (n - 1);have e1:(U.drop (m+1)).drop (n - 1)= [U.getD (m+n) 0]:=by
   rw[List.drop_drop,List.drop_eq_getElem_cons (by omega),List.drop_of_length_le (by omega),a0y (by omega)]
   congr 2;omega
  have e2:V.drop (n - 1)= [V.getD (n - 1) 0]:=by
   rw[List.drop_eq_getElem_cons (by omega),List.drop_of_length_le (by omega),a0y (by omega)]
  rw[e1]at h2;rw[e2]at h3;simp only[nv,Nat.mul_zero,Nat.add_zero]at h2 h3;have hp:(2:Nat)^s<=2^31:=Nat.pow_le_pow_right (by omega) (by omega);rw[a1l]at hVt;have:B^(n - 1)*(U.getD (m+n) 0+1)<=B^(n - 1)*V.getD (n - 1) 0:=Nat.mul_le_mul_left _ (by omega);rw[Nat.mul_add,Nat.mul_one]at this;omega
 ·rw[List.drop_of_length_le (by simp)];simpa[nv]using hUv
theorem a8Q {x c W V W':Nat} {e:Nat} (hV:0<V) (h1:W/V<=x) (h2:x<=W/V+1) (hW':(c=0/\W'+x*V=W)\/(c=1/\W<x*V/\W'+x*V=W+e)):
  (c=0->x=W/V/\W'=W%V)/\(c=1->1<=x/\x - 1=W/V/\W'+V=W%V+e):=by
 have hd:=Nat.div_add_mod W V;have hm:=Nat.mod_lt W hV;generalize W/V=q at*;generalize W%V=r at*;refine⟨fun h=>?_,fun h=>?_⟩
 ·rcases hW' with⟨_,h3⟩|⟨h4,_⟩
  ·rcases(by omega:x=q\/x=q+1)with rfl|rfl
   ·refine⟨rfl,?_⟩;rw[Nat.mul_comm]at hd;omega
   ·rw[Nat.succ_mul,Nat.mul_comm q]at h3;omega
  ·omega
 ·rcases hW' with⟨h4,_⟩|⟨_,h3,h5⟩
  ·omega
  ·rcases(by omega:x=q\/x=q+1)with rfl|rfl
   ·rw[Nat.mul_comm]at hd;omega
   ·refine⟨by omega,by omega,?_⟩
    rw[Nat.succ_mul,Nat.mul_comm q]at h5;omega
theorem b3F {b V:List Nat} {n t s:Nat} (hb:Dig b) (hbl:b.length=n) (hn:0<n) (ht:b.getD (n - 1) 0=t) (hs:s<32) (h1:4294967296<=2*(t*2^s)) (h2:t*2^s<4294967296) (hV:a0I V (nv b*2^s)):V.length=n/\B<=2*V.getD (n - 1) 0:=by
 have h3:=a2b b (n - 1) (by omega);have h4:=a1M hb (n - 1);have e2:b.drop (n - 1)= [t]:=by
  rw[List.drop_eq_getElem_cons (by omega),List.drop_of_length_le (by omega),<-ht,a0y (by omega)]
 rw[e2]at h3;simp only[nv,Nat.mul_zero,Nat.add_zero]at h3;have hpow:B^n=B^(n - 1)*B:=by rw[<-Nat.pow_succ];congr 1;omega
 have hQ:0<B^(n - 1):=Nat.pow_pos a2m;have hc:2^s*2^(32 - s)=4294967296:=by rw[<-Nat.pow_add,show s+(32 - s)=32 by omega]
 have hp:0<2^s:=Nat.two_pow_pos _;have htt:(t+1)*2^s<=B:=by
  have:t<2^(32 - s):=by
   have:2^s*t<2^s*2^(32 - s):=by rw[hc,Nat.mul_comm];exact h2
   exact Nat.lt_of_mul_lt_mul_left this
  have:2^s*(t+1)<=2^s*2^(32 - s):=Nat.mul_le_mul_left _ this;rw[hc,Nat.mul_comm]at this;rw[a1l];exact this
 have hN:nv b*2^s=nv (b.take (n - 1))*2^s+B^(n - 1)*(t*2^s):=by rw[h3,Nat.add_mul,Nat.mul_assoc]
 have hup:nv b*2^s<B^n:=by
  have e1:nv (b.take (n - 1))*2^s<B^(n - 1)*2^s:=Nat.mul_lt_mul_of_pos_right h4 hp;have e3:B^(n - 1)*((t+1)*2^s)<=B^(n - 1)*B:=Nat.mul_le_mul_left _ htt;rw[Nat.add_mul,Nat.one_mul,Nat.mul_add]at e3;rw[hpow,hN];omega
 have hlo:B^(n - 1)*(t*2^s)<=nv b*2^s:=by rw[hN];omega
 have hl1:V.length<=n:=by rw[hV.len];exact a2J.2 hup
 have hl2:¬V.length<=n - 1:=by
  rw[hV.len,a2J];have:B^(n - 1)*1<=B^(n - 1)*(t*2^s):=Nat.mul_le_mul_left _ (by omega);omega
 have hl:V.length=n:=by omega
 refine⟨hl,?_⟩;have g3:=a2b V (n - 1) (by omega);have g4:=a1M hV.1 (n - 1);have g2:V.drop (n - 1)= [V.getD (n - 1) 0]:=by
  rw[List.drop_eq_getElem_cons (by omega),List.drop_of_length_le (by omega),a0y (by omega)]
 rw[g2]at g3;simp only[nv,Nat.mul_zero,Nat.add_zero]at g3;rw[hV.2.2]at g3;have:B^(n - 1)*(t*2^s)<B^(n - 1)*(V.getD (n - 1) 0+1):=by rw[Nat.mul_add,Nat.mul_one];omega
 have:=Nat.lt_of_mul_lt_mul_left this;rw[a1l];omega
theorem b6u {W V:List Nat} {n:Nat} (hW:W.length=n+1) (hV:V.length=n) (hn2:2<=n) (hWd:Dig W) (hVd:Dig V) (hn:B<=2*V.getD (n - 1) 0) (hlt:nv W<nv V*B):
  W.getD n 0<=V.getD (n - 1) 0/\nv W/nv V<=a7k B (W.getD n 0) (W.getD (n - 1) 0) (W.getD (n - 2) 0) (V.getD (n - 1) 0) (V.getD (n - 2) 0)/\a7k B (W.getD n 0) (W.getD (n - 1) 0) (W.getD (n - 2) 0) (V.getD (n - 1) 0) (V.getD (n - 2) 0)<=nv W/nv V+1:=by
 obtain⟨p,rfl⟩:∃p,n=p+2:=⟨n - 2,by omega⟩;rw[show p+2 - 1=p+1 from rfl,show p+2 - 2=p from rfl]at*;rw[a0y (l:=V) (i:=p+1) (by omega)]at hn;rw[a0y (l:=W) (i:=p+2) (by omega),a0y (l:=W) (i:=p+1) (by omega),a0y (l:=W) (i:=p) (by omega),a0y (l:=V) (i:=p+1) (by omega),a0y (l:=V) (i:=p) (by omega)];exact b8w hW hV hWd hVd hn hlt
theorem b6v {u2 u1 u0 v1 v0:Nat}:a7k B u2 u1 u0 v1 v0<4294967296:=by unfold a7k;rw[a1l];omega
theorem b3G {U:List Nat} {j n i:Nat} (hi:i<=n):((U.drop j).take (n+1)).getD i 0=U.getD (j+i) 0:=by
 simp only[List.getD_eq_getElem?_getD,List.getElem?_take_of_lt (Nat.lt_succ_of_le hi),List.getElem?_drop]
theorem b3H {V o o2:List Nat} {W n c:Nat} (_hVd:Dig V) (_hV:V.length=n) (hV0:0<nv V) (h1:nv o+nv V=W%nv V+B^(n+1)) (h2:nv o2+B^(n+1)*c=nv o+nv V) (hc:c<=1) (ho:Dig o2) (hl:o2.length=n+1):nv o2=W%nv V:=by
 have h3:=a4w ho;rw[hl]at h3;have h4:=Nat.mod_lt W hV0;have h6:B^n<=B^(n+1):=Nat.pow_le_pow_right a2m (by omega);rcases(by omega:c=0\/c=1)with rfl|rfl
 ·omega
 ·omega
end Go.Lim
namespace Go.Proofs.YtidbbddagfnfbaaGreat
open Go.RowKit Go.Rep Go.Lim
theorem a3B (a b:Nat) (ha:a<4294967296) (hb:b<4294967296):bits .or .u32 (a:Int) (b:Int)=((a|||b:Nat):Int):=by
 have hx:a|||b<2^32:=Nat.or_lt_two_pow (by omega) (by omega);have h1:(BitVec.ofInt 32 (a:Int)).toNat=a:=by
  rw[BitVec.ofInt_natCast,BitVec.toNat_ofNat];exact Nat.mod_eq_of_lt (by omega)
 have h2:(BitVec.ofInt 32 (b:Int)).toNat=b:=by
  rw[BitVec.ofInt_natCast,BitVec.toNat_ofNat];exact Nat.mod_eq_of_lt (by omega)
 show IntKind.u32.wrap ((BitVec.ofInt 32 (a:Int)|||BitVec.ofInt 32 (b:Int)).toNat:Int)=_
 rw[BitVec.toNat_or,h1,h2,IntKind.wrap_u32];omega
theorem a2s (a b:Nat) (ha:a<4294967296) (hb:b<4294967296):bits .xor .u32 (a:Int) (b:Int)=((a^^^b:Nat):Int):=by
 have hx:a^^^b<2^32:=Nat.xor_lt_two_pow (by omega) (by omega);have h1:(BitVec.ofInt 32 (a:Int)).toNat=a:=by
  rw[BitVec.ofInt_natCast,BitVec.toNat_ofNat];exact Nat.mod_eq_of_lt (by omega)
 have h2:(BitVec.ofInt 32 (b:Int)).toNat=b:=by
  rw[BitVec.ofInt_natCast,BitVec.toNat_ofNat];exact Nat.mod_eq_of_lt (by omega)
 show IntKind.u32.wrap ((BitVec.ofInt 32 (a:Int)^^^BitVec.ofInt 32 (b:Int)).toNat:Int)=_
 rw[BitVec.toNat_xor,h1,h2,IntKind.wrap_u32];omega
theorem a2t (a b:Nat) (ha:a<4294967296) (hb:b<4294967296):bits .and .u32 (a:Int) (b:Int)=((a&&&b:Nat):Int):=by
 have hx:a&&&b<2^32:=Nat.and_lt_two_pow _ (by omega);have h1:(BitVec.ofInt 32 (a:Int)).toNat=a:=by
  rw[BitVec.ofInt_natCast,BitVec.toNat_ofNat];exact Nat.mod_eq_of_lt (by omega)
 have h2:(BitVec.ofInt 32 (b:Int)).toNat=b:=by
  rw[BitVec.ofInt_natCast,BitVec.toNat_ofNat];exact Nat.mod_eq_of_lt (by omega)
 show IntKind.u32.wrap ((BitVec.ofInt 32 (a:Int)&&&BitVec.ofInt 32 (b:Int)).toNat:Int)=_
 rw[BitVec.toNat_and,h1,h2,IntKind.wrap_u32];omega
theorem a7l (n:Nat) (h:n<4294967296):n/2147483648=(n.testBit 31).toNat:=by
 rw[Nat.testBit_eq_decide_div_mod_eq,show(2:Nat)^31=2147483648 from rfl];by_cases h1:n/2147483648%2=1
 ·rw[decide_eq_true h1];simp;omega
 ·rw[decide_eq_false h1];simp;omega
theorem b1p (n:Nat):(4294967295^^^n).testBit 31= !n.testBit 31:=by
 rw[Nat.testBit_xor,show(4294967295:Nat)=2^32 - 1 from rfl,Nat.testBit_two_pow_sub_one];cases n.testBit 31<;>rfl
theorem b1q (x y d c:Nat) (hx:x<4294967296) (hy:y<4294967296) (hc:c<=1) (hd:d=a4q x y c):
  (((4294967295^^^x)&&&y)|||((4294967295^^^(x^^^y))&&&d))/2147483648=a5W x y c:=by
 have hdl:d<4294967296:=by rw[hd];unfold a4q;omega
 have h1:(4294967295^^^x)&&&y<4294967296:=Nat.and_lt_two_pow (n:=32) _ hy;have h2:(4294967295^^^(x^^^y))&&&d<4294967296:=Nat.and_lt_two_pow (n:=32) _ hdl;rw[a7l _ (Nat.or_lt_two_pow (n:=32) h1 h2),Nat.testBit_or,Nat.testBit_and,Nat.testBit_and,b1p x,b1p,Nat.testBit_xor];have e1:=a7l x hx;have e2:=a7l y hy;have e3:=a7l d hdl;rw[hd]at e3 |-;unfold a5W;unfold a4q at*;cases hbx:x.testBit 31<;>cases hby:y.testBit 31<;>cases hbd:((x+4294967296 - y - c)%4294967296).testBit 31<;>simp[hbx,hby,hbd]at e1 e2 e3 |- <;>omega
theorem a4E (x y c:Nat) (w:World) (hx:x<4294967296) (hy:y<4294967296) (hc:c<=1):
  Calls Tryz.prog 292 #[.int .u32 x, .int .u32 y, .int .u32 c] w fun e w'=>w=w'/\e= .returned (.tuple #[.int .u32 (a4q x y c:Nat), .int .u32 (a5W x y c:Nat)]):=by
 have hb:=hid (b1q x y (a4q x y c) c hx hy hc rfl);go_enter Tryz.func292,Tryz.ntmps292
 go_wp2_with fail
 go_ret2
 refine⟨rfl,?_⟩;have hxy:x^^^y<4294967296:=Nat.xor_lt_two_pow (n:=32) hx hy;have hn:∀n:Nat,n<4294967296->4294967295^^^n<4294967296:=fun n h=>Nat.xor_lt_two_pow (n:=32) (by omega) h;have hm:IntKind.u32.max=((4294967295:Nat):Int):=rfl;have hd:((x:Int) - y - c)%4294967296=(a4q x y c:Nat):=by unfold a4q;omega
 have hdl:a4q x y c<4294967296:=by unfold a4q;omega
 rw[hm,hd,a2s _ _ (by decide) hx,a2s _ _ hx hy,a2s _ _ (by decide) hxy,a2t _ _ (hn _ hx) hy,a2t _ _ (hn _ hxy) hdl,
  a3B _ _ (Nat.and_lt_two_pow (n:=32) _ hy) (Nat.and_lt_two_pow (n:=32) _ hdl)]
 have h2:((((4294967295^^^x)&&&y|||(4294967295^^^(x^^^y))&&&a4q x y c:Nat):Int)/2147483648)=(a5W x y c:Nat):=by rw[<-hb.out];rfl
 simp[h2]
end Go.Proofs.YtidbbddagfnfbaaGreat
namespace Go.Lim
theorem a4F {p:Nat->Prop} {i:Nat} (h:∀j,j<i->p j) (hi:p i):∀j,j<i+1->p j:=fun j hj=>by
 by_cases hji:j<i
 ·exact h j hji
 ·obtain rfl:j=i:=by omega
  exact hi
def c0P (a b:List Int):Bool:=a.any fun x=>b.any fun y=>x==y
def ch:Nat->Nat->Nat
 |_,0=>1
 |0,_+1=>0
 |n+1,k+1=>ch n k+ch n (k+1)
theorem a3l (n:Nat):ch n 0=1:=by cases n<;>rfl
theorem b6w:∀(n k:Nat),n<k->ch n k=0
 |_,0,h=>by omega
 |0,_+1,_=>rfl
 |n+1,k+1,h=>by rw[ch,b6w n k (by omega),b6w n (k+1) (by omega)]
theorem b6x:∀(n k:Nat),ch n k<=2^n
 |n,0=>by rw[a3l];exact Nat.one_le_two_pow
 |0,_+1=>by simp[ch]
 |n+1,k+1=>by
  have h1:=b6x n k;have h2:=b6x n (k+1);rw[ch,Nat.pow_succ];omega
theorem b5B:∀(n k:Nat),k<=n->0<ch n k
 |n,0,_=>by rw[a3l];exact Nat.one_pos
 |0,_+1,h=>by omega
 |n+1,k+1,h=>by have:=b5B n k (by omega);rw[ch];omega
theorem b6y {n k:Nat} (h:n<=64):ch n k<B^3:=by
 rw[b3B];have:=b6x n k;have h2:(2:Nat)^n<=2^64:=Nat.pow_le_pow_right (by decide) h;have h3:(2:Nat)^64<2^(32*3):=Nat.pow_lt_pow_right (by decide) (by decide);omega
theorem b8x {n k:Nat} (h:n<=64):lg (ch n k)<=3:=a2J.2 (b6y h)
def a2W (r:List Nat) (k i j:Nat):Prop:=r.length=k+1/\∀p (_:p<r.length),r[p]=if j<p then ch (i+1) p else ch i p
theorem a2W.start (k:Nat):a2W ((List.replicate (k+1) 0).set 0 1) k 0 k:=by
 refine⟨by simp,fun p h=>?_⟩;simp at h;rw[if_neg (by omega),List.getElem_set];split
 ·subst_vars;rw[a3l]
 ·cases p with
  |zero=>omega
  |succ p=>simp[ch]
theorem a2W.step {r:List Nat} {k i j:Nat} (h:a2W r k i j) (h0:0<j) (hj:j<=k) {x y:Nat} (hx:r[j]'(by rw[h.1];omega)=x) (hy:r[j - 1]'(by rw[h.1];omega)=y):a2W (r.set j (x+y)) k i (j - 1):=by
 obtain⟨h1,h2⟩:=h;refine⟨by simpa using h1,fun p hp=>?_⟩;have e1:=h2 j (by omega);have e2:=h2 (j - 1) (by omega);rw[if_neg (by omega),hx]at e1;rw[if_neg (by omega),hy]at e2;rw[List.getElem_set];by_cases hjp:j=p
 ·subst hjp
  rw[if_pos rfl,if_pos (by omega),e1,e2];obtain⟨q,rfl⟩:∃q,j=q+1:=⟨j - 1,by omega⟩;rw[ch];simp[Nat.add_comm]
 ·rw[if_neg hjp,h2 p (by simpa using hp)]
  by_cases hpj:j<p
  ·rw[if_pos hpj,if_pos (by omega)]
  ·rw[if_neg hpj,if_neg (by omega)]
theorem a2W.next {r:List Nat} {k i:Nat} (h:a2W r k i 0):a2W r k (i+1) k:=by
 refine⟨h.1,fun p hp=>?_⟩;rw[h.2 p hp,if_neg (by have:=h.1;omega:¬k<p)];split
 ·rfl
 ·obtain rfl:p=0:=by omega
  rw[a3l,a3l]
theorem a2W.done {r:List Nat} {k i:Nat} (h:a2W r k i k) (hk:k<r.length):r[k]=ch i k:=by
 rw[h.2 k hk,if_neg (by omega)]
theorem a2W.le {r:List Nat} {k i j:Nat} (h:a2W r k i j) (p:Nat) (hp:p<r.length) (hi:i<64):lg r[p]<=3:=by
 rw[h.2 p hp];split
 ·exact b8x (by omega)
 ·exact b8x (by omega)
abbrev b9M:=List Int×List Int
end Go.Lim
namespace Go.Rep
open Go.RowKit Go.Lim
def a5X:Mem->Value->b9M->Prop:=fun h u x=>∃a1 c1 a2 c2,u= .agg #[.slice a1 x.1.length c1, .slice a2 x.2.length c2]/\x.1.length<=c1/\x.2.length<=c2/\Sl (a0w .i64) 1 h a1 x.1/\Sl (a0w .i64) 1 h a2 x.2
theorem a5X.mono:a3v a5X:=by
 rintro h h' u x hl ⟨a1,c1,a2,c2,rfl,h1,h2,h3,h4⟩;exact⟨a1,c1,a2,c2,rfl,h1,h2,h3.mono (a0w.mono _) hl,h4.mono (a0w.mono _) hl⟩
theorem a5X.elem:Elem a5X 2:=⟨a5X.mono,by rintro h u x ⟨a1,c1,a2,c2,rfl,_⟩;rfl,by
 rintro h u x ⟨a1,c1,a2,c2,rfl,_⟩ c hc;simp[a0j,Value.cells]at hc;rcases hc with rfl|rfl<;>rfl,by decide⟩
theorem Sl.leaf {X:Nat->Bool} {w:World} {ao:Option Addr} {l:List b9M} (s:Sl a5X 2 (mk X w) ao l) (i:Nat) (hi:i<l.length):
  ∃a1 c1 a2 c2,w.cell? (adr ao (i*2))=some (.slice a1 l[i].1.length c1)/\w.cell? (adr ao (i*2+1))=some (.slice a2 l[i].2.length c2)/\l[i].1.length<=c1/\l[i].2.length<=c2/\Sl (a0w .i64) 1 (mk X w) a1 l[i].1/\Sl (a0w .i64) 1 (mk X w) a2 l[i].2:=by
 obtain⟨u,h1,h2,a1,c1,a2,c2,rfl,h3,h4,h5,h6⟩:=s.2 i hi;exact⟨a1,c1,a2,c2,a1e (h2 0 (by simp[Value.cells])),a1e (h2 1 (by simp[Value.cells])),h3,h4,h5,h6⟩
theorem Sl.unstep {α:Type} {R:Mem->Value->α->Prop} (hR:a3v R) {sz:Nat} {X:Nat->Bool} {w w':World} {oo oo' ao:Option Addr} {l:List α} (s:Sl R sz (mk (un X oo) w) ao l) (hE:ExtX (ob oo) w w') (ho:oo'=oo\/∃g,oo'=some ⟨g,0,none⟩/\w.heap.size<=g):Sl R sz (mk (un X oo') w') ao l:=
 s.mono hR (a2U hE ho)
theorem Sl.unX {α:Type} {R:Mem->Value->α->Prop} (hR:a3v R) {sz:Nat} {X:Nat->Bool} {w:World} {oo ao:Option Addr} {l:List α} (s:Sl R sz (mk (un X oo) w) ao l):Sl R sz (mk X w) ao l:=
 s.mono hR (a1E fun _ _ hk=>a0k hk)
theorem Sl.old {α:Type} {R:Mem->Value->α->Prop} (hR:a3v R) {sz:Nat} {X:Nat->Bool} {w w':World} {oo ao:Option Addr} {l:List α} (s:Sl R sz (mk X w) ao l) (hE:Ext w w') (hb:∀j,j<w.heap.size->ob oo j=false):Sl R sz (mk (un X oo) w') ao l:=
 s.mono hR (a1f hE (fun k _ hk=>by simp[noY]at hk) fun j hk hz=>by simpa[un,hb j hk]using hz)
def a1A (P:Program) (t sz:Nat):Prop:=∃fs ti,P.underlying t=some (.struct fs)/\P.info? t=some ti/\ti.size=sz
section
variable {P:Program} {ops:Array Oper} {Q:Exit->Act->World->Prop} {rest:List Oper} {a:Act} {w:World}
variable {α:Type} {R:Mem->Value->α->Prop} {sz:Nat} {X:Nat->Bool} {ao:Option Addr} {l:List α}
variable {d:Option Tmp} {ty:TypeId} {ps:String} {af:Array Edge}
theorem a0P {t:TypeId} {x:Operand} {k:Nat} (hT:a1A P t sz) (i:Nat) (hs:Sl R sz (mk X w) ao l) (hi:i<l.length) (hx:a.eval x= .pointer (some (adr ao k))) (hk:k=i*sz) (hag:∀h u y,R h u y->∃cs,u= .agg cs)
  (K:∀u,R (mk X w) u l[i]->wpList P ops Q rest (a.put d u) w):
  wpList P ops Q (⟨d, .load t x,ty,ps,af,none⟩::rest) a w:=by
 refine wpList_plain rfl fun K' hK'=>?_;subst hk;obtain⟨fs,ti,h1,h2,h3⟩:=hT;obtain⟨u,h4,h5,h6⟩:=hs.2 i hi;obtain⟨cs,rfl⟩:=hag _ _ _ h6;have hl:=run_loadCells_list (P:=P) w (adr ao (i*sz)) cs.toList (fun j v hj=>by
  rw[a8N];obtain⟨hj1,hj2⟩:=List.getElem?_eq_some_iff.1 hj;have:=a1e (h5 j (by simpa[Value.cells]using hj1));rw[this];simp[Value.cells]at hj2 |-;exact hj2)
 have hsz:cs.toList.length=sz:=by simpa[Value.cells]using h4
 rw[hsz]at hl;unfold Oper.wp;simp[execOp,hx,Instr.loadAt,Instr.sureAddr,loadVar,isAgg,run_underlying h1,sizeOf,typeInfo,h2,h3,hl,Result.andThen];exact hK' _ _ (K _ h6)
end
theorem a5X.agg:∀h u y,a5X h u y->∃cs,u= .agg cs:=by rintro h u y ⟨a1,c1,a2,c2,rfl,_⟩;exact⟨_,rfl⟩
theorem OL.ob_ge {α:Type} {R:Mem->Value->α->Prop} {sz:Nat} {X:Nat->Bool} {base:Nat} {e:TypeId} {w:World} {ao:Option Addr} {cap:Nat} {l:List α} (h:OL R sz X base e w ao cap l) {k:Nat} (hk:w.heap.size<=k):ob ao k=false:=by
 cases hb:ob ao k
 ·rfl
 ·have:=h.block hb;omega
theorem a0v {P:Program} {ops:Array Oper} {Q:Exit->Act->World->Prop} {rest:List Oper} {a:Act} {w:World} {α:Type} {R:Mem->Value->α->Prop} {sz:Nat} {X:Nat->Bool} {base:Nat} {e:TypeId} {ao:Option Addr} {cap:Nat} {l:List α} {d:Option Tmp} {ty:TypeId} {ps:String} {af:Array Edge}
  {t by_:Nat} {z:Value} {arr:Array Value} {s x:Operand} (T:SliceT P t e sz by_ z) (hzs:z.cells.size=sz) (hR:Elem R sz) (hbase:base<=w.heap.size) (hX:∀k,X k=true->k<w.heap.size) (n:Nat) (hn:l.length=n)
  (hs:a.eval s= .slice ao n cap) (hx:a.eval x= .slice (some ⟨w.heap.size,0,none⟩) 1 1) (h:OL R sz X base e w ao cap l)
  (u:Value) (y:α) (harr:arr=u.cells) (hu:R (mk (un X ao) w) u y) (hroom:(n+1)*by_<=140737488355328) (hmax:n+1<=9223372036854775807)
  (K:∀ao' cap' w',OL R sz X base e w' ao' cap' (l++[y])->ExtX (ob ao) w w'->(ao'=ao\/∃g,ao'=some ⟨g,0,none⟩/\w.heap.size<=g)->wpList P ops Q rest (a.put d (.slice ao' (n+1) cap')) w'):
  wpList P ops Q (⟨d, .call {callee:= .builtin .append,args:=#[s,x],argTypes:=#[t,t]},ty,ps,af,none⟩::rest) a (w.alloc (.cells arr e)):=by
 subst hn;exact a3T T hzs hR hbase hX hs hx h u y harr hu hroom hmax fun ao' cap' w' h1 h2 h3=>by
  have:=K ao' cap' w' h1 h2 h3;rwa[show l.length+1=(l++[y]).length from by simp]at this
end Go.Rep
namespace Go.Proofs.YtidbbddagfnfbaaGreat
open Go.RowKit Go.Rep Go.Lim
def a9J (w:World) (k:IntKind) (n:Nat) (e:Ending) (w':World):Prop:=e= .returned (.int k n)/\∃m,w'=w.drewN m
theorem a7m (a b:Nat) (ha:a<4294967296) (hb:b<4294967296):bits BinOp.or IntKind.u64 ((a:Int)*4294967296) (b:Int)=(a:Int)*4294967296+b:=by
 have e:=bits_or_u64_nat (a*4294967296) b (by omega) (by omega);have e2:=Nat.two_pow_add_eq_or_of_lt (i:=32) (b:=b) (by omega) a;rw[Nat.mul_comm]at e2;rw[<-e2]at e;simpa using e
set_option maxRecDepth 100000 in
set_option maxHeartbeats 400000 in
theorem b1r (u2 u1 u0 v1 v0:Nat) (w:World) (hv:2147483648<=v1) (hv1:v1<4294967296) (h2:u2<=v1) (h1:u1<4294967296) (h0:u0<4294967296) (hv0:v0<4294967296):
  Calls Tryz.prog 309 #[.int .u32 u2, .int .u32 u1, .int .u32 u0, .int .u32 v1, .int .u32 v0] w (a9J w .u64 (a7k B u2 u1 u0 v1 v0)):=by
 have t1:((v1:Int)==0)=false:=a2I (by omega);have t2:((v1:Int) !=0)=true:=a7R (by omega);have hor:=a7m u2 u1 (by omega) h1;have hBe:=hid a1l;have hst:Hid (a6D B u2 u1 u0 v1 v0 ((u2*4294967296+u1)/v1) ((u2*4294967296+u1)%v1)):=hid (by
  have:=a6D.start (b:=B) (u0:=u0) (v0:=v0) (by rw[a1l];omega) (by rw[a1l];omega) h2 (by rw[a1l];exact h1) (by rw[a1l];exact h0);rwa[a1l]at this |-)
 go_enter Tryz.func309,Tryz.ntmps309
 go_wp2_with fail
 go_quiet (fail)
 go_wp2_with fail
 go_loop [12,13] (fun x y=>∃(q r:Nat),x= .int .u64 q/\y= .int .u64 r/\Hid (a6D B u2 u1 u0 v1 v0 q r)) (fun x _=>(intOf x).toNat)
 case atStart=>exact⟨_,_,by rw[Int.natCast_ediv];simp,by rw[Int.natCast_emod];simp,hst⟩
 case round=>
  obtain⟨q,r,rfl,rfl,hinv⟩:=hrel;have hq:q<=4294967297:=by have:=hinv.out.2.2;rw[hBe.out]at this;exact this
  clear hor t1 t2 hst;have hqI:(q:Int)<=4294967297:=by omega
  by_cases hr:(r:Int)<4294967296
  ·have hor:=a7m r u0 (by omega) h0
   by_cases hqb:4294967296<=q
   ·obtain⟨hq1,hinv2⟩:=hinv.out.more (by rw[hBe.out];omega) (.inl (by rw[hBe.out];exact hqb)) (by omega)
    have hi2:=hid hinv2;have hqbI:(4294967296:Int)<=(q:Int):=by omega
    clear hinv2 hqb hq;go_wp2_with fail
    go_round
    case rel=>exact⟨q - 1,r+v1,by rw[Int.natCast_sub hq1];rfl,rfl,hi2⟩
    case measure=>simp[intOf];omega
   ·have hm:q*v0<=4294967295*4294967295:=Nat.mul_le_mul (by omega) (by omega)
    have hw1:IntKind.u64.wrap ((q:Int)*(v0:Int))=(q:Int)*(v0:Int):=IntWalk.u64_in _ (by rw[<-Int.natCast_mul];omega);have hqv0:(0:Int)<=(q:Int)*(v0:Int):=Int.mul_nonneg (by omega) (by omega);by_cases hc:r*4294967296+u0<q*v0
    ·obtain⟨hq1,hinv2⟩:=hinv.out.more (by rw[hBe.out];omega) (.inr (by rw[hBe.out];exact hc)) (by omega)
     have hi2:=hid hinv2;have ht:decide ((r:Int)*4294967296+(u0:Int)<(q:Int)*(v0:Int))=true:=by rw[decide_eq_true_eq,<-Int.natCast_mul];omega
     have hqbI:(q:Int)<4294967296:=by omega
     clear hinv2 hm hc hqb hq;go_wp2_with fail
     go_round
     case rel=>exact⟨q - 1,r+v1,by rw[Int.natCast_sub hq1];rfl,rfl,hi2⟩
     case measure=>simp[intOf];omega
    ·have hqbI:(q:Int)<4294967296:=by omega
     have hfin:=hid (hinv.out.less (by rw[hBe.out];omega) (by rw[hBe.out];omega) h2 (by rw[hBe.out];exact h1) (by rw[hBe.out];exact hv0) (.inr ⟨by rw[hBe.out];omega,by rw[hBe.out];omega⟩));have ht:decide ((r:Int)*4294967296+(u0:Int)<(q:Int)*(v0:Int))=false:=by rw[decide_eq_false_iff_not,<-Int.natCast_mul];omega
     have hqbJ:decide ((4294967296:Int)<=(q:Int))=false:=decide_eq_false (by omega);have h0I:(u0:Int)<4294967296:=by omega
     have hv0I:(v0:Int)<4294967296:=by omega
     clear hm hc hqb hq hv hv1 h2 h1 h0 hv0;go_wp2_with fail
     go_ret
     exact⟨a0J (congrArg Nat.cast hfin.out),_,rfl⟩
  ·have hfin:=hid (hinv.out.less (by rw[hBe.out];omega) (by rw[hBe.out];omega) h2 (by rw[hBe.out];exact h1) (by rw[hBe.out];exact hv0) (.inl (by rw[hBe.out];omega)))
   clear hq hv hv1 h2 h1 h0 hv0;go_wp2_with fail
   go_ret
   exact⟨a0J (congrArg Nat.cast hfin.out),_,rfl⟩
set_option maxRecDepth 100000 in
theorem a5Y (X:Nat->Bool) (ao:Option Addr) (l:List Nat) (cap s:Nat) (w:World) (hs:Sl (a0d .u32) 1 (mk X w) ao l) (hd:Dig l) (hl:l.length<=1099511627776) (hsh:s<32) (hX:∀k,X k=true->k<w.heap.size):
  Calls Tryz.prog 308 #[.slice ao l.length cap, .int .i64 s] w (fun e w'=>Ext w w'/\∃oo o,e= .returned (.slice oo o.length o.length)/\OL (a0d .u32) 1 X w.heap.size 147 w' oo o.length o/\Hid (o.length=l.length+1/\Dig o/\o.getD l.length 0<2^s/\nv o=nv l*2^s)):=by
 have hh:=hs.hd;go_enter Tryz.func308,Tryz.ntmps308
 go_wp2_with (at_make;refine a2C a0R (a0d.elem .u32) 0 (fun _=>rfl) X hX w.heap.size (Nat.le_refl _) (l.length+1) rfl rfl (by omega) (by omega) (by omega) ?_;intro oo w1 hO hE1)
 go_loopw [15] (fun c wr=>∃(k:Nat) (o:List Nat),c= .int .i64 k/\k<=l.length/\Hid (a7j l o s k)/\Hid (o.length=l.length+1)/\OL (a0d .u32) 1 X w.heap.size 147 wr oo (l.length+1) o/\Ext w wr) (fun c _=>l.length - (intOf c).toNat)
 case atStart=>exact⟨0,_,rfl,by omega,hid (a7j.start l s),hid (by simp),hO,hE1⟩
 case round=>
  obtain⟨k,o,rfl,hk,hinv,hol,hOr,hEr⟩:=hrel;clear hO hE1;have hho:Hd oo (l.length+1):=hol.out▸hOr.hd;by_cases hlt:k<l.length
  ·have hca:=(hs.mono (a0d.mono _) (a0p hEr)).nat k hlt
   have hko:k<o.length:=by rw[hol.out];omega
   have hco:=(hOr.sl (a0d.elem _)).nat k hko;obtain⟨x,hx⟩:∃x,l[k]=x:=⟨_,rfl⟩;obtain⟨lo,hlo⟩:∃lo,o[k]=lo:=⟨_,rfl⟩;obtain⟨hst,b1,b2,b3⟩:=hinv.out.step (lo:=lo) hlt hx ((a0y hko).trans hlo) hd hsh;have hxB:=hd.get k hlt;rw[hx,a1l]at hxB;rw[hx]at hca;rw[hlo]at hco;have hloB:=hinv.out.2.1.get k hko;rw[hlo,a1l]at hloB;obtain⟨p,hp⟩:∃p,x*2^s=p:=⟨_,rfl⟩;rw[hp]at hst b1 b2 b3;have hst':=hid hst;have hw:IntKind.u64.wrap ((x:Int)*2^s)=(p:Int):=by
    have e:(x:Int)*2^s=(p:Int):=by rw[<-hp];simp
    rw[e];exact IntWalk.u64_in _ (by omega)
   have hor:bits BinOp.or IntKind.u32 (lo:Int) ((p:Int)%4294967296)=((lo|||p%4294967296:Nat):Int):=by
    have:=a3B lo (p%4294967296) hloB (Nat.mod_lt _ (by decide));simpa using this
   have hdv:=hid b3;clear hx hlo hinv hp hst b1 b2 b3;go_wp2_with (first|(with_reducible refine a0t a0R (by omega) (by assumption) ?_)|((with_reducible show wpList _ _ _ (⟨_, .store _ _ _,_,_,_,_⟩::_) _ _);first|(refine a0W a3w k (lo|||p%4294967296) rfl rfl hOr hko rfl rfl ?_;intro w2 hO2 hE2)|(refine a0W a3w (k+1) (p/4294967296) rfl rfl hO2 (by simp;rw[hol.out];omega) rfl (by have:=hdv.out;omega) ?_;intro w3 hO3 hE3)))
   have hol3:Hid (((o.set k (lo|||p%4294967296)).set (k+1) (p/4294967296)).length=l.length+1):=hid (by simp;exact hol.out);go_roundw
   case rel=>exact⟨k+1,_,by go_num,by omega,hst',hol3,hO3,(hEr.own hOr (Nat.le_refl _) hE2).own hO2 (Nat.le_refl _) hE3⟩
   case measure=>simp[intOf];omega
  ·have hke:k=l.length:=by omega
   subst hke;have hdn:=hid hinv.out.done;rw[<-hol.out]at hOr |-;go_wp2_with fail
   go_ret
   exact⟨hEr,_,o,rfl,hOr,hdn⟩
def b5C (X:Nat->Bool) (base g cU:Nat) (w:World) (A R:List Nat) (P:List Nat->Ending->Prop) (e:Ending) (w':World):Prop:=
 ExtX (ob (some ⟨g,0,none⟩)) w w'/\∃o:List Nat,P o e/\OL (a0d .u32) 1 X base 147 w' (some ⟨g,0,none⟩) cU (A++o++R)
theorem b1s {A o R:List Nat} {k:Nat} (h:k<o.length):(A++o++R)[A.length+k]'(by simp;omega)=o[k]:=by
 rw[List.getElem_append_left (by simp;omega),List.getElem_append_right (by omega)];simp
theorem a7n {A o R:List Nat} {k d:Nat} (h:k<o.length):(A++o++R).set (A.length+k) d=A++o.set k d++R:=by
 rw[List.append_assoc,List.set_append_right _ _ (by omega),List.append_assoc]
 congr 1
 rw[show A.length+k - A.length=k by omega,List.set_append_left _ _ h]
theorem a7o (g a k:Nat):Value.pointer (some (⟨g,a+k,none⟩:Addr))= .pointer (some (adr (some ⟨g,0,none⟩) (a+k))):=by rw[a1z,Nat.zero_add]
def c0Q (W V:List Nat) (x n:Nat) (o:List Nat) (e:Ending):Prop:=∃bo:Nat,e= .returned (.bool (decide (bo=1)))/\o.length=n+1/\Dig o/\((bo=0/\nv o+x*nv V=nv W)\/(bo=1/\nv W<x*nv V/\nv o+x*nv V=nv W+B^(n+1)))
set_option maxRecDepth 100000 in
theorem b0z (X:Nat->Bool) (base g cU cw:Nat) (A W R V:List Nat) (vo:Option Addr) (cv x n:Nat) (w:World) (hU:OL (a0d .u32) 1 X base 147 w (some ⟨g,0,none⟩) cU (A++W++R)) (hVs:Sl (a0d .u32) 1 (mk (un X (some ⟨g,0,none⟩)) w) vo V)
  (hW:W.length=n+1) (hV:V.length=n) (hVd:Dig V) (hWd:Dig W) (hx:x<4294967296) (_hA:A.length<=1099511627776) (hn:n<=1099511627776):
  Calls Tryz.prog 310 #[.slice (some ⟨g,A.length,none⟩) W.length cw, .slice vo V.length cv, .int .u64 x] w (b5C X base g cU w A R (c0Q W V x n)):=by
 have hhv:=hVs.hd;have hhw:Hd (some (⟨g,A.length,none⟩:Addr)) W.length:=fun _=>⟨_,_,rfl⟩;have hWh:=hid hW;have hVh:=hid hV;have hxB:Hid (x<B):=hid (by rw[a1l];exact hx);have hWl:W.length<=1099511627777:=by omega
 have hVl:V.length<=1099511627776:=by omega
 clear hW hV;go_enter Tryz.func310,Tryz.ntmps310
 go_wp2_with fail
 go_loopw [7,8,13] (fun a b c wr=>∃(k cy bo:Nat) (o:List Nat),a= .int .u64 cy/\b= .int .u32 bo/\c= .int .i64 k/\k<=W.length/\cy<4294967296/\bo<=1/\Hid (a4B W V x o k cy bo)/\Hid (o.length=W.length)/\OL (a0d .u32) 1 X base 147 wr (some ⟨g,0,none⟩) cU (A++o++R)/\ExtX (ob (some ⟨g,0,none⟩)) w wr) (fun _ _ c _=>W.length - (intOf c).toNat)
 case atStart=>exact⟨0,0,0,W,rfl,rfl,rfl,by omega,by omega,by omega,hid (a4B.start hWd),hid rfl,hU,ExtX.refl _⟩
 case round=>
  obtain⟨k,cy,bo,o,rfl,rfl,rfl,hk,hcy,hbo,hinv,hol,hOr,hEr⟩:=hrel;clear hU;by_cases hlt:k<W.length
  ·have hko:k<o.length:=by rw[hol.out];exact hlt
   have hall:A.length+k<(A++o++R).length:=by simp;omega
   have hco:=(hOr.sl (a0d.elem _)).nat (A.length+k) hall;rw[b1s hko]at hco;obtain⟨z,hz⟩:∃z,o[k]=z:=⟨_,rfl⟩;rw[hz]at hco;have hco1:wr.cell? ⟨g,A.length+k,none⟩=some (.int .u32 z):=by rw[a1z,Nat.zero_add]at hco;exact hco
   have hVs1:=hVs.unstep (a0d.mono _) hEr (.inl rfl);by_cases hkv:k<V.length
   ·have hcv:=hVs1.nat k hkv
    obtain⟨y,hy⟩:∃y,V[k]=y:=⟨_,rfl⟩;rw[hy]at hcv;obtain⟨hst,b1,hzB⟩:=hinv.out.step (y:=y) (z:=z) hlt ((a0y hkv).trans hy) ((a0y hko).trans hz) hVd hxB.out;have hyB:=hVd.get k hkv;rw[hy,a1l]at hyB;obtain⟨t,ht⟩:∃t,cy+x*y=t:=⟨_,rfl⟩;rw[ht]at hst b1;have hst':=hid hst;have hw1:IntKind.u64.wrap ((x:Int)*(y:Int))=(x:Int)*(y:Int):=IntWalk.u64_in _ (by rw[<-Int.natCast_mul];omega);have hw2:IntKind.u64.wrap ((cy:Int)+(x:Int)*(y:Int))=(t:Int):=by
     rw[<-ht,Int.natCast_add,Int.natCast_mul];exact IntWalk.u64_in _ (by rw[<-Int.natCast_mul];omega)
    have htm:(t:Int)%4294967296=((t%4294967296:Nat):Int):=by omega
    have htm2:t%4294967296<4294967296:=Nat.mod_lt _ (by decide);obtain⟨tm,htmm⟩:∃tm,t%4294967296=tm:=⟨_,rfl⟩;rw[htmm]at htm htm2 hst';have hset:=hid (a7n (A:=A) (R:=R) (d:=a4q z tm bo) hko);have hcy2:t/4294967296<4294967296:=by omega
    have hbo2:a5W z tm bo<=1:=by unfold a5W;split<;>omega
    have hol2:Hid ((o.set k (a4q z tm bo)).length=W.length):=hid (by rw[List.length_set];exact hol.out);clear hst hz hy hinv ht b1 hVs1 hco htmm;go_wp2_with (first|(with_reducible refine a0t a0R (by omega) (by assumption) ?_)|(go_at_call 292;refine(a4E _ _ _ _ hzB htm2 hbo).mono ?_;rintro e w' ⟨rfl,rfl⟩)|((with_reducible show wpList _ _ _ (⟨_, .store _ _ _,_,_,_,_⟩::_) _ _);refine a0W a3w (A.length+k) (a4q z tm bo) (a7o g A.length k) rfl hOr hall rfl rfl ?_;intro w3 hO2 hE3))
    rw[hset.out]at hO2;go_roundw
    case rel=>exact⟨k+1,_,_,_,by simp,rfl,by go_num,by omega,hcy2,hbo2,hst',hol2,hO2,hEr.trans hE3⟩
    case measure=>simp[intOf];omega
   ·obtain⟨hst,b1,hzB⟩:=hinv.out.step (y:=0) (z:=z) hlt (a3W (by omega)) ((a0y hko).trans hz) hVd hxB.out
    rw[Nat.mul_zero,Nat.add_zero,Nat.mod_eq_of_lt hcy,Nat.div_eq_of_lt hcy]at hst;have hst':=hid hst;have hset:=hid (a7n (A:=A) (R:=R) (d:=a4q z cy bo) hko);have hbo2:a5W z cy bo<=1:=by unfold a5W;split<;>omega
    have hol2:Hid ((o.set k (a4q z cy bo)).length=W.length):=hid (by rw[List.length_set];exact hol.out);clear hst hz hinv b1 hVs1 hco;go_wp2_with (first|(with_reducible refine a0t a0R (by omega) (by assumption) ?_)|(go_at_call 292;refine(a4E _ _ _ _ hzB hcy hbo).mono ?_;rintro e w' ⟨rfl,rfl⟩)|((with_reducible show wpList _ _ _ (⟨_, .store _ _ _,_,_,_,_⟩::_) _ _);refine a0W a3w (A.length+k) (a4q z cy bo) (a7o g A.length k) rfl hOr hall rfl rfl ?_;intro w3 hO2 hE3))
    rw[hset.out]at hO2;go_roundw
    case rel=>exact⟨k+1,0,_,_,congrArg (Value.int .u64) (Int.ediv_eq_zero_of_lt (by omega) (by omega)),rfl,by go_num,by omega,by omega,hbo2,hst',hol2,hO2,hEr.trans hE3⟩
    case measure=>simp[intOf];omega
  ·have hke:k=W.length:=by omega
   subst hke;have hdn:=hinv.out.done hWh.out hVh.out hVd hxB.out;clear hinv;obtain⟨d1,d2,d3⟩:=hdn;have d1':=hid d1;have d3':=hid d3;clear d1;clear d3';rcases d3 with⟨rfl,d4⟩|⟨rfl,d4⟩
   ·have d4':=hid d4
    clear d4;go_wp2_with fail
    go_ret
    exact⟨hEr,o,⟨0,rfl,d1'.out,d2, .inl ⟨rfl,d4'.out⟩⟩,hOr⟩
   ·have d4':=hid d4
    clear d4;go_wp2_with fail
    go_ret
    exact⟨hEr,o,⟨1,rfl,d1'.out,d2, .inr ⟨rfl,d4'.out⟩⟩,hOr⟩
def c0R (W V:List Nat) (n:Nat) (o:List Nat) (e:Ending):Prop:=∃c:Nat,e= .returned (.tuple #[])/\o.length=n+1/\Dig o/\c<=1/\nv o+B^(n+1)*c=nv W+nv V
set_option maxRecDepth 100000 in
theorem a8R (X:Nat->Bool) (base g cU cw:Nat) (A W R V:List Nat) (vo:Option Addr) (cv n:Nat) (w:World) (hU:OL (a0d .u32) 1 X base 147 w (some ⟨g,0,none⟩) cU (A++W++R)) (hVs:Sl (a0d .u32) 1 (mk (un X (some ⟨g,0,none⟩)) w) vo V)
  (hW:W.length=n+1) (hV:V.length=n) (hVd:Dig V) (hWd:Dig W) (_hA:A.length<=1099511627776) (hn:n<=1099511627776):
  Calls Tryz.prog 311 #[.slice (some ⟨g,A.length,none⟩) W.length cw, .slice vo V.length cv] w (b5C X base g cU w A R (c0R W V n)):=by
 have hhv:=hVs.hd;have hhw:Hd (some (⟨g,A.length,none⟩:Addr)) W.length:=fun _=>⟨_,_,rfl⟩;have hWh:=hid hW;have hVh:=hid hV;have hWl:W.length<=1099511627777:=by omega
 have hVl:V.length<=1099511627776:=by omega
 clear hW hV;go_enter Tryz.func311,Tryz.ntmps311
 go_wp2_with fail
 go_loopw [4,9] (fun a c wr=>∃(k cy:Nat) (o:List Nat),a= .int .u32 cy/\c= .int .i64 k/\k<=W.length/\cy<=1/\Hid (a4C W V o k cy)/\Hid (o.length=W.length)/\OL (a0d .u32) 1 X base 147 wr (some ⟨g,0,none⟩) cU (A++o++R)/\ExtX (ob (some ⟨g,0,none⟩)) w wr) (fun _ c _=>W.length - (intOf c).toNat)
 case atStart=>exact⟨0,0,W,rfl,rfl,by omega,by omega,hid (a4C.start hWd),hid rfl,hU,ExtX.refl _⟩
 case round=>
  obtain⟨k,cy,o,rfl,rfl,hk,hcy,hinv,hol,hOr,hEr⟩:=hrel;clear hU;by_cases hlt:k<W.length
  ·have hko:k<o.length:=by rw[hol.out];exact hlt
   have hall:A.length+k<(A++o++R).length:=by simp;omega
   have hco:=(hOr.sl (a0d.elem _)).nat (A.length+k) hall;rw[b1s hko]at hco;obtain⟨z,hz⟩:∃z,o[k]=z:=⟨_,rfl⟩;rw[hz]at hco;have hco1:wr.cell? ⟨g,A.length+k,none⟩=some (.int .u32 z):=by rw[a1z,Nat.zero_add]at hco;exact hco
   have hVs1:=hVs.unstep (a0d.mono _) hEr (.inl rfl);by_cases hkv:k<V.length
   ·have hcv:=hVs1.nat k hkv
    obtain⟨y,hy⟩:∃y,V[k]=y:=⟨_,rfl⟩;rw[hy]at hcv;obtain⟨hst,hzB⟩:=hinv.out.step (y:=y) (z:=z) hlt ((a0y hkv).trans hy) ((a0y hko).trans hz) hVd;have hyB:=hVd.get k hkv;rw[hy,a1l]at hyB;have hst':=hid hst;have hset:=hid (a7n (A:=A) (R:=R) (d:=(z+y+cy)%4294967296) hko);have hcy2:(z+y+cy)/4294967296<=1:=by omega
    have hol2:Hid ((o.set k ((z+y+cy)%4294967296)).length=W.length):=hid (by rw[List.length_set];exact hol.out);clear hst hz hy hinv hVs1 hco;go_wp2_with (first|(with_reducible refine a0t a0R (by omega) (by assumption) ?_)|(go_at_call 254;refine(a4z _ _ _ _ hzB hyB hcy).mono ?_;rintro e w' ⟨rfl,rfl⟩)|((with_reducible show wpList _ _ _ (⟨_, .store _ _ _,_,_,_,_⟩::_) _ _);refine a0W a3w (A.length+k) ((z+y+cy)%4294967296) (a7o g A.length k) rfl hOr hall rfl rfl ?_;intro w3 hO2 hE3))
    rw[hset.out]at hO2;go_roundw
    case rel=>exact⟨k+1,_,_,rfl,by go_num,by omega,hcy2,hst',hol2,hO2,hEr.trans hE3⟩
    case measure=>simp[intOf];omega
   ·obtain⟨hst,hzB⟩:=hinv.out.step (y:=0) (z:=z) hlt (a3W (by omega)) ((a0y hko).trans hz) hVd
    have hst':=hid hst;have hset:=hid (a7n (A:=A) (R:=R) (d:=(z+0+cy)%4294967296) hko);have hcy2:(z+0+cy)/4294967296<=1:=by omega
    have hol2:Hid ((o.set k ((z+0+cy)%4294967296)).length=W.length):=hid (by rw[List.length_set];exact hol.out);clear hst hz hinv hVs1 hco;go_wp2_with (first|(with_reducible refine a0t a0R (by omega) (by assumption) ?_)|(go_at_call 254;refine(a4z _ 0 _ _ hzB (by omega) hcy).mono ?_;rintro e w' ⟨rfl,rfl⟩)|((with_reducible show wpList _ _ _ (⟨_, .store _ _ _,_,_,_,_⟩::_) _ _);refine a0W a3w (A.length+k) ((z+0+cy)%4294967296) (a7o g A.length k) rfl hOr hall rfl rfl ?_;intro w3 hO2 hE3))
    rw[hset.out]at hO2;go_roundw
    case rel=>exact⟨k+1,_,_,rfl,by go_num,by omega,hcy2,hst',hol2,hO2,hEr.trans hE3⟩
    case measure=>simp[intOf];omega
  ·have hke:k=W.length:=by omega
   subst hke;have hdn:=hid (hinv.out.done hWh.out hVh.out);go_wp2_with fail
   exact bodyPost_end (results_none rfl _ _ _) rfl ⟨hEr,o,⟨cy,rfl,hdn.out⟩,hOr⟩
def b8y (X:Nat->Bool) (w:World) (na nb:Nat) (e:Ending) (w':World):Prop:=
 Ext w w'/\∃ao cap l,e= .returned (.tuple #[.slice ao l.length cap, .bool (decide (nb<=na))])/\l.length<=cap/\a0I l (na - nb)/\Sl (a0d .u32) 1 (mk X w') ao l
theorem b6z (X:Nat->Bool) (ao bo:Option Addr) (la lb:List Nat) (ca cb:Nat) (w:World) (hsa:Sl (a0d .u32) 1 (mk X w) ao la) (hsb:Sl (a0d .u32) 1 (mk X w) bo lb)
  (hda:Dig la) (hdb:Dig lb) (hla:la.length<=1099511627776) (hlb:lb.length<=1099511627776) (hca:la.length<=ca) (hcb:lb.length<=cb) (hX:∀k,X k=true->k<w.heap.size) (na nb:Nat) (hna:val la=na) (hnb:val lb=nb):
  Calls Tryz.prog 243 #[.slice ao la.length ca, .slice bo lb.length cb] w (b8y X w na nb):=by
 go_enter Tryz.func243,Tryz.ntmps243
 go_wp2_with fail
 refine(a1m X _ _ _ _ hsa hda (by omega) hca).mono ?_;rintro e w' ⟨rfl,ao1,ca1,a,rfl,hca1,hal,hcan,hsa1⟩;go_wp2_with fail
 refine(a1m X _ _ _ _ hsb hdb (by omega) hcb).mono ?_;rintro e w' ⟨rfl,bo1,cb1,b,rfl,hcb1,hbl,hcbn,hsb1⟩;rw[hna]at hcan;rw[hnb]at hcbn;have hal':a.length<=1099511627776:=Nat.le_trans hal hla;have hbl':b.length<=1099511627776:=Nat.le_trans hbl hlb;have hva:=hid hcan.val;have hvb:=hid hcbn.val;clear hna hnb hal hbl hsa hsb hla hlb hca hcb hda hdb;go_wp2_with fail
 refine(a3k X _ _ _ _ _ _ _ hsa1 hsb1 hcan.1 hcbn.1 hal' hbl' hca1 hcb1 na nb hva.out hvb.out).mono ?_;rintro e w1 ⟨hE1,rfl⟩;by_cases hlt:na<nb
 ·have hc:a2R na nb<0:=(a3y _ _).2 hlt
  have hd:Hid (decide (nb<=na)=false):=hid (decide_eq_false (by omega));have hz:Hid (na - nb=0):=hid (by omega);clear hlt;go_wp2_with fail
  go_ret2
  exact⟨hE1,none,0,[],by rw[hd.out];rfl,by simp,by rw[hz.out];exact a0I.nil,Sl.nil _ _ _ _⟩
 ·have hc:¬a2R na nb<0:=fun h=>hlt ((a3y _ _).1 h)
  have hd:Hid (decide (nb<=na)=true):=hid (decide_eq_true (by omega));have hab:b.length<=a.length:=by rw[hcan.len,hcbn.len];exact a1h (by omega)
  have hle:Hid (nv b<=nv a):=hid (by rw[hcan.2.2,hcbn.2.2];omega);have hsum:Hid (nv a - nv b=na - nb):=hid (by rw[hcan.2.2,hcbn.2.2]);have hX1:∀k,X k=true->k<w1.heap.size:=fun k hk=>Nat.lt_of_lt_of_le (hX k hk) hE1.size;have hsa2:=hsa1.mono (a0d.mono _) (a0p hE1);have hsb2:=hsb1.mono (a0d.mono _) (a0p hE1);have hda:=hcan.1;have hdb:=hcbn.1;have hha:=hsa1.hd;have hhb:=hsb1.hd;clear hlt hcan hcbn hva hvb hsa1 hsb1;go_wp2_with (at_make;refine a2C a0R (a0d.elem .u32) 0 (fun _=>rfl) X hX1 w1.heap.size (Nat.le_refl _) a.length rfl rfl (by omega) (by omega) (by omega) ?_;intro oo w2 hO hE2)
  go_loopw [7,24] (fun c i wr=>∃(k:Nat) (o:List Nat) (cy:Nat),i= .int .i64 k/\c= .int .u32 cy/\k<=a.length/\a4A a b o k cy/\OL (a0d .u32) 1 X w1.heap.size 147 wr oo a.length o/\Ext w1 wr) (fun _ i _=>a.length - (intOf i).toNat)
  case atStart=>exact⟨0,_,0,rfl,rfl,by omega,a4A.start a b,hO,hE2⟩
  case round=>
   obtain⟨k,o,cy,rfl,rfl,hk,hinv,hOr,hEr⟩:=hrel;clear hO hE2;have hcy:=hinv.2.2.1;have hol:=hid hinv.1;have hho:Hd oo a.length:=hol.out▸hOr.hd;by_cases hlt:k<a.length
   ·have hca:=(hsa2.mono (a0d.mono _) (a0p hEr)).nat k hlt
    have hak:=hda.get k hlt;obtain⟨x,hx⟩:∃x,a[k]=x:=⟨_,rfl⟩;rw[hx]at hca hak;rw[a1l]at hak;by_cases hkb:k<b.length
    ·have hcb:=(hsb2.mono (a0d.mono _) (a0p hEr)).nat k hkb
     have hbk:=hdb.get k hkb;obtain⟨y,hy⟩:∃y,b[k]=y:=⟨_,rfl⟩;rw[hy]at hcb hbk;rw[a1l]at hbk;have hst:=hinv.step (y:=y) hlt hx ((a0y hkb).trans hy) hda hdb;clear hx hy;go_wp2_with (first|(with_reducible refine a0t a0R (by omega) (by assumption) ?_)|(go_at_call 292;refine(a4E _ _ _ _ hak hbk hcy).mono ?_;rintro e w' ⟨rfl,rfl⟩)|((with_reducible show wpList _ _ _ (⟨_, .store _ _ _,_,_,_,_⟩::_) _ _);refine a0W a3w k (a4q x y cy) rfl (by omega) hOr (by rw[hol.out];omega) rfl rfl ?_;intro w3 hO2 hE3))
     go_roundw
     case rel=>exact⟨k+1,_,_,by go_num,rfl,by omega,hst,hO2,hEr.own hOr (Nat.le_refl _) hE3⟩
     case measure=>simp[intOf];omega
    ·have hst:=hinv.step hlt hx (a3W (by omega)) hda hdb
     clear hx;go_wp2_with (first|(with_reducible refine a0t a0R (by omega) (by assumption) ?_)|(go_at_call 292;refine(a4E _ 0 _ _ hak (by omega) hcy).mono ?_;rintro e w' ⟨rfl,rfl⟩)|((with_reducible show wpList _ _ _ (⟨_, .store _ _ _,_,_,_,_⟩::_) _ _);refine a0W a3w k (a4q x 0 cy) rfl (by omega) hOr (by rw[hol.out];omega) rfl rfl ?_;intro w3 hO2 hE3))
     go_roundw
     case rel=>exact⟨k+1,_,_,by go_num,rfl,by omega,hst,hO2,hEr.own hOr (Nat.le_refl _) hE3⟩
     case measure=>simp[intOf];omega
   ·have hke:k=a.length:=by omega
    subst hke;have hdn:=hid (hinv.done hab hle.out);have hod:=hinv.2.1;have hs3:=hOr.sl (a0d.elem .u32);go_wp2_with fail
    rw[<-hol.out];refine(a1J X _ _ _ _ hs3 hod (by rw[hol.out];omega) (by rw[hol.out];exact Nat.le_refl _)).mono ?_;rintro e w' ⟨rfl,l',rfl,hl',hc,hs'⟩;go_wp2_with fail
    go_ret2
    rw[hdn.out,hsum.out]at hc;exact⟨hE1.trans hEr,_,o.length,l',by rw[hd.out];rfl,hl',hc,hs'⟩
theorem a7p:Lib.len8tab.size=256:=by decide+kernel
theorem b6A:∀n:Fin 256,(Lib.len8tab[n.val]'(by rw[a7p];exact n.isLt)).toNat=Lib.bitLen n.val:=by decide+kernel
theorem a9K (i:Nat) (h:i<Lib.len8tab.size):(Lib.len8tab[i]).toNat=Lib.bitLen i:=b6A ⟨i,by rw[a7p]at h;exact h⟩
theorem b6B (b:Nat) (h:b<=64):wrap64 (b:Int)=b:=by unfold wrap64;omega
theorem b1t (k b:Nat) (h:b<=64) (hk:k<=64):wrap64 ((k:Int)+wrap64 (b:Int))=((k+b:Nat):Int):=by rw[b6B b h];unfold wrap64;omega
theorem c0S (x:Int) (_h0:0<=x) (h:16777216<=x) (h1:x<=4294967295) (h2:(x/65536/256).toNat<Lib.len8tab.size) (n:Int) (hn:n=24):wrap64 (n+wrap64 ((Lib.len8tab[(x/65536/256).toNat].toNat:Nat):Int))=(Lib.bitLen x.toNat:Int):=by
 subst hn;rw[a9K];have e:(x/65536/256).toNat=x.toNat/16777216:=by omega
 rw[e,Lib.bitLen_shift24 x.toNat (by omega) (by omega)];exact b1t 24 _ (Nat.le_trans (Lib.bitLen_le _ 8 (by omega) (by omega)) (by omega)) (by omega)
theorem c0T (x:Int) (_h0:0<=x) (h:65536<=x) (h1:x<16777216) (h2:(x/65536).toNat<Lib.len8tab.size) (n:Int) (hn:n=16):wrap64 (n+wrap64 ((Lib.len8tab[(x/65536).toNat].toNat:Nat):Int))=(Lib.bitLen x.toNat:Int):=by
 subst hn;rw[a9K];have e:(x/65536).toNat=x.toNat/65536:=by omega
 rw[e,Lib.bitLen_shift16 x.toNat (by omega) (by omega)];exact b1t 16 _ (Nat.le_trans (Lib.bitLen_le _ 8 (by omega) (by omega)) (by omega)) (by omega)
theorem c0U (x:Int) (_h0:0<=x) (h:256<=x) (h1:x<65536) (h2:(x/256).toNat<Lib.len8tab.size) (n:Int) (hn:n=8):wrap64 (n+wrap64 ((Lib.len8tab[(x/256).toNat].toNat:Nat):Int))=(Lib.bitLen x.toNat:Int):=by
 subst hn;rw[a9K];have e:(x/256).toNat=x.toNat/256:=by omega
 rw[e,Lib.bitLen_shift8 x.toNat (by omega) (by omega)];exact b1t 8 _ (Nat.le_trans (Lib.bitLen_le _ 8 (by omega) (by omega)) (by omega)) (by omega)
theorem c0V (x:Int) (h0:0<=x) (h1:x<256) (h2:x.toNat<Lib.len8tab.size):wrap64 (wrap64 ((Lib.len8tab[x.toNat].toNat:Nat):Int))=(Lib.bitLen x.toNat:Int):=by
 rw[a9K];have:=Lib.bitLen_le x.toNat 8 (by omega) (by omega);rw[b6B _ (by omega),b6B _ (by omega)]
set_option maxHeartbeats 4000000 in
set_option maxRecDepth 100000 in
theorem b1u (x:Int) (w:World) (h0:0<=x) (h1:x<=4294967295):
  Calls Tryz.prog 313 #[.int .u32 x] w fun e w'=>e= .returned (.int .i64 (Lib.bitLen x.toNat))/\w'=w:=by
 have hs:=a7p;go_enter Tryz.func313,Tryz.ntmps313
 go_wp2
 ·go_ret
  exact⟨congrArg Ending.returned (congrArg (Value.int IntKind.i64) (c0S x h0 (by omega) h1 _ _ rfl)),rfl⟩
 ·go_ret
  exact⟨congrArg Ending.returned (congrArg (Value.int IntKind.i64) (c0T x h0 (by omega) (by omega) _ _ rfl)),rfl⟩
 ·go_ret
  exact⟨congrArg Ending.returned (congrArg (Value.int IntKind.i64) (c0U x h0 (by omega) (by omega) _ _ rfl)),rfl⟩
 ·go_ret
  exact⟨congrArg Ending.returned (congrArg (Value.int IntKind.i64) (c0V x h0 (by omega) _)),rfl⟩
def lz (x:Nat):Nat:=32 - Lib.bitLen x
theorem a4k:∀(f x:Nat),0<x->x<2^f->2^(Lib.bitLenAux f x)<=2*x/\x<2^(Lib.bitLenAux f x)/\Lib.bitLenAux f x<=f
 |0,x,h,h2=>by simp at h2;omega
 |f+1,x,h,h2=>by
  simp only[Lib.bitLenAux];rw[if_neg (by omega)];by_cases h1:x=1
  ·subst h1
   have:Lib.bitLenAux f (1/2)=0:=by cases f<;>simp[Lib.bitLenAux]
   rw[this];simp
  ·obtain⟨a,b,c⟩:=a4k f (x/2) (by omega) (by rw[Nat.pow_succ]at h2;omega)
   rw[Nat.add_comm 1,Nat.pow_succ];exact⟨by omega,by omega,by omega⟩
theorem b6C {x:Nat} (h0:0<x) (h1:x<4294967296):lz x<32/\4294967296<=2*(x*2^lz x)/\x*2^lz x<4294967296:=by
 obtain⟨a,b,c⟩:=a4k 64 x h0 (by omega);have hle:Lib.bitLen x<=32:=Lib.bitLen_le x 32 (by omega) (by omega);have hpos:1<=Lib.bitLen x:=by
  by_cases h:Lib.bitLen x=0
  ·unfold Lib.bitLen at h;rw[h]at b;simp at b;omega
  ·omega
 change 2^Lib.bitLen x<=2*x at a
 change x<2^Lib.bitLen x at b
 have e:2^Lib.bitLen x*2^lz x=4294967296:=by rw[<-Nat.pow_add];unfold lz;rw[show Lib.bitLen x+(32 - Lib.bitLen x)=32 by omega]
 refine⟨by unfold lz;omega,?_,?_⟩
 ·rw[<-e,<-Nat.mul_assoc];exact Nat.mul_le_mul_right _ a
 ·rw[<-e];exact Nat.mul_lt_mul_of_pos_right b (Nat.two_pow_pos _)
set_option maxRecDepth 100000 in
theorem b8z (x:Nat) (w:World) (h0:0<x) (h1:x<4294967296):
  Calls Tryz.prog 307 #[.int .u32 x] w fun e w'=>w=w'/\e= .returned (.int .i64 (lz x:Nat)):=by
 have hle:Lib.bitLen x<=32:=Lib.bitLen_le x 32 (by omega) (by omega);have hz:Hid ((32:Int) - (Lib.bitLen x:Nat)=(lz x:Nat)):=hid (by unfold lz;omega);go_enter Tryz.func307,Tryz.ntmps307
 go_wp2_with fail
 refine(b1u (x:Int) w (by omega) (by omega)).mono ?_;rintro e w' ⟨rfl,rfl⟩;rw[Int.toNat_natCast];go_wp2_with fail
 go_ret
 exact⟨rfl,a0J hz.out⟩
theorem a5h (k:IntKind):∀(h h':Mem) (u:Value) (x:Nat),a0d k h u x->a0d k h' u x:=fun _ _ _ _ h=>h
theorem _root_.Go.Rep.OL.remask {α:Type} {R:Mem->Value->α->Prop} {sz:Nat} {X Z:Nat->Bool} {base:Nat} {e:TypeId} {w:World} {ao:Option Addr} {cap:Nat} {l:List α} (hR0:∀h h' u x,R h u x->R h' u x) (h:OL R sz X base e w ao cap l) (hz:∀k,ob ao k=true->Z k=false):OL R sz Z base e w ao cap l:=by
 obtain⟨_,us,h1,h2,h3,h4,h5⟩:=h;exact⟨hz,us,h1,h2,h3,h4,fun i hi hi'=>hR0 _ _ _ _ (h5 i hi hi')⟩
theorem _root_.Go.Rep.OL.skip {α:Type} {R:Mem->Value->α->Prop} {sz:Nat} {X Y:Nat->Bool} {base:Nat} {e:TypeId} {w w':World} {ao:Option Addr} {cap:Nat} {l:List α} (hR:Elem R sz) (hR0:∀h h' u x,R h u x->R h' u x) (h:OL R sz X base e w ao cap l) (hE:ExtX Y w w') (hd:∀k,ob ao k=true->Y k=false):OL R sz X base e w' ao cap l:=
 ((h.remask hR0 (Z:=Y) hd).ext hR hE (Z:=Y) (fun _ _ h=>h) (fun _ _ h=>h)).remask hR0 h.1
theorem a5O {g k:Nat} (h:ob (some ⟨g,0,none⟩) k=true):k=g:=by
 have e:g=k:=by simpa[ob]using h
 exact e.symm
theorem b3I {g k:Nat} (h:k≠g):ob (some ⟨g,0,none⟩) k=false:=by
 cases hh:ob (some ⟨g,0,none⟩) k
 ·rfl
 ·exact absurd (a5O hh) h
theorem _root_.Go.Rep.OL.at_block {α:Type} {R:Mem->Value->α->Prop} {sz:Nat} {X:Nat->Bool} {base:Nat} {e:TypeId} {w:World} {ao:Option Addr} {cap:Nat} {l:List α} (h:OL R sz X base e w ao cap l) (hl:0<l.length):∃g,ao=some ⟨g,0,none⟩/\base<=g/\g<w.heap.size:=by
 rcases h.form with⟨_,_,rfl⟩|⟨g,cur,rfl,h6,h7,_⟩
 ·simp at hl
 ·exact⟨g,rfl,h6,(Array.getElem?_eq_some_iff.1 h7).1⟩
theorem _root_.Go.Rep.st_win {P:Program} {ops:Array Oper} {Q:Exit->Act->World->Prop} {rest:List Oper} {a:Act} {w:World} {d:Option Tmp} {ty:TypeId} {ps:String} {af:Array Edge} {t e by_:Nat} {z:Value} {x lo hi_:Operand} {k1 k2:IntKind} {m n:Int} {g len cap:Nat} (T:SliceT P t e 1 by_ z) (i j:Nat) (hx:a.eval x= .slice (some ⟨g,0,none⟩) len cap) (hlo:a.eval lo= .int k1 m) (hm:m=(i:Int))
  (hhi:a.eval hi_= .int k2 n) (hn:n=(j:Int)) (hij:i<j) (hj:j<=cap)
  (K:wpList P ops Q rest (a.put d (.slice (some ⟨g,i,none⟩) (j - i) (cap - i))) w):
  wpList P ops Q (⟨d, .slice t x (some lo) (some hi_) none,ty,ps,af,none⟩::rest) a w:=by
 refine wpList_plain rfl fun K' hK'=>?_;subst hm;subst hn;have hr:=a7V (P:=P) (ao:=some ⟨g,0,none⟩) T len cap k1 k2 i j (by omega) hj w;have e1:a2r (some ⟨g,0,none⟩) i cap 1=some ⟨g,i,none⟩:=by
  have:¬cap=i:=by omega
  simp[a2r,this,Addr.add_lit]
 rw[e1]at hr;unfold Oper.wp;simp[execOp,hx,hlo,hhi,hr,Result.andThen];exact hK' _ _ K
def b9S (X:Nat->Bool) (w:World) (q r:Nat) (e:Ending) (w':World):Prop:=
 Ext w w'/\∃ao cap l bo cbp m,e= .returned (.tuple #[.slice ao l.length cap, .slice bo m.length cbp])/\l.length<=cap/\a0I l q/\Sl (a0d .u32) 1 (mk X w') ao l/\m.length<=cbp/\a0I m r/\Sl (a0d .u32) 1 (mk X w') bo m
set_option maxRecDepth 100000 in
set_option maxHeartbeats 400000 in
theorem b0A (X:Nat->Bool) (ao bo:Option Addr) (a b:List Nat) (ca cb:Nat) (w:World) (hsa:Sl (a0d .u32) 1 (mk X w) ao a) (hsb:Sl (a0d .u32) 1 (mk X w) bo b)
  (na nb:Nat) (hca:a0I a na) (hcb:a0I b nb) (hle:nb<=na) (hb2:2<=b.length) (hal:a.length<=1099511627776) (hX:∀k,X k=true->k<w.heap.size):
  Calls Tryz.prog 297 #[.slice ao a.length ca, .slice bo b.length cb] w (b9S X w (na/nb) (na%nb)):=by
 have hhb:=hsb.hd;have hcbl:=hsb.nat (b.length - 1) (by omega);have hbl:b.length<=a.length:=by rw[hca.len,hcb.len];exact a1h hle
 obtain⟨t,ht⟩:∃t,b[b.length - 1]'(by omega)=t:=⟨_,rfl⟩;have htB:=hcb.1.get (b.length - 1) (by omega);have ht0:t≠0:=by
  have:=hcb.2.1;rw[a3j (by omega)]at this;rw[<-ht];simpa using this
 rw[ht]at hcbl;rw[ht,a1l]at htB;obtain⟨s,hs⟩:∃s,lz t=s:=⟨_,rfl⟩;have hlz:=b6C (show 0<t by omega) htB;rw[hs]at hlz;obtain⟨hs32,hn1,hn2⟩:=hlz;have ht':=hid ht;have hlz1:=hid hn1;have hlz2:=hid hn2;have hlzc:∀W,Calls Tryz.prog 307 #[.int .u32 t] W fun e w'=>W=w'/\e= .returned (.int .i64 (s:Nat)):=fun W=>by rw[<-hs];exact b8z t W (by omega) htB
 clear hn1 hn2 ht;go_enter Tryz.func297,Tryz.ntmps297
 go_wp2_with (first|(with_reducible refine a0t a0R (by omega) (by assumption) ?_)|(go_at_call 307;refine(hlzc _).mono ?_;rintro e w' ⟨rfl,rfl⟩))
 clear hs hlzc hcbl;refine(a5Y noY ao a ca s w (hsa.mono (a0d.mono _) (by rw[a2v];exact b8p X w)) hca.1 hal hs32 (fun k hk=>by simp[noY]at hk)).mono ?_;rintro e w1 ⟨hE1,uo,U,rfl,hU,hUf⟩;have hsb1:=hsb.mono (a0d.mono _) (a0p hE1);go_wp2_with fail
 refine(a5Y noY bo b cb s w1 (hsb1.mono (a0d.mono _) (by rw[a2v];exact b8p X w1)) hcb.1 (by omega) hs32 (fun k hk=>by simp[noY]at hk)).mono ?_;rintro e w2 ⟨hE2,vo,V0,rfl,hV0,hVf⟩;have hV0l:V0.length<=1099511627777:=by rw[hVf.out.1];omega
 obtain⟨gu,rfl,hgu1,hgu2⟩:=hU.at_block (by rw[hUf.out.1];omega);have hV1:Sl (a0d .u32) 1 (mk (ob (some ⟨gu,0,none⟩)) w2) vo V0:=(hV0.remask (a5h _) (Z:=ob (some ⟨gu,0,none⟩)) (fun k hk=>b3I (by have:=(hV0.block hk).1;omega))).sl (a0d.elem _);go_wp2_with fail
 refine(a1J (ob (some ⟨gu,0,none⟩)) vo V0 V0.length w2 hV1 hVf.out.2.1 (by omega) (Nat.le_refl _)).mono ?_;rintro e w' ⟨rfl,V,rfl,hVl',hVc,hVs⟩;obtain⟨m,hm⟩:∃m,a.length=m+b.length:=⟨a.length - b.length,by omega⟩;obtain⟨n,hn⟩:∃n,b.length=n:=⟨_,rfl⟩;rw[hVf.out.2.2.2]at hVc;have hnorm:=b3F hcb.1 hn (by omega) ((a0y (by omega)).trans (by rw[<-ht'.out];congr 1;omega)) hs32 hlz1.out hlz2.out hVc;have hna:nv a=na:=hca.2.2;have hnb:nv b=nb:=hcb.2.2;have hnvV:=hVc.2.2;rw[hnb]at hnvV;have hVd:=hVc.1;have hUl:U.length=m+1+n:=by rw[hUf.out.1,hm,hn];omega
 have hUd:=hUf.out.2.1;have hst0:=a3A.start (m:=m) (n:=n) (a:=na) hUd hUl (by omega) (by rw[hUf.out.2.2.2,hna]) (by have:=hUf.out.2.2.1;rw[hm,hn]at this;exact this) hs32 hnorm.1 hnorm.2;obtain⟨hVn,hVt⟩:=hnorm;have hst:=hid hst0;have hUo:=hU.ext0 (a0d.elem _) hE2;rw[hn]at hm |-;rw[hm];have hmb:m<=1099511627776:=by omega
 have hnb2:2<=n:=by omega
 have hnb3:n<=1099511627776:=by omega
 have hVt':=hid hVt;have hVn':=hid hVn;have hUl':=hid hUl;have hnvV':=hid hnvV;have hE12:=hE1.trans hE2;clear hst0 hVt hVn hUl hnvV hna hnb hV1 hUf hVf hV0l hU hsa hsb hsb1 hcb hca hle hb2 hbl hal hhb ht0 htB ht' hlz1 hlz2 hVc hVl' hV0 hUd;go_wp2_with (at_make;refine a2C a0R (a0d.elem .u32) 0 (fun _=>rfl) noY (fun k hk=>by simp[noY]at hk) w2.heap.size (Nat.le_refl _) (m+1) rfl rfl (by omega) (by omega) (by omega) ?_;intro qo w3 hQ hE3)
 have hqb:∀k,ob qo k=true->w2.heap.size<=k:=fun k hk=>(hQ.block hk).1;have hgq:ob qo gu=false:=by
  cases hh:ob qo gu
  ·rfl
  ·have:=hqb gu hh;have:=hE2.size;omega
 have hU3:OL (a0d .u32) 1 (un noY qo) w.heap.size 147 w3 (some ⟨gu,0,none⟩) U.length U:=(hUo.ext0 (a0d.elem _) hE3).remask (a5h _) (fun k hk=>by have:=a5O hk;subst this;simp[un,noY,hgq]);have hQ3:OL (a0d .u32) 1 (un noY (some ⟨gu,0,none⟩)) w2.heap.size 147 w3 qo (m+1) (List.replicate (m+1) 0):=hQ.remask (a5h _) (fun k hk=>by
  have h1:=hqb k hk;have h2:ob (some ⟨gu,0,none⟩) k=false:=b3I (by have:=hE2.size;omega);simp[un,noY,h2])
 have hV3:Sl (a0d .u32) 1 (mk (un (un noY qo) (some ⟨gu,0,none⟩)) w3) vo V:=hVs.mono (a0d.mono _) (a1f hE3 (fun k _ hk=>by simp[noY]at hk) fun k hk hz=>by
  have h1:ob qo k=false:=by
   cases hh:ob qo k
   ·rfl
   ·have:=hqb k hh;omega
  simpa[un,noY,h1]using hz)
 have hE13:=hE12.trans hE3;have hwq:w.heap.size<=w2.heap.size:=hE12.size;have hqX:∀k,ob qo k=true->X k=false:=fun k hk=>by
  cases hh:X k
  ·rfl
  ·have:=hX k hh;have:=hqb k hk;omega
 have hgw:gu<w2.heap.size:=Nat.lt_of_lt_of_le hgu2 hE2.size;have hUc:m+1+n<=U.length:=by rw[hUl'.out];exact Nat.le_refl _
 have hhv:=hVs.hd;clear hUo hQ hVs hE1 hE2 hE3 hE12 hm hn;go_loopw [10] (fun c wr=>∃(k:Nat) (x:Int) (U' Q:List Nat),c= .int .i64 x/\x=(k:Int) - 1/\k<=m+1/\Hid (a3A (na*2^s) V U' Q k)/\Hid (U'.length=m+1+n)/\Hid (Q.length=m+1)/\OL (a0d .u32) 1 (un noY qo) w.heap.size 147 wr (some ⟨gu,0,none⟩) U.length U'/\
  OL (a0d .u32) 1 (un noY (some ⟨gu,0,none⟩)) w2.heap.size 147 wr qo (m+1) Q/\Sl (a0d .u32) 1 (mk (un (un noY qo) (some ⟨gu,0,none⟩)) wr) vo V/\Ext w wr) (fun c _=>(intOf c+1).toNat)
 case atStart=>exact⟨m+1,_,U,_,rfl,by omega,by omega,hst,hUl',hid (by simp),hU3,hQ3,hV3,hE13⟩
 case round=>
  obtain⟨k,x,U',Q,rfl,hx,hk,hinv,hUl2,hQl,hUr,hQr,hVr,hEr⟩:=hrel;clear hU3 hQ3 hV3 hE13 hst;have hhq:Hd qo (m+1):=by have:=hQr.hd;rwa[hQl.out]at this
  cases k with
  |zero=>
   obtain rfl:x= -1:=by omega
   obtain⟨hd1,hd2,hd3⟩:=hinv.out.done rfl hnvV'.out;have hUd:=hinv.out.1;have hQd:=hinv.out.2.1;have hd1':=hid hd1;have hd2':=hid hd2;have hlast:Hid (nv U'/2^s<B^n):=hid (Nat.lt_of_le_of_lt (Nat.div_le_self _ _) (Nat.lt_trans hd3 (by have:=a4w hVd;rwa[hVn'.out]at this)));have hUr2:=hUr.remask (a5h _) (Z:=noY) (fun k hk=>rfl);have hub:∀k,ob (some ⟨gu,0,none⟩) k=true->k<wr.heap.size:=fun k hk=>(hUr.block hk).2;have hqb2:∀k,ob qo k=true->k<wr.heap.size:=fun k hk=>(hQr.block hk).2;have hwr:w.heap.size<=wr.heap.size:=hEr.size;have hQr2:=hQr.remask (a5h _) (Z:=noY) (fun k hk=>rfl);clear hx hd1 hd2 hd3 hinv hUr hQr hVr hqb hgq hwq hgw hgu1 hgu2 hhv;go_wp2_with (at_make;refine a2C a0R (a0d.elem .u32) 0 (fun _=>rfl) noY (fun k hk=>by simp[noY]at hk) wr.heap.size (Nat.le_refl _) n rfl rfl (by omega) (by omega) (by omega) ?_;intro ro w4 hR hE4)
   have hU4:=hUr2.ext0 (a0d.elem _) hE4;have hQ4:=hQr2.ext0 (a0d.elem _) hE4;have hE5:=hEr.trans hE4;have hrb:∀k,ob ro k=true->wr.heap.size<=k:=fun k hk=>(hR.block hk).1;have hrX:∀k,ob ro k=true->X k=false:=fun k hk=>by
    cases hh:X k
    ·rfl
    ·have:=hX k hh;have:=hrb k hk;omega
   clear hUr2 hQr2 hE4 hEr;go_loopw [103] (fun c wx=>∃(i:Nat) (o:List Nat),c= .int .i64 i/\i<=n/\Hid (a4D U' o s n i)/\Hid (o.length=n)/\OL (a0d .u32) 1 noY wr.heap.size 147 wx ro n o/\ExtX (ob ro) w4 wx/\Ext w wx) (fun c _=>n - (intOf c).toNat)
   case atStart=>exact⟨0,_,rfl,by omega,hid (a4D.start U' s n),hid (by simp),hR,ExtX.refl _,hE5⟩
   case round=>
    obtain⟨i,o,rfl,hi,hinv,hol,hO,hEx,hEw⟩:=hrel;clear hR hE5;have hho:Hd ro n:=by have:=hO.hd;rwa[hol.out]at this
    have hUx:=hU4.skip (a0d.elem _) (a5h _) hEx (fun k hk=>by
     cases hh:ob ro k
     ·rfl
     ·have:=hrb k hh;have:=hub k hk;omega)
    by_cases hlt:i<n
    ·have hi1:i+1<U'.length:=by rw[hUl2.out];omega
     have hs:=hUx.sl (a0d.elem _);have c1:=hs.nat (i+1) hi1;have c0:=hs.nat i (by omega);obtain⟨x,hx⟩:∃x,U'[i+1]=x:=⟨_,rfl⟩;obtain⟨y,hy⟩:∃y,U'[i]'(by omega)=y:=⟨_,rfl⟩;have bx:=hUd.get (i+1) hi1;have by_:=hUd.get i (by omega);rw[hx,a1l]at bx;rw[hy,a1l]at by_;rw[hx,a1z,Nat.zero_add]at c1;rw[hy,a1z,Nat.zero_add]at c0;have hst:=hid (hinv.out.step hlt hs32 hi1 hUd hx hy);have hhu:Hd (some (⟨gu,0,none⟩:Addr)) U.length:=fun _=>⟨_,_,rfl⟩;have i1:∀W,(Instr.indexAt 41 (.slice (some ⟨gu,0,none⟩) U.length U.length) (.int .i64 ((i:Int)+1))).run Tryz.prog W= .ok (.pointer (some ⟨gu,i+1,none⟩)) W:=fun W=>by
      have:=a0C a0R (some ⟨gu,0,none⟩) U.length U.length .i64 (i+1) (m:=(i:Int)+1) hhu (by omega) (by omega) W;rwa[a1z,Nat.zero_add]at this
     have i2:∀W,(Instr.indexAt 41 (.slice (some ⟨gu,0,none⟩) U.length U.length) (.int .i64 (i:Int))).run Tryz.prog W= .ok (.pointer (some ⟨gu,i,none⟩)) W:=fun W=>by
      have:=a0C a0R (some ⟨gu,0,none⟩) U.length U.length .i64 i (m:=(i:Int)) hhu (by omega) rfl W;rwa[a1z,Nat.zero_add]at this
     have i3:∀W,(Instr.indexAt 41 (.slice ro n n) (.int .i64 (i:Int))).run Tryz.prog W= .ok (.pointer (some (adr ro i))) W:=a0C a0R ro n n .i64 i hho hlt rfl;have s1:IntKind.i64.wrap ((i:Int)+1)=(i:Int)+1:=IntWalk.i64_in _ (by omega);have hor:=a7m x y bx by_;have hval:Hid (IntKind.u32.wrap (bits BinOp.or IntKind.u64 (IntKind.u64.wrap (IntKind.u64.wrap (x:Int)*4294967296)) (IntKind.u64.wrap (y:Int))/2^s)=(((x*4294967296+y)/2^s%4294967296:Nat):Int)):=hid (by
      rw[IntWalk.u64_in (x:Int) (by omega),IntWalk.u64_in ((x:Int)*4294967296) (by omega),IntWalk.u64_in (y:Int) (by omega),hor,IntKind.wrap_u32];simp)
     clear hx hy hinv hs;go_wp2_with fail
     go_still_tail 19,(by kernel_rfl)
     change wpList _ _ _ _ _ wr.drew
     have hEd:ExtX noY wr wr.drew:=(ExtX.refl wr).drew;have hOd:=hO.ext0 (a0d.elem _) hEd;have hExd:=hEx.trans (ExtX.of hEd);have hEwd:=hEw.trans hEd;generalize wr.drew=wd at hOd hExd hEwd |-;clear i1 i2 i3 c1 c0 hor s1 hEd hO hEx hEw;go_wp2_with ((with_reducible show wpList _ _ _ (⟨_, .store _ _ _,_,_,_,_⟩::_) _ _);refine a0W a3w i ((x*4294967296+y)/2^s%4294967296) rfl rfl hOd (by rw[hol.out];exact hlt) rfl hval.out ?_;intro w6 hO6 hE6)
     have hol2:Hid ((o.set i ((x*4294967296+y)/2^s%4294967296)).length=n):=hid (by rw[List.length_set];exact hol.out);go_roundw
     case rel=>exact⟨i+1,_,by go_num,by omega,hst,hol2,hO6,hExd.trans hE6,hEwd.own hOd hwr hE6⟩
     case measure=>simp[intOf];omega
    ·have hin:i=n:=by omega
     subst hin;have hQx:=hQ4.skip (a0d.elem _) (a5h _) hEx (fun k hk=>by
      cases hh:ob ro k
      ·rfl
      ·have:=hrb k hh;have:=hqb2 k hk;omega)
     have hfin:=hid (hinv.out.done hlast.out);have hRd:=hinv.out.2.1;have hQs:Sl (a0d .u32) 1 (mk X wr) qo Q:=(hQx.remask (a5h _) (Z:=X) hqX).sl (a0d.elem _);have hOs:Sl (a0d .u32) 1 (mk X wr) ro o:=(hO.remask (a5h _) (Z:=X) hrX).sl (a0d.elem _);have hT1:=a1J X qo Q (m+1) wr hQs hQd (by rw[hQl.out];omega) (by rw[hQl.out];exact Nat.le_refl _);have hT2:=a1J X ro o i wr hOs hRd (by rw[hol.out];omega) (by rw[hol.out];exact Nat.le_refl _);rw[hQl.out]at hT1;rw[hol.out]at hT2;have hl1:Q.length<=m+1:=by rw[hQl.out];exact Nat.le_refl _
     have hl2:o.length<=i:=by rw[hol.out];exact Nat.le_refl _
     clear hinv hU4 hQ4 hUx hQx hUd;go_wp2_with fail
     refine hT1.mono ?_;rintro e w' ⟨rfl,l1,rfl,h11,h12,h13⟩;go_wp2_with fail
     refine hT2.mono ?_;rintro e w' ⟨rfl,l2,rfl,h21,h22,h23⟩;clear hT1 hT2;go_wp2_with fail
     go_ret2
     rw[hd1'.out]at h12;rw[hfin.out,hd2'.out]at h22;exact⟨hEw,_,_,l1,_,_,l2,rfl,Nat.le_trans h11 hl1,h12,h13,Nat.le_trans h21 hl2,h22,h23⟩
  |succ j=>
   obtain rfl:x=(j:Int):=by omega
   clear hx;have hjU:j+(n+1)<=U'.length:=by rw[hUl2.out];omega
   obtain⟨w1,w2',w3',w4,w5,w6,w7⟩:=hinv.out.win hjU hVn'.out hVd;obtain⟨W,hW⟩:∃W,(U'.drop j).take (n+1)=W:=⟨_,rfl⟩;have hge:∀i,i<=n->U'.getD (j+i) 0=W.getD i 0:=fun i hi=>by rw[<-hW];exact(b3G hi).symm
   have hnx:=fun(o:List Nat) h1 h2 h3=>(fun(p:_/\_)=>And.intro p.1 (p.2.trans hUl2.out)) (hinv.out.next (W':=o) hjU (by rw[hQl.out];omega) hVn'.out hVd h1 h2 h3);rw[hW]at w1 w2' w3' w5 w6;simp only[hW]at hnx;obtain⟨A,hA⟩:∃A,U'.take j=A:=⟨_,rfl⟩;obtain⟨R,hR⟩:∃R,U'.drop (j+(n+1))=R:=⟨_,rfl⟩;rw[hA]at w5 w7;rw[hR]at w5;simp only[hA,hR]at hnx;obtain⟨e1,e2,e3⟩:=b6u w1 hVn'.out hnb2 w2' hVd hVt'.out w3';have hVp:0<nv V:=by
    by_cases h:nv V=0
    ·rw[h]at w3';omega
    ·omega
   have hUs:=hUr.sl (a0d.elem _);have c2:=hUs.nat (j+n) (by rw[hUl2.out];omega);have c1:=hUs.nat (j+(n - 1)) (by rw[hUl2.out];omega);have c0:=hUs.nat (j+(n - 2)) (by rw[hUl2.out];omega);rw[<-a0y,hge n (by omega),a1z,Nat.zero_add]at c2;rw[<-a0y,hge (n - 1) (by omega),a1z,Nat.zero_add]at c1;rw[<-a0y,hge (n - 2) (by omega),a1z,Nat.zero_add]at c0;have d1:=hVr.nat (n - 1) (by rw[hVn'.out];omega);have d0:=hVr.nat (n - 2) (by rw[hVn'.out];omega);rw[<-a0y]at d1 d0;have b2:=w2'.getD n;have b1:=w2'.getD (n - 1);have b0:=w2'.getD (n - 2);have f1:=hVd.getD (n - 1);have f0:=hVd.getD (n - 2);have hvt:=hVt'.out;generalize W.getD n 0=u2 at*;generalize W.getD (n - 1) 0=u1 at*;generalize W.getD (n - 2) 0=u0 at*;generalize V.getD (n - 1) 0=v1 at*;generalize V.getD (n - 2) 0=v0 at*;rw[a1l]at b2 b1 b0 f1 f0 hvt;obtain⟨x,hx⟩:∃x,a7k B u2 u1 u0 v1 v0=x:=⟨_,rfl⟩;have hx32:x<4294967296:=by rw[<-hx];exact b6v
   have hgs:∀q,Calls Tryz.prog 309 #[.int .u32 u2, .int .u32 u1, .int .u32 u0, .int .u32 v1, .int .u32 v0] (wr.drewN q) fun e w'=>e= .returned (.int .u64 (x:Nat))/\∃m,w'=(wr.drewN q).drewN m:=fun q=>by rw[<-hx];exact b1r u2 u1 u0 v1 v0 _ (by omega) f1 e1 b1 b0 f0
   rw[hx]at e2 e3;have hkk:=hid (fun(c W':Nat)=>a8Q (c:=c) (W':=W') hVp e2 e3 (e:=B^(n+1)));have hVp':=hid hVp;have s1:IntKind.i64.wrap ((j:Int)+(n:Int))=(j:Int)+(n:Int):=IntWalk.i64_in _ (by omega);have s2:IntKind.i64.wrap ((j:Int)+(n:Int) - 1)=(j:Int)+(n:Int) - 1:=IntWalk.i64_in _ (by omega);have s3:IntKind.i64.wrap ((j:Int)+(n:Int) - 2)=(j:Int)+(n:Int) - 2:=IntWalk.i64_in _ (by omega);have s4:IntKind.i64.wrap ((n:Int) - 1)=(n:Int) - 1:=IntWalk.i64_in _ (by omega);have s5:IntKind.i64.wrap ((n:Int) - 2)=(n:Int) - 2:=IntWalk.i64_in _ (by omega);have hhu:Hd (some (⟨gu,0,none⟩:Addr)) U.length:=fun _=>⟨_,_,rfl⟩;have i1:∀W,(Instr.indexAt 41 (.slice (some ⟨gu,0,none⟩) U.length U.length) (.int .i64 ((j:Int)+(n:Int)))).run Tryz.prog W= .ok (.pointer (some ⟨gu,j+n,none⟩)) W:=fun W=>by
    have:=a0C a0R (some ⟨gu,0,none⟩) U.length U.length .i64 (j+n) (m:=(j:Int)+(n:Int)) hhu (by omega) (by omega) W;rwa[a1z,Nat.zero_add]at this
   have i2:∀W,(Instr.indexAt 41 (.slice (some ⟨gu,0,none⟩) U.length U.length) (.int .i64 ((j:Int)+(n:Int) - 1))).run Tryz.prog W= .ok (.pointer (some ⟨gu,j+(n - 1),none⟩)) W:=fun W=>by
    have:=a0C a0R (some ⟨gu,0,none⟩) U.length U.length .i64 (j+(n - 1)) (m:=(j:Int)+(n:Int) - 1) hhu (by omega) (by omega) W;rwa[a1z,Nat.zero_add]at this
   have i3:∀W,(Instr.indexAt 41 (.slice (some ⟨gu,0,none⟩) U.length U.length) (.int .i64 ((j:Int)+(n:Int) - 2))).run Tryz.prog W= .ok (.pointer (some ⟨gu,j+(n - 2),none⟩)) W:=fun W=>by
    have:=a0C a0R (some ⟨gu,0,none⟩) U.length U.length .i64 (j+(n - 2)) (m:=(j:Int)+(n:Int) - 2) hhu (by omega) (by omega) W;rwa[a1z,Nat.zero_add]at this
   have hVle:n<=V.length:=by rw[hVn'.out];exact Nat.le_refl _
   have i4:∀W,(Instr.indexAt 41 (.slice vo V.length V0.length) (.int .i64 ((n:Int) - 1))).run Tryz.prog W= .ok (.pointer (some (adr vo (n - 1)))) W:=a0C a0R vo V.length V0.length .i64 (n - 1) hhv (by omega) (by omega);have i5:∀W,(Instr.indexAt 41 (.slice vo V.length V0.length) (.int .i64 ((n:Int) - 2))).run Tryz.prog W= .ok (.pointer (some (adr vo (n - 2)))) W:=a0C a0R vo V.length V0.length .i64 (n - 2) hhv (by omega) (by omega);have hWh:=hid w1;have hAl:=hid w7;have hUr2:OL (a0d .u32) 1 (un noY qo) w.heap.size 147 wr (some ⟨gu,0,none⟩) U.length (A++W++R):=by rw[<-w5];exact hUr
   have hnx':=hid hnx;clear hnx hinv w1 w3' w4 w5 w6 w7 hge hUs hx e1 e2 e3 b2 b1 b0 f1 f0 hvt hA hR hW hVp hUr hUl2 hjU;clear U';go_wp2_with fail
   go_quiet ((go_at_call 309;with_reducible exact Calls.quiet_of (hgs _)))
   clear c2 c1 c0 d1 d0 i1 i2 i3 i4 i5 hgs s2 s3 s4 s5;have hjc:j<U.length:=by omega
   have hjn:j+n+1<=U.length:=by omega
   have hwl:j+n+1 - j=W.length:=by rw[hWh.out];omega
   have hEd:ExtX noY wr (wr.drewN nq):=(ExtX.refl wr).drewN nq;have hUd:=hUr2.ext0 (a0d.elem _) hEd;have hQd:=hQr.ext0 (a0d.elem _) hEd;have hVd2:Sl (a0d .u32) 1 (mk (un (un noY qo) (some ⟨gu,0,none⟩)) (wr.drewN nq)) vo V:=hVr;have hEn:=hEr.trans hEd;clear hUr2 hQr hVr hEr;generalize wr.drewN nq=wd at*;go_wp2_with (first|((with_reducible show wpList _ _ _ (⟨_, .slice _ _ _ _ _,_,_,_,_⟩::_) _ _);refine st_win a0R j (j+n+1) rfl rfl rfl rfl (by omega) (by omega) (by omega) ?_))
   have hr:=b0z (un noY qo) w.heap.size gu U.length (U.length - j) A W R V vo V0.length x n wd hUd hVd2 hWh.out hVn'.out hVd w2' hx32 (by rw[hAl.out];omega) hnb3;rw[hAl.out]at hr;refine hr.mono ?_;clear hr;rintro e w6 ⟨hE6,o,⟨bo,rfl,hol,hod,hcs⟩,hU6⟩;have hdf:=hkk.out bo (nv o) hcs;have hol':=hid hol;have hV6:=hVd2.unstep (a0d.mono _) hE6 (.inl rfl);have hQ6:=hQd.skip (a0d.elem _) (a5h _) hE6 (fun k hk=>b3I (by have:=hqb k hk;omega));have hE7:=hEn.own hUd (Nat.le_refl _) hE6;clear hkk hol hE6 hUd hQd hVd2 hEn;rcases hcs with⟨rfl,_⟩|⟨rfl,_⟩
   ·obtain⟨k1,k2⟩:=hdf.1 rfl
    have hn1:=hid (hnx'.out o hod hol'.out k2);rw[<-k1]at hn1;clear hdf k1 k2 hnx';go_wp2_with (first|(with_reducible refine a0t a0R (by omega) (by assumption) ?_)|((with_reducible show wpList _ _ _ (⟨_, .store _ _ _,_,_,_,_⟩::_) _ _);refine a0W a3w j x rfl rfl hQ6 (by rw[hQl.out];omega) rfl (by omega) ?_;intro w8 hQ8 hE8))
    have hU8:=hU6.skip (a0d.elem _) (a5h _) hE8 (fun k hk=>by have:=a5O hk;subst this;exact hgq);have hV8:Sl (a0d .u32) 1 (mk (un (un noY qo) (some ⟨gu,0,none⟩)) w8) vo V:=hV6.mono (a0d.mono _) (a0x hE8 (fun k hk=>a0k (a0q hk)));go_roundw
    case rel=>exact⟨j,_,_,_,rfl,rfl,by omega,hid hn1.out.1,hid hn1.out.2,hid (by rw[List.length_set];exact hQl.out),hU8,hQ8,hV8,hE7.own hQ6 hwq hE8⟩
    case measure=>simp[intOf]
   ·obtain⟨k0,k1,k2⟩:=hdf.2 rfl
    have k2':=hid k2;clear hdf k2;go_wp2_with (first|((with_reducible show wpList _ _ _ (⟨_, .slice _ _ _ _ _,_,_,_,_⟩::_) _ _);refine st_win a0R j (j+n+1) rfl rfl rfl rfl (by omega) (by omega) (by omega) ?_))
    have hr:=a8R (un noY qo) w.heap.size gu U.length (U.length - j) A o R V vo V0.length n w6 hU6 hV6 hol'.out hVn'.out hVd hod (by rw[hAl.out];omega) hnb3;rw[hAl.out]at hr;rw[show o.length=W.length by rw[hol'.out,hWh.out]]at hr;refine hr.mono ?_;clear hr;rintro e w7 ⟨hE9,o2,⟨c,rfl,hl2,hd2,hc,hs2⟩,hU7⟩;have hn1:=hid (hnx'.out o2 hd2 hl2 (b3H hVd hVn'.out hVp'.out k2'.out hs2 hc hd2 hl2));rw[<-k1]at hn1;have hV7:=hV6.unstep (a0d.mono _) hE9 (.inl rfl);have hQ7:=hQ6.skip (a0d.elem _) (a5h _) hE9 (fun k hk=>b3I (by have:=hqb k hk;omega));have hE10:=hE7.own hU6 (Nat.le_refl _) hE9;have hx1:(1:Int)<=(x:Int):=by omega
    clear k1 hnx' hl2 hs2 hU6 hV6 hQ6 hE9 hE7;go_wp2_with (first|(with_reducible refine a0t a0R (by omega) (by assumption) ?_)|((with_reducible show wpList _ _ _ (⟨_, .store _ _ _,_,_,_,_⟩::_) _ _);refine a0W a3w j (x - 1) rfl rfl hQ7 (by rw[hQl.out];omega) rfl (by omega) ?_;intro w8 hQ8 hE8))
    have hU8:=hU7.skip (a0d.elem _) (a5h _) hE8 (fun k hk=>by have:=a5O hk;subst this;exact hgq);have hV8:Sl (a0d .u32) 1 (mk (un (un noY qo) (some ⟨gu,0,none⟩)) w8) vo V:=hV7.mono (a0d.mono _) (a0x hE8 (fun k hk=>a0k (a0q hk)));go_roundw
    case rel=>exact⟨j,_,_,_,rfl,rfl,by omega,hid hn1.out.1,hid hn1.out.2,hid (by rw[List.length_set];exact hQl.out),hU8,hQ8,hV8,hE10.own hQ7 hwq hE8⟩
    case measure=>simp[intOf]
end Go.Proofs.YtidbbddagfnfbaaGreat
namespace Go.Lim
theorem a1k {l:List Nat} {n:Nat} (h:a0I l n):l.length=0↔n=0:=by
 rw[<-a7h h];exact List.length_eq_zero_iff
def a1n (s:Bool) (m:List Nat):Bool:=a1u m&&(decide (0<m.length)|| !s)
noncomputable def a7q (s:Bool) (m:List Nat):Int:=if a1n s m then(if s then -(nv m:Int)else nv m)else 0
def a5t (s:Bool) (m:List Nat) (z:Int):Prop:=s=decide (z<0)/\a0I m z.natAbs
theorem a5t.of_valid {s:Bool} {m:List Nat} (hd:Dig m) (h:a1n s m=true):a5t s m (a7q s m):=by
 have hv:a1u m=true:=by unfold a1n at h;simp at h;exact h.1
 have hc:a0I m (nv m):=⟨hd,hv,rfl⟩;have h0:=a1k hc;unfold a7q;rw[if_pos h];cases s
 ·simp only[Bool.false_eq_true,if_false]
  exact⟨by simp,by simpa using hc⟩
 ·have hm:0<m.length:=by unfold a1n at h;simpa[hv]using h
  simp only[if_true];refine⟨?_,by simpa using hc⟩;have:nv m≠0:=fun e=>by rw[e]at h0;simp at h0;simp[h0]at hm
  symm;rw[decide_eq_true_eq];omega
theorem a5t.valid {s:Bool} {m:List Nat} {z:Int} (h:a5t s m z):a1n s m=true:=by
 obtain⟨hs,hm⟩:=h;have h0:=a1k hm;unfold a1n;rw[hm.2.1];by_cases hz:z<0
 ·have:0<m.length:=by omega
  simp[this]
 ·simp[hs,hz]
theorem a5t.val {s:Bool} {m:List Nat} {z:Int} (h:a5t s m z):a7q s m=z:=by
 unfold a7q;rw[if_pos h.valid];obtain⟨hs,hm⟩:=h;rw[hm.2.2];by_cases hz:z<0
 ·simp only[hs,hz,decide_true,if_true];omega
 ·simp only[hs,hz,decide_false,Bool.false_eq_true,if_false];omega
theorem a5t.zero:a5t false [] 0:=⟨rfl,a0I.nil⟩
theorem a5t.len {s:Bool} {m:List Nat} {z:Int} (h:a5t s m z):m.length=lg z.natAbs:=h.2.len
theorem a5t.len0 {s:Bool} {m:List Nat} {z:Int} (h:a5t s m z):m.length=0↔z=0:=by
 have:=a1k h.2;omega
theorem b6D (s:Bool) (m:List Nat) (h:Dig m):lg (a7q s m).natAbs<=m.length:=by
 cases hv:a1n s m
 ·unfold a7q;rw[hv];simp[a5T]
 ·exact Nat.le_of_eq (a5t.of_valid h hv).len.symm
theorem a5u {s:Bool} {m:List Nat} (h:a1n s m=false):a7q s m=0:=by unfold a7q;rw[h];rfl
def dn (q:Rat):Nat:=if q.den=1 then 0 else q.den
def a5K (s:Bool) (m d:List Nat) (q:Rat):Prop:=a5t s m q.num/\a0I d (dn q)
noncomputable def a1r (s:Bool) (m d:List Nat):Bool:=a1n s m&&a1u d&&(decide (d.length=0)||(decide (0<m.length)&& !(nv d==1)&&(Nat.gcd (nv m) (nv d)==1)))
noncomputable def b3v (s:Bool) (m d:List Nat):Rat:=if a1r s m d then mkRat (a7q s m) (if d.length=0 then 1 else nv d)else 0
theorem a5K.of_valid {s:Bool} {m d:List Nat} (hm:Dig m) (hd:Dig d) (h:a1r s m d=true):a5K s m d (b3v s m d):=by
 have h':=h;unfold a1r at h';simp only[Bool.and_eq_true]at h';obtain⟨⟨h1,h2⟩,h3⟩:=h';have hz:=a5t.of_valid hm h1;have hcd:a0I d (nv d):=⟨hd,h2,rfl⟩;have h0:=a1k hcd;unfold b3v;rw[if_pos h];by_cases hl:d.length=0
 ·rw[if_pos hl]
  have e:mkRat (a7q s m) 1=((a7q s m:Int):Rat):=by rw[<-Rat.mk_den_one];rw[Rat.mk_eq_mkRat]
  rw[e];refine⟨by simpa using hz,?_⟩;have:nv d=0:=h0.1 hl;simp only[dn,Rat.den_intCast,if_true];rw[this]at hcd;exact hcd
 ·rw[if_neg hl]
  have hne:nv d≠0:=fun e=>hl (h0.2 e);simp[hl]at h3;obtain⟨⟨h4,h5⟩,h6⟩:=h3;have habs:(a7q s m).natAbs=nv m:=by have:=hz.2.2.2;omega
  have hg:(nv d).gcd (a7q s m).natAbs=1:=by rw[habs,Nat.gcd_comm];exact h6
  have e1:(mkRat (a7q s m) (nv d)).num=a7q s m:=by rw[Rat.num_mkRat,if_neg hne,hg];simp
  have e2:(mkRat (a7q s m) (nv d)).den=nv d:=by rw[Rat.den_mkRat,if_neg hne,hg];simp
  exact⟨by rw[e1];exact hz,by unfold dn;rw[e2,if_neg h5];exact hcd⟩
theorem a5K.valid {s:Bool} {m d:List Nat} {q:Rat} (h:a5K s m d q):a1r s m d=true:=by
 obtain⟨h1,h2⟩:=h;have h3:=a1k h2;have h4:=h1.len0;have h5:=q.reduced;have h6:=q.den_nz;unfold a1r;rw[h1.valid,h2.2.1,h2.2.2,h1.2.2.2];by_cases hd:q.den=1
 ·have:d.length=0:=by rw[h3];unfold dn;rw[if_pos hd]
  simp[this]
 ·have e:dn q=q.den:=by unfold dn;rw[if_neg hd]
  rw[e]at h3 |-;have hn:q.num≠0:=fun e=>by rw[e]at h5;simp[Nat.Coprime]at h5;exact hd h5
  have hm:0<m.length:=by omega
  have hg:q.num.natAbs.gcd q.den=1:=h5;simp[hm,hd,hg]
theorem a5K.val {s:Bool} {m d:List Nat} {q:Rat} (h:a5K s m d q):b3v s m d=q:=by
 unfold b3v;rw[if_pos h.valid];obtain⟨h1,h2⟩:=h;have h3:=a1k h2;rw[h1.val,h2.2.2];by_cases hd:q.den=1
 ·have:d.length=0:=by rw[h3];unfold dn;rw[if_pos hd]
  rw[if_pos this]
  conv=>rhs;rw[<-Rat.mkRat_self q]
  rw[hd]
 ·have e:dn q=q.den:=by unfold dn;rw[if_neg hd]
  have hl:d.length≠0:=by rw[e]at h3;have:=q.den_nz;omega
  rw[if_neg hl,e,Rat.mkRat_self]
theorem a5K.unique {s s':Bool} {m d m' d':List Nat} {q:Rat} (h:a5K s m d q) (h':a5K s' m' d' q):s=s'/\m=m'/\d=d':=
 ⟨h.1.1.trans h'.1.1.symm,h.1.2.unique h'.1.2,h.2.unique h'.2⟩
theorem a5K.zero:a5K false [] [] 0:=⟨a5t.zero,by simp[dn];exact a0I.nil⟩
theorem a5K.ofInt {s:Bool} {m:List Nat} {z:Int} (h:a5t s m z):a5K s m [] (z:Rat):=⟨by simpa using h,by simp[dn];exact a0I.nil⟩
theorem a3C {s:Bool} {m d:List Nat} (h:a1r s m d=false):b3v s m d=0:=by unfold b3v;rw[h];rfl
def hq (q:Rat):Nat:=max (lg q.num.natAbs) (lg q.den)
theorem a0A (q:Rat):lg q.num.natAbs<=hq q:=Nat.le_max_left _ _
theorem a0E (q:Rat):lg q.den<=hq q:=Nat.le_max_right _ _
theorem b8A (q:Rat):lg (dn q)<=hq q:=by
 unfold dn;split
 ·simp[a5T]
 ·exact a0E q
theorem a3s:lg 1=1:=a2V (by omega) (by omega)
theorem a7r {n:Nat} (h:0<n):1<=lg n:=b5y h
theorem a6P (q:Rat):1<=hq q:=Nat.le_trans (a7r q.den_pos) (a0E q)
theorem a9L (z:Int) (d k:Nat) (h1:lg z.natAbs<=k) (h2:lg d<=k) (hk:1<=k):hq (mkRat z d)<=k:=by
 by_cases hd:d=0
 ·subst hd;rw[Rat.mkRat_zero];unfold hq;simp[a5T,a3s];exact hk
 ·unfold hq
  rw[Rat.num_mkRat,Rat.den_mkRat,if_neg hd,if_neg hd];refine Nat.max_le.2 ⟨Nat.le_trans (a1h ?_) h1,Nat.le_trans (a1h (Nat.div_le_self _ _)) h2⟩;exact Int.natAbs_ediv_le_natAbs _ _
theorem a9M (x y:Rat):hq (x+y)<=hq x+hq y+1:=by
 rw[Rat.add_def'];refine a9L _ _ _ ?_ (Nat.le_trans (a0X _ _) (by have:=a0E x;have:=a0E y;omega)) (by omega);refine Nat.le_trans (a1h (Int.natAbs_add_le _ _)) ?_;refine Nat.le_trans (a9H _ _) ?_;rw[Int.natAbs_mul,Int.natAbs_mul,Int.natAbs_natCast,Int.natAbs_natCast];have a1:=a0X x.num.natAbs y.den;have a2:=a0X y.num.natAbs x.den;have:=a0A x;have:=a0A y;have:=a0E x;have:=a0E y;omega
theorem hq_mul (x y:Rat):hq (x*y)<=hq x+hq y:=by
 rw[Rat.mul_def'];refine a9L _ _ _ ?_ (Nat.le_trans (a0X _ _) (by have:=a0E x;have:=a0E y;omega)) (by have:=a6P x;omega);rw[Int.natAbs_mul];have:=a0X x.num.natAbs y.num.natAbs;have:=a0A x;have:=a0A y;omega
theorem a5v (x:Rat):hq (-x)=hq x:=by unfold hq;simp
theorem a9N (x y:Rat):hq (x - y)<=hq x+hq y+1:=by
 rw[Rat.sub_eq_add_neg,<-a5v y];exact a9M _ _
theorem a0Y:hq 0=1:=by unfold hq;simp[a5T,a3s]
theorem b8B (x:Rat):hq x⁻¹<=hq x:=by
 by_cases h:x=0
 ·subst h;simp
 ·have hn:x.num≠0:=fun e=>h (Rat.num_eq_zero.1 e)
  unfold hq;rw[Rat.num_inv,Rat.den_inv,if_neg hn,Int.natAbs_mul,Int.natAbs_sign_of_ne_zero hn,Nat.one_mul,Int.natAbs_natCast,Nat.max_comm];exact Nat.le_refl _
theorem hq_div (x y:Rat):hq (x/y)<=hq x+hq y:=by
 rw[Rat.div_def];exact Nat.le_trans (hq_mul _ _) (by have:=b8B y;omega)
theorem a6Q (z:Int) (k:Nat) (h:lg z.natAbs<=k) (hk:1<=k):hq (z:Rat)<=k:=by
 unfold hq;rw[Rat.num_intCast,Rat.den_intCast,a3s];exact Nat.max_le.2 ⟨h,hk⟩
theorem b6E (s:Bool) (m d:List Nat) (k:Nat) (hm:Dig m) (hd:Dig d) (h1:m.length<=k) (h2:d.length<=k) (hk:1<=k):hq (b3v s m d)<=k:=by
 cases hv:a1r s m d
 ·rw[a3C hv,a0Y];exact hk
 ·have hc:=a5K.of_valid hm hd hv
  have e1:=hc.1.len;have e2:=hc.2.len;unfold hq;refine Nat.max_le.2 ⟨by omega,?_⟩;unfold dn at e2;split at e2
  ·rename_i h;rw[h,a3s];exact hk
  ·omega
theorem a5K.lowest {s:Bool} {n d:List Nat} {z:Int} {k:Nat} (hk:k≠0) (hs:s=decide (z<0)) (hn:a0I n (z.natAbs/Nat.gcd z.natAbs k)) (hd:a0I d (k/Nat.gcd z.natAbs k)):a5K s n (if k/Nat.gcd z.natAbs k=1 then[]else d) (mkRat z k):=by
 have hg:0<Nat.gcd z.natAbs k:=Nat.gcd_pos_of_pos_right _ (by omega);have e1:(mkRat z k).num=z/(Nat.gcd z.natAbs k:Nat):=by rw[Rat.num_mkRat,if_neg hk,Nat.gcd_comm]
 have e2:(mkRat z k).den=k/Nat.gcd z.natAbs k:=by rw[Rat.den_mkRat,if_neg hk,Nat.gcd_comm]
 have hdv:((Nat.gcd z.natAbs k:Nat):Int)∣z:=Int.ofNat_dvd_left.2 (Nat.gcd_dvd_left _ _);have e3:(mkRat z k).num.natAbs=z.natAbs/Nat.gcd z.natAbs k:=by rw[e1,Int.natAbs_ediv_of_dvd hdv,Int.natAbs_natCast]
 refine⟨⟨?_,by rw[e3];exact hn⟩,?_⟩
 ·rw[hs,Bool.eq_iff_iff]
  simp only[decide_eq_true_eq];rw[e1];obtain⟨g,hgg⟩:∃g,Nat.gcd z.natAbs k=g:=⟨_,rfl⟩;rw[hgg]at hdv hg |-;obtain⟨c,rfl⟩:=hdv;rw[Int.mul_ediv_cancel_left _ (by omega)];constructor
  ·intro h
   by_cases h0:c<0
   ·exact h0
   ·have:=Int.mul_nonneg (Int.natCast_nonneg g) (show 0<=c by omega);omega
  ·intro h
   exact Int.mul_neg_of_pos_of_neg (by omega) h
 ·unfold dn
  rw[e2];split
  ·exact a0I.nil
  ·exact hd
end Go.Lim
