/- Parts of a proof: each theorem states what it proves, and its conditions. -/
import Derived.Test.YtgbbpgflopajaaaGreatSpB
import Derived.Laws.CopyRow
import Derived.Deep.RegionHeld3
import Derived.Deep.RegionWith
set_option maxRecDepth 100000
namespace Go.Lim
theorem a1q{l:List Nat}{n:Nat}(h:a0K l n):l.length=0↔n=0:=by
 rw[<-a7N h];exact List.length_eq_zero_iff
def a1t(s:Bool)(m:List Nat):Bool:=a1G m&&(decide (0<m.length)|| !s)
noncomputable def a7W(s:Bool)(m:List Nat):Int:=if a1t s m then(if s then -(nv m:Int)else nv m)else 0
def a5X(s:Bool)(m:List Nat)(z:Int):Prop:=s=decide (z<0)/\a0K m z.natAbs
theorem a5X.of_valid{s:Bool}{m:List Nat}(hd:Dig m)(h:a1t s m=true):a5X s m (a7W s m):=by
 have c:a1G m=true:=by unfold a1t at h;simp at h;exact h.1
 have b:a0K m (nv m):=⟨hd,c,rfl⟩;have a:=a1q b;unfold a7W;rw[if_pos h];cases s
 ·simp only[Bool.false_eq_true,if_false]
  exact⟨by simp,by simpa using b⟩
 ·have d:0<m.length:=by unfold a1t at h;simpa[c]using h
  simp only[if_true];refine⟨?_,by simpa using b⟩;have:nv m≠0:=fun e=>by rw[e]at a;simp at a;simp[a]at d
  symm;rw[decide_eq_true_eq];omega
theorem a5X.valid{s:Bool}{m:List Nat}{z:Int}(h:a5X s m z):a1t s m=true:=by
 obtain⟨b,a⟩:=h;have c:=a1q a;unfold a1t;rw[a.2.1];by_cases hz:z<0
 ·have:0<m.length:=by omega
  simp[this]
 ·simp[b,hz]
theorem a5X.val{s:Bool}{m:List Nat}{z:Int}(h:a5X s m z):a7W s m=z:=by
 unfold a7W;rw[if_pos h.valid];obtain⟨a,b⟩:=h;rw[b.2.2];by_cases hz:z<0
 ·simp only[a,hz,decide_true,if_true];omega
 ·simp only[a,hz,decide_false,Bool.false_eq_true,if_false];omega
theorem a5X.zero:a5X false [] 0:=⟨rfl,a0K.nil⟩
theorem a5X.len{s:Bool}{m:List Nat}{z:Int}(h:a5X s m z):m.length=lg z.natAbs:=h.2.len
theorem a5X.len0{s:Bool}{m:List Nat}{z:Int}(h:a5X s m z):m.length=0↔z=0:=by
 have:=a1q h.2;omega
theorem b7T(s:Bool)(m:List Nat)(h:Dig m):lg (a7W s m).natAbs<=m.length:=by
 cases a:a1t s m
 ·unfold a7W;rw[a];simp[a5H]
 ·exact Nat.le_of_eq (a5X.of_valid h a).len.symm
theorem a5Y{s:Bool}{m:List Nat}(h:a1t s m=false):a7W s m=0:=by unfold a7W;rw[h];rfl
def dn(q:Rat):Nat:=if q.den=1 then 0 else q.den
def a6m(s:Bool)(m d:List Nat)(q:Rat):Prop:=a5X s m q.num/\a0K d (dn q)
noncomputable def a1w(s:Bool)(m d:List Nat):Bool:=a1t s m&&a1G d&&(decide (d.length=0)||(decide (0<m.length)&& !(nv d==1)&&(Nat.gcd (nv m) (nv d)==1)))
noncomputable def b4E(s:Bool)(m d:List Nat):Rat:=if a1w s m d then mkRat (a7W s m) (if d.length=0 then 1 else nv d)else 0
theorem a6m.of_valid{s:Bool}{m d:List Nat}(t:Dig m)(hd:Dig d)(h:a1w s m d=true):a6m s m d (b4E s m d):=by
 have g:=h;unfold a1w at g;simp only[Bool.and_eq_true]at g;obtain⟨⟨o,p⟩,j⟩:=g;have hz:=a5X.of_valid t o;have a:a0K d (nv d):=⟨hd,p,rfl⟩;have i:=a1q a;unfold b4E;rw[if_pos h];by_cases c:d.length=0
 ·rw[if_pos c]
  have e:mkRat (a7W s m) 1=((a7W s m:Int):Rat):=by rw[<-Rat.mk_den_one];rw[Rat.mk_eq_mkRat]
  rw[e];refine⟨by simpa using hz,?_⟩;have:nv d=0:=i.1 c;simp only[dn,Rat.den_intCast,if_true];rw[this]at a;exact a
 ·rw[if_neg c]
  have f:nv d≠0:=fun e=>c (i.2 e);simp[c]at j;obtain⟨⟨u,q⟩,r⟩:=j;have b:(a7W s m).natAbs=nv m:=by have:=hz.2.2.2;omega
  have k:(nv d).gcd (a7W s m).natAbs=1:=by rw[b,Nat.gcd_comm];exact r
  have l:(mkRat (a7W s m) (nv d)).num=a7W s m:=by rw[Rat.num_mkRat,if_neg f,k];simp
  have n:(mkRat (a7W s m) (nv d)).den=nv d:=by rw[Rat.den_mkRat,if_neg f,k];simp
  exact⟨by rw[l];exact hz,by unfold dn;rw[n,if_neg q];exact a⟩
theorem a6m.valid{s:Bool}{m d:List Nat}{q:Rat}(h:a6m s m d q):a1w s m d=true:=by
 obtain⟨b,c⟩:=h;have f:=a1q c;have j:=b.len0;have a:=q.reduced;have k:=q.den_nz;unfold a1w;rw[b.valid,c.2.1,c.2.2,b.2.2.2];by_cases hd:q.den=1
 ·have:d.length=0:=by rw[f];unfold dn;rw[if_pos hd]
  simp[this]
 ·have e:dn q=q.den:=by unfold dn;rw[if_neg hd]
  rw[e]at f |-;have l:q.num≠0:=fun e=>by rw[e]at a;simp[Nat.Coprime]at a;exact hd a
  have i:0<m.length:=by omega
  have g:q.num.natAbs.gcd q.den=1:=a;simp[i,hd,g]
theorem a6m.val{s:Bool}{m d:List Nat}{q:Rat}(h:a6m s m d q):b4E s m d=q:=by
 unfold b4E;rw[if_pos h.valid];obtain⟨c,a⟩:=h;have b:=a1q a;rw[c.val,a.2.2];by_cases hd:q.den=1
 ·have:d.length=0:=by rw[b];unfold dn;rw[if_pos hd]
  rw[if_pos this]
  conv=>rhs;rw[<-Rat.mkRat_self q]
  rw[hd]
 ·have e:dn q=q.den:=by unfold dn;rw[if_neg hd]
  have f:d.length≠0:=by rw[e]at b;have:=q.den_nz;omega
  rw[if_neg f,e,Rat.mkRat_self]
theorem a6m.unique{s e:Bool}{m d c b:List Nat}{q:Rat}(h:a6m s m d q)(a:a6m e c b q):s=e/\m=c/\d=b:=
 ⟨h.1.1.trans a.1.1.symm,h.1.2.unique a.1.2,h.2.unique a.2⟩
theorem a6m.zero:a6m false [] [] 0:=⟨a5X.zero,by simp[dn];exact a0K.nil⟩
theorem a6m.ofInt{s:Bool}{m:List Nat}{z:Int}(h:a5X s m z):a6m s m [] (z:Rat):=⟨by simpa using h,by simp[dn];exact a0K.nil⟩
theorem a3Z{s:Bool}{m d:List Nat}(h:a1w s m d=false):b4E s m d=0:=by unfold b4E;rw[h];rfl
def hq(q:Rat):Nat:=max (lg q.num.natAbs) (lg q.den)
theorem a0B(q:Rat):lg q.num.natAbs<=hq q:=Nat.le_max_left _ _
theorem a0E(q:Rat):lg q.den<=hq q:=Nat.le_max_right _ _
theorem b9H(q:Rat):lg (dn q)<=hq q:=by
 unfold dn;split
 ·simp[a5H]
 ·exact a0E q
theorem a3P:lg 1=1:=a1U (by omega) (by omega)
theorem a7X{n:Nat}(h:0<n):1<=lg n:=b6L h
theorem a7w(q:Rat):1<=hq q:=Nat.le_trans (a7X q.den_pos) (a0E q)
theorem b0F(z:Int)(d k:Nat)(a:lg z.natAbs<=k)(b:lg d<=k)(c:1<=k):hq (mkRat z d)<=k:=by
 by_cases hd:d=0
 ·subst hd;rw[Rat.mkRat_zero];unfold hq;simp[a5H,a3P];exact c
 ·unfold hq
  rw[Rat.num_mkRat,Rat.den_mkRat,if_neg hd,if_neg hd];refine Nat.max_le.2 ⟨Nat.le_trans (a1n ?_) a,Nat.le_trans (a1n (Nat.div_le_self _ _)) b⟩;exact Int.natAbs_ediv_le_natAbs _ _
theorem a8F(x y:Rat):hq (x+y)<=hq x+hq y+1:=by
 rw[Rat.add_def'];refine b0F _ _ _ ?_ (Nat.le_trans (a1c _ _) (by have:=a0E x;have:=a0E y;omega)) (by omega);refine Nat.le_trans (a1n (Int.natAbs_add_le _ _)) ?_;refine Nat.le_trans (b0B _ _) ?_;rw[Int.natAbs_mul,Int.natAbs_mul,Int.natAbs_natCast,Int.natAbs_natCast];have a:=a1c x.num.natAbs y.den;have b:=a1c y.num.natAbs x.den;have:=a0B x;have:=a0B y;have:=a0E x;have:=a0E y;omega
theorem hq_mul(x y:Rat):hq (x*y)<=hq x+hq y:=by
 rw[Rat.mul_def'];refine b0F _ _ _ ?_ (Nat.le_trans (a1c _ _) (by have:=a0E x;have:=a0E y;omega)) (by have:=a7w x;omega);rw[Int.natAbs_mul];have:=a1c x.num.natAbs y.num.natAbs;have:=a0B x;have:=a0B y;omega
theorem a5Z(x:Rat):hq (-x)=hq x:=by unfold hq;simp
theorem a6a(x y:Rat):hq (x - y)<=hq x+hq y+1:=by
 rw[Rat.sub_eq_add_neg,<-a5Z y];exact a8F _ _
theorem a0X:hq 0=1:=by unfold hq;simp[a5H,a3P]
theorem b9I(x:Rat):hq x⁻¹<=hq x:=by
 by_cases h:x=0
 ·subst h;simp
 ·have a:x.num≠0:=fun e=>h (Rat.num_eq_zero.1 e)
  unfold hq;rw[Rat.num_inv,Rat.den_inv,if_neg a,Int.natAbs_mul,Int.natAbs_sign_of_ne_zero a,Nat.one_mul,Int.natAbs_natCast,Nat.max_comm];exact Nat.le_refl _
theorem hq_div(x y:Rat):hq (x/y)<=hq x+hq y:=by
 rw[Rat.div_def];exact Nat.le_trans (hq_mul _ _) (by have:=b9I y;omega)
theorem a4E(z:Int)(k:Nat)(h:lg z.natAbs<=k)(a:1<=k):hq (z:Rat)<=k:=by
 unfold hq;rw[Rat.num_intCast,Rat.den_intCast,a3P];exact Nat.max_le.2 ⟨h,a⟩
theorem b7U(s:Bool)(m d:List Nat)(k:Nat)(f:Dig m)(hd:Dig d)(i:m.length<=k)(j:d.length<=k)(c:1<=k):hq (b4E s m d)<=k:=by
 cases e:a1w s m d
 ·rw[a3Z e,a0X];exact c
 ·have b:=a6m.of_valid f hd e
  have g:=b.1.len;have a:=b.2.len;unfold hq;refine Nat.max_le.2 ⟨by omega,?_⟩;unfold dn at a;split at a
  ·rename_i h;rw[h,a3P];exact c
  ·omega
theorem a6m.lowest{s:Bool}{n d:List Nat}{z:Int}{k:Nat}(f:k≠0)(p:s=decide (z<0))(o:a0K n (z.natAbs/Nat.gcd z.natAbs k))(hd:a0K d (k/Nat.gcd z.natAbs k)):a6m s n (if k/Nat.gcd z.natAbs k=1 then[]else d) (mkRat z k):=by
 have m:0<Nat.gcd z.natAbs k:=Nat.gcd_pos_of_pos_right _ (by omega);have e:(mkRat z k).num=z/(Nat.gcd z.natAbs k:Nat):=by rw[Rat.num_mkRat,if_neg f,Nat.gcd_comm]
 have i:(mkRat z k).den=k/Nat.gcd z.natAbs k:=by rw[Rat.den_mkRat,if_neg f,Nat.gcd_comm]
 have a:((Nat.gcd z.natAbs k:Nat):Int)∣z:=Int.ofNat_dvd_left.2 (Nat.gcd_dvd_left _ _);have j:(mkRat z k).num.natAbs=z.natAbs/Nat.gcd z.natAbs k:=by rw[e,Int.natAbs_ediv_of_dvd a,Int.natAbs_natCast]
 refine⟨⟨?_,by rw[j];exact o⟩,?_⟩
 ·rw[p,Bool.eq_iff_iff]
  simp only[decide_eq_true_eq];rw[e];obtain⟨g,b⟩:∃g,Nat.gcd z.natAbs k=g:=⟨_,rfl⟩;rw[b]at a m |-;obtain⟨c,rfl⟩:=a;rw[Int.mul_ediv_cancel_left _ (by omega)];constructor
  ·intro h
   by_cases l:c<0
   ·exact l
   ·have:=Int.mul_nonneg (Int.natCast_nonneg g) (show 0<=c by omega);omega
  ·intro h
   exact Int.mul_neg_of_pos_of_neg (by omega) h
 ·unfold dn
  rw[i];split
  ·exact a0K.nil
  ·exact hd
theorem b9J{n:Nat}(a:4294967296<=n):2<=lg n:=by
 by_cases h:lg n<=1
 ·rw[a3b,Nat.pow_one,a1r]at h;omega
 ·omega
end Go.Lim
namespace Go.Proofs.YtgbbpgflopajaaaGreat
open Go.RowKit Go.Rep Go.Lim
theorem a9H(X:Nat->Bool)(ao V:Option Addr)(I J:List Nat)(Y Z:Nat)(w:World)(G:Sl (a0c .u32) 1 (mk X w) ao I)(H:Sl (a0c .u32) 1 (mk X w) V J)(z:Dig I)(A:Dig J)(B:I.length<=1099511627776)(C:J.length<=1099511627776)(u:I.length<=Y)(x:J.length<=Z)(hX:∀k,X k=true->k<w.heap.size)(i nb:Nat)(D:val I=i)(E:val J=nb)(h0:0<nb):Calls Tryz.prog 240 #[.slice ao I.length Y, .slice V J.length Z] w (b6N X w (i/nb) (i%nb)):=by
 by_cases h1:nb<4294967296
 ·exact b4N X ao V I J Y Z w G H z A B C u x hX i nb D E h0 h1
 have h2:=b9J (show 4294967296<=nb by omega);clear h1;go_enter Tryz.func240,Tryz.ntmps240
 go_wp2_with fail
 refine(a1s X _ _ _ _ G z (by omega) u).mono ?_;rintro e w' ⟨rfl,K,M,a,rfl,S,P,d,n⟩;go_wp2_with fail
 refine(a1s X _ _ _ _ H A (by omega) x).mono ?_;rintro e w' ⟨rfl,L,N,b,rfl,T,Q,f,p⟩;rw[D]at d;rw[E]at f;have a1:2<=b.length:=by rw[f.len];exact h2
 have m:a.length<=1099511627776:=Nat.le_trans P B;have R:b.length<=1099511627776:=Nat.le_trans Q C;have a4:=hid d.val;have a5:=hid f.val;clear D E P Q G H B C u x h2 z A;go_wp2_with fail
 refine(a3F X K L a b M N w n p d.1 f.1 m R S T i nb a4.out a5.out).mono ?_;rintro e w2 ⟨j,rfl⟩;have o:=n.mono (a0c.mono _) (a0m j);have U:=p.mono (a0c.mono _) (a0m j);have O:∀k,X k=true->k<w2.heap.size:=fun k hk=>Nat.lt_of_lt_of_le (hX k hk) j.size;by_cases l:i<nb
 ·have y:a3l i nb<0:=(a3U i nb).2 l
  have hq:=hid (Nat.div_eq_of_lt l);have hr:=hid (Nat.mod_eq_of_lt l);generalize a3l i nb=c at y;go_wp2_with fail
  refine(a6A X _ _ _ _ i o d (by omega) O).mono ?_;rintro e w3 ⟨s,q,r,l3,rfl,t,g,F⟩;go_wp2_with fail
  go_ret3
  refine⟨j.trans s,none,0,[],q,r,l3,rfl,by simp,?_,Sl.nil _ _ _ _,t,?_,F⟩
  ·rw[hq.out];exact a0K.nil
  ·rw[hr.out];exact g
 ·have y:¬a3l i nb<0:=fun h=>l ((a3U i nb).1 h)
  generalize a3l i nb=c at y;go_wp2_with fail
  refine(b1D X K L a b M N w2 o U i nb d f (by omega) a1 m O).mono ?_;rintro e w3 ⟨s,q,r,l3,W,a0,l4,rfl,t,g,F,a2,v,a3⟩;go_wp2_with fail
  go_ret3
  exact⟨j.trans s,q,r,l3,W,a0,l4,rfl,t,g,F,a2,v,a3⟩
def b7V(w:World)(n:Nat)(e:Ending)(w':World):Prop:=
 w=w'/\((n<18446744073709551616/\e= .returned (.tuple #[.int .u64 n, .bool true]))\/(18446744073709551616<=n/\e= .returned (.tuple #[.int .u64 0, .bool false])))
theorem a7Y(X:Nat->Bool)(ao:Option Addr)(l:List Nat)(c:Nat)(w:World)(Q:Sl (a0c .u32) 1 (mk X w) ao l)(hd:Dig l)(O:l.length<=1099511627776)(M:l.length<=c)(n:Nat)(P:val l=n):Calls Tryz.prog 293 #[.slice ao l.length c] w (b7V w n):=by
 go_enter Tryz.func293,Tryz.ntmps293
 go_wp2_with fail
 refine(a1s X _ _ _ _ Q hd (by omega) M).mono ?_;rintro e w' ⟨rfl,z,S,a,rfl,N,A,o,t⟩;rw[P]at o;have L:a.length<=1099511627776:=Nat.le_trans A O;have W:=t.hd;have H:=hid o.2.2;have B:=o.1;have s:=hid o.len;clear P Q hd O M A;by_cases h2:2<a.length
 ·have r:18446744073709551616<=n:=by
   by_cases h:n<18446744073709551616
   ·have:lg n<=2:=by rw[a3b,a1r];omega
    have:=s.out;omega
   ·omega
  have E:=hid r;clear r;go_wp2_with fail
  go_ret2
  exact⟨rfl, .inr ⟨E.out,rfl⟩⟩
 ·have J:Hid (n<18446744073709551616):=hid (by
   have:lg n<=2:=by rw[<-s.out];omega
   rw[a3b,a1r]at this;omega)
  go_wp2_with fail
  go_loop [2,13] (fun v i=>∃k:Nat,i= .int .i64 k/\v= .int .u64 (nv (a.take k):Nat)/\k<=a.length) (fun _ i=>a.length - (intOf i).toNat)
  case atStart=>exact⟨0,rfl,rfl,by omega⟩
  case round=>
   obtain⟨k,rfl,rfl,hk⟩:=hrel;by_cases y:k<a.length
   ·have j:=t.nat k y
    have hx:=B.get k y;have d:=a0G a k y;obtain⟨x,D⟩:∃x,a[k]=x:=⟨_,rfl⟩;rw[D]at j hx d;rw[a1r]at hx d;have g:=a1V B k;obtain⟨v,R⟩:∃v,nv (a.take k)=v:=⟨_,rfl⟩;rw[R]at d g |-;have u:=hid d;clear d D R;rcases(by omega:k=0\/k=1)with rfl|rfl
    ·rw[Nat.pow_zero]at g
     obtain rfl:v=0:=by omega
     clear g;have I:bits BinOp.or IntKind.u64 0 (x:Int)=(x:Int):=by
      have:=bits_or_u64_nat 0 x (by omega) (by omega);rw[Nat.zero_or]at this;exact this
     have q:w.cell? (adr z 0)=some (.int .u32 x):=j;go_wp2_with (with_reducible refine a0s a0U (by omega) (by assumption) ?_)
     have f:nv (a.take 1)=x:=by have:=u.out;simpa using this
     go_round
     case rel=>exact⟨1,rfl,by rw[f],by omega⟩
     case measure=>simp[intOf];omega
    ·rw[Nat.pow_one,a1r]at g
     have p:bits BinOp.or IntKind.u64 (v:Int) ((x:Int)*4294967296)=((v+4294967296*x:Nat):Int):=by
      have e:=bits_or_u64_nat v (x*4294967296) (by omega) (by omega);have U:=Nat.two_pow_add_eq_or_of_lt (i:=32) (b:=v) (by omega) x;rw[Nat.or_comm,Nat.mul_comm x,show(4294967296:Nat)*x=2^32*x from rfl,<-U]at e;have V:((2^32*x:Nat):Int)=(x:Int)*4294967296:=by omega
      rw[V]at e;rw[e];omega
     have m:nv (a.take 2)=v+4294967296*x:=by have:=u.out;simpa using this
     obtain⟨T,K⟩:∃T,v+4294967296*x=T:=⟨_,rfl⟩;rw[K]at p m;have f:=hid m;have I:=p;clear p K m;have q:w.cell? (adr z 1)=some (.int .u32 x):=j;have Y:(v:Int)<4294967296:=by omega
     have Z:(x:Int)<4294967296:=by omega
     clear g hx;have C:(1:Int)<(a.length:Int):=by omega
     have G:decide ((1:Int)<(a.length:Int))=true:=decide_eq_true C;go_wp2_with (with_reducible refine a0s a0U (by omega) (by assumption) ?_)
     go_round
     case rel=>exact⟨2,rfl,by rw[f.out],by omega⟩
     case measure=>simp[intOf];omega
   ·have F:k=a.length:=by omega
    have f:nv (a.take k)=n:=by rw[F,List.take_length];exact H.out
    rw[f];go_wp2_with fail
    go_ret2
    exact⟨rfl, .inl ⟨J.out,rfl⟩⟩
theorem b2I(a b:Nat)(w:World)(_ha:a<18446744073709551616)(j:b<18446744073709551616):Calls Tryz.prog 294 #[.int .u64 a, .int .u64 b] w (b0D w .u64 (Nat.gcd a b)):=by
 obtain⟨g,e⟩:∃g,Nat.gcd a b=g:=⟨_,rfl⟩;rw[e];have f:=hid e;clear e;have k:Hid (b<18446744073709551616):=hid j;clear _ha j;go_enter Tryz.func294,Tryz.ntmps294
 go_wp2_with fail
 go_loopw [0,1] (fun x y wr=>∃p q m:Nat,x= .int .u64 p/\y= .int .u64 q/\Hid (Nat.gcd p q=g)/\wr=w.drewN m) (fun _ y _=>(intOf y).toNat)
 case atStart=>exact⟨a,b,0,rfl,rfl,f,rfl⟩
 case round=>
  obtain⟨p,q,m,rfl,rfl,d,rfl⟩:=hrel;by_cases hq:q=0
  ·subst hq
   have c:=hid (by have:=d.out;rwa[Nat.gcd_zero_right]at this);have n:(((0:Nat):Int) !=0)=false:=rfl;go_wp2_with fail
   go_ret
   exact⟨a0O (congrArg Nat.cast c.out),m,rfl⟩
  ·have n:((q:Int)==0)=false:=a2H (by omega)
   have o:((q:Int) !=0)=true:=a8A (by omega);have i:Hid (Nat.gcd q (p%q)=g):=hid (by rw[Nat.gcd_comm,<-Nat.gcd_rec,Nat.gcd_comm];exact d.out);have h:p%q<q:=Nat.mod_lt _ (by omega);have l:=hid hq;clear hq;go_wp2_with fail
   go_quiet (fail)
   go_wp2_with fail
   go_roundw
   case rel=>exact⟨q,p%q,_,rfl,by rw[Int.natCast_emod],i,World.drewN_drewN _ _ _⟩
   case measure=>
    simp only[intOf,Int.toNat_natCast];rw[<-Int.natCast_emod,Int.toNat_natCast];exact h
noncomputable def c1c(w:World):Value->Nat
 | .slice ao n _=>nv ((List.range n).map fun i=>match w.cell? (adr ao i)with|some (.int _ x)=>x.toNat|_=>0)
 |_=>0
theorem a5K{X:Nat->Bool}{w:World}{ao:Option Addr}{l:List Nat}(c:Nat)(b:Sl (a0c .u32) 1 (mk X w) ao l):c1c w (.slice ao l.length c)=nv l:=by
 show nv _=nv l
 congr 1
 apply List.ext_getElem
 ·simp
 ·intro i d a
  simp only[List.getElem_map,List.getElem_range,b.nat i a,Int.toNat_natCast]
theorem b7W(X:Nat->Bool)(ao bo:Option Addr)(la lb:List Nat)(ca cb:Nat)(w:World)(u:Sl (a0c .u32) 1 (mk X w) ao la)(h:Sl (a0c .u32) 1 (mk X w) bo lb)(b5:Dig la)(b6:Dig lb)(b9:la.length<=1099511627776)(c0:lb.length<=1099511627776)(B:la.length<=ca)(n:lb.length<=cb)(hX:∀k,X k=true->k<w.heap.size)(na nb:Nat)(c1:val la=na)(c2:val lb=nb):Calls Tryz.prog 239 #[.slice ao la.length ca, .slice bo lb.length cb] w (a4B X w (Nat.gcd na nb)):=by
 go_enter Tryz.func239,Tryz.ntmps239
 go_wp2_with fail
 refine(a1s X _ _ _ _ u b5 (by omega) B).mono ?_;rintro e w' ⟨rfl,c8,d0,a,rfl,Z,z,G,a1⟩;go_wp2_with fail
 refine(a1s X _ _ _ _ h b6 (by omega) n).mono ?_;rintro e w' ⟨rfl,c9,d1,b,rfl,a0,j,H,a3⟩;rw[c1]at G;rw[c2]at H;have V:a.length<=1099511627776:=Nat.le_trans z b9;have Y:b.length<=1099511627776:=Nat.le_trans j c0;obtain⟨g,O⟩:∃g,Nat.gcd na nb=g:=⟨_,rfl⟩;rw[O];have a8:=hid O;have A:=hid G;have f:=hid H;clear c1 c2 z j u h b9 c0 B n b5 b6 O G H;go_wp2_with fail
 go_loopw [0,1] (fun x y wr=>∃(p q:Nat) (ao bo:Option Addr) (a b:List Nat) (ca cb:Nat),x= .slice ao a.length ca/\y= .slice bo b.length cb/\a.length<=ca/\b.length<=cb/\a.length<=1099511627776/\b.length<=1099511627776/\Hid (a0K a p)/\Hid (a0K b q)/\Hid (Nat.gcd p q=g)/\
  Sl (a0c .u32) 1 (mk X wr) ao a/\Sl (a0c .u32) 1 (mk X wr) bo b/\Ext w wr) (fun _ y W=>c1c W y)
 case atStart=>exact⟨na,nb,_,_,_,_,_,_,rfl,rfl,Z,a0,V,Y,A,f,a8,a1,a3,ExtX.refl _⟩
 case round=>
  clear A f a1 a3 Z a0 V Y;obtain⟨p,q,P,Q,a2,U,R,v,rfl,rfl,B,n,z,j,A,f,O,u,h,hE⟩:=hrel;have S:∀k,X k=true->k<wr.heap.size:=fun k hk=>Nat.lt_of_lt_of_le (hX k hk) hE.size;by_cases hq:0<U.length
  ·have o:Hid (0<q):=hid (by have:=a1q f.out;omega)
   have d2:(0:Int)<(U.length:Int):=by omega
   have a6:=A.out.1;have T:=f.out.1;have N:=hid A.out.val;have C:=hid f.out.val;go_wp2_with fail
   refine(a7Y X P a2 R wr u a6 z B p N.out).mono ?_;rintro e w' ⟨rfl,c5⟩;rcases c5 with⟨u1,rfl⟩|⟨u1,rfl⟩
   ·have c6:=hid u1
    clear u1;go_wp2_with fail
    refine(a7Y X Q U v wr h T j n q C.out).mono ?_;rintro e w' ⟨rfl,b4⟩;rcases b4 with⟨u2,rfl⟩|⟨u2,rfl⟩
    ·have a9:Nat.gcd p q<18446744073709551616:=Nat.lt_of_le_of_lt (Nat.gcd_le_right _ o.out) u2
     rw[O.out]at a9;have c7:=hid u2;have b8:=hid a9;have b7:=b2I p q wr c6.out c7.out;rw[O.out]at b7;clear u2 a9;go_wp2_with fail
     refine b7.mono ?_;rintro e w2 ⟨rfl,m,rfl⟩;go_wp2_with fail
     refine(a3V X g (wr.drewN m) b8.out S).mono ?_;rintro e w3 ⟨i,D,E,l3,rfl,F,d,t⟩;go_wp2_with fail
     go_ret
     exact⟨hE.trans (((ExtX.refl wr).drewN m).trans i),D,E,l3,rfl,F,by rw[a8.out];exact d,t⟩
    ·clear u2
     go_wp2_with fail
     refine(a9H X P Q a2 U R v wr u h a6 T z j B n S p q N.out C.out o.out).mono ?_;rintro e w3 ⟨i,D,E,l3,c3,a4,l4,rfl,F,d,t,a5,c,L⟩;go_wp2_with fail
     have b0:l4.length<=1099511627776:=by
      have h1:l4.length<=U.length:=by rw[c.len,f.out.len];exact a1n (Nat.le_of_lt (Nat.mod_lt _ o.out))
      omega
     have b3:Hid (Nat.gcd q (p%q)=g):=hid (by rw[Nat.gcd_comm,<-Nat.gcd_rec,Nat.gcd_comm];exact O.out);have M:=h.mono (a0c.mono _) (a0m i);have r:=a5K a4 L;have s:=a5K v h;rw[c.2.2]at r;rw[f.out.2.2]at s;have b1:=Nat.mod_lt p o.out;have l:=hid c;have J:=hid r;have K:=hid s;clear d t c r s N C;go_roundw
     case rel=>exact⟨q,p%q,_,_,_,_,_,_,rfl,rfl,n,a5,j,b0,f,l,b3,M,L,hE.trans i⟩
     case measure=>rw[J.out,K.out];exact b1
   ·clear u1
    go_wp2_with fail
    refine(a7Y X Q U v wr h T j n q C.out).mono ?_;rintro e w' ⟨rfl,b4⟩;rcases b4 with⟨u2,rfl⟩|⟨u2,rfl⟩
    all_goals
     clear u2;go_wp2_with fail
     refine(a9H X P Q a2 U R v wr u h a6 T z j B n S p q N.out C.out o.out).mono ?_;rintro e w3 ⟨i,D,E,l3,c3,a4,l4,rfl,F,d,t,a5,c,L⟩;go_wp2_with fail
     have b0:l4.length<=1099511627776:=by
      have h1:l4.length<=U.length:=by rw[c.len,f.out.len];exact a1n (Nat.le_of_lt (Nat.mod_lt _ o.out))
      omega
     have b3:Hid (Nat.gcd q (p%q)=g):=hid (by rw[Nat.gcd_comm,<-Nat.gcd_rec,Nat.gcd_comm];exact O.out);have M:=h.mono (a0c.mono _) (a0m i);have r:=a5K a4 L;have s:=a5K v h;rw[c.2.2]at r;rw[f.out.2.2]at s;have b1:=Nat.mod_lt p o.out;have l:=hid c;have J:=hid r;have K:=hid s;clear d t c r s N C;go_roundw
     case rel=>exact⟨q,p%q,_,_,_,_,_,_,rfl,rfl,n,a5,j,b0,f,l,b3,M,L,hE.trans i⟩
     case measure=>rw[J.out,K.out];exact b1
  ·have o:q=0:=by have:=a1q f.out;omega
   subst o;have I:=O.out;rw[Nat.gcd_zero_right]at I;have a7:=hid I;clear I;have c4:=A.out;clear O f;go_wp2_with fail
   refine(a6A X P a2 R wr p u c4 (by omega) S).mono ?_;rintro e w3 ⟨i,D,E,l3,rfl,F,d,t⟩;go_wp2_with fail
   go_ret
   exact⟨hE.trans i,D,E,l3,rfl,F,by rw[a8.out,<-a7.out];exact d,t⟩
theorem a2k(X:Nat->Bool)(ao:Option Addr)(l:List Nat)(a:Nat)(w:World)(c:Sl (a0c .u32) 1 (mk X w) ao l)(g:l.length<=4398046511104):Calls Tryz.prog 249 #[.slice ao l.length a] w fun e i=>w=i/\e= .returned (.bool (a1G l)):=by
 have f:=c.hd;by_cases d:l.length=0
 ·have b:l= []:=List.eq_nil_of_length_eq_zero d
  subst b;clear c f g d;simp only[List.length_nil];go_enter Tryz.func249,Tryz.ntmps249
  go_wp2_with fail
  go_ret
  exact⟨rfl,rfl⟩
 ·have j:=c.nat (l.length - 1) (by omega)
  have h:=hid (a3E (l:=l) (by omega));have hz:((l.length:Int)==0)=false:=a2H (by omega);go_enter Tryz.func249,Tryz.ntmps249
  go_wp2_with (with_reducible refine a0s a0U (by omega) (by assumption) ?_)
  go_ret
  exact⟨rfl,a0n (by rw[h.out];exact a8C _)⟩
theorem a6F(X:Nat->Bool)(ao:Option Addr)(l:List Nat)(c:Nat)(w:World)(f:Sl (a0c .u32) 1 (mk X w) ao l)(hd:Dig l)(n:l.length<=4398046511104)(p:∀k,X k=true->k<w.heap.size):Calls Tryz.prog 177 #[.slice ao l.length c] w (a4B X w (val l)):=by
 cases b:a1G l
 ·have h:=hid b
  go_enter Tryz.func177,Tryz.ntmps177
  go_wp2_with (go_at_call 249;refine(a2k X _ _ _ _ f n).mono ?_;rintro e r ⟨rfl,rfl⟩)
  go_ret
  have:vl l= []:=by unfold vl;rw[b];rfl
  exact⟨ExtX.refl _,none,0,[],rfl,by simp,this▸a4Y hd,Sl.nil _ _ _ _⟩
 ·have h:=hid b
  have j:=OL.nil (a0c .u32) 1 X w.heap.size 131 w;have g:Sl (a0c .u32) 1 (mk (un X none) w) ao l:=f.mono (a0c.mono _) (a1v fun k _ q=>by simpa[un,ob]using q);go_enter Tryz.func177,Tryz.ntmps177
  go_wp2_with (first|(go_at_call 249;refine(a2k X _ _ _ _ f n).mono ?_;rintro e r ⟨rfl,rfl⟩)|(at_builtin;refine a4p (l:=[]) a0U rfl (a0c.elem .u32) (Nat.le_refl _) p l rfl rfl j g (by simp;omega) (by simp;omega) ?_;intro o i s a d _))
  go_ret
  have:vl l=l:=by unfold vl;rw[b];rfl
  have m:=a4Y hd;rw[this]at m;exact⟨(ExtX.refl w).own j (Nat.le_refl _) d,_,_,l,rfl,by simpa using a.lenCap,m,by simpa using a.sl (a0c.elem _)⟩
theorem a5g(X:Nat->Bool)(ao:Option Addr)(l:List Nat)(a:Nat)(w:World)(d:Sl (a0c .u32) 1 (mk X w) ao l)(hd:Dig l)(o:l.length<=4398046511104)(h:l.length<=a):Calls Tryz.prog 247 #[.slice ao l.length a] w (b2x X w ao l a):=by
 have j:=d.hd;go_enter Tryz.func247,Tryz.ntmps247
 go_wp2_with fail
 go_loop [0] (fun s=>∃k:Nat,s= .slice ao k a/\Cut l k) (fun s=>lenOf s)
 case atStart=>exact⟨_,rfl,Cut.all l⟩
 case round=>
  obtain⟨k,rfl,c⟩:=hrel;have n:=c.1;by_cases f:0<k
  ·have i:=d.nat (k - 1) (by omega)
   have m:Hd ao k:=fun _=>j (by omega);by_cases hz:l[k - 1]=0
   ·have e:=c.less f hz
    have g:=hid hz;rw[hz]at i;clear hz;go_wp2_with (with_reducible refine a0s a0U (by omega) (by assumption) ?_)
    go_round
    case rel=>exact⟨k - 1,by go_num,e⟩
    case measure=>simp[lenOf];omega
   ·have b:=c.canon hd (.inr ⟨by omega,hz⟩)
    have g:((l[k - 1]:Int)==0)=false:=a2H (by omega);go_wp2_with (with_reducible refine a0s a0U (by omega) (by assumption) ?_)
    go_ret
    exact⟨rfl,l.take k,a4W (by simp;omega),by simp;omega,b,d.take k⟩
  ·have b:=c.canon hd (.inl (by omega))
   go_wp2_with fail
   go_ret
   exact⟨rfl,l.take k,a4W (by simp;omega),by simp;omega,b,d.take k⟩
theorem a4a(X:Nat->Bool)(ao:Option Addr)(l:List Nat)(c:Nat)(i:Nat)(w:World)(g:Sl (a0c .u32) 1 (mk X w) ao l)(hd:Dig l)(hi:i<=4398046511104)(x:Nat)(hx:l.getD i 0=x):Calls Tryz.prog 246 #[.slice ao l.length c, .int .i64 i] w fun e j=>w=j/\e= .returned (.int .u64 x):=by
 have m:=g.hd;have b:=hid hx;clear hx;by_cases h:i<l.length
 ·have k:=g.nat i h
  have d:l.getD i 0=l[i]:=by simp[List.getD,h]
  have a:=hid d;have f:=hd.get i h;rw[a1r]at f;go_enter Tryz.func246,Tryz.ntmps246
  go_wp2_with (with_reducible refine a0s a0U (by omega) (by assumption) ?_)
  go_ret
  exact⟨rfl,a0O (by rw[<-b.out,a.out])⟩
 ·have d:l.getD i 0=0:=by simp[List.getD,h]
  have a:=hid d;go_enter Tryz.func246,Tryz.ntmps246
  go_wp2_with (with_reducible refine a0s a0U (by omega) (by assumption) ?_)
  go_ret
  exact⟨rfl,a0O (by rw[<-b.out,a.out];rfl)⟩
theorem a7Z(X:Nat->Bool)(n:Nat)(w:World)(hn:n<18446744073709551616)(hX:∀k,X k=true->k<w.heap.size):Calls Tryz.prog 174 #[.int .u64 n] w (a4B X w n):=by
 have hO:OL (a0c .u32) 1 X w.heap.size 131 (w.alloc (.cells #[.int .u32 ((n:Int)%4294967296), .int .u32 ((n:Int)/4294967296)] 131)) (some ⟨w.heap.size,0,none⟩) 2 [n%4294967296,n/4294967296]:=
  OL.lit (a0c.elem .u32) hX (Nat.le_refl _) [.int .u32 ((n%4294967296:Nat):Int), .int .u32 ((n/4294967296:Nat):Int)] [n%4294967296,n/4294967296] _ (by simp[a0j,Value.cells]) rfl
   (fun i hi _=>by
            match i,hi with
            |0,_=>rfl
            |1,_=>rfl) (by simp)
 go_enter Tryz.func174,Tryz.ntmps174
 go_wp2_with fail
 refine(a5g X _ [n%4294967296,n/4294967296] _ _ (hO.sl (a0c.elem .u32)) (Dig.cons (by rw[a1r];exact Nat.mod_lt _ (by decide)) (Dig.cons (by rw[a1r];omega) Dig.nil)) (by simp) (by simp)).mono ?_;rintro e w' ⟨rfl,l',rfl,hl',hc,hs'⟩;go_wp2_with fail
 go_ret
 have hv:nv [n%4294967296,n/4294967296]=n:=by simp only[nv,a1r];omega
 rw[hv]at hc;exact⟨(ExtX.refl w).alloc _,_,2,_,rfl,by simpa using hl',hc,hs'⟩
theorem a8a(X:Nat->Bool)(f g:Option Addr)(a b:List Nat)(m n:Nat)(w:World)(j:Sl (a0c .u32) 1 (mk X w) f a)(l:Sl (a0c .u32) 1 (mk X w) g b)(y:a.length<=1099511627776)(z nb:Nat)(c:a0K a z)(d:a0K b nb):Calls Tryz.prog 274 #[.slice f a.length m, .slice g b.length n] w (a4C w (a3l z nb)):=by
 have u:=j.hd;have v:=l.hd;by_cases e:a.length<b.length
 ·have h:=hid (a4z c d e)
  have s:((a.length:Int) !=b.length)=true:=a8A (by omega);go_enter Tryz.func274,Tryz.ntmps274
  go_wp2_with fail
  go_ret
  exact⟨ExtX.refl _,a0O h.out.symm⟩
 by_cases r:b.length<a.length
 ·have h:=hid (a4A c d r)
  have s:((a.length:Int) !=b.length)=true:=a8A (by omega);go_enter Tryz.func274,Tryz.ntmps274
  go_wp2_with fail
  go_ret
  exact⟨ExtX.refl _,a0O h.out.symm⟩
 have s:((a.length:Int) !=b.length)=false:=a8D (by omega);have o:Hid (a.length=b.length):=hid (by omega);have t:b.length<=a.length:=by omega
 have C:a.length<=b.length:=by omega
 clear e r;go_enter Tryz.func274,Tryz.ntmps274
 go_wp2_with fail
 go_loopw [5] (fun i wr=>∃k:Nat,i= .int .i64 ((k:Int) - 1)/\k<=a.length/\Hid (a.drop k=b.drop k)/\Ext w wr) (fun i _=>(intOf i+1).toNat)
 case atStart=>exact⟨a.length,rfl,Nat.le_refl _,hid (by rw[List.drop_of_length_le (Nat.le_refl _),List.drop_of_length_le t]),ExtX.refl _⟩
 case round=>
  obtain⟨k,rfl,x,hdr,p⟩:=hrel;by_cases e:0<k
  ·have D:=(j.mono (a0c.mono _) (a0m p)).nat (k - 1) (by omega)
   have E:=(l.mono (a0c.mono _) (a0m p)).nat (k - 1) (by omega);have F:∀W,(Instr.indexAt 34 (.slice f a.length m) (.int .i64 ((k:Int) - 1))).run Tryz.prog W= .ok (.pointer (some (adr f (k - 1)))) W:=a0x a0U f a.length m .i64 (k - 1) u (by omega) (by omega);have G:∀W,(Instr.indexAt 34 (.slice g b.length n) (.int .i64 ((k:Int) - 1))).run Tryz.prog W= .ok (.pointer (some (adr g (k - 1)))) W:=a0x a0U g b.length n .i64 (k - 1) v (by omega) (by omega);by_cases A:a[k - 1]<b[k - 1]
   ·have h:=hid (a7t c d o.out e x hdr.out A)
    have H:((a[k - 1]:Int)<(b[k - 1]:Int)):=by omega
    go_wp2_with fail
    go_quiet (fail)
    go_wp2_with fail
    go_ret
    exact⟨p.drewN _,a0O h.out.symm⟩
   by_cases B:b[k - 1]<a[k - 1]
   ·have h:=hid (a7u c d o.out e x hdr.out B)
    go_wp2_with fail
    go_quiet (fail)
    go_wp2_with fail
    go_quiet (fail)
    go_wp2_with fail
    go_ret
    exact⟨(p.drewN _).drewN _,a0O h.out.symm⟩
   ·have q:=hid (a5W o.out e x hdr.out (by omega))
    go_wp2_with fail
    go_quiet (fail)
    go_wp2_with fail
    go_quiet (fail)
    go_wp2_with fail
    go_roundw
    case rel=>exact⟨k - 1,by go_num,by omega,q,p.drewN _⟩
    case measure=>simp[intOf];omega
  ·have h:=hid (a7v c d (k:=k) (by omega) hdr.out)
   go_wp2_with fail
   go_ret
   exact⟨p,a0O h.out.symm⟩
theorem b4U(X:Nat->Bool)(ao bo:Option Addr)(D E:List Nat)(ca cb:Nat)(w:World)(O:Sl (a0c .u32) 1 (mk X w) ao D)(Q:Sl (a0c .u32) 1 (mk X w) bo E)(u:Dig D)(z:Dig E)(I:D.length<=1099511627776)(J:E.length<=1099511627776)(hX:∀k,X k=true->k<w.heap.size)(na nb:Nat)(L:val D=na)(M:val E=nb):Calls Tryz.prog 173 #[.slice ao D.length ca, .slice bo E.length cb] w (a4B X w (na+nb)):=by
 go_enter Tryz.func173,Tryz.ntmps173
 go_wp2_with fail
 refine(a6F X _ _ _ _ O u (by omega) hX).mono ?_;rintro e w1 ⟨p,a0,a3,a,rfl,b6,d,n⟩;have s:∀k,X k=true->k<w1.heap.size:=fun k C=>Nat.lt_of_lt_of_le (hX k C) p.size;go_wp2_with fail
 refine(a6F X _ _ _ _ (Q.mono (a0c.mono _) (a0m p)) z (by omega) s).mono ?_;rintro e Z ⟨l,a2,a4,b,rfl,b7,f,R⟩;have a7:∀k,X k=true->k<Z.heap.size:=fun k C=>Nat.lt_of_lt_of_le (s k C) l.size;have b8:a.length<=1099511627776:=by rw[d.len];exact Nat.le_trans (b2v D u) I
 have b9:b.length<=1099511627776:=by rw[f.len];exact Nat.le_trans (b2v E z) J
 replace n:=n.mono (a0c.mono _) (a0m l)
 rw[L]at d;rw[M]at f;have U:Hid (nv a+nv b=na+nb):=hid (by rw[d.2.2,f.2.2]);have h:=d.1;have j:=f.1;have a5:=p.trans l;clear L M O Q I J d f u z p l s;obtain⟨m,hm⟩:∃m,max a.length b.length=m:=⟨_,rfl⟩;have b1:a.length<=m:=by omega
 have b2:b.length<=m:=by omega
 have c4:m<=1099511627776:=by omega
 have c5:(if a.length<b.length then(b.length:Int)else(a.length:Int))=(m:Int):=by split<;>omega
 have c3:=hid hm;clear hm;go_wp2_with fail
 go_loopw [5,6,7] (fun v c i wr=>∃(k:Nat) (o:List Nat) (A:Nat) (oo:Option Addr) (cp:Nat),i= .int .i64 k/\c= .int .u64 A/\v= .slice oo o.length cp/\k<=m+1/\a3m a b o k A/\OL (a0c .u32) 1 X Z.heap.size 131 wr oo cp o/\Ext Z wr) (fun _ _ i _=>m+1 - (intOf i).toNat)
 case atStart=>exact⟨0,[],0,none,0,rfl,rfl,rfl,by omega,a3m.start a b,OL.nil _ _ _ _ _ _,ExtX.refl _⟩
 case round=>
  obtain⟨k,o,A,oo,cp,rfl,rfl,rfl,C,g,Y,B⟩:=hrel;have N:=hid g.1;have c0:=g.2.2.1;have a8:∀k,X k=true->k<wr.heap.size:=fun k C=>Nat.lt_of_lt_of_le (a7 k C) B.size;have t:Z.heap.size<=wr.heap.size:=B.size;by_cases c2:k<=m
  ·have P:=n.mono (a0c.mono _) (a0m B)
   have S:=R.mono (a0c.mono _) (a0m B);have T:=g.step h j;have hx:=h.getD k;have hy:=j.getD k;rw[a1r]at hx hy;obtain⟨x,q⟩:∃x,a.getD k 0=x:=⟨_,rfl⟩;obtain⟨y,r⟩:∃y,b.getD k 0=y:=⟨_,rfl⟩;rw[q,r]at T;rw[q]at hx;rw[r]at hy;have V:=hid q;have W:=hid r;clear q r;go_wp2_with fail
   refine(a4a X a0 a a3 k _ P h (by omega) x V.out).mono ?_;rintro e w' ⟨rfl,rfl⟩;go_wp2_with fail
   refine(a4a X a2 b a4 k _ S j (by omega) y W.out).mono ?_;rintro e w' ⟨rfl,rfl⟩;have K:o.length<=2199023255552:=by rw[N.out];omega
   go_wp2_with (at_builtin;refine a2S a0U rfl (a0c.elem .u32) t a8 rfl rfl Y (.int .u32 (((x+y+A)%4294967296:Nat):Int)) ((x+y+A)%4294967296) (by simp[Value.cells]) rfl (by omega) (by omega) ?_;intro a1 F w3 a6 l _)
   go_roundw
   case rel=>exact⟨k+1,_,(x+y+A)/4294967296,a1,F,by go_num,by simp,by simp,by omega,T,a6,B.own Y (Nat.le_refl _) l⟩
   case measure=>simp[intOf];omega
  ·have a9:k=m+1:=by omega
   subst a9;have G:=g.done h j b1 b2;have b3:=g.2.1;have b5:=Y.sl (a0c.elem .u32);have K:o.length<=2199023255552:=by rw[N.out];omega
   have b0:=Y.lenCap;have H:=hid G;clear G;go_wp2_with fail
   refine(a5g X _ _ _ _ b5 b3 (by omega) b0).mono ?_;rintro e w' ⟨rfl,l',rfl,c1,hc,b4⟩;go_wp2_with fail
   go_ret
   rw[H.out,U.out]at hc;exact⟨a5.trans B,_,_,_,rfl,by omega,hc,b4⟩
end Go.Proofs.YtgbbpgflopajaaaGreat
namespace Go.Lim
def a3G(a b o:List Nat)(i c:Nat):Prop:=o.length=i/\Dig o/\c<=1/\nv o+nv (b.take i)=nv (a.take i)+B^i*c
theorem a3G.start(a b:List Nat):a3G a b [] 0 0:=⟨rfl,Dig.nil,by omega,by simp[nv]⟩
theorem a3G.step{a b o:List Nat}{i c x y:Nat}(h:a3G a b o i c)(hx:a.getD i 0=x)(j:b.getD i 0=y)(s:Dig a)(t:Dig b):a3G a b (o++[a4M x y c]) (i+1) (a6B x y c):=by
 obtain⟨g,q,r,u⟩:=h;have e:=s.getD i;have f:=t.getD i;rw[hx]at e;rw[j]at f;obtain⟨l,m,n⟩:=a9D e f r;refine⟨by simp[g],q.append (Dig.cons m Dig.nil),n,?_⟩;rw[a2a,g,a1o,a1o,hx,j,Nat.pow_succ];generalize a4M x y c=d at*;generalize a6B x y c=k at*;have p:B^i*(d+y+c)=B^i*(x+B*k):=by rw[l]
 rw[Nat.mul_add,Nat.mul_add,Nat.mul_add]at p;rw[Nat.mul_assoc];omega
theorem a3G.done{a b o:List Nat}{c:Nat}(h:a3G a b o a.length c)(d:b.length<=a.length)(j:nv b<=nv a):nv o=nv a - nv b:=by
 obtain⟨e,f,k,g⟩:=h;rw[List.take_of_length_le d,List.take_of_length_le (Nat.le_refl _)]at g;have i:=a4X f;rw[e]at i;rcases(by omega:c=0\/c=1)with rfl|rfl
 ·omega
 ·omega
theorem b2J{x y c:Nat}(hx:x<4294967296)(b:y<4294967296)(a:c<=1):(x+4294967296 - y - c)%4294967296=a4M x y c/\1 - (x+4294967296 - y - c)/4294967296=a6B x y c:=by
 unfold a4M a6B;refine⟨rfl,?_⟩;split<;>omega
def a5h(a:List Nat)(v by_:Nat)(o:List Nat)(i c:Nat):Prop:=o.length=by_+i/\Dig o/\c<B/\nv o+B^(by_+i)*c=B^by_*(nv (a.take i)*v)
theorem a5h.start(a:List Nat)(v b:Nat):a5h a v b (List.replicate b 0) 0 0:=⟨by simp,Dig.zeros _,a2B,by simp[nv,b0A]⟩
theorem a5h.step{a o:List Nat}{v b i c x:Nat}(h:a5h a v b o i c)(hx:a.getD i 0=x)(p:Dig a)(u:v<4294967296):a5h a v b (o++[(x*v+c)%4294967296]) (i+1) ((x*v+c)/4294967296)/\x*v+c<18446744073709551616:=by
 obtain⟨g,m,n,s⟩:=h;have f:=p.getD i;rw[hx,a1r]at f;rw[a1r]at n;have t:x*v<=4294967295*4294967295:=Nat.mul_le_mul (by omega) (by omega);have d:x*v+c<18446744073709551616:=by omega
 refine⟨⟨by simp[g];omega,m.append (Dig.cons (by rw[a1r];exact Nat.mod_lt _ (by decide)) Dig.nil),by rw[a1r];omega,?_⟩,d⟩;rw[a2a,g,a1o,hx,<-Nat.add_assoc,Nat.pow_succ];have e:=Nat.div_add_mod (x*v+c) 4294967296;generalize (x*v+c)/4294967296=q at*;generalize (x*v+c)%4294967296=r at*;have j:B^(b+i)*(4294967296*q+r)=B^(b+i)*(x*v+c):=by rw[e]
 rw[Nat.mul_add,Nat.mul_add]at j;have k:B^(b+i)*B*q=B^(b+i)*(4294967296*q):=by rw[a1r,Nat.mul_assoc]
 have l:B^b*((nv (a.take i)+B^i*x)*v)=B^b*(nv (a.take i)*v)+B^(b+i)*(x*v):=by
  rw[Nat.add_mul,Nat.mul_add,Nat.pow_add,Nat.mul_assoc (B^i),<-Nat.mul_assoc (B^b) (B^i)]
 rw[k,l];omega
theorem a5h.done{a o:List Nat}{v b c:Nat}(h:a5h a v b o (a.length+1) c)(k:Dig a)(m:v<4294967296):Dig o/\nv o=nv a*v*B^b:=by
 obtain⟨p,i,q,d⟩:=h;rw[List.take_of_length_le (by omega)]at d;have j:=a4X k;have l:c=0:=by
  by_cases g:c=0
  ·exact g
  ·have n:B^(b+(a.length+1))*1<=B^(b+(a.length+1))*c:=Nat.mul_le_mul_left _ (by omega)
   have e:nv a*v<B^(a.length+1):=by
    rw[Nat.pow_succ];exact Nat.lt_of_le_of_lt (Nat.mul_le_mul_left _ (Nat.le_of_lt (show v<B by rw[a1r];exact m))) (Nat.mul_lt_mul_of_pos_right j a2B)
   have f:B^b*(nv a*v)<B^b*B^(a.length+1):=Nat.mul_lt_mul_of_pos_left e (Nat.pow_pos a2B);rw[<-Nat.pow_add]at f;omega
 subst l;exact⟨i,by rw[Nat.mul_zero,Nat.add_zero]at d;rw[d,Nat.mul_comm]⟩
theorem b4V{l:List Nat}(hd:Dig l)(k:Nat):l.getD k 0=nv l/B^k%B:=by
 by_cases a:k<l.length
 ·have b:=a2n l k (by omega)
  have c:=a1V hd k;have d:nv (l.drop k)=l[k]+B*nv (l.drop (k+1)):=a5I a;have e:0<B^k:=Nat.pow_pos a2B;rw[a0A a,b,Nat.add_mul_div_left _ _ e,Nat.div_eq_of_lt c,Nat.zero_add,d,Nat.add_mul_mod_self_left,Nat.mod_eq_of_lt (hd.get k a)]
 ·have b:=a4X hd
  have c:B^l.length<=B^k:=Nat.pow_le_pow_right a2B (by omega);rw[a4q (by omega),Nat.div_eq_of_lt (by omega)];simp
theorem b9K{l:List Nat}{n:Nat}(h:a0K l n)(i:Nat):l.getD (i/32) 0/2^(i%32)%2=n/2^i%2:=by
 rw[b4V h.1,h.2.2];have e:i=32*(i/32)+i%32:=by omega
 have b:i%32<32:=Nat.mod_lt _ (by decide);generalize i/32=p at*;generalize i%32=s at*;subst e;rw[b4L,Nat.pow_add,<-Nat.div_div_eq_div_mul];generalize n/2^(32*p)=y;have a:B=2^s*(2*2^(31 - s)):=by
  rw[a1r,<-Nat.pow_succ',<-Nat.pow_add,show s+(31 - s).succ=32 by omega]
 rw[a,Nat.mod_mul_right_div_self];rw[Nat.mod_mul_right_mod]
def a3h(a b q r i:Nat):Prop:=q=a/2^i/b/\r=a/2^i%b
theorem a3h.start{a b k:Nat}(h:a<2^k):a3h a b 0 0 k:=by
 unfold a3h;rw[Nat.div_eq_of_lt h];exact⟨by simp,by simp⟩
theorem a3h.step{a b q r i t:Nat}(h:a3h a b q r (i+1))(f:0<b)(o:a/2^i%2=t):r<b/\(2*r+t<b->a3h a b (2*q) (2*r+t) i)/\(b<=2*r+t->a3h a b (2*q+1) (2*r+t - b) i):=by
 obtain⟨j,d⟩:=h;rw[Nat.pow_succ,<-Nat.div_div_eq_div_mul]at j d;have e:=Nat.div_add_mod (a/2^i) 2;rw[o]at e;have k:=Nat.div_add_mod (a/2^i/2) b;rw[<-j,<-d]at k;have n:r<b:=by rw[d];exact Nat.mod_lt _ f
 unfold a3h;generalize a/2^i=y at*;generalize y/2=z at*;have g:y=b*(2*q)+(2*r+t):=by
  rw[Nat.mul_left_comm];omega
 refine⟨n,fun c=>?_,fun m=>?_⟩
 ·rw[g]
  exact⟨by rw[Nat.mul_add_div f,Nat.div_eq_of_lt c,Nat.add_zero],by rw[Nat.mul_add_mod,Nat.mod_eq_of_lt c]⟩
 ·have c:2*r+t - b<b:=by omega
  have l:y=b*(2*q+1)+(2*r+t - b):=by rw[g,Nat.mul_add,Nat.mul_one];omega
  rw[l];exact⟨by rw[Nat.mul_add_div f,Nat.div_eq_of_lt c,Nat.add_zero],by rw[Nat.mul_add_mod,Nat.mod_eq_of_lt c]⟩
theorem a3h.done{a b q r:Nat}(h:a3h a b q r 0):q=a/b/\r=a%b:=by
 unfold a3h at h;simpa using h
end Go.Lim
namespace Go.Rep
open Go.RowKit Go.Lim
def HX(X:Nat->Bool)(w:World):Prop:=∀k,X k=true->k<w.heap.size
theorem HX.ext{X Y:Nat->Bool}{w a:World}(h:HX X w)(b:ExtX Y w a):HX X a:=fun k c=>Nat.lt_of_lt_of_le (h k c) b.size
theorem HX.none(w:World):HX noY w:=fun k a=>by simp[noY]at a
def NV(h:Mem)(u:Value)(n:Nat):Prop:=∃ao c l,u= .slice ao l.length c/\l.length<=c/\Dig l/\l.length<=1099511627776/\Sl (a0c .u32) 1 h ao l/\val l=n
def NC(h:Mem)(u:Value)(n:Nat):Prop:=∃ao c l,u= .slice ao l.length c/\l.length<=c/\a0K l n/\Sl (a0c .u32) 1 h ao l
theorem NV.mono:a3R NV:=by rintro h i u x g ⟨ao,c,l,rfl,a,b,d,e,f⟩;exact⟨ao,c,l,rfl,a,b,d,e.mono (a0c.mono _) g,f⟩
theorem NC.mono:a3R NC:=by rintro h f u x e ⟨ao,c,l,rfl,a,b,d⟩;exact⟨ao,c,l,rfl,a,b,d.mono (a0c.mono _) e⟩
theorem NC.nv{h:Mem}{u:Value}{n:Nat}(f:NC h u n)(e:lg n<=1099511627776):NV h u n:=by
 obtain⟨ao,c,l,rfl,b,a,d⟩:=f;exact⟨ao,c,l,rfl,b,a.1,by rw[a.len];exact e,d,a.val⟩
theorem NC.zero(h:Mem):NC h (.slice none 0 0) 0:=⟨none,0,[],rfl,Nat.le_refl _,a0K.nil,Sl.nil _ _ _ _⟩
theorem NC.one{h:Mem}{ao:Option Addr}{c:Nat}(a:1<=c)(b:Sl (a0c .u32) 1 h ao [1]):NC h (.slice ao 1 c) 1:=⟨ao,c,[1],rfl,a,b0C (by omega) (by omega),b⟩
theorem NV.lg{h:Mem}{u:Value}{n:Nat}(d:NV h u n):lg n<=1099511627776:=by
 obtain⟨ao,c,l,rfl,e,a,b,f,rfl⟩:=d;exact Nat.le_trans (b2v l a) b
def a1Y{α:Type}(X:Nat->Bool)(w:World)(R:Mem->Value->α->Prop)(x:α)(e:Ending)(w':World):Prop:=Ext w w'/\∃u,e= .returned u/\R (mk X w') u x
theorem mkx{X:Nat->Bool}{w a:World}{α:Type}{R:Mem->Value->α->Prop}(c:a3R R){u:Value}{x:α}(h:R (mk X w) u x)(b:Ext w a):R (mk X a) u x:=c _ _ _ _ (a0m b) h
end Go.Rep
namespace Go.Proofs.YtgbbpgflopajaaaGreat
open Go.RowKit Go.Rep Go.Lim
theorem a4B.r{X:Nat->Bool}{w:World}{n:Nat}{e:Ending}{a:World}(h:a4B X w n e a):a1Y X w NC n e a:=by
 obtain⟨g,ao,c,l,rfl,b,d,f⟩:=h;exact⟨g,_,rfl,ao,c,l,rfl,b,d,f⟩
section
variable {X:Nat->Bool} {w:World} {u v:Value} {a b:Nat}
theorem c1d(n:HX X w)(o:NV (mk X w) u a)(p:NV (mk X w) v b):Calls Tryz.prog 187 #[u,v] w (a1Y X w NC (a+b)):=by
 obtain⟨ao,c,l,rfl,f,g,i,j,k⟩:=o;obtain⟨e,d,m,rfl,q,s,t,x,y⟩:=p;exact(b7E X ao e l m c d w j x g s i t f q n a b k y).mono fun _ _ h=>h.r
theorem b6P(n:HX X w)(o:NV (mk X w) u a)(p:NV (mk X w) v b):Calls Tryz.prog 167 #[u,v] w (a1Y X w NC (a*b)):=by
 obtain⟨ao,c,l,rfl,f,g,i,j,k⟩:=o;obtain⟨e,d,m,rfl,q,s,t,x,y⟩:=p;exact(b7F X ao e l m c d w j x g s i t f q n a b k y).mono fun _ _ h=>h.r
theorem c1J(n:HX X w)(o:NV (mk X w) u a)(p:NV (mk X w) v b):Calls Tryz.prog 239 #[u,v] w (a1Y X w NC (Nat.gcd a b)):=by
 obtain⟨ao,c,l,rfl,f,g,i,j,k⟩:=o;obtain⟨e,d,m,rfl,q,s,t,x,y⟩:=p;exact(b7W X ao e l m c d w j x g s i t f q n a b k y).mono fun _ _ h=>h.r
theorem c0V(k:NV (mk X w) u a)(n:NV (mk X w) v b):Calls Tryz.prog 189 #[u,v] w (a4C w (a3l a b)):=by
 obtain⟨ao,c,l,rfl,f,g,h,i,j⟩:=k;obtain⟨e,d,m,rfl,o,p,q,r,s⟩:=n;exact a3F X ao e l m c d w i r g p h q f o a b j s
def c1K(X:Nat->Bool)(w:World)(q r:Nat)(e:Ending)(w':World):Prop:=Ext w w'/\∃u v,e= .returned (.tuple #[u,v, .bool true])/\NC (mk X w') u q/\NC (mk X w') v r
theorem c1L(s:HX X w)(x:NV (mk X w) u a)(y:NV (mk X w) v b)(t:0<b):Calls Tryz.prog 240 #[u,v] w (c1K X w (a/b) (a%b)):=by
 obtain⟨ao,c,l,rfl,k,n,o,p,q⟩:=x;obtain⟨h,d,m,rfl,z,A,B,C,D⟩:=y;refine(a9H X ao h l m c d w p C n A o B k z s a b q D t).mono ?_;rintro e M ⟨r,f,i,E,g,j,F,rfl,G,H,I,J,K,L⟩;exact⟨r,_,_,rfl,⟨f,i,E,rfl,G,H,I⟩,⟨g,j,F,rfl,J,K,L⟩⟩
def c1M(X:Nat->Bool)(w:World)(d:Nat)(b:Bool)(e:Ending)(w':World):Prop:=Ext w w'/\∃u,e= .returned (.tuple #[u, .bool b])/\NC (mk X w') u d
theorem c1N(q:HX X w)(r:NV (mk X w) u a)(s:NV (mk X w) v b):Calls Tryz.prog 238 #[u,v] w (c1M X w (a - b) (decide (b<=a))):=by
 obtain⟨ao,c,l,rfl,i,j,k,n,o⟩:=r;obtain⟨g,d,m,rfl,t,x,y,z,A⟩:=s;refine(b7P X ao g l m c d w n z j x k y i t q a b o A).mono ?_;rintro e F ⟨p,f,h,B,rfl,C,D,E⟩;exact⟨p,_,rfl,f,h,B,rfl,C,D,E⟩
theorem b9L(b:HX X w)(c:a<18446744073709551616):Calls Tryz.prog 234 #[.int .u64 a] w (a1Y X w NC a):=
 (a3V X a w c b).mono fun _ _ h=>h.r
theorem b4W(k:HX X w)(n:NV (mk X w) u a)(o:NV (mk X w) v b):Calls Tryz.prog 173 #[u,v] w (a1Y X w NC (a+b)):=by
 obtain⟨ao,c,l,rfl,x,f,g,i,j⟩:=n;obtain⟨e,d,m,rfl,y,p,q,s,t⟩:=o;exact(b4U X ao e l m c d w i s f p g q k a b j t).mono fun _ _ h=>h.r
theorem a4b(e:HX X w)(f:NV (mk X w) u a):Calls Tryz.prog 177 #[u] w (a1Y X w NC a):=by
 obtain⟨ao,c,l,rfl,g,b,i,d,rfl⟩:=f;exact(a6F X ao l c w d b (by omega) e).mono fun _ _ h=>h.r
theorem b6Q(b:HX X w)(c:a<18446744073709551616):Calls Tryz.prog 174 #[.int .u64 a] w (a1Y X w NC a):=
 (a7Z X a w c b).mono fun _ _ h=>h.r
end
end Go.Proofs.YtgbbpgflopajaaaGreat
namespace Go.Proofs.YtgbbpgflopajaaaGreat
open Go.RowKit Go.Rep Go.Lim
theorem b7X(X:Nat->Bool)(w:World)(u v:Value)(r nb:Nat)(Z:HX X w)(hu:NV (mk X w) u r)(hv:NV (mk X w) v nb):Calls Tryz.prog 215 #[u,v] w (c1M X w (r - nb) (decide (nb<=r))):=by
 have L:=hu.lg;have M:=hv.lg;go_enter Tryz.func215,Tryz.ntmps215
 go_wp2_with fail
 refine(a4b Z hu).mono ?_;rintro e w1 ⟨l,u1,rfl,T⟩;go_wp2_with fail
 refine(a4b (Z.ext l) (mkx NV.mono hv l)).mono ?_;rintro e w2 ⟨j,v1,rfl,b6⟩;obtain⟨ao,ca,a,rfl,b8,d,F⟩:=mkx NC.mono T j;obtain⟨bo,cb,b,rfl,b9,f,G⟩:=b6;have J:=Z.ext (l.trans j);have a5:a.length<=1099511627776:=by rw[d.len];exact L
 have b7:b.length<=1099511627776:=by rw[f.len];exact M
 have A:=l.trans j;have n:=hid d.len;have p:=hid f.len;clear hu hv T l j Z L M;go_wp2_with fail
 refine(a8a X ao bo a b ca cb w2 F G a5 r nb d f).mono ?_;rintro e w3 ⟨m,rfl⟩;have a2:=J.ext m;have B:=A.trans m;by_cases q:r<nb
 ·have hc:a3l r nb<0:=(a3U _ _).2 q
  have hd:Hid (decide (nb<=r)=false):=hid (decide_eq_false (by omega));have hz:Hid (r - nb=0):=hid (by omega);clear q;go_wp2_with fail
  go_ret2
  exact⟨B, .slice none 0 0,by rw[hd.out];rfl,by rw[hz.out];exact NC.zero _⟩
 ·have hc:¬a3l r nb<0:=fun h=>q ((a3U _ _).1 h)
  have hd:Hid (decide (nb<=r)=true):=hid (decide_eq_true (by omega));have a4:b.length<=a.length:=by rw[n.out,p.out];exact a1n (by omega)
  have b1:Hid (nv b<=nv a):=hid (by rw[d.2.2,f.2.2];omega);have S:Hid (nv a - nv b=r - nb):=hid (by rw[d.2.2,f.2.2]);have D:=d.1;have E:=f.1;have O:=F.mono (a0c.mono _) (a0m m);have Q:=G.mono (a0c.mono _) (a0m m);clear q d f m A J F G n p;go_wp2_with fail
  go_loopw [6,7,8] (fun v c i wr=>∃(k:Nat) (o:List Nat) (s:Nat) (oo:Option Addr) (W:Nat),i= .int .i64 k/\c= .int .u64 s/\v= .slice oo o.length W/\k<=a.length/\s<=1/\Hid (a3G a b o k s)/\o.length<=k/\OL (a0c .u32) 1 X w3.heap.size 131 wr oo W o/\Ext w3 wr) (fun _ _ i _=>a.length - (intOf i).toNat)
  case atStart=>exact⟨0,[],0,none,0,rfl,rfl,rfl,by omega,by omega,hid (a3G.start a b),by simp,OL.nil _ _ _ _ _ _,ExtX.refl _⟩
  case round=>
   obtain⟨k,o,s,oo,W,rfl,rfl,rfl,hk,a7,g,c1,Y,H⟩:=hrel;have a3:∀k,X k=true->k<wr.heap.size:=fun k hk=>Nat.lt_of_lt_of_le (a2 k hk) H.size;have C:w3.heap.size<=wr.heap.size:=H.size;by_cases q:k<a.length
   ·have N:=O.mono (a0c.mono _) (a0m H)
    have P:=Q.mono (a0c.mono _) (a0m H);have hx:=D.getD k;have hy:=E.getD k;rw[a1r]at hx hy;obtain⟨x,t⟩:∃x,a.getD k 0=x:=⟨_,rfl⟩;obtain⟨y,z⟩:∃y,b.getD k 0=y:=⟨_,rfl⟩;rw[t]at hx;rw[z]at hy;have b5:=hid (g.out.step t z D E);have R:=hid (b2J hx hy a7);have K:a6B x y s<=1:=by unfold a6B;split<;>omega
    have U:=hid t;have V:=hid z;clear t z g;go_wp2_with fail
    refine(a4a X ao a ca k _ N D (by omega) x U.out).mono ?_;rintro e w' ⟨rfl,rfl⟩;go_wp2_with fail
    refine(a4a X bo b cb k _ P E (by omega) y V.out).mono ?_;rintro e w' ⟨rfl,rfl⟩;go_wp2_with (at_builtin;refine a2S a0U rfl (a0c.elem .u32) C a3 rfl rfl Y (.int .u32 ((a4M x y s:Nat):Int)) (a4M x y s) (by rw[<-R.out.1];simp[Value.cells];omega) rfl (by omega) (by omega) ?_;intro a0 I w5 a1 j _)
    have a6:Hid ((1:Int) - ((x:Int)+4294967296 - (y:Int) - (s:Int))/4294967296=((a6B x y s:Nat):Int)):=hid (by have:=R.out.2;omega);go_roundw
    case rel=>exact⟨k+1,_,a6B x y s,a0,I,by go_num,by rw[a6.out],by simp,by omega,K,b5,by simp;omega,a1,H.own Y (Nat.le_refl _) j⟩
    case measure=>simp[intOf];omega
   ·have a9:k=a.length:=by omega
    subst a9;have a8:=hid (g.out.done a4 b1.out);have b2:=g.out.2.1;have b4:=Y.sl (a0c.elem .u32);have b0:=Y.lenCap;go_wp2_with fail
    refine(a5g X _ _ _ _ b4 b2 (by omega) b0).mono ?_;rintro e w' ⟨rfl,l',rfl,c0,hc,b3⟩;go_wp2_with fail
    go_ret2
    rw[a8.out,S.out]at hc;exact⟨B.trans H,_,by rw[hd.out];rfl,oo,W,l',rfl,by omega,hc,b3⟩
theorem b2K(X:Nat->Bool)(w:World)(u:Value)(n v b:Nat)(W:HX X w)(hu:NC (mk X w) u n)(hn:lg n<=549755813888)(hb:b<=549755813888)(hv:v<4294967296):Calls Tryz.prog 275 #[u, .int .u32 v, .int .i64 b] w (a1Y X w NC (n*v*B^b)):=by
 obtain⟨ao,ca,a,rfl,a1,d,S⟩:=hu;have a0:a.length<=549755813888:=by rw[d.len];exact hn
 have j:=d.1;have O:=hid d.2.2;clear d hn;go_enter Tryz.func275,Tryz.ntmps275
 go_wp2_with (at_make;refine a2u a0U (a0c.elem .u32) 0 (fun _=>rfl) X W w.heap.size (Nat.le_refl _) b rfl rfl (by omega) (by omega) (by omega) ?_;intro G w1 p z)
 go_loopw [7,8,9] (fun v_ c i wr=>∃(k:Nat) (o:List Nat) (r:Nat) (G:Option Addr) (F:Nat),i= .int .i64 k/\c= .int .u64 r/\v_= .slice G o.length F/\k<=a.length+1/\r<4294967296/\Hid (a5h a v b o k r)/\o.length<=b+k/\OL (a0c .u32) 1 X w.heap.size 131 wr G F o/\Ext w wr) (fun _ _ i _=>a.length+1 - (intOf i).toNat)
 case atStart=>exact⟨0,_,0,G,b,rfl,rfl,by simp,by omega,by omega,hid (a5h.start a v b),by simp,p,z⟩
 case round=>
  clear p z;obtain⟨k,o,r,V,F,rfl,rfl,rfl,Z,a2,f,a5,p,y⟩:=hrel;have K:∀k,X k=true->k<wr.heap.size:=fun k Z=>Nat.lt_of_lt_of_le (W k Z) y.size;have q:w.heap.size<=wr.heap.size:=y.size;by_cases a4:k<=a.length
  ·have D:=S.mono (a0c.mono _) (a0m y)
   have hx:=j.getD k;rw[a1r]at hx;obtain⟨x,l⟩:∃x,a.getD k 0=x:=⟨_,rfl⟩;rw[l]at hx;obtain⟨h,m⟩:=f.out.step l j hv;have E:=hid l;obtain⟨t,U⟩:∃t,x*v+r=t:=⟨_,rfl⟩;rw[U]at h m;have T:=hid h;have a6:IntKind.u64.wrap ((x:Int)*(v:Int))=(x:Int)*(v:Int):=IntWalk.u64_in _ (by rw[<-Int.natCast_mul];omega);have a7:IntKind.u64.wrap ((x:Int)*(v:Int)+(r:Int))=(t:Int):=by
    rw[<-U,Int.natCast_add,Int.natCast_mul];exact IntWalk.u64_in _ (by rw[<-Int.natCast_mul];omega)
   have A:t/4294967296<4294967296:=by omega
   have C:decide ((k:Int)<=(a.length:Int))=true:=decide_eq_true (by omega);clear l f h U m;go_wp2_with fail
   refine(a4a X ao a ca k _ D j (by omega) x E.out).mono ?_;rintro e w' ⟨rfl,rfl⟩;go_wp2_with (at_builtin;refine a2S a0U rfl (a0c.elem .u32) q K rfl rfl p (.int .u32 ((t%4294967296:Nat):Int)) (t%4294967296) (by simp[Value.cells]) rfl (by omega) (by omega) ?_;intro H s w5 J I _)
   go_roundw
   case rel=>exact⟨k+1,_,t/4294967296,H,s,by go_num,by rw[Int.natCast_ediv];rfl,by simp,by omega,A,T,by simp;omega,J,y.own p (Nat.le_refl _) I⟩
   case measure=>simp[intOf];omega
  ·have M:k=a.length+1:=by omega
   subst M;have g:=f.out.done j hv;have L:=hid g.2;have P:=g.1;have R:=p.sl (a0c.elem .u32);have N:=p.lenCap;have C:decide (((a.length+1:Nat):Int)<=(a.length:Int))=false:=decide_eq_false (by omega);clear g f;go_wp2_with fail
   refine(a5g X _ _ _ _ R P (by omega) N).mono ?_;rintro e w' ⟨rfl,l',rfl,a3,Y,Q⟩;go_wp2_with fail
   go_ret
   rw[L.out,O.out]at Y;exact⟨y,_,rfl,V,F,l',rfl,by omega,Y,Q⟩
theorem b4X(X:Nat->Bool)(w:World)(u v:Value)(a nb:Nat)(E:HX X w)(Q:NV (mk X w) u a)(R:NV (mk X w) v nb)(O:lg a<=274877906944)(P:lg nb<=274877906944):Calls Tryz.prog 216 #[u,v] w (a1Y X w NC (a*nb)):=by
 go_enter Tryz.func216,Tryz.ntmps216
 go_wp2_with fail
 refine(a4b E Q).mono ?_;rintro e w1 ⟨d,Y,rfl,D⟩;go_wp2_with fail
 refine(a4b (E.ext d) (mkx NV.mono R d)).mono ?_;rintro e Z ⟨f,v1,rfl,M⟩;have L:=mkx NC.mono D f;obtain⟨bo,cb,b,rfl,U,c,z⟩:=M;have G:=E.ext (d.trans f);have T:b.length<=274877906944:=by rw[c.len];exact P
 have q:=d.trans f;have s:=c.1;have H:=hid c.2.2;have V:=z.hd;have h:=hid O;clear Q R D d f E P c O;go_wp2_with fail
 go_loopw [5,6] (fun o i wr=>∃(k:Nat),i= .int .i64 k/\k<=b.length/\NC (mk X wr) o (a*nv (b.take k))/\Ext Z wr) (fun _ i _=>b.length - (intOf i).toNat)
 case atStart=>exact⟨0,rfl,by omega,by simpa[nv]using NC.zero _,ExtX.refl _⟩
 case round=>
  obtain⟨k,rfl,hk,I,p⟩:=hrel;have r:=G.ext p;by_cases m:k<b.length
  ·have l:=(z.mono (a0c.mono _) (a0m p)).nat k m
   have hx:=s.get k m;obtain⟨x,n⟩:∃x,b[k]=x:=⟨_,rfl⟩;have J:Hid (a*nv (b.take k)+a*x*B^k=a*nv (b.take (k+1))):=hid (by rw[a0G b k m,n,Nat.mul_add,Nat.mul_assoc a x,Nat.mul_comm x]);rw[n]at l hx;rw[a1r]at hx;have K:Hid (lg (a*nv (b.take k))<=1099511627776):=hid (by
    have N:=a1c a (nv (b.take k));have S:lg (nv (b.take k))<=k:=a3b.2 (a1V s k);have:=h.out;omega)
   have A:Hid (lg (a*x*B^k)<=1099511627776):=hid (by
    have N:a*x*B^k<B^(lg a+1+k):=by
     rw[Nat.pow_add,Nat.pow_succ];refine Nat.mul_lt_mul_of_pos_right ?_ (Nat.pow_pos a2B);refine Nat.lt_of_le_of_lt (Nat.mul_le_mul_left _ (show x<=B by rw[a1r];omega)) (Nat.mul_lt_mul_of_pos_right (a3b.1 (Nat.le_refl _)) a2B)
    have S:=a3b.2 N;have:=h.out;omega)
   clear n;go_wp2_with (with_reducible refine a0s a0U (by omega) (by assumption) ?_)
   refine(b2K X wr Y a x k r (mkx NC.mono L p) (by have:=h.out;omega) (by omega) hx).mono ?_;rintro e w4 ⟨j,t,rfl,W⟩;go_wp2_with fail
   refine(b4W (r.ext j) (mkx NV.mono (I.nv K.out) j) (W.nv A.out)).mono ?_;rintro e w5 ⟨F,t2,rfl,C⟩;rw[J.out]at C;go_wp2_with fail
   go_roundw
   case rel=>exact⟨k+1,by go_num,by omega,C,p.trans (j.trans F)⟩
   case measure=>simp[intOf];omega
  ·have y:k=b.length:=by omega
   have g:a*nv (b.take k)=a*nb:=by rw[y,List.take_length,H.out]
   rw[g]at I;clear g y;go_wp2_with fail
   go_ret
   exact⟨q.trans p,_,rfl,I⟩
end Go.Proofs.YtgbbpgflopajaaaGreat
namespace Go.Rep
open Go.RowKit Go.Lim
theorem NC.lit{X:Nat->Bool}{w:World}(d:HX X w)(x:Nat)(t:TypeId)(a:0<x)(b:x<4294967296):NC (mk X (w.alloc (.cells #[.int .u32 (x:Int)] t))) (.slice (some ⟨w.heap.size,0,none⟩) 1 1) x:=by
 have c:OL (a0c .u32) 1 X w.heap.size t (w.alloc (.cells #[.int .u32 (x:Int)] t)) (some ⟨w.heap.size,0,none⟩) 1 [x]:=
  OL.lit (a0c.elem .u32) d (Nat.le_refl _) [.int .u32 (x:Int)] [x] _ (by simp[a0j,Value.cells]) rfl (fun i hi e=>by
   have:i=0:=by simp at hi;omega
   subst this;rfl) (by simp)
 exact⟨_,1,[x],rfl,Nat.le_refl _,b0C a b,c.sl (a0c.elem _)⟩
end Go.Rep
namespace Go.Proofs.YtgbbpgflopajaaaGreat
open Go.RowKit Go.Rep Go.Lim
theorem c2b(X:Nat->Bool)(w:World)(u:Value)(n i:Nat)(D:NC (mk X w) u n)(hi:i<32*lg n)(C:lg n<=1099511627776):Calls Tryz.prog 299 #[u, .int .i64 i] w fun e E=>w=E/\e= .returned (.int .u32 (n/2^i%2:Nat)):=by
 obtain⟨ao,F,a,rfl,A,b,d⟩:=D;have h:i/32<a.length:=by rw[b.len];omega
 have z:a.length<=1099511627776:=by rw[b.len];exact C
 have c:=d.nat (i/32) h;have f:=b9K b i;rw[a0A h]at f;have hx:=b.1.get (i/32) h;obtain⟨x,g⟩:∃x,a[i/32]=x:=⟨_,rfl⟩;rw[g]at c f hx;rw[a1r]at hx;have G:=d.hd;have k:=hid f;have o:Hid (x<4294967296):=hid hx;have B:(i:Int)<=35184372088832:=by omega
 have v:(i:Int)/32=((i/32:Nat):Int):=by omega
 have y:(i:Int)%32=((i%32:Nat):Int):=by omega
 have j:Hid (i%32<32):=hid (Nat.mod_lt _ (by decide));obtain⟨p,r⟩:∃p,i/32=p:=⟨_,rfl⟩;obtain⟨q,hq⟩:∃q,i%32=q:=⟨_,rfl⟩;rw[r]at v h c;rw[hq]at y j;have s:q<32:=j.out;have l:Hid (x/2^q%2=n/2^i%2):=hid (by rw[<-hq];exact f);clear g f r hq k j b hx d;go_enter Tryz.func299,Tryz.ntmps299
 go_wp2_with (with_reducible refine a0s a0U (by omega) (by assumption) ?_)
 go_ret
 have m:x/2^q<4294967296:=Nat.lt_of_le_of_lt (Nat.div_le_self _ _) o.out;have t:=a2L (x/2^q) 1 m (by omega);rw[Nat.and_one_is_mod,l.out]at t;exact⟨rfl,a0O (by simpa using t)⟩
theorem a9I(X:Nat->Bool)(w:World)(u:Value)(n t:Nat)(m:HX X w)(p:NC (mk X w) u n)(s:lg n<=549755813887)(v:t<=1):Calls Tryz.prog 298 #[u, .int .u32 t] w (a1Y X w NC (2*n+t)):=by
 have k:Hid (lg (n*2*B^0)<=1099511627776):=hid (by
  have q:=a1c n 2;have r:lg 2=1:=a1U (by omega) (by omega);rw[Nat.pow_zero,Nat.mul_one];omega)
 have j:Hid (lg 1<=1099511627776):=hid (by rw[a3P];decide);have f:Hid (n*2*B^0=2*n):=hid (by rw[Nat.pow_zero,Nat.mul_one,Nat.mul_comm]);go_enter Tryz.func298,Tryz.ntmps298
 go_wp2_with fail
 refine(b2K X w u n 2 0 m p (by omega) (by omega) (by omega)).mono ?_;rintro e l ⟨a,y,rfl,b⟩;have d:=m.ext a;rcases(by omega:t=0\/t=1)with rfl|rfl
 ·rw[f.out]at b
  go_wp2_with fail
  go_ret
  exact⟨a,_,rfl,b⟩
 ·go_wp2_with fail
  have o:=NC.lit d 1 131 (by omega) (by omega);have h:=a.alloc (.cells #[.int .u32 ((1:Nat):Int)] 131);have c:Ext l (l.alloc (.cells #[.int .u32 ((1:Nat):Int)] 131)):=(ExtX.refl l).alloc _;refine(b4W (d.ext c) (mkx NV.mono (b.nv k.out) c) (o.nv j.out)).mono ?_;rintro e z ⟨i,x,rfl,g⟩;rw[f.out]at g;go_wp2_with fail
  go_ret
  exact⟨h.trans i,_,rfl,g⟩
theorem b9M(X:Nat->Bool)(w:World)(u v:Value)(na nb:Nat)(hX:HX X w)(hu:NV (mk X w) u na)(hv:NV (mk X w) v nb)(h1:lg na<=274877906944)(h2:lg nb<=274877906944)(h0:0<nb):Calls Tryz.prog 245 #[u,v] w (c1K X w (na/nb) (na%nb)):=by
 go_enter Tryz.func245,Tryz.ntmps245
 go_wp2_with fail
 refine(a4b hX hu).mono ?_;rintro e w1 ⟨hE1,u1,rfl,hu1⟩;go_wp2_with fail
 refine(a4b (hX.ext hE1) (mkx NV.mono hv hE1)).mono ?_;rintro e w2 ⟨hE2,v1,rfl,hv1⟩;have hu2:=mkx NC.mono hu1 hE2;obtain⟨ao,ca,a,rfl,hca,hcan,hsa⟩:=id hu2;obtain⟨bo,cb,b,rfl,hcb,hcbn,hsb⟩:=id hv1;have hX2:=hX.ext (hE1.trans hE2);have hal:a.length<=274877906944:=by rw[hcan.len];exact h1
 have hall:=hid hcan.len;have hE12:=hE1.trans hE2;have hbl:¬b.length=0:=by have:=a1q hcbn;omega
 have hbI:(0:Int)<(b.length:Int):=by omega
 have hbz:((b.length:Int)==0)=false:=a2H (by omega);have hst:Hid (a3h na nb 0 0 (32*a.length)):=hid (a3h.start (by rw[<-b4L,hcan.len];exact a3b.1 (Nat.le_refl _)));have h1':=hid h1;have h2':=hid h2;have h0':=hid h0;clear hu hv hu1 hE1 hE2 hX h1 h2 h0 hcan hcbn hsa hsb hbl hca hcb;go_wp2_with fail
 go_loopw [7,8,9] (fun q r i wr=>∃(k Q R:Nat) (x:Int),i= .int .i64 x/\x=(k:Int) - 1/\k<=32*a.length/\Hid (a3h na nb Q R k)/\NC (mk X wr) q Q/\NC (mk X wr) r R/\Ext w2 wr) (fun _ _ i _=>(intOf i+1).toNat)
 case atStart=>exact⟨32*a.length,0,0,_,rfl,by omega,by omega,hst,NC.zero _,NC.zero _,ExtX.refl _⟩
 case round=>
  obtain⟨k,Q,R,x,rfl,hx,hk,hinv,hq,hr,hE⟩:=hrel;have hX3:=hX2.ext hE;cases k with
  |zero=>
   obtain rfl:x= -1:=by omega
   obtain⟨rfl,rfl⟩:=hinv.out.done;clear hinv hx hst;go_wp2_with fail
   go_ret3
   exact⟨hE12.trans hE,_,_,rfl,hq,hr⟩
  |succ i=>
   obtain rfl:x=(i:Int):=by omega
   have hi:i<32*lg na:=by rw[<-hall.out];omega
   obtain⟨t,ht⟩:∃t,na/2^i%2=t:=⟨_,rfl⟩;have ht1:t<=1:=by omega
   obtain⟨hR,hs1,hs2⟩:=hinv.out.step h0'.out ht;have hQb:Hid (lg Q<=274877906944):=hid (by
    have e1:Q<=na:=by rw[hinv.out.1];exact Nat.le_trans (Nat.div_le_self _ _) (Nat.div_le_self _ _)
    exact Nat.le_trans (a1n e1) h1'.out)
   have hRb:Hid (lg R<=274877906944):=hid (Nat.le_trans (a1n (Nat.le_of_lt hR)) h2'.out);have hRb2:Hid (lg (2*R+t)<=1099511627776):=hid (by
    have e1:=b0B (2*R) t;have e2:=a1c 2 R;have e3:lg 2=1:=a1U (by omega) (by omega);have e4:lg t<=1:=by have:=a1n ht1;rw[a3P]at this;exact this
    have:=hRb.out;omega)
   have hs1':=hid hs1;have hs2':=hid hs2;have hbit:=c2b X wr _ na i (mkx NC.mono hu2 hE) hi (by have:=h1'.out;omega);rw[ht]at hbit;clear hinv hR hs1 hs2 hst ht hi hx;go_wp2_with fail
   refine hbit.mono ?_;rintro e w' ⟨rfl,rfl⟩;go_wp2_with fail
   refine(a9I X wr _ R t hX3 hr (by have:=hRb.out;omega) ht1).mono ?_;rintro e w4 ⟨hE4,r1,rfl,hr1⟩;have hX4:=hX3.ext hE4;have hq4:=mkx NC.mono hq hE4;have hb4:=(mkx NC.mono hv1 (hE.trans hE4)).nv (by have:=h2'.out;omega);clear hbit;go_wp2_with fail
   refine(b7X X w4 r1 _ (2*R+t) nb hX4 (hr1.nv hRb2.out) hb4).mono ?_;rintro e w5 ⟨hE5,d,rfl,hd⟩;have hX5:=hX4.ext hE5;have hq5:=mkx NC.mono hq4 hE5;by_cases hge:nb<=2*R+t
   ·have hi2:=hid (hs2'.out hge)
    have hdt:decide (nb<=2*R+t)=true:=decide_eq_true hge;rw[hdt];clear hge hdt;go_wp2_with fail
    refine(a9I X w5 _ Q 1 hX5 hq5 (by have:=hQb.out;omega) (by omega)).mono ?_;rintro e w6 ⟨hE6,q1,rfl,hq1⟩;go_wp2_with fail
    go_roundw
    case rel=>exact⟨i,_,_,_,rfl,rfl,by omega,hi2,hq1,mkx NC.mono hd hE6,hE.trans (hE4.trans (hE5.trans hE6))⟩
    case measure=>simp[intOf]
   ·have hi2:=hid (hs1'.out (by omega))
    have hdt:decide (nb<=2*R+t)=false:=decide_eq_false hge;rw[hdt];clear hge hdt;go_wp2_with fail
    refine(a9I X w5 _ Q 0 hX5 hq5 (by have:=hQb.out;omega) (by omega)).mono ?_;rintro e w6 ⟨hE6,q1,rfl,hq1⟩;go_wp2_with fail
    go_roundw
    case rel=>exact⟨i,_,_,_,rfl,rfl,by omega,hi2,hq1,mkx NC.mono hr1 (hE5.trans hE6),hE.trans (hE4.trans (hE5.trans hE6))⟩
    case measure=>simp[intOf]
theorem b9N(X:Nat->Bool)(w:World)(u v:Value)(s nb:Nat)(K:HX X w)(hu:NV (mk X w) u s)(hv:NV (mk X w) v nb)(Z:lg s<=274877906944)(h2:lg nb<=274877906944):Calls Tryz.prog 244 #[u,v] w (a1Y X w NC (Nat.gcd s nb)):=by
 go_enter Tryz.func244,Tryz.ntmps244
 go_wp2_with fail
 refine(a4b K hu).mono ?_;rintro e w1 ⟨c,u1,rfl,I⟩;go_wp2_with fail
 refine(a4b (K.ext c) (mkx NV.mono hv c)).mono ?_;rintro e w2 ⟨g,v1,rfl,n⟩;have J:=mkx NC.mono I g;have O:=K.ext (c.trans g);have z:=c.trans g;have L:=hid Z;have M:=hid h2;clear hu hv I c g K Z h2;go_wp2_with fail
 go_loopw [0,1] (fun x y wr=>∃(p q:Nat) (t:Option Addr) (l o:Nat),y= .slice t l o/\NC (mk X wr) x p/\NC (mk X wr) (.slice t l o) q/\Hid (lg p<=274877906944)/\Hid (lg q<=274877906944)/\Hid (Nat.gcd p q=Nat.gcd s nb)/\Ext w2 wr) (fun _ y W=>c1c W y)
 case atStart=>
  obtain⟨t,o,b,rfl,_⟩:=id n;exact⟨s,nb,t,_,o,rfl,J,n,L,M,hid rfl,ExtX.refl _⟩
 case round=>
  obtain⟨p,q,t,l,o,rfl,hx,V,T,hq,R,N⟩:=hrel;have P:=O.ext N;obtain⟨a0,a1,b,B,Q,i,H⟩:=id V;simp only[Value.slice.injEq]at B;obtain⟨rfl,rfl,rfl⟩:=B;have C:=a1q i;have k:=a5K o H;rw[i.2.2]at k;have h:=hid k;clear k i H Q J n;by_cases hl:0<b.length
  ·have a:0<q:=by omega
   have S:(0:Int)<(b.length:Int):=by omega
   have U:Hid (Nat.gcd q (p%q)=Nat.gcd s nb):=hid (by rw[Nat.gcd_comm,<-Nat.gcd_rec,Nat.gcd_comm];exact R.out);have D:=hid (Nat.mod_lt p a);have F:=hid a;have hr:Hid (lg (p%q)<=274877906944):=hid (Nat.le_trans (a1n (Nat.le_of_lt D.out)) hq.out);clear C a;go_wp2_with fail
   refine(b9M X wr _ _ p q P (hx.nv (by have:=T.out;omega)) (V.nv (by have:=hq.out;omega)) T.out hq.out F.out).mono ?_;rintro e w4 ⟨A,d,r,rfl,hd,G⟩;obtain⟨ro,Y,rl,rfl,m⟩:=id G;have j:=a5K Y m.2.2;rw[m.2.1.2.2]at j;have E:=hid j;clear j m;go_wp2_with fail
   go_roundw
   case rel=>exact⟨q,p%q,ro,_,Y,rfl,mkx NC.mono V A,G,hq,hr,U,N.trans A⟩
   case measure=>rw[E.out,h.out];exact D.out
  ·have a:q=0:=by omega
   have f:=R.out;rw[a,Nat.gcd_zero_right]at f;have S:((b.length:Int))=0:=by omega
   rw[f]at hx;clear f a C R T h;go_wp2_with fail
   go_ret
   exact⟨z.trans N,_,rfl,hx⟩
theorem b4Y{α:Type}{a b:List α}(h:a.length=b.length)(c:∀i,(h1:i<a.length)->(h2:i<b.length)->a[i]=b[i]):a=b:=List.ext_getElem h c
theorem b1E{a b:List Nat}{i:Nat}(h:∀p,p<i->∀(c:p<a.length) (hq:p<b.length),a[p]=b[p])(g:∀(c:i<a.length) (hq:i<b.length),a[i]=b[i]):Hid (∀p,p<i+1->∀(c:p<a.length) (hq:p<b.length),a[p]=b[p]):=hid fun p c e f=>by
 by_cases d:p=i
 ·subst d;exact g e f
 ·exact h p (by omega) e f
theorem b6R{w wr:World}(h:Hid (∃m,wr=w.drewN m))(n:Nat):∃m,wr.drewN n=w.drewN m:=by
 obtain⟨m,rfl⟩:=h;exact⟨_,World.drewN_drewN _ _ _⟩
theorem b6S(X:Nat->Bool)(w:World)(u v:Value)(E nb:Nat)(Z:NC (mk X w) u E)(q:NC (mk X w) v nb)(C:lg E<=1099511627776):Calls Tryz.prog 80 #[u,v] w fun e w'=>e= .returned (.bool (decide (E=nb)))/\∃m,w'=w.drewN m:=by
 obtain⟨ao,N,a,rfl,G,d,t⟩:=Z;obtain⟨F,O,b,rfl,H,g,z⟩:=q;have V:a.length<=1099511627776:=by rw[d.len];exact C
 have I:=t.hd;have J:=z.hd;have n:Hid (decide (E=nb)=(a==b)):=hid (by
  rw[Bool.eq_iff_iff];simp only[decide_eq_true_eq,beq_iff_eq];constructor
  ·intro h;subst h;exact d.unique g
  ·intro h;subst h;exact d.2.2.symm.trans g.2.2)
 clear C G H d g;by_cases f:a.length=b.length
 ·have U:b.length<=a.length:=by omega
  have S:a.length<=b.length:=by omega
  have L:((a.length:Int) !=b.length)=false:=a8D (by omega);have o:=hid f;clear f;go_enter Tryz.func80,Tryz.ntmps80
  go_wp2_with fail
  go_loopw [5] (fun c wr=>∃i:Nat,c= .int .i64 i/\i<=a.length/\Hid (∀p,p<i->∀(D:p<a.length) (hq:p<b.length),a[p]=b[p])/\∃m,wr=w.drewN m) (fun c _=>a.length - (intOf c).toNat)
  case atStart=>exact⟨0,rfl,Nat.zero_le _,hid fun p D=>by omega,0,rfl⟩
  case round=>
   obtain⟨i,rfl,hi,s,l⟩:=hrel;have k:Hid (∃m,wr=w.drewN m):=hid l;have P:Ext w wr:=by
    obtain⟨m,Y⟩:=l;rw[Y];exact(ExtX.refl w).drewN m
   clear l;by_cases K:i<a.length
   ·have r:i<b.length:=by omega
    have Q:=(t.mono (a0c.mono _) (a0m P)).nat i K;have R:=(z.mono (a0c.mono _) (a0m P)).nat i r;have i1:∀W,(Instr.indexAt 34 (.slice ao a.length N) (.int .i64 (i:Int))).run Tryz.prog W= .ok (.pointer (some (adr ao i))) W:=a0x a0U ao a.length N .i64 i I (by omega) rfl;have i2:∀W,(Instr.indexAt 34 (.slice F b.length O) (.int .i64 (i:Int))).run Tryz.prog W= .ok (.pointer (some (adr F i))) W:=a0x a0U F b.length O .i64 i J (by omega) rfl;obtain⟨x,hx⟩:∃x,a[i]=x:=⟨_,rfl⟩;obtain⟨y,M⟩:∃y,b[i]=y:=⟨_,rfl⟩;rw[hx]at Q;rw[M]at R;have A:=hid hx;have B:=hid M;clear hx M;by_cases j:x=y
    ·have C:Hid (∀(D:i<a.length) (hq:i<b.length),a[i]=b[i]):=hid fun _ _=>by rw[A.out,B.out,j]
     have T:((x:Int) !=y)=false:=a8D (by omega);clear j;go_wp2_with fail
     go_quiet (fail)
     go_wp2_with fail
     go_roundw
     case rel=>exact⟨i+1,by go_num,by omega,b1E s.out C.out,b6R k _⟩
     case measure=>simp[intOf];omega
    ·have q:Hid ((a==b)=false):=hid (by
      cases h:a==b
      ·rfl
      ·have:=eq_of_beq h;subst this;exact absurd (A.out.symm.trans B.out) j)
     have T:((x:Int) !=y)=true:=a8A (by omega);clear j;go_wp2_with fail
     go_quiet (fail)
     go_wp2_with fail
     go_ret
     exact⟨a0n (q.out.symm.trans n.out.symm),b6R k _⟩
   ·have q:Hid ((a==b)=true):=hid (by rw[b4Y o.out fun p D hq=>s.out p (by omega) D hq];simp)
    go_wp2_with fail
    go_ret
    exact⟨a0n (q.out.symm.trans n.out.symm),k.out⟩
 ·have L:((a.length:Int) !=b.length)=true:=a8A (by omega)
  have q:Hid ((a==b)=false):=hid (by
   cases h:a==b
   ·rfl
   ·have:=eq_of_beq h;subst this;exact absurd rfl f)
  clear f;go_enter Tryz.func80,Tryz.ntmps80
  go_wp2_with fail
  go_ret
  exact⟨a0n (q.out.symm.trans n.out.symm),0,rfl⟩
end Go.Proofs.YtgbbpgflopajaaaGreat
namespace Go.Rep
open Go.RowKit
def Bx(w:World)(b:Nat)(cs:Array Value)(T:TypeId):Prop:=w.heap[b]? =some (.cells cs T (0,0))
theorem Bx.lt{w:World}{b:Nat}{a:Array Value}{T:TypeId}(h:Bx w b a T):b<w.heap.size:=(Array.getElem?_eq_some_iff.1 h).1
theorem Bx.cell{w:World}{b:Nat}{a:Array Value}{T:TypeId}(h:Bx w b a T)(i:Nat){u:Value}(c:a[i]? =some u):w.cell? ⟨b,i,none⟩=some u:=by
 unfold Bx at h;unfold World.cell?;rw[h];simpa using c
theorem Bx.frozen{w:World}{b:Nat}{a:Array Value}{T:TypeId}(h:Bx w b a T)(i:Nat):w.frozen? ⟨b,i,none⟩=false:=by
 unfold Bx at h;unfold World.frozen?;rw[h];simp
theorem Bx.ext{Y:Nat->Bool}{w c:World}{b:Nat}{a:Array Value}{T:TypeId}(h:Bx w b a T)(d:ExtX Y w c)(e:Y b=false):Bx c b a T:=by
 unfold Bx;rw[d.block b h.lt e];exact h
theorem Bx.ext0{w c:World}{b:Nat}{a:Array Value}{T:TypeId}(h:Bx w b a T)(d:Ext w c):Bx c b a T:=h.ext d rfl
theorem Bx.new(w:World)(a:Array Value)(T:TypeId):Bx (w.alloc (.cells a T)) w.heap.size a T:=heap_alloc_new w _
theorem a9J(g:Nat):ob (some ⟨g,0,none⟩) g=true:=by simp[ob]
theorem a0b{g k:Nat}(h:k≠g):ob (some ⟨g,0,none⟩) k=false:=by
 cases a:ob (some ⟨g,0,none⟩) k
 ·rfl
 ·have e:g=k:=by simpa[ob]using a
  exact absurd e.symm h
theorem a0P{w:World}{b i:Nat}{a:Array Value}{T:TypeId}(h:Bx w b a T)(v:Value)(hi:i<a.size):Bx (w.setCell ⟨b,i,none⟩ v) b (a.set i v) T/\ExtX (ob (some ⟨b,0,none⟩)) w (w.setCell ⟨b,i,none⟩ v):=by
 unfold Bx at*;have f:b<w.heap.size:=(Array.getElem?_eq_some_iff.1 h).1;refine⟨?_,⟨rfl,rfl,rfl,?_,?_⟩⟩
 ·simp only[World.setCell,Array.getElem?_modify,if_true,h,Option.map_some]
  simp[hi,Array.setIfInBounds]
 ·simp[World.setCell]
 ·intro k _ d
  have c:b≠k:=fun e=>by subst e;rw[a9J]at d;simp at d
  simp only[World.setCell,Array.getElem?_modify,if_neg c]
theorem Bx.set2{w:World}{b:Nat}{f g:Value}{T:TypeId}(h:Bx w b #[f,g] T)(v0 v1:Value):Bx ((w.setCell ⟨b,0,none⟩ v0).setCell ⟨b,1,none⟩ v1) b #[v0,v1] T/\ExtX (ob (some ⟨b,0,none⟩)) w ((w.setCell ⟨b,0,none⟩ v0).setCell ⟨b,1,none⟩ v1):=by
 obtain⟨a,c⟩:=a0P h v0 (i:=0) (by simp);obtain⟨d,e⟩:=a0P a v1 (i:=1) (by simp);exact⟨by simpa using d,c.trans e⟩
theorem Bx.set3{w:World}{b:Nat}{j k l:Value}{T:TypeId}(h:Bx w b #[j,k,l] T)(v0 v1 v2:Value):Bx (((w.setCell ⟨b,0,none⟩ v0).setCell ⟨b,1,none⟩ v1).setCell ⟨b,2,none⟩ v2) b #[v0,v1,v2] T/\ExtX (ob (some ⟨b,0,none⟩)) w (((w.setCell ⟨b,0,none⟩ v0).setCell ⟨b,1,none⟩ v1).setCell ⟨b,2,none⟩ v2):=by
 obtain⟨a,c⟩:=a0P h v0 (i:=0) (by simp);obtain⟨d,e⟩:=a0P a v1 (i:=1) (by simp);obtain⟨f,g⟩:=a0P d v2 (i:=2) (by simp);exact⟨by simpa using f,(c.trans e).trans g⟩
section
variable {P:Program} {ops:Array Oper} {Q:Exit->Act->World->Prop} {rest:List Oper} {a:Act} {w:World}
variable {d:Option Tmp} {ty:TypeId} {ps:String} {af:Array Edge}
theorem a6b{t:TypeId}{n b:Nat}{c a:Array Value}{T:TypeId}(p:a1F P t n)(j:Bx w b c T)(f:c.size=n)(d:a.size=n)(g:∀v∈a.toList,v.oneCell'=true):∃i,(storeVar t ⟨b,0,none⟩ (.agg a)).run P w= .ok () i/\Bx i b a T/\ExtX (ob (some ⟨b,0,none⟩)) w i:=by
 obtain⟨r,u,s,m,o⟩:=p;have h:=run_storeCells_at P b 0 T a.toList 0 c w j (by simp[f,d]) g;refine⟨w.setRow b (c.toList.take (0+0)++a.toList++c.toList.drop (0+0+a.toList.length)).toArray,?_,?_,?_⟩
 rotate_left
 ·unfold Bx
  have:=setRow_heap w b c (c.toList.take (0+0)++a.toList++c.toList.drop (0+0+a.toList.length)).toArray T (0,0) j;rw[this]
  congr 2
  have e:c.toList.drop (0+0+a.toList.length)= []:=List.drop_of_length_le (by simp[d,f]);rw[e];simp
 ·exact⟨rfl,rfl,rfl,by simp,fun k _ q=>setRow_other w b k _ (fun l=>by subst l;simp[ob]at q)⟩
 ·simp[storeVar,sizeOf,typeInfo,m,o,Value.cells,d]
  simp only[Nat.zero_add,Array.length_toList,List.take_zero,List.nil_append,d]at h |-;exact h
theorem a0a{t:TypeId}{x y:Operand}{n b:Nat}{j f:Array Value}{T:TypeId}(m:a1F P t n)(hx:a.eval x= .pointer (some ⟨b,0,none⟩))(q:a.eval y= .agg f)(o:Bx w b j T)(h:j.size=n)(i:f.size=n)(c:∀v∈f.toList,v.oneCell'=true)(K:∀e,Bx e b f T->ExtX (ob (some ⟨b,0,none⟩)) w e->wpList P ops Q rest (a.put d undef) e):wpList P ops Q (⟨d, .store t x y,ty,ps,af,none⟩::rest) a w:=by
 refine wpList_plain rfl fun r g=>?_;obtain⟨e,p,k,l⟩:=a6b (P:=P) m o h i c;unfold Oper.wp;simp[execOp,hx,q,Instr.storeAt,Instr.sureAddr,p,Result.andThen];exact g _ _ (K e k l)
theorem a2g{t:TypeId}{n b:Nat}{a:Array Value}{T:TypeId}(i:a1F P t n)(k:Bx w b a T)(c:a.size=n):(loadVar t ⟨b,0,none⟩).run P w= .ok (.agg a) w:=by
 obtain⟨m,o,f,g,h⟩:=i;have e:=run_loadCells_list (P:=P) w ⟨b,0,none⟩ a.toList (fun j v l=>by
  rw[Addr.add_lit,Nat.zero_add];exact k.cell j (by simpa using l))
 have d:a.toList.length=n:=by simpa using c
 rw[d]at e;simp[loadVar,isAgg,run_underlying f,sizeOf,typeInfo,g,h,e]
theorem a2T{t:TypeId}{x:Operand}{n b:Nat}{c:Array Value}{T:TypeId}(g:a1F P t n)(hx:a.eval x= .pointer (some ⟨b,0,none⟩))(h:Bx w b c T)(f:c.size=n)(K:wpList P ops Q rest (a.put d (.agg c)) w):wpList P ops Q (⟨d, .load t x,ty,ps,af,none⟩::rest) a w:=by
 refine wpList_plain rfl fun j e=>?_;have i:=a2g (P:=P) g h f;unfold Oper.wp;simp[execOp,hx,Instr.loadAt,Instr.sureAddr,i,Result.andThen];exact e _ _ K
theorem a0d{fn:Func}{a:Array Value}{c:Tmp}{t:TypeId}{n b:Nat}{d:Array Value}{T:TypeId}(h:fn.results=#[.cell c t])(f:a.getD c undef= .pointer (some ⟨b,0,none⟩))(g:a1F P t n)(i:Bx w b d T)(e:d.size=n):(results fn a).run P w= .ok (.agg d) w:=by
 have j:=a2g (P:=P) g i e;rw[Array.getD_eq_getD_getElem?]at f;simp[results,h,f,asAddr,j]
theorem a0M{fn:Func}{a:Array Value}{c d:Tmp}{t:TypeId}{n b:Nat}{e:Array Value}{T:TypeId}(h:fn.results=#[.cell c t, .tmp d])(g:a.getD c undef= .pointer (some ⟨b,0,none⟩))(i:a1F P t n)(j:Bx w b e T)(f:e.size=n):(results fn a).run P w= .ok (.tuple #[.agg e,a.getD d undef]) w:=by
 have k:=a2g (P:=P) i j f;rw[Array.getD_eq_getD_getElem?]at g;simp[results,h,g,asAddr,k]
end
theorem a0R(w:World)(x:Array Value)(T:TypeId):∃W,w.alloc (.cells x T)=W/\Ext w W/\Bx W w.heap.size x T/\W.heap.size=w.heap.size+1:=
 ⟨_,rfl,(ExtX.refl w).alloc _,Bx.new w _ _,by simp⟩
theorem a1x(w:World)(x y:Array Value)(T U:TypeId):∃W,(w.alloc (.cells x T)).alloc (.cells y U)=W/\Ext w W/\Bx W w.heap.size x T/\Bx W (w.heap.size+1) y U/\W.heap.size=w.heap.size+2:=by
 obtain⟨W,b,c,d,e⟩:=a0R w x T;obtain⟨V,f,a,g,h⟩:=a0R W y U;exact⟨V,by rw[b,f],c.trans a,d.ext0 a,by rw[<-e];exact g,by omega⟩
theorem a2C(w:World)(x y z:Array Value)(T U S:TypeId):∃W,((w.alloc (.cells x T)).alloc (.cells y U)).alloc (.cells z S)=W/\Ext w W/\Bx W w.heap.size x T/\Bx W (w.heap.size+1) y U/\Bx W (w.heap.size+1+1) z S/\W.heap.size=w.heap.size+3:=by
 obtain⟨W,b,c,d,f,e⟩:=a1x w x y T U;obtain⟨V,g,a,h,i⟩:=a0R W z S;exact⟨V,by rw[b,g],c.trans a,d.ext0 a,f.ext0 a,by rw[<-e];exact h,by omega⟩
theorem b9O(w:World)(x y z u:Array Value)(T U S R:TypeId):∃W,(((w.alloc (.cells x T)).alloc (.cells y U)).alloc (.cells z S)).alloc (.cells u R)=W/\Ext w W/\Bx W w.heap.size x T/\Bx W (w.heap.size+1) y U/\Bx W (w.heap.size+1+1) z S/\Bx W (w.heap.size+1+1+1) u R/\W.heap.size=w.heap.size+4:=by
 obtain⟨W,b,c,d,f,g,e⟩:=a2C w x y z T U S;obtain⟨V,h,a,i,j⟩:=a0R W u R;exact⟨V,by rw[b,h],c.trans a,d.ext0 a,f.ext0 a,g.ext0 a,by rw[<-e];exact i,by omega⟩
end Go.Rep
namespace Go.Rep
open Go.RowKit Go.Lim
def ZV(h:Mem)(u:Value)(z:Int):Prop:=∃s ao c l,u= .agg #[.bool s, .slice ao l.length c]/\l.length<=c/\Dig l/\l.length<=549755813888/\Sl (a0c .u32) 1 h ao l/\a7W s l=z
def ZC(h:Mem)(u:Value)(z:Int):Prop:=∃s ao c l,u= .agg #[.bool s, .slice ao l.length c]/\l.length<=c/\a5X s l z/\Sl (a0c .u32) 1 h ao l
theorem ZV.mono:a3R ZV:=by rintro h i u x g ⟨s,ao,c,l,rfl,a,b,d,e,f⟩;exact⟨s,ao,c,l,rfl,a,b,d,e.mono (a0c.mono _) g,f⟩
theorem ZC.mono:a3R ZC:=by rintro h f u x e ⟨s,ao,c,l,rfl,a,b,d⟩;exact⟨s,ao,c,l,rfl,a,b,d.mono (a0c.mono _) e⟩
theorem ZC.zv{h:Mem}{u:Value}{z:Int}(f:ZC h u z)(e:lg z.natAbs<=549755813888):ZV h u z:=by
 obtain⟨s,ao,c,l,rfl,b,a,d⟩:=f;exact⟨s,ao,c,l,rfl,b,a.2.1,by rw[a.len];exact e,d,a.val⟩
theorem ZC.zero(h:Mem):ZC h (.agg #[.bool false, .slice none 0 0]) 0:=⟨false,none,0,[],rfl,Nat.le_refl _,a5X.zero,Sl.nil _ _ _ _⟩
theorem ZV.lg{h:Mem}{u:Value}{z:Int}(d:ZV h u z):lg z.natAbs<=549755813888:=by
 obtain⟨s,ao,c,l,rfl,e,a,b,f,rfl⟩:=d;exact Nat.le_trans (b7T s l a) b
end Go.Rep
namespace Go.Proofs.YtgbbpgflopajaaaGreat
open Go.RowKit Go.Rep Go.Lim
theorem a7x(X:Nat->Bool)(w:World)(s:Bool)(ao:Option Addr)(c:Nat)(l:List Nat)(m:Sl (a0c .u32) 1 (mk X w) ao l)(o:l.length<=549755813888):Calls Tryz.prog 290 #[.agg #[.bool s, .slice ao l.length c]] w fun e j=>Ext w j/\e= .returned (.bool (a1t s l)):=by
 have h:Ext w (w.alloc (.cells #[.bool s, .slice ao l.length c] 36)):=(ExtX.refl w).alloc _;have a:=m.mono (a0c.mono _) (a0m h);have d:Hid (a1t s l=(a1G l&&(decide (0<l.length)|| !s))):=hid rfl;cases g:a1G l
 ·have i:Hid (a1t s l=false):=hid (by rw[d.out,g];rfl)
  have b:=hid g;clear g;go_enter Tryz.func290,Tryz.ntmps290
  go_wp2_with fail
  refine(a2o X _ _ _ _ a (by omega)).mono ?_;rintro e j ⟨rfl,rfl⟩;rw[b.out];go_wp2_with fail
  go_ret
  exact⟨h,a0n i.out.symm⟩
 ·have i:Hid (a1t s l=(decide (0<l.length)|| !s)):=hid (by rw[d.out,g];rfl)
  have b:=hid g;clear g;by_cases k:0<l.length
  ·have n:(0:Int)<(l.length:Int):=by omega
   have f:Hid (a1t s l=true):=hid (by rw[i.out,decide_eq_true k];rfl);go_enter Tryz.func290,Tryz.ntmps290
   go_wp2_with fail
   refine(a2o X _ _ _ _ a (by omega)).mono ?_;rintro e j ⟨rfl,rfl⟩;rw[b.out];go_wp2_with fail
   go_ret
   exact⟨h,a0n f.out.symm⟩
  ·have f:Hid (a1t s l= !s):=hid (by rw[i.out,decide_eq_false k];rfl)
   obtain rfl:l= []:=List.eq_nil_of_length_eq_zero (by omega);clear k i;simp only[List.length_nil]at h a |-;go_enter Tryz.func290,Tryz.ntmps290
   go_wp2_with fail
   refine(a2o X _ [] _ _ a (by simp)).mono ?_;rintro e j ⟨rfl,rfl⟩;rw[b.out];go_wp2_with fail
   go_ret
   exact⟨h,a0n f.out.symm⟩
theorem a0H:a1F Tryz.prog 36 2:=by
 have h:(Tryz.prog.info? 36).map (fun i=>(i.zero,i.size,i.bytes))=some (some (.agg #[.bool false, .slice none 0 0]),2,32):=by kernel_rfl
 obtain⟨c,a,_,b,_⟩:=info_parts h;exact⟨_,c,Tryz.underlying36,a,b⟩
theorem a3c(s:Bool)(ao:Option Addr)(n c:Nat):∀v∈(#[Value.bool s, .slice ao n c]:Array Value).toList,v.oneCell'=true:=by
 intro v a;simp at a;rcases a with rfl|rfl<;>rfl
def a0e(X:Nat->Bool)(lo nb:Nat):Nat->Bool:=fun k=>X k||(decide (lo<=k)&&decide (k<lo+nb))
theorem a4N{X:Nat->Bool}{lo nb k:Nat}(a:lo<=k)(b:k<lo+nb):a0e X lo nb k=true:=by simp[a0e,a,b]
theorem b2L{X:Nat->Bool}{lo nb k:Nat}(h:X k=true):a0e X lo nb k=true:=by simp[a0e,h]
theorem _root_.Go.Rep.HX.boxes{X:Nat->Bool}{w a:World}{nb:Nat}(h:HX X w)(hz:a.heap.size=w.heap.size+nb):HX (a0e X w.heap.size nb) a:=fun k b=>by
 by_cases hx:X k=true
 ·have:=h k hx;omega
 ·simp[a0e,hx]at b;omega
theorem _root_.Go.Rep.HX.boxes'{X:Nat->Bool}{w a:World}{b nb:Nat}(h:HX X w)(c:Ext w a)(e:b+nb<=a.heap.size)(_:w.heap.size+nb<=a.heap.size):HX (a0e X b nb) a:=fun k d=>by
 by_cases hx:X k=true
 ·exact Nat.lt_of_lt_of_le (h k hx) c.size
 ·simp[a0e,hx]at d;omega
theorem a0l{X:Nat->Bool}{w b:World}{nb:Nat}(c:Ext w b):Le (mk X w) (mk (a0e X w.heap.size nb) b):=
 a1i c (fun k _ a=>by simp[noY]at a) fun k a hz=>by
  by_cases hx:X k=true
  ·exact hx
  ·simp[a0e,hx]at hz;omega
theorem a0k{X:Nat->Bool}{w:World}{lo nb:Nat}:Le (mk (a0e X lo nb) w) (mk X w):=a1v fun _ _ a=>b2L a
theorem a0g{X:Nat->Bool}{w a:World}{lo nb b:Nat}(f:ExtX (ob (some ⟨b,0,none⟩)) w a)(c:lo<=b)(d:b<lo+nb):Le (mk (a0e X lo nb) w) (mk (a0e X lo nb) a):=
 a0v f fun k g=>by
  have e:b=k:=by simpa[ob]using g
  subst e;exact a4N c d
theorem ExtX.box{a w c:World}{b:Nat}(h:Ext a w)(d:ExtX (ob (some ⟨b,0,none⟩)) w c)(e:a.heap.size<=b):Ext a c:=
 h.then_ d fun i hi _=>a0b (by omega)
theorem a2v{X:Nat->Bool}{w a:World}{b nb:Nat}{s t u v:Value}{T U:TypeId}(j:Bx a b #[s,t] T)(l:Bx a (b+1) #[u,v] U)(m:Ext w a)(n:w.heap.size<=b)(x:2<=nb)(v0 v1 u0 i:Value):∃c,((((a.setCell ⟨b,0,none⟩ v0).setCell ⟨b,1,none⟩ v1).setCell ⟨b+1,0,none⟩ u0).setCell ⟨b+1,1,none⟩ i)=c/\Bx c b #[v0,v1] T/\Bx c (b+1) #[u0,i] U/\(∀k f V,k≠b->k≠b+1->Bx a k f V->Bx c k f V)/\Ext w c/\Le (mk (a0e X b nb) a) (mk (a0e X b nb) c):=by
 obtain⟨q,d⟩:=j.set2 v0 v1;have g:=l.ext d (a0b (by omega));obtain⟨r,e⟩:=g.set2 u0 i;refine⟨_,rfl,q.ext e (a0b (by omega)),r,fun k f V o p h=>(h.ext d (a0b o)).ext e (a0b p),ExtX.box (ExtX.box m d n) e (by omega),(a0g d (Nat.le_refl _) (by omega)).trans (a0g e (by omega) (by omega))⟩
theorem a6c(X:Nat->Bool)(w:World)(u:Value)(z:Int)(D:HX X w)(H:ZV (mk X w) u z):Calls Tryz.prog 237 #[u] w (a1Y X w ZC z):=by
 obtain⟨s,ao,c,l,rfl,A,B,y,C,rfl⟩:=H;obtain⟨W,m⟩:∃W,(w.alloc (.cells #[.bool s, .slice ao l.length c] 36)).alloc (.cells #[.bool false, .slice none 0 0] 36)=W:=⟨_,rfl⟩;have r:Ext w W:=by rw[<-m];exact((ExtX.refl w).alloc _).alloc _
 have k:Bx W w.heap.size #[.bool s, .slice ao l.length c] 36:=by
  rw[<-m];exact(Bx.new w _ _).ext0 ((ExtX.refl _).alloc _)
 have n:Bx W (w.heap.size+1) #[.bool false, .slice none 0 0] 36:=by
  rw[<-m];have:=Bx.new (w.alloc (.cells #[.bool s, .slice ao l.length c] 36)) #[.bool false, .slice none 0 0] 36;simpa using this
 have hz:W.heap.size=w.heap.size+2:=by rw[<-m];simp
 have f:Sl (a0c .u32) 1 (mk (a0e X w.heap.size 2) W) ao l:=C.mono (a0c.mono _) (a0l r);obtain⟨b,F⟩:∃b,w.heap.size=b:=⟨_,rfl⟩;have G:w.heap.size<=b:=by omega
 have E:HX X w:=D;rw[F]at k n hz f;have p:=k.cell 0 rfl;have q:=k.cell 1 rfl;cases j:a1t s l
 ·have x:=hid (a5Y j)
  have g:=hid j;clear j;go_enter Tryz.func237,Tryz.ntmps237
  go_wp2_with fail
  refine(a7x (a0e X b 2) W s ao c l f y).mono ?_;rintro e I ⟨a,rfl⟩;rw[g.out];have h:=n.ext0 a;clear p q;go_wp2_with ((with_reducible show wpList _ _ _ (⟨_, .store _ _ _,_,_,_,_⟩::_) _ _);refine a0a a0H rfl rfl h rfl rfl (a3c _ _ _ _) ?_;intro J o d)
  exact bodyPost_ret (a0d rfl rfl a0H o rfl) rfl ⟨ExtX.box (r.trans a) d (by omega),_,rfl,by rw[x.out];exact ZC.zero _⟩
 ·have g:=hid j
  clear j;go_enter Tryz.func237,Tryz.ntmps237
  go_wp2_with fail
  refine(a7x (a0e X b 2) W s ao c l f y).mono ?_;rintro e I ⟨a,rfl⟩;rw[g.out];have i:=k.ext0 a;have h:=n.ext0 a;have t:=f.mono (a0c.mono _) (a0m a);clear p q;have p:=i.cell 0 rfl;have q:=i.cell 1 rfl;go_wp2_with ((with_reducible show wpList _ _ _ (⟨_, .store _ _ _,_,_,_,_⟩::_) _ _);refine a0a a0H rfl rfl h rfl rfl (a3c _ _ _ _) ?_;intro J o d)
  have v:=(t.mono (a0c.mono _) (a0g d (by omega) (by omega))).mono (a0c.mono _) a0k;exact bodyPost_ret (a0d rfl rfl a0H o rfl) rfl ⟨ExtX.box (r.trans a) d (by omega),_,rfl,s,ao,c,l,rfl,A,a5X.of_valid B g.out,v⟩
end Go.Proofs.YtgbbpgflopajaaaGreat
namespace Go.Lim
def sg(s:Bool)(n:Nat):Int:=if s then -(n:Int)else n
theorem b2M{s:Bool}{l:List Nat}{n:Nat}(h:a0K l n):a5X (s&&decide (0<l.length)) l (sg s n):=by
 have a:=a1q h;unfold sg;cases s
 ·refine⟨?_,by simpa using h⟩;simp
 ·refine⟨?_,by simpa using h⟩
  rw[Bool.true_and,Bool.eq_iff_iff];simp only[decide_eq_true_eq,if_true];omega
theorem a7y(s:Bool)(n:Nat):(sg s n).natAbs=n:=by unfold sg;split<;>simp
theorem a4c{s:Bool}{l:List Nat}{z:Int}(h:a5X s l z):sg s z.natAbs=z:=by
 unfold sg;rw[h.1];by_cases hz:z<0
 ·simp only[hz,decide_true,if_true];omega
 ·simp only[hz,decide_false,Bool.false_eq_true,if_false];omega
end Go.Lim
namespace Go.Proofs.YtgbbpgflopajaaaGreat
open Go.RowKit Go.Rep Go.Lim
theorem a2W(X:Nat->Bool)(w:World)(s:Bool)(u:Value)(n:Nat)(_:HX X w)(v:NC (mk X w) u n):Calls Tryz.prog 233 #[.bool s,u] w (a1Y X w ZC (sg s n)):=by
 obtain⟨ao,c,l,rfl,i,p,q⟩:=v;obtain⟨W,m⟩:∃W,w.alloc (.cells #[.bool false, .slice none 0 0] 36)=W:=⟨_,rfl⟩;have j:Ext w W:=by rw[<-m];exact(ExtX.refl w).alloc _
 have h:Bx W w.heap.size #[.bool false, .slice none 0 0] 36:=by rw[<-m];exact Bx.new w _ _
 have e:Sl (a0c .u32) 1 (mk (a0e X w.heap.size 1) W) ao l:=q.mono (a0c.mono _) (a0l j);obtain⟨b,r⟩:∃b,w.heap.size=b:=⟨_,rfl⟩;have t:w.heap.size<=b:=by omega
 rw[r]at h e;have d:Hid (a5X (s&&decide (0<l.length)) l (sg s n)):=hid (b2M p);cases s
 ·rw[Bool.false_and]at d
  go_enter Tryz.func233,Tryz.ntmps233
  go_wp2_with ((with_reducible show wpList _ _ _ (⟨_, .store _ _ _,_,_,_,_⟩::_) _ _);refine a0a a0H rfl rfl h rfl rfl (a3c _ _ _ _) ?_;intro o g a)
  have f:=(e.mono (a0c.mono _) (a0g a (by omega) (by omega))).mono (a0c.mono _) a0k;exact bodyPost_ret (a0d rfl rfl a0H g rfl) rfl ⟨ExtX.box j a (by omega),_,rfl,_,ao,c,l,rfl,i,d.out,f⟩
 ·rw[Bool.true_and]at d
  by_cases k:0<l.length
  ·rw[decide_eq_true k]at d
   go_enter Tryz.func233,Tryz.ntmps233
   go_wp2_with ((with_reducible show wpList _ _ _ (⟨_, .store _ _ _,_,_,_,_⟩::_) _ _);refine a0a a0H rfl rfl h rfl rfl (a3c _ _ _ _) ?_;intro o g a)
   have f:=(e.mono (a0c.mono _) (a0g a (by omega) (by omega))).mono (a0c.mono _) a0k;exact bodyPost_ret (a0d rfl rfl a0H g rfl) rfl ⟨ExtX.box j a (by omega),_,rfl,_,ao,c,l,rfl,i,d.out,f⟩
  ·rw[decide_eq_false k]at d
   obtain rfl:l= []:=List.eq_nil_of_length_eq_zero (by omega);clear k;simp only[List.length_nil]at i d e |-;go_enter Tryz.func233,Tryz.ntmps233
   go_wp2_with ((with_reducible show wpList _ _ _ (⟨_, .store _ _ _,_,_,_,_⟩::_) _ _);refine a0a a0H rfl rfl h rfl rfl (a3c _ _ _ _) ?_;intro o g a)
   have f:=(e.mono (a0c.mono _) (a0g a (by omega) (by omega))).mono (a0c.mono _) a0k;exact bodyPost_ret (a0d rfl rfl a0H g rfl) rfl ⟨ExtX.box j a (by omega),_,rfl,_,ao,c,[],rfl,i,d.out,f⟩
theorem b7Y(X:Nat->Bool)(w:World)(u:Value)(z:Int)(hX:HX X w)(hu:ZC (mk X w) u z)(hn:lg z.natAbs<=549755813888):Calls Tryz.prog 289 #[u] w (a1Y X w ZC z):=by
 obtain⟨s,ao,c,l,rfl,V,o,Y⟩:=hu;obtain⟨W,p⟩:∃W,(w.alloc (.cells #[.bool s, .slice ao l.length c] 36)).alloc (.cells #[.bool false, .slice none 0 0] 36)=W:=⟨_,rfl⟩;have D:Ext w W:=by rw[<-p];exact((ExtX.refl w).alloc _).alloc _
 have k:Bx W w.heap.size #[.bool s, .slice ao l.length c] 36:=by
  rw[<-p];exact(Bx.new w _ _).ext0 ((ExtX.refl _).alloc _)
 have g:Bx W (w.heap.size+1) #[.bool false, .slice none 0 0] 36:=by
  rw[<-p];have:=Bx.new (w.alloc (.cells #[.bool s, .slice ao l.length c] 36)) #[.bool false, .slice none 0 0] 36;simpa using this
 have hz:W.heap.size=w.heap.size+2:=by rw[<-p];simp
 have i:HX (a0e X w.heap.size 2) W:=hX.boxes hz;have n:NV (mk (a0e X w.heap.size 2) W) (.slice ao l.length c) z.natAbs:=⟨ao,c,l,rfl,V,o.2.1,by rw[o.len];omega,Y.mono (a0c.mono _) (a0l D),o.2.val⟩;obtain⟨b,hb⟩:∃b,w.heap.size=b:=⟨_,rfl⟩;have a0:w.heap.size<=b:=by omega
 rw[hb]at k g hz i n;have I:=k.cell 0 rfl;have J:=k.cell 1 rfl;have y:=hid (a4c o);have v:∀M,NV M (.slice none 0 0) 0:=fun M=>⟨none,0,[],rfl,Nat.le_refl _,Dig.nil,by simp,Sl.nil _ _ _ _,by simp[val,vl,nv]⟩;go_enter Tryz.func289,Tryz.ntmps289
 go_wp2_with fail
 have K:=g.cell 0 rfl;have L:=g.cell 1 rfl;have N:=g.frozen 0;have O:=g.frozen 1;have d:Ext W W.drew:=(ExtX.refl W).drew;have j:Hid (∀W',Ext W.drew W'->W'.cell? ⟨b,0,none⟩=some (.bool s)/\W'.cell? ⟨b,1,none⟩=some (.slice ao l.length c)/\W'.cell? ⟨b+1,0,none⟩=some (.bool false)/\W'.cell? ⟨b+1,1,none⟩=some (.slice none 0 0)/\W'.frozen? ⟨b+1,0,none⟩=false/\W'.frozen? ⟨b+1,1,none⟩=false):=
  hid fun W' h=>⟨(k.ext0 (d.trans h)).cell 0 rfl,(k.ext0 (d.trans h)).cell 1 rfl,(g.ext0 (d.trans h)).cell 0 rfl,(g.ext0 (d.trans h)).cell 1 rfl,(g.ext0 (d.trans h)).frozen 0,(g.ext0 (d.trans h)).frozen 1⟩
 go_region_held3 (fun H=>H.cell? ⟨b,0,none⟩=some (.bool s)/\H.cell? ⟨b,1,none⟩=some (.slice ao l.length c))
  (first|exact⟨(j.out _ a).1,(j.out _ a).2.1⟩|exact⟨(j.out _ (a.trans f)).1,(j.out _ (a.trans f)).2.1⟩|go_keep)
  (first|(go_at_call 187;refine(c1d (X:=a0e X b 2) (w:=W.drew) i n (v _)).mono ?_;rintro e w5 ⟨a,u5,rfl,A⟩)|(go_at_call 233;refine(a2W (a0e X b 2) w5 s u5 (z.natAbs+0) (HX.ext (w:=W.drew) i a) A).mono ?_;rintro e w6 ⟨f,u6,rfl,G,B,C,E,rfl,q,m,r⟩;obtain⟨P,Q,R,S,T,U⟩:=j.out w6 (a.trans f)))
 obtain⟨r1,F⟩:=(g.ext0 ((d.trans a).trans f)).set2 (.bool G) (.slice B E.length C);have Z:=(r.mono (a0c.mono _) (a0g F (by omega) (by omega))).mono (a0c.mono _) a0k;have x:sg s (z.natAbs+0)=z:=y.out;rw[x]at m;have t:Ext w _:=ExtX.box (D.trans ((d.trans a).trans f)) F (by omega);clear I J K L N O j P Q R S T U;go_wp2_with fail
 exact bodyPost_ret (a0d rfl rfl a0H r1 rfl) rfl ⟨t,_,rfl,G,B,C,E,rfl,q,m,Z⟩
theorem a6G(X:Nat->Bool)(w:World)(s:Bool)(ao:Option Addr)(c:Nat)(l:List Nat)(m:Sl (a0c .u32) 1 (mk X w) ao l)(o:l.length<=549755813888):Calls Tryz.prog 248 #[.agg #[.bool s, .slice ao l.length c]] w fun e j=>Ext w j/\e= .returned (.bool (a1t s l)):=by
 have h:Ext w (w.alloc (.cells #[.bool s, .slice ao l.length c] 36)):=(ExtX.refl w).alloc _;have d:=m.mono (a0c.mono _) (a0m h);have a:Hid (a1t s l=(a1G l&&(decide (0<l.length)|| !s))):=hid rfl;cases i:a1G l
 ·have g:Hid (a1t s l=false):=hid (by rw[a.out,i];rfl)
  have f:=hid i;clear i;go_enter Tryz.func248,Tryz.ntmps248
  go_wp2_with fail
  refine(a2k X _ _ _ _ d (by omega)).mono ?_;rintro e j ⟨rfl,rfl⟩;rw[f.out];go_wp2_with fail
  go_ret
  exact⟨h,a0n g.out.symm⟩
 ·have g:Hid (a1t s l=(decide (0<l.length)|| !s)):=hid (by rw[a.out,i];rfl)
  have f:=hid i;clear i;cases s
  ·have b:Hid (a1t false l=true):=hid (by rw[g.out];simp)
   clear g a;go_enter Tryz.func248,Tryz.ntmps248
   go_wp2_with fail
   refine(a2k X _ _ _ _ d (by omega)).mono ?_;rintro e j ⟨rfl,rfl⟩;rw[f.out];go_wp2_with fail
   go_ret
   exact⟨h,a0n b.out.symm⟩
  ·by_cases k:0<l.length
   ·have b:Hid (a1t true l=true):=hid (by rw[g.out,decide_eq_true k];rfl)
    have n:((l.length:Int)==0)=false:=a2H (by omega);clear g a;go_enter Tryz.func248,Tryz.ntmps248
    go_wp2_with fail
    refine(a2k X _ _ _ _ d (by omega)).mono ?_;rintro e j ⟨rfl,rfl⟩;rw[f.out];go_wp2_with fail
    go_ret
    exact⟨h,a0n b.out.symm⟩
   ·have b:Hid (a1t true l=false):=hid (by rw[g.out,decide_eq_false k];rfl)
    obtain rfl:l= []:=List.eq_nil_of_length_eq_zero (by omega);clear k g a;simp only[List.length_nil]at h d |-;go_enter Tryz.func248,Tryz.ntmps248
    go_wp2_with fail
    refine(a2k X _ [] _ _ d (by simp)).mono ?_;rintro e j ⟨rfl,rfl⟩;rw[f.out];go_wp2_with fail
    go_ret
    exact⟨h,a0n b.out.symm⟩
theorem a4d(X:Nat->Bool)(w:World)(u:Value)(z:Int)(Q:HX X w)(hu:ZV (mk X w) u z):Calls Tryz.prog 175 #[u] w (a1Y X w ZC z):=by
 obtain⟨s,ao,c,l,rfl,h1,O,P,h4,rfl⟩:=hu;obtain⟨W,y⟩:∃W,(w.alloc (.cells #[.bool s, .slice ao l.length c] 36)).alloc (.cells #[.bool false, .slice none 0 0] 36)=W:=⟨_,rfl⟩;have x:Ext w W:=by rw[<-y];exact((ExtX.refl w).alloc _).alloc _
 have r:Bx W w.heap.size #[.bool s, .slice ao l.length c] 36:=by
  rw[<-y];exact(Bx.new w _ _).ext0 ((ExtX.refl _).alloc _)
 have A:Bx W (w.heap.size+1) #[.bool false, .slice none 0 0] 36:=by
  rw[<-y];have:=Bx.new (w.alloc (.cells #[.bool s, .slice ao l.length c] 36)) #[.bool false, .slice none 0 0] 36;simpa using this
 have hz:W.heap.size=w.heap.size+2:=by rw[<-y];simp
 have i:Sl (a0c .u32) 1 (mk (a0e X w.heap.size 2) W) ao l:=h4.mono (a0c.mono _) (a0l x);obtain⟨b,hb⟩:∃b,w.heap.size=b:=⟨_,rfl⟩;have a1:w.heap.size<=b:=by omega
 have a0:HX X w:=Q;rw[hb]at r A hz i;have t:=r.cell 0 rfl;have v:=r.cell 1 rfl;cases q:a1t s l
 ·have K:=hid (a5Y q)
  have j:=hid q;clear q;go_enter Tryz.func175,Tryz.ntmps175
  go_wp2_with fail
  refine(a6G (a0e X b 2) W s ao c l i P).mono ?_;rintro e k ⟨a,rfl⟩;rw[j.out];have h:=A.ext0 a;clear t v;go_wp2_with ((with_reducible show wpList _ _ _ (⟨_, .store _ _ _,_,_,_,_⟩::_) _ _);refine a0a a0H rfl rfl h rfl rfl (a3c _ _ _ _) ?_;intro w2 T E)
  exact bodyPost_ret (a0d rfl rfl a0H T rfl) rfl ⟨ExtX.box (x.trans a) E (by omega),_,rfl,by rw[K.out];exact ZC.zero _⟩
 ·have j:=hid q
  clear q;go_enter Tryz.func175,Tryz.ntmps175
  go_wp2_with fail
  refine(a6G (a0e X b 2) W s ao c l i P).mono ?_;rintro e k ⟨a,rfl⟩;rw[j.out];have m:=r.ext0 a;have h:=A.ext0 a;have G:HX (a0e X b 2) k:=Q.boxes' (x.trans a) (by have:=h.lt;omega) (by have:=h.lt;omega);have n:=hid (a5X.of_valid O j.out);have J:NV (mk (a0e X b 2) k) (.slice ao l.length c) (nv l):=⟨ao,c,l,rfl,h1,O,by omega,i.mono (a0c.mono _) (a0m a),by unfold val;rw[a0K.vl n.out.2]⟩;have H:HX (a0e X b 2) k.drew:=G;have I:NV (mk (a0e X b 2) k.drew) (.slice ao l.length c) (nv l):=J;have g:Ext k k.drew:=(ExtX.refl k).drew;have o:=hid (And.intro m h);clear t v;have t:=m.cell 0 rfl;have v:=m.cell 1 rfl;go_wp2_with fail
  go_region_held3 (fun S=>S.cell? ⟨b,0,none⟩=some (.bool s)/\S.cell? ⟨b,1,none⟩=some (.slice ao l.length c))
   (first|exact⟨(o.out.1.ext0 (g.trans f)).cell 0 rfl,(o.out.1.ext0 (g.trans f)).cell 1 rfl⟩|exact⟨((o.out.1.ext0 (g.trans f)).ext (d.set2 _ _).2 (a0b (by omega))).cell 0 rfl,((o.out.1.ext0 (g.trans f)).ext (d.set2 _ _).2 (a0b (by omega))).cell 1 rfl⟩|go_keep)
   (first|(go_at_call 177;(with_reducible refine(a4b H I).mono ?_);rintro e w5 ⟨f,u5,rfl,M,N,L,rfl,B,C,D⟩;have d:=o.out.2.ext0 (g.trans f);have U:=d.cell 0 rfl;have V:=d.cell 1 rfl;have Y:=d.frozen 0;have Z:=d.frozen 1))
  obtain⟨r1,R⟩:=d.set2 (.bool s) (.slice M L.length N);have h7:=(D.mono (a0c.mono _) (a0g R (by omega) (by omega))).mono (a0c.mono _) a0k;have p:a5X s L (a7W s l):=⟨n.out.1,by rw[<-n.out.2.2.2];exact C⟩;have F:Ext w _:=ExtX.box (x.trans (a.trans (g.trans f))) R (by omega);clear U V Y Z t v;go_wp2_with fail
  exact bodyPost_ret (a0d rfl rfl a0H r1 rfl) rfl ⟨F,_,rfl,s,M,N,L,rfl,B,p,h7⟩
theorem a1Q(X:Nat->Bool)(w:World)(s:Bool)(u:Value)(n:Nat)(_:HX X w)(v:NC (mk X w) u n):Calls Tryz.prog 172 #[.bool s,u] w (a1Y X w ZC (sg s n)):=by
 obtain⟨ao,c,l,rfl,i,p,q⟩:=v;obtain⟨W,m⟩:∃W,w.alloc (.cells #[.bool false, .slice none 0 0] 36)=W:=⟨_,rfl⟩;have j:Ext w W:=by rw[<-m];exact(ExtX.refl w).alloc _
 have h:Bx W w.heap.size #[.bool false, .slice none 0 0] 36:=by rw[<-m];exact Bx.new w _ _
 have e:Sl (a0c .u32) 1 (mk (a0e X w.heap.size 1) W) ao l:=q.mono (a0c.mono _) (a0l j);obtain⟨b,r⟩:∃b,w.heap.size=b:=⟨_,rfl⟩;have t:w.heap.size<=b:=by omega
 rw[r]at h e;have d:Hid (a5X (s&&decide (0<l.length)) l (sg s n)):=hid (b2M p);cases s
 ·rw[Bool.false_and]at d
  go_enter Tryz.func172,Tryz.ntmps172
  go_wp2_with ((with_reducible show wpList _ _ _ (⟨_, .store _ _ _,_,_,_,_⟩::_) _ _);refine a0a a0H rfl rfl h rfl rfl (a3c _ _ _ _) ?_;intro o g a)
  have f:=(e.mono (a0c.mono _) (a0g a (by omega) (by omega))).mono (a0c.mono _) a0k;exact bodyPost_ret (a0d rfl rfl a0H g rfl) rfl ⟨ExtX.box j a (by omega),_,rfl,_,ao,c,l,rfl,i,d.out,f⟩
 ·rw[Bool.true_and]at d
  by_cases k:0<l.length
  ·rw[decide_eq_true k]at d
   go_enter Tryz.func172,Tryz.ntmps172
   go_wp2_with ((with_reducible show wpList _ _ _ (⟨_, .store _ _ _,_,_,_,_⟩::_) _ _);refine a0a a0H rfl rfl h rfl rfl (a3c _ _ _ _) ?_;intro o g a)
   have f:=(e.mono (a0c.mono _) (a0g a (by omega) (by omega))).mono (a0c.mono _) a0k;exact bodyPost_ret (a0d rfl rfl a0H g rfl) rfl ⟨ExtX.box j a (by omega),_,rfl,_,ao,c,l,rfl,i,d.out,f⟩
  ·rw[decide_eq_false k]at d
   obtain rfl:l= []:=List.eq_nil_of_length_eq_zero (by omega);clear k;simp only[List.length_nil]at i d e |-;go_enter Tryz.func172,Tryz.ntmps172
   go_wp2_with ((with_reducible show wpList _ _ _ (⟨_, .store _ _ _,_,_,_,_⟩::_) _ _);refine a0a a0H rfl rfl h rfl rfl (a3c _ _ _ _) ?_;intro o g a)
   have f:=(e.mono (a0c.mono _) (a0g a (by omega) (by omega))).mono (a0c.mono _) a0k;exact bodyPost_ret (a0d rfl rfl a0H g rfl) rfl ⟨ExtX.box j a (by omega),_,rfl,_,ao,c,[],rfl,i,d.out,f⟩
end Go.Proofs.YtgbbpgflopajaaaGreat
