/- Parts of a proof: each theorem states what it proves, and its conditions. -/
import Derived.Test.YtjmnhbebpffoaaaGreatIwC
import Derived.Laws.CopyRow
import Derived.Deep.RegionHeld3
import Derived.Deep.RegionWith
set_option maxRecDepth 100000
set_option maxHeartbeats 800000
namespace Go.Proofs.YtjmnhbebpffoaaaGreat
open Go.RowKit
theorem a2q(X:Nat->Bool)(ao:Option Addr)(l:List Nat)(a:Nat)(w:World)(c:Sl (a0c .u32) 1 (mk X w) ao l)(g:l.length<=4398046511104):Calls Tryz.prog 145 #[.slice ao l.length a] w fun e i=>w=i/\e=.returned (.bool (a1J l)):=by
 have f:=c.hd;by_cases d:l.length=0
 ·have b:l= []:=List.eq_nil_of_length_eq_zero d
  subst b;clear c f g d;simp only[List.length_nil];go_enter Tryz.func145,Tryz.ntmps145
  go_wp2_with fail
  go_ret
  exact⟨rfl,rfl⟩
 ·have j:=c.nat (l.length - 1) (by omega)
  have h:=hid (a3x (l:=l) (by omega));have hz:((l.length:Int)==0)=false:=a2C (by omega);go_enter Tryz.func145,Tryz.ntmps145
  go_wp2_with (with_reducible refine a0v a0Q ?_)
  go_ret
  exact⟨rfl,a0m (by rw[h.out];exact a8B _)⟩
theorem a6y(X:Nat->Bool)(ao:Option Addr)(l:List Nat)(c:Nat)(w:World)(f:Sl (a0c .u32) 1 (mk X w) ao l)(hd:Dig l)(n:l.length<=4398046511104)(p:∀k,X k=true->k<w.heap.size):Calls Tryz.prog 102 #[.slice ao l.length c] w (a4z X w (val l)):=by
 cases b:a1J l
 ·have h:=hid b
  go_enter Tryz.func102,Tryz.ntmps102
  go_wp2_with (go_at_call 145;refine(a2q X _ _ _ _ f n).mono ?_;rintro e r ⟨rfl,rfl⟩)
  go_ret
  have:vl l= []:=by unfold vl;rw[b];rfl
  exact⟨ExtX.refl _,none,0,[],rfl,by simp,this▸a4R hd,Sl.nil _ _ _ _⟩
 ·have h:=hid b
  have j:=OL.nil (a0c .u32) 1 X w.heap.size 114 w;have g:Sl (a0c .u32) 1 (mk (un X none) w) ao l:=f.mono (a0c.mono _) (a1a fun k _ q=>by simpa[un,ob]using q);go_enter Tryz.func102,Tryz.ntmps102
  go_wp2_with (first|(go_at_call 145;refine(a2q X _ _ _ _ f n).mono ?_;rintro e r ⟨rfl,rfl⟩)|(at_builtin;refine a3m (l:=[]) a0Q rfl (a0c.elem .u32) (c1B _) p l rfl rfl j g (by simp;omega) (by simp;omega) ?_;intro o i s a d _))
  go_ret
  have:vl l=l:=by unfold vl;rw[b];rfl
  have m:=a4R hd;rw[this]at m;exact⟨(ExtX.refl w).own j (c1B _) d,_,_,l,rfl,by simpa using a.lenCap,m,by simpa using a.sl (a0c.elem _)⟩
theorem a5c(X:Nat->Bool)(ao:Option Addr)(l:List Nat)(a:Nat)(w:World)(d:Sl (a0c .u32) 1 (mk X w) ao l)(hd:Dig l)(o:l.length<=4398046511104)(h:l.length<=a):Calls Tryz.prog 143 #[.slice ao l.length a] w (b2C X w ao l a):=by
 have j:=d.hd;go_enter Tryz.func143,Tryz.ntmps143
 go_wp2_with fail
 go_loop [0] (fun s=>∃k:Nat,s=.slice ao k a/\Cut l k) (fun s=>lenOf s)
 case atStart=>exact⟨_,rfl,Cut.all l⟩
 case round=>
  obtain⟨k,rfl,c⟩:=hrel;have n:=c.1;by_cases f:0<k
  ·have i:=d.nat (k - 1) (by omega)
   have m:Hd ao k:=fun _=>j (by omega);by_cases hz:l[k - 1]=0
   ·have e:=c.less f hz
    have g:=hid hz;rw[hz]at i;clear hz;go_wp2_with (with_reducible refine a0v a0Q ?_)
    go_round
    case rel=>exact⟨k - 1,by go_num,e⟩
    case measure=>simp[lenOf];omega
   ·have b:=c.canon hd (.inr ⟨by omega,hz⟩)
    have g:((l[k - 1]:Int)==0)=false:=a2C (by omega);go_wp2_with (with_reducible refine a0v a0Q ?_)
    go_ret
    exact⟨rfl,l.take k,a4T (by simp;omega),by simp;omega,b,d.take k⟩
  ·have b:=c.canon hd (.inl (by omega))
   go_wp2_with fail
   go_ret
   exact⟨rfl,l.take k,a4T (by simp;omega),by simp;omega,b,d.take k⟩
theorem a3Z(X:Nat->Bool)(ao:Option Addr)(l:List Nat)(c:Nat)(i:Nat)(w:World)(g:Sl (a0c .u32) 1 (mk X w) ao l)(hd:Dig l)(o:i<=4398046511104)(x:Nat)(j:l.getD i 0=x):Calls Tryz.prog 142 #[.slice ao l.length c,.int .i64 i] w fun e k=>w=k/\e=.returned (.int .u64 x):=by
 have n:=g.hd;have b:=hid j;clear j;by_cases h:i<l.length
 ·have m:=g.nat i h
  have d:l.getD i 0=l[i]:=by simp[List.getD,h]
  have a:=hid d;have f:=hd.get i h;rw[a1t]at f;go_enter Tryz.func142,Tryz.ntmps142
  go_wp2_with (with_reducible refine a0v a0Q ?_)
  go_ret
  exact⟨rfl,a0N (by rw[<-b.out,a.out])⟩
 ·have d:l.getD i 0=0:=by simp[List.getD,h]
  have a:=hid d;go_enter Tryz.func142,Tryz.ntmps142
  go_wp2_with (with_reducible refine a0v a0Q ?_)
  go_ret
  exact⟨rfl,a0N (by rw[<-b.out,a.out];rfl)⟩
theorem a7S(X:Nat->Bool)(n:Nat)(w:World)(hn:n<18446744073709551616)(hX:∀k,X k=true->k<w.heap.size):Calls Tryz.prog 97 #[.int .u64 n] w (a4z X w n):=by
 have hO:OL (a0c .u32) 1 X w.heap.size 114 (w.alloc (.cells #[.int .u32 ((n:Int)%4294967296),.int .u32 ((n:Int)/4294967296)] 114)) (some ⟨w.heap.size,0,none⟩) 2 [n%4294967296,n/4294967296]:=
  OL.lit (a0c.elem .u32) hX (c1B _) [.int .u32 ((n%4294967296:Nat):Int),.int .u32 ((n/4294967296:Nat):Int)] [n%4294967296,n/4294967296] _ (by simp[a0g,Value.cells]) rfl
   (fun i hi _=>by
            match i,hi with
            |0,_=>rfl
            |1,_=>rfl) (by simp)
 go_enter Tryz.func97,Tryz.ntmps97
 go_wp2_with fail
 refine(a5c X _ [n%4294967296,n/4294967296] _ _ (hO.sl (a0c.elem .u32)) (Dig.cons (by rw[a1t];exact Nat.mod_lt _ (by decide)) (Dig.cons (by rw[a1t];omega) Dig.nil)) (by simp) (by simp)).mono ?_;rintro e w' ⟨rfl,l',rfl,hl',hc,hs'⟩;go_wp2_with fail
 go_ret
 have hv:nv [n%4294967296,n/4294967296]=n:=by simp only[nv,a1t];omega
 rw[hv]at hc;exact⟨(ExtX.refl w).alloc _,_,2,_,rfl,by simpa using hl',hc,hs'⟩
theorem a7T(X:Nat->Bool)(f g:Option Addr)(a b:List Nat)(m n:Nat)(w:World)(j:Sl (a0c .u32) 1 (mk X w) f a)(l:Sl (a0c .u32) 1 (mk X w) g b)(y:a.length<=1099511627776)(z nb:Nat)(c:a0M a z)(d:a0M b nb):Calls Tryz.prog 188 #[.slice f a.length m,.slice g b.length n] w (a4A w (a3f z nb)):=by
 have u:=j.hd;have v:=l.hd;by_cases e:a.length<b.length
 ·have h:=hid (a4w c d e)
  have s:((a.length:Int) !=b.length)=true:=a7c (by omega);go_enter Tryz.func188,Tryz.ntmps188
  go_wp2_with fail
  go_ret
  exact⟨ExtX.refl _,a0N h.out.symm⟩
 by_cases r:b.length<a.length
 ·have h:=hid (a4x c d r)
  have s:((a.length:Int) !=b.length)=true:=a7c (by omega);go_enter Tryz.func188,Tryz.ntmps188
  go_wp2_with fail
  go_ret
  exact⟨ExtX.refl _,a0N h.out.symm⟩
 have s:((a.length:Int) !=b.length)=false:=b0B (by omega);have o:Hid (a.length=b.length):=hid (by omega);have t:b.length<=a.length:=by omega
 have C:a.length<=b.length:=by omega
 clear e r;go_enter Tryz.func188,Tryz.ntmps188
 go_wp2_with fail
 go_loopw [5] (fun i wr=>∃k:Nat,i=.int .i64 ((k:Int) - 1)/\k<=a.length/\Hid (a.drop k=b.drop k)/\Ext w wr) (fun i _=>(intOf i+1).toNat)
 case atStart=>exact⟨a.length,rfl,c1B _,hid (by rw[List.drop_of_length_le (c1B _),List.drop_of_length_le t]),ExtX.refl _⟩
 case round=>
  obtain⟨k,rfl,x,hdr,p⟩:=hrel;by_cases e:0<k
  ·have D:=(j.mono (a0c.mono _) (a0k p)).nat (k - 1) (by omega)
   have E:=(l.mono (a0c.mono _) (a0k p)).nat (k - 1) (by omega);have F:∀W,(Instr.indexAt 43 (.slice f a.length m) (.int .i64 ((k:Int) - 1))).run Tryz.prog W=.ok (.pointer (some (adr f (k - 1)))) W:=a0y a0Q f a.length m .i64 (k - 1) u (by omega) (by omega);have G:∀W,(Instr.indexAt 43 (.slice g b.length n) (.int .i64 ((k:Int) - 1))).run Tryz.prog W=.ok (.pointer (some (adr g (k - 1)))) W:=a0y a0Q g b.length n .i64 (k - 1) v (by omega) (by omega);by_cases A:a[k - 1]<b[k - 1]
   ·have h:=hid (a7l c d o.out e x hdr.out A)
    have H:((a[k - 1]:Int)<(b[k - 1]:Int)):=by omega
    go_wp2_with fail
    go_quiet (fail)
    go_wp2_with fail
    go_ret
    exact⟨p.drewN _,a0N h.out.symm⟩
   by_cases B:b[k - 1]<a[k - 1]
   ·have h:=hid (a7m c d o.out e x hdr.out B)
    go_wp2_with fail
    go_quiet (fail)
    go_wp2_with fail
    go_quiet (fail)
    go_wp2_with fail
    go_ret
    exact⟨(p.drewN _).drewN _,a0N h.out.symm⟩
   ·have q:=hid (a5O o.out e x hdr.out (by omega))
    go_wp2_with fail
    go_quiet (fail)
    go_wp2_with fail
    go_quiet (fail)
    go_wp2_with fail
    go_roundw
    case rel=>exact⟨k - 1,by go_num,by omega,q,p.drewN _⟩
    case measure=>simp[intOf];omega
  ·have h:=hid (a7n c d (k:=k) (by omega) hdr.out)
   go_wp2_with fail
   go_ret
   exact⟨p,a0N h.out.symm⟩
theorem b4L(X:Nat->Bool)(ao bo:Option Addr)(D E:List Nat)(ca cb:Nat)(w:World)(O:Sl (a0c .u32) 1 (mk X w) ao D)(Q:Sl (a0c .u32) 1 (mk X w) bo E)(u:Dig D)(z:Dig E)(I:D.length<=1099511627776)(J:E.length<=1099511627776)(hX:∀k,X k=true->k<w.heap.size)(na nb:Nat)(L:val D=na)(M:val E=nb):Calls Tryz.prog 96 #[.slice ao D.length ca,.slice bo E.length cb] w (a4z X w (na+nb)):=by
 go_enter Tryz.func96,Tryz.ntmps96
 go_wp2_with fail
 refine(a6y X _ _ _ _ O u (by omega) hX).mono ?_;rintro e w1 ⟨p,a0,a3,a,rfl,b6,d,n⟩;have s:∀k,X k=true->k<w1.heap.size:=fun k C=>c1C (hX k C) p.size;go_wp2_with fail
 refine(a6y X _ _ _ _ (Q.mono (a0c.mono _) (a0k p)) z (by omega) s).mono ?_;rintro e Z ⟨l,a2,a4,b,rfl,b7,f,R⟩;have a7:∀k,X k=true->k<Z.heap.size:=fun k C=>c1C (s k C) l.size;have b8:a.length<=1099511627776:=by rw[d.len];exact c1A (b2w D u) I
 have b9:b.length<=1099511627776:=by rw[f.len];exact c1A (b2w E z) J
 replace n:=n.mono (a0c.mono _) (a0k l)
 rw[L]at d;rw[M]at f;have U:Hid (nv a+nv b=na+nb):=hid (by rw[d.2.2,f.2.2]);have h:=d.1;have j:=f.1;have a5:=p.trans l;clear L M O Q I J d f u z p l s;obtain⟨m,hm⟩:=c1F (max a.length b.length);have b1:a.length<=m:=by omega
 have b2:b.length<=m:=by omega
 have c3:m<=1099511627776:=by omega
 have c4:(if a.length<b.length then(b.length:Int)else(a.length:Int))=(m:Int):=by split<;>omega
 clear hm;go_wp2_with fail
 go_loopw [5,6,7] (fun v c i wr=>∃(k:Nat) (o:List Nat) (A:Nat) (oo:Option Addr) (cp:Nat),i=.int .i64 k/\c=.int .u64 A/\v=.slice oo o.length cp/\k<=m+1/\a3g a b o k A/\OL (a0c .u32) 1 X Z.heap.size 114 wr oo cp o/\Ext Z wr) (fun _ _ i _=>m+1 - (intOf i).toNat)
 case atStart=>exact⟨0,[],0,none,0,rfl,rfl,rfl,by omega,a3g.start a b,OL.nil _ _ _ _ _ _,ExtX.refl _⟩
 case round=>
  obtain⟨k,o,A,oo,cp,rfl,rfl,rfl,C,g,Y,B⟩:=hrel;have N:=hid g.1;have c0:=g.2.2.1;have a8:∀k,X k=true->k<wr.heap.size:=fun k C=>c1C (a7 k C) B.size;have t:Z.heap.size<=wr.heap.size:=B.size;by_cases c2:k<=m
  ·have P:=n.mono (a0c.mono _) (a0k B)
   have S:=R.mono (a0c.mono _) (a0k B);have T:=g.step h j;have hx:=h.getD k;have hy:=j.getD k;rw[a1t]at hx hy;obtain⟨x,q⟩:=c1F (a.getD k 0);obtain⟨y,r⟩:=c1F (b.getD k 0);rw[q,r]at T;rw[q]at hx;rw[r]at hy;have V:=hid q;have W:=hid r;clear q r;go_wp2_with fail
   refine(a3Z X a0 a a3 k _ P h (by omega) x V.out).mono ?_;rintro e w' ⟨rfl,rfl⟩;go_wp2_with fail
   refine(a3Z X a2 b a4 k _ S j (by omega) y W.out).mono ?_;rintro e w' ⟨rfl,rfl⟩;have K:o.length<=2199023255552:=by rw[N.out];omega
   go_wp2_with (at_builtin;refine a3l a0Q rfl (a0c.elem .u32) t a8 rfl rfl Y (.int .u32 (((x+y+A)%4294967296:Nat):Int)) ((x+y+A)%4294967296) (by simp[Value.cells]) rfl (by omega) (by omega) ?_;intro a1 F w3 a6 l _)
   go_roundw
   case rel=>exact⟨k+1,_,(x+y+A)/4294967296,a1,F,by go_num,by simp,by simp,by omega,T,a6,B.own Y (c1B _) l⟩
   case measure=>simp[intOf];omega
  ·have a9:k=m+1:=by omega
   subst a9;have G:=g.done h j b1 b2;have b3:=g.2.1;have b5:=Y.sl (a0c.elem .u32);have K:o.length<=2199023255552:=by rw[N.out];omega
   have b0:=Y.lenCap;have H:=hid G;clear G;go_wp2_with fail
   refine(a5c X _ _ _ _ b5 b3 (by omega) b0).mono ?_;rintro e w' ⟨rfl,l',rfl,c1,hc,b4⟩;go_wp2_with fail
   go_ret
   rw[H.out,U.out]at hc;exact⟨a5.trans B,_,_,_,rfl,by omega,hc,b4⟩
def a3A(a b o:List Nat)(i c:Nat):Prop:=o.length=i/\Dig o/\c<=1/\nv o+nv (b.take i)=nv (a.take i)+B^i*c
theorem a3A.start(a b:List Nat):a3A a b [] 0 0:=⟨rfl,Dig.nil,by omega,by simp[nv]⟩
theorem a3A.step{a b o:List Nat}{i c x y:Nat}(h:a3A a b o i c)(j:a.getD i 0=x)(k:b.getD i 0=y)(t:Dig a)(u:Dig b):a3A a b (o++[a4H x y c]) (i+1) (a6w x y c):=by
 obtain⟨g,r,s,v⟩:=h;have e:=t.getD i;have f:=u.getD i;rw[j]at e;rw[k]at f;obtain⟨m,n,p⟩:=a9w e f s;refine⟨by simp[g],r.append (Dig.cons n Dig.nil),p,?_⟩;rw[a2i,g,a1o,a1o,j,k,Nat.pow_succ];generalize a4H x y c=d at*;generalize a6w x y c=l at*;have q:B^i*(d+y+c)=B^i*(x+B*l):=by rw[m]
 rw[Nat.mul_add,Nat.mul_add,Nat.mul_add]at q;rw[Nat.mul_assoc];omega
theorem a3A.done{a b o:List Nat}{c:Nat}(h:a3A a b o a.length c)(d:b.length<=a.length)(j:nv b<=nv a):nv o=nv a - nv b:=by
 obtain⟨e,f,k,g⟩:=h;rw[c1D d,c1D (c1B _)]at g;have i:=a4Q f;rw[e]at i;rcases(by omega:c=0\/c=1)with rfl|rfl
 ·omega
 ·omega
theorem b2N{x y c:Nat}(b:x<4294967296)(d:y<4294967296)(a:c<=1):(x+4294967296 - y - c)%4294967296=a4H x y c/\1 - (x+4294967296 - y - c)/4294967296=a6w x y c:=by
 unfold a4H a6w;refine⟨rfl,?_⟩;split<;>omega
def a5d(a:List Nat)(v by_:Nat)(o:List Nat)(i c:Nat):Prop:=o.length=by_+i/\Dig o/\c<B/\nv o+B^(by_+i)*c=B^by_*(nv (a.take i)*v)
theorem a5d.start(a:List Nat)(v b:Nat):a5d a v b (List.replicate b 0) 0 0:=⟨by simp,Dig.zeros _,a2B,by simp[nv,b0u]⟩
theorem a5d.step{a o:List Nat}{v b i c x:Nat}(h:a5d a v b o i c)(j:a.getD i 0=x)(s:Dig a)(w:v<4294967296):a5d a v b (o++[(x*v+c)%4294967296]) (i+1) ((x*v+c)/4294967296)/\x*v+c<18446744073709551616:=by
 obtain⟨g,n,p,t⟩:=h;have f:=s.getD i;rw[j,a1t]at f;rw[a1t]at p;have u:x*v<=4294967295*4294967295:=Nat.mul_le_mul (by omega) (by omega);have d:x*v+c<18446744073709551616:=by omega
 refine⟨⟨by simp[g];omega,n.append (Dig.cons (by rw[a1t];exact Nat.mod_lt _ (by decide)) Dig.nil),by rw[a1t];omega,?_⟩,d⟩;rw[a2i,g,a1o,j,<-Nat.add_assoc,Nat.pow_succ];have e:=Nat.div_add_mod (x*v+c) 4294967296;generalize (x*v+c)/4294967296=q at*;generalize (x*v+c)%4294967296=r at*;have k:B^(b+i)*(4294967296*q+r)=B^(b+i)*(x*v+c):=by rw[e]
 rw[Nat.mul_add,Nat.mul_add]at k;have l:B^(b+i)*B*q=B^(b+i)*(4294967296*q):=by rw[a1t,Nat.mul_assoc]
 have m:B^b*((nv (a.take i)+B^i*x)*v)=B^b*(nv (a.take i)*v)+B^(b+i)*(x*v):=by
  rw[Nat.add_mul,Nat.mul_add,Nat.pow_add,Nat.mul_assoc (B^i),<-Nat.mul_assoc (B^b) (B^i)]
 rw[l,m];omega
theorem a5d.done{a o:List Nat}{v b c:Nat}(h:a5d a v b o (a.length+1) c)(k:Dig a)(m:v<4294967296):Dig o/\nv o=nv a*v*B^b:=by
 obtain⟨p,i,q,d⟩:=h;rw[c1D (by omega)]at d;have j:=a4Q k;have l:c=0:=by
  by_cases g:c=0
  ·exact g
  ·have n:B^(b+(a.length+1))*1<=B^(b+(a.length+1))*c:=Nat.mul_le_mul_left _ (by omega)
   have e:nv a*v<B^(a.length+1):=by
    rw[Nat.pow_succ];exact Nat.lt_of_le_of_lt (Nat.mul_le_mul_left _ (Nat.le_of_lt (show v<B by rw[a1t];exact m))) (Nat.mul_lt_mul_of_pos_right j a2B)
   have f:B^b*(nv a*v)<B^b*B^(a.length+1):=Nat.mul_lt_mul_of_pos_left e (Nat.pow_pos a2B);rw[<-Nat.pow_add]at f;omega
 subst l;exact⟨i,by rw[Nat.mul_zero,Nat.add_zero]at d;rw[d,Nat.mul_comm]⟩
theorem b4M{l:List Nat}(hd:Dig l)(k:Nat):l.getD k 0=nv l/B^k%B:=by
 by_cases a:k<l.length
 ·have b:=a2t l k (by omega)
  have c:=a2e hd k;have d:nv (l.drop k)=l[k]+B*nv (l.drop (k+1)):=a5C a;have e:0<B^k:=Nat.pow_pos a2B;rw[a0B a,b,Nat.add_mul_div_left _ _ e,Nat.div_eq_of_lt c,Nat.zero_add,d,Nat.add_mul_mod_self_left,Nat.mod_eq_of_lt (hd.get k a)]
 ·have b:=a4Q hd
  have c:B^l.length<=B^k:=Nat.pow_le_pow_right a2B (by omega);rw[a4p (by omega),Nat.div_eq_of_lt (by omega)];simp
theorem b9c{l:List Nat}{n:Nat}(h:a0M l n)(i:Nat):l.getD (i/32) 0/2^(i%32)%2=n/2^i%2:=by
 rw[b4M h.1,h.2.2];have e:i=32*(i/32)+i%32:=by omega
 have b:i%32<32:=Nat.mod_lt _ (by decide);generalize i/32=p at*;generalize i%32=s at*;subst e;rw[b6X,Nat.pow_add,<-Nat.div_div_eq_div_mul];generalize n/2^(32*p)=y;have a:B=2^s*(2*2^(31 - s)):=by
  rw[a1t,<-Nat.pow_succ',<-Nat.pow_add,show s+(31 - s).succ=32 by omega]
 rw[a,Nat.mod_mul_right_div_self];rw[Nat.mod_mul_right_mod]
def a3c(a b q r i:Nat):Prop:=q=a/2^i/b/\r=a/2^i%b
theorem a3c.start{a b k:Nat}(h:a<2^k):a3c a b 0 0 k:=by
 unfold a3c;rw[Nat.div_eq_of_lt h];exact⟨by simp,by simp⟩
theorem a3c.step{a b q r i t:Nat}(h:a3c a b q r (i+1))(f:0<b)(o:a/2^i%2=t):r<b/\(2*r+t<b->a3c a b (2*q) (2*r+t) i)/\(b<=2*r+t->a3c a b (2*q+1) (2*r+t - b) i):=by
 obtain⟨j,d⟩:=h;rw[Nat.pow_succ,<-Nat.div_div_eq_div_mul]at j d;have e:=Nat.div_add_mod (a/2^i) 2;rw[o]at e;have k:=Nat.div_add_mod (a/2^i/2) b;rw[<-j,<-d]at k;have n:r<b:=by rw[d];exact Nat.mod_lt _ f
 unfold a3c;generalize a/2^i=y at*;generalize y/2=z at*;have g:y=b*(2*q)+(2*r+t):=by
  rw[Nat.mul_left_comm];omega
 refine⟨n,fun c=>?_,fun m=>?_⟩
 ·rw[g]
  exact⟨by rw[Nat.mul_add_div f,Nat.div_eq_of_lt c,Nat.add_zero],by rw[Nat.mul_add_mod,Nat.mod_eq_of_lt c]⟩
 ·have c:2*r+t - b<b:=by omega
  have l:y=b*(2*q+1)+(2*r+t - b):=by rw[g,Nat.mul_add,Nat.mul_one];omega
  rw[l];exact⟨by rw[Nat.mul_add_div f,Nat.div_eq_of_lt c,Nat.add_zero],by rw[Nat.mul_add_mod,Nat.mod_eq_of_lt c]⟩
theorem a3c.done{a b q r:Nat}(h:a3c a b q r 0):q=a/b/\r=a%b:=by
 unfold a3c at h;simpa using h
def HX(X:Nat->Bool)(w:World):Prop:=∀k,X k=true->k<w.heap.size
theorem HX.ext{X Y:Nat->Bool}{w a:World}(h:HX X w)(b:ExtX Y w a):HX X a:=fun k c=>c1C (h k c) b.size
theorem HX.none(w:World):HX noY w:=fun k a=>by simp[noY]at a
def NV(h:Mem)(u:Value)(n:Nat):Prop:=∃ao c l,u=.slice ao l.length c/\l.length<=c/\Dig l/\l.length<=1099511627776/\Sl (a0c .u32) 1 h ao l/\val l=n
def NC(h:Mem)(u:Value)(n:Nat):Prop:=∃ao c l,u=.slice ao l.length c/\l.length<=c/\a0M l n/\Sl (a0c .u32) 1 h ao l
theorem NV.mono:a3K NV:=by rintro h i u x g ⟨ao,c,l,rfl,a,b,d,e,f⟩;exact⟨ao,c,l,rfl,a,b,d,e.mono (a0c.mono _) g,f⟩
theorem NC.mono:a3K NC:=by rintro h f u x e ⟨ao,c,l,rfl,a,b,d⟩;exact⟨ao,c,l,rfl,a,b,d.mono (a0c.mono _) e⟩
theorem NC.nv{h:Mem}{u:Value}{n:Nat}(f:NC h u n)(e:lg n<=1099511627776):NV h u n:=by
 obtain⟨ao,c,l,rfl,b,a,d⟩:=f;exact⟨ao,c,l,rfl,b,a.1,by rw[a.len];exact e,d,a.val⟩
theorem NC.zero(h:Mem):NC h (.slice none 0 0) 0:=⟨none,0,[],rfl,c1B _,a0M.nil,Sl.nil _ _ _ _⟩
theorem NV.lg{h:Mem}{u:Value}{n:Nat}(d:NV h u n):lg n<=1099511627776:=by
 obtain⟨ao,c,l,rfl,e,a,b,f,rfl⟩:=d;exact c1A (b2w l a) b
def a2b{α:Type}(X:Nat->Bool)(w:World)(R:Mem->Value->α->Prop)(x:α)(e:Ending)(w':World):Prop:=Ext w w'/\∃u,e=.returned u/\R (mk X w') u x
theorem mkx{X:Nat->Bool}{w a:World}{α:Type}{R:Mem->Value->α->Prop}(c:a3K R){u:Value}{x:α}(h:R (mk X w) u x)(b:Ext w a):R (mk X a) u x:=c _ _ _ _ (a0k b) h
theorem a4z.r{X:Nat->Bool}{w:World}{n:Nat}{e:Ending}{a:World}(h:a4z X w n e a):a2b X w NC n e a:=by
 obtain⟨g,ao,c,l,rfl,b,d,f⟩:=h;exact⟨g,_,rfl,ao,c,l,rfl,b,d,f⟩
section
variable {X:Nat->Bool} {w:World} {u v:Value} {a b:Nat}
theorem c0r(n:HX X w)(o:NV (mk X w) u a)(p:NV (mk X w) v b):Calls Tryz.prog 133 #[u,v] w (a2b X w NC (a+b)):=by
 obtain⟨ao,c,l,rfl,f,g,i,j,k⟩:=o;obtain⟨e,d,m,rfl,q,s,t,x,y⟩:=p;exact(b7g X ao e l m c d w j x g s i t f q n a b k y).mono fun _ _ h=>h.r
theorem b6o(n:HX X w)(o:NV (mk X w) u a)(p:NV (mk X w) v b):Calls Tryz.prog 77 #[u,v] w (a2b X w NC (a*b)):=by
 obtain⟨ao,c,l,rfl,f,g,i,j,k⟩:=o;obtain⟨e,d,m,rfl,q,s,t,x,y⟩:=p;exact(b7h X ao e l m c d w j x g s i t f q n a b k y).mono fun _ _ h=>h.r
theorem c1d(n:HX X w)(o:NV (mk X w) u a)(p:NV (mk X w) v b):Calls Tryz.prog 125 #[u,v] w (a2b X w NC (Nat.gcd a b)):=by
 obtain⟨ao,c,l,rfl,f,g,i,j,k⟩:=o;obtain⟨e,d,m,rfl,q,s,t,x,y⟩:=p;exact(b7s X ao e l m c d w j x g s i t f q n a b k y).mono fun _ _ h=>h.r
theorem c0i(k:NV (mk X w) u a)(n:NV (mk X w) v b):Calls Tryz.prog 127 #[u,v] w (a4A w (a3f a b)):=by
 obtain⟨ao,c,l,rfl,f,g,h,i,j⟩:=k;obtain⟨e,d,m,rfl,o,p,q,r,s⟩:=n;exact a3z X ao e l m c d w i r g p h q f o a b j s
def c1e(X:Nat->Bool)(w:World)(q r:Nat)(e:Ending)(w':World):Prop:=Ext w w'/\∃u v,e=.returned (.tuple #[u,v,.bool true])/\NC (mk X w') u q/\NC (mk X w') v r
theorem c1f(s:HX X w)(x:NV (mk X w) u a)(y:NV (mk X w) v b)(t:0<b):Calls Tryz.prog 126 #[u,v] w (c1e X w (a/b) (a%b)):=by
 obtain⟨ao,c,l,rfl,k,n,o,p,q⟩:=x;obtain⟨h,d,m,rfl,z,A,B,C,D⟩:=y;refine(a9z X ao h l m c d w p C n A o B k z s a b q D t).mono ?_;rintro e M ⟨r,f,i,E,g,j,F,rfl,G,H,I,J,K,L⟩;exact⟨r,_,_,rfl,⟨f,i,E,rfl,G,H,I⟩,⟨g,j,F,rfl,J,K,L⟩⟩
def c1g(X:Nat->Bool)(w:World)(d:Nat)(b:Bool)(e:Ending)(w':World):Prop:=Ext w w'/\∃u,e=.returned (.tuple #[u,.bool b])/\NC (mk X w') u d
theorem c1h(q:HX X w)(r:NV (mk X w) u a)(s:NV (mk X w) v b):Calls Tryz.prog 141 #[u,v] w (c1g X w (a - b) (decide (b<=a))):=by
 obtain⟨ao,c,l,rfl,i,j,k,n,o⟩:=r;obtain⟨g,d,m,rfl,t,x,y,z,A⟩:=s;refine(b7n X ao g l m c d w n z j x k y i t q a b o A).mono ?_;rintro e F ⟨p,f,h,B,rfl,C,D,E⟩;exact⟨p,_,rfl,f,h,B,rfl,C,D,E⟩
theorem b9d(b:HX X w)(c:a<18446744073709551616):Calls Tryz.prog 124 #[.int .u64 a] w (a2b X w NC a):=
 (a3W X a w c b).mono fun _ _ h=>h.r
theorem b4N(k:HX X w)(n:NV (mk X w) u a)(o:NV (mk X w) v b):Calls Tryz.prog 96 #[u,v] w (a2b X w NC (a+b)):=by
 obtain⟨ao,c,l,rfl,x,f,g,i,j⟩:=n;obtain⟨e,d,m,rfl,y,p,q,s,t⟩:=o;exact(b4L X ao e l m c d w i s f p g q k a b j t).mono fun _ _ h=>h.r
theorem a4a(e:HX X w)(f:NV (mk X w) u a):Calls Tryz.prog 102 #[u] w (a2b X w NC a):=by
 obtain⟨ao,c,l,rfl,g,b,i,d,rfl⟩:=f;exact(a6y X ao l c w d b (by omega) e).mono fun _ _ h=>h.r
theorem b6p(b:HX X w)(c:a<18446744073709551616):Calls Tryz.prog 97 #[.int .u64 a] w (a2b X w NC a):=
 (a7S X a w c b).mono fun _ _ h=>h.r
end
theorem b7t(X:Nat->Bool)(w:World)(u v:Value)(r nb:Nat)(Z:HX X w)(hu:NV (mk X w) u r)(hv:NV (mk X w) v nb):Calls Tryz.prog 148 #[u,v] w (c1g X w (r - nb) (decide (nb<=r))):=by
 have L:=hu.lg;have M:=hv.lg;go_enter Tryz.func148,Tryz.ntmps148
 go_wp2_with fail
 refine(a4a Z hu).mono ?_;rintro e w1 ⟨l,u1,rfl,T⟩;go_wp2_with fail
 refine(a4a (Z.ext l) (mkx NV.mono hv l)).mono ?_;rintro e w2 ⟨j,v1,rfl,b6⟩;obtain⟨ao,ca,a,rfl,b8,d,F⟩:=mkx NC.mono T j;obtain⟨bo,cb,b,rfl,b9,f,G⟩:=b6;have J:=Z.ext (l.trans j);have a5:a.length<=1099511627776:=by rw[d.len];exact L
 have b7:b.length<=1099511627776:=by rw[f.len];exact M
 have A:=l.trans j;have n:=hid d.len;have p:=hid f.len;clear hu hv T l j Z L M;go_wp2_with fail
 refine(a7T X ao bo a b ca cb w2 F G a5 r nb d f).mono ?_;rintro e w3 ⟨m,rfl⟩;have a2:=J.ext m;have B:=A.trans m;by_cases q:r<nb
 ·have hc:a3f r nb<0:=(a3R _ _).2 q
  have hd:Hid (decide (nb<=r)=false):=hid (decide_eq_false (by omega));have hz:Hid (r - nb=0):=hid (by omega);clear q;go_wp2_with fail
  go_ret2
  exact⟨B,.slice none 0 0,by rw[hd.out];rfl,by rw[hz.out];exact NC.zero _⟩
 ·have hc:¬a3f r nb<0:=fun h=>q ((a3R _ _).1 h)
  have hd:Hid (decide (nb<=r)=true):=hid (decide_eq_true (by omega));have a4:b.length<=a.length:=by rw[n.out,p.out];exact a1l (by omega)
  have b1:Hid (nv b<=nv a):=hid (by rw[d.2.2,f.2.2];omega);have S:Hid (nv a - nv b=r - nb):=hid (by rw[d.2.2,f.2.2]);have D:=d.1;have E:=f.1;have O:=F.mono (a0c.mono _) (a0k m);have Q:=G.mono (a0c.mono _) (a0k m);clear q d f m A J F G n p;go_wp2_with fail
  go_loopw [6,7,8] (fun v c i wr=>∃(k:Nat) (o:List Nat) (s:Nat) (oo:Option Addr) (W:Nat),i=.int .i64 k/\c=.int .u64 s/\v=.slice oo o.length W/\k<=a.length/\s<=1/\Hid (a3A a b o k s)/\o.length<=k/\OL (a0c .u32) 1 X w3.heap.size 114 wr oo W o/\Ext w3 wr) (fun _ _ i _=>a.length - (intOf i).toNat)
  case atStart=>exact⟨0,[],0,none,0,rfl,rfl,rfl,by omega,by omega,hid (a3A.start a b),by simp,OL.nil _ _ _ _ _ _,ExtX.refl _⟩
  case round=>
   obtain⟨k,o,s,oo,W,rfl,rfl,rfl,hk,a7,g,c1,Y,H⟩:=hrel;have a3:∀k,X k=true->k<wr.heap.size:=fun k hk=>c1C (a2 k hk) H.size;have C:w3.heap.size<=wr.heap.size:=H.size;by_cases q:k<a.length
   ·have N:=O.mono (a0c.mono _) (a0k H)
    have P:=Q.mono (a0c.mono _) (a0k H);have hx:=D.getD k;have hy:=E.getD k;rw[a1t]at hx hy;obtain⟨x,t⟩:=c1F (a.getD k 0);obtain⟨y,z⟩:=c1F (b.getD k 0);rw[t]at hx;rw[z]at hy;have b5:=hid (g.out.step t z D E);have R:=hid (b2N hx hy a7);have K:a6w x y s<=1:=by unfold a6w;split<;>omega
    have U:=hid t;have V:=hid z;clear t z g;go_wp2_with fail
    refine(a3Z X ao a ca k _ N D (by omega) x U.out).mono ?_;rintro e w' ⟨rfl,rfl⟩;go_wp2_with fail
    refine(a3Z X bo b cb k _ P E (by omega) y V.out).mono ?_;rintro e w' ⟨rfl,rfl⟩;go_wp2_with (at_builtin;refine a3l a0Q rfl (a0c.elem .u32) C a3 rfl rfl Y (.int .u32 ((a4H x y s:Nat):Int)) (a4H x y s) (by rw[<-R.out.1];simp[Value.cells];omega) rfl (by omega) (by omega) ?_;intro a0 I w5 a1 j _)
    have a6:Hid ((1:Int) - ((x:Int)+4294967296 - (y:Int) - (s:Int))/4294967296=((a6w x y s:Nat):Int)):=hid (by have:=R.out.2;omega);go_roundw
    case rel=>exact⟨k+1,_,a6w x y s,a0,I,by go_num,by rw[a6.out],by simp,by omega,K,b5,by simp;omega,a1,H.own Y (c1B _) j⟩
    case measure=>simp[intOf];omega
   ·have a9:k=a.length:=by omega
    subst a9;have a8:=hid (g.out.done a4 b1.out);have b2:=g.out.2.1;have b4:=Y.sl (a0c.elem .u32);have b0:=Y.lenCap;go_wp2_with fail
    refine(a5c X _ _ _ _ b4 b2 (by omega) b0).mono ?_;rintro e w' ⟨rfl,l',rfl,c0,hc,b3⟩;go_wp2_with fail
    go_ret2
    rw[a8.out,S.out]at hc;exact⟨B.trans H,_,by rw[hd.out];rfl,oo,W,l',rfl,by omega,hc,b3⟩
theorem b2O(X:Nat->Bool)(w:World)(u:Value)(n v b:Nat)(V:HX X w)(hu:NC (mk X w) u n)(Z:lg n<=549755813888)(hb:b<=549755813888)(hv:v<4294967296):Calls Tryz.prog 149 #[u,.int .u32 v,.int .i64 b] w (a2b X w NC (n*v*B^b)):=by
 obtain⟨ao,ca,a,rfl,a1,d,R⟩:=hu;have a0:a.length<=549755813888:=by rw[d.len];exact Z
 have p:=d.1;have N:=hid d.2.2;clear d Z;go_enter Tryz.func149,Tryz.ntmps149
 go_wp2_with (at_make;refine a2x a0Q (a0c.elem .u32) 0 (fun _=>rfl) X V w.heap.size (c1B _) b rfl rfl (by omega) (by omega) (by omega) ?_;intro oo w1 l z)
 go_loopw [7,8,9] (fun v_ c i wr=>∃(k:Nat) (o:List Nat) (r:Nat) (oo:Option Addr) (F:Nat),i=.int .i64 k/\c=.int .u64 r/\v_=.slice oo o.length F/\k<=a.length+1/\r<4294967296/\Hid (a5d a v b o k r)/\o.length<=b+k/\OL (a0c .u32) 1 X w.heap.size 114 wr oo F o/\Ext w wr) (fun _ _ i _=>a.length+1 - (intOf i).toNat)
 case atStart=>exact⟨0,_,0,oo,b,rfl,rfl,by simp,by omega,by omega,hid (a5d.start a v b),by simp,l,z⟩
 case round=>
  clear l z;obtain⟨k,o,r,U,F,rfl,rfl,rfl,Y,a2,f,a5,l,y⟩:=hrel;have J:∀k,X k=true->k<wr.heap.size:=fun k Y=>c1C (V k Y) y.size;have m:w.heap.size<=wr.heap.size:=y.size;by_cases a4:k<=a.length
  ·have D:=R.mono (a0c.mono _) (a0k y)
   obtain⟨x,q⟩:=c1F (a.getD k 0);obtain⟨h,j⟩:=f.out.step q p hv;have E:=hid q;obtain⟨t,T⟩:=c1F (x*v+r);rw[T]at h j;have S:=hid h;have a6:IntKind.u64.wrap ((x:Int)*(v:Int))=(x:Int)*(v:Int):=IntWalk.u64_in _ (by rw[<-Int.natCast_mul];omega);have a7:IntKind.u64.wrap ((x:Int)*(v:Int)+(r:Int))=(t:Int):=by
    rw[<-T,Int.natCast_add,Int.natCast_mul];exact IntWalk.u64_in _ (by rw[<-Int.natCast_mul];omega)
   have A:t/4294967296<4294967296:=by omega
   have C:decide ((k:Int)<=(a.length:Int))=true:=decide_eq_true (by omega);clear q f h T j;go_wp2_with fail
   refine(a3Z X ao a ca k _ D p (by omega) x E.out).mono ?_;rintro e w' ⟨rfl,rfl⟩;go_wp2_with (at_builtin;refine a3l a0Q rfl (a0c.elem .u32) m J rfl rfl l (.int .u32 ((t%4294967296:Nat):Int)) (t%4294967296) (by simp[Value.cells]) rfl (by omega) (by omega) ?_;intro G s w5 I H _)
   go_roundw
   case rel=>exact⟨k+1,_,t/4294967296,G,s,by go_num,by rw[Int.natCast_ediv];rfl,by simp,by omega,A,S,by simp;omega,I,y.own l (c1B _) H⟩
   case measure=>simp[intOf];omega
  ·have L:k=a.length+1:=by omega
   subst L;have g:=f.out.done p hv;have K:=hid g.2;have O:=g.1;have Q:=l.sl (a0c.elem .u32);have M:=l.lenCap;have C:decide (((a.length+1:Nat):Int)<=(a.length:Int))=false:=decide_eq_false (by omega);clear g f;go_wp2_with fail
   refine(a5c X _ _ _ _ Q O (by omega) M).mono ?_;rintro e w' ⟨rfl,l',rfl,a3,W,P⟩;go_wp2_with fail
   go_ret
   rw[K.out,N.out]at W;exact⟨y,_,rfl,U,F,l',rfl,by omega,W,P⟩
theorem b4O(X:Nat->Bool)(w:World)(u v:Value)(a nb:Nat)(E:HX X w)(R:NV (mk X w) u a)(S:NV (mk X w) v nb)(P:lg a<=274877906944)(Q:lg nb<=274877906944):Calls Tryz.prog 107 #[u,v] w (a2b X w NC (a*nb)):=by
 go_enter Tryz.func107,Tryz.ntmps107
 go_wp2_with fail
 refine(a4a E R).mono ?_;rintro e w1 ⟨d,Z,rfl,D⟩;go_wp2_with fail
 refine(a4a (E.ext d) (mkx NV.mono S d)).mono ?_;rintro e w2 ⟨f,v1,rfl,M⟩;have L:=mkx NC.mono D f;obtain⟨bo,cb,b,rfl,V,c,z⟩:=M;have G:=E.ext (d.trans f);have U:b.length<=274877906944:=by rw[c.len];exact Q
 have q:=d.trans f;have s:=c.1;have H:=hid c.2.2;have W:=z.hd;have h:=hid P;clear R S D d f E Q c P;go_wp2_with fail
 go_loopw [5,6] (fun o i wr=>∃(k:Nat),i=.int .i64 k/\k<=b.length/\NC (mk X wr) o (a*nv (b.take k))/\Ext w2 wr) (fun _ i _=>b.length - (intOf i).toNat)
 case atStart=>exact⟨0,rfl,by omega,by simpa[nv]using NC.zero _,ExtX.refl _⟩
 case round=>
  obtain⟨k,rfl,hk,I,p⟩:=hrel;have r:=G.ext p;by_cases m:k<b.length
  ·have l:=(z.mono (a0c.mono _) (a0k p)).nat k m
   have N:=s.get k m;obtain⟨x,n⟩:=c1F (b[k]);have J:Hid (a*nv (b.take k)+a*x*B^k=a*nv (b.take (k+1))):=hid (by rw[a0F b k m,n,Nat.mul_add,Nat.mul_assoc a x,Nat.mul_comm x]);rw[n]at l N;rw[a1t]at N;have K:Hid (lg (a*nv (b.take k))<=1099511627776):=hid (by
    have O:=a0Z a (nv (b.take k));have T:lg (nv (b.take k))<=k:=a3e.2 (a2e s k);have:=h.out;omega)
   have A:Hid (lg (a*x*B^k)<=1099511627776):=hid (by
    have O:a*x*B^k<B^(lg a+1+k):=by
     rw[Nat.pow_add,Nat.pow_succ];refine Nat.mul_lt_mul_of_pos_right ?_ (Nat.pow_pos a2B);refine Nat.lt_of_le_of_lt (Nat.mul_le_mul_left _ (show x<=B by rw[a1t];omega)) (Nat.mul_lt_mul_of_pos_right (a3e.1 (c1B _)) a2B)
    have T:=a3e.2 O;have:=h.out;omega)
   clear n;go_wp2_with (with_reducible refine a0v a0Q ?_)
   refine(b2O X wr Z a x k r (mkx NC.mono L p) (by have:=h.out;omega) (by omega) N).mono ?_;rintro e w4 ⟨j,t,rfl,Y⟩;go_wp2_with fail
   refine(b4N (r.ext j) (mkx NV.mono (I.nv K.out) j) (Y.nv A.out)).mono ?_;rintro e w5 ⟨F,t2,rfl,C⟩;rw[J.out]at C;go_wp2_with fail
   go_roundw
   case rel=>exact⟨k+1,by go_num,by omega,C,p.trans (j.trans F)⟩
   case measure=>simp[intOf];omega
  ·have y:k=b.length:=by omega
   have g:a*nv (b.take k)=a*nb:=by rw[y,List.take_length,H.out]
   rw[g]at I;clear g y;go_wp2_with fail
   go_ret
   exact⟨q.trans p,_,rfl,I⟩
theorem NC.lit{X:Nat->Bool}{w:World}(d:HX X w)(x:Nat)(t:TypeId)(a:0<x)(b:x<4294967296):NC (mk X (w.alloc (.cells #[.int .u32 (x:Int)] t))) (.slice (some ⟨w.heap.size,0,none⟩) 1 1) x:=by
 have c:OL (a0c .u32) 1 X w.heap.size t (w.alloc (.cells #[.int .u32 (x:Int)] t)) (some ⟨w.heap.size,0,none⟩) 1 [x]:=
  OL.lit (a0c.elem .u32) d (c1B _) [.int .u32 (x:Int)] [x] _ (by simp[a0g,Value.cells]) rfl (fun i e f=>by
   have:i=0:=by simp at e;omega
   subst this;rfl) (by simp)
 exact⟨_,1,[x],rfl,c1B _,b4C a b,c.sl (a0c.elem _)⟩
theorem c1t(X:Nat->Bool)(w:World)(u:Value)(n i:Nat)(C:NC (mk X w) u n)(G:i<32*lg n)(B:lg n<=1099511627776):Calls Tryz.prog 187 #[u,.int .i64 i] w fun e D=>w=D/\e=.returned (.int .u32 (n/2^i%2:Nat)):=by
 obtain⟨ao,E,a,rfl,z,b,d⟩:=C;have h:i/32<a.length:=by rw[b.len];omega
 have y:a.length<=1099511627776:=by rw[b.len];exact B
 have c:=d.nat (i/32) h;have g:=b9c b i;rw[a0B h]at g;have j:=b.1.get (i/32) h;obtain⟨x,f⟩:=c1F (a[i/32]);rw[f]at c g j;rw[a1t]at j;have F:=d.hd;have m:Hid (x<4294967296):=hid j;have A:(i:Int)<=35184372088832:=by omega
 have t:(i:Int)/32=((i/32:Nat):Int):=by omega
 have v:(i:Int)%32=((i%32:Nat):Int):=by omega
 have o:Hid (i%32<32):=hid (Nat.mod_lt _ (by decide));obtain⟨p,r⟩:=c1F (i/32);obtain⟨q,hq⟩:=c1F (i%32);rw[r]at t h c;rw[hq]at v o;have k:Hid (x/2^q%2=n/2^i%2):=hid (by rw[<-hq];exact g);clear f g r hq o b j d;go_enter Tryz.func187,Tryz.ntmps187
 go_wp2_with (with_reducible refine a0v a0Q ?_)
 go_ret
 have l:x/2^q<4294967296:=Nat.lt_of_le_of_lt (Nat.div_le_self _ _) m.out;have s:=a2I (x/2^q) 1 l (by omega);rw[Nat.and_one_is_mod,k.out]at s;exact⟨rfl,a0N (by simpa using s)⟩
theorem a9A(X:Nat->Bool)(w:World)(u:Value)(n t:Nat)(m:HX X w)(p:NC (mk X w) u n)(s:lg n<=549755813887)(v:t<=1):Calls Tryz.prog 186 #[u,.int .u32 t] w (a2b X w NC (2*n+t)):=by
 have k:Hid (lg (n*2*B^0)<=1099511627776):=hid (by
  have q:=a0Z n 2;have r:lg 2=1:=a2c (by omega) (by omega);rw[Nat.pow_zero,Nat.mul_one];omega)
 have j:Hid (lg 1<=1099511627776):=hid (by rw[a3I];decide);have f:Hid (n*2*B^0=2*n):=hid (by rw[Nat.pow_zero,Nat.mul_one,Nat.mul_comm]);go_enter Tryz.func186,Tryz.ntmps186
 go_wp2_with fail
 refine(b2O X w u n 2 0 m p (by omega) (by omega) (by omega)).mono ?_;rintro e l ⟨a,y,rfl,b⟩;have d:=m.ext a;rcases(by omega:t=0\/t=1)with rfl|rfl
 ·rw[f.out]at b
  go_wp2_with fail
  go_ret
  exact⟨a,_,rfl,b⟩
 ·go_wp2_with fail
  have o:=NC.lit d 1 114 (by omega) (by omega);have h:=a.alloc (.cells #[.int .u32 ((1:Nat):Int)] 114);have c:Ext l (l.alloc (.cells #[.int .u32 ((1:Nat):Int)] 114)):=(ExtX.refl l).alloc _;refine(b4N (d.ext c) (mkx NV.mono (b.nv k.out) c) (o.nv j.out)).mono ?_;rintro e z ⟨i,x,rfl,g⟩;rw[f.out]at g;go_wp2_with fail
  go_ret
  exact⟨h.trans i,_,rfl,g⟩
theorem b9e(X:Nat->Bool)(w:World)(u v:Value)(na nb:Nat)(hX:HX X w)(hu:NV (mk X w) u na)(hv:NV (mk X w) v nb)(h1:lg na<=274877906944)(h2:lg nb<=274877906944)(h0:0<nb):Calls Tryz.prog 147 #[u,v] w (c1e X w (na/nb) (na%nb)):=by
 go_enter Tryz.func147,Tryz.ntmps147
 go_wp2_with fail
 refine(a4a hX hu).mono ?_;rintro e w1 ⟨hE1,u1,rfl,hu1⟩;go_wp2_with fail
 refine(a4a (hX.ext hE1) (mkx NV.mono hv hE1)).mono ?_;rintro e w2 ⟨hE2,v1,rfl,hv1⟩;have hu2:=mkx NC.mono hu1 hE2;obtain⟨ao,ca,a,rfl,hca,hcan,hsa⟩:=id hu2;obtain⟨bo,cb,b,rfl,hcb,hcbn,hsb⟩:=id hv1;have hX2:=hX.ext (hE1.trans hE2);have hal:a.length<=274877906944:=by rw[hcan.len];exact h1
 have hall:=hid hcan.len;have hE12:=hE1.trans hE2;have hbl:¬b.length=0:=by have:=a1r hcbn;omega
 have hbI:(0:Int)<(b.length:Int):=by omega
 have hbz:((b.length:Int)==0)=false:=a2C (by omega);have hst:Hid (a3c na nb 0 0 (32*a.length)):=hid (a3c.start (by rw[<-b6X,hcan.len];exact a3e.1 (c1B _)));have h1':=hid h1;have h2':=hid h2;have h0':=hid h0;clear hu hv hu1 hE1 hE2 hX h1 h2 h0 hcan hcbn hsa hsb hbl hca hcb;go_wp2_with fail
 go_loopw [7,8,9] (fun q r i wr=>∃(k Q R:Nat) (x:Int),i=.int .i64 x/\x=(k:Int) - 1/\k<=32*a.length/\Hid (a3c na nb Q R k)/\NC (mk X wr) q Q/\NC (mk X wr) r R/\Ext w2 wr) (fun _ _ i _=>(intOf i+1).toNat)
 case atStart=>exact⟨32*a.length,0,0,_,rfl,by omega,by omega,hst,NC.zero _,NC.zero _,ExtX.refl _⟩
 case round=>
  obtain⟨k,Q,R,x,rfl,hx,hk,hinv,hq,hr,hE⟩:=hrel;have hX3:=hX2.ext hE;cases k with
  |zero=>
   obtain rfl:x= -1:=by omega
   obtain⟨rfl,rfl⟩:=hinv.out.done;clear hinv hx hst;go_wp2_with fail
   go_ret3
   exact⟨hE12.trans hE,_,_,rfl,hq,hr⟩
  |succ i=>
   obtain rfl:x=(i:Int):=by omega
   have hi:i<32*lg na:=by rw[<-hall.out];omega
   obtain⟨t,ht⟩:=c1F (na/2^i%2);have ht1:t<=1:=by omega
   obtain⟨hR,hs1,hs2⟩:=hinv.out.step h0'.out ht;have hQb:Hid (lg Q<=274877906944):=hid (by
    have e1:Q<=na:=by rw[hinv.out.1];exact c1A (Nat.div_le_self _ _) (Nat.div_le_self _ _)
    exact c1A (a1l e1) h1'.out)
   have hRb:Hid (lg R<=274877906944):=hid (c1A (a1l (Nat.le_of_lt hR)) h2'.out);have hRb2:Hid (lg (2*R+t)<=1099511627776):=hid (by
    have e1:=b0v (2*R) t;have e2:=a0Z 2 R;have e3:lg 2=1:=a2c (by omega) (by omega);have e4:lg t<=1:=by have:=a1l ht1;rw[a3I]at this;exact this
    have:=hRb.out;omega)
   have hs1':=hid hs1;have hs2':=hid hs2;have hbit:=c1t X wr _ na i (mkx NC.mono hu2 hE) hi (by have:=h1'.out;omega);rw[ht]at hbit;clear hinv hR hs1 hs2 hst ht hi hx;go_wp2_with fail
   refine hbit.mono ?_;rintro e w' ⟨rfl,rfl⟩;go_wp2_with fail
   refine(a9A X wr _ R t hX3 hr (by have:=hRb.out;omega) ht1).mono ?_;rintro e w4 ⟨hE4,r1,rfl,hr1⟩;have hX4:=hX3.ext hE4;have hq4:=mkx NC.mono hq hE4;have hb4:=(mkx NC.mono hv1 (hE.trans hE4)).nv (by have:=h2'.out;omega);clear hbit;go_wp2_with fail
   refine(b7t X w4 r1 _ (2*R+t) nb hX4 (hr1.nv hRb2.out) hb4).mono ?_;rintro e w5 ⟨hE5,d,rfl,hd⟩;have hX5:=hX4.ext hE5;have hq5:=mkx NC.mono hq4 hE5;by_cases hge:nb<=2*R+t
   ·have hi2:=hid (hs2'.out hge)
    have hdt:decide (nb<=2*R+t)=true:=decide_eq_true hge;rw[hdt];clear hge hdt;go_wp2_with fail
    refine(a9A X w5 _ Q 1 hX5 hq5 (by have:=hQb.out;omega) (by omega)).mono ?_;rintro e w6 ⟨hE6,q1,rfl,hq1⟩;go_wp2_with fail
    go_roundw
    case rel=>exact⟨i,_,_,_,rfl,rfl,by omega,hi2,hq1,mkx NC.mono hd hE6,hE.trans (hE4.trans (hE5.trans hE6))⟩
    case measure=>simp[intOf]
   ·have hi2:=hid (hs1'.out (by omega))
    have hdt:decide (nb<=2*R+t)=false:=decide_eq_false hge;rw[hdt];clear hge hdt;go_wp2_with fail
    refine(a9A X w5 _ Q 0 hX5 hq5 (by have:=hQb.out;omega) (by omega)).mono ?_;rintro e w6 ⟨hE6,q1,rfl,hq1⟩;go_wp2_with fail
    go_roundw
    case rel=>exact⟨i,_,_,_,rfl,rfl,by omega,hi2,hq1,mkx NC.mono hr1 (hE5.trans hE6),hE.trans (hE4.trans (hE5.trans hE6))⟩
    case measure=>simp[intOf]
theorem b9f(X:Nat->Bool)(w:World)(u v:Value)(s nb:Nat)(K:HX X w)(hu:NV (mk X w) u s)(hv:NV (mk X w) v nb)(h1:lg s<=274877906944)(h2:lg nb<=274877906944):Calls Tryz.prog 146 #[u,v] w (a2b X w NC (Nat.gcd s nb)):=by
 go_enter Tryz.func146,Tryz.ntmps146
 go_wp2_with fail
 refine(a4a K hu).mono ?_;rintro e w1 ⟨c,u1,rfl,I⟩;go_wp2_with fail
 refine(a4a (K.ext c) (mkx NV.mono hv c)).mono ?_;rintro e w2 ⟨g,v1,rfl,n⟩;have J:=mkx NC.mono I g;have O:=K.ext (c.trans g);have z:=c.trans g;have L:=hid h1;have M:=hid h2;clear hu hv I c g K h1 h2;go_wp2_with fail
 go_loopw [0,1] (fun x y wr=>∃(p q:Nat) (t:Option Addr) (l o:Nat),y=.slice t l o/\NC (mk X wr) x p/\NC (mk X wr) (.slice t l o) q/\Hid (lg p<=274877906944)/\Hid (lg q<=274877906944)/\Hid (Nat.gcd p q=Nat.gcd s nb)/\Ext w2 wr) (fun _ y W=>c0q W y)
 case atStart=>
  obtain⟨t,o,b,rfl,_⟩:=id n;exact⟨s,nb,t,_,o,rfl,J,n,L,M,hid rfl,ExtX.refl _⟩
 case round=>
  obtain⟨p,q,t,l,o,rfl,V,Y,T,hq,R,N⟩:=hrel;have P:=O.ext N;obtain⟨a0,a1,b,B,Q,i,H⟩:=id Y;simp only[Value.slice.injEq]at B;obtain⟨rfl,rfl,rfl⟩:=B;have C:=a1r i;have k:=a5E o H;rw[i.2.2]at k;have h:=hid k;clear k i H Q J n;by_cases hl:0<b.length
  ·have a:0<q:=by omega
   have S:(0:Int)<(b.length:Int):=by omega
   have U:Hid (Nat.gcd q (p%q)=Nat.gcd s nb):=hid (by rw[Nat.gcd_comm,<-Nat.gcd_rec,Nat.gcd_comm];exact R.out);have D:=hid (Nat.mod_lt p a);have F:=hid a;have hr:Hid (lg (p%q)<=274877906944):=hid (c1A (a1l (Nat.le_of_lt D.out)) hq.out);clear C a;go_wp2_with fail
   refine(b9e X wr _ _ p q P (V.nv (by have:=T.out;omega)) (Y.nv (by have:=hq.out;omega)) T.out hq.out F.out).mono ?_;rintro e w4 ⟨A,d,r,rfl,hd,G⟩;obtain⟨ro,Z,rl,rfl,m⟩:=id G;have j:=a5E Z m.2.2;rw[m.2.1.2.2]at j;have E:=hid j;clear j m;go_wp2_with fail
   go_roundw
   case rel=>exact⟨q,p%q,ro,_,Z,rfl,mkx NC.mono Y A,G,hq,hr,U,N.trans A⟩
   case measure=>rw[E.out,h.out];exact D.out
  ·have a:q=0:=by omega
   have f:=R.out;rw[a,Nat.gcd_zero_right]at f;have S:((b.length:Int))=0:=by omega
   rw[f]at V;clear f a C R T h;go_wp2_with fail
   go_ret
   exact⟨z.trans N,_,rfl,V⟩
theorem b4P{α:Type}{a b:List α}(h:a.length=b.length)(c:∀i,(h1:i<a.length)->(h2:i<b.length)->a[i]=b[i]):a=b:=List.ext_getElem h c
theorem b1v{a b:List Nat}{i:Nat}(h:∀p,p<i->∀(c:p<a.length) (hq:p<b.length),a[p]=b[p])(g:∀(c:i<a.length) (hq:i<b.length),a[i]=b[i]):Hid (∀p,p<i+1->∀(c:p<a.length) (hq:p<b.length),a[p]=b[p]):=hid fun p c e f=>by
 by_cases d:p=i
 ·subst d;exact g e f
 ·exact h p (by omega) e f
theorem b6q{w wr:World}(h:Hid (∃m,wr=w.drewN m))(n:Nat):∃m,wr.drewN n=w.drewN m:=by
 obtain⟨m,rfl⟩:=h;exact⟨_,World.drewN_drewN _ _ _⟩
theorem b6r(X:Nat->Bool)(w:World)(u v:Value)(E nb:Nat)(hu:NC (mk X w) u E)(q:NC (mk X w) v nb)(C:lg E<=1099511627776):Calls Tryz.prog 52 #[u,v] w fun e w'=>e=.returned (.bool (decide (E=nb)))/\∃m,w'=w.drewN m:=by
 obtain⟨ao,O,a,rfl,G,d,t⟩:=hu;obtain⟨F,P,b,rfl,H,g,z⟩:=q;have Y:a.length<=1099511627776:=by rw[d.len];exact C
 have I:=t.hd;have J:=z.hd;have n:Hid (decide (E=nb)=(a==b)):=hid (by
  rw[Bool.eq_iff_iff];simp only[decide_eq_true_eq,beq_iff_eq];constructor
  ·intro h;subst h;exact d.unique g
  ·intro h;subst h;exact d.2.2.symm.trans g.2.2)
 clear C G H d g;by_cases f:a.length=b.length
 ·have V:b.length<=a.length:=by omega
  have T:a.length<=b.length:=by omega
  have L:((a.length:Int) !=b.length)=false:=b0B (by omega);have o:=hid f;clear f;go_enter Tryz.func52,Tryz.ntmps52
  go_wp2_with fail
  go_loopw [5] (fun c wr=>∃i:Nat,c=.int .i64 i/\i<=a.length/\Hid (∀p,p<i->∀(D:p<a.length) (hq:p<b.length),a[p]=b[p])/\∃m,wr=w.drewN m) (fun c _=>a.length - (intOf c).toNat)
  case atStart=>exact⟨0,rfl,Nat.zero_le _,hid fun p D=>by omega,0,rfl⟩
  case round=>
   obtain⟨i,rfl,hi,s,l⟩:=hrel;have k:Hid (∃m,wr=w.drewN m):=hid l;have Q:Ext w wr:=by
    obtain⟨m,Z⟩:=l;rw[Z];exact(ExtX.refl w).drewN m
   clear l;by_cases K:i<a.length
   ·have r:i<b.length:=by omega
    have R:=(t.mono (a0c.mono _) (a0k Q)).nat i K;have S:=(z.mono (a0c.mono _) (a0k Q)).nat i r;have i1:∀W,(Instr.indexAt 43 (.slice ao a.length O) (.int .i64 (i:Int))).run Tryz.prog W=.ok (.pointer (some (adr ao i))) W:=a0y a0Q ao a.length O .i64 i I (by omega) rfl;have i2:∀W,(Instr.indexAt 43 (.slice F b.length P) (.int .i64 (i:Int))).run Tryz.prog W=.ok (.pointer (some (adr F i))) W:=a0y a0Q F b.length P .i64 i J (by omega) rfl;obtain⟨x,M⟩:=c1F (a[i]);obtain⟨y,N⟩:=c1F (b[i]);rw[M]at R;rw[N]at S;have A:=hid M;have B:=hid N;clear M N;by_cases j:x=y
    ·have C:Hid (∀(D:i<a.length) (hq:i<b.length),a[i]=b[i]):=hid fun _ _=>by rw[A.out,B.out,j]
     have U:((x:Int) !=y)=false:=b0B (by omega);clear j;go_wp2_with fail
     go_quiet (fail)
     go_wp2_with fail
     go_roundw
     case rel=>exact⟨i+1,by go_num,by omega,b1v s.out C.out,b6q k _⟩
     case measure=>simp[intOf];omega
    ·have q:Hid ((a==b)=false):=hid (by
      cases h:a==b
      ·rfl
      ·have:=eq_of_beq h;subst this;exact absurd (A.out.symm.trans B.out) j)
     have U:((x:Int) !=y)=true:=a7c (by omega);clear j;go_wp2_with fail
     go_quiet (fail)
     go_wp2_with fail
     go_ret
     exact⟨a0m (q.out.symm.trans n.out.symm),b6q k _⟩
   ·have q:Hid ((a==b)=true):=hid (by rw[b4P o.out fun p D hq=>s.out p (by omega) D hq];simp)
    go_wp2_with fail
    go_ret
    exact⟨a0m (q.out.symm.trans n.out.symm),k.out⟩
 ·have L:((a.length:Int) !=b.length)=true:=a7c (by omega)
  have q:Hid ((a==b)=false):=hid (by
   cases h:a==b
   ·rfl
   ·have:=eq_of_beq h;subst this;exact absurd rfl f)
  clear f;go_enter Tryz.func52,Tryz.ntmps52
  go_wp2_with fail
  go_ret
  exact⟨a0m (q.out.symm.trans n.out.symm),0,rfl⟩
def Bx(w:World)(b:Nat)(cs:Array Value)(T:TypeId):Prop:=w.heap[b]? =some (.cells cs T (0,0))
theorem Bx.lt{w:World}{b:Nat}{a:Array Value}{T:TypeId}(h:Bx w b a T):b<w.heap.size:=(Array.getElem?_eq_some_iff.1 h).1
theorem Bx.cell{w:World}{b:Nat}{a:Array Value}{T:TypeId}(h:Bx w b a T)(i:Nat){u:Value}(c:a[i]? =some u):w.cell? ⟨b,i,none⟩=some u:=by
 unfold Bx at h;unfold World.cell?;rw[h];simpa using c
theorem Bx.frozen{w:World}{b:Nat}{a:Array Value}{T:TypeId}(h:Bx w b a T)(i:Nat):w.frozen? ⟨b,i,none⟩=false:=by
 unfold Bx at h;unfold World.frozen?;rw[h];simp
theorem Bx.ext{Y:Nat->Bool}{w c:World}{b:Nat}{a:Array Value}{T:TypeId}(h:Bx w b a T)(d:ExtX Y w c)(e:Y b=false):Bx c b a T:=by
 unfold Bx;rw[d.block b h.lt e];exact h
theorem Bx.ext0{w c:World}{b:Nat}{a:Array Value}{T:TypeId}(h:Bx w b a T)(d:Ext w c):Bx c b a T:=h.ext d rfl
theorem Bx.new(w:World)(a:Array Value)(T:TypeId):Bx (w.alloc (.cells a T)) w.heap.size a T:=heap_alloc_new w _
theorem a9B(g:Nat):ob (some ⟨g,0,none⟩) g=true:=by simp[ob]
theorem a0b{g k:Nat}(h:k≠g):ob (some ⟨g,0,none⟩) k=false:=by
 cases a:ob (some ⟨g,0,none⟩) k
 ·rfl
 ·have e:g=k:=by simpa[ob]using a
  exact absurd e.symm h
theorem a0X{w:World}{b i:Nat}{a:Array Value}{T:TypeId}(h:Bx w b a T)(v:Value)(f:i<a.size):Bx (w.setCell ⟨b,i,none⟩ v) b (a.set i v) T/\ExtX (ob (some ⟨b,0,none⟩)) w (w.setCell ⟨b,i,none⟩ v):=by
 unfold Bx at*;have g:b<w.heap.size:=(Array.getElem?_eq_some_iff.1 h).1;refine⟨?_,⟨rfl,rfl,rfl,?_,?_⟩⟩
 ·simp only[World.setCell,Array.getElem?_modify,if_true,h,Option.map_some]
  simp[f,Array.setIfInBounds]
 ·simp[World.setCell]
 ·intro k _ d
  have c:b≠k:=fun e=>by subst e;rw[a9B]at d;simp at d
  simp only[World.setCell,Array.getElem?_modify,if_neg c]
theorem Bx.set2{w:World}{b:Nat}{f g:Value}{T:TypeId}(h:Bx w b #[f,g] T)(v0 v1:Value):Bx ((w.setCell ⟨b,0,none⟩ v0).setCell ⟨b,1,none⟩ v1) b #[v0,v1] T/\ExtX (ob (some ⟨b,0,none⟩)) w ((w.setCell ⟨b,0,none⟩ v0).setCell ⟨b,1,none⟩ v1):=by
 obtain⟨a,c⟩:=a0X h v0 (i:=0) (by simp);obtain⟨d,e⟩:=a0X a v1 (i:=1) (by simp);exact⟨by simpa using d,c.trans e⟩
theorem Bx.set3{w:World}{b:Nat}{j k l:Value}{T:TypeId}(h:Bx w b #[j,k,l] T)(v0 v1 v2:Value):Bx (((w.setCell ⟨b,0,none⟩ v0).setCell ⟨b,1,none⟩ v1).setCell ⟨b,2,none⟩ v2) b #[v0,v1,v2] T/\ExtX (ob (some ⟨b,0,none⟩)) w (((w.setCell ⟨b,0,none⟩ v0).setCell ⟨b,1,none⟩ v1).setCell ⟨b,2,none⟩ v2):=by
 obtain⟨a,c⟩:=a0X h v0 (i:=0) (by simp);obtain⟨d,e⟩:=a0X a v1 (i:=1) (by simp);obtain⟨f,g⟩:=a0X d v2 (i:=2) (by simp);exact⟨by simpa using f,(c.trans e).trans g⟩
section
variable {P:Program} {ops:Array Oper} {Q:Exit->Act->World->Prop} {rest:List Oper} {a:Act} {w:World}
variable {d:Option Tmp} {ty:TypeId} {ps:String} {af:Array Edge}
theorem a5T{t:TypeId}{n b:Nat}{c a:Array Value}{T:TypeId}(p:a1M P t n)(j:Bx w b c T)(f:c.size=n)(d:a.size=n)(g:∀v∈a.toList,v.oneCell'=true):∃i,(storeVar t ⟨b,0,none⟩ (.agg a)).run P w=.ok () i/\Bx i b a T/\ExtX (ob (some ⟨b,0,none⟩)) w i:=by
 obtain⟨r,ti,s,m,o⟩:=p;have h:=run_storeCells_at P b 0 T a.toList 0 c w j (by simp[f,d]) g;refine⟨w.setRow b (c.toList.take (0+0)++a.toList++c.toList.drop (0+0+a.toList.length)).toArray,?_,?_,?_⟩
 rotate_left
 ·unfold Bx
  have:=setRow_heap w b c (c.toList.take (0+0)++a.toList++c.toList.drop (0+0+a.toList.length)).toArray T (0,0) j;rw[this]
  congr 2
  have e:c.toList.drop (0+0+a.toList.length)= []:=List.drop_of_length_le (by simp[d,f]);rw[e];simp
 ·exact⟨rfl,rfl,rfl,by simp,fun k _ q=>setRow_other w b k _ (fun l=>by subst l;simp[ob]at q)⟩
 ·simp[storeVar,sizeOf,typeInfo,m,o,Value.cells,d]
  simp only[Nat.zero_add,Array.length_toList,List.take_zero,List.nil_append,d]at h |-;exact h
theorem a0a{t:TypeId}{x y:Operand}{n b:Nat}{j f:Array Value}{T:TypeId}(m:a1M P t n)(q:a.eval x=.pointer (some ⟨b,0,none⟩))(r:a.eval y=.agg f)(o:Bx w b j T)(h:j.size=n)(i:f.size=n)(c:∀v∈f.toList,v.oneCell'=true)(K:∀e,Bx e b f T->ExtX (ob (some ⟨b,0,none⟩)) w e->wpList P ops Q rest (a.put d undef) e):wpList P ops Q (⟨d,.store t x y,ty,ps,af,none⟩::rest) a w:=by
 refine wpList_plain rfl fun s g=>?_;obtain⟨e,p,k,l⟩:=a5T (P:=P) m o h i c;unfold Oper.wp;simp[execOp,q,r,Instr.storeAt,Instr.sureAddr,p,Result.andThen];exact g _ _ (K e k l)
theorem a2m{t:TypeId}{n b:Nat}{a:Array Value}{T:TypeId}(i:a1M P t n)(k:Bx w b a T)(c:a.size=n):(loadVar t ⟨b,0,none⟩).run P w=.ok (.agg a) w:=by
 obtain⟨m,ti,f,g,h⟩:=i;have e:=run_loadCells_list (P:=P) w ⟨b,0,none⟩ a.toList (fun j v l=>by
  rw[Addr.add_lit,Nat.zero_add];exact k.cell j (by simpa using l))
 have d:a.toList.length=n:=by simpa using c
 rw[d]at e;simp[loadVar,isAgg,run_underlying f,sizeOf,typeInfo,g,h,e]
theorem a2P{t:TypeId}{x:Operand}{n b:Nat}{c:Array Value}{T:TypeId}(g:a1M P t n)(j:a.eval x=.pointer (some ⟨b,0,none⟩))(h:Bx w b c T)(f:c.size=n)(K:wpList P ops Q rest (a.put d (.agg c)) w):wpList P ops Q (⟨d,.load t x,ty,ps,af,none⟩::rest) a w:=by
 refine wpList_plain rfl fun k e=>?_;have i:=a2m (P:=P) g h f;unfold Oper.wp;simp[execOp,j,Instr.loadAt,Instr.sureAddr,i,Result.andThen];exact e _ _ K
theorem a0d{fn:Func}{a:Array Value}{c:Tmp}{t:TypeId}{n b:Nat}{d:Array Value}{T:TypeId}(h:fn.results=#[.cell c t])(f:a.getD c undef=.pointer (some ⟨b,0,none⟩))(g:a1M P t n)(i:Bx w b d T)(e:d.size=n):(results fn a).run P w=.ok (.agg d) w:=by
 have j:=a2m (P:=P) g i e;rw[Array.getD_eq_getD_getElem?]at f;simp[results,h,f,asAddr,j]
theorem a0C{fn:Func}{a:Array Value}{c d:Tmp}{t:TypeId}{n b:Nat}{e:Array Value}{T:TypeId}(h:fn.results=#[.cell c t,.tmp d])(g:a.getD c undef=.pointer (some ⟨b,0,none⟩))(i:a1M P t n)(j:Bx w b e T)(f:e.size=n):(results fn a).run P w=.ok (.tuple #[.agg e,a.getD d undef]) w:=by
 have k:=a2m (P:=P) i j f;rw[Array.getD_eq_getD_getElem?]at g;simp[results,h,g,asAddr,k]
end
theorem a0Y(w:World)(x:Array Value)(T:TypeId):∃W,w.alloc (.cells x T)=W/\Ext w W/\Bx W w.heap.size x T/\W.heap.size=w.heap.size+1:=
 ⟨_,rfl,(ExtX.refl w).alloc _,Bx.new w _ _,by simp⟩
theorem a1K(w:World)(x y:Array Value)(T U:TypeId):∃W,(w.alloc (.cells x T)).alloc (.cells y U)=W/\Ext w W/\Bx W w.heap.size x T/\Bx W (w.heap.size+1) y U/\W.heap.size=w.heap.size+2:=by
 obtain⟨W,b,c,d,e⟩:=a0Y w x T;obtain⟨V,f,a,g,h⟩:=a0Y W y U;exact⟨V,by rw[b,f],c.trans a,d.ext0 a,by rw[<-e];exact g,by omega⟩
theorem a2r(w:World)(x y z:Array Value)(T U S:TypeId):∃W,((w.alloc (.cells x T)).alloc (.cells y U)).alloc (.cells z S)=W/\Ext w W/\Bx W w.heap.size x T/\Bx W (w.heap.size+1) y U/\Bx W (w.heap.size+1+1) z S/\W.heap.size=w.heap.size+3:=by
 obtain⟨W,b,c,d,f,e⟩:=a1K w x y T U;obtain⟨V,g,a,h,i⟩:=a0Y W z S;exact⟨V,by rw[b,g],c.trans a,d.ext0 a,f.ext0 a,by rw[<-e];exact h,by omega⟩
theorem b6s(w:World)(x y z u:Array Value)(T U S R:TypeId):∃W,(((w.alloc (.cells x T)).alloc (.cells y U)).alloc (.cells z S)).alloc (.cells u R)=W/\Ext w W/\Bx W w.heap.size x T/\Bx W (w.heap.size+1) y U/\Bx W (w.heap.size+1+1) z S/\Bx W (w.heap.size+1+1+1) u R/\W.heap.size=w.heap.size+4:=by
 obtain⟨W,b,c,d,f,g,e⟩:=a2r w x y z T U S;obtain⟨V,h,a,i,j⟩:=a0Y W u R;exact⟨V,by rw[b,h],c.trans a,d.ext0 a,f.ext0 a,g.ext0 a,by rw[<-e];exact i,by omega⟩
def ZV(h:Mem)(u:Value)(z:Int):Prop:=∃s ao c l,u=.agg #[.bool s,.slice ao l.length c]/\l.length<=c/\Dig l/\l.length<=549755813888/\Sl (a0c .u32) 1 h ao l/\a7H s l=z
def ZC(h:Mem)(u:Value)(z:Int):Prop:=∃s ao c l,u=.agg #[.bool s,.slice ao l.length c]/\l.length<=c/\a5P s l z/\Sl (a0c .u32) 1 h ao l
theorem ZV.mono:a3K ZV:=by rintro h i u x g ⟨s,ao,c,l,rfl,a,b,d,e,f⟩;exact⟨s,ao,c,l,rfl,a,b,d,e.mono (a0c.mono _) g,f⟩
theorem ZC.mono:a3K ZC:=by rintro h f u x e ⟨s,ao,c,l,rfl,a,b,d⟩;exact⟨s,ao,c,l,rfl,a,b,d.mono (a0c.mono _) e⟩
theorem ZC.zv{h:Mem}{u:Value}{z:Int}(f:ZC h u z)(e:lg z.natAbs<=549755813888):ZV h u z:=by
 obtain⟨s,ao,c,l,rfl,b,a,d⟩:=f;exact⟨s,ao,c,l,rfl,b,a.2.1,by rw[a.len];exact e,d,a.val⟩
theorem ZC.zero(h:Mem):ZC h (.agg #[.bool false,.slice none 0 0]) 0:=⟨false,none,0,[],rfl,c1B _,a5P.zero,Sl.nil _ _ _ _⟩
theorem ZV.lg{h:Mem}{u:Value}{z:Int}(d:ZV h u z):lg z.natAbs<=549755813888:=by
 obtain⟨s,ao,c,l,rfl,e,a,b,f,rfl⟩:=d;exact c1A (b6Z s l a) b
theorem a7r(X:Nat->Bool)(w:World)(s:Bool)(ao:Option Addr)(c:Nat)(l:List Nat)(m:Sl (a0c .u32) 1 (mk X w) ao l)(o:l.length<=549755813888):Calls Tryz.prog 165 #[.agg #[.bool s,.slice ao l.length c]] w fun e j=>Ext w j/\e=.returned (.bool (a1v s l)):=by
 have h:Ext w (w.alloc (.cells #[.bool s,.slice ao l.length c] 45)):=(ExtX.refl w).alloc _;have a:=m.mono (a0c.mono _) (a0k h);have d:Hid (a1v s l=(a1J l&&(decide (0<l.length)|| !s))):=hid rfl;cases g:a1J l
 ·have i:Hid (a1v s l=false):=hid (by rw[d.out,g];rfl)
  have b:=hid g;clear g;go_enter Tryz.func165,Tryz.ntmps165
  go_wp2_with fail
  refine(a2v X _ _ _ _ a (by omega)).mono ?_;rintro e j ⟨rfl,rfl⟩;rw[b.out];go_wp2_with fail
  go_ret
  exact⟨h,a0m i.out.symm⟩
 ·have i:Hid (a1v s l=(decide (0<l.length)|| !s)):=hid (by rw[d.out,g];rfl)
  have b:=hid g;clear g;by_cases k:0<l.length
  ·have n:(0:Int)<(l.length:Int):=by omega
   have f:Hid (a1v s l=true):=hid (by rw[i.out,decide_eq_true k];rfl);go_enter Tryz.func165,Tryz.ntmps165
   go_wp2_with fail
   refine(a2v X _ _ _ _ a (by omega)).mono ?_;rintro e j ⟨rfl,rfl⟩;rw[b.out];go_wp2_with fail
   go_ret
   exact⟨h,a0m f.out.symm⟩
  ·have f:Hid (a1v s l= !s):=hid (by rw[i.out,decide_eq_false k];rfl)
   obtain rfl:l= []:=List.eq_nil_of_length_eq_zero (by omega);clear k i;simp only[List.length_nil]at h a |-;go_enter Tryz.func165,Tryz.ntmps165
   go_wp2_with fail
   refine(a2v X _ [] _ _ a (by simp)).mono ?_;rintro e j ⟨rfl,rfl⟩;rw[b.out];go_wp2_with fail
   go_ret
   exact⟨h,a0m f.out.symm⟩
theorem a0H:a1M Tryz.prog 45 2:=by
 have h:(Tryz.prog.info? 45).map (fun i=>(i.zero,i.size,i.bytes))=some (some (.agg #[.bool false,.slice none 0 0]),2,32):=by kernel_rfl
 obtain⟨ti,a,_,b,_⟩:=info_parts h;exact⟨_,ti,Tryz.underlying45,a,b⟩
theorem a3a{s:Bool}{ao:Option Addr}{n c:Nat}:∀v∈(#[Value.bool s,.slice ao n c]:Array Value).toList,v.oneCell'=true:=by
 intro v a;simp at a;rcases a with rfl|rfl<;>rfl
def a0f(X:Nat->Bool)(lo nb:Nat):Nat->Bool:=fun k=>X k||(decide (lo<=k)&&decide (k<lo+nb))
theorem a3B{X:Nat->Bool}{lo nb k:Nat}(a:lo<=k)(b:k<lo+nb):a0f X lo nb k=true:=by simp[a0f,a,b]
theorem a8C{X:Nat->Bool}{lo nb k:Nat}(h:X k=true):a0f X lo nb k=true:=by simp[a0f,h]
theorem HX.boxes{X:Nat->Bool}{w b:World}{nb:Nat}(h:HX X w)(hz:b.heap.size=w.heap.size+nb):HX (a0f X w.heap.size nb) b:=fun k c=>by
 by_cases a:X k=true
 ·have:=h k a;omega
 ·simp[a0f,a]at c;omega
theorem HX.boxes'{X:Nat->Bool}{w a:World}{b nb:Nat}(h:HX X w)(d:Ext w a)(f:b+nb<=a.heap.size)(_:w.heap.size+nb<=a.heap.size):HX (a0f X b nb) a:=fun k e=>by
 by_cases c:X k=true
 ·exact c1C (h k c) d.size
 ·simp[a0f,c]at e;omega
theorem a0i{X:Nat->Bool}{w c:World}{nb:Nat}(d:Ext w c):Le (mk X w) (mk (a0f X w.heap.size nb) c):=
 a1g d (fun k _ a=>by simp[noY]at a) fun k a hz=>by
  by_cases b:X k=true
  ·exact b
  ·simp[a0f,b]at hz;omega
theorem a0l{X:Nat->Bool}{w:World}{lo nb:Nat}:Le (mk (a0f X lo nb) w) (mk X w):=a1a fun _ _ a=>a8C a
theorem a0h{X:Nat->Bool}{w a:World}{lo nb b:Nat}(f:ExtX (ob (some ⟨b,0,none⟩)) w a)(c:lo<=b)(d:b<lo+nb):Le (mk (a0f X lo nb) w) (mk (a0f X lo nb) a):=
 a0s f fun k g=>by
  have e:b=k:=by simpa[ob]using g
  subst e;exact a3B c d
theorem ExtX.box{a w c:World}{b:Nat}(h:Ext a w)(d:ExtX (ob (some ⟨b,0,none⟩)) w c)(e:a.heap.size<=b):Ext a c:=
 h.then_ d fun i f _=>a0b (by omega)
theorem a2y{X:Nat->Bool}{w a:World}{b nb:Nat}{s t u v:Value}{T U:TypeId}(j:Bx a b #[s,t] T)(l:Bx a (b+1) #[u,v] U)(m:Ext w a)(n:w.heap.size<=b)(x:2<=nb)(v0 v1 u0 i:Value):∃c,((((a.setCell ⟨b,0,none⟩ v0).setCell ⟨b,1,none⟩ v1).setCell ⟨b+1,0,none⟩ u0).setCell ⟨b+1,1,none⟩ i)=c/\Bx c b #[v0,v1] T/\Bx c (b+1) #[u0,i] U/\(∀k f V,k≠b->k≠b+1->Bx a k f V->Bx c k f V)/\Ext w c/\Le (mk (a0f X b nb) a) (mk (a0f X b nb) c):=by
 obtain⟨q,d⟩:=j.set2 v0 v1;have g:=l.ext d (a0b (by omega));obtain⟨r,e⟩:=g.set2 u0 i;refine⟨_,rfl,q.ext e (a0b (by omega)),r,fun k f V o p h=>(h.ext d (a0b o)).ext e (a0b p),ExtX.box (ExtX.box m d n) e (by omega),(a0h d (c1B _) (by omega)).trans (a0h e (by omega) (by omega))⟩
theorem a5U(X:Nat->Bool)(w:World)(u:Value)(z:Int)(D:HX X w)(G:ZV (mk X w) u z):Calls Tryz.prog 121 #[u] w (a2b X w ZC z):=by
 obtain⟨s,ao,c,l,rfl,A,B,y,C,rfl⟩:=G;obtain⟨W,m⟩:=c1F ((w.alloc (.cells #[.bool s,.slice ao l.length c] 45)).alloc (.cells #[.bool false,.slice none 0 0] 45));have r:Ext w W:=by rw[<-m];exact((ExtX.refl w).alloc _).alloc _
 have k:Bx W w.heap.size #[.bool s,.slice ao l.length c] 45:=by
  rw[<-m];exact(Bx.new w _ _).ext0 ((ExtX.refl _).alloc _)
 have n:Bx W (w.heap.size+1) #[.bool false,.slice none 0 0] 45:=by
  rw[<-m];have:=Bx.new (w.alloc (.cells #[.bool s,.slice ao l.length c] 45)) #[.bool false,.slice none 0 0] 45;simpa using this
 have hz:W.heap.size=w.heap.size+2:=by rw[<-m];simp
 have f:Sl (a0c .u32) 1 (mk (a0f X w.heap.size 2) W) ao l:=C.mono (a0c.mono _) (a0i r);obtain⟨b,F⟩:=c1F w.heap.size;have E:HX X w:=D;rw[F]at k n hz f;have p:=k.cell 0 rfl;have q:=k.cell 1 rfl;cases j:a1v s l
 ·have x:=hid (a5Q j)
  have g:=hid j;clear j;go_enter Tryz.func121,Tryz.ntmps121
  go_wp2_with fail
  refine(a7r (a0f X b 2) W s ao c l f y).mono ?_;rintro e H ⟨a,rfl⟩;rw[g.out];have h:=n.ext0 a;clear p q;go_wp2_with ((with_reducible refine c1J ?_);refine a0a a0H rfl rfl h rfl rfl a3a ?_;intro I o d)
  exact bodyPost_ret (a0d rfl rfl a0H o rfl) rfl ⟨ExtX.box (r.trans a) d (by omega),_,rfl,by rw[x.out];exact ZC.zero _⟩
 ·have g:=hid j
  clear j;go_enter Tryz.func121,Tryz.ntmps121
  go_wp2_with fail
  refine(a7r (a0f X b 2) W s ao c l f y).mono ?_;rintro e H ⟨a,rfl⟩;rw[g.out];have i:=k.ext0 a;have h:=n.ext0 a;have t:=f.mono (a0c.mono _) (a0k a);clear p q;have p:=i.cell 0 rfl;have q:=i.cell 1 rfl;go_wp2_with ((with_reducible refine c1J ?_);refine a0a a0H rfl rfl h rfl rfl a3a ?_;intro I o d)
  have v:=(t.mono (a0c.mono _) (a0h d (by omega) (by omega))).mono (a0c.mono _) a0l;exact bodyPost_ret (a0d rfl rfl a0H o rfl) rfl ⟨ExtX.box (r.trans a) d (by omega),_,rfl,s,ao,c,l,rfl,A,a5P.of_valid B g.out,v⟩
def sg(s:Bool)(n:Nat):Int:=if s then -(n:Int)else n
theorem b2P{s:Bool}{l:List Nat}{n:Nat}(h:a0M l n):a5P (s&&decide (0<l.length)) l (sg s n):=by
 have a:=a1r h;unfold sg;cases s
 ·refine⟨?_,by simpa using h⟩;simp
 ·refine⟨?_,by simpa using h⟩
  rw[Bool.true_and,Bool.eq_iff_iff];simp only[decide_eq_true_eq,if_true];omega
theorem a7s(s:Bool)(n:Nat):(sg s n).natAbs=n:=by unfold sg;split<;>simp
theorem a4b{s:Bool}{l:List Nat}{z:Int}(h:a5P s l z):sg s z.natAbs=z:=by
 unfold sg;rw[h.1];by_cases hz:z<0
 ·simp only[hz,decide_true,if_true];omega
 ·simp only[hz,decide_false,Bool.false_eq_true,if_false];omega
theorem a2R(X:Nat->Bool)(w:World)(s:Bool)(u:Value)(n:Nat)(_:HX X w)(v:NC (mk X w) u n):Calls Tryz.prog 123 #[.bool s,u] w (a2b X w ZC (sg s n)):=by
 obtain⟨ao,c,l,rfl,i,p,q⟩:=v;obtain⟨W,m⟩:=c1F (w.alloc (.cells #[.bool false,.slice none 0 0] 45));have j:Ext w W:=by rw[<-m];exact(ExtX.refl w).alloc _
 have h:Bx W w.heap.size #[.bool false,.slice none 0 0] 45:=by rw[<-m];exact Bx.new w _ _
 have e:Sl (a0c .u32) 1 (mk (a0f X w.heap.size 1) W) ao l:=q.mono (a0c.mono _) (a0i j);obtain⟨b,r⟩:=c1F w.heap.size;have t:w.heap.size<=b:=by omega
 rw[r]at h e;have d:Hid (a5P (s&&decide (0<l.length)) l (sg s n)):=hid (b2P p);cases s
 ·rw[Bool.false_and]at d
  go_enter Tryz.func123,Tryz.ntmps123
  go_wp2_with ((with_reducible refine c1J ?_);refine a0a a0H rfl rfl h rfl rfl a3a ?_;intro o g a)
  have f:=(e.mono (a0c.mono _) (a0h a (by omega) (by omega))).mono (a0c.mono _) a0l;exact bodyPost_ret (a0d rfl rfl a0H g rfl) rfl ⟨ExtX.box j a (by omega),_,rfl,_,ao,c,l,rfl,i,d.out,f⟩
 ·rw[Bool.true_and]at d
  by_cases k:0<l.length
  ·rw[decide_eq_true k]at d
   go_enter Tryz.func123,Tryz.ntmps123
   go_wp2_with ((with_reducible refine c1J ?_);refine a0a a0H rfl rfl h rfl rfl a3a ?_;intro o g a)
   have f:=(e.mono (a0c.mono _) (a0h a (by omega) (by omega))).mono (a0c.mono _) a0l;exact bodyPost_ret (a0d rfl rfl a0H g rfl) rfl ⟨ExtX.box j a (by omega),_,rfl,_,ao,c,l,rfl,i,d.out,f⟩
  ·rw[decide_eq_false k]at d
   obtain rfl:l= []:=List.eq_nil_of_length_eq_zero (by omega);clear k;simp only[List.length_nil]at i d e |-;go_enter Tryz.func123,Tryz.ntmps123
   go_wp2_with ((with_reducible refine c1J ?_);refine a0a a0H rfl rfl h rfl rfl a3a ?_;intro o g a)
   have f:=(e.mono (a0c.mono _) (a0h a (by omega) (by omega))).mono (a0c.mono _) a0l;exact bodyPost_ret (a0d rfl rfl a0H g rfl) rfl ⟨ExtX.box j a (by omega),_,rfl,_,ao,c,[],rfl,i,d.out,f⟩
theorem c1L(w:World):Ext w w.drew:=(ExtX.refl w).drew
theorem b7u(X:Nat->Bool)(w:World)(u:Value)(z:Int)(U:HX X w)(Y:ZC (mk X w) u z)(hn:lg z.natAbs<=549755813888):Calls Tryz.prog 172 #[u] w (a2b X w ZC z):=by
 obtain⟨s,ao,c,l,rfl,R,o,S⟩:=Y;obtain⟨W,p⟩:=c1F ((w.alloc (.cells #[.bool s,.slice ao l.length c] 45)).alloc (.cells #[.bool false,.slice none 0 0] 45));have D:Ext w W:=by rw[<-p];exact((ExtX.refl w).alloc _).alloc _
 have k:Bx W w.heap.size #[.bool s,.slice ao l.length c] 45:=by
  rw[<-p];exact(Bx.new w _ _).ext0 ((ExtX.refl _).alloc _)
 have i:Bx W (w.heap.size+1) #[.bool false,.slice none 0 0] 45:=by
  rw[<-p];have:=Bx.new (w.alloc (.cells #[.bool s,.slice ao l.length c] 45)) #[.bool false,.slice none 0 0] 45;simpa using this
 have hz:W.heap.size=w.heap.size+2:=by rw[<-p];simp
 have g:HX (a0f X w.heap.size 2) W:=U.boxes hz;have n:NV (mk (a0f X w.heap.size 2) W) (.slice ao l.length c) z.natAbs:=⟨ao,c,l,rfl,R,o.2.1,by rw[o.len];omega,S.mono (a0c.mono _) (a0i D),o.2.val⟩;obtain⟨b,V⟩:=c1F w.heap.size;rw[V]at k i hz g n;have I:=k.cell 0 rfl;have J:=k.cell 1 rfl;have y:=hid (a4b o);have v:∀M,NV M (.slice none 0 0) 0:=fun M=>⟨none,0,[],rfl,c1B _,Dig.nil,by simp,Sl.nil _ _ _ _,by simp[val,vl,nv]⟩;go_enter Tryz.func172,Tryz.ntmps172
 go_wp2_with fail
 have d:=c1L W;have j:Hid (∀W',Ext W.drew W'->W'.cell? ⟨b,0,none⟩=some (.bool s)/\W'.cell? ⟨b,1,none⟩=some (.slice ao l.length c)/\W'.cell? ⟨b+1,0,none⟩=some (.bool false)/\W'.cell? ⟨b+1,1,none⟩=some (.slice none 0 0)/\W'.frozen? ⟨b+1,0,none⟩=false/\W'.frozen? ⟨b+1,1,none⟩=false):=
  hid fun W' h=>⟨(k.ext0 (d.trans h)).cell 0 rfl,(k.ext0 (d.trans h)).cell 1 rfl,(i.ext0 (d.trans h)).cell 0 rfl,(i.ext0 (d.trans h)).cell 1 rfl,(i.ext0 (d.trans h)).frozen 0,(i.ext0 (d.trans h)).frozen 1⟩
 go_region_held3 (fun H=>H.cell? ⟨b,0,none⟩=some (.bool s)/\H.cell? ⟨b,1,none⟩=some (.slice ao l.length c))
  (first|exact⟨(j.out _ a).1,(j.out _ a).2.1⟩|exact⟨(j.out _ (a.trans f)).1,(j.out _ (a.trans f)).2.1⟩|go_keep)
  (first|(go_at_call 133;refine(c0r (X:=a0f X b 2) (w:=W.drew) g n (v _)).mono ?_;rintro e w5 ⟨a,u5,rfl,A⟩)|(go_at_call 123;refine(a2R (a0f X b 2) w5 s u5 (z.natAbs+0) (HX.ext (w:=W.drew) g a) A).mono ?_;rintro e w6 ⟨f,u6,rfl,G,B,C,E,rfl,q,m,r⟩;obtain⟨K,L,N,O,P,Q⟩:=j.out w6 (a.trans f)))
 obtain⟨Z,F⟩:=(i.ext0 ((d.trans a).trans f)).set2 (.bool G) (.slice B E.length C);have T:=(r.mono (a0c.mono _) (a0h F (by omega) (by omega))).mono (a0c.mono _) a0l;have x:sg s (z.natAbs+0)=z:=y.out;rw[x]at m;have t:Ext w _:=ExtX.box (D.trans ((d.trans a).trans f)) F (by omega);clear I J j K L N O P Q;go_wp2_with fail
 exact bodyPost_ret (a0d rfl rfl a0H Z rfl) rfl ⟨t,_,rfl,G,B,C,E,rfl,q,m,T⟩
theorem a6z(X:Nat->Bool)(w:World)(s:Bool)(ao:Option Addr)(c:Nat)(l:List Nat)(m:Sl (a0c .u32) 1 (mk X w) ao l)(o:l.length<=549755813888):Calls Tryz.prog 144 #[.agg #[.bool s,.slice ao l.length c]] w fun e j=>Ext w j/\e=.returned (.bool (a1v s l)):=by
 have h:Ext w (w.alloc (.cells #[.bool s,.slice ao l.length c] 45)):=(ExtX.refl w).alloc _;have d:=m.mono (a0c.mono _) (a0k h);have a:Hid (a1v s l=(a1J l&&(decide (0<l.length)|| !s))):=hid rfl;cases i:a1J l
 ·have g:Hid (a1v s l=false):=hid (by rw[a.out,i];rfl)
  have f:=hid i;clear i;go_enter Tryz.func144,Tryz.ntmps144
  go_wp2_with fail
  refine(a2q X _ _ _ _ d (by omega)).mono ?_;rintro e j ⟨rfl,rfl⟩;rw[f.out];go_wp2_with fail
  go_ret
  exact⟨h,a0m g.out.symm⟩
 ·have g:Hid (a1v s l=(decide (0<l.length)|| !s)):=hid (by rw[a.out,i];rfl)
  have f:=hid i;clear i;cases s
  ·have b:Hid (a1v false l=true):=hid (by rw[g.out];simp)
   clear g a;go_enter Tryz.func144,Tryz.ntmps144
   go_wp2_with fail
   refine(a2q X _ _ _ _ d (by omega)).mono ?_;rintro e j ⟨rfl,rfl⟩;rw[f.out];go_wp2_with fail
   go_ret
   exact⟨h,a0m b.out.symm⟩
  ·by_cases k:0<l.length
   ·have b:Hid (a1v true l=true):=hid (by rw[g.out,decide_eq_true k];rfl)
    have n:((l.length:Int)==0)=false:=a2C (by omega);clear g a;go_enter Tryz.func144,Tryz.ntmps144
    go_wp2_with fail
    refine(a2q X _ _ _ _ d (by omega)).mono ?_;rintro e j ⟨rfl,rfl⟩;rw[f.out];go_wp2_with fail
    go_ret
    exact⟨h,a0m b.out.symm⟩
   ·have b:Hid (a1v true l=false):=hid (by rw[g.out,decide_eq_false k];rfl)
    obtain rfl:l= []:=List.eq_nil_of_length_eq_zero (by omega);clear k g a;simp only[List.length_nil]at h d |-;go_enter Tryz.func144,Tryz.ntmps144
    go_wp2_with fail
    refine(a2q X _ [] _ _ d (by simp)).mono ?_;rintro e j ⟨rfl,rfl⟩;rw[f.out];go_wp2_with fail
    go_ret
    exact⟨h,a0m b.out.symm⟩
theorem a4c(X:Nat->Bool)(w:World)(u:Value)(z:Int)(hX:HX X w)(hu:ZV (mk X w) u z):Calls Tryz.prog 101 #[u] w (a2b X w ZC z):=by
 obtain⟨s,ao,c,l,rfl,Z,O,P,h4,rfl⟩:=hu;obtain⟨W,y⟩:=c1F ((w.alloc (.cells #[.bool s,.slice ao l.length c] 45)).alloc (.cells #[.bool false,.slice none 0 0] 45));have x:Ext w W:=by rw[<-y];exact((ExtX.refl w).alloc _).alloc _
 have r:Bx W w.heap.size #[.bool s,.slice ao l.length c] 45:=by
  rw[<-y];exact(Bx.new w _ _).ext0 ((ExtX.refl _).alloc _)
 have A:Bx W (w.heap.size+1) #[.bool false,.slice none 0 0] 45:=by
  rw[<-y];have:=Bx.new (w.alloc (.cells #[.bool s,.slice ao l.length c] 45)) #[.bool false,.slice none 0 0] 45;simpa using this
 have hz:W.heap.size=w.heap.size+2:=by rw[<-y];simp
 have i:Sl (a0c .u32) 1 (mk (a0f X w.heap.size 2) W) ao l:=h4.mono (a0c.mono _) (a0i x);obtain⟨b,hb⟩:=c1F w.heap.size;rw[hb]at r A hz i;have t:=r.cell 0 rfl;have v:=r.cell 1 rfl;cases q:a1v s l
 ·have K:=hid (a5Q q)
  have j:=hid q;clear q;go_enter Tryz.func101,Tryz.ntmps101
  go_wp2_with fail
  refine(a6z (a0f X b 2) W s ao c l i P).mono ?_;rintro e k ⟨a,rfl⟩;rw[j.out];have h:=A.ext0 a;clear t v;go_wp2_with ((with_reducible refine c1J ?_);refine a0a a0H rfl rfl h rfl rfl a3a ?_;intro w2 S E)
  exact bodyPost_ret (a0d rfl rfl a0H S rfl) rfl ⟨ExtX.box (x.trans a) E (by omega),_,rfl,by rw[K.out];exact ZC.zero _⟩
 ·have j:=hid q
  clear q;go_enter Tryz.func101,Tryz.ntmps101
  go_wp2_with fail
  refine(a6z (a0f X b 2) W s ao c l i P).mono ?_;rintro e k ⟨a,rfl⟩;rw[j.out];have m:=r.ext0 a;have h:=A.ext0 a;have G:HX (a0f X b 2) k:=hX.boxes' (x.trans a) (by have:=h.lt;omega) (by have:=h.lt;omega);have n:=hid (a5P.of_valid O j.out);have J:NV (mk (a0f X b 2) k) (.slice ao l.length c) (nv l):=⟨ao,c,l,rfl,Z,O,by omega,i.mono (a0c.mono _) (a0k a),by unfold val;rw[a0M.vl n.out.2]⟩;have H:HX (a0f X b 2) k.drew:=G;have I:NV (mk (a0f X b 2) k.drew) (.slice ao l.length c) (nv l):=J;have g:=c1L k;have o:=hid (And.intro m h);clear t v;have t:=m.cell 0 rfl;have v:=m.cell 1 rfl;go_wp2_with fail
  go_region_held3 (fun R=>R.cell? ⟨b,0,none⟩=some (.bool s)/\R.cell? ⟨b,1,none⟩=some (.slice ao l.length c))
   (first|exact⟨(o.out.1.ext0 (g.trans f)).cell 0 rfl,(o.out.1.ext0 (g.trans f)).cell 1 rfl⟩|exact⟨((o.out.1.ext0 (g.trans f)).ext (d.set2 _ _).2 (a0b (by omega))).cell 0 rfl,((o.out.1.ext0 (g.trans f)).ext (d.set2 _ _).2 (a0b (by omega))).cell 1 rfl⟩|go_keep)
   (first|(go_at_call 102;(with_reducible refine(a4a H I).mono ?_);rintro e w5 ⟨f,u5,rfl,M,N,L,rfl,B,C,D⟩;have d:=o.out.2.ext0 (g.trans f);have T:=d.cell 0 rfl;have U:=d.cell 1 rfl;have V:=d.frozen 0;have Y:=d.frozen 1))
  obtain⟨r1,Q⟩:=d.set2 (.bool s) (.slice M L.length N);have h7:=(D.mono (a0c.mono _) (a0h Q (by omega) (by omega))).mono (a0c.mono _) a0l;have p:a5P s L (a7H s l):=⟨n.out.1,by rw[<-n.out.2.2.2];exact C⟩;have F:Ext w _:=ExtX.box (x.trans (a.trans (g.trans f))) Q (by omega);clear T U V Y t v;go_wp2_with fail
  exact bodyPost_ret (a0d rfl rfl a0H r1 rfl) rfl ⟨F,_,rfl,s,M,N,L,rfl,B,p,h7⟩
theorem a1V(X:Nat->Bool)(w:World)(s:Bool)(u:Value)(n:Nat)(_:HX X w)(v:NC (mk X w) u n):Calls Tryz.prog 95 #[.bool s,u] w (a2b X w ZC (sg s n)):=by
 obtain⟨ao,c,l,rfl,i,p,q⟩:=v;obtain⟨W,m⟩:=c1F (w.alloc (.cells #[.bool false,.slice none 0 0] 45));have j:Ext w W:=by rw[<-m];exact(ExtX.refl w).alloc _
 have h:Bx W w.heap.size #[.bool false,.slice none 0 0] 45:=by rw[<-m];exact Bx.new w _ _
 have e:Sl (a0c .u32) 1 (mk (a0f X w.heap.size 1) W) ao l:=q.mono (a0c.mono _) (a0i j);obtain⟨b,r⟩:=c1F w.heap.size;have t:w.heap.size<=b:=by omega
 rw[r]at h e;have d:Hid (a5P (s&&decide (0<l.length)) l (sg s n)):=hid (b2P p);cases s
 ·rw[Bool.false_and]at d
  go_enter Tryz.func95,Tryz.ntmps95
  go_wp2_with ((with_reducible refine c1J ?_);refine a0a a0H rfl rfl h rfl rfl a3a ?_;intro o g a)
  have f:=(e.mono (a0c.mono _) (a0h a (by omega) (by omega))).mono (a0c.mono _) a0l;exact bodyPost_ret (a0d rfl rfl a0H g rfl) rfl ⟨ExtX.box j a (by omega),_,rfl,_,ao,c,l,rfl,i,d.out,f⟩
 ·rw[Bool.true_and]at d
  by_cases k:0<l.length
  ·rw[decide_eq_true k]at d
   go_enter Tryz.func95,Tryz.ntmps95
   go_wp2_with ((with_reducible refine c1J ?_);refine a0a a0H rfl rfl h rfl rfl a3a ?_;intro o g a)
   have f:=(e.mono (a0c.mono _) (a0h a (by omega) (by omega))).mono (a0c.mono _) a0l;exact bodyPost_ret (a0d rfl rfl a0H g rfl) rfl ⟨ExtX.box j a (by omega),_,rfl,_,ao,c,l,rfl,i,d.out,f⟩
  ·rw[decide_eq_false k]at d
   obtain rfl:l= []:=List.eq_nil_of_length_eq_zero (by omega);clear k;simp only[List.length_nil]at i d e |-;go_enter Tryz.func95,Tryz.ntmps95
   go_wp2_with ((with_reducible refine c1J ?_);refine a0a a0H rfl rfl h rfl rfl a3a ?_;intro o g a)
   have f:=(e.mono (a0c.mono _) (a0h a (by omega) (by omega))).mono (a0c.mono _) a0l;exact bodyPost_ret (a0d rfl rfl a0H g rfl) rfl ⟨ExtX.box j a (by omega),_,rfl,_,ao,c,[],rfl,i,d.out,f⟩
theorem b9g(X:Nat->Bool)(w:World)(u v:Value)(x y:Int)(hX:HX X w)(hu:ZV (mk X w) u x)(hv:ZV (mk X w) v y):Calls Tryz.prog 91 #[u,v] w (a2b X w ZC (x+y)):=by
 have e7:=hid hu.lg;have e8:=hid hv.lg;obtain⟨s1,a1,c1,l1,rfl,e9⟩:=id hu;obtain⟨s2,a2,c2,l2,rfl,f0⟩:=id hv;obtain⟨W,hW,hE,D,E,b2,hz⟩:=a2r w #[.bool s1,.slice a1 l1.length c1] #[.bool s2,.slice a2 l2.length c2] #[.bool false,.slice none 0 0] 45 45 45;have a8:HX (a0f X w.heap.size 3) W:=hX.boxes hz;have V:=ZV.mono _ _ _ _ (a0i (nb:=3) hE) hu;have Z:=ZV.mono _ _ _ _ (a0i (nb:=3) hE) hv;obtain⟨b,hb⟩:=c1F w.heap.size;have e3:w.heap.size<=b:=by omega
 rw[hb]at D E b2 hz a8 V Z;have f:=c1L W;have N:HX (a0f X b 3) W.drew:=a8;have b3:ZV (mk (a0f X b 3) W.drew) (.agg #[.bool s1,.slice a1 l1.length c1]) x:=V;have b4:ZV (mk (a0f X b 3) W.drew) (.agg #[.bool s2,.slice a2 l2.length c2]) y:=Z;have l:=D.cell 0 rfl;have m:=D.cell 1 rfl;have i:=E.cell 0 rfl;have j:=E.cell 1 rfl;clear hu hv e9 f0;go_enter Tryz.func91,Tryz.ntmps91
 go_upto_region 1 with(fail)
 go_cut []from 9 to 12 (fun wx=>∃s a3 c3 l3 I a4 c4 l4,Bx wx b #[.bool s,.slice a3 l3 c3] 45/\Bx wx (b+1) #[.bool I,.slice a4 l4 c4] 45/\Bx wx (b+1+1) #[.bool false,.slice none 0 0] 45/\ZC (mk (a0f X b 3) wx) (.agg #[.bool s,.slice a3 l3 c3]) x/\ZC (mk (a0f X b 3) wx) (.agg #[.bool I,.slice a4 l4 c4]) y/\Ext w wx)
 case first=>
  go_region_with (first|(go_at_call 121;(with_reducible refine(a5U (a0f X b 3) W.drew _ x N b3).mono ?_);rintro e w5 ⟨a,u5,rfl,s5,a5,c5,l5,rfl,d7,d8,d9⟩;have F:=D.ext0 (f.trans a);have n:=E.ext0 (f.trans a);have b7:=n.cell 0 rfl;have b8:=n.cell 1 rfl)|(go_at_call 121;(with_reducible refine(a5U (a0f X b 3) w5 _ y (HX.ext N a) (mkx ZV.mono b4 a)).mono ?_);rintro e w6 ⟨c,u6,rfl,C,z,A,B,rfl,o,g,p⟩;have d:=F.ext0 c;have k:=n.ext0 c;have c9:=d.cell 0 rfl;have d0:=d.cell 1 rfl;have d1:=k.cell 0 rfl;have d2:=k.cell 1 rfl;have b9:=d.frozen 0;have c0:=d.frozen 1;have c7:=k.frozen 0;have c8:=k.frozen 1))
  all_goals
   obtain⟨wf,b5,q0,q1,q2,q3,q4⟩:=a2y (X:=X) (nb:=3) d k (hE.trans ((f.trans a).trans c)) e3 (by omega) (.bool s5) (.slice a5 l5.length c5) (.bool C) (.slice z B.length A);rw[b5];have e4:ZC (mk (a0f X b 3) wf) (.agg #[.bool s5,.slice a5 l5.length c5]) x:=⟨s5,a5,c5,l5,rfl,d7,d8,(d9.mono (a0c.mono _) (a0k c)).mono (a0c.mono _) q4⟩;have e6:ZC (mk (a0f X b 3) wf) (.agg #[.bool C,.slice z B.length A]) y:=⟨C,z,A,B,rfl,o,g,p.mono (a0c.mono _) q4⟩;have q5:=q2 (b+1+1) _ _ (by omega) (by omega) ((b2.ext0 (f.trans a)).ext0 c);clear b7 b8 c9 d0 d1 d2 b9 c0 c7 c8 l m i j b5;go_wp2_with fail
   go_meet
   exact⟨_,_,_,_,_,_,_,_,q0,q1,q5,e4,e6,q3⟩
 case rest=>
  clear l m i j D E b2 V Z b3 b4 N f hW;obtain⟨s,a3,c3,n3,I,a4,c4,n4,D,E,b2,hx,hy,G⟩:=hcut;obtain⟨_,_,_,l3,t,d3,K,d4⟩:=hx;simp only[Value.agg.injEq,Array.mk.injEq,List.cons.injEq,Value.bool.injEq,Value.slice.injEq,and_true]at t;obtain⟨rfl,rfl,rfl,rfl⟩:=t;obtain⟨_,_,_,l4,t,d5,L,d6⟩:=hy;simp only[Value.agg.injEq,Array.mk.injEq,List.cons.injEq,Value.bool.injEq,Value.slice.injEq,and_true]at t;obtain⟨rfl,rfl,rfl,rfl⟩:=t;have S:NV (mk (a0f X b 3) wc) (.slice a3 l3.length c3) x.natAbs:=NC.nv ⟨a3,c3,l3,rfl,d3,K.2,d4⟩ (by have:=e7.out;omega);have T:NV (mk (a0f X b 3) wc) (.slice a4 l4.length c4) y.natAbs:=NC.nv ⟨a4,c4,l4,rfl,d5,L.2,d6⟩ (by have:=e8.out;omega);have f6:=hid K.1;have f7:=hid L.1;have f2:w.heap.size+3<=wc.heap.size:=by have:=b2.lt;omega
  have H:HX (a0f X b 3) wc:=hX.boxes' G (by omega) f2;have q:=hid (And.intro D (And.intro E b2));have l:=D.cell 0 rfl;have m:=D.cell 1 rfl;have i:=E.cell 0 rfl;have j:=E.cell 1 rfl;have R:=hid (a4b K);have Q:=hid (a4b L);have f:=c1L wc;have f3:b+1≠b+1+1:=by omega
  have f4:b≠b+1+1:=by omega
  by_cases U:s=I
  ·subst U
   have a9:Hid (sg s (x.natAbs+y.natAbs)=x+y):=hid (by
    have e1:=R.out;have e2:=Q.out;unfold sg at*;cases s<;>simp at*<;>omega)
   go_wp2_with fail
   go_region_held3 (fun w'=>w'.cell? ⟨b,0,none⟩=some (.bool s)/\w'.cell? ⟨b,1,none⟩=some (.slice a3 l3.length c3)/\w'.cell? ⟨b+1,1,none⟩=some (.slice a4 l4.length c4))
    (first|exact⟨(q.out.1.ext0 (f.trans a)).cell 0 rfl,(q.out.1.ext0 (f.trans a)).cell 1 rfl,(q.out.2.1.ext0 (f.trans a)).cell 1 rfl⟩|exact⟨(q.out.1.ext0 (f.trans (a.trans c))).cell 0 rfl,(q.out.1.ext0 (f.trans (a.trans c))).cell 1 rfl,(q.out.2.1.ext0 (f.trans (a.trans c))).cell 1 rfl⟩|exact⟨((q.out.1.ext0 (f.trans (a.trans c))).ext (d.set2 _ _).2 (a0b (by omega))).cell 0 rfl,((q.out.1.ext0 (f.trans (a.trans c))).ext (d.set2 _ _).2 (a0b (by omega))).cell 1 rfl,((q.out.2.1.ext0 (f.trans (a.trans c))).ext (d.set2 _ _).2 (a0b (by omega))).cell 1 rfl⟩|go_keep)
    (first|(go_at_call 133;refine(c0r (X:=a0f X b 3) (w:=wc.drew) H S T).mono ?_;rintro e w5 ⟨a,u5,rfl,Y⟩)|(go_at_call 123;refine(a2R (a0f X b 3) w5 s u5 (x.natAbs+y.natAbs) (HX.ext (w:=wc.drew) H a) Y).mono ?_;rintro e w6 ⟨c,u6,rfl,C,z,A,B,rfl,o,g,p⟩;have d:=q.out.2.2.ext0 (f.trans (a.trans c));have g1:=d.cell 0 rfl;have g2:=d.cell 1 rfl;have g3:=d.frozen 0;have g4:=d.frozen 1))
   obtain⟨r1,J⟩:=d.set2 (.bool C) (.slice z B.length A);have h7:=(p.mono (a0c.mono _) (a0h J (by omega) (by omega))).mono (a0c.mono _) a0l;rw[a9.out]at g;have e0:Ext w _:=ExtX.box (G.trans (f.trans (a.trans c))) J (by omega);clear g1 g2 g3 g4 l m i j;go_wp2_with fail
   exact bodyPost_ret (a0d rfl rfl a0H r1 rfl) rfl ⟨e0,_,rfl,C,z,A,B,rfl,o,g,h7⟩
  ·have f5:(s==I)=false:=by simpa using U
   have O:Hid (y.natAbs<=x.natAbs->sg s (x.natAbs - y.natAbs)=x+y):=hid (fun h=>by
    have e1:=R.out;have e2:=Q.out;unfold sg at*;cases s<;>cases I<;>simp at*<;>omega)
   have P:Hid (¬y.natAbs<=x.natAbs->sg I (y.natAbs - x.natAbs)=x+y):=hid (fun h=>by
    have e1:=R.out;have e2:=Q.out;unfold sg at*;cases s<;>cases I<;>simp at*<;>omega)
   clear U;go_wp2_with fail
   refine(c1h H S T).mono ?_;rintro e w5 ⟨a,u5,rfl,Y⟩;have M:=H.ext a;have F:=q.out.1.ext0 a;have n:=q.out.2.1.ext0 a;have d:=q.out.2.2.ext0 a;clear l m i j;have l:=F.cell 0 rfl;have m:=F.cell 1 rfl;have i:=n.cell 0 rfl;have j:=n.cell 1 rfl;by_cases r:y.natAbs<=x.natAbs
   ·have hd:decide (y.natAbs<=x.natAbs)=true:=decide_eq_true r
    have hf:=hid (O.out r);rw[hd];clear hd r;go_wp2_with fail
    refine(a2R (a0f X b 3) w5 s u5 _ M Y).mono ?_;rintro e w6 ⟨c,u6,rfl,C,z,A,B,rfl,o,g,p⟩;have k:=d.ext0 c;clear l m i j;go_wp2_with ((with_reducible refine c1J ?_);refine a0a a0H rfl rfl k rfl rfl a3a ?_;intro w7 r1 J)
    have h7:=(p.mono (a0c.mono _) (a0h J (by omega) (by omega))).mono (a0c.mono _) a0l;rw[hf.out]at g;exact bodyPost_ret (a0d rfl rfl a0H r1 rfl) rfl ⟨ExtX.box (G.trans (a.trans c)) J (by omega),_,rfl,C,z,A,B,rfl,o,g,h7⟩
   ·have hd:decide (y.natAbs<=x.natAbs)=false:=decide_eq_false r
    have hf:=hid (P.out r);rw[hd];clear hd r;go_wp2_with fail
    refine(c1h M (mkx NV.mono T a) (mkx NV.mono S a)).mono ?_;rintro e w6 ⟨c,v5,rfl,f1⟩;have a0:=n.ext0 c;have b6:=d.ext0 c;clear l m i j;have i:=a0.cell 0 rfl;have j:=a0.cell 1 rfl;go_wp2_with fail
    refine(a2R (a0f X b 3) w6 I v5 _ (M.ext c) f1).mono ?_;rintro e w7 ⟨a7,u6,rfl,C,z,A,B,rfl,o,g,p⟩;have k:=b6.ext0 a7;clear i j;go_wp2_with ((with_reducible refine c1J ?_);refine a0a a0H rfl rfl k rfl rfl a3a ?_;intro w8 r1 J)
    have h7:=(p.mono (a0c.mono _) (a0h J (by omega) (by omega))).mono (a0c.mono _) a0l;rw[hf.out]at g;exact bodyPost_ret (a0d rfl rfl a0H r1 rfl) rfl ⟨ExtX.box (G.trans (a.trans (c.trans a7))) J (by omega),_,rfl,C,z,A,B,rfl,o,g,h7⟩
theorem c0s(X:Nat->Bool)(w:World)(u v:Value)(x y:Int)(hX:HX X w)(hu:ZV (mk X w) u x)(hv:ZV (mk X w) v y):Calls Tryz.prog 135 #[u,v] w (a2b X w ZC (x+y)):=by
 have e7:=hid hu.lg;have e8:=hid hv.lg;obtain⟨s1,a1,c1,l1,rfl,e9⟩:=id hu;obtain⟨s2,a2,c2,l2,rfl,f0⟩:=id hv;obtain⟨W,hW,hE,D,E,b2,hz⟩:=a2r w #[.bool s1,.slice a1 l1.length c1] #[.bool s2,.slice a2 l2.length c2] #[.bool false,.slice none 0 0] 45 45 45;have a8:HX (a0f X w.heap.size 3) W:=hX.boxes hz;have V:=ZV.mono _ _ _ _ (a0i (nb:=3) hE) hu;have Z:=ZV.mono _ _ _ _ (a0i (nb:=3) hE) hv;obtain⟨b,hb⟩:=c1F w.heap.size;have e3:w.heap.size<=b:=by omega
 rw[hb]at D E b2 hz a8 V Z;have f:=c1L W;have N:HX (a0f X b 3) W.drew:=a8;have b3:ZV (mk (a0f X b 3) W.drew) (.agg #[.bool s1,.slice a1 l1.length c1]) x:=V;have b4:ZV (mk (a0f X b 3) W.drew) (.agg #[.bool s2,.slice a2 l2.length c2]) y:=Z;have l:=D.cell 0 rfl;have m:=D.cell 1 rfl;have i:=E.cell 0 rfl;have j:=E.cell 1 rfl;clear hu hv e9 f0;go_enter Tryz.func135,Tryz.ntmps135
 go_upto_region 1 with(fail)
 go_cut []from 9 to 12 (fun wx=>∃s a3 c3 l3 I a4 c4 l4,Bx wx b #[.bool s,.slice a3 l3 c3] 45/\Bx wx (b+1) #[.bool I,.slice a4 l4 c4] 45/\Bx wx (b+1+1) #[.bool false,.slice none 0 0] 45/\ZC (mk (a0f X b 3) wx) (.agg #[.bool s,.slice a3 l3 c3]) x/\ZC (mk (a0f X b 3) wx) (.agg #[.bool I,.slice a4 l4 c4]) y/\Ext w wx)
 case first=>
  go_region_with (first|(go_at_call 101;(with_reducible refine(a4c (a0f X b 3) W.drew _ x N b3).mono ?_);rintro e w5 ⟨a,u5,rfl,s5,a5,c5,l5,rfl,d7,d8,d9⟩;have F:=D.ext0 (f.trans a);have n:=E.ext0 (f.trans a);have b7:=n.cell 0 rfl;have b8:=n.cell 1 rfl)|(go_at_call 101;(with_reducible refine(a4c (a0f X b 3) w5 _ y (HX.ext N a) (mkx ZV.mono b4 a)).mono ?_);rintro e w6 ⟨c,u6,rfl,C,z,A,B,rfl,o,g,p⟩;have d:=F.ext0 c;have k:=n.ext0 c;have c9:=d.cell 0 rfl;have d0:=d.cell 1 rfl;have d1:=k.cell 0 rfl;have d2:=k.cell 1 rfl;have b9:=d.frozen 0;have c0:=d.frozen 1;have c7:=k.frozen 0;have c8:=k.frozen 1))
  all_goals
   obtain⟨wf,b5,q0,q1,q2,q3,q4⟩:=a2y (X:=X) (nb:=3) d k (hE.trans ((f.trans a).trans c)) e3 (by omega) (.bool s5) (.slice a5 l5.length c5) (.bool C) (.slice z B.length A);rw[b5];have e4:ZC (mk (a0f X b 3) wf) (.agg #[.bool s5,.slice a5 l5.length c5]) x:=⟨s5,a5,c5,l5,rfl,d7,d8,(d9.mono (a0c.mono _) (a0k c)).mono (a0c.mono _) q4⟩;have e6:ZC (mk (a0f X b 3) wf) (.agg #[.bool C,.slice z B.length A]) y:=⟨C,z,A,B,rfl,o,g,p.mono (a0c.mono _) q4⟩;have q5:=q2 (b+1+1) _ _ (by omega) (by omega) ((b2.ext0 (f.trans a)).ext0 c);clear b7 b8 c9 d0 d1 d2 b9 c0 c7 c8 l m i j b5;go_wp2_with fail
   go_meet
   exact⟨_,_,_,_,_,_,_,_,q0,q1,q5,e4,e6,q3⟩
 case rest=>
  clear l m i j D E b2 V Z b3 b4 N f hW;obtain⟨s,a3,c3,n3,I,a4,c4,n4,D,E,b2,hx,hy,G⟩:=hcut;obtain⟨_,_,_,l3,t,d3,K,d4⟩:=hx;simp only[Value.agg.injEq,Array.mk.injEq,List.cons.injEq,Value.bool.injEq,Value.slice.injEq,and_true]at t;obtain⟨rfl,rfl,rfl,rfl⟩:=t;obtain⟨_,_,_,l4,t,d5,L,d6⟩:=hy;simp only[Value.agg.injEq,Array.mk.injEq,List.cons.injEq,Value.bool.injEq,Value.slice.injEq,and_true]at t;obtain⟨rfl,rfl,rfl,rfl⟩:=t;have S:NV (mk (a0f X b 3) wc) (.slice a3 l3.length c3) x.natAbs:=NC.nv ⟨a3,c3,l3,rfl,d3,K.2,d4⟩ (by have:=e7.out;omega);have T:NV (mk (a0f X b 3) wc) (.slice a4 l4.length c4) y.natAbs:=NC.nv ⟨a4,c4,l4,rfl,d5,L.2,d6⟩ (by have:=e8.out;omega);have f6:=hid K.1;have f7:=hid L.1;have f2:w.heap.size+3<=wc.heap.size:=by have:=b2.lt;omega
  have H:HX (a0f X b 3) wc:=hX.boxes' G (by omega) f2;have q:=hid (And.intro D (And.intro E b2));have l:=D.cell 0 rfl;have m:=D.cell 1 rfl;have i:=E.cell 0 rfl;have j:=E.cell 1 rfl;have R:=hid (a4b K);have Q:=hid (a4b L);have f:=c1L wc;have f3:b+1≠b+1+1:=by omega
  have f4:b≠b+1+1:=by omega
  by_cases U:s=I
  ·subst U
   have a9:Hid (sg s (x.natAbs+y.natAbs)=x+y):=hid (by
    have e1:=R.out;have e2:=Q.out;unfold sg at*;cases s<;>simp at*<;>omega)
   go_wp2_with fail
   go_region_held3 (fun w'=>w'.cell? ⟨b,0,none⟩=some (.bool s)/\w'.cell? ⟨b,1,none⟩=some (.slice a3 l3.length c3)/\w'.cell? ⟨b+1,1,none⟩=some (.slice a4 l4.length c4))
    (first|exact⟨(q.out.1.ext0 (f.trans a)).cell 0 rfl,(q.out.1.ext0 (f.trans a)).cell 1 rfl,(q.out.2.1.ext0 (f.trans a)).cell 1 rfl⟩|exact⟨(q.out.1.ext0 (f.trans (a.trans c))).cell 0 rfl,(q.out.1.ext0 (f.trans (a.trans c))).cell 1 rfl,(q.out.2.1.ext0 (f.trans (a.trans c))).cell 1 rfl⟩|exact⟨((q.out.1.ext0 (f.trans (a.trans c))).ext (d.set2 _ _).2 (a0b (by omega))).cell 0 rfl,((q.out.1.ext0 (f.trans (a.trans c))).ext (d.set2 _ _).2 (a0b (by omega))).cell 1 rfl,((q.out.2.1.ext0 (f.trans (a.trans c))).ext (d.set2 _ _).2 (a0b (by omega))).cell 1 rfl⟩|go_keep)
    (first|(go_at_call 96;refine(b4N (X:=a0f X b 3) (w:=wc.drew) H S T).mono ?_;rintro e w5 ⟨a,u5,rfl,Y⟩)|(go_at_call 95;refine(a1V (a0f X b 3) w5 s u5 (x.natAbs+y.natAbs) (HX.ext (w:=wc.drew) H a) Y).mono ?_;rintro e w6 ⟨c,u6,rfl,C,z,A,B,rfl,o,g,p⟩;have d:=q.out.2.2.ext0 (f.trans (a.trans c));have g1:=d.cell 0 rfl;have g2:=d.cell 1 rfl;have g3:=d.frozen 0;have g4:=d.frozen 1))
   obtain⟨r1,J⟩:=d.set2 (.bool C) (.slice z B.length A);have h7:=(p.mono (a0c.mono _) (a0h J (by omega) (by omega))).mono (a0c.mono _) a0l;rw[a9.out]at g;have e0:Ext w _:=ExtX.box (G.trans (f.trans (a.trans c))) J (by omega);clear g1 g2 g3 g4 l m i j;go_wp2_with fail
   exact bodyPost_ret (a0d rfl rfl a0H r1 rfl) rfl ⟨e0,_,rfl,C,z,A,B,rfl,o,g,h7⟩
  ·have f5:(s==I)=false:=by simpa using U
   have O:Hid (y.natAbs<=x.natAbs->sg s (x.natAbs - y.natAbs)=x+y):=hid (fun h=>by
    have e1:=R.out;have e2:=Q.out;unfold sg at*;cases s<;>cases I<;>simp at*<;>omega)
   have P:Hid (¬y.natAbs<=x.natAbs->sg I (y.natAbs - x.natAbs)=x+y):=hid (fun h=>by
    have e1:=R.out;have e2:=Q.out;unfold sg at*;cases s<;>cases I<;>simp at*<;>omega)
   clear U;go_wp2_with fail
   refine(b7t _ _ _ _ _ _ H S T).mono ?_;rintro e w5 ⟨a,u5,rfl,Y⟩;have M:=H.ext a;have F:=q.out.1.ext0 a;have n:=q.out.2.1.ext0 a;have d:=q.out.2.2.ext0 a;clear l m i j;have l:=F.cell 0 rfl;have m:=F.cell 1 rfl;have i:=n.cell 0 rfl;have j:=n.cell 1 rfl;by_cases r:y.natAbs<=x.natAbs
   ·have hd:decide (y.natAbs<=x.natAbs)=true:=decide_eq_true r
    have hf:=hid (O.out r);rw[hd];clear hd r;go_wp2_with fail
    refine(a1V (a0f X b 3) w5 s u5 _ M Y).mono ?_;rintro e w6 ⟨c,u6,rfl,C,z,A,B,rfl,o,g,p⟩;have k:=d.ext0 c;clear l m i j;go_wp2_with ((with_reducible refine c1J ?_);refine a0a a0H rfl rfl k rfl rfl a3a ?_;intro w7 r1 J)
    have h7:=(p.mono (a0c.mono _) (a0h J (by omega) (by omega))).mono (a0c.mono _) a0l;rw[hf.out]at g;exact bodyPost_ret (a0d rfl rfl a0H r1 rfl) rfl ⟨ExtX.box (G.trans (a.trans c)) J (by omega),_,rfl,C,z,A,B,rfl,o,g,h7⟩
   ·have hd:decide (y.natAbs<=x.natAbs)=false:=decide_eq_false r
    have hf:=hid (P.out r);rw[hd];clear hd r;go_wp2_with fail
    refine(b7t _ _ _ _ _ _ M (mkx NV.mono T a) (mkx NV.mono S a)).mono ?_;rintro e w6 ⟨c,v5,rfl,f1⟩;have a0:=n.ext0 c;have b6:=d.ext0 c;clear l m i j;have i:=a0.cell 0 rfl;have j:=a0.cell 1 rfl;go_wp2_with fail
    refine(a1V (a0f X b 3) w6 I v5 _ (M.ext c) f1).mono ?_;rintro e w7 ⟨a7,u6,rfl,C,z,A,B,rfl,o,g,p⟩;have k:=b6.ext0 a7;clear i j;go_wp2_with ((with_reducible refine c1J ?_);refine a0a a0H rfl rfl k rfl rfl a3a ?_;intro w8 r1 J)
    have h7:=(p.mono (a0c.mono _) (a0h J (by omega) (by omega))).mono (a0c.mono _) a0l;rw[hf.out]at g;exact bodyPost_ret (a0d rfl rfl a0H r1 rfl) rfl ⟨ExtX.box (G.trans (a.trans (c.trans a7))) J (by omega),_,rfl,C,z,A,B,rfl,o,g,h7⟩
end Go.Proofs.YtjmnhbebpffoaaaGreat
