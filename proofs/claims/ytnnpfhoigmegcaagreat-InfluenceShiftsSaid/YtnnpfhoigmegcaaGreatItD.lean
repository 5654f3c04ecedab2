/- Parts of a proof: each theorem states what it proves, and its conditions. -/
import Derived.Test.YtnnpfhoigmegcaaGreatItC
import Derived.Laws.CopyRow
import Derived.Deep.RegionHeld3
import Derived.Deep.RegionWith
set_option maxRecDepth 100000
set_option maxHeartbeats 800000
namespace Go.Proofs.YtnnpfhoigmegcaaGreat
open Go.RowKit Go.Rep Go.Lim
theorem a2o(X:Nat->Bool)(ao:Option Addr)(l:List Nat)(a:Nat)(w:World)(c:Sl (a0c .u32) 1 (mk X w) ao l)(g:l.length<=4398046511104):Calls Tryz.prog 274 #[.slice ao l.length a] w fun e i=>w=i/\e=.returned (.bool (a1H l)):=by
 have f:=c.hd;by_cases d:l.length=0
 ·have b:l= []:=List.eq_nil_of_length_eq_zero d
  subst b;clear c f g d;simp only[List.length_nil];go_enter Tryz.func274,Tryz.ntmps274
  go_wp2_with fail
  go_ret
  exact⟨rfl,rfl⟩
 ·have j:=c.nat (l.length - 1) (by omega)
  have h:=hid (a3u (l:=l) (by omega));have hz:((l.length:Int)==0)=false:=a2J (by omega);go_enter Tryz.func274,Tryz.ntmps274
  go_wp2_with (with_reducible refine a0v a0S (by omega) (by assumption) ?_)
  go_ret
  exact⟨rfl,a0o (by rw[h.out];exact a8r _)⟩
theorem a6v(X:Nat->Bool)(ao:Option Addr)(l:List Nat)(c:Nat)(w:World)(f:Sl (a0c .u32) 1 (mk X w) ao l)(hd:Dig l)(n:l.length<=4398046511104)(p:∀k,X k=true->k<w.heap.size):Calls Tryz.prog 196 #[.slice ao l.length c] w (a4u X w (val l)):=by
 cases b:a1H l
 ·have h:=hid b
  go_enter Tryz.func196,Tryz.ntmps196
  go_wp2_with (go_at_call 274;refine(a2o X _ _ _ _ f n).mono ?_;rintro e r ⟨rfl,rfl⟩)
  go_ret
  have:vl l= []:=by unfold vl;rw[b];rfl
  exact⟨ExtX.refl _,none,0,[],rfl,by simp,this▸a4N hd,Sl.nil _ _ _ _⟩
 ·have h:=hid b
  have j:=OL.nil (a0c .u32) 1 X w.heap.size 110 w;have g:Sl (a0c .u32) 1 (mk (un X none) w) ao l:=f.mono (a0c.mono _) (a1h fun k _ q=>by simpa[un,ob]using q);go_enter Tryz.func196,Tryz.ntmps196
  go_wp2_with (first|(go_at_call 274;refine(a2o X _ _ _ _ f n).mono ?_;rintro e r ⟨rfl,rfl⟩)|(at_builtin;refine a4j (l:=[]) a0S rfl (a0c.elem .u32) (c1B _) p l rfl rfl j g (by simp;omega) (by simp;omega) ?_;intro o i s a d _))
  go_ret
  have:vl l=l:=by unfold vl;rw[b];rfl
  have m:=a4N hd;rw[this]at m;exact⟨(ExtX.refl w).own j (c1B _) d,_,_,l,rfl,by simpa using a.lenCap,m,by simpa using a.sl (a0c.elem _)⟩
theorem a4W(X:Nat->Bool)(ao:Option Addr)(l:List Nat)(a:Nat)(w:World)(d:Sl (a0c .u32) 1 (mk X w) ao l)(hd:Dig l)(o:l.length<=4398046511104)(h:l.length<=a):Calls Tryz.prog 278 #[.slice ao l.length a] w (b2z X w ao l a):=by
 have j:=d.hd;go_enter Tryz.func278,Tryz.ntmps278
 go_wp2_with fail
 go_loop [0] (fun s=>∃k:Nat,s=.slice ao k a/\Cut l k) (fun s=>lenOf s)
 case atStart=>exact⟨_,rfl,Cut.all l⟩
 case round=>
  obtain⟨k,rfl,c⟩:=hrel;have n:=c.1;by_cases f:0<k
  ·have i:=d.nat (k - 1) (by omega)
   have m:Hd ao k:=fun _=>j (by omega);by_cases hz:l[k - 1]=0
   ·have e:=c.less f hz
    have g:=hid hz;rw[hz]at i;clear hz;go_wp2_with (with_reducible refine a0v a0S (by omega) (by assumption) ?_)
    go_round
    case rel=>exact⟨k - 1,by go_num,e⟩
    case measure=>simp[lenOf];omega
   ·have b:=c.canon hd (.inr ⟨by omega,hz⟩)
    have g:((l[k - 1]:Int)==0)=false:=a2J (by omega);go_wp2_with (with_reducible refine a0v a0S (by omega) (by assumption) ?_)
    go_ret
    exact⟨rfl,l.take k,a4P (by simp;omega),by simp;omega,b,d.take k⟩
  ·have b:=c.canon hd (.inl (by omega))
   go_wp2_with fail
   go_ret
   exact⟨rfl,l.take k,a4P (by simp;omega),by simp;omega,b,d.take k⟩
theorem a3U(X:Nat->Bool)(ao:Option Addr)(l:List Nat)(c:Nat)(i:Nat)(w:World)(g:Sl (a0c .u32) 1 (mk X w) ao l)(hd:Dig l)(o:i<=4398046511104)(x:Nat)(j:l.getD i 0=x):Calls Tryz.prog 277 #[.slice ao l.length c,.int .i64 i] w fun e k=>w=k/\e=.returned (.int .u64 x):=by
 have n:=g.hd;have b:=hid j;clear j;by_cases h:i<l.length
 ·have m:=g.nat i h
  have d:l.getD i 0=l[i]:=by simp[List.getD,h]
  have a:=hid d;have f:=hd.get i h;rw[a1s]at f;go_enter Tryz.func277,Tryz.ntmps277
  go_wp2_with (with_reducible refine a0v a0S (by omega) (by assumption) ?_)
  go_ret
  exact⟨rfl,a0N (by rw[<-b.out,a.out])⟩
 ·have d:l.getD i 0=0:=by simp[List.getD,h]
  have a:=hid d;go_enter Tryz.func277,Tryz.ntmps277
  go_wp2_with (with_reducible refine a0v a0S (by omega) (by assumption) ?_)
  go_ret
  exact⟨rfl,a0N (by rw[<-b.out,a.out];rfl)⟩
theorem a7J(X:Nat->Bool)(n:Nat)(w:World)(hn:n<18446744073709551616)(hX:∀k,X k=true->k<w.heap.size):Calls Tryz.prog 210 #[.int .u64 n] w (a4u X w n):=by
 have hO:OL (a0c .u32) 1 X w.heap.size 110 (w.alloc (.cells #[.int .u32 ((n:Int)%4294967296),.int .u32 ((n:Int)/4294967296)] 110)) (some ⟨w.heap.size,0,none⟩) 2 [n%4294967296,n/4294967296]:=
  OL.lit (a0c.elem .u32) hX (c1B _) [.int .u32 ((n%4294967296:Nat):Int),.int .u32 ((n/4294967296:Nat):Int)] [n%4294967296,n/4294967296] _ (by simp[a0i,Value.cells]) rfl
   (fun i hi _=>by
            match i,hi with
            |0,_=>rfl
            |1,_=>rfl) (by simp)
 go_enter Tryz.func210,Tryz.ntmps210
 go_wp2_with fail
 refine(a4W X _ [n%4294967296,n/4294967296] _ _ (hO.sl (a0c.elem .u32)) (Dig.cons (by rw[a1s];exact Nat.mod_lt _ (by decide)) (Dig.cons (by rw[a1s];omega) Dig.nil)) (by simp) (by simp)).mono ?_;rintro e w' ⟨rfl,l',rfl,hl',hc,hs'⟩;go_wp2_with fail
 go_ret
 have hv:nv [n%4294967296,n/4294967296]=n:=by simp only[nv,a1s];omega
 rw[hv]at hc;exact⟨(ExtX.refl w).alloc _,_,2,_,rfl,by simpa using hl',hc,hs'⟩
theorem a7K(X:Nat->Bool)(f g:Option Addr)(a b:List Nat)(m n:Nat)(w:World)(j:Sl (a0c .u32) 1 (mk X w) f a)(l:Sl (a0c .u32) 1 (mk X w) g b)(y:a.length<=1099511627776)(z nb:Nat)(c:a0M a z)(d:a0M b nb):Calls Tryz.prog 279 #[.slice f a.length m,.slice g b.length n] w (a3R w (a3c z nb)):=by
 have u:=j.hd;have v:=l.hd;by_cases e:a.length<b.length
 ·have h:=hid (a4r c d e)
  have s:((a.length:Int) !=b.length)=true:=a8s (by omega);go_enter Tryz.func279,Tryz.ntmps279
  go_wp2_with fail
  go_ret
  exact⟨ExtX.refl _,a0N h.out.symm⟩
 by_cases r:b.length<a.length
 ·have h:=hid (a4s c d r)
  have s:((a.length:Int) !=b.length)=true:=a8s (by omega);go_enter Tryz.func279,Tryz.ntmps279
  go_wp2_with fail
  go_ret
  exact⟨ExtX.refl _,a0N h.out.symm⟩
 have s:((a.length:Int) !=b.length)=false:=b0v (by omega);have o:Hid (a.length=b.length):=hid (by omega);have t:b.length<=a.length:=by omega
 have C:a.length<=b.length:=by omega
 clear e r;go_enter Tryz.func279,Tryz.ntmps279
 go_wp2_with fail
 go_loopw [5] (fun i wr=>∃k:Nat,i=.int .i64 ((k:Int) - 1)/\k<=a.length/\Hid (a.drop k=b.drop k)/\Ext w wr) (fun i _=>(intOf i+1).toNat)
 case atStart=>exact⟨a.length,rfl,c1B _,hid (by rw[List.drop_of_length_le (c1B _),List.drop_of_length_le t]),ExtX.refl _⟩
 case round=>
  obtain⟨k,rfl,x,hdr,p⟩:=hrel;by_cases e:0<k
  ·have D:=(j.mono (a0c.mono _) (a0l p)).nat (k - 1) (by omega)
   have E:=(l.mono (a0c.mono _) (a0l p)).nat (k - 1) (by omega);have F:∀W,(Instr.indexAt 37 (.slice f a.length m) (.int .i64 ((k:Int) - 1))).run Tryz.prog W=.ok (.pointer (some (adr f (k - 1)))) W:=a0z a0S f a.length m .i64 (k - 1) u (by omega) (by omega);have G:∀W,(Instr.indexAt 37 (.slice g b.length n) (.int .i64 ((k:Int) - 1))).run Tryz.prog W=.ok (.pointer (some (adr g (k - 1)))) W:=a0z a0S g b.length n .i64 (k - 1) v (by omega) (by omega);by_cases A:a[k - 1]<b[k - 1]
   ·have h:=hid (a6Z c d o.out e x hdr.out A)
    have H:((a[k - 1]:Int)<(b[k - 1]:Int)):=by omega
    go_wp2_with fail
    go_quiet (fail)
    go_wp2_with fail
    go_ret
    exact⟨p.drewN _,a0N h.out.symm⟩
   by_cases B:b[k - 1]<a[k - 1]
   ·have h:=hid (a7a c d o.out e x hdr.out B)
    go_wp2_with fail
    go_quiet (fail)
    go_wp2_with fail
    go_quiet (fail)
    go_wp2_with fail
    go_ret
    exact⟨(p.drewN _).drewN _,a0N h.out.symm⟩
   ·have q:=hid (a5J o.out e x hdr.out (by omega))
    go_wp2_with fail
    go_quiet (fail)
    go_wp2_with fail
    go_quiet (fail)
    go_wp2_with fail
    go_roundw
    case rel=>exact⟨k - 1,by go_num,by omega,q,p.drewN _⟩
    case measure=>simp[intOf];omega
  ·have h:=hid (a7b c d (k:=k) (by omega) hdr.out)
   go_wp2_with fail
   go_ret
   exact⟨p,a0N h.out.symm⟩
theorem b4E(X:Nat->Bool)(ao bo:Option Addr)(D E:List Nat)(ca cb:Nat)(w:World)(O:Sl (a0c .u32) 1 (mk X w) ao D)(Q:Sl (a0c .u32) 1 (mk X w) bo E)(u:Dig D)(z:Dig E)(I:D.length<=1099511627776)(J:E.length<=1099511627776)(hX:∀k,X k=true->k<w.heap.size)(na nb:Nat)(L:val D=na)(M:val E=nb):Calls Tryz.prog 201 #[.slice ao D.length ca,.slice bo E.length cb] w (a4u X w (na+nb)):=by
 go_enter Tryz.func201,Tryz.ntmps201
 go_wp2_with fail
 refine(a6v X _ _ _ _ O u (by omega) hX).mono ?_;rintro e w1 ⟨p,a0,a3,a,rfl,b6,d,n⟩;have s:∀k,X k=true->k<w1.heap.size:=fun k C=>c1C (hX k C) p.size;go_wp2_with fail
 refine(a6v X _ _ _ _ (Q.mono (a0c.mono _) (a0l p)) z (by omega) s).mono ?_;rintro e Z ⟨l,a2,a4,b,rfl,b7,f,R⟩;have a7:∀k,X k=true->k<Z.heap.size:=fun k C=>c1C (s k C) l.size;have b8:a.length<=1099511627776:=by rw[d.len];exact c1A (b2u D u) I
 have b9:b.length<=1099511627776:=by rw[f.len];exact c1A (b2u E z) J
 replace n:=n.mono (a0c.mono _) (a0l l)
 rw[L]at d;rw[M]at f;have U:Hid (nv a+nv b=na+nb):=hid (by rw[d.2.2,f.2.2]);have h:=d.1;have j:=f.1;have a5:=p.trans l;clear L M O Q I J d f u z p l s;obtain⟨m,hm⟩:∃m,max a.length b.length=m:=⟨_,rfl⟩;have b1:a.length<=m:=by omega
 have b2:b.length<=m:=by omega
 have c4:m<=1099511627776:=by omega
 have c5:(if a.length<b.length then(b.length:Int)else(a.length:Int))=(m:Int):=by split<;>omega
 have c3:=hid hm;clear hm;go_wp2_with fail
 go_loopw [5,6,7] (fun v c i wr=>∃(k:Nat) (o:List Nat) (A:Nat) (oo:Option Addr) (cp:Nat),i=.int .i64 k/\c=.int .u64 A/\v=.slice oo o.length cp/\k<=m+1/\a3d a b o k A/\OL (a0c .u32) 1 X Z.heap.size 110 wr oo cp o/\Ext Z wr) (fun _ _ i _=>m+1 - (intOf i).toNat)
 case atStart=>exact⟨0,[],0,none,0,rfl,rfl,rfl,by omega,a3d.start a b,OL.nil _ _ _ _ _ _,ExtX.refl _⟩
 case round=>
  obtain⟨k,o,A,oo,cp,rfl,rfl,rfl,C,g,Y,B⟩:=hrel;have N:=hid g.1;have c0:=g.2.2.1;have a8:∀k,X k=true->k<wr.heap.size:=fun k C=>c1C (a7 k C) B.size;have t:Z.heap.size<=wr.heap.size:=B.size;by_cases c2:k<=m
  ·have P:=n.mono (a0c.mono _) (a0l B)
   have S:=R.mono (a0c.mono _) (a0l B);have T:=g.step h j;have hx:=h.getD k;have hy:=j.getD k;rw[a1s]at hx hy;obtain⟨x,q⟩:∃x,a.getD k 0=x:=⟨_,rfl⟩;obtain⟨y,r⟩:∃y,b.getD k 0=y:=⟨_,rfl⟩;rw[q,r]at T;rw[q]at hx;rw[r]at hy;have V:=hid q;have W:=hid r;clear q r;go_wp2_with fail
   refine(a3U X a0 a a3 k _ P h (by omega) x V.out).mono ?_;rintro e w' ⟨rfl,rfl⟩;go_wp2_with fail
   refine(a3U X a2 b a4 k _ S j (by omega) y W.out).mono ?_;rintro e w' ⟨rfl,rfl⟩;have K:o.length<=2199023255552:=by rw[N.out];omega
   go_wp2_with (at_builtin;refine a4i a0S rfl (a0c.elem .u32) t a8 rfl rfl Y (.int .u32 (((x+y+A)%4294967296:Nat):Int)) ((x+y+A)%4294967296) (by simp[Value.cells]) rfl (by omega) (by omega) ?_;intro a1 F w3 a6 l _)
   go_roundw
   case rel=>exact⟨k+1,_,(x+y+A)/4294967296,a1,F,by go_num,by simp,by simp,by omega,T,a6,B.own Y (c1B _) l⟩
   case measure=>simp[intOf];omega
  ·have a9:k=m+1:=by omega
   subst a9;have G:=g.done h j b1 b2;have b3:=g.2.1;have b5:=Y.sl (a0c.elem .u32);have K:o.length<=2199023255552:=by rw[N.out];omega
   have b0:=Y.lenCap;have H:=hid G;clear G;go_wp2_with fail
   refine(a4W X _ _ _ _ b5 b3 (by omega) b0).mono ?_;rintro e w' ⟨rfl,l',rfl,c1,hc,b4⟩;go_wp2_with fail
   go_ret
   rw[H.out,U.out]at hc;exact⟨a5.trans B,_,_,_,rfl,by omega,hc,b4⟩
end Go.Proofs.YtnnpfhoigmegcaaGreat
namespace Go.Lim
def a3y(a b o:List Nat)(i c:Nat):Prop:=o.length=i/\Dig o/\c<=1/\nv o+nv (b.take i)=nv (a.take i)+B^i*c
theorem a3y.start(a b:List Nat):a3y a b [] 0 0:=⟨rfl,Dig.nil,by omega,by simp[nv]⟩
theorem a3y.step{a b o:List Nat}{i c x y:Nat}(h:a3y a b o i c)(j:a.getD i 0=x)(k:b.getD i 0=y)(t:Dig a)(u:Dig b):a3y a b (o++[a4B x y c]) (i+1) (a6t x y c):=by
 obtain⟨g,r,s,v⟩:=h;have e:=t.getD i;have f:=u.getD i;rw[j]at e;rw[k]at f;obtain⟨m,n,p⟩:=a9o e f s;refine⟨by simp[g],r.append (Dig.cons n Dig.nil),p,?_⟩;rw[a2g,g,a1n,a1n,j,k,Nat.pow_succ];generalize a4B x y c=d at*;generalize a6t x y c=l at*;have q:B^i*(d+y+c)=B^i*(x+B*l):=by rw[m]
 rw[Nat.mul_add,Nat.mul_add,Nat.mul_add]at q;rw[Nat.mul_assoc];omega
theorem a3y.done{a b o:List Nat}{c:Nat}(h:a3y a b o a.length c)(d:b.length<=a.length)(j:nv b<=nv a):nv o=nv a - nv b:=by
 obtain⟨e,f,k,g⟩:=h;rw[c1D d,c1D (c1B _)]at g;have i:=a4M f;rw[e]at i;rcases(by omega:c=0\/c=1)with rfl|rfl
 ·omega
 ·omega
theorem b2K{x y c:Nat}(b:x<4294967296)(d:y<4294967296)(a:c<=1):(x+4294967296 - y - c)%4294967296=a4B x y c/\1 - (x+4294967296 - y - c)/4294967296=a6t x y c:=by
 unfold a4B a6t;refine⟨rfl,?_⟩;split<;>omega
def a4X(a:List Nat)(v by_:Nat)(o:List Nat)(i c:Nat):Prop:=o.length=by_+i/\Dig o/\c<B/\nv o+B^(by_+i)*c=B^by_*(nv (a.take i)*v)
theorem a4X.start(a:List Nat)(v b:Nat):a4X a v b (List.replicate b 0) 0 0:=⟨by simp,Dig.zeros _,a2A,by simp[nv,b0o]⟩
theorem a4X.step{a o:List Nat}{v b i c x:Nat}(h:a4X a v b o i c)(j:a.getD i 0=x)(s:Dig a)(w:v<4294967296):a4X a v b (o++[(x*v+c)%4294967296]) (i+1) ((x*v+c)/4294967296)/\x*v+c<18446744073709551616:=by
 obtain⟨g,n,p,t⟩:=h;have f:=s.getD i;rw[j,a1s]at f;rw[a1s]at p;have u:x*v<=4294967295*4294967295:=Nat.mul_le_mul (by omega) (by omega);have d:x*v+c<18446744073709551616:=by omega
 refine⟨⟨by simp[g];omega,n.append (Dig.cons (by rw[a1s];exact Nat.mod_lt _ (by decide)) Dig.nil),by rw[a1s];omega,?_⟩,d⟩;rw[a2g,g,a1n,j,<-Nat.add_assoc,Nat.pow_succ];have e:=Nat.div_add_mod (x*v+c) 4294967296;generalize (x*v+c)/4294967296=q at*;generalize (x*v+c)%4294967296=r at*;have k:B^(b+i)*(4294967296*q+r)=B^(b+i)*(x*v+c):=by rw[e]
 rw[Nat.mul_add,Nat.mul_add]at k;have l:B^(b+i)*B*q=B^(b+i)*(4294967296*q):=by rw[a1s,Nat.mul_assoc]
 have m:B^b*((nv (a.take i)+B^i*x)*v)=B^b*(nv (a.take i)*v)+B^(b+i)*(x*v):=by
  rw[Nat.add_mul,Nat.mul_add,Nat.pow_add,Nat.mul_assoc (B^i),<-Nat.mul_assoc (B^b) (B^i)]
 rw[l,m];omega
theorem a4X.done{a o:List Nat}{v b c:Nat}(h:a4X a v b o (a.length+1) c)(k:Dig a)(m:v<4294967296):Dig o/\nv o=nv a*v*B^b:=by
 obtain⟨p,i,q,d⟩:=h;rw[c1D (by omega)]at d;have j:=a4M k;have l:c=0:=by
  by_cases g:c=0
  ·exact g
  ·have n:B^(b+(a.length+1))*1<=B^(b+(a.length+1))*c:=Nat.mul_le_mul_left _ (by omega)
   have e:nv a*v<B^(a.length+1):=by
    rw[Nat.pow_succ];exact Nat.lt_of_le_of_lt (Nat.mul_le_mul_left _ (Nat.le_of_lt (show v<B by rw[a1s];exact m))) (Nat.mul_lt_mul_of_pos_right j a2A)
   have f:B^b*(nv a*v)<B^b*B^(a.length+1):=Nat.mul_lt_mul_of_pos_left e (Nat.pow_pos a2A);rw[<-Nat.pow_add]at f;omega
 subst l;exact⟨i,by rw[Nat.mul_zero,Nat.add_zero]at d;rw[d,Nat.mul_comm]⟩
theorem b4F{l:List Nat}(hd:Dig l)(k:Nat):l.getD k 0=nv l/B^k%B:=by
 by_cases a:k<l.length
 ·have b:=a2r l k (by omega)
  have c:=a2b hd k;have d:nv (l.drop k)=l[k]+B*nv (l.drop (k+1)):=a5s a;have e:0<B^k:=Nat.pow_pos a2A;rw[a0A a,b,Nat.add_mul_div_left _ _ e,Nat.div_eq_of_lt c,Nat.zero_add,d,Nat.add_mul_mod_self_left,Nat.mod_eq_of_lt (hd.get k a)]
 ·have b:=a4M hd
  have c:B^l.length<=B^k:=Nat.pow_le_pow_right a2A (by omega);rw[a4k (by omega),Nat.div_eq_of_lt (by omega)];simp
theorem b8Y{l:List Nat}{n:Nat}(h:a0M l n)(i:Nat):l.getD (i/32) 0/2^(i%32)%2=n/2^i%2:=by
 rw[b4F h.1,h.2.2];have e:i=32*(i/32)+i%32:=by omega
 have b:i%32<32:=Nat.mod_lt _ (by decide);generalize i/32=p at*;generalize i%32=s at*;subst e;rw[b6V,Nat.pow_add,<-Nat.div_div_eq_div_mul];generalize n/2^(32*p)=y;have a:B=2^s*(2*2^(31 - s)):=by
  rw[a1s,<-Nat.pow_succ',<-Nat.pow_add,show s+(31 - s).succ=32 by omega]
 rw[a,Nat.mod_mul_right_div_self];rw[Nat.mod_mul_right_mod]
def a2Y(a b q r i:Nat):Prop:=q=a/2^i/b/\r=a/2^i%b
theorem a2Y.start{a b k:Nat}(h:a<2^k):a2Y a b 0 0 k:=by
 unfold a2Y;rw[Nat.div_eq_of_lt h];exact⟨by simp,by simp⟩
theorem a2Y.step{a b q r i t:Nat}(h:a2Y a b q r (i+1))(f:0<b)(o:a/2^i%2=t):r<b/\(2*r+t<b->a2Y a b (2*q) (2*r+t) i)/\(b<=2*r+t->a2Y a b (2*q+1) (2*r+t - b) i):=by
 obtain⟨j,d⟩:=h;rw[Nat.pow_succ,<-Nat.div_div_eq_div_mul]at j d;have e:=Nat.div_add_mod (a/2^i) 2;rw[o]at e;have k:=Nat.div_add_mod (a/2^i/2) b;rw[<-j,<-d]at k;have n:r<b:=by rw[d];exact Nat.mod_lt _ f
 unfold a2Y;generalize a/2^i=y at*;generalize y/2=z at*;have g:y=b*(2*q)+(2*r+t):=by
  rw[Nat.mul_left_comm];omega
 refine⟨n,fun c=>?_,fun m=>?_⟩
 ·rw[g]
  exact⟨by rw[Nat.mul_add_div f,Nat.div_eq_of_lt c,Nat.add_zero],by rw[Nat.mul_add_mod,Nat.mod_eq_of_lt c]⟩
 ·have c:2*r+t - b<b:=by omega
  have l:y=b*(2*q+1)+(2*r+t - b):=by rw[g,Nat.mul_add,Nat.mul_one];omega
  rw[l];exact⟨by rw[Nat.mul_add_div f,Nat.div_eq_of_lt c,Nat.add_zero],by rw[Nat.mul_add_mod,Nat.mod_eq_of_lt c]⟩
theorem a2Y.done{a b q r:Nat}(h:a2Y a b q r 0):q=a/b/\r=a%b:=by
 unfold a2Y at h;simpa using h
end Go.Lim
namespace Go.Rep
open Go.RowKit Go.Lim
def HX(X:Nat->Bool)(w:World):Prop:=∀k,X k=true->k<w.heap.size
theorem HX.ext{X Y:Nat->Bool}{w a:World}(h:HX X w)(b:ExtX Y w a):HX X a:=fun k c=>c1C (h k c) b.size
theorem HX.none(w:World):HX noY w:=fun k a=>by simp[noY]at a
def NV(h:Mem)(u:Value)(n:Nat):Prop:=∃ao c l,u=.slice ao l.length c/\l.length<=c/\Dig l/\l.length<=1099511627776/\Sl (a0c .u32) 1 h ao l/\val l=n
def NC(h:Mem)(u:Value)(n:Nat):Prop:=∃ao c l,u=.slice ao l.length c/\l.length<=c/\a0M l n/\Sl (a0c .u32) 1 h ao l
theorem NV.mono:a3H NV:=by rintro h i u x g ⟨ao,c,l,rfl,a,b,d,e,f⟩;exact⟨ao,c,l,rfl,a,b,d,e.mono (a0c.mono _) g,f⟩
theorem NC.mono:a3H NC:=by rintro h f u x e ⟨ao,c,l,rfl,a,b,d⟩;exact⟨ao,c,l,rfl,a,b,d.mono (a0c.mono _) e⟩
theorem NC.nv{h:Mem}{u:Value}{n:Nat}(f:NC h u n)(e:lg n<=1099511627776):NV h u n:=by
 obtain⟨ao,c,l,rfl,b,a,d⟩:=f;exact⟨ao,c,l,rfl,b,a.1,by rw[a.len];exact e,d,a.val⟩
theorem NC.zero(h:Mem):NC h (.slice none 0 0) 0:=⟨none,0,[],rfl,c1B _,a0M.nil,Sl.nil _ _ _ _⟩
theorem NV.lg{h:Mem}{u:Value}{n:Nat}(d:NV h u n):lg n<=1099511627776:=by
 obtain⟨ao,c,l,rfl,e,a,b,f,rfl⟩:=d;exact c1A (b2u l a) b
def a1S{α:Type}(X:Nat->Bool)(w:World)(R:Mem->Value->α->Prop)(x:α)(e:Ending)(w':World):Prop:=Ext w w'/\∃u,e=.returned u/\R (mk X w') u x
theorem mkx{X:Nat->Bool}{w a:World}{α:Type}{R:Mem->Value->α->Prop}(c:a3H R){u:Value}{x:α}(h:R (mk X w) u x)(b:Ext w a):R (mk X a) u x:=c _ _ _ _ (a0l b) h
end Go.Rep
namespace Go.Proofs.YtnnpfhoigmegcaaGreat
open Go.RowKit Go.Rep Go.Lim
theorem a4u.r{X:Nat->Bool}{w:World}{n:Nat}{e:Ending}{a:World}(h:a4u X w n e a):a1S X w NC n e a:=by
 obtain⟨g,ao,c,l,rfl,b,d,f⟩:=h;exact⟨g,_,rfl,ao,c,l,rfl,b,d,f⟩
section
variable {X:Nat->Bool} {w:World} {u v:Value} {a b:Nat}
theorem c0r(n:HX X w)(o:NV (mk X w) u a)(p:NV (mk X w) v b):Calls Tryz.prog 166 #[u,v] w (a1S X w NC (a+b)):=by
 obtain⟨ao,c,l,rfl,f,g,i,j,k⟩:=o;obtain⟨e,d,m,rfl,q,s,t,x,y⟩:=p;exact(b7d X ao e l m c d w j x g s i t f q n a b k y).mono fun _ _ h=>h.r
theorem b6k(n:HX X w)(o:NV (mk X w) u a)(p:NV (mk X w) v b):Calls Tryz.prog 234 #[u,v] w (a1S X w NC (a*b)):=by
 obtain⟨ao,c,l,rfl,f,g,i,j,k⟩:=o;obtain⟨e,d,m,rfl,q,s,t,x,y⟩:=p;exact(b7e X ao e l m c d w j x g s i t f q n a b k y).mono fun _ _ h=>h.r
theorem c1d(n:HX X w)(o:NV (mk X w) u a)(p:NV (mk X w) v b):Calls Tryz.prog 293 #[u,v] w (a1S X w NC (Nat.gcd a b)):=by
 obtain⟨ao,c,l,rfl,f,g,i,j,k⟩:=o;obtain⟨e,d,m,rfl,q,s,t,x,y⟩:=p;exact(b7p X ao e l m c d w j x g s i t f q n a b k y).mono fun _ _ h=>h.r
theorem c0i(k:NV (mk X w) u a)(n:NV (mk X w) v b):Calls Tryz.prog 168 #[u,v] w (a3R w (a3c a b)):=by
 obtain⟨ao,c,l,rfl,f,g,h,i,j⟩:=k;obtain⟨e,d,m,rfl,o,p,q,r,s⟩:=n;exact a3x X ao e l m c d w i r g p h q f o a b j s
def c1e(X:Nat->Bool)(w:World)(q r:Nat)(e:Ending)(w':World):Prop:=Ext w w'/\∃u v,e=.returned (.tuple #[u,v,.bool true])/\NC (mk X w') u q/\NC (mk X w') v r
theorem c1f(s:HX X w)(x:NV (mk X w) u a)(y:NV (mk X w) v b)(t:0<b):Calls Tryz.prog 245 #[u,v] w (c1e X w (a/b) (a%b)):=by
 obtain⟨ao,c,l,rfl,k,n,o,p,q⟩:=x;obtain⟨h,d,m,rfl,z,A,B,C,D⟩:=y;refine(a9r X ao h l m c d w p C n A o B k z s a b q D t).mono ?_;rintro e M ⟨r,f,i,E,g,j,F,rfl,G,H,I,J,K,L⟩;exact⟨r,_,_,rfl,⟨f,i,E,rfl,G,H,I⟩,⟨g,j,F,rfl,J,K,L⟩⟩
def c1g(X:Nat->Bool)(w:World)(d:Nat)(b:Bool)(e:Ending)(w':World):Prop:=Ext w w'/\∃u,e=.returned (.tuple #[u,.bool b])/\NC (mk X w') u d
theorem c1h(q:HX X w)(r:NV (mk X w) u a)(s:NV (mk X w) v b):Calls Tryz.prog 307 #[u,v] w (c1g X w (a - b) (decide (b<=a))):=by
 obtain⟨ao,c,l,rfl,i,j,k,n,o⟩:=r;obtain⟨g,d,m,rfl,t,x,y,z,A⟩:=s;refine(b7k X ao g l m c d w n z j x k y i t q a b o A).mono ?_;rintro e F ⟨p,f,h,B,rfl,C,D,E⟩;exact⟨p,_,rfl,f,h,B,rfl,C,D,E⟩
theorem b8Z(b:HX X w)(c:a<18446744073709551616):Calls Tryz.prog 244 #[.int .u64 a] w (a1S X w NC a):=
 (a3Q X a w c b).mono fun _ _ h=>h.r
theorem b4G(k:HX X w)(n:NV (mk X w) u a)(o:NV (mk X w) v b):Calls Tryz.prog 201 #[u,v] w (a1S X w NC (a+b)):=by
 obtain⟨ao,c,l,rfl,x,f,g,i,j⟩:=n;obtain⟨e,d,m,rfl,y,p,q,s,t⟩:=o;exact(b4E X ao e l m c d w i s f p g q k a b j t).mono fun _ _ h=>h.r
theorem a3V(e:HX X w)(f:NV (mk X w) u a):Calls Tryz.prog 196 #[u] w (a1S X w NC a):=by
 obtain⟨ao,c,l,rfl,g,b,i,d,rfl⟩:=f;exact(a6v X ao l c w d b (by omega) e).mono fun _ _ h=>h.r
theorem b6l(b:HX X w)(c:a<18446744073709551616):Calls Tryz.prog 210 #[.int .u64 a] w (a1S X w NC a):=
 (a7J X a w c b).mono fun _ _ h=>h.r
end
end Go.Proofs.YtnnpfhoigmegcaaGreat
namespace Go.Proofs.YtnnpfhoigmegcaaGreat
open Go.RowKit Go.Rep Go.Lim
theorem b7q(X:Nat->Bool)(w:World)(u v:Value)(r nb:Nat)(Z:HX X w)(hu:NV (mk X w) u r)(hv:NV (mk X w) v nb):Calls Tryz.prog 202 #[u,v] w (c1g X w (r - nb) (decide (nb<=r))):=by
 have L:=hu.lg;have M:=hv.lg;go_enter Tryz.func202,Tryz.ntmps202
 go_wp2_with fail
 refine(a3V Z hu).mono ?_;rintro e w1 ⟨l,u1,rfl,T⟩;go_wp2_with fail
 refine(a3V (Z.ext l) (mkx NV.mono hv l)).mono ?_;rintro e w2 ⟨j,v1,rfl,b6⟩;obtain⟨ao,ca,a,rfl,b8,d,F⟩:=mkx NC.mono T j;obtain⟨bo,cb,b,rfl,b9,f,G⟩:=b6;have J:=Z.ext (l.trans j);have a5:a.length<=1099511627776:=by rw[d.len];exact L
 have b7:b.length<=1099511627776:=by rw[f.len];exact M
 have A:=l.trans j;have n:=hid d.len;have p:=hid f.len;clear hu hv T l j Z L M;go_wp2_with fail
 refine(a7K X ao bo a b ca cb w2 F G a5 r nb d f).mono ?_;rintro e w3 ⟨m,rfl⟩;have a2:=J.ext m;have B:=A.trans m;by_cases q:r<nb
 ·have hc:a3c r nb<0:=(a3L _ _).2 q
  have hd:Hid (decide (nb<=r)=false):=hid (decide_eq_false (by omega));have hz:Hid (r - nb=0):=hid (by omega);clear q;go_wp2_with fail
  go_ret2
  exact⟨B,.slice none 0 0,by rw[hd.out];rfl,by rw[hz.out];exact NC.zero _⟩
 ·have hc:¬a3c r nb<0:=fun h=>q ((a3L _ _).1 h)
  have hd:Hid (decide (nb<=r)=true):=hid (decide_eq_true (by omega));have a4:b.length<=a.length:=by rw[n.out,p.out];exact a1j (by omega)
  have b1:Hid (nv b<=nv a):=hid (by rw[d.2.2,f.2.2];omega);have S:Hid (nv a - nv b=r - nb):=hid (by rw[d.2.2,f.2.2]);have D:=d.1;have E:=f.1;have O:=F.mono (a0c.mono _) (a0l m);have Q:=G.mono (a0c.mono _) (a0l m);clear q d f m A J F G n p;go_wp2_with fail
  go_loopw [6,7,8] (fun v c i wr=>∃(k:Nat) (o:List Nat) (s:Nat) (oo:Option Addr) (W:Nat),i=.int .i64 k/\c=.int .u64 s/\v=.slice oo o.length W/\k<=a.length/\s<=1/\Hid (a3y a b o k s)/\o.length<=k/\OL (a0c .u32) 1 X w3.heap.size 110 wr oo W o/\Ext w3 wr) (fun _ _ i _=>a.length - (intOf i).toNat)
  case atStart=>exact⟨0,[],0,none,0,rfl,rfl,rfl,by omega,by omega,hid (a3y.start a b),by simp,OL.nil _ _ _ _ _ _,ExtX.refl _⟩
  case round=>
   obtain⟨k,o,s,oo,W,rfl,rfl,rfl,hk,a7,g,c1,Y,H⟩:=hrel;have a3:∀k,X k=true->k<wr.heap.size:=fun k hk=>c1C (a2 k hk) H.size;have C:w3.heap.size<=wr.heap.size:=H.size;by_cases q:k<a.length
   ·have N:=O.mono (a0c.mono _) (a0l H)
    have P:=Q.mono (a0c.mono _) (a0l H);have hx:=D.getD k;have hy:=E.getD k;rw[a1s]at hx hy;obtain⟨x,t⟩:∃x,a.getD k 0=x:=⟨_,rfl⟩;obtain⟨y,z⟩:∃y,b.getD k 0=y:=⟨_,rfl⟩;rw[t]at hx;rw[z]at hy;have b5:=hid (g.out.step t z D E);have R:=hid (b2K hx hy a7);have K:a6t x y s<=1:=by unfold a6t;split<;>omega
    have U:=hid t;have V:=hid z;clear t z g;go_wp2_with fail
    refine(a3U X ao a ca k _ N D (by omega) x U.out).mono ?_;rintro e w' ⟨rfl,rfl⟩;go_wp2_with fail
    refine(a3U X bo b cb k _ P E (by omega) y V.out).mono ?_;rintro e w' ⟨rfl,rfl⟩;go_wp2_with (at_builtin;refine a4i a0S rfl (a0c.elem .u32) C a3 rfl rfl Y (.int .u32 ((a4B x y s:Nat):Int)) (a4B x y s) (by rw[<-R.out.1];simp[Value.cells];omega) rfl (by omega) (by omega) ?_;intro a0 I w5 a1 j _)
    have a6:Hid ((1:Int) - ((x:Int)+4294967296 - (y:Int) - (s:Int))/4294967296=((a6t x y s:Nat):Int)):=hid (by have:=R.out.2;omega);go_roundw
    case rel=>exact⟨k+1,_,a6t x y s,a0,I,by go_num,by rw[a6.out],by simp,by omega,K,b5,by simp;omega,a1,H.own Y (c1B _) j⟩
    case measure=>simp[intOf];omega
   ·have a9:k=a.length:=by omega
    subst a9;have a8:=hid (g.out.done a4 b1.out);have b2:=g.out.2.1;have b4:=Y.sl (a0c.elem .u32);have b0:=Y.lenCap;go_wp2_with fail
    refine(a4W X _ _ _ _ b4 b2 (by omega) b0).mono ?_;rintro e w' ⟨rfl,l',rfl,c0,hc,b3⟩;go_wp2_with fail
    go_ret2
    rw[a8.out,S.out]at hc;exact⟨B.trans H,_,by rw[hd.out];rfl,oo,W,l',rfl,by omega,hc,b3⟩
theorem b2L(X:Nat->Bool)(w:World)(u:Value)(n v b:Nat)(W:HX X w)(hu:NC (mk X w) u n)(hn:lg n<=549755813888)(hb:b<=549755813888)(hv:v<4294967296):Calls Tryz.prog 280 #[u,.int .u32 v,.int .i64 b] w (a1S X w NC (n*v*B^b)):=by
 obtain⟨ao,ca,a,rfl,a1,d,S⟩:=hu;have a0:a.length<=549755813888:=by rw[d.len];exact hn
 have j:=d.1;have O:=hid d.2.2;clear d hn;go_enter Tryz.func280,Tryz.ntmps280
 go_wp2_with (at_make;refine a2w a0S (a0c.elem .u32) 0 (fun _=>rfl) X W w.heap.size (c1B _) b rfl rfl (by omega) (by omega) (by omega) ?_;intro G w1 p z)
 go_loopw [7,8,9] (fun v_ c i wr=>∃(k:Nat) (o:List Nat) (r:Nat) (G:Option Addr) (F:Nat),i=.int .i64 k/\c=.int .u64 r/\v_=.slice G o.length F/\k<=a.length+1/\r<4294967296/\Hid (a4X a v b o k r)/\o.length<=b+k/\OL (a0c .u32) 1 X w.heap.size 110 wr G F o/\Ext w wr) (fun _ _ i _=>a.length+1 - (intOf i).toNat)
 case atStart=>exact⟨0,_,0,G,b,rfl,rfl,by simp,by omega,by omega,hid (a4X.start a v b),by simp,p,z⟩
 case round=>
  clear p z;obtain⟨k,o,r,V,F,rfl,rfl,rfl,Z,a2,f,a5,p,y⟩:=hrel;have K:∀k,X k=true->k<wr.heap.size:=fun k Z=>c1C (W k Z) y.size;have q:w.heap.size<=wr.heap.size:=y.size;by_cases a4:k<=a.length
  ·have D:=S.mono (a0c.mono _) (a0l y)
   have hx:=j.getD k;rw[a1s]at hx;obtain⟨x,l⟩:∃x,a.getD k 0=x:=⟨_,rfl⟩;rw[l]at hx;obtain⟨h,m⟩:=f.out.step l j hv;have E:=hid l;obtain⟨t,U⟩:∃t,x*v+r=t:=⟨_,rfl⟩;rw[U]at h m;have T:=hid h;have a6:IntKind.u64.wrap ((x:Int)*(v:Int))=(x:Int)*(v:Int):=IntWalk.u64_in _ (by rw[<-Int.natCast_mul];omega);have a7:IntKind.u64.wrap ((x:Int)*(v:Int)+(r:Int))=(t:Int):=by
    rw[<-U,Int.natCast_add,Int.natCast_mul];exact IntWalk.u64_in _ (by rw[<-Int.natCast_mul];omega)
   have A:t/4294967296<4294967296:=by omega
   have C:decide ((k:Int)<=(a.length:Int))=true:=decide_eq_true (by omega);clear l f h U m;go_wp2_with fail
   refine(a3U X ao a ca k _ D j (by omega) x E.out).mono ?_;rintro e w' ⟨rfl,rfl⟩;go_wp2_with (at_builtin;refine a4i a0S rfl (a0c.elem .u32) q K rfl rfl p (.int .u32 ((t%4294967296:Nat):Int)) (t%4294967296) (by simp[Value.cells]) rfl (by omega) (by omega) ?_;intro H s w5 J I _)
   go_roundw
   case rel=>exact⟨k+1,_,t/4294967296,H,s,by go_num,by rw[Int.natCast_ediv];rfl,by simp,by omega,A,T,by simp;omega,J,y.own p (c1B _) I⟩
   case measure=>simp[intOf];omega
  ·have M:k=a.length+1:=by omega
   subst M;have g:=f.out.done j hv;have L:=hid g.2;have P:=g.1;have R:=p.sl (a0c.elem .u32);have N:=p.lenCap;have C:decide (((a.length+1:Nat):Int)<=(a.length:Int))=false:=decide_eq_false (by omega);clear g f;go_wp2_with fail
   refine(a4W X _ _ _ _ R P (by omega) N).mono ?_;rintro e w' ⟨rfl,l',rfl,a3,Y,Q⟩;go_wp2_with fail
   go_ret
   rw[L.out,O.out]at Y;exact⟨y,_,rfl,V,F,l',rfl,by omega,Y,Q⟩
theorem b4H(X:Nat->Bool)(w:World)(u v:Value)(a nb:Nat)(E:HX X w)(R:NV (mk X w) u a)(S:NV (mk X w) v nb)(P:lg a<=274877906944)(Q:lg nb<=274877906944):Calls Tryz.prog 203 #[u,v] w (a1S X w NC (a*nb)):=by
 go_enter Tryz.func203,Tryz.ntmps203
 go_wp2_with fail
 refine(a3V E R).mono ?_;rintro e w1 ⟨d,Z,rfl,D⟩;go_wp2_with fail
 refine(a3V (E.ext d) (mkx NV.mono S d)).mono ?_;rintro e w2 ⟨f,v1,rfl,M⟩;have L:=mkx NC.mono D f;obtain⟨bo,cb,b,rfl,V,c,z⟩:=M;have G:=E.ext (d.trans f);have U:b.length<=274877906944:=by rw[c.len];exact Q
 have q:=d.trans f;have s:=c.1;have H:=hid c.2.2;have W:=z.hd;have h:=hid P;clear R S D d f E Q c P;go_wp2_with fail
 go_loopw [5,6] (fun o i wr=>∃(k:Nat),i=.int .i64 k/\k<=b.length/\NC (mk X wr) o (a*nv (b.take k))/\Ext w2 wr) (fun _ i _=>b.length - (intOf i).toNat)
 case atStart=>exact⟨0,rfl,by omega,by simpa[nv]using NC.zero _,ExtX.refl _⟩
 case round=>
  obtain⟨k,rfl,hk,I,p⟩:=hrel;have r:=G.ext p;by_cases m:k<b.length
  ·have l:=(z.mono (a0c.mono _) (a0l p)).nat k m
   have N:=s.get k m;obtain⟨x,n⟩:∃x,b[k]=x:=⟨_,rfl⟩;have J:Hid (a*nv (b.take k)+a*x*B^k=a*nv (b.take (k+1))):=hid (by rw[a0G b k m,n,Nat.mul_add,Nat.mul_assoc a x,Nat.mul_comm x]);rw[n]at l N;rw[a1s]at N;have K:Hid (lg (a*nv (b.take k))<=1099511627776):=hid (by
    have O:=a0Z a (nv (b.take k));have T:lg (nv (b.take k))<=k:=a3b.2 (a2b s k);have:=h.out;omega)
   have A:Hid (lg (a*x*B^k)<=1099511627776):=hid (by
    have O:a*x*B^k<B^(lg a+1+k):=by
     rw[Nat.pow_add,Nat.pow_succ];refine Nat.mul_lt_mul_of_pos_right ?_ (Nat.pow_pos a2A);refine Nat.lt_of_le_of_lt (Nat.mul_le_mul_left _ (show x<=B by rw[a1s];omega)) (Nat.mul_lt_mul_of_pos_right (a3b.1 (c1B _)) a2A)
    have T:=a3b.2 O;have:=h.out;omega)
   clear n;go_wp2_with (with_reducible refine a0v a0S (by omega) (by assumption) ?_)
   refine(b2L X wr Z a x k r (mkx NC.mono L p) (by have:=h.out;omega) (by omega) N).mono ?_;rintro e w4 ⟨j,t,rfl,Y⟩;go_wp2_with fail
   refine(b4G (r.ext j) (mkx NV.mono (I.nv K.out) j) (Y.nv A.out)).mono ?_;rintro e w5 ⟨F,t2,rfl,C⟩;rw[J.out]at C;go_wp2_with fail
   go_roundw
   case rel=>exact⟨k+1,by go_num,by omega,C,p.trans (j.trans F)⟩
   case measure=>simp[intOf];omega
  ·have y:k=b.length:=by omega
   have g:a*nv (b.take k)=a*nb:=by rw[y,List.take_length,H.out]
   rw[g]at I;clear g y;go_wp2_with fail
   go_ret
   exact⟨q.trans p,_,rfl,I⟩
end Go.Proofs.YtnnpfhoigmegcaaGreat
namespace Go.Rep
open Go.RowKit Go.Lim
theorem NC.lit{X:Nat->Bool}{w:World}(d:HX X w)(x:Nat)(t:TypeId)(a:0<x)(b:x<4294967296):NC (mk X (w.alloc (.cells #[.int .u32 (x:Int)] t))) (.slice (some ⟨w.heap.size,0,none⟩) 1 1) x:=by
 have c:OL (a0c .u32) 1 X w.heap.size t (w.alloc (.cells #[.int .u32 (x:Int)] t)) (some ⟨w.heap.size,0,none⟩) 1 [x]:=
  OL.lit (a0c.elem .u32) d (c1B _) [.int .u32 (x:Int)] [x] _ (by simp[a0i,Value.cells]) rfl (fun i e f=>by
   have:i=0:=by simp at e;omega
   subst this;rfl) (by simp)
 exact⟨_,1,[x],rfl,c1B _,b4v a b,c.sl (a0c.elem _)⟩
end Go.Rep
namespace Go.Proofs.YtnnpfhoigmegcaaGreat
open Go.RowKit Go.Rep Go.Lim
theorem c1t(X:Nat->Bool)(w:World)(u:Value)(n i:Nat)(E:NC (mk X w) u n)(I:i<32*lg n)(D:lg n<=1099511627776):Calls Tryz.prog 323 #[u,.int .i64 i] w fun e F=>w=F/\e=.returned (.int .u32 (n/2^i%2:Nat)):=by
 obtain⟨ao,G,a,rfl,B,b,d⟩:=E;have h:i/32<a.length:=by rw[b.len];omega
 have A:a.length<=1099511627776:=by rw[b.len];exact D
 have c:=d.nat (i/32) h;have f:=b8Y b i;rw[a0A h]at f;have j:=b.1.get (i/32) h;obtain⟨x,g⟩:∃x,a[i/32]=x:=⟨_,rfl⟩;rw[g]at c f j;rw[a1s]at j;have H:=d.hd;have l:=hid f;have r:Hid (x<4294967296):=hid j;have C:(i:Int)<=35184372088832:=by omega
 have y:(i:Int)/32=((i/32:Nat):Int):=by omega
 have z:(i:Int)%32=((i%32:Nat):Int):=by omega
 have k:Hid (i%32<32):=hid (Nat.mod_lt _ (by decide));obtain⟨p,s⟩:∃p,i/32=p:=⟨_,rfl⟩;obtain⟨q,hq⟩:∃q,i%32=q:=⟨_,rfl⟩;rw[s]at y h c;rw[hq]at z k;have t:q<32:=k.out;have m:Hid (x/2^q%2=n/2^i%2):=hid (by rw[<-hq];exact f);clear g f s hq l k b j d;go_enter Tryz.func323,Tryz.ntmps323
 go_wp2_with (with_reducible refine a0v a0S (by omega) (by assumption) ?_)
 go_ret
 have o:x/2^q<4294967296:=Nat.lt_of_le_of_lt (Nat.div_le_self _ _) r.out;have v:=a2H (x/2^q) 1 o (by omega);rw[Nat.and_one_is_mod,m.out]at v;exact⟨rfl,a0N (by simpa using v)⟩
theorem a9s(X:Nat->Bool)(w:World)(u:Value)(n t:Nat)(m:HX X w)(p:NC (mk X w) u n)(s:lg n<=549755813887)(v:t<=1):Calls Tryz.prog 322 #[u,.int .u32 t] w (a1S X w NC (2*n+t)):=by
 have k:Hid (lg (n*2*B^0)<=1099511627776):=hid (by
  have q:=a0Z n 2;have r:lg 2=1:=a1Z (by omega) (by omega);rw[Nat.pow_zero,Nat.mul_one];omega)
 have j:Hid (lg 1<=1099511627776):=hid (by rw[a3F];decide);have f:Hid (n*2*B^0=2*n):=hid (by rw[Nat.pow_zero,Nat.mul_one,Nat.mul_comm]);go_enter Tryz.func322,Tryz.ntmps322
 go_wp2_with fail
 refine(b2L X w u n 2 0 m p (by omega) (by omega) (by omega)).mono ?_;rintro e l ⟨a,y,rfl,b⟩;have d:=m.ext a;rcases(by omega:t=0\/t=1)with rfl|rfl
 ·rw[f.out]at b
  go_wp2_with fail
  go_ret
  exact⟨a,_,rfl,b⟩
 ·go_wp2_with fail
  have o:=NC.lit d 1 110 (by omega) (by omega);have h:=a.alloc (.cells #[.int .u32 ((1:Nat):Int)] 110);have c:Ext l (l.alloc (.cells #[.int .u32 ((1:Nat):Int)] 110)):=(ExtX.refl l).alloc _;refine(b4G (d.ext c) (mkx NV.mono (b.nv k.out) c) (o.nv j.out)).mono ?_;rintro e z ⟨i,x,rfl,g⟩;rw[f.out]at g;go_wp2_with fail
  go_ret
  exact⟨h.trans i,_,rfl,g⟩
theorem b9a(X:Nat->Bool)(w:World)(u v:Value)(na nb:Nat)(hX:HX X w)(hu:NV (mk X w) u na)(hv:NV (mk X w) v nb)(h1:lg na<=274877906944)(h2:lg nb<=274877906944)(h0:0<nb):Calls Tryz.prog 276 #[u,v] w (c1e X w (na/nb) (na%nb)):=by
 go_enter Tryz.func276,Tryz.ntmps276
 go_wp2_with fail
 refine(a3V hX hu).mono ?_;rintro e w1 ⟨hE1,u1,rfl,hu1⟩;go_wp2_with fail
 refine(a3V (hX.ext hE1) (mkx NV.mono hv hE1)).mono ?_;rintro e w2 ⟨hE2,v1,rfl,hv1⟩;have hu2:=mkx NC.mono hu1 hE2;obtain⟨ao,ca,a,rfl,hca,hcan,hsa⟩:=id hu2;obtain⟨bo,cb,b,rfl,hcb,hcbn,hsb⟩:=id hv1;have hX2:=hX.ext (hE1.trans hE2);have hal:a.length<=274877906944:=by rw[hcan.len];exact h1
 have hall:=hid hcan.len;have hE12:=hE1.trans hE2;have hbl:¬b.length=0:=by have:=a1q hcbn;omega
 have hbI:(0:Int)<(b.length:Int):=by omega
 have hbz:((b.length:Int)==0)=false:=a2J (by omega);have hst:Hid (a2Y na nb 0 0 (32*a.length)):=hid (a2Y.start (by rw[<-b6V,hcan.len];exact a3b.1 (c1B _)));have h1':=hid h1;have h2':=hid h2;have h0':=hid h0;clear hu hv hu1 hE1 hE2 hX h1 h2 h0 hcan hcbn hsa hsb hbl hca hcb;go_wp2_with fail
 go_loopw [7,8,9] (fun q r i wr=>∃(k Q R:Nat) (x:Int),i=.int .i64 x/\x=(k:Int) - 1/\k<=32*a.length/\Hid (a2Y na nb Q R k)/\NC (mk X wr) q Q/\NC (mk X wr) r R/\Ext w2 wr) (fun _ _ i _=>(intOf i+1).toNat)
 case atStart=>exact⟨32*a.length,0,0,_,rfl,by omega,by omega,hst,NC.zero _,NC.zero _,ExtX.refl _⟩
 case round=>
  obtain⟨k,Q,R,x,rfl,hx,hk,hinv,hq,hr,hE⟩:=hrel;have hX3:=hX2.ext hE;cases k with
  |zero=>
   obtain rfl:x= -1:=by omega
   obtain⟨rfl,rfl⟩:=hinv.out.done;clear hinv hx hst;go_wp2_with fail
   go_ret3
   exact⟨hE12.trans hE,_,_,rfl,hq,hr⟩
  |succ i=>
   obtain rfl:x=(i:Int):=by omega
   have hi:i<32*lg na:=by rw[<-hall.out];omega
   obtain⟨t,ht⟩:∃t,na/2^i%2=t:=⟨_,rfl⟩;have ht1:t<=1:=by omega
   obtain⟨hR,hs1,hs2⟩:=hinv.out.step h0'.out ht;have hQb:Hid (lg Q<=274877906944):=hid (by
    have e1:Q<=na:=by rw[hinv.out.1];exact c1A (Nat.div_le_self _ _) (Nat.div_le_self _ _)
    exact c1A (a1j e1) h1'.out)
   have hRb:Hid (lg R<=274877906944):=hid (c1A (a1j (Nat.le_of_lt hR)) h2'.out);have hRb2:Hid (lg (2*R+t)<=1099511627776):=hid (by
    have e1:=b0p (2*R) t;have e2:=a0Z 2 R;have e3:lg 2=1:=a1Z (by omega) (by omega);have e4:lg t<=1:=by have:=a1j ht1;rw[a3F]at this;exact this
    have:=hRb.out;omega)
   have hs1':=hid hs1;have hs2':=hid hs2;have hbit:=c1t X wr _ na i (mkx NC.mono hu2 hE) hi (by have:=h1'.out;omega);rw[ht]at hbit;clear hinv hR hs1 hs2 hst ht hi hx;go_wp2_with fail
   refine hbit.mono ?_;rintro e w' ⟨rfl,rfl⟩;go_wp2_with fail
   refine(a9s X wr _ R t hX3 hr (by have:=hRb.out;omega) ht1).mono ?_;rintro e w4 ⟨hE4,r1,rfl,hr1⟩;have hX4:=hX3.ext hE4;have hq4:=mkx NC.mono hq hE4;have hb4:=(mkx NC.mono hv1 (hE.trans hE4)).nv (by have:=h2'.out;omega);clear hbit;go_wp2_with fail
   refine(b7q X w4 r1 _ (2*R+t) nb hX4 (hr1.nv hRb2.out) hb4).mono ?_;rintro e w5 ⟨hE5,d,rfl,hd⟩;have hX5:=hX4.ext hE5;have hq5:=mkx NC.mono hq4 hE5;by_cases hge:nb<=2*R+t
   ·have hi2:=hid (hs2'.out hge)
    have hdt:decide (nb<=2*R+t)=true:=decide_eq_true hge;rw[hdt];clear hge hdt;go_wp2_with fail
    refine(a9s X w5 _ Q 1 hX5 hq5 (by have:=hQb.out;omega) (by omega)).mono ?_;rintro e w6 ⟨hE6,q1,rfl,hq1⟩;go_wp2_with fail
    go_roundw
    case rel=>exact⟨i,_,_,_,rfl,rfl,by omega,hi2,hq1,mkx NC.mono hd hE6,hE.trans (hE4.trans (hE5.trans hE6))⟩
    case measure=>simp[intOf]
   ·have hi2:=hid (hs1'.out (by omega))
    have hdt:decide (nb<=2*R+t)=false:=decide_eq_false hge;rw[hdt];clear hge hdt;go_wp2_with fail
    refine(a9s X w5 _ Q 0 hX5 hq5 (by have:=hQb.out;omega) (by omega)).mono ?_;rintro e w6 ⟨hE6,q1,rfl,hq1⟩;go_wp2_with fail
    go_roundw
    case rel=>exact⟨i,_,_,_,rfl,rfl,by omega,hi2,hq1,mkx NC.mono hr1 (hE5.trans hE6),hE.trans (hE4.trans (hE5.trans hE6))⟩
    case measure=>simp[intOf]
theorem b9b(X:Nat->Bool)(w:World)(u v:Value)(s nb:Nat)(K:HX X w)(hu:NV (mk X w) u s)(hv:NV (mk X w) v nb)(h1:lg s<=274877906944)(h2:lg nb<=274877906944):Calls Tryz.prog 275 #[u,v] w (a1S X w NC (Nat.gcd s nb)):=by
 go_enter Tryz.func275,Tryz.ntmps275
 go_wp2_with fail
 refine(a3V K hu).mono ?_;rintro e w1 ⟨c,u1,rfl,I⟩;go_wp2_with fail
 refine(a3V (K.ext c) (mkx NV.mono hv c)).mono ?_;rintro e w2 ⟨g,v1,rfl,n⟩;have J:=mkx NC.mono I g;have O:=K.ext (c.trans g);have z:=c.trans g;have L:=hid h1;have M:=hid h2;clear hu hv I c g K h1 h2;go_wp2_with fail
 go_loopw [0,1] (fun x y wr=>∃(p q:Nat) (t:Option Addr) (l o:Nat),y=.slice t l o/\NC (mk X wr) x p/\NC (mk X wr) (.slice t l o) q/\Hid (lg p<=274877906944)/\Hid (lg q<=274877906944)/\Hid (Nat.gcd p q=Nat.gcd s nb)/\Ext w2 wr) (fun _ y W=>c0q W y)
 case atStart=>
  obtain⟨t,o,b,rfl,_⟩:=id n;exact⟨s,nb,t,_,o,rfl,J,n,L,M,hid rfl,ExtX.refl _⟩
 case round=>
  obtain⟨p,q,t,l,o,rfl,V,Y,T,hq,R,N⟩:=hrel;have P:=O.ext N;obtain⟨a0,a1,b,B,Q,i,H⟩:=id Y;simp only[Value.slice.injEq]at B;obtain⟨rfl,rfl,rfl⟩:=B;have C:=a1q i;have k:=a5u o H;rw[i.2.2]at k;have h:=hid k;clear k i H Q J n;by_cases hl:0<b.length
  ·have a:0<q:=by omega
   have S:(0:Int)<(b.length:Int):=by omega
   have U:Hid (Nat.gcd q (p%q)=Nat.gcd s nb):=hid (by rw[Nat.gcd_comm,<-Nat.gcd_rec,Nat.gcd_comm];exact R.out);have D:=hid (Nat.mod_lt p a);have F:=hid a;have hr:Hid (lg (p%q)<=274877906944):=hid (c1A (a1j (Nat.le_of_lt D.out)) hq.out);clear C a;go_wp2_with fail
   refine(b9a X wr _ _ p q P (V.nv (by have:=T.out;omega)) (Y.nv (by have:=hq.out;omega)) T.out hq.out F.out).mono ?_;rintro e w4 ⟨A,d,r,rfl,hd,G⟩;obtain⟨ro,Z,rl,rfl,m⟩:=id G;have j:=a5u Z m.2.2;rw[m.2.1.2.2]at j;have E:=hid j;clear j m;go_wp2_with fail
   go_roundw
   case rel=>exact⟨q,p%q,ro,_,Z,rfl,mkx NC.mono Y A,G,hq,hr,U,N.trans A⟩
   case measure=>rw[E.out,h.out];exact D.out
  ·have a:q=0:=by omega
   have f:=R.out;rw[a,Nat.gcd_zero_right]at f;have S:((b.length:Int))=0:=by omega
   rw[f]at V;clear f a C R T h;go_wp2_with fail
   go_ret
   exact⟨z.trans N,_,rfl,V⟩
theorem b4I{α:Type}{a b:List α}(h:a.length=b.length)(c:∀i,(h1:i<a.length)->(h2:i<b.length)->a[i]=b[i]):a=b:=List.ext_getElem h c
theorem b1q{a b:List Nat}{i:Nat}(h:∀p,p<i->∀(c:p<a.length) (hq:p<b.length),a[p]=b[p])(g:∀(c:i<a.length) (hq:i<b.length),a[i]=b[i]):Hid (∀p,p<i+1->∀(c:p<a.length) (hq:p<b.length),a[p]=b[p]):=hid fun p c e f=>by
 by_cases d:p=i
 ·subst d;exact g e f
 ·exact h p (by omega) e f
theorem b6m{w wr:World}(h:Hid (∃m,wr=w.drewN m))(n:Nat):∃m,wr.drewN n=w.drewN m:=by
 obtain⟨m,rfl⟩:=h;exact⟨_,World.drewN_drewN _ _ _⟩
theorem b6n(X:Nat->Bool)(w:World)(u v:Value)(E nb:Nat)(hu:NC (mk X w) u E)(q:NC (mk X w) v nb)(C:lg E<=1099511627776):Calls Tryz.prog 115 #[u,v] w fun e w'=>e=.returned (.bool (decide (E=nb)))/\∃m,w'=w.drewN m:=by
 obtain⟨ao,O,a,rfl,G,d,t⟩:=hu;obtain⟨F,P,b,rfl,H,g,z⟩:=q;have Y:a.length<=1099511627776:=by rw[d.len];exact C
 have I:=t.hd;have J:=z.hd;have n:Hid (decide (E=nb)=(a==b)):=hid (by
  rw[Bool.eq_iff_iff];simp only[decide_eq_true_eq,beq_iff_eq];constructor
  ·intro h;subst h;exact d.unique g
  ·intro h;subst h;exact d.2.2.symm.trans g.2.2)
 clear C G H d g;by_cases f:a.length=b.length
 ·have V:b.length<=a.length:=by omega
  have T:a.length<=b.length:=by omega
  have L:((a.length:Int) !=b.length)=false:=b0v (by omega);have o:=hid f;clear f;go_enter Tryz.func115,Tryz.ntmps115
  go_wp2_with fail
  go_loopw [5] (fun c wr=>∃i:Nat,c=.int .i64 i/\i<=a.length/\Hid (∀p,p<i->∀(D:p<a.length) (hq:p<b.length),a[p]=b[p])/\∃m,wr=w.drewN m) (fun c _=>a.length - (intOf c).toNat)
  case atStart=>exact⟨0,rfl,Nat.zero_le _,hid fun p D=>by omega,0,rfl⟩
  case round=>
   obtain⟨i,rfl,hi,s,l⟩:=hrel;have k:Hid (∃m,wr=w.drewN m):=hid l;have Q:Ext w wr:=by
    obtain⟨m,Z⟩:=l;rw[Z];exact(ExtX.refl w).drewN m
   clear l;by_cases K:i<a.length
   ·have r:i<b.length:=by omega
    have R:=(t.mono (a0c.mono _) (a0l Q)).nat i K;have S:=(z.mono (a0c.mono _) (a0l Q)).nat i r;have i1:∀W,(Instr.indexAt 37 (.slice ao a.length O) (.int .i64 (i:Int))).run Tryz.prog W=.ok (.pointer (some (adr ao i))) W:=a0z a0S ao a.length O .i64 i I (by omega) rfl;have i2:∀W,(Instr.indexAt 37 (.slice F b.length P) (.int .i64 (i:Int))).run Tryz.prog W=.ok (.pointer (some (adr F i))) W:=a0z a0S F b.length P .i64 i J (by omega) rfl;obtain⟨x,M⟩:∃x,a[i]=x:=⟨_,rfl⟩;obtain⟨y,N⟩:∃y,b[i]=y:=⟨_,rfl⟩;rw[M]at R;rw[N]at S;have A:=hid M;have B:=hid N;clear M N;by_cases j:x=y
    ·have C:Hid (∀(D:i<a.length) (hq:i<b.length),a[i]=b[i]):=hid fun _ _=>by rw[A.out,B.out,j]
     have U:((x:Int) !=y)=false:=b0v (by omega);clear j;go_wp2_with fail
     go_quiet (fail)
     go_wp2_with fail
     go_roundw
     case rel=>exact⟨i+1,by go_num,by omega,b1q s.out C.out,b6m k _⟩
     case measure=>simp[intOf];omega
    ·have q:Hid ((a==b)=false):=hid (by
      cases h:a==b
      ·rfl
      ·have:=eq_of_beq h;subst this;exact absurd (A.out.symm.trans B.out) j)
     have U:((x:Int) !=y)=true:=a8s (by omega);clear j;go_wp2_with fail
     go_quiet (fail)
     go_wp2_with fail
     go_ret
     exact⟨a0o (q.out.symm.trans n.out.symm),b6m k _⟩
   ·have q:Hid ((a==b)=true):=hid (by rw[b4I o.out fun p D hq=>s.out p (by omega) D hq];simp)
    go_wp2_with fail
    go_ret
    exact⟨a0o (q.out.symm.trans n.out.symm),k.out⟩
 ·have L:((a.length:Int) !=b.length)=true:=a8s (by omega)
  have q:Hid ((a==b)=false):=hid (by
   cases h:a==b
   ·rfl
   ·have:=eq_of_beq h;subst this;exact absurd rfl f)
  clear f;go_enter Tryz.func115,Tryz.ntmps115
  go_wp2_with fail
  go_ret
  exact⟨a0o (q.out.symm.trans n.out.symm),0,rfl⟩
end Go.Proofs.YtnnpfhoigmegcaaGreat
namespace Go.Rep
open Go.RowKit
def Bx(w:World)(b:Nat)(cs:Array Value)(T:TypeId):Prop:=w.heap[b]? =some (.cells cs T (0,0))
theorem Bx.lt{w:World}{b:Nat}{a:Array Value}{T:TypeId}(h:Bx w b a T):b<w.heap.size:=(Array.getElem?_eq_some_iff.1 h).1
theorem Bx.cell{w:World}{b:Nat}{a:Array Value}{T:TypeId}(h:Bx w b a T)(i:Nat){u:Value}(c:a[i]? =some u):w.cell? ⟨b,i,none⟩=some u:=by
 unfold Bx at h;unfold World.cell?;rw[h];simpa using c
theorem Bx.frozen{w:World}{b:Nat}{a:Array Value}{T:TypeId}(h:Bx w b a T)(i:Nat):w.frozen? ⟨b,i,none⟩=false:=by
 unfold Bx at h;unfold World.frozen?;rw[h];simp
theorem Bx.ext{Y:Nat->Bool}{w c:World}{b:Nat}{a:Array Value}{T:TypeId}(h:Bx w b a T)(d:ExtX Y w c)(e:Y b=false):Bx c b a T:=by
 unfold Bx;rw[d.block b h.lt e];exact h
theorem Bx.ext0{w c:World}{b:Nat}{a:Array Value}{T:TypeId}(h:Bx w b a T)(d:Ext w c):Bx c b a T:=h.ext d rfl
theorem Bx.new(w:World)(a:Array Value)(T:TypeId):Bx (w.alloc (.cells a T)) w.heap.size a T:=heap_alloc_new w _
theorem a9t(g:Nat):ob (some ⟨g,0,none⟩) g=true:=by simp[ob]
theorem a0b{g k:Nat}(h:k≠g):ob (some ⟨g,0,none⟩) k=false:=by
 cases a:ob (some ⟨g,0,none⟩) k
 ·rfl
 ·have e:g=k:=by simpa[ob]using a
  exact absurd e.symm h
theorem a1l{w:World}{b i:Nat}{a:Array Value}{T:TypeId}(h:Bx w b a T)(v:Value)(f:i<a.size):Bx (w.setCell ⟨b,i,none⟩ v) b (a.set i v) T/\ExtX (ob (some ⟨b,0,none⟩)) w (w.setCell ⟨b,i,none⟩ v):=by
 unfold Bx at*;have g:b<w.heap.size:=(Array.getElem?_eq_some_iff.1 h).1;refine⟨?_,⟨rfl,rfl,rfl,?_,?_⟩⟩
 ·simp only[World.setCell,Array.getElem?_modify,if_true,h,Option.map_some]
  simp[f,Array.setIfInBounds]
 ·simp[World.setCell]
 ·intro k _ d
  have c:b≠k:=fun e=>by subst e;rw[a9t]at d;simp at d
  simp only[World.setCell,Array.getElem?_modify,if_neg c]
theorem Bx.set2{w:World}{b:Nat}{f g:Value}{T:TypeId}(h:Bx w b #[f,g] T)(v0 v1:Value):Bx ((w.setCell ⟨b,0,none⟩ v0).setCell ⟨b,1,none⟩ v1) b #[v0,v1] T/\ExtX (ob (some ⟨b,0,none⟩)) w ((w.setCell ⟨b,0,none⟩ v0).setCell ⟨b,1,none⟩ v1):=by
 obtain⟨a,c⟩:=a1l h v0 (i:=0) (by simp);obtain⟨d,e⟩:=a1l a v1 (i:=1) (by simp);exact⟨by simpa using d,c.trans e⟩
theorem Bx.set3{w:World}{b:Nat}{j k l:Value}{T:TypeId}(h:Bx w b #[j,k,l] T)(v0 v1 v2:Value):Bx (((w.setCell ⟨b,0,none⟩ v0).setCell ⟨b,1,none⟩ v1).setCell ⟨b,2,none⟩ v2) b #[v0,v1,v2] T/\ExtX (ob (some ⟨b,0,none⟩)) w (((w.setCell ⟨b,0,none⟩ v0).setCell ⟨b,1,none⟩ v1).setCell ⟨b,2,none⟩ v2):=by
 obtain⟨a,c⟩:=a1l h v0 (i:=0) (by simp);obtain⟨d,e⟩:=a1l a v1 (i:=1) (by simp);obtain⟨f,g⟩:=a1l d v2 (i:=2) (by simp);exact⟨by simpa using f,(c.trans e).trans g⟩
section
variable {P:Program} {ops:Array Oper} {Q:Exit->Act->World->Prop} {rest:List Oper} {a:Act} {w:World}
variable {d:Option Tmp} {ty:TypeId} {ps:String} {af:Array Edge}
theorem a5O{t:TypeId}{n b:Nat}{c a:Array Value}{T:TypeId}(p:a1K P t n)(j:Bx w b c T)(f:c.size=n)(d:a.size=n)(g:∀v∈a.toList,v.oneCell'=true):∃i,(storeVar t ⟨b,0,none⟩ (.agg a)).run P w=.ok () i/\Bx i b a T/\ExtX (ob (some ⟨b,0,none⟩)) w i:=by
 obtain⟨r,ti,s,m,o⟩:=p;have h:=run_storeCells_at P b 0 T a.toList 0 c w j (by simp[f,d]) g;refine⟨w.setRow b (c.toList.take (0+0)++a.toList++c.toList.drop (0+0+a.toList.length)).toArray,?_,?_,?_⟩
 rotate_left
 ·unfold Bx
  have:=setRow_heap w b c (c.toList.take (0+0)++a.toList++c.toList.drop (0+0+a.toList.length)).toArray T (0,0) j;rw[this]
  congr 2
  have e:c.toList.drop (0+0+a.toList.length)= []:=List.drop_of_length_le (by simp[d,f]);rw[e];simp
 ·exact⟨rfl,rfl,rfl,by simp,fun k _ q=>setRow_other w b k _ (fun l=>by subst l;simp[ob]at q)⟩
 ·simp[storeVar,sizeOf,typeInfo,m,o,Value.cells,d]
  simp only[Nat.zero_add,Array.length_toList,List.take_zero,List.nil_append,d]at h |-;exact h
theorem a0a{t:TypeId}{x y:Operand}{n b:Nat}{j f:Array Value}{T:TypeId}(m:a1K P t n)(q:a.eval x=.pointer (some ⟨b,0,none⟩))(r:a.eval y=.agg f)(o:Bx w b j T)(h:j.size=n)(i:f.size=n)(c:∀v∈f.toList,v.oneCell'=true)(K:∀e,Bx e b f T->ExtX (ob (some ⟨b,0,none⟩)) w e->wpList P ops Q rest (a.put d undef) e):wpList P ops Q (⟨d,.store t x y,ty,ps,af,none⟩::rest) a w:=by
 refine wpList_plain rfl fun s g=>?_;obtain⟨e,p,k,l⟩:=a5O (P:=P) m o h i c;unfold Oper.wp;simp[execOp,q,r,Instr.storeAt,Instr.sureAddr,p,Result.andThen];exact g _ _ (K e k l)
theorem a2i{t:TypeId}{n b:Nat}{a:Array Value}{T:TypeId}(i:a1K P t n)(k:Bx w b a T)(c:a.size=n):(loadVar t ⟨b,0,none⟩).run P w=.ok (.agg a) w:=by
 obtain⟨m,ti,f,g,h⟩:=i;have e:=run_loadCells_list (P:=P) w ⟨b,0,none⟩ a.toList (fun j v l=>by
  rw[Addr.add_lit,Nat.zero_add];exact k.cell j (by simpa using l))
 have d:a.toList.length=n:=by simpa using c
 rw[d]at e;simp[loadVar,isAgg,run_underlying f,sizeOf,typeInfo,g,h,e]
theorem a3l{t:TypeId}{x:Operand}{n b:Nat}{c:Array Value}{T:TypeId}(g:a1K P t n)(j:a.eval x=.pointer (some ⟨b,0,none⟩))(h:Bx w b c T)(f:c.size=n)(K:wpList P ops Q rest (a.put d (.agg c)) w):wpList P ops Q (⟨d,.load t x,ty,ps,af,none⟩::rest) a w:=by
 refine wpList_plain rfl fun k e=>?_;have i:=a2i (P:=P) g h f;unfold Oper.wp;simp[execOp,j,Instr.loadAt,Instr.sureAddr,i,Result.andThen];exact e _ _ K
theorem a0e{fn:Func}{a:Array Value}{c:Tmp}{t:TypeId}{n b:Nat}{d:Array Value}{T:TypeId}(h:fn.results=#[.cell c t])(f:a.getD c undef=.pointer (some ⟨b,0,none⟩))(g:a1K P t n)(i:Bx w b d T)(e:d.size=n):(results fn a).run P w=.ok (.agg d) w:=by
 have j:=a2i (P:=P) g i e;rw[Array.getD_eq_getD_getElem?]at f;simp[results,h,f,asAddr,j]
theorem a0J{fn:Func}{a:Array Value}{c d:Tmp}{t:TypeId}{n b:Nat}{e:Array Value}{T:TypeId}(h:fn.results=#[.cell c t,.tmp d])(g:a.getD c undef=.pointer (some ⟨b,0,none⟩))(i:a1K P t n)(j:Bx w b e T)(f:e.size=n):(results fn a).run P w=.ok (.tuple #[.agg e,a.getD d undef]) w:=by
 have k:=a2i (P:=P) i j f;rw[Array.getD_eq_getD_getElem?]at g;simp[results,h,g,asAddr,k]
end
theorem a1e(w:World)(x:Array Value)(T:TypeId):∃W,w.alloc (.cells x T)=W/\Ext w W/\Bx W w.heap.size x T/\W.heap.size=w.heap.size+1:=
 ⟨_,rfl,(ExtX.refl w).alloc _,Bx.new w _ _,by simp⟩
theorem a1w(w:World)(x y:Array Value)(T U:TypeId):∃W,(w.alloc (.cells x T)).alloc (.cells y U)=W/\Ext w W/\Bx W w.heap.size x T/\Bx W (w.heap.size+1) y U/\W.heap.size=w.heap.size+2:=by
 obtain⟨W,b,c,d,e⟩:=a1e w x T;obtain⟨V,f,a,g,h⟩:=a1e W y U;exact⟨V,by rw[b,f],c.trans a,d.ext0 a,by rw[<-e];exact g,by omega⟩
theorem a2p(w:World)(x y z:Array Value)(T U S:TypeId):∃W,((w.alloc (.cells x T)).alloc (.cells y U)).alloc (.cells z S)=W/\Ext w W/\Bx W w.heap.size x T/\Bx W (w.heap.size+1) y U/\Bx W (w.heap.size+1+1) z S/\W.heap.size=w.heap.size+3:=by
 obtain⟨W,b,c,d,f,e⟩:=a1w w x y T U;obtain⟨V,g,a,h,i⟩:=a1e W z S;exact⟨V,by rw[b,g],c.trans a,d.ext0 a,f.ext0 a,by rw[<-e];exact h,by omega⟩
theorem b6o(w:World)(x y z u:Array Value)(T U S R:TypeId):∃W,(((w.alloc (.cells x T)).alloc (.cells y U)).alloc (.cells z S)).alloc (.cells u R)=W/\Ext w W/\Bx W w.heap.size x T/\Bx W (w.heap.size+1) y U/\Bx W (w.heap.size+1+1) z S/\Bx W (w.heap.size+1+1+1) u R/\W.heap.size=w.heap.size+4:=by
 obtain⟨W,b,c,d,f,g,e⟩:=a2p w x y z T U S;obtain⟨V,h,a,i,j⟩:=a1e W u R;exact⟨V,by rw[b,h],c.trans a,d.ext0 a,f.ext0 a,g.ext0 a,by rw[<-e];exact i,by omega⟩
end Go.Rep
namespace Go.Rep
open Go.RowKit Go.Lim
def ZV(h:Mem)(u:Value)(z:Int):Prop:=∃s ao c l,u=.agg #[.bool s,.slice ao l.length c]/\l.length<=c/\Dig l/\l.length<=549755813888/\Sl (a0c .u32) 1 h ao l/\a7y s l=z
def ZC(h:Mem)(u:Value)(z:Int):Prop:=∃s ao c l,u=.agg #[.bool s,.slice ao l.length c]/\l.length<=c/\a5K s l z/\Sl (a0c .u32) 1 h ao l
theorem ZV.mono:a3H ZV:=by rintro h i u x g ⟨s,ao,c,l,rfl,a,b,d,e,f⟩;exact⟨s,ao,c,l,rfl,a,b,d,e.mono (a0c.mono _) g,f⟩
theorem ZC.mono:a3H ZC:=by rintro h f u x e ⟨s,ao,c,l,rfl,a,b,d⟩;exact⟨s,ao,c,l,rfl,a,b,d.mono (a0c.mono _) e⟩
theorem ZC.zv{h:Mem}{u:Value}{z:Int}(f:ZC h u z)(e:lg z.natAbs<=549755813888):ZV h u z:=by
 obtain⟨s,ao,c,l,rfl,b,a,d⟩:=f;exact⟨s,ao,c,l,rfl,b,a.2.1,by rw[a.len];exact e,d,a.val⟩
theorem ZC.zero(h:Mem):ZC h (.agg #[.bool false,.slice none 0 0]) 0:=⟨false,none,0,[],rfl,c1B _,a5K.zero,Sl.nil _ _ _ _⟩
theorem ZV.lg{h:Mem}{u:Value}{z:Int}(d:ZV h u z):lg z.natAbs<=549755813888:=by
 obtain⟨s,ao,c,l,rfl,e,a,b,f,rfl⟩:=d;exact c1A (b6X s l a) b
end Go.Rep
namespace Go.Proofs.YtnnpfhoigmegcaaGreat
open Go.RowKit Go.Rep Go.Lim
theorem a7g(X:Nat->Bool)(w:World)(s:Bool)(ao:Option Addr)(c:Nat)(l:List Nat)(m:Sl (a0c .u32) 1 (mk X w) ao l)(o:l.length<=549755813888):Calls Tryz.prog 324 #[.agg #[.bool s,.slice ao l.length c]] w fun e j=>Ext w j/\e=.returned (.bool (a1t s l)):=by
 have h:Ext w (w.alloc (.cells #[.bool s,.slice ao l.length c] 39)):=(ExtX.refl w).alloc _;have a:=m.mono (a0c.mono _) (a0l h);have d:Hid (a1t s l=(a1H l&&(decide (0<l.length)|| !s))):=hid rfl;cases g:a1H l
 ·have i:Hid (a1t s l=false):=hid (by rw[d.out,g];rfl)
  have b:=hid g;clear g;go_enter Tryz.func324,Tryz.ntmps324
  go_wp2_with fail
  refine(a2t X _ _ _ _ a (by omega)).mono ?_;rintro e j ⟨rfl,rfl⟩;rw[b.out];go_wp2_with fail
  go_ret
  exact⟨h,a0o i.out.symm⟩
 ·have i:Hid (a1t s l=(decide (0<l.length)|| !s)):=hid (by rw[d.out,g];rfl)
  have b:=hid g;clear g;by_cases k:0<l.length
  ·have n:(0:Int)<(l.length:Int):=by omega
   have f:Hid (a1t s l=true):=hid (by rw[i.out,decide_eq_true k];rfl);go_enter Tryz.func324,Tryz.ntmps324
   go_wp2_with fail
   refine(a2t X _ _ _ _ a (by omega)).mono ?_;rintro e j ⟨rfl,rfl⟩;rw[b.out];go_wp2_with fail
   go_ret
   exact⟨h,a0o f.out.symm⟩
  ·have f:Hid (a1t s l= !s):=hid (by rw[i.out,decide_eq_false k];rfl)
   obtain rfl:l= []:=List.eq_nil_of_length_eq_zero (by omega);clear k i;simp only[List.length_nil]at h a |-;go_enter Tryz.func324,Tryz.ntmps324
   go_wp2_with fail
   refine(a2t X _ [] _ _ a (by simp)).mono ?_;rintro e j ⟨rfl,rfl⟩;rw[b.out];go_wp2_with fail
   go_ret
   exact⟨h,a0o f.out.symm⟩
theorem a0I:a1K Tryz.prog 39 2:=by
 have h:(Tryz.prog.info? 39).map (fun i=>(i.zero,i.size,i.bytes))=some (some (.agg #[.bool false,.slice none 0 0]),2,32):=by kernel_rfl
 obtain⟨ti,a,_,b,_⟩:=info_parts h;exact⟨_,ti,Tryz.underlying39,a,b⟩
theorem a2V(s:Bool)(ao:Option Addr)(n c:Nat):∀v∈(#[Value.bool s,.slice ao n c]:Array Value).toList,v.oneCell'=true:=by
 intro v a;simp at a;rcases a with rfl|rfl<;>rfl
def a0f(X:Nat->Bool)(lo nb:Nat):Nat->Bool:=fun k=>X k||(decide (lo<=k)&&decide (k<lo+nb))
theorem a3z{X:Nat->Bool}{lo nb k:Nat}(a:lo<=k)(b:k<lo+nb):a0f X lo nb k=true:=by simp[a0f,a,b]
theorem a8u{X:Nat->Bool}{lo nb k:Nat}(h:X k=true):a0f X lo nb k=true:=by simp[a0f,h]
theorem _root_.Go.Rep.HX.boxes{X:Nat->Bool}{w b:World}{nb:Nat}(h:HX X w)(hz:b.heap.size=w.heap.size+nb):HX (a0f X w.heap.size nb) b:=fun k c=>by
 by_cases a:X k=true
 ·have:=h k a;omega
 ·simp[a0f,a]at c;omega
theorem _root_.Go.Rep.HX.boxes'{X:Nat->Bool}{w a:World}{b nb:Nat}(h:HX X w)(d:Ext w a)(f:b+nb<=a.heap.size)(_:w.heap.size+nb<=a.heap.size):HX (a0f X b nb) a:=fun k e=>by
 by_cases c:X k=true
 ·exact c1C (h k c) d.size
 ·simp[a0f,c]at e;omega
theorem a0j{X:Nat->Bool}{w c:World}{nb:Nat}(d:Ext w c):Le (mk X w) (mk (a0f X w.heap.size nb) c):=
 a1k d (fun k _ a=>by simp[noY]at a) fun k a hz=>by
  by_cases b:X k=true
  ·exact b
  ·simp[a0f,b]at hz;omega
theorem a0k{X:Nat->Bool}{w:World}{lo nb:Nat}:Le (mk (a0f X lo nb) w) (mk X w):=a1h fun _ _ a=>a8u a
theorem a0h{X:Nat->Bool}{w a:World}{lo nb b:Nat}(f:ExtX (ob (some ⟨b,0,none⟩)) w a)(c:lo<=b)(d:b<lo+nb):Le (mk (a0f X lo nb) w) (mk (a0f X lo nb) a):=
 a0t f fun k g=>by
  have e:b=k:=by simpa[ob]using g
  subst e;exact a3z c d
theorem ExtX.box{a w c:World}{b:Nat}(h:Ext a w)(d:ExtX (ob (some ⟨b,0,none⟩)) w c)(e:a.heap.size<=b):Ext a c:=
 h.then_ d fun i f _=>a0b (by omega)
theorem a2x{X:Nat->Bool}{w a:World}{b nb:Nat}{s t u v:Value}{T U:TypeId}(j:Bx a b #[s,t] T)(l:Bx a (b+1) #[u,v] U)(m:Ext w a)(n:w.heap.size<=b)(x:2<=nb)(v0 v1 u0 i:Value):∃c,((((a.setCell ⟨b,0,none⟩ v0).setCell ⟨b,1,none⟩ v1).setCell ⟨b+1,0,none⟩ u0).setCell ⟨b+1,1,none⟩ i)=c/\Bx c b #[v0,v1] T/\Bx c (b+1) #[u0,i] U/\(∀k f V,k≠b->k≠b+1->Bx a k f V->Bx c k f V)/\Ext w c/\Le (mk (a0f X b nb) a) (mk (a0f X b nb) c):=by
 obtain⟨q,d⟩:=j.set2 v0 v1;have g:=l.ext d (a0b (by omega));obtain⟨r,e⟩:=g.set2 u0 i;refine⟨_,rfl,q.ext e (a0b (by omega)),r,fun k f V o p h=>(h.ext d (a0b o)).ext e (a0b p),ExtX.box (ExtX.box m d n) e (by omega),(a0h d (c1B _) (by omega)).trans (a0h e (by omega) (by omega))⟩
theorem a5P(X:Nat->Bool)(w:World)(u:Value)(z:Int)(D:HX X w)(H:ZV (mk X w) u z):Calls Tryz.prog 282 #[u] w (a1S X w ZC z):=by
 obtain⟨s,ao,c,l,rfl,A,B,y,C,rfl⟩:=H;obtain⟨W,m⟩:∃W,(w.alloc (.cells #[.bool s,.slice ao l.length c] 39)).alloc (.cells #[.bool false,.slice none 0 0] 39)=W:=⟨_,rfl⟩;have r:Ext w W:=by rw[<-m];exact((ExtX.refl w).alloc _).alloc _
 have k:Bx W w.heap.size #[.bool s,.slice ao l.length c] 39:=by
  rw[<-m];exact(Bx.new w _ _).ext0 ((ExtX.refl _).alloc _)
 have n:Bx W (w.heap.size+1) #[.bool false,.slice none 0 0] 39:=by
  rw[<-m];have:=Bx.new (w.alloc (.cells #[.bool s,.slice ao l.length c] 39)) #[.bool false,.slice none 0 0] 39;simpa using this
 have hz:W.heap.size=w.heap.size+2:=by rw[<-m];simp
 have f:Sl (a0c .u32) 1 (mk (a0f X w.heap.size 2) W) ao l:=C.mono (a0c.mono _) (a0j r);obtain⟨b,F⟩:∃b,w.heap.size=b:=⟨_,rfl⟩;have G:w.heap.size<=b:=by omega
 have E:HX X w:=D;rw[F]at k n hz f;have p:=k.cell 0 rfl;have q:=k.cell 1 rfl;cases j:a1t s l
 ·have x:=hid (a5L j)
  have g:=hid j;clear j;go_enter Tryz.func282,Tryz.ntmps282
  go_wp2_with fail
  refine(a7g (a0f X b 2) W s ao c l f y).mono ?_;rintro e I ⟨a,rfl⟩;rw[g.out];have h:=n.ext0 a;clear p q;go_wp2_with ((with_reducible show wpList _ _ _ (⟨_,.store _ _ _,_,_,_,_⟩::_) _ _);refine a0a a0I rfl rfl h rfl rfl (a2V _ _ _ _) ?_;intro J o d)
  exact bodyPost_ret (a0e rfl rfl a0I o rfl) rfl ⟨ExtX.box (r.trans a) d (by omega),_,rfl,by rw[x.out];exact ZC.zero _⟩
 ·have g:=hid j
  clear j;go_enter Tryz.func282,Tryz.ntmps282
  go_wp2_with fail
  refine(a7g (a0f X b 2) W s ao c l f y).mono ?_;rintro e I ⟨a,rfl⟩;rw[g.out];have i:=k.ext0 a;have h:=n.ext0 a;have t:=f.mono (a0c.mono _) (a0l a);clear p q;have p:=i.cell 0 rfl;have q:=i.cell 1 rfl;go_wp2_with ((with_reducible show wpList _ _ _ (⟨_,.store _ _ _,_,_,_,_⟩::_) _ _);refine a0a a0I rfl rfl h rfl rfl (a2V _ _ _ _) ?_;intro J o d)
  have v:=(t.mono (a0c.mono _) (a0h d (by omega) (by omega))).mono (a0c.mono _) a0k;exact bodyPost_ret (a0e rfl rfl a0I o rfl) rfl ⟨ExtX.box (r.trans a) d (by omega),_,rfl,s,ao,c,l,rfl,A,a5K.of_valid B g.out,v⟩
end Go.Proofs.YtnnpfhoigmegcaaGreat
namespace Go.Lim
def sg(s:Bool)(n:Nat):Int:=if s then -(n:Int)else n
theorem b2M{s:Bool}{l:List Nat}{n:Nat}(h:a0M l n):a5K (s&&decide (0<l.length)) l (sg s n):=by
 have a:=a1q h;unfold sg;cases s
 ·refine⟨?_,by simpa using h⟩;simp
 ·refine⟨?_,by simpa using h⟩
  rw[Bool.true_and,Bool.eq_iff_iff];simp only[decide_eq_true_eq,if_true];omega
theorem a7h(s:Bool)(n:Nat):(sg s n).natAbs=n:=by unfold sg;split<;>simp
theorem a3W{s:Bool}{l:List Nat}{z:Int}(h:a5K s l z):sg s z.natAbs=z:=by
 unfold sg;rw[h.1];by_cases hz:z<0
 ·simp only[hz,decide_true,if_true];omega
 ·simp only[hz,decide_false,Bool.false_eq_true,if_false];omega
end Go.Lim
namespace Go.Proofs.YtnnpfhoigmegcaaGreat
open Go.RowKit Go.Rep Go.Lim
theorem a2Q(X:Nat->Bool)(w:World)(s:Bool)(u:Value)(n:Nat)(_:HX X w)(v:NC (mk X w) u n):Calls Tryz.prog 292 #[.bool s,u] w (a1S X w ZC (sg s n)):=by
 obtain⟨ao,c,l,rfl,i,p,q⟩:=v;obtain⟨W,m⟩:∃W,w.alloc (.cells #[.bool false,.slice none 0 0] 39)=W:=⟨_,rfl⟩;have j:Ext w W:=by rw[<-m];exact(ExtX.refl w).alloc _
 have h:Bx W w.heap.size #[.bool false,.slice none 0 0] 39:=by rw[<-m];exact Bx.new w _ _
 have e:Sl (a0c .u32) 1 (mk (a0f X w.heap.size 1) W) ao l:=q.mono (a0c.mono _) (a0j j);obtain⟨b,r⟩:∃b,w.heap.size=b:=⟨_,rfl⟩;have t:w.heap.size<=b:=by omega
 rw[r]at h e;have d:Hid (a5K (s&&decide (0<l.length)) l (sg s n)):=hid (b2M p);cases s
 ·rw[Bool.false_and]at d
  go_enter Tryz.func292,Tryz.ntmps292
  go_wp2_with ((with_reducible show wpList _ _ _ (⟨_,.store _ _ _,_,_,_,_⟩::_) _ _);refine a0a a0I rfl rfl h rfl rfl (a2V _ _ _ _) ?_;intro o g a)
  have f:=(e.mono (a0c.mono _) (a0h a (by omega) (by omega))).mono (a0c.mono _) a0k;exact bodyPost_ret (a0e rfl rfl a0I g rfl) rfl ⟨ExtX.box j a (by omega),_,rfl,_,ao,c,l,rfl,i,d.out,f⟩
 ·rw[Bool.true_and]at d
  by_cases k:0<l.length
  ·rw[decide_eq_true k]at d
   go_enter Tryz.func292,Tryz.ntmps292
   go_wp2_with ((with_reducible show wpList _ _ _ (⟨_,.store _ _ _,_,_,_,_⟩::_) _ _);refine a0a a0I rfl rfl h rfl rfl (a2V _ _ _ _) ?_;intro o g a)
   have f:=(e.mono (a0c.mono _) (a0h a (by omega) (by omega))).mono (a0c.mono _) a0k;exact bodyPost_ret (a0e rfl rfl a0I g rfl) rfl ⟨ExtX.box j a (by omega),_,rfl,_,ao,c,l,rfl,i,d.out,f⟩
  ·rw[decide_eq_false k]at d
   obtain rfl:l= []:=List.eq_nil_of_length_eq_zero (by omega);clear k;simp only[List.length_nil]at i d e |-;go_enter Tryz.func292,Tryz.ntmps292
   go_wp2_with ((with_reducible show wpList _ _ _ (⟨_,.store _ _ _,_,_,_,_⟩::_) _ _);refine a0a a0I rfl rfl h rfl rfl (a2V _ _ _ _) ?_;intro o g a)
   have f:=(e.mono (a0c.mono _) (a0h a (by omega) (by omega))).mono (a0c.mono _) a0k;exact bodyPost_ret (a0e rfl rfl a0I g rfl) rfl ⟨ExtX.box j a (by omega),_,rfl,_,ao,c,[],rfl,i,d.out,f⟩
theorem b7r(X:Nat->Bool)(w:World)(u:Value)(z:Int)(hX:HX X w)(hu:ZC (mk X w) u z)(hn:lg z.natAbs<=549755813888):Calls Tryz.prog 327 #[u] w (a1S X w ZC z):=by
 obtain⟨s,ao,c,l,rfl,V,o,Y⟩:=hu;obtain⟨W,p⟩:∃W,(w.alloc (.cells #[.bool s,.slice ao l.length c] 39)).alloc (.cells #[.bool false,.slice none 0 0] 39)=W:=⟨_,rfl⟩;have D:Ext w W:=by rw[<-p];exact((ExtX.refl w).alloc _).alloc _
 have k:Bx W w.heap.size #[.bool s,.slice ao l.length c] 39:=by
  rw[<-p];exact(Bx.new w _ _).ext0 ((ExtX.refl _).alloc _)
 have g:Bx W (w.heap.size+1) #[.bool false,.slice none 0 0] 39:=by
  rw[<-p];have:=Bx.new (w.alloc (.cells #[.bool s,.slice ao l.length c] 39)) #[.bool false,.slice none 0 0] 39;simpa using this
 have hz:W.heap.size=w.heap.size+2:=by rw[<-p];simp
 have i:HX (a0f X w.heap.size 2) W:=hX.boxes hz;have n:NV (mk (a0f X w.heap.size 2) W) (.slice ao l.length c) z.natAbs:=⟨ao,c,l,rfl,V,o.2.1,by rw[o.len];omega,Y.mono (a0c.mono _) (a0j D),o.2.val⟩;obtain⟨b,hb⟩:∃b,w.heap.size=b:=⟨_,rfl⟩;have a0:w.heap.size<=b:=by omega
 rw[hb]at k g hz i n;have I:=k.cell 0 rfl;have J:=k.cell 1 rfl;have y:=hid (a3W o);have v:∀M,NV M (.slice none 0 0) 0:=fun M=>⟨none,0,[],rfl,c1B _,Dig.nil,by simp,Sl.nil _ _ _ _,by simp[val,vl,nv]⟩;go_enter Tryz.func327,Tryz.ntmps327
 go_wp2_with fail
 have K:=g.cell 0 rfl;have L:=g.cell 1 rfl;have N:=g.frozen 0;have O:=g.frozen 1;have d:Ext W W.drew:=(ExtX.refl W).drew;have j:Hid (∀W',Ext W.drew W'->W'.cell? ⟨b,0,none⟩=some (.bool s)/\W'.cell? ⟨b,1,none⟩=some (.slice ao l.length c)/\W'.cell? ⟨b+1,0,none⟩=some (.bool false)/\W'.cell? ⟨b+1,1,none⟩=some (.slice none 0 0)/\W'.frozen? ⟨b+1,0,none⟩=false/\W'.frozen? ⟨b+1,1,none⟩=false):=
  hid fun W' h=>⟨(k.ext0 (d.trans h)).cell 0 rfl,(k.ext0 (d.trans h)).cell 1 rfl,(g.ext0 (d.trans h)).cell 0 rfl,(g.ext0 (d.trans h)).cell 1 rfl,(g.ext0 (d.trans h)).frozen 0,(g.ext0 (d.trans h)).frozen 1⟩
 go_region_held3 (fun H=>H.cell? ⟨b,0,none⟩=some (.bool s)/\H.cell? ⟨b,1,none⟩=some (.slice ao l.length c))
  (first|exact⟨(j.out _ a).1,(j.out _ a).2.1⟩|exact⟨(j.out _ (a.trans f)).1,(j.out _ (a.trans f)).2.1⟩|go_keep)
  (first|(go_at_call 166;refine(c0r (X:=a0f X b 2) (w:=W.drew) i n (v _)).mono ?_;rintro e w5 ⟨a,u5,rfl,A⟩)|(go_at_call 292;refine(a2Q (a0f X b 2) w5 s u5 (z.natAbs+0) (HX.ext (w:=W.drew) i a) A).mono ?_;rintro e w6 ⟨f,u6,rfl,G,B,C,E,rfl,q,m,r⟩;obtain⟨P,Q,R,S,T,U⟩:=j.out w6 (a.trans f)))
 obtain⟨r1,F⟩:=(g.ext0 ((d.trans a).trans f)).set2 (.bool G) (.slice B E.length C);have Z:=(r.mono (a0c.mono _) (a0h F (by omega) (by omega))).mono (a0c.mono _) a0k;have x:sg s (z.natAbs+0)=z:=y.out;rw[x]at m;have t:Ext w _:=ExtX.box (D.trans ((d.trans a).trans f)) F (by omega);clear I J K L N O j P Q R S T U;go_wp2_with fail
 exact bodyPost_ret (a0e rfl rfl a0I r1 rfl) rfl ⟨t,_,rfl,G,B,C,E,rfl,q,m,Z⟩
theorem a6w(X:Nat->Bool)(w:World)(s:Bool)(ao:Option Addr)(c:Nat)(l:List Nat)(m:Sl (a0c .u32) 1 (mk X w) ao l)(o:l.length<=549755813888):Calls Tryz.prog 273 #[.agg #[.bool s,.slice ao l.length c]] w fun e j=>Ext w j/\e=.returned (.bool (a1t s l)):=by
 have h:Ext w (w.alloc (.cells #[.bool s,.slice ao l.length c] 39)):=(ExtX.refl w).alloc _;have d:=m.mono (a0c.mono _) (a0l h);have a:Hid (a1t s l=(a1H l&&(decide (0<l.length)|| !s))):=hid rfl;cases i:a1H l
 ·have g:Hid (a1t s l=false):=hid (by rw[a.out,i];rfl)
  have f:=hid i;clear i;go_enter Tryz.func273,Tryz.ntmps273
  go_wp2_with fail
  refine(a2o X _ _ _ _ d (by omega)).mono ?_;rintro e j ⟨rfl,rfl⟩;rw[f.out];go_wp2_with fail
  go_ret
  exact⟨h,a0o g.out.symm⟩
 ·have g:Hid (a1t s l=(decide (0<l.length)|| !s)):=hid (by rw[a.out,i];rfl)
  have f:=hid i;clear i;cases s
  ·have b:Hid (a1t false l=true):=hid (by rw[g.out];simp)
   clear g a;go_enter Tryz.func273,Tryz.ntmps273
   go_wp2_with fail
   refine(a2o X _ _ _ _ d (by omega)).mono ?_;rintro e j ⟨rfl,rfl⟩;rw[f.out];go_wp2_with fail
   go_ret
   exact⟨h,a0o b.out.symm⟩
  ·by_cases k:0<l.length
   ·have b:Hid (a1t true l=true):=hid (by rw[g.out,decide_eq_true k];rfl)
    have n:((l.length:Int)==0)=false:=a2J (by omega);clear g a;go_enter Tryz.func273,Tryz.ntmps273
    go_wp2_with fail
    refine(a2o X _ _ _ _ d (by omega)).mono ?_;rintro e j ⟨rfl,rfl⟩;rw[f.out];go_wp2_with fail
    go_ret
    exact⟨h,a0o b.out.symm⟩
   ·have b:Hid (a1t true l=false):=hid (by rw[g.out,decide_eq_false k];rfl)
    obtain rfl:l= []:=List.eq_nil_of_length_eq_zero (by omega);clear k g a;simp only[List.length_nil]at h d |-;go_enter Tryz.func273,Tryz.ntmps273
    go_wp2_with fail
    refine(a2o X _ [] _ _ d (by simp)).mono ?_;rintro e j ⟨rfl,rfl⟩;rw[f.out];go_wp2_with fail
    go_ret
    exact⟨h,a0o b.out.symm⟩
theorem a3X(X:Nat->Bool)(w:World)(u:Value)(z:Int)(Q:HX X w)(hu:ZV (mk X w) u z):Calls Tryz.prog 194 #[u] w (a1S X w ZC z):=by
 obtain⟨s,ao,c,l,rfl,h1,O,P,h4,rfl⟩:=hu;obtain⟨W,y⟩:∃W,(w.alloc (.cells #[.bool s,.slice ao l.length c] 39)).alloc (.cells #[.bool false,.slice none 0 0] 39)=W:=⟨_,rfl⟩;have x:Ext w W:=by rw[<-y];exact((ExtX.refl w).alloc _).alloc _
 have r:Bx W w.heap.size #[.bool s,.slice ao l.length c] 39:=by
  rw[<-y];exact(Bx.new w _ _).ext0 ((ExtX.refl _).alloc _)
 have A:Bx W (w.heap.size+1) #[.bool false,.slice none 0 0] 39:=by
  rw[<-y];have:=Bx.new (w.alloc (.cells #[.bool s,.slice ao l.length c] 39)) #[.bool false,.slice none 0 0] 39;simpa using this
 have hz:W.heap.size=w.heap.size+2:=by rw[<-y];simp
 have i:Sl (a0c .u32) 1 (mk (a0f X w.heap.size 2) W) ao l:=h4.mono (a0c.mono _) (a0j x);obtain⟨b,hb⟩:∃b,w.heap.size=b:=⟨_,rfl⟩;have a1:w.heap.size<=b:=by omega
 have a0:HX X w:=Q;rw[hb]at r A hz i;have t:=r.cell 0 rfl;have v:=r.cell 1 rfl;cases q:a1t s l
 ·have K:=hid (a5L q)
  have j:=hid q;clear q;go_enter Tryz.func194,Tryz.ntmps194
  go_wp2_with fail
  refine(a6w (a0f X b 2) W s ao c l i P).mono ?_;rintro e k ⟨a,rfl⟩;rw[j.out];have h:=A.ext0 a;clear t v;go_wp2_with ((with_reducible show wpList _ _ _ (⟨_,.store _ _ _,_,_,_,_⟩::_) _ _);refine a0a a0I rfl rfl h rfl rfl (a2V _ _ _ _) ?_;intro w2 T E)
  exact bodyPost_ret (a0e rfl rfl a0I T rfl) rfl ⟨ExtX.box (x.trans a) E (by omega),_,rfl,by rw[K.out];exact ZC.zero _⟩
 ·have j:=hid q
  clear q;go_enter Tryz.func194,Tryz.ntmps194
  go_wp2_with fail
  refine(a6w (a0f X b 2) W s ao c l i P).mono ?_;rintro e k ⟨a,rfl⟩;rw[j.out];have m:=r.ext0 a;have h:=A.ext0 a;have G:HX (a0f X b 2) k:=Q.boxes' (x.trans a) (by have:=h.lt;omega) (by have:=h.lt;omega);have n:=hid (a5K.of_valid O j.out);have J:NV (mk (a0f X b 2) k) (.slice ao l.length c) (nv l):=⟨ao,c,l,rfl,h1,O,by omega,i.mono (a0c.mono _) (a0l a),by unfold val;rw[a0M.vl n.out.2]⟩;have H:HX (a0f X b 2) k.drew:=G;have I:NV (mk (a0f X b 2) k.drew) (.slice ao l.length c) (nv l):=J;have g:Ext k k.drew:=(ExtX.refl k).drew;have o:=hid (And.intro m h);clear t v;have t:=m.cell 0 rfl;have v:=m.cell 1 rfl;go_wp2_with fail
  go_region_held3 (fun S=>S.cell? ⟨b,0,none⟩=some (.bool s)/\S.cell? ⟨b,1,none⟩=some (.slice ao l.length c))
   (first|exact⟨(o.out.1.ext0 (g.trans f)).cell 0 rfl,(o.out.1.ext0 (g.trans f)).cell 1 rfl⟩|exact⟨((o.out.1.ext0 (g.trans f)).ext (d.set2 _ _).2 (a0b (by omega))).cell 0 rfl,((o.out.1.ext0 (g.trans f)).ext (d.set2 _ _).2 (a0b (by omega))).cell 1 rfl⟩|go_keep)
   (first|(go_at_call 196;(with_reducible refine(a3V H I).mono ?_);rintro e w5 ⟨f,u5,rfl,M,N,L,rfl,B,C,D⟩;have d:=o.out.2.ext0 (g.trans f);have U:=d.cell 0 rfl;have V:=d.cell 1 rfl;have Y:=d.frozen 0;have Z:=d.frozen 1))
  obtain⟨r1,R⟩:=d.set2 (.bool s) (.slice M L.length N);have h7:=(D.mono (a0c.mono _) (a0h R (by omega) (by omega))).mono (a0c.mono _) a0k;have p:a5K s L (a7y s l):=⟨n.out.1,by rw[<-n.out.2.2.2];exact C⟩;have F:Ext w _:=ExtX.box (x.trans (a.trans (g.trans f))) R (by omega);clear U V Y Z t v;go_wp2_with fail
  exact bodyPost_ret (a0e rfl rfl a0I r1 rfl) rfl ⟨F,_,rfl,s,M,N,L,rfl,B,p,h7⟩
theorem a1R(X:Nat->Bool)(w:World)(s:Bool)(u:Value)(n:Nat)(_:HX X w)(v:NC (mk X w) u n):Calls Tryz.prog 200 #[.bool s,u] w (a1S X w ZC (sg s n)):=by
 obtain⟨ao,c,l,rfl,i,p,q⟩:=v;obtain⟨W,m⟩:∃W,w.alloc (.cells #[.bool false,.slice none 0 0] 39)=W:=⟨_,rfl⟩;have j:Ext w W:=by rw[<-m];exact(ExtX.refl w).alloc _
 have h:Bx W w.heap.size #[.bool false,.slice none 0 0] 39:=by rw[<-m];exact Bx.new w _ _
 have e:Sl (a0c .u32) 1 (mk (a0f X w.heap.size 1) W) ao l:=q.mono (a0c.mono _) (a0j j);obtain⟨b,r⟩:∃b,w.heap.size=b:=⟨_,rfl⟩;have t:w.heap.size<=b:=by omega
 rw[r]at h e;have d:Hid (a5K (s&&decide (0<l.length)) l (sg s n)):=hid (b2M p);cases s
 ·rw[Bool.false_and]at d
  go_enter Tryz.func200,Tryz.ntmps200
  go_wp2_with ((with_reducible show wpList _ _ _ (⟨_,.store _ _ _,_,_,_,_⟩::_) _ _);refine a0a a0I rfl rfl h rfl rfl (a2V _ _ _ _) ?_;intro o g a)
  have f:=(e.mono (a0c.mono _) (a0h a (by omega) (by omega))).mono (a0c.mono _) a0k;exact bodyPost_ret (a0e rfl rfl a0I g rfl) rfl ⟨ExtX.box j a (by omega),_,rfl,_,ao,c,l,rfl,i,d.out,f⟩
 ·rw[Bool.true_and]at d
  by_cases k:0<l.length
  ·rw[decide_eq_true k]at d
   go_enter Tryz.func200,Tryz.ntmps200
   go_wp2_with ((with_reducible show wpList _ _ _ (⟨_,.store _ _ _,_,_,_,_⟩::_) _ _);refine a0a a0I rfl rfl h rfl rfl (a2V _ _ _ _) ?_;intro o g a)
   have f:=(e.mono (a0c.mono _) (a0h a (by omega) (by omega))).mono (a0c.mono _) a0k;exact bodyPost_ret (a0e rfl rfl a0I g rfl) rfl ⟨ExtX.box j a (by omega),_,rfl,_,ao,c,l,rfl,i,d.out,f⟩
  ·rw[decide_eq_false k]at d
   obtain rfl:l= []:=List.eq_nil_of_length_eq_zero (by omega);clear k;simp only[List.length_nil]at i d e |-;go_enter Tryz.func200,Tryz.ntmps200
   go_wp2_with ((with_reducible show wpList _ _ _ (⟨_,.store _ _ _,_,_,_,_⟩::_) _ _);refine a0a a0I rfl rfl h rfl rfl (a2V _ _ _ _) ?_;intro o g a)
   have f:=(e.mono (a0c.mono _) (a0h a (by omega) (by omega))).mono (a0c.mono _) a0k;exact bodyPost_ret (a0e rfl rfl a0I g rfl) rfl ⟨ExtX.box j a (by omega),_,rfl,_,ao,c,[],rfl,i,d.out,f⟩
theorem b9c(X:Nat->Bool)(w:World)(u v:Value)(x y:Int)(hX:HX X w)(hu:ZV (mk X w) u x)(hv:ZV (mk X w) v y):Calls Tryz.prog 264 #[u,v] w (a1S X w ZC (x+y)):=by
 have e9:=hid hu.lg;have f0:=hid hv.lg;obtain⟨s1,a1,c1,l1,rfl,f1⟩:=id hu;obtain⟨s2,a2,c2,l2,rfl,f2⟩:=id hv;obtain⟨W,hW,hE,E,F,b2,hz⟩:=a2p w #[.bool s1,.slice a1 l1.length c1] #[.bool s2,.slice a2 l2.length c2] #[.bool false,.slice none 0 0] 39 39 39;have a8:HX (a0f X w.heap.size 3) W:=hX.boxes hz;have V:=ZV.mono _ _ _ _ (a0j (nb:=3) hE) hu;have Z:=ZV.mono _ _ _ _ (a0j (nb:=3) hE) hv;obtain⟨b,hb⟩:∃b,w.heap.size=b:=⟨_,rfl⟩;have e6:w.heap.size<=b:=by omega
 rw[hb]at E F b2 hz a8 V Z;have f:Ext W W.drew:=(ExtX.refl W).drew;have N:HX (a0f X b 3) W.drew:=a8;have b3:ZV (mk (a0f X b 3) W.drew) (.agg #[.bool s1,.slice a1 l1.length c1]) x:=V;have b4:ZV (mk (a0f X b 3) W.drew) (.agg #[.bool s2,.slice a2 l2.length c2]) y:=Z;have l:=E.cell 0 rfl;have m:=E.cell 1 rfl;have i:=F.cell 0 rfl;have j:=F.cell 1 rfl;clear hu hv f1 f2;go_enter Tryz.func264,Tryz.ntmps264
 go_upto_region 1 with(fail)
 go_cut []from 9 to 12 (fun wx=>∃t a3 c3 l3 I a4 c4 l4,Bx wx b #[.bool t,.slice a3 l3 c3] 39/\Bx wx (b+1) #[.bool I,.slice a4 l4 c4] 39/\Bx wx (b+1+1) #[.bool false,.slice none 0 0] 39/\ZC (mk (a0f X b 3) wx) (.agg #[.bool t,.slice a3 l3 c3]) x/\ZC (mk (a0f X b 3) wx) (.agg #[.bool I,.slice a4 l4 c4]) y/\Ext w wx)
 case first=>
  go_region_with (first|(go_at_call 282;(with_reducible refine(a5P (a0f X b 3) W.drew _ x N b3).mono ?_);rintro e w5 ⟨a,u5,rfl,s5,a5,c5,l5,rfl,d9,e0,e3⟩;have n:=E.ext0 (f.trans a);have o:=F.ext0 (f.trans a);have b7:=n.cell 0 rfl;have b8:=n.cell 1 rfl;have b9:=o.cell 0 rfl;have c0:=o.cell 1 rfl)|(go_at_call 282;(with_reducible refine(a5P (a0f X b 3) w5 _ y (HX.ext N a) (mkx ZV.mono b4 a)).mono ?_);rintro e w6 ⟨c,u6,rfl,D,A,B,C,rfl,p,g,q⟩;have d:=n.ext0 c;have k:=o.ext0 c;have d1:=d.cell 0 rfl;have d2:=d.cell 1 rfl;have d3:=k.cell 0 rfl;have d4:=k.cell 1 rfl;have c7:=d.frozen 0;have c8:=d.frozen 1;have c9:=k.frozen 0;have d0:=k.frozen 1))
  all_goals
   obtain⟨wf,b5,q0,q1,q2,q3,q4⟩:=a2x (X:=X) (nb:=3) d k (hE.trans ((f.trans a).trans c)) e6 (by omega) (.bool s5) (.slice a5 l5.length c5) (.bool D) (.slice A C.length B);rw[b5];have e7:ZC (mk (a0f X b 3) wf) (.agg #[.bool s5,.slice a5 l5.length c5]) x:=⟨s5,a5,c5,l5,rfl,d9,e0,(e3.mono (a0c.mono _) (a0l c)).mono (a0c.mono _) q4⟩;have e8:ZC (mk (a0f X b 3) wf) (.agg #[.bool D,.slice A C.length B]) y:=⟨D,A,B,C,rfl,p,g,q.mono (a0c.mono _) q4⟩;have q5:=q2 (b+1+1) _ _ (by omega) (by omega) ((b2.ext0 (f.trans a)).ext0 c);clear b7 b8 b9 c0 d1 d2 d3 d4 c7 c8 c9 d0 l m i j b5;go_wp2_with fail
   go_meet
   exact⟨_,_,_,_,_,_,_,_,q0,q1,q5,e7,e8,q3⟩
 case rest=>
  clear l m i j E F b2 V Z b3 b4 N f hW;obtain⟨t,a3,c3,n3,I,a4,c4,n4,E,F,b2,hx,hy,G⟩:=hcut;obtain⟨_,_,_,l3,z,d5,K,d6⟩:=hx;simp only[Value.agg.injEq,Array.mk.injEq,List.cons.injEq,Value.bool.injEq,Value.slice.injEq,and_true]at z;obtain⟨rfl,rfl,rfl,rfl⟩:=z;obtain⟨_,_,_,l4,z,d7,L,d8⟩:=hy;simp only[Value.agg.injEq,Array.mk.injEq,List.cons.injEq,Value.bool.injEq,Value.slice.injEq,and_true]at z;obtain⟨rfl,rfl,rfl,rfl⟩:=z;have S:NV (mk (a0f X b 3) wc) (.slice a3 l3.length c3) x.natAbs:=NC.nv ⟨a3,c3,l3,rfl,d5,K.2,d6⟩ (by have:=e9.out;omega);have T:NV (mk (a0f X b 3) wc) (.slice a4 l4.length c4) y.natAbs:=NC.nv ⟨a4,c4,l4,rfl,d7,L.2,d8⟩ (by have:=f0.out;omega);have f9:=hid K.1;have g0:=hid L.1;have f4:w.heap.size+3<=wc.heap.size:=by have:=b2.lt;omega
  have H:HX (a0f X b 3) wc:=hX.boxes' G (by omega) f4;have r:=hid (And.intro E (And.intro F b2));have l:=E.cell 0 rfl;have m:=E.cell 1 rfl;have i:=F.cell 0 rfl;have j:=F.cell 1 rfl;have R:=hid (a3W K);have Q:=hid (a3W L);have f:Ext wc wc.drew:=(ExtX.refl wc).drew;have f6:b+1≠b+1+1:=by omega
  have f7:b≠b+1+1:=by omega
  by_cases U:t=I
  ·subst U
   have a9:Hid (sg t (x.natAbs+y.natAbs)=x+y):=hid (by
    have e1:=R.out;have e2:=Q.out;unfold sg at*;cases t<;>simp at*<;>omega)
   go_wp2_with fail
   go_region_held3 (fun w'=>w'.cell? ⟨b,0,none⟩=some (.bool t)/\w'.cell? ⟨b,1,none⟩=some (.slice a3 l3.length c3)/\w'.cell? ⟨b+1,1,none⟩=some (.slice a4 l4.length c4))
    (first|exact⟨(r.out.1.ext0 (f.trans a)).cell 0 rfl,(r.out.1.ext0 (f.trans a)).cell 1 rfl,(r.out.2.1.ext0 (f.trans a)).cell 1 rfl⟩|exact⟨(r.out.1.ext0 (f.trans (a.trans c))).cell 0 rfl,(r.out.1.ext0 (f.trans (a.trans c))).cell 1 rfl,(r.out.2.1.ext0 (f.trans (a.trans c))).cell 1 rfl⟩|exact⟨((r.out.1.ext0 (f.trans (a.trans c))).ext (d.set2 _ _).2 (a0b (by omega))).cell 0 rfl,((r.out.1.ext0 (f.trans (a.trans c))).ext (d.set2 _ _).2 (a0b (by omega))).cell 1 rfl,((r.out.2.1.ext0 (f.trans (a.trans c))).ext (d.set2 _ _).2 (a0b (by omega))).cell 1 rfl⟩|go_keep)
    (first|(go_at_call 166;refine(c0r (X:=a0f X b 3) (w:=wc.drew) H S T).mono ?_;rintro e w5 ⟨a,u5,rfl,Y⟩)|(go_at_call 292;refine(a2Q (a0f X b 3) w5 t u5 (x.natAbs+y.natAbs) (HX.ext (w:=wc.drew) H a) Y).mono ?_;rintro e w6 ⟨c,u6,rfl,D,A,B,C,rfl,p,g,q⟩;have d:=r.out.2.2.ext0 (f.trans (a.trans c));have g1:=d.cell 0 rfl;have g2:=d.cell 1 rfl;have g3:=d.frozen 0;have g4:=d.frozen 1))
   obtain⟨r1,J⟩:=d.set2 (.bool D) (.slice A C.length B);have h7:=(q.mono (a0c.mono _) (a0h J (by omega) (by omega))).mono (a0c.mono _) a0k;rw[a9.out]at g;have e4:Ext w _:=ExtX.box (G.trans (f.trans (a.trans c))) J (by omega);clear g1 g2 g3 g4 l m i j;go_wp2_with fail
   exact bodyPost_ret (a0e rfl rfl a0I r1 rfl) rfl ⟨e4,_,rfl,D,A,B,C,rfl,p,g,h7⟩
  ·have f8:(t==I)=false:=by simpa using U
   have O:Hid (y.natAbs<=x.natAbs->sg t (x.natAbs - y.natAbs)=x+y):=hid (fun h=>by
    have e1:=R.out;have e2:=Q.out;unfold sg at*;cases t<;>cases I<;>simp at*<;>omega)
   have P:Hid (¬y.natAbs<=x.natAbs->sg I (y.natAbs - x.natAbs)=x+y):=hid (fun h=>by
    have e1:=R.out;have e2:=Q.out;unfold sg at*;cases t<;>cases I<;>simp at*<;>omega)
   clear U;go_wp2_with fail
   refine(c1h H S T).mono ?_;rintro e w5 ⟨a,u5,rfl,Y⟩;have M:=H.ext a;have n:=r.out.1.ext0 a;have o:=r.out.2.1.ext0 a;have d:=r.out.2.2.ext0 a;clear l m i j;have l:=n.cell 0 rfl;have m:=n.cell 1 rfl;have i:=o.cell 0 rfl;have j:=o.cell 1 rfl;by_cases s:y.natAbs<=x.natAbs
   ·have hd:decide (y.natAbs<=x.natAbs)=true:=decide_eq_true s
    have hf:=hid (O.out s);rw[hd];clear hd s;go_wp2_with fail
    refine(a2Q (a0f X b 3) w5 t u5 _ M Y).mono ?_;rintro e w6 ⟨c,u6,rfl,D,A,B,C,rfl,p,g,q⟩;have k:=d.ext0 c;clear l m i j;go_wp2_with ((with_reducible show wpList _ _ _ (⟨_,.store _ _ _,_,_,_,_⟩::_) _ _);refine a0a a0I rfl rfl k rfl rfl (a2V _ _ _ _) ?_;intro w7 r1 J)
    have h7:=(q.mono (a0c.mono _) (a0h J (by omega) (by omega))).mono (a0c.mono _) a0k;rw[hf.out]at g;exact bodyPost_ret (a0e rfl rfl a0I r1 rfl) rfl ⟨ExtX.box (G.trans (a.trans c)) J (by omega),_,rfl,D,A,B,C,rfl,p,g,h7⟩
   ·have hd:decide (y.natAbs<=x.natAbs)=false:=decide_eq_false s
    have hf:=hid (P.out s);rw[hd];clear hd s;go_wp2_with fail
    refine(c1h M (mkx NV.mono T a) (mkx NV.mono S a)).mono ?_;rintro e w6 ⟨c,v5,rfl,f3⟩;have f5:=n.ext0 c;have a0:=o.ext0 c;have b6:=d.ext0 c;clear l m i j;have i:=a0.cell 0 rfl;have j:=a0.cell 1 rfl;go_wp2_with fail
    refine(a2Q (a0f X b 3) w6 I v5 _ (M.ext c) f3).mono ?_;rintro e w7 ⟨a7,u6,rfl,D,A,B,C,rfl,p,g,q⟩;have k:=b6.ext0 a7;clear i j;go_wp2_with ((with_reducible show wpList _ _ _ (⟨_,.store _ _ _,_,_,_,_⟩::_) _ _);refine a0a a0I rfl rfl k rfl rfl (a2V _ _ _ _) ?_;intro w8 r1 J)
    have h7:=(q.mono (a0c.mono _) (a0h J (by omega) (by omega))).mono (a0c.mono _) a0k;rw[hf.out]at g;exact bodyPost_ret (a0e rfl rfl a0I r1 rfl) rfl ⟨ExtX.box (G.trans (a.trans (c.trans a7))) J (by omega),_,rfl,D,A,B,C,rfl,p,g,h7⟩
theorem c0s(X:Nat->Bool)(w:World)(u v:Value)(x y:Int)(hX:HX X w)(hu:ZV (mk X w) u x)(hv:ZV (mk X w) v y):Calls Tryz.prog 120 #[u,v] w (a1S X w ZC (x+y)):=by
 have e9:=hid hu.lg;have f0:=hid hv.lg;obtain⟨s1,a1,c1,l1,rfl,f1⟩:=id hu;obtain⟨s2,a2,c2,l2,rfl,f2⟩:=id hv;obtain⟨W,hW,hE,E,F,b2,hz⟩:=a2p w #[.bool s1,.slice a1 l1.length c1] #[.bool s2,.slice a2 l2.length c2] #[.bool false,.slice none 0 0] 39 39 39;have a8:HX (a0f X w.heap.size 3) W:=hX.boxes hz;have V:=ZV.mono _ _ _ _ (a0j (nb:=3) hE) hu;have Z:=ZV.mono _ _ _ _ (a0j (nb:=3) hE) hv;obtain⟨b,hb⟩:∃b,w.heap.size=b:=⟨_,rfl⟩;have e6:w.heap.size<=b:=by omega
 rw[hb]at E F b2 hz a8 V Z;have f:Ext W W.drew:=(ExtX.refl W).drew;have N:HX (a0f X b 3) W.drew:=a8;have b3:ZV (mk (a0f X b 3) W.drew) (.agg #[.bool s1,.slice a1 l1.length c1]) x:=V;have b4:ZV (mk (a0f X b 3) W.drew) (.agg #[.bool s2,.slice a2 l2.length c2]) y:=Z;have l:=E.cell 0 rfl;have m:=E.cell 1 rfl;have i:=F.cell 0 rfl;have j:=F.cell 1 rfl;clear hu hv f1 f2;go_enter Tryz.func120,Tryz.ntmps120
 go_upto_region 1 with(fail)
 go_cut []from 9 to 12 (fun wx=>∃t a3 c3 l3 I a4 c4 l4,Bx wx b #[.bool t,.slice a3 l3 c3] 39/\Bx wx (b+1) #[.bool I,.slice a4 l4 c4] 39/\Bx wx (b+1+1) #[.bool false,.slice none 0 0] 39/\ZC (mk (a0f X b 3) wx) (.agg #[.bool t,.slice a3 l3 c3]) x/\ZC (mk (a0f X b 3) wx) (.agg #[.bool I,.slice a4 l4 c4]) y/\Ext w wx)
 case first=>
  go_region_with (first|(go_at_call 194;(with_reducible refine(a3X (a0f X b 3) W.drew _ x N b3).mono ?_);rintro e w5 ⟨a,u5,rfl,s5,a5,c5,l5,rfl,d9,e0,e3⟩;have n:=E.ext0 (f.trans a);have o:=F.ext0 (f.trans a);have b7:=n.cell 0 rfl;have b8:=n.cell 1 rfl;have b9:=o.cell 0 rfl;have c0:=o.cell 1 rfl)|(go_at_call 194;(with_reducible refine(a3X (a0f X b 3) w5 _ y (HX.ext N a) (mkx ZV.mono b4 a)).mono ?_);rintro e w6 ⟨c,u6,rfl,D,A,B,C,rfl,p,g,q⟩;have d:=n.ext0 c;have k:=o.ext0 c;have d1:=d.cell 0 rfl;have d2:=d.cell 1 rfl;have d3:=k.cell 0 rfl;have d4:=k.cell 1 rfl;have c7:=d.frozen 0;have c8:=d.frozen 1;have c9:=k.frozen 0;have d0:=k.frozen 1))
  all_goals
   obtain⟨wf,b5,q0,q1,q2,q3,q4⟩:=a2x (X:=X) (nb:=3) d k (hE.trans ((f.trans a).trans c)) e6 (by omega) (.bool s5) (.slice a5 l5.length c5) (.bool D) (.slice A C.length B);rw[b5];have e7:ZC (mk (a0f X b 3) wf) (.agg #[.bool s5,.slice a5 l5.length c5]) x:=⟨s5,a5,c5,l5,rfl,d9,e0,(e3.mono (a0c.mono _) (a0l c)).mono (a0c.mono _) q4⟩;have e8:ZC (mk (a0f X b 3) wf) (.agg #[.bool D,.slice A C.length B]) y:=⟨D,A,B,C,rfl,p,g,q.mono (a0c.mono _) q4⟩;have q5:=q2 (b+1+1) _ _ (by omega) (by omega) ((b2.ext0 (f.trans a)).ext0 c);clear b7 b8 b9 c0 d1 d2 d3 d4 c7 c8 c9 d0 l m i j b5;go_wp2_with fail
   go_meet
   exact⟨_,_,_,_,_,_,_,_,q0,q1,q5,e7,e8,q3⟩
 case rest=>
  clear l m i j E F b2 V Z b3 b4 N f hW;obtain⟨t,a3,c3,n3,I,a4,c4,n4,E,F,b2,hx,hy,G⟩:=hcut;obtain⟨_,_,_,l3,z,d5,K,d6⟩:=hx;simp only[Value.agg.injEq,Array.mk.injEq,List.cons.injEq,Value.bool.injEq,Value.slice.injEq,and_true]at z;obtain⟨rfl,rfl,rfl,rfl⟩:=z;obtain⟨_,_,_,l4,z,d7,L,d8⟩:=hy;simp only[Value.agg.injEq,Array.mk.injEq,List.cons.injEq,Value.bool.injEq,Value.slice.injEq,and_true]at z;obtain⟨rfl,rfl,rfl,rfl⟩:=z;have S:NV (mk (a0f X b 3) wc) (.slice a3 l3.length c3) x.natAbs:=NC.nv ⟨a3,c3,l3,rfl,d5,K.2,d6⟩ (by have:=e9.out;omega);have T:NV (mk (a0f X b 3) wc) (.slice a4 l4.length c4) y.natAbs:=NC.nv ⟨a4,c4,l4,rfl,d7,L.2,d8⟩ (by have:=f0.out;omega);have f9:=hid K.1;have g0:=hid L.1;have f4:w.heap.size+3<=wc.heap.size:=by have:=b2.lt;omega
  have H:HX (a0f X b 3) wc:=hX.boxes' G (by omega) f4;have r:=hid (And.intro E (And.intro F b2));have l:=E.cell 0 rfl;have m:=E.cell 1 rfl;have i:=F.cell 0 rfl;have j:=F.cell 1 rfl;have R:=hid (a3W K);have Q:=hid (a3W L);have f:Ext wc wc.drew:=(ExtX.refl wc).drew;have f6:b+1≠b+1+1:=by omega
  have f7:b≠b+1+1:=by omega
  by_cases U:t=I
  ·subst U
   have a9:Hid (sg t (x.natAbs+y.natAbs)=x+y):=hid (by
    have e1:=R.out;have e2:=Q.out;unfold sg at*;cases t<;>simp at*<;>omega)
   go_wp2_with fail
   go_region_held3 (fun w'=>w'.cell? ⟨b,0,none⟩=some (.bool t)/\w'.cell? ⟨b,1,none⟩=some (.slice a3 l3.length c3)/\w'.cell? ⟨b+1,1,none⟩=some (.slice a4 l4.length c4))
    (first|exact⟨(r.out.1.ext0 (f.trans a)).cell 0 rfl,(r.out.1.ext0 (f.trans a)).cell 1 rfl,(r.out.2.1.ext0 (f.trans a)).cell 1 rfl⟩|exact⟨(r.out.1.ext0 (f.trans (a.trans c))).cell 0 rfl,(r.out.1.ext0 (f.trans (a.trans c))).cell 1 rfl,(r.out.2.1.ext0 (f.trans (a.trans c))).cell 1 rfl⟩|exact⟨((r.out.1.ext0 (f.trans (a.trans c))).ext (d.set2 _ _).2 (a0b (by omega))).cell 0 rfl,((r.out.1.ext0 (f.trans (a.trans c))).ext (d.set2 _ _).2 (a0b (by omega))).cell 1 rfl,((r.out.2.1.ext0 (f.trans (a.trans c))).ext (d.set2 _ _).2 (a0b (by omega))).cell 1 rfl⟩|go_keep)
    (first|(go_at_call 201;refine(b4G (X:=a0f X b 3) (w:=wc.drew) H S T).mono ?_;rintro e w5 ⟨a,u5,rfl,Y⟩)|(go_at_call 200;refine(a1R (a0f X b 3) w5 t u5 (x.natAbs+y.natAbs) (HX.ext (w:=wc.drew) H a) Y).mono ?_;rintro e w6 ⟨c,u6,rfl,D,A,B,C,rfl,p,g,q⟩;have d:=r.out.2.2.ext0 (f.trans (a.trans c));have g1:=d.cell 0 rfl;have g2:=d.cell 1 rfl;have g3:=d.frozen 0;have g4:=d.frozen 1))
   obtain⟨r1,J⟩:=d.set2 (.bool D) (.slice A C.length B);have h7:=(q.mono (a0c.mono _) (a0h J (by omega) (by omega))).mono (a0c.mono _) a0k;rw[a9.out]at g;have e4:Ext w _:=ExtX.box (G.trans (f.trans (a.trans c))) J (by omega);clear g1 g2 g3 g4 l m i j;go_wp2_with fail
   exact bodyPost_ret (a0e rfl rfl a0I r1 rfl) rfl ⟨e4,_,rfl,D,A,B,C,rfl,p,g,h7⟩
  ·have f8:(t==I)=false:=by simpa using U
   have O:Hid (y.natAbs<=x.natAbs->sg t (x.natAbs - y.natAbs)=x+y):=hid (fun h=>by
    have e1:=R.out;have e2:=Q.out;unfold sg at*;cases t<;>cases I<;>simp at*<;>omega)
   have P:Hid (¬y.natAbs<=x.natAbs->sg I (y.natAbs - x.natAbs)=x+y):=hid (fun h=>by
    have e1:=R.out;have e2:=Q.out;unfold sg at*;cases t<;>cases I<;>simp at*<;>omega)
   clear U;go_wp2_with fail
   refine(b7q _ _ _ _ _ _ H S T).mono ?_;rintro e w5 ⟨a,u5,rfl,Y⟩;have M:=H.ext a;have n:=r.out.1.ext0 a;have o:=r.out.2.1.ext0 a;have d:=r.out.2.2.ext0 a;clear l m i j;have l:=n.cell 0 rfl;have m:=n.cell 1 rfl;have i:=o.cell 0 rfl;have j:=o.cell 1 rfl;by_cases s:y.natAbs<=x.natAbs
   ·have hd:decide (y.natAbs<=x.natAbs)=true:=decide_eq_true s
    have hf:=hid (O.out s);rw[hd];clear hd s;go_wp2_with fail
    refine(a1R (a0f X b 3) w5 t u5 _ M Y).mono ?_;rintro e w6 ⟨c,u6,rfl,D,A,B,C,rfl,p,g,q⟩;have k:=d.ext0 c;clear l m i j;go_wp2_with ((with_reducible show wpList _ _ _ (⟨_,.store _ _ _,_,_,_,_⟩::_) _ _);refine a0a a0I rfl rfl k rfl rfl (a2V _ _ _ _) ?_;intro w7 r1 J)
    have h7:=(q.mono (a0c.mono _) (a0h J (by omega) (by omega))).mono (a0c.mono _) a0k;rw[hf.out]at g;exact bodyPost_ret (a0e rfl rfl a0I r1 rfl) rfl ⟨ExtX.box (G.trans (a.trans c)) J (by omega),_,rfl,D,A,B,C,rfl,p,g,h7⟩
   ·have hd:decide (y.natAbs<=x.natAbs)=false:=decide_eq_false s
    have hf:=hid (P.out s);rw[hd];clear hd s;go_wp2_with fail
    refine(b7q _ _ _ _ _ _ M (mkx NV.mono T a) (mkx NV.mono S a)).mono ?_;rintro e w6 ⟨c,v5,rfl,f3⟩;have f5:=n.ext0 c;have a0:=o.ext0 c;have b6:=d.ext0 c;clear l m i j;have i:=a0.cell 0 rfl;have j:=a0.cell 1 rfl;go_wp2_with fail
    refine(a1R (a0f X b 3) w6 I v5 _ (M.ext c) f3).mono ?_;rintro e w7 ⟨a7,u6,rfl,D,A,B,C,rfl,p,g,q⟩;have k:=b6.ext0 a7;clear i j;go_wp2_with ((with_reducible show wpList _ _ _ (⟨_,.store _ _ _,_,_,_,_⟩::_) _ _);refine a0a a0I rfl rfl k rfl rfl (a2V _ _ _ _) ?_;intro w8 r1 J)
    have h7:=(q.mono (a0c.mono _) (a0h J (by omega) (by omega))).mono (a0c.mono _) a0k;rw[hf.out]at g;exact bodyPost_ret (a0e rfl rfl a0I r1 rfl) rfl ⟨ExtX.box (G.trans (a.trans (c.trans a7))) J (by omega),_,rfl,D,A,B,C,rfl,p,g,h7⟩
end Go.Proofs.YtnnpfhoigmegcaaGreat
