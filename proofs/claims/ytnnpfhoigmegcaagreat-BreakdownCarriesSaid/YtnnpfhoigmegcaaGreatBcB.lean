/- Parts of a proof: each theorem states what it proves, and its conditions. -/
import Derived.Test.YtnnpfhoigmegcaaGreatBcA
import Derived.Deep.RegionHeld3
import Derived.Deep.RegionLaw
import Derived.Deep.AppendLies
import Derived.BigRegion
import Derived.Laws.Bits64b
import Derived.BigQuiet
set_option maxRecDepth 100000
set_option maxHeartbeats 800000
namespace Go.Proofs.YtnnpfhoigmegcaaGreat
open Go.RowKit Go.Rep Go.Lim
theorem a1w(X:Nat->Bool)(ao:Option Addr)(l:List Nat)(a:Nat)(w:World)(c:Sl (a0c .u32) 1 (mk X w) ao l)(g:l.length<=4398046511104):Calls Tryz.prog 274 #[.slice ao l.length a] w fun e i=>w=i/\e= .returned (.bool (a1i l)):=by
 have f:=c.hd;by_cases d:l.length=0
 ·have b:l= []:=List.eq_nil_of_length_eq_zero d
  subst b;clear c f g d;simp only[List.length_nil];go_enter Tryz.func274,Tryz.ntmps274
  go_wp2_with fail
  go_ret
  exact⟨rfl,rfl⟩
 ·have j:=c.nat (l.length - 1) (by omega)
  have h:=hid (a2E (l:=l) (by omega));have hz:((l.length:Int)==0)=false:=a2S (by omega);go_enter Tryz.func274,Tryz.ntmps274
  go_wp2_with (with_reducible refine a0n a0F (by omega) (by assumption) ?_)
  go_ret
  exact⟨rfl,a0q (by rw[h.out];exact a6M _)⟩
theorem a4Q(X:Nat->Bool)(ao:Option Addr)(l:List Nat)(c:Nat)(w:World)(f:Sl (a0c .u32) 1 (mk X w) ao l)(hd:Dig l)(n:l.length<=4398046511104)(p:∀k,X k=true->k<w.heap.size):Calls Tryz.prog 196 #[.slice ao l.length c] w (a3y X w (val l)):=by
 cases b:a1i l
 ·have h:=hid b
  go_enter Tryz.func196,Tryz.ntmps196
  go_wp2_with (go_at_call 274;refine(a1w X _ _ _ _ f n).mono ?_;rintro e r ⟨rfl,rfl⟩)
  go_ret
  have:vl l= []:=by unfold vl;rw[b];rfl
  exact⟨ExtX.refl _,none,0,[],rfl,by simp,this▸a3L hd,Sl.nil _ _ _ _⟩
 ·have h:=hid b
  have j:=OL.nil (a0c .u32) 1 X w.heap.size 110 w;have g:Sl (a0c .u32) 1 (mk (un X none) w) ao l:=f.mono (a0c.mono _) (a2T fun k _ q=>by simpa[un,ob]using q);go_enter Tryz.func196,Tryz.ntmps196
  go_wp2_with (first|(go_at_call 274;refine(a1w X _ _ _ _ f n).mono ?_;rintro e r ⟨rfl,rfl⟩)|(at_builtin;refine a4i (l:=[]) a0F rfl (a0c.elem .u32) (Nat.le_refl _) p l rfl rfl j g (by simp;omega) (by simp;omega) ?_;intro o i s a d _))
  go_ret
  have:vl l=l:=by unfold vl;rw[b];rfl
  have m:=a3L hd;rw[this]at m;exact⟨(ExtX.refl w).own j (Nat.le_refl _) d,_,_,l,rfl,by simpa using a.lenCap,m,by simpa using a.sl (a0c.elem _)⟩
theorem a3O(X:Nat->Bool)(ao:Option Addr)(l:List Nat)(a:Nat)(w:World)(d:Sl (a0c .u32) 1 (mk X w) ao l)(hd:Dig l)(o:l.length<=4398046511104)(h:l.length<=a):Calls Tryz.prog 278 #[.slice ao l.length a] w (a9H X w ao l a):=by
 have j:=d.hd;go_enter Tryz.func278,Tryz.ntmps278
 go_wp2_with fail
 go_loop [0] (fun s=>∃k:Nat,s= .slice ao k a/\Cut l k) (fun s=>lenOf s)
 case atStart=>exact⟨_,rfl,Cut.all l⟩
 case round=>
  obtain⟨k,rfl,c⟩:=hrel;have n:=c.1;by_cases f:0<k
  ·have i:=d.nat (k - 1) (by omega)
   have m:Hd ao k:=fun _=>j (by omega);by_cases hz:l[k - 1]=0
   ·have e:=c.less f hz
    have g:=hid hz;rw[hz]at i;clear hz;go_wp2_with (with_reducible refine a0n a0F (by omega) (by assumption) ?_)
    go_round
    case rel=>exact⟨k - 1,by go_num,e⟩
    case measure=>simp[lenOf];omega
   ·have b:=c.canon hd (.inr ⟨by omega,hz⟩)
    have g:((l[k - 1]:Int)==0)=false:=a2S (by omega);go_wp2_with (with_reducible refine a0n a0F (by omega) (by assumption) ?_)
    go_ret
    exact⟨rfl,l.take k,a3I (by simp;omega),by simp;omega,b,d.take k⟩
  ·have b:=c.canon hd (.inl (by omega))
   go_wp2_with fail
   go_ret
   exact⟨rfl,l.take k,a3I (by simp;omega),by simp;omega,b,d.take k⟩
theorem a2Y(X:Nat->Bool)(ao:Option Addr)(l:List Nat)(c:Nat)(i:Nat)(w:World)(g:Sl (a0c .u32) 1 (mk X w) ao l)(hd:Dig l)(hi:i<=4398046511104)(x:Nat)(hx:l.getD i 0=x):Calls Tryz.prog 277 #[.slice ao l.length c, .int .i64 i] w fun e j=>w=j/\e= .returned (.int .u64 x):=by
 have m:=g.hd;have b:=hid hx;clear hx;by_cases h:i<l.length
 ·have k:=g.nat i h
  have d:l.getD i 0=l[i]:=by simp[List.getD,h]
  have a:=hid d;have f:=hd.get i h;rw[a0S]at f;go_enter Tryz.func277,Tryz.ntmps277
  go_wp2_with (with_reducible refine a0n a0F (by omega) (by assumption) ?_)
  go_ret
  exact⟨rfl,a0y (by rw[<-b.out,a.out])⟩
 ·have d:l.getD i 0=0:=by simp[List.getD,h]
  have a:=hid d;go_enter Tryz.func277,Tryz.ntmps277
  go_wp2_with (with_reducible refine a0n a0F (by omega) (by assumption) ?_)
  go_ret
  exact⟨rfl,a0y (by rw[<-b.out,a.out];rfl)⟩
theorem a6f(X:Nat->Bool)(n:Nat)(w:World)(hn:n<18446744073709551616)(hX:∀k,X k=true->k<w.heap.size):Calls Tryz.prog 210 #[.int .u64 n] w (a3y X w n):=by
 have hO:OL (a0c .u32) 1 X w.heap.size 110 (w.alloc (.cells #[.int .u32 ((n:Int)%4294967296), .int .u32 ((n:Int)/4294967296)] 110)) (some ⟨w.heap.size,0,none⟩) 2 [n%4294967296,n/4294967296]:=
  OL.lit (a0c.elem .u32) hX (Nat.le_refl _) [.int .u32 ((n%4294967296:Nat):Int), .int .u32 ((n/4294967296:Nat):Int)] [n%4294967296,n/4294967296] _ (by simp[a0g,Value.cells]) rfl
   (fun i hi _=>by
            match i,hi with
            |0,_=>rfl
            |1,_=>rfl) (by simp)
 go_enter Tryz.func210,Tryz.ntmps210
 go_wp2_with fail
 refine(a3O X _ [n%4294967296,n/4294967296] _ _ (hO.sl (a0c.elem .u32)) (Dig.cons (by rw[a0S];exact Nat.mod_lt _ (by decide)) (Dig.cons (by rw[a0S];omega) Dig.nil)) (by simp) (by simp)).mono ?_;rintro e w' ⟨rfl,l',rfl,hl',hc,hs'⟩;go_wp2_with fail
 go_ret
 have hv:nv [n%4294967296,n/4294967296]=n:=by simp only[nv,a0S];omega
 rw[hv]at hc;exact⟨(ExtX.refl w).alloc _,_,2,_,rfl,by simpa using hl',hc,hs'⟩
theorem a6g(X:Nat->Bool)(f g:Option Addr)(a b:List Nat)(m n:Nat)(w:World)(j:Sl (a0c .u32) 1 (mk X w) f a)(l:Sl (a0c .u32) 1 (mk X w) g b)(y:a.length<=1099511627776)(z nb:Nat)(c:a0w a z)(d:a0w b nb):Calls Tryz.prog 279 #[.slice f a.length m, .slice g b.length n] w (a2L w (a2v z nb)):=by
 have u:=j.hd;have v:=l.hd;by_cases e:a.length<b.length
 ·have h:=hid (a3w c d e)
  have s:((a.length:Int) !=b.length)=true:=a9E (by omega);go_enter Tryz.func279,Tryz.ntmps279
  go_wp2_with fail
  go_ret
  exact⟨ExtX.refl _,a0y h.out.symm⟩
 by_cases r:b.length<a.length
 ·have h:=hid (a3x c d r)
  have s:((a.length:Int) !=b.length)=true:=a9E (by omega);go_enter Tryz.func279,Tryz.ntmps279
  go_wp2_with fail
  go_ret
  exact⟨ExtX.refl _,a0y h.out.symm⟩
 have s:((a.length:Int) !=b.length)=false:=b6E (by omega);have o:Hid (a.length=b.length):=hid (by omega);have t:b.length<=a.length:=by omega
 have C:a.length<=b.length:=by omega
 clear e r;go_enter Tryz.func279,Tryz.ntmps279
 go_wp2_with fail
 go_loopw [5] (fun i wr=>∃k:Nat,i= .int .i64 ((k:Int) - 1)/\k<=a.length/\Hid (a.drop k=b.drop k)/\Ext w wr) (fun i _=>(intOf i+1).toNat)
 case atStart=>exact⟨a.length,rfl,Nat.le_refl _,hid (by rw[List.drop_of_length_le (Nat.le_refl _),List.drop_of_length_le t]),ExtX.refl _⟩
 case round=>
  obtain⟨k,rfl,x,hdr,p⟩:=hrel;by_cases e:0<k
  ·have D:=(j.mono (a0c.mono _) (a0k p)).nat (k - 1) (by omega)
   have E:=(l.mono (a0c.mono _) (a0k p)).nat (k - 1) (by omega);have F:∀W,(Instr.indexAt 37 (.slice f a.length m) (.int .i64 ((k:Int) - 1))).run Tryz.prog W= .ok (.pointer (some (adr f (k - 1)))) W:=a1f a0F f a.length m .i64 (k - 1) u (by omega) (by omega);have G:∀W,(Instr.indexAt 37 (.slice g b.length n) (.int .i64 ((k:Int) - 1))).run Tryz.prog W= .ok (.pointer (some (adr g (k - 1)))) W:=a1f a0F g b.length n .i64 (k - 1) v (by omega) (by omega);by_cases A:a[k - 1]<b[k - 1]
   ·have h:=hid (a5H c d o.out e x hdr.out A)
    have H:((a[k - 1]:Int)<(b[k - 1]:Int)):=by omega
    go_wp2_with fail
    go_quiet (fail)
    go_wp2_with fail
    go_ret
    exact⟨p.drewN _,a0y h.out.symm⟩
   by_cases B:b[k - 1]<a[k - 1]
   ·have h:=hid (a5I c d o.out e x hdr.out B)
    go_wp2_with fail
    go_quiet (fail)
    go_wp2_with fail
    go_quiet (fail)
    go_wp2_with fail
    go_ret
    exact⟨(p.drewN _).drewN _,a0y h.out.symm⟩
   ·have q:=hid (a4w o.out e x hdr.out (by omega))
    go_wp2_with fail
    go_quiet (fail)
    go_wp2_with fail
    go_quiet (fail)
    go_wp2_with fail
    go_roundw
    case rel=>exact⟨k - 1,by go_num,by omega,q,p.drewN _⟩
    case measure=>simp[intOf];omega
  ·have h:=hid (a5J c d (k:=k) (by omega) hdr.out)
   go_wp2_with fail
   go_ret
   exact⟨p,a0y h.out.symm⟩
theorem b1E(X:Nat->Bool)(ao bo:Option Addr)(D E:List Nat)(ca cb:Nat)(w:World)(O:Sl (a0c .u32) 1 (mk X w) ao D)(Q:Sl (a0c .u32) 1 (mk X w) bo E)(u:Dig D)(z:Dig E)(I:D.length<=1099511627776)(J:E.length<=1099511627776)(hX:∀k,X k=true->k<w.heap.size)(na nb:Nat)(L:val D=na)(M:val E=nb):Calls Tryz.prog 201 #[.slice ao D.length ca, .slice bo E.length cb] w (a3y X w (na+nb)):=by
 go_enter Tryz.func201,Tryz.ntmps201
 go_wp2_with fail
 refine(a4Q X _ _ _ _ O u (by omega) hX).mono ?_;rintro e w1 ⟨p,a0,a3,a,rfl,b6,d,n⟩;have s:∀k,X k=true->k<w1.heap.size:=fun k C=>Nat.lt_of_lt_of_le (hX k C) p.size;go_wp2_with fail
 refine(a4Q X _ _ _ _ (Q.mono (a0c.mono _) (a0k p)) z (by omega) s).mono ?_;rintro e Z ⟨l,a2,a4,b,rfl,b7,f,R⟩;have a7:∀k,X k=true->k<Z.heap.size:=fun k C=>Nat.lt_of_lt_of_le (s k C) l.size;have b8:a.length<=1099511627776:=by rw[d.len];exact Nat.le_trans (a9F D u) I
 have b9:b.length<=1099511627776:=by rw[f.len];exact Nat.le_trans (a9F E z) J
 replace n:=n.mono (a0c.mono _) (a0k l)
 rw[L]at d;rw[M]at f;have U:Hid (nv a+nv b=na+nb):=hid (by rw[d.2.2,f.2.2]);have h:=d.1;have j:=f.1;have a5:=p.trans l;clear L M O Q I J d f u z p l s;obtain⟨m,hm⟩:∃m,max a.length b.length=m:=⟨_,rfl⟩;have b1:a.length<=m:=by omega
 have b2:b.length<=m:=by omega
 have c4:m<=1099511627776:=by omega
 have c5:(if a.length<b.length then(b.length:Int)else(a.length:Int))=(m:Int):=by split<;>omega
 have c3:=hid hm;clear hm;go_wp2_with fail
 go_loopw [5,6,7] (fun v c i wr=>∃(k:Nat) (o:List Nat) (A:Nat) (oo:Option Addr) (cp:Nat),i= .int .i64 k/\c= .int .u64 A/\v= .slice oo o.length cp/\k<=m+1/\a2w a b o k A/\OL (a0c .u32) 1 X Z.heap.size 110 wr oo cp o/\Ext Z wr) (fun _ _ i _=>m+1 - (intOf i).toNat)
 case atStart=>exact⟨0,[],0,none,0,rfl,rfl,rfl,by omega,a2w.start a b,OL.nil _ _ _ _ _ _,ExtX.refl _⟩
 case round=>
  obtain⟨k,o,A,oo,cp,rfl,rfl,rfl,C,g,Y,B⟩:=hrel;have N:=hid g.1;have c0:=g.2.2.1;have a8:∀k,X k=true->k<wr.heap.size:=fun k C=>Nat.lt_of_lt_of_le (a7 k C) B.size;have t:Z.heap.size<=wr.heap.size:=B.size;by_cases c2:k<=m
  ·have P:=n.mono (a0c.mono _) (a0k B)
   have S:=R.mono (a0c.mono _) (a0k B);have T:=g.step h j;have hx:=h.getD k;have hy:=j.getD k;rw[a0S]at hx hy;obtain⟨x,q⟩:∃x,a.getD k 0=x:=⟨_,rfl⟩;obtain⟨y,r⟩:∃y,b.getD k 0=y:=⟨_,rfl⟩;rw[q,r]at T;rw[q]at hx;rw[r]at hy;have V:=hid q;have W:=hid r;clear q r;go_wp2_with fail
   refine(a2Y X a0 a a3 k _ P h (by omega) x V.out).mono ?_;rintro e w' ⟨rfl,rfl⟩;go_wp2_with fail
   refine(a2Y X a2 b a4 k _ S j (by omega) y W.out).mono ?_;rintro e w' ⟨rfl,rfl⟩;have K:o.length<=2199023255552:=by rw[N.out];omega
   go_wp2_with (at_builtin;refine a3p a0F rfl (a0c.elem .u32) t a8 rfl rfl Y (.int .u32 (((x+y+A)%4294967296:Nat):Int)) ((x+y+A)%4294967296) (by simp[Value.cells]) rfl (by omega) (by omega) ?_;intro a1 F w3 a6 l _)
   go_roundw
   case rel=>exact⟨k+1,_,(x+y+A)/4294967296,a1,F,by go_num,by simp,by simp,by omega,T,a6,B.own Y (Nat.le_refl _) l⟩
   case measure=>simp[intOf];omega
  ·have a9:k=m+1:=by omega
   subst a9;have G:=g.done h j b1 b2;have b3:=g.2.1;have b5:=Y.sl (a0c.elem .u32);have K:o.length<=2199023255552:=by rw[N.out];omega
   have b0:=Y.lenCap;have H:=hid G;clear G;go_wp2_with fail
   refine(a3O X _ _ _ _ b5 b3 (by omega) b0).mono ?_;rintro e w' ⟨rfl,l',rfl,c1,hc,b4⟩;go_wp2_with fail
   go_ret
   rw[H.out,U.out]at hc;exact⟨a5.trans B,_,_,_,rfl,by omega,hc,b4⟩
end Go.Proofs.YtnnpfhoigmegcaaGreat
namespace Go.Lim
def ch:Nat->Nat->Nat
 |_,0=>1
 |0,_+1=>0
 |n+1,k+1=>ch n k+ch n (k+1)
theorem a4R(n:Nat):ch n 0=1:=by cases n<;>rfl
theorem b3S:∀(n k:Nat),n<k->ch n k=0
 |_,0,h=>by omega
 |0,_+1,_=>rfl
 |n+1,k+1,h=>by rw[ch,b3S n k (by omega),b3S n (k+1) (by omega)]
theorem b3T:∀(n k:Nat),ch n k<=2^n
 |n,0=>by rw[a4R];exact Nat.one_le_two_pow
 |0,_+1=>by simp[ch]
 |n+1,k+1=>by
  have h1:=b3T n k;have h2:=b3T n (k+1);rw[ch,Nat.pow_succ];omega
theorem b3U{n k:Nat}(h:n<=64):ch n k<B^3:=by
 rw[b1B];have:=b3T n k;have a:(2:Nat)^n<=2^64:=Nat.pow_le_pow_right (by decide) h;have b:(2:Nat)^64<2^(32*3):=Nat.pow_lt_pow_right (by decide) (by decide);omega
theorem b5L{n k:Nat}(h:n<=64):lg (ch n k)<=3:=a2n.2 (b3U h)
def a2M(r:List Nat)(k i j:Nat):Prop:=r.length=k+1/\∀p (_:p<r.length),r[p]=if j<p then ch (i+1) p else ch i p
theorem a2M.start(k:Nat):a2M ((List.replicate (k+1) 0).set 0 1) k 0 k:=by
 refine⟨by simp,fun p h=>?_⟩;simp at h;rw[if_neg (by omega),List.getElem_set];split
 ·subst_vars;rw[a4R]
 ·cases p with
  |zero=>omega
  |succ p=>simp[ch]
theorem a2M.step{r:List Nat}{k i j:Nat}(h:a2M r k i j)(m:0<j)(n:j<=k){x y:Nat}(hx:r[j]'(by rw[h.1];omega)=x)(l:r[j - 1]'(by rw[h.1];omega)=y):a2M (r.set j (x+y)) k i (j - 1):=by
 obtain⟨f,c⟩:=h;refine⟨by simpa using f,fun p g=>?_⟩;have d:=c j (by omega);have e:=c (j - 1) (by omega);rw[if_neg (by omega),hx]at d;rw[if_neg (by omega),l]at e;rw[List.getElem_set];by_cases a:j=p
 ·subst a
  rw[if_pos rfl,if_pos (by omega),d,e];obtain⟨q,rfl⟩:∃q,j=q+1:=⟨j - 1,by omega⟩;rw[ch];simp[Nat.add_comm]
 ·rw[if_neg a,c p (by simpa using g)]
  by_cases b:j<p
  ·rw[if_pos b,if_pos (by omega)]
  ·rw[if_neg b,if_neg (by omega)]
theorem a2M.next{r:List Nat}{k i:Nat}(h:a2M r k i 0):a2M r k (i+1) k:=by
 refine⟨h.1,fun p a=>?_⟩;rw[h.2 p a,if_neg (by have:=h.1;omega:¬k<p)];split
 ·rfl
 ·obtain rfl:p=0:=by omega
  rw[a4R,a4R]
theorem a2M.done{r:List Nat}{k i:Nat}(h:a2M r k i k)(a:k<r.length):r[k]=ch i k:=by
 rw[h.2 k a,if_neg (by omega)]
theorem a2M.le{r:List Nat}{k i j:Nat}(h:a2M r k i j)(p:Nat)(a:p<r.length)(hi:i<64):lg r[p]<=3:=by
 rw[h.2 p a];split
 ·exact b5L (by omega)
 ·exact b5L (by omega)
end Go.Lim
namespace Go.Proofs.YtnnpfhoigmegcaaGreat
open Go.RowKit Go.Rep Go.Lim
def b1F:Mem->Value->Nat->Prop:=fun h u n=>∃ao cap l,u= .slice ao l.length cap/\l.length<=cap/\a0w l n/\Sl (a0c .u32) 1 h ao l
theorem b1F.mono:a2Q b1F:=by
 rintro h f u x e ⟨ao,a,l,rfl,b,c,d⟩;exact⟨ao,a,l,rfl,b,c,d.mono (a0c.mono _) e⟩
theorem b1F.one:a2D b1F:=by rintro h u x ⟨ao,a,l,rfl,_⟩;rfl
theorem b1F.elem:Elem b1F 1:=⟨b1F.mono,by rintro h u x ⟨ao,a,l,rfl,_⟩;rfl,by rintro h u x ⟨ao,a,l,rfl,_⟩ c b;simp[a0g,Value.cells]at b;subst b;rfl,Nat.one_pos⟩
theorem b1F.zero(h:Mem):b1F h (.slice none 0 0) 0:=⟨none,0,[],rfl,by simp,a0w.nil,Sl.nil _ _ _ _⟩
end Go.Proofs.YtnnpfhoigmegcaaGreat
namespace Go.Lim
theorem a6N{p:Nat->Prop}{i:Nat}(h:∀j,j<i->p j)(hi:p i):∀j,j<i+1->p j:=fun j b=>by
 by_cases a:j<i
 ·exact h j a
 ·obtain rfl:j=i:=by omega
  exact hi
def b7K(a b:List Int):Bool:=a.any fun x=>b.any fun y=>x==y
end Go.Lim
namespace Go.Proofs.YtnnpfhoigmegcaaGreat
open Go.RowKit Go.Rep Go.Lim
end Go.Proofs.YtnnpfhoigmegcaaGreat
namespace Go.Lim
abbrev b6O:=List Int×List Int
def a1n(n h:Nat)(L:List b6O):Nat:=(L.map fun x=>ch (n - x.1.length - x.2.length) (h - x.1.length)).sum
end Go.Lim
namespace Go.Rep
open Go.RowKit Go.Lim
def a6O:Mem->Value->b6O->Prop:=fun h u x=>∃a1 c1 a2 c2,u= .agg #[.slice a1 x.1.length c1, .slice a2 x.2.length c2]/\x.1.length<=c1/\x.2.length<=c2/\Sl (a0M .i64) 1 h a1 x.1/\Sl (a0M .i64) 1 h a2 x.2
theorem a6O.mono:a2Q a6O:=by
 rintro h k u x a ⟨b,d,c,e,rfl,f,g,i,j⟩;exact⟨b,d,c,e,rfl,f,g,i.mono (a0M.mono _) a,j.mono (a0M.mono _) a⟩
theorem a6O.elem:Elem a6O 2:=⟨a6O.mono,by rintro h u x ⟨b,e,d,f,rfl,_⟩;rfl,by
 rintro h u x ⟨b,e,d,f,rfl,_⟩ c a;simp[a0g,Value.cells]at a;rcases a with rfl|rfl<;>rfl,by decide⟩
theorem Sl.leaf{X:Nat->Bool}{w:World}{ao:Option Addr}{l:List b6O}(s:Sl a6O 2 (mk X w) ao l)(i:Nat)(hi:i<l.length):∃a c b d,w.cell? (adr ao (i*2))=some (.slice a l[i].1.length c)/\w.cell? (adr ao (i*2+1))=some (.slice b l[i].2.length d)/\l[i].1.length<=c/\l[i].2.length<=d/\Sl (a0M .i64) 1 (mk X w) a l[i].1/\Sl (a0M .i64) 1 (mk X w) b l[i].2:=by
 obtain⟨u,k,e,a,c,b,d,rfl,f,g,h,j⟩:=s.2 i hi;exact⟨a,c,b,d,a1o (e 0 (by simp[Value.cells])),a1o (e 1 (by simp[Value.cells])),f,g,h,j⟩
theorem Sl.unstep{α:Type}{R:Mem->Value->α->Prop}(d:a2Q R){sz:Nat}{X:Nat->Bool}{w b:World}{oo a ao:Option Addr}{l:List α}(s:Sl R sz (mk (un X oo) w) ao l)(c:ExtX (ob oo) w b)(e:a=oo\/∃g,a=some ⟨g,0,none⟩/\w.heap.size<=g):Sl R sz (mk (un X a) b) ao l:=
 s.mono d (a2f c e)
theorem Sl.unX{α:Type}{R:Mem->Value->α->Prop}(a:a2Q R){sz:Nat}{X:Nat->Bool}{w:World}{oo ao:Option Addr}{l:List α}(s:Sl R sz (mk (un X oo) w) ao l):Sl R sz (mk X w) ao l:=
 s.mono a (a2T fun _ _ b=>a0v b)
theorem Sl.old{α:Type}{R:Mem->Value->α->Prop}(d:a2Q R){sz:Nat}{X:Nat->Bool}{w b:World}{oo ao:Option Addr}{l:List α}(s:Sl R sz (mk X w) ao l)(c:Ext w b)(e:∀j,j<w.heap.size->ob oo j=false):Sl R sz (mk (un X oo) b) ao l:=
 s.mono d (a0Z c (fun k _ a=>by simp[noY]at a) fun j a hz=>by simpa[un,e j a]using hz)
def a1H(P:Program)(t sz:Nat):Prop:=∃fs ti,P.underlying t=some (.struct fs)/\P.info? t=some ti/\ti.size=sz
section
variable {P:Program} {ops:Array Oper} {Q:Exit->Act->World->Prop} {rest:List Oper} {a:Act} {w:World}
variable {α:Type} {R:Mem->Value->α->Prop} {sz:Nat} {X:Nat->Bool} {ao:Option Addr} {l:List α}
variable {d:Option Tmp} {ty:TypeId} {ps:String} {af:Array Edge}
theorem a1g{t:TypeId}{x:Operand}{k:Nat}(A:a1H P t sz)(i:Nat)(D:Sl R sz (mk X w) ao l)(hi:i<l.length)(hx:a.eval x= .pointer (some (adr ao k)))(C:k=i*sz)(f:∀h u y,R h u y->∃c,u= .agg c)(K:∀u,R (mk X w) u l[i]->wpList P ops Q rest (a.put d u) w):wpList P ops Q (⟨d, .load t x,ty,ps,af,none⟩::rest) a w:=by
 refine wpList_plain rfl fun E e=>?_;subst C;obtain⟨F,ti,p,q,r⟩:=A;obtain⟨u,s,z,n⟩:=D.2 i hi;obtain⟨c,rfl⟩:=f _ _ _ n;have o:=run_loadCells_list (P:=P) w (adr ao (i*sz)) c.toList (fun j v B=>by
  rw[a6c];obtain⟨g,b⟩:=List.getElem?_eq_some_iff.1 B;have:=a1o (z j (by simpa[Value.cells]using g));rw[this];simp[Value.cells]at b |-;exact b)
 have m:c.toList.length=sz:=by simpa[Value.cells]using s
 rw[m]at o;unfold Oper.wp;simp[execOp,hx,Instr.loadAt,Instr.sureAddr,loadVar,isAgg,run_underlying p,sizeOf,typeInfo,q,r,o,Result.andThen];exact e _ _ (K _ n)
end
theorem a6O.agg:∀h u y,a6O h u y->∃a,u= .agg a:=by rintro h u y ⟨b,d,c,e,rfl,_⟩;exact⟨_,rfl⟩
theorem OL.ob_ge{α:Type}{R:Mem->Value->α->Prop}{sz:Nat}{X:Nat->Bool}{a:Nat}{e:TypeId}{w:World}{ao:Option Addr}{b:Nat}{l:List α}(h:OL R sz X a e w ao b l){k:Nat}(d:w.heap.size<=k):ob ao k=false:=by
 cases c:ob ao k
 ·rfl
 ·have:=h.block c;omega
theorem a1I{P:Program}{ops:Array Oper}{Q:Exit->Act->World->Prop}{rest:List Oper}{a:Act}{w:World}{α:Type}{R:Mem->Value->α->Prop}{sz:Nat}{X:Nat->Bool}{f:Nat}{e:TypeId}{ao:Option Addr}{p:Nat}{l:List α}{d:Option Tmp}{ty:TypeId}{ps:String}{af:Array Edge}{t o:Nat}{z:Value}{m:Array Value}{s x:Operand}(T:SliceT P t e sz o z)(A:z.cells.size=sz)(E:Elem R sz)(i:f<=w.heap.size)(F:∀k,X k=true->k<w.heap.size)(n:Nat)(G:l.length=n)(H:a.eval s= .slice ao n p)(hx:a.eval x= .slice (some ⟨w.heap.size,0,none⟩) 1 1)(h:OL R sz X f e w ao p l)(u:Value)(y:α)(q:m=u.cells)(I:R (mk (un X ao) w) u y)(j:(n+1)*o<=140737488355328)(r:n+1<=9223372036854775807)(K:∀c b v,OL R sz X f e v c b (l++[y])->ExtX (ob ao) w v->(c=ao\/∃g,c=some ⟨g,0,none⟩/\w.heap.size<=g)->wpList P ops Q rest (a.put d (.slice c (n+1) b)) v):wpList P ops Q (⟨d, .call {callee:= .builtin .append,args:=#[s,x],argTypes:=#[t,t]},ty,ps,af,none⟩::rest) a (w.alloc (.cells m e)):=by
 subst G;exact a3p T A E i F H hx h u y q I j r fun c b v B C D=>by
  have:=K c b v B C D;rwa[show l.length+1=(l++[y]).length from by simp]at this
end Go.Rep
namespace Go.Proofs.YtnnpfhoigmegcaaGreat
open Go.RowKit Go.Rep Go.Lim
def tbm(tb:Nat):Nat->Bool:=fun k=>k==tb
theorem b1G(a:Nat):tbm a a=true:=by simp[tbm]
theorem a2N{a k:Nat}(h:k≠a):tbm a k=false:=by simpa[tbm]using h
def a0G(X:Nat->Bool)(tb:Nat)(w:World):Prop:=
 X tb=true/\∃(lo:Option Addr) (l:List Int) (cap at_:Nat),w.heap[tb]? =some (.cells #[.slice lo l.length cap, .int .i64 (at_:Int)] 103 (0,0))/\l.length<=400/\at_<=l.length/\Sl (a0M .i64) 1 (mk X w) lo l
theorem a6h{X:Nat->Bool}{a:Nat}(h:X a=true):∀k,tbm a k=true->X k=true:=fun k b=>by
 have:k=a:=by simpa[tbm]using b
 rw[this];exact h
theorem a0G.lt{X:Nat->Bool}{a:Nat}{w:World}(h:a0G X a w):a<w.heap.size:=by
 obtain⟨_,lo,l,c,at_,b,_⟩:=h;by_cases d:a<w.heap.size
 ·exact d
 ·rw[Array.getElem?_eq_none (by omega)]at b;simp at b
theorem a0G.ext{X:Nat->Bool}{c:Nat}{w e:World}(h:a0G X c w)(d:Ext w e):a0G X c e:=by
 have b:=h.lt;obtain⟨k,lo,l,a,at_,f,g,i,j⟩:=h;exact⟨k,lo,l,a,at_,by rw[d.block c b rfl];exact f,g,i,j.mono (a0M.mono _) (a0k d)⟩
theorem a0G.extY{X Y:Nat->Bool}{a:Nat}{w e:World}(h:a0G X a w)(d:ExtX Y w e)(n:∀k,Y k=true->X k=true)(o:Y a=false):a0G X a e:=by
 have c:=h.lt;obtain⟨m,lo,l,b,at_,f,g,i,j⟩:=h;exact⟨m,lo,l,b,at_,by rw[d.block a c o];exact f,g,i,j.mono (a0M.mono _) (a0E d n)⟩
def b3V(X:Nat->Bool)(tb:Nat)(w:World)(n:Int)(e:Ending)(w':World):Prop:=
 ExtX (tbm tb) w w'/\a0G X tb w'/\∃m:Nat,e= .returned (.int .i64 (m:Int))/\((m:Int)<n\/m=0)
theorem b1H(v n:Int)(w:World)(m:1<=n)(o:n<=1099511627776):Calls Tryz.prog 83 #[.int .i64 v, .int .i64 n] w (fun e j=>e= .returned (.int .i64 (v%n))/\j=w):=by
 have i:(n==0)=false:=a2S (by omega);have g: -n<v.tmod n:=Int.lt_tmod_of_pos v (by omega);have f:v.tmod n<n:=Int.tmod_lt_of_pos v (by omega);have d:(v.tmod n<0->v.tmod n+n=v%n)/\(0<=v.tmod n->v.tmod n=v%n):=by
  have h:=Int.tmod_eq_emod (a:=v) (b:=n);have k:=Int.emod_nonneg v (show n≠0 by omega);have l:=Int.emod_lt_of_pos v (show 0<n by omega);split at h<;>omega
 have c:=hid d;clear d;go_enter Tryz.func83,Tryz.ntmps83
 go_wp2_with fail
 ·go_ret
  exact⟨a0y (c.out.1 (by assumption)),rfl⟩
 ·go_ret
  exact⟨a0y (c.out.2 (by assumption)),rfl⟩
theorem a0G.cells{X:Nat->Bool}{b:Nat}{w:World}(h:a0G X b w):∃(lo:Option Addr) (l:List Int) (c at_:Nat),w.cell? ⟨b,0,none⟩=some (.slice lo l.length c)/\w.cell? ⟨b,1,none⟩=some (.int .i64 (at_:Int))/\w.frozen? ⟨b,1,none⟩=false/\l.length<=400/\at_<=l.length/\Sl (a0M .i64) 1 (mk X w) lo l/\ ∀a:Nat,a<=l.length->a0G X b (w.setCell ⟨b,1,none⟩ (.int .i64 (a:Int)))/\ExtX (tbm b) w (w.setCell ⟨b,1,none⟩ (.int .i64 (a:Int)))/\ (w.setCell ⟨b,1,none⟩ (.int .i64 (a:Int))).cell? ⟨b,0,none⟩=some (.slice lo l.length c)/\(w.setCell ⟨b,1,none⟩ (.int .i64 (a:Int))).cell? ⟨b,1,none⟩=some (.int .i64 (a:Int)):=by
 have p:=h.lt;obtain⟨m,lo,l,c,at_,d,g,n,i⟩:=h;refine⟨lo,l,c,at_,by simp[World.cell?,d],by simp[World.cell?,d],by simp[World.frozen?,d],g,n,i,fun a o=>?_⟩;have j:ExtX (tbm b) w (w.setCell ⟨b,1,none⟩ (.int .i64 (a:Int))):=
  ⟨rfl,rfl,rfl,by simp[World.setCell],fun k r q=>Below.heap_setCell _ _ _ _ (fun e=>by subst e;simp[tbm]at q)⟩
 have f:(w.setCell ⟨b,1,none⟩ (.int .i64 (a:Int))).heap[b]? =some (.cells #[.slice lo l.length c, .int .i64 (a:Int)] 103 (0,0)):=by
  simp only[World.setCell,Array.getElem?_modify,d];simp
 exact⟨⟨m,lo,l,c,a,f,g,o,i.mono (a0M.mono _) (a0E j (a6h m))⟩,j,by unfold World.cell?;rw[f];rfl,by unfold World.cell?;rw[f];rfl⟩
theorem a0G.drewN{X:Nat->Bool}{a:Nat}{w:World}(h:a0G X a w)(n:Nat):a0G X a (w.drewN n):=h
theorem a1A(X:Nat->Bool)(b:Nat)(n:Int)(w:World)(k:a0G X b w)(L:n<=1099511627776):Calls Tryz.prog 21 #[.pointer (some ⟨b,0,none⟩), .int .i64 n] w (b3V X b w n):=by
 obtain⟨lo,l,d,at_,G,H,J,K,hat,B,c⟩:=k.cells;have C:=B.hd;by_cases z:n<1
 ·have hd:decide (n<1)=true:=decide_eq_true z
  go_enter Tryz.func21,Tryz.ntmps21
  go_wp2_with fail
  go_quiet (fail)
  go_wp2_with fail
  go_ret
  exact⟨(ExtX.refl _).drewN _,k.drewN _,0,rfl, .inr rfl⟩
 have hd:decide (n<1)=false:=decide_eq_false z;by_cases A:at_<l.length
 ·obtain⟨f,a,u,v⟩:=c (at_+1) (by omega)
  have e:=(B.mono (a0M.mono _) (a0E a (a6h k.1))).int at_ A;obtain⟨x,hx⟩:∃x,l[at_]=x:=⟨_,rfl⟩;rw[hx]at e;clear hx c;have y:((at_+1:Nat):Int)=(at_:Int)+1:=by omega
  rw[y]at u v e f a;have D:∀N,((w.drewN N).setCell ⟨b,1,none⟩ (.int .i64 ((at_:Int)+1))).cell? ⟨b,0,none⟩=some (.slice lo l.length d):=fun _=>u;have E:∀N,((w.drewN N).setCell ⟨b,1,none⟩ (.int .i64 ((at_:Int)+1))).cell? ⟨b,1,none⟩=some (.int .i64 ((at_:Int)+1)):=fun _=>v;have F:∀N,((w.drewN N).setCell ⟨b,1,none⟩ (.int .i64 ((at_:Int)+1))).cell? (adr lo at_)=some (.int .i64 x):=fun _=>e;have I:IntKind.i64.wrap ((at_:Int)+1 - 1)=(at_:Int):=by rw[IntWalk.i64_in _ (by omega)];omega
  have j:∀N,a0G X b ((w.drewN N).setCell ⟨b,1,none⟩ (.int .i64 ((at_:Int)+1))):=fun _=>f;have g:∀N,ExtX (tbm b) w ((w.drewN N).setCell ⟨b,1,none⟩ (.int .i64 ((at_:Int)+1))):=fun _=>⟨a.os,a.tape,a.output,a.size,a.block⟩;have t:=hid j;have o:=hid g;clear y f a u v j g;have p:decide ((l.length:Int)<=(at_:Int))=false:=decide_eq_false (by omega);have M:∀W,(Instr.indexAt 22 (.slice lo l.length d) (.int .i64 (at_:Int))).run Tryz.prog W= .ok (.pointer (some (adr lo at_))) W:=a1f a5w lo l.length d .i64 at_ C A rfl;go_enter Tryz.func21,Tryz.ntmps21
  go_wp2_with fail
  go_quiet (fail)
  go_wp2_with fail
  have h:=Int.emod_nonneg x (show n≠0 by omega);have i:=Int.emod_lt_of_pos x (show 0<n by omega);obtain⟨m,q⟩:=Int.eq_ofNat_of_zero_le h;have r:=hid q;have s:Hid ((m:Int)<n):=hid (by rw[<-q];exact i);clear q h i
  go_quiet ((go_at_call 83;exact Calls.quiet_of_same (b1H x n _ (by omega) (by omega))))
  go_wp2_with fail
  go_ret
  exact⟨(o.out _).drewN _,(t.out _).drewN _,m,a0y r.out, .inl s.out⟩
 ·have p:decide ((l.length:Int)<=(at_:Int))=true:=decide_eq_true (by omega)
  go_enter Tryz.func21,Tryz.ntmps21
  go_wp2_with fail
  go_quiet (fail)
  go_wp2_with fail
  go_ret
  exact⟨(ExtX.refl _).drewN _,k.drewN _,0,rfl, .inr rfl⟩
def b1I(X:Nat->Bool)(tb:Nat)(w:World)(e:Ending)(w':World):Prop:=ExtX (tbm tb) w w'/\a0G X tb w'/\∃b:Bool,e= .returned (.bool b)
def a9K(X:Nat->Bool)(tb:Nat)(w:World)(lo hi:Int)(e:Ending)(w':World):Prop:=ExtX (tbm tb) w w'/\a0G X tb w'/\∃m:Int,e= .returned (.int .i64 m)/\lo<=m/\m<=hi
theorem a9L(X:Nat->Bool)(a:Nat)(n:Int)(w:World)(f:a0G X a w)(g: -1000<=n)(d:n<=1099511627776):Calls Tryz.prog 16 #[.pointer (some ⟨a,0,none⟩), .int .i64 n] w (b1I X a w):=by
 go_enter Tryz.func16,Tryz.ntmps16
 go_wp2_with fail
 refine(a1A X a n _ f d).mono ?_;rintro e i ⟨c,b,m,rfl,h⟩;go_wp2_with fail
 go_ret
 exact⟨c,b,_,rfl⟩
theorem b1J(X:Nat->Bool)(d:Nat)(lo:Option Addr)(l:List Int)(f:Nat)(w:World)(a b:Int)(n:a0G X d w)(k:Sl (a0M .i64) 1 (mk X w) lo l)(p:0<l.length)(r:l.length<=1000)(g:Hid (∀x∈l,a<=x/\x<=b)):Calls Tryz.prog 82 #[.pointer (some ⟨d,0,none⟩), .slice lo l.length f] w (a9K X d w a b):=by
 have q:=k.hd;go_enter Tryz.func82,Tryz.ntmps82
 go_wp2_with fail
 refine(a1A X d _ _ n (by omega)).mono ?_;rintro e t ⟨j,i,m,rfl,s⟩;have c:m<l.length:=by omega
 have o:=(k.mono (a0M.mono _) (a0E j (a6h n.1))).int m c;have h:=g.out l[m] (List.getElem_mem c);obtain⟨x,hx⟩:∃x,l[m]=x:=⟨_,rfl⟩;rw[hx]at o h;clear hx;go_wp2_with (with_reducible refine a0n a5w (by omega) (by assumption) ?_)
 go_ret
 exact⟨j,i,x,rfl,h.1,h.2⟩
theorem b1K(lo:Option Addr)(l:List Int)(a:Nat)(w:World)(d:Sl (a0M .i64) 1 w.cell? lo l)(j:l.length<=a)(n:l.length<=9223372036854775807):Calls Tryz.prog 14 #[.slice lo l.length a] w (fun e g=>e= .returned (.pointer (some ⟨w.heap.size,0,none⟩))/\Ext w g/\a0G (tbm w.heap.size) w.heap.size g/\g.heap.size=w.heap.size+1):=by
 have b:∀(l:List Int),l.length<=400->Sl (a0M .i64) 1 w.cell? lo l->a0G (tbm w.heap.size) w.heap.size (w.alloc (.cells #[.slice lo l.length a, .int .i64 0] 103)):=by
  intro l j d;refine⟨b1G _,lo,l,a,0,heap_alloc_new w _,j,Nat.zero_le _,?_⟩;rw[<-a4u]at d;refine d.mono (a0M.mono _) (a0Z ((ExtX.refl (Y:=noY) w).alloc _) (fun k _ i=>by simp[noY]at i) fun k i hz=>?_);have:k=w.heap.size:=by simpa[tbm]using hz
  omega
 have h:∀u v,Ext w (w.alloc (.cells #[u,v] 103)):=fun u v=>(ExtX.refl w).alloc _;by_cases m:400<l.length
 ·have f:=hid (b (l.take 400) (by simp;omega) (d.take 400))
  have c:(l.take 400).length=400:=by simp;omega
  rw[c]at f;clear b c;go_enter Tryz.func14,Tryz.ntmps14
  go_wp2_with fail
  go_ret
  exact⟨rfl,h _ _,f.out,by simp⟩
 ·have f:=hid (b l (by omega) d)
  clear b;go_enter Tryz.func14,Tryz.ntmps14
  go_wp2_with fail
  go_ret
  exact⟨rfl,h _ _,f.out,by simp⟩
theorem a9M(l:List Int):(l.map (Value.int .i64)).flatMap a0g=l.map (Value.int .i64):=by
 induction l with
 |nil=>rfl
 |cons x l ih=>simp only[List.map_cons,List.flatMap_cons,ih];rfl
theorem b5M(X:Nat->Bool)(w:World)(l:List Int)(e:TypeId)(a:Array Value)(b:a=(l.map (Value.int .i64)).toArray)(c:∀k,X k=true->k<w.heap.size)(f:l.length<=1000):OL (a0M .i64) 1 X w.heap.size e (w.alloc (.cells a e)) (some ⟨w.heap.size,0,none⟩) l.length l:=by
 refine OL.lit (a0M.elem .i64) c (Nat.le_refl _) (l.map (Value.int .i64)) l a ?_ (by simp) (fun i hi d=>by simp[a0M]) (by omega);rw[b,a9M]
theorem b1L(X:Nat->Bool)(g:Nat)(l:List Int)(c:Array Value)(e:TypeId)(len:Nat)(w:World)(a b:Int)(q:a0G X g w)(p:∀k,X k=true->k<w.heap.size)(d:c=(l.map (Value.int .i64)).toArray)(f:len=l.length)(o:0<l.length)(n:l.length<=1000)(i:Hid (∀x∈l,a<=x/\x<=b)):Calls Tryz.prog 82 #[.pointer (some ⟨g,0,none⟩), .slice (some ⟨w.heap.size,0,none⟩) len len] (w.alloc (.cells c e)) (a9K X g w a b):=by
 subst f;have m:Ext w (w.alloc (.cells c e)):=(ExtX.refl w).alloc _;refine(b1J X g _ l _ _ a b (q.ext m) (OL.sl (a0M.elem .i64) (b5M X w l e c d p n)) o n i).mono ?_;rintro s t ⟨h,j,r⟩;exact⟨(ExtX.of m).trans h,j,r⟩
theorem a0G.unstep{X:Nat->Bool}{b:Nat}{w i:World}{oo a:Option Addr}(h:a0G (un X oo) b w)(f:ob oo b=false)(e:ExtX (ob oo) w i)(p:a=oo\/∃g,a=some ⟨g,0,none⟩/\w.heap.size<=g):a0G (un X a) b i:=by
 have d:=h.lt;obtain⟨o,lo,l,c,at_,j,k,m,n⟩:=h;refine⟨?_,lo,l,c,at_,by rw[e.block b d f];exact j,k,m,n.unstep (a0M.mono _) e p⟩;have:X b=true:=by simpa[un,f]using o
 exact a0v this
theorem a0G.unX{X:Nat->Bool}{b:Nat}{w:World}{oo:Option Addr}(h:a0G (un X oo) b w)(g:X b=true):a0G X b w:=by
 obtain⟨_,lo,l,a,at_,c,d,e,f⟩:=h;exact⟨g,lo,l,a,at_,c,d,e,f.unX (a0M.mono _)⟩
theorem a9N(X:Nat->Bool):un X none=X:=by funext k;simp[un,ob]
theorem a0G.none{X:Nat->Bool}{a:Nat}{w:World}(h:a0G X a w):a0G (un X none) a w:=by rw[a9N];exact h
theorem a0G.old{X:Nat->Bool}{c:Nat}{w e:World}{oo:Option Addr}(h:a0G X c w)(d:Ext w e)(n:∀j,j<w.heap.size->ob oo j=false):a0G (un X oo) c e:=by
 have b:=h.lt;obtain⟨m,lo,l,a,at_,f,g,i,k⟩:=h;exact⟨a0v m,lo,l,a,at_,by rw[d.block c b rfl];exact f,g,i,k.old (a0M.mono _) d n⟩
theorem _root_.Go.Rep.OL.not_ob{α:Type}{R:Mem->Value->α->Prop}{sz a b:Nat}{e:TypeId}{ao:Option Addr}{l:List α}{X:Nat->Bool}{w:World}(f:OL R sz X a e w ao b l){k:Nat}(c:X k=true):ob ao k=false:=by
 have h:∀k,ob ao k=true->X k=false:=f.1;cases d:ob ao k
 ·rfl
 ·rw[h k d]at c;simp at c
theorem b5N(w:World):∀j,j<w.heap.size->ob (some ⟨w.heap.size,0,none⟩) j=false:=fun j b=>by
 cases a:ob (some ⟨w.heap.size,0,none⟩) j
 ·rfl
 ·have:w.heap.size=j:=by simpa[ob]using a
  omega
end Go.Proofs.YtnnpfhoigmegcaaGreat
namespace Go.Lim
theorem a1r{l:List Nat}(h:Dig l)(k:Nat):nv (l.take k)<B^k:=by
 refine Nat.lt_of_lt_of_le (a3K (h.take k)) (Nat.pow_le_pow_right a2g ?_);simp;omega
theorem a6i{l:List Nat}{k:Nat}(h:nv l<B^k):nv (l.take k)=nv l:=by
 by_cases d:k<=l.length
 ·have b:=a1y l k d
  have c:nv (l.drop k)=0:=by
   by_cases a:nv (l.drop k)=0
   ·exact a
   ·have:B^k*1<=B^k*nv (l.drop k):=Nat.mul_le_mul_left _ (by omega)
    omega
  rw[c]at b;omega
 ·rw[List.take_of_length_le (by omega)]
theorem a0m{l:List Nat}{i:Nat}(h:i<l.length):l.getD i 0=l[i]:=by simp[List.getD,h]
theorem a3q{l:List Nat}{i:Nat}(h:l.length<=i):l.getD i 0=0:=by simp[List.getD,h]
def a3D(x y c:Nat):Nat:=(x+4294967296 - y - c)%4294967296
def a4S(x y c:Nat):Nat:=if x<y+c then 1 else 0
theorem a7y{x y c:Nat}(hx:x<B)(b:y<B)(a:c<=1):a3D x y c+y+c=x+B*a4S x y c/\a3D x y c<B/\a4S x y c<=1:=by
 rw[a0S]at*;unfold a3D a4S;split<;>omega
def a3P(a b o:List Nat)(i c:Nat):Prop:=o.length=a.length/\Dig o/\c<=1/\nv (o.take i)+nv (b.take i)=nv (a.take i)+B^i*c
theorem a3P.start(a b:List Nat):a3P a b (List.replicate a.length 0) 0 0:=⟨by simp,Dig.zeros _,by omega,by simp[nv]⟩
theorem a3P.step{a b o:List Nat}{i c x y:Nat}(h:a3P a b o i c)(hi:i<a.length)(hx:a[i]=x)(g:b.getD i 0=y)(s:Dig a)(t:Dig b):a3P a b (o.set i (a3D x y c)) (i+1) (a4S x y c):=by
 obtain⟨p,q,r,u⟩:=h;have e:=s.get i hi;have f:=t.getD i;rw[hx]at e;rw[g]at f;obtain⟨k,l,m⟩:=a7y e f r;refine⟨by simpa using p,q.set _ _ l,m,?_⟩;rw[a0Y o i _ (by omega),a1x,a0p a i hi,a0Q,hx,g,List.length_take,Nat.min_eq_left (by omega),Nat.pow_succ];generalize a3D x y c=d at*;generalize a4S x y c=j at*;have n:B^i*(d+y+c)=B^i*(x+B*j):=by rw[k]
 rw[Nat.mul_add,Nat.mul_add,Nat.mul_add]at n;rw[Nat.mul_assoc];omega
theorem a3P.done{a b o:List Nat}{c:Nat}(h:a3P a b o a.length c)(d:b.length<=a.length)(l:nv b<=nv a):nv o=nv a - nv b:=by
 obtain⟨e,g,m,i⟩:=h;rw[List.take_of_length_le (Nat.le_of_eq e),List.take_of_length_le d,List.take_of_length_le (Nat.le_refl _)]at i;have j:=a3K g;rw[e]at j;have k:c=0:=by
  by_cases f:c=0
  ·exact f
  ·have:c=1:=by omega
   subst this;omega
 subst k;omega
def a3Q(W V:List Nat)(x:Nat)(o:List Nat)(k cy bo:Nat):Prop:=
 o.length=W.length/\Dig o/\o.drop k=W.drop k/\bo<=1/\cy<B/\(∃L,L<B^k/\x*nv (V.take k)=L+B^k*cy)/\nv (o.take k)+x*nv (V.take k)=nv (W.take k)+B^k*(cy+bo)
theorem a3Q.start{W V:List Nat}{x:Nat}(a:Dig W):a3Q W V x W 0 0 0:=⟨rfl,a,rfl,by omega,a2g,⟨0,by simp,by simp[nv]⟩,by simp[nv]⟩
theorem a3Q.step{W V o:List Nat}{x k a f y z:Nat}(h:a3Q W V x o k a f)(J:k<W.length)(u:V.getD k 0=y)(hz:o.getD k 0=z)(I:Dig V)(hx:x<B):a3Q W V x (o.set k (a3D z ((a+x*y)%4294967296) f)) (k+1) ((a+x*y)/4294967296) (a4S z ((a+x*y)%4294967296) f)/\a+x*y<18446744073709551616/\z<4294967296:=by
 obtain⟨E,r,s,F,t,⟨L,K,G⟩,H⟩:=h;have l:=I.getD k;rw[u]at l;have b:=r.getD k;rw[hz]at b;have n:W[k]=z:=by
  have p:(o.drop k)[0]'(by simp;omega)=(W.drop k)[0]'(by simp;omega):=by simp only[s]
  simp at p;rw[<-p,<-hz,a0m (by omega)]
 have M:x*y<=4294967295*4294967295:=Nat.mul_le_mul (by rw[a0S]at hx;omega) (by rw[a0S]at l;omega);obtain⟨lo,e⟩:∃lo,(a+x*y)%4294967296=lo:=⟨_,rfl⟩;obtain⟨hi,i⟩:∃hi,(a+x*y)/4294967296=hi:=⟨_,rfl⟩;have m:B*hi+lo=a+x*y:=by rw[<-e,<-i,a0S];exact Nat.div_add_mod _ _
 have c:lo<B:=by rw[<-e,a0S];exact Nat.mod_lt _ (by decide)
 have j:hi<B:=by rw[a0S]at t |-;omega
 rw[e,i];obtain⟨w,A,C⟩:=a7y b c F;have g:nv (V.take (k+1))=nv (V.take k)+B^k*y:=by rw[a0Q,u]
 have e5:B^k*(B*hi+lo)=B^k*(a+x*y):=by rw[m]
 rw[Nat.mul_add,Nat.mul_add]at e5;have q:x*(nv (V.take k)+B^k*y)=x*nv (V.take k)+B^k*(x*y):=by rw[Nat.mul_add,Nat.mul_left_comm]
 refine⟨⟨by simpa using E,r.set _ _ A,?_,C,j,⟨L+B^k*lo,?_,?_⟩,?_⟩,by rw[a0S]at t;omega,by rw[a0S]at b;exact b⟩
 ·rw[List.drop_set_of_lt (by omega)]
  have:(o.drop k).drop 1=(W.drop k).drop 1:=by rw[s]
  simpa using this
 ·rw[Nat.pow_succ]
  have:B^k*lo+B^k<=B^k*B:=by rw[<-Nat.mul_succ];exact Nat.mul_le_mul_left _ c
  omega
 ·rw[g,q,G,Nat.pow_succ,Nat.mul_assoc];omega
 ·rw[a0Y o k _ (by omega),a1x,a0p W k J,n,g,q,List.length_take,Nat.min_eq_left (by omega),Nat.pow_succ,Nat.mul_assoc,Nat.mul_add]
  rw[Nat.mul_add]at H;generalize a3D z lo f=d at*;generalize a4S z lo f=v at*;have D:B^k*(d+lo+f)=B^k*(z+B*v):=by rw[w]
  rw[Nat.mul_add,Nat.mul_add,Nat.mul_add]at D;rw[Nat.mul_add];omega
theorem a3Q.done{W V o:List Nat}{x d a n:Nat}(h:a3Q W V x o W.length d a)(k:W.length=n+1)(q:V.length=n)(e:Dig V)(hx:x<B):o.length=n+1/\Dig o/\((a=0/\nv o+x*nv V=nv W)\/(a=1/\nv W<x*nv V/\nv o+x*nv V=nv W+B^(n+1))):=by
 obtain⟨m,i,s,t,u,⟨L,p,j⟩,b⟩:=h;have c:=a3K e;rw[q]at c;have g:=a3K i;rw[m,k]at g;rw[List.take_of_length_le (by omega)]at j;rw[List.take_of_length_le (by omega),List.take_of_length_le (by omega),List.take_of_length_le (Nat.le_refl _)]at b;rw[k]at p j b;have r:x*nv V<B^(n+1):=by
  rw[Nat.pow_succ,Nat.mul_comm (B^n)];exact Nat.lt_of_le_of_lt (Nat.mul_le_mul_right _ (Nat.le_of_lt hx)) (Nat.mul_lt_mul_of_pos_left c a2g)
 have f:d=0:=by
  by_cases l:d=0
  ·exact l
  ·have:B^(n+1)*1<=B^(n+1)*d:=Nat.mul_le_mul_left _ (by omega)
   omega
 subst f;refine⟨by omega,i,?_⟩;rcases(show a=0\/a=1 by omega)with rfl|rfl
 ·left;exact⟨rfl,by simpa using b⟩
 ·right
  rw[Nat.zero_add,Nat.mul_one]at b;exact⟨rfl,by omega,b⟩
def a3R(W V:List Nat)(o:List Nat)(k c:Nat):Prop:=
 o.length=W.length/\Dig o/\o.drop k=W.drop k/\c<=1/\nv (o.take k)+B^k*c=nv (W.take k)+nv (V.take k)
theorem a3R.start{W V:List Nat}(a:Dig W):a3R W V W 0 0:=⟨rfl,a,rfl,by omega,by simp[nv]⟩
theorem a3R.step{W V o:List Nat}{k c y z:Nat}(h:a3R W V o k c)(n:k<W.length)(j:V.getD k 0=y)(hz:o.getD k 0=z)(m:Dig V):a3R W V (o.set k ((z+y+c)%4294967296)) (k+1) ((z+y+c)/4294967296)/\z<4294967296:=by
 obtain⟨l,g,i,q,r⟩:=h;have b:=m.getD k;rw[j,a0S]at b;have a:=g.getD k;rw[hz,a0S]at a;have d:W[k]=z:=by
  have f:(o.drop k)[0]'(by simp;omega)=(W.drop k)[0]'(by simp;omega):=by simp only[i]
  simp at f;rw[<-f,<-hz,a0m (by omega)]
 refine⟨⟨by simpa using l,g.set _ _ (by rw[a0S];exact Nat.mod_lt _ (by decide)),?_,by omega,?_⟩,a⟩
 ·rw[List.drop_set_of_lt (by omega)]
  have:(o.drop k).drop 1=(W.drop k).drop 1:=by rw[i]
  simpa using this
 ·rw[a0Y o k _ (by omega),a1x,a0p W k n,d,a0Q,j,List.length_take,Nat.min_eq_left (by omega),Nat.pow_succ,Nat.mul_assoc]
  have e:(z+y+c)%4294967296+B*((z+y+c)/4294967296)=z+y+c:=by rw[a0S];omega
  have p:B^k*((z+y+c)%4294967296)+B^k*(B*((z+y+c)/4294967296))=B^k*z+B^k*y+B^k*c:=by rw[<-Nat.mul_add,e,Nat.mul_add,Nat.mul_add]
  omega
theorem a3R.done{W V o:List Nat}{c n:Nat}(h:a3R W V o W.length c)(e:W.length=n+1)(i:V.length=n):o.length=n+1/\Dig o/\c<=1/\nv o+B^(n+1)*c=nv W+nv V:=by
 obtain⟨f,b,g,d,a⟩:=h;rw[List.take_of_length_le (by omega),List.take_of_length_le (Nat.le_refl _),List.take_of_length_le (by omega),e]at a;exact⟨by omega,b,d,a⟩
def a6j(a o:List Nat)(s k:Nat):Prop:=o.length=a.length+1/\Dig o/\(∀p,k<p->o.getD p 0=0)/\o.getD k 0<2^s/\nv (o.take (k+1))=nv (a.take k)*2^s
theorem a6j.start(a:List Nat)(s:Nat):a6j a (List.replicate (a.length+1) 0) s 0:=
 ⟨by simp,Dig.zeros _,fun p _=>by by_cases h:p<a.length+1<;>simp[List.getD,h],by simp[List.getD];exact Nat.two_pow_pos _,by rw[a0Q];simp[nv,List.getD]⟩
theorem b1M{lo x s:Nat}(a:lo<2^s)(b:s<32):lo|||(x*2^s)%4294967296=lo+(x*2^s)%4294967296:=by
 have e:(x*2^s)%4294967296=2^s*(x%2^(32 - s)):=by
  rw[show(4294967296:Nat)=2^s*2^(32 - s)by rw[<-Nat.pow_add,show s+(32 - s)=32 by omega],Nat.mul_comm x,Nat.mul_mod_mul_left]
 rw[e,Nat.or_comm,<-Nat.two_pow_add_eq_or_of_lt a,Nat.add_comm]
theorem a6j.step{a o:List Nat}{s k x lo:Nat}(h:a6j a o s k)(m:k<a.length)(hx:a[k]=x)(f:o.getD k 0=lo)(u:Dig a)(v:s<32):a6j a ((o.set k (lo|||(x*2^s)%4294967296)).set (k+1) (x*2^s/4294967296)) s (k+1)/\(lo|||(x*2^s)%4294967296)<4294967296/\x*2^s<18446744073709551616/\x*2^s/4294967296<4294967296:=by
 obtain⟨j,q,r,l,t⟩:=h;have c:=u.get k m;rw[hx,a0S]at c;rw[f]at l;rw[b1M l v];have n:(2:Nat)^s<=2^31:=Nat.pow_le_pow_right (by omega) (by omega);have d:x*2^s/4294967296<2^s:=Nat.div_lt_of_lt_mul (Nat.mul_lt_mul_of_pos_right c (Nat.two_pow_pos _));have b:lo+(x*2^s)%4294967296<4294967296:=by
  have e:(x*2^s)%4294967296=2^s*(x%2^(32 - s)):=by
   rw[show(4294967296:Nat)=2^s*2^(32 - s)by rw[<-Nat.pow_add,show s+(32 - s)=32 by omega],Nat.mul_comm x,Nat.mul_mod_mul_left]
  have i:x%2^(32 - s)<2^(32 - s):=Nat.mod_lt _ (Nat.two_pow_pos _);have w:2^s*(x%2^(32 - s))+2^s<=2^s*2^(32 - s):=by rw[<-Nat.mul_succ];exact Nat.mul_le_mul_left _ i
  have y:2^s*2^(32 - s)=4294967296:=by rw[<-Nat.pow_add,show s+(32 - s)=32 by omega]
  omega
 have hxs:x*2^s<18446744073709551616:=by
  have:x*2^s<=x*2^31:=Nat.mul_le_mul_left _ n;omega
 refine⟨⟨by simpa using j,(q.set _ _ (by rw[a0S];exact b)).set _ _ (by rw[a0S];omega),fun p n=>?_,?_,?_⟩,b,hxs,by omega⟩
 ·have:=r p (by omega)
  simp only[List.getD_eq_getElem?_getD]at this |-;rw[List.getElem?_set_ne (by omega),List.getElem?_set_ne (by omega)];exact this
 ·rw[a0m (by simp;omega),List.getElem_set_self];exact d
 ·rw[a0Y _ _ _ (by simp;omega),a1x,a0Y _ _ _ (by omega),a1x]
  simp only[List.length_append,List.length_take,List.length_singleton,j];rw[Nat.min_eq_left (by omega),a0p a k m,hx,Nat.add_mul];rw[a0Q,f]at t;have e:=Nat.div_add_mod (x*2^s) 4294967296;have g:min (k+1) (a.length+1)=k+1:=by omega
  rw[Nat.mul_add,Nat.pow_succ,Nat.mul_assoc (B^k)]
  try rw[g]
  have i:B^k*(B*(x*2^s/4294967296))+B^k*(x*2^s%4294967296)=B^k*x*2^s:=by rw[<-Nat.mul_add,a0S,e,Nat.mul_assoc]
  omega
theorem a6j.done{a o:List Nat}{s:Nat}(h:a6j a o s a.length):o.length=a.length+1/\Dig o/\o.getD a.length 0<2^s/\nv o=nv a*2^s:=by
 obtain⟨c,d,f,e,b⟩:=h;rw[List.take_of_length_le (by omega),List.take_of_length_le (Nat.le_refl _)]at b;exact⟨c,d,e,b⟩
def a6k(b u2 u1 u0 v1 v0:Nat):Nat:=min ((u2*(b*b)+u1*b+u0)/(v1*b+v0)) (b - 1)
def a5x(b u2 u1 u0 v1 v0 q r:Nat):Prop:=q*v1+r=u2*b+u1/\a6k b u2 u1 u0 v1 v0<=q/\q<=b+1
theorem a5x.start{b a c u0 v1 v0:Nat}(j:b<=2*v1)(i:2<=b)(f:a<=v1)(h:c<b)(g:u0<b):a5x b a c u0 v1 v0 ((a*b+c)/v1) ((a*b+c)%v1):=by
 refine⟨by rw[Nat.mul_comm];exact Nat.div_add_mod _ _,?_,?_⟩
 ·unfold a6k
  refine Nat.le_trans (Nat.min_le_left _ _) ?_;rw[Nat.le_div_iff_mul_le (by omega)];generalize hq:(a*(b*b)+c*b+u0)/(v1*b+v0)=q;have e:q*(v1*b+v0)<=a*(b*b)+c*b+u0:=by rw[<-hq];exact Nat.div_mul_le_self _ _
  have d:q*v1*b<(a*b+c+1)*b:=by
   rw[Nat.mul_add,<-Nat.mul_assoc]at e;rw[Nat.add_mul,Nat.add_mul,Nat.mul_assoc a,Nat.one_mul];omega
  have:=Nat.lt_of_mul_lt_mul_right d;omega
 ·have:(a*b+c)/v1<b+2:=by
   rw[Nat.div_lt_iff_lt_mul (by omega)];have:a*b<=v1*b:=Nat.mul_le_mul_right _ f;rw[Nat.add_mul,Nat.mul_comm b v1];omega
  omega
theorem a5x.more{b a c u0 v1 v0 q r:Nat}(h:a5x b a c u0 v1 v0 q r)(l:2<=b)(d:b<=q\/r*b+u0<q*v0)(i:0<v1):1<=q/\a5x b a c u0 v1 v0 (q - 1) (r+v1):=by
 obtain⟨f,j,k⟩:=h;have g:a6k b a c u0 v1 v0<q:=by
  rcases d with d|d
  ·unfold a6k;omega
  ·unfold a6k
   refine Nat.lt_of_le_of_lt (Nat.min_le_left _ _) ?_;have m:0<v1*b:=Nat.mul_pos i (by omega);have e5:q*(v1*b+v0)=q*v1*b+q*v0:=by rw[Nat.mul_add,Nat.mul_assoc]
   rw[Nat.div_lt_iff_lt_mul (by omega),e5];have e:(q*v1+r)*b=(a*b+c)*b:=by rw[f]
   rw[Nat.add_mul,Nat.add_mul,Nat.mul_assoc a]at e;omega
 refine⟨by omega,?_,by omega,by omega⟩;obtain⟨p,rfl⟩:∃p,q=p+1:=⟨q - 1,by omega⟩;rw[Nat.succ_mul]at f;rw[show p+1 - 1=p from rfl];omega
theorem a5x.less{b c d u0 v1 v0 q r:Nat}(h:a5x b c d u0 v1 v0 q r)(p:2<=b)(t:b<=2*v1)(f:c<=v1)(m:d<b)(n:v0<b)(a:b<=r\/(q<b/\q*v0<=r*b+u0)):q=a6k b c d u0 v1 v0:=by
 obtain⟨k,l,o⟩:=h;have hq:q<b:=by
  rcases a with a|a
  ·by_cases hq:q<b
   ·exact hq
   ·have g:b*v1<=q*v1:=Nat.mul_le_mul_right _ (by omega)
    have j:c*b<=v1*b:=Nat.mul_le_mul_right _ f;rw[Nat.mul_comm b]at g;omega
  ·exact a.1
 have i:q*v0<=r*b+u0:=by
  rcases a with a|a
  ·have g:q*v0<=b*b:=Nat.mul_le_mul (by omega) (by omega)
   have j:b*b<=r*b:=Nat.mul_le_mul_right _ a;omega
  ·exact a.2
 refine Nat.le_antisymm ?_ l;unfold a6k;refine Nat.le_min.2 ⟨?_,by omega⟩;have s:0<v1*b:=Nat.mul_pos (by omega) (by omega);rw[Nat.le_div_iff_mul_le (by omega),Nat.mul_add,<-Nat.mul_assoc];have e:(q*v1+r)*b=(c*b+d)*b:=by rw[k]
 rw[Nat.add_mul,Nat.add_mul,Nat.mul_assoc c]at e;omega
theorem b3W{W:List Nat}{n:Nat}(i:W.length=n+3):nv W=nv (W.take n)+B^n*(W[n+2]*(B*B)+W[n+1]*B+W[n]):=by
 have e:W.take (n+3)=W:=List.take_of_length_le (by omega);have g:nv (W.take (n+1))=nv (W.take n)+B^n*W[n]:=a0p W n (by omega);have h:nv (W.take (n+2))=nv (W.take (n+1))+B^(n+1)*W[n+1]:=a0p W (n+1) (by omega);have a:nv (W.take (n+3))=nv (W.take (n+2))+B^(n+2)*W[n+2]:=a0p W (n+2) (by omega);rw[e]at a;rw[a,h,g,show B^(n+2)=B^n*B*B by rw[Nat.pow_succ,Nat.pow_succ],show B^(n+1)=B^n*B from Nat.pow_succ ..];generalize W[n]=j;generalize W[n+1]=b;generalize W[n+2]=c;generalize B^n=q;simp only[Nat.mul_add];have d:q*B*B*c=q*(c*(B*B)):=by ac_rfl
 have f:q*B*b=q*(b*B):=by ac_rfl
 rw[d,f];omega
theorem b3X{V:List Nat}{n:Nat}(f:V.length=n+2):nv V=nv (V.take n)+B^n*(V[n+1]*B+V[n]):=by
 have e:V.take (n+2)=V:=List.take_of_length_le (by omega);have d:=a0p V n (by omega);have a:=a0p V (n+1) (by omega);rw[show n+1+1=n+2 from rfl,e,Nat.pow_succ]at a;rw[a,d];generalize V[n]=g;generalize V[n+1]=b;generalize B^n=q;simp only[Nat.mul_add];have c:q*B*b=q*(b*B):=by ac_rfl
 rw[c];omega
theorem b3Y{b Q u2 u1 u0 v1 v0 lw lv W V:Nat}(hb:2<=b)(_hQ:0<Q)(eW:W=lw+Q*(u2*(b*b)+u1*b+u0))(eV:V=lv+Q*(v1*b+v0))(lW:lw<Q)(lV:lv<Q)(_d2:u2<b)(d1:u1<b)(f0:v0<b)(hn:b<=2*v1)(hlt:W<V*b):u2<=v1/\W/V<=a6k b u2 u1 u0 v1 v0/\a6k b u2 u1 u0 v1 v0<=W/V+1:=by
 have hv1:0<v1:=by omega
 have hp:0<v1*b:=Nat.mul_pos hv1 (by omega);have hVpos:0<V:=by
  have:Q*1<=Q*(v1*b+v0):=Nat.mul_le_mul_left _ (by omega);omega
 obtain⟨v2,hv2⟩:∃v2,v1*b+v0=v2:=⟨_,rfl⟩;obtain⟨u3,hu3⟩:∃u3,u2*(b*b)+u1*b+u0=u3:=⟨_,rfl⟩;have hest:a6k b u2 u1 u0 v1 v0=min (u3/v2) (b - 1):=by unfold a6k;rw[hv2,hu3]
 rw[hest];rw[hv2]at eV;rw[hu3]at eW;have hU3:u3<(v2+1)*b:=by
  have:Q*u3<Q*((v2+1)*b):=by
   have e0:Q*((v2+1)*b)=(Q*v2+Q)*b:=by rw[<-Nat.mul_assoc,Nat.mul_add Q v2 1,Nat.mul_one]
   have e1:(lv+Q*v2)*b<=(Q*v2+Q)*b:=Nat.mul_le_mul_right _ (by omega);rw[eV]at hlt;omega
  exact Nat.lt_of_mul_lt_mul_left this
 refine⟨?_,?_,?_⟩
 ·by_cases h:u2<=v1
  ·exact h
  ·have e1:(v1+1)*(b*b)<=u2*(b*b):=Nat.mul_le_mul_right _ (by omega)
   have e2:(v2+1)*b<=(v1*b+b)*b:=Nat.mul_le_mul_right _ (by omega);rw[Nat.add_mul,Nat.one_mul]at e1;have e3:(v1*b+b)*b=v1*(b*b)+b*b:=by rw[Nat.add_mul,Nat.mul_assoc]
   omega
 ·refine Nat.le_min.2 ⟨?_,?_⟩
  ·have hv2p:0<v2:=by omega
   rw[Nat.le_div_iff_mul_le hv2p];generalize hq:W/V=q;have h1:q*V<=W:=by rw[<-hq];exact Nat.div_mul_le_self _ _
   have h2:Q*(q*v2)<Q*(u3+1):=by
    have e1:q*(Q*v2)<=q*V:=Nat.mul_le_mul_left _ (by omega);rw[Nat.mul_left_comm,Nat.mul_add Q,Nat.mul_one];omega
   have:=Nat.lt_of_mul_lt_mul_left h2;omega
  ·have:W/V<b:=by rw[Nat.div_lt_iff_lt_mul hVpos,Nat.mul_comm];exact hlt
   omega
 ·generalize hx:min (u3/v2) (b - 1)=x
  have hxB:x<b:=by omega
  have hxV:x*v2<=u3:=by
   rw[<-hx];exact Nat.le_trans (Nat.mul_le_mul_right _ (Nat.min_le_left _ _)) (Nat.div_mul_le_self _ _)
  clear hx;cases x with
  |zero=>exact Nat.zero_le _
  |succ y=>
   rw[Nat.add_le_add_iff_right,Nat.le_div_iff_mul_le hVpos];have h1:(y+1)*V<=W+V:=by
    have e1:(y+1)*V=(y+1)*lv+Q*((y+1)*v2):=by rw[eV,Nat.mul_add,Nat.mul_left_comm]
    have e2:Q*((y+1)*v2)<=Q*u3:=Nat.mul_le_mul_left _ hxV;have e3:(y+1)*lv<=b*Q:=Nat.mul_le_mul (by omega) (by omega);have e4:b*Q<=Q*v2:=by
     rw[Nat.mul_comm];refine Nat.mul_le_mul_left _ ?_;have:1*b<=v1*b:=Nat.mul_le_mul_right _ (by omega);omega
    omega
   rw[Nat.succ_mul]at h1;omega
theorem b5O{W V:List Nat}{n:Nat}(e:W.length=n+3)(d:V.length=n+2)(a:Dig W)(b:Dig V)(f:B<=2*V[n+1])(c:nv W<nv V*B):W[n+2]<=V[n+1]/\nv W/nv V<=a6k B W[n+2] W[n+1] W[n] V[n+1] V[n]/\a6k B W[n+2] W[n+1] W[n] V[n+1] V[n]<=nv W/nv V+1:=
 b3Y (by rw[a0S];decide) (Nat.pow_pos a2g) (b3W e) (b3X d) (a1r a n) (a1r b n) (a.get _ _) (a.get _ _) (b.get _ _) f c
theorem a9O{u:List Nat}{s i:Nat}(k:s<32)(hi:i+1<u.length)(hd:Dig u):(nv u/2^s)%B^(i+1)=(nv u/2^s)%B^i+B^i*((u[i+1]*4294967296+u[i])/2^s%4294967296):=by
 have f:nv u=nv (u.take i)+B^i*(u[i]+B*(u[i+1]+B*nv (u.drop (i+2)))):=by
  have e:=a1y u i (by omega);rw[List.drop_eq_getElem_cons (show i<u.length by omega),List.drop_eq_getElem_cons (show i+1<u.length by omega)]at e;exact e
 obtain⟨c,h⟩:∃c,2^s*c=4294967296:=⟨2^(32 - s),by rw[<-Nat.pow_add,show s+(32 - s)=32 by omega]⟩;have j:0<2^s:=Nat.two_pow_pos _;have b:=a1r hd i;have g:0<B^i:=Nat.pow_pos a2g;have a:nv u/B^i=u[i]+B*(u[i+1]+B*nv (u.drop (i+2))):=by
  rw[f,Nat.add_mul_div_left _ _ g,Nat.div_eq_of_lt b,Nat.zero_add]
 rw[Nat.pow_succ,Nat.mod_mul,Nat.div_div_eq_div_mul,Nat.mul_comm (2^s),<-Nat.div_div_eq_div_mul,a];have e:u[i]+B*(u[i+1]+B*nv (u.drop (i+2)))=(u[i+1]*4294967296+u[i])+2^s*(B*(c*nv (u.drop (i+2)))):=by
  have d:2^s*(B*(c*nv (u.drop (i+2))))=B*(B*nv (u.drop (i+2))):=by
   rw[Nat.mul_left_comm,<-Nat.mul_assoc (2^s),h,<-a0S]
  rw[d,Nat.mul_add,a0S];omega
 rw[e,Nat.add_mul_div_left _ _ j,Nat.add_mul_mod_self_left,<-a0S]
def a3S(u o:List Nat)(s n i:Nat):Prop:=o.length=n/\Dig o/\nv (o.take i)=(nv u/2^s)%B^i
theorem a3S.start(u:List Nat)(s n:Nat):a3S u (List.replicate n 0) s n 0:=⟨by simp,Dig.zeros _,by simp[nv,Nat.mod_one]⟩
theorem a3S.step{u o:List Nat}{s n i x y:Nat}(h:a3S u o s n i)(hi:i<n)(d:s<32)(e:i+1<u.length)(hd:Dig u)(hx:u[i+1]=x)(f:u[i]=y):a3S u (o.set i ((x*4294967296+y)/2^s%4294967296)) s n (i+1):=by
 obtain⟨a,b,c⟩:=h;refine⟨by simpa using a,b.set _ _ (by rw[a0S];exact Nat.mod_lt _ (by decide)),?_⟩;rw[a0Y o i _ (by omega),a1x,c,a9O d e hd,hx,f,List.length_take,Nat.min_eq_left (by omega)]
theorem a3S.done{u o:List Nat}{s n:Nat}(h:a3S u o s n n)(a:nv u/2^s<B^n):nv o=nv u/2^s:=by
 obtain⟨c,d,b⟩:=h;rw[List.take_of_length_le (by omega),Nat.mod_eq_of_lt a]at b;exact b
def a2Z(N:Nat)(V U Q:List Nat)(k:Nat):Prop:=Dig U/\Dig Q/\nv (U.drop k)<nv V/\nv U+nv V*(B^k*nv (Q.drop k))=N
theorem a4j{U:List Nat}{j:Nat}(h:j<U.length):nv (U.drop j)=U[j]+B*nv (U.drop (j+1)):=by
 rw[List.drop_eq_getElem_cons h];rfl
theorem a2Z.win{N:Nat}{V U Q:List Nat}{j n:Nat}(h:a2Z N V U Q (j+1))(r:j+(n+1)<=U.length)(o:V.length=n)(d:Dig V):((U.drop j).take (n+1)).length=n+1/\Dig ((U.drop j).take (n+1))/\nv ((U.drop j).take (n+1))<nv V*B/\nv (U.drop (j+(n+1)))=0/\U=U.take j++(U.drop j).take (n+1)++U.drop (j+(n+1))/\nv U=nv (U.take j)+B^j*nv ((U.drop j).take (n+1))/\(U.take j).length=j:=by
 obtain⟨g,p,l,q⟩:=h;have e:=a4j (show j<U.length by omega);have hd:=g.get j (by omega);have a:=a3K d;rw[o]at a;have b:nv (U.drop j)<nv V*B:=by
  rw[e];have:B*(nv (U.drop (j+1))+1)<=B*nv V:=Nat.mul_le_mul_left _ l;rw[Nat.mul_add,Nat.mul_one]at this;rw[Nat.mul_comm (nv V)];omega
 have c:nv (U.drop j)<B^(n+1):=by
  rw[Nat.pow_succ];exact Nat.lt_of_lt_of_le b (Nat.mul_le_mul_right _ (Nat.le_of_lt a))
 have i:=a6i c;have f:=a1y (U.drop j) (n+1) (by simp;omega);rw[List.drop_drop]at f;have m:nv (U.drop (j+(n+1)))=0:=by
  by_cases k:nv (U.drop (j+(n+1)))=0
  ·exact k
  ·have:B^(n+1)*1<=B^(n+1)*nv (U.drop (j+(n+1))):=Nat.mul_le_mul_left _ (by omega)
   omega
 refine⟨by simp;omega,(g.drop j).take _,by rw[i];exact b,m,?_,?_,by simp;omega⟩
 ·rw[List.append_assoc]
  conv=>lhs;rw[<-List.take_append_drop j U]
  congr 1
  rw[<-List.drop_drop,List.take_append_drop]
 ·rw[i];exact a1y U j (by omega)
theorem a2Z.next{N:Nat}{V U Q W':List Nat}{j n:Nat}(h:a2Z N V U Q (j+1))(u:j+(n+1)<=U.length)(f:j<Q.length)(t:V.length=n)(c:Dig V)(d:Dig W')(E:W'.length=n+1)(b:nv W'=nv ((U.drop j).take (n+1))%nv V):a2Z N V (U.take j++W'++U.drop (j+(n+1))) (Q.set j (nv ((U.drop j).take (n+1))/nv V)) j/\(U.take j++W'++U.drop (j+(n+1))).length=U.length:=by
 obtain⟨F,G,v,m,H,w,z⟩:=h.win u t c;obtain⟨k,o,D,l⟩:=h;have a:0<nv V:=by omega
 have hq:nv ((U.drop j).take (n+1))/nv V<B:=by rw[Nat.div_lt_iff_lt_mul a,Nat.mul_comm];exact v
 have hdr:(U.take j++W'++U.drop (j+(n+1))).drop j=W'++U.drop (j+(n+1)):=by
  rw[List.append_assoc,List.drop_append_of_le_length (by omega),List.drop_of_length_le (by omega),List.nil_append]
 have g:nv ((U.take j++W'++U.drop (j+(n+1))).drop j)=nv W':=by rw[hdr,a2V,m];simp
 have i:nv (U.take j++W'++U.drop (j+(n+1)))=nv (U.take j)+B^j*nv W':=by
  rw[List.append_assoc,a2V,a2V,m,z];simp
 refine⟨⟨((k.take j).append d).append (k.drop _),o.set _ _ hq,?_,?_⟩,by simp;omega⟩
 ·rw[g,b];exact Nat.mod_lt _ a
 ·have s:nv ((Q.set j (nv ((U.drop j).take (n+1))/nv V)).drop j)=nv ((U.drop j).take (n+1))/nv V+B*nv (Q.drop (j+1)):=by
   rw[a4j (by simpa using f),List.getElem_set_self,List.drop_set_of_lt (by omega)]
  rw[i,s,b];rw[w]at l;rw[Nat.pow_succ]at l;have e:=Nat.div_add_mod (nv ((U.drop j).take (n+1))) (nv V);generalize nv ((U.drop j).take (n+1))/nv V=q at*;generalize nv ((U.drop j).take (n+1))%nv V=r at*;generalize nv ((U.drop j).take (n+1))=x at*;generalize nv (Q.drop (j+1))=y at*;generalize B^j=p at*;have A:nv V*(p*(q+B*y))=p*(nv V*q)+nv V*(p*B*y):=by
   rw[Nat.mul_add,Nat.mul_add,Nat.mul_left_comm (nv V) p q,Nat.mul_assoc p B y]
  have C:p*x=p*(nv V*q)+p*r:=by rw[<-e,Nat.mul_add]
  omega
theorem a2Z.done{N a b s:Nat}{V U Q:List Nat}(h:a2Z N V U Q 0)(l:N=a*2^s)(i:nv V=b*2^s):nv Q=a/b/\nv U/2^s=a%b/\nv U<nv V:=by
 obtain⟨n,o,f,d⟩:=h;simp only[List.drop_zero,Nat.pow_zero,Nat.one_mul]at f d;have j:0<2^s:=Nat.two_pow_pos s;rw[i]at f d;rw[l]at d;have e:nv U=2^s*(nv U/2^s):=by
  have p:nv U%2^s=0:=by
   have:(nv U+b*2^s*nv Q)%2^s=0:=by rw[d];exact Nat.mul_mod_left _ _
   rw[Nat.mul_right_comm,Nat.add_mul_mod_self_right]at this;exact this
  have:=Nat.div_add_mod (nv U) (2^s);omega
 have g:nv U/2^s<b:=by rw[Nat.div_lt_iff_lt_mul j];exact f
 have c:a=b*nv Q+nv U/2^s:=by
  have:a*2^s=(b*nv Q+nv U/2^s)*2^s:=by
   have k:b*nv Q*2^s=b*2^s*nv Q:=Nat.mul_right_comm _ _ _;rw[<-d,Nat.add_mul,k,Nat.mul_comm (nv U/2^s)];omega
  exact Nat.eq_of_mul_eq_mul_right j this
 have m:0<b:=Nat.lt_of_le_of_lt (Nat.zero_le _) g;refine⟨?_,?_,by rw[i];exact f⟩
 ·conv=>rhs;rw[c,Nat.mul_add_div m,Nat.div_eq_of_lt g,Nat.add_zero]
 ·conv=>rhs;rw[c,Nat.mul_add_mod,Nat.mod_eq_of_lt g]
theorem a2Z.start{a s n m:Nat}{V U:List Nat}(f:Dig U)(j:U.length=m+1+n)(p:0<n)(b:nv U=a*2^s)(g:U.getD (m+n) 0<2^s)(r:s<32)(o:V.length=n)(c:B<=2*V.getD (n - 1) 0):a2Z (a*2^s) V U (List.replicate (m+1) 0) (m+1):=by
 refine⟨f,Dig.zeros _,?_,?_⟩
 ·have k:(U.drop (m+1)).length=n:=by simp;omega
  have d:=a1y (U.drop (m+1)) (n - 1) (by omega);have e:=a1y V (n - 1) (by omega);have l:=a1r (f.drop (m+1)) (n - 1);have h:(U.drop (m+1)).drop (n - 1)= [U.getD (m+n) 0]:=by
   rw[List.drop_drop,List.drop_eq_getElem_cons (by omega),List.drop_of_length_le (by omega),a0m (by omega)]
   congr 2;omega
  have i:V.drop (n - 1)= [V.getD (n - 1) 0]:=by
   rw[List.drop_eq_getElem_cons (by omega),List.drop_of_length_le (by omega),a0m (by omega)]
  rw[h]at d;rw[i]at e;simp only[nv,Nat.mul_zero,Nat.add_zero]at d e;have q:(2:Nat)^s<=2^31:=Nat.pow_le_pow_right (by omega) (by omega);rw[a0S]at c;have:B^(n - 1)*(U.getD (m+n) 0+1)<=B^(n - 1)*V.getD (n - 1) 0:=Nat.mul_le_mul_left _ (by omega);rw[Nat.mul_add,Nat.mul_one]at this;omega
 ·rw[List.drop_of_length_le (by simp)];simpa[nv]using b
theorem a7z{x c W V W':Nat}{e:Nat}(g:0<V)(i:W/V<=x)(j:x<=W/V+1)(a:(c=0/\W'+x*V=W)\/(c=1/\W<x*V/\W'+x*V=W+e)):(c=0->x=W/V/\W'=W%V)/\(c=1->1<=x/\x - 1=W/V/\W'+V=W%V+e):=by
 have hd:=Nat.div_add_mod W V;have k:=Nat.mod_lt W g;generalize W/V=q at*;generalize W%V=r at*;refine⟨fun h=>?_,fun h=>?_⟩
 ·rcases a with⟨_,b⟩|⟨d,_⟩
  ·rcases(by omega:x=q\/x=q+1)with rfl|rfl
   ·refine⟨rfl,?_⟩;rw[Nat.mul_comm]at hd;omega
   ·rw[Nat.succ_mul,Nat.mul_comm q]at b;omega
  ·omega
 ·rcases a with⟨d,_⟩|⟨_,b,f⟩
  ·omega
  ·rcases(by omega:x=q\/x=q+1)with rfl|rfl
   ·rw[Nat.mul_comm]at hd;omega
   ·refine⟨by omega,by omega,?_⟩
    rw[Nat.succ_mul,Nat.mul_comm q]at f;omega
theorem b1N{b V:List Nat}{n t s:Nat}(p:Dig b)(q:b.length=n)(E:0<n)(y:b.getD (n - 1) 0=t)(F:s<32)(C:4294967296<=2*(t*2^s))(m:t*2^s<4294967296)(c:a0w V (nv b*2^s)):V.length=n/\B<=2*V.getD (n - 1) 0:=by
 have e:=a1y b (n - 1) (by omega);have o:=a1r p (n - 1);have j:b.drop (n - 1)= [t]:=by
  rw[List.drop_eq_getElem_cons (by omega),List.drop_of_length_le (by omega),<-y,a0m (by omega)]
 rw[j]at e;simp only[nv,Nat.mul_zero,Nat.add_zero]at e;have a:B^n=B^(n - 1)*B:=by rw[<-Nat.pow_succ];congr 1;omega
 have D:0<B^(n - 1):=Nat.pow_pos a2g;have i:2^s*2^(32 - s)=4294967296:=by rw[<-Nat.pow_add,show s+(32 - s)=32 by omega]
 have x:0<2^s:=Nat.two_pow_pos _;have f:(t+1)*2^s<=B:=by
  have:t<2^(32 - s):=by
   have:2^s*t<2^s*2^(32 - s):=by rw[i,Nat.mul_comm];exact m
   exact Nat.lt_of_mul_lt_mul_left this
  have:2^s*(t+1)<=2^s*2^(32 - s):=Nat.mul_le_mul_left _ this;rw[i,Nat.mul_comm]at this;rw[a0S];exact this
 have h:nv b*2^s=nv (b.take (n - 1))*2^s+B^(n - 1)*(t*2^s):=by rw[e,Nat.add_mul,Nat.mul_assoc]
 have g:nv b*2^s<B^n:=by
  have z:nv (b.take (n - 1))*2^s<B^(n - 1)*2^s:=Nat.mul_lt_mul_of_pos_right o x;have k:B^(n - 1)*((t+1)*2^s)<=B^(n - 1)*B:=Nat.mul_le_mul_left _ f;rw[Nat.add_mul,Nat.one_mul,Nat.mul_add]at k;rw[a,h];omega
 have w:B^(n - 1)*(t*2^s)<=nv b*2^s:=by rw[h];omega
 have u:V.length<=n:=by rw[c.len];exact a2n.2 g
 have v:¬V.length<=n - 1:=by
  rw[c.len,a2n];have:B^(n - 1)*1<=B^(n - 1)*(t*2^s):=Nat.mul_le_mul_left _ (by omega);omega
 have r:V.length=n:=by omega
 refine⟨r,?_⟩;have d:=a1y V (n - 1) (by omega);have A:=a1r c.1 (n - 1);have l:V.drop (n - 1)= [V.getD (n - 1) 0]:=by
  rw[List.drop_eq_getElem_cons (by omega),List.drop_of_length_le (by omega),a0m (by omega)]
 rw[l]at d;simp only[nv,Nat.mul_zero,Nat.add_zero]at d;rw[c.2.2]at d;have:B^(n - 1)*(t*2^s)<B^(n - 1)*(V.getD (n - 1) 0+1):=by rw[Nat.mul_add,Nat.mul_one];omega
 have:=Nat.lt_of_mul_lt_mul_left this;rw[a0S];omega
theorem b3Z{W V:List Nat}{n:Nat}(f:W.length=n+1)(e:V.length=n)(g:2<=n)(b:Dig W)(a:Dig V)(d:B<=2*V.getD (n - 1) 0)(c:nv W<nv V*B):W.getD n 0<=V.getD (n - 1) 0/\nv W/nv V<=a6k B (W.getD n 0) (W.getD (n - 1) 0) (W.getD (n - 2) 0) (V.getD (n - 1) 0) (V.getD (n - 2) 0)/\a6k B (W.getD n 0) (W.getD (n - 1) 0) (W.getD (n - 2) 0) (V.getD (n - 1) 0) (V.getD (n - 2) 0)<=nv W/nv V+1:=by
 obtain⟨p,rfl⟩:∃p,n=p+2:=⟨n - 2,by omega⟩;rw[show p+2 - 1=p+1 from rfl,show p+2 - 2=p from rfl]at*;rw[a0m (l:=V) (i:=p+1) (by omega)]at d;rw[a0m (l:=W) (i:=p+2) (by omega),a0m (l:=W) (i:=p+1) (by omega),a0m (l:=W) (i:=p) (by omega),a0m (l:=V) (i:=p+1) (by omega),a0m (l:=V) (i:=p) (by omega)];exact b5O f e b a d c
theorem b4a{b a u0 v1 v0:Nat}:a6k B b a u0 v1 v0<4294967296:=by unfold a6k;rw[a0S];omega
theorem b1O{U:List Nat}{j n i:Nat}(hi:i<=n):((U.drop j).take (n+1)).getD i 0=U.getD (j+i) 0:=by
 simp only[List.getD_eq_getElem?_getD,List.getElem?_take_of_lt (Nat.lt_succ_of_le hi),List.getElem?_drop]
theorem b1P{V o a:List Nat}{W n c:Nat}(_:Dig V)(_:V.length=n)(b:0<nv V)(g:nv o+nv V=W%nv V+B^(n+1))(h:nv a+B^(n+1)*c=nv o+nv V)(k:c<=1)(f:Dig a)(e:a.length=n+1):nv a=W%nv V:=by
 have d:=a3K f;rw[e]at d;have i:=Nat.mod_lt W b;have j:B^n<=B^(n+1):=Nat.pow_le_pow_right a2g (by omega);rcases(by omega:c=0\/c=1)with rfl|rfl
 ·omega
 ·omega
end Go.Lim
namespace Go.Proofs.YtnnpfhoigmegcaaGreat
open Go.RowKit Go.Rep Go.Lim
theorem a3a(a b:Nat)(e:a<4294967296)(f:b<4294967296):bits .or .u32 (a:Int) (b:Int)=((a|||b:Nat):Int):=by
 have hx:a|||b<2^32:=Nat.or_lt_two_pow (by omega) (by omega);have c:(BitVec.ofInt 32 (a:Int)).toNat=a:=by
  rw[BitVec.ofInt_natCast,BitVec.toNat_ofNat];exact Nat.mod_eq_of_lt (by omega)
 have d:(BitVec.ofInt 32 (b:Int)).toNat=b:=by
  rw[BitVec.ofInt_natCast,BitVec.toNat_ofNat];exact Nat.mod_eq_of_lt (by omega)
 show IntKind.u32.wrap ((BitVec.ofInt 32 (a:Int)|||BitVec.ofInt 32 (b:Int)).toNat:Int)=_
 rw[BitVec.toNat_or,c,d,IntKind.wrap_u32];omega
theorem a1T(a b:Nat)(e:a<4294967296)(f:b<4294967296):bits .xor .u32 (a:Int) (b:Int)=((a^^^b:Nat):Int):=by
 have hx:a^^^b<2^32:=Nat.xor_lt_two_pow (by omega) (by omega);have c:(BitVec.ofInt 32 (a:Int)).toNat=a:=by
  rw[BitVec.ofInt_natCast,BitVec.toNat_ofNat];exact Nat.mod_eq_of_lt (by omega)
 have d:(BitVec.ofInt 32 (b:Int)).toNat=b:=by
  rw[BitVec.ofInt_natCast,BitVec.toNat_ofNat];exact Nat.mod_eq_of_lt (by omega)
 show IntKind.u32.wrap ((BitVec.ofInt 32 (a:Int)^^^BitVec.ofInt 32 (b:Int)).toNat:Int)=_
 rw[BitVec.toNat_xor,c,d,IntKind.wrap_u32];omega
theorem a1U(a b:Nat)(e:a<4294967296)(f:b<4294967296):bits .and .u32 (a:Int) (b:Int)=((a&&&b:Nat):Int):=by
 have hx:a&&&b<2^32:=Nat.and_lt_two_pow _ (by omega);have c:(BitVec.ofInt 32 (a:Int)).toNat=a:=by
  rw[BitVec.ofInt_natCast,BitVec.toNat_ofNat];exact Nat.mod_eq_of_lt (by omega)
 have d:(BitVec.ofInt 32 (b:Int)).toNat=b:=by
  rw[BitVec.ofInt_natCast,BitVec.toNat_ofNat];exact Nat.mod_eq_of_lt (by omega)
 show IntKind.u32.wrap ((BitVec.ofInt 32 (a:Int)&&&BitVec.ofInt 32 (b:Int)).toNat:Int)=_
 rw[BitVec.toNat_and,c,d,IntKind.wrap_u32];omega
theorem a6l(n:Nat)(h:n<4294967296):n/2147483648=(n.testBit 31).toNat:=by
 rw[Nat.testBit_eq_decide_div_mod_eq,show(2:Nat)^31=2147483648 from rfl];by_cases a:n/2147483648%2=1
 ·rw[decide_eq_true a];simp;omega
 ·rw[decide_eq_false a];simp;omega
theorem a9P(n:Nat):(4294967295^^^n).testBit 31= !n.testBit 31:=by
 rw[Nat.testBit_xor,show(4294967295:Nat)=2^32 - 1 from rfl,Nat.testBit_two_pow_sub_one];cases n.testBit 31<;>rfl
theorem a9Q(x y d c:Nat)(hx:x<4294967296)(h:y<4294967296)(m:c<=1)(hd:d=a3D x y c):(((4294967295^^^x)&&&y)|||((4294967295^^^(x^^^y))&&&d))/2147483648=a4S x y c:=by
 have a:d<4294967296:=by rw[hd];unfold a3D;omega
 have k:(4294967295^^^x)&&&y<4294967296:=Nat.and_lt_two_pow (n:=32) _ h;have l:(4294967295^^^(x^^^y))&&&d<4294967296:=Nat.and_lt_two_pow (n:=32) _ a;rw[a6l _ (Nat.or_lt_two_pow (n:=32) k l),Nat.testBit_or,Nat.testBit_and,Nat.testBit_and,a9P x,a9P,Nat.testBit_xor];have i:=a6l x hx;have j:=a6l y h;have g:=a6l d a;rw[hd]at g |-;unfold a4S;unfold a3D at*;cases e:x.testBit 31<;>cases f:y.testBit 31<;>cases b:((x+4294967296 - y - c)%4294967296).testBit 31<;>simp[e,f,b]at i j g |- <;>omega
theorem a3T(x y c:Nat)(w:World)(hx:x<4294967296)(d:y<4294967296)(j:c<=1):Calls Tryz.prog 334 #[.int .u32 x, .int .u32 y, .int .u32 c] w fun e l=>w=l/\e= .returned (.tuple #[.int .u32 (a3D x y c:Nat), .int .u32 (a4S x y c:Nat)]):=by
 have i:=hid (a9Q x y (a3D x y c) c hx d j rfl);go_enter Tryz.func334,Tryz.ntmps334
 go_wp2_with fail
 go_ret2
 refine⟨rfl,?_⟩;have b:x^^^y<4294967296:=Nat.xor_lt_two_pow (n:=32) hx d;have f:∀n:Nat,n<4294967296->4294967295^^^n<4294967296:=fun n h=>Nat.xor_lt_two_pow (n:=32) (by omega) h;have k:IntKind.u32.max=((4294967295:Nat):Int):=rfl;have hd:((x:Int) - y - c)%4294967296=(a3D x y c:Nat):=by unfold a3D;omega
 have a:a3D x y c<4294967296:=by unfold a3D;omega
 rw[k,hd,a1T _ _ (by decide) hx,a1T _ _ hx d,a1T _ _ (by decide) b,a1U _ _ (f _ hx) d,a1U _ _ (f _ b) a,
  a3a _ _ (Nat.and_lt_two_pow (n:=32) _ d) (Nat.and_lt_two_pow (n:=32) _ a)]
 have g:((((4294967295^^^x)&&&y|||(4294967295^^^(x^^^y))&&&a3D x y c:Nat):Int)/2147483648)=(a4S x y c:Nat):=by rw[<-i.out];rfl
 simp[g]
def a8q(w:World)(k:IntKind)(n:Nat)(e:Ending)(w':World):Prop:=e= .returned (.int k n)/\∃m,w'=w.drewN m
theorem a6m(a b:Nat)(d:a<4294967296)(f:b<4294967296):bits BinOp.or IntKind.u64 ((a:Int)*4294967296) (b:Int)=(a:Int)*4294967296+b:=by
 have e:=bits_or_u64_nat (a*4294967296) b (by omega) (by omega);have c:=Nat.two_pow_add_eq_or_of_lt (i:=32) (b:=b) (by omega) a;rw[Nat.mul_comm]at c;rw[<-c]at e;simpa using e
theorem a9R(j i u0 v1 v0:Nat)(w:World)(C:2147483648<=v1)(s:v1<4294967296)(n:j<=v1)(m:i<4294967296)(t:u0<4294967296)(g:v0<4294967296):Calls Tryz.prog 331 #[.int .u32 j, .int .u32 i, .int .u32 u0, .int .u32 v1, .int .u32 v0] w (a8q w .u64 (a6k B j i u0 v1 v0)):=by
 have I:((v1:Int)==0)=false:=a2S (by omega);have J:((v1:Int) !=0)=true:=a9E (by omega);have o:=a6m j i (by omega) m;have a:=hid a0S;have p:Hid (a5x B j i u0 v1 v0 ((j*4294967296+i)/v1) ((j*4294967296+i)%v1)):=hid (by
  have:=a5x.start (b:=B) (u0:=u0) (v0:=v0) (by rw[a0S];omega) (by rw[a0S];omega) n (by rw[a0S];exact m) (by rw[a0S];exact t);rwa[a0S]at this |-)
 go_enter Tryz.func331,Tryz.ntmps331
 go_wp2_with fail
 go_quiet (fail)
 go_wp2_with fail
 go_loop [12,13] (fun x y=>∃(q r:Nat),x= .int .u64 q/\y= .int .u64 r/\Hid (a5x B j i u0 v1 v0 q r)) (fun x _=>(intOf x).toNat)
 case atStart=>exact⟨_,_,by rw[Int.natCast_ediv];simp,by rw[Int.natCast_emod];simp,p⟩
 case round=>
  obtain⟨q,r,rfl,rfl,d⟩:=hrel;have hq:q<=4294967297:=by have:=d.out.2.2;rw[a.out]at this;exact this
  clear o I J p;have F:(q:Int)<=4294967297:=by omega
  by_cases K:(r:Int)<4294967296
  ·have o:=a6m r u0 (by omega) t
   by_cases f:4294967296<=q
   ·obtain⟨l,c⟩:=d.out.more (by rw[a.out];omega) (.inl (by rw[a.out];exact f)) (by omega)
    have k:=hid c;have h:(4294967296:Int)<=(q:Int):=by omega
    clear c f hq;go_wp2_with fail
    go_round
    case rel=>exact⟨q - 1,r+v1,by rw[Int.natCast_sub l];rfl,rfl,k⟩
    case measure=>simp[intOf];omega
   ·have v:q*v0<=4294967295*4294967295:=Nat.mul_le_mul (by omega) (by omega)
    have H:IntKind.u64.wrap ((q:Int)*(v0:Int))=(q:Int)*(v0:Int):=IntWalk.u64_in _ (by rw[<-Int.natCast_mul];omega);have A:(0:Int)<=(q:Int)*(v0:Int):=Int.mul_nonneg (by omega) (by omega);by_cases u:r*4294967296+u0<q*v0
    ·obtain⟨l,c⟩:=d.out.more (by rw[a.out];omega) (.inr (by rw[a.out];exact u)) (by omega)
     have k:=hid c;have G:decide ((r:Int)*4294967296+(u0:Int)<(q:Int)*(v0:Int))=true:=by rw[decide_eq_true_eq,<-Int.natCast_mul];omega
     have h:(q:Int)<4294967296:=by omega
     clear c v u f hq;go_wp2_with fail
     go_round
     case rel=>exact⟨q - 1,r+v1,by rw[Int.natCast_sub l];rfl,rfl,k⟩
     case measure=>simp[intOf];omega
    ·have h:(q:Int)<4294967296:=by omega
     have e:=hid (d.out.less (by rw[a.out];omega) (by rw[a.out];omega) n (by rw[a.out];exact m) (by rw[a.out];exact g) (.inr ⟨by rw[a.out];omega,by rw[a.out];omega⟩));have G:decide ((r:Int)*4294967296+(u0:Int)<(q:Int)*(v0:Int))=false:=by rw[decide_eq_false_iff_not,<-Int.natCast_mul];omega
     have z:decide ((4294967296:Int)<=(q:Int))=false:=decide_eq_false (by omega);have E:(u0:Int)<4294967296:=by omega
     have D:(v0:Int)<4294967296:=by omega
     clear v u f hq C s n m t g;go_wp2_with fail
     go_ret
     exact⟨a0y (congrArg Nat.cast e.out),_,rfl⟩
  ·have e:=hid (d.out.less (by rw[a.out];omega) (by rw[a.out];omega) n (by rw[a.out];exact m) (by rw[a.out];exact g) (.inl (by rw[a.out];omega)))
   clear hq C s n m t g;go_wp2_with fail
   go_ret
   exact⟨a0y (congrArg Nat.cast e.out),_,rfl⟩
theorem a4T(X:Nat->Bool)(ao:Option Addr)(l:List Nat)(v s:Nat)(w:World)(M:Sl (a0c .u32) 1 (mk X w) ao l)(hd:Dig l)(T:l.length<=1099511627776)(H:s<32)(O:∀k,X k=true->k<w.heap.size):Calls Tryz.prog 330 #[.slice ao l.length v, .int .i64 s] w (fun e N=>Ext w N/\∃oo o,e= .returned (.slice oo o.length o.length)/\OL (a0c .u32) 1 X w.heap.size 110 N oo o.length o/\Hid (o.length=l.length+1/\Dig o/\o.getD l.length 0<2^s/\nv o=nv l*2^s)):=by
 have R:=M.hd;go_enter Tryz.func330,Tryz.ntmps330
 go_wp2_with (at_make;refine a1S a0F (a0c.elem .u32) 0 (fun _=>rfl) X O w.heap.size (Nat.le_refl _) (l.length+1) rfl rfl (by omega) (by omega) (by omega) ?_;intro oo V L n)
 go_loopw [15] (fun c wr=>∃(k:Nat) (o:List Nat),c= .int .i64 k/\k<=l.length/\Hid (a6j l o s k)/\Hid (o.length=l.length+1)/\OL (a0c .u32) 1 X w.heap.size 110 wr oo (l.length+1) o/\Ext w wr) (fun c _=>l.length - (intOf c).toNat)
 case atStart=>exact⟨0,_,rfl,by omega,hid (a6j.start l s),hid (by simp),L,n⟩
 case round=>
  obtain⟨k,o,rfl,S,a,d,b,i⟩:=hrel;clear L n;have P:Hd oo (l.length+1):=d.out▸b.hd;by_cases j:k<l.length
  ·have B:=(M.mono (a0c.mono _) (a0k i)).nat k j
   have f:k<o.length:=by rw[d.out];omega
   have C:=(b.sl (a0c.elem _)).nat k f;obtain⟨x,hx⟩:∃x,l[k]=x:=⟨_,rfl⟩;obtain⟨lo,g⟩:∃lo,o[k]=lo:=⟨_,rfl⟩;obtain⟨m,J,K,u⟩:=a.out.step (lo:=lo) j hx ((a0m f).trans g) hd H;have I:=hd.get k j;rw[hx,a0S]at I;rw[hx]at B;rw[g]at C;have h:=a.out.2.1.get k f;rw[g,a0S]at h;obtain⟨p,G⟩:∃p,x*2^s=p:=⟨_,rfl⟩;rw[G]at m J K u;have t:=hid m;have U:IntKind.u64.wrap ((x:Int)*2^s)=(p:Int):=by
    have e:(x:Int)*2^s=(p:Int):=by rw[<-G];simp
    rw[e];exact IntWalk.u64_in _ (by omega)
   have Q:bits BinOp.or IntKind.u32 (lo:Int) ((p:Int)%4294967296)=((lo|||p%4294967296:Nat):Int):=by
    have:=a3a lo (p%4294967296) h (Nat.mod_lt _ (by decide));simpa using this
   have E:=hid u;clear hx g a G m J K u;go_wp2_with (first|(with_reducible refine a0n a0F (by omega) (by assumption) ?_)|((with_reducible show wpList _ _ _ (⟨_, .store _ _ _,_,_,_,_⟩::_) _ _);first|(refine a0H a2U k (lo|||p%4294967296) rfl rfl b f rfl rfl ?_;intro W q y)|(refine a0H a2U (k+1) (p/4294967296) rfl rfl q (by simp;rw[d.out];omega) rfl (by have:=E.out;omega) ?_;intro Y A z)))
   have r:Hid (((o.set k (lo|||p%4294967296)).set (k+1) (p/4294967296)).length=l.length+1):=hid (by simp;exact d.out);go_roundw
   case rel=>exact⟨k+1,_,by go_num,by omega,t,r,A,(i.own b (Nat.le_refl _) y).own q (Nat.le_refl _) z⟩
   case measure=>simp[intOf];omega
  ·have F:k=l.length:=by omega
   subst F;have D:=hid a.out.done;rw[<-d.out]at b |-;go_wp2_with fail
   go_ret
   exact⟨i,_,o,rfl,b,D⟩
def b3p(X:Nat->Bool)(base g cU:Nat)(w:World)(A R:List Nat)(P:List Nat->Ending->Prop)(e:Ending)(w':World):Prop:=
 ExtX (ob (some ⟨g,0,none⟩)) w w'/\∃o:List Nat,P o e/\OL (a0c .u32) 1 X base 110 w' (some ⟨g,0,none⟩) cU (A++o++R)
theorem a9S{A o R:List Nat}{k:Nat}(h:k<o.length):(A++o++R)[A.length+k]'(by simp;omega)=o[k]:=by
 rw[List.getElem_append_left (by simp;omega),List.getElem_append_right (by omega)];simp
theorem a6n{A o R:List Nat}{k d:Nat}(h:k<o.length):(A++o++R).set (A.length+k) d=A++o.set k d++R:=by
 rw[List.append_assoc,List.set_append_right _ _ (by omega),List.append_assoc]
 congr 1
 rw[show A.length+k - A.length=k by omega,List.set_append_left _ _ h]
theorem a6o(g a k:Nat):Value.pointer (some (⟨g,a+k,none⟩:Addr))= .pointer (some (adr (some ⟨g,0,none⟩) (a+k))):=by rw[a1c,Nat.zero_add]
def b7L(W V:List Nat)(x n:Nat)(o:List Nat)(e:Ending):Prop:=∃bo:Nat,e= .returned (.bool (decide (bo=1)))/\o.length=n+1/\Dig o/\((bo=0/\nv o+x*nv V=nv W)\/(bo=1/\nv W<x*nv V/\nv o+x*nv V=nv W+B^(n+1)))
theorem a9g(X:Nat->Bool)(m g cU cw:Nat)(A W R V:List Nat)(vo:Option Addr)(cv x n:Nat)(w:World)(hU:OL (a0c .u32) 1 X m 110 w (some ⟨g,0,none⟩) cU (A++W++R))(Y:Sl (a0c .u32) 1 (mk (un X (some ⟨g,0,none⟩)) w) vo V)(hW:W.length=n+1)(hV:V.length=n)(G:Dig V)(a3:Dig W)(hx:x<4294967296)(_:A.length<=1099511627776)(hn:n<=1099511627776):Calls Tryz.prog 332 #[.slice (some ⟨g,A.length,none⟩) W.length cw, .slice vo V.length cv, .int .u64 x] w (b3p X m g cU w A R (b7L W V x n)):=by
 have b4:=Y.hd;have b5:Hd (some (⟨g,A.length,none⟩:Addr)) W.length:=fun _=>⟨_,_,rfl⟩;have a4:=hid hW;have a2:=hid hV;have P:Hid (x<B):=hid (by rw[a0S];exact hx);have b3:W.length<=1099511627777:=by omega
 have b2:V.length<=1099511627776:=by omega
 clear hW hV;go_enter Tryz.func332,Tryz.ntmps332
 go_wp2_with fail
 go_loopw [7,8,13] (fun a b c wr=>∃(k F l:Nat) (o:List Nat),a= .int .u64 F/\b= .int .u32 l/\c= .int .i64 k/\k<=W.length/\F<4294967296/\l<=1/\Hid (a3Q W V x o k F l)/\Hid (o.length=W.length)/\OL (a0c .u32) 1 X m 110 wr (some ⟨g,0,none⟩) cU (A++o++R)/\ExtX (ob (some ⟨g,0,none⟩)) w wr) (fun _ _ c _=>W.length - (intOf c).toNat)
 case atStart=>exact⟨0,0,0,W,rfl,rfl,rfl,by omega,by omega,by omega,hid (a3Q.start a3),hid rfl,hU,ExtX.refl _⟩
 case round=>
  obtain⟨k,F,l,o,rfl,rfl,rfl,hk,L,Z,f,O,r,p⟩:=hrel;clear hU;by_cases N:k<W.length
  ·have C:k<o.length:=by rw[O.out];exact N
   have u:A.length+k<(A++o++R).length:=by simp;omega
   have j:=(r.sl (a0c.elem _)).nat (A.length+k) u;rw[a9S C]at j;obtain⟨z,hz⟩:∃z,o[k]=z:=⟨_,rfl⟩;rw[hz]at j;have b0:wr.cell? ⟨g,A.length+k,none⟩=some (.int .u32 z):=by rw[a1c,Nat.zero_add]at j;exact j
   have s:=Y.unstep (a0c.mono _) p (.inl rfl);by_cases M:k<V.length
   ·have a5:=s.nat k M
    obtain⟨y,hy⟩:∃y,V[k]=y:=⟨_,rfl⟩;rw[hy]at a5;obtain⟨h,b1,Q⟩:=f.out.step (y:=y) (z:=z) N ((a0m M).trans hy) ((a0m C).trans hz) G P.out;have a9:=G.get k M;rw[hy,a0S]at a9;obtain⟨t,ht⟩:∃t,F+x*y=t:=⟨_,rfl⟩;rw[ht]at h b1;have i:=hid h;have b6:IntKind.u64.wrap ((x:Int)*(y:Int))=(x:Int)*(y:Int):=IntWalk.u64_in _ (by rw[<-Int.natCast_mul];omega);have b7:IntKind.u64.wrap ((F:Int)+(x:Int)*(y:Int))=(t:Int):=by
     rw[<-ht,Int.natCast_add,Int.natCast_mul];exact IntWalk.u64_in _ (by rw[<-Int.natCast_mul];omega)
    have a8:(t:Int)%4294967296=((t%4294967296:Nat):Int):=by omega
    have H:t%4294967296<4294967296:=Nat.mod_lt _ (by decide);obtain⟨S,I⟩:∃S,t%4294967296=S:=⟨_,rfl⟩;rw[I]at a8 H i;have E:=hid (a6n (A:=A) (R:=R) (d:=a3D z S l) C);have a0:t/4294967296<4294967296:=by omega
    have v:a4S z S l<=1:=by unfold a4S;split<;>omega
    have D:Hid ((o.set k (a3D z S l)).length=W.length):=hid (by rw[List.length_set];exact O.out);clear h hz hy f ht b1 s j I;go_wp2_with (first|(with_reducible refine a0n a0F (by omega) (by assumption) ?_)|(go_at_call 334;refine(a3T _ _ _ _ Q H Z).mono ?_;rintro e w' ⟨rfl,rfl⟩)|((with_reducible show wpList _ _ _ (⟨_, .store _ _ _,_,_,_,_⟩::_) _ _);refine a0H a2U (A.length+k) (a3D z S l) (a6o g A.length k) rfl r u rfl rfl ?_;intro w3 q K))
    rw[E.out]at q;go_roundw
    case rel=>exact⟨k+1,_,_,_,by simp,rfl,by go_num,by omega,a0,v,i,D,q,p.trans K⟩
    case measure=>simp[intOf];omega
   ·obtain⟨h,b1,Q⟩:=f.out.step (y:=0) (z:=z) N (a3q (by omega)) ((a0m C).trans hz) G P.out
    rw[Nat.mul_zero,Nat.add_zero,Nat.mod_eq_of_lt L,Nat.div_eq_of_lt L]at h;have i:=hid h;have E:=hid (a6n (A:=A) (R:=R) (d:=a3D z F l) C);have v:a4S z F l<=1:=by unfold a4S;split<;>omega
    have D:Hid ((o.set k (a3D z F l)).length=W.length):=hid (by rw[List.length_set];exact O.out);clear h hz f b1 s j;go_wp2_with (first|(with_reducible refine a0n a0F (by omega) (by assumption) ?_)|(go_at_call 334;refine(a3T _ _ _ _ Q L Z).mono ?_;rintro e w' ⟨rfl,rfl⟩)|((with_reducible show wpList _ _ _ (⟨_, .store _ _ _,_,_,_,_⟩::_) _ _);refine a0H a2U (A.length+k) (a3D z F l) (a6o g A.length k) rfl r u rfl rfl ?_;intro w3 q K))
    rw[E.out]at q;go_roundw
    case rel=>exact⟨k+1,0,_,_,congrArg (Value.int .u64) (Int.ediv_eq_zero_of_lt (by omega) (by omega)),rfl,by go_num,by omega,by omega,v,i,D,q,p.trans K⟩
    case measure=>simp[intOf];omega
  ·have a7:k=W.length:=by omega
   subst a7;have a6:=f.out.done a4.out a2.out G P.out;clear f;obtain⟨d1,d2,d3⟩:=a6;have T:=hid d1;have a1:=hid d3;clear d1;clear a1;rcases d3 with⟨rfl,U⟩|⟨rfl,U⟩
   ·have J:=hid U
    clear U;go_wp2_with fail
    go_ret
    exact⟨p,o,⟨0,rfl,T.out,d2, .inl ⟨rfl,J.out⟩⟩,r⟩
   ·have J:=hid U
    clear U;go_wp2_with fail
    go_ret
    exact⟨p,o,⟨1,rfl,T.out,d2, .inr ⟨rfl,J.out⟩⟩,r⟩
def b7M(W V:List Nat)(n:Nat)(o:List Nat)(e:Ending):Prop:=∃c:Nat,e= .returned (.tuple #[])/\o.length=n+1/\Dig o/\c<=1/\nv o+B^(n+1)*c=nv W+nv V
theorem a7A(X:Nat->Bool)(i g L cw:Nat)(A W R V:List Nat)(vo:Option Addr)(cv n:Nat)(w:World)(T:OL (a0c .u32) 1 X i 110 w (some ⟨g,0,none⟩) L (A++W++R))(H:Sl (a0c .u32) 1 (mk (un X (some ⟨g,0,none⟩)) w) vo V)(Y:W.length=n+1)(U:V.length=n)(C:Dig V)(N:Dig W)(_:A.length<=1099511627776)(hn:n<=1099511627776):Calls Tryz.prog 333 #[.slice (some ⟨g,A.length,none⟩) W.length cw, .slice vo V.length cv] w (b3p X i g L w A R (b7M W V n)):=by
 have a2:=H.hd;have a3:Hd (some (⟨g,A.length,none⟩:Addr)) W.length:=fun _=>⟨_,_,rfl⟩;have O:=hid Y;have M:=hid U;have a1:W.length<=1099511627777:=by omega
 have a0:V.length<=1099511627776:=by omega
 clear Y U;go_enter Tryz.func333,Tryz.ntmps333
 go_wp2_with fail
 go_loopw [4,9] (fun a c wr=>∃(k f:Nat) (o:List Nat),a= .int .u32 f/\c= .int .i64 k/\k<=W.length/\f<=1/\Hid (a3R W V o k f)/\Hid (o.length=W.length)/\OL (a0c .u32) 1 X i 110 wr (some ⟨g,0,none⟩) L (A++o++R)/\ExtX (ob (some ⟨g,0,none⟩)) w wr) (fun _ c _=>W.length - (intOf c).toNat)
 case atStart=>exact⟨0,0,W,rfl,rfl,by omega,by omega,hid (a3R.start N),hid rfl,T,ExtX.refl _⟩
 case round=>
  obtain⟨k,f,o,rfl,rfl,hk,I,b,F,x,v⟩:=hrel;clear T;by_cases E:k<W.length
  ·have q:k<o.length:=by rw[F.out];exact E
   have m:A.length+k<(A++o++R).length:=by simp;omega
   have h:=(x.sl (a0c.elem _)).nat (A.length+k) m;rw[a9S q]at h;obtain⟨z,hz⟩:∃z,o[k]=z:=⟨_,rfl⟩;rw[hz]at h;have Z:wr.cell? ⟨g,A.length+k,none⟩=some (.int .u32 z):=by rw[a1c,Nat.zero_add]at h;exact h
   have l:=H.unstep (a0c.mono _) v (.inl rfl);by_cases D:k<V.length
   ·have P:=l.nat k D
    obtain⟨y,K⟩:∃y,V[k]=y:=⟨_,rfl⟩;rw[K]at P;obtain⟨t,G⟩:=b.out.step (y:=y) (z:=z) E ((a0m D).trans K) ((a0m q).trans hz) C;have J:=C.get k D;rw[K,a0S]at J;have u:=hid t;have s:=hid (a6n (A:=A) (R:=R) (d:=(z+y+f)%4294967296) q);have p:(z+y+f)/4294967296<=1:=by omega
    have r:Hid ((o.set k ((z+y+f)%4294967296)).length=W.length):=hid (by rw[List.length_set];exact F.out);clear t hz K b l h;go_wp2_with (first|(with_reducible refine a0n a0F (by omega) (by assumption) ?_)|(go_at_call 242;refine(a3N _ _ _ _ G J I).mono ?_;rintro e w' ⟨rfl,rfl⟩)|((with_reducible show wpList _ _ _ (⟨_, .store _ _ _,_,_,_,_⟩::_) _ _);refine a0H a2U (A.length+k) ((z+y+f)%4294967296) (a6o g A.length k) rfl x m rfl rfl ?_;intro w3 j B))
    rw[s.out]at j;go_roundw
    case rel=>exact⟨k+1,_,_,rfl,by go_num,by omega,p,u,r,j,v.trans B⟩
    case measure=>simp[intOf];omega
   ·obtain⟨t,G⟩:=b.out.step (y:=0) (z:=z) E (a3q (by omega)) ((a0m q).trans hz) C
    have u:=hid t;have s:=hid (a6n (A:=A) (R:=R) (d:=(z+0+f)%4294967296) q);have p:(z+0+f)/4294967296<=1:=by omega
    have r:Hid ((o.set k ((z+0+f)%4294967296)).length=W.length):=hid (by rw[List.length_set];exact F.out);clear t hz b l h;go_wp2_with (first|(with_reducible refine a0n a0F (by omega) (by assumption) ?_)|(go_at_call 242;refine(a3N _ 0 _ _ G (by omega) I).mono ?_;rintro e w' ⟨rfl,rfl⟩)|((with_reducible show wpList _ _ _ (⟨_, .store _ _ _,_,_,_,_⟩::_) _ _);refine a0H a2U (A.length+k) ((z+0+f)%4294967296) (a6o g A.length k) rfl x m rfl rfl ?_;intro w3 j B))
    rw[s.out]at j;go_roundw
    case rel=>exact⟨k+1,_,_,rfl,by go_num,by omega,p,u,r,j,v.trans B⟩
    case measure=>simp[intOf];omega
  ·have S:k=W.length:=by omega
   subst S;have Q:=hid (b.out.done O.out M.out);go_wp2_with fail
   exact bodyPost_end (results_none rfl _ _ _) rfl ⟨v,o,⟨f,rfl,Q.out⟩,x⟩
def b5P(X:Nat->Bool)(w:World)(na nb:Nat)(e:Ending)(w':World):Prop:=
 Ext w w'/\∃ao cap l,e= .returned (.tuple #[.slice ao l.length cap, .bool (decide (nb<=na))])/\l.length<=cap/\a0w l (na - nb)/\Sl (a0c .u32) 1 (mk X w') ao l
theorem b4b(X:Nat->Bool)(ao bo:Option Addr)(G H:List Nat)(ca cb:Nat)(w:World)(V:Sl (a0c .u32) 1 (mk X w) ao G)(Y:Sl (a0c .u32) 1 (mk X w) bo H)(p:Dig G)(q:Dig H)(R:G.length<=1099511627776)(S:H.length<=1099511627776)(z:G.length<=ca)(A:H.length<=cb)(hX:∀k,X k=true->k<w.heap.size)(u nb:Nat)(T:val G=u)(U:val H=nb):Calls Tryz.prog 307 #[.slice ao G.length ca, .slice bo H.length cb] w (b5P X w u nb):=by
 go_enter Tryz.func307,Tryz.ntmps307
 go_wp2_with fail
 refine(a0T X _ _ _ _ V p (by omega) z).mono ?_;rintro e w' ⟨rfl,b2,b4,a,rfl,O,K,d,l⟩;go_wp2_with fail
 refine(a0T X _ _ _ _ Y q (by omega) A).mono ?_;rintro e w' ⟨rfl,b3,b5,b,rfl,P,M,f,m⟩;rw[T]at d;rw[U]at f;have L:a.length<=1099511627776:=Nat.le_trans K R;have N:b.length<=1099511627776:=Nat.le_trans M S;have a1:=hid d.val;have a2:=hid f.val;clear T U K M V Y R S z A p q;go_wp2_with fail
 refine(a2F X _ _ _ _ _ _ _ l m d.1 f.1 L N O P u nb a1.out a2.out).mono ?_;rintro e w1 ⟨s,rfl⟩;by_cases j:u<nb
 ·have hc:a2v u nb<0:=(a2W _ _).2 j
  have hd:Hid (decide (nb<=u)=false):=hid (decide_eq_false (by omega));have hz:Hid (u - nb=0):=hid (by omega);clear j;go_wp2_with fail
  go_ret2
  exact⟨s,none,0,[],by rw[hd.out];rfl,by simp,by rw[hz.out];exact a0w.nil,Sl.nil _ _ _ _⟩
 ·have hc:¬a2v u nb<0:=fun h=>j ((a2W _ _).1 h)
  have hd:Hid (decide (nb<=u)=true):=hid (decide_eq_true (by omega));have a4:b.length<=a.length:=by rw[d.len,f.len];exact a0P (by omega)
  have a8:Hid (nv b<=nv a):=hid (by rw[d.2.2,f.2.2];omega);have a0:Hid (nv a - nv b=u - nb):=hid (by rw[d.2.2,f.2.2]);have a3:∀k,X k=true->k<w1.heap.size:=fun k hk=>Nat.lt_of_lt_of_le (hX k hk) s.size;have W:=l.mono (a0c.mono _) (a0k s);have Z:=m.mono (a0c.mono _) (a0k s);have p:=d.1;have q:=f.1;have b6:=l.hd;have b7:=m.hd;clear j d f a1 a2 l m;go_wp2_with (at_make;refine a1S a0F (a0c.elem .u32) 0 (fun _=>rfl) X a3 w1.heap.size (Nat.le_refl _) a.length rfl rfl (by omega) (by omega) (by omega) ?_;intro oo w2 hO J)
  go_loopw [7,24] (fun c i wr=>∃(k:Nat) (o:List Nat) (I:Nat),i= .int .i64 k/\c= .int .u32 I/\k<=a.length/\a3P a b o k I/\OL (a0c .u32) 1 X w1.heap.size 110 wr oo a.length o/\Ext w1 wr) (fun _ i _=>a.length - (intOf i).toNat)
  case atStart=>exact⟨0,_,0,rfl,rfl,by omega,a3P.start a b,hO,J⟩
  case round=>
   obtain⟨k,o,I,rfl,rfl,hk,g,n,t⟩:=hrel;clear hO J;have Q:=g.2.2.1;have r:=hid g.1;have b8:Hd oo a.length:=r.out▸n.hd;by_cases j:k<a.length
   ·have z:=(W.mono (a0c.mono _) (a0k t)).nat k j
    have v:=p.get k j;obtain⟨x,hx⟩:∃x,a[k]=x:=⟨_,rfl⟩;rw[hx]at z v;rw[a0S]at v;by_cases E:k<b.length
    ·have A:=(Z.mono (a0c.mono _) (a0k t)).nat k E
     have D:=q.get k E;obtain⟨y,hy⟩:∃y,b[k]=y:=⟨_,rfl⟩;rw[hy]at A D;rw[a0S]at D;have F:=g.step (y:=y) j hx ((a0m E).trans hy) p q;clear hx hy;go_wp2_with (first|(with_reducible refine a0n a0F (by omega) (by assumption) ?_)|(go_at_call 334;refine(a3T _ _ _ _ v D Q).mono ?_;rintro e w' ⟨rfl,rfl⟩)|((with_reducible show wpList _ _ _ (⟨_, .store _ _ _,_,_,_,_⟩::_) _ _);refine a0H a2U k (a3D x y I) rfl (by omega) n (by rw[r.out];omega) rfl rfl ?_;intro w3 C B))
     go_roundw
     case rel=>exact⟨k+1,_,_,by go_num,rfl,by omega,F,C,t.own n (Nat.le_refl _) B⟩
     case measure=>simp[intOf];omega
    ·have F:=g.step j hx (a3q (by omega)) p q
     clear hx;go_wp2_with (first|(with_reducible refine a0n a0F (by omega) (by assumption) ?_)|(go_at_call 334;refine(a3T _ 0 _ _ v (by omega) Q).mono ?_;rintro e w' ⟨rfl,rfl⟩)|((with_reducible show wpList _ _ _ (⟨_, .store _ _ _,_,_,_,_⟩::_) _ _);refine a0H a2U k (a3D x 0 I) rfl (by omega) n (by rw[r.out];omega) rfl rfl ?_;intro w3 C B))
     go_roundw
     case rel=>exact⟨k+1,_,_,by go_num,rfl,by omega,F,C,t.own n (Nat.le_refl _) B⟩
     case measure=>simp[intOf];omega
   ·have a6:k=a.length:=by omega
    subst a6;have a5:=hid (g.done a4 a8.out);have a9:=g.2.1;have b1:=n.sl (a0c.elem .u32);go_wp2_with fail
    rw[<-r.out];refine(a1p X _ _ _ _ b1 a9 (by rw[r.out];omega) (by rw[r.out];exact Nat.le_refl _)).mono ?_;rintro e w' ⟨rfl,l',rfl,a7,hc,b0⟩;go_wp2_with fail
    go_ret2
    rw[a5.out,a0.out]at hc;exact⟨s.trans t,_,o.length,l',by rw[hd.out];rfl,a7,hc,b0⟩
end Go.Proofs.YtnnpfhoigmegcaaGreat
