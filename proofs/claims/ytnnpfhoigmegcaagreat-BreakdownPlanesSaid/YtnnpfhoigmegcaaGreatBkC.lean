/- Parts of a proof: each theorem states what it proves, and its conditions. -/
import Derived.Test.YtnnpfhoigmegcaaGreatBkB
import Derived.Deep.QuietTactic
import Derived.BigQuiet
import Derived.Laws.Bits64b
set_option maxRecDepth 100000
set_option maxHeartbeats 400000
namespace Go.Proofs.YtnnpfhoigmegcaaGreat
open Go.RowKit Go.Rep Go.Lim
theorem a1O(X:Nat->Bool)(ao:Option Addr)(l:List Nat)(a:Nat)(w:World)(c:Sl (a0b .u32) 1 (mk X w) ao l)(g:l.length<=4398046511104):Calls Tryz.prog 297 #[.slice ao l.length a] w fun e i=>w=i/\e= .returned (.bool (a1l l)):=by
 have f:=c.hd;by_cases d:l.length=0
 ·have b:l= []:=List.eq_nil_of_length_eq_zero d
  subst b;clear c f g d;simp only[List.length_nil];go_enter Tryz.func297,Tryz.ntmps297
  go_wp2_with fail
  go_ret
  exact⟨rfl,rfl⟩
 ·have j:=c.nat (l.length - 1) (by omega)
  have h:=hid (a2V (l:=l) (by omega));have hz:((l.length:Int)==0)=false:=a2v (by omega);go_enter Tryz.func297,Tryz.ntmps297
  go_wp2_with (with_reducible refine a0m a0M (by omega) (by assumption) ?_)
  go_ret
  exact⟨rfl,a0p (by rw[h.out];exact a7N _)⟩
def a3T(X:Nat->Bool)(w:World)(n:Nat)(e:Ending)(w':World):Prop:=
 Ext w w'/\∃ao cap l,e= .returned (.slice ao l.length cap)/\l.length<=cap/\a0F l n/\Sl (a0b .u32) 1 (mk X w') ao l
def b1i(X:Nat->Bool)(w:World)(ao:Option Addr)(l:List Nat)(cap:Nat)(e:Ending)(w':World):Prop:=
 w=w'/\∃l',e= .returned (.slice ao l'.length cap)/\l'.length<=l.length/\a0F l' (nv l)/\Sl (a0b .u32) 1 (mk X w) ao l'
def b7f(X:Nat->Bool)(w:World)(l:List Nat)(e:Ending)(w':World):Prop:=
 w=w'/\∃ao cap l',e= .returned (.slice ao l'.length cap)/\l'.length<=cap/\l'.length<=l.length/\a0F l' (val l)/\Sl (a0b .u32) 1 (mk X w) ao l'
theorem a1v(X:Nat->Bool)(ao:Option Addr)(l:List Nat)(a:Nat)(w:World)(d:Sl (a0b .u32) 1 (mk X w) ao l)(hd:Dig l)(o:l.length<=4398046511104)(h:l.length<=a):Calls Tryz.prog 243 #[.slice ao l.length a] w (b1i X w ao l a):=by
 have m:=d.hd;go_enter Tryz.func243,Tryz.ntmps243
 go_wp2_with fail
 go_loop [3] (fun n=>∃k:Nat,n= .int .i64 k/\Cut l k) (fun n=>(intOf n).toNat)
 case atStart=>exact⟨_,rfl,Cut.all l⟩
 case round=>
  obtain⟨k,rfl,c⟩:=hrel;have j:=c.1;by_cases f:0<k
  ·have i:=d.nat (k - 1) (by omega)
   by_cases hz:l[k - 1]=0
   ·have e:=c.less f hz
    have g:=hid hz;rw[hz]at i;clear hz;go_wp2_with (with_reducible refine a0m a0M (by omega) (by assumption) ?_)
    go_round
    case rel=>exact⟨k - 1,by go_num,e⟩
    case measure=>simp[intOf];omega
   ·have b:=c.canon hd (.inr ⟨by omega,hz⟩)
    have g:((l[k - 1]:Int)==0)=false:=a2v (by omega);go_wp2_with (with_reducible refine a0m a0M (by omega) (by assumption) ?_)
    go_ret
    exact⟨rfl,l.take k,a3w (by simp;omega),by simp;omega,b,d.take k⟩
  ·have b:=c.canon hd (.inl (by omega))
   go_wp2_with fail
   go_ret
   exact⟨rfl,l.take k,a3w (by simp;omega),by simp;omega,b,d.take k⟩
theorem a1e(X:Nat->Bool)(ao:Option Addr)(l:List Nat)(a:Nat)(w:World)(d:Sl (a0b .u32) 1 (mk X w) ao l)(hd:Dig l)(h:l.length<=4398046511104)(b:l.length<=a):Calls Tryz.prog 241 #[.slice ao l.length a] w (b7f X w l):=by
 cases c:a1l l
 ·have f:=hid c
  go_enter Tryz.func241,Tryz.ntmps241
  go_wp2_with (go_at_call 297;refine(a1O X _ _ _ _ d h).mono ?_;rintro e i ⟨rfl,rfl⟩)
  go_ret
  have:vl l= []:=by unfold vl;rw[c];rfl
  exact⟨rfl,none,0,[],rfl,by simp,by simp,this▸a4p hd,Sl.nil _ _ _ _⟩
 ·have f:=hid c
  go_enter Tryz.func241,Tryz.ntmps241
  go_wp2_with (go_at_call 297;refine(a1O X _ _ _ _ d h).mono ?_;rintro e i ⟨rfl,rfl⟩)
  go_ret
  have:vl l=l:=by unfold vl;rw[c];rfl
  have g:=a4p hd;rw[this]at g;exact⟨rfl,ao,a,l,rfl,b,Nat.le_refl _,g,d⟩
theorem a3y(X:Nat->Bool)(n:Nat)(w:World)(hn:n<18446744073709551616)(hX:∀k,X k=true->k<w.heap.size):Calls Tryz.prog 244 #[.int .u64 n] w (a3T X w n):=by
 have hO:OL (a0b .u32) 1 X w.heap.size 110 (w.alloc (.cells #[.int .u32 ((n:Int)%4294967296), .int .u32 ((n:Int)/4294967296)] 110)) (some ⟨w.heap.size,0,none⟩) 2 [n%4294967296,n/4294967296]:=
  OL.lit (a0b.elem .u32) hX (Nat.le_refl _) [.int .u32 ((n%4294967296:Nat):Int), .int .u32 ((n/4294967296:Nat):Int)] [n%4294967296,n/4294967296] _ (by simp[a0g,Value.cells]) rfl
   (fun i hi _=>by
            match i,hi with
            |0,_=>rfl
            |1,_=>rfl) (by simp)
 go_enter Tryz.func244,Tryz.ntmps244
 go_wp2_with fail
 refine(a1v X _ [n%4294967296,n/4294967296] _ _ (hO.sl (a0b.elem .u32)) (Dig.cons (by rw[a1b];exact Nat.mod_lt _ (by decide)) (Dig.cons (by rw[a1b];omega) Dig.nil)) (by simp) (by simp)).mono ?_;rintro e w' ⟨rfl,l',rfl,hl',hc,hs'⟩;go_wp2_with fail
 go_ret
 have hv:nv [n%4294967296,n/4294967296]=n:=by simp only[nv,a1b];omega
 rw[hv]at hc;exact⟨(ExtX.refl w).alloc _,_,2,_,rfl,by simpa using hl',hc,hs'⟩
theorem a4u(x y c:Nat)(w:World)(hx:x<4294967296)(d:y<4294967296)(b:c<=1):Calls Tryz.prog 242 #[.int .u32 x, .int .u32 y, .int .u32 c] w fun e a=>w=a/\e= .returned (.tuple #[.int .u32 ((x+y+c)%4294967296:Nat), .int .u32 ((x+y+c)/4294967296:Nat)]):=by
 go_enter Tryz.func242,Tryz.ntmps242
 go_wp2
 go_ret2
 exact⟨rfl,by simp⟩
theorem b5B(X:Nat->Bool)(ao B:Option Addr)(J K:List Nat)(L M:Nat)(w:World)(r:Sl (a0b .u32) 1 (mk X w) ao J)(t:Sl (a0b .u32) 1 (mk X w) B K)(j:Dig J)(l:Dig K)(U:J.length<=1099511627776)(V:K.length<=1099511627776)(E:J.length<=L)(F:K.length<=M)(hX:∀k,X k=true->k<w.heap.size)(na nb:Nat)(W:val J=na)(Y:val K=nb):Calls Tryz.prog 166 #[.slice ao J.length L, .slice B K.length M] w (a3T X w (na+nb)):=by
 go_enter Tryz.func166,Tryz.ntmps166
 go_wp2_with fail
 refine(a1e X _ _ _ _ r j (by omega) E).mono ?_;rintro e w' ⟨rfl,a0,a2,a,rfl,R,D,d,s⟩;go_wp2_with fail
 refine(a1e X _ _ _ _ t l (by omega) F).mono ?_;rintro e w' ⟨rfl,a1,a3,b,rfl,S,Q,f,u⟩;rw[W]at d;rw[Y]at f;have x:a.length<=1099511627776:=Nat.le_trans D U;have z:b.length<=1099511627776:=Nat.le_trans Q V;clear W Y D Q r t U V E F
 go_upto_if 18 with(fail)
 go_cut [0,1] (fun s0 s1 wx=>wx=w/\∃ao B a b L M,s0= .slice ao a.length L/\s1= .slice B b.length M/\b.length<=a.length/\a.length<=1099511627776/\Sl (a0b .u32) 1 (mk X w) ao a/\Sl (a0b .u32) 1 (mk X w) B b/\Dig a/\Dig b/\Hid (nv a+nv b=na+nb))
 case first=>
  go_wp2_with fail
  all_goals go_meet
  all_goals case rel=>first|exact⟨rfl,_,_,_,_,_,_,rfl,rfl,by omega,z,u,s,f.1,d.1,hid (by rw[d.2.2,f.2.2,Nat.add_comm])⟩|exact⟨rfl,_,_,_,_,_,_,rfl,rfl,by omega,x,s,u,d.1,f.1,hid (by rw[d.2.2,f.2.2])⟩
 case rest=>
  clear R d s S f u x z j l;clear a b a0 a1 a2 a3 ao B J K L M;obtain⟨rfl,ao,B,a,b,L,M,rfl,rfl,a5,D,r,t,j,l,Z⟩:=hcut;have b3:=r.hd;have b4:=t.hd;go_wp2_with (at_make;refine a1G a0M (a0b.elem .u32) 0 (fun _=>rfl) X hX wc.heap.size (Nat.le_refl _) (a.length+1) rfl rfl (by omega) (by omega) (by omega) ?_;intro oo w1 hO O)
  go_loopw [6,27] (fun c i wr=>∃(k:Nat) (o:List Nat) (N:Nat),i= .int .i64 k/\c= .int .u32 N/\k<=a.length/\a4q a b o k N/\OL (a0b .u32) 1 X wc.heap.size 110 wr oo (a.length+1) o/\Ext wc wr) (fun _ i _=>a.length - (intOf i).toNat)
  case atStart=>exact⟨0,_,0,rfl,rfl,by omega,a4q.start a b,hO,O⟩
  case round=>
   obtain⟨k,o,N,rfl,rfl,hk,g,h,n⟩:=hrel;clear hO O;have T:=g.2.2.1;have q:=hid g.1;have b5:Hd oo (a.length+1):=q.out▸h.hd;by_cases v:k<a.length
   ·have E:=(r.mono (a0b.mono _) (a0l n)).nat k v
    have C:=j.get k v;rw[a1b]at C;by_cases H:k<b.length
    ·have F:=(t.mono (a0b.mono _) (a0l n)).nat k H
     have P:=l.get k H;rw[a1b]at P;have I:=g.step v (.inl ⟨H,rfl⟩) j l;go_wp2_with (first|(with_reducible refine a0m a0M (by omega) (by assumption) ?_)|(go_at_call 242;refine(a4u _ _ _ _ C P T).mono ?_;rintro e w' ⟨rfl,rfl⟩)|((with_reducible show wpList _ _ _ (⟨_, .store _ _ _,_,_,_,_⟩::_) _ _);refine a1t a3x (a0b.elem .u32) k rfl (Nat.mul_one k).symm h (by rw[q.out];omega) _ ((a[k]+b[k]+N)%4294967296) rfl rfl ?_;intro w2 p m))
     go_roundw
     case rel=>exact⟨k+1,_,_,by go_num,rfl,by omega,I,p,n.own h (Nat.le_refl _) m⟩
     case measure=>simp[intOf];omega
    ·have I:=g.step (y:=0) v (.inr ⟨by omega,rfl⟩) j l
     go_wp2_with (first|(with_reducible refine a0m a0M (by omega) (by assumption) ?_)|(go_at_call 242;refine(a4u _ 0 _ _ C (by omega) T).mono ?_;rintro e w' ⟨rfl,rfl⟩)|((with_reducible show wpList _ _ _ (⟨_, .store _ _ _,_,_,_,_⟩::_) _ _);refine a1t a3x (a0b.elem .u32) k rfl (Nat.mul_one k).symm h (by rw[q.out];omega) _ ((a[k]+0+N)%4294967296) rfl rfl ?_;intro w2 p m))
     go_roundw
     case rel=>exact⟨k+1,_,_,by go_num,rfl,by omega,I,p,n.own h (Nat.le_refl _) m⟩
     case measure=>simp[intOf];omega
   ·have a9:k=a.length:=by omega
    subst a9;have a8:=g.done a5;go_wp2_with (first|(with_reducible refine a0m a0M (by omega) (by assumption) ?_)|((with_reducible show wpList _ _ _ (⟨_, .store _ _ _,_,_,_,_⟩::_) _ _);refine a1t a3x (a0b.elem .u32) a.length rfl (Nat.mul_one _).symm h (by rw[q.out];omega) _ N rfl rfl ?_;intro w2 p m))
    obtain⟨a6,a7,G⟩:=a8;have A:=hid G;have b2:=p.sl (a0b.elem .u32);have a4:=n.own h (Nat.le_refl _) m;rw[<-G];clear G;refine(a1v X _ _ _ _ b2 a6 (by rw[A.out];omega) (by rw[A.out];omega)).mono ?_;rintro e w' ⟨rfl,l',rfl,b0,hc,b1⟩;go_wp2_with fail
    go_ret
    rw[a7,Z.out]at hc;exact⟨a4,_,_,_,rfl,by have h1:=q.out;have h2:=b0;(try simp only[List.length_set]at h2);omega,hc,b1⟩
def a2y(w:World)(v:Int)(e:Ending)(w':World):Prop:=Ext w w'/\e= .returned (.int .i64 v)
theorem a3a(X:Nat->Bool)(ao M:Option Addr)(q r:List Nat)(N O:Nat)(w:World)(F:Sl (a0b .u32) 1 (mk X w) ao q)(G:Sl (a0b .u32) 1 (mk X w) M r)(H:Dig q)(I:Dig r)(A:q.length<=1099511627776)(B:r.length<=1099511627776)(v:q.length<=N)(x:r.length<=O)(T nb:Nat)(C:val q=T)(D:val r=nb):Calls Tryz.prog 168 #[.slice ao q.length N, .slice M r.length O] w (a2y w (a2D T nb)):=by
 go_enter Tryz.func168,Tryz.ntmps168
 go_wp2_with fail
 refine(a1e X _ _ _ _ F H (by omega) v).mono ?_;rintro e Z ⟨rfl,m,s,a,rfl,R,u,c,j⟩;go_wp2_with fail
 refine(a1e X _ _ _ _ G I (by omega) x).mono ?_;rintro e Z ⟨rfl,n,t,b,rfl,S,g,d,l⟩;rw[C]at c;rw[D]at d;have P:a.length<=1099511627776:=Nat.le_trans u A;have Q:b.length<=1099511627776:=Nat.le_trans g B;clear C D u g F G A B v x;have J:=j.hd;have K:=l.hd;by_cases f:a.length<b.length
 ·have h:=hid (a3R c d f)
  have E:((a.length:Int) !=b.length)=true:=a7B (by omega);go_wp2_with fail
  go_ret
  exact⟨ExtX.refl _,a0I h.out.symm⟩
 by_cases z:b.length<a.length
 ·have h:=hid (a3S c d z)
  have E:((a.length:Int) !=b.length)=true:=a7B (by omega);go_wp2_with fail
  go_ret
  exact⟨ExtX.refl _,a0I h.out.symm⟩
 have E:((a.length:Int) !=b.length)=false:=b2N (by omega);have o:Hid (a.length=b.length):=hid (by omega);have g:b.length<=a.length:=by omega
 have Y:a.length<=b.length:=by omega
 clear f z;go_wp2_with fail
 go_loopw [5] (fun i wr=>∃k:Nat,i= .int .i64 ((k:Int) - 1)/\k<=a.length/\Hid (a.drop k=b.drop k)/\Ext w wr) (fun i _=>(intOf i+1).toNat)
 case atStart=>exact⟨a.length,rfl,Nat.le_refl _,hid (by rw[List.drop_of_length_le (Nat.le_refl _),List.drop_of_length_le g]),ExtX.refl _⟩
 case round=>
  obtain⟨k,rfl,L,hdr,p⟩:=hrel;by_cases f:0<k
  ·have c1:=(j.mono (a0b.mono _) (a0l p)).nat (k - 1) (by omega)
   have c2:=(l.mono (a0b.mono _) (a0l p)).nat (k - 1) (by omega);have i1:∀W,(Instr.indexAt 37 (.slice m a.length s) (.int .i64 ((k:Int) - 1))).run Tryz.prog W= .ok (.pointer (some (adr m (k - 1)))) W:=a0E a0M m a.length s .i64 (k - 1) J (by omega) (by omega);have i2:∀W,(Instr.indexAt 37 (.slice n b.length t) (.int .i64 ((k:Int) - 1))).run Tryz.prog W= .ok (.pointer (some (adr n (k - 1)))) W:=a0E a0M n b.length t .i64 (k - 1) K (by omega) (by omega);by_cases U:a[k - 1]<b[k - 1]
   ·have h:=hid (a6w c d o.out f L hdr.out U)
    have t1:((a[k - 1]:Int)<(b[k - 1]:Int)):=by omega
    go_wp2_with fail
    go_quiet (fail)
    go_wp2_with fail
    go_ret
    exact⟨p.drewN _,a0I h.out.symm⟩
   by_cases V:b[k - 1]<a[k - 1]
   ·have h:=hid (a6x c d o.out f L hdr.out V)
    go_wp2_with fail
    go_quiet (fail)
    go_wp2_with fail
    go_quiet (fail)
    go_wp2_with fail
    go_ret
    exact⟨(p.drewN _).drewN _,a0I h.out.symm⟩
   ·have y:=hid (a5i o.out f L hdr.out (by omega))
    go_wp2_with fail
    go_quiet (fail)
    go_wp2_with fail
    go_quiet (fail)
    go_wp2_with fail
    go_roundw
    case rel=>exact⟨k - 1,by go_num,by omega,y,p.drewN _⟩
    case measure=>simp[intOf];omega
  ·have h:=hid (a6y c d (k:=k) (by omega) hdr.out)
   go_wp2_with fail
   go_ret
   exact⟨p,a0I h.out.symm⟩
theorem b1j(hi lo y:Nat)(w:World)(h:hi<y)(j:y<4294967296)(m:lo<4294967296):Calls Tryz.prog 328 #[.int .u32 hi, .int .u32 lo, .int .u32 y] w (fun e l=>Ext w l/\e= .returned (.tuple #[.int .u32 ((hi*4294967296+lo)/y:Nat), .int .u32 ((hi*4294967296+lo)%y:Nat)])):=by
 have n:((y:Int)==0)=false:=a2v (by omega);have o:((y:Int) !=0)=true:=a7B (by omega);have k:bits BinOp.or IntKind.u64 ((hi:Int)*4294967296) (lo:Int)=(hi:Int)*4294967296+lo:=by
  have e:=bits_or_u64_nat (hi*4294967296) lo (by omega) (by omega);have a:=Nat.two_pow_add_eq_or_of_lt (i:=32) (b:=lo) (by omega) hi;rw[Nat.mul_comm]at a;rw[<-a]at e;simpa using e
 have hq:(hi*4294967296+lo)/y<4294967296:=by
  rw[Nat.div_lt_iff_lt_mul (by omega)];have:(hi+1)*4294967296<=y*4294967296:=Nat.mul_le_mul_right _ h;rw[Nat.mul_comm 4294967296 y];omega
 have g:(hi*4294967296+lo)%y<y:=Nat.mod_lt _ (by omega);have c:=hid hq;have d:=hid g;clear hq g;go_enter Tryz.func328,Tryz.ntmps328
 go_wp2_with fail
 go_quiet (fail)
 go_wp2_with fail
 go_ret2
 refine⟨(ExtX.refl _).drewN _,?_⟩;have f:(((hi*4294967296+lo)/y:Nat):Int)%4294967296=(((hi*4294967296+lo)/y:Nat):Int):=a6A _ c.out;have a:(((hi*4294967296+lo)%y:Nat):Int)%4294967296=(((hi*4294967296+lo)%y:Nat):Int):=a6A _ (Nat.lt_trans d.out j);simp only[Int.natCast_ediv,Int.natCast_emod,Int.natCast_add,Int.natCast_mul,Int.cast_ofNat_Int]at f a |-;simp[f,a]
def b3i(X:Nat->Bool)(w:World)(q r:Nat)(e:Ending)(w':World):Prop:=
 Ext w w'/\∃ao cap l,e= .returned (.tuple #[.slice ao l.length cap, .int .u32 r])/\l.length<=cap/\a0F l q/\Sl (a0b .u32) 1 (mk X w') ao l
theorem b1k(X:Nat->Bool)(ao:Option Addr)(l:List Nat)(u d:Nat)(w:World)(H:Sl (a0b .u32) 1 (mk X w) ao l)(hd:Dig l)(O:l.length<=1099511627776)(K:∀k,X k=true->k<w.heap.size)(I:0<d)(J:d<4294967296):Calls Tryz.prog 299 #[.slice ao l.length u, .int .u32 d] w (b3i X w (nv l/d) (nv l%d)):=by
 have N:=H.hd;go_enter Tryz.func299,Tryz.ntmps299
 go_wp2_with (at_make;refine a1G a0M (a0b.elem .u32) 0 (fun _=>rfl) X K w.heap.size (Nat.le_refl _) l.length rfl rfl (by omega) (by omega) (by omega) ?_;intro oo w1 G h)
 go_loopw [5,6] (fun c i wr=>∃(k:Nat) (q:List Nat) (r:Nat),i= .int .i64 ((k:Int) - 1)/\c= .int .u32 r/\k<=l.length/\a2i l q d k r/\OL (a0b .u32) 1 X w.heap.size 110 wr oo l.length q/\Ext w wr) (fun _ i _=>(intOf i+1).toNat)
 case atStart=>exact⟨l.length,_,0,rfl,rfl,by omega,a2i.start l d I,G,h⟩
 case round=>
  obtain⟨k,q,r,rfl,rfl,M,a,g,f⟩:=hrel;clear G h;have b:=hid a.1;have C:=a.2.2.1;have L:Hd oo l.length:=b.out▸g.hd;by_cases A:0<k
  ·have y:=(H.mono (a0b.mono _) (a0l f)).nat (k - 1) (by omega)
   have n:=hd.get (k - 1) (by omega);rw[a1b]at n;have F:=a.step A M hd;go_wp2_with (first|(with_reducible refine a0m a0M (by omega) (by assumption) ?_)|(go_at_call 328;refine(b1j r l[k - 1] d _ C J n).mono ?_;rintro e R ⟨j,rfl⟩;have m:=g.ext0 (a0b.elem _) j)|((with_reducible show wpList _ _ _ (⟨_, .store _ _ _,_,_,_,_⟩::_) _ _);refine a0O a3x (k - 1) ((r*4294967296+l[k - 1])/d) rfl (by omega) m (by rw[b.out];omega) rfl (by simp) ?_;intro S x v))
   go_roundw
   case rel=>exact⟨k - 1,_,_,by go_num,by simp,by omega,F,x,(f.trans j).own m (Nat.le_refl _) v⟩
   case measure=>simp[intOf];omega
  ·obtain rfl:k=0:=by omega
   obtain⟨o,s⟩:=a.done;have p:=hid o;have t:=hid s;have B:=a.2.1;have E:=g.sl (a0b.elem .u32);clear o s;go_wp2_with fail
   rw[<-b.out];refine(a1v X _ _ _ _ E B (by rw[b.out];omega) (by omega)).mono ?_;rintro e Q ⟨rfl,P,rfl,z,y,D⟩;go_wp2_with fail
   go_ret2
   rw[p.out]at y;exact⟨f,_,_,_,by rw[<-t.out];rfl,z,y,D⟩
theorem b5C(X:Nat->Bool)(ao bo:Option Addr)(G H:List Nat)(ca cb:Nat)(w:World)(Y:Sl (a0b .u32) 1 (mk X w) ao G)(Z:Sl (a0b .u32) 1 (mk X w) bo H)(N:Dig G)(O:Dig H)(R:G.length<=1099511627776)(S:H.length<=1099511627776)(q:G.length<=ca)(r:H.length<=cb)(hX:∀k,X k=true->k<w.heap.size)(na nb:Nat)(T:val G=na)(U:val H=nb):Calls Tryz.prog 234 #[.slice ao G.length ca, .slice bo H.length cb] w (a3T X w (na*nb)):=by
 go_enter Tryz.func234,Tryz.ntmps234
 go_wp2_with fail
 refine(a1e X _ _ _ _ Y N (by omega) q).mono ?_;rintro e w' ⟨rfl,b7,b9,a,rfl,b4,K,l,A⟩;go_wp2_with fail
 refine(a1e X _ _ _ _ Z O (by omega) r).mono ?_;rintro e w' ⟨rfl,b8,c0,b,rfl,b5,M,n,B⟩;rw[T]at l;rw[U]at n;have b2:a.length<=1099511627776:=Nat.le_trans K R;have b3:b.length<=1099511627776:=Nat.le_trans M S;have a0:Hid (nv a*nv b=na*nb):=hid (by rw[l.2.2,n.2.2]);have u:=l.1;have v:=n.1;clear T U K M Y Z R S q r l n N O;have c1:=A.hd;have c2:=B.hd;go_wp2_with (at_make;refine a1G a0M (a0b.elem .u32) 0 (fun _=>rfl) X hX w.heap.size (Nat.le_refl _) (a.length+b.length) rfl rfl (by omega) (by omega) (by omega) ?_;intro oo w1 hO I)
 go_loopw [23] (fun i wr=>∃(k:Nat) (o:List Nat),i= .int .i64 k/\k<=a.length/\a2g a b o k 0 0/\OL (a0b .u32) 1 X w.heap.size 110 wr oo (a.length+b.length) o/\Ext w wr) (fun i _=>a.length - (intOf i).toNat)
 case atStart=>exact⟨0,_,rfl,by omega,a2g.start a b,hO,I⟩
 case round=>
  obtain⟨k,o,rfl,hk,d,f,g⟩:=hrel;clear hO I;have h:=hid d.1;by_cases s:k<a.length
  ·have q:=(A.mono (a0b.mono _) (a0l g)).nat k s
   have J:=u.get k s;rw[a1b]at J;obtain⟨x,hx⟩:∃x,a[k]=x:=⟨_,rfl⟩;rw[hx]at q J;have a9:=hid hx;clear hx;obtain⟨wo,rfl⟩:∃wo:World,wo=wr:=⟨_,rfl⟩;go_wp2_with (with_reducible refine a0m a0M (by omega) (by assumption) ?_)
   go_loopw [8,30] (fun c j wr=>∃(m:Nat) (o:List Nat) (t:Nat),j= .int .i64 m/\c= .int .u64 t/\m<=b.length/\a2g a b o k m t/\OL (a0b .u32) 1 X w.heap.size 110 wr oo (a.length+b.length) o/\Ext w wr) (fun _ j _=>b.length - (intOf j).toNat)
   case atStart=>exact⟨0,o,0,rfl,rfl,by omega,d,f,g⟩
   case round=>
    clear d f g h q;clear o;obtain⟨m,o,t,rfl,rfl,hm,d,f,g⟩:=hrel;have h:=hid d.1;have c3:Hd oo (a.length+b.length):=h.out▸f.hd;have a2:=d.2.2.1;rw[a1b]at a2;by_cases E:m<b.length
    ·have r:=(B.mono (a0b.mono _) (a0l g)).nat m E
     have p:k+m<o.length:=by rw[h.out];omega
     have V:=(f.sl (a0b.elem _)).nat (k+m) p;have L:=v.get m E;have W:=d.2.1.get (k+m) p;rw[a1b]at L W;obtain⟨y,hy⟩:∃y,b[m]=y:=⟨_,rfl⟩;obtain⟨z,hz⟩:∃z,o[k+m]=z:=⟨_,rfl⟩;obtain⟨F,a1⟩:=d.step' s E u v p a9.out hy hz;rw[hy]at r L;rw[hz]at V W;clear hy hz;have b0:(0:Int)<=(x:Int)*(y:Int):=Int.mul_nonneg (by omega) (by omega);have b1:(t:Int)+((x:Int)*(y:Int)+(z:Int))<18446744073709551616:=by rw[<-Int.natCast_mul];omega
     have c4:IntKind.u64.wrap ((x:Int)*(y:Int))=(x:Int)*(y:Int):=IntWalk.u64_in _ (by omega);have c5:IntKind.u64.wrap ((x:Int)*(y:Int)+(z:Int))=(x:Int)*(y:Int)+(z:Int):=IntWalk.u64_in _ (by omega);have c6:IntKind.u64.wrap ((t:Int)+((x:Int)*(y:Int)+(z:Int)))=(t:Int)+((x:Int)*(y:Int)+(z:Int)):=IntWalk.u64_in _ (by omega);clear a1 b1 b0;have b6:wr.cell? (adr oo ((k:Int)+(m:Int)).toNat)=some (.int .u32 z):=V;go_wp2_with (first|(with_reducible refine a0m a0M (by omega) (by assumption) ?_)|((with_reducible show wpList _ _ _ (⟨_, .store _ _ _,_,_,_,_⟩::_) _ _);refine a0O a3x (k+m) ((t+(x*y+z))%4294967296) rfl (by omega) f p rfl (by simp) ?_;intro w3 D C))
     go_roundw
     case rel=>exact⟨m+1,_,_,by go_num,by simp,by omega,F,D,g.own f (Nat.le_refl _) C⟩
     case measure=>simp[intOf];omega
    ·have a5:m=b.length:=by omega
     subst a5;have F:=d.row s;have p:k+b.length<o.length:=by rw[h.out];omega
     go_wp2_with (first|(with_reducible refine a0m a0M (by omega) (by assumption) ?_)|((with_reducible show wpList _ _ _ (⟨_, .store _ _ _,_,_,_,_⟩::_) _ _);refine a0O a3x (k+b.length) t rfl (by omega) f p rfl (by omega) ?_;intro w3 D C))
     go_roundw
     case rel=>exact⟨k+1,_,by go_num,by omega,F,D,g.own f (Nat.le_refl _) C⟩
     case measure=>simp[intOf];omega
  ·have a3:k=a.length:=by omega
   subst a3;have P:=d.done rfl;have a6:=d.2.1;have a8:=f.sl (a0b.elem .u32);have Q:=hid P;clear P;go_wp2_with fail
   rw[<-h.out];refine(a1v X _ _ _ _ a8 a6 (by rw[h.out];omega) (by omega)).mono ?_;rintro e w' ⟨rfl,l',rfl,a4,hc,a7⟩;go_wp2_with fail
   go_ret
   rw[Q.out,a0.out]at hc;exact⟨g,_,_,_,rfl,a4,hc,a7⟩
theorem a5Q(X:Nat->Bool)(ao:Option Addr)(l:List Nat)(cap:Nat)(w:World)(n:Nat)(hs:Sl (a0b .u32) 1 (mk X w) ao l)(hc:a0F l n)(hl:l.length<=4398046511104)(hX:∀k,X k=true->k<w.heap.size):Calls Tryz.prog 298 #[.slice ao l.length cap] w (a3T X w n):=by
 have hnil:=fun wx=>Lib.run_eql_slice_nil (P:=Tryz.prog) wx 37 110 ao l.length cap 0 0 Tryz.underlying37;cases ao with
 |none=>
  have hl0:l= []:=by
   cases l with
   |nil=>rfl
   |cons x l=>obtain⟨b,o,h⟩:=hs.1 (by simp);simp at h
  subst hl0;simp only[List.length_nil,Option.isNone_none]at hnil |-;go_enter Tryz.func298,Tryz.ntmps298
  go_wp2_with fail
  go_ret
  exact⟨ExtX.refl _,none,0,[],rfl,by simp,hc,Sl.nil _ _ _ _⟩
 |some ad=>
  have hO:OL (a0b .u32) 1 X w.heap.size 110 (w.alloc (.cells #[] 110)) (some ⟨w.heap.size,0,none⟩) 0 []:=
   OL.lit (a0b.elem .u32) hX (Nat.le_refl _) [] [] _ rfl rfl (fun i hi=>by simp at hi) (by simp)
  have hs2:=hs.mono (a0b.mono _) (b7b X w (.cells #[] 110));have hX2:∀k,X k=true->k<(w.alloc (.cells #[] 110)).heap.size:=fun k hk=>by have:=hX k hk;simp;omega
  go_enter Tryz.func298,Tryz.ntmps298
  go_wp2_with (at_builtin;refine a2K (l:=[]) a0M rfl (a0b.elem .u32) (by simp) hX2 l rfl rfl hO hs2 (by simp;omega) (by simp;omega) ?_;intro ao2 cap2 w2 hO2 hE2 _)
  go_ret
  exact⟨((ExtX.refl w).alloc _).own hO (Nat.le_refl _) hE2,_,_,l,rfl,by have:=hO2.lenCap;simpa using this,hc,by simpa using hO2.sl (a0b.elem _)⟩
def b4E(X:Nat->Bool)(w:World)(q r:Nat)(e:Ending)(w':World):Prop:=
 Ext w w'/\∃ao cap l bo cbp m,e= .returned (.tuple #[.slice ao l.length cap, .slice bo m.length cbp, .bool true])/\l.length<=cap/\a0F l q/\Sl (a0b .u32) 1 (mk X w') ao l/\m.length<=cbp/\a0F m r/\Sl (a0b .u32) 1 (mk X w') bo m
theorem b3j(X:Nat->Bool)(ao bo:Option Addr)(D E:List Nat)(ca cb:Nat)(w:World)(U:Sl (a0b .u32) 1 (mk X w) ao D)(V:Sl (a0b .u32) 1 (mk X w) bo E)(a6:Dig D)(a7:Dig E)(N:D.length<=1099511627776)(a9:E.length<=1099511627776)(J:D.length<=ca)(L:E.length<=cb)(hX:∀k,X k=true->k<w.heap.size)(i nb:Nat)(O:val D=i)(P:val E=nb)(h0:0<nb)(h1:nb<4294967296):Calls Tryz.prog 245 #[.slice ao D.length ca, .slice bo E.length cb] w (b4E X w (i/nb) (i%nb)):=by
 go_enter Tryz.func245,Tryz.ntmps245
 go_wp2_with fail
 refine(a1e X _ _ _ _ U a6 (by omega) J).mono ?_;rintro e w' ⟨rfl,F,G,a,rfl,K,I,f,m⟩;go_wp2_with fail
 refine(a1e X _ _ _ _ V a7 (by omega) L).mono ?_;rintro e w' ⟨rfl,Y,a0,b,rfl,s,a4,g,n⟩;rw[O]at f;rw[P]at g;have a3:=b1a g h0 h1;subst a3;have q:a.length<=1099511627776:=Nat.le_trans I N;have b3:=hid f.val;have b4:=hid g.val;have M:=g.1;have t:=f.1;clear O P I a4 U V N a9 J L;have b5:=m.hd;have a8:=n.hd;simp only[List.length_cons,List.length_nil,Nat.zero_add]at a8 s |-;go_wp2_with fail
 refine(a3a X F Y a [nb] G a0 w m n t M q (by simp) K s i nb b3.out b4.out).mono ?_;rintro e w2 ⟨j,rfl⟩;have u:=m.mono (a0b.mono _) (a0l j);have W:=n.mono (a0b.mono _) (a0l j);have y:∀k,X k=true->k<w2.heap.size:=fun k hk=>Nat.lt_of_lt_of_le (hX k hk) j.size;by_cases p:i<nb
 ·have B:a2D i nb<0:=(a3t i nb).2 p
  have hq:=hid (Nat.div_eq_of_lt p);have R:=hid (Nat.mod_eq_of_lt p);generalize a2D i nb=c at B;go_wp2_with fail
  refine(a5Q X _ _ _ _ i u f (by omega) y).mono ?_;rintro e w3 ⟨o,v,x,l3,rfl,z,d,C⟩;go_wp2_with fail
  go_ret3
  refine⟨j.trans o,none,0,[],v,x,l3,rfl,by simp,?_,Sl.nil _ _ _ _,z,?_,C⟩
  ·rw[hq.out];exact a0F.nil
  ·rw[R.out];exact d
 ·have B:¬a2D i nb<0:=fun h=>p ((a3t i nb).1 h)
  generalize a2D i nb=c at B;have A:=W.nat 0 (by simp);simp only[List.getElem_cons_zero]at A;go_wp2_with (with_reducible refine a0m a0M (by omega) (by assumption) ?_)
  refine(b1k X F a G nb w2 u t q y h0 h1).mono ?_;rintro e w3 ⟨o,v,x,l3,rfl,z,d,C⟩;have a2:∀k,X k=true->k<w3.heap.size:=fun k hk=>Nat.lt_of_lt_of_le (y k hk) o.size;have b1:nv a%nb<nb:=Nat.mod_lt _ h0;obtain⟨r,R⟩:∃r,nv a%nb=r:=⟨_,rfl⟩;rw[R]at b1 |-;have b0:=hid R;clear R;go_wp2_with fail
  refine(a3y X r _ (by omega) a2).mono ?_;rintro e w4 ⟨H,Z,a1,l4,rfl,a5,l,b2⟩;go_wp2_with fail
  go_ret3
  have T:=C.mono (a0b.mono _) (a0l H);have Q:=f.2.2;rw[Q]at d;have S:=b0.out;rw[Q]at S;rw[<-S]at l;exact⟨(j.trans o).trans H,v,x,l3,Z,a1,l4,rfl,z,d,T,a5,l,b2⟩
end Go.Proofs.YtnnpfhoigmegcaaGreat
namespace Go.Lim
theorem a1z{l:List Nat}(h:Dig l)(k:Nat):nv (l.take k)<B^k:=by
 refine Nat.lt_of_lt_of_le (a4o (h.take k)) (Nat.pow_le_pow_right a1S ?_);simp;omega
theorem a7e{l:List Nat}{k:Nat}(h:nv l<B^k):nv (l.take k)=nv l:=by
 by_cases d:k<=l.length
 ·have b:=a1L l k d
  have c:nv (l.drop k)=0:=by
   by_cases a:nv (l.drop k)=0
   ·exact a
   ·have:B^k*1<=B^k*nv (l.drop k):=Nat.mul_le_mul_left _ (by omega)
    omega
  rw[c]at b;omega
 ·rw[List.take_of_length_le (by omega)]
theorem a0u{l:List Nat}{i:Nat}(h:i<l.length):l.getD i 0=l[i]:=by simp[List.getD,h]
theorem a3O{l:List Nat}{i:Nat}(h:l.length<=i):l.getD i 0=0:=by simp[List.getD,h]
def a4e(x y c:Nat):Nat:=(x+4294967296 - y - c)%4294967296
def a5R(x y c:Nat):Nat:=if x<y+c then 1 else 0
theorem a8z{x y c:Nat}(hx:x<B)(b:y<B)(a:c<=1):a4e x y c+y+c=x+B*a5R x y c/\a4e x y c<B/\a5R x y c<=1:=by
 rw[a1b]at*;unfold a4e a5R;split<;>omega
def a4v(a b o:List Nat)(i c:Nat):Prop:=o.length=a.length/\Dig o/\c<=1/\nv (o.take i)+nv (b.take i)=nv (a.take i)+B^i*c
theorem a4v.start(a b:List Nat):a4v a b (List.replicate a.length 0) 0 0:=⟨by simp,Dig.zeros _,by omega,by simp[nv]⟩
theorem a4v.step{a b o:List Nat}{i c x y:Nat}(h:a4v a b o i c)(hi:i<a.length)(hx:a[i]=x)(g:b.getD i 0=y)(s:Dig a)(t:Dig b):a4v a b (o.set i (a4e x y c)) (i+1) (a5R x y c):=by
 obtain⟨p,q,r,u⟩:=h;have e:=s.get i hi;have f:=t.getD i;rw[hx]at e;rw[g]at f;obtain⟨k,l,m⟩:=a8z e f r;refine⟨by simpa using p,q.set _ _ l,m,?_⟩;rw[a1k o i _ (by omega),a1B,a0A a i hi,a0Z,hx,g,List.length_take,Nat.min_eq_left (by omega),Nat.pow_succ];generalize a4e x y c=d at*;generalize a5R x y c=j at*;have n:B^i*(d+y+c)=B^i*(x+B*j):=by rw[k]
 rw[Nat.mul_add,Nat.mul_add,Nat.mul_add]at n;rw[Nat.mul_assoc];omega
theorem a4v.done{a b o:List Nat}{c:Nat}(h:a4v a b o a.length c)(d:b.length<=a.length)(l:nv b<=nv a):nv o=nv a - nv b:=by
 obtain⟨e,g,m,i⟩:=h;rw[List.take_of_length_le (Nat.le_of_eq e),List.take_of_length_le d,List.take_of_length_le (Nat.le_refl _)]at i;have j:=a4o g;rw[e]at j;have k:c=0:=by
  by_cases f:c=0
  ·exact f
  ·have:c=1:=by omega
   subst this;omega
 subst k;omega
def a4w(W V:List Nat)(x:Nat)(o:List Nat)(k cy bo:Nat):Prop:=
 o.length=W.length/\Dig o/\o.drop k=W.drop k/\bo<=1/\cy<B/\(∃L,L<B^k/\x*nv (V.take k)=L+B^k*cy)/\nv (o.take k)+x*nv (V.take k)=nv (W.take k)+B^k*(cy+bo)
theorem a4w.start{W V:List Nat}{x:Nat}(a:Dig W):a4w W V x W 0 0 0:=⟨rfl,a,rfl,by omega,a1S,⟨0,by simp,by simp[nv]⟩,by simp[nv]⟩
theorem a4w.step{W V o:List Nat}{x k a f y z:Nat}(h:a4w W V x o k a f)(J:k<W.length)(u:V.getD k 0=y)(hz:o.getD k 0=z)(I:Dig V)(hx:x<B):a4w W V x (o.set k (a4e z ((a+x*y)%4294967296) f)) (k+1) ((a+x*y)/4294967296) (a5R z ((a+x*y)%4294967296) f)/\a+x*y<18446744073709551616/\z<4294967296:=by
 obtain⟨E,r,s,F,t,⟨L,K,G⟩,H⟩:=h;have l:=I.getD k;rw[u]at l;have b:=r.getD k;rw[hz]at b;have n:W[k]=z:=by
  have p:(o.drop k)[0]'(by simp;omega)=(W.drop k)[0]'(by simp;omega):=by simp only[s]
  simp at p;rw[<-p,<-hz,a0u (by omega)]
 have M:x*y<=4294967295*4294967295:=Nat.mul_le_mul (by rw[a1b]at hx;omega) (by rw[a1b]at l;omega);obtain⟨lo,e⟩:∃lo,(a+x*y)%4294967296=lo:=⟨_,rfl⟩;obtain⟨hi,i⟩:∃hi,(a+x*y)/4294967296=hi:=⟨_,rfl⟩;have m:B*hi+lo=a+x*y:=by rw[<-e,<-i,a1b];exact Nat.div_add_mod _ _
 have c:lo<B:=by rw[<-e,a1b];exact Nat.mod_lt _ (by decide)
 have j:hi<B:=by rw[a1b]at t |-;omega
 rw[e,i];obtain⟨w,A,C⟩:=a8z b c F;have g:nv (V.take (k+1))=nv (V.take k)+B^k*y:=by rw[a0Z,u]
 have e5:B^k*(B*hi+lo)=B^k*(a+x*y):=by rw[m]
 rw[Nat.mul_add,Nat.mul_add]at e5;have q:x*(nv (V.take k)+B^k*y)=x*nv (V.take k)+B^k*(x*y):=by rw[Nat.mul_add,Nat.mul_left_comm]
 refine⟨⟨by simpa using E,r.set _ _ A,?_,C,j,⟨L+B^k*lo,?_,?_⟩,?_⟩,by rw[a1b]at t;omega,by rw[a1b]at b;exact b⟩
 ·rw[List.drop_set_of_lt (by omega)]
  have:(o.drop k).drop 1=(W.drop k).drop 1:=by rw[s]
  simpa using this
 ·rw[Nat.pow_succ]
  have:B^k*lo+B^k<=B^k*B:=by rw[<-Nat.mul_succ];exact Nat.mul_le_mul_left _ c
  omega
 ·rw[g,q,G,Nat.pow_succ,Nat.mul_assoc];omega
 ·rw[a1k o k _ (by omega),a1B,a0A W k J,n,g,q,List.length_take,Nat.min_eq_left (by omega),Nat.pow_succ,Nat.mul_assoc,Nat.mul_add]
  rw[Nat.mul_add]at H;generalize a4e z lo f=d at*;generalize a5R z lo f=v at*;have D:B^k*(d+lo+f)=B^k*(z+B*v):=by rw[w]
  rw[Nat.mul_add,Nat.mul_add,Nat.mul_add]at D;rw[Nat.mul_add];omega
theorem a4w.done{W V o:List Nat}{x d a n:Nat}(h:a4w W V x o W.length d a)(k:W.length=n+1)(q:V.length=n)(e:Dig V)(hx:x<B):o.length=n+1/\Dig o/\((a=0/\nv o+x*nv V=nv W)\/(a=1/\nv W<x*nv V/\nv o+x*nv V=nv W+B^(n+1))):=by
 obtain⟨m,i,s,t,u,⟨L,p,j⟩,b⟩:=h;have c:=a4o e;rw[q]at c;have g:=a4o i;rw[m,k]at g;rw[List.take_of_length_le (by omega)]at j;rw[List.take_of_length_le (by omega),List.take_of_length_le (by omega),List.take_of_length_le (Nat.le_refl _)]at b;rw[k]at p j b;have r:x*nv V<B^(n+1):=by
  rw[Nat.pow_succ,Nat.mul_comm (B^n)];exact Nat.lt_of_le_of_lt (Nat.mul_le_mul_right _ (Nat.le_of_lt hx)) (Nat.mul_lt_mul_of_pos_left c a1S)
 have f:d=0:=by
  by_cases l:d=0
  ·exact l
  ·have:B^(n+1)*1<=B^(n+1)*d:=Nat.mul_le_mul_left _ (by omega)
   omega
 subst f;refine⟨by omega,i,?_⟩;rcases(show a=0\/a=1 by omega)with rfl|rfl
 ·left;exact⟨rfl,by simpa using b⟩
 ·right
  rw[Nat.zero_add,Nat.mul_one]at b;exact⟨rfl,by omega,b⟩
def a4x(W V:List Nat)(o:List Nat)(k c:Nat):Prop:=
 o.length=W.length/\Dig o/\o.drop k=W.drop k/\c<=1/\nv (o.take k)+B^k*c=nv (W.take k)+nv (V.take k)
theorem a4x.start{W V:List Nat}(a:Dig W):a4x W V W 0 0:=⟨rfl,a,rfl,by omega,by simp[nv]⟩
theorem a4x.step{W V o:List Nat}{k c y z:Nat}(h:a4x W V o k c)(n:k<W.length)(j:V.getD k 0=y)(hz:o.getD k 0=z)(m:Dig V):a4x W V (o.set k ((z+y+c)%4294967296)) (k+1) ((z+y+c)/4294967296)/\z<4294967296:=by
 obtain⟨l,g,i,q,r⟩:=h;have b:=m.getD k;rw[j,a1b]at b;have a:=g.getD k;rw[hz,a1b]at a;have d:W[k]=z:=by
  have f:(o.drop k)[0]'(by simp;omega)=(W.drop k)[0]'(by simp;omega):=by simp only[i]
  simp at f;rw[<-f,<-hz,a0u (by omega)]
 refine⟨⟨by simpa using l,g.set _ _ (by rw[a1b];exact Nat.mod_lt _ (by decide)),?_,by omega,?_⟩,a⟩
 ·rw[List.drop_set_of_lt (by omega)]
  have:(o.drop k).drop 1=(W.drop k).drop 1:=by rw[i]
  simpa using this
 ·rw[a1k o k _ (by omega),a1B,a0A W k n,d,a0Z,j,List.length_take,Nat.min_eq_left (by omega),Nat.pow_succ,Nat.mul_assoc]
  have e:(z+y+c)%4294967296+B*((z+y+c)/4294967296)=z+y+c:=by rw[a1b];omega
  have p:B^k*((z+y+c)%4294967296)+B^k*(B*((z+y+c)/4294967296))=B^k*z+B^k*y+B^k*c:=by rw[<-Nat.mul_add,e,Nat.mul_add,Nat.mul_add]
  omega
theorem a4x.done{W V o:List Nat}{c n:Nat}(h:a4x W V o W.length c)(e:W.length=n+1)(i:V.length=n):o.length=n+1/\Dig o/\c<=1/\nv o+B^(n+1)*c=nv W+nv V:=by
 obtain⟨f,b,g,d,a⟩:=h;rw[List.take_of_length_le (by omega),List.take_of_length_le (Nat.le_refl _),List.take_of_length_le (by omega),e]at a;exact⟨by omega,b,d,a⟩
def a7f(a o:List Nat)(s k:Nat):Prop:=o.length=a.length+1/\Dig o/\(∀p,k<p->o.getD p 0=0)/\o.getD k 0<2^s/\nv (o.take (k+1))=nv (a.take k)*2^s
theorem a7f.start(a:List Nat)(s:Nat):a7f a (List.replicate (a.length+1) 0) s 0:=
 ⟨by simp,Dig.zeros _,fun p _=>by by_cases h:p<a.length+1<;>simp[List.getD,h],by simp[List.getD];exact Nat.two_pow_pos _,by rw[a0Z];simp[nv,List.getD]⟩
theorem b3k{lo x s:Nat}(a:lo<2^s)(b:s<32):lo|||(x*2^s)%4294967296=lo+(x*2^s)%4294967296:=by
 have e:(x*2^s)%4294967296=2^s*(x%2^(32 - s)):=by
  rw[show(4294967296:Nat)=2^s*2^(32 - s)by rw[<-Nat.pow_add,show s+(32 - s)=32 by omega],Nat.mul_comm x,Nat.mul_mod_mul_left]
 rw[e,Nat.or_comm,<-Nat.two_pow_add_eq_or_of_lt a,Nat.add_comm]
theorem a7f.step{a o:List Nat}{s k x lo:Nat}(h:a7f a o s k)(m:k<a.length)(hx:a[k]=x)(f:o.getD k 0=lo)(u:Dig a)(v:s<32):a7f a ((o.set k (lo|||(x*2^s)%4294967296)).set (k+1) (x*2^s/4294967296)) s (k+1)/\(lo|||(x*2^s)%4294967296)<4294967296/\x*2^s<18446744073709551616/\x*2^s/4294967296<4294967296:=by
 obtain⟨j,q,r,l,t⟩:=h;have c:=u.get k m;rw[hx,a1b]at c;rw[f]at l;rw[b3k l v];have n:(2:Nat)^s<=2^31:=Nat.pow_le_pow_right (by omega) (by omega);have d:x*2^s/4294967296<2^s:=Nat.div_lt_of_lt_mul (Nat.mul_lt_mul_of_pos_right c (Nat.two_pow_pos _));have b:lo+(x*2^s)%4294967296<4294967296:=by
  have e:(x*2^s)%4294967296=2^s*(x%2^(32 - s)):=by
   rw[show(4294967296:Nat)=2^s*2^(32 - s)by rw[<-Nat.pow_add,show s+(32 - s)=32 by omega],Nat.mul_comm x,Nat.mul_mod_mul_left]
  have i:x%2^(32 - s)<2^(32 - s):=Nat.mod_lt _ (Nat.two_pow_pos _);have w:2^s*(x%2^(32 - s))+2^s<=2^s*2^(32 - s):=by rw[<-Nat.mul_succ];exact Nat.mul_le_mul_left _ i
  have y:2^s*2^(32 - s)=4294967296:=by rw[<-Nat.pow_add,show s+(32 - s)=32 by omega]
  omega
 have hxs:x*2^s<18446744073709551616:=by
  have:x*2^s<=x*2^31:=Nat.mul_le_mul_left _ n;omega
 refine⟨⟨by simpa using j,(q.set _ _ (by rw[a1b];exact b)).set _ _ (by rw[a1b];omega),fun p n=>?_,?_,?_⟩,b,hxs,by omega⟩
 ·have:=r p (by omega)
  simp only[List.getD_eq_getElem?_getD]at this |-;rw[List.getElem?_set_ne (by omega),List.getElem?_set_ne (by omega)];exact this
 ·rw[a0u (by simp;omega),List.getElem_set_self];exact d
 ·rw[a1k _ _ _ (by simp;omega),a1B,a1k _ _ _ (by omega),a1B]
  simp only[List.length_append,List.length_take,List.length_singleton,j];rw[Nat.min_eq_left (by omega),a0A a k m,hx,Nat.add_mul];rw[a0Z,f]at t;have e:=Nat.div_add_mod (x*2^s) 4294967296;have g:min (k+1) (a.length+1)=k+1:=by omega
  rw[Nat.mul_add,Nat.pow_succ,Nat.mul_assoc (B^k)]
  try rw[g]
  have i:B^k*(B*(x*2^s/4294967296))+B^k*(x*2^s%4294967296)=B^k*x*2^s:=by rw[<-Nat.mul_add,a1b,e,Nat.mul_assoc]
  omega
theorem a7f.done{a o:List Nat}{s:Nat}(h:a7f a o s a.length):o.length=a.length+1/\Dig o/\o.getD a.length 0<2^s/\nv o=nv a*2^s:=by
 obtain⟨c,d,f,e,b⟩:=h;rw[List.take_of_length_le (by omega),List.take_of_length_le (Nat.le_refl _)]at b;exact⟨c,d,e,b⟩
def a7g(b u2 u1 u0 v1 v0:Nat):Nat:=min ((u2*(b*b)+u1*b+u0)/(v1*b+v0)) (b - 1)
def a6m(b u2 u1 u0 v1 v0 q r:Nat):Prop:=q*v1+r=u2*b+u1/\a7g b u2 u1 u0 v1 v0<=q/\q<=b+1
theorem a6m.start{b a c u0 v1 v0:Nat}(j:b<=2*v1)(i:2<=b)(f:a<=v1)(h:c<b)(g:u0<b):a6m b a c u0 v1 v0 ((a*b+c)/v1) ((a*b+c)%v1):=by
 refine⟨by rw[Nat.mul_comm];exact Nat.div_add_mod _ _,?_,?_⟩
 ·unfold a7g
  refine Nat.le_trans (Nat.min_le_left _ _) ?_;rw[Nat.le_div_iff_mul_le (by omega)];generalize hq:(a*(b*b)+c*b+u0)/(v1*b+v0)=q;have e:q*(v1*b+v0)<=a*(b*b)+c*b+u0:=by rw[<-hq];exact Nat.div_mul_le_self _ _
  have d:q*v1*b<(a*b+c+1)*b:=by
   rw[Nat.mul_add,<-Nat.mul_assoc]at e;rw[Nat.add_mul,Nat.add_mul,Nat.mul_assoc a,Nat.one_mul];omega
  have:=Nat.lt_of_mul_lt_mul_right d;omega
 ·have:(a*b+c)/v1<b+2:=by
   rw[Nat.div_lt_iff_lt_mul (by omega)];have:a*b<=v1*b:=Nat.mul_le_mul_right _ f;rw[Nat.add_mul,Nat.mul_comm b v1];omega
  omega
theorem a6m.more{b a c u0 v1 v0 q r:Nat}(h:a6m b a c u0 v1 v0 q r)(l:2<=b)(d:b<=q\/r*b+u0<q*v0)(i:0<v1):1<=q/\a6m b a c u0 v1 v0 (q - 1) (r+v1):=by
 obtain⟨f,j,k⟩:=h;have g:a7g b a c u0 v1 v0<q:=by
  rcases d with d|d
  ·unfold a7g;omega
  ·unfold a7g
   refine Nat.lt_of_le_of_lt (Nat.min_le_left _ _) ?_;have m:0<v1*b:=Nat.mul_pos i (by omega);have e5:q*(v1*b+v0)=q*v1*b+q*v0:=by rw[Nat.mul_add,Nat.mul_assoc]
   rw[Nat.div_lt_iff_lt_mul (by omega),e5];have e:(q*v1+r)*b=(a*b+c)*b:=by rw[f]
   rw[Nat.add_mul,Nat.add_mul,Nat.mul_assoc a]at e;omega
 refine⟨by omega,?_,by omega,by omega⟩;obtain⟨p,rfl⟩:∃p,q=p+1:=⟨q - 1,by omega⟩;rw[Nat.succ_mul]at f;rw[show p+1 - 1=p from rfl];omega
theorem a6m.less{b c d u0 v1 v0 q r:Nat}(h:a6m b c d u0 v1 v0 q r)(p:2<=b)(t:b<=2*v1)(f:c<=v1)(m:d<b)(n:v0<b)(a:b<=r\/(q<b/\q*v0<=r*b+u0)):q=a7g b c d u0 v1 v0:=by
 obtain⟨k,l,o⟩:=h;have hq:q<b:=by
  rcases a with a|a
  ·by_cases hq:q<b
   ·exact hq
   ·have g:b*v1<=q*v1:=Nat.mul_le_mul_right _ (by omega)
    have j:c*b<=v1*b:=Nat.mul_le_mul_right _ f;rw[Nat.mul_comm b]at g;omega
  ·exact a.1
 have i:q*v0<=r*b+u0:=by
  rcases a with a|a
  ·have g:q*v0<=b*b:=Nat.mul_le_mul (by omega) (by omega)
   have j:b*b<=r*b:=Nat.mul_le_mul_right _ a;omega
  ·exact a.2
 refine Nat.le_antisymm ?_ l;unfold a7g;refine Nat.le_min.2 ⟨?_,by omega⟩;have s:0<v1*b:=Nat.mul_pos (by omega) (by omega);rw[Nat.le_div_iff_mul_le (by omega),Nat.mul_add,<-Nat.mul_assoc];have e:(q*v1+r)*b=(c*b+d)*b:=by rw[k]
 rw[Nat.add_mul,Nat.add_mul,Nat.mul_assoc c]at e;omega
theorem b5D{W:List Nat}{n:Nat}(i:W.length=n+3):nv W=nv (W.take n)+B^n*(W[n+2]*(B*B)+W[n+1]*B+W[n]):=by
 have e:W.take (n+3)=W:=List.take_of_length_le (by omega);have g:nv (W.take (n+1))=nv (W.take n)+B^n*W[n]:=a0A W n (by omega);have h:nv (W.take (n+2))=nv (W.take (n+1))+B^(n+1)*W[n+1]:=a0A W (n+1) (by omega);have a:nv (W.take (n+3))=nv (W.take (n+2))+B^(n+2)*W[n+2]:=a0A W (n+2) (by omega);rw[e]at a;rw[a,h,g,show B^(n+2)=B^n*B*B by rw[Nat.pow_succ,Nat.pow_succ],show B^(n+1)=B^n*B from Nat.pow_succ ..];generalize W[n]=j;generalize W[n+1]=b;generalize W[n+2]=c;generalize B^n=q;simp only[Nat.mul_add];have d:q*B*B*c=q*(c*(B*B)):=by ac_rfl
 have f:q*B*b=q*(b*B):=by ac_rfl
 rw[d,f];omega
theorem b5E{V:List Nat}{n:Nat}(f:V.length=n+2):nv V=nv (V.take n)+B^n*(V[n+1]*B+V[n]):=by
 have e:V.take (n+2)=V:=List.take_of_length_le (by omega);have d:=a0A V n (by omega);have a:=a0A V (n+1) (by omega);rw[show n+1+1=n+2 from rfl,e,Nat.pow_succ]at a;rw[a,d];generalize V[n]=g;generalize V[n+1]=b;generalize B^n=q;simp only[Nat.mul_add];have c:q*B*b=q*(b*B):=by ac_rfl
 rw[c];omega
theorem b5F{b Q u2 u1 u0 v1 v0 lw lv W V:Nat}(hb:2<=b)(_hQ:0<Q)(eW:W=lw+Q*(u2*(b*b)+u1*b+u0))(eV:V=lv+Q*(v1*b+v0))(lW:lw<Q)(lV:lv<Q)(_d2:u2<b)(d1:u1<b)(f0:v0<b)(hn:b<=2*v1)(hlt:W<V*b):u2<=v1/\W/V<=a7g b u2 u1 u0 v1 v0/\a7g b u2 u1 u0 v1 v0<=W/V+1:=by
 have hv1:0<v1:=by omega
 have hp:0<v1*b:=Nat.mul_pos hv1 (by omega);have hVpos:0<V:=by
  have:Q*1<=Q*(v1*b+v0):=Nat.mul_le_mul_left _ (by omega);omega
 obtain⟨v2,hv2⟩:∃v2,v1*b+v0=v2:=⟨_,rfl⟩;obtain⟨u3,hu3⟩:∃u3,u2*(b*b)+u1*b+u0=u3:=⟨_,rfl⟩;have hest:a7g b u2 u1 u0 v1 v0=min (u3/v2) (b - 1):=by unfold a7g;rw[hv2,hu3]
 rw[hest];rw[hv2]at eV;rw[hu3]at eW;have hU3:u3<(v2+1)*b:=by
  have:Q*u3<Q*((v2+1)*b):=by
   have e0:Q*((v2+1)*b)=(Q*v2+Q)*b:=by rw[<-Nat.mul_assoc,Nat.mul_add Q v2 1,Nat.mul_one]
   have e1:(lv+Q*v2)*b<=(Q*v2+Q)*b:=Nat.mul_le_mul_right _ (by omega);rw[eV]at hlt;omega
  exact Nat.lt_of_mul_lt_mul_left this
 refine⟨?_,?_,?_⟩
 ·by_cases h:u2<=v1
  ·exact h
  ·have e1:(v1+1)*(b*b)<=u2*(b*b):=Nat.mul_le_mul_right _ (by omega)
   have e2:(v2+1)*b<=(v1*b+b)*b:=Nat.mul_le_mul_right _ (by omega);rw[Nat.add_mul,Nat.one_mul]at e1;have e3:(v1*b+b)*b=v1*(b*b)+b*b:=by rw[Nat.add_mul,Nat.mul_assoc]
   omega
 ·refine Nat.le_min.2 ⟨?_,?_⟩
  ·have hv2p:0<v2:=by omega
   rw[Nat.le_div_iff_mul_le hv2p];generalize hq:W/V=q;have h1:q*V<=W:=by rw[<-hq];exact Nat.div_mul_le_self _ _
   have h2:Q*(q*v2)<Q*(u3+1):=by
    have e1:q*(Q*v2)<=q*V:=Nat.mul_le_mul_left _ (by omega);rw[Nat.mul_left_comm,Nat.mul_add Q,Nat.mul_one];omega
   have:=Nat.lt_of_mul_lt_mul_left h2;omega
  ·have:W/V<b:=by rw[Nat.div_lt_iff_lt_mul hVpos,Nat.mul_comm];exact hlt
   omega
 ·generalize hx:min (u3/v2) (b - 1)=x
  have hxB:x<b:=by omega
  have hxV:x*v2<=u3:=by
   rw[<-hx];exact Nat.le_trans (Nat.mul_le_mul_right _ (Nat.min_le_left _ _)) (Nat.div_mul_le_self _ _)
  clear hx;cases x with
  |zero=>exact Nat.zero_le _
  |succ y=>
   rw[Nat.add_le_add_iff_right,Nat.le_div_iff_mul_le hVpos];have h1:(y+1)*V<=W+V:=by
    have e1:(y+1)*V=(y+1)*lv+Q*((y+1)*v2):=by rw[eV,Nat.mul_add,Nat.mul_left_comm]
    have e2:Q*((y+1)*v2)<=Q*u3:=Nat.mul_le_mul_left _ hxV;have e3:(y+1)*lv<=b*Q:=Nat.mul_le_mul (by omega) (by omega);have e4:b*Q<=Q*v2:=by
     rw[Nat.mul_comm];refine Nat.mul_le_mul_left _ ?_;have:1*b<=v1*b:=Nat.mul_le_mul_right _ (by omega);omega
    omega
   rw[Nat.succ_mul]at h1;omega
theorem b7g{W V:List Nat}{n:Nat}(e:W.length=n+3)(d:V.length=n+2)(a:Dig W)(b:Dig V)(f:B<=2*V[n+1])(c:nv W<nv V*B):W[n+2]<=V[n+1]/\nv W/nv V<=a7g B W[n+2] W[n+1] W[n] V[n+1] V[n]/\a7g B W[n+2] W[n+1] W[n] V[n+1] V[n]<=nv W/nv V+1:=
 b5F (by rw[a1b];decide) (Nat.pow_pos a1S) (b5D e) (b5E d) (a1z a n) (a1z b n) (a.get _ _) (a.get _ _) (b.get _ _) f c
theorem b1l{u:List Nat}{s i:Nat}(k:s<32)(hi:i+1<u.length)(hd:Dig u):(nv u/2^s)%B^(i+1)=(nv u/2^s)%B^i+B^i*((u[i+1]*4294967296+u[i])/2^s%4294967296):=by
 have f:nv u=nv (u.take i)+B^i*(u[i]+B*(u[i+1]+B*nv (u.drop (i+2)))):=by
  have e:=a1L u i (by omega);rw[List.drop_eq_getElem_cons (show i<u.length by omega),List.drop_eq_getElem_cons (show i+1<u.length by omega)]at e;exact e
 obtain⟨c,h⟩:∃c,2^s*c=4294967296:=⟨2^(32 - s),by rw[<-Nat.pow_add,show s+(32 - s)=32 by omega]⟩;have j:0<2^s:=Nat.two_pow_pos _;have b:=a1z hd i;have g:0<B^i:=Nat.pow_pos a1S;have a:nv u/B^i=u[i]+B*(u[i+1]+B*nv (u.drop (i+2))):=by
  rw[f,Nat.add_mul_div_left _ _ g,Nat.div_eq_of_lt b,Nat.zero_add]
 rw[Nat.pow_succ,Nat.mod_mul,Nat.div_div_eq_div_mul,Nat.mul_comm (2^s),<-Nat.div_div_eq_div_mul,a];have e:u[i]+B*(u[i+1]+B*nv (u.drop (i+2)))=(u[i+1]*4294967296+u[i])+2^s*(B*(c*nv (u.drop (i+2)))):=by
  have d:2^s*(B*(c*nv (u.drop (i+2))))=B*(B*nv (u.drop (i+2))):=by
   rw[Nat.mul_left_comm,<-Nat.mul_assoc (2^s),h,<-a1b]
  rw[d,Nat.mul_add,a1b];omega
 rw[e,Nat.add_mul_div_left _ _ j,Nat.add_mul_mod_self_left,<-a1b]
def a4y(u o:List Nat)(s n i:Nat):Prop:=o.length=n/\Dig o/\nv (o.take i)=(nv u/2^s)%B^i
theorem a4y.start(u:List Nat)(s n:Nat):a4y u (List.replicate n 0) s n 0:=⟨by simp,Dig.zeros _,by simp[nv,Nat.mod_one]⟩
theorem a4y.step{u o:List Nat}{s n i x y:Nat}(h:a4y u o s n i)(hi:i<n)(d:s<32)(e:i+1<u.length)(hd:Dig u)(hx:u[i+1]=x)(f:u[i]=y):a4y u (o.set i ((x*4294967296+y)/2^s%4294967296)) s n (i+1):=by
 obtain⟨a,b,c⟩:=h;refine⟨by simpa using a,b.set _ _ (by rw[a1b];exact Nat.mod_lt _ (by decide)),?_⟩;rw[a1k o i _ (by omega),a1B,c,b1l d e hd,hx,f,List.length_take,Nat.min_eq_left (by omega)]
theorem a4y.done{u o:List Nat}{s n:Nat}(h:a4y u o s n n)(a:nv u/2^s<B^n):nv o=nv u/2^s:=by
 obtain⟨c,d,b⟩:=h;rw[List.take_of_length_le (by omega),Nat.mod_eq_of_lt a]at b;exact b
def a3z(N:Nat)(V U Q:List Nat)(k:Nat):Prop:=Dig U/\Dig Q/\nv (U.drop k)<nv V/\nv U+nv V*(B^k*nv (Q.drop k))=N
theorem a4S{U:List Nat}{j:Nat}(h:j<U.length):nv (U.drop j)=U[j]+B*nv (U.drop (j+1)):=by
 rw[List.drop_eq_getElem_cons h];rfl
theorem a3z.win{N:Nat}{V U Q:List Nat}{j n:Nat}(h:a3z N V U Q (j+1))(r:j+(n+1)<=U.length)(o:V.length=n)(d:Dig V):((U.drop j).take (n+1)).length=n+1/\Dig ((U.drop j).take (n+1))/\nv ((U.drop j).take (n+1))<nv V*B/\nv (U.drop (j+(n+1)))=0/\U=U.take j++(U.drop j).take (n+1)++U.drop (j+(n+1))/\nv U=nv (U.take j)+B^j*nv ((U.drop j).take (n+1))/\(U.take j).length=j:=by
 obtain⟨g,p,l,q⟩:=h;have e:=a4S (show j<U.length by omega);have hd:=g.get j (by omega);have a:=a4o d;rw[o]at a;have b:nv (U.drop j)<nv V*B:=by
  rw[e];have:B*(nv (U.drop (j+1))+1)<=B*nv V:=Nat.mul_le_mul_left _ l;rw[Nat.mul_add,Nat.mul_one]at this;rw[Nat.mul_comm (nv V)];omega
 have c:nv (U.drop j)<B^(n+1):=by
  rw[Nat.pow_succ];exact Nat.lt_of_lt_of_le b (Nat.mul_le_mul_right _ (Nat.le_of_lt a))
 have i:=a7e c;have f:=a1L (U.drop j) (n+1) (by simp;omega);rw[List.drop_drop]at f;have m:nv (U.drop (j+(n+1)))=0:=by
  by_cases k:nv (U.drop (j+(n+1)))=0
  ·exact k
  ·have:B^(n+1)*1<=B^(n+1)*nv (U.drop (j+(n+1))):=Nat.mul_le_mul_left _ (by omega)
   omega
 refine⟨by simp;omega,(g.drop j).take _,by rw[i];exact b,m,?_,?_,by simp;omega⟩
 ·rw[List.append_assoc]
  conv=>lhs;rw[<-List.take_append_drop j U]
  congr 1
  rw[<-List.drop_drop,List.take_append_drop]
 ·rw[i];exact a1L U j (by omega)
theorem a3z.next{N:Nat}{V U Q W':List Nat}{j n:Nat}(h:a3z N V U Q (j+1))(u:j+(n+1)<=U.length)(f:j<Q.length)(t:V.length=n)(c:Dig V)(d:Dig W')(E:W'.length=n+1)(b:nv W'=nv ((U.drop j).take (n+1))%nv V):a3z N V (U.take j++W'++U.drop (j+(n+1))) (Q.set j (nv ((U.drop j).take (n+1))/nv V)) j/\(U.take j++W'++U.drop (j+(n+1))).length=U.length:=by
 obtain⟨w1,F,v,m,G,w,z⟩:=h.win u t c;obtain⟨k,o,D,l⟩:=h;have a:0<nv V:=by omega
 have hq:nv ((U.drop j).take (n+1))/nv V<B:=by rw[Nat.div_lt_iff_lt_mul a,Nat.mul_comm];exact v
 have hdr:(U.take j++W'++U.drop (j+(n+1))).drop j=W'++U.drop (j+(n+1)):=by
  rw[List.append_assoc,List.drop_append_of_le_length (by omega),List.drop_of_length_le (by omega),List.nil_append]
 have g:nv ((U.take j++W'++U.drop (j+(n+1))).drop j)=nv W':=by rw[hdr,a3s,m];simp
 have i:nv (U.take j++W'++U.drop (j+(n+1)))=nv (U.take j)+B^j*nv W':=by
  rw[List.append_assoc,a3s,a3s,m,z];simp
 refine⟨⟨((k.take j).append d).append (k.drop _),o.set _ _ hq,?_,?_⟩,by simp;omega⟩
 ·rw[g,b];exact Nat.mod_lt _ a
 ·have s:nv ((Q.set j (nv ((U.drop j).take (n+1))/nv V)).drop j)=nv ((U.drop j).take (n+1))/nv V+B*nv (Q.drop (j+1)):=by
   rw[a4S (by simpa using f),List.getElem_set_self,List.drop_set_of_lt (by omega)]
  rw[i,s,b];rw[w]at l;rw[Nat.pow_succ]at l;have e:=Nat.div_add_mod (nv ((U.drop j).take (n+1))) (nv V);generalize nv ((U.drop j).take (n+1))/nv V=q at*;generalize nv ((U.drop j).take (n+1))%nv V=r at*;generalize nv ((U.drop j).take (n+1))=x at*;generalize nv (Q.drop (j+1))=y at*;generalize B^j=p at*;have A:nv V*(p*(q+B*y))=p*(nv V*q)+nv V*(p*B*y):=by
   rw[Nat.mul_add,Nat.mul_add,Nat.mul_left_comm (nv V) p q,Nat.mul_assoc p B y]
  have C:p*x=p*(nv V*q)+p*r:=by rw[<-e,Nat.mul_add]
  omega
theorem a3z.done{N a b s:Nat}{V U Q:List Nat}(h:a3z N V U Q 0)(l:N=a*2^s)(i:nv V=b*2^s):nv Q=a/b/\nv U/2^s=a%b/\nv U<nv V:=by
 obtain⟨n,o,f,d⟩:=h;simp only[List.drop_zero,Nat.pow_zero,Nat.one_mul]at f d;have j:0<2^s:=Nat.two_pow_pos s;rw[i]at f d;rw[l]at d;have e:nv U=2^s*(nv U/2^s):=by
  have p:nv U%2^s=0:=by
   have:(nv U+b*2^s*nv Q)%2^s=0:=by rw[d];exact Nat.mul_mod_left _ _
   rw[Nat.mul_right_comm,Nat.add_mul_mod_self_right]at this;exact this
  have:=Nat.div_add_mod (nv U) (2^s);omega
 have g:nv U/2^s<b:=by rw[Nat.div_lt_iff_lt_mul j];exact f
 have c:a=b*nv Q+nv U/2^s:=by
  have:a*2^s=(b*nv Q+nv U/2^s)*2^s:=by
   have k:b*nv Q*2^s=b*2^s*nv Q:=Nat.mul_right_comm _ _ _;rw[<-d,Nat.add_mul,k,Nat.mul_comm (nv U/2^s)];omega
  exact Nat.eq_of_mul_eq_mul_right j this
 have m:0<b:=Nat.lt_of_le_of_lt (Nat.zero_le _) g;refine⟨?_,?_,by rw[i];exact f⟩
 ·conv=>rhs;rw[c,Nat.mul_add_div m,Nat.div_eq_of_lt g,Nat.add_zero]
 ·conv=>rhs;rw[c,Nat.mul_add_mod,Nat.mod_eq_of_lt g]
theorem a3z.start{a s n m:Nat}{V U:List Nat}(f:Dig U)(j:U.length=m+1+n)(p:0<n)(b:nv U=a*2^s)(g:U.getD (m+n) 0<2^s)(r:s<32)(o:V.length=n)(c:B<=2*V.getD (n - 1) 0):a3z (a*2^s) V U (List.replicate (m+1) 0) (m+1):=by
 refine⟨f,Dig.zeros _,?_,?_⟩
 ·have k:(U.drop (m+1)).length=n:=by simp;omega
  have d:=a1L (U.drop (m+1)) (n - 1) (by omega);have e:=a1L V (n - 1) (by omega);have l:=a1z (f.drop (m+1)) (n - 1);have h:(U.drop (m+1)).drop (n - 1)= [U.getD (m+n) 0]:=by
   rw[List.drop_drop,List.drop_eq_getElem_cons (by omega),List.drop_of_length_le (by omega),a0u (by omega)]
   congr 2;omega
  have i:V.drop (n - 1)= [V.getD (n - 1) 0]:=by
   rw[List.drop_eq_getElem_cons (by omega),List.drop_of_length_le (by omega),a0u (by omega)]
  rw[h]at d;rw[i]at e;simp only[nv,Nat.mul_zero,Nat.add_zero]at d e;have q:(2:Nat)^s<=2^31:=Nat.pow_le_pow_right (by omega) (by omega);rw[a1b]at c;have:B^(n - 1)*(U.getD (m+n) 0+1)<=B^(n - 1)*V.getD (n - 1) 0:=Nat.mul_le_mul_left _ (by omega);rw[Nat.mul_add,Nat.mul_one]at this;omega
 ·rw[List.drop_of_length_le (by simp)];simpa[nv]using b
theorem a8A{x c W V W':Nat}{e:Nat}(g:0<V)(i:W/V<=x)(j:x<=W/V+1)(a:(c=0/\W'+x*V=W)\/(c=1/\W<x*V/\W'+x*V=W+e)):(c=0->x=W/V/\W'=W%V)/\(c=1->1<=x/\x - 1=W/V/\W'+V=W%V+e):=by
 have hd:=Nat.div_add_mod W V;have k:=Nat.mod_lt W g;generalize W/V=q at*;generalize W%V=r at*;refine⟨fun h=>?_,fun h=>?_⟩
 ·rcases a with⟨_,b⟩|⟨d,_⟩
  ·rcases(by omega:x=q\/x=q+1)with rfl|rfl
   ·refine⟨rfl,?_⟩;rw[Nat.mul_comm]at hd;omega
   ·rw[Nat.succ_mul,Nat.mul_comm q]at b;omega
  ·omega
 ·rcases a with⟨d,_⟩|⟨_,b,f⟩
  ·omega
  ·rcases(by omega:x=q\/x=q+1)with rfl|rfl
   ·rw[Nat.mul_comm]at hd;omega
   ·refine⟨by omega,by omega,?_⟩
    rw[Nat.succ_mul,Nat.mul_comm q]at f;omega
theorem b3l{b V:List Nat}{n t s:Nat}(p:Dig b)(q:b.length=n)(E:0<n)(y:b.getD (n - 1) 0=t)(F:s<32)(C:4294967296<=2*(t*2^s))(m:t*2^s<4294967296)(c:a0F V (nv b*2^s)):V.length=n/\B<=2*V.getD (n - 1) 0:=by
 have e:=a1L b (n - 1) (by omega);have o:=a1z p (n - 1);have j:b.drop (n - 1)= [t]:=by
  rw[List.drop_eq_getElem_cons (by omega),List.drop_of_length_le (by omega),<-y,a0u (by omega)]
 rw[j]at e;simp only[nv,Nat.mul_zero,Nat.add_zero]at e;have a:B^n=B^(n - 1)*B:=by rw[<-Nat.pow_succ];congr 1;omega
 have D:0<B^(n - 1):=Nat.pow_pos a1S;have i:2^s*2^(32 - s)=4294967296:=by rw[<-Nat.pow_add,show s+(32 - s)=32 by omega]
 have x:0<2^s:=Nat.two_pow_pos _;have f:(t+1)*2^s<=B:=by
  have:t<2^(32 - s):=by
   have:2^s*t<2^s*2^(32 - s):=by rw[i,Nat.mul_comm];exact m
   exact Nat.lt_of_mul_lt_mul_left this
  have:2^s*(t+1)<=2^s*2^(32 - s):=Nat.mul_le_mul_left _ this;rw[i,Nat.mul_comm]at this;rw[a1b];exact this
 have h:nv b*2^s=nv (b.take (n - 1))*2^s+B^(n - 1)*(t*2^s):=by rw[e,Nat.add_mul,Nat.mul_assoc]
 have g:nv b*2^s<B^n:=by
  have z:nv (b.take (n - 1))*2^s<B^(n - 1)*2^s:=Nat.mul_lt_mul_of_pos_right o x;have k:B^(n - 1)*((t+1)*2^s)<=B^(n - 1)*B:=Nat.mul_le_mul_left _ f;rw[Nat.add_mul,Nat.one_mul,Nat.mul_add]at k;rw[a,h];omega
 have w:B^(n - 1)*(t*2^s)<=nv b*2^s:=by rw[h];omega
 have u:V.length<=n:=by rw[c.len];exact a2t.2 g
 have v:¬V.length<=n - 1:=by
  rw[c.len,a2t];have:B^(n - 1)*1<=B^(n - 1)*(t*2^s):=Nat.mul_le_mul_left _ (by omega);omega
 have r:V.length=n:=by omega
 refine⟨r,?_⟩;have d:=a1L V (n - 1) (by omega);have A:=a1z c.1 (n - 1);have l:V.drop (n - 1)= [V.getD (n - 1) 0]:=by
  rw[List.drop_eq_getElem_cons (by omega),List.drop_of_length_le (by omega),a0u (by omega)]
 rw[l]at d;simp only[nv,Nat.mul_zero,Nat.add_zero]at d;rw[c.2.2]at d;have:B^(n - 1)*(t*2^s)<B^(n - 1)*(V.getD (n - 1) 0+1):=by rw[Nat.mul_add,Nat.mul_one];omega
 have:=Nat.lt_of_mul_lt_mul_left this;rw[a1b];omega
theorem b5G{W V:List Nat}{n:Nat}(f:W.length=n+1)(e:V.length=n)(g:2<=n)(b:Dig W)(a:Dig V)(d:B<=2*V.getD (n - 1) 0)(c:nv W<nv V*B):W.getD n 0<=V.getD (n - 1) 0/\nv W/nv V<=a7g B (W.getD n 0) (W.getD (n - 1) 0) (W.getD (n - 2) 0) (V.getD (n - 1) 0) (V.getD (n - 2) 0)/\a7g B (W.getD n 0) (W.getD (n - 1) 0) (W.getD (n - 2) 0) (V.getD (n - 1) 0) (V.getD (n - 2) 0)<=nv W/nv V+1:=by
 obtain⟨p,rfl⟩:∃p,n=p+2:=⟨n - 2,by omega⟩;rw[show p+2 - 1=p+1 from rfl,show p+2 - 2=p from rfl]at*;rw[a0u (l:=V) (i:=p+1) (by omega)]at d;rw[a0u (l:=W) (i:=p+2) (by omega),a0u (l:=W) (i:=p+1) (by omega),a0u (l:=W) (i:=p) (by omega),a0u (l:=V) (i:=p+1) (by omega),a0u (l:=V) (i:=p) (by omega)];exact b7g f e b a d c
theorem b5H{b a u0 v1 v0:Nat}:a7g B b a u0 v1 v0<4294967296:=by unfold a7g;rw[a1b];omega
theorem b3m{U:List Nat}{j n i:Nat}(hi:i<=n):((U.drop j).take (n+1)).getD i 0=U.getD (j+i) 0:=by
 simp only[List.getD_eq_getElem?_getD,List.getElem?_take_of_lt (Nat.lt_succ_of_le hi),List.getElem?_drop]
theorem b3n{V o a:List Nat}{W n c:Nat}(_:Dig V)(_:V.length=n)(b:0<nv V)(g:nv o+nv V=W%nv V+B^(n+1))(h:nv a+B^(n+1)*c=nv o+nv V)(k:c<=1)(f:Dig a)(e:a.length=n+1):nv a=W%nv V:=by
 have d:=a4o f;rw[e]at d;have i:=Nat.mod_lt W b;have j:B^n<=B^(n+1):=Nat.pow_le_pow_right a1S (by omega);rcases(by omega:c=0\/c=1)with rfl|rfl
 ·omega
 ·omega
end Go.Lim
namespace Go.Proofs.YtnnpfhoigmegcaaGreat
open Go.RowKit Go.Rep Go.Lim
theorem a3A(a b:Nat)(e:a<4294967296)(f:b<4294967296):bits .or .u32 (a:Int) (b:Int)=((a|||b:Nat):Int):=by
 have hx:a|||b<2^32:=Nat.or_lt_two_pow (by omega) (by omega);have c:(BitVec.ofInt 32 (a:Int)).toNat=a:=by
  rw[BitVec.ofInt_natCast,BitVec.toNat_ofNat];exact Nat.mod_eq_of_lt (by omega)
 have d:(BitVec.ofInt 32 (b:Int)).toNat=b:=by
  rw[BitVec.ofInt_natCast,BitVec.toNat_ofNat];exact Nat.mod_eq_of_lt (by omega)
 show IntKind.u32.wrap ((BitVec.ofInt 32 (a:Int)|||BitVec.ofInt 32 (b:Int)).toNat:Int)=_
 rw[BitVec.toNat_or,c,d,IntKind.wrap_u32];omega
theorem a2c(a b:Nat)(e:a<4294967296)(f:b<4294967296):bits .xor .u32 (a:Int) (b:Int)=((a^^^b:Nat):Int):=by
 have hx:a^^^b<2^32:=Nat.xor_lt_two_pow (by omega) (by omega);have c:(BitVec.ofInt 32 (a:Int)).toNat=a:=by
  rw[BitVec.ofInt_natCast,BitVec.toNat_ofNat];exact Nat.mod_eq_of_lt (by omega)
 have d:(BitVec.ofInt 32 (b:Int)).toNat=b:=by
  rw[BitVec.ofInt_natCast,BitVec.toNat_ofNat];exact Nat.mod_eq_of_lt (by omega)
 show IntKind.u32.wrap ((BitVec.ofInt 32 (a:Int)^^^BitVec.ofInt 32 (b:Int)).toNat:Int)=_
 rw[BitVec.toNat_xor,c,d,IntKind.wrap_u32];omega
theorem a2d(a b:Nat)(e:a<4294967296)(f:b<4294967296):bits .and .u32 (a:Int) (b:Int)=((a&&&b:Nat):Int):=by
 have hx:a&&&b<2^32:=Nat.and_lt_two_pow _ (by omega);have c:(BitVec.ofInt 32 (a:Int)).toNat=a:=by
  rw[BitVec.ofInt_natCast,BitVec.toNat_ofNat];exact Nat.mod_eq_of_lt (by omega)
 have d:(BitVec.ofInt 32 (b:Int)).toNat=b:=by
  rw[BitVec.ofInt_natCast,BitVec.toNat_ofNat];exact Nat.mod_eq_of_lt (by omega)
 show IntKind.u32.wrap ((BitVec.ofInt 32 (a:Int)&&&BitVec.ofInt 32 (b:Int)).toNat:Int)=_
 rw[BitVec.toNat_and,c,d,IntKind.wrap_u32];omega
theorem a7h(n:Nat)(h:n<4294967296):n/2147483648=(n.testBit 31).toNat:=by
 rw[Nat.testBit_eq_decide_div_mod_eq,show(2:Nat)^31=2147483648 from rfl];by_cases a:n/2147483648%2=1
 ·rw[decide_eq_true a];simp;omega
 ·rw[decide_eq_false a];simp;omega
theorem b1m(n:Nat):(4294967295^^^n).testBit 31= !n.testBit 31:=by
 rw[Nat.testBit_xor,show(4294967295:Nat)=2^32 - 1 from rfl,Nat.testBit_two_pow_sub_one];cases n.testBit 31<;>rfl
theorem b1n(x y d c:Nat)(hx:x<4294967296)(h:y<4294967296)(m:c<=1)(hd:d=a4e x y c):(((4294967295^^^x)&&&y)|||((4294967295^^^(x^^^y))&&&d))/2147483648=a5R x y c:=by
 have a:d<4294967296:=by rw[hd];unfold a4e;omega
 have k:(4294967295^^^x)&&&y<4294967296:=Nat.and_lt_two_pow (n:=32) _ h;have l:(4294967295^^^(x^^^y))&&&d<4294967296:=Nat.and_lt_two_pow (n:=32) _ a;rw[a7h _ (Nat.or_lt_two_pow (n:=32) k l),Nat.testBit_or,Nat.testBit_and,Nat.testBit_and,b1m x,b1m,Nat.testBit_xor];have i:=a7h x hx;have j:=a7h y h;have g:=a7h d a;rw[hd]at g |-;unfold a5R;unfold a4e at*;cases e:x.testBit 31<;>cases f:y.testBit 31<;>cases b:((x+4294967296 - y - c)%4294967296).testBit 31<;>simp[e,f,b]at i j g |- <;>omega
theorem a4z(x y c:Nat)(w:World)(hx:x<4294967296)(d:y<4294967296)(j:c<=1):Calls Tryz.prog 334 #[.int .u32 x, .int .u32 y, .int .u32 c] w fun e l=>w=l/\e= .returned (.tuple #[.int .u32 (a4e x y c:Nat), .int .u32 (a5R x y c:Nat)]):=by
 have i:=hid (b1n x y (a4e x y c) c hx d j rfl);go_enter Tryz.func334,Tryz.ntmps334
 go_wp2_with fail
 go_ret2
 refine⟨rfl,?_⟩;have b:x^^^y<4294967296:=Nat.xor_lt_two_pow (n:=32) hx d;have f:∀n:Nat,n<4294967296->4294967295^^^n<4294967296:=fun n h=>Nat.xor_lt_two_pow (n:=32) (by omega) h;have k:IntKind.u32.max=((4294967295:Nat):Int):=rfl;have hd:((x:Int) - y - c)%4294967296=(a4e x y c:Nat):=by unfold a4e;omega
 have a:a4e x y c<4294967296:=by unfold a4e;omega
 rw[k,hd,a2c _ _ (by decide) hx,a2c _ _ hx d,a2c _ _ (by decide) b,a2d _ _ (f _ hx) d,a2d _ _ (f _ b) a,
  a3A _ _ (Nat.and_lt_two_pow (n:=32) _ d) (Nat.and_lt_two_pow (n:=32) _ a)]
 have g:((((4294967295^^^x)&&&y|||(4294967295^^^(x^^^y))&&&a4e x y c:Nat):Int)/2147483648)=(a5R x y c:Nat):=by rw[<-i.out];rfl
 simp[g]
end Go.Proofs.YtnnpfhoigmegcaaGreat
namespace Go.Rep
open Go.RowKit Go.Lim
def a7P:Mem->Value->b8f->Prop:=fun h u x=>∃a1 c1 a2 c2,u= .agg #[.slice a1 x.1.length c1, .slice a2 x.2.length c2]/\x.1.length<=c1/\x.2.length<=c2/\Sl (a0v .i64) 1 h a1 x.1/\Sl (a0v .i64) 1 h a2 x.2
theorem a7P.mono:a2X a7P:=by
 rintro h k u x a ⟨b,d,c,e,rfl,f,g,i,j⟩;exact⟨b,d,c,e,rfl,f,g,i.mono (a0v.mono _) a,j.mono (a0v.mono _) a⟩
theorem a7P.elem:Elem a7P 2:=⟨a7P.mono,by rintro h u x ⟨b,e,d,f,rfl,_⟩;rfl,by
 rintro h u x ⟨b,e,d,f,rfl,_⟩ c a;simp[a0g,Value.cells]at a;rcases a with rfl|rfl<;>rfl,by decide⟩
theorem Sl.leaf{X:Nat->Bool}{w:World}{ao:Option Addr}{l:List b8f}(s:Sl a7P 2 (mk X w) ao l)(i:Nat)(hi:i<l.length):∃a c b d,w.cell? (adr ao (i*2))=some (.slice a l[i].1.length c)/\w.cell? (adr ao (i*2+1))=some (.slice b l[i].2.length d)/\l[i].1.length<=c/\l[i].2.length<=d/\Sl (a0v .i64) 1 (mk X w) a l[i].1/\Sl (a0v .i64) 1 (mk X w) b l[i].2:=by
 obtain⟨u,k,e,a,c,b,d,rfl,f,g,h,j⟩:=s.2 i hi;exact⟨a,c,b,d,a1i (e 0 (by simp[Value.cells])),a1i (e 1 (by simp[Value.cells])),f,g,h,j⟩
theorem Sl.unstep{α:Type}{R:Mem->Value->α->Prop}(d:a2X R){sz:Nat}{X:Nat->Bool}{w b:World}{oo a ao:Option Addr}{l:List α}(s:Sl R sz (mk (un X oo) w) ao l)(c:ExtX (ob oo) w b)(e:a=oo\/∃g,a=some ⟨g,0,none⟩/\w.heap.size<=g):Sl R sz (mk (un X a) b) ao l:=
 s.mono d (a2n c e)
theorem Sl.unX{α:Type}{R:Mem->Value->α->Prop}(a:a2X R){sz:Nat}{X:Nat->Bool}{w:World}{oo ao:Option Addr}{l:List α}(s:Sl R sz (mk (un X oo) w) ao l):Sl R sz (mk X w) ao l:=
 s.mono a (a1N fun _ _ b=>a0o b)
theorem Sl.old{α:Type}{R:Mem->Value->α->Prop}(d:a2X R){sz:Nat}{X:Nat->Bool}{w b:World}{oo ao:Option Addr}{l:List α}(s:Sl R sz (mk X w) ao l)(c:Ext w b)(e:∀j,j<w.heap.size->ob oo j=false):Sl R sz (mk (un X oo) b) ao l:=
 s.mono d (a0T c (fun k _ a=>by simp[noY]at a) fun j a hz=>by simpa[un,e j a]using hz)
def a2e(P:Program)(t sz:Nat):Prop:=∃fs ti,P.underlying t=some (.struct fs)/\P.info? t=some ti/\ti.size=sz
section
variable {P:Program} {ops:Array Oper} {Q:Exit->Act->World->Prop} {rest:List Oper} {a:Act} {w:World}
variable {α:Type} {R:Mem->Value->α->Prop} {sz:Nat} {X:Nat->Bool} {ao:Option Addr} {l:List α}
variable {d:Option Tmp} {ty:TypeId} {ps:String} {af:Array Edge}
theorem a0W{t:TypeId}{x:Operand}{k:Nat}(A:a2e P t sz)(i:Nat)(D:Sl R sz (mk X w) ao l)(hi:i<l.length)(hx:a.eval x= .pointer (some (adr ao k)))(C:k=i*sz)(f:∀h u y,R h u y->∃c,u= .agg c)(K:∀u,R (mk X w) u l[i]->wpList P ops Q rest (a.put d u) w):wpList P ops Q (⟨d, .load t x,ty,ps,af,none⟩::rest) a w:=by
 refine wpList_plain rfl fun E e=>?_;subst C;obtain⟨F,ti,p,q,r⟩:=A;obtain⟨u,s,z,n⟩:=D.2 i hi;obtain⟨c,rfl⟩:=f _ _ _ n;have o:=run_loadCells_list (P:=P) w (adr ao (i*sz)) c.toList (fun j v B=>by
  rw[a7c];obtain⟨g,b⟩:=List.getElem?_eq_some_iff.1 B;have:=a1i (z j (by simpa[Value.cells]using g));rw[this];simp[Value.cells]at b |-;exact b)
 have m:c.toList.length=sz:=by simpa[Value.cells]using s
 rw[m]at o;unfold Oper.wp;simp[execOp,hx,Instr.loadAt,Instr.sureAddr,loadVar,isAgg,run_underlying p,sizeOf,typeInfo,q,r,o,Result.andThen];exact e _ _ (K _ n)
end
theorem a7P.agg:∀h u y,a7P h u y->∃a,u= .agg a:=by rintro h u y ⟨b,d,c,e,rfl,_⟩;exact⟨_,rfl⟩
theorem OL.ob_ge{α:Type}{R:Mem->Value->α->Prop}{sz:Nat}{X:Nat->Bool}{a:Nat}{e:TypeId}{w:World}{ao:Option Addr}{b:Nat}{l:List α}(h:OL R sz X a e w ao b l){k:Nat}(d:w.heap.size<=k):ob ao k=false:=by
 cases c:ob ao k
 ·rfl
 ·have:=h.block c;omega
theorem a0H{P:Program}{ops:Array Oper}{Q:Exit->Act->World->Prop}{rest:List Oper}{a:Act}{w:World}{α:Type}{R:Mem->Value->α->Prop}{sz:Nat}{X:Nat->Bool}{f:Nat}{e:TypeId}{ao:Option Addr}{p:Nat}{l:List α}{d:Option Tmp}{ty:TypeId}{ps:String}{af:Array Edge}{t o:Nat}{z:Value}{m:Array Value}{s x:Operand}(T:SliceT P t e sz o z)(A:z.cells.size=sz)(E:Elem R sz)(i:f<=w.heap.size)(F:∀k,X k=true->k<w.heap.size)(n:Nat)(G:l.length=n)(H:a.eval s= .slice ao n p)(hx:a.eval x= .slice (some ⟨w.heap.size,0,none⟩) 1 1)(h:OL R sz X f e w ao p l)(u:Value)(y:α)(q:m=u.cells)(I:R (mk (un X ao) w) u y)(j:(n+1)*o<=140737488355328)(r:n+1<=9223372036854775807)(K:∀c b v,OL R sz X f e v c b (l++[y])->ExtX (ob ao) w v->(c=ao\/∃g,c=some ⟨g,0,none⟩/\w.heap.size<=g)->wpList P ops Q rest (a.put d (.slice c (n+1) b)) v):wpList P ops Q (⟨d, .call {callee:= .builtin .append,args:=#[s,x],argTypes:=#[t,t]},ty,ps,af,none⟩::rest) a (w.alloc (.cells m e)):=by
 subst G;exact a2J T A E i F H hx h u y q I j r fun c b v B C D=>by
  have:=K c b v B C D;rwa[show l.length+1=(l++[y]).length from by simp]at this
end Go.Rep
namespace Go.Proofs.YtnnpfhoigmegcaaGreat
open Go.RowKit Go.Rep Go.Lim
def a9A(w:World)(k:IntKind)(n:Nat)(e:Ending)(w':World):Prop:=e= .returned (.int k n)/\∃m,w'=w.drewN m
theorem a7i(a b:Nat)(d:a<4294967296)(f:b<4294967296):bits BinOp.or IntKind.u64 ((a:Int)*4294967296) (b:Int)=(a:Int)*4294967296+b:=by
 have e:=bits_or_u64_nat (a*4294967296) b (by omega) (by omega);have c:=Nat.two_pow_add_eq_or_of_lt (i:=32) (b:=b) (by omega) a;rw[Nat.mul_comm]at c;rw[<-c]at e;simpa using e
theorem b1o(j i u0 v1 v0:Nat)(w:World)(C:2147483648<=v1)(s:v1<4294967296)(n:j<=v1)(m:i<4294967296)(t:u0<4294967296)(g:v0<4294967296):Calls Tryz.prog 331 #[.int .u32 j, .int .u32 i, .int .u32 u0, .int .u32 v1, .int .u32 v0] w (a9A w .u64 (a7g B j i u0 v1 v0)):=by
 have I:((v1:Int)==0)=false:=a2v (by omega);have J:((v1:Int) !=0)=true:=a7B (by omega);have o:=a7i j i (by omega) m;have a:=hid a1b;have p:Hid (a6m B j i u0 v1 v0 ((j*4294967296+i)/v1) ((j*4294967296+i)%v1)):=hid (by
  have:=a6m.start (b:=B) (u0:=u0) (v0:=v0) (by rw[a1b];omega) (by rw[a1b];omega) n (by rw[a1b];exact m) (by rw[a1b];exact t);rwa[a1b]at this |-)
 go_enter Tryz.func331,Tryz.ntmps331
 go_wp2_with fail
 go_quiet (fail)
 go_wp2_with fail
 go_loop [12,13] (fun x y=>∃(q r:Nat),x= .int .u64 q/\y= .int .u64 r/\Hid (a6m B j i u0 v1 v0 q r)) (fun x _=>(intOf x).toNat)
 case atStart=>exact⟨_,_,by rw[Int.natCast_ediv];simp,by rw[Int.natCast_emod];simp,p⟩
 case round=>
  obtain⟨q,r,rfl,rfl,d⟩:=hrel;have hq:q<=4294967297:=by have:=d.out.2.2;rw[a.out]at this;exact this
  clear o I J p;have F:(q:Int)<=4294967297:=by omega
  by_cases K:(r:Int)<4294967296
  ·have o:=a7i r u0 (by omega) t
   by_cases f:4294967296<=q
   ·obtain⟨l,c⟩:=d.out.more (by rw[a.out];omega) (.inl (by rw[a.out];exact f)) (by omega)
    have k:=hid c;have h:(4294967296:Int)<=(q:Int):=by omega
    clear c f hq;go_wp2_with fail
    go_round
    case rel=>exact⟨q - 1,r+v1,by rw[Int.natCast_sub l];rfl,rfl,k⟩
    case measure=>simp[intOf];omega
   ·have v:q*v0<=4294967295*4294967295:=Nat.mul_le_mul (by omega) (by omega)
    have H:IntKind.u64.wrap ((q:Int)*(v0:Int))=(q:Int)*(v0:Int):=IntWalk.u64_in _ (by rw[<-Int.natCast_mul];omega);have A:(0:Int)<=(q:Int)*(v0:Int):=Int.mul_nonneg (by omega) (by omega);by_cases u:r*4294967296+u0<q*v0
    ·obtain⟨l,c⟩:=d.out.more (by rw[a.out];omega) (.inr (by rw[a.out];exact u)) (by omega)
     have k:=hid c;have G:decide ((r:Int)*4294967296+(u0:Int)<(q:Int)*(v0:Int))=true:=by rw[decide_eq_true_eq,<-Int.natCast_mul];omega
     have h:(q:Int)<4294967296:=by omega
     clear c v u f hq;go_wp2_with fail
     go_round
     case rel=>exact⟨q - 1,r+v1,by rw[Int.natCast_sub l];rfl,rfl,k⟩
     case measure=>simp[intOf];omega
    ·have h:(q:Int)<4294967296:=by omega
     have e:=hid (d.out.less (by rw[a.out];omega) (by rw[a.out];omega) n (by rw[a.out];exact m) (by rw[a.out];exact g) (.inr ⟨by rw[a.out];omega,by rw[a.out];omega⟩));have G:decide ((r:Int)*4294967296+(u0:Int)<(q:Int)*(v0:Int))=false:=by rw[decide_eq_false_iff_not,<-Int.natCast_mul];omega
     have z:decide ((4294967296:Int)<=(q:Int))=false:=decide_eq_false (by omega);have E:(u0:Int)<4294967296:=by omega
     have D:(v0:Int)<4294967296:=by omega
     clear v u f hq C s n m t g;go_wp2_with fail
     go_ret
     exact⟨a0I (congrArg Nat.cast e.out),_,rfl⟩
  ·have e:=hid (d.out.less (by rw[a.out];omega) (by rw[a.out];omega) n (by rw[a.out];exact m) (by rw[a.out];exact g) (.inl (by rw[a.out];omega)))
   clear hq C s n m t g;go_wp2_with fail
   go_ret
   exact⟨a0I (congrArg Nat.cast e.out),_,rfl⟩
theorem a5S(X:Nat->Bool)(ao:Option Addr)(l:List Nat)(v s:Nat)(w:World)(M:Sl (a0b .u32) 1 (mk X w) ao l)(hd:Dig l)(T:l.length<=1099511627776)(H:s<32)(O:∀k,X k=true->k<w.heap.size):Calls Tryz.prog 330 #[.slice ao l.length v, .int .i64 s] w (fun e N=>Ext w N/\∃oo o,e= .returned (.slice oo o.length o.length)/\OL (a0b .u32) 1 X w.heap.size 110 N oo o.length o/\Hid (o.length=l.length+1/\Dig o/\o.getD l.length 0<2^s/\nv o=nv l*2^s)):=by
 have R:=M.hd;go_enter Tryz.func330,Tryz.ntmps330
 go_wp2_with (at_make;refine a1G a0M (a0b.elem .u32) 0 (fun _=>rfl) X O w.heap.size (Nat.le_refl _) (l.length+1) rfl rfl (by omega) (by omega) (by omega) ?_;intro oo w1 L n)
 go_loopw [15] (fun c wr=>∃(k:Nat) (o:List Nat),c= .int .i64 k/\k<=l.length/\Hid (a7f l o s k)/\Hid (o.length=l.length+1)/\OL (a0b .u32) 1 X w.heap.size 110 wr oo (l.length+1) o/\Ext w wr) (fun c _=>l.length - (intOf c).toNat)
 case atStart=>exact⟨0,_,rfl,by omega,hid (a7f.start l s),hid (by simp),L,n⟩
 case round=>
  obtain⟨k,o,rfl,S,a,d,b,i⟩:=hrel;clear L n;have P:Hd oo (l.length+1):=d.out▸b.hd;by_cases j:k<l.length
  ·have B:=(M.mono (a0b.mono _) (a0l i)).nat k j
   have f:k<o.length:=by rw[d.out];omega
   have C:=(b.sl (a0b.elem _)).nat k f;obtain⟨x,hx⟩:∃x,l[k]=x:=⟨_,rfl⟩;obtain⟨lo,g⟩:∃lo,o[k]=lo:=⟨_,rfl⟩;obtain⟨m,J,K,u⟩:=a.out.step (lo:=lo) j hx ((a0u f).trans g) hd H;have I:=hd.get k j;rw[hx,a1b]at I;rw[hx]at B;rw[g]at C;have h:=a.out.2.1.get k f;rw[g,a1b]at h;obtain⟨p,G⟩:∃p,x*2^s=p:=⟨_,rfl⟩;rw[G]at m J K u;have t:=hid m;have U:IntKind.u64.wrap ((x:Int)*2^s)=(p:Int):=by
    have e:(x:Int)*2^s=(p:Int):=by rw[<-G];simp
    rw[e];exact IntWalk.u64_in _ (by omega)
   have Q:bits BinOp.or IntKind.u32 (lo:Int) ((p:Int)%4294967296)=((lo|||p%4294967296:Nat):Int):=by
    have:=a3A lo (p%4294967296) h (Nat.mod_lt _ (by decide));simpa using this
   have E:=hid u;clear hx g a G m J K u;go_wp2_with (first|(with_reducible refine a0m a0M (by omega) (by assumption) ?_)|((with_reducible show wpList _ _ _ (⟨_, .store _ _ _,_,_,_,_⟩::_) _ _);first|(refine a0O a3x k (lo|||p%4294967296) rfl rfl b f rfl rfl ?_;intro V q y)|(refine a0O a3x (k+1) (p/4294967296) rfl rfl q (by simp;rw[d.out];omega) rfl (by have:=E.out;omega) ?_;intro W A z)))
   have r:Hid (((o.set k (lo|||p%4294967296)).set (k+1) (p/4294967296)).length=l.length+1):=hid (by simp;exact d.out);go_roundw
   case rel=>exact⟨k+1,_,by go_num,by omega,t,r,A,(i.own b (Nat.le_refl _) y).own q (Nat.le_refl _) z⟩
   case measure=>simp[intOf];omega
  ·have F:k=l.length:=by omega
   subst F;have D:=hid a.out.done;rw[<-d.out]at b |-;go_wp2_with fail
   go_ret
   exact⟨i,_,o,rfl,b,D⟩
def b4F(X:Nat->Bool)(base g cU:Nat)(w:World)(A R:List Nat)(P:List Nat->Ending->Prop)(e:Ending)(w':World):Prop:=
 ExtX (ob (some ⟨g,0,none⟩)) w w'/\∃o:List Nat,P o e/\OL (a0b .u32) 1 X base 110 w' (some ⟨g,0,none⟩) cU (A++o++R)
theorem b1p{A o R:List Nat}{k:Nat}(h:k<o.length):(A++o++R)[A.length+k]'(by simp;omega)=o[k]:=by
 rw[List.getElem_append_left (by simp;omega),List.getElem_append_right (by omega)];simp
theorem a7j{A o R:List Nat}{k d:Nat}(h:k<o.length):(A++o++R).set (A.length+k) d=A++o.set k d++R:=by
 rw[List.append_assoc,List.set_append_right _ _ (by omega),List.append_assoc]
 congr 1
 rw[show A.length+k - A.length=k by omega,List.set_append_left _ _ h]
theorem a7k(g a k:Nat):Value.pointer (some (⟨g,a+k,none⟩:Addr))= .pointer (some (adr (some ⟨g,0,none⟩) (a+k))):=by rw[a0U,Nat.zero_add]
def b8X(W V:List Nat)(x n:Nat)(o:List Nat)(e:Ending):Prop:=∃bo:Nat,e= .returned (.bool (decide (bo=1)))/\o.length=n+1/\Dig o/\((bo=0/\nv o+x*nv V=nv W)\/(bo=1/\nv W<x*nv V/\nv o+x*nv V=nv W+B^(n+1)))
theorem b0p(X:Nat->Bool)(m g cU cw:Nat)(A W R V:List Nat)(vo:Option Addr)(cv x n:Nat)(w:World)(hU:OL (a0b .u32) 1 X m 110 w (some ⟨g,0,none⟩) cU (A++W++R))(Y:Sl (a0b .u32) 1 (mk (un X (some ⟨g,0,none⟩)) w) vo V)(hW:W.length=n+1)(hV:V.length=n)(G:Dig V)(a3:Dig W)(hx:x<4294967296)(_:A.length<=1099511627776)(hn:n<=1099511627776):Calls Tryz.prog 332 #[.slice (some ⟨g,A.length,none⟩) W.length cw, .slice vo V.length cv, .int .u64 x] w (b4F X m g cU w A R (b8X W V x n)):=by
 have b4:=Y.hd;have b5:Hd (some (⟨g,A.length,none⟩:Addr)) W.length:=fun _=>⟨_,_,rfl⟩;have a4:=hid hW;have a2:=hid hV;have P:Hid (x<B):=hid (by rw[a1b];exact hx);have b3:W.length<=1099511627777:=by omega
 have b2:V.length<=1099511627776:=by omega
 clear hW hV;go_enter Tryz.func332,Tryz.ntmps332
 go_wp2_with fail
 go_loopw [7,8,13] (fun a b c wr=>∃(k F l:Nat) (o:List Nat),a= .int .u64 F/\b= .int .u32 l/\c= .int .i64 k/\k<=W.length/\F<4294967296/\l<=1/\Hid (a4w W V x o k F l)/\Hid (o.length=W.length)/\OL (a0b .u32) 1 X m 110 wr (some ⟨g,0,none⟩) cU (A++o++R)/\ExtX (ob (some ⟨g,0,none⟩)) w wr) (fun _ _ c _=>W.length - (intOf c).toNat)
 case atStart=>exact⟨0,0,0,W,rfl,rfl,rfl,by omega,by omega,by omega,hid (a4w.start a3),hid rfl,hU,ExtX.refl _⟩
 case round=>
  obtain⟨k,F,l,o,rfl,rfl,rfl,hk,L,Z,f,O,r,p⟩:=hrel;clear hU;by_cases N:k<W.length
  ·have C:k<o.length:=by rw[O.out];exact N
   have u:A.length+k<(A++o++R).length:=by simp;omega
   have j:=(r.sl (a0b.elem _)).nat (A.length+k) u;rw[b1p C]at j;obtain⟨z,hz⟩:∃z,o[k]=z:=⟨_,rfl⟩;rw[hz]at j;have b0:wr.cell? ⟨g,A.length+k,none⟩=some (.int .u32 z):=by rw[a0U,Nat.zero_add]at j;exact j
   have s:=Y.unstep (a0b.mono _) p (.inl rfl);by_cases M:k<V.length
   ·have a5:=s.nat k M
    obtain⟨y,hy⟩:∃y,V[k]=y:=⟨_,rfl⟩;rw[hy]at a5;obtain⟨h,b1,Q⟩:=f.out.step (y:=y) (z:=z) N ((a0u M).trans hy) ((a0u C).trans hz) G P.out;have a9:=G.get k M;rw[hy,a1b]at a9;obtain⟨t,ht⟩:∃t,F+x*y=t:=⟨_,rfl⟩;rw[ht]at h b1;have i:=hid h;have b6:IntKind.u64.wrap ((x:Int)*(y:Int))=(x:Int)*(y:Int):=IntWalk.u64_in _ (by rw[<-Int.natCast_mul];omega);have b7:IntKind.u64.wrap ((F:Int)+(x:Int)*(y:Int))=(t:Int):=by
     rw[<-ht,Int.natCast_add,Int.natCast_mul];exact IntWalk.u64_in _ (by rw[<-Int.natCast_mul];omega)
    have a8:(t:Int)%4294967296=((t%4294967296:Nat):Int):=by omega
    have H:t%4294967296<4294967296:=Nat.mod_lt _ (by decide);obtain⟨S,I⟩:∃S,t%4294967296=S:=⟨_,rfl⟩;rw[I]at a8 H i;have E:=hid (a7j (A:=A) (R:=R) (d:=a4e z S l) C);have a0:t/4294967296<4294967296:=by omega
    have v:a5R z S l<=1:=by unfold a5R;split<;>omega
    have D:Hid ((o.set k (a4e z S l)).length=W.length):=hid (by rw[List.length_set];exact O.out);clear h hz hy f ht b1 s j I;go_wp2_with (first|(with_reducible refine a0m a0M (by omega) (by assumption) ?_)|(go_at_call 334;refine(a4z _ _ _ _ Q H Z).mono ?_;rintro e w' ⟨rfl,rfl⟩)|((with_reducible show wpList _ _ _ (⟨_, .store _ _ _,_,_,_,_⟩::_) _ _);refine a0O a3x (A.length+k) (a4e z S l) (a7k g A.length k) rfl r u rfl rfl ?_;intro w3 q K))
    rw[E.out]at q;go_roundw
    case rel=>exact⟨k+1,_,_,_,by simp,rfl,by go_num,by omega,a0,v,i,D,q,p.trans K⟩
    case measure=>simp[intOf];omega
   ·obtain⟨h,b1,Q⟩:=f.out.step (y:=0) (z:=z) N (a3O (by omega)) ((a0u C).trans hz) G P.out
    rw[Nat.mul_zero,Nat.add_zero,Nat.mod_eq_of_lt L,Nat.div_eq_of_lt L]at h;have i:=hid h;have E:=hid (a7j (A:=A) (R:=R) (d:=a4e z F l) C);have v:a5R z F l<=1:=by unfold a5R;split<;>omega
    have D:Hid ((o.set k (a4e z F l)).length=W.length):=hid (by rw[List.length_set];exact O.out);clear h hz f b1 s j;go_wp2_with (first|(with_reducible refine a0m a0M (by omega) (by assumption) ?_)|(go_at_call 334;refine(a4z _ _ _ _ Q L Z).mono ?_;rintro e w' ⟨rfl,rfl⟩)|((with_reducible show wpList _ _ _ (⟨_, .store _ _ _,_,_,_,_⟩::_) _ _);refine a0O a3x (A.length+k) (a4e z F l) (a7k g A.length k) rfl r u rfl rfl ?_;intro w3 q K))
    rw[E.out]at q;go_roundw
    case rel=>exact⟨k+1,0,_,_,congrArg (Value.int .u64) (Int.ediv_eq_zero_of_lt (by omega) (by omega)),rfl,by go_num,by omega,by omega,v,i,D,q,p.trans K⟩
    case measure=>simp[intOf];omega
  ·have a7:k=W.length:=by omega
   subst a7;have a6:=f.out.done a4.out a2.out G P.out;clear f;obtain⟨d1,d2,d3⟩:=a6;have T:=hid d1;have a1:=hid d3;clear d1;clear a1;rcases d3 with⟨rfl,U⟩|⟨rfl,U⟩
   ·have J:=hid U
    clear U;go_wp2_with fail
    go_ret
    exact⟨p,o,⟨0,rfl,T.out,d2, .inl ⟨rfl,J.out⟩⟩,r⟩
   ·have J:=hid U
    clear U;go_wp2_with fail
    go_ret
    exact⟨p,o,⟨1,rfl,T.out,d2, .inr ⟨rfl,J.out⟩⟩,r⟩
def b8Y(W V:List Nat)(n:Nat)(o:List Nat)(e:Ending):Prop:=∃c:Nat,e= .returned (.tuple #[])/\o.length=n+1/\Dig o/\c<=1/\nv o+B^(n+1)*c=nv W+nv V
theorem a8B(X:Nat->Bool)(i g L cw:Nat)(A W R V:List Nat)(vo:Option Addr)(cv n:Nat)(w:World)(T:OL (a0b .u32) 1 X i 110 w (some ⟨g,0,none⟩) L (A++W++R))(H:Sl (a0b .u32) 1 (mk (un X (some ⟨g,0,none⟩)) w) vo V)(Y:W.length=n+1)(U:V.length=n)(C:Dig V)(N:Dig W)(_:A.length<=1099511627776)(hn:n<=1099511627776):Calls Tryz.prog 333 #[.slice (some ⟨g,A.length,none⟩) W.length cw, .slice vo V.length cv] w (b4F X i g L w A R (b8Y W V n)):=by
 have a2:=H.hd;have a3:Hd (some (⟨g,A.length,none⟩:Addr)) W.length:=fun _=>⟨_,_,rfl⟩;have O:=hid Y;have M:=hid U;have a1:W.length<=1099511627777:=by omega
 have a0:V.length<=1099511627776:=by omega
 clear Y U;go_enter Tryz.func333,Tryz.ntmps333
 go_wp2_with fail
 go_loopw [4,9] (fun a c wr=>∃(k f:Nat) (o:List Nat),a= .int .u32 f/\c= .int .i64 k/\k<=W.length/\f<=1/\Hid (a4x W V o k f)/\Hid (o.length=W.length)/\OL (a0b .u32) 1 X i 110 wr (some ⟨g,0,none⟩) L (A++o++R)/\ExtX (ob (some ⟨g,0,none⟩)) w wr) (fun _ c _=>W.length - (intOf c).toNat)
 case atStart=>exact⟨0,0,W,rfl,rfl,by omega,by omega,hid (a4x.start N),hid rfl,T,ExtX.refl _⟩
 case round=>
  obtain⟨k,f,o,rfl,rfl,hk,I,b,F,x,v⟩:=hrel;clear T;by_cases E:k<W.length
  ·have q:k<o.length:=by rw[F.out];exact E
   have m:A.length+k<(A++o++R).length:=by simp;omega
   have h:=(x.sl (a0b.elem _)).nat (A.length+k) m;rw[b1p q]at h;obtain⟨z,hz⟩:∃z,o[k]=z:=⟨_,rfl⟩;rw[hz]at h;have Z:wr.cell? ⟨g,A.length+k,none⟩=some (.int .u32 z):=by rw[a0U,Nat.zero_add]at h;exact h
   have l:=H.unstep (a0b.mono _) v (.inl rfl);by_cases D:k<V.length
   ·have P:=l.nat k D
    obtain⟨y,K⟩:∃y,V[k]=y:=⟨_,rfl⟩;rw[K]at P;obtain⟨t,G⟩:=b.out.step (y:=y) (z:=z) E ((a0u D).trans K) ((a0u q).trans hz) C;have J:=C.get k D;rw[K,a1b]at J;have u:=hid t;have s:=hid (a7j (A:=A) (R:=R) (d:=(z+y+f)%4294967296) q);have p:(z+y+f)/4294967296<=1:=by omega
    have r:Hid ((o.set k ((z+y+f)%4294967296)).length=W.length):=hid (by rw[List.length_set];exact F.out);clear t hz K b l h;go_wp2_with (first|(with_reducible refine a0m a0M (by omega) (by assumption) ?_)|(go_at_call 242;refine(a4u _ _ _ _ G J I).mono ?_;rintro e w' ⟨rfl,rfl⟩)|((with_reducible show wpList _ _ _ (⟨_, .store _ _ _,_,_,_,_⟩::_) _ _);refine a0O a3x (A.length+k) ((z+y+f)%4294967296) (a7k g A.length k) rfl x m rfl rfl ?_;intro w3 j B))
    rw[s.out]at j;go_roundw
    case rel=>exact⟨k+1,_,_,rfl,by go_num,by omega,p,u,r,j,v.trans B⟩
    case measure=>simp[intOf];omega
   ·obtain⟨t,G⟩:=b.out.step (y:=0) (z:=z) E (a3O (by omega)) ((a0u q).trans hz) C
    have u:=hid t;have s:=hid (a7j (A:=A) (R:=R) (d:=(z+0+f)%4294967296) q);have p:(z+0+f)/4294967296<=1:=by omega
    have r:Hid ((o.set k ((z+0+f)%4294967296)).length=W.length):=hid (by rw[List.length_set];exact F.out);clear t hz b l h;go_wp2_with (first|(with_reducible refine a0m a0M (by omega) (by assumption) ?_)|(go_at_call 242;refine(a4u _ 0 _ _ G (by omega) I).mono ?_;rintro e w' ⟨rfl,rfl⟩)|((with_reducible show wpList _ _ _ (⟨_, .store _ _ _,_,_,_,_⟩::_) _ _);refine a0O a3x (A.length+k) ((z+0+f)%4294967296) (a7k g A.length k) rfl x m rfl rfl ?_;intro w3 j B))
    rw[s.out]at j;go_roundw
    case rel=>exact⟨k+1,_,_,rfl,by go_num,by omega,p,u,r,j,v.trans B⟩
    case measure=>simp[intOf];omega
  ·have S:k=W.length:=by omega
   subst S;have Q:=hid (b.out.done O.out M.out);go_wp2_with fail
   exact bodyPost_end (results_none rfl _ _ _) rfl ⟨v,o,⟨f,rfl,Q.out⟩,x⟩
def b7h(X:Nat->Bool)(w:World)(na nb:Nat)(e:Ending)(w':World):Prop:=
 Ext w w'/\∃ao cap l,e= .returned (.tuple #[.slice ao l.length cap, .bool (decide (nb<=na))])/\l.length<=cap/\a0F l (na - nb)/\Sl (a0b .u32) 1 (mk X w') ao l
theorem b5I(X:Nat->Bool)(ao bo:Option Addr)(G H:List Nat)(ca cb:Nat)(w:World)(V:Sl (a0b .u32) 1 (mk X w) ao G)(Y:Sl (a0b .u32) 1 (mk X w) bo H)(p:Dig G)(q:Dig H)(R:G.length<=1099511627776)(S:H.length<=1099511627776)(z:G.length<=ca)(A:H.length<=cb)(hX:∀k,X k=true->k<w.heap.size)(u nb:Nat)(T:val G=u)(U:val H=nb):Calls Tryz.prog 307 #[.slice ao G.length ca, .slice bo H.length cb] w (b7h X w u nb):=by
 go_enter Tryz.func307,Tryz.ntmps307
 go_wp2_with fail
 refine(a1e X _ _ _ _ V p (by omega) z).mono ?_;rintro e w' ⟨rfl,b2,b4,a,rfl,O,K,d,l⟩;go_wp2_with fail
 refine(a1e X _ _ _ _ Y q (by omega) A).mono ?_;rintro e w' ⟨rfl,b3,b5,b,rfl,P,M,f,m⟩;rw[T]at d;rw[U]at f;have L:a.length<=1099511627776:=Nat.le_trans K R;have N:b.length<=1099511627776:=Nat.le_trans M S;have a1:=hid d.val;have a2:=hid f.val;clear T U K M V Y R S z A p q;go_wp2_with fail
 refine(a3a X _ _ _ _ _ _ _ l m d.1 f.1 L N O P u nb a1.out a2.out).mono ?_;rintro e w1 ⟨s,rfl⟩;by_cases j:u<nb
 ·have hc:a2D u nb<0:=(a3t _ _).2 j
  have hd:Hid (decide (nb<=u)=false):=hid (decide_eq_false (by omega));have hz:Hid (u - nb=0):=hid (by omega);clear j;go_wp2_with fail
  go_ret2
  exact⟨s,none,0,[],by rw[hd.out];rfl,by simp,by rw[hz.out];exact a0F.nil,Sl.nil _ _ _ _⟩
 ·have hc:¬a2D u nb<0:=fun h=>j ((a3t _ _).1 h)
  have hd:Hid (decide (nb<=u)=true):=hid (decide_eq_true (by omega));have a4:b.length<=a.length:=by rw[d.len,f.len];exact a0Y (by omega)
  have a8:Hid (nv b<=nv a):=hid (by rw[d.2.2,f.2.2];omega);have a0:Hid (nv a - nv b=u - nb):=hid (by rw[d.2.2,f.2.2]);have a3:∀k,X k=true->k<w1.heap.size:=fun k hk=>Nat.lt_of_lt_of_le (hX k hk) s.size;have W:=l.mono (a0b.mono _) (a0l s);have Z:=m.mono (a0b.mono _) (a0l s);have p:=d.1;have q:=f.1;have b6:=l.hd;have b7:=m.hd;clear j d f a1 a2 l m;go_wp2_with (at_make;refine a1G a0M (a0b.elem .u32) 0 (fun _=>rfl) X a3 w1.heap.size (Nat.le_refl _) a.length rfl rfl (by omega) (by omega) (by omega) ?_;intro oo w2 hO J)
  go_loopw [7,24] (fun c i wr=>∃(k:Nat) (o:List Nat) (I:Nat),i= .int .i64 k/\c= .int .u32 I/\k<=a.length/\a4v a b o k I/\OL (a0b .u32) 1 X w1.heap.size 110 wr oo a.length o/\Ext w1 wr) (fun _ i _=>a.length - (intOf i).toNat)
  case atStart=>exact⟨0,_,0,rfl,rfl,by omega,a4v.start a b,hO,J⟩
  case round=>
   obtain⟨k,o,I,rfl,rfl,hk,g,n,t⟩:=hrel;clear hO J;have Q:=g.2.2.1;have r:=hid g.1;have b8:Hd oo a.length:=r.out▸n.hd;by_cases j:k<a.length
   ·have z:=(W.mono (a0b.mono _) (a0l t)).nat k j
    have v:=p.get k j;obtain⟨x,hx⟩:∃x,a[k]=x:=⟨_,rfl⟩;rw[hx]at z v;rw[a1b]at v;by_cases E:k<b.length
    ·have A:=(Z.mono (a0b.mono _) (a0l t)).nat k E
     have D:=q.get k E;obtain⟨y,hy⟩:∃y,b[k]=y:=⟨_,rfl⟩;rw[hy]at A D;rw[a1b]at D;have F:=g.step (y:=y) j hx ((a0u E).trans hy) p q;clear hx hy;go_wp2_with (first|(with_reducible refine a0m a0M (by omega) (by assumption) ?_)|(go_at_call 334;refine(a4z _ _ _ _ v D Q).mono ?_;rintro e w' ⟨rfl,rfl⟩)|((with_reducible show wpList _ _ _ (⟨_, .store _ _ _,_,_,_,_⟩::_) _ _);refine a0O a3x k (a4e x y I) rfl (by omega) n (by rw[r.out];omega) rfl rfl ?_;intro w3 C B))
     go_roundw
     case rel=>exact⟨k+1,_,_,by go_num,rfl,by omega,F,C,t.own n (Nat.le_refl _) B⟩
     case measure=>simp[intOf];omega
    ·have F:=g.step j hx (a3O (by omega)) p q
     clear hx;go_wp2_with (first|(with_reducible refine a0m a0M (by omega) (by assumption) ?_)|(go_at_call 334;refine(a4z _ 0 _ _ v (by omega) Q).mono ?_;rintro e w' ⟨rfl,rfl⟩)|((with_reducible show wpList _ _ _ (⟨_, .store _ _ _,_,_,_,_⟩::_) _ _);refine a0O a3x k (a4e x 0 I) rfl (by omega) n (by rw[r.out];omega) rfl rfl ?_;intro w3 C B))
     go_roundw
     case rel=>exact⟨k+1,_,_,by go_num,rfl,by omega,F,C,t.own n (Nat.le_refl _) B⟩
     case measure=>simp[intOf];omega
   ·have a6:k=a.length:=by omega
    subst a6;have a5:=hid (g.done a4 a8.out);have a9:=g.2.1;have b1:=n.sl (a0b.elem .u32);go_wp2_with fail
    rw[<-r.out];refine(a1v X _ _ _ _ b1 a9 (by rw[r.out];omega) (by rw[r.out];exact Nat.le_refl _)).mono ?_;rintro e w' ⟨rfl,l',rfl,a7,hc,b0⟩;go_wp2_with fail
    go_ret2
    rw[a5.out,a0.out]at hc;exact⟨s.trans t,_,o.length,l',by rw[hd.out];rfl,a7,hc,b0⟩
end Go.Proofs.YtnnpfhoigmegcaaGreat
