/- Parts of a proof: each theorem states what it proves, and its conditions. -/
import Derived.Test.YtidbbddagfnfbaaGreatSgB
import Derived.Deep.QuietTactic
import Derived.BigQuiet
import Derived.Laws.Bits64b
namespace Go.Proofs.YtidbbddagfnfbaaGreat
open Go.RowKit Go.Rep Go.Lim
def a4v (w:World) (v:Int) (e:Ending) (w':World):Prop:=Ext w w'/\e= .returned (.int .i64 v)
theorem a3w (X:Nat->Bool) (ao U:Option Addr) (r s:List Nat) (S R:Nat) (w:World) (F:Sl (a0c .u32) 1 (mk X w) ao r) (y:Sl (a0c .u32) 1 (mk X w) U s)
  (I:Dig r) (L:Dig s) (H:r.length<=1099511627776) (u:s.length<=1099511627776) (C:r.length<=S) (B:s.length<=R) (Q nb:Nat) (D:val r=Q) (x:val s=nb):
  Calls Tryz.prog 196 #[.slice ao r.length S, .slice U s.length R] w (a4v w (a3a Q nb)):=by
 go_enter Tryz.func196,Tryz.ntmps196
 go_wp2_with fail
 refine(a1s X _ _ _ _ F I (by omega) C).mono ?_;rintro e V ⟨rfl,n,z,a,rfl,O,v,d,m⟩;go_wp2_with fail
 refine(a1s X _ _ _ _ y L (by omega) B).mono ?_;rintro e V ⟨rfl,o,E,b,rfl,P,j,c,l⟩;rw[D]at d;rw[x]at c;have T:a.length<=1099511627776:=Nat.le_trans v H;have N:b.length<=1099511627776:=Nat.le_trans j u;clear D x v j F y H u C B;have J:=m.hd;have M:=l.hd;by_cases f:a.length<b.length
 ·have g:=hid (a4s d c f)
  have A:((a.length:Int) !=b.length)=true:=a6X (by omega);go_wp2_with fail
  go_ret
  exact⟨ExtX.refl _,a0P g.out.symm⟩
 by_cases t:b.length<a.length
 ·have g:=hid (a4t d c t)
  have A:((a.length:Int) !=b.length)=true:=a6X (by omega);go_wp2_with fail
  go_ret
  exact⟨ExtX.refl _,a0P g.out.symm⟩
 have A:((a.length:Int) !=b.length)=false:=a6q (by omega);have p:Hid (a.length=b.length):=hid (by omega);have j:b.length<=a.length:=by omega
 have Z:a.length<=b.length:=by omega
 clear f t;go_wp2_with fail
 go_loopw [5] (fun i wr=>∃k:Nat,i= .int .i64 ((k:Int) - 1)/\k<=a.length/\Hid (a.drop k=b.drop k)/\Ext w wr) (fun i _=>(intOf i+1).toNat)
 case atStart=>exact⟨a.length,rfl,Nat.le_refl _,hid (by rw[List.drop_of_length_le (Nat.le_refl _),List.drop_of_length_le j]),ExtX.refl _⟩
 case round=>
  obtain⟨k,rfl,K,h,q⟩:=hrel;by_cases f:0<k
  ·have c1:=(m.mono (a0c.mono _) (a0l q)).nat (k - 1) (by omega)
   have c2:=(l.mono (a0c.mono _) (a0l q)).nat (k - 1) (by omega);have i1:∀W,(Instr.indexAt 41 (.slice n a.length z) (.int .i64 ((k:Int) - 1))).run Tryz.prog W= .ok (.pointer (some (adr n (k - 1)))) W:=a0z a0R n a.length z .i64 (k - 1) J (by omega) (by omega);have i2:∀W,(Instr.indexAt 41 (.slice o b.length E) (.int .i64 ((k:Int) - 1))).run Tryz.prog W= .ok (.pointer (some (adr o (k - 1)))) W:=a0z a0R o b.length E .i64 (k - 1) M (by omega) (by omega);by_cases h1:a[k - 1]<b[k - 1]
   ·have g:=hid (a7k d c p.out f K h.out h1)
    have t1:((a[k - 1]:Int)<(b[k - 1]:Int)):=by omega
    go_wp2_with fail
    go_quiet (fail)
    go_wp2_with fail
    go_ret
    exact⟨q.drewN _,a0P g.out.symm⟩
   by_cases Y:b[k - 1]<a[k - 1]
   ·have g:=hid (a7l d c p.out f K h.out Y)
    go_wp2_with fail
    go_quiet (fail)
    go_wp2_with fail
    go_quiet (fail)
    go_wp2_with fail
    go_ret
    exact⟨(q.drewN _).drewN _,a0P g.out.symm⟩
   ·have G:=hid (a5J p.out f K h.out (by omega))
    go_wp2_with fail
    go_quiet (fail)
    go_wp2_with fail
    go_quiet (fail)
    go_wp2_with fail
    go_roundw
    case rel=>exact⟨k - 1,by go_num,by omega,G,q.drewN _⟩
    case measure=>simp[intOf];omega
  ·have g:=hid (a7m d c (k:=k) (by omega) h.out)
   go_wp2_with fail
   go_ret
   exact⟨q,a0P g.out.symm⟩
theorem b2I (hi lo y:Nat) (w:World) (m:hi<y) (l:y<4294967296) (p:lo<4294967296):
  Calls Tryz.prog 306 #[.int .u32 hi, .int .u32 lo, .int .u32 y] w (fun e j=>Ext w j/\e= .returned (.tuple #[.int .u32 ((hi*4294967296+lo)/y:Nat), .int .u32 ((hi*4294967296+lo)%y:Nat)])):=by
 have n:((y:Int)==0)=false:=a2w (by omega);have o:((y:Int) !=0)=true:=a6X (by omega);have k:bits BinOp.or IntKind.u64 ((hi:Int)*4294967296) (lo:Int)=(hi:Int)*4294967296+lo:=by
  have e:=bits_or_u64_nat (hi*4294967296) lo (by omega) (by omega);have a:=Nat.two_pow_add_eq_or_of_lt (i:=32) (b:=lo) (by omega) hi;rw[Nat.mul_comm]at a;rw[<-a]at e;simpa using e
 have f:(hi*4294967296+lo)/y<4294967296:=by
  rw[Nat.div_lt_iff_lt_mul (by omega)];have:(hi+1)*4294967296<=y*4294967296:=Nat.mul_le_mul_right _ m;rw[Nat.mul_comm 4294967296 y];omega
 have g:(hi*4294967296+lo)%y<y:=Nat.mod_lt _ (by omega);have d:=hid f;have c:=hid g;clear f g;go_enter Tryz.func306,Tryz.ntmps306
 go_wp2_with fail
 go_quiet (fail)
 go_wp2_with fail
 go_ret2
 refine⟨(ExtX.refl _).drewN _,?_⟩;have h:(((hi*4294967296+lo)/y:Nat):Int)%4294967296=(((hi*4294967296+lo)/y:Nat):Int):=a7p _ d.out;have a:(((hi*4294967296+lo)%y:Nat):Int)%4294967296=(((hi*4294967296+lo)%y:Nat):Int):=a7p _ (Nat.lt_trans c.out l);simp only[Int.natCast_ediv,Int.natCast_emod,Int.natCast_add,Int.natCast_mul,Int.cast_ofNat_Int]at h a |-;simp[h,a]
def b5k (X:Nat->Bool) (w:World) (q r:Nat) (e:Ending) (w':World):Prop:=
 Ext w w'/\∃ao cap l,e= .returned (.tuple #[.slice ao l.length cap, .int .u32 r])/\l.length<=cap/\a0M l q/\Sl (a0c .u32) 1 (mk X w') ao l
theorem b2J (X:Nat->Bool) (ao:Option Addr) (l:List Nat) (v d:Nat) (w:World) (H:Sl (a0c .u32) 1 (mk X w) ao l) (I:Dig l) (U:l.length<=1099511627776) (J:∀k,X k=true->k<w.heap.size) (N:0<d) (L:d<4294967296):
  Calls Tryz.prog 296 #[.slice ao l.length v, .int .u32 d] w (b5k X w (nv l/d) (nv l%d)):=by
 have T:=H.hd;go_enter Tryz.func296,Tryz.ntmps296
 go_wp2_with (at_make;refine a2y a0R (a0c.elem .u32) 0 (fun _=>rfl) X J w.heap.size (Nat.le_refl _) l.length rfl rfl (by omega) (by omega) (by omega) ?_;intro oo Q G h)
 go_loopw [5,6] (fun c i wr=>∃(k:Nat) (q:List Nat) (r:Nat),i= .int .i64 ((k:Int) - 1)/\c= .int .u32 r/\k<=l.length/\a2E l q d k r/\OL (a0c .u32) 1 X w.heap.size 147 wr oo l.length q/\Ext w wr) (fun _ i _=>(intOf i+1).toNat)
 case atStart=>exact⟨l.length,_,0,rfl,rfl,by omega,a2E.start l d N,G,h⟩
 case round=>
  obtain⟨k,q,r,rfl,rfl,M,a,g,f⟩:=hrel;clear G h;have b:=hid a.1;have x:=a.2.2.1;have K:Hd oo l.length:=b.out▸g.hd;by_cases D:0<k
  ·have F:=(H.mono (a0c.mono _) (a0l f)).nat (k - 1) (by omega)
   have o:=I.get (k - 1) (by omega);rw[a1n]at o;have B:=a.step D M I;go_wp2_with (first|(with_reducible refine a0q a0R (by omega) (by assumption) ?_)|(go_at_call 306;refine(b2I r l[k - 1] d _ x L o).mono ?_;rintro e S ⟨t,rfl⟩;have p:=g.ext0 (a0c.elem _) t)|((with_reducible show wpList _ _ _ (⟨_, .store _ _ _,_,_,_,_⟩::_) _ _);refine a1a a3P (k - 1) ((r*4294967296+l[k - 1])/d) rfl (by omega) p (by rw[b.out];omega) rfl (by simp) ?_;intro P E u))
   go_roundw
   case rel=>exact⟨k - 1,_,_,by go_num,by simp,by omega,B,E,(f.trans t).own p (Nat.le_refl _) u⟩
   case measure=>simp[intOf];omega
  ·obtain rfl:k=0:=by omega
   obtain⟨s,m⟩:=a.done;have n:=hid s;have j:=hid m;have y:=a.2.1;have C:=g.sl (a0c.elem .u32);clear s m;go_wp2_with fail
   rw[<-b.out];refine(a1P X _ _ _ _ C y (by rw[b.out];omega) (by omega)).mono ?_;rintro e O ⟨rfl,R,rfl,z,F,A⟩;go_wp2_with fail
   go_ret2
   rw[n.out]at F;exact⟨f,_,_,_,by rw[<-j.out];rfl,z,F,A⟩
set_option maxRecDepth 100000 in
theorem b8l (X:Nat->Bool) (ao bo:Option Addr) (G H:List Nat) (ca cb:Nat) (w:World) (P:Sl (a0c .u32) 1 (mk X w) ao G) (U:Sl (a0c .u32) 1 (mk X w) bo H)
  (S:Dig G) (N:Dig H) (Z:G.length<=1099511627776) (J:H.length<=1099511627776) (q:G.length<=ca) (r:H.length<=cb) (hX:∀k,X k=true->k<w.heap.size) (na nb:Nat) (M:val G=na) (T:val H=nb):
  Calls Tryz.prog 179 #[.slice ao G.length ca, .slice bo H.length cb] w (a4u X w (na*nb)):=by
 go_enter Tryz.func179,Tryz.ntmps179
 go_wp2_with fail
 refine(a1s X _ _ _ _ P S (by omega) q).mono ?_;rintro e w' ⟨rfl,c3,b8,a,rfl,b3,I,l,v⟩;go_wp2_with fail
 refine(a1s X _ _ _ _ U N (by omega) r).mono ?_;rintro e w' ⟨rfl,c5,c6,b,rfl,b6,a0,n,B⟩;rw[M]at l;rw[T]at n;have b4:a.length<=1099511627776:=Nat.le_trans I Z;have b2:b.length<=1099511627776:=Nat.le_trans a0 J;have Y:Hid (nv a*nv b=na*nb):=hid (by rw[l.2.2,n.2.2]);have u:=l.1;have A:=n.1;clear M T I a0 P U Z J q r l n S N;have b9:=v.hd;have c1:=B.hd;go_wp2_with (at_make;refine a2y a0R (a0c.elem .u32) 0 (fun _=>rfl) X hX w.heap.size (Nat.le_refl _) (a.length+b.length) rfl rfl (by omega) (by omega) (by omega) ?_;intro oo w1 hO K)
 go_loopw [23] (fun i wr=>∃(k:Nat) (o:List Nat),i= .int .i64 k/\k<=a.length/\a2C a b o k 0 0/\OL (a0c .u32) 1 X w.heap.size 147 wr oo (a.length+b.length) o/\Ext w wr) (fun i _=>a.length - (intOf i).toNat)
 case atStart=>exact⟨0,_,rfl,by omega,a2C.start a b,hO,K⟩
 case round=>
  obtain⟨k,o,rfl,hk,d,f,g⟩:=hrel;clear hO K;have h:=hid d.1;by_cases s:k<a.length
  ·have q:=(v.mono (a0c.mono _) (a0l g)).nat k s
   have O:=u.get k s;rw[a1n]at O;obtain⟨x,hx⟩:∃x,a[k]=x:=⟨_,rfl⟩;rw[hx]at q O;have b1:=hid hx;clear hx;obtain⟨wo,rfl⟩:∃wo:World,wo=wr:=⟨_,rfl⟩;go_wp2_with (with_reducible refine a0q a0R (by omega) (by assumption) ?_)
   go_loopw [8,30] (fun c j wr=>∃(m:Nat) (o:List Nat) (t:Nat),j= .int .i64 m/\c= .int .u64 t/\m<=b.length/\a2C a b o k m t/\OL (a0c .u32) 1 X w.heap.size 147 wr oo (a.length+b.length) o/\Ext w wr) (fun _ j _=>b.length - (intOf j).toNat)
   case atStart=>exact⟨0,o,0,rfl,rfl,by omega,d,f,g⟩
   case round=>
    clear d f g h q;clear o;obtain⟨m,o,t,rfl,rfl,hm,d,f,g⟩:=hrel;have h:=hid d.1;have c4:Hd oo (a.length+b.length):=h.out▸f.hd;have b0:=d.2.2.1;rw[a1n]at b0;by_cases C:m<b.length
    ·have r:=(B.mono (a0c.mono _) (a0l g)).nat m C
     have p:k+m<o.length:=by rw[h.out];omega
     have Q:=(f.sl (a0c.elem _)).nat (k+m) p;have V:=A.get m C;have R:=d.2.1.get (k+m) p;rw[a1n]at V R;obtain⟨y,hy⟩:∃y,b[m]=y:=⟨_,rfl⟩;obtain⟨z,hz⟩:∃z,o[k+m]=z:=⟨_,rfl⟩;obtain⟨E,a7⟩:=d.step' s C u A p b1.out hy hz;rw[hy]at r V;rw[hz]at Q R;clear hy hz;have a9:(0:Int)<=(x:Int)*(y:Int):=Int.mul_nonneg (by omega) (by omega);have a2:(t:Int)+((x:Int)*(y:Int)+(z:Int))<18446744073709551616:=by rw[<-Int.natCast_mul];omega
     have b7:IntKind.u64.wrap ((x:Int)*(y:Int))=(x:Int)*(y:Int):=IntWalk.u64_in _ (by omega);have c0:IntKind.u64.wrap ((x:Int)*(y:Int)+(z:Int))=(x:Int)*(y:Int)+(z:Int):=IntWalk.u64_in _ (by omega);have c2:IntKind.u64.wrap ((t:Int)+((x:Int)*(y:Int)+(z:Int)))=(t:Int)+((x:Int)*(y:Int)+(z:Int)):=IntWalk.u64_in _ (by omega);clear a7 a2 a9;have b5:wr.cell? (adr oo ((k:Int)+(m:Int)).toNat)=some (.int .u32 z):=Q;go_wp2_with (first|(with_reducible refine a0q a0R (by omega) (by assumption) ?_)|((with_reducible show wpList _ _ _ (⟨_, .store _ _ _,_,_,_,_⟩::_) _ _);refine a1a a3P (k+m) ((t+(x*y+z))%4294967296) rfl (by omega) f p rfl (by simp) ?_;intro w3 F D))
     go_roundw
     case rel=>exact⟨m+1,_,_,by go_num,by simp,by omega,E,F,g.own f (Nat.le_refl _) D⟩
     case measure=>simp[intOf];omega
    ·have a5:m=b.length:=by omega
     subst a5;have E:=d.row s;have p:k+b.length<o.length:=by rw[h.out];omega
     go_wp2_with (first|(with_reducible refine a0q a0R (by omega) (by assumption) ?_)|((with_reducible show wpList _ _ _ (⟨_, .store _ _ _,_,_,_,_⟩::_) _ _);refine a1a a3P (k+b.length) t rfl (by omega) f p rfl (by omega) ?_;intro w3 F D))
     go_roundw
     case rel=>exact⟨k+1,_,by go_num,by omega,E,F,g.own f (Nat.le_refl _) D⟩
     case measure=>simp[intOf];omega
  ·have a3:k=a.length:=by omega
   subst a3;have W:=d.done rfl;have a1:=d.2.1;have a6:=f.sl (a0c.elem .u32);have L:=hid W;clear W;go_wp2_with fail
   rw[<-h.out];refine(a1P X _ _ _ _ a6 a1 (by rw[h.out];omega) (by omega)).mono ?_;rintro e w' ⟨rfl,l',rfl,a4,hc,a8⟩;go_wp2_with fail
   go_ret
   rw[L.out,Y.out]at hc;exact⟨g,_,_,_,rfl,a4,hc,a8⟩
theorem a6s (X:Nat->Bool) (ao:Option Addr) (l:List Nat) (cap:Nat) (w:World) (n:Nat) (hs:Sl (a0c .u32) 1 (mk X w) ao l) (hc:a0M l n) (hl:l.length<=4398046511104) (hX:∀k,X k=true->k<w.heap.size):
  Calls Tryz.prog 295 #[.slice ao l.length cap] w (a4u X w n):=by
 have hnil:=fun wx=>Lib.run_eql_slice_nil (P:=Tryz.prog) wx 41 147 ao l.length cap 0 0 Tryz.underlying41;cases ao with
 |none=>
  have hl0:l= []:=by
   cases l with
   |nil=>rfl
   |cons x l=>obtain⟨b,o,h⟩:=hs.1 (by simp);simp at h
  subst hl0;simp only[List.length_nil,Option.isNone_none]at hnil |-;go_enter Tryz.func295,Tryz.ntmps295
  go_wp2_with fail
  go_ret
  exact⟨ExtX.refl _,none,0,[],rfl,by simp,hc,Sl.nil _ _ _ _⟩
 |some ad=>
  have hO:OL (a0c .u32) 1 X w.heap.size 147 (w.alloc (.cells #[] 147)) (some ⟨w.heap.size,0,none⟩) 0 []:=
   OL.lit (a0c.elem .u32) hX (Nat.le_refl _) [] [] _ rfl rfl (fun i hi=>by simp at hi) (by simp)
  have hs2:=hs.mono (a0c.mono _) (b9U X w (.cells #[] 147));have hX2:∀k,X k=true->k<(w.alloc (.cells #[] 147)).heap.size:=fun k hk=>by have:=hX k hk;simp;omega
  go_enter Tryz.func295,Tryz.ntmps295
  go_wp2_with (at_builtin;refine a3g (l:=[]) a0R rfl (a0c.elem .u32) (by simp) hX2 l rfl rfl hO hs2 (by simp;omega) (by simp;omega) ?_;intro ao2 cap2 w2 hO2 hE2 _)
  go_ret
  exact⟨((ExtX.refl w).alloc _).own hO (Nat.le_refl _) hE2,_,_,l,rfl,by have:=hO2.lenCap;simpa using this,hc,by simpa using hO2.sl (a0c.elem _)⟩
def b7e (X:Nat->Bool) (w:World) (q r:Nat) (e:Ending) (w':World):Prop:=
 Ext w w'/\∃ao cap l bo cbp m,e= .returned (.tuple #[.slice ao l.length cap, .slice bo m.length cbp, .bool true])/\l.length<=cap/\a0M l q/\Sl (a0c .u32) 1 (mk X w') ao l/\m.length<=cbp/\a0M m r/\Sl (a0c .u32) 1 (mk X w') bo m
theorem b5l (X:Nat->Bool) (ao bo:Option Addr) (D E:List Nat) (ca cb:Nat) (w:World) (M:Sl (a0c .u32) 1 (mk X w) ao D) (S:Sl (a0c .u32) 1 (mk X w) bo E)
  (a9:Dig D) (a4:Dig E) (U:D.length<=1099511627776) (a0:E.length<=1099511627776) (J:D.length<=ca) (I:E.length<=cb) (hX:∀k,X k=true->k<w.heap.size) (i nb:Nat) (L:val D=i) (R:val E=nb)
  (h0:0<nb) (h1:nb<4294967296):
  Calls Tryz.prog 245 #[.slice ao D.length ca, .slice bo E.length cb] w (b7e X w (i/nb) (i%nb)):=by
 go_enter Tryz.func245,Tryz.ntmps245
 go_wp2_with fail
 refine(a1s X _ _ _ _ M a9 (by omega) J).mono ?_;rintro e w' ⟨rfl,P,H,a,rfl,F,G,f,l⟩;go_wp2_with fail
 refine(a1s X _ _ _ _ S a4 (by omega) I).mono ?_;rintro e w' ⟨rfl,b0,b1,b,rfl,u,b4,g,m⟩;rw[L]at f;rw[R]at g;have a6:=b2E g h0 h1;subst a6;have s:a.length<=1099511627776:=Nat.le_trans G U;have b2:=hid f.val;have a8:=hid g.val;have O:=g.1;have t:=f.1;clear L R G b4 M S U a0 J I;have b5:=l.hd;have a7:=m.hd;simp only[List.length_cons,List.length_nil,Nat.zero_add]at a7 u |-;go_wp2_with fail
 refine(a3w X P b0 a [nb] H b1 w l m t O s (by simp) F u i nb b2.out a8.out).mono ?_;rintro e w2 ⟨n,rfl⟩;have q:=l.mono (a0c.mono _) (a0l n);have T:=m.mono (a0c.mono _) (a0l n);have A:∀k,X k=true->k<w2.heap.size:=fun k hk=>Nat.lt_of_lt_of_le (hX k hk) n.size;by_cases p:i<nb
 ·have v:a3a i nb<0:=(a3M i nb).2 p
  have hq:=hid (Nat.div_eq_of_lt p);have K:=hid (Nat.mod_eq_of_lt p);generalize a3a i nb=c at v;go_wp2_with fail
  refine(a6s X _ _ _ _ i q f (by omega) A).mono ?_;rintro e w3 ⟨o,B,C,l3,rfl,z,d,x⟩;go_wp2_with fail
  go_ret3
  refine⟨n.trans o,none,0,[],B,C,l3,rfl,by simp,?_,Sl.nil _ _ _ _,z,?_,x⟩
  ·rw[hq.out];exact a0M.nil
  ·rw[K.out];exact d
 ·have v:¬a3a i nb<0:=fun h=>p ((a3M i nb).1 h)
  generalize a3a i nb=c at v;have y:=T.nat 0 (by simp);simp only[List.getElem_cons_zero]at y;go_wp2_with (with_reducible refine a0q a0R (by omega) (by assumption) ?_)
  refine(b2J X P a H nb w2 q t s A h0 h1).mono ?_;rintro e w3 ⟨o,B,C,l3,rfl,z,d,x⟩;have b3:∀k,X k=true->k<w3.heap.size:=fun k hk=>Nat.lt_of_lt_of_le (A k hk) o.size;have a1:nv a%nb<nb:=Nat.mod_lt _ h0;obtain⟨r,K⟩:∃r,nv a%nb=r:=⟨_,rfl⟩;rw[K]at a1 |-;have a2:=hid K;clear K;go_wp2_with fail
  refine(a3Q X r _ (by omega) b3).mono ?_;rintro e w4 ⟨Q,a5,Y,l4,rfl,Z,j,a3⟩;go_wp2_with fail
  go_ret3
  have V:=x.mono (a0c.mono _) (a0l Q);have W:=f.2.2;rw[W]at d;have N:=a2.out;rw[W]at N;rw[<-N]at j;exact⟨(n.trans o).trans Q,B,C,l3,a5,Y,l4,rfl,z,d,V,Z,j,a3⟩
end Go.Proofs.YtidbbddagfnfbaaGreat
namespace Go.Lim
theorem a1S {l:List Nat} (h:Dig l) (k:Nat):nv (l.take k)<B^k:=by
 refine Nat.lt_of_lt_of_le (a4K (h.take k)) (Nat.pow_le_pow_right a2o ?_);simp;omega
theorem a7O {l:List Nat} {k:Nat} (h:nv l<B^k):nv (l.take k)=nv l:=by
 by_cases b:k<=l.length
 ·have c:=a2i l k b
  have a:nv (l.drop k)=0:=by
   by_cases d:nv (l.drop k)=0
   ·exact d
   ·have:B^k*1<=B^k*nv (l.drop k):=Nat.mul_le_mul_left _ (by omega)
    omega
  rw[a]at c;omega
 ·rw[List.take_of_length_le (by omega)]
theorem a0y {l:List Nat} {i:Nat} (h:i<l.length):l.getD i 0=l[i]:=by simp[List.getD,h]
theorem a4l {l:List Nat} {i:Nat} (h:l.length<=i):l.getD i 0=0:=by simp[List.getD,h]
def a4D (x y c:Nat):Nat:=(x+4294967296 - y - c)%4294967296
def a6t (x y c:Nat):Nat:=if x<y+c then 1 else 0
theorem a9J {x y c:Nat} (d:x<B) (b:y<B) (a:c<=1):a4D x y c+y+c=x+B*a6t x y c/\a4D x y c<B/\a6t x y c<=1:=by
 rw[a1n]at*;unfold a4D a6t;split<;>omega
def a4O (a b o:List Nat) (i c:Nat):Prop:=o.length=a.length/\Dig o/\c<=1/\nv (o.take i)+nv (b.take i)=nv (a.take i)+B^i*c
theorem a4O.start (a b:List Nat):a4O a b (List.replicate a.length 0) 0 0:=⟨by simp,Dig.zeros _,by omega,by simp[nv]⟩
theorem a4O.step {a b o:List Nat} {i c x y:Nat} (h:a4O a b o i c) (hi:i<a.length) (g:a[i]=x) (j:b.getD i 0=y) (r:Dig a) (q:Dig b):
  a4O a b (o.set i (a4D x y c)) (i+1) (a6t x y c):=by
 obtain⟨t,n,s,v⟩:=h;have e:=r.get i hi;have f:=q.getD i;rw[g]at e;rw[j]at f;obtain⟨u,k,l⟩:=a9J e f s;refine⟨by simpa using t,n.set _ _ k,l,?_⟩;rw[a1w o i _ (by omega),a1X,a0F a i hi,a1k,g,j,List.length_take,Nat.min_eq_left (by omega),Nat.pow_succ];generalize a4D x y c=d at*;generalize a6t x y c=m at*;have p:B^i*(d+y+c)=B^i*(x+B*m):=by rw[u]
 rw[Nat.mul_add,Nat.mul_add,Nat.mul_add]at p;rw[Nat.mul_assoc];omega
theorem a4O.done {a b o:List Nat} {c:Nat} (h:a4O a b o a.length c) (d:b.length<=a.length) (i:nv b<=nv a):nv o=nv a - nv b:=by
 obtain⟨e,l,m,k⟩:=h;rw[List.take_of_length_le (Nat.le_of_eq e),List.take_of_length_le d,List.take_of_length_le (Nat.le_refl _)]at k;have f:=a4K l;rw[e]at f;have g:c=0:=by
  by_cases j:c=0
  ·exact j
  ·have:c=1:=by omega
   subst this;omega
 subst g;omega
def a4P (W V:List Nat) (x:Nat) (o:List Nat) (k cy bo:Nat):Prop:=
 o.length=W.length/\Dig o/\o.drop k=W.drop k/\bo<=1/\cy<B/\(∃L,L<B^k/\x*nv (V.take k)=L+B^k*cy)/\nv (o.take k)+x*nv (V.take k)=nv (W.take k)+B^k*(cy+bo)
theorem a4P.start {W V:List Nat} {x:Nat} (a:Dig W):a4P W V x W 0 0 0:=⟨rfl,a,rfl,by omega,a2o,⟨0,by simp,by simp[nv]⟩,by simp[nv]⟩
theorem a4P.step {W V o:List Nat} {x k a f y z:Nat} (h:a4P W V x o k a f) (F:k<W.length) (t:V.getD k 0=y) (u:o.getD k 0=z) (I:Dig V) (J:x<B):
  a4P W V x (o.set k (a4D z ((a+x*y)%4294967296) f)) (k+1) ((a+x*y)/4294967296) (a6t z ((a+x*y)%4294967296) f)/\a+x*y<18446744073709551616/\z<4294967296:=by
 obtain⟨M,r,v,H,p,⟨L,P,K⟩,C⟩:=h;have j:=I.getD k;rw[t]at j;have b:=r.getD k;rw[u]at b;have n:W[k]=z:=by
  have s:(o.drop k)[0]'(by simp;omega)=(W.drop k)[0]'(by simp;omega):=by simp only[v]
  simp at s;rw[<-s,<-u,a0y (by omega)]
 have O:x*y<=4294967295*4294967295:=Nat.mul_le_mul (by rw[a1n]at J;omega) (by rw[a1n]at j;omega);obtain⟨lo,e⟩:∃lo,(a+x*y)%4294967296=lo:=⟨_,rfl⟩;obtain⟨hi,g⟩:∃hi,(a+x*y)/4294967296=hi:=⟨_,rfl⟩;have m:B*hi+lo=a+x*y:=by rw[<-e,<-g,a1n];exact Nat.div_add_mod _ _
 have c:lo<B:=by rw[<-e,a1n];exact Nat.mod_lt _ (by decide)
 have i:hi<B:=by rw[a1n]at p |-;omega
 rw[e,g];obtain⟨N,D,E⟩:=a9J b c H;have l:nv (V.take (k+1))=nv (V.take k)+B^k*y:=by rw[a1k,t]
 have G:B^k*(B*hi+lo)=B^k*(a+x*y):=by rw[m]
 rw[Nat.mul_add,Nat.mul_add]at G;have q:x*(nv (V.take k)+B^k*y)=x*nv (V.take k)+B^k*(x*y):=by rw[Nat.mul_add,Nat.mul_left_comm]
 refine⟨⟨by simpa using M,r.set _ _ D,?_,E,i,⟨L+B^k*lo,?_,?_⟩,?_⟩,by rw[a1n]at p;omega,by rw[a1n]at b;exact b⟩
 ·rw[List.drop_set_of_lt (by omega)]
  have:(o.drop k).drop 1=(W.drop k).drop 1:=by rw[v]
  simpa using this
 ·rw[Nat.pow_succ]
  have:B^k*lo+B^k<=B^k*B:=by rw[<-Nat.mul_succ];exact Nat.mul_le_mul_left _ c
  omega
 ·rw[l,q,K,Nat.pow_succ,Nat.mul_assoc];omega
 ·rw[a1w o k _ (by omega),a1X,a0F W k F,n,l,q,List.length_take,Nat.min_eq_left (by omega),Nat.pow_succ,Nat.mul_assoc,Nat.mul_add]
  rw[Nat.mul_add]at C;generalize a4D z lo f=d at*;generalize a6t z lo f=A at*;have w:B^k*(d+lo+f)=B^k*(z+B*A):=by rw[N]
  rw[Nat.mul_add,Nat.mul_add,Nat.mul_add]at w;rw[Nat.mul_add];omega
theorem a4P.done {W V o:List Nat} {x d b n:Nat} (h:a4P W V x o W.length d b) (k:W.length=n+1) (l:V.length=n) (e:Dig V) (m:x<B):
  o.length=n+1/\Dig o/\((b=0/\nv o+x*nv V=nv W)\/(b=1/\nv W<x*nv V/\nv o+x*nv V=nv W+B^(n+1))):=by
 obtain⟨s,i,v,u,t,⟨L,p,j⟩,c⟩:=h;have a:=a4K e;rw[l]at a;have f:=a4K i;rw[s,k]at f;rw[List.take_of_length_le (by omega)]at j;rw[List.take_of_length_le (by omega),List.take_of_length_le (by omega),List.take_of_length_le (Nat.le_refl _)]at c;rw[k]at p j c;have r:x*nv V<B^(n+1):=by
  rw[Nat.pow_succ,Nat.mul_comm (B^n)];exact Nat.lt_of_le_of_lt (Nat.mul_le_mul_right _ (Nat.le_of_lt m)) (Nat.mul_lt_mul_of_pos_left a a2o)
 have g:d=0:=by
  by_cases q:d=0
  ·exact q
  ·have:B^(n+1)*1<=B^(n+1)*d:=Nat.mul_le_mul_left _ (by omega)
   omega
 subst g;refine⟨by omega,i,?_⟩;rcases(show b=0\/b=1 by omega)with rfl|rfl
 ·left;exact⟨rfl,by simpa using c⟩
 ·right
  rw[Nat.zero_add,Nat.mul_one]at c;exact⟨rfl,by omega,c⟩
def a4Q (W V:List Nat) (o:List Nat) (k c:Nat):Prop:=
 o.length=W.length/\Dig o/\o.drop k=W.drop k/\c<=1/\nv (o.take k)+B^k*c=nv (W.take k)+nv (V.take k)
theorem a4Q.start {W V:List Nat} (a:Dig W):a4Q W V W 0 0:=⟨rfl,a,rfl,by omega,by simp[nv]⟩
theorem a4Q.step {W V o:List Nat} {k c y z:Nat} (h:a4Q W V o k c) (m:k<W.length) (i:V.getD k 0=y) (l:o.getD k 0=z) (n:Dig V):
  a4Q W V (o.set k ((z+y+c)%4294967296)) (k+1) ((z+y+c)/4294967296)/\z<4294967296:=by
 obtain⟨p,f,j,r,s⟩:=h;have d:=n.getD k;rw[i,a1n]at d;have a:=f.getD k;rw[l,a1n]at a;have b:W[k]=z:=by
  have g:(o.drop k)[0]'(by simp;omega)=(W.drop k)[0]'(by simp;omega):=by simp only[j]
  simp at g;rw[<-g,<-l,a0y (by omega)]
 refine⟨⟨by simpa using p,f.set _ _ (by rw[a1n];exact Nat.mod_lt _ (by decide)),?_,by omega,?_⟩,a⟩
 ·rw[List.drop_set_of_lt (by omega)]
  have:(o.drop k).drop 1=(W.drop k).drop 1:=by rw[j]
  simpa using this
 ·rw[a1w o k _ (by omega),a1X,a0F W k m,b,a1k,i,List.length_take,Nat.min_eq_left (by omega),Nat.pow_succ,Nat.mul_assoc]
  have e:(z+y+c)%4294967296+B*((z+y+c)/4294967296)=z+y+c:=by rw[a1n];omega
  have q:B^k*((z+y+c)%4294967296)+B^k*(B*((z+y+c)/4294967296))=B^k*z+B^k*y+B^k*c:=by rw[<-Nat.mul_add,e,Nat.mul_add,Nat.mul_add]
  omega
theorem a4Q.done {W V o:List Nat} {c n:Nat} (h:a4Q W V o W.length c) (e:W.length=n+1) (i:V.length=n):o.length=n+1/\Dig o/\c<=1/\nv o+B^(n+1)*c=nv W+nv V:=by
 obtain⟨g,d,f,b,a⟩:=h;rw[List.take_of_length_le (by omega),List.take_of_length_le (Nat.le_refl _),List.take_of_length_le (by omega),e]at a;exact⟨by omega,d,b,a⟩
def a7P (a o:List Nat) (s k:Nat):Prop:=o.length=a.length+1/\Dig o/\(∀p,k<p->o.getD p 0=0)/\o.getD k 0<2^s/\nv (o.take (k+1))=nv (a.take k)*2^s
theorem a7P.start (a:List Nat) (s:Nat):a7P a (List.replicate (a.length+1) 0) s 0:=
 ⟨by simp,Dig.zeros _,fun p _=>by by_cases h:p<a.length+1<;>simp[List.getD,h],by simp[List.getD];exact Nat.two_pow_pos _,by rw[a1k];simp[nv,List.getD]⟩
theorem b5m {lo x s:Nat} (a:lo<2^s) (b:s<32):lo|||(x*2^s)%4294967296=lo+(x*2^s)%4294967296:=by
 have e:(x*2^s)%4294967296=2^s*(x%2^(32 - s)):=by
  rw[show(4294967296:Nat)=2^s*2^(32 - s)by rw[<-Nat.pow_add,show s+(32 - s)=32 by omega],Nat.mul_comm x,Nat.mul_mod_mul_left]
 rw[e,Nat.or_comm,<-Nat.two_pow_add_eq_or_of_lt a,Nat.add_comm]
theorem a7P.step {a o:List Nat} {s k x lo:Nat} (h:a7P a o s k) (l:k<a.length) (q:a[k]=x) (g:o.getD k 0=lo) (w:Dig a) (v:s<32):
  a7P a ((o.set k (lo|||(x*2^s)%4294967296)).set (k+1) (x*2^s/4294967296)) s (k+1)/\(lo|||(x*2^s)%4294967296)<4294967296/\x*2^s<18446744073709551616/\x*2^s/4294967296<4294967296:=by
 obtain⟨r,u,y,m,t⟩:=h;have c:=w.get k l;rw[q,a1n]at c;rw[g]at m;rw[b5m m v];have n:(2:Nat)^s<=2^31:=Nat.pow_le_pow_right (by omega) (by omega);have d:x*2^s/4294967296<2^s:=Nat.div_lt_of_lt_mul (Nat.mul_lt_mul_of_pos_right c (Nat.two_pow_pos _));have b:lo+(x*2^s)%4294967296<4294967296:=by
  have e:(x*2^s)%4294967296=2^s*(x%2^(32 - s)):=by
   rw[show(4294967296:Nat)=2^s*2^(32 - s)by rw[<-Nat.pow_add,show s+(32 - s)=32 by omega],Nat.mul_comm x,Nat.mul_mod_mul_left]
  have j:x%2^(32 - s)<2^(32 - s):=Nat.mod_lt _ (Nat.two_pow_pos _);have z:2^s*(x%2^(32 - s))+2^s<=2^s*2^(32 - s):=by rw[<-Nat.mul_succ];exact Nat.mul_le_mul_left _ j
  have A:2^s*2^(32 - s)=4294967296:=by rw[<-Nat.pow_add,show s+(32 - s)=32 by omega]
  omega
 have i:x*2^s<18446744073709551616:=by
  have:x*2^s<=x*2^31:=Nat.mul_le_mul_left _ n;omega
 refine⟨⟨by simpa using r,(u.set _ _ (by rw[a1n];exact b)).set _ _ (by rw[a1n];omega),fun p n=>?_,?_,?_⟩,b,i,by omega⟩
 ·have:=y p (by omega)
  simp only[List.getD_eq_getElem?_getD]at this |-;rw[List.getElem?_set_ne (by omega),List.getElem?_set_ne (by omega)];exact this
 ·rw[a0y (by simp;omega),List.getElem_set_self];exact d
 ·rw[a1w _ _ _ (by simp;omega),a1X,a1w _ _ _ (by omega),a1X]
  simp only[List.length_append,List.length_take,List.length_singleton,r];rw[Nat.min_eq_left (by omega),a0F a k l,q,Nat.add_mul];rw[a1k,g]at t;have e:=Nat.div_add_mod (x*2^s) 4294967296;have f:min (k+1) (a.length+1)=k+1:=by omega
  rw[Nat.mul_add,Nat.pow_succ,Nat.mul_assoc (B^k)]
  try rw[f]
  have j:B^k*(B*(x*2^s/4294967296))+B^k*(x*2^s%4294967296)=B^k*x*2^s:=by rw[<-Nat.mul_add,a1n,e,Nat.mul_assoc]
  omega
theorem a7P.done {a o:List Nat} {s:Nat} (h:a7P a o s a.length):o.length=a.length+1/\Dig o/\o.getD a.length 0<2^s/\nv o=nv a*2^s:=by
 obtain⟨e,d,f,c,b⟩:=h;rw[List.take_of_length_le (by omega),List.take_of_length_le (Nat.le_refl _)]at b;exact⟨e,d,c,b⟩
def a7Q (b u2 u1 u0 v1 v0:Nat):Nat:=min ((u2*(b*b)+u1*b+u0)/(v1*b+v0)) (b - 1)
def a6Y (b u2 u1 u0 v1 v0 q r:Nat):Prop:=q*v1+r=u2*b+u1/\a7Q b u2 u1 u0 v1 v0<=q/\q<=b+1
theorem a6Y.start {b a c u0 v1 v0:Nat} (h:b<=2*v1) (i:2<=b) (f:a<=v1) (k:c<b) (j:u0<b):a6Y b a c u0 v1 v0 ((a*b+c)/v1) ((a*b+c)%v1):=by
 refine⟨by rw[Nat.mul_comm];exact Nat.div_add_mod _ _,?_,?_⟩
 ·unfold a7Q
  refine Nat.le_trans (Nat.min_le_left _ _) ?_;rw[Nat.le_div_iff_mul_le (by omega)];generalize d:(a*(b*b)+c*b+u0)/(v1*b+v0)=q;have e:q*(v1*b+v0)<=a*(b*b)+c*b+u0:=by rw[<-d];exact Nat.div_mul_le_self _ _
  have g:q*v1*b<(a*b+c+1)*b:=by
   rw[Nat.mul_add,<-Nat.mul_assoc]at e;rw[Nat.add_mul,Nat.add_mul,Nat.mul_assoc a,Nat.one_mul];omega
  have:=Nat.lt_of_mul_lt_mul_right g;omega
 ·have:(a*b+c)/v1<b+2:=by
   rw[Nat.div_lt_iff_lt_mul (by omega)];have:a*b<=v1*b:=Nat.mul_le_mul_right _ f;rw[Nat.add_mul,Nat.mul_comm b v1];omega
  omega
theorem a6Y.more {b a c u0 v1 v0 q r:Nat} (h:a6Y b a c u0 v1 v0 q r) (m:2<=b) (d:b<=q\/r*b+u0<q*v0) (g:0<v1):1<=q/\a6Y b a c u0 v1 v0 (q - 1) (r+v1):=by
 obtain⟨f,l,n⟩:=h;have j:a7Q b a c u0 v1 v0<q:=by
  rcases d with d|d
  ·unfold a7Q;omega
  ·unfold a7Q
   refine Nat.lt_of_le_of_lt (Nat.min_le_left _ _) ?_;have k:0<v1*b:=Nat.mul_pos g (by omega);have i:q*(v1*b+v0)=q*v1*b+q*v0:=by rw[Nat.mul_add,Nat.mul_assoc]
   rw[Nat.div_lt_iff_lt_mul (by omega),i];have e:(q*v1+r)*b=(a*b+c)*b:=by rw[f]
   rw[Nat.add_mul,Nat.add_mul,Nat.mul_assoc a]at e;omega
 refine⟨by omega,?_,by omega,by omega⟩;obtain⟨p,rfl⟩:∃p,q=p+1:=⟨q - 1,by omega⟩;rw[Nat.succ_mul]at f;rw[show p+1 - 1=p from rfl];omega
theorem a6Y.less {b c d u0 v1 v0 q r:Nat} (h:a6Y b c d u0 v1 v0 q r) (t:2<=b) (p:b<=2*v1) (f:c<=v1) (n:d<b) (m:v0<b) (a:b<=r\/(q<b/\q*v0<=r*b+u0)):q=a7Q b c d u0 v1 v0:=by
 obtain⟨o,l,u⟩:=h;have i:q<b:=by
  rcases a with a|a
  ·by_cases i:q<b
   ·exact i
   ·have j:b*v1<=q*v1:=Nat.mul_le_mul_right _ (by omega)
    have k:c*b<=v1*b:=Nat.mul_le_mul_right _ f;rw[Nat.mul_comm b]at j;omega
  ·exact a.1
 have g:q*v0<=r*b+u0:=by
  rcases a with a|a
  ·have j:q*v0<=b*b:=Nat.mul_le_mul (by omega) (by omega)
   have k:b*b<=r*b:=Nat.mul_le_mul_right _ a;omega
  ·exact a.2
 refine Nat.le_antisymm ?_ l;unfold a7Q;refine Nat.le_min.2 ⟨?_,by omega⟩;have s:0<v1*b:=Nat.mul_pos (by omega) (by omega);rw[Nat.le_div_iff_mul_le (by omega),Nat.mul_add,<-Nat.mul_assoc];have e:(q*v1+r)*b=(c*b+d)*b:=by rw[o]
 rw[Nat.add_mul,Nat.add_mul,Nat.mul_assoc c]at e;omega
theorem b8m {W:List Nat} {n:Nat} (i:W.length=n+3):nv W=nv (W.take n)+B^n*(W[n+2]*(B*B)+W[n+1]*B+W[n]):=by
 have e:W.take (n+3)=W:=List.take_of_length_le (by omega);have f:nv (W.take (n+1))=nv (W.take n)+B^n*W[n]:=a0F W n (by omega);have g:nv (W.take (n+2))=nv (W.take (n+1))+B^(n+1)*W[n+1]:=a0F W (n+1) (by omega);have b:nv (W.take (n+3))=nv (W.take (n+2))+B^(n+2)*W[n+2]:=a0F W (n+2) (by omega);rw[e]at b;rw[b,g,f,show B^(n+2)=B^n*B*B by rw[Nat.pow_succ,Nat.pow_succ],show B^(n+1)=B^n*B from Nat.pow_succ ..];generalize W[n]=j;generalize W[n+1]=c;generalize W[n+2]=a;generalize B^n=q;simp only[Nat.mul_add];have h:q*B*B*a=q*(a*(B*B)):=by ac_rfl
 have d:q*B*c=q*(c*B):=by ac_rfl
 rw[h,d];omega
theorem b8n {V:List Nat} {n:Nat} (g:V.length=n+2):nv V=nv (V.take n)+B^n*(V[n+1]*B+V[n]):=by
 have e:V.take (n+2)=V:=List.take_of_length_le (by omega);have d:=a0F V n (by omega);have a:=a0F V (n+1) (by omega);rw[show n+1+1=n+2 from rfl,e,Nat.pow_succ]at a;rw[a,d];generalize V[n]=f;generalize V[n+1]=b;generalize B^n=q;simp only[Nat.mul_add];have c:q*B*b=q*(b*B):=by ac_rfl
 rw[c];omega
theorem b8o {b Q u2 u1 u0 v1 v0 lw lv W V:Nat} (hb:2<=b) (_hQ:0<Q) (eW:W=lw+Q*(u2*(b*b)+u1*b+u0)) (eV:V=lv+Q*(v1*b+v0)) (lW:lw<Q) (lV:lv<Q)
  (_d2:u2<b) (d1:u1<b) (f0:v0<b) (hn:b<=2*v1) (hlt:W<V*b):u2<=v1/\W/V<=a7Q b u2 u1 u0 v1 v0/\a7Q b u2 u1 u0 v1 v0<=W/V+1:=by
 have hv1:0<v1:=by omega
 have hp:0<v1*b:=Nat.mul_pos hv1 (by omega);have hVpos:0<V:=by
  have:Q*1<=Q*(v1*b+v0):=Nat.mul_le_mul_left _ (by omega);omega
 obtain⟨v2,hv2⟩:∃v2,v1*b+v0=v2:=⟨_,rfl⟩;obtain⟨u3,hu3⟩:∃u3,u2*(b*b)+u1*b+u0=u3:=⟨_,rfl⟩;have hest:a7Q b u2 u1 u0 v1 v0=min (u3/v2) (b - 1):=by unfold a7Q;rw[hv2,hu3]
 rw[hest];rw[hv2]at eV;rw[hu3]at eW;have hU3:u3<(v2+1)*b:=by
  have:Q*u3<Q*((v2+1)*b):=by
   have e0:Q*((v2+1)*b)=(Q*v2+Q)*b:=by rw[<-Nat.mul_assoc,Nat.mul_add Q v2 1,Nat.mul_one]
   have e1:(lv+Q*v2)*b<=(Q*v2+Q)*b:=Nat.mul_le_mul_right _ (by omega);rw[eV]at hlt;omega
  exact Nat.lt_of_mul_lt_mul_left this
 refine⟨?_,?_,?_⟩
 ·by_cases h:u2<=v1
  ·exact h
  ·have e1:(v1+1)*(b*b)<=u2*(b*b):=Nat.mul_le_mul_right _ (by omega)
   have e2:(v2+1)*b<=(v1*b+b)*b:=Nat.mul_le_mul_right _ (by omega);rw[Nat.add_mul,Nat.one_mul]at e1;have e3:(v1*b+b)*b=v1*(b*b)+b*b:=by rw[Nat.add_mul,Nat.mul_assoc]
   omega
 ·refine Nat.le_min.2 ⟨?_,?_⟩
  ·have hv2p:0<v2:=by omega
   rw[Nat.le_div_iff_mul_le hv2p];generalize hq:W/V=q;have h1:q*V<=W:=by rw[<-hq];exact Nat.div_mul_le_self _ _
   have h2:Q*(q*v2)<Q*(u3+1):=by
    have e1:q*(Q*v2)<=q*V:=Nat.mul_le_mul_left _ (by omega);rw[Nat.mul_left_comm,Nat.mul_add Q,Nat.mul_one];omega
   have:=Nat.lt_of_mul_lt_mul_left h2;omega
  ·have:W/V<b:=by rw[Nat.div_lt_iff_lt_mul hVpos,Nat.mul_comm];exact hlt
   omega
 ·generalize hx:min (u3/v2) (b - 1)=x
  have hxB:x<b:=by omega
  have hxV:x*v2<=u3:=by
   rw[<-hx];exact Nat.le_trans (Nat.mul_le_mul_right _ (Nat.min_le_left _ _)) (Nat.div_mul_le_self _ _)
  clear hx;cases x with
  |zero=>exact Nat.zero_le _
  |succ y=>
   rw[Nat.add_le_add_iff_right,Nat.le_div_iff_mul_le hVpos];have h1:(y+1)*V<=W+V:=by
    have e1:(y+1)*V=(y+1)*lv+Q*((y+1)*v2):=by rw[eV,Nat.mul_add,Nat.mul_left_comm]
    have e2:Q*((y+1)*v2)<=Q*u3:=Nat.mul_le_mul_left _ hxV;have e3:(y+1)*lv<=b*Q:=Nat.mul_le_mul (by omega) (by omega);have e4:b*Q<=Q*v2:=by
     rw[Nat.mul_comm];refine Nat.mul_le_mul_left _ ?_;have:1*b<=v1*b:=Nat.mul_le_mul_right _ (by omega);omega
    omega
   rw[Nat.succ_mul]at h1;omega
theorem b9Z {W V:List Nat} {n:Nat} (f:W.length=n+3) (e:V.length=n+2) (a:Dig W) (b:Dig V) (d:B<=2*V[n+1]) (c:nv W<nv V*B):
  W[n+2]<=V[n+1]/\nv W/nv V<=a7Q B W[n+2] W[n+1] W[n] V[n+1] V[n]/\a7Q B W[n+2] W[n+1] W[n] V[n+1] V[n]<=nv W/nv V+1:=
 b8o (by rw[a1n];decide) (Nat.pow_pos a2o) (b8m f) (b8n e) (a1S a n) (a1S b n) (a.get _ _) (a.get _ _) (b.get _ _) d c
theorem b2K {u:List Nat} {s i:Nat} (l:s<32) (hi:i+1<u.length) (j:Dig u):
  (nv u/2^s)%B^(i+1)=(nv u/2^s)%B^i+B^i*((u[i+1]*4294967296+u[i])/2^s%4294967296):=by
 have h:nv u=nv (u.take i)+B^i*(u[i]+B*(u[i+1]+B*nv (u.drop (i+2)))):=by
  have e:=a2i u i (by omega);rw[List.drop_eq_getElem_cons (show i<u.length by omega),List.drop_eq_getElem_cons (show i+1<u.length by omega)]at e;exact e
 obtain⟨c,g⟩:∃c,2^s*c=4294967296:=⟨2^(32 - s),by rw[<-Nat.pow_add,show s+(32 - s)=32 by omega]⟩;have f:0<2^s:=Nat.two_pow_pos _;have b:=a1S j i;have d:0<B^i:=Nat.pow_pos a2o;have a:nv u/B^i=u[i]+B*(u[i+1]+B*nv (u.drop (i+2))):=by
  rw[h,Nat.add_mul_div_left _ _ d,Nat.div_eq_of_lt b,Nat.zero_add]
 rw[Nat.pow_succ,Nat.mod_mul,Nat.div_div_eq_div_mul,Nat.mul_comm (2^s),<-Nat.div_div_eq_div_mul,a];have e:u[i]+B*(u[i+1]+B*nv (u.drop (i+2)))=(u[i+1]*4294967296+u[i])+2^s*(B*(c*nv (u.drop (i+2)))):=by
  have k:2^s*(B*(c*nv (u.drop (i+2))))=B*(B*nv (u.drop (i+2))):=by
   rw[Nat.mul_left_comm,<-Nat.mul_assoc (2^s),g,<-a1n]
  rw[k,Nat.mul_add,a1n];omega
 rw[e,Nat.add_mul_div_left _ _ f,Nat.add_mul_mod_self_left,<-a1n]
def a4R (u o:List Nat) (s n i:Nat):Prop:=o.length=n/\Dig o/\nv (o.take i)=(nv u/2^s)%B^i
theorem a4R.start (u:List Nat) (s n:Nat):a4R u (List.replicate n 0) s n 0:=⟨by simp,Dig.zeros _,by simp[nv,Nat.mod_one]⟩
theorem a4R.step {u o:List Nat} {s n i x y:Nat} (h:a4R u o s n i) (hi:i<n) (c:s<32) (a:i+1<u.length) (j:Dig u) (d:u[i+1]=x) (e:u[i]=y):a4R u (o.set i ((x*4294967296+y)/2^s%4294967296)) s n (i+1):=by
 obtain⟨g,b,f⟩:=h;refine⟨by simpa using g,b.set _ _ (by rw[a1n];exact Nat.mod_lt _ (by decide)),?_⟩;rw[a1w o i _ (by omega),a1X,f,b2K c a j,d,e,List.length_take,Nat.min_eq_left (by omega)]
theorem a4R.done {u o:List Nat} {s n:Nat} (h:a4R u o s n n) (a:nv u/2^s<B^n):nv o=nv u/2^s:=by
 obtain⟨d,c,b⟩:=h;rw[List.take_of_length_le (by omega),Nat.mod_eq_of_lt a]at b;exact b
def a3R (N:Nat) (V U Q:List Nat) (k:Nat):Prop:=Dig U/\Dig Q/\nv (U.drop k)<nv V/\nv U+nv V*(B^k*nv (Q.drop k))=N
theorem a5w {U:List Nat} {j:Nat} (h:j<U.length):nv (U.drop j)=U[j]+B*nv (U.drop (j+1)):=by
 rw[List.drop_eq_getElem_cons h];rfl
theorem a3R.win {N:Nat} {V U Q:List Nat} {j n:Nat} (h:a3R N V U Q (j+1)) (r:j+(n+1)<=U.length) (l:V.length=n) (d:Dig V):
  ((U.drop j).take (n+1)).length=n+1/\Dig ((U.drop j).take (n+1))/\nv ((U.drop j).take (n+1))<nv V*B/\nv (U.drop (j+(n+1)))=0/\U=U.take j++(U.drop j).take (n+1)++U.drop (j+(n+1))/\nv U=nv (U.take j)+B^j*nv ((U.drop j).take (n+1))/\(U.take j).length=j:=by
 obtain⟨i,q,o,p⟩:=h;have e:=a5w (show j<U.length by omega);have s:=i.get j (by omega);have a:=a4K d;rw[l]at a;have c:nv (U.drop j)<nv V*B:=by
  rw[e];have:B*(nv (U.drop (j+1))+1)<=B*nv V:=Nat.mul_le_mul_left _ o;rw[Nat.mul_add,Nat.mul_one]at this;rw[Nat.mul_comm (nv V)];omega
 have b:nv (U.drop j)<B^(n+1):=by
  rw[Nat.pow_succ];exact Nat.lt_of_lt_of_le c (Nat.mul_le_mul_right _ (Nat.le_of_lt a))
 have g:=a7O b;have f:=a2i (U.drop j) (n+1) (by simp;omega);rw[List.drop_drop]at f;have k:nv (U.drop (j+(n+1)))=0:=by
  by_cases m:nv (U.drop (j+(n+1)))=0
  ·exact m
  ·have:B^(n+1)*1<=B^(n+1)*nv (U.drop (j+(n+1))):=Nat.mul_le_mul_left _ (by omega)
   omega
 refine⟨by simp;omega,(i.drop j).take _,by rw[g];exact c,k,?_,?_,by simp;omega⟩
 ·rw[List.append_assoc]
  conv=>lhs;rw[<-List.take_append_drop j U]
  congr 1
  rw[<-List.drop_drop,List.take_append_drop]
 ·rw[g];exact a2i U j (by omega)
theorem a3R.next {N:Nat} {V U Q W':List Nat} {j n:Nat} (h:a3R N V U Q (j+1)) (A:j+(n+1)<=U.length) (i:j<Q.length) (z:V.length=n) (c:Dig V) (d:Dig W') (H:W'.length=n+1)
  (a:nv W'=nv ((U.drop j).take (n+1))%nv V):a3R N V (U.take j++W'++U.drop (j+(n+1))) (Q.set j (nv ((U.drop j).take (n+1))/nv V)) j/\(U.take j++W'++U.drop (j+(n+1))).length=U.length:=by
 obtain⟨E,G,v,l,D,u,w⟩:=h.win A z c;obtain⟨o,t,I,m⟩:=h;have b:0<nv V:=by omega
 have C:nv ((U.drop j).take (n+1))/nv V<B:=by rw[Nat.div_lt_iff_lt_mul b,Nat.mul_comm];exact v
 have g:(U.take j++W'++U.drop (j+(n+1))).drop j=W'++U.drop (j+(n+1)):=by
  rw[List.append_assoc,List.drop_append_of_le_length (by omega),List.drop_of_length_le (by omega),List.nil_append]
 have k:nv ((U.take j++W'++U.drop (j+(n+1))).drop j)=nv W':=by rw[g,a3L,l];simp
 have f:nv (U.take j++W'++U.drop (j+(n+1)))=nv (U.take j)+B^j*nv W':=by
  rw[List.append_assoc,a3L,a3L,l,w];simp
 refine⟨⟨((o.take j).append d).append (o.drop _),t.set _ _ C,?_,?_⟩,by simp;omega⟩
 ·rw[k,a];exact Nat.mod_lt _ b
 ·have s:nv ((Q.set j (nv ((U.drop j).take (n+1))/nv V)).drop j)=nv ((U.drop j).take (n+1))/nv V+B*nv (Q.drop (j+1)):=by
   rw[a5w (by simpa using i),List.getElem_set_self,List.drop_set_of_lt (by omega)]
  rw[f,s,a];rw[u]at m;rw[Nat.pow_succ]at m;have e:=Nat.div_add_mod (nv ((U.drop j).take (n+1))) (nv V);generalize nv ((U.drop j).take (n+1))/nv V=q at*;generalize nv ((U.drop j).take (n+1))%nv V=r at*;generalize nv ((U.drop j).take (n+1))=x at*;generalize nv (Q.drop (j+1))=y at*;generalize B^j=p at*;have J:nv V*(p*(q+B*y))=p*(nv V*q)+nv V*(p*B*y):=by
   rw[Nat.mul_add,Nat.mul_add,Nat.mul_left_comm (nv V) p q,Nat.mul_assoc p B y]
  have F:p*x=p*(nv V*q)+p*r:=by rw[<-e,Nat.mul_add]
  omega
theorem a3R.done {N a b s:Nat} {V U Q:List Nat} (h:a3R N V U Q 0) (m:N=a*2^s) (j:nv V=b*2^s):nv Q=a/b/\nv U/2^s=a%b/\nv U<nv V:=by
 obtain⟨p,n,f,d⟩:=h;simp only[List.drop_zero,Nat.pow_zero,Nat.one_mul]at f d;have i:0<2^s:=Nat.two_pow_pos s;rw[j]at f d;rw[m]at d;have e:nv U=2^s*(nv U/2^s):=by
  have o:nv U%2^s=0:=by
   have:(nv U+b*2^s*nv Q)%2^s=0:=by rw[d];exact Nat.mul_mod_left _ _
   rw[Nat.mul_right_comm,Nat.add_mul_mod_self_right]at this;exact this
  have:=Nat.div_add_mod (nv U) (2^s);omega
 have g:nv U/2^s<b:=by rw[Nat.div_lt_iff_lt_mul i];exact f
 have c:a=b*nv Q+nv U/2^s:=by
  have:a*2^s=(b*nv Q+nv U/2^s)*2^s:=by
   have k:b*nv Q*2^s=b*2^s*nv Q:=Nat.mul_right_comm _ _ _;rw[<-d,Nat.add_mul,k,Nat.mul_comm (nv U/2^s)];omega
  exact Nat.eq_of_mul_eq_mul_right i this
 have l:0<b:=Nat.lt_of_le_of_lt (Nat.zero_le _) g;refine⟨?_,?_,by rw[j];exact f⟩
 ·conv=>rhs;rw[c,Nat.mul_add_div l,Nat.div_eq_of_lt g,Nat.add_zero]
 ·conv=>rhs;rw[c,Nat.mul_add_mod,Nat.mod_eq_of_lt g]
theorem a3R.start {a s n m:Nat} {V U:List Nat} (f:Dig U) (i:U.length=m+1+n) (k:0<n) (b:nv U=a*2^s) (d:U.getD (m+n) 0<2^s) (q:s<32) (p:V.length=n) (c:B<=2*V.getD (n - 1) 0):
  a3R (a*2^s) V U (List.replicate (m+1) 0) (m+1):=by
 refine⟨f,Dig.zeros _,?_,?_⟩
 ·have r:(U.drop (m+1)).length=n:=by simp;omega
  have e:=a2i (U.drop (m+1)) (n - 1) (by omega);have g:=a2i V (n - 1) (by omega);have l:=a1S (f.drop (m+1)) (n - 1);have j:(U.drop (m+1)).drop (n - 1)= [U.getD (m+n) 0]:=by
   rw[List.drop_drop,List.drop_eq_getElem_cons (by omega),List.drop_of_length_le (by omega),a0y (by omega)]
   congr 2;omega
  have h:V.drop (n - 1)= [V.getD (n - 1) 0]:=by
   rw[List.drop_eq_getElem_cons (by omega),List.drop_of_length_le (by omega),a0y (by omega)]
  rw[j]at e;rw[h]at g;simp only[nv,Nat.mul_zero,Nat.add_zero]at e g;have o:(2:Nat)^s<=2^31:=Nat.pow_le_pow_right (by omega) (by omega);rw[a1n]at c;have:B^(n - 1)*(U.getD (m+n) 0+1)<=B^(n - 1)*V.getD (n - 1) 0:=Nat.mul_le_mul_left _ (by omega);rw[Nat.mul_add,Nat.mul_one]at this;omega
 ·rw[List.drop_of_length_le (by simp)];simpa[nv]using b
theorem a9K {x c W V W':Nat} {e:Nat} (i:0<V) (j:W/V<=x) (k:x<=W/V+1) (a:(c=0/\W'+x*V=W)\/(c=1/\W<x*V/\W'+x*V=W+e)):
  (c=0->x=W/V/\W'=W%V)/\(c=1->1<=x/\x - 1=W/V/\W'+V=W%V+e):=by
 have d:=Nat.div_add_mod W V;have l:=Nat.mod_lt W i;generalize W/V=q at*;generalize W%V=r at*;refine⟨fun h=>?_,fun h=>?_⟩
 ·rcases a with⟨_,b⟩|⟨g,_⟩
  ·rcases(by omega:x=q\/x=q+1)with rfl|rfl
   ·refine⟨rfl,?_⟩;rw[Nat.mul_comm]at d;omega
   ·rw[Nat.succ_mul,Nat.mul_comm q]at b;omega
  ·omega
 ·rcases a with⟨g,_⟩|⟨_,b,f⟩
  ·omega
  ·rcases(by omega:x=q\/x=q+1)with rfl|rfl
   ·rw[Nat.mul_comm]at d;omega
   ·refine⟨by omega,by omega,?_⟩
    rw[Nat.succ_mul,Nat.mul_comm q]at f;omega
theorem b5n {b V:List Nat} {n t s:Nat} (w:Dig b) (u:b.length=n) (z:0<n) (k:b.getD (n - 1) 0=t) (D:s<32) (E:4294967296<=2*(t*2^s)) (q:t*2^s<4294967296) (c:a0M V (nv b*2^s)):V.length=n/\B<=2*V.getD (n - 1) 0:=by
 have f:=a2i b (n - 1) (by omega);have p:=a1S w (n - 1);have j:b.drop (n - 1)= [t]:=by
  rw[List.drop_eq_getElem_cons (by omega),List.drop_of_length_le (by omega),<-k,a0y (by omega)]
 rw[j]at f;simp only[nv,Nat.mul_zero,Nat.add_zero]at f;have a:B^n=B^(n - 1)*B:=by rw[<-Nat.pow_succ];congr 1;omega
 have A:0<B^(n - 1):=Nat.pow_pos a2o;have i:2^s*2^(32 - s)=4294967296:=by rw[<-Nat.pow_add,show s+(32 - s)=32 by omega]
 have m:0<2^s:=Nat.two_pow_pos _;have e:(t+1)*2^s<=B:=by
  have:t<2^(32 - s):=by
   have:2^s*t<2^s*2^(32 - s):=by rw[i,Nat.mul_comm];exact q
   exact Nat.lt_of_mul_lt_mul_left this
  have:2^s*(t+1)<=2^s*2^(32 - s):=Nat.mul_le_mul_left _ this;rw[i,Nat.mul_comm]at this;rw[a1n];exact this
 have h:nv b*2^s=nv (b.take (n - 1))*2^s+B^(n - 1)*(t*2^s):=by rw[f,Nat.add_mul,Nat.mul_assoc]
 have g:nv b*2^s<B^n:=by
  have F:nv (b.take (n - 1))*2^s<B^(n - 1)*2^s:=Nat.mul_lt_mul_of_pos_right p m;have l:B^(n - 1)*((t+1)*2^s)<=B^(n - 1)*B:=Nat.mul_le_mul_left _ e;rw[Nat.add_mul,Nat.one_mul,Nat.mul_add]at l;rw[a,h];omega
 have y:B^(n - 1)*(t*2^s)<=nv b*2^s:=by rw[h];omega
 have o:V.length<=n:=by rw[c.len];exact a2T.2 g
 have x:¬V.length<=n - 1:=by
  rw[c.len,a2T];have:B^(n - 1)*1<=B^(n - 1)*(t*2^s):=Nat.mul_le_mul_left _ (by omega);omega
 have v:V.length=n:=by omega
 refine⟨v,?_⟩;have d:=a2i V (n - 1) (by omega);have C:=a1S c.1 (n - 1);have r:V.drop (n - 1)= [V.getD (n - 1) 0]:=by
  rw[List.drop_eq_getElem_cons (by omega),List.drop_of_length_le (by omega),a0y (by omega)]
 rw[r]at d;simp only[nv,Nat.mul_zero,Nat.add_zero]at d;rw[c.2.2]at d;have:B^(n - 1)*(t*2^s)<B^(n - 1)*(V.getD (n - 1) 0+1):=by rw[Nat.mul_add,Nat.mul_one];omega
 have:=Nat.lt_of_mul_lt_mul_left this;rw[a1n];omega
theorem b8p {W V:List Nat} {n:Nat} (f:W.length=n+1) (g:V.length=n) (e:2<=n) (a:Dig W) (b:Dig V) (d:B<=2*V.getD (n - 1) 0) (c:nv W<nv V*B):
  W.getD n 0<=V.getD (n - 1) 0/\nv W/nv V<=a7Q B (W.getD n 0) (W.getD (n - 1) 0) (W.getD (n - 2) 0) (V.getD (n - 1) 0) (V.getD (n - 2) 0)/\a7Q B (W.getD n 0) (W.getD (n - 1) 0) (W.getD (n - 2) 0) (V.getD (n - 1) 0) (V.getD (n - 2) 0)<=nv W/nv V+1:=by
 obtain⟨p,rfl⟩:∃p,n=p+2:=⟨n - 2,by omega⟩;rw[show p+2 - 1=p+1 from rfl,show p+2 - 2=p from rfl]at*;rw[a0y (l:=V) (i:=p+1) (by omega)]at d;rw[a0y (l:=W) (i:=p+2) (by omega),a0y (l:=W) (i:=p+1) (by omega),a0y (l:=W) (i:=p) (by omega),a0y (l:=V) (i:=p+1) (by omega),a0y (l:=V) (i:=p) (by omega)];exact b9Z f g a b d c
theorem b8q {a b u0 v1 v0:Nat}:a7Q B a b u0 v1 v0<4294967296:=by unfold a7Q;rw[a1n];omega
theorem b5o {U:List Nat} {j n i:Nat} (hi:i<=n):((U.drop j).take (n+1)).getD i 0=U.getD (j+i) 0:=by
 simp only[List.getD_eq_getElem?_getD,List.getElem?_take_of_lt (Nat.lt_succ_of_le hi),List.getElem?_drop]
theorem b5p {V o a:List Nat} {W n c:Nat} (_:Dig V) (_:V.length=n) (b:0<nv V) (j:nv o+nv V=W%nv V+B^(n+1)) (h:nv a+B^(n+1)*c=nv o+nv V) (k:c<=1) (f:Dig a) (d:a.length=n+1):nv a=W%nv V:=by
 have e:=a4K f;rw[d]at e;have g:=Nat.mod_lt W b;have i:B^n<=B^(n+1):=Nat.pow_le_pow_right a2o (by omega);rcases(by omega:c=0\/c=1)with rfl|rfl
 ·omega
 ·omega
end Go.Lim
namespace Go.Proofs.YtidbbddagfnfbaaGreat
open Go.RowKit Go.Rep Go.Lim
theorem a3S (a b:Nat) (e:a<4294967296) (f:b<4294967296):bits .or .u32 (a:Int) (b:Int)=((a|||b:Nat):Int):=by
 have g:a|||b<2^32:=Nat.or_lt_two_pow (by omega) (by omega);have d:(BitVec.ofInt 32 (a:Int)).toNat=a:=by
  rw[BitVec.ofInt_natCast,BitVec.toNat_ofNat];exact Nat.mod_eq_of_lt (by omega)
 have c:(BitVec.ofInt 32 (b:Int)).toNat=b:=by
  rw[BitVec.ofInt_natCast,BitVec.toNat_ofNat];exact Nat.mod_eq_of_lt (by omega)
 show IntKind.u32.wrap ((BitVec.ofInt 32 (a:Int)|||BitVec.ofInt 32 (b:Int)).toNat:Int)=_
 rw[BitVec.toNat_or,d,c,IntKind.wrap_u32];omega
theorem a2A (a b:Nat) (e:a<4294967296) (f:b<4294967296):bits .xor .u32 (a:Int) (b:Int)=((a^^^b:Nat):Int):=by
 have g:a^^^b<2^32:=Nat.xor_lt_two_pow (by omega) (by omega);have d:(BitVec.ofInt 32 (a:Int)).toNat=a:=by
  rw[BitVec.ofInt_natCast,BitVec.toNat_ofNat];exact Nat.mod_eq_of_lt (by omega)
 have c:(BitVec.ofInt 32 (b:Int)).toNat=b:=by
  rw[BitVec.ofInt_natCast,BitVec.toNat_ofNat];exact Nat.mod_eq_of_lt (by omega)
 show IntKind.u32.wrap ((BitVec.ofInt 32 (a:Int)^^^BitVec.ofInt 32 (b:Int)).toNat:Int)=_
 rw[BitVec.toNat_xor,d,c,IntKind.wrap_u32];omega
theorem a2B (a b:Nat) (e:a<4294967296) (f:b<4294967296):bits .and .u32 (a:Int) (b:Int)=((a&&&b:Nat):Int):=by
 have g:a&&&b<2^32:=Nat.and_lt_two_pow _ (by omega);have d:(BitVec.ofInt 32 (a:Int)).toNat=a:=by
  rw[BitVec.ofInt_natCast,BitVec.toNat_ofNat];exact Nat.mod_eq_of_lt (by omega)
 have c:(BitVec.ofInt 32 (b:Int)).toNat=b:=by
  rw[BitVec.ofInt_natCast,BitVec.toNat_ofNat];exact Nat.mod_eq_of_lt (by omega)
 show IntKind.u32.wrap ((BitVec.ofInt 32 (a:Int)&&&BitVec.ofInt 32 (b:Int)).toNat:Int)=_
 rw[BitVec.toNat_and,d,c,IntKind.wrap_u32];omega
theorem a7R (n:Nat) (h:n<4294967296):n/2147483648=(n.testBit 31).toNat:=by
 rw[Nat.testBit_eq_decide_div_mod_eq,show(2:Nat)^31=2147483648 from rfl];by_cases a:n/2147483648%2=1
 ·rw[decide_eq_true a];simp;omega
 ·rw[decide_eq_false a];simp;omega
theorem b2L (n:Nat):(4294967295^^^n).testBit 31= !n.testBit 31:=by
 rw[Nat.testBit_xor,show(4294967295:Nat)=2^32 - 1 from rfl,Nat.testBit_two_pow_sub_one];cases n.testBit 31<;>rfl
theorem b2M (x y d c:Nat) (o:x<4294967296) (h:y<4294967296) (p:c<=1) (i:d=a4D x y c):
  (((4294967295^^^x)&&&y)|||((4294967295^^^(x^^^y))&&&d))/2147483648=a6t x y c:=by
 have a:d<4294967296:=by rw[i];unfold a4D;omega
 have k:(4294967295^^^x)&&&y<4294967296:=Nat.and_lt_two_pow (n:=32) _ h;have l:(4294967295^^^(x^^^y))&&&d<4294967296:=Nat.and_lt_two_pow (n:=32) _ a;rw[a7R _ (Nat.or_lt_two_pow (n:=32) k l),Nat.testBit_or,Nat.testBit_and,Nat.testBit_and,b2L x,b2L,Nat.testBit_xor];have m:=a7R x o;have j:=a7R y h;have g:=a7R d a;rw[i]at g |-;unfold a6t;unfold a4D at*;cases f:x.testBit 31<;>cases b:y.testBit 31<;>cases e:((x+4294967296 - y - c)%4294967296).testBit 31<;>simp[f,b,e]at m j g |- <;>omega
theorem a4S (x y c:Nat) (w:World) (f:x<4294967296) (a:y<4294967296) (l:c<=1):
  Calls Tryz.prog 292 #[.int .u32 x, .int .u32 y, .int .u32 c] w fun e i=>w=i/\e= .returned (.tuple #[.int .u32 (a4D x y c:Nat), .int .u32 (a6t x y c:Nat)]):=by
 have j:=hid (b2M x y (a4D x y c) c f a l rfl);go_enter Tryz.func292,Tryz.ntmps292
 go_wp2_with fail
 go_ret2
 refine⟨rfl,?_⟩;have d:x^^^y<4294967296:=Nat.xor_lt_two_pow (n:=32) f a;have g:∀n:Nat,n<4294967296->4294967295^^^n<4294967296:=fun n h=>Nat.xor_lt_two_pow (n:=32) (by omega) h;have m:IntKind.u32.max=((4294967295:Nat):Int):=rfl;have o:((x:Int) - y - c)%4294967296=(a4D x y c:Nat):=by unfold a4D;omega
 have b:a4D x y c<4294967296:=by unfold a4D;omega
 rw[m,o,a2A _ _ (by decide) f,a2A _ _ f a,a2A _ _ (by decide) d,a2B _ _ (g _ f) a,a2B _ _ (g _ d) b,
  a3S _ _ (Nat.and_lt_two_pow (n:=32) _ a) (Nat.and_lt_two_pow (n:=32) _ b)]
 have k:((((4294967295^^^x)&&&y|||(4294967295^^^(x^^^y))&&&a4D x y c:Nat):Int)/2147483648)=(a6t x y c:Nat):=by rw[<-j.out];rfl
 simp[k]
end Go.Proofs.YtidbbddagfnfbaaGreat
namespace Go.Lim
def a7S (l:List Int) (n:Int) (i:Nat):Bool:=decide (0<=l.getD i 0)&&decide (l.getD i 0<n)&&(decide (i=0)||decide (l.getD (i - 1) 0<l.getD i 0))
def b5q (l:List Int) (n:Int):Bool:=(List.range l.length).all (a7S l n)
theorem a2K {p:Nat->Prop} {i:Nat} (h:∀j,j<i->p j) (hi:p i):∀j,j<i+1->p j:=fun j b=>by
 by_cases a:j<i
 ·exact h j a
 ·obtain rfl:j=i:=by omega
  exact hi
theorem a6u {n:Nat} {p:Nat->Bool} (i:Nat) (h:i<n) (a:p i=false):(List.range n).all p=false:=by
 rw[List.all_eq_false];exact⟨i,by simpa using h,by simp[a]⟩
theorem a6Z {n:Nat} {p:Nat->Bool} (h:∀i,i<n->p i=true):(List.range n).all p=true:=by
 rw[List.all_eq_true];intro i hi;exact h i (by simpa using hi)
theorem a7T {n:Nat} {p:Nat->Bool}:(List.range n).all p=true↔∀i,i<n->p i=true:=by
 rw[List.all_eq_true];simp
theorem b5r {l:List Int} {n:Int} {i:Nat} {x y:Int} (b:l.getD i 0=x) (a:l.getD (i - 1) 0=y):a7S l n i=(decide (0<=x)&&decide (x<n)&&(decide (i=0)||decide (y<x))):=by
 unfold a7S;rw[b,a]
theorem b2N {l:List Int} {i:Nat} (h:i<l.length):l.getD i 0=l[i]:=by simp[List.getD,h]
def c2l (a b:List Int):Bool:=a.any fun x=>b.any fun y=>x==y
def ch:Nat->Nat->Nat
 |_,0=>1
 |0,_+1=>0
 |n+1,k+1=>ch n k+ch n (k+1)
theorem a3x (n:Nat):ch n 0=1:=by cases n<;>rfl
theorem b5s:∀(n k:Nat),n<k->ch n k=0
 |_,0,h=>by omega
 |0,_+1,_=>rfl
 |n+1,k+1,h=>by rw[ch,b5s n k (by omega),b5s n (k+1) (by omega)]
theorem b5t:∀(n k:Nat),ch n k<=2^n
 |n,0=>by rw[a3x];exact Nat.one_le_two_pow
 |0,_+1=>by simp[ch]
 |n+1,k+1=>by
  have h1:=b5t n k;have h2:=b5t n (k+1);rw[ch,Nat.pow_succ];omega
theorem b7f:∀(n k:Nat),k<=n->0<ch n k
 |n,0,_=>by rw[a3x];exact Nat.one_pos
 |0,_+1,h=>by omega
 |n+1,k+1,h=>by have:=b7f n k (by omega);rw[ch];omega
theorem b8r {n k:Nat} (h:n<=64):ch n k<B^3:=by
 rw[b5g];have:=b5t n k;have a:(2:Nat)^n<=2^64:=Nat.pow_le_pow_right (by decide) h;have b:(2:Nat)^64<2^(32*3):=Nat.pow_lt_pow_right (by decide) (by decide);omega
theorem c0a {n k:Nat} (h:n<=64):lg (ch n k)<=3:=a2T.2 (b8r h)
def a3h (r:List Nat) (k i j:Nat):Prop:=r.length=k+1/\∀p (_:p<r.length),r[p]=if j<p then ch (i+1) p else ch i p
theorem a3h.start (k:Nat):a3h ((List.replicate (k+1) 0).set 0 1) k 0 k:=by
 refine⟨by simp,fun p h=>?_⟩;simp at h;rw[if_neg (by omega),List.getElem_set];split
 ·subst_vars;rw[a3x]
 ·cases p with
  |zero=>omega
  |succ p=>simp[ch]
theorem a3h.step {r:List Nat} {k i j:Nat} (h:a3h r k i j) (o:0<j) (n:j<=k) {x y:Nat} (g:r[j]'(by rw[h.1];omega)=x) (l:r[j - 1]'(by rw[h.1];omega)=y):a3h (r.set j (x+y)) k i (j - 1):=by
 obtain⟨m,c⟩:=h;refine⟨by simpa using m,fun p f=>?_⟩;have e:=c j (by omega);have d:=c (j - 1) (by omega);rw[if_neg (by omega),g]at e;rw[if_neg (by omega),l]at d;rw[List.getElem_set];by_cases a:j=p
 ·subst a
  rw[if_pos rfl,if_pos (by omega),e,d];obtain⟨q,rfl⟩:∃q,j=q+1:=⟨j - 1,by omega⟩;rw[ch];simp[Nat.add_comm]
 ·rw[if_neg a,c p (by simpa using f)]
  by_cases b:j<p
  ·rw[if_pos b,if_pos (by omega)]
  ·rw[if_neg b,if_neg (by omega)]
theorem a3h.next {r:List Nat} {k i:Nat} (h:a3h r k i 0):a3h r k (i+1) k:=by
 refine⟨h.1,fun p a=>?_⟩;rw[h.2 p a,if_neg (by have:=h.1;omega:¬k<p)];split
 ·rfl
 ·obtain rfl:p=0:=by omega
  rw[a3x,a3x]
theorem a3h.done {r:List Nat} {k i:Nat} (h:a3h r k i k) (a:k<r.length):r[k]=ch i k:=by
 rw[h.2 k a,if_neg (by omega)]
theorem a3h.le {r:List Nat} {k i j:Nat} (h:a3h r k i j) (p:Nat) (a:p<r.length) (hi:i<64):lg r[p]<=3:=by
 rw[h.2 p a];split
 ·exact c0a (by omega)
 ·exact c0a (by omega)
abbrev c1h:=List Int×List Int
theorem b5u {l:List Int} {n:Int}:b5q l n=true↔∀i,i<l.length->a7S l n i=true:=a7T
end Go.Lim
namespace Go.Rep
open Go.RowKit Go.Lim
def a6v:Mem->Value->c1h->Prop:=fun h u x=>∃a1 c1 a2 c2,u= .agg #[.slice a1 x.1.length c1, .slice a2 x.2.length c2]/\x.1.length<=c1/\x.2.length<=c2/\Sl (a0p .i64) 1 h a1 x.1/\Sl (a0p .i64) 1 h a2 x.2
theorem a6v.mono:a3E a6v:=by
 rintro h k u x a ⟨b,d,c,e,rfl,j,g,i,f⟩;exact⟨b,d,c,e,rfl,j,g,i.mono (a0p.mono _) a,f.mono (a0p.mono _) a⟩
theorem a6v.elem:Elem a6v 2:=⟨a6v.mono,by rintro h u x ⟨b,e,d,f,rfl,_⟩;rfl,by
 rintro h u x ⟨b,e,d,f,rfl,_⟩ c a;simp[a0i,Value.cells]at a;rcases a with rfl|rfl<;>rfl,by decide⟩
theorem Sl.leaf {X:Nat->Bool} {w:World} {ao:Option Addr} {l:List c1h} (s:Sl a6v 2 (mk X w) ao l) (i:Nat) (hi:i<l.length):
  ∃a d b c,w.cell? (adr ao (i*2))=some (.slice a l[i].1.length d)/\w.cell? (adr ao (i*2+1))=some (.slice b l[i].2.length c)/\l[i].1.length<=d/\l[i].2.length<=c/\Sl (a0p .i64) 1 (mk X w) a l[i].1/\Sl (a0p .i64) 1 (mk X w) b l[i].2:=by
 obtain⟨u,k,e,a,d,b,c,rfl,j,h,f,g⟩:=s.2 i hi;exact⟨a,d,b,c,a0S (e 0 (by simp[Value.cells])),a0S (e 1 (by simp[Value.cells])),j,h,f,g⟩
theorem Sl.unstep {α:Type} {R:Mem->Value->α->Prop} (c:a3E R) {sz:Nat} {X:Nat->Bool} {w b:World} {oo a ao:Option Addr} {l:List α} (s:Sl R sz (mk (un X oo) w) ao l) (d:ExtX (ob oo) w b) (e:a=oo\/∃g,a=some ⟨g,0,none⟩/\w.heap.size<=g):Sl R sz (mk (un X a) b) ao l:=
 s.mono c (a2j d e)
theorem Sl.unX {α:Type} {R:Mem->Value->α->Prop} (a:a3E R) {sz:Nat} {X:Nat->Bool} {w:World} {oo ao:Option Addr} {l:List α} (s:Sl R sz (mk (un X oo) w) ao l):Sl R sz (mk X w) ao l:=
 s.mono a (a1u fun _ _ b=>a0f b)
theorem Sl.old {α:Type} {R:Mem->Value->α->Prop} (c:a3E R) {sz:Nat} {X:Nat->Bool} {w b:World} {oo ao:Option Addr} {l:List α} (s:Sl R sz (mk X w) ao l) (d:Ext w b) (e:∀j,j<w.heap.size->ob oo j=false):Sl R sz (mk (un X oo) b) ao l:=
 s.mono c (a0T d (fun k _ a=>by simp[noY]at a) fun j a f=>by simpa[un,e j a]using f)
def a1D (P:Program) (t sz:Nat):Prop:=∃fs ti,P.underlying t=some (.struct fs)/\P.info? t=some ti/\ti.size=sz
section
variable {P:Program} {ops:Array Oper} {Q:Exit->Act->World->Prop} {rest:List Oper} {a:Act} {w:World}
variable {α:Type} {R:Mem->Value->α->Prop} {sz:Nat} {X:Nat->Bool} {ao:Option Addr} {l:List α}
variable {d:Option Tmp} {ty:TypeId} {ps:String} {af:Array Edge}
theorem a0G {t:TypeId} {x:Operand} {k:Nat} (p:a1D P t sz) (i:Nat) (B:Sl R sz (mk X w) ao l) (hi:i<l.length) (C:a.eval x= .pointer (some (adr ao k))) (r:k=i*sz) (e:∀h u y,R h u y->∃c,u= .agg c)
  (K:∀u,R (mk X w) u l[i]->wpList P ops Q rest (a.put d u) w):
  wpList P ops Q (⟨d, .load t x,ty,ps,af,none⟩::rest) a w:=by
 refine wpList_plain rfl fun G f=>?_;subst r;obtain⟨H,F,E,z,D⟩:=p;obtain⟨u,s,q,o⟩:=B.2 i hi;obtain⟨c,rfl⟩:=e _ _ _ o;have n:=run_loadCells_list (P:=P) w (adr ao (i*sz)) c.toList (fun j v A=>by
  rw[a9I];obtain⟨m,b⟩:=List.getElem?_eq_some_iff.1 A;have:=a0S (q j (by simpa[Value.cells]using m));rw[this];simp[Value.cells]at b |-;exact b)
 have g:c.toList.length=sz:=by simpa[Value.cells]using s
 rw[g]at n;unfold Oper.wp;simp[execOp,C,Instr.loadAt,Instr.sureAddr,loadVar,isAgg,run_underlying E,sizeOf,typeInfo,z,D,n,Result.andThen];exact f _ _ (K _ o)
end
theorem a6v.agg:∀h u y,a6v h u y->∃a,u= .agg a:=by rintro h u y ⟨b,d,c,e,rfl,_⟩;exact⟨_,rfl⟩
theorem OL.ob_ge {α:Type} {R:Mem->Value->α->Prop} {sz:Nat} {X:Nat->Bool} {base:Nat} {e:TypeId} {w:World} {ao:Option Addr} {a:Nat} {l:List α} (h:OL R sz X base e w ao a l) {k:Nat} (c:w.heap.size<=k):ob ao k=false:=by
 cases b:ob ao k
 ·rfl
 ·have:=h.block b;omega
theorem a0u {P:Program} {ops:Array Oper} {Q:Exit->Act->World->Prop} {rest:List Oper} {a:Act} {w:World} {α:Type} {R:Mem->Value->α->Prop} {sz:Nat} {X:Nat->Bool} {base:Nat} {e:TypeId} {ao:Option Addr} {m:Nat} {l:List α} {d:Option Tmp} {ty:TypeId} {ps:String} {af:Array Edge}
  {t o:Nat} {z:Value} {arr:Array Value} {s x:Operand} (T:SliceT P t e sz o z) (r:z.cells.size=sz) (C:Elem R sz) (i:base<=w.heap.size) (v:∀k,X k=true->k<w.heap.size) (n:Nat) (D:l.length=n)
  (B:a.eval s= .slice ao n m) (F:a.eval x= .slice (some ⟨w.heap.size,0,none⟩) 1 1) (h:OL R sz X base e w ao m l)
  (u:Value) (y:α) (q:arr=u.cells) (E:R (mk (un X ao) w) u y) (f:(n+1)*o<=140737488355328) (p:n+1<=9223372036854775807)
  (K:∀c b j,OL R sz X base e j c b (l++[y])->ExtX (ob ao) w j->(c=ao\/∃g,c=some ⟨g,0,none⟩/\w.heap.size<=g)->wpList P ops Q rest (a.put d (.slice c (n+1) b)) j):
  wpList P ops Q (⟨d, .call {callee:= .builtin .append,args:=#[s,x],argTypes:=#[t,t]},ty,ps,af,none⟩::rest) a (w.alloc (.cells arr e)):=by
 subst D;exact a3f T r C i v B F h u y q E f p fun c b j H A G=>by
  have:=K c b j H A G;rwa[show l.length+1=(l++[y]).length from by simp]at this
end Go.Rep
namespace Go.Proofs.YtidbbddagfnfbaaGreat
open Go.RowKit Go.Rep Go.Lim
def b0N (w:World) (k:IntKind) (n:Nat) (e:Ending) (w':World):Prop:=e= .returned (.int k n)/\∃m,w'=w.drewN m
theorem a7U (a b:Nat) (d:a<4294967296) (f:b<4294967296):bits BinOp.or IntKind.u64 ((a:Int)*4294967296) (b:Int)=(a:Int)*4294967296+b:=by
 have e:=bits_or_u64_nat (a*4294967296) b (by omega) (by omega);have c:=Nat.two_pow_add_eq_or_of_lt (i:=32) (b:=b) (by omega) a;rw[Nat.mul_comm]at c;rw[<-c]at e;simpa using e
set_option maxRecDepth 100000 in
set_option maxHeartbeats 400000 in
theorem b2O (h i u0 v1 v0:Nat) (w:World) (C:2147483648<=v1) (p:v1<4294967296) (n:h<=v1) (m:i<4294967296) (u:u0<4294967296) (g:v0<4294967296):
  Calls Tryz.prog 309 #[.int .u32 h, .int .u32 i, .int .u32 u0, .int .u32 v1, .int .u32 v0] w (b0N w .u64 (a7Q B h i u0 v1 v0)):=by
 have G:((v1:Int)==0)=false:=a2w (by omega);have H:((v1:Int) !=0)=true:=a6X (by omega);have s:=a7U h i (by omega) m;have a:=hid a1n;have o:Hid (a6Y B h i u0 v1 v0 ((h*4294967296+i)/v1) ((h*4294967296+i)%v1)):=hid (by
  have:=a6Y.start (b:=B) (u0:=u0) (v0:=v0) (by rw[a1n];omega) (by rw[a1n];omega) n (by rw[a1n];exact m) (by rw[a1n];exact u);rwa[a1n]at this |-)
 go_enter Tryz.func309,Tryz.ntmps309
 go_wp2_with fail
 go_quiet (fail)
 go_wp2_with fail
 go_loop [12,13] (fun x y=>∃(q r:Nat),x= .int .u64 q/\y= .int .u64 r/\Hid (a6Y B h i u0 v1 v0 q r)) (fun x _=>(intOf x).toNat)
 case atStart=>exact⟨_,_,by rw[Int.natCast_ediv];simp,by rw[Int.natCast_emod];simp,o⟩
 case round=>
  obtain⟨q,r,rfl,rfl,d⟩:=hrel;have t:q<=4294967297:=by have:=d.out.2.2;rw[a.out]at this;exact this
  clear s G H o;have K:(q:Int)<=4294967297:=by omega
  by_cases L:(r:Int)<4294967296
  ·have s:=a7U r u0 (by omega) u
   by_cases f:4294967296<=q
   ·obtain⟨k,c⟩:=d.out.more (by rw[a.out];omega) (.inl (by rw[a.out];exact f)) (by omega)
    have l:=hid c;have j:(4294967296:Int)<=(q:Int):=by omega
    clear c f t;go_wp2_with fail
    go_round
    case rel=>exact⟨q - 1,r+v1,by rw[Int.natCast_sub k];rfl,rfl,l⟩
    case measure=>simp[intOf];omega
   ·have E:q*v0<=4294967295*4294967295:=Nat.mul_le_mul (by omega) (by omega)
    have I:IntKind.u64.wrap ((q:Int)*(v0:Int))=(q:Int)*(v0:Int):=IntWalk.u64_in _ (by rw[<-Int.natCast_mul];omega);have D:(0:Int)<=(q:Int)*(v0:Int):=Int.mul_nonneg (by omega) (by omega);by_cases v:r*4294967296+u0<q*v0
    ·obtain⟨k,c⟩:=d.out.more (by rw[a.out];omega) (.inr (by rw[a.out];exact v)) (by omega)
     have l:=hid c;have F:decide ((r:Int)*4294967296+(u0:Int)<(q:Int)*(v0:Int))=true:=by rw[decide_eq_true_eq,<-Int.natCast_mul];omega
     have j:(q:Int)<4294967296:=by omega
     clear c E v f t;go_wp2_with fail
     go_round
     case rel=>exact⟨q - 1,r+v1,by rw[Int.natCast_sub k];rfl,rfl,l⟩
     case measure=>simp[intOf];omega
    ·have j:(q:Int)<4294967296:=by omega
     have e:=hid (d.out.less (by rw[a.out];omega) (by rw[a.out];omega) n (by rw[a.out];exact m) (by rw[a.out];exact g) (.inr ⟨by rw[a.out];omega,by rw[a.out];omega⟩));have F:decide ((r:Int)*4294967296+(u0:Int)<(q:Int)*(v0:Int))=false:=by rw[decide_eq_false_iff_not,<-Int.natCast_mul];omega
     have A:decide ((4294967296:Int)<=(q:Int))=false:=decide_eq_false (by omega);have J:(u0:Int)<4294967296:=by omega
     have z:(v0:Int)<4294967296:=by omega
     clear E v f t C p n m u g;go_wp2_with fail
     go_ret
     exact⟨a0P (congrArg Nat.cast e.out),_,rfl⟩
  ·have e:=hid (d.out.less (by rw[a.out];omega) (by rw[a.out];omega) n (by rw[a.out];exact m) (by rw[a.out];exact g) (.inl (by rw[a.out];omega)))
   clear t C p n m u g;go_wp2_with fail
   go_ret
   exact⟨a0P (congrArg Nat.cast e.out),_,rfl⟩
set_option maxRecDepth 100000 in
theorem a6w (X:Nat->Bool) (ao:Option Addr) (l:List Nat) (A s:Nat) (w:World) (M:Sl (a0c .u32) 1 (mk X w) ao l) (P:Dig l) (hl:l.length<=1099511627776) (H:s<32) (Q:∀k,X k=true->k<w.heap.size):
  Calls Tryz.prog 308 #[.slice ao l.length A, .int .i64 s] w (fun e K=>Ext w K/\∃oo o,e= .returned (.slice oo o.length o.length)/\OL (a0c .u32) 1 X w.heap.size 147 K oo o.length o/\Hid (o.length=l.length+1/\Dig o/\o.getD l.length 0<2^s/\nv o=nv l*2^s)):=by
 have Z:=M.hd;go_enter Tryz.func308,Tryz.ntmps308
 go_wp2_with (at_make;refine a2y a0R (a0c.elem .u32) 0 (fun _=>rfl) X Q w.heap.size (Nat.le_refl _) (l.length+1) rfl rfl (by omega) (by omega) (by omega) ?_;intro oo V L n)
 go_loopw [15] (fun c wr=>∃(k:Nat) (o:List Nat),c= .int .i64 k/\k<=l.length/\Hid (a7P l o s k)/\Hid (o.length=l.length+1)/\OL (a0c .u32) 1 X w.heap.size 147 wr oo (l.length+1) o/\Ext w wr) (fun c _=>l.length - (intOf c).toNat)
 case atStart=>exact⟨0,_,rfl,by omega,hid (a7P.start l s),hid (by simp),L,n⟩
 case round=>
  obtain⟨k,o,rfl,W,a,d,b,i⟩:=hrel;clear L n;have R:Hd oo (l.length+1):=d.out▸b.hd;by_cases m:k<l.length
  ·have C:=(M.mono (a0c.mono _) (a0l i)).nat k m
   have f:k<o.length:=by rw[d.out];omega
   have D:=(b.sl (a0c.elem _)).nat k f;obtain⟨x,u⟩:∃x,l[k]=x:=⟨_,rfl⟩;obtain⟨lo,g⟩:∃lo,o[k]=lo:=⟨_,rfl⟩;obtain⟨j,N,O,J⟩:=a.out.step (lo:=lo) m u ((a0y f).trans g) P H;have E:=P.get k m;rw[u,a1n]at E;rw[u]at C;rw[g]at D;have h:=a.out.2.1.get k f;rw[g,a1n]at h;obtain⟨p,y⟩:∃p,x*2^s=p:=⟨_,rfl⟩;rw[y]at j N O J;have t:=hid j;have T:IntKind.u64.wrap ((x:Int)*2^s)=(p:Int):=by
    have e:(x:Int)*2^s=(p:Int):=by rw[<-y];simp
    rw[e];exact IntWalk.u64_in _ (by omega)
   have S:bits BinOp.or IntKind.u32 (lo:Int) ((p:Int)%4294967296)=((lo|||p%4294967296:Nat):Int):=by
    have:=a3S lo (p%4294967296) h (Nat.mod_lt _ (by decide));simpa using this
   have z:=hid J;clear u g a y j N O J;go_wp2_with (first|(with_reducible refine a0q a0R (by omega) (by assumption) ?_)|((with_reducible show wpList _ _ _ (⟨_, .store _ _ _,_,_,_,_⟩::_) _ _);first|(refine a1a a3P k (lo|||p%4294967296) rfl rfl b f rfl rfl ?_;intro Y r I)|(refine a1a a3P (k+1) (p/4294967296) rfl rfl r (by simp;rw[d.out];omega) rfl (by have:=z.out;omega) ?_;intro U G v)))
   have q:Hid (((o.set k (lo|||p%4294967296)).set (k+1) (p/4294967296)).length=l.length+1):=hid (by simp;exact d.out);go_roundw
   case rel=>exact⟨k+1,_,by go_num,by omega,t,q,G,(i.own b (Nat.le_refl _) I).own r (Nat.le_refl _) v⟩
   case measure=>simp[intOf];omega
  ·have B:k=l.length:=by omega
   subst B;have F:=hid a.out.done;rw[<-d.out]at b |-;go_wp2_with fail
   go_ret
   exact⟨i,_,o,rfl,b,F⟩
def b7g (X:Nat->Bool) (base g cU:Nat) (w:World) (A R:List Nat) (P:List Nat->Ending->Prop) (e:Ending) (w':World):Prop:=
 ExtX (ob (some ⟨g,0,none⟩)) w w'/\∃o:List Nat,P o e/\OL (a0c .u32) 1 X base 147 w' (some ⟨g,0,none⟩) cU (A++o++R)
theorem b2P {A o R:List Nat} {k:Nat} (h:k<o.length):(A++o++R)[A.length+k]'(by simp;omega)=o[k]:=by
 rw[List.getElem_append_left (by simp;omega),List.getElem_append_right (by omega)];simp
theorem a7V {A o R:List Nat} {k d:Nat} (h:k<o.length):(A++o++R).set (A.length+k) d=A++o.set k d++R:=by
 rw[List.append_assoc,List.set_append_right _ _ (by omega),List.append_assoc]
 congr 1
 rw[show A.length+k - A.length=k by omega,List.set_append_left _ _ h]
theorem a7W (g a k:Nat):Value.pointer (some (⟨g,a+k,none⟩:Addr))= .pointer (some (adr (some ⟨g,0,none⟩) (a+k))):=by rw[a1h,Nat.zero_add]
def c2m (W V:List Nat) (x n:Nat) (o:List Nat) (e:Ending):Prop:=∃bo:Nat,e= .returned (.bool (decide (bo=1)))/\o.length=n+1/\Dig o/\((bo=0/\nv o+x*nv V=nv W)\/(bo=1/\nv W<x*nv V/\nv o+x*nv V=nv W+B^(n+1)))
set_option maxRecDepth 100000 in
theorem b1G (X:Nat->Bool) (base g cU cw:Nat) (A W R V:List Nat) (vo:Option Addr) (cv x n:Nat) (w:World) (hU:OL (a0c .u32) 1 X base 147 w (some ⟨g,0,none⟩) cU (A++W++R)) (U:Sl (a0c .u32) 1 (mk (un X (some ⟨g,0,none⟩)) w) vo V)
  (hW:W.length=n+1) (hV:V.length=n) (F:Dig V) (a1:Dig W) (hx:x<4294967296) (_:A.length<=1099511627776) (hn:n<=1099511627776):
  Calls Tryz.prog 310 #[.slice (some ⟨g,A.length,none⟩) W.length cw, .slice vo V.length cv, .int .u64 x] w (b7g X base g cU w A R (c2m W V x n)):=by
 have b4:=U.hd;have b6:Hd (some (⟨g,A.length,none⟩:Addr)) W.length:=fun _=>⟨_,_,rfl⟩;have a8:=hid hW;have a4:=hid hV;have L:Hid (x<B):=hid (by rw[a1n];exact hx);have b2:W.length<=1099511627777:=by omega
 have b0:V.length<=1099511627776:=by omega
 clear hW hV;go_enter Tryz.func310,Tryz.ntmps310
 go_wp2_with fail
 go_loopw [7,8,13] (fun a b c wr=>∃(k E l:Nat) (o:List Nat),a= .int .u64 E/\b= .int .u32 l/\c= .int .i64 k/\k<=W.length/\E<4294967296/\l<=1/\Hid (a4P W V x o k E l)/\Hid (o.length=W.length)/\OL (a0c .u32) 1 X base 147 wr (some ⟨g,0,none⟩) cU (A++o++R)/\ExtX (ob (some ⟨g,0,none⟩)) w wr) (fun _ _ c _=>W.length - (intOf c).toNat)
 case atStart=>exact⟨0,0,0,W,rfl,rfl,rfl,by omega,by omega,by omega,hid (a4P.start a1),hid rfl,hU,ExtX.refl _⟩
 case round=>
  obtain⟨k,E,l,o,rfl,rfl,rfl,hk,P,T,f,O,u,q⟩:=hrel;clear hU;by_cases N:k<W.length
  ·have m:k<o.length:=by rw[O.out];exact N
   have p:A.length+k<(A++o++R).length:=by simp;omega
   have j:=(u.sl (a0c.elem _)).nat (A.length+k) p;rw[b2P m]at j;obtain⟨z,hz⟩:∃z,o[k]=z:=⟨_,rfl⟩;rw[hz]at j;have a9:wr.cell? ⟨g,A.length+k,none⟩=some (.int .u32 z):=by rw[a1h,Nat.zero_add]at j;exact j
   have r:=U.unstep (a0c.mono _) q (.inl rfl);by_cases I:k<V.length
   ·have a3:=r.nat k I
    obtain⟨y,hy⟩:∃y,V[k]=y:=⟨_,rfl⟩;rw[hy]at a3;obtain⟨h,b1,M⟩:=f.out.step (y:=y) (z:=z) N ((a0y I).trans hy) ((a0y m).trans hz) F L.out;have a7:=F.get k I;rw[hy,a1n]at a7;obtain⟨t,ht⟩:∃t,E+x*y=t:=⟨_,rfl⟩;rw[ht]at h b1;have i:=hid h;have b3:IntKind.u64.wrap ((x:Int)*(y:Int))=(x:Int)*(y:Int):=IntWalk.u64_in _ (by rw[<-Int.natCast_mul];omega);have b5:IntKind.u64.wrap ((E:Int)+(x:Int)*(y:Int))=(t:Int):=by
     rw[<-ht,Int.natCast_add,Int.natCast_mul];exact IntWalk.u64_in _ (by rw[<-Int.natCast_mul];omega)
    have a2:(t:Int)%4294967296=((t%4294967296:Nat):Int):=by omega
    have G:t%4294967296<4294967296:=Nat.mod_lt _ (by decide);obtain⟨Q,H⟩:∃Q,t%4294967296=Q:=⟨_,rfl⟩;rw[H]at a2 G i;have v:=hid (a7V (A:=A) (R:=R) (d:=a4D z Q l) m);have Z:t/4294967296<4294967296:=by omega
    have s:a6t z Q l<=1:=by unfold a6t;split<;>omega
    have C:Hid ((o.set k (a4D z Q l)).length=W.length):=hid (by rw[List.length_set];exact O.out);clear h hz hy f ht b1 r j H;go_wp2_with (first|(with_reducible refine a0q a0R (by omega) (by assumption) ?_)|(go_at_call 292;refine(a4S _ _ _ _ M G T).mono ?_;rintro e w' ⟨rfl,rfl⟩)|((with_reducible show wpList _ _ _ (⟨_, .store _ _ _,_,_,_,_⟩::_) _ _);refine a1a a3P (A.length+k) (a4D z Q l) (a7W g A.length k) rfl u p rfl rfl ?_;intro w3 D J))
    rw[v.out]at D;go_roundw
    case rel=>exact⟨k+1,_,_,_,by simp,rfl,by go_num,by omega,Z,s,i,C,D,q.trans J⟩
    case measure=>simp[intOf];omega
   ·obtain⟨h,b1,M⟩:=f.out.step (y:=0) (z:=z) N (a4l (by omega)) ((a0y m).trans hz) F L.out
    rw[Nat.mul_zero,Nat.add_zero,Nat.mod_eq_of_lt P,Nat.div_eq_of_lt P]at h;have i:=hid h;have v:=hid (a7V (A:=A) (R:=R) (d:=a4D z E l) m);have s:a6t z E l<=1:=by unfold a6t;split<;>omega
    have C:Hid ((o.set k (a4D z E l)).length=W.length):=hid (by rw[List.length_set];exact O.out);clear h hz f b1 r j;go_wp2_with (first|(with_reducible refine a0q a0R (by omega) (by assumption) ?_)|(go_at_call 292;refine(a4S _ _ _ _ M P T).mono ?_;rintro e w' ⟨rfl,rfl⟩)|((with_reducible show wpList _ _ _ (⟨_, .store _ _ _,_,_,_,_⟩::_) _ _);refine a1a a3P (A.length+k) (a4D z E l) (a7W g A.length k) rfl u p rfl rfl ?_;intro w3 D J))
    rw[v.out]at D;go_roundw
    case rel=>exact⟨k+1,0,_,_,congrArg (Value.int .u64) (Int.ediv_eq_zero_of_lt (by omega) (by omega)),rfl,by go_num,by omega,by omega,s,i,C,D,q.trans J⟩
    case measure=>simp[intOf];omega
  ·have a0:k=W.length:=by omega
   subst a0;have a6:=f.out.done a8.out a4.out F L.out;clear f;obtain⟨d1,d2,d3⟩:=a6;have S:=hid d1;have a5:=hid d3;clear d1;clear a5;rcases d3 with⟨rfl,Y⟩|⟨rfl,Y⟩
   ·have K:=hid Y
    clear Y;go_wp2_with fail
    go_ret
    exact⟨q,o,⟨0,rfl,S.out,d2, .inl ⟨rfl,K.out⟩⟩,u⟩
   ·have K:=hid Y
    clear Y;go_wp2_with fail
    go_ret
    exact⟨q,o,⟨1,rfl,S.out,d2, .inr ⟨rfl,K.out⟩⟩,u⟩
def c2n (W V:List Nat) (n:Nat) (o:List Nat) (e:Ending):Prop:=∃c:Nat,e= .returned (.tuple #[])/\o.length=n+1/\Dig o/\c<=1/\nv o+B^(n+1)*c=nv W+nv V
set_option maxRecDepth 100000 in
theorem a9L (X:Nat->Bool) (base g P cw:Nat) (A W R V:List Nat) (T:Option Addr) (cv n:Nat) (w:World) (hU:OL (a0c .u32) 1 X base 147 w (some ⟨g,0,none⟩) P (A++W++R)) (G:Sl (a0c .u32) 1 (mk (un X (some ⟨g,0,none⟩)) w) T V)
  (Y:W.length=n+1) (Z:V.length=n) (B:Dig V) (Q:Dig W) (_:A.length<=1099511627776) (hn:n<=1099511627776):
  Calls Tryz.prog 311 #[.slice (some ⟨g,A.length,none⟩) W.length cw, .slice T V.length cv] w (b7g X base g P w A R (c2n W V n)):=by
 have a3:=G.hd;have a2:Hd (some (⟨g,A.length,none⟩:Addr)) W.length:=fun _=>⟨_,_,rfl⟩;have S:=hid Y;have N:=hid Z;have a1:W.length<=1099511627777:=by omega
 have a0:V.length<=1099511627776:=by omega
 clear Y Z;go_enter Tryz.func311,Tryz.ntmps311
 go_wp2_with fail
 go_loopw [4,9] (fun a c wr=>∃(k f:Nat) (o:List Nat),a= .int .u32 f/\c= .int .i64 k/\k<=W.length/\f<=1/\Hid (a4Q W V o k f)/\Hid (o.length=W.length)/\OL (a0c .u32) 1 X base 147 wr (some ⟨g,0,none⟩) P (A++o++R)/\ExtX (ob (some ⟨g,0,none⟩)) w wr) (fun _ c _=>W.length - (intOf c).toNat)
 case atStart=>exact⟨0,0,W,rfl,rfl,by omega,by omega,hid (a4Q.start Q),hid rfl,hU,ExtX.refl _⟩
 case round=>
  obtain⟨k,f,o,rfl,rfl,hk,H,b,E,v,u⟩:=hrel;clear hU;by_cases D:k<W.length
  ·have i:k<o.length:=by rw[E.out];exact D
   have j:A.length+k<(A++o++R).length:=by simp;omega
   have h:=(v.sl (a0c.elem _)).nat (A.length+k) j;rw[b2P i]at h;obtain⟨z,J⟩:∃z,o[k]=z:=⟨_,rfl⟩;rw[J]at h;have U:wr.cell? ⟨g,A.length+k,none⟩=some (.int .u32 z):=by rw[a1h,Nat.zero_add]at h;exact h
   have p:=G.unstep (a0c.mono _) u (.inl rfl);by_cases F:k<V.length
   ·have M:=p.nat k F
    obtain⟨y,K⟩:∃y,V[k]=y:=⟨_,rfl⟩;rw[K]at M;obtain⟨l,C⟩:=b.out.step (y:=y) (z:=z) D ((a0y F).trans K) ((a0y i).trans J) B;have I:=B.get k F;rw[K,a1n]at I;have r:=hid l;have s:=hid (a7V (A:=A) (R:=R) (d:=(z+y+f)%4294967296) i);have t:(z+y+f)/4294967296<=1:=by omega
    have m:Hid ((o.set k ((z+y+f)%4294967296)).length=W.length):=hid (by rw[List.length_set];exact E.out);clear l J K b p h;go_wp2_with (first|(with_reducible refine a0q a0R (by omega) (by assumption) ?_)|(go_at_call 254;refine(a4N _ _ _ _ C I H).mono ?_;rintro e w' ⟨rfl,rfl⟩)|((with_reducible show wpList _ _ _ (⟨_, .store _ _ _,_,_,_,_⟩::_) _ _);refine a1a a3P (A.length+k) ((z+y+f)%4294967296) (a7W g A.length k) rfl v j rfl rfl ?_;intro w3 q x))
    rw[s.out]at q;go_roundw
    case rel=>exact⟨k+1,_,_,rfl,by go_num,by omega,t,r,m,q,u.trans x⟩
    case measure=>simp[intOf];omega
   ·obtain⟨l,C⟩:=b.out.step (y:=0) (z:=z) D (a4l (by omega)) ((a0y i).trans J) B
    have r:=hid l;have s:=hid (a7V (A:=A) (R:=R) (d:=(z+0+f)%4294967296) i);have t:(z+0+f)/4294967296<=1:=by omega
    have m:Hid ((o.set k ((z+0+f)%4294967296)).length=W.length):=hid (by rw[List.length_set];exact E.out);clear l J b p h;go_wp2_with (first|(with_reducible refine a0q a0R (by omega) (by assumption) ?_)|(go_at_call 254;refine(a4N _ 0 _ _ C (by omega) H).mono ?_;rintro e w' ⟨rfl,rfl⟩)|((with_reducible show wpList _ _ _ (⟨_, .store _ _ _,_,_,_,_⟩::_) _ _);refine a1a a3P (A.length+k) ((z+0+f)%4294967296) (a7W g A.length k) rfl v j rfl rfl ?_;intro w3 q x))
    rw[s.out]at q;go_roundw
    case rel=>exact⟨k+1,_,_,rfl,by go_num,by omega,t,r,m,q,u.trans x⟩
    case measure=>simp[intOf];omega
  ·have L:k=W.length:=by omega
   subst L;have O:=hid (b.out.done S.out N.out);go_wp2_with fail
   exact bodyPost_end (results_none rfl _ _ _) rfl ⟨u,o,⟨f,rfl,O.out⟩,v⟩
def c0b (X:Nat->Bool) (w:World) (na nb:Nat) (e:Ending) (w':World):Prop:=
 Ext w w'/\∃ao cap l,e= .returned (.tuple #[.slice ao l.length cap, .bool (decide (nb<=na))])/\l.length<=cap/\a0M l (na - nb)/\Sl (a0c .u32) 1 (mk X w') ao l
theorem b8s (X:Nat->Bool) (ao bo:Option Addr) (G H:List Nat) (ca cb:Nat) (w:World) (Q:Sl (a0c .u32) 1 (mk X w) ao G) (V:Sl (a0c .u32) 1 (mk X w) bo H)
  (q:Dig G) (n:Dig H) (a0:G.length<=1099511627776) (N:H.length<=1099511627776) (z:G.length<=ca) (v:H.length<=cb) (hX:∀k,X k=true->k<w.heap.size) (u nb:Nat) (O:val G=u) (U:val H=nb):
  Calls Tryz.prog 243 #[.slice ao G.length ca, .slice bo H.length cb] w (c0b X w u nb):=by
 go_enter Tryz.func243,Tryz.ntmps243
 go_wp2_with fail
 refine(a1s X _ _ _ _ Q q (by omega) z).mono ?_;rintro e w' ⟨rfl,b6,b3,a,rfl,L,M,d,l⟩;go_wp2_with fail
 refine(a1s X _ _ _ _ V n (by omega) v).mono ?_;rintro e w' ⟨rfl,b8,b9,b,rfl,S,a3,f,m⟩;rw[O]at d;rw[U]at f;have P:a.length<=1099511627776:=Nat.le_trans M a0;have K:b.length<=1099511627776:=Nat.le_trans a3 N;have a2:=hid d.val;have T:=hid f.val;clear O U M a3 Q V a0 N z v q n;go_wp2_with fail
 refine(a3w X _ _ _ _ _ _ _ l m d.1 f.1 P K L S u nb a2.out T.out).mono ?_;rintro e w1 ⟨s,rfl⟩;by_cases j:u<nb
 ·have hc:a3a u nb<0:=(a3M _ _).2 j
  have hd:Hid (decide (nb<=u)=false):=hid (decide_eq_false (by omega));have hz:Hid (u - nb=0):=hid (by omega);clear j;go_wp2_with fail
  go_ret2
  exact⟨s,none,0,[],by rw[hd.out];rfl,by simp,by rw[hz.out];exact a0M.nil,Sl.nil _ _ _ _⟩
 ·have hc:¬a3a u nb<0:=fun h=>j ((a3M _ _).1 h)
  have hd:Hid (decide (nb<=u)=true):=hid (decide_eq_true (by omega));have a6:b.length<=a.length:=by rw[d.len,f.len];exact a1i (by omega)
  have b2:Hid (nv b<=nv a):=hid (by rw[d.2.2,f.2.2];omega);have W:Hid (nv a - nv b=u - nb):=hid (by rw[d.2.2,f.2.2]);have a8:∀k,X k=true->k<w1.heap.size:=fun k hk=>Nat.lt_of_lt_of_le (hX k hk) s.size;have I:=l.mono (a0c.mono _) (a0l s);have Z:=m.mono (a0c.mono _) (a0l s);have q:=d.1;have n:=f.1;have b4:=l.hd;have b5:=m.hd;clear j d f a2 T l m;go_wp2_with (at_make;refine a2y a0R (a0c.elem .u32) 0 (fun _=>rfl) X a8 w1.heap.size (Nat.le_refl _) a.length rfl rfl (by omega) (by omega) (by omega) ?_;intro oo w2 hO a1)
  go_loopw [7,24] (fun c i wr=>∃(k:Nat) (o:List Nat) (J:Nat),i= .int .i64 k/\c= .int .u32 J/\k<=a.length/\a4O a b o k J/\OL (a0c .u32) 1 X w1.heap.size 147 wr oo a.length o/\Ext w1 wr) (fun _ i _=>a.length - (intOf i).toNat)
  case atStart=>exact⟨0,_,0,rfl,rfl,by omega,a4O.start a b,hO,a1⟩
  case round=>
   obtain⟨k,o,J,rfl,rfl,hk,g,p,t⟩:=hrel;clear hO a1;have Y:=g.2.2.1;have r:=hid g.1;have b7:Hd oo a.length:=r.out▸p.hd;by_cases j:k<a.length
   ·have z:=(I.mono (a0c.mono _) (a0l t)).nat k j
    have A:=q.get k j;obtain⟨x,R⟩:∃x,a[k]=x:=⟨_,rfl⟩;rw[R]at z A;rw[a1n]at A;by_cases C:k<b.length
    ·have v:=(Z.mono (a0c.mono _) (a0l t)).nat k C
     have D:=n.get k C;obtain⟨y,hy⟩:∃y,b[k]=y:=⟨_,rfl⟩;rw[hy]at v D;rw[a1n]at D;have E:=g.step (y:=y) j R ((a0y C).trans hy) q n;clear R hy;go_wp2_with (first|(with_reducible refine a0q a0R (by omega) (by assumption) ?_)|(go_at_call 292;refine(a4S _ _ _ _ A D Y).mono ?_;rintro e w' ⟨rfl,rfl⟩)|((with_reducible show wpList _ _ _ (⟨_, .store _ _ _,_,_,_,_⟩::_) _ _);refine a1a a3P k (a4D x y J) rfl (by omega) p (by rw[r.out];omega) rfl rfl ?_;intro w3 F B))
     go_roundw
     case rel=>exact⟨k+1,_,_,by go_num,rfl,by omega,E,F,t.own p (Nat.le_refl _) B⟩
     case measure=>simp[intOf];omega
    ·have E:=g.step j R (a4l (by omega)) q n
     clear R;go_wp2_with (first|(with_reducible refine a0q a0R (by omega) (by assumption) ?_)|(go_at_call 292;refine(a4S _ 0 _ _ A (by omega) Y).mono ?_;rintro e w' ⟨rfl,rfl⟩)|((with_reducible show wpList _ _ _ (⟨_, .store _ _ _,_,_,_,_⟩::_) _ _);refine a1a a3P k (a4D x 0 J) rfl (by omega) p (by rw[r.out];omega) rfl rfl ?_;intro w3 F B))
     go_roundw
     case rel=>exact⟨k+1,_,_,by go_num,rfl,by omega,E,F,t.own p (Nat.le_refl _) B⟩
     case measure=>simp[intOf];omega
   ·have a5:k=a.length:=by omega
    subst a5;have b1:=hid (g.done a6 b2.out);have a4:=g.2.1;have a9:=p.sl (a0c.elem .u32);go_wp2_with fail
    rw[<-r.out];refine(a1P X _ _ _ _ a9 a4 (by rw[r.out];omega) (by rw[r.out];exact Nat.le_refl _)).mono ?_;rintro e w' ⟨rfl,l',rfl,a7,hc,b0⟩;go_wp2_with fail
    go_ret2
    rw[b1.out,W.out]at hc;exact⟨s.trans t,_,o.length,l',by rw[hd.out];rfl,a7,hc,b0⟩
end Go.Proofs.YtidbbddagfnfbaaGreat
