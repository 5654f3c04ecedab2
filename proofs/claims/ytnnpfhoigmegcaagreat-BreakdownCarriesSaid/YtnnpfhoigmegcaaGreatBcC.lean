/- Parts of a proof: each theorem states what it proves, and its conditions. -/
import Derived.Test.YtnnpfhoigmegcaaGreatBcB
import Derived.Lib.BitFns
import Derived.StillTailTactics
import Derived.Lib.Strings
import Derived.Lib.Slices
import Derived.Lib.Small
import Derived.Lib.Walk
import Derived.Laws.CopyRow
import Derived.Deep.RegionHeld3
import Derived.Deep.RegionWith
set_option maxRecDepth 100000
set_option maxHeartbeats 4000000
namespace Go.Proofs.YtnnpfhoigmegcaaGreat
open Go.RowKit Go.Rep Go.Lim
theorem a6p:Lib.len8tab.size=256:=by decide+kernel
theorem b4d:∀n:Fin 256,(Lib.len8tab[n.val]'(by rw[a6p];exact n.isLt)).toNat=Lib.bitLen n.val:=by decide+kernel
theorem a8r(i:Nat)(h:i<Lib.len8tab.size):(Lib.len8tab[i]).toNat=Lib.bitLen i:=b4d ⟨i,by rw[a6p]at h;exact h⟩
theorem b4e(b:Nat)(h:b<=64):wrap64 (b:Int)=b:=by unfold wrap64;omega
theorem a9U(k b:Nat)(h:b<=64)(a:k<=64):wrap64 ((k:Int)+wrap64 (b:Int))=((k+b:Nat):Int):=by rw[b4e b h];unfold wrap64;omega
theorem b7O(x:Int)(_:0<=x)(h:16777216<=x)(b:x<=4294967295)(c:(x/65536/256).toNat<Lib.len8tab.size)(n:Int)(a:n=24):wrap64 (n+wrap64 ((Lib.len8tab[(x/65536/256).toNat].toNat:Nat):Int))=(Lib.bitLen x.toNat:Int):=by
 subst a;rw[a8r];have e:(x/65536/256).toNat=x.toNat/16777216:=by omega
 rw[e,Lib.bitLen_shift24 x.toNat (by omega) (by omega)];exact a9U 24 _ (Nat.le_trans (Lib.bitLen_le _ 8 (by omega) (by omega)) (by omega)) (by omega)
theorem b7P(x:Int)(_:0<=x)(h:65536<=x)(b:x<16777216)(c:(x/65536).toNat<Lib.len8tab.size)(n:Int)(a:n=16):wrap64 (n+wrap64 ((Lib.len8tab[(x/65536).toNat].toNat:Nat):Int))=(Lib.bitLen x.toNat:Int):=by
 subst a;rw[a8r];have e:(x/65536).toNat=x.toNat/65536:=by omega
 rw[e,Lib.bitLen_shift16 x.toNat (by omega) (by omega)];exact a9U 16 _ (Nat.le_trans (Lib.bitLen_le _ 8 (by omega) (by omega)) (by omega)) (by omega)
theorem b7Q(x:Int)(_:0<=x)(h:256<=x)(b:x<65536)(c:(x/256).toNat<Lib.len8tab.size)(n:Int)(a:n=8):wrap64 (n+wrap64 ((Lib.len8tab[(x/256).toNat].toNat:Nat):Int))=(Lib.bitLen x.toNat:Int):=by
 subst a;rw[a8r];have e:(x/256).toNat=x.toNat/256:=by omega
 rw[e,Lib.bitLen_shift8 x.toNat (by omega) (by omega)];exact a9U 8 _ (Nat.le_trans (Lib.bitLen_le _ 8 (by omega) (by omega)) (by omega)) (by omega)
theorem b7R(x:Int)(a:0<=x)(b:x<256)(c:x.toNat<Lib.len8tab.size):wrap64 (wrap64 ((Lib.len8tab[x.toNat].toNat:Nat):Int))=(Lib.bitLen x.toNat:Int):=by
 rw[a8r];have:=Lib.bitLen_le x.toNat 8 (by omega) (by omega);rw[b4e _ (by omega),b4e _ (by omega)]
theorem a9V(x:Int)(w:World)(a:0<=x)(b:x<=4294967295):Calls Tryz.prog 336 #[.int .u32 x] w fun e c=>e= .returned (.int .i64 (Lib.bitLen x.toNat))/\c=w:=by
 have d:=a6p;go_enter Tryz.func336,Tryz.ntmps336
 go_wp2
 ·go_ret
  exact⟨congrArg Ending.returned (congrArg (Value.int IntKind.i64) (b7O x a (by omega) b _ _ rfl)),rfl⟩
 ·go_ret
  exact⟨congrArg Ending.returned (congrArg (Value.int IntKind.i64) (b7P x a (by omega) (by omega) _ _ rfl)),rfl⟩
 ·go_ret
  exact⟨congrArg Ending.returned (congrArg (Value.int IntKind.i64) (b7Q x a (by omega) (by omega) _ _ rfl)),rfl⟩
 ·go_ret
  exact⟨congrArg Ending.returned (congrArg (Value.int IntKind.i64) (b7R x a (by omega) _)),rfl⟩
def lz(x:Nat):Nat:=32 - Lib.bitLen x
theorem a3z:∀(f x:Nat),0<x->x<2^f->2^(Lib.bitLenAux f x)<=2*x/\x<2^(Lib.bitLenAux f x)/\Lib.bitLenAux f x<=f
 |0,x,h,h2=>by simp at h2;omega
 |f+1,x,h,h2=>by
  simp only[Lib.bitLenAux];rw[if_neg (by omega)];by_cases h1:x=1
  ·subst h1
   have:Lib.bitLenAux f (1/2)=0:=by cases f<;>simp[Lib.bitLenAux]
   rw[this];simp
  ·obtain⟨a,b,c⟩:=a3z f (x/2) (by omega) (by rw[Nat.pow_succ]at h2;omega)
   rw[Nat.add_comm 1,Nat.pow_succ];exact⟨by omega,by omega,by omega⟩
theorem b4f{x:Nat}(f:0<x)(i:x<4294967296):lz x<32/\4294967296<=2*(x*2^lz x)/\x*2^lz x<4294967296:=by
 obtain⟨a,b,c⟩:=a3z 64 x f (by omega);have g:Lib.bitLen x<=32:=Lib.bitLen_le x 32 (by omega) (by omega);have d:1<=Lib.bitLen x:=by
  by_cases h:Lib.bitLen x=0
  ·unfold Lib.bitLen at h;rw[h]at b;simp at b;omega
  ·omega
 change 2^Lib.bitLen x<=2*x at a
 change x<2^Lib.bitLen x at b
 have e:2^Lib.bitLen x*2^lz x=4294967296:=by rw[<-Nat.pow_add];unfold lz;rw[show Lib.bitLen x+(32 - Lib.bitLen x)=32 by omega]
 refine⟨by unfold lz;omega,?_,?_⟩
 ·rw[<-e,<-Nat.mul_assoc];exact Nat.mul_le_mul_right _ a
 ·rw[<-e];exact Nat.mul_lt_mul_of_pos_right b (Nat.two_pow_pos _)
theorem b5Q(x:Nat)(w:World)(c:0<x)(d:x<4294967296):Calls Tryz.prog 329 #[.int .u32 x] w fun e a=>w=a/\e= .returned (.int .i64 (lz x:Nat)):=by
 have b:Lib.bitLen x<=32:=Lib.bitLen_le x 32 (by omega) (by omega);have hz:Hid ((32:Int) - (Lib.bitLen x:Nat)=(lz x:Nat)):=hid (by unfold lz;omega);go_enter Tryz.func329,Tryz.ntmps329
 go_wp2_with fail
 refine(a9V (x:Int) w (by omega) (by omega)).mono ?_;rintro e a ⟨rfl,rfl⟩;rw[Int.toNat_natCast];go_wp2_with fail
 go_ret
 exact⟨rfl,a0y hz.out⟩
theorem a4k(k:IntKind):∀(h a:Mem) (u:Value) (x:Nat),a0c k h u x->a0c k a u x:=fun _ _ _ _ h=>h
theorem _root_.Go.Rep.OL.remask{α:Type}{R:Mem->Value->α->Prop}{sz:Nat}{X Z:Nat->Bool}{a:Nat}{e:TypeId}{w:World}{ao:Option Addr}{b:Nat}{l:List α}(c:∀h f u x,R h u x->R f u x)(h:OL R sz X a e w ao b l)(hz:∀k,ob ao k=true->Z k=false):OL R sz Z a e w ao b l:=by
 obtain⟨_,us,g,j,m,n,o⟩:=h;exact⟨hz,us,g,j,m,n,fun i hi d=>c _ _ _ _ (o i hi d)⟩
theorem _root_.Go.Rep.OL.skip{α:Type}{R:Mem->Value->α->Prop}{sz:Nat}{X Y:Nat->Bool}{a:Nat}{e:TypeId}{w d:World}{ao:Option Addr}{b:Nat}{l:List α}(i:Elem R sz)(c:∀h f u x,R h u x->R f u x)(h:OL R sz X a e w ao b l)(g:ExtX Y w d)(hd:∀k,ob ao k=true->Y k=false):OL R sz X a e d ao b l:=
 ((h.remask c (Z:=Y) hd).ext i g (Z:=Y) (fun _ _ h=>h) (fun _ _ h=>h)).remask c h.1
theorem a4J{g k:Nat}(h:ob (some ⟨g,0,none⟩) k=true):k=g:=by
 have e:g=k:=by simpa[ob]using h
 exact e.symm
theorem b1R{g k:Nat}(h:k≠g):ob (some ⟨g,0,none⟩) k=false:=by
 cases a:ob (some ⟨g,0,none⟩) k
 ·rfl
 ·exact absurd (a4J a) h
theorem _root_.Go.Rep.OL.at_block{α:Type}{R:Mem->Value->α->Prop}{sz:Nat}{X:Nat->Bool}{a:Nat}{e:TypeId}{w:World}{ao:Option Addr}{b:Nat}{l:List α}(h:OL R sz X a e w ao b l)(i:0<l.length):∃g,ao=some ⟨g,0,none⟩/\a<=g/\g<w.heap.size:=by
 rcases h.form with⟨_,_,rfl⟩|⟨g,c,rfl,d,f,_⟩
 ·simp at i
 ·exact⟨g,rfl,d,(Array.getElem?_eq_some_iff.1 f).1⟩
theorem _root_.Go.Rep.st_win{P:Program}{ops:Array Oper}{Q:Exit->Act->World->Prop}{rest:List Oper}{a:Act}{w:World}{d:Option Tmp}{ty:TypeId}{ps:String}{af:Array Edge}{t e f:Nat}{z:Value}{x lo c:Operand}{p q:IntKind}{m n:Int}{g len b:Nat}(T:SliceT P t e 1 f z)(i j:Nat)(hx:a.eval x= .slice (some ⟨g,0,none⟩) len b)(l:a.eval lo= .int p m)(v:m=(i:Int))(k:a.eval c= .int q n)(y:n=(j:Int))(s:i<j)(u:j<=b)(K:wpList P ops Q rest (a.put d (.slice (some ⟨g,i,none⟩) (j - i) (b - i))) w):wpList P ops Q (⟨d, .slice t x (some lo) (some c) none,ty,ps,af,none⟩::rest) a w:=by
 refine wpList_plain rfl fun A h=>?_;subst v;subst y;have o:=a4v (P:=P) (ao:=some ⟨g,0,none⟩) T len b p q i j (by omega) u w;have r:a0z (some ⟨g,0,none⟩) i b 1=some ⟨g,i,none⟩:=by
  have:¬b=i:=by omega
  simp[a0z,this,Addr.add_lit]
 rw[r]at o;unfold Oper.wp;simp[execOp,hx,l,k,o,Result.andThen];exact h _ _ K
def b6S(X:Nat->Bool)(w:World)(q r:Nat)(e:Ending)(w':World):Prop:=
 Ext w w'/\∃ao cap l bo cbp m,e= .returned (.tuple #[.slice ao l.length cap, .slice bo m.length cbp])/\l.length<=cap/\a0w l q/\Sl (a0c .u32) 1 (mk X w') ao l/\m.length<=cbp/\a0w m r/\Sl (a0c .u32) 1 (mk X w') bo m
theorem a9h(X:Nat->Bool)(ao bo:Option Addr)(a b:List Nat)(ca cb:Nat)(w:World)(hsa:Sl (a0c .u32) 1 (mk X w) ao a)(hsb:Sl (a0c .u32) 1 (mk X w) bo b)(na nb:Nat)(hca:a0w a na)(hcb:a0w b nb)(hle:nb<=na)(hb2:2<=b.length)(hal:a.length<=1099511627776)(hX:∀k,X k=true->k<w.heap.size):Calls Tryz.prog 300 #[.slice ao a.length ca, .slice bo b.length cb] w (b6S X w (na/nb) (na%nb)):=by
 have hhb:=hsb.hd;have hcbl:=hsb.nat (b.length - 1) (by omega);have hbl:b.length<=a.length:=by rw[hca.len,hcb.len];exact a0P hle
 obtain⟨t,ht⟩:∃t,b[b.length - 1]'(by omega)=t:=⟨_,rfl⟩;have htB:=hcb.1.get (b.length - 1) (by omega);have ht0:t≠0:=by
  have:=hcb.2.1;rw[a2E (by omega)]at this;rw[<-ht];simpa using this
 rw[ht]at hcbl;rw[ht,a0S]at htB;obtain⟨s,hs⟩:∃s,lz t=s:=⟨_,rfl⟩;have hlz:=b4f (show 0<t by omega) htB;rw[hs]at hlz;obtain⟨hs32,hn1,hn2⟩:=hlz;have ht':=hid ht;have hlz1:=hid hn1;have hlz2:=hid hn2;have hlzc:∀W,Calls Tryz.prog 329 #[.int .u32 t] W fun e w'=>W=w'/\e= .returned (.int .i64 (s:Nat)):=fun W=>by rw[<-hs];exact b5Q t W (by omega) htB
 clear hn1 hn2 ht;go_enter Tryz.func300,Tryz.ntmps300
 go_wp2_with (first|(with_reducible refine a0n a0F (by omega) (by assumption) ?_)|(go_at_call 329;refine(hlzc _).mono ?_;rintro e w' ⟨rfl,rfl⟩))
 clear hs hlzc hcbl;refine(a4T noY ao a ca s w (hsa.mono (a0c.mono _) (by rw[a4u];exact b5E X w)) hca.1 hal hs32 (fun k hk=>by simp[noY]at hk)).mono ?_;rintro e w1 ⟨hE1,uo,U,rfl,hU,hUf⟩;have hsb1:=hsb.mono (a0c.mono _) (a0k hE1);go_wp2_with fail
 refine(a4T noY bo b cb s w1 (hsb1.mono (a0c.mono _) (by rw[a4u];exact b5E X w1)) hcb.1 (by omega) hs32 (fun k hk=>by simp[noY]at hk)).mono ?_;rintro e w2 ⟨hE2,vo,V0,rfl,hV0,hVf⟩;have hV0l:V0.length<=1099511627777:=by rw[hVf.out.1];omega
 obtain⟨gu,rfl,hgu1,hgu2⟩:=hU.at_block (by rw[hUf.out.1];omega);have hV1:Sl (a0c .u32) 1 (mk (ob (some ⟨gu,0,none⟩)) w2) vo V0:=(hV0.remask (a4k _) (Z:=ob (some ⟨gu,0,none⟩)) (fun k hk=>b1R (by have:=(hV0.block hk).1;omega))).sl (a0c.elem _);go_wp2_with fail
 refine(a1p (ob (some ⟨gu,0,none⟩)) vo V0 V0.length w2 hV1 hVf.out.2.1 (by omega) (Nat.le_refl _)).mono ?_;rintro e w' ⟨rfl,V,rfl,hVl',hVc,hVs⟩;obtain⟨m,hm⟩:∃m,a.length=m+b.length:=⟨a.length - b.length,by omega⟩;obtain⟨n,hn⟩:∃n,b.length=n:=⟨_,rfl⟩;rw[hVf.out.2.2.2]at hVc;have hnorm:=b1N hcb.1 hn (by omega) ((a0m (by omega)).trans (by rw[<-ht'.out];congr 1;omega)) hs32 hlz1.out hlz2.out hVc;have hna:nv a=na:=hca.2.2;have hnb:nv b=nb:=hcb.2.2;have hnvV:=hVc.2.2;rw[hnb]at hnvV;have hVd:=hVc.1;have hUl:U.length=m+1+n:=by rw[hUf.out.1,hm,hn];omega
 have hUd:=hUf.out.2.1;have hst0:=a2Z.start (m:=m) (n:=n) (a:=na) hUd hUl (by omega) (by rw[hUf.out.2.2.2,hna]) (by have:=hUf.out.2.2.1;rw[hm,hn]at this;exact this) hs32 hnorm.1 hnorm.2;obtain⟨hVn,hVt⟩:=hnorm;have hst:=hid hst0;have hUo:=hU.ext0 (a0c.elem _) hE2;rw[hn]at hm |-;rw[hm];have hmb:m<=1099511627776:=by omega
 have hnb2:2<=n:=by omega
 have hnb3:n<=1099511627776:=by omega
 have hVt':=hid hVt;have hVn':=hid hVn;have hUl':=hid hUl;have hnvV':=hid hnvV;have hE12:=hE1.trans hE2;clear hst0 hVt hVn hUl hnvV hna hnb hV1 hUf hVf hV0l hU hsa hsb hsb1 hcb hca hle hb2 hbl hal hhb ht0 htB ht' hlz1 hlz2 hVc hVl' hV0 hUd;go_wp2_with (at_make;refine a1S a0F (a0c.elem .u32) 0 (fun _=>rfl) noY (fun k hk=>by simp[noY]at hk) w2.heap.size (Nat.le_refl _) (m+1) rfl rfl (by omega) (by omega) (by omega) ?_;intro qo w3 hQ hE3)
 have hqb:∀k,ob qo k=true->w2.heap.size<=k:=fun k hk=>(hQ.block hk).1;have hgq:ob qo gu=false:=by
  cases hh:ob qo gu
  ·rfl
  ·have:=hqb gu hh;have:=hE2.size;omega
 have hU3:OL (a0c .u32) 1 (un noY qo) w.heap.size 110 w3 (some ⟨gu,0,none⟩) U.length U:=(hUo.ext0 (a0c.elem _) hE3).remask (a4k _) (fun k hk=>by have:=a4J hk;subst this;simp[un,noY,hgq]);have hQ3:OL (a0c .u32) 1 (un noY (some ⟨gu,0,none⟩)) w2.heap.size 110 w3 qo (m+1) (List.replicate (m+1) 0):=hQ.remask (a4k _) (fun k hk=>by
  have h1:=hqb k hk;have h2:ob (some ⟨gu,0,none⟩) k=false:=b1R (by have:=hE2.size;omega);simp[un,noY,h2])
 have hV3:Sl (a0c .u32) 1 (mk (un (un noY qo) (some ⟨gu,0,none⟩)) w3) vo V:=hVs.mono (a0c.mono _) (a0Z hE3 (fun k _ hk=>by simp[noY]at hk) fun k hk hz=>by
  have h1:ob qo k=false:=by
   cases hh:ob qo k
   ·rfl
   ·have:=hqb k hh;omega
  simpa[un,noY,h1]using hz)
 have hE13:=hE12.trans hE3;have hwq:w.heap.size<=w2.heap.size:=hE12.size;have hqX:∀k,ob qo k=true->X k=false:=fun k hk=>by
  cases hh:X k
  ·rfl
  ·have:=hX k hh;have:=hqb k hk;omega
 have hgw:gu<w2.heap.size:=Nat.lt_of_lt_of_le hgu2 hE2.size;have hUc:m+1+n<=U.length:=by rw[hUl'.out];exact Nat.le_refl _
 have hhv:=hVs.hd;clear hUo hQ hVs hE1 hE2 hE3 hE12 hm hn;go_loopw [10] (fun c wr=>∃(k:Nat) (x:Int) (U' Q:List Nat),c= .int .i64 x/\x=(k:Int) - 1/\k<=m+1/\Hid (a2Z (na*2^s) V U' Q k)/\Hid (U'.length=m+1+n)/\Hid (Q.length=m+1)/\OL (a0c .u32) 1 (un noY qo) w.heap.size 110 wr (some ⟨gu,0,none⟩) U.length U'/\
  OL (a0c .u32) 1 (un noY (some ⟨gu,0,none⟩)) w2.heap.size 110 wr qo (m+1) Q/\Sl (a0c .u32) 1 (mk (un (un noY qo) (some ⟨gu,0,none⟩)) wr) vo V/\Ext w wr) (fun c _=>(intOf c+1).toNat)
 case atStart=>exact⟨m+1,_,U,_,rfl,by omega,by omega,hst,hUl',hid (by simp),hU3,hQ3,hV3,hE13⟩
 case round=>
  obtain⟨k,x,U',Q,rfl,hx,hk,hinv,hUl2,hQl,hUr,hQr,hVr,hEr⟩:=hrel;clear hU3 hQ3 hV3 hE13 hst;have hhq:Hd qo (m+1):=by have:=hQr.hd;rwa[hQl.out]at this
  cases k with
  |zero=>
   obtain rfl:x= -1:=by omega
   obtain⟨hd1,hd2,hd3⟩:=hinv.out.done rfl hnvV'.out;have hUd:=hinv.out.1;have hQd:=hinv.out.2.1;have hd1':=hid hd1;have hd2':=hid hd2;have hlast:Hid (nv U'/2^s<B^n):=hid (Nat.lt_of_le_of_lt (Nat.div_le_self _ _) (Nat.lt_trans hd3 (by have:=a3K hVd;rwa[hVn'.out]at this)));have hUr2:=hUr.remask (a4k _) (Z:=noY) (fun k hk=>rfl);have hub:∀k,ob (some ⟨gu,0,none⟩) k=true->k<wr.heap.size:=fun k hk=>(hUr.block hk).2;have hqb2:∀k,ob qo k=true->k<wr.heap.size:=fun k hk=>(hQr.block hk).2;have hwr:w.heap.size<=wr.heap.size:=hEr.size;have hQr2:=hQr.remask (a4k _) (Z:=noY) (fun k hk=>rfl);clear hx hd1 hd2 hd3 hinv hUr hQr hVr hqb hgq hwq hgw hgu1 hgu2 hhv;go_wp2_with (at_make;refine a1S a0F (a0c.elem .u32) 0 (fun _=>rfl) noY (fun k hk=>by simp[noY]at hk) wr.heap.size (Nat.le_refl _) n rfl rfl (by omega) (by omega) (by omega) ?_;intro ro w4 hR hE4)
   have hU4:=hUr2.ext0 (a0c.elem _) hE4;have hQ4:=hQr2.ext0 (a0c.elem _) hE4;have hE5:=hEr.trans hE4;have hrb:∀k,ob ro k=true->wr.heap.size<=k:=fun k hk=>(hR.block hk).1;have hrX:∀k,ob ro k=true->X k=false:=fun k hk=>by
    cases hh:X k
    ·rfl
    ·have:=hX k hh;have:=hrb k hk;omega
   clear hUr2 hQr2 hE4 hEr;go_loopw [103] (fun c wx=>∃(i:Nat) (o:List Nat),c= .int .i64 i/\i<=n/\Hid (a3S U' o s n i)/\Hid (o.length=n)/\OL (a0c .u32) 1 noY wr.heap.size 110 wx ro n o/\ExtX (ob ro) w4 wx/\Ext w wx) (fun c _=>n - (intOf c).toNat)
   case atStart=>exact⟨0,_,rfl,by omega,hid (a3S.start U' s n),hid (by simp),hR,ExtX.refl _,hE5⟩
   case round=>
    obtain⟨i,o,rfl,hi,hinv,hol,hO,hEx,hEw⟩:=hrel;clear hR hE5;have hho:Hd ro n:=by have:=hO.hd;rwa[hol.out]at this
    have hUx:=hU4.skip (a0c.elem _) (a4k _) hEx (fun k hk=>by
     cases hh:ob ro k
     ·rfl
     ·have:=hrb k hh;have:=hub k hk;omega)
    by_cases hlt:i<n
    ·have hi1:i+1<U'.length:=by rw[hUl2.out];omega
     have hs:=hUx.sl (a0c.elem _);have c1:=hs.nat (i+1) hi1;have c0:=hs.nat i (by omega);obtain⟨x,hx⟩:∃x,U'[i+1]=x:=⟨_,rfl⟩;obtain⟨y,hy⟩:∃y,U'[i]'(by omega)=y:=⟨_,rfl⟩;have bx:=hUd.get (i+1) hi1;have by_:=hUd.get i (by omega);rw[hx,a0S]at bx;rw[hy,a0S]at by_;rw[hx,a1c,Nat.zero_add]at c1;rw[hy,a1c,Nat.zero_add]at c0;have hst:=hid (hinv.out.step hlt hs32 hi1 hUd hx hy);have hhu:Hd (some (⟨gu,0,none⟩:Addr)) U.length:=fun _=>⟨_,_,rfl⟩;have i1:∀W,(Instr.indexAt 37 (.slice (some ⟨gu,0,none⟩) U.length U.length) (.int .i64 ((i:Int)+1))).run Tryz.prog W= .ok (.pointer (some ⟨gu,i+1,none⟩)) W:=fun W=>by
      have:=a1f a0F (some ⟨gu,0,none⟩) U.length U.length .i64 (i+1) (m:=(i:Int)+1) hhu (by omega) (by omega) W;rwa[a1c,Nat.zero_add]at this
     have i2:∀W,(Instr.indexAt 37 (.slice (some ⟨gu,0,none⟩) U.length U.length) (.int .i64 (i:Int))).run Tryz.prog W= .ok (.pointer (some ⟨gu,i,none⟩)) W:=fun W=>by
      have:=a1f a0F (some ⟨gu,0,none⟩) U.length U.length .i64 i (m:=(i:Int)) hhu (by omega) rfl W;rwa[a1c,Nat.zero_add]at this
     have i3:∀W,(Instr.indexAt 37 (.slice ro n n) (.int .i64 (i:Int))).run Tryz.prog W= .ok (.pointer (some (adr ro i))) W:=a1f a0F ro n n .i64 i hho hlt rfl;have s1:IntKind.i64.wrap ((i:Int)+1)=(i:Int)+1:=IntWalk.i64_in _ (by omega);have hor:=a6m x y bx by_;have hval:Hid (IntKind.u32.wrap (bits BinOp.or IntKind.u64 (IntKind.u64.wrap (IntKind.u64.wrap (x:Int)*4294967296)) (IntKind.u64.wrap (y:Int))/2^s)=(((x*4294967296+y)/2^s%4294967296:Nat):Int)):=hid (by
      rw[IntWalk.u64_in (x:Int) (by omega),IntWalk.u64_in ((x:Int)*4294967296) (by omega),IntWalk.u64_in (y:Int) (by omega),hor,IntKind.wrap_u32];simp)
     clear hx hy hinv hs;go_wp2_with fail
     go_still_tail 19,(by kernel_rfl)
     change wpList _ _ _ _ _ wr.drew
     have hEd:ExtX noY wr wr.drew:=(ExtX.refl wr).drew;have hOd:=hO.ext0 (a0c.elem _) hEd;have hExd:=hEx.trans (ExtX.of hEd);have hEwd:=hEw.trans hEd;generalize wr.drew=wd at hOd hExd hEwd |-;clear i1 i2 i3 c1 c0 hor s1 hEd hO hEx hEw;go_wp2_with ((with_reducible show wpList _ _ _ (⟨_, .store _ _ _,_,_,_,_⟩::_) _ _);refine a0H a2U i ((x*4294967296+y)/2^s%4294967296) rfl rfl hOd (by rw[hol.out];exact hlt) rfl hval.out ?_;intro w6 hO6 hE6)
     have hol2:Hid ((o.set i ((x*4294967296+y)/2^s%4294967296)).length=n):=hid (by rw[List.length_set];exact hol.out);go_roundw
     case rel=>exact⟨i+1,_,by go_num,by omega,hst,hol2,hO6,hExd.trans hE6,hEwd.own hOd hwr hE6⟩
     case measure=>simp[intOf];omega
    ·have hin:i=n:=by omega
     subst hin;have hQx:=hQ4.skip (a0c.elem _) (a4k _) hEx (fun k hk=>by
      cases hh:ob ro k
      ·rfl
      ·have:=hrb k hh;have:=hqb2 k hk;omega)
     have hfin:=hid (hinv.out.done hlast.out);have hRd:=hinv.out.2.1;have hQs:Sl (a0c .u32) 1 (mk X wr) qo Q:=(hQx.remask (a4k _) (Z:=X) hqX).sl (a0c.elem _);have hOs:Sl (a0c .u32) 1 (mk X wr) ro o:=(hO.remask (a4k _) (Z:=X) hrX).sl (a0c.elem _);have hT1:=a1p X qo Q (m+1) wr hQs hQd (by rw[hQl.out];omega) (by rw[hQl.out];exact Nat.le_refl _);have hT2:=a1p X ro o i wr hOs hRd (by rw[hol.out];omega) (by rw[hol.out];exact Nat.le_refl _);rw[hQl.out]at hT1;rw[hol.out]at hT2;have hl1:Q.length<=m+1:=by rw[hQl.out];exact Nat.le_refl _
     have hl2:o.length<=i:=by rw[hol.out];exact Nat.le_refl _
     clear hinv hU4 hQ4 hUx hQx hUd;go_wp2_with fail
     refine hT1.mono ?_;rintro e w' ⟨rfl,l1,rfl,h11,h12,h13⟩;go_wp2_with fail
     refine hT2.mono ?_;rintro e w' ⟨rfl,l2,rfl,h21,h22,h23⟩;clear hT1 hT2;go_wp2_with fail
     go_ret2
     rw[hd1'.out]at h12;rw[hfin.out,hd2'.out]at h22;exact⟨hEw,_,_,l1,_,_,l2,rfl,Nat.le_trans h11 hl1,h12,h13,Nat.le_trans h21 hl2,h22,h23⟩
  |succ j=>
   obtain rfl:x=(j:Int):=by omega
   clear hx;have hjU:j+(n+1)<=U'.length:=by rw[hUl2.out];omega
   obtain⟨w1,w2',w3',w4,w5,w6,w7⟩:=hinv.out.win hjU hVn'.out hVd;obtain⟨W,hW⟩:∃W,(U'.drop j).take (n+1)=W:=⟨_,rfl⟩;have hge:∀i,i<=n->U'.getD (j+i) 0=W.getD i 0:=fun i hi=>by rw[<-hW];exact(b1O hi).symm
   have hnx:=fun(o:List Nat) h1 h2 h3=>(fun(p:_/\_)=>And.intro p.1 (p.2.trans hUl2.out)) (hinv.out.next (W':=o) hjU (by rw[hQl.out];omega) hVn'.out hVd h1 h2 h3);rw[hW]at w1 w2' w3' w5 w6;simp only[hW]at hnx;obtain⟨A,hA⟩:∃A,U'.take j=A:=⟨_,rfl⟩;obtain⟨R,hR⟩:∃R,U'.drop (j+(n+1))=R:=⟨_,rfl⟩;rw[hA]at w5 w7;rw[hR]at w5;simp only[hA,hR]at hnx;obtain⟨e1,e2,e3⟩:=b3Z w1 hVn'.out hnb2 w2' hVd hVt'.out w3';have hVp:0<nv V:=by
    by_cases h:nv V=0
    ·rw[h]at w3';omega
    ·omega
   have hUs:=hUr.sl (a0c.elem _);have c2:=hUs.nat (j+n) (by rw[hUl2.out];omega);have c1:=hUs.nat (j+(n - 1)) (by rw[hUl2.out];omega);have c0:=hUs.nat (j+(n - 2)) (by rw[hUl2.out];omega);rw[<-a0m,hge n (by omega),a1c,Nat.zero_add]at c2;rw[<-a0m,hge (n - 1) (by omega),a1c,Nat.zero_add]at c1;rw[<-a0m,hge (n - 2) (by omega),a1c,Nat.zero_add]at c0;have d1:=hVr.nat (n - 1) (by rw[hVn'.out];omega);have d0:=hVr.nat (n - 2) (by rw[hVn'.out];omega);rw[<-a0m]at d1 d0;have b2:=w2'.getD n;have b1:=w2'.getD (n - 1);have b0:=w2'.getD (n - 2);have f1:=hVd.getD (n - 1);have f0:=hVd.getD (n - 2);have hvt:=hVt'.out;generalize W.getD n 0=u2 at*;generalize W.getD (n - 1) 0=u1 at*;generalize W.getD (n - 2) 0=u0 at*;generalize V.getD (n - 1) 0=v1 at*;generalize V.getD (n - 2) 0=v0 at*;rw[a0S]at b2 b1 b0 f1 f0 hvt;obtain⟨x,hx⟩:∃x,a6k B u2 u1 u0 v1 v0=x:=⟨_,rfl⟩;have hx32:x<4294967296:=by rw[<-hx];exact b4a
   have hgs:∀q,Calls Tryz.prog 331 #[.int .u32 u2, .int .u32 u1, .int .u32 u0, .int .u32 v1, .int .u32 v0] (wr.drewN q) fun e w'=>e= .returned (.int .u64 (x:Nat))/\∃m,w'=(wr.drewN q).drewN m:=fun q=>by rw[<-hx];exact a9R u2 u1 u0 v1 v0 _ (by omega) f1 e1 b1 b0 f0
   rw[hx]at e2 e3;have hkk:=hid (fun(c W':Nat)=>a7z (c:=c) (W':=W') hVp e2 e3 (e:=B^(n+1)));have hVp':=hid hVp;have s1:IntKind.i64.wrap ((j:Int)+(n:Int))=(j:Int)+(n:Int):=IntWalk.i64_in _ (by omega);have s2:IntKind.i64.wrap ((j:Int)+(n:Int) - 1)=(j:Int)+(n:Int) - 1:=IntWalk.i64_in _ (by omega);have s3:IntKind.i64.wrap ((j:Int)+(n:Int) - 2)=(j:Int)+(n:Int) - 2:=IntWalk.i64_in _ (by omega);have s4:IntKind.i64.wrap ((n:Int) - 1)=(n:Int) - 1:=IntWalk.i64_in _ (by omega);have s5:IntKind.i64.wrap ((n:Int) - 2)=(n:Int) - 2:=IntWalk.i64_in _ (by omega);have hhu:Hd (some (⟨gu,0,none⟩:Addr)) U.length:=fun _=>⟨_,_,rfl⟩;have i1:∀W,(Instr.indexAt 37 (.slice (some ⟨gu,0,none⟩) U.length U.length) (.int .i64 ((j:Int)+(n:Int)))).run Tryz.prog W= .ok (.pointer (some ⟨gu,j+n,none⟩)) W:=fun W=>by
    have:=a1f a0F (some ⟨gu,0,none⟩) U.length U.length .i64 (j+n) (m:=(j:Int)+(n:Int)) hhu (by omega) (by omega) W;rwa[a1c,Nat.zero_add]at this
   have i2:∀W,(Instr.indexAt 37 (.slice (some ⟨gu,0,none⟩) U.length U.length) (.int .i64 ((j:Int)+(n:Int) - 1))).run Tryz.prog W= .ok (.pointer (some ⟨gu,j+(n - 1),none⟩)) W:=fun W=>by
    have:=a1f a0F (some ⟨gu,0,none⟩) U.length U.length .i64 (j+(n - 1)) (m:=(j:Int)+(n:Int) - 1) hhu (by omega) (by omega) W;rwa[a1c,Nat.zero_add]at this
   have i3:∀W,(Instr.indexAt 37 (.slice (some ⟨gu,0,none⟩) U.length U.length) (.int .i64 ((j:Int)+(n:Int) - 2))).run Tryz.prog W= .ok (.pointer (some ⟨gu,j+(n - 2),none⟩)) W:=fun W=>by
    have:=a1f a0F (some ⟨gu,0,none⟩) U.length U.length .i64 (j+(n - 2)) (m:=(j:Int)+(n:Int) - 2) hhu (by omega) (by omega) W;rwa[a1c,Nat.zero_add]at this
   have hVle:n<=V.length:=by rw[hVn'.out];exact Nat.le_refl _
   have i4:∀W,(Instr.indexAt 37 (.slice vo V.length V0.length) (.int .i64 ((n:Int) - 1))).run Tryz.prog W= .ok (.pointer (some (adr vo (n - 1)))) W:=a1f a0F vo V.length V0.length .i64 (n - 1) hhv (by omega) (by omega);have i5:∀W,(Instr.indexAt 37 (.slice vo V.length V0.length) (.int .i64 ((n:Int) - 2))).run Tryz.prog W= .ok (.pointer (some (adr vo (n - 2)))) W:=a1f a0F vo V.length V0.length .i64 (n - 2) hhv (by omega) (by omega);have hWh:=hid w1;have hAl:=hid w7;have hUr2:OL (a0c .u32) 1 (un noY qo) w.heap.size 110 wr (some ⟨gu,0,none⟩) U.length (A++W++R):=by rw[<-w5];exact hUr
   have hnx':=hid hnx;clear hnx hinv w1 w3' w4 w5 w6 w7 hge hUs hx e1 e2 e3 b2 b1 b0 f1 f0 hvt hA hR hW hVp hUr hUl2 hjU;clear U';go_wp2_with fail
   go_quiet ((go_at_call 331;with_reducible exact Calls.quiet_of (hgs _)))
   clear c2 c1 c0 d1 d0 i1 i2 i3 i4 i5 hgs s2 s3 s4 s5;have hjc:j<U.length:=by omega
   have hjn:j+n+1<=U.length:=by omega
   have hwl:j+n+1 - j=W.length:=by rw[hWh.out];omega
   have hEd:ExtX noY wr (wr.drewN nq):=(ExtX.refl wr).drewN nq;have hUd:=hUr2.ext0 (a0c.elem _) hEd;have hQd:=hQr.ext0 (a0c.elem _) hEd;have hVd2:Sl (a0c .u32) 1 (mk (un (un noY qo) (some ⟨gu,0,none⟩)) (wr.drewN nq)) vo V:=hVr;have hEn:=hEr.trans hEd;clear hUr2 hQr hVr hEr;generalize wr.drewN nq=wd at*;go_wp2_with (first|((with_reducible show wpList _ _ _ (⟨_, .slice _ _ _ _ _,_,_,_,_⟩::_) _ _);refine st_win a0F j (j+n+1) rfl rfl rfl rfl (by omega) (by omega) (by omega) ?_))
   have hr:=a9g (un noY qo) w.heap.size gu U.length (U.length - j) A W R V vo V0.length x n wd hUd hVd2 hWh.out hVn'.out hVd w2' hx32 (by rw[hAl.out];omega) hnb3;rw[hAl.out]at hr;refine hr.mono ?_;clear hr;rintro e w6 ⟨hE6,o,⟨bo,rfl,hol,hod,hcs⟩,hU6⟩;have hdf:=hkk.out bo (nv o) hcs;have hol':=hid hol;have hV6:=hVd2.unstep (a0c.mono _) hE6 (.inl rfl);have hQ6:=hQd.skip (a0c.elem _) (a4k _) hE6 (fun k hk=>b1R (by have:=hqb k hk;omega));have hE7:=hEn.own hUd (Nat.le_refl _) hE6;clear hkk hol hE6 hUd hQd hVd2 hEn;rcases hcs with⟨rfl,_⟩|⟨rfl,_⟩
   ·obtain⟨k1,k2⟩:=hdf.1 rfl
    have hn1:=hid (hnx'.out o hod hol'.out k2);rw[<-k1]at hn1;clear hdf k1 k2 hnx';go_wp2_with (first|(with_reducible refine a0n a0F (by omega) (by assumption) ?_)|((with_reducible show wpList _ _ _ (⟨_, .store _ _ _,_,_,_,_⟩::_) _ _);refine a0H a2U j x rfl rfl hQ6 (by rw[hQl.out];omega) rfl (by omega) ?_;intro w8 hQ8 hE8))
    have hU8:=hU6.skip (a0c.elem _) (a4k _) hE8 (fun k hk=>by have:=a4J hk;subst this;exact hgq);have hV8:Sl (a0c .u32) 1 (mk (un (un noY qo) (some ⟨gu,0,none⟩)) w8) vo V:=hV6.mono (a0c.mono _) (a0E hE8 (fun k hk=>a0v (a0A hk)));go_roundw
    case rel=>exact⟨j,_,_,_,rfl,rfl,by omega,hid hn1.out.1,hid hn1.out.2,hid (by rw[List.length_set];exact hQl.out),hU8,hQ8,hV8,hE7.own hQ6 hwq hE8⟩
    case measure=>simp[intOf]
   ·obtain⟨k0,k1,k2⟩:=hdf.2 rfl
    have k2':=hid k2;clear hdf k2;go_wp2_with (first|((with_reducible show wpList _ _ _ (⟨_, .slice _ _ _ _ _,_,_,_,_⟩::_) _ _);refine st_win a0F j (j+n+1) rfl rfl rfl rfl (by omega) (by omega) (by omega) ?_))
    have hr:=a7A (un noY qo) w.heap.size gu U.length (U.length - j) A o R V vo V0.length n w6 hU6 hV6 hol'.out hVn'.out hVd hod (by rw[hAl.out];omega) hnb3;rw[hAl.out]at hr;rw[show o.length=W.length by rw[hol'.out,hWh.out]]at hr;refine hr.mono ?_;clear hr;rintro e w7 ⟨hE9,o2,⟨c,rfl,hl2,hd2,hc,hs2⟩,hU7⟩;have hn1:=hid (hnx'.out o2 hd2 hl2 (b1P hVd hVn'.out hVp'.out k2'.out hs2 hc hd2 hl2));rw[<-k1]at hn1;have hV7:=hV6.unstep (a0c.mono _) hE9 (.inl rfl);have hQ7:=hQ6.skip (a0c.elem _) (a4k _) hE9 (fun k hk=>b1R (by have:=hqb k hk;omega));have hE10:=hE7.own hU6 (Nat.le_refl _) hE9;have hx1:(1:Int)<=(x:Int):=by omega
    clear k1 hnx' hl2 hs2 hU6 hV6 hQ6 hE9 hE7;go_wp2_with (first|(with_reducible refine a0n a0F (by omega) (by assumption) ?_)|((with_reducible show wpList _ _ _ (⟨_, .store _ _ _,_,_,_,_⟩::_) _ _);refine a0H a2U j (x - 1) rfl rfl hQ7 (by rw[hQl.out];omega) rfl (by omega) ?_;intro w8 hQ8 hE8))
    have hU8:=hU7.skip (a0c.elem _) (a4k _) hE8 (fun k hk=>by have:=a4J hk;subst this;exact hgq);have hV8:Sl (a0c .u32) 1 (mk (un (un noY qo) (some ⟨gu,0,none⟩)) w8) vo V:=hV7.mono (a0c.mono _) (a0E hE8 (fun k hk=>a0v (a0A hk)));go_roundw
    case rel=>exact⟨j,_,_,_,rfl,rfl,by omega,hid hn1.out.1,hid hn1.out.2,hid (by rw[List.length_set];exact hQl.out),hU8,hQ8,hV8,hE10.own hQ7 hwq hE8⟩
    case measure=>simp[intOf]
end Go.Proofs.YtnnpfhoigmegcaaGreat
namespace Go.Lim
theorem a0R{l:List Nat}{n:Nat}(h:a0w l n):l.length=0↔n=0:=by
 rw[<-a6e h];exact List.length_eq_zero_iff
def a0U(s:Bool)(m:List Nat):Bool:=a1i m&&(decide (0<m.length)|| !s)
noncomputable def a6q(s:Bool)(m:List Nat):Int:=if a0U s m then(if s then -(nv m:Int)else nv m)else 0
def a4x(s:Bool)(m:List Nat)(z:Int):Prop:=s=decide (z<0)/\a0w m z.natAbs
theorem a4x.of_valid{s:Bool}{m:List Nat}(hd:Dig m)(h:a0U s m=true):a4x s m (a6q s m):=by
 have c:a1i m=true:=by unfold a0U at h;simp at h;exact h.1
 have b:a0w m (nv m):=⟨hd,c,rfl⟩;have a:=a0R b;unfold a6q;rw[if_pos h];cases s
 ·simp only[Bool.false_eq_true,if_false]
  exact⟨by simp,by simpa using b⟩
 ·have d:0<m.length:=by unfold a0U at h;simpa[c]using h
  simp only[if_true];refine⟨?_,by simpa using b⟩;have:nv m≠0:=fun e=>by rw[e]at a;simp at a;simp[a]at d
  symm;rw[decide_eq_true_eq];omega
theorem a4x.valid{s:Bool}{m:List Nat}{z:Int}(h:a4x s m z):a0U s m=true:=by
 obtain⟨b,a⟩:=h;have c:=a0R a;unfold a0U;rw[a.2.1];by_cases hz:z<0
 ·have:0<m.length:=by omega
  simp[this]
 ·simp[b,hz]
theorem a4x.val{s:Bool}{m:List Nat}{z:Int}(h:a4x s m z):a6q s m=z:=by
 unfold a6q;rw[if_pos h.valid];obtain⟨a,b⟩:=h;rw[b.2.2];by_cases hz:z<0
 ·simp only[a,hz,decide_true,if_true];omega
 ·simp only[a,hz,decide_false,Bool.false_eq_true,if_false];omega
theorem a4x.zero:a4x false [] 0:=⟨rfl,a0w.nil⟩
theorem a4x.len{s:Bool}{m:List Nat}{z:Int}(h:a4x s m z):m.length=lg z.natAbs:=h.2.len
theorem a4x.len0{s:Bool}{m:List Nat}{z:Int}(h:a4x s m z):m.length=0↔z=0:=by
 have:=a0R h.2;omega
theorem b4g(s:Bool)(m:List Nat)(h:Dig m):lg (a6q s m).natAbs<=m.length:=by
 cases a:a0U s m
 ·unfold a6q;rw[a];simp[a4N]
 ·exact Nat.le_of_eq (a4x.of_valid h a).len.symm
theorem a4y{s:Bool}{m:List Nat}(h:a0U s m=false):a6q s m=0:=by unfold a6q;rw[h];rfl
def dn(q:Rat):Nat:=if q.den=1 then 0 else q.den
def a5t(s:Bool)(m d:List Nat)(q:Rat):Prop:=a4x s m q.num/\a0w d (dn q)
noncomputable def a0V(s:Bool)(m d:List Nat):Bool:=a0U s m&&a1i d&&(decide (d.length=0)||(decide (0<m.length)&& !(nv d==1)&&(Nat.gcd (nv m) (nv d)==1)))
noncomputable def b1x(s:Bool)(m d:List Nat):Rat:=if a0V s m d then mkRat (a6q s m) (if d.length=0 then 1 else nv d)else 0
theorem a5t.of_valid{s:Bool}{m d:List Nat}(t:Dig m)(hd:Dig d)(h:a0V s m d=true):a5t s m d (b1x s m d):=by
 have g:=h;unfold a0V at g;simp only[Bool.and_eq_true]at g;obtain⟨⟨o,p⟩,j⟩:=g;have hz:=a4x.of_valid t o;have a:a0w d (nv d):=⟨hd,p,rfl⟩;have i:=a0R a;unfold b1x;rw[if_pos h];by_cases c:d.length=0
 ·rw[if_pos c]
  have e:mkRat (a6q s m) 1=((a6q s m:Int):Rat):=by rw[<-Rat.mk_den_one];rw[Rat.mk_eq_mkRat]
  rw[e];refine⟨by simpa using hz,?_⟩;have:nv d=0:=i.1 c;simp only[dn,Rat.den_intCast,if_true];rw[this]at a;exact a
 ·rw[if_neg c]
  have f:nv d≠0:=fun e=>c (i.2 e);simp[c]at j;obtain⟨⟨u,q⟩,r⟩:=j;have b:(a6q s m).natAbs=nv m:=by have:=hz.2.2.2;omega
  have k:(nv d).gcd (a6q s m).natAbs=1:=by rw[b,Nat.gcd_comm];exact r
  have l:(mkRat (a6q s m) (nv d)).num=a6q s m:=by rw[Rat.num_mkRat,if_neg f,k];simp
  have n:(mkRat (a6q s m) (nv d)).den=nv d:=by rw[Rat.den_mkRat,if_neg f,k];simp
  exact⟨by rw[l];exact hz,by unfold dn;rw[n,if_neg q];exact a⟩
theorem a5t.valid{s:Bool}{m d:List Nat}{q:Rat}(h:a5t s m d q):a0V s m d=true:=by
 obtain⟨b,c⟩:=h;have f:=a0R c;have j:=b.len0;have a:=q.reduced;have k:=q.den_nz;unfold a0V;rw[b.valid,c.2.1,c.2.2,b.2.2.2];by_cases hd:q.den=1
 ·have:d.length=0:=by rw[f];unfold dn;rw[if_pos hd]
  simp[this]
 ·have e:dn q=q.den:=by unfold dn;rw[if_neg hd]
  rw[e]at f |-;have l:q.num≠0:=fun e=>by rw[e]at a;simp[Nat.Coprime]at a;exact hd a
  have i:0<m.length:=by omega
  have g:q.num.natAbs.gcd q.den=1:=a;simp[i,hd,g]
theorem a5t.val{s:Bool}{m d:List Nat}{q:Rat}(h:a5t s m d q):b1x s m d=q:=by
 unfold b1x;rw[if_pos h.valid];obtain⟨c,a⟩:=h;have b:=a0R a;rw[c.val,a.2.2];by_cases hd:q.den=1
 ·have:d.length=0:=by rw[b];unfold dn;rw[if_pos hd]
  rw[if_pos this]
  conv=>rhs;rw[<-Rat.mkRat_self q]
  rw[hd]
 ·have e:dn q=q.den:=by unfold dn;rw[if_neg hd]
  have f:d.length≠0:=by rw[e]at b;have:=q.den_nz;omega
  rw[if_neg f,e,Rat.mkRat_self]
theorem a5t.zero:a5t false [] [] 0:=⟨a4x.zero,by simp[dn];exact a0w.nil⟩
theorem a5t.ofInt{s:Bool}{m:List Nat}{z:Int}(h:a4x s m z):a5t s m [] (z:Rat):=⟨by simpa using h,by simp[dn];exact a0w.nil⟩
theorem a3b{s:Bool}{m d:List Nat}(h:a0V s m d=false):b1x s m d=0:=by unfold b1x;rw[h];rfl
def hq(q:Rat):Nat:=max (lg q.num.natAbs) (lg q.den)
theorem a0s(q:Rat):lg q.num.natAbs<=hq q:=Nat.le_max_left _ _
theorem a0t(q:Rat):lg q.den<=hq q:=Nat.le_max_right _ _
theorem b6T(q:Rat):lg (dn q)<=hq q:=by
 unfold dn;split
 ·simp[a4N]
 ·exact a0t q
theorem a2O:lg 1=1:=a1G (by omega) (by omega)
theorem a6r{n:Nat}(h:0<n):1<=lg n:=b3m h
theorem a6P(q:Rat):1<=hq q:=Nat.le_trans (a6r q.den_pos) (a0t q)
theorem a8s(z:Int)(d k:Nat)(a:lg z.natAbs<=k)(b:lg d<=k)(c:1<=k):hq (mkRat z d)<=k:=by
 by_cases hd:d=0
 ·subst hd;rw[Rat.mkRat_zero];unfold hq;simp[a4N,a2O];exact c
 ·unfold hq
  rw[Rat.num_mkRat,Rat.den_mkRat,if_neg hd,if_neg hd];refine Nat.max_le.2 ⟨Nat.le_trans (a0P ?_) a,Nat.le_trans (a0P (Nat.div_le_self _ _)) b⟩;exact Int.natAbs_ediv_le_natAbs _ _
theorem a9W(x y:Rat):hq (x+y)<=hq x+hq y+1:=by
 rw[Rat.add_def'];refine a8s _ _ _ ?_ (Nat.le_trans (a0N _ _) (by have:=a0t x;have:=a0t y;omega)) (by omega);refine Nat.le_trans (a0P (Int.natAbs_add_le _ _)) ?_;refine Nat.le_trans (a8o _ _) ?_;rw[Int.natAbs_mul,Int.natAbs_mul,Int.natAbs_natCast,Int.natAbs_natCast];have a:=a0N x.num.natAbs y.den;have b:=a0N y.num.natAbs x.den;have:=a0s x;have:=a0s y;have:=a0t x;have:=a0t y;omega
theorem hq_mul(x y:Rat):hq (x*y)<=hq x+hq y:=by
 rw[Rat.mul_def'];refine a8s _ _ _ ?_ (Nat.le_trans (a0N _ _) (by have:=a0t x;have:=a0t y;omega)) (by have:=a6P x;omega);rw[Int.natAbs_mul];have:=a0N x.num.natAbs y.num.natAbs;have:=a0s x;have:=a0s y;omega
theorem a3U(x:Rat):hq (-x)=hq x:=by unfold hq;simp
theorem a8t(x y:Rat):hq (x - y)<=hq x+hq y+1:=by
 rw[Rat.sub_eq_add_neg,<-a3U y];exact a9W _ _
theorem a1J:hq 0=1:=by unfold hq;simp[a4N,a2O]
theorem b5R(x:Rat):hq x⁻¹<=hq x:=by
 by_cases h:x=0
 ·subst h;simp
 ·have a:x.num≠0:=fun e=>h (Rat.num_eq_zero.1 e)
  unfold hq;rw[Rat.num_inv,Rat.den_inv,if_neg a,Int.natAbs_mul,Int.natAbs_sign_of_ne_zero a,Nat.one_mul,Int.natAbs_natCast,Nat.max_comm];exact Nat.le_refl _
theorem hq_div(x y:Rat):hq (x/y)<=hq x+hq y:=by
 rw[Rat.div_def];exact Nat.le_trans (hq_mul _ _) (by have:=b5R y;omega)
theorem a4U(z:Int)(k:Nat)(h:lg z.natAbs<=k)(a:1<=k):hq (z:Rat)<=k:=by
 unfold hq;rw[Rat.num_intCast,Rat.den_intCast,a2O];exact Nat.max_le.2 ⟨h,a⟩
theorem b4h(s:Bool)(m d:List Nat)(k:Nat)(f:Dig m)(hd:Dig d)(i:m.length<=k)(j:d.length<=k)(c:1<=k):hq (b1x s m d)<=k:=by
 cases e:a0V s m d
 ·rw[a3b e,a1J];exact c
 ·have b:=a5t.of_valid f hd e
  have g:=b.1.len;have a:=b.2.len;unfold hq;refine Nat.max_le.2 ⟨by omega,?_⟩;unfold dn at a;split at a
  ·rename_i h;rw[h,a2O];exact c
  ·omega
theorem a5t.lowest{s:Bool}{n d:List Nat}{z:Int}{k:Nat}(f:k≠0)(p:s=decide (z<0))(o:a0w n (z.natAbs/Nat.gcd z.natAbs k))(hd:a0w d (k/Nat.gcd z.natAbs k)):a5t s n (if k/Nat.gcd z.natAbs k=1 then[]else d) (mkRat z k):=by
 have m:0<Nat.gcd z.natAbs k:=Nat.gcd_pos_of_pos_right _ (by omega);have e:(mkRat z k).num=z/(Nat.gcd z.natAbs k:Nat):=by rw[Rat.num_mkRat,if_neg f,Nat.gcd_comm]
 have i:(mkRat z k).den=k/Nat.gcd z.natAbs k:=by rw[Rat.den_mkRat,if_neg f,Nat.gcd_comm]
 have a:((Nat.gcd z.natAbs k:Nat):Int)∣z:=Int.ofNat_dvd_left.2 (Nat.gcd_dvd_left _ _);have j:(mkRat z k).num.natAbs=z.natAbs/Nat.gcd z.natAbs k:=by rw[e,Int.natAbs_ediv_of_dvd a,Int.natAbs_natCast]
 refine⟨⟨?_,by rw[j];exact o⟩,?_⟩
 ·rw[p,Bool.eq_iff_iff]
  simp only[decide_eq_true_eq];rw[e];obtain⟨g,b⟩:∃g,Nat.gcd z.natAbs k=g:=⟨_,rfl⟩;rw[b]at a m |-;obtain⟨c,rfl⟩:=a;rw[Int.mul_ediv_cancel_left _ (by omega)];constructor
  ·intro h
   by_cases l:c<0
   ·exact l
   ·have:=Int.mul_nonneg (Int.natCast_nonneg g) (show 0<=c by omega);omega
  ·intro h
   exact Int.mul_neg_of_pos_of_neg (by omega) h
 ·unfold dn
  rw[i];split
  ·exact a0w.nil
  ·exact hd
theorem b5S{n:Nat}(a:4294967296<=n):2<=lg n:=by
 by_cases h:lg n<=1
 ·rw[a2n,Nat.pow_one,a0S]at h;omega
 ·omega
end Go.Lim
namespace Go.Proofs.YtnnpfhoigmegcaaGreat
open Go.RowKit Go.Rep Go.Lim
theorem a7B(X:Nat->Bool)(ao V:Option Addr)(I J:List Nat)(Y Z:Nat)(w:World)(G:Sl (a0c .u32) 1 (mk X w) ao I)(H:Sl (a0c .u32) 1 (mk X w) V J)(z:Dig I)(A:Dig J)(B:I.length<=1099511627776)(C:J.length<=1099511627776)(u:I.length<=Y)(x:J.length<=Z)(hX:∀k,X k=true->k<w.heap.size)(i nb:Nat)(D:val I=i)(E:val J=nb)(h0:0<nb):Calls Tryz.prog 245 #[.slice ao I.length Y, .slice V J.length Z] w (b3o X w (i/nb) (i%nb)):=by
 by_cases h1:nb<4294967296
 ·exact b1D X ao V I J Y Z w G H z A B C u x hX i nb D E h0 h1
 have h2:=b5S (show 4294967296<=nb by omega);clear h1;go_enter Tryz.func245,Tryz.ntmps245
 go_wp2_with fail
 refine(a0T X _ _ _ _ G z (by omega) u).mono ?_;rintro e w' ⟨rfl,K,M,a,rfl,S,P,d,n⟩;go_wp2_with fail
 refine(a0T X _ _ _ _ H A (by omega) x).mono ?_;rintro e w' ⟨rfl,L,N,b,rfl,T,Q,f,p⟩;rw[D]at d;rw[E]at f;have a1:2<=b.length:=by rw[f.len];exact h2
 have m:a.length<=1099511627776:=Nat.le_trans P B;have R:b.length<=1099511627776:=Nat.le_trans Q C;have a4:=hid d.val;have a5:=hid f.val;clear D E P Q G H B C u x h2 z A;go_wp2_with fail
 refine(a2F X K L a b M N w n p d.1 f.1 m R S T i nb a4.out a5.out).mono ?_;rintro e w2 ⟨j,rfl⟩;have o:=n.mono (a0c.mono _) (a0k j);have U:=p.mono (a0c.mono _) (a0k j);have O:∀k,X k=true->k<w2.heap.size:=fun k hk=>Nat.lt_of_lt_of_le (hX k hk) j.size;by_cases l:i<nb
 ·have y:a2v i nb<0:=(a2W i nb).2 l
  have hq:=hid (Nat.div_eq_of_lt l);have hr:=hid (Nat.mod_eq_of_lt l);generalize a2v i nb=c at y;go_wp2_with fail
  refine(a4P X _ _ _ _ i o d (by omega) O).mono ?_;rintro e w3 ⟨s,q,r,l3,rfl,t,g,F⟩;go_wp2_with fail
  go_ret3
  refine⟨j.trans s,none,0,[],q,r,l3,rfl,by simp,?_,Sl.nil _ _ _ _,t,?_,F⟩
  ·rw[hq.out];exact a0w.nil
  ·rw[hr.out];exact g
 ·have y:¬a2v i nb<0:=fun h=>l ((a2W i nb).1 h)
  generalize a2v i nb=c at y;go_wp2_with fail
  refine(a9h X K L a b M N w2 o U i nb d f (by omega) a1 m O).mono ?_;rintro e w3 ⟨s,q,r,l3,W,a0,l4,rfl,t,g,F,a2,v,a3⟩;go_wp2_with fail
  go_ret3
  exact⟨j.trans s,q,r,l3,W,a0,l4,rfl,t,g,F,a2,v,a3⟩
def b4i(w:World)(n:Nat)(e:Ending)(w':World):Prop:=
 w=w'/\((n<18446744073709551616/\e= .returned (.tuple #[.int .u64 n, .bool true]))\/(18446744073709551616<=n/\e= .returned (.tuple #[.int .u64 0, .bool false])))
theorem a6s(X:Nat->Bool)(ao:Option Addr)(l:List Nat)(c:Nat)(w:World)(Q:Sl (a0c .u32) 1 (mk X w) ao l)(hd:Dig l)(O:l.length<=1099511627776)(M:l.length<=c)(n:Nat)(P:val l=n):Calls Tryz.prog 325 #[.slice ao l.length c] w (b4i w n):=by
 go_enter Tryz.func325,Tryz.ntmps325
 go_wp2_with fail
 refine(a0T X _ _ _ _ Q hd (by omega) M).mono ?_;rintro e w' ⟨rfl,z,S,a,rfl,N,A,o,t⟩;rw[P]at o;have L:a.length<=1099511627776:=Nat.le_trans A O;have W:=t.hd;have H:=hid o.2.2;have B:=o.1;have s:=hid o.len;clear P Q hd O M A;by_cases h2:2<a.length
 ·have r:18446744073709551616<=n:=by
   by_cases h:n<18446744073709551616
   ·have:lg n<=2:=by rw[a2n,a0S];omega
    have:=s.out;omega
   ·omega
  have E:=hid r;clear r;go_wp2_with fail
  go_ret2
  exact⟨rfl, .inr ⟨E.out,rfl⟩⟩
 ·have J:Hid (n<18446744073709551616):=hid (by
   have:lg n<=2:=by rw[<-s.out];omega
   rw[a2n,a0S]at this;omega)
  go_wp2_with fail
  go_loop [2,13] (fun v i=>∃k:Nat,i= .int .i64 k/\v= .int .u64 (nv (a.take k):Nat)/\k<=a.length) (fun _ i=>a.length - (intOf i).toNat)
  case atStart=>exact⟨0,rfl,rfl,by omega⟩
  case round=>
   obtain⟨k,rfl,rfl,hk⟩:=hrel;by_cases y:k<a.length
   ·have j:=t.nat k y
    have hx:=B.get k y;have d:=a0p a k y;obtain⟨x,D⟩:∃x,a[k]=x:=⟨_,rfl⟩;rw[D]at j hx d;rw[a0S]at hx d;have g:=a1r B k;obtain⟨v,R⟩:∃v,nv (a.take k)=v:=⟨_,rfl⟩;rw[R]at d g |-;have u:=hid d;clear d D R;rcases(by omega:k=0\/k=1)with rfl|rfl
    ·rw[Nat.pow_zero]at g
     obtain rfl:v=0:=by omega
     clear g;have I:bits BinOp.or IntKind.u64 0 (x:Int)=(x:Int):=by
      have:=bits_or_u64_nat 0 x (by omega) (by omega);rw[Nat.zero_or]at this;exact this
     have q:w.cell? (adr z 0)=some (.int .u32 x):=j;go_wp2_with (with_reducible refine a0n a0F (by omega) (by assumption) ?_)
     have f:nv (a.take 1)=x:=by have:=u.out;simpa using this
     go_round
     case rel=>exact⟨1,rfl,by rw[f],by omega⟩
     case measure=>simp[intOf];omega
    ·rw[Nat.pow_one,a0S]at g
     have p:bits BinOp.or IntKind.u64 (v:Int) ((x:Int)*4294967296)=((v+4294967296*x:Nat):Int):=by
      have e:=bits_or_u64_nat v (x*4294967296) (by omega) (by omega);have U:=Nat.two_pow_add_eq_or_of_lt (i:=32) (b:=v) (by omega) x;rw[Nat.or_comm,Nat.mul_comm x,show(4294967296:Nat)*x=2^32*x from rfl,<-U]at e;have V:((2^32*x:Nat):Int)=(x:Int)*4294967296:=by omega
      rw[V]at e;rw[e];omega
     have m:nv (a.take 2)=v+4294967296*x:=by have:=u.out;simpa using this
     obtain⟨T,K⟩:∃T,v+4294967296*x=T:=⟨_,rfl⟩;rw[K]at p m;have f:=hid m;have I:=p;clear p K m;have q:w.cell? (adr z 1)=some (.int .u32 x):=j;have Y:(v:Int)<4294967296:=by omega
     have Z:(x:Int)<4294967296:=by omega
     clear g hx;have C:(1:Int)<(a.length:Int):=by omega
     have G:decide ((1:Int)<(a.length:Int))=true:=decide_eq_true C;go_wp2_with (with_reducible refine a0n a0F (by omega) (by assumption) ?_)
     go_round
     case rel=>exact⟨2,rfl,by rw[f.out],by omega⟩
     case measure=>simp[intOf];omega
   ·have F:k=a.length:=by omega
    have f:nv (a.take k)=n:=by rw[F,List.take_length];exact H.out
    rw[f];go_wp2_with fail
    go_ret2
    exact⟨rfl, .inl ⟨J.out,rfl⟩⟩
theorem a9X(a b:Nat)(w:World)(_ha:a<18446744073709551616)(j:b<18446744073709551616):Calls Tryz.prog 326 #[.int .u64 a, .int .u64 b] w (a8q w .u64 (Nat.gcd a b)):=by
 obtain⟨g,e⟩:∃g,Nat.gcd a b=g:=⟨_,rfl⟩;rw[e];have f:=hid e;clear e;have k:Hid (b<18446744073709551616):=hid j;clear _ha j;go_enter Tryz.func326,Tryz.ntmps326
 go_wp2_with fail
 go_loopw [0,1] (fun x y wr=>∃p q m:Nat,x= .int .u64 p/\y= .int .u64 q/\Hid (Nat.gcd p q=g)/\wr=w.drewN m) (fun _ y _=>(intOf y).toNat)
 case atStart=>exact⟨a,b,0,rfl,rfl,f,rfl⟩
 case round=>
  obtain⟨p,q,m,rfl,rfl,d,rfl⟩:=hrel;by_cases hq:q=0
  ·subst hq
   have c:=hid (by have:=d.out;rwa[Nat.gcd_zero_right]at this);have n:(((0:Nat):Int) !=0)=false:=rfl;go_wp2_with fail
   go_ret
   exact⟨a0y (congrArg Nat.cast c.out),m,rfl⟩
  ·have n:((q:Int)==0)=false:=a2S (by omega)
   have o:((q:Int) !=0)=true:=a9E (by omega);have i:Hid (Nat.gcd q (p%q)=g):=hid (by rw[Nat.gcd_comm,<-Nat.gcd_rec,Nat.gcd_comm];exact d.out);have h:p%q<q:=Nat.mod_lt _ (by omega);have l:=hid hq;clear hq;go_wp2_with fail
   go_quiet (fail)
   go_wp2_with fail
   go_roundw
   case rel=>exact⟨q,p%q,_,rfl,by rw[Int.natCast_emod],i,World.drewN_drewN _ _ _⟩
   case measure=>
    simp only[intOf,Int.toNat_natCast];rw[<-Int.natCast_emod,Int.toNat_natCast];exact h
noncomputable def b6U(w:World):Value->Nat
 | .slice ao n _=>nv ((List.range n).map fun i=>match w.cell? (adr ao i)with|some (.int _ x)=>x.toNat|_=>0)
 |_=>0
theorem a4l{X:Nat->Bool}{w:World}{ao:Option Addr}{l:List Nat}(c:Nat)(b:Sl (a0c .u32) 1 (mk X w) ao l):b6U w (.slice ao l.length c)=nv l:=by
 show nv _=nv l
 congr 1
 apply List.ext_getElem
 ·simp
 ·intro i d a
  simp only[List.getElem_map,List.getElem_range,b.nat i a,Int.toNat_natCast]
theorem b4j(X:Nat->Bool)(ao bo:Option Addr)(la lb:List Nat)(ca cb:Nat)(w:World)(u:Sl (a0c .u32) 1 (mk X w) ao la)(h:Sl (a0c .u32) 1 (mk X w) bo lb)(b5:Dig la)(b6:Dig lb)(b9:la.length<=1099511627776)(c0:lb.length<=1099511627776)(B:la.length<=ca)(n:lb.length<=cb)(hX:∀k,X k=true->k<w.heap.size)(na nb:Nat)(c1:val la=na)(c2:val lb=nb):Calls Tryz.prog 293 #[.slice ao la.length ca, .slice bo lb.length cb] w (a3y X w (Nat.gcd na nb)):=by
 go_enter Tryz.func293,Tryz.ntmps293
 go_wp2_with fail
 refine(a0T X _ _ _ _ u b5 (by omega) B).mono ?_;rintro e w' ⟨rfl,c8,d0,a,rfl,Z,z,G,a1⟩;go_wp2_with fail
 refine(a0T X _ _ _ _ h b6 (by omega) n).mono ?_;rintro e w' ⟨rfl,c9,d1,b,rfl,a0,j,H,a3⟩;rw[c1]at G;rw[c2]at H;have V:a.length<=1099511627776:=Nat.le_trans z b9;have Y:b.length<=1099511627776:=Nat.le_trans j c0;obtain⟨g,O⟩:∃g,Nat.gcd na nb=g:=⟨_,rfl⟩;rw[O];have a8:=hid O;have A:=hid G;have f:=hid H;clear c1 c2 z j u h b9 c0 B n b5 b6 O G H;go_wp2_with fail
 go_loopw [0,1] (fun x y wr=>∃(p q:Nat) (ao bo:Option Addr) (a b:List Nat) (ca cb:Nat),x= .slice ao a.length ca/\y= .slice bo b.length cb/\a.length<=ca/\b.length<=cb/\a.length<=1099511627776/\b.length<=1099511627776/\Hid (a0w a p)/\Hid (a0w b q)/\Hid (Nat.gcd p q=g)/\
  Sl (a0c .u32) 1 (mk X wr) ao a/\Sl (a0c .u32) 1 (mk X wr) bo b/\Ext w wr) (fun _ y W=>b6U W y)
 case atStart=>exact⟨na,nb,_,_,_,_,_,_,rfl,rfl,Z,a0,V,Y,A,f,a8,a1,a3,ExtX.refl _⟩
 case round=>
  clear A f a1 a3 Z a0 V Y;obtain⟨p,q,P,Q,a2,U,R,v,rfl,rfl,B,n,z,j,A,f,O,u,h,hE⟩:=hrel;have S:∀k,X k=true->k<wr.heap.size:=fun k hk=>Nat.lt_of_lt_of_le (hX k hk) hE.size;by_cases hq:0<U.length
  ·have o:Hid (0<q):=hid (by have:=a0R f.out;omega)
   have d2:(0:Int)<(U.length:Int):=by omega
   have a6:=A.out.1;have T:=f.out.1;have N:=hid A.out.val;have C:=hid f.out.val;go_wp2_with fail
   refine(a6s X P a2 R wr u a6 z B p N.out).mono ?_;rintro e w' ⟨rfl,c5⟩;rcases c5 with⟨u1,rfl⟩|⟨u1,rfl⟩
   ·have c6:=hid u1
    clear u1;go_wp2_with fail
    refine(a6s X Q U v wr h T j n q C.out).mono ?_;rintro e w' ⟨rfl,b4⟩;rcases b4 with⟨u2,rfl⟩|⟨u2,rfl⟩
    ·have a9:Nat.gcd p q<18446744073709551616:=Nat.lt_of_le_of_lt (Nat.gcd_le_right _ o.out) u2
     rw[O.out]at a9;have c7:=hid u2;have b8:=hid a9;have b7:=a9X p q wr c6.out c7.out;rw[O.out]at b7;clear u2 a9;go_wp2_with fail
     refine b7.mono ?_;rintro e w2 ⟨rfl,m,rfl⟩;go_wp2_with fail
     refine(a2X X g (wr.drewN m) b8.out S).mono ?_;rintro e w3 ⟨i,D,E,l3,rfl,F,d,t⟩;go_wp2_with fail
     go_ret
     exact⟨hE.trans (((ExtX.refl wr).drewN m).trans i),D,E,l3,rfl,F,by rw[a8.out];exact d,t⟩
    ·clear u2
     go_wp2_with fail
     refine(a7B X P Q a2 U R v wr u h a6 T z j B n S p q N.out C.out o.out).mono ?_;rintro e w3 ⟨i,D,E,l3,c3,a4,l4,rfl,F,d,t,a5,c,L⟩;go_wp2_with fail
     have b0:l4.length<=1099511627776:=by
      have h1:l4.length<=U.length:=by rw[c.len,f.out.len];exact a0P (Nat.le_of_lt (Nat.mod_lt _ o.out))
      omega
     have b3:Hid (Nat.gcd q (p%q)=g):=hid (by rw[Nat.gcd_comm,<-Nat.gcd_rec,Nat.gcd_comm];exact O.out);have M:=h.mono (a0c.mono _) (a0k i);have r:=a4l a4 L;have s:=a4l v h;rw[c.2.2]at r;rw[f.out.2.2]at s;have b1:=Nat.mod_lt p o.out;have l:=hid c;have J:=hid r;have K:=hid s;clear d t c r s N C;go_roundw
     case rel=>exact⟨q,p%q,_,_,_,_,_,_,rfl,rfl,n,a5,j,b0,f,l,b3,M,L,hE.trans i⟩
     case measure=>rw[J.out,K.out];exact b1
   ·clear u1
    go_wp2_with fail
    refine(a6s X Q U v wr h T j n q C.out).mono ?_;rintro e w' ⟨rfl,b4⟩;rcases b4 with⟨u2,rfl⟩|⟨u2,rfl⟩
    all_goals
     clear u2;go_wp2_with fail
     refine(a7B X P Q a2 U R v wr u h a6 T z j B n S p q N.out C.out o.out).mono ?_;rintro e w3 ⟨i,D,E,l3,c3,a4,l4,rfl,F,d,t,a5,c,L⟩;go_wp2_with fail
     have b0:l4.length<=1099511627776:=by
      have h1:l4.length<=U.length:=by rw[c.len,f.out.len];exact a0P (Nat.le_of_lt (Nat.mod_lt _ o.out))
      omega
     have b3:Hid (Nat.gcd q (p%q)=g):=hid (by rw[Nat.gcd_comm,<-Nat.gcd_rec,Nat.gcd_comm];exact O.out);have M:=h.mono (a0c.mono _) (a0k i);have r:=a4l a4 L;have s:=a4l v h;rw[c.2.2]at r;rw[f.out.2.2]at s;have b1:=Nat.mod_lt p o.out;have l:=hid c;have J:=hid r;have K:=hid s;clear d t c r s N C;go_roundw
     case rel=>exact⟨q,p%q,_,_,_,_,_,_,rfl,rfl,n,a5,j,b0,f,l,b3,M,L,hE.trans i⟩
     case measure=>rw[J.out,K.out];exact b1
  ·have o:q=0:=by have:=a0R f.out;omega
   subst o;have I:=O.out;rw[Nat.gcd_zero_right]at I;have a7:=hid I;clear I;have c4:=A.out;clear O f;go_wp2_with fail
   refine(a4P X P a2 R wr p u c4 (by omega) S).mono ?_;rintro e w3 ⟨i,D,E,l3,rfl,F,d,t⟩;go_wp2_with fail
   go_ret
   exact⟨hE.trans i,D,E,l3,rfl,F,by rw[a8.out,<-a7.out];exact d,t⟩
end Go.Proofs.YtnnpfhoigmegcaaGreat
namespace Go.Lim
def a2G(a b o:List Nat)(i c:Nat):Prop:=o.length=i/\Dig o/\c<=1/\nv o+nv (b.take i)=nv (a.take i)+B^i*c
theorem a2G.start(a b:List Nat):a2G a b [] 0 0:=⟨rfl,Dig.nil,by omega,by simp[nv]⟩
theorem a2G.step{a b o:List Nat}{i c x y:Nat}(h:a2G a b o i c)(hx:a.getD i 0=x)(j:b.getD i 0=y)(s:Dig a)(t:Dig b):a2G a b (o++[a3D x y c]) (i+1) (a4S x y c):=by
 obtain⟨g,q,r,u⟩:=h;have e:=s.getD i;have f:=t.getD i;rw[hx]at e;rw[j]at f;obtain⟨l,m,n⟩:=a7y e f r;refine⟨by simp[g],q.append (Dig.cons m Dig.nil),n,?_⟩;rw[a1x,g,a0Q,a0Q,hx,j,Nat.pow_succ];generalize a3D x y c=d at*;generalize a4S x y c=k at*;have p:B^i*(d+y+c)=B^i*(x+B*k):=by rw[l]
 rw[Nat.mul_add,Nat.mul_add,Nat.mul_add]at p;rw[Nat.mul_assoc];omega
theorem a2G.done{a b o:List Nat}{c:Nat}(h:a2G a b o a.length c)(d:b.length<=a.length)(j:nv b<=nv a):nv o=nv a - nv b:=by
 obtain⟨e,f,k,g⟩:=h;rw[List.take_of_length_le d,List.take_of_length_le (Nat.le_refl _)]at g;have i:=a3K f;rw[e]at i;rcases(by omega:c=0\/c=1)with rfl|rfl
 ·omega
 ·omega
theorem a9Y{x y c:Nat}(hx:x<4294967296)(b:y<4294967296)(a:c<=1):(x+4294967296 - y - c)%4294967296=a3D x y c/\1 - (x+4294967296 - y - c)/4294967296=a4S x y c:=by
 unfold a3D a4S;refine⟨rfl,?_⟩;split<;>omega
def a3V(a:List Nat)(v by_:Nat)(o:List Nat)(i c:Nat):Prop:=o.length=by_+i/\Dig o/\c<B/\nv o+B^(by_+i)*c=B^by_*(nv (a.take i)*v)
theorem a3V.start(a:List Nat)(v b:Nat):a3V a v b (List.replicate b 0) 0 0:=⟨by simp,Dig.zeros _,a2g,by simp[nv,a8n]⟩
theorem a3V.step{a o:List Nat}{v b i c x:Nat}(h:a3V a v b o i c)(hx:a.getD i 0=x)(p:Dig a)(u:v<4294967296):a3V a v b (o++[(x*v+c)%4294967296]) (i+1) ((x*v+c)/4294967296)/\x*v+c<18446744073709551616:=by
 obtain⟨g,m,n,s⟩:=h;have f:=p.getD i;rw[hx,a0S]at f;rw[a0S]at n;have t:x*v<=4294967295*4294967295:=Nat.mul_le_mul (by omega) (by omega);have d:x*v+c<18446744073709551616:=by omega
 refine⟨⟨by simp[g];omega,m.append (Dig.cons (by rw[a0S];exact Nat.mod_lt _ (by decide)) Dig.nil),by rw[a0S];omega,?_⟩,d⟩;rw[a1x,g,a0Q,hx,<-Nat.add_assoc,Nat.pow_succ];have e:=Nat.div_add_mod (x*v+c) 4294967296;generalize (x*v+c)/4294967296=q at*;generalize (x*v+c)%4294967296=r at*;have j:B^(b+i)*(4294967296*q+r)=B^(b+i)*(x*v+c):=by rw[e]
 rw[Nat.mul_add,Nat.mul_add]at j;have k:B^(b+i)*B*q=B^(b+i)*(4294967296*q):=by rw[a0S,Nat.mul_assoc]
 have l:B^b*((nv (a.take i)+B^i*x)*v)=B^b*(nv (a.take i)*v)+B^(b+i)*(x*v):=by
  rw[Nat.add_mul,Nat.mul_add,Nat.pow_add,Nat.mul_assoc (B^i),<-Nat.mul_assoc (B^b) (B^i)]
 rw[k,l];omega
theorem a3V.done{a o:List Nat}{v b c:Nat}(h:a3V a v b o (a.length+1) c)(k:Dig a)(m:v<4294967296):Dig o/\nv o=nv a*v*B^b:=by
 obtain⟨p,i,q,d⟩:=h;rw[List.take_of_length_le (by omega)]at d;have j:=a3K k;have l:c=0:=by
  by_cases g:c=0
  ·exact g
  ·have n:B^(b+(a.length+1))*1<=B^(b+(a.length+1))*c:=Nat.mul_le_mul_left _ (by omega)
   have e:nv a*v<B^(a.length+1):=by
    rw[Nat.pow_succ];exact Nat.lt_of_le_of_lt (Nat.mul_le_mul_left _ (Nat.le_of_lt (show v<B by rw[a0S];exact m))) (Nat.mul_lt_mul_of_pos_right j a2g)
   have f:B^b*(nv a*v)<B^b*B^(a.length+1):=Nat.mul_lt_mul_of_pos_left e (Nat.pow_pos a2g);rw[<-Nat.pow_add]at f;omega
 subst l;exact⟨i,by rw[Nat.mul_zero,Nat.add_zero]at d;rw[d,Nat.mul_comm]⟩
theorem b1S{l:List Nat}(hd:Dig l)(k:Nat):l.getD k 0=nv l/B^k%B:=by
 by_cases a:k<l.length
 ·have b:=a1y l k (by omega)
  have c:=a1r hd k;have d:nv (l.drop k)=l[k]+B*nv (l.drop (k+1)):=a4j a;have e:0<B^k:=Nat.pow_pos a2g;rw[a0m a,b,Nat.add_mul_div_left _ _ e,Nat.div_eq_of_lt c,Nat.zero_add,d,Nat.add_mul_mod_self_left,Nat.mod_eq_of_lt (hd.get k a)]
 ·have b:=a3K hd
  have c:B^l.length<=B^k:=Nat.pow_le_pow_right a2g (by omega);rw[a3q (by omega),Nat.div_eq_of_lt (by omega)];simp
theorem b5T{l:List Nat}{n:Nat}(h:a0w l n)(i:Nat):l.getD (i/32) 0/2^(i%32)%2=n/2^i%2:=by
 rw[b1S h.1,h.2.2];have e:i=32*(i/32)+i%32:=by omega
 have b:i%32<32:=Nat.mod_lt _ (by decide);generalize i/32=p at*;generalize i%32=s at*;subst e;rw[b1B,Nat.pow_add,<-Nat.div_div_eq_div_mul];generalize n/2^(32*p)=y;have a:B=2^s*(2*2^(31 - s)):=by
  rw[a0S,<-Nat.pow_succ',<-Nat.pow_add,show s+(31 - s).succ=32 by omega]
 rw[a,Nat.mod_mul_right_div_self];rw[Nat.mod_mul_right_mod]
def a2q(a b q r i:Nat):Prop:=q=a/2^i/b/\r=a/2^i%b
theorem a2q.start{a b k:Nat}(h:a<2^k):a2q a b 0 0 k:=by
 unfold a2q;rw[Nat.div_eq_of_lt h];exact⟨by simp,by simp⟩
theorem a2q.step{a b q r i t:Nat}(h:a2q a b q r (i+1))(f:0<b)(o:a/2^i%2=t):r<b/\(2*r+t<b->a2q a b (2*q) (2*r+t) i)/\(b<=2*r+t->a2q a b (2*q+1) (2*r+t - b) i):=by
 obtain⟨j,d⟩:=h;rw[Nat.pow_succ,<-Nat.div_div_eq_div_mul]at j d;have e:=Nat.div_add_mod (a/2^i) 2;rw[o]at e;have k:=Nat.div_add_mod (a/2^i/2) b;rw[<-j,<-d]at k;have n:r<b:=by rw[d];exact Nat.mod_lt _ f
 unfold a2q;generalize a/2^i=y at*;generalize y/2=z at*;have g:y=b*(2*q)+(2*r+t):=by
  rw[Nat.mul_left_comm];omega
 refine⟨n,fun c=>?_,fun m=>?_⟩
 ·rw[g]
  exact⟨by rw[Nat.mul_add_div f,Nat.div_eq_of_lt c,Nat.add_zero],by rw[Nat.mul_add_mod,Nat.mod_eq_of_lt c]⟩
 ·have c:2*r+t - b<b:=by omega
  have l:y=b*(2*q+1)+(2*r+t - b):=by rw[g,Nat.mul_add,Nat.mul_one];omega
  rw[l];exact⟨by rw[Nat.mul_add_div f,Nat.div_eq_of_lt c,Nat.add_zero],by rw[Nat.mul_add_mod,Nat.mod_eq_of_lt c]⟩
theorem a2q.done{a b q r:Nat}(h:a2q a b q r 0):q=a/b/\r=a%b:=by
 unfold a2q at h;simpa using h
end Go.Lim
namespace Go.Rep
open Go.RowKit Go.Lim
def HX(X:Nat->Bool)(w:World):Prop:=∀k,X k=true->k<w.heap.size
theorem HX.ext{X Y:Nat->Bool}{w a:World}(h:HX X w)(b:ExtX Y w a):HX X a:=fun k c=>Nat.lt_of_lt_of_le (h k c) b.size
theorem HX.none(w:World):HX noY w:=fun k a=>by simp[noY]at a
def NV(h:Mem)(u:Value)(n:Nat):Prop:=∃ao c l,u= .slice ao l.length c/\l.length<=c/\Dig l/\l.length<=1099511627776/\Sl (a0c .u32) 1 h ao l/\val l=n
def NC(h:Mem)(u:Value)(n:Nat):Prop:=∃ao c l,u= .slice ao l.length c/\l.length<=c/\a0w l n/\Sl (a0c .u32) 1 h ao l
theorem NV.mono:a2Q NV:=by rintro h i u x g ⟨ao,c,l,rfl,a,b,d,e,f⟩;exact⟨ao,c,l,rfl,a,b,d,e.mono (a0c.mono _) g,f⟩
theorem NC.mono:a2Q NC:=by rintro h f u x e ⟨ao,c,l,rfl,a,b,d⟩;exact⟨ao,c,l,rfl,a,b,d.mono (a0c.mono _) e⟩
theorem NC.nv{h:Mem}{u:Value}{n:Nat}(f:NC h u n)(e:lg n<=1099511627776):NV h u n:=by
 obtain⟨ao,c,l,rfl,b,a,d⟩:=f;exact⟨ao,c,l,rfl,b,a.1,by rw[a.len];exact e,d,a.val⟩
theorem NC.zero(h:Mem):NC h (.slice none 0 0) 0:=⟨none,0,[],rfl,Nat.le_refl _,a0w.nil,Sl.nil _ _ _ _⟩
theorem NC.one{h:Mem}{ao:Option Addr}{c:Nat}(a:1<=c)(b:Sl (a0c .u32) 1 h ao [1]):NC h (.slice ao 1 c) 1:=⟨ao,c,[1],rfl,a,a8p (by omega) (by omega),b⟩
theorem NV.lg{h:Mem}{u:Value}{n:Nat}(d:NV h u n):lg n<=1099511627776:=by
 obtain⟨ao,c,l,rfl,e,a,b,f,rfl⟩:=d;exact Nat.le_trans (a9F l a) b
def a1u{α:Type}(X:Nat->Bool)(w:World)(R:Mem->Value->α->Prop)(x:α)(e:Ending)(w':World):Prop:=Ext w w'/\∃u,e= .returned u/\R (mk X w') u x
theorem mkx{X:Nat->Bool}{w a:World}{α:Type}{R:Mem->Value->α->Prop}(c:a2Q R){u:Value}{x:α}(h:R (mk X w) u x)(b:Ext w a):R (mk X a) u x:=c _ _ _ _ (a0k b) h
end Go.Rep
namespace Go.Proofs.YtnnpfhoigmegcaaGreat
open Go.RowKit Go.Rep Go.Lim
theorem a3y.r{X:Nat->Bool}{w:World}{n:Nat}{e:Ending}{a:World}(h:a3y X w n e a):a1u X w NC n e a:=by
 obtain⟨g,ao,c,l,rfl,b,d,f⟩:=h;exact⟨g,_,rfl,ao,c,l,rfl,b,d,f⟩
section
variable {X:Nat->Bool} {w:World} {u v:Value} {a b:Nat}
theorem b6V(n:HX X w)(o:NV (mk X w) u a)(p:NV (mk X w) v b):Calls Tryz.prog 166 #[u,v] w (a1u X w NC (a+b)):=by
 obtain⟨ao,c,l,rfl,f,g,i,j,k⟩:=o;obtain⟨e,d,m,rfl,q,s,t,x,y⟩:=p;exact(b3Q X ao e l m c d w j x g s i t f q n a b k y).mono fun _ _ h=>h.r
theorem b3q(n:HX X w)(o:NV (mk X w) u a)(p:NV (mk X w) v b):Calls Tryz.prog 234 #[u,v] w (a1u X w NC (a*b)):=by
 obtain⟨ao,c,l,rfl,f,g,i,j,k⟩:=o;obtain⟨e,d,m,rfl,q,s,t,x,y⟩:=p;exact(b3R X ao e l m c d w j x g s i t f q n a b k y).mono fun _ _ h=>h.r
theorem b7x(n:HX X w)(o:NV (mk X w) u a)(p:NV (mk X w) v b):Calls Tryz.prog 293 #[u,v] w (a1u X w NC (Nat.gcd a b)):=by
 obtain⟨ao,c,l,rfl,f,g,i,j,k⟩:=o;obtain⟨e,d,m,rfl,q,s,t,x,y⟩:=p;exact(b4j X ao e l m c d w j x g s i t f q n a b k y).mono fun _ _ h=>h.r
theorem b6F(k:NV (mk X w) u a)(n:NV (mk X w) v b):Calls Tryz.prog 168 #[u,v] w (a2L w (a2v a b)):=by
 obtain⟨ao,c,l,rfl,f,g,h,i,j⟩:=k;obtain⟨e,d,m,rfl,o,p,q,r,s⟩:=n;exact a2F X ao e l m c d w i r g p h q f o a b j s
def b7y(X:Nat->Bool)(w:World)(q r:Nat)(e:Ending)(w':World):Prop:=Ext w w'/\∃u v,e= .returned (.tuple #[u,v, .bool true])/\NC (mk X w') u q/\NC (mk X w') v r
theorem b7z(s:HX X w)(x:NV (mk X w) u a)(y:NV (mk X w) v b)(t:0<b):Calls Tryz.prog 245 #[u,v] w (b7y X w (a/b) (a%b)):=by
 obtain⟨ao,c,l,rfl,k,n,o,p,q⟩:=x;obtain⟨h,d,m,rfl,z,A,B,C,D⟩:=y;refine(a7B X ao h l m c d w p C n A o B k z s a b q D t).mono ?_;rintro e M ⟨r,f,i,E,g,j,F,rfl,G,H,I,J,K,L⟩;exact⟨r,_,_,rfl,⟨f,i,E,rfl,G,H,I⟩,⟨g,j,F,rfl,J,K,L⟩⟩
def b7A(X:Nat->Bool)(w:World)(d:Nat)(b:Bool)(e:Ending)(w':World):Prop:=Ext w w'/\∃u,e= .returned (.tuple #[u, .bool b])/\NC (mk X w') u d
theorem b7B(q:HX X w)(r:NV (mk X w) u a)(s:NV (mk X w) v b):Calls Tryz.prog 307 #[u,v] w (b7A X w (a - b) (decide (b<=a))):=by
 obtain⟨ao,c,l,rfl,i,j,k,n,o⟩:=r;obtain⟨g,d,m,rfl,t,x,y,z,A⟩:=s;refine(b4b X ao g l m c d w n z j x k y i t q a b o A).mono ?_;rintro e F ⟨p,f,h,B,rfl,C,D,E⟩;exact⟨p,_,rfl,f,h,B,rfl,C,D,E⟩
theorem b5U(b:HX X w)(c:a<18446744073709551616):Calls Tryz.prog 244 #[.int .u64 a] w (a1u X w NC a):=
 (a2X X a w c b).mono fun _ _ h=>h.r
theorem b1T(k:HX X w)(n:NV (mk X w) u a)(o:NV (mk X w) v b):Calls Tryz.prog 201 #[u,v] w (a1u X w NC (a+b)):=by
 obtain⟨ao,c,l,rfl,x,f,g,i,j⟩:=n;obtain⟨e,d,m,rfl,y,p,q,s,t⟩:=o;exact(b1E X ao e l m c d w i s f p g q k a b j t).mono fun _ _ h=>h.r
theorem a3c(e:HX X w)(f:NV (mk X w) u a):Calls Tryz.prog 196 #[u] w (a1u X w NC a):=by
 obtain⟨ao,c,l,rfl,g,b,i,d,rfl⟩:=f;exact(a4Q X ao l c w d b (by omega) e).mono fun _ _ h=>h.r
theorem b3r(b:HX X w)(c:a<18446744073709551616):Calls Tryz.prog 210 #[.int .u64 a] w (a1u X w NC a):=
 (a6f X a w c b).mono fun _ _ h=>h.r
end
end Go.Proofs.YtnnpfhoigmegcaaGreat
namespace Go.Proofs.YtnnpfhoigmegcaaGreat
open Go.RowKit Go.Rep Go.Lim
theorem b4k(X:Nat->Bool)(w:World)(u v:Value)(r nb:Nat)(Z:HX X w)(hu:NV (mk X w) u r)(hv:NV (mk X w) v nb):Calls Tryz.prog 202 #[u,v] w (b7A X w (r - nb) (decide (nb<=r))):=by
 have L:=hu.lg;have M:=hv.lg;go_enter Tryz.func202,Tryz.ntmps202
 go_wp2_with fail
 refine(a3c Z hu).mono ?_;rintro e w1 ⟨l,u1,rfl,T⟩;go_wp2_with fail
 refine(a3c (Z.ext l) (mkx NV.mono hv l)).mono ?_;rintro e w2 ⟨j,v1,rfl,b6⟩;obtain⟨ao,ca,a,rfl,b8,d,F⟩:=mkx NC.mono T j;obtain⟨bo,cb,b,rfl,b9,f,G⟩:=b6;have J:=Z.ext (l.trans j);have a5:a.length<=1099511627776:=by rw[d.len];exact L
 have b7:b.length<=1099511627776:=by rw[f.len];exact M
 have A:=l.trans j;have n:=hid d.len;have p:=hid f.len;clear hu hv T l j Z L M;go_wp2_with fail
 refine(a6g X ao bo a b ca cb w2 F G a5 r nb d f).mono ?_;rintro e w3 ⟨m,rfl⟩;have a2:=J.ext m;have B:=A.trans m;by_cases q:r<nb
 ·have hc:a2v r nb<0:=(a2W _ _).2 q
  have hd:Hid (decide (nb<=r)=false):=hid (decide_eq_false (by omega));have hz:Hid (r - nb=0):=hid (by omega);clear q;go_wp2_with fail
  go_ret2
  exact⟨B, .slice none 0 0,by rw[hd.out];rfl,by rw[hz.out];exact NC.zero _⟩
 ·have hc:¬a2v r nb<0:=fun h=>q ((a2W _ _).1 h)
  have hd:Hid (decide (nb<=r)=true):=hid (decide_eq_true (by omega));have a4:b.length<=a.length:=by rw[n.out,p.out];exact a0P (by omega)
  have b1:Hid (nv b<=nv a):=hid (by rw[d.2.2,f.2.2];omega);have S:Hid (nv a - nv b=r - nb):=hid (by rw[d.2.2,f.2.2]);have D:=d.1;have E:=f.1;have O:=F.mono (a0c.mono _) (a0k m);have Q:=G.mono (a0c.mono _) (a0k m);clear q d f m A J F G n p;go_wp2_with fail
  go_loopw [6,7,8] (fun v c i wr=>∃(k:Nat) (o:List Nat) (s:Nat) (oo:Option Addr) (W:Nat),i= .int .i64 k/\c= .int .u64 s/\v= .slice oo o.length W/\k<=a.length/\s<=1/\Hid (a2G a b o k s)/\o.length<=k/\OL (a0c .u32) 1 X w3.heap.size 110 wr oo W o/\Ext w3 wr) (fun _ _ i _=>a.length - (intOf i).toNat)
  case atStart=>exact⟨0,[],0,none,0,rfl,rfl,rfl,by omega,by omega,hid (a2G.start a b),by simp,OL.nil _ _ _ _ _ _,ExtX.refl _⟩
  case round=>
   obtain⟨k,o,s,oo,W,rfl,rfl,rfl,hk,a7,g,c1,Y,H⟩:=hrel;have a3:∀k,X k=true->k<wr.heap.size:=fun k hk=>Nat.lt_of_lt_of_le (a2 k hk) H.size;have C:w3.heap.size<=wr.heap.size:=H.size;by_cases q:k<a.length
   ·have N:=O.mono (a0c.mono _) (a0k H)
    have P:=Q.mono (a0c.mono _) (a0k H);have hx:=D.getD k;have hy:=E.getD k;rw[a0S]at hx hy;obtain⟨x,t⟩:∃x,a.getD k 0=x:=⟨_,rfl⟩;obtain⟨y,z⟩:∃y,b.getD k 0=y:=⟨_,rfl⟩;rw[t]at hx;rw[z]at hy;have b5:=hid (g.out.step t z D E);have R:=hid (a9Y hx hy a7);have K:a4S x y s<=1:=by unfold a4S;split<;>omega
    have U:=hid t;have V:=hid z;clear t z g;go_wp2_with fail
    refine(a2Y X ao a ca k _ N D (by omega) x U.out).mono ?_;rintro e w' ⟨rfl,rfl⟩;go_wp2_with fail
    refine(a2Y X bo b cb k _ P E (by omega) y V.out).mono ?_;rintro e w' ⟨rfl,rfl⟩;go_wp2_with (at_builtin;refine a3p a0F rfl (a0c.elem .u32) C a3 rfl rfl Y (.int .u32 ((a3D x y s:Nat):Int)) (a3D x y s) (by rw[<-R.out.1];simp[Value.cells];omega) rfl (by omega) (by omega) ?_;intro a0 I w5 a1 j _)
    have a6:Hid ((1:Int) - ((x:Int)+4294967296 - (y:Int) - (s:Int))/4294967296=((a4S x y s:Nat):Int)):=hid (by have:=R.out.2;omega);go_roundw
    case rel=>exact⟨k+1,_,a4S x y s,a0,I,by go_num,by rw[a6.out],by simp,by omega,K,b5,by simp;omega,a1,H.own Y (Nat.le_refl _) j⟩
    case measure=>simp[intOf];omega
   ·have a9:k=a.length:=by omega
    subst a9;have a8:=hid (g.out.done a4 b1.out);have b2:=g.out.2.1;have b4:=Y.sl (a0c.elem .u32);have b0:=Y.lenCap;go_wp2_with fail
    refine(a3O X _ _ _ _ b4 b2 (by omega) b0).mono ?_;rintro e w' ⟨rfl,l',rfl,c0,hc,b3⟩;go_wp2_with fail
    go_ret2
    rw[a8.out,S.out]at hc;exact⟨B.trans H,_,by rw[hd.out];rfl,oo,W,l',rfl,by omega,hc,b3⟩
theorem a9Z(X:Nat->Bool)(w:World)(u:Value)(n v b:Nat)(V:HX X w)(hu:NC (mk X w) u n)(Z:lg n<=549755813888)(hb:b<=549755813888)(hv:v<4294967296):Calls Tryz.prog 280 #[u, .int .u32 v, .int .i64 b] w (a1u X w NC (n*v*B^b)):=by
 obtain⟨ao,ca,a,rfl,a1,d,R⟩:=hu;have a0:a.length<=549755813888:=by rw[d.len];exact Z
 have j:=d.1;have N:=hid d.2.2;clear d Z;go_enter Tryz.func280,Tryz.ntmps280
 go_wp2_with (at_make;refine a1S a0F (a0c.elem .u32) 0 (fun _=>rfl) X V w.heap.size (Nat.le_refl _) b rfl rfl (by omega) (by omega) (by omega) ?_;intro oo w1 p z)
 go_loopw [7,8,9] (fun v_ c i wr=>∃(k:Nat) (o:List Nat) (r:Nat) (oo:Option Addr) (F:Nat),i= .int .i64 k/\c= .int .u64 r/\v_= .slice oo o.length F/\k<=a.length+1/\r<4294967296/\Hid (a3V a v b o k r)/\o.length<=b+k/\OL (a0c .u32) 1 X w.heap.size 110 wr oo F o/\Ext w wr) (fun _ _ i _=>a.length+1 - (intOf i).toNat)
 case atStart=>exact⟨0,_,0,oo,b,rfl,rfl,by simp,by omega,by omega,hid (a3V.start a v b),by simp,p,z⟩
 case round=>
  clear p z;obtain⟨k,o,r,U,F,rfl,rfl,rfl,Y,a2,f,a5,p,y⟩:=hrel;have J:∀k,X k=true->k<wr.heap.size:=fun k Y=>Nat.lt_of_lt_of_le (V k Y) y.size;have q:w.heap.size<=wr.heap.size:=y.size;by_cases a4:k<=a.length
  ·have D:=R.mono (a0c.mono _) (a0k y)
   have hx:=j.getD k;rw[a0S]at hx;obtain⟨x,l⟩:∃x,a.getD k 0=x:=⟨_,rfl⟩;rw[l]at hx;obtain⟨h,m⟩:=f.out.step l j hv;have E:=hid l;obtain⟨t,T⟩:∃t,x*v+r=t:=⟨_,rfl⟩;rw[T]at h m;have S:=hid h;have a6:IntKind.u64.wrap ((x:Int)*(v:Int))=(x:Int)*(v:Int):=IntWalk.u64_in _ (by rw[<-Int.natCast_mul];omega);have a7:IntKind.u64.wrap ((x:Int)*(v:Int)+(r:Int))=(t:Int):=by
    rw[<-T,Int.natCast_add,Int.natCast_mul];exact IntWalk.u64_in _ (by rw[<-Int.natCast_mul];omega)
   have A:t/4294967296<4294967296:=by omega
   have C:decide ((k:Int)<=(a.length:Int))=true:=decide_eq_true (by omega);clear l f h T m;go_wp2_with fail
   refine(a2Y X ao a ca k _ D j (by omega) x E.out).mono ?_;rintro e w' ⟨rfl,rfl⟩;go_wp2_with (at_builtin;refine a3p a0F rfl (a0c.elem .u32) q J rfl rfl p (.int .u32 ((t%4294967296:Nat):Int)) (t%4294967296) (by simp[Value.cells]) rfl (by omega) (by omega) ?_;intro G s w5 I H _)
   go_roundw
   case rel=>exact⟨k+1,_,t/4294967296,G,s,by go_num,by rw[Int.natCast_ediv];rfl,by simp,by omega,A,S,by simp;omega,I,y.own p (Nat.le_refl _) H⟩
   case measure=>simp[intOf];omega
  ·have L:k=a.length+1:=by omega
   subst L;have g:=f.out.done j hv;have K:=hid g.2;have O:=g.1;have Q:=p.sl (a0c.elem .u32);have M:=p.lenCap;have C:decide (((a.length+1:Nat):Int)<=(a.length:Int))=false:=decide_eq_false (by omega);clear g f;go_wp2_with fail
   refine(a3O X _ _ _ _ Q O (by omega) M).mono ?_;rintro e w' ⟨rfl,l',rfl,a3,W,P⟩;go_wp2_with fail
   go_ret
   rw[K.out,N.out]at W;exact⟨y,_,rfl,U,F,l',rfl,by omega,W,P⟩
theorem b1U(X:Nat->Bool)(w:World)(u v:Value)(a nb:Nat)(E:HX X w)(Q:NV (mk X w) u a)(R:NV (mk X w) v nb)(O:lg a<=274877906944)(P:lg nb<=274877906944):Calls Tryz.prog 203 #[u,v] w (a1u X w NC (a*nb)):=by
 go_enter Tryz.func203,Tryz.ntmps203
 go_wp2_with fail
 refine(a3c E Q).mono ?_;rintro e w1 ⟨d,Y,rfl,D⟩;go_wp2_with fail
 refine(a3c (E.ext d) (mkx NV.mono R d)).mono ?_;rintro e Z ⟨f,v1,rfl,M⟩;have L:=mkx NC.mono D f;obtain⟨bo,cb,b,rfl,U,c,z⟩:=M;have G:=E.ext (d.trans f);have T:b.length<=274877906944:=by rw[c.len];exact P
 have q:=d.trans f;have s:=c.1;have H:=hid c.2.2;have V:=z.hd;have h:=hid O;clear Q R D d f E P c O;go_wp2_with fail
 go_loopw [5,6] (fun o i wr=>∃(k:Nat),i= .int .i64 k/\k<=b.length/\NC (mk X wr) o (a*nv (b.take k))/\Ext Z wr) (fun _ i _=>b.length - (intOf i).toNat)
 case atStart=>exact⟨0,rfl,by omega,by simpa[nv]using NC.zero _,ExtX.refl _⟩
 case round=>
  obtain⟨k,rfl,hk,I,p⟩:=hrel;have r:=G.ext p;by_cases m:k<b.length
  ·have l:=(z.mono (a0c.mono _) (a0k p)).nat k m
   have hx:=s.get k m;obtain⟨x,n⟩:∃x,b[k]=x:=⟨_,rfl⟩;have J:Hid (a*nv (b.take k)+a*x*B^k=a*nv (b.take (k+1))):=hid (by rw[a0p b k m,n,Nat.mul_add,Nat.mul_assoc a x,Nat.mul_comm x]);rw[n]at l hx;rw[a0S]at hx;have K:Hid (lg (a*nv (b.take k))<=1099511627776):=hid (by
    have N:=a0N a (nv (b.take k));have S:lg (nv (b.take k))<=k:=a2n.2 (a1r s k);have:=h.out;omega)
   have A:Hid (lg (a*x*B^k)<=1099511627776):=hid (by
    have N:a*x*B^k<B^(lg a+1+k):=by
     rw[Nat.pow_add,Nat.pow_succ];refine Nat.mul_lt_mul_of_pos_right ?_ (Nat.pow_pos a2g);refine Nat.lt_of_le_of_lt (Nat.mul_le_mul_left _ (show x<=B by rw[a0S];omega)) (Nat.mul_lt_mul_of_pos_right (a2n.1 (Nat.le_refl _)) a2g)
    have S:=a2n.2 N;have:=h.out;omega)
   clear n;go_wp2_with (with_reducible refine a0n a0F (by omega) (by assumption) ?_)
   refine(a9Z X wr Y a x k r (mkx NC.mono L p) (by have:=h.out;omega) (by omega) hx).mono ?_;rintro e w4 ⟨j,t,rfl,W⟩;go_wp2_with fail
   refine(b1T (r.ext j) (mkx NV.mono (I.nv K.out) j) (W.nv A.out)).mono ?_;rintro e w5 ⟨F,t2,rfl,C⟩;rw[J.out]at C;go_wp2_with fail
   go_roundw
   case rel=>exact⟨k+1,by go_num,by omega,C,p.trans (j.trans F)⟩
   case measure=>simp[intOf];omega
  ·have y:k=b.length:=by omega
   have g:a*nv (b.take k)=a*nb:=by rw[y,List.take_length,H.out]
   rw[g]at I;clear g y;go_wp2_with fail
   go_ret
   exact⟨q.trans p,_,rfl,I⟩
end Go.Proofs.YtnnpfhoigmegcaaGreat
namespace Go.Rep
open Go.RowKit Go.Lim
theorem NC.lit{X:Nat->Bool}{w:World}(d:HX X w)(x:Nat)(t:TypeId)(a:0<x)(b:x<4294967296):NC (mk X (w.alloc (.cells #[.int .u32 (x:Int)] t))) (.slice (some ⟨w.heap.size,0,none⟩) 1 1) x:=by
 have c:OL (a0c .u32) 1 X w.heap.size t (w.alloc (.cells #[.int .u32 (x:Int)] t)) (some ⟨w.heap.size,0,none⟩) 1 [x]:=
  OL.lit (a0c.elem .u32) d (Nat.le_refl _) [.int .u32 (x:Int)] [x] _ (by simp[a0g,Value.cells]) rfl (fun i hi e=>by
   have:i=0:=by simp at hi;omega
   subst this;rfl) (by simp)
 exact⟨_,1,[x],rfl,Nat.le_refl _,a8p a b,c.sl (a0c.elem _)⟩
end Go.Rep
namespace Go.Proofs.YtnnpfhoigmegcaaGreat
open Go.RowKit Go.Rep Go.Lim
theorem b7S(X:Nat->Bool)(w:World)(u:Value)(n i:Nat)(D:NC (mk X w) u n)(hi:i<32*lg n)(C:lg n<=1099511627776):Calls Tryz.prog 323 #[u, .int .i64 i] w fun e E=>w=E/\e= .returned (.int .u32 (n/2^i%2:Nat)):=by
 obtain⟨ao,F,a,rfl,A,b,d⟩:=D;have h:i/32<a.length:=by rw[b.len];omega
 have z:a.length<=1099511627776:=by rw[b.len];exact C
 have c:=d.nat (i/32) h;have f:=b5T b i;rw[a0m h]at f;have hx:=b.1.get (i/32) h;obtain⟨x,g⟩:∃x,a[i/32]=x:=⟨_,rfl⟩;rw[g]at c f hx;rw[a0S]at hx;have G:=d.hd;have k:=hid f;have o:Hid (x<4294967296):=hid hx;have B:(i:Int)<=35184372088832:=by omega
 have v:(i:Int)/32=((i/32:Nat):Int):=by omega
 have y:(i:Int)%32=((i%32:Nat):Int):=by omega
 have j:Hid (i%32<32):=hid (Nat.mod_lt _ (by decide));obtain⟨p,r⟩:∃p,i/32=p:=⟨_,rfl⟩;obtain⟨q,hq⟩:∃q,i%32=q:=⟨_,rfl⟩;rw[r]at v h c;rw[hq]at y j;have s:q<32:=j.out;have l:Hid (x/2^q%2=n/2^i%2):=hid (by rw[<-hq];exact f);clear g f r hq k j b hx d;go_enter Tryz.func323,Tryz.ntmps323
 go_wp2_with (with_reducible refine a0n a0F (by omega) (by assumption) ?_)
 go_ret
 have m:x/2^q<4294967296:=Nat.lt_of_le_of_lt (Nat.div_le_self _ _) o.out;have t:=a1U (x/2^q) 1 m (by omega);rw[Nat.and_one_is_mod,l.out]at t;exact⟨rfl,a0y (by simpa using t)⟩
theorem a7C(X:Nat->Bool)(w:World)(u:Value)(n t:Nat)(m:HX X w)(p:NC (mk X w) u n)(s:lg n<=549755813887)(v:t<=1):Calls Tryz.prog 322 #[u, .int .u32 t] w (a1u X w NC (2*n+t)):=by
 have k:Hid (lg (n*2*B^0)<=1099511627776):=hid (by
  have q:=a0N n 2;have r:lg 2=1:=a1G (by omega) (by omega);rw[Nat.pow_zero,Nat.mul_one];omega)
 have j:Hid (lg 1<=1099511627776):=hid (by rw[a2O];decide);have f:Hid (n*2*B^0=2*n):=hid (by rw[Nat.pow_zero,Nat.mul_one,Nat.mul_comm]);go_enter Tryz.func322,Tryz.ntmps322
 go_wp2_with fail
 refine(a9Z X w u n 2 0 m p (by omega) (by omega) (by omega)).mono ?_;rintro e l ⟨a,y,rfl,b⟩;have d:=m.ext a;rcases(by omega:t=0\/t=1)with rfl|rfl
 ·rw[f.out]at b
  go_wp2_with fail
  go_ret
  exact⟨a,_,rfl,b⟩
 ·go_wp2_with fail
  have o:=NC.lit d 1 110 (by omega) (by omega);have h:=a.alloc (.cells #[.int .u32 ((1:Nat):Int)] 110);have c:Ext l (l.alloc (.cells #[.int .u32 ((1:Nat):Int)] 110)):=(ExtX.refl l).alloc _;refine(b1T (d.ext c) (mkx NV.mono (b.nv k.out) c) (o.nv j.out)).mono ?_;rintro e z ⟨i,x,rfl,g⟩;rw[f.out]at g;go_wp2_with fail
  go_ret
  exact⟨h.trans i,_,rfl,g⟩
theorem b5V(X:Nat->Bool)(w:World)(u v:Value)(na nb:Nat)(hX:HX X w)(hu:NV (mk X w) u na)(hv:NV (mk X w) v nb)(h1:lg na<=274877906944)(h2:lg nb<=274877906944)(h0:0<nb):Calls Tryz.prog 276 #[u,v] w (b7y X w (na/nb) (na%nb)):=by
 go_enter Tryz.func276,Tryz.ntmps276
 go_wp2_with fail
 refine(a3c hX hu).mono ?_;rintro e w1 ⟨hE1,u1,rfl,hu1⟩;go_wp2_with fail
 refine(a3c (hX.ext hE1) (mkx NV.mono hv hE1)).mono ?_;rintro e w2 ⟨hE2,v1,rfl,hv1⟩;have hu2:=mkx NC.mono hu1 hE2;obtain⟨ao,ca,a,rfl,hca,hcan,hsa⟩:=id hu2;obtain⟨bo,cb,b,rfl,hcb,hcbn,hsb⟩:=id hv1;have hX2:=hX.ext (hE1.trans hE2);have hal:a.length<=274877906944:=by rw[hcan.len];exact h1
 have hall:=hid hcan.len;have hE12:=hE1.trans hE2;have hbl:¬b.length=0:=by have:=a0R hcbn;omega
 have hbI:(0:Int)<(b.length:Int):=by omega
 have hbz:((b.length:Int)==0)=false:=a2S (by omega);have hst:Hid (a2q na nb 0 0 (32*a.length)):=hid (a2q.start (by rw[<-b1B,hcan.len];exact a2n.1 (Nat.le_refl _)));have h1':=hid h1;have h2':=hid h2;have h0':=hid h0;clear hu hv hu1 hE1 hE2 hX h1 h2 h0 hcan hcbn hsa hsb hbl hca hcb;go_wp2_with fail
 go_loopw [7,8,9] (fun q r i wr=>∃(k Q R:Nat) (x:Int),i= .int .i64 x/\x=(k:Int) - 1/\k<=32*a.length/\Hid (a2q na nb Q R k)/\NC (mk X wr) q Q/\NC (mk X wr) r R/\Ext w2 wr) (fun _ _ i _=>(intOf i+1).toNat)
 case atStart=>exact⟨32*a.length,0,0,_,rfl,by omega,by omega,hst,NC.zero _,NC.zero _,ExtX.refl _⟩
 case round=>
  obtain⟨k,Q,R,x,rfl,hx,hk,hinv,hq,hr,hE⟩:=hrel;have hX3:=hX2.ext hE;cases k with
  |zero=>
   obtain rfl:x= -1:=by omega
   obtain⟨rfl,rfl⟩:=hinv.out.done;clear hinv hx hst;go_wp2_with fail
   go_ret3
   exact⟨hE12.trans hE,_,_,rfl,hq,hr⟩
  |succ i=>
   obtain rfl:x=(i:Int):=by omega
   have hi:i<32*lg na:=by rw[<-hall.out];omega
   obtain⟨t,ht⟩:∃t,na/2^i%2=t:=⟨_,rfl⟩;have ht1:t<=1:=by omega
   obtain⟨hR,hs1,hs2⟩:=hinv.out.step h0'.out ht;have hQb:Hid (lg Q<=274877906944):=hid (by
    have e1:Q<=na:=by rw[hinv.out.1];exact Nat.le_trans (Nat.div_le_self _ _) (Nat.div_le_self _ _)
    exact Nat.le_trans (a0P e1) h1'.out)
   have hRb:Hid (lg R<=274877906944):=hid (Nat.le_trans (a0P (Nat.le_of_lt hR)) h2'.out);have hRb2:Hid (lg (2*R+t)<=1099511627776):=hid (by
    have e1:=a8o (2*R) t;have e2:=a0N 2 R;have e3:lg 2=1:=a1G (by omega) (by omega);have e4:lg t<=1:=by have:=a0P ht1;rw[a2O]at this;exact this
    have:=hRb.out;omega)
   have hs1':=hid hs1;have hs2':=hid hs2;have hbit:=b7S X wr _ na i (mkx NC.mono hu2 hE) hi (by have:=h1'.out;omega);rw[ht]at hbit;clear hinv hR hs1 hs2 hst ht hi hx;go_wp2_with fail
   refine hbit.mono ?_;rintro e w' ⟨rfl,rfl⟩;go_wp2_with fail
   refine(a7C X wr _ R t hX3 hr (by have:=hRb.out;omega) ht1).mono ?_;rintro e w4 ⟨hE4,r1,rfl,hr1⟩;have hX4:=hX3.ext hE4;have hq4:=mkx NC.mono hq hE4;have hb4:=(mkx NC.mono hv1 (hE.trans hE4)).nv (by have:=h2'.out;omega);clear hbit;go_wp2_with fail
   refine(b4k X w4 r1 _ (2*R+t) nb hX4 (hr1.nv hRb2.out) hb4).mono ?_;rintro e w5 ⟨hE5,d,rfl,hd⟩;have hX5:=hX4.ext hE5;have hq5:=mkx NC.mono hq4 hE5;by_cases hge:nb<=2*R+t
   ·have hi2:=hid (hs2'.out hge)
    have hdt:decide (nb<=2*R+t)=true:=decide_eq_true hge;rw[hdt];clear hge hdt;go_wp2_with fail
    refine(a7C X w5 _ Q 1 hX5 hq5 (by have:=hQb.out;omega) (by omega)).mono ?_;rintro e w6 ⟨hE6,q1,rfl,hq1⟩;go_wp2_with fail
    go_roundw
    case rel=>exact⟨i,_,_,_,rfl,rfl,by omega,hi2,hq1,mkx NC.mono hd hE6,hE.trans (hE4.trans (hE5.trans hE6))⟩
    case measure=>simp[intOf]
   ·have hi2:=hid (hs1'.out (by omega))
    have hdt:decide (nb<=2*R+t)=false:=decide_eq_false hge;rw[hdt];clear hge hdt;go_wp2_with fail
    refine(a7C X w5 _ Q 0 hX5 hq5 (by have:=hQb.out;omega) (by omega)).mono ?_;rintro e w6 ⟨hE6,q1,rfl,hq1⟩;go_wp2_with fail
    go_roundw
    case rel=>exact⟨i,_,_,_,rfl,rfl,by omega,hi2,hq1,mkx NC.mono hr1 (hE5.trans hE6),hE.trans (hE4.trans (hE5.trans hE6))⟩
    case measure=>simp[intOf]
theorem b5W(X:Nat->Bool)(w:World)(u v:Value)(s nb:Nat)(K:HX X w)(hu:NV (mk X w) u s)(hv:NV (mk X w) v nb)(Z:lg s<=274877906944)(h2:lg nb<=274877906944):Calls Tryz.prog 275 #[u,v] w (a1u X w NC (Nat.gcd s nb)):=by
 go_enter Tryz.func275,Tryz.ntmps275
 go_wp2_with fail
 refine(a3c K hu).mono ?_;rintro e w1 ⟨c,u1,rfl,I⟩;go_wp2_with fail
 refine(a3c (K.ext c) (mkx NV.mono hv c)).mono ?_;rintro e w2 ⟨g,v1,rfl,n⟩;have J:=mkx NC.mono I g;have O:=K.ext (c.trans g);have z:=c.trans g;have L:=hid Z;have M:=hid h2;clear hu hv I c g K Z h2;go_wp2_with fail
 go_loopw [0,1] (fun x y wr=>∃(p q:Nat) (t:Option Addr) (l o:Nat),y= .slice t l o/\NC (mk X wr) x p/\NC (mk X wr) (.slice t l o) q/\Hid (lg p<=274877906944)/\Hid (lg q<=274877906944)/\Hid (Nat.gcd p q=Nat.gcd s nb)/\Ext w2 wr) (fun _ y W=>b6U W y)
 case atStart=>
  obtain⟨t,o,b,rfl,_⟩:=id n;exact⟨s,nb,t,_,o,rfl,J,n,L,M,hid rfl,ExtX.refl _⟩
 case round=>
  obtain⟨p,q,t,l,o,rfl,hx,V,T,hq,R,N⟩:=hrel;have P:=O.ext N;obtain⟨a0,a1,b,B,Q,i,H⟩:=id V;simp only[Value.slice.injEq]at B;obtain⟨rfl,rfl,rfl⟩:=B;have C:=a0R i;have k:=a4l o H;rw[i.2.2]at k;have h:=hid k;clear k i H Q J n;by_cases hl:0<b.length
  ·have a:0<q:=by omega
   have S:(0:Int)<(b.length:Int):=by omega
   have U:Hid (Nat.gcd q (p%q)=Nat.gcd s nb):=hid (by rw[Nat.gcd_comm,<-Nat.gcd_rec,Nat.gcd_comm];exact R.out);have D:=hid (Nat.mod_lt p a);have F:=hid a;have hr:Hid (lg (p%q)<=274877906944):=hid (Nat.le_trans (a0P (Nat.le_of_lt D.out)) hq.out);clear C a;go_wp2_with fail
   refine(b5V X wr _ _ p q P (hx.nv (by have:=T.out;omega)) (V.nv (by have:=hq.out;omega)) T.out hq.out F.out).mono ?_;rintro e w4 ⟨A,d,r,rfl,hd,G⟩;obtain⟨ro,Y,rl,rfl,m⟩:=id G;have j:=a4l Y m.2.2;rw[m.2.1.2.2]at j;have E:=hid j;clear j m;go_wp2_with fail
   go_roundw
   case rel=>exact⟨q,p%q,ro,_,Y,rfl,mkx NC.mono V A,G,hq,hr,U,N.trans A⟩
   case measure=>rw[E.out,h.out];exact D.out
  ·have a:q=0:=by omega
   have f:=R.out;rw[a,Nat.gcd_zero_right]at f;have S:((b.length:Int))=0:=by omega
   rw[f]at hx;clear f a C R T h;go_wp2_with fail
   go_ret
   exact⟨z.trans N,_,rfl,hx⟩
end Go.Proofs.YtnnpfhoigmegcaaGreat
namespace Go.Rep
open Go.RowKit
def Bx(w:World)(b:Nat)(cs:Array Value)(T:TypeId):Prop:=w.heap[b]? =some (.cells cs T (0,0))
theorem Bx.lt{w:World}{b:Nat}{a:Array Value}{T:TypeId}(h:Bx w b a T):b<w.heap.size:=(Array.getElem?_eq_some_iff.1 h).1
theorem Bx.cell{w:World}{b:Nat}{a:Array Value}{T:TypeId}(h:Bx w b a T)(i:Nat){u:Value}(c:a[i]? =some u):w.cell? ⟨b,i,none⟩=some u:=by
 unfold Bx at h;unfold World.cell?;rw[h];simpa using c
theorem Bx.frozen{w:World}{b:Nat}{a:Array Value}{T:TypeId}(h:Bx w b a T)(i:Nat):w.frozen? ⟨b,i,none⟩=false:=by
 unfold Bx at h;unfold World.frozen?;rw[h];simp
theorem Bx.ext{Y:Nat->Bool}{w c:World}{b:Nat}{a:Array Value}{T:TypeId}(h:Bx w b a T)(d:ExtX Y w c)(e:Y b=false):Bx c b a T:=by
 unfold Bx;rw[d.block b h.lt e];exact h
theorem Bx.ext0{w c:World}{b:Nat}{a:Array Value}{T:TypeId}(h:Bx w b a T)(d:Ext w c):Bx c b a T:=h.ext d rfl
theorem Bx.new(w:World)(a:Array Value)(T:TypeId):Bx (w.alloc (.cells a T)) w.heap.size a T:=heap_alloc_new w _
theorem b0a(g:Nat):ob (some ⟨g,0,none⟩) g=true:=by simp[ob]
theorem a0b{g k:Nat}(h:k≠g):ob (some ⟨g,0,none⟩) k=false:=by
 cases a:ob (some ⟨g,0,none⟩) k
 ·rfl
 ·have e:g=k:=by simpa[ob]using a
  exact absurd e.symm h
theorem a0x{w:World}{b i:Nat}{a:Array Value}{T:TypeId}(h:Bx w b a T)(v:Value)(hi:i<a.size):Bx (w.setCell ⟨b,i,none⟩ v) b (a.set i v) T/\ExtX (ob (some ⟨b,0,none⟩)) w (w.setCell ⟨b,i,none⟩ v):=by
 unfold Bx at*;have f:b<w.heap.size:=(Array.getElem?_eq_some_iff.1 h).1;refine⟨?_,⟨rfl,rfl,rfl,?_,?_⟩⟩
 ·simp only[World.setCell,Array.getElem?_modify,if_true,h,Option.map_some]
  simp[hi,Array.setIfInBounds]
 ·simp[World.setCell]
 ·intro k _ d
  have c:b≠k:=fun e=>by subst e;rw[b0a]at d;simp at d
  simp only[World.setCell,Array.getElem?_modify,if_neg c]
theorem Bx.set2{w:World}{b:Nat}{f g:Value}{T:TypeId}(h:Bx w b #[f,g] T)(v0 v1:Value):Bx ((w.setCell ⟨b,0,none⟩ v0).setCell ⟨b,1,none⟩ v1) b #[v0,v1] T/\ExtX (ob (some ⟨b,0,none⟩)) w ((w.setCell ⟨b,0,none⟩ v0).setCell ⟨b,1,none⟩ v1):=by
 obtain⟨a,c⟩:=a0x h v0 (i:=0) (by simp);obtain⟨d,e⟩:=a0x a v1 (i:=1) (by simp);exact⟨by simpa using d,c.trans e⟩
theorem Bx.set3{w:World}{b:Nat}{j k l:Value}{T:TypeId}(h:Bx w b #[j,k,l] T)(v0 v1 v2:Value):Bx (((w.setCell ⟨b,0,none⟩ v0).setCell ⟨b,1,none⟩ v1).setCell ⟨b,2,none⟩ v2) b #[v0,v1,v2] T/\ExtX (ob (some ⟨b,0,none⟩)) w (((w.setCell ⟨b,0,none⟩ v0).setCell ⟨b,1,none⟩ v1).setCell ⟨b,2,none⟩ v2):=by
 obtain⟨a,c⟩:=a0x h v0 (i:=0) (by simp);obtain⟨d,e⟩:=a0x a v1 (i:=1) (by simp);obtain⟨f,g⟩:=a0x d v2 (i:=2) (by simp);exact⟨by simpa using f,(c.trans e).trans g⟩
section
variable {P:Program} {ops:Array Oper} {Q:Exit->Act->World->Prop} {rest:List Oper} {a:Act} {w:World}
variable {d:Option Tmp} {ty:TypeId} {ps:String} {af:Array Edge}
theorem a4z{t:TypeId}{n b:Nat}{c a:Array Value}{T:TypeId}(p:a1H P t n)(j:Bx w b c T)(f:c.size=n)(d:a.size=n)(g:∀v∈a.toList,v.oneCell'=true):∃i,(storeVar t ⟨b,0,none⟩ (.agg a)).run P w= .ok () i/\Bx i b a T/\ExtX (ob (some ⟨b,0,none⟩)) w i:=by
 obtain⟨r,ti,s,m,o⟩:=p;have h:=run_storeCells_at P b 0 T a.toList 0 c w j (by simp[f,d]) g;refine⟨w.setRow b (c.toList.take (0+0)++a.toList++c.toList.drop (0+0+a.toList.length)).toArray,?_,?_,?_⟩
 rotate_left
 ·unfold Bx
  have:=setRow_heap w b c (c.toList.take (0+0)++a.toList++c.toList.drop (0+0+a.toList.length)).toArray T (0,0) j;rw[this]
  congr 2
  have e:c.toList.drop (0+0+a.toList.length)= []:=List.drop_of_length_le (by simp[d,f]);rw[e];simp
 ·exact⟨rfl,rfl,rfl,by simp,fun k _ q=>setRow_other w b k _ (fun l=>by subst l;simp[ob]at q)⟩
 ·simp[storeVar,sizeOf,typeInfo,m,o,Value.cells,d]
  simp only[Nat.zero_add,Array.length_toList,List.take_zero,List.nil_append,d]at h |-;exact h
theorem a0a{t:TypeId}{x y:Operand}{n b:Nat}{j f:Array Value}{T:TypeId}(m:a1H P t n)(hx:a.eval x= .pointer (some ⟨b,0,none⟩))(q:a.eval y= .agg f)(o:Bx w b j T)(h:j.size=n)(i:f.size=n)(c:∀v∈f.toList,v.oneCell'=true)(K:∀e,Bx e b f T->ExtX (ob (some ⟨b,0,none⟩)) w e->wpList P ops Q rest (a.put d undef) e):wpList P ops Q (⟨d, .store t x y,ty,ps,af,none⟩::rest) a w:=by
 refine wpList_plain rfl fun r g=>?_;obtain⟨e,p,k,l⟩:=a4z (P:=P) m o h i c;unfold Oper.wp;simp[execOp,hx,q,Instr.storeAt,Instr.sureAddr,p,Result.andThen];exact g _ _ (K e k l)
theorem a2h{t:TypeId}{n b:Nat}{a:Array Value}{T:TypeId}(i:a1H P t n)(k:Bx w b a T)(c:a.size=n):(loadVar t ⟨b,0,none⟩).run P w= .ok (.agg a) w:=by
 obtain⟨m,ti,f,g,h⟩:=i;have e:=run_loadCells_list (P:=P) w ⟨b,0,none⟩ a.toList (fun j v l=>by
  rw[Addr.add_lit,Nat.zero_add];exact k.cell j (by simpa using l))
 have d:a.toList.length=n:=by simpa using c
 rw[d]at e;simp[loadVar,isAgg,run_underlying f,sizeOf,typeInfo,g,h,e]
theorem a3r{t:TypeId}{x:Operand}{n b:Nat}{c:Array Value}{T:TypeId}(g:a1H P t n)(hx:a.eval x= .pointer (some ⟨b,0,none⟩))(h:Bx w b c T)(f:c.size=n)(K:wpList P ops Q rest (a.put d (.agg c)) w):wpList P ops Q (⟨d, .load t x,ty,ps,af,none⟩::rest) a w:=by
 refine wpList_plain rfl fun j e=>?_;have i:=a2h (P:=P) g h f;unfold Oper.wp;simp[execOp,hx,Instr.loadAt,Instr.sureAddr,i,Result.andThen];exact e _ _ K
theorem a0d{fn:Func}{a:Array Value}{c:Tmp}{t:TypeId}{n b:Nat}{d:Array Value}{T:TypeId}(h:fn.results=#[.cell c t])(f:a.getD c undef= .pointer (some ⟨b,0,none⟩))(g:a1H P t n)(i:Bx w b d T)(e:d.size=n):(results fn a).run P w= .ok (.agg d) w:=by
 have j:=a2h (P:=P) g i e;rw[Array.getD_eq_getD_getElem?]at f;simp[results,h,f,asAddr,j]
theorem a0I{fn:Func}{a:Array Value}{c d:Tmp}{t:TypeId}{n b:Nat}{e:Array Value}{T:TypeId}(h:fn.results=#[.cell c t, .tmp d])(g:a.getD c undef= .pointer (some ⟨b,0,none⟩))(i:a1H P t n)(j:Bx w b e T)(f:e.size=n):(results fn a).run P w= .ok (.tuple #[.agg e,a.getD d undef]) w:=by
 have k:=a2h (P:=P) i j f;rw[Array.getD_eq_getD_getElem?]at g;simp[results,h,g,asAddr,k]
end
theorem a0J(w:World)(x:Array Value)(T:TypeId):∃W,w.alloc (.cells x T)=W/\Ext w W/\Bx W w.heap.size x T/\W.heap.size=w.heap.size+1:=
 ⟨_,rfl,(ExtX.refl w).alloc _,Bx.new w _ _,by simp⟩
theorem a0W(w:World)(x y:Array Value)(T U:TypeId):∃W,(w.alloc (.cells x T)).alloc (.cells y U)=W/\Ext w W/\Bx W w.heap.size x T/\Bx W (w.heap.size+1) y U/\W.heap.size=w.heap.size+2:=by
 obtain⟨W,b,c,d,e⟩:=a0J w x T;obtain⟨V,f,a,g,h⟩:=a0J W y U;exact⟨V,by rw[b,f],c.trans a,d.ext0 a,by rw[<-e];exact g,by omega⟩
theorem a1F(w:World)(x y z:Array Value)(T U S:TypeId):∃W,((w.alloc (.cells x T)).alloc (.cells y U)).alloc (.cells z S)=W/\Ext w W/\Bx W w.heap.size x T/\Bx W (w.heap.size+1) y U/\Bx W (w.heap.size+1+1) z S/\W.heap.size=w.heap.size+3:=by
 obtain⟨W,b,c,d,f,e⟩:=a0W w x y T U;obtain⟨V,g,a,h,i⟩:=a0J W z S;exact⟨V,by rw[b,g],c.trans a,d.ext0 a,f.ext0 a,by rw[<-e];exact h,by omega⟩
theorem b5X(w:World)(x y z u:Array Value)(T U S R:TypeId):∃W,(((w.alloc (.cells x T)).alloc (.cells y U)).alloc (.cells z S)).alloc (.cells u R)=W/\Ext w W/\Bx W w.heap.size x T/\Bx W (w.heap.size+1) y U/\Bx W (w.heap.size+1+1) z S/\Bx W (w.heap.size+1+1+1) u R/\W.heap.size=w.heap.size+4:=by
 obtain⟨W,b,c,d,f,g,e⟩:=a1F w x y z T U S;obtain⟨V,h,a,i,j⟩:=a0J W u R;exact⟨V,by rw[b,h],c.trans a,d.ext0 a,f.ext0 a,g.ext0 a,by rw[<-e];exact i,by omega⟩
end Go.Rep
namespace Go.Rep
open Go.RowKit Go.Lim
def ZV(h:Mem)(u:Value)(z:Int):Prop:=∃s ao c l,u= .agg #[.bool s, .slice ao l.length c]/\l.length<=c/\Dig l/\l.length<=549755813888/\Sl (a0c .u32) 1 h ao l/\a6q s l=z
def ZC(h:Mem)(u:Value)(z:Int):Prop:=∃s ao c l,u= .agg #[.bool s, .slice ao l.length c]/\l.length<=c/\a4x s l z/\Sl (a0c .u32) 1 h ao l
theorem ZV.mono:a2Q ZV:=by rintro h i u x g ⟨s,ao,c,l,rfl,a,b,d,e,f⟩;exact⟨s,ao,c,l,rfl,a,b,d,e.mono (a0c.mono _) g,f⟩
theorem ZC.mono:a2Q ZC:=by rintro h f u x e ⟨s,ao,c,l,rfl,a,b,d⟩;exact⟨s,ao,c,l,rfl,a,b,d.mono (a0c.mono _) e⟩
theorem ZC.zv{h:Mem}{u:Value}{z:Int}(f:ZC h u z)(e:lg z.natAbs<=549755813888):ZV h u z:=by
 obtain⟨s,ao,c,l,rfl,b,a,d⟩:=f;exact⟨s,ao,c,l,rfl,b,a.2.1,by rw[a.len];exact e,d,a.val⟩
theorem ZC.zero(h:Mem):ZC h (.agg #[.bool false, .slice none 0 0]) 0:=⟨false,none,0,[],rfl,Nat.le_refl _,a4x.zero,Sl.nil _ _ _ _⟩
theorem ZV.lg{h:Mem}{u:Value}{z:Int}(d:ZV h u z):lg z.natAbs<=549755813888:=by
 obtain⟨s,ao,c,l,rfl,e,a,b,f,rfl⟩:=d;exact Nat.le_trans (b4g s l a) b
end Go.Rep
namespace Go.Proofs.YtnnpfhoigmegcaaGreat
open Go.RowKit Go.Rep Go.Lim
theorem a5K(X:Nat->Bool)(w:World)(s:Bool)(ao:Option Addr)(c:Nat)(l:List Nat)(m:Sl (a0c .u32) 1 (mk X w) ao l)(o:l.length<=549755813888):Calls Tryz.prog 324 #[.agg #[.bool s, .slice ao l.length c]] w fun e j=>Ext w j/\e= .returned (.bool (a0U s l)):=by
 have h:Ext w (w.alloc (.cells #[.bool s, .slice ao l.length c] 39)):=(ExtX.refl w).alloc _;have a:=m.mono (a0c.mono _) (a0k h);have d:Hid (a0U s l=(a1i l&&(decide (0<l.length)|| !s))):=hid rfl;cases g:a1i l
 ·have i:Hid (a0U s l=false):=hid (by rw[d.out,g];rfl)
  have b:=hid g;clear g;go_enter Tryz.func324,Tryz.ntmps324
  go_wp2_with fail
  refine(a1z X _ _ _ _ a (by omega)).mono ?_;rintro e j ⟨rfl,rfl⟩;rw[b.out];go_wp2_with fail
  go_ret
  exact⟨h,a0q i.out.symm⟩
 ·have i:Hid (a0U s l=(decide (0<l.length)|| !s)):=hid (by rw[d.out,g];rfl)
  have b:=hid g;clear g;by_cases k:0<l.length
  ·have n:(0:Int)<(l.length:Int):=by omega
   have f:Hid (a0U s l=true):=hid (by rw[i.out,decide_eq_true k];rfl);go_enter Tryz.func324,Tryz.ntmps324
   go_wp2_with fail
   refine(a1z X _ _ _ _ a (by omega)).mono ?_;rintro e j ⟨rfl,rfl⟩;rw[b.out];go_wp2_with fail
   go_ret
   exact⟨h,a0q f.out.symm⟩
  ·have f:Hid (a0U s l= !s):=hid (by rw[i.out,decide_eq_false k];rfl)
   obtain rfl:l= []:=List.eq_nil_of_length_eq_zero (by omega);clear k i;simp only[List.length_nil]at h a |-;go_enter Tryz.func324,Tryz.ntmps324
   go_wp2_with fail
   refine(a1z X _ [] _ _ a (by simp)).mono ?_;rintro e j ⟨rfl,rfl⟩;rw[b.out];go_wp2_with fail
   go_ret
   exact⟨h,a0q f.out.symm⟩
theorem a0r:a1H Tryz.prog 39 2:=by
 have h:(Tryz.prog.info? 39).map (fun i=>(i.zero,i.size,i.bytes))=some (some (.agg #[.bool false, .slice none 0 0]),2,32):=by kernel_rfl
 obtain⟨ti,a,_,b,_⟩:=info_parts h;exact⟨_,ti,Tryz.underlying39,a,b⟩
theorem a2o(s:Bool)(ao:Option Addr)(n c:Nat):∀v∈(#[Value.bool s, .slice ao n c]:Array Value).toList,v.oneCell'=true:=by
 intro v a;simp at a;rcases a with rfl|rfl<;>rfl
def a0e(X:Nat->Bool)(lo nb:Nat):Nat->Bool:=fun k=>X k||(decide (lo<=k)&&decide (k<lo+nb))
theorem b4l{X:Nat->Bool}{lo nb k:Nat}(a:lo<=k)(b:k<lo+nb):a0e X lo nb k=true:=by simp[a0e,a,b]
theorem b0b{X:Nat->Bool}{lo nb k:Nat}(h:X k=true):a0e X lo nb k=true:=by simp[a0e,h]
theorem _root_.Go.Rep.HX.boxes{X:Nat->Bool}{w a:World}{nb:Nat}(h:HX X w)(hz:a.heap.size=w.heap.size+nb):HX (a0e X w.heap.size nb) a:=fun k b=>by
 by_cases hx:X k=true
 ·have:=h k hx;omega
 ·simp[a0e,hx]at b;omega
theorem _root_.Go.Rep.HX.boxes'{X:Nat->Bool}{w a:World}{b nb:Nat}(h:HX X w)(c:Ext w a)(e:b+nb<=a.heap.size)(_:w.heap.size+nb<=a.heap.size):HX (a0e X b nb) a:=fun k d=>by
 by_cases hx:X k=true
 ·exact Nat.lt_of_lt_of_le (h k hx) c.size
 ·simp[a0e,hx]at d;omega
theorem a0i{X:Nat->Bool}{w b:World}{nb:Nat}(c:Ext w b):Le (mk X w) (mk (a0e X w.heap.size nb) b):=
 a0Z c (fun k _ a=>by simp[noY]at a) fun k a hz=>by
  by_cases hx:X k=true
  ·exact hx
  ·simp[a0e,hx]at hz;omega
theorem a0h{X:Nat->Bool}{w:World}{lo nb:Nat}:Le (mk (a0e X lo nb) w) (mk X w):=a2T fun _ _ a=>b0b a
theorem a0f{X:Nat->Bool}{w a:World}{lo nb b:Nat}(f:ExtX (ob (some ⟨b,0,none⟩)) w a)(c:lo<=b)(d:b<lo+nb):Le (mk (a0e X lo nb) w) (mk (a0e X lo nb) a):=
 a0E f fun k g=>by
  have e:b=k:=by simpa[ob]using g
  subst e;exact b4l c d
theorem ExtX.box{a w c:World}{b:Nat}(h:Ext a w)(d:ExtX (ob (some ⟨b,0,none⟩)) w c)(e:a.heap.size<=b):Ext a c:=
 h.then_ d fun i hi _=>a0b (by omega)
theorem a1K{X:Nat->Bool}{w a:World}{b nb:Nat}{s t u v:Value}{T U:TypeId}(j:Bx a b #[s,t] T)(l:Bx a (b+1) #[u,v] U)(m:Ext w a)(n:w.heap.size<=b)(x:2<=nb)(v0 v1 u0 i:Value):∃c,((((a.setCell ⟨b,0,none⟩ v0).setCell ⟨b,1,none⟩ v1).setCell ⟨b+1,0,none⟩ u0).setCell ⟨b+1,1,none⟩ i)=c/\Bx c b #[v0,v1] T/\Bx c (b+1) #[u0,i] U/\(∀k f V,k≠b->k≠b+1->Bx a k f V->Bx c k f V)/\Ext w c/\Le (mk (a0e X b nb) a) (mk (a0e X b nb) c):=by
 obtain⟨q,d⟩:=j.set2 v0 v1;have g:=l.ext d (a0b (by omega));obtain⟨r,e⟩:=g.set2 u0 i;refine⟨_,rfl,q.ext e (a0b (by omega)),r,fun k f V o p h=>(h.ext d (a0b o)).ext e (a0b p),ExtX.box (ExtX.box m d n) e (by omega),(a0f d (Nat.le_refl _) (by omega)).trans (a0f e (by omega) (by omega))⟩
theorem a4A(X:Nat->Bool)(w:World)(u:Value)(z:Int)(D:HX X w)(H:ZV (mk X w) u z):Calls Tryz.prog 282 #[u] w (a1u X w ZC z):=by
 obtain⟨s,ao,c,l,rfl,A,B,y,C,rfl⟩:=H;obtain⟨W,m⟩:∃W,(w.alloc (.cells #[.bool s, .slice ao l.length c] 39)).alloc (.cells #[.bool false, .slice none 0 0] 39)=W:=⟨_,rfl⟩;have r:Ext w W:=by rw[<-m];exact((ExtX.refl w).alloc _).alloc _
 have k:Bx W w.heap.size #[.bool s, .slice ao l.length c] 39:=by
  rw[<-m];exact(Bx.new w _ _).ext0 ((ExtX.refl _).alloc _)
 have n:Bx W (w.heap.size+1) #[.bool false, .slice none 0 0] 39:=by
  rw[<-m];have:=Bx.new (w.alloc (.cells #[.bool s, .slice ao l.length c] 39)) #[.bool false, .slice none 0 0] 39;simpa using this
 have hz:W.heap.size=w.heap.size+2:=by rw[<-m];simp
 have f:Sl (a0c .u32) 1 (mk (a0e X w.heap.size 2) W) ao l:=C.mono (a0c.mono _) (a0i r);obtain⟨b,F⟩:∃b,w.heap.size=b:=⟨_,rfl⟩;have G:w.heap.size<=b:=by omega
 have E:HX X w:=D;rw[F]at k n hz f;have p:=k.cell 0 rfl;have q:=k.cell 1 rfl;cases j:a0U s l
 ·have x:=hid (a4y j)
  have g:=hid j;clear j;go_enter Tryz.func282,Tryz.ntmps282
  go_wp2_with fail
  refine(a5K (a0e X b 2) W s ao c l f y).mono ?_;rintro e I ⟨a,rfl⟩;rw[g.out];have h:=n.ext0 a;clear p q;go_wp2_with ((with_reducible show wpList _ _ _ (⟨_, .store _ _ _,_,_,_,_⟩::_) _ _);refine a0a a0r rfl rfl h rfl rfl (a2o _ _ _ _) ?_;intro J o d)
  exact bodyPost_ret (a0d rfl rfl a0r o rfl) rfl ⟨ExtX.box (r.trans a) d (by omega),_,rfl,by rw[x.out];exact ZC.zero _⟩
 ·have g:=hid j
  clear j;go_enter Tryz.func282,Tryz.ntmps282
  go_wp2_with fail
  refine(a5K (a0e X b 2) W s ao c l f y).mono ?_;rintro e I ⟨a,rfl⟩;rw[g.out];have i:=k.ext0 a;have h:=n.ext0 a;have t:=f.mono (a0c.mono _) (a0k a);clear p q;have p:=i.cell 0 rfl;have q:=i.cell 1 rfl;go_wp2_with ((with_reducible show wpList _ _ _ (⟨_, .store _ _ _,_,_,_,_⟩::_) _ _);refine a0a a0r rfl rfl h rfl rfl (a2o _ _ _ _) ?_;intro J o d)
  have v:=(t.mono (a0c.mono _) (a0f d (by omega) (by omega))).mono (a0c.mono _) a0h;exact bodyPost_ret (a0d rfl rfl a0r o rfl) rfl ⟨ExtX.box (r.trans a) d (by omega),_,rfl,s,ao,c,l,rfl,A,a4x.of_valid B g.out,v⟩
end Go.Proofs.YtnnpfhoigmegcaaGreat
namespace Go.Lim
def sg(s:Bool)(n:Nat):Int:=if s then -(n:Int)else n
theorem b0c{s:Bool}{l:List Nat}{n:Nat}(h:a0w l n):a4x (s&&decide (0<l.length)) l (sg s n):=by
 have a:=a0R h;unfold sg;cases s
 ·refine⟨?_,by simpa using h⟩;simp
 ·refine⟨?_,by simpa using h⟩
  rw[Bool.true_and,Bool.eq_iff_iff];simp only[decide_eq_true_eq,if_true];omega
theorem a5L(s:Bool)(n:Nat):(sg s n).natAbs=n:=by unfold sg;split<;>simp
theorem a3E{s:Bool}{l:List Nat}{z:Int}(h:a4x s l z):sg s z.natAbs=z:=by
 unfold sg;rw[h.1];by_cases hz:z<0
 ·simp only[hz,decide_true,if_true];omega
 ·simp only[hz,decide_false,Bool.false_eq_true,if_false];omega
end Go.Lim
namespace Go.Proofs.YtnnpfhoigmegcaaGreat
open Go.RowKit Go.Rep Go.Lim
theorem a2i(X:Nat->Bool)(w:World)(s:Bool)(u:Value)(n:Nat)(_:HX X w)(v:NC (mk X w) u n):Calls Tryz.prog 292 #[.bool s,u] w (a1u X w ZC (sg s n)):=by
 obtain⟨ao,c,l,rfl,i,p,q⟩:=v;obtain⟨W,m⟩:∃W,w.alloc (.cells #[.bool false, .slice none 0 0] 39)=W:=⟨_,rfl⟩;have j:Ext w W:=by rw[<-m];exact(ExtX.refl w).alloc _
 have h:Bx W w.heap.size #[.bool false, .slice none 0 0] 39:=by rw[<-m];exact Bx.new w _ _
 have e:Sl (a0c .u32) 1 (mk (a0e X w.heap.size 1) W) ao l:=q.mono (a0c.mono _) (a0i j);obtain⟨b,r⟩:∃b,w.heap.size=b:=⟨_,rfl⟩;have t:w.heap.size<=b:=by omega
 rw[r]at h e;have d:Hid (a4x (s&&decide (0<l.length)) l (sg s n)):=hid (b0c p);cases s
 ·rw[Bool.false_and]at d
  go_enter Tryz.func292,Tryz.ntmps292
  go_wp2_with ((with_reducible show wpList _ _ _ (⟨_, .store _ _ _,_,_,_,_⟩::_) _ _);refine a0a a0r rfl rfl h rfl rfl (a2o _ _ _ _) ?_;intro o g a)
  have f:=(e.mono (a0c.mono _) (a0f a (by omega) (by omega))).mono (a0c.mono _) a0h;exact bodyPost_ret (a0d rfl rfl a0r g rfl) rfl ⟨ExtX.box j a (by omega),_,rfl,_,ao,c,l,rfl,i,d.out,f⟩
 ·rw[Bool.true_and]at d
  by_cases k:0<l.length
  ·rw[decide_eq_true k]at d
   go_enter Tryz.func292,Tryz.ntmps292
   go_wp2_with ((with_reducible show wpList _ _ _ (⟨_, .store _ _ _,_,_,_,_⟩::_) _ _);refine a0a a0r rfl rfl h rfl rfl (a2o _ _ _ _) ?_;intro o g a)
   have f:=(e.mono (a0c.mono _) (a0f a (by omega) (by omega))).mono (a0c.mono _) a0h;exact bodyPost_ret (a0d rfl rfl a0r g rfl) rfl ⟨ExtX.box j a (by omega),_,rfl,_,ao,c,l,rfl,i,d.out,f⟩
  ·rw[decide_eq_false k]at d
   obtain rfl:l= []:=List.eq_nil_of_length_eq_zero (by omega);clear k;simp only[List.length_nil]at i d e |-;go_enter Tryz.func292,Tryz.ntmps292
   go_wp2_with ((with_reducible show wpList _ _ _ (⟨_, .store _ _ _,_,_,_,_⟩::_) _ _);refine a0a a0r rfl rfl h rfl rfl (a2o _ _ _ _) ?_;intro o g a)
   have f:=(e.mono (a0c.mono _) (a0f a (by omega) (by omega))).mono (a0c.mono _) a0h;exact bodyPost_ret (a0d rfl rfl a0r g rfl) rfl ⟨ExtX.box j a (by omega),_,rfl,_,ao,c,[],rfl,i,d.out,f⟩
theorem b4m(X:Nat->Bool)(w:World)(u:Value)(z:Int)(hX:HX X w)(hu:ZC (mk X w) u z)(hn:lg z.natAbs<=549755813888):Calls Tryz.prog 327 #[u] w (a1u X w ZC z):=by
 obtain⟨s,ao,c,l,rfl,V,o,Y⟩:=hu;obtain⟨W,p⟩:∃W,(w.alloc (.cells #[.bool s, .slice ao l.length c] 39)).alloc (.cells #[.bool false, .slice none 0 0] 39)=W:=⟨_,rfl⟩;have D:Ext w W:=by rw[<-p];exact((ExtX.refl w).alloc _).alloc _
 have k:Bx W w.heap.size #[.bool s, .slice ao l.length c] 39:=by
  rw[<-p];exact(Bx.new w _ _).ext0 ((ExtX.refl _).alloc _)
 have g:Bx W (w.heap.size+1) #[.bool false, .slice none 0 0] 39:=by
  rw[<-p];have:=Bx.new (w.alloc (.cells #[.bool s, .slice ao l.length c] 39)) #[.bool false, .slice none 0 0] 39;simpa using this
 have hz:W.heap.size=w.heap.size+2:=by rw[<-p];simp
 have i:HX (a0e X w.heap.size 2) W:=hX.boxes hz;have n:NV (mk (a0e X w.heap.size 2) W) (.slice ao l.length c) z.natAbs:=⟨ao,c,l,rfl,V,o.2.1,by rw[o.len];omega,Y.mono (a0c.mono _) (a0i D),o.2.val⟩;obtain⟨b,hb⟩:∃b,w.heap.size=b:=⟨_,rfl⟩;have a0:w.heap.size<=b:=by omega
 rw[hb]at k g hz i n;have I:=k.cell 0 rfl;have J:=k.cell 1 rfl;have y:=hid (a3E o);have v:∀M,NV M (.slice none 0 0) 0:=fun M=>⟨none,0,[],rfl,Nat.le_refl _,Dig.nil,by simp,Sl.nil _ _ _ _,by simp[val,vl,nv]⟩;go_enter Tryz.func327,Tryz.ntmps327
 go_wp2_with fail
 have K:=g.cell 0 rfl;have L:=g.cell 1 rfl;have N:=g.frozen 0;have O:=g.frozen 1;have d:Ext W W.drew:=(ExtX.refl W).drew;have j:Hid (∀W',Ext W.drew W'->W'.cell? ⟨b,0,none⟩=some (.bool s)/\W'.cell? ⟨b,1,none⟩=some (.slice ao l.length c)/\W'.cell? ⟨b+1,0,none⟩=some (.bool false)/\W'.cell? ⟨b+1,1,none⟩=some (.slice none 0 0)/\W'.frozen? ⟨b+1,0,none⟩=false/\W'.frozen? ⟨b+1,1,none⟩=false):=
  hid fun W' h=>⟨(k.ext0 (d.trans h)).cell 0 rfl,(k.ext0 (d.trans h)).cell 1 rfl,(g.ext0 (d.trans h)).cell 0 rfl,(g.ext0 (d.trans h)).cell 1 rfl,(g.ext0 (d.trans h)).frozen 0,(g.ext0 (d.trans h)).frozen 1⟩
 go_region_held3 (fun H=>H.cell? ⟨b,0,none⟩=some (.bool s)/\H.cell? ⟨b,1,none⟩=some (.slice ao l.length c))
  (first|exact⟨(j.out _ a).1,(j.out _ a).2.1⟩|exact⟨(j.out _ (a.trans f)).1,(j.out _ (a.trans f)).2.1⟩|go_keep)
  (first|(go_at_call 166;refine(b6V (X:=a0e X b 2) (w:=W.drew) i n (v _)).mono ?_;rintro e w5 ⟨a,u5,rfl,A⟩)|(go_at_call 292;refine(a2i (a0e X b 2) w5 s u5 (z.natAbs+0) (HX.ext (w:=W.drew) i a) A).mono ?_;rintro e w6 ⟨f,u6,rfl,G,B,C,E,rfl,q,m,r⟩;obtain⟨P,Q,R,S,T,U⟩:=j.out w6 (a.trans f)))
 obtain⟨r1,F⟩:=(g.ext0 ((d.trans a).trans f)).set2 (.bool G) (.slice B E.length C);have Z:=(r.mono (a0c.mono _) (a0f F (by omega) (by omega))).mono (a0c.mono _) a0h;have x:sg s (z.natAbs+0)=z:=y.out;rw[x]at m;have t:Ext w _:=ExtX.box (D.trans ((d.trans a).trans f)) F (by omega);clear I J K L N O j P Q R S T U;go_wp2_with fail
 exact bodyPost_ret (a0d rfl rfl a0r r1 rfl) rfl ⟨t,_,rfl,G,B,C,E,rfl,q,m,Z⟩
end Go.Proofs.YtnnpfhoigmegcaaGreat
