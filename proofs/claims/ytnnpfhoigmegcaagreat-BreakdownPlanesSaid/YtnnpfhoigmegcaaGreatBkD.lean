/- Parts of a proof: each theorem states what it proves, and its conditions. -/
import Derived.Test.YtnnpfhoigmegcaaGreatBkC
import Derived.Lib.BitFns
import Derived.StillTailTactics
import Derived.Lib.Strings
import Derived.Lib.Slices
import Derived.Lib.Small
import Derived.Lib.Walk
import Derived.Laws.CopyRow
set_option maxRecDepth 100000
set_option maxHeartbeats 4000000
namespace Go.Proofs.YtnnpfhoigmegcaaGreat
open Go.RowKit Go.Rep Go.Lim
theorem a7l:Lib.len8tab.size=256:=by decide+kernel
theorem b5J:∀n:Fin 256,(Lib.len8tab[n.val]'(by rw[a7l];exact n.isLt)).toNat=Lib.bitLen n.val:=by decide+kernel
theorem a9B(i:Nat)(h:i<Lib.len8tab.size):(Lib.len8tab[i]).toNat=Lib.bitLen i:=b5J ⟨i,by rw[a7l]at h;exact h⟩
theorem b5K(b:Nat)(h:b<=64):wrap64 (b:Int)=b:=by unfold wrap64;omega
theorem b1q(k b:Nat)(h:b<=64)(a:k<=64):wrap64 ((k:Int)+wrap64 (b:Int))=((k+b:Nat):Int):=by rw[b5K b h];unfold wrap64;omega
theorem b8Z(x:Int)(_:0<=x)(h:16777216<=x)(b:x<=4294967295)(c:(x/65536/256).toNat<Lib.len8tab.size)(n:Int)(a:n=24):wrap64 (n+wrap64 ((Lib.len8tab[(x/65536/256).toNat].toNat:Nat):Int))=(Lib.bitLen x.toNat:Int):=by
 subst a;rw[a9B];have e:(x/65536/256).toNat=x.toNat/16777216:=by omega
 rw[e,Lib.bitLen_shift24 x.toNat (by omega) (by omega)];exact b1q 24 _ (Nat.le_trans (Lib.bitLen_le _ 8 (by omega) (by omega)) (by omega)) (by omega)
theorem b9a(x:Int)(_:0<=x)(h:65536<=x)(b:x<16777216)(c:(x/65536).toNat<Lib.len8tab.size)(n:Int)(a:n=16):wrap64 (n+wrap64 ((Lib.len8tab[(x/65536).toNat].toNat:Nat):Int))=(Lib.bitLen x.toNat:Int):=by
 subst a;rw[a9B];have e:(x/65536).toNat=x.toNat/65536:=by omega
 rw[e,Lib.bitLen_shift16 x.toNat (by omega) (by omega)];exact b1q 16 _ (Nat.le_trans (Lib.bitLen_le _ 8 (by omega) (by omega)) (by omega)) (by omega)
theorem b9b(x:Int)(_:0<=x)(h:256<=x)(b:x<65536)(c:(x/256).toNat<Lib.len8tab.size)(n:Int)(a:n=8):wrap64 (n+wrap64 ((Lib.len8tab[(x/256).toNat].toNat:Nat):Int))=(Lib.bitLen x.toNat:Int):=by
 subst a;rw[a9B];have e:(x/256).toNat=x.toNat/256:=by omega
 rw[e,Lib.bitLen_shift8 x.toNat (by omega) (by omega)];exact b1q 8 _ (Nat.le_trans (Lib.bitLen_le _ 8 (by omega) (by omega)) (by omega)) (by omega)
theorem b9c(x:Int)(a:0<=x)(b:x<256)(c:x.toNat<Lib.len8tab.size):wrap64 (wrap64 ((Lib.len8tab[x.toNat].toNat:Nat):Int))=(Lib.bitLen x.toNat:Int):=by
 rw[a9B];have:=Lib.bitLen_le x.toNat 8 (by omega) (by omega);rw[b5K _ (by omega),b5K _ (by omega)]
theorem b1r(x:Int)(w:World)(a:0<=x)(b:x<=4294967295):Calls Tryz.prog 336 #[.int .u32 x] w fun e c=>e= .returned (.int .i64 (Lib.bitLen x.toNat))/\c=w:=by
 have d:=a7l;go_enter Tryz.func336,Tryz.ntmps336
 go_wp2
 ·go_ret
  exact⟨congrArg Ending.returned (congrArg (Value.int IntKind.i64) (b8Z x a (by omega) b _ _ rfl)),rfl⟩
 ·go_ret
  exact⟨congrArg Ending.returned (congrArg (Value.int IntKind.i64) (b9a x a (by omega) (by omega) _ _ rfl)),rfl⟩
 ·go_ret
  exact⟨congrArg Ending.returned (congrArg (Value.int IntKind.i64) (b9b x a (by omega) (by omega) _ _ rfl)),rfl⟩
 ·go_ret
  exact⟨congrArg Ending.returned (congrArg (Value.int IntKind.i64) (b9c x a (by omega) _)),rfl⟩
def lz(x:Nat):Nat:=32 - Lib.bitLen x
theorem a3U:∀(f x:Nat),0<x->x<2^f->2^(Lib.bitLenAux f x)<=2*x/\x<2^(Lib.bitLenAux f x)/\Lib.bitLenAux f x<=f
 |0,x,h,h2=>by simp at h2;omega
 |f+1,x,h,h2=>by
  simp only[Lib.bitLenAux];rw[if_neg (by omega)];by_cases h1:x=1
  ·subst h1
   have:Lib.bitLenAux f (1/2)=0:=by cases f<;>simp[Lib.bitLenAux]
   rw[this];simp
  ·obtain⟨a,b,c⟩:=a3U f (x/2) (by omega) (by rw[Nat.pow_succ]at h2;omega)
   rw[Nat.add_comm 1,Nat.pow_succ];exact⟨by omega,by omega,by omega⟩
theorem b5L{x:Nat}(f:0<x)(i:x<4294967296):lz x<32/\4294967296<=2*(x*2^lz x)/\x*2^lz x<4294967296:=by
 obtain⟨a,b,c⟩:=a3U 64 x f (by omega);have g:Lib.bitLen x<=32:=Lib.bitLen_le x 32 (by omega) (by omega);have d:1<=Lib.bitLen x:=by
  by_cases h:Lib.bitLen x=0
  ·unfold Lib.bitLen at h;rw[h]at b;simp at b;omega
  ·omega
 change 2^Lib.bitLen x<=2*x at a
 change x<2^Lib.bitLen x at b
 have e:2^Lib.bitLen x*2^lz x=4294967296:=by rw[<-Nat.pow_add];unfold lz;rw[show Lib.bitLen x+(32 - Lib.bitLen x)=32 by omega]
 refine⟨by unfold lz;omega,?_,?_⟩
 ·rw[<-e,<-Nat.mul_assoc];exact Nat.mul_le_mul_right _ a
 ·rw[<-e];exact Nat.mul_lt_mul_of_pos_right b (Nat.two_pow_pos _)
theorem b7i(x:Nat)(w:World)(c:0<x)(d:x<4294967296):Calls Tryz.prog 329 #[.int .u32 x] w fun e a=>w=a/\e= .returned (.int .i64 (lz x:Nat)):=by
 have b:Lib.bitLen x<=32:=Lib.bitLen_le x 32 (by omega) (by omega);have hz:Hid ((32:Int) - (Lib.bitLen x:Nat)=(lz x:Nat)):=hid (by unfold lz;omega);go_enter Tryz.func329,Tryz.ntmps329
 go_wp2_with fail
 refine(b1r (x:Int) w (by omega) (by omega)).mono ?_;rintro e a ⟨rfl,rfl⟩;rw[Int.toNat_natCast];go_wp2_with fail
 go_ret
 exact⟨rfl,a0I hz.out⟩
theorem a4T(k:IntKind):∀(h a:Mem) (u:Value) (x:Nat),a0b k h u x->a0b k a u x:=fun _ _ _ _ h=>h
theorem _root_.Go.Rep.OL.remask{α:Type}{R:Mem->Value->α->Prop}{sz:Nat}{X Z:Nat->Bool}{a:Nat}{e:TypeId}{w:World}{ao:Option Addr}{b:Nat}{l:List α}(c:∀h f u x,R h u x->R f u x)(h:OL R sz X a e w ao b l)(hz:∀k,ob ao k=true->Z k=false):OL R sz Z a e w ao b l:=by
 obtain⟨_,us,g,j,m,n,o⟩:=h;exact⟨hz,us,g,j,m,n,fun i hi d=>c _ _ _ _ (o i hi d)⟩
theorem _root_.Go.Rep.OL.skip{α:Type}{R:Mem->Value->α->Prop}{sz:Nat}{X Y:Nat->Bool}{a:Nat}{e:TypeId}{w d:World}{ao:Option Addr}{b:Nat}{l:List α}(i:Elem R sz)(c:∀h f u x,R h u x->R f u x)(h:OL R sz X a e w ao b l)(g:ExtX Y w d)(hd:∀k,ob ao k=true->Y k=false):OL R sz X a e d ao b l:=
 ((h.remask c (Z:=Y) hd).ext i g (Z:=Y) (fun _ _ h=>h) (fun _ _ h=>h)).remask c h.1
theorem a5A{g k:Nat}(h:ob (some ⟨g,0,none⟩) k=true):k=g:=by
 have e:g=k:=by simpa[ob]using h
 exact e.symm
theorem b3o{g k:Nat}(h:k≠g):ob (some ⟨g,0,none⟩) k=false:=by
 cases a:ob (some ⟨g,0,none⟩) k
 ·rfl
 ·exact absurd (a5A a) h
theorem _root_.Go.Rep.OL.at_block{α:Type}{R:Mem->Value->α->Prop}{sz:Nat}{X:Nat->Bool}{a:Nat}{e:TypeId}{w:World}{ao:Option Addr}{b:Nat}{l:List α}(h:OL R sz X a e w ao b l)(i:0<l.length):∃g,ao=some ⟨g,0,none⟩/\a<=g/\g<w.heap.size:=by
 rcases h.form with⟨_,_,rfl⟩|⟨g,c,rfl,d,f,_⟩
 ·simp at i
 ·exact⟨g,rfl,d,(Array.getElem?_eq_some_iff.1 f).1⟩
theorem _root_.Go.Rep.st_win{P:Program}{ops:Array Oper}{Q:Exit->Act->World->Prop}{rest:List Oper}{a:Act}{w:World}{d:Option Tmp}{ty:TypeId}{ps:String}{af:Array Edge}{t e f:Nat}{z:Value}{x lo c:Operand}{p q:IntKind}{m n:Int}{g len b:Nat}(T:SliceT P t e 1 f z)(i j:Nat)(hx:a.eval x= .slice (some ⟨g,0,none⟩) len b)(l:a.eval lo= .int p m)(v:m=(i:Int))(k:a.eval c= .int q n)(y:n=(j:Int))(s:i<j)(u:j<=b)(K:wpList P ops Q rest (a.put d (.slice (some ⟨g,i,none⟩) (j - i) (b - i))) w):wpList P ops Q (⟨d, .slice t x (some lo) (some c) none,ty,ps,af,none⟩::rest) a w:=by
 refine wpList_plain rfl fun A h=>?_;subst v;subst y;have o:=a7O (P:=P) (ao:=some ⟨g,0,none⟩) T len b p q i j (by omega) u w;have r:a0L (some ⟨g,0,none⟩) i b 1=some ⟨g,i,none⟩:=by
  have:¬b=i:=by omega
  simp[a0L,this,Addr.add_lit]
 rw[r]at o;unfold Oper.wp;simp[execOp,hx,l,k,o,Result.andThen];exact h _ _ K
def b8h(X:Nat->Bool)(w:World)(q r:Nat)(e:Ending)(w':World):Prop:=
 Ext w w'/\∃ao cap l bo cbp m,e= .returned (.tuple #[.slice ao l.length cap, .slice bo m.length cbp])/\l.length<=cap/\a0F l q/\Sl (a0b .u32) 1 (mk X w') ao l/\m.length<=cbp/\a0F m r/\Sl (a0b .u32) 1 (mk X w') bo m
theorem b0q(X:Nat->Bool)(ao bo:Option Addr)(a b:List Nat)(ca cb:Nat)(w:World)(hsa:Sl (a0b .u32) 1 (mk X w) ao a)(hsb:Sl (a0b .u32) 1 (mk X w) bo b)(na nb:Nat)(hca:a0F a na)(hcb:a0F b nb)(hle:nb<=na)(hb2:2<=b.length)(hal:a.length<=1099511627776)(hX:∀k,X k=true->k<w.heap.size):Calls Tryz.prog 300 #[.slice ao a.length ca, .slice bo b.length cb] w (b8h X w (na/nb) (na%nb)):=by
 have hhb:=hsb.hd;have hcbl:=hsb.nat (b.length - 1) (by omega);have hbl:b.length<=a.length:=by rw[hca.len,hcb.len];exact a0Y hle
 obtain⟨t,ht⟩:∃t,b[b.length - 1]'(by omega)=t:=⟨_,rfl⟩;have htB:=hcb.1.get (b.length - 1) (by omega);have ht0:t≠0:=by
  have:=hcb.2.1;rw[a2V (by omega)]at this;rw[<-ht];simpa using this
 rw[ht]at hcbl;rw[ht,a1b]at htB;obtain⟨s,hs⟩:∃s,lz t=s:=⟨_,rfl⟩;have hlz:=b5L (show 0<t by omega) htB;rw[hs]at hlz;obtain⟨hs32,hn1,hn2⟩:=hlz;have ht':=hid ht;have hlz1:=hid hn1;have hlz2:=hid hn2;have hlzc:∀W,Calls Tryz.prog 329 #[.int .u32 t] W fun e w'=>W=w'/\e= .returned (.int .i64 (s:Nat)):=fun W=>by rw[<-hs];exact b7i t W (by omega) htB
 clear hn1 hn2 ht;go_enter Tryz.func300,Tryz.ntmps300
 go_wp2_with (first|(with_reducible refine a0m a0M (by omega) (by assumption) ?_)|(go_at_call 329;refine(hlzc _).mono ?_;rintro e w' ⟨rfl,rfl⟩))
 clear hs hlzc hcbl;refine(a5S noY ao a ca s w (hsa.mono (a0b.mono _) (by rw[a3k];exact b7a X w)) hca.1 hal hs32 (fun k hk=>by simp[noY]at hk)).mono ?_;rintro e w1 ⟨hE1,uo,U,rfl,hU,hUf⟩;have hsb1:=hsb.mono (a0b.mono _) (a0l hE1);go_wp2_with fail
 refine(a5S noY bo b cb s w1 (hsb1.mono (a0b.mono _) (by rw[a3k];exact b7a X w1)) hcb.1 (by omega) hs32 (fun k hk=>by simp[noY]at hk)).mono ?_;rintro e w2 ⟨hE2,vo,V0,rfl,hV0,hVf⟩;have hV0l:V0.length<=1099511627777:=by rw[hVf.out.1];omega
 obtain⟨gu,rfl,hgu1,hgu2⟩:=hU.at_block (by rw[hUf.out.1];omega);have hV1:Sl (a0b .u32) 1 (mk (ob (some ⟨gu,0,none⟩)) w2) vo V0:=(hV0.remask (a4T _) (Z:=ob (some ⟨gu,0,none⟩)) (fun k hk=>b3o (by have:=(hV0.block hk).1;omega))).sl (a0b.elem _);go_wp2_with fail
 refine(a1v (ob (some ⟨gu,0,none⟩)) vo V0 V0.length w2 hV1 hVf.out.2.1 (by omega) (Nat.le_refl _)).mono ?_;rintro e w' ⟨rfl,V,rfl,hVl',hVc,hVs⟩;obtain⟨m,hm⟩:∃m,a.length=m+b.length:=⟨a.length - b.length,by omega⟩;obtain⟨n,hn⟩:∃n,b.length=n:=⟨_,rfl⟩;rw[hVf.out.2.2.2]at hVc;have hnorm:=b3l hcb.1 hn (by omega) ((a0u (by omega)).trans (by rw[<-ht'.out];congr 1;omega)) hs32 hlz1.out hlz2.out hVc;have hna:nv a=na:=hca.2.2;have hnb:nv b=nb:=hcb.2.2;have hnvV:=hVc.2.2;rw[hnb]at hnvV;have hVd:=hVc.1;have hUl:U.length=m+1+n:=by rw[hUf.out.1,hm,hn];omega
 have hUd:=hUf.out.2.1;have hst0:=a3z.start (m:=m) (n:=n) (a:=na) hUd hUl (by omega) (by rw[hUf.out.2.2.2,hna]) (by have:=hUf.out.2.2.1;rw[hm,hn]at this;exact this) hs32 hnorm.1 hnorm.2;obtain⟨hVn,hVt⟩:=hnorm;have hst:=hid hst0;have hUo:=hU.ext0 (a0b.elem _) hE2;rw[hn]at hm |-;rw[hm];have hmb:m<=1099511627776:=by omega
 have hnb2:2<=n:=by omega
 have hnb3:n<=1099511627776:=by omega
 have hVt':=hid hVt;have hVn':=hid hVn;have hUl':=hid hUl;have hnvV':=hid hnvV;have hE12:=hE1.trans hE2;clear hst0 hVt hVn hUl hnvV hna hnb hV1 hUf hVf hV0l hU hsa hsb hsb1 hcb hca hle hb2 hbl hal hhb ht0 htB ht' hlz1 hlz2 hVc hVl' hV0 hUd;go_wp2_with (at_make;refine a1G a0M (a0b.elem .u32) 0 (fun _=>rfl) noY (fun k hk=>by simp[noY]at hk) w2.heap.size (Nat.le_refl _) (m+1) rfl rfl (by omega) (by omega) (by omega) ?_;intro qo w3 hQ hE3)
 have hqb:∀k,ob qo k=true->w2.heap.size<=k:=fun k hk=>(hQ.block hk).1;have hgq:ob qo gu=false:=by
  cases hh:ob qo gu
  ·rfl
  ·have:=hqb gu hh;have:=hE2.size;omega
 have hU3:OL (a0b .u32) 1 (un noY qo) w.heap.size 110 w3 (some ⟨gu,0,none⟩) U.length U:=(hUo.ext0 (a0b.elem _) hE3).remask (a4T _) (fun k hk=>by have:=a5A hk;subst this;simp[un,noY,hgq]);have hQ3:OL (a0b .u32) 1 (un noY (some ⟨gu,0,none⟩)) w2.heap.size 110 w3 qo (m+1) (List.replicate (m+1) 0):=hQ.remask (a4T _) (fun k hk=>by
  have h1:=hqb k hk;have h2:ob (some ⟨gu,0,none⟩) k=false:=b3o (by have:=hE2.size;omega);simp[un,noY,h2])
 have hV3:Sl (a0b .u32) 1 (mk (un (un noY qo) (some ⟨gu,0,none⟩)) w3) vo V:=hVs.mono (a0b.mono _) (a0T hE3 (fun k _ hk=>by simp[noY]at hk) fun k hk hz=>by
  have h1:ob qo k=false:=by
   cases hh:ob qo k
   ·rfl
   ·have:=hqb k hh;omega
  simpa[un,noY,h1]using hz)
 have hE13:=hE12.trans hE3;have hwq:w.heap.size<=w2.heap.size:=hE12.size;have hqX:∀k,ob qo k=true->X k=false:=fun k hk=>by
  cases hh:X k
  ·rfl
  ·have:=hX k hh;have:=hqb k hk;omega
 have hgw:gu<w2.heap.size:=Nat.lt_of_lt_of_le hgu2 hE2.size;have hUc:m+1+n<=U.length:=by rw[hUl'.out];exact Nat.le_refl _
 have hhv:=hVs.hd;clear hUo hQ hVs hE1 hE2 hE3 hE12 hm hn;go_loopw [10] (fun c wr=>∃(k:Nat) (x:Int) (U' Q:List Nat),c= .int .i64 x/\x=(k:Int) - 1/\k<=m+1/\Hid (a3z (na*2^s) V U' Q k)/\Hid (U'.length=m+1+n)/\Hid (Q.length=m+1)/\OL (a0b .u32) 1 (un noY qo) w.heap.size 110 wr (some ⟨gu,0,none⟩) U.length U'/\
  OL (a0b .u32) 1 (un noY (some ⟨gu,0,none⟩)) w2.heap.size 110 wr qo (m+1) Q/\Sl (a0b .u32) 1 (mk (un (un noY qo) (some ⟨gu,0,none⟩)) wr) vo V/\Ext w wr) (fun c _=>(intOf c+1).toNat)
 case atStart=>exact⟨m+1,_,U,_,rfl,by omega,by omega,hst,hUl',hid (by simp),hU3,hQ3,hV3,hE13⟩
 case round=>
  obtain⟨k,x,U',Q,rfl,hx,hk,hinv,hUl2,hQl,hUr,hQr,hVr,hEr⟩:=hrel;clear hU3 hQ3 hV3 hE13 hst;have hhq:Hd qo (m+1):=by have:=hQr.hd;rwa[hQl.out]at this
  cases k with
  |zero=>
   obtain rfl:x= -1:=by omega
   obtain⟨hd1,hd2,hd3⟩:=hinv.out.done rfl hnvV'.out;have hUd:=hinv.out.1;have hQd:=hinv.out.2.1;have hd1':=hid hd1;have hd2':=hid hd2;have hlast:Hid (nv U'/2^s<B^n):=hid (Nat.lt_of_le_of_lt (Nat.div_le_self _ _) (Nat.lt_trans hd3 (by have:=a4o hVd;rwa[hVn'.out]at this)));have hUr2:=hUr.remask (a4T _) (Z:=noY) (fun k hk=>rfl);have hub:∀k,ob (some ⟨gu,0,none⟩) k=true->k<wr.heap.size:=fun k hk=>(hUr.block hk).2;have hqb2:∀k,ob qo k=true->k<wr.heap.size:=fun k hk=>(hQr.block hk).2;have hwr:w.heap.size<=wr.heap.size:=hEr.size;have hQr2:=hQr.remask (a4T _) (Z:=noY) (fun k hk=>rfl);clear hx hd1 hd2 hd3 hinv hUr hQr hVr hqb hgq hwq hgw hgu1 hgu2 hhv;go_wp2_with (at_make;refine a1G a0M (a0b.elem .u32) 0 (fun _=>rfl) noY (fun k hk=>by simp[noY]at hk) wr.heap.size (Nat.le_refl _) n rfl rfl (by omega) (by omega) (by omega) ?_;intro ro w4 hR hE4)
   have hU4:=hUr2.ext0 (a0b.elem _) hE4;have hQ4:=hQr2.ext0 (a0b.elem _) hE4;have hE5:=hEr.trans hE4;have hrb:∀k,ob ro k=true->wr.heap.size<=k:=fun k hk=>(hR.block hk).1;have hrX:∀k,ob ro k=true->X k=false:=fun k hk=>by
    cases hh:X k
    ·rfl
    ·have:=hX k hh;have:=hrb k hk;omega
   clear hUr2 hQr2 hE4 hEr;go_loopw [103] (fun c wx=>∃(i:Nat) (o:List Nat),c= .int .i64 i/\i<=n/\Hid (a4y U' o s n i)/\Hid (o.length=n)/\OL (a0b .u32) 1 noY wr.heap.size 110 wx ro n o/\ExtX (ob ro) w4 wx/\Ext w wx) (fun c _=>n - (intOf c).toNat)
   case atStart=>exact⟨0,_,rfl,by omega,hid (a4y.start U' s n),hid (by simp),hR,ExtX.refl _,hE5⟩
   case round=>
    obtain⟨i,o,rfl,hi,hinv,hol,hO,hEx,hEw⟩:=hrel;clear hR hE5;have hho:Hd ro n:=by have:=hO.hd;rwa[hol.out]at this
    have hUx:=hU4.skip (a0b.elem _) (a4T _) hEx (fun k hk=>by
     cases hh:ob ro k
     ·rfl
     ·have:=hrb k hh;have:=hub k hk;omega)
    by_cases hlt:i<n
    ·have hi1:i+1<U'.length:=by rw[hUl2.out];omega
     have hs:=hUx.sl (a0b.elem _);have c1:=hs.nat (i+1) hi1;have c0:=hs.nat i (by omega);obtain⟨x,hx⟩:∃x,U'[i+1]=x:=⟨_,rfl⟩;obtain⟨y,hy⟩:∃y,U'[i]'(by omega)=y:=⟨_,rfl⟩;have bx:=hUd.get (i+1) hi1;have by_:=hUd.get i (by omega);rw[hx,a1b]at bx;rw[hy,a1b]at by_;rw[hx,a0U,Nat.zero_add]at c1;rw[hy,a0U,Nat.zero_add]at c0;have hst:=hid (hinv.out.step hlt hs32 hi1 hUd hx hy);have hhu:Hd (some (⟨gu,0,none⟩:Addr)) U.length:=fun _=>⟨_,_,rfl⟩;have i1:∀W,(Instr.indexAt 37 (.slice (some ⟨gu,0,none⟩) U.length U.length) (.int .i64 ((i:Int)+1))).run Tryz.prog W= .ok (.pointer (some ⟨gu,i+1,none⟩)) W:=fun W=>by
      have:=a0E a0M (some ⟨gu,0,none⟩) U.length U.length .i64 (i+1) (m:=(i:Int)+1) hhu (by omega) (by omega) W;rwa[a0U,Nat.zero_add]at this
     have i2:∀W,(Instr.indexAt 37 (.slice (some ⟨gu,0,none⟩) U.length U.length) (.int .i64 (i:Int))).run Tryz.prog W= .ok (.pointer (some ⟨gu,i,none⟩)) W:=fun W=>by
      have:=a0E a0M (some ⟨gu,0,none⟩) U.length U.length .i64 i (m:=(i:Int)) hhu (by omega) rfl W;rwa[a0U,Nat.zero_add]at this
     have i3:∀W,(Instr.indexAt 37 (.slice ro n n) (.int .i64 (i:Int))).run Tryz.prog W= .ok (.pointer (some (adr ro i))) W:=a0E a0M ro n n .i64 i hho hlt rfl;have s1:IntKind.i64.wrap ((i:Int)+1)=(i:Int)+1:=IntWalk.i64_in _ (by omega);have hor:=a7i x y bx by_;have hval:Hid (IntKind.u32.wrap (bits BinOp.or IntKind.u64 (IntKind.u64.wrap (IntKind.u64.wrap (x:Int)*4294967296)) (IntKind.u64.wrap (y:Int))/2^s)=(((x*4294967296+y)/2^s%4294967296:Nat):Int)):=hid (by
      rw[IntWalk.u64_in (x:Int) (by omega),IntWalk.u64_in ((x:Int)*4294967296) (by omega),IntWalk.u64_in (y:Int) (by omega),hor,IntKind.wrap_u32];simp)
     clear hx hy hinv hs;go_wp2_with fail
     go_still_tail 19,(by kernel_rfl)
     change wpList _ _ _ _ _ wr.drew
     have hEd:ExtX noY wr wr.drew:=(ExtX.refl wr).drew;have hOd:=hO.ext0 (a0b.elem _) hEd;have hExd:=hEx.trans (ExtX.of hEd);have hEwd:=hEw.trans hEd;generalize wr.drew=wd at hOd hExd hEwd |-;clear i1 i2 i3 c1 c0 hor s1 hEd hO hEx hEw;go_wp2_with ((with_reducible show wpList _ _ _ (⟨_, .store _ _ _,_,_,_,_⟩::_) _ _);refine a0O a3x i ((x*4294967296+y)/2^s%4294967296) rfl rfl hOd (by rw[hol.out];exact hlt) rfl hval.out ?_;intro w6 hO6 hE6)
     have hol2:Hid ((o.set i ((x*4294967296+y)/2^s%4294967296)).length=n):=hid (by rw[List.length_set];exact hol.out);go_roundw
     case rel=>exact⟨i+1,_,by go_num,by omega,hst,hol2,hO6,hExd.trans hE6,hEwd.own hOd hwr hE6⟩
     case measure=>simp[intOf];omega
    ·have hin:i=n:=by omega
     subst hin;have hQx:=hQ4.skip (a0b.elem _) (a4T _) hEx (fun k hk=>by
      cases hh:ob ro k
      ·rfl
      ·have:=hrb k hh;have:=hqb2 k hk;omega)
     have hfin:=hid (hinv.out.done hlast.out);have hRd:=hinv.out.2.1;have hQs:Sl (a0b .u32) 1 (mk X wr) qo Q:=(hQx.remask (a4T _) (Z:=X) hqX).sl (a0b.elem _);have hOs:Sl (a0b .u32) 1 (mk X wr) ro o:=(hO.remask (a4T _) (Z:=X) hrX).sl (a0b.elem _);have hT1:=a1v X qo Q (m+1) wr hQs hQd (by rw[hQl.out];omega) (by rw[hQl.out];exact Nat.le_refl _);have hT2:=a1v X ro o i wr hOs hRd (by rw[hol.out];omega) (by rw[hol.out];exact Nat.le_refl _);rw[hQl.out]at hT1;rw[hol.out]at hT2;have hl1:Q.length<=m+1:=by rw[hQl.out];exact Nat.le_refl _
     have hl2:o.length<=i:=by rw[hol.out];exact Nat.le_refl _
     clear hinv hU4 hQ4 hUx hQx hUd;go_wp2_with fail
     refine hT1.mono ?_;rintro e w' ⟨rfl,l1,rfl,h11,h12,h13⟩;go_wp2_with fail
     refine hT2.mono ?_;rintro e w' ⟨rfl,l2,rfl,h21,h22,h23⟩;clear hT1 hT2;go_wp2_with fail
     go_ret2
     rw[hd1'.out]at h12;rw[hfin.out,hd2'.out]at h22;exact⟨hEw,_,_,l1,_,_,l2,rfl,Nat.le_trans h11 hl1,h12,h13,Nat.le_trans h21 hl2,h22,h23⟩
  |succ j=>
   obtain rfl:x=(j:Int):=by omega
   clear hx;have hjU:j+(n+1)<=U'.length:=by rw[hUl2.out];omega
   obtain⟨w1,w2',w3',w4,w5,w6,w7⟩:=hinv.out.win hjU hVn'.out hVd;obtain⟨W,hW⟩:∃W,(U'.drop j).take (n+1)=W:=⟨_,rfl⟩;have hge:∀i,i<=n->U'.getD (j+i) 0=W.getD i 0:=fun i hi=>by rw[<-hW];exact(b3m hi).symm
   have hnx:=fun(o:List Nat) h1 h2 h3=>(fun(p:_/\_)=>And.intro p.1 (p.2.trans hUl2.out)) (hinv.out.next (W':=o) hjU (by rw[hQl.out];omega) hVn'.out hVd h1 h2 h3);rw[hW]at w1 w2' w3' w5 w6;simp only[hW]at hnx;obtain⟨A,hA⟩:∃A,U'.take j=A:=⟨_,rfl⟩;obtain⟨R,hR⟩:∃R,U'.drop (j+(n+1))=R:=⟨_,rfl⟩;rw[hA]at w5 w7;rw[hR]at w5;simp only[hA,hR]at hnx;obtain⟨e1,e2,e3⟩:=b5G w1 hVn'.out hnb2 w2' hVd hVt'.out w3';have hVp:0<nv V:=by
    by_cases h:nv V=0
    ·rw[h]at w3';omega
    ·omega
   have hUs:=hUr.sl (a0b.elem _);have c2:=hUs.nat (j+n) (by rw[hUl2.out];omega);have c1:=hUs.nat (j+(n - 1)) (by rw[hUl2.out];omega);have c0:=hUs.nat (j+(n - 2)) (by rw[hUl2.out];omega);rw[<-a0u,hge n (by omega),a0U,Nat.zero_add]at c2;rw[<-a0u,hge (n - 1) (by omega),a0U,Nat.zero_add]at c1;rw[<-a0u,hge (n - 2) (by omega),a0U,Nat.zero_add]at c0;have d1:=hVr.nat (n - 1) (by rw[hVn'.out];omega);have d0:=hVr.nat (n - 2) (by rw[hVn'.out];omega);rw[<-a0u]at d1 d0;have b2:=w2'.getD n;have b1:=w2'.getD (n - 1);have b0:=w2'.getD (n - 2);have f1:=hVd.getD (n - 1);have f0:=hVd.getD (n - 2);have hvt:=hVt'.out;generalize W.getD n 0=u2 at*;generalize W.getD (n - 1) 0=u1 at*;generalize W.getD (n - 2) 0=u0 at*;generalize V.getD (n - 1) 0=v1 at*;generalize V.getD (n - 2) 0=v0 at*;rw[a1b]at b2 b1 b0 f1 f0 hvt;obtain⟨x,hx⟩:∃x,a7g B u2 u1 u0 v1 v0=x:=⟨_,rfl⟩;have hx32:x<4294967296:=by rw[<-hx];exact b5H
   have hgs:∀q,Calls Tryz.prog 331 #[.int .u32 u2, .int .u32 u1, .int .u32 u0, .int .u32 v1, .int .u32 v0] (wr.drewN q) fun e w'=>e= .returned (.int .u64 (x:Nat))/\∃m,w'=(wr.drewN q).drewN m:=fun q=>by rw[<-hx];exact b1o u2 u1 u0 v1 v0 _ (by omega) f1 e1 b1 b0 f0
   rw[hx]at e2 e3;have hkk:=hid (fun(c W':Nat)=>a8A (c:=c) (W':=W') hVp e2 e3 (e:=B^(n+1)));have hVp':=hid hVp;have s1:IntKind.i64.wrap ((j:Int)+(n:Int))=(j:Int)+(n:Int):=IntWalk.i64_in _ (by omega);have s2:IntKind.i64.wrap ((j:Int)+(n:Int) - 1)=(j:Int)+(n:Int) - 1:=IntWalk.i64_in _ (by omega);have s3:IntKind.i64.wrap ((j:Int)+(n:Int) - 2)=(j:Int)+(n:Int) - 2:=IntWalk.i64_in _ (by omega);have s4:IntKind.i64.wrap ((n:Int) - 1)=(n:Int) - 1:=IntWalk.i64_in _ (by omega);have s5:IntKind.i64.wrap ((n:Int) - 2)=(n:Int) - 2:=IntWalk.i64_in _ (by omega);have hhu:Hd (some (⟨gu,0,none⟩:Addr)) U.length:=fun _=>⟨_,_,rfl⟩;have i1:∀W,(Instr.indexAt 37 (.slice (some ⟨gu,0,none⟩) U.length U.length) (.int .i64 ((j:Int)+(n:Int)))).run Tryz.prog W= .ok (.pointer (some ⟨gu,j+n,none⟩)) W:=fun W=>by
    have:=a0E a0M (some ⟨gu,0,none⟩) U.length U.length .i64 (j+n) (m:=(j:Int)+(n:Int)) hhu (by omega) (by omega) W;rwa[a0U,Nat.zero_add]at this
   have i2:∀W,(Instr.indexAt 37 (.slice (some ⟨gu,0,none⟩) U.length U.length) (.int .i64 ((j:Int)+(n:Int) - 1))).run Tryz.prog W= .ok (.pointer (some ⟨gu,j+(n - 1),none⟩)) W:=fun W=>by
    have:=a0E a0M (some ⟨gu,0,none⟩) U.length U.length .i64 (j+(n - 1)) (m:=(j:Int)+(n:Int) - 1) hhu (by omega) (by omega) W;rwa[a0U,Nat.zero_add]at this
   have i3:∀W,(Instr.indexAt 37 (.slice (some ⟨gu,0,none⟩) U.length U.length) (.int .i64 ((j:Int)+(n:Int) - 2))).run Tryz.prog W= .ok (.pointer (some ⟨gu,j+(n - 2),none⟩)) W:=fun W=>by
    have:=a0E a0M (some ⟨gu,0,none⟩) U.length U.length .i64 (j+(n - 2)) (m:=(j:Int)+(n:Int) - 2) hhu (by omega) (by omega) W;rwa[a0U,Nat.zero_add]at this
   have hVle:n<=V.length:=by rw[hVn'.out];exact Nat.le_refl _
   have i4:∀W,(Instr.indexAt 37 (.slice vo V.length V0.length) (.int .i64 ((n:Int) - 1))).run Tryz.prog W= .ok (.pointer (some (adr vo (n - 1)))) W:=a0E a0M vo V.length V0.length .i64 (n - 1) hhv (by omega) (by omega);have i5:∀W,(Instr.indexAt 37 (.slice vo V.length V0.length) (.int .i64 ((n:Int) - 2))).run Tryz.prog W= .ok (.pointer (some (adr vo (n - 2)))) W:=a0E a0M vo V.length V0.length .i64 (n - 2) hhv (by omega) (by omega);have hWh:=hid w1;have hAl:=hid w7;have hUr2:OL (a0b .u32) 1 (un noY qo) w.heap.size 110 wr (some ⟨gu,0,none⟩) U.length (A++W++R):=by rw[<-w5];exact hUr
   have hnx':=hid hnx;clear hnx hinv w1 w3' w4 w5 w6 w7 hge hUs hx e1 e2 e3 b2 b1 b0 f1 f0 hvt hA hR hW hVp hUr hUl2 hjU;clear U';go_wp2_with fail
   go_quiet ((go_at_call 331;with_reducible exact Calls.quiet_of (hgs _)))
   clear c2 c1 c0 d1 d0 i1 i2 i3 i4 i5 hgs s2 s3 s4 s5;have hjc:j<U.length:=by omega
   have hjn:j+n+1<=U.length:=by omega
   have hwl:j+n+1 - j=W.length:=by rw[hWh.out];omega
   have hEd:ExtX noY wr (wr.drewN nq):=(ExtX.refl wr).drewN nq;have hUd:=hUr2.ext0 (a0b.elem _) hEd;have hQd:=hQr.ext0 (a0b.elem _) hEd;have hVd2:Sl (a0b .u32) 1 (mk (un (un noY qo) (some ⟨gu,0,none⟩)) (wr.drewN nq)) vo V:=hVr;have hEn:=hEr.trans hEd;clear hUr2 hQr hVr hEr;generalize wr.drewN nq=wd at*;go_wp2_with (first|((with_reducible show wpList _ _ _ (⟨_, .slice _ _ _ _ _,_,_,_,_⟩::_) _ _);refine st_win a0M j (j+n+1) rfl rfl rfl rfl (by omega) (by omega) (by omega) ?_))
   have hr:=b0p (un noY qo) w.heap.size gu U.length (U.length - j) A W R V vo V0.length x n wd hUd hVd2 hWh.out hVn'.out hVd w2' hx32 (by rw[hAl.out];omega) hnb3;rw[hAl.out]at hr;refine hr.mono ?_;clear hr;rintro e w6 ⟨hE6,o,⟨bo,rfl,hol,hod,hcs⟩,hU6⟩;have hdf:=hkk.out bo (nv o) hcs;have hol':=hid hol;have hV6:=hVd2.unstep (a0b.mono _) hE6 (.inl rfl);have hQ6:=hQd.skip (a0b.elem _) (a4T _) hE6 (fun k hk=>b3o (by have:=hqb k hk;omega));have hE7:=hEn.own hUd (Nat.le_refl _) hE6;clear hkk hol hE6 hUd hQd hVd2 hEn;rcases hcs with⟨rfl,_⟩|⟨rfl,_⟩
   ·obtain⟨k1,k2⟩:=hdf.1 rfl
    have hn1:=hid (hnx'.out o hod hol'.out k2);rw[<-k1]at hn1;clear hdf k1 k2 hnx';go_wp2_with (first|(with_reducible refine a0m a0M (by omega) (by assumption) ?_)|((with_reducible show wpList _ _ _ (⟨_, .store _ _ _,_,_,_,_⟩::_) _ _);refine a0O a3x j x rfl rfl hQ6 (by rw[hQl.out];omega) rfl (by omega) ?_;intro w8 hQ8 hE8))
    have hU8:=hU6.skip (a0b.elem _) (a4T _) hE8 (fun k hk=>by have:=a5A hk;subst this;exact hgq);have hV8:Sl (a0b .u32) 1 (mk (un (un noY qo) (some ⟨gu,0,none⟩)) w8) vo V:=hV6.mono (a0b.mono _) (a0r hE8 (fun k hk=>a0o (a0t hk)));go_roundw
    case rel=>exact⟨j,_,_,_,rfl,rfl,by omega,hid hn1.out.1,hid hn1.out.2,hid (by rw[List.length_set];exact hQl.out),hU8,hQ8,hV8,hE7.own hQ6 hwq hE8⟩
    case measure=>simp[intOf]
   ·obtain⟨k0,k1,k2⟩:=hdf.2 rfl
    have k2':=hid k2;clear hdf k2;go_wp2_with (first|((with_reducible show wpList _ _ _ (⟨_, .slice _ _ _ _ _,_,_,_,_⟩::_) _ _);refine st_win a0M j (j+n+1) rfl rfl rfl rfl (by omega) (by omega) (by omega) ?_))
    have hr:=a8B (un noY qo) w.heap.size gu U.length (U.length - j) A o R V vo V0.length n w6 hU6 hV6 hol'.out hVn'.out hVd hod (by rw[hAl.out];omega) hnb3;rw[hAl.out]at hr;rw[show o.length=W.length by rw[hol'.out,hWh.out]]at hr;refine hr.mono ?_;clear hr;rintro e w7 ⟨hE9,o2,⟨c,rfl,hl2,hd2,hc,hs2⟩,hU7⟩;have hn1:=hid (hnx'.out o2 hd2 hl2 (b3n hVd hVn'.out hVp'.out k2'.out hs2 hc hd2 hl2));rw[<-k1]at hn1;have hV7:=hV6.unstep (a0b.mono _) hE9 (.inl rfl);have hQ7:=hQ6.skip (a0b.elem _) (a4T _) hE9 (fun k hk=>b3o (by have:=hqb k hk;omega));have hE10:=hE7.own hU6 (Nat.le_refl _) hE9;have hx1:(1:Int)<=(x:Int):=by omega
    clear k1 hnx' hl2 hs2 hU6 hV6 hQ6 hE9 hE7;go_wp2_with (first|(with_reducible refine a0m a0M (by omega) (by assumption) ?_)|((with_reducible show wpList _ _ _ (⟨_, .store _ _ _,_,_,_,_⟩::_) _ _);refine a0O a3x j (x - 1) rfl rfl hQ7 (by rw[hQl.out];omega) rfl (by omega) ?_;intro w8 hQ8 hE8))
    have hU8:=hU7.skip (a0b.elem _) (a4T _) hE8 (fun k hk=>by have:=a5A hk;subst this;exact hgq);have hV8:Sl (a0b .u32) 1 (mk (un (un noY qo) (some ⟨gu,0,none⟩)) w8) vo V:=hV7.mono (a0b.mono _) (a0r hE8 (fun k hk=>a0o (a0t hk)));go_roundw
    case rel=>exact⟨j,_,_,_,rfl,rfl,by omega,hid hn1.out.1,hid hn1.out.2,hid (by rw[List.length_set];exact hQl.out),hU8,hQ8,hV8,hE10.own hQ7 hwq hE8⟩
    case measure=>simp[intOf]
end Go.Proofs.YtnnpfhoigmegcaaGreat
namespace Go.Lim
theorem b7j{n:Nat}(a:4294967296<=n):2<=lg n:=by
 by_cases h:lg n<=1
 ·rw[a2t,Nat.pow_one,a1b]at h;omega
 ·omega
end Go.Lim
namespace Go.Proofs.YtnnpfhoigmegcaaGreat
open Go.RowKit Go.Rep Go.Lim
theorem a8C(X:Nat->Bool)(ao V:Option Addr)(I J:List Nat)(Y Z:Nat)(w:World)(G:Sl (a0b .u32) 1 (mk X w) ao I)(H:Sl (a0b .u32) 1 (mk X w) V J)(z:Dig I)(A:Dig J)(B:I.length<=1099511627776)(C:J.length<=1099511627776)(u:I.length<=Y)(x:J.length<=Z)(hX:∀k,X k=true->k<w.heap.size)(i nb:Nat)(D:val I=i)(E:val J=nb)(h0:0<nb):Calls Tryz.prog 245 #[.slice ao I.length Y, .slice V J.length Z] w (b4E X w (i/nb) (i%nb)):=by
 by_cases h1:nb<4294967296
 ·exact b3j X ao V I J Y Z w G H z A B C u x hX i nb D E h0 h1
 have h2:=b7j (show 4294967296<=nb by omega);clear h1;go_enter Tryz.func245,Tryz.ntmps245
 go_wp2_with fail
 refine(a1e X _ _ _ _ G z (by omega) u).mono ?_;rintro e w' ⟨rfl,K,M,a,rfl,S,P,d,n⟩;go_wp2_with fail
 refine(a1e X _ _ _ _ H A (by omega) x).mono ?_;rintro e w' ⟨rfl,L,N,b,rfl,T,Q,f,p⟩;rw[D]at d;rw[E]at f;have a1:2<=b.length:=by rw[f.len];exact h2
 have m:a.length<=1099511627776:=Nat.le_trans P B;have R:b.length<=1099511627776:=Nat.le_trans Q C;have a4:=hid d.val;have a5:=hid f.val;clear D E P Q G H B C u x h2 z A;go_wp2_with fail
 refine(a3a X K L a b M N w n p d.1 f.1 m R S T i nb a4.out a5.out).mono ?_;rintro e w2 ⟨j,rfl⟩;have o:=n.mono (a0b.mono _) (a0l j);have U:=p.mono (a0b.mono _) (a0l j);have O:∀k,X k=true->k<w2.heap.size:=fun k hk=>Nat.lt_of_lt_of_le (hX k hk) j.size;by_cases l:i<nb
 ·have y:a2D i nb<0:=(a3t i nb).2 l
  have hq:=hid (Nat.div_eq_of_lt l);have hr:=hid (Nat.mod_eq_of_lt l);generalize a2D i nb=c at y;go_wp2_with fail
  refine(a5Q X _ _ _ _ i o d (by omega) O).mono ?_;rintro e w3 ⟨s,q,r,l3,rfl,t,g,F⟩;go_wp2_with fail
  go_ret3
  refine⟨j.trans s,none,0,[],q,r,l3,rfl,by simp,?_,Sl.nil _ _ _ _,t,?_,F⟩
  ·rw[hq.out];exact a0F.nil
  ·rw[hr.out];exact g
 ·have y:¬a2D i nb<0:=fun h=>l ((a3t i nb).1 h)
  generalize a2D i nb=c at y;go_wp2_with fail
  refine(b0q X K L a b M N w2 o U i nb d f (by omega) a1 m O).mono ?_;rintro e w3 ⟨s,q,r,l3,W,a0,l4,rfl,t,g,F,a2,v,a3⟩;go_wp2_with fail
  go_ret3
  exact⟨j.trans s,q,r,l3,W,a0,l4,rfl,t,g,F,a2,v,a3⟩
def b5M(w:World)(n:Nat)(e:Ending)(w':World):Prop:=
 w=w'/\((n<18446744073709551616/\e= .returned (.tuple #[.int .u64 n, .bool true]))\/(18446744073709551616<=n/\e= .returned (.tuple #[.int .u64 0, .bool false])))
theorem a7m(X:Nat->Bool)(ao:Option Addr)(l:List Nat)(c:Nat)(w:World)(Q:Sl (a0b .u32) 1 (mk X w) ao l)(hd:Dig l)(O:l.length<=1099511627776)(M:l.length<=c)(n:Nat)(P:val l=n):Calls Tryz.prog 325 #[.slice ao l.length c] w (b5M w n):=by
 go_enter Tryz.func325,Tryz.ntmps325
 go_wp2_with fail
 refine(a1e X _ _ _ _ Q hd (by omega) M).mono ?_;rintro e w' ⟨rfl,z,S,a,rfl,N,A,o,t⟩;rw[P]at o;have L:a.length<=1099511627776:=Nat.le_trans A O;have W:=t.hd;have H:=hid o.2.2;have B:=o.1;have s:=hid o.len;clear P Q hd O M A;by_cases h2:2<a.length
 ·have r:18446744073709551616<=n:=by
   by_cases h:n<18446744073709551616
   ·have:lg n<=2:=by rw[a2t,a1b];omega
    have:=s.out;omega
   ·omega
  have E:=hid r;clear r;go_wp2_with fail
  go_ret2
  exact⟨rfl, .inr ⟨E.out,rfl⟩⟩
 ·have J:Hid (n<18446744073709551616):=hid (by
   have:lg n<=2:=by rw[<-s.out];omega
   rw[a2t,a1b]at this;omega)
  go_wp2_with fail
  go_loop [2,13] (fun v i=>∃k:Nat,i= .int .i64 k/\v= .int .u64 (nv (a.take k):Nat)/\k<=a.length) (fun _ i=>a.length - (intOf i).toNat)
  case atStart=>exact⟨0,rfl,rfl,by omega⟩
  case round=>
   obtain⟨k,rfl,rfl,hk⟩:=hrel;by_cases y:k<a.length
   ·have j:=t.nat k y
    have hx:=B.get k y;have d:=a0A a k y;obtain⟨x,D⟩:∃x,a[k]=x:=⟨_,rfl⟩;rw[D]at j hx d;rw[a1b]at hx d;have g:=a1z B k;obtain⟨v,R⟩:∃v,nv (a.take k)=v:=⟨_,rfl⟩;rw[R]at d g |-;have u:=hid d;clear d D R;rcases(by omega:k=0\/k=1)with rfl|rfl
    ·rw[Nat.pow_zero]at g
     obtain rfl:v=0:=by omega
     clear g;have I:bits BinOp.or IntKind.u64 0 (x:Int)=(x:Int):=by
      have:=bits_or_u64_nat 0 x (by omega) (by omega);rw[Nat.zero_or]at this;exact this
     have q:w.cell? (adr z 0)=some (.int .u32 x):=j;go_wp2_with (with_reducible refine a0m a0M (by omega) (by assumption) ?_)
     have f:nv (a.take 1)=x:=by have:=u.out;simpa using this
     go_round
     case rel=>exact⟨1,rfl,by rw[f],by omega⟩
     case measure=>simp[intOf];omega
    ·rw[Nat.pow_one,a1b]at g
     have p:bits BinOp.or IntKind.u64 (v:Int) ((x:Int)*4294967296)=((v+4294967296*x:Nat):Int):=by
      have e:=bits_or_u64_nat v (x*4294967296) (by omega) (by omega);have U:=Nat.two_pow_add_eq_or_of_lt (i:=32) (b:=v) (by omega) x;rw[Nat.or_comm,Nat.mul_comm x,show(4294967296:Nat)*x=2^32*x from rfl,<-U]at e;have V:((2^32*x:Nat):Int)=(x:Int)*4294967296:=by omega
      rw[V]at e;rw[e];omega
     have m:nv (a.take 2)=v+4294967296*x:=by have:=u.out;simpa using this
     obtain⟨T,K⟩:∃T,v+4294967296*x=T:=⟨_,rfl⟩;rw[K]at p m;have f:=hid m;have I:=p;clear p K m;have q:w.cell? (adr z 1)=some (.int .u32 x):=j;have Y:(v:Int)<4294967296:=by omega
     have Z:(x:Int)<4294967296:=by omega
     clear g hx;have C:(1:Int)<(a.length:Int):=by omega
     have G:decide ((1:Int)<(a.length:Int))=true:=decide_eq_true C;go_wp2_with (with_reducible refine a0m a0M (by omega) (by assumption) ?_)
     go_round
     case rel=>exact⟨2,rfl,by rw[f.out],by omega⟩
     case measure=>simp[intOf];omega
   ·have F:k=a.length:=by omega
    have f:nv (a.take k)=n:=by rw[F,List.take_length];exact H.out
    rw[f];go_wp2_with fail
    go_ret2
    exact⟨rfl, .inl ⟨J.out,rfl⟩⟩
theorem b1s(a b:Nat)(w:World)(_ha:a<18446744073709551616)(j:b<18446744073709551616):Calls Tryz.prog 326 #[.int .u64 a, .int .u64 b] w (a9A w .u64 (Nat.gcd a b)):=by
 obtain⟨g,e⟩:∃g,Nat.gcd a b=g:=⟨_,rfl⟩;rw[e];have f:=hid e;clear e;have k:Hid (b<18446744073709551616):=hid j;clear _ha j;go_enter Tryz.func326,Tryz.ntmps326
 go_wp2_with fail
 go_loopw [0,1] (fun x y wr=>∃p q m:Nat,x= .int .u64 p/\y= .int .u64 q/\Hid (Nat.gcd p q=g)/\wr=w.drewN m) (fun _ y _=>(intOf y).toNat)
 case atStart=>exact⟨a,b,0,rfl,rfl,f,rfl⟩
 case round=>
  obtain⟨p,q,m,rfl,rfl,d,rfl⟩:=hrel;by_cases hq:q=0
  ·subst hq
   have c:=hid (by have:=d.out;rwa[Nat.gcd_zero_right]at this);have n:(((0:Nat):Int) !=0)=false:=rfl;go_wp2_with fail
   go_ret
   exact⟨a0I (congrArg Nat.cast c.out),m,rfl⟩
  ·have n:((q:Int)==0)=false:=a2v (by omega)
   have o:((q:Int) !=0)=true:=a7B (by omega);have i:Hid (Nat.gcd q (p%q)=g):=hid (by rw[Nat.gcd_comm,<-Nat.gcd_rec,Nat.gcd_comm];exact d.out);have h:p%q<q:=Nat.mod_lt _ (by omega);have l:=hid hq;clear hq;go_wp2_with fail
   go_quiet (fail)
   go_wp2_with fail
   go_roundw
   case rel=>exact⟨q,p%q,_,rfl,by rw[Int.natCast_emod],i,World.drewN_drewN _ _ _⟩
   case measure=>
    simp only[intOf,Int.toNat_natCast];rw[<-Int.natCast_emod,Int.toNat_natCast];exact h
noncomputable def b8i(w:World):Value->Nat
 | .slice ao n _=>nv ((List.range n).map fun i=>match w.cell? (adr ao i)with|some (.int _ x)=>x.toNat|_=>0)
 |_=>0
theorem a4U{X:Nat->Bool}{w:World}{ao:Option Addr}{l:List Nat}(c:Nat)(b:Sl (a0b .u32) 1 (mk X w) ao l):b8i w (.slice ao l.length c)=nv l:=by
 show nv _=nv l
 congr 1
 apply List.ext_getElem
 ·simp
 ·intro i d a
  simp only[List.getElem_map,List.getElem_range,b.nat i a,Int.toNat_natCast]
theorem b5N(X:Nat->Bool)(ao bo:Option Addr)(la lb:List Nat)(ca cb:Nat)(w:World)(u:Sl (a0b .u32) 1 (mk X w) ao la)(h:Sl (a0b .u32) 1 (mk X w) bo lb)(b5:Dig la)(b6:Dig lb)(b9:la.length<=1099511627776)(c0:lb.length<=1099511627776)(B:la.length<=ca)(n:lb.length<=cb)(hX:∀k,X k=true->k<w.heap.size)(na nb:Nat)(c1:val la=na)(c2:val lb=nb):Calls Tryz.prog 293 #[.slice ao la.length ca, .slice bo lb.length cb] w (a3T X w (Nat.gcd na nb)):=by
 go_enter Tryz.func293,Tryz.ntmps293
 go_wp2_with fail
 refine(a1e X _ _ _ _ u b5 (by omega) B).mono ?_;rintro e w' ⟨rfl,c8,d0,a,rfl,Z,z,G,a1⟩;go_wp2_with fail
 refine(a1e X _ _ _ _ h b6 (by omega) n).mono ?_;rintro e w' ⟨rfl,c9,d1,b,rfl,a0,j,H,a3⟩;rw[c1]at G;rw[c2]at H;have V:a.length<=1099511627776:=Nat.le_trans z b9;have Y:b.length<=1099511627776:=Nat.le_trans j c0;obtain⟨g,O⟩:∃g,Nat.gcd na nb=g:=⟨_,rfl⟩;rw[O];have a8:=hid O;have A:=hid G;have f:=hid H;clear c1 c2 z j u h b9 c0 B n b5 b6 O G H;go_wp2_with fail
 go_loopw [0,1] (fun x y wr=>∃(p q:Nat) (ao bo:Option Addr) (a b:List Nat) (ca cb:Nat),x= .slice ao a.length ca/\y= .slice bo b.length cb/\a.length<=ca/\b.length<=cb/\a.length<=1099511627776/\b.length<=1099511627776/\Hid (a0F a p)/\Hid (a0F b q)/\Hid (Nat.gcd p q=g)/\
  Sl (a0b .u32) 1 (mk X wr) ao a/\Sl (a0b .u32) 1 (mk X wr) bo b/\Ext w wr) (fun _ y W=>b8i W y)
 case atStart=>exact⟨na,nb,_,_,_,_,_,_,rfl,rfl,Z,a0,V,Y,A,f,a8,a1,a3,ExtX.refl _⟩
 case round=>
  clear A f a1 a3 Z a0 V Y;obtain⟨p,q,P,Q,a2,U,R,v,rfl,rfl,B,n,z,j,A,f,O,u,h,hE⟩:=hrel;have S:∀k,X k=true->k<wr.heap.size:=fun k hk=>Nat.lt_of_lt_of_le (hX k hk) hE.size;by_cases hq:0<U.length
  ·have o:Hid (0<q):=hid (by have:=a1c f.out;omega)
   have d2:(0:Int)<(U.length:Int):=by omega
   have a6:=A.out.1;have T:=f.out.1;have N:=hid A.out.val;have C:=hid f.out.val;go_wp2_with fail
   refine(a7m X P a2 R wr u a6 z B p N.out).mono ?_;rintro e w' ⟨rfl,c5⟩;rcases c5 with⟨u1,rfl⟩|⟨u1,rfl⟩
   ·have c6:=hid u1
    clear u1;go_wp2_with fail
    refine(a7m X Q U v wr h T j n q C.out).mono ?_;rintro e w' ⟨rfl,b4⟩;rcases b4 with⟨u2,rfl⟩|⟨u2,rfl⟩
    ·have a9:Nat.gcd p q<18446744073709551616:=Nat.lt_of_le_of_lt (Nat.gcd_le_right _ o.out) u2
     rw[O.out]at a9;have c7:=hid u2;have b8:=hid a9;have b7:=b1s p q wr c6.out c7.out;rw[O.out]at b7;clear u2 a9;go_wp2_with fail
     refine b7.mono ?_;rintro e w2 ⟨rfl,m,rfl⟩;go_wp2_with fail
     refine(a3y X g (wr.drewN m) b8.out S).mono ?_;rintro e w3 ⟨i,D,E,l3,rfl,F,d,t⟩;go_wp2_with fail
     go_ret
     exact⟨hE.trans (((ExtX.refl wr).drewN m).trans i),D,E,l3,rfl,F,by rw[a8.out];exact d,t⟩
    ·clear u2
     go_wp2_with fail
     refine(a8C X P Q a2 U R v wr u h a6 T z j B n S p q N.out C.out o.out).mono ?_;rintro e w3 ⟨i,D,E,l3,c3,a4,l4,rfl,F,d,t,a5,c,L⟩;go_wp2_with fail
     have b0:l4.length<=1099511627776:=by
      have h1:l4.length<=U.length:=by rw[c.len,f.out.len];exact a0Y (Nat.le_of_lt (Nat.mod_lt _ o.out))
      omega
     have b3:Hid (Nat.gcd q (p%q)=g):=hid (by rw[Nat.gcd_comm,<-Nat.gcd_rec,Nat.gcd_comm];exact O.out);have M:=h.mono (a0b.mono _) (a0l i);have r:=a4U a4 L;have s:=a4U v h;rw[c.2.2]at r;rw[f.out.2.2]at s;have b1:=Nat.mod_lt p o.out;have l:=hid c;have J:=hid r;have K:=hid s;clear d t c r s N C;go_roundw
     case rel=>exact⟨q,p%q,_,_,_,_,_,_,rfl,rfl,n,a5,j,b0,f,l,b3,M,L,hE.trans i⟩
     case measure=>rw[J.out,K.out];exact b1
   ·clear u1
    go_wp2_with fail
    refine(a7m X Q U v wr h T j n q C.out).mono ?_;rintro e w' ⟨rfl,b4⟩;rcases b4 with⟨u2,rfl⟩|⟨u2,rfl⟩
    all_goals
     clear u2;go_wp2_with fail
     refine(a8C X P Q a2 U R v wr u h a6 T z j B n S p q N.out C.out o.out).mono ?_;rintro e w3 ⟨i,D,E,l3,c3,a4,l4,rfl,F,d,t,a5,c,L⟩;go_wp2_with fail
     have b0:l4.length<=1099511627776:=by
      have h1:l4.length<=U.length:=by rw[c.len,f.out.len];exact a0Y (Nat.le_of_lt (Nat.mod_lt _ o.out))
      omega
     have b3:Hid (Nat.gcd q (p%q)=g):=hid (by rw[Nat.gcd_comm,<-Nat.gcd_rec,Nat.gcd_comm];exact O.out);have M:=h.mono (a0b.mono _) (a0l i);have r:=a4U a4 L;have s:=a4U v h;rw[c.2.2]at r;rw[f.out.2.2]at s;have b1:=Nat.mod_lt p o.out;have l:=hid c;have J:=hid r;have K:=hid s;clear d t c r s N C;go_roundw
     case rel=>exact⟨q,p%q,_,_,_,_,_,_,rfl,rfl,n,a5,j,b0,f,l,b3,M,L,hE.trans i⟩
     case measure=>rw[J.out,K.out];exact b1
  ·have o:q=0:=by have:=a1c f.out;omega
   subst o;have I:=O.out;rw[Nat.gcd_zero_right]at I;have a7:=hid I;clear I;have c4:=A.out;clear O f;go_wp2_with fail
   refine(a5Q X P a2 R wr p u c4 (by omega) S).mono ?_;rintro e w3 ⟨i,D,E,l3,rfl,F,d,t⟩;go_wp2_with fail
   go_ret
   exact⟨hE.trans i,D,E,l3,rfl,F,by rw[a8.out,<-a7.out];exact d,t⟩
theorem a1J(X:Nat->Bool)(ao:Option Addr)(l:List Nat)(a:Nat)(w:World)(c:Sl (a0b .u32) 1 (mk X w) ao l)(g:l.length<=4398046511104):Calls Tryz.prog 274 #[.slice ao l.length a] w fun e i=>w=i/\e= .returned (.bool (a1l l)):=by
 have f:=c.hd;by_cases d:l.length=0
 ·have b:l= []:=List.eq_nil_of_length_eq_zero d
  subst b;clear c f g d;simp only[List.length_nil];go_enter Tryz.func274,Tryz.ntmps274
  go_wp2_with fail
  go_ret
  exact⟨rfl,rfl⟩
 ·have j:=c.nat (l.length - 1) (by omega)
  have h:=hid (a2V (l:=l) (by omega));have hz:((l.length:Int)==0)=false:=a2v (by omega);go_enter Tryz.func274,Tryz.ntmps274
  go_wp2_with (with_reducible refine a0m a0M (by omega) (by assumption) ?_)
  go_ret
  exact⟨rfl,a0p (by rw[h.out];exact a7N _)⟩
theorem a5T(X:Nat->Bool)(ao:Option Addr)(l:List Nat)(c:Nat)(w:World)(f:Sl (a0b .u32) 1 (mk X w) ao l)(hd:Dig l)(n:l.length<=4398046511104)(p:∀k,X k=true->k<w.heap.size):Calls Tryz.prog 196 #[.slice ao l.length c] w (a3T X w (val l)):=by
 cases b:a1l l
 ·have h:=hid b
  go_enter Tryz.func196,Tryz.ntmps196
  go_wp2_with (go_at_call 274;refine(a1J X _ _ _ _ f n).mono ?_;rintro e r ⟨rfl,rfl⟩)
  go_ret
  have:vl l= []:=by unfold vl;rw[b];rfl
  exact⟨ExtX.refl _,none,0,[],rfl,by simp,this▸a4p hd,Sl.nil _ _ _ _⟩
 ·have h:=hid b
  have j:=OL.nil (a0b .u32) 1 X w.heap.size 110 w;have g:Sl (a0b .u32) 1 (mk (un X none) w) ao l:=f.mono (a0b.mono _) (a1N fun k _ q=>by simpa[un,ob]using q);go_enter Tryz.func196,Tryz.ntmps196
  go_wp2_with (first|(go_at_call 274;refine(a1J X _ _ _ _ f n).mono ?_;rintro e r ⟨rfl,rfl⟩)|(at_builtin;refine a2K (l:=[]) a0M rfl (a0b.elem .u32) (Nat.le_refl _) p l rfl rfl j g (by simp;omega) (by simp;omega) ?_;intro o i s a d _))
  go_ret
  have:vl l=l:=by unfold vl;rw[b];rfl
  have m:=a4p hd;rw[this]at m;exact⟨(ExtX.refl w).own j (Nat.le_refl _) d,_,_,l,rfl,by simpa using a.lenCap,m,by simpa using a.sl (a0b.elem _)⟩
theorem a4A(X:Nat->Bool)(ao:Option Addr)(l:List Nat)(a:Nat)(w:World)(d:Sl (a0b .u32) 1 (mk X w) ao l)(hd:Dig l)(o:l.length<=4398046511104)(h:l.length<=a):Calls Tryz.prog 278 #[.slice ao l.length a] w (b1i X w ao l a):=by
 have j:=d.hd;go_enter Tryz.func278,Tryz.ntmps278
 go_wp2_with fail
 go_loop [0] (fun s=>∃k:Nat,s= .slice ao k a/\Cut l k) (fun s=>lenOf s)
 case atStart=>exact⟨_,rfl,Cut.all l⟩
 case round=>
  obtain⟨k,rfl,c⟩:=hrel;have n:=c.1;by_cases f:0<k
  ·have i:=d.nat (k - 1) (by omega)
   have m:Hd ao k:=fun _=>j (by omega);by_cases hz:l[k - 1]=0
   ·have e:=c.less f hz
    have g:=hid hz;rw[hz]at i;clear hz;go_wp2_with (with_reducible refine a0m a0M (by omega) (by assumption) ?_)
    go_round
    case rel=>exact⟨k - 1,by go_num,e⟩
    case measure=>simp[lenOf];omega
   ·have b:=c.canon hd (.inr ⟨by omega,hz⟩)
    have g:((l[k - 1]:Int)==0)=false:=a2v (by omega);go_wp2_with (with_reducible refine a0m a0M (by omega) (by assumption) ?_)
    go_ret
    exact⟨rfl,l.take k,a3w (by simp;omega),by simp;omega,b,d.take k⟩
  ·have b:=c.canon hd (.inl (by omega))
   go_wp2_with fail
   go_ret
   exact⟨rfl,l.take k,a3w (by simp;omega),by simp;omega,b,d.take k⟩
theorem a3B(X:Nat->Bool)(ao:Option Addr)(l:List Nat)(c:Nat)(i:Nat)(w:World)(g:Sl (a0b .u32) 1 (mk X w) ao l)(hd:Dig l)(hi:i<=4398046511104)(x:Nat)(hx:l.getD i 0=x):Calls Tryz.prog 277 #[.slice ao l.length c, .int .i64 i] w fun e j=>w=j/\e= .returned (.int .u64 x):=by
 have m:=g.hd;have b:=hid hx;clear hx;by_cases h:i<l.length
 ·have k:=g.nat i h
  have d:l.getD i 0=l[i]:=by simp[List.getD,h]
  have a:=hid d;have f:=hd.get i h;rw[a1b]at f;go_enter Tryz.func277,Tryz.ntmps277
  go_wp2_with (with_reducible refine a0m a0M (by omega) (by assumption) ?_)
  go_ret
  exact⟨rfl,a0I (by rw[<-b.out,a.out])⟩
 ·have d:l.getD i 0=0:=by simp[List.getD,h]
  have a:=hid d;go_enter Tryz.func277,Tryz.ntmps277
  go_wp2_with (with_reducible refine a0m a0M (by omega) (by assumption) ?_)
  go_ret
  exact⟨rfl,a0I (by rw[<-b.out,a.out];rfl)⟩
theorem a7n(X:Nat->Bool)(n:Nat)(w:World)(hn:n<18446744073709551616)(hX:∀k,X k=true->k<w.heap.size):Calls Tryz.prog 210 #[.int .u64 n] w (a3T X w n):=by
 have hO:OL (a0b .u32) 1 X w.heap.size 110 (w.alloc (.cells #[.int .u32 ((n:Int)%4294967296), .int .u32 ((n:Int)/4294967296)] 110)) (some ⟨w.heap.size,0,none⟩) 2 [n%4294967296,n/4294967296]:=
  OL.lit (a0b.elem .u32) hX (Nat.le_refl _) [.int .u32 ((n%4294967296:Nat):Int), .int .u32 ((n/4294967296:Nat):Int)] [n%4294967296,n/4294967296] _ (by simp[a0g,Value.cells]) rfl
   (fun i hi _=>by
            match i,hi with
            |0,_=>rfl
            |1,_=>rfl) (by simp)
 go_enter Tryz.func210,Tryz.ntmps210
 go_wp2_with fail
 refine(a4A X _ [n%4294967296,n/4294967296] _ _ (hO.sl (a0b.elem .u32)) (Dig.cons (by rw[a1b];exact Nat.mod_lt _ (by decide)) (Dig.cons (by rw[a1b];omega) Dig.nil)) (by simp) (by simp)).mono ?_;rintro e w' ⟨rfl,l',rfl,hl',hc,hs'⟩;go_wp2_with fail
 go_ret
 have hv:nv [n%4294967296,n/4294967296]=n:=by simp only[nv,a1b];omega
 rw[hv]at hc;exact⟨(ExtX.refl w).alloc _,_,2,_,rfl,by simpa using hl',hc,hs'⟩
theorem a7o(X:Nat->Bool)(f g:Option Addr)(a b:List Nat)(m n:Nat)(w:World)(j:Sl (a0b .u32) 1 (mk X w) f a)(l:Sl (a0b .u32) 1 (mk X w) g b)(y:a.length<=1099511627776)(z nb:Nat)(c:a0F a z)(d:a0F b nb):Calls Tryz.prog 279 #[.slice f a.length m, .slice g b.length n] w (a2y w (a2D z nb)):=by
 have u:=j.hd;have v:=l.hd;by_cases e:a.length<b.length
 ·have h:=hid (a3R c d e)
  have s:((a.length:Int) !=b.length)=true:=a7B (by omega);go_enter Tryz.func279,Tryz.ntmps279
  go_wp2_with fail
  go_ret
  exact⟨ExtX.refl _,a0I h.out.symm⟩
 by_cases r:b.length<a.length
 ·have h:=hid (a3S c d r)
  have s:((a.length:Int) !=b.length)=true:=a7B (by omega);go_enter Tryz.func279,Tryz.ntmps279
  go_wp2_with fail
  go_ret
  exact⟨ExtX.refl _,a0I h.out.symm⟩
 have s:((a.length:Int) !=b.length)=false:=b2N (by omega);have o:Hid (a.length=b.length):=hid (by omega);have t:b.length<=a.length:=by omega
 have C:a.length<=b.length:=by omega
 clear e r;go_enter Tryz.func279,Tryz.ntmps279
 go_wp2_with fail
 go_loopw [5] (fun i wr=>∃k:Nat,i= .int .i64 ((k:Int) - 1)/\k<=a.length/\Hid (a.drop k=b.drop k)/\Ext w wr) (fun i _=>(intOf i+1).toNat)
 case atStart=>exact⟨a.length,rfl,Nat.le_refl _,hid (by rw[List.drop_of_length_le (Nat.le_refl _),List.drop_of_length_le t]),ExtX.refl _⟩
 case round=>
  obtain⟨k,rfl,x,hdr,p⟩:=hrel;by_cases e:0<k
  ·have D:=(j.mono (a0b.mono _) (a0l p)).nat (k - 1) (by omega)
   have E:=(l.mono (a0b.mono _) (a0l p)).nat (k - 1) (by omega);have F:∀W,(Instr.indexAt 37 (.slice f a.length m) (.int .i64 ((k:Int) - 1))).run Tryz.prog W= .ok (.pointer (some (adr f (k - 1)))) W:=a0E a0M f a.length m .i64 (k - 1) u (by omega) (by omega);have G:∀W,(Instr.indexAt 37 (.slice g b.length n) (.int .i64 ((k:Int) - 1))).run Tryz.prog W= .ok (.pointer (some (adr g (k - 1)))) W:=a0E a0M g b.length n .i64 (k - 1) v (by omega) (by omega);by_cases A:a[k - 1]<b[k - 1]
   ·have h:=hid (a6w c d o.out e x hdr.out A)
    have H:((a[k - 1]:Int)<(b[k - 1]:Int)):=by omega
    go_wp2_with fail
    go_quiet (fail)
    go_wp2_with fail
    go_ret
    exact⟨p.drewN _,a0I h.out.symm⟩
   by_cases B:b[k - 1]<a[k - 1]
   ·have h:=hid (a6x c d o.out e x hdr.out B)
    go_wp2_with fail
    go_quiet (fail)
    go_wp2_with fail
    go_quiet (fail)
    go_wp2_with fail
    go_ret
    exact⟨(p.drewN _).drewN _,a0I h.out.symm⟩
   ·have q:=hid (a5i o.out e x hdr.out (by omega))
    go_wp2_with fail
    go_quiet (fail)
    go_wp2_with fail
    go_quiet (fail)
    go_wp2_with fail
    go_roundw
    case rel=>exact⟨k - 1,by go_num,by omega,q,p.drewN _⟩
    case measure=>simp[intOf];omega
  ·have h:=hid (a6y c d (k:=k) (by omega) hdr.out)
   go_wp2_with fail
   go_ret
   exact⟨p,a0I h.out.symm⟩
theorem b3p(X:Nat->Bool)(ao bo:Option Addr)(D E:List Nat)(ca cb:Nat)(w:World)(O:Sl (a0b .u32) 1 (mk X w) ao D)(Q:Sl (a0b .u32) 1 (mk X w) bo E)(u:Dig D)(z:Dig E)(I:D.length<=1099511627776)(J:E.length<=1099511627776)(hX:∀k,X k=true->k<w.heap.size)(na nb:Nat)(L:val D=na)(M:val E=nb):Calls Tryz.prog 201 #[.slice ao D.length ca, .slice bo E.length cb] w (a3T X w (na+nb)):=by
 go_enter Tryz.func201,Tryz.ntmps201
 go_wp2_with fail
 refine(a5T X _ _ _ _ O u (by omega) hX).mono ?_;rintro e w1 ⟨p,a0,a3,a,rfl,b6,d,n⟩;have s:∀k,X k=true->k<w1.heap.size:=fun k C=>Nat.lt_of_lt_of_le (hX k C) p.size;go_wp2_with fail
 refine(a5T X _ _ _ _ (Q.mono (a0b.mono _) (a0l p)) z (by omega) s).mono ?_;rintro e Z ⟨l,a2,a4,b,rfl,b7,f,R⟩;have a7:∀k,X k=true->k<Z.heap.size:=fun k C=>Nat.lt_of_lt_of_le (s k C) l.size;have b8:a.length<=1099511627776:=by rw[d.len];exact Nat.le_trans (b0Z D u) I
 have b9:b.length<=1099511627776:=by rw[f.len];exact Nat.le_trans (b0Z E z) J
 replace n:=n.mono (a0b.mono _) (a0l l)
 rw[L]at d;rw[M]at f;have U:Hid (nv a+nv b=na+nb):=hid (by rw[d.2.2,f.2.2]);have h:=d.1;have j:=f.1;have a5:=p.trans l;clear L M O Q I J d f u z p l s;obtain⟨m,hm⟩:∃m,max a.length b.length=m:=⟨_,rfl⟩;have b1:a.length<=m:=by omega
 have b2:b.length<=m:=by omega
 have c4:m<=1099511627776:=by omega
 have c5:(if a.length<b.length then(b.length:Int)else(a.length:Int))=(m:Int):=by split<;>omega
 have c3:=hid hm;clear hm;go_wp2_with fail
 go_loopw [5,6,7] (fun v c i wr=>∃(k:Nat) (o:List Nat) (A:Nat) (oo:Option Addr) (cp:Nat),i= .int .i64 k/\c= .int .u64 A/\v= .slice oo o.length cp/\k<=m+1/\a2E a b o k A/\OL (a0b .u32) 1 X Z.heap.size 110 wr oo cp o/\Ext Z wr) (fun _ _ i _=>m+1 - (intOf i).toNat)
 case atStart=>exact⟨0,[],0,none,0,rfl,rfl,rfl,by omega,a2E.start a b,OL.nil _ _ _ _ _ _,ExtX.refl _⟩
 case round=>
  obtain⟨k,o,A,oo,cp,rfl,rfl,rfl,C,g,Y,B⟩:=hrel;have N:=hid g.1;have c0:=g.2.2.1;have a8:∀k,X k=true->k<wr.heap.size:=fun k C=>Nat.lt_of_lt_of_le (a7 k C) B.size;have t:Z.heap.size<=wr.heap.size:=B.size;by_cases c2:k<=m
  ·have P:=n.mono (a0b.mono _) (a0l B)
   have S:=R.mono (a0b.mono _) (a0l B);have T:=g.step h j;have hx:=h.getD k;have hy:=j.getD k;rw[a1b]at hx hy;obtain⟨x,q⟩:∃x,a.getD k 0=x:=⟨_,rfl⟩;obtain⟨y,r⟩:∃y,b.getD k 0=y:=⟨_,rfl⟩;rw[q,r]at T;rw[q]at hx;rw[r]at hy;have V:=hid q;have W:=hid r;clear q r;go_wp2_with fail
   refine(a3B X a0 a a3 k _ P h (by omega) x V.out).mono ?_;rintro e w' ⟨rfl,rfl⟩;go_wp2_with fail
   refine(a3B X a2 b a4 k _ S j (by omega) y W.out).mono ?_;rintro e w' ⟨rfl,rfl⟩;have K:o.length<=2199023255552:=by rw[N.out];omega
   go_wp2_with (at_builtin;refine a2J a0M rfl (a0b.elem .u32) t a8 rfl rfl Y (.int .u32 (((x+y+A)%4294967296:Nat):Int)) ((x+y+A)%4294967296) (by simp[Value.cells]) rfl (by omega) (by omega) ?_;intro a1 F w3 a6 l _)
   go_roundw
   case rel=>exact⟨k+1,_,(x+y+A)/4294967296,a1,F,by go_num,by simp,by simp,by omega,T,a6,B.own Y (Nat.le_refl _) l⟩
   case measure=>simp[intOf];omega
  ·have a9:k=m+1:=by omega
   subst a9;have G:=g.done h j b1 b2;have b3:=g.2.1;have b5:=Y.sl (a0b.elem .u32);have K:o.length<=2199023255552:=by rw[N.out];omega
   have b0:=Y.lenCap;have H:=hid G;clear G;go_wp2_with fail
   refine(a4A X _ _ _ _ b5 b3 (by omega) b0).mono ?_;rintro e w' ⟨rfl,l',rfl,c1,hc,b4⟩;go_wp2_with fail
   go_ret
   rw[H.out,U.out]at hc;exact⟨a5.trans B,_,_,_,rfl,by omega,hc,b4⟩
end Go.Proofs.YtnnpfhoigmegcaaGreat
namespace Go.Lim
def a3b(a b o:List Nat)(i c:Nat):Prop:=o.length=i/\Dig o/\c<=1/\nv o+nv (b.take i)=nv (a.take i)+B^i*c
theorem a3b.start(a b:List Nat):a3b a b [] 0 0:=⟨rfl,Dig.nil,by omega,by simp[nv]⟩
theorem a3b.step{a b o:List Nat}{i c x y:Nat}(h:a3b a b o i c)(hx:a.getD i 0=x)(j:b.getD i 0=y)(s:Dig a)(t:Dig b):a3b a b (o++[a4e x y c]) (i+1) (a5R x y c):=by
 obtain⟨g,q,r,u⟩:=h;have e:=s.getD i;have f:=t.getD i;rw[hx]at e;rw[j]at f;obtain⟨l,m,n⟩:=a8z e f r;refine⟨by simp[g],q.append (Dig.cons m Dig.nil),n,?_⟩;rw[a1B,g,a0Z,a0Z,hx,j,Nat.pow_succ];generalize a4e x y c=d at*;generalize a5R x y c=k at*;have p:B^i*(d+y+c)=B^i*(x+B*k):=by rw[l]
 rw[Nat.mul_add,Nat.mul_add,Nat.mul_add]at p;rw[Nat.mul_assoc];omega
theorem a3b.done{a b o:List Nat}{c:Nat}(h:a3b a b o a.length c)(d:b.length<=a.length)(j:nv b<=nv a):nv o=nv a - nv b:=by
 obtain⟨e,f,k,g⟩:=h;rw[List.take_of_length_le d,List.take_of_length_le (Nat.le_refl _)]at g;have i:=a4o f;rw[e]at i;rcases(by omega:c=0\/c=1)with rfl|rfl
 ·omega
 ·omega
theorem b1t{x y c:Nat}(hx:x<4294967296)(b:y<4294967296)(a:c<=1):(x+4294967296 - y - c)%4294967296=a4e x y c/\1 - (x+4294967296 - y - c)/4294967296=a5R x y c:=by
 unfold a4e a5R;refine⟨rfl,?_⟩;split<;>omega
def a4B(a:List Nat)(v by_:Nat)(o:List Nat)(i c:Nat):Prop:=o.length=by_+i/\Dig o/\c<B/\nv o+B^(by_+i)*c=B^by_*(nv (a.take i)*v)
theorem a4B.start(a:List Nat)(v b:Nat):a4B a v b (List.replicate b 0) 0 0:=⟨by simp,Dig.zeros _,a1S,by simp[nv,a9s]⟩
theorem a4B.step{a o:List Nat}{v b i c x:Nat}(h:a4B a v b o i c)(hx:a.getD i 0=x)(p:Dig a)(u:v<4294967296):a4B a v b (o++[(x*v+c)%4294967296]) (i+1) ((x*v+c)/4294967296)/\x*v+c<18446744073709551616:=by
 obtain⟨g,m,n,s⟩:=h;have f:=p.getD i;rw[hx,a1b]at f;rw[a1b]at n;have t:x*v<=4294967295*4294967295:=Nat.mul_le_mul (by omega) (by omega);have d:x*v+c<18446744073709551616:=by omega
 refine⟨⟨by simp[g];omega,m.append (Dig.cons (by rw[a1b];exact Nat.mod_lt _ (by decide)) Dig.nil),by rw[a1b];omega,?_⟩,d⟩;rw[a1B,g,a0Z,hx,<-Nat.add_assoc,Nat.pow_succ];have e:=Nat.div_add_mod (x*v+c) 4294967296;generalize (x*v+c)/4294967296=q at*;generalize (x*v+c)%4294967296=r at*;have j:B^(b+i)*(4294967296*q+r)=B^(b+i)*(x*v+c):=by rw[e]
 rw[Nat.mul_add,Nat.mul_add]at j;have k:B^(b+i)*B*q=B^(b+i)*(4294967296*q):=by rw[a1b,Nat.mul_assoc]
 have l:B^b*((nv (a.take i)+B^i*x)*v)=B^b*(nv (a.take i)*v)+B^(b+i)*(x*v):=by
  rw[Nat.add_mul,Nat.mul_add,Nat.pow_add,Nat.mul_assoc (B^i),<-Nat.mul_assoc (B^b) (B^i)]
 rw[k,l];omega
theorem a4B.done{a o:List Nat}{v b c:Nat}(h:a4B a v b o (a.length+1) c)(k:Dig a)(m:v<4294967296):Dig o/\nv o=nv a*v*B^b:=by
 obtain⟨p,i,q,d⟩:=h;rw[List.take_of_length_le (by omega)]at d;have j:=a4o k;have l:c=0:=by
  by_cases g:c=0
  ·exact g
  ·have n:B^(b+(a.length+1))*1<=B^(b+(a.length+1))*c:=Nat.mul_le_mul_left _ (by omega)
   have e:nv a*v<B^(a.length+1):=by
    rw[Nat.pow_succ];exact Nat.lt_of_le_of_lt (Nat.mul_le_mul_left _ (Nat.le_of_lt (show v<B by rw[a1b];exact m))) (Nat.mul_lt_mul_of_pos_right j a1S)
   have f:B^b*(nv a*v)<B^b*B^(a.length+1):=Nat.mul_lt_mul_of_pos_left e (Nat.pow_pos a1S);rw[<-Nat.pow_add]at f;omega
 subst l;exact⟨i,by rw[Nat.mul_zero,Nat.add_zero]at d;rw[d,Nat.mul_comm]⟩
theorem b3q{l:List Nat}(hd:Dig l)(k:Nat):l.getD k 0=nv l/B^k%B:=by
 by_cases a:k<l.length
 ·have b:=a1L l k (by omega)
  have c:=a1z hd k;have d:nv (l.drop k)=l[k]+B*nv (l.drop (k+1)):=a4S a;have e:0<B^k:=Nat.pow_pos a1S;rw[a0u a,b,Nat.add_mul_div_left _ _ e,Nat.div_eq_of_lt c,Nat.zero_add,d,Nat.add_mul_mod_self_left,Nat.mod_eq_of_lt (hd.get k a)]
 ·have b:=a4o hd
  have c:B^l.length<=B^k:=Nat.pow_le_pow_right a1S (by omega);rw[a3O (by omega),Nat.div_eq_of_lt (by omega)];simp
theorem b7k{l:List Nat}{n:Nat}(h:a0F l n)(i:Nat):l.getD (i/32) 0/2^(i%32)%2=n/2^i%2:=by
 rw[b3q h.1,h.2.2];have e:i=32*(i/32)+i%32:=by omega
 have b:i%32<32:=Nat.mod_lt _ (by decide);generalize i/32=p at*;generalize i%32=s at*;subst e;rw[b3f,Nat.pow_add,<-Nat.div_div_eq_div_mul];generalize n/2^(32*p)=y;have a:B=2^s*(2*2^(31 - s)):=by
  rw[a1b,<-Nat.pow_succ',<-Nat.pow_add,show s+(31 - s).succ=32 by omega]
 rw[a,Nat.mod_mul_right_div_self];rw[Nat.mod_mul_right_mod]
def a2z(a b q r i:Nat):Prop:=q=a/2^i/b/\r=a/2^i%b
theorem a2z.start{a b k:Nat}(h:a<2^k):a2z a b 0 0 k:=by
 unfold a2z;rw[Nat.div_eq_of_lt h];exact⟨by simp,by simp⟩
theorem a2z.step{a b q r i t:Nat}(h:a2z a b q r (i+1))(f:0<b)(o:a/2^i%2=t):r<b/\(2*r+t<b->a2z a b (2*q) (2*r+t) i)/\(b<=2*r+t->a2z a b (2*q+1) (2*r+t - b) i):=by
 obtain⟨j,d⟩:=h;rw[Nat.pow_succ,<-Nat.div_div_eq_div_mul]at j d;have e:=Nat.div_add_mod (a/2^i) 2;rw[o]at e;have k:=Nat.div_add_mod (a/2^i/2) b;rw[<-j,<-d]at k;have n:r<b:=by rw[d];exact Nat.mod_lt _ f
 unfold a2z;generalize a/2^i=y at*;generalize y/2=z at*;have g:y=b*(2*q)+(2*r+t):=by
  rw[Nat.mul_left_comm];omega
 refine⟨n,fun c=>?_,fun m=>?_⟩
 ·rw[g]
  exact⟨by rw[Nat.mul_add_div f,Nat.div_eq_of_lt c,Nat.add_zero],by rw[Nat.mul_add_mod,Nat.mod_eq_of_lt c]⟩
 ·have c:2*r+t - b<b:=by omega
  have l:y=b*(2*q+1)+(2*r+t - b):=by rw[g,Nat.mul_add,Nat.mul_one];omega
  rw[l];exact⟨by rw[Nat.mul_add_div f,Nat.div_eq_of_lt c,Nat.add_zero],by rw[Nat.mul_add_mod,Nat.mod_eq_of_lt c]⟩
theorem a2z.done{a b q r:Nat}(h:a2z a b q r 0):q=a/b/\r=a%b:=by
 unfold a2z at h;simpa using h
end Go.Lim
namespace Go.Rep
open Go.RowKit Go.Lim
def HX(X:Nat->Bool)(w:World):Prop:=∀k,X k=true->k<w.heap.size
theorem HX.ext{X Y:Nat->Bool}{w a:World}(h:HX X w)(b:ExtX Y w a):HX X a:=fun k c=>Nat.lt_of_lt_of_le (h k c) b.size
theorem HX.none(w:World):HX noY w:=fun k a=>by simp[noY]at a
def NV(h:Mem)(u:Value)(n:Nat):Prop:=∃ao c l,u= .slice ao l.length c/\l.length<=c/\Dig l/\l.length<=1099511627776/\Sl (a0b .u32) 1 h ao l/\val l=n
def NC(h:Mem)(u:Value)(n:Nat):Prop:=∃ao c l,u= .slice ao l.length c/\l.length<=c/\a0F l n/\Sl (a0b .u32) 1 h ao l
theorem NV.mono:a2X NV:=by rintro h i u x g ⟨ao,c,l,rfl,a,b,d,e,f⟩;exact⟨ao,c,l,rfl,a,b,d,e.mono (a0b.mono _) g,f⟩
theorem NC.mono:a2X NC:=by rintro h f u x e ⟨ao,c,l,rfl,a,b,d⟩;exact⟨ao,c,l,rfl,a,b,d.mono (a0b.mono _) e⟩
theorem NC.nv{h:Mem}{u:Value}{n:Nat}(f:NC h u n)(e:lg n<=1099511627776):NV h u n:=by
 obtain⟨ao,c,l,rfl,b,a,d⟩:=f;exact⟨ao,c,l,rfl,b,a.1,by rw[a.len];exact e,d,a.val⟩
theorem NC.zero(h:Mem):NC h (.slice none 0 0) 0:=⟨none,0,[],rfl,Nat.le_refl _,a0F.nil,Sl.nil _ _ _ _⟩
theorem NC.one{h:Mem}{ao:Option Addr}{c:Nat}(a:1<=c)(b:Sl (a0b .u32) 1 h ao [1]):NC h (.slice ao 1 c) 1:=⟨ao,c,[1],rfl,a,a9u (by omega) (by omega),b⟩
theorem NV.lg{h:Mem}{u:Value}{n:Nat}(d:NV h u n):lg n<=1099511627776:=by
 obtain⟨ao,c,l,rfl,e,a,b,f,rfl⟩:=d;exact Nat.le_trans (b0Z l a) b
def a1F{α:Type}(X:Nat->Bool)(w:World)(R:Mem->Value->α->Prop)(x:α)(e:Ending)(w':World):Prop:=Ext w w'/\∃u,e= .returned u/\R (mk X w') u x
theorem mkx{X:Nat->Bool}{w a:World}{α:Type}{R:Mem->Value->α->Prop}(c:a2X R){u:Value}{x:α}(h:R (mk X w) u x)(b:Ext w a):R (mk X a) u x:=c _ _ _ _ (a0l b) h
end Go.Rep
namespace Go.Proofs.YtnnpfhoigmegcaaGreat
open Go.RowKit Go.Rep Go.Lim
theorem a3T.r{X:Nat->Bool}{w:World}{n:Nat}{e:Ending}{a:World}(h:a3T X w n e a):a1F X w NC n e a:=by
 obtain⟨g,ao,c,l,rfl,b,d,f⟩:=h;exact⟨g,_,rfl,ao,c,l,rfl,b,d,f⟩
section
variable {X:Nat->Bool} {w:World} {u v:Value} {a b:Nat}
theorem b8j(n:HX X w)(o:NV (mk X w) u a)(p:NV (mk X w) v b):Calls Tryz.prog 166 #[u,v] w (a1F X w NC (a+b)):=by
 obtain⟨ao,c,l,rfl,f,g,i,j,k⟩:=o;obtain⟨e,d,m,rfl,q,s,t,x,y⟩:=p;exact(b5B X ao e l m c d w j x g s i t f q n a b k y).mono fun _ _ h=>h.r
theorem b4G(n:HX X w)(o:NV (mk X w) u a)(p:NV (mk X w) v b):Calls Tryz.prog 234 #[u,v] w (a1F X w NC (a*b)):=by
 obtain⟨ao,c,l,rfl,f,g,i,j,k⟩:=o;obtain⟨e,d,m,rfl,q,s,t,x,y⟩:=p;exact(b5C X ao e l m c d w j x g s i t f q n a b k y).mono fun _ _ h=>h.r
theorem b8L(n:HX X w)(o:NV (mk X w) u a)(p:NV (mk X w) v b):Calls Tryz.prog 293 #[u,v] w (a1F X w NC (Nat.gcd a b)):=by
 obtain⟨ao,c,l,rfl,f,g,i,j,k⟩:=o;obtain⟨e,d,m,rfl,q,s,t,x,y⟩:=p;exact(b5N X ao e l m c d w j x g s i t f q n a b k y).mono fun _ _ h=>h.r
theorem b7Y(k:NV (mk X w) u a)(n:NV (mk X w) v b):Calls Tryz.prog 168 #[u,v] w (a2y w (a2D a b)):=by
 obtain⟨ao,c,l,rfl,f,g,h,i,j⟩:=k;obtain⟨e,d,m,rfl,o,p,q,r,s⟩:=n;exact a3a X ao e l m c d w i r g p h q f o a b j s
def b8M(X:Nat->Bool)(w:World)(q r:Nat)(e:Ending)(w':World):Prop:=Ext w w'/\∃u v,e= .returned (.tuple #[u,v, .bool true])/\NC (mk X w') u q/\NC (mk X w') v r
theorem b8N(s:HX X w)(x:NV (mk X w) u a)(y:NV (mk X w) v b)(t:0<b):Calls Tryz.prog 245 #[u,v] w (b8M X w (a/b) (a%b)):=by
 obtain⟨ao,c,l,rfl,k,n,o,p,q⟩:=x;obtain⟨h,d,m,rfl,z,A,B,C,D⟩:=y;refine(a8C X ao h l m c d w p C n A o B k z s a b q D t).mono ?_;rintro e M ⟨r,f,i,E,g,j,F,rfl,G,H,I,J,K,L⟩;exact⟨r,_,_,rfl,⟨f,i,E,rfl,G,H,I⟩,⟨g,j,F,rfl,J,K,L⟩⟩
def b8O(X:Nat->Bool)(w:World)(d:Nat)(b:Bool)(e:Ending)(w':World):Prop:=Ext w w'/\∃u,e= .returned (.tuple #[u, .bool b])/\NC (mk X w') u d
theorem b8P(q:HX X w)(r:NV (mk X w) u a)(s:NV (mk X w) v b):Calls Tryz.prog 307 #[u,v] w (b8O X w (a - b) (decide (b<=a))):=by
 obtain⟨ao,c,l,rfl,i,j,k,n,o⟩:=r;obtain⟨g,d,m,rfl,t,x,y,z,A⟩:=s;refine(b5I X ao g l m c d w n z j x k y i t q a b o A).mono ?_;rintro e F ⟨p,f,h,B,rfl,C,D,E⟩;exact⟨p,_,rfl,f,h,B,rfl,C,D,E⟩
theorem b7l(b:HX X w)(c:a<18446744073709551616):Calls Tryz.prog 244 #[.int .u64 a] w (a1F X w NC a):=
 (a3y X a w c b).mono fun _ _ h=>h.r
theorem b3r(k:HX X w)(n:NV (mk X w) u a)(o:NV (mk X w) v b):Calls Tryz.prog 201 #[u,v] w (a1F X w NC (a+b)):=by
 obtain⟨ao,c,l,rfl,x,f,g,i,j⟩:=n;obtain⟨e,d,m,rfl,y,p,q,s,t⟩:=o;exact(b3p X ao e l m c d w i s f p g q k a b j t).mono fun _ _ h=>h.r
theorem a3C(e:HX X w)(f:NV (mk X w) u a):Calls Tryz.prog 196 #[u] w (a1F X w NC a):=by
 obtain⟨ao,c,l,rfl,g,b,i,d,rfl⟩:=f;exact(a5T X ao l c w d b (by omega) e).mono fun _ _ h=>h.r
theorem b4H(b:HX X w)(c:a<18446744073709551616):Calls Tryz.prog 210 #[.int .u64 a] w (a1F X w NC a):=
 (a7n X a w c b).mono fun _ _ h=>h.r
end
end Go.Proofs.YtnnpfhoigmegcaaGreat
namespace Go.Proofs.YtnnpfhoigmegcaaGreat
open Go.RowKit Go.Rep Go.Lim
theorem b5O(X:Nat->Bool)(w:World)(u v:Value)(r nb:Nat)(Z:HX X w)(hu:NV (mk X w) u r)(hv:NV (mk X w) v nb):Calls Tryz.prog 202 #[u,v] w (b8O X w (r - nb) (decide (nb<=r))):=by
 have L:=hu.lg;have M:=hv.lg;go_enter Tryz.func202,Tryz.ntmps202
 go_wp2_with fail
 refine(a3C Z hu).mono ?_;rintro e w1 ⟨l,u1,rfl,T⟩;go_wp2_with fail
 refine(a3C (Z.ext l) (mkx NV.mono hv l)).mono ?_;rintro e w2 ⟨j,v1,rfl,b6⟩;obtain⟨ao,ca,a,rfl,b8,d,F⟩:=mkx NC.mono T j;obtain⟨bo,cb,b,rfl,b9,f,G⟩:=b6;have J:=Z.ext (l.trans j);have a5:a.length<=1099511627776:=by rw[d.len];exact L
 have b7:b.length<=1099511627776:=by rw[f.len];exact M
 have A:=l.trans j;have n:=hid d.len;have p:=hid f.len;clear hu hv T l j Z L M;go_wp2_with fail
 refine(a7o X ao bo a b ca cb w2 F G a5 r nb d f).mono ?_;rintro e w3 ⟨m,rfl⟩;have a2:=J.ext m;have B:=A.trans m;by_cases q:r<nb
 ·have hc:a2D r nb<0:=(a3t _ _).2 q
  have hd:Hid (decide (nb<=r)=false):=hid (decide_eq_false (by omega));have hz:Hid (r - nb=0):=hid (by omega);clear q;go_wp2_with fail
  go_ret2
  exact⟨B, .slice none 0 0,by rw[hd.out];rfl,by rw[hz.out];exact NC.zero _⟩
 ·have hc:¬a2D r nb<0:=fun h=>q ((a3t _ _).1 h)
  have hd:Hid (decide (nb<=r)=true):=hid (decide_eq_true (by omega));have a4:b.length<=a.length:=by rw[n.out,p.out];exact a0Y (by omega)
  have b1:Hid (nv b<=nv a):=hid (by rw[d.2.2,f.2.2];omega);have S:Hid (nv a - nv b=r - nb):=hid (by rw[d.2.2,f.2.2]);have D:=d.1;have E:=f.1;have O:=F.mono (a0b.mono _) (a0l m);have Q:=G.mono (a0b.mono _) (a0l m);clear q d f m A J F G n p;go_wp2_with fail
  go_loopw [6,7,8] (fun v c i wr=>∃(k:Nat) (o:List Nat) (s:Nat) (oo:Option Addr) (W:Nat),i= .int .i64 k/\c= .int .u64 s/\v= .slice oo o.length W/\k<=a.length/\s<=1/\Hid (a3b a b o k s)/\o.length<=k/\OL (a0b .u32) 1 X w3.heap.size 110 wr oo W o/\Ext w3 wr) (fun _ _ i _=>a.length - (intOf i).toNat)
  case atStart=>exact⟨0,[],0,none,0,rfl,rfl,rfl,by omega,by omega,hid (a3b.start a b),by simp,OL.nil _ _ _ _ _ _,ExtX.refl _⟩
  case round=>
   obtain⟨k,o,s,oo,W,rfl,rfl,rfl,hk,a7,g,c1,Y,H⟩:=hrel;have a3:∀k,X k=true->k<wr.heap.size:=fun k hk=>Nat.lt_of_lt_of_le (a2 k hk) H.size;have C:w3.heap.size<=wr.heap.size:=H.size;by_cases q:k<a.length
   ·have N:=O.mono (a0b.mono _) (a0l H)
    have P:=Q.mono (a0b.mono _) (a0l H);have hx:=D.getD k;have hy:=E.getD k;rw[a1b]at hx hy;obtain⟨x,t⟩:∃x,a.getD k 0=x:=⟨_,rfl⟩;obtain⟨y,z⟩:∃y,b.getD k 0=y:=⟨_,rfl⟩;rw[t]at hx;rw[z]at hy;have b5:=hid (g.out.step t z D E);have R:=hid (b1t hx hy a7);have K:a5R x y s<=1:=by unfold a5R;split<;>omega
    have U:=hid t;have V:=hid z;clear t z g;go_wp2_with fail
    refine(a3B X ao a ca k _ N D (by omega) x U.out).mono ?_;rintro e w' ⟨rfl,rfl⟩;go_wp2_with fail
    refine(a3B X bo b cb k _ P E (by omega) y V.out).mono ?_;rintro e w' ⟨rfl,rfl⟩;go_wp2_with (at_builtin;refine a2J a0M rfl (a0b.elem .u32) C a3 rfl rfl Y (.int .u32 ((a4e x y s:Nat):Int)) (a4e x y s) (by rw[<-R.out.1];simp[Value.cells];omega) rfl (by omega) (by omega) ?_;intro a0 I w5 a1 j _)
    have a6:Hid ((1:Int) - ((x:Int)+4294967296 - (y:Int) - (s:Int))/4294967296=((a5R x y s:Nat):Int)):=hid (by have:=R.out.2;omega);go_roundw
    case rel=>exact⟨k+1,_,a5R x y s,a0,I,by go_num,by rw[a6.out],by simp,by omega,K,b5,by simp;omega,a1,H.own Y (Nat.le_refl _) j⟩
    case measure=>simp[intOf];omega
   ·have a9:k=a.length:=by omega
    subst a9;have a8:=hid (g.out.done a4 b1.out);have b2:=g.out.2.1;have b4:=Y.sl (a0b.elem .u32);have b0:=Y.lenCap;go_wp2_with fail
    refine(a4A X _ _ _ _ b4 b2 (by omega) b0).mono ?_;rintro e w' ⟨rfl,l',rfl,c0,hc,b3⟩;go_wp2_with fail
    go_ret2
    rw[a8.out,S.out]at hc;exact⟨B.trans H,_,by rw[hd.out];rfl,oo,W,l',rfl,by omega,hc,b3⟩
theorem b1u(X:Nat->Bool)(w:World)(u:Value)(n v b:Nat)(V:HX X w)(hu:NC (mk X w) u n)(Z:lg n<=549755813888)(hb:b<=549755813888)(hv:v<4294967296):Calls Tryz.prog 280 #[u, .int .u32 v, .int .i64 b] w (a1F X w NC (n*v*B^b)):=by
 obtain⟨ao,ca,a,rfl,a1,d,R⟩:=hu;have a0:a.length<=549755813888:=by rw[d.len];exact Z
 have j:=d.1;have N:=hid d.2.2;clear d Z;go_enter Tryz.func280,Tryz.ntmps280
 go_wp2_with (at_make;refine a1G a0M (a0b.elem .u32) 0 (fun _=>rfl) X V w.heap.size (Nat.le_refl _) b rfl rfl (by omega) (by omega) (by omega) ?_;intro oo w1 p z)
 go_loopw [7,8,9] (fun v_ c i wr=>∃(k:Nat) (o:List Nat) (r:Nat) (oo:Option Addr) (F:Nat),i= .int .i64 k/\c= .int .u64 r/\v_= .slice oo o.length F/\k<=a.length+1/\r<4294967296/\Hid (a4B a v b o k r)/\o.length<=b+k/\OL (a0b .u32) 1 X w.heap.size 110 wr oo F o/\Ext w wr) (fun _ _ i _=>a.length+1 - (intOf i).toNat)
 case atStart=>exact⟨0,_,0,oo,b,rfl,rfl,by simp,by omega,by omega,hid (a4B.start a v b),by simp,p,z⟩
 case round=>
  clear p z;obtain⟨k,o,r,U,F,rfl,rfl,rfl,Y,a2,f,a5,p,y⟩:=hrel;have J:∀k,X k=true->k<wr.heap.size:=fun k Y=>Nat.lt_of_lt_of_le (V k Y) y.size;have q:w.heap.size<=wr.heap.size:=y.size;by_cases a4:k<=a.length
  ·have D:=R.mono (a0b.mono _) (a0l y)
   have hx:=j.getD k;rw[a1b]at hx;obtain⟨x,l⟩:∃x,a.getD k 0=x:=⟨_,rfl⟩;rw[l]at hx;obtain⟨h,m⟩:=f.out.step l j hv;have E:=hid l;obtain⟨t,T⟩:∃t,x*v+r=t:=⟨_,rfl⟩;rw[T]at h m;have S:=hid h;have a6:IntKind.u64.wrap ((x:Int)*(v:Int))=(x:Int)*(v:Int):=IntWalk.u64_in _ (by rw[<-Int.natCast_mul];omega);have a7:IntKind.u64.wrap ((x:Int)*(v:Int)+(r:Int))=(t:Int):=by
    rw[<-T,Int.natCast_add,Int.natCast_mul];exact IntWalk.u64_in _ (by rw[<-Int.natCast_mul];omega)
   have A:t/4294967296<4294967296:=by omega
   have C:decide ((k:Int)<=(a.length:Int))=true:=decide_eq_true (by omega);clear l f h T m;go_wp2_with fail
   refine(a3B X ao a ca k _ D j (by omega) x E.out).mono ?_;rintro e w' ⟨rfl,rfl⟩;go_wp2_with (at_builtin;refine a2J a0M rfl (a0b.elem .u32) q J rfl rfl p (.int .u32 ((t%4294967296:Nat):Int)) (t%4294967296) (by simp[Value.cells]) rfl (by omega) (by omega) ?_;intro G s w5 I H _)
   go_roundw
   case rel=>exact⟨k+1,_,t/4294967296,G,s,by go_num,by rw[Int.natCast_ediv];rfl,by simp,by omega,A,S,by simp;omega,I,y.own p (Nat.le_refl _) H⟩
   case measure=>simp[intOf];omega
  ·have L:k=a.length+1:=by omega
   subst L;have g:=f.out.done j hv;have K:=hid g.2;have O:=g.1;have Q:=p.sl (a0b.elem .u32);have M:=p.lenCap;have C:decide (((a.length+1:Nat):Int)<=(a.length:Int))=false:=decide_eq_false (by omega);clear g f;go_wp2_with fail
   refine(a4A X _ _ _ _ Q O (by omega) M).mono ?_;rintro e w' ⟨rfl,l',rfl,a3,W,P⟩;go_wp2_with fail
   go_ret
   rw[K.out,N.out]at W;exact⟨y,_,rfl,U,F,l',rfl,by omega,W,P⟩
theorem b3s(X:Nat->Bool)(w:World)(u v:Value)(a nb:Nat)(E:HX X w)(Q:NV (mk X w) u a)(R:NV (mk X w) v nb)(O:lg a<=274877906944)(P:lg nb<=274877906944):Calls Tryz.prog 203 #[u,v] w (a1F X w NC (a*nb)):=by
 go_enter Tryz.func203,Tryz.ntmps203
 go_wp2_with fail
 refine(a3C E Q).mono ?_;rintro e w1 ⟨d,Y,rfl,D⟩;go_wp2_with fail
 refine(a3C (E.ext d) (mkx NV.mono R d)).mono ?_;rintro e Z ⟨f,v1,rfl,M⟩;have L:=mkx NC.mono D f;obtain⟨bo,cb,b,rfl,U,c,z⟩:=M;have G:=E.ext (d.trans f);have T:b.length<=274877906944:=by rw[c.len];exact P
 have q:=d.trans f;have s:=c.1;have H:=hid c.2.2;have V:=z.hd;have h:=hid O;clear Q R D d f E P c O;go_wp2_with fail
 go_loopw [5,6] (fun o i wr=>∃(k:Nat),i= .int .i64 k/\k<=b.length/\NC (mk X wr) o (a*nv (b.take k))/\Ext Z wr) (fun _ i _=>b.length - (intOf i).toNat)
 case atStart=>exact⟨0,rfl,by omega,by simpa[nv]using NC.zero _,ExtX.refl _⟩
 case round=>
  obtain⟨k,rfl,hk,I,p⟩:=hrel;have r:=G.ext p;by_cases m:k<b.length
  ·have l:=(z.mono (a0b.mono _) (a0l p)).nat k m
   have hx:=s.get k m;obtain⟨x,n⟩:∃x,b[k]=x:=⟨_,rfl⟩;have J:Hid (a*nv (b.take k)+a*x*B^k=a*nv (b.take (k+1))):=hid (by rw[a0A b k m,n,Nat.mul_add,Nat.mul_assoc a x,Nat.mul_comm x]);rw[n]at l hx;rw[a1b]at hx;have K:Hid (lg (a*nv (b.take k))<=1099511627776):=hid (by
    have N:=a0P a (nv (b.take k));have S:lg (nv (b.take k))<=k:=a2t.2 (a1z s k);have:=h.out;omega)
   have A:Hid (lg (a*x*B^k)<=1099511627776):=hid (by
    have N:a*x*B^k<B^(lg a+1+k):=by
     rw[Nat.pow_add,Nat.pow_succ];refine Nat.mul_lt_mul_of_pos_right ?_ (Nat.pow_pos a1S);refine Nat.lt_of_le_of_lt (Nat.mul_le_mul_left _ (show x<=B by rw[a1b];omega)) (Nat.mul_lt_mul_of_pos_right (a2t.1 (Nat.le_refl _)) a1S)
    have S:=a2t.2 N;have:=h.out;omega)
   clear n;go_wp2_with (with_reducible refine a0m a0M (by omega) (by assumption) ?_)
   refine(b1u X wr Y a x k r (mkx NC.mono L p) (by have:=h.out;omega) (by omega) hx).mono ?_;rintro e w4 ⟨j,t,rfl,W⟩;go_wp2_with fail
   refine(b3r (r.ext j) (mkx NV.mono (I.nv K.out) j) (W.nv A.out)).mono ?_;rintro e w5 ⟨F,t2,rfl,C⟩;rw[J.out]at C;go_wp2_with fail
   go_roundw
   case rel=>exact⟨k+1,by go_num,by omega,C,p.trans (j.trans F)⟩
   case measure=>simp[intOf];omega
  ·have y:k=b.length:=by omega
   have g:a*nv (b.take k)=a*nb:=by rw[y,List.take_length,H.out]
   rw[g]at I;clear g y;go_wp2_with fail
   go_ret
   exact⟨q.trans p,_,rfl,I⟩
end Go.Proofs.YtnnpfhoigmegcaaGreat
namespace Go.Rep
open Go.RowKit Go.Lim
theorem NC.lit{X:Nat->Bool}{w:World}(d:HX X w)(x:Nat)(t:TypeId)(a:0<x)(b:x<4294967296):NC (mk X (w.alloc (.cells #[.int .u32 (x:Int)] t))) (.slice (some ⟨w.heap.size,0,none⟩) 1 1) x:=by
 have c:OL (a0b .u32) 1 X w.heap.size t (w.alloc (.cells #[.int .u32 (x:Int)] t)) (some ⟨w.heap.size,0,none⟩) 1 [x]:=
  OL.lit (a0b.elem .u32) d (Nat.le_refl _) [.int .u32 (x:Int)] [x] _ (by simp[a0g,Value.cells]) rfl (fun i hi e=>by
   have:i=0:=by simp at hi;omega
   subst this;rfl) (by simp)
 exact⟨_,1,[x],rfl,Nat.le_refl _,a9u a b,c.sl (a0b.elem _)⟩
end Go.Rep
namespace Go.Proofs.YtnnpfhoigmegcaaGreat
open Go.RowKit Go.Rep Go.Lim
theorem b9d(X:Nat->Bool)(w:World)(u:Value)(n i:Nat)(D:NC (mk X w) u n)(hi:i<32*lg n)(C:lg n<=1099511627776):Calls Tryz.prog 323 #[u, .int .i64 i] w fun e E=>w=E/\e= .returned (.int .u32 (n/2^i%2:Nat)):=by
 obtain⟨ao,F,a,rfl,A,b,d⟩:=D;have h:i/32<a.length:=by rw[b.len];omega
 have z:a.length<=1099511627776:=by rw[b.len];exact C
 have c:=d.nat (i/32) h;have f:=b7k b i;rw[a0u h]at f;have hx:=b.1.get (i/32) h;obtain⟨x,g⟩:∃x,a[i/32]=x:=⟨_,rfl⟩;rw[g]at c f hx;rw[a1b]at hx;have G:=d.hd;have k:=hid f;have o:Hid (x<4294967296):=hid hx;have B:(i:Int)<=35184372088832:=by omega
 have v:(i:Int)/32=((i/32:Nat):Int):=by omega
 have y:(i:Int)%32=((i%32:Nat):Int):=by omega
 have j:Hid (i%32<32):=hid (Nat.mod_lt _ (by decide));obtain⟨p,r⟩:∃p,i/32=p:=⟨_,rfl⟩;obtain⟨q,hq⟩:∃q,i%32=q:=⟨_,rfl⟩;rw[r]at v h c;rw[hq]at y j;have s:q<32:=j.out;have l:Hid (x/2^q%2=n/2^i%2):=hid (by rw[<-hq];exact f);clear g f r hq k j b hx d;go_enter Tryz.func323,Tryz.ntmps323
 go_wp2_with (with_reducible refine a0m a0M (by omega) (by assumption) ?_)
 go_ret
 have m:x/2^q<4294967296:=Nat.lt_of_le_of_lt (Nat.div_le_self _ _) o.out;have t:=a2d (x/2^q) 1 m (by omega);rw[Nat.and_one_is_mod,l.out]at t;exact⟨rfl,a0I (by simpa using t)⟩
theorem a8D(X:Nat->Bool)(w:World)(u:Value)(n t:Nat)(l:HX X w)(o:NC (mk X w) u n)(r:lg n<=549755813887)(s:t<=1):Calls Tryz.prog 322 #[u, .int .u32 t] w (a1F X w NC (2*n+t)):=by
 have k:Hid (lg (n*2*B^0)<=1099511627776):=hid (by
  have p:=a0P n 2;have q:lg 2=1:=a2I (by omega) (by omega);rw[Nat.pow_zero,Nat.mul_one];omega)
 have j:Hid (lg 1<=1099511627776):=hid (by rw[a3i];decide);have f:Hid (n*2*B^0=2*n):=hid (by rw[Nat.pow_zero,Nat.mul_one,Nat.mul_comm]);go_enter Tryz.func322,Tryz.ntmps322
 go_wp2_with fail
 refine(b1u X w u n 2 0 l o (by omega) (by omega) (by omega)).mono ?_;rintro e w1 ⟨a,x,rfl,b⟩;have d:=l.ext a;rcases(by omega:t=0\/t=1)with rfl|rfl
 ·rw[f.out]at b
  go_wp2_with fail
  go_ret
  exact⟨a,_,rfl,b⟩
 ·go_wp2_with fail
  have m:=NC.lit d 1 110 (by omega) (by omega);have h:=a.alloc (.cells #[.int .u32 ((1:Nat):Int)] 110);have c:Ext w1 (w1.alloc (.cells #[.int .u32 ((1:Nat):Int)] 110)):=(ExtX.refl w1).alloc _;refine(b3r (d.ext c) (mkx NV.mono (b.nv k.out) c) (m.nv j.out)).mono ?_;rintro e y ⟨i,v,rfl,g⟩;rw[f.out]at g;go_wp2_with fail
  go_ret
  exact⟨h.trans i,_,rfl,g⟩
theorem b7m(X:Nat->Bool)(w:World)(u v:Value)(na nb:Nat)(hX:HX X w)(hu:NV (mk X w) u na)(hv:NV (mk X w) v nb)(h1:lg na<=274877906944)(h2:lg nb<=274877906944)(h0:0<nb):Calls Tryz.prog 276 #[u,v] w (b8M X w (na/nb) (na%nb)):=by
 go_enter Tryz.func276,Tryz.ntmps276
 go_wp2_with fail
 refine(a3C hX hu).mono ?_;rintro e w1 ⟨hE1,u1,rfl,hu1⟩;go_wp2_with fail
 refine(a3C (hX.ext hE1) (mkx NV.mono hv hE1)).mono ?_;rintro e w2 ⟨hE2,v1,rfl,hv1⟩;have hu2:=mkx NC.mono hu1 hE2;obtain⟨ao,ca,a,rfl,hca,hcan,hsa⟩:=id hu2;obtain⟨bo,cb,b,rfl,hcb,hcbn,hsb⟩:=id hv1;have hX2:=hX.ext (hE1.trans hE2);have hal:a.length<=274877906944:=by rw[hcan.len];exact h1
 have hall:=hid hcan.len;have hE12:=hE1.trans hE2;have hbl:¬b.length=0:=by have:=a1c hcbn;omega
 have hbI:(0:Int)<(b.length:Int):=by omega
 have hbz:((b.length:Int)==0)=false:=a2v (by omega);have hst:Hid (a2z na nb 0 0 (32*a.length)):=hid (a2z.start (by rw[<-b3f,hcan.len];exact a2t.1 (Nat.le_refl _)));have h1':=hid h1;have h2':=hid h2;have h0':=hid h0;clear hu hv hu1 hE1 hE2 hX h1 h2 h0 hcan hcbn hsa hsb hbl hca hcb;go_wp2_with fail
 go_loopw [7,8,9] (fun q r i wr=>∃(k Q R:Nat) (x:Int),i= .int .i64 x/\x=(k:Int) - 1/\k<=32*a.length/\Hid (a2z na nb Q R k)/\NC (mk X wr) q Q/\NC (mk X wr) r R/\Ext w2 wr) (fun _ _ i _=>(intOf i+1).toNat)
 case atStart=>exact⟨32*a.length,0,0,_,rfl,by omega,by omega,hst,NC.zero _,NC.zero _,ExtX.refl _⟩
 case round=>
  obtain⟨k,Q,R,x,rfl,hx,hk,hinv,hq,hr,hE⟩:=hrel;have hX3:=hX2.ext hE;cases k with
  |zero=>
   obtain rfl:x= -1:=by omega
   obtain⟨rfl,rfl⟩:=hinv.out.done;clear hinv hx hst;go_wp2_with fail
   go_ret3
   exact⟨hE12.trans hE,_,_,rfl,hq,hr⟩
  |succ i=>
   obtain rfl:x=(i:Int):=by omega
   have hi:i<32*lg na:=by rw[<-hall.out];omega
   obtain⟨t,ht⟩:∃t,na/2^i%2=t:=⟨_,rfl⟩;have ht1:t<=1:=by omega
   obtain⟨hR,hs1,hs2⟩:=hinv.out.step h0'.out ht;have hQb:Hid (lg Q<=274877906944):=hid (by
    have e1:Q<=na:=by rw[hinv.out.1];exact Nat.le_trans (Nat.div_le_self _ _) (Nat.div_le_self _ _)
    exact Nat.le_trans (a0Y e1) h1'.out)
   have hRb:Hid (lg R<=274877906944):=hid (Nat.le_trans (a0Y (Nat.le_of_lt hR)) h2'.out);have hRb2:Hid (lg (2*R+t)<=1099511627776):=hid (by
    have e1:=a9t (2*R) t;have e2:=a0P 2 R;have e3:lg 2=1:=a2I (by omega) (by omega);have e4:lg t<=1:=by have:=a0Y ht1;rw[a3i]at this;exact this
    have:=hRb.out;omega)
   have hs1':=hid hs1;have hs2':=hid hs2;have hbit:=b9d X wr _ na i (mkx NC.mono hu2 hE) hi (by have:=h1'.out;omega);rw[ht]at hbit;clear hinv hR hs1 hs2 hst ht hi hx;go_wp2_with fail
   refine hbit.mono ?_;rintro e w' ⟨rfl,rfl⟩;go_wp2_with fail
   refine(a8D X wr _ R t hX3 hr (by have:=hRb.out;omega) ht1).mono ?_;rintro e w4 ⟨hE4,r1,rfl,hr1⟩;have hX4:=hX3.ext hE4;have hq4:=mkx NC.mono hq hE4;have hb4:=(mkx NC.mono hv1 (hE.trans hE4)).nv (by have:=h2'.out;omega);clear hbit;go_wp2_with fail
   refine(b5O X w4 r1 _ (2*R+t) nb hX4 (hr1.nv hRb2.out) hb4).mono ?_;rintro e w5 ⟨hE5,d,rfl,hd⟩;have hX5:=hX4.ext hE5;have hq5:=mkx NC.mono hq4 hE5;by_cases hge:nb<=2*R+t
   ·have hi2:=hid (hs2'.out hge)
    have hdt:decide (nb<=2*R+t)=true:=decide_eq_true hge;rw[hdt];clear hge hdt;go_wp2_with fail
    refine(a8D X w5 _ Q 1 hX5 hq5 (by have:=hQb.out;omega) (by omega)).mono ?_;rintro e w6 ⟨hE6,q1,rfl,hq1⟩;go_wp2_with fail
    go_roundw
    case rel=>exact⟨i,_,_,_,rfl,rfl,by omega,hi2,hq1,mkx NC.mono hd hE6,hE.trans (hE4.trans (hE5.trans hE6))⟩
    case measure=>simp[intOf]
   ·have hi2:=hid (hs1'.out (by omega))
    have hdt:decide (nb<=2*R+t)=false:=decide_eq_false hge;rw[hdt];clear hge hdt;go_wp2_with fail
    refine(a8D X w5 _ Q 0 hX5 hq5 (by have:=hQb.out;omega) (by omega)).mono ?_;rintro e w6 ⟨hE6,q1,rfl,hq1⟩;go_wp2_with fail
    go_roundw
    case rel=>exact⟨i,_,_,_,rfl,rfl,by omega,hi2,hq1,mkx NC.mono hr1 (hE5.trans hE6),hE.trans (hE4.trans (hE5.trans hE6))⟩
    case measure=>simp[intOf]
theorem b7n(X:Nat->Bool)(w:World)(u v:Value)(s nb:Nat)(K:HX X w)(hu:NV (mk X w) u s)(hv:NV (mk X w) v nb)(Z:lg s<=274877906944)(h2:lg nb<=274877906944):Calls Tryz.prog 275 #[u,v] w (a1F X w NC (Nat.gcd s nb)):=by
 go_enter Tryz.func275,Tryz.ntmps275
 go_wp2_with fail
 refine(a3C K hu).mono ?_;rintro e w1 ⟨c,u1,rfl,I⟩;go_wp2_with fail
 refine(a3C (K.ext c) (mkx NV.mono hv c)).mono ?_;rintro e w2 ⟨g,v1,rfl,n⟩;have J:=mkx NC.mono I g;have O:=K.ext (c.trans g);have z:=c.trans g;have L:=hid Z;have M:=hid h2;clear hu hv I c g K Z h2;go_wp2_with fail
 go_loopw [0,1] (fun x y wr=>∃(p q:Nat) (t:Option Addr) (l o:Nat),y= .slice t l o/\NC (mk X wr) x p/\NC (mk X wr) (.slice t l o) q/\Hid (lg p<=274877906944)/\Hid (lg q<=274877906944)/\Hid (Nat.gcd p q=Nat.gcd s nb)/\Ext w2 wr) (fun _ y W=>b8i W y)
 case atStart=>
  obtain⟨t,o,b,rfl,_⟩:=id n;exact⟨s,nb,t,_,o,rfl,J,n,L,M,hid rfl,ExtX.refl _⟩
 case round=>
  obtain⟨p,q,t,l,o,rfl,hx,V,T,hq,R,N⟩:=hrel;have P:=O.ext N;obtain⟨a0,a1,b,B,Q,i,H⟩:=id V;simp only[Value.slice.injEq]at B;obtain⟨rfl,rfl,rfl⟩:=B;have C:=a1c i;have k:=a4U o H;rw[i.2.2]at k;have h:=hid k;clear k i H Q J n;by_cases hl:0<b.length
  ·have a:0<q:=by omega
   have S:(0:Int)<(b.length:Int):=by omega
   have U:Hid (Nat.gcd q (p%q)=Nat.gcd s nb):=hid (by rw[Nat.gcd_comm,<-Nat.gcd_rec,Nat.gcd_comm];exact R.out);have D:=hid (Nat.mod_lt p a);have F:=hid a;have hr:Hid (lg (p%q)<=274877906944):=hid (Nat.le_trans (a0Y (Nat.le_of_lt D.out)) hq.out);clear C a;go_wp2_with fail
   refine(b7m X wr _ _ p q P (hx.nv (by have:=T.out;omega)) (V.nv (by have:=hq.out;omega)) T.out hq.out F.out).mono ?_;rintro e w4 ⟨A,d,r,rfl,hd,G⟩;obtain⟨ro,Y,rl,rfl,m⟩:=id G;have j:=a4U Y m.2.2;rw[m.2.1.2.2]at j;have E:=hid j;clear j m;go_wp2_with fail
   go_roundw
   case rel=>exact⟨q,p%q,ro,_,Y,rfl,mkx NC.mono V A,G,hq,hr,U,N.trans A⟩
   case measure=>rw[E.out,h.out];exact D.out
  ·have a:q=0:=by omega
   have f:=R.out;rw[a,Nat.gcd_zero_right]at f;have S:((b.length:Int))=0:=by omega
   rw[f]at hx;clear f a C R T h;go_wp2_with fail
   go_ret
   exact⟨z.trans N,_,rfl,hx⟩
theorem b3t{α:Type}{a b:List α}(h:a.length=b.length)(c:∀i,(h1:i<a.length)->(h2:i<b.length)->a[i]=b[i]):a=b:=List.ext_getElem h c
theorem b0r{a b:List Nat}{i:Nat}(h:∀p,p<i->∀(c:p<a.length) (hq:p<b.length),a[p]=b[p])(g:∀(c:i<a.length) (hq:i<b.length),a[i]=b[i]):Hid (∀p,p<i+1->∀(c:p<a.length) (hq:p<b.length),a[p]=b[p]):=hid fun p c e f=>by
 by_cases d:p=i
 ·subst d;exact g e f
 ·exact h p (by omega) e f
theorem b4I{w wr:World}(h:Hid (∃m,wr=w.drewN m))(n:Nat):∃m,wr.drewN n=w.drewN m:=by
 obtain⟨m,rfl⟩:=h;exact⟨_,World.drewN_drewN _ _ _⟩
theorem b4J(X:Nat->Bool)(w:World)(u v:Value)(E nb:Nat)(Z:NC (mk X w) u E)(q:NC (mk X w) v nb)(C:lg E<=1099511627776):Calls Tryz.prog 115 #[u,v] w fun e w'=>e= .returned (.bool (decide (E=nb)))/\∃m,w'=w.drewN m:=by
 obtain⟨ao,N,a,rfl,G,d,t⟩:=Z;obtain⟨F,O,b,rfl,H,g,z⟩:=q;have V:a.length<=1099511627776:=by rw[d.len];exact C
 have I:=t.hd;have J:=z.hd;have n:Hid (decide (E=nb)=(a==b)):=hid (by
  rw[Bool.eq_iff_iff];simp only[decide_eq_true_eq,beq_iff_eq];constructor
  ·intro h;subst h;exact d.unique g
  ·intro h;subst h;exact d.2.2.symm.trans g.2.2)
 clear C G H d g;by_cases f:a.length=b.length
 ·have U:b.length<=a.length:=by omega
  have S:a.length<=b.length:=by omega
  have L:((a.length:Int) !=b.length)=false:=b2N (by omega);have o:=hid f;clear f;go_enter Tryz.func115,Tryz.ntmps115
  go_wp2_with fail
  go_loopw [5] (fun c wr=>∃i:Nat,c= .int .i64 i/\i<=a.length/\Hid (∀p,p<i->∀(D:p<a.length) (hq:p<b.length),a[p]=b[p])/\∃m,wr=w.drewN m) (fun c _=>a.length - (intOf c).toNat)
  case atStart=>exact⟨0,rfl,Nat.zero_le _,hid fun p D=>by omega,0,rfl⟩
  case round=>
   obtain⟨i,rfl,hi,s,l⟩:=hrel;have k:Hid (∃m,wr=w.drewN m):=hid l;have P:Ext w wr:=by
    obtain⟨m,Y⟩:=l;rw[Y];exact(ExtX.refl w).drewN m
   clear l;by_cases K:i<a.length
   ·have r:i<b.length:=by omega
    have Q:=(t.mono (a0b.mono _) (a0l P)).nat i K;have R:=(z.mono (a0b.mono _) (a0l P)).nat i r;have i1:∀W,(Instr.indexAt 37 (.slice ao a.length N) (.int .i64 (i:Int))).run Tryz.prog W= .ok (.pointer (some (adr ao i))) W:=a0E a0M ao a.length N .i64 i I (by omega) rfl;have i2:∀W,(Instr.indexAt 37 (.slice F b.length O) (.int .i64 (i:Int))).run Tryz.prog W= .ok (.pointer (some (adr F i))) W:=a0E a0M F b.length O .i64 i J (by omega) rfl;obtain⟨x,hx⟩:∃x,a[i]=x:=⟨_,rfl⟩;obtain⟨y,M⟩:∃y,b[i]=y:=⟨_,rfl⟩;rw[hx]at Q;rw[M]at R;have A:=hid hx;have B:=hid M;clear hx M;by_cases j:x=y
    ·have C:Hid (∀(D:i<a.length) (hq:i<b.length),a[i]=b[i]):=hid fun _ _=>by rw[A.out,B.out,j]
     have T:((x:Int) !=y)=false:=b2N (by omega);clear j;go_wp2_with fail
     go_quiet (fail)
     go_wp2_with fail
     go_roundw
     case rel=>exact⟨i+1,by go_num,by omega,b0r s.out C.out,b4I k _⟩
     case measure=>simp[intOf];omega
    ·have q:Hid ((a==b)=false):=hid (by
      cases h:a==b
      ·rfl
      ·have:=eq_of_beq h;subst this;exact absurd (A.out.symm.trans B.out) j)
     have T:((x:Int) !=y)=true:=a7B (by omega);clear j;go_wp2_with fail
     go_quiet (fail)
     go_wp2_with fail
     go_ret
     exact⟨a0p (q.out.symm.trans n.out.symm),b4I k _⟩
   ·have q:Hid ((a==b)=true):=hid (by rw[b3t o.out fun p D hq=>s.out p (by omega) D hq];simp)
    go_wp2_with fail
    go_ret
    exact⟨a0p (q.out.symm.trans n.out.symm),k.out⟩
 ·have L:((a.length:Int) !=b.length)=true:=a7B (by omega)
  have q:Hid ((a==b)=false):=hid (by
   cases h:a==b
   ·rfl
   ·have:=eq_of_beq h;subst this;exact absurd rfl f)
  clear f;go_enter Tryz.func115,Tryz.ntmps115
  go_wp2_with fail
  go_ret
  exact⟨a0p (q.out.symm.trans n.out.symm),0,rfl⟩
end Go.Proofs.YtnnpfhoigmegcaaGreat
namespace Go.Rep
open Go.RowKit
def Bx(w:World)(b:Nat)(cs:Array Value)(T:TypeId):Prop:=w.heap[b]? =some (.cells cs T (0,0))
theorem Bx.lt{w:World}{b:Nat}{a:Array Value}{T:TypeId}(h:Bx w b a T):b<w.heap.size:=(Array.getElem?_eq_some_iff.1 h).1
theorem Bx.cell{w:World}{b:Nat}{a:Array Value}{T:TypeId}(h:Bx w b a T)(i:Nat){u:Value}(c:a[i]? =some u):w.cell? ⟨b,i,none⟩=some u:=by
 unfold Bx at h;unfold World.cell?;rw[h];simpa using c
theorem Bx.frozen{w:World}{b:Nat}{a:Array Value}{T:TypeId}(h:Bx w b a T)(i:Nat):w.frozen? ⟨b,i,none⟩=false:=by
 unfold Bx at h;unfold World.frozen?;rw[h];simp
theorem Bx.ext{Y:Nat->Bool}{w c:World}{b:Nat}{a:Array Value}{T:TypeId}(h:Bx w b a T)(d:ExtX Y w c)(e:Y b=false):Bx c b a T:=by
 unfold Bx;rw[d.block b h.lt e];exact h
theorem Bx.ext0{w c:World}{b:Nat}{a:Array Value}{T:TypeId}(h:Bx w b a T)(d:Ext w c):Bx c b a T:=h.ext d rfl
theorem Bx.new(w:World)(a:Array Value)(T:TypeId):Bx (w.alloc (.cells a T)) w.heap.size a T:=heap_alloc_new w _
theorem a8E(g:Nat):ob (some ⟨g,0,none⟩) g=true:=by simp[ob]
theorem a0c{g k:Nat}(h:k≠g):ob (some ⟨g,0,none⟩) k=false:=by
 cases a:ob (some ⟨g,0,none⟩) k
 ·rfl
 ·have e:g=k:=by simpa[ob]using a
  exact absurd e.symm h
theorem a0G{w:World}{b i:Nat}{a:Array Value}{T:TypeId}(h:Bx w b a T)(v:Value)(hi:i<a.size):Bx (w.setCell ⟨b,i,none⟩ v) b (a.set i v) T/\ExtX (ob (some ⟨b,0,none⟩)) w (w.setCell ⟨b,i,none⟩ v):=by
 unfold Bx at*;have f:b<w.heap.size:=(Array.getElem?_eq_some_iff.1 h).1;refine⟨?_,⟨rfl,rfl,rfl,?_,?_⟩⟩
 ·simp only[World.setCell,Array.getElem?_modify,if_true,h,Option.map_some]
  simp[hi,Array.setIfInBounds]
 ·simp[World.setCell]
 ·intro k _ d
  have c:b≠k:=fun e=>by subst e;rw[a8E]at d;simp at d
  simp only[World.setCell,Array.getElem?_modify,if_neg c]
theorem Bx.set2{w:World}{b:Nat}{f g:Value}{T:TypeId}(h:Bx w b #[f,g] T)(v0 v1:Value):Bx ((w.setCell ⟨b,0,none⟩ v0).setCell ⟨b,1,none⟩ v1) b #[v0,v1] T/\ExtX (ob (some ⟨b,0,none⟩)) w ((w.setCell ⟨b,0,none⟩ v0).setCell ⟨b,1,none⟩ v1):=by
 obtain⟨a,c⟩:=a0G h v0 (i:=0) (by simp);obtain⟨d,e⟩:=a0G a v1 (i:=1) (by simp);exact⟨by simpa using d,c.trans e⟩
theorem Bx.set3{w:World}{b:Nat}{j k l:Value}{T:TypeId}(h:Bx w b #[j,k,l] T)(v0 v1 v2:Value):Bx (((w.setCell ⟨b,0,none⟩ v0).setCell ⟨b,1,none⟩ v1).setCell ⟨b,2,none⟩ v2) b #[v0,v1,v2] T/\ExtX (ob (some ⟨b,0,none⟩)) w (((w.setCell ⟨b,0,none⟩ v0).setCell ⟨b,1,none⟩ v1).setCell ⟨b,2,none⟩ v2):=by
 obtain⟨a,c⟩:=a0G h v0 (i:=0) (by simp);obtain⟨d,e⟩:=a0G a v1 (i:=1) (by simp);obtain⟨f,g⟩:=a0G d v2 (i:=2) (by simp);exact⟨by simpa using f,(c.trans e).trans g⟩
section
variable {P:Program} {ops:Array Oper} {Q:Exit->Act->World->Prop} {rest:List Oper} {a:Act} {w:World}
variable {d:Option Tmp} {ty:TypeId} {ps:String} {af:Array Edge}
theorem a5n{t:TypeId}{n b:Nat}{c a:Array Value}{T:TypeId}(p:a2e P t n)(j:Bx w b c T)(f:c.size=n)(d:a.size=n)(g:∀v∈a.toList,v.oneCell'=true):∃i,(storeVar t ⟨b,0,none⟩ (.agg a)).run P w= .ok () i/\Bx i b a T/\ExtX (ob (some ⟨b,0,none⟩)) w i:=by
 obtain⟨r,ti,s,m,o⟩:=p;have h:=run_storeCells_at P b 0 T a.toList 0 c w j (by simp[f,d]) g;refine⟨w.setRow b (c.toList.take (0+0)++a.toList++c.toList.drop (0+0+a.toList.length)).toArray,?_,?_,?_⟩
 rotate_left
 ·unfold Bx
  have:=setRow_heap w b c (c.toList.take (0+0)++a.toList++c.toList.drop (0+0+a.toList.length)).toArray T (0,0) j;rw[this]
  congr 2
  have e:c.toList.drop (0+0+a.toList.length)= []:=List.drop_of_length_le (by simp[d,f]);rw[e];simp
 ·exact⟨rfl,rfl,rfl,by simp,fun k _ q=>setRow_other w b k _ (fun l=>by subst l;simp[ob]at q)⟩
 ·simp[storeVar,sizeOf,typeInfo,m,o,Value.cells,d]
  simp only[Nat.zero_add,Array.length_toList,List.take_zero,List.nil_append,d]at h |-;exact h
theorem a0a{t:TypeId}{x y:Operand}{n b:Nat}{j f:Array Value}{T:TypeId}(m:a2e P t n)(hx:a.eval x= .pointer (some ⟨b,0,none⟩))(q:a.eval y= .agg f)(o:Bx w b j T)(h:j.size=n)(i:f.size=n)(c:∀v∈f.toList,v.oneCell'=true)(K:∀e,Bx e b f T->ExtX (ob (some ⟨b,0,none⟩)) w e->wpList P ops Q rest (a.put d undef) e):wpList P ops Q (⟨d, .store t x y,ty,ps,af,none⟩::rest) a w:=by
 refine wpList_plain rfl fun r g=>?_;obtain⟨e,p,k,l⟩:=a5n (P:=P) m o h i c;unfold Oper.wp;simp[execOp,hx,q,Instr.storeAt,Instr.sureAddr,p,Result.andThen];exact g _ _ (K e k l)
theorem a2o{t:TypeId}{n b:Nat}{a:Array Value}{T:TypeId}(i:a2e P t n)(k:Bx w b a T)(c:a.size=n):(loadVar t ⟨b,0,none⟩).run P w= .ok (.agg a) w:=by
 obtain⟨m,ti,f,g,h⟩:=i;have e:=run_loadCells_list (P:=P) w ⟨b,0,none⟩ a.toList (fun j v l=>by
  rw[Addr.add_lit,Nat.zero_add];exact k.cell j (by simpa using l))
 have d:a.toList.length=n:=by simpa using c
 rw[d]at e;simp[loadVar,isAgg,run_underlying f,sizeOf,typeInfo,g,h,e]
theorem a0d{fn:Func}{a:Array Value}{c:Tmp}{t:TypeId}{n b:Nat}{d:Array Value}{T:TypeId}(h:fn.results=#[.cell c t])(f:a.getD c undef= .pointer (some ⟨b,0,none⟩))(g:a2e P t n)(i:Bx w b d T)(e:d.size=n):(results fn a).run P w= .ok (.agg d) w:=by
 have j:=a2o (P:=P) g i e;rw[Array.getD_eq_getD_getElem?]at f;simp[results,h,f,asAddr,j]
theorem a0D{fn:Func}{a:Array Value}{c d:Tmp}{t:TypeId}{n b:Nat}{e:Array Value}{T:TypeId}(h:fn.results=#[.cell c t, .tmp d])(g:a.getD c undef= .pointer (some ⟨b,0,none⟩))(i:a2e P t n)(j:Bx w b e T)(f:e.size=n):(results fn a).run P w= .ok (.tuple #[.agg e,a.getD d undef]) w:=by
 have k:=a2o (P:=P) i j f;rw[Array.getD_eq_getD_getElem?]at g;simp[results,h,g,asAddr,k]
end
theorem a0Q(w:World)(x:Array Value)(T:TypeId):∃W,w.alloc (.cells x T)=W/\Ext w W/\Bx W w.heap.size x T/\W.heap.size=w.heap.size+1:=
 ⟨_,rfl,(ExtX.refl w).alloc _,Bx.new w _ _,by simp⟩
theorem a1a(w:World)(x y:Array Value)(T U:TypeId):∃W,(w.alloc (.cells x T)).alloc (.cells y U)=W/\Ext w W/\Bx W w.heap.size x T/\Bx W (w.heap.size+1) y U/\W.heap.size=w.heap.size+2:=by
 obtain⟨W,b,c,d,e⟩:=a0Q w x T;obtain⟨V,f,a,g,h⟩:=a0Q W y U;exact⟨V,by rw[b,f],c.trans a,d.ext0 a,by rw[<-e];exact g,by omega⟩
theorem a1P(w:World)(x y z:Array Value)(T U S:TypeId):∃W,((w.alloc (.cells x T)).alloc (.cells y U)).alloc (.cells z S)=W/\Ext w W/\Bx W w.heap.size x T/\Bx W (w.heap.size+1) y U/\Bx W (w.heap.size+1+1) z S/\W.heap.size=w.heap.size+3:=by
 obtain⟨W,b,c,d,f,e⟩:=a1a w x y T U;obtain⟨V,g,a,h,i⟩:=a0Q W z S;exact⟨V,by rw[b,g],c.trans a,d.ext0 a,f.ext0 a,by rw[<-e];exact h,by omega⟩
theorem b7o(w:World)(x y z u:Array Value)(T U S R:TypeId):∃W,(((w.alloc (.cells x T)).alloc (.cells y U)).alloc (.cells z S)).alloc (.cells u R)=W/\Ext w W/\Bx W w.heap.size x T/\Bx W (w.heap.size+1) y U/\Bx W (w.heap.size+1+1) z S/\Bx W (w.heap.size+1+1+1) u R/\W.heap.size=w.heap.size+4:=by
 obtain⟨W,b,c,d,f,g,e⟩:=a1P w x y z T U S;obtain⟨V,h,a,i,j⟩:=a0Q W u R;exact⟨V,by rw[b,h],c.trans a,d.ext0 a,f.ext0 a,g.ext0 a,by rw[<-e];exact i,by omega⟩
end Go.Rep
