/- bits.Len32, LeadingZeros32; natural.divide, Div: long division. Conditions: lengths far below any machine's. Integers and rational numbers as a sign and lists of digits, their only form, and their size. Conditions: none. natural.Div at any numbers, Uint, gcd, Gcd. Conditions: lengths far below any machine's. The reference's natural numbers: Valid, Take, trim, limb, FromUint, Add. Conditions: lengths far below any machine's. The reference's subtraction, product by a digit, and division bit by bit: invariants. Plain mathematics. Conditions: none. Natural numbers as values: readings, and the contracts of both texts' natural numbers over them. Conditions: at most 2^40 digits. -/
import Derived.Test.YtkddecjkfdogiaaGreatLkC
import Derived.Lib.BitFns
import Derived.StillTailTactics
import Derived.Lib.Strings
import Derived.Lib.Slices
import Derived.Lib.Small
import Derived.Lib.Walk
namespace Go.Proofs.YtkddecjkfdogiaaGreat
open Go.RowKit Go.Rep Go.Lim
theorem a5V:Lib.len8tab.size=256:=by decide+kernel
theorem b3h:∀n:Fin 256,(Lib.len8tab[n.val]'(by rw[a5V];exact n.isLt)).toNat=Lib.bitLen n.val:=by decide+kernel
theorem a7Z (i:Nat) (h:i<Lib.len8tab.size):(Lib.len8tab[i]).toNat=Lib.bitLen i:=b3h ⟨i,by rw[a5V]at h;exact h⟩
theorem b3i (b:Nat) (h:b<=64):wrap64 (b:Int)=b:=by unfold wrap64;omega
theorem a9M (k b:Nat) (h:b<=64) (hk:k<=64):wrap64 ((k:Int)+wrap64 (b:Int))=((k+b:Nat):Int):=by rw[b3i b h];unfold wrap64;omega
theorem b6x (x:Int) (_h0:0<=x) (h:16777216<=x) (h1:x<=4294967295) (h2:(x/65536/256).toNat<Lib.len8tab.size) (n:Int) (hn:n=24):wrap64 (n+wrap64 ((Lib.len8tab[(x/65536/256).toNat].toNat:Nat):Int))=(Lib.bitLen x.toNat:Int):=by
 subst hn;rw[a7Z];have e:(x/65536/256).toNat=x.toNat/16777216:=by omega
 rw[e,Lib.bitLen_shift24 x.toNat (by omega) (by omega)];exact a9M 24 _ (Nat.le_trans (Lib.bitLen_le _ 8 (by omega) (by omega)) (by omega)) (by omega)
theorem b6y (x:Int) (_h0:0<=x) (h:65536<=x) (h1:x<16777216) (h2:(x/65536).toNat<Lib.len8tab.size) (n:Int) (hn:n=16):wrap64 (n+wrap64 ((Lib.len8tab[(x/65536).toNat].toNat:Nat):Int))=(Lib.bitLen x.toNat:Int):=by
 subst hn;rw[a7Z];have e:(x/65536).toNat=x.toNat/65536:=by omega
 rw[e,Lib.bitLen_shift16 x.toNat (by omega) (by omega)];exact a9M 16 _ (Nat.le_trans (Lib.bitLen_le _ 8 (by omega) (by omega)) (by omega)) (by omega)
theorem b6z (x:Int) (_h0:0<=x) (h:256<=x) (h1:x<65536) (h2:(x/256).toNat<Lib.len8tab.size) (n:Int) (hn:n=8):wrap64 (n+wrap64 ((Lib.len8tab[(x/256).toNat].toNat:Nat):Int))=(Lib.bitLen x.toNat:Int):=by
 subst hn;rw[a7Z];have e:(x/256).toNat=x.toNat/256:=by omega
 rw[e,Lib.bitLen_shift8 x.toNat (by omega) (by omega)];exact a9M 8 _ (Nat.le_trans (Lib.bitLen_le _ 8 (by omega) (by omega)) (by omega)) (by omega)
theorem b6A (x:Int) (h0:0<=x) (h1:x<256) (h2:x.toNat<Lib.len8tab.size):wrap64 (wrap64 ((Lib.len8tab[x.toNat].toNat:Nat):Int))=(Lib.bitLen x.toNat:Int):=by
 rw[a7Z];have:=Lib.bitLen_le x.toNat 8 (by omega) (by omega);rw[b3i _ (by omega),b3i _ (by omega)]
set_option maxHeartbeats 4000000 in
set_option maxRecDepth 100000 in
theorem a9N (x:Int) (w:World) (h0:0<=x) (h1:x<=4294967295):
  Calls Tryz.prog 269 #[.int .u32 x] w fun e w'=>e= .returned (.int .i64 (Lib.bitLen x.toNat))/\w'=w:=by
 have hs:=a5V;go_enter Tryz.func269,Tryz.ntmps269
 go_wp2
 ·go_ret
  exact⟨congrArg Ending.returned (congrArg (Value.int IntKind.i64) (b6x x h0 (by omega) h1 _ _ rfl)),rfl⟩
 ·go_ret
  exact⟨congrArg Ending.returned (congrArg (Value.int IntKind.i64) (b6y x h0 (by omega) (by omega) _ _ rfl)),rfl⟩
 ·go_ret
  exact⟨congrArg Ending.returned (congrArg (Value.int IntKind.i64) (b6z x h0 (by omega) (by omega) _ _ rfl)),rfl⟩
 ·go_ret
  exact⟨congrArg Ending.returned (congrArg (Value.int IntKind.i64) (b6A x h0 (by omega) _)),rfl⟩
def lz (x:Nat):Nat:=32 - Lib.bitLen x
theorem a3I:∀(f x:Nat),0<x->x<2^f->2^(Lib.bitLenAux f x)<=2*x/\x<2^(Lib.bitLenAux f x)/\Lib.bitLenAux f x<=f
 |0,x,h,h2=>by simp at h2;omega
 |f+1,x,h,h2=>by
  simp only[Lib.bitLenAux];rw[if_neg (by omega)];by_cases h1:x=1
  ·subst h1
   have:Lib.bitLenAux f (1/2)=0:=by cases f<;>simp[Lib.bitLenAux]
   rw[this];simp
  ·obtain⟨a,b,c⟩:=a3I f (x/2) (by omega) (by rw[Nat.pow_succ]at h2;omega)
   rw[Nat.add_comm 1,Nat.pow_succ];exact⟨by omega,by omega,by omega⟩
theorem b3j {x:Nat} (h0:0<x) (h1:x<4294967296):lz x<32/\4294967296<=2*(x*2^lz x)/\x*2^lz x<4294967296:=by
 obtain⟨a,b,c⟩:=a3I 64 x h0 (by omega);have hle:Lib.bitLen x<=32:=Lib.bitLen_le x 32 (by omega) (by omega);have hpos:1<=Lib.bitLen x:=by
  by_cases h:Lib.bitLen x=0
  ·unfold Lib.bitLen at h;rw[h]at b;simp at b;omega
  ·omega
 change 2^Lib.bitLen x<=2*x at a
 change x<2^Lib.bitLen x at b
 have e:2^Lib.bitLen x*2^lz x=4294967296:=by rw[<-Nat.pow_add];unfold lz;rw[show Lib.bitLen x+(32 - Lib.bitLen x)=32 by omega]
 refine⟨by unfold lz;omega,?_,?_⟩
 ·rw[<-e,<-Nat.mul_assoc];exact Nat.mul_le_mul_right _ a
 ·rw[<-e];exact Nat.mul_lt_mul_of_pos_right b (Nat.two_pow_pos _)
set_option maxRecDepth 100000 in
theorem b4F (x:Nat) (w:World) (h0:0<x) (h1:x<4294967296):
  Calls Tryz.prog 264 #[.int .u32 x] w fun e w'=>w=w'/\e= .returned (.int .i64 (lz x:Nat)):=by
 have hle:Lib.bitLen x<=32:=Lib.bitLen_le x 32 (by omega) (by omega);have hz:Hid ((32:Int) - (Lib.bitLen x:Nat)=(lz x:Nat)):=hid (by unfold lz;omega);go_enter Tryz.func264,Tryz.ntmps264
 go_wp2_with fail
 refine(a9N (x:Int) w (by omega) (by omega)).mono ?_;rintro e w' ⟨rfl,rfl⟩;rw[Int.toNat_natCast];go_wp2_with fail
 go_ret
 exact⟨rfl,a0I hz.out⟩
theorem a4o (k:IntKind):∀(h h':Mem) (u:Value) (x:Nat),a0b k h u x->a0b k h' u x:=fun _ _ _ _ h=>h
theorem _root_.Go.Rep.OL.remask {α:Type} {R:Mem->Value->α->Prop} {sz:Nat} {X Z:Nat->Bool} {base:Nat} {e:TypeId} {w:World} {ao:Option Addr} {cap:Nat} {l:List α} (hR0:∀h h' u x,R h u x->R h' u x) (h:OL R sz X base e w ao cap l) (hz:∀k,ob ao k=true->Z k=false):OL R sz Z base e w ao cap l:=by
 obtain⟨_,us,h1,h2,h3,h4,h5⟩:=h;exact⟨hz,us,h1,h2,h3,h4,fun i hi hi'=>hR0 _ _ _ _ (h5 i hi hi')⟩
theorem _root_.Go.Rep.OL.skip {α:Type} {R:Mem->Value->α->Prop} {sz:Nat} {X Y:Nat->Bool} {base:Nat} {e:TypeId} {w w':World} {ao:Option Addr} {cap:Nat} {l:List α} (hR:Elem R sz) (hR0:∀h h' u x,R h u x->R h' u x) (h:OL R sz X base e w ao cap l) (hE:ExtX Y w w') (hd:∀k,ob ao k=true->Y k=false):OL R sz X base e w' ao cap l:=
 ((h.remask hR0 (Z:=Y) hd).ext hR hE (Z:=Y) (fun _ _ h=>h) (fun _ _ h=>h)).remask hR0 h.1
theorem a4M {g k:Nat} (h:ob (some ⟨g,0,none⟩) k=true):k=g:=by
 have e:g=k:=by simpa[ob]using h
 exact e.symm
theorem b1j {g k:Nat} (h:k≠g):ob (some ⟨g,0,none⟩) k=false:=by
 cases hh:ob (some ⟨g,0,none⟩) k
 ·rfl
 ·exact absurd (a4M hh) h
theorem _root_.Go.Rep.OL.at_block {α:Type} {R:Mem->Value->α->Prop} {sz:Nat} {X:Nat->Bool} {base:Nat} {e:TypeId} {w:World} {ao:Option Addr} {cap:Nat} {l:List α} (h:OL R sz X base e w ao cap l) (hl:0<l.length):∃g,ao=some ⟨g,0,none⟩/\base<=g/\g<w.heap.size:=by
 rcases h.form with⟨_,_,rfl⟩|⟨g,cur,rfl,h6,h7,_⟩
 ·simp at hl
 ·exact⟨g,rfl,h6,(Array.getElem?_eq_some_iff.1 h7).1⟩
theorem _root_.Go.Rep.st_win {P:Program} {ops:Array Oper} {Q:Exit->Act->World->Prop} {rest:List Oper} {a:Act} {w:World} {d:Option Tmp} {ty:TypeId} {ps:String} {af:Array Edge} {t e by_:Nat} {z:Value} {x lo hi_:Operand} {k1 k2:IntKind} {m n:Int} {g len cap:Nat} (T:SliceT P t e 1 by_ z) (i j:Nat) (hx:a.eval x= .slice (some ⟨g,0,none⟩) len cap) (hlo:a.eval lo= .int k1 m) (hm:m=(i:Int))
  (hhi:a.eval hi_= .int k2 n) (hn:n=(j:Int)) (hij:i<j) (hj:j<=cap)
  (K:wpList P ops Q rest (a.put d (.slice (some ⟨g,i,none⟩) (j - i) (cap - i))) w):
  wpList P ops Q (⟨d, .slice t x (some lo) (some hi_) none,ty,ps,af,none⟩::rest) a w:=by
 refine wpList_plain rfl fun K' hK'=>?_;subst hm;subst hn;have hr:=a6z (P:=P) (ao:=some ⟨g,0,none⟩) T len cap k1 k2 i j (by omega) hj w;have e1:a1Q (some ⟨g,0,none⟩) i cap 1=some ⟨g,i,none⟩:=by
  have:¬cap=i:=by omega
  simp[a1Q,this,Addr.add_lit]
 rw[e1]at hr;unfold Oper.wp;simp[execOp,hx,hlo,hhi,hr,Result.andThen];exact hK' _ _ K
def b5K (X:Nat->Bool) (w:World) (q r:Nat) (e:Ending) (w':World):Prop:=
 Ext w w'/\∃ao cap l bo cbp m,e= .returned (.tuple #[.slice ao l.length cap, .slice bo m.length cbp])/\l.length<=cap/\a0A l q/\Sl (a0b .u32) 1 (mk X w') ao l/\m.length<=cbp/\a0A m r/\Sl (a0b .u32) 1 (mk X w') bo m
set_option maxRecDepth 100000 in
set_option maxHeartbeats 400000 in
theorem a8U (X:Nat->Bool) (ao bo:Option Addr) (a b:List Nat) (ca cb:Nat) (w:World) (hsa:Sl (a0b .u32) 1 (mk X w) ao a) (hsb:Sl (a0b .u32) 1 (mk X w) bo b)
  (na nb:Nat) (hca:a0A a na) (hcb:a0A b nb) (hle:nb<=na) (hb2:2<=b.length) (hal:a.length<=1099511627776) (hX:∀k,X k=true->k<w.heap.size):
  Calls Tryz.prog 254 #[.slice ao a.length ca, .slice bo b.length cb] w (b5K X w (na/nb) (na%nb)):=by
 have hhb:=hsb.hd;have hcbl:=hsb.nat (b.length - 1) (by omega);have hbl:b.length<=a.length:=by rw[hca.len,hcb.len];exact a1a hle
 obtain⟨t,ht⟩:∃t,b[b.length - 1]'(by omega)=t:=⟨_,rfl⟩;have htB:=hcb.1.get (b.length - 1) (by omega);have ht0:t≠0:=by
  have:=hcb.2.1;rw[a2P (by omega)]at this;rw[<-ht];simpa using this
 rw[ht]at hcbl;rw[ht,a0Z]at htB;obtain⟨s,hs⟩:∃s,lz t=s:=⟨_,rfl⟩;have hlz:=b3j (show 0<t by omega) htB;rw[hs]at hlz;obtain⟨hs32,hn1,hn2⟩:=hlz;have ht':=hid ht;have hlz1:=hid hn1;have hlz2:=hid hn2;have hlzc:∀W,Calls Tryz.prog 264 #[.int .u32 t] W fun e w'=>W=w'/\e= .returned (.int .i64 (s:Nat)):=fun W=>by rw[<-hs];exact b4F t W (by omega) htB
 clear hn1 hn2 ht;go_enter Tryz.func254,Tryz.ntmps254
 go_wp2_with (first|(with_reducible refine a0t a0G (by omega) (by assumption) ?_)|(go_at_call 264;refine(hlzc _).mono ?_;rintro e w' ⟨rfl,rfl⟩))
 clear hs hlzc hcbl;refine(a5a noY ao a ca s w (hsa.mono (a0b.mono _) (by rw[a5u];exact b4v X w)) hca.1 hal hs32 (fun k hk=>by simp[noY]at hk)).mono ?_;rintro e w1 ⟨hE1,uo,U,rfl,hU,hUf⟩;have hsb1:=hsb.mono (a0b.mono _) (a0o hE1);go_wp2_with fail
 refine(a5a noY bo b cb s w1 (hsb1.mono (a0b.mono _) (by rw[a5u];exact b4v X w1)) hcb.1 (by omega) hs32 (fun k hk=>by simp[noY]at hk)).mono ?_;rintro e w2 ⟨hE2,vo,V0,rfl,hV0,hVf⟩;have hV0l:V0.length<=1099511627777:=by rw[hVf.out.1];omega
 obtain⟨gu,rfl,hgu1,hgu2⟩:=hU.at_block (by rw[hUf.out.1];omega);have hV1:Sl (a0b .u32) 1 (mk (ob (some ⟨gu,0,none⟩)) w2) vo V0:=(hV0.remask (a4o _) (Z:=ob (some ⟨gu,0,none⟩)) (fun k hk=>b1j (by have:=(hV0.block hk).1;omega))).sl (a0b.elem _);go_wp2_with fail
 refine(a1r (ob (some ⟨gu,0,none⟩)) vo V0 V0.length w2 hV1 hVf.out.2.1 (by omega) (Nat.le_refl _)).mono ?_;rintro e w' ⟨rfl,V,rfl,hVl',hVc,hVs⟩;obtain⟨m,hm⟩:∃m,a.length=m+b.length:=⟨a.length - b.length,by omega⟩;obtain⟨n,hn⟩:∃n,b.length=n:=⟨_,rfl⟩;rw[hVf.out.2.2.2]at hVc;have hnorm:=b1g hcb.1 hn (by omega) ((a0u (by omega)).trans (by rw[<-ht'.out];congr 1;omega)) hs32 hlz1.out hlz2.out hVc;have hna:nv a=na:=hca.2.2;have hnb:nv b=nb:=hcb.2.2;have hnvV:=hVc.2.2;rw[hnb]at hnvV;have hVd:=hVc.1;have hUl:U.length=m+1+n:=by rw[hUf.out.1,hm,hn];omega
 have hUd:=hUf.out.2.1;have hst0:=a3i.start (m:=m) (n:=n) (a:=na) hUd hUl (by omega) (by rw[hUf.out.2.2.2,hna]) (by have:=hUf.out.2.2.1;rw[hm,hn]at this;exact this) hs32 hnorm.1 hnorm.2;obtain⟨hVn,hVt⟩:=hnorm;have hst:=hid hst0;have hUo:=hU.ext0 (a0b.elem _) hE2;rw[hn]at hm |-;rw[hm];have hmb:m<=1099511627776:=by omega
 have hnb2:2<=n:=by omega
 have hnb3:n<=1099511627776:=by omega
 have hVt':=hid hVt;have hVn':=hid hVn;have hUl':=hid hUl;have hnvV':=hid hnvV;have hE12:=hE1.trans hE2;clear hst0 hVt hVn hUl hnvV hna hnb hV1 hUf hVf hV0l hU hsa hsb hsb1 hcb hca hle hb2 hbl hal hhb ht0 htB ht' hlz1 hlz2 hVc hVl' hV0 hUd;go_wp2_with (at_make;refine a1Z a0G (a0b.elem .u32) 0 (fun _=>rfl) noY (fun k hk=>by simp[noY]at hk) w2.heap.size (Nat.le_refl _) (m+1) rfl rfl (by omega) (by omega) (by omega) ?_;intro qo w3 hQ hE3)
 have hqb:∀k,ob qo k=true->w2.heap.size<=k:=fun k hk=>(hQ.block hk).1;have hgq:ob qo gu=false:=by
  cases hh:ob qo gu
  ·rfl
  ·have:=hqb gu hh;have:=hE2.size;omega
 have hU3:OL (a0b .u32) 1 (un noY qo) w.heap.size 118 w3 (some ⟨gu,0,none⟩) U.length U:=(hUo.ext0 (a0b.elem _) hE3).remask (a4o _) (fun k hk=>by have:=a4M hk;subst this;simp[un,noY,hgq]);have hQ3:OL (a0b .u32) 1 (un noY (some ⟨gu,0,none⟩)) w2.heap.size 118 w3 qo (m+1) (List.replicate (m+1) 0):=hQ.remask (a4o _) (fun k hk=>by
  have h1:=hqb k hk;have h2:ob (some ⟨gu,0,none⟩) k=false:=b1j (by have:=hE2.size;omega);simp[un,noY,h2])
 have hV3:Sl (a0b .u32) 1 (mk (un (un noY qo) (some ⟨gu,0,none⟩)) w3) vo V:=hVs.mono (a0b.mono _) (a0R hE3 (fun k _ hk=>by simp[noY]at hk) fun k hk hz=>by
  have h1:ob qo k=false:=by
   cases hh:ob qo k
   ·rfl
   ·have:=hqb k hh;omega
  simpa[un,noY,h1]using hz)
 have hE13:=hE12.trans hE3;have hwq:w.heap.size<=w2.heap.size:=hE12.size;have hqX:∀k,ob qo k=true->X k=false:=fun k hk=>by
  cases hh:X k
  ·rfl
  ·have:=hX k hh;have:=hqb k hk;omega
 have hgw:gu<w2.heap.size:=Nat.lt_of_lt_of_le hgu2 hE2.size;have hUc:m+1+n<=U.length:=by rw[hUl'.out];exact Nat.le_refl _
 have hhv:=hVs.hd;clear hUo hQ hVs hE1 hE2 hE3 hE12 hm hn;go_loopw [10] (fun c wr=>∃(k:Nat) (x:Int) (U' Q:List Nat),c= .int .i64 x/\x=(k:Int) - 1/\k<=m+1/\Hid (a3i (na*2^s) V U' Q k)/\Hid (U'.length=m+1+n)/\Hid (Q.length=m+1)/\OL (a0b .u32) 1 (un noY qo) w.heap.size 118 wr (some ⟨gu,0,none⟩) U.length U'/\
  OL (a0b .u32) 1 (un noY (some ⟨gu,0,none⟩)) w2.heap.size 118 wr qo (m+1) Q/\Sl (a0b .u32) 1 (mk (un (un noY qo) (some ⟨gu,0,none⟩)) wr) vo V/\Ext w wr) (fun c _=>(intOf c+1).toNat)
 case atStart=>exact⟨m+1,_,U,_,rfl,by omega,by omega,hst,hUl',hid (by simp),hU3,hQ3,hV3,hE13⟩
 case round=>
  obtain⟨k,x,U',Q,rfl,hx,hk,hinv,hUl2,hQl,hUr,hQr,hVr,hEr⟩:=hrel;clear hU3 hQ3 hV3 hE13 hst;have hhq:Hd qo (m+1):=by have:=hQr.hd;rwa[hQl.out]at this
  cases k with
  |zero=>
   obtain rfl:x= -1:=by omega
   obtain⟨hd1,hd2,hd3⟩:=hinv.out.done rfl hnvV'.out;have hUd:=hinv.out.1;have hQd:=hinv.out.2.1;have hd1':=hid hd1;have hd2':=hid hd2;have hlast:Hid (nv U'/2^s<B^n):=hid (Nat.lt_of_le_of_lt (Nat.div_le_self _ _) (Nat.lt_trans hd3 (by have:=a3S hVd;rwa[hVn'.out]at this)));have hUr2:=hUr.remask (a4o _) (Z:=noY) (fun k hk=>rfl);have hub:∀k,ob (some ⟨gu,0,none⟩) k=true->k<wr.heap.size:=fun k hk=>(hUr.block hk).2;have hqb2:∀k,ob qo k=true->k<wr.heap.size:=fun k hk=>(hQr.block hk).2;have hwr:w.heap.size<=wr.heap.size:=hEr.size;have hQr2:=hQr.remask (a4o _) (Z:=noY) (fun k hk=>rfl);clear hx hd1 hd2 hd3 hinv hUr hQr hVr hqb hgq hwq hgw hgu1 hgu2 hhv;go_wp2_with (at_make;refine a1Z a0G (a0b.elem .u32) 0 (fun _=>rfl) noY (fun k hk=>by simp[noY]at hk) wr.heap.size (Nat.le_refl _) n rfl rfl (by omega) (by omega) (by omega) ?_;intro ro w4 hR hE4)
   have hU4:=hUr2.ext0 (a0b.elem _) hE4;have hQ4:=hQr2.ext0 (a0b.elem _) hE4;have hE5:=hEr.trans hE4;have hrb:∀k,ob ro k=true->wr.heap.size<=k:=fun k hk=>(hR.block hk).1;have hrX:∀k,ob ro k=true->X k=false:=fun k hk=>by
    cases hh:X k
    ·rfl
    ·have:=hX k hh;have:=hrb k hk;omega
   clear hUr2 hQr2 hE4 hEr;go_loopw [103] (fun c wx=>∃(i:Nat) (o:List Nat),c= .int .i64 i/\i<=n/\Hid (a3Z U' o s n i)/\Hid (o.length=n)/\OL (a0b .u32) 1 noY wr.heap.size 118 wx ro n o/\ExtX (ob ro) w4 wx/\Ext w wx) (fun c _=>n - (intOf c).toNat)
   case atStart=>exact⟨0,_,rfl,by omega,hid (a3Z.start U' s n),hid (by simp),hR,ExtX.refl _,hE5⟩
   case round=>
    obtain⟨i,o,rfl,hi,hinv,hol,hO,hEx,hEw⟩:=hrel;clear hR hE5;have hho:Hd ro n:=by have:=hO.hd;rwa[hol.out]at this
    have hUx:=hU4.skip (a0b.elem _) (a4o _) hEx (fun k hk=>by
     cases hh:ob ro k
     ·rfl
     ·have:=hrb k hh;have:=hub k hk;omega)
    by_cases hlt:i<n
    ·have hi1:i+1<U'.length:=by rw[hUl2.out];omega
     have hs:=hUx.sl (a0b.elem _);have c1:=hs.nat (i+1) hi1;have c0:=hs.nat i (by omega);obtain⟨x,hx⟩:∃x,U'[i+1]=x:=⟨_,rfl⟩;obtain⟨y,hy⟩:∃y,U'[i]'(by omega)=y:=⟨_,rfl⟩;have bx:=hUd.get (i+1) hi1;have by_:=hUd.get i (by omega);rw[hx,a0Z]at bx;rw[hy,a0Z]at by_;rw[hx,a1h,Nat.zero_add]at c1;rw[hy,a1h,Nat.zero_add]at c0;have hst:=hid (hinv.out.step hlt hs32 hi1 hUd hx hy);have hhu:Hd (some (⟨gu,0,none⟩:Addr)) U.length:=fun _=>⟨_,_,rfl⟩;have i1:∀W,(Instr.indexAt 28 (.slice (some ⟨gu,0,none⟩) U.length U.length) (.int .i64 ((i:Int)+1))).run Tryz.prog W= .ok (.pointer (some ⟨gu,i+1,none⟩)) W:=fun W=>by
      have:=a0z a0G (some ⟨gu,0,none⟩) U.length U.length .i64 (i+1) (m:=(i:Int)+1) hhu (by omega) (by omega) W;rwa[a1h,Nat.zero_add]at this
     have i2:∀W,(Instr.indexAt 28 (.slice (some ⟨gu,0,none⟩) U.length U.length) (.int .i64 (i:Int))).run Tryz.prog W= .ok (.pointer (some ⟨gu,i,none⟩)) W:=fun W=>by
      have:=a0z a0G (some ⟨gu,0,none⟩) U.length U.length .i64 i (m:=(i:Int)) hhu (by omega) rfl W;rwa[a1h,Nat.zero_add]at this
     have i3:∀W,(Instr.indexAt 28 (.slice ro n n) (.int .i64 (i:Int))).run Tryz.prog W= .ok (.pointer (some (adr ro i))) W:=a0z a0G ro n n .i64 i hho hlt rfl;have s1:IntKind.i64.wrap ((i:Int)+1)=(i:Int)+1:=IntWalk.i64_in _ (by omega);have hor:=a5S x y bx by_;have hval:Hid (IntKind.u32.wrap (bits BinOp.or IntKind.u64 (IntKind.u64.wrap (IntKind.u64.wrap (x:Int)*4294967296)) (IntKind.u64.wrap (y:Int))/2^s)=(((x*4294967296+y)/2^s%4294967296:Nat):Int)):=hid (by
      rw[IntWalk.u64_in (x:Int) (by omega),IntWalk.u64_in ((x:Int)*4294967296) (by omega),IntWalk.u64_in (y:Int) (by omega),hor,IntKind.wrap_u32];simp)
     clear hx hy hinv hs;go_wp2_with fail
     go_still_tail 19,(by kernel_rfl)
     change wpList _ _ _ _ _ wr.drew
     have hEd:ExtX noY wr wr.drew:=(ExtX.refl wr).drew;have hOd:=hO.ext0 (a0b.elem _) hEd;have hExd:=hEx.trans (ExtX.of hEd);have hEwd:=hEw.trans hEd;generalize wr.drew=wd at hOd hExd hEwd |-;clear i1 i2 i3 c1 c0 hor s1 hEd hO hEx hEw;go_wp2_with ((with_reducible show wpList _ _ _ (⟨_, .store _ _ _,_,_,_,_⟩::_) _ _);refine a0J a3e i ((x*4294967296+y)/2^s%4294967296) rfl rfl hOd (by rw[hol.out];exact hlt) rfl hval.out ?_;intro w6 hO6 hE6)
     have hol2:Hid ((o.set i ((x*4294967296+y)/2^s%4294967296)).length=n):=hid (by rw[List.length_set];exact hol.out);go_roundw
     case rel=>exact⟨i+1,_,by go_num,by omega,hst,hol2,hO6,hExd.trans hE6,hEwd.own hOd hwr hE6⟩
     case measure=>simp[intOf];omega
    ·have hin:i=n:=by omega
     subst hin;have hQx:=hQ4.skip (a0b.elem _) (a4o _) hEx (fun k hk=>by
      cases hh:ob ro k
      ·rfl
      ·have:=hrb k hh;have:=hqb2 k hk;omega)
     have hfin:=hid (hinv.out.done hlast.out);have hRd:=hinv.out.2.1;have hQs:Sl (a0b .u32) 1 (mk X wr) qo Q:=(hQx.remask (a4o _) (Z:=X) hqX).sl (a0b.elem _);have hOs:Sl (a0b .u32) 1 (mk X wr) ro o:=(hO.remask (a4o _) (Z:=X) hrX).sl (a0b.elem _);have hT1:=a1r X qo Q (m+1) wr hQs hQd (by rw[hQl.out];omega) (by rw[hQl.out];exact Nat.le_refl _);have hT2:=a1r X ro o i wr hOs hRd (by rw[hol.out];omega) (by rw[hol.out];exact Nat.le_refl _);rw[hQl.out]at hT1;rw[hol.out]at hT2;have hl1:Q.length<=m+1:=by rw[hQl.out];exact Nat.le_refl _
     have hl2:o.length<=i:=by rw[hol.out];exact Nat.le_refl _
     clear hinv hU4 hQ4 hUx hQx hUd;go_wp2_with fail
     refine hT1.mono ?_;rintro e w' ⟨rfl,l1,rfl,h11,h12,h13⟩;go_wp2_with fail
     refine hT2.mono ?_;rintro e w' ⟨rfl,l2,rfl,h21,h22,h23⟩;clear hT1 hT2;go_wp2_with fail
     go_ret2
     rw[hd1'.out]at h12;rw[hfin.out,hd2'.out]at h22;exact⟨hEw,_,_,l1,_,_,l2,rfl,Nat.le_trans h11 hl1,h12,h13,Nat.le_trans h21 hl2,h22,h23⟩
  |succ j=>
   obtain rfl:x=(j:Int):=by omega
   clear hx;have hjU:j+(n+1)<=U'.length:=by rw[hUl2.out];omega
   obtain⟨w1,w2',w3',w4,w5,w6,w7⟩:=hinv.out.win hjU hVn'.out hVd;obtain⟨W,hW⟩:∃W,(U'.drop j).take (n+1)=W:=⟨_,rfl⟩;have hge:∀i,i<=n->U'.getD (j+i) 0=W.getD i 0:=fun i hi=>by rw[<-hW];exact(b1h hi).symm
   have hnx:=fun(o:List Nat) h1 h2 h3=>(fun(p:_/\_)=>And.intro p.1 (p.2.trans hUl2.out)) (hinv.out.next (W':=o) hjU (by rw[hQl.out];omega) hVn'.out hVd h1 h2 h3);rw[hW]at w1 w2' w3' w5 w6;simp only[hW]at hnx;obtain⟨A,hA⟩:∃A,U'.take j=A:=⟨_,rfl⟩;obtain⟨R,hR⟩:∃R,U'.drop (j+(n+1))=R:=⟨_,rfl⟩;rw[hA]at w5 w7;rw[hR]at w5;simp only[hA,hR]at hnx;obtain⟨e1,e2,e3⟩:=b3c w1 hVn'.out hnb2 w2' hVd hVt'.out w3';have hVp:0<nv V:=by
    by_cases h:nv V=0
    ·rw[h]at w3';omega
    ·omega
   have hUs:=hUr.sl (a0b.elem _);have c2:=hUs.nat (j+n) (by rw[hUl2.out];omega);have c1:=hUs.nat (j+(n - 1)) (by rw[hUl2.out];omega);have c0:=hUs.nat (j+(n - 2)) (by rw[hUl2.out];omega);rw[<-a0u,hge n (by omega),a1h,Nat.zero_add]at c2;rw[<-a0u,hge (n - 1) (by omega),a1h,Nat.zero_add]at c1;rw[<-a0u,hge (n - 2) (by omega),a1h,Nat.zero_add]at c0;have d1:=hVr.nat (n - 1) (by rw[hVn'.out];omega);have d0:=hVr.nat (n - 2) (by rw[hVn'.out];omega);rw[<-a0u]at d1 d0;have b2:=w2'.getD n;have b1:=w2'.getD (n - 1);have b0:=w2'.getD (n - 2);have f1:=hVd.getD (n - 1);have f0:=hVd.getD (n - 2);have hvt:=hVt'.out;generalize W.getD n 0=u2 at*;generalize W.getD (n - 1) 0=u1 at*;generalize W.getD (n - 2) 0=u0 at*;generalize V.getD (n - 1) 0=v1 at*;generalize V.getD (n - 2) 0=v0 at*;rw[a0Z]at b2 b1 b0 f1 f0 hvt;obtain⟨x,hx⟩:∃x,a5P B u2 u1 u0 v1 v0=x:=⟨_,rfl⟩;have hx32:x<4294967296:=by rw[<-hx];exact b3d
   have hgs:∀q,Calls Tryz.prog 266 #[.int .u32 u2, .int .u32 u1, .int .u32 u0, .int .u32 v1, .int .u32 v0] (wr.drewN q) fun e w'=>e= .returned (.int .u64 (x:Nat))/\∃m,w'=(wr.drewN q).drewN m:=fun q=>by rw[<-hx];exact a9K u2 u1 u0 v1 v0 _ (by omega) f1 e1 b1 b0 f0
   rw[hx]at e2 e3;have hkk:=hid (fun(c W':Nat)=>a7t (c:=c) (W':=W') hVp e2 e3 (e:=B^(n+1)));have hVp':=hid hVp;have s1:IntKind.i64.wrap ((j:Int)+(n:Int))=(j:Int)+(n:Int):=IntWalk.i64_in _ (by omega);have s2:IntKind.i64.wrap ((j:Int)+(n:Int) - 1)=(j:Int)+(n:Int) - 1:=IntWalk.i64_in _ (by omega);have s3:IntKind.i64.wrap ((j:Int)+(n:Int) - 2)=(j:Int)+(n:Int) - 2:=IntWalk.i64_in _ (by omega);have s4:IntKind.i64.wrap ((n:Int) - 1)=(n:Int) - 1:=IntWalk.i64_in _ (by omega);have s5:IntKind.i64.wrap ((n:Int) - 2)=(n:Int) - 2:=IntWalk.i64_in _ (by omega);have hhu:Hd (some (⟨gu,0,none⟩:Addr)) U.length:=fun _=>⟨_,_,rfl⟩;have i1:∀W,(Instr.indexAt 28 (.slice (some ⟨gu,0,none⟩) U.length U.length) (.int .i64 ((j:Int)+(n:Int)))).run Tryz.prog W= .ok (.pointer (some ⟨gu,j+n,none⟩)) W:=fun W=>by
    have:=a0z a0G (some ⟨gu,0,none⟩) U.length U.length .i64 (j+n) (m:=(j:Int)+(n:Int)) hhu (by omega) (by omega) W;rwa[a1h,Nat.zero_add]at this
   have i2:∀W,(Instr.indexAt 28 (.slice (some ⟨gu,0,none⟩) U.length U.length) (.int .i64 ((j:Int)+(n:Int) - 1))).run Tryz.prog W= .ok (.pointer (some ⟨gu,j+(n - 1),none⟩)) W:=fun W=>by
    have:=a0z a0G (some ⟨gu,0,none⟩) U.length U.length .i64 (j+(n - 1)) (m:=(j:Int)+(n:Int) - 1) hhu (by omega) (by omega) W;rwa[a1h,Nat.zero_add]at this
   have i3:∀W,(Instr.indexAt 28 (.slice (some ⟨gu,0,none⟩) U.length U.length) (.int .i64 ((j:Int)+(n:Int) - 2))).run Tryz.prog W= .ok (.pointer (some ⟨gu,j+(n - 2),none⟩)) W:=fun W=>by
    have:=a0z a0G (some ⟨gu,0,none⟩) U.length U.length .i64 (j+(n - 2)) (m:=(j:Int)+(n:Int) - 2) hhu (by omega) (by omega) W;rwa[a1h,Nat.zero_add]at this
   have hVle:n<=V.length:=by rw[hVn'.out];exact Nat.le_refl _
   have i4:∀W,(Instr.indexAt 28 (.slice vo V.length V0.length) (.int .i64 ((n:Int) - 1))).run Tryz.prog W= .ok (.pointer (some (adr vo (n - 1)))) W:=a0z a0G vo V.length V0.length .i64 (n - 1) hhv (by omega) (by omega);have i5:∀W,(Instr.indexAt 28 (.slice vo V.length V0.length) (.int .i64 ((n:Int) - 2))).run Tryz.prog W= .ok (.pointer (some (adr vo (n - 2)))) W:=a0z a0G vo V.length V0.length .i64 (n - 2) hhv (by omega) (by omega);have hWh:=hid w1;have hAl:=hid w7;have hUr2:OL (a0b .u32) 1 (un noY qo) w.heap.size 118 wr (some ⟨gu,0,none⟩) U.length (A++W++R):=by rw[<-w5];exact hUr
   have hnx':=hid hnx;clear hnx hinv w1 w3' w4 w5 w6 w7 hge hUs hx e1 e2 e3 b2 b1 b0 f1 f0 hvt hA hR hW hVp hUr hUl2 hjU;clear U';go_wp2_with fail
   go_quiet ((go_at_call 266;with_reducible exact Calls.quiet_of (hgs _)))
   clear c2 c1 c0 d1 d0 i1 i2 i3 i4 i5 hgs s2 s3 s4 s5;have hjc:j<U.length:=by omega
   have hjn:j+n+1<=U.length:=by omega
   have hwl:j+n+1 - j=W.length:=by rw[hWh.out];omega
   have hEd:ExtX noY wr (wr.drewN nq):=(ExtX.refl wr).drewN nq;have hUd:=hUr2.ext0 (a0b.elem _) hEd;have hQd:=hQr.ext0 (a0b.elem _) hEd;have hVd2:Sl (a0b .u32) 1 (mk (un (un noY qo) (some ⟨gu,0,none⟩)) (wr.drewN nq)) vo V:=hVr;have hEn:=hEr.trans hEd;clear hUr2 hQr hVr hEr;generalize wr.drewN nq=wd at*;go_wp2_with (first|((with_reducible show wpList _ _ _ (⟨_, .slice _ _ _ _ _,_,_,_,_⟩::_) _ _);refine st_win a0G j (j+n+1) rfl rfl rfl rfl (by omega) (by omega) (by omega) ?_))
   have hr:=a8T (un noY qo) w.heap.size gu U.length (U.length - j) A W R V vo V0.length x n wd hUd hVd2 hWh.out hVn'.out hVd w2' hx32 (by rw[hAl.out];omega) hnb3;rw[hAl.out]at hr;refine hr.mono ?_;clear hr;rintro e w6 ⟨hE6,o,⟨bo,rfl,hol,hod,hcs⟩,hU6⟩;have hdf:=hkk.out bo (nv o) hcs;have hol':=hid hol;have hV6:=hVd2.unstep (a0b.mono _) hE6 (.inl rfl);have hQ6:=hQd.skip (a0b.elem _) (a4o _) hE6 (fun k hk=>b1j (by have:=hqb k hk;omega));have hE7:=hEn.own hUd (Nat.le_refl _) hE6;clear hkk hol hE6 hUd hQd hVd2 hEn;rcases hcs with⟨rfl,_⟩|⟨rfl,_⟩
   ·obtain⟨k1,k2⟩:=hdf.1 rfl
    have hn1:=hid (hnx'.out o hod hol'.out k2);rw[<-k1]at hn1;clear hdf k1 k2 hnx';go_wp2_with (first|(with_reducible refine a0t a0G (by omega) (by assumption) ?_)|((with_reducible show wpList _ _ _ (⟨_, .store _ _ _,_,_,_,_⟩::_) _ _);refine a0J a3e j x rfl rfl hQ6 (by rw[hQl.out];omega) rfl (by omega) ?_;intro w8 hQ8 hE8))
    have hU8:=hU6.skip (a0b.elem _) (a4o _) hE8 (fun k hk=>by have:=a4M hk;subst this;exact hgq);have hV8:Sl (a0b .u32) 1 (mk (un (un noY qo) (some ⟨gu,0,none⟩)) w8) vo V:=hV6.mono (a0b.mono _) (a0O hE8 (fun k hk=>a0p (a0q hk)));go_roundw
    case rel=>exact⟨j,_,_,_,rfl,rfl,by omega,hid hn1.out.1,hid hn1.out.2,hid (by rw[List.length_set];exact hQl.out),hU8,hQ8,hV8,hE7.own hQ6 hwq hE8⟩
    case measure=>simp[intOf]
   ·obtain⟨k0,k1,k2⟩:=hdf.2 rfl
    have k2':=hid k2;clear hdf k2;go_wp2_with (first|((with_reducible show wpList _ _ _ (⟨_, .slice _ _ _ _ _,_,_,_,_⟩::_) _ _);refine st_win a0G j (j+n+1) rfl rfl rfl rfl (by omega) (by omega) (by omega) ?_))
    have hr:=a7u (un noY qo) w.heap.size gu U.length (U.length - j) A o R V vo V0.length n w6 hU6 hV6 hol'.out hVn'.out hVd hod (by rw[hAl.out];omega) hnb3;rw[hAl.out]at hr;rw[show o.length=W.length by rw[hol'.out,hWh.out]]at hr;refine hr.mono ?_;clear hr;rintro e w7 ⟨hE9,o2,⟨c,rfl,hl2,hd2,hc,hs2⟩,hU7⟩;have hn1:=hid (hnx'.out o2 hd2 hl2 (b1i hVd hVn'.out hVp'.out k2'.out hs2 hc hd2 hl2));rw[<-k1]at hn1;have hV7:=hV6.unstep (a0b.mono _) hE9 (.inl rfl);have hQ7:=hQ6.skip (a0b.elem _) (a4o _) hE9 (fun k hk=>b1j (by have:=hqb k hk;omega));have hE10:=hE7.own hU6 (Nat.le_refl _) hE9;have hx1:(1:Int)<=(x:Int):=by omega
    clear k1 hnx' hl2 hs2 hU6 hV6 hQ6 hE9 hE7;go_wp2_with (first|(with_reducible refine a0t a0G (by omega) (by assumption) ?_)|((with_reducible show wpList _ _ _ (⟨_, .store _ _ _,_,_,_,_⟩::_) _ _);refine a0J a3e j (x - 1) rfl rfl hQ7 (by rw[hQl.out];omega) rfl (by omega) ?_;intro w8 hQ8 hE8))
    have hU8:=hU7.skip (a0b.elem _) (a4o _) hE8 (fun k hk=>by have:=a4M hk;subst this;exact hgq);have hV8:Sl (a0b .u32) 1 (mk (un (un noY qo) (some ⟨gu,0,none⟩)) w8) vo V:=hV7.mono (a0b.mono _) (a0O hE8 (fun k hk=>a0p (a0q hk)));go_roundw
    case rel=>exact⟨j,_,_,_,rfl,rfl,by omega,hid hn1.out.1,hid hn1.out.2,hid (by rw[List.length_set];exact hQl.out),hU8,hQ8,hV8,hE10.own hQ7 hwq hE8⟩
    case measure=>simp[intOf]
end Go.Proofs.YtkddecjkfdogiaaGreat
namespace Go.Lim
theorem a0V {l:List Nat} {n:Nat} (h:a0A l n):l.length=0↔n=0:=by
 rw[<-a5M h];exact List.length_eq_zero_iff
def a1g (s:Bool) (m:List Nat):Bool:=a1n m&&(decide (0<m.length)|| !s)
noncomputable def a5W (s:Bool) (m:List Nat):Int:=if a1g s m then(if s then -(nv m:Int)else nv m)else 0
def a4C (s:Bool) (m:List Nat) (z:Int):Prop:=s=decide (z<0)/\a0A m z.natAbs
theorem a4C.of_valid {s:Bool} {m:List Nat} (hd:Dig m) (h:a1g s m=true):a4C s m (a5W s m):=by
 have hv:a1n m=true:=by unfold a1g at h;simp at h;exact h.1
 have hc:a0A m (nv m):=⟨hd,hv,rfl⟩;have h0:=a0V hc;unfold a5W;rw[if_pos h];cases s
 ·simp only[Bool.false_eq_true,if_false]
  exact⟨by simp,by simpa using hc⟩
 ·have hm:0<m.length:=by unfold a1g at h;simpa[hv]using h
  simp only[if_true];refine⟨?_,by simpa using hc⟩;have:nv m≠0:=fun e=>by rw[e]at h0;simp at h0;simp[h0]at hm
  symm;rw[decide_eq_true_eq];omega
theorem a4C.valid {s:Bool} {m:List Nat} {z:Int} (h:a4C s m z):a1g s m=true:=by
 obtain⟨hs,hm⟩:=h;have h0:=a0V hm;unfold a1g;rw[hm.2.1];by_cases hz:z<0
 ·have:0<m.length:=by omega
  simp[this]
 ·simp[hs,hz]
theorem a4C.val {s:Bool} {m:List Nat} {z:Int} (h:a4C s m z):a5W s m=z:=by
 unfold a5W;rw[if_pos h.valid];obtain⟨hs,hm⟩:=h;rw[hm.2.2];by_cases hz:z<0
 ·simp only[hs,hz,decide_true,if_true];omega
 ·simp only[hs,hz,decide_false,Bool.false_eq_true,if_false];omega
theorem a4C.zero:a4C false [] 0:=⟨rfl,a0A.nil⟩
theorem a4C.len {s:Bool} {m:List Nat} {z:Int} (h:a4C s m z):m.length=lg z.natAbs:=h.2.len
theorem a4C.len0 {s:Bool} {m:List Nat} {z:Int} (h:a4C s m z):m.length=0↔z=0:=by
 have:=a0V h.2;omega
theorem b3k (s:Bool) (m:List Nat) (h:Dig m):lg (a5W s m).natAbs<=m.length:=by
 cases hv:a1g s m
 ·unfold a5W;rw[hv];simp[a4V]
 ·exact Nat.le_of_eq (a4C.of_valid h hv).len.symm
theorem a4D {s:Bool} {m:List Nat} (h:a1g s m=false):a5W s m=0:=by unfold a5W;rw[h];rfl
def dn (q:Rat):Nat:=if q.den=1 then 0 else q.den
def a4N (s:Bool) (m d:List Nat) (q:Rat):Prop:=a4C s m q.num/\a0A d (dn q)
noncomputable def a1K (s:Bool) (m d:List Nat):Bool:=a1g s m&&a1n d&&(decide (d.length=0)||(decide (0<m.length)&& !(nv d==1)&&(Nat.gcd (nv m) (nv d)==1)))
noncomputable def b1k (s:Bool) (m d:List Nat):Rat:=if a1K s m d then mkRat (a5W s m) (if d.length=0 then 1 else nv d)else 0
theorem a4N.of_valid {s:Bool} {m d:List Nat} (hm:Dig m) (hd:Dig d) (h:a1K s m d=true):a4N s m d (b1k s m d):=by
 have h':=h;unfold a1K at h';simp only[Bool.and_eq_true]at h';obtain⟨⟨h1,h2⟩,h3⟩:=h';have hz:=a4C.of_valid hm h1;have hcd:a0A d (nv d):=⟨hd,h2,rfl⟩;have h0:=a0V hcd;unfold b1k;rw[if_pos h];by_cases hl:d.length=0
 ·rw[if_pos hl]
  have e:mkRat (a5W s m) 1=((a5W s m:Int):Rat):=by rw[<-Rat.mk_den_one];rw[Rat.mk_eq_mkRat]
  rw[e];refine⟨by simpa using hz,?_⟩;have:nv d=0:=h0.1 hl;simp only[dn,Rat.den_intCast,if_true];rw[this]at hcd;exact hcd
 ·rw[if_neg hl]
  have hne:nv d≠0:=fun e=>hl (h0.2 e);simp[hl]at h3;obtain⟨⟨h4,h5⟩,h6⟩:=h3;have habs:(a5W s m).natAbs=nv m:=by have:=hz.2.2.2;omega
  have hg:(nv d).gcd (a5W s m).natAbs=1:=by rw[habs,Nat.gcd_comm];exact h6
  have e1:(mkRat (a5W s m) (nv d)).num=a5W s m:=by rw[Rat.num_mkRat,if_neg hne,hg];simp
  have e2:(mkRat (a5W s m) (nv d)).den=nv d:=by rw[Rat.den_mkRat,if_neg hne,hg];simp
  exact⟨by rw[e1];exact hz,by unfold dn;rw[e2,if_neg h5];exact hcd⟩
theorem a4N.valid {s:Bool} {m d:List Nat} {q:Rat} (h:a4N s m d q):a1K s m d=true:=by
 obtain⟨h1,h2⟩:=h;have h3:=a0V h2;have h4:=h1.len0;have h5:=q.reduced;have h6:=q.den_nz;unfold a1K;rw[h1.valid,h2.2.1,h2.2.2,h1.2.2.2];by_cases hd:q.den=1
 ·have:d.length=0:=by rw[h3];unfold dn;rw[if_pos hd]
  simp[this]
 ·have e:dn q=q.den:=by unfold dn;rw[if_neg hd]
  rw[e]at h3 |-;have hn:q.num≠0:=fun e=>by rw[e]at h5;simp[Nat.Coprime]at h5;exact hd h5
  have hm:0<m.length:=by omega
  have hg:q.num.natAbs.gcd q.den=1:=h5;simp[hm,hd,hg]
theorem a4N.val {s:Bool} {m d:List Nat} {q:Rat} (h:a4N s m d q):b1k s m d=q:=by
 unfold b1k;rw[if_pos h.valid];obtain⟨h1,h2⟩:=h;have h3:=a0V h2;rw[h1.val,h2.2.2];by_cases hd:q.den=1
 ·have:d.length=0:=by rw[h3];unfold dn;rw[if_pos hd]
  rw[if_pos this]
  conv=>rhs;rw[<-Rat.mkRat_self q]
  rw[hd]
 ·have e:dn q=q.den:=by unfold dn;rw[if_neg hd]
  have hl:d.length≠0:=by rw[e]at h3;have:=q.den_nz;omega
  rw[if_neg hl,e,Rat.mkRat_self]
theorem a4N.unique {s s':Bool} {m d m' d':List Nat} {q:Rat} (h:a4N s m d q) (h':a4N s' m' d' q):s=s'/\m=m'/\d=d':=
 ⟨h.1.1.trans h'.1.1.symm,h.1.2.unique h'.1.2,h.2.unique h'.2⟩
theorem a4N.zero:a4N false [] [] 0:=⟨a4C.zero,by simp[dn];exact a0A.nil⟩
theorem a4N.ofInt {s:Bool} {m:List Nat} {z:Int} (h:a4C s m z):a4N s m [] (z:Rat):=⟨by simpa using h,by simp[dn];exact a0A.nil⟩
theorem a4E {s:Bool} {m d:List Nat} (h:a1K s m d=false):b1k s m d=0:=by unfold b1k;rw[h];rfl
def hq (q:Rat):Nat:=max (lg q.num.natAbs) (lg q.den)
theorem a1k (q:Rat):lg q.num.natAbs<=hq q:=Nat.le_max_left _ _
theorem a1l (q:Rat):lg q.den<=hq q:=Nat.le_max_right _ _
theorem b4G (q:Rat):lg (dn q)<=hq q:=by
 unfold dn;split
 ·simp[a4V]
 ·exact a1l q
theorem a3k:lg 1=1:=a2E (by omega) (by omega)
theorem a5X {n:Nat} (h:0<n):1<=lg n:=b2p h
theorem a6C (q:Rat):1<=hq q:=Nat.le_trans (a5X q.den_pos) (a1l q)
theorem a8a (z:Int) (d k:Nat) (h1:lg z.natAbs<=k) (h2:lg d<=k) (hk:1<=k):hq (mkRat z d)<=k:=by
 by_cases hd:d=0
 ·subst hd;rw[Rat.mkRat_zero];unfold hq;simp[a4V,a3k];exact hk
 ·unfold hq
  rw[Rat.num_mkRat,Rat.den_mkRat,if_neg hd,if_neg hd];refine Nat.max_le.2 ⟨Nat.le_trans (a1a ?_) h1,Nat.le_trans (a1a (Nat.div_le_self _ _)) h2⟩;exact Int.natAbs_ediv_le_natAbs _ _
theorem a8b (x y:Rat):hq (x+y)<=hq x+hq y+1:=by
 rw[Rat.add_def'];refine a8a _ _ _ ?_ (Nat.le_trans (a1R _ _) (by have:=a1l x;have:=a1l y;omega)) (by omega);refine Nat.le_trans (a1a (Int.natAbs_add_le _ _)) ?_;refine Nat.le_trans (a9B _ _) ?_;rw[Int.natAbs_mul,Int.natAbs_mul,Int.natAbs_natCast,Int.natAbs_natCast];have a1:=a1R x.num.natAbs y.den;have a2:=a1R y.num.natAbs x.den;have:=a1k x;have:=a1k y;have:=a1l x;have:=a1l y;omega
theorem hq_mul (x y:Rat):hq (x*y)<=hq x+hq y:=by
 rw[Rat.mul_def'];refine a8a _ _ _ ?_ (Nat.le_trans (a1R _ _) (by have:=a1l x;have:=a1l y;omega)) (by have:=a6C x;omega);rw[Int.natAbs_mul];have:=a1R x.num.natAbs y.num.natAbs;have:=a1k x;have:=a1k y;omega
theorem a8c (x:Rat):hq (-x)=hq x:=by unfold hq;simp
theorem a9O (x y:Rat):hq (x - y)<=hq x+hq y+1:=by
 rw[Rat.sub_eq_add_neg,<-a8c y];exact a8b _ _
theorem a0Q:hq 0=1:=by unfold hq;simp[a4V,a3k]
theorem b4H (x:Rat):hq x⁻¹<=hq x:=by
 by_cases h:x=0
 ·subst h;simp
 ·have hn:x.num≠0:=fun e=>h (Rat.num_eq_zero.1 e)
  unfold hq;rw[Rat.num_inv,Rat.den_inv,if_neg hn,Int.natAbs_mul,Int.natAbs_sign_of_ne_zero hn,Nat.one_mul,Int.natAbs_natCast,Nat.max_comm];exact Nat.le_refl _
theorem hq_div (x y:Rat):hq (x/y)<=hq x+hq y:=by
 rw[Rat.div_def];exact Nat.le_trans (hq_mul _ _) (by have:=b4H y;omega)
theorem b2t (z:Int) (k:Nat) (h:lg z.natAbs<=k) (hk:1<=k):hq (z:Rat)<=k:=by
 unfold hq;rw[Rat.num_intCast,Rat.den_intCast,a3k];exact Nat.max_le.2 ⟨h,hk⟩
theorem a9P (s:Bool) (m d:List Nat) (k:Nat) (hm:Dig m) (hd:Dig d) (h1:m.length<=k) (h2:d.length<=k) (hk:1<=k):hq (b1k s m d)<=k:=by
 cases hv:a1K s m d
 ·rw[a4E hv,a0Q];exact hk
 ·have hc:=a4N.of_valid hm hd hv
  have e1:=hc.1.len;have e2:=hc.2.len;unfold hq;refine Nat.max_le.2 ⟨by omega,?_⟩;unfold dn at e2;split at e2
  ·rename_i h;rw[h,a3k];exact hk
  ·omega
theorem a4N.lowest {s:Bool} {n d:List Nat} {z:Int} {k:Nat} (hk:k≠0) (hs:s=decide (z<0)) (hn:a0A n (z.natAbs/Nat.gcd z.natAbs k)) (hd:a0A d (k/Nat.gcd z.natAbs k)):a4N s n (if k/Nat.gcd z.natAbs k=1 then[]else d) (mkRat z k):=by
 have hg:0<Nat.gcd z.natAbs k:=Nat.gcd_pos_of_pos_right _ (by omega);have e1:(mkRat z k).num=z/(Nat.gcd z.natAbs k:Nat):=by rw[Rat.num_mkRat,if_neg hk,Nat.gcd_comm]
 have e2:(mkRat z k).den=k/Nat.gcd z.natAbs k:=by rw[Rat.den_mkRat,if_neg hk,Nat.gcd_comm]
 have hdv:((Nat.gcd z.natAbs k:Nat):Int)∣z:=Int.ofNat_dvd_left.2 (Nat.gcd_dvd_left _ _);have e3:(mkRat z k).num.natAbs=z.natAbs/Nat.gcd z.natAbs k:=by rw[e1,Int.natAbs_ediv_of_dvd hdv,Int.natAbs_natCast]
 refine⟨⟨?_,by rw[e3];exact hn⟩,?_⟩
 ·rw[hs,Bool.eq_iff_iff]
  simp only[decide_eq_true_eq];rw[e1];obtain⟨g,hgg⟩:∃g,Nat.gcd z.natAbs k=g:=⟨_,rfl⟩;rw[hgg]at hdv hg |-;obtain⟨c,rfl⟩:=hdv;rw[Int.mul_ediv_cancel_left _ (by omega)];constructor
  ·intro h
   by_cases h0:c<0
   ·exact h0
   ·have:=Int.mul_nonneg (Int.natCast_nonneg g) (show 0<=c by omega);omega
  ·intro h
   exact Int.mul_neg_of_pos_of_neg (by omega) h
 ·unfold dn
  rw[e2];split
  ·exact a0A.nil
  ·exact hd
theorem b4I {n:Nat} (h1:4294967296<=n):2<=lg n:=by
 by_cases h:lg n<=1
 ·rw[a2Q,Nat.pow_one,a0Z]at h;omega
 ·omega
end Go.Lim
namespace Go.Proofs.YtkddecjkfdogiaaGreat
open Go.RowKit Go.Rep Go.Lim
theorem a7v (X:Nat->Bool) (ao bo:Option Addr) (la lb:List Nat) (ca cb:Nat) (w:World) (hsa:Sl (a0b .u32) 1 (mk X w) ao la) (hsb:Sl (a0b .u32) 1 (mk X w) bo lb)
  (hda:Dig la) (hdb:Dig lb) (hla:la.length<=1099511627776) (hlb:lb.length<=1099511627776) (hca:la.length<=ca) (hcb:lb.length<=cb) (hX:∀k,X k=true->k<w.heap.size) (na nb:Nat) (hna:val la=na) (hnb:val lb=nb)
  (h0:0<nb):
  Calls Tryz.prog 218 #[.slice ao la.length ca, .slice bo lb.length cb] w (b2r X w (na/nb) (na%nb)):=by
 by_cases h1:nb<4294967296
 ·exact b1e X ao bo la lb ca cb w hsa hsb hda hdb hla hlb hca hcb hX na nb hna hnb h0 h1
 have h2:=b4I (show 4294967296<=nb by omega);clear h1;go_enter Tryz.func218,Tryz.ntmps218
 go_wp2_with fail
 refine(a0W X _ _ _ _ hsa hda (by omega) hca).mono ?_;rintro e w' ⟨rfl,ao1,ca1,a,rfl,hca1,hal,hcan,hsa1⟩;go_wp2_with fail
 refine(a0W X _ _ _ _ hsb hdb (by omega) hcb).mono ?_;rintro e w' ⟨rfl,bo1,cb1,b,rfl,hcb1,hbl,hcbn,hsb1⟩;rw[hna]at hcan;rw[hnb]at hcbn;have hb2:2<=b.length:=by rw[hcbn.len];exact h2
 have hal':a.length<=1099511627776:=Nat.le_trans hal hla;have hbl':b.length<=1099511627776:=Nat.le_trans hbl hlb;have hva:=hid hcan.val;have hvb:=hid hcbn.val;clear hna hnb hal hbl hsa hsb hla hlb hca hcb h2 hda hdb;go_wp2_with fail
 refine(a2R X ao1 bo1 a b ca1 cb1 w hsa1 hsb1 hcan.1 hcbn.1 hal' hbl' hca1 hcb1 na nb hva.out hvb.out).mono ?_;rintro e w2 ⟨hE2,rfl⟩;have hsa2:=hsa1.mono (a0b.mono _) (a0o hE2);have hsb2:=hsb1.mono (a0b.mono _) (a0o hE2);have hX2:∀k,X k=true->k<w2.heap.size:=fun k hk=>Nat.lt_of_lt_of_le (hX k hk) hE2.size;by_cases hlt:na<nb
 ·have hcl:a3a na nb<0:=(a3g na nb).2 hlt
  have hq:=hid (Nat.div_eq_of_lt hlt);have hr:=hid (Nat.mod_eq_of_lt hlt);generalize a3a na nb=c at hcl;go_wp2_with fail
  refine(a4X X _ _ _ _ na hsa2 hcan (by omega) hX2).mono ?_;rintro e w3 ⟨hE3,ao3,ca3,l3,rfl,hc3,hcan3,hs3⟩;go_wp2_with fail
  go_ret3
  refine⟨hE2.trans hE3,none,0,[],ao3,ca3,l3,rfl,by simp,?_,Sl.nil _ _ _ _,hc3,?_,hs3⟩
  ·rw[hq.out];exact a0A.nil
  ·rw[hr.out];exact hcan3
 ·have hcl:¬a3a na nb<0:=fun h=>hlt ((a3g na nb).1 h)
  generalize a3a na nb=c at hcl;go_wp2_with fail
  refine(a8U X ao1 bo1 a b ca1 cb1 w2 hsa2 hsb2 na nb hcan hcbn (by omega) hb2 hal' hX2).mono ?_;rintro e w3 ⟨hE3,ao3,ca3,l3,bo4,cb4,l4,rfl,hc3,hcan3,hs3,hc4,hcan4,hs4⟩;go_wp2_with fail
  go_ret3
  exact⟨hE2.trans hE3,ao3,ca3,l3,bo4,cb4,l4,rfl,hc3,hcan3,hs3,hc4,hcan4,hs4⟩
def b3l (w:World) (n:Nat) (e:Ending) (w':World):Prop:=
 w=w'/\((n<18446744073709551616/\e= .returned (.tuple #[.int .u64 n, .bool true]))\/(18446744073709551616<=n/\e= .returned (.tuple #[.int .u64 0, .bool false])))
theorem a5Y (X:Nat->Bool) (ao:Option Addr) (l:List Nat) (c:Nat) (w:World) (hs:Sl (a0b .u32) 1 (mk X w) ao l) (hd:Dig l) (hl:l.length<=1099511627776) (hc:l.length<=c) (n:Nat) (hn:val l=n):
  Calls Tryz.prog 261 #[.slice ao l.length c] w (b3l w n):=by
 go_enter Tryz.func261,Tryz.ntmps261
 go_wp2_with fail
 refine(a0W X _ _ _ _ hs hd (by omega) hc).mono ?_;rintro e w' ⟨rfl,ao1,ca1,a,rfl,hca1,hal,hcan,hsa1⟩;rw[hn]at hcan;have hal':a.length<=1099511627776:=Nat.le_trans hal hl;have hha:=hsa1.hd;have hnv:=hid hcan.2.2;have hda:=hcan.1;have hlen:=hid hcan.len;clear hn hs hd hl hc hal;by_cases h2:2<a.length
 ·have hbig:18446744073709551616<=n:=by
   by_cases h:n<18446744073709551616
   ·have:lg n<=2:=by rw[a2Q,a0Z];omega
    have:=hlen.out;omega
   ·omega
  have hb':=hid hbig;clear hbig;go_wp2_with fail
  go_ret2
  exact⟨rfl, .inr ⟨hb'.out,rfl⟩⟩
 ·have hsm:Hid (n<18446744073709551616):=hid (by
   have:lg n<=2:=by rw[<-hlen.out];omega
   rw[a2Q,a0Z]at this;omega)
  go_wp2_with fail
  go_loop [2,13] (fun v i=>∃k:Nat,i= .int .i64 k/\v= .int .u64 (nv (a.take k):Nat)/\k<=a.length) (fun _ i=>a.length - (intOf i).toNat)
  case atStart=>exact⟨0,rfl,rfl,by omega⟩
  case round=>
   obtain⟨k,rfl,rfl,hk⟩:=hrel;by_cases hlt:k<a.length
   ·have hcell:=hsa1.nat k hlt
    have hx:=hda.get k hlt;have hstep:=a0v a k hlt;obtain⟨x,hxx⟩:∃x,a[k]=x:=⟨_,rfl⟩;rw[hxx]at hcell hx hstep;rw[a0Z]at hx hstep;have hlow:=a1J hda k;obtain⟨v,hv⟩:∃v,nv (a.take k)=v:=⟨_,rfl⟩;rw[hv]at hstep hlow |-;have hst':=hid hstep;clear hstep hxx hv;rcases(by omega:k=0\/k=1)with rfl|rfl
    ·rw[Nat.pow_zero]at hlow
     obtain rfl:v=0:=by omega
     clear hlow;have hor:bits BinOp.or IntKind.u64 0 (x:Int)=(x:Int):=by
      have:=bits_or_u64_nat 0 x (by omega) (by omega);rw[Nat.zero_or]at this;exact this
     have hcell0:w.cell? (adr ao1 0)=some (.int .u32 x):=hcell;go_wp2_with (with_reducible refine a0t a0G (by omega) (by assumption) ?_)
     have hfin:nv (a.take 1)=x:=by have:=hst'.out;simpa using this
     go_round
     case rel=>exact⟨1,rfl,by rw[hfin],by omega⟩
     case measure=>simp[intOf];omega
    ·rw[Nat.pow_one,a0Z]at hlow
     have hor0:bits BinOp.or IntKind.u64 (v:Int) ((x:Int)*4294967296)=((v+4294967296*x:Nat):Int):=by
      have e:=bits_or_u64_nat v (x*4294967296) (by omega) (by omega);have e2:=Nat.two_pow_add_eq_or_of_lt (i:=32) (b:=v) (by omega) x;rw[Nat.or_comm,Nat.mul_comm x,show(4294967296:Nat)*x=2^32*x from rfl,<-e2]at e;have e3:((2^32*x:Nat):Int)=(x:Int)*4294967296:=by omega
      rw[e3]at e;rw[e];omega
     have hfin0:nv (a.take 2)=v+4294967296*x:=by have:=hst'.out;simpa using this
     obtain⟨T,hT⟩:∃T,v+4294967296*x=T:=⟨_,rfl⟩;rw[hT]at hor0 hfin0;have hfin:=hid hfin0;have hor:=hor0;clear hor0 hT hfin0;have hcell0:w.cell? (adr ao1 1)=some (.int .u32 x):=hcell;have hvI:(v:Int)<4294967296:=by omega
     have hxI:(x:Int)<4294967296:=by omega
     clear hlow hx;have hltI:(1:Int)<(a.length:Int):=by omega
     have hltI2:decide ((1:Int)<(a.length:Int))=true:=decide_eq_true hltI;go_wp2_with (with_reducible refine a0t a0G (by omega) (by assumption) ?_)
     go_round
     case rel=>exact⟨2,rfl,by rw[hfin.out],by omega⟩
     case measure=>simp[intOf];omega
   ·have hka:k=a.length:=by omega
    have hfin:nv (a.take k)=n:=by rw[hka,List.take_length];exact hnv.out
    rw[hfin];go_wp2_with fail
    go_ret2
    exact⟨rfl, .inl ⟨hsm.out,rfl⟩⟩
theorem a9Q (a b:Nat) (w:World) (_ha:a<18446744073709551616) (hb:b<18446744073709551616):
  Calls Tryz.prog 262 #[.int .u64 a, .int .u64 b] w (a7Y w .u64 (Nat.gcd a b)):=by
 obtain⟨g,hg⟩:∃g,Nat.gcd a b=g:=⟨_,rfl⟩;rw[hg];have hg':=hid hg;clear hg;have hbI:Hid (b<18446744073709551616):=hid hb;clear _ha hb;go_enter Tryz.func262,Tryz.ntmps262
 go_wp2_with fail
 go_loopw [0,1] (fun x y wr=>∃p q m:Nat,x= .int .u64 p/\y= .int .u64 q/\Hid (Nat.gcd p q=g)/\wr=w.drewN m) (fun _ y _=>(intOf y).toNat)
 case atStart=>exact⟨a,b,0,rfl,rfl,hg',rfl⟩
 case round=>
  obtain⟨p,q,m,rfl,rfl,hpq,rfl⟩:=hrel;by_cases hq:q=0
  ·subst hq
   have hfin:=hid (by have:=hpq.out;rwa[Nat.gcd_zero_right]at this);have t1:(((0:Nat):Int) !=0)=false:=rfl;go_wp2_with fail
   go_ret
   exact⟨a0I (congrArg Nat.cast hfin.out),m,rfl⟩
  ·have t1:((q:Int)==0)=false:=a3E (by omega)
   have t2:((q:Int) !=0)=true:=a7p (by omega);have hst:Hid (Nat.gcd q (p%q)=g):=hid (by rw[Nat.gcd_comm,<-Nat.gcd_rec,Nat.gcd_comm];exact hpq.out);have hlt:p%q<q:=Nat.mod_lt _ (by omega);have hq':=hid hq;clear hq;go_wp2_with fail
   go_quiet (fail)
   go_wp2_with fail
   go_roundw
   case rel=>exact⟨q,p%q,_,rfl,by rw[Int.natCast_emod],hst,World.drewN_drewN _ _ _⟩
   case measure=>
    simp only[intOf,Int.toNat_natCast];rw[<-Int.natCast_emod,Int.toNat_natCast];exact hlt
noncomputable def b5L (w:World):Value->Nat
 | .slice ao n _=>nv ((List.range n).map fun i=>match w.cell? (adr ao i)with|some (.int _ x)=>x.toNat|_=>0)
 |_=>0
theorem a4p {X:Nat->Bool} {w:World} {ao:Option Addr} {l:List Nat} (c:Nat) (hs:Sl (a0b .u32) 1 (mk X w) ao l):b5L w (.slice ao l.length c)=nv l:=by
 show nv _=nv l
 congr 1
 apply List.ext_getElem
 ·simp
 ·intro i h1 h2
  simp only[List.getElem_map,List.getElem_range,hs.nat i h2,Int.toNat_natCast]
theorem b3m (X:Nat->Bool) (ao bo:Option Addr) (la lb:List Nat) (ca cb:Nat) (w:World) (hsa:Sl (a0b .u32) 1 (mk X w) ao la) (hsb:Sl (a0b .u32) 1 (mk X w) bo lb)
  (hda:Dig la) (hdb:Dig lb) (hla:la.length<=1099511627776) (hlb:lb.length<=1099511627776) (hca:la.length<=ca) (hcb:lb.length<=cb) (hX:∀k,X k=true->k<w.heap.size) (na nb:Nat) (hna:val la=na) (hnb:val lb=nb):
  Calls Tryz.prog 250 #[.slice ao la.length ca, .slice bo lb.length cb] w (a3H X w (Nat.gcd na nb)):=by
 go_enter Tryz.func250,Tryz.ntmps250
 go_wp2_with fail
 refine(a0W X _ _ _ _ hsa hda (by omega) hca).mono ?_;rintro e w' ⟨rfl,ao1,ca1,a,rfl,hca1,hal,hcan,hsa1⟩;go_wp2_with fail
 refine(a0W X _ _ _ _ hsb hdb (by omega) hcb).mono ?_;rintro e w' ⟨rfl,bo1,cb1,b,rfl,hcb1,hbl,hcbn,hsb1⟩;rw[hna]at hcan;rw[hnb]at hcbn;have hal':a.length<=1099511627776:=Nat.le_trans hal hla;have hbl':b.length<=1099511627776:=Nat.le_trans hbl hlb;obtain⟨g,hg⟩:∃g,Nat.gcd na nb=g:=⟨_,rfl⟩;rw[hg];have hg':=hid hg;have hc1:=hid hcan;have hc2:=hid hcbn;clear hna hnb hal hbl hsa hsb hla hlb hca hcb hda hdb hg hcan hcbn;go_wp2_with fail
 go_loopw [0,1] (fun x y wr=>∃(p q:Nat) (ao bo:Option Addr) (a b:List Nat) (ca cb:Nat),x= .slice ao a.length ca/\y= .slice bo b.length cb/\a.length<=ca/\b.length<=cb/\a.length<=1099511627776/\b.length<=1099511627776/\Hid (a0A a p)/\Hid (a0A b q)/\Hid (Nat.gcd p q=g)/\
  Sl (a0b .u32) 1 (mk X wr) ao a/\Sl (a0b .u32) 1 (mk X wr) bo b/\Ext w wr) (fun _ y W=>b5L W y)
 case atStart=>exact⟨na,nb,_,_,_,_,_,_,rfl,rfl,hca1,hcb1,hal',hbl',hc1,hc2,hg',hsa1,hsb1,ExtX.refl _⟩
 case round=>
  clear hc1 hc2 hsa1 hsb1 hca1 hcb1 hal' hbl';obtain⟨p,q,ao2,bo2,a2,b2,ca2,cb2,rfl,rfl,hca,hcb,hal,hbl,hc1,hc2,hg,hsa,hsb,hE⟩:=hrel;have hX2:∀k,X k=true->k<wr.heap.size:=fun k hk=>Nat.lt_of_lt_of_le (hX k hk) hE.size;by_cases hq:0<b2.length
  ·have hq0:Hid (0<q):=hid (by have:=a0V hc2.out;omega)
   have hqI:(0:Int)<(b2.length:Int):=by omega
   have hd1:=hc1.out.1;have hd2:=hc2.out.1;have hv1:=hid hc1.out.val;have hv2:=hid hc2.out.val;go_wp2_with fail
   refine(a5Y X ao2 a2 ca2 wr hsa hd1 hal hca p hv1.out).mono ?_;rintro e w' ⟨rfl,hu1⟩;rcases hu1 with⟨u1,rfl⟩|⟨u1,rfl⟩
   ·have u1':=hid u1
    clear u1;go_wp2_with fail
    refine(a5Y X bo2 b2 cb2 wr hsb hd2 hbl hcb q hv2.out).mono ?_;rintro e w' ⟨rfl,hu2⟩;rcases hu2 with⟨u2,rfl⟩|⟨u2,rfl⟩
    ·have hgl:Nat.gcd p q<18446744073709551616:=Nat.lt_of_le_of_lt (Nat.gcd_le_right _ hq0.out) u2
     rw[hg.out]at hgl;have u2':=hid u2;have hgl':=hid hgl;have hgc:=a9Q p q wr u1'.out u2'.out;rw[hg.out]at hgc;clear u2 hgl;go_wp2_with fail
     refine hgc.mono ?_;rintro e w2 ⟨rfl,m,rfl⟩;go_wp2_with fail
     refine(a3h X g (wr.drewN m) hgl'.out hX2).mono ?_;rintro e w3 ⟨hE3,ao3,ca3,l3,rfl,hc3,hcan3,hs3⟩;go_wp2_with fail
     go_ret
     exact⟨hE.trans (((ExtX.refl wr).drewN m).trans hE3),ao3,ca3,l3,rfl,hc3,by rw[hg'.out];exact hcan3,hs3⟩
    ·clear u2
     go_wp2_with fail
     refine(a7v X ao2 bo2 a2 b2 ca2 cb2 wr hsa hsb hd1 hd2 hal hbl hca hcb hX2 p q hv1.out hv2.out hq0.out).mono ?_;rintro e w3 ⟨hE3,ao3,ca3,l3,bo4,cb4,l4,rfl,hc3,hcan3,hs3,hc4,hcan4,hs4⟩;go_wp2_with fail
     have hl4:l4.length<=1099511627776:=by
      have h1:l4.length<=b2.length:=by rw[hcan4.len,hc2.out.len];exact a1a (Nat.le_of_lt (Nat.mod_lt _ hq0.out))
      omega
     have hst:Hid (Nat.gcd q (p%q)=g):=hid (by rw[Nat.gcd_comm,<-Nat.gcd_rec,Nat.gcd_comm];exact hg.out);have hsb3:=hsb.mono (a0b.mono _) (a0o hE3);have hm1:=a4p cb4 hs4;have hm2:=a4p cb2 hsb;rw[hcan4.2.2]at hm1;rw[hc2.out.2.2]at hm2;have hlt:=Nat.mod_lt p hq0.out;have hcan4':=hid hcan4;have hm1':=hid hm1;have hm2':=hid hm2;clear hcan3 hs3 hcan4 hm1 hm2 hv1 hv2;go_roundw
     case rel=>exact⟨q,p%q,_,_,_,_,_,_,rfl,rfl,hcb,hc4,hbl,hl4,hc2,hcan4',hst,hsb3,hs4,hE.trans hE3⟩
     case measure=>rw[hm1'.out,hm2'.out];exact hlt
   ·clear u1
    go_wp2_with fail
    refine(a5Y X bo2 b2 cb2 wr hsb hd2 hbl hcb q hv2.out).mono ?_;rintro e w' ⟨rfl,hu2⟩;rcases hu2 with⟨u2,rfl⟩|⟨u2,rfl⟩
    all_goals
     clear u2;go_wp2_with fail
     refine(a7v X ao2 bo2 a2 b2 ca2 cb2 wr hsa hsb hd1 hd2 hal hbl hca hcb hX2 p q hv1.out hv2.out hq0.out).mono ?_;rintro e w3 ⟨hE3,ao3,ca3,l3,bo4,cb4,l4,rfl,hc3,hcan3,hs3,hc4,hcan4,hs4⟩;go_wp2_with fail
     have hl4:l4.length<=1099511627776:=by
      have h1:l4.length<=b2.length:=by rw[hcan4.len,hc2.out.len];exact a1a (Nat.le_of_lt (Nat.mod_lt _ hq0.out))
      omega
     have hst:Hid (Nat.gcd q (p%q)=g):=hid (by rw[Nat.gcd_comm,<-Nat.gcd_rec,Nat.gcd_comm];exact hg.out);have hsb3:=hsb.mono (a0b.mono _) (a0o hE3);have hm1:=a4p cb4 hs4;have hm2:=a4p cb2 hsb;rw[hcan4.2.2]at hm1;rw[hc2.out.2.2]at hm2;have hlt:=Nat.mod_lt p hq0.out;have hcan4':=hid hcan4;have hm1':=hid hm1;have hm2':=hid hm2;clear hcan3 hs3 hcan4 hm1 hm2 hv1 hv2;go_roundw
     case rel=>exact⟨q,p%q,_,_,_,_,_,_,rfl,rfl,hcb,hc4,hbl,hl4,hc2,hcan4',hst,hsb3,hs4,hE.trans hE3⟩
     case measure=>rw[hm1'.out,hm2'.out];exact hlt
  ·have hq0:q=0:=by have:=a0V hc2.out;omega
   subst hq0;have hfin:=hg.out;rw[Nat.gcd_zero_right]at hfin;have hfin':=hid hfin;clear hfin;have hcc:=hc1.out;clear hg hc2;go_wp2_with fail
   refine(a4X X ao2 a2 ca2 wr p hsa hcc (by omega) hX2).mono ?_;rintro e w3 ⟨hE3,ao3,ca3,l3,rfl,hc3,hcan3,hs3⟩;go_wp2_with fail
   go_ret
   exact⟨hE.trans hE3,ao3,ca3,l3,rfl,hc3,by rw[hg'.out,<-hfin'.out];exact hcan3,hs3⟩
theorem a2p (X:Nat->Bool) (ao:Option Addr) (l:List Nat) (cap:Nat) (w:World) (hs:Sl (a0b .u32) 1 (mk X w) ao l) (hl:l.length<=4398046511104):
  Calls Tryz.prog 236 #[.slice ao l.length cap] w fun e w'=>w=w'/\e= .returned (.bool (a1n l)):=by
 have hh:=hs.hd;by_cases h0:l.length=0
 ·have hl0:l= []:=List.eq_nil_of_length_eq_zero h0
  subst hl0;clear hs hh hl h0;simp only[List.length_nil];go_enter Tryz.func236,Tryz.ntmps236
  go_wp2_with fail
  go_ret
  exact⟨rfl,rfl⟩
 ·have hc:=hs.nat (l.length - 1) (by omega)
  have hv:=hid (a2P (l:=l) (by omega));have hz:((l.length:Int)==0)=false:=a3E (by omega);go_enter Tryz.func236,Tryz.ntmps236
  go_wp2_with (with_reducible refine a0t a0G (by omega) (by assumption) ?_)
  go_ret
  exact⟨rfl,a0l (by rw[hv.out];exact a6y _)⟩
theorem a5b (X:Nat->Bool) (ao:Option Addr) (l:List Nat) (cap:Nat) (w:World) (hs:Sl (a0b .u32) 1 (mk X w) ao l) (hd:Dig l) (hl:l.length<=4398046511104) (hX:∀k,X k=true->k<w.heap.size):
  Calls Tryz.prog 184 #[.slice ao l.length cap] w (a3H X w (val l)):=by
 cases hv:a1n l
 ·have hv':=hid hv
  go_enter Tryz.func184,Tryz.ntmps184
  go_wp2_with (go_at_call 236;refine(a2p X _ _ _ _ hs hl).mono ?_;rintro e w' ⟨rfl,rfl⟩)
  go_ret
  have:vl l= []:=by unfold vl;rw[hv];rfl
  exact⟨ExtX.refl _,none,0,[],rfl,by simp,this▸a3T hd,Sl.nil _ _ _ _⟩
 ·have hv':=hid hv
  have hO:=OL.nil (a0b .u32) 1 X w.heap.size 118 w;have hs2:Sl (a0b .u32) 1 (mk (un X none) w) ao l:=hs.mono (a0b.mono _) (a1m fun k _ hk=>by simpa[un,ob]using hk);go_enter Tryz.func184,Tryz.ntmps184
  go_wp2_with (first|(go_at_call 236;refine(a2p X _ _ _ _ hs hl).mono ?_;rintro e w' ⟨rfl,rfl⟩)|(at_builtin;refine a5v (l:=[]) a0G rfl (a0b.elem .u32) (Nat.le_refl _) hX l rfl rfl hO hs2 (by simp;omega) (by simp;omega) ?_;intro ao2 cap2 w2 hO2 hE2 _))
  go_ret
  have:vl l=l:=by unfold vl;rw[hv];rfl
  have hc:=a3T hd;rw[this]at hc;exact⟨(ExtX.refl w).own hO (Nat.le_refl _) hE2,_,_,l,rfl,by simpa using hO2.lenCap,hc,by simpa using hO2.sl (a0b.elem _)⟩
theorem a4b (X:Nat->Bool) (ao:Option Addr) (l:List Nat) (cap:Nat) (w:World) (hs:Sl (a0b .u32) 1 (mk X w) ao l) (hd:Dig l) (hl:l.length<=4398046511104) (hcap:l.length<=cap):
  Calls Tryz.prog 239 #[.slice ao l.length cap] w (a9E X w ao l cap):=by
 have hh:=hs.hd;go_enter Tryz.func239,Tryz.ntmps239
 go_wp2_with fail
 go_loop [0] (fun s=>∃k:Nat,s= .slice ao k cap/\Cut l k) (fun s=>lenOf s)
 case atStart=>exact⟨_,rfl,Cut.all l⟩
 case round=>
  obtain⟨k,rfl,hk⟩:=hrel;have hkl:=hk.1;by_cases hlt:0<k
  ·have hc:=hs.nat (k - 1) (by omega)
   have hhk:Hd ao k:=fun _=>hh (by omega);by_cases hz:l[k - 1]=0
   ·have hk':=hk.less hlt hz
    have hz':=hid hz;rw[hz]at hc;clear hz;go_wp2_with (with_reducible refine a0t a0G (by omega) (by assumption) ?_)
    go_round
    case rel=>exact⟨k - 1,by go_num,hk'⟩
    case measure=>simp[lenOf];omega
   ·have hcn:=hk.canon hd (.inr ⟨by omega,hz⟩)
    have hz':((l[k - 1]:Int)==0)=false:=a3E (by omega);go_wp2_with (with_reducible refine a0t a0G (by omega) (by assumption) ?_)
    go_ret
    exact⟨rfl,l.take k,a3Q (by simp;omega),by simp;omega,hcn,hs.take k⟩
  ·have hcn:=hk.canon hd (.inl (by omega))
   go_wp2_with fail
   go_ret
   exact⟨rfl,l.take k,a3Q (by simp;omega),by simp;omega,hcn,hs.take k⟩
theorem a3l (X:Nat->Bool) (ao:Option Addr) (l:List Nat) (cap:Nat) (i:Nat) (w:World) (hs:Sl (a0b .u32) 1 (mk X w) ao l) (hd:Dig l) (hi:i<=4398046511104) (x:Nat) (hx:l.getD i 0=x):
  Calls Tryz.prog 238 #[.slice ao l.length cap, .int .i64 i] w fun e w'=>w=w'/\e= .returned (.int .u64 x):=by
 have hh:=hs.hd;have hx':=hid hx;clear hx;by_cases h:i<l.length
 ·have hc:=hs.nat i h
  have hD:l.getD i 0=l[i]:=by simp[List.getD,h]
  have hD':=hid hD;have hdi:=hd.get i h;rw[a0Z]at hdi;go_enter Tryz.func238,Tryz.ntmps238
  go_wp2_with (with_reducible refine a0t a0G (by omega) (by assumption) ?_)
  go_ret
  exact⟨rfl,a0I (by rw[<-hx'.out,hD'.out])⟩
 ·have hD:l.getD i 0=0:=by simp[List.getD,h]
  have hD':=hid hD;go_enter Tryz.func238,Tryz.ntmps238
  go_wp2_with (with_reducible refine a0t a0G (by omega) (by assumption) ?_)
  go_ret
  exact⟨rfl,a0I (by rw[<-hx'.out,hD'.out];rfl)⟩
theorem a5Z (X:Nat->Bool) (n:Nat) (w:World) (hn:n<18446744073709551616) (hX:∀k,X k=true->k<w.heap.size):
  Calls Tryz.prog 187 #[.int .u64 n] w (a3H X w n):=by
 have hO:OL (a0b .u32) 1 X w.heap.size 118 (w.alloc (.cells #[.int .u32 ((n:Int)%4294967296), .int .u32 ((n:Int)/4294967296)] 118)) (some ⟨w.heap.size,0,none⟩) 2 [n%4294967296,n/4294967296]:=
  OL.lit (a0b.elem .u32) hX (Nat.le_refl _) [.int .u32 ((n%4294967296:Nat):Int), .int .u32 ((n/4294967296:Nat):Int)] [n%4294967296,n/4294967296] _ (by simp[a0g,Value.cells]) rfl
   (fun i hi _=>by
            match i,hi with
            |0,_=>rfl
            |1,_=>rfl) (by simp)
 go_enter Tryz.func187,Tryz.ntmps187
 go_wp2_with fail
 refine(a4b X _ [n%4294967296,n/4294967296] _ _ (hO.sl (a0b.elem .u32)) (Dig.cons (by rw[a0Z];exact Nat.mod_lt _ (by decide)) (Dig.cons (by rw[a0Z];omega) Dig.nil)) (by simp) (by simp)).mono ?_;rintro e w' ⟨rfl,l',rfl,hl',hc,hs'⟩;go_wp2_with fail
 go_ret
 have hv:nv [n%4294967296,n/4294967296]=n:=by simp only[nv,a0Z];omega
 rw[hv]at hc;exact⟨(ExtX.refl w).alloc _,_,2,_,rfl,by simpa using hl',hc,hs'⟩
theorem a6a (X:Nat->Bool) (ao1 bo1:Option Addr) (a b:List Nat) (ca1 cb1:Nat) (w:World) (hsa1:Sl (a0b .u32) 1 (mk X w) ao1 a) (hsb1:Sl (a0b .u32) 1 (mk X w) bo1 b)
  (hal':a.length<=1099511627776) (na nb:Nat) (hcan:a0A a na) (hcbn:a0A b nb):
  Calls Tryz.prog 241 #[.slice ao1 a.length ca1, .slice bo1 b.length cb1] w (a5A w (a3a na nb)):=by
 have hha:=hsa1.hd;have hhb:=hsb1.hd;by_cases hlt:a.length<b.length
 ·have hv:=hid (a3F hcan hcbn hlt)
  have hne:((a.length:Int) !=b.length)=true:=a7p (by omega);go_enter Tryz.func241,Tryz.ntmps241
  go_wp2_with fail
  go_ret
  exact⟨ExtX.refl _,a0I hv.out.symm⟩
 by_cases hgt:b.length<a.length
 ·have hv:=hid (a3G hcan hcbn hgt)
  have hne:((a.length:Int) !=b.length)=true:=a7p (by omega);go_enter Tryz.func241,Tryz.ntmps241
  go_wp2_with fail
  go_ret
  exact⟨ExtX.refl _,a0I hv.out.symm⟩
 have hne:((a.length:Int) !=b.length)=false:=a8S (by omega);have heq:Hid (a.length=b.length):=hid (by omega);have hbl:b.length<=a.length:=by omega
 have hab:a.length<=b.length:=by omega
 clear hlt hgt;go_enter Tryz.func241,Tryz.ntmps241
 go_wp2_with fail
 go_loopw [5] (fun i wr=>∃k:Nat,i= .int .i64 ((k:Int) - 1)/\k<=a.length/\Hid (a.drop k=b.drop k)/\Ext w wr) (fun i _=>(intOf i+1).toNat)
 case atStart=>exact⟨a.length,rfl,Nat.le_refl _,hid (by rw[List.drop_of_length_le (Nat.le_refl _),List.drop_of_length_le hbl]),ExtX.refl _⟩
 case round=>
  obtain⟨k,rfl,hk,hdr,hE⟩:=hrel;by_cases hlt:0<k
  ·have c1:=(hsa1.mono (a0b.mono _) (a0o hE)).nat (k - 1) (by omega)
   have c2:=(hsb1.mono (a0b.mono _) (a0o hE)).nat (k - 1) (by omega);have i1:∀W,(Instr.indexAt 28 (.slice ao1 a.length ca1) (.int .i64 ((k:Int) - 1))).run Tryz.prog W= .ok (.pointer (some (adr ao1 (k - 1)))) W:=a0z a0G ao1 a.length ca1 .i64 (k - 1) hha (by omega) (by omega);have i2:∀W,(Instr.indexAt 28 (.slice bo1 b.length cb1) (.int .i64 ((k:Int) - 1))).run Tryz.prog W= .ok (.pointer (some (adr bo1 (k - 1)))) W:=a0z a0G bo1 b.length cb1 .i64 (k - 1) hhb (by omega) (by omega);by_cases h1:a[k - 1]<b[k - 1]
   ·have hv:=hid (a5x hcan hcbn heq.out hlt hk hdr.out h1)
    have t1:((a[k - 1]:Int)<(b[k - 1]:Int)):=by omega
    go_wp2_with fail
    go_quiet (fail)
    go_wp2_with fail
    go_ret
    exact⟨hE.drewN _,a0I hv.out.symm⟩
   by_cases h2:b[k - 1]<a[k - 1]
   ·have hv:=hid (a5y hcan hcbn heq.out hlt hk hdr.out h2)
    go_wp2_with fail
    go_quiet (fail)
    go_wp2_with fail
    go_quiet (fail)
    go_wp2_with fail
    go_ret
    exact⟨(hE.drewN _).drewN _,a0I hv.out.symm⟩
   ·have hdr':=hid (a4B heq.out hlt hk hdr.out (by omega))
    go_wp2_with fail
    go_quiet (fail)
    go_wp2_with fail
    go_quiet (fail)
    go_wp2_with fail
    go_roundw
    case rel=>exact⟨k - 1,by go_num,by omega,hdr',hE.drewN _⟩
    case measure=>simp[intOf];omega
  ·have hv:=hid (a5z hcan hcbn (k:=k) (by omega) hdr.out)
   go_wp2_with fail
   go_ret
   exact⟨hE,a0I hv.out.symm⟩
theorem b1l (X:Nat->Bool) (ao bo:Option Addr) (la lb:List Nat) (ca cb:Nat) (w:World) (hsa:Sl (a0b .u32) 1 (mk X w) ao la) (hsb:Sl (a0b .u32) 1 (mk X w) bo lb)
  (hda:Dig la) (hdb:Dig lb) (hla:la.length<=1099511627776) (hlb:lb.length<=1099511627776) (hX:∀k,X k=true->k<w.heap.size) (na nb:Nat) (hna:val la=na) (hnb:val lb=nb):
  Calls Tryz.prog 186 #[.slice ao la.length ca, .slice bo lb.length cb] w (a3H X w (na+nb)):=by
 go_enter Tryz.func186,Tryz.ntmps186
 go_wp2_with fail
 refine(a5b X _ _ _ _ hsa hda (by omega) hX).mono ?_;rintro e w1 ⟨hE1,ao1,ca1,a,rfl,hca1,hcan,hsa1⟩;have hX1:∀k,X k=true->k<w1.heap.size:=fun k hk=>Nat.lt_of_lt_of_le (hX k hk) hE1.size;go_wp2_with fail
 refine(a5b X _ _ _ _ (hsb.mono (a0b.mono _) (a0o hE1)) hdb (by omega) hX1).mono ?_;rintro e w2 ⟨hE2,bo1,cb1,b,rfl,hcb1,hcbn,hsb1⟩;have hX2:∀k,X k=true->k<w2.heap.size:=fun k hk=>Nat.lt_of_lt_of_le (hX1 k hk) hE2.size;have hal:a.length<=1099511627776:=by rw[hcan.len];exact Nat.le_trans (a9C la hda) hla
 have hbl:b.length<=1099511627776:=by rw[hcbn.len];exact Nat.le_trans (a9C lb hdb) hlb
 replace hsa1:=hsa1.mono (a0b.mono _) (a0o hE2)
 rw[hna]at hcan;rw[hnb]at hcbn;have hsum:Hid (nv a+nv b=na+nb):=hid (by rw[hcan.2.2,hcbn.2.2]);have hda1:=hcan.1;have hdb1:=hcbn.1;have hEE:=hE1.trans hE2;clear hna hnb hsa hsb hla hlb hcan hcbn hda hdb hE1 hE2 hX1;obtain⟨m,hm⟩:∃m,max a.length b.length=m:=⟨_,rfl⟩;have hma:a.length<=m:=by omega
 have hmb:b.length<=m:=by omega
 have hml:m<=1099511627776:=by omega
 have hmx:(if a.length<b.length then(b.length:Int)else(a.length:Int))=(m:Int):=by split<;>omega
 have hm':=hid hm;clear hm;go_wp2_with fail
 go_loopw [5,6,7] (fun v c i wr=>∃(k:Nat) (o:List Nat) (cy:Nat) (oo:Option Addr) (cp:Nat),i= .int .i64 k/\c= .int .u64 cy/\v= .slice oo o.length cp/\k<=m+1/\a2D a b o k cy/\OL (a0b .u32) 1 X w2.heap.size 118 wr oo cp o/\Ext w2 wr) (fun _ _ i _=>m+1 - (intOf i).toNat)
 case atStart=>exact⟨0,[],0,none,0,rfl,rfl,rfl,by omega,a2D.start a b,OL.nil _ _ _ _ _ _,ExtX.refl _⟩
 case round=>
  obtain⟨k,o,cy,oo,cp,rfl,rfl,rfl,hk,hinv,hO,hE⟩:=hrel;have hol:=hid hinv.1;have hcy:=hinv.2.2.1;have hXr:∀k,X k=true->k<wr.heap.size:=fun k hk=>Nat.lt_of_lt_of_le (hX2 k hk) hE.size;have hbase:w2.heap.size<=wr.heap.size:=hE.size;by_cases hlt:k<=m
  ·have hsa2:=hsa1.mono (a0b.mono _) (a0o hE)
   have hsb2:=hsb1.mono (a0b.mono _) (a0o hE);have hst:=hinv.step hda1 hdb1;have hx:=hda1.getD k;have hy:=hdb1.getD k;rw[a0Z]at hx hy;obtain⟨x,hxe⟩:∃x,a.getD k 0=x:=⟨_,rfl⟩;obtain⟨y,hye⟩:∃y,b.getD k 0=y:=⟨_,rfl⟩;rw[hxe,hye]at hst;rw[hxe]at hx;rw[hye]at hy;have hxe':=hid hxe;have hye':=hid hye;clear hxe hye;go_wp2_with fail
   refine(a3l X ao1 a ca1 k _ hsa2 hda1 (by omega) x hxe'.out).mono ?_;rintro e w' ⟨rfl,rfl⟩;go_wp2_with fail
   refine(a3l X bo1 b cb1 k _ hsb2 hdb1 (by omega) y hye'.out).mono ?_;rintro e w' ⟨rfl,rfl⟩;have hlen:o.length<=2199023255552:=by rw[hol.out];omega
   go_wp2_with (at_builtin;refine a3x a0G rfl (a0b.elem .u32) hbase hXr rfl rfl hO (.int .u32 (((x+y+cy)%4294967296:Nat):Int)) ((x+y+cy)%4294967296) (by simp[Value.cells]) rfl (by omega) (by omega) ?_;intro ao2 cap2 w3 hO2 hE2 _)
   go_roundw
   case rel=>exact⟨k+1,_,(x+y+cy)/4294967296,ao2,cap2,by go_num,by simp,by simp,by omega,hst,hO2,hE.own hO (Nat.le_refl _) hE2⟩
   case measure=>simp[intOf];omega
  ·have hke:k=m+1:=by omega
   subst hke;have hdn:=hinv.done hda1 hdb1 hma hmb;have hod:=hinv.2.1;have hs3:=hO.sl (a0b.elem .u32);have hlen:o.length<=2199023255552:=by rw[hol.out];omega
   have hlc:=hO.lenCap;have hdn':=hid hdn;clear hdn;go_wp2_with fail
   refine(a4b X _ _ _ _ hs3 hod (by omega) hlc).mono ?_;rintro e w' ⟨rfl,l',rfl,hl',hc,hs'⟩;go_wp2_with fail
   go_ret
   rw[hdn'.out,hsum.out]at hc;exact⟨hEE.trans hE,_,_,_,rfl,by omega,hc,hs'⟩
end Go.Proofs.YtkddecjkfdogiaaGreat
namespace Go.Lim
def a2S (a b o:List Nat) (i c:Nat):Prop:=o.length=i/\Dig o/\c<=1/\nv o+nv (b.take i)=nv (a.take i)+B^i*c
theorem a2S.start (a b:List Nat):a2S a b [] 0 0:=⟨rfl,Dig.nil,by omega,by simp[nv]⟩
theorem a2S.step {a b o:List Nat} {i c x y:Nat} (h:a2S a b o i c) (hx:a.getD i 0=x) (hy:b.getD i 0=y) (ha:Dig a) (hb:Dig b):a2S a b (o++[a3L x y c]) (i+1) (a4Y x y c):=by
 obtain⟨h1,h2,h3,h4⟩:=h;have hxB:=ha.getD i;have hyB:=hb.getD i;rw[hx]at hxB;rw[hy]at hyB;obtain⟨e1,e2,e3⟩:=a7s hxB hyB h3;refine⟨by simp[h1],h2.append (Dig.cons e2 Dig.nil),e3,?_⟩;rw[a1z,h1,a0U,a0U,hx,hy,Nat.pow_succ];generalize a3L x y c=d at*;generalize a4Y x y c=c' at*;have e4:B^i*(d+y+c)=B^i*(x+B*c'):=by rw[e1]
 rw[Nat.mul_add,Nat.mul_add,Nat.mul_add]at e4;rw[Nat.mul_assoc];omega
theorem a2S.done {a b o:List Nat} {c:Nat} (h:a2S a b o a.length c) (hab:b.length<=a.length) (hle:nv b<=nv a):nv o=nv a - nv b:=by
 obtain⟨h1,h2,h3,h4⟩:=h;rw[List.take_of_length_le hab,List.take_of_length_le (Nat.le_refl _)]at h4;have h5:=a3S h2;rw[h1]at h5;rcases(by omega:c=0\/c=1)with rfl|rfl
 ·omega
 ·omega
theorem a9R {x y c:Nat} (hx:x<4294967296) (hy:y<4294967296) (hc:c<=1):(x+4294967296 - y - c)%4294967296=a3L x y c/\1 - (x+4294967296 - y - c)/4294967296=a4Y x y c:=by
 unfold a3L a4Y;refine⟨rfl,?_⟩;split<;>omega
def a4c (a:List Nat) (v by_:Nat) (o:List Nat) (i c:Nat):Prop:=o.length=by_+i/\Dig o/\c<B/\nv o+B^(by_+i)*c=B^by_*(nv (a.take i)*v)
theorem a4c.start (a:List Nat) (v by_:Nat):a4c a v by_ (List.replicate by_ 0) 0 0:=⟨by simp,Dig.zeros _,a2n,by simp[nv,a7W]⟩
theorem a4c.step {a o:List Nat} {v by_ i c x:Nat} (h:a4c a v by_ o i c) (hx:a.getD i 0=x) (ha:Dig a) (hv:v<4294967296):
  a4c a v by_ (o++[(x*v+c)%4294967296]) (i+1) ((x*v+c)/4294967296)/\x*v+c<18446744073709551616:=by
 obtain⟨h1,h2,h3,h4⟩:=h;have hxB:=ha.getD i;rw[hx,a0Z]at hxB;rw[a0Z]at h3;have hm:x*v<=4294967295*4294967295:=Nat.mul_le_mul (by omega) (by omega);have hlt:x*v+c<18446744073709551616:=by omega
 refine⟨⟨by simp[h1];omega,h2.append (Dig.cons (by rw[a0Z];exact Nat.mod_lt _ (by decide)) Dig.nil),by rw[a0Z];omega,?_⟩,hlt⟩;rw[a1z,h1,a0U,hx,<-Nat.add_assoc,Nat.pow_succ];have e:=Nat.div_add_mod (x*v+c) 4294967296;generalize (x*v+c)/4294967296=q at*;generalize (x*v+c)%4294967296=r at*;have e1:B^(by_+i)*(4294967296*q+r)=B^(by_+i)*(x*v+c):=by rw[e]
 rw[Nat.mul_add,Nat.mul_add]at e1;have e2:B^(by_+i)*B*q=B^(by_+i)*(4294967296*q):=by rw[a0Z,Nat.mul_assoc]
 have e3:B^by_*((nv (a.take i)+B^i*x)*v)=B^by_*(nv (a.take i)*v)+B^(by_+i)*(x*v):=by
  rw[Nat.add_mul,Nat.mul_add,Nat.pow_add,Nat.mul_assoc (B^i),<-Nat.mul_assoc (B^by_) (B^i)]
 rw[e2,e3];omega
theorem a4c.done {a o:List Nat} {v by_ c:Nat} (h:a4c a v by_ o (a.length+1) c) (ha:Dig a) (hv:v<4294967296):Dig o/\nv o=nv a*v*B^by_:=by
 obtain⟨h1,h2,h3,h4⟩:=h;rw[List.take_of_length_le (by omega)]at h4;have h5:=a3S ha;have hc:c=0:=by
  by_cases h0:c=0
  ·exact h0
  ·have e1:B^(by_+(a.length+1))*1<=B^(by_+(a.length+1))*c:=Nat.mul_le_mul_left _ (by omega)
   have e2:nv a*v<B^(a.length+1):=by
    rw[Nat.pow_succ];exact Nat.lt_of_le_of_lt (Nat.mul_le_mul_left _ (Nat.le_of_lt (show v<B by rw[a0Z];exact hv))) (Nat.mul_lt_mul_of_pos_right h5 a2n)
   have e3:B^by_*(nv a*v)<B^by_*B^(a.length+1):=Nat.mul_lt_mul_of_pos_left e2 (Nat.pow_pos a2n);rw[<-Nat.pow_add]at e3;omega
 subst hc;exact⟨h2,by rw[Nat.mul_zero,Nat.add_zero]at h4;rw[h4,Nat.mul_comm]⟩
theorem b1m {l:List Nat} (hd:Dig l) (k:Nat):l.getD k 0=nv l/B^k%B:=by
 by_cases hk:k<l.length
 ·have h1:=a1S l k (by omega)
  have h2:=a1J hd k;have h3:nv (l.drop k)=l[k]+B*nv (l.drop (k+1)):=a4n hk;have hQ:0<B^k:=Nat.pow_pos a2n;rw[a0u hk,h1,Nat.add_mul_div_left _ _ hQ,Nat.div_eq_of_lt h2,Nat.zero_add,h3,Nat.add_mul_mod_self_left,Nat.mod_eq_of_lt (hd.get k hk)]
 ·have h1:=a3S hd
  have h2:B^l.length<=B^k:=Nat.pow_le_pow_right a2n (by omega);rw[a3y (by omega),Nat.div_eq_of_lt (by omega)];simp
theorem b4J {l:List Nat} {n:Nat} (h:a0A l n) (i:Nat):l.getD (i/32) 0/2^(i%32)%2=n/2^i%2:=by
 rw[b1m h.1,h.2.2];have e:i=32*(i/32)+i%32:=by omega
 have hs:i%32<32:=Nat.mod_lt _ (by decide);generalize i/32=p at*;generalize i%32=s at*;subst e;rw[b1c,Nat.pow_add,<-Nat.div_div_eq_div_mul];generalize n/2^(32*p)=y;have hB:B=2^s*(2*2^(31 - s)):=by
  rw[a0Z,<-Nat.pow_succ',<-Nat.pow_add,show s+(31 - s).succ=32 by omega]
 rw[hB,Nat.mod_mul_right_div_self];rw[Nat.mod_mul_right_mod]
def a2z (a b q r i:Nat):Prop:=q=a/2^i/b/\r=a/2^i%b
theorem a2z.start {a b k:Nat} (h:a<2^k):a2z a b 0 0 k:=by
 unfold a2z;rw[Nat.div_eq_of_lt h];exact⟨by simp,by simp⟩
theorem a2z.step {a b q r i t:Nat} (h:a2z a b q r (i+1)) (hb:0<b) (ht:a/2^i%2=t):r<b/\(2*r+t<b->a2z a b (2*q) (2*r+t) i)/\(b<=2*r+t->a2z a b (2*q+1) (2*r+t - b) i):=by
 obtain⟨h1,h2⟩:=h;rw[Nat.pow_succ,<-Nat.div_div_eq_div_mul]at h1 h2;have e:=Nat.div_add_mod (a/2^i) 2;rw[ht]at e;have e2:=Nat.div_add_mod (a/2^i/2) b;rw[<-h1,<-h2]at e2;have hr:r<b:=by rw[h2];exact Nat.mod_lt _ hb
 unfold a2z;generalize a/2^i=y at*;generalize y/2=z at*;have e3:y=b*(2*q)+(2*r+t):=by
  rw[Nat.mul_left_comm];omega
 refine⟨hr,fun hlt=>?_,fun hge=>?_⟩
 ·rw[e3]
  exact⟨by rw[Nat.mul_add_div hb,Nat.div_eq_of_lt hlt,Nat.add_zero],by rw[Nat.mul_add_mod,Nat.mod_eq_of_lt hlt]⟩
 ·have hlt:2*r+t - b<b:=by omega
  have e4:y=b*(2*q+1)+(2*r+t - b):=by rw[e3,Nat.mul_add,Nat.mul_one];omega
  rw[e4];exact⟨by rw[Nat.mul_add_div hb,Nat.div_eq_of_lt hlt,Nat.add_zero],by rw[Nat.mul_add_mod,Nat.mod_eq_of_lt hlt]⟩
theorem a2z.done {a b q r:Nat} (h:a2z a b q r 0):q=a/b/\r=a%b:=by
 unfold a2z at h;simpa using h
end Go.Lim
namespace Go.Rep
open Go.RowKit Go.Lim
def HX (X:Nat->Bool) (w:World):Prop:=∀k,X k=true->k<w.heap.size
theorem HX.ext {X Y:Nat->Bool} {w w':World} (h:HX X w) (hE:ExtX Y w w'):HX X w':=fun k hk=>Nat.lt_of_lt_of_le (h k hk) hE.size
theorem HX.none (w:World):HX noY w:=fun k hk=>by simp[noY]at hk
def NV (h:Mem) (u:Value) (n:Nat):Prop:=∃ao c l,u= .slice ao l.length c/\l.length<=c/\Dig l/\l.length<=1099511627776/\Sl (a0b .u32) 1 h ao l/\val l=n
def NC (h:Mem) (u:Value) (n:Nat):Prop:=∃ao c l,u= .slice ao l.length c/\l.length<=c/\a0A l n/\Sl (a0b .u32) 1 h ao l
theorem NV.mono:a3c NV:=by rintro h h' u x hl ⟨ao,c,l,rfl,h1,h2,h3,h4,h5⟩;exact⟨ao,c,l,rfl,h1,h2,h3,h4.mono (a0b.mono _) hl,h5⟩
theorem NC.mono:a3c NC:=by rintro h h' u x hl ⟨ao,c,l,rfl,h1,h2,h3⟩;exact⟨ao,c,l,rfl,h1,h2,h3.mono (a0b.mono _) hl⟩
theorem NC.nv {h:Mem} {u:Value} {n:Nat} (hu:NC h u n) (hn:lg n<=1099511627776):NV h u n:=by
 obtain⟨ao,c,l,rfl,h1,h2,h3⟩:=hu;exact⟨ao,c,l,rfl,h1,h2.1,by rw[h2.len];exact hn,h3,h2.val⟩
theorem NC.zero (h:Mem):NC h (.slice none 0 0) 0:=⟨none,0,[],rfl,Nat.le_refl _,a0A.nil,Sl.nil _ _ _ _⟩
theorem NC.one {h:Mem} {ao:Option Addr} {c:Nat} (hc:1<=c) (hs:Sl (a0b .u32) 1 h ao [1]):NC h (.slice ao 1 c) 1:=⟨ao,c,[1],rfl,hc,a7X (by omega) (by omega),hs⟩
theorem NV.lg {h:Mem} {u:Value} {n:Nat} (hu:NV h u n):lg n<=1099511627776:=by
 obtain⟨ao,c,l,rfl,h1,h2,h3,h4,rfl⟩:=hu;exact Nat.le_trans (a9C l h2) h3
def a2w {α:Type} (X:Nat->Bool) (w:World) (R:Mem->Value->α->Prop) (x:α) (e:Ending) (w':World):Prop:=Ext w w'/\∃u,e= .returned u/\R (mk X w') u x
theorem mkx {X:Nat->Bool} {w w':World} {α:Type} {R:Mem->Value->α->Prop} (hR:a3c R) {u:Value} {x:α} (h:R (mk X w) u x) (hE:Ext w w'):R (mk X w') u x:=hR _ _ _ _ (a0o hE) h
end Go.Rep
namespace Go.Proofs.YtkddecjkfdogiaaGreat
open Go.RowKit Go.Rep Go.Lim
theorem a3H.r {X:Nat->Bool} {w:World} {n:Nat} {e:Ending} {w':World} (h:a3H X w n e w'):a2w X w NC n e w':=by
 obtain⟨hE,ao,c,l,rfl,h1,h2,h3⟩:=h;exact⟨hE,_,rfl,ao,c,l,rfl,h1,h2,h3⟩
section
variable {X:Nat->Bool} {w:World} {u v:Value} {a b:Nat}
theorem b5M (hX:HX X w) (hu:NV (mk X w) u a) (hv:NV (mk X w) v b):Calls Tryz.prog 153 #[u,v] w (a2w X w NC (a+b)):=by
 obtain⟨ao,c,l,rfl,h1,h2,h3,h4,h5⟩:=hu;obtain⟨bo,d,m,rfl,k1,k2,k3,k4,k5⟩:=hv;exact(b2X X ao bo l m c d w h4 k4 h2 k2 h3 k3 h1 k1 hX a b h5 k5).mono fun _ _ h=>h.r
theorem b2u (hX:HX X w) (hu:NV (mk X w) u a) (hv:NV (mk X w) v b):Calls Tryz.prog 212 #[u,v] w (a2w X w NC (a*b)):=by
 obtain⟨ao,c,l,rfl,h1,h2,h3,h4,h5⟩:=hu;obtain⟨bo,d,m,rfl,k1,k2,k3,k4,k5⟩:=hv;exact(b2Y X ao bo l m c d w h4 k4 h2 k2 h3 k3 h1 k1 hX a b h5 k5).mono fun _ _ h=>h.r
theorem b6n (hX:HX X w) (hu:NV (mk X w) u a) (hv:NV (mk X w) v b):Calls Tryz.prog 250 #[u,v] w (a2w X w NC (Nat.gcd a b)):=by
 obtain⟨ao,c,l,rfl,h1,h2,h3,h4,h5⟩:=hu;obtain⟨bo,d,m,rfl,k1,k2,k3,k4,k5⟩:=hv;exact(b3m X ao bo l m c d w h4 k4 h2 k2 h3 k3 h1 k1 hX a b h5 k5).mono fun _ _ h=>h.r
theorem b5N (hu:NV (mk X w) u a) (hv:NV (mk X w) v b):Calls Tryz.prog 155 #[u,v] w (a5A w (a3a a b)):=by
 obtain⟨ao,c,l,rfl,h1,h2,h3,h4,h5⟩:=hu;obtain⟨bo,d,m,rfl,k1,k2,k3,k4,k5⟩:=hv;exact a2R X ao bo l m c d w h4 k4 h2 k2 h3 k3 h1 k1 a b h5 k5
def b6o (X:Nat->Bool) (w:World) (q r:Nat) (e:Ending) (w':World):Prop:=Ext w w'/\∃u v,e= .returned (.tuple #[u,v, .bool true])/\NC (mk X w') u q/\NC (mk X w') v r
theorem b6p (hX:HX X w) (hu:NV (mk X w) u a) (hv:NV (mk X w) v b) (hb:0<b):Calls Tryz.prog 218 #[u,v] w (b6o X w (a/b) (a%b)):=by
 obtain⟨ao,c,l,rfl,h1,h2,h3,h4,h5⟩:=hu;obtain⟨bo,d,m,rfl,k1,k2,k3,k4,k5⟩:=hv;refine(a7v X ao bo l m c d w h4 k4 h2 k2 h3 k3 h1 k1 hX a b h5 k5 hb).mono ?_;rintro e w' ⟨hE,a1,c1,l1,a2,c2,l2,rfl,q1,q2,q3,q4,q5,q6⟩;exact⟨hE,_,_,rfl,⟨a1,c1,l1,rfl,q1,q2,q3⟩,⟨a2,c2,l2,rfl,q4,q5,q6⟩⟩
def b6q (X:Nat->Bool) (w:World) (d:Nat) (b:Bool) (e:Ending) (w':World):Prop:=Ext w w'/\∃u,e= .returned (.tuple #[u, .bool b])/\NC (mk X w') u d
theorem b6r (hX:HX X w) (hu:NV (mk X w) u a) (hv:NV (mk X w) v b):Calls Tryz.prog 249 #[u,v] w (b6q X w (a - b) (decide (b<=a))):=by
 obtain⟨ao,c,l,rfl,h1,h2,h3,h4,h5⟩:=hu;obtain⟨bo,d,m,rfl,k1,k2,k3,k4,k5⟩:=hv;refine(b3g X ao bo l m c d w h4 k4 h2 k2 h3 k3 h1 k1 hX a b h5 k5).mono ?_;rintro e w' ⟨hE,a1,c1,l1,rfl,q1,q2,q3⟩;exact⟨hE,_,rfl,a1,c1,l1,rfl,q1,q2,q3⟩
theorem b4K (hX:HX X w) (ha:a<18446744073709551616):Calls Tryz.prog 217 #[.int .u64 a] w (a2w X w NC a):=
 (a3h X a w ha hX).mono fun _ _ h=>h.r
theorem b4L (hX:HX X w) (hu:NV (mk X w) u a) (hv:NV (mk X w) v b):Calls Tryz.prog 186 #[u,v] w (a2w X w NC (a+b)):=by
 obtain⟨ao,c,l,rfl,h1,h2,h3,h4,h5⟩:=hu;obtain⟨bo,d,m,rfl,k1,k2,k3,k4,k5⟩:=hv;exact(b1l X ao bo l m c d w h4 k4 h2 k2 h3 k3 hX a b h5 k5).mono fun _ _ h=>h.r
theorem a5c (hX:HX X w) (hu:NV (mk X w) u a):Calls Tryz.prog 184 #[u] w (a2w X w NC a):=by
 obtain⟨ao,c,l,rfl,h1,h2,h3,h4,rfl⟩:=hu;exact(a5b X ao l c w h4 h2 (by omega) hX).mono fun _ _ h=>h.r
theorem b2v (hX:HX X w) (ha:a<18446744073709551616):Calls Tryz.prog 187 #[.int .u64 a] w (a2w X w NC a):=
 (a5Z X a w ha hX).mono fun _ _ h=>h.r
end
end Go.Proofs.YtkddecjkfdogiaaGreat
