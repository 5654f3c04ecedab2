/- Parts of a proof: each theorem states what it proves, and its conditions. -/
import Derived.Test.YtidbbddagfnfbaaGreatSgC
import Derived.Lib.BitFns
import Derived.StillTailTactics
import Derived.Lib.Strings
import Derived.Lib.Slices
import Derived.Lib.Small
import Derived.Lib.Walk
import Derived.Laws.CopyRow
namespace Go.Proofs.YtidbbddagfnfbaaGreat
open Go.RowKit Go.Rep Go.Lim
theorem a7X:Lib.len8tab.size=256:=by decide+kernel
theorem b8t:∀n:Fin 256,(Lib.len8tab[n.val]'(by rw[a7X];exact n.isLt)).toNat=Lib.bitLen n.val:=by decide+kernel
theorem b0O (i:Nat) (h:i<Lib.len8tab.size):(Lib.len8tab[i]).toNat=Lib.bitLen i:=b8t ⟨i,by rw[a7X]at h;exact h⟩
theorem b8u (b:Nat) (h:b<=64):wrap64 (b:Int)=b:=by unfold wrap64;omega
theorem b2Q (k b:Nat) (h:b<=64) (a:k<=64):wrap64 ((k:Int)+wrap64 (b:Int))=((k+b:Nat):Int):=by rw[b8u b h];unfold wrap64;omega
theorem c2o (x:Int) (_:0<=x) (h:16777216<=x) (c:x<=4294967295) (b:(x/65536/256).toNat<Lib.len8tab.size) (n:Int) (a:n=24):wrap64 (n+wrap64 ((Lib.len8tab[(x/65536/256).toNat].toNat:Nat):Int))=(Lib.bitLen x.toNat:Int):=by
 subst a;rw[b0O];have e:(x/65536/256).toNat=x.toNat/16777216:=by omega
 rw[e,Lib.bitLen_shift24 x.toNat (by omega) (by omega)];exact b2Q 24 _ (Nat.le_trans (Lib.bitLen_le _ 8 (by omega) (by omega)) (by omega)) (by omega)
theorem c2p (x:Int) (_:0<=x) (h:65536<=x) (c:x<16777216) (b:(x/65536).toNat<Lib.len8tab.size) (n:Int) (a:n=16):wrap64 (n+wrap64 ((Lib.len8tab[(x/65536).toNat].toNat:Nat):Int))=(Lib.bitLen x.toNat:Int):=by
 subst a;rw[b0O];have e:(x/65536).toNat=x.toNat/65536:=by omega
 rw[e,Lib.bitLen_shift16 x.toNat (by omega) (by omega)];exact b2Q 16 _ (Nat.le_trans (Lib.bitLen_le _ 8 (by omega) (by omega)) (by omega)) (by omega)
theorem c2q (x:Int) (_:0<=x) (h:256<=x) (c:x<65536) (b:(x/256).toNat<Lib.len8tab.size) (n:Int) (a:n=8):wrap64 (n+wrap64 ((Lib.len8tab[(x/256).toNat].toNat:Nat):Int))=(Lib.bitLen x.toNat:Int):=by
 subst a;rw[b0O];have e:(x/256).toNat=x.toNat/256:=by omega
 rw[e,Lib.bitLen_shift8 x.toNat (by omega) (by omega)];exact b2Q 8 _ (Nat.le_trans (Lib.bitLen_le _ 8 (by omega) (by omega)) (by omega)) (by omega)
theorem c2r (x:Int) (a:0<=x) (c:x<256) (b:x.toNat<Lib.len8tab.size):wrap64 (wrap64 ((Lib.len8tab[x.toNat].toNat:Nat):Int))=(Lib.bitLen x.toNat:Int):=by
 rw[b0O];have:=Lib.bitLen_le x.toNat 8 (by omega) (by omega);rw[b8u _ (by omega),b8u _ (by omega)]
set_option maxHeartbeats 4000000 in
set_option maxRecDepth 100000 in
theorem b2R (x:Int) (w:World) (a:0<=x) (c:x<=4294967295):
  Calls Tryz.prog 313 #[.int .u32 x] w fun e b=>e= .returned (.int .i64 (Lib.bitLen x.toNat))/\b=w:=by
 have d:=a7X;go_enter Tryz.func313,Tryz.ntmps313
 go_wp2
 ·go_ret
  exact⟨congrArg Ending.returned (congrArg (Value.int IntKind.i64) (c2o x a (by omega) c _ _ rfl)),rfl⟩
 ·go_ret
  exact⟨congrArg Ending.returned (congrArg (Value.int IntKind.i64) (c2p x a (by omega) (by omega) _ _ rfl)),rfl⟩
 ·go_ret
  exact⟨congrArg Ending.returned (congrArg (Value.int IntKind.i64) (c2q x a (by omega) (by omega) _ _ rfl)),rfl⟩
 ·go_ret
  exact⟨congrArg Ending.returned (congrArg (Value.int IntKind.i64) (c2r x a (by omega) _)),rfl⟩
def lz (x:Nat):Nat:=32 - Lib.bitLen x
theorem a4w:∀(f x:Nat),0<x->x<2^f->2^(Lib.bitLenAux f x)<=2*x/\x<2^(Lib.bitLenAux f x)/\Lib.bitLenAux f x<=f
 |0,x,h,h2=>by simp at h2;omega
 |f+1,x,h,h2=>by
  simp only[Lib.bitLenAux];rw[if_neg (by omega)];by_cases h1:x=1
  ·subst h1
   have:Lib.bitLenAux f (1/2)=0:=by cases f<;>simp[Lib.bitLenAux]
   rw[this];simp
  ·obtain⟨a,b,c⟩:=a4w f (x/2) (by omega) (by rw[Nat.pow_succ]at h2;omega)
   rw[Nat.add_comm 1,Nat.pow_succ];exact⟨by omega,by omega,by omega⟩
theorem b8v {x:Nat} (g:0<x) (i:x<4294967296):lz x<32/\4294967296<=2*(x*2^lz x)/\x*2^lz x<4294967296:=by
 obtain⟨a,b,c⟩:=a4w 64 x g (by omega);have f:Lib.bitLen x<=32:=Lib.bitLen_le x 32 (by omega) (by omega);have d:1<=Lib.bitLen x:=by
  by_cases h:Lib.bitLen x=0
  ·unfold Lib.bitLen at h;rw[h]at b;simp at b;omega
  ·omega
 change 2^Lib.bitLen x<=2*x at a
 change x<2^Lib.bitLen x at b
 have e:2^Lib.bitLen x*2^lz x=4294967296:=by rw[<-Nat.pow_add];unfold lz;rw[show Lib.bitLen x+(32 - Lib.bitLen x)=32 by omega]
 refine⟨by unfold lz;omega,?_,?_⟩
 ·rw[<-e,<-Nat.mul_assoc];exact Nat.mul_le_mul_right _ a
 ·rw[<-e];exact Nat.mul_lt_mul_of_pos_right b (Nat.two_pow_pos _)
set_option maxRecDepth 100000 in
theorem c0c (x:Nat) (w:World) (d:0<x) (f:x<4294967296):
  Calls Tryz.prog 307 #[.int .u32 x] w fun e a=>w=a/\e= .returned (.int .i64 (lz x:Nat)):=by
 have b:Lib.bitLen x<=32:=Lib.bitLen_le x 32 (by omega) (by omega);have c:Hid ((32:Int) - (Lib.bitLen x:Nat)=(lz x:Nat)):=hid (by unfold lz;omega);go_enter Tryz.func307,Tryz.ntmps307
 go_wp2_with fail
 refine(b2R (x:Int) w (by omega) (by omega)).mono ?_;rintro e a ⟨rfl,rfl⟩;rw[Int.toNat_natCast];go_wp2_with fail
 go_ret
 exact⟨rfl,a0P c.out⟩
theorem a5x (k:IntKind):∀(h a:Mem) (u:Value) (x:Nat),a0c k h u x->a0c k a u x:=fun _ _ _ _ h=>h
theorem _root_.Go.Rep.OL.remask {α:Type} {R:Mem->Value->α->Prop} {sz:Nat} {X Z:Nat->Bool} {base:Nat} {e:TypeId} {w:World} {ao:Option Addr} {a:Nat} {l:List α} (c:∀h j u x,R h u x->R j u x) (h:OL R sz X base e w ao a l) (p:∀k,ob ao k=true->Z k=false):OL R sz Z base e w ao a l:=by
 obtain⟨_,m,o,g,n,f,d⟩:=h;exact⟨p,m,o,g,n,f,fun i hi b=>c _ _ _ _ (d i hi b)⟩
theorem _root_.Go.Rep.OL.skip {α:Type} {R:Mem->Value->α->Prop} {sz:Nat} {X Y:Nat->Bool} {base:Nat} {e:TypeId} {w c:World} {ao:Option Addr} {a:Nat} {l:List α} (d:Elem R sz) (b:∀h g u x,R h u x->R g u x) (h:OL R sz X base e w ao a l) (f:ExtX Y w c) (i:∀k,ob ao k=true->Y k=false):OL R sz X base e c ao a l:=
 ((h.remask b (Z:=Y) i).ext d f (Z:=Y) (fun _ _ h=>h) (fun _ _ h=>h)).remask b h.1
theorem a6f {g k:Nat} (h:ob (some ⟨g,0,none⟩) k=true):k=g:=by
 have e:g=k:=by simpa[ob]using h
 exact e.symm
theorem b5v {g k:Nat} (h:k≠g):ob (some ⟨g,0,none⟩) k=false:=by
 cases a:ob (some ⟨g,0,none⟩) k
 ·rfl
 ·exact absurd (a6f a) h
theorem _root_.Go.Rep.OL.at_block {α:Type} {R:Mem->Value->α->Prop} {sz:Nat} {X:Nat->Bool} {base:Nat} {e:TypeId} {w:World} {ao:Option Addr} {a:Nat} {l:List α} (h:OL R sz X base e w ao a l) (c:0<l.length):∃g,ao=some ⟨g,0,none⟩/\base<=g/\g<w.heap.size:=by
 rcases h.form with⟨_,_,rfl⟩|⟨g,b,rfl,d,f,_⟩
 ·simp at c
 ·exact⟨g,rfl,d,(Array.getElem?_eq_some_iff.1 f).1⟩
theorem _root_.Go.Rep.st_win {P:Program} {ops:Array Oper} {Q:Exit->Act->World->Prop} {rest:List Oper} {a:Act} {w:World} {d:Option Tmp} {ty:TypeId} {ps:String} {af:Array Edge} {t e o:Nat} {z:Value} {x lo f:Operand} {r q:IntKind} {m n:Int} {g c b:Nat} (T:SliceT P t e 1 o z) (i j:Nat) (v:a.eval x= .slice (some ⟨g,0,none⟩) c b) (k:a.eval lo= .int r m) (u:m=(i:Int))
  (l:a.eval f= .int q n) (s:n=(j:Int)) (A:i<j) (y:j<=b)
  (K:wpList P ops Q rest (a.put d (.slice (some ⟨g,i,none⟩) (j - i) (b - i))) w):
  wpList P ops Q (⟨d, .slice t x (some lo) (some f) none,ty,ps,af,none⟩::rest) a w:=by
 refine wpList_plain rfl fun C h=>?_;subst u;subst s;have p:=a8J (P:=P) (ao:=some ⟨g,0,none⟩) T c b r q i j (by omega) y w;have B:a2z (some ⟨g,0,none⟩) i b 1=some ⟨g,i,none⟩:=by
  have:¬b=i:=by omega
  simp[a2z,this,Addr.add_lit]
 rw[B]at p;unfold Oper.wp;simp[execOp,v,k,l,p,Result.andThen];exact h _ _ K
def c1o (X:Nat->Bool) (w:World) (q r:Nat) (e:Ending) (w':World):Prop:=
 Ext w w'/\∃ao cap l bo cbp m,e= .returned (.tuple #[.slice ao l.length cap, .slice bo m.length cbp])/\l.length<=cap/\a0M l q/\Sl (a0c .u32) 1 (mk X w') ao l/\m.length<=cbp/\a0M m r/\Sl (a0c .u32) 1 (mk X w') bo m
set_option maxRecDepth 100000 in
set_option maxHeartbeats 400000 in
theorem b1H (X:Nat->Bool) (ao bo:Option Addr) (a b:List Nat) (ca cb:Nat) (w:World) (hsa:Sl (a0c .u32) 1 (mk X w) ao a) (hsb:Sl (a0c .u32) 1 (mk X w) bo b)
  (na nb:Nat) (hca:a0M a na) (hcb:a0M b nb) (hle:nb<=na) (hb2:2<=b.length) (hal:a.length<=1099511627776) (hX:∀k,X k=true->k<w.heap.size):
  Calls Tryz.prog 297 #[.slice ao a.length ca, .slice bo b.length cb] w (c1o X w (na/nb) (na%nb)):=by
 have hhb:=hsb.hd;have hcbl:=hsb.nat (b.length - 1) (by omega);have hbl:b.length<=a.length:=by rw[hca.len,hcb.len];exact a1i hle
 obtain⟨t,ht⟩:∃t,b[b.length - 1]'(by omega)=t:=⟨_,rfl⟩;have htB:=hcb.1.get (b.length - 1) (by omega);have ht0:t≠0:=by
  have:=hcb.2.1;rw[a3t (by omega)]at this;rw[<-ht];simpa using this
 rw[ht]at hcbl;rw[ht,a1n]at htB;obtain⟨s,hs⟩:∃s,lz t=s:=⟨_,rfl⟩;have hlz:=b8v (show 0<t by omega) htB;rw[hs]at hlz;obtain⟨hs32,hn1,hn2⟩:=hlz;have ht':=hid ht;have hlz1:=hid hn1;have hlz2:=hid hn2;have hlzc:∀W,Calls Tryz.prog 307 #[.int .u32 t] W fun e w'=>W=w'/\e= .returned (.int .i64 (s:Nat)):=fun W=>by rw[<-hs];exact c0c t W (by omega) htB
 clear hn1 hn2 ht;go_enter Tryz.func297,Tryz.ntmps297
 go_wp2_with (first|(with_reducible refine a0q a0R (by omega) (by assumption) ?_)|(go_at_call 307;refine(hlzc _).mono ?_;rintro e w' ⟨rfl,rfl⟩))
 clear hs hlzc hcbl;refine(a6w noY ao a ca s w (hsa.mono (a0c.mono _) (by rw[a1U];exact b9T X w)) hca.1 hal hs32 (fun k hk=>by simp[noY]at hk)).mono ?_;rintro e w1 ⟨hE1,uo,U,rfl,hU,hUf⟩;have hsb1:=hsb.mono (a0c.mono _) (a0l hE1);go_wp2_with fail
 refine(a6w noY bo b cb s w1 (hsb1.mono (a0c.mono _) (by rw[a1U];exact b9T X w1)) hcb.1 (by omega) hs32 (fun k hk=>by simp[noY]at hk)).mono ?_;rintro e w2 ⟨hE2,vo,V0,rfl,hV0,hVf⟩;have hV0l:V0.length<=1099511627777:=by rw[hVf.out.1];omega
 obtain⟨gu,rfl,hgu1,hgu2⟩:=hU.at_block (by rw[hUf.out.1];omega);have hV1:Sl (a0c .u32) 1 (mk (ob (some ⟨gu,0,none⟩)) w2) vo V0:=(hV0.remask (a5x _) (Z:=ob (some ⟨gu,0,none⟩)) (fun k hk=>b5v (by have:=(hV0.block hk).1;omega))).sl (a0c.elem _);go_wp2_with fail
 refine(a1P (ob (some ⟨gu,0,none⟩)) vo V0 V0.length w2 hV1 hVf.out.2.1 (by omega) (Nat.le_refl _)).mono ?_;rintro e w' ⟨rfl,V,rfl,hVl',hVc,hVs⟩;obtain⟨m,hm⟩:∃m,a.length=m+b.length:=⟨a.length - b.length,by omega⟩;obtain⟨n,hn⟩:∃n,b.length=n:=⟨_,rfl⟩;rw[hVf.out.2.2.2]at hVc;have hnorm:=b5n hcb.1 hn (by omega) ((a0y (by omega)).trans (by rw[<-ht'.out];congr 1;omega)) hs32 hlz1.out hlz2.out hVc;have hna:nv a=na:=hca.2.2;have hnb:nv b=nb:=hcb.2.2;have hnvV:=hVc.2.2;rw[hnb]at hnvV;have hVd:=hVc.1;have hUl:U.length=m+1+n:=by rw[hUf.out.1,hm,hn];omega
 have hUd:=hUf.out.2.1;have hst0:=a3R.start (m:=m) (n:=n) (a:=na) hUd hUl (by omega) (by rw[hUf.out.2.2.2,hna]) (by have:=hUf.out.2.2.1;rw[hm,hn]at this;exact this) hs32 hnorm.1 hnorm.2;obtain⟨hVn,hVt⟩:=hnorm;have hst:=hid hst0;have hUo:=hU.ext0 (a0c.elem _) hE2;rw[hn]at hm |-;rw[hm];have hmb:m<=1099511627776:=by omega
 have hnb2:2<=n:=by omega
 have hnb3:n<=1099511627776:=by omega
 have hVt':=hid hVt;have hVn':=hid hVn;have hUl':=hid hUl;have hnvV':=hid hnvV;have hE12:=hE1.trans hE2;clear hst0 hVt hVn hUl hnvV hna hnb hV1 hUf hVf hV0l hU hsa hsb hsb1 hcb hca hle hb2 hbl hal hhb ht0 htB ht' hlz1 hlz2 hVc hVl' hV0 hUd;go_wp2_with (at_make;refine a2y a0R (a0c.elem .u32) 0 (fun _=>rfl) noY (fun k hk=>by simp[noY]at hk) w2.heap.size (Nat.le_refl _) (m+1) rfl rfl (by omega) (by omega) (by omega) ?_;intro qo w3 hQ hE3)
 have hqb:∀k,ob qo k=true->w2.heap.size<=k:=fun k hk=>(hQ.block hk).1;have hgq:ob qo gu=false:=by
  cases hh:ob qo gu
  ·rfl
  ·have:=hqb gu hh;have:=hE2.size;omega
 have hU3:OL (a0c .u32) 1 (un noY qo) w.heap.size 147 w3 (some ⟨gu,0,none⟩) U.length U:=(hUo.ext0 (a0c.elem _) hE3).remask (a5x _) (fun k hk=>by have:=a6f hk;subst this;simp[un,noY,hgq]);have hQ3:OL (a0c .u32) 1 (un noY (some ⟨gu,0,none⟩)) w2.heap.size 147 w3 qo (m+1) (List.replicate (m+1) 0):=hQ.remask (a5x _) (fun k hk=>by
  have h1:=hqb k hk;have h2:ob (some ⟨gu,0,none⟩) k=false:=b5v (by have:=hE2.size;omega);simp[un,noY,h2])
 have hV3:Sl (a0c .u32) 1 (mk (un (un noY qo) (some ⟨gu,0,none⟩)) w3) vo V:=hVs.mono (a0c.mono _) (a0T hE3 (fun k _ hk=>by simp[noY]at hk) fun k hk hz=>by
  have h1:ob qo k=false:=by
   cases hh:ob qo k
   ·rfl
   ·have:=hqb k hh;omega
  simpa[un,noY,h1]using hz)
 have hE13:=hE12.trans hE3;have hwq:w.heap.size<=w2.heap.size:=hE12.size;have hqX:∀k,ob qo k=true->X k=false:=fun k hk=>by
  cases hh:X k
  ·rfl
  ·have:=hX k hh;have:=hqb k hk;omega
 have hgw:gu<w2.heap.size:=Nat.lt_of_lt_of_le hgu2 hE2.size;have hUc:m+1+n<=U.length:=by rw[hUl'.out];exact Nat.le_refl _
 have hhv:=hVs.hd;clear hUo hQ hVs hE1 hE2 hE3 hE12 hm hn;go_loopw [10] (fun c wr=>∃(k:Nat) (x:Int) (U' Q:List Nat),c= .int .i64 x/\x=(k:Int) - 1/\k<=m+1/\Hid (a3R (na*2^s) V U' Q k)/\Hid (U'.length=m+1+n)/\Hid (Q.length=m+1)/\OL (a0c .u32) 1 (un noY qo) w.heap.size 147 wr (some ⟨gu,0,none⟩) U.length U'/\
  OL (a0c .u32) 1 (un noY (some ⟨gu,0,none⟩)) w2.heap.size 147 wr qo (m+1) Q/\Sl (a0c .u32) 1 (mk (un (un noY qo) (some ⟨gu,0,none⟩)) wr) vo V/\Ext w wr) (fun c _=>(intOf c+1).toNat)
 case atStart=>exact⟨m+1,_,U,_,rfl,by omega,by omega,hst,hUl',hid (by simp),hU3,hQ3,hV3,hE13⟩
 case round=>
  obtain⟨k,x,U',Q,rfl,hx,hk,hinv,hUl2,hQl,hUr,hQr,hVr,hEr⟩:=hrel;clear hU3 hQ3 hV3 hE13 hst;have hhq:Hd qo (m+1):=by have:=hQr.hd;rwa[hQl.out]at this
  cases k with
  |zero=>
   obtain rfl:x= -1:=by omega
   obtain⟨hd1,hd2,hd3⟩:=hinv.out.done rfl hnvV'.out;have hUd:=hinv.out.1;have hQd:=hinv.out.2.1;have hd1':=hid hd1;have hd2':=hid hd2;have hlast:Hid (nv U'/2^s<B^n):=hid (Nat.lt_of_le_of_lt (Nat.div_le_self _ _) (Nat.lt_trans hd3 (by have:=a4K hVd;rwa[hVn'.out]at this)));have hUr2:=hUr.remask (a5x _) (Z:=noY) (fun k hk=>rfl);have hub:∀k,ob (some ⟨gu,0,none⟩) k=true->k<wr.heap.size:=fun k hk=>(hUr.block hk).2;have hqb2:∀k,ob qo k=true->k<wr.heap.size:=fun k hk=>(hQr.block hk).2;have hwr:w.heap.size<=wr.heap.size:=hEr.size;have hQr2:=hQr.remask (a5x _) (Z:=noY) (fun k hk=>rfl);clear hx hd1 hd2 hd3 hinv hUr hQr hVr hqb hgq hwq hgw hgu1 hgu2 hhv;go_wp2_with (at_make;refine a2y a0R (a0c.elem .u32) 0 (fun _=>rfl) noY (fun k hk=>by simp[noY]at hk) wr.heap.size (Nat.le_refl _) n rfl rfl (by omega) (by omega) (by omega) ?_;intro ro w4 hR hE4)
   have hU4:=hUr2.ext0 (a0c.elem _) hE4;have hQ4:=hQr2.ext0 (a0c.elem _) hE4;have hE5:=hEr.trans hE4;have hrb:∀k,ob ro k=true->wr.heap.size<=k:=fun k hk=>(hR.block hk).1;have hrX:∀k,ob ro k=true->X k=false:=fun k hk=>by
    cases hh:X k
    ·rfl
    ·have:=hX k hh;have:=hrb k hk;omega
   clear hUr2 hQr2 hE4 hEr;go_loopw [103] (fun c wx=>∃(i:Nat) (o:List Nat),c= .int .i64 i/\i<=n/\Hid (a4R U' o s n i)/\Hid (o.length=n)/\OL (a0c .u32) 1 noY wr.heap.size 147 wx ro n o/\ExtX (ob ro) w4 wx/\Ext w wx) (fun c _=>n - (intOf c).toNat)
   case atStart=>exact⟨0,_,rfl,by omega,hid (a4R.start U' s n),hid (by simp),hR,ExtX.refl _,hE5⟩
   case round=>
    obtain⟨i,o,rfl,hi,hinv,hol,hO,hEx,hEw⟩:=hrel;clear hR hE5;have hho:Hd ro n:=by have:=hO.hd;rwa[hol.out]at this
    have hUx:=hU4.skip (a0c.elem _) (a5x _) hEx (fun k hk=>by
     cases hh:ob ro k
     ·rfl
     ·have:=hrb k hh;have:=hub k hk;omega)
    by_cases hlt:i<n
    ·have hi1:i+1<U'.length:=by rw[hUl2.out];omega
     have hs:=hUx.sl (a0c.elem _);have c1:=hs.nat (i+1) hi1;have c0:=hs.nat i (by omega);obtain⟨x,hx⟩:∃x,U'[i+1]=x:=⟨_,rfl⟩;obtain⟨y,hy⟩:∃y,U'[i]'(by omega)=y:=⟨_,rfl⟩;have bx:=hUd.get (i+1) hi1;have by_:=hUd.get i (by omega);rw[hx,a1n]at bx;rw[hy,a1n]at by_;rw[hx,a1h,Nat.zero_add]at c1;rw[hy,a1h,Nat.zero_add]at c0;have hst:=hid (hinv.out.step hlt hs32 hi1 hUd hx hy);have hhu:Hd (some (⟨gu,0,none⟩:Addr)) U.length:=fun _=>⟨_,_,rfl⟩;have i1:∀W,(Instr.indexAt 41 (.slice (some ⟨gu,0,none⟩) U.length U.length) (.int .i64 ((i:Int)+1))).run Tryz.prog W= .ok (.pointer (some ⟨gu,i+1,none⟩)) W:=fun W=>by
      have:=a0z a0R (some ⟨gu,0,none⟩) U.length U.length .i64 (i+1) (m:=(i:Int)+1) hhu (by omega) (by omega) W;rwa[a1h,Nat.zero_add]at this
     have i2:∀W,(Instr.indexAt 41 (.slice (some ⟨gu,0,none⟩) U.length U.length) (.int .i64 (i:Int))).run Tryz.prog W= .ok (.pointer (some ⟨gu,i,none⟩)) W:=fun W=>by
      have:=a0z a0R (some ⟨gu,0,none⟩) U.length U.length .i64 i (m:=(i:Int)) hhu (by omega) rfl W;rwa[a1h,Nat.zero_add]at this
     have i3:∀W,(Instr.indexAt 41 (.slice ro n n) (.int .i64 (i:Int))).run Tryz.prog W= .ok (.pointer (some (adr ro i))) W:=a0z a0R ro n n .i64 i hho hlt rfl;have s1:IntKind.i64.wrap ((i:Int)+1)=(i:Int)+1:=IntWalk.i64_in _ (by omega);have hor:=a7U x y bx by_;have hval:Hid (IntKind.u32.wrap (bits BinOp.or IntKind.u64 (IntKind.u64.wrap (IntKind.u64.wrap (x:Int)*4294967296)) (IntKind.u64.wrap (y:Int))/2^s)=(((x*4294967296+y)/2^s%4294967296:Nat):Int)):=hid (by
      rw[IntWalk.u64_in (x:Int) (by omega),IntWalk.u64_in ((x:Int)*4294967296) (by omega),IntWalk.u64_in (y:Int) (by omega),hor,IntKind.wrap_u32];simp)
     clear hx hy hinv hs;go_wp2_with fail
     go_still_tail 19,(by kernel_rfl)
     change wpList _ _ _ _ _ wr.drew
     have hEd:ExtX noY wr wr.drew:=(ExtX.refl wr).drew;have hOd:=hO.ext0 (a0c.elem _) hEd;have hExd:=hEx.trans (ExtX.of hEd);have hEwd:=hEw.trans hEd;generalize wr.drew=wd at hOd hExd hEwd |-;clear i1 i2 i3 c1 c0 hor s1 hEd hO hEx hEw;go_wp2_with ((with_reducible show wpList _ _ _ (⟨_, .store _ _ _,_,_,_,_⟩::_) _ _);refine a1a a3P i ((x*4294967296+y)/2^s%4294967296) rfl rfl hOd (by rw[hol.out];exact hlt) rfl hval.out ?_;intro w6 hO6 hE6)
     have hol2:Hid ((o.set i ((x*4294967296+y)/2^s%4294967296)).length=n):=hid (by rw[List.length_set];exact hol.out);go_roundw
     case rel=>exact⟨i+1,_,by go_num,by omega,hst,hol2,hO6,hExd.trans hE6,hEwd.own hOd hwr hE6⟩
     case measure=>simp[intOf];omega
    ·have hin:i=n:=by omega
     subst hin;have hQx:=hQ4.skip (a0c.elem _) (a5x _) hEx (fun k hk=>by
      cases hh:ob ro k
      ·rfl
      ·have:=hrb k hh;have:=hqb2 k hk;omega)
     have hfin:=hid (hinv.out.done hlast.out);have hRd:=hinv.out.2.1;have hQs:Sl (a0c .u32) 1 (mk X wr) qo Q:=(hQx.remask (a5x _) (Z:=X) hqX).sl (a0c.elem _);have hOs:Sl (a0c .u32) 1 (mk X wr) ro o:=(hO.remask (a5x _) (Z:=X) hrX).sl (a0c.elem _);have hT1:=a1P X qo Q (m+1) wr hQs hQd (by rw[hQl.out];omega) (by rw[hQl.out];exact Nat.le_refl _);have hT2:=a1P X ro o i wr hOs hRd (by rw[hol.out];omega) (by rw[hol.out];exact Nat.le_refl _);rw[hQl.out]at hT1;rw[hol.out]at hT2;have hl1:Q.length<=m+1:=by rw[hQl.out];exact Nat.le_refl _
     have hl2:o.length<=i:=by rw[hol.out];exact Nat.le_refl _
     clear hinv hU4 hQ4 hUx hQx hUd;go_wp2_with fail
     refine hT1.mono ?_;rintro e w' ⟨rfl,l1,rfl,h11,h12,h13⟩;go_wp2_with fail
     refine hT2.mono ?_;rintro e w' ⟨rfl,l2,rfl,h21,h22,h23⟩;clear hT1 hT2;go_wp2_with fail
     go_ret2
     rw[hd1'.out]at h12;rw[hfin.out,hd2'.out]at h22;exact⟨hEw,_,_,l1,_,_,l2,rfl,Nat.le_trans h11 hl1,h12,h13,Nat.le_trans h21 hl2,h22,h23⟩
  |succ j=>
   obtain rfl:x=(j:Int):=by omega
   clear hx;have hjU:j+(n+1)<=U'.length:=by rw[hUl2.out];omega
   obtain⟨w1,w2',w3',w4,w5,w6,w7⟩:=hinv.out.win hjU hVn'.out hVd;obtain⟨W,hW⟩:∃W,(U'.drop j).take (n+1)=W:=⟨_,rfl⟩;have hge:∀i,i<=n->U'.getD (j+i) 0=W.getD i 0:=fun i hi=>by rw[<-hW];exact(b5o hi).symm
   have hnx:=fun(o:List Nat) h1 h2 h3=>(fun(p:_/\_)=>And.intro p.1 (p.2.trans hUl2.out)) (hinv.out.next (W':=o) hjU (by rw[hQl.out];omega) hVn'.out hVd h1 h2 h3);rw[hW]at w1 w2' w3' w5 w6;simp only[hW]at hnx;obtain⟨A,hA⟩:∃A,U'.take j=A:=⟨_,rfl⟩;obtain⟨R,hR⟩:∃R,U'.drop (j+(n+1))=R:=⟨_,rfl⟩;rw[hA]at w5 w7;rw[hR]at w5;simp only[hA,hR]at hnx;obtain⟨e1,e2,e3⟩:=b8p w1 hVn'.out hnb2 w2' hVd hVt'.out w3';have hVp:0<nv V:=by
    by_cases h:nv V=0
    ·rw[h]at w3';omega
    ·omega
   have hUs:=hUr.sl (a0c.elem _);have c2:=hUs.nat (j+n) (by rw[hUl2.out];omega);have c1:=hUs.nat (j+(n - 1)) (by rw[hUl2.out];omega);have c0:=hUs.nat (j+(n - 2)) (by rw[hUl2.out];omega);rw[<-a0y,hge n (by omega),a1h,Nat.zero_add]at c2;rw[<-a0y,hge (n - 1) (by omega),a1h,Nat.zero_add]at c1;rw[<-a0y,hge (n - 2) (by omega),a1h,Nat.zero_add]at c0;have d1:=hVr.nat (n - 1) (by rw[hVn'.out];omega);have d0:=hVr.nat (n - 2) (by rw[hVn'.out];omega);rw[<-a0y]at d1 d0;have b2:=w2'.getD n;have b1:=w2'.getD (n - 1);have b0:=w2'.getD (n - 2);have f1:=hVd.getD (n - 1);have f0:=hVd.getD (n - 2);have hvt:=hVt'.out;generalize W.getD n 0=u2 at*;generalize W.getD (n - 1) 0=u1 at*;generalize W.getD (n - 2) 0=u0 at*;generalize V.getD (n - 1) 0=v1 at*;generalize V.getD (n - 2) 0=v0 at*;rw[a1n]at b2 b1 b0 f1 f0 hvt;obtain⟨x,hx⟩:∃x,a7Q B u2 u1 u0 v1 v0=x:=⟨_,rfl⟩;have hx32:x<4294967296:=by rw[<-hx];exact b8q
   have hgs:∀q,Calls Tryz.prog 309 #[.int .u32 u2, .int .u32 u1, .int .u32 u0, .int .u32 v1, .int .u32 v0] (wr.drewN q) fun e w'=>e= .returned (.int .u64 (x:Nat))/\∃m,w'=(wr.drewN q).drewN m:=fun q=>by rw[<-hx];exact b2O u2 u1 u0 v1 v0 _ (by omega) f1 e1 b1 b0 f0
   rw[hx]at e2 e3;have hkk:=hid (fun(c W':Nat)=>a9K (c:=c) (W':=W') hVp e2 e3 (e:=B^(n+1)));have hVp':=hid hVp;have s1:IntKind.i64.wrap ((j:Int)+(n:Int))=(j:Int)+(n:Int):=IntWalk.i64_in _ (by omega);have s2:IntKind.i64.wrap ((j:Int)+(n:Int) - 1)=(j:Int)+(n:Int) - 1:=IntWalk.i64_in _ (by omega);have s3:IntKind.i64.wrap ((j:Int)+(n:Int) - 2)=(j:Int)+(n:Int) - 2:=IntWalk.i64_in _ (by omega);have s4:IntKind.i64.wrap ((n:Int) - 1)=(n:Int) - 1:=IntWalk.i64_in _ (by omega);have s5:IntKind.i64.wrap ((n:Int) - 2)=(n:Int) - 2:=IntWalk.i64_in _ (by omega);have hhu:Hd (some (⟨gu,0,none⟩:Addr)) U.length:=fun _=>⟨_,_,rfl⟩;have i1:∀W,(Instr.indexAt 41 (.slice (some ⟨gu,0,none⟩) U.length U.length) (.int .i64 ((j:Int)+(n:Int)))).run Tryz.prog W= .ok (.pointer (some ⟨gu,j+n,none⟩)) W:=fun W=>by
    have:=a0z a0R (some ⟨gu,0,none⟩) U.length U.length .i64 (j+n) (m:=(j:Int)+(n:Int)) hhu (by omega) (by omega) W;rwa[a1h,Nat.zero_add]at this
   have i2:∀W,(Instr.indexAt 41 (.slice (some ⟨gu,0,none⟩) U.length U.length) (.int .i64 ((j:Int)+(n:Int) - 1))).run Tryz.prog W= .ok (.pointer (some ⟨gu,j+(n - 1),none⟩)) W:=fun W=>by
    have:=a0z a0R (some ⟨gu,0,none⟩) U.length U.length .i64 (j+(n - 1)) (m:=(j:Int)+(n:Int) - 1) hhu (by omega) (by omega) W;rwa[a1h,Nat.zero_add]at this
   have i3:∀W,(Instr.indexAt 41 (.slice (some ⟨gu,0,none⟩) U.length U.length) (.int .i64 ((j:Int)+(n:Int) - 2))).run Tryz.prog W= .ok (.pointer (some ⟨gu,j+(n - 2),none⟩)) W:=fun W=>by
    have:=a0z a0R (some ⟨gu,0,none⟩) U.length U.length .i64 (j+(n - 2)) (m:=(j:Int)+(n:Int) - 2) hhu (by omega) (by omega) W;rwa[a1h,Nat.zero_add]at this
   have hVle:n<=V.length:=by rw[hVn'.out];exact Nat.le_refl _
   have i4:∀W,(Instr.indexAt 41 (.slice vo V.length V0.length) (.int .i64 ((n:Int) - 1))).run Tryz.prog W= .ok (.pointer (some (adr vo (n - 1)))) W:=a0z a0R vo V.length V0.length .i64 (n - 1) hhv (by omega) (by omega);have i5:∀W,(Instr.indexAt 41 (.slice vo V.length V0.length) (.int .i64 ((n:Int) - 2))).run Tryz.prog W= .ok (.pointer (some (adr vo (n - 2)))) W:=a0z a0R vo V.length V0.length .i64 (n - 2) hhv (by omega) (by omega);have hWh:=hid w1;have hAl:=hid w7;have hUr2:OL (a0c .u32) 1 (un noY qo) w.heap.size 147 wr (some ⟨gu,0,none⟩) U.length (A++W++R):=by rw[<-w5];exact hUr
   have hnx':=hid hnx;clear hnx hinv w1 w3' w4 w5 w6 w7 hge hUs hx e1 e2 e3 b2 b1 b0 f1 f0 hvt hA hR hW hVp hUr hUl2 hjU;clear U';go_wp2_with fail
   go_quiet ((go_at_call 309;with_reducible exact Calls.quiet_of (hgs _)))
   clear c2 c1 c0 d1 d0 i1 i2 i3 i4 i5 hgs s2 s3 s4 s5;have hjc:j<U.length:=by omega
   have hjn:j+n+1<=U.length:=by omega
   have hwl:j+n+1 - j=W.length:=by rw[hWh.out];omega
   have hEd:ExtX noY wr (wr.drewN nq):=(ExtX.refl wr).drewN nq;have hUd:=hUr2.ext0 (a0c.elem _) hEd;have hQd:=hQr.ext0 (a0c.elem _) hEd;have hVd2:Sl (a0c .u32) 1 (mk (un (un noY qo) (some ⟨gu,0,none⟩)) (wr.drewN nq)) vo V:=hVr;have hEn:=hEr.trans hEd;clear hUr2 hQr hVr hEr;generalize wr.drewN nq=wd at*;go_wp2_with (first|((with_reducible show wpList _ _ _ (⟨_, .slice _ _ _ _ _,_,_,_,_⟩::_) _ _);refine st_win a0R j (j+n+1) rfl rfl rfl rfl (by omega) (by omega) (by omega) ?_))
   have hr:=b1G (un noY qo) w.heap.size gu U.length (U.length - j) A W R V vo V0.length x n wd hUd hVd2 hWh.out hVn'.out hVd w2' hx32 (by rw[hAl.out];omega) hnb3;rw[hAl.out]at hr;refine hr.mono ?_;clear hr;rintro e w6 ⟨hE6,o,⟨bo,rfl,hol,hod,hcs⟩,hU6⟩;have hdf:=hkk.out bo (nv o) hcs;have hol':=hid hol;have hV6:=hVd2.unstep (a0c.mono _) hE6 (.inl rfl);have hQ6:=hQd.skip (a0c.elem _) (a5x _) hE6 (fun k hk=>b5v (by have:=hqb k hk;omega));have hE7:=hEn.own hUd (Nat.le_refl _) hE6;clear hkk hol hE6 hUd hQd hVd2 hEn;rcases hcs with⟨rfl,_⟩|⟨rfl,_⟩
   ·obtain⟨k1,k2⟩:=hdf.1 rfl
    have hn1:=hid (hnx'.out o hod hol'.out k2);rw[<-k1]at hn1;clear hdf k1 k2 hnx';go_wp2_with (first|(with_reducible refine a0q a0R (by omega) (by assumption) ?_)|((with_reducible show wpList _ _ _ (⟨_, .store _ _ _,_,_,_,_⟩::_) _ _);refine a1a a3P j x rfl rfl hQ6 (by rw[hQl.out];omega) rfl (by omega) ?_;intro w8 hQ8 hE8))
    have hU8:=hU6.skip (a0c.elem _) (a5x _) hE8 (fun k hk=>by have:=a6f hk;subst this;exact hgq);have hV8:Sl (a0c .u32) 1 (mk (un (un noY qo) (some ⟨gu,0,none⟩)) w8) vo V:=hV6.mono (a0c.mono _) (a0w hE8 (fun k hk=>a0f (a0r hk)));go_roundw
    case rel=>exact⟨j,_,_,_,rfl,rfl,by omega,hid hn1.out.1,hid hn1.out.2,hid (by rw[List.length_set];exact hQl.out),hU8,hQ8,hV8,hE7.own hQ6 hwq hE8⟩
    case measure=>simp[intOf]
   ·obtain⟨k0,k1,k2⟩:=hdf.2 rfl
    have k2':=hid k2;clear hdf k2;go_wp2_with (first|((with_reducible show wpList _ _ _ (⟨_, .slice _ _ _ _ _,_,_,_,_⟩::_) _ _);refine st_win a0R j (j+n+1) rfl rfl rfl rfl (by omega) (by omega) (by omega) ?_))
    have hr:=a9L (un noY qo) w.heap.size gu U.length (U.length - j) A o R V vo V0.length n w6 hU6 hV6 hol'.out hVn'.out hVd hod (by rw[hAl.out];omega) hnb3;rw[hAl.out]at hr;rw[show o.length=W.length by rw[hol'.out,hWh.out]]at hr;refine hr.mono ?_;clear hr;rintro e w7 ⟨hE9,o2,⟨c,rfl,hl2,hd2,hc,hs2⟩,hU7⟩;have hn1:=hid (hnx'.out o2 hd2 hl2 (b5p hVd hVn'.out hVp'.out k2'.out hs2 hc hd2 hl2));rw[<-k1]at hn1;have hV7:=hV6.unstep (a0c.mono _) hE9 (.inl rfl);have hQ7:=hQ6.skip (a0c.elem _) (a5x _) hE9 (fun k hk=>b5v (by have:=hqb k hk;omega));have hE10:=hE7.own hU6 (Nat.le_refl _) hE9;have hx1:(1:Int)<=(x:Int):=by omega
    clear k1 hnx' hl2 hs2 hU6 hV6 hQ6 hE9 hE7;go_wp2_with (first|(with_reducible refine a0q a0R (by omega) (by assumption) ?_)|((with_reducible show wpList _ _ _ (⟨_, .store _ _ _,_,_,_,_⟩::_) _ _);refine a1a a3P j (x - 1) rfl rfl hQ7 (by rw[hQl.out];omega) rfl (by omega) ?_;intro w8 hQ8 hE8))
    have hU8:=hU7.skip (a0c.elem _) (a5x _) hE8 (fun k hk=>by have:=a6f hk;subst this;exact hgq);have hV8:Sl (a0c .u32) 1 (mk (un (un noY qo) (some ⟨gu,0,none⟩)) w8) vo V:=hV7.mono (a0c.mono _) (a0w hE8 (fun k hk=>a0f (a0r hk)));go_roundw
    case rel=>exact⟨j,_,_,_,rfl,rfl,by omega,hid hn1.out.1,hid hn1.out.2,hid (by rw[List.length_set];exact hQl.out),hU8,hQ8,hV8,hE10.own hQ7 hwq hE8⟩
    case measure=>simp[intOf]
end Go.Proofs.YtidbbddagfnfbaaGreat
namespace Go.Lim
theorem c0d {n:Nat} (a:4294967296<=n):2<=lg n:=by
 by_cases h:lg n<=1
 ·rw[a2T,Nat.pow_one,a1n]at h;omega
 ·omega
end Go.Lim
namespace Go.Proofs.YtidbbddagfnfbaaGreat
open Go.RowKit Go.Rep Go.Lim
theorem a9M (X:Nat->Bool) (ao bo:Option Addr) (v y:List Nat) (ca cb:Nat) (w:World) (H:Sl (a0c .u32) 1 (mk X w) ao v) (u:Sl (a0c .u32) 1 (mk X w) bo y)
  (s:Dig v) (F:Dig y) (J:v.length<=1099511627776) (r:y.length<=1099511627776) (A:v.length<=ca) (x:y.length<=cb) (hX:∀k,X k=true->k<w.heap.size) (i nb:Nat) (B:val v=i) (t:val y=nb)
  (h0:0<nb):
  Calls Tryz.prog 245 #[.slice ao v.length ca, .slice bo y.length cb] w (b7e X w (i/nb) (i%nb)):=by
 by_cases h1:nb<4294967296
 ·exact b5l X ao bo v y ca cb w H u s F J r A x hX i nb B t h0 h1
 have h2:=c0d (show 4294967296<=nb by omega);clear h1;go_enter Tryz.func245,Tryz.ntmps245
 go_wp2_with fail
 refine(a1s X _ _ _ _ H s (by omega) A).mono ?_;rintro e w' ⟨rfl,L,P,a,rfl,M,O,f,p⟩;go_wp2_with fail
 refine(a1s X _ _ _ _ u F (by omega) x).mono ?_;rintro e w' ⟨rfl,S,T,b,rfl,N,Q,d,n⟩;rw[B]at f;rw[t]at d;have a0:2<=b.length:=by rw[d.len];exact h2
 have o:a.length<=1099511627776:=Nat.le_trans O J;have K:b.length<=1099511627776:=Nat.le_trans Q r;have a3:=hid f.val;have Z:=hid d.val;clear B t O Q H u J r A x h2 s F;go_wp2_with fail
 refine(a3w X L S a b P T w p n f.1 d.1 o K M N i nb a3.out Z.out).mono ?_;rintro e w2 ⟨j,rfl⟩;have m:=p.mono (a0c.mono _) (a0l j);have U:=n.mono (a0c.mono _) (a0l j);have R:∀k,X k=true->k<w2.heap.size:=fun k hk=>Nat.lt_of_lt_of_le (hX k hk) j.size;by_cases l:i<nb
 ·have D:a3a i nb<0:=(a3M i nb).2 l
  have hq:=hid (Nat.div_eq_of_lt l);have hr:=hid (Nat.mod_eq_of_lt l);generalize a3a i nb=c at D;go_wp2_with fail
  refine(a6s X _ _ _ _ i m f (by omega) R).mono ?_;rintro e w3 ⟨q,C,I,V,rfl,z,g,G⟩;go_wp2_with fail
  go_ret3
  refine⟨j.trans q,none,0,[],C,I,V,rfl,by simp,?_,Sl.nil _ _ _ _,z,?_,G⟩
  ·rw[hq.out];exact a0M.nil
  ·rw[hr.out];exact g
 ·have D:¬a3a i nb<0:=fun h=>l ((a3M i nb).1 h)
  generalize a3a i nb=c at D;go_wp2_with fail
  refine(b1H X L S a b P T w2 m U i nb f d (by omega) a0 o R).mono ?_;rintro e w3 ⟨q,C,I,V,a2,W,l4,rfl,z,g,G,Y,E,a1⟩;go_wp2_with fail
  go_ret3
  exact⟨j.trans q,C,I,V,a2,W,l4,rfl,z,g,G,Y,E,a1⟩
def b8w (w:World) (n:Nat) (e:Ending) (w':World):Prop:=
 w=w'/\((n<18446744073709551616/\e= .returned (.tuple #[.int .u64 n, .bool true]))\/(18446744073709551616<=n/\e= .returned (.tuple #[.int .u64 0, .bool false])))
theorem a7Y (X:Nat->Bool) (ao:Option Addr) (l:List Nat) (c:Nat) (w:World) (N:Sl (a0c .u32) 1 (mk X w) ao l) (U:Dig l) (R:l.length<=1099511627776) (S:l.length<=c) (n:Nat) (P:val l=n):
  Calls Tryz.prog 293 #[.slice ao l.length c] w (b8w w n):=by
 go_enter Tryz.func293,Tryz.ntmps293
 go_wp2_with fail
 refine(a1s X _ _ _ _ N U (by omega) S).mono ?_;rintro e w' ⟨rfl,z,V,a,rfl,M,A,o,t⟩;rw[P]at o;have Q:a.length<=1099511627776:=Nat.le_trans A R;have Y:=t.hd;have K:=hid o.2.2;have B:=o.1;have s:=hid o.len;clear P N U R S A;by_cases h2:2<a.length
 ·have r:18446744073709551616<=n:=by
   by_cases h:n<18446744073709551616
   ·have:lg n<=2:=by rw[a2T,a1n];omega
    have:=s.out;omega
   ·omega
  have G:=hid r;clear r;go_wp2_with fail
  go_ret2
  exact⟨rfl, .inr ⟨G.out,rfl⟩⟩
 ·have E:Hid (n<18446744073709551616):=hid (by
   have:lg n<=2:=by rw[<-s.out];omega
   rw[a2T,a1n]at this;omega)
  go_wp2_with fail
  go_loop [2,13] (fun v i=>∃k:Nat,i= .int .i64 k/\v= .int .u64 (nv (a.take k):Nat)/\k<=a.length) (fun _ i=>a.length - (intOf i).toNat)
  case atStart=>exact⟨0,rfl,rfl,by omega⟩
  case round=>
   obtain⟨k,rfl,rfl,hk⟩:=hrel;by_cases y:k<a.length
   ·have j:=t.nat k y
    have H:=B.get k y;have d:=a0F a k y;obtain⟨x,D⟩:∃x,a[k]=x:=⟨_,rfl⟩;rw[D]at j H d;rw[a1n]at H d;have f:=a1S B k;obtain⟨v,O⟩:∃v,nv (a.take k)=v:=⟨_,rfl⟩;rw[O]at d f |-;have u:=hid d;clear d D O;rcases(by omega:k=0\/k=1)with rfl|rfl
    ·rw[Nat.pow_zero]at f
     obtain rfl:v=0:=by omega
     clear f;have J:bits BinOp.or IntKind.u64 0 (x:Int)=(x:Int):=by
      have:=bits_or_u64_nat 0 x (by omega) (by omega);rw[Nat.zero_or]at this;exact this
     have q:w.cell? (adr z 0)=some (.int .u32 x):=j;go_wp2_with (with_reducible refine a0q a0R (by omega) (by assumption) ?_)
     have g:nv (a.take 1)=x:=by have:=u.out;simpa using this
     go_round
     case rel=>exact⟨1,rfl,by rw[g],by omega⟩
     case measure=>simp[intOf];omega
    ·rw[Nat.pow_one,a1n]at f
     have p:bits BinOp.or IntKind.u64 (v:Int) ((x:Int)*4294967296)=((v+4294967296*x:Nat):Int):=by
      have e:=bits_or_u64_nat v (x*4294967296) (by omega) (by omega);have Z:=Nat.two_pow_add_eq_or_of_lt (i:=32) (b:=v) (by omega) x;rw[Nat.or_comm,Nat.mul_comm x,show(4294967296:Nat)*x=2^32*x from rfl,<-Z]at e;have e3:((2^32*x:Nat):Int)=(x:Int)*4294967296:=by omega
      rw[e3]at e;rw[e];omega
     have m:nv (a.take 2)=v+4294967296*x:=by have:=u.out;simpa using this
     obtain⟨T,L⟩:∃T,v+4294967296*x=T:=⟨_,rfl⟩;rw[L]at p m;have g:=hid m;have J:=p;clear p L m;have q:w.cell? (adr z 1)=some (.int .u32 x):=j;have W:(v:Int)<4294967296:=by omega
     have a0:(x:Int)<4294967296:=by omega
     clear f H;have C:(1:Int)<(a.length:Int):=by omega
     have F:decide ((1:Int)<(a.length:Int))=true:=decide_eq_true C;go_wp2_with (with_reducible refine a0q a0R (by omega) (by assumption) ?_)
     go_round
     case rel=>exact⟨2,rfl,by rw[g.out],by omega⟩
     case measure=>simp[intOf];omega
   ·have I:k=a.length:=by omega
    have g:nv (a.take k)=n:=by rw[I,List.take_length];exact K.out
    rw[g];go_wp2_with fail
    go_ret2
    exact⟨rfl, .inl ⟨E.out,rfl⟩⟩
theorem b2S (a b:Nat) (w:World) (_ha:a<18446744073709551616) (k:b<18446744073709551616):
  Calls Tryz.prog 294 #[.int .u64 a, .int .u64 b] w (b0N w .u64 (Nat.gcd a b)):=by
 obtain⟨g,j⟩:∃g,Nat.gcd a b=g:=⟨_,rfl⟩;rw[j];have i:=hid j;clear j;have o:Hid (b<18446744073709551616):=hid k;clear _ha k;go_enter Tryz.func294,Tryz.ntmps294
 go_wp2_with fail
 go_loopw [0,1] (fun x y wr=>∃p q m:Nat,x= .int .u64 p/\y= .int .u64 q/\Hid (Nat.gcd p q=g)/\wr=w.drewN m) (fun _ y _=>(intOf y).toNat)
 case atStart=>exact⟨a,b,0,rfl,rfl,i,rfl⟩
 case round=>
  obtain⟨p,q,m,rfl,rfl,c,rfl⟩:=hrel;by_cases h:q=0
  ·subst h
   have d:=hid (by have:=c.out;rwa[Nat.gcd_zero_right]at this);have n:(((0:Nat):Int) !=0)=false:=rfl;go_wp2_with fail
   go_ret
   exact⟨a0P (congrArg Nat.cast d.out),m,rfl⟩
  ·have n:((q:Int)==0)=false:=a2w (by omega)
   have r:((q:Int) !=0)=true:=a6X (by omega);have e:Hid (Nat.gcd q (p%q)=g):=hid (by rw[Nat.gcd_comm,<-Nat.gcd_rec,Nat.gcd_comm];exact c.out);have f:p%q<q:=Nat.mod_lt _ (by omega);have l:=hid h;clear h;go_wp2_with fail
   go_quiet (fail)
   go_wp2_with fail
   go_roundw
   case rel=>exact⟨q,p%q,_,rfl,by rw[Int.natCast_emod],e,World.drewN_drewN _ _ _⟩
   case measure=>
    simp only[intOf,Int.toNat_natCast];rw[<-Int.natCast_emod,Int.toNat_natCast];exact f
noncomputable def c1p (w:World):Value->Nat
 | .slice ao n _=>nv ((List.range n).map fun i=>match w.cell? (adr ao i)with|some (.int _ x)=>x.toNat|_=>0)
 |_=>0
theorem a5y {X:Nat->Bool} {w:World} {ao:Option Addr} {l:List Nat} (c:Nat) (b:Sl (a0c .u32) 1 (mk X w) ao l):c1p w (.slice ao l.length c)=nv l:=by
 show nv _=nv l
 congr 1
 apply List.ext_getElem
 ·simp
 ·intro i d a
  simp only[List.getElem_map,List.getElem_range,b.nat i a,Int.toNat_natCast]
theorem b8x (X:Nat->Bool) (ao bo:Option Addr) (la lb:List Nat) (ca cb:Nat) (w:World) (s:Sl (a0c .u32) 1 (mk X w) ao la) (h:Sl (a0c .u32) 1 (mk X w) bo lb)
  (b8:Dig la) (b7:Dig lb) (c1:la.length<=1099511627776) (b4:lb.length<=1099511627776) (z:la.length<=ca) (i:lb.length<=cb) (hX:∀k,X k=true->k<w.heap.size) (na nb:Nat) (b5:val la=na) (b9:val lb=nb):
  Calls Tryz.prog 244 #[.slice ao la.length ca, .slice bo lb.length cb] w (a4u X w (Nat.gcd na nb)):=by
 go_enter Tryz.func244,Tryz.ntmps244
 go_wp2_with fail
 refine(a1s X _ _ _ _ s b8 (by omega) z).mono ?_;rintro e w' ⟨rfl,c9,c7,a,rfl,V,v,H,Z⟩;go_wp2_with fail
 refine(a1s X _ _ _ _ h b7 (by omega) i).mono ?_;rintro e w' ⟨rfl,d0,d1,b,rfl,a0,j,I,a1⟩;rw[b5]at H;rw[b9]at I;have Y:a.length<=1099511627776:=Nat.le_trans v c1;have U:b.length<=1099511627776:=Nat.le_trans j b4;obtain⟨g,O⟩:∃g,Nat.gcd na nb=g:=⟨_,rfl⟩;rw[O];have a8:=hid O;have C:=hid H;have f:=hid I;clear b5 b9 v j s h c1 b4 z i b8 b7 O H I;go_wp2_with fail
 go_loopw [0,1] (fun x y wr=>∃(p q:Nat) (ao bo:Option Addr) (a b:List Nat) (ca cb:Nat),x= .slice ao a.length ca/\y= .slice bo b.length cb/\a.length<=ca/\b.length<=cb/\a.length<=1099511627776/\b.length<=1099511627776/\Hid (a0M a p)/\Hid (a0M b q)/\Hid (Nat.gcd p q=g)/\
  Sl (a0c .u32) 1 (mk X wr) ao a/\Sl (a0c .u32) 1 (mk X wr) bo b/\Ext w wr) (fun _ y W=>c1p W y)
 case atStart=>exact⟨na,nb,_,_,_,_,_,_,rfl,rfl,V,a0,Y,U,C,f,a8,Z,a1,ExtX.refl _⟩
 case round=>
  clear C f Z a1 V a0 Y U;obtain⟨p,q,P,R,a2,b2,T,A,rfl,rfl,z,i,v,j,C,f,O,s,h,hE⟩:=hrel;have S:∀k,X k=true->k<wr.heap.size:=fun k hk=>Nat.lt_of_lt_of_le (hX k hk) hE.size;by_cases hq:0<b2.length
  ·have n:Hid (0<q):=hid (by have:=a1o f.out;omega)
   have c8:(0:Int)<(b2.length:Int):=by omega
   have a7:=C.out.1;have Q:=f.out.1;have G:=hid C.out.val;have B:=hid f.out.val;go_wp2_with fail
   refine(a7Y X P a2 T wr s a7 v z p G.out).mono ?_;rintro e w' ⟨rfl,c6⟩;rcases c6 with⟨u1,rfl⟩|⟨u1,rfl⟩
   ·have c5:=hid u1
    clear u1;go_wp2_with fail
    refine(a7Y X R b2 A wr h Q j i q B.out).mono ?_;rintro e w' ⟨rfl,b3⟩;rcases b3 with⟨u2,rfl⟩|⟨u2,rfl⟩
    ·have a6:Nat.gcd p q<18446744073709551616:=Nat.lt_of_le_of_lt (Nat.gcd_le_right _ n.out) u2
     rw[O.out]at a6;have c2:=hid u2;have c0:=hid a6;have b6:=b2S p q wr c5.out c2.out;rw[O.out]at b6;clear u2 a6;go_wp2_with fail
     refine b6.mono ?_;rintro e w2 ⟨rfl,m,rfl⟩;go_wp2_with fail
     refine(a3Q X g (wr.drewN m) c0.out S).mono ?_;rintro e w3 ⟨l,L,M,l3,rfl,J,d,t⟩;go_wp2_with fail
     go_ret
     exact⟨hE.trans (((ExtX.refl wr).drewN m).trans l),L,M,l3,rfl,J,by rw[a8.out];exact d,t⟩
    ·clear u2
     go_wp2_with fail
     refine(a9M X P R a2 b2 T A wr s h a7 Q v j z i S p q G.out B.out n.out).mono ?_;rintro e w3 ⟨l,L,M,l3,c3,a3,l4,rfl,J,d,t,a4,c,E⟩;go_wp2_with fail
     have b0:l4.length<=1099511627776:=by
      have h1:l4.length<=b2.length:=by rw[c.len,f.out.len];exact a1i (Nat.le_of_lt (Nat.mod_lt _ n.out))
      omega
     have a9:Hid (Nat.gcd q (p%q)=g):=hid (by rw[Nat.gcd_comm,<-Nat.gcd_rec,Nat.gcd_comm];exact O.out);have D:=h.mono (a0c.mono _) (a0l l);have u:=a5y a3 E;have r:=a5y A h;rw[c.2.2]at u;rw[f.out.2.2]at r;have b1:=Nat.mod_lt p n.out;have o:=hid c;have K:=hid u;have F:=hid r;clear d t c u r G B;go_roundw
     case rel=>exact⟨q,p%q,_,_,_,_,_,_,rfl,rfl,i,a4,j,b0,f,o,a9,D,E,hE.trans l⟩
     case measure=>rw[K.out,F.out];exact b1
   ·clear u1
    go_wp2_with fail
    refine(a7Y X R b2 A wr h Q j i q B.out).mono ?_;rintro e w' ⟨rfl,b3⟩;rcases b3 with⟨u2,rfl⟩|⟨u2,rfl⟩
    all_goals
     clear u2;go_wp2_with fail
     refine(a9M X P R a2 b2 T A wr s h a7 Q v j z i S p q G.out B.out n.out).mono ?_;rintro e w3 ⟨l,L,M,l3,c3,a3,l4,rfl,J,d,t,a4,c,E⟩;go_wp2_with fail
     have b0:l4.length<=1099511627776:=by
      have h1:l4.length<=b2.length:=by rw[c.len,f.out.len];exact a1i (Nat.le_of_lt (Nat.mod_lt _ n.out))
      omega
     have a9:Hid (Nat.gcd q (p%q)=g):=hid (by rw[Nat.gcd_comm,<-Nat.gcd_rec,Nat.gcd_comm];exact O.out);have D:=h.mono (a0c.mono _) (a0l l);have u:=a5y a3 E;have r:=a5y A h;rw[c.2.2]at u;rw[f.out.2.2]at r;have b1:=Nat.mod_lt p n.out;have o:=hid c;have K:=hid u;have F:=hid r;clear d t c u r G B;go_roundw
     case rel=>exact⟨q,p%q,_,_,_,_,_,_,rfl,rfl,i,a4,j,b0,f,o,a9,D,E,hE.trans l⟩
     case measure=>rw[K.out,F.out];exact b1
  ·have n:q=0:=by have:=a1o f.out;omega
   subst n;have N:=O.out;rw[Nat.gcd_zero_right]at N;have a5:=hid N;clear N;have c4:=C.out;clear O f;go_wp2_with fail
   refine(a6s X P a2 T wr p s c4 (by omega) S).mono ?_;rintro e w3 ⟨l,L,M,l3,rfl,J,d,t⟩;go_wp2_with fail
   go_ret
   exact⟨hE.trans l,L,M,l3,rfl,J,by rw[a8.out,<-a5.out];exact d,t⟩
theorem a2e (X:Nat->Bool) (ao:Option Addr) (l:List Nat) (b:Nat) (w:World) (c:Sl (a0c .u32) 1 (mk X w) ao l) (h:l.length<=4398046511104):
  Calls Tryz.prog 253 #[.slice ao l.length b] w fun e f=>w=f/\e= .returned (.bool (a1B l)):=by
 have i:=c.hd;by_cases d:l.length=0
 ·have a:l= []:=List.eq_nil_of_length_eq_zero d
  subst a;clear c i h d;simp only[List.length_nil];go_enter Tryz.func253,Tryz.ntmps253
  go_wp2_with fail
  go_ret
  exact⟨rfl,rfl⟩
 ·have j:=c.nat (l.length - 1) (by omega)
  have g:=hid (a3t (l:=l) (by omega));have k:((l.length:Int)==0)=false:=a2w (by omega);go_enter Tryz.func253,Tryz.ntmps253
  go_wp2_with (with_reducible refine a0q a0R (by omega) (by assumption) ?_)
  go_ret
  exact⟨rfl,a0j (by rw[g.out];exact a8I _)⟩
theorem a6x (X:Nat->Bool) (ao:Option Addr) (l:List Nat) (c:Nat) (w:World) (d:Sl (a0c .u32) 1 (mk X w) ao l) (o:Dig l) (m:l.length<=4398046511104) (s:∀k,X k=true->k<w.heap.size):
  Calls Tryz.prog 189 #[.slice ao l.length c] w (a4u X w (val l)):=by
 cases b:a1B l
 ·have f:=hid b
  go_enter Tryz.func189,Tryz.ntmps189
  go_wp2_with (go_at_call 253;refine(a2e X _ _ _ _ d m).mono ?_;rintro e p ⟨rfl,rfl⟩)
  go_ret
  have:vl l= []:=by unfold vl;rw[b];rfl
  exact⟨ExtX.refl _,none,0,[],rfl,by simp,this▸a4L o,Sl.nil _ _ _ _⟩
 ·have f:=hid b
  have i:=OL.nil (a0c .u32) 1 X w.heap.size 147 w;have h:Sl (a0c .u32) 1 (mk (un X none) w) ao l:=d.mono (a0c.mono _) (a1u fun k _ q=>by simpa[un,ob]using q);go_enter Tryz.func189,Tryz.ntmps189
  go_wp2_with (first|(go_at_call 253;refine(a2e X _ _ _ _ d m).mono ?_;rintro e p ⟨rfl,rfl⟩)|(at_builtin;refine a3g (l:=[]) a0R rfl (a0c.elem .u32) (Nat.le_refl _) s l rfl rfl i h (by simp;omega) (by simp;omega) ?_;intro r j t a g _))
  go_ret
  have:vl l=l:=by unfold vl;rw[b];rfl
  have n:=a4L o;rw[this]at n;exact⟨(ExtX.refl w).own i (Nat.le_refl _) g,_,_,l,rfl,by simpa using a.lenCap,n,by simpa using a.sl (a0c.elem _)⟩
theorem a4T (X:Nat->Bool) (ao:Option Addr) (l:List Nat) (a:Nat) (w:World) (e:Sl (a0c .u32) 1 (mk X w) ao l) (j:Dig l) (q:l.length<=4398046511104) (i:l.length<=a):
  Calls Tryz.prog 251 #[.slice ao l.length a] w (b2H X w ao l a):=by
 have o:=e.hd;go_enter Tryz.func251,Tryz.ntmps251
 go_wp2_with fail
 go_loop [0] (fun s=>∃k:Nat,s= .slice ao k a/\Cut l k) (fun s=>lenOf s)
 case atStart=>exact⟨_,rfl,Cut.all l⟩
 case round=>
  obtain⟨k,rfl,d⟩:=hrel;have m:=d.1;by_cases f:0<k
  ·have p:=e.nat (k - 1) (by omega)
   have n:Hd ao k:=fun _=>o (by omega);by_cases c:l[k - 1]=0
   ·have g:=d.less f c
    have h:=hid c;rw[c]at p;clear c;go_wp2_with (with_reducible refine a0q a0R (by omega) (by assumption) ?_)
    go_round
    case rel=>exact⟨k - 1,by go_num,g⟩
    case measure=>simp[lenOf];omega
   ·have b:=d.canon j (.inr ⟨by omega,c⟩)
    have h:((l[k - 1]:Int)==0)=false:=a2w (by omega);go_wp2_with (with_reducible refine a0q a0R (by omega) (by assumption) ?_)
    go_ret
    exact⟨rfl,l.take k,a3O (by simp;omega),by simp;omega,b,e.take k⟩
  ·have b:=d.canon j (.inl (by omega))
   go_wp2_with fail
   go_ret
   exact⟨rfl,l.take k,a3O (by simp;omega),by simp;omega,b,e.take k⟩
theorem a3T (X:Nat->Bool) (ao:Option Addr) (l:List Nat) (d:Nat) (i:Nat) (w:World) (g:Sl (a0c .u32) 1 (mk X w) ao l) (m:Dig l) (hi:i<=4398046511104) (x:Nat) (j:l.getD i 0=x):
  Calls Tryz.prog 250 #[.slice ao l.length d, .int .i64 i] w fun e k=>w=k/\e= .returned (.int .u64 x):=by
 have n:=g.hd;have b:=hid j;clear j;by_cases h:i<l.length
 ·have o:=g.nat i h
  have c:l.getD i 0=l[i]:=by simp[List.getD,h]
  have a:=hid c;have f:=m.get i h;rw[a1n]at f;go_enter Tryz.func250,Tryz.ntmps250
  go_wp2_with (with_reducible refine a0q a0R (by omega) (by assumption) ?_)
  go_ret
  exact⟨rfl,a0P (by rw[<-b.out,a.out])⟩
 ·have c:l.getD i 0=0:=by simp[List.getD,h]
  have a:=hid c;go_enter Tryz.func250,Tryz.ntmps250
  go_wp2_with (with_reducible refine a0q a0R (by omega) (by assumption) ?_)
  go_ret
  exact⟨rfl,a0P (by rw[<-b.out,a.out];rfl)⟩
theorem a7Z (X:Nat->Bool) (n:Nat) (w:World) (hn:n<18446744073709551616) (hX:∀k,X k=true->k<w.heap.size):
  Calls Tryz.prog 186 #[.int .u64 n] w (a4u X w n):=by
 have hO:OL (a0c .u32) 1 X w.heap.size 147 (w.alloc (.cells #[.int .u32 ((n:Int)%4294967296), .int .u32 ((n:Int)/4294967296)] 147)) (some ⟨w.heap.size,0,none⟩) 2 [n%4294967296,n/4294967296]:=
  OL.lit (a0c.elem .u32) hX (Nat.le_refl _) [.int .u32 ((n%4294967296:Nat):Int), .int .u32 ((n/4294967296:Nat):Int)] [n%4294967296,n/4294967296] _ (by simp[a0i,Value.cells]) rfl
   (fun i hi _=>by
            match i,hi with
            |0,_=>rfl
            |1,_=>rfl) (by simp)
 go_enter Tryz.func186,Tryz.ntmps186
 go_wp2_with fail
 refine(a4T X _ [n%4294967296,n/4294967296] _ _ (hO.sl (a0c.elem .u32)) (Dig.cons (by rw[a1n];exact Nat.mod_lt _ (by decide)) (Dig.cons (by rw[a1n];omega) Dig.nil)) (by simp) (by simp)).mono ?_;rintro e w' ⟨rfl,l',rfl,hl',hc,hs'⟩;go_wp2_with fail
 go_ret
 have hv:nv [n%4294967296,n/4294967296]=n:=by simp only[nv,a1n];omega
 rw[hv]at hc;exact⟨(ExtX.refl w).alloc _,_,2,_,rfl,by simpa using hl',hc,hs'⟩
theorem a8a (X:Nat->Bool) (f g:Option Addr) (a b:List Nat) (n o:Nat) (w:World) (m:Sl (a0c .u32) 1 (mk X w) f a) (l:Sl (a0c .u32) 1 (mk X w) g b)
  (A:a.length<=1099511627776) (z nb:Nat) (d:a0M a z) (c:a0M b nb):
  Calls Tryz.prog 265 #[.slice f a.length n, .slice g b.length o] w (a4v w (a3a z nb)):=by
 have u:=m.hd;have x:=l.hd;by_cases e:a.length<b.length
 ·have h:=hid (a4s d c e)
  have s:((a.length:Int) !=b.length)=true:=a6X (by omega);go_enter Tryz.func265,Tryz.ntmps265
  go_wp2_with fail
  go_ret
  exact⟨ExtX.refl _,a0P h.out.symm⟩
 by_cases r:b.length<a.length
 ·have h:=hid (a4t d c r)
  have s:((a.length:Int) !=b.length)=true:=a6X (by omega);go_enter Tryz.func265,Tryz.ntmps265
  go_wp2_with fail
  go_ret
  exact⟨ExtX.refl _,a0P h.out.symm⟩
 have s:((a.length:Int) !=b.length)=false:=a6q (by omega);have p:Hid (a.length=b.length):=hid (by omega);have y:b.length<=a.length:=by omega
 have C:a.length<=b.length:=by omega
 clear e r;go_enter Tryz.func265,Tryz.ntmps265
 go_wp2_with fail
 go_loopw [5] (fun i wr=>∃k:Nat,i= .int .i64 ((k:Int) - 1)/\k<=a.length/\Hid (a.drop k=b.drop k)/\Ext w wr) (fun i _=>(intOf i+1).toNat)
 case atStart=>exact⟨a.length,rfl,Nat.le_refl _,hid (by rw[List.drop_of_length_le (Nat.le_refl _),List.drop_of_length_le y]),ExtX.refl _⟩
 case round=>
  obtain⟨k,rfl,v,j,q⟩:=hrel;by_cases e:0<k
  ·have G:=(m.mono (a0c.mono _) (a0l q)).nat (k - 1) (by omega)
   have I:=(l.mono (a0c.mono _) (a0l q)).nat (k - 1) (by omega);have F:∀W,(Instr.indexAt 41 (.slice f a.length n) (.int .i64 ((k:Int) - 1))).run Tryz.prog W= .ok (.pointer (some (adr f (k - 1)))) W:=a0z a0R f a.length n .i64 (k - 1) u (by omega) (by omega);have H:∀W,(Instr.indexAt 41 (.slice g b.length o) (.int .i64 ((k:Int) - 1))).run Tryz.prog W= .ok (.pointer (some (adr g (k - 1)))) W:=a0z a0R g b.length o .i64 (k - 1) x (by omega) (by omega);by_cases D:a[k - 1]<b[k - 1]
   ·have h:=hid (a7k d c p.out e v j.out D)
    have E:((a[k - 1]:Int)<(b[k - 1]:Int)):=by omega
    go_wp2_with fail
    go_quiet (fail)
    go_wp2_with fail
    go_ret
    exact⟨q.drewN _,a0P h.out.symm⟩
   by_cases B:b[k - 1]<a[k - 1]
   ·have h:=hid (a7l d c p.out e v j.out B)
    go_wp2_with fail
    go_quiet (fail)
    go_wp2_with fail
    go_quiet (fail)
    go_wp2_with fail
    go_ret
    exact⟨(q.drewN _).drewN _,a0P h.out.symm⟩
   ·have t:=hid (a5J p.out e v j.out (by omega))
    go_wp2_with fail
    go_quiet (fail)
    go_wp2_with fail
    go_quiet (fail)
    go_wp2_with fail
    go_roundw
    case rel=>exact⟨k - 1,by go_num,by omega,t,q.drewN _⟩
    case measure=>simp[intOf];omega
  ·have h:=hid (a7m d c (k:=k) (by omega) j.out)
   go_wp2_with fail
   go_ret
   exact⟨q,a0P h.out.symm⟩
theorem b5w (X:Nat->Bool) (ao bo:Option Addr) (C D:List Nat) (ca cb:Nat) (w:World) (L:Sl (a0c .u32) 1 (mk X w) ao C) (P:Sl (a0c .u32) 1 (mk X w) bo D)
  (z:Dig C) (u:Dig D) (V:C.length<=1099511627776) (G:D.length<=1099511627776) (hX:∀k,X k=true->k<w.heap.size) (na nb:Nat) (I:val C=na) (O:val D=nb):
  Calls Tryz.prog 185 #[.slice ao C.length ca, .slice bo D.length cb] w (a4u X w (na+nb)):=by
 go_enter Tryz.func185,Tryz.ntmps185
 go_wp2_with fail
 refine(a6x X _ _ _ _ L z (by omega) hX).mono ?_;rintro e w1 ⟨q,a8,a3,a,rfl,b6,d,n⟩;have s:∀k,X k=true->k<w1.heap.size:=fun k E=>Nat.lt_of_lt_of_le (hX k E) q.size;go_wp2_with fail
 refine(a6x X _ _ _ _ (P.mono (a0c.mono _) (a0l q)) u (by omega) s).mono ?_;rintro e Z ⟨l,b1,b2,b,rfl,b7,f,N⟩;have a9:∀k,X k=true->k<Z.heap.size:=fun k E=>Nat.lt_of_lt_of_le (s k E) l.size;have b9:a.length<=1099511627776:=by rw[d.len];exact Nat.le_trans (b2D C z) V
 have c0:b.length<=1099511627776:=by rw[f.len];exact Nat.le_trans (b2D D u) G
 replace n:=n.mono (a0c.mono _) (a0l l)
 rw[I]at d;rw[O]at f;have S:Hid (nv a+nv b=na+nb):=hid (by rw[d.2.2,f.2.2]);have h:=d.1;have j:=f.1;have a1:=q.trans l;clear I O L P V G d f z u q l s;obtain⟨m,hm⟩:∃m,max a.length b.length=m:=⟨_,rfl⟩;have b3:a.length<=m:=by omega
 have b5:b.length<=m:=by omega
 have b8:m<=1099511627776:=by omega
 have c5:(if a.length<b.length then(b.length:Int)else(a.length:Int))=(m:Int):=by split<;>omega
 have c2:=hid hm;clear hm;go_wp2_with fail
 go_loopw [5,6,7] (fun v c i wr=>∃(k:Nat) (o:List Nat) (A:Nat) (oo:Option Addr) (cp:Nat),i= .int .i64 k/\c= .int .u64 A/\v= .slice oo o.length cp/\k<=m+1/\a3b a b o k A/\OL (a0c .u32) 1 X Z.heap.size 147 wr oo cp o/\Ext Z wr) (fun _ _ i _=>m+1 - (intOf i).toNat)
 case atStart=>exact⟨0,[],0,none,0,rfl,rfl,rfl,by omega,a3b.start a b,OL.nil _ _ _ _ _ _,ExtX.refl _⟩
 case round=>
  obtain⟨k,o,A,oo,cp,rfl,rfl,rfl,E,g,Y,B⟩:=hrel;have T:=hid g.1;have c4:=g.2.2.1;have a7:∀k,X k=true->k<wr.heap.size:=fun k E=>Nat.lt_of_lt_of_le (a9 k E) B.size;have t:Z.heap.size<=wr.heap.size:=B.size;by_cases c3:k<=m
  ·have F:=n.mono (a0c.mono _) (a0l B)
   have U:=N.mono (a0c.mono _) (a0l B);have Q:=g.step h j;have hx:=h.getD k;have hy:=j.getD k;rw[a1n]at hx hy;obtain⟨x,r⟩:∃x,a.getD k 0=x:=⟨_,rfl⟩;obtain⟨y,p⟩:∃y,b.getD k 0=y:=⟨_,rfl⟩;rw[r,p]at Q;rw[r]at hx;rw[p]at hy;have J:=hid r;have W:=hid p;clear r p;go_wp2_with fail
   refine(a3T X a8 a a3 k _ F h (by omega) x J.out).mono ?_;rintro e w' ⟨rfl,rfl⟩;go_wp2_with fail
   refine(a3T X b1 b b2 k _ U j (by omega) y W.out).mono ?_;rintro e w' ⟨rfl,rfl⟩;have M:o.length<=2199023255552:=by rw[T.out];omega
   go_wp2_with (at_builtin;refine a3f a0R rfl (a0c.elem .u32) t a7 rfl rfl Y (.int .u32 (((x+y+A)%4294967296:Nat):Int)) ((x+y+A)%4294967296) (by simp[Value.cells]) rfl (by omega) (by omega) ?_;intro a2 K w3 b4 l _)
   go_roundw
   case rel=>exact⟨k+1,_,(x+y+A)/4294967296,a2,K,by go_num,by simp,by simp,by omega,Q,b4,B.own Y (Nat.le_refl _) l⟩
   case measure=>simp[intOf];omega
  ·have a4:k=m+1:=by omega
   subst a4;have R:=g.done h j b3 b5;have a0:=g.2.1;have a5:=Y.sl (a0c.elem .u32);have M:o.length<=2199023255552:=by rw[T.out];omega
   have a6:=Y.lenCap;have H:=hid R;clear R;go_wp2_with fail
   refine(a4T X _ _ _ _ a5 a0 (by omega) a6).mono ?_;rintro e w' ⟨rfl,l',rfl,c1,hc,b0⟩;go_wp2_with fail
   go_ret
   rw[H.out,S.out]at hc;exact⟨a1.trans B,_,_,_,rfl,by omega,hc,b0⟩
end Go.Proofs.YtidbbddagfnfbaaGreat
namespace Go.Lim
def a3y (a b o:List Nat) (i c:Nat):Prop:=o.length=i/\Dig o/\c<=1/\nv o+nv (b.take i)=nv (a.take i)+B^i*c
theorem a3y.start (a b:List Nat):a3y a b [] 0 0:=⟨rfl,Dig.nil,by omega,by simp[nv]⟩
theorem a3y.step {a b o:List Nat} {i c x y:Nat} (h:a3y a b o i c) (g:a.getD i 0=x) (j:b.getD i 0=y) (s:Dig a) (r:Dig b):a3y a b (o++[a4D x y c]) (i+1) (a6t x y c):=by
 obtain⟨k,p,t,v⟩:=h;have f:=s.getD i;have e:=r.getD i;rw[g]at f;rw[j]at e;obtain⟨u,l,m⟩:=a9J f e t;refine⟨by simp[k],p.append (Dig.cons l Dig.nil),m,?_⟩;rw[a1X,k,a1k,a1k,g,j,Nat.pow_succ];generalize a4D x y c=d at*;generalize a6t x y c=n at*;have q:B^i*(d+y+c)=B^i*(x+B*n):=by rw[u]
 rw[Nat.mul_add,Nat.mul_add,Nat.mul_add]at q;rw[Nat.mul_assoc];omega
theorem a3y.done {a b o:List Nat} {c:Nat} (h:a3y a b o a.length c) (d:b.length<=a.length) (f:nv b<=nv a):nv o=nv a - nv b:=by
 obtain⟨j,i,k,g⟩:=h;rw[List.take_of_length_le d,List.take_of_length_le (Nat.le_refl _)]at g;have e:=a4K i;rw[j]at e;rcases(by omega:c=0\/c=1)with rfl|rfl
 ·omega
 ·omega
theorem b2T {x y c:Nat} (d:x<4294967296) (b:y<4294967296) (a:c<=1):(x+4294967296 - y - c)%4294967296=a4D x y c/\1 - (x+4294967296 - y - c)/4294967296=a6t x y c:=by
 unfold a4D a6t;refine⟨rfl,?_⟩;split<;>omega
def a4U (a:List Nat) (v by_:Nat) (o:List Nat) (i c:Nat):Prop:=o.length=by_+i/\Dig o/\c<B/\nv o+B^(by_+i)*c=B^by_*(nv (a.take i)*v)
theorem a4U.start (a:List Nat) (v b:Nat):a4U a v b (List.replicate b 0) 0 0:=⟨by simp,Dig.zeros _,a2o,by simp[nv,b0H]⟩
theorem a4U.step {a o:List Nat} {v b i c x:Nat} (h:a4U a v b o i c) (g:a.getD i 0=x) (n:Dig a) (t:v<4294967296):
  a4U a v b (o++[(x*v+c)%4294967296]) (i+1) ((x*v+c)/4294967296)/\x*v+c<18446744073709551616:=by
 obtain⟨j,m,p,u⟩:=h;have f:=n.getD i;rw[g,a1n]at f;rw[a1n]at p;have w:x*v<=4294967295*4294967295:=Nat.mul_le_mul (by omega) (by omega);have d:x*v+c<18446744073709551616:=by omega
 refine⟨⟨by simp[j];omega,m.append (Dig.cons (by rw[a1n];exact Nat.mod_lt _ (by decide)) Dig.nil),by rw[a1n];omega,?_⟩,d⟩;rw[a1X,j,a1k,g,<-Nat.add_assoc,Nat.pow_succ];have e:=Nat.div_add_mod (x*v+c) 4294967296;generalize (x*v+c)/4294967296=q at*;generalize (x*v+c)%4294967296=r at*;have s:B^(b+i)*(4294967296*q+r)=B^(b+i)*(x*v+c):=by rw[e]
 rw[Nat.mul_add,Nat.mul_add]at s;have k:B^(b+i)*B*q=B^(b+i)*(4294967296*q):=by rw[a1n,Nat.mul_assoc]
 have l:B^b*((nv (a.take i)+B^i*x)*v)=B^b*(nv (a.take i)*v)+B^(b+i)*(x*v):=by
  rw[Nat.add_mul,Nat.mul_add,Nat.pow_add,Nat.mul_assoc (B^i),<-Nat.mul_assoc (B^b) (B^i)]
 rw[k,l];omega
theorem a4U.done {a o:List Nat} {v b c:Nat} (h:a4U a v b o (a.length+1) c) (m:Dig a) (g:v<4294967296):Dig o/\nv o=nv a*v*B^b:=by
 obtain⟨p,k,n,d⟩:=h;rw[List.take_of_length_le (by omega)]at d;have f:=a4K m;have l:c=0:=by
  by_cases j:c=0
  ·exact j
  ·have q:B^(b+(a.length+1))*1<=B^(b+(a.length+1))*c:=Nat.mul_le_mul_left _ (by omega)
   have e:nv a*v<B^(a.length+1):=by
    rw[Nat.pow_succ];exact Nat.lt_of_le_of_lt (Nat.mul_le_mul_left _ (Nat.le_of_lt (show v<B by rw[a1n];exact g))) (Nat.mul_lt_mul_of_pos_right f a2o)
   have i:B^b*(nv a*v)<B^b*B^(a.length+1):=Nat.mul_lt_mul_of_pos_left e (Nat.pow_pos a2o);rw[<-Nat.pow_add]at i;omega
 subst l;exact⟨k,by rw[Nat.mul_zero,Nat.add_zero]at d;rw[d,Nat.mul_comm]⟩
theorem b5x {l:List Nat} (b:Dig l) (k:Nat):l.getD k 0=nv l/B^k%B:=by
 by_cases a:k<l.length
 ·have c:=a2i l k (by omega)
  have d:=a1S b k;have f:nv (l.drop k)=l[k]+B*nv (l.drop (k+1)):=a5w a;have e:0<B^k:=Nat.pow_pos a2o;rw[a0y a,c,Nat.add_mul_div_left _ _ e,Nat.div_eq_of_lt d,Nat.zero_add,f,Nat.add_mul_mod_self_left,Nat.mod_eq_of_lt (b.get k a)]
 ·have c:=a4K b
  have d:B^l.length<=B^k:=Nat.pow_le_pow_right a2o (by omega);rw[a4l (by omega),Nat.div_eq_of_lt (by omega)];simp
theorem c0e {l:List Nat} {n:Nat} (h:a0M l n) (i:Nat):l.getD (i/32) 0/2^(i%32)%2=n/2^i%2:=by
 rw[b5x h.1,h.2.2];have e:i=32*(i/32)+i%32:=by omega
 have b:i%32<32:=Nat.mod_lt _ (by decide);generalize i/32=p at*;generalize i%32=s at*;subst e;rw[b5g,Nat.pow_add,<-Nat.div_div_eq_div_mul];generalize n/2^(32*p)=y;have a:B=2^s*(2*2^(31 - s)):=by
  rw[a1n,<-Nat.pow_succ',<-Nat.pow_add,show s+(31 - s).succ=32 by omega]
 rw[a,Nat.mod_mul_right_div_self];rw[Nat.mod_mul_right_mod]
def a2Y (a b q r i:Nat):Prop:=q=a/2^i/b/\r=a/2^i%b
theorem a2Y.start {a b k:Nat} (h:a<2^k):a2Y a b 0 0 k:=by
 unfold a2Y;rw[Nat.div_eq_of_lt h];exact⟨by simp,by simp⟩
theorem a2Y.step {a b q r i t:Nat} (h:a2Y a b q r (i+1)) (f:0<b) (l:a/2^i%2=t):r<b/\(2*r+t<b->a2Y a b (2*q) (2*r+t) i)/\(b<=2*r+t->a2Y a b (2*q+1) (2*r+t - b) i):=by
 obtain⟨j,d⟩:=h;rw[Nat.pow_succ,<-Nat.div_div_eq_div_mul]at j d;have e:=Nat.div_add_mod (a/2^i) 2;rw[l]at e;have k:=Nat.div_add_mod (a/2^i/2) b;rw[<-j,<-d]at k;have o:r<b:=by rw[d];exact Nat.mod_lt _ f
 unfold a2Y;generalize a/2^i=y at*;generalize y/2=z at*;have g:y=b*(2*q)+(2*r+t):=by
  rw[Nat.mul_left_comm];omega
 refine⟨o,fun c=>?_,fun m=>?_⟩
 ·rw[g]
  exact⟨by rw[Nat.mul_add_div f,Nat.div_eq_of_lt c,Nat.add_zero],by rw[Nat.mul_add_mod,Nat.mod_eq_of_lt c]⟩
 ·have c:2*r+t - b<b:=by omega
  have n:y=b*(2*q+1)+(2*r+t - b):=by rw[g,Nat.mul_add,Nat.mul_one];omega
  rw[n];exact⟨by rw[Nat.mul_add_div f,Nat.div_eq_of_lt c,Nat.add_zero],by rw[Nat.mul_add_mod,Nat.mod_eq_of_lt c]⟩
theorem a2Y.done {a b q r:Nat} (h:a2Y a b q r 0):q=a/b/\r=a%b:=by
 unfold a2Y at h;simpa using h
end Go.Lim
namespace Go.Rep
open Go.RowKit Go.Lim
def HX (X:Nat->Bool) (w:World):Prop:=∀k,X k=true->k<w.heap.size
theorem HX.ext {X Y:Nat->Bool} {w a:World} (h:HX X w) (c:ExtX Y w a):HX X a:=fun k b=>Nat.lt_of_lt_of_le (h k b) c.size
theorem HX.none (w:World):HX noY w:=fun k a=>by simp[noY]at a
def NV (h:Mem) (u:Value) (n:Nat):Prop:=∃ao c l,u= .slice ao l.length c/\l.length<=c/\Dig l/\l.length<=1099511627776/\Sl (a0c .u32) 1 h ao l/\val l=n
def NC (h:Mem) (u:Value) (n:Nat):Prop:=∃ao c l,u= .slice ao l.length c/\l.length<=c/\a0M l n/\Sl (a0c .u32) 1 h ao l
theorem NV.mono:a3E NV:=by rintro h i u x a ⟨ao,c,l,rfl,g,e,f,d,b⟩;exact⟨ao,c,l,rfl,g,e,f,d.mono (a0c.mono _) a,b⟩
theorem NC.mono:a3E NC:=by rintro h f u x a ⟨ao,c,l,rfl,e,b,d⟩;exact⟨ao,c,l,rfl,e,b,d.mono (a0c.mono _) a⟩
theorem NC.nv {h:Mem} {u:Value} {n:Nat} (d:NC h u n) (b:lg n<=1099511627776):NV h u n:=by
 obtain⟨ao,c,l,rfl,f,a,e⟩:=d;exact⟨ao,c,l,rfl,f,a.1,by rw[a.len];exact b,e,a.val⟩
theorem NC.zero (h:Mem):NC h (.slice none 0 0) 0:=⟨none,0,[],rfl,Nat.le_refl _,a0M.nil,Sl.nil _ _ _ _⟩
theorem NC.one {h:Mem} {ao:Option Addr} {c:Nat} (a:1<=c) (b:Sl (a0c .u32) 1 h ao [1]):NC h (.slice ao 1 c) 1:=⟨ao,c,[1],rfl,a,b0J (by omega) (by omega),b⟩
theorem NV.lg {h:Mem} {u:Value} {n:Nat} (b:NV h u n):lg n<=1099511627776:=by
 obtain⟨ao,c,l,rfl,f,a,d,e,rfl⟩:=b;exact Nat.le_trans (b2D l a) d
def a1Z {α:Type} (X:Nat->Bool) (w:World) (R:Mem->Value->α->Prop) (x:α) (e:Ending) (w':World):Prop:=Ext w w'/\∃u,e= .returned u/\R (mk X w') u x
theorem mkx {X:Nat->Bool} {w a:World} {α:Type} {R:Mem->Value->α->Prop} (b:a3E R) {u:Value} {x:α} (h:R (mk X w) u x) (c:Ext w a):R (mk X a) u x:=b _ _ _ _ (a0l c) h
end Go.Rep
namespace Go.Proofs.YtidbbddagfnfbaaGreat
open Go.RowKit Go.Rep Go.Lim
theorem a4u.r {X:Nat->Bool} {w:World} {n:Nat} {e:Ending} {a:World} (h:a4u X w n e a):a1Z X w NC n e a:=by
 obtain⟨b,ao,c,l,rfl,g,d,f⟩:=h;exact⟨b,_,rfl,ao,c,l,rfl,g,d,f⟩
section
variable {X:Nat->Bool} {w:World} {u v:Value} {a b:Nat}
theorem c1q (j:HX X w) (q:NV (mk X w) u a) (e:NV (mk X w) v b):Calls Tryz.prog 194 #[u,v] w (a1Z X w NC (a+b)):=by
 obtain⟨ao,c,l,rfl,x,n,t,k,g⟩:=q;obtain⟨p,d,m,rfl,y,s,o,i,f⟩:=e;exact(b8k X ao p l m c d w k i n s t o x y j a b g f).mono fun _ _ h=>h.r
theorem b7h (j:HX X w) (q:NV (mk X w) u a) (e:NV (mk X w) v b):Calls Tryz.prog 179 #[u,v] w (a1Z X w NC (a*b)):=by
 obtain⟨ao,c,l,rfl,x,n,t,k,g⟩:=q;obtain⟨p,d,m,rfl,y,s,o,i,f⟩:=e;exact(b8l X ao p l m c d w k i n s t o x y j a b g f).mono fun _ _ h=>h.r
theorem c1Y (j:HX X w) (q:NV (mk X w) u a) (e:NV (mk X w) v b):Calls Tryz.prog 244 #[u,v] w (a1Z X w NC (Nat.gcd a b)):=by
 obtain⟨ao,c,l,rfl,x,n,t,k,g⟩:=q;obtain⟨p,d,m,rfl,y,s,o,i,f⟩:=e;exact(b8x X ao p l m c d w k i n s t o x y j a b g f).mono fun _ _ h=>h.r
theorem c1i (o:NV (mk X w) u a) (e:NV (mk X w) v b):Calls Tryz.prog 196 #[u,v] w (a4v w (a3a a b)):=by
 obtain⟨ao,c,l,rfl,r,j,q,i,g⟩:=o;obtain⟨n,d,m,rfl,s,p,k,h,f⟩:=e;exact a3w X ao n l m c d w i h j p q k r s a b g f
def c1Z (X:Nat->Bool) (w:World) (q r:Nat) (e:Ending) (w':World):Prop:=Ext w w'/\∃u v,e= .returned (.tuple #[u,v, .bool true])/\NC (mk X w') u q/\NC (mk X w') v r
theorem c2a (o:HX X w) (I:NV (mk X w) u a) (k:NV (mk X w) v b) (D:0<b):Calls Tryz.prog 245 #[u,v] w (c1Z X w (a/b) (a%b)):=by
 obtain⟨ao,c,l,rfl,J,q,H,t,h⟩:=I;obtain⟨z,d,m,rfl,L,F,y,n,g⟩:=k;refine(a9M X ao z l m c d w t n q F H y J L o a b h g D).mono ?_;rintro e M ⟨p,f,A,K,j,G,C,rfl,B,x,r,s,i,E⟩;exact⟨p,_,_,rfl,⟨f,A,K,rfl,B,x,r⟩,⟨j,G,C,rfl,s,i,E⟩⟩
def c2b (X:Nat->Bool) (w:World) (d:Nat) (b:Bool) (e:Ending) (w':World):Prop:=Ext w w'/\∃u,e= .returned (.tuple #[u, .bool b])/\NC (mk X w') u d
theorem c2c (k:HX X w) (z:NV (mk X w) u a) (i:NV (mk X w) v b):Calls Tryz.prog 243 #[u,v] w (c2b X w (a - b) (decide (b<=a))):=by
 obtain⟨ao,c,l,rfl,C,o,B,q,h⟩:=z;obtain⟨t,d,m,rfl,E,A,r,j,g⟩:=i;refine(b8s X ao t l m c d w q j o A B r C E k a b h g).mono ?_;rintro e F ⟨n,f,y,D,rfl,x,s,p⟩;exact⟨n,_,rfl,f,y,D,rfl,x,s,p⟩
theorem c0f (c:HX X w) (b:a<18446744073709551616):Calls Tryz.prog 241 #[.int .u64 a] w (a1Z X w NC a):=
 (a3Q X a w b c).mono fun _ _ h=>h.r
theorem b5y (j:HX X w) (q:NV (mk X w) u a) (e:NV (mk X w) v b):Calls Tryz.prog 185 #[u,v] w (a1Z X w NC (a+b)):=by
 obtain⟨ao,c,l,rfl,x,n,t,k,g⟩:=q;obtain⟨p,d,m,rfl,y,s,o,i,f⟩:=e;exact(b5w X ao p l m c d w k i n s t o j a b g f).mono fun _ _ h=>h.r
theorem a3U (b:HX X w) (f:NV (mk X w) u a):Calls Tryz.prog 189 #[u] w (a1Z X w NC a):=by
 obtain⟨ao,c,l,rfl,i,e,g,d,rfl⟩:=f;exact(a6x X ao l c w d e (by omega) b).mono fun _ _ h=>h.r
theorem b7i (c:HX X w) (b:a<18446744073709551616):Calls Tryz.prog 186 #[.int .u64 a] w (a1Z X w NC a):=
 (a7Z X a w b c).mono fun _ _ h=>h.r
end
end Go.Proofs.YtidbbddagfnfbaaGreat
namespace Go.Proofs.YtidbbddagfnfbaaGreat
open Go.RowKit Go.Rep Go.Lim
theorem b8y (X:Nat->Bool) (w:World) (u v:Value) (n nb:Nat) (Y:HX X w) (hu:NV (mk X w) u n) (hv:NV (mk X w) v nb):Calls Tryz.prog 210 #[u,v] w (c2b X w (n - nb) (decide (nb<=n))):=by
 have T:=hu.lg;have J:=hv.lg;go_enter Tryz.func210,Tryz.ntmps210
 go_wp2_with fail
 refine(a3U Y hu).mono ?_;rintro e w1 ⟨l,u1,rfl,S⟩;go_wp2_with fail
 refine(a3U (Y.ext l) (mkx NV.mono hv l)).mono ?_;rintro e w2 ⟨j,v1,rfl,a7⟩;obtain⟨ao,ca,a,rfl,b8,d,E⟩:=mkx NC.mono S j;obtain⟨bo,cb,b,rfl,b7,f,G⟩:=a7;have P:=Y.ext (l.trans j);have a2:a.length<=1099511627776:=by rw[d.len];exact T
 have c1:b.length<=1099511627776:=by rw[f.len];exact J
 have A:=l.trans j;have p:=hid d.len;have r:=hid f.len;clear hu hv S l j Y T J;go_wp2_with fail
 refine(a8a X ao bo a b ca cb w2 E G a2 n nb d f).mono ?_;rintro e w3 ⟨m,rfl⟩;have b6:=P.ext m;have B:=A.trans m;by_cases q:n<nb
 ·have hc:a3a n nb<0:=(a3M _ _).2 q
  have hd:Hid (decide (nb<=n)=false):=hid (decide_eq_false (by omega));have hz:Hid (n - nb=0):=hid (by omega);clear q;go_wp2_with fail
  go_ret2
  exact⟨B, .slice none 0 0,by rw[hd.out];rfl,by rw[hz.out];exact NC.zero _⟩
 ·have hc:¬a3a n nb<0:=fun h=>q ((a3M _ _).1 h)
  have hd:Hid (decide (nb<=n)=true):=hid (decide_eq_true (by omega));have a4:b.length<=a.length:=by rw[p.out,r.out];exact a1i (by omega)
  have b4:Hid (nv b<=nv a):=hid (by rw[d.2.2,f.2.2];omega);have Q:Hid (nv a - nv b=n - nb):=hid (by rw[d.2.2,f.2.2]);have F:=d.1;have D:=f.1;have K:=E.mono (a0c.mono _) (a0l m);have L:=G.mono (a0c.mono _) (a0l m);clear q d f m A P E G p r;go_wp2_with fail
  go_loopw [6,7,8] (fun v c i wr=>∃(k:Nat) (o:List Nat) (s:Nat) (oo:Option Addr) (Z:Nat),i= .int .i64 k/\c= .int .u64 s/\v= .slice oo o.length Z/\k<=a.length/\s<=1/\Hid (a3y a b o k s)/\o.length<=k/\OL (a0c .u32) 1 X w3.heap.size 147 wr oo Z o/\Ext w3 wr) (fun _ _ i _=>a.length - (intOf i).toNat)
  case atStart=>exact⟨0,[],0,none,0,rfl,rfl,rfl,by omega,by omega,hid (a3y.start a b),by simp,OL.nil _ _ _ _ _ _,ExtX.refl _⟩
  case round=>
   obtain⟨k,o,s,oo,Z,rfl,rfl,rfl,hk,b3,g,c0,W,H⟩:=hrel;have a8:∀k,X k=true->k<wr.heap.size:=fun k hk=>Nat.lt_of_lt_of_le (b6 k hk) H.size;have C:w3.heap.size<=wr.heap.size:=H.size;by_cases q:k<a.length
   ·have I:=K.mono (a0c.mono _) (a0l H)
    have R:=L.mono (a0c.mono _) (a0l H);have hx:=F.getD k;have hy:=D.getD k;rw[a1n]at hx hy;obtain⟨x,z⟩:∃x,a.getD k 0=x:=⟨_,rfl⟩;obtain⟨y,t⟩:∃y,b.getD k 0=y:=⟨_,rfl⟩;rw[z]at hx;rw[t]at hy;have b1:=hid (g.out.step z t F D);have O:=hid (b2T hx hy b3);have V:a6t x y s<=1:=by unfold a6t;split<;>omega
    have M:=hid z;have U:=hid t;clear z t g;go_wp2_with fail
    refine(a3T X ao a ca k _ I F (by omega) x M.out).mono ?_;rintro e w' ⟨rfl,rfl⟩;go_wp2_with fail
    refine(a3T X bo b cb k _ R D (by omega) y U.out).mono ?_;rintro e w' ⟨rfl,rfl⟩;go_wp2_with (at_builtin;refine a3f a0R rfl (a0c.elem .u32) C a8 rfl rfl W (.int .u32 ((a4D x y s:Nat):Int)) (a4D x y s) (by rw[<-O.out.1];simp[Value.cells];omega) rfl (by omega) (by omega) ?_;intro a1 N w5 b5 j _)
    have a9:Hid ((1:Int) - ((x:Int)+4294967296 - (y:Int) - (s:Int))/4294967296=((a6t x y s:Nat):Int)):=hid (by have:=O.out.2;omega);go_roundw
    case rel=>exact⟨k+1,_,a6t x y s,a1,N,by go_num,by rw[a9.out],by simp,by omega,V,b1,by simp;omega,b5,H.own W (Nat.le_refl _) j⟩
    case measure=>simp[intOf];omega
   ·have a3:k=a.length:=by omega
    subst a3;have b2:=hid (g.out.done a4 b4.out);have a0:=g.out.2.1;have a5:=W.sl (a0c.elem .u32);have a6:=W.lenCap;go_wp2_with fail
    refine(a4T X _ _ _ _ a5 a0 (by omega) a6).mono ?_;rintro e w' ⟨rfl,l',rfl,b9,hc,b0⟩;go_wp2_with fail
    go_ret2
    rw[b2.out,Q.out]at hc;exact⟨B.trans H,_,by rw[hd.out];rfl,oo,Z,l',rfl,by omega,hc,b0⟩
theorem b2U (X:Nat->Bool) (w:World) (u:Value) (n v b:Nat) (V:HX X w) (hu:NC (mk X w) u n) (Y:lg n<=549755813888) (hb:b<=549755813888) (W:v<4294967296):Calls Tryz.prog 266 #[u, .int .u32 v, .int .i64 b] w (a1Z X w NC (n*v*B^b)):=by
 obtain⟨ao,ca,a,rfl,a2,d,N⟩:=hu;have a0:a.length<=549755813888:=by rw[d.len];exact Y
 have j:=d.1;have U:=hid d.2.2;clear d Y;go_enter Tryz.func266,Tryz.ntmps266
 go_wp2_with (at_make;refine a2y a0R (a0c.elem .u32) 0 (fun _=>rfl) X V w.heap.size (Nat.le_refl _) b rfl rfl (by omega) (by omega) (by omega) ?_;intro oo w1 p z)
 go_loopw [7,8,9] (fun v_ c i wr=>∃(k:Nat) (o:List Nat) (r:Nat) (oo:Option Addr) (F:Nat),i= .int .i64 k/\c= .int .u64 r/\v_= .slice oo o.length F/\k<=a.length+1/\r<4294967296/\Hid (a4U a v b o k r)/\o.length<=b+k/\OL (a0c .u32) 1 X w.heap.size 147 wr oo F o/\Ext w wr) (fun _ _ i _=>a.length+1 - (intOf i).toNat)
 case atStart=>exact⟨0,_,0,oo,b,rfl,rfl,by simp,by omega,by omega,hid (a4U.start a v b),by simp,p,z⟩
 case round=>
  clear p z;obtain⟨k,o,r,P,F,rfl,rfl,rfl,Z,a7,f,a6,p,y⟩:=hrel;have J:∀k,X k=true->k<wr.heap.size:=fun k Z=>Nat.lt_of_lt_of_le (V k Z) y.size;have q:w.heap.size<=wr.heap.size:=y.size;by_cases a5:k<=a.length
  ·have s:=N.mono (a0c.mono _) (a0l y)
   have hx:=j.getD k;rw[a1n]at hx;obtain⟨x,l⟩:∃x,a.getD k 0=x:=⟨_,rfl⟩;rw[l]at hx;obtain⟨g,m⟩:=f.out.step l j W;have C:=hid l;obtain⟨t,G⟩:∃t,x*v+r=t:=⟨_,rfl⟩;rw[G]at g m;have M:=hid g;have a1:IntKind.u64.wrap ((x:Int)*(v:Int))=(x:Int)*(v:Int):=IntWalk.u64_in _ (by rw[<-Int.natCast_mul];omega);have a4:IntKind.u64.wrap ((x:Int)*(v:Int)+(r:Int))=(t:Int):=by
    rw[<-G,Int.natCast_add,Int.natCast_mul];exact IntWalk.u64_in _ (by rw[<-Int.natCast_mul];omega)
   have E:t/4294967296<4294967296:=by omega
   have A:decide ((k:Int)<=(a.length:Int))=true:=decide_eq_true (by omega);clear l f g G m;go_wp2_with fail
   refine(a3T X ao a ca k _ s j (by omega) x C.out).mono ?_;rintro e w' ⟨rfl,rfl⟩;go_wp2_with (at_builtin;refine a3f a0R rfl (a0c.elem .u32) q J rfl rfl p (.int .u32 ((t%4294967296:Nat):Int)) (t%4294967296) (by simp[Value.cells]) rfl (by omega) (by omega) ?_;intro I D w5 S T _)
   go_roundw
   case rel=>exact⟨k+1,_,t/4294967296,I,D,by go_num,by rw[Int.natCast_ediv];rfl,by simp,by omega,E,M,by simp;omega,S,y.own p (Nat.le_refl _) T⟩
   case measure=>simp[intOf];omega
  ·have K:k=a.length+1:=by omega
   subst K;have h:=f.out.done j W;have O:=hid h.2;have H:=h.1;have Q:=p.sl (a0c.elem .u32);have R:=p.lenCap;have A:decide (((a.length+1:Nat):Int)<=(a.length:Int))=false:=decide_eq_false (by omega);clear h f;go_wp2_with fail
   refine(a4T X _ _ _ _ Q H (by omega) R).mono ?_;rintro e w' ⟨rfl,l',rfl,a3,hc,L⟩;go_wp2_with fail
   go_ret
   rw[O.out,U.out]at hc;exact⟨y,_,rfl,P,F,l',rfl,by omega,hc,L⟩
theorem b5z (X:Nat->Bool) (w:World) (u v:Value) (a nb:Nat) (E:HX X w) (R:NV (mk X w) u a) (Q:NV (mk X w) v nb) (P:lg a<=274877906944) (O:lg nb<=274877906944):Calls Tryz.prog 211 #[u,v] w (a1Z X w NC (a*nb)):=by
 go_enter Tryz.func211,Tryz.ntmps211
 go_wp2_with fail
 refine(a3U E R).mono ?_;rintro e w1 ⟨d,Y,rfl,C⟩;go_wp2_with fail
 refine(a3U (E.ext d) (mkx NV.mono Q d)).mono ?_;rintro e W ⟨f,v1,rfl,L⟩;have K:=mkx NC.mono C f;obtain⟨bo,cb,b,rfl,U,c,q⟩:=L;have G:=E.ext (d.trans f);have a0:b.length<=274877906944:=by rw[c.len];exact O
 have s:=d.trans f;have A:=c.1;have F:=hid c.2.2;have Z:=q.hd;have l:=hid P;clear R Q C d f E O c P;go_wp2_with fail
 go_loopw [5,6] (fun o i wr=>∃(k:Nat),i= .int .i64 k/\k<=b.length/\NC (mk X wr) o (a*nv (b.take k))/\Ext W wr) (fun _ i _=>b.length - (intOf i).toNat)
 case atStart=>exact⟨0,rfl,by omega,by simpa[nv]using NC.zero _,ExtX.refl _⟩
 case round=>
  obtain⟨k,rfl,hk,N,p⟩:=hrel;have D:=G.ext p;by_cases n:k<b.length
  ·have h:=(q.mono (a0c.mono _) (a0l p)).nat k n
   have J:=A.get k n;obtain⟨x,m⟩:∃x,b[k]=x:=⟨_,rfl⟩;have H:Hid (a*nv (b.take k)+a*x*B^k=a*nv (b.take (k+1))):=hid (by rw[a0F b k n,m,Nat.mul_add,Nat.mul_assoc a x,Nat.mul_comm x]);rw[m]at h J;rw[a1n]at J;have M:Hid (lg (a*nv (b.take k))<=1099511627776):=hid (by
    have S:=a1b a (nv (b.take k));have V:lg (nv (b.take k))<=k:=a2T.2 (a1S A k);have:=l.out;omega)
   have y:Hid (lg (a*x*B^k)<=1099511627776):=hid (by
    have S:a*x*B^k<B^(lg a+1+k):=by
     rw[Nat.pow_add,Nat.pow_succ];refine Nat.mul_lt_mul_of_pos_right ?_ (Nat.pow_pos a2o);refine Nat.lt_of_le_of_lt (Nat.mul_le_mul_left _ (show x<=B by rw[a1n];omega)) (Nat.mul_lt_mul_of_pos_right (a2T.1 (Nat.le_refl _)) a2o)
    have V:=a2T.2 S;have:=l.out;omega)
   clear m;go_wp2_with (with_reducible refine a0q a0R (by omega) (by assumption) ?_)
   refine(b2U X wr Y a x k D (mkx NC.mono K p) (by have:=l.out;omega) (by omega) J).mono ?_;rintro e w4 ⟨j,t,rfl,T⟩;go_wp2_with fail
   refine(b5y (D.ext j) (mkx NV.mono (N.nv M.out) j) (T.nv y.out)).mono ?_;rintro e w5 ⟨I,t2,rfl,z⟩;rw[H.out]at z;go_wp2_with fail
   go_roundw
   case rel=>exact⟨k+1,by go_num,by omega,z,p.trans (j.trans I)⟩
   case measure=>simp[intOf];omega
  ·have r:k=b.length:=by omega
   have g:a*nv (b.take k)=a*nb:=by rw[r,List.take_length,F.out]
   rw[g]at N;clear g r;go_wp2_with fail
   go_ret
   exact⟨s.trans p,_,rfl,N⟩
end Go.Proofs.YtidbbddagfnfbaaGreat
namespace Go.Rep
open Go.RowKit Go.Lim
theorem NC.lit {X:Nat->Bool} {w:World} (d:HX X w) (x:Nat) (t:TypeId) (c:0<x) (e:x<4294967296):NC (mk X (w.alloc (.cells #[.int .u32 (x:Int)] t))) (.slice (some ⟨w.heap.size,0,none⟩) 1 1) x:=by
 have a:OL (a0c .u32) 1 X w.heap.size t (w.alloc (.cells #[.int .u32 (x:Int)] t)) (some ⟨w.heap.size,0,none⟩) 1 [x]:=
  OL.lit (a0c.elem .u32) d (Nat.le_refl _) [.int .u32 (x:Int)] [x] _ (by simp[a0i,Value.cells]) rfl (fun i hi b=>by
   have:i=0:=by simp at hi;omega
   subst this;rfl) (by simp)
 exact⟨_,1,[x],rfl,Nat.le_refl _,b0J c e,a.sl (a0c.elem _)⟩
end Go.Rep
namespace Go.Proofs.YtidbbddagfnfbaaGreat
open Go.RowKit Go.Rep Go.Lim
theorem c2s (X:Nat->Bool) (w:World) (u:Value) (n i:Nat) (F:NC (mk X w) u n) (hi:i<32*lg n) (E:lg n<=1099511627776):Calls Tryz.prog 299 #[u, .int .i64 i] w fun e z=>w=z/\e= .returned (.int .u32 (n/2^i%2:Nat)):=by
 obtain⟨ao,H,a,rfl,C,b,d⟩:=F;have h:i/32<a.length:=by rw[b.len];omega
 have A:a.length<=1099511627776:=by rw[b.len];exact E
 have c:=d.nat (i/32) h;have f:=c0e b i;rw[a0y h]at f;have j:=b.1.get (i/32) h;obtain⟨x,g⟩:∃x,a[i/32]=x:=⟨_,rfl⟩;rw[g]at c f j;rw[a1n]at j;have I:=d.hd;have o:=hid f;have k:Hid (x<4294967296):=hid j;have B:(i:Int)<=35184372088832:=by omega
 have G:(i:Int)/32=((i/32:Nat):Int):=by omega
 have D:(i:Int)%32=((i%32:Nat):Int):=by omega
 have r:Hid (i%32<32):=hid (Nat.mod_lt _ (by decide));obtain⟨p,t⟩:∃p,i/32=p:=⟨_,rfl⟩;obtain⟨q,s⟩:∃q,i%32=q:=⟨_,rfl⟩;rw[t]at G h c;rw[s]at D r;have y:q<32:=r.out;have l:Hid (x/2^q%2=n/2^i%2):=hid (by rw[<-s];exact f);clear g f t s o r b j d;go_enter Tryz.func299,Tryz.ntmps299
 go_wp2_with (with_reducible refine a0q a0R (by omega) (by assumption) ?_)
 go_ret
 have m:x/2^q<4294967296:=Nat.lt_of_le_of_lt (Nat.div_le_self _ _) k.out;have v:=a2B (x/2^q) 1 m (by omega);rw[Nat.and_one_is_mod,l.out]at v;exact⟨rfl,a0P (by simpa using v)⟩
theorem a9N (X:Nat->Bool) (w:World) (u:Value) (n t:Nat) (m:HX X w) (o:NC (mk X w) u n) (r:lg n<=549755813887) (s:t<=1):Calls Tryz.prog 298 #[u, .int .u32 t] w (a1Z X w NC (2*n+t)):=by
 have j:Hid (lg (n*2*B^0)<=1099511627776):=hid (by
  have z:=a1b n 2;have q:lg 2=1:=a3e (by omega) (by omega);rw[Nat.pow_zero,Nat.mul_one];omega)
 have h:Hid (lg 1<=1099511627776):=hid (by rw[a3D];decide);have d:Hid (n*2*B^0=2*n):=hid (by rw[Nat.pow_zero,Nat.mul_one,Nat.mul_comm]);go_enter Tryz.func298,Tryz.ntmps298
 go_wp2_with fail
 refine(b2U X w u n 2 0 m o (by omega) (by omega) (by omega)).mono ?_;rintro e l ⟨a,y,rfl,b⟩;have f:=m.ext a;rcases(by omega:t=0\/t=1)with rfl|rfl
 ·rw[d.out]at b
  go_wp2_with fail
  go_ret
  exact⟨a,_,rfl,b⟩
 ·go_wp2_with fail
  have p:=NC.lit f 1 147 (by omega) (by omega);have k:=a.alloc (.cells #[.int .u32 ((1:Nat):Int)] 147);have c:Ext l (l.alloc (.cells #[.int .u32 ((1:Nat):Int)] 147)):=(ExtX.refl l).alloc _;refine(b5y (f.ext c) (mkx NV.mono (b.nv j.out) c) (p.nv h.out)).mono ?_;rintro e x ⟨i,v,rfl,g⟩;rw[d.out]at g;go_wp2_with fail
  go_ret
  exact⟨k.trans i,_,rfl,g⟩
theorem c0g (X:Nat->Bool) (w:World) (u v:Value) (na nb:Nat) (hX:HX X w) (hu:NV (mk X w) u na) (hv:NV (mk X w) v nb) (h1:lg na<=274877906944) (h2:lg nb<=274877906944) (h0:0<nb):Calls Tryz.prog 249 #[u,v] w (c1Z X w (na/nb) (na%nb)):=by
 go_enter Tryz.func249,Tryz.ntmps249
 go_wp2_with fail
 refine(a3U hX hu).mono ?_;rintro e w1 ⟨hE1,u1,rfl,hu1⟩;go_wp2_with fail
 refine(a3U (hX.ext hE1) (mkx NV.mono hv hE1)).mono ?_;rintro e w2 ⟨hE2,v1,rfl,hv1⟩;have hu2:=mkx NC.mono hu1 hE2;obtain⟨ao,ca,a,rfl,hca,hcan,hsa⟩:=id hu2;obtain⟨bo,cb,b,rfl,hcb,hcbn,hsb⟩:=id hv1;have hX2:=hX.ext (hE1.trans hE2);have hal:a.length<=274877906944:=by rw[hcan.len];exact h1
 have hall:=hid hcan.len;have hE12:=hE1.trans hE2;have hbl:¬b.length=0:=by have:=a1o hcbn;omega
 have hbI:(0:Int)<(b.length:Int):=by omega
 have hbz:((b.length:Int)==0)=false:=a2w (by omega);have hst:Hid (a2Y na nb 0 0 (32*a.length)):=hid (a2Y.start (by rw[<-b5g,hcan.len];exact a2T.1 (Nat.le_refl _)));have h1':=hid h1;have h2':=hid h2;have h0':=hid h0;clear hu hv hu1 hE1 hE2 hX h1 h2 h0 hcan hcbn hsa hsb hbl hca hcb;go_wp2_with fail
 go_loopw [7,8,9] (fun q r i wr=>∃(k Q R:Nat) (x:Int),i= .int .i64 x/\x=(k:Int) - 1/\k<=32*a.length/\Hid (a2Y na nb Q R k)/\NC (mk X wr) q Q/\NC (mk X wr) r R/\Ext w2 wr) (fun _ _ i _=>(intOf i+1).toNat)
 case atStart=>exact⟨32*a.length,0,0,_,rfl,by omega,by omega,hst,NC.zero _,NC.zero _,ExtX.refl _⟩
 case round=>
  obtain⟨k,Q,R,x,rfl,hx,hk,hinv,hq,hr,hE⟩:=hrel;have hX3:=hX2.ext hE;cases k with
  |zero=>
   obtain rfl:x= -1:=by omega
   obtain⟨rfl,rfl⟩:=hinv.out.done;clear hinv hx hst;go_wp2_with fail
   go_ret3
   exact⟨hE12.trans hE,_,_,rfl,hq,hr⟩
  |succ i=>
   obtain rfl:x=(i:Int):=by omega
   have hi:i<32*lg na:=by rw[<-hall.out];omega
   obtain⟨t,ht⟩:∃t,na/2^i%2=t:=⟨_,rfl⟩;have ht1:t<=1:=by omega
   obtain⟨hR,hs1,hs2⟩:=hinv.out.step h0'.out ht;have hQb:Hid (lg Q<=274877906944):=hid (by
    have e1:Q<=na:=by rw[hinv.out.1];exact Nat.le_trans (Nat.div_le_self _ _) (Nat.div_le_self _ _)
    exact Nat.le_trans (a1i e1) h1'.out)
   have hRb:Hid (lg R<=274877906944):=hid (Nat.le_trans (a1i (Nat.le_of_lt hR)) h2'.out);have hRb2:Hid (lg (2*R+t)<=1099511627776):=hid (by
    have e1:=b0I (2*R) t;have e2:=a1b 2 R;have e3:lg 2=1:=a3e (by omega) (by omega);have e4:lg t<=1:=by have:=a1i ht1;rw[a3D]at this;exact this
    have:=hRb.out;omega)
   have hs1':=hid hs1;have hs2':=hid hs2;have hbit:=c2s X wr _ na i (mkx NC.mono hu2 hE) hi (by have:=h1'.out;omega);rw[ht]at hbit;clear hinv hR hs1 hs2 hst ht hi hx;go_wp2_with fail
   refine hbit.mono ?_;rintro e w' ⟨rfl,rfl⟩;go_wp2_with fail
   refine(a9N X wr _ R t hX3 hr (by have:=hRb.out;omega) ht1).mono ?_;rintro e w4 ⟨hE4,r1,rfl,hr1⟩;have hX4:=hX3.ext hE4;have hq4:=mkx NC.mono hq hE4;have hb4:=(mkx NC.mono hv1 (hE.trans hE4)).nv (by have:=h2'.out;omega);clear hbit;go_wp2_with fail
   refine(b8y X w4 r1 _ (2*R+t) nb hX4 (hr1.nv hRb2.out) hb4).mono ?_;rintro e w5 ⟨hE5,d,rfl,hd⟩;have hX5:=hX4.ext hE5;have hq5:=mkx NC.mono hq4 hE5;by_cases hge:nb<=2*R+t
   ·have hi2:=hid (hs2'.out hge)
    have hdt:decide (nb<=2*R+t)=true:=decide_eq_true hge;rw[hdt];clear hge hdt;go_wp2_with fail
    refine(a9N X w5 _ Q 1 hX5 hq5 (by have:=hQb.out;omega) (by omega)).mono ?_;rintro e w6 ⟨hE6,q1,rfl,hq1⟩;go_wp2_with fail
    go_roundw
    case rel=>exact⟨i,_,_,_,rfl,rfl,by omega,hi2,hq1,mkx NC.mono hd hE6,hE.trans (hE4.trans (hE5.trans hE6))⟩
    case measure=>simp[intOf]
   ·have hi2:=hid (hs1'.out (by omega))
    have hdt:decide (nb<=2*R+t)=false:=decide_eq_false hge;rw[hdt];clear hge hdt;go_wp2_with fail
    refine(a9N X w5 _ Q 0 hX5 hq5 (by have:=hQb.out;omega) (by omega)).mono ?_;rintro e w6 ⟨hE6,q1,rfl,hq1⟩;go_wp2_with fail
    go_roundw
    case rel=>exact⟨i,_,_,_,rfl,rfl,by omega,hi2,hq1,mkx NC.mono hr1 (hE5.trans hE6),hE.trans (hE4.trans (hE5.trans hE6))⟩
    case measure=>simp[intOf]
theorem c0h (X:Nat->Bool) (w:World) (u v:Value) (o nb:Nat) (K:HX X w) (hu:NV (mk X w) u o) (hv:NV (mk X w) v nb) (h1:lg o<=274877906944) (h2:lg nb<=274877906944):Calls Tryz.prog 248 #[u,v] w (a1Z X w NC (Nat.gcd o nb)):=by
 go_enter Tryz.func248,Tryz.ntmps248
 go_wp2_with fail
 refine(a3U K hu).mono ?_;rintro e w1 ⟨c,u1,rfl,J⟩;go_wp2_with fail
 refine(a3U (K.ext c) (mkx NV.mono hv c)).mono ?_;rintro e w2 ⟨g,v1,rfl,m⟩;have I:=mkx NC.mono J g;have Q:=K.ext (c.trans g);have C:=c.trans g;have S:=hid h1;have R:=hid h2;clear hu hv J c g K h1 h2;go_wp2_with fail
 go_loopw [0,1] (fun x y wr=>∃(p q:Nat) (F:Option Addr) (l s:Nat),y= .slice F l s/\NC (mk X wr) x p/\NC (mk X wr) (.slice F l s) q/\Hid (lg p<=274877906944)/\Hid (lg q<=274877906944)/\Hid (Nat.gcd p q=Nat.gcd o nb)/\Ext w2 wr) (fun _ y W=>c1p W y)
 case atStart=>
  obtain⟨F,s,b,rfl,_⟩:=id m;exact⟨o,nb,F,_,s,rfl,I,m,S,R,hid rfl,ExtX.refl _⟩
 case round=>
  obtain⟨p,q,F,l,s,rfl,U,P,M,L,Z,N⟩:=hrel;have Y:=Q.ext N;obtain⟨a1,a0,b,H,O,k,A⟩:=id P;simp only[Value.slice.injEq]at H;obtain⟨rfl,rfl,rfl⟩:=H;have t:=a1o k;have j:=a5y s A;rw[k.2.2]at j;have h:=hid j;clear j k A O I m;by_cases hl:0<b.length
  ·have a:0<q:=by omega
   have V:(0:Int)<(b.length:Int):=by omega
   have T:Hid (Nat.gcd q (p%q)=Nat.gcd o nb):=hid (by rw[Nat.gcd_comm,<-Nat.gcd_rec,Nat.gcd_comm];exact Z.out);have G:=hid (Nat.mod_lt p a);have D:=hid a;have hr:Hid (lg (p%q)<=274877906944):=hid (Nat.le_trans (a1i (Nat.le_of_lt G.out)) L.out);clear t a;go_wp2_with fail
   refine(c0g X wr _ _ p q Y (U.nv (by have:=M.out;omega)) (P.nv (by have:=L.out;omega)) M.out L.out D.out).mono ?_;rintro e w4 ⟨z,d,r,rfl,hd,E⟩;obtain⟨ro,cr,rl,rfl,i⟩:=id E;have n:=a5y cr i.2.2;rw[i.2.1.2.2]at n;have B:=hid n;clear n i;go_wp2_with fail
   go_roundw
   case rel=>exact⟨q,p%q,ro,_,cr,rfl,mkx NC.mono P z,E,L,hr,T,N.trans z⟩
   case measure=>rw[B.out,h.out];exact G.out
  ·have a:q=0:=by omega
   have f:=Z.out;rw[a,Nat.gcd_zero_right]at f;have V:((b.length:Int))=0:=by omega
   rw[f]at U;clear f a t Z M h;go_wp2_with fail
   go_ret
   exact⟨C.trans N,_,rfl,U⟩
theorem b5A {α:Type} {a b:List α} (h:a.length=b.length) (c:∀i,(h1:i<a.length)->(h2:i<b.length)->a[i]=b[i]):a=b:=List.ext_getElem h c
theorem b1I {a b:List Nat} {i:Nat} (h:∀p,p<i->∀(c:p<a.length) (e:p<b.length),a[p]=b[p]) (j:∀(c:i<a.length) (e:i<b.length),a[i]=b[i]):Hid (∀p,p<i+1->∀(c:p<a.length) (e:p<b.length),a[p]=b[p]):=hid fun p c g f=>by
 by_cases d:p=i
 ·subst d;exact j g f
 ·exact h p (by omega) g f
theorem b7j {w wr:World} (h:Hid (∃m,wr=w.drewN m)) (n:Nat):∃m,wr.drewN n=w.drewN m:=by
 obtain⟨m,rfl⟩:=h;exact⟨_,World.drewN_drewN _ _ _⟩
theorem b7k (X:Nat->Bool) (w:World) (u v:Value) (D nb:Nat) (Y:NC (mk X w) u D) (o:NC (mk X w) v nb) (E:lg D<=1099511627776):Calls Tryz.prog 94 #[u,v] w fun e S=>e= .returned (.bool (decide (D=nb)))/\∃m,S=w.drewN m:=by
 obtain⟨ao,R,a,rfl,I,f,t⟩:=Y;obtain⟨K,Q,b,rfl,G,g,s⟩:=o;have a0:a.length<=1099511627776:=by rw[f.len];exact E
 have J:=t.hd;have O:=s.hd;have n:Hid (decide (D=nb)=(a==b)):=hid (by
  rw[Bool.eq_iff_iff];simp only[decide_eq_true_eq,beq_iff_eq];constructor
  ·intro h;subst h;exact f.unique g
  ·intro h;subst h;exact f.2.2.symm.trans g.2.2)
 clear E I G f g;by_cases d:a.length=b.length
 ·have a1:b.length<=a.length:=by omega
  have T:a.length<=b.length:=by omega
  have F:((a.length:Int) !=b.length)=false:=a6q (by omega);have k:=hid d;clear d;go_enter Tryz.func94,Tryz.ntmps94
  go_wp2_with fail
  go_loopw [5] (fun c wr=>∃i:Nat,c= .int .i64 i/\i<=a.length/\Hid (∀p,p<i->∀(C:p<a.length) (N:p<b.length),a[p]=b[p])/\∃m,wr=w.drewN m) (fun c _=>a.length - (intOf c).toNat)
  case atStart=>exact⟨0,rfl,Nat.zero_le _,hid fun p C=>by omega,0,rfl⟩
  case round=>
   obtain⟨i,rfl,hi,z,l⟩:=hrel;have q:Hid (∃m,wr=w.drewN m):=hid l;have P:Ext w wr:=by
    obtain⟨m,Z⟩:=l;rw[Z];exact(ExtX.refl w).drewN m
   clear l;by_cases L:i<a.length
   ·have r:i<b.length:=by omega
    have U:=(t.mono (a0c.mono _) (a0l P)).nat i L;have c2:=(s.mono (a0c.mono _) (a0l P)).nat i r;have i1:∀W,(Instr.indexAt 41 (.slice ao a.length R) (.int .i64 (i:Int))).run Tryz.prog W= .ok (.pointer (some (adr ao i))) W:=a0z a0R ao a.length R .i64 i J (by omega) rfl;have i2:∀W,(Instr.indexAt 41 (.slice K b.length Q) (.int .i64 (i:Int))).run Tryz.prog W= .ok (.pointer (some (adr K i))) W:=a0z a0R K b.length Q .i64 i O (by omega) rfl;obtain⟨x,M⟩:∃x,a[i]=x:=⟨_,rfl⟩;obtain⟨y,H⟩:∃y,b[i]=y:=⟨_,rfl⟩;rw[M]at U;rw[H]at c2;have A:=hid M;have B:=hid H;clear M H;by_cases j:x=y
    ·have E:Hid (∀(C:i<a.length) (N:i<b.length),a[i]=b[i]):=hid fun _ _=>by rw[A.out,B.out,j]
     have V:((x:Int) !=y)=false:=a6q (by omega);clear j;go_wp2_with fail
     go_quiet (fail)
     go_wp2_with fail
     go_roundw
     case rel=>exact⟨i+1,by go_num,by omega,b1I z.out E.out,b7j q _⟩
     case measure=>simp[intOf];omega
    ·have o:Hid ((a==b)=false):=hid (by
      cases h:a==b
      ·rfl
      ·have:=eq_of_beq h;subst this;exact absurd (A.out.symm.trans B.out) j)
     have V:((x:Int) !=y)=true:=a6X (by omega);clear j;go_wp2_with fail
     go_quiet (fail)
     go_wp2_with fail
     go_ret
     exact⟨a0j (o.out.symm.trans n.out.symm),b7j q _⟩
   ·have o:Hid ((a==b)=true):=hid (by rw[b5A k.out fun p C N=>z.out p (by omega) C N];simp)
    go_wp2_with fail
    go_ret
    exact⟨a0j (o.out.symm.trans n.out.symm),q.out⟩
 ·have F:((a.length:Int) !=b.length)=true:=a6X (by omega)
  have o:Hid ((a==b)=false):=hid (by
   cases h:a==b
   ·rfl
   ·have:=eq_of_beq h;subst this;exact absurd rfl d)
  clear d;go_enter Tryz.func94,Tryz.ntmps94
  go_wp2_with fail
  go_ret
  exact⟨a0j (o.out.symm.trans n.out.symm),0,rfl⟩
end Go.Proofs.YtidbbddagfnfbaaGreat
namespace Go.Rep
open Go.RowKit
def Bx (w:World) (b:Nat) (cs:Array Value) (T:TypeId):Prop:=w.heap[b]? =some (.cells cs T (0,0))
theorem Bx.lt {w:World} {b:Nat} {a:Array Value} {T:TypeId} (h:Bx w b a T):b<w.heap.size:=(Array.getElem?_eq_some_iff.1 h).1
theorem Bx.cell {w:World} {b:Nat} {a:Array Value} {T:TypeId} (h:Bx w b a T) (i:Nat) {u:Value} (c:a[i]? =some u):w.cell? ⟨b,i,none⟩=some u:=by
 unfold Bx at h;unfold World.cell?;rw[h];simpa using c
theorem Bx.frozen {w:World} {b:Nat} {a:Array Value} {T:TypeId} (h:Bx w b a T) (i:Nat):w.frozen? ⟨b,i,none⟩=false:=by
 unfold Bx at h;unfold World.frozen?;rw[h];simp
theorem Bx.ext {Y:Nat->Bool} {w a:World} {b:Nat} {c:Array Value} {T:TypeId} (h:Bx w b c T) (e:ExtX Y w a) (d:Y b=false):Bx a b c T:=by
 unfold Bx;rw[e.block b h.lt d];exact h
theorem Bx.ext0 {w a:World} {b:Nat} {c:Array Value} {T:TypeId} (h:Bx w b c T) (d:Ext w a):Bx a b c T:=h.ext d rfl
theorem Bx.new (w:World) (a:Array Value) (T:TypeId):Bx (w.alloc (.cells a T)) w.heap.size a T:=heap_alloc_new w _
theorem a9O (g:Nat):ob (some ⟨g,0,none⟩) g=true:=by simp[ob]
theorem a0b {g k:Nat} (h:k≠g):ob (some ⟨g,0,none⟩) k=false:=by
 cases a:ob (some ⟨g,0,none⟩) k
 ·rfl
 ·have e:g=k:=by simpa[ob]using a
  exact absurd e.symm h
theorem a0J {w:World} {b i:Nat} {c:Array Value} {T:TypeId} (h:Bx w b c T) (v:Value) (hi:i<c.size):Bx (w.setCell ⟨b,i,none⟩ v) b (c.set i v) T/\ExtX (ob (some ⟨b,0,none⟩)) w (w.setCell ⟨b,i,none⟩ v):=by
 unfold Bx at*;have f:b<w.heap.size:=(Array.getElem?_eq_some_iff.1 h).1;refine⟨?_,⟨rfl,rfl,rfl,?_,?_⟩⟩
 ·simp only[World.setCell,Array.getElem?_modify,if_true,h,Option.map_some]
  simp[hi,Array.setIfInBounds]
 ·simp[World.setCell]
 ·intro k _ d
  have a:b≠k:=fun e=>by subst e;rw[a9O]at d;simp at d
  simp only[World.setCell,Array.getElem?_modify,if_neg a]
theorem Bx.set2 {w:World} {b:Nat} {d g:Value} {T:TypeId} (h:Bx w b #[d,g] T) (v0 v1:Value):Bx ((w.setCell ⟨b,0,none⟩ v0).setCell ⟨b,1,none⟩ v1) b #[v0,v1] T/\ExtX (ob (some ⟨b,0,none⟩)) w ((w.setCell ⟨b,0,none⟩ v0).setCell ⟨b,1,none⟩ v1):=by
 obtain⟨f,c⟩:=a0J h v0 (i:=0) (by simp);obtain⟨e,a⟩:=a0J f v1 (i:=1) (by simp);exact⟨by simpa using e,c.trans a⟩
theorem Bx.set3 {w:World} {b:Nat} {j f e:Value} {T:TypeId} (h:Bx w b #[j,f,e] T) (v0 v1 v2:Value):Bx (((w.setCell ⟨b,0,none⟩ v0).setCell ⟨b,1,none⟩ v1).setCell ⟨b,2,none⟩ v2) b #[v0,v1,v2] T/\ExtX (ob (some ⟨b,0,none⟩)) w (((w.setCell ⟨b,0,none⟩ v0).setCell ⟨b,1,none⟩ v1).setCell ⟨b,2,none⟩ v2):=by
 obtain⟨l,d⟩:=a0J h v0 (i:=0) (by simp);obtain⟨k,c⟩:=a0J l v1 (i:=1) (by simp);obtain⟨a,g⟩:=a0J k v2 (i:=2) (by simp);exact⟨by simpa using a,(d.trans c).trans g⟩
section
variable {P:Program} {ops:Array Oper} {Q:Exit->Act->World->Prop} {rest:List Oper} {a:Act} {w:World}
variable {d:Option Tmp} {ty:TypeId} {ps:String} {af:Array Edge}
theorem a5N {t:TypeId} {n b:Nat} {d a:Array Value} {T:TypeId} (l:a1D P t n) (j:Bx w b d T) (g:d.size=n) (c:a.size=n) (h:∀v∈a.toList,v.oneCell'=true):
  ∃i,(storeVar t ⟨b,0,none⟩ (.agg a)).run P w= .ok () i/\Bx i b a T/\ExtX (ob (some ⟨b,0,none⟩)) w i:=by
 obtain⟨s,r,u,o,q⟩:=l;have f:=run_storeCells_at P b 0 T a.toList 0 d w j (by simp[g,c]) h;refine⟨w.setRow b (d.toList.take (0+0)++a.toList++d.toList.drop (0+0+a.toList.length)).toArray,?_,?_,?_⟩
 rotate_left
 ·unfold Bx
  have:=setRow_heap w b d (d.toList.take (0+0)++a.toList++d.toList.drop (0+0+a.toList.length)).toArray T (0,0) j;rw[this]
  congr 2
  have e:d.toList.drop (0+0+a.toList.length)= []:=List.drop_of_length_le (by simp[c,g]);rw[e];simp
 ·exact⟨rfl,rfl,rfl,by simp,fun k _ m=>setRow_other w b k _ (fun p=>by subst p;simp[ob]at m)⟩
 ·simp[storeVar,sizeOf,typeInfo,o,q,Value.cells,c]
  simp only[Nat.zero_add,Array.length_toList,List.take_zero,List.nil_append,c]at f |-;exact f
theorem a0a {t:TypeId} {x y:Operand} {n b:Nat} {j f:Array Value} {T:TypeId} (k:a1D P t n) (m:a.eval x= .pointer (some ⟨b,0,none⟩)) (p:a.eval y= .agg f) (o:Bx w b j T) (g:j.size=n) (i:f.size=n) (e:∀v∈f.toList,v.oneCell'=true)
  (K:∀c,Bx c b f T->ExtX (ob (some ⟨b,0,none⟩)) w c->wpList P ops Q rest (a.put d undef) c):
  wpList P ops Q (⟨d, .store t x y,ty,ps,af,none⟩::rest) a w:=by
 refine wpList_plain rfl fun s h=>?_;obtain⟨c,q,r,l⟩:=a5N (P:=P) k o g i e;unfold Oper.wp;simp[execOp,m,p,Instr.storeAt,Instr.sureAddr,q,Result.andThen];exact h _ _ (K c r l)
theorem a2b {t:TypeId} {n b:Nat} {a:Array Value} {T:TypeId} (f:a1D P t n) (g:Bx w b a T) (d:a.size=n):(loadVar t ⟨b,0,none⟩).run P w= .ok (.agg a) w:=by
 obtain⟨o,m,k,h,i⟩:=f;have e:=run_loadCells_list (P:=P) w ⟨b,0,none⟩ a.toList (fun j v l=>by
  rw[Addr.add_lit,Nat.zero_add];exact g.cell j (by simpa using l))
 have c:a.toList.length=n:=by simpa using d
 rw[c]at e;simp[loadVar,isAgg,run_underlying k,sizeOf,typeInfo,h,i,e]
theorem a3i {t:TypeId} {x:Operand} {n b:Nat} {e:Array Value} {T:TypeId} (h:a1D P t n) (j:a.eval x= .pointer (some ⟨b,0,none⟩)) (i:Bx w b e T) (f:e.size=n)
  (K:wpList P ops Q rest (a.put d (.agg e)) w):
  wpList P ops Q (⟨d, .load t x,ty,ps,af,none⟩::rest) a w:=by
 refine wpList_plain rfl fun k c=>?_;have g:=a2b (P:=P) h i f;unfold Oper.wp;simp[execOp,j,Instr.loadAt,Instr.sureAddr,g,Result.andThen];exact c _ _ K
theorem a0d {g:Func} {a:Array Value} {c:Tmp} {t:TypeId} {n b:Nat} {d:Array Value} {T:TypeId} (h:g.results=#[.cell c t]) (f:a.getD c undef= .pointer (some ⟨b,0,none⟩)) (j:a1D P t n) (k:Bx w b d T) (e:d.size=n):
  (results g a).run P w= .ok (.agg d) w:=by
 have i:=a2b (P:=P) j k e;rw[Array.getD_eq_getD_getElem?]at f;simp[results,h,f,asAddr,i]
theorem a1x {i:Func} {a:Array Value} {c d:Tmp} {t:TypeId} {n b:Nat} {e:Array Value} {T:TypeId} (h:i.results=#[.cell c t, .tmp d]) (g:a.getD c undef= .pointer (some ⟨b,0,none⟩)) (k:a1D P t n) (l:Bx w b e T) (f:e.size=n):
  (results i a).run P w= .ok (.tuple #[.agg e,a.getD d undef]) w:=by
 have j:=a2b (P:=P) k l f;rw[Array.getD_eq_getD_getElem?]at g;simp[results,h,g,asAddr,j]
end
theorem a1g (w:World) (x:Array Value) (T:TypeId):∃W,w.alloc (.cells x T)=W/\Ext w W/\Bx W w.heap.size x T/\W.heap.size=w.heap.size+1:=
 ⟨_,rfl,(ExtX.refl w).alloc _,Bx.new w _ _,by simp⟩
theorem a1v (w:World) (x y:Array Value) (T U:TypeId):∃W,(w.alloc (.cells x T)).alloc (.cells y U)=W/\Ext w W/\Bx W w.heap.size x T/\Bx W (w.heap.size+1) y U/\W.heap.size=w.heap.size+2:=by
 obtain⟨W,f,c,e,b⟩:=a1g w x T;obtain⟨V,g,a,d,h⟩:=a1g W y U;exact⟨V,by rw[f,g],c.trans a,e.ext0 a,by rw[<-b];exact d,by omega⟩
theorem a2D (w:World) (x y z:Array Value) (T U S:TypeId):∃W,((w.alloc (.cells x T)).alloc (.cells y U)).alloc (.cells z S)=W/\Ext w W/\Bx W w.heap.size x T/\Bx W (w.heap.size+1) y U/\Bx W (w.heap.size+1+1) z S/\W.heap.size=w.heap.size+3:=by
 obtain⟨W,g,d,f,b,c⟩:=a1v w x y T U;obtain⟨V,h,a,e,i⟩:=a1g W z S;exact⟨V,by rw[g,h],d.trans a,f.ext0 a,b.ext0 a,by rw[<-c];exact e,by omega⟩
theorem c0i (w:World) (x y z u:Array Value) (T U S R:TypeId):∃W,(((w.alloc (.cells x T)).alloc (.cells y U)).alloc (.cells z S)).alloc (.cells u R)=W/\Ext w W/\Bx W w.heap.size x T/\Bx W (w.heap.size+1) y U/\Bx W (w.heap.size+1+1) z S/\Bx W (w.heap.size+1+1+1) u R/\W.heap.size=w.heap.size+4:=by
 obtain⟨W,h,d,g,b,f,c⟩:=a2D w x y z T U S;obtain⟨V,i,a,e,j⟩:=a1g W u R;exact⟨V,by rw[h,i],d.trans a,g.ext0 a,b.ext0 a,f.ext0 a,by rw[<-c];exact e,by omega⟩
end Go.Rep
